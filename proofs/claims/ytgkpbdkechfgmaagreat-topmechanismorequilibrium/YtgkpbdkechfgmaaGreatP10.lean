/- Texts L15 to L40: lemmas, each with its conditions. -/
import Derived.Test.YtgkpbdkechfgmaaGreatP9
namespace Go.Ex
variable{M:List (List Rat)}{r:List Rat}{P:List Rat->Prop}{w:Nat}{φ:Nat->Rat}
theorem rF{c:Nat}(h:c<w):(r.take w).getD c 0=r.getD c 0:=by
 simp only[List.getD,List.getElem?_take,if_pos h]
def tk(w:Nat)(M:List (List Rat)):List (List Rat):=M.map (·.take w)
theorem CD(w:Nat)(M:List (List Rat)):(tk w M).length=M.length:=aL ..
theorem tZ(w:Nat)(M:List (List Rat))(i:Nat):(tk w M).getD i []=(M.getD i []).take w:=by
 unfold tk;simp only[List.getD,aM]
 cases M[i]? <;>simp
theorem zH{i c:Nat}(h:c<w):dK (tk w M) i c=dK M i c:=by
 unfold dK;rw[tZ,rF h]
theorem fR(M:List (List Rat))(cols:Nat):(cN M cols).1.length=M.length:=by
 have key:∀(l:List Nat) (s:List (List Rat)×List Nat),(l.foldl dX s).1.length=s.1.length:=by
  intro l
  induction l with
  |nil=>exact fun s=>rfl
  |cons c l ih=>exact fun s=>by rw[List.foldl_cons,ih,lA]
 exact key _ _
theorem Eo{M:List (List Rat)}{w c:Nat}(h:c<w):∀f k,fy (tk w M) c f k=fy M c f k
 |0,k=>rfl
 |f+1,k=>by unfold fy;rw[zH h,Eo h f (k+1)]
theorem KV(w:Nat)(M:List (List Rat))(i j:Nat):fc [] (tk w M) i j=tk w (fc [] M i j):=by
 unfold fc;rw[tZ,tZ];unfold tk;rw[List.map_set,List.map_set]
theorem JA{a c:Nat}(h:c<w):scaled (tk w M) a c=tk w (scaled M a c):=by
 unfold scaled;rw[tZ,zH h];unfold tk;rw[List.map_set,List.map_take]
theorem Gk{a c i:Nat}(h:c<w):df (tk w M) a c i=tk w (df M a c i):=by
 refine bH fun j=>?_;have hP:=tZ w M a;unfold df;rw[hP];unfold tk;simp only[List.getElem?_mapIdx,aM]
 cases M[j]? with
 |none=>rfl
 |some r=>
  simp only[bf]
  by_cases hj:j<i∧j≠a
  ·rw[if_pos hj,if_pos hj];congr 1;refine bH fun k=>?_;rw[List.getElem?_mapIdx,List.getElem?_take,List.getElem?_take,List.getElem?_mapIdx,rF h];by_cases hk:k<w
   ·rw[if_pos hk,if_pos hk]
    cases r[k]? with
    |none=>rfl
    |some q=>simp only[bf,pO,rF hk]
   ·rw[aJ hk,aJ hk];rfl
  ·rw[aJ hj,aJ hj]
theorem KW{s:List (List Rat)×List Nat}{c:Nat}(h:c<w):dX (tk w s.1,s.2) c=(tk w (dX s c).1,(dX s c).2):=by
 unfold dX;simp only[CD,Eo h]
 split
 ·split
  ·rfl
  ·rw[KV,JA h,Gk h,CD]
 ·rfl
theorem zI{M:List (List Rat)}{w:Nat}:∀cols,cols<=w->cN (tk w M) cols=(tk w (cN M cols).1,(cN M cols).2)
 |0,_=>rfl
 |c+1,h=>by
  have ih:=zI (M:=M) (w:=w) c (by omega);unfold cN at ih ⊢;rw[bS,List.foldl_append,List.foldl_append,ih];exact KW (s:=(List.range c).foldl dX (M,[])) (w:=w) (c:=c) (by omega)
def mu:List Rat->(Nat->Rat)->Rat
 |[],_=>0
 |a::r,φ=>a*φ 0+mu r fun j=>φ (j+1)
theorem CE(k:Rat):∀(r:List Rat) (φ:Nat->Rat),mu (r.map (· *k)) φ=mu r φ*k
 |[],_=>(bI k).symm
 |a::r,φ=>by
  show a*k*φ 0+mu (r.map (· *k)) _=(a*φ 0+mu r _)*k;rw[CE k r,Rat.add_mul,Rat.mul_assoc,bs k,<-Rat.mul_assoc]
theorem Hv(p:Rat):∀(r s:List Rat) (φ:Nat->Rat),r.length=s.length->mu (r.mapIdx (pO p s)) φ=mu r φ+p*mu s φ
 |[],[],_,_=>by show(0:Rat)=0+p*0;rw[bD,Rat.zero_add]
 |a::r,b::s,φ,h=>by
  rw[List.mapIdx_cons];show(a+p*b)*φ 0+mu (r.mapIdx (pO p s)) _=(a*φ 0+mu r _)+p*(b*φ 0+mu s _)
  rw[Hv p r s _ (by simpa using h),Rat.add_mul,Rat.mul_add,Rat.mul_assoc];rw[Rat.add_assoc,Rat.add_assoc,<-Rat.add_assoc (p*_),Rat.add_comm (p*_),Rat.add_assoc]
theorem zJ:∀(r s:List Rat) (φ:Nat->Rat),mu (r++s) φ=mu r φ+mu s fun j=>φ (r.length+j)
 |[],s,φ=>by show _=0+_;rw[Rat.zero_add];simp
 |a::r,s,φ=>by
  show a*φ 0+mu (r++s) _=a*φ 0+mu r _+_;rw[zJ r s,Rat.add_assoc];have:(fun j=>φ (r.length+j+1))=fun j=>φ ((a::r).length+j):=funext fun j=>by rw[List.length_cons];congr 1;omega
  rw[this]
theorem Ep:∀(r:List Rat),mu r (fun _=>0)=0
 |[]=>rfl
 |a::r=>by show a*0+mu r _=0;rw[Ep r,bD,Rat.zero_add]
theorem Hw:∀(r:List Rat) (c:Nat),mu r (fun t=>if t=c then 1 else 0)=r.getD c 0
 |[],c=>rfl
 |a::r,0=>by
  show a*1+mu r _=a;have:(fun j:Nat=>if j+1=0 then(1:Rat)else 0)=fun _=>0:=funext fun j=>aJ (by omega);rw[this,Ep,Rat.mul_one,bQ]
 |a::r,c+1=>by
  show a*0+mu r _=r.getD c 0;have:(fun j:Nat=>if j+1=c+1 then(1:Rat)else 0)=fun j=>if j=c then 1 else 0:=funext fun j=>by simp
  rw[this,Hw r c,bD,Rat.zero_add]
theorem vP{φ ψ:Nat->Rat}:∀(r:List Rat),(∀j,j<r.length->φ j=ψ j)->mu r φ=mu r ψ
 |[],_=>rfl
 |a::r,h=>by
  show a*φ 0+mu r _=a*ψ 0+mu r _;rw[h 0 (by simp),vP r fun j hj=>h (j+1) (by simpa using hj)]
theorem Hx:∀(r:List Rat) (φ:Nat->Rat),mu r (fun j=> -φ j)= -mu r φ
 |[],_=>rfl
 |a::r,φ=>by
  show a* -φ 0+mu r _= -(a*φ 0+mu r _)
  rw[Hx r fun j=>φ (j+1),Rat.mul_neg,Rat.neg_add]
theorem sX{M:List (List Rat)}{c:Nat}:∀f k j,k<=j->j<fy M c f k->dK M j c=0
 |0,k,j,h1,h2=>by simp only[fy]at h2;omega
 |f+1,k,j,h1,h2=>by
  unfold fy at h2;split at h2
  ·rename_i h0;rcases aS k j with h|h
   ·exact sX f (k+1) j h h2
   ·rw[show j=k by omega];exact h0
  ·omega
theorem jf{s:List (List Rat)×List Nat}(c:Nat)(hle:s.2.length<=s.1.length):(dX s c=s∧∀j,s.2.length<=j->j<s.1.length->dK s.1 j c=0)∨
  ∃k,s.2.length<=k∧k<s.1.length∧dK s.1 k c≠0∧dX s c=(df (scaled (fc [] s.1 s.2.length k) s.2.length c) s.2.length c s.1.length,s.2++[c]):=by
 have h1:=ta s.1 c (s.1.length-s.2.length) s.2.length;by_cases hk:fy s.1 c (s.1.length-s.2.length) s.2.length=s.1.length
 ·exact .inl ⟨Gj (.inr hk),fun j hj hl=>sX (s.1.length-s.2.length) s.2.length j hj (by omega)⟩
 ·exact .inr ⟨_,h1.1,by omega,tc s.1 c _ _ (by omega),zF h1.1 (by omega) (fun j h2 h3=>sX _ _ j h2 h3) (tc s.1 c _ _ (by omega))⟩
theorem pq{i:Nat}(h:i<M.length):M.getD i []∈M:=by
 rw[List.getD,aA h];exact ah h
theorem DK(hs:∀r k,P r->P (r.map (· *k)))(ha:∀r s p,P r->P s->P (r.mapIdx (pO p s))){s:List (List Rat)×List Nat}{c:Nat}(hle:s.2.length<=s.1.length)(h:∀r∈s.1,P r):∀r∈(dX s c).1,P r:=by
 rcases jf c hle with⟨e,-⟩|⟨k,h1,h2,-,e⟩
 ·rw[e];exact h
 rw[e];have hp:s.2.length<s.1.length:=by omega
 have k1:∀r∈fc [] s.1 s.2.length k,P r:=fun r hr=>by
  unfold fc at hr;rcases av hr with h3|h3
  ·rcases av h3 with h3|h3
   ·exact h r h3
   ·rw[h3];exact h _ (pq h2)
  ·rw[h3];exact h _ (pq hp)
 have k2:∀r∈scaled (fc [] s.1 s.2.length k) s.2.length c,P r:=fun r hr=>by
  unfold scaled at hr;rcases av hr with h3|h3
  ·exact k1 r h3
  ·rw[h3];exact hs _ _ (k1 _ (pq (by rw[fQ];exact hp)))
 intro r hr;dsimp only at hr;obtain⟨j,hj⟩:=aN hr;unfold df at hj;rw[List.getElem?_mapIdx]at hj
 cases hx:(scaled (fc [] s.1 s.2.length k) s.2.length c)[j]? with
 |none=>rw[hx]at hj;cases hj
 |some x=>
  rw[hx]at hj;simp only[bf]at hj;have hxm:=k2 x (aD hx);injection hj with hj;split at hj
  ·rw[<-hj];exact ha _ _ _ hxm (k2 _ (pq (by rw[ix,fQ];exact hp)))
  ·rw[<-hj];exact hxm
theorem zK(hs:∀r k,P r->P (r.map (· *k)))(ha:∀r s p,P r->P s->P (r.mapIdx (pO p s)))(h:∀r∈M,P r)(cols:Nat):∀r∈(cN M cols).1,P r:=by
 have key:∀(l:List Nat) (s:List (List Rat)×List Nat),s.2.length<=s.1.length->(∀r∈s.1,P r)->∀r∈(l.foldl dX s).1,P r:=by
  intro l
  induction l with
  |nil=>exact fun s _ h=>h
  |cons c l ih=>exact fun s h1 h2=>ih _ (KX s c h1) (DK hs ha h1 h2)
 exact key _ _ (aR _) h
theorem Er{n:Nat}(hl:gX n M)(h:∀r∈M,mu r φ=0)(cols:Nat):∀r∈(cN M cols).1,mu r φ=0:=fun r hr=>
 (zK (P:=fun r=>r.length=n∧mu r φ=0) (fun r k ⟨h1,h2⟩=>⟨by simpa using h1,by rw[CE,h2,bI]⟩)
  (fun r s p ⟨h1,h2⟩ ⟨h3,h4⟩=>⟨by simpa using h1,by rw[Hv p r s φ (by rw[h1,h3]),h2,h4,bD,Rat.zero_add]⟩) (fun r hr=>⟨hl r hr,h r hr⟩) cols r hr).2
theorem vQ{p:Rat}{s:List Rat}{c:Nat}(h:c<r.length):(r.mapIdx (pO p s)).getD c 0=r.getD c 0+p*s.getD c 0:=by
 simp only[List.getD,List.getElem?_mapIdx,aA h]
 rfl
theorem sY{k:Rat}{c:Nat}:(r.map (· *k)).getD c 0=r.getD c 0*k:=by
 simp only[List.getD,aM]
 cases r[c]? with
 |none=>exact(bI k).symm
 |some q=>rfl
theorem lT{s:List (List Rat)×List Nat}{c k n:Nat}(hl:gX n s.1)(h1:s.2.length<=k)(h2:k<s.1.length)(h3:dK s.1 k c≠0)(e:dX s c=(df (scaled (fc [] s.1 s.2.length k) s.2.length c) s.2.length c s.1.length,s.2++[c])):
  (∀t,dK (dX s c).1 s.2.length t=dK s.1 k t*(1 / dK s.1 k c))∧
  ∀j,j<s.1.length->j≠s.2.length->∀t,t<n->dK (dX s c).1 j t=dK s.1 (if j=k then s.2.length else j) t+ -(dK s.1 (if j=k then s.2.length else j) c)*(dK s.1 k t*(1 / dK s.1 k c)):=by
 have hp:s.2.length<s.1.length:=by omega
 have hsw:dK (fc [] s.1 s.2.length k) s.2.length c=dK s.1 k c:=zL hp h2;have UQ:(scaled (fc [] s.1 s.2.length k) s.2.length c).getD s.2.length []=(s.1.getD k []).map (· *(1 / dK s.1 k c)):=by
  unfold scaled;rw[hsw,List.getD,aQ (by rw[fQ];exact hp)];simp only[Option.getD_some]
  congr 1;rw[List.getD,List.getD,CF hp h2]
 have OV:∀j,j<s.1.length->j≠s.2.length->(scaled (fc [] s.1 s.2.length k) s.2.length c)[j]? =some (s.1.getD (if j=k then s.2.length else j) []):=fun j hj OY=>by
  unfold scaled;rw[aY (Ne.symm OY)];unfold fc;by_cases S2:j=k
  ·subst S2;rw[aQ (by simpa using hj),if_pos rfl]
  ·rw[aY (Ne.symm S2),aY (Ne.symm OY),aJ S2,List.getD,aA hj];rfl
 have hgp:(df (scaled (fc [] s.1 s.2.length k) s.2.length c) s.2.length c s.1.length).getD s.2.length []=(s.1.getD k []).map (· *(1 / dK s.1 k c)):=by
  rw[<-UQ];simp only[List.getD,zM]
 rw[e];refine⟨fun t=>?_,fun j hj OY t ht=>?_⟩
 ·show((df (scaled (fc [] s.1 s.2.length k) s.2.length c) s.2.length c s.1.length).getD s.2.length []).getD t 0=_;rw[hgp,sY];rfl
 ·have hgj:(df (scaled (fc [] s.1 s.2.length k) s.2.length c) s.2.length c s.1.length).getD j []=(s.1.getD (if j=k then s.2.length else j) []).mapIdx (pO (-((s.1.getD (if j=k then s.2.length else j) []).getD c 0)) ((s.1.getD k []).map (· *(1 / dK s.1 k c)))):=by
   simp only[List.getD,df,List.getElem?_mapIdx,OV j hj OY,bf,Option.getD_some]
   rw[if_pos ⟨hj,OY⟩];exact congrArg (fun P=>(s.1.getD (if j=k then s.2.length else j) []).mapIdx (pO (-((s.1.getD (if j=k then s.2.length else j) []).getD c 0)) P)) UQ
  show((df (scaled (fc [] s.1 s.2.length k) s.2.length c) s.2.length c s.1.length).getD j []).getD t 0=_;rw[hgj,vQ (by rw[hl.getD (by split<;>omega)];exact ht),sY];rfl
theorem td{x:Rat}(h:x≠0):x*(1 / x)=1:=by rw[bo,bz,Rat.mul_inv_cancel x h]
def Red(n c:Nat)(s:List (List Rat)×List Nat):Prop:=gX n s.1∧s.2.length<=s.1.length∧(∀j t,s.2.length<=j->j<s.1.length->t<c->dK s.1 j t=0)∧(∀p∈s.2,p<c)∧
 ∀i j,i<s.2.length->j<s.1.length->dK s.1 j (s.2.getD i 0)=if j=i then 1 else 0
theorem Red.step{n c:Nat}{s:List (List Rat)×List Nat}(h:Red n c s)(hc:c<n):Red n (c+1) (dX s c):=by
 obtain⟨hl,hle,hz,Qq,hu⟩:=h;rcases jf c hle with⟨e,h0⟩|⟨k,h1,h2,h3,e⟩
 ·rw[e];refine⟨hl,hle,fun j t hj Sa ht=>?_,fun p hp=>by have:=Qq p hp;omega,hu⟩;rcases aS t c with h|h
  ·exact hz j t hj Sa h
  ·rw[show t=c by omega];exact h0 j hj Sa
 ·obtain⟨r1,r2⟩:=lT hl h1 h2 h3 e;have hlen:(dX s c).1.length=s.1.length:=lA s c;have e2:(dX s c).2=s.2++[c]:=by rw[e]
  have e3:(dX s c).2.length=s.2.length+1:=by rw[e2];simp
  have Po:∀j,j<s.1.length->j≠s.2.length->dK (dX s c).1 j c=0:=fun j hj OY=>by
   rw[r2 j hj OY c hc,td h3,Rat.mul_one,Rat.add_neg_cancel]
  refine⟨hl.step,by rw[e3,hlen];omega,fun j t hj Sa ht=>?_,fun p hp=>?_,fun i j hi hj=>?_⟩
  ·rw[e3]at hj;rw[hlen]at Sa;rcases aS t c with h|h
   ·rw[r2 j Sa (by omega) t (by omega),hz k t h1 h2 h,hz (if j=k then s.2.length else j) t (by split<;>omega) (by split<;>omega) h,bI,bD,Rat.zero_add]
   ·rw[show t=c by omega];exact Po j Sa (by omega)
  ·rw[e2]at hp;rcases bE.1 hp with hp|hp
   ·have:=Qq p hp;omega
   ·rw[bL.1 hp];omega
  ·rw[e3]at hi;rw[hlen]at hj;rcases aS i s.2.length with h|h
   ·have hg:(dX s c).2.getD i 0=s.2.getD i 0:=by rw[e2,List.getD,aK h,<-List.getD]
    have hpm:s.2.getD i 0<c:=Qq _ (by rw[List.getD,aA h];exact ah h);have Tx:dK s.1 k (s.2.getD i 0)=0:=hz k _ h1 h2 hpm;rw[hg];by_cases hjp:j=s.2.length
    ·rw[hjp,r1,Tx,bI,aJ (by omega)]
    ·rw[r2 j hj hjp _ (by omega),Tx,bI,bD,bQ];by_cases S2:j=k
     ·rw[if_pos S2,hu i _ h (by omega),aJ (by omega),aJ (by omega)]
     ·rw[aJ S2,hu i j h hj]
   ·have hg:(dX s c).2.getD i 0=c:=by rw[e2,List.getD,aO h,show i-s.2.length=0 by omega];rfl
    rw[hg];by_cases hjp:j=s.2.length
    ·rw[hjp,r1,td h3,if_pos (by omega)]
    ·rw[Po j hj hjp,aJ (by omega)]
theorem eX{M:List (List Rat)}{n:Nat}(hl:gX n M):∀cols,cols<=n->Red n cols (cN M cols)
 |0,_=>⟨hl,aR _,fun _ _ _ _ h=>by omega,fun p hp=>(by cases hp),fun _ _ h=>(by cases h)⟩
 |c+1,h=>by
  have ih:=eX hl c (by omega);unfold cN at ih ⊢;rw[bS,List.foldl_append];exact ih.step (by omega)
abbrev Mx:=Nat->Nat->Rat
def skip(k j:Nat):Nat:=if j<k then j else j+1
def s4(k:Nat):Rat:=if k % 2=1 then -1 else 1
def dJ(f:Nat->Rat):Nat->Rat
 |0=>0
 |n+1=>dJ f n+f n
def gC:Nat->Mx->Rat
 |0,_=>1
 |n+1,m=>dJ (fun k=>s4 k*(m 0 k*gC n fun i j=>m (i+1) (skip k j))) (n+1)
theorem cR{f g:Nat->Rat}:∀{n:Nat},(∀k,k<n->f k=g k)->dJ f n=dJ g n
 |0,_=>rfl
 |n+1,h=>by rw[dJ,dJ,cR fun k hk=>h k (by omega),h n (by omega)]
theorem eM:∀(n:Nat),dJ (fun _=>0) n=0
 |0=>rfl
 |n+1=>by rw[dJ,eM n,bQ]
theorem iI(f g:Nat->Rat):∀(n:Nat),dJ (fun k=>f k+g k) n=dJ f n+dJ g n
 |0=>(bQ 0).symm
 |n+1=>by rw[dJ,dJ,dJ,iI f g n];grind
theorem e8(p:Rat)(f:Nat->Rat):∀(n:Nat),dJ (fun k=>p*f k) n=p*dJ f n
 |0=>(bD p).symm
 |n+1=>by rw[dJ,dJ,e8 p f n];grind
theorem th(f:Nat->Rat)(n:Nat):dJ (fun k=> -f k) n= -dJ f n:=by
 have h:=e8 (-1) f n;rw[show (-1:Rat)*dJ f n= -dJ f n by grind]at h;rw[<-h];exact cR fun k _=>by grind
theorem zU(f:Nat->Rat):∀(n:Nat),dJ f (n+1)=f 0+dJ (fun k=>f (k+1)) n
 |0=>by show 0+f 0=f 0+0;grind
 |n+1=>by rw[dJ,zU f n,dJ];grind
theorem Hz{k j n:Nat}(h:j<n):skip k j<n+1:=by unfold skip;split<;>omega
theorem JD{k l:Nat}(h:k<=l)(j:Nat):skip k (skip l j)=skip (l+1) (skip k j):=by
 unfold skip;grind
theorem jF:∀{n:Nat} {m m':Mx},(∀i j,i<n->j<n->m i j=m' i j)->gC n m=gC n m'
 |0,_,_,_=>rfl
 |n+1,m,m',h=>by
  unfold gC;refine cR fun k hk=>?_;rw[h 0 k (by omega) hk,jF fun i j hi hj=>h (i+1) (skip k j) (by omega) (Hz hj)]
def gS(m:Mx)(r:Nat)(u:Nat->Rat):Mx:=fun i j=>if i=r then u j else m i j
theorem vR(m:Mx)(r k:Nat)(u:Nat->Rat):(fun i j=>gS m (r+1) u (i+1) (skip k j))=gS (fun i j=>m (i+1) (skip k j)) r fun j=>u (skip k j):=by
 funext i j
 unfold gS;by_cases h:i=r
 ·rw[if_pos h,if_pos (by omega)]
 ·rw[aJ h,aJ (by omega)]
theorem nL(p:Rat):∀(n r:Nat) (m:Mx),r<n->∀(u v:Nat->Rat),gC n (gS m r fun j=>u j+p*v j)=gC n (gS m r u)+p*gC n (gS m r v)
 |0,_,_,h,_,_=>by omega
 |n+1,0,m,_,u,v=>by
  unfold gC;rw[<-e8,<-iI];refine cR fun k _=>?_;have e:∀x:Nat->Rat,(fun i j=>gS m 0 x (i+1) (skip k j))=fun i j=>m (i+1) (skip k j):=fun x=>by
   funext i j;unfold gS;rw[aJ (by omega)]
  rw[e,e,e];unfold gS;rw[if_pos rfl,if_pos rfl,if_pos rfl];grind
 |n+1,r+1,m,h,u,v=>by
  unfold gC;rw[<-e8,<-iI];refine cR fun k _=>?_;rw[vR,vR,vR,nL p n r _ (by omega) (fun j=>u (skip k j)) fun j=>v (skip k j)];have e:∀x:Nat->Rat,gS m (r+1) x 0 k=m 0 k:=fun x=>by unfold gS;rw[aJ (by omega)]
  rw[e,e,e];grind
theorem zV{F:Nat->Nat->Rat}:∀{n:Nat},(∀k l,k<=l->l<n->F k l+F (l+1) k=0)->dJ (fun k=>dJ (F k) n) (n+1)=0
 |0,_=>by show 0+0=(0:Rat);grind
 |n+1,h=>by
  have ih:=zV (F:=F) (n:=n) fun k l h1 h2=>h k l h1 (by omega);have h3:dJ (fun k=>F k n+F (n+1) k) (n+1)=0:=by
   rw[cR (g:=fun _=>0) fun k hk=>h k n (by omega) (by omega),eM]
  rw[iI]at h3;rw[dJ];have h4:dJ (fun k=>dJ (F k) (n+1)) (n+1)=dJ (fun k=>dJ (F k) n) (n+1)+dJ (fun k=>F k n) (n+1):=by
   rw[<-iI];rfl
  rw[h4,ih,Rat.zero_add];exact h3
def wu(a b i:Nat):Nat:=if i=a then b else if i=b then a else i
theorem JE(r i:Nat):wu (r+1) (r+2) (i+1)=wu r (r+1) i+1:=by
 unfold wu;by_cases h:i=r
 ·rw[if_pos (by omega),if_pos h]
 ·rw[aJ (by omega),aJ h];by_cases h2:i=r+1
  ·rw[if_pos (by omega),if_pos h2]
  ·rw[aJ (by omega),aJ h2]
theorem Kb(k:Nat):s4 (k+1)= -s4 k:=by
 unfold s4;by_cases h:k % 2=1
 ·rw[if_pos h,aJ (by omega)];grind
 ·rw[aJ h,if_pos (by omega)]
theorem Ev(n:Nat)(m:Mx):gC (n+2) m=dJ (fun k=>dJ (fun l=>s4 k*s4 l*(m 0 k*m 1 (skip k l))*gC n fun i j=>m (i+2) (skip k (skip l j))) (n+1)) (n+2):=by
 rw[gC];refine cR fun k _=>?_;rw[gC,<-e8,<-e8];refine cR fun l _=>?_;grind
theorem zW:∀(n r:Nat) (m:Mx),r+1<n->gC n (fun i j=>m (wu r (r+1) i) j)= -gC n m
 |0,_,_,h=>by omega
 |1,_,_,h=>by omega
 |n+2,0,m,_=>by
  rw[Ev,Ev,<-th];have key:dJ (fun k=>dJ (fun l=>s4 k*s4 l*(m 1 k*m 0 (skip k l))*(gC n fun i j=>m (i+2) (skip k (skip l j)))+s4 k*s4 l*(m 0 k*m 1 (skip k l))*gC n fun i j=>m (i+2) (skip k (skip l j))) (n+1)) (n+2)=0:=by
   refine zV fun k l h1 h2=>?_;have e1:skip k l=l+1:=by unfold skip;rw[aJ (by omega)]
   have e2:skip (l+1) k=k:=by unfold skip;rw[if_pos (by omega)]
   have e3:(fun i j=>m (i+2) (skip (l+1) (skip k j)))=fun i j=>m (i+2) (skip k (skip l j)):=by
    funext i j;rw[JD h1]
   rw[e1,e2,e3,Kb];grind
  have h4:dJ (fun k=>dJ (fun l=>s4 k*s4 l*(m 1 k*m 0 (skip k l))*(gC n fun i j=>m (i+2) (skip k (skip l j)))+s4 k*s4 l*(m 0 k*m 1 (skip k l))*gC n fun i j=>m (i+2) (skip k (skip l j))) (n+1)) (n+2)=
    dJ (fun k=>dJ (fun l=>s4 k*s4 l*(m 1 k*m 0 (skip k l))*gC n fun i j=>m (i+2) (skip k (skip l j))) (n+1)) (n+2)+dJ (fun k=>dJ (fun l=>s4 k*s4 l*(m 0 k*m 1 (skip k l))*gC n fun i j=>m (i+2) (skip k (skip l j))) (n+1)) (n+2):=by
   rw[<-iI];exact cR fun k _=>iI _ _ _
  rw[h4]at key;have h5:dJ (fun k=> -dJ (fun l=>s4 k*s4 l*(m 0 k*m 1 (skip k l))*gC n fun i j=>m (i+2) (skip k (skip l j))) (n+1)) (n+2)= -dJ (fun k=>dJ (fun l=>s4 k*s4 l*(m 0 k*m 1 (skip k l))*gC n fun i j=>m (i+2) (skip k (skip l j))) (n+1)) (n+2):=th _ _;rw[h5];have h6:dJ (fun k=>dJ (fun l=>s4 k*s4 l*(m (wu 0 1 0) k*m (wu 0 1 1) (skip k l))*gC n fun i j=>m (wu 0 1 (i+2)) (skip k (skip l j))) (n+1)) (n+2)=dJ (fun k=>dJ (fun l=>s4 k*s4 l*(m 1 k*m 0 (skip k l))*gC n fun i j=>m (i+2) (skip k (skip l j))) (n+1)) (n+2):=by
   refine cR fun k _=>cR fun l _=>?_;have e:∀i,wu 0 1 (i+2)=i+2:=fun i=>by unfold wu;rw[aJ (by omega),aJ (by omega)]
   simp only[e]
   rfl
  rw[show (0:Nat)+1=1 from rfl,h6];grind
 |n+2,r+1,m,h=>by
  rw[gC,gC,<-th];refine cR fun k _=>?_;have e:(fun i j=>m (wu (r+1) (r+1+1) (i+1)) (skip k j))=fun i j=>m (wu r (r+1) i+1) (skip k j):=by
   funext i j
   rw[show r+1+1=r+2 from rfl,JE]
  have ih:gC (n+1) (fun i j=>m (wu r (r+1) i+1) (skip k j))= -gC (n+1) fun i j=>m (i+1) (skip k j):=zW (n+1) r (fun i j=>m (i+1) (skip k j)) (by omega);rw[e,ih];rw[show wu (r+1) (r+1+1) 0=0 by unfold wu;rw[aJ (by omega),aJ (by omega)]];grind
theorem oP:∀(k n:Nat) (m:Mx),k+1<n->(∀j,j<n->m 0 j=m (k+1) j)->gC n m=0
 |0,n,m,h,he=>by
  have h1:=zW n 0 m h;rw[jF (m':=m) fun i j hi hj=>?_]at h1
  ·grind
  ·unfold wu;by_cases h0:i=0
   ·rw[if_pos h0,h0];exact(he j hj).symm
   ·rw[aJ h0];by_cases h2:i=1
    ·rw[if_pos h2,h2];exact he j hj
    ·rw[aJ h2]
 |k+1,n,m,h,he=>by
  have h1:=zW n (k+1) m h;rw[oP k n _ (by omega) fun j hj=>?_]at h1
  ·grind
  ·rw[show wu (k+1) (k+1+1) 0=0 by unfold wu;rw[aJ (by omega),aJ (by omega)],show wu (k+1) (k+1+1) (k+1)=k+1+1 by unfold wu;rw[if_pos rfl]];exact he j hj
theorem Ew(m:Mx)(r:Nat):gS m r (m r)=m:=by
 funext i j
 unfold gS;by_cases h:i=r
 ·rw[if_pos h,h]
 ·rw[aJ h]
theorem JF{n k:Nat}{m:Mx}(h:k+1<n):gC n (fun i j=>m (wu 0 (k+1) i) j)= -gC n m:=by
 have z:∀u:Nat->Rat,gC n (gS (gS m 0 u) (k+1) u)=0:=fun u=>oP k n _ h fun j _=>by
  unfold gS;rw[aJ (by omega),if_pos rfl,if_pos rfl]
 have cm:∀u v:Nat->Rat,gS (gS m 0 u) (k+1) v=gS (gS m (k+1) v) 0 u:=fun u v=>by
  funext i j;unfold gS
  by_cases h1:i=k+1
  ·rw[if_pos h1,aJ (by omega),if_pos h1]
  ·rw[aJ h1,aJ h1]
 have l1:∀u v x:Nat->Rat,gC n (gS (gS m 0 u) (k+1) fun j=>v j+1*x j)=gC n (gS (gS m 0 u) (k+1) v)+1*gC n (gS (gS m 0 u) (k+1) x):=fun u v x=>nL 1 n (k+1) _ h v x;have l2:∀u v x:Nat->Rat,gC n (gS (gS m 0 fun j=>v j+1*x j) (k+1) u)=gC n (gS (gS m 0 v) (k+1) u)+1*gC n (gS (gS m 0 x) (k+1) u):=fun u v x=>by
  rw[cm,cm,cm];exact nL 1 n 0 _ (by omega) v x
 have h1:=z fun j=>m 0 j+1*m (k+1) j;rw[l1,l2,l2,z,z]at h1;have e1:gS (gS m 0 (m 0)) (k+1) (m (k+1))=m:=by rw[Ew,Ew]
 have e2:gS (gS m 0 (m (k+1))) (k+1) (m 0)=fun i j=>m (wu 0 (k+1) i) j:=by
  funext i j;unfold gS wu
  by_cases h1:i=k+1
  ·rw[if_pos h1,aJ (by omega),if_pos h1]
  ·rw[aJ h1];by_cases h0:i=0
   ·rw[if_pos h0,if_pos h0]
   ·rw[aJ h0,aJ h0,aJ h1]
 rw[e1,e2]at h1;grind
theorem nM(f:Nat->Rat)(p:Rat)(n:Nat):dJ (fun k=>f k*p) n=dJ f n*p:=by
 rw[bs,<-e8];exact cR fun k _=>bs ..
theorem Ey(f g:Nat->Rat):∀(n:Nat),dJ (fun k=>f k-g k) n=dJ f n-dJ g n
 |0=>by show(0:Rat)=0-0;grind
 |n+1=>by rw[dJ,dJ,dJ,Ey f g n];grind
theorem gh{f:Nat->Rat}{i:Nat}:∀{n:Nat},i<n->(∀k,k<n->k≠i->f k=0)->dJ f n=f i
 |0,h,_=>by omega
 |n+1,h,hz=>by
  rw[dJ];rcases aS i n with h1|h1
  ·rw[gh h1 fun k hk OY=>hz k (by omega) OY,hz n (by omega) (by omega),bQ]
  ·obtain rfl:i=n:=by omega
   rw[cR (g:=fun _=>0) fun k hk=>hz k (by omega) (by omega),eM,Rat.zero_add]
theorem sq_nonneg(x:Rat):0<=x*x:=by
 rcases Rat.le_total (a:=0) (b:=x)with h|h
 ·exact Rat.mul_nonneg h h
 ·have:=Rat.mul_nonneg (show 0<= -x by grind) (show 0<= -x by grind);grind
end Go.Ex
namespace Go.Ex
open Go Go.Sx Go.Proofs
variable{cs:List Value}{j:Nat}{S:Nat->Prop}{a1 a2:Option Addr}{q:Rat}
theorem iz.len{w:World}(h:iz w S cs q):cs.length=4:=by obtain⟨_,_,_,_,_,_,_,_,rfl,_⟩:=h;rfl
def Fc(w:World)(S:Nat->Prop)(css:List (List Value))(qs:List Rat):Prop:=css.length=qs.length∧∀(j:Nat) cs q,css[j]? =some cs->qs[j]? =some q->iz w S cs q
section
variable{S S':Nat->Prop}{w w2:World}{cs:List Value}{css:List (List Value)}{q:Rat}{qs:List Rat}
theorem Fc.cJ(h:Fc w S css qs)(hk:∀g,S g->w2.heap[g]? =w.heap[g]?):Fc w2 S css qs:=⟨h.1,fun j cs q h1 h2=>(h.2 j cs q h1 h2).cJ hk⟩
theorem Fc.cL(h:Fc w S css qs)(hk:∀g,S g->S' g):Fc w S' css qs:=⟨h.1,fun j cs q h1 h2=>(h.2 j cs q h1 h2).cL hk⟩
theorem Fc.mz(h:Fc w S css qs):∀cs∈css,cs.length=4:=fun cs hc=>by
 obtain⟨j,hj⟩:=aN hc;have hl:=(aE.1 hj).1;exact(h.2 j cs _ hj (aA (by rw[<-h.1];exact hl))).len
theorem Fc.one(h:Fc w S css qs):∀u∈css.flatten,u.oneCell'=true:=fun u hu=>by
 obtain⟨cs,hc,hu⟩:=List.mem_flatten.1 hu;obtain⟨j,hj⟩:=aN hc;have hl:=(aE.1 hj).1;obtain⟨_,_,_,_,_,_,_,_,rfl,_⟩:=h.2 j cs _ hj (aA (by rw[<-h.1];exact hl));simp at hu;rcases hu with rfl|rfl|rfl|rfl<;>rfl
theorem Fc.set(h:Fc w S css qs)(hq:iz w S cs q):Fc w S (css.set j cs) (qs.set j q):=by
 refine⟨by simp[h.1],fun i c p h1 h2=>?_⟩;by_cases Pj:j=i
 ·subst Pj;have hl:=(aE.1 h1).1;rw[aQ (by simpa using hl)]at h1;rw[aQ (by have:=h.1;simp at hl;omega)]at h2;injection h1 with h1;injection h2 with h2;subst h1 h2;exact hq
 ·rw[aY Pj]at h1 h2;exact h.2 i c p h1 h2
end
def gW(w:World)(C S:Nat->Prop)(v:Value)(qs:List Rat):Prop:=∃css,iR w C 4 v css.flatten qs.length∧Fc w S css qs
section
variable{C C' S S':Nat->Prop}{H:Hp}{nx:Nat}{iv iv':Iv}{B:Nat}{w w' w2:World}{O:Nat->Sx.dw}{v:Value}{qs:List Rat}
theorem gW.cJ(h:gW w C S v qs)(hk:∀g,C g∨S g->w2.heap[g]? =w.heap[g]?):gW w2 C S v qs:=by
 obtain⟨css,h1,h2⟩:=h;exact⟨css,h1.cJ fun g hg=>hk g (.inl hg),h2.cJ fun g hg=>hk g (.inr hg)⟩
theorem gW.cL(h:gW w C S v qs)(hk:∀g,C g->C' g)(TG:∀g,S g->S' g):gW w C' S' v qs:=by
 obtain⟨css,h1,h2⟩:=h;exact⟨css,h1.cL hk,h2.cL TG⟩
end
def iq(w:World)(S:Nat->Prop)(v:Value)(n:Nat)(qs:List Rat):Prop:=∃css,w.ownsRow 0 T.Rat 4 v n css.flatten∧css.length=n∧Fc w S css qs
section
variable{S S' C:Nat->Prop}{H:Hp}{nx n:Nat}{iv iv':Iv}{B:Nat}{w w' w2:World}{O:Nat->Sx.dw}{v:Value}{qs:List Rat}
theorem iq.cJ(h:iq w S v n qs)(hk:∀g,S g∨v.ownBlock=some g->w2.heap[g]? =w.heap[g]?):iq w2 S v n qs:=by
 obtain⟨css,h1,h2,h3⟩:=h;exact⟨css,ownsRow.cJ h1 fun g hg=>hk g (.inr hg),h2,h3.cJ fun g hg=>hk g (.inl hg)⟩
theorem iq.cL(h:iq w S v n qs)(hk:∀g,S g->S' g):iq w S' v n qs:=by
 obtain⟨css,h1,h2,h3⟩:=h;exact⟨css,h1,h2,h3.cL hk⟩
theorem iq.len(h:iq w S v n qs):qs.length=n:=by
 obtain⟨css,h1,h2,h3⟩:=h;rw[<-h3.1,h2]
theorem iq.form(h:iq w S v n qs):∃a c,v= .slice a n c∧n<=c:=by
 obtain⟨css,h1,h2,h3⟩:=h;exact fF h1
theorem iq.le(h:iq w S v n qs):n<=maxLen:=by
 obtain⟨css,h1,h2,h3⟩:=h;rcases h1.2 with⟨_,h0⟩|⟨_,_,_,_,_,_,h1,h2,_⟩
 ·omega
 ·omega
theorem iq.read(h:iq w S v n qs):gW w (fun g=>v.ownBlock=some g) S v qs:=by
 have hl:=h.len;have hn:=h.le;obtain⟨css,h1,h2,h3⟩:=h;refine⟨css,?_,h3⟩;rw[hl];rcases h1.2 with⟨rfl,rfl⟩|⟨g,cap,cur,rfl,hb,hc,Uy,QS,PH,RM⟩
 ·refine⟨hn,h1.1,h3.one,none,0,rfl,Nat.le_refl _,fun j u hu=>?_⟩;have:=h1.1;rw[Nat.zero_mul]at this;rw[List.eq_nil_of_length_eq_zero this]at hu
  cases hu
 ·refine⟨hn,h1.1,h3.one,_,cap,rfl,Uy,fun j u hu=>⟨_,rfl,rfl,?_⟩⟩;exact h1.cells (g:=g) rfl j u hu
theorem iq.store{a:Option Addr}{c n1 c1 n2 c2:Nat}{b b2:Bool}(h:iq w S (.slice a n c) n qs)(hj:j<n)(hf:dA w S (.agg #[.bool b,.slice a1 n1 c1,.bool b2,.slice a2 n2 c2]) q)(RT:∀g,(Value.slice a n c).ownBlock=some g->¬S g)(hS:Old S w):
  ∃g,a=some ⟨g,0,none⟩∧((⟨g,0,none⟩:Addr).add ((j:Int).toNat*4)).spot=none∧((⟨g,0,none⟩:Addr).add ((j:Int).toNat*4)).block=g∧
   (∀k,k<4->(w.cell? (((⟨g,0,none⟩:Addr).add ((j:Int).toNat*4)).add k)).isSome=true∧w.frozen? (((⟨g,0,none⟩:Addr).add ((j:Int).toNat*4)).add k)=false)∧
   ∀w2,w2=setCells w ((⟨g,0,none⟩:Addr).add ((j:Int).toNat*4)) [.bool b,.slice a1 n1 c1,.bool b2,.slice a2 n2 c2]->iq w2 S (.slice a n c) n (qs.set j q)∧w.grownBy w2 (some g)∧w2.heap.size=w.heap.size:=by
 obtain⟨css,h1,h2,h3⟩:=h;obtain⟨g,rfl,OZ,QB,Ot,PH⟩:=j1 (nv:=[.bool b,.slice a1 n1 c1,.bool b2,.slice a2 n2 c2]) h1 rfl hj rfl (by decide);have Ox:(⟨g,0,none⟩:Addr).add ((j:Int).toNat*4)=⟨g,j*4,none⟩:=by rw[aF,dI,aW]
 refine⟨g,rfl,by rw[Ox],by rw[Ox],fun k hk=>by rw[Ox];exact OZ k hk,fun w2 Oz=>?_⟩;rw[Ox]at Oz;subst Oz;have Q1:=gp (cs:=[.bool b,.slice a1 n1 c1,.bool b2,.slice a2 n2 c2]) h3.mz (show j<css.length by omega);rw[Q1]at QB;have PM:∀x,S x->(setCells w ⟨g,j*4,none⟩ [.bool b,.slice a1 n1 c1,.bool b2,.slice a2 n2 c2]).heap[x]? =w.heap[x]? :=fun x hx=>
  Ot.block x (hS x hx) fun e=>RT g rfl (by injection e with e;rw[<-e];exact hx)
 exact⟨⟨_,QB,by simpa using h2,(h3.cJ PM).set (hf.cJ PM).sH⟩,Ot,PH⟩
structure eR(w:World)(S:Nat->Prop)(B:Nat)(iv:Iv)(v:Value)(n:Nat)(qs:List Rat):Prop where
 row:iq w (fun g=>Cv S B iv g∧v.ownBlock≠some g) v n qs
 new:∀g,v.ownBlock=some g->Cv FF B iv g
theorem eR.cJ(h:eR w S B iv v n qs)(hk:∀g,Cv S B iv g->w2.heap[g]? =w.heap[g]?):eR w2 S B iv v n qs:=
 ⟨h.row.cJ fun g hg=>hk g (hg.elim (fun h=>h.1) fun hg=>(h.new g hg).elim (fun h=>h.elim) .inr),h.new⟩
theorem eR.rel(h:eR w S B iv v n qs)(r:Rel H nx iv B w O w')(hS:∀g,S g->g<B):eR w' S B iv v n qs:=h.cJ fun _ hg=>Rel.same r hS hg
theorem eR.cK(h:eR w S B iv v n qs)(r:Rel H nx iv B w O w')(hS:∀g,S g->g<B)(he:Ext w' w2)(hm:∀p,p∈iv->p∈iv'):eR w2 S B iv' v n qs:=
 have h2:=(h.rel r hS).cJ fun g hg=>he.block g (Rel.old r hS g hg)
 ⟨h2.row.cL fun _ hg=>⟨hg.1.mono hm,hg.2⟩,fun g hg=>(h2.new g hg).mono hm⟩
theorem eR.dF(h:eR w2 FF w'.heap.size [(w'.heap.size,w2.heap.size)] v n qs)(hB:B<=w'.heap.size)(hm:(w'.heap.size,w2.heap.size)∈iv):eR w2 S B iv v n qs:=by
 have key:∀g {X:Nat->Prop},Cv FF w'.heap.size [(w'.heap.size,w2.heap.size)] g->Cv X B iv g:=fun g X hg=>by
  rcases hg with hg|⟨h1,lo,hi,h2,h3,h4⟩
  ·exact hg.elim
  ·simp at h2;obtain⟨rfl,rfl⟩:=h2;exact .inr ⟨by omega,_,_,hm,h3,h4⟩
 exact⟨h.row.cL fun g hg=>⟨key g hg.1,hg.2⟩,fun g hg=>key g (h.new g hg)⟩
theorem eR.read(h:eR w S B iv v n qs):gW w (Cv S B iv) (Cv S B iv) v qs:=
 h.row.read.cL (fun g hg=>(h.new g hg).elim (fun h=>h.elim) .inr) fun _ hg=>hg.1
end
section
variable{S S':Nat->Prop}{H:Hp}{nx n:Nat}{iv iv':Iv}{B:Nat}{w w' w2:World}{O:Nat->Sx.dw}{v:Value}{qs:List Rat}
theorem eR.store{a:Option Addr}{c n1 c1 n2 c2:Nat}{b b2:Bool}(h:eR w' S B iv (.slice a n c) n qs)(hj:j<n)(hf:dA w' (fun g=>Cv S B iv g∧(Value.slice a n c).ownBlock≠some g) (.agg #[.bool b,.slice a1 n1 c1,.bool b2,.slice a2 n2 c2]) q)
  (r:Rel H nx iv B w O w') (hS:∀g,S g->g<B):
  ∃g,a=some ⟨g,0,none⟩∧((⟨g,0,none⟩:Addr).add ((j:Int).toNat*4)).spot=none∧
   (∀k,k<4->(w'.cell? (((⟨g,0,none⟩:Addr).add ((j:Int).toNat*4)).add k)).isSome=true∧w'.frozen? (((⟨g,0,none⟩:Addr).add ((j:Int).toNat*4)).add k)=false)∧
   (∀id b,dD H id=some b->(O id).nil=false->(O id).g≠((⟨g,0,none⟩:Addr).add ((j:Int).toNat*4)).block)∧Cv FF B iv g∧
   ∀w2,w2=setCells w' ((⟨g,0,none⟩:Addr).add ((j:Int).toNat*4)) [.bool b,.slice a1 n1 c1,.bool b2,.slice a2 n2 c2]->eR w2 S B iv (.slice a n c) n (qs.set j q)∧w'.grownBy w2 (some g)∧w2.heap.size=w'.heap.size:=by
 obtain⟨g,rfl,h1,h2,h3,h4⟩:=h.row.store hj hf (fun g hg hx=>hx.2 hg) (fun x hx=>Rel.old r hS x hx.1);refine⟨g,rfl,h1,h3,fun id b hb hn=>by rw[h2];exact Rel.not r hS (EP (h.new g rfl)) id b hb hn,h.new g rfl,fun w2 Oz=>?_⟩;obtain⟨k1,k2,k3⟩:=h4 w2 Oz;exact⟨⟨k1,h.new⟩,k2,k3⟩
end
end Go.Ex
namespace Go.Sx
open Go Go.Ex Go.Proofs
variable{cs:List Value}{O:Nat->Sx.dw}
theorem Sub.wI{B:Nat}{l tl:Env}{nx:Nat}{H tH:Hp}{iv:Iv}{w w':World}{id t n c:Nat}{e:TypeId}(r:Rel H nx iv B w O w')(PV:dD H id=some (.arr e cs))(ht:fu l t=some (.o (.s id 0 n c)))
  (hs:vJ H tH) (ho:DD id tH=true) (h1:Ea l tl) (h2:kF nx tl):
  Sub B l nx O w' ⟨(t,.o (.v (.slice (some ⟨(O id).g,0,none⟩) n c)))::tl,tH,nx,((O id).g,(O id).g+1)::iv,w'⟩:=by
 refine⟨O,r.free PV (by simp) (r.fits PV).1 hs ho,fun u v hv=>?_⟩;rw[fA]at hv;split at hv
 ·rename_i e;subst e;injection hv with hv;subst hv;exact⟨trivial,_,ht,rfl⟩
 ·exact⟨h2.get u v hv,v,h1.get u v hv,rfl⟩
end Go.Sx
namespace Go.Ex
open Go Go.Sx Go.Proofs
end Go.Ex
namespace Go.Ex
open Go Go.Sx Go.Proofs
def de(w:World)(S:Nat->Prop)(rv:List Value)(K:List (List Rat)):Prop:=rv.length=K.length∧(∀u∈rv,u.oneCell'=true)∧∀(i:Nat) u r,rv[i]? =some u->K[i]? =some r->cO w S u r
section
variable{S S':Nat->Prop}{H:Hp}{nx:Nat}{iv iv':Iv}{B:Nat}{w w' w2:World}{O:Nat->Sx.dw}{rv:List Value}{K:List (List Rat)}
theorem de.cJ(h:de w S rv K)(hk:∀g,S g->w2.heap[g]? =w.heap[g]?):de w2 S rv K:=⟨h.1,h.2.1,fun i u x h1 h2=>cO.cJ (h.2.2 i u x h1 h2) hk⟩
theorem de.cL(h:de w S rv K)(hk:∀g,S g->S' g):de w S' rv K:=⟨h.1,h.2.1,fun i u x h1 h2=>cO.cL (h.2.2 i u x h1 h2) hk⟩
theorem de.rel(h:de w (Cv S B iv) rv K)(r:Rel H nx iv B w O w')(hS:∀g,S g->g<B):de w' (Cv S B iv) rv K:=h.cJ fun _ hg=>Rel.same r hS hg
theorem de.cK(h:de w (Cv S B iv) rv K)(r:Rel H nx iv B w O w')(hS:∀g,S g->g<B)(he:Ext w' w2)(hm:∀p,p∈iv->p∈iv'):de w2 (Cv S B iv') rv K:=
 ((h.rel r hS).cJ fun g hg=>he.block g (Rel.old r hS g hg)).cL fun _ hg=>hg.mono hm
theorem de.push{u:Value}{x:List Rat}(h:de w S rv K)(hu:u.oneCell'=true)(hx:cO w S u x):de w S (rv++[u]) (K++[x]):=by
 refine⟨by simp[h.1],fun v hv=>?_,fun i v y h1 h2=>?_⟩
 ·rcases bE.1 hv with hv|hv
  ·exact h.2.1 v hv
  ·simp at hv;subst hv;exact hu
 ·rcases aS i rv.length with hi|hi
  ·rw[aK hi]at h1;rw[aK (by rw[<-h.1];exact hi)]at h2;exact h.2.2 i v y h1 h2
  ·have SF:i=rv.length:=by have:=(aE.1 h1).1;simp at this;omega
   subst SF;rw[aO (Nat.le_refl _),bK]at h1;rw[h.1,aO (Nat.le_refl _),bK]at h2;simp at h1 h2;subst h1 h2;exact hx
end
end Go.Ex
namespace Go.Ex
theorem KU(s:List (List Rat)×List Nat)(c:Nat):(dX s c).2=s.2∨(dX s c).2=s.2++[c]:=by
 unfold dX;split
 ·dsimp only
  split
  ·exact .inl rfl
  ·exact .inr rfl
 ·exact .inl rfl
theorem jS(M:List (List Rat)):∀c:Nat,(∀p∈((List.range c).foldl dX (M,[])).2,p<c)∧(((List.range c).foldl dX (M,[])).2).Pairwise (· < ·)∧((List.range c).filter fun j=>decide (j∉((List.range c).foldl dX (M,[])).2)).length+((List.range c).foldl dX (M,[])).2.length=c:=by
 intro c
 induction c with
 |zero=>simp
 |succ c ih=>
  rw[bS,List.foldl_append,List.foldl_cons,List.foldl_nil];generalize (List.range c).foldl dX (M,[])=s at*
  obtain⟨h1,h2,h3⟩:=ih;have hc:c∉s.2:=fun h=>by have:=h1 c h;omega
  rcases KU s c with e|e
  ·rw[e];refine⟨fun p hp=>by have:=h1 p hp;omega,h2,?_⟩;rw[List.filter_append,List.length_append];simp only[List.filter_cons,hc,not_false_eq_true,decide_true,if_true,List.filter_nil,List.length_singleton]
   omega
  ·rw[e];refine⟨fun p hp=>?_,?_,?_⟩
   ·rcases bE.1 hp with hp|hp
    ·have:=h1 p hp;omega
    ·simp at hp;omega
   ·rw[List.pairwise_append];exact⟨h2,by simp,fun a ha b hb=>by simp at hb;subst hb;exact h1 a ha⟩
   ·rw[List.filter_append,List.length_append];have:(List.range c).filter (fun j=>decide (j∉s.2++[c]))=(List.range c).filter (fun j=>decide (j∉s.2)):=List.filter_congr fun j hj=>by
     have:=List.mem_range.1 hj;have OY:j≠c:=by omega
     simp[OY]
    have h0:(([c]:List Nat).filter fun j=>decide (j∉s.2++[c])).length=0:=by simp
    rw[this,List.length_append,List.length_singleton,h0];omega
end Go.Ex
namespace Go.Ex
open Go Go.Sx Go.Proofs
variable{cs:List Value}{O:Nat->Sx.dw}
section
variable{S S':Nat->Prop}{H:Hp}{nx:Nat}{iv iv':Iv}{B:Nat}{w w' w2:World}{O:Nat->Sx.dw}{v:Value}{M:List (List (Int×Int))}
end
theorem Hi(x y:Rat):x-y+y=x:=by rw[Rat.sub_eq_add_neg,Rat.add_assoc,Rat.neg_add_cancel,bQ]
theorem EJ(p q:Rat):p-q=0↔p=q:=by
 constructor
 ·intro h;have:=congrArg (· +q) h;simpa [Hi,Rat.zero_add]using this
 ·intro h;rw[h,Rat.sub_self]
theorem OD{p q:Rat}:rs (p-q)=0↔p=q:=by rw[ya,EJ]
def fnV(g:Nat):Value:=.func (.func g) #[] #[]
def dT(xs ys:List Rat):Nat->Rat
 |0=>0
 |i+1=>dT xs ys i+xs.getD i 0*ys.getD i 0
theorem ke{xs ys:List Rat}{h:Nat}(hx:∀q∈xs,rl q+1<=h)(hy:∀q∈ys,rl q+1<=h)(h2:2<=h):∀i:Nat,rl (dT xs ys i)<=2*h*i+2
 |0=>by rw[dT];exact aX (by decide:rl 0<=2) (by omega)
 |i+1=>by
  have h3:=ke hx hy h2 i;have h4:=mw (dT xs ys i) (xs.getD i 0*ys.getD i 0);have h5:=ic (xs.getD i 0) (ys.getD i 0);have h6:=lD hx h2 i;have h7:=lD hy h2 i;rw[dT,bX];omega
def zO(M:List (List Rat))(k:Nat):List Rat:=M.map (·.getD k 0)
def te(ys:List Rat)(M:List (List Rat))(n i:Nat):List Rat:=(List.range n).map fun k=>dT ys (zO M k) i
section
variable{S S':Nat->Prop}{H:Hp}{nx:Nat}{iv iv':Iv}{B:Nat}{w w' w2:World}{O:Nat->Sx.dw}{v:Value}{qs:List Rat}
end
section
variable{S S':Nat->Prop}{H:Hp}{nx:Nat}{iv iv':Iv}{B:Nat}{w w' w2:World}{O:Nat->Sx.dw}{v:Value}{M:List (List Rat)}
end
section
variable{S S':Nat->Prop}{H:Hp}{nx:Nat}{iv iv':Iv}{B:Nat}{w w' w2:World}{O:Nat->Sx.dw}{v:List Value}{M:List (List Rat)}
end
theorem kI(w:World)(t e:TypeId)(a:Option Addr)(n c n' c':Nat)(h:PG.underlying t=some (.slice e)):
  (binOp .eql t (.slice a n c) (.slice none n' c')).run PG w= .ok (.bool a.isNone) w:=by
 have:∀d,(Op.equalIn (d+1) t (.slice a n c) (.slice none n' c')).run PG w= .ok a.isNone w:=fun d=>by cases a<;>simp[Op.equalIn,run_underlying h]
 simp only[binOp]
 cases a<;>simp[Op.equal,Op.maxDepth,this 9999]
abbrev vmO(gm R:Nat):Value:=.slice (some ⟨gm,0,none⟩) R R
def Lm'(S:Nat->Prop)(B:Nat)(iv:Iv)(gm R:Nat)(rv:List Value)(g:Nat):Prop:=Cv S B iv g∧¬Mb (vmO gm R) rv g
structure aAr(w:World)(S:Nat->Prop)(B:Nat)(iv:Iv)(gm R n:Nat)(rv:List Value)(M:List (List Rat)):Prop where
 mat:im w (Lm' S B iv gm R rv) (vmO gm R) rv n M
 vH:∀g,Mb (vmO gm R) rv g->Cv FF B iv g
 rows:rv.length=R
section
variable{S S':Nat->Prop}{H:Hp}{nx gm R n:Nat}{iv iv':Iv}{B:Nat}{w w' w2:World}{O:Nat->Sx.dw}{rv:List Value}{M:List (List Rat)}
structure aBF(w:World)(S:Nat->Prop)(B:Nat)(iv:Iv)(gm R n:Nat)(rv:List Value)(M:List (List Rat))(i:Nat)(vb:Value):Prop where
 out:w.ownsRow 0 T.row 1 (vmO gm R) R (rv.set i vb)
 was:∃w0,aAr w0 S B iv gm R n rv M∧∀g,Cv S B iv g->g≠gm->w.heap[g]? =w0.heap[g]?
end
section
variable{S:Nat->Prop}{H:Hp}{nx gm R:Nat}{iv iv':Iv}{B:Nat}{w w' w2:World}{O:Nat->Sx.dw}{rv:List Value}{css:List (List Value)}{qs:List Rat}
end
inductive Tp where
 |nil
 |x (i:Nat) (t:Tp)
 |two (i:Nat) (t:Tp) (j:Nat) (u:Tp)
 |wI (id:Nat) (t:Tp)
section
variable{P:Program}{τ:nF}{ops:Array Oper}{B n nx:Nat}{l:Env}{H:Hp}{iv:Iv}{w w':World}{O:Nat->Sx.dw}{a:Act}
end
theorem uc{l tl:Env}{nx t id n:Nat}(hn:(O id).nil=false)(ht:fu l t=some (.o (.w id n)))(h1:Ea l tl)(h2:kF nx tl):∀u v,fu ((t,.o (.v (.slice (some ⟨(O id).g,0,none⟩) n (O id).cap)))::tl) u=some v->v.sc nx∧∃v',fu l u=some v'∧v'.den O=v.den O:=fun u v hv=>by
 rw[fA]at hv;split at hv
 ·rename_i e;subst e;injection hv with hv;subst hv;exact⟨trivial,_,ht,by simp[SV.den,At.den,hn]⟩
 ·exact⟨h2.get u v hv,v,h1.get u v hv,rfl⟩
theorem NI{H:Hp}{nx:Nat}{iv:Iv}{B:Nat}{w w':World}(r:Rel H nx iv B w O w'){id t m sz:Nat}(h:dD H id=some (.vec t sz cs))(hm:cs.length=m*sz)(Qx:m<=maxLen)(hs:0<sz)(h0:0<m)(h1:∀u∈cs,u.oneCell'=true):
  (O id).nil=false∧B<=(O id).g∧iR w' (fun g=>g=(O id).g) sz (.slice (some ⟨(O id).g,0,none⟩) m (O id).cap) cs m:=by
 rcases r.vec id t sz _ h with⟨hn,rfl⟩|⟨hn,spare,hb,hc,QS⟩
 ·have:=Nat.mul_pos h0 hs;simp at hm;omega
 ·refine⟨hn,(r.low id _ h hn).1,Qx,hm,h1,some ⟨(O id).g,0,none⟩,(O id).cap,rfl,?_,fun j x hx=>⟨_,rfl,rfl,?_⟩⟩
  ·have h1:(cs++spare).length=cs.length+spare.length:=List.length_append;have h2:m*sz<=(O id).cap*sz:=by omega
   exact bw h2 hs
  ·rw[dI,cell_of hb,aW,aK (aE.1 hx).1];exact hx
end Go.Ex
namespace Go.Ex
variable{P r z:List Rat}
theorem zN(a:Rat)(y z:List Rat):∀i,dT (a::y) z (i+1)=a*z.getD 0 0+dT y z.tail i
 |0=>by show 0+a*z.getD 0 0=_+0;rw[Rat.zero_add,bQ]
 |i+1=>by
  have h:z.tail.getD i 0=z.getD (i+1) 0:=by cases z<;>rfl
  rw[dT,zN a y z i,dT,Rat.add_assoc,h];rfl
theorem CG:∀(y z:List Rat),mu y (fun t=>z.getD t 0)=dT y z y.length
 |[],z=>rfl
 |a::y,z=>by
  have h:(fun j=>z.getD (j+1) 0)=fun j=>z.tail.getD j 0:=funext fun j=>by cases z<;>rfl
  show a*z.getD 0 0+mu y (fun j=>z.getD (j+1) 0)=_;rw[h,CG y z.tail];exact(zN a y z y.length).symm
theorem pr(k:Rat)(y z:List Rat):∀i,dT (y.map (· *k)) z i=dT y z i*k
 |0=>(bI k).symm
 |i+1=>by
  rw[dT,dT,pr k y z i,sY,Rat.add_mul,Rat.mul_assoc,bs k,<-Rat.mul_assoc]
theorem Hy:∀(R:Nat) (φ:Nat->Rat),mu (List.replicate R 0) φ=0
 |0,_=>rfl
 |R+1,φ=>by
  rw[List.replicate_succ];show 0*φ 0+mu (List.replicate R 0) _=0;rw[Hy R,bI,Rat.zero_add]
theorem Es:∀(R i:Nat) (φ:Nat->Rat),i<R->mu (kY R i) φ=φ i
 |0,_,_,h=>by omega
 |R+1,0,φ,_=>by
  show mu ((List.replicate (R+1) 0).set 0 1) φ=_;rw[List.replicate_succ];show 1*φ 0+mu (List.replicate R 0) _=φ 0;rw[Hy R,bz,bQ]
 |R+1,i+1,φ,h=>by
  show mu ((List.replicate (R+1) 0).set (i+1) 1) φ=_;rw[List.replicate_succ];show 0*φ 0+mu (kY R i) _=φ (i+1);rw[Es R i _ (by omega),bI,Rat.zero_add]
theorem JB(R i:Nat):(kY R i).length=R:=by simp[kY]
section
variable{M:List (List Rat)}{b:List Rat}{n:Nat}
theorem lV(hl:gX n M):gX (n+1+M.length) (fH M b):=fun r hr=>by
 obtain⟨i,hi⟩:=aN hr;unfold fH at hi;rw[List.getElem?_mapIdx]at hi
 cases hx:M[i]? with
 |none=>rw[hx]at hi;cases hi
 |some x=>
  rw[hx]at hi;injection hi with hi;subst hi;rw[List.length_append,List.length_cons,JB,hl x (aD hx)];omega
theorem Et(hl:gX n M){c cols:Nat}(hc:c<n+1)(hz:∀(i:Nat) r,(fH M b)[i]? =some r->r.getD c 0=z.getD i 0)(hr:r∈(cN (fH M b) cols).1):r.getD c 0=dT (r.drop (n+1)) z M.length:=by
 have key:∀x:List Rat,x.length=n+1+M.length->mu x (fun t=>if t<n+1 then(if t=c then 1 else 0)else -z.getD (t-(n+1)) 0)=x.getD c 0+ -mu (x.drop (n+1)) (fun t=>z.getD t 0):=fun x hx=>by
  have ht:(x.take (n+1)).length=n+1:=by rw[ai];omega
  conv=>lhs;rw[<-List.take_append_drop (n+1) x]
  rw[zJ,ht];congr 1
  ·rw[vP (ψ:=fun t=>if t=c then 1 else 0) _ fun j hj=>if_pos (by omega),Hw,rF hc]
  ·rw[<-Hx];exact vP _ fun j hj=>by rw[aJ (by omega),Nat.add_sub_cancel_left]
 have hlen:=mL (cols:=cols) (lV (b:=b) hl) r hr
 have h1:=Er (lV (b:=b) hl) (φ:=fun t=>if t<n+1 then(if t=c then 1 else 0)else -z.getD (t-(n+1)) 0) (fun x hx=>by
  rw[key x (lV hl x hx)];obtain⟨i,hi⟩:=aN hx;rw[hz i x hi];unfold fH at hi;rw[List.getElem?_mapIdx]at hi
  cases hx':M[i]? with
  |none=>rw[hx']at hi;cases hi
  |some y=>
   rw[hx']at hi;injection hi with hi;subst hi;have hy:=hl y (aD hx');have hiM:=(aE.1 hx').1
   rw[show (y++b.getD i 0::kY M.length i).drop (n+1)=kY M.length i by rw[<-hy,List.drop_append];simp,Es _ _ _ hiM,Rat.add_neg_cancel]) cols r hr
 rw[key r hlen,CG,List.length_drop,hlen,Nat.add_sub_cancel_left]at h1;generalize r.getD c 0=x at*
 rw[<-bQ x,<-Rat.neg_add_cancel (dT (r.drop (n+1)) z M.length),<-Rat.add_assoc,h1,Rat.zero_add]
theorem DL(hl:gX n M){j:Nat}(hj:(cN (fH M b) n).2.length<=j)(Sa:j<M.length)(h0:dK (cN (fH M b) n).1 j n≠0)
  (hP:P=(((cN (fH M b) n).1.getD j []).drop (n+1)).map (· *(1 / dK (cN (fH M b) n).1 j n))):P.length=M.length∧(∀q∈te P M n M.length,q=0)∧dT P b P.length=1:=by
 have hA:(cN (fH M b) n).1.length=M.length:=by rw[<-kZ M b];exact fR _ _
 have hr:(cN (fH M b) n).1.getD j []∈(cN (fH M b) n).1:=pq (by omega);have hlen:=mL (cols:=n) (lV (b:=b) hl) _ hr;have Q5:=eX (lV (b:=b) hl) n (by omega);have hPl:P.length=M.length:=by rw[hP,aL,List.length_drop,hlen];omega
 refine⟨hPl,fun q hq=>?_,?_⟩
 ·obtain⟨c,hc,rfl⟩:=aV.1 hq;have hc:=List.mem_range.1 hc;rw[hP,pr,<-Et hl (z:=zO M c) (c:=c) (by omega) (fun i r hi=>?_) hr,show((cN (fH M b) n).1.getD j []).getD c 0=0 from Q5.2.2.1 j c hj (by omega) hc,bI];unfold fH at hi;rw[List.getElem?_mapIdx]at hi
  cases hx:M[i]? with
  |none=>rw[hx]at hi;cases hi
  |some y=>
   rw[hx]at hi;injection hi with hi;subst hi;have hy:=hl y (aD hx);simp only[zO,List.getD,aM,hx,bf,Option.getD_some]
   rw[aK (by omega)]
 ·rw[hPl,hP,pr,<-Et hl (z:=b) (c:=n) (by omega) (fun i r hi=>?_) hr]
  ·exact td h0
  unfold fH at hi;rw[List.getElem?_mapIdx]at hi
  cases hx:M[i]? with
  |none=>rw[hx]at hi;cases hi
  |some y=>
   rw[hx]at hi;injection hi with hi;subst hi;have hy:=hl y (aD hx);simp only[List.getD]
   rw[aO (by omega),hy,bK];rfl
def eE(M:List (List Rat))(b:List Rat):List (List Rat):=M.mapIdx fun i r=>r++[b.getD i 0]
theorem jE(hl:gX n M):gX (n+1) (eE M b):=fun r hr=>by
 obtain⟨i,hi⟩:=aN hr;unfold eE at hi;rw[List.getElem?_mapIdx]at hi
 cases hx:M[i]? with
 |none=>rw[hx]at hi;cases hi
 |some x=>
  rw[hx]at hi;injection hi with hi;subst hi;rw[List.length_append,hl x (aD hx)];rfl
theorem fP:(eE M b).length=M.length:=by simp[eE]
theorem KY(hl:gX n M):tk (n+1) (fH M b)=eE M b:=by
 refine bH fun i=>?_;unfold tk fH eE;rw[aM,List.getElem?_mapIdx,List.getElem?_mapIdx]
 cases hx:M[i]? with
 |none=>rfl
 |some x=>
  have hy:=hl x (aD hx);simp only[bf]
  congr 1;rw[List.take_append,List.take_of_length_le (by omega),hy,Nat.add_sub_cancel_left];rfl
theorem rn(hl:gX n M):cN (eE M b) n=(tk (n+1) (cN (fH M b) n).1,(cN (fH M b) n).2):=by
 have:=zI (M:=fH M b) (w:=n+1) n (by omega);rw[KY hl]at this;exact this
end
theorem JC(A:List (List Rat))(pv:List Nat)(n i:Nat):fD (tk (n+1) A) pv n i=fD A pv n i:=by
 unfold fD;simp only[zH (bY n)]
end Go.Ex
namespace Go.Ex
open Go Go.Sx Go.Proofs
variable{q:Rat}
section
variable{S:Nat->Prop}{H:Hp}{nx:Nat}{iv0:Iv}{B:Nat}{w w' w2:World}{O:Nat->Sx.dw}{v:Value}{xs:List Rat}
end
theorem lk:rs q<0↔q<0:=by rw[rs,Int.sign_neg_iff,<-Int.not_le,Rat.num_nonneg,Rat.not_le]
theorem ot:0<rs q↔0<q:=by
 have h:=lk (q:= -q);rw[aAD]at h;constructor
 ·intro k;have:=h.1 (by omega);grind
 ·intro k;have:=h.2 (by grind);omega
end Go.Ex
namespace Go.Ex
variable{E M:List (List Rat)}{pv:List Nat}{l r:List Rat}{B C j:Nat}{u v:Nat->Rat}{d p q:Rat}
def kK:List Nat->(Nat->Rat)->Rat
 |[],_=>0
 |t::l,g=>g t+kK l g
theorem zP{g h:Nat->Rat}:∀{l:List Nat},(∀t∈l,g t=h t)->kK l g=kK l h
 |[],_=>rfl
 |t::l,e=>by show g t+_=h t+_;rw[e t aG,zP fun s hs=>e s (aC _ hs)]
theorem CH{g:Nat->Rat}:∀{l:List Nat},(∀t∈l,g t=0)->kK l g=0
 |[],_=>rfl
 |t::l,e=>by show g t+_=0;rw[e t aG,CH fun s hs=>e s (aC _ hs),bQ]
theorem wk(g:Nat->Rat):∀l k:List Nat,kK (l++k) g=kK l g+kK k g
 |[],k=>(Rat.zero_add _).symm
 |t::l,k=>by show g t+kK (l++k) g=g t+kK l g+kK k g;rw[wk g l k,Rat.add_assoc]
theorem Eu(g:Nat->Rat):∀l:List Nat,kK l (fun t=> -g t)= -kK l g
 |[]=>rfl
 |t::l=>by show -g t+kK l _= -(g t+kK l g);rw[Eu g l,Rat.neg_add]
theorem wm(p:Nat->Bool)(g:Nat->Rat):∀l:List Nat,kK l g=kK (l.filter p) g+kK (l.filter fun t=> !p t) g
 |[]=>(bQ 0).symm
 |t::l=>by
  show g t+kK l g=_;rw[wm p g l,List.filter_cons,List.filter_cons]
  cases p t with
  |true=>show _=g t+_+_;rw[Rat.add_assoc];rfl
  |false=>
   show _=kK (l.filter p) g+(g t+_)
   rw[<-Rat.add_assoc,Rat.add_comm (g t),Rat.add_assoc]
theorem zQ{g:Nat->Rat}{s:Nat}:∀{l:List Nat},l.Nodup->s∈l->(∀t∈l,t≠s->g t=0)->kK l g=g s
 |[],_,hm,_=>by cases hm
 |t::l,hn,hm,h=>by
  show g t+kK l g=g s;have Rx:=List.nodup_cons.1 hn;rcases List.mem_cons.1 hm with rfl|hm
  ·rw[CH fun u hu=>h u (aC _ hu) fun e=>Rx.1 (e▸hu),bQ]
  ·rw[h t aG (fun e=>Rx.1 (e▸hm)),Rat.zero_add,zQ Rx.2 hm fun u hu=>h u (aC _ hu)]
theorem zR{i t:Nat}{v:Rat}:(l.set i v).getD t 0=if i=t∧i<l.length then v else l.getD t 0:=by
 simp only[List.getD,List.getElem?_set]
 by_cases h:i=t
 ·subst h;by_cases hl:i<l.length
  ·simp[hl]
  ·simp[hl]
 ·simp[h]
theorem zS{F:Nat->List Rat}{pv:List Nat}{f:Nat->Rat}(hF:∀i,F (i+1)=(F i).set (pv.getD i 0) (f i)){t:Nat}(ht:t∉pv):∀i,i<=pv.length->(F i).getD t 0=(F 0).getD t 0
 |0,_=>rfl
 |i+1,h=>by
  rw[hF,zR,aJ fun e=>ht (by rw[<-e.1,List.getD,aA (by omega)];exact ah _)];exact zS hF ht i (by omega)
theorem KZ(hp:pv.Pairwise (· < ·)){i:Nat}(Pj:j<i)(hi:i<pv.length):pv.getD j 0<pv.getD i 0:=by
 rw[List.getD,List.getD,aA hi,aA (by omega)];exact List.pairwise_iff_getElem.1 hp j i _ _ Pj
theorem oN{F:Nat->List Rat}{pv:List Nat}{f:Nat->Rat}{n:Nat}(hF:∀i,F (i+1)=(F i).set (pv.getD i 0) (f i))(hl:∀i,(F i).length=n)(hp:pv.Pairwise (· < ·))(hn:∀p∈pv,p<n){j:Nat}:∀i,i<=pv.length->j<i->(F i).getD (pv.getD j 0) 0=f j
 |0,_,h=>by omega
 |i+1,h,hj=>by
  rw[hF,zR];rcases aS j i with h1|h1
  ·have:=KZ hp h1 (by omega);rw[aJ (by omega)];exact oN hF hl hp hn i (by omega) h1
  ·have e:j=i:=by omega
   subst e;have hm:pv.getD j 0<(F j).length:=by rw[hl];exact hn _ (by rw[List.getD,aA (by omega)];exact ah _)
   rw[if_pos ⟨rfl,hm⟩]
def fM(M:List (List Rat))(x:List Rat):List Rat:=M.map fun r=>dT r x r.length
abbrev jX(pv:List Nat)(n:Nat):List Nat:=(List.range n).filter fun c=>decide (c∉pv)
section
variable{M:List (List Rat)}{x:List Rat}{n:Nat}
end
structure Diff(A:List (List Rat))(pv:List Nat)(n:Nat)(x:List Rat):Prop where
 up:pv.Pairwise (· < ·)
 lt:∀p∈pv,p<n
 le:pv.length<=A.length
 unit:∀i j,i<pv.length->j<A.length->dK A j (pv.getD i 0)=if j=i then 1 else 0
 sum:∀j,j<A.length->kK (List.range n) (fun t=>dK A j t*x.getD t 0)=dK A j n
section
variable{A:List (List Rat)}{pv:List Nat}{n:Nat}{x:List Rat}
theorem sZ{t:Nat}(h:t∈pv):∃j,j<pv.length∧pv.getD j 0=t:=by
 obtain⟨j,hj,rfl⟩:=List.mem_iff_getElem.1 h;exact⟨j,hj,by rw[List.getD,aA hj];rfl⟩
theorem pt{c t:Nat}(ht:t∉pv)(hc:c<n):(fo A pv n c pv.length).getD t 0=if t=c then 1 else 0:=by
 rw[zS (F:=fo A pv n c) (fun i=>gI A pv n c i) ht _ (Nat.le_refl _)];show((List.replicate n (0:Rat)).set c 1).getD t 0=_;rw[zR,bc];by_cases h:c=t
 ·rw[if_pos ⟨h,hc⟩,if_pos h.symm]
 ·rw[aJ (fun e=>h e.1),aJ (fun e=>h e.symm)];simp only[List.getD,List.getElem?_replicate]
  split<;>rfl
theorem Diff.kin(h:Diff A pv n x){c:Nat}(hj:j<pv.length):(fo A pv n c pv.length).getD (pv.getD j 0) 0= -(dK A j c):=
 oN (F:=fo A pv n c) (f:=fun i=> -(dK A i c)) (fun i=>gI A pv n c i) (j3 A pv n c) h.up h.lt _ (Nat.le_refl _) hj
theorem tf{t:Nat}(ht:t∉pv):(fD A pv n pv.length).getD t 0=0:=by
 rw[zS (F:=fD A pv n) (fun i=>gJ A pv n i) ht _ (Nat.le_refl _)];show(List.replicate n (0:Rat)).getD t 0=0;simp only[List.getD,List.getElem?_replicate]
 split<;>rfl
theorem Diff.xin(h:Diff A pv n x)(hj:j<pv.length):(fD A pv n pv.length).getD (pv.getD j 0) 0=dK A j n:=
 oN (F:=fD A pv n) (f:=fun i=>dK A i n) (fun i=>gJ A pv n i) (j4 A pv n) h.up h.lt _ (Nat.le_refl _) hj
theorem s3:(jX pv n).Nodup:=List.Pairwise.filter _ List.nodup_range
theorem lW{c:Nat}:c∈jX pv n↔c<n∧c∉pv:=by
 unfold jX;rw[List.mem_filter,List.mem_range,decide_eq_true_eq]
theorem Diff.rest(h:Diff A pv n x){t:Nat}(ht:t<n):x.getD t 0+(fD A pv n pv.length).getD t 0* -1=kK (jX pv n) fun c=>x.getD c 0*(fo A pv n c pv.length).getD t 0:=by
 by_cases hp:t∈pv
 ·obtain⟨j,hj,rfl⟩:=sZ hp;have hs:=h.sum j (Nat.lt_of_lt_of_le hj h.le);rw[wm (fun c=>decide (c∉pv)),zQ (s:=pv.getD j 0) (l:=(List.range n).filter fun t=> !decide (t∉pv)) (List.Pairwise.filter _ List.nodup_range) (List.mem_filter.2 ⟨List.mem_range.2 ht,by rw[bP fun e=>e hp];rfl⟩) (fun s hs OY=>?_),h.unit j j hj (Nat.lt_of_lt_of_le hj h.le),if_pos rfl,bz]at hs
  ·rw[h.xin hj,zP (h:=fun c=> -(dK A j c*x.getD c 0)) fun c hc=>by rw[h.kin hj,Rat.mul_neg,bs],Eu,<-hs];generalize x.getD (pv.getD j 0) 0=q;generalize kK _ _=s;rw[Rat.mul_neg,Rat.mul_one,Rat.neg_add,<-Rat.add_assoc,Rat.add_comm q,Rat.add_assoc,Rat.add_neg_cancel,bQ]
  ·have Qa:s∈pv:=by simpa using(List.mem_filter.1 hs).2
   obtain⟨i,hi,rfl⟩:=sZ Qa;rw[h.unit i j hi (Nat.lt_of_lt_of_le hj h.le),aJ (fun e=>OY (by rw[e])),bI]
 ·rw[tf hp,bI,bQ,zQ (s:=t) s3 (lW.2 ⟨ht,hp⟩) fun c hc OY=>by rw[pt hp (lW.1 hc).1,aJ (Ne.symm OY),bD],pt hp ht,if_pos rfl,Rat.mul_one]
theorem pw{k:Nat}(hk:k<(jX pv n).length):(jX pv n).getD k 0∈jX pv n:=by rw[List.getD,aA hk];exact ah hk
theorem oO{k:Nat}(h:(dP A pv n n)[k]? =some r):k<(jX pv n).length∧r=fo A pv n ((jX pv n).getD k 0) pv.length:=by
 unfold dP at h;rw[aM]at h;obtain⟨c,hc,rfl⟩:=Option.map_eq_some_iff.1 h;refine⟨(aE.1 hc).1,?_⟩;rw[List.getD,hc];rfl
theorem Ka{i k:Nat}(hi:i<(jX pv n).length)(hk:k<(jX pv n).length)(e:(jX pv n).getD i 0=(jX pv n).getD k 0):i=k:=by
 rw[List.getD,List.getD,aA hi,aA hk]at e;rcases cA i k with h|h|h
 ·exact absurd e (List.pairwise_iff_getElem.1 s3 i k hi hk h)
 ·exact h
 ·exact absurd e.symm (List.pairwise_iff_getElem.1 s3 k i hk hi h)
theorem zT{k i:Nat}{s:List Rat}(hr:(dP A pv n n)[k]? =some r)(hs:(dP A pv n n)[i]? =some s):s.getD ((jX pv n).getD k 0) 0=if i=k then 1 else 0:=by
 obtain⟨hk,-⟩:=oO hr;obtain⟨hi,rfl⟩:=oO hs;have hm:=lW.1 (pw hk);rw[pt hm.2 (lW.1 (pw hi)).1];by_cases h:i=k
 ·rw[h,if_pos rfl,if_pos rfl]
 ·rw[aJ (fun e=>h (Ka hi hk e.symm)),aJ h]
end
theorem nN(f:Nat->Nat->Rat)(m:Nat):∀n,dJ (fun i=>dJ (f i) m) n=dJ (fun j=>dJ (fun i=>f i j) n) m
 |0=>(eM m).symm
 |n+1=>by
  show dJ (fun i=>dJ (f i) m) n+dJ (f n) m=dJ (fun j=>dJ (fun i=>f i j) n+f n j) m;rw[iI,nN f m n]
theorem oQ(x y:List Rat):∀n,dT x y n=dJ (fun t=>x.getD t 0*y.getD t 0) n
 |0=>rfl
 |n+1=>by rw[dT,oQ x y n];rfl
theorem wv{f:Nat->Rat}:∀{n:Nat},(∀k,k<n->0<=f k)->0<=dJ f n
 |0,_=>Rat.le_refl
 |n+1,h=>by
  have h1:=wv (n:=n) fun k hk=>h k (by omega);have h2:=h n (by omega);show 0<=dJ f n+f n;grind
theorem wy{f:Nat->Rat}:∀{n:Nat},(∀k,k<n->0<=f k)->dJ f n<=0->∀k,k<n->f k=0
 |0,_,_,k,hk=>by omega
 |n+1,h,h0,k,hk=>by
  have h1:=wv (n:=n) fun k hk=>h k (by omega);have h2:=h n (by omega);have h3:dJ f n+f n<=0:=h0;rcases aS k n with h4|h4
  ·exact wy (fun k hk=>h k (by omega)) (by grind) k h4
  ·rw[show k=n by omega];grind
section
variable{m m':Mx}{n w p:Nat}{κ:Rat}{q:Nat->Rat}
end
def eQ(E:Mx)(r n:Nat)(v:Nat->Rat):Prop:=∃c:Nat->Rat,∀t,t<n->v t=dJ (fun i=>c i*E i t) r
structure Rf(E:Mx)(p:Nat->Nat)(r n:Nat):Prop where
 lt:∀i,i<r->p i<n
 mono:∀i j,i<j->j<r->p i<p j
 unit:∀i j,i<r->j<r->E j (p i)=if j=i then 1 else 0
 lead:∀i t,i<r->t<p i->E i t=0
section
variable{E F:Mx}{p q:Nat->Nat}{r s n:Nat}{v:Nat->Rat}
theorem Rf.coeff(h:Rf E p r n)(hv:eQ E r n v):∀t,t<n->v t=dJ (fun i=>v (p i)*E i t) r:=by
 obtain⟨c,hc⟩:=hv;intro t ht;rw[hc t ht];refine cR fun i hi=>?_;rw[hc (p i) (h.lt i hi),gh hi fun k hk OY=>by rw[h.unit i k hi hk,aJ OY,bD],h.unit i i hi hi,if_pos rfl,Rat.mul_one]
theorem Rf.Mk(h:Rf E p r n)(hv:eQ E r n v){t:Nat}(ht:t<n)(h0:v t≠0)(hz:∀k,k<t->v k=0):∃i,i<r∧p i=t:=by
 refine Decidable.byContradiction fun SD=>h0 ?_;rw[h.coeff hv t ht,cR (g:=fun _=>0) fun i hi=>?_,eM];rcases cA (p i) t with h1|h1|h1
 ·rw[hz _ h1,bI]
 ·exact absurd ⟨i,hi,h1⟩ SD
 ·rw[h.lead i t hi h1,bD]
theorem Rf.Np(h:Rf E p r n)(k:Rf F q s n)(hE:∀i,i<r->eQ F s n (E i)){i:Nat}(hi:i<r):∃j,j<s∧q j=p i:=
 k.Mk (hE i hi) (h.lt i hi) (by rw[h.unit i i hi hi,if_pos rfl];decide) fun t ht=>h.lead i t hi ht
theorem Rf.Kd(h:Rf E p r n)(k:Rf F q s n)(hE:∀i,i<r->eQ F s n (E i))(hF:∀j,j<s->eQ E r n (F j)):∀i,i<r->i<s∧p i=q i:=by
 intro i
 induction i using Nat.strongRecOn with
 |ind i ih=>
  intro hi;obtain⟨j,hj,e1⟩:=h.Np k hE hi;have PZ:i<=j:=by
   refine Nat.le_of_not_lt fun PF=>?_;have h1:=(ih j PF (by omega)).2;have h2:=h.mono j i PF hi;omega
  have his:i<s:=by omega
  refine⟨his,?_⟩;obtain⟨l,hl,e2⟩:=k.Np h hF his;have Ts:i<=l:=by
   refine Nat.le_of_not_lt fun PF=>?_;have h1:=(ih l PF hl).2;have h2:=k.mono l i PF his;omega
  have h3:q i<=q j:=by
   rcases aS i j with h4|h4
   ·exact Nat.le_of_lt (k.mono i j h4 hj)
   ·rw[show i=j by omega];exact Nat.le_refl _
  have h5:p i<=p l:=by
   rcases aS i l with h4|h4
   ·exact Nat.le_of_lt (h.mono i l h4 hl)
   ·rw[show i=l by omega];exact Nat.le_refl _
  omega
theorem Rf.one(h:Rf E p r n)(k:Rf F q s n)(hE:∀i,i<r->eQ F s n (E i))(hF:∀j,j<s->eQ E r n (F j)):r=s∧(∀i,i<r->p i=q i)∧∀i t,i<r->t<n->E i t=F i t:=by
 have h1:=h.Kd k hE hF;have h2:=k.Kd h hF hE;have WS:r=s:=by
  rcases cA r s with h3|h3|h3
  ·have:=(h2 r h3).1;omega
  ·exact h3
  ·have:=(h1 s h3).1;omega
 refine⟨WS,fun i hi=>(h1 i hi).2,fun i t hi ht=>?_⟩;rw[k.coeff (hE i hi) t ht,gh (i:=i) (by omega) fun j hj OY=>by rw[<-(h1 j (by omega)).2,h.unit j i (by omega) hi,aJ (Ne.symm OY),bI],<-(h1 i hi).2,h.unit i i hi hi,if_pos rfl,bz]
end
theorem eQ.row{E:Mx}{r n i:Nat}(hi:i<r):eQ E r n (E i):=⟨fun k=>if k=i then 1 else 0,fun t _=>by
 rw[gh hi fun k _ OY=>by simp only[aJ OY,bI]]
 simp only[if_pos,bz]⟩
theorem eQ.add{E:Mx}{r n:Nat}(h:eQ E r n u)(k:eQ E r n v)(x:Rat):eQ E r n fun t=>u t+x*v t:=by
 obtain⟨c,hc⟩:=h;obtain⟨d,hd⟩:=k;refine⟨fun i=>c i+x*d i,fun t ht=>?_⟩;show u t+x*v t=dJ (fun i=>(c i+x*d i)*E i t) r;rw[hc t ht,hd t ht,<-e8,<-iI];exact cR fun i _=>by grind
theorem eQ.mul{E:Mx}{r n:Nat}(h:eQ E r n u)(x:Rat):eQ E r n fun t=>u t*x:=by
 obtain⟨c,hc⟩:=h;refine⟨fun i=>c i*x,fun t ht=>?_⟩;show u t*x=dJ (fun i=>(c i*x)*E i t) r;rw[hc t ht,<-nM];exact cR fun i _=>by grind
theorem eQ.congr{E:Mx}{r n:Nat}(h:eQ E r n u)(e:∀t,t<n->v t=u t):eQ E r n v:=by
 obtain⟨c,hc⟩:=h;exact⟨c,fun t ht=>by rw[e t ht,hc t ht]⟩
theorem eQ.trans{E F:Mx}{r s n:Nat}(h:eQ E r n v)(k:∀i,i<r->eQ F s n (E i)):eQ F s n v:=by
 obtain⟨c,hc⟩:=h;have key:∀m,m<=r->eQ F s n fun t=>dJ (fun i=>c i*E i t) m:=by
  intro m
  induction m with
  |zero=>intro _;exact⟨fun _=>0,fun t _=>by rw[cR (g:=fun _=>0) fun i _=>bI _,eM];rfl⟩
  |succ m ih=>
   intro hm;exact(ih (by omega)).add (k m (by omega)) (c m)
 exact(key r (Nat.le_refl _)).congr fun t ht=>hc t ht
def Ke(s:List (List Rat)×List Nat):Prop:=(∀i j,i<j->j<s.2.length->s.2.getD i 0<s.2.getD j 0)∧∀i t,i<s.2.length->t<s.2.getD i 0->dK s.1 i t=0
theorem Ke.step{n c:Nat}{s:List (List Rat)×List Nat}(h:Ke s)(hr:Red n c s)(hc:c<n):Ke (dX s c):=by
 obtain⟨hl,hle,hz,Qq,hu⟩:=hr;rcases jf c hle with⟨e,-⟩|⟨k,h1,h2,h3,e⟩
 ·rw[e];exact h
 ·obtain⟨r1,r2⟩:=lT hl h1 h2 h3 e;have e2:(dX s c).2=s.2++[c]:=by rw[e]
  have hold:∀i,i<s.2.length->(dX s c).2.getD i 0=s.2.getD i 0:=fun i hi=>by rw[e2,List.getD,aK hi,<-List.getD]
  have Rv:(dX s c).2.getD s.2.length 0=c:=by rw[e2,List.getD,aO (Nat.le_refl _),bK];rfl
  have PF:∀i,i<s.2.length->s.2.getD i 0<c:=fun i hi=>Qq _ (by rw[List.getD,aA hi];exact ah _);have hlen:(dX s c).2.length=s.2.length+1:=by rw[e2];simp
  refine⟨fun i j Pj hj=>?_,fun i t hi ht=>?_⟩
  ·rw[hlen]at hj;rcases aS j s.2.length with h4|h4
   ·rw[hold i (by omega),hold j h4];exact h.1 i j Pj h4
   ·rw[show j=s.2.length by omega,Rv,hold i (by omega)];exact PF i (by omega)
  ·rw[hlen]at hi;rcases aS i s.2.length with h4|h4
   ·rw[hold i h4]at ht;have h5:=PF i h4;rw[r2 i (by omega) (by omega) t (by omega),hz k t h1 h2 (by omega),aJ (by omega),h.2 i t h4 ht,bI,bD,Rat.zero_add]
   ·rw[show i=s.2.length by omega]at ht ⊢;rw[Rv]at ht;rw[r1,hz k t h1 h2 ht,bI]
theorem tj{M:List (List Rat)}{n:Nat}(hl:gX n M):∀cols,cols<=n->Ke (cN M cols)
 |0,_=>⟨fun _ _ _ h=>(by cases h),fun _ _ h=>(by cases h)⟩
 |c+1,h=>by
  have ih:=tj hl c (by omega);have hr:=eX hl c (by omega);unfold cN at ih hr ⊢;rw[bS,List.foldl_append];exact ih.step hr (by omega)
theorem Gl{n:Nat}(hl:gX n M):Rf (dK (cN M n).1) (fun i=>(cN M n).2.getD i 0) (cN M n).2.length n:=by
 obtain⟨h1,h2,h3,h4,h5⟩:=eX hl n (Nat.le_refl _);obtain⟨k1,k2⟩:=tj hl n (Nat.le_refl _);refine⟨fun i hi=>h4 _ (by rw[List.getD,aA hi];exact ah _),k1,fun i j hi hj=>h5 i j hi (by omega),k2⟩
theorem Ml{s:List (List Rat)×List Nat}{c n:Nat}(hl:gX n s.1)(hle:s.2.length<=s.1.length):(∀j,j<s.1.length->eQ (dK s.1) s.1.length n (dK (dX s c).1 j))∧∀j,j<s.1.length->eQ (dK (dX s c).1) s.1.length n (dK s.1 j):=by
 rcases jf c hle with⟨e,-⟩|⟨k,h1,h2,h3,e⟩
 ·rw[e];exact⟨fun j hj=>eQ.row hj,fun j hj=>eQ.row hj⟩
 ·obtain⟨r1,r2⟩:=lT hl h1 h2 h3 e;have hp:s.2.length<s.1.length:=by omega
  have a1:eQ (dK s.1) s.1.length n (dK (dX s c).1 s.2.length):=((eQ.row h2).mul (1 / dK s.1 k c)).congr fun t _=>r1 t;have b1:eQ (dK (dX s c).1) s.1.length n (dK s.1 k):=((eQ.row hp).mul (dK s.1 k c)).congr fun t _=>by rw[r1,Rat.mul_assoc,bs (1 / _),td h3,Rat.mul_one]
  refine⟨fun j hj=>?_,fun j hj=>?_⟩
  ·by_cases h4:j=s.2.length
   ·rw[h4];exact a1
   ·exact((eQ.row (show (if j=k then s.2.length else j)<s.1.length by split<;>omega)).add (eQ.row h2) (-(dK s.1 (if j=k then s.2.length else j) c)*(1 / dK s.1 k c))).congr fun t ht=>by rw[r2 j hj h4 t ht];grind
  ·by_cases h4:j=k
   ·rw[h4];exact b1
   ·obtain⟨i,hi,OY,Pj⟩:∃i,i<s.1.length∧i≠s.2.length∧(if i=k then s.2.length else i)=j:=by
     by_cases h5:j=s.2.length
     ·exact⟨k,h2,fun e6=>h4 (h5.trans e6.symm),by rw[if_pos rfl,h5]⟩
     ·exact⟨j,hj,h5,aJ h4⟩
    refine((eQ.row hi).add (eQ.row hp) (dK s.1 j c)).congr fun t ht=>?_;rw[r2 i hi OY t ht,Pj,r1];grind
theorem lX{M:List (List Rat)}{n:Nat}(hl:gX n M):∀cols,cols<=n->(∀j,j<M.length->eQ (dK M) M.length n (dK (cN M cols).1 j))∧∀j,j<M.length->eQ (dK (cN M cols).1) M.length n (dK M j)
 |0,_=>⟨fun j hj=>eQ.row hj,fun j hj=>eQ.row hj⟩
 |c+1,h=>by
  obtain⟨i1,i2⟩:=lX hl c (by omega);have hr:=eX hl c (by omega);have h1:=fR M c;have h2:=Ml (c:=c) hr.1 hr.2.1;rw[h1]at h2;have e:(cN M (c+1))=dX (cN M c) c:=by unfold cN;rw[bS,List.foldl_append];rfl
  rw[e];exact⟨fun j hj=>(h2.1 j hj).trans i1,fun j hj=>(i2 j hj).trans h2.2⟩
theorem eQ.cut{E:Mx}{r m n:Nat}(h:eQ E m n v)(hz:∀i t,r<=i->i<m->t<n->E i t=0):eQ E r n v:=by
 refine h.trans fun i hi=>?_;rcases aS i r with h1|h1
 ·exact eQ.row h1
 ·exact⟨fun _=>0,fun t ht=>by rw[hz i t h1 hi ht,cR (g:=fun _=>0) fun k _=>bI _,eM]⟩
theorem Ez{n r:Nat}{F:Mx}{q:Nat->Nat}(hl:gX n M)(k:Rf F q r n)(h1:∀i,i<r->eQ (dK M) M.length n (F i))(h2:∀j,j<M.length->eQ F r n (dK M j)):
  (cN M n).2.length=r∧(∀i,i<r->(cN M n).2.getD i 0=q i)∧∀i t,i<r->t<n->dK (cN M n).1 i t=F i t:=by
 obtain⟨a1,a2⟩:=lX hl n (Nat.le_refl _);obtain⟨-,hle,hz,-,-⟩:=eX hl n (Nat.le_refl _);rw[fR]at hle hz;have h:=Gl hl;obtain⟨e1,e2,e3⟩:=h.one k (fun i hi=>(a1 i (by omega)).trans h2) fun j hj=>((h1 j hj).trans a2).cut fun i t hi hm ht=>hz i t hi hm ht;exact⟨e1,fun i hi=>e2 i (by omega),fun i t hi ht=>e3 i t (by omega) ht⟩
structure Ru(E:Mx)(p:Nat->Nat)(r n:Nat):Prop where
 lt:∀i,i<r->p i<n
 inj:∀i j,i<r->j<r->p i=p j->i=j
 unit:∀i j,i<r->j<r->E j (p i)=if j=i then 1 else 0
 lead:∀i t,i<r->t<p i->E i t=0
def mF(E:Mx)(p:Nat->Nat)(r:Nat)(v:Nat->Rat)(k t:Nat):Rat:=v t-dJ (fun i=>if p i<k then v (p i)*E i t else 0) r
theorem Kf(E:Mx)(p:Nat->Nat)(r:Nat)(v:Nat->Rat)(t:Nat):mF E p r v 0 t=v t:=by
 unfold mF;rw[cR (g:=fun _=>0) fun i _=>aJ (by omega),eM];grind
section
variable{E:Mx}{p:Nat->Nat}{r n:Nat}{v:Nat->Rat}
theorem Kg{k t:Nat}(h:∀i,i<r->p i≠k):mF E p r v (k+1) t=mF E p r v k t:=by
 unfold mF;rw[cR fun i hi=>?_];have:=h i hi;by_cases h1:p i<k
 ·rw[if_pos h1,if_pos (by omega)]
 ·rw[aJ h1,aJ (by omega)]
theorem aAE(h:Ru E p r n){i:Nat}(hi:i<r):mF E p r v (p i) (p i)=v (p i):=by
 unfold mF;rw[cR (g:=fun _=>0) fun j hj=>?_,eM]
 ·grind
 ·by_cases h1:p j<p i
  ·rw[if_pos h1,h.unit i j hi hj,aJ (fun e=>by rw[e]at h1;omega),bD]
  ·rw[aJ h1]
theorem Kh(h:Ru E p r n){i t:Nat}(hi:i<r):mF E p r v (p i+1) t=mF E p r v (p i) t+ -(mF E p r v (p i) (p i))*E i t:=by
 rw[aAE h hi];unfold mF;have e:dJ (fun j=>if p j<p i+1 then v (p j)*E j t else 0) r=dJ (fun j=>(if p j<p i then v (p j)*E j t else 0)+(if j=i then v (p i)*E i t else 0)) r:=by
  refine cR fun j hj=>?_;by_cases h1:j=i
  ·subst h1;rw[if_pos (by omega),aJ (by omega),if_pos rfl,Rat.zero_add]
  ·have h2:p j≠p i:=fun e=>h1 (h.inj j i hj hi e);rw[aJ h1,bQ];by_cases h3:p j<p i
   ·rw[if_pos h3,if_pos (by omega)]
   ·rw[aJ h3,aJ (by omega)]
 rw[e,iI,gh hi fun k _ OY=>aJ OY,if_pos rfl];grind
theorem IA(h:Ru E p r n){i:Nat}(hi:i<r):mF E p r v n (p i)=0:=by
 unfold mF;rw[gh hi fun k hk OY=>?_,if_pos (h.lt i hi),h.unit i i hi hi,if_pos rfl]
 ·grind
 ·rw[if_pos (h.lt k hk),h.unit i k hi hk,aJ OY,bD]
end
def kk(E:Mx)(r:Nat)(u:Nat->Rat)(k:Nat):Mx:=fun i t=>if i=r then u t / u k else E i t+ -(E i k)*(u t / u k)
theorem Ru.push{E:Mx}{p:Nat->Nat}{r n k:Nat}(h:Ru E p r n)(hk:k<n)(hu:∀i,i<r->u (p i)=0)(h0:u k≠0)(hz:∀t,t<k->u t=0):
  Ru (kk E r u k) (fun i=>if i=r then k else p i) (r+1) n:=by
 have OY:∀i,i<r->p i≠k:=fun i hi e=>h0 (e▸hu i hi);have Po:u k / u k=1:=by rw[bo,Rat.mul_inv_cancel _ h0]
 have Ok:∀i,i<r->u (p i) / u k=0:=fun i hi=>by rw[hu i hi,bo,bI]
 refine⟨fun i hi=>?_,fun i j hi hj e=>?_,fun i j hi hj=>?_,fun i t hi ht=>?_⟩
 ·split
  ·exact hk
  ·exact h.lt i (by omega)
 ·by_cases h1:i=r
  ·by_cases h2:j=r
   ·omega
   ·rw[if_pos h1,aJ h2]at e;exact absurd e.symm (OY j (by omega))
  ·by_cases h2:j=r
   ·rw[aJ h1,if_pos h2]at e;exact absurd e (OY i (by omega))
   ·rw[aJ h1,aJ h2]at e;exact h.inj i j (by omega) (by omega) e
 ·unfold kk;by_cases h1:i=r
  ·rw[if_pos h1];by_cases h2:j=r
   ·rw[if_pos h2,if_pos (by omega),Po]
   ·rw[aJ h2,aJ (by omega),Po];grind
  ·rw[aJ h1];by_cases h2:j=r
   ·rw[if_pos h2,aJ (by omega),Ok i (by omega)]
   ·rw[aJ h2,Ok i (by omega),bD,bQ];exact h.unit i j (by omega) (by omega)
 ·unfold kk;by_cases h1:i=r
  ·rw[if_pos h1]at ht;rw[if_pos h1,hz t ht,bo,bI]
  ·rw[aJ h1]at ht;rw[aJ h1,h.lead i t (by omega) ht,Rat.zero_add];rcases aS t k with h2|h2
   ·rw[hz t h2,bo,bI,bD]
   ·rw[h.lead i k (by omega) (by omega)];grind
def kG(E:Mx)(r:Nat)(v:Nat->Rat):Mx:=fun i t=>if i=r then v t else E i t
section
variable{E:Mx}{p:Nat->Nat}{r n k:Nat}{u v:Nat->Rat}
theorem JG(i:Nat)(hi:i<r):eQ (kG E r v) (r+1) n (E i):=(eQ.row (show i<r+1 by omega)).congr fun t _=>by unfold kG;rw[aJ (by omega)]
theorem aAF(hu:∀t,t<n->u t=mF E p r v n t)(hl:∀i,i<r->p i<n):eQ (kG E r v) (r+1) n u:=by
 refine⟨fun i=>if i=r then 1 else -(v (p i)),fun t ht=>?_⟩;rw[hu t ht];show mF E p r v n t=dJ (fun i=>(if i=r then 1 else -(v (p i)))*kG E r v i t) r+(if r=r then 1 else -(v (p r)))*kG E r v r t;rw[if_pos rfl,cR (g:=fun i=> -(v (p i)*E i t)) fun i hi=>by unfold kG;rw[aJ (by omega),aJ (by omega),Rat.neg_mul],th];unfold mF kG;rw[if_pos rfl,cR (g:=fun i=>v (p i)*E i t) fun i hi=>if_pos (hl i hi)];grind
theorem Ki(hu:eQ (kG E r v) (r+1) n u):∀i,i<r+1->eQ (kG E r v) (r+1) n (kk E r u k i):=fun i hi=>by
 by_cases h1:i=r
 ·exact(hu.mul (1 / u k)).congr fun t _=>by unfold kk;rw[if_pos h1,bo,bo,bz]
 ·exact((JG i (by omega)).add hu (-(E i k)*(1 / u k))).congr fun t _=>by unfold kk;rw[aJ h1,bo,bo];grind
theorem IB(h0:u k≠0):eQ (kk E r u k) (r+1) n u:=((eQ.row (show r<r+1 by omega)).mul (u k)).congr fun t _=>by
 unfold kk;rw[if_pos rfl,Rat.div_mul_cancel h0]
theorem rG(h0:u k≠0)(i:Nat)(hi:i<r):eQ (kk E r u k) (r+1) n (E i):=((eQ.row (show i<r+1 by omega)).add (IB h0) (E i k / u k)).congr fun t _=>by
 unfold kk;rw[aJ (by omega),bo,bo];grind
theorem CI(h0:u k≠0)(hu:∀t,t<n->u t=mF E p r v n t)(hl:∀i,i<r->p i<n):eQ (kk E r u k) (r+1) n v:=by
 have h1:eQ (kG E r u) (r+1) n v:=by
  refine⟨fun i=>if i=r then 1 else v (p i),fun t ht=>?_⟩;show v t=dJ (fun i=>(if i=r then 1 else v (p i))*kG E r u i t) r+(if r=r then 1 else v (p r))*kG E r u r t;rw[if_pos rfl,cR (g:=fun i=>v (p i)*E i t) fun i hi=>by unfold kG;rw[aJ (by omega),aJ (by omega)]];unfold kG;rw[if_pos rfl,hu t ht];unfold mF;rw[cR (g:=fun i=>v (p i)*E i t) fun i hi=>if_pos (hl i hi)];grind
 refine h1.trans fun i hi=>?_;by_cases h2:i=r
 ·exact(IB h0).congr fun t _=>by unfold kG;rw[if_pos h2]
 ·exact(rG h0 i (by omega)).congr fun t _=>by unfold kG;rw[aJ h2]
end
def mM(row vF:List Rat)(by_:Rat):List Rat:=row.mapIdx (pO (-by_) vF)
theorem tm(row vF:List Rat)(b:Rat):(mM row vF b).length=row.length:=List.length_mapIdx
theorem zX(row vF:List Rat):mM row vF 0=row:=by
 refine bH fun j=>?_;rw[mM,List.getElem?_mapIdx]
 cases row[j]? with
 |none=>rfl
 |some q=>exact congrArg some (by rw[pO,Rat.neg_zero,bI,bQ])
def pE(row:List Rat):Nat->Nat->Nat
 |0,k=>k
 |f+1,k=>if row.getD k 0=0 then pE row f (k+1)else k
def tp(row:List Rat)(cols:Nat):Nat:=pE row cols 0
theorem Kk{row:List Rat}{k:Nat}:∀(f j:Nat),(∀i,j<=i->i<j+k->row.getD i 0=0)->k<=f->(k<f->row.getD (j+k) 0≠0)->pE row f j=j+k:=by
 induction k with
 |zero=>
  intro f j _ _ h
  cases f with
  |zero=>rfl
  |succ f=>rw[pE,aJ (by have:=h (by omega);rwa [cD]at this)];rfl
 |succ k ih=>
  intro f j h0 hf h
  cases f with
  |zero=>omega
  |succ f=>
   rw[pE,if_pos (h0 j (Nat.le_refl _) (by omega)),ih f (j+1) (fun i h1 h2=>h0 i (by omega) (by omega)) (by omega) (fun h1=>by rw[Nat.add_assoc,Nat.add_comm 1 k];exact h (by omega))];omega
theorem IC{row:List Rat}{cols k:Nat}(h0:∀i,i<k->row.getD i 0=0)(hk:k<=cols)(h:k<cols->row.getD k 0≠0):tp row cols=k:=by
 rw[tp,Kk (k:=k) cols 0 (fun i _ h2=>h0 i (by omega)) hk (fun h1=>by rw[aW];exact h h1),aW]
abbrev xg:=List (List Rat)×List (Option Nat)×List Nat
def gD(E:List (List Rat))(at_:List (Option Nat))(row:List Rat):Nat->List Rat
 |0=>row
 |k+1=>match at_.getD k none with
  |some j=>mM (gD E at_ row k) (E.getD j []) ((gD E at_ row k).getD k 0)
  |none=>gD E at_ row k
theorem ia(E:List (List Rat))(at_:List (Option Nat))(row:List Rat):∀k,(gD E at_ row k).length=row.length
 |0=>rfl
 |k+1=>by
  rw[gD];split
  ·rw[tm,ia E at_ row k]
  ·exact ia E at_ row k
def gU(E:List (List Rat))(u:List Rat)(p i:Nat):List (List Rat):=E.mapIdx fun j r=>if j<i then mM r u (r.getD p 0)else r
def kP(cols:Nat)(s:xg)(i:Nat)(row:List Rat):xg:=
 let r:=gD s.1 s.2.1 row cols
 let p:=tp r cols
 if p=cols then s else
  let u:=r.map (· / r.getD p 0)
  (gU s.1 u p s.1.length++[u],s.2.1.set p (some s.1.length),s.2.2++[i])
def iT(M:List (List Rat))(cols:Nat):Nat->xg
 |0=>([],List.replicate cols none,[])
 |i+1=>kP cols (iT M cols i) i (M.getD i [])
def dL(s:xg):Nat->List (List Rat)×List Nat×List Nat
 |0=>([],[],[])
 |k+1=>match s.2.1.getD k none with
  |some r=>((dL s k).1++[s.1.getD r []],(dL s k).2.1++[k],(dL s k).2.2++[s.2.2.getD r 0])
  |none=>dL s k
def eK(M:List (List Rat))(cols:Nat):List (List Rat)×List Nat×List Nat:=dL (iT M cols M.length) cols
structure tq(n cols i:Nat)(s:xg):Prop where
 len:gX n s.1
 at_:s.2.1.length=cols
 vF:s.2.2.length=s.1.length
 lt:∀(k r:Nat),s.2.1[k]? =some (some r)->r<s.1.length
 le:s.1.length<=i
 fr:∀j∈s.2.2,j<i
theorem gG(E:List (List Rat))(u:List Rat)(p i:Nat):(gU E u p i).length=E.length:=List.length_mapIdx
theorem Gm(E:List (List Rat))(u:List Rat)(p:Nat):gU E u p 0=E:=by
 refine bH fun j=>?_;rw[gU,List.getElem?_mapIdx]
 cases E[j]? <;>rfl
theorem FB{u:List Rat}{p i:Nat}(h:E[i]? =some r):(gU E u p i)[i]? =some r:=by
 rw[gU,List.getElem?_mapIdx,h];exact congrArg some (aJ (Nat.lt_irrefl i))
theorem zY{u:List Rat}{p i:Nat}(h:E[i]? =some r):gU E u p (i+1)=(gU E u p i).set i (mM r u (r.getD p 0)):=by
 refine bH fun j=>?_;have hi:=(aE.1 h).1;by_cases hj:i=j
 ·subst hj;rw[aQ (by rw[gG];exact hi),gU,List.getElem?_mapIdx,h];exact congrArg some (if_pos (bY i))
 ·rw[aY hj,gU,gU,List.getElem?_mapIdx,List.getElem?_mapIdx]
  cases E[j]? with
  |none=>rfl
  |some r=>
   have e:(j<i+1)↔(j<i):=by omega
   simp only[bf,e]
theorem JJ{u:List Rat}{p i n:Nat}(h:gX n E):gX n (gU E u p i):=fun r hr=>by
 obtain⟨j,hj⟩:=aN hr;rw[gU,List.getElem?_mapIdx]at hj
 cases hE:E[j]? with
 |none=>rw[hE]at hj;cases hj
 |some x=>
  rw[hE]at hj;have hx:=h x (aD hE);simp only[bf,Option.some.injEq]at hj;subst hj;split
  ·rw[tm];exact hx
  ·exact hx
theorem tq.start(n cols:Nat):tq n cols 0 ([],List.replicate cols none,[]):=
 ⟨(fun r hr=>by cases hr),bc ..,rfl,(fun (k r:Nat) h=>by rw[List.getElem?_replicate]at h;split at h<;>cases h),Nat.le_refl _,fun j hj=>by cases hj⟩
theorem tq.step{n cols i:Nat}{s:xg}(h:tq n cols i s){row:List Rat}(hr:row.length=n):tq n cols (i+1) (kP cols s i row):=by
 unfold kP;dsimp only
 split
 ·exact⟨h.len,h.at_,h.vF,h.lt,Nat.le_succ_of_le h.le,fun j hj=>Nat.lt_succ_of_lt (h.fr j hj)⟩
 ·refine⟨fun r hm=>?_,by simp[h.at_],by simp[h.vF,gG],fun k r hk=>?_,?_,fun j hj=>?_⟩
  ·rcases bE.1 hm with hm|hm
   ·exact JJ h.len r hm
   ·rw[bL]at hm;subst hm;rw[aL,ia,hr]
  ·dsimp only at hk ⊢;rw[List.length_append,gG,List.length_singleton];rw[List.getElem?_set]at hk;split at hk
   ·split at hk
    ·injection hk with hk;injection hk with hk;omega
    ·cases hk
   ·have:=h.lt k r hk;omega
  ·dsimp only
   rw[List.length_append,gG,List.length_singleton];have:=h.le;omega
  ·rcases bE.1 hj with hj|hj
   ·exact Nat.lt_succ_of_lt (h.fr j hj)
   ·rw[bL]at hj;omega
theorem zZ{M:List (List Rat)}{n:Nat}(cols:Nat)(hM:gX n M):∀i,i<=M.length->tq n cols i (iT M cols i)
 |0,_=>tq.start n cols
 |i+1,hi=>by
  have hm:=aA (l:=M) (show i<M.length by omega);refine(zZ cols hM i (by omega)).step ?_;rw[List.getD,hm];exact hM _ (aD hm)
structure eu where
 nodes:List (Int×Int×Int)
 bars:List (Int×Int×Rat)
 cY:List (Int×Int×Rat)
def eu.cols(f:eu):Nat:=f.bars.length+f.cY.length
def eu.node(f:eu)(n:Int):Int×Int×Int:=f.nodes.getD n.toNat (0,0,0)
def s5(f:eu)(b:Int×Int×Rat):List Int:=[(f.node b.2.1).1-(f.node b.1).1,(f.node b.2.1).2.1-(f.node b.1).2.1,(f.node b.2.1).2.2-(f.node b.1).2.2]
def tt(M:List (List Int))(r c:Nat)(d:Int):List (List Int):=M.set r ((M.getD r []).set c ((M.getD r []).getD c 0+d))
def putAt(M:List (List Int))(r c:Nat)(d:Int):List (List Int):=M.set r ((M.getD r []).set c d)
def e9(f:eu)(M:List (List Int))(i:Nat):Nat->List (List Int)
 |0=>M
 |k+1=>
  let b:=f.bars.getD i (0,0,0)
  let d:=(s5 f b).getD k 0
  tt (tt (e9 f M i k) (3*b.1+k).toNat i d) (3*b.2.1+k).toNat i (-d)
def dm(f:eu):Nat->List (List Int)
 |0=>List.replicate (3*f.nodes.length) (List.replicate f.cols 0)
 |i+1=>e9 f (dm f i) i 3
def fN(f:eu):Nat->List (List Int)
 |0=>dm f f.bars.length
 |i+1=>
  let s:=f.cY.getD i (0,0,0)
  putAt (fN f i) (3*s.1+s.2.1).toNat (f.bars.length+i) 1
def gY(f:eu):List (List Int):=fN f f.cY.length
def dH(l:List Int):List Rat:=l.map fun(n:Int)=>(n:Rat)
def cS(f:eu):List (List Rat):=(gY f).map dH
def dY(M:List (List Rat))(cols:Nat):List (List Rat):=(List.range cols).map fun k=>M.map fun r=>r.getD k 0
abbrev Ld:=Int×Int×Int×Int
def ID(s:List Int)(r:Nat)(d:Int):List Int:=s.set r (s.getD r 0+d)
def dR(l:List Rat)(b:Rat):List Rat:=l.map (· *b)
def mO(a b:List Rat):List Rat:=a.mapIdx fun i x=>x*b.getD i 0
def eB(f:eu):List Rat:=f.bars.map (·.2.2)++f.cY.map (·.2.2)
def k6(M:List (List Rat))(b:List Rat):List (List Rat):=M.mapIdx fun i r=>r++[b.getD i 0]
def kQ(M:List (List Rat))(cols:Nat):List (List Rat):=dP (eK M cols).1 (eK M cols).2.1 cols cols
def oR(M:List (List Rat))(b:List Rat)(cols:Nat):Option (List Rat):=
 let e:=eK (k6 M b) (cols+1)
 if cols∈e.2.1 then none else some (fD e.1 e.2.1 cols e.2.1.length)
def ee(st:List (List Rat))(fl:List Rat):List (List Rat):=st.map fun s=>st.map fun r=>dT (mO s fl) r s.length
def hJ(st:List (List Rat))(fl x:List Rat):List Rat:=st.map fun s=> -(dT (mO s fl) x s.length)
def lY(st:List (List Rat))(c x:List Rat):Nat->List Rat
 |0=>x
 |i+1=>(lY st c x i).mapIdx fun k q=>q+c.getD i 0*(st.getD i []).getD k 0
def Ib(B:Nat)(q:Rat):Prop:=∃z:Int,q=(z:Rat)∧z.natAbs<=B
theorem Ib.mono(h:Ib B q)(k:B<=C):Ib C q:=let⟨z,e,b⟩:=h;⟨z,e,aX b k⟩
theorem Ib.add(h:Ib B p)(k:Ib C q):Ib (B+C) (p+q):=by
 obtain⟨z,rfl,b⟩:=h;obtain⟨y,rfl,c⟩:=k;exact⟨z+y,by rw[Rat.intCast_add],by omega⟩
theorem Ib.mul(h:Ib B p)(k:Ib C q):Ib (B*C) (p*q):=by
 obtain⟨z,rfl,b⟩:=h;obtain⟨y,rfl,c⟩:=k;exact⟨z*y,by rw[Rat.intCast_mul],by rw[Int.natAbs_mul];exact Nat.mul_le_mul b c⟩
theorem Ib.neg(h:Ib B p):Ib B (-p):=by
 obtain⟨z,rfl,b⟩:=h;exact⟨-z,by rw[Rat.intCast_neg],by omega⟩
theorem Ib.sub(h:Ib B p)(k:Ib C q):Ib (B+C) (p-q):=by rw[Rat.sub_eq_add_neg];exact h.add k.neg
theorem Ib.zero(B:Nat):Ib B 0:=⟨0,rfl,aR _⟩
theorem Ib.one(h:1<=B):Ib B 1:=⟨1,rfl,h⟩
theorem Ib.int{z:Int}(h:z.natAbs<=B):Ib B (z:Rat):=⟨z,rfl,h⟩
theorem Ib.sum{B:Nat}{f:Nat->Rat}:∀(n:Nat),(∀k,k<n->Ib B (f k))->Ib (n*B) (dJ f n)
 |0,_=>Ib.zero _
 |n+1,h=>by rw[dJ,Nat.succ_mul];exact(Ib.sum n fun k hk=>h k (by omega)).add (h n (by omega))
def fB(B:Nat):Nat->Nat
 |0=>1
 |n+1=>(n+1)*(B*fB B n)
theorem Ib.s4{k:Nat}(h:Ib B q):Ib B (s4 k*q):=by
 unfold Go.Ex.s4;split
 ·rw[show (-1:Rat)*q= -q by grind];exact h.neg
 ·rw[bz];exact h
theorem Ib.det{B:Nat}:∀(n:Nat) {m:Mx},(∀i j,i<n->j<n->Ib B (m i j))->Ib (fB B n) (gC n m)
 |0,_,_=>Ib.one (Nat.le_refl _)
 |n+1,m,h=>by
  unfold gC fB;exact Ib.sum (n+1) fun k hk=>((h 0 k (by omega) hk).mul (Ib.det n fun i j hi hj=>h (i+1) (skip k j) (by omega) (Hz hj))).s4
theorem IE(B n:Nat):B*fB B n<=fB B (n+1):=Nat.le_mul_of_pos_left _ (Nat.succ_pos n)
theorem Mo(h:1<=B)(n:Nat):fB B n<=fB B (n+1):=aX (Nat.le_mul_of_pos_left _ h) (IE B n)
theorem rH{B a:Nat}(h:1<=B):∀{b:Nat},a<=b->fB B a<=fB B b
 |0,k=>by rw[Nat.le_zero.1 k];exact Nat.le_refl _
 |b+1,k=>by
  rcases aS b a with h1|h1
  ·rw[show a=b+1 by omega];exact Nat.le_refl _
  ·exact aX (rH h h1) (Mo h b)
theorem Nq{B R:Nat}:∀{n:Nat},n<=R->fB B n<=(R*B)^n
 |0,_=>Nat.le_refl _
 |n+1,h=>by
  rw[fB,Nat.pow_succ,<-bg,bT _ (R*B)];exact Nat.mul_le_mul (Nat.mul_le_mul_right B h) (Nq (by omega))
theorem Kl{R l n:Nat}(hn:n<=R)(h:R*B<=wt l):ln (fB B n)<=l*n+1:=by
 rw[gT,jQ];have h1:=aX (Nq (B:=B) hn) (Nat.pow_le_pow_left h n);rw[vO,<-Nat.pow_mul]at h1;have h2:=vO (l*n);have h3:=zD (l*n);rw[show 32*l*n=32*(l*n) by rw[bg]]at h1;omega
theorem yU{K:Nat}{D:Rat}(h0:D≠0)(hD:Ib K D)(hq:Ib K (D*q)):rl q<=ln K:=by
 obtain⟨d,rfl,b⟩:=hD;obtain⟨z,e,c⟩:=hq;have hd:d≠0:=fun e=>h0 (by rw[e];rfl);have e2:q=Rat.divInt z d:=by
  rw[Rat.divInt_eq_div,<-e,bo,bs (d:Rat) q,Rat.mul_assoc,Rat.mul_inv_cancel _ h0,Rat.mul_one]
 have:=lM (a:=z) hd;have:=fX b;have:=fX c;rw[e2];omega
theorem JL{n r:Nat}{m:Mx}(h:r<n):gC n (gS m r fun _=>0)=0:=by
 have h1:=nL 1 n r m h (fun _=>0) fun _=>0;rw[show (fun _:Nat=>(0:Rat)+1*0)=fun _=>0 from funext fun _=>by grind]at h1;grind
theorem z6{n r:Nat}{m:Mx}(h:r<n)(c:Nat->Rat)(v:Nat->Nat->Rat):∀s,gC n (gS m r fun j=>dJ (fun k=>c k*v k j) s)=dJ (fun k=>c k*gC n (gS m r (v k))) s
 |0=>JL h
 |s+1=>by
  have h1:=nL (c s) n r m h (fun j=>dJ (fun k=>c k*v k j) s) (v s);rw[z6 h c v s]at h1;exact h1
theorem IF{n a b:Nat}{m:Mx}(hb:b<n)(QP:a<b)(he:∀j,j<n->m a j=m b j):gC n m=0:=by
 obtain⟨b,rfl⟩:∃k,b=k+1:=⟨b-1,by omega⟩
 cases a with
 |zero=>exact oP b n m hb he
 |succ a=>
  have h1:=JF (m:=m) (k:=a) (n:=n) (by omega);rw[oP b n _ hb fun j hj=>?_]at h1
  ·grind
  ·rw[show wu 0 (a+1) 0=a+1 by unfold wu;rw[if_pos rfl],show wu 0 (a+1) (b+1)=b+1 by unfold wu;rw[aJ (by omega),aJ (by omega)]];exact he j hj
theorem FC{n a b:Nat}{m:Mx}(ha:a<n)(hb:b<n)(QP:a≠b)(he:∀j,j<n->m a j=m b j):gC n m=0:=by
 rcases Nat.lt_or_gt_of_ne QP with h|h
 ·exact IF hb h he
 ·exact IF ha h fun j hj=>(he j hj).symm
section
variable{E Z:Mx}{p:Nat->Nat}{r n:Nat}{v:Nat->Rat}
theorem Ru.coeff(h:Ru E p r n)(hv:eQ E r n v):∀t,t<n->v t=dJ (fun i=>v (p i)*E i t) r:=by
 obtain⟨c,hc⟩:=hv;intro t ht;rw[hc t ht];refine cR fun i hi=>?_;rw[hc (p i) (h.lt i hi),gh hi fun k hk OY=>by rw[h.unit i k hi hk,aJ OY,bD],h.unit i i hi hi,if_pos rfl,Rat.mul_one]
def tu(Z:Mx)(p:Nat->Nat)(r:Nat):Rat:=gC r fun j i=>Z (r-1-i) (p (r-1-j))
theorem aAG(h:Ru E p r n)(hZ:∀i,i<r->eQ E r n (Z i)){k t:Nat}(hk:k<r)(ht:t<n):
  tu Z p r*E k t=gC r (gS (fun j i=>Z (r-1-i) (p (r-1-j))) (r-1-k) fun i=>Z (r-1-i) t):=by
 have e:∀i j,i<r->j<r->gS (fun j i=>Z (r-1-i) (p (r-1-j))) (r-1-k) (fun i=>Z (r-1-i) t) i j=gS (fun j i=>Z (r-1-i) (p (r-1-j))) (r-1-k) (fun i=>dJ (fun j=>E j t*Z (r-1-i) (p j)) r) i j:=fun i j hi hj=>by
  unfold gS;split
  ·show Z (r-1-j) t=dJ (fun l=>E l t*Z (r-1-j) (p l)) r;rw[h.coeff (hZ (r-1-j) (by omega)) t ht];exact cR fun l _=>bs _ _
  ·rfl
 rw[jF e,z6 (v:=fun k i=>Z (r-1-i) (p k)) (by omega),gh hk fun j hj OY=>?_]
 ·rw[show gS (fun j i=>Z (r-1-i) (p (r-1-j))) (r-1-k) (fun i=>Z (r-1-i) (p k))=fun j i=>Z (r-1-i) (p (r-1-j))from ?_]
  ·rw[tu,bs]
  ·funext i j
   unfold gS;split
   ·rename_i hi;rw[hi,show r-1-(r-1-k)=k by omega]
   ·rfl
 ·rw[FC (a:=r-1-k) (b:=r-1-j) (by omega) (by omega) (by omega) fun i hi=>?_,bD];unfold gS;rw[if_pos rfl,aJ (by omega)];show Z (r-1-i) (p j)=Z (r-1-i) (p (r-1-(r-1-j)));rw[show r-1-(r-1-j)=j by omega]
theorem aAH(h:Ru E p r n)(hZ:∀i,i<r->eQ E r n (Z i)){t:Nat}(ht:t<n):
  gC (r+1) (fun j i=>if j=0 then Z (r-i) t else Z (r-i) (p (r-j)))=mF E p r (Z r) n t*tu Z p r:=by
 obtain⟨m,hm⟩:∃m:Mx,m=fun j i=>if j=0 then Z (r-i) t else Z (r-i) (p (r-j)):=⟨_,rfl⟩
 obtain⟨w,hw⟩:∃w:Nat->Rat,w=fun i=>if i=0 then mF E p r (Z r) n t else 0:=⟨_,rfl⟩
 rw[<-hm];have OV:∀j,j<r->∀i,m (r-j) i=Z (r-i) (p j):=fun j hj i=>by rw[hm];simp only;rw[aJ (by omega),show r-(r-j)=j by omega]
 have e:∀i j,i<r+1->j<r+1->m i j=gS m 0 (fun i=>w i+1*dJ (fun j=>E j t*m (r-j) i) r) i j:=fun i j hi hj=>by
  unfold gS;split
  ·rename_i h0;subst h0;show m 0 j=w j+1*dJ (fun l=>E l t*m (r-l) j) r;rw[cR (g:=fun l=>E l t*Z (r-j) (p l)) fun l hl=>by rw[OV l hl],bz,hw];simp only
   by_cases VF:j=0
   ·rw[if_pos VF,VF,hm];simp only[if_pos,Nat.sub_zero]
    unfold mF;rw[cR (f:=fun i=>if p i<n then Z r (p i)*E i t else 0) (g:=fun i=>E i t*Z r (p i)) fun l hl=>by rw[if_pos (h.lt l hl),bs]];grind
   ·rw[aJ VF,Rat.zero_add,hm];simp only[if_pos]
    rw[h.coeff (hZ (r-j) (by omega)) t ht];exact cR fun l _=>bs _ _
  ·rfl
 rw[jF e,nL 1 (r+1) 0 m (by omega),z6 (v:=fun k i=>m (r-k) i) (by omega),cR (g:=fun _=>0) fun j hj=>?_,eM,bD,bQ]
 ·rw[gC,gh (i:=0) (by omega) fun k hk OY=>?_]
  ·unfold gS;rw[if_pos rfl,hw];simp only[if_pos]
   rw[show s4 0=1 by decide,bz,tu,jF fun i j hi hj=>?_];rw[aJ (by omega),hm];simp only
   rw[aJ (by omega),show skip 0 j=j+1 by unfold skip;rw[aJ (by omega)],show r-(j+1)=r-1-j by omega,show r-(i+1)=r-1-i by omega]
  ·unfold gS;rw[if_pos rfl,hw];simp only
   rw[aJ OY,bI,bD]
 ·rw[FC (a:=0) (b:=r-j) (by omega) (by omega) (by omega) fun i _=>?_,bD];unfold gS;rw[if_pos rfl,aJ (by omega)]
theorem Mp(d:Rat)(k t:Nat):mF E p r (fun t=>d*v t) k t=d*mF E p r v k t:=by
 unfold mF;rw[cR (g:=fun i=>d*if p i<k then v (p i)*E i t else 0) fun i _=>?_,e8]
 ·grind
 ·split
  ·rw[Rat.mul_assoc]
  ·rw[bD]
theorem Mq(h:Ru E p r n){x:Nat->Rat}(hx:eQ E r n fun t=>v t+ -(x t))(h0:∀i,i<r->x (p i)=0){t:Nat}(ht:t<n):x t=mF E p r v n t:=by
 have h1:=h.coeff hx t ht;unfold mF;rw[cR (g:=fun i=>v (p i)*E i t) fun i hi=>if_pos (h.lt i hi)];rw[cR (g:=fun i=>v (p i)*E i t) fun i hi=>by rw[h0 i hi];grind]at h1;grind
end
structure z7(E:Mx)(p:Nat->Nat)(r n B:Nat)(Z:Mx):Prop where
 ru:Ru E p r n
 sp:∀i,i<r->eQ E r n (Z i)
 ib:∀i t,i<r->t<n->Ib B (Z i t)
 nz:tu Z p r≠0
section
variable{E Z:Mx}{p:Nat->Nat}{r n B k:Nat}{v u:Nat->Rat}
theorem z7.start(E Z:Mx)(p:Nat->Nat)(n B:Nat):z7 E p 0 n B Z:=
 ⟨⟨fun _ h=>(by omega),fun _ _ h=>(by omega),fun _ _ h=>(by omega),fun _ _ h=>(by omega)⟩,fun _ h=>(by omega),fun _ _ h=>(by omega),by show(1:Rat)≠0;decide⟩
theorem z7.push(h:z7 E p r n B Z)(hd:d≠0)(hz:∀t,t<n->Ib B (d*v t))(hu:∀t,t<n->u t=mF E p r v n t)(hk:k<n)(h0:u k≠0)(hl:∀t,t<k->u t=0):
  z7 (kk E r u k) (fun i=>if i=r then k else p i) (r+1) n B fun i t=>if i=r then d*v t else Z i t:=by
 refine⟨h.ru.push hk (fun i hi=>by rw[hu _ (h.ru.lt i hi),IA h.ru hi]) h0 hl,fun i hi=>?_,fun i t hi ht=>?_,?_⟩
 ·by_cases h1:i=r
  ·exact((CI h0 hu h.ru.lt).mul d).congr fun t _=>by simp only[if_pos h1];rw[bs]
  ·exact((h.sp i (by omega)).trans fun j hj=>rG h0 j hj).congr fun t _=>by simp only[aJ h1]
 ·by_cases h1:i=r
  ·simp only[if_pos h1];exact hz t ht
  ·simp only[aJ h1];exact h.ib i t (by omega) ht
 ·have hb:=aAH (Z:=fun i t=>if i=r then d*v t else Z i t) h.ru (fun i hi=>(h.sp i hi).congr fun t _=>by simp only[aJ (Nat.ne_of_lt hi)]) hk;have e1:tu (fun i t=>if i=r then d*v t else Z i t) p r=tu Z p r:=jF fun i j hi hj=>by simp only;rw[aJ (by omega)]
  simp only[if_pos]at hb;rw[Mp,<-hu k hk,e1]at hb;have e2:tu (fun i t=>if i=r then d*v t else Z i t) (fun i=>if i=r then k else p i) (r+1)=d*u k*tu Z p r:=by
   rw[<-hb];refine jF fun i j hi hj=>?_;by_cases h1:i=0
   ·subst h1;simp only[if_true]
    rw[if_pos (show r+1-1-0=r by omega),show r+1-1-j=r-j by omega]
   ·simp only[aJ h1]
    rw[aJ (show ¬r+1-1-i=r by omega),show r+1-1-j=r-j by omega,show r+1-1-i=r-i by omega]
  rw[e2];have Ov:∀{a b:Rat},a≠0->b≠0->a*b≠0:=fun ha hb e=>by
   rcases Rat.mul_eq_zero.1 e with h|h
   ·exact ha h
   ·exact hb h
  exact Ov (Ov hd h0) h.nz
theorem z7.den(h:z7 E p r n B Z):Ib (fB B r) (tu Z p r):=Ib.det r fun i j hi hj=>h.ib _ _ (by omega) (h.ru.lt _ (by omega))
theorem z7.ent(h:z7 E p r n B Z){i t:Nat}(hi:i<r)(ht:t<n):Ib (fB B r) (tu Z p r*E i t):=by
 rw[aAG h.ru h.sp hi ht];refine Ib.det r fun j l hj hl=>?_;unfold gS;split
 ·exact h.ib _ _ (by omega) ht
 ·exact h.ib _ _ (by omega) (h.ru.lt _ (by omega))
theorem z7.Km(h:z7 E p r n B Z){i t:Nat}(hi:i<r)(ht:t<n):rl (E i t)<=ln (fB B r):=yU h.nz h.den (h.ent hi ht)
theorem z7.mF(h:z7 E p r n B Z)(hz:∀t,t<n->Ib B (d*v t))(k:Nat){t:Nat}(ht:t<n):Ib (fB B (r+1)) (d*tu Z p r*mF E p r v k t):=by
 unfold Go.Ex.mF;rw[show ∀a b c s:Rat,a*b*(c-s)=b*(a*c)-(a*b)*s from fun a b c s=>by grind,<-e8,fB,Nat.succ_mul,Nat.add_comm];refine Ib.sub (by rw[bT B];exact h.den.mul (hz t ht)) (Ib.sum r fun i hi=>?_);split
 ·rw[show ∀a b c s:Rat,a*b*(c*s)=(a*c)*(b*s)from fun a b c s=>by grind];exact(hz _ (h.ru.lt i hi)).mul (h.ent hi ht)
 ·rw[bD];exact Ib.zero _
theorem z7.Kn(h:z7 E p r n B Z)(hB:1<=B)(hd:d≠0)(hdB:Ib B d)(hz:∀t,t<n->Ib B (d*v t))(k:Nat){t:Nat}(ht:t<n):Go.Ex.rl (Go.Ex.mF E p r v k t)<=ln (fB B (r+1)):=
 yU (fun e=>by rcases Rat.mul_eq_zero.1 e with e|e;exact hd e;exact h.nz e) ((hdB.mul h.den).mono (IE B r)) (h.mF hz k ht)
end
def DM(M:List (List Rat))(n B:Nat):Prop:=∀j,j<M.length->∃d:Rat,d≠0∧Ib B d∧∀t,t<n->Ib B (d*dK M j t)
end Go.Ex
