/- Texts L6 to X39: lemmas, each with its conditions. -/
import Derived.Test.YtbffinhkognefaaGreatDoorP5
set_option linter.defProp false
namespace Go.Ex
variable{M:List (List Rat)}{s:List (List Rat)×List Nat}{cols h i n:Nat}
def dR(M:List (List Rat))(i c:Nat):Rat:=(M.getD i []).getD c 0
def gL(M:List (List Rat))(c:Nat):Nat->Nat->Nat
 |0,k=>k
 |f+1,k=>if dR M k c=0 then gL M c f (k+1)else k
def fI{α:Type}(d:α)(l:List α)(i j:Nat):List α:=(l.set i (l.getD j d)).set j (l.getD i d)
def Dk(p:Rat)(ps:List Rat)(j:Nat)(q:Rat):Rat:=q+p*ps.getD j 0
def dg(M:List (List Rat))(at_ c i:Nat):List (List Rat):=M.mapIdx λj r=>if j<i/\j≠at_ then r.mapIdx (Dk (-(r.getD c 0)) (M.getD at_ []))else r
def scaled(M:List (List Rat))(at_ c:Nat):List (List Rat):=M.set at_ ((M.getD at_ []).map (· *(1 / dR M at_ c)))
def eY(s:List (List Rat)×List Nat)(c:Nat):List (List Rat)×List Nat:=
 if s.2.length<s.1.length then
  let k:=gL s.1 c (s.1.length-s.2.length) s.2.length
  if k=s.1.length then s else
   let M1:=scaled (fI [] s.1 s.2.length k) s.2.length c
   (dg M1 s.2.length c M1.length,s.2++[c])
 else s
def dF(M:List (List Rat))(cols:Nat):List (List Rat)×List Nat:=(List.range cols).foldl eY (M,[])
def AG{s:List (List Rat)×List Nat}(h:¬s.2.length<s.1.length):∀l:List Nat,l.foldl eY s=s
 |[]=>rfl
 |c::r=>by
  rw[List.foldl_cons];have:eY s c=s:=by rw[eY,aJ h]
  rw[this];exact AG h r
def fO{α:Type}(d:α)(l:List α)(i j:Nat):(fI d l i j).length=l.length:=by simp[fI]
def gR(M:List (List Rat))(a c i:Nat):(dg M a c i).length=M.length:=by simp[dg]
def jb(M:List (List Rat))(a c:Nat):(scaled M a c).length=M.length:=by simp[scaled]
def vG(s:List (List Rat)×List Nat)(c:Nat):(eY s c).1.length=s.1.length:=by
 unfold eY;split
 .dsimp only
  split
  .rfl
  .dsimp only
   rw[gR,jb,fO]
 .rfl
def vH(M:List (List Rat))(c:Nat):∀f k,k<=gL M c f k/\gL M c f k<=k+f
 |0,k=>⟨ae _,ae _⟩
 |f+1,k=>by
  unfold gL;split
  .have:=vH M c f (k+1);omega
  .omega
def vI(M:List (List Rat))(c:Nat):∀f k,gL M c f k<k+f->dR M (gL M c f k) c≠0
 |0,k,h=>by simp[gL]at h
 |f+1,k,h=>by
  unfold gL at h ⊢;split
  .rename_i h0;rw[aM h0]at h;exact vI M c f (k+1) be
  .rename_i h0;exact h0
def zi{c f k:Nat}(h:dR M k c=0):gL M c (f+1) k=gL M c f (k+1):=by rw[gL,aM h]
def zl{c f k:Nat}(h:dR M k c≠0):gL M c (f+1) k=k:=by rw[gL,aJ h]
def vP(M:List (List Rat))(a c:Nat):dg M a c 0=M:=by
 apply av;intro j;simp[dg]
def uG(M:List (List Rat))(a c i:Nat):(dg M a c i)[a]? =M[a]? :=by
 simp only[dg,List.getElem?_mapIdx]
 cases M[a]? <;>simp
def AH(M:List (List Rat))(a c i j:Nat)(h:i<=j):(dg M a c i)[j]? =M[j]? :=by
 simp only[dg,List.getElem?_mapIdx]
 cases M[j]? with
 |none=>rfl
 |some r=>simp;omega
def vQ{a c:Nat}{r:List Rat}(h:M[i]? =some r)(Po:i≠a):(dg M a c i).set i (r.mapIdx (Dk (-(r.getD c 0)) (M.getD a [])))=dg M a c (i+1):=by
 apply av;intro j;have R:=(aH.1 h).1;by_cases RQ:i=j
 .subst RQ;rw[aQ (by rw[gR];exact R)];simp[dg,List.getElem?_mapIdx,h,Po]
 .rw[aX RQ];simp only[dg,List.getElem?_mapIdx]
  have:(j<i)↔(j<i+1):=by omega
  simp[this]
def vR(M:List (List Rat))(a c:Nat):dg M a c a=dg M a c (a+1):=by
 apply av;intro j;simp only[dg,List.getElem?_mapIdx]
 have:(j<a/\j≠a)↔(j<a+1/\j≠a):=by omega
 simp[this]
def Ht(M:List (List Rat))(h:Nat):Prop:=∀r∈M,∀q∈r,rl q+1<=h
def Ht.mono{h':Nat}(H:Ht M h)(k:h<=h'):Ht M h':=λr hr q hq=>aR (H r hr q hq) k
def Ht.at{r:List Rat}(H:Ht M h)(R:M[i]? =some r):∀q∈r,rl q+1<=h:=H r (aG R)
def Ht.swap{j:Nat}(H:Ht M h)(R:i<M.length)(hj:j<M.length):Ht (fI [] M i j) h:=by
 intro r hr;have:r∈M:=by
  unfold fI at hr;rcases bL hr with Y|Y
  .rcases bL Y with I|I
   .exact I
   .rw[I,List.getD,aE hj];exact bm hj
  .rw[Y,List.getD,aE R];exact bm R
 exact H r this
def Dn:rl 1=1:=by decide
def uM{q:Rat}(h:q≠0):rl (1 / q)<=rl q+1:=by
 have:=HY 1 h;rw[Dn]at this;omega
def kU{r:List Rat}(H:∀q∈r,rl q+1<=h)(I:2<=h)(c:Nat):rl (r.getD c 0)+1<=h:=by
 rw[List.getD]
 cases hc:r[c]? with
 |none=>simp;exact aR bv I
 |some q=>simp;exact H q (aG hc)
def Cl{j:Nat}(R:i<M.length)(hj:j<M.length):(fI [] M i j)[i]? =M[j]? :=by
 unfold fI;by_cases h:j=i
 .subst h;rw[aQ (by simpa using R),List.getD,aE R];rfl
 .rw[aX h,aQ R,List.getD,aE hj];rfl
def vK{j c:Nat}(R:i<M.length)(hj:j<M.length):dR (fI [] M i j) i c=dR M j c:=by
 simp only[dR,List.getD,Cl R hj]
def Ht.scaled{a c:Nat}(H:Ht M h)(I:2<=h)(ha:a<M.length)(h0:dR M a c≠0):
  (∀r,(scaled M a c)[a]? =some r->∀q∈r,rl q+1<=2*h)/\∀j r,j≠a->(scaled M a c)[j]? =some r->∀q∈r,rl q+1<=h:=by
 have hA:M[a]? =some M[a]:=aE ha;have Sq:M.getD a []=M[a]:=by rw[List.getD,hA];rfl
 refine⟨λr hr q hq=>?_,λj r hj hr q hq=>?_⟩
 .unfold Go.Ex.scaled at hr;rw[aQ ha]at hr;injection hr with hr;subst hr;obtain⟨p,hp,rfl⟩:=bA.1 hq;rw[Sq]at hp;have Y:=H.at hA p hp;have h3:=j7 p (1 / dR M a c);have h4:=uM h0;have h5:=kU (H.at hA) I c;have h6:dR M a c=M[a].getD c 0:=by rw[dR,Sq]
  rw[h6]at h4 h3;rw[h6];omega
 .unfold Go.Ex.scaled at hr;rw[aX (Ne.symm hj)]at hr;exact H.at hr q hq
def Ht.Dp{a c:Nat}(hA:∀r,M[a]? =some r->∀q∈r,rl q+1<=2*h)(hB:∀j r,j≠a->M[j]? =some r->∀q∈r,rl q+1<=h)(I:2<=h):Ht (dg M a c i) (4*h):=by
 intro r hr q hq;obtain⟨j,hj⟩:=aj hr;simp only[dg,List.getElem?_mapIdx,Option.map_eq_some_iff]at hj;obtain⟨r0,UB,hj⟩:=hj;split at hj
 .rename_i hc;subst hj;obtain⟨x,Z⟩:=aj hq;simp only[List.getElem?_mapIdx,Option.map_eq_some_iff]at Z;obtain⟨q0,hq0,rfl⟩:=Z;have Y:=hB j r0 hc.2 UB q0 (aG hq0);have h3:=kU (hB j r0 hc.2 UB) I c;have h4:rl ((M.getD a []).getD x 0)+1<=2*h:=by
   cases hM:M[a]? with
   |none=>
    have:M.getD a []=[]:=by rw[List.getD,hM];rfl
    rw[this];show rl 0+1<=_;exact aR bv (show 2<=2*h by omega)
   |some ra=>
    have:M.getD a []=ra:=by rw[List.getD,hM];rfl
    rw[this];exact kU (hA ra hM) be x
  unfold Dk;have h5:=AF q0 (-(r0.getD c 0)*(M.getD a []).getD x 0);have h6:=j7 (-(r0.getD c 0)) ((M.getD a []).getD x 0);have h7:=kT (r0.getD c 0);omega
 .subst hj;by_cases Za:j=a
  .subst Za;have:=hA r0 UB q hq;omega
  .have:=hB j r0 Za UB q hq;omega
def Inv(M:List (List Rat))(cols h0:Nat)(s:List (List Rat)×List Nat):Prop:=s.1.length=M.length/\s.2.length<=M.length/\(∀p∈s.2,p<cols)/\Ht s.1 (4^s.2.length*h0)
def Inv.step{h0 c:Nat}(h:Inv M cols h0 s)(hc:c<cols)(I:2<=h0):Inv M cols h0 (eY s c):=by
 obtain⟨Y,h3,h4,h5⟩:=h;unfold eY;split
 .rename_i QU;dsimp only
  split
  .exact⟨Y,h3,h4,h5⟩
  .rename_i K;have hle:=vH s.1 c (s.1.length-s.2.length) s.2.length;have WD:gL s.1 c (s.1.length-s.2.length) s.2.length<s.1.length:=by omega
   have Po:=vI s.1 c (s.1.length-s.2.length) s.2.length be;have WE:2<=4^s.2.length*h0:=aR I (Nat.le_mul_of_pos_left _ (Nat.pow_pos bv));have h6:=h5.swap QU WD;have h7:=h6.scaled (a:=s.2.length) (c:=c) WE (by rw[fO];exact QU) (by rw[vK QU WD];exact Po);refine⟨by dsimp only;rw[gR,jb,fO,Y],by simp;omega,λp hp=>?_,?_⟩
   .dsimp only at hp;rcases az.1 hp with hp|hp
    .exact h4 p hp
    .simp at hp;omega
   .dsimp only
    have:4^(s.2++[c]).length*h0=4*(4^s.2.length*h0):=by
     rw[aU,List.length_singleton,Nat.pow_succ,bX (4^s.2.length) 4,bo]
    rw[this];exact Ht.Dp h7.1 h7.2 WE
 .exact⟨Y,h3,h4,h5⟩
def lM{h0:Nat}(h:Ht M h0)(I:2<=h0):Inv M cols h0 (dF M cols):=by
 have key:∀(l:List Nat) (s:List (List Rat)×List Nat),(∀c∈l,c<cols)->Inv M cols h0 s->Inv M cols h0 (l.foldl eY s):=by
  intro l
  induction l with
  |nil=>intro s _ hs;exact hs
  |cons c r ih=>
   intro s hc hs;rw[List.foldl_cons];exact ih _ (λx Z=>hc x (aD _ Z)) (hs.step (hc c aF) I)
 exact key _ _ (λc hc=>List.mem_range.1 hc) ⟨rfl,aZ _,ce,by simpa using h⟩
def iP(n:Nat)(M:List (List Rat)):Prop:=∀r∈M,r.length=n
def iP.set{r:List Rat}(h:iP n M)(hr:r.length=n):iP n (M.set i r):=λx Z=>by
 rcases bL Z with Y|Y
 .exact h x Y
 .rw[Y];exact hr
def iP.getD(h:iP n M)(R:i<M.length):(M.getD i []).length=n:=by
 rw[List.getD,aE R];exact h _ (bm R)
def iP.step{c:Nat}(h:iP n s.1):iP n (eY s c).1:=by
 unfold eY;split
 .rename_i QU;dsimp only
  split
  .exact h
  .rename_i K;have hle:=vH s.1 c (s.1.length-s.2.length) s.2.length;have WD:gL s.1 c (s.1.length-s.2.length) s.2.length<s.1.length:=by omega
   dsimp only
   generalize gL s.1 c (s.1.length-s.2.length) s.2.length=k at*
   have Y:iP n (fI [] s.1 s.2.length k):=(h.set (h.getD WD)).set (h.getD QU);have I:iP n (scaled (fI [] s.1 s.2.length k) s.2.length c):=Y.set (by rw[aO];exact Y.getD (by rw[fO];exact QU));intro r hr;obtain⟨j,hj⟩:=aj hr;simp only[dg,List.getElem?_mapIdx,Option.map_eq_some_iff]at hj;obtain⟨r0,UB,hj⟩:=hj;have h3:=I r0 (aG UB);split at hj
   .subst hj;rw[List.length_mapIdx];exact h3
   .subst hj;exact h3
 .exact h
def xq(h:iP n M):iP n (dF M cols).1:=by
 have key:∀(l:List Nat) (s:List (List Rat)×List Nat),iP n s.1->iP n (l.foldl eY s).1:=by
  intro l
  induction l with
  |nil=>intro s hs;exact hs
  |cons c r ih=>intro s hs;exact ih _ hs.step
 exact key _ _ h
end Go.Ex
namespace Go.Ex
open Go Go.Sx Go.Proofs
variable{qs':List Rat}{i:Nat}
structure ig(w:World)(S:Nat->Prop)(vm:Value)(rv:List Value)(n:Nat)(M:List (List Rat)):Prop where
 out:w.ownsRow 0 T.row 1 vm rv.length rv
 len:rv.length=M.length
 row:∀(i:Nat) v qs,rv[i]? =some v->M[i]? =some qs->∃U,w.ownsRow 0 T.dN 4 v n U.flatten/\U.length=n/\Fr w S U qs
 HC:∀(i j:Nat) a b g,rv[i]? =some a->rv[j]? =some b->a.ownBlock=some g->b.ownBlock=some g->i=j
 GL:∀v∈rv,∀g,v.ownBlock=some g->vm.ownBlock≠some g
def Mb(vm:Value)(rv:List Value)(g:Nat):Prop:=vm.ownBlock=some g\/∃v∈rv,v.ownBlock=some g
structure Kept(w F:World)(X:Nat->Prop):Prop where
 os:F.os=w.os
 tape:F.tape=w.tape
 output:F.output=w.output
 size:w.heap.size<=F.heap.size
 block:∀k,k<w.heap.size->¬X k->F.heap[k]? =w.heap[k]?
section
variable{S S' X:Nat->Prop}{H:Hp}{nx n:Nat}{iv A:Iv}{B:Nat}{w J F w3:World}{O:Nat->Sx.eD}{vm:Value}{rv:List Value}{M:List (List Rat)}
def Kept.refl:Kept w w X:=⟨rfl,rfl,rfl,lr,λ_ _ _=>rfl⟩
def Kept.trans(h:Kept w F X)(k:Kept F w3 X):Kept w w3 X:=
 ⟨k.os.trans h.os,k.tape.trans h.tape,k.output.trans h.output,aR h.size k.size,λj hj Z=>(k.block j (Nat.lt_of_lt_of_le hj h.size) Z).trans (h.block j hj Z)⟩
def Kept.cg(h:Bel B F w3)(k:Kept w F X)(hB:w.heap.size<=B):Kept w w3 X:=
 ⟨h.os.trans k.os,h.tape.trans k.tape,h.output.trans k.output,aR k.size h.size,λj hj Z=>(h.block j be).trans (k.block j hj Z)⟩
def Kept.row{row:Option Nat}(h:Kept w F X)(k:F.grownBy w3 row)(hX:∀g,row=some g->X g):Kept w w3 X:=
 ⟨k.os.trans h.os,k.tape.trans h.tape,k.output.trans h.output,aR h.size k.size,λj hj Z=>(k.block j (Nat.lt_of_lt_of_le hj h.size) (λe=>Z (hX j e.symm))).trans (h.block j hj Z)⟩
def ig.cW(h:ig w S vm rv n M)(K:∀g,S g\/Mb vm rv g->F.heap[g]? =w.heap[g]?):ig F S vm rv n M:=by
 refine⟨ownsRow.cW h.out λg V=>K g (.inr (.inl V)),h.len,λi v qs Y I=>?_,h.HC,h.GL⟩;obtain⟨U,h3,h4,h5⟩:=h.row i v qs Y I;exact⟨U,ownsRow.cW h3 λg V=>K g (.inr (.inr ⟨v,aG Y,V⟩)),h4,h5.cW λg V=>K g (.inl V)⟩
def ig.cU(h:ig w S vm rv n M)(K:∀g,S g->S' g):ig w S' vm rv n M:=
 ⟨h.out,h.len,λi v qs Y I=>(h.row i v qs Y I).imp λ_ h=>⟨h.1,h.2.1,h.2.2.cU K⟩,h.HC,h.GL⟩
def ig.low(h:ig w S vm rv n M):∀g,Mb vm rv g->g<w.heap.size:=λg V=>by
 rcases V with V|⟨v,hv,V⟩
 .exact(ownsRow.low h.out g V).2
 .obtain⟨i,R⟩:=aj hv;have hl:=(aH.1 R).1;obtain⟨U,Y,_⟩:=h.row i v _ R (aE (by rw[<-h.len];exact hl));exact(ownsRow.low Y g V).2
def ig.rel(h:ig w (Cv S B iv) vm rv n M)(r:Rel H nx iv B w O J)(G:∀g,S g->g<B)(hm:∀g,Mb vm rv g->g<B):ig J (Cv S B iv) vm rv n M:=
 h.cW λ_ V=>V.elim (rls r G) (λV=>rls (S:=λg=>g<B) r (λ_ h=>h) (.inl (hm _ V)))
def ig.cV(h:ig w (Cv S B iv) vm rv n M)(r:Rel H nx iv B w O J)(G:∀g,S g->g<B)(hm:∀g,Mb vm rv g->g<B)(L:Ext J F)(R:∀p,p∈iv->p∈A):ig F (Cv S B A) vm rv n M:=
 ((h.rel r G hm).cW λg V=>L.block g (V.elim (rlo r G g) (oS hm r g))).cU λ_ V=>V.mono R
def ig.setRow(h:ig w S vm rv n M)(G:Old S w)(Rn:∀g,S g->¬Mb vm rv g){v:Value}(hv:rv[i]? =some v)(V:w.grownBy F v.ownBlock)(hSS:∀g,S g->S' g)
  (Pm:∃U,F.ownsRow 0 T.dN 4 v n U.flatten/\U.length=n/\Fr F S' U qs'):ig F S' vm rv n (M.set i qs'):=by
 have Pq:=h.low;have RM:∀g,g<w.heap.size->v.ownBlock≠some g->F.heap[g]? =w.heap[g]? :=λg Y I=>V.block g Y (Ne.symm I);refine⟨ownsRow.cW h.out λg S0=>RM g (Pq g (.inl S0)) (λe=>h.GL v (aG hv) g e S0),by rw[h.len];simp,λj u qs Y I=>?_,h.HC,h.GL⟩;by_cases RQ:i=j
 .subst RQ;rw[hv]at Y;injection Y with Y;subst Y;have hl:=(aH.1 hv).1;rw[aQ (by rw[<-h.len];exact hl)]at I;injection I with I;subst I;exact Pm
 .rw[aX RQ]at I;obtain⟨U,h3,h4,h5⟩:=h.row j u qs Y I;refine⟨U,ownsRow.cW h3 λg hgu=>RM g (ownsRow.low h3 g hgu).2 (λe=>RQ (h.HC i j v u g hv Y e hgu)),h4,(h5.cW λg hgs=>?_).cU hSS⟩;exact RM g (G g hgs) λe=>Rn g hgs (.inr ⟨v,aG hv,e⟩)
def ig.swap(h:ig w S vm rv n M)(Rn:∀g,S g->¬Mb vm rv g){j:Nat}{a b:Value}(R:rv[i]? =some a)(hj:rv[j]? =some b)(Qy:F.ownsRow 0 T.row 1 vm rv.length ((rv.set i b).set j a))(RM:∀g,S g\/Mb vm rv g->vm.ownBlock≠some g->F.heap[g]? =w.heap[g]?):
  ig F S vm ((rv.set i b).set j a) n (fI [] M i j):=by
 have UL:=(aH.1 R).1;have Tt:=(aH.1 hj).1;have hmi:M.getD i []=M[i]'(by rw[<-h.len];exact UL):=by rw[List.getD,aE (by rw[<-h.len];exact UL)];rfl
 have hmj:M.getD j []=M[j]'(by rw[<-h.len];exact Tt):=by rw[List.getD,aE (by rw[<-h.len];exact Tt)];rfl
 have key:∀k v qs,((rv.set i b).set j a)[k]? =some v->(fI [] M i j)[k]? =some qs->∃k',rv[k']? =some v/\M[k']? =some qs/\k'=(if k=j then i else if k=i then j else k):=by
  intro k v qs Y I;unfold fI at I;rw[hmi,hmj]at I;by_cases Ve:j=k
  .subst Ve;rw[aQ (by simp;exact Tt)]at Y;rw[aQ (by simp;rw[<-h.len];exact Tt)]at I;injection Y with Y;injection I with I;subst Y I;exact⟨i,R,aE _,ce⟩
  .rw[aX Ve]at Y I;by_cases VC:i=k
   .subst VC;rw[aQ UL]at Y;rw[aQ (by rw[<-h.len];exact UL)]at I;injection Y with Y;injection I with I;subst Y I;exact⟨j,hj,aE _,by rw[aJ (Ne.symm Ve),aM rfl]⟩
   .rw[aX VC]at Y I;exact⟨k,Y,I,by rw[aJ (Ne.symm Ve),aJ (Ne.symm VC)]⟩
 have hlen:((rv.set i b).set j a).length=rv.length:=by simp
 have Zz:(fI [] M i j).length=rv.length:=by rw[fO,h.len]
 have keyv:∀k v,((rv.set i b).set j a)[k]? =some v->∃k',rv[k']? =some v/\k'=(if k=j then i else if k=i then j else k):=λk v Y=>by
  have hl:=(aH.1 Y).1;obtain⟨k',I,_,h3⟩:=key k v _ Y (aE (by rw[Zz,<-hlen];exact hl));exact⟨k',I,h3⟩
 refine⟨by rw[hlen];exact Qy,by rw[hlen,Zz],λk v qs Y I=>?_,λk1 k2 v1 v2 g Y I e1 e2=>?_,λv hv g hgv=>?_⟩
 .obtain⟨k',h3,h4,_⟩:=key k v qs Y I;obtain⟨U,h5,h6,h7⟩:=h.row k' v qs h3 h4;have hvm:=h.GL v (aG h3);exact⟨U,ownsRow.cW h5 λg hgu=>RM g (.inr (.inr ⟨v,aG h3,hgu⟩)) (hvm g hgu),h6,h7.cW λg hgs=>RM g (.inl hgs) λe=>Rn g hgs (.inl e)⟩
 .obtain⟨k3,h3,h4⟩:=keyv k1 v1 Y;obtain⟨k5,h5,h6⟩:=keyv k2 v2 I;have:=h.HC k3 k5 v1 v2 g h3 h5 e1 e2;split at h4<;>split at h6<;>(try split at h4)<;>(try split at h6)<;>omega
 .obtain⟨k,K⟩:=aj hv;obtain⟨k',h3,_⟩:=keyv k v K;exact h.GL v (aG h3) g hgv
def Mb.swap{j:Nat}{a b:Value}(R:rv[i]? =some a)(hj:rv[j]? =some b){g:Nat}:Mb vm ((rv.set i b).set j a) g↔Mb vm rv g:=by
 have UL:=(aH.1 R).1;have Tt:=(aH.1 hj).1;unfold Mb;refine or_congr Iff.rfl ⟨λ⟨v,hv,h⟩=>⟨v,?_,h⟩,λ⟨v,hv,h⟩=>⟨v,?_,h⟩⟩
 .rcases bL hv with Y|Y
  .rcases bL Y with I|I
   .exact I
   .rw[I];exact aG hj
  .rw[Y];exact aG R
 .obtain⟨k,K⟩:=aj hv;by_cases Ve:k=j
  .subst Ve;rw[hj]at K;injection K with K;subst K;by_cases hik:i=k
   .subst hik;rw[R]at hj;injection hj with hj;subst hj;exact aG (i:=i) (by rw[aQ (by simp;exact UL)])
   .exact aG (i:=i) (by rw[aX (Ne.symm hik),aQ UL])
  .by_cases VC:k=i
   .subst VC;rw[R]at K;injection K with K;subst K;exact aG (i:=j) (by rw[aQ (by simp;exact Tt)])
   .exact aG (i:=k) (by rw[aX (Ne.symm Ve),aX (Ne.symm VC)];exact K)
end
end Go.Ex
namespace Go.Sx
open Go Go.Ex Go.Proofs
section
variable{O:Nat->Sx.eD}
def Rel.wS{H:Hp}{nx:Nat}{iv:Iv}{B:Nat}{w J F:World}{row:Option Nat}(r:Rel H nx iv B w O J)(Po:∀g,row=some g->∀id b,dT H id=some b->(O id).nil=false->(O id).g≠g)(h:J.grownBy F row):Rel H nx ((J.heap.size,F.heap.size)::iv) B F O F:=
 r.Cc h.size (λid b N E=>h.block _ (r.low id b N E).2 λe=>Po _ e.symm id b N E rfl) λlo R hm=>by
  rcases List.mem_cons.1 hm with e|hm
  .injection e with e1 e2;subst e1 e2;exact⟨lr,λid b N E=>by have:=(r.low id b N E).2;omega⟩
  .exact⟨by have:=r.oB lo R hm;have:=r.size;have:=h.size;omega,λid b N E=>r.jJ lo R hm id b N E⟩
end
variable{O:Nat->Sx.eD}
def Sub.nil{B nx:Nat}{l:Env}{H:Hp}{iv:Iv}{w J:World}{t:FG}(u e sz:Nat)(h9:fj l u=some (sV none 0 0))(Tz:kN nx l)(r:Rel H nx iv B w O J)
  (h:∀I9,Rel ((nx,.vec e sz [])::H) (nx+1) iv B w I9 J->Sx.Sub B ((u,.o (.w nx 0))::l) (nx+1) I9 J t):Sx.Sub B l nx O J t:=by
 have r1:=r.push (.vec e sz []) ⟨0,0,true⟩ (F:=J) rfl rfl rfl lr (λ_ _=>rfl) (λh=>by cases h) (.inl ⟨rfl,rfl⟩) trivial;obtain⟨F',Y,I⟩:=h _ r1;refine⟨F',Y,λx v hv=>?_⟩;obtain⟨h3,v0,h4,h5⟩:=I x v hv;refine⟨h3,?_⟩;rw[ep]at h4;split at h4
 .rename_i e;subst e;injection h4 with h4;subst h4;refine⟨_,h9,?_⟩;rw[<-h5];simp[SV.den,At.den,fX]
 .refine⟨v0,h4,?_⟩;rw[<-h5];exact SV.ma (λid RR=>iU id RR) (Tz.get _ _ h4)
end Go.Sx
namespace Go.Ex
open Go Go.Sx Go.Proofs
section
variable{M:List (List Rat)}{qs:List Rat}{rv:List Value}{k n:Nat}{S:Nat->Prop}{O:Nat->Sx.eD}{am:Option Addr}{v vm:Value}{w:World}
def kb{H:Hp}{nx:Nat}{iv:Iv}{B:Nat}{J:World}{a:Addr}{x:Value}(h:w.cell? a=some x)(N:Out B iv a.block)(r:Rel H nx iv B w O J):J.cell? a=some x:=by
 rw[cZ (rls r (λ_ h=>h) N)];exact h
structure aAz(w:World)(S:Nat->Prop)(rv:List Value)(n:Nat)(M:List (List Rat))(gm k c g ck:Nat)(q:Rat)(d1:Bool)(e1:Option Addr)(m1 k1:Nat)(d2:Bool)(e2:Option Addr)(m2 k2:Nat):Prop where
 rv:rv[k]? =some (.slice (some ⟨g,0,none⟩) n ck)
 at_:dR M k c=q
 aAG:cw w S (.agg #[.bool d1,.slice e1 m1 k1,.bool d2,.slice e2 m2 k2]) q
 outer:w.cell? (Addr.add ⟨gm,0,none⟩ (k*1))=some (.slice (some ⟨g,0,none⟩) n ck)
 cells:∀j u,[Value.bool d1,.slice e1 m1 k1,.bool d2,.slice e2 m2 k2][j]? =some u->w.cell? ((Addr.add ⟨g,0,none⟩ (c*4)).add j)=some u
def ig.outer{F9 cm:Nat}(h:ig w S (.slice am F9 cm) rv n M)(K:rv[k]? =some v):
  ∃gm,am=some ⟨gm,0,none⟩/\w.cell? (Addr.add ⟨gm,0,none⟩ (k*1))=some v:=by
 rcases h.out.2 with⟨Y,h0⟩|⟨gm,cap,cur,e,_⟩
 .have:=(aH.1 K).1;omega
 .injection e with e1 e2 e3;refine⟨gm,e1,?_⟩;have:=h.out.cells (g:=gm) (by rw[e1];rfl) k v K;rw[ah];exact this
def ig.elem{F9 cm:Nat}(h:ig w S (.slice am F9 cm) rv n M){c:Nat}(K:k<rv.length)(hc:c<n):
  ∃gm g ck q d1 e1 m1 k1 d2 e2 m2 k2,am=some ⟨gm,0,none⟩/\aAz w S rv n M gm k c g ck q d1 e1 m1 k1 d2 e2 m2 k2:=by
 obtain⟨v,hv⟩:=gO rv k;obtain⟨qs,Yd⟩:∃qs,M[k]? =some qs:=⟨_,aE (by rw[<-h.len];exact K)⟩
 obtain⟨U,Pm,Qa,RO⟩:=h.row k v qs hv Yd;obtain⟨a,ck,rfl,_⟩:=eZ Pm;obtain⟨cs,QX⟩:=gO U c;obtain⟨q,hq⟩:∃q,qs[c]? =some q:=⟨_,aE (by rw[<-RO.1];omega)⟩
 obtain⟨g,rfl,QS⟩:=s6 Pm RO QX;obtain⟨d1,e1,m1,k1,d2,e2,m2,k2,rfl,hF⟩:=RO.2 c cs q QX hq;obtain⟨gm,rfl,ho⟩:=h.outer hv;exact⟨gm,g,ck,q,d1,e1,m1,k1,d2,e2,m2,k2,rfl,hv,by simp[dR,List.getD,Yd,hq],hF,ho,QS⟩
def Ea{α:Type}{xs:List α}{j:Nat}{v:α}(h:j<xs.length):xs.take (j*1)++[v]++xs.drop (j*1+1)=xs.set j v:=by
 rw[ah,List.set_eq_take_append_cons_drop,aM h];simp
def ig.aB1(h:ig w S vm rv n M)(hv:rv[k]? =some v)(hq:M[k]? =some qs)(E:n<=maxLen):
  dx w (λg=>v.ownBlock=some g) S v qs/\qs.length=n:=by
 obtain⟨U,Y,I,h3⟩:=h.row k v qs hv hq;have hl:qs.length=n:=by rw[<-h3.1,I]
 refine⟨⟨U,?_,h3⟩,hl⟩;rw[hl];rcases Y.2 with⟨rfl,rfl⟩|⟨g,cap,cur,rfl,N,hc,SJ,RE,QG,RX⟩
 .refine⟨E,Y.1,h3.one,none,0,rfl,lr,λj u hu=>?_⟩;have:=Y.1;rw[Nat.zero_mul]at this;rw[List.eq_nil_of_length_eq_zero this]at hu
  cases hu
 .refine⟨E,Y.1,h3.one,_,cap,rfl,SJ,λj u hu=>⟨_,rfl,rfl,?_⟩⟩;exact Y.cells (g:=g) rfl j u hu
def Mn{cols h0:Nat}(G:Old S w)(hM:ig w S vm rv n M)(Rn:∀g,S g->¬Mb vm rv g)(E:n<=1000000)(hR:M.length<=1000000)(TP:cols<=n)
  (TN:Ht M h0) (I:2<=h0) (N:4^M.length*h0<=500000000):
  eH PG Fd.vz #[vm,iV cols] w (λe F=>∃v rv',e= .returned v/\Kept w F (Mb vm rv)/\ig F (Nw S w F) vm rv' n (dF M cols).1/\(∀g,Mb vm rv' g↔Mb vm rv g)/\
   fT F (Nf w F) 1 v ((dF M cols).2.map λc:Nat=>iV (c:Int)) (dF M cols).2.length):=by
 have Pq:=hM.low;have RP:∀iv g,Mb vm rv g->Out w.heap.size iv g:=λiv g V=>.inl (Pq g V);have VP:∀iv g,Cv S w.heap.size iv g->¬Mb vm rv g:=λiv g h V=>by
  rcases h with h|⟨h,_⟩
  .exact Rn g h V
  .have:=Pq g V;omega
 obtain⟨am,cm,rfl,Rw⟩:=eZ hM.out;have hlen:=hM.len;generalize hRdef:rv.length=F9 at*
 have hMl:=hlen;replace hM:=hM.cU (S':=Cv S w.heap.size []) λ_ h=>.inl h;refine yl ce ?_
 refine⟨Nat×List Value×List (List Rat)×List Nat×Iv×World,λz=>⟨[(0,sV am F9 cm),(1,iZ cols),(5,.o (.w 0 z.2.2.2.1.length)),(6,iZ z.1)],
   [(0,.vec T.int 1 (z.2.2.2.1.map λc:Nat=>iV (c:Int)))],1,z.2.2.2.2.1,z.2.2.2.2.2⟩,λz=>cols-z.1,
  λz=>z.1<=cols/\Kept w z.2.2.2.2.2 (Mb (.slice am F9 cm) rv)/\ig z.2.2.2.2.2 (Cv S w.heap.size z.2.2.2.2.1) (.slice am F9 cm) z.2.1 n z.2.2.1/\(∀g,Mb (.slice am F9 cm) z.2.1 g↔Mb (.slice am F9 cm) rv g)/\
   z.2.1.length=F9/\(z.2.2.1,z.2.2.2.1)=(List.range z.1).foldl eY (M,[])/\z.2.2.2.1.length<=F9/\Ht z.2.2.1 (4^z.2.2.2.1.length*h0),?_,?_⟩
 .intro O J r
  refine⟨(0,rv,M,[],[],J),⟨ce,Kept.refl.cg r.cg lr,hM.rel r G Pq,λg=>Iff.rfl,hRdef,rfl,ce,by simpa using TN⟩,Sub.nil 5 T.int 1 rfl (by simp[kN,SV.sc,At.sc,ff]) r λI9 r1=>
   sbgn [] r1⟩
 clear hM;rintro⟨c,rv1,M1,pv,iv,w1⟩ ⟨hc,hK,hM,TU,QI,S3,QL,hht1⟩;dsimp only at hc hK hM TU QI S3 QL hht1 ⊢;have hlM:M1.length=F9:=by rw[<-hM.len,QI]
 have UH:w1.ownsRow 0 T.row 1 (.slice am F9 cm) F9 rv1:=by have:=hM.out;rwa [QI]at this
 have htot:cols<=c\/F9<=pv.length->(M1,pv)=dF M cols:=λh=>by
  unfold dF;rcases h with h|h
  .have:c=cols:=by omega
   rw[S3,this]
  .have h3:List.range cols=List.range c++(List.range (cols-c)).map (c+ ·):=by
    rw[<-List.range_add];congr 1;omega
   rw[h3,List.foldl_append,<-S3,AG (by simp only;omega)]
 apply bS<;>intro h
 .have h:=dL h;refine⟨ce,?_⟩;apply bS<;>intro hp
  .have hp:pv.length<F9:=by simpa using hp
   have Qt:∀{v:Value} {k gx:Nat},rv1[k]? =some v->v.ownBlock=some gx->Mb (.slice am F9 cm) rv gx:=λY I=>(TU _).1 (.inr ⟨_,aG Y,I⟩)
   refine⟨ce,Nat×Iv×World,λz=>⟨[(0,sV am F9 cm),(1,iZ cols),(5,.o (.w 0 pv.length)),(6,iZ c),(7,iZ pv.length),(8,iZ z.1)],
     [(0,.vec T.int 1 (pv.map λc:Nat=>iV (c:Int)))],1,z.2.1,z.2.2⟩,λz=>F9-z.1,
    λz=>pv.length<=z.1/\z.1<=F9/\Kept w z.2.2 (Mb (.slice am F9 cm) rv)/\ig z.2.2 (Cv S w.heap.size z.2.1) (.slice am F9 cm) rv1 n M1/\gL M1 c (F9-z.1) z.1=gL M1 c (F9-pv.length) pv.length,?_,?_⟩
   .intro O J r
    exact⟨(pv.length,iv,J),⟨lr,by dsimp only;omega,hK.cg r.cg lr,hM.rel r G (λg V=>Pq g ((TU g).1 V)),rfl⟩,
     sbgn [] r⟩
   clear hK hM UH;rintro⟨k,iv2,F⟩ ⟨UI,hkR,hK,hM,hfk⟩;dsimp only at UI hkR hK hM hfk ⊢;apply bS<;>intro K
   .have K:=dL K;obtain⟨gm,g,ck,q,d1,e1,m1,k1,d2,e2,m2,k2,rfl,hE⟩:=hM.elem (k:=k) (c:=c) be be;have Ye:=Qt hE.rv rfl;refine⟨⟨gm,0,none⟩,rfl,be,.slice (some ⟨g,0,none⟩) n ck,λO J r=>kb hE.outer (RP _ _ (.inl (by rw[da];rfl))) r,⟨g,0,none⟩,rfl,be,rC d1 e1 m1 k1 d2 e2 m2 k2,rfl,λO J r j x Z=>kb (hE.cells j x Z) (RP _ _ (by rw[da,da];exact Ye)) r,?_⟩;refine cS (cR (GT:=λ_ _ v _=>v=iV (rs q)) (λO J r=>ij (rlo r G) (hE.aAG.rel r G)) ?_);rintro O wa v1 wb r L Pu rfl;replace hM:=hM.cV (A:=(wa.heap.size,wb.heap.size)::iv2) r G (λg V=>Pq g ((TU g).1 V)) L λx Z=>aD _ Z;replace hK:=hK.cg Pu lr;have hq:=hE.at_;clear r L Pu hE Ye;generalize (wa.heap.size,wb.heap.size)::iv2=Ps at*
    apply bS<;>intro h0
    .have h0:q=0:=by
      have:rs q=0:=eq_of_beq h0;exact Rat.num_eq_zero.1 (bj.1 this)
     have R6:gL M1 c (F9-(k+1)) (k+1)=gL M1 c (F9-pv.length) pv.length:=by
      rw[<-hfk,show F9-k=(F9-(k+1))+1 by omega,zi (by rw[hq,h0])]
     refine inc k ?_;intro I8 w3 r3
     exact⟨(k+1,Ps,w3),⟨by dsimp only;omega,K,hK.cg r3.cg lr,hM.rel r3 G (λg V=>Pq g ((TU g).1 V)),R6⟩,
      sbgn [] r3,by dsimp only;omega⟩
    .have h0':q≠0:=λe=>by rw[e]at h0;exact absurd h0 bv
     clear h0;have hfk2:gL M1 c (F9-pv.length) pv.length=k:=by
      rw[<-hfk,show F9-k=(F9-(k+1))+1 by omega,zl (by rw[hq];exact h0')]
     apply bS<;>intro WB
     .exact absurd (eq_of_beq WB) be
     clear WB;refine dP (idO 16) ?_;obtain⟨vk,hvk⟩:=gO rv1 k;obtain⟨va,TZ⟩:=gO rv1 pv.length;obtain⟨_,S0,QK⟩:=hM.outer hvk;injection S0 with S0;injection S0 with S0;subst S0;obtain⟨_,S0,hoa⟩:=hM.outer TZ;injection S0 with S0;injection S0 with S0;subst S0;obtain⟨cssk,YT,-,-⟩:=hM.row k vk M1[k] hvk (aE be);obtain⟨cssa,Sd,-,-⟩:=hM.row pv.length va M1[pv.length] TZ (aE be);obtain⟨ak,ck',rfl,-⟩:=eZ YT;obtain⟨aa,ca,rfl,-⟩:=eZ Sd;clear YT Sd;have Vq:∀{iv x},Out w.heap.size iv ((Addr.add ⟨gm,0,none⟩ x).block):=λ{iv x}=>RP _ _ (.inl (by rw[da];rfl));refine⟨⟨gm,0,none⟩,rfl,be,.slice ak n ck',λO J r=>kb QK Vq r,⟨gm,0,none⟩,rfl,be,.slice aa n ca,λO J r=>kb hoa Vq r,⟨gm,0,none⟩,rfl,be,?_⟩;intro O J r;have ZH:(⟨gm,0,none⟩:Addr).add ((pv.length:Int).toNat*1)=⟨gm,pv.length*1,none⟩:=by rw[aI,dD,aV]
     have Q4:(⟨gm,0,none⟩:Addr).add ((k:Int).toNat*1)=⟨gm,k*1,none⟩:=by rw[aI,dD,aV]
     have hMw:=hM.rel r G (λg V=>Pq g ((TU g).1 V));obtain⟨g',Sa,Ug,ZI,WZ,hsz1⟩:=ml (nv:=[.slice ak n ck']) hMw.out (by rw[QI]) (show pv.length<rv1.length by omega) rfl bv;injection Sa with Sa;injection Sa with Sa;subst Sa;rw[Ea be]at ZI;have Qe:=λid b N E=>Rel.not (S:=λg=>g<w.heap.size) r (λ_ h=>h) (RP Ps gm (.inl rfl)) id b N E;have hgm1:gm<J.heap.size:=by have:=Pq gm (.inl rfl);have:=r.cY;omega
     have hK1:Kept w (setCells J ⟨gm,pv.length*1,none⟩ [.slice ak n ck']) (Mb (.slice (some ⟨gm,0,none⟩) F9 cm) rv):=(hK.cg r.cg lr).row WZ (λg V=>.inl V);have hold:∀g,Cv S w.heap.size Ps g\/Mb (.slice (some ⟨gm,0,none⟩) F9 cm) rv1 g->g<J.heap.size:=λg V=>V.elim (rlo r G g) (λV=>by have:=Pq g ((TU g).1 V);have:=r.cY;omega);clear hK hM QK hoa r;refine⟨by rw[ZH],λj hj=>by rw[ZH];exact Ug j hj,λid b N E=>by rw[ZH];exact Qe id b N E,λw4 QD=>?_⟩;have QD:w4=setCells J ⟨gm,pv.length*1,none⟩ [.slice ak n ck']:=by rw[QD];exact congrArg (λx=>setCells J x _) ZH
     rw[<-QD]at hK1 ZI WZ hsz1;clear QD Ug Qe;refine⟨⟨gm,0,none⟩,rfl,be,?_⟩;intro O w5 r;have hst2:=jE ZI (λg V=>RP Ps g (.inl V)) r;obtain⟨g',Sa,WV,hst3,Wa,hsz2⟩:=ml (nv:=[.slice aa n ca]) hst2 (by rw[QI]) (show k<rv1.length by omega) rfl bv;injection Sa with Sa;injection Sa with Sa;subst Sa;rw[Ea (by simp;omega)]at hst3;have Qe:=λid b N E=>Rel.not (S:=λg=>g<w.heap.size) r (λ_ h=>h) (RP Ps gm (.inl rfl)) id b N E;have TE:Kept w (setCells w5 ⟨gm,k*1,none⟩ [.slice aa n ca]) (Mb (.slice (some ⟨gm,0,none⟩) F9 cm) rv):=(hK1.cg r.cg lr).row Wa (λg V=>.inl V);have RM:∀g,Cv S w.heap.size Ps g\/Mb (.slice (some ⟨gm,0,none⟩) F9 cm) rv1 g->(Value.slice (some ⟨gm,0,none⟩) F9 cm).ownBlock≠some g->(setCells w5 ⟨gm,k*1,none⟩ [.slice aa n ca]).heap[g]? =J.heap[g]? :=λg V Po=>by
      have Uf:some g≠some gm:=λe=>Po e.symm;have h3:w4.heap[g]? =J.heap[g]? :=WZ.block g (hold g V) Uf;have h4:w5.heap[g]? =w4.heap[g]? :=V.elim (λV=>rls r G V) (λV=>rls (S:=λg=>g<w.heap.size) r (λ_ h=>h) (RP Ps g ((TU g).1 V)));have h5:=Wa.block g (by have:=hold g V;have:=r.size;omega) Uf;rw[h5,h4,h3]
     have UG:=hMw.swap (λg V hm=>VP Ps g V ((TU g).1 hm)) TZ hvk hst3 RM;have TG:∀g,Mb (.slice (some ⟨gm,0,none⟩) F9 cm) ((rv1.set pv.length (.slice ak n ck')).set k (.slice aa n ca)) g↔Mb (.slice (some ⟨gm,0,none⟩) F9 cm) rv g:=λg=>(Mb.swap TZ hvk).trans (TU g);have UD:((rv1.set pv.length (.slice ak n ck')).set k (.slice aa n ca)).length=F9:=by simp[QI]
     clear hK1 hMw ZI hst2 r RM hold WZ hst3 Qt;refine⟨by rw[Q4],λj hj=>by rw[Q4];exact WV j hj,λid b N E=>by rw[Q4];exact Qe id b N E,λw6 hw6=>?_⟩;have hw6:w6=setCells w5 ⟨gm,k*1,none⟩ [.slice aa n ca]:=by rw[hw6];exact congrArg (λx=>setCells w5 x _) Q4
     rw[<-hw6]at TE UG;clear hw6 WV Qe Wa hsz2 hsz1;have Qw:dR (fI [] M1 pv.length k) pv.length c=q:=by rw[vK be be,hq]
     have hht2:=hht1.swap (i:=pv.length) (j:=k) be be;have Pr:eY (M1,pv) c=(dg (scaled (fI [] M1 pv.length k) pv.length c) pv.length c F9,pv++[c]):=by
      unfold eY;rw[aM (by dsimp only;omega)];dsimp only
      rw[hlM,hfk2,aJ be,jb,fO,hlM]
     have Qn:(fI [] M1 pv.length k).length=F9:=by rw[fO,hlM]
     generalize (rv1.set pv.length (.slice ak n ck')).set k (.slice aa n ca)=rv2 at*
     generalize fI [] M1 pv.length k=M2 at*
     have Qt:∀{v:Value} {k gx:Nat},rv2[k]? =some v->v.ownBlock=some gx->Mb (.slice (some ⟨gm,0,none⟩) F9 cm) rv gx:=λY I=>(TG _).1 (.inr ⟨_,aG Y,I⟩);refine dP [.x 0,.x 1,.x 2,.x 3,.x 5,.x 6,.x 7,.x 8,.x 9,.x 10,.x 11,.x 4,.x 12,.x 13] ?_;obtain⟨_,g,ck,q2,d1,e1,m1,k1,d2,e2,m2,k2,S0,hE⟩:=UG.elem (k:=pv.length) (c:=c) be be;injection S0 with S0;injection S0 with S0;subst S0;have Rr:q2=q:=by rw[<-hE.at_,Qw]
     subst Rr;have Ye:=Qt hE.rv rfl;refine⟨⟨gm,0,none⟩,rfl,be,.slice (some ⟨g,0,none⟩) n ck,λO J r=>kb hE.outer Vq r,⟨gm,0,none⟩,rfl,be,.slice (some ⟨g,0,none⟩) n ck,λO J r=>kb hE.outer Vq r,⟨g,0,none⟩,rfl,be,rC d1 e1 m1 k1 d2 e2 m2 k2,rfl,λO J r j x Z=>kb (hE.cells j x Z) (RP _ _ (by rw[da,da];exact Ye)) r,?_⟩;have hwb0:Bel w.heap.size w6 w6:=Bel.refl;refine cR (GT:=λ_ J v F=>cw F (Nf J F) v (((1:Int):Rat))) (λO J r=>iI 1 J bv bv) ?_;rintro O wa v1 wb' r L Pu hO;have Qb:=hO.ef (S:=S) r.cY (iv:=(wa.heap.size,wb'.heap.size)::Ps) aF;have hF:=hE.aAG.cV (A:=(wa.heap.size,wb'.heap.size)::Ps) r G L λx Z=>aD _ Z;replace UG:=UG.cV (A:=(wa.heap.size,wb'.heap.size)::Ps) r G (λg V=>Pq g ((TG g).1 V)) L λx Z=>aD _ Z;replace TE:=TE.cg Pu lr;have VH:=hE.rv;clear r L Pu hO hE;generalize (wa.heap.size,wb'.heap.size)::Ps=QA at*
     obtain⟨b5,a5,n5,c5,b6,a6,n6,c6,rfl⟩:=Qb.shape;have Rx:(((1:Int):Rat))=1:=rfl;rw[Rx]at Qb;have hhq:rl q2+1<=4^pv.length*h0:=by
      have h3:dR M2 pv.length c=(M2.getD pv.length []).getD c 0:=rfl;rw[<-Qw,h3];have h4:M2.getD pv.length []=M2[pv.length]' be:=by rw[List.getD,aE be];rfl
      rw[h4];exact kU (hht2.at (aE be)) (aR I (Nat.le_mul_of_pos_left _ (Nat.pow_pos bv))) c
     have hH4:4^(pv.length+1)*h0<=500000000:=aR (Nat.mul_le_mul_right _ (Nat.pow_le_pow_right bv be)) N;have ZJ:4^(pv.length+1)*h0=4*(4^pv.length*h0):=by rw[Nat.pow_succ,bX (4^pv.length) 4,bo]
     have WE:2<=4^pv.length*h0:=aR I (Nat.le_mul_of_pos_left _ (Nat.pow_pos bv));have Tz:=hht2.scaled (a:=pv.length) (c:=c) WE be (by rw[Qw];exact h0');generalize 4^pv.length*h0=hh at*
     refine cR (GT:=λ_ J v F=>cw F (Nf J F) v (1 / q2)) (λO J r=>JG (rlo r G) (Qb.rel r G) (hF.rel r G) bv be h0') ?_;rintro O wc v2 wd r L Pu hO;have Tn:=hO.ef (S:=S) r.cY (iv:=(wc.heap.size,wd.heap.size)::QA) aF;replace UG:=UG.cV (A:=(wc.heap.size,wd.heap.size)::QA) r G (λg V=>Pq g ((TG g).1 V)) L λx Z=>aD _ Z;replace TE:=TE.cg Pu lr;clear r L Pu hO Qb hF;generalize (wc.heap.size,wd.heap.size)::QA=QE at*
     obtain⟨b7,a7,n7,c7,b8,a8,n8,c8,rfl⟩:=Tn.shape;have hinv:=uM h0';have hMA:M2[pv.length]? =some (M2[pv.length]' be):=aE be;have hMAd:M2.getD pv.length []=M2[pv.length]' be:=by rw[List.getD,hMA];rfl
     have hqa:=hht2.at hMA;generalize hqsa:(M2[pv.length]' be)=qsa at*
     refine⟨λO J r=>?_⟩;have YC:=UG.rel r G (λg V=>Pq g ((TG g).1 V));obtain⟨U,RF,Sr,WN⟩:=YC.row pv.length _ qsa VH hMA;refine(wO (rlo r G) RF WN Sr (Tn.rel r G) (λx Z Q5=>VP QE x Q5 (Qt VH Z)) (λx Z=>by have:=hqa x Z;omega) be).mono λe w4 L=>?_;obtain⟨rfl,QR,css',XK,hr5,YD⟩:=L;have hM3:=YC.setRow (S':=Nw (Cv S w.heap.size QE) J w4) (rlo r G) (λx Z Q5=>VP QE x Z ((TG x).1 Q5)) VH QR (λx Z=>.inl Z) ⟨css',XK,hr5,YD⟩;refine⟨.tuple #[],_,(J.heap.size,w4.heap.size)::QE,rfl,r.wS (λx Z=>Rel.not (S:=λg=>g<w.heap.size) r (λ_ h=>h) (RP QE x (Qt VH Z))) QR,?_⟩;have ZD:=hM3.cU (S':=Cv S w.heap.size ((J.heap.size,w4.heap.size)::QE)) λx Z=>Nw.cv Z r.cY;have RB:M2.set pv.length (qsa.map (· *(1 / q2)))=scaled M2 pv.length c:=by unfold scaled;rw[hMAd,Qw]
     rw[RB]at ZD;have hK4:Kept w w4 _:=(TE.cg r.cg lr).row QR (λx Z=>Qt VH Z);have RG:(scaled M2 pv.length c).length=F9:=by rw[jb,Qn]
     clear TE UG YC RF WN XK YD hM3 QR r Tn RB hMA hMAd;generalize (J.heap.size,w4.heap.size)::QE=Q8 at*
     generalize scaled M2 pv.length c=M3 at*
     refine⟨Nat×Iv×World,λz=>⟨[(0,.o (.v (.slice (some ⟨gm,0,none⟩) F9 cm))),(1,iZ cols),(5,.o (.w 0 pv.length)),(6,iZ c),(7,iZ pv.length),(75,iZ F9),(76,iZ z.1)],
       [(0,.vec T.int 1 (pv.map λc:Nat=>iV (c:Int)))],1,z.2.1,z.2.2⟩,λz=>F9-z.1,
      λz=>z.1<=F9/\Kept w z.2.2 (Mb (.slice (some ⟨gm,0,none⟩) F9 cm) rv)/\ig z.2.2 (Cv S w.heap.size z.2.1) (.slice (some ⟨gm,0,none⟩) F9 cm) rv2 n (dg M3 pv.length c z.1),?_,?_⟩
     .intro O J r
      exact⟨(0,Q8,J),⟨by dsimp only;omega,hK4.cg r.cg lr,by rw[vP];exact ZD.rel r G (λg V=>Pq g ((TG g).1 V))⟩,
       sbgn [] r⟩
     clear hK4 ZD;rintro⟨i,RJ,w7⟩ ⟨R,hK,hM⟩;dsimp only at R hK hM ⊢;apply bS<;>intro Qo
     .have Qo:=dL Qo;apply bS<;>intro Po
      .have Po:i≠pv.length:=λe=>by
        rw[e]at Po;simp at Po
       refine dP [.x 0,.x 1,.x 2,.x 3,.x 4,.x 5,.x 6,.x 7,.x 8,.x 9,.x 10,.x 12,.x 13,.x 14,.x 15,.x 11,.x 16] ?_;obtain⟨_,gi,ci,qi,d1',e1',m1',k1',d2',e2',m2',k2',S0,hE⟩:=hM.elem (k:=i) (c:=c) be be;injection S0 with S0;injection S0 with S0;subst S0;obtain⟨va2,YE⟩:=gO rv2 pv.length;obtain⟨_,S0,hoa⟩:=hM.outer YE;injection S0 with S0;injection S0 with S0;subst S0;obtain⟨ri,TD⟩:=gO M3 i;obtain⟨ra,Sd⟩:=gO M3 pv.length;have hri2:(dg M3 pv.length c i)[i]? =some ri:=by rw[AH M3 pv.length c i i lr];exact TD
       have hra2:(dg M3 pv.length c i)[pv.length]? =some ra:=by rw[uG];exact Sd
       have hqd:(dg M3 pv.length c i).getD i []=ri:=by rw[List.getD,hri2];rfl
       have Ul:qi=ri.getD c 0:=by rw[<-hE.at_,dR,hqd]
       have hrad:M3.getD pv.length []=ra:=by rw[List.getD,Sd];rfl
       obtain⟨cssa,hraw,-,-⟩:=hM.row pv.length va2 ra YE hra2;obtain⟨aa2,ca2,rfl,-⟩:=eZ hraw;clear hraw;have Ye:=Qt hE.rv rfl;refine⟨⟨gm,0,none⟩,rfl,be,.slice (some ⟨gi,0,none⟩) n ci,λO J r=>kb hE.outer Vq r,⟨gm,0,none⟩,rfl,be,.slice (some ⟨gi,0,none⟩) n ci,λO J r=>kb hE.outer Vq r,⟨gi,0,none⟩,rfl,be,rC d1' e1' m1' k1' d2' e2' m2' k2',rfl,λO J r j x Z=>kb (hE.cells j x Z) (RP _ _ (by rw[da,da];exact Ye)) r,⟨gm,0,none⟩,rfl,be,.slice aa2 n ca2,λO J r=>kb hoa Vq r,?_⟩;refine cR (GT:=λ_ J v F=>cw F (Nw (Cv S w.heap.size RJ) J F) v (-qi)) (λO J r=>lV (rlo r G) (hE.aAG.rel r G)) ?_;rintro O wa v1 wb' r L Pu hO;have Tn:=hO.old r.cY;replace hM:=hM.cV (A:=(wa.heap.size,wb'.heap.size)::RJ) r G (λg V=>Pq g ((TG g).1 V)) L λx Z=>aD _ Z;replace hK:=hK.cg Pu lr;have Wo:=hE.rv;clear r L Pu hO hE hoa;generalize (wa.heap.size,wb'.heap.size)::RJ=Sl at*
       obtain⟨b9,a9,n9,c9,b10,a10,n10,c10,rfl⟩:=Tn.shape;have hqs1:=Tz.2 i ri Po TD;have hqs2:=Tz.1 ra Sd;have Xu:=kU hqs1 WE c;have hng:=kT (ri.getD c 0);rw[Ul]at Tn;refine⟨λO J r=>?_⟩;have YC:=hM.rel r G (λg V=>Pq g ((TG g).1 V));obtain⟨U,RF,Sr,WN⟩:=YC.row i _ ri Wo hri2;obtain⟨VM,Ty⟩:=YC.aB1 YE hra2 mx;refine(JL (C:=λg=>(Value.slice aa2 n ca2).ownBlock=some g) (λx Z=>by have:=YC.low x (.inr ⟨_,aG YE,Z⟩);exact this) (rlo r G) RF WN Sr (Tn.rel r G) VM Ty (λx Z Q5=>VP Sl x Q5 (Qt Wo Z)) (λx Z Q5=>Po (YC.HC i pv.length _ _ x Wo YE Z Q5)) (λx Z=>by have:=hqs1 x Z;omega) (λx Z=>by have:=hqs2 x Z;omega) be).mono λe w8 L=>?_;obtain⟨rfl,QR,css',XK,hr5,YD⟩:=L;have hM3':=YC.setRow (S':=Nw (Cv S w.heap.size Sl) J w8) (rlo r G) (λx Z Q5=>VP Sl x Z ((TG x).1 Q5)) Wo QR (λx Z=>.inl Z) ⟨css',XK,hr5,YD⟩;refine⟨.tuple #[],_,(J.heap.size,w8.heap.size)::Sl,rfl,r.wS (λx Z=>Rel.not (S:=λg=>g<w.heap.size) r (λ_ h=>h) (RP Sl x (Qt Wo Z))) QR,?_⟩;have ZD:=hM3'.cU (S':=Cv S w.heap.size ((J.heap.size,w8.heap.size)::Sl)) λx Z=>Nw.cv Z r.cY;have RB:(dg M3 pv.length c i).set i (ri.mapIdx (lk (-(ri.getD c 0)) ra))=dg M3 pv.length c (i+1):=by
        rw[<-vQ TD Po,hrad];rfl
       rw[RB]at ZD;have hK4:Kept w w8 _:=(hK.cg r.cg lr).row QR (λx Z=>Qt Wo Z);clear hK hM YC RF WN XK YD hM3' QR r Tn RB VM;generalize (J.heap.size,w8.heap.size)::Sl=Ui at*
       refine inc i ?_;intro I8 w9 r3
       exact⟨(i+1,Ui,w9),⟨Qo,hK4.cg r3.cg lr,ZD.rel r3 G (λg V=>Pq g ((TG g).1 V))⟩,
        sbgn [] r3,by dsimp only;omega⟩
      .have Po:i=pv.length:=by
        have h4:((i:Int)==(pv.length:Int))=true:=by simpa using Po
        have:=eq_of_beq h4;omega
       refine inc i ?_;intro I8 w9 r3
       exact⟨(i+1,RJ,w9),⟨Qo,hK.cg r3.cg lr,by
        dsimp only
        have h5:dg M3 pv.length c (i+1)=dg M3 pv.length c i:=by rw[Po,vR]
        rw[h5]
        exact hM.rel r3 G (λg V=>Pq g ((TG g).1 V))⟩,
        sbgn [] r3,by dsimp only;omega⟩
     .have hi3:i=F9:=by
       have:¬i<F9:=by simpa using Qo
       omega
      subst hi3;have Qa:=Ht.Dp (i:=i) (c:=c) Tz.1 Tz.2 WE;refine .inl ?_;refine⟨ce,be,mx,((c+1:Nat):Int),wo,?_⟩;intro I8 w9 r3;have XE:(pv++[c]).length=pv.length+1:=by simp
      have UW:(pv++[c]).map (λc:Nat=>iV (c:Int))=pv.map (λc:Nat=>iV (c:Int))++[iV (c:Int)]:=by simp
      refine⟨(c+1,rv2,dg M3 pv.length c i,pv++[c],RJ,w9),⟨h,hK.cg r3.cg lr,hM.rel r3 G (λg V=>Pq g ((TG g).1 V)),TG,UD,by rw[bu,List.foldl_append,<-S3];exact Pr.symm,by rw[XE];exact hp,?_⟩,
       sbgn [(0,2)] r3 ⟨by rw[UW];rfl,trivial⟩ ⟨rfl,rfl,by dsimp only;rw[XE];rfl,rfl,trivial⟩,by dsimp only;omega⟩
      dsimp only
      rw[XE,ZJ];exact Qa
   .have K:k=F9:=by
     have:¬k<F9:=by simpa using K
     omega
    subst K;have hfk2:gL M1 c (k-pv.length) pv.length=k:=by
     rw[<-hfk,bV];rfl
    have Pr:eY (M1,pv) c=(M1,pv):=by
     unfold eY;rw[aM (by dsimp only;omega)];dsimp only
     rw[hlM,aM hfk2]
    apply bS<;>intro WB
    .conv=>whnf
     refine inc c ?_;intro I8 w3 r3
     exact⟨(c+1,rv1,M1,pv,iv2,w3),⟨h,hK.cg r3.cg lr,hM.rel r3 G (λg V=>Pq g ((TU g).1 V)),TU,QI,by rw[bu,List.foldl_append,<-S3];exact Pr.symm,QL,hht1⟩,
      sbgn [] r3,by dsimp only;omega⟩
    .exact absurd WB ce
  .have hp:¬pv.length<F9:=by simpa using hp
   intro Id w5 r5;have Y:=htot (.inr be);rw[<-Y];refine⟨_,rv1,rfl,hK.cg r5.cg lr,?_,TU,?_⟩
   .exact(hM.rel r5 G (λg V=>Pq g ((TU g).1 V))).cU λg V=>Cv.nw V r5
   .exact(r5.ka (id:=0) (sz:=1) rfl ce mx bv (by intro u hu;simp at hu;obtain⟨_,_,rfl⟩:=hu;rfl)).cU λg V=>.inr V
 .have h:¬c<cols:=by simpa using h
  intro Id w5 r5;have Y:=htot (.inl be);rw[<-Y];refine⟨_,rv1,rfl,hK.cg r5.cg lr,?_,TU,?_⟩
  .exact(hM.rel r5 G (λg V=>Pq g ((TU g).1 V))).cU λg V=>Cv.nw V r5
  .exact(r5.ka (id:=0) (sz:=1) rfl ce mx bv (by intro u hu;simp at hu;obtain⟨_,_,rfl⟩:=hu;rfl)).cU λg V=>.inr V
end
variable{x:Int×Int}{b xs:List (Int×Int)}{M:List (List (Int×Int))}{parts:List (Value×List Value×Nat)}{ps:List Nat}{qs:List Rat}{cs:List Value}{S:Nat->Prop}{a a2:Option Addr}{q:Rat}{v vm:Value}{w w0:World}
def gX(w:World)(S:Nat->Prop)(v:Value)(n:Nat)(qs:List Rat):Prop:=∃U,w.ownsRow 0 T.dN 4 v n U.flatten/\U.length=n/\Fr w S U qs
section
variable{S S' C:Nat->Prop}{H:Hp}{nx n:Nat}{iv A:Iv}{B:Nat}{w J F:World}{O:Nat->Sx.eD}{v:Value}{qs:List Rat}
def gX.cW(h:gX w S v n qs)(K:∀g,S g\/v.ownBlock=some g->F.heap[g]? =w.heap[g]?):gX F S v n qs:=by
 obtain⟨U,Y,I,h3⟩:=h;exact⟨U,ownsRow.cW Y λg V=>K g (.inr V),I,h3.cW λg V=>K g (.inl V)⟩
def gX.cU(h:gX w S v n qs)(K:∀g,S g->S' g):gX w S' v n qs:=by
 obtain⟨U,Y,I,h3⟩:=h;exact⟨U,Y,I,h3.cU K⟩
def gX.len(h:gX w S v n qs):qs.length=n:=by
 obtain⟨U,Y,I,h3⟩:=h;rw[<-h3.1,I]
def gX.form(h:gX w S v n qs):∃a c,v= .slice a n c/\n<=c:=by
 obtain⟨U,Y,I,h3⟩:=h;exact eZ Y
def gX.le(h:gX w S v n qs):n<=maxLen:=by
 obtain⟨U,Y,I,h3⟩:=h;rcases Y.2 with⟨_,h0⟩|⟨_,_,_,_,_,_,Y,I,_⟩
 .omega
 .omega
def gX.read(h:gX w S v n qs):dx w (λg=>v.ownBlock=some g) S v qs:=by
 have hl:=h.len;have E:=h.le;obtain⟨U,Y,I,h3⟩:=h;refine⟨U,?_,h3⟩;rw[hl];rcases Y.2 with⟨rfl,rfl⟩|⟨g,cap,cur,rfl,N,hc,SJ,RE,QG,RX⟩
 .refine⟨E,Y.1,h3.one,none,0,rfl,lr,λj u hu=>?_⟩;have:=Y.1;rw[Nat.zero_mul]at this;rw[List.eq_nil_of_length_eq_zero this]at hu
  cases hu
 .refine⟨E,Y.1,h3.one,_,cap,rfl,SJ,λj u hu=>⟨_,rfl,rfl,?_⟩⟩;exact Y.cells (g:=g) rfl j u hu
def gX.store{a1:Option Addr}{c j n1 c1 n2 c2:Nat}{b b2:Bool}(h:gX w S (.slice a n c) n qs)(hj:j<n)(hf:cw w S (.agg #[.bool b,.slice a1 n1 c1,.bool b2,.slice a2 n2 c2]) q)(Rn:∀g,(Value.slice a n c).ownBlock=some g->¬S g)(G:Old S w):
  ∃g,a=some ⟨g,0,none⟩/\((⟨g,0,none⟩:Addr).add ((j:Int).toNat*4)).spot=none/\((⟨g,0,none⟩:Addr).add ((j:Int).toNat*4)).block=g/\
   (∀k,k<4->(w.cell? (((⟨g,0,none⟩:Addr).add ((j:Int).toNat*4)).add k)).isSome=true/\w.frozen? (((⟨g,0,none⟩:Addr).add ((j:Int).toNat*4)).add k)=false)/\
   ∀F,F=setCells w ((⟨g,0,none⟩:Addr).add ((j:Int).toNat*4)) (rC b a1 n1 c1 b2 a2 n2 c2)->gX F S (.slice a n c) n (qs.set j q)/\w.grownBy F (some g)/\F.heap.size=w.heap.size:=by
 obtain⟨U,Y,I,h3⟩:=h;obtain⟨g,rfl,QK,RC,QR,QG⟩:=ml (nv:=rC b a1 n1 c1 b2 a2 n2 c2) Y rfl hj rfl bv;have QQ:(⟨g,0,none⟩:Addr).add ((j:Int).toNat*4)=⟨g,j*4,none⟩:=by rw[aI,dD,aV]
 refine⟨g,rfl,by rw[QQ],by rw[QQ],λk K=>by rw[QQ];exact QK k K,λF RK=>?_⟩;rw[QQ]at RK;subst RK;have RB:=kX (cs:=rC b a1 n1 c1 b2 a2 n2 c2) h3.oP (show j<U.length by omega);rw[RB]at RC;have Q1:∀x,S x->(setCells w ⟨g,j*4,none⟩ (rC b a1 n1 c1 b2 a2 n2 c2)).heap[x]? =w.heap[x]? :=λx Z=>
  QR.block x (G x Z) λe=>Rn g rfl (by injection e with e;rw[<-e];exact Z)
 exact⟨⟨_,RC,by simpa using I,(h3.cW Q1).set (hf.cW Q1).four⟩,QR,QG⟩
structure eh(w:World)(S:Nat->Prop)(B:Nat)(iv:Iv)(v:Value)(n:Nat)(qs:List Rat):Prop where
 row:gX w (λg=>Cv S B iv g/\v.ownBlock≠some g) v n qs
 new:∀g,v.ownBlock=some g->Cv FF B iv g
def eh.cW(h:eh w S B iv v n qs)(K:∀g,Cv S B iv g->F.heap[g]? =w.heap[g]?):eh F S B iv v n qs:=
 ⟨h.row.cW λg V=>K g (V.elim (λh=>h.1) λV=>(h.new g V).elim (λh=>h.elim) .inr),h.new⟩
def eh.rel(h:eh w S B iv v n qs)(r:Rel H nx iv B w O J)(G:∀g,S g->g<B):eh J S B iv v n qs:=h.cW λ_ V=>rls r G V
def eh.cV(h:eh w S B iv v n qs)(r:Rel H nx iv B w O J)(G:∀g,S g->g<B)(L:Ext J F)(hm:∀p,p∈iv->p∈A):eh F S B A v n qs:=
 have I:=(h.rel r G).cW λg V=>L.block g (rlo r G g V)
 ⟨I.row.cU λ_ V=>⟨V.1.mono hm,V.2⟩,λg V=>(I.new g V).mono hm⟩
def eh.ef(h:eh F FF J.heap.size [(J.heap.size,F.heap.size)] v n qs)(hB:B<=J.heap.size)(hm:(J.heap.size,F.heap.size)∈iv):eh F S B iv v n qs:=by
 have key:∀g {X:Nat->Prop},Cv FF J.heap.size [(J.heap.size,F.heap.size)] g->Cv X B iv g:=λg X V=>by
  rcases V with V|⟨Y,lo,R,I,h3,h4⟩
  .exact V.elim
  .simp at I;obtain⟨rfl,rfl⟩:=I;exact .inr ⟨be,_,_,hm,h3,h4⟩
 exact⟨h.row.cU λg V=>⟨key g V.1,V.2⟩,λg V=>key g (h.new g V)⟩
def eh.read(h:eh w S B iv v n qs):dx w (Cv S B iv) (Cv S B iv) v qs:=
 h.row.read.cU (λg V=>(h.new g V).elim (λh=>h.elim) .inr) λ_ V=>V.1
def yr(w:World)(S:Nat->Prop)(cs:List Value)(x:Int×Int):Prop:=∃b a n c b2 a2 n2 c2,cs=(rC b a n c b2 a2 n2 c2)/\ke w S (.agg #[.bool b,.slice a n c,.bool b2,.slice a2 n2 c2]) x.1 x.2
def yr.cW(h:yr w S cs x)(K:∀g,S g->F.heap[g]? =w.heap[g]?):yr F S cs x:=by
 obtain⟨b,a,n,c,b2,a2,n2,c2,Y,I⟩:=h;exact⟨b,a,n,c,b2,a2,n2,c2,Y,I.cW K⟩
def yr.cU(h:yr w S cs x)(K:∀g,S g->S' g):yr w S' cs x:=by
 obtain⟨b,a,n,c,b2,a2,n2,c2,Y,I⟩:=h;exact⟨b,a,n,c,b2,a2,n2,c2,Y,I.cU K⟩
def dK{α:Type}(P:World->(Nat->Prop)->List Value->α->Prop)(w:World)(S:Nat->Prop)(v:Value)(xs:List α):Prop:=
 ∃U:List (List Value),fT w S 4 v U.flatten xs.length/\U.length=xs.length/\(∀cs∈U,cs.length=4)/\∀(j:Nat) cs x,U[j]? =some cs->xs[j]? =some x->P w S cs x
abbrev dJ:=dK yr
def dJ.cW(h:dJ w S v xs)(K:∀g,S g->F.heap[g]? =w.heap[g]?):dJ F S v xs:=by
 obtain⟨U,Y,I,h3,h4⟩:=h;exact⟨U,Y.cW K,I,h3,λj cs x k1 k2=>(h4 j cs x k1 k2).cW K⟩
def dJ.cU(h:dJ w S v xs)(K:∀g,S g->S' g):dJ w S' v xs:=by
 obtain⟨U,Y,I,h3,h4⟩:=h;exact⟨U,Y.cU K,I,h3,λj cs x k1 k2=>(h4 j cs x k1 k2).cU K⟩
def dK.shape{α:Type}{P:World->(Nat->Prop)->List Value->α->Prop}{xs:List α}(h:dK P w S v xs):∃a c,v= .slice a xs.length c/\xs.length<=c/\xs.length<=maxLen:=by
 obtain⟨U,⟨h0,_,_,a,c,Y,I,_⟩,_⟩:=h;exact⟨a,c,Y,I,h0⟩
def dK.load{α:Type}{P:World->(Nat->Prop)->List Value->α->Prop}{xs:List α}{m c j:Nat}{x:α}(h:dK P w S (.slice a m c) xs)(hq:xs[j]? =some x):
  ∃ad cs,a=some ad/\P w S cs x/\cs.length=4/\∀k u,cs[k]? =some u->S ad.block/\w.cell? ((ad.add (j*4)).add k)=some u:=by
 obtain⟨U,⟨h0,Y,I,a',c',e,h3,h4⟩,hl,Ra,hf⟩:=h;injection e with e1 e2 e3;subst e1;obtain⟨cs,QX⟩:∃cs,U[j]? =some cs:=⟨_,aE (by rw[hl];exact(aH.1 hq).1)⟩
 have hF:=hf j cs x QX hq;have ZZ:=Ra cs (aG QX);obtain⟨ad,k1,k2,k3⟩:=h4 (j*4+0) _ (flat_get Ra QX 0 _ (aE (show 0<cs.length by omega)));refine⟨ad,cs,k1,hF,ZZ,λk u hu=>?_⟩;obtain⟨ad2,m1,m2,m3⟩:=h4 (j*4+k) u (flat_get Ra QX k u hu);rw[k1]at m1;injection m1 with m1;subst m1;refine⟨m2,?_⟩;rw[<-m3];have:(ad.add (j*4)).add k=ad.add (j*4+k):=by
  unfold Addr.add;split<;>split<;>simp_all<;>omega
 rw[this]
def dG{α:Type}(P:World->(Nat->Prop)->Value->α->Prop)(w:World)(S:Nat->Prop)(v:Value)(M:List α):Prop:=
 ∃rv,fT w S 1 v rv M.length/\rv.length=M.length/\∀(i:Nat) u x,rv[i]? =some u->M[i]? =some x->P w S u x
def dG.shape{α:Type}{P:World->(Nat->Prop)->Value->α->Prop}{xs:List α}(h:dG P w S v xs):∃a c,v= .slice a xs.length c/\xs.length<=c/\xs.length<=maxLen:=by
 obtain⟨rv,⟨h0,_,_,a,c,Y,I,_⟩,_⟩:=h;exact⟨a,c,Y,I,h0⟩
def dG.load{α:Type}{P:World->(Nat->Prop)->Value->α->Prop}{xs:List α}{m c j:Nat}{x:α}(h:dG P w S (.slice a m c) xs)(hq:xs[j]? =some x):
  ∃ad u,a=some ad/\P w S u x/\S ad.block/\w.cell? (ad.add (j*1))=some u:=by
 obtain⟨rv,⟨h0,Y,I,a',c',e,h3,h4⟩,hl,hf⟩:=h;injection e with e1 e2 e3;subst e1;obtain⟨u,hu⟩:∃u,rv[j]? =some u:=⟨_,aE (by rw[hl];exact(aH.1 hq).1)⟩
 obtain⟨ad,k1,k2,k3⟩:=h4 j u hu;exact⟨ad,u,k1,hf j u x hu hq,k2,by rw[ah];exact k3⟩
abbrev dQ:=dG dJ
def dQ.cW(h:dQ w S v M)(K:∀g,S g->F.heap[g]? =w.heap[g]?):dQ F S v M:=by
 obtain⟨rv,Y,I,h3⟩:=h;exact⟨rv,Y.cW K,I,λi u x k1 k2=>dJ.cW (h3 i u x k1 k2) K⟩
def dQ.cU(h:dQ w S v M)(K:∀g,S g->S' g):dQ w S' v M:=by
 obtain⟨rv,Y,I,h3⟩:=h;exact⟨rv,Y.cU K,I,λi u x k1 k2=>dJ.cU (h3 i u x k1 k2) K⟩
abbrev fM:=dG (λw S v qs=>dx w S S v qs)
def fM.cW{M:List (List Rat)}(h:fM w S v M)(K:∀g,S g->F.heap[g]? =w.heap[g]?):fM F S v M:=by
 obtain⟨rv,Y,I,h3⟩:=h;exact⟨rv,Y.cW K,I,λi u x k1 k2=>(h3 i u x k1 k2).cW λg V=>K g (V.elim id id)⟩
def fM.cU{M:List (List Rat)}(h:fM w S v M)(K:∀g,S g->S' g):fM w S' v M:=by
 obtain⟨rv,Y,I,h3⟩:=h;exact⟨rv,Y.cU K,I,λi u x k1 k2=>(h3 i u x k1 k2).cU K K⟩
end
section
variable{S S':Nat->Prop}{H:Hp}{nx:Nat}{iv A:Iv}{B:Nat}{w J F:World}{O:Nat->Sx.eD}{v:Value}{xs:List (Int×Int)}
def dJ.rel(h:dJ w (Cv S B iv) v xs)(r:Rel H nx iv B w O J)(G:∀g,S g->g<B):dJ J (Cv S B iv) v xs:=dJ.cW h λ_ V=>rls r G V
def dJ.cV(h:dJ w (Cv S B iv) v xs)(r:Rel H nx iv B w O J)(G:∀g,S g->g<B)(L:Ext J F)(hm:∀p,p∈iv->p∈A):dJ F (Cv S B A) v xs:=
 dJ.cU (dJ.cW (dJ.rel h r G) λg V=>L.block g (rlo r G g V)) λ_ V=>V.mono hm
def dJ.arg(h:dJ w S v xs)(iv:Iv):dJ w (Cv S w.heap.size iv) v xs:=dJ.cU h λ_ h=>.inl h
end
section
variable{S S':Nat->Prop}{H:Hp}{nx:Nat}{iv A:Iv}{B:Nat}{w J F:World}{O:Nat->Sx.eD}{v:Value}{M:List (List (Int×Int))}
def dQ.rel(h:dQ w (Cv S B iv) v M)(r:Rel H nx iv B w O J)(G:∀g,S g->g<B):dQ J (Cv S B iv) v M:=dQ.cW h λ_ V=>rls r G V
def dQ.cV(h:dQ w (Cv S B iv) v M)(r:Rel H nx iv B w O J)(G:∀g,S g->g<B)(L:Ext J F)(hm:∀p,p∈iv->p∈A):dQ F (Cv S B A) v M:=
 dQ.cU (dQ.cW (dQ.rel h r G) λg V=>L.block g (rlo r G g V)) λ_ V=>V.mono hm
def dQ.arg(h:dQ w S v M)(iv:Iv):dQ w (Cv S w.heap.size iv) v M:=dQ.cU h λ_ h=>.inl h
end
section
variable{S S':Nat->Prop}{H:Hp}{nx:Nat}{iv A:Iv}{B:Nat}{w J F:World}{O:Nat->Sx.eD}{v:Value}{M:List (List Rat)}
def fM.rel(h:fM w (Cv S B iv) v M)(r:Rel H nx iv B w O J)(G:∀g,S g->g<B):fM J (Cv S B iv) v M:=fM.cW h λ_ V=>rls r G V
def fM.cV(h:fM w (Cv S B iv) v M)(r:Rel H nx iv B w O J)(G:∀g,S g->g<B)(L:Ext J F)(hm:∀p,p∈iv->p∈A):fM F (Cv S B A) v M:=
 fM.cU (fM.cW (fM.rel h r G) λg V=>L.block g (rlo r G g V)) λ_ V=>V.mono hm
def fM.ef(h:fM F (Nf J F) v M)(hB:B<=J.heap.size)(hm:(J.heap.size,F.heap.size)∈iv):fM F (Cv S B iv) v M:=fM.cU h λ_ V=>V.ef hB hm
def fM.out{w1:World}(h:fM w1 (Cv S w0.heap.size iv) v M)(r:Rel H nx iv w0.heap.size w1 O J)(G:Old S w0):fM J (Nw S w0 J) v M:=
 fM.cU (fM.rel h r G) λ_ V=>Cv.nw V r
end
def dM{α:Type}:List (List α)->Nat
 |[]=>0
 |r::_=>r.length
def j8{α:Type}(M:List (List α)):Nat:=if ∀r∈M,r.length=dM M then(if 60<M.length\/60<dM M then 8 else 0)else 11
def dG.nL(h:dJ w S v xs):∃a c,v= .slice a xs.length c:=by
 obtain⟨a,c,h,_⟩:=dK.shape h;exact⟨a,c,h⟩
def tI(G:Old S w)(h:dQ w S v M):eH PG Fd.td #[v] w (eV w λv' _=>v'=iV (dM M)):=by
 have E:=h;obtain⟨a,c,rfl,hc,hm⟩:=dG.shape h;refine xL ce ?_
 cases M with
 |nil=>
  intro GE we re;exact⟨_,rfl,re.cg,rfl⟩
 |cons r t=>
  obtain⟨ad,u,rfl,hu,Y,I⟩:=dG.load h (j:=0) (x:=r) rfl;obtain⟨a2,c2,rfl⟩:=dG.nL hu;refine⟨ad,rfl,⟨be,ce⟩,.slice a2 r.length c2,λO J r'=>by simpa using gF G Bel.refl r' Y (by simpa using I),?_⟩;intro GE we re;exact⟨_,rfl,re.cg,rfl⟩
def tu(G:Old S w)(h:dQ w S v M):eH PG Fd.nf #[v] w (eV w λv' _=>v'=iV (j8 M)):=by
 replace h:=dQ.arg h [];obtain⟨a,c,rfl,hc,hm⟩:=dG.shape h;unfold maxLen at hm;refine sH ce ?_
 refine⟨Nat×Iv×World,λz=>⟨[(0,sV a M.length c),(5,sV a M.length c),(6,iZ M.length),(7,iZ z.1)],[],0,z.2.1,z.2.2⟩,λz=>M.length-z.1,
  λz=>z.1<=M.length/\Bq w z.2.2/\dQ z.2.2 (Cv S w.heap.size z.2.1) (.slice a M.length c) M/\∀(j:Nat) r,j<z.1->M[j]? =some r->r.length=dM M,?_,?_⟩
 .intro O J r;exact⟨(0,[],J),⟨ce,r.cg,dQ.rel h r G,ce⟩,sbgn [] r⟩
 clear h;rintro⟨i,iv,w1⟩ ⟨R,W,hM,Pm⟩;dsimp only at R W hM Pm ⊢;apply bS<;>intro h
 .have h:=dL h;obtain⟨r,hr⟩:=gO M i;obtain⟨ad,u,rfl,hu,Y,I⟩:=dG.load hM hr;obtain⟨a2,c2,rfl⟩:=dG.nL hu;refine⟨ad,rfl,be,.slice a2 r.length c2,λO J r'=>?_,?_⟩
  .have h3:=rls r' G Y;rw[aI,cZ (w:=w1) (F:=J) (by rw[da];exact h3)];exact I
  refine cS (cR (GT:=λ_ _ v _=>v=iV (dM M)) (λO J r=>tI (rlo r G) (dQ.rel hM r G)) ?_);rintro O wa v1 wb r' L N rfl;replace W:=W.tr N;replace hM:=dQ.cV (A:=(wa.heap.size,wb.heap.size)::iv) hM r' G L λx Z=>aD _ Z;clear r' L N;generalize (wa.heap.size,wb.heap.size)::iv=iv2 at*
  apply bS<;>intro Po
  .have Po:r.length≠dM M:=λe=>by rw[e]at Po;simp at Po
   intro GE we re;refine⟨_,rfl,W.tr re.cg,?_⟩;unfold j8;rw[aJ (λQp=>Po (Qp r (aG hr)))];rfl
  .have heq:r.length=dM M:=by
    have h4:((r.length:Int)==(dM M:Int))=true:=by simpa using Po
    have:=eq_of_beq h4;omega
   refine inc i ?_;intro I8 w3 r3;refine⟨(i+1,iv2,w3),⟨h,W.tr r3.cg,dQ.rel hM r3 G,λj r' hj WW=>?_⟩,sbgn [] r3,by dsimp only;omega⟩;by_cases Qd:j=i
   .subst Qd;rw[hr]at WW;injection WW with WW;rw[<-WW];exact heq
   .exact Pm j r' (by dsimp only at hj;omega) WW
 .have h:i=M.length:=by
   have:¬i<M.length:=by simpa using h
   omega
  have Qp:∀r∈M,r.length=dM M:=λr hr=>by
   obtain⟨j,hj⟩:=aj hr;exact Pm j r (by rw[h];exact(aH.1 hj).1) hj
  have Vr:j8 M=if 60<M.length\/60<dM M then 8 else 0:=by unfold j8;rw[aM Qp]
  apply bS<;>intro hl
  .have hl:60<M.length:=by
    have:(M.length:Int)>60:=aK hl;omega
   exact rtn W λGE we re=>by rw[Vr,aM (.inl hl)];rfl
  .have hl:¬60<M.length:=by
    have:¬(M.length:Int)>60:=aL hl;omega
   refine cS (cR (GT:=λ_ _ v _=>v=iV (dM M)) (λO J r=>tI (rlo r G) (dQ.rel hM r G)) ?_);rintro O wa v1 wb r' L N rfl;replace W:=W.tr N;clear r' L N;apply bS<;>intro Qn
   .have Qn:60<dM M:=by
     have:(dM M:Int)>60:=aK Qn;omega
    exact rtn W λGE we re=>by rw[Vr,aM (.inr Qn)];rfl
   .have Qn:¬60<dM M:=by
     have:¬(dM M:Int)>60:=aL Qn;omega
    exact rtn W λGE we re=>by rw[Vr,aJ be];rfl
def CQ{u:Value}(G:Old S w)(h:dQ w S v M)(hu:dJ w S u b):
  eH PG Fd.nd #[v,u] w (eV w λv' _=>v'=iV ((if j8 M≠0 then j8 M else if b.length≠M.length then 11 else 0:Nat):Int)):=by
 replace h:=dQ.arg h [];obtain⟨a,c,rfl,hc,hm⟩:=dG.shape h;obtain⟨a2,c2,rfl,SN,VI⟩:=dK.shape hu;refine sG ce ?_;refine cS (cR (GT:=λ_ _ v _=>v=iV (j8 M)) (λO J r=>tu (rlo r G) (dQ.rel h r G)) ?_);rintro O wa v1 wb r' L W rfl;clear r' L h;apply bS<;>intro h0
 .have h0:j8 M≠0:=λe=>by rw[e]at h0;simp at h0
  rw[aM h0];exact rtn W λGE we re=>rfl
 .have h0:j8 M=0:=by
   have h4:((j8 M:Int)==0)=true:=by simpa using h0
   have:=eq_of_beq h4;omega
  rw[aJ be];apply bS<;>intro Y
  .have Y:b.length≠M.length:=λe=>by rw[e]at Y;simp at Y
   rw[aM Y];exact rtn W λGE we re=>rfl
  .have Y:b.length=M.length:=by
    have h4:((b.length:Int)==(M.length:Int))=true:=by simpa using Y
    have:=eq_of_beq h4;omega
   rw[aJ be];exact rtn W λGE we re=>rfl
def f0:List Value:=[.bool false,nls,.bool false,nls]
structure ll(w:World)(S:Nat->Prop)(n i:Nat)(U:List (List Value))(qs:List Rat):Prop where
 len:U.length=n
 four:∀cs∈U,cs.length=4
 one:∀cs∈U,∀u∈cs,u.oneCell'=true
 at_:∀(j:Nat) cs q,j<i->U[j]? =some cs->qs[j]? =some q->jh w S cs q
section
variable{S S':Nat->Prop}{H:Hp}{nx n i:Nat}{iv A:Iv}{B:Nat}{w w1 J F:World}{O:Nat->Sx.eD}{U:List (List Value)}{qs:List Rat}
def ll.cW(h:ll w S n i U qs)(K:∀g,S g->F.heap[g]? =w.heap[g]?):ll F S n i U qs:=⟨h.len,h.four,h.one,λj cs q hj Y I=>(h.at_ j cs q hj Y I).cW K⟩
def ll.cU(h:ll w S n i U qs)(K:∀g,S g->S' g):ll w S' n i U qs:=⟨h.len,h.four,h.one,λj cs q hj Y I=>(h.at_ j cs q hj Y I).cU K⟩
def ll.rel(h:ll w (Cv S B iv) n i U qs)(r:Rel H nx iv B w O J)(G:∀g,S g->g<B):ll J (Cv S B iv) n i U qs:=h.cW λ_ V=>rls r G V
def ll.cV(h:ll w (Cv S B iv) n i U qs)(r:Rel H nx iv B w O J)(G:∀g,S g->g<B)(L:Ext J F)(hm:∀p,p∈iv->p∈A):ll F (Cv S B A) n i U qs:=
 ((h.rel r G).cW λg V=>L.block g (rlo r G g V)).cU λ_ V=>V.mono hm
def ll.start(w:World)(S:Nat->Prop)(n:Nat)(qs:List Rat):ll w S n 0 (List.replicate n f0) qs:=
 ⟨ce,λcs hc=>by rw[bK hc];rfl,λcs hc u hu=>by rw[bK hc]at hu;simp[f0]at hu;rcases hu with rfl|rfl|rfl|rfl<;>rfl,λj cs q hj=>be⟩
def ll.next{b b2:Bool}{m c m2 c2:Nat}(h:ll w S n i U qs)(R:i<n)(hq:qs[i]? =some q)(hf:cw w S (.agg #[.bool b,.slice a m c,.bool b2,.slice a2 m2 c2]) q):
  ll w S n (i+1) (U.set i (rC b a m c b2 a2 m2 c2)) qs:=by
 refine⟨by simp[h.len],λcs hc=>?_,λcs hc u hu=>?_,λj cs p hj Y I=>?_⟩
 .rcases bL hc with hc|rfl
  .exact h.four cs hc
  .rfl
 .rcases bL hc with hc|rfl
  .exact h.one cs hc u hu
  .simp at hu;rcases hu with rfl|rfl|rfl|rfl<;>rfl
 .by_cases RQ:i=j
  .subst RQ;rw[aQ (by rw[h.len];exact R)]at Y;rw[hq]at I;injection Y with Y;injection I with I;subst Y I;exact hf.four
  .rw[aX RQ]at Y;exact h.at_ j cs p be Y I
def ll.flat(h:ll w S n i U qs):U.flatten.length=n*4:=by rw[fJ h.four,h.len]
def ll.done(h:ll w1 (Cf w0 iv) n n U qs)(hl:qs.length=n)(E:n<=maxLen)(r:Rel H nx iv w0.heap.size w1 O J){id:Nat}(hH:dT H id=some (.arr T.dN U.flatten))(QC:(O id).nil=false):
  eh J FF w0.heap.size [(w0.heap.size,J.heap.size)] (.slice (some ⟨(O id).g,0,none⟩) n n) n qs:=by
 have I:=h.rel r (MV w0);have Pq:=r.low id _ hH QC;refine⟨⟨U,⟨h.flat,.inr ⟨(O id).g,n,U.flatten.toArray,rfl,aZ _,r.arr id _ _ hH,lr,E,by simpa using h.flat,?_⟩⟩,h.len,?_⟩,λg V=>?_⟩
 .rw[<-h.flat];exact bE
 .refine⟨by rw[h.len,hl],λj cs q h3 h4=>?_⟩;refine(I.at_ j cs q (by rw[<-hl];exact(aH.1 h4).1) h3 h4).cU λg V=>⟨?_,λe=>?_⟩
  .rcases V with V|⟨k1,lo,R,k2,k3,k4⟩
   .exact V.elim
   .exact .inr ⟨k1,_,_,aY.2 rfl,k1,by have:=r.oB lo R k2;have:=r.size;omega⟩
  .injection e with e;exact Rel.not r (MV w0) V id _ hH QC e
 .injection V with V;subst V;exact .inr ⟨Pq.1,_,_,aY.2 rfl,Pq.1,Pq.2⟩
end
def j4(n:Nat)(w:World)(E:n<=1000000):eH PG Fd.yD #[iV n] w (eV w λv F=>eh F FF w.heap.size [(w.heap.size,F.heap.size)] v n (List.replicate n 0)):=by
 refine Au ce ?_
 refine⟨n,n,rfl,rfl,lr,be,be,Nat×List (List Value)×Iv×World,λz=>⟨[(3,.o (.s 0 0 n n)),(8,iZ n),(9,iZ z.1)],[(0,.arr T.dN z.2.1.flatten)],1,z.2.2.1,z.2.2.2⟩,λz=>n-z.1,
  λz=>z.1<=n/\Bq w z.2.2.2/\ll z.2.2.2 (Cf w z.2.2.1) n z.1 z.2.1 (List.replicate n 0),?_,?_⟩
 .intro O J r;exact⟨(0,List.replicate n f0,[],J),⟨ce,r.cg,ll.start _ _ _ _⟩,sbgn [] r⟩
 rintro⟨i,U,iv,w1⟩ ⟨R,W,hF⟩;dsimp only at R W hF ⊢;apply bS<;>intro h
 .have h:=dL h;refine cS (cR (GT:=λ_ J v F=>cw F (Nf J F) v ((0:Int):Rat)) (λO J r=>iI 0 J bv bv) ?_);rintro O wa v1 wb r L N hO;have Qb:=hO.ef (S:=FF) r.cY (iv:=(wa.heap.size,wb.heap.size)::iv) aF;replace hF:=hF.cV (A:=(wa.heap.size,wb.heap.size)::iv) r oF L λx Z=>aD _ Z;replace W:=W.tr N;clear r L N hO;generalize (wa.heap.size,wb.heap.size)::iv=iv2 at*
  obtain⟨b1,a1,n1,c1,b2,a2,n2,c2,rfl⟩:=Qb.shape;have R6:=hF.next h (q:=0) (by simp[h]) Qb
  refine⟨be,by have:=hF.flat;omega,(U.set i (rC b1 a1 n1 c1 b2 a2 n2 c2)).flatten,?_,?_⟩
  .have:=kX (cs:=rC b1 a1 n1 c1 b2 a2 n2 c2) hF.four (show i<U.length by rw[hF.len];exact h);rw[<-this];simp
  refine inc i ?_;intro I8 w3 r3;exact⟨(i+1,U.set i (rC b1 a1 n1 c1 b2 a2 n2 c2),iv2,w3),⟨h,W.tr r3.cg,R6.rel r3 oF⟩,sbgn [] r3,dec h⟩
 .have h:i=n:=by
   have:¬i<n:=by simpa using h
   omega
  subst h;exact rtn W λGE we re=>hF.done ce mx re (id:=0) rfl (re.nn 0 _ rfl (by intros;simp) ce)
def dC(x:Int×Int):Rat:=ratio x.1 x.2
def ue(xs:List (Int×Int)):Prop:=∀x∈xs,ln x.1.natAbs<=10000000000/\ln x.2.natAbs<=10000000000
def kY(G:Old S w)(h:dJ w S v xs)(hf:ue xs)(E:xs.length<=1000000):
  eH PG Fd.vo #[v] w (eV w λv' F=>eh F FF w.heap.size [(w.heap.size,F.heap.size)] v' xs.length (xs.map dC)):=by
 replace h:=dJ.arg h [];obtain⟨a,c,rfl,hc,-⟩:=dK.shape h;refine yf ce ?_
 refine⟨xs.length,xs.length,rfl,rfl,lr,be,be,Nat×List (List Value)×Iv×World,λz=>⟨[(3,.o (.s 0 0 xs.length xs.length)),(9,sV a xs.length c),(10,iZ xs.length),(11,iZ z.1)],[(0,.arr T.dN z.2.1.flatten)],1,z.2.2.1,z.2.2.2⟩,λz=>xs.length-z.1,
  λz=>z.1<=xs.length/\Bq w z.2.2.2/\dJ z.2.2.2 (Cv S w.heap.size z.2.2.1) (.slice a xs.length c) xs/\ll z.2.2.2 (Cf w z.2.2.1) xs.length z.1 z.2.1 (xs.map dC),?_,?_⟩
 .intro O J r;exact⟨(0,List.replicate xs.length f0,[],J),⟨ce,r.cg,dJ.rel h r G,ll.start _ _ _ _⟩,sbgn [] r⟩
 clear h;rintro⟨i,U,iv,w1⟩ ⟨R,W,hX,hF⟩;dsimp only at R W hX hF ⊢;apply bS<;>intro h
 .have h:=dL h;obtain⟨x,Z⟩:=gO xs i;obtain⟨ad,cs,rfl,hR,-,hl⟩:=dK.load hX Z;obtain⟨b3,a3,n3,c3,b4,a4,n4,c4,rfl,hR⟩:=hR;obtain⟨f1,f2⟩:=hf x (aG Z);refine⟨ad,rfl,be,rC b3 a3 n3 c3 b4 a4 n4 c4,rfl,λO J r j u hu=>?_,?_⟩
  .obtain⟨k1,k2⟩:=hl j u hu;have:=rls r G k1;rw[aI,cZ (w:=w1) (F:=J) (by rw[da,da];exact this)];exact k2
  refine cS (cR (GT:=λ_ J v F=>cw F (Nf J F) v (dC x)) (λO J r=>zO (rlo r G) (hR.rel r G) be be) ?_);rintro O wa v1 wb r L N hO;have Qb:=hO.ef (S:=FF) r.cY (iv:=(wa.heap.size,wb.heap.size)::iv) aF;replace hF:=hF.cV (A:=(wa.heap.size,wb.heap.size)::iv) r oF L λx Z=>aD _ Z;replace hX:=dJ.cV (A:=(wa.heap.size,wb.heap.size)::iv) hX r G L λx Z=>aD _ Z;replace W:=W.tr N;clear r L N hO hl hR;generalize (wa.heap.size,wb.heap.size)::iv=iv2 at*
  obtain⟨b1,a1,n1,c1,b2,a2,n2,c2,rfl⟩:=Qb.shape;have R6:=hF.next h (q:=dC x) (by rw[aS,Z];rfl) Qb
  refine⟨be,by have:=hF.flat;omega,(U.set i (rC b1 a1 n1 c1 b2 a2 n2 c2)).flatten,?_,?_⟩
  .have:=kX (cs:=rC b1 a1 n1 c1 b2 a2 n2 c2) hF.four (show i<U.length by rw[hF.len];exact h);rw[<-this];simp
  refine inc i ?_;intro I8 w3 r3;exact⟨(i+1,U.set i (rC b1 a1 n1 c1 b2 a2 n2 c2),iv2,w3),⟨h,W.tr r3.cg,dJ.rel hX r3 G,R6.rel r3 oF⟩,sbgn [] r3,dec h⟩
 .have h:i=xs.length:=by
   have:¬i<xs.length:=by simpa using h
   omega
  subst h;exact rtn W λGE we re=>hF.done ce mx re (id:=0) rfl (re.nn 0 _ rfl (by intros;simp) ce)
structure iT(w:World)(S:Nat->Prop)(B:Nat)(iv:Iv)(rv:List Value)(n:Nat)(M:List (List Rat)):Prop where
 len:rv.length=M.length
 row:∀(i:Nat) v qs,rv[i]? =some v->M[i]? =some qs->gX w (λg=>Cv S B iv g/\¬ ∃u∈rv,u.ownBlock=some g) v n qs
 HC:∀(i j:Nat) a b g,rv[i]? =some a->rv[j]? =some b->a.ownBlock=some g->b.ownBlock=some g->i=j
 new:∀v∈rv,∀g,v.ownBlock=some g->Cv FF B iv g
def iS(B:Nat):∀g,(λ_:Nat=>False) g->g<B:=λ_ h=>h.elim
def qL{B:Nat}{iv:Iv}{g:Nat}(h:Cv FF B iv g):Cv S B iv g:=h.elim (λh=>h.elim) .inr
section
variable{S S':Nat->Prop}{H:Hp}{nx n i:Nat}{iv A:Iv}{B:Nat}{w w1 J F:World}{O:Nat->Sx.eD}{rv:List Value}{M:List (List Rat)}
def iT.cW(h:iT w S B iv rv n M)(K:∀g,Cv S B iv g->F.heap[g]? =w.heap[g]?):iT F S B iv rv n M:=
 ⟨h.len,λi v qs Y I=>(h.row i v qs Y I).cW λg V=>K g (V.elim (λh=>h.1) λV=>qL (h.new v (aG Y) g V)),h.HC,h.new⟩
def iT.rel(h:iT w S B iv rv n M)(r:Rel H nx iv B w O J)(G:∀g,S g->g<B):iT J S B iv rv n M:=h.cW λ_ V=>rls r G V
def iT.cV(h:iT w S B iv rv n M)(r:Rel H nx iv B w O J)(G:∀g,S g->g<B)(L:Ext J F)(hm:∀p,p∈iv->p∈A):iT F S B A rv n M:=
 have I:=(h.rel r G).cW λg V=>L.block g (rlo r G g V)
 ⟨I.len,λi v qs k1 k2=>(I.row i v qs k1 k2).cU λ_ V=>⟨V.1.mono hm,V.2⟩,I.HC,λv hv g V=>(I.new v hv g V).mono hm⟩
def iT.nil(w:World)(S:Nat->Prop)(B:Nat)(iv:Iv)(n:Nat):iT w S B iv [] n []:=⟨rfl,ce,ce,ce⟩
def iT.snoc(h:iT w S B iv rv n M)(r:Rel H nx iv B w O J)(G:∀g,S g->g<B)(L:Ext J F)(hv:gX F (λg=>Cv S B ((J.heap.size,F.heap.size)::iv) g/\v.ownBlock≠some g/\¬ ∃u∈rv,u.ownBlock=some g) v n qs)
  (R7:∀g,v.ownBlock=some g->J.heap.size<=g/\g<F.heap.size):iT F S B ((J.heap.size,F.heap.size)::iv) (rv++[v]) n (M++[qs]):=by
 have hold:∀g,Cv S B iv g->g<J.heap.size:=rlo r G;have I:=h.cV (A:=(J.heap.size,F.heap.size)::iv) r G L λx Z=>aD _ Z;have hvold:∀g,Cv S B iv g->v.ownBlock≠some g:=λg V e=>by have:=hold g V;have:=(R7 g e).1;omega
 refine⟨by simp[h.len],λi u ps h3 h4=>?_,λi j a b g h3 h4 h5 h6=>?_,λu hu g V=>?_⟩
 .rcases aW i rv.length with R|R
  .rw[aN R]at h3;rw[aN (by rw[<-h.len];exact R)]at h4;have h5:=((h.rel r G).cW (F:=F) λg V=>L.block g (hold g V)).row i u ps h3 h4;refine h5.cU λg V=>⟨V.1.mono λx Z=>aD _ Z,λ⟨x,Z,e⟩=>?_⟩
   rcases az.1 Z with Z|Z
   .exact V.2 ⟨x,Z,e⟩
   .simp at Z;subst Z;exact hvold g V.1 e
  .rw[aP R]at h3;rw[aP (by rw[<-h.len];exact R)]at h4;have h0:i-rv.length=0:=by
    have:=(aH.1 h3).1;simp at this;omega
   rw[h0]at h3;rw[<-h.len,h0]at h4;simp at h3 h4;subst h3 h4;refine hv.cU λg V=>⟨V.1,λ⟨x,Z,e⟩=>?_⟩
   rcases az.1 Z with Z|Z
   .exact V.2.2 ⟨x,Z,e⟩
   .simp at Z;subst Z;exact V.2.1 e
 .have key:∀(i:Nat) a,(rv++[v])[i]? =some a->rv[i]? =some a\/(i=rv.length/\a=v):=λi a ha=>by
   rcases aW i rv.length with R|R
   .rw[aN R]at ha;exact .inl ha
   .rw[aP R]at ha;have:=(aH.1 ha).1;simp at this;rw[this]at ha;simp at ha;exact .inr ⟨be,ha.symm⟩
  have hvn:∀(i:Nat) a,rv[i]? =some a->a.ownBlock=some g->v.ownBlock≠some g:=λi a ha e=>hvold g (qL (h.new a (aG ha) g e));rcases key i a h3 with k1|⟨k1,rfl⟩<;>rcases key j b h4 with k2|⟨k2,rfl⟩
  .exact h.HC i j a b g k1 k2 h5 h6
  .exact absurd h6 (hvn i a k1 h5)
  .exact absurd h5 (hvn j b k2 h6)
  .omega
 .rcases az.1 hu with hu|hu
  .exact(h.new u hu g V).mono λx Z=>aD _ Z
  .simp at hu;subst hu;have:=R7 g V;exact .inr ⟨by have:=r.cY;omega,_,_,aF,this.1,this.2⟩
def iT.aBA(h:iT w S B iv rv n M)(r:Rel H nx iv B w O J)(G:∀g,S g->g<B)(L:Ext J F)(Z:eh F FF J.heap.size [(J.heap.size,F.heap.size)] v n qs):
  iT F S B ((J.heap.size,F.heap.size)::iv) (rv++[v]) n (M++[qs]):=by
 have key:∀g,Cv FF J.heap.size [(J.heap.size,F.heap.size)] g->J.heap.size<=g/\g<F.heap.size:=λg V=>by
  rcases V with V|⟨Y,lo,R,I,h3,h4⟩
  .exact V.elim
  .simp at I;obtain⟨rfl,rfl⟩:=I;exact⟨h3,h4⟩
 refine h.snoc r G L (Z.row.cU λg V=>?_) λg V=>key g (Z.new g V);have:=key g V.1;refine⟨.inr ⟨by have:=r.cY;omega,_,_,aF,this.1,this.2⟩,V.2,λ⟨u,hu,e⟩=>?_⟩;have:=rlo r (iS B) g (h.new u hu g e);omega
def iT.mat(h:iT w S B iv rv n M)(r:Rel H nx iv B w O J)(G:∀g,S g->g<B){id:Nat}(hH:dT H id=some (.arr T.row rv))(QC:(O id).nil=false)(hR:rv.length<=maxLen)(_h1:∀u∈rv,u.oneCell'=true):
  ig J (λg=>Cv S B iv g/\¬Mb (.slice (some ⟨(O id).g,0,none⟩) rv.length rv.length) rv g) (.slice (some ⟨(O id).g,0,none⟩) rv.length rv.length) rv n M:=by
 have I:=h.rel r G;have Qe:∀g,Cv S B iv g->(O id).g≠g:=λg V=>Rel.not r G V id _ hH QC;refine⟨⟨ce,.inr ⟨(O id).g,rv.length,rv.toArray,rfl,aZ _,r.arr id _ _ hH,lr,hR,ce,ce⟩⟩,h.len,λi v qs h3 h4=>?_,h.HC,λv hv g V e=>?_⟩
 .refine(I.row i v qs h3 h4).cU λg V=>⟨V.1,λhm=>?_⟩
  rcases hm with hm|hm
  .injection hm with hm;exact Qe g V.1 hm
  .exact V.2 hm
 .injection e with e;exact Qe g (qL (h.new v hv g V)) e
structure wP(w:World)(S:Nat->Prop)(B:Nat)(iv:Iv)(vm:Value)(n:Nat)(M:List (List Rat)):Prop where
 ex:∃rv,ig w (λg=>Cv S B iv g/\¬Mb vm rv g) vm rv n M/\∀g,Mb vm rv g->Cv FF B iv g
def wP.cW(h:wP w S B iv vm n M)(K:∀g,Cv S B iv g->F.heap[g]? =w.heap[g]?):wP F S B iv vm n M:=by
 obtain⟨rv,Y,I⟩:=h.ex;exact⟨rv,Y.cW λg V=>K g (V.elim (λh=>h.1) λV=>qL (I g V)),I⟩
def wP.ef(h:wP F FF J.heap.size [(J.heap.size,F.heap.size)] vm n M)(hB:B<=J.heap.size)(hm:(J.heap.size,F.heap.size)∈iv):wP F S B iv vm n M:=by
 have key:∀g {X:Nat->Prop},Cv FF J.heap.size [(J.heap.size,F.heap.size)] g->Cv X B iv g:=λg X V=>by
  rcases V with V|⟨Y,lo,R,I,h3,h4⟩
  .exact V.elim
  .simp at I;obtain⟨rfl,rfl⟩:=I;exact .inr ⟨be,_,_,hm,h3,h4⟩
 obtain⟨rv,Y,I⟩:=h.ex;exact⟨rv,Y.cU λg V=>⟨key g V.1,V.2⟩,λg V=>key g (I g V)⟩
def ig.one(h:ig w S vm rv n M):∀u∈rv,u.oneCell'=true:=λu hu=>by
 obtain⟨i,R⟩:=aj hu;have hl:=(aH.1 R).1;obtain⟨U,Y,_⟩:=h.row i u _ R (aE (by rw[<-h.len];exact hl));obtain⟨a,c,rfl,_⟩:=eZ Y;rfl
def ig.read(h:ig w S vm rv n M):fM w (λg=>S g\/Mb vm rv g) vm M:=by
 refine⟨rv,?_,h.len,λi u qs Y I=>?_⟩
 .have hl:=h.len;rw[<-hl];rcases h.out.2 with⟨rfl,h0⟩|⟨g,cap,cur,rfl,N,hc,SJ,RE,QG,RX⟩
  .have:rv=[]:=List.eq_nil_of_length_eq_zero h0;subst this;exact⟨by simp[maxLen],ce,ce,none,0,rfl,lr,ce⟩
  .refine⟨be,h.out.1,h.one,_,cap,rfl,SJ,λj u hu=>⟨_,rfl,.inr (.inl rfl),?_⟩⟩;exact h.out.cells (g:=g) rfl j u hu
 .have h3:gX w S u n qs:=h.row i u qs Y I;exact h3.read.cU (λg V=>.inr (.inr ⟨u,aG Y,V⟩)) λg V=>.inl V
def wP.read(h:wP w S B iv vm n M):fM w (Cv S B iv) vm M:=by
 obtain⟨rv,Y,I⟩:=h.ex;exact fM.cU Y.read λg V=>V.elim (λh=>h.1) λV=>qL (I g V)
end
def GN{n:Nat}(G:Old S w)(h:dQ w S v M)(hf:∀r∈M,ue r)(Pm:∀r∈M,r.length=n)(E:n<=1000000)(hR:M.length<=1000000):
  eH PG Fd.ph #[v] w (eV w λv' F=>wP F FF w.heap.size [(w.heap.size,F.heap.size)] v' n (M.map (·.map dC))):=by
 replace h:=dQ.arg h [];obtain⟨a,c,rfl,hc,-⟩:=dG.shape h;refine qX ce ?_
 refine⟨M.length,M.length,rfl,rfl,lr,be,be,List Value×Iv×World,λz=>⟨[(3,.o (.s 0 0 M.length M.length)),(9,sV a M.length c),(10,iZ M.length),(11,iZ z.1.length)],[(0,.arr T.row (z.1++List.replicate (M.length-z.1.length) nls))],1,z.2.1,z.2.2⟩,λz=>M.length-z.1.length,
  λz=>z.1.length<=M.length/\Bq w z.2.2/\dQ z.2.2 (Cv S w.heap.size z.2.1) (.slice a M.length c) M/\iT z.2.2 FF w.heap.size z.2.1 z.1 n ((M.take z.1.length).map (·.map dC))/\∀u∈z.1,u.oneCell'=true,?_,?_⟩
 .intro O J r;exact⟨([],[],J),⟨ce,r.cg,dQ.rel h r G,by simpa using iT.nil _ _ _ _ _,ce⟩,sbgn [] r⟩
 clear h;rintro⟨rv,iv,w1⟩ ⟨R,W,hX,hF,h1c⟩;dsimp only at R W hX hF h1c ⊢;apply bS<;>intro h
 .have h:rv.length<M.length:=by simpa using h
  obtain⟨x,Z⟩:=gO M rv.length;obtain⟨ad,u,rfl,VM,Ta,Qn⟩:=dG.load hX Z;obtain⟨a2,c2,rfl⟩:=dG.nL VM;have SK:=Pm x (aG Z);refine⟨ad,rfl,be,.slice a2 x.length c2,λO J r=>?_,?_⟩
  .have:=rls r G Ta;rw[aI,cZ (w:=w1) (F:=J) (by rw[da];exact this)];exact Qn
  refine cS (cR (GT:=λ_ J v F=>eh F FF J.heap.size [(J.heap.size,F.heap.size)] v n (x.map dC)) (λO J r=>by rw[<-SK];exact kY (rlo r G) (dJ.rel VM r G) (hf x (aG Z)) be) ?_);rintro O wa v1 wb r L N hO;have XH:=hF.aBA r oF L hO;replace hX:=dQ.cV (A:=(wa.heap.size,wb.heap.size)::iv) hX r G L λx Z=>aD _ Z;replace W:=W.tr N;obtain⟨a3,c3,rfl,-⟩:=hO.row.form;clear r L N hO VM hF Ta Qn;generalize (wa.heap.size,wb.heap.size)::iv=iv2 at*
  refine⟨be,by simp;omega,(rv++[.slice a3 n c3])++List.replicate (M.length-(rv.length+1)) nls,?_,?_⟩
  .have h5:M.length-rv.length=(M.length-(rv.length+1))+1:=by omega
   simp[h5,List.replicate_succ]
  refine⟨((rv.length+1:Nat):Int),wo,?_⟩;intro I8 w3 r3;have RG:(rv++[Value.slice a3 n c3]).length=rv.length+1:=by simp
  refine⟨(rv++[.slice a3 n c3],iv2,w3),⟨by dsimp only;rw[RG];exact h,W.tr r3.cg,dQ.rel hX r3 G,?_,?_⟩,sbgn [] r3 ⟨by dsimp only;rw[RG];rfl,trivial⟩ ⟨rfl,rfl,rfl,by dsimp only;rw[RG];rfl,trivial⟩,by dsimp only;rw[RG];omega⟩
  .dsimp only
   rw[RG,bH,Z,bp];exact XH.rel r3 oF
  .intro u hu;rcases az.1 hu with hu|hu
   .exact h1c u hu
   .simp at hu;subst hu;rfl
 .have h:rv.length=M.length:=by
   have:¬rv.length<M.length:=by simpa using h
   omega
  rw[h,bE]at hF;rw[h,bV,List.replicate_zero,List.append_nil];intro GE we re;refine⟨_,rfl,W.tr re.cg,?_⟩;have QC:=re.nn 0 _ rfl (by intros;simp) ce;have hm:=hF.mat re oF (id:=0) rfl QC mx h1c;rw[h]at hm;have key:∀g,Cf w iv g->Cf w [(w.heap.size,we.heap.size)] g:=λg V=>by
   rcases V with V|⟨Y,lo,R,I,h3,h4⟩
   .exact V.elim
   .exact .inr ⟨Y,_,_,aY.2 rfl,Y,by have:=re.oB lo R I;have:=re.size;omega⟩
  have Pq:=re.low 0 _ rfl QC;refine⟨rv,hm.cU λg V=>⟨key g V.1,V.2⟩,λg V=>?_⟩;rcases V with V|⟨u,hu,V⟩
  .injection V with V;subst V;exact .inr ⟨Pq.1,_,_,aY.2 rfl,Pq.1,Pq.2⟩
  .exact key g (hF.new u hu g V)
abbrev aBB:=tF
def OL(n:Nat)(w:World)(E:n<=1000000000000):
  eH PG Fd.fQ #[nls,iV n] w (eV w λv' F=>F.ownsRow w.heap.size T.dN 4 v' 0 []):=by
 refine iG ce ?_;refine zC (e:=T.dN) aBB d8 (λO w1 r=>?_);have N:=r.cg;clear r;refine⟨0,rfl,(n:Int),by show IntKind.wrap .i64 ((n:Int)-0)=_;rw[wrap64]<;>omega,?_⟩;apply bS<;>intro h
 .have h:0<n:=by have:=aK h;omega
  refine zC (e:=T.dN) aBB d8 (λO F r=>?_);replace N:=N.tr r.cg;clear r;refine⟨⟨be,be,be⟩,none,0,0,d8,be,be,?_⟩;refine Ci hτ (Bc:=w.heap.size) lr d8 d8 ((hτ T.int _ rfl).i1 rfl) bv d8 d8 h mx be (λO w3 w4 c r hc Pm V hs=>?_);have Rb:Bq w w4:=(N.tr r.cg).tr (Bel.grown V (λg V=>by cases V) (by have:=r.base;have:=r.size;omega));have hw3:=(N.tr r.cg).size;clear r;generalize w3.heap.size=g0 at*
  refine⟨⟨be,be,be⟩,some ⟨g0,0,none⟩,0,c,by split<;>rfl,be,be,?_⟩;intro Id w5 r5
  exact⟨_,rfl,Rb.tr r5.cg,fW Pm (λb N=>by
   have N:g0=b:=by injection N
   exact⟨g0,g0+1,by simp[hs],be,be⟩) r5⟩
 .conv=>whnf
  intro Id w5 r5;exact⟨_,rfl,N.tr r5.cg,World.ownsRow_nil _ _ _ _⟩
def Kl(G:Old S w)(h:fT w S 1 v (parts.map (·.1)) parts.length)(hp:∀p∈parts,fT w S 4 p.1 p.2.1 p.2.2)(hN:jI parts<=1000000000000):
  eH PG Fd.eX #[v] w (eV w λv' F=>F.ownsRow w.heap.size T.dN 4 v' (jI parts) (parts.flatMap (·.2.1))):=by
 obtain⟨Um,-,-,a,c,rfl,Uo,Px⟩:=h;have hle:∀k,jI (parts.take k)<=jI parts:=λk=>by
  conv=>rhs;rw[<-List.take_append_drop k parts,nu]
  omega
 have R6:∀(i:Nat) p,parts[i]? =some p->jI (parts.take (i+1))=jI (parts.take i)+p.2.2:=λi p hp=>by
  rw[bH,hp,nu];simp[jI]
 have Vm:∀(i:Nat) p,parts[i]? =some p->(parts.take (i+1)).flatMap (·.2.1)=(parts.take i).flatMap (·.2.1)++p.2.1:=λi p hp=>by
  rw[bH,hp];simp
 have SB:∀(i:Nat) p,parts[i]? =some p->∃ad an ac,a=some ad/\S ad.block/\w.cell? (ad.add i)=some (.slice an p.2.2 ac)/\p.1= .slice an p.2.2 ac:=λi p R=>by
  obtain⟨ad,Y,I,h3⟩:=Px i p.1 (by rw[aS,R];rfl);obtain⟨_,_,_,an,ac,h4,_⟩:=hp p (aG R);exact⟨ad,an,ac,Y,I,by rw[h3,h4],h4⟩
 unfold maxLen at Um;refine gv ce ?_
 refine⟨Nat×World,λz=>⟨[(0,sV a parts.length c),(3,.o (.v (iV (jI (parts.take z.1):Nat)))),(9,sV a parts.length c),(10,iZ parts.length),(11,iZ z.1)],[],0,[],z.2⟩,
  λz=>parts.length-z.1,λz=>z.1<=parts.length/\Bq w z.2,?_,?_⟩
 .intro O J r;exact⟨(0,J),⟨ce,r.cg⟩,sbgn [] r⟩
 .rintro⟨i,w1⟩ ⟨R,W⟩;dsimp only at R W ⊢;apply bS<;>intro h
  .have h:=dL h;obtain⟨p,S6⟩:=gO parts i;obtain⟨ad,an,ac,Y,I,h3,h4⟩:=SB i p S6;have Wx:=R6 i p S6;have TC:=hle (i+1);refine⟨ad,Y,be,.slice an p.2.2 ac,λO J r=>by simpa using gF G W r I h3,((jI (parts.take (i+1)):Nat):Int),wo,((i+1:Nat):Int),wo,?_⟩;intro I8 w3 r3;exact⟨(i+1,w3),⟨h,W.tr r3.cg⟩,sbgn [] r3,by simp;omega⟩
  .have h:i=parts.length:=by
    have:¬i<parts.length:=by simpa using h
    omega
   subst h;clear R;rw[bE];refine cS (cR (GT:=λ_ J v F=>F.ownsRow J.heap.size T.dN 4 v 0 []) (λO J r=>OL _ J be) ?_);rintro O wa v1 wb r L N Pm;have QG:=r.cY;have hes:=L.size;have Xg:wh [(wa.heap.size,wb.heap.size)] v1:=λb N=>⟨_,_,aY.2 rfl,(ownsRow.low Pm b N).1,(ownsRow.low Pm b N).2⟩
   replace Pm:wb.ownsRow w.heap.size T.dN 4 v1 0 []:=⟨Pm.1,Pm.2.imp id λ⟨g,cap,cur,k1,k2,k3⟩=>⟨g,cap,cur,k1,be,k3⟩⟩
   replace W:=W.tr N;clear r L;obtain⟨a1,c1,rfl,-⟩:=eZ Pm
   refine⟨Nat×Value×World,λz=>⟨[(0,sV a parts.length c),(6,.o (.v z.2.1)),(25,sV a parts.length c),(26,iZ parts.length),(27,iZ z.1)],[],0,e9 z.2.1,z.2.2⟩,
    λz=>parts.length-z.1,λz=>z.1<=parts.length/\Bq w z.2.2/\z.2.2.ownsRow w.heap.size T.dN 4 z.2.1 (jI (parts.take z.1)) ((parts.take z.1).flatMap (·.2.1)),?_,?_⟩
   .intro O J r;exact⟨(0,.slice a1 0 c1,J),⟨ce,W.tr r.cg,by simpa [jI]using fW Pm Xg r⟩,Sub.aAe [] r trivial ⟨rfl,rfl,rfl,rfl,rfl,trivial⟩ (by simp[Cd]) (by simp[kN,SV.sc,At.sc]) d8 Xg.iv⟩
   .rintro⟨i,v1,w1⟩ ⟨R,W,Pm⟩;dsimp only at R W Pm ⊢;obtain⟨a1,c1,rfl,-⟩:=eZ Pm;apply bS<;>intro h
    .have h:=dL h;obtain⟨p,S6⟩:=gO parts i;obtain⟨ad,an,ac,Y,I,h3,h4⟩:=SB i p S6;have Wx:=R6 i p S6;have TC:=hle (i+1);have hpR:=hp p (aG S6);refine⟨ad,Y,be,.slice an p.2.2 ac,λO J r=>by simpa using gF G W r I h3,?_⟩
     refine .inr (iC hτ lr (xs:=(parts.take i).flatMap (·.2.1)) (news:=p.2.1) (m:=jI (parts.take i)) (k:=p.2.2) d8 d8 bv d8 d8 (λO J r=>⟨fW Pm (wh.row _) r,λg V=>(wh.row _).not r V⟩) hpR.len hpR.one mx be
      (λO J r=>?_) (λv' F=>e9 v') (λO J v' F r QG SQ=>yL r QG SQ) (λO J v' F r h5 h6 h7=>?_))
     .obtain⟨_,SK,_,a2,c2,h5,_,h6⟩:=hpR;rw[h4]at h5;injection h5 with h7 h8 h9;subst h7 h9
      cases an with
      |none=>
       refine .inl ⟨ac,?_,?_⟩
       .have:p.2.2=0:=by
         rcases bB p.2.2 with h0|h0
         .exact h0
         .obtain⟨ad2,k1,_⟩:=h6 0 _ (aE (show 0<p.2.1.length by omega))
          cases k1
        rw[<-this];rfl
       .rcases bB p.2.2 with h0|h0
        .exact h0
        .obtain⟨ad2,k1,_⟩:=h6 0 _ (aE (show 0<p.2.1.length by omega))
         cases k1
      |some ad3=>
       refine .inr ⟨ad3,ac,rfl,λj u hu=>?_⟩;obtain⟨ad2,k1,k2,k3⟩:=h6 j u hu;injection k1 with k1;subst k1;exact gF G W r k2 k3
     .have QZ:Bq w F:=(W.tr r.cg).tr (Bel.grown h6 (λg V=>(ownsRow.low Pm g V).1) (by have:=r.size;have:=W.size;omega));rw[<-Wx,<-Vm i p S6]at h5;obtain⟨a3,c3,rfl,-⟩:=eZ h5;refine⟨(i+1:Nat),wo,?_⟩;intro I8 w3 r3
      exact⟨(i+1,.slice a3 (jI (parts.take (i+1))) c3,w3),⟨h,QZ.tr r3.cg,fW h5 (wh.row _) r3⟩,
       sbgn [] r3,by simp;omega⟩
    .have h:i=parts.length:=by
      have:¬i<parts.length:=by simpa using h
      omega
     subst h;rw[bE]at Pm ⊢;intro Id w5 r5;exact⟨_,rfl,W.tr r5.cg,fW Pm (wh.row _) r5⟩
def dw(w:World)(S:Nat->Prop)(v:Value)(ps:List Nat):Prop:=fT w S 1 v (ps.map λc:Nat=>iV (c:Int)) ps.length
def OM{x:Nat}(G:Old S w)(h:dw w S v ps)(hl:ps.length<=1000000):
  eH PG Fd.gT #[v,iV x] w (eV w λv' _=>∃i:Int,v'=iV i/\(0<=i↔x∈ps)):=by
 obtain⟨h0,Y,I,a,c,rfl,hc,Px⟩:=h;refine iR ce ?_
 refine⟨Nat×World,λz=>⟨[(0,sV a ps.length c),(1,iZ x),(7,iZ ps.length),(8,iZ z.1)],[],0,[],z.2⟩,λz=>ps.length-z.1,
  λz=>z.1<=ps.length/\Bq w z.2/\∀(j:Nat) y,j<z.1->ps[j]? =some y->y≠x,?_,?_⟩
 .intro O J r;exact⟨(0,J),⟨ce,r.cg,ce⟩,sbgn [] r⟩
 rintro⟨i,w1⟩ ⟨R,W,Po⟩;dsimp only at R W Po ⊢;apply bS<;>intro h
 .have h:=dL h;obtain⟨y,hy⟩:=gO ps i;obtain⟨ad,rfl,k1,k2⟩:=Px i (iV (y:Int)) (by rw[aS,hy];rfl);refine⟨ad,rfl,be,iV (y:Int),λO J r=>by simpa using gF G W r k1 k2,?_⟩;apply bS<;>intro L
  .have L:x=y:=by have:=eq_of_beq L;omega
   exact rtn W λGE we re=>⟨_,rfl,⟨λ_=>by rw[L];exact aG hy,λ_=>be⟩⟩
  .have L:x≠y:=λe=>by rw[e]at L;simp at L
   refine inc i ?_;intro I8 w3 r3;refine⟨(i+1,w3),⟨h,W.tr r3.cg,λj z hj hz=>?_⟩,sbgn [] r3,by dsimp only;omega⟩;by_cases Qd:j=i
   .subst Qd;rw[hy]at hz;injection hz with hz;rw[<-hz];exact Ne.symm L
   .exact Po j z (by dsimp only at hj;omega) hz
 .have h:i=ps.length:=by
   have:¬i<ps.length:=by simpa using h
   omega
  intro GE we re;refine⟨_,rfl,W.tr re.cg,-1,rfl,⟨λh=>be,λhm=>?_⟩⟩;obtain⟨j,hj⟩:=aj hm;exact absurd rfl (Po j x (by rw[h];exact(aH.1 hj).1) hj)
def dw.cW{F:World}(h:dw w S v ps)(K:∀g,S g->F.heap[g]? =w.heap[g]?):dw F S v ps:=fT.cW h K
def dw.cU{S':Nat->Prop}(h:dw w S v ps)(K:∀g,S g->S' g):dw w S' v ps:=fT.cU h K
section
variable{S S':Nat->Prop}{H:Hp}{nx:Nat}{iv A:Iv}{B:Nat}{w J F:World}{O:Nat->Sx.eD}{v:Value}{ps:List Nat}
def dw.rel(h:dw w (Cv S B iv) v ps)(r:Rel H nx iv B w O J)(G:∀g,S g->g<B):dw J (Cv S B iv) v ps:=dw.cW h λ_ V=>rls r G V
def dw.cV(h:dw w (Cv S B iv) v ps)(r:Rel H nx iv B w O J)(G:∀g,S g->g<B)(L:Ext J F)(hm:∀p,p∈iv->p∈A):dw F (Cv S B A) v ps:=
 dw.cU (dw.cW (dw.rel h r G) λg V=>L.block g (rlo r G g V)) λ_ V=>V.mono hm
def dw.ef(h:dw F (Nf J F) v ps)(hB:B<=J.heap.size)(hm:(J.heap.size,F.heap.size)∈iv):dw F (Cv S B iv) v ps:=dw.cU h λ_ V=>V.ef hB hm
def dw.arg(h:dw w S v ps)(iv:Iv):dw w (Cv S w.heap.size iv) v ps:=dw.cU h λ_ h=>.inl h
end
def IC{x:Nat}(G:Old S w)(h:dw w S v ps)(hl:ps.length<=1000000):
  eH PG Fd.iQ #[v,iV x] w (eV w λv' _=>v'= .bool (decide (x∈ps))):=by
 replace h:=dw.arg h [];have hsh:=fT.shape h;obtain⟨a,m,c,rfl⟩:=hsh;refine kW ce ?_;refine cS (cR (GT:=λ_ _ v _=>∃i:Int,v=iV i/\(0<=i↔x∈ps)) (λO J r=>OM (rlo r G) (dw.rel h r G) hl) ?_);rintro O wa v1 wb r L W ⟨i,rfl,R⟩;clear r L;exact rtn W λGE we re=>congrArg Value.bool (decide_eq_decide.2 R)
end Go.Ex
