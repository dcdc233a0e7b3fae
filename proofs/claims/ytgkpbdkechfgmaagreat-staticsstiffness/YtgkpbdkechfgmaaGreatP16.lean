/- Texts L47 to X196: lemmas, each with its conditions. -/
import Derived.Test.YtgkpbdkechfgmaaGreatP15
namespace Go.Ex
variable{s:Int×Int×Rat}{M:List (List Rat)}{fl x:List Rat}{n t:Nat}{u y z:Nat->Rat}{f:eY}
theorem aBi{M:List (List Int)}{r c:Nat}:cY (M.map dH) r c=((ez M r c:Int):Rat):=by
 have key:∀l:List Int,(dH l).getD c 0=((l.getD c 0:Int):Rat):=fun l=>by
  rw[dH,List.getD,List.getD,aN]
  cases l[c]? <;>rfl
 unfold cY ez;rw[<-key];congr 1;rw[List.getD,List.getD,aN]
 cases M[r]? <;>rfl
theorem mw(f:eY)(r c:Nat):cY (cU f) r c=((ez (iS f) r c:Int):Rat):=aBi
def Wid(n:Nat)(M:List (List Int)):Prop:=∀l∈M,l.length=n
theorem Wid.put{r c:Nat}{d:Int}{M:List (List Int)}(h:Wid n M):Wid n (putAt M r c d):=fun l hl=>by
 unfold putAt at hl;rcases aP r M.length with hr|hr
 ·rcases bA hl with hl|rfl
  ·exact h l hl
  ·rw[bW,List.getD,aB hr];exact h _ (a9 hr)
 ·rw[List.set_eq_of_length_le hr]at hl;exact h l hl
theorem yN{f:eY}{M:List (List Int)}{n i:Nat}(h:Wid n M):∀k,Wid n (e9 f M i k)
 |0=>h
 |k+1=>by rw[e9];rw[gU,gU];exact((yN h k).put).put
theorem ug(f:eY):∀i,Wid f.cols (di f i)
 |0=>fun l hl=>by rw[di]at hl;rw[ah hl,aU]
 |i+1=>by rw[di];exact yN (ug f i) 3
theorem lD(f:eY):∀i,Wid f.cols (fT f i)
 |0=>ug f _
 |i+1=>by rw[fT];exact(lD f i).put
theorem mP(M:List (List Int))(r c:Nat)(d:Int):(putAt M r c d).length=M.length:=bW ..
theorem pq(f:eY)(M:List (List Int))(i:Nat):∀k,(e9 f M i k).length=M.length
 |0=>rfl
 |k+1=>by rw[e9];rw[gU,gU,mP,mP];exact pq f M i k
theorem oQ(f:eY):∀i,(di f i).length=3*f.nodes.length
 |0=>aU ..
 |i+1=>by rw[di,pq];exact oQ f i
theorem lL(f:eY):∀i,(fT f i).length=3*f.nodes.length
 |0=>oQ f _
 |i+1=>by rw[fT,mP];exact lL f i
theorem fe(f:eY):fq f.cols (cU f):=fun r hr=>by
 obtain⟨l,hl,rfl⟩:=aT.1 hr;rw[dH,aL];exact lD f _ l hl
theorem fu(f:eY):(cU f).length=3*f.nodes.length:=by rw[cU,aL];exact lL f _
structure FrV(f:eY):Prop where
 co:∀p∈f.nodes,(-1000000<=p.1∧p.1<=1000000)∧(-1000000<=p.2.1∧p.2.1<=1000000)∧(-1000000<=p.2.2∧p.2.2<=1000000)
 Hq:∀b∈f.bars,∃ka kb:Nat,b.1=ka∧b.2.1=kb∧ka<f.nodes.length∧kb<f.nodes.length∧ka≠kb∧0<b.2.2
 sup:∀s∈f.cV,dw s<3*f.nodes.length∧0<=s.2.2
 one:∀(i j:Nat) s t,f.cV[i]? =some s->f.cV[j]? =some t->dw s=dw t->i=j
 n:f.nodes.length<=20
 b:f.bars.length<=60
 s:f.cV.length<=60
theorem Fq{α:Type}{l:List α}{x:α}(h:x∈l):∃i:Nat,l[i]? =some x:=by
 obtain⟨i,hi,rfl⟩:=List.mem_iff_getElem.1 h;exact⟨i,aB hi⟩
theorem Jc(h:eP f=0):FrV f:=by
 have Oc:=lM h;obtain⟨⟨h1,h2,h3⟩,h4,h5,h6⟩:=yO h;have XE:∀(k:Nat) s,f.cV[k]? =some s->jr f.nodes.length s.1∧(0<=s.2.1∧s.2.1<=2)∧j4 s∉(f.cV.take k).map j4∧0<=s.2.2:=fun k s hs=>tL.1 (j5 h6 k s hs);have OX:∀(k:Nat) s,f.cV[k]? =some s->(dw s:Int)=3*s.1+s.2.1∧dw s<3*f.nodes.length:=fun k s hs=>by
  obtain⟨⟨a1,a2⟩,⟨a3,a4⟩,-,-⟩:=XE k s hs;unfold dw;omega
 have lt:∀(i j:Nat) s t,i<j->f.cV[i]? =some s->f.cV[j]? =some t->dw s≠dw t:=fun i j s t PZ hs ht e=>by
  obtain⟨⟨a1,a2⟩,⟨a3,a4⟩,-,-⟩:=XE i s hs;obtain⟨⟨b1,b2⟩,⟨b3,b4⟩,b5,-⟩:=XE j t ht;have e1:=(OX i s hs).1;have e2:=(OX j t ht).1;refine b5 (aT.2 ⟨s,aD (i:=i) (by rw[bZ PZ];exact hs),?_⟩);exact Prod.ext (by show s.1=t.1;omega) (by show s.2.1=t.2.1;omega)
 refine⟨Oc.co,fun b hb=>?_,fun s hs=>?_,fun i j s t hs ht e=>?_,h1,h2,h3⟩
 ·obtain⟨k,hk⟩:=Fq hb;obtain⟨⟨⟨a1,a2⟩,a3,a4⟩,a5,-,a6⟩:=oo.1 (j5 h5 k b hk);exact⟨b.1.toNat,b.2.1.toNat,by omega,by omega,by omega,by omega,by omega,a6⟩
 ·obtain⟨k,hk⟩:=Fq hs;exact⟨(OX k s hk).2,(XE k s hk).2.2.2⟩
 ·rcases bs i j with h7|h7|h7
  ·exact absurd e (lt i j s t h7 hs ht)
  ·exact h7
  ·exact absurd e.symm (lt j i t s h7 ht hs)
theorem Hr(M:List (List Int))(r c r' c':Nat)(d:Int):ez (putAt M r c d) r' c'=d∨ez (putAt M r c d) r' c'=ez M r' c':=by
 by_cases h:r'=r∧c'=c
 ·obtain⟨rfl,rfl⟩:=h;rcases aP r' M.length with h1|h1
  ·rcases aP c' (M.getD r' []).length with h2|h2
   ·exact .inl (wP h1 h2)
   ·refine .inr ?_;unfold ez putAt;rw[j3 h1,List.set_eq_of_length_le h2]
  ·refine .inr ?_;unfold ez putAt;rw[List.set_eq_of_length_le h1]
 ·exact .inr (iT (by
   by_cases h1:r'=r
   ·exact .inr fun h2=>h ⟨h1,h2⟩
   ·exact .inl h1))
theorem Hs{k:Nat}(hk:k<f.nodes.length):f.node (k:Int)∈f.nodes:=by
 rw[eY.node,aF,List.getD,aB hk];exact a9 hk
section
variable{f:eY}(h:FrV f)
include h
theorem FrV.dif{b:Int×Int×Rat}(hb:b∈f.bars)(k:Nat): -2000000<=(j2 f b).getD k 0∧(j2 f b).getD k 0<=2000000:=by
 obtain⟨ka,kb,ea,eb,US,OY,-,-⟩:=h.Hq b hb;obtain⟨⟨a1,a2⟩,⟨a3,a4⟩,a5,a6⟩:=h.co _ (Hs US);obtain⟨⟨b1,b2⟩,⟨b3,b4⟩,b5,b6⟩:=h.co _ (Hs OY);rw[j2,ea,eb]
 match k with
 |0=>simp[List.getD];omega
 |1=>simp[List.getD];omega
 |2=>simp[List.getD];omega
 |k+3=>simp[List.getD]
theorem FrV.Hu{i:Nat}{b:Int×Int×Rat}(hb:f.bars[i]? =some b)(r:Nat):∀k,k<=3-> -2000000<=ez (e9 f (di f i) i k) r i∧ez (e9 f (di f i) i k) r i<=2000000
 |0,_=>by
  have:=l0 f (r:=r) i (Nat.le_refl i);rw[e9,this];omega
 |k+1,hk=>by
  obtain⟨ka,kb,ea,eb,-,-,OZ,-⟩:=h.Hq b (aD hb);have ih:=FrV.Hu hb r k (by omega);have hd:=h.dif (aD hb) k;have z1:=po (r:=3*ka+k) hb ea eb (show k<=3 by omega) (by omega);have z2:=po (r:=3*kb+k) hb ea eb (show k<=3 by omega) (by omega);rw[e9];rw[jh hb,toNat_add ea,toNat_add eb,gU,gU,z1,iT (r':=3*kb+k) (.inl (by omega)),z2];rcases Hr (putAt (e9 f (di f i) i k) (3*ka+k) i (0+(j2 f b).getD k 0)) (3*kb+k) i r i (0+ -(j2 f b).getD k 0)with e|e
  ·rw[e];omega
  ·rw[e];rcases Hr (e9 f (di f i) i k) (3*ka+k) i r i (0+(j2 f b).getD k 0)with e|e
   ·rw[e];omega
   ·rw[e];exact ih
theorem FrV.LH{i r:Nat}(hi:i<f.bars.length):∀j,i<j->j<=f.bars.length-> -2000000<=ez (di f j) r i∧ez (di f j) r i<=2000000
 |0,h1,_=>by omega
 |j+1,h1,h2=>by
  rw[di];rcases aP i j with h3|h3
  ·rw[tK (by omega)];exact FrV.LH hi j h3 (by omega)
  ·rw[show j=i by omega];exact h.Hu (aB hi) r 3 (Nat.le_refl _)
theorem FrV.oR{r i:Nat}(hs:f.cV[i]? =some s):ez (iS f) r (f.bars.length+i)=if r=dw s then 1 else 0:=
 Ea (lD f) (lL f) (fun s hs=>(h.sup s hs).1) hs _ (aE.1 hs).1
theorem FrV.aCu(r c:Nat): -2000000<=ez (iS f) r c∧ez (iS f) r c<=2000000:=by
 rcases aP c f.bars.length with hc|hc
 ·rw[iS,uf hc];exact h.LH hc _ hc (Nat.le_refl _)
 ·rcases aP c f.cols with h1|h1
  ·obtain⟨i,rfl⟩:∃i,c=f.bars.length+i:=⟨c-f.bars.length,by omega⟩
   rw[eY.cols]at h1;rw[h.oR (aB (show i<f.cV.length by omega))];split<;>omega
  ·have:ez (iS f) r c=0:=by
    unfold ez;rw[List.getD,List.getElem?_eq_none]
    ·rfl
    ·rcases aP r (iS f).length with h2|h2
     ·rw[List.getD,aB h2];show((iS f)[r]).length<=c;rw[lD f _ _ (a9 h2)];exact h1
     ·rw[List.getD,List.getElem?_eq_none h2];exact aO _
   rw[this];omega
theorem FrV.pr(r c:Nat):Ib 2000000 (cY (cU f) r c):=by
 rw[mw];have:=h.aCu r c;exact Ib.int (by omega)
theorem FrV.mQ:Fm (cU f) f.cols 2000000:=fun j _=>⟨1,by decide,Ib.one (by decide),fun t _=>by rw[bf];exact h.pr j t⟩
theorem FrV.only{x:Nat->Rat}(hx:∀j,j<(cU f).length->mulR (cU f) f.cols x j=0)(h0:∀t,t<f.bars.length->x t=0):∀t,t<f.cols->x t=0:=fun t ht=>by
 rcases aP t f.bars.length with h1|h1
 ·exact h0 t h1
 ·obtain⟨i,rfl⟩:∃i,t=f.bars.length+i:=⟨t-f.bars.length,by omega⟩
  have hi:i<f.cV.length:=by unfold eY.cols at ht;omega
  have hs:=aB hi;have hr:=h.sup _ (a9 hi);have h2:=hx (dw f.cV[i]) (by rw[fu];exact hr.1);unfold mulR at h2;rw[eV ht fun k hk OZ=>?_,mw,h.oR hs,if_pos rfl]at h2
  ·have e:((1:Int):Rat)*x (f.bars.length+i)=x (f.bars.length+i):=bf _
   rwa [e]at h2
  ·rcases aP k f.bars.length with h3|h3
   ·rw[h0 k h3,bB]
   ·obtain⟨i',rfl⟩:∃i,k=f.bars.length+i:=⟨k-f.bars.length,by omega⟩
    have UA:i'<f.cV.length:=by unfold eY.cols at hk;omega
    have Ur:=aB UA;rw[mw,h.oR Ur,aK fun e=>OZ (by rw[h.one i i' _ _ hs Ur e])];exact bC _
theorem FrV.Hv(ht:t<f.bars.length):0<(dE f).getD t 0:=by
 obtain⟨_,_,_,_,_,_,_,h1⟩:=h.Hq _ (a9 ht);rw[dE,List.getD,aJ (by rw[aL];exact ht),aN,aB ht];exact h1
theorem FrV.rW(t:Nat):0<=(dE f).getD t 0:=by
 rw[List.getD]
 cases ht:(dE f)[t]? with
 |none=>exact Rat.le_refl
 |some q=>
  show 0<=q;have hm:=aD ht;rcases List.mem_append.1 hm with hm|hm
  ·obtain⟨b,hb,rfl⟩:=aT.1 hm;obtain⟨_,_,_,_,_,_,_,h1⟩:=h.Hq b hb;exact Rat.le_of_lt h1
  ·obtain⟨s,hs,rfl⟩:=aT.1 hm;exact(h.sup s hs).2
theorem FrV.aBj:Fp (cU f) f.cols fun t=>(dE f).getD t 0:=by
 refine⟨fe f,fun t _=>h.rW t,fun x hx h0=>h.only hx fun t ht=>?_⟩;have h1:=rS (f:=fun t=>(dE f).getD t 0*(x t*x t)) (n:=f.cols) (fun k _=>Rat.mul_nonneg (h.rW k) (sq_nonneg _)) (by rw[h0];exact Rat.le_refl) t (by unfold eY.cols;omega);have h2:=h.Hv ht;rcases Rat.mul_eq_zero.1 h1 with h3|h3
 ·rw[h3]at h2;exact absurd h2 (Rat.lt_irrefl)
 ·rcases Rat.mul_eq_zero.1 h3 with h4|h4<;>exact h4
end
theorem lE(f:Nat->Rat)(a:Nat):∀b,cX f (a+b)=cX f a+cX (fun k=>f (a+k)) b
 |0=>(bN _).symm
 |b+1=>by rw[show a+(b+1)=a+b+1 by omega,cX,cX,lE f a b,Rat.add_assoc]
theorem yP{k:Nat}(hk:k<n):(dq M n).getD k []=M.map fun r=>r.getD k 0:=by
 unfold dq;exact getD_some (by rw[aN,bP hk];rfl)
theorem l5{k i:Nat}(hk:k<n):cY (dq M n) k i=cY M i k:=by
 rw[cY,cY,yP hk];rcases aP i M.length with h|h
 ·have hr:=aB h;rw[getD_some (show (M.map fun r=>r.getD k 0)[i]? =some (M[i].getD k 0) by rw[aN,hr];rfl),getD_some hr]
 ·rw[jI (by rw[aL];exact h),show M.getD i []=[] by rw[List.getD,List.getElem?_eq_none h];rfl];rfl
theorem gV(M:List (List Rat))(n:Nat):fq M.length (dq M n):=fun r hr=>by
 obtain⟨k,_,rfl⟩:=aT.1 hr;exact aL ..
theorem eF(M:List (List Rat))(n:Nat):(dq M n).length=n:=by simp[dq]
theorem Hw(hM:fq n M):dq (dq M n) M.length=M:=by
 refine gQ [] (eF _ _) fun i hi=>?_;rw[eF]at hi;have hr:=hM.getD hi;refine gQ 0 (by rw[yP hi,aL,eF,hr]) fun t ht=>?_;rw[yP hi,aL,eF]at ht;have:=l5 (M:=dq M n) (n:=M.length) (i:=t) hi;rw[l5 ht]at this;exact this
abbrev iO(M:List (List Rat))(n:Nat):Nat:=(cQ M n).2.length
section
variable{M:List (List Rat)}{n:Nat}
theorem MZ(hM:fq n M){G:Mx}{r:Nat}(h:∀j,j<M.length->eX G r n (cY M j)):iO M n<=r:=by
 obtain⟨r1,r2,r3,r4,r5⟩:=dc hM n (Nat.le_refl _);have hl:=da M n;have Vw:iO M n=(cQ M n).2.length:=rfl;have hB:∀i,∃c:Nat->Rat,i<iO M n->∀t,t<n->cY (cQ M n).1 i t=cX (fun k=>c k*G k t) r:=fun i=>by
  by_cases hi:i<iO M n
  ·obtain⟨c,hc⟩:=((kC hM n (Nat.le_refl _)).1 i (by omega)).trans h;exact⟨c,fun _=>hc⟩
  ·exact⟨fun _=>0,fun h=>absurd h hi⟩
 obtain⟨D,hD⟩:∃D:Nat->Nat->Rat,∀i,i<iO M n->∀t,t<n->cY (cQ M n).1 i t=cX (fun k=>D i k*G k t) r:=⟨fun i=>(hB i).choose,fun i=>(hB i).choose_spec⟩
 refine Nat.le_of_not_lt fun PC=>?_;obtain⟨T,hT⟩:∃T:List (List Rat),T=(List.range r).map fun k=>(List.range (iO M n)).map fun i=>D i k:=⟨_,rfl⟩
 have hTl:T.length=r:=by rw[hT];simp
 have hTn:fq (iO M n) T:=fun x hx=>by
  rw[hT]at hx;obtain⟨k,_,rfl⟩:=aT.1 hx;simp
 have hTat:∀k i,k<r->i<iO M n->cY T k i=D i k:=fun k i hk hi=>by
  have h1:T[k]? =some ((List.range (iO M n)).map fun i=>D i k):=by rw[hT,aN,bP hk];rfl
  rw[cY,getD_some h1];exact getD_some (by rw[aN,bP hi];rfl)
 obtain⟨-,t2,-⟩:=dc hTn (iO M n) (Nat.le_refl _);have Xr:=lZ T (iO M n);rw[da,hTl]at t2;have hc:=ub hTn;have SS:0<(dC T (iO M n)).length:=by omega
 have hy:=rU hTn SS;have Qi:∀i,i<iO M n->cY (dC T (iO M n)) 0 i=0:=fun j hj=>by
  have hpj:(cQ M n).2.getD j 0<n:=r4 _ (by rw[List.getD,aB hj];exact a9 _);have e1:cX (fun i=>cY (dC T (iO M n)) 0 i*cY (cQ M n).1 i ((cQ M n).2.getD j 0)) (iO M n)=0:=by
   rw[cN (g:=fun i=>cX (fun k=>cY (dC T (iO M n)) 0 i*(D i k*G k ((cQ M n).2.getD j 0))) r) fun i hi=>by rw[hD i hi _ hpj,eU],kW,cN (g:=fun _=>0) fun k hk=>?_,dW];have h2:=hy k (by omega);unfold mulR at h2;rw[cN (g:=fun i=>(cY T k i*cY (dC T (iO M n)) 0 i)*G k ((cQ M n).2.getD j 0)) fun i hi=>by rw[hTat k i hk hi];grind,jR,h2,bC]
  rw[eV hj fun i hi OZ=>by rw[r5 j i hj (by omega),aK OZ,bB],r5 j j hj (by omega),if_pos rfl,Rat.mul_one]at e1;exact e1
 have h3:=Fo (M:=T) (n:=iO M n) (c:=fun k=>if k=0 then 1 else 0) (fun t ht=>by
  rw[eV SS fun k _ OZ=>by rw[aK OZ,bC],if_pos rfl,bf]
  exact Qi t ht) 0 SS
 exact absurd h3 (by decide)
theorem tm(hM:fq n M):iO (dq M n) M.length<=iO M n:=by
 obtain⟨r1,r2,r3,r4,r5⟩:=dc hM n (Nat.le_refl _);have hl:=da M n;have Vw:iO M n=(cQ M n).2.length:=rfl;have hrf:=Bk hM;refine MZ (gV M n) (G:=fun i j=>cY M j ((cQ M n).2.getD i 0)) fun t ht=>?_;rw[eF]at ht;refine⟨fun i=>cY (cQ M n).1 i t,fun j hj=>?_⟩;rw[l5 ht];have h1:eX (cY (cQ M n).1) (iO M n) n (cY M j):=((kC hM n (Nat.le_refl _)).2 j hj).cut fun i t h1 h2 ht=>r3 i t h1 (by omega) ht;rw[hrf.coeff h1 t ht];exact cN fun i _=>bl _ _
theorem CC(hM:fq n M):iO (dq M n) M.length=iO M n:=by
 refine aQ (tm hM) ?_;have h:=tm (gV M n);rw[eF,Hw hM]at h;exact h
theorem Hx(hM:fq n M)(hr:iO M n=M.length):Fk (cY M) M.length n:=by
 obtain⟨r1,r2,r3,r4,r5⟩:=dc hM n (Nat.le_refl _);have hl:=da M n;have Vw:iO M n=(cQ M n).2.length:=rfl;refine(zN hM n (Nat.le_refl _)).1 fun x hx j hj=>?_;have hj2:j<(cQ M n).2.length:=by omega
 have hpj:(cQ M n).2.getD j 0<n:=r4 _ (by rw[List.getD,aB hj2];exact a9 _);have h1:=hx _ hpj;rw[eV hj fun i hi OZ=>by rw[r5 j i hj2 (by omega),aK OZ,bB],r5 j j hj2 (by omega),if_pos rfl,Rat.mul_one]at h1;exact h1
theorem Eb{k:Nat}(hk:k<n):mulR (dq M n) M.length y k=cX (fun i=>cY M i k*y i) M.length:=cN fun i _=>by rw[l5 hk]
def km(M:List (List Rat))(n:Nat)(fl:List Rat):List (List Rat):=(M.map fun r=>List.replicate M.length 0++r)++(List.range n).map fun j=>(M.map fun r=>r.getD j 0)++(List.replicate n 0).set j (fl.getD j 0)
theorem ji(fl:List Rat):(km M n fl).length=M.length+n:=by unfold km;rw[List.length_append,aL,aL,List.length_range]
theorem tM(hM:fq n M)(fl:List Rat):fq (M.length+n) (km M n fl):=fun r hr=>by
 rcases List.mem_append.1 hr with hr|hr
 ·obtain⟨x,hx,rfl⟩:=aT.1 hr;rw[List.length_append,aU,hM x hx]
 ·obtain⟨x,hx,rfl⟩:=aT.1 hr;rw[List.length_append,aL,bW,aU]
theorem Fs{i:Nat}(hi:i<M.length):(t<M.length->cY (km M n fl) i t=0)∧cY (km M n fl) i (M.length+t)=cY M i t:=by
 have hr:=aB hi;have h:(km M n fl)[i]? =some (List.replicate M.length 0++M[i]):=by
  unfold km;rw[aJ (by rw[aL];exact hi),aN,hr];rfl
 refine⟨fun ht=>?_,?_⟩
 ·rw[cY,getD_some h];exact getD_some (by rw[aJ (by rw[aU];exact ht),List.getElem?_replicate,if_pos ht])
 ·rw[cY,cY,getD_some h,getD_some hr,List.getD,List.getD,aM (by rw[aU];exact Nat.le_add_right _ _),aU,Nat.add_sub_cancel_left]
theorem CD{j:Nat}(hj:j<n):(t<M.length->cY (km M n fl) (M.length+j) t=cY M t j)∧(t<n->cY (km M n fl) (M.length+j) (M.length+t)=if t=j then fl.getD j 0 else 0):=by
 have h:(km M n fl)[M.length+j]? =some ((M.map fun r=>r.getD j 0)++(List.replicate n 0).set j (fl.getD j 0)):=by
  unfold km;rw[aM (by rw[aL];exact Nat.le_add_right _ _),aL,Nat.add_sub_cancel_left,aN,bP hj];rfl
 refine⟨fun ht=>?_,fun ht=>?_⟩
 ·have hr:=aB ht;rw[cY,cY,getD_some h,getD_some hr];exact getD_some (by rw[aJ (by rw[aL];exact ht),aN,hr];rfl)
 ·rw[cY,getD_some h];by_cases e:t=j
  ·subst e;rw[if_pos rfl];exact getD_some (by rw[aM (by rw[aL];exact Nat.le_add_right _ _),aL,Nat.add_sub_cancel_left,aR (by rw[aU];exact ht)])
  ·rw[aK e];exact getD_some (by rw[aM (by rw[aL];exact Nat.le_add_right _ _),aL,Nat.add_sub_cancel_left,aX (Ne.symm e),List.getElem?_replicate,if_pos ht])
theorem Ec{i:Nat}(hi:i<M.length):mulR (km M n fl) (M.length+n) z i=mulR M n (fun t=>z (M.length+t)) i:=by
 unfold mulR;rw[lE,cN (g:=fun _=>0) fun t ht=>by rw[(Fs hi).1 ht,bC],dW,Rat.zero_add];exact cN fun t _=>by rw[(Fs hi).2]
theorem Ed{j:Nat}(hj:j<n):mulR (km M n fl) (M.length+n) z (M.length+j)=cX (fun i=>cY M i j*z i) M.length+fl.getD j 0*z (M.length+j):=by
 unfold mulR;rw[lE,cN fun t ht=>by rw[(CD hj).1 ht]];congr 1;rw[eV hj fun t ht OZ=>by rw[(CD hj).2 ht,aK OZ,bC],(CD hj).2 hj,if_pos rfl]
theorem M0(h:∀j,j<M.length->mulR M n y j=0):cX (fun t=>y t*cX (fun i=>cY M i t*u i) M.length) n=0:=by
 rw[cN (g:=fun t=>cX (fun i=>y t*(cY M i t*u i)) M.length) fun t _=>by rw[eU],kW,cN (g:=fun _=>0) fun i hi=>?_,dW];have h1:=h i hi;unfold mulR at h1;rw[cN (g:=fun t=>cY M i t*y t*u i) fun t _=>by grind,jR,h1,bC]
end
section
variable{M:List (List Rat)}{n:Nat}{fl b:List Rat}
theorem mu.aD2(hM:fq n M)(h:mu M n (fun t=>fl.getD t 0) b x):∃u,gq (dq M n) (eB (fm x fl) (-1)) M.length=some u:=by
 cases e:gq (dq M n) (eB (fm x fl) (-1)) M.length with
 |some u=>exact⟨u,rfl⟩
 |none=>
  obtain⟨y,y1,y2⟩:=pg (gV M n) e;rw[eF]at y1 y2;refine absurd ?_ y2;have Ss:∀j,j<M.length->mulR M n y j=0:=fun j hj=>Eq.trans (cN fun t ht=>by rw[l5 ht,bl]) (y1 j hj);obtain⟨c,hc⟩:=LC hM Ss;have hb:∀t,t<n->(eB (fm x fl) (-1)).getD t 0= -(fl.getD t 0*x.getD t 0):=fun t ht=>by
   have h1:=om (a:=x) (b:=fl) (t:=t) (by rw[h.len];exact ht);have hl:t<(fm x fl).length:=by rw[fm,List.length_mapIdx,h.len];exact ht
   rw[getD_some (aB hl)]at h1;rw[getD_some (show (eB (fm x fl) (-1))[t]? =some ((fm x fl)[t]* -1) by rw[eB,aN,aB hl];rfl),h1];grind
  have e1:cX (fun t=>y t*(eB (fm x fl) (-1)).getD t 0) n= -(yJ (fun t=>fl.getD t 0) (fun t=>x.getD t 0) y n):=by
   unfold yJ;rw[<-og];exact cN fun t ht=>by rw[hb t ht];grind
  rw[e1,yK (x':=fun t=>x.getD t 0) (fun _ _=>rfl) hc,wO,cN (g:=fun _=>0) fun k hk=>by rw[wN,h.st k hk,bB],dW];rfl
theorem CE(x fl:List Rat){n:Nat}(hx:x.length=n)(ht:t<n):(eB (fm x fl) (-1)).getD t 0= -(fl.getD t 0*x.getD t 0):=by
 have h1:=om (a:=x) (b:=fl) (t:=t) (by rw[hx];exact ht);have hl:t<(fm x fl).length:=by rw[fm,List.length_mapIdx,hx];exact ht
 rw[getD_some (aB hl)]at h1;rw[getD_some (show (eB (fm x fl) (-1))[t]? =some ((fm x fl)[t]* -1) by rw[eB,aN,aB hl];rfl),h1];grind
theorem aAD(hM:fq n M){u:List Rat}(hb:b.length=M.length)(h:mu M n (fun t=>fl.getD t 0) b x)(hu:gq (dq M n) (eB (fm x fl) (-1)) M.length=some u):
  (u++x).length=M.length+n∧∀j,j<(km M n fl).length->mulR (km M n fl) (M.length+n) (fun t=>(u++x).getD t 0) j=(b++yL n).getD j 0:=by
 obtain⟨u1,u2⟩:=mq (gV M n) hu;rw[eF]at u2;have ha:∀t,t<M.length->(u++x).getD t 0=u.getD t 0:=fun t ht=>by rw[List.getD,aJ (by omega),<-List.getD]
 have hc:∀t,(u++x).getD (M.length+t) 0=x.getD t 0:=fun t=>by rw[List.getD,aM (by omega),u1,Nat.add_sub_cancel_left,<-List.getD]
 refine⟨by rw[List.length_append,u1,h.len],fun j hj=>?_⟩;rw[ji]at hj;rw[rV];rcases aP j M.length with h1|h1
 ·rw[Ec h1,uc (y:=fun t=>x.getD t 0) fun t _=>hc t];exact h.eq j h1
 ·obtain⟨k,rfl⟩:∃k,j=M.length+k:=⟨j-M.length,by omega⟩
  have hk:k<n:=by omega
  rw[Ed hk,hc,jI (l:=b) (by omega),cN (g:=fun i=>cY M i k*u.getD i 0) fun i hi=>by rw[ha i hi]];have h2:=u2 k hk;rw[Eb hk,CE x fl h.len hk]at h2;rw[h2];grind
theorem aAE(hM:fq n M){z:List Rat}(hb:b.length=M.length)(hz:gq (km M n fl) (b++yL n) (M.length+n)=some z):mu M n (fun t=>fl.getD t 0) b (z.drop M.length):=by
 obtain⟨z1,z2⟩:=mq (tM hM fl) hz;have hd:∀t,(z.drop M.length).getD t 0=z.getD (M.length+t) 0:=fun t=>by rw[List.getD,List.getD,bp]
 refine⟨by rw[List.length_drop,z1];omega,fun j hj=>?_,fun k hk=>?_⟩
 ·have h1:=z2 j (by rw[ji];omega);rw[Ec hj,rV]at h1;rw[<-h1];exact uc (fun t _=>hd t) j
 ·have h0:=M0 (u:=fun i=>z.getD i 0) (rU hM hk);unfold yJ;have e:cX (fun t=>fl.getD t 0*(cY (dC M n) k t*(z.drop M.length).getD t 0)) n= -cX (fun t=>cY (dC M n) k t*cX (fun i=>cY M i t*z.getD i 0) M.length) n:=by
   rw[<-og];refine cN fun t ht=>?_;have h1:=z2 (M.length+t) (by rw[ji];omega);rw[Ed ht,rV,jI (l:=b) (by omega)]at h1;rw[hd];grind
  rw[e,h0];rfl
theorem M4(hM:fq n M)(hr:iO M n=M.length):∃x,gq M b n=some x:=by
 cases e:gq M b n with
 |some x=>exact⟨x,rfl⟩
 |none=>
  obtain⟨y,y1,y2⟩:=pg hM e;have:=Hx hM hr y y1;exact absurd (by rw[cN (g:=fun _=>0) fun j hj=>by rw[this j hj,bC],dW]) y2
end
end Go.Ex
namespace Go.Ex
open Go Go.Sx Go.Proofs
variable{S:Nat->Prop}
section
variable{S S':Nat->Prop}{H:Hp}{nx:Nat}{iv iv':Iv}{B:Nat}{w w' w2:World}{O:Nat->Sx.eE}{v:Value}{M:List (List Int)}
theorem o7.rel(h:o7 w (Cv S B iv) v M)(r:Rel H nx iv B w O w')(hS:∀g,S g->g<B):o7 w' (Cv S B iv) v M:=o7.cJ h fun _ hg=>Rel.same r hS hg
theorem o7.cK(h:o7 w (Cv S B iv) v M)(r:Rel H nx iv B w O w')(hS:∀g,S g->g<B)(he:Ext w' w2)(hm:∀p,p∈iv->p∈iv'):o7 w2 (Cv S B iv') v M:=
 o7.cL ((o7.rel h r hS).cJ fun g hg=>he.block g (Rel.old r hS g hg)) fun _ hg=>hg.mono hm
theorem o7.dK(h:o7 w2 (Nf w' w2) v M)(hB:B<=w'.heap.size)(hm:(w'.heap.size,w2.heap.size)∈iv):o7 w2 (Cv S B iv) v M:=o7.cL h fun _ hg=>hg.dK hB hm
end
theorem KR(Z:List (List Int))(k:Nat):dH (Z.map fun l=>l.getD k 0)=(Z.map dH).map fun r=>r.getD k 0:=by
 rw[dH,List.map_map,List.map_map];refine List.map_congr_left fun l _=>?_;show((l.getD k 0:Int):Rat)=(dH l).getD k 0;rw[dH,List.getD,List.getD,aN]
 cases l[k]? <;>rfl
theorem Ig(M:List (List Rat))(k:Nat):dq M k++[M.map fun r=>r.getD k 0]=dq M (k+1):=by
 rw[dq,dq,bM,List.map_append];rfl
set_option maxHeartbeats 1000000 in
theorem NK{w:World}{vn vb vs:Value}{f:eY}(hS:Old S w)(hf:dX w S vn vb vs f)(Om:eP f=0):
  eA PG N.wv #[.agg #[vn,vb,vs]] w (eL w fun v' w2=>cW w2 (Nf w w2) v' (dq (cU f) f.cols)):=by
 have hw:=bR w;have hv:=Jc Om;obtain⟨an,cn,ab,cb,aq,cq,rfl,rfl,rfl,RN,RJ,SF⟩:=hf.shape;obtain⟨VN,Tn,TG⟩:=And.intro hv.n (And.intro hv.b hv.s);have Pt:f.cols=f.bars.length+f.cV.length:=rfl;have hZl:(iS f).length=3*f.nodes.length:=lL f _;refine AR (by simp) ?_;refine cH (cE hw (fun _ w' v w2=>o7 w2 (Nf w' w2) v (iS f)∧JC (iS f) 2000000) (fun O w' r=>FD (S:=S) (oS hS r) (hf.cJ (kS hw r hS)) Om) ?_);rintro O _ _ _ Od r he hw h_ ⟨hn,PN⟩;have hM:=o7.dK (S:=FF) hn r.cI (mN h_);obtain⟨am,cm,rfl,-,Q9⟩:=dA.shape hM;obtain⟨Z,hZ⟩:∃Z,iS f=Z:=⟨_,rfl⟩
 have htab:cU f=Z.map dH:=by rw[cU,hZ]
 have XV:∀l∈Z,l.length=f.cols:=by rw[<-hZ];exact lD f _
 rw[hZ]at hM PN hZl Q9 ⊢
 refine⟨Nat×List Value×World×Iv,fun z=>⟨[(1,pP 0 0),(3,sV am Z.length cm),(4,.o (.w 1 z.2.1.length)),(5,iN z.1)],[(1,.vec T.fz 1 z.2.1),(0,.box T.Frame [.v (.slice an f.nodes.length cn),.v (.slice ab f.bars.length cb),.v (.slice aq f.cV.length cq)])],2,z.2.2.2,z.2.2.1⟩,fun z=>f.cols-z.1,
  fun z=>z.1<=f.cols∧dg w.heap.size w z.2.2.1∧o7 z.2.2.1 (Cf w z.2.2.2) (.slice am Z.length cm) Z∧dS z.2.2.1 (Cf w z.2.2.2) z.2.1 (dq (Z.map dH) z.1),?_,?_⟩
 ·intro O w' r;exact⟨(0,[],w',_),⟨aO _,hw.tr r.cS,o7.rel hM r (cG w),by simp[dS,dq]⟩,Sub.nil 4 T.fz 1 rfl (by simp[jw,SV.sc,At.sc,fQ]) r fun ρ1 r1=>Sub.gn [] r1⟩
 rintro⟨k,rv,w1,iv⟩ ⟨hk,hw,hM,hK⟩;dsimp only at hk hw hM hK ⊢;have Ot:rv.length=k:=by rw[hK.1,oW]
 refine cH (cE hw (fun _ w' v w2=>v= .int .i64 f.cols) (fun O w' r=>jc (hf.cJ (kS hw r hS)) ⟨Tn,TG⟩) ?_);rintro O _ _ _ Oa r he hw h_ rfl;replace hM:=o7.cK hM r (cG w) he (mC h_);replace hK:=hK.cK r (cG w) he (mC h_);refine dG.mk ?_ ?_<;>intro OY
 ·have OY:k<f.cols:=by simpa using OY
  refine⟨Nat×List (List Value)×World×Iv,fun z=>⟨[(1,pP 0 0),(3,sV am Z.length cm),(4,.o (.w 1 rv.length)),(5,iN k),(6,.o (.w 2 z.2.1.length)),(7,iN z.1)],[(2,.vec T.Rat 4 z.2.1.flatten),(1,.vec T.fz 1 rv),(0,.box T.Frame [.v (.slice an f.nodes.length cn),.v (.slice ab f.bars.length cb),.v (.slice aq f.cV.length cq)])],3,z.2.2.2,z.2.2.1⟩,fun z=>Z.length-z.1,
   fun z=>z.1<=Z.length∧dg w.heap.size w z.2.2.1∧o7 z.2.2.1 (Cf w z.2.2.2) (.slice am Z.length cm) Z∧dS z.2.2.1 (Cf w z.2.2.2) rv (dq (Z.map dH) k)∧dR z.2.2.1 (Cf w z.2.2.2) z.2.1 (dH ((Z.map fun l=>l.getD k 0).take z.1)),?_,?_⟩
  ·intro O w' r;exact⟨(0,[],w',_),⟨aO _,hw.tr r.cS,o7.rel hM r (cG w),hK.rel r (cG w),dR.nil⟩,Sub.nil 6 T.Rat 4 rfl (by simp[jw,SV.sc,At.sc,fQ]) r fun ρ1 r1=>Sub.gn [] r1⟩
  rintro⟨i,css,w3,iv⟩ ⟨hi,hw,hM,hK,hG⟩;dsimp only at hi hw hM hK hG ⊢;have Ok:=eD hG.four;have RT:css.length=i:=by rw[hG.len,dH,aL,aZ,aL];omega
  refine dG.mk ?_ ?_<;>intro OW
  ·have OW:i<Z.length:=by simpa using OW
   obtain⟨l,hl⟩:∃x,Z[i]? =some x:=⟨_,aB OW⟩
   have hlw:=XV l (aD hl);obtain⟨z,hz⟩:∃x,l[k]? =some x:=⟨_,aB (by omega)⟩
   have Ud:=PN l (aD hl) z (aD hz);have WW:(Z.map fun l=>l.getD k 0)[i]? =some z:=by rw[aN,hl];show some (l.getD k 0)=_;rw[List.getD,hz];rfl
   obtain⟨adm,um,SN,QE,km1,km2⟩:=dA.load hM hl;obtain⟨al,cl,rfl,-,Rh⟩:=QE.shape;obtain⟨adx,Pz,hSx,PS⟩:=DJ.at QE hz;refine⟨adm,SN,by omega,.slice al l.length cl,fun O w' r=>?_,?_⟩
   ·rw[aF,cM (w:=w3) (w2:=w') (by rw[dD];exact Rel.same r (cG w) km1)];exact km2
   refine⟨adx,Pz,by omega,.int .i64 z,fun O w' r=>?_,?_⟩
   ·rw[aF,cM (w:=w3) (w2:=w') (by rw[dD];exact Rel.same r (cG w) hSx)];exact PS
   refine cH (cE hw (fun _ w' v w2=>cT w2 (Nf w' w2) v (z:Rat)) (fun O w' r=>ic z w' (by omega)) ?_);rintro O _ _ _ Oj r he hw h_ hn;replace hM:=o7.cK hM r (cG w) he (mC h_);replace hK:=hK.cK r (cG w) he (mC h_);replace hG:=hG.cK r (cG w) he (mC h_);have hd:=hn.dK (S:=FF) r.cI (mN h_);obtain⟨A0,A1,A2,A3,A4,A5,A6,A7,rfl⟩:=hd.shape;have RE:=hG.push (cs:=[.bool A0,.slice A1 A2 A3,.bool A4,.slice A5 A6 A7]) (q:=(z:Rat)) ⟨_,_,_,_,_,_,_,_,rfl,hd⟩ rfl;rw[<-xl WW]at RE;have PR:css.flatten++([.bool A0,.slice A1 A2 A3,.bool A4,.slice A5 A6 A7]:List Value)=(css++([[.bool A0,.slice A1 A2 A3,.bool A4,.slice A5 A6 A7]]:List (List Value))).flatten:=by simp
   refine .inl ?_;refine⟨by omega,by omega,by unfold maxLen;omega,((i+1:Nat):Int),wo,?_⟩;intro ρ3 w6 r3;exact⟨(i+1,css++[[.bool A0,.slice A1 A2 A3,.bool A4,.slice A5 A6 A7]],w6,_),⟨OW,hw.tr r3.cS,o7.rel hM r3 (cG w),hK.rel r3 (cG w),RE.rel r3 (cG w)⟩,Sub.gn [(2,4)] r3 ⟨by dsimp only;rw[<-PR];rfl,rfl,rfl,trivial⟩ ⟨rfl,rfl,rfl,rfl,by dsimp only;rw[List.length_append,List.length_singleton];rfl,rfl,trivial⟩,by dsimp only;omega⟩
  have OW:i=Z.length:=aQ hi (by simpa using OW);have Vc:dH ((Z.map fun l=>l.getD k 0).take i)=(Z.map dH).map fun r=>r.getD k 0:=by rw[OW,<-aL (f:=fun l:List Int=>l.getD k 0),bH,KR]
  rw[Vc]at hG;refine me hτ (id3:=3) (id2:=2) (tH:=[(1,.vec T.fz 1 rv),(0,.box T.Frame [.v (.slice an f.nodes.length cn),.v (.slice ab f.bars.length cb),.v (.slice aq f.cV.length cq)])]) rfl rfl rfl rfl (by simp) (by first|exact⟨rfl,trivial⟩|exact⟨rfl,rfl,trivial⟩) rfl rfl (fun O w' r r2 TH=>?_);have OX:=dR.list ((hG.rel r (cG w)).cL fun g hg=>Cv.mono (iv':=((O 3).g,(O 3).g+1)::jy (O 2) iv) hg fun p hp=>aC _ (kp p hp)) ((r.KQ (id:=2) (sz:=4) (m:=css.length) rfl Ok (by unfold maxLen;omega) (by decide) hG.one).cL fun g hg=>Cv.mono hg fun p hp=>aC _ hp);have PB:((At.w 2 css.length).den O).oneCell'=true:=At.Lk;have Rt:=r.low 3 _ rfl (r.fits (id:=3) rfl).1;have hC3:Cf w (((O 3).g,(O 3).g+1)::jy (O 2) iv) (O 3).g:=.inr ⟨Rt.1,_,_,aI,Nat.le_refl _,bU _⟩;have QG:∀p,p∈iv->p∈((O 3).g,(O 3).g+1)::jy (O 2) iv:=fun p hp=>aC _ (kp p hp);have PI:=hw.tr r.cS;have hK1:=(hK.rel r (cG w)).cL fun g hg=>Cv.mono hg QG;have WG:=o7.cL (o7.rel hM r (cG w)) fun g hg=>Cv.mono hg QG;generalize (At.w 2 css.length).den O=ur at*
  generalize (O 3).g=gy at*
  generalize (gy,gy+1)::jy (O 2) iv=Oa at*
  refine⟨[ur],rfl,by simpa using PB,fun ρ2 w2 r2 _=>⟨_,rfl,fun j u hu=>?_⟩,?_⟩
  ·have h5:=Rel.same r2 (dN _) hC3;rw[dP,cell_of (h5.trans TH)];rcases j with _|j
   ·exact hu
   ·cases hu
  refine⟨by simp,by omega,by unfold maxLen;omega,?_⟩;have RM:=hK1.push PB OX;rw[Ig]at RM;refine⟨((k+1:Nat):Int),wo,?_⟩;intro ρ3 w6 r3;exact⟨(k+1,rv++[ur],w6,_),⟨OY,PI.tr r3.cS,o7.rel WG r3 (cG w),RM.rel r3 (cG w)⟩,Sub.gn [(1,4)] r3 (hE:=⟨rfl,rfl,by dsimp only;rw[List.length_append,List.length_singleton];rfl,rfl,trivial⟩),by dsimp only;omega⟩
 have OY:k=f.cols:=aQ hk (by simpa using OY);rw[OY]at hK;rw[htab];intro ρe we re;refine⟨_,rfl,hw.tr re.cS,rv,?_,hK.1,fun i u x k1 k2=>cR.out (hK.2.2 i u x k1 k2) re (cG w)⟩;have h5:=re.gz (id:=1) (sz:=1) (m:=rv.length) rfl (by simp) (by unfold maxLen;omega) (by decide) hK.2.1;rw[show (dq (Z.map dH) f.cols).length=rv.length from hK.1.symm];exact h5.cL fun g hg=>.inr hg
end Go.Ex
namespace Go.Ex
open Go
section
theorem Jd:∀(N m:Nat) (g:Nat->Nat),(∀i,i<m->g i<N)->(∀i j,i<m->j<m->g i=g j->i=j)->m<=N
 |0,m,g,h1,_=>by
  rcases bQ m with h|h
  ·omega
  ·exact absurd (h1 0 h) (Nat.not_lt_zero _)
 |N+1,m,g,h1,h2=>by
  by_cases h:∃i,i<m∧g i=N
  ·obtain⟨i0,hi,e⟩:=h
   have:=Jd N (m-1) (fun i=>if i<i0 then g i else g (i+1)) (fun i UA=>by
    show(if i<i0 then g i else g (i+1))<N;split
    ·rename_i PC;have:=h1 i (by omega);have:g i≠N:=fun e2=>by have:=h2 i i0 (by omega) hi (by rw[e2,e]);omega
     omega
    ·have:=h1 (i+1) (by omega);have:g (i+1)≠N:=fun e2=>by have:=h2 (i+1) i0 (by omega) hi (by rw[e2,e]);omega
     omega) (fun i j UA hj' e2=>by
    have e3:(if i<i0 then g i else g (i+1))=(if j<i0 then g j else g (j+1)):=e2;split at e3<;>split at e3
    ·exact h2 _ _ (by omega) (by omega) e3
    ·have:=h2 _ _ (by omega) (by omega) e3;omega
    ·have:=h2 _ _ (by omega) (by omega) e3;omega
    ·have:=h2 _ _ (by omega) (by omega) e3;omega)
   omega
  ·exact Nat.le_succ_of_le (Jd N m g (fun i hi=>by
    have:=h1 i hi;have:g i≠N:=fun e=>h ⟨i,hi,e⟩
    omega) h2)
structure FrS(f:eY):Prop extends FrV f where
 n4:f.nodes.length<=4
 b6:f.bars.length<=6
variable{f:eY}
theorem FrS.s12(h:FrS f):f.cV.length<=12:=by
 have:=Jd (3*f.nodes.length) f.cV.length (fun i=>dw (f.cV.getD i (0,0,0))) (fun i hi=>by
  have e:f.cV.getD i (0,0,0)=f.cV[i]:=getD_some (aB hi);show dw (f.cV.getD i (0,0,0))<_;rw[e]
  exact(h.sup _ (a9 hi)).1) (fun i j hi hj e=>by
  have e1:f.cV.getD i (0,0,0)=f.cV[i]:=getD_some (aB hi);have e2:f.cV.getD j (0,0,0)=f.cV[j]:=getD_some (aB hj);have e:dw (f.cV.getD i (0,0,0))=dw (f.cV.getD j (0,0,0)):=e;rw[e1,e2]at e
  exact h.one i j _ _ (aB hi) (aB hj) e)
 have:=h.n4;omega
theorem FrS.M5(h:FrS f):f.cols<=18:=by
 have h1:=h.s12;have h2:=h.b6;unfold eY.cols;omega
theorem FrS.r12(h:FrS f):(cU f).length<=12:=by
 rw[fu];have:=h.n4;omega
theorem aD3:18*2000000<=wt 1:=by decide
theorem FrS.size(h:FrS f):ln (fB 2000000 (cU f).length)<=13:=by
 have:=h.r12;have h2:=aC0 (B:=2000000) (R:=18) (l:=1) (n:=(cU f).length) (by omega) aD3;omega
theorem FrS.ht{c:Nat}(h:FrS f)(hc:c<=f.cols):Ht (cQ (cU f) c).1 20:=fun r hr q hq=>by
 have:=Bw (fe f) h.mQ (by decide) hc r hr q hq;have:=h.size;omega
end
end Go.Ex
namespace Go.Ex
open Go Go.Sx Go.Proofs
variable{M:List (List Rat)}{s:List Int}{u:List Rat}{n:Nat}{S:Nat->Prop}{O:Nat->Sx.eE}{vb vn vs:Value}{f:eY}
theorem pJ{B h:Nat}(hM:fq n M)(hW:Fm M n B)(hB:1<=B)(hh:ln (fB B M.length)+1<=h):Ga M n h:=
 ⟨fun i hi r hr q hq=>by have:=OO hM hW hB hi r hr q hq;omega,fun i hi k hk q hq=>by have:=OP hM hW hB hi hk q hq;omega⟩
theorem KX{B h:Nat}(hM:fq n M)(hW:Fm M n B)(hB:1<=B)(hh:ln (fB B M.length)+1<=h):Ht (db M n).1 h:=fun r hr q hq=>by
 rw[(mo hM hW).2]at hr;have:=Bw hM hW hB (Nat.le_refl n) r (bc hr) q hq;omega
theorem iG(M:List (List Rat))(n:Nat)(hM:fq n M):(cQ M n).2.length<=(cQ M n).1.length∧(cQ M n).2.length<=n:=by
 obtain⟨r1,r2,r3,r4,r5⟩:=dc hM n (Nat.le_refl _);have:=(jA M n).2.2;unfold cQ at*
 exact⟨r2,by omega⟩
theorem NL{w:World}(hS:Old S w)(hf:dX w S vn vb vs f)(SY:eP f=0->FrS f):
  eA PG N.tt #[.agg #[vn,vb,vs]] w (eL w fun v' _=>(eP f≠0∧v'= .tuple #[.agg #[.int .i64 0,.int .i64 0,.int .i64 0],.int .i64 (eP f)])∨(eP f=0∧v'= .tuple #[.agg #[.int .i64 (iO (cU f) f.cols),.int .i64 ((f.cols:Int)-iO (cU f) f.cols),.int .i64 ((3*f.nodes.length:Nat)-iO (cU f) f.cols)],.int .i64 0])):=by
 have hw:=bR w;obtain⟨an,cn,ab,cb,aq,cq,rfl,rfl,rfl,RN,RJ,SF⟩:=hf.shape;have Pt:f.cols=f.bars.length+f.cV.length:=rfl;have Uw:=I6 f;obtain⟨e0,EE⟩:∃e,eP f=e:=⟨_,rfl⟩
 refine y9 (by simp) ?_;refine cH (cE hw (fun _ w' v w2=>v= .int .i64 e0) (fun O w' r=>(DK (oS hS r) (hf.cJ (kS hw r hS))).mono fun _ _ ⟨v2,e1,e2,e3⟩=>⟨v2,e1,e2,by rw[e3,EE]⟩) ?_);rintro O Pa v1 PJ Od r he hw h_ rfl;refine dG.mk ?_ ?_<;>intro he
 ·have he:e0≠0:=by simpa using he
  exact rtn hw fun ρe we re=>.inl ⟨by rw[EE];exact he,by rw[EE];rfl⟩
 have he:e0=0:=by simpa using he
 have Om:eP f=0:=by rw[EE,he]
 have Ou:=SY Om;have Oc:=lM Om;refine cH (cE hw (fun _ w' v w2=>(∃vr,v= .agg #[vr,.int .i64 f.cols]∧cW w2 (Nf w' w2) vr (cU f))∧fq f.cols (cU f)∧Ht (cU f) 2) (fun O w' r=>vK (S:=S) (oS hS r) (hf.cJ (kS hw r hS)) Oc) ?_);rintro O _ _ _ ivt r he hw h_ ⟨⟨vr,rfl,k1⟩,hlen,QO⟩;have hM:=cW.dK (S:=FF) k1 r.cI (mN h_);obtain⟨am,cm,rfl,Ri,Q9⟩:=dA.shape hM;have Tv:=Ou.M5;have VP:=Ou.r12;refine cH (cE hw (fun _ w' v w2=>∃vr vp vf,v= .agg #[vr,.int .i64 f.cols,vp,vf]∧cW w2 (Nw (Cf w ivt) w' w2) vr (db (cU f) f.cols).1) (fun O w' r=>(DM (C:=Cf w ivt) (S:=Cf w ivt) (h:=20) (Rel.old r (cG w)) (Rel.old r (cG w)) (cW.rel hM r (cG w)) hlen (by omega) (by omega) (pJ hlen Ou.mQ (by decide) (by have:=Ou.size;omega)) (by decide)).mono fun _ _ ⟨v2,e1,e2,vr,vp,vf,k1,k2,_,_⟩=>⟨v2,e1,e2,vr,vp,vf,k1,k2⟩) ?_);rintro O _ _ _ Oa r he hw h_ ⟨vr2,vp2,vf2,rfl,hn⟩;replace hM:=cW.cK hM r (cG w) he (mC h_);obtain⟨ar,cr,rfl,-,-⟩:=dA.shape hn;have Vw:(db (cU f) f.cols).1.length=iO (cU f) f.cols:=by
  rw[(mo hlen Ou.mQ).2,aZ,Nat.min_eq_left (iG _ _ hlen).1]
 rw[Vw];have hle:iO (cU f) f.cols<=f.cols:=(iG _ _ hlen).2;obtain⟨nr,hnr⟩:∃nr,iO (cU f) f.cols=nr:=⟨_,rfl⟩
 rw[hnr]at hle ⊢;refine⟨(f.cols:Int)-nr,wo,((cU f).length:Int)-nr,wo,?_⟩;exact rtn hw fun ρe we re=>.inr ⟨Om,by rw[Uw];rfl⟩
theorem NM{α β:Type}(g:List α->List β)(hg:∀r,(g r).length=r.length):∀M:List (List α),fg (M.map g)=fg M
 |[]=>rfl
 |r::M=>hg r
theorem aAs(hlen:fq n M)(WW:0<M.length∨n=0):fg (M.map jd)=n:=by
 rw[NM jd fun r=>yz r]
 cases M with
 |nil=>
  rcases WW with h|h
  ·exact absurd h (Nat.lt_irrefl 0)
  ·exact h.symm
 |cons r M=>exact hlen r aI
section
variable{S:Nat->Prop}{w:World}{v u:Value}{M:List (List Rat)}{b:List Rat}{n h0:Nat}
theorem NN(hlen:fq n M)(hc:fg (M.map jd)=n):∀r∈M.map jd,r.length=fg (M.map jd):=fun r hr=>by
 obtain⟨x,hx,rfl⟩:=aT.1 hr;rw[hc,yz];exact hlen x hx
theorem aCH(hB:∀c,c<=n->Ht (cQ M c).1 h0):Ht M h0:=hB 0 (aO _)
theorem aAt(h:cW w S v M)(hq:Ht M h0)(hh:3*h0<=90000):fN w S v (iu (M.map Ex.jd)):=by
 rw[DN];exact h.l fun r hr q Q5=>by have:=hq r hr q Q5;omega
theorem aAu(hS:Old S w)(h:cW w S v M)(hlen:fq n M)(WW:0<M.length∨n=0)(hR:M.length<=1000)(hn:n<=1000)(hB:∀c,c<=n->Ht (cQ M c).1 h0)(hh:3*h0<=90000):
  eA PG N.uq #[v] w (eL w fun v' _=>v'= .int .i64 (iO M n)):=by
 have hc:=aAs hlen WW;refine(aAq (h0:=h0) hS h.jd (aAt h (aCH hB) hh) (NN hlen hc) (by rw[aL];exact hR) (by rw[hc];exact hn) (by rw[hc,DN];exact hB) hh).mono fun e w2 ⟨v2,e1,e2,e3⟩=>⟨v2,e1,e2,by rw[e3,DN,hc]⟩
end
theorem eO.aDy{H:Hp}{nx:Nat}{iv:Iv}{w0 w1 w':World}{g:Nat}(hg:Cf w0 iv g)(r:Rel H nx iv w0.heap.size w1 O w'):Cf w0 [(w0.heap.size,w'.heap.size)] g:=by
 rcases hg with hg|⟨h1,lo,hi,h2,h3,h4⟩
 ·exact hg.elim
 ·exact .inr ⟨h1,_,_,bE.2 rfl,h1,by have:=r.so lo hi h2;have:=r.size;omega⟩
theorem FG(n:Nat)(w:World)(h0:0<n)(hn:n<=1000):eA PG N.zc #[.int .i64 n] w (eL w fun v' w2=>eO w2 FF w.heap.size [(w.heap.size,w2.heap.size)] v' n (List.replicate n 0)):=by
 have hw:=bR w;refine Cq (by simp) ?_
 refine⟨Nat×List (List Value)×World×Iv,fun z=>⟨[(0,.o (.v (.int .i64 (n:Int)))),(3,.o (.w 0 z.2.1.length)),(4,iN z.1)],[(0,.vec T.Rat 4 z.2.1.flatten)],1,z.2.2.2,z.2.2.1⟩,fun z=>n-z.1,
  fun z=>z.1<=n∧dg w.heap.size w z.2.2.1∧dR z.2.2.1 (Cf w z.2.2.2) z.2.1 (List.replicate z.1 0),?_,?_⟩
 ·intro O w' r;exact⟨(0,[],w',[]),⟨aO _,hw.tr r.cS,dR.nil⟩,Sub.nil 3 T.Rat 4 rfl (by simp[jw,SV.sc,At.sc,fQ]) r fun ρ1 r1=>Sub.gn [] r1⟩
 rintro⟨i,css,w1,iv⟩ ⟨hi,hw,hG⟩;dsimp only at hi hw hG ⊢;have Ok:=eD hG.four;have RT:css.length=i:=by rw[hG.len,aU]
 refine dG.mk ?_ ?_<;>intro OW
 ·have OW:i<n:=by simpa using OW
  refine cH (cE hw (fun _ w' v w2=>cT w2 (Nf w' w2) v (((0:Int)):Rat)) (fun O w' r=>ic 0 w' (by decide)) ?_);rintro O _ _ _ Od r he hw h_ hn;replace hG:=hG.cK r (cG w) he (mC h_);have hd:=hn.dK (S:=FF) r.cI (mN h_);obtain⟨A0,A1,A2,A3,A4,A5,A6,A7,rfl⟩:=hd.shape;have RE:=hG.push (cs:=[.bool A0,.slice A1 A2 A3,.bool A4,.slice A5 A6 A7]) (q:=((0:Int):Rat)) ⟨_,_,_,_,_,_,_,_,rfl,hd⟩ rfl;rw[show List.replicate i (0:Rat)++[((0:Int):Rat)]=List.replicate (i+1) 0 by rw[List.replicate_succ'];rfl]at RE;have PR:css.flatten++([.bool A0,.slice A1 A2 A3,.bool A4,.slice A5 A6 A7]:List Value)=(css++([[.bool A0,.slice A1 A2 A3,.bool A4,.slice A5 A6 A7]]:List (List Value))).flatten:=by simp
  refine .inl ?_;refine⟨by omega,by omega,by unfold maxLen;omega,((i+1:Nat):Int),wo,?_⟩;intro ρ3 w6 r3;exact⟨(i+1,css++[[.bool A0,.slice A1 A2 A3,.bool A4,.slice A5 A6 A7]],w6,_),⟨OW,hw.tr r3.cS,RE.rel r3 (cG w)⟩,Sub.gn [(0,2)] r3 ⟨by dsimp only;rw[<-PR];rfl,trivial⟩ ⟨rfl,by dsimp only;rw[List.length_append,List.length_singleton];rfl,rfl,trivial⟩,by dsimp only;omega⟩
 have OW:i=n:=aQ hi (by simpa using OW);subst OW;intro ρe we re;have RE:=hG.rel re (cG w);have h1:=(aBx (S:=Cf w iv) (qs:=List.replicate i 0) re (id:=0) rfl RT h0 (by unfold maxLen;omega) ⟨RE.len,RE.at_⟩).1
 obtain⟨-,h2,h3,h4⟩:=aBx (S:=fun g=>Cf w iv g∧(Value.slice (some ⟨(ρe 0).g,0,none⟩) i (ρe 0).cap).ownBlock≠some g) (qs:=List.replicate i 0) re (id:=0) rfl RT h0 (by unfold maxLen;omega) ⟨RE.len,fun j cs q k1 k2=>by
  obtain⟨b,a,n,c,b2,a2,n2,c2,e,hr⟩:=RE.at_ j cs q k1 k2
  exact⟨b,a,n,c,b2,a2,n2,c2,e,hr.cL fun g hg=>⟨hg,fun e=>Rel.not re (cG w) hg 0 _ rfl h1 (by injection e)⟩⟩⟩
 refine⟨.slice (some ⟨(ρe 0).g,0,none⟩) i (ρe 0).cap,?_,hw.tr re.cS,?_⟩
 ·simp[oK,SV.den,At.den,h1,RT]
 ·refine⟨h4.cL fun g hg=>⟨?_,hg.2⟩,fun g hg=>?_⟩
  ·exact(eO.aDy hg.1 re)
  ·injection hg with hg;have hg:(ρe 0).g=g:=hg;subst hg;exact .inr ⟨h2,_,_,bE.2 rfl,h2,(re.low 0 _ rfl h1).2⟩
theorem FrS.col(h:FrS f):0<3*f.nodes.length∨f.cols=0:=by
 rcases bQ f.nodes.length with h0|h0
 ·right;have h1:f.bars=[]:=List.eq_nil_iff_forall_not_mem.2 fun b hb=>by
   obtain⟨ka,kb,_,_,h3,_⟩:=h.Hq b hb;omega
  have h2:f.cV=[]:=List.eq_nil_iff_forall_not_mem.2 fun s hs=>by
   have:=(h.sup s hs).1;omega
  unfold eY.cols;rw[h1,h2];rfl
 ·left;omega
theorem lh{w:World}(hS:Old S w)(hf:dX w S vn vb vs f)(Om:eP f=0)(Ou:FrS f):
  eA PG N.zW #[.agg #[vn,vb,vs]] w (eL w fun v' _=>v'= .agg #[.int .i64 (iO (cU f) f.cols),.int .i64 ((f.cols:Int)-iO (cU f) f.cols),.int .i64 ((3*f.nodes.length:Nat)-iO (cU f) f.cols)]):=by
 have hw:=bR w;obtain⟨an,cn,ab,cb,aq,cq,rfl,rfl,rfl,RN,RJ,SF⟩:=hf.shape;have Pt:f.cols=f.bars.length+f.cV.length:=rfl;have Uw:=fu f;have Tv:=Ou.M5;have VP:=Ou.r12;have hlen:=fe f;refine Ch (by simp) ?_;refine cH (cE hw (fun _ w' v w2=>o7 w2 (Nf w' w2) v (iS f)∧JC (iS f) 2000000) (fun O w' r=>FD (oS hS r) (hf.cJ (kS hw r hS)) Om) ?_);rintro O _ _ _ Od r he hw h_ ⟨hn,Ud⟩;have hZ:=o7.dK (S:=FF) hn r.cI (mN h_);obtain⟨az,cz,rfl,-,-⟩:=dA.shape hZ;refine cH (cE hw (fun _ w' v w2=>cW w2 (Nf w' w2) v (cU f)) (fun O w' r=>aCG (Rel.old r (cG w)) (o7.rel hZ r (cG w)) (by rw[<-aL (f:=dH)];exact aV VP (by decide)) (fun l hl=>by rw[lD f _ l hl];omega) (fun l hl z hz=>by have:=Ud l hl z hz;omega)) ?_);rintro O _ _ _ Oa r he hw h_ hn;have hM:=cW.dK (S:=FF) hn r.cI (mN h_);obtain⟨am,cm,rfl,-,-⟩:=dA.shape hM;refine cH (cE hw (fun _ w' v w2=>v= .int .i64 (iO (cU f) f.cols)) (fun O w' r=>aAu (h0:=20) (Rel.old r (cG w)) (cW.rel hM r (cG w)) hlen (by rw[Uw];exact Ou.col) (by omega) (by omega) (fun c hc=>Ou.ht hc) (by decide)) ?_);rintro O _ _ _ Oj r he hw h_ rfl;have hle:iO (cU f) f.cols<=f.cols:=(iG _ _ hlen).2;obtain⟨nr,hnr⟩:∃nr,iO (cU f) f.cols=nr:=⟨_,rfl⟩
 rw[hnr]at hle ⊢;refine cO hτ dZ [.x 0,.x 1,.x 3,.x 5,.x 6,.x 7,.x 8,.x 9,.x 10,.x 2,.x 4,.x 11,.x 12] (by kernel_rfl) (by kernel_rfl) ?_;refine⟨((3*f.nodes.length:Nat):Int),by have:=Ou.n4;rw[wrap64]<;>omega,((3*f.nodes.length:Nat):Int)-nr,by have:=Ou.n4;rw[wrap64]<;>omega,?_⟩;refine cE hw (fun _ w' v w2=>v= .int .i64 f.cols) (fun O w' r=>jc (hf.cJ (kS hw r hS)) ⟨Ou.b,Ou.s⟩) ?_;rintro O _ _ _ Oz r he hw h_ rfl;refine⟨(f.cols:Int)-nr,wo,?_⟩;exact rtn hw fun ρe we re=>rfl
theorem aDL(h:eP f≠0∨f.nodes.length<=4∧f.bars.length<=6)(h0:eP f=0):FrS f:=⟨Jc h0,(h.resolve_left fun e=>e h0).1,(h.resolve_left fun e=>e h0).2⟩
theorem M7{x r:List Rat}{i:Nat}(h:M[i]? =some r):(kv M x)[i]? =some (eh r x r.length):=by rw[kv,aN,h];rfl
theorem Ih(h:FrS f):Ht (dq (cU f) f.cols) 4:=fun r hr q hq=>by
 obtain⟨i,hi⟩:=aS hr;obtain⟨t,ht⟩:=aS hq;have hil:i<f.cols:=by have:=(aE.1 hi).1;rwa [eF]at this
 have:=h.pr t i;rw[<-l5 (M:=cU f) hil,cY,getD_some hi,getD_some ht]at this;obtain⟨z,rfl,hz⟩:=this;have:rl ((z:Int):Rat)<=2:=GD (by omega);omega
theorem FI(h:FrS f):Ht (dq (cU f) f.cols) 41:=fun r hr q hq=>by have:=Ih h r hr q hq;omega
theorem aAw{t:Int}(h:LBd s t)(ht:0<=t)(j:Nat): -t<=s.getD j 0∧s.getD j 0<=t:=by
 rcases aP j s.length with hj|hj
 ·rw[getD_some (aB hj)];exact h _ (a9 hj)
 ·rw[List.getD,List.getElem?_eq_none hj];show -t<=0∧0<=t;omega
theorem FJ{s:List Int}{x:Ld}{t:Int}(h:LBd s t)(ht:0<=t)(hx:(-1000000<=x.2.1∧x.2.1<=1000000)∧(-1000000<=x.2.2.1∧x.2.2.1<=1000000)∧(-1000000<=x.2.2.2∧x.2.2.2<=1000000)):∀k,k<=3->LBd (jS s x k) (t+1000000*(k:Int))
 |0,_=>by rw[jS];simpa using h
 |k+1,hk=>by
  have ih:=FJ h ht hx k (by omega);have hd: -1000000<=(ldC x).getD k 0∧(ldC x).getD k 0<=1000000:=by
   rcases(show k=0∨k=1∨k=2 by omega)with rfl|rfl|rfl
   ·exact hx.1
   ·exact hx.2.1
   ·exact hx.2.2
  have hg:=aAw ih (by omega) (3*x.1+k).toNat;rw[jS,Ky];exact ih.set (by omega) (by omega)
theorem FK{n:Nat}{l:List Ld}(Oc:I7 n l):∀i,i<=l.length->LBd (jE n l i) (3000000*(i:Int))
 |0,_=>fun z hz=>by rw[ah hz];decide
 |i+1,hi=>by
  have ih:=FK Oc i (by omega);have hm:l.getD i (0,0,0,0)∈l:=by rw[getD_some (aB (show i<l.length by omega))];exact a9 _
  have:=FJ ih (by omega) (Oc.ld _ hm).2 3 (Nat.le_refl _);rw[jE];intro z hz;have:=this z hz;omega
theorem Ii{w:World}(hS:Old S w)(hf:dX w S vn vb vs f)(Om:eP f=0)(Ou:FrS f){vu:Value}(hu:dB w S vu u)(huq:∀q∈u,rl q<=40)(hu80:u.length<=80)(hul:u.length=3*f.nodes.length):
  eA PG N.zZ #[.agg #[vn,vb,vs],vu] w (eL w fun v' w2=>cR w2 (Nf w w2) v' (kv (dq (cU f) f.cols) u)):=by
 have hw:=bR w;obtain⟨an,cn,ab,cb,aq,cq,rfl,rfl,rfl,RN,RJ,SF⟩:=hf.shape;obtain⟨au,cu,rfl,hcu,hmu⟩:=dL.shape hu;unfold maxLen at hmu;have Tv:=Ou.M5;have VP:=Ou.r12;have Uw:=fu f;have hlen:=fe f;have hn4:=Ou.n4;have Oc:=lM Om;have Xs:f.cols=f.bars.length+f.cV.length:=rfl;refine Ck (by simp) ?_;refine cH (cE hw (fun _ w' v w2=>cW w2 (Nf w' w2) v (dq (cU f) f.cols)) (fun O w' r=>NK (oS hS r) (hf.cJ (kS hw r hS)) Om) ?_);rintro O _ _ _ Od r he hw h_ hn;have hM:=cW.dK (S:=FF) hn r.cI (mN h_);clear r;clear hn;obtain⟨am,cm,rfl,-,-⟩:=dA.shape hM;refine cH (cE hw (fun _ w' v w2=>cR w2 (Nf w' w2) v (kv (dq (cU f) f.cols) u)) (fun O w' r=>aAx (S:=fun g=>S g∨Cf w Od g) (h:=41) (fun g hg=>hg.elim (oS hS r g) (Rel.old r (cG w) g)) (fN.cL (cW.l (cW.rel hM r (cG w)) fun y hy q hq=>by have:=(FI Ou) y hy q hq;omega) fun g hg=>.inr hg) (dB.cL (dB.cJ hu (kS hw r hS)) fun g hg=>.inl hg) (fun y hy=>by rw[gV _ _ y hy,hul,Uw]) (FI Ou) (fun q hq=>by have:=huq q hq;omega) (by decide) (by omega) (by rw[eF];omega)) ?_);rintro O _ _ _ Oa r he hw h_ hn;clear hM;have hT:=cR.dK (S:=FF) hn r.cI (mN h_);clear r;clear hn;obtain⟨at_,ct,rfl,-,-⟩:=dL.shape hT;exact rtn hw fun ρe we re=>cR.out hT re (cG w)
end Go.Ex
namespace Go.Ex
variable{M:List (List Rat)}{l:Nat}{g:Nat->Rat}{D p q:Rat}
structure qc(f:eY):Prop extends FrS f where
 fx:∀q∈dE f,rl q<=3
def Bl(b:List Rat):Prop:=∀t,Ib 1000000000 (b.getD t 0)
theorem Ib.w{B:Nat}(h:Ib B q)(k:B<=wt l):Ib (wt l) q:=h.mono k
theorem lG(a b:Nat)(h:a+b<=l):wt a*wt b<=wt l:=by rw[<-Fg];exact B2 h
theorem Ib.wS{a b:Nat}(h:Ib (wt a) p)(k:Ib (wt b) q)(hl:a+b<=l):Ib (wt l) (p*q):=(h.mul k).mono (lG a b hl)
theorem Ib.up{a:Nat}(h:Ib (wt a) p)(hl:a<=l):Ib (wt l) p:=h.mono (B2 hl)
theorem Ib.aD4{a n:Nat}(hn:n<=18)(h:∀k,k<n->Ib (wt a) (g k))(hl:a+1<=l):Ib (wt l) (cX g n):=
 (Ib.sum n h).mono (aV (Nat.mul_le_mul_right _ (aV hn (by decide:18<=wt 1))) (lG 1 a (by omega)))
theorem Den.mono{K L:Nat}{l:List Rat}(h:Den K D l)(k:K<=L):Den L D l:=⟨h.1,h.2.1.mono k,fun t=>(h.2.2 t).mono k⟩
theorem Jb.mono{K L:Nat}(h:Jb K D M)(k:K<=L):Jb L D M:=⟨h.1,h.2.1.mono k,fun i t=>(h.2.2 i t).mono k⟩
theorem Hy{k n R m:Nat}(hn:n<=R)(hR:R<=4294967295)(hl:k+1<=l)(hm:l*R+1<=m):ln (fB (wt k) n)<=m∧fB (wt k) n<=wt m:=by
 have h1:=aC0 (B:=wt k) (l:=l) hn (aV (Nat.mul_le_mul_right _ (aV hR (by decide:4294967295<=wt 1))) (lG 1 k (by omega)));have h2:l*n+1<=m:=aV (Nat.succ_le_succ (bO _ hn)) hm;exact⟨aV h1 h2,Nat.le_of_lt (gX.1 (aV h1 h2))⟩
section
variable{f:eY}{b x x0 c u:List Rat}
theorem FrS.LI(h:FrS f)(hb:Bl b):Fm (eN (cU f) b) (f.cols+1) (wt 1):=fun j hj=>by
 rw[fA]at hj;have hw:=fun t=>lC (b:=b) (t:=t) (fe f) hj;refine⟨1,by decide,Ib.one pj,fun t ht=>?_⟩;rw[bf];rcases aP t f.cols with h1|h1
 ·rw[(hw t).1 h1];exact(h.pr j t).w (by decide)
 ·rw[show t=f.cols by omega,(hw 0).2];exact(hb j).w (by decide)
theorem FrS.aAF(h:FrS f):ln (fB (wt 1) (eN (cU f) b).length)<=25:=by
 rw[fA];exact(Hy (l:=2) h.r12 (by decide) (by decide) (by decide)).1
theorem FrS.aD5(h:FrS f)(hb:Bl b)(h0:gq (cU f) b f.cols=some x0):∃D,Den (wt 25) D x0:=by
 obtain⟨D,hD⟩:=Bz (fe f) (h.LI hb) pj h0;exact⟨D,hD.mono (Hy (l:=2) h.r12 (by decide) (by decide) (by decide)).2⟩
theorem FrS.ker(h:FrS f):∃D,Jb (wt 13) D (dC (cU f) f.cols):=by
 obtain⟨D,hD⟩:=aBh (fe f) h.mQ (by decide);exact⟨D,hD.mono (Nat.le_of_lt (gX.1 h.size))⟩
theorem FrS.aC1(h:FrS f):(dC (cU f) f.cols).length<=18:=by
 have h1:=ub (fe f);have h2:=h.M5;omega
theorem CF(f:eY):(dE f).length=f.cols:=by simp[dE,eY.cols]
theorem qc.aDs(h:qc f):Den (wt 54) (mr (dE f) 18) (dE f):=Hk (by rw[CF];exact h.M5) h.fx
theorem qc.aAG(h:qc f)(hx:∃D,Den (wt 25) D x0):Fm (eN (fD (dC (cU f) f.cols) (dE f)) (iL (dC (cU f) f.cols) (dE f) x0)) ((dC (cU f) f.cols).length+1) (wt 106):=fun i hi=>by
 rw[fA,fD,aL]at hi;obtain⟨D0,a1,a2,a3⟩:=hx;obtain⟨D1,b1,b2,b3⟩:=h.ker;obtain⟨c1,c2,c3⟩:=h.aDs;have hn:=h.M5;have hw:=fun t=>lC (b:=iL (dC (cU f) f.cols) (dE f) x0) (t:=t) (pn (dC (cU f) f.cols) (dE f)) (j:=i) (by rw[fD,aL];exact hi);refine⟨mr (dE f) 18*(D1*D1)*D0,wM (wM c1 (wM b1 b1)) a1,(((c2.wS (b2.wS b2 (Nat.le_refl _)) (Nat.le_refl _)).wS a2 (by decide))),fun t ht=>?_⟩;rcases aP t (dC (cU f) f.cols).length with h1|h1
 ·rw[(hw t).1 h1,yM _ _ _ hi h1];unfold LG yJ;rw[<-eU];refine Ib.aD4 hn (fun k _=>?_) (Nat.le_refl _);rw[show mr (dE f) 18*(D1*D1)*D0*((dE f).getD k 0*(cY (dC (cU f) f.cols) i k*cY (dC (cU f) f.cols) t k))=(mr (dE f) 18*(dE f).getD k 0)*((D1*cY (dC (cU f) f.cols) i k)*(D1*cY (dC (cU f) f.cols) t k))*D0 by grind];exact((c3 k).wS ((b3 i k).wS (b3 t k) (Nat.le_refl _)) (Nat.le_refl _)).wS a2 (by decide)
 ·rw[show t=(dC (cU f) f.cols).length by omega,(hw 0).2,Ho _ _ _ _ hi];unfold yJ;rw[show mr (dE f) 18*(D1*D1)*D0* -(cX (fun t=>(dE f).getD t 0*(cY (dC (cU f) f.cols) i t*x0.getD t 0)) f.cols)= -(mr (dE f) 18*(D1*D1)*D0*cX (fun t=>(dE f).getD t 0*(cY (dC (cU f) f.cols) i t*x0.getD t 0)) f.cols) by grind,<-eU];refine(Ib.aD4 hn (fun k _=>?_) (Nat.le_refl _)).neg;rw[show mr (dE f) 18*(D1*D1)*D0*((dE f).getD k 0*(cY (dC (cU f) f.cols) i k*x0.getD k 0))=(mr (dE f) 18*(dE f).getD k 0)*((D1*cY (dC (cU f) f.cols) i k)*D1)*(D0*x0.getD k 0) by grind];exact((c3 k).wS ((b3 i k).wS b2 (Nat.le_refl _)) (Nat.le_refl _)).wS (a3 k) (by decide)
theorem qc.LJ(h:qc f){b:List Rat}:ln (fB (wt 106) (eN (fD (dC (cU f) f.cols) (dE f)) b).length)<=1927:=by
 rw[fA,fD,aL];exact(Hy (l:=107) h.aC1 (by decide) (by decide) (by decide)).1
theorem qc.aCv(h:qc f)(hx:∃D,Den (wt 25) D x0)(hc:gq (fD (dC (cU f) f.cols) (dE f)) (iL (dC (cU f) f.cols) (dE f) x0) (dC (cU f) f.cols).length=some c):∀q∈c,rl q<=1927:=fun q hq=>by
 obtain⟨D,hD⟩:=Bz (pn _ _) (h.aAG hx) pj hc;have h1:=hD.rl q hq;have h2:=h.LJ (b:=[]);rw[fA]at h2;omega
theorem Fu(h:rl q<=3):Ib (wt 3) (q.den:Rat):=⟨(q.den:Int),rfl,by have:=(Hj h).2;omega⟩
theorem aAH(h:rl q<=3):Ib (wt 3) ((q.den:Rat)*q):=by rw[Ap];exact⟨q.num,rfl,Nat.le_of_lt (Hj h).1⟩
theorem Fv(q:Rat):(q.den:Rat)≠0:=fun e=>by
 have:((q.den:Int):Rat)=((0:Int):Rat):=e;exact q.den_nz (by have:=Rat.intCast_inj.1 this;omega)
theorem qc.fxD(h:qc f){t:Nat}(ht:t<f.cols):rl ((dE f).getD t 0)<=3:=by
 have hl:t<(dE f).length:=by rw[CF];exact ht
 rw[getD_some (aB hl)];exact h.fx _ (a9 hl)
theorem qc.aBl(h:qc f)(hb:Bl b)(QH:b.length=(cU f).length):Fm (eN (km (cU f) f.cols (dE f)) (b++yL f.cols)) ((cU f).length+f.cols+1) (wt 4):=fun j hj=>by
 rw[fA,ji]at hj;have hw:=fun t=>lC (b:=b++yL f.cols) (t:=t) (tM (fe f) (dE f)) (j:=j) (by rw[ji];exact hj);rcases aP j (cU f).length with h2|h2
 ·refine⟨1,by decide,Ib.one pj,fun t ht=>?_⟩;rw[bf];rcases aP t ((cU f).length+f.cols)with h1|h1
  ·rw[(hw t).1 h1];rcases aP t (cU f).length with h3|h3
   ·rw[(Fs h2).1 h3];exact Ib.zero _
   ·obtain⟨s,rfl⟩:∃s,t=(cU f).length+s:=⟨t-(cU f).length,by omega⟩
    rw[(Fs (t:=s) h2).2];exact((h.pr j s).w (by decide:2000000<=wt 1)).up (by decide)
  ·rw[show t=(cU f).length+f.cols by omega,(hw 0).2,rV];exact((hb j).w (by decide:1000000000<=wt 1)).up (by decide)
 ·obtain⟨k,rfl⟩:∃k,j=(cU f).length+k:=⟨j-(cU f).length,by omega⟩
  have hk:k<f.cols:=by omega
  have hq:=h.fxD hk;refine⟨(((dE f).getD k 0).den:Rat),Fv _,(Fu hq).up (by decide),fun t ht=>?_⟩;rcases aP t ((cU f).length+f.cols)with h1|h1
  ·rw[(hw t).1 h1];rcases aP t (cU f).length with h3|h3
   ·rw[(CD (t:=t) hk).1 h3];exact(Fu hq).wS ((h.pr t k).w (by decide:2000000<=wt 1)) (by decide)
   ·obtain⟨s,rfl⟩:∃s,t=(cU f).length+s:=⟨t-(cU f).length,by omega⟩
    rw[(CD (t:=s) hk).2 (by omega)];split
    ·exact(aAH hq).up (by decide)
    ·rw[bB];exact Ib.zero _
  ·rw[show t=(cU f).length+f.cols by omega,(hw 0).2,rV,jI (l:=b) (by omega),bB];exact Ib.zero _
theorem qc.aAI(h:qc f)(hb:Bl b)(QH:b.length=(cU f).length)(hx:mu (cU f) f.cols (fun t=>(dE f).getD t 0) b x):∃D,Den (wt 151) D x:=by
 obtain⟨u,hu⟩:=hx.aD2 (fe f);obtain⟨s1,s2⟩:=aAD (fe f) QH hx hu;obtain⟨z,hz⟩:=E7 (tM (fe f) (dE f)) s2;have h1:=aAE (fe f) QH hz;have h2:=h.aBj.one hx h1;obtain⟨D,d1,d2,d3⟩:=Bz (tM (fe f) (dE f)) (h.aBl hb QH) pj hz;have h3:fB (wt 4) (km (cU f) f.cols (dE f)).length<=wt 151:=by
  rw[ji];have h1:=h.M5;have h2:=h.r12;exact(Hy (l:=5) (R:=30) (by omega) (by decide) (by decide) (by decide)).2
 refine⟨D,d1,d2.mono h3,fun t=>?_⟩;rw[h2,List.getD,bp,<-List.getD];exact(d3 _).mono h3
theorem qc.aD6(h:qc f)(hb:Bl b)(QH:b.length=(cU f).length)(hx:mu (cU f) f.cols (fun t=>(dE f).getD t 0) b x):∀q∈x,rl q<=152:=fun q hq=>by
 obtain⟨D,hD⟩:=h.aAI hb QH hx;have:=hD.rl q hq;have h2:ln (wt 151)<=152:=gX.2 (Kt (by decide));omega
theorem qc.M6(h:qc f)(Pr:x.length=f.cols)(hx:∃D,Den (wt 151) D x):Fm (eN (dq (cU f) f.cols) (eB (fm x (dE f)) (-1))) ((cU f).length+1) (wt 156):=fun j hj=>by
 rw[fA,eF]at hj;obtain⟨D,d1,d2,d3⟩:=hx;have hq:=h.fxD hj;have hw:=fun t=>lC (b:=eB (fm x (dE f)) (-1)) (t:=t) (gV (cU f) f.cols) (j:=j) (by rw[eF];exact hj);refine⟨(((dE f).getD j 0).den:Rat)*D,wM (Fv _) d1,(Fu hq).wS d2 (by decide),fun t ht=>?_⟩;rcases aP t (cU f).length with h1|h1
 ·rw[(hw t).1 h1,l5 hj];exact((Fu hq).wS d2 (Nat.le_refl _)).wS ((h.pr t j).w (by decide:2000000<=wt 1)) (by decide)
 ·rw[show t=(cU f).length by omega,(hw 0).2,CE x _ Pr hj,show(((dE f).getD j 0).den:Rat)*D* -((dE f).getD j 0*x.getD j 0)= -(((((dE f).getD j 0).den:Rat)*(dE f).getD j 0)*(D*x.getD j 0)) by grind];exact((aAH hq).wS (d3 j) (by decide)).neg
theorem qc.Je(h:qc f){b:List Rat}:ln (fB (wt 156) (eN (dq (cU f) f.cols) b).length)<=2827:=by
 rw[fA,eF];exact(Hy (l:=157) h.M5 (by decide) (by decide) (by decide)).1
end
end Go.Ex
namespace Go.Ex
open Go Go.Sx Go.Proofs
end Go.Ex
namespace Go.Sx
open Go Go.Ex Go.Proofs
variable{cs:List Value}{T:Nat->Prop}{O:Nat->Sx.eE}
theorem Rel.kc{H:Hp}{nx:Nat}{iv:Iv}{B:Nat}{w w':World}(r:Rel H nx iv B w O w'){id t m sz:Nat}(h:dM H id=some (.vec t sz cs))(hm:cs.length=m*sz)(SP:m<=maxLen)(hs:0<sz)(h1:∀u∈cs,u.oneCell'=true)(hT:(O id).nil=false->T (O id).g):
  jY w' T sz ((At.w id m).den O) cs m:=by
 rcases r.fits h with⟨hn,rfl⟩|⟨hn,spare,h2,h3,h4⟩
 ·have UZ:m=0:=by
   rcases bQ m with h|h
   ·exact h
   ·have:=Nat.mul_pos h hs;simp at hm;omega
  subst UZ;have Rq:(At.w id 0).den O= .slice none 0 0:=by simp[At.den,hn]
  rw[Rq];exact⟨aO _,by simp,by simp,none,0,rfl,Nat.le_refl _,fun j u h=>by cases h⟩
 ·have Rq:(At.w id m).den O= .slice (some ⟨(O id).g,0,none⟩) m (O id).cap:=by simp[At.den,hn]
  rw[Rq];refine⟨SP,hm,h1,_,_,rfl,?_,fun j u hu=>⟨_,rfl,hT hn,?_⟩⟩
  ·rw[List.length_append,hm]at h3;exact cB (show m*sz<=(O id).cap*sz by omega) hs
  ·rw[dP,cell_of h2,aW,aJ (aE.1 hu).1];exact hu
end Go.Sx
namespace Go.Ex
open Go Go.Sx Go.Proofs
variable{p:List Rat}{g:Nat}{S T:Nat->Prop}
section
variable{S:Nat->Prop}{H:Hp}{nx:Nat}{iv iv':Iv}{B n:Nat}{w w' w2:World}{O:Nat->Sx.eE}{v:Value}{qs:List Rat}
theorem Bs.fresh(r:Rel H nx iv B w O w')(hx:∀g,v.ownBlock=some g->g<w'.heap.size)(hg:Nf w' w2 g):Bs S B ((w'.heap.size,w2.heap.size)::iv) v g:=by
 rcases hg with hg|hg
 ·exact hg.elim
 ·exact⟨.inr ⟨by have:=r.cI;omega,_,_,aI,hg.1,hg.2⟩,fun e=>by have:=hx g e;omega⟩
theorem Bs.solved(r:Rel H nx iv B w O w')(hx:∀g,v.ownBlock=some g->g<w'.heap.size)(hT:∀g,T g->Bs S B iv v g)(hg:Cv T w'.heap.size [(w'.heap.size,w2.heap.size)] g):Bs S B ((w'.heap.size,w2.heap.size)::iv) v g:=by
 rcases hg with hg|⟨h1,lo,hi,h2,h3,h4⟩
 ·exact Bs.mono (fun p hp=>aC _ hp) (hT g hg)
 ·simp at h2;obtain⟨rfl,rfl⟩:=h2;exact Bs.fresh r hx (.inr ⟨h3,h4⟩)
end
section
variable{S:Nat->Prop}{H:Hp}{nx:Nat}{iv iv':Iv}{B:Nat}{w w' w2:World}{O:Nat->Sx.eE}{v v0:Value}{q:Rat}
theorem nK.rel(h:cT w (Bs S B iv v) v0 q)(r:Rel H nx iv B w O w')(hS:∀g,S g->g<B):cT w' (Bs S B iv v) v0 q:=cT.cJ h (Bs.same r hS)
theorem nK.fresh(h:cT w2 (Nf w' w2) v0 q)(r:Rel H nx iv B w O w')(hx:∀g,v.ownBlock=some g->g<w'.heap.size):cT w2 (Bs S B ((w'.heap.size,w2.heap.size)::iv) v) v0 q:=cT.cL h fun _ hg=>Bs.fresh r hx hg
theorem nK.cv(h:cT w (Bs S B iv v) v0 q):cT w (Cv S B iv) v0 q:=cT.cL h fun _ hg=>hg.1
end
section
variable{S:Nat->Prop}{H:Hp}{nx:Nat}{iv iv':Iv}{B:Nat}{w w' w2:World}{O:Nat->Sx.eE}{v v0:Value}{K:List (List Rat)}
theorem gl.rel(h:cW w (Bs S B iv v) v0 K)(r:Rel H nx iv B w O w')(hS:∀g,S g->g<B):cW w' (Bs S B iv v) v0 K:=cW.cJ h (Bs.same r hS)
theorem gl.cK(h:cW w (Bs S B iv v) v0 K)(r:Rel H nx iv B w O w')(hS:∀g,S g->g<B)(he:Ext w' w2)(hm:∀p,p∈iv->p∈iv'):cW w2 (Bs S B iv' v) v0 K:=
 cW.cL (cW.cJ (gl.rel h r hS) fun g hg=>he.block g (Rel.old r hS g hg.1)) fun _ hg=>Bs.mono hm hg
theorem gl.fresh(h:cW w2 (Nf w' w2) v0 K)(r:Rel H nx iv B w O w')(hx:∀g,v.ownBlock=some g->g<w'.heap.size):cW w2 (Bs S B ((w'.heap.size,w2.heap.size)::iv) v) v0 K:=cW.cL h fun _ hg=>Bs.fresh r hx hg
theorem gl.kept(h:cW w (Bs S B iv v) v0 K)(r:Rel H nx iv B w O w')(hS:∀g,S g->g<B)(hg:w'.grownBy w2 v.ownBlock):cW w2 (Bs S B iv v) v0 K:=cW.cJ h (Bs.kept r hS hg fun _ e=>e)
end
section
variable{S:Nat->Prop}{H:Hp}{nx:Nat}{iv iv':Iv}{B:Nat}{w w' w2:World}{O:Nat->Sx.eE}{v v0:Value}{xs:List Rat}
theorem fI.rel(h:cR w (Bs S B iv v) v0 xs)(r:Rel H nx iv B w O w')(hS:∀g,S g->g<B):cR w' (Bs S B iv v) v0 xs:=cR.cJ h (Bs.same r hS)
theorem fI.cK(h:cR w (Bs S B iv v) v0 xs)(r:Rel H nx iv B w O w')(hS:∀g,S g->g<B)(he:Ext w' w2)(hm:∀p,p∈iv->p∈iv'):cR w2 (Bs S B iv' v) v0 xs:=
 cR.cL (cR.cJ (fI.rel h r hS) fun g hg=>he.block g (Rel.old r hS g hg.1)) fun _ hg=>Bs.mono hm hg
theorem fI.fresh(h:cR w2 (Nf w' w2) v0 xs)(r:Rel H nx iv B w O w')(hx:∀g,v.ownBlock=some g->g<w'.heap.size):cR w2 (Bs S B ((w'.heap.size,w2.heap.size)::iv) v) v0 xs:=cR.cL h fun _ hg=>Bs.fresh r hx hg
theorem fI.cv(h:cR w (Bs S B iv v) v0 xs):cR w (Cv S B iv) v0 xs:=cR.cL h fun _ hg=>hg.1
theorem fI.kept(h:cR w (Bs S B iv v) v0 xs)(r:Rel H nx iv B w O w')(hS:∀g,S g->g<B)(hg:w'.grownBy w2 v.ownBlock):cR w2 (Bs S B iv v) v0 xs:=cR.cJ h (Bs.kept r hS hg fun _ e=>e)
end
section
variable{S:Nat->Prop}{H:Hp}{nx:Nat}{iv iv':Iv}{B:Nat}{w w' w2:World}{O:Nat->Sx.eE}{v v0:Value}{rv:List Value}{K:List (List Rat)}
theorem oZ.rel(h:dS w (Bs S B iv v) rv K)(r:Rel H nx iv B w O w')(hS:∀g,S g->g<B):dS w' (Bs S B iv v) rv K:=dS.cJ h (Bs.same r hS)
theorem oZ.cK(h:dS w (Bs S B iv v) rv K)(r:Rel H nx iv B w O w')(hS:∀g,S g->g<B)(he:Ext w' w2)(hm:∀p,p∈iv->p∈iv'):dS w2 (Bs S B iv' v) rv K:=
 dS.cL (dS.cJ (oZ.rel h r hS) fun g hg=>he.block g (Rel.old r hS g hg.1)) fun _ hg=>Bs.mono hm hg
end
section
variable{S:Nat->Prop}{H:Hp}{nx:Nat}{iv iv':Iv}{B:Nat}{w w' w2:World}{O:Nat->Sx.eE}{v v0:Value}{css:List (List Value)}{xs:List Rat}
theorem ke.rel(h:dR w (Bs S B iv v) css xs)(r:Rel H nx iv B w O w')(hS:∀g,S g->g<B):dR w' (Bs S B iv v) css xs:=dR.cJ h (Bs.same r hS)
theorem ke.cK(h:dR w (Bs S B iv v) css xs)(r:Rel H nx iv B w O w')(hS:∀g,S g->g<B)(he:Ext w' w2)(hm:∀p,p∈iv->p∈iv'):dR w2 (Bs S B iv' v) css xs:=
 dR.cL (dR.cJ (ke.rel h r hS) fun g hg=>he.block g (Rel.old r hS g hg.1)) fun _ hg=>Bs.mono hm hg
end
theorem Ij{st:List (List Rat)}{c x:List Rat}{a b:Nat}(hx:∀q∈x,rl q<=a)(hs:∀r∈st,∀q∈r,rl q<=b)(hc:∀q∈c,rl q<=b):∀i,∀q∈mn st c x i,rl q<=a+i*(2*b+5)
 |0,q,hq=>by have:=hx q hq;omega
 |i+1,q,hq=>by
  rw[mn]at hq;obtain⟨k,hk⟩:=aS hq;rw[List.getElem?_mapIdx]at hk;obtain⟨p,hp,rfl⟩:=Option.map_eq_some_iff.1 hk;have h1:=Ij hx hs hc i p (aD hp);have h0:rl 0<=2:=by decide
  have h2:rl (c.getD i 0)<=b+2:=by
   rcases aP i c.length with h|h
   ·rw[getD_some (aB h)];have:=hc _ (a9 h);omega
   ·rw[jI h];omega
  have h3:rl ((st.getD i []).getD k 0)<=b+2:=by
   rcases aP i st.length with h|h
   ·rw[getD_some (d:=[]) (aB h)];rcases aP k (st[i]).length with h4|h4
    ·rw[getD_some (aB h4)];have:=hs _ (a9 h) _ (a9 h4);omega
    ·rw[jI h4];omega
   ·rw[show st.getD i []=[] by rw[List.getD,List.getElem?_eq_none h];rfl];exact aV h0 (Nat.le_add_left _ _)
  have h4:=kz p (c.getD i 0*(st.getD i []).getD k 0);have h5:=fb (c.getD i 0) ((st.getD i []).getD k 0);rw[Nat.add_mul];omega
set_option maxHeartbeats 2000000 in
set_option maxRecDepth 8000 in
theorem FL{w:World}{vn vb vs u:Value}{f:eY}(hS:Old S w)(hf:dX w S vn vb vs f)(Om:eP f=0)(Ph:qc f)(hp:cR w S u p)(QI:p.length=3*f.nodes.length)(XZ:∀q∈p,rl q<=100000)(hb:Bl (eB p (-1))):
  eA PG N.rp #[.agg #[vn,vb,vs],u] w (eL w fun v' w2=>(gq (cU f) (eB p (-1)) f.cols=none∧v'= .tuple #[.slice none 0 0,.bool false])∨∃x vx,mu (cU f) f.cols (fun t=>(dE f).getD t 0) (eB p (-1)) x∧v'= .tuple #[vx,.bool true]∧cR w2 (Nf w w2) vx x):=by
 have hw:=bR w;obtain⟨an,cn,ab,cb,aq,cq,rfl,rfl,rfl,RN,RJ,SF⟩:=hf.shape;have Oc:=lM Om;have hlen:=fe f;have Uw:=fu f;have Tv:=Ph.M5;have VP:=Ph.r12;have Ok:=qQ f;have Pt:f.cols=f.bars.length+f.cV.length:=rfl;obtain⟨ap,cp,rfl,YD,hmp⟩:=dL.shape hp;have QH:(eB p (-1)).length=(cU f).length:=by rw[eB,aL,Uw];exact QI
 have hw0:=Ph.LI hb;have Ow:=Ph.aAF (b:=eB p (-1));refine xL (by simp) ?_;refine cH (cE hw (fun _ w' v w2=>(∃vr,v= .agg #[vr,.int .i64 f.cols]∧cW w2 (Nf w' w2) vr (cU f))∧fq f.cols (cU f)∧Ht (cU f) 2) (fun O w' r=>vK (S:=S) (oS hS r) (hf.cJ (kS hw r hS)) Oc) ?_);rintro O _ _ _ Od r he hw h_ ⟨⟨vr,rfl,k1⟩,-,-⟩;have hM:=cW.dK (S:=FF) k1 r.cI (mN h_);clear r;obtain⟨am,cm,rfl,Ri,Q9⟩:=dA.shape hM;refine cO hτ dZ [.x 0,.x 1,.x 2,.x 3,.x 4,.x 5,.x 6,.x 7,.x 8,.x 9] (by kernel_rfl) (by kernel_rfl) ?_;refine cE hw (fun _ w' v w2=>cT w2 (Nf w' w2) v ((-1:Int):Rat)) (fun O w' r=>k8 (-1) w' (by decide) (by decide)) ?_;rintro O _ v2 _ Oa r he hw h_ hn;replace hM:=cW.cK hM r (cG w) he (mC h_);have hd:=hn.dK (S:=FF) r.cI (mN h_);clear r;obtain⟨A0,A1,A2,A3,A4,A5,A6,A7,rfl⟩:=hd.shape;refine cE hw (fun _ w' v w2=>eO w2 FF w'.heap.size [(w'.heap.size,w2.heap.size)] v p.length (eB p (-1))) (fun O w' r=>Es (S:=Cv S w.heap.size Oa) (Rel.old r hS) (dB.cL (cR.l (cR.cJ hp (kS hw r hS)) fun q hq=>by have:=XZ q hq;omega) fun g hg=>.inl hg) (((hd.rel r (cG w)).l (by decide)).cL fun g hg=>D3 hg) (by omega)) ?_;rintro O _ _ _ Oj r he hw h_ hn;replace hM:=cW.cK hM r (cG w) he (mC h_);clear hd;have hB:=hn.dK (S:=FF) r.cI (mN h_);clear r;clear hn;obtain⟨a3,c3,rfl,hc3⟩:=hB.row.form;refine cP (Φ:=fun _ w' v w2=>(gq (cU f) (eB p (-1)) f.cols=none∧v= .tuple #[.slice none 0 0,.bool false])∨∃x vx,gq (cU f) (eB p (-1)) f.cols=some x∧v= .tuple #[vx,.bool true]∧eO w2 (Cf w Oj) w'.heap.size [(w'.heap.size,w2.heap.size)] vx f.cols x) (fun O w' r=>yI (M:=cU f) (b:=eB p (-1)) hlen hw0▸IY (C:=Cf w Oj) (S:=Cf w Oj) (h:=30) (Rel.old r (cG w)) (Rel.old r (cG w)) (cW.rel hM r (cG w)) ((hB.rel r (cG w)).c) QH hlen (by omega) (by omega) (pJ (j1 hlen) hw0 pj (by rw[wL]at *;omega)) (by decide)) ?_;rintro O Qh v4 Q6 r he hb (⟨SI,rfl⟩|⟨x0,vx,SC,rfl,k2⟩)
 ·replace hw:=hw.tr hb;clear r he hb;exact rtn hw fun ρe we re=>.inl ⟨SI,rfl⟩
 replace hw:=hw.tr hb;replace hM:=cW.cK (iv':=(Qh.heap.size,Q6.heap.size)::Oj) hM r (cG w) he fun x hx=>aC _ hx;have hX:=k2.aDc r.cI;clear r he hb k2 hB;generalize (Qh.heap.size,Q6.heap.size)::Oj=Oz at*
 obtain⟨ax,cx,rfl,TU⟩:=hX.row.form;obtain⟨hx0l,-⟩:=mq hlen SC;have hx0D:=Ph.aD5 hb SC;have Xa:∀q∈x0,rl q<=26:=fun q hq=>by
  obtain⟨D,hD⟩:=hx0D;have h1:=hD.rl q hq;have h2:ln (wt 25)<=26:=gX.2 (Kt (by decide));omega
 have hw1:=Ph.aAG hx0D;have PM:=Ph.LJ (b:=iL (dC (cU f) f.cols) (dE f) x0);obtain⟨c,hc,QB,hfrc⟩:=Ph.aBj.force (fl:=dE f) SC;have UG:=Ph.aCv hx0D hc;have hKr:∀r∈dC (cU f) f.cols,∀q∈r,rl q<=14:=fun r hr q hq=>by
  obtain⟨D,hD⟩:=Ph.ker;have h1:=hD.rl r hr q hq;have h2:ln (wt 13)<=14:=gX.2 (Kt (by decide));omega
 have hKl:=ph (cU f) f.cols;have hK18:=Ph.aC1;have hSl:=pn (dC (cU f) f.cols) (dE f);have hfx:=Ph.fx;have RW:=yI (M:=fD (dC (cU f) f.cols) (dE f)) (b:=iL (dC (cU f) f.cols) (dE f) x0) hSl hw1;rw[hc]at RW;have hredB:=pJ (M:=eN (fD (dC (cU f) f.cols) (dE f)) (iL (dC (cU f) f.cols) (dE f) x0)) (h:=1930) (j1 hSl) hw1 pj (by omega);refine cO hτ dZ [.x 0,.x 2,.x 1,.x 3,.x 4,.x 5] (by kernel_rfl) (by kernel_rfl) ?_;refine cP (Φ:=fun _ w' v w2=>cW w2 (Nf w' w2) v (dC (cU f) f.cols)) (fun O w' r=>Ja (M:=cU f) (n:=f.cols) hlen Ph.mQ▸KW (C:=Cf w Oz) (S:=Cf w Oz) (h:=20) (Rel.old r (cG w)) (Rel.old r (cG w)) (cW.rel hM r (cG w)) hlen (by omega) (by omega) (pJ hlen Ph.mQ (by decide) (by have:=Ph.size;omega)) (KX hlen Ph.mQ (by decide) (by have:=Ph.size;omega)) (by decide)) ?_;rintro O Rz v5 Rs r he Oh hn;replace hw:=hw.tr Oh;have SH:∀g,(Value.slice ax f.cols cx).ownBlock=some g->g<Rz.heap.size:=fun g e=>Rel.old r (cG w) g (hX.new g e);clear hM;replace hX:=hX.cK (iv':=(Rz.heap.size,Rs.heap.size)::Oz) r (cG w) he fun x hx=>aC _ hx;have hK:=gl.fresh (S:=FF) (v:=(.slice ax f.cols cx)) hn r SH;clear r he Oh SH hn;generalize (Rz.heap.size,Rs.heap.size)::Oz=QT at*
 obtain⟨ak,ck,rfl,TN,Wt⟩:=dA.shape hK;refine cP (Φ:=fun _ w' v w2=>dB w2 (Nw S w' w2) v (dE f)) (fun O w' r=>Ey (S:=S) (oS hS r) (hf.cJ (kS hw r hS)) Oc) ?_;rintro O R5 v6 RX r he Oh hn;replace hw:=hw.tr Oh;have SH:∀g,(Value.slice ax f.cols cx).ownBlock=some g->g<R5.heap.size:=fun g e=>Rel.old r (cG w) g (hX.new g e);replace hX:=hX.cK (iv':=(R5.heap.size,RX.heap.size)::QT) r (cG w) he fun x hx=>aC _ hx;replace hK:=gl.cK (iv':=(R5.heap.size,RX.heap.size)::QT) hK r (cG w) he fun x hx=>aC _ hx;have hL:=dB.cL (S':=Cv S w.heap.size ((R5.heap.size,RX.heap.size)::QT)) hn fun g hg=>hg.elim .inl fun h=>.inr ⟨by have:=r.cI;omega,_,_,aI,h.1,h.2⟩;clear r he Oh SH hn;generalize (R5.heap.size,RX.heap.size)::QT=Qr at*
 obtain⟨al,cl,rfl,RT,Rh⟩:=dL.shape hL;rw[Ok]
 refine⟨Nat×List Value×List (List Value)×World×Iv,fun z=>⟨[(7,sV ax f.cols cx),(9,.o (.v (.slice ak (dC (cU f) f.cols).length ck))),(10,sV al f.cols cl),(11,pP 2 0),(43,.o (.v (.slice ak (dC (cU f) f.cols).length ck))),(44,.o (.v (.int .i64 (dC (cU f) f.cols).length))),(12,.o (.w 4 z.2.2.1.length)),(45,iN z.1)],[(2,.box T.eG [.w 3 z.2.1.length,.v (.int .i64 (dC (cU f) f.cols).length)]),(3,.vec T.fz 1 z.2.1),(4,.vec T.Rat 4 z.2.2.1.flatten)],5,z.2.2.2.2,z.2.2.2.1⟩,fun z=>(dC (cU f) f.cols).length-z.1,
  fun z=>z.1<=(dC (cU f) f.cols).length∧dg w.heap.size w z.2.2.2.1∧eO z.2.2.2.1 FF w.heap.size z.2.2.2.2 (.slice ax f.cols cx) f.cols x0∧cW z.2.2.2.1 (Bs FF w.heap.size z.2.2.2.2 (.slice ax f.cols cx)) (.slice ak (dC (cU f) f.cols).length ck) (dC (cU f) f.cols)∧dB z.2.2.2.1 (Cv S w.heap.size z.2.2.2.2) (.slice al f.cols cl) (dE f)∧dS z.2.2.2.1 (Bs FF w.heap.size z.2.2.2.2 (.slice ax f.cols cx)) z.2.1 ((fD (dC (cU f) f.cols) (dE f)).take z.1)∧dR z.2.2.2.1 (Bs FF w.heap.size z.2.2.2.2 (.slice ax f.cols cx)) z.2.2.1 ((iL (dC (cU f) f.cols) (dE f) x0).take z.1),?_,?_⟩
 ·intro O w' r3;exact⟨(0,[],[],w',_),⟨aO _,hw.tr r3.cS,hX.rel r3 (cG w),gl.rel hK r3 (cG w),by have:=dB.rel hL r3 hS;rw[Ok]at this;exact this,by simp[dS],dR.nil⟩,Sub.Du 2 0 T.fz 1 rfl rfl (by simp[jw,SV.sc,At.sc,fQ]) r3 fun ρ1 r1=>Sub.nil 12 T.Rat 4 rfl (by simp[jw,SV.sc,At.sc,fQ]) r1 fun ρ2 r2=>Sub.gn [] r2⟩
 clear hw hX hK hL;rintro⟨i,rv,rc,w7,iv⟩ ⟨hi,hw,hX,hK,hL,hR,hG⟩;dsimp only at hi hw hX hK hL hR hG ⊢;have Ot:rv.length=i:=by rw[hR.1,aZ,fD,aL];omega
 have hgl:rc.length=i:=by rw[hG.len,aZ,iL,aL];omega
 have Wm:=eD hG.four;refine dG.mk ?_ ?_<;>intro OW
 ·have OW:i<(dC (cU f) f.cols).length:=by have:=aH OW;omega
  obtain⟨s,hs⟩:∃s,(dC (cU f) f.cols)[i]? =some s:=⟨_,aB OW⟩
  have So:s.length=f.cols:=hKl s (aD hs);have Vd:=hKr s (aD hs);obtain⟨adm1,um,ham1,QE,km1,kn1⟩:=dA.load hK hs;obtain⟨as1,cs1,rfl,-,-⟩:=dL.shape QE;obtain⟨bent,Tw⟩:∃b,fm s (dE f)=b:=⟨_,rfl⟩
  have Uj:bent.length=f.cols:=by rw[<-Tw,k9,So]
  have YJ:∀q∈bent,rl q<=20:=fun q hq=>by
   rw[<-Tw]at hq;obtain⟨t,ht⟩:=aS hq;have VQ:t<s.length:=by have:=(aE.1 ht).1;rw[k9]at this;exact this
   have h1:=om (a:=s) (b:=dE f) VQ;rw[getD_some ht]at h1;have h2:=fb (s.getD t 0) ((dE f).getD t 0);have h3:=Vd (s.getD t 0) (by rw[getD_some (aB VQ)];exact a9 _);have h4:=Ph.fxD (t:=t) (by omega);rw[h1];omega
  refine⟨adm1,ham1,by omega,.slice as1 s.length cs1,fun O w' r=>?_,?_⟩
  ·rw[aF,cM (w:=w7) (w2:=w') (by rw[dD];exact Rel.same r (cG w) km1.1)];exact kn1
  refine cH (cP (Φ:=fun _ w' v w2=>cR w2 (Nf w' w2) v bent) (fun O w' r=>(Tw▸Lf (S:=Cv S w.heap.size iv) (Rel.old r hS) (dB.cL (cR.l (fI.cv (fI.rel QE r (cG w))) fun q hq=>by have:=Vd q hq;omega) fun g hg=>D3 hg) (dB.rel hL r hS) (by rw[So,Ok];exact Nat.le_refl _) (by omega)).mono fun _ _ ⟨v2,e1,e2,e3⟩=>⟨v2,e1,e2,cR.cL e3.c fun g hg=>hg.elim (fun h=>h.elim) fun⟨_,lo,hi,h2,h3,h4⟩=>by
   simp at h2;obtain⟨rfl,rfl⟩:=h2
   exact .inr ⟨h3,h4⟩⟩) ?_)
  rintro O S9 v8 Se r he Oh hn;replace hw:=hw.tr Oh;have SH:∀g,(Value.slice ax f.cols cx).ownBlock=some g->g<S9.heap.size:=fun g e=>Rel.old r (cG w) g (hX.new g e);replace hX:=hX.cK (iv':=(S9.heap.size,Se.heap.size)::iv) r (cG w) he fun x hx=>aC _ hx;replace hK:=gl.cK (iv':=(S9.heap.size,Se.heap.size)::iv) hK r (cG w) he fun x hx=>aC _ hx;replace hL:=dB.cK (iv':=(S9.heap.size,Se.heap.size)::iv) hL r hS he fun x hx=>aC _ hx;replace hR:=oZ.cK (iv':=(S9.heap.size,Se.heap.size)::iv) hR r (cG w) he fun x hx=>aC _ hx;replace hG:=ke.cK (iv':=(S9.heap.size,Se.heap.size)::iv) hG r (cG w) he fun x hx=>aC _ hx;have hE:=fI.fresh (S:=FF) (v:=(.slice ax f.cols cx)) hn r SH;clear r he Oh SH hn;generalize (S9.heap.size,Se.heap.size)::iv=RF at*
  clear QE;obtain⟨ae,ce,rfl,-,-⟩:=dL.shape hE;rw[Uj]
  refine⟨Nat×List (List Value)×World×Iv,fun z=>⟨[(7,sV ax f.cols cx),(9,.o (.v (.slice ak (dC (cU f) f.cols).length ck))),(10,sV al f.cols cl),(11,pP 2 0),(43,.o (.v (.slice ak (dC (cU f) f.cols).length ck))),(44,.o (.v (.int .i64 (dC (cU f) f.cols).length))),(12,.o (.w 4 rc.length)),(45,iN i),(15,sV ae f.cols ce),(52,.o (.v (.slice ak (dC (cU f) f.cols).length ck))),(53,.o (.v (.int .i64 (dC (cU f) f.cols).length))),(16,.o (.w 5 z.2.1.length)),(54,iN z.1)],[(5,.vec T.Rat 4 z.2.1.flatten),(2,.box T.eG [.w 3 rv.length,.v (.int .i64 (dC (cU f) f.cols).length)]),(3,.vec T.fz 1 rv),(4,.vec T.Rat 4 rc.flatten)],6,z.2.2.2,z.2.2.1⟩,fun z=>(dC (cU f) f.cols).length-z.1,
   fun z=>z.1<=(dC (cU f) f.cols).length∧dg w.heap.size w z.2.2.1∧(eO z.2.2.1 FF w.heap.size z.2.2.2 (.slice ax f.cols cx) f.cols x0∧cW z.2.2.1 (Bs FF w.heap.size z.2.2.2 (.slice ax f.cols cx)) (.slice ak (dC (cU f) f.cols).length ck) (dC (cU f) f.cols)∧dB z.2.2.1 (Cv S w.heap.size z.2.2.2) (.slice al f.cols cl) (dE f)∧dS z.2.2.1 (Bs FF w.heap.size z.2.2.2 (.slice ax f.cols cx)) rv ((fD (dC (cU f) f.cols) (dE f)).take i)∧dR z.2.2.1 (Bs FF w.heap.size z.2.2.2 (.slice ax f.cols cx)) rc ((iL (dC (cU f) f.cols) (dE f) x0).take i)∧cR z.2.2.1 (Bs FF w.heap.size z.2.2.2 (.slice ax f.cols cx)) (.slice ae f.cols ce) bent)∧dR z.2.2.1 (Bs FF w.heap.size z.2.2.2 (.slice ax f.cols cx)) z.2.1 (((dC (cU f) f.cols).map fun r=>eh bent r f.cols).take z.1),?_,?_⟩
  ·intro O w' r3;exact⟨(0,[],w',_),⟨aO _,hw.tr r3.cS,⟨hX.rel r3 (cG w),gl.rel hK r3 (cG w),dB.rel hL r3 hS,oZ.rel hR r3 (cG w),ke.rel hG r3 (cG w),by have:=fI.rel hE r3 (cG w);rw[Uj]at this;exact this⟩,dR.nil⟩,Sub.nil 16 T.Rat 4 rfl (by simp[jw,SV.sc,At.sc,fQ]) r3 fun ρ2 r2=>Sub.gn [] r2⟩
  clear hw hX hK hL hR hG hE;rintro⟨j,css,w8,iv⟩ ⟨hj,hw,⟨hX,hK,hL,hR,hG,hE⟩,hD⟩;dsimp only at hj hw hX hK hL hR hG hE hD ⊢;have SD:css.length=j:=by rw[hD.len,aZ,aL];omega
  have hdf:=eD hD.four;refine dG.mk ?_ ?_<;>intro PQ
  ·have PQ:j<(dC (cU f) f.cols).length:=by have:=aH PQ;omega
   obtain⟨t,ht⟩:∃s,(dC (cU f) f.cols)[j]? =some s:=⟨_,aB PQ⟩
   have VQ:t.length=f.cols:=hKl t (aD ht);have htr:=hKr t (aD ht);obtain⟨adm2,um2,ham2,QE,km2,kn2⟩:=dA.load hK ht;obtain⟨as2,cs2,rfl,-,-⟩:=dL.shape QE;refine⟨adm2,ham2,by omega,.slice as2 t.length cs2,fun O w' r=>?_,?_⟩
   ·rw[aF,cM (w:=w8) (w2:=w') (by rw[dD];exact Rel.same r (cG w) km2.1)];exact kn2
   refine cH (cP (Φ:=fun _ w' v w2=>cT w2 (Nf w' w2) v (eh bent t f.cols)) (fun O w' r=>Uj▸aAb (S:=Cf w iv) (h:=21) (Rel.old r (cG w)) (cR.l (by have:=fI.cv (fI.rel hE r (cG w));rw[<-Uj]at this;exact this) fun q hq=>by have:=YJ q hq;omega) (cR.l (fI.cv (fI.rel QE r (cG w))) fun q hq=>by have:=htr q hq;omega) (by omega) (fun q hq=>by have:=YJ q hq;omega) (fun q hq=>by have:=htr q hq;omega) (by decide) (by omega)) ?_);rintro O RP v9 RY r he Oh hn;replace hw:=hw.tr Oh;have SH:∀g,(Value.slice ax f.cols cx).ownBlock=some g->g<RP.heap.size:=fun g e=>Rel.old r (cG w) g (hX.new g e);replace hX:=hX.cK (iv':=(RP.heap.size,RY.heap.size)::iv) r (cG w) he fun x hx=>aC _ hx;replace hK:=gl.cK (iv':=(RP.heap.size,RY.heap.size)::iv) hK r (cG w) he fun x hx=>aC _ hx;replace hL:=dB.cK (iv':=(RP.heap.size,RY.heap.size)::iv) hL r hS he fun x hx=>aC _ hx;replace hR:=oZ.cK (iv':=(RP.heap.size,RY.heap.size)::iv) hR r (cG w) he fun x hx=>aC _ hx;replace hG:=ke.cK (iv':=(RP.heap.size,RY.heap.size)::iv) hG r (cG w) he fun x hx=>aC _ hx;replace hE:=fI.cK (iv':=(RP.heap.size,RY.heap.size)::iv) hE r (cG w) he fun x hx=>aC _ hx;replace hD:=ke.cK (iv':=(RP.heap.size,RY.heap.size)::iv) hD r (cG w) he fun x hx=>aC _ hx;have hd:=nK.fresh (S:=FF) (v:=(.slice ax f.cols cx)) hn r SH;clear r he Oh SH hn;generalize (RP.heap.size,RY.heap.size)::iv=RD at*
   obtain⟨C0,C1,C2,C3,C4,C5,C6,C7,rfl⟩:=hd.shape;clear QE;have XF:=hD.push (cs:=[.bool C0,.slice C1 C2 C3,.bool C4,.slice C5 C6 C7]) (q:=eh bent t f.cols) ⟨_,_,_,_,_,_,_,_,rfl,hd⟩ rfl;rw[show (((dC (cU f) f.cols).map fun r=>eh bent r f.cols).take j)++[eh bent t f.cols]=((dC (cU f) f.cols).map fun r=>eh bent r f.cols).take (j+1) by rw[List.take_add_one,aN,ht];rfl]at XF;have PR:css.flatten++([.bool C0,.slice C1 C2 C3,.bool C4,.slice C5 C6 C7]:List Value)=(css++([[.bool C0,.slice C1 C2 C3,.bool C4,.slice C5 C6 C7]]:List (List Value))).flatten:=by simp
   refine .inl ?_;refine⟨by omega,by omega,by unfold maxLen;omega,((j+1:Nat):Int),wo,?_⟩;intro ρ3 w6 r3;exact⟨(j+1,css++[[.bool C0,.slice C1 C2 C3,.bool C4,.slice C5 C6 C7]],w6,_),⟨PQ,hw.tr r3.cS,⟨hX.rel r3 (cG w),gl.rel hK r3 (cG w),dB.rel hL r3 hS,oZ.rel hR r3 (cG w),ke.rel hG r3 (cG w),fI.rel hE r3 (cG w)⟩,ke.rel XF r3 (cG w)⟩,Sub.gn [(5,7)] r3 ⟨by dsimp only;rw[<-PR];rfl,rfl,rfl,rfl,trivial⟩ ⟨rfl,rfl,rfl,rfl,rfl,rfl,rfl,rfl,rfl,rfl,rfl,by dsimp only;rw[List.length_append,List.length_singleton];rfl,rfl,trivial⟩,by dsimp only;omega⟩
  have PQ:j=(dC (cU f) f.cols).length:=by have:=aG PQ;omega
  rw[PQ,List.take_of_length_le (by rw[aL];exact Nat.le_refl _)]at hD;have OX:(fD (dC (cU f) f.cols) (dE f)).take i++[((dC (cU f) f.cols).map fun r=>eh bent r f.cols)]=(fD (dC (cU f) f.cols) (dE f)).take (i+1):=by
   rw[List.take_add_one,fD,aN,hs,<-Tw,<-So];rfl
  have hrgt:(iL (dC (cU f) f.cols) (dE f) x0).take i++[-(eh bent x0 f.cols)]=(iL (dC (cU f) f.cols) (dE f) x0).take (i+1):=by
   rw[List.take_add_one,iL,aN,hs,<-Tw,<-So];rfl
  refine me hτ (id3:=6) (id2:=5) (tH:=[(2,.box T.eG [.w 3 rv.length,.v (.int .i64 (dC (cU f) f.cols).length)]),(3,.vec T.fz 1 rv),(4,.vec T.Rat 4 rc.flatten)]) rfl rfl rfl rfl (by simp) ⟨rfl,rfl,rfl,trivial⟩ rfl rfl (fun O w' r r2 TH=>?_);have QW:∀g,(Value.slice ax f.cols cx).ownBlock=some g->∀id b,dM [(6,.box T.fz [.w 5 css.length]),(5,.vec T.Rat 4 css.flatten),(2,.box T.eG [.w 3 rv.length,.v (.int .i64 (dC (cU f) f.cols).length)]),(3,.vec T.fz 1 rv),(4,.vec T.Rat 4 rc.flatten)] id=some b->(O id).nil=false->(O id).g≠g:=fun g e id b h1 h2=>Rel.not r (cG w) (hX.new g e) id b h1 h2;have Rt:=r.low 6 _ rfl (r.fits (id:=6) rfl).1;have hB3:Bs FF w.heap.size (((O 6).g,(O 6).g+1)::jy (O 5) iv) (.slice ax f.cols cx) (O 6).g:=⟨.inr ⟨Rt.1,_,_,aI,Nat.le_refl _,bU _⟩,fun e=>QW _ e 6 _ rfl (r.fits (id:=6) rfl).1 rfl⟩
  have QG:∀p,p∈iv->p∈((O 6).g,(O 6).g+1)::jy (O 5) iv:=fun p hp=>aC _ (kp p hp);have YK:=dR.list ((ke.rel hD r (cG w)).cL fun g hg=>Bs.mono QG hg) (r.kc (T:=Bs FF w.heap.size (((O 6).g,(O 6).g+1)::jy (O 5) iv) (.slice ax f.cols cx)) (id:=5) (sz:=4) (m:=css.length) rfl hdf (by unfold maxLen;omega) (by decide) hD.one fun hn=>⟨.inr ⟨(r.low 5 _ rfl hn).1,_,_,aC _ (HU hn),Nat.le_refl _,bU _⟩,fun e=>QW _ e 5 _ rfl hn rfl⟩);have PB:((At.w 5 css.length).den O).oneCell'=true:=At.Lk;have PI:=hw.tr r.cS;replace hX:eO w' FF w.heap.size (((O 6).g,(O 6).g+1)::jy (O 5) iv) (.slice ax f.cols cx) f.cols x0:=by
   have h1:=hX.rel r (cG w);exact⟨h1.row.cL fun g hg=>⟨hg.1.mono QG,hg.2⟩,fun g hg=>(h1.new g hg).mono QG⟩
  replace hK:=cW.cL (gl.rel hK r (cG w)) fun g hg=>Bs.mono QG hg;replace hL:=dB.cL (dB.rel hL r hS) fun g hg=>hg.mono QG;replace hR:=dS.cL (oZ.rel hR r (cG w)) fun g hg=>Bs.mono QG hg;replace hG:=dR.cL (ke.rel hG r (cG w)) fun g hg=>Bs.mono QG hg;replace hE:=cR.cL (fI.rel hE r (cG w)) fun g hg=>Bs.mono QG hg;clear r2 Rt hD QW hw;generalize (At.w 5 css.length).den O=ur at*
  generalize (O 6).g=gy at*
  generalize (gy,gy+1)::jy (O 5) iv=ivg at*
  clear r;refine⟨[ur],rfl,by simpa using PB,fun ρ2 w2 r2 _=>⟨_,rfl,fun j u hu=>?_⟩,?_⟩
  ·have h5:=Rel.same r2 (dN _) hB3.1;rw[dP,cell_of (h5.trans TH)];rcases j with _|j
   ·exact hu
   ·cases hu
  refine⟨by simp,by omega,by unfold maxLen;omega,?_⟩;have QJ:=hR.push PB YK;rw[OX]at QJ;clear YK hR TH hB3;rename_i wg _;have hw:=PI;clear PI;refine cH (cP (Φ:=fun _ w' v w2=>cT w2 (Nf w' w2) v (eh bent x0 f.cols)) (fun O w' r=>Uj▸aAb (S:=Cf w ivg) (h:=30) (Rel.old r (cG w)) (cR.l (by have:=fI.cv (fI.rel hE r (cG w));rw[<-Uj]at this;exact this) fun q hq=>by have:=YJ q hq;omega) (cR.l (by have:=(hX.rel r (cG w)).c;rw[<-Uj]at this;exact this) fun q hq=>by have:=Xa q hq;omega) (by omega) (fun q hq=>by have:=YJ q hq;omega) (fun q hq=>by have:=Xa q hq;omega) (by decide) (by omega)) ?_);rintro O QP v11 QZ r he Oh hn;replace hw:=hw.tr Oh;have SH:∀g,(Value.slice ax f.cols cx).ownBlock=some g->g<QP.heap.size:=fun g e=>Rel.old r (cG w) g (hX.new g e);replace hX:=hX.cK (iv':=(QP.heap.size,QZ.heap.size)::ivg) r (cG w) he fun x hx=>aC _ hx;replace hK:=gl.cK (iv':=(QP.heap.size,QZ.heap.size)::ivg) hK r (cG w) he fun x hx=>aC _ hx;replace hL:=dB.cK (iv':=(QP.heap.size,QZ.heap.size)::ivg) hL r hS he fun x hx=>aC _ hx;replace QJ:=oZ.cK (iv':=(QP.heap.size,QZ.heap.size)::ivg) QJ r (cG w) he fun x hx=>aC _ hx;replace hG:=ke.cK (iv':=(QP.heap.size,QZ.heap.size)::ivg) hG r (cG w) he fun x hx=>aC _ hx;replace hE:=fI.cK (iv':=(QP.heap.size,QZ.heap.size)::ivg) hE r (cG w) he fun x hx=>aC _ hx;have hd:=nK.fresh (S:=FF) (v:=(.slice ax f.cols cx)) hn r SH;clear r he Oh SH hn;generalize (QP.heap.size,QZ.heap.size)::ivg=Pw at*
  obtain⟨F0,F1,F2,F3,F4,F5,F6,F7,rfl⟩:=hd.shape;have hdr:=s4 (h:=30) (xs:=bent) (ys:=x0) (fun q hq=>by have:=YJ q hq;omega) (fun q hq=>by have:=Xa q hq;omega) (by decide) f.cols;refine cH (cP (Φ:=fun _ w' v w2=>cT w2 (Nf w' w2) v (-(eh bent x0 f.cols))) (fun O w' r=>yq (S:=Cf w Pw) (Rel.old r (cG w)) (cT.l (nK.cv (nK.rel hd r (cG w))) (by omega))) ?_);rintro O SZ v12 Sf r he Oh hn;replace hw:=hw.tr Oh;have SH:∀g,(Value.slice ax f.cols cx).ownBlock=some g->g<SZ.heap.size:=fun g e=>Rel.old r (cG w) g (hX.new g e);replace hX:=hX.cK (iv':=(SZ.heap.size,Sf.heap.size)::Pw) r (cG w) he fun x hx=>aC _ hx;replace hK:=gl.cK (iv':=(SZ.heap.size,Sf.heap.size)::Pw) hK r (cG w) he fun x hx=>aC _ hx;replace hL:=dB.cK (iv':=(SZ.heap.size,Sf.heap.size)::Pw) hL r hS he fun x hx=>aC _ hx;replace QJ:=oZ.cK (iv':=(SZ.heap.size,Sf.heap.size)::Pw) QJ r (cG w) he fun x hx=>aC _ hx;replace hG:=ke.cK (iv':=(SZ.heap.size,Sf.heap.size)::Pw) hG r (cG w) he fun x hx=>aC _ hx;replace hE:=fI.cK (iv':=(SZ.heap.size,Sf.heap.size)::Pw) hE r (cG w) he fun x hx=>aC _ hx;clear hd;have PF:=nK.fresh (S:=FF) (v:=(.slice ax f.cols cx)) hn r SH;clear r he Oh SH hn;generalize (SZ.heap.size,Sf.heap.size)::Pw=WB at*
  obtain⟨J0,J1,J2,J3,J4,J5,J6,J7,rfl⟩:=PF.shape;have RE:=hG.push (cs:=[.bool J0,.slice J1 J2 J3,.bool J4,.slice J5 J6 J7]) (q:= -(eh bent x0 f.cols)) ⟨_,_,_,_,_,_,_,_,rfl,PF⟩ rfl;rw[hrgt]at RE;have PR:rc.flatten++([.bool J0,.slice J1 J2 J3,.bool J4,.slice J5 J6 J7]:List Value)=(rc++([[.bool J0,.slice J1 J2 J3,.bool J4,.slice J5 J6 J7]]:List (List Value))).flatten:=by simp
  refine .inl ?_;refine⟨by omega,by omega,by unfold maxLen;omega,((i+1:Nat):Int),wo,?_⟩;intro ρ3 w6 r3;exact⟨(i+1,rv++[ur],rc++[[.bool J0,.slice J1 J2 J3,.bool J4,.slice J5 J6 J7]],w6,_),⟨OW,hw.tr r3.cS,hX.rel r3 (cG w),gl.rel hK r3 (cG w),dB.rel hL r3 hS,oZ.rel QJ r3 (cG w),ke.rel RE r3 (cG w)⟩,Sub.gn [(3,7),(4,9)] r3 ⟨by dsimp only;rw[List.length_append,List.length_singleton];rfl,rfl,by dsimp only;rw[<-PR];rfl,trivial⟩ ⟨rfl,rfl,rfl,rfl,rfl,rfl,by dsimp only;rw[List.length_append,List.length_singleton];rfl,rfl,trivial⟩,by dsimp only;omega⟩
 have OW:i=(dC (cU f) f.cols).length:=by have:=aG OW;omega
 rw[OW,List.take_of_length_le (by rw[fD,aL];exact Nat.le_refl _)]at hR;rw[OW,List.take_of_length_le (by rw[iL,aL];exact Nat.le_refl _)]at hG;have RL:rv.length=(fD (dC (cU f) f.cols) (dE f)).length:=hR.1
 refine cH (cP (Φ:=fun _ w' v w2=>∃vc,v= .tuple #[vc,.bool true]∧eO w2 (Bs FF w.heap.size iv (.slice ax f.cols cx)) w'.heap.size [(w'.heap.size,w2.heap.size)] vc (dC (cU f) f.cols).length c) (fun O w' r=>(Et (C:=(fun g=>g<w'.heap.size)) (D:=(fun g=>g<w'.heap.size)) (S:=Bs FF w.heap.size iv (.slice ax f.cols cx)) (M:=fD (dC (cU f) f.cols) (dE f)) (b:=iL (dC (cU f) f.cols) (dE f) x0) (cols:=(dC (cU f) f.cols).length) (h:=1930) (fun g hg=>hg) (fun g hg=>hg) (fun g hg=>Rel.old r (cG w) g hg.1) ⟨rv,by rw[<-RL];exact r.kc (T:=(fun g=>g<w'.heap.size)) (id:=3) (sz:=1) (m:=rv.length) rfl (by simp) (by unfold maxLen;omega) (by decide) hR.2.1 fun hn=>(r.low 3 _ rfl hn).2,hR.1,fun a u x h1 h2=>fI.rel (hR.2.2 a u x h1 h2) r (cG w)⟩ ⟨rc,by rw[<-hG.len];exact r.kc (T:=(fun g=>g<w'.heap.size)) (id:=4) (sz:=4) (m:=rc.length) rfl Wm (by unfold maxLen;omega) (by decide) hG.one fun hn=>(r.low 4 _ rfl hn).2,hG.len,fun a cs x h1 h2=>(ke.rel hG r (cG w)).at_ a cs x h1 h2⟩ (by rw[iL,fD,aL,aL]) hSl (by omega) (by rw[fD,aL];omega) hredB (by decide)).mono fun _ _ ⟨v2,e1,e2,e3⟩=>⟨v2,e1,e2,by
  rcases e3 with⟨h1,_⟩|⟨x2,vx,h1,h2,h3⟩
  ·rw[RW]at h1;cases h1
  ·rw[RW]at h1;injection h1 with h1;subst h1;exact⟨vx,h2,h3⟩⟩) ?_)
 rintro O WC v13 XI r he Oh ⟨vc,rfl,hn⟩;replace hw:=hw.tr Oh;have SH:∀g,(Value.slice ax f.cols cx).ownBlock=some g->g<WC.heap.size:=fun g e=>Rel.old r (cG w) g (hX.new g e);replace hX:=hX.cK (iv':=(WC.heap.size,XI.heap.size)::iv) r (cG w) he fun x hx=>aC _ hx;replace hK:=gl.cK (iv':=(WC.heap.size,XI.heap.size)::iv) hK r (cG w) he fun x hx=>aC _ hx;have hC:=cR.cL hn.c fun g hg=>Bs.solved r SH (fun _ h=>h) hg;clear r he Oh SH;generalize (WC.heap.size,XI.heap.size)::iv=UX at*
 clear hn hR hG hL;obtain⟨ac,cc,rfl,-,-⟩:=dL.shape hC;rw[QB]
 refine⟨Nat×World×Iv,fun z=>⟨[(7,sV ax f.cols cx),(19,.o (.v (.slice ac (dC (cU f) f.cols).length cc))),(87,.o (.v (.slice ak (dC (cU f) f.cols).length ck))),(88,.o (.v (.int .i64 (dC (cU f) f.cols).length))),(89,iN z.1)],[],0,z.2.2,z.2.1⟩,fun z=>(dC (cU f) f.cols).length-z.1,
  fun z=>z.1<=(dC (cU f) f.cols).length∧dg w.heap.size w z.2.1∧eO z.2.1 FF w.heap.size z.2.2 (.slice ax f.cols cx) f.cols (mn (dC (cU f) f.cols) c x0 z.1)∧cW z.2.1 (Bs FF w.heap.size z.2.2 (.slice ax f.cols cx)) (.slice ak (dC (cU f) f.cols).length ck) (dC (cU f) f.cols)∧cR z.2.1 (Bs FF w.heap.size z.2.2 (.slice ax f.cols cx)) (.slice ac (dC (cU f) f.cols).length cc) c,?_,?_⟩
 ·intro O w' r3;exact⟨(0,w',_),⟨aO _,hw.tr r3.cS,hX.rel r3 (cG w),gl.rel hK r3 (cG w),by have:=fI.rel hC r3 (cG w);rw[QB]at this;exact this⟩,Sub.gn [] r3⟩
 clear hw hX hK hC;rintro⟨i,w13,iv⟩ ⟨hi,hw,hX,hK,hC⟩;dsimp only at hi hw hX hK hC ⊢;refine dG.mk ?_ ?_<;>intro OW
 ·have OW:i<(dC (cU f) f.cols).length:=by have:=aH OW;omega
  obtain⟨s,hs⟩:∃s,(dC (cU f) f.cols)[i]? =some s:=⟨_,aB OW⟩
  have So:s.length=f.cols:=hKl s (aD hs);have Vd:=hKr s (aD hs);obtain⟨ci,UW⟩:∃q,c[i]? =some q:=⟨_,aB (by omega)⟩
  have hcir:=UG ci (aD UW);obtain⟨y0,QM⟩:∃y,mn (dC (cU f) f.cols) c x0 i=y:=⟨_,rfl⟩
  have hy0l:y0.length=f.cols:=by rw[<-QM,tJ,hx0l]
  have hy0r:∀q∈y0,rl q<=75000:=fun q hq=>by
   rw[<-QM]at hq;have h1:=Ij (a:=26) (b:=1927) Xa (fun r hr q hq=>by have:=hKr r hr q hq;omega) UG i q hq;have h2:i*(2*1927+5)<=18*(2*1927+5):=Nat.mul_le_mul_right _ (by omega);omega
  have hnextA:mn (dC (cU f) f.cols) c x0 (i+1)=y0.mapIdx fun k q=>q+ci*s.getD k 0:=by rw[mn,QM,getD_some UW,getD_some (d:=[]) hs]
  rw[QM]at hX;obtain⟨adm3,um,ham3,QE,km3,kn3⟩:=dA.load hK hs;obtain⟨as3,cs3,rfl,-,-⟩:=dL.shape QE;refine⟨adm3,ham3,by omega,.slice as3 s.length cs3,fun O w' r=>?_,?_⟩
  ·rw[aF,cM (w:=w13) (w2:=w') (by rw[dD];exact Rel.same r (cG w) km3.1)];exact kn3
  rw[So]
  refine⟨Nat×World×Iv,fun z=>⟨[(7,sV ax f.cols cx),(19,.o (.v (.slice ac (dC (cU f) f.cols).length cc))),(87,.o (.v (.slice ak (dC (cU f) f.cols).length ck))),(88,.o (.v (.int .i64 (dC (cU f) f.cols).length))),(89,iN i),(20,iN i),(94,sV as3 f.cols cs3),(95,iZ f.cols),(96,iN z.1)],[],0,z.2.2,z.2.1⟩,fun z=>f.cols-z.1,
   fun z=>z.1<=f.cols∧dg w.heap.size w z.2.1∧eO z.2.1 FF w.heap.size z.2.2 (.slice ax f.cols cx) f.cols ((iY z.1 (fun k q=>q+ci*s.getD k 0) y0))∧cW z.2.1 (Bs FF w.heap.size z.2.2 (.slice ax f.cols cx)) (.slice ak (dC (cU f) f.cols).length ck) (dC (cU f) f.cols)∧cR z.2.1 (Bs FF w.heap.size z.2.2 (.slice ax f.cols cx)) (.slice ac (dC (cU f) f.cols).length cc) c∧cR z.2.1 (Bs FF w.heap.size z.2.2 (.slice ax f.cols cx)) (.slice as3 f.cols cs3) s,?_,?_⟩
  ·intro O w' r3;exact⟨(0,w',_),⟨aO _,hw.tr r3.cS,by dsimp only;rw[qO];exact hX.rel r3 (cG w),gl.rel hK r3 (cG w),fI.rel hC r3 (cG w),by have:=fI.rel QE r3 (cG w);rw[So]at this;exact this⟩,Sub.gn [] r3⟩
  clear hw hX hK hC QE;rintro⟨k,w14,iv⟩ ⟨hk,hw,hX,hK,hC,QE⟩;dsimp only at hk hw hX hK hC QE ⊢;refine dG.mk ?_ ?_<;>intro OY
  ·have OY:k<f.cols:=by have:=aH OY;omega
   obtain⟨gx,rfl⟩:=hX.at (by omega);obtain⟨q,hq⟩:∃q,s[k]? =some q:=⟨_,aB (by omega)⟩
   obtain⟨y,hy⟩:∃q,y0[k]? =some q:=⟨_,aB (by omega)⟩
   have hyu:=xa (f:=fun k q=>q+ci*s.getD k 0) hy;have hqr:=Vd q (aD hq);have hyr:=hy0r y (aD hy);obtain⟨adq,csq,UY,hFq,_,hlq⟩:=dL.load QE hq;obtain⟨q0,q1,q2,q3,q4,q5,q6,q7,rfl,hFq⟩:=hFq;obtain⟨ady,csy,Ux,Rb,_,Qu⟩:=dL.load hX.c hyu;obtain⟨y0',y1,y2,y3,y4,y5,y6,y7,rfl,Rb⟩:=Rb;obtain⟨adc,csc,YG,hFc,_,Tb⟩:=dL.load hC UW;obtain⟨c0,c1,c2,c3,c4,c5,c6,c7,rfl,hFc⟩:=hFc;refine⟨adq,UY,by omega,[.bool q0,.slice q1 q2 q3,.bool q4,.slice q5 q6 q7],rfl,fun O w' r j u hu=>?_,?_⟩
   ·obtain⟨k1,k2⟩:=hlq j u hu;rw[aF,cM (w:=w14) (w2:=w') (by rw[dD,dD];exact Rel.same r (cG w) k1.1)];exact k2
   refine cO hτ dZ [.x 0,.x 1,.x 2,.x 3,.x 4,.x 5,.x 6,.x 7,.x 8,.x 9,.x 10,.x 11,.x 12,.x 13,.x 14] (by kernel_rfl) (by kernel_rfl) ?_;refine⟨ady,Ux,by omega,[.bool y0',.slice y1 y2 y3,.bool y4,.slice y5 y6 y7],rfl,fun O w' r j u hu=>?_,?_⟩
   ·obtain⟨k1,k2⟩:=Qu j u hu;rw[aF,cM (w:=w14) (w2:=w') (by rw[dD,dD];exact Rel.same r (cG w) k1)];exact k2
   refine⟨adc,YG,by omega,[.bool c0,.slice c1 c2 c3,.bool c4,.slice c5 c6 c7],rfl,fun O w' r j u hu=>?_,?_⟩
   ·obtain⟨k1,k2⟩:=Tb j u hu;rw[aF,cM (w:=w14) (w2:=w') (by rw[dD,dD];exact Rel.same r (cG w) k1.1)];exact k2
   refine cP (Φ:=fun _ w' v w2=>cT w2 (Nf w' w2) v (ci*q)) (fun O w' r=>DC (S:=Cf w iv) (Rel.old r (cG w)) ((cT.l (nK.cv (nK.rel hFc r (cG w))) (by omega)).v) ((cT.l (nK.cv (nK.rel hFq r (cG w))) (by omega)).v)) ?_;rintro O Uk v15 VR r he Oh hn;replace hw:=hw.tr Oh;have SH:∀g,(Value.slice (some ⟨gx,0,none⟩) f.cols cx).ownBlock=some g->g<Uk.heap.size:=fun g e=>Rel.old r (cG w) g (hX.new g e);replace hX:=hX.cK (iv':=(Uk.heap.size,VR.heap.size)::iv) r (cG w) he fun x hx=>aC _ hx;replace hK:=gl.cK (iv':=(Uk.heap.size,VR.heap.size)::iv) hK r (cG w) he fun x hx=>aC _ hx;replace hC:=fI.cK (iv':=(Uk.heap.size,VR.heap.size)::iv) hC r (cG w) he fun x hx=>aC _ hx;replace QE:=fI.cK (iv':=(Uk.heap.size,VR.heap.size)::iv) QE r (cG w) he fun x hx=>aC _ hx;replace Rb:=cT.cK (iv':=(Uk.heap.size,VR.heap.size)::iv) Rb r (cG w) he fun x hx=>aC _ hx;have hm:=nK.fresh (S:=FF) (v:=(.slice (some ⟨gx,0,none⟩) f.cols cx)) hn r SH;clear r he Oh SH hn;generalize (Uk.heap.size,VR.heap.size)::iv=VS at*
   obtain⟨K0,K1,K2,K3,K4,K5,K6,K7,rfl⟩:=hm.shape;refine cP (Φ:=fun _ w' v w2=>cT w2 (Nf w' w2) v (y+ci*q)) (fun O w' r=>G9 (S:=Cf w VS) (Rel.old r (cG w)) ((cT.l (cT.rel Rb r (cG w)) (by omega)).v) ((cT.l (nK.cv (nK.rel hm r (cG w))) (by have:=fb ci q;omega)).v)) ?_;rintro O VT v16 WX r he Oh hn;replace hw:=hw.tr Oh;have SH:∀g,(Value.slice (some ⟨gx,0,none⟩) f.cols cx).ownBlock=some g->g<VT.heap.size:=fun g e=>Rel.old r (cG w) g (hX.new g e);replace hX:=hX.cK (iv':=(VT.heap.size,WX.heap.size)::VS) r (cG w) he fun x hx=>aC _ hx;replace hK:=gl.cK (iv':=(VT.heap.size,WX.heap.size)::VS) hK r (cG w) he fun x hx=>aC _ hx;replace hC:=fI.cK (iv':=(VT.heap.size,WX.heap.size)::VS) hC r (cG w) he fun x hx=>aC _ hx;replace QE:=fI.cK (iv':=(VT.heap.size,WX.heap.size)::VS) QE r (cG w) he fun x hx=>aC _ hx;clear Rb;clear hm;have hd:=nK.fresh (S:=FF) (v:=(.slice (some ⟨gx,0,none⟩) f.cols cx)) hn r SH;clear r he Oh SH hn;generalize (VT.heap.size,WX.heap.size)::VS=iv16 at*
   obtain⟨N0,N1,N2,N3,N4,N5,N6,N7,rfl⟩:=hd.shape;refine⟨⟨gx,0,none⟩,rfl,by omega,?_⟩;intro O w' r;obtain⟨g,hg,h1,h2,h3,h4,h5⟩:=(hX.rel r (cG w)).store (j:=k) OY (hd.cJ (Bs.same r (cG w))) r (cG w);injection hg with hg;injection hg with hg;subst hg;refine⟨h1,h2,h3,fun w5 Qd=>?_⟩;obtain⟨k1,k2,k3⟩:=h5 w5 Qd;have PI:dg w.heap.size w w5:=(hw.tr r.cS).tr (dg.grown k2 (fun g e=>by injection e with e;subst e;exact h4.elim (fun h=>h.elim) fun h=>h.1) r.cI);have RM:=gl.kept hK r (cG w) k2;have Sr:=fI.kept hC r (cG w) k2;have QJ:=fI.kept QE r (cG w) k2;have Oq:(iY k (fun k q=>q+ci*s.getD k 0) y0).set k (y+ci*q)=(iY (k+1) (fun k q=>q+ci*s.getD k 0) y0):=by rw[<-nE hy,getD_some hq]
   rw[Oq]at k1;clear hX hK hC QE hw h1 h2 h3 h4 h5 Qd k2 k3 r hd;refine⟨((k+1:Nat):Int),wo,?_⟩;intro ρ3 w6 r3;exact⟨(k+1,w6,_),⟨OY,PI.tr r3.cS,k1.rel r3 (cG w),gl.rel RM r3 (cG w),fI.rel Sr r3 (cG w),fI.rel QJ r3 (cG w)⟩,Sub.gn [] r3,by dsimp only;omega⟩
  have OY:k=f.cols:=by have:=aG OY;omega
  rw[OY,<-hy0l,tP,<-hnextA,hy0l]at hX;refine⟨((i+1:Nat):Int),wo,?_⟩;intro ρ3 w6 r3;exact⟨(i+1,w6,_),⟨OW,hw.tr r3.cS,hX.rel r3 (cG w),gl.rel hK r3 (cG w),fI.rel hC r3 (cG w)⟩,Sub.gn [] r3,by dsimp only;omega⟩
 have OW:i=(dC (cU f) f.cols).length:=by have:=aG OW;omega
 rw[OW]at hX;exact rtn hw fun ρe we re=>.inr ⟨_,_,hfrc,rfl,cR.out hX.c re (cG w)⟩
end Go.Ex
namespace Go.Ex
open Go Go.Sx Go.Proofs
variable{S:Nat->Prop}{f:eY}
theorem Ik{i:Nat}{b:Int×Int×Rat}(h:f.bars[i]? =some b):(dE f).getD i 0=b.2.2:=by
 have hl:=(aE.1 h).1;rw[List.getD,dE,aJ (by rw[aL];exact hl),aN,h];rfl
theorem Il{i:Nat}{b:Int×Int×Rat}(h:f.cV[i]? =some b):(dE f).getD (f.bars.length+i) 0=b.2.2:=by
 rw[List.getD,dE,aM (by rw[aL];omega),aL,Nat.add_sub_cancel_left,aN,h];rfl
theorem Ll{w:World}{vn vb vs:Value}(hS:Old S w)(hf:dX w S vn vb vs f)(PN:f.bars.length<=60∧f.cV.length<=60){i:Nat}(hi:i<f.cols):
  eA PG N.CP #[.agg #[vn,vb,vs],.int .i64 i] w (eL w fun v' w2=>eS w2 S v' ((dE f).getD i 0)):=by
 have hw:=bR w;have XP:=hf;obtain⟨an,cn,ab,cb,aq,cq,rfl,rfl,rfl,RN,RJ,SF⟩:=hf.shape;have Pt:f.cols=f.bars.length+f.cV.length:=rfl;refine Db (by simp) ?_;refine dG.mk ?_ ?_<;>intro OW
 ·have hk:i<f.bars.length:=by have:=aH OW;omega
  obtain⟨b,hb⟩:∃b,f.bars[i]? =some b:=⟨_,aB hk⟩
  obtain⟨adb,cs,QA,hF,-,PA⟩:=XP.bars.load (by decide) hb;obtain⟨g0,g1,g2,g3,g4,g5,g6,g7,rfl,hF⟩:=hF;refine⟨adb,QA,by omega,[.bool g0,.slice g1 g2 g3,.bool g4,.slice g5 g6 g7],rfl,fun O w' r j u hu=>?_,?_⟩
  ·have WS:=(aE.1 hu).1;obtain⟨k1,k2⟩:=PA (2+j) u (by rcases j with _|_|_|_|j<;>first|exact hu|(have:j+4<4:=WS;omega));rw[cM (w:=w) (w2:=w') (by simp only[dD];exact(hw.tr r.cS).block _ (hS _ k1))];simp only[aF,Int.toNat_zero,Nat.zero_mul,mY]at k2 ⊢
   first|exact k2|(rw [<-k2];congr 2;omega)
  exact rtn hw fun ρe we re=>by rw[Ik hb];exact hF.cJ fun g hg=>(hw.tr re.cS).block g (hS g hg)
 have OW:f.bars.length<=i:=by have:=aG OW;omega
 obtain⟨k,rfl⟩:∃k,i=f.bars.length+k:=⟨i-f.bars.length,by omega⟩
 have hk:k<f.cV.length:=by omega
 refine⟨(k:Int),wo,?_⟩;obtain⟨b,hb⟩:∃b,f.cV[k]? =some b:=⟨_,aB hk⟩
 obtain⟨adb,cs,QA,hF,-,PA⟩:=XP.cV.load (by decide) hb;obtain⟨g0,g1,g2,g3,g4,g5,g6,g7,rfl,hF⟩:=hF;refine⟨adb,QA,by omega,[.bool g0,.slice g1 g2 g3,.bool g4,.slice g5 g6 g7],rfl,fun O w' r j u hu=>?_,?_⟩
 ·have WS:=(aE.1 hu).1;obtain⟨k1,k2⟩:=PA (2+j) u (by rcases j with _|_|_|_|j<;>first|exact hu|(have:j+4<4:=WS;omega));rw[cM (w:=w) (w2:=w') (by simp only[dD];exact(hw.tr r.cS).block _ (hS _ k1))];simp only[aF,Int.toNat_zero,Nat.zero_mul,mY]at k2 ⊢
  first|exact k2|(rw [<-k2];congr 2;omega)
 exact rtn hw fun ρe we re=>by rw[Il hb];exact hF.cJ fun g hg=>(hw.tr re.cS).block g (hS g hg)
theorem KY{l:List Ld}(Oc:I7 f.nodes.length l):Bl (eB (ki f l) (-1)):=fun t=>by
 rcases aP t (eB (ki f l) (-1)).length with h|h
 ·have h2:t<(ki f l).length:=by rw[eB,aL]at h;exact h
  have h3:(ki f l)[t]∈ki f l:=a9 h2;rw[getD_some (show (eB (ki f l) (-1))[t]? =some ((ki f l)[t]* -1) by rw[eB,aN,aB h2];rfl)];obtain⟨z,hz,QD⟩:=aT.1 h3;have hb:=FK Oc l.length (Nat.le_refl _) z hz;have hl:=Oc.len;rw[<-QD,show(z:Rat)* -1=((-z:Int):Rat) by rw[Rat.intCast_neg];grind];exact Ib.int (by omega)
 ·rw[jI h];exact Ib.zero _
end Go.Ex
