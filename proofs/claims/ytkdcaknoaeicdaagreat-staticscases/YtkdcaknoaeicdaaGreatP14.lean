/- Texts L47 to X193: lemmas, each with its conditions. -/
import Derived.Test.YtkdcaknoaeicdaaGreatP13
namespace Go.Ex
variable{s:Int×Int×Rat}{M:List (List Rat)}{fl x:List Rat}{n t:Nat}{u y z:Nat->Rat}{f:ew}
theorem NG{M:List (List Int)}{r c:Nat}:dF (M.map dM) r c=((ez M r c:Int):Rat):=by
 have key:∀l:List Int,(dM l).getD c 0=((l.getD c 0:Int):Rat):=fun l=>by
  rw[dM,List.getD,List.getD,aM]
  cases l[c]? <;>rfl
 unfold dF ez;rw[<-key];congr 1;rw[List.getD,List.getD,aM]
 cases M[r]? <;>rfl
theorem HY(f:ew)(r c:Nat):dF (cP f) r c=((ez (iD f) r c:Int):Rat):=NG
def Wid(n:Nat)(M:List (List Int)):Prop:=∀l∈M,l.length=n
theorem Wid.put{r c:Nat}{d:Int}{M:List (List Int)}(h:Wid n M):Wid n (putAt M r c d):=fun l hl=>by
 unfold putAt at hl;rcases aQ r M.length with hr|hr
 ·rcases bF hl with hl|rfl
  ·exact h l hl
  ·rw[ah,List.getD,aB hr];exact h _ (aX hr)
 ·rw[List.set_eq_of_length_le hr]at hl;exact h l hl
theorem Cr{f:ew}{M:List (List Int)}{n i:Nat}(h:Wid n M):∀k,Wid n (eV f M i k)
 |0=>h
 |k+1=>by rw[eV];rw[gz,gz];exact((Cr h k).put).put
theorem AU(f:ew):∀i,Wid f.cols (dh f i)
 |0=>fun l hl=>by rw[dh]at hl;rw[bH hl,bE]
 |i+1=>by rw[dh];exact Cr (AU f i) 3
theorem j8(f:ew):∀i,Wid f.cols (fG f i)
 |0=>AU f _
 |i+1=>by rw[fG];exact(j8 f i).put
theorem om(M:List (List Int))(r c:Nat)(d:Int):(putAt M r c d).length=M.length:=ah ..
theorem uS(f:ew)(M:List (List Int))(i:Nat):∀k,(eV f M i k).length=M.length
 |0=>rfl
 |k+1=>by rw[eV];rw[gz,gz,om,om];exact uS f M i k
theorem sD(f:ew):∀i,(dh f i).length=3*f.nodes.length
 |0=>bE ..
 |i+1=>by rw[dh,uS];exact sD f i
theorem nO(f:ew):∀i,(fG f i).length=3*f.nodes.length
 |0=>sD f _
 |i+1=>by rw[fG,om];exact nO f i
theorem e8(f:ew):fZ f.cols (cP f):=fun r hr=>by
 obtain⟨l,hl,rfl⟩:=aT.1 hr;rw[dM,aJ];exact j8 f _ l hl
theorem ef(f:ew):(cP f).length=3*f.nodes.length:=by rw[cP,aJ];exact nO f _
structure HA(f:ew):Prop where
 co:∀p∈f.nodes,(-1000000<=p.1∧p.1<=1000000)∧(-1000000<=p.2.1∧p.2.1<=1000000)∧(-1000000<=p.2.2∧p.2.2<=1000000)
 NH:∀b∈f.bars,∃ka kb:Nat,b.1=ka∧b.2.1=kb∧ka<f.nodes.length∧kb<f.nodes.length∧ka≠kb∧0<b.2.2
 sup:∀s∈f.cV,gq s<3*f.nodes.length∧0<=s.2.2
 one:∀(i j:Nat) s t,f.cV[i]? =some s->f.cV[j]? =some t->gq s=gq t->i=j
 n:f.nodes.length<=20
 b:f.bars.length<=60
 s:f.cV.length<=60
theorem Ii{α:Type}{l:List α}{x:α}(h:x∈l):∃i:Nat,l[i]? =some x:=by
 obtain⟨i,hi,rfl⟩:=List.mem_iff_getElem.1 h;exact⟨i,aB hi⟩
theorem aAU(h:eJ f=0):HA f:=by
 have OM:=kA h;obtain⟨⟨h1,h2,h3⟩,h4,h5,h6⟩:=wL h;have Vz:∀(k:Nat) s,f.cV[k]? =some s->jR f.nodes.length s.1∧(0<=s.2.1∧s.2.1<=2)∧iu s∉(f.cV.take k).map iu∧0<=s.2.2:=fun k s hs=>rQ.1 (ga h6 k s hs);have OK:∀(k:Nat) s,f.cV[k]? =some s->(gq s:Int)=3*s.1+s.2.1∧gq s<3*f.nodes.length:=fun k s hs=>by
  obtain⟨⟨a1,a2⟩,⟨a3,a4⟩,-,-⟩:=Vz k s hs;unfold gq;omega
 have lt:∀(i j:Nat) s t,i<j->f.cV[i]? =some s->f.cV[j]? =some t->gq s≠gq t:=fun i j s t Pt hs ht e=>by
  obtain⟨⟨a1,a2⟩,⟨a3,a4⟩,-,-⟩:=Vz i s hs;obtain⟨⟨b1,b2⟩,⟨b3,b4⟩,b5,-⟩:=Vz j t ht;have e1:=(OK i s hs).1;have e2:=(OK j t ht).1;refine b5 (aT.2 ⟨s,aC (i:=i) (by rw[bV Pt];exact hs),?_⟩);exact Prod.ext (by show s.1=t.1;omega) (by show s.2.1=t.2.1;omega)
 refine⟨OM.co,fun b hb=>?_,fun s hs=>?_,fun i j s t hs ht e=>?_,h1,h2,h3⟩
 ·obtain⟨k,hk⟩:=Ii hb;obtain⟨⟨⟨a1,a2⟩,a3,a4⟩,a5,-,a6⟩:=np.1 (ga h5 k b hk);exact⟨b.1.toNat,b.2.1.toNat,by omega,by omega,by omega,by omega,by omega,a6⟩
 ·obtain⟨k,hk⟩:=Ii hs;exact⟨(OK k s hk).2,(Vz k s hk).2.2.2⟩
 ·rcases bs i j with h7|h7|h7
  ·exact absurd e (lt i j s t h7 hs ht)
  ·exact h7
  ·exact absurd e.symm (lt j i t s h7 ht hs)
theorem Fm(M:List (List Int))(r c r' c':Nat)(d:Int):ez (putAt M r c d) r' c'=d∨ez (putAt M r c d) r' c'=ez M r' c':=by
 by_cases h:r'=r∧c'=c
 ·obtain⟨rfl,rfl⟩:=h;rcases aQ r' M.length with h1|h1
  ·rcases aQ c' (M.getD r' []).length with h2|h2
   ·exact .inl (Fl h1 h2)
   ·refine .inr ?_;unfold ez putAt;rw[mj h1,List.set_eq_of_length_le h2]
  ·refine .inr ?_;unfold ez putAt;rw[List.set_eq_of_length_le h1]
 ·exact .inr (jV (by
   by_cases h1:r'=r
   ·exact .inr fun h2=>h ⟨h1,h2⟩
   ·exact .inl h1))
theorem Fo{k:Nat}(hk:k<f.nodes.length):f.node (k:Int)∈f.nodes:=by
 rw[ew.node,aE,List.getD,aB hk];exact aX hk
section
variable{f:ew}(h:HA f)
include h
theorem HA.dif{b:Int×Int×Rat}(hb:b∈f.bars)(k:Nat): -2000000<=(tF f b).getD k 0∧(tF f b).getD k 0<=2000000:=by
 obtain⟨ka,kb,ea,eb,hka,OL,-,-⟩:=h.NH b hb;obtain⟨⟨a1,a2⟩,⟨a3,a4⟩,a5,a6⟩:=h.co _ (Fo hka);obtain⟨⟨b1,b2⟩,⟨b3,b4⟩,b5,b6⟩:=h.co _ (Fo OL);rw[tF,ea,eb]
 match k with
 |0=>simp[List.getD];omega
 |1=>simp[List.getD];omega
 |2=>simp[List.getD];omega
 |k+3=>simp[List.getD]
theorem HA.Fp{i:Nat}{b:Int×Int×Rat}(hb:f.bars[i]? =some b)(r:Nat):∀k,k<=3-> -2000000<=ez (eV f (dh f i) i k) r i∧ez (eV f (dh f i) i k) r i<=2000000
 |0,_=>by
  have:=ml f (r:=r) i (aF i);rw[eV,this];omega
 |k+1,hk=>by
  obtain⟨ka,kb,ea,eb,-,-,OJ,-⟩:=h.NH b (aC hb);have ih:=HA.Fp hb r k (by omega);have hd:=h.dif (aC hb) k;have z1:=oh (r:=3*ka+k) hb ea eb (show k<=3 by omega) (by omega);have z2:=oh (r:=3*kb+k) hb ea eb (show k<=3 by omega) (by omega);rw[eV];rw[Dn hb,toNat_add ea,toNat_add eb,gz,gz,z1,jV (r':=3*kb+k) (.inl (by omega)),z2];rcases Fm (putAt (eV f (dh f i) i k) (3*ka+k) i (0+(tF f b).getD k 0)) (3*kb+k) i r i (0+ -(tF f b).getD k 0)with e|e
  ·rw[e];omega
  ·rw[e];rcases Fm (eV f (dh f i) i k) (3*ka+k) i r i (0+(tF f b).getD k 0)with e|e
   ·rw[e];omega
   ·rw[e];exact ih
theorem HA.Ij{i r:Nat}(hi:i<f.bars.length):∀j,i<j->j<=f.bars.length-> -2000000<=ez (dh f j) r i∧ez (dh f j) r i<=2000000
 |0,h1,_=>by omega
 |j+1,h1,h2=>by
  rw[dh];rcases aQ i j with h3|h3
  ·rw[wK (by omega)];exact HA.Ij hi j h3 (by omega)
  ·rw[show j=i by omega];exact h.Fp (aB hi) r 3 (aF _)
theorem HA.HZ{r i:Nat}(hs:f.cV[i]? =some s):ez (iD f) r (f.bars.length+i)=if r=gq s then 1 else 0:=
 Cq (j8 f) (nO f) (fun s hs=>(h.sup s hs).1) hs _ (aD.1 hs).1
theorem HA.aAV(r c:Nat): -2000000<=ez (iD f) r c∧ez (iD f) r c<=2000000:=by
 rcases aQ c f.bars.length with hc|hc
 ·rw[iD,AT hc];exact h.Ij hc _ hc (aF _)
 ·rcases aQ c f.cols with h1|h1
  ·obtain⟨i,rfl⟩:∃i,c=f.bars.length+i:=⟨c-f.bars.length,by omega⟩
   rw[ew.cols]at h1;rw[h.HZ (aB (show i<f.cV.length by omega))];split<;>omega
  ·have:ez (iD f) r c=0:=by
    unfold ez;rw[List.getD,List.getElem?_eq_none]
    ·rfl
    ·rcases aQ r (iD f).length with h2|h2
     ·rw[List.getD,aB h2];show((iD f)[r]).length<=c;rw[j8 f _ _ (aX h2)];exact h1
     ·rw[List.getD,List.getElem?_eq_none h2];exact aO _
   rw[this];omega
theorem HA.tJ(r c:Nat):Ib 2000000 (dF (cP f) r c):=by
 rw[HY];have:=h.aAV r c;exact Ib.int (by omega)
theorem HA.lS:Bp (cP f) f.cols 2000000:=fun j _=>⟨1,by decide,Ib.one (by decide),fun t _=>by rw[bq];exact h.tJ j t⟩
theorem HA.only{x:Nat->Rat}(hx:∀j,j<(cP f).length->mulR (cP f) f.cols x j=0)(h0:∀t,t<f.bars.length->x t=0):∀t,t<f.cols->x t=0:=fun t ht=>by
 rcases aQ t f.bars.length with h1|h1
 ·exact h0 t h1
 ·obtain⟨i,rfl⟩:∃i,t=f.bars.length+i:=⟨t-f.bars.length,by omega⟩
  have hi:i<f.cV.length:=by unfold ew.cols at ht;omega
  have hs:=aB hi;have hr:=h.sup _ (aX hi);have h2:=hx (gq f.cV[i]) (by rw[ef];exact hr.1);unfold mulR at h2;rw[eu ht fun k hk OJ=>?_,HY,h.HZ hs,if_pos rfl]at h2
  ·have e:((1:Int):Rat)*x (f.bars.length+i)=x (f.bars.length+i):=bq _
   rwa [e]at h2
  ·rcases aQ k f.bars.length with h3|h3
   ·rw[h0 k h3,bD]
   ·obtain⟨i',rfl⟩:∃i,k=f.bars.length+i:=⟨k-f.bars.length,by omega⟩
    have TJ:i'<f.cV.length:=by unfold ew.cols at hk;omega
    have Tl:=aB TJ;rw[HY,h.HZ Tl,aK fun e=>OJ (by rw[h.one i i' _ _ hs Tl e])];exact bI _
theorem HA.LW(ht:t<f.bars.length):0<(cY f).getD t 0:=by
 obtain⟨_,_,_,_,_,_,_,h1⟩:=h.NH _ (aX ht);rw[cY,List.getD,aL (by rw[aJ];exact ht),aM,aB ht];exact h1
theorem HA.Fq(t:Nat):0<=(cY f).getD t 0:=by
 rw[List.getD]
 cases ht:(cY f)[t]? with
 |none=>exact Rat.le_refl
 |some q=>
  show 0<=q;have hm:=aC ht;rcases bK.1 hm with hm|hm
  ·obtain⟨b,hb,rfl⟩:=aT.1 hm;obtain⟨_,_,_,_,_,_,_,h1⟩:=h.NH b hb;exact Rat.le_of_lt h1
  ·obtain⟨s,hs,rfl⟩:=aT.1 hm;exact(h.sup s hs).2
theorem HA.uT:wH (cP f) f.cols fun t=>(cY f).getD t 0:=by
 refine⟨e8 f,fun t _=>h.Fq t,fun x hx h0=>h.only hx fun t ht=>?_⟩;have h1:=x9 (f:=fun t=>(cY f).getD t 0*(x t*x t)) (n:=f.cols) (fun k _=>Rat.mul_nonneg (h.Fq k) (sq_nonneg _)) (by rw[h0];exact Rat.le_refl) t (by unfold ew.cols;omega);have h2:=h.LW ht;rcases Rat.mul_eq_zero.1 h1 with h3|h3
 ·rw[h3]at h2;exact absurd h2 (Rat.lt_irrefl)
 ·rcases Rat.mul_eq_zero.1 h3 with h4|h4<;>exact h4
end
theorem tK(f:Nat->Rat)(a:Nat):∀b,cZ f (a+b)=cZ f a+cZ (fun k=>f (a+k)) b
 |0=>(bY _).symm
 |b+1=>by rw[show a+(b+1)=a+b+1 by omega,cZ,cZ,tK f a b,Rat.add_assoc]
theorem wM{k:Nat}(hk:k<n):(ee M n).getD k []=M.map fun r=>r.getD k 0:=by
 unfold ee;exact getD_some (by rw[aM,bh hk];rfl)
theorem ns{k i:Nat}(hk:k<n):dF (ee M n) k i=dF M i k:=by
 rw[dF,dF,wM hk];rcases aQ i M.length with h|h
 ·have hr:=aB h;rw[getD_some (show (M.map fun r=>r.getD k 0)[i]? =some (M[i].getD k 0) by rw[aM,hr];rfl),getD_some hr]
 ·rw[gZ (by rw[aJ];exact h),show M.getD i []=[] by rw[List.getD,List.getElem?_eq_none h];rfl];rfl
theorem jJ(M:List (List Rat))(n:Nat):fZ M.length (ee M n):=fun r hr=>by
 obtain⟨k,_,rfl⟩:=aT.1 hr;exact aJ ..
theorem e9(M:List (List Rat))(n:Nat):(ee M n).length=n:=by simp[ee]
theorem Fs(hM:fZ n M):ee (ee M n) M.length=M:=by
 refine gp [] (e9 _ _) fun i hi=>?_;rw[e9]at hi;have hr:=hM.getD hi;refine gp 0 (by rw[wM hi,aJ,e9,hr]) fun t ht=>?_;rw[wM hi,aJ,e9]at ht;have:=ns (M:=ee M n) (n:=M.length) (i:=t) hi;rw[ns ht]at this;exact this
abbrev oQ(M:List (List Rat))(n:Nat):Nat:=(cM M n).2.length
section
variable{M:List (List Rat)}{n:Nat}
theorem Jn(hM:fZ n M){G:Mx}{r:Nat}(h:∀j,j<M.length->eI G r n (dF M j)):oQ M n<=r:=by
 obtain⟨r1,r2,r3,r4,r5⟩:=dV hM n (aF _);have hl:=dq M n;have hrk:oQ M n=(cM M n).2.length:=rfl;have hB:∀i,∃c:Nat->Rat,i<oQ M n->∀t,t<n->dF (cM M n).1 i t=cZ (fun k=>c k*G k t) r:=fun i=>by
  by_cases hi:i<oQ M n
  ·obtain⟨c,hc⟩:=((j6 hM n (aF _)).1 i (by omega)).trans h;exact⟨c,fun _=>hc⟩
  ·exact⟨fun _=>0,fun h=>absurd h hi⟩
 obtain⟨D,hD⟩:∃D:Nat->Nat->Rat,∀i,i<oQ M n->∀t,t<n->dF (cM M n).1 i t=cZ (fun k=>D i k*G k t) r:=⟨fun i=>(hB i).choose,fun i=>(hB i).choose_spec⟩
 refine Nat.le_of_not_lt fun Oc=>?_;obtain⟨T,hT⟩:∃T:List (List Rat),T=(List.range r).map fun k=>(List.range (oQ M n)).map fun i=>D i k:=⟨_,rfl⟩
 have hTl:T.length=r:=by rw[hT];simp
 have hTn:fZ (oQ M n) T:=fun x hx=>by
  rw[hT]at hx;obtain⟨k,_,rfl⟩:=aT.1 hx;simp
 have hTat:∀k i,k<r->i<oQ M n->dF T k i=D i k:=fun k i hk hi=>by
  have h1:T[k]? =some ((List.range (oQ M n)).map fun i=>D i k):=by rw[hT,aM,bh hk];rfl
  rw[dF,getD_some h1];exact getD_some (by rw[aM,bh hi];rfl)
 obtain⟨-,t2,-⟩:=dV hTn (oQ M n) (aF _);have Uo:=mH T (oQ M n);rw[dq,hTl]at t2;have hc:=AO hTn;have Sd:0<(cT T (oQ M n)).length:=by omega
 have hy:=uO hTn Sd;have QH:∀i,i<oQ M n->dF (cT T (oQ M n)) 0 i=0:=fun j hj=>by
  have hpj:(cM M n).2.getD j 0<n:=r4 _ (by rw[List.getD,aB hj];exact aX _);have e1:cZ (fun i=>dF (cT T (oQ M n)) 0 i*dF (cM M n).1 i ((cM M n).2.getD j 0)) (oQ M n)=0:=by
   rw[cL (g:=fun i=>cZ (fun k=>dF (cT T (oQ M n)) 0 i*(D i k*G k ((cM M n).2.getD j 0))) r) fun i hi=>by rw[hD i hi _ hpj,eo],nk,cL (g:=fun _=>0) fun k hk=>?_,dw];have h2:=hy k (by omega);unfold mulR at h2;rw[cL (g:=fun i=>(dF T k i*dF (cT T (oQ M n)) 0 i)*G k ((cM M n).2.getD j 0)) fun i hi=>by rw[hTat k i hk hi];grind,lg,h2,bI]
  rw[eu hj fun i hi OJ=>by rw[r5 j i hj (by omega),aK OJ,bD],r5 j j hj (by omega),if_pos rfl,Rat.mul_one]at e1;exact e1
 have h3:=I9 (M:=T) (n:=oQ M n) (c:=fun k=>if k=0 then 1 else 0) (fun t ht=>by
  rw[eu Sd fun k _ OJ=>by rw[aK OJ,bI],if_pos rfl,bq]
  exact QH t ht) 0 Sd
 exact absurd h3 (by decide)
theorem sE(hM:fZ n M):oQ (ee M n) M.length<=oQ M n:=by
 obtain⟨r1,r2,r3,r4,r5⟩:=dV hM n (aF _);have hl:=dq M n;have hrk:oQ M n=(cM M n).2.length:=rfl;have hrf:=AA hM;refine Jn (jJ M n) (G:=fun i j=>dF M j ((cM M n).2.getD i 0)) fun t ht=>?_;rw[e9]at ht;refine⟨fun i=>dF (cM M n).1 i t,fun j hj=>?_⟩;rw[ns ht];have h1:eI (dF (cM M n).1) (oQ M n) n (dF M j):=((j6 hM n (aF _)).2 j hj).cut fun i t h1 h2 ht=>r3 i t h1 (by omega) ht;rw[hrf.coeff h1 t ht];exact cL fun i _=>bl _ _
theorem H0(hM:fZ n M):oQ (ee M n) M.length=oQ M n:=by
 refine aP (sE hM) ?_;have h:=sE (jJ M n);rw[e9,Fs hM]at h;exact h
theorem LY(hM:fZ n M)(hr:oQ M n=M.length):Dl (dF M) M.length n:=by
 obtain⟨r1,r2,r3,r4,r5⟩:=dV hM n (aF _);have hl:=dq M n;have hrk:oQ M n=(cM M n).2.length:=rfl;refine(xa hM n (aF _)).1 fun x hx j hj=>?_;have hj2:j<(cM M n).2.length:=by omega
 have hpj:(cM M n).2.getD j 0<n:=r4 _ (by rw[List.getD,aB hj2];exact aX _);have h1:=hx _ hpj;rw[eu hj fun i hi OJ=>by rw[r5 j i hj2 (by omega),aK OJ,bD],r5 j j hj2 (by omega),if_pos rfl,Rat.mul_one]at h1;exact h1
theorem Jo{k:Nat}(hk:k<n):mulR (ee M n) M.length y k=cZ (fun i=>dF M i k*y i) M.length:=cL fun i _=>by rw[ns hk]
def kQ(M:List (List Rat))(n:Nat)(fl:List Rat):List (List Rat):=(M.map fun r=>List.replicate M.length 0++r)++(List.range n).map fun j=>(M.map fun r=>r.getD j 0)++(List.replicate n 0).set j (fl.getD j 0)
theorem jK(fl:List Rat):(kQ M n fl).length=M.length+n:=by unfold kQ;rw[List.length_append,aJ,aJ,List.length_range]
theorem rR(hM:fZ n M)(fl:List Rat):fZ (M.length+n) (kQ M n fl):=fun r hr=>by
 rcases bK.1 hr with hr|hr
 ·obtain⟨x,hx,rfl⟩:=aT.1 hr;rw[List.length_append,bE,hM x hx]
 ·obtain⟨x,hx,rfl⟩:=aT.1 hr;rw[List.length_append,aJ,ah,bE]
theorem Dp{i:Nat}(hi:i<M.length):(t<M.length->dF (kQ M n fl) i t=0)∧dF (kQ M n fl) i (M.length+t)=dF M i t:=by
 have hr:=aB hi;have h:(kQ M n fl)[i]? =some (List.replicate M.length 0++M[i]):=by
  unfold kQ;rw[aL (by rw[aJ];exact hi),aM,hr];rfl
 refine⟨fun ht=>?_,?_⟩
 ·rw[dF,getD_some h];exact getD_some (by rw[aL (by rw[bE];exact ht),List.getElem?_replicate,if_pos ht])
 ·rw[dF,dF,getD_some h,getD_some hr,List.getD,List.getD,aN (by rw[bE];exact Nat.le_add_right _ _),bE,Nat.add_sub_cancel_left]
theorem AV{j:Nat}(hj:j<n):(t<M.length->dF (kQ M n fl) (M.length+j) t=dF M t j)∧(t<n->dF (kQ M n fl) (M.length+j) (M.length+t)=if t=j then fl.getD j 0 else 0):=by
 have h:(kQ M n fl)[M.length+j]? =some ((M.map fun r=>r.getD j 0)++(List.replicate n 0).set j (fl.getD j 0)):=by
  unfold kQ;rw[aN (by rw[aJ];exact Nat.le_add_right _ _),aJ,Nat.add_sub_cancel_left,aM,bh hj];rfl
 refine⟨fun ht=>?_,fun ht=>?_⟩
 ·have hr:=aB ht;rw[dF,dF,getD_some h,getD_some hr];exact getD_some (by rw[aL (by rw[aJ];exact ht),aM,hr];rfl)
 ·rw[dF,getD_some h];by_cases e:t=j
  ·subst e;rw[if_pos rfl];exact getD_some (by rw[aN (by rw[aJ];exact Nat.le_add_right _ _),aJ,Nat.add_sub_cancel_left,aV (by rw[bE];exact ht)])
  ·rw[aK e];exact getD_some (by rw[aN (by rw[aJ];exact Nat.le_add_right _ _),aJ,Nat.add_sub_cancel_left,aZ (Ne.symm e),List.getElem?_replicate,if_pos ht])
theorem Cs{i:Nat}(hi:i<M.length):mulR (kQ M n fl) (M.length+n) z i=mulR M n (fun t=>z (M.length+t)) i:=by
 unfold mulR;rw[tK,cL (g:=fun _=>0) fun t ht=>by rw[(Dp hi).1 ht,bI],dw,Rat.zero_add];exact cL fun t _=>by rw[(Dp hi).2]
theorem Ct{j:Nat}(hj:j<n):mulR (kQ M n fl) (M.length+n) z (M.length+j)=cZ (fun i=>dF M i j*z i) M.length+fl.getD j 0*z (M.length+j):=by
 unfold mulR;rw[tK,cL fun t ht=>by rw[(AV hj).1 ht]];congr 1;rw[eu hj fun t ht OJ=>by rw[(AV hj).2 ht,aK OJ,bI],(AV hj).2 hj,if_pos rfl]
theorem Jp(h:∀j,j<M.length->mulR M n y j=0):cZ (fun t=>y t*cZ (fun i=>dF M i t*u i) M.length) n=0:=by
 rw[cL (g:=fun t=>cZ (fun i=>y t*(dF M i t*u i)) M.length) fun t _=>by rw[eo],nk,cL (g:=fun _=>0) fun i hi=>?_,dw];have h1:=h i hi;unfold mulR at h1;rw[cL (g:=fun t=>dF M i t*y t*u i) fun t _=>by grind,lg,h1,bI]
end
section
variable{M:List (List Rat)}{n:Nat}{fl b:List Rat}
theorem jz.aAr(hM:fZ n M)(h:jz M n (fun t=>fl.getD t 0) b x):∃u,eW (ee M n) (cW (fR x fl) (-1)) M.length=some u:=by
 cases e:eW (ee M n) (cW (fR x fl) (-1)) M.length with
 |some u=>exact⟨u,rfl⟩
 |none=>
  obtain⟨y,y1,y2⟩:=oe (jJ M n) e;rw[e9]at y1 y2;refine absurd ?_ y2;have Un:∀j,j<M.length->mulR M n y j=0:=fun j hj=>Eq.trans (cL fun t ht=>by rw[ns ht,bl]) (y1 j hj);obtain⟨c,hc⟩:=I8 hM Un;have hb:∀t,t<n->(cW (fR x fl) (-1)).getD t 0= -(fl.getD t 0*x.getD t 0):=fun t ht=>by
   have h1:=nm (a:=x) (b:=fl) (t:=t) (by rw[h.len];exact ht);have hl:t<(fR x fl).length:=by rw[fR,List.length_mapIdx,h.len];exact ht
   rw[getD_some (aB hl)]at h1;rw[getD_some (show (cW (fR x fl) (-1))[t]? =some ((fR x fl)[t]* -1) by rw[cW,aM,aB hl];rfl),h1];grind
  have e1:cZ (fun t=>y t*(cW (fR x fl) (-1)).getD t 0) n= -(uP (fun t=>fl.getD t 0) (fun t=>x.getD t 0) y n):=by
   unfold uP;rw[<-nh];exact cL fun t ht=>by rw[hb t ht];grind
  rw[e1,wI (x':=fun t=>x.getD t 0) (fun _ _=>rfl) hc,uR,cL (g:=fun _=>0) fun k hk=>by rw[uQ,h.st k hk,bD],dw];rfl
theorem AW(x fl:List Rat){n:Nat}(hx:x.length=n)(ht:t<n):(cW (fR x fl) (-1)).getD t 0= -(fl.getD t 0*x.getD t 0):=by
 have h1:=nm (a:=x) (b:=fl) (t:=t) (by rw[hx];exact ht);have hl:t<(fR x fl).length:=by rw[fR,List.length_mapIdx,hx];exact ht
 rw[getD_some (aB hl)]at h1;rw[getD_some (show (cW (fR x fl) (-1))[t]? =some ((fR x fl)[t]* -1) by rw[cW,aM,aB hl];rfl),h1];grind
theorem LZ(hM:fZ n M){u:List Rat}(hb:b.length=M.length)(h:jz M n (fun t=>fl.getD t 0) b x)(hu:eW (ee M n) (cW (fR x fl) (-1)) M.length=some u):
  (u++x).length=M.length+n∧∀j,j<(kQ M n fl).length->mulR (kQ M n fl) (M.length+n) (fun t=>(u++x).getD t 0) j=(b++iM n).getD j 0:=by
 obtain⟨u1,u2⟩:=kX (jJ M n) hu;rw[e9]at u2;have ha:∀t,t<M.length->(u++x).getD t 0=u.getD t 0:=fun t ht=>by rw[List.getD,aL (by omega),<-List.getD]
 have hc:∀t,(u++x).getD (M.length+t) 0=x.getD t 0:=fun t=>by rw[List.getD,aN (by omega),u1,Nat.add_sub_cancel_left,<-List.getD]
 refine⟨by rw[List.length_append,u1,h.len],fun j hj=>?_⟩;rw[jK]at hj;rw[ko];rcases aQ j M.length with h1|h1
 ·rw[Cs h1,tI (y:=fun t=>x.getD t 0) fun t _=>hc t];exact h.eq j h1
 ·obtain⟨k,rfl⟩:∃k,j=M.length+k:=⟨j-M.length,by omega⟩
  have hk:k<n:=by omega
  rw[Ct hk,hc,gZ (l:=b) (by omega),cL (g:=fun i=>dF M i k*u.getD i 0) fun i hi=>by rw[ha i hi]];have h2:=u2 k hk;rw[Jo hk,AW x fl h.len hk]at h2;rw[h2];grind
theorem L0(hM:fZ n M){z:List Rat}(hb:b.length=M.length)(hz:eW (kQ M n fl) (b++iM n) (M.length+n)=some z):jz M n (fun t=>fl.getD t 0) b (z.drop M.length):=by
 obtain⟨z1,z2⟩:=kX (rR hM fl) hz;have hd:∀t,(z.drop M.length).getD t 0=z.getD (M.length+t) 0:=fun t=>by rw[List.getD,List.getD,List.getElem?_drop]
 refine⟨by rw[List.length_drop,z1];omega,fun j hj=>?_,fun k hk=>?_⟩
 ·have h1:=z2 j (by rw[jK];omega);rw[Cs hj,ko]at h1;rw[<-h1];exact tI (fun t _=>hd t) j
 ·have h0:=Jp (u:=fun i=>z.getD i 0) (uO hM hk);unfold uP;have e:cZ (fun t=>fl.getD t 0*(dF (cT M n) k t*(z.drop M.length).getD t 0)) n= -cZ (fun t=>dF (cT M n) k t*cZ (fun i=>dF M i t*z.getD i 0) M.length) n:=by
   rw[<-nh];refine cL fun t ht=>?_;have h1:=z2 (M.length+t) (by rw[jK];omega);rw[Ct ht,ko,gZ (l:=b) (by omega)]at h1;rw[hd];grind
  rw[e,h0];rfl
theorem Jq(hM:fZ n M)(hr:oQ M n=M.length):∃x,eW M b n=some x:=by
 cases e:eW M b n with
 |some x=>exact⟨x,rfl⟩
 |none=>
  obtain⟨y,y1,y2⟩:=oe hM e;have:=LY hM hr y y1;exact absurd (by rw[cL (g:=fun _=>0) fun j hj=>by rw[this j hj,bI],dw]) y2
end
end Go.Ex
namespace Go.Ex
open Go Go.Sx Go.Proofs
variable{S:Nat->Prop}
section
variable{S S':Nat->Prop}{H:Hp}{nx:Nat}{iv iv':Iv}{B:Nat}{w w' w2:World}{O:Nat->Sx.di}{v:Value}{M:List (List Int)}
theorem ta.rel(h:ta w (Cv S B iv) v M)(r:Rel H nx iv B w O w')(hS:∀g,S g->g<B):ta w' (Cv S B iv) v M:=ta.cI h fun _ hg=>Rel.same r hS hg
theorem ta.dB(h:ta w2 (Nf w' w2) v M)(hB:B<=w'.heap.size)(hm:(w'.heap.size,w2.heap.size)∈iv):ta w2 (Cv S B iv) v M:=ta.cJ h fun _ hg=>hg.dB hB hm
end
set_option maxHeartbeats 1000000 in
theorem DR{w:World}{vn vb vs vl:Value}{f:ew}{l:List Ld}(hS:Old S w)(hf:dT w S vn vb vs f)(hl:fu w S vl l)(Ux:f.nodes.length<=20)(OM:nB f.nodes.length l):
  eD PG N.uW #[.agg #[vn,vb,vs],vl] w (eG w fun v' w2=>cN w2 (Nf w w2) v' (eh f l)):=by
 have hw:=bR w;obtain⟨an,cn,ab,cb,aq,cq,rfl,rfl,rfl,Qj,RJ,R6⟩:=hf.shape;obtain⟨al,cl,rfl,PQ,Qg⟩:=hl.shape;have hl200:=OM.len;refine yV (by simp) ?_;refine⟨((3*f.nodes.length:Nat):Int),wo,?_⟩;obtain⟨m,hm⟩:∃m,3*f.nodes.length=m:=⟨_,rfl⟩
 rw[hm]
 refine⟨m,m,rfl,rfl,aF _,by omega,by omega,Nat×World,fun z=>⟨[(1,sV al l.length cl),(5,.o (.s 1 0 m m)),(6,iN z.1)],[(1,.arr T.int (zv (fV f.nodes.length l z.1)))],2,[],z.2⟩,fun z=>l.length-z.1,
  fun z=>z.1<=l.length∧dm w.heap.size w z.2∧Mo (fV f.nodes.length l z.1) (3000000*z.1),?_,?_⟩
 ·intro O w' r3;exact⟨(0,w'),⟨aO _,hw.tr r3.cQ,fun z hz=>by rw[fV]at hz;rw[bH hz];exact⟨Int.le_refl _,Int.le_refl _⟩⟩,Sub.gn [] r3 ⟨by dsimp only;rw[fV,hm,zv,List.map_replicate];rfl,trivial⟩⟩
 rintro⟨i,w1⟩ ⟨hi,hw,Ok⟩;dsimp only at hi hw Ok ⊢;refine dI.mk ?_ ?_<;>intro OI
 ·have OI:i<l.length:=by simpa using OI
  obtain⟨x,hx⟩:∃x,l[i]? =some x:=⟨_,aB OI⟩
  obtain⟨hn,Sm,SD,hx3⟩:=OM.ld x (aC hx);obtain⟨kn,hkn⟩:=Int.eq_ofNat_of_zero_le hn.1;obtain⟨adx,cs,PS,hP,-,Oo⟩:=hl.load (by decide) hx;have hP:cs=[.int .i64 x.1,.int .i64 x.2.1,.int .i64 x.2.2.1,.int .i64 x.2.2.2]:=hP;subst hP;obtain⟨s0,Vi⟩:∃s,fV f.nodes.length l i=s:=⟨_,rfl⟩
  rw[Vi]at Ok;have Ro:s0.length=m:=by rw[<-Vi,k5,hm]
  obtain⟨z0,OT⟩:∃z,s0[3*kn]? =some z:=⟨_,aB (by omega)⟩
  obtain⟨z1,OV⟩:∃z,s0[3*kn+1]? =some z:=⟨_,aB (by omega)⟩
  obtain⟨z2,Ot⟩:∃z,s0[3*kn+2]? =some z:=⟨_,aB (by omega)⟩
  have b0:=Ok z0 (aC OT);have b1:=Ok z1 (aC OV);have b2:=Ok z2 (aC Ot);have n1:gU s0 x 1=s0.set (3*kn) (z0+x.2.1):=(nC (k:=0) (j:=3*kn) (by omega) rfl OT).symm;have n2:gU s0 x 2=(s0.set (3*kn) (z0+x.2.1)).set (3*kn+1) (z1+x.2.2.1):=by
   rw[<-n1];exact(nC (k:=1) (j:=3*kn+1) (by omega) rfl (by rw[n1,aZ (by omega)];exact OV)).symm
  have n3:gU s0 x 3=((s0.set (3*kn) (z0+x.2.1)).set (3*kn+1) (z1+x.2.2.1)).set (3*kn+2) (z2+x.2.2.2):=by
   rw[<-n2];exact(nC (k:=2) (j:=3*kn+2) (by omega) rfl (by rw[n2,aZ (by omega),aZ (by omega)];exact Ot)).symm
  have Ph:gU s0 x 3=fV f.nodes.length l (i+1):=by rw[fV,show l.getD i (0,0,0,0)=x by rw[List.getD,hx];rfl,Vi]
  have hbd1:=Ok.set (j:=3*kn) (z:=z0+x.2.1) (t2:=3000000*i+1000000) (by omega) (by omega);have SQ:=hbd1.set (j:=3*kn+1) (z:=z1+x.2.2.1) (t2:=3000000*i+2000000) (by omega) (by omega);have hbd3:=SQ.set (j:=3*kn+2) (z:=z2+x.2.2.2) (t2:=3000000*i+3000000) (by omega) (by omega);rw[<-n3,Ph]at hbd3;rw[Vi];refine⟨adx,PS,by omega,.int .i64 x.1,fun O w' r=>?_,?_⟩
  ·obtain⟨k1,k2⟩:=Oo 0 _ rfl;rw[cH (w:=w) (w2:=w') (by simp only[dD];exact(hw.tr r.cQ).block _ (hS _ k1))];simp only[aE,k7]at k2 ⊢;exact k2
  refine⟨((3*kn:Nat):Int),wo,?_⟩;refine cK hτ da [.x 0,.x 1,.x 2,.x 3,.x 4,.x 5,.x 6,.x 7,.x 8,.x 9,.x 10,.x 11,.x 12,.x 13,.x 14,.x 15,.x 16,.x 17,.x 18,.x 19,.x 20,.x 21,.x 22,.x 23,.x 24,.x 25,.x 26,.x 27,.x 28,.x 29,.x 30,.x 31,.x 32,.x 33,.x 34,.x 35,.x 36,.x 37,.x 38,.x 39,.x 40,.x 41,.x 42,.x 43,.x 44,.x 45] (by kernel_rfl) (by kernel_rfl) ?_;refine⟨((3*kn+1:Nat):Int),wo,((3*kn+2:Nat):Int),wo,by omega,.int .i64 z0,by rw[aE,aU,aS];exact DK OT,adx,PS,by omega,.int .i64 x.2.1,fun O w' r=>?_,?_⟩
  ·obtain⟨k1,k2⟩:=Oo 1 _ rfl;rw[cH (w:=w) (w2:=w') (by simp only[dD];exact(hw.tr r.cQ).block _ (hS _ k1))];simp only[aE,k7]at k2 ⊢;exact k2
  refine⟨z0+x.2.1,wo,((3*kn+1:Nat):Int),wo,by omega,.int .i64 z1,by rw[aE,aU,aS];exact DK OV,adx,PS,by omega,.int .i64 x.2.2.1,fun O w' r=>?_,?_⟩
  ·obtain⟨k1,k2⟩:=Oo 2 _ rfl;rw[cH (w:=w) (w2:=w') (by simp only[dD];exact(hw.tr r.cQ).block _ (hS _ k1))];simp only[aE,k7]at k2 ⊢;exact k2
  refine⟨z1+x.2.2.1,wo,((3*kn+2:Nat):Int),wo,by omega,.int .i64 z2,by rw[aE,aU,aS];exact DK Ot,adx,PS,by omega,.int .i64 x.2.2.2,fun O w' r=>?_,?_⟩
  ·obtain⟨k1,k2⟩:=Oo 3 _ rfl;rw[cH (w:=w) (w2:=w') (by simp only[dD];exact(hw.tr r.cQ).block _ (hS _ k1))];simp only[aE,k7]at k2 ⊢;exact k2
  refine⟨z2+x.2.2.2,wo,by omega,by rw[E3];(try rw[ah]);(try rw[ah]);omega,zv ((s0).set (3*kn) (z0+x.2.1)),?_,?_⟩
  ·rw[aE,aU,aS];exact E4 (by (try rw[ah]);(try rw[ah]);omega)
  refine⟨by omega,by rw[E3];(try rw[ah]);(try rw[ah]);omega,zv (((s0).set (3*kn) (z0+x.2.1)).set (3*kn+1) (z1+x.2.2.1)),?_,?_⟩
  ·rw[aE,aU,aS];exact E4 (by (try rw[ah]);(try rw[ah]);omega)
  refine⟨by omega,by rw[E3];(try rw[ah]);(try rw[ah]);omega,zv ((((s0).set (3*kn) (z0+x.2.1)).set (3*kn+1) (z1+x.2.2.1)).set (3*kn+2) (z2+x.2.2.2)),?_,?_⟩
  ·rw[aE,aU,aS];exact E4 (by (try rw[ah]);(try rw[ah]);omega)
  refine⟨((i+1:Nat):Int),wo,?_⟩;intro ρ3 w6 r3;exact⟨(i+1,w6),⟨OI,hw.tr r3.cQ,fun z hz=>by have:=hbd3 z hz;dsimp only;omega⟩,Sub.gn [] r3 ⟨by dsimp only;rw[<-Ph,n3];rfl,trivial⟩,by dsimp only;omega⟩
 have OI:i=l.length:=aP hi (by simpa using OI);subst OI;obtain⟨s0,Vi⟩:∃s,fV f.nodes.length l l.length=s:=⟨_,rfl⟩
 have Ro:s0.length=m:=by rw[<-Vi,k5,hm]
 rw[Vi]at Ok ⊢
 refine⟨Nat×List (List Value)×World×Iv,fun z=>⟨[(5,.o (.s 1 0 m m)),(8,.o (.w 2 z.2.1.length)),(9,iN z.1)],[(2,.vec T.Rat 4 z.2.1.flatten),(1,.arr T.int (zv s0))],3,z.2.2.2,z.2.2.1⟩,fun z=>m-z.1,
  fun z=>z.1<=m∧dm w.heap.size w z.2.2.1∧dU z.2.2.1 (Cf w z.2.2.2) z.2.1 (dM (s0.take z.1)),?_,?_⟩
 ·intro O w' r;exact⟨(0,[],w',_),⟨aO _,hw.tr r.cQ,dU.nil⟩,Sub.nil 8 T.Rat 4 rfl (by simp[jQ,SV.sc,At.sc,fP]) r fun ρ1 r1=>Sub.gn [] r1⟩
 rintro⟨i,css,w1,iv⟩ ⟨hi,hw,hG⟩;dsimp only at hi hw hG ⊢;have OY:=eK hG.four;have R7:css.length=i:=by rw[hG.len,dM,aJ,aW];omega
 refine dI.mk ?_ ?_<;>intro OI
 ·have OI:i<m:=by simpa using OI
  obtain⟨z,hz⟩:∃z,s0[i]? =some z:=⟨_,aB (by omega)⟩
  have Sh:=Ok z (aC hz);refine⟨by omega,.int .i64 z,by rw[aE,aU,aS];exact DK hz,?_⟩;refine cD (cE hw (fun _ w' v w2=>cS w2 (Nf w' w2) v (z:Rat)) (fun O w' r=>kF z w' (by omega)) ?_);rintro O _ _ _ OP r he hw h_ hn;replace hG:=hG.cG r (cC w) he (mC h_);have hd:=hn.dB (S:=FF) r.cF (mN h_);obtain⟨A0,A1,A2,A3,A4,A5,A6,A7,rfl⟩:=hd.shape;have RZ:=hG.push (cs:=[.bool A0,.slice A1 A2 A3,.bool A4,.slice A5 A6 A7]) (q:=(z:Rat)) ⟨_,_,_,_,_,_,_,_,rfl,hd⟩ rfl;rw[<-vR hz]at RZ;have Po:css.flatten++([.bool A0,.slice A1 A2 A3,.bool A4,.slice A5 A6 A7]:List Value)=(css++([[.bool A0,.slice A1 A2 A3,.bool A4,.slice A5 A6 A7]]:List (List Value))).flatten:=by simp
  refine .inl ?_;refine⟨by omega,by omega,by unfold maxLen;omega,((i+1:Nat):Int),wo,?_⟩;intro ρ3 w6 r3;exact⟨(i+1,css++[[.bool A0,.slice A1 A2 A3,.bool A4,.slice A5 A6 A7]],w6,_),⟨OI,hw.tr r3.cQ,RZ.rel r3 (cC w)⟩,Sub.gn [(2,4)] r3 ⟨by dsimp only;rw[<-Po];rfl,rfl,trivial⟩ ⟨rfl,by dsimp only;rw[List.length_append,List.length_singleton];rfl,rfl,trivial⟩,by dsimp only;omega⟩
 have OI:i=m:=aP hi (by simpa using OI);have Tn:dM (s0.take i)=eh f l:=by rw[eh,Vi,OI,<-Ro,bG]
 rw[Tn]at hG;intro ρe we re;refine⟨_,rfl,hw.tr re.cQ,?_⟩;have h5:=re.iC (id:=2) (sz:=4) (m:=css.length) rfl OY (by unfold maxLen;omega) (by decide) hG.one;exact dU.list ((hG.rel re (cC w)).cJ fun g hg=>Cv.nw hg re) (h5.cJ fun g hg=>.inr hg)
end Go.Ex
namespace Go.Ex
open Go
section
theorem H2:∀(N m:Nat) (g:Nat->Nat),(∀i,i<m->g i<N)->(∀i j,i<m->j<m->g i=g j->i=j)->m<=N
 |0,m,g,h1,_=>by
  rcases bJ m with h|h
  ·omega
  ·exact absurd (h1 0 h) (Nat.not_lt_zero _)
 |N+1,m,g,h1,h2=>by
  by_cases h:∃i,i<m∧g i=N
  ·obtain⟨i0,hi,e⟩:=h
   have:=H2 N (m-1) (fun i=>if i<i0 then g i else g (i+1)) (fun i TJ=>by
    show(if i<i0 then g i else g (i+1))<N;split
    ·rename_i Oc;have:=h1 i (by omega);have:g i≠N:=fun e2=>by have:=h2 i i0 (by omega) hi (by rw[e2,e]);omega
     omega
    ·have:=h1 (i+1) (by omega);have:g (i+1)≠N:=fun e2=>by have:=h2 (i+1) i0 (by omega) hi (by rw[e2,e]);omega
     omega) (fun i j TJ hj' e2=>by
    have e3:(if i<i0 then g i else g (i+1))=(if j<i0 then g j else g (j+1)):=e2;split at e3<;>split at e3
    ·exact h2 _ _ (by omega) (by omega) e3
    ·have:=h2 _ _ (by omega) (by omega) e3;omega
    ·have:=h2 _ _ (by omega) (by omega) e3;omega
    ·have:=h2 _ _ (by omega) (by omega) e3;omega)
   omega
  ·exact Nat.le_succ_of_le (H2 N m g (fun i hi=>by
    have:=h1 i hi;have:g i≠N:=fun e=>h ⟨i,hi,e⟩
    omega) h2)
structure FrS(f:ew):Prop extends HA f where
 n4:f.nodes.length<=4
 b6:f.bars.length<=6
variable{f:ew}
theorem FrS.s12(h:FrS f):f.cV.length<=12:=by
 have:=H2 (3*f.nodes.length) f.cV.length (fun i=>gq (f.cV.getD i (0,0,0))) (fun i hi=>by
  have e:f.cV.getD i (0,0,0)=f.cV[i]:=getD_some (aB hi);show gq (f.cV.getD i (0,0,0))<_;rw[e]
  exact(h.sup _ (aX hi)).1) (fun i j hi hj e=>by
  have e1:f.cV.getD i (0,0,0)=f.cV[i]:=getD_some (aB hi);have e2:f.cV.getD j (0,0,0)=f.cV[j]:=getD_some (aB hj);have e:gq (f.cV.getD i (0,0,0))=gq (f.cV.getD j (0,0,0)):=e;rw[e1,e2]at e
  exact h.one i j _ _ (aB hi) (aB hj) e)
 have:=h.n4;omega
theorem FrS.HB(h:FrS f):f.cols<=18:=by
 have h1:=h.s12;have h2:=h.b6;unfold ew.cols;omega
theorem FrS.H3(h:FrS f):(cP f).length<=12:=by
 rw[ef];have:=h.n4;omega
theorem aAs:18*2000000<=wt 1:=by decide
theorem FrS.size(h:FrS f):ln (fB 2000000 (cP f).length)<=13:=by
 have:=h.H3;have h2:=Ns (B:=2000000) (R:=18) (l:=1) (n:=(cP f).length) (by omega) aAs;omega
theorem FrS.ht{c:Nat}(h:FrS f)(hc:c<=f.cols):Ht (cM (cP f) c).1 20:=fun r hr q hq=>by
 have:=tG (e8 f) h.lS (by decide) hc r hr q hq;have:=h.size;omega
end
end Go.Ex
namespace Go.Ex
open Go Go.Sx Go.Proofs
variable{M:List (List Rat)}{s:List Int}{l:List Ld}{n:Nat}{S:Nat->Prop}{vb vl vn vs:Value}{f:ew}
theorem oL{B h:Nat}(hM:fZ n M)(hW:Bp M n B)(hB:1<=B)(hh:ln (fB B M.length)+1<=h):EZ M n h:=
 ⟨fun i hi r hr q hq=>by have:=LL hM hW hB hi r hr q hq;omega,fun i hi k hk q hq=>by have:=LM hM hW hB hi hk q hq;omega⟩
theorem Hy{B h:Nat}(hM:fZ n M)(hW:Bp M n B)(hB:1<=B)(hh:ln (fB B M.length)+1<=h):Ht (dS M n).1 h:=fun r hr q hq=>by
 rw[(mG hM hW).2]at hr;have:=tG hM hW hB (aF n) r (List.mem_of_mem_take hr) q hq;omega
theorem nF(M:List (List Rat))(n:Nat)(hM:fZ n M):(cM M n).2.length<=(cM M n).1.length∧(cM M n).2.length<=n:=by
 obtain⟨r1,r2,r3,r4,r5⟩:=dV hM n (aF _);have:=(iK M n).2.2;unfold cM at*
 exact⟨r2,by omega⟩
theorem KK{w:World}(hS:Old S w)(hf:dT w S vn vb vs f)(RS:eJ f=0->FrS f):
  eD PG N.sF #[.agg #[vn,vb,vs]] w (eG w fun v' _=>(eJ f≠0∧v'= .tuple #[.agg #[.int .i64 0,.int .i64 0,.int .i64 0],.int .i64 (eJ f)])∨(eJ f=0∧v'= .tuple #[.agg #[.int .i64 (oQ (cP f) f.cols),.int .i64 ((f.cols:Int)-oQ (cP f) f.cols),.int .i64 ((3*f.nodes.length:Nat)-oQ (cP f) f.cols)],.int .i64 0])):=by
 have hw:=bR w;obtain⟨an,cn,ab,cb,aq,cq,rfl,rfl,rfl,Qj,RJ,R6⟩:=hf.shape;have Pz:f.cols=f.bars.length+f.cV.length:=rfl;have SM:=GQ f;obtain⟨e0,EE⟩:∃e,eJ f=e:=⟨_,rfl⟩
 refine wV (by simp) ?_;refine cD (cE hw (fun _ w' v w2=>v= .int .i64 e0) (fun O w' r=>(BT (oS hS r) (hf.cI (kS hw r hS))).mono fun _ _ ⟨v2,e1,e2,e3⟩=>⟨v2,e1,e2,by rw[e3,EE]⟩) ?_);rintro O QA v1 Pg OP r he hw h_ rfl;refine dI.mk ?_ ?_<;>intro he
 ·have he:e0≠0:=by simpa using he
  exact rtn hw fun ρe we re=>.inl ⟨by rw[EE];exact he,by rw[EE];rfl⟩
 have he:e0=0:=by simpa using he
 have OS:eJ f=0:=by rw[EE,he]
 have Oe:=RS OS;have OM:=kA OS;refine cD (cE hw (fun _ w' v w2=>(∃vr,v= .agg #[vr,.int .i64 f.cols]∧cR w2 (Nf w' w2) vr (cP f))∧fZ f.cols (cP f)∧Ht (cP f) 2) (fun O w' r=>tc (S:=S) (oS hS r) (hf.cI (kS hw r hS)) OM) ?_);rintro O _ _ _ ivt r he hw h_ ⟨⟨vr,rfl,k1⟩,hlen,hht⟩;have hM:=cR.dB (S:=FF) k1 r.cF (mN h_);obtain⟨am,cm,rfl,SC,SA⟩:=c9.shape hM;have SR:=Oe.HB;have R9:=Oe.H3;refine cD (cE hw (fun _ w' v w2=>∃vr vp vf,v= .agg #[vr,.int .i64 f.cols,vp,vf]∧cR w2 (Nw (Cf w ivt) w' w2) vr (dS (cP f) f.cols).1) (fun O w' r=>(BX (C:=Cf w ivt) (S:=Cf w ivt) (h:=20) (Rel.old r (cC w)) (Rel.old r (cC w)) (cR.rel hM r (cC w)) hlen (by omega) (by omega) (oL hlen Oe.lS (by decide) (by have:=Oe.size;omega)) (by decide)).mono fun _ _ ⟨v2,e1,e2,vr,vp,vf,k1,k2,_,_⟩=>⟨v2,e1,e2,vr,vp,vf,k1,k2⟩) ?_);rintro O _ _ _ ON r he hw h_ ⟨vr2,vp2,vf2,rfl,hn⟩;replace hM:=cR.cG hM r (cC w) he (mC h_);obtain⟨ar,cr,rfl,-,-⟩:=c9.shape hn;have hrk:(dS (cP f) f.cols).1.length=oQ (cP f) f.cols:=by
  rw[(mG hlen Oe.lS).2,aW,Nat.min_eq_left (nF _ _ hlen).1]
 rw[hrk];have hle:oQ (cP f) f.cols<=f.cols:=(nF _ _ hlen).2;obtain⟨nr,hnr⟩:∃nr,oQ (cP f) f.cols=nr:=⟨_,rfl⟩
 rw[hnr]at hle ⊢;refine⟨(f.cols:Int)-nr,wo,((cP f).length:Int)-nr,wo,?_⟩;exact rtn hw fun ρe we re=>.inr ⟨OS,by rw[SM];rfl⟩
theorem KL{α β:Type}(g:List α->List β)(hg:∀r,(g r).length=r.length):∀M:List (List α),eU (M.map g)=eU M
 |[]=>rfl
 |r::M=>hg r
theorem GZ(hlen:fZ n M)(VH:0<M.length∨n=0):eU (M.map jY)=n:=by
 rw[KL jY fun r=>xJ r]
 cases M with
 |nil=>
  rcases VH with h|h
  ·exact absurd h (Nat.lt_irrefl 0)
  ·exact h.symm
 |cons r M=>exact hlen r aG
section
variable{S:Nat->Prop}{w:World}{v u:Value}{M:List (List Rat)}{b:List Rat}{n h0:Nat}
theorem DS(hlen:fZ n M)(hc:eU (M.map jY)=n):∀r∈M.map jY,r.length=eU (M.map jY):=fun r hr=>by
 obtain⟨x,hx,rfl⟩:=aT.1 hr;rw[hc,xJ];exact hlen x hx
theorem NY(hB:∀c,c<=n->Ht (cM M c).1 h0):Ht M h0:=hB 0 (aO _)
theorem Ga(h:cR w S v M)(hq:Ht M h0)(hh:3*h0<=90000):dK w S v (fY (M.map Ex.jY)):=by
 rw[BY];exact h.l fun r hr q QO=>by have:=hq r hr q QO;omega
theorem Hz(hS:Old S w)(h:cR w S v M)(hlen:fZ n M)(VH:0<M.length∨n=0)(hR:M.length<=1000)(hn:n<=1000)(hB:∀c,c<=n->Ht (cM M c).1 h0)(hh:3*h0<=90000):
  eD PG N.oo #[v] w (eG w fun v' w2=>cR w2 (Nf w w2) v' (cT M n)):=by
 have hc:=GZ hlen VH;refine(Hu (h0:=h0) hS h.jY (Ga h (NY hB) hh) (DS hlen hc) (by rw[aJ];exact hR) (by rw[hc];exact hn) (by rw[hc,BY];exact hB) hh).mono fun e w2 ⟨v2,e1,e2,e3⟩=>⟨v2,e1,e2,by rw[BY,hc]at e3;exact e3⟩
theorem DT(hS:Old S w)(h:cR w S v M)(hb:cN w S u b)(hlen:fZ n M)(VH:0<M.length∨n=0)(Pr:b.length=M.length)(hbq:∀q∈b,rl q<=100000)(hMq:Ht M h0)(hR:M.length<=1000)(hn:n<=999)(hB:∀c,c<=n->Ht (cM (dL M b) c).1 h0)(hh:3*h0<=90000):
  eD PG N.qV #[v,u] w (eG w fun v' w2=>(eW M b n=none∧v'= .tuple #[.slice none 0 0,.bool false])∨∃x vx,eW M b n=some x∧v'= .tuple #[vx,.bool true]∧cN w2 (Nf w w2) vx x):=by
 have hc:=GZ hlen VH;refine(KJ (h0:=h0) (b:=jY b) hS h.jY (Ga h hMq hh) (by rw[nG];exact hb.l hbq) (DS hlen hc) (by rw[xJ,aJ];exact Pr) (by rw[aJ];exact hR) (by rw[hc];exact hn) (by rw[hc,BY,nG];exact hB) hh).mono fun e w2 ⟨v2,e1,e2,e3⟩=>⟨v2,e1,e2,?_⟩
 rw[BY,nG,hc,aJ]at e3;unfold eW;rcases e3 with⟨j,h1,h2,h3,h4⟩|⟨h1,vx,h2,h3⟩
 ·left;refine⟨?_,h4⟩;rw[aK fun QH=>h3 (QH j h2 h1)]
 ·right;refine⟨_,vx,if_pos fun j h4 h5=>h1 j h5 h4,h2,h3⟩
end
theorem FrS.col(h:FrS f):0<3*f.nodes.length∨f.cols=0:=by
 rcases bJ f.nodes.length with h0|h0
 ·right;have h1:f.bars=[]:=List.eq_nil_iff_forall_not_mem.2 fun b hb=>by
   obtain⟨ka,kb,_,_,h3,_⟩:=h.NH b hb;omega
  have h2:f.cV=[]:=List.eq_nil_iff_forall_not_mem.2 fun s hs=>by
   have:=(h.sup s hs).1;omega
  unfold ew.cols;rw[h1,h2];rfl
 ·left;omega
theorem Gb{w:World}(hS:Old S w)(hf:dT w S vn vb vs f)(OS:eJ f=0)(Oe:FrS f):
  eD PG N.qO #[.agg #[vn,vb,vs]] w (eG w fun v' w2=>cR w2 (Nf w w2) v' (cT (cP f) f.cols)):=by
 have hw:=bR w;obtain⟨an,cn,ab,cb,aq,cq,rfl,rfl,rfl,Qj,RJ,R6⟩:=hf.shape;have Pz:f.cols=f.bars.length+f.cV.length:=rfl;have SM:=ef f;have SR:=Oe.HB;have R9:=Oe.H3;have hlen:=e8 f;refine uv (by simp) ?_;refine cD (cE hw (fun _ w' v w2=>ta w2 (Nf w' w2) v (iD f)∧GM (iD f) 2000000) (fun O w' r=>xI (oS hS r) (hf.cI (kS hw r hS)) OS) ?_);rintro O _ _ _ OP r he hw h_ ⟨hn,Sh⟩;have hZ:=ta.dB (S:=FF) hn r.cF (mN h_);obtain⟨az,cz,rfl,-,-⟩:=c9.shape hZ;refine cD (cE hw (fun _ w' v w2=>cR w2 (Nf w' w2) v (cP f)) (fun O w' r=>JD (Rel.old r (cC w)) (ta.rel hZ r (cC w)) (by rw[<-aJ (f:=dM)];exact aY R9 (by decide)) (fun l hl=>by rw[j8 f _ l hl];omega) (fun l hl z hz=>by have:=Sh l hl z hz;omega)) ?_);rintro O _ _ _ ON r he hw h_ hn;have hM:=cR.dB (S:=FF) hn r.cF (mN h_);obtain⟨am,cm,rfl,-,-⟩:=c9.shape hM;refine cD (cE hw (fun _ w' v w2=>cR w2 (Nf w' w2) v (cT (cP f) f.cols)) (fun O w' r=>Hz (h0:=20) (Rel.old r (cC w)) (cR.rel hM r (cC w)) hlen (by rw[SM];exact Oe.col) (by omega) (by omega) (fun c hc=>Oe.ht hc) (by decide)) ?_);rintro O _ _ _ OU r he hw h_ hn;have hK:=cR.dB (S:=FF) hn r.cF (mN h_);obtain⟨ak,ck,rfl,-,-⟩:=c9.shape hK;exact rtn hw fun ρe we re=>cR.cJ (cR.rel hK re (cC w)) fun g hg=>Cv.nw hg re
theorem aAa{w:World}(hl:fu w S vl l):eD PG N.Cx #[vl] w (eG w fun v' _=>∃d,v'= .bool d):=by
 have hw:=bR w;obtain⟨al,cl,rfl,-,Qg⟩:=hl.shape;refine EA (by simp) ?_;refine dI.mk ?_ ?_<;>intro h1
 ·conv=>whnf
  exact rtn hw fun ρe we re=>⟨_,rfl⟩
 refine dI.mk ?_ ?_<;>intro h1
 ·conv=>whnf
  exact rtn hw fun ρe we re=>⟨_,rfl⟩
 exact rtn hw fun ρe we re=>⟨_,rfl⟩
theorem CJ{w:World}(hS:Old S w)(hf:dT w S vn vb vs f)(hl:fu w S vl l):eD PG N.nu #[.agg #[vn,vb,vs],vl] w (eG w fun v' _=>v'= .int .i64 (lE f.nodes.length l)):=by
 have hw:=bR w;obtain⟨an,cn,ab,cb,aq,cq,rfl,rfl,rfl,Qj,RJ,R6⟩:=hf.shape;obtain⟨al,cl,rfl,PQ,Qg⟩:=hl.shape;unfold maxLen at Qg;refine rk (by simp) ?_;refine dI.mk ?_ ?_<;>intro h1
 ·have h1:=aI h1;exact rtn hw fun ρe we re=>by show Value.int .i64 _=_;rw[lE,if_pos (by omega)]
 have h1:=aH h1
 refine⟨Nat×World×Iv,fun z=>⟨[(1,sV al l.length cl),(2,pP 0 0),(5,iN z.1)],[(0,.box T.Frame [.v (.slice an f.nodes.length cn),.v (.slice ab f.bars.length cb),.v (.slice aq f.cV.length cq)])],1,z.2.2,z.2.1⟩,fun z=>l.length-z.1,
  fun z=>z.1<=l.length∧dm w.heap.size w z.2.1∧lE f.nodes.length l=eO (fun _=>jq f.nodes.length) (l.take z.1) (l.drop z.1),?_,?_⟩
 ·intro O w' r3;exact⟨(0,w',[]),⟨aO _,hw.tr r3.cQ,by rw[lE,aK (by omega)];rfl⟩,Sub.gn [] r3⟩
 clear hw;rintro⟨i,w1,iv⟩ ⟨hi,hw,hE⟩;dsimp only at hi hw hE ⊢;refine dI.mk ?_ ?_<;>intro OI
 ·have OI:i<l.length:=by simpa using OI
  obtain⟨x,hx⟩:∃x,l[i]? =some x:=⟨_,aB OI⟩
  obtain⟨adx,cs,PS,hP,-,Oo⟩:=hl.load (by decide) hx;have hP:cs=[.int .i64 x.1,.int .i64 x.2.1,.int .i64 x.2.2.1,.int .i64 x.2.2.2]:=hP;subst hP;refine cK hτ da [.x 0,.x 1,.x 2,.x 3,.x 4,.x 5,.x 6,.x 7] (by kernel_rfl) (by kernel_rfl) ?_;refine⟨adx,PS,by omega,.int .i64 x.1,fun O w' r=>?_,?_⟩
  ·obtain⟨k1,k2⟩:=Oo 0 _ rfl;rw[cH (w:=w) (w2:=w') (by simp only[dD];exact(hw.tr r.cQ).block _ (hS _ k1))];simp only[aE,k7]at k2 ⊢;exact k2
  refine cE hw (fun _ w' v w2=>∃d,v= .bool d∧(d=true↔jR f.nodes.length x.1)) (fun O w' r=>rV _ _ _ _ _ _ _ _ _ _ w') ?_;rintro O _ _ _ OP r he hw h_ ⟨d,rfl,hd⟩;clear r
  cases d
  ·have hc:jq f.nodes.length x=6:=by
    unfold jq;rw[aK fun h=>by have:=hd.2 h;cases this]
   exact rtn hw fun ρe we re=>by show Value.int .i64 _=_;rw[hE,cU hx hc (by decide)]
  have hd:=hd.1 rfl;refine⟨adx,PS,by omega,[.int .i64 x.1,.int .i64 x.2.1,.int .i64 x.2.2.1,.int .i64 x.2.2.2],rfl,rdO Oo hw hS,?_⟩;refine cD (cE hw (fun _ w' v w2=>∃d,v= .bool d∧(d=true↔Mz x.2)) (fun O w' r=>KH x w') ?_);rintro O _ _ _ ON r he hw h_ ⟨d2,rfl,PM⟩;clear r
  cases d2
  ·have hc:jq f.nodes.length x=2:=by
    unfold jq;rw[if_pos hd,aK fun h=>by have:=PM.2 h;cases this]
   exact rtn hw fun ρe we re=>by show Value.int .i64 _=_;rw[hE,cU hx hc (by decide)]
  have PM:=PM.1 rfl;have hc:jq f.nodes.length x=0:=by
   unfold jq;rw[if_pos hd];exact if_pos PM
  rw[ff hx hc]at hE;refine⟨((i+1:Nat):Int),wo,?_⟩;intro ρ3 w6 r3;exact⟨(i+1,w6,_),⟨OI,hw.tr r3.cQ,hE⟩,Sub.gn [] r3,by dsimp only;omega⟩
 have OI:i=l.length:=aP hi (by simpa using OI);rw[gv (by omega)]at hE;exact rtn hw fun ρe we re=>by show Value.int .i64 _=_;rw[hE]
theorem pJ{w:World}{v u:Value}{l:List Int}(hS:Old S w)(hx:oR w S v l)(hy:oR w S u l):eD PG N.DA #[v,u] w (eG w fun v' _=>v'= .bool true):=by
 have hw:=bR w;obtain⟨a,c,rfl,-,hm⟩:=hx.shape;obtain⟨a2,c2,rfl,-,-⟩:=hy.shape;unfold maxLen at hm;refine ED (by simp) ?_;refine dI.mk (fun hd=>by simp at hd) (fun _=>?_)
 refine⟨Nat×World×Iv,fun z=>⟨[(0,sV a l.length c),(1,sV a2 l.length c2),(5,iN z.1)],[],0,z.2.2,z.2.1⟩,fun z=>l.length-z.1,
  fun z=>z.1<=l.length∧dm w.heap.size w z.2.1,?_,?_⟩
 ·intro O w' r3;exact⟨(0,w',_),⟨aO _,hw.tr r3.cQ⟩,Sub.gn [] r3⟩
 clear hw;rintro⟨i,w1,iv⟩ ⟨hi,hw⟩;dsimp only at hi hw ⊢;refine dI.mk ?_ ?_<;>intro OI
 ·have OI:i<l.length:=by simpa using OI
  obtain⟨x,hq⟩:∃q,l[i]? =some q:=⟨_,aB OI⟩
  obtain⟨adx,PS,hSx,Oo⟩:=oR.at hx hq;obtain⟨ady,UW,hSy,Qb⟩:=oR.at hy hq;refine cK hτ da [.x 0,.x 1,.x 2,.x 3,.x 4,.x 5,.x 6,.x 7,.x 8] (by kernel_rfl) (by kernel_rfl) ?_;refine⟨adx,PS,by omega,.int .i64 x,rd1 Oo hw (hS _ hSx),ady,UW,by omega,.int .i64 x,rd1 Qb hw (hS _ hSy),?_⟩;refine dI.mk (fun hd=>absurd hd (by simp)) (fun _=>?_);refine⟨((i+1:Nat):Int),wo,?_⟩;intro ρ3 w6 r3;exact⟨(i+1,w6,_),⟨OI,hw.tr r3.cQ⟩,Sub.gn [] r3,by dsimp only;omega⟩
 exact rtn hw fun ρe we re=>rfl
theorem aAb(h:eJ f≠0∨f.nodes.length<=4∧f.bars.length<=6)(h0:eJ f=0):FrS f:=⟨aAU h0,(h.resolve_left fun e=>e h0).1,(h.resolve_left fun e=>e h0).2⟩
theorem MN(h:FrS f):Ht (cP f) 4:=fun r hr q hq=>by
 obtain⟨i,hi⟩:=aR hr;obtain⟨t,ht⟩:=aR hq;have:=h.tJ i t;rw[dF,getD_some hi,getD_some ht]at this;obtain⟨z,rfl,hz⟩:=this;have:rl ((z:Int):Rat)<=2:=NW (by omega);omega
theorem MO{t:Int}(h:Mo s t)(ht:0<=t)(j:Nat): -t<=s.getD j 0∧s.getD j 0<=t:=by
 rcases aQ j s.length with hj|hj
 ·rw[getD_some (aB hj)];exact h _ (aX hj)
 ·rw[List.getD,List.getElem?_eq_none hj];show -t<=0∧0<=t;omega
theorem DV{s:List Int}{x:Ld}{t:Int}(h:Mo s t)(ht:0<=t)(hx:(-1000000<=x.2.1∧x.2.1<=1000000)∧(-1000000<=x.2.2.1∧x.2.2.1<=1000000)∧(-1000000<=x.2.2.2∧x.2.2.2<=1000000)):∀k,k<=3->Mo (gU s x k) (t+1000000*(k:Int))
 |0,_=>by rw[gU];simpa using h
 |k+1,hk=>by
  have ih:=DV h ht hx k (by omega);have hd: -1000000<=(ldC x).getD k 0∧(ldC x).getD k 0<=1000000:=by
   rcases(show k=0∨k=1∨k=2 by omega)with rfl|rfl|rfl
   ·exact hx.1
   ·exact hx.2.1
   ·exact hx.2.2
  have hg:=MO ih (by omega) (3*x.1+k).toNat;rw[gU,I5];exact ih.set (by omega) (by omega)
theorem xK{n:Nat}{l:List Ld}(OM:nB n l):∀i,i<=l.length->Mo (fV n l i) (3000000*(i:Int))
 |0,_=>fun z hz=>by rw[bH hz];decide
 |i+1,hi=>by
  have ih:=xK OM i (by omega);have hm:l.getD i (0,0,0,0)∈l:=by rw[getD_some (aB (show i<l.length by omega))];exact aX _
  have:=DV ih (by omega) (OM.ld _ hm).2 3 (aF _);rw[fV];intro z hz;have:=this z hz;omega
theorem Eb(hn:f.nodes.length<=20)(OM:nB f.nodes.length l):∀q∈eh f l,rl q<=1:=fun q hq=>by
 obtain⟨z,hz,rfl⟩:=aT.1 hq;have:=xK OM l.length (aF _) z hz;have hl:=OM.len;exact xF (by omega) (by omega)
end Go.Ex
namespace Go.Ex
variable{M:List (List Rat)}{l:Nat}{g:Nat->Rat}{D p q:Rat}
structure nY(f:ew):Prop extends FrS f where
 fx:∀q∈cY f,rl q<=3
def Bl(b:List Rat):Prop:=∀t,Ib 1000000000 (b.getD t 0)
theorem Ib.w{B:Nat}(h:Ib B q)(k:B<=wt l):Ib (wt l) q:=h.mono k
theorem wN(a b:Nat)(h:a+b<=l):wt a*wt b<=wt l:=by rw[<-Dj];exact Cd h
theorem Ib.rf{a b:Nat}(h:Ib (wt a) p)(k:Ib (wt b) q)(hl:a+b<=l):Ib (wt l) (p*q):=(h.mul k).mono (wN a b hl)
theorem Ib.up{a:Nat}(h:Ib (wt a) p)(hl:a<=l):Ib (wt l) p:=h.mono (Cd hl)
theorem Ib.aAt{a n:Nat}(hn:n<=18)(h:∀k,k<n->Ib (wt a) (g k))(hl:a+1<=l):Ib (wt l) (cZ g n):=
 (Ib.sum n h).mono (aY (Nat.mul_le_mul_right _ (aY hn (by decide:18<=wt 1))) (wN 1 a (by omega)))
theorem Den.mono{K L:Nat}{l:List Rat}(h:Den K D l)(k:K<=L):Den L D l:=⟨h.1,h.2.1.mono k,fun t=>(h.2.2 t).mono k⟩
theorem HX.mono{K L:Nat}(h:HX K D M)(k:K<=L):HX L D M:=⟨h.1,h.2.1.mono k,fun i t=>(h.2.2 i t).mono k⟩
theorem Cu{k n R m:Nat}(hn:n<=R)(hR:R<=4294967295)(hl:k+1<=l)(hm:l*R+1<=m):ln (fB (wt k) n)<=m∧fB (wt k) n<=wt m:=by
 have h1:=Ns (B:=wt k) (l:=l) hn (aY (Nat.mul_le_mul_right _ (aY hR (by decide:4294967295<=wt 1))) (wN 1 k (by omega)));have h2:l*n+1<=m:=aY (Nat.succ_le_succ (bc _ hn)) hm;exact⟨aY h1 h2,Nat.le_of_lt (gP.1 (aY h1 h2))⟩
section
variable{f:ew}{b x x0 c u:List Rat}
theorem FrS.Dr(h:FrS f)(hb:Bl b):Bp (dL (cP f) b) (f.cols+1) (wt 1):=fun j hj=>by
 rw[dy]at hj;have hw:=fun t=>ji (b:=b) (t:=t) (e8 f) hj;refine⟨1,by decide,Ib.one lD,fun t ht=>?_⟩;rw[bq];rcases aQ t f.cols with h1|h1
 ·rw[(hw t).1 h1];exact(h.tJ j t).w (by decide)
 ·rw[show t=f.cols by omega,(hw 0).2];exact(hb j).w (by decide)
theorem FrS.Ft(h:FrS f):ln (fB (wt 1) (dL (cP f) b).length)<=25:=by
 rw[dy];exact(Cu (l:=2) h.H3 (by decide) (by decide) (by decide)).1
theorem FrS.aAu(h:FrS f)(hb:Bl b)(h0:eW (cP f) b f.cols=some x0):∃D,Den (wt 25) D x0:=by
 obtain⟨D,hD⟩:=AP (e8 f) (h.Dr hb) lD h0;exact⟨D,hD.mono (Cu (l:=2) h.H3 (by decide) (by decide) (by decide)).2⟩
theorem FrS.ker(h:FrS f):∃D,HX (wt 13) D (cT (cP f) f.cols):=by
 obtain⟨D,hD⟩:=NF (e8 f) h.lS (by decide);exact⟨D,hD.mono (Nat.le_of_lt (gP.1 h.size))⟩
theorem FrS.Ik(h:FrS f):(cT (cP f) f.cols).length<=18:=by
 have h1:=AO (e8 f);have h2:=h.HB;omega
theorem AY(f:ew):(cY f).length=f.cols:=by simp[cY,ew.cols]
theorem nY.aAv(h:nY f):Den (wt 54) (kl (cY f) 18) (cY f):=LS (by rw[AY];exact h.HB) h.fx
theorem nY.Lb(h:nY f)(hx:∃D,Den (wt 25) D x0):Bp (dL (eY (cT (cP f) f.cols) (cY f)) (gl (cT (cP f) f.cols) (cY f) x0)) ((cT (cP f) f.cols).length+1) (wt 106):=fun i hi=>by
 rw[dy,eY,aJ]at hi;obtain⟨D0,a1,a2,a3⟩:=hx;obtain⟨D1,b1,b2,b3⟩:=h.ker;obtain⟨c1,c2,c3⟩:=h.aAv;have hn:=h.HB;have hw:=fun t=>ji (b:=gl (cT (cP f) f.cols) (cY f) x0) (t:=t) (og (cT (cP f) f.cols) (cY f)) (j:=i) (by rw[eY,aJ];exact hi);refine⟨kl (cY f) 18*(D1*D1)*D0,rN (rN c1 (rN b1 b1)) a1,(((c2.rf (b2.rf b2 (aF _)) (aF _)).rf a2 (by decide))),fun t ht=>?_⟩;rcases aQ t (cT (cP f) f.cols).length with h1|h1
 ·rw[(hw t).1 h1,wJ _ _ _ hi h1];unfold Ih uP;rw[<-eo];refine Ib.aAt hn (fun k _=>?_) (aF _);rw[show kl (cY f) 18*(D1*D1)*D0*((cY f).getD k 0*(dF (cT (cP f) f.cols) i k*dF (cT (cP f) f.cols) t k))=(kl (cY f) 18*(cY f).getD k 0)*((D1*dF (cT (cP f) f.cols) i k)*(D1*dF (cT (cP f) f.cols) t k))*D0 by grind];exact((c3 k).rf ((b3 i k).rf (b3 t k) (aF _)) (aF _)).rf a2 (by decide)
 ·rw[show t=(cT (cP f) f.cols).length by omega,(hw 0).2,Fk _ _ _ _ hi];unfold uP;rw[show kl (cY f) 18*(D1*D1)*D0* -(cZ (fun t=>(cY f).getD t 0*(dF (cT (cP f) f.cols) i t*x0.getD t 0)) f.cols)= -(kl (cY f) 18*(D1*D1)*D0*cZ (fun t=>(cY f).getD t 0*(dF (cT (cP f) f.cols) i t*x0.getD t 0)) f.cols) by grind,<-eo];refine(Ib.aAt hn (fun k _=>?_) (aF _)).neg;rw[show kl (cY f) 18*(D1*D1)*D0*((cY f).getD k 0*(dF (cT (cP f) f.cols) i k*x0.getD k 0))=(kl (cY f) 18*(cY f).getD k 0)*((D1*dF (cT (cP f) f.cols) i k)*D1)*(D0*x0.getD k 0) by grind];exact((c3 k).rf ((b3 i k).rf b2 (aF _)) (aF _)).rf (a3 k) (by decide)
theorem nY.Il(h:nY f){b:List Rat}:ln (fB (wt 106) (dL (eY (cT (cP f) f.cols) (cY f)) b).length)<=1927:=by
 rw[dy,eY,aJ];exact(Cu (l:=107) h.Ik (by decide) (by decide) (by decide)).1
theorem nY.aAW(h:nY f)(hx:∃D,Den (wt 25) D x0)(hc:eW (eY (cT (cP f) f.cols) (cY f)) (gl (cT (cP f) f.cols) (cY f) x0) (cT (cP f) f.cols).length=some c):∀q∈c,rl q<=1927:=fun q hq=>by
 obtain⟨D,hD⟩:=AP (og _ _) (h.Lb hx) lD hc;have h1:=hD.rl q hq;have h2:=h.Il (b:=[]);rw[dy]at h2;omega
theorem nY.NJ(h:nY f)(hb:Bl b)(Pr:b.length=(cP f).length):Bp (dL (jy (cP f) f.cols fun t=>(cY f).getD t 0) (b++iM (cT (cP f) f.cols).length)) (f.cols+1) (wt 68):=fun j hj=>by
 rw[dy]at hj;obtain⟨D1,b1,b2,b3⟩:=h.ker;obtain⟨c1,c2,c3⟩:=h.aAv;have hw:=fun t=>ji (b:=b++iM (cT (cP f) f.cols).length) (t:=t) (rO (φ:=fun t=>(cY f).getD t 0) (e8 f)) hj;rcases aQ j (cP f).length with h2|h2
 ·refine⟨1,by decide,Ib.one lD,fun t ht=>?_⟩;rw[bq];rcases aQ t f.cols with h1|h1
  ·rw[(hw t).1 h1,Cm h2];exact((h.tJ j t).w (by decide:2000000<=wt 1)).up (by decide)
  ·rw[show t=f.cols by omega,(hw 0).2,ko];exact((hb j).w (by decide:1000000000<=wt 1)).up (by decide)
 ·obtain⟨k,rfl⟩:∃k,j=(cP f).length+k:=⟨j-(cP f).length,by omega⟩
  rw[jI]at hj;refine⟨kl (cY f) 18*D1,rN c1 b1,(c2.rf b2 (by decide)),fun t ht=>?_⟩;rcases aQ t f.cols with h1|h1
  ·rw[(hw t).1 h1,Cn (by omega) h1,show kl (cY f) 18*D1*((cY f).getD t 0*dF (cT (cP f) f.cols) k t)=(kl (cY f) 18*(cY f).getD t 0)*(D1*dF (cT (cP f) f.cols) k t) by grind];exact(c3 t).rf (b3 k t) (by decide)
  ·rw[show t=f.cols by omega,(hw 0).2,ko,gZ (l:=b) (by omega),bD];exact Ib.zero _
theorem nY.Lc(h:nY f){b:List Rat}:ln (fB (wt 68) (dL (jy (cP f) f.cols fun t=>(cY f).getD t 0) b).length)<=2071:=by
 rw[dy,jI];have h1:=h.Ik;have h2:=h.H3;exact(Cu (l:=69) (R:=30) (by omega) (by decide) (by decide) (by decide)).1
theorem Ds(h:rl q<=3):Ib (wt 3) (q.den:Rat):=⟨(q.den:Int),rfl,by have:=(Ie h).2;omega⟩
theorem Le(h:rl q<=3):Ib (wt 3) ((q.den:Rat)*q):=by rw[Ic];exact⟨q.num,rfl,Nat.le_of_lt (Ie h).1⟩
theorem Im(q:Rat):(q.den:Rat)≠0:=fun e=>by
 have:((q.den:Int):Rat)=((0:Int):Rat):=e;exact q.den_nz (by have:=Rat.intCast_inj.1 this;omega)
theorem nY.fxD(h:nY f){t:Nat}(ht:t<f.cols):rl ((cY f).getD t 0)<=3:=by
 have hl:t<(cY f).length:=by rw[AY];exact ht
 rw[getD_some (aB hl)];exact h.fx _ (aX hl)
theorem nY.NK(h:nY f)(hb:Bl b)(Pr:b.length=(cP f).length):Bp (dL (kQ (cP f) f.cols (cY f)) (b++iM f.cols)) ((cP f).length+f.cols+1) (wt 4):=fun j hj=>by
 rw[dy,jK]at hj;have hw:=fun t=>ji (b:=b++iM f.cols) (t:=t) (rR (e8 f) (cY f)) (j:=j) (by rw[jK];exact hj);rcases aQ j (cP f).length with h2|h2
 ·refine⟨1,by decide,Ib.one lD,fun t ht=>?_⟩;rw[bq];rcases aQ t ((cP f).length+f.cols)with h1|h1
  ·rw[(hw t).1 h1];rcases aQ t (cP f).length with h3|h3
   ·rw[(Dp h2).1 h3];exact Ib.zero _
   ·obtain⟨s,rfl⟩:∃s,t=(cP f).length+s:=⟨t-(cP f).length,by omega⟩
    rw[(Dp (t:=s) h2).2];exact((h.tJ j s).w (by decide:2000000<=wt 1)).up (by decide)
  ·rw[show t=(cP f).length+f.cols by omega,(hw 0).2,ko];exact((hb j).w (by decide:1000000000<=wt 1)).up (by decide)
 ·obtain⟨k,rfl⟩:∃k,j=(cP f).length+k:=⟨j-(cP f).length,by omega⟩
  have hk:k<f.cols:=by omega
  have hq:=h.fxD hk;refine⟨(((cY f).getD k 0).den:Rat),Im _,(Ds hq).up (by decide),fun t ht=>?_⟩;rcases aQ t ((cP f).length+f.cols)with h1|h1
  ·rw[(hw t).1 h1];rcases aQ t (cP f).length with h3|h3
   ·rw[(AV (t:=t) hk).1 h3];exact(Ds hq).rf ((h.tJ t k).w (by decide:2000000<=wt 1)) (by decide)
   ·obtain⟨s,rfl⟩:∃s,t=(cP f).length+s:=⟨t-(cP f).length,by omega⟩
    rw[(AV (t:=s) hk).2 (by omega)];split
    ·exact(Le hq).up (by decide)
    ·rw[bD];exact Ib.zero _
  ·rw[show t=(cP f).length+f.cols by omega,(hw 0).2,ko,gZ (l:=b) (by omega),bD];exact Ib.zero _
theorem nY.Lf(h:nY f)(hb:Bl b)(Pr:b.length=(cP f).length)(hx:jz (cP f) f.cols (fun t=>(cY f).getD t 0) b x):∃D,Den (wt 151) D x:=by
 obtain⟨u,hu⟩:=hx.aAr (e8 f);obtain⟨s1,s2⟩:=LZ (e8 f) Pr hx hu;obtain⟨z,hz⟩:=kY (rR (e8 f) (cY f)) s2;have h1:=L0 (e8 f) Pr hz;have h2:=h.uT.one hx h1;obtain⟨D,d1,d2,d3⟩:=AP (rR (e8 f) (cY f)) (h.NK hb Pr) lD hz;have h3:fB (wt 4) (kQ (cP f) f.cols (cY f)).length<=wt 151:=by
  rw[jK];have h1:=h.HB;have h2:=h.H3;exact(Cu (l:=5) (R:=30) (by omega) (by decide) (by decide) (by decide)).2
 refine⟨D,d1,d2.mono h3,fun t=>?_⟩;rw[h2,List.getD,List.getElem?_drop,<-List.getD];exact(d3 _).mono h3
theorem nY.Cw(h:nY f)(hb:Bl b)(Pr:b.length=(cP f).length)(hx:jz (cP f) f.cols (fun t=>(cY f).getD t 0) b x):∀q∈x,rl q<=152:=fun q hq=>by
 obtain⟨D,hD⟩:=h.Lf hb Pr hx;have:=hD.rl q hq;have h2:ln (wt 151)<=152:=gP.2 (IX (by decide));omega
theorem nY.Jr(h:nY f)(Pk:x.length=f.cols)(hx:∃D,Den (wt 151) D x):Bp (dL (ee (cP f) f.cols) (cW (fR x (cY f)) (-1))) ((cP f).length+1) (wt 156):=fun j hj=>by
 rw[dy,e9]at hj;obtain⟨D,d1,d2,d3⟩:=hx;have hq:=h.fxD hj;have hw:=fun t=>ji (b:=cW (fR x (cY f)) (-1)) (t:=t) (jJ (cP f) f.cols) (j:=j) (by rw[e9];exact hj);refine⟨(((cY f).getD j 0).den:Rat)*D,rN (Im _) d1,(Ds hq).rf d2 (by decide),fun t ht=>?_⟩;rcases aQ t (cP f).length with h1|h1
 ·rw[(hw t).1 h1,ns hj];exact((Ds hq).rf d2 (aF _)).rf ((h.tJ t j).w (by decide:2000000<=wt 1)) (by decide)
 ·rw[show t=(cP f).length by omega,(hw 0).2,AW x _ Pk hj,show(((cY f).getD j 0).den:Rat)*D* -((cY f).getD j 0*x.getD j 0)= -(((((cY f).getD j 0).den:Rat)*(cY f).getD j 0)*(D*x.getD j 0)) by grind];exact((Le hq).rf (d3 j) (by decide)).neg
theorem nY.H4(h:nY f){b:List Rat}:ln (fB (wt 156) (dL (ee (cP f) f.cols) b).length)<=2827:=by
 rw[dy,e9];exact(Cu (l:=157) h.HB (by decide) (by decide) (by decide)).1
end
end Go.Ex
namespace Go.Ex
open Go Go.Sx Go.Proofs
end Go.Ex
namespace Go.Sx
open Go Go.Ex Go.Proofs
variable{cs:List Value}{T:Nat->Prop}{O:Nat->Sx.di}
theorem Rel.nH{H:Hp}{nx:Nat}{iv:Iv}{B:Nat}{w w':World}(r:Rel H nx iv B w O w'){id t m sz:Nat}(h:dE H id=some (.vec t sz cs))(hm:cs.length=m*sz)(SK:m<=maxLen)(hs:0<sz)(h1:∀u∈cs,u.oneCell'=true)(hT:(O id).nil=false->T (O id).g):
  gO w' T sz ((At.w id m).den O) cs m:=by
 rcases r.fits h with⟨hn,rfl⟩|⟨hn,spare,h2,h3,h4⟩
 ·have TR:m=0:=by
   rcases bJ m with h|h
   ·exact h
   ·have:=Nat.mul_pos h hs;simp at hm;omega
  subst TR;have Qv:(At.w id 0).den O= .slice none 0 0:=by simp[At.den,hn]
  rw[Qv];exact⟨aO _,by simp,by simp,none,0,rfl,aF _,fun j u h=>by cases h⟩
 ·have Qv:(At.w id m).den O= .slice (some ⟨(O id).g,0,none⟩) m (O id).cap:=by simp[At.den,hn]
  rw[Qv];refine⟨SK,hm,h1,_,_,rfl,?_,fun j u hu=>⟨_,rfl,hT hn,?_⟩⟩
  ·rw[List.length_append,hm]at h3;exact bp (show m*sz<=(O id).cap*sz by omega) hs
  ·rw[dZ,cell_of h2,aS,aL (aD.1 hu).1];exact hu
end Go.Sx
namespace Go.Ex
open Go Go.Sx Go.Proofs
variable{p:List Rat}{g:Nat}{S T:Nat->Prop}
section
variable{S:Nat->Prop}{H:Hp}{nx:Nat}{iv iv':Iv}{B n:Nat}{w w' w2:World}{O:Nat->Sx.di}{v:Value}{qs:List Rat}
theorem Bs.fresh(r:Rel H nx iv B w O w')(hx:∀g,v.ownBlock=some g->g<w'.heap.size)(hg:Nf w' w2 g):Bs S B ((w'.heap.size,w2.heap.size)::iv) v g:=by
 rcases hg with hg|hg
 ·exact hg.elim
 ·exact⟨.inr ⟨by have:=r.cF;omega,_,_,aG,hg.1,hg.2⟩,fun e=>by have:=hx g e;omega⟩
theorem Bs.solved(r:Rel H nx iv B w O w')(hx:∀g,v.ownBlock=some g->g<w'.heap.size)(hT:∀g,T g->Bs S B iv v g)(hg:Cv T w'.heap.size [(w'.heap.size,w2.heap.size)] g):Bs S B ((w'.heap.size,w2.heap.size)::iv) v g:=by
 rcases hg with hg|⟨h1,lo,hi,h2,h3,h4⟩
 ·exact Bs.mono (fun p hp=>List.mem_cons_of_mem _ hp) (hT g hg)
 ·simp at h2;obtain⟨rfl,rfl⟩:=h2;exact Bs.fresh r hx (.inr ⟨h3,h4⟩)
end
section
variable{S:Nat->Prop}{H:Hp}{nx:Nat}{iv iv':Iv}{B:Nat}{w w' w2:World}{O:Nat->Sx.di}{v v0:Value}{q:Rat}
theorem mX.rel(h:cS w (Bs S B iv v) v0 q)(r:Rel H nx iv B w O w')(hS:∀g,S g->g<B):cS w' (Bs S B iv v) v0 q:=cS.cI h (Bs.same r hS)
theorem mX.fresh(h:cS w2 (Nf w' w2) v0 q)(r:Rel H nx iv B w O w')(hx:∀g,v.ownBlock=some g->g<w'.heap.size):cS w2 (Bs S B ((w'.heap.size,w2.heap.size)::iv) v) v0 q:=cS.cJ h fun _ hg=>Bs.fresh r hx hg
theorem mX.cv(h:cS w (Bs S B iv v) v0 q):cS w (Cv S B iv) v0 q:=cS.cJ h fun _ hg=>hg.1
end
section
variable{S:Nat->Prop}{H:Hp}{nx:Nat}{iv iv':Iv}{B:Nat}{w w' w2:World}{O:Nat->Sx.di}{v v0:Value}{K:List (List Rat)}
theorem gN.rel(h:cR w (Bs S B iv v) v0 K)(r:Rel H nx iv B w O w')(hS:∀g,S g->g<B):cR w' (Bs S B iv v) v0 K:=cR.cI h (Bs.same r hS)
theorem gN.cG(h:cR w (Bs S B iv v) v0 K)(r:Rel H nx iv B w O w')(hS:∀g,S g->g<B)(he:Ext w' w2)(hm:∀p,p∈iv->p∈iv'):cR w2 (Bs S B iv' v) v0 K:=
 cR.cJ (cR.cI (gN.rel h r hS) fun g hg=>he.block g (Rel.old r hS g hg.1)) fun _ hg=>Bs.mono hm hg
theorem gN.fresh(h:cR w2 (Nf w' w2) v0 K)(r:Rel H nx iv B w O w')(hx:∀g,v.ownBlock=some g->g<w'.heap.size):cR w2 (Bs S B ((w'.heap.size,w2.heap.size)::iv) v) v0 K:=cR.cJ h fun _ hg=>Bs.fresh r hx hg
theorem gN.kept(h:cR w (Bs S B iv v) v0 K)(r:Rel H nx iv B w O w')(hS:∀g,S g->g<B)(hg:w'.grownBy w2 v.ownBlock):cR w2 (Bs S B iv v) v0 K:=cR.cI h (Bs.kept r hS hg fun _ e=>e)
end
section
variable{S:Nat->Prop}{H:Hp}{nx:Nat}{iv iv':Iv}{B:Nat}{w w' w2:World}{O:Nat->Sx.di}{v v0:Value}{xs:List Rat}
theorem ei.rel(h:cN w (Bs S B iv v) v0 xs)(r:Rel H nx iv B w O w')(hS:∀g,S g->g<B):cN w' (Bs S B iv v) v0 xs:=cN.cI h (Bs.same r hS)
theorem ei.cG(h:cN w (Bs S B iv v) v0 xs)(r:Rel H nx iv B w O w')(hS:∀g,S g->g<B)(he:Ext w' w2)(hm:∀p,p∈iv->p∈iv'):cN w2 (Bs S B iv' v) v0 xs:=
 cN.cJ (cN.cI (ei.rel h r hS) fun g hg=>he.block g (Rel.old r hS g hg.1)) fun _ hg=>Bs.mono hm hg
theorem ei.fresh(h:cN w2 (Nf w' w2) v0 xs)(r:Rel H nx iv B w O w')(hx:∀g,v.ownBlock=some g->g<w'.heap.size):cN w2 (Bs S B ((w'.heap.size,w2.heap.size)::iv) v) v0 xs:=cN.cJ h fun _ hg=>Bs.fresh r hx hg
theorem ei.cv(h:cN w (Bs S B iv v) v0 xs):cN w (Cv S B iv) v0 xs:=cN.cJ h fun _ hg=>hg.1
theorem ei.kept(h:cN w (Bs S B iv v) v0 xs)(r:Rel H nx iv B w O w')(hS:∀g,S g->g<B)(hg:w'.grownBy w2 v.ownBlock):cN w2 (Bs S B iv v) v0 xs:=cN.cI h (Bs.kept r hS hg fun _ e=>e)
end
section
variable{S:Nat->Prop}{H:Hp}{nx:Nat}{iv iv':Iv}{B:Nat}{w w' w2:World}{O:Nat->Sx.di}{v v0:Value}{rv:List Value}{K:List (List Rat)}
theorem nT.rel(h:dQ w (Bs S B iv v) rv K)(r:Rel H nx iv B w O w')(hS:∀g,S g->g<B):dQ w' (Bs S B iv v) rv K:=dQ.cI h (Bs.same r hS)
theorem nT.cG(h:dQ w (Bs S B iv v) rv K)(r:Rel H nx iv B w O w')(hS:∀g,S g->g<B)(he:Ext w' w2)(hm:∀p,p∈iv->p∈iv'):dQ w2 (Bs S B iv' v) rv K:=
 dQ.cJ (dQ.cI (nT.rel h r hS) fun g hg=>he.block g (Rel.old r hS g hg.1)) fun _ hg=>Bs.mono hm hg
end
section
variable{S:Nat->Prop}{H:Hp}{nx:Nat}{iv iv':Iv}{B:Nat}{w w' w2:World}{O:Nat->Sx.di}{v v0:Value}{css:List (List Value)}{xs:List Rat}
theorem kG.rel(h:dU w (Bs S B iv v) css xs)(r:Rel H nx iv B w O w')(hS:∀g,S g->g<B):dU w' (Bs S B iv v) css xs:=dU.cI h (Bs.same r hS)
theorem kG.cG(h:dU w (Bs S B iv v) css xs)(r:Rel H nx iv B w O w')(hS:∀g,S g->g<B)(he:Ext w' w2)(hm:∀p,p∈iv->p∈iv'):dU w2 (Bs S B iv' v) css xs:=
 dU.cJ (dU.cI (kG.rel h r hS) fun g hg=>he.block g (Rel.old r hS g hg.1)) fun _ hg=>Bs.mono hm hg
end
theorem Gc{st:List (List Rat)}{c x:List Rat}{a b:Nat}(hx:∀q∈x,rl q<=a)(hs:∀r∈st,∀q∈r,rl q<=b)(hc:∀q∈c,rl q<=b):∀i,∀q∈jx st c x i,rl q<=a+i*(2*b+5)
 |0,q,hq=>by have:=hx q hq;omega
 |i+1,q,hq=>by
  rw[jx]at hq;obtain⟨k,hk⟩:=aR hq;rw[List.getElem?_mapIdx]at hk;obtain⟨p,hp,rfl⟩:=Option.map_eq_some_iff.1 hk;have h1:=Gc hx hs hc i p (aC hp);have h0:rl 0<=2:=by decide
  have h2:rl (c.getD i 0)<=b+2:=by
   rcases aQ i c.length with h|h
   ·rw[getD_some (aB h)];have:=hc _ (aX h);omega
   ·rw[gZ h];omega
  have h3:rl ((st.getD i []).getD k 0)<=b+2:=by
   rcases aQ i st.length with h|h
   ·rw[getD_some (d:=[]) (aB h)];rcases aQ k (st[i]).length with h4|h4
    ·rw[getD_some (aB h4)];have:=hs _ (aX h) _ (aX h4);omega
    ·rw[gZ h4];omega
   ·rw[show st.getD i []=[] by rw[List.getD,List.getElem?_eq_none h];rfl];exact aY h0 (Nat.le_add_left _ _)
  have h4:=nP p (c.getD i 0*(st.getD i []).getD k 0);have h5:=j9 (c.getD i 0) ((st.getD i []).getD k 0);rw[Nat.add_mul];omega
set_option maxHeartbeats 2000000 in
set_option maxRecDepth 8000 in
theorem lj{w:World}{vn vb vs u:Value}{f:ew}(hS:Old S w)(hf:dT w S vn vb vs f)(OS:eJ f=0)(Of:nY f)(hp:cN w S u p)(Pe:p.length=3*f.nodes.length)(WO:∀q∈p,rl q<=100000)(hb:Bl (cW p (-1))):
  eD PG N.qR #[.agg #[vn,vb,vs],u] w (eG w fun v' w2=>(eW (cP f) (cW p (-1)) f.cols=none∧v'= .tuple #[.slice none 0 0,.bool false])∨∃x vx,jz (cP f) f.cols (fun t=>(cY f).getD t 0) (cW p (-1)) x∧v'= .tuple #[vx,.bool true]∧cN w2 (Nf w w2) vx x):=by
 have hw:=bR w;obtain⟨an,cn,ab,cb,aq,cq,rfl,rfl,rfl,Qj,RJ,R6⟩:=hf.shape;have OM:=kA OS;have hlen:=e8 f;have SM:=ef f;have SR:=Of.HB;have R9:=Of.H3;have OY:=pE f;have Pz:f.cols=f.bars.length+f.cV.length:=rfl;obtain⟨ap,cp,rfl,hcp,hmp⟩:=dH.shape hp;have Pr:(cW p (-1)).length=(cP f).length:=by rw[cW,aJ,SM];exact Pe
 have hw0:=Of.Dr hb;have OT:=Of.Ft (b:=cW p (-1));refine ux (by simp) ?_;refine cD (cE hw (fun _ w' v w2=>(∃vr,v= .agg #[vr,.int .i64 f.cols]∧cR w2 (Nf w' w2) vr (cP f))∧fZ f.cols (cP f)∧Ht (cP f) 2) (fun O w' r=>tc (S:=S) (oS hS r) (hf.cI (kS hw r hS)) OM) ?_);rintro O _ _ _ OP r he hw h_ ⟨⟨vr,rfl,k1⟩,-,-⟩;have hM:=cR.dB (S:=FF) k1 r.cF (mN h_);clear r;obtain⟨am,cm,rfl,SC,SA⟩:=c9.shape hM;refine cK hτ da [.x 0,.x 1,.x 2,.x 3,.x 4,.x 5,.x 6,.x 7,.x 8,.x 9] (by kernel_rfl) (by kernel_rfl) ?_;refine cE hw (fun _ w' v w2=>cS w2 (Nf w' w2) v ((-1:Int):Rat)) (fun O w' r=>kC (-1) w' (by decide) (by decide)) ?_;rintro O _ v2 _ ON r he hw h_ hn;replace hM:=cR.cG hM r (cC w) he (mC h_);have hd:=hn.dB (S:=FF) r.cF (mN h_);clear r;obtain⟨A0,A1,A2,A3,A4,A5,A6,A7,rfl⟩:=hd.shape;refine cE hw (fun _ w' v w2=>df w2 FF w'.heap.size [(w'.heap.size,w2.heap.size)] v p.length (cW p (-1))) (fun O w' r=>DH (S:=Cv S w.heap.size ON) (Rel.old r hS) (cX.cJ (cN.l (cN.cI hp (kS hw r hS)) fun q hq=>by have:=WO q hq;omega) fun g hg=>.inl hg) (((hd.rel r (cC w)).l (by decide)).cJ fun g hg=>yE hg) (by omega)) ?_;rintro O _ _ _ OU r he hw h_ hn;replace hM:=cR.cG hM r (cC w) he (mC h_);clear hd;have hB:=hn.dB (S:=FF) r.cF (mN h_);clear r;clear hn;obtain⟨a3,c3,rfl,hc3⟩:=hB.row.form;refine cO (Φ:=fun _ w' v w2=>(eW (cP f) (cW p (-1)) f.cols=none∧v= .tuple #[.slice none 0 0,.bool false])∨∃x vx,eW (cP f) (cW p (-1)) f.cols=some x∧v= .tuple #[vx,.bool true]∧df w2 (Cf w OU) w'.heap.size [(w'.heap.size,w2.heap.size)] vx f.cols x) (fun O w' r=>wG (M:=cP f) (b:=cW p (-1)) hlen hw0▸GK (C:=Cf w OU) (S:=Cf w OU) (h:=30) (Rel.old r (cC w)) (Rel.old r (cC w)) (cR.rel hM r (cC w)) ((hB.rel r (cC w)).c) Pr hlen (by omega) (by omega) (oL (gI hlen) hw0 lD (by rw[uN]at *;omega)) (by decide)) ?_;rintro O Qd v4 Q5 r he hb (⟨SB,rfl⟩|⟨x0,vx,SO,rfl,k2⟩)
 ·replace hw:=hw.tr hb;clear r he hb;exact rtn hw fun ρe we re=>.inl ⟨SB,rfl⟩
 replace hw:=hw.tr hb;replace hM:=cR.cG (iv':=(Qd.heap.size,Q5.heap.size)::OU) hM r (cC w) he fun x hx=>List.mem_cons_of_mem _ hx;have hX:=k2.aBA r.cF;clear r he hb k2 hB;generalize (Qd.heap.size,Q5.heap.size)::OU=OW at*
 obtain⟨ax,cx,rfl,Wm⟩:=hX.row.form;obtain⟨hx0l,-⟩:=kX hlen SO;have hx0D:=Of.aAu hb SO;have WQ:∀q∈x0,rl q<=26:=fun q hq=>by
  obtain⟨D,hD⟩:=hx0D;have h1:=hD.rl q hq;have h2:ln (wt 25)<=26:=gP.2 (IX (by decide));omega
 have hw1:=Of.Lb hx0D;have OV:=Of.Il (b:=gl (cT (cP f) f.cols) (cY f) x0);obtain⟨c,hc,PQ,WR⟩:=Of.uT.force (fl:=cY f) SO;have TM:=Of.aAW hx0D hc;have hKr:∀r∈cT (cP f) f.cols,∀q∈r,rl q<=14:=fun r hr q hq=>by
  obtain⟨D,hD⟩:=Of.ker;have h1:=hD.rl r hr q hq;have h2:ln (wt 13)<=14:=gP.2 (IX (by decide));omega
 have hKl:=j7 (cP f) f.cols;have hK18:=Of.Ik;have hSl:=og (cT (cP f) f.cols) (cY f);have hfx:=Of.fx;have Qx:=wG (M:=eY (cT (cP f) f.cols) (cY f)) (b:=gl (cT (cP f) f.cols) (cY f) x0) hSl hw1;rw[hc]at Qx;have hredB:=oL (M:=dL (eY (cT (cP f) f.cols) (cY f)) (gl (cT (cP f) f.cols) (cY f) x0)) (h:=1930) (gI hSl) hw1 lD (by omega);refine cK hτ da [.x 0,.x 2,.x 1,.x 3,.x 4,.x 5] (by kernel_rfl) (by kernel_rfl) ?_;refine cO (Φ:=fun _ w' v w2=>cR w2 (Nf w' w2) v (cT (cP f) f.cols)) (fun O w' r=>HW (M:=cP f) (n:=f.cols) hlen Of.lS▸Hx (C:=Cf w OW) (S:=Cf w OW) (h:=20) (Rel.old r (cC w)) (Rel.old r (cC w)) (cR.rel hM r (cC w)) hlen (by omega) (by omega) (oL hlen Of.lS (by decide) (by have:=Of.size;omega)) (Hy hlen Of.lS (by decide) (by have:=Of.size;omega)) (by decide)) ?_;rintro O R1 v5 RR r he PL hn;replace hw:=hw.tr PL;have Qe:∀g,(Value.slice ax f.cols cx).ownBlock=some g->g<R1.heap.size:=fun g e=>Rel.old r (cC w) g (hX.new g e);clear hM;replace hX:=hX.cG (iv':=(R1.heap.size,RR.heap.size)::OW) r (cC w) he fun x hx=>List.mem_cons_of_mem _ hx;have hK:=gN.fresh (S:=FF) (v:=(.slice ax f.cols cx)) hn r Qe;clear r he PL Qe hn;generalize (R1.heap.size,RR.heap.size)::OW=Pb at*
 obtain⟨ak,ck,rfl,hck,Uc⟩:=c9.shape hK;refine cO (Φ:=fun _ w' v w2=>cX w2 (Nw S w' w2) v (cY f)) (fun O w' r=>DL (S:=S) (oS hS r) (hf.cI (kS hw r hS)) OM) ?_;rintro O Rx v6 SG r he PL hn;replace hw:=hw.tr PL;have Qe:∀g,(Value.slice ax f.cols cx).ownBlock=some g->g<Rx.heap.size:=fun g e=>Rel.old r (cC w) g (hX.new g e);replace hX:=hX.cG (iv':=(Rx.heap.size,SG.heap.size)::Pb) r (cC w) he fun x hx=>List.mem_cons_of_mem _ hx;replace hK:=gN.cG (iv':=(Rx.heap.size,SG.heap.size)::Pb) hK r (cC w) he fun x hx=>List.mem_cons_of_mem _ hx;have hL:=cX.cJ (S':=Cv S w.heap.size ((Rx.heap.size,SG.heap.size)::Pb)) hn fun g hg=>hg.elim .inl fun h=>.inr ⟨by have:=r.cF;omega,_,_,aG,h.1,h.2⟩;clear r he PL Qe hn;generalize (Rx.heap.size,SG.heap.size)::Pb=Qk at*
 obtain⟨al,cl,rfl,R7,Qg⟩:=dH.shape hL;rw[OY]
 refine⟨Nat×List Value×List (List Value)×World×Iv,fun z=>⟨[(7,sV ax f.cols cx),(9,.o (.v (.slice ak (cT (cP f) f.cols).length ck))),(10,sV al f.cols cl),(11,pP 2 0),(43,.o (.v (.slice ak (cT (cP f) f.cols).length ck))),(44,.o (.v (.int .i64 (cT (cP f) f.cols).length))),(12,.o (.w 4 z.2.2.1.length)),(45,iN z.1)],[(2,.box T.dx [.w 3 z.2.1.length,.v (.int .i64 (cT (cP f) f.cols).length)]),(3,.vec T.fc 1 z.2.1),(4,.vec T.Rat 4 z.2.2.1.flatten)],5,z.2.2.2.2,z.2.2.2.1⟩,fun z=>(cT (cP f) f.cols).length-z.1,
  fun z=>z.1<=(cT (cP f) f.cols).length∧dm w.heap.size w z.2.2.2.1∧df z.2.2.2.1 FF w.heap.size z.2.2.2.2 (.slice ax f.cols cx) f.cols x0∧cR z.2.2.2.1 (Bs FF w.heap.size z.2.2.2.2 (.slice ax f.cols cx)) (.slice ak (cT (cP f) f.cols).length ck) (cT (cP f) f.cols)∧cX z.2.2.2.1 (Cv S w.heap.size z.2.2.2.2) (.slice al f.cols cl) (cY f)∧dQ z.2.2.2.1 (Bs FF w.heap.size z.2.2.2.2 (.slice ax f.cols cx)) z.2.1 ((eY (cT (cP f) f.cols) (cY f)).take z.1)∧dU z.2.2.2.1 (Bs FF w.heap.size z.2.2.2.2 (.slice ax f.cols cx)) z.2.2.1 ((gl (cT (cP f) f.cols) (cY f) x0).take z.1),?_,?_⟩
 ·intro O w' r3;exact⟨(0,[],[],w',_),⟨aO _,hw.tr r3.cQ,hX.rel r3 (cC w),gN.rel hK r3 (cC w),by have:=cX.rel hL r3 hS;rw[OY]at this;exact this,by simp[dQ],dU.nil⟩,Sub.CF 2 0 T.fc 1 rfl rfl (by simp[jQ,SV.sc,At.sc,fP]) r3 fun ρ1 r1=>Sub.nil 12 T.Rat 4 rfl (by simp[jQ,SV.sc,At.sc,fP]) r1 fun ρ2 r2=>Sub.gn [] r2⟩
 clear hw hX hK hL;rintro⟨i,rv,rc,w7,iv⟩ ⟨hi,hw,hX,hK,hL,hR,hG⟩;dsimp only at hi hw hX hK hL hR hG ⊢;have Ou:rv.length=i:=by rw[hR.1,aW,eY,aJ];omega
 have hgl:rc.length=i:=by rw[hG.len,aW,gl,aJ];omega
 have hgf:=eK hG.four;refine dI.mk ?_ ?_<;>intro OI
 ·have OI:i<(cT (cP f) f.cols).length:=by have:=aI OI;omega
  obtain⟨s,hs⟩:∃s,(cT (cP f) f.cols)[i]? =some s:=⟨_,aB OI⟩
  have Ro:s.length=f.cols:=hKl s (aC hs);have Wj:=hKr s (aC hs);obtain⟨adm1,um,ham1,Oj,km1,kn1⟩:=c9.load hK hs;obtain⟨as1,cs1,rfl,-,-⟩:=dH.shape Oj;obtain⟨bent,TC⟩:∃b,fR s (cY f)=b:=⟨_,rfl⟩
  have Tb:bent.length=f.cols:=by rw[<-TC,kE,Ro]
  have VI:∀q∈bent,rl q<=20:=fun q hq=>by
   rw[<-TC]at hq;obtain⟨t,ht⟩:=aR hq;have UH:t<s.length:=by have:=(aD.1 ht).1;rw[kE]at this;exact this
   have h1:=nm (a:=s) (b:=cY f) UH;rw[getD_some ht]at h1;have h2:=j9 (s.getD t 0) ((cY f).getD t 0);have h3:=Wj (s.getD t 0) (by rw[getD_some (aB UH)];exact aX _);have h4:=Of.fxD (t:=t) (by omega);rw[h1];omega
  refine⟨adm1,ham1,by omega,.slice as1 s.length cs1,fun O w' r=>?_,?_⟩
  ·rw[aE,cH (w:=w7) (w2:=w') (by rw[dD];exact Rel.same r (cC w) km1.1)];exact kn1
  refine cD (cO (Φ:=fun _ w' v w2=>cN w2 (Nf w' w2) v bent) (fun O w' r=>(TC▸Ix (S:=Cv S w.heap.size iv) (Rel.old r hS) (cX.cJ (cN.l (ei.cv (ei.rel Oj r (cC w))) fun q hq=>by have:=Wj q hq;omega) fun g hg=>yE hg) (cX.rel hL r hS) (by rw[Ro,OY];exact aF _) (by omega)).mono fun _ _ ⟨v2,e1,e2,e3⟩=>⟨v2,e1,e2,cN.cJ e3.c fun g hg=>hg.elim (fun h=>h.elim) fun⟨_,lo,hi,h2,h3,h4⟩=>by
   simp at h2;obtain⟨rfl,rfl⟩:=h2
   exact .inr ⟨h3,h4⟩⟩) ?_)
  rintro O SH v8 Ri r he PL hn;replace hw:=hw.tr PL;have Qe:∀g,(Value.slice ax f.cols cx).ownBlock=some g->g<SH.heap.size:=fun g e=>Rel.old r (cC w) g (hX.new g e);replace hX:=hX.cG (iv':=(SH.heap.size,Ri.heap.size)::iv) r (cC w) he fun x hx=>List.mem_cons_of_mem _ hx;replace hK:=gN.cG (iv':=(SH.heap.size,Ri.heap.size)::iv) hK r (cC w) he fun x hx=>List.mem_cons_of_mem _ hx;replace hL:=cX.cG (iv':=(SH.heap.size,Ri.heap.size)::iv) hL r hS he fun x hx=>List.mem_cons_of_mem _ hx;replace hR:=nT.cG (iv':=(SH.heap.size,Ri.heap.size)::iv) hR r (cC w) he fun x hx=>List.mem_cons_of_mem _ hx;replace hG:=kG.cG (iv':=(SH.heap.size,Ri.heap.size)::iv) hG r (cC w) he fun x hx=>List.mem_cons_of_mem _ hx;have hE:=ei.fresh (S:=FF) (v:=(.slice ax f.cols cx)) hn r Qe;clear r he PL Qe hn;generalize (SH.heap.size,Ri.heap.size)::iv=RF at*
  clear Oj;obtain⟨ae,ce,rfl,-,-⟩:=dH.shape hE;rw[Tb]
  refine⟨Nat×List (List Value)×World×Iv,fun z=>⟨[(7,sV ax f.cols cx),(9,.o (.v (.slice ak (cT (cP f) f.cols).length ck))),(10,sV al f.cols cl),(11,pP 2 0),(43,.o (.v (.slice ak (cT (cP f) f.cols).length ck))),(44,.o (.v (.int .i64 (cT (cP f) f.cols).length))),(12,.o (.w 4 rc.length)),(45,iN i),(15,sV ae f.cols ce),(52,.o (.v (.slice ak (cT (cP f) f.cols).length ck))),(53,.o (.v (.int .i64 (cT (cP f) f.cols).length))),(16,.o (.w 5 z.2.1.length)),(54,iN z.1)],[(5,.vec T.Rat 4 z.2.1.flatten),(2,.box T.dx [.w 3 rv.length,.v (.int .i64 (cT (cP f) f.cols).length)]),(3,.vec T.fc 1 rv),(4,.vec T.Rat 4 rc.flatten)],6,z.2.2.2,z.2.2.1⟩,fun z=>(cT (cP f) f.cols).length-z.1,
   fun z=>z.1<=(cT (cP f) f.cols).length∧dm w.heap.size w z.2.2.1∧(df z.2.2.1 FF w.heap.size z.2.2.2 (.slice ax f.cols cx) f.cols x0∧cR z.2.2.1 (Bs FF w.heap.size z.2.2.2 (.slice ax f.cols cx)) (.slice ak (cT (cP f) f.cols).length ck) (cT (cP f) f.cols)∧cX z.2.2.1 (Cv S w.heap.size z.2.2.2) (.slice al f.cols cl) (cY f)∧dQ z.2.2.1 (Bs FF w.heap.size z.2.2.2 (.slice ax f.cols cx)) rv ((eY (cT (cP f) f.cols) (cY f)).take i)∧dU z.2.2.1 (Bs FF w.heap.size z.2.2.2 (.slice ax f.cols cx)) rc ((gl (cT (cP f) f.cols) (cY f) x0).take i)∧cN z.2.2.1 (Bs FF w.heap.size z.2.2.2 (.slice ax f.cols cx)) (.slice ae f.cols ce) bent)∧dU z.2.2.1 (Bs FF w.heap.size z.2.2.2 (.slice ax f.cols cx)) z.2.1 (((cT (cP f) f.cols).map fun r=>fQ bent r f.cols).take z.1),?_,?_⟩
  ·intro O w' r3;exact⟨(0,[],w',_),⟨aO _,hw.tr r3.cQ,⟨hX.rel r3 (cC w),gN.rel hK r3 (cC w),cX.rel hL r3 hS,nT.rel hR r3 (cC w),kG.rel hG r3 (cC w),by have:=ei.rel hE r3 (cC w);rw[Tb]at this;exact this⟩,dU.nil⟩,Sub.nil 16 T.Rat 4 rfl (by simp[jQ,SV.sc,At.sc,fP]) r3 fun ρ2 r2=>Sub.gn [] r2⟩
  clear hw hX hK hL hR hG hE;rintro⟨j,css,w8,iv⟩ ⟨hj,hw,⟨hX,hK,hL,hR,hG,hE⟩,hD⟩;dsimp only at hj hw hX hK hL hR hG hE hD ⊢;have TL:css.length=j:=by rw[hD.len,aW,aJ];omega
  have hdf:=eK hD.four;refine dI.mk ?_ ?_<;>intro PO
  ·have PO:j<(cT (cP f) f.cols).length:=by have:=aI PO;omega
   obtain⟨t,ht⟩:∃s,(cT (cP f) f.cols)[j]? =some s:=⟨_,aB PO⟩
   have UH:t.length=f.cols:=hKl t (aC ht);have htr:=hKr t (aC ht);obtain⟨adm2,um2,ham2,Oj,km2,kn2⟩:=c9.load hK ht;obtain⟨as2,cs2,rfl,-,-⟩:=dH.shape Oj;refine⟨adm2,ham2,by omega,.slice as2 t.length cs2,fun O w' r=>?_,?_⟩
   ·rw[aE,cH (w:=w8) (w2:=w') (by rw[dD];exact Rel.same r (cC w) km2.1)];exact kn2
   refine cD (cO (Φ:=fun _ w' v w2=>cS w2 (Nf w' w2) v (fQ bent t f.cols)) (fun O w' r=>Tb▸Lw (S:=Cf w iv) (h:=21) (Rel.old r (cC w)) (cN.l (by have:=ei.cv (ei.rel hE r (cC w));rw[<-Tb]at this;exact this) fun q hq=>by have:=VI q hq;omega) (cN.l (ei.cv (ei.rel Oj r (cC w))) fun q hq=>by have:=htr q hq;omega) (by omega) (fun q hq=>by have:=VI q hq;omega) (fun q hq=>by have:=htr q hq;omega) (by decide) (by omega)) ?_);rintro O Qm v9 Qf r he PL hn;replace hw:=hw.tr PL;have Qe:∀g,(Value.slice ax f.cols cx).ownBlock=some g->g<Qm.heap.size:=fun g e=>Rel.old r (cC w) g (hX.new g e);replace hX:=hX.cG (iv':=(Qm.heap.size,Qf.heap.size)::iv) r (cC w) he fun x hx=>List.mem_cons_of_mem _ hx;replace hK:=gN.cG (iv':=(Qm.heap.size,Qf.heap.size)::iv) hK r (cC w) he fun x hx=>List.mem_cons_of_mem _ hx;replace hL:=cX.cG (iv':=(Qm.heap.size,Qf.heap.size)::iv) hL r hS he fun x hx=>List.mem_cons_of_mem _ hx;replace hR:=nT.cG (iv':=(Qm.heap.size,Qf.heap.size)::iv) hR r (cC w) he fun x hx=>List.mem_cons_of_mem _ hx;replace hG:=kG.cG (iv':=(Qm.heap.size,Qf.heap.size)::iv) hG r (cC w) he fun x hx=>List.mem_cons_of_mem _ hx;replace hE:=ei.cG (iv':=(Qm.heap.size,Qf.heap.size)::iv) hE r (cC w) he fun x hx=>List.mem_cons_of_mem _ hx;replace hD:=kG.cG (iv':=(Qm.heap.size,Qf.heap.size)::iv) hD r (cC w) he fun x hx=>List.mem_cons_of_mem _ hx;have hd:=mX.fresh (S:=FF) (v:=(.slice ax f.cols cx)) hn r Qe;clear r he PL Qe hn;generalize (Qm.heap.size,Qf.heap.size)::iv=Rg at*
   obtain⟨C0,C1,C2,C3,C4,C5,C6,C7,rfl⟩:=hd.shape;clear Oj;have hD2:=hD.push (cs:=[.bool C0,.slice C1 C2 C3,.bool C4,.slice C5 C6 C7]) (q:=fQ bent t f.cols) ⟨_,_,_,_,_,_,_,_,rfl,hd⟩ rfl;rw[show (((cT (cP f) f.cols).map fun r=>fQ bent r f.cols).take j)++[fQ bent t f.cols]=((cT (cP f) f.cols).map fun r=>fQ bent r f.cols).take (j+1) by rw[List.take_add_one,aM,ht];rfl]at hD2;have Po:css.flatten++([.bool C0,.slice C1 C2 C3,.bool C4,.slice C5 C6 C7]:List Value)=(css++([[.bool C0,.slice C1 C2 C3,.bool C4,.slice C5 C6 C7]]:List (List Value))).flatten:=by simp
   refine .inl ?_;refine⟨by omega,by omega,by unfold maxLen;omega,((j+1:Nat):Int),wo,?_⟩;intro ρ3 w6 r3;exact⟨(j+1,css++[[.bool C0,.slice C1 C2 C3,.bool C4,.slice C5 C6 C7]],w6,_),⟨PO,hw.tr r3.cQ,⟨hX.rel r3 (cC w),gN.rel hK r3 (cC w),cX.rel hL r3 hS,nT.rel hR r3 (cC w),kG.rel hG r3 (cC w),ei.rel hE r3 (cC w)⟩,kG.rel hD2 r3 (cC w)⟩,Sub.gn [(5,7)] r3 ⟨by dsimp only;rw[<-Po];rfl,rfl,rfl,rfl,trivial⟩ ⟨rfl,rfl,rfl,rfl,rfl,rfl,rfl,rfl,rfl,rfl,rfl,by dsimp only;rw[List.length_append,List.length_singleton];rfl,rfl,trivial⟩,by dsimp only;omega⟩
  have PO:j=(cT (cP f) f.cols).length:=by have:=aH PO;omega
  rw[PO,List.take_of_length_le (by rw[aJ];exact aF _)]at hD;have OK:(eY (cT (cP f) f.cols) (cY f)).take i++[((cT (cP f) f.cols).map fun r=>fQ bent r f.cols)]=(eY (cT (cP f) f.cols) (cY f)).take (i+1):=by
   rw[List.take_add_one,eY,aM,hs,<-TC,<-Ro];rfl
  have hrgt:(gl (cT (cP f) f.cols) (cY f) x0).take i++[-(fQ bent x0 f.cols)]=(gl (cT (cP f) f.cols) (cY f) x0).take (i+1):=by
   rw[List.take_add_one,gl,aM,hs,<-TC,<-Ro];rfl
  refine si hτ (id3:=6) (id2:=5) (tH:=[(2,.box T.dx [.w 3 rv.length,.v (.int .i64 (cT (cP f) f.cols).length)]),(3,.vec T.fc 1 rv),(4,.vec T.Rat 4 rc.flatten)]) rfl rfl rfl rfl (by simp) ⟨rfl,rfl,rfl,trivial⟩ rfl rfl (fun O w' r r2 TW=>?_);have Ph:∀g,(Value.slice ax f.cols cx).ownBlock=some g->∀id b,dE [(6,.box T.fc [.w 5 css.length]),(5,.vec T.Rat 4 css.flatten),(2,.box T.dx [.w 3 rv.length,.v (.int .i64 (cT (cP f) f.cols).length)]),(3,.vec T.fc 1 rv),(4,.vec T.Rat 4 rc.flatten)] id=some b->(O id).nil=false->(O id).g≠g:=fun g e id b h1 h2=>Rel.not r (cC w) (hX.new g e) id b h1 h2;have TB:=r.low 6 _ rfl (r.fits (id:=6) rfl).1;have hB3:Bs FF w.heap.size (((O 6).g,(O 6).g+1)::lz (O 5) iv) (.slice ax f.cols cx) (O 6).g:=⟨.inr ⟨TB.1,_,_,aG,aF _,b9 _⟩,fun e=>Ph _ e 6 _ rfl (r.fits (id:=6) rfl).1 rfl⟩
  have PA:∀p,p∈iv->p∈((O 6).g,(O 6).g+1)::lz (O 5) iv:=fun p hp=>List.mem_cons_of_mem _ (vz p hp);have Ww:=dU.list ((kG.rel hD r (cC w)).cJ fun g hg=>Bs.mono PA hg) (r.nH (T:=Bs FF w.heap.size (((O 6).g,(O 6).g+1)::lz (O 5) iv) (.slice ax f.cols cx)) (id:=5) (sz:=4) (m:=css.length) rfl hdf (by unfold maxLen;omega) (by decide) hD.one fun hn=>⟨.inr ⟨(r.low 5 _ rfl hn).1,_,_,List.mem_cons_of_mem _ (FH hn),aF _,b9 _⟩,fun e=>Ph _ e 5 _ rfl hn rfl⟩);have QI:((At.w 5 css.length).den O).oneCell'=true:=At.OA;have PN:=hw.tr r.cQ;replace hX:df w' FF w.heap.size (((O 6).g,(O 6).g+1)::lz (O 5) iv) (.slice ax f.cols cx) f.cols x0:=by
   have h1:=hX.rel r (cC w);exact⟨h1.row.cJ fun g hg=>⟨hg.1.mono PA,hg.2⟩,fun g hg=>(h1.new g hg).mono PA⟩
  replace hK:=cR.cJ (gN.rel hK r (cC w)) fun g hg=>Bs.mono PA hg;replace hL:=cX.cJ (cX.rel hL r hS) fun g hg=>hg.mono PA;replace hR:=dQ.cJ (nT.rel hR r (cC w)) fun g hg=>Bs.mono PA hg;replace hG:=dU.cJ (kG.rel hG r (cC w)) fun g hg=>Bs.mono PA hg;replace hE:=cN.cJ (ei.rel hE r (cC w)) fun g hg=>Bs.mono PA hg;clear r2 TB hD Ph hw;generalize (At.w 5 css.length).den O=ur at*
  generalize (O 6).g=gy at*
  generalize (gy,gy+1)::lz (O 5) iv=ivg at*
  clear r;refine⟨[ur],rfl,by simpa using QI,fun ρ2 w2 r2 _=>⟨_,rfl,fun j u hu=>?_⟩,?_⟩
  ·have h5:=Rel.same r2 (gg _) hB3.1;rw[dZ,cell_of (h5.trans TW)];rcases j with _|j
   ·exact hu
   ·cases hu
  refine⟨by simp,by omega,by unfold maxLen;omega,?_⟩;have Qc:=hR.push QI Ww;rw[OK]at Qc;clear Ww hR TW hB3;rename_i wg _;have hw:=PN;clear PN;refine cD (cO (Φ:=fun _ w' v w2=>cS w2 (Nf w' w2) v (fQ bent x0 f.cols)) (fun O w' r=>Tb▸Lw (S:=Cf w ivg) (h:=30) (Rel.old r (cC w)) (cN.l (by have:=ei.cv (ei.rel hE r (cC w));rw[<-Tb]at this;exact this) fun q hq=>by have:=VI q hq;omega) (cN.l (by have:=(hX.rel r (cC w)).c;rw[<-Tb]at this;exact this) fun q hq=>by have:=WQ q hq;omega) (by omega) (fun q hq=>by have:=VI q hq;omega) (fun q hq=>by have:=WQ q hq;omega) (by decide) (by omega)) ?_);rintro O Qn v11 Qy r he PL hn;replace hw:=hw.tr PL;have Qe:∀g,(Value.slice ax f.cols cx).ownBlock=some g->g<Qn.heap.size:=fun g e=>Rel.old r (cC w) g (hX.new g e);replace hX:=hX.cG (iv':=(Qn.heap.size,Qy.heap.size)::ivg) r (cC w) he fun x hx=>List.mem_cons_of_mem _ hx;replace hK:=gN.cG (iv':=(Qn.heap.size,Qy.heap.size)::ivg) hK r (cC w) he fun x hx=>List.mem_cons_of_mem _ hx;replace hL:=cX.cG (iv':=(Qn.heap.size,Qy.heap.size)::ivg) hL r hS he fun x hx=>List.mem_cons_of_mem _ hx;replace Qc:=nT.cG (iv':=(Qn.heap.size,Qy.heap.size)::ivg) Qc r (cC w) he fun x hx=>List.mem_cons_of_mem _ hx;replace hG:=kG.cG (iv':=(Qn.heap.size,Qy.heap.size)::ivg) hG r (cC w) he fun x hx=>List.mem_cons_of_mem _ hx;replace hE:=ei.cG (iv':=(Qn.heap.size,Qy.heap.size)::ivg) hE r (cC w) he fun x hx=>List.mem_cons_of_mem _ hx;have hd:=mX.fresh (S:=FF) (v:=(.slice ax f.cols cx)) hn r Qe;clear r he PL Qe hn;generalize (Qn.heap.size,Qy.heap.size)::ivg=Og at*
  obtain⟨F0,F1,F2,F3,F4,F5,F6,F7,rfl⟩:=hd.shape;have hdr:=BM (h:=30) (xs:=bent) (ys:=x0) (fun q hq=>by have:=VI q hq;omega) (fun q hq=>by have:=WQ q hq;omega) (by decide) f.cols;refine cD (cO (Φ:=fun _ w' v w2=>cS w2 (Nf w' w2) v (-(fQ bent x0 f.cols))) (fun O w' r=>Lu (S:=Cf w Og) (Rel.old r (cC w)) (cS.l (mX.cv (mX.rel hd r (cC w))) (by omega))) ?_);rintro O Pq v12 PV r he PL hn;replace hw:=hw.tr PL;have Qe:∀g,(Value.slice ax f.cols cx).ownBlock=some g->g<Pq.heap.size:=fun g e=>Rel.old r (cC w) g (hX.new g e);replace hX:=hX.cG (iv':=(Pq.heap.size,PV.heap.size)::Og) r (cC w) he fun x hx=>List.mem_cons_of_mem _ hx;replace hK:=gN.cG (iv':=(Pq.heap.size,PV.heap.size)::Og) hK r (cC w) he fun x hx=>List.mem_cons_of_mem _ hx;replace hL:=cX.cG (iv':=(Pq.heap.size,PV.heap.size)::Og) hL r hS he fun x hx=>List.mem_cons_of_mem _ hx;replace Qc:=nT.cG (iv':=(Pq.heap.size,PV.heap.size)::Og) Qc r (cC w) he fun x hx=>List.mem_cons_of_mem _ hx;replace hG:=kG.cG (iv':=(Pq.heap.size,PV.heap.size)::Og) hG r (cC w) he fun x hx=>List.mem_cons_of_mem _ hx;replace hE:=ei.cG (iv':=(Pq.heap.size,PV.heap.size)::Og) hE r (cC w) he fun x hx=>List.mem_cons_of_mem _ hx;clear hd;have PM:=mX.fresh (S:=FF) (v:=(.slice ax f.cols cx)) hn r Qe;clear r he PL Qe hn;generalize (Pq.heap.size,PV.heap.size)::Og=RT at*
  obtain⟨G0,G1,G2,G3,G4,G5,G6,G7,rfl⟩:=PM.shape;have RZ:=hG.push (cs:=[.bool G0,.slice G1 G2 G3,.bool G4,.slice G5 G6 G7]) (q:= -(fQ bent x0 f.cols)) ⟨_,_,_,_,_,_,_,_,rfl,PM⟩ rfl;rw[hrgt]at RZ;have Po:rc.flatten++([.bool G0,.slice G1 G2 G3,.bool G4,.slice G5 G6 G7]:List Value)=(rc++([[.bool G0,.slice G1 G2 G3,.bool G4,.slice G5 G6 G7]]:List (List Value))).flatten:=by simp
  refine .inl ?_;refine⟨by omega,by omega,by unfold maxLen;omega,((i+1:Nat):Int),wo,?_⟩;intro ρ3 w6 r3;exact⟨(i+1,rv++[ur],rc++[[.bool G0,.slice G1 G2 G3,.bool G4,.slice G5 G6 G7]],w6,_),⟨OI,hw.tr r3.cQ,hX.rel r3 (cC w),gN.rel hK r3 (cC w),cX.rel hL r3 hS,nT.rel Qc r3 (cC w),kG.rel RZ r3 (cC w)⟩,Sub.gn [(3,7),(4,9)] r3 ⟨by dsimp only;rw[List.length_append,List.length_singleton];rfl,rfl,by dsimp only;rw[<-Po];rfl,trivial⟩ ⟨rfl,rfl,rfl,rfl,rfl,rfl,by dsimp only;rw[List.length_append,List.length_singleton];rfl,rfl,trivial⟩,by dsimp only;omega⟩
 have OI:i=(cT (cP f) f.cols).length:=by have:=aH OI;omega
 rw[OI,List.take_of_length_le (by rw[eY,aJ];exact aF _)]at hR;rw[OI,List.take_of_length_le (by rw[gl,aJ];exact aF _)]at hG;have Qi:rv.length=(eY (cT (cP f) f.cols) (cY f)).length:=hR.1
 refine cD (cO (Φ:=fun _ w' v w2=>∃vc,v= .tuple #[vc,.bool true]∧df w2 (Bs FF w.heap.size iv (.slice ax f.cols cx)) w'.heap.size [(w'.heap.size,w2.heap.size)] vc (cT (cP f) f.cols).length c) (fun O w' r=>(DI (C:=(fun g=>g<w'.heap.size)) (D:=(fun g=>g<w'.heap.size)) (S:=Bs FF w.heap.size iv (.slice ax f.cols cx)) (M:=eY (cT (cP f) f.cols) (cY f)) (b:=gl (cT (cP f) f.cols) (cY f) x0) (cols:=(cT (cP f) f.cols).length) (h:=1930) (fun g hg=>hg) (fun g hg=>hg) (fun g hg=>Rel.old r (cC w) g hg.1) ⟨rv,by rw[<-Qi];exact r.nH (T:=(fun g=>g<w'.heap.size)) (id:=3) (sz:=1) (m:=rv.length) rfl (by simp) (by unfold maxLen;omega) (by decide) hR.2.1 fun hn=>(r.low 3 _ rfl hn).2,hR.1,fun a u x h1 h2=>ei.rel (hR.2.2 a u x h1 h2) r (cC w)⟩ ⟨rc,by rw[<-hG.len];exact r.nH (T:=(fun g=>g<w'.heap.size)) (id:=4) (sz:=4) (m:=rc.length) rfl hgf (by unfold maxLen;omega) (by decide) hG.one fun hn=>(r.low 4 _ rfl hn).2,hG.len,fun a cs x h1 h2=>(kG.rel hG r (cC w)).at_ a cs x h1 h2⟩ (by rw[gl,eY,aJ,aJ]) hSl (by omega) (by rw[eY,aJ];omega) hredB (by decide)).mono fun _ _ ⟨v2,e1,e2,e3⟩=>⟨v2,e1,e2,by
  rcases e3 with⟨h1,_⟩|⟨x2,vx,h1,h2,h3⟩
  ·rw[Qx]at h1;cases h1
  ·rw[Qx]at h1;injection h1 with h1;subst h1;exact⟨vx,h2,h3⟩⟩) ?_)
 rintro O WS v13 wb13 r he PL ⟨vc,rfl,hn⟩;replace hw:=hw.tr PL;have Qe:∀g,(Value.slice ax f.cols cx).ownBlock=some g->g<WS.heap.size:=fun g e=>Rel.old r (cC w) g (hX.new g e);replace hX:=hX.cG (iv':=(WS.heap.size,wb13.heap.size)::iv) r (cC w) he fun x hx=>List.mem_cons_of_mem _ hx;replace hK:=gN.cG (iv':=(WS.heap.size,wb13.heap.size)::iv) hK r (cC w) he fun x hx=>List.mem_cons_of_mem _ hx;have hC:=cN.cJ hn.c fun g hg=>Bs.solved r Qe (fun _ h=>h) hg;clear r he PL Qe;generalize (WS.heap.size,wb13.heap.size)::iv=iv13 at*
 clear hn hR hG hL;obtain⟨ac,cc,rfl,-,-⟩:=dH.shape hC;rw[PQ]
 refine⟨Nat×World×Iv,fun z=>⟨[(7,sV ax f.cols cx),(19,.o (.v (.slice ac (cT (cP f) f.cols).length cc))),(87,.o (.v (.slice ak (cT (cP f) f.cols).length ck))),(88,.o (.v (.int .i64 (cT (cP f) f.cols).length))),(89,iN z.1)],[],0,z.2.2,z.2.1⟩,fun z=>(cT (cP f) f.cols).length-z.1,
  fun z=>z.1<=(cT (cP f) f.cols).length∧dm w.heap.size w z.2.1∧df z.2.1 FF w.heap.size z.2.2 (.slice ax f.cols cx) f.cols (jx (cT (cP f) f.cols) c x0 z.1)∧cR z.2.1 (Bs FF w.heap.size z.2.2 (.slice ax f.cols cx)) (.slice ak (cT (cP f) f.cols).length ck) (cT (cP f) f.cols)∧cN z.2.1 (Bs FF w.heap.size z.2.2 (.slice ax f.cols cx)) (.slice ac (cT (cP f) f.cols).length cc) c,?_,?_⟩
 ·intro O w' r3;exact⟨(0,w',_),⟨aO _,hw.tr r3.cQ,hX.rel r3 (cC w),gN.rel hK r3 (cC w),by have:=ei.rel hC r3 (cC w);rw[PQ]at this;exact this⟩,Sub.gn [] r3⟩
 clear hw hX hK hC;rintro⟨i,w13,iv⟩ ⟨hi,hw,hX,hK,hC⟩;dsimp only at hi hw hX hK hC ⊢;refine dI.mk ?_ ?_<;>intro OI
 ·have OI:i<(cT (cP f) f.cols).length:=by have:=aI OI;omega
  obtain⟨s,hs⟩:∃s,(cT (cP f) f.cols)[i]? =some s:=⟨_,aB OI⟩
  have Ro:s.length=f.cols:=hKl s (aC hs);have Wj:=hKr s (aC hs);obtain⟨ci,hci⟩:∃q,c[i]? =some q:=⟨_,aB (by omega)⟩
  have hcir:=TM ci (aC hci);obtain⟨y0,Pw⟩:∃y,jx (cT (cP f) f.cols) c x0 i=y:=⟨_,rfl⟩
  have hy0l:y0.length=f.cols:=by rw[<-Pw,rP,hx0l]
  have hy0r:∀q∈y0,rl q<=75000:=fun q hq=>by
   rw[<-Pw]at hq;have h1:=Gc (a:=26) (b:=1927) WQ (fun r hr q hq=>by have:=hKr r hr q hq;omega) TM i q hq;have h2:i*(2*1927+5)<=18*(2*1927+5):=Nat.mul_le_mul_right _ (by omega);omega
  have hnextA:jx (cT (cP f) f.cols) c x0 (i+1)=y0.mapIdx fun k q=>q+ci*s.getD k 0:=by rw[jx,Pw,getD_some hci,getD_some (d:=[]) hs]
  rw[Pw]at hX;obtain⟨adm3,um,ham3,Oj,km3,kn3⟩:=c9.load hK hs;obtain⟨as3,cs3,rfl,-,-⟩:=dH.shape Oj;refine⟨adm3,ham3,by omega,.slice as3 s.length cs3,fun O w' r=>?_,?_⟩
  ·rw[aE,cH (w:=w13) (w2:=w') (by rw[dD];exact Rel.same r (cC w) km3.1)];exact kn3
  rw[Ro]
  refine⟨Nat×World×Iv,fun z=>⟨[(7,sV ax f.cols cx),(19,.o (.v (.slice ac (cT (cP f) f.cols).length cc))),(87,.o (.v (.slice ak (cT (cP f) f.cols).length ck))),(88,.o (.v (.int .i64 (cT (cP f) f.cols).length))),(89,iN i),(20,iN i),(94,sV as3 f.cols cs3),(95,iZ f.cols),(96,iN z.1)],[],0,z.2.2,z.2.1⟩,fun z=>f.cols-z.1,
   fun z=>z.1<=f.cols∧dm w.heap.size w z.2.1∧df z.2.1 FF w.heap.size z.2.2 (.slice ax f.cols cx) f.cols ((iH z.1 (fun k q=>q+ci*s.getD k 0) y0))∧cR z.2.1 (Bs FF w.heap.size z.2.2 (.slice ax f.cols cx)) (.slice ak (cT (cP f) f.cols).length ck) (cT (cP f) f.cols)∧cN z.2.1 (Bs FF w.heap.size z.2.2 (.slice ax f.cols cx)) (.slice ac (cT (cP f) f.cols).length cc) c∧cN z.2.1 (Bs FF w.heap.size z.2.2 (.slice ax f.cols cx)) (.slice as3 f.cols cs3) s,?_,?_⟩
  ·intro O w' r3;exact⟨(0,w',_),⟨aO _,hw.tr r3.cQ,by dsimp only;rw[tW];exact hX.rel r3 (cC w),gN.rel hK r3 (cC w),ei.rel hC r3 (cC w),by have:=ei.rel Oj r3 (cC w);rw[Ro]at this;exact this⟩,Sub.gn [] r3⟩
  clear hw hX hK hC Oj;rintro⟨k,w14,iv⟩ ⟨hk,hw,hX,hK,hC,Oj⟩;dsimp only at hk hw hX hK hC Oj ⊢;refine dI.mk ?_ ?_<;>intro OL
  ·have OL:k<f.cols:=by have:=aI OL;omega
   obtain⟨gx,rfl⟩:=hX.at (by omega);obtain⟨q,hq⟩:∃q,s[k]? =some q:=⟨_,aB (by omega)⟩
   obtain⟨y,hy⟩:∃q,y0[k]? =some q:=⟨_,aB (by omega)⟩
   have hyu:=BO (f:=fun k q=>q+ci*s.getD k 0) hy;have hqr:=Wj q (aC hq);have hyr:=hy0r y (aC hy);obtain⟨adq,csq,RP,QM,_,Ua⟩:=dH.load Oj hq;obtain⟨q0,q1,q2,q3,q4,q5,q6,q7,rfl,QM⟩:=QM;obtain⟨ady,csy,UW,SN,_,Qb⟩:=dH.load hX.c hyu;obtain⟨y0',y1,y2,y3,y4,y5,y6,y7,rfl,SN⟩:=SN;obtain⟨adc,csc,Wq,hFc,_,Se⟩:=dH.load hC hci;obtain⟨c0,c1,c2,c3,c4,c5,c6,c7,rfl,hFc⟩:=hFc;refine⟨adq,RP,by omega,[.bool q0,.slice q1 q2 q3,.bool q4,.slice q5 q6 q7],rfl,fun O w' r j u hu=>?_,?_⟩
   ·obtain⟨k1,k2⟩:=Ua j u hu;rw[aE,cH (w:=w14) (w2:=w') (by rw[dD,dD];exact Rel.same r (cC w) k1.1)];exact k2
   refine cK hτ da [.x 0,.x 1,.x 2,.x 3,.x 4,.x 5,.x 6,.x 7,.x 8,.x 9,.x 10,.x 11,.x 12,.x 13,.x 14] (by kernel_rfl) (by kernel_rfl) ?_;refine⟨ady,UW,by omega,[.bool y0',.slice y1 y2 y3,.bool y4,.slice y5 y6 y7],rfl,fun O w' r j u hu=>?_,?_⟩
   ·obtain⟨k1,k2⟩:=Qb j u hu;rw[aE,cH (w:=w14) (w2:=w') (by rw[dD,dD];exact Rel.same r (cC w) k1)];exact k2
   refine⟨adc,Wq,by omega,[.bool c0,.slice c1 c2 c3,.bool c4,.slice c5 c6 c7],rfl,fun O w' r j u hu=>?_,?_⟩
   ·obtain⟨k1,k2⟩:=Se j u hu;rw[aE,cH (w:=w14) (w2:=w') (by rw[dD,dD];exact Rel.same r (cC w) k1.1)];exact k2
   refine cO (Φ:=fun _ w' v w2=>cS w2 (Nf w' w2) v (ci*q)) (fun O w' r=>BN (S:=Cf w iv) (Rel.old r (cC w)) ((cS.l (mX.cv (mX.rel hFc r (cC w))) (by omega)).v) ((cS.l (mX.cv (mX.rel QM r (cC w))) (by omega)).v)) ?_;rintro O Tc v15 UI r he PL hn;replace hw:=hw.tr PL;have Qe:∀g,(Value.slice (some ⟨gx,0,none⟩) f.cols cx).ownBlock=some g->g<Tc.heap.size:=fun g e=>Rel.old r (cC w) g (hX.new g e);replace hX:=hX.cG (iv':=(Tc.heap.size,UI.heap.size)::iv) r (cC w) he fun x hx=>List.mem_cons_of_mem _ hx;replace hK:=gN.cG (iv':=(Tc.heap.size,UI.heap.size)::iv) hK r (cC w) he fun x hx=>List.mem_cons_of_mem _ hx;replace hC:=ei.cG (iv':=(Tc.heap.size,UI.heap.size)::iv) hC r (cC w) he fun x hx=>List.mem_cons_of_mem _ hx;replace Oj:=ei.cG (iv':=(Tc.heap.size,UI.heap.size)::iv) Oj r (cC w) he fun x hx=>List.mem_cons_of_mem _ hx;replace SN:=cS.cG (iv':=(Tc.heap.size,UI.heap.size)::iv) SN r (cC w) he fun x hx=>List.mem_cons_of_mem _ hx;have hm:=mX.fresh (S:=FF) (v:=(.slice (some ⟨gx,0,none⟩) f.cols cx)) hn r Qe;clear r he PL Qe hn;generalize (Tc.heap.size,UI.heap.size)::iv=UJ at*
   obtain⟨J0,J1,J2,J3,J4,J5,J6,J7,rfl⟩:=hm.shape;refine cO (Φ:=fun _ w' v w2=>cS w2 (Nf w' w2) v (y+ci*q)) (fun O w' r=>EY (S:=Cf w UJ) (Rel.old r (cC w)) ((cS.l (cS.rel SN r (cC w)) (by omega)).v) ((cS.l (mX.cv (mX.rel hm r (cC w))) (by have:=j9 ci q;omega)).v)) ?_;rintro O UK v16 VJ r he PL hn;replace hw:=hw.tr PL;have Qe:∀g,(Value.slice (some ⟨gx,0,none⟩) f.cols cx).ownBlock=some g->g<UK.heap.size:=fun g e=>Rel.old r (cC w) g (hX.new g e);replace hX:=hX.cG (iv':=(UK.heap.size,VJ.heap.size)::UJ) r (cC w) he fun x hx=>List.mem_cons_of_mem _ hx;replace hK:=gN.cG (iv':=(UK.heap.size,VJ.heap.size)::UJ) hK r (cC w) he fun x hx=>List.mem_cons_of_mem _ hx;replace hC:=ei.cG (iv':=(UK.heap.size,VJ.heap.size)::UJ) hC r (cC w) he fun x hx=>List.mem_cons_of_mem _ hx;replace Oj:=ei.cG (iv':=(UK.heap.size,VJ.heap.size)::UJ) Oj r (cC w) he fun x hx=>List.mem_cons_of_mem _ hx;clear SN;clear hm;have hd:=mX.fresh (S:=FF) (v:=(.slice (some ⟨gx,0,none⟩) f.cols cx)) hn r Qe;clear r he PL Qe hn;generalize (UK.heap.size,VJ.heap.size)::UJ=iv16 at*
   obtain⟨K0,K1,K2,K3,K4,K5,K6,K7,rfl⟩:=hd.shape;refine⟨⟨gx,0,none⟩,rfl,by omega,?_⟩;intro O w' r;obtain⟨g,hg,h1,h2,h3,h4,h5⟩:=(hX.rel r (cC w)).store (j:=k) OL (hd.cI (Bs.same r (cC w))) r (cC w);injection hg with hg;injection hg with hg;subst hg;refine⟨h1,h2,h3,fun w5 Qr=>?_⟩;obtain⟨k1,k2,k3⟩:=h5 w5 Qr;have PN:dm w.heap.size w w5:=(hw.tr r.cQ).tr (dm.grown k2 (fun g e=>by injection e with e;subst e;exact h4.elim (fun h=>h.elim) fun h=>h.1) r.cF);have RE:=gN.kept hK r (cC w) k2;have Wi:=ei.kept hC r (cC w) k2;have Qc:=ei.kept Oj r (cC w) k2;have OR:(iH k (fun k q=>q+ci*s.getD k 0) y0).set k (y+ci*q)=(iH (k+1) (fun k q=>q+ci*s.getD k 0) y0):=by rw[<-pC hy,getD_some hq]
   rw[OR]at k1;clear hX hK hC Oj hw h1 h2 h3 h4 h5 Qr k2 k3 r hd;refine⟨((k+1:Nat):Int),wo,?_⟩;intro ρ3 w6 r3;exact⟨(k+1,w6,_),⟨OL,PN.tr r3.cQ,k1.rel r3 (cC w),gN.rel RE r3 (cC w),ei.rel Wi r3 (cC w),ei.rel Qc r3 (cC w)⟩,Sub.gn [] r3,by dsimp only;omega⟩
  have OL:k=f.cols:=by have:=aH OL;omega
  rw[OL,<-hy0l,xD,<-hnextA,hy0l]at hX;refine⟨((i+1:Nat):Int),wo,?_⟩;intro ρ3 w6 r3;exact⟨(i+1,w6,_),⟨OI,hw.tr r3.cQ,hX.rel r3 (cC w),gN.rel hK r3 (cC w),ei.rel hC r3 (cC w)⟩,Sub.gn [] r3,by dsimp only;omega⟩
 have OI:i=(cT (cP f) f.cols).length:=by have:=aH OI;omega
 rw[OI]at hX;exact rtn hw fun ρe we re=>.inr ⟨_,_,WR,rfl,cN.out hX.c re (cC w)⟩
end Go.Ex
