/- Texts L47 to X193: lemmas, each with its conditions. -/
import Derived.Test.YtkdcaknoaeicdaaGreatP13
namespace Go.Ex
variable{s:Int×Int×Rat}{M:List (List Rat)}{fl x:List Rat}{n t:Nat}{u y z:Nat->Rat}{f:fM}
theorem La{M:List (List Int)}{r c:Nat}:dD (M.map cd) r c=((ez M r c:Int):Rat):=by
 have key:∀l:List Int,(cd l).getD c 0=((l.getD c 0:Int):Rat):=fun l=>by
  rw[cd,List.getD,List.getD,aN]
  cases l[c]? <;>rfl
 unfold dD ez;rw[<-key];congr 1;rw[List.getD,List.getD,aN]
 cases M[r]? <;>rfl
theorem Fg(f:fM)(r c:Nat):dD (cP f) r c=((ez (fD f) r c:Int):Rat):=La
def Mm(n:Nat)(M:List (List Int)):Prop:=∀l∈M,l.length=n
theorem Mm.put{r c:Nat}{d:Int}{M:List (List Int)}(h:Mm n M):Mm n (putAt M r c d):=fun l hl=>by
 unfold putAt at hl;rcases aP r M.length with hr|hr
 ·rcases bJ hl with hl|rfl
  ·exact h l hl
  ·rw[bE,List.getD,aB hr];exact h _ (aY hr)
 ·rw[List.set_eq_of_length_le hr]at hl;exact h l hl
theorem BW{f:fM}{M:List (List Int)}{n i:Nat}(h:Mm n M):∀k,Mm n (eQ f M i k)
 |0=>h
 |k+1=>by rw[eQ];rw[gh,gh];exact((BW h k).put).put
theorem yr(f:fM):∀i,Mm f.cols (df f i)
 |0=>fun l hl=>by rw[df]at hl;rw[bL hl,bC]
 |i+1=>by rw[df];exact BW (yr f i) 3
theorem jS(f:fM):∀i,Mm f.cols (eu f i)
 |0=>yr f _
 |i+1=>by rw[eu];exact(jS f i).put
theorem nh(M:List (List Int))(r c:Nat)(d:Int):(putAt M r c d).length=M.length:=bE ..
theorem tE(f:fM)(M:List (List Int))(i:Nat):∀k,(eQ f M i k).length=M.length
 |0=>rfl
 |k+1=>by rw[eQ];rw[gh,gh,nh,nh];exact tE f M i k
theorem ql(f:fM):∀i,(df f i).length=3*f.nodes.length
 |0=>bC ..
 |i+1=>by rw[df,tE];exact ql f i
theorem mY(f:fM):∀i,(eu f i).length=3*f.nodes.length
 |0=>ql f _
 |i+1=>by rw[eu,nh];exact mY f i
theorem fT(f:fM):fX f.cols (cP f):=fun r hr=>by
 obtain⟨l,hl,rfl⟩:=aT.1 hr;rw[cd,aJ];exact jS f _ l hl
theorem iV(f:fM):(cP f).length=3*f.nodes.length:=by rw[cP,aJ];exact mY f _
structure FrV(f:fM):Prop where
 co:∀p∈f.nodes,(-1000000<=p.1∧p.1<=1000000)∧(-1000000<=p.2.1∧p.2.1<=1000000)∧(-1000000<=p.2.2∧p.2.2<=1000000)
 Lb:∀b∈f.bars,∃ka kb:Nat,b.1=ka∧b.2.1=kb∧ka<f.nodes.length∧kb<f.nodes.length∧ka≠kb∧0<b.2.2
 sup:∀s∈f.cU,gb s<3*f.nodes.length∧0<=s.2.2
 one:∀(i j:Nat) s t,f.cU[i]? =some s->f.cU[j]? =some t->gb s=gb t->i=j
 n:f.nodes.length<=20
 b:f.bars.length<=60
 s:f.cU.length<=60
theorem Gz{α:Type}{l:List α}{x:α}(h:x∈l):∃i:Nat,l[i]? =some x:=by
 obtain⟨i,hi,rfl⟩:=List.mem_iff_getElem.1 h;exact⟨i,aB hi⟩
theorem Mn(h:eO f=0):FrV f:=by
 have OJ:=ni h;obtain⟨⟨h1,h2,h3⟩,h4,h5,h6⟩:=ua h;have VC:∀(k:Nat) s,f.cU[k]? =some s->iz f.nodes.length s.1∧(0<=s.2.1∧s.2.1<=2)∧iW s∉(f.cU.take k).map iW∧0<=s.2.2:=fun k s hs=>qT.1 (iX h6 k s hs);have OH:∀(k:Nat) s,f.cU[k]? =some s->(gb s:Int)=3*s.1+s.2.1∧gb s<3*f.nodes.length:=fun k s hs=>by
  obtain⟨⟨a1,a2⟩,⟨a3,a4⟩,-,-⟩:=VC k s hs;unfold gb;omega
 have lt:∀(i j:Nat) s t,i<j->f.cU[i]? =some s->f.cU[j]? =some t->gb s≠gb t:=fun i j s t Pb hs ht e=>by
  obtain⟨⟨a1,a2⟩,⟨a3,a4⟩,-,-⟩:=VC i s hs;obtain⟨⟨b1,b2⟩,⟨b3,b4⟩,b5,-⟩:=VC j t ht;have e1:=(OH i s hs).1;have e2:=(OH j t ht).1;refine b5 (aT.2 ⟨s,aC (i:=i) (by rw[bU Pb];exact hs),?_⟩);exact Prod.ext (by show s.1=t.1;omega) (by show s.2.1=t.2.1;omega)
 refine⟨OJ.co,fun b hb=>?_,fun s hs=>?_,fun i j s t hs ht e=>?_,h1,h2,h3⟩
 ·obtain⟨k,hk⟩:=Gz hb;obtain⟨⟨⟨a1,a2⟩,a3,a4⟩,a5,-,a6⟩:=mu.1 (iX h5 k b hk);exact⟨b.1.toNat,b.2.1.toNat,by omega,by omega,by omega,by omega,by omega,a6⟩
 ·obtain⟨k,hk⟩:=Gz hs;exact⟨(OH k s hk).2,(VC k s hk).2.2.2⟩
 ·rcases bs i j with h7|h7|h7
  ·exact absurd e (lt i j s t h7 hs ht)
  ·exact h7
  ·exact absurd e.symm (lt j i t s h7 ht hs)
theorem EA(M:List (List Int))(r c r' c':Nat)(d:Int):ez (putAt M r c d) r' c'=d∨ez (putAt M r c d) r' c'=ez M r' c':=by
 by_cases h:r'=r∧c'=c
 ·obtain⟨rfl,rfl⟩:=h;rcases aP r' M.length with h1|h1
  ·rcases aP c' (M.getD r' []).length with h2|h2
   ·exact .inl (Dz h1 h2)
   ·refine .inr ?_;unfold ez putAt;rw[lr h1,List.set_eq_of_length_le h2]
  ·refine .inr ?_;unfold ez putAt;rw[List.set_eq_of_length_le h1]
 ·exact .inr (jE (by
   by_cases h1:r'=r
   ·exact .inr fun h2=>h ⟨h1,h2⟩
   ·exact .inl h1))
theorem EB{k:Nat}(hk:k<f.nodes.length):f.node (k:Int)∈f.nodes:=by
 rw[fM.node,aE,List.getD,aB hk];exact aY hk
section
variable{f:fM}(h:FrV f)
include h
theorem FrV.dif{b:Int×Int×Rat}(hb:b∈f.bars)(k:Nat): -2000000<=(r8 f b).getD k 0∧(r8 f b).getD k 0<=2000000:=by
 obtain⟨ka,kb,ea,eb,hka,OI,-,-⟩:=h.Lb b hb;obtain⟨⟨a1,a2⟩,⟨a3,a4⟩,a5,a6⟩:=h.co _ (EB hka);obtain⟨⟨b1,b2⟩,⟨b3,b4⟩,b5,b6⟩:=h.co _ (EB OI);rw[r8,ea,eb]
 match k with
 |0=>simp[List.getD];omega
 |1=>simp[List.getD];omega
 |2=>simp[List.getD];omega
 |k+3=>simp[List.getD]
theorem FrV.EC{i:Nat}{b:Int×Int×Rat}(hb:f.bars[i]? =some b)(r:Nat):∀k,k<=3-> -2000000<=ez (eQ f (df f i) i k) r i∧ez (eQ f (df f i) i k) r i<=2000000
 |0,_=>by
  have:=lu f (r:=r) i (aF i);rw[eQ,this];omega
 |k+1,hk=>by
  obtain⟨ka,kb,ea,eb,-,-,OG,-⟩:=h.Lb b (aC hb);have ih:=FrV.EC hb r k (by omega);have hd:=h.dif (aC hb) k;have z1:=nf (r:=3*ka+k) hb ea eb (show k<=3 by omega) (by omega);have z2:=nf (r:=3*kb+k) hb ea eb (show k<=3 by omega) (by omega);rw[eQ];rw[CO hb,toNat_add ea,toNat_add eb,gh,gh,z1,jE (r':=3*kb+k) (.inl (by omega)),z2];rcases EA (putAt (eQ f (df f i) i k) (3*ka+k) i (0+(r8 f b).getD k 0)) (3*kb+k) i r i (0+ -(r8 f b).getD k 0)with e|e
  ·rw[e];omega
  ·rw[e];rcases EA (eQ f (df f i) i k) (3*ka+k) i r i (0+(r8 f b).getD k 0)with e|e
   ·rw[e];omega
   ·rw[e];exact ih
theorem FrV.HA{i r:Nat}(hi:i<f.bars.length):∀j,i<j->j<=f.bars.length-> -2000000<=ez (df f j) r i∧ez (df f j) r i<=2000000
 |0,h1,_=>by omega
 |j+1,h1,h2=>by
  rw[df];rcases aP i j with h3|h3
  ·rw[u9 (by omega)];exact FrV.HA hi j h3 (by omega)
  ·rw[show j=i by omega];exact h.EC (aB hi) r 3 (aF _)
theorem FrV.Fh{r i:Nat}(hs:f.cU[i]? =some s):ez (fD f) r (f.bars.length+i)=if r=gb s then 1 else 0:=
 BV (jS f) (mY f) (fun s hs=>(h.sup s hs).1) hs _ (aD.1 hs).1
theorem FrV.Mo(r c:Nat): -2000000<=ez (fD f) r c∧ez (fD f) r c<=2000000:=by
 rcases aP c f.bars.length with hc|hc
 ·rw[fD,yq hc];exact h.HA hc _ hc (aF _)
 ·rcases aP c f.cols with h1|h1
  ·obtain⟨i,rfl⟩:∃i,c=f.bars.length+i:=⟨c-f.bars.length,by omega⟩
   rw[fM.cols]at h1;rw[h.Fh (aB (show i<f.cU.length by omega))];split<;>omega
  ·have:ez (fD f) r c=0:=by
    unfold ez;rw[List.getD,List.getElem?_eq_none]
    ·rfl
    ·rcases aP r (fD f).length with h2|h2
     ·rw[List.getD,aB h2];show((fD f)[r]).length<=c;rw[jS f _ _ (aY h2)];exact h1
     ·rw[List.getD,List.getElem?_eq_none h2];exact aO _
   rw[this];omega
theorem FrV.ub(r c:Nat):Ib 2000000 (dD (cP f) r c):=by
 rw[Fg];have:=h.Mo r c;exact Ib.int (by omega)
theorem FrV.k8:BP (cP f) f.cols 2000000:=fun j _=>⟨1,by decide,Ib.one (by decide),fun t _=>by rw[bw];exact h.ub j t⟩
theorem FrV.only{x:Nat->Rat}(hx:∀j,j<(cP f).length->mulR (cP f) f.cols x j=0)(h0:∀t,t<f.bars.length->x t=0):∀t,t<f.cols->x t=0:=fun t ht=>by
 rcases aP t f.bars.length with h1|h1
 ·exact h0 t h1
 ·obtain⟨i,rfl⟩:∃i,t=f.bars.length+i:=⟨t-f.bars.length,by omega⟩
  have hi:i<f.cU.length:=by unfold fM.cols at ht;omega
  have hs:=aB hi;have hr:=h.sup _ (aY hi);have h2:=hx (gb f.cU[i]) (by rw[iV];exact hr.1);unfold mulR at h2;rw[ec ht fun k hk OG=>?_,Fg,h.Fh hs,if_pos rfl]at h2
  ·have e:((1:Int):Rat)*x (f.bars.length+i)=x (f.bars.length+i):=bw _
   rwa [e]at h2
  ·rcases aP k f.bars.length with h3|h3
   ·rw[h0 k h3,bD]
   ·obtain⟨i',rfl⟩:∃i,k=f.bars.length+i:=⟨k-f.bars.length,by omega⟩
    have Sb:i'<f.cU.length:=by unfold fM.cols at hk;omega
    have TG:=aB Sb;rw[Fg,h.Fh TG,aK fun e=>OG (by rw[h.one i i' _ _ hs TG e])];exact bH _
theorem FrV.Jc(ht:t<f.bars.length):0<(cX f).getD t 0:=by
 obtain⟨_,_,_,_,_,_,_,h1⟩:=h.Lb _ (aY ht);rw[cX,List.getD,aL (by rw[aJ];exact ht),aN,aB ht];exact h1
theorem FrV.ED(t:Nat):0<=(cX f).getD t 0:=by
 rw[List.getD]
 cases ht:(cX f)[t]? with
 |none=>exact Rat.le_refl
 |some q=>
  show 0<=q;have hm:=aC ht;rcases bG.1 hm with hm|hm
  ·obtain⟨b,hb,rfl⟩:=aT.1 hm;obtain⟨_,_,_,_,_,_,_,h1⟩:=h.Lb b hb;exact Rat.le_of_lt h1
  ·obtain⟨s,hs,rfl⟩:=aT.1 hm;exact(h.sup s hs).2
theorem FrV.EF:AT (cP f) f.cols fun t=>(cX f).getD t 0:=by
 refine⟨fT f,fun t _=>h.ED t,fun x hx h0=>h.only hx fun t ht=>?_⟩;have h1:=vq (f:=fun t=>(cX f).getD t 0*(x t*x t)) (n:=f.cols) (fun k _=>Rat.mul_nonneg (h.ED k) (sq_nonneg _)) (by rw[h0];exact Rat.le_refl) t (by unfold fM.cols;omega);have h2:=h.Jc ht;rcases Rat.mul_eq_zero.1 h1 with h3|h3
 ·rw[h3]at h2;exact absurd h2 (Rat.lt_irrefl)
 ·rcases Rat.mul_eq_zero.1 h3 with h4|h4<;>exact h4
end
theorem rf(f:Nat->Rat)(a:Nat):∀b,cY f (a+b)=cY f a+cY (fun k=>f (a+k)) b
 |0=>(bX _).symm
 |b+1=>by rw[show a+(b+1)=a+b+1 by omega,cY,cY,rf f a b,Rat.add_assoc]
theorem uc{k:Nat}(hk:k<n):(eK M n).getD k []=M.map fun r=>r.getD k 0:=by
 unfold eK;exact getD_some (by rw[aN,bq hk];rfl)
theorem mw{k i:Nat}(hk:k<n):dD (eK M n) k i=dD M i k:=by
 rw[dD,dD,uc hk];rcases aP i M.length with h|h
 ·have hr:=aB h;rw[getD_some (show (M.map fun r=>r.getD k 0)[i]? =some (M[i].getD k 0) by rw[aN,hr];rfl),getD_some hr]
 ·rw[iU (by rw[aJ];exact h),show M.getD i []=[] by rw[List.getD,List.getElem?_eq_none h];rfl];rfl
theorem gi(M:List (List Rat))(n:Nat):fX M.length (eK M n):=fun r hr=>by
 obtain⟨k,_,rfl⟩:=aT.1 hr;exact aJ ..
theorem eV(M:List (List Rat))(n:Nat):(eK M n).length=n:=by simp[eK]
theorem EG(hM:fX n M):eK (eK M n) M.length=M:=by
 refine ga [] (eV _ _) fun i hi=>?_;rw[eV]at hi;have hr:=hM.getD hi;refine ga 0 (by rw[uc hi,aJ,eV,hr]) fun t ht=>?_;rw[uc hi,aJ,eV]at ht;have:=mw (M:=eK M n) (n:=M.length) (i:=t) hi;rw[mw ht]at this;exact this
abbrev jn(M:List (List Rat))(n:Nat):Nat:=(cM M n).2.length
section
variable{M:List (List Rat)}{n:Nat}
theorem Hw(hM:fX n M){G:Mx}{r:Nat}(h:∀j,j<M.length->eF G r n (dD M j)):jn M n<=r:=by
 obtain⟨r1,r2,r3,r4,r5⟩:=dY hM n (aF _);have hl:=dh M n;have Ue:jn M n=(cM M n).2.length:=rfl;have hB:∀i,∃c:Nat->Rat,i<jn M n->∀t,t<n->dD (cM M n).1 i t=cY (fun k=>c k*G k t) r:=fun i=>by
  by_cases hi:i<jn M n
  ·obtain⟨c,hc⟩:=((jQ hM n (aF _)).1 i (by omega)).trans h;exact⟨c,fun _=>hc⟩
  ·exact⟨fun _=>0,fun h=>absurd h hi⟩
 obtain⟨D,hD⟩:∃D:Nat->Nat->Rat,∀i,i<jn M n->∀t,t<n->dD (cM M n).1 i t=cY (fun k=>D i k*G k t) r:=⟨fun i=>(hB i).choose,fun i=>(hB i).choose_spec⟩
 refine Nat.le_of_not_lt fun OU=>?_;obtain⟨T,hT⟩:∃T:List (List Rat),T=(List.range r).map fun k=>(List.range (jn M n)).map fun i=>D i k:=⟨_,rfl⟩
 have hTl:T.length=r:=by rw[hT];simp
 have hTn:fX (jn M n) T:=fun x hx=>by
  rw[hT]at hx;obtain⟨k,_,rfl⟩:=aT.1 hx;simp
 have hTat:∀k i,k<r->i<jn M n->dD T k i=D i k:=fun k i hk hi=>by
  have h1:T[k]? =some ((List.range (jn M n)).map fun i=>D i k):=by rw[hT,aN,bq hk];rfl
  rw[dD,getD_some h1];exact getD_some (by rw[aN,bq hi];rfl)
 obtain⟨-,t2,-⟩:=dY hTn (jn M n) (aF _);have hkl:=lH T (jn M n);rw[dh,hTl]at t2;have hc:=ym hTn;have SA:0<(cW T (jn M n)).length:=by omega
 have hy:=tA hTn SA;have Pv:∀i,i<jn M n->dD (cW T (jn M n)) 0 i=0:=fun j hj=>by
  have hpj:(cM M n).2.getD j 0<n:=r4 _ (by rw[List.getD,aB hj];exact aY _);have e1:cY (fun i=>dD (cW T (jn M n)) 0 i*dD (cM M n).1 i ((cM M n).2.getD j 0)) (jn M n)=0:=by
   rw[cK (g:=fun i=>cY (fun k=>dD (cW T (jn M n)) 0 i*(D i k*G k ((cM M n).2.getD j 0))) r) fun i hi=>by rw[hD i hi _ hpj,e9],mq,cK (g:=fun _=>0) fun k hk=>?_,di];have h2:=hy k (by omega);unfold mulR at h2;rw[cK (g:=fun i=>(dD T k i*dD (cW T (jn M n)) 0 i)*G k ((cM M n).2.getD j 0)) fun i hi=>by rw[hTat k i hk hi];grind,kl,h2,bH]
  rw[ec hj fun i hi OG=>by rw[r5 j i hj (by omega),aK OG,bD],r5 j j hj (by omega),if_pos rfl,Rat.mul_one]at e1;exact e1
 have h3:=Gt (M:=T) (n:=jn M n) (c:=fun k=>if k=0 then 1 else 0) (fun t ht=>by
  rw[ec SA fun k _ OG=>by rw[aK OG,bH],if_pos rfl,bw]
  exact Pv t ht) 0 SA
 exact absurd h3 (by decide)
theorem qm(hM:fX n M):jn (eK M n) M.length<=jn M n:=by
 obtain⟨r1,r2,r3,r4,r5⟩:=dY hM n (aF _);have hl:=dh M n;have Ue:jn M n=(cM M n).2.length:=rfl;have hrf:=y9 hM;refine Hw (gi M n) (G:=fun i j=>dD M j ((cM M n).2.getD i 0)) fun t ht=>?_;rw[eV]at ht;refine⟨fun i=>dD (cM M n).1 i t,fun j hj=>?_⟩;rw[mw ht];have h1:eF (dD (cM M n).1) (jn M n) n (dD M j):=((jQ hM n (aF _)).2 j hj).cut fun i t h1 h2 ht=>r3 i t h1 (by omega) ht;rw[hrf.coeff h1 t ht];exact cK fun i _=>bg _ _
theorem yt(hM:fX n M):jn (eK M n) M.length=jn M n:=by
 refine aR (qm hM) ?_;have h:=qm (gi M n);rw[eV,EG hM]at h;exact h
theorem EH(hM:fX n M)(hr:jn M n=M.length):CM (dD M) M.length n:=by
 obtain⟨r1,r2,r3,r4,r5⟩:=dY hM n (aF _);have hl:=dh M n;have Ue:jn M n=(cM M n).2.length:=rfl;refine(vv hM n (aF _)).1 fun x hx j hj=>?_;have hj2:j<(cM M n).2.length:=by omega
 have hpj:(cM M n).2.getD j 0<n:=r4 _ (by rw[List.getD,aB hj2];exact aY _);have h1:=hx _ hpj;rw[ec hj fun i hi OG=>by rw[r5 j i hj2 (by omega),aK OG,bD],r5 j j hj2 (by omega),if_pos rfl,Rat.mul_one]at h1;exact h1
theorem Hx{k:Nat}(hk:k<n):mulR (eK M n) M.length y k=cY (fun i=>dD M i k*y i) M.length:=cK fun i _=>by rw[mw hk]
def iK(M:List (List Rat))(n:Nat)(fl:List Rat):List (List Rat):=(M.map fun r=>List.replicate M.length 0++r)++(List.range n).map fun j=>(M.map fun r=>r.getD j 0)++(List.replicate n 0).set j (fl.getD j 0)
theorem fU(fl:List Rat):(iK M n fl).length=M.length+n:=by unfold iK;rw[List.length_append,aJ,aJ,List.length_range]
theorem ju(hM:fX n M)(fl:List Rat):fX (M.length+n) (iK M n fl):=fun r hr=>by
 rcases bG.1 hr with hr|hr
 ·obtain⟨x,hx,rfl⟩:=aT.1 hr;rw[List.length_append,bC,hM x hx]
 ·obtain⟨x,hx,rfl⟩:=aT.1 hr;rw[List.length_append,aJ,bE,bC]
theorem CP{i:Nat}(hi:i<M.length):(t<M.length->dD (iK M n fl) i t=0)∧dD (iK M n fl) i (M.length+t)=dD M i t:=by
 have hr:=aB hi;have h:(iK M n fl)[i]? =some (List.replicate M.length 0++M[i]):=by
  unfold iK;rw[aL (by rw[aJ];exact hi),aN,hr];rfl
 refine⟨fun ht=>?_,?_⟩
 ·rw[dD,getD_some h];exact getD_some (by rw[aL (by rw[bC];exact ht),List.getElem?_replicate,if_pos ht])
 ·rw[dD,dD,getD_some h,getD_some hr,List.getD,List.getD,aM (by rw[bC];exact Nat.le_add_right _ _),bC,Nat.add_sub_cancel_left]
theorem yu{j:Nat}(hj:j<n):(t<M.length->dD (iK M n fl) (M.length+j) t=dD M t j)∧(t<n->dD (iK M n fl) (M.length+j) (M.length+t)=if t=j then fl.getD j 0 else 0):=by
 have h:(iK M n fl)[M.length+j]? =some ((M.map fun r=>r.getD j 0)++(List.replicate n 0).set j (fl.getD j 0)):=by
  unfold iK;rw[aM (by rw[aJ];exact Nat.le_add_right _ _),aJ,Nat.add_sub_cancel_left,aN,bq hj];rfl
 refine⟨fun ht=>?_,fun ht=>?_⟩
 ·have hr:=aB ht;rw[dD,dD,getD_some h,getD_some hr];exact getD_some (by rw[aL (by rw[aJ];exact ht),aN,hr];rfl)
 ·rw[dD,getD_some h];by_cases e:t=j
  ·subst e;rw[if_pos rfl];exact getD_some (by rw[aM (by rw[aJ];exact Nat.le_add_right _ _),aJ,Nat.add_sub_cancel_left,aW (by rw[bC];exact ht)])
  ·rw[aK e];exact getD_some (by rw[aM (by rw[aJ];exact Nat.le_add_right _ _),aJ,Nat.add_sub_cancel_left,aX (Ne.symm e),List.getElem?_replicate,if_pos ht])
theorem ud{i:Nat}(hi:i<M.length):mulR (iK M n fl) (M.length+n) z i=mulR M n (fun t=>z (M.length+t)) i:=by
 unfold mulR;rw[rf,cK (g:=fun _=>0) fun t ht=>by rw[(CP hi).1 ht,bH],di,Rat.zero_add];exact cK fun t _=>by rw[(CP hi).2]
theorem ue{j:Nat}(hj:j<n):mulR (iK M n fl) (M.length+n) z (M.length+j)=cY (fun i=>dD M i j*z i) M.length+fl.getD j 0*z (M.length+j):=by
 unfold mulR;rw[rf,cK fun t ht=>by rw[(yu hj).1 ht]];congr 1;rw[ec hj fun t ht OG=>by rw[(yu hj).2 ht,aK OG,bH],(yu hj).2 hj,if_pos rfl]
theorem BX(h:∀j,j<M.length->mulR M n y j=0):cY (fun t=>y t*cY (fun i=>dD M i t*u i) M.length) n=0:=by
 rw[cK (g:=fun t=>cY (fun i=>y t*(dD M i t*u i)) M.length) fun t _=>by rw[e9],mq,cK (g:=fun _=>0) fun i hi=>?_,di];have h1:=h i hi;unfold mulR at h1;rw[cK (g:=fun t=>dD M i t*y t*u i) fun t _=>by grind,kl,h1,bH]
end
section
variable{M:List (List Rat)}{n:Nat}{fl b:List Rat}
theorem jm.Mp(hM:fX n M)(h:jm M n (fun t=>fl.getD t 0) b x):∃u,fE (eK M n) (cZ (ew x fl) (-1)) M.length=some u:=by
 cases e:fE (eK M n) (cZ (ew x fl) (-1)) M.length with
 |some u=>exact⟨u,rfl⟩
 |none=>
  obtain⟨y,y1,y2⟩:=n9 (gi M n) e;rw[eV]at y1 y2;refine absurd ?_ y2;have UG:∀j,j<M.length->mulR M n y j=0:=fun j hj=>Eq.trans (cK fun t ht=>by rw[mw ht,bg]) (y1 j hj);obtain⟨c,hc⟩:=Gs hM UG;have hb:∀t,t<n->(cZ (ew x fl) (-1)).getD t 0= -(fl.getD t 0*x.getD t 0):=fun t ht=>by
   have h1:=mr (a:=x) (b:=fl) (t:=t) (by rw[h.len];exact ht);have hl:t<(ew x fl).length:=by rw[ew,List.length_mapIdx,h.len];exact ht
   rw[getD_some (aB hl)]at h1;rw[getD_some (show (cZ (ew x fl) (-1))[t]? =some ((ew x fl)[t]* -1) by rw[cZ,aN,aB hl];rfl),h1];grind
  have e1:cY (fun t=>y t*(cZ (ew x fl) (-1)).getD t 0) n= -(sT (fun t=>fl.getD t 0) (fun t=>x.getD t 0) y n):=by
   unfold sT;rw[<-lE];exact cK fun t ht=>by rw[hb t ht];grind
  rw[e1,u6 (x':=fun t=>x.getD t 0) (fun _ _=>rfl) hc,tD,cK (g:=fun _=>0) fun k hk=>by rw[tC,h.st k hk,bD],di];rfl
theorem yv(x fl:List Rat){n:Nat}(hx:x.length=n)(ht:t<n):(cZ (ew x fl) (-1)).getD t 0= -(fl.getD t 0*x.getD t 0):=by
 have h1:=mr (a:=x) (b:=fl) (t:=t) (by rw[hx];exact ht);have hl:t<(ew x fl).length:=by rw[ew,List.length_mapIdx,hx];exact ht
 rw[getD_some (aB hl)]at h1;rw[getD_some (show (cZ (ew x fl) (-1))[t]? =some ((ew x fl)[t]* -1) by rw[cZ,aN,aB hl];rfl),h1];grind
theorem EI(hM:fX n M){u:List Rat}(hb:b.length=M.length)(h:jm M n (fun t=>fl.getD t 0) b x)(hu:fE (eK M n) (cZ (ew x fl) (-1)) M.length=some u):
  (u++x).length=M.length+n∧∀j,j<(iK M n fl).length->mulR (iK M n fl) (M.length+n) (fun t=>(u++x).getD t 0) j=(b++fg n).getD j 0:=by
 obtain⟨u1,u2⟩:=jR (gi M n) hu;rw[eV]at u2;have ha:∀t,t<M.length->(u++x).getD t 0=u.getD t 0:=fun t ht=>by rw[List.getD,aL (by omega),<-List.getD]
 have hc:∀t,(u++x).getD (M.length+t) 0=x.getD t 0:=fun t=>by rw[List.getD,aM (by omega),u1,Nat.add_sub_cancel_left,<-List.getD]
 refine⟨by rw[List.length_append,u1,h.len],fun j hj=>?_⟩;rw[fU]at hj;rw[pD];rcases aP j M.length with h1|h1
 ·rw[ud h1,rb (y:=fun t=>x.getD t 0) fun t _=>hc t];exact h.eq j h1
 ·obtain⟨k,rfl⟩:∃k,j=M.length+k:=⟨j-M.length,by omega⟩
  have hk:k<n:=by omega
  rw[ue hk,hc,iU (l:=b) (by omega),cK (g:=fun i=>dD M i k*u.getD i 0) fun i hi=>by rw[ha i hi]];have h2:=u2 k hk;rw[Hx hk,yv x fl h.len hk]at h2;rw[h2];grind
theorem Jd(hM:fX n M){z:List Rat}(hb:b.length=M.length)(hz:fE (iK M n fl) (b++fg n) (M.length+n)=some z):jm M n (fun t=>fl.getD t 0) b (z.drop M.length):=by
 obtain⟨z1,z2⟩:=jR (ju hM fl) hz;have hd:∀t,(z.drop M.length).getD t 0=z.getD (M.length+t) 0:=fun t=>by rw[List.getD,List.getD,List.getElem?_drop]
 refine⟨by rw[List.length_drop,z1];omega,fun j hj=>?_,fun k hk=>?_⟩
 ·have h1:=z2 j (by rw[fU];omega);rw[ud hj,pD]at h1;rw[<-h1];exact rb (fun t _=>hd t) j
 ·have h0:=BX (u:=fun i=>z.getD i 0) (tA hM hk);unfold sT;have e:cY (fun t=>fl.getD t 0*(dD (cW M n) k t*(z.drop M.length).getD t 0)) n= -cY (fun t=>dD (cW M n) k t*cY (fun i=>dD M i t*z.getD i 0) M.length) n:=by
   rw[<-lE];refine cK fun t ht=>?_;have h1:=z2 (M.length+t) (by rw[fU];omega);rw[ue ht,pD,iU (l:=b) (by omega)]at h1;rw[hd];grind
  rw[e,h0];rfl
theorem Je(hE:AT M n fun t=>fl.getD t 0)(hr:jn M n=M.length):Inj (iK M n fl) (M.length+n):=fun z hz=>by
 have hM:=hE.len;have h1:∀j,j<M.length->mulR M n (fun t=>z (M.length+t)) j=0:=fun j hj=>by rw[<-ud hj];exact hz j (by rw[fU];omega)
 have h2:∀k,k<n->cY (fun i=>dD M i k*z i) M.length+fl.getD k 0*z (M.length+k)=0:=fun k hk=>by rw[<-ue hk];exact hz _ (by rw[fU];omega)
 have h3:sT (fun t=>fl.getD t 0) (fun t=>z (M.length+t)) (fun t=>z (M.length+t)) n=0:=by
  have e:sT (fun t=>fl.getD t 0) (fun t=>z (M.length+t)) (fun t=>z (M.length+t)) n= -cY (fun t=>z (M.length+t)*cY (fun i=>dD M i t*z i) M.length) n:=by
   unfold sT;rw[<-lE];exact cK fun t ht=>by have:=h2 t ht;grind
  rw[e,BX h1];rfl
 have h4:=hE.Ml _ h1 h3;have h5:=EH hM hr z fun t ht=>by
  have:=h2 t ht;rw[h4 t ht,bD,bX]at this;exact Eq.trans (cK fun i _=>bg _ _) this
 intro t ht;rcases aP t M.length with h6|h6
 ·exact h5 t h6
 ·have:=h4 (t-M.length) (by omega)
  rwa [show M.length+(t-M.length)=t by omega]at this
theorem BY(hM:fX n M)(hr:jn M n=M.length):∃x,fE M b n=some x:=by
 cases e:fE M b n with
 |some x=>exact⟨x,rfl⟩
 |none=>
  obtain⟨y,y1,y2⟩:=n9 hM e;have:=EH hM hr y y1;exact absurd (by rw[cK (g:=fun _=>0) fun j hj=>by rw[this j hj,bH],di]) y2
end
end Go.Ex
namespace Go.Ex
open Go Go.Sx Go.Proofs
variable{S:Nat->Prop}
section
variable{S S':Nat->Prop}{H:Hp}{nx:Nat}{iv iv':Iv}{B:Nat}{w w' w2:World}{O:Nat->Sx.dg}{v:Value}{M:List (List Int)}
theorem j1.rel(h:j1 w (Cv S B iv) v M)(r:Rel H nx iv B w O w')(hS:∀g,S g->g<B):j1 w' (Cv S B iv) v M:=j1.cI h fun _ hg=>Rel.same r hS hg
theorem j1.cG(h:j1 w (Cv S B iv) v M)(r:Rel H nx iv B w O w')(hS:∀g,S g->g<B)(he:Ext w' w2)(hm:∀p,p∈iv->p∈iv'):j1 w2 (Cv S B iv') v M:=
 j1.cJ ((j1.rel h r hS).cI fun g hg=>he.block g (Rel.old r hS g hg)) fun _ hg=>hg.mono hm
theorem j1.dE(h:j1 w2 (Nf w' w2) v M)(hB:B<=w'.heap.size)(hm:(w'.heap.size,w2.heap.size)∈iv):j1 w2 (Cv S B iv) v M:=j1.cJ h fun _ hg=>hg.dE hB hm
end
set_option maxHeartbeats 1000000 in
theorem IT{w:World}{vn vb vs vl:Value}{f:fM}{l:List Ld}(hS:Old S w)(hf:du w S vn vb vs f)(hl:jB w S vl l)(UO:f.nodes.length<=20)(OJ:tz f.nodes.length l):
  eD PG N.tJ #[.agg #[vn,vb,vs],vl] w (eG w fun v' w2=>cL w2 (Nf w w2) v' (fJ f l)):=by
 have hw:=bR w;obtain⟨an,cn,ab,cb,aq,cq,rfl,rfl,rfl,Qw,RX,SG⟩:=hf.shape;obtain⟨al,cl,rfl,Po,Qu⟩:=hl.shape;have hl200:=OJ.len;refine xC (by simp) ?_;refine⟨((3*f.nodes.length:Nat):Int),wo,?_⟩;obtain⟨m,hm⟩:∃m,3*f.nodes.length=m:=⟨_,rfl⟩
 rw[hm]
 refine⟨m,m,rfl,rfl,aF _,by omega,by omega,Nat×World,fun z=>⟨[(1,sV al l.length cl),(5,.o (.s 1 0 m m)),(6,iN z.1)],[(1,.arr T.int (zv (fO f.nodes.length l z.1)))],2,[],z.2⟩,fun z=>l.length-z.1,
  fun z=>z.1<=l.length∧eB w.heap.size w z.2∧LK (fO f.nodes.length l z.1) (3000000*z.1),?_,?_⟩
 ·intro O w' r3;exact⟨(0,w'),⟨aO _,hw.tr r3.cQ,fun z hz=>by rw[fO]at hz;rw[bL hz];exact⟨Int.le_refl _,Int.le_refl _⟩⟩,Sub.gn [] r3 ⟨by dsimp only;rw[fO,hm,zv,List.map_replicate];rfl,trivial⟩⟩
 rintro⟨i,w1⟩ ⟨hi,hw,Oc⟩;dsimp only at hi hw Oc ⊢;refine dN.mk ?_ ?_<;>intro OF
 ·have OF:i<l.length:=by simpa using OF
  obtain⟨x,hx⟩:∃x,l[i]? =some x:=⟨_,aB OF⟩
  obtain⟨hn,QK,QM,hx3⟩:=OJ.ld x (aC hx);obtain⟨kn,hkn⟩:=Int.eq_ofNat_of_zero_le hn.1;obtain⟨adx,cs,PI,hP,-,Of⟩:=hl.load (by decide) hx;have hP:cs=[.int .i64 x.1,.int .i64 x.2.1,.int .i64 x.2.2.1,.int .i64 x.2.2.2]:=hP;subst hP;obtain⟨s0,Ul⟩:∃s,fO f.nodes.length l i=s:=⟨_,rfl⟩
  rw[Ul]at Oc;have Qd:s0.length=m:=by rw[<-Ul,jx,hm]
  obtain⟨z0,OQ⟩:∃z,s0[3*kn]? =some z:=⟨_,aB (by omega)⟩
  obtain⟨z1,OV⟩:∃z,s0[3*kn+1]? =some z:=⟨_,aB (by omega)⟩
  obtain⟨z2,Ov⟩:∃z,s0[3*kn+2]? =some z:=⟨_,aB (by omega)⟩
  have b0:=Oc z0 (aC OQ);have b1:=Oc z1 (aC OV);have b2:=Oc z2 (aC Ov);have n1:gN s0 x 1=s0.set (3*kn) (z0+x.2.1):=(mL (k:=0) (j:=3*kn) (by omega) rfl OQ).symm;have n2:gN s0 x 2=(s0.set (3*kn) (z0+x.2.1)).set (3*kn+1) (z1+x.2.2.1):=by
   rw[<-n1];exact(mL (k:=1) (j:=3*kn+1) (by omega) rfl (by rw[n1,aX (by omega)];exact OV)).symm
  have n3:gN s0 x 3=((s0.set (3*kn) (z0+x.2.1)).set (3*kn+1) (z1+x.2.2.1)).set (3*kn+2) (z2+x.2.2.2):=by
   rw[<-n2];exact(mL (k:=2) (j:=3*kn+2) (by omega) rfl (by rw[n2,aX (by omega),aX (by omega)];exact Ov)).symm
  have QS:gN s0 x 3=fO f.nodes.length l (i+1):=by rw[fO,show l.getD i (0,0,0,0)=x by rw[List.getD,hx];rfl,Ul]
  have hbd1:=Oc.set (j:=3*kn) (z:=z0+x.2.1) (t2:=3000000*i+1000000) (by omega) (by omega);have Re:=hbd1.set (j:=3*kn+1) (z:=z1+x.2.2.1) (t2:=3000000*i+2000000) (by omega) (by omega);have hbd3:=Re.set (j:=3*kn+2) (z:=z2+x.2.2.2) (t2:=3000000*i+3000000) (by omega) (by omega);rw[<-n3,QS]at hbd3;rw[Ul];refine⟨adx,PI,by omega,.int .i64 x.1,fun O w' r=>?_,?_⟩
  ·obtain⟨k1,k2⟩:=Of 0 _ rfl;rw[cH (w:=w) (w2:=w') (by simp only[dH];exact(hw.tr r.cQ).block _ (hS _ k1))];simp only[aE,jy]at k2 ⊢;exact k2
  refine⟨((3*kn:Nat):Int),wo,?_⟩;refine cN hτ dm [.x 0,.x 1,.x 2,.x 3,.x 4,.x 5,.x 6,.x 7,.x 8,.x 9,.x 10,.x 11,.x 12,.x 13,.x 14,.x 15,.x 16,.x 17,.x 18,.x 19,.x 20,.x 21,.x 22,.x 23,.x 24,.x 25,.x 26,.x 27,.x 28,.x 29,.x 30,.x 31,.x 32,.x 33,.x 34,.x 35,.x 36,.x 37,.x 38,.x 39,.x 40,.x 41,.x 42,.x 43,.x 44,.x 45] (by kernel_rfl) (by kernel_rfl) ?_;refine⟨((3*kn+1:Nat):Int),wo,((3*kn+2:Nat):Int),wo,by omega,.int .i64 z0,by rw[aE,aS,aQ];exact Bb OQ,adx,PI,by omega,.int .i64 x.2.1,fun O w' r=>?_,?_⟩
  ·obtain⟨k1,k2⟩:=Of 1 _ rfl;rw[cH (w:=w) (w2:=w') (by simp only[dH];exact(hw.tr r.cQ).block _ (hS _ k1))];simp only[aE,jy]at k2 ⊢;exact k2
  refine⟨z0+x.2.1,wo,((3*kn+1:Nat):Int),wo,by omega,.int .i64 z1,by rw[aE,aS,aQ];exact Bb OV,adx,PI,by omega,.int .i64 x.2.2.1,fun O w' r=>?_,?_⟩
  ·obtain⟨k1,k2⟩:=Of 2 _ rfl;rw[cH (w:=w) (w2:=w') (by simp only[dH];exact(hw.tr r.cQ).block _ (hS _ k1))];simp only[aE,jy]at k2 ⊢;exact k2
  refine⟨z1+x.2.2.1,wo,((3*kn+2:Nat):Int),wo,by omega,.int .i64 z2,by rw[aE,aS,aQ];exact Bb Ov,adx,PI,by omega,.int .i64 x.2.2.2,fun O w' r=>?_,?_⟩
  ·obtain⟨k1,k2⟩:=Of 3 _ rfl;rw[cH (w:=w) (w2:=w') (by simp only[dH];exact(hw.tr r.cQ).block _ (hS _ k1))];simp only[aE,jy]at k2 ⊢;exact k2
  refine⟨z2+x.2.2.2,wo,by omega,by rw[Cx];(try rw[bE]);(try rw[bE]);omega,zv ((s0).set (3*kn) (z0+x.2.1)),?_,?_⟩
  ·rw[aE,aS,aQ];exact Cy (by (try rw[bE]);(try rw[bE]);omega)
  refine⟨by omega,by rw[Cx];(try rw[bE]);(try rw[bE]);omega,zv (((s0).set (3*kn) (z0+x.2.1)).set (3*kn+1) (z1+x.2.2.1)),?_,?_⟩
  ·rw[aE,aS,aQ];exact Cy (by (try rw[bE]);(try rw[bE]);omega)
  refine⟨by omega,by rw[Cx];(try rw[bE]);(try rw[bE]);omega,zv ((((s0).set (3*kn) (z0+x.2.1)).set (3*kn+1) (z1+x.2.2.1)).set (3*kn+2) (z2+x.2.2.2)),?_,?_⟩
  ·rw[aE,aS,aQ];exact Cy (by (try rw[bE]);(try rw[bE]);omega)
  refine⟨((i+1:Nat):Int),wo,?_⟩;intro ρ3 w6 r3;exact⟨(i+1,w6),⟨OF,hw.tr r3.cQ,fun z hz=>by have:=hbd3 z hz;dsimp only;omega⟩,Sub.gn [] r3 ⟨by dsimp only;rw[<-QS,n3];rfl,trivial⟩,by dsimp only;omega⟩
 have OF:i=l.length:=aR hi (by simpa using OF);subst OF;obtain⟨s0,Ul⟩:∃s,fO f.nodes.length l l.length=s:=⟨_,rfl⟩
 have Qd:s0.length=m:=by rw[<-Ul,jx,hm]
 rw[Ul]at Oc ⊢
 refine⟨Nat×List (List Value)×World×Iv,fun z=>⟨[(5,.o (.s 1 0 m m)),(8,.o (.w 2 z.2.1.length)),(9,iN z.1)],[(2,.vec T.Rat 4 z.2.1.flatten),(1,.arr T.int (zv s0))],3,z.2.2.2,z.2.2.1⟩,fun z=>m-z.1,
  fun z=>z.1<=m∧eB w.heap.size w z.2.2.1∧dW z.2.2.1 (Cf w z.2.2.2) z.2.1 (cd (s0.take z.1)),?_,?_⟩
 ·intro O w' r;exact⟨(0,[],w',_),⟨aO _,hw.tr r.cQ,dW.nil⟩,Sub.nil 8 T.Rat 4 rfl (by simp[jN,SV.sc,At.sc,fW]) r fun ρ1 r1=>Sub.gn [] r1⟩
 rintro⟨i,css,w1,iv⟩ ⟨hi,hw,hG⟩;dsimp only at hi hw hG ⊢;have OX:=eH hG.four;have RM:css.length=i:=by rw[hG.len,cd,aJ,aV];omega
 refine dN.mk ?_ ?_<;>intro OF
 ·have OF:i<m:=by simpa using OF
  obtain⟨z,hz⟩:∃z,s0[i]? =some z:=⟨_,aB (by omega)⟩
  have Rq:=Oc z (aC hz);refine⟨by omega,.int .i64 z,by rw[aE,aS,aQ];exact Bb hz,?_⟩;refine cD (cE hw (fun _ w' v w2=>cS w2 (Nf w' w2) v (z:Rat)) (fun O w' r=>jI z w' (by omega)) ?_);rintro O _ _ _ OM r he hw h_ hn;replace hG:=hG.cG r (cC w) he (mC h_);have hd:=hn.dE (S:=FF) r.cF (mN h_);obtain⟨A0,A1,A2,A3,A4,A5,A6,A7,rfl⟩:=hd.shape;have Qt:=hG.push (cs:=[.bool A0,.slice A1 A2 A3,.bool A4,.slice A5 A6 A7]) (q:=(z:Rat)) ⟨_,_,_,_,_,_,_,_,rfl,hd⟩ rfl;rw[<-oM hz]at Qt;have Pm:css.flatten++([.bool A0,.slice A1 A2 A3,.bool A4,.slice A5 A6 A7]:List Value)=(css++([[.bool A0,.slice A1 A2 A3,.bool A4,.slice A5 A6 A7]]:List (List Value))).flatten:=by simp
  refine .inl ?_;refine⟨by omega,by omega,by unfold maxLen;omega,((i+1:Nat):Int),wo,?_⟩;intro ρ3 w6 r3;exact⟨(i+1,css++[[.bool A0,.slice A1 A2 A3,.bool A4,.slice A5 A6 A7]],w6,_),⟨OF,hw.tr r3.cQ,Qt.rel r3 (cC w)⟩,Sub.gn [(2,4)] r3 ⟨by dsimp only;rw[<-Pm];rfl,rfl,trivial⟩ ⟨rfl,by dsimp only;rw[List.length_append,List.length_singleton];rfl,rfl,trivial⟩,by dsimp only;omega⟩
 have OF:i=m:=aR hi (by simpa using OF);have TH:cd (s0.take i)=fJ f l:=by rw[fJ,Ul,OF,<-Qd,bF]
 rw[TH]at hG;intro ρe we re;refine⟨_,rfl,hw.tr re.cQ,?_⟩;have h5:=re.ie (id:=2) (sz:=4) (m:=css.length) rfl OX (by unfold maxLen;omega) (by decide) hG.one;exact dW.list ((hG.rel re (cC w)).cJ fun g hg=>Cv.nw hg re) (h5.cJ fun g hg=>.inr hg)
end Go.Ex
namespace Go.Ex
open Go
section
theorem Fi:∀(N m:Nat) (g:Nat->Nat),(∀i,i<m->g i<N)->(∀i j,i<m->j<m->g i=g j->i=j)->m<=N
 |0,m,g,h1,_=>by
  rcases bI m with h|h
  ·omega
  ·exact absurd (h1 0 h) (Nat.not_lt_zero _)
 |N+1,m,g,h1,h2=>by
  by_cases h:∃i,i<m∧g i=N
  ·obtain⟨i0,hi,e⟩:=h
   have:=Fi N (m-1) (fun i=>if i<i0 then g i else g (i+1)) (fun i Sb=>by
    show(if i<i0 then g i else g (i+1))<N;split
    ·rename_i OU;have:=h1 i (by omega);have:g i≠N:=fun e2=>by have:=h2 i i0 (by omega) hi (by rw[e2,e]);omega
     omega
    ·have:=h1 (i+1) (by omega);have:g (i+1)≠N:=fun e2=>by have:=h2 (i+1) i0 (by omega) hi (by rw[e2,e]);omega
     omega) (fun i j Sb hj' e2=>by
    have e3:(if i<i0 then g i else g (i+1))=(if j<i0 then g j else g (j+1)):=e2;split at e3<;>split at e3
    ·exact h2 _ _ (by omega) (by omega) e3
    ·have:=h2 _ _ (by omega) (by omega) e3;omega
    ·have:=h2 _ _ (by omega) (by omega) e3;omega
    ·have:=h2 _ _ (by omega) (by omega) e3;omega)
   omega
  ·exact Nat.le_succ_of_le (Fi N m g (fun i hi=>by
    have:=h1 i hi;have:g i≠N:=fun e=>h ⟨i,hi,e⟩
    omega) h2)
structure FrS(f:fM):Prop extends FrV f where
 n4:f.nodes.length<=4
 b6:f.bars.length<=6
variable{f:fM}
theorem FrS.s12(h:FrS f):f.cU.length<=12:=by
 have:=Fi (3*f.nodes.length) f.cU.length (fun i=>gb (f.cU.getD i (0,0,0))) (fun i hi=>by
  have e:f.cU.getD i (0,0,0)=f.cU[i]:=getD_some (aB hi);show gb (f.cU.getD i (0,0,0))<_;rw[e]
  exact(h.sup _ (aY hi)).1) (fun i j hi hj e=>by
  have e1:f.cU.getD i (0,0,0)=f.cU[i]:=getD_some (aB hi);have e2:f.cU.getD j (0,0,0)=f.cU[j]:=getD_some (aB hj);have e:gb (f.cU.getD i (0,0,0))=gb (f.cU.getD j (0,0,0)):=e;rw[e1,e2]at e
  exact h.one i j _ _ (aB hi) (aB hj) e)
 have:=h.n4;omega
theorem FrS.Ic(h:FrS f):f.cols<=18:=by
 have h1:=h.s12;have h2:=h.b6;unfold fM.cols;omega
theorem FrS.Jf(h:FrS f):(cP f).length<=12:=by
 rw[iV];have:=h.n4;omega
theorem Nb:18*2000000<=wt 1:=by decide
theorem FrS.size(h:FrS f):ln (fB 2000000 (cP f).length)<=13:=by
 have:=h.Jf;have h2:=MO (B:=2000000) (R:=18) (l:=1) (n:=(cP f).length) (by omega) Nb;omega
theorem FrS.ht{c:Nat}(h:FrS f)(hc:c<=f.cols):Ht (cM (cP f) c).1 20:=fun r hr q hq=>by
 have:=r9 (fT f) h.k8 (by decide) hc r hr q hq;have:=h.size;omega
end
end Go.Ex
namespace Go.Ex
open Go Go.Sx Go.Proofs
variable{M:List (List Rat)}{s:List Int}{l:List Ld}{n:Nat}{S:Nat->Prop}{O:Nat->Sx.dg}{vb vl vn vs:Value}{f:fM}
theorem nJ{B h:Nat}(hM:fX n M)(hW:BP M n B)(hB:1<=B)(hh:ln (fB B M.length)+1<=h):Cr M n h:=
 ⟨fun i hi r hr q hq=>by have:=JS hM hW hB hi r hr q hq;omega,fun i hi k hk q hq=>by have:=JT hM hW hB hi hk q hq;omega⟩
theorem GP{B h:Nat}(hM:fX n M)(hW:BP M n B)(hB:1<=B)(hh:ln (fB B M.length)+1<=h):Ht (dR M n).1 h:=fun r hr q hq=>by
 rw[(lG hM hW).2]at hr;have:=r9 hM hW hB (aF n) r (bc hr) q hq;omega
theorem im(M:List (List Rat))(n:Nat)(hM:fX n M):(cM M n).2.length<=(cM M n).1.length∧(cM M n).2.length<=n:=by
 obtain⟨r1,r2,r3,r4,r5⟩:=dY hM n (aF _);have:=(gz M n).2.2;unfold cM at*
 exact⟨r2,by omega⟩
theorem IU{w:World}(hS:Old S w)(hf:du w S vn vb vs f)(SN:eO f=0->FrS f):
  eD PG N.qn #[.agg #[vn,vb,vs]] w (eG w fun v' _=>(eO f≠0∧v'= .tuple #[.agg #[.int .i64 0,.int .i64 0,.int .i64 0],.int .i64 (eO f)])∨(eO f=0∧v'= .tuple #[.agg #[.int .i64 (jn (cP f) f.cols),.int .i64 ((f.cols:Int)-jn (cP f) f.cols),.int .i64 ((3*f.nodes.length:Nat)-jn (cP f) f.cols)],.int .i64 0])):=by
 have hw:=bR w;obtain⟨an,cn,ab,cb,aq,cq,rfl,rfl,rfl,Qw,RX,SG⟩:=hf.shape;have Pr:f.cols=f.bars.length+f.cU.length:=rfl;have SD:=Eg f;obtain⟨e0,EE⟩:∃e,eO f=e:=⟨_,rfl⟩
 refine uv (by simp) ?_;refine cD (cE hw (fun _ w' v w2=>v= .int .i64 e0) (fun O w' r=>(Ei (oS hS r) (hf.cI (kS hw r hS))).mono fun _ _ ⟨v2,e1,e2,e3⟩=>⟨v2,e1,e2,by rw[e3,EE]⟩) ?_);rintro O Pq v1 Pa OM r he hw h_ rfl;refine dN.mk ?_ ?_<;>intro he
 ·have he:e0≠0:=by simpa using he
  exact rtn hw fun ρe we re=>.inl ⟨by rw[EE];exact he,by rw[EE];rfl⟩
 have he:e0=0:=by simpa using he
 have PO:eO f=0:=by rw[EE,he]
 have PU:=SN PO;have OJ:=ni PO;refine cD (cE hw (fun _ w' v w2=>(∃vr,v= .agg #[vr,.int .i64 f.cols]∧cT w2 (Nf w' w2) vr (cP f))∧fX f.cols (cP f)∧Ht (cP f) 2) (fun O w' r=>sL (S:=S) (oS hS r) (hf.cI (kS hw r hS)) OJ) ?_);rintro O _ _ _ ivt r he hw h_ ⟨⟨vr,rfl,k1⟩,hlen,hht⟩;have hM:=cT.dE (S:=FF) k1 r.cF (mN h_);obtain⟨am,cm,rfl,SR,R1⟩:=db.shape hM;have US:=PU.Ic;have Td:=PU.Jf;refine cD (cE hw (fun _ w' v w2=>∃vr vp vf,v= .agg #[vr,.int .i64 f.cols,vp,vf]∧cT w2 (Nw (Cf w ivt) w' w2) vr (dR (cP f) f.cols).1) (fun O w' r=>(zz (C:=Cf w ivt) (S:=Cf w ivt) (h:=20) (Rel.old r (cC w)) (Rel.old r (cC w)) (cT.rel hM r (cC w)) hlen (by omega) (by omega) (nJ hlen PU.k8 (by decide) (by have:=PU.size;omega)) (by decide)).mono fun _ _ ⟨v2,e1,e2,vr,vp,vf,k1,k2,_,_⟩=>⟨v2,e1,e2,vr,vp,vf,k1,k2⟩) ?_);rintro O _ _ _ OK r he hw h_ ⟨vr2,vp2,vf2,rfl,hn⟩;replace hM:=cT.cG hM r (cC w) he (mC h_);obtain⟨ar,cr,rfl,-,-⟩:=db.shape hn;have Ue:(dR (cP f) f.cols).1.length=jn (cP f) f.cols:=by
  rw[(lG hlen PU.k8).2,aV,Nat.min_eq_left (im _ _ hlen).1]
 rw[Ue];have hle:jn (cP f) f.cols<=f.cols:=(im _ _ hlen).2;obtain⟨nr,Tv⟩:∃nr,jn (cP f) f.cols=nr:=⟨_,rfl⟩
 rw[Tv]at hle ⊢;refine⟨(f.cols:Int)-nr,wo,((cP f).length:Int)-nr,wo,?_⟩;exact rtn hw fun ρe we re=>.inr ⟨PO,by rw[SD];rfl⟩
theorem Bm{α β:Type}(g:List α->List β)(hg:∀r,(g r).length=r.length):∀M:List (List α),ek (M.map g)=ek M
 |[]=>rfl
 |r::M=>hg r
theorem KV(hlen:fX n M)(Te:0<M.length∨n=0):ek (M.map iP)=n:=by
 rw[Bm iP fun r=>Bn r]
 cases M with
 |nil=>
  rcases Te with h|h
  ·exact absurd h (Nat.lt_irrefl 0)
  ·exact h.symm
 |cons r M=>exact hlen r aG
section
variable{S:Nat->Prop}{w:World}{v u:Value}{M:List (List Rat)}{b:List Rat}{n h0:Nat}
theorem IV(hlen:fX n M)(hc:ek (M.map iP)=n):∀r∈M.map iP,r.length=ek (M.map iP):=fun r hr=>by
 obtain⟨x,hx,rfl⟩:=aT.1 hr;rw[hc,Bn];exact hlen x hx
theorem Lx(hB:∀c,c<=n->Ht (cM M c).1 h0):Ht M h0:=hB 0 (aO _)
theorem KW(h:cT w S v M)(hq:Ht M h0)(hh:3*h0<=90000):dO w S v (fS (M.map Ex.iP)):=by
 rw[GQ];exact h.l fun r hr q QA=>by have:=hq r hr q QA;omega
theorem KX(hS:Old S w)(h:cT w S v M)(hlen:fX n M)(Te:0<M.length∨n=0)(hR:M.length<=1000)(hn:n<=1000)(hB:∀c,c<=n->Ht (cM M c).1 h0)(hh:3*h0<=90000):
  eD PG N.ry #[v] w (eG w fun v' _=>v'= .int .i64 (jn M n)):=by
 have hc:=KV hlen Te;refine(KP (h0:=h0) hS h.iP (KW h (Lx hB) hh) (IV hlen hc) (by rw[aJ];exact hR) (by rw[hc];exact hn) (by rw[hc,GQ];exact hB) hh).mono fun e w2 ⟨v2,e1,e2,e3⟩=>⟨v2,e1,e2,by rw[e3,GQ,hc]⟩
end
theorem da.aAP{H:Hp}{nx:Nat}{iv:Iv}{w0 w1 w':World}{g:Nat}(hg:Cf w0 iv g)(r:Rel H nx iv w0.heap.size w1 O w'):Cf w0 [(w0.heap.size,w'.heap.size)] g:=by
 rcases hg with hg|⟨h1,lo,hi,h2,h3,h4⟩
 ·exact hg.elim
 ·exact .inr ⟨h1,_,_,aw.2 rfl,h1,by have:=r.oe lo hi h2;have:=r.size;omega⟩
theorem IW(n:Nat)(w:World)(h0:0<n)(hn:n<=1000):eD PG N.pT #[.int .i64 n] w (eG w fun v' w2=>da w2 FF w.heap.size [(w.heap.size,w2.heap.size)] v' n (List.replicate n 0)):=by
 have hw:=bR w;refine p9 (by simp) ?_
 refine⟨Nat×List (List Value)×World×Iv,fun z=>⟨[(0,.o (.v (.int .i64 (n:Int)))),(3,.o (.w 0 z.2.1.length)),(4,iN z.1)],[(0,.vec T.Rat 4 z.2.1.flatten)],1,z.2.2.2,z.2.2.1⟩,fun z=>n-z.1,
  fun z=>z.1<=n∧eB w.heap.size w z.2.2.1∧dW z.2.2.1 (Cf w z.2.2.2) z.2.1 (List.replicate z.1 0),?_,?_⟩
 ·intro O w' r;exact⟨(0,[],w',[]),⟨aO _,hw.tr r.cQ,dW.nil⟩,Sub.nil 3 T.Rat 4 rfl (by simp[jN,SV.sc,At.sc,fW]) r fun ρ1 r1=>Sub.gn [] r1⟩
 rintro⟨i,css,w1,iv⟩ ⟨hi,hw,hG⟩;dsimp only at hi hw hG ⊢;have OX:=eH hG.four;have RM:css.length=i:=by rw[hG.len,bC]
 refine dN.mk ?_ ?_<;>intro OF
 ·have OF:i<n:=by simpa using OF
  refine cD (cE hw (fun _ w' v w2=>cS w2 (Nf w' w2) v (((0:Int)):Rat)) (fun O w' r=>jI 0 w' (by decide)) ?_);rintro O _ _ _ OM r he hw h_ hn;replace hG:=hG.cG r (cC w) he (mC h_);have hd:=hn.dE (S:=FF) r.cF (mN h_);obtain⟨A0,A1,A2,A3,A4,A5,A6,A7,rfl⟩:=hd.shape;have Qt:=hG.push (cs:=[.bool A0,.slice A1 A2 A3,.bool A4,.slice A5 A6 A7]) (q:=((0:Int):Rat)) ⟨_,_,_,_,_,_,_,_,rfl,hd⟩ rfl;rw[show List.replicate i (0:Rat)++[((0:Int):Rat)]=List.replicate (i+1) 0 by rw[List.replicate_succ'];rfl]at Qt;have Pm:css.flatten++([.bool A0,.slice A1 A2 A3,.bool A4,.slice A5 A6 A7]:List Value)=(css++([[.bool A0,.slice A1 A2 A3,.bool A4,.slice A5 A6 A7]]:List (List Value))).flatten:=by simp
  refine .inl ?_;refine⟨by omega,by omega,by unfold maxLen;omega,((i+1:Nat):Int),wo,?_⟩;intro ρ3 w6 r3;exact⟨(i+1,css++[[.bool A0,.slice A1 A2 A3,.bool A4,.slice A5 A6 A7]],w6,_),⟨OF,hw.tr r3.cQ,Qt.rel r3 (cC w)⟩,Sub.gn [(0,2)] r3 ⟨by dsimp only;rw[<-Pm];rfl,trivial⟩ ⟨rfl,by dsimp only;rw[List.length_append,List.length_singleton];rfl,rfl,trivial⟩,by dsimp only;omega⟩
 have OF:i=n:=aR hi (by simpa using OF);subst OF;intro ρe we re;have Qt:=hG.rel re (cC w);have h1:=(Lk (S:=Cf w iv) (qs:=List.replicate i 0) re (id:=0) rfl RM h0 (by unfold maxLen;omega) ⟨Qt.len,Qt.at_⟩).1
 obtain⟨-,h2,h3,h4⟩:=Lk (S:=fun g=>Cf w iv g∧(Value.slice (some ⟨(ρe 0).g,0,none⟩) i (ρe 0).cap).ownBlock≠some g) (qs:=List.replicate i 0) re (id:=0) rfl RM h0 (by unfold maxLen;omega) ⟨Qt.len,fun j cs q k1 k2=>by
  obtain⟨b,a,n,c,b2,a2,n2,c2,e,hr⟩:=Qt.at_ j cs q k1 k2
  exact⟨b,a,n,c,b2,a2,n2,c2,e,hr.cJ fun g hg=>⟨hg,fun e=>Rel.not re (cC w) hg 0 _ rfl h1 (by injection e)⟩⟩⟩
 refine⟨.slice (some ⟨(ρe 0).g,0,none⟩) i (ρe 0).cap,?_,hw.tr re.cQ,?_⟩
 ·simp[mR,SV.den,At.den,h1,RM]
 ·refine⟨h4.cJ fun g hg=>⟨?_,hg.2⟩,fun g hg=>?_⟩
  ·exact(da.aAP hg.1 re)
  ·injection hg with hg;have hg:(ρe 0).g=g:=hg;subst hg;exact .inr ⟨h2,_,_,aw.2 rfl,h2,(re.low 0 _ rfl h1).2⟩
theorem FrS.col(h:FrS f):0<3*f.nodes.length∨f.cols=0:=by
 rcases bI f.nodes.length with h0|h0
 ·right;have h1:f.bars=[]:=List.eq_nil_iff_forall_not_mem.2 fun b hb=>by
   obtain⟨ka,kb,_,_,h3,_⟩:=h.Lb b hb;omega
  have h2:f.cU=[]:=List.eq_nil_iff_forall_not_mem.2 fun s hs=>by
   have:=(h.sup s hs).1;omega
  unfold fM.cols;rw[h1,h2];rfl
 ·left;omega
theorem KY{w:World}(hS:Old S w)(hf:du w S vn vb vs f)(PO:eO f=0)(PU:FrS f):
  eD PG N.wG #[.agg #[vn,vb,vs]] w (eG w fun v' _=>v'= .agg #[.int .i64 (jn (cP f) f.cols),.int .i64 ((f.cols:Int)-jn (cP f) f.cols),.int .i64 ((3*f.nodes.length:Nat)-jn (cP f) f.cols)]):=by
 have hw:=bR w;obtain⟨an,cn,ab,cb,aq,cq,rfl,rfl,rfl,Qw,RX,SG⟩:=hf.shape;have Pr:f.cols=f.bars.length+f.cU.length:=rfl;have SD:=iV f;have US:=PU.Ic;have Td:=PU.Jf;have hlen:=fT f;refine zU (by simp) ?_;refine cD (cE hw (fun _ w' v w2=>j1 w2 (Nf w' w2) v (fD f)∧FG (fD f) 2000000) (fun O w' r=>Bj (oS hS r) (hf.cI (kS hw r hS)) PO) ?_);rintro O _ _ _ OM r he hw h_ ⟨hn,Rq⟩;have hZ:=j1.dE (S:=FF) hn r.cF (mN h_);obtain⟨az,cz,rfl,-,-⟩:=db.shape hZ;refine cD (cE hw (fun _ w' v w2=>cT w2 (Nf w' w2) v (cP f)) (fun O w' r=>Lw (Rel.old r (cC w)) (j1.rel hZ r (cC w)) (by rw[<-aJ (f:=cd)];exact ah Td (by decide)) (fun l hl=>by rw[jS f _ l hl];omega) (fun l hl z hz=>by have:=Rq l hl z hz;omega)) ?_);rintro O _ _ _ OK r he hw h_ hn;have hM:=cT.dE (S:=FF) hn r.cF (mN h_);obtain⟨am,cm,rfl,-,-⟩:=db.shape hM;refine cD (cE hw (fun _ w' v w2=>v= .int .i64 (jn (cP f) f.cols)) (fun O w' r=>KX (h0:=20) (Rel.old r (cC w)) (cT.rel hM r (cC w)) hlen (by rw[SD];exact PU.col) (by omega) (by omega) (fun c hc=>PU.ht hc) (by decide)) ?_);rintro O _ _ _ OS r he hw h_ rfl;have hle:jn (cP f) f.cols<=f.cols:=(im _ _ hlen).2;obtain⟨nr,Tv⟩:∃nr,jn (cP f) f.cols=nr:=⟨_,rfl⟩
 rw[Tv]at hle ⊢;refine cN hτ dm [.x 0,.x 1,.x 3,.x 5,.x 6,.x 7,.x 8,.x 9,.x 10,.x 2,.x 4,.x 11,.x 12] (by kernel_rfl) (by kernel_rfl) ?_;refine⟨((3*f.nodes.length:Nat):Int),by have:=PU.n4;rw[wrap64]<;>omega,((3*f.nodes.length:Nat):Int)-nr,by have:=PU.n4;rw[wrap64]<;>omega,?_⟩;refine cE hw (fun _ w' v w2=>v= .int .i64 f.cols) (fun O w' r=>qB (hf.cI (kS hw r hS)) ⟨PU.b,PU.s⟩) ?_;rintro O _ _ _ Oe r he hw h_ rfl;refine⟨(f.cols:Int)-nr,wo,?_⟩;exact rtn hw fun ρe we re=>rfl
theorem NH{w:World}(hl:jB w S vl l):eD PG N.B1 #[vl] w (eG w fun v' _=>∃d,v'= .bool d):=by
 have hw:=bR w;obtain⟨al,cl,rfl,-,Qu⟩:=hl.shape;refine CZ (by simp) ?_;refine dN.mk ?_ ?_<;>intro h1
 ·conv=>whnf
  exact rtn hw fun ρe we re=>⟨_,rfl⟩
 refine dN.mk ?_ ?_<;>intro h1
 ·conv=>whnf
  exact rtn hw fun ρe we re=>⟨_,rfl⟩
 exact rtn hw fun ρe we re=>⟨_,rfl⟩
theorem Ap{w:World}(hS:Old S w)(hf:du w S vn vb vs f)(hl:jB w S vl l):eD PG N.my #[.agg #[vn,vb,vs],vl] w (eG w fun v' _=>v'= .int .i64 (uA f.nodes.length l)):=by
 have hw:=bR w;obtain⟨an,cn,ab,cb,aq,cq,rfl,rfl,rfl,Qw,RX,SG⟩:=hf.shape;obtain⟨al,cl,rfl,Po,Qu⟩:=hl.shape;unfold maxLen at Qu;refine qe (by simp) ?_;refine dN.mk ?_ ?_<;>intro h1
 ·have h1:=aI h1;exact rtn hw fun ρe we re=>by show Value.int .i64 _=_;rw[uA,if_pos (by omega)]
 have h1:=aH h1
 refine⟨Nat×World×Iv,fun z=>⟨[(1,sV al l.length cl),(2,pP 0 0),(5,iN z.1)],[(0,.box T.Frame [.v (.slice an f.nodes.length cn),.v (.slice ab f.bars.length cb),.v (.slice aq f.cU.length cq)])],1,z.2.2,z.2.1⟩,fun z=>l.length-z.1,
  fun z=>z.1<=l.length∧eB w.heap.size w z.2.1∧uA f.nodes.length l=ed (fun _=>j2 f.nodes.length) (l.take z.1) (l.drop z.1),?_,?_⟩
 ·intro O w' r3;exact⟨(0,w',[]),⟨aO _,hw.tr r3.cQ,by rw[uA,aK (by omega)];rfl⟩,Sub.gn [] r3⟩
 clear hw;rintro⟨i,w1,iv⟩ ⟨hi,hw,hE⟩;dsimp only at hi hw hE ⊢;refine dN.mk ?_ ?_<;>intro OF
 ·have OF:i<l.length:=by simpa using OF
  obtain⟨x,hx⟩:∃x,l[i]? =some x:=⟨_,aB OF⟩
  obtain⟨adx,cs,PI,hP,-,Of⟩:=hl.load (by decide) hx;have hP:cs=[.int .i64 x.1,.int .i64 x.2.1,.int .i64 x.2.2.1,.int .i64 x.2.2.2]:=hP;subst hP;refine cN hτ dm [.x 0,.x 1,.x 2,.x 3,.x 4,.x 5,.x 6,.x 7] (by kernel_rfl) (by kernel_rfl) ?_;refine⟨adx,PI,by omega,.int .i64 x.1,fun O w' r=>?_,?_⟩
  ·obtain⟨k1,k2⟩:=Of 0 _ rfl;rw[cH (w:=w) (w2:=w') (by simp only[dH];exact(hw.tr r.cQ).block _ (hS _ k1))];simp only[aE,jy]at k2 ⊢;exact k2
  refine cE hw (fun _ w' v w2=>∃d,v= .bool d∧(d=true↔iz f.nodes.length x.1)) (fun O w' r=>qW _ _ _ _ _ _ _ _ _ _ w') ?_;rintro O _ _ _ OM r he hw h_ ⟨d,rfl,hd⟩;clear r
  cases d
  ·have hc:j2 f.nodes.length x=6:=by
    unfold j2;rw[aK fun h=>by have:=hd.2 h;cases this]
   exact rtn hw fun ρe we re=>by show Value.int .i64 _=_;rw[hE,cR hx hc (by decide)]
  have hd:=hd.1 rfl;refine⟨adx,PI,by omega,[.int .i64 x.1,.int .i64 x.2.1,.int .i64 x.2.2.1,.int .i64 x.2.2.2],rfl,rdO Of hw hS,?_⟩;refine cD (cE hw (fun _ w' v w2=>∃d,v= .bool d∧(d=true↔LV x.2)) (fun O w' r=>IP x w') ?_);rintro O _ _ _ OK r he hw h_ ⟨d2,rfl,PC⟩;clear r
  cases d2
  ·have hc:j2 f.nodes.length x=2:=by
    unfold j2;rw[if_pos hd,aK fun h=>by have:=PC.2 h;cases this]
   exact rtn hw fun ρe we re=>by show Value.int .i64 _=_;rw[hE,cR hx hc (by decide)]
  have PC:=PC.1 rfl;have hc:j2 f.nodes.length x=0:=by
   unfold j2;rw[if_pos hd];exact if_pos PC
  rw[gU hx hc]at hE;refine⟨((i+1:Nat):Int),wo,?_⟩;intro ρ3 w6 r3;exact⟨(i+1,w6,_),⟨OF,hw.tr r3.cQ,hE⟩,Sub.gn [] r3,by dsimp only;omega⟩
 have OF:i=l.length:=aR hi (by simpa using OF);rw[ij (by omega)]at hE;exact rtn hw fun ρe we re=>by show Value.int .i64 _=_;rw[hE]
theorem oN{w:World}(hS:Old S w)(hf:du w S vn vb vs f)(hl:jB w S vl l):eD PG N.oV #[.agg #[vn,vb,vs],vl] w (eG w fun v' _=>v'= .int .i64 (j3 f l)):=by
 have hw:=bR w;obtain⟨an,cn,ab,cb,aq,cq,rfl,rfl,rfl,Qw,RX,SG⟩:=hf.shape;obtain⟨al,cl,rfl,Po,Qu⟩:=hl.shape;obtain⟨e0,EE⟩:∃e,eO f=e:=⟨_,rfl⟩
 refine rz (by simp) ?_;refine cD (cE hw (fun _ w' v w2=>v= .int .i64 e0) (fun O w' r=>(Ek (oS hS r) (hf.cI (kS hw r hS))).mono fun _ _ ⟨v2,e1,e2,e3⟩=>⟨v2,e1,e2,by rw[e3,EE]⟩) ?_);rintro O _ _ _ OM r he hw h_ rfl;clear r;refine dN.mk ?_ ?_<;>intro he
 ·have he:e0≠0:=by simpa using he
  exact rtn hw fun ρe we re=>by show Value.int .i64 _=_;rw[j3,if_pos (by rw[EE];exact he),EE]
 have he:e0=0:=by simpa using he
 refine cD (cE hw (fun _ w' v w2=>v= .int .i64 (uA f.nodes.length l)) (fun O w' r=>Ap (oS hS r) (hf.cI (kS hw r hS)) (hl.cI (kS hw r hS))) ?_);rintro O _ _ _ OK r he hw h_ rfl;clear r he;exact rtn hw fun ρe we re=>by show Value.int .i64 _=_;rw[j3,aK (by rw[EE,he];decide)]
theorem NI(h:eO f≠0∨f.nodes.length<=4∧f.bars.length<=6)(h0:eO f=0):FrS f:=⟨Mn h0,(h.resolve_left fun e=>e h0).1,(h.resolve_left fun e=>e h0).2⟩
theorem Ka(h:FrS f):Ht (cP f) 4:=fun r hr q hq=>by
 obtain⟨i,hi⟩:=aU hr;obtain⟨t,ht⟩:=aU hq;have:=h.ub i t;rw[dD,getD_some hi,getD_some ht]at this;obtain⟨z,rfl,hz⟩:=this;have:rl ((z:Int):Rat)<=2:=Lu (by omega);omega
theorem Kb{t:Int}(h:LK s t)(ht:0<=t)(j:Nat): -t<=s.getD j 0∧s.getD j 0<=t:=by
 rcases aP j s.length with hj|hj
 ·rw[getD_some (aB hj)];exact h _ (aY hj)
 ·rw[List.getD,List.getElem?_eq_none hj];show -t<=0∧0<=t;omega
theorem Bp{s:List Int}{x:Ld}{t:Int}(h:LK s t)(ht:0<=t)(hx:(-1000000<=x.2.1∧x.2.1<=1000000)∧(-1000000<=x.2.2.1∧x.2.2.1<=1000000)∧(-1000000<=x.2.2.2∧x.2.2.2<=1000000)):∀k,k<=3->LK (gN s x k) (t+1000000*(k:Int))
 |0,_=>by rw[gN];simpa using h
 |k+1,hk=>by
  have ih:=Bp h ht hx k (by omega);have hd: -1000000<=(My x).getD k 0∧(My x).getD k 0<=1000000:=by
   rcases(show k=0∨k=1∨k=2 by omega)with rfl|rfl|rfl
   ·exact hx.1
   ·exact hx.2.1
   ·exact hx.2.2
  have hg:=Kb ih (by omega) (3*x.1+k).toNat;rw[gN,Gp];exact ih.set (by omega) (by omega)
theorem vP{n:Nat}{l:List Ld}(OJ:tz n l):∀i,i<=l.length->LK (fO n l i) (3000000*(i:Int))
 |0,_=>fun z hz=>by rw[bL hz];decide
 |i+1,hi=>by
  have ih:=vP OJ i (by omega);have hm:l.getD i (0,0,0,0)∈l:=by rw[getD_some (aB (show i<l.length by omega))];exact aY _
  have:=Bp ih (by omega) (OJ.ld _ hm).2 3 (aF _);rw[fO];intro z hz;have:=this z hz;omega
theorem HS(hn:f.nodes.length<=20)(OJ:tz f.nodes.length l):∀q∈fJ f l,rl q<=1:=fun q hq=>by
 obtain⟨z,hz,rfl⟩:=aT.1 hq;have:=vP OJ l.length (aF _) z hz;have hl:=OJ.len;exact vM (by omega) (by omega)
end Go.Ex
namespace Go.Ex
variable{M:List (List Rat)}{l:Nat}{g:Nat->Rat}{D p q:Rat}
structure sU(f:fM):Prop extends FrS f where
 fx:∀q∈cX f,rl q<=3
def Bl(b:List Rat):Prop:=∀t,Ib 1000000000 (b.getD t 0)
theorem Ib.w{B:Nat}(h:Ib B q)(k:B<=wt l):Ib (wt l) q:=h.mono k
theorem uf(a b:Nat)(h:a+b<=l):wt a*wt b<=wt l:=by rw[<-CK];exact BL h
theorem Ib.tI{a b:Nat}(h:Ib (wt a) p)(k:Ib (wt b) q)(hl:a+b<=l):Ib (wt l) (p*q):=(h.mul k).mono (uf a b hl)
theorem Ib.up{a:Nat}(h:Ib (wt a) p)(hl:a<=l):Ib (wt l) p:=h.mono (BL hl)
theorem Ib.Nc{a n:Nat}(hn:n<=18)(h:∀k,k<n->Ib (wt a) (g k))(hl:a+1<=l):Ib (wt l) (cY g n):=
 (Ib.sum n h).mono (ah (Nat.mul_le_mul_right _ (ah hn (by decide:18<=wt 1))) (uf 1 a (by omega)))
theorem Den.mono{K L:Nat}{l:List Rat}(h:Den K D l)(k:K<=L):Den L D l:=⟨h.1,h.2.1.mono k,fun t=>(h.2.2 t).mono k⟩
theorem Ff.mono{K L:Nat}(h:Ff K D M)(k:K<=L):Ff L D M:=⟨h.1,h.2.1.mono k,fun i t=>(h.2.2 i t).mono k⟩
theorem BZ{k n R m:Nat}(hn:n<=R)(hR:R<=4294967295)(hl:k+1<=l)(hm:l*R+1<=m):ln (fB (wt k) n)<=m∧fB (wt k) n<=wt m:=by
 have h1:=MO (B:=wt k) (l:=l) hn (ah (Nat.mul_le_mul_right _ (ah hR (by decide:4294967295<=wt 1))) (uf 1 k (by omega)));have h2:l*n+1<=m:=ah (Nat.succ_le_succ (b9 _ hn)) hm;exact⟨ah h1 h2,Nat.le_of_lt (gQ.1 (ah h1 h2))⟩
section
variable{f:fM}{b x x0 c u:List Rat}
theorem FrS.HB(h:FrS f)(hb:Bl b):BP (dF (cP f) b) (f.cols+1) (wt 1):=fun j hj=>by
 rw[eA]at hj;have hw:=fun t=>jt (b:=b) (t:=t) (fT f) hj;refine⟨1,by decide,Ib.one mX,fun t ht=>?_⟩;rw[bw];rcases aP t f.cols with h1|h1
 ·rw[(hw t).1 h1];exact(h.ub j t).w (by decide)
 ·rw[show t=f.cols by omega,(hw 0).2];exact(hb j).w (by decide)
theorem FrS.Jh(h:FrS f):ln (fB (wt 1) (dF (cP f) b).length)<=25:=by
 rw[eA];exact(BZ (l:=2) h.Jf (by decide) (by decide) (by decide)).1
theorem FrS.Nd(h:FrS f)(hb:Bl b)(h0:fE (cP f) b f.cols=some x0):∃D,Den (wt 25) D x0:=by
 obtain⟨D,hD⟩:=yn (fT f) (h.HB hb) mX h0;exact⟨D,hD.mono (BZ (l:=2) h.Jf (by decide) (by decide) (by decide)).2⟩
theorem FrS.ker(h:FrS f):∃D,Ff (wt 13) D (cW (cP f) f.cols):=by
 obtain⟨D,hD⟩:=L0 (fT f) h.k8 (by decide);exact⟨D,hD.mono (Nat.le_of_lt (gQ.1 h.size))⟩
theorem FrS.MP(h:FrS f):(cW (cP f) f.cols).length<=18:=by
 have h1:=ym (fT f);have h2:=h.Ic;omega
theorem yx(f:fM):(cX f).length=f.cols:=by simp[cX,fM.cols]
theorem sU.aAG(h:sU f):Den (wt 54) (ll (cX f) 18) (cX f):=JZ (by rw[yx];exact h.Ic) h.fx
theorem sU.Ji(h:sU f)(hx:∃D,Den (wt 25) D x0):BP (dF (eU (cW (cP f) f.cols) (cX f)) (gZ (cW (cP f) f.cols) (cX f) x0)) ((cW (cP f) f.cols).length+1) (wt 106):=fun i hi=>by
 rw[eA,eU,aJ]at hi;obtain⟨D0,a1,a2,a3⟩:=hx;obtain⟨D1,b1,b2,b3⟩:=h.ker;obtain⟨c1,c2,c3⟩:=h.aAG;have hn:=h.Ic;have hw:=fun t=>jt (b:=gZ (cW (cP f) f.cols) (cX f) x0) (t:=t) (nd (cW (cP f) f.cols) (cX f)) (j:=i) (by rw[eU,aJ];exact hi);refine⟨ll (cX f) 18*(D1*D1)*D0,tB (tB c1 (tB b1 b1)) a1,(((c2.tI (b2.tI b2 (aF _)) (aF _)).tI a2 (by decide))),fun t ht=>?_⟩;rcases aP t (cW (cP f) f.cols).length with h1|h1
 ·rw[(hw t).1 h1,u7 _ _ _ hi h1];unfold Gy sT;rw[<-e9];refine Ib.Nc hn (fun k _=>?_) (aF _);rw[show ll (cX f) 18*(D1*D1)*D0*((cX f).getD k 0*(dD (cW (cP f) f.cols) i k*dD (cW (cP f) f.cols) t k))=(ll (cX f) 18*(cX f).getD k 0)*((D1*dD (cW (cP f) f.cols) i k)*(D1*dD (cW (cP f) f.cols) t k))*D0 by grind];exact((c3 k).tI ((b3 i k).tI (b3 t k) (aF _)) (aF _)).tI a2 (by decide)
 ·rw[show t=(cW (cP f) f.cols).length by omega,(hw 0).2,Dy _ _ _ _ hi];unfold sT;rw[show ll (cX f) 18*(D1*D1)*D0* -(cY (fun t=>(cX f).getD t 0*(dD (cW (cP f) f.cols) i t*x0.getD t 0)) f.cols)= -(ll (cX f) 18*(D1*D1)*D0*cY (fun t=>(cX f).getD t 0*(dD (cW (cP f) f.cols) i t*x0.getD t 0)) f.cols) by grind,<-e9];refine(Ib.Nc hn (fun k _=>?_) (aF _)).neg;rw[show ll (cX f) 18*(D1*D1)*D0*((cX f).getD k 0*(dD (cW (cP f) f.cols) i k*x0.getD k 0))=(ll (cX f) 18*(cX f).getD k 0)*((D1*dD (cW (cP f) f.cols) i k)*D1)*(D0*x0.getD k 0) by grind];exact((c3 k).tI ((b3 i k).tI b2 (aF _)) (aF _)).tI (a3 k) (by decide)
theorem sU.HC(h:sU f){b:List Rat}:ln (fB (wt 106) (dF (eU (cW (cP f) f.cols) (cX f)) b).length)<=1927:=by
 rw[eA,eU,aJ];exact(BZ (l:=107) h.MP (by decide) (by decide) (by decide)).1
theorem sU.Mq(h:sU f)(hx:∃D,Den (wt 25) D x0)(hc:fE (eU (cW (cP f) f.cols) (cX f)) (gZ (cW (cP f) f.cols) (cX f) x0) (cW (cP f) f.cols).length=some c):∀q∈c,rl q<=1927:=fun q hq=>by
 obtain⟨D,hD⟩:=yn (nd _ _) (h.Ji hx) mX hc;have h1:=hD.rl q hq;have h2:=h.HC (b:=[]);rw[eA]at h2;omega
theorem CR(h:rl q<=3):Ib (wt 3) (q.den:Rat):=⟨(q.den:Int),rfl,by have:=(Gw h).2;omega⟩
theorem Jj(h:rl q<=3):Ib (wt 3) ((q.den:Rat)*q):=by rw[Gv];exact⟨q.num,rfl,Nat.le_of_lt (Gw h).1⟩
theorem HD(q:Rat):(q.den:Rat)≠0:=fun e=>by
 have:((q.den:Int):Rat)=((0:Int):Rat):=e;exact q.den_nz (by have:=Rat.intCast_inj.1 this;omega)
theorem sU.OB(h:sU f){t:Nat}(ht:t<f.cols):rl ((cX f).getD t 0)<=3:=by
 have hl:t<(cX f).length:=by rw[yx];exact ht
 rw[getD_some (aB hl)];exact h.fx _ (aY hl)
theorem sU.HE(h:sU f)(hb:Bl b)(Pf:b.length=(cP f).length):BP (dF (iK (cP f) f.cols (cX f)) (b++fg f.cols)) ((cP f).length+f.cols+1) (wt 4):=fun j hj=>by
 rw[eA,fU]at hj;have hw:=fun t=>jt (b:=b++fg f.cols) (t:=t) (ju (fT f) (cX f)) (j:=j) (by rw[fU];exact hj);rcases aP j (cP f).length with h2|h2
 ·refine⟨1,by decide,Ib.one mX,fun t ht=>?_⟩;rw[bw];rcases aP t ((cP f).length+f.cols)with h1|h1
  ·rw[(hw t).1 h1];rcases aP t (cP f).length with h3|h3
   ·rw[(CP h2).1 h3];exact Ib.zero _
   ·obtain⟨s,rfl⟩:∃s,t=(cP f).length+s:=⟨t-(cP f).length,by omega⟩
    rw[(CP (t:=s) h2).2];exact((h.ub j s).w (by decide:2000000<=wt 1)).up (by decide)
  ·rw[show t=(cP f).length+f.cols by omega,(hw 0).2,pD];exact((hb j).w (by decide:1000000000<=wt 1)).up (by decide)
 ·obtain⟨k,rfl⟩:∃k,j=(cP f).length+k:=⟨j-(cP f).length,by omega⟩
  have hk:k<f.cols:=by omega
  have hq:=h.OB hk;refine⟨(((cX f).getD k 0).den:Rat),HD _,(CR hq).up (by decide),fun t ht=>?_⟩;rcases aP t ((cP f).length+f.cols)with h1|h1
  ·rw[(hw t).1 h1];rcases aP t (cP f).length with h3|h3
   ·rw[(yu (t:=t) hk).1 h3];exact(CR hq).tI ((h.ub t k).w (by decide:2000000<=wt 1)) (by decide)
   ·obtain⟨s,rfl⟩:∃s,t=(cP f).length+s:=⟨t-(cP f).length,by omega⟩
    rw[(yu (t:=s) hk).2 (by omega)];split
    ·exact(Jj hq).up (by decide)
    ·rw[bD];exact Ib.zero _
  ·rw[show t=(cP f).length+f.cols by omega,(hw 0).2,pD,iU (l:=b) (by omega),bD];exact Ib.zero _
theorem sU.Jk(h:sU f){b:List Rat}:ln (fB (wt 4) (dF (iK (cP f) f.cols (cX f)) b).length)<=151:=by
 rw[eA,fU];have h1:=h.Ic;have h2:=h.Jf;exact(BZ (l:=5) (R:=30) (by omega) (by decide) (by decide) (by decide)).1
theorem sU.Jl(h:sU f)(hb:Bl b)(Pf:b.length=(cP f).length)(hx:jm (cP f) f.cols (fun t=>(cX f).getD t 0) b x):∃D,Den (wt 151) D x:=by
 obtain⟨u,hu⟩:=hx.Mp (fT f);obtain⟨s1,s2⟩:=EI (fT f) Pf hx hu;obtain⟨z,hz⟩:=qR (ju (fT f) (cX f)) s2;have h1:=Jd (fT f) Pf hz;have h2:=h.EF.one hx h1;obtain⟨D,d1,d2,d3⟩:=yn (ju (fT f) (cX f)) (h.HE hb Pf) mX hz;have h3:fB (wt 4) (iK (cP f) f.cols (cX f)).length<=wt 151:=by
  rw[fU];have h1:=h.Ic;have h2:=h.Jf;exact(BZ (l:=5) (R:=30) (by omega) (by decide) (by decide) (by decide)).2
 refine⟨D,d1,d2.mono h3,fun t=>?_⟩;rw[h2,List.getD,List.getElem?_drop,<-List.getD];exact(d3 _).mono h3
theorem sU.Ng(h:sU f)(hb:Bl b)(Pf:b.length=(cP f).length)(hx:jm (cP f) f.cols (fun t=>(cX f).getD t 0) b x):∀q∈x,rl q<=152:=fun q hq=>by
 obtain⟨D,hD⟩:=h.Jl hb Pf hx;have:=hD.rl q hq;have h2:ln (wt 151)<=152:=gQ.2 (JA (by decide));omega
theorem sU.Hy(h:sU f)(PW:x.length=f.cols)(hx:∃D,Den (wt 151) D x):BP (dF (eK (cP f) f.cols) (cZ (ew x (cX f)) (-1))) ((cP f).length+1) (wt 156):=fun j hj=>by
 rw[eA,eV]at hj;obtain⟨D,d1,d2,d3⟩:=hx;have hq:=h.OB hj;have hw:=fun t=>jt (b:=cZ (ew x (cX f)) (-1)) (t:=t) (gi (cP f) f.cols) (j:=j) (by rw[eV];exact hj);refine⟨(((cX f).getD j 0).den:Rat)*D,tB (HD _) d1,(CR hq).tI d2 (by decide),fun t ht=>?_⟩;rcases aP t (cP f).length with h1|h1
 ·rw[(hw t).1 h1,mw hj];exact((CR hq).tI d2 (aF _)).tI ((h.ub t j).w (by decide:2000000<=wt 1)) (by decide)
 ·rw[show t=(cP f).length by omega,(hw 0).2,yv x _ PW hj,show(((cX f).getD j 0).den:Rat)*D* -((cX f).getD j 0*x.getD j 0)= -(((((cX f).getD j 0).den:Rat)*(cX f).getD j 0)*(D*x.getD j 0)) by grind];exact((Jj hq).tI (d3 j) (by decide)).neg
theorem sU.Fj(h:sU f){b:List Rat}:ln (fB (wt 156) (dF (eK (cP f) f.cols) b).length)<=2827:=by
 rw[eA,eV];exact(BZ (l:=157) h.Ic (by decide) (by decide) (by decide)).1
end
end Go.Ex
namespace Go.Ex
open Go Go.Sx Go.Proofs
end Go.Ex
namespace Go.Sx
open Go Go.Ex Go.Proofs
variable{cs:List Value}{T:Nat->Prop}{O:Nat->Sx.dg}
theorem Rel.xl{H:Hp}{nx:Nat}{iv:Iv}{B:Nat}{w w':World}(r:Rel H nx iv B w O w'){id t m sz:Nat}(h:dB H id=some (.vec t sz cs))(hm:cs.length=m*sz)(Rb:m<=maxLen)(hs:0<sz)(h1:∀u∈cs,u.oneCell'=true)(hT:(O id).nil=false->T (O id).g):
  iB w' T sz ((At.w id m).den O) cs m:=by
 rcases r.fits h with⟨hn,rfl⟩|⟨hn,spare,h2,h3,h4⟩
 ·have Sn:m=0:=by
   rcases bI m with h|h
   ·exact h
   ·have:=Nat.mul_pos h hs;simp at hm;omega
  subst Sn;have Q8:(At.w id 0).den O= .slice none 0 0:=by simp[At.den,hn]
  rw[Q8];exact⟨aO _,by simp,by simp,none,0,rfl,aF _,fun j u h=>by cases h⟩
 ·have Q8:(At.w id m).den O= .slice (some ⟨(O id).g,0,none⟩) m (O id).cap:=by simp[At.den,hn]
  rw[Q8];refine⟨Rb,hm,h1,_,_,rfl,?_,fun j u hu=>⟨_,rfl,hT hn,?_⟩⟩
  ·rw[List.length_append,hm]at h3;exact bp (show m*sz<=(O id).cap*sz by omega) hs
  ·rw[dQ,cell_of h2,aQ,aL (aD.1 hu).1];exact hu
end Go.Sx
namespace Go.Ex
open Go Go.Sx Go.Proofs
variable{p:List Rat}{g:Nat}{S T:Nat->Prop}
section
variable{S:Nat->Prop}{H:Hp}{nx:Nat}{iv iv':Iv}{B n:Nat}{w w' w2:World}{O:Nat->Sx.dg}{v:Value}{qs:List Rat}
theorem Bs.fresh(r:Rel H nx iv B w O w')(hx:∀g,v.ownBlock=some g->g<w'.heap.size)(hg:Nf w' w2 g):Bs S B ((w'.heap.size,w2.heap.size)::iv) v g:=by
 rcases hg with hg|hg
 ·exact hg.elim
 ·exact⟨.inr ⟨by have:=r.cF;omega,_,_,aG,hg.1,hg.2⟩,fun e=>by have:=hx g e;omega⟩
theorem Bs.solved(r:Rel H nx iv B w O w')(hx:∀g,v.ownBlock=some g->g<w'.heap.size)(hT:∀g,T g->Bs S B iv v g)(hg:Cv T w'.heap.size [(w'.heap.size,w2.heap.size)] g):Bs S B ((w'.heap.size,w2.heap.size)::iv) v g:=by
 rcases hg with hg|⟨h1,lo,hi,h2,h3,h4⟩
 ·exact Bs.mono (fun p hp=>List.mem_cons_of_mem _ hp) (hT g hg)
 ·simp at h2;obtain⟨rfl,rfl⟩:=h2;exact Bs.fresh r hx (.inr ⟨h3,h4⟩)
end
section
variable{S:Nat->Prop}{H:Hp}{nx:Nat}{iv iv':Iv}{B:Nat}{w w' w2:World}{O:Nat->Sx.dg}{v v0:Value}{q:Rat}
theorem lY.rel(h:cS w (Bs S B iv v) v0 q)(r:Rel H nx iv B w O w')(hS:∀g,S g->g<B):cS w' (Bs S B iv v) v0 q:=cS.cI h (Bs.same r hS)
theorem lY.fresh(h:cS w2 (Nf w' w2) v0 q)(r:Rel H nx iv B w O w')(hx:∀g,v.ownBlock=some g->g<w'.heap.size):cS w2 (Bs S B ((w'.heap.size,w2.heap.size)::iv) v) v0 q:=cS.cJ h fun _ hg=>Bs.fresh r hx hg
theorem lY.cv(h:cS w (Bs S B iv v) v0 q):cS w (Cv S B iv) v0 q:=cS.cJ h fun _ hg=>hg.1
end
section
variable{S:Nat->Prop}{H:Hp}{nx:Nat}{iv iv':Iv}{B:Nat}{w w' w2:World}{O:Nat->Sx.dg}{v v0:Value}{K:List (List Rat)}
theorem gJ.rel(h:cT w (Bs S B iv v) v0 K)(r:Rel H nx iv B w O w')(hS:∀g,S g->g<B):cT w' (Bs S B iv v) v0 K:=cT.cI h (Bs.same r hS)
theorem gJ.cG(h:cT w (Bs S B iv v) v0 K)(r:Rel H nx iv B w O w')(hS:∀g,S g->g<B)(he:Ext w' w2)(hm:∀p,p∈iv->p∈iv'):cT w2 (Bs S B iv' v) v0 K:=
 cT.cJ (cT.cI (gJ.rel h r hS) fun g hg=>he.block g (Rel.old r hS g hg.1)) fun _ hg=>Bs.mono hm hg
theorem gJ.fresh(h:cT w2 (Nf w' w2) v0 K)(r:Rel H nx iv B w O w')(hx:∀g,v.ownBlock=some g->g<w'.heap.size):cT w2 (Bs S B ((w'.heap.size,w2.heap.size)::iv) v) v0 K:=cT.cJ h fun _ hg=>Bs.fresh r hx hg
theorem gJ.kept(h:cT w (Bs S B iv v) v0 K)(r:Rel H nx iv B w O w')(hS:∀g,S g->g<B)(hg:w'.grownBy w2 v.ownBlock):cT w2 (Bs S B iv v) v0 K:=cT.cI h (Bs.kept r hS hg fun _ e=>e)
end
section
variable{S:Nat->Prop}{H:Hp}{nx:Nat}{iv iv':Iv}{B:Nat}{w w' w2:World}{O:Nat->Sx.dg}{v v0:Value}{xs:List Rat}
theorem eY.rel(h:cL w (Bs S B iv v) v0 xs)(r:Rel H nx iv B w O w')(hS:∀g,S g->g<B):cL w' (Bs S B iv v) v0 xs:=cL.cI h (Bs.same r hS)
theorem eY.cG(h:cL w (Bs S B iv v) v0 xs)(r:Rel H nx iv B w O w')(hS:∀g,S g->g<B)(he:Ext w' w2)(hm:∀p,p∈iv->p∈iv'):cL w2 (Bs S B iv' v) v0 xs:=
 cL.cJ (cL.cI (eY.rel h r hS) fun g hg=>he.block g (Rel.old r hS g hg.1)) fun _ hg=>Bs.mono hm hg
theorem eY.fresh(h:cL w2 (Nf w' w2) v0 xs)(r:Rel H nx iv B w O w')(hx:∀g,v.ownBlock=some g->g<w'.heap.size):cL w2 (Bs S B ((w'.heap.size,w2.heap.size)::iv) v) v0 xs:=cL.cJ h fun _ hg=>Bs.fresh r hx hg
theorem eY.cv(h:cL w (Bs S B iv v) v0 xs):cL w (Cv S B iv) v0 xs:=cL.cJ h fun _ hg=>hg.1
theorem eY.kept(h:cL w (Bs S B iv v) v0 xs)(r:Rel H nx iv B w O w')(hS:∀g,S g->g<B)(hg:w'.grownBy w2 v.ownBlock):cL w2 (Bs S B iv v) v0 xs:=cL.cI h (Bs.kept r hS hg fun _ e=>e)
end
section
variable{S:Nat->Prop}{H:Hp}{nx:Nat}{iv iv':Iv}{B:Nat}{w w' w2:World}{O:Nat->Sx.dg}{v v0:Value}{rv:List Value}{K:List (List Rat)}
theorem mc.rel(h:dV w (Bs S B iv v) rv K)(r:Rel H nx iv B w O w')(hS:∀g,S g->g<B):dV w' (Bs S B iv v) rv K:=dV.cI h (Bs.same r hS)
theorem mc.cG(h:dV w (Bs S B iv v) rv K)(r:Rel H nx iv B w O w')(hS:∀g,S g->g<B)(he:Ext w' w2)(hm:∀p,p∈iv->p∈iv'):dV w2 (Bs S B iv' v) rv K:=
 dV.cJ (dV.cI (mc.rel h r hS) fun g hg=>he.block g (Rel.old r hS g hg.1)) fun _ hg=>Bs.mono hm hg
end
section
variable{S:Nat->Prop}{H:Hp}{nx:Nat}{iv iv':Iv}{B:Nat}{w w' w2:World}{O:Nat->Sx.dg}{v v0:Value}{css:List (List Value)}{xs:List Rat}
theorem jf.rel(h:dW w (Bs S B iv v) css xs)(r:Rel H nx iv B w O w')(hS:∀g,S g->g<B):dW w' (Bs S B iv v) css xs:=dW.cI h (Bs.same r hS)
theorem jf.cG(h:dW w (Bs S B iv v) css xs)(r:Rel H nx iv B w O w')(hS:∀g,S g->g<B)(he:Ext w' w2)(hm:∀p,p∈iv->p∈iv'):dW w2 (Bs S B iv' v) css xs:=
 dW.cJ (dW.cI (jf.rel h r hS) fun g hg=>he.block g (Rel.old r hS g hg.1)) fun _ hg=>Bs.mono hm hg
end
theorem Eo{st:List (List Rat)}{c x:List Rat}{a b:Nat}(hx:∀q∈x,rl q<=a)(hs:∀r∈st,∀q∈r,rl q<=b)(hc:∀q∈c,rl q<=b):∀i,∀q∈lF st c x i,rl q<=a+i*(2*b+5)
 |0,q,hq=>by have:=hx q hq;omega
 |i+1,q,hq=>by
  rw[lF]at hq;obtain⟨k,hk⟩:=aU hq;rw[List.getElem?_mapIdx]at hk;obtain⟨p,hp,rfl⟩:=Option.map_eq_some_iff.1 hk;have h1:=Eo hx hs hc i p (aC hp);have h0:rl 0<=2:=by decide
  have h2:rl (c.getD i 0)<=b+2:=by
   rcases aP i c.length with h|h
   ·rw[getD_some (aB h)];have:=hc _ (aY h);omega
   ·rw[iU h];omega
  have h3:rl ((st.getD i []).getD k 0)<=b+2:=by
   rcases aP i st.length with h|h
   ·rw[getD_some (d:=[]) (aB h)];rcases aP k (st[i]).length with h4|h4
    ·rw[getD_some (aB h4)];have:=hs _ (aY h) _ (aY h4);omega
    ·rw[iU h4];omega
   ·rw[show st.getD i []=[] by rw[List.getD,List.getElem?_eq_none h];rfl];exact ah h0 (Nat.le_add_left _ _)
  have h4:=pE p (c.getD i 0*(st.getD i []).getD k 0);have h5:=j9 (c.getD i 0) ((st.getD i []).getD k 0);rw[Nat.add_mul];omega
set_option maxHeartbeats 2000000 in
set_option maxRecDepth 8000 in
theorem Bq{w:World}{vn vb vs u:Value}{f:fM}(hS:Old S w)(hf:du w S vn vb vs f)(PO:eO f=0)(Pz:sU f)(hp:cL w S u p)(PV:p.length=3*f.nodes.length)(VQ:∀q∈p,rl q<=100000)(hb:Bl (cZ p (-1))):
  eD PG N.pN #[.agg #[vn,vb,vs],u] w (eG w fun v' w2=>(fE (cP f) (cZ p (-1)) f.cols=none∧v'= .tuple #[.slice none 0 0,.bool false])∨∃x vx,jm (cP f) f.cols (fun t=>(cX f).getD t 0) (cZ p (-1)) x∧v'= .tuple #[vx,.bool true]∧cL w2 (Nf w w2) vx x):=by
 have hw:=bR w;obtain⟨an,cn,ab,cb,aq,cq,rfl,rfl,rfl,Qw,RX,SG⟩:=hf.shape;have OJ:=ni PO;have hlen:=fT f;have SD:=iV f;have US:=Pz.Ic;have Td:=Pz.Jf;have OX:=oG f;have Pr:f.cols=f.bars.length+f.cU.length:=rfl;obtain⟨ap,cp,rfl,hcp,hmp⟩:=dM.shape hp;have Pf:(cZ p (-1)).length=(cP f).length:=by rw[cZ,aJ,SD];exact PV
 have hw0:=Pz.HB hb;have OQ:=Pz.Jh (b:=cZ p (-1));refine td (by simp) ?_;refine cD (cE hw (fun _ w' v w2=>(∃vr,v= .agg #[vr,.int .i64 f.cols]∧cT w2 (Nf w' w2) vr (cP f))∧fX f.cols (cP f)∧Ht (cP f) 2) (fun O w' r=>sL (S:=S) (oS hS r) (hf.cI (kS hw r hS)) OJ) ?_);rintro O _ _ _ OM r he hw h_ ⟨⟨vr,rfl,k1⟩,-,-⟩;have hM:=cT.dE (S:=FF) k1 r.cF (mN h_);clear r;obtain⟨am,cm,rfl,SR,R1⟩:=db.shape hM;refine cN hτ dm [.x 0,.x 1,.x 2,.x 3,.x 4,.x 5,.x 6,.x 7,.x 8,.x 9] (by kernel_rfl) (by kernel_rfl) ?_;refine cE hw (fun _ w' v w2=>cS w2 (Nf w' w2) v ((-1:Int):Rat)) (fun O w' r=>lO (-1) w' (by decide) (by decide)) ?_;rintro O _ v2 _ OK r he hw h_ hn;replace hM:=cT.cG hM r (cC w) he (mC h_);have hd:=hn.dE (S:=FF) r.cF (mN h_);clear r;obtain⟨A0,A1,A2,A3,A4,A5,A6,A7,rfl⟩:=hd.shape;refine cE hw (fun _ w' v w2=>da w2 FF w'.heap.size [(w'.heap.size,w2.heap.size)] v p.length (cZ p (-1))) (fun O w' r=>B8 (S:=Cv S w.heap.size OK) (Rel.old r hS) (cV.cJ (cL.l (cL.cI hp (kS hw r hS)) fun q hq=>by have:=VQ q hq;omega) fun g hg=>.inl hg) (((hd.rel r (cC w)).l (by decide)).cJ fun g hg=>Aj hg) (by omega)) ?_;rintro O _ _ _ OS r he hw h_ hn;replace hM:=cT.cG hM r (cC w) he (mC h_);clear hd;have hB:=hn.dE (S:=FF) r.cF (mN h_);clear r;clear hn;obtain⟨a3,c3,rfl,hc3⟩:=hB.row.form;refine cO (Φ:=fun _ w' v w2=>(fE (cP f) (cZ p (-1)) f.cols=none∧v= .tuple #[.slice none 0 0,.bool false])∨∃x vx,fE (cP f) (cZ p (-1)) f.cols=some x∧v= .tuple #[vx,.bool true]∧da w2 (Cf w OS) w'.heap.size [(w'.heap.size,w2.heap.size)] vx f.cols x) (fun O w' r=>uZ (M:=cP f) (b:=cZ p (-1)) hlen hw0▸Ea (C:=Cf w OS) (S:=Cf w OS) (h:=30) (Rel.old r (cC w)) (Rel.old r (cC w)) (cT.rel hM r (cC w)) ((hB.rel r (cC w)).c) Pf hlen (by omega) (by omega) (nJ (gX hlen) hw0 mX (by rw[sw]at *;omega)) (by decide)) ?_;rintro O RE v4 Qr r he hb (⟨SK,rfl⟩|⟨x0,vx,SF,rfl,k2⟩)
 ·replace hw:=hw.tr hb;clear r he hb;exact rtn hw fun ρe we re=>.inl ⟨SK,rfl⟩
 replace hw:=hw.tr hb;replace hM:=cT.cG (iv':=(RE.heap.size,Qr.heap.size)::OS) hM r (cC w) he fun x hx=>List.mem_cons_of_mem _ hx;have hX:=k2.Nk r.cF;clear r he hb k2 hB;generalize (RE.heap.size,Qr.heap.size)::OS=Oe at*
 obtain⟨ax,cx,rfl,Vk⟩:=hX.row.form;obtain⟨hx0l,-⟩:=jR hlen SF;have hx0D:=Pz.Nd hb SF;have VR:∀q∈x0,rl q<=26:=fun q hq=>by
  obtain⟨D,hD⟩:=hx0D;have h1:=hD.rl q hq;have h2:ln (wt 25)<=26:=gQ.2 (JA (by decide));omega
 have hw1:=Pz.Ji hx0D;have OV:=Pz.HC (b:=gZ (cW (cP f) f.cols) (cX f) x0);obtain⟨c,hc,Po,hfrc⟩:=Pz.EF.force (fl:=cX f) SF;have Sg:=Pz.Mq hx0D hc;have hKr:∀r∈cW (cP f) f.cols,∀q∈r,rl q<=14:=fun r hr q hq=>by
  obtain⟨D,hD⟩:=Pz.ker;have h1:=hD.rl r hr q hq;have h2:ln (wt 13)<=14:=gQ.2 (JA (by decide));omega
 have hKl:=nc (cP f) f.cols;have hK18:=Pz.MP;have hSl:=nd (cW (cP f) f.cols) (cX f);have hfx:=Pz.fx;have Q9:=uZ (M:=eU (cW (cP f) f.cols) (cX f)) (b:=gZ (cW (cP f) f.cols) (cX f) x0) hSl hw1;rw[hc]at Q9;have hredB:=nJ (M:=dF (eU (cW (cP f) f.cols) (cX f)) (gZ (cW (cP f) f.cols) (cX f) x0)) (h:=1930) (gX hSl) hw1 mX (by omega);refine cN hτ dm [.x 0,.x 2,.x 1,.x 3,.x 4,.x 5] (by kernel_rfl) (by kernel_rfl) ?_;refine cO (Φ:=fun _ w' v w2=>cT w2 (Nf w' w2) v (cW (cP f) f.cols)) (fun O w' r=>Fe (M:=cP f) (n:=f.cols) hlen Pz.k8▸GO (C:=Cf w Oe) (S:=Cf w Oe) (h:=20) (Rel.old r (cC w)) (Rel.old r (cC w)) (cT.rel hM r (cC w)) hlen (by omega) (by omega) (nJ hlen Pz.k8 (by decide) (by have:=Pz.size;omega)) (GP hlen Pz.k8 (by decide) (by have:=Pz.size;omega)) (by decide)) ?_;rintro O Rr v5 Rg r he PB hn;replace hw:=hw.tr PB;have Qe:∀g,(Value.slice ax f.cols cx).ownBlock=some g->g<Rr.heap.size:=fun g e=>Rel.old r (cC w) g (hX.new g e);clear hM;replace hX:=hX.cG (iv':=(Rr.heap.size,Rg.heap.size)::Oe) r (cC w) he fun x hx=>List.mem_cons_of_mem _ hx;have hK:=gJ.fresh (S:=FF) (v:=(.slice ax f.cols cx)) hn r Qe;clear r he PB Qe hn;generalize (Rr.heap.size,Rg.heap.size)::Oe=Pp at*
 obtain⟨ak,ck,rfl,hck,Tw⟩:=db.shape hK;refine cO (Φ:=fun _ w' v w2=>cV w2 (Nw S w' w2) v (cX f)) (fun O w' r=>Be (S:=S) (oS hS r) (hf.cI (kS hw r hS)) OJ) ?_;rintro O SI v6 SO r he PB hn;replace hw:=hw.tr PB;have Qe:∀g,(Value.slice ax f.cols cx).ownBlock=some g->g<SI.heap.size:=fun g e=>Rel.old r (cC w) g (hX.new g e);replace hX:=hX.cG (iv':=(SI.heap.size,SO.heap.size)::Pp) r (cC w) he fun x hx=>List.mem_cons_of_mem _ hx;replace hK:=gJ.cG (iv':=(SI.heap.size,SO.heap.size)::Pp) hK r (cC w) he fun x hx=>List.mem_cons_of_mem _ hx;have hL:=cV.cJ (S':=Cv S w.heap.size ((SI.heap.size,SO.heap.size)::Pp)) hn fun g hg=>hg.elim .inl fun h=>.inr ⟨by have:=r.cF;omega,_,_,aG,h.1,h.2⟩;clear r he PB Qe hn;generalize (SI.heap.size,SO.heap.size)::Pp=Qy at*
 obtain⟨al,cl,rfl,RM,Qu⟩:=dM.shape hL;rw[OX]
 refine⟨Nat×List Value×List (List Value)×World×Iv,fun z=>⟨[(7,sV ax f.cols cx),(9,.o (.v (.slice ak (cW (cP f) f.cols).length ck))),(10,sV al f.cols cl),(11,pP 2 0),(43,.o (.v (.slice ak (cW (cP f) f.cols).length ck))),(44,.o (.v (.int .i64 (cW (cP f) f.cols).length))),(12,.o (.w 4 z.2.2.1.length)),(45,iN z.1)],[(2,.box T.dq [.w 3 z.2.1.length,.v (.int .i64 (cW (cP f) f.cols).length)]),(3,.vec T.fa 1 z.2.1),(4,.vec T.Rat 4 z.2.2.1.flatten)],5,z.2.2.2.2,z.2.2.2.1⟩,fun z=>(cW (cP f) f.cols).length-z.1,
  fun z=>z.1<=(cW (cP f) f.cols).length∧eB w.heap.size w z.2.2.2.1∧da z.2.2.2.1 FF w.heap.size z.2.2.2.2 (.slice ax f.cols cx) f.cols x0∧cT z.2.2.2.1 (Bs FF w.heap.size z.2.2.2.2 (.slice ax f.cols cx)) (.slice ak (cW (cP f) f.cols).length ck) (cW (cP f) f.cols)∧cV z.2.2.2.1 (Cv S w.heap.size z.2.2.2.2) (.slice al f.cols cl) (cX f)∧dV z.2.2.2.1 (Bs FF w.heap.size z.2.2.2.2 (.slice ax f.cols cx)) z.2.1 ((eU (cW (cP f) f.cols) (cX f)).take z.1)∧dW z.2.2.2.1 (Bs FF w.heap.size z.2.2.2.2 (.slice ax f.cols cx)) z.2.2.1 ((gZ (cW (cP f) f.cols) (cX f) x0).take z.1),?_,?_⟩
 ·intro O w' r3;exact⟨(0,[],[],w',_),⟨aO _,hw.tr r3.cQ,hX.rel r3 (cC w),gJ.rel hK r3 (cC w),by have:=cV.rel hL r3 hS;rw[OX]at this;exact this,by simp[dV],dW.nil⟩,Sub.Ak 2 0 T.fa 1 rfl rfl (by simp[jN,SV.sc,At.sc,fW]) r3 fun ρ1 r1=>Sub.nil 12 T.Rat 4 rfl (by simp[jN,SV.sc,At.sc,fW]) r1 fun ρ2 r2=>Sub.gn [] r2⟩
 clear hw hX hK hL;rintro⟨i,rv,rc,w7,iv⟩ ⟨hi,hw,hX,hK,hL,hR,hG⟩;dsimp only at hi hw hX hK hL hR hG ⊢;have Oh:rv.length=i:=by rw[hR.1,aV,eU,aJ];omega
 have hgl:rc.length=i:=by rw[hG.len,aV,gZ,aJ];omega
 have hgf:=eH hG.four;refine dN.mk ?_ ?_<;>intro OF
 ·have OF:i<(cW (cP f) f.cols).length:=by have:=aI OF;omega
  obtain⟨s,hs⟩:∃s,(cW (cP f) f.cols)[i]? =some s:=⟨_,aB OF⟩
  have Qd:s.length=f.cols:=hKl s (aC hs);have hsr:=hKr s (aC hs);obtain⟨adm1,um,ham1,PS,km1,kn1⟩:=db.load hK hs;obtain⟨as1,cs1,rfl,-,-⟩:=dM.shape PS;obtain⟨bent,S7⟩:∃b,ew s (cX f)=b:=⟨_,rfl⟩
  have Sw:bent.length=f.cols:=by rw[<-S7,je,Qd]
  have VS:∀q∈bent,rl q<=20:=fun q hq=>by
   rw[<-S7]at hq;obtain⟨t,ht⟩:=aU hq;have Tf:t<s.length:=by have:=(aD.1 ht).1;rw[je]at this;exact this
   have h1:=mr (a:=s) (b:=cX f) Tf;rw[getD_some ht]at h1;have h2:=j9 (s.getD t 0) ((cX f).getD t 0);have h3:=hsr (s.getD t 0) (by rw[getD_some (aB Tf)];exact aY _);have h4:=Pz.OB (t:=t) (by omega);rw[h1];omega
  refine⟨adm1,ham1,by omega,.slice as1 s.length cs1,fun O w' r=>?_,?_⟩
  ·rw[aE,cH (w:=w7) (w2:=w') (by rw[dH];exact Rel.same r (cC w) km1.1)];exact kn1
  refine cD (cO (Φ:=fun _ w' v w2=>cL w2 (Nf w' w2) v bent) (fun O w' r=>(S7▸HM (S:=Cv S w.heap.size iv) (Rel.old r hS) (cV.cJ (cL.l (eY.cv (eY.rel PS r (cC w))) fun q hq=>by have:=hsr q hq;omega) fun g hg=>Aj hg) (cV.rel hL r hS) (by rw[Qd,OX];exact aF _) (by omega)).mono fun _ _ ⟨v2,e1,e2,e3⟩=>⟨v2,e1,e2,cL.cJ e3.c fun g hg=>hg.elim (fun h=>h.elim) fun⟨_,lo,hi,h2,h3,h4⟩=>by
   simp at h2;obtain⟨rfl,rfl⟩:=h2
   exact .inr ⟨h3,h4⟩⟩) ?_)
  rintro O RT v8 Qm r he PB hn;replace hw:=hw.tr PB;have Qe:∀g,(Value.slice ax f.cols cx).ownBlock=some g->g<RT.heap.size:=fun g e=>Rel.old r (cC w) g (hX.new g e);replace hX:=hX.cG (iv':=(RT.heap.size,Qm.heap.size)::iv) r (cC w) he fun x hx=>List.mem_cons_of_mem _ hx;replace hK:=gJ.cG (iv':=(RT.heap.size,Qm.heap.size)::iv) hK r (cC w) he fun x hx=>List.mem_cons_of_mem _ hx;replace hL:=cV.cG (iv':=(RT.heap.size,Qm.heap.size)::iv) hL r hS he fun x hx=>List.mem_cons_of_mem _ hx;replace hR:=mc.cG (iv':=(RT.heap.size,Qm.heap.size)::iv) hR r (cC w) he fun x hx=>List.mem_cons_of_mem _ hx;replace hG:=jf.cG (iv':=(RT.heap.size,Qm.heap.size)::iv) hG r (cC w) he fun x hx=>List.mem_cons_of_mem _ hx;have hE:=eY.fresh (S:=FF) (v:=(.slice ax f.cols cx)) hn r Qe;clear r he PB Qe hn;generalize (RT.heap.size,Qm.heap.size)::iv=Q2 at*
  clear PS;obtain⟨ae,ce,rfl,-,-⟩:=dM.shape hE;rw[Sw]
  refine⟨Nat×List (List Value)×World×Iv,fun z=>⟨[(7,sV ax f.cols cx),(9,.o (.v (.slice ak (cW (cP f) f.cols).length ck))),(10,sV al f.cols cl),(11,pP 2 0),(43,.o (.v (.slice ak (cW (cP f) f.cols).length ck))),(44,.o (.v (.int .i64 (cW (cP f) f.cols).length))),(12,.o (.w 4 rc.length)),(45,iN i),(15,sV ae f.cols ce),(52,.o (.v (.slice ak (cW (cP f) f.cols).length ck))),(53,.o (.v (.int .i64 (cW (cP f) f.cols).length))),(16,.o (.w 5 z.2.1.length)),(54,iN z.1)],[(5,.vec T.Rat 4 z.2.1.flatten),(2,.box T.dq [.w 3 rv.length,.v (.int .i64 (cW (cP f) f.cols).length)]),(3,.vec T.fa 1 rv),(4,.vec T.Rat 4 rc.flatten)],6,z.2.2.2,z.2.2.1⟩,fun z=>(cW (cP f) f.cols).length-z.1,
   fun z=>z.1<=(cW (cP f) f.cols).length∧eB w.heap.size w z.2.2.1∧(da z.2.2.1 FF w.heap.size z.2.2.2 (.slice ax f.cols cx) f.cols x0∧cT z.2.2.1 (Bs FF w.heap.size z.2.2.2 (.slice ax f.cols cx)) (.slice ak (cW (cP f) f.cols).length ck) (cW (cP f) f.cols)∧cV z.2.2.1 (Cv S w.heap.size z.2.2.2) (.slice al f.cols cl) (cX f)∧dV z.2.2.1 (Bs FF w.heap.size z.2.2.2 (.slice ax f.cols cx)) rv ((eU (cW (cP f) f.cols) (cX f)).take i)∧dW z.2.2.1 (Bs FF w.heap.size z.2.2.2 (.slice ax f.cols cx)) rc ((gZ (cW (cP f) f.cols) (cX f) x0).take i)∧cL z.2.2.1 (Bs FF w.heap.size z.2.2.2 (.slice ax f.cols cx)) (.slice ae f.cols ce) bent)∧dW z.2.2.1 (Bs FF w.heap.size z.2.2.2 (.slice ax f.cols cx)) z.2.1 (((cW (cP f) f.cols).map fun r=>fI bent r f.cols).take z.1),?_,?_⟩
  ·intro O w' r3;exact⟨(0,[],w',_),⟨aO _,hw.tr r3.cQ,⟨hX.rel r3 (cC w),gJ.rel hK r3 (cC w),cV.rel hL r3 hS,mc.rel hR r3 (cC w),jf.rel hG r3 (cC w),by have:=eY.rel hE r3 (cC w);rw[Sw]at this;exact this⟩,dW.nil⟩,Sub.nil 16 T.Rat 4 rfl (by simp[jN,SV.sc,At.sc,fW]) r3 fun ρ2 r2=>Sub.gn [] r2⟩
  clear hw hX hK hL hR hG hE;rintro⟨j,css,w8,iv⟩ ⟨hj,hw,⟨hX,hK,hL,hR,hG,hE⟩,hD⟩;dsimp only at hj hw hX hK hL hR hG hE hD ⊢;have SM:css.length=j:=by rw[hD.len,aV,aJ];omega
  have hdf:=eH hD.four;refine dN.mk ?_ ?_<;>intro PH
  ·have PH:j<(cW (cP f) f.cols).length:=by have:=aI PH;omega
   obtain⟨t,ht⟩:∃s,(cW (cP f) f.cols)[j]? =some s:=⟨_,aB PH⟩
   have Tf:t.length=f.cols:=hKl t (aC ht);have htr:=hKr t (aC ht);obtain⟨adm2,um2,ham2,PS,km2,kn2⟩:=db.load hK ht;obtain⟨as2,cs2,rfl,-,-⟩:=dM.shape PS;refine⟨adm2,ham2,by omega,.slice as2 t.length cs2,fun O w' r=>?_,?_⟩
   ·rw[aE,cH (w:=w8) (w2:=w') (by rw[dH];exact Rel.same r (cC w) km2.1)];exact kn2
   refine cD (cO (Φ:=fun _ w' v w2=>cS w2 (Nf w' w2) v (fI bent t f.cols)) (fun O w' r=>Sw▸KA (S:=Cf w iv) (h:=21) (Rel.old r (cC w)) (cL.l (by have:=eY.cv (eY.rel hE r (cC w));rw[<-Sw]at this;exact this) fun q hq=>by have:=VS q hq;omega) (cL.l (eY.cv (eY.rel PS r (cC w))) fun q hq=>by have:=htr q hq;omega) (by omega) (fun q hq=>by have:=VS q hq;omega) (fun q hq=>by have:=htr q hq;omega) (by decide) (by omega)) ?_);rintro O Qf v9 Q3 r he PB hn;replace hw:=hw.tr PB;have Qe:∀g,(Value.slice ax f.cols cx).ownBlock=some g->g<Qf.heap.size:=fun g e=>Rel.old r (cC w) g (hX.new g e);replace hX:=hX.cG (iv':=(Qf.heap.size,Q3.heap.size)::iv) r (cC w) he fun x hx=>List.mem_cons_of_mem _ hx;replace hK:=gJ.cG (iv':=(Qf.heap.size,Q3.heap.size)::iv) hK r (cC w) he fun x hx=>List.mem_cons_of_mem _ hx;replace hL:=cV.cG (iv':=(Qf.heap.size,Q3.heap.size)::iv) hL r hS he fun x hx=>List.mem_cons_of_mem _ hx;replace hR:=mc.cG (iv':=(Qf.heap.size,Q3.heap.size)::iv) hR r (cC w) he fun x hx=>List.mem_cons_of_mem _ hx;replace hG:=jf.cG (iv':=(Qf.heap.size,Q3.heap.size)::iv) hG r (cC w) he fun x hx=>List.mem_cons_of_mem _ hx;replace hE:=eY.cG (iv':=(Qf.heap.size,Q3.heap.size)::iv) hE r (cC w) he fun x hx=>List.mem_cons_of_mem _ hx;replace hD:=jf.cG (iv':=(Qf.heap.size,Q3.heap.size)::iv) hD r (cC w) he fun x hx=>List.mem_cons_of_mem _ hx;have hd:=lY.fresh (S:=FF) (v:=(.slice ax f.cols cx)) hn r Qe;clear r he PB Qe hn;generalize (Qf.heap.size,Q3.heap.size)::iv=R5 at*
   obtain⟨C0,C1,C2,C3,C4,C5,C6,C7,rfl⟩:=hd.shape;clear PS;have hD2:=hD.push (cs:=[.bool C0,.slice C1 C2 C3,.bool C4,.slice C5 C6 C7]) (q:=fI bent t f.cols) ⟨_,_,_,_,_,_,_,_,rfl,hd⟩ rfl;rw[show (((cW (cP f) f.cols).map fun r=>fI bent r f.cols).take j)++[fI bent t f.cols]=((cW (cP f) f.cols).map fun r=>fI bent r f.cols).take (j+1) by rw[List.take_add_one,aN,ht];rfl]at hD2;have Pm:css.flatten++([.bool C0,.slice C1 C2 C3,.bool C4,.slice C5 C6 C7]:List Value)=(css++([[.bool C0,.slice C1 C2 C3,.bool C4,.slice C5 C6 C7]]:List (List Value))).flatten:=by simp
   refine .inl ?_;refine⟨by omega,by omega,by unfold maxLen;omega,((j+1:Nat):Int),wo,?_⟩;intro ρ3 w6 r3;exact⟨(j+1,css++[[.bool C0,.slice C1 C2 C3,.bool C4,.slice C5 C6 C7]],w6,_),⟨PH,hw.tr r3.cQ,⟨hX.rel r3 (cC w),gJ.rel hK r3 (cC w),cV.rel hL r3 hS,mc.rel hR r3 (cC w),jf.rel hG r3 (cC w),eY.rel hE r3 (cC w)⟩,jf.rel hD2 r3 (cC w)⟩,Sub.gn [(5,7)] r3 ⟨by dsimp only;rw[<-Pm];rfl,rfl,rfl,rfl,trivial⟩ ⟨rfl,rfl,rfl,rfl,rfl,rfl,rfl,rfl,rfl,rfl,rfl,by dsimp only;rw[List.length_append,List.length_singleton];rfl,rfl,trivial⟩,by dsimp only;omega⟩
  have PH:j=(cW (cP f) f.cols).length:=by have:=aH PH;omega
  rw[PH,List.take_of_length_le (by rw[aJ];exact aF _)]at hD;have OH:(eU (cW (cP f) f.cols) (cX f)).take i++[((cW (cP f) f.cols).map fun r=>fI bent r f.cols)]=(eU (cW (cP f) f.cols) (cX f)).take (i+1):=by
   rw[List.take_add_one,eU,aN,hs,<-S7,<-Qd];rfl
  have hrgt:(gZ (cW (cP f) f.cols) (cX f) x0).take i++[-(fI bent x0 f.cols)]=(gZ (cW (cP f) f.cols) (cX f) x0).take (i+1):=by
   rw[List.take_add_one,gZ,aN,hs,<-S7,<-Qd];rfl
  refine kx hτ (id3:=6) (id2:=5) (tH:=[(2,.box T.dq [.w 3 rv.length,.v (.int .i64 (cW (cP f) f.cols).length)]),(3,.vec T.fa 1 rv),(4,.vec T.Rat 4 rc.flatten)]) rfl rfl rfl rfl (by simp) ⟨rfl,rfl,rfl,trivial⟩ rfl rfl (fun O w' r r2 SH=>?_);have QS:∀g,(Value.slice ax f.cols cx).ownBlock=some g->∀id b,dB [(6,.box T.fa [.w 5 css.length]),(5,.vec T.Rat 4 css.flatten),(2,.box T.dq [.w 3 rv.length,.v (.int .i64 (cW (cP f) f.cols).length)]),(3,.vec T.fa 1 rv),(4,.vec T.Rat 4 rc.flatten)] id=some b->(O id).nil=false->(O id).g≠g:=fun g e id b h1 h2=>Rel.not r (cC w) (hX.new g e) id b h1 h2;have Ql:=r.low 6 _ rfl (r.fits (id:=6) rfl).1;have hB3:Bs FF w.heap.size (((O 6).g,(O 6).g+1)::jO (O 5) iv) (.slice ax f.cols cx) (O 6).g:=⟨.inr ⟨Ql.1,_,_,aG,aF _,bY _⟩,fun e=>QS _ e 6 _ rfl (r.fits (id:=6) rfl).1 rfl⟩
  have OP:∀p,p∈iv->p∈((O 6).g,(O 6).g+1)::jO (O 5) iv:=fun p hp=>List.mem_cons_of_mem _ (jq p hp);have Vr:=dW.list ((jf.rel hD r (cC w)).cJ fun g hg=>Bs.mono OP hg) (r.xl (T:=Bs FF w.heap.size (((O 6).g,(O 6).g+1)::jO (O 5) iv) (.slice ax f.cols cx)) (id:=5) (sz:=4) (m:=css.length) rfl hdf (by unfold maxLen;omega) (by decide) hD.one fun hn=>⟨.inr ⟨(r.low 5 _ rfl hn).1,_,_,List.mem_cons_of_mem _ (D8 hn),aF _,bY _⟩,fun e=>QS _ e 5 _ rfl hn rfl⟩);have PF:((At.w 5 css.length).den O).oneCell'=true:=At.HR;have Ow:=hw.tr r.cQ;replace hX:da w' FF w.heap.size (((O 6).g,(O 6).g+1)::jO (O 5) iv) (.slice ax f.cols cx) f.cols x0:=by
   have h1:=hX.rel r (cC w);exact⟨h1.row.cJ fun g hg=>⟨hg.1.mono OP,hg.2⟩,fun g hg=>(h1.new g hg).mono OP⟩
  replace hK:=cT.cJ (gJ.rel hK r (cC w)) fun g hg=>Bs.mono OP hg;replace hL:=cV.cJ (cV.rel hL r hS) fun g hg=>hg.mono OP;replace hR:=dV.cJ (mc.rel hR r (cC w)) fun g hg=>Bs.mono OP hg;replace hG:=dW.cJ (jf.rel hG r (cC w)) fun g hg=>Bs.mono OP hg;replace hE:=cL.cJ (eY.rel hE r (cC w)) fun g hg=>Bs.mono OP hg;clear r2 Ql hD QS hw;generalize (At.w 5 css.length).den O=ur at*
  generalize (O 6).g=gy at*
  generalize (gy,gy+1)::jO (O 5) iv=ivg at*
  clear r;refine⟨[ur],rfl,by simpa using PF,fun ρ2 w2 r2 _=>⟨_,rfl,fun j u hu=>?_⟩,?_⟩
  ·have h5:=Rel.same r2 (gH _) hB3.1;rw[dQ,cell_of (h5.trans SH)];rcases j with _|j
   ·exact hu
   ·cases hu
  refine⟨by simp,by omega,by unfold maxLen;omega,?_⟩;have Qs:=hR.push PF Vr;rw[OH]at Qs;clear Vr hR SH hB3;rename_i wg _;have hw:=Ow;clear Ow;refine cD (cO (Φ:=fun _ w' v w2=>cS w2 (Nf w' w2) v (fI bent x0 f.cols)) (fun O w' r=>Sw▸KA (S:=Cf w ivg) (h:=30) (Rel.old r (cC w)) (cL.l (by have:=eY.cv (eY.rel hE r (cC w));rw[<-Sw]at this;exact this) fun q hq=>by have:=VS q hq;omega) (cL.l (by have:=(hX.rel r (cC w)).c;rw[<-Sw]at this;exact this) fun q hq=>by have:=VR q hq;omega) (by omega) (fun q hq=>by have:=VS q hq;omega) (fun q hq=>by have:=VR q hq;omega) (by decide) (by omega)) ?_);rintro O Qz v11 RO r he PB hn;replace hw:=hw.tr PB;have Qe:∀g,(Value.slice ax f.cols cx).ownBlock=some g->g<Qz.heap.size:=fun g e=>Rel.old r (cC w) g (hX.new g e);replace hX:=hX.cG (iv':=(Qz.heap.size,RO.heap.size)::ivg) r (cC w) he fun x hx=>List.mem_cons_of_mem _ hx;replace hK:=gJ.cG (iv':=(Qz.heap.size,RO.heap.size)::ivg) hK r (cC w) he fun x hx=>List.mem_cons_of_mem _ hx;replace hL:=cV.cG (iv':=(Qz.heap.size,RO.heap.size)::ivg) hL r hS he fun x hx=>List.mem_cons_of_mem _ hx;replace Qs:=mc.cG (iv':=(Qz.heap.size,RO.heap.size)::ivg) Qs r (cC w) he fun x hx=>List.mem_cons_of_mem _ hx;replace hG:=jf.cG (iv':=(Qz.heap.size,RO.heap.size)::ivg) hG r (cC w) he fun x hx=>List.mem_cons_of_mem _ hx;replace hE:=eY.cG (iv':=(Qz.heap.size,RO.heap.size)::ivg) hE r (cC w) he fun x hx=>List.mem_cons_of_mem _ hx;have hd:=lY.fresh (S:=FF) (v:=(.slice ax f.cols cx)) hn r Qe;clear r he PB Qe hn;generalize (Qz.heap.size,RO.heap.size)::ivg=Qn at*
  obtain⟨E0,E1,E2,E3,E4,E5,E6,E7,rfl⟩:=hd.shape;have hdr:=zm (h:=30) (xs:=bent) (ys:=x0) (fun q hq=>by have:=VS q hq;omega) (fun q hq=>by have:=VR q hq;omega) (by decide) f.cols;refine cD (cO (Φ:=fun _ w' v w2=>cS w2 (Nf w' w2) v (-(fI bent x0 f.cols))) (fun O w' r=>Jy (S:=Cf w Qn) (Rel.old r (cC w)) (cS.l (lY.cv (lY.rel hd r (cC w))) (by omega))) ?_);rintro O S8 v12 Sy r he PB hn;replace hw:=hw.tr PB;have Qe:∀g,(Value.slice ax f.cols cx).ownBlock=some g->g<S8.heap.size:=fun g e=>Rel.old r (cC w) g (hX.new g e);replace hX:=hX.cG (iv':=(S8.heap.size,Sy.heap.size)::Qn) r (cC w) he fun x hx=>List.mem_cons_of_mem _ hx;replace hK:=gJ.cG (iv':=(S8.heap.size,Sy.heap.size)::Qn) hK r (cC w) he fun x hx=>List.mem_cons_of_mem _ hx;replace hL:=cV.cG (iv':=(S8.heap.size,Sy.heap.size)::Qn) hL r hS he fun x hx=>List.mem_cons_of_mem _ hx;replace Qs:=mc.cG (iv':=(S8.heap.size,Sy.heap.size)::Qn) Qs r (cC w) he fun x hx=>List.mem_cons_of_mem _ hx;replace hG:=jf.cG (iv':=(S8.heap.size,Sy.heap.size)::Qn) hG r (cC w) he fun x hx=>List.mem_cons_of_mem _ hx;replace hE:=eY.cG (iv':=(S8.heap.size,Sy.heap.size)::Qn) hE r (cC w) he fun x hx=>List.mem_cons_of_mem _ hx;clear hd;have PC:=lY.fresh (S:=FF) (v:=(.slice ax f.cols cx)) hn r Qe;clear r he PB Qe hn;generalize (S8.heap.size,Sy.heap.size)::Qn=iv12 at*
  obtain⟨F0,F1,F2,F3,F4,F5,F6,F7,rfl⟩:=PC.shape;have Qt:=hG.push (cs:=[.bool F0,.slice F1 F2 F3,.bool F4,.slice F5 F6 F7]) (q:= -(fI bent x0 f.cols)) ⟨_,_,_,_,_,_,_,_,rfl,PC⟩ rfl;rw[hrgt]at Qt;have Pm:rc.flatten++([.bool F0,.slice F1 F2 F3,.bool F4,.slice F5 F6 F7]:List Value)=(rc++([[.bool F0,.slice F1 F2 F3,.bool F4,.slice F5 F6 F7]]:List (List Value))).flatten:=by simp
  refine .inl ?_;refine⟨by omega,by omega,by unfold maxLen;omega,((i+1:Nat):Int),wo,?_⟩;intro ρ3 w6 r3;exact⟨(i+1,rv++[ur],rc++[[.bool F0,.slice F1 F2 F3,.bool F4,.slice F5 F6 F7]],w6,_),⟨OF,hw.tr r3.cQ,hX.rel r3 (cC w),gJ.rel hK r3 (cC w),cV.rel hL r3 hS,mc.rel Qs r3 (cC w),jf.rel Qt r3 (cC w)⟩,Sub.gn [(3,7),(4,9)] r3 ⟨by dsimp only;rw[List.length_append,List.length_singleton];rfl,rfl,by dsimp only;rw[<-Pm];rfl,trivial⟩ ⟨rfl,rfl,rfl,rfl,rfl,rfl,by dsimp only;rw[List.length_append,List.length_singleton];rfl,rfl,trivial⟩,by dsimp only;omega⟩
 have OF:i=(cW (cP f) f.cols).length:=by have:=aH OF;omega
 rw[OF,List.take_of_length_le (by rw[eU,aJ];exact aF _)]at hR;rw[OF,List.take_of_length_le (by rw[gZ,aJ];exact aF _)]at hG;have QT:rv.length=(eU (cW (cP f) f.cols) (cX f)).length:=hR.1
 refine cD (cO (Φ:=fun _ w' v w2=>∃vc,v= .tuple #[vc,.bool true]∧da w2 (Bs FF w.heap.size iv (.slice ax f.cols cx)) w'.heap.size [(w'.heap.size,w2.heap.size)] vc (cW (cP f) f.cols).length c) (fun O w' r=>(B9 (C:=(fun g=>g<w'.heap.size)) (D:=(fun g=>g<w'.heap.size)) (S:=Bs FF w.heap.size iv (.slice ax f.cols cx)) (M:=eU (cW (cP f) f.cols) (cX f)) (b:=gZ (cW (cP f) f.cols) (cX f) x0) (cols:=(cW (cP f) f.cols).length) (h:=1930) (fun g hg=>hg) (fun g hg=>hg) (fun g hg=>Rel.old r (cC w) g hg.1) ⟨rv,by rw[<-QT];exact r.xl (T:=(fun g=>g<w'.heap.size)) (id:=3) (sz:=1) (m:=rv.length) rfl (by simp) (by unfold maxLen;omega) (by decide) hR.2.1 fun hn=>(r.low 3 _ rfl hn).2,hR.1,fun a u x h1 h2=>eY.rel (hR.2.2 a u x h1 h2) r (cC w)⟩ ⟨rc,by rw[<-hG.len];exact r.xl (T:=(fun g=>g<w'.heap.size)) (id:=4) (sz:=4) (m:=rc.length) rfl hgf (by unfold maxLen;omega) (by decide) hG.one fun hn=>(r.low 4 _ rfl hn).2,hG.len,fun a cs x h1 h2=>(jf.rel hG r (cC w)).at_ a cs x h1 h2⟩ (by rw[gZ,eU,aJ,aJ]) hSl (by omega) (by rw[eU,aJ];omega) hredB (by decide)).mono fun _ _ ⟨v2,e1,e2,e3⟩=>⟨v2,e1,e2,by
  rcases e3 with⟨h1,_⟩|⟨x2,vx,h1,h2,h3⟩
  ·rw[Q9]at h1;cases h1
  ·rw[Q9]at h1;injection h1 with h1;subst h1;exact⟨vx,h2,h3⟩⟩) ?_)
 rintro O VT v13 wb13 r he PB ⟨vc,rfl,hn⟩;replace hw:=hw.tr PB;have Qe:∀g,(Value.slice ax f.cols cx).ownBlock=some g->g<VT.heap.size:=fun g e=>Rel.old r (cC w) g (hX.new g e);replace hX:=hX.cG (iv':=(VT.heap.size,wb13.heap.size)::iv) r (cC w) he fun x hx=>List.mem_cons_of_mem _ hx;replace hK:=gJ.cG (iv':=(VT.heap.size,wb13.heap.size)::iv) hK r (cC w) he fun x hx=>List.mem_cons_of_mem _ hx;have hC:=cL.cJ hn.c fun g hg=>Bs.solved r Qe (fun _ h=>h) hg;clear r he PB Qe;generalize (VT.heap.size,wb13.heap.size)::iv=iv13 at*
 clear hn hR hG hL;obtain⟨ac,cc,rfl,-,-⟩:=dM.shape hC;rw[Po]
 refine⟨Nat×World×Iv,fun z=>⟨[(7,sV ax f.cols cx),(19,.o (.v (.slice ac (cW (cP f) f.cols).length cc))),(87,.o (.v (.slice ak (cW (cP f) f.cols).length ck))),(88,.o (.v (.int .i64 (cW (cP f) f.cols).length))),(89,iN z.1)],[],0,z.2.2,z.2.1⟩,fun z=>(cW (cP f) f.cols).length-z.1,
  fun z=>z.1<=(cW (cP f) f.cols).length∧eB w.heap.size w z.2.1∧da z.2.1 FF w.heap.size z.2.2 (.slice ax f.cols cx) f.cols (lF (cW (cP f) f.cols) c x0 z.1)∧cT z.2.1 (Bs FF w.heap.size z.2.2 (.slice ax f.cols cx)) (.slice ak (cW (cP f) f.cols).length ck) (cW (cP f) f.cols)∧cL z.2.1 (Bs FF w.heap.size z.2.2 (.slice ax f.cols cx)) (.slice ac (cW (cP f) f.cols).length cc) c,?_,?_⟩
 ·intro O w' r3;exact⟨(0,w',_),⟨aO _,hw.tr r3.cQ,hX.rel r3 (cC w),gJ.rel hK r3 (cC w),by have:=eY.rel hC r3 (cC w);rw[Po]at this;exact this⟩,Sub.gn [] r3⟩
 clear hw hX hK hC;rintro⟨i,w13,iv⟩ ⟨hi,hw,hX,hK,hC⟩;dsimp only at hi hw hX hK hC ⊢;refine dN.mk ?_ ?_<;>intro OF
 ·have OF:i<(cW (cP f) f.cols).length:=by have:=aI OF;omega
  obtain⟨s,hs⟩:∃s,(cW (cP f) f.cols)[i]? =some s:=⟨_,aB OF⟩
  have Qd:s.length=f.cols:=hKl s (aC hs);have hsr:=hKr s (aC hs);obtain⟨ci,hci⟩:∃q,c[i]? =some q:=⟨_,aB (by omega)⟩
  have hcir:=Sg ci (aC hci);obtain⟨y0,Pe⟩:∃y,lF (cW (cP f) f.cols) c x0 i=y:=⟨_,rfl⟩
  have hy0l:y0.length=f.cols:=by rw[<-Pe,qS,hx0l]
  have hy0r:∀q∈y0,rl q<=75000:=fun q hq=>by
   rw[<-Pe]at hq;have h1:=Eo (a:=26) (b:=1927) VR (fun r hr q hq=>by have:=hKr r hr q hq;omega) Sg i q hq;have h2:i*(2*1927+5)<=18*(2*1927+5):=Nat.mul_le_mul_right _ (by omega);omega
  have hnextA:lF (cW (cP f) f.cols) c x0 (i+1)=y0.mapIdx fun k q=>q+ci*s.getD k 0:=by rw[lF,Pe,getD_some hci,getD_some (d:=[]) hs]
  rw[Pe]at hX;obtain⟨adm3,um,ham3,PS,km3,kn3⟩:=db.load hK hs;obtain⟨as3,cs3,rfl,-,-⟩:=dM.shape PS;refine⟨adm3,ham3,by omega,.slice as3 s.length cs3,fun O w' r=>?_,?_⟩
  ·rw[aE,cH (w:=w13) (w2:=w') (by rw[dH];exact Rel.same r (cC w) km3.1)];exact kn3
  rw[Qd]
  refine⟨Nat×World×Iv,fun z=>⟨[(7,sV ax f.cols cx),(19,.o (.v (.slice ac (cW (cP f) f.cols).length cc))),(87,.o (.v (.slice ak (cW (cP f) f.cols).length ck))),(88,.o (.v (.int .i64 (cW (cP f) f.cols).length))),(89,iN i),(20,iN i),(94,sV as3 f.cols cs3),(95,iZ f.cols),(96,iN z.1)],[],0,z.2.2,z.2.1⟩,fun z=>f.cols-z.1,
   fun z=>z.1<=f.cols∧eB w.heap.size w z.2.1∧da z.2.1 FF w.heap.size z.2.2 (.slice ax f.cols cx) f.cols ((gu z.1 (fun k q=>q+ci*s.getD k 0) y0))∧cT z.2.1 (Bs FF w.heap.size z.2.2 (.slice ax f.cols cx)) (.slice ak (cW (cP f) f.cols).length ck) (cW (cP f) f.cols)∧cL z.2.1 (Bs FF w.heap.size z.2.2 (.slice ax f.cols cx)) (.slice ac (cW (cP f) f.cols).length cc) c∧cL z.2.1 (Bs FF w.heap.size z.2.2 (.slice ax f.cols cx)) (.slice as3 f.cols cs3) s,?_,?_⟩
  ·intro O w' r3;exact⟨(0,w',_),⟨aO _,hw.tr r3.cQ,by dsimp only;rw[sH];exact hX.rel r3 (cC w),gJ.rel hK r3 (cC w),eY.rel hC r3 (cC w),by have:=eY.rel PS r3 (cC w);rw[Qd]at this;exact this⟩,Sub.gn [] r3⟩
  clear hw hX hK hC PS;rintro⟨k,w14,iv⟩ ⟨hk,hw,hX,hK,hC,PS⟩;dsimp only at hk hw hX hK hC PS ⊢;refine dN.mk ?_ ?_<;>intro OI
  ·have OI:k<f.cols:=by have:=aI OI;omega
   obtain⟨gx,rfl⟩:=hX.at (by omega);obtain⟨q,hq⟩:∃q,s[k]? =some q:=⟨_,aB (by omega)⟩
   obtain⟨y,hy⟩:∃q,y0[k]? =some q:=⟨_,aB (by omega)⟩
   have hyu:=zo (f:=fun k q=>q+ci*s.getD k 0) hy;have hqr:=hsr q (aC hq);have hyr:=hy0r y (aC hy);obtain⟨adq,csq,TM,hFq,_,hlq⟩:=dM.load PS hq;obtain⟨q0,q1,q2,q3,q4,q5,q6,q7,rfl,hFq⟩:=hFq;obtain⟨ady,csy,Uf,Rd,_,QY⟩:=dM.load hX.c hyu;obtain⟨y0',y1,y2,y3,y4,y5,y6,y7,rfl,Rd⟩:=Rd;obtain⟨adc,csc,Vm,hFc,_,SX⟩:=dM.load hC hci;obtain⟨c0,c1,c2,c3,c4,c5,c6,c7,rfl,hFc⟩:=hFc;refine⟨adq,TM,by omega,[.bool q0,.slice q1 q2 q3,.bool q4,.slice q5 q6 q7],rfl,fun O w' r j u hu=>?_,?_⟩
   ·obtain⟨k1,k2⟩:=hlq j u hu;rw[aE,cH (w:=w14) (w2:=w') (by rw[dH,dH];exact Rel.same r (cC w) k1.1)];exact k2
   refine cN hτ dm [.x 0,.x 1,.x 2,.x 3,.x 4,.x 5,.x 6,.x 7,.x 8,.x 9,.x 10,.x 11,.x 12,.x 13,.x 14] (by kernel_rfl) (by kernel_rfl) ?_;refine⟨ady,Uf,by omega,[.bool y0',.slice y1 y2 y3,.bool y4,.slice y5 y6 y7],rfl,fun O w' r j u hu=>?_,?_⟩
   ·obtain⟨k1,k2⟩:=QY j u hu;rw[aE,cH (w:=w14) (w2:=w') (by rw[dH,dH];exact Rel.same r (cC w) k1)];exact k2
   refine⟨adc,Vm,by omega,[.bool c0,.slice c1 c2 c3,.bool c4,.slice c5 c6 c7],rfl,fun O w' r j u hu=>?_,?_⟩
   ·obtain⟨k1,k2⟩:=SX j u hu;rw[aE,cH (w:=w14) (w2:=w') (by rw[dH,dH];exact Rel.same r (cC w) k1.1)];exact k2
   refine cO (Φ:=fun _ w' v w2=>cS w2 (Nf w' w2) v (ci*q)) (fun O w' r=>zn (S:=Cf w iv) (Rel.old r (cC w)) ((cS.l (lY.cv (lY.rel hFc r (cC w))) (by omega)).v) ((cS.l (lY.cv (lY.rel hFq r (cC w))) (by omega)).v)) ?_;rintro O Sz v15 Th r he PB hn;replace hw:=hw.tr PB;have Qe:∀g,(Value.slice (some ⟨gx,0,none⟩) f.cols cx).ownBlock=some g->g<Sz.heap.size:=fun g e=>Rel.old r (cC w) g (hX.new g e);replace hX:=hX.cG (iv':=(Sz.heap.size,Th.heap.size)::iv) r (cC w) he fun x hx=>List.mem_cons_of_mem _ hx;replace hK:=gJ.cG (iv':=(Sz.heap.size,Th.heap.size)::iv) hK r (cC w) he fun x hx=>List.mem_cons_of_mem _ hx;replace hC:=eY.cG (iv':=(Sz.heap.size,Th.heap.size)::iv) hC r (cC w) he fun x hx=>List.mem_cons_of_mem _ hx;replace PS:=eY.cG (iv':=(Sz.heap.size,Th.heap.size)::iv) PS r (cC w) he fun x hx=>List.mem_cons_of_mem _ hx;replace Rd:=cS.cG (iv':=(Sz.heap.size,Th.heap.size)::iv) Rd r (cC w) he fun x hx=>List.mem_cons_of_mem _ hx;have hm:=lY.fresh (S:=FF) (v:=(.slice (some ⟨gx,0,none⟩) f.cols cx)) hn r Qe;clear r he PB Qe hn;generalize (Sz.heap.size,Th.heap.size)::iv=Ti at*
   obtain⟨G0,G1,G2,G3,G4,G5,G6,G7,rfl⟩:=hm.shape;refine cO (Φ:=fun _ w' v w2=>cS w2 (Nf w' w2) v (y+ci*q)) (fun O w' r=>KB (S:=Cf w Ti) (Rel.old r (cC w)) ((cS.l (cS.rel Rd r (cC w)) (by omega)).v) ((cS.l (lY.cv (lY.rel hm r (cC w))) (by have:=j9 ci q;omega)).v)) ?_;rintro O Tj v16 UT r he PB hn;replace hw:=hw.tr PB;have Qe:∀g,(Value.slice (some ⟨gx,0,none⟩) f.cols cx).ownBlock=some g->g<Tj.heap.size:=fun g e=>Rel.old r (cC w) g (hX.new g e);replace hX:=hX.cG (iv':=(Tj.heap.size,UT.heap.size)::Ti) r (cC w) he fun x hx=>List.mem_cons_of_mem _ hx;replace hK:=gJ.cG (iv':=(Tj.heap.size,UT.heap.size)::Ti) hK r (cC w) he fun x hx=>List.mem_cons_of_mem _ hx;replace hC:=eY.cG (iv':=(Tj.heap.size,UT.heap.size)::Ti) hC r (cC w) he fun x hx=>List.mem_cons_of_mem _ hx;replace PS:=eY.cG (iv':=(Tj.heap.size,UT.heap.size)::Ti) PS r (cC w) he fun x hx=>List.mem_cons_of_mem _ hx;clear Rd;clear hm;have hd:=lY.fresh (S:=FF) (v:=(.slice (some ⟨gx,0,none⟩) f.cols cx)) hn r Qe;clear r he PB Qe hn;generalize (Tj.heap.size,UT.heap.size)::Ti=iv16 at*
   obtain⟨J0,J1,J2,J3,J4,J5,J6,J7,rfl⟩:=hd.shape;refine⟨⟨gx,0,none⟩,rfl,by omega,?_⟩;intro O w' r;obtain⟨g,hg,h1,h2,h3,h4,h5⟩:=(hX.rel r (cC w)).store (j:=k) OI (hd.cI (Bs.same r (cC w))) r (cC w);injection hg with hg;injection hg with hg;subst hg;refine⟨h1,h2,h3,fun w5 QZ=>?_⟩;obtain⟨k1,k2,k3⟩:=h5 w5 QZ;have Ow:eB w.heap.size w w5:=(hw.tr r.cQ).tr (eB.grown k2 (fun g e=>by injection e with e;subst e;exact h4.elim (fun h=>h.elim) fun h=>h.1) r.cF);have Q1:=gJ.kept hK r (cC w) k2;have Vh:=eY.kept hC r (cC w) k2;have Qs:=eY.kept PS r (cC w) k2;have OO:(gu k (fun k q=>q+ci*s.getD k 0) y0).set k (y+ci*q)=(gu (k+1) (fun k q=>q+ci*s.getD k 0) y0):=by rw[<-oE hy,getD_some hq]
   rw[OO]at k1;clear hX hK hC PS hw h1 h2 h3 h4 h5 QZ k2 k3 r hd;refine⟨((k+1:Nat):Int),wo,?_⟩;intro ρ3 w6 r3;exact⟨(k+1,w6,_),⟨OI,Ow.tr r3.cQ,k1.rel r3 (cC w),gJ.rel Q1 r3 (cC w),eY.rel Vh r3 (cC w),eY.rel Qs r3 (cC w)⟩,Sub.gn [] r3,by dsimp only;omega⟩
  have OI:k=f.cols:=by have:=aH OI;omega
  rw[OI,<-hy0l,vJ,<-hnextA,hy0l]at hX;refine⟨((i+1:Nat):Int),wo,?_⟩;intro ρ3 w6 r3;exact⟨(i+1,w6,_),⟨OF,hw.tr r3.cQ,hX.rel r3 (cC w),gJ.rel hK r3 (cC w),eY.rel hC r3 (cC w)⟩,Sub.gn [] r3,by dsimp only;omega⟩
 have OF:i=(cW (cP f) f.cols).length:=by have:=aH OF;omega
 rw[OF]at hX;exact rtn hw fun ρe we re=>.inr ⟨_,_,hfrc,rfl,cL.out hX.c re (cC w)⟩
end Go.Ex
