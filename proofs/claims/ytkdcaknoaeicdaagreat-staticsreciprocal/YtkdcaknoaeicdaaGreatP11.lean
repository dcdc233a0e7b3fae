/- A part of the proof: texts L43 to X144. Each tells its conditions in its theorems. -/
import Derived.Test.YtkdcaknoaeicdaaGreatP2
import Derived.Test.YtkdcaknoaeicdaaGreatP8
import Derived.Test.YtkdcaknoaeicdaaGreatP9
import Derived.Test.YtkdcaknoaeicdaaGreatP10
namespace Go.Ex
variable{A M:List (List Rat)}{pv:List Nat}{B j:Nat}{v:Nat->Rat}
theorem zZ(f:Nat->Rat):∀n,cQ f n=jM (List.range n) f
 |0=>rfl
 |n+1=>by
  rw[cQ,zZ f n,bR,uG];show _=_+(_+0)
  rw[bP]
theorem z3(g:Nat->Rat):∀l:List Nat,jM l g=cQ (fun k=>g (l.getD k 0)) l.length
 |[]=>rfl
 |t::l=>by
  rw[List.length_cons,wy];show g t+jM l g=g t+_;rw[z3 g l];rfl
def mulR(M:List (List Rat))(n:Nat)(x:Nat->Rat)(j:Nat):Rat:=cQ (fun t=>cY M j t*x t) n
theorem df.dot{E:Mx}{r n:Nat}(h:df E r n v):∃c:Nat->Rat,(∀t,t<n->v t=cQ (fun i=>c i*E i t) r)∧∀x:Nat->Rat,cQ (fun t=>v t*x t) n=cQ (fun i=>c i*cQ (fun t=>E i t*x t) n) r:=by
 obtain⟨c,hc⟩:=h;refine⟨c,hc,fun x=>?_⟩;rw[cA (g:=fun t=>cQ (fun i=>c i*E i t*x t) r) fun t ht=>by rw[hc t ht,<-jN],kN];exact cA fun i _=>by rw[<-eE];exact cA fun t _=>Rat.mul_assoc _ _ _
section
variable{M:List (List Rat)}{n:Nat}{x:Nat->Rat}{b:List Rat}
theorem Ge(hM:fZ n M)(h:∀j,j<M.length->mulR M n x j=0){c:Nat}(hc:c<=n):∀i,i<M.length->mulR (cH M c).1 n x i=0:=fun i hi=>by
 obtain⟨c,_,h2⟩:=((iU hM c hc).1 i hi).dot;unfold mulR;rw[h2 x,cA (g:=fun _=>0) fun j hj=>by rw[show cQ (fun t=>cY M j t*x t) n=0 from h j hj,aw],dK]
theorem Bw(hM:fZ n M){c:Nat}(hc:c<=n)(h:∀i,i<M.length->mulR (cH M c).1 n x i=0):∀j,j<M.length->mulR M n x j=0:=fun j hj=>by
 obtain⟨c,_,h2⟩:=((iU hM c hc).2 j hj).dot;unfold mulR;rw[h2 x,cA (g:=fun _=>0) fun i hi=>by rw[show cQ (fun t=>cY (cH M _).1 i t*x t) n=0 from h i hi,aw],dK]
theorem jP(hM:fZ n M){t:Nat}(hj:j<M.length):(t<n->cY (dP M b) j t=cY M j t)∧cY (dP M b) j n=b.getD j 0:=by
 have hr:=aA hj;have hl:(M[j]).length=n:=hM _ (aX hj);have e:(dP M b).getD j []=M[j]++[b.getD j 0]:=by rw[dP,List.getD,List.getElem?_mapIdx,hr];rfl
 have e2:M.getD j []=M[j]:=by rw[List.getD,hr];rfl
 refine⟨fun ht=>?_,?_⟩
 ·rw[cY,cY,e,e2,List.getD,aK (by omega),<-List.getD]
 ·rw[cY,e,List.getD,aN (by omega),hl,bI];rfl
def Bx(x:Nat->Rat)(n t:Nat):Rat:=if t<n then x t else -1
theorem DQ(hM:fZ n M)(hj:j<M.length):mulR (dP M b) (n+1) (Bx x n) j=mulR M n x j-b.getD j 0:=by
 have h:=fun t=>jP (b:=b) (t:=t) hM hj;unfold mulR;rw[cQ,(h 0).2,show Bx x n n= -1 by unfold Bx;rw[aI (Nat.lt_irrefl n)],cA (g:=fun t=>cY M j t*x t) fun t ht=>by rw[(h t).1 ht];unfold Bx;rw[if_pos ht]];grind
def eU(M:List (List Rat))(b:List Rat)(n:Nat):Option (List Rat):=
 let e:=cH (dP M b) n
 if ∀j,j<M.length->e.2.length<=j->cY e.1 j n=0 then some (gC e.1 e.2 n e.2.length)else none
theorem gk{x:List Rat}(hM:fZ n M)(h:eU M b n=some x):x.length=n∧∀j,j<M.length->mulR M n (fun t=>x.getD t 0) j=b.getD j 0:=by
 unfold eU at h;dsimp only at h;split at h
 ·rename_i h0;injection h with h;have hW:=gi (b:=b) hM;obtain⟨r1,r2,r3,r4,r5⟩:=dN hW n (Nat.le_succ n);have hpc:=gL (dP M b) n;have hwl:=eC (M:=M) (b:=b);have hl:=dg (dP M b) n;have hxl:x.length=n:=by rw[<-h,jV]
  have hin:∀j,j<(cH (dP M b) n).2.length->x.getD ((cH (dP M b) n).2.getD j 0) 0=cY (cH (dP M b) n).1 j n:=fun j hj=>by
   rw[<-h];exact mZ (F:=gC (cH (dP M b) n).1 (cH (dP M b) n).2 n) (f:=fun i=>cY (cH (dP M b) n).1 i n) (fun i=>gF _ _ n i) (jV _ _ n) hpc.2.1 r4 _ (aE _) hj
  have hout:∀t,t∉(cH (dP M b) n).2->x.getD t 0=0:=fun t ht=>by rw[<-h];exact rI ht
  refine⟨hxl,fun j hj=>?_⟩;have key:=Bw (M:=dP M b) (x:=Bx (fun t=>x.getD t 0) n) hW (c:=n) (Nat.le_succ n) (fun i hi=>?_) j (by rw[hwl];exact hj)
  ·rw[DQ hM hj]at key;grind
  ·unfold mulR;rw[cQ,show Bx (fun t=>x.getD t 0) n n= -1 by unfold Bx;rw[aI (Nat.lt_irrefl n)],cA (g:=fun t=>cY (cH (dP M b) n).1 i t*x.getD t 0) fun t ht=>by unfold Bx;rw[if_pos ht]];rcases aO i (cH (dP M b) n).2.length with h1|h1
   ·rw[eL (i:=(cH (dP M b) n).2.getD i 0) (r4 _ (by rw[List.getD,aA h1];exact aX _)) fun t ht hne=>?_,r5 i i h1 (by omega),if_pos rfl,hin i h1]
    ·grind
    ·by_cases hp:t∈(cH (dP M b) n).2
     ·obtain⟨k,hk,rfl⟩:=qN hp;rw[r5 k i hk (by omega),aI (fun e=>hne (by rw[e])),bA]
     ·rw[hout t hp,aw]
   ·rw[cA (g:=fun _=>0) fun t ht=>by rw[r3 i t h1 (by omega) ht,bA],dK,h0 i (by rw[<-hwl];exact hi) h1];grind
 ·cases h
theorem mf(hM:fZ n M)(h:eU M b n=none):∃y:Nat->Rat,(∀t,t<n->cQ (fun j=>y j*cY M j t) M.length=0)∧cQ (fun j=>y j*b.getD j 0) M.length≠0:=by
 unfold eU at h;dsimp only at h;split at h
 ·cases h
 ·rename_i h0;obtain⟨i,hi,h1,h2⟩:∃i,i<M.length∧(cH (dP M b) n).2.length<=i∧cY (cH (dP M b) n).1 i n≠0:=by
   refine Decidable.byContradiction fun hno=>h0 fun j hj hr=>Decidable.byContradiction fun h2=>hno ⟨j,hj,hr,h2⟩
  have hW:=gi (b:=b) hM;have hwl:=eC (M:=M) (b:=b);have hl:=dg (dP M b) n;obtain⟨r1,r2,r3,r4,r5⟩:=dN hW n (Nat.le_succ n);obtain⟨y,hy⟩:=(iU hW n (Nat.le_succ n)).1 i (by omega);rw[hwl]at hy;refine⟨y,fun t ht=>?_,?_⟩
  ·have h3:=hy t (by omega);rw[r3 i t h1 (by omega) ht]at h3;rw[h3];exact cA fun j hj=>by rw[(jP (b:=b) hM hj).1 ht]
  ·have h3:=hy n (by omega);rw[cA (g:=fun j=>y j*b.getD j 0) fun j hj=>by rw[(jP (b:=b) (t:=n) hM hj).2]]at h3;rw[<-h3];exact h2
theorem tC{x:Nat->Rat}(hM:fZ n M)(h:∀j,j<M.length->mulR M n x j=b.getD j 0):∃z,eU M b n=some z:=by
 cases e:eU M b n with
 |some z=>exact⟨z,rfl⟩
 |none=>
  obtain⟨y,h1,h2⟩:=mf hM e;refine absurd ?_ h2;rw[cA fun j hj=>by rw[<-h j hj,mulR,<-eE],kN,cA (g:=fun _=>0) fun t ht=>?_,dK];rw[cA (g:=fun j=>y j*cY M j t*x t) fun j _=>(Rat.mul_assoc _ _ _).symm,jN,h1 t ht,bA]
def Ks(M:List (List Rat))(n:Nat):Prop:=∀x:Nat->Rat,(∀j,j<M.length->mulR M n x j=0)->∀t,t<n->x t=0
theorem By(M:List (List Rat))(n:Nat)(x y:Nat->Rat)(j:Nat):mulR M n (fun t=>x t-y t) j=mulR M n x j-mulR M n y j:=by
 unfold mulR;rw[<-rJ];exact cA fun t _=>by grind
theorem F1{x:List Rat}(hM:fZ n M)(hi:Ks M n)(hx:x.length=n)(h:∀j,j<M.length->mulR M n (fun t=>x.getD t 0) j=b.getD j 0):eU M b n=some x:=by
 obtain⟨z,hz⟩:=tC hM h;obtain⟨h1,h2⟩:=gk hM hz;rw[hz];congr 1;refine fu 0 (by rw[h1,hx]) fun t ht=>?_;have:=hi (fun t=>z.getD t 0-x.getD t 0) (fun j hj=>by rw[By,h j hj,h2 j hj];grind) t (by omega);grind
theorem rP(M:List (List Rat))(b:List Rat):jK M b=dP M b:=rfl
theorem Bz{r i t:Nat}(h:i<r):cY (A.take r) i t=cY A i t:=by
 rw[cY,cY,show(A.take r).getD i []=A.getD i [] by rw[List.getD,bK h,<-List.getD]]
theorem uL(A:List (List Rat))(pv:List Nat)(n:Nat):∀k,k<=pv.length->gC (A.take pv.length) pv n k=gC A pv n k
 |0,_=>rfl
 |k+1,h=>by rw[gF,gF,uL A pv n k (by omega),Bz (by omega)]
theorem uM(A:List (List Rat))(pv:List Nat)(n c:Nat):∀k,k<=pv.length->fN (A.take pv.length) pv n c k=fN A pv n c k
 |0,_=>rfl
 |k+1,h=>by rw[gE,gE,uM A pv n c k (by omega),Bz (by omega)]
abbrev cN(M:List (List Rat))(n:Nat):List (List Rat):=eB (cH M n).1 (cH M n).2 n n
theorem DR(hM:fZ n M)(hW:A4 M n B):jt M n=cN M n:=by
 obtain⟨e1,e2⟩:=kP hM hW;unfold jt cN eB;rw[e1,e2];exact List.map_congr_left fun c _=>uM _ _ n c _ (aE _)
theorem tD(hM:fZ n M)(hW:A4 (dP M b) (n+1) B):me M b n=eU M b n:=by
 have hWl:=gi (b:=b) hM;obtain⟨e1,e2⟩:=kP hWl hW;have hl:=dg (dP M b) n;have hwl:=eC (M:=M) (b:=b);obtain⟨r1,r2,r3,r4,r5⟩:=dN hWl n (Nat.le_succ n);have e:cH (dP M b) (n+1)=dV (cH (dP M b) n) n:=by
  unfold cH;rw[bR,List.foldl_append];rfl
 unfold me eU;dsimp only
 rcases iZ n r2 with⟨k1,k2⟩|⟨k,k1,k2,k3,k4⟩
 ·rw[aI (by rw[rP,e1,e,k1];exact fun h=>by have:=r4 n h;omega),if_pos fun j hj hr=>k2 j hr (by omega),rP,e1,e2,e,k1,uL _ _ n _ (aE _)]
 ·rw[if_pos (by rw[rP,e1,e,k4];simp),aI fun h=>k3 (h k (by omega) k1)]
theorem Gf(hM:fZ n M){x:List Rat}(h:∀j,j<M.length->mulR M n (fun t=>x.getD t 0) j=0):Diff (cH M n).1 (cH M n).2 n x:=by
 obtain⟨r1,r2,r3,r4,r5⟩:=dN hM n (aE _);have hpc:=gL M n;have hl:=dg M n;refine⟨hpc.2.1,r4,r2,r5,fun j hj=>?_⟩;rw[<-zZ];have h1:=Ge hM h (aE n) j (by omega);unfold mulR at h1;rw[h1,cY,List.getD,List.getElem?_eq_none (by rw[r1.getD hj];exact aE _)];rfl
theorem kQ(M:List (List Rat))(n:Nat):(cN M n).length=(iF (cH M n).2 n).length:=by unfold cN eB;rw[aL]
theorem xN(M:List (List Rat))(n:Nat){k:Nat}(hk:k<(cN M n).length):(cN M n).getD k []=fN (cH M n).1 (cH M n).2 n ((iF (cH M n).2 n).getD k 0) (cH M n).2.length:=by
 obtain⟨r,hr⟩:∃r,(cN M n)[k]? =some r:=⟨_,aA hk⟩
 rw[List.getD,hr];exact(ma hr).2
theorem mg(M:List (List Rat))(n:Nat):fZ n (cN M n):=fun r hr=>by
 obtain⟨k,hk⟩:=aT hr;rw[(ma hk).2,jU]
theorem rQ(hM:fZ n M){k:Nat}(hk:k<(cN M n).length):∀j,j<M.length->mulR M n (cY (cN M n) k) j=0:=by
 obtain⟨r1,r2,r3,r4,r5⟩:=dN hM n (aE _);have hpc:=gL M n;have hl:=dg M n;have hf:=kM.1 (ns (by rw[<-kQ];exact hk));refine Bw hM (aE n) fun i hi=>?_;have hrow:=xN M n hk;generalize hc:(iF (cH M n).2 n).getD k 0=c at hf hrow;have hin:∀j,j<(cH M n).2.length->cY (cN M n) k ((cH M n).2.getD j 0)= -(cY (cH M n).1 j c):=fun j hj=>by
  rw[cY,hrow];exact mZ (F:=fN (cH M n).1 (cH M n).2 n c) (f:=fun i=> -(cY (cH M n).1 i c)) (fun i=>gE _ _ n c i) (jU _ _ n c) hpc.2.1 r4 _ (aE _) hj
 have hout:∀t,t∉(cH M n).2->cY (cN M n) k t=if t=c then 1 else 0:=fun t ht=>by rw[cY,hrow];exact np ht hf.1
 unfold mulR;rcases aO i (cH M n).2.length with h1|h1
 ·have hpi:(cH M n).2.getD i 0∈(cH M n).2:=by rw[List.getD,aA h1];exact aX _
  have hne:(cH M n).2.getD i 0≠c:=fun e=>hf.2 (e▸hpi);have e:cQ (fun t=>cY (cH M n).1 i t*cY (cN M n) k t) n=cQ (fun t=>(if t=(cH M n).2.getD i 0 then -(cY (cH M n).1 i c)else 0)+(if t=c then cY (cH M n).1 i c else 0)) n:=by
   refine cA fun t ht=>?_;by_cases hp:t∈(cH M n).2
   ·obtain⟨j,hj,rfl⟩:=qN hp;rw[hin j hj,r5 j i hj (by omega),aI (show ¬(cH M n).2.getD j 0=c from fun e=>hf.2 (e▸hp)),bP];by_cases hij:i=j
    ·rw[if_pos hij,if_pos (by rw[hij]),hij,bj]
    ·have hne2:(cH M n).2.getD j 0≠(cH M n).2.getD i 0:=fun e2=>hij (by
      rcases bl i j with h5|h5|h5
      ·have:(cH M n).2.getD i 0<(cH M n).2.getD j 0:=GX hpc.2.1 h5 hj;omega
      ·exact h5
      ·have:(cH M n).2.getD j 0<(cH M n).2.getD i 0:=GX hpc.2.1 h5 h1
       omega)
     rw[aI hij,aI hne2,bA]
   ·rw[hout t hp,aI (show ¬t=(cH M n).2.getD i 0 from fun e2=>hp (e2▸hpi)),Rat.zero_add];by_cases htc:t=c
    ·rw[if_pos htc,if_pos htc,htc,Rat.mul_one]
    ·rw[aI htc,aI htc,aw]
  rw[e,fO,eL (i:=(cH M n).2.getD i 0) (r4 _ hpi) fun t _ hne=>aI hne,eL (i:=c) hf.1 fun t _ hne=>aI hne,if_pos rfl,if_pos rfl];grind
 ·rw[cA (g:=fun _=>0) fun t ht=>by rw[r3 i t h1 (by omega) ht,bA],dK]
theorem E0(hM:fZ n M)(h:∀j,j<M.length->mulR M n x j=0):∃c:Nat->Rat,∀t,t<n->x t=cQ (fun k=>c k*cY (cN M n) k t) (cN M n).length:=by
 obtain⟨l,hl⟩:∃l,l=(List.range n).map x:=⟨_,rfl⟩
 have hx:∀t,t<n->l.getD t 0=x t:=fun t ht=>by rw[hl,List.getD,aM,bh ht];rfl
 have hd:=Gf (x:=l) hM fun j hj=>Eq.trans (cA fun t ht=>congrArg (cY M j t* ·) (hx t ht)) (h j hj);refine⟨fun k=>l.getD ((iF (cH M n).2 n).getD k 0) 0,fun t ht=>?_⟩;have h1:=hd.rest ht;obtain⟨r1,r2,r3,r4,r5⟩:=dN hM n (aE _);have h0:(gC (cH M n).1 (cH M n).2 n (cH M n).2.length).getD t 0=0:=by
  by_cases hp:t∈(cH M n).2
  ·obtain⟨j,hj,rfl⟩:=qN hp;rw[hd.Kr hj,cY,List.getD,List.getElem?_eq_none (by rw[r1.getD (by omega)];exact aE _)];rfl
  ·exact rI hp
 rw[h0,bA,bP,hx t ht,z3]at h1;rw[h1,kQ];exact cA fun k hk=>by rw[cY,xN M n (by rw[kQ];exact hk)]
theorem E1{c:Nat->Rat}(h:∀t,t<n->cQ (fun k=>c k*cY (cN M n) k t) (cN M n).length=0):∀k,k<(cN M n).length->c k=0:=fun k hk=>by
 have hk2:k<(iF (cH M n).2 n).length:=by rw[<-kQ];exact hk
 have hf:=kM.1 (ns hk2);have h1:=h _ hf.1;obtain⟨r,hr⟩:∃r,(cN M n)[k]? =some r:=⟨_,aA hk⟩
 rw[eL hk fun i hi hne=>?_]at h1
 ·rw[cY,show(cN M n).getD k []=r by rw[List.getD,hr];rfl,wx hr hr,if_pos rfl,Rat.mul_one]at h1;exact h1
 ·obtain⟨s,hs⟩:∃s,(cN M n)[i]? =some s:=⟨_,aA hi⟩
  rw[cY,show(cN M n).getD i []=s by rw[List.getD,hs];rfl,wx hr hs,aI hne,aw]
end
theorem xO(p:Nat->Bool):∀l:List Nat,l.length=(l.filter p).length+(l.filter fun c=> !p c).length
 |[]=>rfl
 |c::l=>by
  have ih:=xO p l;rw[List.filter_cons,List.filter_cons]
  cases p c with
  |true=>simp;omega
  |false=>simp;omega
theorem Gg{n:Nat}(hn:pv.Nodup)(hl:∀p∈pv,p<n):(iF pv n).length=n-pv.length:=by
 have h1:(List.range n).length=((List.range n).filter fun c=>decide (c∉pv)).length+((List.range n).filter fun c=>decide (c∈pv)).length:=by
  refine(xO (fun c=>decide (c∉pv)) (List.range n)).trans ?_;congr 2;refine List.filter_congr fun c _=>?_;by_cases h:c∈pv<;>simp[h]
 have h2:((List.range n).filter fun c=>decide (c∈pv)).length=pv.length:=by
  refine(List.Perm.length_eq ?_);refine(List.perm_ext_iff_of_nodup (List.Pairwise.filter _ List.nodup_range) hn).2 fun c=>?_;rw[List.mem_filter,List.mem_range,decide_eq_true_eq];exact⟨fun h=>h.2,fun h=>⟨hl c h,h⟩⟩
 rw[List.length_range]at h1;unfold iF;omega
theorem xP{n:Nat}(hM:fZ n M):(cN M n).length=n-(cH M n).2.length:=by
 obtain⟨r1,r2,r3,r4,r5⟩:=dN hM n (aE _);have hpc:=gL M n;rw[kQ];exact Gg (hpc.2.1.imp fun h=>Nat.ne_of_lt h) r4
end Go.Ex
namespace Go.Ex
open Go Go.Sx Go.Proofs
variable{after:Array Edge}{z:Int}{p:Int×Int×Rat}{M:List (List Rat)}{css:List (List Value)}{l:List Int}{cs:List Value}{j:Nat}{C S S':Nat->Prop}{guard:Option (Nat×Bool)}{a:Option Addr}{dst:Option Tmp}{K:SV->Hp->Nat->Iv->World->Prop}{v:Value}{w w2:World}{f:ei}
theorem cO.nil:cO w S (.slice none 0 0) []:=⟨[],⟨by decide,rfl,fun u hu=>absurd hu (by simp),none,0,rfl,aE _,fun j u hu=>absurd hu (by simp)⟩,rfl,fun i u x h1 h2=>absurd h2 (by simp)⟩
theorem dI.nil:dI w S (.slice none 0 0) []:=⟨by decide,rfl,fun u hu=>absurd hu (by simp),none,0,rfl,aE _,fun j u hu=>absurd hu (by simp)⟩
theorem BK(M:List (List Rat)):(dB M 0).1=[]∧(dB M 0).2.1=[]∧(dB M 0).2.2=[]:=by simp[dB,cV]
theorem BL(M:List (List Rat)):jt M 0=[]:=by simp[jt,eB]
set_option maxHeartbeats 1000000 in
theorem ue(hC:Old C w)(hS:Old S w)(hM:jz w C S v M)(hlen:fZ 0 M)(hR:M.length<=1000):
  di PG N.eu #[.agg #[v,.int .i64 0],.int .i64 0] w (dw w fun v' w2=>v'= .agg #[.slice none 0 0,.int .i64 0,.slice none 0 0,.slice none 0 0]):=by
 have hw:cR w.heap.size w w:=cR.refl;obtain⟨am,cm,rfl,hcm,hmm⟩:=jz.shape hM;unfold maxLen at hmm;refine ij (by simp) ?_;refine⟨0,0,rfl,rfl,aE _,by omega,by omega,World,fun z=>⟨[(1,.o (.v (.int .i64 0))),(2,.o (.p 0 0)),(4,.o (.p 1 0)),(5,.o (.p 2 0)),(6,.o (.s 3 0 0 0)),(27,.o (.v (.int .i64 0))),(28,.o (.v (.int .i64 0)))],[(3,.arr T.int []),(2,.box T.dD [.v (.slice none 0 0),.v (.int .i64 0),.v (.slice none 0 0),.v (.slice none 0 0)]),(1,.box T.dD [.v (.slice none 0 0),.v (.int .i64 0),.v (.slice none 0 0),.v (.slice none 0 0)]),(0,.box T.dM [.v (.slice am M.length cm),.v (.int .i64 0)])],4,[],z⟩,fun z=>0,fun z=>cR w.heap.size w z,?_,?_⟩
 ·intro O w' r3;exact⟨w',hw.tr r3.cI,Sub.gn [] r3⟩
 rintro w1 hw;dsimp only at hw ⊢
 refine⟨Nat×World,fun z=>⟨[(38,.o (.v (.int .i64 ((z.1:Nat):Int)))),(1,.o (.v (.int .i64 0))),(2,.o (.p 0 0)),(4,.o (.p 1 0)),(5,.o (.p 2 0)),(6,.o (.s 3 0 0 0)),(36,.o (.v (.slice am M.length cm))),(37,.o (.v (.int .i64 M.length)))],[(3,.arr T.int []),(2,.box T.dD [.v (.slice none 0 0),.v (.int .i64 0),.v (.slice none 0 0),.v (.slice none 0 0)]),(1,.box T.dD [.v (.slice none 0 0),.v (.int .i64 0),.v (.slice none 0 0),.v (.slice none 0 0)]),(0,.box T.dM [.v (.slice am M.length cm),.v (.int .i64 0)])],5,[],z.2⟩,fun z=>M.length-z.1,
  fun z=>z.1<=M.length∧cR w.heap.size w z.2,?_,?_⟩
 ·intro O w' r3;exact⟨(0,w'),⟨aP _,hw.tr r3.cI⟩,Sub.gn [] r3⟩
 rintro⟨i,w1⟩ ⟨hi,hw⟩;dsimp only at hi hw ⊢;refine dF.mk (fun hib=>?_) (fun hib=>?_)
 ·have hib:i<M.length:=by simpa using hib
  obtain⟨x,hx⟩:∃r,M[i]? =some r:=⟨_,aA hib⟩
  have hxl:=hlen x (aD hx);obtain rfl:=List.eq_nil_of_length_eq_zero hxl;obtain⟨adm,um,ham,hRm,km1,km2⟩:=jz.load hM hx;obtain⟨css,⟨-,g1,g2,a0,c0,rfl,g4,g5⟩,hcl,hc4,hcs⟩:=hRm;obtain rfl:=List.eq_nil_of_length_eq_zero hcl;refine⟨adm,ham,by omega,.slice a0 0 c0,rd1 km2 hw (hC _ km1),?_⟩;refine .inl ?_;refine⟨[],rfl,g2,fun O w' r hpos=>absurd hpos (by simp),rfl,by omega,by unfold maxLen;omega,World,fun z=>⟨[(9,.o (.w 6 0)),(46,.o (.v (.int .i64 0))),(47,.o (.v (.int .i64 0))),(2,.o (.p 0 0)),(4,.o (.p 1 0)),(5,.o (.p 2 0)),(6,.o (.s 3 0 0 0)),(8,.o (.v (.int .i64 ((i:Nat):Int)))),(36,.o (.v (.slice am M.length cm))),(37,.o (.v (.int .i64 M.length))),(38,.o (.v (.int .i64 ((i:Nat):Int)))),(1,.o (.v (.int .i64 0)))],[(6,.vec T.Rat 4 []),(3,.arr T.int []),(2,.box T.dD [.v (.slice none 0 0),.v (.int .i64 0),.v (.slice none 0 0),.v (.slice none 0 0)]),(1,.box T.dD [.v (.slice none 0 0),.v (.int .i64 0),.v (.slice none 0 0),.v (.slice none 0 0)]),(0,.box T.dM [.v (.slice am M.length cm),.v (.int .i64 0)])],7,[],z⟩,fun z=>0,fun z=>cR w.heap.size w z,?_,?_⟩
  ·intro O w' r3;exact⟨w',hw.tr r3.cI,Sub.gn [] r3⟩
  rintro w1 hw;dsimp only at hw ⊢;refine⟨World,fun z=>⟨[(9,.o (.w 6 0)),(12,.o (.v (.int .i64 0))),(2,.o (.p 0 0)),(4,.o (.p 1 0)),(5,.o (.p 2 0)),(6,.o (.s 3 0 0 0)),(8,.o (.v (.int .i64 ((i:Nat):Int)))),(36,.o (.v (.slice am M.length cm))),(37,.o (.v (.int .i64 M.length))),(38,.o (.v (.int .i64 ((i:Nat):Int)))),(1,.o (.v (.int .i64 0)))],[(6,.vec T.Rat 4 []),(3,.arr T.int []),(2,.box T.dD [.v (.slice none 0 0),.v (.int .i64 0),.v (.slice none 0 0),.v (.slice none 0 0)]),(1,.box T.dD [.v (.slice none 0 0),.v (.int .i64 0),.v (.slice none 0 0),.v (.slice none 0 0)]),(0,.box T.dM [.v (.slice am M.length cm),.v (.int .i64 0)])],7,[],z⟩,fun z=>0,fun z=>cR w.heap.size w z,?_,?_⟩
  ·intro O w' r3;exact⟨w',hw.tr r3.cI,Sub.gn [] r3⟩
  rintro w1 hw;dsimp only at hw ⊢;refine⟨((i+1:Nat):Int),wo,?_⟩;intro ρ3 w3 r3;exact⟨(i+1,w3),⟨hib,hw.tr r3.cI⟩,Sub.gn [] r3,by dsimp only;omega⟩
 refine⟨World,fun z=>⟨[(4,.o (.p 1 0)),(5,.o (.p 2 0)),(17,.o (.p 5 0)),(159,.o (.s 3 0 0 0)),(160,.o (.v (.int .i64 0))),(161,.o (.v (.int .i64 0)))],[(5,.box T.dD [.v (.slice none 0 0),.v (.int .i64 0),.v (.slice none 0 0),.v (.slice none 0 0)]),(3,.arr T.int []),(2,.box T.dD [.v (.slice none 0 0),.v (.int .i64 0),.v (.slice none 0 0),.v (.slice none 0 0)]),(1,.box T.dD [.v (.slice none 0 0),.v (.int .i64 0),.v (.slice none 0 0),.v (.slice none 0 0)]),(0,.box T.dM [.v (.slice am M.length cm),.v (.int .i64 0)])],6,[],z⟩,fun z=>0,fun z=>cR w.heap.size w z,?_,?_⟩
 ·intro O w' r3;exact⟨w',hw.tr r3.cI,Sub.gn [] r3⟩
 rintro w1 hw;dsimp only at hw ⊢;intro ρe we re;exact⟨_,rfl,hw.tr re.cI,rfl⟩
theorem Dr(hC:Old C w)(hS:Old S w)(hM:jz w C S v M)(hlen:fZ 0 M)(hR:M.length<=1000):
  di PG N.eu #[.agg #[v,.int .i64 0],.int .i64 0] w (dw w fun v' w2=>∃vr vp vf,v'= .agg #[vr,.int .i64 0,vp,vf]∧cO w2 (Nw S w w2) vr (dB M 0).1∧dI w2 (Nf w w2) vp (dB M 0).2.1∧dI w2 (Nf w w2) vf (dB M 0).2.2):=by
 refine(ue hC hS hM hlen hR).mono fun v1 w1 h1=>?_;obtain⟨_,e,hb,rfl⟩:=h1;obtain⟨e1,e2,e3⟩:=BK M;rw[e1,e2,e3];exact⟨_,e,hb,_,_,_,rfl,cO.nil,dI.nil,dI.nil⟩
theorem yS{n h:Nat}(hC:Old C w)(hS:Old S w)(hM:jz w C S v M)(hlen:fZ n M)(hR:M.length<=1000)(hn:n<=1000)(hB:Ax M n h)(hh:3*h<=90000):
  di PG N.eu #[.agg #[v,.int .i64 n],.int .i64 n] w (dw w fun v' w2=>∃vr vp vf,v'= .agg #[vr,.int .i64 n,vp,vf]∧cO w2 (Nw S w w2) vr (dB M n).1∧dI w2 (Nf w w2) vp (dB M n).2.1∧dI w2 (Nf w w2) vf (dB M n).2.2):=by
 rcases bH n with h0|h0
 ·subst h0;exact Dr hC hS hM hlen hR
 ·exact tj hC hS hM hlen h0 hn hR (aE _) hB hh
set_option maxHeartbeats 1000000 in
theorem Ds(hC:Old C w)(hS:Old S w)(hM:jz w C S v M)(hlen:fZ 0 M)(hR:M.length<=1000):
  di PG N.ff #[.agg #[v,.int .i64 0]] w (dw w fun v' w2=>cO w2 (Nf w w2) v' (jt M 0)):=by
 have hw:cR w.heap.size w w:=cR.refl;obtain⟨am,cm,rfl,hcm,hmm⟩:=jz.shape hM;unfold maxLen at hmm;refine il (by simp) ?_
 refine bw (cG (Φ:=fun _ w' v w2=>v= .agg #[.slice none 0 0,.int .i64 0,.slice none 0 0,.slice none 0 0]) (fun O w' r=>by
  obtain⟨rv,m1,m2,m3⟩:=hM
  exact ue (C:=C) (S:=S) (oS hC r) (oS hS r) ⟨rv,m1.cB fun g hg=>(hw.tr r.cI).block g (hC g hg),m2,fun i u x h1 h2=>cD.cB (m3 i u x h1 h2) fun g hg=>(hw.tr r.cI).block g (hS g hg)⟩ hlen hR) ?_)
 rintro O wa1 v1 wb1 r he hb1 rfl;replace hw:=hw.tr hb1;generalize (wa1.heap.size,wb1.heap.size)::[]=iv1 at*
 refine⟨0,0,rfl,rfl,aE _,by omega,by omega,World×Iv,fun z=>⟨[(1,.o (.p 0 0)),(3,.o (.p 1 0)),(4,.o (.s 2 0 0 0)),(20,.o (.v (.slice none 0 0))),(21,.o (.v (.int .i64 0))),(22,.o (.v (.int .i64 0)))],[(2,.arr T.bool []),(1,.box T.dD [.v (.slice none 0 0),.v (.int .i64 0),.v (.slice none 0 0),.v (.slice none 0 0)]),(0,.box T.dM [.v (.slice am M.length cm),.v (.int .i64 0)])],3,z.2,z.1⟩,fun z=>0,fun z=>cR w.heap.size w z.1,?_,?_⟩
 ·intro O w' r3;exact⟨(w',_),hw.tr r3.cI,Sub.gn [] r3⟩
 rintro⟨w1,iv⟩ hw;dsimp only at hw ⊢;refine⟨World×Iv,fun z=>⟨[(32,.o (.v (.int .i64 0))),(7,.o (.v (.slice none 0 0))),(1,.o (.p 0 0)),(3,.o (.p 1 0)),(4,.o (.s 2 0 0 0)),(31,.o (.v (.int .i64 0)))],[(2,.arr T.bool []),(1,.box T.dD [.v (.slice none 0 0),.v (.int .i64 0),.v (.slice none 0 0),.v (.slice none 0 0)]),(0,.box T.dM [.v (.slice am M.length cm),.v (.int .i64 0)])],3,z.2,z.1⟩,fun z=>0,fun z=>cR w.heap.size w z.1,?_,?_⟩
 ·intro O w' r3;exact⟨(w',_),hw.tr r3.cI,Sub.gn [] r3⟩
 rintro⟨w1,iv⟩ hw;dsimp only at hw ⊢;intro ρe we re;rw[BL];exact⟨_,rfl,hw.tr re.cI,cO.nil⟩
theorem Dt{n h:Nat}(hC:Old C w)(hS:Old S w)(hM:jz w C S v M)(hlen:fZ n M)(hR:M.length<=1000)(hn:n<=1000)(hB:Ax M n h)(hAb:Ht (dB M n).1 h)(hh:3*h<=90000):
  di PG N.ff #[.agg #[v,.int .i64 n]] w (dw w fun v' w2=>cO w2 (Nf w w2) v' (jt M n)):=by
 rcases bH n with h0|h0
 ·subst h0;exact Ds hC hS hM hlen hR
 ·exact F9 hC hS hM hlen h0 hn hR hB hAb hh
theorem tk{k:Nat}(h:∀cs∈css,cs.length=k):css.flatten.length=css.length*k:=by
 induction css with
 |nil=>simp
 |cons c r ih=>rw[List.flatten_cons,List.length_append,h c aH,ih fun x hx=>h x (aB _ hx),List.length_cons,Nat.succ_mul];omega
theorem tm{k:Nat}(h:∀cs∈css,cs.length=k)(hj:css[j]? =some cs)(i:Nat)(u:Value)(hu:cs[i]? =some u):css.flatten[j*k+i]? =some u:=by
 induction css generalizing j with
 |nil=>cases hj
 |cons c r ih=>
  have hc:=h c aH;have hi:=(aC.1 hu).1
  cases j with
  |zero=>
   injection hj with hj;subst hj;rw[List.flatten_cons,Nat.zero_mul,aS,aK hi];exact hu
  |succ j=>
   rw[List.flatten_cons,aN (by rw[hc,Nat.succ_mul];omega),hc,show(j+1)*k+i-k=j*k+i by rw[Nat.succ_mul];omega];exact ih (fun x hx=>h x (aB _ hx)) hj
def eI{α:Type}(k:Nat)(P:World->(Nat->Prop)->List Value->α->Prop)(w:World)(S:Nat->Prop)(v:Value)(xs:List α):Prop:=
 ∃css:List (List Value),jH w S k v css.flatten xs.length∧css.length=xs.length∧(∀cs∈css,cs.length=k)∧∀(j:Nat) cs x,css[j]? =some cs->xs[j]? =some x->P w S cs x
section
variable{α:Type}{k:Nat}{P:World->(Nat->Prop)->List Value->α->Prop}{w w2:World}{S S':Nat->Prop}{v:Value}{xs:List α}
theorem eI.cB(hP:∀cs x,P w S cs x->P w2 S cs x)(h:eI k P w S v xs)(hk:∀g,S g->w2.heap[g]? =w.heap[g]?):eI k P w2 S v xs:=by
 obtain⟨css,h1,h2,h3,h4⟩:=h;exact⟨css,h1.cB hk,h2,h3,fun j cs x k1 k2=>hP cs x (h4 j cs x k1 k2)⟩
theorem eI.cC(hP:∀cs x,P w S cs x->P w S' cs x)(h:eI k P w S v xs)(hk:∀g,S g->S' g):eI k P w S' v xs:=by
 obtain⟨css,h1,h2,h3,h4⟩:=h;exact⟨css,h1.cC hk,h2,h3,fun j cs x k1 k2=>hP cs x (h4 j cs x k1 k2)⟩
theorem eI.shape(h:eI k P w S v xs):∃a c,v= .slice a xs.length c∧xs.length<=c∧xs.length<=maxLen:=by
 obtain⟨css,⟨h0,_,_,a,c,h1,h2,_⟩,_⟩:=h;exact⟨a,c,h1,h2,h0⟩
theorem eI.load{m c:Nat}{x:α}(hk:0<k)(h:eI k P w S (.slice a m c) xs)(hq:xs[j]? =some x):
  ∃ad cs,a=some ad∧P w S cs x∧cs.length=k∧∀i u,cs[i]? =some u->S ad.block∧w.cell? ((ad.add (j*k)).add i)=some u:=by
 obtain⟨css,⟨h0,h1,h2,a',c',e,h3,h4⟩,hl,hl4,hf⟩:=h;injection e with e1 e2 e3;subst e1;obtain⟨cs,hcs⟩:∃cs,css[j]? =some cs:=⟨_,aA (by rw[hl];exact(aC.1 hq).1)⟩
 have hl:=hl4 cs (aD hcs);obtain⟨ad,k1,k2,k3⟩:=h4 (j*k+0) _ (tm hl4 hcs 0 _ (aA (show 0<cs.length by omega)));refine⟨ad,cs,k1,hf j cs x hcs hq,hl,fun i u hu=>?_⟩;obtain⟨ad2,m1,m2,m3⟩:=h4 (j*k+i) u (tm hl4 hcs i u hu);rw[k1]at m1;injection m1 with m1;subst m1;refine⟨m2,?_⟩;rw[<-m3];have:(ad.add (j*k)).add i=ad.add (j*k+i):=by
  unfold Addr.add;split<;>split<;>simp_all<;>omega
 rw[this]
end
def El(_w:World)(_S:Nat->Prop)(cs:List Value)(p:Int×Int×Int):Prop:=cs=[.int .i64 p.1,.int .i64 p.2.1,.int .i64 p.2.2]
def Em(_w:World)(_S:Nat->Prop)(cs:List Value)(p:Ld):Prop:=cs=[.int .i64 p.1,.int .i64 p.2.1,.int .i64 p.2.2.1,.int .i64 p.2.2.2]
def BA(w:World)(S:Nat->Prop)(cs:List Value)(p:Int×Int×Rat):Prop:=∃b a n c b2 a2 n2 c2,cs=[.int .i64 p.1,.int .i64 p.2.1,.bool b,.slice a n c,.bool b2,.slice a2 n2 c2]∧eR w S (.agg #[.bool b,.slice a n c,.bool b2,.slice a2 n2 c2]) p.2.2
theorem BA.cB(h:BA w S cs p)(hk:∀g,S g->w2.heap[g]? =w.heap[g]?):BA w2 S cs p:=by
 obtain⟨b,a,n,c,b2,a2,n2,c2,h1,h2⟩:=h;exact⟨b,a,n,c,b2,a2,n2,c2,h1,h2.cB hk⟩
theorem BA.cC(h:BA w S cs p)(hk:∀g,S g->S' g):BA w S' cs p:=by
 obtain⟨b,a,n,c,b2,a2,n2,c2,h1,h2⟩:=h;exact⟨b,a,n,c,b2,a2,n2,c2,h1,h2.cC hk⟩
abbrev l0:=eI 3 El
abbrev iJ:=eI 4 Em
abbrev HU:=eI 6 BA
structure dU(w:World)(S:Nat->Prop)(vn vb vs:Value)(f:ei):Prop where
 nodes:l0 w S vn f.nodes
 bars:HU w S vb f.bars
 cS:HU w S vs f.cS
section
variable{S S':Nat->Prop}{H:Hp}{nx:Nat}{iv iv':Iv}{B:Nat}{w w' w2:World}{O:Nat->Sx.dS}{v vn vb vs:Value}{f:ei}{l:List Ld}
theorem iJ.cB(h:iJ w S v l)(hk:∀g,S g->w2.heap[g]? =w.heap[g]?):iJ w2 S v l:=eI.cB (w:=w) (fun _ _ h=>h) h hk
theorem dU.cB(h:dU w S vn vb vs f)(hk:∀g,S g->w2.heap[g]? =w.heap[g]?):dU w2 S vn vb vs f:=
 ⟨eI.cB (w:=w) (fun _ _ h=>h) h.nodes hk,eI.cB (fun _ _ h=>h.cB hk) h.bars hk,eI.cB (fun _ _ h=>h.cB hk) h.cS hk⟩
theorem dU.cC(h:dU w S vn vb vs f)(hk:∀g,S g->S' g):dU w S' vn vb vs f:=
 ⟨eI.cC (S:=S) (fun _ _ h=>h) h.nodes hk,eI.cC (fun _ _ h=>h.cC hk) h.bars hk,eI.cC (fun _ _ h=>h.cC hk) h.cS hk⟩
theorem dU.rel(h:dU w (Cv S B iv) vn vb vs f)(r:Rel H nx iv B w O w')(hS:∀g,S g->g<B):dU w' (Cv S B iv) vn vb vs f:=h.cB fun _ hg=>Rel.same r hS hg
theorem dU.shape(h:dU w S vn vb vs f):∃an cn ab cb aq cs,vn= .slice an f.nodes.length cn∧vb= .slice ab f.bars.length cb∧vs= .slice aq f.cS.length cs∧f.nodes.length<=maxLen∧f.bars.length<=maxLen∧f.cS.length<=maxLen:=by
 obtain⟨an,cn,h1,_,h2⟩:=h.nodes.shape;obtain⟨ab,cb,h3,_,h4⟩:=h.bars.shape;obtain⟨aq,cs,h5,_,h6⟩:=h.cS.shape;exact⟨an,cn,ab,cb,aq,cs,h1,h3,h5,h2,h4,h6⟩
end
theorem yM{P:Program}{τ:l9}{B nx:Nat}{l:Env}{H:Hp}{iv:Iv}(hτ:fA P τ){t ty len e sz by_:Nat}{ag:Bool}{ze ze2:List Value}{ik ik2:IntKind}{b2 tag2 al2 e0:Nat}{fs fs2:List (Nat×Nat)}{x i:Operand}{pos:String}{vx:SV}{cs:Array Value}{k:IntKind}{m:Int}{u:Value}
  (ht:τ t=some ⟨sz,ag,by_,ze,6,ik,e,len,fs⟩) (hte:τ e=some ⟨1,false,b2,ze2,tag2,ik2,e0,al2,fs2⟩) (hx:ev l x=some vx) (hxd:∀O,vx.den O= .agg cs) (hi:ev l i=some (.o (.v (.int k m)))) (hm:0<=m∧m<len) (hc:cs[m.toNat]? =some u)
  (hK:∀O w',Rel H nx iv B w O w'->K (.o (.v u)) H nx iv w'):wP P B ⟨dst,.index t x i,ty,pos,after,guard⟩ l H nx iv w K:=by
 have hto:=(hτ t _ ht).i6 rfl;have hteo:=hτ e _ hte;refine DB hto (fun w=>hteo.sizeOf w) (fun w j v hv=>?_) hx hxd hi hm hc hK;simp[part,hteo.isAgg,hv]
structure iO(w:World)(B:Nat)(iv:Iv)(rv:List Value)(n:Nat)(M:List (List Int)):Prop where
 len:rv.length=M.length
 wid:∀l∈M,l.length=n
 row:∀(i:Nat) v l,rv[i]? =some v->M[i]? =some l->w.ownsRow 0 T.int 1 v n (l.map fun z=>.int .i64 z)
 Co:∀(i j:Nat) a b g,rv[i]? =some a->rv[j]? =some b->a.ownBlock=some g->b.ownBlock=some g->i=j
 new:∀g,Ob rv g->Cv (fun _=>False) B iv g
section
variable{H:Hp}{nx n:Nat}{iv iv':Iv}{B:Nat}{w w' w2:World}{O:Nat->Sx.dS}{rv:List Value}{M:List (List Int)}
theorem iO.nil:iO w B iv [] n []:=⟨rfl,fun l h=>(by cases h),fun i v l h=>(by cases h),fun i j a b g h=>(by cases h),fun g ⟨v,hv,_⟩=>by cases hv⟩
theorem iO.cB(h:iO w B iv rv n M)(hk:∀g,Cv (fun _=>False) B iv g->w2.heap[g]? =w.heap[g]?):iO w2 B iv rv n M:=
 ⟨h.len,h.wid,fun i v l h1 h2=>ownsRow.cB (h.row i v l h1 h2) fun g hg=>hk g (h.new g ⟨v,aD h1,hg⟩),h.Co,h.new⟩
theorem iO.rel(h:iO w B iv rv n M)(r:Rel H nx iv B w O w'):iO w' B iv rv n M:=h.cB fun _ hg=>Rel.same r (gb B) hg
theorem iO.mono(h:iO w B iv rv n M)(hm:∀p,p∈iv->p∈iv'):iO w B iv' rv n M:=⟨h.len,h.wid,h.row,h.Co,fun g hg=>(h.new g hg).mono hm⟩
theorem iO.bz(h:iO w B iv rv n M)(r:Rel H nx iv B w O w')(he:Ext w' w2)(hm:∀p,p∈iv->p∈iv'):iO w2 B iv' rv n M:=
 ((h.rel r).cB fun g hg=>he.block g (Rel.old r (gb B) g hg)).mono hm
theorem iO.form(hM:iO w B iv rv n M){i:Nat}(hv:rv[i]? =some v):∃a c,v= .slice a n c:=by
 obtain⟨l,hl⟩:∃l,M[i]? =some l:=⟨_,aA (by rw[<-hM.len];exact(aC.1 hv).1)⟩
 obtain⟨a,c,h,_⟩:=j7 (hM.row i v l hv hl);exact⟨a,c,h⟩
theorem iO.one(hM:iO w B iv rv n M):∀u∈rv,u.oneCell'=true:=fun u hu=>by
 obtain⟨i,hi⟩:=aT hu;obtain⟨a,c,rfl⟩:=hM.form hi;rfl
theorem iO.load(hM:iO w B iv rv n M){i k:Nat}{c:Nat}(hv:rv[i]? =some (.slice a n c))(hl:M[i]? =some l)(hk:l[k]? =some z):
  ∃ad,a=some ad∧Cv (fun _=>False) B iv ad.block∧w.cell? (ad.add (k*1))=some (.int .i64 z):=by
 have h:=hM.row i _ l hv hl;have hlen:=hM.wid l (aD hl);rcases h.2 with⟨_,h0⟩|⟨g,cap,cur,e,_⟩
 ·have:=(aC.1 hk).1;omega
 ·injection e with e;refine⟨⟨g,0,none⟩,e,hM.new g ⟨_,aD hv,by rw[e];rfl⟩,?_⟩;have:=h.cells (g:=g) (by rw[e];rfl) k (.int .i64 z) (by rw[aM,hk];rfl);rw[aV];exact this
theorem iO.store(hM:iO w B iv rv n M)(r:Rel H nx iv B w O w'){i k:Nat}{c:Nat}(hv:rv[i]? =some (.slice a n c))(hl:M[i]? =some l)(hk:k<n):
  ∃g,a=some ⟨g,0,none⟩∧((⟨g,0,none⟩:Addr).add ((k:Int).toNat*1)).spot=none∧
   (∀j,j<1->(w'.cell? (((⟨g,0,none⟩:Addr).add ((k:Int).toNat*1)).add j)).isSome=true∧w'.frozen? (((⟨g,0,none⟩:Addr).add ((k:Int).toNat*1)).add j)=false)∧
   (∀id b,cX H id=some b->(O id).nil=false->(O id).g≠((⟨g,0,none⟩:Addr).add ((k:Int).toNat*1)).block)∧
   ∀w2,w2=setCells w' ((⟨g,0,none⟩:Addr).add ((k:Int).toNat*1)) [.int .i64 z]->iO w2 B iv rv n (M.set i (l.set k z))∧cR B w' w2∧Rel H nx iv B w2 O w2∧w'.grownBy w2 (some g)∧Ob rv g:=by
 have hMr:=hM.rel r;have h1:=hMr.row i _ l hv hl;have hlen:=hM.wid l (aD hl);obtain⟨g,rfl,hok,hst,hgr,hsz⟩:=nh (nv:=[.int .i64 z]) h1 rfl hk rfl (by decide);have hob:Ob rv g:=⟨_,aD hv,rfl⟩
 have had:(⟨g,0,none⟩:Addr).add ((k:Int).toNat*1)=⟨g,k*1,none⟩:=by rw[aJ,dH,aS]
 have hnot:=Rel.not r (gb B) (hM.new g hob);refine⟨g,rfl,by rw[had],fun j hj=>by rw[had];exact hok j hj,fun id b hb hn=>by rw[had];exact hnot id b hb hn,fun w2 hw2=>?_⟩;rw[had]at hw2;subst hw2;refine⟨⟨by rw[bB];exact hM.len,fun x hx=>?_,fun j v l2 h3 h4=>?_,hM.Co,hM.new⟩,cR.grown hgr (fun x e=>by injection e with e;subst e;exact(hM.new g hob).elim (fun h=>h.elim) fun h=>h.1) r.bu,r.wR hnot hgr,hgr,hob⟩
 ·rcases bS hx with hx|rfl
  ·exact hM.wid x hx
  ·rw[bB];exact hlen
 ·by_cases hij:i=j
  ·subst hij;rw[hv]at h3;injection h3 with h3;subst h3;rw[aU (by rw[<-hM.len];exact(aC.1 hv).1)]at h4;injection h4 with h4;subst h4;rw[List.map_set,<-jT (by rw[aL];omega)];simp only[aV]at hst ⊢;exact hst
  ·rw[aZ hij]at h4;refine ownsRow.cB (hMr.row j v l2 h3 h4) fun x hx=>hgr.block x ?_ fun e=>?_
   ·exact Rel.old r (gb B) x (hM.new x ⟨v,aD h3,hx⟩)
   ·injection e with e;exact hij (hM.Co i j _ v x hv h3 (by rw[<-e];rfl) hx)
theorem iO.push(hM:iO w B iv rv n M){gx:Nat}(hgx:∀g,Cv (fun _=>False) B iv g->g≠gx)(hBx:B<=gx)(hl:l.length=n)(hrow:w.ownsRow 0 T.int 1 (.slice (some ⟨gx,0,none⟩) n n) n (l.map fun z=>.int .i64 z)):
  iO w B ((gx,gx+1)::iv) (rv++[.slice (some ⟨gx,0,none⟩) n n]) n (M++[l]):=by
 have hob:∀g,Ob rv g->g≠gx:=fun g hg=>hgx g (hM.new g hg);have key:∀(k:Nat) v,(rv++[Value.slice (some ⟨gx,0,none⟩) n n])[k]? =some v->(k<rv.length∧rv[k]? =some v)∨(k=rv.length∧v= .slice (some ⟨gx,0,none⟩) n n):=fun k v hk=>by
  rcases aO k rv.length with hi|hi
  ·rw[aK hi]at hk;exact .inl ⟨hi,hk⟩
  ·have hi0:k=rv.length:=by have:=(aC.1 hk).1;simp at this;omega
   rw[hi0,aN (aE _),bI]at hk;simp at hk;exact .inr ⟨hi0,hk.symm⟩
 refine⟨by simp[hM.len],fun x hx=>?_,fun i v x h1 h2=>?_,fun i j a b g h1 h2 h3 h4=>?_,fun g hg=>?_⟩
 ·rcases bN.1 hx with hx|hx
  ·exact hM.wid x hx
  ·rw[bD.1 hx];exact hl
 ·rcases key i v h1 with⟨hi,k1⟩|⟨e1,rfl⟩
  ·rw[aK (by rw[<-hM.len];exact hi)]at h2;exact hM.row i v x k1 h2
  ·rw[e1,hM.len,aN (aE _),bI]at h2;simp at h2;subst h2;exact hrow
 ·rcases key i a h1 with⟨_,k1⟩|⟨e1,rfl⟩<;>rcases key j b h2 with⟨_,k2⟩|⟨e2,rfl⟩
  ·exact hM.Co i j a b g k1 k2 h3 h4
  ·injection h4 with h4;exact absurd h4.symm (hob g ⟨a,aD k1,h3⟩)
  ·injection h3 with h3;exact absurd h3.symm (hob g ⟨b,aD k2,h4⟩)
  ·rw[e1,e2]
 ·rcases Ob.append.1 hg with h|h
  ·exact(hM.new g h).mono fun p hp=>aB _ hp
  ·injection h with h;have h:gx=g:=h;subst h;exact .inr ⟨hBx,_,_,aH,aE _,bo _⟩
end
def Cp(w:World)(S:Nat->Prop)(v:Value)(l:List Int):Prop:=jH w S 1 v (l.map fun z=>.int .i64 z) l.length
abbrev HQ:=e8 Cp
theorem Cp.cB(h:Cp w S v l)(hk:∀g,S g->w2.heap[g]? =w.heap[g]?):Cp w2 S v l:=jH.cB h hk
theorem Cp.cC(h:Cp w S v l)(hk:∀g,S g->S' g):Cp w S' v l:=jH.cC h hk
theorem HQ.cB{M:List (List Int)}(h:HQ w S v M)(hk:∀g,S g->w2.heap[g]? =w.heap[g]?):HQ w2 S v M:=by
 obtain⟨rv,h1,h2,h3⟩:=h;exact⟨rv,h1.cB hk,h2,fun i u x k1 k2=>(h3 i u x k1 k2).cB hk⟩
theorem HQ.cC{M:List (List Int)}(h:HQ w S v M)(hk:∀g,S g->S' g):HQ w S' v M:=by
 obtain⟨rv,h1,h2,h3⟩:=h;exact⟨rv,h1.cC hk,h2,fun i u x k1 k2=>(h3 i u x k1 k2).cC hk⟩
theorem Cp.at{m c:Nat}(h:Cp w S (.slice a m c) l)(hj:l[j]? =some z):∃ad,a=some ad∧S ad.block∧w.cell? (ad.add (j*1))=some (.int .i64 z):=by
 obtain⟨h0,h1,h2,a',c',e,h3,h4⟩:=h;injection e with e1 e2 e3;subst e1;obtain⟨ad,k1,k2,k3⟩:=h4 j (.int .i64 z) (by rw[aM,hj];rfl);exact⟨ad,k1,k2,by rw[aV];exact k3⟩
theorem Cp.shape(h:Cp w S v l):∃a c,v= .slice a l.length c∧l.length<=c∧l.length<=maxLen:=by
 obtain⟨h0,h1,h2,a,c,e,h3,h4⟩:=h;exact⟨a,c,e,h3,h0⟩
structure ud(f:ei):Prop where
 co:∀p∈f.nodes,(-1000000<=p.1∧p.1<=1000000)∧(-1000000<=p.2.1∧p.2.1<=1000000)∧(-1000000<=p.2.2∧p.2.2<=1000000)
 Jw:∀b∈f.bars,(0<=b.1∧b.1<f.nodes.length)∧(0<=b.2.1∧b.2.1<f.nodes.length)
 sup:∀s∈f.cS,(0<=s.1∧s.1<f.nodes.length)∧(0<=s.2.1∧s.2.1<=2)
 n:f.nodes.length<=20
 b:f.bars.length<=60
 s:f.cS.length<=60
theorem ud.node(h:ud f){i:Int}(h0:0<=i)(h1:i<f.nodes.length):∃k:Nat,∃p,i=k∧k<f.nodes.length∧f.nodes[k]? =some p∧f.node i=p∧(-1000000<=p.1∧p.1<=1000000)∧(-1000000<=p.2.1∧p.2.1<=1000000)∧(-1000000<=p.2.2∧p.2.2<=1000000):=by
 obtain⟨k,rfl⟩:=Int.eq_ofNat_of_zero_le h0;have hk:k<f.nodes.length:=by omega
 refine⟨k,f.nodes[k],rfl,hk,aA hk,?_,h.co _ (aX hk)⟩;rw[ei.node,aJ,List.getD,aA hk];rfl
theorem yz{vn vb vs:Value}{a b:Int}{b3 b6:Bool}{a4 a7:Option Addr}{n4 c4 n7 c7:Nat}(hS:Old S w)(hn:l0 w S vn f.nodes)(hok:ud f)(hA:0<=a∧a<f.nodes.length)(hB:0<=b∧b<f.nodes.length):
  di PG N.kV #[.agg #[vn,vb,vs],.agg #[.int .i64 a,.int .i64 b,.bool b3,.slice a4 n4 c4,.bool b6,.slice a7 n7 c7]] w (dw w fun v' _=>v'= .agg #[.int .i64 ((f.node b).1-(f.node a).1),.int .i64 ((f.node b).2.1-(f.node a).2.1),.int .i64 ((f.node b).2.2-(f.node a).2.2)]):=by
 have hw:cR w.heap.size w w:=cR.refl;obtain⟨an,cn,rfl,hcn,hmn⟩:=hn.shape;unfold maxLen at hmn;obtain⟨ka,pa,ea,hka,hpa,hna,⟨_,_⟩,⟨_,_⟩,⟨_,_⟩⟩:=hok.node hA.1 hA.2;obtain⟨kb,pb,eb,hkb,hpb,hnb,⟨_,_⟩,⟨_,_⟩,⟨_,_⟩⟩:=hok.node hB.1 hB.2;obtain⟨ada,csa,haa,hPa,-,hla⟩:=hn.load (by decide) hpa;obtain⟨adb,csb,hab,hPb,-,hlb⟩:=hn.load (by decide) hpb;have hPa:csa=[.int .i64 pa.1,.int .i64 pa.2.1,.int .i64 pa.2.2]:=hPa;have hPb:csb=[.int .i64 pb.1,.int .i64 pb.2.1,.int .i64 pb.2.2]:=hPb;subst hPa hPb;rw[hna,hnb];subst ea eb;refine nR (by simp) ?_;refine im hτ dc (.x 0 (.x 2 (.x 6 (.x 8 (.ld 1 49200 (.ld 3 49200 (.x 4 (.ld 5 49152 (.ld 7 35840 (.ld 9 35840 (.x 10 (.ld 11 32768 (.two 12 (.x 13 (.x 14 (.x 15 .nil))) 13 (.x 12 (.x 14 (.x 15 .nil)))))))))))))))) (by kernel_rfl) (by kernel_rfl) ?_;refine⟨ada,haa,by omega,[.int .i64 pa.1,.int .i64 pa.2.1,.int .i64 pa.2.2],rfl,rdO hla hw hS,adb,hab,by omega,[.int .i64 pb.1,.int .i64 pb.2.1,.int .i64 pb.2.2],rfl,rdO hlb hw hS,?_,?_⟩
 ·refine⟨[.int .i64 pb.1,.int .i64 pb.2.1,.int .i64 pb.2.2],rfl,rdO hlb hw hS,rfl,rfl,rfl,[.int .i64 pa.1,.int .i64 pa.2.1,.int .i64 pa.2.2],rfl,rdO hla hw hS,rfl,rfl,rfl,[.int .i64 pb.1,.int .i64 pb.2.1,.int .i64 pb.2.2],rfl,rdO hlb hw hS,rfl,rfl,rfl,[.int .i64 pa.1,.int .i64 pa.2.1,.int .i64 pa.2.2],rfl,rdO hla hw hS,rfl,rfl,rfl,[.int .i64 pb.1,.int .i64 pb.2.1,.int .i64 pb.2.2],rfl,rdO hlb hw hS,rfl,rfl,rfl,pb.1-pa.1,wo,pb.2.1-pa.2.1,wo,pb.2.2-pa.2.2,wo,?_⟩;intro ρe we re;exact⟨_,rfl,hw.tr re.cI,rfl⟩
 ·refine⟨[.int .i64 pb.1,.int .i64 pb.2.1,.int .i64 pb.2.2],rfl,rdO hlb hw hS,rfl,rfl,rfl,[.int .i64 pa.1,.int .i64 pa.2.1,.int .i64 pa.2.2],rfl,rdO hla hw hS,rfl,rfl,rfl,[.int .i64 pb.1,.int .i64 pb.2.1,.int .i64 pb.2.2],rfl,rdO hlb hw hS,rfl,rfl,rfl,[.int .i64 pa.1,.int .i64 pa.2.1,.int .i64 pa.2.2],rfl,rdO hla hw hS,rfl,rfl,rfl,[.int .i64 pb.1,.int .i64 pb.2.1,.int .i64 pb.2.2],rfl,rdO hlb hw hS,rfl,rfl,rfl,pb.1-pa.1,wo,pb.2.1-pa.2.1,wo,pb.2.2-pa.2.2,wo,?_⟩;intro ρe we re;exact⟨_,rfl,hw.tr re.cI,rfl⟩
theorem HR{α:Type}{rv:List α}{a b:α}{i m:Nat}(hl:rv.length=i)(h:i<m):(rv++List.replicate (m-i) b).take i++[a]++(rv++List.replicate (m-i) b).drop (i+1)=(rv++[a])++List.replicate (m-(i+1)) b:=by
 rw[List.take_left' hl,List.drop_append,hl,List.drop_of_length_le (by omega),List.nil_append,List.drop_replicate];congr 2;omega
end Go.Ex
namespace Go.Sx
open Go Go.Ex Go.Proofs
variable{cs:List Value}{O:Nat->Sx.dS}
theorem Rel.I5{H:Hp}{nx:Nat}{iv:Iv}{B:Nat}{w w':World}(r:Rel H nx iv B w O w'){id t m sz:Nat}(h:cX H id=some (.arr t cs))(hm:cs.length=m*sz)(hm1:m<=maxLen)(h1:∀u∈cs,u.oneCell'=true):
  jH w' (fun g=>B<=g∧g<w'.heap.size) sz (.slice (some ⟨(O id).g,0,none⟩) m m) cs m:=by
 have hl:=r.low id _ h (r.fits h).1;refine⟨hm1,hm,h1,_,m,rfl,aE _,fun j u hu=>⟨_,rfl,hl,?_⟩⟩;rw[dH,cell_of (r.arr id _ _ h),aS];exact hu
end Go.Sx
namespace Go.Ex
open Go Go.Sx Go.Proofs
variable{d:Int}{b s:Int×Int×Rat}{M:List (List Int)}{l:List Int}{r:Nat}{S:Nat->Prop}{f:ei}
theorem zx{c:Nat}:(xG M r c d).length=M.length:=bB ..
theorem Fb{c:Nat}:(putAt M r c d).length=M.length:=bB ..
def I6(M:List (List Int))(t:Int):Prop:=∀l∈M,∀z∈l,-t<=z∧z<=t
theorem I6.set{t t2:Int}{c:Nat}{z:Int}(h:I6 M t)(ht:t<=t2)(hl:M[r]? =some l)(hz: -t2<=z∧z<=t2):I6 (M.set r (l.set c z)) t2:=fun x hx y hy=>by
 rcases bS hx with hx|rfl
 ·have:=h x hx y hy;omega
 ·rcases bS hy with hy|rfl
  ·have:=h l (aD hl) y hy;omega
  ·exact hz
theorem C6(f:ei):∀i,(eM f i).length=3*f.nodes.length
 |0=>bE ..
 |i+1=>by
  have h:=C6 f i;have key:∀k,(fH f (eM f i) i k).length=3*f.nodes.length:=fun k=>by
   induction k with
   |zero=>exact h
   |succ k ih=>rw[fH,zx,zx];exact ih
  exact key 3
theorem sR(f:ei):∀i,(ed f i).length=3*f.nodes.length
 |0=>C6 f _
 |i+1=>by rw[ed,Fb];exact sR f i
theorem HS{i k ka kb:Nat}{za zb:Int}{la lb:List Int}(hb:f.bars[i]? =some b)(ea:b.1=ka)(eb:b.2.1=kb)(hd:(xF f b).getD k 0=d)
  (hla:(fH f M i k)[3*ka+k]? =some la) (hza:la[i]? =some za) (hlb:((fH f M i k).set (3*ka+k) (la.set i (za+d)))[3*kb+k]? =some lb) (hzb:lb[i]? =some zb):
  ((fH f M i k).set (3*ka+k) (la.set i (za+d))).set (3*kb+k) (lb.set i (zb-d))=fH f M i (k+1):=by
 have h1:f.bars.getD i (0,0,0)=b:=by rw[List.getD,hb];rfl
 have e1:(3*b.1+(k:Int)).toNat=3*ka+k:=by rw[ea];omega
 have e2:(3*b.2.1+(k:Int)).toNat=3*kb+k:=by rw[eb];omega
 have ha:xG (fH f M i k) (3*ka+k) i d=(fH f M i k).set (3*ka+k) (la.set i (za+d)):=by
  rw[xG,show(fH f M i k).getD (3*ka+k) []=la by rw[List.getD,hla];rfl,show la.getD i 0=za by rw[List.getD,hza];rfl]
 rw[fH];simp only[h1,hd,e1,e2,ha]
 rw[xG,show((fH f M i k).set (3*ka+k) (la.set i (za+d))).getD (3*kb+k) []=lb by rw[List.getD,hlb];rfl,show lb.getD i 0=zb by rw[List.getD,hzb];rfl,Int.sub_eq_add_neg]
theorem HT{i ks:Nat}(hs:f.cS[i]? =some s)(es:3*s.1+s.2.1=ks)(hl:(ed f i)[ks]? =some l):(ed f i).set ks (l.set (f.bars.length+i) 1)=ed f (i+1):=by
 rw[ed,putAt];simp only[show f.cS.getD i (0,0,0)=s by rw[List.getD,hs];rfl,es,aJ,show(ed f i).getD ks []=l by rw[List.getD,hl];rfl]
set_option maxHeartbeats 2000000 in
theorem Fe{w:World}{vn vb vs:Value}(hS:Old S w)(hf:dU w S vn vb vs f)(hok:ud f):
  di PG N.oO #[.agg #[vn,vb,vs]] w (dw w fun v' w2=>HQ w2 (Nf w w2) v' (iV f)∧I6 (iV f) 800000000∧(∀l∈iV f,l.length=f.cols)∧(iV f).length=3*f.nodes.length):=by
 have hw:cR w.heap.size w w:=cR.refl;obtain⟨an,cn,ab,cb,aq,cq,rfl,rfl,rfl,hmn,hmb,hms⟩:=hf.shape;obtain⟨hn20,hb60,hs60⟩:=And.intro hok.n (And.intro hok.b hok.s);refine sI (by simp) ?_;refine⟨((3*f.nodes.length:Nat):Int),wo,?_⟩;obtain⟨m,hm⟩:∃m,3*f.nodes.length=m:=⟨_,rfl⟩
 rw[hm]
 refine⟨m,m,rfl,rfl,aE _,by omega,by omega,Nat×List Value×World×Iv,fun z=>⟨[(1,.o (.p 0 0)),(3,.o (.s 1 0 m m)),(17,.o (.v (.int .i64 m))),(18,.o (.v (.int .i64 ((z.1:Nat):Int))))],[(1,.arr T.Lint (z.2.1++List.replicate (m-z.1) (.slice none 0 0))),(0,.box T.Frame [.v (.slice an f.nodes.length cn),.v (.slice ab f.bars.length cb),.v (.slice aq f.cS.length cq)])],2,z.2.2.2,z.2.2.1⟩,fun z=>m-z.1,
  fun z=>z.1<=m∧z.2.1.length=z.1∧cR w.heap.size w z.2.2.1∧iO z.2.2.1 w.heap.size z.2.2.2 z.2.1 f.cols (List.replicate z.1 (List.replicate f.cols 0)),?_,?_⟩
 ·intro O w' r3;exact⟨(0,[],w',[]),⟨aP _,rfl,hw.tr r3.cI,iO.nil⟩,Sub.gn [] r3⟩
 rintro⟨i,rv,w1,iv⟩ ⟨hi,hrl,hw,hE⟩;dsimp only at hi hrl hw hE ⊢;refine dF.mk (fun hib=>?_) (fun hib=>?_)
 ·have hib:i<m:=by simpa using hib
  refine⟨((f.cols:Nat):Int),by rw[wrap64]<;>first|rfl|omega,f.cols,f.cols,rfl,rfl,aE _,by unfold ei.cols;omega,by unfold ei.cols;omega,by omega,?_⟩;refine FH hτ (id:=1) (id2:=2) (tH:=[(1,.arr T.Lint (rv++List.replicate (m-i) (.slice none 0 0))),(0,.box T.Frame [.v (.slice an f.nodes.length cn),.v (.slice ab f.bars.length cb),.v (.slice aq f.cS.length cq)])]) rfl rfl (by decide) rfl ⟨rfl,rfl,trivial⟩ rfl (fun O w' r=>?_);have hn:=(r.fits (id:=2) rfl).1;have hrow:w'.ownsRow 0 T.int 1 (.slice (some ⟨(O 2).g,0,none⟩) f.cols f.cols) f.cols ((List.replicate f.cols (0:Int)).map fun z=>.int .i64 z):=
   ⟨by simp,.inr ⟨(O 2).g,f.cols,(List.replicate f.cols (Value.int .i64 0)).toArray,rfl,aP _,r.arr 2 _ _ rfl,aE _,by unfold ei.cols maxLen;omega,by simp,by simp⟩⟩
  have hE2:=(hE.rel r).push (gx:=(O 2).g) (l:=List.replicate f.cols 0) (fun g hg e=>Rel.not r (gb _) hg 2 _ rfl hn e.symm) (r.low 2 _ rfl hn).1 (by simp) hrow;rw[<-List.replicate_succ']at hE2;have hw2:=hw.tr r.cI;generalize (O 2).g=gx at*
  generalize (gx,gx+1)::iv=iv2 at*
  refine⟨by simp[hrl];omega,(rv++[.slice (some ⟨gx,0,none⟩) f.cols f.cols])++List.replicate (m-(i+1)) (.slice none 0 0),?_,?_⟩
  ·rw[aJ,aV,aS];exact HR hrl hib
  refine⟨((i+1:Nat):Int),wo,?_⟩;intro ρ3 w3 r3;exact⟨(i+1,rv++[.slice (some ⟨gx,0,none⟩) f.cols f.cols],w3,_),⟨hib,by simp[hrl],hw2.tr r3.cI,hE2.rel r3⟩,Sub.gn [] r3,by dsimp only;omega⟩
 have hib:i=m:=aQ hi (by simpa using hib);subst hib;have hE0:iO w1 w.heap.size iv rv f.cols (eM f 0):=by rw[eM,hm];exact hE
 have hbd0:I6 (eM f 0) 0:=fun l hl z hz=>by
  rw[eM]at hl;rw[bV hl]at hz;rw[bV hz];exact⟨Int.le_refl _,Int.le_refl _⟩
 refine⟨Nat×World×Iv,fun z=>⟨[(1,.o (.p 0 0)),(3,.o (.s 1 0 i i)),(34,.o (.v (.slice ab f.bars.length cb))),(35,.o (.v (.int .i64 f.bars.length))),(36,.o (.v (.int .i64 ((z.1:Nat):Int))))],[(1,.arr T.Lint rv),(0,.box T.Frame [.v (.slice an f.nodes.length cn),.v (.slice ab f.bars.length cb),.v (.slice aq f.cS.length cq)])],2,z.2.2,z.2.1⟩,fun z=>f.bars.length-z.1,
  fun z=>z.1<=f.bars.length∧cR w.heap.size w z.2.1∧iO z.2.1 w.heap.size z.2.2 rv f.cols (eM f z.1)∧I6 (eM f z.1) (12000000*z.1),?_,?_⟩
 ·intro O w' r3;exact⟨(0,w',_),⟨aP _,hw.tr r3.cI,hE0.rel r3,hbd0⟩,Sub.gn [] r3 ⟨by simp;rfl,rfl,trivial⟩⟩
 rintro⟨j,w2,iv⟩ ⟨hj,hw,hE,hbd⟩;dsimp only at hj hw hE hbd ⊢;refine dF.mk (fun hjb=>?_) (fun hjb=>?_)
 ·have hjb:j<f.bars.length:=by simpa using hjb
  obtain⟨b,hb⟩:∃b,f.bars[j]? =some b:=⟨_,aA hjb⟩
  obtain⟨hA,hB⟩:=hok.Jw b (aD hb);obtain⟨ka,pa,ea,hka,-,hna,⟨_,_⟩,⟨_,_⟩,⟨_,_⟩⟩:=hok.node hA.1 hA.2;obtain⟨kb,pb,eb,hkb,-,hnb,⟨_,_⟩,⟨_,_⟩,⟨_,_⟩⟩:=hok.node hB.1 hB.2;obtain⟨adb,cs,hab,hF,-,hlb⟩:=hf.bars.load (by decide) hb;obtain⟨g0,g1,g2,g3,g4,g5,g6,g7,rfl,hF⟩:=hF;refine⟨adb,hab,by omega,[.int .i64 b.1,.int .i64 b.2.1,.bool g0,.slice g1 g2 g3,.bool g4,.slice g5 g6 g7],rfl,rdO hlb hw hS,?_⟩;refine bw (cG (Φ:=fun _ w' v w2=>v= .agg #[.int .i64 ((f.node b.2.1).1-(f.node b.1).1),.int .i64 ((f.node b.2.1).2.1-(f.node b.1).2.1),.int .i64 ((f.node b.2.1).2.2-(f.node b.1).2.2)]) (fun O w' r=>yz (S:=S) (oS hS r) (hf.cB (kS hw r hS)).nodes hok hA hB) ?_);rintro O wa1 v1 wb1 r he hb1 rfl;replace hw:=hw.tr hb1;replace hE:=hE.bz (iv':=(wa1.heap.size,wb1.heap.size)::iv) r he fun x hx=>aB _ hx;generalize (wa1.heap.size,wb1.heap.size)::iv=iv1 at*
  rw[hna,hnb];have hbD:xF f b=[pb.1-pa.1,pb.2.1-pa.2.1,pb.2.2-pa.2.2]:=by rw[xF,hna,hnb]
  refine⟨Nat×World×Iv,fun z=>⟨[(1,.o (.p 0 0)),(3,.o (.s 1 0 i i)),(5,.o (.v (.int .i64 ((j:Nat):Int)))),(6,.o (.p 2 0)),(43,.o (.v (.agg #[.int .i64 (pb.1-pa.1),.int .i64 (pb.2.1-pa.2.1),.int .i64 (pb.2.2-pa.2.2)]))),(34,.o (.v (.slice ab f.bars.length cb))),(35,.o (.v (.int .i64 f.bars.length))),(36,.o (.v (.int .i64 ((j:Nat):Int)))),(44,.o (.v (.int .i64 ((z.1:Nat):Int))))],[(2,.box T.K4 [.v (.int .i64 b.1),.v (.int .i64 b.2.1),.v (.bool g0),.v (.slice g1 g2 g3),.v (.bool g4),.v (.slice g5 g6 g7)]),(1,.arr T.Lint rv),(0,.box T.Frame [.v (.slice an f.nodes.length cn),.v (.slice ab f.bars.length cb),.v (.slice aq f.cS.length cq)])],3,z.2.2,z.2.1⟩,fun z=>3-z.1,
   fun z=>z.1<=3∧cR w.heap.size w z.2.1∧iO z.2.1 w.heap.size z.2.2 rv f.cols (fH f (eM f j) j z.1)∧I6 (fH f (eM f j) j z.1) (12000000*j+4000000*z.1),?_,?_⟩
  ·intro O w' r3;exact⟨(0,w',_),⟨aP _,hw.tr r3.cI,hE.rel r3,hbd⟩,Sub.gn [] r3⟩
  rintro⟨k,w3,iv⟩ ⟨hk,hw,hE,hbd⟩;dsimp only at hk hw hE hbd ⊢;refine dF.mk (fun hkb=>?_) (fun hkb=>?_)
  ·have hkb:k<3:=by have:=aG hkb;omega
   obtain⟨d,hd⟩:∃d,(xF f b).getD k 0=d:=⟨_,rfl⟩
   have hdb: -2000000<=d∧d<=2000000:=by
    rw[<-hd,hbD];rcases(show k=0∨k=1∨k=2 by omega)with rfl|rfl|rfl<;>simp[List.getD]<;>omega
   have hMl:(fH f (eM f j) j k).length=3*f.nodes.length:=by rw[<-hE.len];have:=hE.len;omega
   have hcols:f.cols=f.bars.length+f.cS.length:=rfl;refine yM hτ rfl rfl rfl (fun _=>rfl) rfl ⟨by omega,by omega⟩ (u:=.int .i64 d) ?_ (fun O w4 r=>?_)
   ·rw[<-hd,hbD,aJ];rcases(show k=0∨k=1∨k=2 by omega)with rfl|rfl|rfl<;>rfl
   replace hw:=hw.tr r.cI;replace hE:=hE.rel r;obtain⟨la,hla⟩:∃l,(fH f (eM f j) j k)[3*ka+k]? =some l:=⟨_,aA (by first|omega|(rw [bB];omega))⟩
   have hlaw:=hE.wid la (aD hla);obtain⟨za,hza⟩:∃z,la[j]? =some z:=⟨_,aA (by omega)⟩
   have hzab:=hbd la (aD hla) za (aD hza);obtain⟨va,hva⟩:∃v,rv[3*ka+k]? =some v:=⟨_,aA (by have:=(aC.1 hla).1;rw[hE.len];exact this)⟩
   obtain⟨aa5,ca5,rfl⟩:=hE.form hva;obtain⟨ada5,haa5,hxa1,hxa2⟩:=hE.load hva hla hza;refine⟨((3*ka:Nat):Int),by rw[ea,wrap64]<;>omega,((3*ka+k:Nat):Int),wo,by omega,.slice aa5 f.cols ca5,by rw[aJ,aV,aS];exact hva,ada5,haa5,by omega,.int .i64 za,fun O w' r=>?_,?_⟩
   ·rw[aJ,cJ (w:=w4) (w2:=w') (by rw[eA];exact Rel.same r (gb _) hxa1)];exact hxa2
   refine⟨za+d,wo,ada5,haa5,by omega,?_⟩;intro O w' r;obtain⟨g,hg,h1,h2,h3,h4⟩:=hE.store r (z:=za+d) hva hla (show j<f.cols by omega);rw[haa5]at hg;injection hg with hg;subst hg;refine⟨h1,h2,h3,fun w5 hw5=>?_⟩;obtain⟨k1,k2,k3,-,-⟩:=h4 w5 hw5;replace hw:=(hw.tr r.cI).tr k2;replace hbd:=hbd.set (r:=3*ka+k) (c:=j) (z:=za+d) (t2:=12000000*j+4000000*k+2000000) (by omega) hla (by omega);replace hE:=k1;obtain⟨lb,hlb⟩:∃l,((fH f (eM f j) j k).set (3*ka+k) (la.set j (za+d)))[3*kb+k]? =some l:=⟨_,aA (by first|omega|(rw [bB];omega))⟩
   have hlbw:=hE.wid lb (aD hlb);obtain⟨zb,hzb⟩:∃z,lb[j]? =some z:=⟨_,aA (by omega)⟩
   have hzbb:=hbd lb (aD hlb) zb (aD hzb);obtain⟨vb,hvb⟩:∃v,rv[3*kb+k]? =some v:=⟨_,aA (by have:=(aC.1 hlb).1;rw[hE.len];exact this)⟩
   obtain⟨ab5,cb5,rfl⟩:=hE.form hvb;obtain⟨adb5,hab5,hxb1,hxb2⟩:=hE.load hvb hlb hzb;refine⟨((3*kb:Nat):Int),by rw[eb,wrap64]<;>omega,((3*kb+k:Nat):Int),wo,by omega,.slice ab5 f.cols cb5,by rw[aJ,aV,aS];exact hvb,adb5,hab5,by omega,.int .i64 zb,fun O w' r=>?_,?_⟩
   ·rw[aJ,cJ (w:=w5) (w2:=w') (by rw[eA];exact Rel.same r (gb _) hxb1)];exact hxb2
   refine⟨zb-d,wo,adb5,hab5,by omega,?_⟩;intro O w' r;obtain⟨g,hg,h1,h2,h3,h4⟩:=hE.store r (z:=zb-d) hvb hlb (show j<f.cols by omega);rw[hab5]at hg;injection hg with hg;subst hg;refine⟨h1,h2,h3,fun w5 hw5=>?_⟩;obtain⟨k1,k2,k3,-,-⟩:=h4 w5 hw5;replace hw:=(hw.tr r.cI).tr k2;replace hbd:=hbd.set (r:=3*kb+k) (c:=j) (z:=zb-d) (t2:=12000000*j+4000000*(k+1:Nat)) (by omega) hlb (by omega);replace hE:=k1;rw[HS hb ea eb hd hla hza hlb hzb]at hE hbd;refine⟨((k+1:Nat):Int),wo,?_⟩;intro ρ3 w6 r3;exact⟨(k+1,w6,_),⟨hkb,hw.tr r3.cI,hE.rel r3,hbd⟩,Sub.gn [] r3,by dsimp only;omega⟩
  have hkb:k=3:=by have:=aF hkb;omega
  subst hkb;refine⟨((j+1:Nat):Int),wo,?_⟩;intro ρ3 w6 r3;exact⟨(j+1,w6,_),⟨hjb,hw.tr r3.cI,hE.rel r3,fun l hl z hz=>by have:=hbd l hl z hz;dsimp only;omega⟩,Sub.gn [] r3,by dsimp only;omega⟩
 have hjb:j=f.bars.length:=aQ hj (by simpa using hjb);subst hjb
 refine⟨Nat×World×Iv,fun z=>⟨[(1,.o (.p 0 0)),(3,.o (.s 1 0 i i)),(79,.o (.v (.slice aq f.cS.length cq))),(80,.o (.v (.int .i64 f.cS.length))),(81,.o (.v (.int .i64 ((z.1:Nat):Int))))],[(1,.arr T.Lint rv),(0,.box T.Frame [.v (.slice an f.nodes.length cn),.v (.slice ab f.bars.length cb),.v (.slice aq f.cS.length cq)])],2,z.2.2,z.2.1⟩,fun z=>f.cS.length-z.1,
  fun z=>z.1<=f.cS.length∧cR w.heap.size w z.2.1∧iO z.2.1 w.heap.size z.2.2 rv f.cols (ed f z.1)∧I6 (ed f z.1) 800000000,?_,?_⟩
 ·intro O w' r3;exact⟨(0,w',_),⟨aP _,hw.tr r3.cI,hE.rel r3,fun l hl z hz=>by have:=hbd l hl z hz;omega⟩,Sub.gn [] r3⟩
 rintro⟨j,w2,iv⟩ ⟨hj,hw,hE,hbd⟩;dsimp only at hj hw hE hbd ⊢;refine dF.mk (fun hjb=>?_) (fun hjb=>?_)
 ·have hjb:j<f.cS.length:=by simpa using hjb
  obtain⟨s,hs⟩:∃b,f.cS[j]? =some b:=⟨_,aA hjb⟩
  obtain⟨hA,hB⟩:=hok.sup s (aD hs);obtain⟨ks,hks⟩:=Int.eq_ofNat_of_zero_le (show 0<=3*s.1+s.2.1 by omega);have hcols:f.cols=f.bars.length+f.cS.length:=rfl;have hMl:=sR f j;obtain⟨l,hl⟩:∃l,(ed f j)[ks]? =some l:=⟨_,aA (by omega)⟩
  have hlw:=hE.wid l (aD hl);obtain⟨v,hv⟩:∃v,rv[ks]? =some v:=⟨_,aA (by rw[hE.len];omega)⟩
  obtain⟨a5,c5,rfl⟩:=hE.form hv;obtain⟨z0,hz0⟩:∃z,l[f.bars.length+j]? =some z:=⟨_,aA (by omega)⟩
  obtain⟨ad5,ha5,-,-⟩:=hE.load hv hl hz0;obtain⟨adb,cs,hab,hF,-,hlb⟩:=hf.cS.load (by decide) hs;obtain⟨g0,g1,g2,g3,g4,g5,g6,g7,rfl,hF⟩:=hF;refine⟨adb,hab,by omega,[.int .i64 s.1,.int .i64 s.2.1,.bool g0,.slice g1 g2 g3,.bool g4,.slice g5 g6 g7],rfl,rdO hlb hw hS,?_⟩;refine cF hτ dc [.x 0,.x 1,.x 2,.x 3,.x 4,.x 5,.x 6,.x 7,.x 8,.x 9,.x 10,.x 11,.x 12,.x 13,.x 14,.x 15] (by kernel_rfl) (by kernel_rfl) ?_;refine⟨3*s.1,wo,((ks:Nat):Int),wo,by omega,.slice a5 f.cols c5,by rw[aJ,aV,aS];exact hv,((f.bars.length+j:Nat):Int),wo,ad5,ha5,by omega,?_⟩;intro O w' r;obtain⟨g,hg,h1,h2,h3,h4⟩:=hE.store r (z:=1) hv hl (show f.bars.length+j<f.cols by omega);rw[ha5]at hg;injection hg with hg;subst hg;refine⟨h1,h2,h3,fun w5 hw5=>?_⟩;obtain⟨k1,k2,k3,-,-⟩:=h4 w5 hw5;replace hw:=(hw.tr r.cI).tr k2;have hbd2:=hbd.set (r:=ks) (c:=f.bars.length+j) (z:=1) (t2:=800000000) (by omega) hl (by omega);rw[HT hs hks hl]at k1 hbd2;refine⟨((j+1:Nat):Int),wo,?_⟩;intro ρ3 w6 r3;exact⟨(j+1,w6,_),⟨hjb,hw.tr r3.cI,k1.rel r3,hbd2⟩,Sub.gn [] r3,by dsimp only;omega⟩
 have hjb:j=f.cS.length:=aQ hj (by simpa using hjb);subst hjb;intro ρe we re;have hE2:=hE.rel re;have hMl:=sR f f.cS.length;have hrl2:=hE.len;refine⟨_,rfl,hw.tr re.cI,⟨rv,?_,hE.len,fun i u x k1 k2=>?_⟩,hbd,hE.wid,by rw[<-hm];exact hMl⟩
 ·rw[show (iV f).length=rv.length from hE.len.symm];have h5:=re.I5 (id:=1) (sz:=1) (m:=rv.length) rfl (by simp) (by unfold maxLen;omega) hE.one;rw[show (i:Nat)=rv.length by omega];exact h5.cC fun g hg=>.inr hg
 ·obtain⟨a,c,rfl⟩:=hE.form k1;have hxl:=hE.wid x (aD k2);refine⟨by rw[hxl];unfold ei.cols maxLen;omega,by simp,fun v hv=>by obtain⟨z,_,rfl⟩:=aR.1 hv;rfl,a,c,by rw[hxl],?_,fun t v hv=>?_⟩
  ·rw[hxl];obtain⟨a2,c2,e,h⟩:=j7 (hE.row i _ x k1 k2);injection e with e1 e2 e3;omega
  ·rw[aM]at hv
   cases ht:x[t]? with
   |none=>rw[ht]at hv;cases hv
   |some z=>
    rw[ht]at hv;simp only[Option.map_some,Option.some.injEq]at hv;subst hv;obtain⟨ad,h1,h2,h3⟩:=hE2.load k1 k2 ht;exact⟨ad,h1,Cv.nw h2 re,by rw[aV]at h3;exact h3⟩
end Go.Ex
namespace Go.Ex
open Go Go.Sx Go.Proofs
variable{z:Int}{p:Int×Int×Int}{b:Int×Int×Rat}{x:Ld}{seen:List (Int×Int×Rat)}{css:List (List Value)}{s:List Int}{l:List Ld}{qs:List Rat}{cs:List Value}{j:Nat}{S:Nat->Prop}{an:Option Addr}{vb vl vs:Value}{w:World}{f:ei}
theorem C8(f:ei):(cK f).length=3*f.nodes.length:=by rw[cK,aL];exact sR f _
theorem tn(h1: -2000000000<=z)(h2:z<=2000000000):rl (z:Rat)<=1:=by
 have e1:((z:Rat)).num=z:=rfl;have e2:((z:Rat)).den=1:=rfl;rw[rl,e1,e2];have a1:ln z.natAbs<=1:=fb.2 (by rw[sw];omega);have a2:ln 1<=1:=by decide
 omega
set_option maxHeartbeats 1000000 in
theorem qj{vn:Value}(hS:Old S w)(hf:dU w S vn vb vs f)(hok:ud f):
  di PG N.nK #[.agg #[vn,vb,vs]] w (dw w fun v' w2=>(∃vr,v'= .agg #[vr,.int .i64 f.cols]∧cO w2 (Nf w w2) vr (cK f))∧fZ f.cols (cK f)∧Ht (cK f) 2):=by
 have hw:cR w.heap.size w w:=cR.refl;obtain⟨an,cn,ab,cb,aq,cq,rfl,rfl,rfl,hmn,hmb,hms⟩:=hf.shape;obtain⟨hn20,hb60,hs60⟩:=And.intro hok.n (And.intro hok.b hok.s);have hcols:f.cols=f.bars.length+f.cS.length:=rfl;refine qX (by simp) ?_;refine⟨((f.cols:Nat):Int),by rw[wrap64]<;>first|rfl|omega,?_⟩;refine bw (cG (Φ:=fun _ w' v w2=>HQ w2 (Nf w' w2) v (iV f)∧I6 (iV f) 800000000∧(∀l∈iV f,l.length=f.cols)∧(iV f).length=3*f.nodes.length) (fun O w' r=>Fe (S:=S) (oS hS r) (hf.cB (kS hw r hS)) hok) ?_);rintro O wa1 v1 wb1 r he hb1 ⟨k1,hbd,hwid,hml⟩;replace hw:=hw.tr hb1;have hM:=HQ.cC k1 fun g hg=>hg.cd (B:=w.heap.size) (S:=fun _=>False) r.bu (iv:=(wa1.heap.size,wb1.heap.size)::[]) aH;generalize (wa1.heap.size,wb1.heap.size)::[]=iv1 at*
 obtain⟨am,cm,rfl,hcm,hmm⟩:=e8.shape hM;unfold maxLen at hmm
 refine⟨Nat×List Value×World×Iv,fun z=>⟨[(20,.o (.v (.int .i64 ((z.1:Nat):Int)))),(2,.o (.p 1 0)),(3,.o (.p 2 0)),(18,.o (.v (.slice am (iV f).length cm))),(19,.o (.v (.int .i64 (iV f).length)))],[(2,.box T.dM [.w 3 z.2.1.length,.v (.int .i64 ((f.cols:Nat):Int))]),(3,.vec T.iw 1 z.2.1),(1,.box T.dM [.v (.slice none 0 0),.v (.int .i64 0)])],4,z.2.2.2,z.2.2.1⟩,fun z=>(iV f).length-z.1,
  fun z=>z.1<=(iV f).length∧cR w.heap.size w z.2.2.1∧HQ z.2.2.1 (Cf w z.2.2.2) (.slice am (iV f).length cm) (iV f)∧dT z.2.2.1 (Cf w z.2.2.2) z.2.1 ((cK f).take z.1),?_,?_⟩
 ·intro O w' r;exact⟨(0,[],w',_),⟨aP _,hw.tr r.cI,hM.cB fun g hg=>Rel.same r (bs w) hg,by simp[dT]⟩,Sub.yw 2 0 T.iw 1 rfl rfl (by simp[kl,SV.sc,At.sc,gP]) r fun ρ1 r1=>Sub.gn [] r1⟩
 rintro⟨k,rv,w1,iv⟩ ⟨hk,hw,hM,hK⟩;dsimp only at hk hw hM hK ⊢;have hrl:rv.length=k:=by rw[hK.1,aW,cK,aL];omega
 refine dF.mk (fun hkb=>?_) (fun hkb=>?_)
 ·have hkb:k<(iV f).length:=by simpa using hkb
  obtain⟨l,hl⟩:∃l,(iV f)[k]? =some l:=⟨_,aA hkb⟩
  have hlw:=hwid l (aD hl);have hnext:(cK f).take (k+1)=(cK f).take k++[dL l]:=by rw[List.take_add_one,show(cK f)[k]? =some (dL l) by rw[cK,aM,hl];rfl];rfl
  obtain⟨adm,um,ham,hLm,km1,km2⟩:=e8.load hM hl;obtain⟨a0,c0,rfl,hc0,-⟩:=Cp.shape hLm;refine⟨adm,ham,by omega,.slice a0 l.length c0,fun O w' r=>?_,?_⟩
  ·rw[aJ,cJ (w:=w1) (w2:=w') (by rw[eA];exact Rel.same r (bs w) km1)];exact km2
  refine⟨l.length,l.length,rfl,rfl,aE _,by omega,by omega,Nat×Nat×World×Iv,fun z=>⟨[(6,.o (.v (.slice (some ⟨z.2.1,0,none⟩) l.length l.length))),(5,.o (.v (.slice a0 l.length c0))),(27,.o (.v (.slice a0 l.length c0))),(28,.o (.v (.int .i64 l.length))),(29,.o (.v (.int .i64 ((z.1:Nat):Int)))),(20,.o (.v (.int .i64 ((k:Nat):Int)))),(2,.o (.p 1 0)),(3,.o (.p 2 0)),(18,.o (.v (.slice am (iV f).length cm))),(19,.o (.v (.int .i64 (iV f).length)))],[(2,.box T.dM [.w 3 rv.length,.v (.int .i64 ((f.cols:Nat):Int))]),(3,.vec T.iw 1 rv),(1,.box T.dM [.v (.slice none 0 0),.v (.int .i64 0)])],5,z.2.2.2,z.2.2.1⟩,fun z=>l.length-z.1,
   fun z=>z.1<=l.length∧cR w.heap.size w z.2.2.1∧HQ z.2.2.1 (Bs (fun _=>False) w.heap.size z.2.2.2 (.slice (some ⟨z.2.1,0,none⟩) l.length l.length)) (.slice am (iV f).length cm) (iV f)∧Cp z.2.2.1 (Bs (fun _=>False) w.heap.size z.2.2.2 (.slice (some ⟨z.2.1,0,none⟩) l.length l.length)) (.slice a0 l.length c0) l∧dT z.2.2.1 (Bs (fun _=>False) w.heap.size z.2.2.2 (.slice (some ⟨z.2.1,0,none⟩) l.length l.length)) rv ((cK f).take k)∧gv z.2.2.1 (fun _=>False) w.heap.size z.2.2.2 (.slice (some ⟨z.2.1,0,none⟩) l.length l.length) l.length z.1 (dL l),?_,?_⟩
  ·intro O w' r;have hf:=gv.qh (S:=fun _=>False) (n:=l.length) r (id:=4) rfl (by unfold maxLen;omega) (dL l);have hbs:∀g,Cf w iv g->Bs (fun _=>False) w.heap.size (((O 4).g,(O 4).g+1)::iv) (.slice (some ⟨(O 4).g,0,none⟩) l.length l.length) g:=fun g hg=>⟨hg.mono fun p hp=>aB _ hp,fun e=>Rel.not r (bs w) hg 4 _ rfl (r.fits (id:=4) rfl).1 (by injection e)⟩
   exact⟨(0,(O 4).g,w',((O 4).g,(O 4).g+1)::iv),⟨aP _,hw.tr r.cI,(hM.cB fun g hg=>Rel.same r (bs w) hg).cC hbs,(hLm.cB fun g hg=>Rel.same r (bs w) hg).cC hbs,dT.cC (hK.rel r (bs w)) hbs,hf⟩,
    Sub.qh r (id:=4) (t:=6) rfl rfl ⟨rfl,rfl,rfl,trivial⟩ rfl ⟨rfl,rfl,rfl,rfl,rfl,rfl,rfl,rfl,rfl,trivial⟩ (by simp[kl,SV.sc,At.sc])⟩
  rintro⟨i,gx,w2,iv⟩ ⟨hi,hw,hM,hLm,hK,hX⟩;dsimp only at hi hw hM hLm hK hX ⊢;refine dF.mk (fun hib=>?_) (fun hib=>?_)
  ·have hib:i<l.length:=by simpa using hib
   obtain⟨z,hz⟩:∃z,l[i]? =some z:=⟨_,aA hib⟩
   have hzb:=hbd l (aD hl) z (aD hz);obtain⟨adz,haz,kz1,kz2⟩:=hLm.at hz;refine⟨adz,haz,by omega,.int .i64 z,fun O w' r=>?_,?_⟩
   ·rw[aJ,cJ (w:=w2) (w2:=w') (by rw[eA];exact Rel.same r (bs w) kz1.1)];exact kz2
   refine bw (cG (Φ:=fun _ w' v w2=>cM w2 (Nf w' w2) v (z:Rat)) (fun O w' r=>j5 z w' (by omega) (by omega)) ?_);rintro O wa3 v3 wb3 r he hb1 hn2;replace hw:=hw.tr hb1;have hbs:∀g,Bs (fun _=>False) w.heap.size iv (.slice (some ⟨gx,0,none⟩) l.length l.length) g->Bs (fun _=>False) w.heap.size ((wa3.heap.size,wb3.heap.size)::iv) (.slice (some ⟨gx,0,none⟩) l.length l.length) g:=fun g hg=>Bs.mono (fun x hx=>aB _ hx) hg;have hbk:∀g,Bs (fun _=>False) w.heap.size iv (.slice (some ⟨gx,0,none⟩) l.length l.length) g->wb3.heap[g]? =w2.heap[g]? :=fun g hg=>(he.block g (Rel.old r (bs w) g hg.1)).trans (Bs.same r (bs w) g hg);replace hM:=(hM.cB hbk).cC hbs;replace hLm:=(hLm.cB hbk).cC hbs;replace hK:=dT.cC (dT.cB hK hbk) hbs;have hd:=hn2.cC (S':=Bs (fun _=>False) w.heap.size ((wa3.heap.size,wb3.heap.size)::iv) (.slice (some ⟨gx,0,none⟩) l.length l.length)) fun g hg=>hg.elim (fun h=>h.elim) fun h=>⟨.inr ⟨by have:=r.bu;omega,_,_,aH,h.1,h.2⟩,fun e=>by have:=Rel.old r (bs w) g (hX.new g e);omega⟩
   replace hX:=hX.bz (iv':=(wa3.heap.size,wb3.heap.size)::iv) r (bs w) he fun x hx=>aB _ hx;generalize (wa3.heap.size,wb3.heap.size)::iv=iv3 at*
   obtain⟨s3_0,s3_1,s3_2,s3_3,s3_4,s3_5,s3_6,s3_7,rfl⟩:=hd.shape;refine⟨⟨gx,0,none⟩,rfl,by omega,?_⟩;intro O w' r;obtain⟨g,hg,h1,h2,h3,h4⟩:=hX.store (j:=i) hib (by rw[dL,aM,hz];rfl) hd r (bs w);injection hg with hg;injection hg with hg;subst hg;refine⟨h1,h2,h3,fun w5 hw5=>?_⟩;obtain⟨k1,k2,k3,k4⟩:=h4 w5 hw5;have hw2:=(hw.tr r.cI).tr k3;have hkk:=Bs.kept (v:=(.slice (some ⟨gx,0,none⟩) l.length l.length)) r (bs w) k2 fun g e=>e;have hM2:=hM.cB hkk;have hLm2:=hLm.cB hkk;have hK2:=dT.cB hK hkk;refine⟨((i+1:Nat):Int),wo,?_⟩;intro ρ3 w6 r3;exact⟨(i+1,gx,w6,_),⟨hib,hw2.tr r3.cI,hM2.cB (Bs.same r3 (bs w)),hLm2.cB (Bs.same r3 (bs w)),dT.cB hK2 (Bs.same r3 (bs w)),k1.rel r3 (bs w)⟩,Sub.gn [] r3,by dsimp only;omega⟩
  have hib:i=l.length:=aQ hi (by simpa using hib);rw[hib]at hX;have hX2:=(hX.done (by simp[dL])).c;replace hK:=(dT.cC hK fun g hg=>hg.1).push (u:=(.slice (some ⟨gx,0,none⟩) l.length l.length)) (x:=dL l) rfl (by rw[show l.length=(dL l).length by simp[dL]]at hX2 ⊢;exact hX2);rw[<-hnext]at hK;replace hM:=hM.cC fun g hg=>hg.1;refine .inl ?_;refine⟨by simp,by omega,by unfold maxLen;omega,((k+1:Nat):Int),wo,?_⟩;intro ρ3 w3 r3;exact⟨(k+1,rv++[(.slice (some ⟨gx,0,none⟩) l.length l.length)],w3,_),⟨hkb,hw.tr r3.cI,hM.cB fun g hg=>Rel.same r3 (bs w) hg,hK.rel r3 (bs w)⟩,Sub.gn [(3,6)] r3 ⟨by dsimp only;rw[List.length_append,List.length_singleton];rfl,rfl,rfl,trivial⟩,by dsimp only;omega⟩
 have hkb:k=(iV f).length:=aQ hk (by simpa using hkb);rw[List.take_of_length_le (by rw[cK,aL];omega)]at hK;intro ρe we re;refine⟨_,rfl,hw.tr re.cI,⟨_,rfl,rv,?_,hK.1,fun i u x k1 k2=>cD.cC (cD.rel (hK.2.2 i u x k1 k2) re (bs w)) fun g hg=>Cv.nw hg re⟩,fun x hx=>?_,fun x hx q hq=>?_⟩
 ·rw[<-hK.1];exact(re.k6 (id:=3) (sz:=1) (m:=rv.length) rfl (by simp) (by unfold maxLen;omega) (by decide) hK.2.1).cC fun g hg=>.inr hg
 ·obtain⟨l,hl,rfl⟩:=aR.1 hx;rw[dL,aL];exact hwid l hl
 ·obtain⟨l,hl,rfl⟩:=aR.1 hx;obtain⟨z,hz,rfl⟩:=aR.1 hq;have:=hbd l hl z hz;have:=tn (z:=z) (by omega) (by omega);omega
def Je(x:Ld):List Int:=[x.2.1,x.2.2.1,x.2.2.2]
def fX(s:List Int)(x:Ld):Nat->List Int
 |0=>s
 |k+1=>EX (fX s x k) (3*x.1+k).toNat ((Je x).getD k 0)
def ef(n:Nat)(l:List Ld):Nat->List Int
 |0=>List.replicate (3*n) 0
 |i+1=>fX (ef n l i) (l.getD i (0,0,0,0)) 3
def e9(f:ei)(l:List Ld):List Rat:=dL (ef f.nodes.length l l.length)
structure yN(n:Nat)(l:List Ld):Prop where
 len:l.length<=200
 ld:∀x∈l,(0<=x.1∧x.1<n)∧(-1000000<=x.2.1∧x.2.1<=1000000)∧(-1000000<=x.2.2.1∧x.2.2.1<=1000000)∧(-1000000<=x.2.2.2∧x.2.2.2<=1000000)
theorem qk(s:List Int)(x:Ld):∀k,(fX s x k).length=s.length
 |0=>rfl
 |k+1=>by rw[fX,EX,bB];exact qk s x k
theorem jQ(n:Nat)(l:List Ld):∀i,(ef n l i).length=3*n
 |0=>bE ..
 |i+1=>by rw[ef,qk];exact jQ n l i
theorem lM{k:Nat}{d:Int}(e:3*x.1+(k:Int)=j)(hd:(Je x).getD k 0=d)(hz:(fX s x k)[j]? =some z):(fX s x k).set j (z+d)=fX s x (k+1):=by
 rw[fX,EX,hd,e,aJ,show(fX s x k).getD j 0=z by rw[List.getD,hz];rfl]
def IA(s:List Int)(t:Int):Prop:=∀z∈s,-t<=z∧z<=t
theorem IA.set{t t2:Int}(h:IA s t)(ht:t<=t2)(hz: -t2<=z∧z<=t2):IA (s.set j z) t2:=fun y hy=>by
 rcases bS hy with hy|rfl
 ·have:=h y hy;omega
 ·exact hz
def zv(l:List Int):List Value:=l.map fun z=>.int .i64 z
theorem BB(l:List Int):(zv l).length=l.length:=aL ..
theorem zy{l:List Int}(h:l[j]? =some z):(zv l)[j]? =some (.int .i64 z):=by rw[zv,aM,h];rfl
theorem BC{l:List Int}(h:j<l.length):(zv l).take j++[.int .i64 z]++(zv l).drop (j+1)=zv (l.set j z):=by
 rw[zv,zv,List.map_set];exact jT (by rw[aL];exact h)
theorem kB(f:ei):(cP f).length=f.cols:=by simp[cP,ei.cols]
theorem dX.JC{q:Rat}(h:css.length=qs.length∧∀(j:Nat) cs q,css[j]? =some cs->qs[j]? =some q->lN w S cs q)(hc:lN w S cs q):
  (css++[cs]).length=(qs++[q]).length∧∀(j:Nat) c p,(css++[cs])[j]? =some c->(qs++[q])[j]? =some p->lN w S c p:=by
 refine⟨by simp[h.1],fun j x p h1 h2=>?_⟩;rcases aO j css.length with hi|hi
 ·rw[aK hi]at h1;rw[aK (by rw[<-h.1];exact hi)]at h2;exact h.2 j x p h1 h2
 ·have hi0:j=css.length:=by have:=(aC.1 h1).1;simp at this;omega
  subst hi0;rw[aN (aE _),bI]at h1;rw[h.1,aN (aE _),bI]at h2;simp at h1 h2;subst h1 h2;exact hc
set_option maxHeartbeats 1000000 in
theorem zz{cn:Nat}(hS:Old S w)(hl:iJ w S vl l)(hn20:f.nodes.length<=20)(hok:yN f.nodes.length l)
  {ab aq:Option Addr} {nb cb nq cq:Nat} (hvb:vb= .slice ab nb cb) (hvs:vs= .slice aq nq cq):
  di PG N.oL #[.agg #[.slice an f.nodes.length cn,vb,vs],vl] w (dw w fun v' w2=>dh w2 (fun _=>False) w.heap.size [(w.heap.size,w2.heap.size)] v' (3*f.nodes.length) (e9 f l)∧∀q∈e9 f l,rl q<=1):=by
 subst hvb hvs;have hw:cR w.heap.size w w:=cR.refl;obtain⟨al,cl,rfl,hcl,hml⟩:=hl.shape;have hl200:=hok.len;refine sF (by simp) ?_;refine⟨((3*f.nodes.length:Nat):Int),wo,?_⟩;obtain⟨m,hm⟩:∃m,3*f.nodes.length=m:=⟨_,rfl⟩
 rw[hm]
 refine⟨m,m,rfl,rfl,aE _,by omega,by omega,Nat×World,fun z=>⟨[(5,.o (.s 1 0 m m)),(18,.o (.v (.slice al l.length cl))),(19,.o (.v (.int .i64 l.length))),(20,.o (.v (.int .i64 ((z.1:Nat):Int))))],[(1,.arr T.int (zv (ef f.nodes.length l z.1)))],2,[],z.2⟩,fun z=>l.length-z.1,
  fun z=>z.1<=l.length∧cR w.heap.size w z.2∧IA (ef f.nodes.length l z.1) (3000000*z.1),?_,?_⟩
 ·intro O w' r3;exact⟨(0,w'),⟨aP _,hw.tr r3.cI,fun z hz=>by rw[ef]at hz;rw[bV hz];exact⟨Int.le_refl _,Int.le_refl _⟩⟩,Sub.gn [] r3 ⟨by dsimp only;rw[ef,hm,zv,List.map_replicate];rfl,trivial⟩⟩
 rintro⟨i,w1⟩ ⟨hi,hw,hbd⟩;dsimp only at hi hw hbd ⊢;refine dF.mk (fun hib=>?_) (fun hib=>?_)
 ·have hib:i<l.length:=by simpa using hib
  obtain⟨x,hx⟩:∃x,l[i]? =some x:=⟨_,aA hib⟩
  obtain⟨hn,hx1,hx2,hx3⟩:=hok.ld x (aD hx);obtain⟨kn,hkn⟩:=Int.eq_ofNat_of_zero_le hn.1;obtain⟨adx,cs,hax,hP,-,hlx⟩:=hl.load (by decide) hx;have hP:cs=[.int .i64 x.1,.int .i64 x.2.1,.int .i64 x.2.2.1,.int .i64 x.2.2.2]:=hP;subst hP
  refine⟨adx,hax,by omega,[.int .i64 x.1,.int .i64 x.2.1,.int .i64 x.2.2.1,.int .i64 x.2.2.2],rfl,rdO hlx hw hS,Nat×World,fun z=>⟨[(5,.o (.s 1 0 m m)),(7,.o (.p 2 0)),(30,.a [.v (.int .i64 x.2.1),.v (.int .i64 x.2.2.1),.v (.int .i64 x.2.2.2)]),(31,.o (.v (.int .i64 ((z.1:Nat):Int)))),(18,.o (.v (.slice al l.length cl))),(19,.o (.v (.int .i64 l.length))),(20,.o (.v (.int .i64 ((i:Nat):Int))))],[(2,.box T.Kf [.v (.int .i64 x.1),.v (.int .i64 x.2.1),.v (.int .i64 x.2.2.1),.v (.int .i64 x.2.2.2)]),(1,.arr T.int (zv (fX (ef f.nodes.length l i) x z.1)))],3,[],z.2⟩,fun z=>3-z.1,
   fun z=>z.1<=3∧cR w.heap.size w z.2∧IA (fX (ef f.nodes.length l i) x z.1) (3000000*i+1000000*z.1),?_,?_⟩
  ·intro O w' r3;exact⟨(0,w'),⟨aP _,hw.tr r3.cI,hbd⟩,Sub.gn [] r3⟩
  rintro⟨k,w3⟩ ⟨hk,hw,hbd⟩;dsimp only at hk hw hbd ⊢;refine dF.mk (fun hkb=>?_) (fun hkb=>?_)
  ·have hkb:k<3:=by have:=aG hkb;omega
   obtain⟨d,hd⟩:∃d,(Je x).getD k 0=d:=⟨_,rfl⟩
   have hdb: -1000000<=d∧d<=1000000:=by
    rw[<-hd,Je];rcases(show k=0∨k=1∨k=2 by omega)with rfl|rfl|rfl<;>simp[List.getD]<;>omega
   have hLl:(fX (ef f.nodes.length l i) x k).length=m:=by rw[qk,jQ,hm]
   obtain⟨z,hz⟩:∃z,(fX (ef f.nodes.length l i) x k)[3*kn+k]? =some z:=⟨_,aA (by omega)⟩
   have hzb:=hbd z (aD hz);have hej:3*x.1+(k:Int)=((3*kn+k:Nat):Int):=by omega
   have hnx:=lM hej hd hz;have hbd2:=hbd.set (j:=3*kn+k) (z:=z+d) (t2:=3000000*i+1000000*(k+1:Nat)) (by omega) (by omega);rw[hnx]at hbd2;refine yM hτ (cs:= #[.int .i64 x.2.1,.int .i64 x.2.2.1,.int .i64 x.2.2.2]) rfl rfl rfl (fun _=>rfl) rfl ⟨by omega,by omega⟩ (u:=.int .i64 d) ?_ (fun O w4 r=>?_)
   ·rw[<-hd,Je,aJ];rcases(show k=0∨k=1∨k=2 by omega)with rfl|rfl|rfl<;>rfl
   replace hw:=hw.tr r.cI;refine⟨3*x.1,wo,((3*kn+k:Nat):Int),wo,by omega,.int .i64 z,by rw[aJ,aV,aS];exact zy hz,z+d,wo,by omega,by rw[BB];omega,zv (fX (ef f.nodes.length l i) x (k+1)),?_,?_⟩
   ·rw[aJ,aV,aS,<-hnx];exact BC (by omega)
   refine⟨((k+1:Nat):Int),wo,?_⟩;intro ρ3 w6 r3;exact⟨(k+1,w6),⟨hkb,hw.tr r3.cI,hbd2⟩,Sub.gn [] r3,by dsimp only;omega⟩
  have hkb:k=3:=by have:=aF hkb;omega
  subst hkb;have hnx:fX (ef f.nodes.length l i) x 3=ef f.nodes.length l (i+1):=by rw[ef,show l.getD i (0,0,0,0)=x by rw[List.getD,hx];rfl]
  rw[hnx]at hbd ⊢;refine⟨((i+1:Nat):Int),wo,?_⟩;intro ρ3 w6 r3;exact⟨(i+1,w6),⟨hib,hw.tr r3.cI,fun z hz=>by have:=hbd z hz;dsimp only;omega⟩,Sub.gn [] r3,by dsimp only;omega⟩
 have hib:i=l.length:=aQ hi (by simpa using hib);subst hib;obtain⟨s,hs⟩:∃s,ef f.nodes.length l l.length=s:=⟨_,rfl⟩
 have hsl:s.length=m:=by rw[<-hs,jQ,hm]
 rw[hs]at hbd ⊢;unfold e9;rw[hs]
 refine⟨m,m,rfl,rfl,aE _,by omega,by omega,Nat×List (List Value)×Iv×World,fun z=>⟨[(10,.o (.s 2 0 m m)),(51,.o (.s 1 0 m m)),(52,.o (.v (.int .i64 m))),(53,.o (.v (.int .i64 ((z.1:Nat):Int))))],[(2,.arr T.Rat z.2.1.flatten),(1,.arr T.int (zv s))],3,z.2.2.1,z.2.2.2⟩,fun z=>m-z.1,
  fun z=>z.1<=m∧cR w.heap.size w z.2.2.2∧fR z.2.2.2 (Cf w z.2.2.1) m z.1 z.2.1 (dL s),?_,?_⟩
 ·intro O w' r;exact⟨(0,List.replicate m f0,_,w'),⟨aP _,hw.tr r.cI,fR.start _ _ _ _⟩,Sub.gn [] r⟩
 rintro⟨i,css,iv,w1⟩ ⟨hi2,hw,hF⟩;dsimp only at hi2 hw hF ⊢;refine dF.mk (fun hib=>?_) (fun hib=>?_)
 ·have hib:i<m:=by simpa using hib
  obtain⟨z,hz⟩:∃z,s[i]? =some z:=⟨_,aA (by omega)⟩
  have hzb:=hbd z (aD hz);refine⟨by omega,.int .i64 z,by rw[aJ,aV,aS];exact zy hz,?_⟩;refine bw (cE hw (fun _ w' v w2=>cM w2 (Nf w' w2) v (z:Rat)) (fun O w' r=>j5 z w' (by omega) (by omega)) ?_);rintro O wa1 v1 wb1 iv1 r he hw h_ hn;replace hF:=hF.bz r (bs w) he (mC h_);have hd:=hn.cd (S:=fun _=>False) r.bu (mN h_);obtain⟨s1_0,s1_1,s1_2,s1_3,s1_4,s1_5,s1_6,s1_7,rfl⟩:=hd.shape;have hnext:=hF.next hib (q:=_) (by rw[dL,aM,hz];rfl) hd
  refine⟨by omega,by have:=hF.flat;omega,(css.set i [.bool s1_0,.slice s1_1 s1_2 s1_3,.bool s1_4,.slice s1_5 s1_6 s1_7]).flatten,?_,?_⟩
  ·have:=j6 (cs:=[.bool s1_0,.slice s1_1 s1_2 s1_3,.bool s1_4,.slice s1_5 s1_6 s1_7]) hF.four (show i<css.length by rw[hF.len];exact hib);rw[<-this];simp
  refine⟨((i+1:Nat):Int),wo,?_⟩;intro ρ3 w3 r3;exact⟨(i+1,css.set i [.bool s1_0,.slice s1_1 s1_2 s1_3,.bool s1_4,.slice s1_5 s1_6 s1_7],_,w3),⟨hib,hw.tr r3.cI,hnext.rel r3 (bs w)⟩,Sub.gn [] r3,by dsimp only;omega⟩
 have hib:i=m:=aQ hi2 (by simpa using hib);subst hib;intro ρe we re
 exact⟨_,rfl,hw.tr re.cI,hF.done (by rw[dL,aL];exact hsl) (by unfold maxLen;omega) re (id:=2) rfl (re.nn 2 _ rfl (by intros;simp) (by simp)),fun q hq=>by
  obtain⟨z,hz,rfl⟩:=aR.1 hq;have:=hbd z hz
  exact tn (by omega) (by omega)⟩
set_option maxHeartbeats 1000000 in
theorem tp{vn:Value}(hS:Old S w)(hf:dU w S vn vb vs f)(hok:ud f):
  di PG N.oN #[.agg #[vn,vb,vs]] w (dw w fun v' w2=>dX w2 (Nw S w w2) v' (cP f)):=by
 have hw:cR w.heap.size w w:=cR.refl;obtain⟨an,cn,ab,cb,aq,cq,rfl,rfl,rfl,hmn,hmb,hms⟩:=hf.shape;have hf0:=hf;refine sH (by simp) ?_
 refine⟨Nat×List (List Value)×World,fun z=>⟨[(3,.o (.w 1 z.2.1.length)),(9,.o (.v (.slice ab f.bars.length cb))),(10,.o (.v (.int .i64 f.bars.length))),(11,.o (.v (.int .i64 ((z.1:Nat):Int)))),(1,.o (.p 0 0))],[(1,.vec T.Rat 4 z.2.1.flatten),(0,.box T.Frame [.v (.slice an f.nodes.length cn),.v (.slice ab f.bars.length cb),.v (.slice aq f.cS.length cq)])],2,[],z.2.2⟩,fun z=>f.bars.length-z.1,
  fun z=>z.1<=f.bars.length∧cR w.heap.size w z.2.2∧(∀cs∈z.2.1,cs.length=4)∧(z.2.1.length=((fun i=>(f.bars.take i).map (·.2.2)) z.1).length∧∀(j:Nat) cs q,z.2.1[j]? =some cs->((fun i=>(f.bars.take i).map (·.2.2)) z.1)[j]? =some q->lN z.2.2 S cs q),?_,?_⟩
 ·intro O w' r;exact⟨(0,[],w'),⟨aP _,hw.tr r.cI,fun cs h=>(by cases h),rfl,fun j cs q h=>by cases h⟩,Sub.nil 3 T.Rat 4 rfl (by simp[kl,SV.sc,At.sc,gP]) r fun ρ1 r1=>Sub.gn [] r1⟩
 rintro⟨k,css,w1⟩ ⟨hk,hw,hc4,hR⟩;dsimp only at hk hw hc4 hR ⊢;have hfl:=fg hc4;refine dF.mk (fun hkb=>?_) (fun hkb=>?_)
 ·have hkb:k<f.bars.length:=by simpa using hkb
  have hb60:=hok.b;have hs60:=hok.s;obtain⟨b,hb⟩:∃b,f.bars[k]? =some b:=⟨_,aA hkb⟩
  have hnx:(fun i=>(f.bars.take i).map (·.2.2)) (k+1)=(fun i=>(f.bars.take i).map (·.2.2)) k++[b.2.2]:=by dsimp only;rw[List.take_add_one,hb];simp
  obtain⟨adb,cs,hab,hF,-,hlb⟩:=hf0.bars.load (by decide) hb;obtain⟨g0,g1,g2,g3,g4,g5,g6,g7,rfl,hF⟩:=hF;refine⟨adb,hab,by omega,[.int .i64 b.1,.int .i64 b.2.1,.bool g0,.slice g1 g2 g3,.bool g4,.slice g5 g6 g7],rfl,rdO hlb hw hS,?_⟩;have hC2:lN w1 S [.bool g0,.slice g1 g2 g3,.bool g4,.slice g5 g6 g7] b.2.2:=⟨_,_,_,_,_,_,_,_,rfl,hF.cB fun g hg=>hw.block g (hS g hg)⟩
  have hR2:=dX.JC hR hC2;rw[<-hnx]at hR2;have hfl2:css.flatten++([.bool g0,.slice g1 g2 g3,.bool g4,.slice g5 g6 g7]:List Value)=(css++([[.bool g0,.slice g1 g2 g3,.bool g4,.slice g5 g6 g7]]:List (List Value))).flatten:=by simp
  have hlen2:css.length<=200:=by rw[hR.1,aL,aW];have:=hok.b;omega
  refine .inl ?_;refine⟨by omega,by omega,by unfold maxLen;omega,((k+1:Nat):Int),wo,?_⟩;intro ρ3 w3 r3
  exact⟨(k+1,css++[[.bool g0,.slice g1 g2 g3,.bool g4,.slice g5 g6 g7]],w3),⟨hkb,hw.tr r3.cI,fun cs hc=>by
   rcases bN.1 hc with hc|hc
   ·exact hc4 cs hc
   ·rw[bD.1 hc];rfl,hR2.1,fun j cs q h1 h2=>(hR2.2 j cs q h1 h2).cB fun g hg=>(r3.cI).block g (hS g hg)⟩,Sub.gn [(1,4)] r3 ⟨by dsimp only;rw[<-hfl2];rfl,rfl,trivial⟩ ⟨by dsimp only;rw[List.length_append,List.length_singleton];rfl,rfl,rfl,rfl,rfl,trivial⟩,by dsimp only;omega⟩
 have hkb:k=f.bars.length:=aQ hk (by simpa using hkb);subst hkb;have hrl:css.length=f.bars.length:=by rw[hR.1,aL,aW];omega
 rw[bC,show f.bars.map (·.2.2)=f.bars.map (·.2.2)++(f.cS.take 0).map (·.2.2) by simp]at hR
 refine⟨Nat×List (List Value)×World,fun z=>⟨[(3,.o (.w 1 z.2.1.length)),(22,.o (.v (.slice aq f.cS.length cq))),(23,.o (.v (.int .i64 f.cS.length))),(24,.o (.v (.int .i64 ((z.1:Nat):Int))))],[(1,.vec T.Rat 4 z.2.1.flatten),(0,.box T.Frame [.v (.slice an f.nodes.length cn),.v (.slice ab f.bars.length cb),.v (.slice aq f.cS.length cq)])],2,[],z.2.2⟩,fun z=>f.cS.length-z.1,
  fun z=>z.1<=f.cS.length∧cR w.heap.size w z.2.2∧(∀cs∈z.2.1,cs.length=4)∧(z.2.1.length=((fun i=>f.bars.map (·.2.2)++(f.cS.take i).map (·.2.2)) z.1).length∧∀(j:Nat) cs q,z.2.1[j]? =some cs->((fun i=>f.bars.map (·.2.2)++(f.cS.take i).map (·.2.2)) z.1)[j]? =some q->lN z.2.2 S cs q),?_,?_⟩
 ·intro O w' r3;exact⟨(0,css,w'),⟨aP _,hw.tr r3.cI,hc4,hR.1,fun j cs q h1 h2=>(hR.2 j cs q h1 h2).cB fun g hg=>(r3.cI).block g (hS g hg)⟩,Sub.gn [] r3⟩
 rintro⟨k,css,w1⟩ ⟨hk,hw,hc4,hR⟩;dsimp only at hk hw hc4 hR ⊢;have hfl:=fg hc4;refine dF.mk (fun hkb=>?_) (fun hkb=>?_)
 ·have hkb:k<f.cS.length:=by simpa using hkb
  have hb60:=hok.b;have hs60:=hok.s;obtain⟨b,hb⟩:∃b,f.cS[k]? =some b:=⟨_,aA hkb⟩
  have hnx:(fun i=>f.bars.map (·.2.2)++(f.cS.take i).map (·.2.2)) (k+1)=(fun i=>f.bars.map (·.2.2)++(f.cS.take i).map (·.2.2)) k++[b.2.2]:=by dsimp only;rw[List.take_add_one,hb];simp
  obtain⟨adb,cs,hab,hF,-,hlb⟩:=hf0.cS.load (by decide) hb;obtain⟨g0,g1,g2,g3,g4,g5,g6,g7,rfl,hF⟩:=hF;refine⟨adb,hab,by omega,[.int .i64 b.1,.int .i64 b.2.1,.bool g0,.slice g1 g2 g3,.bool g4,.slice g5 g6 g7],rfl,rdO hlb hw hS,?_⟩;have hC2:lN w1 S [.bool g0,.slice g1 g2 g3,.bool g4,.slice g5 g6 g7] b.2.2:=⟨_,_,_,_,_,_,_,_,rfl,hF.cB fun g hg=>hw.block g (hS g hg)⟩
  have hR2:=dX.JC hR hC2;rw[<-hnx]at hR2;have hfl2:css.flatten++([.bool g0,.slice g1 g2 g3,.bool g4,.slice g5 g6 g7]:List Value)=(css++([[.bool g0,.slice g1 g2 g3,.bool g4,.slice g5 g6 g7]]:List (List Value))).flatten:=by simp
  have hlen2:css.length<=200:=by rw[hR.1,List.length_append,aL,aL,aW];have:=hok.b;have:=hok.s;omega
  refine .inl ?_;refine⟨by omega,by omega,by unfold maxLen;omega,((k+1:Nat):Int),wo,?_⟩;intro ρ3 w3 r3
  exact⟨(k+1,css++[[.bool g0,.slice g1 g2 g3,.bool g4,.slice g5 g6 g7]],w3),⟨hkb,hw.tr r3.cI,fun cs hc=>by
   rcases bN.1 hc with hc|hc
   ·exact hc4 cs hc
   ·rw[bD.1 hc];rfl,hR2.1,fun j cs q h1 h2=>(hR2.2 j cs q h1 h2).cB fun g hg=>(r3.cI).block g (hS g hg)⟩,Sub.gn [(1,4)] r3 ⟨by dsimp only;rw[<-hfl2];rfl,rfl,trivial⟩ ⟨by dsimp only;rw[List.length_append,List.length_singleton];rfl,rfl,rfl,rfl,trivial⟩,by dsimp only;omega⟩
 have hkb:k=f.cS.length:=aQ hk (by simpa using hkb);subst hkb;intro ρe we re;have hfull:f.bars.map (·.2.2)++(f.cS.take f.cS.length).map (·.2.2)=cP f:=by rw[bC];rfl
 rw[hfull]at hR;refine⟨_,rfl,hw.tr re.cI,css,?_,hR.1,hc4,fun j cs q k1 k2=>((hR.2 j cs q k1 k2).cB fun g hg=>(re.cI).block g (hS g hg)).cC fun g hg=>.inl hg⟩;have hcl:=hR.1
 have h5:=re.k6 (id:=1) (sz:=4) (m:=css.length) rfl hfl (by have:=hok.b;have:=hok.s;rw[hcl,kB];unfold ei.cols maxLen;omega) (by decide) (fun u hu=>by
  obtain⟨cs,hc,hu⟩:=List.mem_flatten.1 hu;obtain⟨j,hj⟩:=aT hc;obtain⟨_,_,_,_,_,_,_,_,rfl,_⟩:=hR.2 j cs _ hj (aA (by rw[<-hcl];exact(aC.1 hj).1));simp at hu
  rcases hu with rfl|rfl|rfl|rfl<;>rfl)
 rw[<-hcl];exact h5.cC fun g hg=>.inr hg
def eN{α:Type}(e:List α->α->Int):List α->List α->Int
 |_,[]=>0
 |seen,x::r=>if e seen x=0 then eN e (seen++[x]) r else e seen x
section
variable{α:Type}{e:List α->α->Int}{xs:List α}
theorem fk{k:Nat}{x:α}(hx:xs[k]? =some x)(h0:e (xs.take k) x=0):eN e (xs.take k) (xs.drop k)=eN e (xs.take (k+1)) (xs.drop (k+1)):=by
 have hk:=(aC.1 hx).1;have h2:=(aC.1 hx).2;rw[List.drop_eq_getElem_cons hk,h2,eN,if_pos h0,List.take_add_one,hx];rfl
theorem cL{k:Nat}{x:α}{c:Int}(hx:xs[k]? =some x)(h0:e (xs.take k) x=c)(hc:c≠0):eN e (xs.take k) (xs.drop k)=c:=by
 have hk:=(aC.1 hx).1;have h2:=(aC.1 hx).2;rw[List.drop_eq_getElem_cons hk,h2,eN,aI (by rw[h0];exact hc),h0]
theorem gw{k:Nat}(hk:xs.length<=k):eN e (xs.take k) (xs.drop k)=0:=by
 rw[List.drop_eq_nil_of_le hk];rfl
theorem ia(h:eN e [] xs=0):∀k x,xs[k]? =some x->e (xs.take k) x=0:=by
 have key:∀k,k<=xs.length->eN e (xs.take k) (xs.drop k)=0∧∀j x,j<k->xs[j]? =some x->e (xs.take j) x=0:=fun k=>by
  induction k with
  |zero=>intro _;exact⟨by simpa using h,fun j x hj=>by omega⟩
  |succ k ih=>
   intro hk;obtain⟨h1,h2⟩:=ih (by omega);obtain⟨x,hx⟩:∃x,xs[k]? =some x:=⟨_,aA (by omega)⟩
   have h0:e (xs.take k) x=0:=by
    by_cases h0:e (xs.take k) x=0
    ·exact h0
    ·rw[cL hx rfl h0]at h1;exact h1
   refine⟨by rw[<-fk hx h0];exact h1,fun j y hj hy=>?_⟩;rcases aO j k with hjk|hjk
   ·exact h2 j y hjk hy
   ·have:j=k:=by omega
    subst this;rw[hx]at hy;injection hy with hy;rw[<-hy];exact h0
 exact fun k x hx=>(key xs.length (aE _)).2 k x (aC.1 hx).1 hx
end
def l8(n:Int):Prop:= -1000000<=n∧n<=1000000
instance (n : Int) : Decidable (l8 n) := by unfold l8; infer_instance
def eS(seen:List (Int×Int×Int))(p:Int×Int×Int):Int:=if l8 p.1∧l8 p.2.1∧l8 p.2.2 then(if p∈seen then 12 else 0)else 2
def fY(b:Int×Int×Rat):Int×Int:=(min b.1 b.2.1,max b.1 b.2.1)
def iH(n:Nat)(i:Int):Prop:=0<=i∧i<n
instance (n : Nat) (i : Int) : Decidable (iH n i) := by unfold iH; infer_instance
def eX(n:Nat)(seen:List (Int×Int×Rat))(b:Int×Int×Rat):Int:=
 if iH n b.1∧iH n b.2.1 then(if b.1=b.2.1 then 3 else if fY b∈seen.map fY then 5 else if b.2.2<=0 then 2 else 0)else 6
def gp(s:Int×Int×Rat):Int×Int:=(s.1,s.2.1)
def j8(n:Nat)(seen:List (Int×Int×Rat))(s:Int×Int×Rat):Int:=
 if iH n s.1 then(if 0<=s.2.1∧s.2.1<=2 then(if gp s∈seen.map gp then 5 else if s.2.2<0 then 2 else 0)else 2)else 6
def dx(f:ei):Int:=
 if 20<f.nodes.length∨60<f.bars.length∨60<f.cS.length then 8 else
  if eN eS [] f.nodes≠0 then eN eS [] f.nodes else
   if eN (eX f.nodes.length) [] f.bars≠0 then eN (eX f.nodes.length) [] f.bars else eN (j8 f.nodes.length) [] f.cS
def iq(n:Nat)(x:Ld):Int:=if iH n x.1 then(if l8 x.2.1∧l8 x.2.2.1∧l8 x.2.2.2 then 0 else 2)else 6
def sS(n:Nat)(l:List Ld):Int:=if 200<l.length then 8 else eN (fun _=>iq n) [] l
def iP(f:ei)(l:List Ld):Int:=if dx f≠0 then dx f else sS f.nodes.length l
theorem ql{seen:List (Int×Int×Int)}:eS seen p=0↔(l8 p.1∧l8 p.2.1∧l8 p.2.2)∧p∉seen:=by
 unfold eS;split<;>rename_i h
 ·split<;>rename_i h2<;>simp[h,h2]
 ·simp[h]
theorem pG{n:Nat}:eX n seen b=0↔(iH n b.1∧iH n b.2.1)∧b.1≠b.2.1∧fY b∉seen.map fY∧0<b.2.2:=by
 unfold eX;rw[<-Rat.not_le];by_cases h:iH n b.1∧iH n b.2.1
 ·rw[if_pos h];by_cases h2:b.1=b.2.1
  ·rw[if_pos h2];exact⟨(fun e=>by cases e),fun e=>absurd h2 e.2.1⟩
  ·rw[aI h2];by_cases h3:fY b∈seen.map fY
   ·rw[if_pos h3];exact⟨(fun e=>by cases e),fun e=>absurd h3 e.2.2.1⟩
   ·rw[aI h3];by_cases h4:b.2.2<=0
    ·rw[if_pos h4];exact⟨(fun e=>by cases e),fun e=>absurd h4 e.2.2.2⟩
    ·rw[aI h4];exact⟨fun _=>⟨h,h2,h3,h4⟩,fun _=>rfl⟩
 ·rw[aI h];exact⟨(fun e=>by cases e),fun e=>absurd e.1 h⟩
theorem pF{n:Nat}{s:Int×Int×Rat}:j8 n seen s=0↔iH n s.1∧(0<=s.2.1∧s.2.1<=2)∧gp s∉seen.map gp∧0<=s.2.2:=by
 unfold j8;rw[<-Rat.not_lt];by_cases h:iH n s.1<;>by_cases h2:0<=s.2.1∧s.2.1<=2<;>by_cases h3:gp s∈seen.map gp<;>by_cases h4:s.2.2<0<;>simp only[h,h2,h3,h4]<;>simp
theorem Dh{n:Nat}:iq n x=0↔iH n x.1∧l8 x.2.1∧l8 x.2.2.1∧l8 x.2.2.2:=by
 unfold iq;split<;>rename_i h
 ·split<;>rename_i h2<;>simp[h,h2]
 ·simp[h]
theorem z8(h:dx f=0):(f.nodes.length<=20∧f.bars.length<=60∧f.cS.length<=60)∧eN eS [] f.nodes=0∧eN (eX f.nodes.length) [] f.bars=0∧eN (j8 f.nodes.length) [] f.cS=0:=by
 unfold dx at h;split at h<;>rename_i h1
 ·cases h
 ·split at h<;>rename_i h2
  ·exact absurd h h2
  ·split at h<;>rename_i h3
   ·exact absurd h h3
   ·exact⟨by omega,by simpa using h2,by simpa using h3,h⟩
theorem pE(h:dx f=0):ud f:=by
 obtain⟨⟨h1,h2,h3⟩,hn,hb,hs⟩:=z8 h;refine⟨fun p hp=>?_,fun b hb'=>?_,fun s hs'=>?_,h1,h2,h3⟩
 ·obtain⟨k,hk⟩:=aT hp;exact(ql.1 (ia hn k p hk)).1
 ·obtain⟨k,hk⟩:=aT hb';exact(pG.1 (ia hb k b hk)).1
 ·obtain⟨k,hk⟩:=aT hs';have:=pF.1 (ia hs k s hk);exact⟨this.1,this.2.1⟩
theorem vz{n:Nat}(h:sS n l=0):yN n l:=by
 unfold sS at h;split at h<;>rename_i h1
 ·cases h
 ·refine⟨by omega,fun x hx=>?_⟩;obtain⟨k,hk⟩:=aT hx;exact Dh.1 (ia h k x hk)
theorem jR(h:iP f l=0):dx f=0∧sS f.nodes.length l=0:=by
 unfold iP at h;split at h<;>rename_i h1
 ·exact absurd h h1
 ·exact⟨by simpa using h1,h⟩
theorem kG(n:Int)(w:World):di PG N.oP #[.int .i64 n,.int .i64 1000000] w (dw w fun v' _=>∃d,v'= .bool d∧(d=true↔l8 n)):=by
 have hw:cR w.heap.size w w:=cR.refl;refine sJ (by simp) ?_;refine⟨-1000000,by decide,?_⟩;refine dF.mk (fun h1=>?_) (fun h1=>?_)
 ·intro ρe we re;have h1:=aG h1;exact⟨_,rfl,hw.tr re.cI,_,rfl,by rw[decide_eq_true_iff];exact⟨fun h=>⟨h1,h⟩,fun h=>h.2⟩⟩
 ·intro ρe we re;have h1:=aF h1;exact⟨_,rfl,hw.tr re.cI,_,rfl,(fun h=>by cases h),fun h=>absurd h.1 h1⟩
theorem Di(n:Int)(w:World)(an ab aq:Option Addr)(ln cn nb cb nq cq:Nat):di PG N.uX #[.agg #[.slice an ln cn,.slice ab nb cb,.slice aq nq cq],.int .i64 n] w (dw w fun v' _=>∃d,v'= .bool d∧(d=true↔iH ln n)):=by
 have hw:cR w.heap.size w w:=cR.refl;refine xx (by simp) ?_;refine dF.mk (fun h1=>?_) (fun h1=>?_)
 ·intro ρe we re;have h1:=aG h1;exact⟨_,rfl,hw.tr re.cI,_,rfl,by rw[decide_eq_true_iff];exact⟨fun h=>⟨h1,h⟩,fun h=>h.2⟩⟩
 ·intro ρe we re;have h1:=aF h1;exact⟨_,rfl,hw.tr re.cI,_,rfl,(fun h=>by cases h),fun h=>absurd h.1 h1⟩
theorem BD(x y0 y1 y2:Int)(n:Nat)(w:World):di PG N.lD #[.agg #[.int .i64 x,.int .i64 y0,.int .i64 y1,.int .i64 y2],.int .i64 n] w (dw w fun v' _=>v'= .int .i64 (iq n (x,y0,y1,y2))):=by
 have hw:cR w.heap.size w w:=cR.refl;refine oW (by simp) ?_;refine dF.mk (fun h1=>?_) (fun h1=>?_)
 ·have h1:=aG h1;intro ρe we re;exact⟨_,rfl,hw.tr re.cI,by show Value.int .i64 _=_;rw[iq,aI (by unfold iH;omega)]⟩
 have h1:=aF h1;refine dF.mk (fun h2=>?_) (fun h2=>?_)
 ·have h2:=aG h2;intro ρe we re;exact⟨_,rfl,hw.tr re.cI,by show Value.int .i64 _=_;rw[iq,aI (by unfold iH;omega)]⟩
 have h2:=aF h2;have hh:iH n x:=by unfold iH;omega
 refine bw (cE hw (fun _ w' v w2=>∃d,v= .bool d∧(d=true↔l8 y0)) (fun O w' r=>kG _ w') ?_);rintro O wa1 v1 wb1 iv1 r he hw h_ ⟨d0,rfl,hz0⟩
 cases d0
 ·have hz0:¬l8 y0:=fun h=>by have:=hz0.2 h;cases this
  intro ρe we re;exact⟨_,rfl,hw.tr re.cI,by show Value.int .i64 _=_;rw[iq,if_pos hh,aI (fun h=>hz0 h.1)]⟩
 replace hz0:=hz0.1 rfl;refine bw (cE hw (fun _ w' v w2=>∃d,v= .bool d∧(d=true↔l8 y1)) (fun O w' r=>kG _ w') ?_);rintro O wa2 v2 wb2 iv2 r he hw h_ ⟨d1,rfl,hz1⟩
 cases d1
 ·have hz1:¬l8 y1:=fun h=>by have:=hz1.2 h;cases this
  intro ρe we re;exact⟨_,rfl,hw.tr re.cI,by show Value.int .i64 _=_;rw[iq,if_pos hh,aI (fun h=>hz1 h.2.1)]⟩
 replace hz1:=hz1.1 rfl;refine bw (cE hw (fun _ w' v w2=>∃d,v= .bool d∧(d=true↔l8 y2)) (fun O w' r=>kG _ w') ?_);rintro O wa3 v3 wb3 iv3 r he hw h_ ⟨d2,rfl,hz2⟩
 cases d2
 ·have hz2:¬l8 y2:=fun h=>by have:=hz2.2 h;cases this
  intro ρe we re;exact⟨_,rfl,hw.tr re.cI,by show Value.int .i64 _=_;rw[iq,if_pos hh,aI (fun h=>hz2 h.2.2)]⟩
 replace hz2:=hz2.1 rfl;intro ρe we re;exact⟨_,rfl,hw.tr re.cI,by show Value.int .i64 _=_;rw[iq,if_pos hh,if_pos ⟨hz0,hz1,hz2⟩]⟩
theorem zA{n:Nat}(hS:Old S w)(hl:iJ w S vl l):di PG N.kU #[vl,.int .i64 n] w (dw w fun v' _=>v'= .int .i64 (sS n l)):=by
 have hw:cR w.heap.size w w:=cR.refl;obtain⟨al,cl,rfl,hcl,hml⟩:=hl.shape;unfold maxLen at hml;refine nQ (by simp) ?_;refine dF.mk (fun h1=>?_) (fun h1=>?_)
 ·have h1:=aG h1;intro ρe we re;exact⟨_,rfl,hw.tr re.cI,by show Value.int .i64 _=_;rw[sS,if_pos (by omega)]⟩
 have h1:=aF h1
 refine⟨Nat×World×Iv,fun z=>⟨[(1,.o (.v (.int .i64 n))),(11,.o (.v (.slice al l.length cl))),(12,.o (.v (.int .i64 l.length))),(13,.o (.v (.int .i64 ((z.1:Nat):Int))))],[],0,z.2.2,z.2.1⟩,fun z=>l.length-z.1,
  fun z=>z.1<=l.length∧cR w.heap.size w z.2.1∧sS n l=eN (fun _=>iq n) (l.take z.1) (l.drop z.1),?_,?_⟩
 ·intro O w' r3;exact⟨(0,w',[]),⟨aP _,hw.tr r3.cI,by rw[sS,aI (by omega)];rfl⟩,Sub.gn [] r3⟩
 rintro⟨i,w1,iv⟩ ⟨hi,hw,hE⟩;dsimp only at hi hw hE ⊢;refine dF.mk (fun hib=>?_) (fun hib=>?_)
 ·have hib:i<l.length:=by simpa using hib
  obtain⟨x,hx⟩:∃x,l[i]? =some x:=⟨_,aA hib⟩
  obtain⟨adx,cs,hax,hP,-,hlx⟩:=hl.load (by decide) hx;have hP:cs=[.int .i64 x.1,.int .i64 x.2.1,.int .i64 x.2.2.1,.int .i64 x.2.2.2]:=hP;subst hP;refine⟨adx,hax,by omega,[.int .i64 x.1,.int .i64 x.2.1,.int .i64 x.2.2.1,.int .i64 x.2.2.2],rfl,rdO hlx hw hS,?_⟩;refine bw (cE hw (fun _ w' v w2=>v= .int .i64 (iq n x)) (fun O w' r=>BD _ _ _ _ n w') ?_);rintro O wa1 v1 wb1 iv1 r he hw h_ rfl;obtain⟨c,hc⟩:∃c,iq n x=c:=⟨_,rfl⟩
  rw[hc];refine dF.mk (fun hd=>?_) (fun hd=>?_)
  ·have hd:c≠0:=by simpa using hd
   intro ρe we re;exact⟨_,rfl,hw.tr re.cI,by show Value.int .i64 _=_;rw[hE,cL hx hc hd]⟩
  have hd:c=0:=by simpa using hd
  rw[hd]at hc;rw[fk hx hc]at hE;refine⟨((i+1:Nat):Int),wo,?_⟩;intro ρ3 w6 r3;exact⟨(i+1,w6,_),⟨hib,hw.tr r3.cI,hE⟩,Sub.gn [] r3,by dsimp only;omega⟩
 have hib:i=l.length:=aQ hi (by simpa using hib);rw[gw (by omega)]at hE;intro ρe we re;exact⟨_,rfl,hw.tr re.cI,by show Value.int .i64 _=_;rw[hE]⟩
end Go.Ex
