/- A part of the proof: texts L43 to X144. Each tells its conditions in its theorems. -/
import Derived.Test.YtkdcaknoaeicdaaGreatP2
import Derived.Test.YtkdcaknoaeicdaaGreatP8
import Derived.Test.YtkdcaknoaeicdaaGreatP9
import Derived.Test.YtkdcaknoaeicdaaGreatP10
namespace Go.Ex
variable{A M:List (List Rat)}{pv:List Nat}{B j:Nat}{v:Nat->Rat}
theorem zw(f:Nat->Rat):∀n,cR f n=jY (List.range n) f
 |0=>rfl
 |n+1=>by
  rw[cR,zw f n,bT,uN];show _=_+(_+0)
  rw[bV]
theorem zx(g:Nat->Rat):∀l:List Nat,jY l g=cR (fun k=>g (l.getD k 0)) l.length
 |[]=>rfl
 |t::l=>by
  rw[List.length_cons,xH];show g t+jY l g=g t+_;rw[zx g l];rfl
def mulR(M:List (List Rat))(n:Nat)(x:Nat->Rat)(j:Nat):Rat:=cR (fun t=>cd M j t*x t) n
theorem dh.dot{E:Mx}{r n:Nat}(h:dh E r n v):∃c:Nat->Rat,(∀t,t<n->v t=cR (fun i=>c i*E i t) r)∧∀x:Nat->Rat,cR (fun t=>v t*x t) n=cR (fun i=>c i*cR (fun t=>E i t*x t) n) r:=by
 obtain⟨c,hc⟩:=h;refine⟨c,hc,fun x=>?_⟩;rw[cA (g:=fun t=>cR (fun i=>c i*E i t*x t) r) fun t ht=>by rw[hc t ht,<-kO],mH];exact cA fun i _=>by rw[<-eF];exact cA fun t _=>Rat.mul_assoc _ _ _
section
variable{M:List (List Rat)}{n:Nat}{x:Nat->Rat}{b:List Rat}
theorem HF(hM:fp n M)(h:∀j,j<M.length->mulR M n x j=0){c:Nat}(hc:c<=n):∀i,i<M.length->mulR (cG M c).1 n x i=0:=fun i hi=>by
 obtain⟨c,_,h2⟩:=((iq hM c hc).1 i hi).dot;unfold mulR;rw[h2 x,cA (g:=fun _=>0) fun j hj=>by rw[show cR (fun t=>cd M j t*x t) n=0 from h j hj,bA],dQ]
theorem CJ(hM:fp n M){c:Nat}(hc:c<=n)(h:∀i,i<M.length->mulR (cG M c).1 n x i=0):∀j,j<M.length->mulR M n x j=0:=fun j hj=>by
 obtain⟨c,_,h2⟩:=((iq hM c hc).2 j hj).dot;unfold mulR;rw[h2 x,cA (g:=fun _=>0) fun i hi=>by rw[show cR (fun t=>cd (cG M _).1 i t*x t) n=0 from h i hi,bA],dQ]
theorem j0(hM:fp n M){t:Nat}(hj:j<M.length):(t<n->cd (dX M b) j t=cd M j t)∧cd (dX M b) j n=b.getD j 0:=by
 have hr:=aA hj;have hl:(M[j]).length=n:=hM _ (aV hj);have e:(dX M b).getD j []=M[j]++[b.getD j 0]:=by rw[dX,List.getD,List.getElem?_mapIdx,hr];rfl
 have e2:M.getD j []=M[j]:=by rw[List.getD,hr];rfl
 refine⟨fun ht=>?_,?_⟩
 ·rw[cd,cd,e,e2,List.getD,aK (by omega),<-List.getD]
 ·rw[cd,e,List.getD,aN (by omega),hl,bH];rfl
def CK(x:Nat->Rat)(n t:Nat):Rat:=if t<n then x t else -1
theorem D8(hM:fp n M)(hj:j<M.length):mulR (dX M b) (n+1) (CK x n) j=mulR M n x j-b.getD j 0:=by
 have h:=fun t=>j0 (b:=b) (t:=t) hM hj;unfold mulR;rw[cR,(h 0).2,show CK x n n= -1 by unfold CK;rw[aF (Nat.lt_irrefl n)],cA (g:=fun t=>cd M j t*x t) fun t ht=>by rw[(h t).1 ht];unfold CK;rw[if_pos ht]];grind
def fU(M:List (List Rat))(b:List Rat)(n:Nat):Option (List Rat):=
 let e:=cG (dX M b) n
 if ∀j,j<M.length->e.2.length<=j->cd e.1 j n=0 then some (gJ e.1 e.2 n e.2.length)else none
theorem kX{x:List Rat}(hM:fp n M)(h:fU M b n=some x):x.length=n∧∀j,j<M.length->mulR M n (fun t=>x.getD t 0) j=b.getD j 0:=by
 unfold fU at h;dsimp only at h;split at h
 ·rename_i h0;injection h with h;have hW:=hJ (b:=b) hM;obtain⟨r1,r2,r3,r4,r5⟩:=dS hW n (Nat.le_succ n);have hpc:=gU (dX M b) n;have hwl:=eG (M:=M) (b:=b);have hl:=dw (dX M b) n;have hxl:x.length=n:=by rw[<-h,j5]
  have hin:∀j,j<(cG (dX M b) n).2.length->x.getD ((cG (dX M b) n).2.getD j 0) 0=cd (cG (dX M b) n).1 j n:=fun j hj=>by
   rw[<-h];exact mn (F:=gJ (cG (dX M b) n).1 (cG (dX M b) n).2 n) (f:=fun i=>cd (cG (dX M b) n).1 i n) (fun i=>gO _ _ n i) (j5 _ _ n) hpc.2.1 r4 _ (aE _) hj
  have hout:∀t,t∉(cG (dX M b) n).2->x.getD t 0=0:=fun t ht=>by rw[<-h];exact rV ht
  refine⟨hxl,fun j hj=>?_⟩;have key:=CJ (M:=dX M b) (x:=CK (fun t=>x.getD t 0) n) hW (c:=n) (Nat.le_succ n) (fun i hi=>?_) j (by rw[hwl];exact hj)
  ·rw[D8 hM hj]at key;grind
  ·unfold mulR;rw[cR,show CK (fun t=>x.getD t 0) n n= -1 by unfold CK;rw[aF (Nat.lt_irrefl n)],cA (g:=fun t=>cd (cG (dX M b) n).1 i t*x.getD t 0) fun t ht=>by unfold CK;rw[if_pos ht]];rcases aO i (cG (dX M b) n).2.length with h1|h1
   ·rw[eS (i:=(cG (dX M b) n).2.getD i 0) (r4 _ (by rw[List.getD,aA h1];exact aV _)) fun t ht hne=>?_,r5 i i h1 (by omega),if_pos rfl,hin i h1]
    ·grind
    ·by_cases hp:t∈(cG (dX M b) n).2
     ·obtain⟨k,hk,rfl⟩:=q8 hp;rw[r5 k i hk (by omega),aF (fun e=>hne (by rw[e])),bC]
     ·rw[hout t hp,bA]
   ·rw[cA (g:=fun _=>0) fun t ht=>by rw[r3 i t h1 (by omega) ht,bC],dQ,h0 i (by rw[<-hwl];exact hi) h1];grind
 ·cases h
theorem mu(hM:fp n M)(h:fU M b n=none):∃y:Nat->Rat,(∀t,t<n->cR (fun j=>y j*cd M j t) M.length=0)∧cR (fun j=>y j*b.getD j 0) M.length≠0:=by
 unfold fU at h;dsimp only at h;split at h
 ·cases h
 ·rename_i h0;obtain⟨i,hi,h1,h2⟩:∃i,i<M.length∧(cG (dX M b) n).2.length<=i∧cd (cG (dX M b) n).1 i n≠0:=by
   refine Decidable.byContradiction fun hno=>h0 fun j hj hr=>Decidable.byContradiction fun h2=>hno ⟨j,hj,hr,h2⟩
  have hW:=hJ (b:=b) hM;have hwl:=eG (M:=M) (b:=b);have hl:=dw (dX M b) n;obtain⟨r1,r2,r3,r4,r5⟩:=dS hW n (Nat.le_succ n);obtain⟨y,hy⟩:=(iq hW n (Nat.le_succ n)).1 i (by omega);rw[hwl]at hy;refine⟨y,fun t ht=>?_,?_⟩
  ·have h3:=hy t (by omega);rw[r3 i t h1 (by omega) ht]at h3;rw[h3];exact cA fun j hj=>by rw[(j0 (b:=b) hM hj).1 ht]
  ·have h3:=hy n (by omega);rw[cA (g:=fun j=>y j*b.getD j 0) fun j hj=>by rw[(j0 (b:=b) (t:=n) hM hj).2]]at h3;rw[<-h3];exact h2
theorem j1{x:Nat->Rat}(hM:fp n M)(h:∀j,j<M.length->mulR M n x j=b.getD j 0):∃z,fU M b n=some z:=by
 cases e:fU M b n with
 |some z=>exact⟨z,rfl⟩
 |none=>
  obtain⟨y,h1,h2⟩:=mu hM e;refine absurd ?_ h2;rw[cA fun j hj=>by rw[<-h j hj,mulR,<-eF],mH,cA (g:=fun _=>0) fun t ht=>?_,dQ];rw[cA (g:=fun j=>y j*cd M j t*x t) fun j _=>(Rat.mul_assoc _ _ _).symm,kO,h1 t ht,bC]
theorem HG(M:List (List Rat))(n:Nat)(x y:Nat->Rat)(j:Nat):mulR M n (fun t=>x t-y t) j=mulR M n x j-mulR M n y j:=by
 unfold mulR;rw[<-rW];exact cA fun t _=>by grind
theorem ra(M:List (List Rat))(b:List Rat):jU M b=dX M b:=rfl
theorem CL{r i t:Nat}(h:i<r):cd (A.take r) i t=cd A i t:=by
 rw[cd,cd,show(A.take r).getD i []=A.getD i [] by rw[List.getD,bM h,<-List.getD]]
theorem uS(A:List (List Rat))(pv:List Nat)(n:Nat):∀k,k<=pv.length->gJ (A.take pv.length) pv n k=gJ A pv n k
 |0,_=>rfl
 |k+1,h=>by rw[gO,gO,uS A pv n k (by omega),CL (by omega)]
theorem uT(A:List (List Rat))(pv:List Nat)(n c:Nat):∀k,k<=pv.length->fZ (A.take pv.length) pv n c k=fZ A pv n c k
 |0,_=>rfl
 |k+1,h=>by rw[gN,gN,uT A pv n c k (by omega),CL (by omega)]
abbrev cN(M:List (List Rat))(n:Nat):List (List Rat):=eE (cG M n).1 (cG M n).2 n n
theorem D9(hM:fp n M)(hW:Al M n B):kD M n=cN M n:=by
 obtain⟨e1,e2⟩:=kW hM hW;unfold kD cN eE;rw[e1,e2];exact List.map_congr_left fun c _=>uT _ _ n c _ (aE _)
theorem tN(hM:fp n M)(hW:Al (dX M b) (n+1) B):mr M b n=fU M b n:=by
 have hWl:=hJ (b:=b) hM;obtain⟨e1,e2⟩:=kW hWl hW;have hl:=dw (dX M b) n;have hwl:=eG (M:=M) (b:=b);obtain⟨r1,r2,r3,r4,r5⟩:=dS hWl n (Nat.le_succ n);have e:cG (dX M b) (n+1)=db (cG (dX M b) n) n:=by
  unfold cG;rw[bT,List.foldl_append];rfl
 unfold mr fU;dsimp only
 rcases iy n r2 with⟨k1,k2⟩|⟨k,k1,k2,k3,k4⟩
 ·rw[aF (by rw[ra,e1,e,k1];exact fun h=>by have:=r4 n h;omega),if_pos fun j hj hr=>k2 j hr (by omega),ra,e1,e2,e,k1,uS _ _ n _ (aE _)]
 ·rw[if_pos (by rw[ra,e1,e,k4];simp),aF fun h=>k3 (h k (by omega) k1)]
theorem HH(hM:fp n M){x:List Rat}(h:∀j,j<M.length->mulR M n (fun t=>x.getD t 0) j=0):Diff (cG M n).1 (cG M n).2 n x:=by
 obtain⟨r1,r2,r3,r4,r5⟩:=dS hM n (aE _);have hpc:=gU M n;have hl:=dw M n;refine⟨hpc.2.1,r4,r2,r5,fun j hj=>?_⟩;rw[<-zw];have h1:=HF hM h (aE n) j (by omega);unfold mulR at h1;rw[h1,cd,List.getD,List.getElem?_eq_none (by rw[r1.getD hj];exact aE _)];rfl
theorem kY(M:List (List Rat))(n:Nat):(cN M n).length=(iR (cG M n).2 n).length:=by unfold cN eE;rw[aL]
theorem xW(M:List (List Rat))(n:Nat){k:Nat}(hk:k<(cN M n).length):(cN M n).getD k []=fZ (cG M n).1 (cG M n).2 n ((iR (cG M n).2 n).getD k 0) (cG M n).2.length:=by
 obtain⟨r,hr⟩:∃r,(cN M n)[k]? =some r:=⟨_,aA hk⟩
 rw[List.getD,hr];exact(mo hr).2
theorem mw(M:List (List Rat))(n:Nat):fp n (cN M n):=fun r hr=>by
 obtain⟨k,hk⟩:=aR hr;rw[(mo hk).2,j4]
theorem rb(hM:fp n M){k:Nat}(hk:k<(cN M n).length):∀j,j<M.length->mulR M n (cd (cN M n) k) j=0:=by
 obtain⟨r1,r2,r3,r4,r5⟩:=dS hM n (aE _);have hpc:=gU M n;have hl:=dw M n;have hf:=kV.1 (oN (by rw[<-kY];exact hk));refine CJ hM (aE n) fun i hi=>?_;have hrow:=xW M n hk;generalize hc:(iR (cG M n).2 n).getD k 0=c at hf hrow;have hin:∀j,j<(cG M n).2.length->cd (cN M n) k ((cG M n).2.getD j 0)= -(cd (cG M n).1 j c):=fun j hj=>by
  rw[cd,hrow];exact mn (F:=fZ (cG M n).1 (cG M n).2 n c) (f:=fun i=> -(cd (cG M n).1 i c)) (fun i=>gN _ _ n c i) (j4 _ _ n c) hpc.2.1 r4 _ (aE _) hj
 have hout:∀t,t∉(cG M n).2->cd (cN M n) k t=if t=c then 1 else 0:=fun t ht=>by rw[cd,hrow];exact oM ht hf.1
 unfold mulR;rcases aO i (cG M n).2.length with h1|h1
 ·have hpi:(cG M n).2.getD i 0∈(cG M n).2:=by rw[List.getD,aA h1];exact aV _
  have hne:(cG M n).2.getD i 0≠c:=fun e=>hf.2 (e▸hpi);have e:cR (fun t=>cd (cG M n).1 i t*cd (cN M n) k t) n=cR (fun t=>(if t=(cG M n).2.getD i 0 then -(cd (cG M n).1 i c)else 0)+(if t=c then cd (cG M n).1 i c else 0)) n:=by
   refine cA fun t ht=>?_;by_cases hp:t∈(cG M n).2
   ·obtain⟨j,hj,rfl⟩:=q8 hp;rw[hin j hj,r5 j i hj (by omega),aF (show ¬(cG M n).2.getD j 0=c from fun e=>hf.2 (e▸hp)),bV];by_cases hij:i=j
    ·rw[if_pos hij,if_pos (by rw[hij]),hij,bp]
    ·have hne2:(cG M n).2.getD j 0≠(cG M n).2.getD i 0:=fun e2=>hij (by
      rcases bm i j with h5|h5|h5
      ·have:(cG M n).2.getD i 0<(cG M n).2.getD j 0:=Gm hpc.2.1 h5 hj;omega
      ·exact h5
      ·have:(cG M n).2.getD j 0<(cG M n).2.getD i 0:=Gm hpc.2.1 h5 h1
       omega)
     rw[aF hij,aF hne2,bC]
   ·rw[hout t hp,aF (show ¬t=(cG M n).2.getD i 0 from fun e2=>hp (e2▸hpi)),Rat.zero_add];by_cases htc:t=c
    ·rw[if_pos htc,if_pos htc,htc,Rat.mul_one]
    ·rw[aF htc,aF htc,bA]
  rw[e,fO,eS (i:=(cG M n).2.getD i 0) (r4 _ hpi) fun t _ hne=>aF hne,eS (i:=c) hf.1 fun t _ hne=>aF hne,if_pos rfl,if_pos rfl];grind
 ·rw[cA (g:=fun _=>0) fun t ht=>by rw[r3 i t h1 (by omega) ht,bC],dQ]
theorem Ed(hM:fp n M)(h:∀j,j<M.length->mulR M n x j=0):∃c:Nat->Rat,∀t,t<n->x t=cR (fun k=>c k*cd (cN M n) k t) (cN M n).length:=by
 obtain⟨l,hl⟩:∃l,l=(List.range n).map x:=⟨_,rfl⟩
 have hx:∀t,t<n->l.getD t 0=x t:=fun t ht=>by rw[hl,List.getD,aM,bS ht];rfl
 have hd:=HH (x:=l) hM fun j hj=>Eq.trans (cA fun t ht=>congrArg (cd M j t* ·) (hx t ht)) (h j hj);refine⟨fun k=>l.getD ((iR (cG M n).2 n).getD k 0) 0,fun t ht=>?_⟩;have h1:=hd.rest ht;obtain⟨r1,r2,r3,r4,r5⟩:=dS hM n (aE _);have h0:(gJ (cG M n).1 (cG M n).2 n (cG M n).2.length).getD t 0=0:=by
  by_cases hp:t∈(cG M n).2
  ·obtain⟨j,hj,rfl⟩:=q8 hp;rw[hd.Lh hj,cd,List.getD,List.getElem?_eq_none (by rw[r1.getD (by omega)];exact aE _)];rfl
  ·exact rV hp
 rw[h0,bC,bV,hx t ht,zx]at h1;rw[h1,kY];exact cA fun k hk=>by rw[cd,xW M n (by rw[kY];exact hk)]
theorem Ee{c:Nat->Rat}(h:∀t,t<n->cR (fun k=>c k*cd (cN M n) k t) (cN M n).length=0):∀k,k<(cN M n).length->c k=0:=fun k hk=>by
 have hk2:k<(iR (cG M n).2 n).length:=by rw[<-kY];exact hk
 have hf:=kV.1 (oN hk2);have h1:=h _ hf.1;obtain⟨r,hr⟩:∃r,(cN M n)[k]? =some r:=⟨_,aA hk⟩
 rw[eS hk fun i hi hne=>?_]at h1
 ·rw[cd,show(cN M n).getD k []=r by rw[List.getD,hr];rfl,xG hr hr,if_pos rfl,Rat.mul_one]at h1;exact h1
 ·obtain⟨s,hs⟩:∃s,(cN M n)[i]? =some s:=⟨_,aA hi⟩
  rw[cd,show(cN M n).getD i []=s by rw[List.getD,hs];rfl,xG hr hs,aF hne,bA]
end
theorem xX(p:Nat->Bool):∀l:List Nat,l.length=(l.filter p).length+(l.filter fun c=> !p c).length
 |[]=>rfl
 |c::l=>by
  have ih:=xX p l;rw[List.filter_cons,List.filter_cons]
  cases p c with
  |true=>simp;omega
  |false=>simp;omega
theorem HI{n:Nat}(hn:pv.Nodup)(hl:∀p∈pv,p<n):(iR pv n).length=n-pv.length:=by
 have h1:(List.range n).length=((List.range n).filter fun c=>decide (c∉pv)).length+((List.range n).filter fun c=>decide (c∈pv)).length:=by
  refine(xX (fun c=>decide (c∉pv)) (List.range n)).trans ?_;congr 2;refine List.filter_congr fun c _=>?_;by_cases h:c∈pv<;>simp[h]
 have h2:((List.range n).filter fun c=>decide (c∈pv)).length=pv.length:=by
  refine(List.Perm.length_eq ?_);refine(List.perm_ext_iff_of_nodup (List.Pairwise.filter _ List.nodup_range) hn).2 fun c=>?_;rw[List.mem_filter,List.mem_range,decide_eq_true_eq];exact⟨fun h=>h.2,fun h=>⟨hl c h,h⟩⟩
 rw[List.length_range]at h1;unfold iR;omega
theorem xY{n:Nat}(hM:fp n M):(cN M n).length=n-(cG M n).2.length:=by
 obtain⟨r1,r2,r3,r4,r5⟩:=dS hM n (aE _);have hpc:=gU M n;rw[kY];exact HI (hpc.2.1.imp fun h=>Nat.ne_of_lt h) r4
end Go.Ex
namespace Go.Ex
open Go Go.Sx Go.Proofs
variable{after:Array Edge}{z:Int}{p:Int×Int×Rat}{M:List (List Rat)}{css:List (List Value)}{l:List Int}{cs:List Value}{j:Nat}{C S S':Nat->Prop}{guard:Option (Nat×Bool)}{a:Option Addr}{dst:Option Tmp}{K:SV->Hp->Nat->Iv->World->Prop}{v:Value}{w w2:World}{f:fT}
theorem cO.nil:cO w S (.slice none 0 0) []:=⟨[],⟨by decide,rfl,fun u hu=>absurd hu (by simp),none,0,rfl,aE _,fun j u hu=>absurd hu (by simp)⟩,rfl,fun i u x h1 h2=>absurd h2 (by simp)⟩
theorem dO.nil:dO w S (.slice none 0 0) []:=⟨by decide,rfl,fun u hu=>absurd hu (by simp),none,0,rfl,aE _,fun j u hu=>absurd hu (by simp)⟩
theorem BU(M:List (List Rat)):(dF M 0).1=[]∧(dF M 0).2.1=[]∧(dF M 0).2.2=[]:=by simp[dF,cV]
theorem BV(M:List (List Rat)):kD M 0=[]:=by simp[kD,eE]
set_option maxHeartbeats 1000000 in
theorem uq(hC:Old C w)(hS:Old S w)(hM:kJ w C S v M)(hlen:fp 0 M)(hR:M.length<=1000):
  du PG N.fE #[.agg #[v,.int .i64 0],.int .i64 0] w (eD w fun v' w2=>v'= .agg #[.slice none 0 0,.int .i64 0,.slice none 0 0,.slice none 0 0]):=by
 have hw:cQ w.heap.size w w:=cQ.refl;obtain⟨am,cm,rfl,hcm,hmm⟩:=kJ.shape hM;unfold maxLen at hmm;refine jB (by simp) ?_;refine⟨0,0,rfl,rfl,aE _,by omega,by omega,World,fun z=>⟨[(1,.o (.v (.int .i64 0))),(2,.o (.p 0 0)),(4,.o (.p 1 0)),(5,.o (.p 2 0)),(6,.o (.s 3 0 0 0)),(27,.o (.v (.int .i64 0))),(28,.o (.v (.int .i64 0)))],[(3,.arr T.int []),(2,.box T.dK [.v (.slice none 0 0),.v (.int .i64 0),.v (.slice none 0 0),.v (.slice none 0 0)]),(1,.box T.dK [.v (.slice none 0 0),.v (.int .i64 0),.v (.slice none 0 0),.v (.slice none 0 0)]),(0,.box T.dR [.v (.slice am M.length cm),.v (.int .i64 0)])],4,[],z⟩,fun z=>0,fun z=>cQ w.heap.size w z,?_,?_⟩
 ·intro O w' r3;exact⟨w',hw.tr r3.cI,Sub.gn [] r3⟩
 rintro w1 hw;dsimp only at hw ⊢
 refine⟨Nat×World,fun z=>⟨[(38,.o (.v (.int .i64 ((z.1:Nat):Int)))),(1,.o (.v (.int .i64 0))),(2,.o (.p 0 0)),(4,.o (.p 1 0)),(5,.o (.p 2 0)),(6,.o (.s 3 0 0 0)),(36,.o (.v (.slice am M.length cm))),(37,.o (.v (.int .i64 M.length)))],[(3,.arr T.int []),(2,.box T.dK [.v (.slice none 0 0),.v (.int .i64 0),.v (.slice none 0 0),.v (.slice none 0 0)]),(1,.box T.dK [.v (.slice none 0 0),.v (.int .i64 0),.v (.slice none 0 0),.v (.slice none 0 0)]),(0,.box T.dR [.v (.slice am M.length cm),.v (.int .i64 0)])],5,[],z.2⟩,fun z=>M.length-z.1,
  fun z=>z.1<=M.length∧cQ w.heap.size w z.2,?_,?_⟩
 ·intro O w' r3;exact⟨(0,w'),⟨aP _,hw.tr r3.cI⟩,Sub.gn [] r3⟩
 rintro⟨i,w1⟩ ⟨hi,hw⟩;dsimp only at hi hw ⊢;refine dH.mk (fun hib=>?_) (fun hib=>?_)
 ·have hib:i<M.length:=by simpa using hib
  obtain⟨x,hx⟩:∃r,M[i]? =some r:=⟨_,aA hib⟩
  have hxl:=hlen x (aD hx);obtain rfl:=List.eq_nil_of_length_eq_zero hxl;obtain⟨adm,um,ham,hRm,km1,km2⟩:=kJ.load hM hx;obtain⟨css,⟨-,g1,g2,a0,c0,rfl,g4,g5⟩,hcl,hc4,hcs⟩:=hRm;obtain rfl:=List.eq_nil_of_length_eq_zero hcl;refine⟨adm,ham,by omega,.slice a0 0 c0,rd1 km2 hw (hC _ km1),?_⟩;refine .inl ?_;refine⟨[],rfl,g2,fun O w' r hpos=>absurd hpos (by simp),rfl,by omega,by unfold maxLen;omega,World,fun z=>⟨[(9,.o (.w 6 0)),(46,.o (.v (.int .i64 0))),(47,.o (.v (.int .i64 0))),(2,.o (.p 0 0)),(4,.o (.p 1 0)),(5,.o (.p 2 0)),(6,.o (.s 3 0 0 0)),(8,.o (.v (.int .i64 ((i:Nat):Int)))),(36,.o (.v (.slice am M.length cm))),(37,.o (.v (.int .i64 M.length))),(38,.o (.v (.int .i64 ((i:Nat):Int)))),(1,.o (.v (.int .i64 0)))],[(6,.vec T.Rat 4 []),(3,.arr T.int []),(2,.box T.dK [.v (.slice none 0 0),.v (.int .i64 0),.v (.slice none 0 0),.v (.slice none 0 0)]),(1,.box T.dK [.v (.slice none 0 0),.v (.int .i64 0),.v (.slice none 0 0),.v (.slice none 0 0)]),(0,.box T.dR [.v (.slice am M.length cm),.v (.int .i64 0)])],7,[],z⟩,fun z=>0,fun z=>cQ w.heap.size w z,?_,?_⟩
  ·intro O w' r3;exact⟨w',hw.tr r3.cI,Sub.gn [] r3⟩
  rintro w1 hw;dsimp only at hw ⊢;refine⟨World,fun z=>⟨[(9,.o (.w 6 0)),(12,.o (.v (.int .i64 0))),(2,.o (.p 0 0)),(4,.o (.p 1 0)),(5,.o (.p 2 0)),(6,.o (.s 3 0 0 0)),(8,.o (.v (.int .i64 ((i:Nat):Int)))),(36,.o (.v (.slice am M.length cm))),(37,.o (.v (.int .i64 M.length))),(38,.o (.v (.int .i64 ((i:Nat):Int)))),(1,.o (.v (.int .i64 0)))],[(6,.vec T.Rat 4 []),(3,.arr T.int []),(2,.box T.dK [.v (.slice none 0 0),.v (.int .i64 0),.v (.slice none 0 0),.v (.slice none 0 0)]),(1,.box T.dK [.v (.slice none 0 0),.v (.int .i64 0),.v (.slice none 0 0),.v (.slice none 0 0)]),(0,.box T.dR [.v (.slice am M.length cm),.v (.int .i64 0)])],7,[],z⟩,fun z=>0,fun z=>cQ w.heap.size w z,?_,?_⟩
  ·intro O w' r3;exact⟨w',hw.tr r3.cI,Sub.gn [] r3⟩
  rintro w1 hw;dsimp only at hw ⊢;refine⟨((i+1:Nat):Int),wo,?_⟩;intro ρ3 w3 r3;exact⟨(i+1,w3),⟨hib,hw.tr r3.cI⟩,Sub.gn [] r3,by dsimp only;omega⟩
 refine⟨World,fun z=>⟨[(4,.o (.p 1 0)),(5,.o (.p 2 0)),(17,.o (.p 5 0)),(159,.o (.s 3 0 0 0)),(160,.o (.v (.int .i64 0))),(161,.o (.v (.int .i64 0)))],[(5,.box T.dK [.v (.slice none 0 0),.v (.int .i64 0),.v (.slice none 0 0),.v (.slice none 0 0)]),(3,.arr T.int []),(2,.box T.dK [.v (.slice none 0 0),.v (.int .i64 0),.v (.slice none 0 0),.v (.slice none 0 0)]),(1,.box T.dK [.v (.slice none 0 0),.v (.int .i64 0),.v (.slice none 0 0),.v (.slice none 0 0)]),(0,.box T.dR [.v (.slice am M.length cm),.v (.int .i64 0)])],6,[],z⟩,fun z=>0,fun z=>cQ w.heap.size w z,?_,?_⟩
 ·intro O w' r3;exact⟨w',hw.tr r3.cI,Sub.gn [] r3⟩
 rintro w1 hw;dsimp only at hw ⊢;intro ρe we re;exact⟨_,rfl,hw.tr re.cI,rfl⟩
theorem EJ(hC:Old C w)(hS:Old S w)(hM:kJ w C S v M)(hlen:fp 0 M)(hR:M.length<=1000):
  du PG N.fE #[.agg #[v,.int .i64 0],.int .i64 0] w (eD w fun v' w2=>∃vr vp vf,v'= .agg #[vr,.int .i64 0,vp,vf]∧cO w2 (Nw S w w2) vr (dF M 0).1∧dO w2 (Nf w w2) vp (dF M 0).2.1∧dO w2 (Nf w w2) vf (dF M 0).2.2):=by
 refine(uq hC hS hM hlen hR).mono fun v1 w1 h1=>?_;obtain⟨_,e,hb,rfl⟩:=h1;obtain⟨e1,e2,e3⟩:=BU M;rw[e1,e2,e3];exact⟨_,e,hb,_,_,_,rfl,cO.nil,dO.nil,dO.nil⟩
theorem yi{n h:Nat}(hC:Old C w)(hS:Old S w)(hM:kJ w C S v M)(hlen:fp n M)(hR:M.length<=1000)(hn:n<=1000)(hB:BK M n h)(hh:3*h<=90000):
  du PG N.fE #[.agg #[v,.int .i64 n],.int .i64 n] w (eD w fun v' w2=>∃vr vp vf,v'= .agg #[vr,.int .i64 n,vp,vf]∧cO w2 (Nw S w w2) vr (dF M n).1∧dO w2 (Nf w w2) vp (dF M n).2.1∧dO w2 (Nf w w2) vf (dF M n).2.2):=by
 rcases bJ n with h0|h0
 ·subst h0;exact EJ hC hS hM hlen hR
 ·exact tz hC hS hM hlen h0 hn hR (aE _) hB hh
set_option maxHeartbeats 1000000 in
theorem EK(hC:Old C w)(hS:Old S w)(hM:kJ w C S v M)(hlen:fp 0 M)(hR:M.length<=1000):
  du PG N.fq #[.agg #[v,.int .i64 0]] w (eD w fun v' w2=>cO w2 (Nf w w2) v' (kD M 0)):=by
 have hw:cQ w.heap.size w w:=cQ.refl;obtain⟨am,cm,rfl,hcm,hmm⟩:=kJ.shape hM;unfold maxLen at hmm;refine jC (by simp) ?_
 refine bu (cH (Φ:=fun _ w' v w2=>v= .agg #[.slice none 0 0,.int .i64 0,.slice none 0 0,.slice none 0 0]) (fun O w' r=>by
  obtain⟨rv,m1,m2,m3⟩:=hM
  exact uq (C:=C) (S:=S) (oS hC r) (oS hS r) ⟨rv,m1.cB fun g hg=>(hw.tr r.cI).block g (hC g hg),m2,fun i u x h1 h2=>cF.cB (m3 i u x h1 h2) fun g hg=>(hw.tr r.cI).block g (hS g hg)⟩ hlen hR) ?_)
 rintro O wa1 v1 wb1 r he hb1 rfl;replace hw:=hw.tr hb1;generalize (wa1.heap.size,wb1.heap.size)::[]=iv1 at*
 refine⟨0,0,rfl,rfl,aE _,by omega,by omega,World×Iv,fun z=>⟨[(1,.o (.p 0 0)),(3,.o (.p 1 0)),(4,.o (.s 2 0 0 0)),(20,.o (.v (.slice none 0 0))),(21,.o (.v (.int .i64 0))),(22,.o (.v (.int .i64 0)))],[(2,.arr T.bool []),(1,.box T.dK [.v (.slice none 0 0),.v (.int .i64 0),.v (.slice none 0 0),.v (.slice none 0 0)]),(0,.box T.dR [.v (.slice am M.length cm),.v (.int .i64 0)])],3,z.2,z.1⟩,fun z=>0,fun z=>cQ w.heap.size w z.1,?_,?_⟩
 ·intro O w' r3;exact⟨(w',_),hw.tr r3.cI,Sub.gn [] r3⟩
 rintro⟨w1,iv⟩ hw;dsimp only at hw ⊢;refine⟨World×Iv,fun z=>⟨[(32,.o (.v (.int .i64 0))),(7,.o (.v (.slice none 0 0))),(1,.o (.p 0 0)),(3,.o (.p 1 0)),(4,.o (.s 2 0 0 0)),(31,.o (.v (.int .i64 0)))],[(2,.arr T.bool []),(1,.box T.dK [.v (.slice none 0 0),.v (.int .i64 0),.v (.slice none 0 0),.v (.slice none 0 0)]),(0,.box T.dR [.v (.slice am M.length cm),.v (.int .i64 0)])],3,z.2,z.1⟩,fun z=>0,fun z=>cQ w.heap.size w z.1,?_,?_⟩
 ·intro O w' r3;exact⟨(w',_),hw.tr r3.cI,Sub.gn [] r3⟩
 rintro⟨w1,iv⟩ hw;dsimp only at hw ⊢;intro ρe we re;rw[BV];exact⟨_,rfl,hw.tr re.cI,cO.nil⟩
theorem EL{n h:Nat}(hC:Old C w)(hS:Old S w)(hM:kJ w C S v M)(hlen:fp n M)(hR:M.length<=1000)(hn:n<=1000)(hB:BK M n h)(hAb:Ht (dF M n).1 h)(hh:3*h<=90000):
  du PG N.fq #[.agg #[v,.int .i64 n]] w (eD w fun v' w2=>cO w2 (Nf w w2) v' (kD M n)):=by
 rcases bJ n with h0|h0
 ·subst h0;exact EK hC hS hM hlen hR
 ·exact GA hC hS hM hlen h0 hn hR hB hAb hh
theorem pV{k:Nat}(h:∀cs∈css,cs.length=k):css.flatten.length=css.length*k:=by
 induction css with
 |nil=>simp
 |cons c r ih=>rw[List.flatten_cons,List.length_append,h c aI,ih fun x hx=>h x (aB _ hx),List.length_cons,Nat.succ_mul];omega
theorem uA{k:Nat}(h:∀cs∈css,cs.length=k)(hj:css[j]? =some cs)(i:Nat)(u:Value)(hu:cs[i]? =some u):css.flatten[j*k+i]? =some u:=by
 induction css generalizing j with
 |nil=>cases hj
 |cons c r ih=>
  have hc:=h c aI;have hi:=(aC.1 hu).1
  cases j with
  |zero=>
   injection hj with hj;subst hj;rw[List.flatten_cons,Nat.zero_mul,aU,aK hi];exact hu
  |succ j=>
   rw[List.flatten_cons,aN (by rw[hc,Nat.succ_mul];omega),hc,show(j+1)*k+i-k=j*k+i by rw[Nat.succ_mul];omega];exact ih (fun x hx=>h x (aB _ hx)) hj
def eH{α:Type}(k:Nat)(P:World->(Nat->Prop)->List Value->α->Prop)(w:World)(S:Nat->Prop)(v:Value)(xs:List α):Prop:=
 ∃css:List (List Value),jN w S k v css.flatten xs.length∧css.length=xs.length∧(∀cs∈css,cs.length=k)∧∀(j:Nat) cs x,css[j]? =some cs->xs[j]? =some x->P w S cs x
section
variable{α:Type}{k:Nat}{P:World->(Nat->Prop)->List Value->α->Prop}{w w2:World}{S S':Nat->Prop}{v:Value}{xs:List α}
theorem eH.cB(hP:∀cs x,P w S cs x->P w2 S cs x)(h:eH k P w S v xs)(hk:∀g,S g->w2.heap[g]? =w.heap[g]?):eH k P w2 S v xs:=by
 obtain⟨css,h1,h2,h3,h4⟩:=h;exact⟨css,h1.cB hk,h2,h3,fun j cs x k1 k2=>hP cs x (h4 j cs x k1 k2)⟩
theorem eH.cC(hP:∀cs x,P w S cs x->P w S' cs x)(h:eH k P w S v xs)(hk:∀g,S g->S' g):eH k P w S' v xs:=by
 obtain⟨css,h1,h2,h3,h4⟩:=h;exact⟨css,h1.cC hk,h2,h3,fun j cs x k1 k2=>hP cs x (h4 j cs x k1 k2)⟩
theorem eH.shape(h:eH k P w S v xs):∃a c,v= .slice a xs.length c∧xs.length<=c∧xs.length<=maxLen:=by
 obtain⟨css,⟨h0,_,_,a,c,h1,h2,_⟩,_⟩:=h;exact⟨a,c,h1,h2,h0⟩
theorem eH.load{m c:Nat}{x:α}(hk:0<k)(h:eH k P w S (.slice a m c) xs)(hq:xs[j]? =some x):
  ∃ad cs,a=some ad∧P w S cs x∧cs.length=k∧∀i u,cs[i]? =some u->S ad.block∧w.cell? ((ad.add (j*k)).add i)=some u:=by
 obtain⟨css,⟨h0,h1,h2,a',c',e,h3,h4⟩,hl,hl4,hf⟩:=h;injection e with e1 e2 e3;subst e1;obtain⟨cs,hcs⟩:∃cs,css[j]? =some cs:=⟨_,aA (by rw[hl];exact(aC.1 hq).1)⟩
 have hl:=hl4 cs (aD hcs);obtain⟨ad,k1,k2,k3⟩:=h4 (j*k+0) _ (uA hl4 hcs 0 _ (aA (show 0<cs.length by omega)));refine⟨ad,cs,k1,hf j cs x hcs hq,hl,fun i u hu=>?_⟩;obtain⟨ad2,m1,m2,m3⟩:=h4 (j*k+i) u (uA hl4 hcs i u hu);rw[k1]at m1;injection m1 with m1;subst m1;refine⟨m2,?_⟩;rw[<-m3];have:(ad.add (j*k)).add i=ad.add (j*k+i):=by
  unfold Addr.add;split<;>split<;>simp_all<;>omega
 rw[this]
end
def FF(_w:World)(_S:Nat->Prop)(cs:List Value)(p:Int×Int×Int):Prop:=cs=[.int .i64 p.1,.int .i64 p.2.1,.int .i64 p.2.2]
def nh(_w:World)(_S:Nat->Prop)(cs:List Value)(p:Ld):Prop:=cs=[.int .i64 p.1,.int .i64 p.2.1,.int .i64 p.2.2.1,.int .i64 p.2.2.2]
def BO(w:World)(S:Nat->Prop)(cs:List Value)(p:Int×Int×Rat):Prop:=∃b a n c b2 a2 n2 c2,cs=[.int .i64 p.1,.int .i64 p.2.1,.bool b,.slice a n c,.bool b2,.slice a2 n2 c2]∧eX w S (.agg #[.bool b,.slice a n c,.bool b2,.slice a2 n2 c2]) p.2.2
theorem BO.cB(h:BO w S cs p)(hk:∀g,S g->w2.heap[g]? =w.heap[g]?):BO w2 S cs p:=by
 obtain⟨b,a,n,c,b2,a2,n2,c2,h1,h2⟩:=h;exact⟨b,a,n,c,b2,a2,n2,c2,h1,h2.cB hk⟩
theorem BO.cC(h:BO w S cs p)(hk:∀g,S g->S' g):BO w S' cs p:=by
 obtain⟨b,a,n,c,b2,a2,n2,c2,h1,h2⟩:=h;exact⟨b,a,n,c,b2,a2,n2,c2,h1,h2.cC hk⟩
abbrev lh:=eH 3 FF
abbrev dG:=eH 4 nh
abbrev Hm:=eH 6 BO
structure dY(w:World)(S:Nat->Prop)(vn vb vs:Value)(f:fT):Prop where
 nodes:lh w S vn f.nodes
 bars:Hm w S vb f.bars
 cS:Hm w S vs f.cS
section
variable{S S':Nat->Prop}{H:Hp}{nx:Nat}{iv iv':Iv}{B:Nat}{w w' w2:World}{O:Nat->Sx.dU}{v vn vb vs:Value}{f:fT}{l:List Ld}
theorem dG.cB(h:dG w S v l)(hk:∀g,S g->w2.heap[g]? =w.heap[g]?):dG w2 S v l:=eH.cB (w:=w) (fun _ _ h=>h) h hk
theorem dG.cC(h:dG w S v l)(hk:∀g,S g->S' g):dG w S' v l:=eH.cC (S:=S) (fun _ _ h=>h) h hk
theorem dY.cB(h:dY w S vn vb vs f)(hk:∀g,S g->w2.heap[g]? =w.heap[g]?):dY w2 S vn vb vs f:=
 ⟨eH.cB (w:=w) (fun _ _ h=>h) h.nodes hk,eH.cB (fun _ _ h=>h.cB hk) h.bars hk,eH.cB (fun _ _ h=>h.cB hk) h.cS hk⟩
theorem dY.cC(h:dY w S vn vb vs f)(hk:∀g,S g->S' g):dY w S' vn vb vs f:=
 ⟨eH.cC (S:=S) (fun _ _ h=>h) h.nodes hk,eH.cC (fun _ _ h=>h.cC hk) h.bars hk,eH.cC (fun _ _ h=>h.cC hk) h.cS hk⟩
theorem dY.rel(h:dY w (Cv S B iv) vn vb vs f)(r:Rel H nx iv B w O w')(hS:∀g,S g->g<B):dY w' (Cv S B iv) vn vb vs f:=h.cB fun _ hg=>Rel.same r hS hg
theorem dY.shape(h:dY w S vn vb vs f):∃an cn ab cb aq cs,vn= .slice an f.nodes.length cn∧vb= .slice ab f.bars.length cb∧vs= .slice aq f.cS.length cs∧f.nodes.length<=maxLen∧f.bars.length<=maxLen∧f.cS.length<=maxLen:=by
 obtain⟨an,cn,h1,_,h2⟩:=h.nodes.shape;obtain⟨ab,cb,h3,_,h4⟩:=h.bars.shape;obtain⟨aq,cs,h5,_,h6⟩:=h.cS.shape;exact⟨an,cn,ab,cb,aq,cs,h1,h3,h5,h2,h4,h6⟩
end
theorem ye{P:Program}{τ:lu}{B nx:Nat}{l:Env}{H:Hp}{iv:Iv}(hτ:fG P τ){t ty len e sz by_:Nat}{ag:Bool}{ze ze2:List Value}{ik ik2:IntKind}{b2 tag2 al2 e0:Nat}{fs fs2:List (Nat×Nat)}{x i:Operand}{pos:String}{vx:SV}{cs:Array Value}{k:IntKind}{m:Int}{u:Value}
  (ht:τ t=some ⟨sz,ag,by_,ze,6,ik,e,len,fs⟩) (hte:τ e=some ⟨1,false,b2,ze2,tag2,ik2,e0,al2,fs2⟩) (hx:ev l x=some vx) (hxd:∀O,vx.den O= .agg cs) (hi:ev l i=some (.o (.v (.int k m)))) (hm:0<=m∧m<len) (hc:cs[m.toNat]? =some u)
  (hK:∀O w',Rel H nx iv B w O w'->K (.o (.v u)) H nx iv w'):vz P B ⟨dst,.index t x i,ty,pos,after,guard⟩ l H nx iv w K:=by
 have hto:=(hτ t _ ht).i6 rfl;have hteo:=hτ e _ hte;refine DQ hto (fun w=>hteo.sizeOf w) (fun w j v hv=>?_) hx hxd hi hm hc hK;simp[part,hteo.isAgg,hv]
structure ie(w:World)(B:Nat)(iv:Iv)(rv:List Value)(n:Nat)(M:List (List Int)):Prop where
 len:rv.length=M.length
 wid:∀l∈M,l.length=n
 row:∀(i:Nat) v l,rv[i]? =some v->M[i]? =some l->w.ownsRow 0 T.int 1 v n (l.map fun z=>.int .i64 z)
 DF:∀(i j:Nat) a b g,rv[i]? =some a->rv[j]? =some b->a.ownBlock=some g->b.ownBlock=some g->i=j
 new:∀g,Ob rv g->Cv (fun _=>False) B iv g
section
variable{H:Hp}{nx n:Nat}{iv iv':Iv}{B:Nat}{w w' w2:World}{O:Nat->Sx.dU}{rv:List Value}{M:List (List Int)}
theorem ie.nil:ie w B iv [] n []:=⟨rfl,fun l h=>(by cases h),fun i v l h=>(by cases h),fun i j a b g h=>(by cases h),fun g ⟨v,hv,_⟩=>by cases hv⟩
theorem ie.cB(h:ie w B iv rv n M)(hk:∀g,Cv (fun _=>False) B iv g->w2.heap[g]? =w.heap[g]?):ie w2 B iv rv n M:=
 ⟨h.len,h.wid,fun i v l h1 h2=>ownsRow.cB (h.row i v l h1 h2) fun g hg=>hk g (h.new g ⟨v,aD h1,hg⟩),h.DF,h.new⟩
theorem ie.rel(h:ie w B iv rv n M)(r:Rel H nx iv B w O w'):ie w' B iv rv n M:=h.cB fun _ hg=>Rel.same r (gu B) hg
theorem ie.mono(h:ie w B iv rv n M)(hm:∀p,p∈iv->p∈iv'):ie w B iv' rv n M:=⟨h.len,h.wid,h.row,h.DF,fun g hg=>(h.new g hg).mono hm⟩
theorem ie.bz(h:ie w B iv rv n M)(r:Rel H nx iv B w O w')(he:Ext w' w2)(hm:∀p,p∈iv->p∈iv'):ie w2 B iv' rv n M:=
 ((h.rel r).cB fun g hg=>he.block g (Rel.old r (gu B) g hg)).mono hm
theorem ie.form(hM:ie w B iv rv n M){i:Nat}(hv:rv[i]? =some v):∃a c,v= .slice a n c:=by
 obtain⟨l,hl⟩:∃l,M[i]? =some l:=⟨_,aA (by rw[<-hM.len];exact(aC.1 hv).1)⟩
 obtain⟨a,c,h,_⟩:=jh (hM.row i v l hv hl);exact⟨a,c,h⟩
theorem ie.one(hM:ie w B iv rv n M):∀u∈rv,u.oneCell'=true:=fun u hu=>by
 obtain⟨i,hi⟩:=aR hu;obtain⟨a,c,rfl⟩:=hM.form hi;rfl
theorem ie.load(hM:ie w B iv rv n M){i k:Nat}{c:Nat}(hv:rv[i]? =some (.slice a n c))(hl:M[i]? =some l)(hk:l[k]? =some z):
  ∃ad,a=some ad∧Cv (fun _=>False) B iv ad.block∧w.cell? (ad.add (k*1))=some (.int .i64 z):=by
 have h:=hM.row i _ l hv hl;have hlen:=hM.wid l (aD hl);rcases h.2 with⟨_,h0⟩|⟨g,cap,cur,e,_⟩
 ·have:=(aC.1 hk).1;omega
 ·injection e with e;refine⟨⟨g,0,none⟩,e,hM.new g ⟨_,aD hv,by rw[e];rfl⟩,?_⟩;have:=h.cells (g:=g) (by rw[e];rfl) k (.int .i64 z) (by rw[aM,hk];rfl);rw[ai];exact this
theorem ie.store(hM:ie w B iv rv n M)(r:Rel H nx iv B w O w'){i k:Nat}{c:Nat}(hv:rv[i]? =some (.slice a n c))(hl:M[i]? =some l)(hk:k<n):
  ∃g,a=some ⟨g,0,none⟩∧((⟨g,0,none⟩:Addr).add ((k:Int).toNat*1)).spot=none∧
   (∀j,j<1->(w'.cell? (((⟨g,0,none⟩:Addr).add ((k:Int).toNat*1)).add j)).isSome=true∧w'.frozen? (((⟨g,0,none⟩:Addr).add ((k:Int).toNat*1)).add j)=false)∧
   (∀id b,cY H id=some b->(O id).nil=false->(O id).g≠((⟨g,0,none⟩:Addr).add ((k:Int).toNat*1)).block)∧
   ∀w2,w2=setCells w' ((⟨g,0,none⟩:Addr).add ((k:Int).toNat*1)) [.int .i64 z]->ie w2 B iv rv n (M.set i (l.set k z))∧cQ B w' w2∧Rel H nx iv B w2 O w2∧w'.grownBy w2 (some g)∧Ob rv g:=by
 have hMr:=hM.rel r;have h1:=hMr.row i _ l hv hl;have hlen:=hM.wid l (aD hl);obtain⟨g,rfl,hok,hst,hgr,hsz⟩:=oI (nv:=[.int .i64 z]) h1 rfl hk rfl (by decide);have hob:Ob rv g:=⟨_,aD hv,rfl⟩
 have had:(⟨g,0,none⟩:Addr).add ((k:Int).toNat*1)=⟨g,k*1,none⟩:=by rw[aJ,dN,aU]
 have hnot:=Rel.not r (gu B) (hM.new g hob);refine⟨g,rfl,by rw[had],fun j hj=>by rw[had];exact hok j hj,fun id b hb hn=>by rw[had];exact hnot id b hb hn,fun w2 hw2=>?_⟩;rw[had]at hw2;subst hw2;refine⟨⟨by rw[b9];exact hM.len,fun x hx=>?_,fun j v l2 h3 h4=>?_,hM.DF,hM.new⟩,cQ.grown hgr (fun x e=>by injection e with e;subst e;exact(hM.new g hob).elim (fun h=>h.elim) fun h=>h.1) r.bw,r.wh hnot hgr,hgr,hob⟩
 ·rcases bU hx with hx|rfl
  ·exact hM.wid x hx
  ·rw[b9];exact hlen
 ·by_cases hij:i=j
  ·subst hij;rw[hv]at h3;injection h3 with h3;subst h3;rw[aT (by rw[<-hM.len];exact(aC.1 hv).1)]at h4;injection h4 with h4;subst h4;rw[List.map_set,<-iX (by rw[aL];omega)];simp only[ai]at hst ⊢;exact hst
  ·rw[aw hij]at h4;refine ownsRow.cB (hMr.row j v l2 h3 h4) fun x hx=>hgr.block x ?_ fun e=>?_
   ·exact Rel.old r (gu B) x (hM.new x ⟨v,aD h3,hx⟩)
   ·injection e with e;exact hij (hM.DF i j _ v x hv h3 (by rw[<-e];rfl) hx)
theorem ie.push(hM:ie w B iv rv n M){gx:Nat}(hgx:∀g,Cv (fun _=>False) B iv g->g≠gx)(hBx:B<=gx)(hl:l.length=n)(hrow:w.ownsRow 0 T.int 1 (.slice (some ⟨gx,0,none⟩) n n) n (l.map fun z=>.int .i64 z)):
  ie w B ((gx,gx+1)::iv) (rv++[.slice (some ⟨gx,0,none⟩) n n]) n (M++[l]):=by
 have hob:∀g,Ob rv g->g≠gx:=fun g hg=>hgx g (hM.new g hg);have key:∀(k:Nat) v,(rv++[Value.slice (some ⟨gx,0,none⟩) n n])[k]? =some v->(k<rv.length∧rv[k]? =some v)∨(k=rv.length∧v= .slice (some ⟨gx,0,none⟩) n n):=fun k v hk=>by
  rcases aO k rv.length with hi|hi
  ·rw[aK hi]at hk;exact .inl ⟨hi,hk⟩
  ·have hi0:k=rv.length:=by have:=(aC.1 hk).1;simp at this;omega
   rw[hi0,aN (aE _),bH]at hk;simp at hk;exact .inr ⟨hi0,hk.symm⟩
 refine⟨by simp[hM.len],fun x hx=>?_,fun i v x h1 h2=>?_,fun i j a b g h1 h2 h3 h4=>?_,fun g hg=>?_⟩
 ·rcases bK.1 hx with hx|hx
  ·exact hM.wid x hx
  ·rw[bD.1 hx];exact hl
 ·rcases key i v h1 with⟨hi,k1⟩|⟨e1,rfl⟩
  ·rw[aK (by rw[<-hM.len];exact hi)]at h2;exact hM.row i v x k1 h2
  ·rw[e1,hM.len,aN (aE _),bH]at h2;simp at h2;subst h2;exact hrow
 ·rcases key i a h1 with⟨_,k1⟩|⟨e1,rfl⟩<;>rcases key j b h2 with⟨_,k2⟩|⟨e2,rfl⟩
  ·exact hM.DF i j a b g k1 k2 h3 h4
  ·injection h4 with h4;exact absurd h4.symm (hob g ⟨a,aD k1,h3⟩)
  ·injection h3 with h3;exact absurd h3.symm (hob g ⟨b,aD k2,h4⟩)
  ·rw[e1,e2]
 ·rcases Ob.append.1 hg with h|h
  ·exact(hM.new g h).mono fun p hp=>aB _ hp
  ·injection h with h;have h:gx=g:=h;subst h;exact .inr ⟨hBx,_,_,aI,aE _,bl _⟩
end
def BN(w:World)(S:Nat->Prop)(v:Value)(l:List Int):Prop:=jN w S 1 v (l.map fun z=>.int .i64 z) l.length
abbrev Hi:=eP BN
theorem BN.cB(h:BN w S v l)(hk:∀g,S g->w2.heap[g]? =w.heap[g]?):BN w2 S v l:=jN.cB h hk
theorem BN.cC(h:BN w S v l)(hk:∀g,S g->S' g):BN w S' v l:=jN.cC h hk
theorem Hi.cB{M:List (List Int)}(h:Hi w S v M)(hk:∀g,S g->w2.heap[g]? =w.heap[g]?):Hi w2 S v M:=by
 obtain⟨rv,h1,h2,h3⟩:=h;exact⟨rv,h1.cB hk,h2,fun i u x k1 k2=>(h3 i u x k1 k2).cB hk⟩
theorem Hi.cC{M:List (List Int)}(h:Hi w S v M)(hk:∀g,S g->S' g):Hi w S' v M:=by
 obtain⟨rv,h1,h2,h3⟩:=h;exact⟨rv,h1.cC hk,h2,fun i u x k1 k2=>(h3 i u x k1 k2).cC hk⟩
theorem BN.at{m c:Nat}(h:BN w S (.slice a m c) l)(hj:l[j]? =some z):∃ad,a=some ad∧S ad.block∧w.cell? (ad.add (j*1))=some (.int .i64 z):=by
 obtain⟨h0,h1,h2,a',c',e,h3,h4⟩:=h;injection e with e1 e2 e3;subst e1;obtain⟨ad,k1,k2,k3⟩:=h4 j (.int .i64 z) (by rw[aM,hj];rfl);exact⟨ad,k1,k2,by rw[ai];exact k3⟩
theorem BN.shape(h:BN w S v l):∃a c,v= .slice a l.length c∧l.length<=c∧l.length<=maxLen:=by
 obtain⟨h0,h1,h2,a,c,e,h3,h4⟩:=h;exact⟨a,c,e,h3,h0⟩
structure uo(f:fT):Prop where
 co:∀p∈f.nodes,(-1000000<=p.1∧p.1<=1000000)∧(-1000000<=p.2.1∧p.2.1<=1000000)∧(-1000000<=p.2.2∧p.2.2<=1000000)
 K9:∀b∈f.bars,(0<=b.1∧b.1<f.nodes.length)∧(0<=b.2.1∧b.2.1<f.nodes.length)
 sup:∀s∈f.cS,(0<=s.1∧s.1<f.nodes.length)∧(0<=s.2.1∧s.2.1<=2)
 n:f.nodes.length<=20
 b:f.bars.length<=60
 s:f.cS.length<=60
theorem uo.node(h:uo f){i:Int}(h0:0<=i)(h1:i<f.nodes.length):∃k:Nat,∃p,i=k∧k<f.nodes.length∧f.nodes[k]? =some p∧f.node i=p∧(-1000000<=p.1∧p.1<=1000000)∧(-1000000<=p.2.1∧p.2.1<=1000000)∧(-1000000<=p.2.2∧p.2.2<=1000000):=by
 obtain⟨k,rfl⟩:=Int.eq_ofNat_of_zero_le h0;have hk:k<f.nodes.length:=by omega
 refine⟨k,f.nodes[k],rfl,hk,aA hk,?_,h.co _ (aV hk)⟩;rw[fT.node,aJ,List.getD,aA hk];rfl
theorem zQ{vn vb vs:Value}{a b:Int}{b3 b6:Bool}{a4 a7:Option Addr}{n4 c4 n7 c7:Nat}(hS:Old S w)(hn:lh w S vn f.nodes)(hok:uo f)(hA:0<=a∧a<f.nodes.length)(hB:0<=b∧b<f.nodes.length):
  du PG N.k7 #[.agg #[vn,vb,vs],.agg #[.int .i64 a,.int .i64 b,.bool b3,.slice a4 n4 c4,.bool b6,.slice a7 n7 c7]] w (eD w fun v' _=>v'= .agg #[.int .i64 ((f.node b).1-(f.node a).1),.int .i64 ((f.node b).2.1-(f.node a).2.1),.int .i64 ((f.node b).2.2-(f.node a).2.2)]):=by
 have hw:cQ w.heap.size w w:=cQ.refl;obtain⟨an,cn,rfl,hcn,hmn⟩:=hn.shape;unfold maxLen at hmn;obtain⟨ka,pa,ea,hka,hpa,hna,⟨_,_⟩,⟨_,_⟩,⟨_,_⟩⟩:=hok.node hA.1 hA.2;obtain⟨kb,pb,eb,hkb,hpb,hnb,⟨_,_⟩,⟨_,_⟩,⟨_,_⟩⟩:=hok.node hB.1 hB.2;obtain⟨ada,csa,haa,hPa,-,hla⟩:=hn.load (by decide) hpa;obtain⟨adb,csb,hab,hPb,-,hlb⟩:=hn.load (by decide) hpb;have hPa:csa=[.int .i64 pa.1,.int .i64 pa.2.1,.int .i64 pa.2.2]:=hPa;have hPb:csb=[.int .i64 pb.1,.int .i64 pb.2.1,.int .i64 pb.2.2]:=hPb;subst hPa hPb;rw[hna,hnb];subst ea eb;refine nm (by simp) ?_;refine jD hτ df (.x 0 (.x 2 (.x 6 (.x 8 (.ld 1 49200 (.ld 3 49200 (.x 4 (.ld 5 49152 (.ld 7 35840 (.ld 9 35840 (.x 10 (.ld 11 32768 (.two 12 (.x 13 (.x 14 (.x 15 .nil))) 13 (.x 12 (.x 14 (.x 15 .nil)))))))))))))))) (by kernel_rfl) (by kernel_rfl) ?_;refine⟨ada,haa,by omega,[.int .i64 pa.1,.int .i64 pa.2.1,.int .i64 pa.2.2],rfl,rdO hla hw hS,adb,hab,by omega,[.int .i64 pb.1,.int .i64 pb.2.1,.int .i64 pb.2.2],rfl,rdO hlb hw hS,?_,?_⟩
 ·refine⟨[.int .i64 pb.1,.int .i64 pb.2.1,.int .i64 pb.2.2],rfl,rdO hlb hw hS,rfl,rfl,rfl,[.int .i64 pa.1,.int .i64 pa.2.1,.int .i64 pa.2.2],rfl,rdO hla hw hS,rfl,rfl,rfl,[.int .i64 pb.1,.int .i64 pb.2.1,.int .i64 pb.2.2],rfl,rdO hlb hw hS,rfl,rfl,rfl,[.int .i64 pa.1,.int .i64 pa.2.1,.int .i64 pa.2.2],rfl,rdO hla hw hS,rfl,rfl,rfl,[.int .i64 pb.1,.int .i64 pb.2.1,.int .i64 pb.2.2],rfl,rdO hlb hw hS,rfl,rfl,rfl,pb.1-pa.1,wo,pb.2.1-pa.2.1,wo,pb.2.2-pa.2.2,wo,?_⟩;intro ρe we re;exact⟨_,rfl,hw.tr re.cI,rfl⟩
 ·refine⟨[.int .i64 pb.1,.int .i64 pb.2.1,.int .i64 pb.2.2],rfl,rdO hlb hw hS,rfl,rfl,rfl,[.int .i64 pa.1,.int .i64 pa.2.1,.int .i64 pa.2.2],rfl,rdO hla hw hS,rfl,rfl,rfl,[.int .i64 pb.1,.int .i64 pb.2.1,.int .i64 pb.2.2],rfl,rdO hlb hw hS,rfl,rfl,rfl,[.int .i64 pa.1,.int .i64 pa.2.1,.int .i64 pa.2.2],rfl,rdO hla hw hS,rfl,rfl,rfl,[.int .i64 pb.1,.int .i64 pb.2.1,.int .i64 pb.2.2],rfl,rdO hlb hw hS,rfl,rfl,rfl,pb.1-pa.1,wo,pb.2.1-pa.2.1,wo,pb.2.2-pa.2.2,wo,?_⟩;intro ρe we re;exact⟨_,rfl,hw.tr re.cI,rfl⟩
theorem Hj{α:Type}{rv:List α}{a b:α}{i m:Nat}(hl:rv.length=i)(h:i<m):(rv++List.replicate (m-i) b).take i++[a]++(rv++List.replicate (m-i) b).drop (i+1)=(rv++[a])++List.replicate (m-(i+1)) b:=by
 rw[List.take_left' hl,List.drop_append,hl,List.drop_of_length_le (by omega),List.nil_append,List.drop_replicate];congr 2;omega
end Go.Ex
namespace Go.Sx
open Go Go.Ex Go.Proofs
variable{cs:List Value}{O:Nat->Sx.dU}
theorem Rel.JI{H:Hp}{nx:Nat}{iv:Iv}{B:Nat}{w w':World}(r:Rel H nx iv B w O w'){id t m sz:Nat}(h:cY H id=some (.arr t cs))(hm:cs.length=m*sz)(hm1:m<=maxLen)(h1:∀u∈cs,u.oneCell'=true):
  jN w' (fun g=>B<=g∧g<w'.heap.size) sz (.slice (some ⟨(O id).g,0,none⟩) m m) cs m:=by
 have hl:=r.low id _ h (r.fits h).1;refine⟨hm1,hm,h1,_,m,rfl,aE _,fun j u hu=>⟨_,rfl,hl,?_⟩⟩;rw[dN,cell_of (r.arr id _ _ h),aU];exact hu
end Go.Sx
namespace Go.Ex
open Go Go.Sx Go.Proofs
variable{d:Int}{b s:Int×Int×Rat}{M:List (List Int)}{l:List Int}{r:Nat}{S:Nat->Prop}{f:fT}
theorem AP{c:Nat}:(xP M r c d).length=M.length:=b9 ..
theorem GC{c:Nat}:(putAt M r c d).length=M.length:=b9 ..
def JJ(M:List (List Int))(t:Int):Prop:=∀l∈M,∀z∈l,-t<=z∧z<=t
theorem JJ.set{t t2:Int}{c:Nat}{z:Int}(h:JJ M t)(ht:t<=t2)(hl:M[r]? =some l)(hz: -t2<=z∧z<=t2):JJ (M.set r (l.set c z)) t2:=fun x hx y hy=>by
 rcases bU hx with hx|rfl
 ·have:=h x hx y hy;omega
 ·rcases bU hy with hy|rfl
  ·have:=h l (aD hl) y hy;omega
  ·exact hz
theorem Cj(f:fT):∀i,(eU f i).length=3*f.nodes.length
 |0=>bE ..
 |i+1=>by
  have h:=Cj f i;have key:∀k,(fQ f (eU f i) i k).length=3*f.nodes.length:=fun k=>by
   induction k with
   |zero=>exact h
   |succ k ih=>rw[fQ,AP,AP];exact ih
  exact key 3
theorem s7(f:fT):∀i,(ei f i).length=3*f.nodes.length
 |0=>Cj f _
 |i+1=>by rw[ei,GC];exact s7 f i
theorem Hk{i k ka kb:Nat}{za zb:Int}{la lb:List Int}(hb:f.bars[i]? =some b)(ea:b.1=ka)(eb:b.2.1=kb)(hd:(xO f b).getD k 0=d)
  (hla:(fQ f M i k)[3*ka+k]? =some la) (hza:la[i]? =some za) (hlb:((fQ f M i k).set (3*ka+k) (la.set i (za+d)))[3*kb+k]? =some lb) (hzb:lb[i]? =some zb):
  ((fQ f M i k).set (3*ka+k) (la.set i (za+d))).set (3*kb+k) (lb.set i (zb-d))=fQ f M i (k+1):=by
 have h1:f.bars.getD i (0,0,0)=b:=by rw[List.getD,hb];rfl
 have e1:(3*b.1+(k:Int)).toNat=3*ka+k:=by rw[ea];omega
 have e2:(3*b.2.1+(k:Int)).toNat=3*kb+k:=by rw[eb];omega
 have ha:xP (fQ f M i k) (3*ka+k) i d=(fQ f M i k).set (3*ka+k) (la.set i (za+d)):=by
  rw[xP,show(fQ f M i k).getD (3*ka+k) []=la by rw[List.getD,hla];rfl,show la.getD i 0=za by rw[List.getD,hza];rfl]
 rw[fQ];simp only[h1,hd,e1,e2,ha]
 rw[xP,show((fQ f M i k).set (3*ka+k) (la.set i (za+d))).getD (3*kb+k) []=lb by rw[List.getD,hlb];rfl,show lb.getD i 0=zb by rw[List.getD,hzb];rfl,Int.sub_eq_add_neg]
theorem Hl{i ks:Nat}(hs:f.cS[i]? =some s)(es:3*s.1+s.2.1=ks)(hl:(ei f i)[ks]? =some l):(ei f i).set ks (l.set (f.bars.length+i) 1)=ei f (i+1):=by
 rw[ei,putAt];simp only[show f.cS.getD i (0,0,0)=s by rw[List.getD,hs];rfl,es,aJ,show(ei f i).getD ks []=l by rw[List.getD,hl];rfl]
set_option maxHeartbeats 2000000 in
theorem GD{w:World}{vn vb vs:Value}(hS:Old S w)(hf:dY w S vn vb vs f)(hok:uo f):
  du PG N.o8 #[.agg #[vn,vb,vs]] w (eD w fun v' w2=>Hi w2 (Nf w w2) v' (ir f)∧JJ (ir f) 800000000∧(∀l∈ir f,l.length=f.cols)∧(ir f).length=3*f.nodes.length):=by
 have hw:cQ w.heap.size w w:=cQ.refl;obtain⟨an,cn,ab,cb,aq,cq,rfl,rfl,rfl,hmn,hmb,hms⟩:=hf.shape;obtain⟨hn20,hb60,hs60⟩:=And.intro hok.n (And.intro hok.b hok.s);refine sW (by simp) ?_;refine⟨((3*f.nodes.length:Nat):Int),wo,?_⟩;obtain⟨m,hm⟩:∃m,3*f.nodes.length=m:=⟨_,rfl⟩
 rw[hm]
 refine⟨m,m,rfl,rfl,aE _,by omega,by omega,Nat×List Value×World×Iv,fun z=>⟨[(1,.o (.p 0 0)),(3,.o (.s 1 0 m m)),(17,.o (.v (.int .i64 m))),(18,.o (.v (.int .i64 ((z.1:Nat):Int))))],[(1,.arr T.Lint (z.2.1++List.replicate (m-z.1) (.slice none 0 0))),(0,.box T.Frame [.v (.slice an f.nodes.length cn),.v (.slice ab f.bars.length cb),.v (.slice aq f.cS.length cq)])],2,z.2.2.2,z.2.2.1⟩,fun z=>m-z.1,
  fun z=>z.1<=m∧z.2.1.length=z.1∧cQ w.heap.size w z.2.2.1∧ie z.2.2.1 w.heap.size z.2.2.2 z.2.1 f.cols (List.replicate z.1 (List.replicate f.cols 0)),?_,?_⟩
 ·intro O w' r3;exact⟨(0,[],w',[]),⟨aP _,rfl,hw.tr r3.cI,ie.nil⟩,Sub.gn [] r3⟩
 rintro⟨i,rv,w1,iv⟩ ⟨hi,hrl,hw,hE⟩;dsimp only at hi hrl hw hE ⊢;refine dH.mk (fun hib=>?_) (fun hib=>?_)
 ·have hib:i<m:=by simpa using hib
  refine⟨((f.cols:Nat):Int),by rw[wrap64]<;>first|rfl|omega,f.cols,f.cols,rfl,rfl,aE _,by unfold fT.cols;omega,by unfold fT.cols;omega,by omega,?_⟩;refine F2 hτ (id:=1) (id2:=2) (tH:=[(1,.arr T.Lint (rv++List.replicate (m-i) (.slice none 0 0))),(0,.box T.Frame [.v (.slice an f.nodes.length cn),.v (.slice ab f.bars.length cb),.v (.slice aq f.cS.length cq)])]) rfl rfl (by decide) rfl ⟨rfl,rfl,trivial⟩ rfl (fun O w' r=>?_);have hn:=(r.fits (id:=2) rfl).1;have hrow:w'.ownsRow 0 T.int 1 (.slice (some ⟨(O 2).g,0,none⟩) f.cols f.cols) f.cols ((List.replicate f.cols (0:Int)).map fun z=>.int .i64 z):=
   ⟨by simp,.inr ⟨(O 2).g,f.cols,(List.replicate f.cols (Value.int .i64 0)).toArray,rfl,aP _,r.arr 2 _ _ rfl,aE _,by unfold fT.cols maxLen;omega,by simp,by simp⟩⟩
  have hE2:=(hE.rel r).push (gx:=(O 2).g) (l:=List.replicate f.cols 0) (fun g hg e=>Rel.not r (gu _) hg 2 _ rfl hn e.symm) (r.low 2 _ rfl hn).1 (by simp) hrow;rw[<-List.replicate_succ']at hE2;have hw2:=hw.tr r.cI;generalize (O 2).g=gx at*
  generalize (gx,gx+1)::iv=iv2 at*
  refine⟨by simp[hrl];omega,(rv++[.slice (some ⟨gx,0,none⟩) f.cols f.cols])++List.replicate (m-(i+1)) (.slice none 0 0),?_,?_⟩
  ·rw[aJ,ai,aU];exact Hj hrl hib
  refine⟨((i+1:Nat):Int),wo,?_⟩;intro ρ3 w3 r3;exact⟨(i+1,rv++[.slice (some ⟨gx,0,none⟩) f.cols f.cols],w3,_),⟨hib,by simp[hrl],hw2.tr r3.cI,hE2.rel r3⟩,Sub.gn [] r3,by dsimp only;omega⟩
 have hib:i=m:=aQ hi (by simpa using hib);subst hib;have hE0:ie w1 w.heap.size iv rv f.cols (eU f 0):=by rw[eU,hm];exact hE
 have hbd0:JJ (eU f 0) 0:=fun l hl z hz=>by
  rw[eU]at hl;rw[List.eq_of_mem_replicate hl]at hz;rw[List.eq_of_mem_replicate hz];exact⟨Int.le_refl _,Int.le_refl _⟩
 refine⟨Nat×World×Iv,fun z=>⟨[(1,.o (.p 0 0)),(3,.o (.s 1 0 i i)),(34,.o (.v (.slice ab f.bars.length cb))),(35,.o (.v (.int .i64 f.bars.length))),(36,.o (.v (.int .i64 ((z.1:Nat):Int))))],[(1,.arr T.Lint rv),(0,.box T.Frame [.v (.slice an f.nodes.length cn),.v (.slice ab f.bars.length cb),.v (.slice aq f.cS.length cq)])],2,z.2.2,z.2.1⟩,fun z=>f.bars.length-z.1,
  fun z=>z.1<=f.bars.length∧cQ w.heap.size w z.2.1∧ie z.2.1 w.heap.size z.2.2 rv f.cols (eU f z.1)∧JJ (eU f z.1) (12000000*z.1),?_,?_⟩
 ·intro O w' r3;exact⟨(0,w',_),⟨aP _,hw.tr r3.cI,hE0.rel r3,hbd0⟩,Sub.gn [] r3 ⟨by simp;rfl,rfl,trivial⟩⟩
 rintro⟨j,w2,iv⟩ ⟨hj,hw,hE,hbd⟩;dsimp only at hj hw hE hbd ⊢;refine dH.mk (fun hjb=>?_) (fun hjb=>?_)
 ·have hjb:j<f.bars.length:=by simpa using hjb
  obtain⟨b,hb⟩:∃b,f.bars[j]? =some b:=⟨_,aA hjb⟩
  obtain⟨hA,hB⟩:=hok.K9 b (aD hb);obtain⟨ka,pa,ea,hka,-,hna,⟨_,_⟩,⟨_,_⟩,⟨_,_⟩⟩:=hok.node hA.1 hA.2;obtain⟨kb,pb,eb,hkb,-,hnb,⟨_,_⟩,⟨_,_⟩,⟨_,_⟩⟩:=hok.node hB.1 hB.2;obtain⟨adb,cs,hab,hF,-,hlb⟩:=hf.bars.load (by decide) hb;obtain⟨g0,g1,g2,g3,g4,g5,g6,g7,rfl,hF⟩:=hF;refine⟨adb,hab,by omega,[.int .i64 b.1,.int .i64 b.2.1,.bool g0,.slice g1 g2 g3,.bool g4,.slice g5 g6 g7],rfl,rdO hlb hw hS,?_⟩;refine bu (cH (Φ:=fun _ w' v w2=>v= .agg #[.int .i64 ((f.node b.2.1).1-(f.node b.1).1),.int .i64 ((f.node b.2.1).2.1-(f.node b.1).2.1),.int .i64 ((f.node b.2.1).2.2-(f.node b.1).2.2)]) (fun O w' r=>zQ (S:=S) (oS hS r) (hf.cB (kS hw r hS)).nodes hok hA hB) ?_);rintro O wa1 v1 wb1 r he hb1 rfl;replace hw:=hw.tr hb1;replace hE:=hE.bz (iv':=(wa1.heap.size,wb1.heap.size)::iv) r he fun x hx=>aB _ hx;generalize (wa1.heap.size,wb1.heap.size)::iv=iv1 at*
  rw[hna,hnb];have hbD:xO f b=[pb.1-pa.1,pb.2.1-pa.2.1,pb.2.2-pa.2.2]:=by rw[xO,hna,hnb]
  refine⟨Nat×World×Iv,fun z=>⟨[(1,.o (.p 0 0)),(3,.o (.s 1 0 i i)),(5,.o (.v (.int .i64 ((j:Nat):Int)))),(6,.o (.p 2 0)),(43,.o (.v (.agg #[.int .i64 (pb.1-pa.1),.int .i64 (pb.2.1-pa.2.1),.int .i64 (pb.2.2-pa.2.2)]))),(34,.o (.v (.slice ab f.bars.length cb))),(35,.o (.v (.int .i64 f.bars.length))),(36,.o (.v (.int .i64 ((j:Nat):Int)))),(44,.o (.v (.int .i64 ((z.1:Nat):Int))))],[(2,.box T.LI [.v (.int .i64 b.1),.v (.int .i64 b.2.1),.v (.bool g0),.v (.slice g1 g2 g3),.v (.bool g4),.v (.slice g5 g6 g7)]),(1,.arr T.Lint rv),(0,.box T.Frame [.v (.slice an f.nodes.length cn),.v (.slice ab f.bars.length cb),.v (.slice aq f.cS.length cq)])],3,z.2.2,z.2.1⟩,fun z=>3-z.1,
   fun z=>z.1<=3∧cQ w.heap.size w z.2.1∧ie z.2.1 w.heap.size z.2.2 rv f.cols (fQ f (eU f j) j z.1)∧JJ (fQ f (eU f j) j z.1) (12000000*j+4000000*z.1),?_,?_⟩
  ·intro O w' r3;exact⟨(0,w',_),⟨aP _,hw.tr r3.cI,hE.rel r3,hbd⟩,Sub.gn [] r3⟩
  rintro⟨k,w3,iv⟩ ⟨hk,hw,hE,hbd⟩;dsimp only at hk hw hE hbd ⊢;refine dH.mk (fun hkb=>?_) (fun hkb=>?_)
  ·have hkb:k<3:=by have:=aH hkb;omega
   obtain⟨d,hd⟩:∃d,(xO f b).getD k 0=d:=⟨_,rfl⟩
   have hdb: -2000000<=d∧d<=2000000:=by
    rw[<-hd,hbD];rcases(show k=0∨k=1∨k=2 by omega)with rfl|rfl|rfl<;>simp[List.getD]<;>omega
   have hMl:(fQ f (eU f j) j k).length=3*f.nodes.length:=by rw[<-hE.len];have:=hE.len;omega
   have hcols:f.cols=f.bars.length+f.cS.length:=rfl;refine ye hτ rfl rfl rfl (fun _=>rfl) rfl ⟨by omega,by omega⟩ (u:=.int .i64 d) ?_ (fun O w4 r=>?_)
   ·rw[<-hd,hbD,aJ];rcases(show k=0∨k=1∨k=2 by omega)with rfl|rfl|rfl<;>rfl
   replace hw:=hw.tr r.cI;replace hE:=hE.rel r;obtain⟨la,hla⟩:∃l,(fQ f (eU f j) j k)[3*ka+k]? =some l:=⟨_,aA (by first|omega|(rw [b9];omega))⟩
   have hlaw:=hE.wid la (aD hla);obtain⟨za,hza⟩:∃z,la[j]? =some z:=⟨_,aA (by omega)⟩
   have hzab:=hbd la (aD hla) za (aD hza);obtain⟨va,hva⟩:∃v,rv[3*ka+k]? =some v:=⟨_,aA (by have:=(aC.1 hla).1;rw[hE.len];exact this)⟩
   obtain⟨aa5,ca5,rfl⟩:=hE.form hva;obtain⟨ada5,haa5,hxa1,hxa2⟩:=hE.load hva hla hza;refine⟨((3*ka:Nat):Int),by rw[ea,wrap64]<;>omega,((3*ka+k:Nat):Int),wo,by omega,.slice aa5 f.cols ca5,by rw[aJ,ai,aU];exact hva,ada5,haa5,by omega,.int .i64 za,fun O w' r=>?_,?_⟩
   ·rw[aJ,cJ (w:=w4) (w2:=w') (by rw[dq];exact Rel.same r (gu _) hxa1)];exact hxa2
   refine⟨za+d,wo,ada5,haa5,by omega,?_⟩;intro O w' r;obtain⟨g,hg,h1,h2,h3,h4⟩:=hE.store r (z:=za+d) hva hla (show j<f.cols by omega);rw[haa5]at hg;injection hg with hg;subst hg;refine⟨h1,h2,h3,fun w5 hw5=>?_⟩;obtain⟨k1,k2,k3,-,-⟩:=h4 w5 hw5;replace hw:=(hw.tr r.cI).tr k2;replace hbd:=hbd.set (r:=3*ka+k) (c:=j) (z:=za+d) (t2:=12000000*j+4000000*k+2000000) (by omega) hla (by omega);replace hE:=k1;obtain⟨lb,hlb⟩:∃l,((fQ f (eU f j) j k).set (3*ka+k) (la.set j (za+d)))[3*kb+k]? =some l:=⟨_,aA (by first|omega|(rw [b9];omega))⟩
   have hlbw:=hE.wid lb (aD hlb);obtain⟨zb,hzb⟩:∃z,lb[j]? =some z:=⟨_,aA (by omega)⟩
   have hzbb:=hbd lb (aD hlb) zb (aD hzb);obtain⟨vb,hvb⟩:∃v,rv[3*kb+k]? =some v:=⟨_,aA (by have:=(aC.1 hlb).1;rw[hE.len];exact this)⟩
   obtain⟨ab5,cb5,rfl⟩:=hE.form hvb;obtain⟨adb5,hab5,hxb1,hxb2⟩:=hE.load hvb hlb hzb;refine⟨((3*kb:Nat):Int),by rw[eb,wrap64]<;>omega,((3*kb+k:Nat):Int),wo,by omega,.slice ab5 f.cols cb5,by rw[aJ,ai,aU];exact hvb,adb5,hab5,by omega,.int .i64 zb,fun O w' r=>?_,?_⟩
   ·rw[aJ,cJ (w:=w5) (w2:=w') (by rw[dq];exact Rel.same r (gu _) hxb1)];exact hxb2
   refine⟨zb-d,wo,adb5,hab5,by omega,?_⟩;intro O w' r;obtain⟨g,hg,h1,h2,h3,h4⟩:=hE.store r (z:=zb-d) hvb hlb (show j<f.cols by omega);rw[hab5]at hg;injection hg with hg;subst hg;refine⟨h1,h2,h3,fun w5 hw5=>?_⟩;obtain⟨k1,k2,k3,-,-⟩:=h4 w5 hw5;replace hw:=(hw.tr r.cI).tr k2;replace hbd:=hbd.set (r:=3*kb+k) (c:=j) (z:=zb-d) (t2:=12000000*j+4000000*(k+1:Nat)) (by omega) hlb (by omega);replace hE:=k1;rw[Hk hb ea eb hd hla hza hlb hzb]at hE hbd;refine⟨((k+1:Nat):Int),wo,?_⟩;intro ρ3 w6 r3;exact⟨(k+1,w6,_),⟨hkb,hw.tr r3.cI,hE.rel r3,hbd⟩,Sub.gn [] r3,by dsimp only;omega⟩
  have hkb:k=3:=by have:=aG hkb;omega
  subst hkb;refine⟨((j+1:Nat):Int),wo,?_⟩;intro ρ3 w6 r3;exact⟨(j+1,w6,_),⟨hjb,hw.tr r3.cI,hE.rel r3,fun l hl z hz=>by have:=hbd l hl z hz;dsimp only;omega⟩,Sub.gn [] r3,by dsimp only;omega⟩
 have hjb:j=f.bars.length:=aQ hj (by simpa using hjb);subst hjb
 refine⟨Nat×World×Iv,fun z=>⟨[(1,.o (.p 0 0)),(3,.o (.s 1 0 i i)),(79,.o (.v (.slice aq f.cS.length cq))),(80,.o (.v (.int .i64 f.cS.length))),(81,.o (.v (.int .i64 ((z.1:Nat):Int))))],[(1,.arr T.Lint rv),(0,.box T.Frame [.v (.slice an f.nodes.length cn),.v (.slice ab f.bars.length cb),.v (.slice aq f.cS.length cq)])],2,z.2.2,z.2.1⟩,fun z=>f.cS.length-z.1,
  fun z=>z.1<=f.cS.length∧cQ w.heap.size w z.2.1∧ie z.2.1 w.heap.size z.2.2 rv f.cols (ei f z.1)∧JJ (ei f z.1) 800000000,?_,?_⟩
 ·intro O w' r3;exact⟨(0,w',_),⟨aP _,hw.tr r3.cI,hE.rel r3,fun l hl z hz=>by have:=hbd l hl z hz;omega⟩,Sub.gn [] r3⟩
 rintro⟨j,w2,iv⟩ ⟨hj,hw,hE,hbd⟩;dsimp only at hj hw hE hbd ⊢;refine dH.mk (fun hjb=>?_) (fun hjb=>?_)
 ·have hjb:j<f.cS.length:=by simpa using hjb
  obtain⟨s,hs⟩:∃b,f.cS[j]? =some b:=⟨_,aA hjb⟩
  obtain⟨hA,hB⟩:=hok.sup s (aD hs);obtain⟨ks,hks⟩:=Int.eq_ofNat_of_zero_le (show 0<=3*s.1+s.2.1 by omega);have hcols:f.cols=f.bars.length+f.cS.length:=rfl;have hMl:=s7 f j;obtain⟨l,hl⟩:∃l,(ei f j)[ks]? =some l:=⟨_,aA (by omega)⟩
  have hlw:=hE.wid l (aD hl);obtain⟨v,hv⟩:∃v,rv[ks]? =some v:=⟨_,aA (by rw[hE.len];omega)⟩
  obtain⟨a5,c5,rfl⟩:=hE.form hv;obtain⟨z0,hz0⟩:∃z,l[f.bars.length+j]? =some z:=⟨_,aA (by omega)⟩
  obtain⟨ad5,ha5,-,-⟩:=hE.load hv hl hz0;obtain⟨adb,cs,hab,hF,-,hlb⟩:=hf.cS.load (by decide) hs;obtain⟨g0,g1,g2,g3,g4,g5,g6,g7,rfl,hF⟩:=hF;refine⟨adb,hab,by omega,[.int .i64 s.1,.int .i64 s.2.1,.bool g0,.slice g1 g2 g3,.bool g4,.slice g5 g6 g7],rfl,rdO hlb hw hS,?_⟩;refine cD hτ df [.x 0,.x 1,.x 2,.x 3,.x 4,.x 5,.x 6,.x 7,.x 8,.x 9,.x 10,.x 11,.x 12,.x 13,.x 14,.x 15] (by kernel_rfl) (by kernel_rfl) ?_;refine⟨3*s.1,wo,((ks:Nat):Int),wo,by omega,.slice a5 f.cols c5,by rw[aJ,ai,aU];exact hv,((f.bars.length+j:Nat):Int),wo,ad5,ha5,by omega,?_⟩;intro O w' r;obtain⟨g,hg,h1,h2,h3,h4⟩:=hE.store r (z:=1) hv hl (show f.bars.length+j<f.cols by omega);rw[ha5]at hg;injection hg with hg;subst hg;refine⟨h1,h2,h3,fun w5 hw5=>?_⟩;obtain⟨k1,k2,k3,-,-⟩:=h4 w5 hw5;replace hw:=(hw.tr r.cI).tr k2;have hbd2:=hbd.set (r:=ks) (c:=f.bars.length+j) (z:=1) (t2:=800000000) (by omega) hl (by omega);rw[Hl hs hks hl]at k1 hbd2;refine⟨((j+1:Nat):Int),wo,?_⟩;intro ρ3 w6 r3;exact⟨(j+1,w6,_),⟨hjb,hw.tr r3.cI,k1.rel r3,hbd2⟩,Sub.gn [] r3,by dsimp only;omega⟩
 have hjb:j=f.cS.length:=aQ hj (by simpa using hjb);subst hjb;intro ρe we re;have hE2:=hE.rel re;have hMl:=s7 f f.cS.length;have hrl2:=hE.len;refine⟨_,rfl,hw.tr re.cI,⟨rv,?_,hE.len,fun i u x k1 k2=>?_⟩,hbd,hE.wid,by rw[<-hm];exact hMl⟩
 ·rw[show (ir f).length=rv.length from hE.len.symm];have h5:=re.JI (id:=1) (sz:=1) (m:=rv.length) rfl (by simp) (by unfold maxLen;omega) hE.one;rw[show (i:Nat)=rv.length by omega];exact h5.cC fun g hg=>.inr hg
 ·obtain⟨a,c,rfl⟩:=hE.form k1;have hxl:=hE.wid x (aD k2);refine⟨by rw[hxl];unfold fT.cols maxLen;omega,by simp,fun v hv=>by obtain⟨z,_,rfl⟩:=aS.1 hv;rfl,a,c,by rw[hxl],?_,fun t v hv=>?_⟩
  ·rw[hxl];obtain⟨a2,c2,e,h⟩:=jh (hE.row i _ x k1 k2);injection e with e1 e2 e3;omega
  ·rw[aM]at hv
   cases ht:x[t]? with
   |none=>rw[ht]at hv;cases hv
   |some z=>
    rw[ht]at hv;simp only[Option.map_some,Option.some.injEq]at hv;subst hv;obtain⟨ad,h1,h2,h3⟩:=hE2.load k1 k2 ht;exact⟨ad,h1,Cv.nw h2 re,by rw[ai]at h3;exact h3⟩
end Go.Ex
namespace Go.Ex
open Go Go.Sx Go.Proofs
variable{z:Int}{p:Int×Int×Int}{b:Int×Int×Rat}{x:Ld}{seen:List (Int×Int×Rat)}{css:List (List Value)}{s:List Int}{l:List Ld}{qs:List Rat}{cs:List Value}{j:Nat}{S:Nat->Prop}{an:Option Addr}{vb vl vs:Value}{w:World}{f:fT}
theorem Cl(f:fT):(cM f).length=3*f.nodes.length:=by rw[cM,aL];exact s7 f _
theorem AQ(h1: -2000000000<=z)(h2:z<=2000000000):rl (z:Rat)<=1:=by
 have e1:((z:Rat)).num=z:=rfl;have e2:((z:Rat)).den=1:=rfl;rw[rl,e1,e2];have a1:ln z.natAbs<=1:=fo.2 (by rw[tI];omega);have a2:ln 1<=1:=by decide
 omega
set_option maxHeartbeats 1000000 in
theorem rB{vn:Value}(hS:Old S w)(hf:dY w S vn vb vs f)(hok:uo f):
  du PG N.nZ #[.agg #[vn,vb,vs]] w (eD w fun v' w2=>(∃vr,v'= .agg #[vr,.int .i64 f.cols]∧cO w2 (Nf w w2) vr (cM f))∧fp f.cols (cM f)∧Ht (cM f) 2):=by
 have hw:cQ w.heap.size w w:=cQ.refl;obtain⟨an,cn,ab,cb,aq,cq,rfl,rfl,rfl,hmn,hmb,hms⟩:=hf.shape;obtain⟨hn20,hb60,hs60⟩:=And.intro hok.n (And.intro hok.b hok.s);have hcols:f.cols=f.bars.length+f.cS.length:=rfl;refine ql (by simp) ?_;refine⟨((f.cols:Nat):Int),by rw[wrap64]<;>first|rfl|omega,?_⟩;refine bu (cH (Φ:=fun _ w' v w2=>Hi w2 (Nf w' w2) v (ir f)∧JJ (ir f) 800000000∧(∀l∈ir f,l.length=f.cols)∧(ir f).length=3*f.nodes.length) (fun O w' r=>GD (S:=S) (oS hS r) (hf.cB (kS hw r hS)) hok) ?_);rintro O wa1 v1 wb1 r he hb1 ⟨k1,hbd,hwid,hml⟩;replace hw:=hw.tr hb1;have hM:=Hi.cC k1 fun g hg=>hg.dB (B:=w.heap.size) (S:=fun _=>False) r.bw (iv:=(wa1.heap.size,wb1.heap.size)::[]) aI;generalize (wa1.heap.size,wb1.heap.size)::[]=iv1 at*
 obtain⟨am,cm,rfl,hcm,hmm⟩:=eP.shape hM;unfold maxLen at hmm
 refine⟨Nat×List Value×World×Iv,fun z=>⟨[(20,.o (.v (.int .i64 ((z.1:Nat):Int)))),(2,.o (.p 1 0)),(3,.o (.p 2 0)),(18,.o (.v (.slice am (ir f).length cm))),(19,.o (.v (.int .i64 (ir f).length)))],[(2,.box T.dR [.w 3 z.2.1.length,.v (.int .i64 ((f.cols:Nat):Int))]),(3,.vec T.jG 1 z.2.1),(1,.box T.dR [.v (.slice none 0 0),.v (.int .i64 0)])],4,z.2.2.2,z.2.2.1⟩,fun z=>(ir f).length-z.1,
  fun z=>z.1<=(ir f).length∧cQ w.heap.size w z.2.2.1∧Hi z.2.2.1 (Cf w z.2.2.2) (.slice am (ir f).length cm) (ir f)∧da z.2.2.1 (Cf w z.2.2.2) z.2.1 ((cM f).take z.1),?_,?_⟩
 ·intro O w' r;exact⟨(0,[],w',_),⟨aP _,hw.tr r.cI,hM.cB fun g hg=>Rel.same r (bs w) hg,by simp[da]⟩,Sub.zO 2 0 T.jG 1 rfl rfl (by simp[ko,SV.sc,At.sc,gM]) r fun ρ1 r1=>Sub.gn [] r1⟩
 rintro⟨k,rv,w1,iv⟩ ⟨hk,hw,hM,hK⟩;dsimp only at hk hw hM hK ⊢;have hrl:rv.length=k:=by rw[hK.1,aW,cM,aL];omega
 refine dH.mk (fun hkb=>?_) (fun hkb=>?_)
 ·have hkb:k<(ir f).length:=by simpa using hkb
  obtain⟨l,hl⟩:∃l,(ir f)[k]? =some l:=⟨_,aA hkb⟩
  have hlw:=hwid l (aD hl);have hnext:(cM f).take (k+1)=(cM f).take k++[dc l]:=by rw[List.take_add_one,show(cM f)[k]? =some (dc l) by rw[cM,aM,hl];rfl];rfl
  obtain⟨adm,um,ham,hLm,km1,km2⟩:=eP.load hM hl;obtain⟨a0,c0,rfl,hc0,-⟩:=BN.shape hLm;refine⟨adm,ham,by omega,.slice a0 l.length c0,fun O w' r=>?_,?_⟩
  ·rw[aJ,cJ (w:=w1) (w2:=w') (by rw[dq];exact Rel.same r (bs w) km1)];exact km2
  refine⟨l.length,l.length,rfl,rfl,aE _,by omega,by omega,Nat×Nat×World×Iv,fun z=>⟨[(6,.o (.v (.slice (some ⟨z.2.1,0,none⟩) l.length l.length))),(5,.o (.v (.slice a0 l.length c0))),(27,.o (.v (.slice a0 l.length c0))),(28,.o (.v (.int .i64 l.length))),(29,.o (.v (.int .i64 ((z.1:Nat):Int)))),(20,.o (.v (.int .i64 ((k:Nat):Int)))),(2,.o (.p 1 0)),(3,.o (.p 2 0)),(18,.o (.v (.slice am (ir f).length cm))),(19,.o (.v (.int .i64 (ir f).length)))],[(2,.box T.dR [.w 3 rv.length,.v (.int .i64 ((f.cols:Nat):Int))]),(3,.vec T.jG 1 rv),(1,.box T.dR [.v (.slice none 0 0),.v (.int .i64 0)])],5,z.2.2.2,z.2.2.1⟩,fun z=>l.length-z.1,
   fun z=>z.1<=l.length∧cQ w.heap.size w z.2.2.1∧Hi z.2.2.1 (Bs (fun _=>False) w.heap.size z.2.2.2 (.slice (some ⟨z.2.1,0,none⟩) l.length l.length)) (.slice am (ir f).length cm) (ir f)∧BN z.2.2.1 (Bs (fun _=>False) w.heap.size z.2.2.2 (.slice (some ⟨z.2.1,0,none⟩) l.length l.length)) (.slice a0 l.length c0) l∧da z.2.2.1 (Bs (fun _=>False) w.heap.size z.2.2.2 (.slice (some ⟨z.2.1,0,none⟩) l.length l.length)) rv ((cM f).take k)∧iF z.2.2.1 (fun _=>False) w.heap.size z.2.2.2 (.slice (some ⟨z.2.1,0,none⟩) l.length l.length) l.length z.1 (dc l),?_,?_⟩
  ·intro O w' r;have hf:=iF.qz (S:=fun _=>False) (n:=l.length) r (id:=4) rfl (by unfold maxLen;omega) (dc l);have hbs:∀g,Cf w iv g->Bs (fun _=>False) w.heap.size (((O 4).g,(O 4).g+1)::iv) (.slice (some ⟨(O 4).g,0,none⟩) l.length l.length) g:=fun g hg=>⟨hg.mono fun p hp=>aB _ hp,fun e=>Rel.not r (bs w) hg 4 _ rfl (r.fits (id:=4) rfl).1 (by injection e)⟩
   exact⟨(0,(O 4).g,w',((O 4).g,(O 4).g+1)::iv),⟨aP _,hw.tr r.cI,(hM.cB fun g hg=>Rel.same r (bs w) hg).cC hbs,(hLm.cB fun g hg=>Rel.same r (bs w) hg).cC hbs,da.cC (hK.rel r (bs w)) hbs,hf⟩,
    Sub.qz r (id:=4) (t:=6) rfl rfl ⟨rfl,rfl,rfl,trivial⟩ rfl ⟨rfl,rfl,rfl,rfl,rfl,rfl,rfl,rfl,rfl,trivial⟩ (by simp[ko,SV.sc,At.sc])⟩
  rintro⟨i,gx,w2,iv⟩ ⟨hi,hw,hM,hLm,hK,hX⟩;dsimp only at hi hw hM hLm hK hX ⊢;refine dH.mk (fun hib=>?_) (fun hib=>?_)
  ·have hib:i<l.length:=by simpa using hib
   obtain⟨z,hz⟩:∃z,l[i]? =some z:=⟨_,aA hib⟩
   have hzb:=hbd l (aD hl) z (aD hz);obtain⟨adz,haz,kz1,kz2⟩:=hLm.at hz;refine⟨adz,haz,by omega,.int .i64 z,fun O w' r=>?_,?_⟩
   ·rw[aJ,cJ (w:=w2) (w2:=w') (by rw[dq];exact Rel.same r (bs w) kz1.1)];exact kz2
   refine bu (cH (Φ:=fun _ w' v w2=>cP w2 (Nf w' w2) v (z:Rat)) (fun O w' r=>ke z w' (by omega) (by omega)) ?_);rintro O wa3 v3 wb3 r he hb1 hn2;replace hw:=hw.tr hb1;have hbs:∀g,Bs (fun _=>False) w.heap.size iv (.slice (some ⟨gx,0,none⟩) l.length l.length) g->Bs (fun _=>False) w.heap.size ((wa3.heap.size,wb3.heap.size)::iv) (.slice (some ⟨gx,0,none⟩) l.length l.length) g:=fun g hg=>Bs.mono (fun x hx=>aB _ hx) hg;have hbk:∀g,Bs (fun _=>False) w.heap.size iv (.slice (some ⟨gx,0,none⟩) l.length l.length) g->wb3.heap[g]? =w2.heap[g]? :=fun g hg=>(he.block g (Rel.old r (bs w) g hg.1)).trans (Bs.same r (bs w) g hg);replace hM:=(hM.cB hbk).cC hbs;replace hLm:=(hLm.cB hbk).cC hbs;replace hK:=da.cC (da.cB hK hbk) hbs;have hd:=hn2.cC (S':=Bs (fun _=>False) w.heap.size ((wa3.heap.size,wb3.heap.size)::iv) (.slice (some ⟨gx,0,none⟩) l.length l.length)) fun g hg=>hg.elim (fun h=>h.elim) fun h=>⟨.inr ⟨by have:=r.bw;omega,_,_,aI,h.1,h.2⟩,fun e=>by have:=Rel.old r (bs w) g (hX.new g e);omega⟩
   replace hX:=hX.bz (iv':=(wa3.heap.size,wb3.heap.size)::iv) r (bs w) he fun x hx=>aB _ hx;generalize (wa3.heap.size,wb3.heap.size)::iv=iv3 at*
   obtain⟨s3_0,s3_1,s3_2,s3_3,s3_4,s3_5,s3_6,s3_7,rfl⟩:=hd.shape;refine⟨⟨gx,0,none⟩,rfl,by omega,?_⟩;intro O w' r;obtain⟨g,hg,h1,h2,h3,h4⟩:=hX.store (j:=i) hib (by rw[dc,aM,hz];rfl) hd r (bs w);injection hg with hg;injection hg with hg;subst hg;refine⟨h1,h2,h3,fun w5 hw5=>?_⟩;obtain⟨k1,k2,k3,k4⟩:=h4 w5 hw5;have hw2:=(hw.tr r.cI).tr k3;have hkk:=Bs.kept (v:=(.slice (some ⟨gx,0,none⟩) l.length l.length)) r (bs w) k2 fun g e=>e;have hM2:=hM.cB hkk;have hLm2:=hLm.cB hkk;have hK2:=da.cB hK hkk;refine⟨((i+1:Nat):Int),wo,?_⟩;intro ρ3 w6 r3;exact⟨(i+1,gx,w6,_),⟨hib,hw2.tr r3.cI,hM2.cB (Bs.same r3 (bs w)),hLm2.cB (Bs.same r3 (bs w)),da.cB hK2 (Bs.same r3 (bs w)),k1.rel r3 (bs w)⟩,Sub.gn [] r3,by dsimp only;omega⟩
  have hib:i=l.length:=aQ hi (by simpa using hib);rw[hib]at hX;have hX2:=(hX.done (by simp[dc])).c;replace hK:=(da.cC hK fun g hg=>hg.1).push (u:=(.slice (some ⟨gx,0,none⟩) l.length l.length)) (x:=dc l) rfl (by rw[show l.length=(dc l).length by simp[dc]]at hX2 ⊢;exact hX2);rw[<-hnext]at hK;replace hM:=hM.cC fun g hg=>hg.1;refine .inl ?_;refine⟨by simp,by omega,by unfold maxLen;omega,((k+1:Nat):Int),wo,?_⟩;intro ρ3 w3 r3;exact⟨(k+1,rv++[(.slice (some ⟨gx,0,none⟩) l.length l.length)],w3,_),⟨hkb,hw.tr r3.cI,hM.cB fun g hg=>Rel.same r3 (bs w) hg,hK.rel r3 (bs w)⟩,Sub.gn [(3,6)] r3 ⟨by dsimp only;rw[List.length_append,List.length_singleton];rfl,rfl,rfl,trivial⟩,by dsimp only;omega⟩
 have hkb:k=(ir f).length:=aQ hk (by simpa using hkb);rw[List.take_of_length_le (by rw[cM,aL];omega)]at hK;intro ρe we re;refine⟨_,rfl,hw.tr re.cI,⟨_,rfl,rv,?_,hK.1,fun i u x k1 k2=>cF.cC (cF.rel (hK.2.2 i u x k1 k2) re (bs w)) fun g hg=>Cv.nw hg re⟩,fun x hx=>?_,fun x hx q hq=>?_⟩
 ·rw[<-hK.1];exact(re.jq (id:=3) (sz:=1) (m:=rv.length) rfl (by simp) (by unfold maxLen;omega) (by decide) hK.2.1).cC fun g hg=>.inr hg
 ·obtain⟨l,hl,rfl⟩:=aS.1 hx;rw[dc,aL];exact hwid l hl
 ·obtain⟨l,hl,rfl⟩:=aS.1 hx;obtain⟨z,hz,rfl⟩:=aS.1 hq;have:=hbd l hl z hz;have:=AQ (z:=z) (by omega) (by omega);omega
def J9(x:Ld):List Int:=[x.2.1,x.2.2.1,x.2.2.2]
def gE(s:List Int)(x:Ld):Nat->List Int
 |0=>s
 |k+1=>CF (gE s x k) (3*x.1+k).toNat ((J9 x).getD k 0)
def eC(n:Nat)(l:List Ld):Nat->List Int
 |0=>List.replicate (3*n) 0
 |i+1=>gE (eC n l i) (l.getD i (0,0,0,0)) 3
def gL(f:fT)(l:List Ld):List Rat:=dc (eC f.nodes.length l l.length)
structure iS(n:Nat)(l:List Ld):Prop where
 len:l.length<=200
 ld:∀x∈l,(0<=x.1∧x.1<n)∧(-1000000<=x.2.1∧x.2.1<=1000000)∧(-1000000<=x.2.2.1∧x.2.2.1<=1000000)∧(-1000000<=x.2.2.2∧x.2.2.2<=1000000)
theorem nC(s:List Int)(x:Ld):∀k,(gE s x k).length=s.length
 |0=>rfl
 |k+1=>by rw[gE,CF,b9];exact nC s x k
theorem iu(n:Nat)(l:List Ld):∀i,(eC n l i).length=3*n
 |0=>bE ..
 |i+1=>by rw[eC,nC];exact iu n l i
theorem Cm{k:Nat}{d:Int}(e:3*x.1+(k:Int)=j)(hd:(J9 x).getD k 0=d)(hz:(gE s x k)[j]? =some z):(gE s x k).set j (z+d)=gE s x (k+1):=by
 rw[gE,CF,hd,e,aJ,show(gE s x k).getD j 0=z by rw[List.getD,hz];rfl]
def JK(s:List Int)(t:Int):Prop:=∀z∈s,-t<=z∧z<=t
theorem JK.set{t t2:Int}(h:JK s t)(ht:t<=t2)(hz: -t2<=z∧z<=t2):JK (s.set j z) t2:=fun y hy=>by
 rcases bU hy with hy|rfl
 ·have:=h y hy;omega
 ·exact hz
def zv(l:List Int):List Value:=l.map fun z=>.int .i64 z
theorem KP(l:List Int):(zv l).length=l.length:=aL ..
theorem Jc{l:List Int}(h:l[j]? =some z):(zv l)[j]? =some (.int .i64 z):=by rw[zv,aM,h];rfl
theorem KQ{l:List Int}(h:j<l.length):(zv l).take j++[.int .i64 z]++(zv l).drop (j+1)=zv (l.set j z):=by
 rw[zv,zv,List.map_set];exact iX (by rw[aL];exact h)
theorem nO(f:fT):(cX f).length=f.cols:=by simp[cX,fT.cols]
theorem dx.Jd{q:Rat}(h:css.length=qs.length∧∀(j:Nat) cs q,css[j]? =some cs->qs[j]? =some q->lT w S cs q)(hc:lT w S cs q):
  (css++[cs]).length=(qs++[q]).length∧∀(j:Nat) c p,(css++[cs])[j]? =some c->(qs++[q])[j]? =some p->lT w S c p:=by
 refine⟨by simp[h.1],fun j x p h1 h2=>?_⟩;rcases aO j css.length with hi|hi
 ·rw[aK hi]at h1;rw[aK (by rw[<-h.1];exact hi)]at h2;exact h.2 j x p h1 h2
 ·have hi0:j=css.length:=by have:=(aC.1 h1).1;simp at this;omega
  subst hi0;rw[aN (aE _),bH]at h1;rw[h.1,aN (aE _),bH]at h2;simp at h1 h2;subst h1 h2;exact hc
set_option maxHeartbeats 1000000 in
theorem AR{cn:Nat}(hS:Old S w)(hl:dG w S vl l)(hn20:f.nodes.length<=20)(hok:iS f.nodes.length l)
  {ab aq:Option Addr} {nb cb nq cq:Nat} (hvb:vb= .slice ab nb cb) (hvs:vs= .slice aq nq cq):
  du PG N.o0 #[.agg #[.slice an f.nodes.length cn,vb,vs],vl] w (eD w fun v' w2=>di w2 (fun _=>False) w.heap.size [(w.heap.size,w2.heap.size)] v' (3*f.nodes.length) (gL f l)∧∀q∈gL f l,rl q<=1):=by
 subst hvb hvs;have hw:cQ w.heap.size w w:=cQ.refl;obtain⟨al,cl,rfl,hcl,hml⟩:=hl.shape;have hl200:=hok.len;refine sT (by simp) ?_;refine⟨((3*f.nodes.length:Nat):Int),wo,?_⟩;obtain⟨m,hm⟩:∃m,3*f.nodes.length=m:=⟨_,rfl⟩
 rw[hm]
 refine⟨m,m,rfl,rfl,aE _,by omega,by omega,Nat×World,fun z=>⟨[(5,.o (.s 1 0 m m)),(18,.o (.v (.slice al l.length cl))),(19,.o (.v (.int .i64 l.length))),(20,.o (.v (.int .i64 ((z.1:Nat):Int))))],[(1,.arr T.int (zv (eC f.nodes.length l z.1)))],2,[],z.2⟩,fun z=>l.length-z.1,
  fun z=>z.1<=l.length∧cQ w.heap.size w z.2∧JK (eC f.nodes.length l z.1) (3000000*z.1),?_,?_⟩
 ·intro O w' r3;exact⟨(0,w'),⟨aP _,hw.tr r3.cI,fun z hz=>by rw[eC]at hz;rw[List.eq_of_mem_replicate hz];exact⟨Int.le_refl _,Int.le_refl _⟩⟩,Sub.gn [] r3 ⟨by dsimp only;rw[eC,hm,zv,List.map_replicate];rfl,trivial⟩⟩
 rintro⟨i,w1⟩ ⟨hi,hw,hbd⟩;dsimp only at hi hw hbd ⊢;refine dH.mk (fun hib=>?_) (fun hib=>?_)
 ·have hib:i<l.length:=by simpa using hib
  obtain⟨x,hx⟩:∃x,l[i]? =some x:=⟨_,aA hib⟩
  obtain⟨hn,hx1,hx2,hx3⟩:=hok.ld x (aD hx);obtain⟨kn,hkn⟩:=Int.eq_ofNat_of_zero_le hn.1;obtain⟨adx,cs,hax,hP,-,hlx⟩:=hl.load (by decide) hx;have hP:cs=[.int .i64 x.1,.int .i64 x.2.1,.int .i64 x.2.2.1,.int .i64 x.2.2.2]:=hP;subst hP
  refine⟨adx,hax,by omega,[.int .i64 x.1,.int .i64 x.2.1,.int .i64 x.2.2.1,.int .i64 x.2.2.2],rfl,rdO hlx hw hS,Nat×World,fun z=>⟨[(5,.o (.s 1 0 m m)),(7,.o (.p 2 0)),(30,.a [.v (.int .i64 x.2.1),.v (.int .i64 x.2.2.1),.v (.int .i64 x.2.2.2)]),(31,.o (.v (.int .i64 ((z.1:Nat):Int)))),(18,.o (.v (.slice al l.length cl))),(19,.o (.v (.int .i64 l.length))),(20,.o (.v (.int .i64 ((i:Nat):Int))))],[(2,.box T.xu [.v (.int .i64 x.1),.v (.int .i64 x.2.1),.v (.int .i64 x.2.2.1),.v (.int .i64 x.2.2.2)]),(1,.arr T.int (zv (gE (eC f.nodes.length l i) x z.1)))],3,[],z.2⟩,fun z=>3-z.1,
   fun z=>z.1<=3∧cQ w.heap.size w z.2∧JK (gE (eC f.nodes.length l i) x z.1) (3000000*i+1000000*z.1),?_,?_⟩
  ·intro O w' r3;exact⟨(0,w'),⟨aP _,hw.tr r3.cI,hbd⟩,Sub.gn [] r3⟩
  rintro⟨k,w3⟩ ⟨hk,hw,hbd⟩;dsimp only at hk hw hbd ⊢;refine dH.mk (fun hkb=>?_) (fun hkb=>?_)
  ·have hkb:k<3:=by have:=aH hkb;omega
   obtain⟨d,hd⟩:∃d,(J9 x).getD k 0=d:=⟨_,rfl⟩
   have hdb: -1000000<=d∧d<=1000000:=by
    rw[<-hd,J9];rcases(show k=0∨k=1∨k=2 by omega)with rfl|rfl|rfl<;>simp[List.getD]<;>omega
   have hLl:(gE (eC f.nodes.length l i) x k).length=m:=by rw[nC,iu,hm]
   obtain⟨z,hz⟩:∃z,(gE (eC f.nodes.length l i) x k)[3*kn+k]? =some z:=⟨_,aA (by omega)⟩
   have hzb:=hbd z (aD hz);have hej:3*x.1+(k:Int)=((3*kn+k:Nat):Int):=by omega
   have hnx:=Cm hej hd hz;have hbd2:=hbd.set (j:=3*kn+k) (z:=z+d) (t2:=3000000*i+1000000*(k+1:Nat)) (by omega) (by omega);rw[hnx]at hbd2;refine ye hτ (cs:= #[.int .i64 x.2.1,.int .i64 x.2.2.1,.int .i64 x.2.2.2]) rfl rfl rfl (fun _=>rfl) rfl ⟨by omega,by omega⟩ (u:=.int .i64 d) ?_ (fun O w4 r=>?_)
   ·rw[<-hd,J9,aJ];rcases(show k=0∨k=1∨k=2 by omega)with rfl|rfl|rfl<;>rfl
   replace hw:=hw.tr r.cI;refine⟨3*x.1,wo,((3*kn+k:Nat):Int),wo,by omega,.int .i64 z,by rw[aJ,ai,aU];exact Jc hz,z+d,wo,by omega,by rw[KP];omega,zv (gE (eC f.nodes.length l i) x (k+1)),?_,?_⟩
   ·rw[aJ,ai,aU,<-hnx];exact KQ (by omega)
   refine⟨((k+1:Nat):Int),wo,?_⟩;intro ρ3 w6 r3;exact⟨(k+1,w6),⟨hkb,hw.tr r3.cI,hbd2⟩,Sub.gn [] r3,by dsimp only;omega⟩
  have hkb:k=3:=by have:=aG hkb;omega
  subst hkb;have hnx:gE (eC f.nodes.length l i) x 3=eC f.nodes.length l (i+1):=by rw[eC,show l.getD i (0,0,0,0)=x by rw[List.getD,hx];rfl]
  rw[hnx]at hbd ⊢;refine⟨((i+1:Nat):Int),wo,?_⟩;intro ρ3 w6 r3;exact⟨(i+1,w6),⟨hib,hw.tr r3.cI,fun z hz=>by have:=hbd z hz;dsimp only;omega⟩,Sub.gn [] r3,by dsimp only;omega⟩
 have hib:i=l.length:=aQ hi (by simpa using hib);subst hib;obtain⟨s,hs⟩:∃s,eC f.nodes.length l l.length=s:=⟨_,rfl⟩
 have hsl:s.length=m:=by rw[<-hs,iu,hm]
 rw[hs]at hbd ⊢;unfold gL;rw[hs]
 refine⟨m,m,rfl,rfl,aE _,by omega,by omega,Nat×List (List Value)×Iv×World,fun z=>⟨[(10,.o (.s 2 0 m m)),(51,.o (.s 1 0 m m)),(52,.o (.v (.int .i64 m))),(53,.o (.v (.int .i64 ((z.1:Nat):Int))))],[(2,.arr T.Rat z.2.1.flatten),(1,.arr T.int (zv s))],3,z.2.2.1,z.2.2.2⟩,fun z=>m-z.1,
  fun z=>z.1<=m∧cQ w.heap.size w z.2.2.2∧fc z.2.2.2 (Cf w z.2.2.1) m z.1 z.2.1 (dc s),?_,?_⟩
 ·intro O w' r;exact⟨(0,List.replicate m f0,_,w'),⟨aP _,hw.tr r.cI,fc.start _ _ _ _⟩,Sub.gn [] r⟩
 rintro⟨i,css,iv,w1⟩ ⟨hi2,hw,hF⟩;dsimp only at hi2 hw hF ⊢;refine dH.mk (fun hib=>?_) (fun hib=>?_)
 ·have hib:i<m:=by simpa using hib
  obtain⟨z,hz⟩:∃z,s[i]? =some z:=⟨_,aA (by omega)⟩
  have hzb:=hbd z (aD hz);refine⟨by omega,.int .i64 z,by rw[aJ,ai,aU];exact Jc hz,?_⟩;refine bu (cE hw (fun _ w' v w2=>cP w2 (Nf w' w2) v (z:Rat)) (fun O w' r=>ke z w' (by omega) (by omega)) ?_);rintro O wa1 v1 wb1 iv1 r he hw h_ hn;replace hF:=hF.bz r (bs w) he (mC h_);have hd:=hn.dB (S:=fun _=>False) r.bw (mN h_);obtain⟨s1_0,s1_1,s1_2,s1_3,s1_4,s1_5,s1_6,s1_7,rfl⟩:=hd.shape;have hnext:=hF.next hib (q:=_) (by rw[dc,aM,hz];rfl) hd
  refine⟨by omega,by have:=hF.flat;omega,(css.set i [.bool s1_0,.slice s1_1 s1_2 s1_3,.bool s1_4,.slice s1_5 s1_6 s1_7]).flatten,?_,?_⟩
  ·have:=jg (cs:=[.bool s1_0,.slice s1_1 s1_2 s1_3,.bool s1_4,.slice s1_5 s1_6 s1_7]) hF.four (show i<css.length by rw[hF.len];exact hib);rw[<-this];simp
  refine⟨((i+1:Nat):Int),wo,?_⟩;intro ρ3 w3 r3;exact⟨(i+1,css.set i [.bool s1_0,.slice s1_1 s1_2 s1_3,.bool s1_4,.slice s1_5 s1_6 s1_7],_,w3),⟨hib,hw.tr r3.cI,hnext.rel r3 (bs w)⟩,Sub.gn [] r3,by dsimp only;omega⟩
 have hib:i=m:=aQ hi2 (by simpa using hib);subst hib;intro ρe we re
 exact⟨_,rfl,hw.tr re.cI,hF.done (by rw[dc,aL];exact hsl) (by unfold maxLen;omega) re (id:=2) rfl (re.nn 2 _ rfl (by intros;simp) (by simp)),fun q hq=>by
  obtain⟨z,hz,rfl⟩:=aS.1 hq;have:=hbd z hz
  exact AQ (by omega) (by omega)⟩
set_option maxHeartbeats 1000000 in
theorem AS{vn:Value}(hS:Old S w)(hf:dY w S vn vb vs f)(hok:uo f):
  du PG N.o7 #[.agg #[vn,vb,vs]] w (eD w fun v' w2=>dx w2 (Nw S w w2) v' (cX f)):=by
 have hw:cQ w.heap.size w w:=cQ.refl;obtain⟨an,cn,ab,cb,aq,cq,rfl,rfl,rfl,hmn,hmb,hms⟩:=hf.shape;have hf0:=hf;refine sV (by simp) ?_
 refine⟨Nat×List (List Value)×World,fun z=>⟨[(3,.o (.w 1 z.2.1.length)),(9,.o (.v (.slice ab f.bars.length cb))),(10,.o (.v (.int .i64 f.bars.length))),(11,.o (.v (.int .i64 ((z.1:Nat):Int)))),(1,.o (.p 0 0))],[(1,.vec T.Rat 4 z.2.1.flatten),(0,.box T.Frame [.v (.slice an f.nodes.length cn),.v (.slice ab f.bars.length cb),.v (.slice aq f.cS.length cq)])],2,[],z.2.2⟩,fun z=>f.bars.length-z.1,
  fun z=>z.1<=f.bars.length∧cQ w.heap.size w z.2.2∧(∀cs∈z.2.1,cs.length=4)∧(z.2.1.length=((fun i=>(f.bars.take i).map (·.2.2)) z.1).length∧∀(j:Nat) cs q,z.2.1[j]? =some cs->((fun i=>(f.bars.take i).map (·.2.2)) z.1)[j]? =some q->lT z.2.2 S cs q),?_,?_⟩
 ·intro O w' r;exact⟨(0,[],w'),⟨aP _,hw.tr r.cI,fun cs h=>(by cases h),rfl,fun j cs q h=>by cases h⟩,Sub.nil 3 T.Rat 4 rfl (by simp[ko,SV.sc,At.sc,gM]) r fun ρ1 r1=>Sub.gn [] r1⟩
 rintro⟨k,css,w1⟩ ⟨hk,hw,hc4,hR⟩;dsimp only at hk hw hc4 hR ⊢;have hfl:=fu hc4;refine dH.mk (fun hkb=>?_) (fun hkb=>?_)
 ·have hkb:k<f.bars.length:=by simpa using hkb
  have hb60:=hok.b;have hs60:=hok.s;obtain⟨b,hb⟩:∃b,f.bars[k]? =some b:=⟨_,aA hkb⟩
  have hnx:(fun i=>(f.bars.take i).map (·.2.2)) (k+1)=(fun i=>(f.bars.take i).map (·.2.2)) k++[b.2.2]:=by dsimp only;rw[List.take_add_one,hb];simp
  obtain⟨adb,cs,hab,hF,-,hlb⟩:=hf0.bars.load (by decide) hb;obtain⟨g0,g1,g2,g3,g4,g5,g6,g7,rfl,hF⟩:=hF;refine⟨adb,hab,by omega,[.int .i64 b.1,.int .i64 b.2.1,.bool g0,.slice g1 g2 g3,.bool g4,.slice g5 g6 g7],rfl,rdO hlb hw hS,?_⟩;have hC2:lT w1 S [.bool g0,.slice g1 g2 g3,.bool g4,.slice g5 g6 g7] b.2.2:=⟨_,_,_,_,_,_,_,_,rfl,hF.cB fun g hg=>hw.block g (hS g hg)⟩
  have hR2:=dx.Jd hR hC2;rw[<-hnx]at hR2;have hfl2:css.flatten++([.bool g0,.slice g1 g2 g3,.bool g4,.slice g5 g6 g7]:List Value)=(css++([[.bool g0,.slice g1 g2 g3,.bool g4,.slice g5 g6 g7]]:List (List Value))).flatten:=by simp
  have hlen2:css.length<=200:=by rw[hR.1,aL,aW];have:=hok.b;omega
  refine .inl ?_;refine⟨by omega,by omega,by unfold maxLen;omega,((k+1:Nat):Int),wo,?_⟩;intro ρ3 w3 r3
  exact⟨(k+1,css++[[.bool g0,.slice g1 g2 g3,.bool g4,.slice g5 g6 g7]],w3),⟨hkb,hw.tr r3.cI,fun cs hc=>by
   rcases bK.1 hc with hc|hc
   ·exact hc4 cs hc
   ·rw[bD.1 hc];rfl,hR2.1,fun j cs q h1 h2=>(hR2.2 j cs q h1 h2).cB fun g hg=>(r3.cI).block g (hS g hg)⟩,Sub.gn [(1,4)] r3 ⟨by dsimp only;rw[<-hfl2];rfl,rfl,trivial⟩ ⟨by dsimp only;rw[List.length_append,List.length_singleton];rfl,rfl,rfl,rfl,rfl,trivial⟩,by dsimp only;omega⟩
 have hkb:k=f.bars.length:=aQ hk (by simpa using hkb);subst hkb;have hrl:css.length=f.bars.length:=by rw[hR.1,aL,aW];omega
 rw[bF,show f.bars.map (·.2.2)=f.bars.map (·.2.2)++(f.cS.take 0).map (·.2.2) by simp]at hR
 refine⟨Nat×List (List Value)×World,fun z=>⟨[(3,.o (.w 1 z.2.1.length)),(22,.o (.v (.slice aq f.cS.length cq))),(23,.o (.v (.int .i64 f.cS.length))),(24,.o (.v (.int .i64 ((z.1:Nat):Int))))],[(1,.vec T.Rat 4 z.2.1.flatten),(0,.box T.Frame [.v (.slice an f.nodes.length cn),.v (.slice ab f.bars.length cb),.v (.slice aq f.cS.length cq)])],2,[],z.2.2⟩,fun z=>f.cS.length-z.1,
  fun z=>z.1<=f.cS.length∧cQ w.heap.size w z.2.2∧(∀cs∈z.2.1,cs.length=4)∧(z.2.1.length=((fun i=>f.bars.map (·.2.2)++(f.cS.take i).map (·.2.2)) z.1).length∧∀(j:Nat) cs q,z.2.1[j]? =some cs->((fun i=>f.bars.map (·.2.2)++(f.cS.take i).map (·.2.2)) z.1)[j]? =some q->lT z.2.2 S cs q),?_,?_⟩
 ·intro O w' r3;exact⟨(0,css,w'),⟨aP _,hw.tr r3.cI,hc4,hR.1,fun j cs q h1 h2=>(hR.2 j cs q h1 h2).cB fun g hg=>(r3.cI).block g (hS g hg)⟩,Sub.gn [] r3⟩
 rintro⟨k,css,w1⟩ ⟨hk,hw,hc4,hR⟩;dsimp only at hk hw hc4 hR ⊢;have hfl:=fu hc4;refine dH.mk (fun hkb=>?_) (fun hkb=>?_)
 ·have hkb:k<f.cS.length:=by simpa using hkb
  have hb60:=hok.b;have hs60:=hok.s;obtain⟨b,hb⟩:∃b,f.cS[k]? =some b:=⟨_,aA hkb⟩
  have hnx:(fun i=>f.bars.map (·.2.2)++(f.cS.take i).map (·.2.2)) (k+1)=(fun i=>f.bars.map (·.2.2)++(f.cS.take i).map (·.2.2)) k++[b.2.2]:=by dsimp only;rw[List.take_add_one,hb];simp
  obtain⟨adb,cs,hab,hF,-,hlb⟩:=hf0.cS.load (by decide) hb;obtain⟨g0,g1,g2,g3,g4,g5,g6,g7,rfl,hF⟩:=hF;refine⟨adb,hab,by omega,[.int .i64 b.1,.int .i64 b.2.1,.bool g0,.slice g1 g2 g3,.bool g4,.slice g5 g6 g7],rfl,rdO hlb hw hS,?_⟩;have hC2:lT w1 S [.bool g0,.slice g1 g2 g3,.bool g4,.slice g5 g6 g7] b.2.2:=⟨_,_,_,_,_,_,_,_,rfl,hF.cB fun g hg=>hw.block g (hS g hg)⟩
  have hR2:=dx.Jd hR hC2;rw[<-hnx]at hR2;have hfl2:css.flatten++([.bool g0,.slice g1 g2 g3,.bool g4,.slice g5 g6 g7]:List Value)=(css++([[.bool g0,.slice g1 g2 g3,.bool g4,.slice g5 g6 g7]]:List (List Value))).flatten:=by simp
  have hlen2:css.length<=200:=by rw[hR.1,List.length_append,aL,aL,aW];have:=hok.b;have:=hok.s;omega
  refine .inl ?_;refine⟨by omega,by omega,by unfold maxLen;omega,((k+1:Nat):Int),wo,?_⟩;intro ρ3 w3 r3
  exact⟨(k+1,css++[[.bool g0,.slice g1 g2 g3,.bool g4,.slice g5 g6 g7]],w3),⟨hkb,hw.tr r3.cI,fun cs hc=>by
   rcases bK.1 hc with hc|hc
   ·exact hc4 cs hc
   ·rw[bD.1 hc];rfl,hR2.1,fun j cs q h1 h2=>(hR2.2 j cs q h1 h2).cB fun g hg=>(r3.cI).block g (hS g hg)⟩,Sub.gn [(1,4)] r3 ⟨by dsimp only;rw[<-hfl2];rfl,rfl,trivial⟩ ⟨by dsimp only;rw[List.length_append,List.length_singleton];rfl,rfl,rfl,rfl,trivial⟩,by dsimp only;omega⟩
 have hkb:k=f.cS.length:=aQ hk (by simpa using hkb);subst hkb;intro ρe we re;have hfull:f.bars.map (·.2.2)++(f.cS.take f.cS.length).map (·.2.2)=cX f:=by rw[bF];rfl
 rw[hfull]at hR;refine⟨_,rfl,hw.tr re.cI,css,?_,hR.1,hc4,fun j cs q k1 k2=>((hR.2 j cs q k1 k2).cB fun g hg=>(re.cI).block g (hS g hg)).cC fun g hg=>.inl hg⟩;have hcl:=hR.1
 have h5:=re.jq (id:=1) (sz:=4) (m:=css.length) rfl hfl (by have:=hok.b;have:=hok.s;rw[hcl,nO];unfold fT.cols maxLen;omega) (by decide) (fun u hu=>by
  obtain⟨cs,hc,hu⟩:=List.mem_flatten.1 hu;obtain⟨j,hj⟩:=aR hc;obtain⟨_,_,_,_,_,_,_,_,rfl,_⟩:=hR.2 j cs _ hj (aA (by rw[<-hcl];exact(aC.1 hj).1));simp at hu
  rcases hu with rfl|rfl|rfl|rfl<;>rfl)
 rw[<-hcl];exact h5.cC fun g hg=>.inr hg
theorem cF.LW:cF w S (.slice none 0 0) []:=⟨[],⟨aP _,rfl,by simp,none,0,rfl,aE _,fun j u h=>by cases h⟩,rfl,by simp,fun j cs x h=>by cases h⟩
def dJ{α:Type}(e:List α->α->Int):List α->List α->Int
 |_,[]=>0
 |seen,x::r=>if e seen x=0 then dJ e (seen++[x]) r else e seen x
section
variable{α:Type}{e:List α->α->Int}{xs:List α}
theorem eY{k:Nat}{x:α}(hx:xs[k]? =some x)(h0:e (xs.take k) x=0):dJ e (xs.take k) (xs.drop k)=dJ e (xs.take (k+1)) (xs.drop (k+1)):=by
 have hk:=(aC.1 hx).1;have h2:=(aC.1 hx).2;rw[List.drop_eq_getElem_cons hk,h2,dJ,if_pos h0,List.take_add_one,hx];rfl
theorem cK{k:Nat}{x:α}{c:Int}(hx:xs[k]? =some x)(h0:e (xs.take k) x=c)(hc:c≠0):dJ e (xs.take k) (xs.drop k)=c:=by
 have hk:=(aC.1 hx).1;have h2:=(aC.1 hx).2;rw[List.drop_eq_getElem_cons hk,h2,dJ,aF (by rw[h0];exact hc),h0]
theorem fM{k:Nat}(hk:xs.length<=k):dJ e (xs.take k) (xs.drop k)=0:=by
 rw[List.drop_eq_nil_of_le hk];rfl
theorem fV(h:dJ e [] xs=0):∀k x,xs[k]? =some x->e (xs.take k) x=0:=by
 have key:∀k,k<=xs.length->dJ e (xs.take k) (xs.drop k)=0∧∀j x,j<k->xs[j]? =some x->e (xs.take j) x=0:=fun k=>by
  induction k with
  |zero=>intro _;exact⟨by simpa using h,fun j x hj=>by omega⟩
  |succ k ih=>
   intro hk;obtain⟨h1,h2⟩:=ih (by omega);obtain⟨x,hx⟩:∃x,xs[k]? =some x:=⟨_,aA (by omega)⟩
   have h0:e (xs.take k) x=0:=by
    by_cases h0:e (xs.take k) x=0
    ·exact h0
    ·rw[cK hx rfl h0]at h1;exact h1
   refine⟨by rw[<-eY hx h0];exact h1,fun j y hj hy=>?_⟩;rcases aO j k with hjk|hjk
   ·exact h2 j y hjk hy
   ·have:j=k:=by omega
    subst this;rw[hx]at hy;injection hy with hy;rw[<-hy];exact h0
 exact fun k x hx=>(key xs.length (aE _)).2 k x (aC.1 hx).1 hx
theorem xj(h:∀k x,xs[k]? =some x->e (xs.take k) x=0):dJ e [] xs=0:=by
 have key:∀k,k<=xs.length->dJ e [] xs=dJ e (xs.take k) (xs.drop k):=fun k=>by
  induction k with
  |zero=>intro _;simp
  |succ k ih=>
   intro hk;obtain⟨x,hx⟩:∃x,xs[k]? =some x:=⟨_,aA (by omega)⟩
   rw[ih (by omega),eY hx (h k x hx)]
 rw[key xs.length (aE _),fM (aE _)]
end
def jn(n:Int):Prop:= -1000000<=n∧n<=1000000
instance (n : Int) : Decidable (jn n) := by unfold jn; infer_instance
def e7(seen:List (Int×Int×Int))(p:Int×Int×Int):Int:=if jn p.1∧jn p.2.1∧jn p.2.2 then(if p∈seen then 12 else 0)else 2
def fm(b:Int×Int×Rat):Int×Int:=(min b.1 b.2.1,max b.1 b.2.1)
def iU(n:Nat)(i:Int):Prop:=0<=i∧i<n
instance (n : Nat) (i : Int) : Decidable (iU n i) := by unfold iU; infer_instance
def ed(n:Nat)(seen:List (Int×Int×Rat))(b:Int×Int×Rat):Int:=
 if iU n b.1∧iU n b.2.1 then(if b.1=b.2.1 then 3 else if fm b∈seen.map fm then 5 else if b.2.2<=0 then 2 else 0)else 6
def iC(s:Int×Int×Rat):Int×Int:=(s.1,s.2.1)
def ji(n:Nat)(seen:List (Int×Int×Rat))(s:Int×Int×Rat):Int:=
 if iU n s.1 then(if 0<=s.2.1∧s.2.1<=2 then(if iC s∈seen.map iC then 5 else if s.2.2<0 then 2 else 0)else 2)else 6
def eK(f:fT):Int:=
 if 20<f.nodes.length∨60<f.bars.length∨60<f.cS.length then 8 else
  if dJ e7 [] f.nodes≠0 then dJ e7 [] f.nodes else
   if dJ (ed f.nodes.length) [] f.bars≠0 then dJ (ed f.nodes.length) [] f.bars else dJ (ji f.nodes.length) [] f.cS
def jE(n:Nat)(x:Ld):Int:=if iU n x.1 then(if jn x.2.1∧jn x.2.2.1∧jn x.2.2.2 then 0 else 2)else 6
def jc(n:Nat)(l:List Ld):Int:=if 200<l.length then 8 else dJ (fun _=>jE n) [] l
def iG(f:fT)(l:List Ld):Int:=if eK f≠0 then eK f else jc f.nodes.length l
theorem rC{seen:List (Int×Int×Int)}:e7 seen p=0↔(jn p.1∧jn p.2.1∧jn p.2.2)∧p∉seen:=by
 unfold e7;split<;>rename_i h
 ·split<;>rename_i h2<;>simp[h,h2]
 ·simp[h]
theorem pR{n:Nat}:ed n seen b=0↔(iU n b.1∧iU n b.2.1)∧b.1≠b.2.1∧fm b∉seen.map fm∧0<b.2.2:=by
 unfold ed;rw[<-Rat.not_le];by_cases h:iU n b.1∧iU n b.2.1
 ·rw[if_pos h];by_cases h2:b.1=b.2.1
  ·rw[if_pos h2];exact⟨(fun e=>by cases e),fun e=>absurd h2 e.2.1⟩
  ·rw[aF h2];by_cases h3:fm b∈seen.map fm
   ·rw[if_pos h3];exact⟨(fun e=>by cases e),fun e=>absurd h3 e.2.2.1⟩
   ·rw[aF h3];by_cases h4:b.2.2<=0
    ·rw[if_pos h4];exact⟨(fun e=>by cases e),fun e=>absurd h4 e.2.2.2⟩
    ·rw[aF h4];exact⟨fun _=>⟨h,h2,h3,h4⟩,fun _=>rfl⟩
 ·rw[aF h];exact⟨(fun e=>by cases e),fun e=>absurd e.1 h⟩
theorem pQ{n:Nat}{s:Int×Int×Rat}:ji n seen s=0↔iU n s.1∧(0<=s.2.1∧s.2.1<=2)∧iC s∉seen.map iC∧0<=s.2.2:=by
 unfold ji;rw[<-Rat.not_lt];by_cases h:iU n s.1<;>by_cases h2:0<=s.2.1∧s.2.1<=2<;>by_cases h3:iC s∈seen.map iC<;>by_cases h4:s.2.2<0<;>simp only[h,h2,h3,h4]<;>simp
theorem xk{n:Nat}:jE n x=0↔iU n x.1∧jn x.2.1∧jn x.2.2.1∧jn x.2.2.2:=by
 unfold jE;split<;>rename_i h
 ·split<;>rename_i h2<;>simp[h,h2]
 ·simp[h]
theorem AD(h:eK f=0):(f.nodes.length<=20∧f.bars.length<=60∧f.cS.length<=60)∧dJ e7 [] f.nodes=0∧dJ (ed f.nodes.length) [] f.bars=0∧dJ (ji f.nodes.length) [] f.cS=0:=by
 unfold eK at h;split at h<;>rename_i h1
 ·cases h
 ·split at h<;>rename_i h2
  ·exact absurd h h2
  ·split at h<;>rename_i h3
   ·exact absurd h h3
   ·exact⟨by omega,by simpa using h2,by simpa using h3,h⟩
theorem rp(h:eK f=0):uo f:=by
 obtain⟨⟨h1,h2,h3⟩,hn,hb,hs⟩:=AD h;refine⟨fun p hp=>?_,fun b hb'=>?_,fun s hs'=>?_,h1,h2,h3⟩
 ·obtain⟨k,hk⟩:=aR hp;exact(rC.1 (fV hn k p hk)).1
 ·obtain⟨k,hk⟩:=aR hb';exact(pR.1 (fV hb k b hk)).1
 ·obtain⟨k,hk⟩:=aR hs';have:=pQ.1 (fV hs k s hk);exact⟨this.1,this.2.1⟩
theorem s8{n:Nat}(h:jc n l=0):iS n l:=by
 unfold jc at h;split at h<;>rename_i h1
 ·cases h
 ·refine⟨by omega,fun x hx=>?_⟩;obtain⟨k,hk⟩:=aR hx;exact xk.1 (fV h k x hk)
theorem j2(h:iG f l=0):eK f=0∧jc f.nodes.length l=0:=by
 unfold iG at h;split at h<;>rename_i h1
 ·exact absurd h h1
 ·exact⟨by simpa using h1,h⟩
theorem iN(n:Int)(w:World):du PG N.k5 #[.int .i64 n,.int .i64 1000000] w (eD w fun v' _=>∃d,v'= .bool d∧(d=true↔jn n)):=by
 have hw:cQ w.heap.size w w:=cQ.refl;refine lP (by simp) ?_;refine⟨-1000000,by decide,?_⟩;refine dH.mk (fun h1=>?_) (fun h1=>?_)
 ·intro ρe we re;have h1:=aH h1;exact⟨_,rfl,hw.tr re.cI,_,rfl,by rw[decide_eq_true_iff];exact⟨fun h=>⟨h1,h⟩,fun h=>h.2⟩⟩
 ·intro ρe we re;have h1:=aG h1;exact⟨_,rfl,hw.tr re.cI,_,rfl,(fun h=>by cases h),fun h=>absurd h.1 h1⟩
theorem Dx(n:Int)(w:World)(an ab aq:Option Addr)(ln cn nb cb nq cq:Nat):du PG N.ub #[.agg #[.slice an ln cn,.slice ab nb cb,.slice aq nq cq],.int .i64 n] w (eD w fun v' _=>∃d,v'= .bool d∧(d=true↔iU ln n)):=by
 have hw:cQ w.heap.size w w:=cQ.refl;refine yQ (by simp) ?_;refine dH.mk (fun h1=>?_) (fun h1=>?_)
 ·intro ρe we re;have h1:=aH h1;exact⟨_,rfl,hw.tr re.cI,_,rfl,by rw[decide_eq_true_iff];exact⟨fun h=>⟨h1,h⟩,fun h=>h.2⟩⟩
 ·intro ρe we re;have h1:=aG h1;exact⟨_,rfl,hw.tr re.cI,_,rfl,(fun h=>by cases h),fun h=>absurd h.1 h1⟩
theorem BP(x y0 y1 y2:Int)(n:Nat)(w:World):du PG N.lI #[.agg #[.int .i64 x,.int .i64 y0,.int .i64 y1,.int .i64 y2],.int .i64 n] w (eD w fun v' _=>v'= .int .i64 (jE n (x,y0,y1,y2))):=by
 have hw:cQ w.heap.size w w:=cQ.refl;refine oe (by simp) ?_;refine dH.mk (fun h1=>?_) (fun h1=>?_)
 ·have h1:=aH h1;intro ρe we re;exact⟨_,rfl,hw.tr re.cI,by show Value.int .i64 _=_;rw[jE,aF (by unfold iU;omega)]⟩
 have h1:=aG h1;refine dH.mk (fun h2=>?_) (fun h2=>?_)
 ·have h2:=aH h2;intro ρe we re;exact⟨_,rfl,hw.tr re.cI,by show Value.int .i64 _=_;rw[jE,aF (by unfold iU;omega)]⟩
 have h2:=aG h2;have hh:iU n x:=by unfold iU;omega
 refine bu (cE hw (fun _ w' v w2=>∃d,v= .bool d∧(d=true↔jn y0)) (fun O w' r=>iN _ w') ?_);rintro O wa1 v1 wb1 iv1 r he hw h_ ⟨d0,rfl,hz0⟩
 cases d0
 ·have hz0:¬jn y0:=fun h=>by have:=hz0.2 h;cases this
  intro ρe we re;exact⟨_,rfl,hw.tr re.cI,by show Value.int .i64 _=_;rw[jE,if_pos hh,aF (fun h=>hz0 h.1)]⟩
 replace hz0:=hz0.1 rfl;refine bu (cE hw (fun _ w' v w2=>∃d,v= .bool d∧(d=true↔jn y1)) (fun O w' r=>iN _ w') ?_);rintro O wa2 v2 wb2 iv2 r he hw h_ ⟨d1,rfl,hz1⟩
 cases d1
 ·have hz1:¬jn y1:=fun h=>by have:=hz1.2 h;cases this
  intro ρe we re;exact⟨_,rfl,hw.tr re.cI,by show Value.int .i64 _=_;rw[jE,if_pos hh,aF (fun h=>hz1 h.2.1)]⟩
 replace hz1:=hz1.1 rfl;refine bu (cE hw (fun _ w' v w2=>∃d,v= .bool d∧(d=true↔jn y2)) (fun O w' r=>iN _ w') ?_);rintro O wa3 v3 wb3 iv3 r he hw h_ ⟨d2,rfl,hz2⟩
 cases d2
 ·have hz2:¬jn y2:=fun h=>by have:=hz2.2 h;cases this
  intro ρe we re;exact⟨_,rfl,hw.tr re.cI,by show Value.int .i64 _=_;rw[jE,if_pos hh,aF (fun h=>hz2 h.2.2)]⟩
 replace hz2:=hz2.1 rfl;intro ρe we re;exact⟨_,rfl,hw.tr re.cI,by show Value.int .i64 _=_;rw[jE,if_pos hh,if_pos ⟨hz0,hz1,hz2⟩]⟩
theorem qM{n:Nat}(hS:Old S w)(hl:dG w S vl l):du PG N.k6 #[vl,.int .i64 n] w (eD w fun v' _=>v'= .int .i64 (jc n l)):=by
 have hw:cQ w.heap.size w w:=cQ.refl;obtain⟨al,cl,rfl,hcl,hml⟩:=hl.shape;unfold maxLen at hml;refine nk (by simp) ?_;refine dH.mk (fun h1=>?_) (fun h1=>?_)
 ·have h1:=aH h1;intro ρe we re;exact⟨_,rfl,hw.tr re.cI,by show Value.int .i64 _=_;rw[jc,if_pos (by omega)]⟩
 have h1:=aG h1
 refine⟨Nat×World×Iv,fun z=>⟨[(1,.o (.v (.int .i64 n))),(11,.o (.v (.slice al l.length cl))),(12,.o (.v (.int .i64 l.length))),(13,.o (.v (.int .i64 ((z.1:Nat):Int))))],[],0,z.2.2,z.2.1⟩,fun z=>l.length-z.1,
  fun z=>z.1<=l.length∧cQ w.heap.size w z.2.1∧jc n l=dJ (fun _=>jE n) (l.take z.1) (l.drop z.1),?_,?_⟩
 ·intro O w' r3;exact⟨(0,w',[]),⟨aP _,hw.tr r3.cI,by rw[jc,aF (by omega)];rfl⟩,Sub.gn [] r3⟩
 rintro⟨i,w1,iv⟩ ⟨hi,hw,hE⟩;dsimp only at hi hw hE ⊢;refine dH.mk (fun hib=>?_) (fun hib=>?_)
 ·have hib:i<l.length:=by simpa using hib
  obtain⟨x,hx⟩:∃x,l[i]? =some x:=⟨_,aA hib⟩
  obtain⟨adx,cs,hax,hP,-,hlx⟩:=hl.load (by decide) hx;have hP:cs=[.int .i64 x.1,.int .i64 x.2.1,.int .i64 x.2.2.1,.int .i64 x.2.2.2]:=hP;subst hP;refine⟨adx,hax,by omega,[.int .i64 x.1,.int .i64 x.2.1,.int .i64 x.2.2.1,.int .i64 x.2.2.2],rfl,rdO hlx hw hS,?_⟩;refine bu (cE hw (fun _ w' v w2=>v= .int .i64 (jE n x)) (fun O w' r=>BP _ _ _ _ n w') ?_);rintro O wa1 v1 wb1 iv1 r he hw h_ rfl;obtain⟨c,hc⟩:∃c,jE n x=c:=⟨_,rfl⟩
  rw[hc];refine dH.mk (fun hd=>?_) (fun hd=>?_)
  ·have hd:c≠0:=by simpa using hd
   intro ρe we re;exact⟨_,rfl,hw.tr re.cI,by show Value.int .i64 _=_;rw[hE,cK hx hc hd]⟩
  have hd:c=0:=by simpa using hd
  rw[hd]at hc;rw[eY hx hc]at hE;refine⟨((i+1:Nat):Int),wo,?_⟩;intro ρ3 w6 r3;exact⟨(i+1,w6,_),⟨hib,hw.tr r3.cI,hE⟩,Sub.gn [] r3,by dsimp only;omega⟩
 have hib:i=l.length:=aQ hi (by simpa using hib);rw[fM (by omega)]at hE;intro ρe we re;exact⟨_,rfl,hw.tr re.cI,by show Value.int .i64 _=_;rw[hE]⟩
end Go.Ex
