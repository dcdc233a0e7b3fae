/- Texts L43 to X144: lemmas, each with its conditions. -/
import Derived.Test.YtgkpbdkechfgmaaGreatP11
namespace Go.Ex
variable{F9 M:List (List Rat)}{pv:List Nat}{B j:Nat}{v:Nat->Rat}
theorem CV(f:Nat->Rat):∀n,cw f n=kO (List.range n) f
 |0=>rfl
 |n+1=>by
  rw[cw,CV f n,bO,xI];show _=_+(_+0)
  rw[bU]
theorem CW(g:Nat->Rat):∀l:List Nat,kO l g=cw (fun k=>g (l.getD k 0)) l.length
 |[]=>rfl
 |t::l=>by
  rw[List.length_cons,z6];show g t+kO l g=g t+_;rw[CW g l];rfl
def mulR(M:List (List Rat))(n:Nat)(x:Nat->Rat)(j:Nat):Rat:=cw (fun t=>dD M j t*x t) n
theorem eN.dot{FS:Mx}{r n:Nat}(h:eN FS r n v):∃c:Nat->Rat,(∀t,t<n->v t=cw (fun i=>c i*FS i t) r)/\∀x:Nat->Rat,cw (fun t=>v t*x t) n=cw (fun i=>c i*cw (fun t=>FS i t*x t) n) r:=by
 obtain⟨c,hc⟩:=h;refine⟨c,hc,fun x=>?_⟩;rw[cP (g:=fun t=>cw (fun i=>c i*FS i t*x t) r) fun t ht=>by rw[hc t ht,<-kP],lZ];exact cP fun i _=>by rw[<-ek];exact cP fun t _=>Rat.mul_assoc _ _ _
section
variable{M:List (List Rat)}{n:Nat}{x:Nat->Rat}{b:List Rat}
theorem LX(hM:fZ n M)(h:∀j,j<M.length->mulR M n x j=0){c:Nat}(hc:c<=n):∀i,i<M.length->mulR (cQ M c).1 n x i=0:=fun i A=>by
 obtain⟨c,_,G⟩:=((ji hM c hc).1 i A).dot;unfold mulR;rw[G x,cP (g:=fun _=>0) fun j hj=>by rw[show cw (fun t=>dD M j t*x t) n=0 from h j hj,ah],dc]
theorem Fa(hM:fZ n M){c:Nat}(hc:c<=n)(h:∀i,i<M.length->mulR (cQ M c).1 n x i=0):∀j,j<M.length->mulR M n x j=0:=fun j hj=>by
 obtain⟨c,_,G⟩:=((ji hM c hc).2 j hj).dot;unfold mulR;rw[G x,cP (g:=fun _=>0) fun i A=>by rw[show cw (fun t=>dD (cQ M _).1 i t*x t) n=0 from h i A,ah],dc]
theorem jn(hM:fZ n M){t:Nat}(hj:j<M.length):(t<n->dD (dg M b) j t=dD M j t)/\dD (dg M b) j n=b.getD j 0:=by
 have hr:=aA hj;have hl:(M[j]).length=n:=hM _ (aY hj);have e:(dg M b).getD j []=M[j]++[b.getD j 0]:=by rw[dg,List.getD,List.getElem?_mapIdx,hr];rfl
 have e2:M.getD j []=M[j]:=by rw[List.getD,hr];rfl
 refine⟨fun ht=>?_,?_⟩
 ·rw[dD,dD,e,e2,List.getD,aI (by omega),<-List.getD]
 ·rw[dD,e,List.getD,aM (by omega),hl,bJ];rfl
def Fb(x:Nat->Rat)(n t:Nat):Rat:=if t<n then x t else -1
theorem HN(hM:fZ n M)(hj:j<M.length):mulR (dg M b) (n+1) (Fb x n) j=mulR M n x j-b.getD j 0:=by
 have h:=fun t=>jn (b:=b) (t:=t) hM hj;unfold mulR;rw[cw,(h 0).2,show Fb x n n= -1 by unfold Fb;rw[aH (Nat.lt_irrefl n)],cP (g:=fun t=>dD M j t*x t) fun t ht=>by rw[(h t).1 ht];unfold Fb;rw[if_pos ht]];grind
def fM(M:List (List Rat))(b:List Rat)(n:Nat):Option (List Rat):=
 let e:=cQ (dg M b) n
 if ∀j,j<M.length->e.2.length<=j->dD e.1 j n=0 then some (fE e.1 e.2 n e.2.length)else none
theorem iV{x:List Rat}(hM:fZ n M)(h:fM M b n=some x):x.length=n/\∀j,j<M.length->mulR M n (fun t=>x.getD t 0) j=b.getD j 0:=by
 unfold fM at h;dsimp only at h;split at h
 ·rename_i h0;injection h with h;have hW:=jI (b:=b) hM;obtain⟨r1,r2,E,r4,r5⟩:=eA hW n (Nat.le_succ n);have Qv:=gh (dg M b) n;have Tv:=eH (M:=M) (b:=b);have hl:=eP (dg M b) n;have QJ:x.length=n:=by rw[<-h,j7]
  have RO:∀j,j<(cQ (dg M b) n).2.length->x.getD ((cQ (dg M b) n).2.getD j 0) 0=dD (cQ (dg M b) n).1 j n:=fun j hj=>by
   rw[<-h];exact oX (D':=fE (cQ (dg M b) n).1 (cQ (dg M b) n).2 n) (f:=fun i=>dD (cQ (dg M b) n).1 i n) (fun i=>gJ _ _ n i) (j7 _ _ n) Qv.2.1 r4 _ (Nat.le_refl _) hj
  have PQ:∀t,t∉(cQ (dg M b) n).2->x.getD t 0=0:=fun t ht=>by rw[<-h];exact tt ht
  refine⟨QJ,fun j hj=>?_⟩;have key:=Fa (M:=dg M b) (x:=Fb (fun t=>x.getD t 0) n) hW (c:=n) (Nat.le_succ n) (fun i A=>?_) j (by rw[Tv];exact hj)
  ·rw[HN hM hj]at key;grind
  ·unfold mulR;rw[cw,show Fb (fun t=>x.getD t 0) n n= -1 by unfold Fb;rw[aH (Nat.lt_irrefl n)],cP (g:=fun t=>dD (cQ (dg M b) n).1 i t*x.getD t 0) fun t ht=>by unfold Fb;rw[if_pos ht]];rcases aO i (cQ (dg M b) n).2.length with L|L
   ·rw[eo (i:=(cQ (dg M b) n).2.getD i 0) (r4 _ (by rw[List.getD,aA L];exact aY _)) fun t ht Oe=>?_,r5 i i L (by omega),if_pos rfl,RO i L]
    ·grind
    ·by_cases hp:t∈(cQ (dg M b) n).2
     ·obtain⟨k,D,rfl⟩:=sd hp;rw[r5 k i D (by omega),aH (fun e=>Oe (by rw[e])),bE]
     ·rw[PQ t hp,ah]
   ·rw[cP (g:=fun _=>0) fun t ht=>by rw[E i t L (by omega) ht,bE],dc,h0 i (by rw[<-Tv];exact A) L];grind
 ·cases h
theorem o8(hM:fZ n M)(h:fM M b n=none):∃y:Nat->Rat,(∀t,t<n->cw (fun j=>y j*dD M j t) M.length=0)/\cw (fun j=>y j*b.getD j 0) M.length≠0:=by
 unfold fM at h;dsimp only at h;split at h
 ·cases h
 ·rename_i h0;obtain⟨i,A,L,G⟩:∃i,i<M.length/\(cQ (dg M b) n).2.length<=i/\dD (cQ (dg M b) n).1 i n≠0:=by
   refine Decidable.byContradiction fun TA=>h0 fun j hj hr=>Decidable.byContradiction fun G=>TA ⟨j,hj,hr,G⟩
  have hW:=jI (b:=b) hM;have Tv:=eH (M:=M) (b:=b);have hl:=eP (dg M b) n;obtain⟨r1,r2,E,r4,r5⟩:=eA hW n (Nat.le_succ n);obtain⟨y,hy⟩:=(ji hW n (Nat.le_succ n)).1 i (by omega);rw[Tv]at hy;refine⟨y,fun t ht=>?_,?_⟩
  ·have N:=hy t (by omega);rw[E i t L (by omega) ht]at N;rw[N];exact cP fun j hj=>by rw[(jn (b:=b) hM hj).1 ht]
  ·have N:=hy n (by omega);rw[cP (g:=fun j=>y j*b.getD j 0) fun j hj=>by rw[(jn (b:=b) (t:=n) hM hj).2]]at N;rw[<-N];exact G
theorem nY{x:Nat->Rat}(hM:fZ n M)(h:∀j,j<M.length->mulR M n x j=b.getD j 0):∃z,fM M b n=some z:=by
 cases e:fM M b n with
 |some z=>exact⟨z,rfl⟩
 |none=>
  obtain⟨y,L,G⟩:=o8 hM e;refine absurd ?_ G;rw[cP fun j hj=>by rw[<-h j hj,mulR,<-ek],lZ,cP (g:=fun _=>0) fun t ht=>?_,dc];rw[cP (g:=fun j=>y j*dD M j t*x t) fun j _=>(Rat.mul_assoc _ _ _).symm,kP,L t ht,bE]
def Inj(M:List (List Rat))(n:Nat):Prop:=∀x:Nat->Rat,(∀j,j<M.length->mulR M n x j=0)->∀t,t<n->x t=0
theorem Fe(M:List (List Rat))(n:Nat)(x y:Nat->Rat)(j:Nat):mulR M n (fun t=>x t-y t) j=mulR M n x j-mulR M n y j:=by
 unfold mulR;rw[<-tu];exact cP fun t _=>by grind
theorem CX{x:List Rat}(hM:fZ n M)(A:Inj M n)(F:x.length=n)(h:∀j,j<M.length->mulR M n (fun t=>x.getD t 0) j=b.getD j 0):fM M b n=some x:=by
 obtain⟨z,hz⟩:=nY hM h;obtain⟨L,G⟩:=iV hM hz;rw[hz];congr 1;refine gz 0 (by rw[L,F]) fun t ht=>?_;have:=A (fun t=>z.getD t 0-x.getD t 0) (fun j hj=>by rw[Fe,h j hj,G j hj];grind) t (by omega);grind
theorem uB(M:List (List Rat))(b:List Rat):kM M b=dg M b:=rfl
theorem Ff{r i t:Nat}(h:i<r):dD (F9.take r) i t=dD F9 i t:=by
 rw[dD,dD,show(F9.take r).getD i []=F9.getD i [] by rw[List.getD,bS h,<-List.getD]]
theorem xN(F9:List (List Rat))(pv:List Nat)(n:Nat):∀k,k<=pv.length->fE (F9.take pv.length) pv n k=fE F9 pv n k
 |0,_=>rfl
 |k+1,h=>by rw[gJ,gJ,xN F9 pv n k (by omega),Ff (by omega)]
theorem xO(F9:List (List Rat))(pv:List Nat)(n c:Nat):∀k,k<=pv.length->fp (F9.take pv.length) pv n c k=fp F9 pv n c k
 |0,_=>rfl
 |k+1,h=>by rw[gI,gI,xO F9 pv n c k (by omega),Ff (by omega)]
abbrev cW(M:List (List Rat))(n:Nat):List (List Rat):=dM (cQ M n).1 (cQ M n).2 n n
theorem zp(hM:fZ n M)(hW:zl M n B):kX M n=cW M n:=by
 obtain⟨e1,e2⟩:=o7 hM hW;unfold kX cW dM;rw[e1,e2];exact List.map_congr_left fun c _=>xO _ _ n c _ (Nat.le_refl _)
theorem vo(hM:fZ n M)(hW:zl (dg M b) (n+1) B):o6 M b n=fM M b n:=by
 have hWl:=jI (b:=b) hM;obtain⟨e1,e2⟩:=o7 hWl hW;have hl:=eP (dg M b) n;have Tv:=eH (M:=M) (b:=b);obtain⟨r1,r2,E,r4,r5⟩:=eA hWl n (Nat.le_succ n);have e:cQ (dg M b) (n+1)=dW (cQ (dg M b) n) n:=by
  unfold cQ;rw[bO,List.foldl_append];rfl
 unfold o6 fM;dsimp only
 rcases jm n r2 with⟨k1,k2⟩|⟨k,k1,k2,k3,k4⟩
 ·rw[aH (by rw[uB,e1,e,k1];exact fun h=>by have:=r4 n h;omega),if_pos fun j hj hr=>k2 j hr (by omega),uB,e1,e2,e,k1,xN _ _ n _ (Nat.le_refl _)]
 ·rw[if_pos (by rw[uB,e1,e,k4];simp),aH fun h=>k3 (h k (by omega) k1)]
theorem LY(hM:fZ n M){x:List Rat}(h:∀j,j<M.length->mulR M n (fun t=>x.getD t 0) j=0):Diff (cQ M n).1 (cQ M n).2 n x:=by
 obtain⟨r1,r2,E,r4,r5⟩:=eA hM n (Nat.le_refl _);have Qv:=gh M n;have hl:=eP M n;refine⟨Qv.2.1,r4,r2,r5,fun j hj=>?_⟩;rw[<-CV];have L:=LX hM h (Nat.le_refl n) j (by omega);unfold mulR at L;rw[L,dD,List.getD,List.getElem?_eq_none (by rw[r1.getD hj];exact Nat.le_refl _)];rfl
theorem l9(M:List (List Rat))(n:Nat):(cW M n).length=(jZ (cQ M n).2 n).length:=by unfold cW dM;rw[aJ]
theorem zq(M:List (List Rat))(n:Nat){k:Nat}(D:k<(cW M n).length):(cW M n).getD k []=fp (cQ M n).1 (cQ M n).2 n ((jZ (cQ M n).2 n).getD k 0) (cQ M n).2.length:=by
 obtain⟨r,hr⟩:∃r,(cW M n)[k]? =some r:=⟨_,aA D⟩
 rw[List.getD,hr];exact(oY hr).2
theorem jk(M:List (List Rat))(n:Nat):fZ n (cW M n):=fun r hr=>by
 obtain⟨k,D⟩:=aN hr;rw[(oY D).2,j6]
theorem qE(hM:fZ n M){k:Nat}(D:k<(cW M n).length):∀j,j<M.length->mulR M n (dD (cW M n) k) j=0:=by
 obtain⟨r1,r2,E,r4,r5⟩:=eA hM n (Nat.le_refl _);have Qv:=gh M n;have hl:=eP M n;have hf:=lX.1 (qC (by rw[<-l9];exact D));refine Fa hM (Nat.le_refl n) fun i A=>?_;have Oa:=zq M n D;generalize hc:(jZ (cQ M n).2 n).getD k 0=c at hf Oa;have RO:∀j,j<(cQ M n).2.length->dD (cW M n) k ((cQ M n).2.getD j 0)= -(dD (cQ M n).1 j c):=fun j hj=>by
  rw[dD,Oa];exact oX (D':=fp (cQ M n).1 (cQ M n).2 n c) (f:=fun i=> -(dD (cQ M n).1 i c)) (fun i=>gI _ _ n c i) (j6 _ _ n c) Qv.2.1 r4 _ (Nat.le_refl _) hj
 have PQ:∀t,t∉(cQ M n).2->dD (cW M n) k t=if t=c then 1 else 0:=fun t ht=>by rw[dD,Oa];exact qB ht hf.1
 unfold mulR;rcases aO i (cQ M n).2.length with L|L
 ·have Sq:(cQ M n).2.getD i 0∈(cQ M n).2:=by rw[List.getD,aA L];exact aY _
  have Oe:(cQ M n).2.getD i 0≠c:=fun e=>hf.2 (e▸Sq);have e:cw (fun t=>dD (cQ M n).1 i t*dD (cW M n) k t) n=cw (fun t=>(if t=(cQ M n).2.getD i 0 then -(dD (cQ M n).1 i c)else 0)+(if t=c then dD (cQ M n).1 i c else 0)) n:=by
   refine cP fun t ht=>?_;by_cases hp:t∈(cQ M n).2
   ·obtain⟨j,hj,rfl⟩:=sd hp;rw[RO j hj,r5 j i hj (by omega),aH (show ¬(cQ M n).2.getD j 0=c from fun e=>hf.2 (e▸hp)),bU];by_cases Pr:i=j
    ·rw[if_pos Pr,if_pos (by rw[Pr]),Pr,cB]
    ·have Wd:(cQ M n).2.getD j 0≠(cQ M n).2.getD i 0:=fun e2=>Pr (by
      rcases cC i j with h5|h5|h5
      ·have:(cQ M n).2.getD i 0<(cQ M n).2.getD j 0:=LF Qv.2.1 h5 hj;omega
      ·exact h5
      ·have:(cQ M n).2.getD j 0<(cQ M n).2.getD i 0:=LF Qv.2.1 h5 L
       omega)
     rw[aH Pr,aH Wd,bE]
   ·rw[PQ t hp,aH (show ¬t=(cQ M n).2.getD i 0 from fun e2=>hp (e2▸Sq)),Rat.zero_add];by_cases htc:t=c
    ·rw[if_pos htc,if_pos htc,htc,Rat.mul_one]
    ·rw[aH htc,aH htc,ah]
  rw[e,gP,eo (i:=(cQ M n).2.getD i 0) (r4 _ Sq) fun t _ Oe=>aH Oe,eo (i:=c) hf.1 fun t _ Oe=>aH Oe,if_pos rfl,if_pos rfl];grind
 ·rw[cP (g:=fun _=>0) fun t ht=>by rw[E i t L (by omega) ht,bE],dc]
theorem I0(hM:fZ n M)(h:∀j,j<M.length->mulR M n x j=0):∃c:Nat->Rat,∀t,t<n->x t=cw (fun k=>c k*dD (cW M n) k t) (cW M n).length:=by
 obtain⟨l,hl⟩:∃l,l=(List.range n).map x:=⟨_,rfl⟩
 have F:∀t,t<n->l.getD t 0=x t:=fun t ht=>by rw[hl,List.getD,aL,bm ht];rfl
 have hd:=LY (x:=l) hM fun j hj=>Eq.trans (cP fun t ht=>congrArg (dD M j t* ·) (F t ht)) (h j hj);refine⟨fun k=>l.getD ((jZ (cQ M n).2 n).getD k 0) 0,fun t ht=>?_⟩;have L:=hd.rest ht;obtain⟨r1,r2,E,r4,r5⟩:=eA hM n (Nat.le_refl _);have h0:(fE (cQ M n).1 (cQ M n).2 n (cQ M n).2.length).getD t 0=0:=by
  by_cases hp:t∈(cQ M n).2
  ·obtain⟨j,hj,rfl⟩:=sd hp;rw[hd.xin hj,dD,List.getD,List.getElem?_eq_none (by rw[r1.getD (by omega)];exact Nat.le_refl _)];rfl
  ·exact tt hp
 rw[h0,bE,bU,F t ht,CW]at L;rw[L,l9];exact cP fun k D=>by rw[dD,zq M n (by rw[l9];exact D)]
theorem Da{c:Nat->Rat}(h:∀t,t<n->cw (fun k=>c k*dD (cW M n) k t) (cW M n).length=0):∀k,k<(cW M n).length->c k=0:=fun k D=>by
 have Sp:k<(jZ (cQ M n).2 n).length:=by rw[<-l9];exact D
 have hf:=lX.1 (qC Sp);have L:=h _ hf.1;obtain⟨r,hr⟩:∃r,(cW M n)[k]? =some r:=⟨_,aA D⟩
 rw[eo D fun i A Oe=>?_]at L
 ·rw[dD,show(cW M n).getD k []=r by rw[List.getD,hr];rfl,z5 hr hr,if_pos rfl,Rat.mul_one]at L;exact L
 ·obtain⟨s,hs⟩:∃s,(cW M n)[i]? =some s:=⟨_,aA A⟩
  rw[dD,show(cW M n).getD i []=s by rw[List.getD,hs];rfl,z5 hr hs,aH Oe,ah]
end
theorem zt(p:Nat->Bool):∀l:List Nat,l.length=(l.filter p).length+(l.filter fun c=> !p c).length
 |[]=>rfl
 |c::l=>by
  have ih:=zt p l;rw[List.filter_cons,List.filter_cons]
  cases p c with
  |true=>simp;omega
  |false=>simp;omega
theorem LZ{n:Nat}(R:pv.Nodup)(hl:∀p∈pv,p<n):(jZ pv n).length=n-pv.length:=by
 have L:(List.range n).length=((List.range n).filter fun c=>decide (c∉pv)).length+((List.range n).filter fun c=>decide (c∈pv)).length:=by
  refine(zt (fun c=>decide (c∉pv)) (List.range n)).trans ?_;congr 2;refine List.filter_congr fun c _=>?_;by_cases h:c∈pv<;>simp[h]
 have G:((List.range n).filter fun c=>decide (c∈pv)).length=pv.length:=by
  refine(List.Perm.length_eq ?_);refine(List.perm_ext_iff_of_nodup (List.Pairwise.filter _ List.nodup_range) R).2 fun c=>?_;rw[List.mem_filter,List.mem_range,decide_eq_true_eq];exact⟨fun h=>h.2,fun h=>⟨hl c h,h⟩⟩
 rw[List.length_range]at L;unfold jZ;omega
theorem o9{n:Nat}(hM:fZ n M):(cW M n).length=n-(cQ M n).2.length:=by
 obtain⟨r1,r2,E,r4,r5⟩:=eA hM n (Nat.le_refl _);have Qv:=gh M n;rw[l9];exact LZ (Qv.2.1.imp fun h=>Nat.ne_of_lt h) r4
end Go.Ex
namespace Go.Ex
open Go Go.Sx Go.Proofs
variable{after:Array Edge}{z:Int}{p:Int×Int×Rat}{M:List (List Rat)}{Z:List (List Value)}{l:List Int}{W:List Value}{j:Nat}{C S S':Nat->Prop}{guard:Option (Nat×Bool)}{a:Option Addr}{dst:Option Tmp}{Fn:SV->Hp->Nat->Iv->World->Prop}{v:Value}{w V:World}{f:fC}
theorem cV.nil:cV w S (.slice none 0 0) []:=⟨[],⟨by decide,rfl,fun u hu=>absurd hu (by simp),none,0,rfl,Nat.le_refl _,fun j u hu=>absurd hu (by simp)⟩,rfl,fun i u x L G=>absurd G (by simp)⟩
theorem dO.nil:dO w S (.slice none 0 0) []:=⟨by decide,rfl,fun u hu=>absurd hu (by simp),none,0,rfl,Nat.le_refl _,fun j u hu=>absurd hu (by simp)⟩
theorem EZ(M:List (List Rat)):(dY M 0).1=[]/\(dY M 0).2.1=[]/\(dY M 0).2.2=[]:=by simp[dY,dN]
theorem Ea(M:List (List Rat)):kX M 0=[]:=by simp[kX,dM]
set_option maxHeartbeats 1000000 in
theorem xn(hC:Old C w)(X:Old S w)(hM:lI w C S v M)(hlen:fZ 0 M)(hR:M.length<=1000):
  eI PG F'.fq #[.agg #[v,.int .i64 0],.int .i64 0] w (eO w fun v' V=>v'= .agg #[.slice none 0 0,.int .i64 0,.slice none 0 0,.slice none 0 0]):=by
 have I:=bR w;obtain⟨am,cm,rfl,So,SC⟩:=lI.shape hM;unfold maxLen at SC;refine js (by simp) ?_;refine⟨0,0,rfl,rfl,Nat.le_refl _,by omega,by omega,World,fun z=>⟨[(1,iZ 0),(2,pP 0 0),(4,pP 1 0),(5,pP 2 0),(6,.o (.s 3 0 0 0)),(27,iZ 0),(28,iZ 0)],[(3,.arr T.int []),(2,.box T.dX [.v (.slice none 0 0),.v (.int .i64 0),.v (.slice none 0 0),.v (.slice none 0 0)]),(1,.box T.dX [.v (.slice none 0 0),.v (.int .i64 0),.v (.slice none 0 0),.v (.slice none 0 0)]),(0,.box T.dy [.v (.slice am M.length cm),.v (.int .i64 0)])],4,[],z⟩,fun z=>0,fun z=>dw w.heap.size w z,?_,?_⟩
 ·intro O J E;exact⟨J,I.tr E.cU,Sub.gn [] E⟩
 rintro w1 I;dsimp only at I ⊢
 refine⟨Nat×World,fun z=>⟨[(38,iN z.1),(1,iZ 0),(2,pP 0 0),(4,pP 1 0),(5,pP 2 0),(6,.o (.s 3 0 0 0)),(36,sV am M.length cm),(37,iZ M.length)],[(3,.arr T.int []),(2,.box T.dX [.v (.slice none 0 0),.v (.int .i64 0),.v (.slice none 0 0),.v (.slice none 0 0)]),(1,.box T.dX [.v (.slice none 0 0),.v (.int .i64 0),.v (.slice none 0 0),.v (.slice none 0 0)]),(0,.box T.dy [.v (.slice am M.length cm),.v (.int .i64 0)])],5,[],z.2⟩,fun z=>M.length-z.1,
  fun z=>z.1<=M.length/\dw w.heap.size w z.2,?_,?_⟩
 ·intro O J E;exact⟨(0,J),⟨aQ _,I.tr E.cU⟩,Sub.gn [] E⟩
 rintro⟨i,w1⟩ ⟨A,I⟩;dsimp only at A I ⊢;refine dQ.mk ?_ ?_<;>intro OZ
 ·have OZ:i<M.length:=by simpa using OZ
  obtain⟨x,F⟩:∃r,M[i]? =some r:=⟨_,aA OZ⟩
  have QJ:=hlen x (aC F);obtain rfl:=List.eq_nil_of_length_eq_zero QJ;obtain⟨adm,um,Rn,Pj,km1,km2⟩:=lI.load hM F;obtain⟨Z,⟨-,g1,g2,a0,c0,rfl,g4,g5⟩,Pu,UN,PS⟩:=Pj;obtain rfl:=List.eq_nil_of_length_eq_zero Pu;refine⟨adm,Rn,by omega,.slice a0 0 c0,rd1 km2 I (hC _ km1),?_⟩;refine .inl ?_;refine⟨[],rfl,g2,fun O J r QI=>absurd QI (by simp),rfl,by omega,by unfold maxLen;omega,World,fun z=>⟨[(9,.o (.w 6 0)),(46,iZ 0),(47,iZ 0),(2,pP 0 0),(4,pP 1 0),(5,pP 2 0),(6,.o (.s 3 0 0 0)),(8,iN i),(36,sV am M.length cm),(37,iZ M.length),(38,iN i),(1,iZ 0)],[(6,.vec T.Rat 4 []),(3,.arr T.int []),(2,.box T.dX [.v (.slice none 0 0),.v (.int .i64 0),.v (.slice none 0 0),.v (.slice none 0 0)]),(1,.box T.dX [.v (.slice none 0 0),.v (.int .i64 0),.v (.slice none 0 0),.v (.slice none 0 0)]),(0,.box T.dy [.v (.slice am M.length cm),.v (.int .i64 0)])],7,[],z⟩,fun z=>0,fun z=>dw w.heap.size w z,?_,?_⟩
  ·intro O J E;exact⟨J,I.tr E.cU,Sub.gn [] E⟩
  rintro w1 I;dsimp only at I ⊢;refine⟨World,fun z=>⟨[(9,.o (.w 6 0)),(12,iZ 0),(2,pP 0 0),(4,pP 1 0),(5,pP 2 0),(6,.o (.s 3 0 0 0)),(8,iN i),(36,sV am M.length cm),(37,iZ M.length),(38,iN i),(1,iZ 0)],[(6,.vec T.Rat 4 []),(3,.arr T.int []),(2,.box T.dX [.v (.slice none 0 0),.v (.int .i64 0),.v (.slice none 0 0),.v (.slice none 0 0)]),(1,.box T.dX [.v (.slice none 0 0),.v (.int .i64 0),.v (.slice none 0 0),.v (.slice none 0 0)]),(0,.box T.dy [.v (.slice am M.length cm),.v (.int .i64 0)])],7,[],z⟩,fun z=>0,fun z=>dw w.heap.size w z,?_,?_⟩
  ·intro O J E;exact⟨J,I.tr E.cU,Sub.gn [] E⟩
  rintro w1 I;dsimp only at I ⊢;refine⟨((i+1:Nat):Int),wo,?_⟩;intro GT w3 E;exact⟨(i+1,w3),⟨OZ,I.tr E.cU⟩,Sub.gn [] E,by dsimp only;omega⟩
 refine⟨World,fun z=>⟨[(4,pP 1 0),(5,pP 2 0),(17,pP 5 0),(159,.o (.s 3 0 0 0)),(160,iZ 0),(161,iZ 0)],[(5,.box T.dX [.v (.slice none 0 0),.v (.int .i64 0),.v (.slice none 0 0),.v (.slice none 0 0)]),(3,.arr T.int []),(2,.box T.dX [.v (.slice none 0 0),.v (.int .i64 0),.v (.slice none 0 0),.v (.slice none 0 0)]),(1,.box T.dX [.v (.slice none 0 0),.v (.int .i64 0),.v (.slice none 0 0),.v (.slice none 0 0)]),(0,.box T.dy [.v (.slice am M.length cm),.v (.int .i64 0)])],6,[],z⟩,fun z=>0,fun z=>dw w.heap.size w z,?_,?_⟩
 ·intro O J E;exact⟨J,I.tr E.cU,Sub.gn [] E⟩
 rintro w1 I;dsimp only at I ⊢;exact rtn I fun IR we re=>rfl
theorem Hj(hC:Old C w)(X:Old S w)(hM:lI w C S v M)(hlen:fZ 0 M)(hR:M.length<=1000):
  eI PG F'.fq #[.agg #[v,.int .i64 0],.int .i64 0] w (eO w fun v' V=>∃vr vp vf,v'= .agg #[vr,.int .i64 0,vp,vf]/\cV V (Nw S w V) vr (dY M 0).1/\dO V (Nf w V) vp (dY M 0).2.1/\dO V (Nf w V) vf (dY M 0).2.2):=by
 refine(xn hC X hM hlen hR).mono fun v1 w1 L=>?_;obtain⟨_,e,hb,rfl⟩:=L;obtain⟨e1,e2,e3⟩:=EZ M;rw[e1,e2,e3];exact⟨_,e,hb,_,_,_,rfl,cV.nil,dO.nil,dO.nil⟩
theorem Hk{n h:Nat}(hC:Old C w)(X:Old S w)(hM:lI w C S v M)(hlen:fZ n M)(hR:M.length<=1000)(R:n<=1000)(hB:EO M n h)(hh:3*h<=90000):
  eI PG F'.fq #[.agg #[v,.int .i64 n],.int .i64 n] w (eO w fun v' V=>∃vr vp vf,v'= .agg #[vr,.int .i64 n,vp,vf]/\cV V (Nw S w V) vr (dY M n).1/\dO V (Nf w V) vp (dY M n).2.1/\dO V (Nf w V) vf (dY M n).2.2):=by
 rcases bK n with h0|h0
 ·subst h0;exact Hj hC X hM hlen hR
 ·exact wW hC X hM hlen h0 R hR (Nat.le_refl _) hB hh
set_option maxHeartbeats 1000000 in
theorem Hl(hC:Old C w)(X:Old S w)(hM:lI w C S v M)(hlen:fZ 0 M)(hR:M.length<=1000):
  eI PG F'.gk #[.agg #[v,.int .i64 0]] w (eO w fun v' V=>cV V (Nf w V) v' (kX M 0)):=by
 have I:=bR w;obtain⟨am,cm,rfl,So,SC⟩:=lI.shape hM;unfold maxLen at SC;refine jr (by simp) ?_
 refine cJ (cO (If:=fun _ J v V=>v= .agg #[.slice none 0 0,.int .i64 0,.slice none 0 0,.slice none 0 0]) (fun O J r=>by
  obtain⟨rv,m1,m2,m3⟩:=hM
  exact xn (C:=C) (S:=S) (oS hC r) (oS X r) ⟨rv,m1.cK fun g Y=>(I.tr r.cU).block g (hC g Y),m2,fun i u x L G=>cS.cK (m3 i u x L G) fun g Y=>(I.tr r.cU).block g (X g Y)⟩ hlen hR) ?_)
 rintro O Q6 v1 QT r U Py rfl;replace I:=I.tr Py;generalize (Q6.heap.size,QT.heap.size)::[]=Oo at*
 refine⟨0,0,rfl,rfl,Nat.le_refl _,by omega,by omega,World×Iv,fun z=>⟨[(1,pP 0 0),(3,pP 1 0),(4,.o (.s 2 0 0 0)),(20,sV none 0 0),(21,iZ 0),(22,iZ 0)],[(2,.arr T.bool []),(1,.box T.dX [.v (.slice none 0 0),.v (.int .i64 0),.v (.slice none 0 0),.v (.slice none 0 0)]),(0,.box T.dy [.v (.slice am M.length cm),.v (.int .i64 0)])],3,z.2,z.1⟩,fun z=>0,fun z=>dw w.heap.size w z.1,?_,?_⟩
 ·intro O J E;exact⟨(J,_),I.tr E.cU,Sub.gn [] E⟩
 rintro⟨w1,iv⟩ I;dsimp only at I ⊢;refine⟨World×Iv,fun z=>⟨[(32,iZ 0),(7,sV none 0 0),(1,pP 0 0),(3,pP 1 0),(4,.o (.s 2 0 0 0)),(31,iZ 0)],[(2,.arr T.bool []),(1,.box T.dX [.v (.slice none 0 0),.v (.int .i64 0),.v (.slice none 0 0),.v (.slice none 0 0)]),(0,.box T.dy [.v (.slice am M.length cm),.v (.int .i64 0)])],3,z.2,z.1⟩,fun z=>0,fun z=>dw w.heap.size w z.1,?_,?_⟩
 ·intro O J E;exact⟨(J,_),I.tr E.cU,Sub.gn [] E⟩
 rintro⟨w1,iv⟩ I;dsimp only at I ⊢;intro IR we re;rw[Ea];exact⟨_,rfl,I.tr re.cU,cV.nil⟩
theorem BF{n h:Nat}(hC:Old C w)(X:Old S w)(hM:lI w C S v M)(hlen:fZ n M)(hR:M.length<=1000)(R:n<=1000)(hB:EO M n h)(hAb:Ht (dY M n).1 h)(hh:3*h<=90000):
  eI PG F'.gk #[.agg #[v,.int .i64 n]] w (eO w fun v' V=>cV V (Nf w V) v' (kX M n)):=by
 rcases bK n with h0|h0
 ·subst h0;exact Hl hC X hM hlen hR
 ·exact Jz hC X hM hlen h0 R hR hB hAb hh
theorem wY{k:Nat}(h:∀W∈Z,W.length=k):Z.flatten.length=Z.length*k:=by
 induction Z with
 |nil=>simp
 |cons c r ih=>rw[List.flatten_cons,List.length_append,h c aF,ih fun x F=>h x (aB _ F),List.length_cons,Nat.succ_mul];omega
theorem wZ{k:Nat}(h:∀W∈Z,W.length=k)(hj:Z[j]? =some W)(i:Nat)(u:Value)(hu:W[i]? =some u):Z.flatten[j*k+i]? =some u:=by
 induction Z generalizing j with
 |nil=>cases hj
 |cons c r ih=>
  have hc:=h c aF;have A:=(aD.1 hu).1
  cases j with
  |zero=>
   injection hj with hj;subst hj;rw[List.flatten_cons,Nat.zero_mul,aT,aI A];exact hu
  |succ j=>
   rw[List.flatten_cons,aM (by rw[hc,Nat.succ_mul];omega),hc,show(j+1)*k+i-k=j*k+i by rw[Nat.succ_mul];omega];exact ih (fun x F=>h x (aB _ F)) hj
def fG{α:Type}(k:Nat)(P:World->(Nat->Prop)->List Value->α->Prop)(w:World)(S:Nat->Prop)(v:Value)(xs:List α):Prop:=
 ∃Z:List (List Value),ie w S k v Z.flatten xs.length/\Z.length=xs.length/\(∀W∈Z,W.length=k)/\∀(j:Nat) W x,Z[j]? =some W->xs[j]? =some x->P w S W x
section
variable{α:Type}{k:Nat}{P:World->(Nat->Prop)->List Value->α->Prop}{w V:World}{S S':Nat->Prop}{v:Value}{xs:List α}
theorem fG.cK(hP:∀W x,P w S W x->P V S W x)(h:fG k P w S v xs)(D:∀g,S g->V.heap[g]? =w.heap[g]?):fG k P V S v xs:=by
 obtain⟨Z,L,G,N,h4⟩:=h;exact⟨Z,L.cK D,G,N,fun j W x k1 k2=>hP W x (h4 j W x k1 k2)⟩
theorem fG.cN(hP:∀W x,P w S W x->P w S' W x)(h:fG k P w S v xs)(D:∀g,S g->S' g):fG k P w S' v xs:=by
 obtain⟨Z,L,G,N,h4⟩:=h;exact⟨Z,L.cN D,G,N,fun j W x k1 k2=>hP W x (h4 j W x k1 k2)⟩
theorem fG.shape(h:fG k P w S v xs):∃a c,v= .slice a xs.length c/\xs.length<=c/\xs.length<=maxLen:=by
 obtain⟨Z,⟨h0,_,_,a,c,L,G,_⟩,_⟩:=h;exact⟨a,c,L,G,h0⟩
theorem fG.load{m c:Nat}{x:α}(D:0<k)(h:fG k P w S (.slice a m c) xs)(hq:xs[j]? =some x):
  ∃ad W,a=some ad/\P w S W x/\W.length=k/\∀i u,W[i]? =some u->S ad.block/\w.cell? ((ad.add (j*k)).add i)=some u:=by
 obtain⟨Z,⟨h0,L,G,a',c',e,N,h4⟩,hl,hl4,hf⟩:=h;injection e with e1 e2 e3;subst e1;obtain⟨W,PS⟩:∃W,Z[j]? =some W:=⟨_,aA (by rw[hl];exact(aD.1 hq).1)⟩
 have hl:=hl4 W (aC PS);obtain⟨ad,k1,k2,k3⟩:=h4 (j*k+0) _ (wZ hl4 PS 0 _ (aA (show 0<W.length by omega)));refine⟨ad,W,k1,hf j W x PS hq,hl,fun i u hu=>?_⟩;obtain⟨ad2,m1,m2,m3⟩:=h4 (j*k+i) u (wZ hl4 PS i u hu);rw[k1]at m1;injection m1 with m1;subst m1;refine⟨m2,?_⟩;rw[<-m3];have:(ad.add (j*k)).add i=ad.add (j*k+i):=by
  unfold Addr.add;split<;>split<;>simp_all<;>omega
 rw[this]
end
def Ir(_w:World)(_S:Nat->Prop)(W:List Value)(p:Int×Int×Int):Prop:=W=[.int .i64 p.1,.int .i64 p.2.1,.int .i64 p.2.2]
def Is(_w:World)(_S:Nat->Prop)(W:List Value)(p:Ld):Prop:=W=[.int .i64 p.1,.int .i64 p.2.1,.int .i64 p.2.2.1,.int .i64 p.2.2.2]
def ER(w:World)(S:Nat->Prop)(W:List Value)(p:Int×Int×Rat):Prop:=∃b a n c b2 a2 n2 c2,W=[.int .i64 p.1,.int .i64 p.2.1,.bool b,.slice a n c,.bool b2,.slice a2 n2 c2]/\ed w S (.agg #[.bool b,.slice a n c,.bool b2,.slice a2 n2 c2]) p.2.2
theorem ER.cK(h:ER w S W p)(D:∀g,S g->V.heap[g]? =w.heap[g]?):ER V S W p:=by
 obtain⟨b,a,n,c,b2,a2,n2,c2,L,G⟩:=h;exact⟨b,a,n,c,b2,a2,n2,c2,L,G.cK D⟩
theorem ER.cN(h:ER w S W p)(D:∀g,S g->S' g):ER w S' W p:=by
 obtain⟨b,a,n,c,b2,a2,n2,c2,L,G⟩:=h;exact⟨b,a,n,c,b2,a2,n2,c2,L,G.cN D⟩
abbrev nK:=fG 3 Ir
abbrev jA:=fG 4 Is
abbrev MU:=fG 6 ER
structure eG(w:World)(S:Nat->Prop)(vn vb vs:Value)(f:fC):Prop where
 nodes:nK w S vn f.nodes
 bars:MU w S vb f.bars
 cZ:MU w S vs f.cZ
section
variable{S S':Nat->Prop}{H:Hp}{nx:Nat}{iv K:Iv}{B:Nat}{w J V:World}{O:Nat->Sx.dq}{v vn vb vs:Value}{f:fC}{l:List Ld}
theorem jA.cK(h:jA w S v l)(D:∀g,S g->V.heap[g]? =w.heap[g]?):jA V S v l:=fG.cK (w:=w) (fun _ _ h=>h) h D
theorem eG.cK(h:eG w S vn vb vs f)(D:∀g,S g->V.heap[g]? =w.heap[g]?):eG V S vn vb vs f:=
 ⟨fG.cK (w:=w) (fun _ _ h=>h) h.nodes D,fG.cK (fun _ _ h=>h.cK D) h.bars D,fG.cK (fun _ _ h=>h.cK D) h.cZ D⟩
theorem eG.cN(h:eG w S vn vb vs f)(D:∀g,S g->S' g):eG w S' vn vb vs f:=
 ⟨fG.cN (S:=S) (fun _ _ h=>h) h.nodes D,fG.cN (fun _ _ h=>h.cN D) h.bars D,fG.cN (fun _ _ h=>h.cN D) h.cZ D⟩
theorem eG.rel(h:eG w (Cv S B iv) vn vb vs f)(r:Rel H nx iv B w O J)(X:∀g,S g->g<B):eG J (Cv S B iv) vn vb vs f:=h.cK fun _ Y=>Rel.same r X Y
theorem eG.shape(h:eG w S vn vb vs f):∃an cn ab cb aq W,vn= .slice an f.nodes.length cn/\vb= .slice ab f.bars.length cb/\vs= .slice aq f.cZ.length W/\f.nodes.length<=maxLen/\f.bars.length<=maxLen/\f.cZ.length<=maxLen:=by
 obtain⟨an,cn,L,_,G⟩:=h.nodes.shape;obtain⟨ab,cb,N,_,h4⟩:=h.bars.shape;obtain⟨aq,W,h5,_,h6⟩:=h.cZ.shape;exact⟨an,cn,ab,cb,aq,W,L,N,h5,G,h4,h6⟩
end
theorem BA{P:Program}{τ:nR}{B nx:Nat}{l:Env}{H:Hp}{iv:Iv}(hτ:fo P τ){t ty len e sz by_:Nat}{ag:Bool}{ze ze2:List Value}{ik ik2:IntKind}{b2 tag2 al2 e0:Nat}{fs fs2:List (Nat×Nat)}{x i:Operand}{pos:String}{vx:SV}{W:Array Value}{k:IntKind}{m:Int}{u:Value}
  (ht:τ t=some ⟨sz,ag,by_,ze,6,ik,e,len,fs⟩) (Px:τ e=some ⟨1,false,b2,ze2,tag2,ik2,e0,al2,fs2⟩) (F:ev l x=some vx) (VM:∀O,vx.den O= .agg W) (A:ev l i=some (.o (.v (.int k m)))) (hm:0<=m/\m<len) (hc:W[m.toNat]? =some u)
  (hK:∀O J,Rel H nx iv B w O J->Fn (.o (.v u)) H nx iv J):xy P B ⟨dst,.index t x i,ty,pos,after,guard⟩ l H nx iv w Fn:=by
 have hto:=(hτ t _ ht).i6 rfl;have R7:=hτ e _ Px;refine HC hto (fun w=>R7.sizeOf w) (fun w j v hv=>?_) F VM A hm hc hK;simp[part,R7.isAgg,hv]
structure iL(w:World)(B:Nat)(iv:Iv)(rv:List Value)(n:Nat)(M:List (List Int)):Prop where
 len:rv.length=M.length
 wid:∀l∈M,l.length=n
 row:∀(i:Nat) v l,rv[i]? =some v->M[i]? =some l->w.ownsRow 0 T.int 1 v n (l.map fun z=>.int .i64 z)
 uw:∀(i j:Nat) a b g,rv[i]? =some a->rv[j]? =some b->a.ownBlock=some g->b.ownBlock=some g->i=j
 new:∀g,Ob rv g->Cv FF B iv g
section
variable{H:Hp}{nx n:Nat}{iv K:Iv}{B:Nat}{w J V:World}{O:Nat->Sx.dq}{rv:List Value}{M:List (List Int)}
theorem iL.nil:iL w B iv [] n []:=⟨rfl,fun l h=>(by cases h),fun i v l h=>(by cases h),fun i j a b g h=>(by cases h),fun g ⟨v,hv,_⟩=>by cases hv⟩
theorem iL.cK(h:iL w B iv rv n M)(D:∀g,Cv FF B iv g->V.heap[g]? =w.heap[g]?):iL V B iv rv n M:=
 ⟨h.len,h.wid,fun i v l L G=>ownsRow.cK (h.row i v l L G) fun g Y=>D g (h.new g ⟨v,aC L,Y⟩),h.uw,h.new⟩
theorem iL.rel(h:iL w B iv rv n M)(r:Rel H nx iv B w O J):iL J B iv rv n M:=h.cK fun _ Y=>Rel.same r (gY B) Y
theorem iL.mono(h:iL w B iv rv n M)(hm:∀p,p∈iv->p∈K):iL w B K rv n M:=⟨h.len,h.wid,h.row,h.uw,fun g Y=>(h.new g Y).mono hm⟩
theorem iL.cM(h:iL w B iv rv n M)(r:Rel H nx iv B w O J)(U:Ext J V)(hm:∀p,p∈iv->p∈K):iL V B K rv n M:=
 ((h.rel r).cK fun g Y=>U.block g (Rel.old r (gY B) g Y)).mono hm
theorem iL.form(hM:iL w B iv rv n M){i:Nat}(hv:rv[i]? =some v):∃a c,v= .slice a n c:=by
 obtain⟨l,hl⟩:∃l,M[i]? =some l:=⟨_,aA (by rw[<-hM.len];exact(aD.1 hv).1)⟩
 obtain⟨a,c,h,_⟩:=fF (hM.row i v l hv hl);exact⟨a,c,h⟩
theorem iL.one(hM:iL w B iv rv n M):∀u∈rv,u.oneCell'=true:=fun u hu=>by
 obtain⟨i,A⟩:=aN hu;obtain⟨a,c,rfl⟩:=hM.form A;rfl
theorem iL.load(hM:iL w B iv rv n M){i k:Nat}{c:Nat}(hv:rv[i]? =some (.slice a n c))(hl:M[i]? =some l)(D:l[k]? =some z):
  ∃ad,a=some ad/\Cv FF B iv ad.block/\w.cell? (ad.add (k*1))=some (.int .i64 z):=by
 have h:=hM.row i _ l hv hl;have hlen:=hM.wid l (aC hl);rcases h.2 with⟨_,h0⟩|⟨g,cap,cur,e,_⟩
 ·have:=(aD.1 D).1;omega
 ·injection e with e;refine⟨⟨g,0,none⟩,e,hM.new g ⟨_,aC hv,by rw[e];rfl⟩,?_⟩;have:=h.cells (g:=g) (by rw[e];rfl) k (.int .i64 z) (by rw[aL,D];rfl);rw[aV];exact this
theorem iL.store(hM:iL w B iv rv n M)(r:Rel H nx iv B w O J){i k:Nat}{c:Nat}(hv:rv[i]? =some (.slice a n c))(hl:M[i]? =some l)(D:k<n):
  ∃g,a=some ⟨g,0,none⟩/\((⟨g,0,none⟩:Addr).add ((k:Int).toNat*1)).spot=none/\
   (∀j,j<1->(J.cell? (((⟨g,0,none⟩:Addr).add ((k:Int).toNat*1)).add j)).isSome=true/\J.frozen? (((⟨g,0,none⟩:Addr).add ((k:Int).toNat*1)).add j)=false)/\
   (∀id b,dG H id=some b->(O id).nil=false->(O id).g≠((⟨g,0,none⟩:Addr).add ((k:Int).toNat*1)).block)/\
   ∀V,V=setCells J ((⟨g,0,none⟩:Addr).add ((k:Int).toNat*1)) [.int .i64 z]->iL V B iv rv n (M.set i (l.set k z))/\dw B J V/\Rel H nx iv B V O V/\J.grownBy V (some g)/\Ob rv g:=by
 have Sd:=hM.rel r;have L:=Sd.row i _ l hv hl;have hlen:=hM.wid l (aC hl);obtain⟨g,rfl,Of,QW,PC,PN⟩:=j3 (nv:=[.int .i64 z]) L rfl D rfl (by decide);have RN:Ob rv g:=⟨_,aC hv,rfl⟩
 have PI:(⟨g,0,none⟩:Addr).add ((k:Int).toNat*1)=⟨g,k*1,none⟩:=by rw[aE,dL,aT]
 have Pa:=Rel.not r (gY B) (hM.new g RN);refine⟨g,rfl,by rw[PI],fun j hj=>by rw[PI];exact Of j hj,fun id b hb R=>by rw[PI];exact Pa id b hb R,fun V PE=>?_⟩;rw[PI]at PE;subst PE;refine⟨⟨by rw[bL];exact hM.len,fun x F=>?_,fun j v l2 N h4=>?_,hM.uw,hM.new⟩,dw.grown PC (fun x e=>by injection e with e;subst e;exact(hM.new g RN).elim (fun h=>h.elim) fun h=>h.1) r.cI,r.zJ Pa PC,PC,RN⟩
 ·rcases bC F with F|rfl
  ·exact hM.wid x F
  ·rw[bL];exact hlen
 ·by_cases Pr:i=j
  ·subst Pr;rw[hv]at N;injection N with N;subst N;rw[aP (by rw[<-hM.len];exact(aD.1 hv).1)]at h4;injection h4 with h4;subst h4;rw[List.map_set,<-kV (by rw[aJ];omega)];simp only[aV]at QW ⊢;exact QW
  ·rw[aS Pr]at h4;refine ownsRow.cK (Sd.row j v l2 N h4) fun x F=>PC.block x ?_ fun e=>?_
   ·exact Rel.old r (gY B) x (hM.new x ⟨v,aC N,F⟩)
   ·injection e with e;exact Pr (hM.uw i j _ v x hv N (by rw[<-e];rfl) F)
theorem iL.push(hM:iL w B iv rv n M){gx:Nat}(Qe:∀g,Cv FF B iv g->g≠gx)(hBx:B<=gx)(hl:l.length=n)(Oa:w.ownsRow 0 T.int 1 (.slice (some ⟨gx,0,none⟩) n n) n (l.map fun z=>.int .i64 z)):
  iL w B ((gx,gx+1)::iv) (rv++[.slice (some ⟨gx,0,none⟩) n n]) n (M++[l]):=by
 have RN:∀g,Ob rv g->g≠gx:=fun g Y=>Qe g (hM.new g Y);have key:∀(k:Nat) v,(rv++[Value.slice (some ⟨gx,0,none⟩) n n])[k]? =some v->(k<rv.length/\rv[k]? =some v)\/(k=rv.length/\v= .slice (some ⟨gx,0,none⟩) n n):=fun k v D=>by
  rcases aO k rv.length with A|A
  ·rw[aI A]at D;exact .inl ⟨A,D⟩
  ·have SR:k=rv.length:=by have:=(aD.1 D).1;simp at this;omega
   rw[SR,aM (Nat.le_refl _),bJ]at D;simp at D;exact .inr ⟨SR,D.symm⟩
 refine⟨by simp[hM.len],fun x F=>?_,fun i v x L G=>?_,fun i j a b g L G N h4=>?_,fun g Y=>?_⟩
 ·rcases bB.1 F with F|F
  ·exact hM.wid x F
  ·rw[bD.1 F];exact hl
 ·rcases key i v L with⟨A,k1⟩|⟨e1,rfl⟩
  ·rw[aI (by rw[<-hM.len];exact A)]at G;exact hM.row i v x k1 G
  ·rw[e1,hM.len,aM (Nat.le_refl _),bJ]at G;simp at G;subst G;exact Oa
 ·rcases key i a L with⟨_,k1⟩|⟨e1,rfl⟩<;>rcases key j b G with⟨_,k2⟩|⟨e2,rfl⟩
  ·exact hM.uw i j a b g k1 k2 N h4
  ·injection h4 with h4;exact absurd h4.symm (RN g ⟨a,aC k1,N⟩)
  ·injection N with N;exact absurd N.symm (RN g ⟨b,aC k2,h4⟩)
  ·rw[e1,e2]
 ·rcases Ob.append.1 Y with h|h
  ·exact(hM.new g h).mono fun p hp=>aB _ hp
  ·injection h with h;have h:gx=g:=h;subst h;exact .inr ⟨hBx,_,_,aF,Nat.le_refl _,bQ _⟩
end
def Hb(w:World)(S:Nat->Prop)(v:Value)(l:List Int):Prop:=ie w S 1 v (l.map fun z=>.int .i64 z) l.length
abbrev k6:=dC Hb
theorem Hb.cK(h:Hb w S v l)(D:∀g,S g->V.heap[g]? =w.heap[g]?):Hb V S v l:=ie.cK h D
theorem Hb.cN(h:Hb w S v l)(D:∀g,S g->S' g):Hb w S' v l:=ie.cN h D
theorem k6.cK{M:List (List Int)}(h:k6 w S v M)(D:∀g,S g->V.heap[g]? =w.heap[g]?):k6 V S v M:=by
 obtain⟨rv,L,G,N⟩:=h;exact⟨rv,L.cK D,G,fun i u x k1 k2=>(N i u x k1 k2).cK D⟩
theorem k6.cN{M:List (List Int)}(h:k6 w S v M)(D:∀g,S g->S' g):k6 w S' v M:=by
 obtain⟨rv,L,G,N⟩:=h;exact⟨rv,L.cN D,G,fun i u x k1 k2=>(N i u x k1 k2).cN D⟩
theorem Hb.at{m c:Nat}(h:Hb w S (.slice a m c) l)(hj:l[j]? =some z):∃ad,a=some ad/\S ad.block/\w.cell? (ad.add (j*1))=some (.int .i64 z):=by
 obtain⟨h0,L,G,a',c',e,N,h4⟩:=h;injection e with e1 e2 e3;subst e1;obtain⟨ad,k1,k2,k3⟩:=h4 j (.int .i64 z) (by rw[aL,hj];rfl);exact⟨ad,k1,k2,by rw[aV];exact k3⟩
theorem Hb.shape(h:Hb w S v l):∃a c,v= .slice a l.length c/\l.length<=c/\l.length<=maxLen:=by
 obtain⟨h0,L,G,a,c,e,N,h4⟩:=h;exact⟨a,c,e,N,h0⟩
structure uy(f:fC):Prop where
 co:∀p∈f.nodes,(-1000000<=p.1/\p.1<=1000000)/\(-1000000<=p.2.1/\p.2.1<=1000000)/\(-1000000<=p.2.2/\p.2.2<=1000000)
 Ng:∀b∈f.bars,(0<=b.1/\b.1<f.nodes.length)/\(0<=b.2.1/\b.2.1<f.nodes.length)
 sup:∀s∈f.cZ,(0<=s.1/\s.1<f.nodes.length)/\(0<=s.2.1/\s.2.1<=2)
 n:f.nodes.length<=20
 b:f.bars.length<=60
 s:f.cZ.length<=60
theorem uy.node(h:uy f){i:Int}(h0:0<=i)(L:i<f.nodes.length):∃k:Nat,∃p,i=k/\k<f.nodes.length/\f.nodes[k]? =some p/\f.node i=p/\(-1000000<=p.1/\p.1<=1000000)/\(-1000000<=p.2.1/\p.2.1<=1000000)/\(-1000000<=p.2.2/\p.2.2<=1000000):=by
 obtain⟨k,rfl⟩:=Int.eq_ofNat_of_zero_le h0;have D:k<f.nodes.length:=by omega
 refine⟨k,f.nodes[k],rfl,D,aA D,?_,h.co _ (aY D)⟩;rw[fC.node,aE,List.getD,aA D];rfl
theorem Bq{vn vb vs:Value}{a b:Int}{b3 b6:Bool}{a4 a7:Option Addr}{n4 c4 n7 c7:Nat}(X:Old S w)(R:nK w S vn f.nodes)(Of:uy f)(hA:0<=a/\a<f.nodes.length)(hB:0<=b/\b<f.nodes.length):
  eI PG F'.mA #[.agg #[vn,vb,vs],.agg #[.int .i64 a,.int .i64 b,.bool b3,.slice a4 n4 c4,.bool b6,.slice a7 n7 c7]] w (eO w fun v' _=>v'= .agg #[.int .i64 ((f.node b).1-(f.node a).1),.int .i64 ((f.node b).2.1-(f.node a).2.1),.int .i64 ((f.node b).2.2-(f.node a).2.2)]):=by
 have I:=bR w;obtain⟨an,cn,rfl,hcn,RR⟩:=R.shape;unfold maxLen at RR;obtain⟨ka,pa,ea,hka,hpa,Wo,⟨_,_⟩,⟨_,_⟩,⟨_,_⟩⟩:=Of.node hA.1 hA.2;obtain⟨kb,pb,eb,Oj,Td,Wp,⟨_,_⟩,⟨_,_⟩,⟨_,_⟩⟩:=Of.node hB.1 hB.2;obtain⟨ada,csa,haa,hPa,-,Q1⟩:=R.load (by decide) hpa;obtain⟨adb,csb,QS,hPb,-,PV⟩:=R.load (by decide) Td;have hPa:csa=[.int .i64 pa.1,.int .i64 pa.2.1,.int .i64 pa.2.2]:=hPa;have hPb:csb=[.int .i64 pb.1,.int .i64 pb.2.1,.int .i64 pb.2.2]:=hPb;subst hPa hPb;rw[Wo,Wp];subst ea eb;refine pc (by simp) ?_;refine jQ hτ dx (.x 0 (.x 2 (.x 6 (.x 8 (.ld 1 49200 (.ld 3 49200 (.x 4 (.ld 5 49152 (.ld 7 35840 (.ld 9 35840 (.x 10 (.ld 11 32768 (.two 12 (.x 13 (.x 14 (.x 15 .nil))) 13 (.x 12 (.x 14 (.x 15 .nil)))))))))))))))) (by kernel_rfl) (by kernel_rfl) ?_;refine⟨ada,haa,by omega,[.int .i64 pa.1,.int .i64 pa.2.1,.int .i64 pa.2.2],rfl,rdO Q1 I X,adb,QS,by omega,[.int .i64 pb.1,.int .i64 pb.2.1,.int .i64 pb.2.2],rfl,rdO PV I X,?_,?_⟩
 ·refine⟨[.int .i64 pb.1,.int .i64 pb.2.1,.int .i64 pb.2.2],rfl,rdO PV I X,rfl,rfl,rfl,[.int .i64 pa.1,.int .i64 pa.2.1,.int .i64 pa.2.2],rfl,rdO Q1 I X,rfl,rfl,rfl,[.int .i64 pb.1,.int .i64 pb.2.1,.int .i64 pb.2.2],rfl,rdO PV I X,rfl,rfl,rfl,[.int .i64 pa.1,.int .i64 pa.2.1,.int .i64 pa.2.2],rfl,rdO Q1 I X,rfl,rfl,rfl,[.int .i64 pb.1,.int .i64 pb.2.1,.int .i64 pb.2.2],rfl,rdO PV I X,rfl,rfl,rfl,pb.1-pa.1,wo,pb.2.1-pa.2.1,wo,pb.2.2-pa.2.2,wo,?_⟩;exact rtn I fun IR we re=>rfl
 ·refine⟨[.int .i64 pb.1,.int .i64 pb.2.1,.int .i64 pb.2.2],rfl,rdO PV I X,rfl,rfl,rfl,[.int .i64 pa.1,.int .i64 pa.2.1,.int .i64 pa.2.2],rfl,rdO Q1 I X,rfl,rfl,rfl,[.int .i64 pb.1,.int .i64 pb.2.1,.int .i64 pb.2.2],rfl,rdO PV I X,rfl,rfl,rfl,[.int .i64 pa.1,.int .i64 pa.2.1,.int .i64 pa.2.2],rfl,rdO Q1 I X,rfl,rfl,rfl,[.int .i64 pb.1,.int .i64 pb.2.1,.int .i64 pb.2.2],rfl,rdO PV I X,rfl,rfl,rfl,pb.1-pa.1,wo,pb.2.1-pa.2.1,wo,pb.2.2-pa.2.2,wo,?_⟩;exact rtn I fun IR we re=>rfl
theorem MS{α:Type}{rv:List α}{a b:α}{i m:Nat}(hl:rv.length=i)(h:i<m):(rv++List.replicate (m-i) b).take i++[a]++(rv++List.replicate (m-i) b).drop (i+1)=(rv++[a])++List.replicate (m-(i+1)) b:=by
 rw[List.take_left' hl,List.drop_append,hl,List.drop_of_length_le (by omega),List.nil_append,List.drop_replicate];congr 2;omega
end Go.Ex
namespace Go.Sx
open Go Go.Ex Go.Proofs
variable{W:List Value}{O:Nat->Sx.dq}
theorem Rel.Nu{H:Hp}{nx:Nat}{iv:Iv}{B:Nat}{w J:World}(r:Rel H nx iv B w O J){id t m sz:Nat}(h:dG H id=some (.arr t W))(hm:W.length=m*sz)(SX:m<=maxLen)(L:∀u∈W,u.oneCell'=true):
  ie J (fun g=>B<=g/\g<J.heap.size) sz (.slice (some ⟨(O id).g,0,none⟩) m m) W m:=by
 have hl:=r.low id _ h (r.fits h).1;refine⟨SX,hm,L,_,m,rfl,Nat.le_refl _,fun j u hu=>⟨_,rfl,hl,?_⟩⟩;rw[dL,cell_of (r.arr id _ _ h),aT];exact hu
end Go.Sx
namespace Go.Ex
open Go Go.Sx Go.Proofs
variable{d:Int}{b s:Int×Int×Rat}{M:List (List Int)}{l:List Int}{r:Nat}{S:Nat->Prop}{f:fC}
theorem Cw{c:Nat}:(uA M r c d).length=M.length:=bL ..
theorem KB{c:Nat}:(putAt M r c d).length=M.length:=bL ..
def Hc(M:List (List Int))(t:Int):Prop:=∀l∈M,∀z∈l,-t<=z/\z<=t
theorem Hc.set{t t2:Int}{c:Nat}{z:Int}(h:Hc M t)(ht:t<=t2)(hl:M[r]? =some l)(hz: -t2<=z/\z<=t2):Hc (M.set r (l.set c z)) t2:=fun x F y hy=>by
 rcases bC F with F|rfl
 ·have:=h x F y hy;omega
 ·rcases bC hy with hy|rfl
  ·have:=h l (aC hl) y hy;omega
  ·exact hz
theorem GN(f:fC):∀i,(dm f i).length=3*f.nodes.length
 |0=>bH ..
 |i+1=>by
  have h:=GN f i;have key:∀k,(ee f (dm f i) i k).length=3*f.nodes.length:=fun k=>by
   induction k with
   |zero=>exact h
   |succ k ih=>rw[ee,Cw,Cw];exact ih
  exact key 3
theorem oC(f:fC):∀i,(fO f i).length=3*f.nodes.length
 |0=>GN f _
 |i+1=>by rw[fO,KB];exact oC f i
theorem MT{i k ka kb:Nat}{za zb:Int}{la lb:List Int}(hb:f.bars[i]? =some b)(ea:b.1=ka)(eb:b.2.1=kb)(hd:(sh f b).getD k 0=d)
  (Q1:(ee f M i k)[3*ka+k]? =some la) (WW:la[i]? =some za) (PV:((ee f M i k).set (3*ka+k) (la.set i (za+d)))[3*kb+k]? =some lb) (Ul:lb[i]? =some zb):
  ((ee f M i k).set (3*ka+k) (la.set i (za+d))).set (3*kb+k) (lb.set i (zb-d))=ee f M i (k+1):=by
 have L:f.bars.getD i (0,0,0)=b:=by rw[List.getD,hb];rfl
 have e1:(3*b.1+(k:Int)).toNat=3*ka+k:=by rw[ea];omega
 have e2:(3*b.2.1+(k:Int)).toNat=3*kb+k:=by rw[eb];omega
 have ha:uA (ee f M i k) (3*ka+k) i d=(ee f M i k).set (3*ka+k) (la.set i (za+d)):=by
  rw[uA,show(ee f M i k).getD (3*ka+k) []=la by rw[List.getD,Q1];rfl,show la.getD i 0=za by rw[List.getD,WW];rfl]
 rw[ee];simp only[L,hd,e1,e2,ha]
 rw[uA,show((ee f M i k).set (3*ka+k) (la.set i (za+d))).getD (3*kb+k) []=lb by rw[List.getD,PV];rfl,show lb.getD i 0=zb by rw[List.getD,Ul];rfl,Int.sub_eq_add_neg]
theorem GO{i ks:Nat}(hs:f.cZ[i]? =some s)(es:3*s.1+s.2.1=ks)(hl:(fO f i)[ks]? =some l):(fO f i).set ks (l.set (f.bars.length+i) 1)=fO f (i+1):=by
 rw[fO,putAt];simp only[show f.cZ.getD i (0,0,0)=s by rw[List.getD,hs];rfl,es,aE,show(fO f i).getD ks []=l by rw[List.getD,hl];rfl]
set_option maxHeartbeats 2000000 in
theorem Cx{w:World}{vn vb vs:Value}(X:Old S w)(hf:eG w S vn vb vs f)(Of:uy f):
  eI PG F'.qT #[.agg #[vn,vb,vs]] w (eO w fun v' V=>k6 V (Nf w V) v' (gZ f)/\Hc (gZ f) 800000000/\(∀l∈gZ f,l.length=f.cols)/\(gZ f).length=3*f.nodes.length):=by
 have I:=bR w;obtain⟨an,cn,ab,cb,aq,cq,rfl,rfl,rfl,RR,Rk,SM⟩:=hf.shape;obtain⟨SH,S1,S2⟩:=And.intro Of.n (And.intro Of.b Of.s);refine uh (by simp) ?_;refine⟨((3*f.nodes.length:Nat):Int),wo,?_⟩;obtain⟨m,hm⟩:∃m,3*f.nodes.length=m:=⟨_,rfl⟩
 rw[hm]
 refine⟨m,m,rfl,rfl,Nat.le_refl _,by omega,by omega,Nat×List Value×World×Iv,fun z=>⟨[(1,pP 0 0),(3,.o (.s 1 0 m m)),(17,iZ m),(18,iN z.1)],[(1,.arr T.Lint (z.2.1++List.replicate (m-z.1) (.slice none 0 0))),(0,.box T.Frame [.v (.slice an f.nodes.length cn),.v (.slice ab f.bars.length cb),.v (.slice aq f.cZ.length cq)])],2,z.2.2.2,z.2.2.1⟩,fun z=>m-z.1,
  fun z=>z.1<=m/\z.2.1.length=z.1/\dw w.heap.size w z.2.2.1/\iL z.2.2.1 w.heap.size z.2.2.2 z.2.1 f.cols (List.replicate z.1 (List.replicate f.cols 0)),?_,?_⟩
 ·intro O J E;exact⟨(0,[],J,[]),⟨aQ _,rfl,I.tr E.cU,iL.nil⟩,Sub.gn [] E⟩
 rintro⟨i,rv,w1,iv⟩ ⟨A,Po,I,hE⟩;dsimp only at A Po I hE ⊢;refine dQ.mk ?_ ?_<;>intro OZ
 ·have OZ:i<m:=by simpa using OZ
  refine⟨((f.cols:Nat):Int),by rw[wrap64]<;>first|rfl|omega,f.cols,f.cols,rfl,rfl,Nat.le_refl _,by unfold fC.cols;omega,by unfold fC.cols;omega,by omega,?_⟩;refine JV hτ (id:=1) (id2:=2) (tH:=[(1,.arr T.Lint (rv++List.replicate (m-i) (.slice none 0 0))),(0,.box T.Frame [.v (.slice an f.nodes.length cn),.v (.slice ab f.bars.length cb),.v (.slice aq f.cZ.length cq)])]) rfl rfl (by decide) rfl ⟨rfl,rfl,trivial⟩ rfl (fun O J r=>?_);have R:=(r.fits (id:=2) rfl).1;have Oa:J.ownsRow 0 T.int 1 (.slice (some ⟨(O 2).g,0,none⟩) f.cols f.cols) f.cols ((List.replicate f.cols (0:Int)).map fun z=>.int .i64 z):=
   ⟨by simp,.inr ⟨(O 2).g,f.cols,(List.replicate f.cols (Value.int .i64 0)).toArray,rfl,aQ _,r.arr 2 _ _ rfl,Nat.le_refl _,by unfold fC.cols maxLen;omega,by simp,by simp⟩⟩
  have PM:=(hE.rel r).push (gx:=(O 2).g) (l:=List.replicate f.cols 0) (fun g Y e=>Rel.not r (gY _) Y 2 _ rfl R e.symm) (r.low 2 _ rfl R).1 (by simp) Oa;rw[<-List.replicate_succ']at PM;have PE:=I.tr r.cU;generalize (O 2).g=gx at*
  generalize (gx,gx+1)::iv=Od at*
  refine⟨by simp[Po];omega,(rv++[.slice (some ⟨gx,0,none⟩) f.cols f.cols])++List.replicate (m-(i+1)) (.slice none 0 0),?_,?_⟩
  ·rw[aE,aV,aT];exact MS Po OZ
  refine⟨((i+1:Nat):Int),wo,?_⟩;intro GT w3 E;exact⟨(i+1,rv++[.slice (some ⟨gx,0,none⟩) f.cols f.cols],w3,_),⟨OZ,by simp[Po],PE.tr E.cU,PM.rel E⟩,Sub.gn [] E,by dsimp only;omega⟩
 have OZ:i=m:=aR A (by simpa using OZ);subst OZ;have hE0:iL w1 w.heap.size iv rv f.cols (dm f 0):=by rw[dm,hm];exact hE
 have Wq:Hc (dm f 0) 0:=fun l hl z hz=>by
  rw[dm]at hl;rw[bI hl]at hz;rw[bI hz];exact⟨Int.le_refl _,Int.le_refl _⟩
 refine⟨Nat×World×Iv,fun z=>⟨[(1,pP 0 0),(3,.o (.s 1 0 i i)),(34,sV ab f.bars.length cb),(35,iZ f.bars.length),(36,iN z.1)],[(1,.arr T.Lint rv),(0,.box T.Frame [.v (.slice an f.nodes.length cn),.v (.slice ab f.bars.length cb),.v (.slice aq f.cZ.length cq)])],2,z.2.2,z.2.1⟩,fun z=>f.bars.length-z.1,
  fun z=>z.1<=f.bars.length/\dw w.heap.size w z.2.1/\iL z.2.1 w.heap.size z.2.2 rv f.cols (dm f z.1)/\Hc (dm f z.1) (12000000*z.1),?_,?_⟩
 ·intro O J E;exact⟨(0,J,_),⟨aQ _,I.tr E.cU,hE0.rel E,Wq⟩,Sub.gn [] E ⟨by simp;rfl,rfl,trivial⟩⟩
 rintro⟨j,V,iv⟩ ⟨hj,I,hE,PH⟩;dsimp only at hj I hE PH ⊢;refine dQ.mk ?_ ?_<;>intro Pz
 ·have Pz:j<f.bars.length:=by simpa using Pz
  obtain⟨b,hb⟩:∃b,f.bars[j]? =some b:=⟨_,aA Pz⟩
  obtain⟨hA,hB⟩:=Of.Ng b (aC hb);obtain⟨ka,pa,ea,hka,-,Wo,⟨_,_⟩,⟨_,_⟩,⟨_,_⟩⟩:=Of.node hA.1 hA.2;obtain⟨kb,pb,eb,Oj,-,Wp,⟨_,_⟩,⟨_,_⟩,⟨_,_⟩⟩:=Of.node hB.1 hB.2;obtain⟨adb,W,QS,hF,-,PV⟩:=hf.bars.load (by decide) hb;obtain⟨g0,g1,g2,g3,g4,g5,g6,g7,rfl,hF⟩:=hF;refine⟨adb,QS,by omega,[.int .i64 b.1,.int .i64 b.2.1,.bool g0,.slice g1 g2 g3,.bool g4,.slice g5 g6 g7],rfl,rdO PV I X,?_⟩;refine cJ (cO (If:=fun _ J v V=>v= .agg #[.int .i64 ((f.node b.2.1).1-(f.node b.1).1),.int .i64 ((f.node b.2.1).2.1-(f.node b.1).2.1),.int .i64 ((f.node b.2.1).2.2-(f.node b.1).2.2)]) (fun O J r=>Bq (S:=S) (oS X r) (hf.cK (kS I r X)).nodes Of hA hB) ?_);rintro O Q6 v1 QT r U Py rfl;replace I:=I.tr Py;replace hE:=hE.cM (K:=(Q6.heap.size,QT.heap.size)::iv) r U fun x F=>aB _ F;generalize (Q6.heap.size,QT.heap.size)::iv=Oo at*
  rw[Wo,Wp];have hbD:sh f b=[pb.1-pa.1,pb.2.1-pa.2.1,pb.2.2-pa.2.2]:=by rw[sh,Wo,Wp]
  refine⟨Nat×World×Iv,fun z=>⟨[(1,pP 0 0),(3,.o (.s 1 0 i i)),(5,iN j),(6,pP 2 0),(43,.o (.v (.agg #[.int .i64 (pb.1-pa.1),.int .i64 (pb.2.1-pa.2.1),.int .i64 (pb.2.2-pa.2.2)]))),(34,sV ab f.bars.length cb),(35,iZ f.bars.length),(36,iN j),(44,iN z.1)],[(2,.box T.Bar [.v (.int .i64 b.1),.v (.int .i64 b.2.1),.v (.bool g0),.v (.slice g1 g2 g3),.v (.bool g4),.v (.slice g5 g6 g7)]),(1,.arr T.Lint rv),(0,.box T.Frame [.v (.slice an f.nodes.length cn),.v (.slice ab f.bars.length cb),.v (.slice aq f.cZ.length cq)])],3,z.2.2,z.2.1⟩,fun z=>3-z.1,
   fun z=>z.1<=3/\dw w.heap.size w z.2.1/\iL z.2.1 w.heap.size z.2.2 rv f.cols (ee f (dm f j) j z.1)/\Hc (ee f (dm f j) j z.1) (12000000*j+4000000*z.1),?_,?_⟩
  ·intro O J E;exact⟨(0,J,_),⟨aQ _,I.tr E.cU,hE.rel E,PH⟩,Sub.gn [] E⟩
  rintro⟨k,w3,iv⟩ ⟨D,I,hE,PH⟩;dsimp only at D I hE PH ⊢;refine dQ.mk ?_ ?_<;>intro Oj
  ·have Oj:k<3:=by have:=aK Oj;omega
   obtain⟨d,hd⟩:∃d,(sh f b).getD k 0=d:=⟨_,rfl⟩
   have hdb: -2000000<=d/\d<=2000000:=by
    rw[<-hd,hbD];rcases(show k=0\/k=1\/k=2 by omega)with rfl|rfl|rfl<;>simp[List.getD]<;>omega
   have hMl:(ee f (dm f j) j k).length=3*f.nodes.length:=by rw[<-hE.len];have:=hE.len;omega
   have Pp:f.cols=f.bars.length+f.cZ.length:=rfl;refine BA hτ rfl rfl rfl (fun _=>rfl) rfl ⟨by omega,by omega⟩ (u:=.int .i64 d) ?_ (fun O w4 r=>?_)
   ·rw[<-hd,hbD,aE];rcases(show k=0\/k=1\/k=2 by omega)with rfl|rfl|rfl<;>rfl
   replace I:=I.tr r.cU;replace hE:=hE.rel r;obtain⟨la,Q1⟩:∃l,(ee f (dm f j) j k)[3*ka+k]? =some l:=⟨_,aA (by first|omega|(rw [bL];omega))⟩
   have hlaw:=hE.wid la (aC Q1);obtain⟨za,WW⟩:∃z,la[j]? =some z:=⟨_,aA (by omega)⟩
   have hzab:=PH la (aC Q1) za (aC WW);obtain⟨va,UO⟩:∃v,rv[3*ka+k]? =some v:=⟨_,aA (by have:=(aD.1 Q1).1;rw[hE.len];exact this)⟩
   obtain⟨aa5,ca5,rfl⟩:=hE.form UO;obtain⟨ada5,Tx,hxa1,hxa2⟩:=hE.load UO Q1 WW;refine⟨((3*ka:Nat):Int),by rw[ea,wrap64]<;>omega,((3*ka+k:Nat):Int),wo,by omega,.slice aa5 f.cols ca5,by rw[aE,aV,aT];exact UO,ada5,Tx,by omega,.int .i64 za,fun O J r=>?_,?_⟩
   ·rw[aE,cL (w:=w4) (V:=J) (by rw[dF];exact Rel.same r (gY _) hxa1)];exact hxa2
   refine⟨za+d,wo,ada5,Tx,by omega,?_⟩;intro O J r;obtain⟨g,Y,L,G,N,h4⟩:=hE.store r (z:=za+d) UO Q1 (show j<f.cols by omega);rw[Tx]at Y;injection Y with Y;subst Y;refine⟨L,G,N,fun w5 RY=>?_⟩;obtain⟨k1,k2,k3,-,-⟩:=h4 w5 RY;replace I:=(I.tr r.cU).tr k2;replace PH:=PH.set (r:=3*ka+k) (c:=j) (z:=za+d) (t2:=12000000*j+4000000*k+2000000) (by omega) Q1 (by omega);replace hE:=k1;obtain⟨lb,PV⟩:∃l,((ee f (dm f j) j k).set (3*ka+k) (la.set j (za+d)))[3*kb+k]? =some l:=⟨_,aA (by first|omega|(rw [bL];omega))⟩
   have hlbw:=hE.wid lb (aC PV);obtain⟨zb,Ul⟩:∃z,lb[j]? =some z:=⟨_,aA (by omega)⟩
   have hzbb:=PH lb (aC PV) zb (aC Ul);obtain⟨vb,Ve⟩:∃v,rv[3*kb+k]? =some v:=⟨_,aA (by have:=(aD.1 PV).1;rw[hE.len];exact this)⟩
   obtain⟨ab5,cb5,rfl⟩:=hE.form Ve;obtain⟨adb5,Ty,hxb1,hxb2⟩:=hE.load Ve PV Ul;refine⟨((3*kb:Nat):Int),by rw[eb,wrap64]<;>omega,((3*kb+k:Nat):Int),wo,by omega,.slice ab5 f.cols cb5,by rw[aE,aV,aT];exact Ve,adb5,Ty,by omega,.int .i64 zb,fun O J r=>?_,?_⟩
   ·rw[aE,cL (w:=w5) (V:=J) (by rw[dF];exact Rel.same r (gY _) hxb1)];exact hxb2
   refine⟨zb-d,wo,adb5,Ty,by omega,?_⟩;intro O J r;obtain⟨g,Y,L,G,N,h4⟩:=hE.store r (z:=zb-d) Ve PV (show j<f.cols by omega);rw[Ty]at Y;injection Y with Y;subst Y;refine⟨L,G,N,fun w5 RY=>?_⟩;obtain⟨k1,k2,k3,-,-⟩:=h4 w5 RY;replace I:=(I.tr r.cU).tr k2;replace PH:=PH.set (r:=3*kb+k) (c:=j) (z:=zb-d) (t2:=12000000*j+4000000*(k+1:Nat)) (by omega) PV (by omega);replace hE:=k1;rw[MT hb ea eb hd Q1 WW PV Ul]at hE PH;refine⟨((k+1:Nat):Int),wo,?_⟩;intro GT w6 E;exact⟨(k+1,w6,_),⟨Oj,I.tr E.cU,hE.rel E,PH⟩,Sub.gn [] E,by dsimp only;omega⟩
  have Oj:k=3:=by have:=aG Oj;omega
  subst Oj;refine⟨((j+1:Nat):Int),wo,?_⟩;intro GT w6 E;exact⟨(j+1,w6,_),⟨Pz,I.tr E.cU,hE.rel E,fun l hl z hz=>by have:=PH l hl z hz;dsimp only;omega⟩,Sub.gn [] E,by dsimp only;omega⟩
 have Pz:j=f.bars.length:=aR hj (by simpa using Pz);subst Pz
 refine⟨Nat×World×Iv,fun z=>⟨[(1,pP 0 0),(3,.o (.s 1 0 i i)),(79,sV aq f.cZ.length cq),(80,iZ f.cZ.length),(81,iN z.1)],[(1,.arr T.Lint rv),(0,.box T.Frame [.v (.slice an f.nodes.length cn),.v (.slice ab f.bars.length cb),.v (.slice aq f.cZ.length cq)])],2,z.2.2,z.2.1⟩,fun z=>f.cZ.length-z.1,
  fun z=>z.1<=f.cZ.length/\dw w.heap.size w z.2.1/\iL z.2.1 w.heap.size z.2.2 rv f.cols (fO f z.1)/\Hc (fO f z.1) 800000000,?_,?_⟩
 ·intro O J E;exact⟨(0,J,_),⟨aQ _,I.tr E.cU,hE.rel E,fun l hl z hz=>by have:=PH l hl z hz;omega⟩,Sub.gn [] E⟩
 rintro⟨j,V,iv⟩ ⟨hj,I,hE,PH⟩;dsimp only at hj I hE PH ⊢;refine dQ.mk ?_ ?_<;>intro Pz
 ·have Pz:j<f.cZ.length:=by simpa using Pz
  obtain⟨s,hs⟩:∃b,f.cZ[j]? =some b:=⟨_,aA Pz⟩
  obtain⟨hA,hB⟩:=Of.sup s (aC hs);obtain⟨ks,VA⟩:=Int.eq_ofNat_of_zero_le (show 0<=3*s.1+s.2.1 by omega);have Pp:f.cols=f.bars.length+f.cZ.length:=rfl;have hMl:=oC f j;obtain⟨l,hl⟩:∃l,(fO f j)[ks]? =some l:=⟨_,aA (by omega)⟩
  have hlw:=hE.wid l (aC hl);obtain⟨v,hv⟩:∃v,rv[ks]? =some v:=⟨_,aA (by rw[hE.len];omega)⟩
  obtain⟨a5,c5,rfl⟩:=hE.form hv;obtain⟨z0,Ov⟩:∃z,l[f.bars.length+j]? =some z:=⟨_,aA (by omega)⟩
  obtain⟨ad5,ha5,-,-⟩:=hE.load hv hl Ov;obtain⟨adb,W,QS,hF,-,PV⟩:=hf.cZ.load (by decide) hs;obtain⟨g0,g1,g2,g3,g4,g5,g6,g7,rfl,hF⟩:=hF;refine⟨adb,QS,by omega,[.int .i64 s.1,.int .i64 s.2.1,.bool g0,.slice g1 g2 g3,.bool g4,.slice g5 g6 g7],rfl,rdO PV I X,?_⟩;refine cR hτ dx [.x 0,.x 1,.x 2,.x 3,.x 4,.x 5,.x 6,.x 7,.x 8,.x 9,.x 10,.x 11,.x 12,.x 13,.x 14,.x 15] (by kernel_rfl) (by kernel_rfl) ?_;refine⟨3*s.1,wo,((ks:Nat):Int),wo,by omega,.slice a5 f.cols c5,by rw[aE,aV,aT];exact hv,((f.bars.length+j:Nat):Int),wo,ad5,ha5,by omega,?_⟩;intro O J r;obtain⟨g,Y,L,G,N,h4⟩:=hE.store r (z:=1) hv hl (show f.bars.length+j<f.cols by omega);rw[ha5]at Y;injection Y with Y;subst Y;refine⟨L,G,N,fun w5 RY=>?_⟩;obtain⟨k1,k2,k3,-,-⟩:=h4 w5 RY;replace I:=(I.tr r.cU).tr k2;have S3:=PH.set (r:=ks) (c:=f.bars.length+j) (z:=1) (t2:=800000000) (by omega) hl (by omega);rw[GO hs VA hl]at k1 S3;refine⟨((j+1:Nat):Int),wo,?_⟩;intro GT w6 E;exact⟨(j+1,w6,_),⟨Pz,I.tr E.cU,k1.rel E,S3⟩,Sub.gn [] E,by dsimp only;omega⟩
 have Pz:j=f.cZ.length:=aR hj (by simpa using Pz);subst Pz;intro IR we re;have PM:=hE.rel re;have hMl:=oC f f.cZ.length;have SY:=hE.len;refine⟨_,rfl,I.tr re.cU,⟨rv,?_,hE.len,fun i u x k1 k2=>?_⟩,PH,hE.wid,by rw[<-hm];exact hMl⟩
 ·rw[show (gZ f).length=rv.length from hE.len.symm];have h5:=re.Nu (id:=1) (sz:=1) (m:=rv.length) rfl (by simp) (by unfold maxLen;omega) hE.one;rw[show (i:Nat)=rv.length by omega];exact h5.cN fun g Y=>.inr Y
 ·obtain⟨a,c,rfl⟩:=hE.form k1;have QJ:=hE.wid x (aC k2);refine⟨by rw[QJ];unfold fC.cols maxLen;omega,by simp,fun v hv=>by obtain⟨z,_,rfl⟩:=aU.1 hv;rfl,a,c,by rw[QJ],?_,fun t v hv=>?_⟩
  ·rw[QJ];obtain⟨a2,c2,e,h⟩:=fF (hE.row i _ x k1 k2);injection e with e1 e2 e3;omega
  ·rw[aL]at hv
   cases ht:x[t]? with
   |none=>rw[ht]at hv;cases hv
   |some z=>
    rw[ht]at hv;simp only[bc,Option.some.injEq]at hv;subst hv;obtain⟨ad,L,G,N⟩:=PM.load k1 k2 ht;exact⟨ad,L,Cv.nw G re,by rw[aV]at N;exact N⟩
end Go.Ex
namespace Go.Ex
open Go Go.Sx Go.Proofs
variable{z:Int}{p:Int×Int×Int}{b:Int×Int×Rat}{x:Ld}{seen:List (Int×Int×Rat)}{Z:List (List Value)}{s:List Int}{l:List Ld}{qs:List Rat}{W:List Value}{j:Nat}{S:Nat->Prop}{an:Option Addr}{vb vl vs:Value}{w:World}{f:fC}
theorem xl(f:fC):(cT f).length=3*f.nodes.length:=by rw[cT,aJ];exact oC f _
theorem wh(L: -2000000000<=z)(G:z<=2000000000):rl (z:Rat)<=1:=by
 have e1:((z:Rat)).num=z:=rfl;have e2:((z:Rat)).den=1:=rfl;rw[rl,e1,e2];have a1:ln z.natAbs<=1:=gU.2 (by rw[vY];omega);have a2:ln 1<=1:=by decide
 omega
set_option maxHeartbeats 1000000 in
theorem tJ{vn:Value}(X:Old S w)(hf:eG w S vn vb vs f)(Of:uy f):
  eI PG F'.pR #[.agg #[vn,vb,vs]] w (eO w fun v' V=>(∃vr,v'= .agg #[vr,.int .i64 f.cols]/\cV V (Nf w V) vr (cT f))/\fZ f.cols (cT f)/\Ht (cT f) 2):=by
 have I:=bR w;obtain⟨an,cn,ab,cb,aq,cq,rfl,rfl,rfl,RR,Rk,SM⟩:=hf.shape;obtain⟨SH,S1,S2⟩:=And.intro Of.n (And.intro Of.b Of.s);have Pp:f.cols=f.bars.length+f.cZ.length:=rfl;refine sq (by simp) ?_;refine⟨((f.cols:Nat):Int),by rw[wrap64]<;>first|rfl|omega,?_⟩;refine cJ (cO (If:=fun _ J v V=>k6 V (Nf J V) v (gZ f)/\Hc (gZ f) 800000000/\(∀l∈gZ f,l.length=f.cols)/\(gZ f).length=3*f.nodes.length) (fun O J r=>Cx (S:=S) (oS X r) (hf.cK (kS I r X)) Of) ?_);rintro O Q6 v1 QT r U Py ⟨k1,PH,Um,RM⟩;replace I:=I.tr Py;have hM:=k6.cN k1 fun g Y=>Y.dK (B:=w.heap.size) (S:=FF) r.cI (iv:=(Q6.heap.size,QT.heap.size)::[]) aF;generalize (Q6.heap.size,QT.heap.size)::[]=Oo at*
 obtain⟨am,cm,rfl,So,SC⟩:=dC.shape hM;unfold maxLen at SC
 refine⟨Nat×List Value×World×Iv,fun z=>⟨[(20,iN z.1),(2,pP 1 0),(3,pP 2 0),(18,.o (.v (.slice am (gZ f).length cm))),(19,.o (.v (.int .i64 (gZ f).length)))],[(2,.box T.dy [.w 3 z.2.1.length,.v (.int .i64 ((f.cols:Nat):Int))]),(3,.vec T.iB 1 z.2.1),(1,.box T.dy [.v (.slice none 0 0),.v (.int .i64 0)])],4,z.2.2.2,z.2.2.1⟩,fun z=>(gZ f).length-z.1,
  fun z=>z.1<=(gZ f).length/\dw w.heap.size w z.2.2.1/\k6 z.2.2.1 (Cf w z.2.2.2) (.slice am (gZ f).length cm) (gZ f)/\dS z.2.2.1 (Cf w z.2.2.2) z.2.1 ((cT f).take z.1),?_,?_⟩
 ·intro O J r;exact⟨(0,[],J,_),⟨aQ _,I.tr r.cU,hM.cK fun g Y=>Rel.same r (cH w) Y,by simp[dS]⟩,Sub.EN 2 0 T.iB 1 rfl rfl (by simp[jw,SV.sc,At.sc,fW]) r fun Id r1=>Sub.gn [] r1⟩
 rintro⟨k,rv,w1,iv⟩ ⟨D,I,hM,hK⟩;dsimp only at D I hM hK ⊢;have Po:rv.length=k:=by rw[hK.1,aX,cT,aJ];omega
 refine dQ.mk ?_ ?_<;>intro Oj
 ·have Oj:k<(gZ f).length:=by simpa using Oj
  obtain⟨l,hl⟩:∃l,(gZ f)[k]? =some l:=⟨_,aA Oj⟩
  have hlw:=Um l (aC hl);have Ou:(cT f).take (k+1)=(cT f).take k++[dI l]:=by rw[List.take_add_one,show(cT f)[k]? =some (dI l) by rw[cT,aL,hl];rfl];rfl
  obtain⟨adm,um,Rn,XX,km1,km2⟩:=dC.load hM hl;obtain⟨a0,c0,rfl,hc0,-⟩:=Hb.shape XX;refine⟨adm,Rn,by omega,.slice a0 l.length c0,fun O J r=>?_,?_⟩
  ·rw[aE,cL (w:=w1) (V:=J) (by rw[dF];exact Rel.same r (cH w) km1)];exact km2
  refine⟨l.length,l.length,rfl,rfl,Nat.le_refl _,by omega,by omega,Nat×Nat×World×Iv,fun z=>⟨[(6,.o (.v (.slice (some ⟨z.2.1,0,none⟩) l.length l.length))),(5,sV a0 l.length c0),(27,sV a0 l.length c0),(28,iZ l.length),(29,iN z.1),(20,iN k),(2,pP 1 0),(3,pP 2 0),(18,.o (.v (.slice am (gZ f).length cm))),(19,.o (.v (.int .i64 (gZ f).length)))],[(2,.box T.dy [.w 3 rv.length,.v (.int .i64 ((f.cols:Nat):Int))]),(3,.vec T.iB 1 rv),(1,.box T.dy [.v (.slice none 0 0),.v (.int .i64 0)])],5,z.2.2.2,z.2.2.1⟩,fun z=>l.length-z.1,
   fun z=>z.1<=l.length/\dw w.heap.size w z.2.2.1/\k6 z.2.2.1 (Bs FF w.heap.size z.2.2.2 (.slice (some ⟨z.2.1,0,none⟩) l.length l.length)) (.slice am (gZ f).length cm) (gZ f)/\Hb z.2.2.1 (Bs FF w.heap.size z.2.2.2 (.slice (some ⟨z.2.1,0,none⟩) l.length l.length)) (.slice a0 l.length c0) l/\dS z.2.2.1 (Bs FF w.heap.size z.2.2.2 (.slice (some ⟨z.2.1,0,none⟩) l.length l.length)) rv ((cT f).take k)/\jR z.2.2.1 FF w.heap.size z.2.2.2 (.slice (some ⟨z.2.1,0,none⟩) l.length l.length) l.length z.1 (dI l),?_,?_⟩
  ·intro O J r;have hf:=jR.wX (S:=FF) (n:=l.length) r (id:=4) rfl (by unfold maxLen;omega) (dI l);have hbs:∀g,Cf w iv g->Bs FF w.heap.size (((O 4).g,(O 4).g+1)::iv) (.slice (some ⟨(O 4).g,0,none⟩) l.length l.length) g:=fun g Y=>⟨Y.mono fun p hp=>aB _ hp,fun e=>Rel.not r (cH w) Y 4 _ rfl (r.fits (id:=4) rfl).1 (by injection e)⟩
   exact⟨(0,(O 4).g,J,((O 4).g,(O 4).g+1)::iv),⟨aQ _,I.tr r.cU,(hM.cK fun g Y=>Rel.same r (cH w) Y).cN hbs,(XX.cK fun g Y=>Rel.same r (cH w) Y).cN hbs,dS.cN (hK.rel r (cH w)) hbs,hf⟩,
    Sub.wX r (id:=4) (t:=6) rfl rfl ⟨rfl,rfl,rfl,trivial⟩ rfl ⟨rfl,rfl,rfl,rfl,rfl,rfl,rfl,rfl,rfl,trivial⟩ (by simp[jw,SV.sc,At.sc])⟩
  rintro⟨i,gx,V,iv⟩ ⟨A,I,hM,XX,hK,hX⟩;dsimp only at A I hM XX hK hX ⊢;refine dQ.mk ?_ ?_<;>intro OZ
  ·have OZ:i<l.length:=by simpa using OZ
   obtain⟨z,hz⟩:∃z,l[i]? =some z:=⟨_,aA OZ⟩
   have Ul:=PH l (aC hl) z (aC hz);obtain⟨adz,haz,kz1,kz2⟩:=XX.at hz;refine⟨adz,haz,by omega,.int .i64 z,fun O J r=>?_,?_⟩
   ·rw[aE,cL (w:=V) (V:=J) (by rw[dF];exact Rel.same r (cH w) kz1.1)];exact kz2
   refine cJ (cO (If:=fun _ J v V=>dA V (Nf J V) v (z:Rat)) (fun O J r=>mB z J (by omega) (by omega)) ?_);rintro O QF v3 Pw r U Py Ri;replace I:=I.tr Py;have hbs:∀g,Bs FF w.heap.size iv (.slice (some ⟨gx,0,none⟩) l.length l.length) g->Bs FF w.heap.size ((QF.heap.size,Pw.heap.size)::iv) (.slice (some ⟨gx,0,none⟩) l.length l.length) g:=fun g Y=>Bs.mono (fun x F=>aB _ F) Y;have hbk:∀g,Bs FF w.heap.size iv (.slice (some ⟨gx,0,none⟩) l.length l.length) g->Pw.heap[g]? =V.heap[g]? :=fun g Y=>(U.block g (Rel.old r (cH w) g Y.1)).trans (Bs.same r (cH w) g Y);replace hM:=(hM.cK hbk).cN hbs;replace XX:=(XX.cK hbk).cN hbs;replace hK:=dS.cN (dS.cK hK hbk) hbs;have hd:=Ri.cN (S':=Bs FF w.heap.size ((QF.heap.size,Pw.heap.size)::iv) (.slice (some ⟨gx,0,none⟩) l.length l.length)) fun g Y=>Y.elim (fun h=>h.elim) fun h=>⟨.inr ⟨by have:=r.cI;omega,_,_,aF,h.1,h.2⟩,fun e=>by have:=Rel.old r (cH w) g (hX.new g e);omega⟩
   replace hX:=hX.cM (K:=(QF.heap.size,Pw.heap.size)::iv) r (cH w) U fun x F=>aB _ F;generalize (QF.heap.size,Pw.heap.size)::iv=Oq at*
   obtain⟨A0,A1,A2,A3,A4,A5,A6,A7,rfl⟩:=hd.shape;refine⟨⟨gx,0,none⟩,rfl,by omega,?_⟩;intro O J r;obtain⟨g,Y,L,G,N,h4⟩:=hX.store (j:=i) OZ (by rw[dI,aL,hz];rfl) hd r (cH w);injection Y with Y;injection Y with Y;subst Y;refine⟨L,G,N,fun w5 RY=>?_⟩;obtain⟨k1,k2,k3,k4⟩:=h4 w5 RY;have PE:=(I.tr r.cU).tr k3;have UK:=Bs.kept (v:=(.slice (some ⟨gx,0,none⟩) l.length l.length)) r (cH w) k2 fun g e=>e;have SB:=hM.cK UK;have hLm2:=XX.cK UK;have Qh:=dS.cK hK UK;refine⟨((i+1:Nat):Int),wo,?_⟩;intro GT w6 E;exact⟨(i+1,gx,w6,_),⟨OZ,PE.tr E.cU,SB.cK (Bs.same E (cH w)),hLm2.cK (Bs.same E (cH w)),dS.cK Qh (Bs.same E (cH w)),k1.rel E (cH w)⟩,Sub.gn [] E,by dsimp only;omega⟩
  have OZ:i=l.length:=aR A (by simpa using OZ);rw[OZ]at hX;have hX2:=(hX.done (by simp[dI])).c;replace hK:=(dS.cN hK fun g Y=>Y.1).push (u:=(.slice (some ⟨gx,0,none⟩) l.length l.length)) (x:=dI l) rfl (by rw[show l.length=(dI l).length by simp[dI]]at hX2 ⊢;exact hX2);rw[<-Ou]at hK;replace hM:=hM.cN fun g Y=>Y.1;refine .inl ?_;refine⟨by simp,by omega,by unfold maxLen;omega,((k+1:Nat):Int),wo,?_⟩;intro GT w3 E;exact⟨(k+1,rv++[(.slice (some ⟨gx,0,none⟩) l.length l.length)],w3,_),⟨Oj,I.tr E.cU,hM.cK fun g Y=>Rel.same E (cH w) Y,hK.rel E (cH w)⟩,Sub.gn [(3,6)] E ⟨by dsimp only;rw[List.length_append,List.length_singleton];rfl,rfl,rfl,trivial⟩,by dsimp only;omega⟩
 have Oj:k=(gZ f).length:=aR D (by simpa using Oj);rw[List.take_of_length_le (by rw[cT,aJ];omega)]at hK;intro IR we re;refine⟨_,rfl,I.tr re.cU,⟨_,rfl,rv,?_,hK.1,fun i u x k1 k2=>cS.cN (cS.rel (hK.2.2 i u x k1 k2) re (cH w)) fun g Y=>Cv.nw Y re⟩,fun x F=>?_,fun x F q hq=>?_⟩
 ·rw[<-hK.1];exact(re.iK (id:=3) (sz:=1) (m:=rv.length) rfl (by simp) (by unfold maxLen;omega) (by decide) hK.2.1).cN fun g Y=>.inr Y
 ·obtain⟨l,hl,rfl⟩:=aU.1 F;rw[dI,aJ];exact Um l hl
 ·obtain⟨l,hl,rfl⟩:=aU.1 F;obtain⟨z,hz,rfl⟩:=aU.1 hq;have:=PH l hl z hz;have:=wh (z:=z) (by omega) (by omega);omega
def ldC(x:Ld):List Int:=[x.2.1,x.2.2.1,x.2.2.2]
def gb(s:List Int)(x:Ld):Nat->List Int
 |0=>s
 |k+1=>IW (gb s x k) (3*x.1+k).toNat ((ldC x).getD k 0)
def fe(n:Nat)(l:List Ld):Nat->List Int
 |0=>List.replicate (3*n) 0
 |i+1=>gb (fe n l i) (l.getD i (0,0,0,0)) 3
def fV(f:fC)(l:List Ld):List Rat:=dI (fe f.nodes.length l l.length)
structure xm(n:Nat)(l:List Ld):Prop where
 len:l.length<=200
 ld:∀x∈l,(0<=x.1/\x.1<n)/\(-1000000<=x.2.1/\x.2.1<=1000000)/\(-1000000<=x.2.2.1/\x.2.2.1<=1000000)/\(-1000000<=x.2.2.2/\x.2.2.2<=1000000)
theorem tK(s:List Int)(x:Ld):∀k,(gb s x k).length=s.length
 |0=>rfl
 |k+1=>by rw[gb,IW,bL];exact tK s x k
theorem kT(n:Nat)(l:List Ld):∀i,(fe n l i).length=3*n
 |0=>bH ..
 |i+1=>by rw[fe,tK];exact kT n l i
theorem mw{k:Nat}{d:Int}(e:3*x.1+(k:Int)=j)(hd:(ldC x).getD k 0=d)(hz:(gb s x k)[j]? =some z):(gb s x k).set j (z+d)=gb s x (k+1):=by
 rw[gb,IW,hd,e,aE,show(gb s x k).getD j 0=z by rw[List.getD,hz];rfl]
def NN(s:List Int)(t:Int):Prop:=∀z∈s,-t<=z/\z<=t
theorem NN.set{t t2:Int}(h:NN s t)(ht:t<=t2)(hz: -t2<=z/\z<=t2):NN (s.set j z) t2:=fun y hy=>by
 rcases bC hy with hy|rfl
 ·have:=h y hy;omega
 ·exact hz
def zv(l:List Int):List Value:=l.map fun z=>.int .i64 z
theorem ES(l:List Int):(zv l).length=l.length:=aJ ..
theorem Cy{l:List Int}(h:l[j]? =some z):(zv l)[j]? =some (.int .i64 z):=by rw[zv,aL,h];rfl
theorem ET{l:List Int}(h:j<l.length):(zv l).take j++[.int .i64 z]++(zv l).drop (j+1)=zv (l.set j z):=by
 rw[zv,zv,List.map_set];exact kV (by rw[aJ];exact h)
theorem pB(f:fC):(cY f).length=f.cols:=by simp[cY,fC.cols]
theorem eD.OY{q:Rat}(h:Z.length=qs.length/\∀(j:Nat) W q,Z[j]? =some W->qs[j]? =some q->mx w S W q)(hc:mx w S W q):
  (Z++[W]).length=(qs++[q]).length/\∀(j:Nat) c p,(Z++[W])[j]? =some c->(qs++[q])[j]? =some p->mx w S c p:=by
 refine⟨by simp[h.1],fun j x p L G=>?_⟩;rcases aO j Z.length with A|A
 ·rw[aI A]at L;rw[aI (by rw[<-h.1];exact A)]at G;exact h.2 j x p L G
 ·have SR:j=Z.length:=by have:=(aD.1 L).1;simp at this;omega
  subst SR;rw[aM (Nat.le_refl _),bJ]at L;rw[h.1,aM (Nat.le_refl _),bJ]at G;simp at L G;subst L G;exact hc
set_option maxHeartbeats 1000000 in
theorem Cz{cn:Nat}(X:Old S w)(hl:jA w S vl l)(SH:f.nodes.length<=20)(Of:xm f.nodes.length l)
  {ab aq:Option Addr} {nb cb nq cq:Nat} (Ve:vb= .slice ab nb cb) (R4:vs= .slice aq nq cq):
  eI PG F'.qN #[.agg #[.slice an f.nodes.length cn,vb,vs],vl] w (eO w fun v' V=>eU V FF w.heap.size [(w.heap.size,V.heap.size)] v' (3*f.nodes.length) (fV f l)/\∀q∈fV f l,rl q<=1):=by
 subst Ve R4;have I:=bR w;obtain⟨al,cl,rfl,Pu,RM⟩:=hl.shape;have hl200:=Of.len;refine ub (by simp) ?_;refine⟨((3*f.nodes.length:Nat):Int),wo,?_⟩;obtain⟨m,hm⟩:∃m,3*f.nodes.length=m:=⟨_,rfl⟩
 rw[hm]
 refine⟨m,m,rfl,rfl,Nat.le_refl _,by omega,by omega,Nat×World,fun z=>⟨[(5,.o (.s 1 0 m m)),(18,sV al l.length cl),(19,iZ l.length),(20,iN z.1)],[(1,.arr T.int (zv (fe f.nodes.length l z.1)))],2,[],z.2⟩,fun z=>l.length-z.1,
  fun z=>z.1<=l.length/\dw w.heap.size w z.2/\NN (fe f.nodes.length l z.1) (3000000*z.1),?_,?_⟩
 ·intro O J E;exact⟨(0,J),⟨aQ _,I.tr E.cU,fun z hz=>by rw[fe]at hz;rw[bI hz];exact⟨Int.le_refl _,Int.le_refl _⟩⟩,Sub.gn [] E ⟨by dsimp only;rw[fe,hm,zv,List.map_replicate];rfl,trivial⟩⟩
 rintro⟨i,w1⟩ ⟨A,I,PH⟩;dsimp only at A I PH ⊢;refine dQ.mk ?_ ?_<;>intro OZ
 ·have OZ:i<l.length:=by simpa using OZ
  obtain⟨x,F⟩:∃x,l[i]? =some x:=⟨_,aA OZ⟩
  obtain⟨R,SS,RP,hx3⟩:=Of.ld x (aC F);obtain⟨kn,Wc⟩:=Int.eq_ofNat_of_zero_le R.1;obtain⟨adx,W,QE,hP,-,PU⟩:=hl.load (by decide) F;have hP:W=[.int .i64 x.1,.int .i64 x.2.1,.int .i64 x.2.2.1,.int .i64 x.2.2.2]:=hP;subst hP
  refine⟨adx,QE,by omega,[.int .i64 x.1,.int .i64 x.2.1,.int .i64 x.2.2.1,.int .i64 x.2.2.2],rfl,rdO PU I X,Nat×World,fun z=>⟨[(5,.o (.s 1 0 m m)),(7,pP 2 0),(30,.a [.v (.int .i64 x.2.1),.v (.int .i64 x.2.2.1),.v (.int .i64 x.2.2.2)]),(31,iN z.1),(18,sV al l.length cl),(19,iZ l.length),(20,iN i)],[(2,.box T.aBW [.v (.int .i64 x.1),.v (.int .i64 x.2.1),.v (.int .i64 x.2.2.1),.v (.int .i64 x.2.2.2)]),(1,.arr T.int (zv (gb (fe f.nodes.length l i) x z.1)))],3,[],z.2⟩,fun z=>3-z.1,
   fun z=>z.1<=3/\dw w.heap.size w z.2/\NN (gb (fe f.nodes.length l i) x z.1) (3000000*i+1000000*z.1),?_,?_⟩
  ·intro O J E;exact⟨(0,J),⟨aQ _,I.tr E.cU,PH⟩,Sub.gn [] E⟩
  rintro⟨k,w3⟩ ⟨D,I,PH⟩;dsimp only at D I PH ⊢;refine dQ.mk ?_ ?_<;>intro Oj
  ·have Oj:k<3:=by have:=aK Oj;omega
   obtain⟨d,hd⟩:∃d,(ldC x).getD k 0=d:=⟨_,rfl⟩
   have hdb: -1000000<=d/\d<=1000000:=by
    rw[<-hd,ldC];rcases(show k=0\/k=1\/k=2 by omega)with rfl|rfl|rfl<;>simp[List.getD]<;>omega
   have hLl:(gb (fe f.nodes.length l i) x k).length=m:=by rw[tK,kT,hm]
   obtain⟨z,hz⟩:∃z,(gb (fe f.nodes.length l i) x k)[3*kn+k]? =some z:=⟨_,aA (by omega)⟩
   have Ul:=PH z (aC hz);have Vc:3*x.1+(k:Int)=((3*kn+k:Nat):Int):=by omega
   have RD:=mw Vc hd hz;have S3:=PH.set (j:=3*kn+k) (z:=z+d) (t2:=3000000*i+1000000*(k+1:Nat)) (by omega) (by omega);rw[RD]at S3;refine BA hτ (W:= #[.int .i64 x.2.1,.int .i64 x.2.2.1,.int .i64 x.2.2.2]) rfl rfl rfl (fun _=>rfl) rfl ⟨by omega,by omega⟩ (u:=.int .i64 d) ?_ (fun O w4 r=>?_)
   ·rw[<-hd,ldC,aE];rcases(show k=0\/k=1\/k=2 by omega)with rfl|rfl|rfl<;>rfl
   replace I:=I.tr r.cU;refine⟨3*x.1,wo,((3*kn+k:Nat):Int),wo,by omega,.int .i64 z,by rw[aE,aV,aT];exact Cy hz,z+d,wo,by omega,by rw[ES];omega,zv (gb (fe f.nodes.length l i) x (k+1)),?_,?_⟩
   ·rw[aE,aV,aT,<-RD];exact ET (by omega)
   refine⟨((k+1:Nat):Int),wo,?_⟩;intro GT w6 E;exact⟨(k+1,w6),⟨Oj,I.tr E.cU,S3⟩,Sub.gn [] E,by dsimp only;omega⟩
  have Oj:k=3:=by have:=aG Oj;omega
  subst Oj;have RD:gb (fe f.nodes.length l i) x 3=fe f.nodes.length l (i+1):=by rw[fe,show l.getD i (0,0,0,0)=x by rw[List.getD,F];rfl]
  rw[RD]at PH ⊢;refine⟨((i+1:Nat):Int),wo,?_⟩;intro GT w6 E;exact⟨(i+1,w6),⟨OZ,I.tr E.cU,fun z hz=>by have:=PH z hz;dsimp only;omega⟩,Sub.gn [] E,by dsimp only;omega⟩
 have OZ:i=l.length:=aR A (by simpa using OZ);subst OZ;obtain⟨s,hs⟩:∃s,fe f.nodes.length l l.length=s:=⟨_,rfl⟩
 have SE:s.length=m:=by rw[<-hs,kT,hm]
 rw[hs]at PH ⊢;unfold fV;rw[hs]
 refine⟨m,m,rfl,rfl,Nat.le_refl _,by omega,by omega,Nat×List (List Value)×Iv×World,fun z=>⟨[(10,.o (.s 2 0 m m)),(51,.o (.s 1 0 m m)),(52,iZ m),(53,iN z.1)],[(2,.arr T.Rat z.2.1.flatten),(1,.arr T.int (zv s))],3,z.2.2.1,z.2.2.2⟩,fun z=>m-z.1,
  fun z=>z.1<=m/\dw w.heap.size w z.2.2.2/\gR z.2.2.2 (Cf w z.2.2.1) m z.1 z.2.1 (dI s),?_,?_⟩
 ·intro O J r;exact⟨(0,List.replicate m f0,_,J),⟨aQ _,I.tr r.cU,gR.start _ _ _ _⟩,Sub.gn [] r⟩
 rintro⟨i,Z,iv,w1⟩ ⟨Rz,I,hF⟩;dsimp only at Rz I hF ⊢;refine dQ.mk ?_ ?_<;>intro OZ
 ·have OZ:i<m:=by simpa using OZ
  obtain⟨z,hz⟩:∃z,s[i]? =some z:=⟨_,aA (by omega)⟩
  have Ul:=PH z (aC hz);refine⟨by omega,.int .i64 z,by rw[aE,aV,aT];exact Cy hz,?_⟩;refine cJ (cE I (fun _ J v V=>dA V (Nf J V) v (z:Rat)) (fun O J r=>mB z J (by omega) (by omega)) ?_);rintro O _ _ _ Oo r U I h_ R;replace hF:=hF.cM r (cH w) U (mC h_);have hd:=R.dK (S:=FF) r.cI (mN h_);obtain⟨A0,A1,A2,A3,A4,A5,A6,A7,rfl⟩:=hd.shape;have Ou:=hF.next OZ (q:=_) (by rw[dI,aL,hz];rfl) hd
  refine⟨by omega,by have:=hF.flat;omega,(Z.set i [.bool A0,.slice A1 A2 A3,.bool A4,.slice A5 A6 A7]).flatten,?_,?_⟩
  ·have:=iI (W:=[.bool A0,.slice A1 A2 A3,.bool A4,.slice A5 A6 A7]) hF.four (show i<Z.length by rw[hF.len];exact OZ);rw[<-this];simp
  refine⟨((i+1:Nat):Int),wo,?_⟩;intro GT w3 E;exact⟨(i+1,Z.set i [.bool A0,.slice A1 A2 A3,.bool A4,.slice A5 A6 A7],_,w3),⟨OZ,I.tr E.cU,Ou.rel E (cH w)⟩,Sub.gn [] E,by dsimp only;omega⟩
 have OZ:i=m:=aR Rz (by simpa using OZ);subst OZ;intro IR we re
 exact⟨_,rfl,I.tr re.cU,hF.done (by rw[dI,aJ];exact SE) (by unfold maxLen;omega) re (id:=2) rfl (re.nn 2 _ rfl (by intros;simp) (by simp)),fun q hq=>by
  obtain⟨z,hz,rfl⟩:=aU.1 hq;have:=PH z hz
  exact wh (by omega) (by omega)⟩
set_option maxHeartbeats 1000000 in
theorem DA{vn:Value}(X:Old S w)(hf:eG w S vn vb vs f)(Of:uy f):
  eI PG F'.qS #[.agg #[vn,vb,vs]] w (eO w fun v' V=>eD V (Nw S w V) v' (cY f)):=by
 have I:=bR w;obtain⟨an,cn,ab,cb,aq,cq,rfl,rfl,rfl,RR,Rk,SM⟩:=hf.shape;have Wl:=hf;refine ug (by simp) ?_
 refine⟨Nat×List (List Value)×World,fun z=>⟨[(3,.o (.w 1 z.2.1.length)),(9,sV ab f.bars.length cb),(10,iZ f.bars.length),(11,iN z.1),(1,pP 0 0)],[(1,.vec T.Rat 4 z.2.1.flatten),(0,.box T.Frame [.v (.slice an f.nodes.length cn),.v (.slice ab f.bars.length cb),.v (.slice aq f.cZ.length cq)])],2,[],z.2.2⟩,fun z=>f.bars.length-z.1,
  fun z=>z.1<=f.bars.length/\dw w.heap.size w z.2.2/\(∀W∈z.2.1,W.length=4)/\(z.2.1.length=((fun i=>(f.bars.take i).map (·.2.2)) z.1).length/\∀(j:Nat) W q,z.2.1[j]? =some W->((fun i=>(f.bars.take i).map (·.2.2)) z.1)[j]? =some q->mx z.2.2 S W q),?_,?_⟩
 ·intro O J r;exact⟨(0,[],J),⟨aQ _,I.tr r.cU,fun W h=>(by cases h),rfl,fun j W q h=>by cases h⟩,Sub.nil 3 T.Rat 4 rfl (by simp[jw,SV.sc,At.sc,fW]) r fun Id r1=>Sub.gn [] r1⟩
 rintro⟨k,Z,w1⟩ ⟨D,I,UN,hR⟩;dsimp only at D I UN hR ⊢;have PL:=ef UN;refine dQ.mk ?_ ?_<;>intro Oj
 ·have Oj:k<f.bars.length:=by simpa using Oj
  have S1:=Of.b;have S2:=Of.s;obtain⟨b,hb⟩:∃b,f.bars[k]? =some b:=⟨_,aA Oj⟩
  have RD:(fun i=>(f.bars.take i).map (·.2.2)) (k+1)=(fun i=>(f.bars.take i).map (·.2.2)) k++[b.2.2]:=by dsimp only;rw[List.take_add_one,hb];simp
  obtain⟨adb,W,QS,hF,-,PV⟩:=Wl.bars.load (by decide) hb;obtain⟨g0,g1,g2,g3,g4,g5,g6,g7,rfl,hF⟩:=hF;refine⟨adb,QS,by omega,[.int .i64 b.1,.int .i64 b.2.1,.bool g0,.slice g1 g2 g3,.bool g4,.slice g5 g6 g7],rfl,rdO PV I X,?_⟩;have Ud:mx w1 S [.bool g0,.slice g1 g2 g3,.bool g4,.slice g5 g6 g7] b.2.2:=⟨_,_,_,_,_,_,_,_,rfl,hF.cK fun g Y=>I.block g (X g Y)⟩
  have Qs:=eD.OY hR Ud;rw[<-RD]at Qs;have Qc:Z.flatten++([.bool g0,.slice g1 g2 g3,.bool g4,.slice g5 g6 g7]:List Value)=(Z++([[.bool g0,.slice g1 g2 g3,.bool g4,.slice g5 g6 g7]]:List (List Value))).flatten:=by simp
  have hlen2:Z.length<=200:=by rw[hR.1,aJ,aX];have:=Of.b;omega
  refine .inl ?_;refine⟨by omega,by omega,by unfold maxLen;omega,((k+1:Nat):Int),wo,?_⟩;intro GT w3 E
  exact⟨(k+1,Z++[[.bool g0,.slice g1 g2 g3,.bool g4,.slice g5 g6 g7]],w3),⟨Oj,I.tr E.cU,fun W hc=>by
   rcases bB.1 hc with hc|hc
   ·exact UN W hc
   ·rw[bD.1 hc];rfl,Qs.1,fun j W q L G=>(Qs.2 j W q L G).cK fun g Y=>(E.cU).block g (X g Y)⟩,Sub.gn [(1,4)] E ⟨by dsimp only;rw[<-Qc];rfl,rfl,trivial⟩ ⟨by dsimp only;rw[List.length_append,List.length_singleton];rfl,rfl,rfl,rfl,rfl,trivial⟩,by dsimp only;omega⟩
 have Oj:k=f.bars.length:=aR D (by simpa using Oj);subst Oj;have Po:Z.length=f.bars.length:=by rw[hR.1,aJ,aX];omega
 rw[bA,show f.bars.map (·.2.2)=f.bars.map (·.2.2)++(f.cZ.take 0).map (·.2.2) by simp]at hR
 refine⟨Nat×List (List Value)×World,fun z=>⟨[(3,.o (.w 1 z.2.1.length)),(22,sV aq f.cZ.length cq),(23,iZ f.cZ.length),(24,iN z.1)],[(1,.vec T.Rat 4 z.2.1.flatten),(0,.box T.Frame [.v (.slice an f.nodes.length cn),.v (.slice ab f.bars.length cb),.v (.slice aq f.cZ.length cq)])],2,[],z.2.2⟩,fun z=>f.cZ.length-z.1,
  fun z=>z.1<=f.cZ.length/\dw w.heap.size w z.2.2/\(∀W∈z.2.1,W.length=4)/\(z.2.1.length=((fun i=>f.bars.map (·.2.2)++(f.cZ.take i).map (·.2.2)) z.1).length/\∀(j:Nat) W q,z.2.1[j]? =some W->((fun i=>f.bars.map (·.2.2)++(f.cZ.take i).map (·.2.2)) z.1)[j]? =some q->mx z.2.2 S W q),?_,?_⟩
 ·intro O J E;exact⟨(0,Z,J),⟨aQ _,I.tr E.cU,UN,hR.1,fun j W q L G=>(hR.2 j W q L G).cK fun g Y=>(E.cU).block g (X g Y)⟩,Sub.gn [] E⟩
 rintro⟨k,Z,w1⟩ ⟨D,I,UN,hR⟩;dsimp only at D I UN hR ⊢;have PL:=ef UN;refine dQ.mk ?_ ?_<;>intro Oj
 ·have Oj:k<f.cZ.length:=by simpa using Oj
  have S1:=Of.b;have S2:=Of.s;obtain⟨b,hb⟩:∃b,f.cZ[k]? =some b:=⟨_,aA Oj⟩
  have RD:(fun i=>f.bars.map (·.2.2)++(f.cZ.take i).map (·.2.2)) (k+1)=(fun i=>f.bars.map (·.2.2)++(f.cZ.take i).map (·.2.2)) k++[b.2.2]:=by dsimp only;rw[List.take_add_one,hb];simp
  obtain⟨adb,W,QS,hF,-,PV⟩:=Wl.cZ.load (by decide) hb;obtain⟨g0,g1,g2,g3,g4,g5,g6,g7,rfl,hF⟩:=hF;refine⟨adb,QS,by omega,[.int .i64 b.1,.int .i64 b.2.1,.bool g0,.slice g1 g2 g3,.bool g4,.slice g5 g6 g7],rfl,rdO PV I X,?_⟩;have Ud:mx w1 S [.bool g0,.slice g1 g2 g3,.bool g4,.slice g5 g6 g7] b.2.2:=⟨_,_,_,_,_,_,_,_,rfl,hF.cK fun g Y=>I.block g (X g Y)⟩
  have Qs:=eD.OY hR Ud;rw[<-RD]at Qs;have Qc:Z.flatten++([.bool g0,.slice g1 g2 g3,.bool g4,.slice g5 g6 g7]:List Value)=(Z++([[.bool g0,.slice g1 g2 g3,.bool g4,.slice g5 g6 g7]]:List (List Value))).flatten:=by simp
  have hlen2:Z.length<=200:=by rw[hR.1,List.length_append,aJ,aJ,aX];have:=Of.b;have:=Of.s;omega
  refine .inl ?_;refine⟨by omega,by omega,by unfold maxLen;omega,((k+1:Nat):Int),wo,?_⟩;intro GT w3 E
  exact⟨(k+1,Z++[[.bool g0,.slice g1 g2 g3,.bool g4,.slice g5 g6 g7]],w3),⟨Oj,I.tr E.cU,fun W hc=>by
   rcases bB.1 hc with hc|hc
   ·exact UN W hc
   ·rw[bD.1 hc];rfl,Qs.1,fun j W q L G=>(Qs.2 j W q L G).cK fun g Y=>(E.cU).block g (X g Y)⟩,Sub.gn [(1,4)] E ⟨by dsimp only;rw[<-Qc];rfl,rfl,trivial⟩ ⟨by dsimp only;rw[List.length_append,List.length_singleton];rfl,rfl,rfl,rfl,trivial⟩,by dsimp only;omega⟩
 have Oj:k=f.cZ.length:=aR D (by simpa using Oj);subst Oj;intro IR we re;have hfull:f.bars.map (·.2.2)++(f.cZ.take f.cZ.length).map (·.2.2)=cY f:=by rw[bA];rfl
 rw[hfull]at hR;refine⟨_,rfl,I.tr re.cU,Z,?_,hR.1,UN,fun j W q k1 k2=>((hR.2 j W q k1 k2).cK fun g Y=>(re.cU).block g (X g Y)).cN fun g Y=>.inl Y⟩;have Pu:=hR.1
 have h5:=re.iK (id:=1) (sz:=4) (m:=Z.length) rfl PL (by have:=Of.b;have:=Of.s;rw[Pu,pB];unfold fC.cols maxLen;omega) (by decide) (fun u hu=>by
  obtain⟨W,hc,hu⟩:=List.mem_flatten.1 hu;obtain⟨j,hj⟩:=aN hc;obtain⟨_,_,_,_,_,_,_,_,rfl,_⟩:=hR.2 j W _ hj (aA (by rw[<-Pu];exact(aD.1 hj).1));simp at hu
  rcases hu with rfl|rfl|rfl|rfl<;>rfl)
 rw[<-Pu];exact h5.cN fun g Y=>.inr Y
def fH{α:Type}(e:List α->α->Int):List α->List α->Int
 |_,[]=>0
 |seen,x::r=>if e seen x=0 then fH e (seen++[x]) r else e seen x
section
variable{α:Type}{e:List α->α->Int}{xs:List α}
theorem gp{k:Nat}{x:α}(F:xs[k]? =some x)(h0:e (xs.take k) x=0):fH e (xs.take k) (xs.drop k)=fH e (xs.take (k+1)) (xs.drop (k+1)):=by
 have D:=(aD.1 F).1;have G:=(aD.1 F).2;rw[List.drop_eq_getElem_cons D,G,fH,if_pos h0,List.take_add_one,F];rfl
theorem cX{k:Nat}{x:α}{c:Int}(F:xs[k]? =some x)(h0:e (xs.take k) x=c)(hc:c≠0):fH e (xs.take k) (xs.drop k)=c:=by
 have D:=(aD.1 F).1;have G:=(aD.1 F).2;rw[List.drop_eq_getElem_cons D,G,fH,aH (by rw[h0];exact hc),h0]
theorem jS{k:Nat}(D:xs.length<=k):fH e (xs.take k) (xs.drop k)=0:=by
 rw[List.drop_eq_nil_of_le D];rfl
theorem jL(h:fH e [] xs=0):∀k x,xs[k]? =some x->e (xs.take k) x=0:=by
 have key:∀k,k<=xs.length->fH e (xs.take k) (xs.drop k)=0/\∀j x,j<k->xs[j]? =some x->e (xs.take j) x=0:=fun k=>by
  induction k with
  |zero=>intro _;exact⟨by simpa using h,fun j x hj=>by omega⟩
  |succ k ih=>
   intro D;obtain⟨L,G⟩:=ih (by omega);obtain⟨x,F⟩:∃x,xs[k]? =some x:=⟨_,aA (by omega)⟩
   have h0:e (xs.take k) x=0:=by
    by_cases h0:e (xs.take k) x=0
    ·exact h0
    ·rw[cX F rfl h0]at L;exact L
   refine⟨by rw[<-gp F h0];exact L,fun j y hj hy=>?_⟩;rcases aO j k with Sb|Sb
   ·exact G j y Sb hy
   ·have:j=k:=by omega
    subst this;rw[F]at hy;injection hy with hy;rw[<-hy];exact h0
 exact fun k x F=>(key xs.length (Nat.le_refl _)).2 k x (aD.1 F).1 F
end
def nQ(n:Int):Prop:= -1000000<=n/\n<=1000000
instance (n : Int) : Decidable (nQ n) := by unfold nQ; infer_instance
def fN(seen:List (Int×Int×Int))(p:Int×Int×Int):Int:=if nQ p.1/\nQ p.2.1/\nQ p.2.2 then(if p∈seen then 12 else 0)else 2
def gf(b:Int×Int×Rat):Int×Int:=(min b.1 b.2.1,max b.1 b.2.1)
def j1(n:Nat)(i:Int):Prop:=0<=i/\i<n
instance (n : Nat) (i : Int) : Decidable (j1 n i) := by unfold j1; infer_instance
def fX(n:Nat)(seen:List (Int×Int×Rat))(b:Int×Int×Rat):Int:=
 if j1 n b.1/\j1 n b.2.1 then(if b.1=b.2.1 then 3 else if gf b∈seen.map gf then 5 else if b.2.2<=0 then 2 else 0)else 6
def jK(s:Int×Int×Rat):Int×Int:=(s.1,s.2.1)
def kh(n:Nat)(seen:List (Int×Int×Rat))(s:Int×Int×Rat):Int:=
 if j1 n s.1 then(if 0<=s.2.1/\s.2.1<=2 then(if jK s∈seen.map jK then 5 else if s.2.2<0 then 2 else 0)else 2)else 6
def e8(f:fC):Int:=
 if 20<f.nodes.length\/60<f.bars.length\/60<f.cZ.length then 8 else
  if fH fN [] f.nodes≠0 then fH fN [] f.nodes else
   if fH (fX f.nodes.length) [] f.bars≠0 then fH (fX f.nodes.length) [] f.bars else fH (kh f.nodes.length) [] f.cZ
def jt(n:Nat)(x:Ld):Int:=if j1 n x.1 then(if nQ x.2.1/\nQ x.2.2.1/\nQ x.2.2.2 then 0 else 2)else 6
def tL(n:Nat)(l:List Ld):Int:=if 200<l.length then 8 else fH (fun _=>jt n) [] l
def iu(f:fC)(l:List Ld):Int:=if e8 f≠0 then e8 f else tL f.nodes.length l
theorem tM{seen:List (Int×Int×Int)}:fN seen p=0↔(nQ p.1/\nQ p.2.1/\nQ p.2.2)/\p∉seen:=by
 unfold fN;split<;>rename_i h
 ·split<;>rename_i G<;>simp[h,G]
 ·simp[h]
theorem nZ{n:Nat}:fX n seen b=0↔(j1 n b.1/\j1 n b.2.1)/\b.1≠b.2.1/\gf b∉seen.map gf/\0<b.2.2:=by
 unfold fX;rw[<-Rat.not_le];by_cases h:j1 n b.1/\j1 n b.2.1
 ·rw[if_pos h];by_cases G:b.1=b.2.1
  ·rw[if_pos G];exact⟨(fun e=>by cases e),fun e=>absurd G e.2.1⟩
  ·rw[aH G];by_cases N:gf b∈seen.map gf
   ·rw[if_pos N];exact⟨(fun e=>by cases e),fun e=>absurd N e.2.2.1⟩
   ·rw[aH N];by_cases h4:b.2.2<=0
    ·rw[if_pos h4];exact⟨(fun e=>by cases e),fun e=>absurd h4 e.2.2.2⟩
    ·rw[aH h4];exact⟨fun _=>⟨h,G,N,h4⟩,fun _=>rfl⟩
 ·rw[aH h];exact⟨(fun e=>by cases e),fun e=>absurd e.1 h⟩
theorem rR{n:Nat}{s:Int×Int×Rat}:kh n seen s=0↔j1 n s.1/\(0<=s.2.1/\s.2.1<=2)/\jK s∉seen.map jK/\0<=s.2.2:=by
 unfold kh;rw[<-Rat.not_lt];by_cases h:j1 n s.1<;>by_cases G:0<=s.2.1/\s.2.1<=2<;>by_cases N:jK s∈seen.map jK<;>by_cases h4:s.2.2<0<;>simp only[h,G,N,h4]<;>simp
theorem Hd{n:Nat}:jt n x=0↔j1 n x.1/\nQ x.2.1/\nQ x.2.2.1/\nQ x.2.2.2:=by
 unfold jt;split<;>rename_i h
 ·split<;>rename_i G<;>simp[h,G]
 ·simp[h]
theorem wA(h:e8 f=0):(f.nodes.length<=20/\f.bars.length<=60/\f.cZ.length<=60)/\fH fN [] f.nodes=0/\fH (fX f.nodes.length) [] f.bars=0/\fH (kh f.nodes.length) [] f.cZ=0:=by
 unfold e8 at h;split at h<;>rename_i L
 ·cases h
 ·split at h<;>rename_i G
  ·exact absurd h G
  ·split at h<;>rename_i N
   ·exact absurd h N
   ·exact⟨by omega,by simpa using G,by simpa using N,h⟩
theorem mZ(h:e8 f=0):uy f:=by
 obtain⟨⟨L,G,N⟩,R,hb,hs⟩:=wA h;refine⟨fun p hp=>?_,fun b Qq=>?_,fun s UL=>?_,L,G,N⟩
 ·obtain⟨k,D⟩:=aN hp;exact(tM.1 (jL R k p D)).1
 ·obtain⟨k,D⟩:=aN Qq;exact(nZ.1 (jL hb k b D)).1
 ·obtain⟨k,D⟩:=aN UL;have:=rR.1 (jL hs k s D);exact⟨this.1,this.2.1⟩
theorem EU{n:Nat}(h:tL n l=0):xm n l:=by
 unfold tL at h;split at h<;>rename_i L
 ·cases h
 ·refine⟨by omega,fun x F=>?_⟩;obtain⟨k,D⟩:=aN F;exact Hd.1 (jL h k x D)
theorem pC(h:iu f l=0):e8 f=0/\tL f.nodes.length l=0:=by
 unfold iu at h;split at h<;>rename_i L
 ·exact absurd h L
 ·exact⟨by simpa using L,h⟩
theorem lO(n:Int)(w:World):eI PG F'.qO #[.int .i64 n,.int .i64 1000000] w (eO w fun v' _=>∃d,v'= .bool d/\(d=true↔nQ n)):=by
 have I:=bR w;refine uc (by simp) ?_;refine⟨-1000000,by decide,?_⟩;refine dQ.mk ?_ ?_<;>intro L
 ·intro IR we re;have L:=aK L;exact⟨_,rfl,I.tr re.cU,_,rfl,by rw[decide_eq_true_iff];exact⟨fun h=>⟨L,h⟩,fun h=>h.2⟩⟩
 ·intro IR we re;have L:=aG L;exact⟨_,rfl,I.tr re.cU,_,rfl,(fun h=>by cases h),fun h=>absurd h.1 L⟩
theorem He(n:Int)(w:World)(an ab aq:Option Addr)(ln cn nb cb nq cq:Nat):eI PG F'.xg #[.agg #[.slice an ln cn,.slice ab nb cb,.slice aq nq cq],.int .i64 n] w (eO w fun v' _=>∃d,v'= .bool d/\(d=true↔j1 ln n)):=by
 have I:=bR w;refine Ar (by simp) ?_;refine dQ.mk ?_ ?_<;>intro L
 ·intro IR we re;have L:=aK L;exact⟨_,rfl,I.tr re.cU,_,rfl,by rw[decide_eq_true_iff];exact⟨fun h=>⟨L,h⟩,fun h=>h.2⟩⟩
 ·intro IR we re;have L:=aG L;exact⟨_,rfl,I.tr re.cU,_,rfl,(fun h=>by cases h),fun h=>absurd h.1 L⟩
theorem EV(x y0 y1 y2:Int)(n:Nat)(w:World):eI PG F'.mf #[.agg #[.int .i64 x,.int .i64 y0,.int .i64 y1,.int .i64 y2],.int .i64 n] w (eO w fun v' _=>v'= .int .i64 (jt n (x,y0,y1,y2))):=by
 have I:=bR w;refine q8 (by simp) ?_;refine dQ.mk ?_ ?_<;>intro L
 ·have L:=aK L;exact rtn I fun IR we re=>by show Value.int .i64 _=_;rw[jt,aH (by unfold j1;omega)]
 have L:=aG L;refine dQ.mk ?_ ?_<;>intro G
 ·have G:=aK G;exact rtn I fun IR we re=>by show Value.int .i64 _=_;rw[jt,aH (by unfold j1;omega)]
 have G:=aG G;have hh:j1 n x:=by unfold j1;omega
 refine cJ (cE I (fun _ J v V=>∃d,v= .bool d/\(d=true↔nQ y0)) (fun O J r=>lO _ J) ?_);rintro O _ _ _ Oo r U I h_ ⟨d0,rfl,Ov⟩
 cases d0
 ·have Ov:¬nQ y0:=fun h=>by have:=Ov.2 h;cases this
  exact rtn I fun IR we re=>by show Value.int .i64 _=_;rw[jt,if_pos hh,aH (fun h=>Ov h.1)]
 replace Ov:=Ov.1 rfl;refine cJ (cE I (fun _ J v V=>∃d,v= .bool d/\(d=true↔nQ y1)) (fun O J r=>lO _ J) ?_);rintro O _ _ _ Od r U I h_ ⟨d1,rfl,PF⟩
 cases d1
 ·have PF:¬nQ y1:=fun h=>by have:=PF.2 h;cases this
  exact rtn I fun IR we re=>by show Value.int .i64 _=_;rw[jt,if_pos hh,aH (fun h=>PF h.2.1)]
 replace PF:=PF.1 rfl;refine cJ (cE I (fun _ J v V=>∃d,v= .bool d/\(d=true↔nQ y2)) (fun O J r=>lO _ J) ?_);rintro O _ _ _ Oq r U I h_ ⟨d2,rfl,QD⟩
 cases d2
 ·have QD:¬nQ y2:=fun h=>by have:=QD.2 h;cases this
  exact rtn I fun IR we re=>by show Value.int .i64 _=_;rw[jt,if_pos hh,aH (fun h=>QD h.2.2)]
 replace QD:=QD.1 rfl;exact rtn I fun IR we re=>by show Value.int .i64 _=_;rw[jt,if_pos hh,if_pos ⟨Ov,PF,QD⟩]
theorem Br{n:Nat}(X:Old S w)(hl:jA w S vl l):eI PG F'.lk #[vl,.int .i64 n] w (eO w fun v' _=>v'= .int .i64 (tL n l)):=by
 have I:=bR w;obtain⟨al,cl,rfl,Pu,RM⟩:=hl.shape;unfold maxLen at RM;refine pX (by simp) ?_;refine dQ.mk ?_ ?_<;>intro L
 ·have L:=aK L;exact rtn I fun IR we re=>by show Value.int .i64 _=_;rw[tL,if_pos (by omega)]
 have L:=aG L
 refine⟨Nat×World×Iv,fun z=>⟨[(1,iZ n),(11,sV al l.length cl),(12,iZ l.length),(13,iN z.1)],[],0,z.2.2,z.2.1⟩,fun z=>l.length-z.1,
  fun z=>z.1<=l.length/\dw w.heap.size w z.2.1/\tL n l=fH (fun _=>jt n) (l.take z.1) (l.drop z.1),?_,?_⟩
 ·intro O J E;exact⟨(0,J,[]),⟨aQ _,I.tr E.cU,by rw[tL,aH (by omega)];rfl⟩,Sub.gn [] E⟩
 rintro⟨i,w1,iv⟩ ⟨A,I,hE⟩;dsimp only at A I hE ⊢;refine dQ.mk ?_ ?_<;>intro OZ
 ·have OZ:i<l.length:=by simpa using OZ
  obtain⟨x,F⟩:∃x,l[i]? =some x:=⟨_,aA OZ⟩
  obtain⟨adx,W,QE,hP,-,PU⟩:=hl.load (by decide) F;have hP:W=[.int .i64 x.1,.int .i64 x.2.1,.int .i64 x.2.2.1,.int .i64 x.2.2.2]:=hP;subst hP;refine⟨adx,QE,by omega,[.int .i64 x.1,.int .i64 x.2.1,.int .i64 x.2.2.1,.int .i64 x.2.2.2],rfl,rdO PU I X,?_⟩;refine cJ (cE I (fun _ J v V=>v= .int .i64 (jt n x)) (fun O J r=>EV _ _ _ _ n J) ?_);rintro O _ _ _ Oo r U I h_ rfl;obtain⟨c,hc⟩:∃c,jt n x=c:=⟨_,rfl⟩
  rw[hc];refine dQ.mk ?_ ?_<;>intro hd
  ·have hd:c≠0:=by simpa using hd
   exact rtn I fun IR we re=>by show Value.int .i64 _=_;rw[hE,cX F hc hd]
  have hd:c=0:=by simpa using hd
  rw[hd]at hc;rw[gp F hc]at hE;refine⟨((i+1:Nat):Int),wo,?_⟩;intro GT w6 E;exact⟨(i+1,w6,_),⟨OZ,I.tr E.cU,hE⟩,Sub.gn [] E,by dsimp only;omega⟩
 have OZ:i=l.length:=aR A (by simpa using OZ);rw[jS (by omega)]at hE;exact rtn I fun IR we re=>by show Value.int .i64 _=_;rw[hE]
end Go.Ex
