/- Texts L43 to X144: lemmas, each with its conditions. -/
import Derived.Test.YtgkpbdkechfgmaaGreatP12
set_option maxHeartbeats 2000000
namespace Go.Ex
variable{FS M:List (List Rat)}{pv:List Nat}{B j:Nat}{v:Nat->Rat}
theorem Eh(f:Nat->Rat):∀n,dC f n=kz (List.range n) f
 |0=>rfl
 |n+1=>by
  rw[dC,Eh f n,bU,zY];show _=_+(_+0)
  rw[bV]
theorem Ei(g:Nat->Rat):∀l:List Nat,kz l g=dC (fun k=>g (l.getD k 0)) l.length
 |[]=>rfl
 |t::l=>by
  rw[bg,kE];show g t+kz l g=g t+_;rw[Ei g l];rfl
def mulR(M:List (List Rat))(n:Nat)(x:Nat->Rat)(j:Nat):Rat:=dC (fun t=>dF M j t*x t) n
theorem ef.dot{F':Mx}{r n:Nat}(h:ef F' r n v):∃c:Nat->Rat,(∀t,t<n->v t=dC (fun i=>c i*F' i t) r)/\∀x:Nat->Rat,dC (fun t=>v t*x t) n=dC (fun i=>c i*dC (fun t=>F' i t*x t) n) r:=by
 obtain⟨c,hc⟩:=h;refine⟨c,hc,fun x=>?_⟩;rw[cT (g:=fun t=>dC (fun i=>c i*F' i t*x t) r) fun t ht=>by rw[hc t ht,<-jT],k8];exact cT fun i _=>by rw[<-ec];exact cT fun t _=>Rat.mul_assoc _ _ _
section
variable{M:List (List Rat)}{n:Nat}{x:Nat->Rat}{b:List Rat}
theorem Oj(hM:fz n M)(h:∀j,j<M.length->mulR M n x j=0){c:Nat}(hc:c<=n):∀i,i<M.length->mulR (cW M c).1 n x i=0:=fun i D=>by
 obtain⟨c,_,G⟩:=((kF hM c hc).1 i D).dot;unfold mulR;rw[G x,cT (g:=fun _=>0) fun j hj=>by rw[show dC (fun t=>dF M j t*x t) n=0 from h j hj,bF],df]
theorem Hw(hM:fz n M){c:Nat}(hc:c<=n)(h:∀i,i<M.length->mulR (cW M c).1 n x i=0):∀j,j<M.length->mulR M n x j=0:=fun j hj=>by
 obtain⟨c,_,G⟩:=((kF hM c hc).2 j hj).dot;unfold mulR;rw[G x,cT (g:=fun _=>0) fun i D=>by rw[show dC (fun t=>dF (cW M _).1 i t*x t) n=0 from h i D,bF],df]
theorem lG(hM:fz n M){t:Nat}(hj:j<M.length):(t<n->dF (eU M b) j t=dF M j t)/\dF (eU M b) j n=b.getD j 0:=by
 have hr:=aD hj;have hl:(M[j]).length=n:=hM _ (bA hj);have e:(eU M b).getD j []=M[j]++[b.getD j 0]:=by rw[eU,List.getD,List.getElem?_mapIdx,hr];rfl
 have e2:M.getD j []=M[j]:=by rw[List.getD,hr];rfl
 refine⟨fun ht=>?_,?_⟩
 .rw[dF,dF,e,e2,List.getD,aI be,<-List.getD]
 .rw[dF,e,List.getD,aN be,hl,bO];rfl
def Hx(x:Nat->Rat)(n t:Nat):Rat:=if t<n then x t else -1
theorem Jr(hM:fz n M)(hj:j<M.length):mulR (eU M b) (n+1) (Hx x n) j=mulR M n x j-b.getD j 0:=by
 have h:=fun t=>lG (b:=b) (t:=t) hM hj;unfold mulR;rw[dC,(h 0).2,show Hx x n n= -1 by unfold Hx;rw[aJ (Nat.lt_irrefl n)],cT (g:=fun t=>dF M j t*x t) fun t ht=>by rw[(h t).1 ht];unfold Hx;rw[aM ht]];grind
def iB(M:List (List Rat))(b:List Rat)(n:Nat):Option (List Rat):=
 let e:=cW (eU M b) n
 if ∀j,j<M.length->e.2.length<=j->dF e.1 j n=0 then some (iU e.1 e.2 n e.2.length)else none
theorem my{x:List Rat}(hM:fz n M)(h:iB M b n=some x):x.length=n/\∀j,j<M.length->mulR M n (fun t=>x.getD t 0) j=b.getD j 0:=by
 unfold iB at h;dsimp only at h;split at h
 .rename_i h0;injection h with h;have hW:=j4 (b:=b) hM;obtain⟨r1,r2,R,r4,r5⟩:=di hW n (Nat.le_succ n);have R6:=jD (eU M b) n;have Vz:=fH (M:=M) (b:=b);have hl:=eC (eU M b) n;have QM:x.length=n:=by rw[<-h,lN]
  have SC:∀j,j<(cW (eU M b) n).2.length->x.getD ((cW (eU M b) n).2.getD j 0) 0=dF (cW (eU M b) n).1 j n:=fun j hj=>by
   rw[<-h];exact po (Do:=iU (cW (eU M b) n).1 (cW (eU M b) n).2 n) (f:=fun i=>dF (cW (eU M b) n).1 i n) (fun i=>ir _ _ n i) (lN _ _ n) R6.2.1 r4 _ (aP _) hj
  have QH:∀t,t∉(cW (eU M b) n).2->x.getD t 0=0:=fun t ht=>by rw[<-h];exact wQ ht
  refine⟨QM,fun j hj=>?_⟩;have key:=Hw (M:=eU M b) (x:=Hx (fun t=>x.getD t 0) n) hW (c:=n) (Nat.le_succ n) (fun i D=>?_) j (by rw[Vz];exact hj)
  .rw[Jr hM hj]at key;grind
  .unfold mulR;rw[dC,show Hx (fun t=>x.getD t 0) n n= -1 by unfold Hx;rw[aJ (Nat.lt_irrefl n)],cT (g:=fun t=>dF (cW (eU M b) n).1 i t*x.getD t 0) fun t ht=>by unfold Hx;rw[aM ht]];rcases aS i (cW (eU M b) n).2.length with I|I
   .rw[ed (i:=(cW (eU M b) n).2.getD i 0) (r4 _ (by rw[List.getD,aD I];exact bA _)) fun t ht Ox=>?_,r5 i i I be,aM rfl,SC i I]
    .grind
    .by_cases hp:t∈(cW (eU M b) n).2
     .obtain⟨k,K,rfl⟩:=uj hp;rw[r5 k i K be,aJ (fun e=>Ox (by rw[e])),bI]
     .rw[QH t hp,bF]
   .rw[cT (g:=fun _=>0) fun t ht=>by rw[R i t I be ht,bI],df,h0 i (by rw[<-Vz];exact D) I];grind
 .cases h
theorem qB(hM:fz n M)(h:iB M b n=none):∃y:Nat->Rat,(∀t,t<n->dC (fun j=>y j*dF M j t) M.length=0)/\dC (fun j=>y j*b.getD j 0) M.length≠0:=by
 unfold iB at h;dsimp only at h;split at h
 .cases h
 .rename_i h0;obtain⟨i,D,I,G⟩:∃i,i<M.length/\(cW (eU M b) n).2.length<=i/\dF (cW (eU M b) n).1 i n≠0:=by
   refine Decidable.byContradiction fun S2=>h0 fun j hj hr=>Decidable.byContradiction fun G=>S2 ⟨j,hj,hr,G⟩
  have hW:=j4 (b:=b) hM;have Vz:=fH (M:=M) (b:=b);have hl:=eC (eU M b) n;obtain⟨r1,r2,R,r4,r5⟩:=di hW n (Nat.le_succ n);obtain⟨y,hy⟩:=(kF hW n (Nat.le_succ n)).1 i be;rw[Vz]at hy;refine⟨y,fun t ht=>?_,?_⟩
  .have h3:=hy t be;rw[R i t I be ht]at h3;rw[h3];exact cT fun j hj=>by rw[(lG (b:=b) hM hj).1 ht]
  .have h3:=hy n be;rw[cT (g:=fun j=>y j*b.getD j 0) fun j hj=>by rw[(lG (b:=b) (t:=n) hM hj).2]]at h3;rw[<-h3];exact G
theorem Ej{x:Nat->Rat}(hM:fz n M)(h:∀j,j<M.length->mulR M n x j=b.getD j 0):∃z,iB M b n=some z:=by
 cases e:iB M b n with
 |some z=>exact⟨z,rfl⟩
 |none=>
  obtain⟨y,I,G⟩:=qB hM e;refine absurd ?_ G;rw[cT fun j hj=>by rw[<-h j hj,mulR,<-ec],k8,cT (g:=fun _=>0) fun t ht=>?_,df];rw[cT (g:=fun j=>y j*dF M j t*x t) fun j _=>(Rat.mul_assoc _ _ _).symm,jT,I t ht,bI]
theorem Ok(M:List (List Rat))(n:Nat)(x y:Nat->Rat)(j:Nat):mulR M n (fun t=>x t-y t) j=mulR M n x j-mulR M n y j:=by
 unfold mulR;rw[<-ow];exact cT fun t _=>by grind
theorem wX(M:List (List Rat))(b:List Rat):ku M b=eU M b:=rfl
theorem Hy{r i t:Nat}(h:i<r):dF (FS.take r) i t=dF FS i t:=by
 rw[dF,dF,show(FS.take r).getD i []=FS.getD i [] by rw[List.getD,bo h,<-List.getD]]
theorem z6(FS:List (List Rat))(pv:List Nat)(n:Nat):∀k,k<=pv.length->iU (FS.take pv.length) pv n k=iU FS pv n k
 |0,_=>rfl
 |k+1,h=>by rw[ir,ir,z6 FS pv n k be,Hy be]
theorem z7(FS:List (List Rat))(pv:List Nat)(n c:Nat):∀k,k<=pv.length->gj (FS.take pv.length) pv n c k=gj FS pv n c k
 |0,_=>rfl
 |k+1,h=>by rw[iq,iq,z7 FS pv n c k be,Hy be]
abbrev dJ(M:List (List Rat))(n:Nat):List (List Rat):=fF (cW M n).1 (cW M n).2 n n
theorem Js(hM:fz n M)(hW:GA M n B):mT M n=dJ M n:=by
 obtain⟨e1,e2⟩:=mw hM hW;unfold mT dJ fF;rw[e1,e2];exact List.map_congr_left fun c _=>z7 _ _ n c _ (aP _)
theorem yW(hM:fz n M)(hW:GA (eU M b) (n+1) B):qA M b n=iB M b n:=by
 have hWl:=j4 (b:=b) hM;obtain⟨e1,e2⟩:=mw hWl hW;have hl:=eC (eU M b) n;have Vz:=fH (M:=M) (b:=b);obtain⟨r1,r2,R,r4,r5⟩:=di hWl n (Nat.le_succ n);have e:cW (eU M b) (n+1)=dy (cW (eU M b) n) n:=by
  unfold cW;rw[bU,List.foldl_append];rfl
 unfold qA iB;dsimp only
 rcases kL n r2 with⟨k1,k2⟩|⟨k,k1,k2,k3,k4⟩
 .rw[aJ (by rw[wX,e1,e,k1];exact fun h=>by have:=r4 n h;omega),aM fun j hj hr=>k2 j hr be,wX,e1,e2,e,k1,z6 _ _ n _ (aP _)]
 .rw[aM (by rw[wX,e1,e,k4];simp),aJ fun h=>k3 (h k be k1)]
theorem Ol(hM:fz n M){x:List Rat}(h:∀j,j<M.length->mulR M n (fun t=>x.getD t 0) j=0):Diff (cW M n).1 (cW M n).2 n x:=by
 obtain⟨r1,r2,R,r4,r5⟩:=di hM n (aP _);have R6:=jD M n;have hl:=eC M n;refine⟨R6.2.1,r4,r2,r5,fun j hj=>?_⟩;rw[<-Eh];have I:=Oj hM h (aP n) j be;unfold mulR at I;rw[I,dF,List.getD,List.getElem?_eq_none (by rw[r1.getD hj];exact aP _)];rfl
theorem l8(M:List (List Rat))(n:Nat):(dJ M n).length=(jr (cW M n).2 n).length:=by unfold dJ fF;rw[aL]
theorem CJ(M:List (List Rat))(n:Nat){k:Nat}(K:k<(dJ M n).length):(dJ M n).getD k []=gj (cW M n).1 (cW M n).2 n ((jr (cW M n).2 n).getD k 0) (cW M n).2.length:=by
 obtain⟨r,hr⟩:∃r,(dJ M n)[k]? =some r:=⟨_,aD K⟩
 rw[List.getD,hr];exact(pq hr).2
theorem qC(M:List (List Rat))(n:Nat):fz n (dJ M n):=fun r hr=>by
 obtain⟨k,K⟩:=aU hr;rw[(pq K).2,lM]
theorem rh(hM:fz n M){k:Nat}(K:k<(dJ M n).length):∀j,j<M.length->mulR M n (dF (dJ M n) k) j=0:=by
 obtain⟨r1,r2,R,r4,r5⟩:=di hM n (aP _);have R6:=jD M n;have hl:=eC M n;have hf:=mo.1 (rZ (by rw[<-l8];exact K));refine Hw hM (aP n) fun i D=>?_;have Ov:=CJ M n K;generalize hc:(jr (cW M n).2 n).getD k 0=c at hf Ov;have SC:∀j,j<(cW M n).2.length->dF (dJ M n) k ((cW M n).2.getD j 0)= -(dF (cW M n).1 j c):=fun j hj=>by
  rw[dF,Ov];exact po (Do:=gj (cW M n).1 (cW M n).2 n c) (f:=fun i=> -(dF (cW M n).1 i c)) (fun i=>iq _ _ n c i) (lM _ _ n c) R6.2.1 r4 _ (aP _) hj
 have QH:∀t,t∉(cW M n).2->dF (dJ M n) k t=if t=c then 1 else 0:=fun t ht=>by rw[dF,Ov];exact rY ht hf.1
 unfold mulR;rcases aS i (cW M n).2.length with I|I
 .have hpi:(cW M n).2.getD i 0∈(cW M n).2:=by rw[List.getD,aD I];exact bA _
  have Ox:(cW M n).2.getD i 0≠c:=fun e=>hf.2 (e▸hpi);have e:dC (fun t=>dF (cW M n).1 i t*dF (dJ M n) k t) n=dC (fun t=>(if t=(cW M n).2.getD i 0 then -(dF (cW M n).1 i c)else 0)+(if t=c then dF (cW M n).1 i c else 0)) n:=by
   refine cT fun t ht=>?_;by_cases hp:t∈(cW M n).2
   .obtain⟨j,hj,rfl⟩:=uj hp;rw[SC j hj,r5 j i hj be,aJ (show ¬(cW M n).2.getD j 0=c from fun e=>hf.2 (e▸hp)),bV];by_cases Py:i=j
    .rw[aM Py,aM (by rw[Py]),Py,bs]
    .have hne2:(cW M n).2.getD j 0≠(cW M n).2.getD i 0:=fun e2=>Py (by
      rcases cH i j with h5|h5|h5
      .have:(cW M n).2.getD i 0<(cW M n).2.getD j 0:=OQ R6.2.1 h5 hj;omega
      .exact h5
      .have:(cW M n).2.getD j 0<(cW M n).2.getD i 0:=OQ R6.2.1 h5 I
       omega)
     rw[aJ Py,aJ hne2,bI]
   .rw[QH t hp,aJ (show ¬t=(cW M n).2.getD i 0 from fun e2=>hp (e2▸hpi)),Rat.zero_add];by_cases htc:t=c
    .rw[aM htc,aM htc,htc,Rat.mul_one]
    .rw[aJ htc,aJ htc,bF]
  rw[e,fg,ed (i:=(cW M n).2.getD i 0) (r4 _ hpi) fun t _ Ox=>aJ Ox,ed (i:=c) hf.1 fun t _ Ox=>aJ Ox,aM rfl,aM rfl];grind
 .rw[cT (g:=fun _=>0) fun t ht=>by rw[R i t I be ht,bI],df]
theorem LW(hM:fz n M)(h:∀j,j<M.length->mulR M n x j=0):∃c:Nat->Rat,∀t,t<n->x t=dC (fun k=>c k*dF (dJ M n) k t) (dJ M n).length:=by
 obtain⟨l,hl⟩:∃l,l=(List.range n).map x:=⟨_,rfl⟩
 have U:∀t,t<n->l.getD t 0=x t:=fun t ht=>by rw[hl,List.getD,aO,bY ht];rfl
 have hd:=Ol (x:=l) hM fun j hj=>Eq.trans (cT fun t ht=>congrArg (dF M j t* ·) (U t ht)) (h j hj);refine⟨fun k=>l.getD ((jr (cW M n).2 n).getD k 0) 0,fun t ht=>?_⟩;have I:=hd.rest ht;obtain⟨r1,r2,R,r4,r5⟩:=di hM n (aP _);have h0:(iU (cW M n).1 (cW M n).2 n (cW M n).2.length).getD t 0=0:=by
  by_cases hp:t∈(cW M n).2
  .obtain⟨j,hj,rfl⟩:=uj hp;rw[hd.xin hj,dF,List.getD,List.getElem?_eq_none (by rw[r1.getD be];exact aP _)];rfl
  .exact wQ hp
 rw[h0,bI,bV,U t ht,Ei]at I;rw[I,l8];exact cT fun k K=>by rw[dF,CJ M n (by rw[l8];exact K)]
theorem GB{c:Nat->Rat}(h:∀t,t<n->dC (fun k=>c k*dF (dJ M n) k t) (dJ M n).length=0):∀k,k<(dJ M n).length->c k=0:=fun k K=>by
 have Vv:k<(jr (cW M n).2 n).length:=by rw[<-l8];exact K
 have hf:=mo.1 (rZ Vv);have I:=h _ hf.1;obtain⟨r,hr⟩:∃r,(dJ M n)[k]? =some r:=⟨_,aD K⟩
 rw[ed K fun i D Ox=>?_]at I
 .rw[dF,show(dJ M n).getD k []=r by rw[List.getD,hr];rfl,Br hr hr,aM rfl,Rat.mul_one]at I;exact I
 .obtain⟨s,hs⟩:∃s,(dJ M n)[i]? =some s:=⟨_,aD D⟩
  rw[dF,show(dJ M n).getD i []=s by rw[List.getD,hs];rfl,Br hr hs,aJ Ox,bF]
end
theorem CK(p:Nat->Bool):∀l:List Nat,l.length=(l.filter p).length+(l.filter fun c=> !p c).length
 |[]=>rfl
 |c::l=>by
  have ih:=CK p l;rw[List.filter_cons,List.filter_cons]
  cases p c with
  |true=>simp;omega
  |false=>simp;omega
theorem Om{n:Nat}(W:pv.Nodup)(hl:∀p∈pv,p<n):(jr pv n).length=n-pv.length:=by
 have I:(List.range n).length=((List.range n).filter fun c=>decide (c∉pv)).length+((List.range n).filter fun c=>decide (c∈pv)).length:=by
  refine(CK (fun c=>decide (c∉pv)) (List.range n)).trans ?_;congr 2;refine List.filter_congr fun c _=>?_;by_cases h:c∈pv<;>simp[h]
 have G:((List.range n).filter fun c=>decide (c∈pv)).length=pv.length:=by
  refine(List.Perm.length_eq ?_);refine(List.perm_ext_iff_of_nodup (List.Pairwise.filter _ List.nodup_range) W).2 fun c=>?_;rw[List.mem_filter,List.mem_range,decide_eq_true_eq];exact⟨fun h=>h.2,fun h=>⟨hl c h,h⟩⟩
 rw[List.length_range]at I;unfold jr;omega
theorem uv{n:Nat}(hM:fz n M):(dJ M n).length=n-(cW M n).2.length:=by
 obtain⟨r1,r2,R,r4,r5⟩:=di hM n (aP _);have R6:=jD M n;rw[l8];exact Om (R6.2.1.imp fun h=>Nat.ne_of_lt h) r4
end Go.Ex
namespace Go.Ex
open Go Go.Sx Go.Proofs
variable{after:Array Edge}{z:Int}{p:Int×Int×Rat}{M:List (List Rat)}{A:List (List Value)}{l:List Int}{Z:List Value}{j:Nat}{C S S':Nat->Prop}{guard:Option (Nat×Bool)}{a:Option Addr}{dst:Option Tmp}{GE:SV->Hp->Nat->Iv->World->Prop}{v:Value}{w Y:World}{f:eh}
theorem dD.nil:dD w S nls []:=⟨[],⟨bi,rfl,fun u hu=>absurd hu bv,none,0,rfl,lr,fun j u hu=>absurd hu bv⟩,rfl,fun i u x I G=>absurd G bv⟩
theorem dN.nil:dN w S nls []:=⟨bi,rfl,fun u hu=>absurd hu bv,none,0,rfl,lr,fun j u hu=>absurd hu bv⟩
theorem HB(M:List (List Rat)):(dh M 0).1=[]/\(dh M 0).2.1=[]/\(dh M 0).2.2=[]:=by simp[dh,dW]
theorem HC(M:List (List Rat)):mT M 0=[]:=by simp[mT,fF]
theorem AG(hC:Old C w)(F:Old S w)(hM:mb w C S v M)(hlen:fz 0 M)(hR:M.length<=1000):
  eH PG GT.gJ #[.agg #[v,iV 0],iV 0] w (eR w fun v' Y=>v'= .agg #[nls,iV 0,nls,nls]):=by
 have V:=bR w;obtain⟨am,cm,rfl,SB,Qr⟩:=mb.shape hM;unfold maxLen at Qr;refine kQ bv ?_;refine⟨0,0,rfl,rfl,lr,be,be,World,fun z=>⟨[(1,iZ 0),(2,pP 0 0),(4,pP 1 0),(5,pP 2 0),(6,.o (.s 3 0 0 0)),(27,iZ 0),(28,iZ 0)],[(3,.arr T.int []),(2,.box T.dm [.v nls,.v (iV 0),.v nls,.v nls]),(1,.box T.dm [.v nls,.v (iV 0),.v nls,.v nls]),(0,.box T.eL [.v (.slice am M.length cm),.v (iV 0)])],4,[],z⟩,fun z=>0,fun z=>Bq w z,?_,?_⟩
 .intro O J R;exact⟨J,V.tr R.cZ,sbgn [] R⟩
 rintro w1 V;dsimp only at V ⊢
 refine⟨Nat×World,fun z=>⟨[(38,iN z.1),(1,iZ 0),(2,pP 0 0),(4,pP 1 0),(5,pP 2 0),(6,.o (.s 3 0 0 0)),(36,sV am M.length cm),(37,iZ M.length)],[(3,.arr T.int []),(2,.box T.dm [.v nls,.v (iV 0),.v nls,.v nls]),(1,.box T.dm [.v nls,.v (iV 0),.v nls,.v nls]),(0,.box T.eL [.v (.slice am M.length cm),.v (iV 0)])],5,[],z.2⟩,fun z=>M.length-z.1,
  fun z=>z.1<=M.length/\Bq w z.2,?_,?_⟩
 .intro O J R;exact⟨(0,J),⟨aR _,V.tr R.cZ⟩,sbgn [] R⟩
 rintro⟨i,w1⟩ ⟨D,V⟩;dsimp only at D V ⊢;apply bS<;>intro Ou
 .have Ou:=dL Ou;obtain⟨x,U⟩:=gO M i;have QM:=hlen x (aC U);obtain rfl:=List.eq_nil_of_length_eq_zero QM;obtain⟨adm,um,S7,QZ,km1,km2⟩:=mb.load hM U;obtain⟨A,⟨-,g1,g2,a0,c0,rfl,g4,g5⟩,QW,VU,PT⟩:=QZ;obtain rfl:=List.eq_nil_of_length_eq_zero QW;refine⟨adm,S7,be,.slice a0 0 c0,rd1 km2 V (hC _ km1),?_⟩;refine .inl ?_;refine⟨[],rfl,g2,fun O J r Ph=>absurd Ph bv,rfl,be,mx,World,fun z=>⟨[(9,.o (.w 6 0)),(46,iZ 0),(47,iZ 0),(2,pP 0 0),(4,pP 1 0),(5,pP 2 0),(6,.o (.s 3 0 0 0)),(8,iN i),(36,sV am M.length cm),(37,iZ M.length),(38,iN i),(1,iZ 0)],[(6,.vec T.Rat 4 []),(3,.arr T.int []),(2,.box T.dm [.v nls,.v (iV 0),.v nls,.v nls]),(1,.box T.dm [.v nls,.v (iV 0),.v nls,.v nls]),(0,.box T.eL [.v (.slice am M.length cm),.v (iV 0)])],7,[],z⟩,fun z=>0,fun z=>Bq w z,?_,?_⟩
  .intro O J R;exact⟨J,V.tr R.cZ,sbgn [] R⟩
  rintro w1 V;dsimp only at V ⊢;refine⟨World,fun z=>⟨[(9,.o (.w 6 0)),(12,iZ 0),(2,pP 0 0),(4,pP 1 0),(5,pP 2 0),(6,.o (.s 3 0 0 0)),(8,iN i),(36,sV am M.length cm),(37,iZ M.length),(38,iN i),(1,iZ 0)],[(6,.vec T.Rat 4 []),(3,.arr T.int []),(2,.box T.dm [.v nls,.v (iV 0),.v nls,.v nls]),(1,.box T.dm [.v nls,.v (iV 0),.v nls,.v nls]),(0,.box T.eL [.v (.slice am M.length cm),.v (iV 0)])],7,[],z⟩,fun z=>0,fun z=>Bq w z,?_,?_⟩
  .intro O J R;exact⟨J,V.tr R.cZ,sbgn [] R⟩
  rintro w1 V;dsimp only at V ⊢;refine inc i ?_;intro I' w3 R;exact⟨(i+1,w3),⟨Ou,V.tr R.cZ⟩,sbgn [] R,dec Ou⟩
 refine⟨World,fun z=>⟨[(4,pP 1 0),(5,pP 2 0),(17,pP 5 0),(159,.o (.s 3 0 0 0)),(160,iZ 0),(161,iZ 0)],[(5,.box T.dm [.v nls,.v (iV 0),.v nls,.v nls]),(3,.arr T.int []),(2,.box T.dm [.v nls,.v (iV 0),.v nls,.v nls]),(1,.box T.dm [.v nls,.v (iV 0),.v nls,.v nls]),(0,.box T.eL [.v (.slice am M.length cm),.v (iV 0)])],6,[],z⟩,fun z=>0,fun z=>Bq w z,?_,?_⟩
 .intro O J R;exact⟨J,V.tr R.cZ,sbgn [] R⟩
 rintro w1 V;dsimp only at V ⊢;exact rtn V fun J8 we re=>rfl
theorem Kn(hC:Old C w)(F:Old S w)(hM:mb w C S v M)(hlen:fz 0 M)(hR:M.length<=1000):
  eH PG GT.gJ #[.agg #[v,iV 0],iV 0] w (eR w fun v' Y=>∃vr vp vf,v'= .agg #[vr,iV 0,vp,vf]/\dD Y (Nw S w Y) vr (dh M 0).1/\dN Y (Nf w Y) vp (dh M 0).2.1/\dN Y (Nf w Y) vf (dh M 0).2.2):=by
 refine(AG hC F hM hlen hR).mono fun v1 w1 I=>?_;obtain⟨_,e,hb,rfl⟩:=I;obtain⟨e1,e2,e3⟩:=HB M;rw[e1,e2,e3];exact⟨_,e,hb,_,_,_,rfl,dD.nil,dN.nil,dN.nil⟩
theorem DZ{n h:Nat}(hC:Old C w)(F:Old S w)(hM:mb w C S v M)(hlen:fz n M)(hR:M.length<=1000)(W:n<=1000)(hB:Gn M n h)(hh:3*h<=90000):
  eH PG GT.gJ #[.agg #[v,iV n],iV n] w (eR w fun v' Y=>∃vr vp vf,v'= .agg #[vr,iV n,vp,vf]/\dD Y (Nw S w Y) vr (dh M n).1/\dN Y (Nf w Y) vp (dh M n).2.1/\dN Y (Nf w Y) vf (dh M n).2.2):=by
 rcases bZ n with h0|h0
 .subst h0;exact Kn hC F hM hlen hR
 .exact zH hC F hM hlen h0 W hR lr hB hh
theorem Ko(hC:Old C w)(F:Old S w)(hM:mb w C S v M)(hlen:fz 0 M)(hR:M.length<=1000):
  eH PG GT.iI #[.agg #[v,iV 0]] w (eR w fun v' Y=>dD Y (Nf w Y) v' (mT M 0)):=by
 have V:=bR w;obtain⟨am,cm,rfl,SB,Qr⟩:=mb.shape hM;unfold maxLen at Qr;refine kP bv ?_
 refine cQ (cU (J9:=fun _ J v Y=>v= .agg #[nls,iV 0,nls,nls]) (fun O J r=>by
  obtain⟨rv,m1,m2,m3⟩:=hM
  exact AG (C:=C) (S:=S) (oS hC r) (oS F r) ⟨rv,m1.cR fun g X=>(V.tr r.cZ).block g (hC g X),m2,fun i u x I G=>cX.cR (m3 i u x I G) fun g X=>(V.tr r.cZ).block g (F g X)⟩ hlen hR) ?_)
 rintro O Pw v1 Pa r L PE rfl;replace V:=V.tr PE;generalize (Pw.heap.size,Pa.heap.size)::[]=PA at*
 refine⟨0,0,rfl,rfl,lr,be,be,World×Iv,fun z=>⟨[(1,pP 0 0),(3,pP 1 0),(4,.o (.s 2 0 0 0)),(20,sV none 0 0),(21,iZ 0),(22,iZ 0)],[(2,.arr T.bool []),(1,.box T.dm [.v nls,.v (iV 0),.v nls,.v nls]),(0,.box T.eL [.v (.slice am M.length cm),.v (iV 0)])],3,z.2,z.1⟩,fun z=>0,fun z=>Bq w z.1,?_,?_⟩
 .intro O J R;exact⟨(J,_),V.tr R.cZ,sbgn [] R⟩
 rintro⟨w1,iv⟩ V;dsimp only at V ⊢;refine⟨World×Iv,fun z=>⟨[(32,iZ 0),(7,sV none 0 0),(1,pP 0 0),(3,pP 1 0),(4,.o (.s 2 0 0 0)),(31,iZ 0)],[(2,.arr T.bool []),(1,.box T.dm [.v nls,.v (iV 0),.v nls,.v nls]),(0,.box T.eL [.v (.slice am M.length cm),.v (iV 0)])],3,z.2,z.1⟩,fun z=>0,fun z=>Bq w z.1,?_,?_⟩
 .intro O J R;exact⟨(J,_),V.tr R.cZ,sbgn [] R⟩
 rintro⟨w1,iv⟩ V;dsimp only at V ⊢;intro J8 we re;rw[HC];exact⟨_,rfl,V.tr re.cZ,dD.nil⟩
theorem Kp{n h:Nat}(hC:Old C w)(F:Old S w)(hM:mb w C S v M)(hlen:fz n M)(hR:M.length<=1000)(W:n<=1000)(hB:Gn M n h)(hAb:Ht (dh M n).1 h)(hh:3*h<=90000):
  eH PG GT.iI #[.agg #[v,iV n]] w (eR w fun v' Y=>dD Y (Nf w Y) v' (mT M n)):=by
 rcases bZ n with h0|h0
 .subst h0;exact Ko hC F hM hlen hR
 .exact NR hC F hM hlen h0 W hR hB hAb hh
theorem zI{k:Nat}(h:∀Z∈A,Z.length=k):A.flatten.length=A.length*k:=by
 induction A with
 |nil=>simp
 |cons c r ih=>rw[List.flatten_cons,aQ,h c aH,ih fun x U=>h x (aB _ U),bg,Nat.succ_mul];omega
theorem zJ{k:Nat}(h:∀Z∈A,Z.length=k)(hj:A[j]? =some Z)(i:Nat)(u:Value)(hu:Z[i]? =some u):A.flatten[j*k+i]? =some u:=by
 induction A generalizing j with
 |nil=>cases hj
 |cons c r ih=>
  have hc:=h c aH;have D:=(aE.1 hu).1
  cases j with
  |zero=>
   injection hj with hj;subst hj;rw[List.flatten_cons,Nat.zero_mul,aW,aI D];exact hu
  |succ j=>
   rw[List.flatten_cons,aN (by rw[hc,Nat.succ_mul];omega),hc,show(j+1)*k+i-k=j*k+i by rw[Nat.succ_mul];omega];exact ih (fun x U=>h x (aB _ U)) hj
def fW{α:Type}(k:Nat)(P:World->(Nat->Prop)->List Value->α->Prop)(w:World)(S:Nat->Prop)(v:Value)(xs:List α):Prop:=
 ∃A:List (List Value),j1 w S k v A.flatten xs.length/\A.length=xs.length/\(∀Z∈A,Z.length=k)/\∀(j:Nat) Z x,A[j]? =some Z->xs[j]? =some x->P w S Z x
section
variable{α:Type}{k:Nat}{P:World->(Nat->Prop)->List Value->α->Prop}{w Y:World}{S S':Nat->Prop}{v:Value}{xs:List α}
theorem fW.cR(hP:∀Z x,P w S Z x->P Y S Z x)(h:fW k P w S v xs)(K:∀g,S g->Y.heap[g]? =w.heap[g]?):fW k P Y S v xs:=by
 obtain⟨A,I,G,h3,h4⟩:=h;exact⟨A,I.cR K,G,h3,fun j Z x k1 k2=>hP Z x (h4 j Z x k1 k2)⟩
theorem fW.cP(hP:∀Z x,P w S Z x->P w S' Z x)(h:fW k P w S v xs)(K:∀g,S g->S' g):fW k P w S' v xs:=by
 obtain⟨A,I,G,h3,h4⟩:=h;exact⟨A,I.cP K,G,h3,fun j Z x k1 k2=>hP Z x (h4 j Z x k1 k2)⟩
theorem fW.shape(h:fW k P w S v xs):∃a c,v= .slice a xs.length c/\xs.length<=c/\xs.length<=maxLen:=by
 obtain⟨A,⟨h0,_,_,a,c,I,G,_⟩,_⟩:=h;exact⟨a,c,I,G,h0⟩
theorem fW.load{m c:Nat}{x:α}(K:0<k)(h:fW k P w S (.slice a m c) xs)(hq:xs[j]? =some x):
  ∃ad Z,a=some ad/\P w S Z x/\Z.length=k/\∀i u,Z[i]? =some u->S ad.block/\w.cell? ((ad.add (j*k)).add i)=some u:=by
 obtain⟨A,⟨h0,I,G,a',c',e,h3,h4⟩,hl,VN,hf⟩:=h;injection e with e1 e2 e3;subst e1;obtain⟨Z,PT⟩:∃Z,A[j]? =some Z:=⟨_,aD (by rw[hl];exact(aE.1 hq).1)⟩
 have hl:=VN Z (aC PT);obtain⟨ad,k1,k2,k3⟩:=h4 (j*k+0) _ (zJ VN PT 0 _ (aD (show 0<Z.length by omega)));refine⟨ad,Z,k1,hf j Z x PT hq,hl,fun i u hu=>?_⟩;obtain⟨ad2,m1,m2,m3⟩:=h4 (j*k+i) u (zJ VN PT i u hu);rw[k1]at m1;injection m1 with m1;subst m1;refine⟨m2,?_⟩;rw[<-m3];have:(ad.add (j*k)).add i=ad.add (j*k+i):=by
  unfold Addr.add;split<;>split<;>simp_all<;>omega
 rw[this]
end
def MB(_w:World)(_S:Nat->Prop)(Z:List Value)(p:Int×Int×Int):Prop:=Z=[iV p.1,iV p.2.1,iV p.2.2]
def aDd(_w:World)(_S:Nat->Prop)(Z:List Value)(p:Ld):Prop:=Z=[iV p.1,iV p.2.1,iV p.2.2.1,iV p.2.2.2]
def Gr(w:World)(S:Nat->Prop)(Z:List Value)(p:Int×Int×Rat):Prop:=∃b a n c b2 a2 n2 c2,Z=[iV p.1,iV p.2.1,.bool b,.slice a n c,.bool b2,.slice a2 n2 c2]/\e9 w S (.agg #[.bool b,.slice a n c,.bool b2,.slice a2 n2 c2]) p.2.2
theorem Gr.cR(h:Gr w S Z p)(K:∀g,S g->Y.heap[g]? =w.heap[g]?):Gr Y S Z p:=by
 obtain⟨b,a,n,c,b2,a2,n2,c2,I,G⟩:=h;exact⟨b,a,n,c,b2,a2,n2,c2,I,G.cR K⟩
theorem Gr.cP(h:Gr w S Z p)(K:∀g,S g->S' g):Gr w S' Z p:=by
 obtain⟨b,a,n,c,b2,a2,n2,c2,I,G⟩:=h;exact⟨b,a,n,c,b2,a2,n2,c2,I,G.cP K⟩
abbrev o8:=fW 3 MB
abbrev o9:=fW 4 aDd
abbrev aAg:=fW 6 Gr
structure dw(w:World)(S:Nat->Prop)(vn vb vs:Value)(f:eh):Prop where
 nodes:o8 w S vn f.nodes
 bars:aAg w S vb f.bars
 dB:aAg w S vs f.dB
section
variable{S S':Nat->Prop}{H:Hp}{nx:Nat}{iv N:Iv}{B:Nat}{w J Y:World}{O:Nat->Sx.eG}{v vn vb vs:Value}{f:eh}{l:List Ld}
theorem o9.cR(h:o9 w S v l)(K:∀g,S g->Y.heap[g]? =w.heap[g]?):o9 Y S v l:=fW.cR (w:=w) (fun _ _ h=>h) h K
theorem dw.cR(h:dw w S vn vb vs f)(K:∀g,S g->Y.heap[g]? =w.heap[g]?):dw Y S vn vb vs f:=
 ⟨fW.cR (w:=w) (fun _ _ h=>h) h.nodes K,fW.cR (fun _ _ h=>h.cR K) h.bars K,fW.cR (fun _ _ h=>h.cR K) h.dB K⟩
theorem dw.cP(h:dw w S vn vb vs f)(K:∀g,S g->S' g):dw w S' vn vb vs f:=
 ⟨fW.cP (S:=S) (fun _ _ h=>h) h.nodes K,fW.cP (fun _ _ h=>h.cP K) h.bars K,fW.cP (fun _ _ h=>h.cP K) h.dB K⟩
theorem dw.rel(h:dw w (Cv S B iv) vn vb vs f)(r:Rel H nx iv B w O J)(F:∀g,S g->g<B):dw J (Cv S B iv) vn vb vs f:=h.cR fun _ X=>rls r F X
theorem dw.shape(h:dw w S vn vb vs f):∃an cn ab cb aq Z,vn= .slice an f.nodes.length cn/\vb= .slice ab f.bars.length cb/\vs= .slice aq f.dB.length Z/\f.nodes.length<=maxLen/\f.bars.length<=maxLen/\f.dB.length<=maxLen:=by
 obtain⟨an,cn,I,_,G⟩:=h.nodes.shape;obtain⟨ab,cb,h3,_,h4⟩:=h.bars.shape;obtain⟨aq,Z,h5,_,h6⟩:=h.dB.shape;exact⟨an,cn,ab,cb,aq,Z,I,h3,h5,G,h4,h6⟩
end
theorem DV{P:Program}{τ:og}{B nx:Nat}{l:Env}{H:Hp}{iv:Iv}(hτ:gM P τ){t ty len e sz by_:Nat}{ag:Bool}{ze ze2:List Value}{ik ik2:IntKind}{b2 tag2 al2 e0:Nat}{fs fs2:List (Nat×Nat)}{x i:Operand}{pos:String}{vx:SV}{Z:Array Value}{k:IntKind}{m:Int}{u:Value}
  (ht:τ t=some ⟨sz,ag,by_,ze,6,ik,e,len,fs⟩) (QT:τ e=some ⟨1,false,b2,ze2,tag2,ik2,e0,al2,fs2⟩) (U:ev l x=some vx) (WL:∀O,vx.den O= .agg Z) (D:ev l i=some (.o (.v (.int k m)))) (hm:0<=m/\m<len) (hc:Z[m.toNat]? =some u)
  (hK:∀O J,Rel H nx iv B w O J->GE (.o (.v u)) H nx iv J):B1 P B ⟨dst,.index t x i,ty,pos,after,guard⟩ l H nx iv w GE:=by
 have hto:=(hτ t _ ht).i6 rfl;have Sp:=hτ e _ QT;refine Jf hto (fun w=>Sp.sizeOf w) (fun w j v hv=>?_) U WL D hm hc hK;simp[part,Sp.isAgg,hv]
structure im(w:World)(B:Nat)(iv:Iv)(rv:List Value)(n:Nat)(M:List (List Int)):Prop where
 len:rv.length=M.length
 wid:∀l∈M,l.length=n
 row:∀(i:Nat) v l,rv[i]? =some v->M[i]? =some l->w.ownsRow 0 T.int 1 v n (l.map fun z=>iV z)
 uR:∀(i j:Nat) a b g,rv[i]? =some a->rv[j]? =some b->a.ownBlock=some g->b.ownBlock=some g->i=j
 new:∀g,Ob rv g->Cv FF B iv g
section
variable{H:Hp}{nx n:Nat}{iv N:Iv}{B:Nat}{w J Y:World}{O:Nat->Sx.eG}{rv:List Value}{M:List (List Int)}
theorem im.nil:im w B iv [] n []:=⟨rfl,fun l h=>(by cases h),fun i v l h=>(by cases h),fun i j a b g h=>(by cases h),fun g ⟨v,hv,_⟩=>by cases hv⟩
theorem im.cR(h:im w B iv rv n M)(K:∀g,Cv FF B iv g->Y.heap[g]? =w.heap[g]?):im Y B iv rv n M:=
 ⟨h.len,h.wid,fun i v l I G=>ownsRow.cR (h.row i v l I G) fun g X=>K g (h.new g ⟨v,aC I,X⟩),h.uR,h.new⟩
theorem im.rel(h:im w B iv rv n M)(r:Rel H nx iv B w O J):im J B iv rv n M:=h.cR fun _ X=>rls r (dV B) X
theorem im.mono(h:im w B iv rv n M)(hm:∀p,p∈iv->p∈N):im w B N rv n M:=⟨h.len,h.wid,h.row,h.uR,fun g X=>(h.new g X).mono hm⟩
theorem im.cS(h:im w B iv rv n M)(r:Rel H nx iv B w O J)(L:Ext J Y)(hm:∀p,p∈iv->p∈N):im Y B N rv n M:=
 ((h.rel r).cR fun g X=>L.block g (rlo r (dV B) g X)).mono hm
theorem im.form(hM:im w B iv rv n M){i:Nat}(hv:rv[i]? =some v):∃a c,v= .slice a n c:=by
 obtain⟨l,hl⟩:∃l,M[i]? =some l:=⟨_,aD (by rw[<-hM.len];exact(aE.1 hv).1)⟩
 obtain⟨a,c,h,_⟩:=ie (hM.row i v l hv hl);exact⟨a,c,h⟩
theorem im.one(hM:im w B iv rv n M):∀u∈rv,u.oneCell'=true:=fun u hu=>by
 obtain⟨i,D⟩:=aU hu;obtain⟨a,c,rfl⟩:=hM.form D;rfl
theorem im.load(hM:im w B iv rv n M){i k:Nat}{c:Nat}(hv:rv[i]? =some (.slice a n c))(hl:M[i]? =some l)(K:l[k]? =some z):
  ∃ad,a=some ad/\Cv FF B iv ad.block/\w.cell? (ad.add (k*1))=some (iV z):=by
 have h:=hM.row i _ l hv hl;have hlen:=hM.wid l (aC hl);rcases h.2 with⟨_,h0⟩|⟨g,cap,cur,e,_⟩
 .have:=(aE.1 K).1;omega
 .injection e with e;refine⟨⟨g,0,none⟩,e,hM.new g ⟨_,aC hv,by rw[e];rfl⟩,?_⟩;have:=h.cells (g:=g) (by rw[e];rfl) k (iV z) (by rw[aO,K];rfl);rw[aZ];exact this
theorem im.store(hM:im w B iv rv n M)(r:Rel H nx iv B w O J){i k:Nat}{c:Nat}(hv:rv[i]? =some (.slice a n c))(hl:M[i]? =some l)(K:k<n):
  ∃g,a=some ⟨g,0,none⟩/\((⟨g,0,none⟩:Addr).add ((k:Int).toNat*1)).spot=none/\
   (∀j,j<1->(J.cell? (((⟨g,0,none⟩:Addr).add ((k:Int).toNat*1)).add j)).isSome=true/\J.frozen? (((⟨g,0,none⟩:Addr).add ((k:Int).toNat*1)).add j)=false)/\
   (∀id b,dU H id=some b->(O id).nil=false->(O id).g≠((⟨g,0,none⟩:Addr).add ((k:Int).toNat*1)).block)/\
   ∀Y,Y=setCells J ((⟨g,0,none⟩:Addr).add ((k:Int).toNat*1)) [iV z]->im Y B iv rv n (M.set i (l.set k z))/\ju B J Y/\Rel H nx iv B Y O Y/\J.grownBy Y (some g)/\Ob rv g:=by
 have TS:=hM.rel r;have I:=TS.row i _ l hv hl;have hlen:=hM.wid l (aC hl);obtain⟨g,rfl,Oz,Qm,PF,PR⟩:=lZ (nv:=[iV z]) I rfl K rfl bi;have Rg:Ob rv g:=⟨_,aC hv,rfl⟩
 have PU:(⟨g,0,none⟩:Addr).add ((k:Int).toNat*1)=⟨g,k*1,none⟩:=by rw[aF,dX,aW]
 have Qg:=Rel.not r (dV B) (hM.new g Rg);refine⟨g,rfl,by rw[PU],fun j hj=>by rw[PU];exact Oz j hj,fun id b hb W=>by rw[PU];exact Qg id b hb W,fun Y Pf=>?_⟩;rw[PU]at Pf;subst Pf;refine⟨⟨by rw[bj];exact hM.len,fun x U=>?_,fun j v l2 h3 h4=>?_,hM.uR,hM.new⟩,ju.grown PF (fun x e=>by injection e with e;subst e;exact(hM.new g Rg).elim (fun h=>h.elim) fun h=>h.1) r.dA,r.B3 Qg PF,PF,Rg⟩
 .rcases bE U with U|rfl
  .exact hM.wid x U
  .rw[bj];exact hlen
 .by_cases Py:i=j
  .subst Py;rw[hv]at h3;injection h3 with h3;subst h3;rw[aT (by rw[<-hM.len];exact(aE.1 hv).1)]at h4;injection h4 with h4;subst h4;rw[List.map_set,<-gV (by rw[aL];omega)];simp only[aZ]at Qm ⊢;exact Qm
  .rw[aY Py]at h4;refine ownsRow.cR (TS.row j v l2 h3 h4) fun x U=>PF.block x ?_ fun e=>?_
   .exact rlo r (dV B) x (hM.new x ⟨v,aC h3,U⟩)
   .injection e with e;exact Py (hM.uR i j _ v x hv h3 (by rw[<-e];rfl) U)
theorem im.push(hM:im w B iv rv n M){gx:Nat}(Yc:∀g,Cv FF B iv g->g≠gx)(hBx:B<=gx)(hl:l.length=n)(Ov:w.ownsRow 0 T.int 1 (.slice (some ⟨gx,0,none⟩) n n) n (l.map fun z=>iV z)):
  im w B ((gx,gx+1)::iv) (rv++[.slice (some ⟨gx,0,none⟩) n n]) n (M++[l]):=by
 have Rg:∀g,Ob rv g->g≠gx:=fun g X=>Yc g (hM.new g X);have key:∀(k:Nat) v,(rv++[Value.slice (some ⟨gx,0,none⟩) n n])[k]? =some v->(k<rv.length/\rv[k]? =some v)\/(k=rv.length/\v= .slice (some ⟨gx,0,none⟩) n n):=fun k v K=>by
  rcases aS k rv.length with D|D
  .rw[aI D]at K;exact .inl ⟨D,K⟩
  .have Rr:k=rv.length:=by have:=(aE.1 K).1;simp at this;omega
   rw[Rr,aN lr,bO]at K;simp at K;exact .inr ⟨Rr,K.symm⟩
 refine⟨by simp[hM.len],fun x U=>?_,fun i v x I G=>?_,fun i j a b g I G h3 h4=>?_,fun g X=>?_⟩
 .rcases bG.1 U with U|U
  .exact hM.wid x U
  .rw[bK.1 U];exact hl
 .rcases key i v I with⟨D,k1⟩|⟨e1,rfl⟩
  .rw[aI (by rw[<-hM.len];exact D)]at G;exact hM.row i v x k1 G
  .rw[e1,hM.len,aN lr,bO]at G;simp at G;subst G;exact Ov
 .rcases key i a I with⟨_,k1⟩|⟨e1,rfl⟩<;>rcases key j b G with⟨_,k2⟩|⟨e2,rfl⟩
  .exact hM.uR i j a b g k1 k2 h3 h4
  .injection h4 with h4;exact absurd h4.symm (Rg g ⟨a,aC k1,h3⟩)
  .injection h3 with h3;exact absurd h3.symm (Rg g ⟨b,aC k2,h4⟩)
  .rw[e1,e2]
 .rcases Ob.append.1 X with h|h
  .exact(hM.new g h).mono fun p hp=>aB _ hp
  .injection h with h;have h:gx=g:=h;subst h;exact .inr ⟨hBx,_,_,aH,lr,bc _⟩
end
def DW(w:World)(S:Nat->Prop)(v:Value)(l:List Int):Prop:=j1 w S 1 v (l.map fun z=>iV z) l.length
abbrev oe:=dI DW
theorem DW.cR(h:DW w S v l)(K:∀g,S g->Y.heap[g]? =w.heap[g]?):DW Y S v l:=j1.cR h K
theorem DW.cP(h:DW w S v l)(K:∀g,S g->S' g):DW w S' v l:=j1.cP h K
theorem oe.cR{M:List (List Int)}(h:oe w S v M)(K:∀g,S g->Y.heap[g]? =w.heap[g]?):oe Y S v M:=by
 obtain⟨rv,I,G,h3⟩:=h;exact⟨rv,I.cR K,G,fun i u x k1 k2=>(h3 i u x k1 k2).cR K⟩
theorem oe.cP{M:List (List Int)}(h:oe w S v M)(K:∀g,S g->S' g):oe w S' v M:=by
 obtain⟨rv,I,G,h3⟩:=h;exact⟨rv,I.cP K,G,fun i u x k1 k2=>(h3 i u x k1 k2).cP K⟩
theorem DW.at{m c:Nat}(h:DW w S (.slice a m c) l)(hj:l[j]? =some z):∃ad,a=some ad/\S ad.block/\w.cell? (ad.add (j*1))=some (iV z):=by
 obtain⟨h0,I,G,a',c',e,h3,h4⟩:=h;injection e with e1 e2 e3;subst e1;obtain⟨ad,k1,k2,k3⟩:=h4 j (iV z) (by rw[aO,hj];rfl);exact⟨ad,k1,k2,by rw[aZ];exact k3⟩
theorem DW.shape(h:DW w S v l):∃a c,v= .slice a l.length c/\l.length<=c/\l.length<=maxLen:=by
 obtain⟨h0,I,G,a,c,e,h3,h4⟩:=h;exact⟨a,c,e,h3,h0⟩
structure xt(f:eh):Prop where
 co:∀p∈f.nodes,(-1000000<=p.1/\p.1<=1000000)/\(-1000000<=p.2.1/\p.2.1<=1000000)/\(-1000000<=p.2.2/\p.2.2<=1000000)
 IG:∀b∈f.bars,(0<=b.1/\b.1<f.nodes.length)/\(0<=b.2.1/\b.2.1<f.nodes.length)
 sup:∀s∈f.dB,(0<=s.1/\s.1<f.nodes.length)/\(0<=s.2.1/\s.2.1<=2)
 n:f.nodes.length<=20
 b:f.bars.length<=60
 s:f.dB.length<=60
theorem xt.node(h:xt f){i:Int}(h0:0<=i)(I:i<f.nodes.length):∃k:Nat,∃p,i=k/\k<f.nodes.length/\f.nodes[k]? =some p/\f.node i=p/\(-1000000<=p.1/\p.1<=1000000)/\(-1000000<=p.2.1/\p.2.1<=1000000)/\(-1000000<=p.2.2/\p.2.2<=1000000):=by
 obtain⟨k,rfl⟩:=Int.eq_ofNat_of_zero_le h0;have K:k<f.nodes.length:=by omega
 refine⟨k,f.nodes[k],rfl,K,aD K,?_,h.co _ (bA K)⟩;rw[eh.node,aF,List.getD,aD K];rfl
theorem uT{vn vb vs:Value}{a b:Int}{b3 b6:Bool}{a4 a7:Option Addr}{n4 c4 n7 c7:Nat}(F:Old S w)(W:o8 w S vn f.nodes)(Oz:xt f)(hA:0<=a/\a<f.nodes.length)(hB:0<=b/\b<f.nodes.length):
  eH PG GT.nH #[.agg #[vn,vb,vs],.agg #[iV a,iV b,.bool b3,.slice a4 n4 c4,.bool b6,.slice a7 n7 c7]] w (eR w fun v' _=>v'= .agg #[iV ((f.node b).1-(f.node a).1),iV ((f.node b).2.1-(f.node a).2.1),iV ((f.node b).2.2-(f.node a).2.2)]):=by
 have V:=bR w;obtain⟨an,cn,rfl,hcn,R4⟩:=W.shape;unfold maxLen at R4;obtain⟨ka,pa,ea,Up,hpa,WE,⟨_,_⟩,⟨_,_⟩,⟨_,_⟩⟩:=Oz.node hA.1 hA.2;obtain⟨kb,pb,eb,Ow,Ts,So,⟨_,_⟩,⟨_,_⟩,⟨_,_⟩⟩:=Oz.node hB.1 hB.2;obtain⟨ada,csa,haa,hPa,-,Qs⟩:=W.load bi hpa;obtain⟨adb,csb,QV,hPb,-,PW⟩:=W.load bi Ts;have hPa:csa=[iV pa.1,iV pa.2.1,iV pa.2.2]:=hPa;have hPb:csb=[iV pb.1,iV pb.2.1,iV pb.2.2]:=hPb;subst hPa hPb;rw[WE,So];subst ea eb;refine rJ bv ?_;refine jd hτ vC (.x 0 (.x 2 (.x 6 (.x 8 (.ld 1 49200 (.ld 3 49200 (.x 4 (.ld 5 49152 (.ld 7 35840 (.ld 9 35840 (.x 10 (.ld 11 32768 (.two 12 (.x 13 (.x 14 (.x 15 .nil))) 13 (.x 12 (.x 14 (.x 15 .nil)))))))))))))))) d9 d9 ?_;refine⟨ada,haa,be,[iV pa.1,iV pa.2.1,iV pa.2.2],rfl,rdO Qs V F,adb,QV,be,[iV pb.1,iV pb.2.1,iV pb.2.2],rfl,rdO PW V F,?_,?_⟩
 .refine⟨[iV pb.1,iV pb.2.1,iV pb.2.2],rfl,rdO PW V F,rfl,rfl,rfl,[iV pa.1,iV pa.2.1,iV pa.2.2],rfl,rdO Qs V F,rfl,rfl,rfl,[iV pb.1,iV pb.2.1,iV pb.2.2],rfl,rdO PW V F,rfl,rfl,rfl,[iV pa.1,iV pa.2.1,iV pa.2.2],rfl,rdO Qs V F,rfl,rfl,rfl,[iV pb.1,iV pb.2.1,iV pb.2.2],rfl,rdO PW V F,rfl,rfl,rfl,pb.1-pa.1,wo,pb.2.1-pa.2.1,wo,pb.2.2-pa.2.2,wo,?_⟩;exact rtn V fun J8 we re=>rfl
 .refine⟨[iV pb.1,iV pb.2.1,iV pb.2.2],rfl,rdO PW V F,rfl,rfl,rfl,[iV pa.1,iV pa.2.1,iV pa.2.2],rfl,rdO Qs V F,rfl,rfl,rfl,[iV pb.1,iV pb.2.1,iV pb.2.2],rfl,rdO PW V F,rfl,rfl,rfl,[iV pa.1,iV pa.2.1,iV pa.2.2],rfl,rdO Qs V F,rfl,rfl,rfl,[iV pb.1,iV pb.2.1,iV pb.2.2],rfl,rdO PW V F,rfl,rfl,rfl,pb.1-pa.1,wo,pb.2.1-pa.2.1,wo,pb.2.2-pa.2.2,wo,?_⟩;exact rtn V fun J8 we re=>rfl
theorem aAe{α:Type}{rv:List α}{a b:α}{i m:Nat}(hl:rv.length=i)(h:i<m):(rv++List.replicate (m-i) b).take i++[a]++(rv++List.replicate (m-i) b).drop (i+1)=(rv++[a])++List.replicate (m-(i+1)) b:=by
 rw[List.take_left' hl,List.drop_append,hl,List.drop_of_length_le be,List.nil_append,List.drop_replicate];congr 2;omega
end Go.Ex
namespace Go.Sx
open Go Go.Ex Go.Proofs
variable{Z:List Value}{O:Nat->Sx.eG}
theorem Rel.aBz{H:Hp}{nx:Nat}{iv:Iv}{B:Nat}{w J:World}(r:Rel H nx iv B w O J){id t m sz:Nat}(h:dU H id=some (.arr t Z))(hm:Z.length=m*sz)(S9:m<=maxLen)(I:∀u∈Z,u.oneCell'=true):
  j1 J (fun g=>B<=g/\g<J.heap.size) sz (.slice (some ⟨(O id).g,0,none⟩) m m) Z m:=by
 have hl:=r.low id _ h (r.fits h).1;refine⟨S9,hm,I,_,m,rfl,lr,fun j u hu=>⟨_,rfl,hl,?_⟩⟩;rw[dX,cell_of (r.arr id _ _ h),aW];exact hu
end Go.Sx
namespace Go.Ex
open Go Go.Sx Go.Proofs
section
variable{d:Int}{b s:Int×Int×Rat}{M:List (List Int)}{l:List Int}{r:Nat}{S:Nat->Prop}{f:eh}
theorem FI{c:Nat}:(wV M r c d).length=M.length:=bj ..
theorem NT{c:Nat}:(putAt M r c d).length=M.length:=bj ..
def JV(M:List (List Int))(t:Int):Prop:=∀l∈M,∀z∈l,-t<=z/\z<=t
theorem JV.set{t t2:Int}{c:Nat}{z:Int}(h:JV M t)(ht:t<=t2)(hl:M[r]? =some l)(hz: -t2<=z/\z<=t2):JV (M.set r (l.set c z)) t2:=fun x U y hy=>by
 rcases bE U with U|rfl
 .have:=h x U y hy;omega
 .rcases bE hy with hy|rfl
  .have:=h l (aC hl) y hy;omega
  .exact hz
theorem Im(f:eh):∀i,(dx f i).length=3*f.nodes.length
 |0=>bD ..
 |i+1=>by
  have h:=Im f i;have key:∀k,(eo f (dx f i) i k).length=3*f.nodes.length:=fun k=>by
   induction k with
   |zero=>exact h
   |succ k ih=>rw[eo,FI,FI];exact ih
  exact key 3
theorem pO(f:eh):∀i,(fY f i).length=3*f.nodes.length
 |0=>Im f _
 |i+1=>by rw[fY,NT];exact pO f i
theorem aAf{i k ka kb:Nat}{za zb:Int}{la lb:List Int}(hb:f.bars[i]? =some b)(ea:b.1=ka)(eb:b.2.1=kb)(hd:(j5 f b).getD k 0=d)
  (Qs:(eo f M i k)[3*ka+k]? =some la) (XR:la[i]? =some za) (PW:((eo f M i k).set (3*ka+k) (la.set i (za+d)))[3*kb+k]? =some lb) (Uy:lb[i]? =some zb):
  ((eo f M i k).set (3*ka+k) (la.set i (za+d))).set (3*kb+k) (lb.set i (zb-d))=eo f M i (k+1):=by
 have I:f.bars.getD i (0,0,0)=b:=by rw[List.getD,hb];rfl
 have e1:(3*b.1+(k:Int)).toNat=3*ka+k:=by rw[ea];omega
 have e2:(3*b.2.1+(k:Int)).toNat=3*kb+k:=by rw[eb];omega
 have ha:wV (eo f M i k) (3*ka+k) i d=(eo f M i k).set (3*ka+k) (la.set i (za+d)):=by
  rw[wV,show(eo f M i k).getD (3*ka+k) []=la by rw[List.getD,Qs];rfl,show la.getD i 0=za by rw[List.getD,XR];rfl]
 rw[eo];simp only[I,hd,e1,e2,ha]
 rw[wV,show((eo f M i k).set (3*ka+k) (la.set i (za+d))).getD (3*kb+k) []=lb by rw[List.getD,PW];rfl,show lb.getD i 0=zb by rw[List.getD,Uy];rfl,Int.sub_eq_add_neg]
theorem Io{i ks:Nat}(hs:f.dB[i]? =some s)(es:3*s.1+s.2.1=ks)(hl:(fY f i)[ks]? =some l):(fY f i).set ks (l.set (f.bars.length+i) 1)=fY f (i+1):=by
 rw[fY,putAt];simp only[show f.dB.getD i (0,0,0)=s by rw[List.getD,hs];rfl,es,aF,show(fY f i).getD ks []=l by rw[List.getD,hl];rfl]
theorem NU{w:World}{vn vb vs:Value}(F:Old S w)(hf:dw w S vn vb vs f)(Oz:xt f):
  eH PG GT.sM #[.agg #[vn,vb,vs]] w (eR w fun v' Y=>oe Y (Nf w Y) v' (iW f)/\JV (iW f) 800000000/\(∀l∈iW f,l.length=f.cols)/\(iW f).length=3*f.nodes.length):=by
 have V:=bR w;obtain⟨an,cn,ab,cb,aq,cq,rfl,rfl,rfl,R4,RY,SX⟩:=hf.shape;obtain⟨Vk,UN,TY⟩:=And.intro Oz.n (And.intro Oz.b Oz.s);refine xa bv ?_;refine⟨((3*f.nodes.length:Nat):Int),wo,?_⟩;obtain⟨m,hm⟩:=exq (3*f.nodes.length);rw[hm]
 refine⟨m,m,rfl,rfl,lr,be,be,Nat×List Value×World×Iv,fun z=>⟨[(1,pP 0 0),(3,.o (.s 1 0 m m)),(17,iZ m),(18,iN z.1)],[(1,.arr T.Lint (z.2.1++List.replicate (m-z.1) nls)),(0,.box T.Frame [.v (.slice an f.nodes.length cn),.v (.slice ab f.bars.length cb),.v (.slice aq f.dB.length cq)])],2,z.2.2.2,z.2.2.1⟩,fun z=>m-z.1,
  fun z=>z.1<=m/\z.2.1.length=z.1/\Bq w z.2.2.1/\im z.2.2.1 w.heap.size z.2.2.2 z.2.1 f.cols (List.replicate z.1 (List.replicate f.cols 0)),?_,?_⟩
 .intro O J R;exact⟨(0,[],J,[]),⟨aR _,rfl,V.tr R.cZ,im.nil⟩,sbgn [] R⟩
 rintro⟨i,rv,w1,iv⟩ ⟨D,PN,V,hE⟩;dsimp only at D PN V hE ⊢;apply bS<;>intro Ou
 .have Ou:=dL Ou;refine⟨((f.cols:Nat):Int),by rw[wrap64]<;>first|rfl|omega,f.cols,f.cols,rfl,rfl,lr,by unfold eh.cols;omega,by unfold eh.cols;omega,be,?_⟩;refine MW hτ (id:=1) (id2:=2) (tH:=[(1,.arr T.Lint (rv++List.replicate (m-i) nls)),(0,.box T.Frame [.v (.slice an f.nodes.length cn),.v (.slice ab f.bars.length cb),.v (.slice aq f.dB.length cq)])]) rfl rfl bi rfl ⟨rfl,rfl,trivial⟩ rfl (fun O J r=>?_);have W:=(r.fits (id:=2) rfl).1;have Ov:J.ownsRow 0 T.int 1 (.slice (some ⟨(O 2).g,0,none⟩) f.cols f.cols) f.cols ((List.replicate f.cols (0:Int)).map fun z=>iV z):=
   ⟨bv,.inr ⟨(O 2).g,f.cols,(List.replicate f.cols (iV 0)).toArray,rfl,aR _,r.arr 2 _ _ rfl,lr,by unfold eh.cols maxLen;omega,bv,bv⟩⟩
  have Pb:=(hE.rel r).push (gx:=(O 2).g) (l:=List.replicate f.cols 0) (fun g X e=>Rel.not r (dV _) X 2 _ rfl W e.symm) (r.low 2 _ rfl W).1 bv Ov;rw[<-List.replicate_succ']at Pb;have Pf:=V.tr r.cZ;generalize (O 2).g=gx at*
  generalize (gx,gx+1)::iv=Oy at*
  refine⟨by simp[PN];omega,(rv++[.slice (some ⟨gx,0,none⟩) f.cols f.cols])++List.replicate (m-(i+1)) nls,?_,?_⟩
  .rw[aF,aZ,aW];exact aAe PN Ou
  refine inc i ?_;intro I' w3 R;exact⟨(i+1,rv++[.slice (some ⟨gx,0,none⟩) f.cols f.cols],w3,_),⟨Ou,by simp[PN],Pf.tr R.cZ,Pb.rel R⟩,sbgn [] R,dec Ou⟩
 have Ou:=dE D Ou;subst Ou;have hE0:im w1 w.heap.size iv rv f.cols (dx f 0):=by rw[dx,hm];exact hE
 have Xr:JV (dx f 0) 0:=fun l hl z hz=>by
  rw[dx]at hl;rw[bW hl]at hz;rw[bW hz];exact⟨Int.le_refl _,Int.le_refl _⟩
 refine⟨Nat×World×Iv,fun z=>⟨[(1,pP 0 0),(3,.o (.s 1 0 i i)),(34,sV ab f.bars.length cb),(35,iZ f.bars.length),(36,iN z.1)],[(1,.arr T.Lint rv),(0,.box T.Frame [.v (.slice an f.nodes.length cn),.v (.slice ab f.bars.length cb),.v (.slice aq f.dB.length cq)])],2,z.2.2,z.2.1⟩,fun z=>f.bars.length-z.1,
  fun z=>z.1<=f.bars.length/\Bq w z.2.1/\im z.2.1 w.heap.size z.2.2 rv f.cols (dx f z.1)/\JV (dx f z.1) (12000000*z.1),?_,?_⟩
 .intro O J R;exact⟨(0,J,_),⟨aR _,V.tr R.cZ,hE0.rel R,Xr⟩,sbgn [] R ⟨by simp;rfl,rfl,trivial⟩⟩
 rintro⟨j,Y,iv⟩ ⟨hj,V,hE,Pm⟩;dsimp only at hj V hE Pm ⊢;apply bS<;>intro Pn
 .have Pn:=dL Pn;obtain⟨b,hb⟩:=gO f.bars j;obtain⟨hA,hB⟩:=Oz.IG b (aC hb);obtain⟨ka,pa,ea,Up,-,WE,⟨_,_⟩,⟨_,_⟩,⟨_,_⟩⟩:=Oz.node hA.1 hA.2;obtain⟨kb,pb,eb,Ow,-,So,⟨_,_⟩,⟨_,_⟩,⟨_,_⟩⟩:=Oz.node hB.1 hB.2;obtain⟨adb,Z,QV,hF,-,PW⟩:=hf.bars.load bi hb;obtain⟨g0,g1,g2,g3,g4,g5,g6,g7,rfl,hF⟩:=hF;refine⟨adb,QV,be,[iV b.1,iV b.2.1,.bool g0,.slice g1 g2 g3,.bool g4,.slice g5 g6 g7],rfl,rdO PW V F,?_⟩;refine cQ (cU (J9:=fun _ J v Y=>v= .agg #[iV ((f.node b.2.1).1-(f.node b.1).1),iV ((f.node b.2.1).2.1-(f.node b.1).2.1),iV ((f.node b.2.1).2.2-(f.node b.1).2.2)]) (fun O J r=>uT (S:=S) (oS F r) (hf.cR (kS V r F)).nodes Oz hA hB) ?_);rintro O Pw v1 Pa r L PE rfl;replace V:=V.tr PE;replace hE:=hE.cS (N:=(Pw.heap.size,Pa.heap.size)::iv) r L fun x U=>aB _ U;generalize (Pw.heap.size,Pa.heap.size)::iv=PA at*
  rw[WE,So];have hbD:j5 f b=[pb.1-pa.1,pb.2.1-pa.2.1,pb.2.2-pa.2.2]:=by rw[j5,WE,So]
  refine⟨Nat×World×Iv,fun z=>⟨[(1,pP 0 0),(3,.o (.s 1 0 i i)),(5,iN j),(6,pP 2 0),(43,.o (.v (.agg #[iV (pb.1-pa.1),iV (pb.2.1-pa.2.1),iV (pb.2.2-pa.2.2)]))),(34,sV ab f.bars.length cb),(35,iZ f.bars.length),(36,iN j),(44,iN z.1)],[(2,.box T.Bar [.v (iV b.1),.v (iV b.2.1),.v (.bool g0),.v (.slice g1 g2 g3),.v (.bool g4),.v (.slice g5 g6 g7)]),(1,.arr T.Lint rv),(0,.box T.Frame [.v (.slice an f.nodes.length cn),.v (.slice ab f.bars.length cb),.v (.slice aq f.dB.length cq)])],3,z.2.2,z.2.1⟩,fun z=>3-z.1,
   fun z=>z.1<=3/\Bq w z.2.1/\im z.2.1 w.heap.size z.2.2 rv f.cols (eo f (dx f j) j z.1)/\JV (eo f (dx f j) j z.1) (12000000*j+4000000*z.1),?_,?_⟩
  .intro O J R;exact⟨(0,J,_),⟨aR _,V.tr R.cZ,hE.rel R,Pm⟩,sbgn [] R⟩
  rintro⟨k,w3,iv⟩ ⟨K,V,hE,Pm⟩;dsimp only at K V hE Pm ⊢;apply bS<;>intro Ow
  .have Ow:k<3:=by have:=aK Ow;omega
   obtain⟨d,hd⟩:=exq ((j5 f b).getD k 0);have hdb: -2000000<=d/\d<=2000000:=by
    rw[<-hd,hbD];rcases(show k=0\/k=1\/k=2 by omega)with rfl|rfl|rfl<;>simp[List.getD]<;>omega
   have hMl:(eo f (dx f j) j k).length=3*f.nodes.length:=by rw[<-hE.len];have:=hE.len;omega
   have QP:f.cols=f.bars.length+f.dB.length:=rfl;refine DV hτ rfl rfl rfl (fun _=>rfl) rfl ⟨be,be⟩ (u:=iV d) ?_ (fun O w4 r=>?_)
   .rw[<-hd,hbD,aF];rcases(show k=0\/k=1\/k=2 by omega)with rfl|rfl|rfl<;>rfl
   replace V:=V.tr r.cZ;replace hE:=hE.rel r;obtain⟨la,Qs⟩:∃l,(eo f (dx f j) j k)[3*ka+k]? =some l:=⟨_,aD (by first|omega|(rw [bj];omega))⟩
   have hlaw:=hE.wid la (aC Qs);obtain⟨za,XR⟩:=gO la j;have hzab:=Pm la (aC Qs) za (aC XR);obtain⟨va,Xs⟩:∃v,rv[3*ka+k]? =some v:=⟨_,aD (by have:=(aE.1 Qs).1;rw[hE.len];exact this)⟩
   obtain⟨aa5,ca5,rfl⟩:=hE.form Xs;obtain⟨ada5,Uz,hxa1,hxa2⟩:=hE.load Xs Qs XR;refine⟨((3*ka:Nat):Int),by rw[ea,wrap64]<;>omega,((3*ka+k:Nat):Int),wo,be,.slice aa5 f.cols ca5,by rw[aF,aZ,aW];exact Xs,ada5,Uz,be,iV za,fun O J r=>?_,?_⟩
   .rw[aF,cV (w:=w4) (Y:=J) (by rw[dO];exact rls r (dV _) hxa1)];exact hxa2
   refine⟨za+d,wo,ada5,Uz,be,?_⟩;intro O J r;obtain⟨g,X,I,G,h3,h4⟩:=hE.store r (z:=za+d) Xs Qs (show j<f.cols by omega);rw[Uz]at X;injection X with X;subst X;refine⟨I,G,h3,fun w5 Qv=>?_⟩;obtain⟨k1,k2,k3,-,-⟩:=h4 w5 Qv;replace V:=(V.tr r.cZ).tr k2;replace Pm:=Pm.set (r:=3*ka+k) (c:=j) (z:=za+d) (t2:=12000000*j+4000000*k+2000000) be Qs be;replace hE:=k1;obtain⟨lb,PW⟩:∃l,((eo f (dx f j) j k).set (3*ka+k) (la.set j (za+d)))[3*kb+k]? =some l:=⟨_,aD (by first|omega|(rw [bj];omega))⟩
   have hlbw:=hE.wid lb (aC PW);obtain⟨zb,Uy⟩:=gO lb j;have hzbb:=Pm lb (aC PW) zb (aC Uy);obtain⟨vb,Wm⟩:∃v,rv[3*kb+k]? =some v:=⟨_,aD (by have:=(aE.1 PW).1;rw[hE.len];exact this)⟩
   obtain⟨ab5,cb5,rfl⟩:=hE.form Wm;obtain⟨adb5,VA,hxb1,hxb2⟩:=hE.load Wm PW Uy;refine⟨((3*kb:Nat):Int),by rw[eb,wrap64]<;>omega,((3*kb+k:Nat):Int),wo,be,.slice ab5 f.cols cb5,by rw[aF,aZ,aW];exact Wm,adb5,VA,be,iV zb,fun O J r=>?_,?_⟩
   .rw[aF,cV (w:=w5) (Y:=J) (by rw[dO];exact rls r (dV _) hxb1)];exact hxb2
   refine⟨zb-d,wo,adb5,VA,be,?_⟩;intro O J r;obtain⟨g,X,I,G,h3,h4⟩:=hE.store r (z:=zb-d) Wm PW (show j<f.cols by omega);rw[VA]at X;injection X with X;subst X;refine⟨I,G,h3,fun w5 Qv=>?_⟩;obtain⟨k1,k2,k3,-,-⟩:=h4 w5 Qv;replace V:=(V.tr r.cZ).tr k2;replace Pm:=Pm.set (r:=3*kb+k) (c:=j) (z:=zb-d) (t2:=12000000*j+4000000*(k+1:Nat)) be PW be;replace hE:=k1;rw[aAf hb ea eb hd Qs XR PW Uy]at hE Pm;refine inc k ?_;intro I' w6 R;exact⟨(k+1,w6,_),⟨Ow,V.tr R.cZ,hE.rel R,Pm⟩,sbgn [] R,dec Ow⟩
  have Ow:k=3:=by have:=aG Ow;omega
  subst Ow;refine inc j ?_;intro I' w6 R;exact⟨(j+1,w6,_),⟨Pn,V.tr R.cZ,hE.rel R,fun l hl z hz=>by have:=Pm l hl z hz;dsimp only;omega⟩,sbgn [] R,dec Pn⟩
 have Pn:=dE hj Pn;subst Pn
 refine⟨Nat×World×Iv,fun z=>⟨[(1,pP 0 0),(3,.o (.s 1 0 i i)),(79,sV aq f.dB.length cq),(80,iZ f.dB.length),(81,iN z.1)],[(1,.arr T.Lint rv),(0,.box T.Frame [.v (.slice an f.nodes.length cn),.v (.slice ab f.bars.length cb),.v (.slice aq f.dB.length cq)])],2,z.2.2,z.2.1⟩,fun z=>f.dB.length-z.1,
  fun z=>z.1<=f.dB.length/\Bq w z.2.1/\im z.2.1 w.heap.size z.2.2 rv f.cols (fY f z.1)/\JV (fY f z.1) 800000000,?_,?_⟩
 .intro O J R;exact⟨(0,J,_),⟨aR _,V.tr R.cZ,hE.rel R,fun l hl z hz=>by have:=Pm l hl z hz;omega⟩,sbgn [] R⟩
 rintro⟨j,Y,iv⟩ ⟨hj,V,hE,Pm⟩;dsimp only at hj V hE Pm ⊢;apply bS<;>intro Pn
 .have Pn:=dL Pn;obtain⟨s,hs⟩:=gO f.dB j;obtain⟨hA,hB⟩:=Oz.sup s (aC hs);obtain⟨ks,XS⟩:=Int.eq_ofNat_of_zero_le (show 0<=3*s.1+s.2.1 by omega);have QP:f.cols=f.bars.length+f.dB.length:=rfl;have hMl:=pO f j;obtain⟨l,hl⟩:=gO (fY f j) ks;have hlw:=hE.wid l (aC hl);obtain⟨v,hv⟩:∃v,rv[ks]? =some v:=⟨_,aD (by rw[hE.len];omega)⟩
  obtain⟨a5,c5,rfl⟩:=hE.form hv;obtain⟨z0,PQ⟩:=gO l (f.bars.length+j);obtain⟨ad5,ha5,-,-⟩:=hE.load hv hl PQ;obtain⟨adb,Z,QV,hF,-,PW⟩:=hf.dB.load bi hs;obtain⟨g0,g1,g2,g3,g4,g5,g6,g7,rfl,hF⟩:=hF;refine⟨adb,QV,be,[iV s.1,iV s.2.1,.bool g0,.slice g1 g2 g3,.bool g4,.slice g5 g6 g7],rfl,rdO PW V F,?_⟩;refine dP (idO 16) ?_;refine⟨3*s.1,wo,((ks:Nat):Int),wo,be,.slice a5 f.cols c5,by rw[aF,aZ,aW];exact hv,((f.bars.length+j:Nat):Int),wo,ad5,ha5,be,?_⟩;intro O J r;obtain⟨g,X,I,G,h3,h4⟩:=hE.store r (z:=1) hv hl (show f.bars.length+j<f.cols by omega);rw[ha5]at X;injection X with X;subst X;refine⟨I,G,h3,fun w5 Qv=>?_⟩;obtain⟨k1,k2,k3,-,-⟩:=h4 w5 Qv;replace V:=(V.tr r.cZ).tr k2;have UO:=Pm.set (r:=ks) (c:=f.bars.length+j) (z:=1) (t2:=800000000) be hl be;rw[Io hs XS hl]at k1 UO;refine inc j ?_;intro I' w6 R;exact⟨(j+1,w6,_),⟨Pn,V.tr R.cZ,k1.rel R,UO⟩,sbgn [] R,dec Pn⟩
 have Pn:=dE hj Pn;subst Pn;intro J8 we re;have Pb:=hE.rel re;have hMl:=pO f f.dB.length;have R0:=hE.len;refine⟨_,rfl,V.tr re.cZ,⟨rv,?_,hE.len,fun i u x k1 k2=>?_⟩,Pm,hE.wid,by rw[<-hm];exact hMl⟩
 .rw[show (iW f).length=rv.length from hE.len.symm];have h5:=re.aBz (id:=1) (sz:=1) (m:=rv.length) rfl bv mx hE.one;rw[show (i:Nat)=rv.length by omega];exact h5.cP fun g X=>.inr X
 .obtain⟨a,c,rfl⟩:=hE.form k1;have QM:=hE.wid x (aC k2);refine⟨by rw[QM];unfold eh.cols maxLen;omega,bv,fun v hv=>by obtain⟨z,_,rfl⟩:=aV.1 hv;rfl,a,c,by rw[QM],?_,fun t v hv=>?_⟩
  .rw[QM];obtain⟨a2,c2,e,h⟩:=ie (hE.row i _ x k1 k2);injection e with e1 e2 e3;omega
  .rw[aO]at hv
   cases ht:x[t]? with
   |none=>rw[ht]at hv;cases hv
   |some z=>
    rw[ht]at hv;simp only[bw,Option.some.injEq]at hv;subst hv;obtain⟨ad,I,G,h3⟩:=Pb.load k1 k2 ht;exact⟨ad,I,Cv.nw G re,by rw[aZ]at h3;exact h3⟩
end
variable{z:Int}{p:Int×Int×Int}{b:Int×Int×Rat}{x:Ld}{seen:List (Int×Int×Rat)}{A:List (List Value)}{s:List Int}{l:List Ld}{qs:List Rat}{Z:List Value}{j:Nat}{S:Nat->Prop}{an:Option Addr}{vb vl vs:Value}{w:World}{f:eh}
theorem Iq(f:eh):(c9 f).length=3*f.nodes.length:=by rw[c9,aL];exact pO f _
theorem FJ(I: -2000000000<=z)(G:z<=2000000000):rl (z:Rat)<=1:=by
 have e1:((z:Rat)).num=z:=rfl;have e2:((z:Rat)).den=1:=rfl;rw[rl,e1,e2];have a1:ln z.natAbs<=1:=gg.2 (by rw[yS];omega);have a2:ln 1<=1:=by decide
 omega
theorem vY{vn:Value}(F:Old S w)(hf:dw w S vn vb vs f)(Oz:xt f):
  eH PG GT.qu #[.agg #[vn,vb,vs]] w (eR w fun v' Y=>(∃vr,v'= .agg #[vr,iV f.cols]/\dD Y (Nf w Y) vr (c9 f))/\fz f.cols (c9 f)/\Ht (c9 f) 2):=by
 have V:=bR w;obtain⟨an,cn,ab,cb,aq,cq,rfl,rfl,rfl,R4,RY,SX⟩:=hf.shape;obtain⟨Vk,UN,TY⟩:=And.intro Oz.n (And.intro Oz.b Oz.s);have QP:f.cols=f.bars.length+f.dB.length:=rfl;refine vJ bv ?_;refine⟨((f.cols:Nat):Int),by rw[wrap64]<;>first|rfl|omega,?_⟩;refine cQ (cU (J9:=fun _ J v Y=>oe Y (Nf J Y) v (iW f)/\JV (iW f) 800000000/\(∀l∈iW f,l.length=f.cols)/\(iW f).length=3*f.nodes.length) (fun O J r=>NU (S:=S) (oS F r) (hf.cR (kS V r F)) Oz) ?_);rintro O Pw v1 Pa r L PE ⟨k1,Pm,Xt,SA⟩;replace V:=V.tr PE;have hM:=oe.cP k1 fun g X=>X.iR (B:=w.heap.size) (S:=FF) r.dA (iv:=(Pw.heap.size,Pa.heap.size)::[]) aH;generalize (Pw.heap.size,Pa.heap.size)::[]=PA at*
 obtain⟨am,cm,rfl,SB,Qr⟩:=dI.shape hM;unfold maxLen at Qr
 refine⟨Nat×List Value×World×Iv,fun z=>⟨[(20,iN z.1),(2,pP 1 0),(3,pP 2 0),(18,.o (.v (.slice am (iW f).length cm))),(19,.o (.v (iV (iW f).length)))],[(2,.box T.eL [.w 3 z.2.1.length,.v (iV ((f.cols:Nat):Int))]),(3,.vec T.gF 1 z.2.1),(1,.box T.eL [.v nls,.v (iV 0)])],4,z.2.2.2,z.2.2.1⟩,fun z=>(iW f).length-z.1,
  fun z=>z.1<=(iW f).length/\Bq w z.2.2.1/\oe z.2.2.1 (Cf w z.2.2.2) (.slice am (iW f).length cm) (iW f)/\dZ z.2.2.1 (Cf w z.2.2.2) z.2.1 ((c9 f).take z.1),?_,?_⟩
 .intro O J r;exact⟨(0,[],J,_),⟨aR _,V.tr r.cZ,hM.cR fun g X=>rls r oF X,by simp[dZ]⟩,Sub.EH 2 0 T.gF 1 rfl rfl (by simp[kK,SV.sc,At.sc,fc]) r fun In r1=>sbgn [] r1⟩
 rintro⟨k,rv,w1,iv⟩ ⟨K,V,hM,hK⟩;dsimp only at K V hM hK ⊢;have PN:rv.length=k:=by rw[hK.1,ah,c9,aL];omega
 apply bS<;>intro Ow
 .have Ow:k<(iW f).length:=by simpa using Ow
  obtain⟨l,hl⟩:=gO (iW f) k;have hlw:=Xt l (aC hl);have PL:(c9 f).take (k+1)=(c9 f).take k++[dQ l]:=by rw[bB,show(c9 f)[k]? =some (dQ l) by rw[c9,aO,hl];rfl];rfl
  obtain⟨adm,um,S7,Ye,km1,km2⟩:=dI.load hM hl;obtain⟨a0,c0,rfl,YS,-⟩:=DW.shape Ye;refine⟨adm,S7,be,.slice a0 l.length c0,fun O J r=>?_,?_⟩
  .rw[aF,cV (w:=w1) (Y:=J) (by rw[dO];exact rls r oF km1)];exact km2
  refine⟨l.length,l.length,rfl,rfl,lr,be,be,Nat×Nat×World×Iv,fun z=>⟨[(6,.o (.v (.slice (some ⟨z.2.1,0,none⟩) l.length l.length))),(5,sV a0 l.length c0),(27,sV a0 l.length c0),(28,iZ l.length),(29,iN z.1),(20,iN k),(2,pP 1 0),(3,pP 2 0),(18,.o (.v (.slice am (iW f).length cm))),(19,.o (.v (iV (iW f).length)))],[(2,.box T.eL [.w 3 rv.length,.v (iV ((f.cols:Nat):Int))]),(3,.vec T.gF 1 rv),(1,.box T.eL [.v nls,.v (iV 0)])],5,z.2.2.2,z.2.2.1⟩,fun z=>l.length-z.1,
   fun z=>z.1<=l.length/\Bq w z.2.2.1/\oe z.2.2.1 (Bs FF w.heap.size z.2.2.2 (.slice (some ⟨z.2.1,0,none⟩) l.length l.length)) (.slice am (iW f).length cm) (iW f)/\DW z.2.2.1 (Bs FF w.heap.size z.2.2.2 (.slice (some ⟨z.2.1,0,none⟩) l.length l.length)) (.slice a0 l.length c0) l/\dZ z.2.2.1 (Bs FF w.heap.size z.2.2.2 (.slice (some ⟨z.2.1,0,none⟩) l.length l.length)) rv ((c9 f).take k)/\je z.2.2.1 FF w.heap.size z.2.2.2 (.slice (some ⟨z.2.1,0,none⟩) l.length l.length) l.length z.1 (dQ l),?_,?_⟩
  .intro O J r;have hf:=je.pK (S:=FF) (n:=l.length) r (id:=4) rfl mx (dQ l);have hbs:∀g,Cf w iv g->Bs FF w.heap.size (((O 4).g,(O 4).g+1)::iv) (.slice (some ⟨(O 4).g,0,none⟩) l.length l.length) g:=fun g X=>⟨X.mono fun p hp=>aB _ hp,fun e=>Rel.not r oF X 4 _ rfl (r.fits (id:=4) rfl).1 (by injection e)⟩
   exact⟨(0,(O 4).g,J,((O 4).g,(O 4).g+1)::iv),⟨aR _,V.tr r.cZ,(hM.cR fun g X=>rls r oF X).cP hbs,(Ye.cR fun g X=>rls r oF X).cP hbs,dZ.cP (hK.rel r oF) hbs,hf⟩,
    Sub.pK r (id:=4) (t:=6) rfl rfl ⟨rfl,rfl,rfl,trivial⟩ rfl ⟨rfl,rfl,rfl,rfl,rfl,rfl,rfl,rfl,rfl,trivial⟩ (by simp[kK,SV.sc,At.sc])⟩
  rintro⟨i,gx,Y,iv⟩ ⟨D,V,hM,Ye,hK,hX⟩;dsimp only at D V hM Ye hK hX ⊢;apply bS<;>intro Ou
  .have Ou:=dL Ou;obtain⟨z,hz⟩:=gO l i;have Uy:=Pm l (aC hl) z (aC hz);obtain⟨adz,haz,kz1,kz2⟩:=Ye.at hz;refine⟨adz,haz,be,iV z,fun O J r=>?_,?_⟩
   .rw[aF,cV (w:=Y) (Y:=J) (by rw[dO];exact rls r oF kz1.1)];exact kz2
   refine cQ (cU (J9:=fun _ J v Y=>cY Y (Nf J Y) v (z:Rat)) (fun O J r=>kh z J be be) ?_);rintro O QD v3 QC r L PE R7;replace V:=V.tr PE;have hbs:∀g,Bs FF w.heap.size iv (.slice (some ⟨gx,0,none⟩) l.length l.length) g->Bs FF w.heap.size ((QD.heap.size,QC.heap.size)::iv) (.slice (some ⟨gx,0,none⟩) l.length l.length) g:=fun g X=>Bs.mono (fun x U=>aB _ U) X;have hbk:∀g,Bs FF w.heap.size iv (.slice (some ⟨gx,0,none⟩) l.length l.length) g->QC.heap[g]? =Y.heap[g]? :=fun g X=>(L.block g (rlo r oF g X.1)).trans (Bs.same r oF g X);replace hM:=(hM.cR hbk).cP hbs;replace Ye:=(Ye.cR hbk).cP hbs;replace hK:=dZ.cP (dZ.cR hK hbk) hbs;have hd:=R7.cP (S':=Bs FF w.heap.size ((QD.heap.size,QC.heap.size)::iv) (.slice (some ⟨gx,0,none⟩) l.length l.length)) fun g X=>X.elim (fun h=>h.elim) fun h=>⟨.inr ⟨by have:=r.dA;omega,_,_,aH,h.1,h.2⟩,fun e=>by have:=rlo r oF g (hX.new g e);omega⟩
   replace hX:=hX.cS (N:=(QD.heap.size,QC.heap.size)::iv) r oF L fun x U=>aB _ U;generalize (QD.heap.size,QC.heap.size)::iv=PH at*
   obtain⟨A0,A1,A2,A3,A4,A5,A6,A7,rfl⟩:=hd.shape;refine⟨⟨gx,0,none⟩,rfl,be,?_⟩;intro O J r;obtain⟨g,X,I,G,h3,h4⟩:=hX.store (j:=i) Ou (by rw[dQ,aO,hz];rfl) hd r oF;injection X with X;injection X with X;subst X;refine⟨I,G,h3,fun w5 Qv=>?_⟩;obtain⟨k1,k2,k3,k4⟩:=h4 w5 Qv;have Pf:=(V.tr r.cZ).tr k3;have SR:=Bs.kept (v:=(.slice (some ⟨gx,0,none⟩) l.length l.length)) r oF k2 fun g e=>e;have Qj:=hM.cR SR;have hLm2:=Ye.cR SR;have R1:=dZ.cR hK SR;refine inc i ?_;intro I' w6 R;exact⟨(i+1,gx,w6,_),⟨Ou,Pf.tr R.cZ,Qj.cR (Bs.same R oF),hLm2.cR (Bs.same R oF),dZ.cR R1 (Bs.same R oF),k1.rel R oF⟩,sbgn [] R,dec Ou⟩
  have Ou:=dE D Ou;rw[Ou]at hX;have hX2:=(hX.done (by simp[dQ])).c;replace hK:=(dZ.cP hK fun g X=>X.1).push (u:=(.slice (some ⟨gx,0,none⟩) l.length l.length)) (x:=dQ l) rfl (by rw[show l.length=(dQ l).length by simp[dQ]]at hX2 ⊢;exact hX2);rw[<-PL]at hK;replace hM:=hM.cP fun g X=>X.1;refine .inl ?_;refine⟨bv,be,mx,((k+1:Nat):Int),wo,?_⟩;intro I' w3 R;exact⟨(k+1,rv++[(.slice (some ⟨gx,0,none⟩) l.length l.length)],w3,_),⟨Ow,V.tr R.cZ,hM.cR fun g X=>rls R oF X,hK.rel R oF⟩,sbgn [(3,6)] R ⟨by dsimp only;rw[l1];rfl,rfl,rfl,trivial⟩,dec Ow⟩
 have Ow:k=(iW f).length:=Nat.le_antisymm K (by simpa using Ow);rw[bH (by rw[c9,aL];omega)]at hK;intro J8 we re;refine⟨_,rfl,V.tr re.cZ,⟨_,rfl,rv,?_,hK.1,fun i u x k1 k2=>cX.cP (cX.rel (hK.2.2 i u x k1 k2) re oF) fun g X=>Cv.nw X re⟩,fun x U=>?_,fun x U q hq=>?_⟩
 .rw[<-hK.1];exact(re.iD (id:=3) (sz:=1) (m:=rv.length) rfl bv mx bi hK.2.1).cP fun g X=>.inr X
 .obtain⟨l,hl,rfl⟩:=aV.1 U;rw[dQ,aL];exact Xt l hl
 .obtain⟨l,hl,rfl⟩:=aV.1 U;obtain⟨z,hz,rfl⟩:=aV.1 hq;have:=Pm l hl z hz;have:=FJ (z:=z) be be;omega
def ldC(x:Ld):List Int:=[x.2.1,x.2.2.1,x.2.2.2]
def jV(s:List Int)(x:Ld):Nat->List Int
 |0=>s
 |k+1=>LS (jV s x k) (3*x.1+k).toNat ((ldC x).getD k 0)
def jH(n:Nat)(l:List Ld):Nat->List Int
 |0=>List.replicate (3*n) 0
 |i+1=>jV (jH n l i) (l.getD i (0,0,0,0)) 3
def ko(f:eh)(l:List Ld):List Rat:=dQ (jH f.nodes.length l l.length)
structure Ir(n:Nat)(l:List Ld):Prop where
 len:l.length<=200
 ld:∀x∈l,(0<=x.1/\x.1<n)/\(-1000000<=x.2.1/\x.2.1<=1000000)/\(-1000000<=x.2.2.1/\x.2.2.1<=1000000)/\(-1000000<=x.2.2.2/\x.2.2.2<=1000000)
theorem vZ(s:List Int)(x:Ld):∀k,(jV s x k).length=s.length
 |0=>rfl
 |k+1=>by rw[jV,LS,bj];exact vZ s x k
theorem qY(n:Nat)(l:List Ld):∀i,(jH n l i).length=3*n
 |0=>bD ..
 |i+1=>by rw[jH,vZ];exact qY n l i
theorem Is{k:Nat}{d:Int}(e:3*x.1+(k:Int)=j)(hd:(ldC x).getD k 0=d)(hz:(jV s x k)[j]? =some z):(jV s x k).set j (z+d)=jV s x (k+1):=by
 rw[jV,LS,hd,e,aF,show(jV s x k).getD j 0=z by rw[List.getD,hz];rfl]
def LBd(s:List Int)(t:Int):Prop:=∀z∈s,-t<=z/\z<=t
theorem LBd.set{t t2:Int}(h:LBd s t)(ht:t<=t2)(hz: -t2<=z/\z<=t2):LBd (s.set j z) t2:=fun y hy=>by
 rcases bE hy with hy|rfl
 .have:=h y hy;omega
 .exact hz
def zv(l:List Int):List Value:=l.map fun z=>iV z
theorem Gs(l:List Int):(zv l).length=l.length:=aL ..
theorem MC{l:List Int}(h:l[j]? =some z):(zv l)[j]? =some (iV z):=by rw[zv,aO,h];rfl
theorem KX{l:List Int}(h:j<l.length):(zv l).take j++[iV z]++(zv l).drop (j+1)=zv (l.set j z):=by
 rw[zv,zv,List.map_set];exact gV (by rw[aL];exact h)
theorem qZ(f:eh):(dM f).length=f.cols:=by simp[dM,eh.cols]
theorem dK.aC5{q:Rat}(h:A.length=qs.length/\∀(j:Nat) Z q,A[j]? =some Z->qs[j]? =some q->mI w S Z q)(hc:mI w S Z q):
  (A++[Z]).length=(qs++[q]).length/\∀(j:Nat) c p,(A++[Z])[j]? =some c->(qs++[q])[j]? =some p->mI w S c p:=by
 refine⟨by simp[h.1],fun j x p I G=>?_⟩;rcases aS j A.length with D|D
 .rw[aI D]at I;rw[aI (by rw[<-h.1];exact D)]at G;exact h.2 j x p I G
 .have Rr:j=A.length:=by have:=(aE.1 I).1;simp at this;omega
  subst Rr;rw[aN lr,bO]at I;rw[h.1,aN lr,bO]at G;simp at I G;subst I G;exact hc
theorem FK{cn:Nat}(F:Old S w)(hl:o9 w S vl l)(Vk:f.nodes.length<=20)(Oz:Ir f.nodes.length l)
  {ab aq:Option Addr} {nb cb nq cq:Nat} (Wm:vb= .slice ab nb cb) (Rx:vs= .slice aq nq cq):
  eH PG GT.sI #[.agg #[.slice an f.nodes.length cn,vb,vs],vl] w (eR w fun v' Y=>eV Y FF w.heap.size [(w.heap.size,Y.heap.size)] v' (3*f.nodes.length) (ko f l)/\∀q∈ko f l,rl q<=1):=by
 subst Wm Rx;have V:=bR w;obtain⟨al,cl,rfl,QW,SA⟩:=hl.shape;have hl200:=Oz.len;refine xY bv ?_;refine⟨((3*f.nodes.length:Nat):Int),wo,?_⟩;obtain⟨m,hm⟩:=exq (3*f.nodes.length);rw[hm]
 refine⟨m,m,rfl,rfl,lr,be,be,Nat×World,fun z=>⟨[(5,.o (.s 1 0 m m)),(18,sV al l.length cl),(19,iZ l.length),(20,iN z.1)],[(1,.arr T.int (zv (jH f.nodes.length l z.1)))],2,[],z.2⟩,fun z=>l.length-z.1,
  fun z=>z.1<=l.length/\Bq w z.2/\LBd (jH f.nodes.length l z.1) (3000000*z.1),?_,?_⟩
 .intro O J R;exact⟨(0,J),⟨aR _,V.tr R.cZ,fun z hz=>by rw[jH]at hz;rw[bW hz];exact⟨Int.le_refl _,Int.le_refl _⟩⟩,sbgn [] R ⟨by dsimp only;rw[jH,hm,zv,List.map_replicate];rfl,trivial⟩⟩
 rintro⟨i,w1⟩ ⟨D,V,Pm⟩;dsimp only at D V Pm ⊢;apply bS<;>intro Ou
 .have Ou:=dL Ou;obtain⟨x,U⟩:=gO l i;obtain⟨W,Sq,RX,hx3⟩:=Oz.ld x (aC U);obtain⟨kn,Vy⟩:=Int.eq_ofNat_of_zero_le W.1;obtain⟨adx,Z,QU,hP,-,Pq⟩:=hl.load bi U;have hP:Z=[iV x.1,iV x.2.1,iV x.2.2.1,iV x.2.2.2]:=hP;subst hP
  refine⟨adx,QU,be,[iV x.1,iV x.2.1,iV x.2.2.1,iV x.2.2.2],rfl,rdO Pq V F,Nat×World,fun z=>⟨[(5,.o (.s 1 0 m m)),(7,pP 2 0),(30,.a [.v (iV x.2.1),.v (iV x.2.2.1),.v (iV x.2.2.2)]),(31,iN z.1),(18,sV al l.length cl),(19,iZ l.length),(20,iN i)],[(2,.box T.aDt [.v (iV x.1),.v (iV x.2.1),.v (iV x.2.2.1),.v (iV x.2.2.2)]),(1,.arr T.int (zv (jV (jH f.nodes.length l i) x z.1)))],3,[],z.2⟩,fun z=>3-z.1,
   fun z=>z.1<=3/\Bq w z.2/\LBd (jV (jH f.nodes.length l i) x z.1) (3000000*i+1000000*z.1),?_,?_⟩
  .intro O J R;exact⟨(0,J),⟨aR _,V.tr R.cZ,Pm⟩,sbgn [] R⟩
  rintro⟨k,w3⟩ ⟨K,V,Pm⟩;dsimp only at K V Pm ⊢;apply bS<;>intro Ow
  .have Ow:k<3:=by have:=aK Ow;omega
   obtain⟨d,hd⟩:=exq ((ldC x).getD k 0);have hdb: -1000000<=d/\d<=1000000:=by
    rw[<-hd,ldC];rcases(show k=0\/k=1\/k=2 by omega)with rfl|rfl|rfl<;>simp[List.getD]<;>omega
   have hLl:(jV (jH f.nodes.length l i) x k).length=m:=by rw[vZ,qY,hm]
   obtain⟨z,hz⟩:=gO (jV (jH f.nodes.length l i) x k) (3*kn+k);have Uy:=Pm z (aC hz);have Wk:3*x.1+(k:Int)=((3*kn+k:Nat):Int):=by omega
   have Qf:=Is Wk hd hz;have UO:=Pm.set (j:=3*kn+k) (z:=z+d) (t2:=3000000*i+1000000*(k+1:Nat)) be be;rw[Qf]at UO;refine DV hτ (Z:= #[iV x.2.1,iV x.2.2.1,iV x.2.2.2]) rfl rfl rfl (fun _=>rfl) rfl ⟨be,be⟩ (u:=iV d) ?_ (fun O w4 r=>?_)
   .rw[<-hd,ldC,aF];rcases(show k=0\/k=1\/k=2 by omega)with rfl|rfl|rfl<;>rfl
   replace V:=V.tr r.cZ;refine⟨3*x.1,wo,((3*kn+k:Nat):Int),wo,be,iV z,by rw[aF,aZ,aW];exact MC hz,z+d,wo,be,by rw[Gs];omega,zv (jV (jH f.nodes.length l i) x (k+1)),?_,?_⟩
   .rw[aF,aZ,aW,<-Qf];exact KX be
   refine inc k ?_;intro I' w6 R;exact⟨(k+1,w6),⟨Ow,V.tr R.cZ,UO⟩,sbgn [] R,dec Ow⟩
  have Ow:k=3:=by have:=aG Ow;omega
  subst Ow;have Qf:jV (jH f.nodes.length l i) x 3=jH f.nodes.length l (i+1):=by rw[jH,show l.getD i (0,0,0,0)=x by rw[List.getD,U];rfl]
  rw[Qf]at Pm ⊢;refine inc i ?_;intro I' w6 R;exact⟨(i+1,w6),⟨Ou,V.tr R.cZ,fun z hz=>by have:=Pm z hz;dsimp only;omega⟩,sbgn [] R,dec Ou⟩
 have Ou:=dE D Ou;subst Ou;obtain⟨s,hs⟩:=exq (jH f.nodes.length l l.length);have TE:s.length=m:=by rw[<-hs,qY,hm]
 rw[hs]at Pm ⊢;unfold ko;rw[hs]
 refine⟨m,m,rfl,rfl,lr,be,be,Nat×List (List Value)×Iv×World,fun z=>⟨[(10,.o (.s 2 0 m m)),(51,.o (.s 1 0 m m)),(52,iZ m),(53,iN z.1)],[(2,.arr T.Rat z.2.1.flatten),(1,.arr T.int (zv s))],3,z.2.2.1,z.2.2.2⟩,fun z=>m-z.1,
  fun z=>z.1<=m/\Bq w z.2.2.2/\gw z.2.2.2 (Cf w z.2.2.1) m z.1 z.2.1 (dQ s),?_,?_⟩
 .intro O J r;exact⟨(0,List.replicate m f0,_,J),⟨aR _,V.tr r.cZ,gw.start _ _ _ _⟩,sbgn [] r⟩
 rintro⟨i,A,iv,w1⟩ ⟨TG,V,hF⟩;dsimp only at TG V hF ⊢;apply bS<;>intro Ou
 .have Ou:=dL Ou;obtain⟨z,hz⟩:=gO s i;have Uy:=Pm z (aC hz);refine⟨be,iV z,by rw[aF,aZ,aW];exact MC hz,?_⟩;refine cQ (cE V (pR cY (z:Rat)) (fun O J r=>kh z J be be) ?_);rintro O _ _ _ PA r L V E W;replace hF:=hF.cS r oF L (mC E);have hd:=W.cP (nw r E);obtain⟨A0,A1,A2,A3,A4,A5,A6,A7,rfl⟩:=hd.shape;have PL:=hF.next Ou (q:=_) (by rw[dQ,aO,hz];rfl) hd
  refine⟨be,by have:=hF.flat;omega,(A.set i (rC A0 A1 A2 A3 A4 A5 A6 A7)).flatten,?_,?_⟩
  .have:=jy (Z:=rC A0 A1 A2 A3 A4 A5 A6 A7) hF.four (show i<A.length by rw[hF.len];exact Ou);rw[<-this];simp
  refine inc i ?_;intro I' w3 R;exact⟨(i+1,A.set i (rC A0 A1 A2 A3 A4 A5 A6 A7),_,w3),⟨Ou,V.tr R.cZ,PL.rel R oF⟩,sbgn [] R,dec Ou⟩
 have Ou:=dE TG Ou;subst Ou;intro J8 we re
 exact⟨_,rfl,V.tr re.cZ,hF.done (by rw[dQ,aL];exact TE) mx re (id:=2) rfl (re.nn 2 _ rfl (by intros;simp) bv),fun q hq=>by
  obtain⟨z,hz,rfl⟩:=aV.1 hq;have:=Pm z hz
  exact FJ be be⟩
theorem FL{vn:Value}(F:Old S w)(hf:dw w S vn vb vs f)(Oz:xt f):
  eH PG GT.sL #[.agg #[vn,vb,vs]] w (eR w fun v' Y=>dK Y (Nw S w Y) v' (dM f)):=by
 have V:=bR w;obtain⟨an,cn,ab,cb,aq,cq,rfl,rfl,rfl,R4,RY,SX⟩:=hf.shape;have Xn:=hf;refine x9 bv ?_
 refine⟨Nat×List (List Value)×World,fun z=>⟨[(3,.o (.w 1 z.2.1.length)),(9,sV ab f.bars.length cb),(10,iZ f.bars.length),(11,iN z.1),(1,pP 0 0)],[(1,.vec T.Rat 4 z.2.1.flatten),(0,.box T.Frame [.v (.slice an f.nodes.length cn),.v (.slice ab f.bars.length cb),.v (.slice aq f.dB.length cq)])],2,[],z.2.2⟩,fun z=>f.bars.length-z.1,
  fun z=>z.1<=f.bars.length/\Bq w z.2.2/\(∀Z∈z.2.1,Z.length=4)/\(z.2.1.length=((fun i=>(f.bars.take i).map (·.2.2)) z.1).length/\∀(j:Nat) Z q,z.2.1[j]? =some Z->((fun i=>(f.bars.take i).map (·.2.2)) z.1)[j]? =some q->mI z.2.2 S Z q),?_,?_⟩
 .intro O J r;exact⟨(0,[],J),⟨aR _,V.tr r.cZ,fun Z h=>(by cases h),rfl,fun j Z q h=>by cases h⟩,Sub.nil 3 T.Rat 4 rfl (by simp[kK,SV.sc,At.sc,fc]) r fun In r1=>sbgn [] r1⟩
 rintro⟨k,A,w1⟩ ⟨K,V,VU,hR⟩;dsimp only at K V VU hR ⊢;have PM:=eP VU;apply bS<;>intro Ow
 .have Ow:=dL Ow;have UN:=Oz.b;have TY:=Oz.s;obtain⟨b,hb⟩:=gO f.bars k;have Qf:(fun i=>(f.bars.take i).map (·.2.2)) (k+1)=(fun i=>(f.bars.take i).map (·.2.2)) k++[b.2.2]:=by dsimp only;rw[List.take_add_one,hb];simp
  obtain⟨adb,Z,QV,hF,-,PW⟩:=Xn.bars.load bi hb;obtain⟨g0,g1,g2,g3,g4,g5,g6,g7,rfl,hF⟩:=hF;refine⟨adb,QV,be,[iV b.1,iV b.2.1,.bool g0,.slice g1 g2 g3,.bool g4,.slice g5 g6 g7],rfl,rdO PW V F,?_⟩;have TH:mI w1 S (rC g0 g1 g2 g3 g4 g5 g6 g7) b.2.2:=⟨_,_,_,_,_,_,_,_,rfl,hF.cR fun g X=>V.block g (F g X)⟩
  have Q5:=dK.aC5 hR TH;rw[<-Qf]at Q5;have QI:A.flatten++(rC g0 g1 g2 g3 g4 g5 g6 g7:List Value)=(A++([rC g0 g1 g2 g3 g4 g5 g6 g7]:List (List Value))).flatten:=by simp
  have VP:A.length<=200:=by rw[hR.1,aL,ah];have:=Oz.b;omega
  refine .inl ?_;refine⟨be,be,mx,((k+1:Nat):Int),wo,?_⟩;intro I' w3 R
  exact⟨(k+1,A++[rC g0 g1 g2 g3 g4 g5 g6 g7],w3),⟨Ow,V.tr R.cZ,fun Z hc=>by
   rcases bG.1 hc with hc|hc
   .exact VU Z hc
   .rw[bK.1 hc];rfl,Q5.1,fun j Z q I G=>(Q5.2 j Z q I G).cR fun g X=>(R.cZ).block g (F g X)⟩,sbgn [(1,4)] R ⟨by dsimp only;rw[<-QI];rfl,rfl,trivial⟩ ⟨by dsimp only;rw[l1];rfl,rfl,rfl,rfl,rfl,trivial⟩,by dsimp only;omega⟩
 have Ow:=dE K Ow;subst Ow;have PN:A.length=f.bars.length:=by rw[hR.1,aL,ah];omega
 rw[bN,show f.bars.map (·.2.2)=f.bars.map (·.2.2)++(f.dB.take 0).map (·.2.2) by simp]at hR
 refine⟨Nat×List (List Value)×World,fun z=>⟨[(3,.o (.w 1 z.2.1.length)),(22,sV aq f.dB.length cq),(23,iZ f.dB.length),(24,iN z.1)],[(1,.vec T.Rat 4 z.2.1.flatten),(0,.box T.Frame [.v (.slice an f.nodes.length cn),.v (.slice ab f.bars.length cb),.v (.slice aq f.dB.length cq)])],2,[],z.2.2⟩,fun z=>f.dB.length-z.1,
  fun z=>z.1<=f.dB.length/\Bq w z.2.2/\(∀Z∈z.2.1,Z.length=4)/\(z.2.1.length=((fun i=>f.bars.map (·.2.2)++(f.dB.take i).map (·.2.2)) z.1).length/\∀(j:Nat) Z q,z.2.1[j]? =some Z->((fun i=>f.bars.map (·.2.2)++(f.dB.take i).map (·.2.2)) z.1)[j]? =some q->mI z.2.2 S Z q),?_,?_⟩
 .intro O J R;exact⟨(0,A,J),⟨aR _,V.tr R.cZ,VU,hR.1,fun j Z q I G=>(hR.2 j Z q I G).cR fun g X=>(R.cZ).block g (F g X)⟩,sbgn [] R⟩
 rintro⟨k,A,w1⟩ ⟨K,V,VU,hR⟩;dsimp only at K V VU hR ⊢;have PM:=eP VU;apply bS<;>intro Ow
 .have Ow:=dL Ow;have UN:=Oz.b;have TY:=Oz.s;obtain⟨b,hb⟩:=gO f.dB k;have Qf:(fun i=>f.bars.map (·.2.2)++(f.dB.take i).map (·.2.2)) (k+1)=(fun i=>f.bars.map (·.2.2)++(f.dB.take i).map (·.2.2)) k++[b.2.2]:=by dsimp only;rw[List.take_add_one,hb];simp
  obtain⟨adb,Z,QV,hF,-,PW⟩:=Xn.dB.load bi hb;obtain⟨g0,g1,g2,g3,g4,g5,g6,g7,rfl,hF⟩:=hF;refine⟨adb,QV,be,[iV b.1,iV b.2.1,.bool g0,.slice g1 g2 g3,.bool g4,.slice g5 g6 g7],rfl,rdO PW V F,?_⟩;have TH:mI w1 S (rC g0 g1 g2 g3 g4 g5 g6 g7) b.2.2:=⟨_,_,_,_,_,_,_,_,rfl,hF.cR fun g X=>V.block g (F g X)⟩
  have Q5:=dK.aC5 hR TH;rw[<-Qf]at Q5;have QI:A.flatten++(rC g0 g1 g2 g3 g4 g5 g6 g7:List Value)=(A++([rC g0 g1 g2 g3 g4 g5 g6 g7]:List (List Value))).flatten:=by simp
  have VP:A.length<=200:=by rw[hR.1,aQ,aL,aL,ah];have:=Oz.b;have:=Oz.s;omega
  refine .inl ?_;refine⟨be,be,mx,((k+1:Nat):Int),wo,?_⟩;intro I' w3 R
  exact⟨(k+1,A++[rC g0 g1 g2 g3 g4 g5 g6 g7],w3),⟨Ow,V.tr R.cZ,fun Z hc=>by
   rcases bG.1 hc with hc|hc
   .exact VU Z hc
   .rw[bK.1 hc];rfl,Q5.1,fun j Z q I G=>(Q5.2 j Z q I G).cR fun g X=>(R.cZ).block g (F g X)⟩,sbgn [(1,4)] R ⟨by dsimp only;rw[<-QI];rfl,rfl,trivial⟩ ⟨by dsimp only;rw[l1];rfl,rfl,rfl,rfl,trivial⟩,by dsimp only;omega⟩
 have Ow:=dE K Ow;subst Ow;intro J8 we re;have hfull:f.bars.map (·.2.2)++(f.dB.take f.dB.length).map (·.2.2)=dM f:=by rw[bN];rfl
 rw[hfull]at hR;refine⟨_,rfl,V.tr re.cZ,A,?_,hR.1,VU,fun j Z q k1 k2=>((hR.2 j Z q k1 k2).cR fun g X=>(re.cZ).block g (F g X)).cP fun g X=>.inl X⟩;have QW:=hR.1
 have h5:=re.iD (id:=1) (sz:=4) (m:=A.length) rfl PM (by have:=Oz.b;have:=Oz.s;rw[QW,qZ];unfold eh.cols maxLen;omega) bi (fun u hu=>by
  obtain⟨Z,hc,hu⟩:=List.mem_flatten.1 hu;obtain⟨j,hj⟩:=aU hc;obtain⟨_,_,_,_,_,_,_,_,rfl,_⟩:=hR.2 j Z _ hj (aD (by rw[<-QW];exact(aE.1 hj).1));simp at hu
  rcases hu with rfl|rfl|rfl|rfl<;>rfl)
 rw[<-QW];exact h5.cP fun g X=>.inr X
def fZ{α:Type}(e:List α->α->Int):List α->List α->Int
 |_,[]=>0
 |seen,x::r=>if e seen x=0 then fZ e (seen++[x]) r else e seen x
section
variable{α:Type}{e:List α->α->Int}{xs:List α}
theorem iz{k:Nat}{x:α}(U:xs[k]? =some x)(h0:e (xs.take k) x=0):fZ e (xs.take k) (xs.drop k)=fZ e (xs.take (k+1)) (xs.drop (k+1)):=by
 have K:=(aE.1 U).1;have G:=(aE.1 U).2;rw[List.drop_eq_getElem_cons K,G,fZ,aM h0,bB,U];rfl
theorem dG{k:Nat}{x:α}{c:Int}(U:xs[k]? =some x)(h0:e (xs.take k) x=c)(hc:c≠0):fZ e (xs.take k) (xs.drop k)=c:=by
 have K:=(aE.1 U).1;have G:=(aE.1 U).2;rw[List.drop_eq_getElem_cons K,G,fZ,aJ (by rw[h0];exact hc),h0]
theorem kH{k:Nat}(K:xs.length<=k):fZ e (xs.take k) (xs.drop k)=0:=by
 rw[List.drop_eq_nil_of_le K];rfl
theorem j8(h:fZ e [] xs=0):∀k x,xs[k]? =some x->e (xs.take k) x=0:=by
 have key:∀k,k<=xs.length->fZ e (xs.take k) (xs.drop k)=0/\∀j x,j<k->xs[j]? =some x->e (xs.take j) x=0:=fun k=>by
  induction k with
  |zero=>intro _;exact⟨by simpa using h,fun j x hj=>be⟩
  |succ k ih=>
   intro K;obtain⟨I,G⟩:=ih be;obtain⟨x,U⟩:=gO xs k;have h0:e (xs.take k) x=0:=by
    by_cases h0:e (xs.take k) x=0
    .exact h0
    .rw[dG U rfl h0]at I;exact I
   refine⟨by rw[<-iz U h0];exact I,fun j y hj hy=>?_⟩;rcases aS j k with TF|TF
   .exact G j y TF hy
   .have:j=k:=by omega
    subst this;rw[U]at hy;injection hy with hy;rw[<-hy];exact h0
 exact fun k x U=>(key xs.length lr).2 k x (aE.1 U).1 U
end
def rK(n:Int):Prop:= -1000000<=n/\n<=1000000
instance (n : Int) : Decidable (rK n) := by unfold rK; infer_instance
def fa(seen:List (Int×Int×Int))(p:Int×Int×Int):Int:=if rK p.1/\rK p.2.1/\rK p.2.2 then(if p∈seen then 12 else 0)else 2
def iE(b:Int×Int×Rat):Int×Int:=(min b.1 b.2.1,max b.1 b.2.1)
def jw(n:Nat)(i:Int):Prop:=0<=i/\i<n
instance (n : Nat) (i : Int) : Decidable (jw n i) := by unfold jw; infer_instance
def fp(n:Nat)(seen:List (Int×Int×Rat))(b:Int×Int×Rat):Int:=
 if jw n b.1/\jw n b.2.1 then(if b.1=b.2.1 then 3 else if iE b∈seen.map iE then 5 else if b.2.2<=0 then 2 else 0)else 6
def j7(s:Int×Int×Rat):Int×Int:=(s.1,s.2.1)
def lu(n:Nat)(seen:List (Int×Int×Rat))(s:Int×Int×Rat):Int:=
 if jw n s.1 then(if 0<=s.2.1/\s.2.1<=2 then(if j7 s∈seen.map j7 then 5 else if s.2.2<0 then 2 else 0)else 2)else 6
def eW(f:eh):Int:=
 if 20<f.nodes.length\/60<f.bars.length\/60<f.dB.length then 8 else
  if fZ fa [] f.nodes≠0 then fZ fa [] f.nodes else
   if fZ (fp f.nodes.length) [] f.bars≠0 then fZ (fp f.nodes.length) [] f.bars else fZ (lu f.nodes.length) [] f.dB
def pQ(n:Nat)(x:Ld):Int:=if jw n x.1 then(if rK x.2.1/\rK x.2.2.1/\rK x.2.2.2 then 0 else 2)else 6
def Gt(n:Nat)(l:List Ld):Int:=if 200<l.length then 8 else fZ (fun _=>pQ n) [] l
def mK(f:eh)(l:List Ld):Int:=if eW f≠0 then eW f else Gt f.nodes.length l
theorem ve{seen:List (Int×Int×Int)}:fa seen p=0↔(rK p.1/\rK p.2.1/\rK p.2.2)/\p∉seen:=by
 unfold fa;split<;>rename_i h
 .split<;>rename_i G<;>simp[h,G]
 .simp[h]
theorem oy{n:Nat}:fp n seen b=0↔(jw n b.1/\jw n b.2.1)/\b.1≠b.2.1/\iE b∉seen.map iE/\0<b.2.2:=by
 unfold fp;rw[<-Rat.not_le];by_cases h:jw n b.1/\jw n b.2.1
 .rw[aM h];by_cases G:b.1=b.2.1
  .rw[aM G];exact⟨(fun e=>by cases e),fun e=>absurd G e.2.1⟩
  .rw[aJ G];by_cases h3:iE b∈seen.map iE
   .rw[aM h3];exact⟨(fun e=>by cases e),fun e=>absurd h3 e.2.2.1⟩
   .rw[aJ h3];by_cases h4:b.2.2<=0
    .rw[aM h4];exact⟨(fun e=>by cases e),fun e=>absurd h4 e.2.2.2⟩
    .rw[aJ h4];exact⟨fun _=>⟨h,G,h3,h4⟩,fun _=>rfl⟩
 .rw[aJ h];exact⟨(fun e=>by cases e),fun e=>absurd e.1 h⟩
theorem tV{n:Nat}{s:Int×Int×Rat}:lu n seen s=0↔jw n s.1/\(0<=s.2.1/\s.2.1<=2)/\j7 s∉seen.map j7/\0<=s.2.2:=by
 unfold lu;rw[<-Rat.not_lt];by_cases h:jw n s.1<;>by_cases G:0<=s.2.1/\s.2.1<=2<;>by_cases h3:j7 s∈seen.map j7<;>by_cases h4:s.2.2<0<;>simp only[h,G,h3,h4]<;>simp
theorem KY{n:Nat}:pQ n x=0↔jw n x.1/\rK x.2.1/\rK x.2.2.1/\rK x.2.2.2:=by
 unfold pQ;split<;>rename_i h
 .split<;>rename_i G<;>simp[h,G]
 .simp[h]
theorem ya(h:eW f=0):(f.nodes.length<=20/\f.bars.length<=60/\f.dB.length<=60)/\fZ fa [] f.nodes=0/\fZ (fp f.nodes.length) [] f.bars=0/\fZ (lu f.nodes.length) [] f.dB=0:=by
 unfold eW at h;split at h<;>rename_i I
 .cases h
 .split at h<;>rename_i G
  .exact absurd h G
  .split at h<;>rename_i h3
   .exact absurd h h3
   .exact⟨be,by simpa using G,by simpa using h3,h⟩
theorem lQ(h:eW f=0):xt f:=by
 obtain⟨⟨I,G,h3⟩,W,hb,hs⟩:=ya h;refine⟨fun p hp=>?_,fun b QX=>?_,fun s VM=>?_,I,G,h3⟩
 .obtain⟨k,K⟩:=aU hp;exact(ve.1 (j8 W k p K)).1
 .obtain⟨k,K⟩:=aU QX;exact(oy.1 (j8 hb k b K)).1
 .obtain⟨k,K⟩:=aU VM;have:=tV.1 (j8 hs k s K);exact⟨this.1,this.2.1⟩
theorem MD{n:Nat}(h:Gt n l=0):Ir n l:=by
 unfold Gt at h;split at h<;>rename_i I
 .cases h
 .refine⟨be,fun x U=>?_⟩;obtain⟨k,K⟩:=aU U;exact KY.1 (j8 h k x K)
theorem q8(h:mK f l=0):eW f=0/\Gt f.nodes.length l=0:=by
 unfold mK at h;split at h<;>rename_i I
 .exact absurd h I
 .exact⟨by simpa using I,h⟩
theorem mg(n:Int)(w:World):eH PG GT.sJ #[iV n,iV 1000000] w (eR w fun v' _=>∃d,v'= .bool d/\(d=true↔rK n)):=by
 have V:=bR w;refine xZ bv ?_;refine⟨-1000000,bi,?_⟩;apply bS<;>intro I
 .intro J8 we re;have I:=aK I;exact⟨_,rfl,V.tr re.cZ,_,rfl,by rw[decide_eq_true_iff];exact⟨fun h=>⟨I,h⟩,fun h=>h.2⟩⟩
 .intro J8 we re;have I:=aG I;exact⟨_,rfl,V.tr re.cZ,_,rfl,(fun h=>by cases h),fun h=>absurd h.1 I⟩
theorem KZ(n:Int)(w:World)(an ab aq:Option Addr)(ln cn nb cb nq cq:Nat):eH PG GT.AD #[.agg #[.slice an ln cn,.slice ab nb cb,.slice aq nq cq],iV n] w (eR w fun v' _=>∃d,v'= .bool d/\(d=true↔jw ln n)):=by
 have V:=bR w;refine DK bv ?_;apply bS<;>intro I
 .intro J8 we re;have I:=aK I;exact⟨_,rfl,V.tr re.cZ,_,rfl,by rw[decide_eq_true_iff];exact⟨fun h=>⟨I,h⟩,fun h=>h.2⟩⟩
 .intro J8 we re;have I:=aG I;exact⟨_,rfl,V.tr re.cZ,_,rfl,(fun h=>by cases h),fun h=>absurd h.1 I⟩
theorem Gu(x y0 y1 y2:Int)(n:Nat)(w:World):eH PG GT.oA #[.agg #[iV x,iV y0,iV y1,iV y2],iV n] w (eR w fun v' _=>v'=iV (pQ n (x,y0,y1,y2))):=by
 have V:=bR w;refine sW bv ?_;apply bS<;>intro I
 .have I:=aK I;exact rtn V fun J8 we re=>by show iV _=_;rw[pQ,aJ (by unfold jw;omega)]
 have I:=aG I;apply bS<;>intro G
 .have G:=aK G;exact rtn V fun J8 we re=>by show iV _=_;rw[pQ,aJ (by unfold jw;omega)]
 have G:=aG G;have hh:jw n x:=by unfold jw;omega
 refine cQ (cE V (fun _ J v Y=>∃d,v= .bool d/\(d=true↔rK y0)) (fun O J r=>mg _ J) ?_);rintro O _ _ _ PA r L V E ⟨d0,rfl,PQ⟩
 cases d0
 .have PQ:¬rK y0:=fun h=>by have:=PQ.2 h;cases this
  exact rtn V fun J8 we re=>by show iV _=_;rw[pQ,aM hh,aJ (fun h=>PQ h.1)]
 replace PQ:=PQ.1 rfl;refine cQ (cE V (fun _ J v Y=>∃d,v= .bool d/\(d=true↔rK y1)) (fun O J r=>mg _ J) ?_);rintro O _ _ _ Oy r L V E ⟨d1,rfl,Pj⟩
 cases d1
 .have Pj:¬rK y1:=fun h=>by have:=Pj.2 h;cases this
  exact rtn V fun J8 we re=>by show iV _=_;rw[pQ,aM hh,aJ (fun h=>Pj h.2.1)]
 replace Pj:=Pj.1 rfl;refine cQ (cE V (fun _ J v Y=>∃d,v= .bool d/\(d=true↔rK y2)) (fun O J r=>mg _ J) ?_);rintro O _ _ _ PH r L V E ⟨d2,rfl,QY⟩
 cases d2
 .have QY:¬rK y2:=fun h=>by have:=QY.2 h;cases this
  exact rtn V fun J8 we re=>by show iV _=_;rw[pQ,aM hh,aJ (fun h=>QY h.2.2)]
 replace QY:=QY.1 rfl;exact rtn V fun J8 we re=>by show iV _=_;rw[pQ,aM hh,aM ⟨PQ,Pj,QY⟩]
theorem EJ{n:Nat}(F:Old S w)(hl:o9 w S vl l):eH PG GT.nC #[vl,iV n] w (eR w fun v' _=>v'=iV (Gt n l)):=by
 have V:=bR w;obtain⟨al,cl,rfl,QW,SA⟩:=hl.shape;unfold maxLen at SA;refine rE bv ?_;apply bS<;>intro I
 .have I:=aK I;exact rtn V fun J8 we re=>by show iV _=_;rw[Gt,aM be]
 have I:=aG I
 refine⟨Nat×World×Iv,fun z=>⟨[(1,iZ n),(11,sV al l.length cl),(12,iZ l.length),(13,iN z.1)],[],0,z.2.2,z.2.1⟩,fun z=>l.length-z.1,
  fun z=>z.1<=l.length/\Bq w z.2.1/\Gt n l=fZ (fun _=>pQ n) (l.take z.1) (l.drop z.1),?_,?_⟩
 .intro O J R;exact⟨(0,J,[]),⟨aR _,V.tr R.cZ,by rw[Gt,aJ be];rfl⟩,sbgn [] R⟩
 rintro⟨i,w1,iv⟩ ⟨D,V,hE⟩;dsimp only at D V hE ⊢;apply bS<;>intro Ou
 .have Ou:=dL Ou;obtain⟨x,U⟩:=gO l i;obtain⟨adx,Z,QU,hP,-,Pq⟩:=hl.load bi U;have hP:Z=[iV x.1,iV x.2.1,iV x.2.2.1,iV x.2.2.2]:=hP;subst hP;refine⟨adx,QU,be,[iV x.1,iV x.2.1,iV x.2.2.1,iV x.2.2.2],rfl,rdO Pq V F,?_⟩;refine cQ (cE V (pE (iV (pQ n x))) (fun O J r=>Gu _ _ _ _ n J) ?_);rintro O _ _ _ PA r L V E rfl;obtain⟨c,hc⟩:=exq (pQ n x);rw[hc];apply bS<;>intro hd
  .have hd:c≠0:=by simpa using hd
   exact rtn V fun J8 we re=>by show iV _=_;rw[hE,dG U hc hd]
  have hd:c=0:=by simpa using hd
  rw[hd]at hc;rw[iz U hc]at hE;refine inc i ?_;intro I' w6 R;exact⟨(i+1,w6,_),⟨Ou,V.tr R.cZ,hE⟩,sbgn [] R,dec Ou⟩
 have Ou:=dE D Ou;rw[kH be]at hE;exact rtn V fun J8 we re=>by show iV _=_;rw[hE]
end Go.Ex
