/- Texts L43 to X144: lemmas, each with its conditions. -/
import Derived.Test.YtgkpbdkechfgmaaGreatP11
namespace Go.Ex
variable{A M:List (List Rat)}{pv:List Nat}{B j:Nat}{v:Nat->Rat}
theorem Bp(f:Nat->Rat):∀n,cZ f n=ju (List.range n) f
 |0=>rfl
 |n+1=>by
  rw[cZ,Bp f n,bM,wV];show _=_+(_+0)
  rw[bW]
theorem Bq(g:Nat->Rat):∀l:List Nat,ju l g=cZ (fun k=>g (l.getD k 0)) l.length
 |[]=>rfl
 |t::l=>by
  rw[List.length_cons,zE];show g t+ju l g=g t+_;rw[Bq g l];rfl
def mulR(M:List (List Rat))(n:Nat)(x:Nat->Rat)(j:Nat):Rat:=cZ (fun t=>dD M j t*x t) n
theorem eJ.dot{E:Mx}{r n:Nat}(h:eJ E r n v):∃c:Nat->Rat,(∀t,t<n->v t=cZ (fun i=>c i*E i t) r)∧∀x:Nat->Rat,cZ (fun t=>v t*x t) n=cZ (fun i=>c i*cZ (fun t=>E i t*x t) n) r:=by
 obtain⟨c,hc⟩:=h;refine⟨c,hc,fun x=>?_⟩;rw[cL (g:=fun t=>cZ (fun i=>c i*E i t*x t) r) fun t ht=>by rw[hc t ht,<-iy],lP];exact cL fun i _=>by rw[<-eR];exact cL fun t _=>Rat.mul_assoc _ _ _
section
variable{M:List (List Rat)}{n:Nat}{x:Nat->Rat}{b:List Rat}
theorem KR(hM:fZ n M)(h:∀j,j<M.length->mulR M n x j=0){c:Nat}(hc:c<=n):∀i,i<M.length->mulR (cN M c).1 n x i=0:=fun i hi=>by
 obtain⟨c,_,h2⟩:=((jV hM c hc).1 i hi).dot;unfold mulR;rw[h2 x,cL (g:=fun _=>0) fun j hj=>by rw[show cZ (fun t=>dD M j t*x t) n=0 from h j hj,bC],dm]
theorem El(hM:fZ n M){c:Nat}(hc:c<=n)(h:∀i,i<M.length->mulR (cN M c).1 n x i=0):∀j,j<M.length->mulR M n x j=0:=fun j hj=>by
 obtain⟨c,_,h2⟩:=((jV hM c hc).2 j hj).dot;unfold mulR;rw[h2 x,cL (g:=fun _=>0) fun i hi=>by rw[show cZ (fun t=>dD (cN M _).1 i t*x t) n=0 from h i hi,bC],dm]
theorem jw(hM:fZ n M){t:Nat}(hj:j<M.length):(t<n->dD (dH M b) j t=dD M j t)∧dD (dH M b) j n=b.getD j 0:=by
 have hr:=aB hj;have hl:(M[j]).length=n:=hM _ (aY hj);have e:(dH M b).getD j []=M[j]++[b.getD j 0]:=by rw[dH,List.getD,List.getElem?_mapIdx,hr];rfl
 have e2:M.getD j []=M[j]:=by rw[List.getD,hr];rfl
 refine⟨fun ht=>?_,?_⟩
 ·rw[dD,dD,e,e2,List.getD,aL (by omega),<-List.getD]
 ·rw[dD,e,List.getD,aN (by omega),hl,bI];rfl
def Em(x:Nat->Rat)(n t:Nat):Rat:=if t<n then x t else -1
theorem Gc(hM:fZ n M)(hj:j<M.length):mulR (dH M b) (n+1) (Em x n) j=mulR M n x j-b.getD j 0:=by
 have h:=fun t=>jw (b:=b) (t:=t) hM hj;unfold mulR;rw[cZ,(h 0).2,show Em x n n= -1 by unfold Em;rw[aJ (Nat.lt_irrefl n)],cL (g:=fun t=>dD M j t*x t) fun t ht=>by rw[(h t).1 ht];unfold Em;rw[if_pos ht]];grind
def ed(M:List (List Rat))(b:List Rat)(n:Nat):Option (List Rat):=
 let e:=cN (dH M b) n
 if ∀j,j<M.length->e.2.length<=j->dD e.1 j n=0 then some (fy e.1 e.2 n e.2.length)else none
theorem jx{x:List Rat}(hM:fZ n M)(h:ed M b n=some x):x.length=n∧∀j,j<M.length->mulR M n (fun t=>x.getD t 0) j=b.getD j 0:=by
 unfold ed at h;dsimp only at h;split at h
 ·rename_i h0;injection h with h;have hW:=gH (b:=b) hM;obtain⟨r1,r2,r3,r4,r5⟩:=dc hW n (Nat.le_succ n);have Qz:=iD (dH M b) n;have Sb:=eH (M:=M) (b:=b);have hl:=eB (dH M b) n;have PZ:x.length=n:=by rw[<-h,jH]
  have Qm:∀j,j<(cN (dH M b) n).2.length->x.getD ((cN (dH M b) n).2.getD j 0) 0=dD (cN (dH M b) n).1 j n:=fun j hj=>by
   rw[<-h];exact oE (F:=fy (cN (dH M b) n).1 (cN (dH M b) n).2 n) (f:=fun i=>dD (cN (dH M b) n).1 i n) (fun i=>gV _ _ n i) (jH _ _ n) Qz.2.1 r4 _ (aF _) hj
  have Qc:∀t,t∉(cN (dH M b) n).2->x.getD t 0=0:=fun t ht=>by rw[<-h];exact tQ ht
  refine⟨PZ,fun j hj=>?_⟩;have key:=El (M:=dH M b) (x:=Em (fun t=>x.getD t 0) n) hW (c:=n) (Nat.le_succ n) (fun i hi=>?_) j (by rw[Sb];exact hj)
  ·rw[Gc hM hj]at key;grind
  ·unfold mulR;rw[cZ,show Em (fun t=>x.getD t 0) n n= -1 by unfold Em;rw[aJ (Nat.lt_irrefl n)],cL (g:=fun t=>dD (cN (dH M b) n).1 i t*x.getD t 0) fun t ht=>by unfold Em;rw[if_pos ht]];rcases aP i (cN (dH M b) n).2.length with h1|h1
   ·rw[eh (i:=(cN (dH M b) n).2.getD i 0) (r4 _ (by rw[List.getD,aB h1];exact aY _)) fun t ht OD=>?_,r5 i i h1 (by omega),if_pos rfl,Qm i h1]
    ·grind
    ·by_cases hp:t∈(cN (dH M b) n).2
     ·obtain⟨k,hk,rfl⟩:=sP hp;rw[r5 k i hk (by omega),aJ (fun e=>OD (by rw[e])),bE]
     ·rw[Qc t hp,bC]
   ·rw[cL (g:=fun _=>0) fun t ht=>by rw[r3 i t h1 (by omega) ht,bE],dm,h0 i (by rw[<-Sb];exact hi) h1];grind
 ·cases h
theorem lT(hM:fZ n M)(h:ed M b n=none):∃y:Nat->Rat,(∀t,t<n->cZ (fun j=>y j*dD M j t) M.length=0)∧cZ (fun j=>y j*b.getD j 0) M.length≠0:=by
 unfold ed at h;dsimp only at h;split at h
 ·cases h
 ·rename_i h0;obtain⟨i,hi,h1,h2⟩:∃i,i<M.length∧(cN (dH M b) n).2.length<=i∧dD (cN (dH M b) n).1 i n≠0:=by
   refine Decidable.byContradiction fun Qy=>h0 fun j hj hr=>Decidable.byContradiction fun h2=>Qy ⟨j,hj,hr,h2⟩
  have hW:=gH (b:=b) hM;have Sb:=eH (M:=M) (b:=b);have hl:=eB (dH M b) n;obtain⟨r1,r2,r3,r4,r5⟩:=dc hW n (Nat.le_succ n);obtain⟨y,hy⟩:=(jV hW n (Nat.le_succ n)).1 i (by omega);rw[Sb]at hy;refine⟨y,fun t ht=>?_,?_⟩
  ·have h3:=hy t (by omega);rw[r3 i t h1 (by omega) ht]at h3;rw[h3];exact cL fun j hj=>by rw[(jw (b:=b) hM hj).1 ht]
  ·have h3:=hy n (by omega);rw[cL (g:=fun j=>y j*b.getD j 0) fun j hj=>by rw[(jw (b:=b) (t:=n) hM hj).2]]at h3;rw[<-h3];exact h2
theorem Br{x:Nat->Rat}(hM:fZ n M)(h:∀j,j<M.length->mulR M n x j=b.getD j 0):∃z,ed M b n=some z:=by
 cases e:ed M b n with
 |some z=>exact⟨z,rfl⟩
 |none=>
  obtain⟨y,h1,h2⟩:=lT hM e;refine absurd ?_ h2;rw[cL fun j hj=>by rw[<-h j hj,mulR,<-eR],lP,cL (g:=fun _=>0) fun t ht=>?_,dm];rw[cL (g:=fun j=>y j*dD M j t*x t) fun j _=>(Rat.mul_assoc _ _ _).symm,iy,h1 t ht,bE]
theorem KU(M:List (List Rat))(n:Nat)(x y:Nat->Rat)(j:Nat):mulR M n (fun t=>x t-y t) j=mulR M n x j-mulR M n y j:=by
 unfold mulR;rw[<-tR];exact cL fun t _=>by grind
theorem p8(M:List (List Rat))(b:List Rat):jo M b=dH M b:=rfl
theorem En{r i t:Nat}(h:i<r):dD (A.take r) i t=dD A i t:=by
 rw[dD,dD,show(A.take r).getD i []=A.getD i [] by rw[List.getD,bT h,<-List.getD]]
theorem wh(A:List (List Rat))(pv:List Nat)(n:Nat):∀k,k<=pv.length->fy (A.take pv.length) pv n k=fy A pv n k
 |0,_=>rfl
 |k+1,h=>by rw[gV,gV,wh A pv n k (by omega),En (by omega)]
theorem wi(A:List (List Rat))(pv:List Nat)(n c:Nat):∀k,k<=pv.length->gI (A.take pv.length) pv n c k=gI A pv n c k
 |0,_=>rfl
 |k+1,h=>by rw[gz,gz,wi A pv n c k (by omega),En (by omega)]
abbrev cV(M:List (List Rat))(n:Nat):List (List Rat):=eU (cN M n).1 (cN M n).2 n n
theorem zS(hM:fZ n M)(hW:BF M n B):ko M n=cV M n:=by
 obtain⟨e1,e2⟩:=lS hM hW;unfold ko cV eU;rw[e1,e2];exact List.map_congr_left fun c _=>wi _ _ n c _ (aF _)
theorem qn(hM:fZ n M)(hW:BF (dH M b) (n+1) B):oI M b n=ed M b n:=by
 have hWl:=gH (b:=b) hM;obtain⟨e1,e2⟩:=lS hWl hW;have hl:=eB (dH M b) n;have Sb:=eH (M:=M) (b:=b);obtain⟨r1,r2,r3,r4,r5⟩:=dc hWl n (Nat.le_succ n);have e:cN (dH M b) (n+1)=db (cN (dH M b) n) n:=by
  unfold cN;rw[bM,List.foldl_append];rfl
 unfold oI ed;dsimp only
 rcases j1 n r2 with⟨k1,k2⟩|⟨k,k1,k2,k3,k4⟩
 ·rw[aJ (by rw[p8,e1,e,k1];exact fun h=>by have:=r4 n h;omega),if_pos fun j hj hr=>k2 j hr (by omega),p8,e1,e2,e,k1,wh _ _ n _ (aF _)]
 ·rw[if_pos (by rw[p8,e1,e,k4];simp),aJ fun h=>k3 (h k (by omega) k1)]
theorem KV(hM:fZ n M){x:List Rat}(h:∀j,j<M.length->mulR M n (fun t=>x.getD t 0) j=0):Diff (cN M n).1 (cN M n).2 n x:=by
 obtain⟨r1,r2,r3,r4,r5⟩:=dc hM n (aF _);have Qz:=iD M n;have hl:=eB M n;refine⟨Qz.2.1,r4,r2,r5,fun j hj=>?_⟩;rw[<-Bp];have h1:=KR hM h (aF n) j (by omega);unfold mulR at h1;rw[h1,dD,List.getD,List.getElem?_eq_none (by rw[r1.getD hj];exact aF _)];rfl
theorem lV(M:List (List Rat))(n:Nat):(cV M n).length=(jC (cN M n).2 n).length:=by unfold cV eU;rw[aK]
theorem zT(M:List (List Rat))(n:Nat){k:Nat}(hk:k<(cV M n).length):(cV M n).getD k []=gI (cN M n).1 (cN M n).2 n ((jC (cN M n).2 n).getD k 0) (cN M n).2.length:=by
 obtain⟨r,hr⟩:∃r,(cV M n)[k]? =some r:=⟨_,aB hk⟩
 rw[List.getD,hr];exact(oF hr).2
theorem jy(M:List (List Rat))(n:Nat):fZ n (cV M n):=fun r hr=>by
 obtain⟨k,hk⟩:=aS hr;rw[(oF hk).2,kD]
theorem p9(hM:fZ n M){k:Nat}(hk:k<(cV M n).length):∀j,j<M.length->mulR M n (dD (cV M n) k) j=0:=by
 obtain⟨r1,r2,r3,r4,r5⟩:=dc hM n (aF _);have Qz:=iD M n;have hl:=eB M n;have hf:=lO.1 (pY (by rw[<-lV];exact hk));refine El hM (aF n) fun i hi=>?_;have OE:=zT M n hk;generalize hc:(jC (cN M n).2 n).getD k 0=c at hf OE;have Qm:∀j,j<(cN M n).2.length->dD (cV M n) k ((cN M n).2.getD j 0)= -(dD (cN M n).1 j c):=fun j hj=>by
  rw[dD,OE];exact oE (F:=gI (cN M n).1 (cN M n).2 n c) (f:=fun i=> -(dD (cN M n).1 i c)) (fun i=>gz _ _ n c i) (kD _ _ n c) Qz.2.1 r4 _ (aF _) hj
 have Qc:∀t,t∉(cN M n).2->dD (cV M n) k t=if t=c then 1 else 0:=fun t ht=>by rw[dD,OE];exact pX ht hf.1
 unfold mulR;rcases aP i (cN M n).2.length with h1|h1
 ·have hpi:(cN M n).2.getD i 0∈(cN M n).2:=by rw[List.getD,aB h1];exact aY _
  have OD:(cN M n).2.getD i 0≠c:=fun e=>hf.2 (e▸hpi);have e:cZ (fun t=>dD (cN M n).1 i t*dD (cV M n) k t) n=cZ (fun t=>(if t=(cN M n).2.getD i 0 then -(dD (cN M n).1 i c)else 0)+(if t=c then dD (cN M n).1 i c else 0)) n:=by
   refine cL fun t ht=>?_;by_cases hp:t∈(cN M n).2
   ·obtain⟨j,hj,rfl⟩:=sP hp;rw[Qm j hj,r5 j i hj (by omega),aJ (show ¬(cN M n).2.getD j 0=c from fun e=>hf.2 (e▸hp)),bW];by_cases Pa:i=j
    ·rw[if_pos Pa,if_pos (by rw[Pa]),Pa,bp]
    ·have hne2:(cN M n).2.getD j 0≠(cN M n).2.getD i 0:=fun e2=>Pa (by
      rcases bs i j with h5|h5|h5
      ·have:(cN M n).2.getD i 0<(cN M n).2.getD j 0:=Jz Qz.2.1 h5 hj;omega
      ·exact h5
      ·have:(cN M n).2.getD j 0<(cN M n).2.getD i 0:=Jz Qz.2.1 h5 h1
       omega)
     rw[aJ Pa,aJ hne2,bE]
   ·rw[Qc t hp,aJ (show ¬t=(cN M n).2.getD i 0 from fun e2=>hp (e2▸hpi)),Rat.zero_add];by_cases htc:t=c
    ·rw[if_pos htc,if_pos htc,htc,Rat.mul_one]
    ·rw[aJ htc,aJ htc,bC]
  rw[e,gJ,eh (i:=(cN M n).2.getD i 0) (r4 _ hpi) fun t _ OD=>aJ OD,eh (i:=c) hf.1 fun t _ OD=>aJ OD,if_pos rfl,if_pos rfl];grind
 ·rw[cL (g:=fun _=>0) fun t ht=>by rw[r3 i t h1 (by omega) ht,bE],dm]
theorem Cw(hM:fZ n M)(h:∀j,j<M.length->mulR M n x j=0):∃c:Nat->Rat,∀t,t<n->x t=cZ (fun k=>c k*dD (cV M n) k t) (cV M n).length:=by
 obtain⟨l,hl⟩:∃l,l=(List.range n).map x:=⟨_,rfl⟩
 have hx:∀t,t<n->l.getD t 0=x t:=fun t ht=>by rw[hl,List.getD,aM,bq ht];rfl
 have hd:=KV (x:=l) hM fun j hj=>Eq.trans (cL fun t ht=>congrArg (dD M j t* ·) (hx t ht)) (h j hj);refine⟨fun k=>l.getD ((jC (cN M n).2 n).getD k 0) 0,fun t ht=>?_⟩;have h1:=hd.rest ht;obtain⟨r1,r2,r3,r4,r5⟩:=dc hM n (aF _);have h0:(fy (cN M n).1 (cN M n).2 n (cN M n).2.length).getD t 0=0:=by
  by_cases hp:t∈(cN M n).2
  ·obtain⟨j,hj,rfl⟩:=sP hp;rw[hd.xin hj,dD,List.getD,List.getElem?_eq_none (by rw[r1.getD (by omega)];exact aF _)];rfl
  ·exact tQ hp
 rw[h0,bE,bW,hx t ht,Bq]at h1;rw[h1,lV];exact cL fun k hk=>by rw[dD,zT M n (by rw[lV];exact hk)]
theorem Hj{c:Nat->Rat}(h:∀t,t<n->cZ (fun k=>c k*dD (cV M n) k t) (cV M n).length=0):∀k,k<(cV M n).length->c k=0:=fun k hk=>by
 have Uy:k<(jC (cN M n).2 n).length:=by rw[<-lV];exact hk
 have hf:=lO.1 (pY Uy);have h1:=h _ hf.1;obtain⟨r,hr⟩:∃r,(cV M n)[k]? =some r:=⟨_,aB hk⟩
 rw[eh hk fun i hi OD=>?_]at h1
 ·rw[dD,show(cV M n).getD k []=r by rw[List.getD,hr];rfl,zD hr hr,if_pos rfl,Rat.mul_one]at h1;exact h1
 ·obtain⟨s,hs⟩:∃s,(cV M n)[i]? =some s:=⟨_,aB hi⟩
  rw[dD,show(cV M n).getD i []=s by rw[List.getD,hs];rfl,zD hr hs,aJ OD,bC]
end
theorem zU(p:Nat->Bool):∀l:List Nat,l.length=(l.filter p).length+(l.filter fun c=> !p c).length
 |[]=>rfl
 |c::l=>by
  have ih:=zU p l;rw[List.filter_cons,List.filter_cons]
  cases p c with
  |true=>simp;omega
  |false=>simp;omega
theorem KW{n:Nat}(hn:pv.Nodup)(hl:∀p∈pv,p<n):(jC pv n).length=n-pv.length:=by
 have h1:(List.range n).length=((List.range n).filter fun c=>decide (c∉pv)).length+((List.range n).filter fun c=>decide (c∈pv)).length:=by
  refine(zU (fun c=>decide (c∉pv)) (List.range n)).trans ?_;congr 2;refine List.filter_congr fun c _=>?_;by_cases h:c∈pv<;>simp[h]
 have h2:((List.range n).filter fun c=>decide (c∈pv)).length=pv.length:=by
  refine(List.Perm.length_eq ?_);refine(List.perm_ext_iff_of_nodup (List.Pairwise.filter _ List.nodup_range) hn).2 fun c=>?_;rw[List.mem_filter,List.mem_range,decide_eq_true_eq];exact⟨fun h=>h.2,fun h=>⟨hl c h,h⟩⟩
 rw[List.length_range]at h1;unfold jC;omega
theorem zV{n:Nat}(hM:fZ n M):(cV M n).length=n-(cN M n).2.length:=by
 obtain⟨r1,r2,r3,r4,r5⟩:=dc hM n (aF _);have Qz:=iD M n;rw[lV];exact KW (Qz.2.1.imp fun h=>Nat.ne_of_lt h) r4
end Go.Ex
namespace Go.Ex
open Go Go.Sx Go.Proofs
variable{after:Array Edge}{z:Int}{p:Int×Int×Rat}{M:List (List Rat)}{css:List (List Value)}{l:List Int}{cs:List Value}{j:Nat}{C S S':Nat->Prop}{guard:Option (Nat×Bool)}{a:Option Addr}{dst:Option Tmp}{K:SV->Hp->Nat->Iv->World->Prop}{v:Value}{w w2:World}{f:fA}
theorem cR.nil:cR w S (.slice none 0 0) []:=⟨[],⟨by decide,rfl,fun u hu=>absurd hu (by simp),none,0,rfl,aF _,fun j u hu=>absurd hu (by simp)⟩,rfl,fun i u x h1 h2=>absurd h2 (by simp)⟩
theorem dR.nil:dR w S (.slice none 0 0) []:=⟨by decide,rfl,fun u hu=>absurd hu (by simp),none,0,rfl,aF _,fun j u hu=>absurd hu (by simp)⟩
theorem Dl(M:List (List Rat)):(dT M 0).1=[]∧(dT M 0).2.1=[]∧(dT M 0).2.2=[]:=by simp[dT,dE]
theorem Dm(M:List (List Rat)):ko M 0=[]:=by simp[ko,eU]
set_option maxHeartbeats 1000000 in
theorem xR(hC:Old C w)(hS:Old S w)(hM:kz w C S v M)(hlen:fZ 0 M)(hR:M.length<=1000):
  eA PG N.fe #[.agg #[v,.int .i64 0],.int .i64 0] w (eF w fun v' w2=>v'= .agg #[.slice none 0 0,.int .i64 0,.slice none 0 0,.slice none 0 0]):=by
 have hw:=bR w;obtain⟨am,cm,rfl,Rk,Qg⟩:=kz.shape hM;unfold maxLen at Qg;refine j4 (by simp) ?_;refine⟨0,0,rfl,rfl,aF _,by omega,by omega,World,fun z=>⟨[(1,iZ 0),(2,pP 0 0),(4,pP 1 0),(5,pP 2 0),(6,.o (.s 3 0 0 0)),(27,iZ 0),(28,iZ 0)],[(3,.arr T.int []),(2,.box T.dX [.v (.slice none 0 0),.v (.int .i64 0),.v (.slice none 0 0),.v (.slice none 0 0)]),(1,.box T.dX [.v (.slice none 0 0),.v (.int .i64 0),.v (.slice none 0 0),.v (.slice none 0 0)]),(0,.box T.dw [.v (.slice am M.length cm),.v (.int .i64 0)])],4,[],z⟩,fun z=>0,fun z=>eE w.heap.size w z,?_,?_⟩
 ·intro O w' r3;exact⟨w',hw.tr r3.cQ,Sub.gn [] r3⟩
 rintro w1 hw;dsimp only at hw ⊢
 refine⟨Nat×World,fun z=>⟨[(38,iN z.1),(1,iZ 0),(2,pP 0 0),(4,pP 1 0),(5,pP 2 0),(6,.o (.s 3 0 0 0)),(36,sV am M.length cm),(37,iZ M.length)],[(3,.arr T.int []),(2,.box T.dX [.v (.slice none 0 0),.v (.int .i64 0),.v (.slice none 0 0),.v (.slice none 0 0)]),(1,.box T.dX [.v (.slice none 0 0),.v (.int .i64 0),.v (.slice none 0 0),.v (.slice none 0 0)]),(0,.box T.dw [.v (.slice am M.length cm),.v (.int .i64 0)])],5,[],z.2⟩,fun z=>M.length-z.1,
  fun z=>z.1<=M.length∧eE w.heap.size w z.2,?_,?_⟩
 ·intro O w' r3;exact⟨(0,w'),⟨aQ _,hw.tr r3.cQ⟩,Sub.gn [] r3⟩
 rintro⟨i,w1⟩ ⟨hi,hw⟩;dsimp only at hi hw ⊢;refine dK.mk ?_ ?_<;>intro OC
 ·have OC:i<M.length:=by simpa using OC
  obtain⟨x,hx⟩:∃r,M[i]? =some r:=⟨_,aB OC⟩
  have PZ:=hlen x (aC hx);obtain rfl:=List.eq_nil_of_length_eq_zero PZ;obtain⟨adm,um,Qd,Oh,km1,km2⟩:=kz.load hM hx;obtain⟨css,⟨-,g1,g2,a0,c0,rfl,g4,g5⟩,PU,R4,On⟩:=Oh;obtain rfl:=List.eq_nil_of_length_eq_zero PU;refine⟨adm,Qd,by omega,.slice a0 0 c0,rd1 km2 hw (hC _ km1),?_⟩;refine .inl ?_;refine⟨[],rfl,g2,fun O w' r Ol=>absurd Ol (by simp),rfl,by omega,by unfold maxLen;omega,World,fun z=>⟨[(9,.o (.w 6 0)),(46,iZ 0),(47,iZ 0),(2,pP 0 0),(4,pP 1 0),(5,pP 2 0),(6,.o (.s 3 0 0 0)),(8,iN i),(36,sV am M.length cm),(37,iZ M.length),(38,iN i),(1,iZ 0)],[(6,.vec T.Rat 4 []),(3,.arr T.int []),(2,.box T.dX [.v (.slice none 0 0),.v (.int .i64 0),.v (.slice none 0 0),.v (.slice none 0 0)]),(1,.box T.dX [.v (.slice none 0 0),.v (.int .i64 0),.v (.slice none 0 0),.v (.slice none 0 0)]),(0,.box T.dw [.v (.slice am M.length cm),.v (.int .i64 0)])],7,[],z⟩,fun z=>0,fun z=>eE w.heap.size w z,?_,?_⟩
  ·intro O w' r3;exact⟨w',hw.tr r3.cQ,Sub.gn [] r3⟩
  rintro w1 hw;dsimp only at hw ⊢;refine⟨World,fun z=>⟨[(9,.o (.w 6 0)),(12,iZ 0),(2,pP 0 0),(4,pP 1 0),(5,pP 2 0),(6,.o (.s 3 0 0 0)),(8,iN i),(36,sV am M.length cm),(37,iZ M.length),(38,iN i),(1,iZ 0)],[(6,.vec T.Rat 4 []),(3,.arr T.int []),(2,.box T.dX [.v (.slice none 0 0),.v (.int .i64 0),.v (.slice none 0 0),.v (.slice none 0 0)]),(1,.box T.dX [.v (.slice none 0 0),.v (.int .i64 0),.v (.slice none 0 0),.v (.slice none 0 0)]),(0,.box T.dw [.v (.slice am M.length cm),.v (.int .i64 0)])],7,[],z⟩,fun z=>0,fun z=>eE w.heap.size w z,?_,?_⟩
  ·intro O w' r3;exact⟨w',hw.tr r3.cQ,Sub.gn [] r3⟩
  rintro w1 hw;dsimp only at hw ⊢;refine⟨((i+1:Nat):Int),wo,?_⟩;intro ρ3 w3 r3;exact⟨(i+1,w3),⟨OC,hw.tr r3.cQ⟩,Sub.gn [] r3,by dsimp only;omega⟩
 refine⟨World,fun z=>⟨[(4,pP 1 0),(5,pP 2 0),(17,pP 5 0),(159,.o (.s 3 0 0 0)),(160,iZ 0),(161,iZ 0)],[(5,.box T.dX [.v (.slice none 0 0),.v (.int .i64 0),.v (.slice none 0 0),.v (.slice none 0 0)]),(3,.arr T.int []),(2,.box T.dX [.v (.slice none 0 0),.v (.int .i64 0),.v (.slice none 0 0),.v (.slice none 0 0)]),(1,.box T.dX [.v (.slice none 0 0),.v (.int .i64 0),.v (.slice none 0 0),.v (.slice none 0 0)]),(0,.box T.dw [.v (.slice am M.length cm),.v (.int .i64 0)])],6,[],z⟩,fun z=>0,fun z=>eE w.heap.size w z,?_,?_⟩
 ·intro O w' r3;exact⟨w',hw.tr r3.cQ,Sub.gn [] r3⟩
 rintro w1 hw;dsimp only at hw ⊢;exact rtn hw fun ρe we re=>rfl
theorem HO(hC:Old C w)(hS:Old S w)(hM:kz w C S v M)(hlen:fZ 0 M)(hR:M.length<=1000):
  eA PG N.fe #[.agg #[v,.int .i64 0],.int .i64 0] w (eF w fun v' w2=>∃vr vp vf,v'= .agg #[vr,.int .i64 0,vp,vf]∧cR w2 (Nw S w w2) vr (dT M 0).1∧dR w2 (Nf w w2) vp (dT M 0).2.1∧dR w2 (Nf w w2) vf (dT M 0).2.2):=by
 refine(xR hC hS hM hlen hR).mono fun v1 w1 h1=>?_;obtain⟨_,e,hb,rfl⟩:=h1;obtain⟨e1,e2,e3⟩:=Dl M;rw[e1,e2,e3];exact⟨_,e,hb,_,_,_,rfl,cR.nil,dR.nil,dR.nil⟩
theorem Aj{n h:Nat}(hC:Old C w)(hS:Old S w)(hM:kz w C S v M)(hlen:fZ n M)(hR:M.length<=1000)(hn:n<=1000)(hB:D8 M n h)(hh:3*h<=90000):
  eA PG N.fe #[.agg #[v,.int .i64 n],.int .i64 n] w (eF w fun v' w2=>∃vr vp vf,v'= .agg #[vr,.int .i64 n,vp,vf]∧cR w2 (Nw S w w2) vr (dT M n).1∧dR w2 (Nf w w2) vp (dT M n).2.1∧dR w2 (Nf w w2) vf (dT M n).2.2):=by
 rcases bH n with h0|h0
 ·subst h0;exact HO hC hS hM hlen hR
 ·exact vv hC hS hM hlen h0 hn hR (aF _) hB hh
set_option maxHeartbeats 1000000 in
theorem HP(hC:Old C w)(hS:Old S w)(hM:kz w C S v M)(hlen:fZ 0 M)(hR:M.length<=1000):
  eA PG N.gW #[.agg #[v,.int .i64 0]] w (eF w fun v' w2=>cR w2 (Nf w w2) v' (ko M 0)):=by
 have hw:=bR w;obtain⟨am,cm,rfl,Rk,Qg⟩:=kz.shape hM;unfold maxLen at Qg;refine j3 (by simp) ?_
 refine cF (cO (Φ:=fun _ w' v w2=>v= .agg #[.slice none 0 0,.int .i64 0,.slice none 0 0,.slice none 0 0]) (fun O w' r=>by
  obtain⟨rv,m1,m2,m3⟩:=hM
  exact xR (C:=C) (S:=S) (oS hC r) (oS hS r) ⟨rv,m1.cJ fun g hg=>(hw.tr r.cQ).block g (hC g hg),m2,fun i u x h1 h2=>cI.cJ (m3 i u x h1 h2) fun g hg=>(hw.tr r.cQ).block g (hS g hg)⟩ hlen hR) ?_)
 rintro O Pg v1 PS r he Oe rfl;replace hw:=hw.tr Oe;generalize (Pg.heap.size,PS.heap.size)::[]=OJ at*
 refine⟨0,0,rfl,rfl,aF _,by omega,by omega,World×Iv,fun z=>⟨[(1,pP 0 0),(3,pP 1 0),(4,.o (.s 2 0 0 0)),(20,sV none 0 0),(21,iZ 0),(22,iZ 0)],[(2,.arr T.bool []),(1,.box T.dX [.v (.slice none 0 0),.v (.int .i64 0),.v (.slice none 0 0),.v (.slice none 0 0)]),(0,.box T.dw [.v (.slice am M.length cm),.v (.int .i64 0)])],3,z.2,z.1⟩,fun z=>0,fun z=>eE w.heap.size w z.1,?_,?_⟩
 ·intro O w' r3;exact⟨(w',_),hw.tr r3.cQ,Sub.gn [] r3⟩
 rintro⟨w1,iv⟩ hw;dsimp only at hw ⊢;refine⟨World×Iv,fun z=>⟨[(32,iZ 0),(7,sV none 0 0),(1,pP 0 0),(3,pP 1 0),(4,.o (.s 2 0 0 0)),(31,iZ 0)],[(2,.arr T.bool []),(1,.box T.dX [.v (.slice none 0 0),.v (.int .i64 0),.v (.slice none 0 0),.v (.slice none 0 0)]),(0,.box T.dw [.v (.slice am M.length cm),.v (.int .i64 0)])],3,z.2,z.1⟩,fun z=>0,fun z=>eE w.heap.size w z.1,?_,?_⟩
 ·intro O w' r3;exact⟨(w',_),hw.tr r3.cQ,Sub.gn [] r3⟩
 rintro⟨w1,iv⟩ hw;dsimp only at hw ⊢;intro ρe we re;rw[Dm];exact⟨_,rfl,hw.tr re.cQ,cR.nil⟩
theorem Ak{n h:Nat}(hC:Old C w)(hS:Old S w)(hM:kz w C S v M)(hlen:fZ n M)(hR:M.length<=1000)(hn:n<=1000)(hB:D8 M n h)(hAb:Ht (dT M n).1 h)(hh:3*h<=90000):
  eA PG N.gW #[.agg #[v,.int .i64 n]] w (eF w fun v' w2=>cR w2 (Nf w w2) v' (ko M n)):=by
 rcases bH n with h0|h0
 ·subst h0;exact HP hC hS hM hlen hR
 ·exact JE hC hS hM hlen h0 hn hR hB hAb hh
theorem vw{k:Nat}(h:∀cs∈css,cs.length=k):css.flatten.length=css.length*k:=by
 induction css with
 |nil=>simp
 |cons c r ih=>rw[List.flatten_cons,List.length_append,h c aG,ih fun x hx=>h x (List.mem_cons_of_mem _ hx),List.length_cons,Nat.succ_mul];omega
theorem vz{k:Nat}(h:∀cs∈css,cs.length=k)(hj:css[j]? =some cs)(i:Nat)(u:Value)(hu:cs[i]? =some u):css.flatten[j*k+i]? =some u:=by
 induction css generalizing j with
 |nil=>cases hj
 |cons c r ih=>
  have hc:=h c aG;have hi:=(aD.1 hu).1
  cases j with
  |zero=>
   injection hj with hj;subst hj;rw[List.flatten_cons,Nat.zero_mul,aR,aL hi];exact hu
  |succ j=>
   rw[List.flatten_cons,aN (by rw[hc,Nat.succ_mul];omega),hc,show(j+1)*k+i-k=j*k+i by rw[Nat.succ_mul];omega];exact ih (fun x hx=>h x (List.mem_cons_of_mem _ hx)) hj
def e8{α:Type}(k:Nat)(P:World->(Nat->Prop)->List Value->α->Prop)(w:World)(S:Nat->Prop)(v:Value)(xs:List α):Prop:=
 ∃css:List (List Value),ij w S k v css.flatten xs.length∧css.length=xs.length∧(∀cs∈css,cs.length=k)∧∀(j:Nat) cs x,css[j]? =some cs->xs[j]? =some x->P w S cs x
section
variable{α:Type}{k:Nat}{P:World->(Nat->Prop)->List Value->α->Prop}{w w2:World}{S S':Nat->Prop}{v:Value}{xs:List α}
theorem e8.cJ(hP:∀cs x,P w S cs x->P w2 S cs x)(h:e8 k P w S v xs)(hk:∀g,S g->w2.heap[g]? =w.heap[g]?):e8 k P w2 S v xs:=by
 obtain⟨css,h1,h2,h3,h4⟩:=h;exact⟨css,h1.cJ hk,h2,h3,fun j cs x k1 k2=>hP cs x (h4 j cs x k1 k2)⟩
theorem e8.cK(hP:∀cs x,P w S cs x->P w S' cs x)(h:e8 k P w S v xs)(hk:∀g,S g->S' g):e8 k P w S' v xs:=by
 obtain⟨css,h1,h2,h3,h4⟩:=h;exact⟨css,h1.cK hk,h2,h3,fun j cs x k1 k2=>hP cs x (h4 j cs x k1 k2)⟩
theorem e8.shape(h:e8 k P w S v xs):∃a c,v= .slice a xs.length c∧xs.length<=c∧xs.length<=maxLen:=by
 obtain⟨css,⟨h0,_,_,a,c,h1,h2,_⟩,_⟩:=h;exact⟨a,c,h1,h2,h0⟩
theorem e8.load{m c:Nat}{x:α}(hk:0<k)(h:e8 k P w S (.slice a m c) xs)(hq:xs[j]? =some x):
  ∃ad cs,a=some ad∧P w S cs x∧cs.length=k∧∀i u,cs[i]? =some u->S ad.block∧w.cell? ((ad.add (j*k)).add i)=some u:=by
 obtain⟨css,⟨h0,h1,h2,a',c',e,h3,h4⟩,hl,hl4,hf⟩:=h;injection e with e1 e2 e3;subst e1;obtain⟨cs,On⟩:∃cs,css[j]? =some cs:=⟨_,aB (by rw[hl];exact(aD.1 hq).1)⟩
 have hl:=hl4 cs (aC On);obtain⟨ad,k1,k2,k3⟩:=h4 (j*k+0) _ (vz hl4 On 0 _ (aB (show 0<cs.length by omega)));refine⟨ad,cs,k1,hf j cs x On hq,hl,fun i u hu=>?_⟩;obtain⟨ad2,m1,m2,m3⟩:=h4 (j*k+i) u (vz hl4 On i u hu);rw[k1]at m1;injection m1 with m1;subst m1;refine⟨m2,?_⟩;rw[<-m3];have:(ad.add (j*k)).add i=ad.add (j*k+i):=by
  unfold Addr.add;split<;>split<;>simp_all<;>omega
 rw[this]
end
def IG(_w:World)(_S:Nat->Prop)(cs:List Value)(p:Int×Int×Int):Prop:=cs=[.int .i64 p.1,.int .i64 p.2.1,.int .i64 p.2.2]
def IH(_w:World)(_S:Nat->Prop)(cs:List Value)(p:Ld):Prop:=cs=[.int .i64 p.1,.int .i64 p.2.1,.int .i64 p.2.2.1,.int .i64 p.2.2.2]
def Db(w:World)(S:Nat->Prop)(cs:List Value)(p:Int×Int×Rat):Prop:=∃b a n c b2 a2 n2 c2,cs=[.int .i64 p.1,.int .i64 p.2.1,.bool b,.slice a n c,.bool b2,.slice a2 n2 c2]∧eS w S (.agg #[.bool b,.slice a n c,.bool b2,.slice a2 n2 c2]) p.2.2
theorem Db.cJ(h:Db w S cs p)(hk:∀g,S g->w2.heap[g]? =w.heap[g]?):Db w2 S cs p:=by
 obtain⟨b,a,n,c,b2,a2,n2,c2,h1,h2⟩:=h;exact⟨b,a,n,c,b2,a2,n2,c2,h1,h2.cJ hk⟩
theorem Db.cK(h:Db w S cs p)(hk:∀g,S g->S' g):Db w S' cs p:=by
 obtain⟨b,a,n,c,b2,a2,n2,c2,h1,h2⟩:=h;exact⟨b,a,n,c,b2,a2,n2,c2,h1,h2.cK hk⟩
abbrev mu:=e8 3 IG
abbrev fL:=e8 4 IH
abbrev LM:=e8 6 Db
structure dU(w:World)(S:Nat->Prop)(vn vb vs:Value)(f:fA):Prop where
 nodes:mu w S vn f.nodes
 bars:LM w S vb f.bars
 cX:LM w S vs f.cX
section
variable{S S':Nat->Prop}{H:Hp}{nx:Nat}{iv iv':Iv}{B:Nat}{w w' w2:World}{O:Nat->Sx.dx}{v vn vb vs:Value}{f:fA}{l:List Ld}
theorem fL.cJ(h:fL w S v l)(hk:∀g,S g->w2.heap[g]? =w.heap[g]?):fL w2 S v l:=e8.cJ (w:=w) (fun _ _ h=>h) h hk
theorem fL.cK(h:fL w S v l)(hk:∀g,S g->S' g):fL w S' v l:=e8.cK (S:=S) (fun _ _ h=>h) h hk
theorem dU.cJ(h:dU w S vn vb vs f)(hk:∀g,S g->w2.heap[g]? =w.heap[g]?):dU w2 S vn vb vs f:=
 ⟨e8.cJ (w:=w) (fun _ _ h=>h) h.nodes hk,e8.cJ (fun _ _ h=>h.cJ hk) h.bars hk,e8.cJ (fun _ _ h=>h.cJ hk) h.cX hk⟩
theorem dU.cK(h:dU w S vn vb vs f)(hk:∀g,S g->S' g):dU w S' vn vb vs f:=
 ⟨e8.cK (S:=S) (fun _ _ h=>h) h.nodes hk,e8.cK (fun _ _ h=>h.cK hk) h.bars hk,e8.cK (fun _ _ h=>h.cK hk) h.cX hk⟩
theorem dU.rel(h:dU w (Cv S B iv) vn vb vs f)(r:Rel H nx iv B w O w')(hS:∀g,S g->g<B):dU w' (Cv S B iv) vn vb vs f:=h.cJ fun _ hg=>Rel.same r hS hg
theorem dU.shape(h:dU w S vn vb vs f):∃an cn ab cb aq cs,vn= .slice an f.nodes.length cn∧vb= .slice ab f.bars.length cb∧vs= .slice aq f.cX.length cs∧f.nodes.length<=maxLen∧f.bars.length<=maxLen∧f.cX.length<=maxLen:=by
 obtain⟨an,cn,h1,_,h2⟩:=h.nodes.shape;obtain⟨ab,cb,h3,_,h4⟩:=h.bars.shape;obtain⟨aq,cs,h5,_,h6⟩:=h.cX.shape;exact⟨an,cn,ab,cb,aq,cs,h1,h3,h5,h2,h4,h6⟩
end
theorem Ag{P:Program}{τ:mz}{B nx:Nat}{l:Env}{H:Hp}{iv:Iv}(hτ:fQ P τ){t ty len e sz by_:Nat}{ag:Bool}{ze ze2:List Value}{ik ik2:IntKind}{b2 tag2 al2 e0:Nat}{fs fs2:List (Nat×Nat)}{x i:Operand}{pos:String}{vx:SV}{cs:Array Value}{k:IntKind}{m:Int}{u:Value}
  (ht:τ t=some ⟨sz,ag,by_,ze,6,ik,e,len,fs⟩) (PK:τ e=some ⟨1,false,b2,ze2,tag2,ik2,e0,al2,fs2⟩) (hx:ev l x=some vx) (UA:∀O,vx.den O= .agg cs) (hi:ev l i=some (.o (.v (.int k m)))) (hm:0<=m∧m<len) (hc:cs[m.toNat]? =some u)
  (hK:∀O w',Rel H nx iv B w O w'->K (.o (.v u)) H nx iv w'):ye P B ⟨dst,.index t x i,ty,pos,after,guard⟩ l H nx iv w K:=by
 have hto:=(hτ t _ ht).i6 rfl;have R9:=hτ e _ PK;refine GS hto (fun w=>R9.sizeOf w) (fun w j v hv=>?_) hx UA hi hm hc hK;simp[part,R9.isAgg,hv]
structure gw(w:World)(B:Nat)(iv:Iv)(rv:List Value)(n:Nat)(M:List (List Int)):Prop where
 len:rv.length=M.length
 wid:∀l∈M,l.length=n
 row:∀(i:Nat) v l,rv[i]? =some v->M[i]? =some l->w.ownsRow 0 T.int 1 v n (l.map fun z=>.int .i64 z)
 GH:∀(i j:Nat) a b g,rv[i]? =some a->rv[j]? =some b->a.ownBlock=some g->b.ownBlock=some g->i=j
 new:∀g,Ob rv g->Cv FF B iv g
section
variable{H:Hp}{nx n:Nat}{iv iv':Iv}{B:Nat}{w w' w2:World}{O:Nat->Sx.dx}{rv:List Value}{M:List (List Int)}
theorem gw.nil:gw w B iv [] n []:=⟨rfl,fun l h=>(by cases h),fun i v l h=>(by cases h),fun i j a b g h=>(by cases h),fun g ⟨v,hv,_⟩=>by cases hv⟩
theorem gw.cJ(h:gw w B iv rv n M)(hk:∀g,Cv FF B iv g->w2.heap[g]? =w.heap[g]?):gw w2 B iv rv n M:=
 ⟨h.len,h.wid,fun i v l h1 h2=>ownsRow.cJ (h.row i v l h1 h2) fun g hg=>hk g (h.new g ⟨v,aC h1,hg⟩),h.GH,h.new⟩
theorem gw.rel(h:gw w B iv rv n M)(r:Rel H nx iv B w O w'):gw w' B iv rv n M:=h.cJ fun _ hg=>Rel.same r (gQ B) hg
theorem gw.mono(h:gw w B iv rv n M)(hm:∀p,p∈iv->p∈iv'):gw w B iv' rv n M:=⟨h.len,h.wid,h.row,h.GH,fun g hg=>(h.new g hg).mono hm⟩
theorem gw.cG(h:gw w B iv rv n M)(r:Rel H nx iv B w O w')(he:Ext w' w2)(hm:∀p,p∈iv->p∈iv'):gw w2 B iv' rv n M:=
 ((h.rel r).cJ fun g hg=>he.block g (Rel.old r (gQ B) g hg)).mono hm
theorem gw.form(hM:gw w B iv rv n M){i:Nat}(hv:rv[i]? =some v):∃a c,v= .slice a n c:=by
 obtain⟨l,hl⟩:∃l,M[i]? =some l:=⟨_,aB (by rw[<-hM.len];exact(aD.1 hv).1)⟩
 obtain⟨a,c,h,_⟩:=je (hM.row i v l hv hl);exact⟨a,c,h⟩
theorem gw.one(hM:gw w B iv rv n M):∀u∈rv,u.oneCell'=true:=fun u hu=>by
 obtain⟨i,hi⟩:=aS hu;obtain⟨a,c,rfl⟩:=hM.form hi;rfl
theorem gw.load(hM:gw w B iv rv n M){i k:Nat}{c:Nat}(hv:rv[i]? =some (.slice a n c))(hl:M[i]? =some l)(hk:l[k]? =some z):
  ∃ad,a=some ad∧Cv FF B iv ad.block∧w.cell? (ad.add (k*1))=some (.int .i64 z):=by
 have h:=hM.row i _ l hv hl;have hlen:=hM.wid l (aC hl);rcases h.2 with⟨_,h0⟩|⟨g,cap,cur,e,_⟩
 ·have:=(aD.1 hk).1;omega
 ·injection e with e;refine⟨⟨g,0,none⟩,e,hM.new g ⟨_,aC hv,by rw[e];rfl⟩,?_⟩;have:=h.cells (g:=g) (by rw[e];rfl) k (.int .i64 z) (by rw[aM,hk];rfl);rw[aT];exact this
theorem gw.store(hM:gw w B iv rv n M)(r:Rel H nx iv B w O w'){i k:Nat}{c:Nat}(hv:rv[i]? =some (.slice a n c))(hl:M[i]? =some l)(hk:k<n):
  ∃g,a=some ⟨g,0,none⟩∧((⟨g,0,none⟩:Addr).add ((k:Int).toNat*1)).spot=none∧
   (∀j,j<1->(w'.cell? (((⟨g,0,none⟩:Addr).add ((k:Int).toNat*1)).add j)).isSome=true∧w'.frozen? (((⟨g,0,none⟩:Addr).add ((k:Int).toNat*1)).add j)=false)∧
   (∀id b,dF H id=some b->(O id).nil=false->(O id).g≠((⟨g,0,none⟩:Addr).add ((k:Int).toNat*1)).block)∧
   ∀w2,w2=setCells w' ((⟨g,0,none⟩:Addr).add ((k:Int).toNat*1)) [.int .i64 z]->gw w2 B iv rv n (M.set i (l.set k z))∧eE B w' w2∧Rel H nx iv B w2 O w2∧w'.grownBy w2 (some g)∧Ob rv g:=by
 have Uk:=hM.rel r;have h1:=Uk.row i _ l hv hl;have hlen:=hM.wid l (aC hl);obtain⟨g,rfl,OF,QX,PV,Oy⟩:=pT (nv:=[.int .i64 z]) h1 rfl hk rfl (by decide);have Qt:Ob rv g:=⟨_,aC hv,rfl⟩
 have OY:(⟨g,0,none⟩:Addr).add ((k:Int).toNat*1)=⟨g,k*1,none⟩:=by rw[aE,dV,aR]
 have Q4:=Rel.not r (gQ B) (hM.new g Qt);refine⟨g,rfl,by rw[OY],fun j hj=>by rw[OY];exact OF j hj,fun id b hb hn=>by rw[OY];exact Q4 id b hb hn,fun w2 Oz=>?_⟩;rw[OY]at Oz;subst Oz;refine⟨⟨by rw[bF];exact hM.len,fun x hx=>?_,fun j v l2 h3 h4=>?_,hM.GH,hM.new⟩,eE.grown PV (fun x e=>by injection e with e;subst e;exact(hM.new g Qt).elim (fun h=>h.elim) fun h=>h.1) r.cD,r.yg Q4 PV,PV,Qt⟩
 ·rcases bJ hx with hx|rfl
  ·exact hM.wid x hx
  ·rw[bF];exact hlen
 ·by_cases Pa:i=j
  ·subst Pa;rw[hv]at h3;injection h3 with h3;subst h3;rw[aV (by rw[<-hM.len];exact(aD.1 hv).1)]at h4;injection h4 with h4;subst h4;rw[List.map_set,<-gC (by rw[aK];omega)];simp only[aT]at QX ⊢;exact QX
  ·rw[aZ Pa]at h4;refine ownsRow.cJ (Uk.row j v l2 h3 h4) fun x hx=>PV.block x ?_ fun e=>?_
   ·exact Rel.old r (gQ B) x (hM.new x ⟨v,aC h3,hx⟩)
   ·injection e with e;exact Pa (hM.GH i j _ v x hv h3 (by rw[<-e];rfl) hx)
theorem gw.push(hM:gw w B iv rv n M){gx:Nat}(TF:∀g,Cv FF B iv g->g≠gx)(hBx:B<=gx)(hl:l.length=n)(OE:w.ownsRow 0 T.int 1 (.slice (some ⟨gx,0,none⟩) n n) n (l.map fun z=>.int .i64 z)):
  gw w B ((gx,gx+1)::iv) (rv++[.slice (some ⟨gx,0,none⟩) n n]) n (M++[l]):=by
 have Qt:∀g,Ob rv g->g≠gx:=fun g hg=>TF g (hM.new g hg);have key:∀(k:Nat) v,(rv++[Value.slice (some ⟨gx,0,none⟩) n n])[k]? =some v->(k<rv.length∧rv[k]? =some v)∨(k=rv.length∧v= .slice (some ⟨gx,0,none⟩) n n):=fun k v hk=>by
  rcases aP k rv.length with hi|hi
  ·rw[aL hi]at hk;exact .inl ⟨hi,hk⟩
  ·have RT:k=rv.length:=by have:=(aD.1 hk).1;simp at this;omega
   rw[RT,aN (aF _),bI]at hk;simp at hk;exact .inr ⟨RT,hk.symm⟩
 refine⟨by simp[hM.len],fun x hx=>?_,fun i v x h1 h2=>?_,fun i j a b g h1 h2 h3 h4=>?_,fun g hg=>?_⟩
 ·rcases bS.1 hx with hx|hx
  ·exact hM.wid x hx
  ·rw[bB.1 hx];exact hl
 ·rcases key i v h1 with⟨hi,k1⟩|⟨e1,rfl⟩
  ·rw[aL (by rw[<-hM.len];exact hi)]at h2;exact hM.row i v x k1 h2
  ·rw[e1,hM.len,aN (aF _),bI]at h2;simp at h2;subst h2;exact OE
 ·rcases key i a h1 with⟨_,k1⟩|⟨e1,rfl⟩<;>rcases key j b h2 with⟨_,k2⟩|⟨e2,rfl⟩
  ·exact hM.GH i j a b g k1 k2 h3 h4
  ·injection h4 with h4;exact absurd h4.symm (Qt g ⟨a,aC k1,h3⟩)
  ·injection h3 with h3;exact absurd h3.symm (Qt g ⟨b,aC k2,h4⟩)
  ·rw[e1,e2]
 ·rcases Ob.append.1 hg with h|h
  ·exact(hM.new g h).mono fun p hp=>List.mem_cons_of_mem _ hp
  ·injection h with h;have h:gx=g:=h;subst h;exact .inr ⟨hBx,_,_,aG,aF _,bZ _⟩
end
def EC(w:World)(S:Nat->Prop)(v:Value)(l:List Int):Prop:=ij w S 1 v (l.map fun z=>.int .i64 z) l.length
abbrev mG:=dM EC
theorem EC.cJ(h:EC w S v l)(hk:∀g,S g->w2.heap[g]? =w.heap[g]?):EC w2 S v l:=ij.cJ h hk
theorem EC.cK(h:EC w S v l)(hk:∀g,S g->S' g):EC w S' v l:=ij.cK h hk
theorem mG.cJ{M:List (List Int)}(h:mG w S v M)(hk:∀g,S g->w2.heap[g]? =w.heap[g]?):mG w2 S v M:=by
 obtain⟨rv,h1,h2,h3⟩:=h;exact⟨rv,h1.cJ hk,h2,fun i u x k1 k2=>(h3 i u x k1 k2).cJ hk⟩
theorem mG.cK{M:List (List Int)}(h:mG w S v M)(hk:∀g,S g->S' g):mG w S' v M:=by
 obtain⟨rv,h1,h2,h3⟩:=h;exact⟨rv,h1.cK hk,h2,fun i u x k1 k2=>(h3 i u x k1 k2).cK hk⟩
theorem EC.at{m c:Nat}(h:EC w S (.slice a m c) l)(hj:l[j]? =some z):∃ad,a=some ad∧S ad.block∧w.cell? (ad.add (j*1))=some (.int .i64 z):=by
 obtain⟨h0,h1,h2,a',c',e,h3,h4⟩:=h;injection e with e1 e2 e3;subst e1;obtain⟨ad,k1,k2,k3⟩:=h4 j (.int .i64 z) (by rw[aM,hj];rfl);exact⟨ad,k1,k2,by rw[aT];exact k3⟩
theorem EC.shape(h:EC w S v l):∃a c,v= .slice a l.length c∧l.length<=c∧l.length<=maxLen:=by
 obtain⟨h0,h1,h2,a,c,e,h3,h4⟩:=h;exact⟨a,c,e,h3,h0⟩
structure uU(f:fA):Prop where
 co:∀p∈f.nodes,(-1000000<=p.1∧p.1<=1000000)∧(-1000000<=p.2.1∧p.2.1<=1000000)∧(-1000000<=p.2.2∧p.2.2<=1000000)
 Ma:∀b∈f.bars,(0<=b.1∧b.1<f.nodes.length)∧(0<=b.2.1∧b.2.1<f.nodes.length)
 sup:∀s∈f.cX,(0<=s.1∧s.1<f.nodes.length)∧(0<=s.2.1∧s.2.1<=2)
 n:f.nodes.length<=20
 b:f.bars.length<=60
 s:f.cX.length<=60
theorem uU.node(h:uU f){i:Int}(h0:0<=i)(h1:i<f.nodes.length):∃k:Nat,∃p,i=k∧k<f.nodes.length∧f.nodes[k]? =some p∧f.node i=p∧(-1000000<=p.1∧p.1<=1000000)∧(-1000000<=p.2.1∧p.2.1<=1000000)∧(-1000000<=p.2.2∧p.2.2<=1000000):=by
 obtain⟨k,rfl⟩:=Int.eq_ofNat_of_zero_le h0;have hk:k<f.nodes.length:=by omega
 refine⟨k,f.nodes[k],rfl,hk,aB hk,?_,h.co _ (aY hk)⟩;rw[fA.node,aE,List.getD,aB hk];rfl
theorem BU{vn vb vs:Value}{a b:Int}{b3 b6:Bool}{a4 a7:Option Addr}{n4 c4 n7 c7:Nat}(hS:Old S w)(hn:mu w S vn f.nodes)(OF:uU f)(hA:0<=a∧a<f.nodes.length)(hB:0<=b∧b<f.nodes.length):
  eA PG N.lf #[.agg #[vn,vb,vs],.agg #[.int .i64 a,.int .i64 b,.bool b3,.slice a4 n4 c4,.bool b6,.slice a7 n7 c7]] w (eF w fun v' _=>v'= .agg #[.int .i64 ((f.node b).1-(f.node a).1),.int .i64 ((f.node b).2.1-(f.node a).2.1),.int .i64 ((f.node b).2.2-(f.node a).2.2)]):=by
 have hw:=bR w;obtain⟨an,cn,rfl,hcn,Q1⟩:=hn.shape;unfold maxLen at Q1;obtain⟨ka,pa,ea,hka,hpa,VG,⟨_,_⟩,⟨_,_⟩,⟨_,_⟩⟩:=OF.node hA.1 hA.2;obtain⟨kb,pb,eb,OH,Um,VH,⟨_,_⟩,⟨_,_⟩,⟨_,_⟩⟩:=OF.node hB.1 hB.2;obtain⟨ada,csa,haa,hPa,-,PW⟩:=hn.load (by decide) hpa;obtain⟨adb,csb,Pf,hPb,-,Od⟩:=hn.load (by decide) Um;have hPa:csa=[.int .i64 pa.1,.int .i64 pa.2.1,.int .i64 pa.2.2]:=hPa;have hPb:csb=[.int .i64 pb.1,.int .i64 pb.2.1,.int .i64 pb.2.2]:=hPb;subst hPa hPb;rw[VG,VH];subst ea eb;refine pJ (by simp) ?_;refine il hτ df (.x 0 (.x 2 (.x 6 (.x 8 (.ld 1 49200 (.ld 3 49200 (.x 4 (.ld 5 49152 (.ld 7 35840 (.ld 9 35840 (.x 10 (.ld 11 32768 (.two 12 (.x 13 (.x 14 (.x 15 .nil))) 13 (.x 12 (.x 14 (.x 15 .nil)))))))))))))))) (by kernel_rfl) (by kernel_rfl) ?_;refine⟨ada,haa,by omega,[.int .i64 pa.1,.int .i64 pa.2.1,.int .i64 pa.2.2],rfl,rdO PW hw hS,adb,Pf,by omega,[.int .i64 pb.1,.int .i64 pb.2.1,.int .i64 pb.2.2],rfl,rdO Od hw hS,?_,?_⟩
 ·refine⟨[.int .i64 pb.1,.int .i64 pb.2.1,.int .i64 pb.2.2],rfl,rdO Od hw hS,rfl,rfl,rfl,[.int .i64 pa.1,.int .i64 pa.2.1,.int .i64 pa.2.2],rfl,rdO PW hw hS,rfl,rfl,rfl,[.int .i64 pb.1,.int .i64 pb.2.1,.int .i64 pb.2.2],rfl,rdO Od hw hS,rfl,rfl,rfl,[.int .i64 pa.1,.int .i64 pa.2.1,.int .i64 pa.2.2],rfl,rdO PW hw hS,rfl,rfl,rfl,[.int .i64 pb.1,.int .i64 pb.2.1,.int .i64 pb.2.2],rfl,rdO Od hw hS,rfl,rfl,rfl,pb.1-pa.1,wo,pb.2.1-pa.2.1,wo,pb.2.2-pa.2.2,wo,?_⟩;exact rtn hw fun ρe we re=>rfl
 ·refine⟨[.int .i64 pb.1,.int .i64 pb.2.1,.int .i64 pb.2.2],rfl,rdO Od hw hS,rfl,rfl,rfl,[.int .i64 pa.1,.int .i64 pa.2.1,.int .i64 pa.2.2],rfl,rdO PW hw hS,rfl,rfl,rfl,[.int .i64 pb.1,.int .i64 pb.2.1,.int .i64 pb.2.2],rfl,rdO Od hw hS,rfl,rfl,rfl,[.int .i64 pa.1,.int .i64 pa.2.1,.int .i64 pa.2.2],rfl,rdO PW hw hS,rfl,rfl,rfl,[.int .i64 pb.1,.int .i64 pb.2.1,.int .i64 pb.2.2],rfl,rdO Od hw hS,rfl,rfl,rfl,pb.1-pa.1,wo,pb.2.1-pa.2.1,wo,pb.2.2-pa.2.2,wo,?_⟩;exact rtn hw fun ρe we re=>rfl
theorem LK{α:Type}{rv:List α}{a b:α}{i m:Nat}(hl:rv.length=i)(h:i<m):(rv++List.replicate (m-i) b).take i++[a]++(rv++List.replicate (m-i) b).drop (i+1)=(rv++[a])++List.replicate (m-(i+1)) b:=by
 rw[List.take_left' hl,List.drop_append,hl,List.drop_of_length_le (by omega),List.nil_append,List.drop_replicate];congr 2;omega
end Go.Ex
namespace Go.Sx
open Go Go.Ex Go.Proofs
variable{cs:List Value}{O:Nat->Sx.dx}
theorem Rel.Ml{H:Hp}{nx:Nat}{iv:Iv}{B:Nat}{w w':World}(r:Rel H nx iv B w O w'){id t m sz:Nat}(h:dF H id=some (.arr t cs))(hm:cs.length=m*sz)(Ra:m<=maxLen)(h1:∀u∈cs,u.oneCell'=true):
  ij w' (fun g=>B<=g∧g<w'.heap.size) sz (.slice (some ⟨(O id).g,0,none⟩) m m) cs m:=by
 have hl:=r.low id _ h (r.fits h).1;refine⟨Ra,hm,h1,_,m,rfl,aF _,fun j u hu=>⟨_,rfl,hl,?_⟩⟩;rw[dV,cell_of (r.arr id _ _ h),aR];exact hu
end Go.Sx
namespace Go.Ex
open Go Go.Sx Go.Proofs
variable{d:Int}{b s:Int×Int×Rat}{M:List (List Int)}{l:List Int}{r:Nat}{S:Nat->Prop}{f:fA}
theorem CM{c:Nat}:(tW M r c d).length=M.length:=bF ..
theorem JG{c:Nat}:(putAt M r c d).length=M.length:=bF ..
def FW(M:List (List Int))(t:Int):Prop:=∀l∈M,∀z∈l,-t<=z∧z<=t
theorem FW.set{t t2:Int}{c:Nat}{z:Int}(h:FW M t)(ht:t<=t2)(hl:M[r]? =some l)(hz: -t2<=z∧z<=t2):FW (M.set r (l.set c z)) t2:=fun x hx y hy=>by
 rcases bJ hx with hx|rfl
 ·have:=h x hx y hy;omega
 ·rcases bJ hy with hy|rfl
  ·have:=h l (aC hl) y hy;omega
  ·exact hz
theorem FX(f:fA):∀i,(du f i).length=3*f.nodes.length
 |0=>bG ..
 |i+1=>by
  have h:=FX f i;have key:∀k,(eV f (du f i) i k).length=3*f.nodes.length:=fun k=>by
   induction k with
   |zero=>exact h
   |succ k ih=>rw[eV,CM,CM];exact ih
  exact key 3
theorem nZ(f:fA):∀i,(fG f i).length=3*f.nodes.length
 |0=>FX f _
 |i+1=>by rw[fG,JG];exact nZ f i
theorem LL{i k ka kb:Nat}{za zb:Int}{la lb:List Int}(hb:f.bars[i]? =some b)(ea:b.1=ka)(eb:b.2.1=kb)(hd:(sS f b).getD k 0=d)
  (PW:(eV f M i k)[3*ka+k]? =some la) (Ur:la[i]? =some za) (Od:((eV f M i k).set (3*ka+k) (la.set i (za+d)))[3*kb+k]? =some lb) (SL:lb[i]? =some zb):
  ((eV f M i k).set (3*ka+k) (la.set i (za+d))).set (3*kb+k) (lb.set i (zb-d))=eV f M i (k+1):=by
 have h1:f.bars.getD i (0,0,0)=b:=by rw[List.getD,hb];rfl
 have e1:(3*b.1+(k:Int)).toNat=3*ka+k:=by rw[ea];omega
 have e2:(3*b.2.1+(k:Int)).toNat=3*kb+k:=by rw[eb];omega
 have ha:tW (eV f M i k) (3*ka+k) i d=(eV f M i k).set (3*ka+k) (la.set i (za+d)):=by
  rw[tW,show(eV f M i k).getD (3*ka+k) []=la by rw[List.getD,PW];rfl,show la.getD i 0=za by rw[List.getD,Ur];rfl]
 rw[eV];simp only[h1,hd,e1,e2,ha]
 rw[tW,show((eV f M i k).set (3*ka+k) (la.set i (za+d))).getD (3*kb+k) []=lb by rw[List.getD,Od];rfl,show lb.getD i 0=zb by rw[List.getD,SL];rfl,Int.sub_eq_add_neg]
theorem FY{i ks:Nat}(hs:f.cX[i]? =some s)(es:3*s.1+s.2.1=ks)(hl:(fG f i)[ks]? =some l):(fG f i).set ks (l.set (f.bars.length+i) 1)=fG f (i+1):=by
 rw[fG,putAt];simp only[show f.cX.getD i (0,0,0)=s by rw[List.getD,hs];rfl,es,aE,show(fG f i).getD ks []=l by rw[List.getD,hl];rfl]
set_option maxHeartbeats 2000000 in
theorem JH{w:World}{vn vb vs:Value}(hS:Old S w)(hf:dU w S vn vb vs f)(OF:uU f):
  eA PG N.qD #[.agg #[vn,vb,vs]] w (eF w fun v' w2=>mG w2 (Nf w w2) v' (gk f)∧FW (gk f) 800000000∧(∀l∈gk f,l.length=f.cols)∧(gk f).length=3*f.nodes.length):=by
 have hw:=bR w;obtain⟨an,cn,ab,cb,aq,cq,rfl,rfl,rfl,Q1,Qh,RN⟩:=hf.shape;obtain⟨TR,SY,SZ⟩:=And.intro OF.n (And.intro OF.b OF.s);refine uM (by simp) ?_;refine⟨((3*f.nodes.length:Nat):Int),wo,?_⟩;obtain⟨m,hm⟩:∃m,3*f.nodes.length=m:=⟨_,rfl⟩
 rw[hm]
 refine⟨m,m,rfl,rfl,aF _,by omega,by omega,Nat×List Value×World×Iv,fun z=>⟨[(1,pP 0 0),(3,.o (.s 1 0 m m)),(17,iZ m),(18,iN z.1)],[(1,.arr T.Lint (z.2.1++List.replicate (m-z.1) (.slice none 0 0))),(0,.box T.Frame [.v (.slice an f.nodes.length cn),.v (.slice ab f.bars.length cb),.v (.slice aq f.cX.length cq)])],2,z.2.2.2,z.2.2.1⟩,fun z=>m-z.1,
  fun z=>z.1<=m∧z.2.1.length=z.1∧eE w.heap.size w z.2.2.1∧gw z.2.2.1 w.heap.size z.2.2.2 z.2.1 f.cols (List.replicate z.1 (List.replicate f.cols 0)),?_,?_⟩
 ·intro O w' r3;exact⟨(0,[],w',[]),⟨aQ _,rfl,hw.tr r3.cQ,gw.nil⟩,Sub.gn [] r3⟩
 rintro⟨i,rv,w1,iv⟩ ⟨hi,Of,hw,hE⟩;dsimp only at hi Of hw hE ⊢;refine dK.mk ?_ ?_<;>intro OC
 ·have OC:i<m:=by simpa using OC
  refine⟨((f.cols:Nat):Int),by rw[wrap64]<;>first|rfl|omega,f.cols,f.cols,rfl,rfl,aF _,by unfold fA.cols;omega,by unfold fA.cols;omega,by omega,?_⟩;refine I5 hτ (id:=1) (id2:=2) (tH:=[(1,.arr T.Lint (rv++List.replicate (m-i) (.slice none 0 0))),(0,.box T.Frame [.v (.slice an f.nodes.length cn),.v (.slice ab f.bars.length cb),.v (.slice aq f.cX.length cq)])]) rfl rfl (by decide) rfl ⟨rfl,rfl,trivial⟩ rfl (fun O w' r=>?_);have hn:=(r.fits (id:=2) rfl).1;have OE:w'.ownsRow 0 T.int 1 (.slice (some ⟨(O 2).g,0,none⟩) f.cols f.cols) f.cols ((List.replicate f.cols (0:Int)).map fun z=>.int .i64 z):=
   ⟨by simp,.inr ⟨(O 2).g,f.cols,(List.replicate f.cols (Value.int .i64 0)).toArray,rfl,aQ _,r.arr 2 _ _ rfl,aF _,by unfold fA.cols maxLen;omega,by simp,by simp⟩⟩
  have OT:=(hE.rel r).push (gx:=(O 2).g) (l:=List.replicate f.cols 0) (fun g hg e=>Rel.not r (gQ _) hg 2 _ rfl hn e.symm) (r.low 2 _ rfl hn).1 (by simp) OE;rw[<-List.replicate_succ']at OT;have Oz:=hw.tr r.cQ;generalize (O 2).g=gx at*
  generalize (gx,gx+1)::iv=OG at*
  refine⟨by simp[Of];omega,(rv++[.slice (some ⟨gx,0,none⟩) f.cols f.cols])++List.replicate (m-(i+1)) (.slice none 0 0),?_,?_⟩
  ·rw[aE,aT,aR];exact LK Of OC
  refine⟨((i+1:Nat):Int),wo,?_⟩;intro ρ3 w3 r3;exact⟨(i+1,rv++[.slice (some ⟨gx,0,none⟩) f.cols f.cols],w3,_),⟨OC,by simp[Of],Oz.tr r3.cQ,OT.rel r3⟩,Sub.gn [] r3,by dsimp only;omega⟩
 have OC:i=m:=aO hi (by simpa using OC);subst OC;have hE0:gw w1 w.heap.size iv rv f.cols (du f 0):=by rw[du,hm];exact hE
 have VI:FW (du f 0) 0:=fun l hl z hz=>by
  rw[du]at hl;rw[bP hl]at hz;rw[bP hz];exact⟨Int.le_refl _,Int.le_refl _⟩
 refine⟨Nat×World×Iv,fun z=>⟨[(1,pP 0 0),(3,.o (.s 1 0 i i)),(34,sV ab f.bars.length cb),(35,iZ f.bars.length),(36,iN z.1)],[(1,.arr T.Lint rv),(0,.box T.Frame [.v (.slice an f.nodes.length cn),.v (.slice ab f.bars.length cb),.v (.slice aq f.cX.length cq)])],2,z.2.2,z.2.1⟩,fun z=>f.bars.length-z.1,
  fun z=>z.1<=f.bars.length∧eE w.heap.size w z.2.1∧gw z.2.1 w.heap.size z.2.2 rv f.cols (du f z.1)∧FW (du f z.1) (12000000*z.1),?_,?_⟩
 ·intro O w' r3;exact⟨(0,w',_),⟨aQ _,hw.tr r3.cQ,hE0.rel r3,VI⟩,Sub.gn [] r3 ⟨by simp;rfl,rfl,trivial⟩⟩
 rintro⟨j,w2,iv⟩ ⟨hj,hw,hE,OW⟩;dsimp only at hj hw hE OW ⊢;refine dK.mk ?_ ?_<;>intro PT
 ·have PT:j<f.bars.length:=by simpa using PT
  obtain⟨b,hb⟩:∃b,f.bars[j]? =some b:=⟨_,aB PT⟩
  obtain⟨hA,hB⟩:=OF.Ma b (aC hb);obtain⟨ka,pa,ea,hka,-,VG,⟨_,_⟩,⟨_,_⟩,⟨_,_⟩⟩:=OF.node hA.1 hA.2;obtain⟨kb,pb,eb,OH,-,VH,⟨_,_⟩,⟨_,_⟩,⟨_,_⟩⟩:=OF.node hB.1 hB.2;obtain⟨adb,cs,Pf,hF,-,Od⟩:=hf.bars.load (by decide) hb;obtain⟨g0,g1,g2,g3,g4,g5,g6,g7,rfl,hF⟩:=hF;refine⟨adb,Pf,by omega,[.int .i64 b.1,.int .i64 b.2.1,.bool g0,.slice g1 g2 g3,.bool g4,.slice g5 g6 g7],rfl,rdO Od hw hS,?_⟩;refine cF (cO (Φ:=fun _ w' v w2=>v= .agg #[.int .i64 ((f.node b.2.1).1-(f.node b.1).1),.int .i64 ((f.node b.2.1).2.1-(f.node b.1).2.1),.int .i64 ((f.node b.2.1).2.2-(f.node b.1).2.2)]) (fun O w' r=>BU (S:=S) (oS hS r) (hf.cJ (kS hw r hS)).nodes OF hA hB) ?_);rintro O Pg v1 PS r he Oe rfl;replace hw:=hw.tr Oe;replace hE:=hE.cG (iv':=(Pg.heap.size,PS.heap.size)::iv) r he fun x hx=>List.mem_cons_of_mem _ hx;generalize (Pg.heap.size,PS.heap.size)::iv=OJ at*
  rw[VG,VH];have hbD:sS f b=[pb.1-pa.1,pb.2.1-pa.2.1,pb.2.2-pa.2.2]:=by rw[sS,VG,VH]
  refine⟨Nat×World×Iv,fun z=>⟨[(1,pP 0 0),(3,.o (.s 1 0 i i)),(5,iN j),(6,pP 2 0),(43,.o (.v (.agg #[.int .i64 (pb.1-pa.1),.int .i64 (pb.2.1-pa.2.1),.int .i64 (pb.2.2-pa.2.2)]))),(34,sV ab f.bars.length cb),(35,iZ f.bars.length),(36,iN j),(44,iN z.1)],[(2,.box T.Bar [.v (.int .i64 b.1),.v (.int .i64 b.2.1),.v (.bool g0),.v (.slice g1 g2 g3),.v (.bool g4),.v (.slice g5 g6 g7)]),(1,.arr T.Lint rv),(0,.box T.Frame [.v (.slice an f.nodes.length cn),.v (.slice ab f.bars.length cb),.v (.slice aq f.cX.length cq)])],3,z.2.2,z.2.1⟩,fun z=>3-z.1,
   fun z=>z.1<=3∧eE w.heap.size w z.2.1∧gw z.2.1 w.heap.size z.2.2 rv f.cols (eV f (du f j) j z.1)∧FW (eV f (du f j) j z.1) (12000000*j+4000000*z.1),?_,?_⟩
  ·intro O w' r3;exact⟨(0,w',_),⟨aQ _,hw.tr r3.cQ,hE.rel r3,OW⟩,Sub.gn [] r3⟩
  rintro⟨k,w3,iv⟩ ⟨hk,hw,hE,OW⟩;dsimp only at hk hw hE OW ⊢;refine dK.mk ?_ ?_<;>intro OH
  ·have OH:k<3:=by have:=aI OH;omega
   obtain⟨d,hd⟩:∃d,(sS f b).getD k 0=d:=⟨_,rfl⟩
   have hdb: -2000000<=d∧d<=2000000:=by
    rw[<-hd,hbD];rcases(show k=0∨k=1∨k=2 by omega)with rfl|rfl|rfl<;>simp[List.getD]<;>omega
   have hMl:(eV f (du f j) j k).length=3*f.nodes.length:=by rw[<-hE.len];have:=hE.len;omega
   have Px:f.cols=f.bars.length+f.cX.length:=rfl;refine Ag hτ rfl rfl rfl (fun _=>rfl) rfl ⟨by omega,by omega⟩ (u:=.int .i64 d) ?_ (fun O w4 r=>?_)
   ·rw[<-hd,hbD,aE];rcases(show k=0∨k=1∨k=2 by omega)with rfl|rfl|rfl<;>rfl
   replace hw:=hw.tr r.cQ;replace hE:=hE.rel r;obtain⟨la,PW⟩:∃l,(eV f (du f j) j k)[3*ka+k]? =some l:=⟨_,aB (by first|omega|(rw [bF];omega))⟩
   have hlaw:=hE.wid la (aC PW);obtain⟨za,Ur⟩:∃z,la[j]? =some z:=⟨_,aB (by omega)⟩
   have hzab:=OW la (aC PW) za (aC Ur);obtain⟨va,VJ⟩:∃v,rv[3*ka+k]? =some v:=⟨_,aB (by have:=(aD.1 PW).1;rw[hE.len];exact this)⟩
   obtain⟨aa5,ca5,rfl⟩:=hE.form VJ;obtain⟨ada5,Sn,hxa1,hxa2⟩:=hE.load VJ PW Ur;refine⟨((3*ka:Nat):Int),by rw[ea,wrap64]<;>omega,((3*ka+k:Nat):Int),wo,by omega,.slice aa5 f.cols ca5,by rw[aE,aT,aR];exact VJ,ada5,Sn,by omega,.int .i64 za,fun O w' r=>?_,?_⟩
   ·rw[aE,cH (w:=w4) (w2:=w') (by rw[dN];exact Rel.same r (gQ _) hxa1)];exact hxa2
   refine⟨za+d,wo,ada5,Sn,by omega,?_⟩;intro O w' r;obtain⟨g,hg,h1,h2,h3,h4⟩:=hE.store r (z:=za+d) VJ PW (show j<f.cols by omega);rw[Sn]at hg;injection hg with hg;subst hg;refine⟨h1,h2,h3,fun w5 QZ=>?_⟩;obtain⟨k1,k2,k3,-,-⟩:=h4 w5 QZ;replace hw:=(hw.tr r.cQ).tr k2;replace OW:=OW.set (r:=3*ka+k) (c:=j) (z:=za+d) (t2:=12000000*j+4000000*k+2000000) (by omega) PW (by omega);replace hE:=k1;obtain⟨lb,Od⟩:∃l,((eV f (du f j) j k).set (3*ka+k) (la.set j (za+d)))[3*kb+k]? =some l:=⟨_,aB (by first|omega|(rw [bF];omega))⟩
   have hlbw:=hE.wid lb (aC Od);obtain⟨zb,SL⟩:∃z,lb[j]? =some z:=⟨_,aB (by omega)⟩
   have hzbb:=OW lb (aC Od) zb (aC SL);obtain⟨vb,US⟩:∃v,rv[3*kb+k]? =some v:=⟨_,aB (by have:=(aD.1 Od).1;rw[hE.len];exact this)⟩
   obtain⟨ab5,cb5,rfl⟩:=hE.form US;obtain⟨adb5,So,hxb1,hxb2⟩:=hE.load US Od SL;refine⟨((3*kb:Nat):Int),by rw[eb,wrap64]<;>omega,((3*kb+k:Nat):Int),wo,by omega,.slice ab5 f.cols cb5,by rw[aE,aT,aR];exact US,adb5,So,by omega,.int .i64 zb,fun O w' r=>?_,?_⟩
   ·rw[aE,cH (w:=w5) (w2:=w') (by rw[dN];exact Rel.same r (gQ _) hxb1)];exact hxb2
   refine⟨zb-d,wo,adb5,So,by omega,?_⟩;intro O w' r;obtain⟨g,hg,h1,h2,h3,h4⟩:=hE.store r (z:=zb-d) US Od (show j<f.cols by omega);rw[So]at hg;injection hg with hg;subst hg;refine⟨h1,h2,h3,fun w5 QZ=>?_⟩;obtain⟨k1,k2,k3,-,-⟩:=h4 w5 QZ;replace hw:=(hw.tr r.cQ).tr k2;replace OW:=OW.set (r:=3*kb+k) (c:=j) (z:=zb-d) (t2:=12000000*j+4000000*(k+1:Nat)) (by omega) Od (by omega);replace hE:=k1;rw[LL hb ea eb hd PW Ur Od SL]at hE OW;refine⟨((k+1:Nat):Int),wo,?_⟩;intro ρ3 w6 r3;exact⟨(k+1,w6,_),⟨OH,hw.tr r3.cQ,hE.rel r3,OW⟩,Sub.gn [] r3,by dsimp only;omega⟩
  have OH:k=3:=by have:=aH OH;omega
  subst OH;refine⟨((j+1:Nat):Int),wo,?_⟩;intro ρ3 w6 r3;exact⟨(j+1,w6,_),⟨PT,hw.tr r3.cQ,hE.rel r3,fun l hl z hz=>by have:=OW l hl z hz;dsimp only;omega⟩,Sub.gn [] r3,by dsimp only;omega⟩
 have PT:j=f.bars.length:=aO hj (by simpa using PT);subst PT
 refine⟨Nat×World×Iv,fun z=>⟨[(1,pP 0 0),(3,.o (.s 1 0 i i)),(79,sV aq f.cX.length cq),(80,iZ f.cX.length),(81,iN z.1)],[(1,.arr T.Lint rv),(0,.box T.Frame [.v (.slice an f.nodes.length cn),.v (.slice ab f.bars.length cb),.v (.slice aq f.cX.length cq)])],2,z.2.2,z.2.1⟩,fun z=>f.cX.length-z.1,
  fun z=>z.1<=f.cX.length∧eE w.heap.size w z.2.1∧gw z.2.1 w.heap.size z.2.2 rv f.cols (fG f z.1)∧FW (fG f z.1) 800000000,?_,?_⟩
 ·intro O w' r3;exact⟨(0,w',_),⟨aQ _,hw.tr r3.cQ,hE.rel r3,fun l hl z hz=>by have:=OW l hl z hz;omega⟩,Sub.gn [] r3⟩
 rintro⟨j,w2,iv⟩ ⟨hj,hw,hE,OW⟩;dsimp only at hj hw hE OW ⊢;refine dK.mk ?_ ?_<;>intro PT
 ·have PT:j<f.cX.length:=by simpa using PT
  obtain⟨s,hs⟩:∃b,f.cX[j]? =some b:=⟨_,aB PT⟩
  obtain⟨hA,hB⟩:=OF.sup s (aC hs);obtain⟨ks,Us⟩:=Int.eq_ofNat_of_zero_le (show 0<=3*s.1+s.2.1 by omega);have Px:f.cols=f.bars.length+f.cX.length:=rfl;have hMl:=nZ f j;obtain⟨l,hl⟩:∃l,(fG f j)[ks]? =some l:=⟨_,aB (by omega)⟩
  have hlw:=hE.wid l (aC hl);obtain⟨v,hv⟩:∃v,rv[ks]? =some v:=⟨_,aB (by rw[hE.len];omega)⟩
  obtain⟨a5,c5,rfl⟩:=hE.form hv;obtain⟨z0,OM⟩:∃z,l[f.bars.length+j]? =some z:=⟨_,aB (by omega)⟩
  obtain⟨ad5,ha5,-,-⟩:=hE.load hv hl OM;obtain⟨adb,cs,Pf,hF,-,Od⟩:=hf.cX.load (by decide) hs;obtain⟨g0,g1,g2,g3,g4,g5,g6,g7,rfl,hF⟩:=hF;refine⟨adb,Pf,by omega,[.int .i64 s.1,.int .i64 s.2.1,.bool g0,.slice g1 g2 g3,.bool g4,.slice g5 g6 g7],rfl,rdO Od hw hS,?_⟩;refine cM hτ df [.x 0,.x 1,.x 2,.x 3,.x 4,.x 5,.x 6,.x 7,.x 8,.x 9,.x 10,.x 11,.x 12,.x 13,.x 14,.x 15] (by kernel_rfl) (by kernel_rfl) ?_;refine⟨3*s.1,wo,((ks:Nat):Int),wo,by omega,.slice a5 f.cols c5,by rw[aE,aT,aR];exact hv,((f.bars.length+j:Nat):Int),wo,ad5,ha5,by omega,?_⟩;intro O w' r;obtain⟨g,hg,h1,h2,h3,h4⟩:=hE.store r (z:=1) hv hl (show f.bars.length+j<f.cols by omega);rw[ha5]at hg;injection hg with hg;subst hg;refine⟨h1,h2,h3,fun w5 QZ=>?_⟩;obtain⟨k1,k2,k3,-,-⟩:=h4 w5 QZ;replace hw:=(hw.tr r.cQ).tr k2;have Rc:=OW.set (r:=ks) (c:=f.bars.length+j) (z:=1) (t2:=800000000) (by omega) hl (by omega);rw[FY hs Us hl]at k1 Rc;refine⟨((j+1:Nat):Int),wo,?_⟩;intro ρ3 w6 r3;exact⟨(j+1,w6,_),⟨PT,hw.tr r3.cQ,k1.rel r3,Rc⟩,Sub.gn [] r3,by dsimp only;omega⟩
 have PT:j=f.cX.length:=aO hj (by simpa using PT);subst PT;intro ρe we re;have OT:=hE.rel re;have hMl:=nZ f f.cX.length;have QT:=hE.len;refine⟨_,rfl,hw.tr re.cQ,⟨rv,?_,hE.len,fun i u x k1 k2=>?_⟩,OW,hE.wid,by rw[<-hm];exact hMl⟩
 ·rw[show (gk f).length=rv.length from hE.len.symm];have h5:=re.Ml (id:=1) (sz:=1) (m:=rv.length) rfl (by simp) (by unfold maxLen;omega) hE.one;rw[show (i:Nat)=rv.length by omega];exact h5.cK fun g hg=>.inr hg
 ·obtain⟨a,c,rfl⟩:=hE.form k1;have PZ:=hE.wid x (aC k2);refine⟨by rw[PZ];unfold fA.cols maxLen;omega,by simp,fun v hv=>by obtain⟨z,_,rfl⟩:=aU.1 hv;rfl,a,c,by rw[PZ],?_,fun t v hv=>?_⟩
  ·rw[PZ];obtain⟨a2,c2,e,h⟩:=je (hE.row i _ x k1 k2);injection e with e1 e2 e3;omega
  ·rw[aM]at hv
   cases ht:x[t]? with
   |none=>rw[ht]at hv;cases hv
   |some z=>
    rw[ht]at hv;simp only[Option.map_some,Option.some.injEq]at hv;subst hv;obtain⟨ad,h1,h2,h3⟩:=OT.load k1 k2 ht;exact⟨ad,h1,Cv.nw h2 re,by rw[aT]at h3;exact h3⟩
end Go.Ex
namespace Go.Ex
open Go Go.Sx Go.Proofs
variable{z:Int}{p:Int×Int×Int}{b:Int×Int×Rat}{x:Ld}{seen:List (Int×Int×Rat)}{css:List (List Value)}{s:List Int}{l:List Ld}{qs:List Rat}{cs:List Value}{j:Nat}{S:Nat->Prop}{an:Option Addr}{vb vl vs:Value}{w:World}{f:fA}
theorem Fa(f:fA):(cP f).length=3*f.nodes.length:=by rw[cP,aK];exact nZ f _
theorem wA(h1: -2000000000<=z)(h2:z<=2000000000):rl (z:Rat)<=1:=by
 have e1:((z:Rat)).num=z:=rfl;have e2:((z:Rat)).den=1:=rfl;rw[rl,e1,e2];have a1:ln z.natAbs<=1:=gB.2 (by rw[uw];omega);have a2:ln 1<=1:=by decide
 omega
set_option maxHeartbeats 1000000 in
theorem lh{vn:Value}(hS:Old S w)(hf:dU w S vn vb vs f)(OF:uU f):
  eA PG N.ox #[.agg #[vn,vb,vs]] w (eF w fun v' w2=>(∃vr,v'= .agg #[vr,.int .i64 f.cols]∧cR w2 (Nf w w2) vr (cP f))∧fZ f.cols (cP f)∧Ht (cP f) 2):=by
 have hw:=bR w;obtain⟨an,cn,ab,cb,aq,cq,rfl,rfl,rfl,Q1,Qh,RN⟩:=hf.shape;obtain⟨TR,SY,SZ⟩:=And.intro OF.n (And.intro OF.b OF.s);have Px:f.cols=f.bars.length+f.cX.length:=rfl;refine s5 (by simp) ?_;refine⟨((f.cols:Nat):Int),by rw[wrap64]<;>first|rfl|omega,?_⟩;refine cF (cO (Φ:=fun _ w' v w2=>mG w2 (Nf w' w2) v (gk f)∧FW (gk f) 800000000∧(∀l∈gk f,l.length=f.cols)∧(gk f).length=3*f.nodes.length) (fun O w' r=>JH (S:=S) (oS hS r) (hf.cJ (kS hw r hS)) OF) ?_);rintro O Pg v1 PS r he Oe ⟨k1,OW,VK,QO⟩;replace hw:=hw.tr Oe;have hM:=mG.cK k1 fun g hg=>hg.dB (B:=w.heap.size) (S:=FF) r.cD (iv:=(Pg.heap.size,PS.heap.size)::[]) aG;generalize (Pg.heap.size,PS.heap.size)::[]=OJ at*
 obtain⟨am,cm,rfl,Rk,Qg⟩:=dM.shape hM;unfold maxLen at Qg
 refine⟨Nat×List Value×World×Iv,fun z=>⟨[(20,iN z.1),(2,pP 1 0),(3,pP 2 0),(18,.o (.v (.slice am (gk f).length cm))),(19,.o (.v (.int .i64 (gk f).length)))],[(2,.box T.dw [.w 3 z.2.1.length,.v (.int .i64 ((f.cols:Nat):Int))]),(3,.vec T.gA 1 z.2.1),(1,.box T.dw [.v (.slice none 0 0),.v (.int .i64 0)])],4,z.2.2.2,z.2.2.1⟩,fun z=>(gk f).length-z.1,
  fun z=>z.1<=(gk f).length∧eE w.heap.size w z.2.2.1∧mG z.2.2.1 (Cf w z.2.2.2) (.slice am (gk f).length cm) (gk f)∧dh z.2.2.1 (Cf w z.2.2.2) z.2.1 ((cP f).take z.1),?_,?_⟩
 ·intro O w' r;exact⟨(0,[],w',_),⟨aQ _,hw.tr r.cQ,hM.cJ fun g hg=>Rel.same r (cC w) hg,by simp[dh]⟩,Sub.BT 2 0 T.gA 1 rfl rfl (by simp[j8,SV.sc,At.sc,fa]) r fun ρ1 r1=>Sub.gn [] r1⟩
 rintro⟨k,rv,w1,iv⟩ ⟨hk,hw,hM,hK⟩;dsimp only at hk hw hM hK ⊢;have Of:rv.length=k:=by rw[hK.1,aW,cP,aK];omega
 refine dK.mk ?_ ?_<;>intro OH
 ·have OH:k<(gk f).length:=by simpa using OH
  obtain⟨l,hl⟩:∃l,(gk f)[k]? =some l:=⟨_,aB OH⟩
  have hlw:=VK l (aC hl);have OL:(cP f).take (k+1)=(cP f).take k++[c9 l]:=by rw[List.take_add_one,show(cP f)[k]? =some (c9 l) by rw[cP,aM,hl];rfl];rfl
  obtain⟨adm,um,Qd,Vl,km1,km2⟩:=dM.load hM hl;obtain⟨a0,c0,rfl,Tu,-⟩:=EC.shape Vl;refine⟨adm,Qd,by omega,.slice a0 l.length c0,fun O w' r=>?_,?_⟩
  ·rw[aE,cH (w:=w1) (w2:=w') (by rw[dN];exact Rel.same r (cC w) km1)];exact km2
  refine⟨l.length,l.length,rfl,rfl,aF _,by omega,by omega,Nat×Nat×World×Iv,fun z=>⟨[(6,.o (.v (.slice (some ⟨z.2.1,0,none⟩) l.length l.length))),(5,sV a0 l.length c0),(27,sV a0 l.length c0),(28,iZ l.length),(29,iN z.1),(20,iN k),(2,pP 1 0),(3,pP 2 0),(18,.o (.v (.slice am (gk f).length cm))),(19,.o (.v (.int .i64 (gk f).length)))],[(2,.box T.dw [.w 3 rv.length,.v (.int .i64 ((f.cols:Nat):Int))]),(3,.vec T.gA 1 rv),(1,.box T.dw [.v (.slice none 0 0),.v (.int .i64 0)])],5,z.2.2.2,z.2.2.1⟩,fun z=>l.length-z.1,
   fun z=>z.1<=l.length∧eE w.heap.size w z.2.2.1∧mG z.2.2.1 (Bs FF w.heap.size z.2.2.2 (.slice (some ⟨z.2.1,0,none⟩) l.length l.length)) (.slice am (gk f).length cm) (gk f)∧EC z.2.2.1 (Bs FF w.heap.size z.2.2.2 (.slice (some ⟨z.2.1,0,none⟩) l.length l.length)) (.slice a0 l.length c0) l∧dh z.2.2.1 (Bs FF w.heap.size z.2.2.2 (.slice (some ⟨z.2.1,0,none⟩) l.length l.length)) rv ((cP f).take k)∧im z.2.2.1 FF w.heap.size z.2.2.2 (.slice (some ⟨z.2.1,0,none⟩) l.length l.length) l.length z.1 (c9 l),?_,?_⟩
  ·intro O w' r;have hf:=im.kA (S:=FF) (n:=l.length) r (id:=4) rfl (by unfold maxLen;omega) (c9 l);have hbs:∀g,Cf w iv g->Bs FF w.heap.size (((O 4).g,(O 4).g+1)::iv) (.slice (some ⟨(O 4).g,0,none⟩) l.length l.length) g:=fun g hg=>⟨hg.mono fun p hp=>List.mem_cons_of_mem _ hp,fun e=>Rel.not r (cC w) hg 4 _ rfl (r.fits (id:=4) rfl).1 (by injection e)⟩
   exact⟨(0,(O 4).g,w',((O 4).g,(O 4).g+1)::iv),⟨aQ _,hw.tr r.cQ,(hM.cJ fun g hg=>Rel.same r (cC w) hg).cK hbs,(Vl.cJ fun g hg=>Rel.same r (cC w) hg).cK hbs,dh.cK (hK.rel r (cC w)) hbs,hf⟩,
    Sub.kA r (id:=4) (t:=6) rfl rfl ⟨rfl,rfl,rfl,trivial⟩ rfl ⟨rfl,rfl,rfl,rfl,rfl,rfl,rfl,rfl,rfl,trivial⟩ (by simp[j8,SV.sc,At.sc])⟩
  rintro⟨i,gx,w2,iv⟩ ⟨hi,hw,hM,Vl,hK,hX⟩;dsimp only at hi hw hM Vl hK hX ⊢;refine dK.mk ?_ ?_<;>intro OC
  ·have OC:i<l.length:=by simpa using OC
   obtain⟨z,hz⟩:∃z,l[i]? =some z:=⟨_,aB OC⟩
   have SL:=OW l (aC hl) z (aC hz);obtain⟨adz,haz,kz1,kz2⟩:=Vl.at hz;refine⟨adz,haz,by omega,.int .i64 z,fun O w' r=>?_,?_⟩
   ·rw[aE,cH (w:=w2) (w2:=w') (by rw[dN];exact Rel.same r (cC w) kz1.1)];exact kz2
   refine cF (cO (Φ:=fun _ w' v w2=>cT w2 (Nf w' w2) v (z:Rat)) (fun O w' r=>jM z w' (by omega) (by omega)) ?_);rintro O PH v3 PD r he Oe RV;replace hw:=hw.tr Oe;have hbs:∀g,Bs FF w.heap.size iv (.slice (some ⟨gx,0,none⟩) l.length l.length) g->Bs FF w.heap.size ((PH.heap.size,PD.heap.size)::iv) (.slice (some ⟨gx,0,none⟩) l.length l.length) g:=fun g hg=>Bs.mono (fun x hx=>List.mem_cons_of_mem _ hx) hg;have hbk:∀g,Bs FF w.heap.size iv (.slice (some ⟨gx,0,none⟩) l.length l.length) g->PD.heap[g]? =w2.heap[g]? :=fun g hg=>(he.block g (Rel.old r (cC w) g hg.1)).trans (Bs.same r (cC w) g hg);replace hM:=(hM.cJ hbk).cK hbs;replace Vl:=(Vl.cJ hbk).cK hbs;replace hK:=dh.cK (dh.cJ hK hbk) hbs;have hd:=RV.cK (S':=Bs FF w.heap.size ((PH.heap.size,PD.heap.size)::iv) (.slice (some ⟨gx,0,none⟩) l.length l.length)) fun g hg=>hg.elim (fun h=>h.elim) fun h=>⟨.inr ⟨by have:=r.cD;omega,_,_,aG,h.1,h.2⟩,fun e=>by have:=Rel.old r (cC w) g (hX.new g e);omega⟩
   replace hX:=hX.cG (iv':=(PH.heap.size,PD.heap.size)::iv) r (cC w) he fun x hx=>List.mem_cons_of_mem _ hx;generalize (PH.heap.size,PD.heap.size)::iv=ON at*
   obtain⟨A0,A1,A2,A3,A4,A5,A6,A7,rfl⟩:=hd.shape;refine⟨⟨gx,0,none⟩,rfl,by omega,?_⟩;intro O w' r;obtain⟨g,hg,h1,h2,h3,h4⟩:=hX.store (j:=i) OC (by rw[c9,aM,hz];rfl) hd r (cC w);injection hg with hg;injection hg with hg;subst hg;refine⟨h1,h2,h3,fun w5 QZ=>?_⟩;obtain⟨k1,k2,k3,k4⟩:=h4 w5 QZ;have Oz:=(hw.tr r.cQ).tr k3;have Uw:=Bs.kept (v:=(.slice (some ⟨gx,0,none⟩) l.length l.length)) r (cC w) k2 fun g e=>e;have hM2:=hM.cJ Uw;have hLm2:=Vl.cJ Uw;have Qe:=dh.cJ hK Uw;refine⟨((i+1:Nat):Int),wo,?_⟩;intro ρ3 w6 r3;exact⟨(i+1,gx,w6,_),⟨OC,Oz.tr r3.cQ,hM2.cJ (Bs.same r3 (cC w)),hLm2.cJ (Bs.same r3 (cC w)),dh.cJ Qe (Bs.same r3 (cC w)),k1.rel r3 (cC w)⟩,Sub.gn [] r3,by dsimp only;omega⟩
  have OC:i=l.length:=aO hi (by simpa using OC);rw[OC]at hX;have hX2:=(hX.done (by simp[c9])).c;replace hK:=(dh.cK hK fun g hg=>hg.1).push (u:=(.slice (some ⟨gx,0,none⟩) l.length l.length)) (x:=c9 l) rfl (by rw[show l.length=(c9 l).length by simp[c9]]at hX2 ⊢;exact hX2);rw[<-OL]at hK;replace hM:=hM.cK fun g hg=>hg.1;refine .inl ?_;refine⟨by simp,by omega,by unfold maxLen;omega,((k+1:Nat):Int),wo,?_⟩;intro ρ3 w3 r3;exact⟨(k+1,rv++[(.slice (some ⟨gx,0,none⟩) l.length l.length)],w3,_),⟨OH,hw.tr r3.cQ,hM.cJ fun g hg=>Rel.same r3 (cC w) hg,hK.rel r3 (cC w)⟩,Sub.gn [(3,6)] r3 ⟨by dsimp only;rw[List.length_append,List.length_singleton];rfl,rfl,rfl,trivial⟩,by dsimp only;omega⟩
 have OH:k=(gk f).length:=aO hk (by simpa using OH);rw[List.take_of_length_le (by rw[cP,aK];omega)]at hK;intro ρe we re;refine⟨_,rfl,hw.tr re.cQ,⟨_,rfl,rv,?_,hK.1,fun i u x k1 k2=>cI.cK (cI.rel (hK.2.2 i u x k1 k2) re (cC w)) fun g hg=>Cv.nw hg re⟩,fun x hx=>?_,fun x hx q hq=>?_⟩
 ·rw[<-hK.1];exact(re.iG (id:=3) (sz:=1) (m:=rv.length) rfl (by simp) (by unfold maxLen;omega) (by decide) hK.2.1).cK fun g hg=>.inr hg
 ·obtain⟨l,hl,rfl⟩:=aU.1 hx;rw[c9,aK];exact VK l hl
 ·obtain⟨l,hl,rfl⟩:=aU.1 hx;obtain⟨z,hz,rfl⟩:=aU.1 hq;have:=OW l hl z hz;have:=wA (z:=z) (by omega) (by omega);omega
def OB(x:Ld):List Int:=[x.2.1,x.2.2.1,x.2.2.2]
def gT(s:List Int)(x:Ld):Nat->List Int
 |0=>s
 |k+1=>Hg (gT s x k) (3*x.1+k).toNat ((OB x).getD k 0)
def fU(n:Nat)(l:List Ld):Nat->List Int
 |0=>List.replicate (3*n) 0
 |i+1=>gT (fU n l i) (l.getD i (0,0,0,0)) 3
def dI(f:fA)(l:List Ld):List Rat:=c9 (fU f.nodes.length l l.length)
structure nL(n:Nat)(l:List Ld):Prop where
 len:l.length<=200
 ld:∀x∈l,(0<=x.1∧x.1<n)∧(-1000000<=x.2.1∧x.2.1<=1000000)∧(-1000000<=x.2.2.1∧x.2.2.1<=1000000)∧(-1000000<=x.2.2.2∧x.2.2.2<=1000000)
theorem sk(s:List Int)(x:Ld):∀k,(gT s x k).length=s.length
 |0=>rfl
 |k+1=>by rw[gT,Hg,bF];exact sk s x k
theorem kB(n:Nat)(l:List Ld):∀i,(fU n l i).length=3*n
 |0=>bG ..
 |i+1=>by rw[fU,sk];exact kB n l i
theorem mb{k:Nat}{d:Int}(e:3*x.1+(k:Int)=j)(hd:(OB x).getD k 0=d)(hz:(gT s x k)[j]? =some z):(gT s x k).set j (z+d)=gT s x (k+1):=by
 rw[gT,Hg,hd,e,aE,show(gT s x k).getD j 0=z by rw[List.getD,hz];rfl]
def MR(s:List Int)(t:Int):Prop:=∀z∈s,-t<=z∧z<=t
theorem MR.set{t t2:Int}(h:MR s t)(ht:t<=t2)(hz: -t2<=z∧z<=t2):MR (s.set j z) t2:=fun y hy=>by
 rcases bJ hy with hy|rfl
 ·have:=h y hy;omega
 ·exact hz
def zv(l:List Int):List Value:=l.map fun z=>.int .i64 z
theorem Dc(l:List Int):(zv l).length=l.length:=aK ..
theorem CN{l:List Int}(h:l[j]? =some z):(zv l)[j]? =some (.int .i64 z):=by rw[zv,aM,h];rfl
theorem Dd{l:List Int}(h:j<l.length):(zv l).take j++[.int .i64 z]++(zv l).drop (j+1)=zv (l.set j z):=by
 rw[zv,zv,List.map_set];exact gC (by rw[aK];exact h)
theorem o8(f:fA):(dO f).length=f.cols:=by simp[dO,fA.cols]
theorem cS.NQ{q:Rat}(h:css.length=qs.length∧∀(j:Nat) cs q,css[j]? =some cs->qs[j]? =some q->mc w S cs q)(hc:mc w S cs q):
  (css++[cs]).length=(qs++[q]).length∧∀(j:Nat) c p,(css++[cs])[j]? =some c->(qs++[q])[j]? =some p->mc w S c p:=by
 refine⟨by simp[h.1],fun j x p h1 h2=>?_⟩;rcases aP j css.length with hi|hi
 ·rw[aL hi]at h1;rw[aL (by rw[<-h.1];exact hi)]at h2;exact h.2 j x p h1 h2
 ·have RT:j=css.length:=by have:=(aD.1 h1).1;simp at this;omega
  subst RT;rw[aN (aF _),bI]at h1;rw[h.1,aN (aF _),bI]at h2;simp at h1 h2;subst h1 h2;exact hc
set_option maxHeartbeats 1000000 in
theorem qv{cn:Nat}(hS:Old S w)(hl:fL w S vl l)(TR:f.nodes.length<=20)(OF:nL f.nodes.length l)
  {ab aq:Option Addr} {nb cb nq cq:Nat} (US:vb= .slice ab nb cb) (QW:vs= .slice aq nq cq):
  eA PG N.pw #[.agg #[.slice an f.nodes.length cn,vb,vs],vl] w (eF w fun v' w2=>dg w2 FF w.heap.size [(w.heap.size,w2.heap.size)] v' (3*f.nodes.length) (dI f l)∧∀q∈dI f l,rl q<=1):=by
 subst US QW;have hw:=bR w;obtain⟨al,cl,rfl,PU,QO⟩:=hl.shape;have hl200:=OF.len;refine uH (by simp) ?_;refine⟨((3*f.nodes.length:Nat):Int),wo,?_⟩;obtain⟨m,hm⟩:∃m,3*f.nodes.length=m:=⟨_,rfl⟩
 rw[hm]
 refine⟨m,m,rfl,rfl,aF _,by omega,by omega,Nat×World,fun z=>⟨[(5,.o (.s 1 0 m m)),(18,sV al l.length cl),(19,iZ l.length),(20,iN z.1)],[(1,.arr T.int (zv (fU f.nodes.length l z.1)))],2,[],z.2⟩,fun z=>l.length-z.1,
  fun z=>z.1<=l.length∧eE w.heap.size w z.2∧MR (fU f.nodes.length l z.1) (3000000*z.1),?_,?_⟩
 ·intro O w' r3;exact⟨(0,w'),⟨aQ _,hw.tr r3.cQ,fun z hz=>by rw[fU]at hz;rw[bP hz];exact⟨Int.le_refl _,Int.le_refl _⟩⟩,Sub.gn [] r3 ⟨by dsimp only;rw[fU,hm,zv,List.map_replicate];rfl,trivial⟩⟩
 rintro⟨i,w1⟩ ⟨hi,hw,OW⟩;dsimp only at hi hw OW ⊢;refine dK.mk ?_ ?_<;>intro OC
 ·have OC:i<l.length:=by simpa using OC
  obtain⟨x,hx⟩:∃x,l[i]? =some x:=⟨_,aB OC⟩
  obtain⟨hn,SH,RM,hx3⟩:=OF.ld x (aC hx);obtain⟨kn,hkn⟩:=Int.eq_ofNat_of_zero_le hn.1;obtain⟨adx,cs,PC,hP,-,Oa⟩:=hl.load (by decide) hx;have hP:cs=[.int .i64 x.1,.int .i64 x.2.1,.int .i64 x.2.2.1,.int .i64 x.2.2.2]:=hP;subst hP
  refine⟨adx,PC,by omega,[.int .i64 x.1,.int .i64 x.2.1,.int .i64 x.2.2.1,.int .i64 x.2.2.2],rfl,rdO Oa hw hS,Nat×World,fun z=>⟨[(5,.o (.s 1 0 m m)),(7,pP 2 0),(30,.a [.v (.int .i64 x.2.1),.v (.int .i64 x.2.2.1),.v (.int .i64 x.2.2.2)]),(31,iN z.1),(18,sV al l.length cl),(19,iZ l.length),(20,iN i)],[(2,.box T.aAn [.v (.int .i64 x.1),.v (.int .i64 x.2.1),.v (.int .i64 x.2.2.1),.v (.int .i64 x.2.2.2)]),(1,.arr T.int (zv (gT (fU f.nodes.length l i) x z.1)))],3,[],z.2⟩,fun z=>3-z.1,
   fun z=>z.1<=3∧eE w.heap.size w z.2∧MR (gT (fU f.nodes.length l i) x z.1) (3000000*i+1000000*z.1),?_,?_⟩
  ·intro O w' r3;exact⟨(0,w'),⟨aQ _,hw.tr r3.cQ,OW⟩,Sub.gn [] r3⟩
  rintro⟨k,w3⟩ ⟨hk,hw,OW⟩;dsimp only at hk hw OW ⊢;refine dK.mk ?_ ?_<;>intro OH
  ·have OH:k<3:=by have:=aI OH;omega
   obtain⟨d,hd⟩:∃d,(OB x).getD k 0=d:=⟨_,rfl⟩
   have hdb: -1000000<=d∧d<=1000000:=by
    rw[<-hd,OB];rcases(show k=0∨k=1∨k=2 by omega)with rfl|rfl|rfl<;>simp[List.getD]<;>omega
   have hLl:(gT (fU f.nodes.length l i) x k).length=m:=by rw[sk,kB,hm]
   obtain⟨z,hz⟩:∃z,(gT (fU f.nodes.length l i) x k)[3*kn+k]? =some z:=⟨_,aB (by omega)⟩
   have SL:=OW z (aC hz);have UQ:3*x.1+(k:Int)=((3*kn+k:Nat):Int):=by omega
   have QR:=mb UQ hd hz;have Rc:=OW.set (j:=3*kn+k) (z:=z+d) (t2:=3000000*i+1000000*(k+1:Nat)) (by omega) (by omega);rw[QR]at Rc;refine Ag hτ (cs:= #[.int .i64 x.2.1,.int .i64 x.2.2.1,.int .i64 x.2.2.2]) rfl rfl rfl (fun _=>rfl) rfl ⟨by omega,by omega⟩ (u:=.int .i64 d) ?_ (fun O w4 r=>?_)
   ·rw[<-hd,OB,aE];rcases(show k=0∨k=1∨k=2 by omega)with rfl|rfl|rfl<;>rfl
   replace hw:=hw.tr r.cQ;refine⟨3*x.1,wo,((3*kn+k:Nat):Int),wo,by omega,.int .i64 z,by rw[aE,aT,aR];exact CN hz,z+d,wo,by omega,by rw[Dc];omega,zv (gT (fU f.nodes.length l i) x (k+1)),?_,?_⟩
   ·rw[aE,aT,aR,<-QR];exact Dd (by omega)
   refine⟨((k+1:Nat):Int),wo,?_⟩;intro ρ3 w6 r3;exact⟨(k+1,w6),⟨OH,hw.tr r3.cQ,Rc⟩,Sub.gn [] r3,by dsimp only;omega⟩
  have OH:k=3:=by have:=aH OH;omega
  subst OH;have QR:gT (fU f.nodes.length l i) x 3=fU f.nodes.length l (i+1):=by rw[fU,show l.getD i (0,0,0,0)=x by rw[List.getD,hx];rfl]
  rw[QR]at OW ⊢;refine⟨((i+1:Nat):Int),wo,?_⟩;intro ρ3 w6 r3;exact⟨(i+1,w6),⟨OC,hw.tr r3.cQ,fun z hz=>by have:=OW z hz;dsimp only;omega⟩,Sub.gn [] r3,by dsimp only;omega⟩
 have OC:i=l.length:=aO hi (by simpa using OC);subst OC;obtain⟨s,hs⟩:∃s,fU f.nodes.length l l.length=s:=⟨_,rfl⟩
 have R1:s.length=m:=by rw[<-hs,kB,hm]
 rw[hs]at OW ⊢;unfold dI;rw[hs]
 refine⟨m,m,rfl,rfl,aF _,by omega,by omega,Nat×List (List Value)×Iv×World,fun z=>⟨[(10,.o (.s 2 0 m m)),(51,.o (.s 1 0 m m)),(52,iZ m),(53,iN z.1)],[(2,.arr T.Rat z.2.1.flatten),(1,.arr T.int (zv s))],3,z.2.2.1,z.2.2.2⟩,fun z=>m-z.1,
  fun z=>z.1<=m∧eE w.heap.size w z.2.2.2∧fw z.2.2.2 (Cf w z.2.2.1) m z.1 z.2.1 (c9 s),?_,?_⟩
 ·intro O w' r;exact⟨(0,List.replicate m f0,_,w'),⟨aQ _,hw.tr r.cQ,fw.start _ _ _ _⟩,Sub.gn [] r⟩
 rintro⟨i,css,iv,w1⟩ ⟨RB,hw,hF⟩;dsimp only at RB hw hF ⊢;refine dK.mk ?_ ?_<;>intro OC
 ·have OC:i<m:=by simpa using OC
  obtain⟨z,hz⟩:∃z,s[i]? =some z:=⟨_,aB (by omega)⟩
  have SL:=OW z (aC hz);refine⟨by omega,.int .i64 z,by rw[aE,aT,aR];exact CN hz,?_⟩;refine cF (cE hw (fun _ w' v w2=>cT w2 (Nf w' w2) v (z:Rat)) (fun O w' r=>jM z w' (by omega) (by omega)) ?_);rintro O _ _ _ OJ r he hw h_ hn;replace hF:=hF.cG r (cC w) he (mC h_);have hd:=hn.dB (S:=FF) r.cD (mN h_);obtain⟨A0,A1,A2,A3,A4,A5,A6,A7,rfl⟩:=hd.shape;have OL:=hF.next OC (q:=_) (by rw[c9,aM,hz];rfl) hd
  refine⟨by omega,by have:=hF.flat;omega,(css.set i [.bool A0,.slice A1 A2 A3,.bool A4,.slice A5 A6 A7]).flatten,?_,?_⟩
  ·have:=jN (cs:=[.bool A0,.slice A1 A2 A3,.bool A4,.slice A5 A6 A7]) hF.four (show i<css.length by rw[hF.len];exact OC);rw[<-this];simp
  refine⟨((i+1:Nat):Int),wo,?_⟩;intro ρ3 w3 r3;exact⟨(i+1,css.set i [.bool A0,.slice A1 A2 A3,.bool A4,.slice A5 A6 A7],_,w3),⟨OC,hw.tr r3.cQ,OL.rel r3 (cC w)⟩,Sub.gn [] r3,by dsimp only;omega⟩
 have OC:i=m:=aO RB (by simpa using OC);subst OC;intro ρe we re
 exact⟨_,rfl,hw.tr re.cQ,hF.done (by rw[c9,aK];exact R1) (by unfold maxLen;omega) re (id:=2) rfl (re.nn 2 _ rfl (by intros;simp) (by simp)),fun q hq=>by
  obtain⟨z,hz,rfl⟩:=aU.1 hq;have:=OW z hz
  exact wA (by omega) (by omega)⟩
set_option maxHeartbeats 1000000 in
theorem CO{vn:Value}(hS:Old S w)(hf:dU w S vn vb vs f)(OF:uU f):
  eA PG N.qC #[.agg #[vn,vb,vs]] w (eF w fun v' w2=>cS w2 (Nw S w w2) v' (dO f)):=by
 have hw:=bR w;obtain⟨an,cn,ab,cb,aq,cq,rfl,rfl,rfl,Q1,Qh,RN⟩:=hf.shape;have hf0:=hf;refine uL (by simp) ?_
 refine⟨Nat×List (List Value)×World,fun z=>⟨[(3,.o (.w 1 z.2.1.length)),(9,sV ab f.bars.length cb),(10,iZ f.bars.length),(11,iN z.1),(1,pP 0 0)],[(1,.vec T.Rat 4 z.2.1.flatten),(0,.box T.Frame [.v (.slice an f.nodes.length cn),.v (.slice ab f.bars.length cb),.v (.slice aq f.cX.length cq)])],2,[],z.2.2⟩,fun z=>f.bars.length-z.1,
  fun z=>z.1<=f.bars.length∧eE w.heap.size w z.2.2∧(∀cs∈z.2.1,cs.length=4)∧(z.2.1.length=((fun i=>(f.bars.take i).map (·.2.2)) z.1).length∧∀(j:Nat) cs q,z.2.1[j]? =some cs->((fun i=>(f.bars.take i).map (·.2.2)) z.1)[j]? =some q->mc z.2.2 S cs q),?_,?_⟩
 ·intro O w' r;exact⟨(0,[],w'),⟨aQ _,hw.tr r.cQ,fun cs h=>(by cases h),rfl,fun j cs q h=>by cases h⟩,Sub.nil 3 T.Rat 4 rfl (by simp[j8,SV.sc,At.sc,fa]) r fun ρ1 r1=>Sub.gn [] r1⟩
 rintro⟨k,css,w1⟩ ⟨hk,hw,R4,hR⟩;dsimp only at hk hw R4 hR ⊢;have OX:=eY R4;refine dK.mk ?_ ?_<;>intro OH
 ·have OH:k<f.bars.length:=by simpa using OH
  have SY:=OF.b;have SZ:=OF.s;obtain⟨b,hb⟩:∃b,f.bars[k]? =some b:=⟨_,aB OH⟩
  have QR:(fun i=>(f.bars.take i).map (·.2.2)) (k+1)=(fun i=>(f.bars.take i).map (·.2.2)) k++[b.2.2]:=by dsimp only;rw[List.take_add_one,hb];simp
  obtain⟨adb,cs,Pf,hF,-,Od⟩:=hf0.bars.load (by decide) hb;obtain⟨g0,g1,g2,g3,g4,g5,g6,g7,rfl,hF⟩:=hF;refine⟨adb,Pf,by omega,[.int .i64 b.1,.int .i64 b.2.1,.bool g0,.slice g1 g2 g3,.bool g4,.slice g5 g6 g7],rfl,rdO Od hw hS,?_⟩;have Uj:mc w1 S [.bool g0,.slice g1 g2 g3,.bool g4,.slice g5 g6 g7] b.2.2:=⟨_,_,_,_,_,_,_,_,rfl,hF.cJ fun g hg=>hw.block g (hS g hg)⟩
  have Ql:=cS.NQ hR Uj;rw[<-QR]at Ql;have Pt:css.flatten++([.bool g0,.slice g1 g2 g3,.bool g4,.slice g5 g6 g7]:List Value)=(css++([[.bool g0,.slice g1 g2 g3,.bool g4,.slice g5 g6 g7]]:List (List Value))).flatten:=by simp
  have hlen2:css.length<=200:=by rw[hR.1,aK,aW];have:=OF.b;omega
  refine .inl ?_;refine⟨by omega,by omega,by unfold maxLen;omega,((k+1:Nat):Int),wo,?_⟩;intro ρ3 w3 r3
  exact⟨(k+1,css++[[.bool g0,.slice g1 g2 g3,.bool g4,.slice g5 g6 g7]],w3),⟨OH,hw.tr r3.cQ,fun cs hc=>by
   rcases bS.1 hc with hc|hc
   ·exact R4 cs hc
   ·rw[bB.1 hc];rfl,Ql.1,fun j cs q h1 h2=>(Ql.2 j cs q h1 h2).cJ fun g hg=>(r3.cQ).block g (hS g hg)⟩,Sub.gn [(1,4)] r3 ⟨by dsimp only;rw[<-Pt];rfl,rfl,trivial⟩ ⟨by dsimp only;rw[List.length_append,List.length_singleton];rfl,rfl,rfl,rfl,rfl,trivial⟩,by dsimp only;omega⟩
 have OH:k=f.bars.length:=aO hk (by simpa using OH);subst OH;have Of:css.length=f.bars.length:=by rw[hR.1,aK,aW];omega
 rw[bD,show f.bars.map (·.2.2)=f.bars.map (·.2.2)++(f.cX.take 0).map (·.2.2) by simp]at hR
 refine⟨Nat×List (List Value)×World,fun z=>⟨[(3,.o (.w 1 z.2.1.length)),(22,sV aq f.cX.length cq),(23,iZ f.cX.length),(24,iN z.1)],[(1,.vec T.Rat 4 z.2.1.flatten),(0,.box T.Frame [.v (.slice an f.nodes.length cn),.v (.slice ab f.bars.length cb),.v (.slice aq f.cX.length cq)])],2,[],z.2.2⟩,fun z=>f.cX.length-z.1,
  fun z=>z.1<=f.cX.length∧eE w.heap.size w z.2.2∧(∀cs∈z.2.1,cs.length=4)∧(z.2.1.length=((fun i=>f.bars.map (·.2.2)++(f.cX.take i).map (·.2.2)) z.1).length∧∀(j:Nat) cs q,z.2.1[j]? =some cs->((fun i=>f.bars.map (·.2.2)++(f.cX.take i).map (·.2.2)) z.1)[j]? =some q->mc z.2.2 S cs q),?_,?_⟩
 ·intro O w' r3;exact⟨(0,css,w'),⟨aQ _,hw.tr r3.cQ,R4,hR.1,fun j cs q h1 h2=>(hR.2 j cs q h1 h2).cJ fun g hg=>(r3.cQ).block g (hS g hg)⟩,Sub.gn [] r3⟩
 rintro⟨k,css,w1⟩ ⟨hk,hw,R4,hR⟩;dsimp only at hk hw R4 hR ⊢;have OX:=eY R4;refine dK.mk ?_ ?_<;>intro OH
 ·have OH:k<f.cX.length:=by simpa using OH
  have SY:=OF.b;have SZ:=OF.s;obtain⟨b,hb⟩:∃b,f.cX[k]? =some b:=⟨_,aB OH⟩
  have QR:(fun i=>f.bars.map (·.2.2)++(f.cX.take i).map (·.2.2)) (k+1)=(fun i=>f.bars.map (·.2.2)++(f.cX.take i).map (·.2.2)) k++[b.2.2]:=by dsimp only;rw[List.take_add_one,hb];simp
  obtain⟨adb,cs,Pf,hF,-,Od⟩:=hf0.cX.load (by decide) hb;obtain⟨g0,g1,g2,g3,g4,g5,g6,g7,rfl,hF⟩:=hF;refine⟨adb,Pf,by omega,[.int .i64 b.1,.int .i64 b.2.1,.bool g0,.slice g1 g2 g3,.bool g4,.slice g5 g6 g7],rfl,rdO Od hw hS,?_⟩;have Uj:mc w1 S [.bool g0,.slice g1 g2 g3,.bool g4,.slice g5 g6 g7] b.2.2:=⟨_,_,_,_,_,_,_,_,rfl,hF.cJ fun g hg=>hw.block g (hS g hg)⟩
  have Ql:=cS.NQ hR Uj;rw[<-QR]at Ql;have Pt:css.flatten++([.bool g0,.slice g1 g2 g3,.bool g4,.slice g5 g6 g7]:List Value)=(css++([[.bool g0,.slice g1 g2 g3,.bool g4,.slice g5 g6 g7]]:List (List Value))).flatten:=by simp
  have hlen2:css.length<=200:=by rw[hR.1,List.length_append,aK,aK,aW];have:=OF.b;have:=OF.s;omega
  refine .inl ?_;refine⟨by omega,by omega,by unfold maxLen;omega,((k+1:Nat):Int),wo,?_⟩;intro ρ3 w3 r3
  exact⟨(k+1,css++[[.bool g0,.slice g1 g2 g3,.bool g4,.slice g5 g6 g7]],w3),⟨OH,hw.tr r3.cQ,fun cs hc=>by
   rcases bS.1 hc with hc|hc
   ·exact R4 cs hc
   ·rw[bB.1 hc];rfl,Ql.1,fun j cs q h1 h2=>(Ql.2 j cs q h1 h2).cJ fun g hg=>(r3.cQ).block g (hS g hg)⟩,Sub.gn [(1,4)] r3 ⟨by dsimp only;rw[<-Pt];rfl,rfl,trivial⟩ ⟨by dsimp only;rw[List.length_append,List.length_singleton];rfl,rfl,rfl,rfl,trivial⟩,by dsimp only;omega⟩
 have OH:k=f.cX.length:=aO hk (by simpa using OH);subst OH;intro ρe we re;have hfull:f.bars.map (·.2.2)++(f.cX.take f.cX.length).map (·.2.2)=dO f:=by rw[bD];rfl
 rw[hfull]at hR;refine⟨_,rfl,hw.tr re.cQ,css,?_,hR.1,R4,fun j cs q k1 k2=>((hR.2 j cs q k1 k2).cJ fun g hg=>(re.cQ).block g (hS g hg)).cK fun g hg=>.inl hg⟩;have PU:=hR.1
 have h5:=re.iG (id:=1) (sz:=4) (m:=css.length) rfl OX (by have:=OF.b;have:=OF.s;rw[PU,o8];unfold fA.cols maxLen;omega) (by decide) (fun u hu=>by
  obtain⟨cs,hc,hu⟩:=List.mem_flatten.1 hu;obtain⟨j,hj⟩:=aS hc;obtain⟨_,_,_,_,_,_,_,_,rfl,_⟩:=hR.2 j cs _ hj (aB (by rw[<-PU];exact(aD.1 hj).1));simp at hu
  rcases hu with rfl|rfl|rfl|rfl<;>rfl)
 rw[<-PU];exact h5.cK fun g hg=>.inr hg
def ek{α:Type}(e:List α->α->Int):List α->List α->Int
 |_,[]=>0
 |seen,x::r=>if e seen x=0 then ek e (seen++[x]) r else e seen x
section
variable{α:Type}{e:List α->α->Int}{xs:List α}
theorem gY{k:Nat}{x:α}(hx:xs[k]? =some x)(h0:e (xs.take k) x=0):ek e (xs.take k) (xs.drop k)=ek e (xs.take (k+1)) (xs.drop (k+1)):=by
 have hk:=(aD.1 hx).1;have h2:=(aD.1 hx).2;rw[List.drop_eq_getElem_cons hk,h2,ek,if_pos h0,List.take_add_one,hx];rfl
theorem cU{k:Nat}{x:α}{c:Int}(hx:xs[k]? =some x)(h0:e (xs.take k) x=c)(hc:c≠0):ek e (xs.take k) (xs.drop k)=c:=by
 have hk:=(aD.1 hx).1;have h2:=(aD.1 hx).2;rw[List.drop_eq_getElem_cons hk,h2,ek,aJ (by rw[h0];exact hc),h0]
theorem iq{k:Nat}(hk:xs.length<=k):ek e (xs.take k) (xs.drop k)=0:=by
 rw[List.drop_eq_nil_of_le hk];rfl
theorem ic(h:ek e [] xs=0):∀k x,xs[k]? =some x->e (xs.take k) x=0:=by
 have key:∀k,k<=xs.length->ek e (xs.take k) (xs.drop k)=0∧∀j x,j<k->xs[j]? =some x->e (xs.take j) x=0:=fun k=>by
  induction k with
  |zero=>intro _;exact⟨by simpa using h,fun j x hj=>by omega⟩
  |succ k ih=>
   intro hk;obtain⟨h1,h2⟩:=ih (by omega);obtain⟨x,hx⟩:∃x,xs[k]? =some x:=⟨_,aB (by omega)⟩
   have h0:e (xs.take k) x=0:=by
    by_cases h0:e (xs.take k) x=0
    ·exact h0
    ·rw[cU hx rfl h0]at h1;exact h1
   refine⟨by rw[<-gY hx h0];exact h1,fun j y hj hy=>?_⟩;rcases aP j k with Ro|Ro
   ·exact h2 j y Ro hy
   ·have:j=k:=by omega
    subst this;rw[hx]at hy;injection hy with hy;rw[<-hy];exact h0
 exact fun k x hx=>(key xs.length (aF _)).2 k x (aD.1 hx).1 hx
end
def nA(n:Int):Prop:= -1000000<=n∧n<=1000000
instance (n : Int) : Decidable (nA n) := by unfold nA; infer_instance
def fD(seen:List (Int×Int×Int))(p:Int×Int×Int):Int:=if nA p.1∧nA p.2.1∧nA p.2.2 then(if p∈seen then 12 else 0)else 2
def gU(b:Int×Int×Rat):Int×Int:=(min b.1 b.2.1,max b.1 b.2.1)
def jD(n:Nat)(i:Int):Prop:=0<=i∧i<n
instance (n : Nat) (i : Int) : Decidable (jD n i) := by unfold jD; infer_instance
def fO(n:Nat)(seen:List (Int×Int×Rat))(b:Int×Int×Rat):Int:=
 if jD n b.1∧jD n b.2.1 then(if b.1=b.2.1 then 3 else if gU b∈seen.map gU then 5 else if b.2.2<=0 then 2 else 0)else 6
def ia(s:Int×Int×Rat):Int×Int:=(s.1,s.2.1)
def kX(n:Nat)(seen:List (Int×Int×Rat))(s:Int×Int×Rat):Int:=
 if jD n s.1 then(if 0<=s.2.1∧s.2.1<=2 then(if ia s∈seen.map ia then 5 else if s.2.2<0 then 2 else 0)else 2)else 6
def eL(f:fA):Int:=
 if 20<f.nodes.length∨60<f.bars.length∨60<f.cX.length then 8 else
  if ek fD [] f.nodes≠0 then ek fD [] f.nodes else
   if ek (fO f.nodes.length) [] f.bars≠0 then ek (fO f.nodes.length) [] f.bars else ek (kX f.nodes.length) [] f.cX
def j5(n:Nat)(x:Ld):Int:=if jD n x.1 then(if nA x.2.1∧nA x.2.2.1∧nA x.2.2.2 then 0 else 2)else 6
def uV(n:Nat)(l:List Ld):Int:=if 200<l.length then 8 else ek (fun _=>j5 n) [] l
def gR(f:fA)(l:List Ld):Int:=if eL f≠0 then eL f else uV f.nodes.length l
theorem sn{seen:List (Int×Int×Int)}:fD seen p=0↔(nA p.1∧nA p.2.1∧nA p.2.2)∧p∉seen:=by
 unfold fD;split<;>rename_i h
 ·split<;>rename_i h2<;>simp[h,h2]
 ·simp[h]
theorem nK{n:Nat}:fO n seen b=0↔(jD n b.1∧jD n b.2.1)∧b.1≠b.2.1∧gU b∉seen.map gU∧0<b.2.2:=by
 unfold fO;rw[<-Rat.not_le];by_cases h:jD n b.1∧jD n b.2.1
 ·rw[if_pos h];by_cases h2:b.1=b.2.1
  ·rw[if_pos h2];exact⟨(fun e=>by cases e),fun e=>absurd h2 e.2.1⟩
  ·rw[aJ h2];by_cases h3:gU b∈seen.map gU
   ·rw[if_pos h3];exact⟨(fun e=>by cases e),fun e=>absurd h3 e.2.2.1⟩
   ·rw[aJ h3];by_cases h4:b.2.2<=0
    ·rw[if_pos h4];exact⟨(fun e=>by cases e),fun e=>absurd h4 e.2.2.2⟩
    ·rw[aJ h4];exact⟨fun _=>⟨h,h2,h3,h4⟩,fun _=>rfl⟩
 ·rw[aJ h];exact⟨(fun e=>by cases e),fun e=>absurd e.1 h⟩
theorem qq{n:Nat}{s:Int×Int×Rat}:kX n seen s=0↔jD n s.1∧(0<=s.2.1∧s.2.1<=2)∧ia s∉seen.map ia∧0<=s.2.2:=by
 unfold kX;rw[<-Rat.not_lt];by_cases h:jD n s.1<;>by_cases h2:0<=s.2.1∧s.2.1<=2<;>by_cases h3:ia s∈seen.map ia<;>by_cases h4:s.2.2<0<;>simp only[h,h2,h3,h4]<;>simp
theorem HB{n:Nat}:j5 n x=0↔jD n x.1∧nA x.2.1∧nA x.2.2.1∧nA x.2.2.2:=by
 unfold j5;split<;>rename_i h
 ·split<;>rename_i h2<;>simp[h,h2]
 ·simp[h]
theorem vE(h:eL f=0):(f.nodes.length<=20∧f.bars.length<=60∧f.cX.length<=60)∧ek fD [] f.nodes=0∧ek (fO f.nodes.length) [] f.bars=0∧ek (kX f.nodes.length) [] f.cX=0:=by
 unfold eL at h;split at h<;>rename_i h1
 ·cases h
 ·split at h<;>rename_i h2
  ·exact absurd h h2
  ·split at h<;>rename_i h3
   ·exact absurd h h3
   ·exact⟨by omega,by simpa using h2,by simpa using h3,h⟩
theorem jS(h:eL f=0):uU f:=by
 obtain⟨⟨h1,h2,h3⟩,hn,hb,hs⟩:=vE h;refine⟨fun p hp=>?_,fun b QG=>?_,fun s TC=>?_,h1,h2,h3⟩
 ·obtain⟨k,hk⟩:=aS hp;exact(sn.1 (ic hn k p hk)).1
 ·obtain⟨k,hk⟩:=aS QG;exact(nK.1 (ic hb k b hk)).1
 ·obtain⟨k,hk⟩:=aS TC;have:=qq.1 (ic hs k s hk);exact⟨this.1,this.2.1⟩
theorem uW{n:Nat}(h:uV n l=0):nL n l:=by
 unfold uV at h;split at h<;>rename_i h1
 ·cases h
 ·refine⟨by omega,fun x hx=>?_⟩;obtain⟨k,hk⟩:=aS hx;exact HB.1 (ic h k x hk)
theorem jX(h:gR f l=0):eL f=0∧uV f.nodes.length l=0:=by
 unfold gR at h;split at h<;>rename_i h1
 ·exact absurd h h1
 ·exact⟨by simpa using h1,h⟩
theorem lF(n:Int)(w:World):eA PG N.pz #[.int .i64 n,.int .i64 1000000] w (eF w fun v' _=>∃d,v'= .bool d∧(d=true↔nA n)):=by
 have hw:=bR w;refine uI (by simp) ?_;refine⟨-1000000,by decide,?_⟩;refine dK.mk ?_ ?_<;>intro h1
 ·intro ρe we re;have h1:=aI h1;exact⟨_,rfl,hw.tr re.cQ,_,rfl,by rw[decide_eq_true_iff];exact⟨fun h=>⟨h1,h⟩,fun h=>h.2⟩⟩
 ·intro ρe we re;have h1:=aH h1;exact⟨_,rfl,hw.tr re.cQ,_,rfl,(fun h=>by cases h),fun h=>absurd h.1 h1⟩
theorem HC(n:Int)(w:World)(an ab aq:Option Addr)(ln cn nb cb nq cq:Nat):eA PG N.xO #[.agg #[.slice an ln cn,.slice ab nb cb,.slice aq nq cq],.int .i64 n] w (eF w fun v' _=>∃d,v'= .bool d∧(d=true↔jD ln n)):=by
 have hw:=bR w;refine AW (by simp) ?_;refine dK.mk ?_ ?_<;>intro h1
 ·intro ρe we re;have h1:=aI h1;exact⟨_,rfl,hw.tr re.cQ,_,rfl,by rw[decide_eq_true_iff];exact⟨fun h=>⟨h1,h⟩,fun h=>h.2⟩⟩
 ·intro ρe we re;have h1:=aH h1;exact⟨_,rfl,hw.tr re.cQ,_,rfl,(fun h=>by cases h),fun h=>absurd h.1 h1⟩
theorem De(x y0 y1 y2:Int)(n:Nat)(w:World):eA PG N.mS #[.agg #[.int .i64 x,.int .i64 y0,.int .i64 y1,.int .i64 y2],.int .i64 n] w (eF w fun v' _=>v'= .int .i64 (j5 n (x,y0,y1,y2))):=by
 have hw:=bR w;refine qI (by simp) ?_;refine dK.mk ?_ ?_<;>intro h1
 ·have h1:=aI h1;exact rtn hw fun ρe we re=>by show Value.int .i64 _=_;rw[j5,aJ (by unfold jD;omega)]
 have h1:=aH h1;refine dK.mk ?_ ?_<;>intro h2
 ·have h2:=aI h2;exact rtn hw fun ρe we re=>by show Value.int .i64 _=_;rw[j5,aJ (by unfold jD;omega)]
 have h2:=aH h2;have hh:jD n x:=by unfold jD;omega
 refine cF (cE hw (fun _ w' v w2=>∃d,v= .bool d∧(d=true↔nA y0)) (fun O w' r=>lF _ w') ?_);rintro O _ _ _ OJ r he hw h_ ⟨d0,rfl,OM⟩
 cases d0
 ·have OM:¬nA y0:=fun h=>by have:=OM.2 h;cases this
  exact rtn hw fun ρe we re=>by show Value.int .i64 _=_;rw[j5,if_pos hh,aJ (fun h=>OM h.1)]
 replace OM:=OM.1 rfl;refine cF (cE hw (fun _ w' v w2=>∃d,v= .bool d∧(d=true↔nA y1)) (fun O w' r=>lF _ w') ?_);rintro O _ _ _ OG r he hw h_ ⟨d1,rfl,OR⟩
 cases d1
 ·have OR:¬nA y1:=fun h=>by have:=OR.2 h;cases this
  exact rtn hw fun ρe we re=>by show Value.int .i64 _=_;rw[j5,if_pos hh,aJ (fun h=>OR h.2.1)]
 replace OR:=OR.1 rfl;refine cF (cE hw (fun _ w' v w2=>∃d,v= .bool d∧(d=true↔nA y2)) (fun O w' r=>lF _ w') ?_);rintro O _ _ _ ON r he hw h_ ⟨d2,rfl,Oq⟩
 cases d2
 ·have Oq:¬nA y2:=fun h=>by have:=Oq.2 h;cases this
  exact rtn hw fun ρe we re=>by show Value.int .i64 _=_;rw[j5,if_pos hh,aJ (fun h=>Oq h.2.2)]
 replace Oq:=Oq.1 rfl;exact rtn hw fun ρe we re=>by show Value.int .i64 _=_;rw[j5,if_pos hh,if_pos ⟨OM,OR,Oq⟩]
theorem BV{n:Nat}(hS:Old S w)(hl:fL w S vl l):eA PG N.l0 #[vl,.int .i64 n] w (eF w fun v' _=>v'= .int .i64 (uV n l)):=by
 have hw:=bR w;obtain⟨al,cl,rfl,PU,QO⟩:=hl.shape;unfold maxLen at QO;refine pE (by simp) ?_;refine dK.mk ?_ ?_<;>intro h1
 ·have h1:=aI h1;exact rtn hw fun ρe we re=>by show Value.int .i64 _=_;rw[uV,if_pos (by omega)]
 have h1:=aH h1
 refine⟨Nat×World×Iv,fun z=>⟨[(1,iZ n),(11,sV al l.length cl),(12,iZ l.length),(13,iN z.1)],[],0,z.2.2,z.2.1⟩,fun z=>l.length-z.1,
  fun z=>z.1<=l.length∧eE w.heap.size w z.2.1∧uV n l=ek (fun _=>j5 n) (l.take z.1) (l.drop z.1),?_,?_⟩
 ·intro O w' r3;exact⟨(0,w',[]),⟨aQ _,hw.tr r3.cQ,by rw[uV,aJ (by omega)];rfl⟩,Sub.gn [] r3⟩
 rintro⟨i,w1,iv⟩ ⟨hi,hw,hE⟩;dsimp only at hi hw hE ⊢;refine dK.mk ?_ ?_<;>intro OC
 ·have OC:i<l.length:=by simpa using OC
  obtain⟨x,hx⟩:∃x,l[i]? =some x:=⟨_,aB OC⟩
  obtain⟨adx,cs,PC,hP,-,Oa⟩:=hl.load (by decide) hx;have hP:cs=[.int .i64 x.1,.int .i64 x.2.1,.int .i64 x.2.2.1,.int .i64 x.2.2.2]:=hP;subst hP;refine⟨adx,PC,by omega,[.int .i64 x.1,.int .i64 x.2.1,.int .i64 x.2.2.1,.int .i64 x.2.2.2],rfl,rdO Oa hw hS,?_⟩;refine cF (cE hw (fun _ w' v w2=>v= .int .i64 (j5 n x)) (fun O w' r=>De _ _ _ _ n w') ?_);rintro O _ _ _ OJ r he hw h_ rfl;obtain⟨c,hc⟩:∃c,j5 n x=c:=⟨_,rfl⟩
  rw[hc];refine dK.mk ?_ ?_<;>intro hd
  ·have hd:c≠0:=by simpa using hd
   exact rtn hw fun ρe we re=>by show Value.int .i64 _=_;rw[hE,cU hx hc hd]
  have hd:c=0:=by simpa using hd
  rw[hd]at hc;rw[gY hx hc]at hE;refine⟨((i+1:Nat):Int),wo,?_⟩;intro ρ3 w6 r3;exact⟨(i+1,w6,_),⟨OC,hw.tr r3.cQ,hE⟩,Sub.gn [] r3,by dsimp only;omega⟩
 have OC:i=l.length:=aO hi (by simpa using OC);rw[iq (by omega)]at hE;exact rtn hw fun ρe we re=>by show Value.int .i64 _=_;rw[hE]
end Go.Ex
