/- Texts L43 to L67: lemmas, each with its conditions. -/
import Derived.Test.YtbffinhkognefaaGreatDoorP11
set_option linter.defProp false
namespace Go.Ex
variable{M:List (List Rat)}{IR:List Rat}{E9:Mx}{B j l m s v:Nat}{p:Nat->Nat}{Fn:Nat->Nat->Rat}{P:Nat->Prop}{x:Nat->Rat}{a z:Rat}
def mulR(M:List (List Rat))(n:Nat)(x:Nat->Rat)(j:Nat):Rat:=cj (λt=>dR M j t*x t) n
def gg.dot{EQ:Mx}{r n:Nat}{v:Nat->Rat}(h:gg EQ r n v):∃c:Nat->Rat,(∀t,t<n->v t=cj (λi=>c i*EQ i t) r)/\∀x:Nat->Rat,cj (λt=>v t*x t) n=cj (λi=>c i*cj (λt=>EQ i t*x t) n) r:=by
 obtain⟨c,hc⟩:=h;refine⟨c,hc,λx=>?_⟩;rw[cX (g:=λt=>cj (λi=>c i*EQ i t*x t) r) λt ht=>by rw[hc t ht,<-jB],jd];exact cX λi _=>by rw[<-fP];exact cX λt _=>Rat.mul_assoc _ _ _
section
variable{M:List (List Rat)}{n:Nat}{x:Nat->Rat}{b:List Rat}
def FX(hM:iP n M){c:Nat}(hc:c<=n)(h:∀i,i<M.length->mulR (dF M c).1 n x i=0):∀j,j<M.length->mulR M n x j=0:=λj hj=>by
 obtain⟨c,_,I⟩:=((uK hM c hc).2 j hj).dot;unfold mulR;rw[I x,cX (g:=λ_=>0) λi R=>by rw[show cj (λt=>dR (dF M _).1 i t*x t) n=0 from h i R,bF],dc]
def xA(hM:iP n M){t:Nat}(hj:j<M.length):(t<n->dR (eI M b) j t=dR M j t)/\dR (eI M b) j n=b.getD j 0:=by
 have hr:=aE hj;have hl:(M[j]).length=n:=hM _ (bm hj);have e:(eI M b).getD j []=M[j]++[b.getD j 0]:=by rw[eI,List.getD,List.getElem?_mapIdx,hr];rfl
 have e2:M.getD j []=M[j]:=by rw[List.getD,hr];rfl
 refine⟨λht=>?_,?_⟩
 .rw[dR,dR,e,e2,List.getD,aN be,<-List.getD]
 .rw[dR,e,List.getD,aP be,hl,bV];rfl
def FY(x:Nat->Rat)(n t:Nat):Rat:=if t<n then x t else -1
def HU(hM:iP n M)(hj:j<M.length):mulR (eI M b) (n+1) (FY x n) j=mulR M n x j-b.getD j 0:=by
 have h:=λt=>xA (b:=b) (t:=t) hM hj;unfold mulR;rw[cj,(h 0).2,show FY x n n= -1 by unfold FY;rw[aJ (Nat.lt_irrefl n)],cX (g:=λt=>dR M j t*x t) λt ht=>by rw[(h t).1 ht];unfold FY;rw[aM ht]];grind
def lL(M:List (List Rat))(b:List Rat)(n:Nat):Option (List Rat):=
 let e:=dF (eI M b) n
 if ∀j,j<M.length->e.2.length<=j->dR e.1 j n=0 then some (gj e.1 e.2 n e.2.length)else none
def uL{x:List Rat}(hM:iP n M)(h:lL M b n=some x):x.length=n/\∀j,j<M.length->mulR M n (λt=>x.getD t 0) j=b.getD j 0:=by
 unfold lL at h;dsimp only at h;split at h
 .rename_i h0;injection h with h;have hW:=uH (b:=b) hM;obtain⟨r1,r2,r3,r4,r5⟩:=jy hW n (Nat.le_succ n);have Th:=mQ (eI M b) n;have Yp:=jA (M:=M) (b:=b);have hl:=kQ (eI M b) n;have SK:x.length=n:=by rw[<-h,je]
  have Uq:∀j,j<(dF (eI M b) n).2.length->x.getD ((dF (eI M b) n).2.getD j 0) 0=dR (dF (eI M b) n).1 j n:=λj hj=>by
   rw[<-h];exact Dl (AC:=gj (dF (eI M b) n).1 (dF (eI M b) n).2 n) (f:=λi=>dR (dF (eI M b) n).1 i n) (λi=>jz _ _ n i) (je _ _ n) Th.2.1 r4 _ (ae _) hj
  have Qy:∀t,t∉(dF (eI M b) n).2->x.getD t 0=0:=λt ht=>by rw[<-h];exact LZ ht
  refine⟨SK,λj hj=>?_⟩;have key:=FX (M:=eI M b) (x:=FY (λt=>x.getD t 0) n) hW (c:=n) (Nat.le_succ n) (λi R=>?_) j (by rw[Yp];exact hj)
  .rw[HU hM hj]at key;grind
  .unfold mulR;rw[cj,show FY (λt=>x.getD t 0) n n= -1 by unfold FY;rw[aJ (Nat.lt_irrefl n)],cX (g:=λt=>dR (dF (eI M b) n).1 i t*x.getD t 0) λt ht=>by unfold FY;rw[aM ht]];rcases aW i (dF (eI M b) n).2.length with Y|Y
   .rw[eN (i:=(dF (eI M b) n).2.getD i 0) (r4 _ (by rw[List.getD,aE Y];exact bm _)) λt ht Po=>?_,r5 i i Y be,aM rfl,Uq i Y]
    .grind
    .by_cases hp:t∈(dF (eI M b) n).2
     .obtain⟨k,K,rfl⟩:=LY hp;rw[r5 k i K be,aJ (λe=>Po (by rw[e])),bc]
     .rw[Qy t hp,bF]
   .rw[cX (g:=λ_=>0) λt ht=>by rw[r3 i t Y be ht,bc],dc,h0 i (by rw[<-Yp];exact R) Y];grind
 .cases h
def HV(hM:iP n M)(h:lL M b n=none):∃y:Nat->Rat,(∀t,t<n->cj (λj=>y j*dR M j t) M.length=0)/\cj (λj=>y j*b.getD j 0) M.length≠0:=by
 unfold lL at h;dsimp only at h;split at h
 .cases h
 .rename_i h0;obtain⟨i,R,Y,I⟩:∃i,i<M.length/\(dF (eI M b) n).2.length<=i/\dR (dF (eI M b) n).1 i n≠0:=by
   refine Decidable.byContradiction λTu=>h0 λj hj hr=>Decidable.byContradiction λI=>Tu ⟨j,hj,hr,I⟩
  have hW:=uH (b:=b) hM;have Yp:=jA (M:=M) (b:=b);have hl:=kQ (eI M b) n;obtain⟨r1,r2,r3,r4,r5⟩:=jy hW n (Nat.le_succ n);obtain⟨y,hy⟩:=(uK hW n (Nat.le_succ n)).1 i be;rw[Yp]at hy;refine⟨y,λt ht=>?_,?_⟩
  .have h3:=hy t be;rw[r3 i t Y be ht]at h3;rw[h3];exact cX λj hj=>by rw[(xA (b:=b) hM hj).1 ht]
  .have h3:=hy n be;rw[cX (g:=λj=>y j*b.getD j 0) λj hj=>by rw[(xA (b:=b) (t:=n) hM hj).2]]at h3;rw[<-h3];exact I
def Cm{x:Nat->Rat}(hM:iP n M)(h:∀j,j<M.length->mulR M n x j=b.getD j 0):∃z,lL M b n=some z:=by
 cases e:lL M b n with
 |some z=>exact⟨z,rfl⟩
 |none=>
  obtain⟨y,Y,I⟩:=HV hM e;refine absurd ?_ I;rw[cX λj hj=>by rw[<-h j hj,mulR,<-fP],jd,cX (g:=λ_=>0) λt ht=>?_,dc];rw[cX (g:=λj=>y j*dR M j t*x t) λj _=>(Rat.mul_assoc _ _ _).symm,jB,Y t ht,bc]
def Inj(M:List (List Rat))(n:Nat):Prop:=∀x:Nat->Rat,(∀j,j<M.length->mulR M n x j=0)->∀t,t<n->x t=0
def Ld(M:List (List Rat))(n:Nat)(x y:Nat->Rat)(j:Nat):mulR M n (λt=>x t-y t) j=mulR M n x j-mulR M n y j:=by
 unfold mulR;rw[<-jc];exact cX λt _=>by grind
def Jy{x:List Rat}(hM:iP n M)(R:Inj M n)(Z:x.length=n)(h:∀j,j<M.length->mulR M n (λt=>x.getD t 0) j=b.getD j 0):lL M b n=some x:=by
 obtain⟨z,hz⟩:=Cm hM h;obtain⟨Y,I⟩:=uL hM hz;rw[hz];congr 1;refine Bx 0 (by rw[Y,Z]) λt ht=>?_;have:=R (λt=>z.getD t 0-x.getD t 0) (λj hj=>by rw[Ld,h j hj,I j hj];grind) t be;grind
abbrev oG(M:List (List Rat))(n:Nat):List (List Rat):=du (dF M n).1 (dF M n).2 n n
def AA(M:List (List Rat))(n:Nat):(oG M n).length=(kR (dF M n).2 n).length:=by unfold oG du;rw[aO]
def Le(M:List (List Rat))(n:Nat){k:Nat}(K:k<(oG M n).length):(oG M n).getD k []=jq (dF M n).1 (dF M n).2 n ((kR (dF M n).2 n).getD k 0) (dF M n).2.length:=by
 obtain⟨r,hr⟩:∃r,(oG M n)[k]? =some r:=⟨_,aE K⟩
 rw[List.getD,hr];exact(uI hr).2
def Lf(hM:iP n M){k:Nat}(K:k<(oG M n).length):∀j,j<M.length->mulR M n (dR (oG M n) k) j=0:=by
 obtain⟨r1,r2,r3,r4,r5⟩:=jy hM n (ae _);have Th:=mQ M n;have hl:=kQ M n;have hf:=vL.1 (vM (by rw[<-AA];exact K));refine FX hM (ae n) λi R=>?_;have Pm:=Le M n K;generalize hc:(kR (dF M n).2 n).getD k 0=c at hf Pm;have Uq:∀j,j<(dF M n).2.length->dR (oG M n) k ((dF M n).2.getD j 0)= -(dR (dF M n).1 j c):=λj hj=>by
  rw[dR,Pm];exact Dl (AC:=jq (dF M n).1 (dF M n).2 n c) (f:=λi=> -(dR (dF M n).1 i c)) (λi=>lK _ _ n c i) (tW _ _ n c) Th.2.1 r4 _ (ae _) hj
 have Qy:∀t,t∉(dF M n).2->dR (oG M n) k t=if t=c then 1 else 0:=λt ht=>by rw[dR,Pm];exact FR ht hf.1
 unfold mulR;rcases aW i (dF M n).2.length with Y|Y
 .have S6:(dF M n).2.getD i 0∈(dF M n).2:=by rw[List.getD,aE Y];exact bm _
  have Po:(dF M n).2.getD i 0≠c:=λe=>hf.2 (e▸S6);have e:cj (λt=>dR (dF M n).1 i t*dR (oG M n) k t) n=cj (λt=>(if t=(dF M n).2.getD i 0 then -(dR (dF M n).1 i c)else 0)+(if t=c then dR (dF M n).1 i c else 0)) n:=by
   refine cX λt ht=>?_;by_cases hp:t∈(dF M n).2
   .obtain⟨j,hj,rfl⟩:=LY hp;rw[Uq j hj,r5 j i hj be,aJ (show ¬(dF M n).2.getD j 0=c from λe=>hf.2 (e▸hp)),cH];by_cases RQ:i=j
    .rw[aM RQ,aM (by rw[RQ]),RQ,cQ]
    .have Uf:(dF M n).2.getD j 0≠(dF M n).2.getD i 0:=λe2=>RQ (by
      rcases cO i j with h5|h5|h5
      .have:(dF M n).2.getD i 0<(dF M n).2.getD j 0:=LX Th.2.1 h5 hj;omega
      .exact h5
      .have:(dF M n).2.getD j 0<(dF M n).2.getD i 0:=LX Th.2.1 h5 Y
       omega)
     rw[aJ RQ,aJ Uf,bc]
   .rw[Qy t hp,aJ (show ¬t=(dF M n).2.getD i 0 from λe2=>hp (e2▸S6)),Rat.zero_add];by_cases htc:t=c
    .rw[aM htc,aM htc,htc,Rat.mul_one]
    .rw[aJ htc,aJ htc,bF]
  rw[e,fu,eN (i:=(dF M n).2.getD i 0) (r4 _ S6) λt _ Po=>aJ Po,eN (i:=c) hf.1 λt _ Po=>aJ Po,aM rfl,aM rfl];grind
 .rw[cX (g:=λ_=>0) λt ht=>by rw[r3 i t Y be ht,bc],dc]
def NY{c:Nat->Rat}(h:∀t,t<n->cj (λk=>c k*dR (oG M n) k t) (oG M n).length=0):∀k,k<(oG M n).length->c k=0:=λk K=>by
 have TX:k<(kR (dF M n).2 n).length:=by rw[<-AA];exact K
 have hf:=vL.1 (vM TX);have Y:=h _ hf.1;obtain⟨r,hr⟩:∃r,(oG M n)[k]? =some r:=⟨_,aE K⟩
 rw[eN K λi R Po=>?_]at Y
 .rw[dR,show(oG M n).getD k []=r by rw[List.getD,hr];rfl,zu hr hr,aM rfl,Rat.mul_one]at Y;exact Y
 .obtain⟨s,hs⟩:∃s,(oG M n)[i]? =some s:=⟨_,aE R⟩
  rw[dR,show(oG M n).getD i []=s by rw[List.getD,hs];rfl,zu hr hs,aJ Po,bF]
end
def AB(p:Nat->Bool):∀l:List Nat,l.length=(l.filter p).length+(l.filter λc=> !p c).length
 |[]=>rfl
 |c::l=>by
  have ih:=AB p l;rw[List.filter_cons,List.filter_cons]
  cases p c with
  |true=>simp;omega
  |false=>simp;omega
def Lg{pv:List Nat}{n:Nat}(E:pv.Nodup)(hl:∀p∈pv,p<n):(kR pv n).length=n-pv.length:=by
 have Y:(List.range n).length=((List.range n).filter λc=>decide (c∉pv)).length+((List.range n).filter λc=>decide (c∈pv)).length:=by
  refine(AB (λc=>decide (c∉pv)) (List.range n)).trans ?_;congr 2;refine List.filter_congr λc _=>?_;by_cases h:c∈pv<;>simp[h]
 have I:((List.range n).filter λc=>decide (c∈pv)).length=pv.length:=by
  refine(List.Perm.length_eq ?_);refine(List.perm_ext_iff_of_nodup (List.Pairwise.filter _ List.nodup_range) E).2 λc=>?_;rw[List.mem_filter,List.mem_range,decide_eq_true_eq];exact⟨λh=>h.2,λh=>⟨hl c h,h⟩⟩
 rw[List.length_range]at Y;unfold kR;omega
def HW{n:Nat}(hM:iP n M):(oG M n).length=n-(dF M n).2.length:=by
 obtain⟨r1,r2,r3,r4,r5⟩:=jy hM n (ae _);have Th:=mQ M n;rw[AA];exact Lg (Th.2.1.imp λh=>Nat.ne_of_lt h) r4
def sj{b:Rat}(ha:a≠0)(N:b≠0):a*b≠0:=λe=>by
 rcases Rat.mul_eq_zero.1 e with h|h
 .exact ha h
 .exact N h
def Den(FS:Nat)(D:Rat)(l:List Rat):Prop:=D≠0/\Ib FS D/\∀t,Ib FS (D*l.getD t 0)
def AD{l:List Rat}{t:Nat}(h:l.length<=t):l.getD t 0=0:=by rw[List.getD,List.getElem?_eq_none h];rfl
section
variable{M:List (List Rat)}{n B:Nat}{b:List Rat}
end
def tX(IR:List Rat):Nat->Rat
 |0=>1
 |t+1=>tX IR t*((IR.getD t 0).den:Rat)
def FZ(IR:List Rat):∀k,tX IR k≠0
 |0=>by show(1:Rat)≠0;decide
 |k+1=>sj (FZ IR k) (by have:=(IR.getD k 0).den_nz;exact_mod_cast this)
def AE{IR:List Rat}{B:Nat}(h:∀t,(IR.getD t 0).den<=B):∀k,Ib (B^k) (tX IR k)
 |0=>Ib.one (ae _)
 |k+1=>by
  rw[Nat.pow_succ];exact(AE h k).mul ⟨((IR.getD k 0).den:Int),rfl,by rw[Int.natAbs_natCast];exact h k⟩
def NZ(q:Rat):(q.den:Rat)*q=(q.num:Rat):=by
 have h:=Rat.num_divInt_den q;have h0:((q.den:Int):Rat)≠0:=by have:=q.den_nz;exact_mod_cast this
 rw[Rat.divInt_eq_div]at h;have Y:(q.num:Rat) / ((q.den:Int):Rat)*((q.den:Int):Rat)=(q.num:Rat):=Rat.div_mul_cancel h0;rw[h,Rat.mul_comm]at Y;exact Y
def Cn{IR:List Rat}{B:Nat}(h:∀t,(IR.getD t 0).den<=B)(E:∀t,(IR.getD t 0).num.natAbs<=B)(hB:1<=B):∀k t,t<k->Ib (B^k) (tX IR k*IR.getD t 0)
 |0,t,ht=>by omega
 |k+1,t,ht=>by
  rw[tX,Nat.pow_succ];rcases aW t k with Y|Y
  .rw[show ∀a b c:Rat,a*b*c=(a*c)*b from λa b c=>by grind];exact(Cn h E hB k t Y).mul ⟨((IR.getD k 0).den:Int),rfl,by rw[Int.natAbs_natCast];exact h k⟩
  .rw[show t=k by omega,Rat.mul_assoc,NZ];exact(AE h k).mul (Ib.int (E k))
def Lh:1<=wt l:=zg l
def Oc{q:Rat}(h:rl q<=l):q.num.natAbs<wt l/\q.den<wt l:=⟨gn.1 (aR (fg q) h),gn.1 (aR (PL q) h)⟩
def Li(l k:Nat):wt l^k=wt (l*k):=by rw[rI,rI,<-Nat.pow_mul,bo]
def Fa{n:Nat}(hl:IR.length<=n)(h:∀q∈IR,rl q<=3):Den (wt (3*n)) (tX IR n) IR:=by
 have h3:∀t,rl (IR.getD t 0)<=3:=λt=>by
  rw[List.getD]
  cases ht:IR[t]? with
  |none=>show rl 0<=3;decide
  |some q=>exact h q (aG ht)
 have Y:∀t,(IR.getD t 0).den<=wt 3:=λt=>Nat.le_of_lt (Oc (h3 t)).2;have I:∀t,(IR.getD t 0).num.natAbs<=wt 3:=λt=>Nat.le_of_lt (Oc (h3 t)).1;refine⟨FZ IR n,by rw[<-Li];exact AE Y n,λt=>?_⟩;rcases aW t n with ht|ht
 .rw[<-Li];exact Cn Y I Lh n t ht
 .rw[AD be,bF];exact Ib.zero _
def getD_some{α:Type}{l:List α}{i:Nat}{x d:α}(h:l[i]? =some x):l.getD i d=x:=by rw[List.getD,h];rfl
structure aBa(M:List (List Rat))(n:Nat)(IR:Nat->Rat):Prop where
 len:iP n M
 pos:∀t,t<n->0<=IR t
 aBb:∀x:Nat->Rat,(∀j,j<M.length->mulR M n x j=0)->cj (λt=>IR t*(x t*x t)) n=0->∀t,t<n->x t=0
def Lj(M:List (List Rat))(n:Nat)(x y:Nat->Rat)(j:Nat):mulR M n (λt=>x t+y t) j=mulR M n x j+mulR M n y j:=by
 unfold mulR;rw[<-fu];exact cX λt _=>by grind
def HX{n:Nat}{y:Nat->Rat}(h:∀t,t<n->x t=y t)(j:Nat):mulR M n x j=mulR M n y j:=cX λt ht=>by rw[h t ht]
def wrk(IR x y:Nat->Rat)(n:Nat):Rat:=cj (λt=>IR t*(x t*y t)) n
section
variable{M:List (List Rat)}{n:Nat}{IR:Nat->Rat}{b:List Rat}
def dm(k:Nat):List Rat:=List.replicate k 0
def Lk(b:List Rat)(k j:Nat):(b++dm k).getD j 0=b.getD j 0:=by
 unfold dm;rcases aW j b.length with h|h
 .rw[List.getD,aN h,<-List.getD]
 .rw[AD h,List.getD,aP h,List.getElem?_replicate];split<;>rfl
structure aB6(M:List (List Rat))(n:Nat)(IR:Nat->Rat)(b x:List Rat):Prop where
 len:x.length=n
 eq:∀j,j<M.length->mulR M n (λt=>x.getD t 0) j=b.getD j 0
 st:∀k,k<(oG M n).length->wrk IR (dR (oG M n) k) (λt=>x.getD t 0) n=0
end
section
variable{M:List (List Rat)}{n:Nat}{fl b:List Rat}
end
def getD_set_ne{α:Type}{l:List α}{i:Nat}{x d:α}(h:i≠j):(l.set i x).getD j d=l.getD j d:=by rw[List.getD,aX h,<-List.getD]
def Fb{α:Type}{l:List α}{i:Nat}{x d:α}(h:i<l.length):(l.set i x).getD i d=x:=by rw[List.getD,aQ h];rfl
def xB:∀(Fd m:Nat) (g:Nat->Nat),(∀i,i<m->g i<Fd)->(∀i j,i<m->j<m->g i=g j->i=j)->m<=Fd
 |0,m,g,Y,_=>by
  rcases bB m with h|h
  .omega
  .exact absurd (Y 0 h) (Nat.not_lt_zero _)
 |Fd+1,m,g,Y,I=>by
  by_cases h:∃i,i<m/\g i=Fd
  .obtain⟨i0,R,e⟩:=h
   have:=xB Fd (m-1) (λi=>if i<i0 then g i else g (i+1)) (λi R4=>by
    show(if i<i0 then g i else g (i+1))<Fd;split
    .rename_i QU;have:=Y i be;have:g i≠Fd:=λe2=>by have:=I i i0 be R (by rw[e2,e]);omega
     omega
    .have:=Y (i+1) be;have:g (i+1)≠Fd:=λe2=>by have:=I (i+1) i0 be R (by rw[e2,e]);omega
     omega) (λi j R4 Yi e2=>by
    have e3:(if i<i0 then g i else g (i+1))=(if j<i0 then g j else g (j+1)):=e2;split at e3<;>split at e3
    .exact I _ _ be be e3
    .have:=I _ _ be be e3;omega
    .have:=I _ _ be be e3;omega
    .have:=I _ _ be be e3;omega)
   omega
  .exact Nat.le_succ_of_le (xB Fd m g (λi R=>by
    have:=Y i R;have:g i≠Fd:=λe=>h ⟨i,R,e⟩
    omega) I)
def p9(f:Nat->Rat)(a:Nat):∀b,cj f (a+b)=cj f a+cj (λk=>f (a+k)) b
 |0=>(cH _).symm
 |b+1=>by rw[show a+(b+1)=a+b+1 by omega,cj,cj,p9 f a b,Rat.add_assoc]
abbrev NO(M:List (List Rat))(n:Nat):Nat:=(dF M n).2.length
section
variable{M:List (List Rat)}{n:Nat}
end
section
variable{M:List (List Rat)}{n:Nat}{fl b:List Rat}
end
structure Dc where
 m:Nat
 q:Nat
 eu:Nat->Nat
 eR:Nat->Nat
 a:Nat->Nat->Rat
 b:Nat->Rat
 c:Nat->Rat
 top:Rat
structure Dc.Ok(D:Dc):Prop where
 bl:∀i,i<D.m->D.eu i<D.m+D.q
 fl:∀j,j<D.q->D.eR j<D.m+D.q
 bi:∀i k,i<D.m->k<D.m->D.eu i=D.eu k->i=k
 fi:∀j k,j<D.q->k<D.q->D.eR j=D.eR k->j=k
 bf:∀i j,i<D.m->j<D.q->D.eu i≠D.eR j
 all:∀v,v<D.m+D.q->(∃i,i<D.m/\D.eu i=v)\/∃j,j<D.q/\D.eR j=v
def Dc.row(D:Dc)(x:Nat->Rat)(i:Nat):Rat:=cj (λj=>D.a i j*x (D.eR j)) D.q
def Dc.xp(D:Dc)(x:Nat->Rat)(z:Rat):Prop:=(∀i,i<D.m->x (D.eu i)=D.b i-D.row x i)/\z=D.top+cj (λj=>D.c j*x (D.eR j)) D.q
def Dc.gP(D:Dc)(r s:Nat):Dc where
 m:=D.m
 q:=D.q
 eu:=λi=>if i=r then D.eR s else D.eu i
 eR:=λj=>if j=s then D.eu r else D.eR j
 a:=λi j=>if i=r then(if j=s then 1 / D.a r s else D.a r j / D.a r s)else if j=s then -(D.a i s / D.a r s)else D.a i j-D.a i s*(D.a r j / D.a r s)
 b:=λi=>if i=r then D.b r / D.a r s else D.b i-D.a i s*(D.b r / D.a r s)
 c:=λj=>if j=s then -(D.c s / D.a r s)else D.c j-D.c s*(D.a r j / D.a r s)
 top:=D.top+D.c s*(D.b r / D.a r s)
def Ff{g:Nat->Rat}{u:Rat}{s:Nat}:∀{n:Nat},s<n->cj (λj=>if j=s then u else g j) n=cj g n-g s+u
 |0,h=>by omega
 |n+1,h=>by
  by_cases e:s=n
  .subst e;show cj (λj=>if j=s then u else g j) s+(if s=s then u else g s)=cj g s+g s-g s+u;rw[aM rfl,cX (g:=g) λk K=>aJ be];grind
  .show cj (λj=>if j=s then u else g j) n+(if n=s then u else g n)=cj g n+g n-g s+u;rw[aJ (λh=>e h.symm),Ff (show s<n by omega)];grind
section
variable{D:Dc}{r s:Nat}{x:Nat->Rat}{z:Rat}
def Dc.Ok.gP(h:D.Ok)(hr:r<D.m)(hs:s<D.q):(D.gP r s).Ok:=by
 have N:∀i,(D.gP r s).eu i=if i=r then D.eR s else D.eu i:=λ_=>rfl
 have hf:∀j,(D.gP r s).eR j=if j=s then D.eu r else D.eR j:=λ_=>rfl
 refine⟨λi R=>?_,λj hj=>?_,λi k R K e=>?_,λj k hj K e=>?_,λi j R hj e=>?_,λv hv=>?_⟩
 .rw[N];split
  .exact h.fl s hs
  .exact h.bl i R
 .rw[hf];split
  .exact h.bl r hr
  .exact h.fl j hj
 .rw[N,N]at e;split at e<;>split at e
  .omega
  .exact absurd e.symm (h.bf k s K hs)
  .exact absurd e (h.bf i s R hs)
  .exact h.bi i k R K e
 .rw[hf,hf]at e;split at e<;>split at e
  .omega
  .exact absurd e (h.bf r k hr K)
  .exact absurd e.symm (h.bf r j hr hj)
  .exact h.fi j k hj K e
 .rw[N,hf]at e;split at e<;>split at e
  .exact h.bf r s hr hs e.symm
  .rename_i Y I;exact I (h.fi s j hs hj e).symm
  .rename_i Y I;exact Y (h.bi i r R hr e)
  .exact h.bf i j R hj e
 .rcases h.all v hv with⟨i,R,rfl⟩|⟨j,hj,rfl⟩
  .by_cases e:i=r
   .subst e;exact .inr ⟨s,hs,by rw[hf,aM rfl]⟩
   .exact .inl ⟨i,R,by rw[N,aJ e]⟩
  .by_cases e:j=s
   .subst e;exact .inl ⟨r,hr,by rw[N,aM rfl]⟩
   .exact .inr ⟨j,hj,by rw[hf,aJ e]⟩
def Dc.Dq(hs:s<D.q)(g:Nat->Rat)(u:Rat):cj (λj=>(if j=s then u else g j)*x ((D.gP r s).eR j)) D.q=cj (λj=>g j*x (D.eR j)) D.q-g s*x (D.eR s)+u*x (D.eu r):=by
 rw[<-Ff (g:=λj=>g j*x (D.eR j)) hs];refine cX λj _=>?_;show _*x (if j=s then D.eu r else D.eR j)=_;split<;>rfl
def Dc.Co(hs:s<D.q):(D.gP r s).row x r=(D.row x r-D.a r s*x (D.eR s)+x (D.eu r)) / D.a r s:=by
 have e:(D.gP r s).row x r=cj (λj=>(if j=s then 1 / D.a r s else D.a r j / D.a r s)*x ((D.gP r s).eR j)) D.q:=cX λj _=>by
  show(if r=r then _ else _)*_=_;rw[aM rfl]
 rw[e,D.Dq hs];unfold Dc.row;rw[cX (f:=λj=>D.a r j / D.a r s*x (D.eR j)) (g:=λj=>(D.a r j*x (D.eR j))*(1 / D.a r s)) λj _=>by rw[bO,bO];grind,jB];rw[bO,bO,bO];grind
def Dc.Cp(hs:s<D.q){i:Nat}(R:i≠r)(hp:D.a r s≠0):(D.gP r s).row x i=D.row x i-D.a i s / D.a r s*(D.row x r+x (D.eu r)):=by
 have e:(D.gP r s).row x i=cj (λj=>(if j=s then -(D.a i s / D.a r s)else D.a i j-D.a i s*(D.a r j / D.a r s))*x ((D.gP r s).eR j)) D.q:=cX λj _=>by
  show(if i=r then _ else _)*_=_;rw[aJ R]
 rw[e,D.Dq hs];unfold Dc.row;rw[cX (f:=λj=>(D.a i j-D.a i s*(D.a r j / D.a r s))*x (D.eR j)) (g:=λj=>D.a i j*x (D.eR j)-(D.a i s / D.a r s)*(D.a r j*x (D.eR j))) λj _=>by rw[bO,bO];grind,jc,fP];have Y:D.a r s / D.a r s=1:=by rw[bO];exact Rat.mul_inv_cancel _ hp
 rw[Y];grind
def Dc.Ic(hs:s<D.q)(hp:D.a r s≠0):cj (λj=>(D.gP r s).c j*x ((D.gP r s).eR j)) D.q=cj (λj=>D.c j*x (D.eR j)) D.q-D.c s / D.a r s*(D.row x r+x (D.eu r)):=by
 have e:cj (λj=>(D.gP r s).c j*x ((D.gP r s).eR j)) D.q=cj (λj=>(if j=s then -(D.c s / D.a r s)else D.c j-D.c s*(D.a r j / D.a r s))*x ((D.gP r s).eR j)) D.q:=rfl;rw[e,D.Dq hs];unfold Dc.row;rw[cX (f:=λj=>(D.c j-D.c s*(D.a r j / D.a r s))*x (D.eR j)) (g:=λj=>D.c j*x (D.eR j)-(D.c s / D.a r s)*(D.a r j*x (D.eR j))) λj _=>by rw[bO,bO];grind,jc,fP];have Y:D.a r s / D.a r s=1:=by rw[bO];exact Rat.mul_inv_cancel _ hp
 rw[Y];grind
def Dc.Ie(hr:r<D.m)(hs:s<D.q)(hp:D.a r s≠0):(D.gP r s).xp x z↔D.xp x z:=by
 obtain⟨p,XW⟩:∃p,D.a r s=p:=⟨_,rfl⟩
 have hp':=hp;rw[XW]at hp';have hinv:p*p⁻¹=1:=Rat.mul_inv_cancel _ hp';have Pm:((D.gP r s).eu r=D.eR s)/\(D.gP r s).b r=D.b r / D.a r s:=by
  constructor
  .show(if r=r then _ else _)=_;rw[aM rfl]
  .show(if r=r then _ else _)=_;rw[aM rfl]
 have key:x (D.eR s)=D.b r / D.a r s-(D.gP r s).row x r↔x (D.eu r)=D.b r-D.row x r:=by
  rw[D.Co hs,bO,bO,XW];constructor
  .intro h;have:p*x (D.eR s)=p*(D.b r*p⁻¹-(D.row x r-p*x (D.eR s)+x (D.eu r))*p⁻¹):=by rw[<-h]
   grind
  .intro h;rw[h];grind
 have hoth:∀i,i≠r->x (D.eu r)=D.b r-D.row x r->(x ((D.gP r s).eu i)=(D.gP r s).b i-(D.gP r s).row x i↔x (D.eu i)=D.b i-D.row x i):=λi R h=>by
  have e1:(D.gP r s).eu i=D.eu i:=aJ R;have e2:(D.gP r s).b i=D.b i-D.a i s*(D.b r / D.a r s):=aJ R;rw[e1,e2,D.Cp hs R hp,h,bO,bO];constructor
  .intro k;grind
  .intro k;grind
 have XX:x (D.eu r)=D.b r-D.row x r->(D.gP r s).top+cj (λj=>(D.gP r s).c j*x ((D.gP r s).eR j)) D.q=D.top+cj (λj=>D.c j*x (D.eR j)) D.q:=λh=>by
  rw[D.Ic hs hp,h];show D.top+D.c s*(D.b r / D.a r s)+_=_;rw[bO,bO];grind
 constructor
 .rintro⟨Y,I⟩;have RF:x (D.eu r)=D.b r-D.row x r:=key.1 (by have:=Y r hr;rw[Pm.1,Pm.2]at this;exact this);refine⟨λi R=>?_,I.trans (XX RF)⟩;by_cases e:i=r
  .subst e;exact RF
  .exact(hoth i e RF).1 (Y i R)
 .rintro⟨Y,I⟩;have RF:=Y r hr;refine⟨λi R=>?_,I.trans (XX RF).symm⟩;by_cases e:i=r
  .subst e;rw[Pm.1,Pm.2];exact key.2 RF
  .exact(hoth i e RF).2 (Y i R)
end
def Dc.uN(D:Dc)(v:Nat):Prop:=∃i,i<D.m/\D.eu i=v
def Dc.val(D:Dc)(v:Nat):Rat:=cj (λi=>if D.eu i=v then D.b i else 0) D.m
def Dc.dir(D:Dc)(s v:Nat):Rat:=(if v=D.eR s then 1 else 0)-cj (λi=>if D.eu i=v then D.a i s else 0) D.m
structure Dc.Step(D:Dc)(r s:Nat):Prop where
 hr:r<D.m
 hs:s<D.q
 cs:0<D.c s
 Gy:∀j,j<D.q->0<D.c j->D.eR s<=D.eR j
 ars:0<D.a r s
 HZ:∀i,i<D.m->0<D.a i s->D.b r / D.a r s<=D.b i / D.a i s/\(D.b r / D.a r s=D.b i / D.a i s->D.eu r<=D.eu i)
def Dc.uO(D:Dc):Prop:=∀i,i<D.m->0<=D.b i
def pc(h:0<a):a≠0:=λe=>by rw[e]at h;exact absurd h bv
def rL{b:Rat}(h:b≠0):a / b*b=a:=by rw[bO,Rat.mul_assoc,Rat.inv_mul_cancel _ h,Rat.mul_one]
def rM{b:Rat}(ha:0<=a)(N:0<b):0<=a / b:=by
 rw[bO];exact Rat.mul_nonneg ha (Rat.le_of_lt (Rat.inv_pos.2 N))
section
variable{D:Dc}{r s:Nat}{x:Nat->Rat}
def Dc.vS(h:D.Ok){i:Nat}(R:i<D.m):D.val (D.eu i)=D.b i:=by
 unfold Dc.val;rw[eN R λk K e=>aJ λg=>e (h.bi k i K R g),aM rfl]
def Dc.vU(h:¬D.uN v):D.val v=0:=by
 unfold Dc.val;rw[cX (g:=λ_=>0) λi R=>aJ λe=>h ⟨i,R,e⟩,dc]
def Dc.Ok.sk(h:D.Ok)(hj:j<D.q):¬D.uN (D.eR j):=λ⟨i,R,e⟩=>h.bf i j R hj e
def Dc.Ig(h:D.Ok)(hs:s<D.q){i:Nat}(R:i<D.m):D.dir s (D.eu i)= -(D.a i s):=by
 unfold Dc.dir;rw[aJ (h.bf i s R hs),eN R λk K e=>aJ λg=>e (h.bi k i K R g),aM rfl];grind
def Dc.zG(h:D.Ok)(hs:s<D.q)(hj:j<D.q):D.dir s (D.eR j)=if j=s then 1 else 0:=by
 unfold Dc.dir;rw[cX (g:=λ_=>0) λi R=>aJ (h.bf i j R hj),dc];by_cases e:j=s
 .subst e;rw[aM rfl,aM rfl];grind
 .rw[aJ λg=>e (h.fi j s hj hs g),aJ e];grind
def Dc.line(h:D.Ok)(hs:s<D.q)(y:Rat):D.xp (λv=>D.val v+y*D.dir s v) (D.top+D.c s*y):=by
 have hv:∀j,j<D.q->D.val (D.eR j)+y*D.dir s (D.eR j)=if j=s then y else 0:=λj hj=>by
  rw[D.vU (h.sk hj),D.zG h hs hj];split<;>grind
 have WU:∀g:Nat->Rat,cj (λj=>g j*(D.val (D.eR j)+y*D.dir s (D.eR j))) D.q=g s*y:=λg=>by
  rw[eN (i:=s) hs λk K e=>by rw[hv k K,aJ e,bF],hv s hs,aM rfl]
 refine⟨λi R=>?_,?_⟩
 .show D.val (D.eu i)+y*D.dir s (D.eu i)=D.b i-cj (λj=>D.a i j*(D.val (D.eR j)+y*D.dir s (D.eR j))) D.q;rw[WU,D.vS h R,D.Ig h hs R];grind
 .rw[WU]
def Dc.vV(h:D.Ok):D.xp D.val D.top:=by
 have h0:∀g:Nat->Rat,cj (λj=>g j*D.val (D.eR j)) D.q=0:=λg=>by
  rw[cX (g:=λ_=>0) λj hj=>by rw[D.vU (h.sk hj),bF],dc]
 refine⟨λi R=>?_,?_⟩
 .unfold Dc.row;rw[h0,D.vS h R];grind
 .rw[h0];grind
def Dc.Step.ne(h:D.Step r s):D.a r s≠0:=pc h.ars
def Dc.Step.ratio(h:D.Step r s)(hf:D.uO):0<=D.b r / D.a r s:=rM (hf r h.hr) h.ars
def Dc.Step.fea(h:D.Step r s)(hf:D.uO):(D.gP r s).uO:=λi R=>by
 show 0<=if i=r then _ else _
 split
 .exact h.ratio hf
 .by_cases Y:0<D.a i s
  .have I:=(h.HZ i R Y).1;have h3:=Rat.mul_le_mul_of_nonneg_right I (Rat.le_of_lt Y);rw[rL (pc Y)]at h3;grind
  .have Y:=Rat.not_lt.1 Y;have I:=h.ratio hf;have h3:=hf i R;have h4:0<= -(D.a i s)*(D.b r / D.a r s):=Rat.mul_nonneg (by grind) I;grind
def Dc.Step.top(h:D.Step r s)(hf:D.uO):D.top<=(D.gP r s).top/\((D.gP r s).top=D.top->D.b r=0):=by
 have I:=h.ratio hf;have h3:0<=D.c s*(D.b r / D.a r s):=Rat.mul_nonneg (Rat.le_of_lt h.cs) I;refine⟨by show _<=D.top+_;grind,λe=>?_⟩;have e:D.top+D.c s*(D.b r / D.a r s)=D.top:=e;have e2:D.c s*(D.b r / D.a r s)=0:=by grind
 have e3:=(Rat.mul_eq_zero.1 e2).resolve_left (pc h.cs);rw[<-rL (a:=D.b r) h.ne,e3,bc]
def Dc.Step.val(h:D.Step r s)(N:D.b r=0)(v:Nat):(D.gP r s).val v=D.val v:=by
 refine cX λi R=>?_;show(if (if i=r then D.eR s else D.eu i)=v then(if i=r then D.b r / D.a r s else D.b i-D.a i s*(D.b r / D.a r s))else 0)=_;have h0:D.b r / D.a r s=0:=by rw[N,bO,bc]
 rw[h0];by_cases e:i=r
 .subst e;rw[aM rfl,aM rfl,N];split<;>split<;>rfl
 .rw[aJ e,aJ e,bF];split
  .grind
  .rfl
def Dc.Nb(h:D.uN v)(E:¬(D.gP r s).uN v):v=D.eu r:=by
 obtain⟨i,R,rfl⟩:=h;by_cases e:i=r
 .rw[e]
 .exact absurd ⟨i,R,aJ e⟩ E
def Dc.Nc(h:(D.gP r s).uN v)(E:¬D.uN v):v=D.eR s:=by
 obtain⟨i,R,e0⟩:=h;have e0:(if i=r then D.eR s else D.eu i)=v:=e0;split at e0
 .exact e0.symm
 .exact absurd ⟨i,R,e0⟩ E
def Dc.Step.enters(h:D.Step r s):(D.gP r s).uN (D.eR s):=⟨r,h.hr,aM rfl⟩
end
structure yW(D:Nat->Dc)(r s:Nat->Nat)(k:Nat):Prop where
 ok:(D 0).Ok
 fea:(D 0).uO
 step:∀t,t<k->(D t).Step (r t) (s t)/\D (t+1)=(D t).gP (r t) (s t)
section
variable{D:Nat->Dc}{r s:Nat->Nat}{k:Nat}
def yW.at_(h:yW D r s k):∀t,t<=k->(D t).Ok/\(D t).uO/\(D t).m=(D 0).m/\(D t).q=(D 0).q/\∀x z,(D t).xp x z↔(D 0).xp x z
 |0,_=>⟨h.ok,h.fea,rfl,rfl,λ_ _=>Iff.rfl⟩
 |t+1,ht=>by
  obtain⟨Y,I,h3,h4,h5⟩:=h.at_ t be;obtain⟨k1,k2⟩:=h.step t be;rw[k2];exact⟨Y.gP k1.hr k1.hs,k1.fea I,h3,h4,λx z=>(Dc.Ie k1.hr k1.hs k1.ne).trans (h5 x z)⟩
def yW.mono(h:yW D r s k):∀u t,t<=u->u<=k->(D t).top<=(D u).top
 |0,t,ht,_=>by
  have:t=0:=by omega
  subst this;exact Rat.le_refl
 |u+1,t,ht,hu=>by
  by_cases e:t=u+1
  .subst e;exact Rat.le_refl
  .obtain⟨k1,k2⟩:=h.step u be;have:=h.mono u t be be;rw[k2];exact Rat.le_trans this (k1.top (h.at_ u be).2.1).1
def yW.shift(h:yW D r s k){a b:Nat}(TR:a+b<=k):yW (λt=>D (a+t)) (λt=>r (a+t)) (λt=>s (a+t)) b:=
 ⟨(h.at_ a be).1,(h.at_ a be).2.1,λt ht=>h.step (a+t) be⟩
def chg{P:Nat->Prop} [DecidablePred P]{a:Nat}(ha:P a):∀b,a<=b->¬P b->∃t,a<=t/\t<b/\P t/\¬P (t+1)
 |0,Y,h3=>by
  have:a=0:=by omega
  subst this;exact absurd ha h3
 |b+1,Y,h3=>by
  by_cases e:a=b+1
  .subst e;exact absurd ha h3
  .by_cases N:P b
   .exact⟨b,be,be,N,h3⟩
   .obtain⟨t,t1,t2,t3⟩:=chg ha b be N;exact⟨t,t1,be,t3⟩
def H0{Fd:Nat}(hP:∀v,P v->v<Fd)(h:∃v,P v):∃t,P t/\∀v,P v->v<=t:=by
 classical
 have key:∀n,(∃t,P t/\Fd<=t+n)->∃t,P t/\∀v,P v->v<=t:=λn=>by
  induction n with
  |zero=>exact λ⟨t,Y,I⟩=>absurd (hP t Y) be
  |succ n ih=>
   rintro⟨t,Y,I⟩;by_cases hm:∀v,P v->v<=t
   .exact⟨t,Y,hm⟩
   .simp only[Classical.not_forall]at hm;obtain⟨v,hv,QU⟩:=hm;exact ih ⟨v,hv,be⟩
 obtain⟨v,hv⟩:=h;exact key Fd ⟨v,hv,be⟩
def yW.aA5(h:yW D r s k)(K:0<k)(hB:∀v,(D 0).uN v↔(D k).uN v):False:=by
 classical
 have QK:=λt ht=>(h.at_ t ht).1;have hfe:=λt ht=>(h.at_ t ht).2.1;have hm:=λt ht=>(h.at_ t ht).2.2.1;have hq:=λt ht=>(h.at_ t ht).2.2.2.1;have XY:=λt ht=>(h.at_ t ht).2.2.2.2;have htop0:(D k).top=(D 0).top:=by
  have Y:=((XY k (ae _)) _ _).2 (Dc.vV (QK 0 (aZ _)));have I:=Y.2;rw[cX (g:=λ_=>0) λj hj=>by rw[(D 0).vU λg=>(QK k (ae _)).sk hj ((hB _).1 g),bF],dc]at I;rw[I];grind
 have VE:∀t,t<=k->(D t).top=(D 0).top:=λt ht=>Rat.le_antisymm (htop0▸h.mono k t ht (ae _)) (h.mono t 0 (aZ _) ht);have Ti:∀t,t<k->(D t).b (r t)=0:=λt ht=>by
  obtain⟨k1,k2⟩:=h.step t ht;refine(k1.top (hfe t be)).2 ?_;rw[<-k2,VE t be,VE (t+1) be]
 have Ry:∀t,t<=k->∀v,(D t).val v=(D 0).val v:=λt=>by
  induction t with
  |zero=>intro _ _;rfl
  |succ t ih=>
   intro ht v;obtain⟨k1,k2⟩:=h.step t be;rw[k2,k1.val (Ti t be) v,ih be v]
 have hzero:∀t u,t<=k->u<=k->∀i,i<(D t).m->¬(D u).uN ((D t).eu i)->(D t).b i=0:=λt u ht hu i R E=>by
  rw[<-Dc.vS (QK t ht) R,Ry t ht,<-Ry u hu,(D u).vU E]
 obtain⟨T,⟨⟨p,hp,hPp⟩,⟨u,hu,hPu⟩,hTN⟩,Yq⟩:=H0 (P:=λv=>(∃t,t<=k/\(D t).uN v)/\(∃t,t<=k/\¬(D t).uN v)/\v<(D 0).m+(D 0).q) (Fd:=(D 0).m+(D 0).q) (λv hv=>hv.2.2) ⟨(D 0).eR (s 0),⟨1,K,by
  obtain⟨k1,k2⟩:=h.step 0 K;have k2:D 1=(D 0).gP (r 0) (s 0):=k2
  rw[k2];exact k1.enters⟩,⟨0,aZ _,h.ok.sk (h.step 0 K).1.hs⟩,h.ok.fl _ (h.step 0 K).1.hs⟩
 have Yq:∀v t w,t<=k->w<=k->(D t).uN v->¬(D w).uN v->v<(D 0).m+(D 0).q->v<=T:=λv t w ht W Y I h3=>Yq v ⟨⟨t,ht,Y⟩,⟨w,W,I⟩,h3⟩;have two:(∃t,t<k/\(D t).uN T/\¬(D (t+1)).uN T)/\∃t,t<k/\¬(D t).uN T/\(D (t+1)).uN T:=by
  by_cases h0:(D 0).uN T
  .obtain⟨t,_,t1,t2,t3⟩:=chg (P:=λt=>(D t).uN T) h0 u (aZ _) hPu;obtain⟨w,_,w1,F,w3⟩:=chg (P:=λt=>¬(D t).uN T) hPu k hu (λg=>g ((hB T).1 h0));exact⟨⟨t,be,t2,t3⟩,⟨w,be,F,Decidable.byContradiction w3⟩⟩
  .obtain⟨w,_,w1,F,w3⟩:=chg (P:=λt=>¬(D t).uN T) h0 p (aZ _) (λg=>g hPp);obtain⟨t,_,t1,t2,t3⟩:=chg (P:=λt=>(D t).uN T) hPp k hp (λg=>h0 ((hB T).2 g));exact⟨⟨t,be,t2,t3⟩,⟨w,be,F,Decidable.byContradiction w3⟩⟩
 obtain⟨⟨t1,Zb,hin1,Zc⟩,t2,WC,hout2,hin2⟩:=two;obtain⟨S1,e1⟩:=h.step t1 Zb;obtain⟨S2,e2⟩:=h.step t2 WC;rw[e1]at Zc;rw[e2]at hin2;have hT1:=Dc.Nb hin1 Zc;have XZ:=Dc.Nc hin2 hout2;have Ug:=QK t1 be;have WV:=QK t2 be;have Zd:∀y:Rat,(D t1).top+(D t1).c (s t1)*y=(D t2).top+cj (λj=>(D t2).c j*((D t1).val ((D t2).eR j)+y*(D t1).dir (s t1) ((D t2).eR j))) (D t2).q:=λy=>
  (((XY t2 be) _ _).2 (((XY t1 be) _ _).1 (Dc.line Ug S1.hs y))).2
 have hc:(D t1).c (s t1)=cj (λj=>(D t2).c j*(D t1).dir (s t1) ((D t2).eR j)) (D t2).q:=by
  have l0:=Zd 0;have l1:=Zd 1;rw[cX (g:=λj=>(D t2).c j*(D t1).val ((D t2).eR j)) λj _=>by grind]at l0;rw[cX (g:=λj=>(D t2).c j*(D t1).val ((D t2).eR j)+(D t2).c j*(D t1).dir (s t1) ((D t2).eR j)) λj _=>by grind,fu]at l1;grind
 obtain⟨j,hj,QV⟩:∃j,j<(D t2).q/\0<(D t2).c j*(D t1).dir (s t1) ((D t2).eR j):=by
  refine Decidable.byContradiction λTu=>?_;have Y:0<=cj (λj=> -((D t2).c j*(D t1).dir (s t1) ((D t2).eR j))) (D t2).q:=jM λj hj=>by
   have:¬0<(D t2).c j*(D t1).dir (s t1) ((D t2).eR j):=λg=>Tu ⟨j,hj,g⟩;have:=Rat.not_lt.1 this;grind
  rw[gM,<-hc]at Y;have:=S1.cs;grind
 have hvN:(D t2).eR j<(D t1).m+(D t1).q:=by
  have:=WV.fl j hj;rw[hm t2 be,hq t2 be]at this;rw[hm t1 be,hq t1 be];exact this
 have hvN0:(D t2).eR j<(D 0).m+(D 0).q:=by rwa [hm t1 be,hq t1 be]at hvN
 have Xa:¬(D t2).uN ((D t2).eR j):=WV.sk hj;rcases Ug.all _ hvN with⟨i,R,ei⟩|⟨j',Yi,ej⟩
 ·
  have hle:(D t2).eR j<=T:=Yq _ t1 t2 be be ⟨i,R,ei⟩ Xa hvN0;rw[<-ei,Dc.Ig Ug S1.hs R]at QV;by_cases hcj:0<(D t2).c j
  .have Y:=S2.Gy j hj hcj;have hTv:(D t1).eu (r t1)=(D t1).eu i:=by rw[<-hT1,ei,XZ];rw[XZ]at hle;omega
   have:=Ug.bi _ _ S1.hr R hTv;subst this;have I:=Rat.mul_pos hcj S1.ars;grind
  .have hcj:=Rat.not_lt.1 hcj;have ha:0<(D t1).a i (s t1):=by
    refine Decidable.byContradiction λg=>?_;have g:=Rat.not_lt.1 g;have I:0<= -(D t2).c j* -((D t1).a i (s t1)):=Rat.mul_nonneg (by grind) (by grind);grind
   have WT:=hzero t1 t2 be be i R (by rw[ei];exact Xa);obtain⟨k1,k2⟩:=S1.HZ i R ha;have h3:=k2 (by rw[Ti t1 Zb,WT,bO,bO,bc,bc]);rw[<-hT1,ei]at h3;have hTv:(D t2).eR (s t2)=(D t2).eR j:=by omega
   have:=WV.fi _ _ S2.hs hj hTv;subst this;have:=S2.cs;grind
 ·
  rw[<-ej,Dc.zG Ug S1.hs Yi]at QV;by_cases e:j'=s t1
  .rw[aM e]at QV;have hcj:0<(D t2).c j:=by grind
   have Y:=S2.Gy j hj hcj;have Uq:(D (t1+1)).uN ((D t2).eR j):=by rw[e1,<-ej,e];exact S1.enters
   have hle:(D t2).eR j<=T:=Yq _ (t1+1) t2 be be Uq Xa hvN0;have hTv:(D t1).eu (r t1)=(D t1).eR j':=by rw[<-hT1,ej,XZ];rw[XZ]at hle;omega
   exact Ug.bf _ _ S1.hr Yi hTv
  .rw[aJ e]at QV;grind
noncomputable def yX (P:Nat->Prop):Nat->Nat
 |0=>0
 |n+1=>yX P n+(by classical exact if P n then 2^n else 0)
def zH(P:Nat->Prop):∀n,yX P n<2^n
 |0=>cF 0
 |n+1=>by
  have:=zH P n;rw[yX,Nat.pow_succ];split<;>omega
def Fg{P Q:Nat->Prop}:∀n,yX P n=yX Q n->∀v,v<n->(P v↔Q v)
 |0,_,v,hv=>by omega
 |n+1,h,v,hv=>by
  have Y:=zH P n;have I:=zH Q n;rw[yX,yX]at h;have key:(P n↔Q n)/\yX P n=yX Q n:=by
   split at h<;>split at h<;>rename_i p q
   .exact⟨⟨λ_=>q,λ_=>p⟩,be⟩
   .omega
   .omega
   .exact⟨⟨λg=>absurd g p,λg=>absurd g q⟩,be⟩
  rcases aW v n with h3|h3
  .exact Fg n key.2 v h3
  .have:v=n:=by omega
   subst this;exact key.1
def yW.short(h:yW D r s k):k<2^((D 0).m+(D 0).q):=by
 refine xB _ (k+1) (λt=>yX (D t).uN ((D 0).m+(D 0).q)) (λt _=>zH _ _) ?_;have key:∀a b,a<b->b<=k->yX (D a).uN ((D 0).m+(D 0).q)≠yX (D b).uN ((D 0).m+(D 0).q):=λa b TR N e=>by
  have hr:=h.shift (a:=a) (b:=b-a) be;refine hr.aA5 be λv=>?_;show(D (a+0)).uN v↔(D (a+(b-a))).uN v;rw[show a+(b-a)=b by omega,cM];rcases aW v ((D 0).m+(D 0).q)with hv|hv
  .exact Fg _ e v hv
  .have Tu:∀t,t<=k->¬(D t).uN v:=λt ht ⟨i,R,ei⟩=>by
    obtain⟨Y,-,h3,h4,-⟩:=h.at_ t ht;have:=Y.bl i R;rw[h3,h4]at this;omega
   exact⟨λg=>absurd g (Tu a be),λg=>absurd g (Tu b N)⟩
 intro i j R hj e;rcases cO i j with Y|Y|Y
 .exact absurd e (key i j Y be)
 .exact Y
 .exact absurd e.symm (key j i Y be)
end
def mR(c:Nat->Rat)(f:Nat->Nat):Nat->Option Nat
 |0=>none
 |n+1=>match mR c f n with
  |none=>if 0<c n then some n else none
  |some k=>if 0<c n/\f n<f k then some n else some k
def sn{c:Nat->Rat}{f:Nat->Nat}:∀{n:Nat},mR c f n=none->∀j,j<n->¬0<c j
 |0,_,j,hj=>by omega
 |n+1,h,j,hj=>by
  rw[mR]at h;split at h
  .rename_i e;split at h
   .cases h
   .rename_i g;rcases aW j n with Y|Y
    .exact sn e j Y
    .obtain rfl:j=n:=by omega
     exact g
  .split at h<;>cases h
def kA{c:Nat->Rat}{f:Nat->Nat}:∀{n k:Nat},mR c f n=some k->k<n/\0<c k/\∀j,j<n->0<c j->f k<=f j
 |0,_,h=>by cases h
 |n+1,k,h=>by
  rw[mR]at h;split at h
  .rename_i e;split at h
   .rename_i g;injection h with h;subst h;refine⟨be,g,λj hj hc=>?_⟩;rcases aW j n with Y|Y
    .exact absurd hc (sn e j Y)
    .obtain rfl:j=n:=by omega
     exact ae _
   .cases h
  .rename_i k' e;obtain⟨Y,I,h3⟩:=kA e;split at h
   .rename_i g;injection h with h;subst h;refine⟨be,g.1,λj hj hc=>?_⟩;rcases aW j n with h4|h4
    .have:=h3 j h4 hc;omega
    .obtain rfl:j=n:=by omega
     exact ae _
   .rename_i g;injection h with h;subst h;refine⟨be,I,λj hj hc=>?_⟩;rcases aW j n with h4|h4
    .exact h3 j h4 hc
    .obtain rfl:j=n:=by omega
     have:¬f j<f k':=λg2=>g ⟨hc,g2⟩;omega
def kL(a b:Nat->Rat)(f:Nat->Nat):Nat->Option Nat
 |0=>none
 |n+1=>if a n<=0 then kL a b f n else match kL a b f n with
  |none=>some n
  |some k=>if b n / a n<b k / a k\/(b n / a n=b k / a k/\f n<f k)then some n else some k
def so{a b:Nat->Rat}{f:Nat->Nat}:∀{n:Nat},kL a b f n=none->∀i,i<n->a i<=0
 |0,_,i,R=>by omega
 |n+1,h,i,R=>by
  rw[kL]at h;split at h
  .rename_i g;rcases aW i n with Y|Y
   .exact so h i Y
   .obtain rfl:i=n:=by omega
    exact g
  .split at h
   .cases h
   .split at h<;>cases h
def ob{a b:Nat->Rat}{f:Nat->Nat}:∀{n k:Nat},kL a b f n=some k->k<n/\0<a k/\∀i,i<n->0<a i->b k / a k<=b i / a i/\(b k / a k=b i / a i->f k<=f i)
 |0,_,h=>by cases h
 |n+1,k,h=>by
  rw[kL]at h;split at h
  .rename_i g;obtain⟨Y,I,h3⟩:=ob h;refine⟨be,I,λi R ha=>?_⟩;rcases aW i n with h4|h4
   .exact h3 i h4 ha
   .obtain rfl:i=n:=by omega
    exact absurd ha (Rat.not_lt.2 g)
  .rename_i g;have g:=Rat.not_le.1 g;split at h
   .rename_i e;injection h with h;subst h;refine⟨be,g,λi R ha=>?_⟩;rcases aW i n with h4|h4
    .exact absurd ha (Rat.not_lt.2 (so e i h4))
    .obtain rfl:i=n:=by omega
     exact⟨Rat.le_refl,λ_=>ae _⟩
   .rename_i k' e;obtain⟨Y,I,h3⟩:=ob e;split at h
    .rename_i g2;injection h with h;subst h;refine⟨be,g,λi R ha=>?_⟩;rcases aW i n with h4|h4
     .obtain⟨k1,k2⟩:=h3 i h4 ha;rcases g2 with g2|⟨g2,g3⟩
      .have:b n / a n<b i / a i:=by grind
       exact⟨Rat.le_of_lt this,λe=>by rw[e]at this;exact absurd this (Rat.lt_irrefl)⟩
      .exact⟨g2▸k1,λe=>by have:=k2 (g2▸e);omega⟩
     .obtain rfl:i=n:=by omega
      exact⟨Rat.le_refl,λ_=>ae _⟩
    .rename_i g2;injection h with h;subst h;refine⟨be,I,λi R ha=>?_⟩;rcases aW i n with h4|h4
     .exact h3 i h4 ha
     .obtain rfl:i=n:=by omega
      have k1:¬b i / a i<b k' / a k':=λh=>g2 (.inl h);refine⟨Rat.not_lt.1 k1,λe=>?_⟩;have k2:¬f i<f k':=λh=>g2 (.inr ⟨e.symm,h⟩);omega
def Dc.Ih{D:Dc}{r:Nat}(hs:mR D.c D.eR D.q=some s)(hr:kL (λi=>D.a i s) D.b D.eu D.m=some r):D.Step r s:=by
 obtain⟨Y,I,h3⟩:=kA hs;obtain⟨k1,k2,k3⟩:=ob hr;exact⟨k1,Y,I,h3,k2,k3⟩
def yW.more{D:Nat->Dc}{r s:Nat->Nat}{k:Nat}(h:yW D r s k){r' s':Nat}(RC:(D k).Step r' s'):
  ∃D' r2 s2,yW D' r2 s2 (k+1)/\D' 0=D 0/\D' (k+1)=(D k).gP r' s':=by
 refine⟨λt=>if t<=k then D t else(D k).gP r' s',λt=>if t<k then r t else r',λt=>if t<k then s t else s',⟨?_,?_,λt ht=>?_⟩,?_,?_⟩
 .rw[aM (aZ _)];exact h.ok
 .rw[aM (aZ _)];exact h.fea
 .rcases aW t k with Y|Y
  .rw[aM be,aM Y,aM Y,aM be];exact h.step t Y
  .obtain rfl:t=k:=by omega
   rw[aM (ae _),aJ be,aJ be,aJ be];exact⟨RC,rfl⟩
 .dsimp only;rw[if_pos (Nat.zero_le _)]
 .dsimp only;rw[if_neg be]
inductive Dc.End (D:Dc):Prop
 |By (h:∀j,j<D.q->¬0<D.c j)
 |Ll (s:Nat) (hs:s<D.q) (hc:0<D.c s) (ha:∀i,i<D.m->D.a i s<=0)
def yW.ends{D0:Dc}(QK:D0.Ok)(hf:D0.uO):∃D r s k,yW D r s k/\D 0=D0/\(D k).End:=by
 have key:∀n k,2^(D0.m+D0.q)<=k+n->(∃D r s,yW D r s k/\D 0=D0)->∃D r s k,yW D r s k/\D 0=D0/\(D k).End:=λn=>by
  induction n with
  |zero=>
   rintro k K ⟨D,r,s,h,rfl⟩;exact absurd h.short be
  |succ n ih=>
   rintro k K ⟨D,r,s,h,h0⟩
   cases hs:mR (D k).c (D k).eR (D k).q with
   |none=>exact⟨D,r,s,k,h,h0,.By (sn hs)⟩
   |some s'=>
    cases hr:kL (λi=>(D k).a i s') (D k).b (D k).eu (D k).m with
    |none=>
     obtain⟨Y,I,-⟩:=kA hs;exact⟨D,r,s,k,h,h0,.Ll s' Y I (so hr)⟩
    |some r'=>
     obtain⟨D',r2,s2,k1,k2,-⟩:=h.more (Dc.Ih hs hr);exact ih (k+1) be ⟨D',r2,s2,k1,k2.trans h0⟩
 exact key (2^(D0.m+D0.q)) 0 be ⟨λ_=>D0,λ_=>0,λ_=>0,⟨QK,hf,λt ht=>be⟩,rfl⟩
def Dc.lu(D:Dc)(v:Nat):Rat:=cj (λj=>if D.eR j=v then D.c j else 0) D.q
def gk(m n:Nat)(Fn:Nat->Nat->Rat)(b c:Nat->Rat):Dc:=⟨m,n,λi=>n+i,λj=>j,Fn,b,c,0⟩
def dz(m n:Nat)(Fn:Nat->Nat->Rat)(b:Nat->Rat):Dc:=⟨m,n+1,λi=>n+i,λj=>if j<n then j else n+m,λi j=>if j<n then Fn i j else -1,b,λj=>if j<n then 0 else -1,0⟩
def sq(m n:Nat)(Fn:Nat->Nat->Rat)(b c:Nat->Rat):(gk m n Fn b c).Ok:=by
 refine⟨λi (R:i<m)=>show n+i<m+n by omega,λj (hj:j<n)=>show j<m+n by omega,λi k _ _ (e:n+i=n+k)=>be,λj k _ _ e=>e,λi j R (hj:j<n) (e:n+i=j)=>be,λv (hv:v<m+n)=>?_⟩;rcases aW v n with h|h
 .exact .inr ⟨v,h,rfl⟩
 .exact .inl ⟨v-n,show v-n<m by omega,show n+(v-n)=v by omega⟩
def ss(m n:Nat)(Fn:Nat->Nat->Rat)(b:Nat->Rat):(dz m n Fn b).Ok:=by
 have hf:∀j,(dz m n Fn b).eR j=if j<n then j else n+m:=λ_=>rfl
 refine⟨λi (R:i<m)=>show n+i<m+(n+1) by omega,λj (hj:j<n+1)=>?_,λi k _ _ (e:n+i=n+k)=>be,λj k (hj:j<n+1) (K:k<n+1) e=>?_,λi j (R:i<m) (hj:j<n+1) (e:n+i=if j<n then j else n+m)=>?_,λv (hv:v<m+(n+1))=>?_⟩
 .show(if j<n then j else n+m)<m+(n+1)
  split<;>omega
 .rw[hf,hf]at e;split at e<;>split at e<;>omega
 .split at e<;>omega
 .rcases aW v n with h|h
  .exact .inr ⟨v,show v<n+1 by omega,by rw[hf,aM h]⟩
  .rcases aW v (n+m)with I|I
   .exact .inl ⟨v-n,show v-n<m by omega,show n+(v-n)=v by omega⟩
   .exact .inr ⟨n,show n<n+1 by omega,by rw[hf,aJ (Nat.lt_irrefl n)];omega⟩
def pe{n:Nat}{b:Nat->Rat}:(dz m n Fn b).xp x z↔(∀i,i<m->x (n+i)=b i-(cj (λj=>Fn i j*x j) n-x (n+m)))/\z= -x (n+m):=by
 have Y:∀g:Nat->Rat,∀u:Rat,cj (λj=>(if j<n then g j else u)*x ((dz m n Fn b).eR j)) (n+1)=cj (λj=>g j*x j) n+u*x (n+m):=λg u=>by
  show cj _ n+(if n<n then g n else u)*x (if n<n then n else n+m)=_;rw[aJ (Nat.lt_irrefl n),aJ (Nat.lt_irrefl n)];congr 1;refine cX λj hj=>?_;show(if j<n then g j else u)*x (if j<n then j else n+m)=_;rw[aM hj,aM hj]
 have I:∀i,(dz m n Fn b).row x i=cj (λj=>Fn i j*x j) n+(-1)*x (n+m):=λi=>Y (Fn i) (-1);have h3:cj (λj=>(dz m n Fn b).c j*x ((dz m n Fn b).eR j)) (n+1)=cj (λj=>(0:Rat)*x j) n+(-1)*x (n+m):=Y (λ_=>0) (-1);rw[cX (g:=λ_=>0) λj _=>bc _,dc]at h3;constructor
 .rintro⟨k1,k2⟩;refine⟨λi R=>?_,?_⟩
  .have:=k1 i R;rw[I]at this;rw[show x (n+i)=x ((dz m n Fn b).eu i)from rfl,this];show b i-_=b i-_;grind
  .have k2:z=0+_:=k2;rw[k2];have:=h3;show 0+cj (λj=>(dz m n Fn b).c j*x ((dz m n Fn b).eR j)) (n+1)=_;rw[h3];grind
 .rintro⟨k1,k2⟩;refine⟨λi R=>?_,?_⟩
  .rw[I];show x (n+i)=b i-_;rw[k1 i R];grind
  .show z=0+cj (λj=>(dz m n Fn b).c j*x ((dz m n Fn b).eR j)) (n+1);rw[h3,k2];grind
section
variable{D:Dc}{m n:Nat}{Fn:Nat->Nat->Rat}{b c x:Nat->Rat}
def Dc.Ii(h:D.Ok)(x:Nat->Rat):cj (λj=>D.c j*x (D.eR j)) D.q=cj (λv=>D.lu v*x v) (D.m+D.q):=by
 rw[cX (f:=λv=>D.lu v*x v) (g:=λv=>cj (λj=>(if D.eR j=v then D.c j else 0)*x v) D.q) λv _=>by unfold Dc.lu;rw[jB],jd];refine cX λj hj=>?_;rw[eN (h.fl j hj) λv _ e=>by rw[aJ λg=>e g.symm,bc],aM rfl]
def Dc.Dr(h:∀j,j<D.q->¬0<D.c j)(v:Nat):D.lu v<=0:=by
 have:0<=cj (λj=> -(if D.eR j=v then D.c j else 0)) D.q:=jM λj hj=>by
  have:=Rat.not_lt.1 (h j hj);split<;>grind
 rw[gM]at this;unfold Dc.lu;grind
def Dc.Dt(h:D.uO)(v:Nat):0<=D.val v:=jM λi R=>by
 split
 .exact h i R
 .exact Rat.le_refl
def full(m n:Nat)(Fn:Nat->Nat->Rat)(b x:Nat->Rat)(v:Nat):Rat:=if v<n then x v else b (v-n)-cj (λj=>Fn (v-n) j*x j) n
def sw(h:v<n):full m n Fn b x v=x v:=aM h
def zI(i:Nat):full m n Fn b x (n+i)=b i-cj (λj=>Fn i j*x j) n:=by
 unfold full;rw[aJ be,Nat.add_sub_cancel_left]
def Fh(x:Nat->Rat):(gk m n Fn b c).xp (full m n Fn b x) (cj (λj=>c j*x j) n):=by
 refine⟨λi (R:i<m)=>?_,?_⟩
 .show full m n Fn b x (n+i)=b i-cj (λj=>Fn i j*full m n Fn b x j) n;rw[zI,cX (f:=λj=>Fn i j*full m n Fn b x j) (g:=λj=>Fn i j*x j) λj hj=>by rw[sw hj]]
 .show _=0+cj (λj=>c j*full m n Fn b x j) n;rw[cX (f:=λj=>c j*full m n Fn b x j) (g:=λj=>c j*x j) λj hj=>by rw[sw hj],Rat.zero_add]
structure jO(D:Dc)(m n:Nat)(Fn:Nat->Nat->Rat)(b c:Nat->Rat):Prop where
 ok:D.Ok
 em:D.m=m
 eq:D.q=n
 Fi:∀x z,D.xp x z↔(gk m n Fn b c).xp x z
def jO.obj(h:jO D m n Fn b c)(x:Nat->Rat):cj (λj=>c j*x j) n=D.top+cj (λv=>D.lu v*x v) n+cj (λi=>D.lu (n+i)*(b i-cj (λj=>Fn i j*x j) n)) m:=by
 have Y:=((h.Fi _ _).2 (Fh x)).2;rw[D.Ii h.ok,h.em,h.eq,Nat.add_comm m n,p9,cX (f:=λv=>D.lu v*full m n Fn b x v) (g:=λv=>D.lu v*x v) λv hv=>by rw[sw hv],cX (f:=λk=>D.lu (n+k)*full m n Fn b x (n+k)) (g:=λi=>D.lu (n+i)*(b i-cj (λj=>Fn i j*x j) n)) λi _=>by rw[zI]]at Y;rw[Y];grind
def jO.aA6(h:jO D m n Fn b c)(N:∀j,j<D.q->¬0<D.c j):(∀i,0<= -(D.lu (n+i)))/\cj (λi=> -(D.lu (n+i))*b i) m=D.top/\∀j,j<n->c j<=cj (λi=> -(D.lu (n+i))*Fn i j) m:=by
 have h0:=h.obj λ_=>0;have hz:∀g:Nat->Rat,cj (λj=>g j*(0:Rat)) n=0:=λg=>by rw[cX (g:=λ_=>0) λj _=>bF _,dc]
 rw[hz,hz,cX (g:=λi=>D.lu (n+i)*b i) λi _=>by rw[hz];grind]at h0;have VE:cj (λi=> -(D.lu (n+i))*b i) m=D.top:=by
  rw[cX (g:=λi=> -(D.lu (n+i)*b i)) λi _=>by grind,gM];grind
 refine⟨λi=>by have:=D.Dr N (n+i);grind,VE,λj hj=>?_⟩;have Y:=h.obj λv=>if v=j then 1 else 0
 have L:∀g:Nat->Rat,cj (λv=>g v*(if v=j then(1:Rat)else 0)) n=g j:=λg=>by
  rw[eN hj λk _ e=>by rw[aJ e,bF],aM rfl,Rat.mul_one]
 rw[L,L,cX (g:=λi=>D.lu (n+i)*b i-D.lu (n+i)*Fn i j) λi _=>by rw[L];grind,jc]at Y;have I:=D.Dr N j;rw[cX (f:=λi=> -(D.lu (n+i))*Fn i j) (g:=λi=> -(D.lu (n+i)*Fn i j)) λi _=>by grind,gM];grind
def jO.jf(h:jO D m n Fn b c)(hf:D.uO):(∀v,0<=D.val v)/\(∀i,i<m->cj (λj=>Fn i j*D.val j) n<=b i)/\cj (λj=>c j*D.val j) n=D.top:=by
 obtain⟨Y,I⟩:=(h.Fi _ _).1 (Dc.vV h.ok);refine⟨D.Dt hf,λi R=>?_,?_⟩
 .have h3:D.val (n+i)=b i-cj (λj=>Fn i j*D.val j) n:=Y i R;have:=D.Dt hf (n+i);grind
 .have I:D.top=0+cj (λj=>c j*D.val j) n:=I;rw[I,Rat.zero_add]
def jO.ray(h:jO D m n Fn b c)(hs:s<D.q)(ha:∀i,i<D.m->D.a i s<=0):(∀v,0<=D.dir s v)/\(∀i,i<m->cj (λj=>Fn i j*D.dir s j) n<=0)/\cj (λj=>c j*D.dir s j) n=D.c s:=by
 have hnn:∀v,0<=D.dir s v:=λv=>by
  have Y:0<=cj (λi=> -(if D.eu i=v then D.a i s else 0)) D.m:=jM λi R=>by
   have:=ha i R;split<;>grind
  rw[gM]at Y;unfold Dc.dir;split<;>grind
 have hl:=λy=>(h.Fi _ _).1 (Dc.line h.ok hs y);have e:∀g:Nat->Rat,∀y:Rat,cj (λj=>g j*(D.val j+y*D.dir s j)) n=cj (λj=>g j*D.val j) n+y*cj (λj=>g j*D.dir s j) n:=λg y=>by
  rw[cX (g:=λj=>g j*D.val j+y*(g j*D.dir s j)) λj _=>by grind,fu,fP]
 refine⟨hnn,λi R=>?_,?_⟩
 .have k0:D.val (n+i)+0*D.dir s (n+i)=b i-cj (λj=>Fn i j*(D.val j+0*D.dir s j)) n:=(hl 0).1 i R;have k1:D.val (n+i)+1*D.dir s (n+i)=b i-cj (λj=>Fn i j*(D.val j+1*D.dir s j)) n:=(hl 1).1 i R;rw[e]at k0 k1;have:=hnn (n+i);grind
 .have k0:D.top+D.c s*0=0+cj (λj=>c j*(D.val j+0*D.dir s j)) n:=(hl 0).2;have k1:D.top+D.c s*1=0+cj (λj=>c j*(D.val j+1*D.dir s j)) n:=(hl 1).2;rw[e]at k0 k1;grind
end
structure fe(D:Dc)(m n:Nat)(Fn:Nat->Nat->Rat)(b:Nat->Rat):Prop where
 ok:D.Ok
 em:D.m=m
 eq:D.q=n+1
 Fi:∀x z,D.xp x z↔(dz m n Fn b).xp x z
section
variable{D:Dc}{m n r s:Nat}{Fn:Nat->Nat->Rat}{b c x:Nat->Rat}
def fe.gP(h:fe D m n Fn b)(hr:r<D.m)(hs:s<D.q)(hp:D.a r s≠0):fe (D.gP r s) m n Fn b:=⟨h.ok.gP hr hs,h.em,h.eq,λx z=>(Dc.Ie hr hs hp).trans (h.Fi x z)⟩
def jO.start:jO (gk m n Fn b c) m n Fn b c:=⟨sq _ _ _ _ _,rfl,rfl,λ_ _=>Iff.rfl⟩
def fe.start:fe (dz m n Fn b) m n Fn b:=⟨ss _ _ _ _,rfl,rfl,λ_ _=>Iff.rfl⟩
def AI{low:Nat}(hl:low<m)(XN:∀i,i<m->b low<=b i)(E:b low<=0):((dz m n Fn b).gP low n).uO:=λi (R:i<m)=>by
 have ha:∀i,(dz m n Fn b).a i n= -1:=λi=>aJ (Nat.lt_irrefl n);show 0<=if i=low then b low / (dz m n Fn b).a low n else b i-(dz m n Fn b).a i n*(b low / (dz m n Fn b).a low n)
 rw[ha,ha];have e:b low / (-1)= -(b low):=by
  rw[bO,show((-1:Rat))⁻¹= -1 by decide +kernel];grind
 rw[e];split
 .grind
 .have:=XN i R;grind
def mn(m n:Nat)(Fn:Nat->Nat->Rat)(b x:Nat->Rat)(u:Rat)(v:Nat):Rat:=if v<n then x v else if v<n+m then b (v-n)-cj (λj=>Fn (v-n) j*x j) n+u else u
def Cq(x:Nat->Rat)(u:Rat):(dz m n Fn b).xp (mn m n Fn b x u) (-u):=by
 have ha:mn m n Fn b x u (n+m)=u:=by
  unfold mn;rw[aJ be,aJ be]
 refine pe.2 ⟨λi R=>?_,by rw[ha]⟩;rw[ha,cX (f:=λj=>Fn i j*mn m n Fn b x u j) (g:=λj=>Fn i j*x j) λj hj=>by unfold mn;rw[aM hj]];unfold mn;rw[aJ be,aM be,Nat.add_sub_cancel_left];grind
def fe.H3(h:fe D m n Fn b){x:Nat->Rat}(Z:D.xp x z):z= -x (n+m):=(pe.1 ((h.Fi _ _).1 Z)).2
def fe.topVal(h:fe D m n Fn b):D.top= -D.val (n+m):=h.H3 (Dc.vV h.ok)
def fe.bounded(h:fe D m n Fn b)(hf:D.uO)(hs:s<D.q)(hc:0<D.c s)(ha:∀i,i<D.m->D.a i s<=0):False:=by
 have hd:0<=D.dir s (n+m):=by
  have Y:0<=cj (λi=> -(if D.eu i=n+m then D.a i s else 0)) D.m:=jM λi R=>by
   have:=ha i R;split<;>grind
  rw[gM]at Y;unfold Dc.dir;split<;>grind
 have hv:=D.Dt hf (n+m);have ht:=h.topVal;have hl:=h.H3 (Dc.line h.ok hs ((1-D.top) / D.c s));have e:D.c s*((1-D.top) / D.c s)=1-D.top:=by rw[Rat.mul_comm];exact rL (pc hc)
 rw[e]at hl;have hy:0<=(1-D.top) / D.c s:=rM (by grind) hc;have:=Rat.mul_nonneg hy hd;grind
def fe.obj(h:fe D m n Fn b)(x:Nat->Rat)(u:Rat): -u=D.top+cj (λv=>D.lu v*x v) n+cj (λi=>D.lu (n+i)*(b i-cj (λj=>Fn i j*x j) n+u)) m+D.lu (n+m)*u:=by
 have Y:=((h.Fi _ _).2 (Cq (Fn:=Fn) (b:=b) x u)).2;rw[D.Ii h.ok,h.em,h.eq,show m+(n+1)=(n+m)+1 by omega]at Y;have e:cj (λv=>D.lu v*mn m n Fn b x u v) (n+m+1)=cj (λv=>D.lu v*mn m n Fn b x u v) (n+m)+D.lu (n+m)*u:=by
  show _+D.lu (n+m)*mn m n Fn b x u (n+m)=_;unfold mn;rw[aJ be,aJ be]
 rw[e,p9,cX (f:=λv=>D.lu v*mn m n Fn b x u v) (g:=λv=>D.lu v*x v) λv hv=>by unfold mn;rw[aM hv],cX (f:=λk=>D.lu (n+k)*mn m n Fn b x u (n+k)) (g:=λi=>D.lu (n+i)*(b i-cj (λj=>Fn i j*x j) n+u)) λi R=>by
  unfold mn
  rw[aJ be,aM be,Nat.add_sub_cancel_left]]at Y
 rw[Y];grind
def fe.none(h:fe D m n Fn b)(N:∀j,j<D.q->¬0<D.c j):(∀i,0<= -(D.lu (n+i)))/\cj (λi=> -(D.lu (n+i))*b i) m=D.top/\∀j,j<n->0<=cj (λi=> -(D.lu (n+i))*Fn i j) m:=by
 have h0:=h.obj (λ_=>0) 0;have hz:∀g:Nat->Rat,cj (λj=>g j*(0:Rat)) n=0:=λg=>by rw[cX (g:=λ_=>0) λj _=>bF _,dc]
 rw[hz,cX (g:=λi=>D.lu (n+i)*b i) λi _=>by rw[hz];grind]at h0;have VE:cj (λi=> -(D.lu (n+i))*b i) m=D.top:=by
  rw[cX (g:=λi=> -(D.lu (n+i)*b i)) λi _=>by grind,gM];grind
 refine⟨λi=>by have:=D.Dr N (n+i);grind,VE,λj hj=>?_⟩;have Y:=h.obj (λv=>if v=j then 1 else 0) 0;have L:∀g:Nat->Rat,cj (λv=>g v*(if v=j then(1:Rat)else 0)) n=g j:=λg=>by
  rw[eN hj λk _ e=>by rw[aJ e,bF],aM rfl,Rat.mul_one]
 rw[L,cX (g:=λi=>D.lu (n+i)*b i-D.lu (n+i)*Fn i j) λi _=>by rw[L];grind,jc]at Y;have I:=D.Dr N j;rw[cX (f:=λi=> -(D.lu (n+i))*Fn i j) (g:=λi=> -(D.lu (n+i)*Fn i j)) λi _=>by grind,gM];grind
def fe.Ln(h:fe D m n Fn b)(hr:r<D.m)(hv:D.eu r=n+m)(N:D.b r=0):∃j,j<D.q/\D.a r j≠0:=by
 refine Decidable.byContradiction λTu=>?_;have Y:=((h.Fi _ _).2 (Cq (Fn:=Fn) (b:=b) (λ_=>0) 1)).1 r hr;unfold Dc.row at Y;rw[cX (g:=λ_=>0) λj hj=>by rw[show D.a r j=0 from Decidable.byContradiction λg=>Tu ⟨j,hj,g⟩,bc],dc,hv,N]at Y;unfold mn at Y;rw[aJ be,aJ be]at Y;grind
def Dc.Lo(hf:D.uO)(N:D.b r=0):(D.gP r s).uO:=λi R=>by
 show 0<=if i=r then D.b r / D.a r s else D.b i-D.a i s*(D.b r / D.a r s)
 rw[N,bO,bc,bF];split
 .exact Rat.le_refl
 .have:=hf i R;grind
def eL(k j:Nat):Nat:=if j<k then j else j+1
def Dc.cut(D:Dc)(k n:Nat)(c:Nat->Rat):Dc where
 m:=D.m
 q:=D.q-1
 eu:=D.eu
 eR:=λj=>D.eR (eL k j)
 a:=λi j=>D.a i (eL k j)
 b:=D.b
 c:=λj=>(if D.eR (eL k j)<n then c (D.eR (eL k j))else 0)-cj (λi=>if D.eu i<n then c (D.eu i)*D.a i (eL k j)else 0) D.m
 top:=cj (λi=>if D.eu i<n then c (D.eu i)*D.b i else 0) D.m
def Lp(k j:Nat):eL k j≠k:=by unfold eL;split<;>omega
def KA{k i:Nat}(h:eL k i=eL k j):i=j:=by unfold eL at h;split at h<;>split at h<;>omega
def AJ(g:Nat->Rat){k:Nat}:∀{q:Nat},k<q+1->cj g (q+1)=cj (λj=>g (eL k j)) q+g k
 |0,h=>by
  obtain rfl:k=0:=by omega
  rfl
 |q+1,h=>by
  show cj g (q+1)+g (q+1)=cj (λj=>g (eL k j)) q+g (eL k q)+g k;by_cases e:k=q+1
  .subst e;have Y:∀j,j<q+1->eL (q+1) j=j:=λj hj=>aM hj;rw[Y q be,cX (f:=λj=>g (eL (q+1) j)) (g:=g) λj hj=>by rw[Y j be]];rfl
  .rw[AJ g (show k<q+1 by omega),show eL k q=q+1 from aJ be];grind
def Dc.parts(h:D.Ok)(g:Nat->Rat):cj g (D.m+D.q)=cj (λi=>g (D.eu i)) D.m+cj (λj=>g (D.eR j)) D.q:=by
 have Y:∀v,v<D.m+D.q->g v=cj (λi=>if D.eu i=v then g v else 0) D.m+cj (λj=>if D.eR j=v then g v else 0) D.q:=λv hv=>by
  rcases h.all v hv with⟨i,R,rfl⟩|⟨j,hj,rfl⟩
  .rw[eN R λk K e=>aJ λg=>e (h.bi k i K R g),aM rfl,cX (g:=λ_=>0) λj hj=>aJ λg=>h.bf i j R hj g.symm,dc];grind
  .rw[cX (g:=λ_=>0) λi R=>aJ (h.bf i j R hj),dc,eN hj λk K e=>aJ λg=>e (h.fi k j K hj g),aM rfl];grind
 rw[cX Y,fu];congr 1
 .rw[jd];refine cX λi R=>?_;rw[eN (h.bl i R) λv _ e=>aJ λg=>e g.symm,aM rfl]
 .rw[jd];refine cX λj hj=>?_;rw[eN (h.fl j hj) λv _ e=>aJ λg=>e g.symm,aM rfl]
def fe.cut(h:fe D m n Fn b){k:Nat}(K:k<D.q)(hv:D.eR k=n+m):jO (D.cut k n c) m n Fn b c:=by
 have hq:(D.cut k n c).q=n:=by show D.q-1=n;rw[h.eq];omega
 have SL:∀j,j<n->eL k j<D.q:=λj hj=>by rw[h.eq];unfold eL;split<;>omega
 have Pu:∀i,i<m->D.eu i<m+n:=λi R=>by
  have Y:=h.ok.bl i (by rw[h.em];exact R);have I:=h.ok.bf i k (by rw[h.em];exact R) K;rw[hv]at I;rw[h.em,h.eq]at Y;omega
 have Qj:∀j,j<n->D.eR (eL k j)<m+n:=λj hj=>by
  have Y:=h.ok.fl _ (SL j hj);have I:D.eR (eL k j)≠D.eR k:=λe=>Lp k j (h.ok.fi _ _ (SL j hj) K e);rw[hv]at I;rw[h.em,h.eq]at Y;omega
 have QK:(D.cut k n c).Ok:=by
  refine⟨λi R=>?_,λj hj=>?_,λi k' R Ub e=>h.ok.bi i k' R Ub e,λj k' hj Ub e=>?_,λi j R hj e=>?_,λv hv'=>?_⟩
  .rw[hq];show D.eu i<D.m+n;rw[h.em];exact Pu i (by rw[<-h.em];exact R)
  .rw[hq]at hj ⊢;show D.eR (eL k j)<D.m+n;rw[h.em];exact Qj j hj
  .rw[hq]at hj Ub;exact KA (h.ok.fi _ _ (SL j hj) (SL k' Ub) e)
  .rw[hq]at hj;exact h.ok.bf i _ R (SL j hj) e
  .rw[hq]at hv';have hv':v<D.m+n:=hv';rw[h.em]at hv';rcases h.ok.all v (by rw[h.em,h.eq];omega)with⟨i,R,e⟩|⟨j,hj,e⟩
   .exact .inl ⟨i,R,e⟩
   .refine .inr ?_;have Up:j≠k:=λg=>by rw[g,hv]at e;omega
    rw[h.eq]at hj K;rcases aW j k with g|g
    .exact⟨j,by rw[hq];omega,by show D.eR (eL k j)=v;rw[show eL k j=j from aM g];exact e⟩
    .exact⟨j-1,by rw[hq];omega,by show D.eR (eL k (j-1))=v;rw[show eL k (j-1)=j by unfold eL;rw[aJ be];omega];exact e⟩
 refine⟨QK,h.em,hq,λx z=>?_⟩;obtain⟨y,hy⟩:∃y,(λv=>if v=n+m then 0 else x v)=y:=⟨_,rfl⟩
 have hyv:∀v,v≠n+m->y v=x v:=λv e=>by rw[<-hy];exact aJ e
 have RW:y (n+m)=0:=by rw[<-hy];exact aM rfl
 have Pm:∀i,(D.cut k n c).row x i=D.row y i:=λi=>by
  unfold Dc.row;rw[hq,h.eq,AJ (λj=>D.a i j*y (D.eR j)) (k:=k) (by rw[h.eq]at K;exact K),hv,RW,bF,cH];refine cX λj hj=>?_;show D.a i (eL k j)*x (D.eR (eL k j))=_;rw[hyv _ (by have:=Qj j hj;omega)]
 have UP:(∀i,i<m->x (D.eu i)=D.b i-D.row y i)↔∀i,i<m->x (n+i)=b i-cj (λj=>Fn i j*x j) n:=by
  have e1:(∀i,i<m->x (D.eu i)=D.b i-D.row y i)↔∀i,i<D.m->y (D.eu i)=D.b i-D.row y i:=by
   rw[h.em];constructor
   .intro g i R;rw[hyv _ (by have:=Pu i R;omega)];exact g i R
   .intro g i R;rw[<-hyv _ (by have:=Pu i R;omega)];exact g i R
  have e2:(∀i,i<D.m->y (D.eu i)=D.b i-D.row y i)↔D.xp y (D.top+cj (λj=>D.c j*y (D.eR j)) D.q):=⟨λg=>⟨g,rfl⟩,λg=>g.1⟩
  rw[e1,e2,h.Fi,pe];have e3:∀i,i<m->(y (n+i)=b i-(cj (λj=>Fn i j*y j) n-y (n+m))↔x (n+i)=b i-cj (λj=>Fn i j*x j) n):=λi R=>by
   rw[RW,hyv _ be,cX (f:=λj=>Fn i j*y j) (g:=λj=>Fn i j*x j) λj hj=>by rw[hyv j be]];constructor<;>intro g<;>rw[g]<;>grind
  constructor
  .rintro⟨g,_⟩ i R;exact(e3 i R).1 (g i R)
  .intro g;refine⟨λi R=>(e3 i R).2 (g i R),?_⟩;have hD:D.xp y (D.top+cj (λj=>D.c j*y (D.eR j)) D.q):=by
    have hs:(dz m n Fn b).xp y (-y (n+m)):=pe.2 ⟨λi R=>(e3 i R).2 (g i R),rfl⟩;exact⟨((h.Fi _ _).2 hs).1,rfl⟩
   exact h.H3 hD
 have XX:(∀i,i<m->x (D.eu i)=D.b i-D.row y i)->(D.cut k n c).top+cj (λj=>(D.cut k n c).c j*x ((D.cut k n c).eR j)) n=0+cj (λj=>c j*x j) n:=λg=>by
  have hp:=Dc.parts QK λv=>if v<n then c v*x v else 0
  rw[hq,show(D.cut k n c).m=m from h.em,Nat.add_comm m n,p9,cX (f:=λv=>if v<n then c v*x v else 0) (g:=λv=>c v*x v) λv hv=>aM hv,cX (f:=λk=>if n+k<n then c (n+k)*x (n+k)else 0) (g:=λ_=>0) λk _=>aJ be,dc]at hp;have hp:cj (λv=>c v*x v) n+0=cj (λi=>if D.eu i<n then c (D.eu i)*x (D.eu i)else 0) m+cj (λj=>if D.eR (eL k j)<n then c (D.eR (eL k j))*x (D.eR (eL k j))else 0) n:=hp;have e1:cj (λi=>if D.eu i<n then c (D.eu i)*x (D.eu i)else 0) m=cj (λi=>if D.eu i<n then c (D.eu i)*D.b i else 0) m-cj (λj=>cj (λi=>if D.eu i<n then c (D.eu i)*D.a i (eL k j)else 0) m*x (D.eR (eL k j))) n:=by
   rw[cX (f:=λj=>cj (λi=>if D.eu i<n then c (D.eu i)*D.a i (eL k j)else 0) m*x (D.eR (eL k j))) (g:=λj=>cj (λi=>(if D.eu i<n then c (D.eu i)*D.a i (eL k j)else 0)*x (D.eR (eL k j))) m) λj _=>by rw[jB],jd,<-jc];refine cX λi R=>?_;by_cases WT:D.eu i<n
   .rw[aM WT,aM WT,g i R,cX (g:=λj=>c (D.eu i)*(D.a i (eL k j)*x (D.eR (eL k j)))) λj _=>by rw[aM WT,Rat.mul_assoc],fP,<-Pm i];have:(D.cut k n c).row x i=cj (λj=>D.a i (eL k j)*x (D.eR (eL k j))) n:=by unfold Dc.row;rw[hq];rfl
    rw[this];grind
   .rw[aJ WT,aJ WT,cX (g:=λ_=>0) λj _=>by rw[aJ WT,bc],dc];grind
  have e2:cj (λj=>(D.cut k n c).c j*x ((D.cut k n c).eR j)) n=cj (λj=>if D.eR (eL k j)<n then c (D.eR (eL k j))*x (D.eR (eL k j))else 0) n-cj (λj=>cj (λi=>if D.eu i<n then c (D.eu i)*D.a i (eL k j)else 0) m*x (D.eR (eL k j))) n:=by
   rw[<-jc];refine cX λj _=>?_;show((if D.eR (eL k j)<n then c (D.eR (eL k j))else 0)-cj (λi=>if D.eu i<n then c (D.eu i)*D.a i (eL k j)else 0) D.m)*x (D.eR (eL k j))=_;rw[h.em];split<;>grind
  have e3:(D.cut k n c).top=cj (λi=>if D.eu i<n then c (D.eu i)*D.b i else 0) m:=by
   show cj _ D.m=_;rw[h.em]
  rw[e3,e2];grind
 have Ur:(∀i,i<(D.cut k n c).m->x ((D.cut k n c).eu i)=(D.cut k n c).b i-(D.cut k n c).row x i)↔∀i,i<m->x (D.eu i)=D.b i-D.row y i:=by
  constructor
  .intro g i R;have:=g i (by show i<D.m;rw[h.em];exact R);rw[Pm]at this;exact this
  .intro g i R;rw[Pm];exact g i (by rw[<-h.em];exact R)
 constructor
 .rintro⟨g1,g2⟩;have g3:=Ur.1 g1;rw[hq]at g2;exact⟨UP.1 g3,g2.trans (XX g3)⟩
 .rintro⟨g1,g2⟩;have g3:=UP.2 g1;refine⟨Ur.2 g3,?_⟩;rw[hq,XX g3];exact g2
end
def Jz(a b:Nat)(h:a+b<=l):wt a*wt b<=wt l:=by rw[<-Di];exact FQ h
def aA4{k n F9:Nat}(E:n<=F9)(hR:F9<=4294967295)(hl:k+1<=l)(hm:l*F9+1<=m):ln (fB (wt k) n)<=m/\fB (wt k) n<=wt m:=by
 have Y:=aA3 (B:=wt k) (l:=l) E (aR (Nat.mul_le_mul_right _ (aR hR (by decide:4294967295<=wt 1))) (Jz 1 k be));have I:l*n+1<=m:=aR (Nat.succ_le_succ (bC _ E)) hm;exact⟨aR Y I,Nat.le_of_lt (gn.1 (aR Y I))⟩
structure Un(EQ:Mx)(p:Nat->Nat)(r n:Nat):Prop where
 lt:∀i,i<r->p i<n
 unit:∀i j,i<r->j<r->EQ j (p i)=if j=i then 1 else 0
section
variable{EQ E9:Mx}{p:Nat->Nat}{r n:Nat}{v:Nat->Rat}
def Un.coeff(h:Un EQ p r n)(hv:gg EQ r n v):∀t,t<n->v t=cj (λi=>v (p i)*EQ i t) r:=by
 obtain⟨c,hc⟩:=hv;intro t ht;rw[hc t ht];refine cX λi R=>?_;rw[hc (p i) (h.lt i R),eN R λk K Po=>by rw[h.unit i k R K,aJ Po,bF],h.unit i i R R,aM rfl,Rat.mul_one]
def Ij(h:Un EQ p r n)(hZ:∀i,i<r->gg EQ r n (E9 i)){k t:Nat}(K:k<r)(ht:t<n):
  tO E9 p r*EQ k t=tO E9 (λi=>if i=k then t else p i) r:=by
 have e0:tO E9 (λi=>if i=k then t else p i) r=fp r (Ex.iy (λj i=>E9 (r-1-i) (p (r-1-j))) (r-1-k) λi=>E9 (r-1-i) t):=jr λi j R hj=>by
  unfold Ex.iy;dsimp only
  by_cases g:i=r-1-k
  .rw[aM g,aM be]
  .rw[aJ g,aJ be]
 have e:∀i j,i<r->j<r->Ex.iy (λj i=>E9 (r-1-i) (p (r-1-j))) (r-1-k) (λi=>E9 (r-1-i) t) i j=Ex.iy (λj i=>E9 (r-1-i) (p (r-1-j))) (r-1-k) (λi=>cj (λj=>EQ j t*E9 (r-1-i) (p j)) r) i j:=λi j R hj=>by
  unfold Ex.iy;split
  .show E9 (r-1-j) t=cj (λl=>EQ l t*E9 (r-1-j) (p l)) r;rw[h.coeff (hZ (r-1-j) be) t ht];exact cX λl _=>Rat.mul_comm _ _
  .rfl
 rw[e0,jr e,FW (v:=λk i=>E9 (r-1-i) (p k)) be,eN K λj hj Po=>?_]
 .rw[show Ex.iy (λj i=>E9 (r-1-i) (p (r-1-j))) (r-1-k) (λi=>E9 (r-1-i) (p k))=λj i=>E9 (r-1-i) (p (r-1-j))from ?_]
  .rw[tO,Rat.mul_comm]
  .funext i j
   unfold Ex.iy;split
   .rename_i R;rw[R,show r-1-(r-1-k)=k by omega]
   .rfl
 .rw[Lc (a:=r-1-k) (b:=r-1-j) be be be λi R=>?_,bF];unfold Ex.iy;rw[aM rfl,aJ be];show E9 (r-1-i) (p j)=E9 (r-1-i) (p (r-1-(r-1-j)));rw[show r-1-(r-1-j)=j by omega]
def Cr{m:Mx}:∀n,(∀i j,i<n->j<n->i≠j->m i j=0)->(∀i,i<n->m i i≠0)->fp n m≠0
 |0,_,_=>by show(1:Rat)≠0;decide
 |n+1,h,h0=>by
  rw[fp,eN (i:=0) be λk K Po=>by rw[h 0 k be K (Ne.symm Po),bc,bF]];have hs:∀j,skip 0 j=j+1:=λj=>by unfold skip;rw[aJ be]
  refine sj bv (sj (h0 0 be) ?_);rw[jr (m':=λi j=>m (i+1) (j+1)) λi j _ _=>by rw[hs]];exact Cr n (λi j R hj e=>h _ _ be be be) λi R=>h0 _ be
def KB(hz:∀i j,i<r->j<r->i≠j->E9 i (p j)=0)(h0:∀i,i<r->E9 i (p i)≠0):tO E9 p r≠0:=
 Cr r (λi j R hj e=>hz _ _ be be be) λi R=>h0 _ be
end
def iO(v w:Nat):Rat:=if w=v then 1 else 0
def Dc.ext(D:Dc)(i v:Nat):Rat:=
 if i<D.m then(if v<D.m+D.q then iO v (D.eu i)+D.row (iO v) i else if v=D.m+D.q then D.b i else 0)
 else(if v<D.m+D.q then -(cj (λj=>D.c j*iO v (D.eR j)) D.q)else if v=D.m+D.q then D.top else 1)
def Dc.pv(D:Dc)(i:Nat):Nat:=if i<D.m then D.eu i else D.m+D.q+1
section
variable{D:Dc}{r s:Nat}
def Dc.Ik(h:D.Ok)(hj:j<D.q)(g:Nat->Rat):cj (λk=>g k*iO (D.eR j) (D.eR k)) D.q=g j:=by
 unfold iO;rw[eN hj λk K e=>by rw[aJ λg=>e (h.fi k j K hj g),bF],aM rfl,Rat.mul_one]
def Dc.Il(h:D.Ok){i:Nat}(R:i<D.m)(g:Nat->Rat):cj (λk=>g k*iO (D.eu i) (D.eR k)) D.q=0:=by
 unfold iO;rw[cX (g:=λ_=>0) λk K=>by rw[aJ λe=>h.bf i k R K e.symm,bF],dc]
def Dc.Lq(h:D.Ok){i:Nat}(R:i<D.m)(hj:j<D.q):D.ext i (D.eR j)=D.a i j:=by
 unfold Dc.ext Dc.row;rw[aM R,aM (h.fl j hj),D.Ik h hj];unfold iO;rw[aJ (h.bf i j R hj),Rat.zero_add]
def Dc.Od{i:Nat}(R:i<D.m):D.ext i (D.m+D.q)=D.b i:=by
 unfold Dc.ext;rw[aM R,aJ (Nat.lt_irrefl _),aM rfl]
def Dc.aA7(h:D.Ok)(hj:j<D.q):D.ext D.m (D.eR j)= -(D.c j):=by
 unfold Dc.ext;rw[aJ (Nat.lt_irrefl _),aM (h.fl j hj),D.Ik h hj]
def Dc.Oe:D.ext D.m (D.m+D.q)=D.top:=by
 unfold Dc.ext;rw[aJ (Nat.lt_irrefl _),aJ (Nat.lt_irrefl _),aM rfl]
def Dc.un(h:D.Ok):Un D.ext D.pv (D.m+1) (D.m+D.q+2):=by
 refine⟨λi R=>?_,λi k R K=>?_⟩
 .unfold Dc.pv;split
  .rename_i g;have:=h.bl i g;omega
  .omega
 .unfold Dc.pv Dc.ext;by_cases R4:i<D.m
  .have N:=h.bl i R4;rw[aM R4];by_cases Ub:k<D.m
   .rw[aM Ub,aM N];unfold Dc.row;rw[D.Il h R4,cH];unfold iO;by_cases e:k=i
    .rw[aM e,aM (by rw[e])]
    .rw[aJ e,aJ λg=>e (h.bi k i Ub R4 g)]
   .rw[aJ Ub,aM N,D.Il h R4,aJ (show ¬k=i by omega)];decide +kernel
  .have f1:¬D.m+D.q+1<D.m+D.q:=by omega
   have f2:¬D.m+D.q+1=D.m+D.q:=by omega
   rw[aJ R4];by_cases Ub:k<D.m
   .rw[aM Ub,aJ f1,aJ f2,aJ (show ¬k=i by omega)]
   .rw[aJ Ub,aJ f1,aJ f2,aM (show k=i by omega)]
def Dc.Im(hr:r<D.m)(hs:s<D.q)(hp:D.a r s≠0){i:Nat}(R:i<=D.m)(v:Nat):
  D.ext i v=(if i=r then 0 else(D.gP r s).ext i v)+(if i<D.m then D.a i s else -(D.c s))*(D.gP r s).ext r v:=by
 have hinv:D.a r s*(D.a r s)⁻¹=1:=Rat.mul_inv_cancel _ hp;have Wz:(D.gP r s).eu r=D.eR s:=aM rfl;have WW:(D.gP r s).ext r v=if v<D.m+D.q then(D.row (iO v) r+iO v (D.eu r)) / D.a r s else if v=D.m+D.q then D.b r / D.a r s else 0:=by
  unfold Dc.ext;rw[aM (show r<(D.gP r s).m from hr),Wz,D.Co hs];show(if v<D.m+D.q then _ else if v=D.m+D.q then(if r=r then _ else _)else _)=_;rw[aM rfl];split
  .rw[bO,bO];have:iO v (D.eR s)=iO v (D.eR s)*(D.a r s*(D.a r s)⁻¹):=by rw[hinv,Rat.mul_one]
   grind
  .rfl
 rw[WW];rcases aW i D.m with Y|Y
 .rw[aM Y];by_cases e:i=r
  .subst e;rw[aM rfl,Rat.zero_add];unfold Dc.ext;rw[aM Y];split
   .rw[bO];grind
   .split
    .rw[bO];grind
    .grind
  .rw[aJ e];unfold Dc.ext;rw[aM Y,aM (show i<(D.gP r s).m from Y),D.Cp hs e hp,show(D.gP r s).eu i=D.eu i from aJ e,show(D.gP r s).b i=D.b i-D.a i s*(D.b r / D.a r s)from aJ e];show _=(if v<D.m+D.q then _ else if v=D.m+D.q then _ else _)+_;split
   .rw[bO,bO];grind
   .split<;>grind
 .have Po:i≠r:=by omega
  rw[aJ Po,aJ be];unfold Dc.ext;rw[aJ be,aJ (show ¬i<(D.gP r s).m from by show ¬i<D.m;omega)];show _=(if v<D.m+D.q then -(cj (λj=>(D.gP r s).c j*iO v ((D.gP r s).eR j)) D.q)else if v=D.m+D.q then D.top+D.c s*(D.b r / D.a r s)else _)+_;rw[D.Ic hs hp];split
  .rw[bO,bO];grind
  .split<;>grind
structure Dc.Sz(D:Dc)(B:Nat)(E9:Mx):Prop where
 sp:∀i,i<D.m+1->gg D.ext (D.m+1) (D.m+D.q+2) (E9 i)
 ib:∀i t,i<D.m+1->t<D.m+D.q+2->Ib B (E9 i t)
 nz:tO E9 D.pv (D.m+1)≠0
def Dc.Sz.gP(h:D.Sz B E9)(K:D.Ok)(hr:r<D.m)(hs:s<D.q)(hp:D.a r s≠0):(D.gP r s).Sz B E9:=by
 refine⟨λi R=>(h.sp i R).trans λi R=>?_,h.ib,?_⟩
 .have R4:i<=D.m:=by omega
  by_cases e:i=r
  .refine((gg.row (EQ:=(D.gP r s).ext) (n:=D.m+D.q+2) (show r<D.m+1 by omega)).mul (D.a r s)).congr λt _=>?_;rw[D.Im hr hs hp R4,aM e,aM be,e];grind
  .refine((gg.row (EQ:=(D.gP r s).ext) (n:=D.m+D.q+2) R).add (gg.row (show r<D.m+1 by omega)) (if i<D.m then D.a i s else -(D.c s))).congr λt _=>?_;rw[D.Im hr hs hp R4,aJ e]
 .have Y:=Ij (D.un K) h.sp (k:=r) (t:=D.eR s) be (by have:=K.fl s hs;omega);rw[D.Lq K hr hs]at Y;have e:(D.gP r s).pv=λi=>if i=r then D.eR s else D.pv i:=by
   funext i
   show(if i<D.m then(if i=r then D.eR s else D.eu i)else D.m+D.q+1)=if i=r then D.eR s else if i<D.m then D.eu i else D.m+D.q+1
   by_cases g:i=r
   .rw[aM g,aM be,aM g]
   .rw[aJ g,aJ g]
  show tO E9 (D.gP r s).pv (D.m+1)≠0;rw[e,<-Y];exact sj h.nz hp
def Dc.Sz.rl(h:D.Sz B E9)(K:D.Ok){i t:Nat}(R:i<D.m+1)(ht:t<D.m+D.q+2):rl (D.ext i t)<=ln (fB B (D.m+1)):=by
 have hu:=D.un K;have hd:∀p:Nat->Nat,(∀i,i<D.m+1->p i<D.m+D.q+2)->Ib (fB B (D.m+1)) (tO E9 p (D.m+1)):=λp hp=>Ib.det (D.m+1) λa b ha N=>h.ib _ _ be (hp _ be);refine NX h.nz (hd _ hu.lt) ?_;rw[Ij hu h.sp R ht];refine hd _ λk K=>?_;split
 .exact ht
 .exact hu.lt k K
def Dc.Sz.all{FS:Nat}(h:D.Sz B E9)(K:D.Ok)(hK:ln (fB B (D.m+1))<=FS):(∀i j,i<D.m->j<D.q->Ex.rl (D.a i j)<=FS)/\(∀i,i<D.m->Ex.rl (D.b i)<=FS)/\(∀j,j<D.q->Ex.rl (D.c j)<=FS)/\Ex.rl D.top<=FS:=by
 refine⟨λi j R hj=>?_,λi R=>?_,λj hj=>?_,?_⟩
 .rw[<-D.Lq K R hj];exact aR (h.rl K be (by have:=K.fl j hj;omega)) hK
 .rw[<-D.Od R];exact aR (h.rl K be be) hK
 .have Y:=h.rl K (i:=D.m) (t:=D.eR j) be (by have:=K.fl j hj;omega);rw[D.aA7 K hj]at Y;rw[<-Rat.neg_neg (D.c j),kT];exact aR Y hK
 .rw[<-D.Oe];exact aR (h.rl K be be) hK
def Dc.Sz.start(K:D.Ok)(d:Nat->Rat)(hd:∀i,i<D.m+1->d i≠0)(hz:∀i t,i<D.m+1->t<D.m+D.q+2->Ib B (d i*D.ext i t)):D.Sz B λi t=>d i*D.ext i t:=by
 have hu:=D.un K;refine⟨λi R=>((gg.row (n:=D.m+D.q+2) R).mul (d i)).congr λt _=>Rat.mul_comm _ _,hz,KB (λi j R hj e=>?_) λi R=>?_⟩
 .rw[hu.unit j i hj R,aJ e,bF]
 .rw[hu.unit i i R R,aM rfl,Rat.mul_one];exact hd i R
end
structure Tb where
 bs:List Nat
 fs:List Nat
 a:List (List Rat)
 b:List Rat
 c:List Rat
 top:Rat
structure Rp(t:Tb)(D:Dc):Prop where
 KC:t.bs.length=D.m
 Nd:t.fs.length=D.q
 al:t.a.length=D.m
 aw:iP D.q t.a
 bl:t.b.length=D.m
 cl:t.c.length=D.q
 eu:∀i,i<D.m->t.bs.getD i 0=D.eu i
 eR:∀j,j<D.q->t.fs.getD j 0=D.eR j
 ea:∀i j,i<D.m->j<D.q->dR t.a i j=D.a i j
 eb:∀i,i<D.m->t.b.getD i 0=D.b i
 ec:∀j,j<D.q->t.c.getD j 0=D.c j
 et:t.top=D.top
def qd(x:List Rat)(k:Rat)(y:List Rat):List Rat:=x.mapIdx λi q=>q+k*y.getD i 0
def Tb.l9(t:Tb)(r s:Nat):List Rat:=((t.a.getD r []).set s 1).map λq=>q*(1 / dR t.a r s)
def Tb.bP(t:Tb)(r s:Nat):Rat:=t.b.getD r 0*(1 / dR t.a r s)
def Tb.gP(t:Tb)(r s:Nat):Tb where
 bs:=t.bs.set r (t.fs.getD s 0)
 fs:=t.fs.set s (t.bs.getD r 0)
 a:=t.a.mapIdx λi x=>if i=r then t.l9 r s else qd (x.set s 0) (-(x.getD s 0)) (t.l9 r s)
 b:=t.b.mapIdx λi x=>if i=r then t.bP r s else x+ -(dR t.a i s)*t.bP r s
 c:=qd (t.c.set s 0) (-(t.c.getD s 0)) (t.l9 r s)
 top:=t.top+t.c.getD s 0*t.bP r s
def gp{α β:Type}{f:Nat->α->β}{l:List α}{i:Nat}(d:α)(e:β)(h:i<l.length):(l.mapIdx f).getD i e=f i (l.getD i d):=by
 rw[List.getD,List.getElem?_mapIdx,List.getD,aE h];rfl
def getD_map{α β:Type}{f:α->β}{l:List α}{i:Nat}(d:α)(e:β)(h:i<l.length):(l.map f).getD i e=f (l.getD i d):=by
 rw[List.getD,aS,List.getD,aE h];rfl
def kB{α:Type}{l:List α}{i:Nat}{x d:α}(h:i<l.length):(l.set i x).getD j d=if j=i then x else l.getD j d:=by
 by_cases e:j=i
 .subst e;rw[aM rfl,Fb h]
 .rw[aJ e,getD_set_ne (Ne.symm e)]
def nV(x:List Rat)(k:Rat)(y:List Rat):(qd x k y).length=x.length:=List.length_mapIdx
def Du{x y:List Rat}{k:Rat}(h:j<x.length):(qd x k y).getD j 0=x.getD j 0+k*y.getD j 0:=gp 0 0 h
section
variable{t:Tb}{D:Dc}{r s:Nat}
def Rp.Lr(h:Rp t D){i:Nat}(R:i<D.m):(t.a.getD i []).length=D.q:=h.aw.getD (by rw[h.al];exact R)
def Rp.Fj(h:Rp t D)(hr:r<D.m):(t.l9 r s).length=D.q:=by
 unfold Tb.l9;rw[aO,bQ];exact h.Lr hr
def Rp.Ng(h:Rp t D)(hr:r<D.m)(hs:s<D.q)(hj:j<D.q):(t.l9 r s).getD j 0=(D.gP r s).a r j:=by
 have hl:=h.Lr hr;unfold Tb.l9;rw[getD_map 0 0 (by rw[bQ,hl];exact hj),kB (by rw[hl];exact hs),h.ea r s hr hs];show _=if r=r then(if j=s then 1 / D.a r s else D.a r j / D.a r s)else _
 rw[aM rfl];by_cases e:j=s
 .rw[aM e,aM e,cQ]
 .rw[aJ e,aJ e,show(t.a.getD r []).getD j 0=D.a r j from h.ea r j hr hj,bO,bO,cQ]
def Rp.Of(h:Rp t D)(hr:r<D.m)(hs:s<D.q):t.bP r s=D.b r / D.a r s:=by
 unfold Tb.bP;rw[h.eb r hr,h.ea r s hr hs,bO,bO,cQ]
def Rp.gP(h:Rp t D)(hr:r<D.m)(hs:s<D.q):Rp (t.gP r s) (D.gP r s):=by
 have Pm:=λ{j:Nat} (hj:j<D.q)=>h.Ng hr hs hj;have hprr:∀j,(D.gP r s).a r j=if j=s then 1 / D.a r s else D.a r j / D.a r s:=λj=>aM rfl
 refine⟨by show(t.bs.set _ _).length=_;rw[bQ];exact h.KC,by show(t.fs.set _ _).length=_;rw[bQ];exact h.Nd,by show(t.a.mapIdx _).length=_;rw[List.length_mapIdx];exact h.al,λx Z=>?_,by show(t.b.mapIdx _).length=_;rw[List.length_mapIdx];exact h.bl,by show(qd _ _ _).length=_;rw[nV,bQ];exact h.cl,λi R=>?_,λj hj=>?_,λi j R hj=>?_,λi R=>?_,λj hj=>?_,?_⟩
 .obtain⟨i,R⟩:=aj Z;have Qo:(t.a.mapIdx λi x=>if i=r then t.l9 r s else qd (x.set s 0) (-(x.getD s 0)) (t.l9 r s))[i]? =some x:=R;rw[List.getElem?_mapIdx]at Qo
  cases hy:t.a[i]? with
  |none=>rw[hy]at Qo;cases Qo
  |some y=>
   rw[hy]at Qo;injection Qo with Qo;rw[<-Qo];split
   .exact h.Fj hr
   .rw[nV,bQ];exact h.aw y (aG hy)
 .show(t.bs.set r (t.fs.getD s 0)).getD i 0=if i=r then D.eR s else D.eu i
  have R:i<D.m:=R;rw[kB (by rw[h.KC];exact hr),h.eR s hs];split
  .rfl
  .exact h.eu i R
 .show(t.fs.set s (t.bs.getD r 0)).getD j 0=if j=s then D.eu r else D.eR j
  have hj:j<D.q:=hj;rw[kB (by rw[h.Nd];exact hs),h.eu r hr];split
  .rfl
  .exact h.eR j hj
 .have R:i<D.m:=R;have hj:j<D.q:=hj;show((t.a.mapIdx λi x=>if i=r then t.l9 r s else qd (x.set s 0) (-(x.getD s 0)) (t.l9 r s)).getD i []).getD j 0=_;rw[gp [] [] (by rw[h.al];exact R)];by_cases e:i=r
  .subst e;rw[aM rfl];exact Pm hj
  .have hl:=h.Lr R;rw[aJ e,Du (by rw[bQ,hl];exact hj),kB (by rw[hl];exact hs),Pm hj,hprr,show(t.a.getD i []).getD j 0=D.a i j from h.ea i j R hj,show(t.a.getD i []).getD s 0=D.a i s from h.ea i s R hs];show _=if i=r then _ else if j=s then -(D.a i s / D.a r s)else D.a i j-D.a i s*(D.a r j / D.a r s)
   rw[aJ e];by_cases g:j=s
   .rw[aM g,aM g,aM g,bO,bO];grind
   .rw[aJ g,aJ g,aJ g];grind
 .have R:i<D.m:=R;show(t.b.mapIdx λi x=>if i=r then t.bP r s else x+ -(dR t.a i s)*t.bP r s).getD i 0=if i=r then D.b r / D.a r s else D.b i-D.a i s*(D.b r / D.a r s)
  rw[gp 0 0 (by rw[h.bl];exact R),h.Of hr hs,h.eb i R,h.ea i s R hs];split
  .rfl
  .grind
 .have hj:j<D.q:=hj;show(qd (t.c.set s 0) (-(t.c.getD s 0)) (t.l9 r s)).getD j 0=if j=s then -(D.c s / D.a r s)else D.c j-D.c s*(D.a r j / D.a r s)
  rw[Du (by rw[bQ,h.cl];exact hj),kB (by rw[h.cl];exact hs),Pm hj,hprr,h.ec s hs,h.ec j hj];by_cases g:j=s
  .rw[aM g,aM g,aM g,bO,bO];grind
  .rw[aJ g,aJ g,aJ g];grind
 .show t.top+t.c.getD s 0*t.bP r s=D.top+D.c s*(D.b r / D.a r s)
  rw[h.et,h.ec s hs,h.Of hr hs]
def AK{c c':Nat->Rat}{f f':Nat->Nat}:∀{n:Nat},(∀j,j<n->c j=c' j)->(∀j,j<n->f j=f' j)->mR c f n=mR c' f' n
 |0,_,_=>rfl
 |n+1,hc,hf=>by
  rw[mR,mR,AK (λj hj=>hc j be) λj hj=>hf j be,hc n be]
  cases e:mR c' f' n with
  |none=>rfl
  |some k=>
   have K:=(kA e).1;dsimp only
   rw[hf n be,hf k be]
def AM{a a' b b':Nat->Rat}{f f':Nat->Nat}:∀{n:Nat},(∀j,j<n->a j=a' j)->(∀j,j<n->b j=b' j)->(∀j,j<n->f j=f' j)->kL a b f n=kL a' b' f' n
 |0,_,_,_=>rfl
 |n+1,ha,N,hf=>by
  rw[kL,kL,AM (λj hj=>ha j be) (λj hj=>N j be) λj hj=>hf j be,ha n be,N n be]
  cases e:kL a' b' f' n with
  |none=>rfl
  |some k=>
   have K:=(ob e).1;dsimp only
   rw[hf n be,hf k be,ha k be,N k be]
def Tb.Gy(t:Tb):Option Nat:=mR (λj=>t.c.getD j 0) (λj=>t.fs.getD j 0) t.c.length
def Tb.HZ(t:Tb)(s:Nat):Option Nat:=kL (λi=>dR t.a i s) (λi=>t.b.getD i 0) (λi=>t.bs.getD i 0) t.a.length
def Rp.Gy(h:Rp t D):t.Gy=mR D.c D.eR D.q:=by
 unfold Tb.Gy;rw[h.cl];exact AK h.ec h.eR
def Rp.HZ(h:Rp t D)(hs:s<D.q):t.HZ s=kL (λi=>D.a i s) D.b D.eu D.m:=by
 unfold Tb.HZ;rw[h.al];exact AM (λi R=>h.ea i s R hs) h.eb h.eu
end
def fF(l:List Rat)(n off:Nat)(idx:Nat->Nat)(val:Nat->Rat):Nat->List Rat
 |0=>l
 |i+1=>if off<=idx i/\idx i<off+n then(fF l n off idx val i).set (idx i-off) (val i)else fF l n off idx val i
def ie(l:List Rat)(n off:Nat)(idx:Nat->Nat)(val:Nat->Rat):∀k,(fF l n off idx val k).length=l.length
 |0=>rfl
 |i+1=>by
  rw[fF];split
  .rw[bQ];exact ie l n off idx val i
  .exact ie l n off idx val i
def vW{l:List Rat}{n off v:Nat}{idx:Nat->Nat}{val:Nat->Rat}(hl:l.length=n)(hv:v<n):∀k,(∀i j,i<k->j<k->idx i=idx j->i=j)->(∀i,i<k->idx i=off+v->l.getD v 0=0)->
  (fF l n off idx val k).getD v 0=l.getD v 0+cj (λi=>if idx i=off+v then val i else 0) k
 |0,_,_=>(cH _).symm
 |i+1,hj,h0=>by
  have ih:=vW (val:=val) hl hv i (λa b ha N e=>hj a b be be e) λa ha e=>h0 a be e;rw[fF,cj];by_cases e:idx i=off+v
  .rw[aM ⟨be,be⟩,kB (by rw[ie,hl];omega),aM (show v=idx i-off by omega),aM e,h0 i be e,cX (g:=λ_=>0) λk K=>aJ λg=>by have:=hj k i be be (g.trans e.symm);omega,dc];grind
  .rw[aJ e,cH];split
   .rename_i g;rw[getD_set_ne be];exact ih
   .exact ih
def Tb.jf(t:Tb)(n:Nat):List Rat:=fF (dm n) n 0 (λi=>t.bs.getD i 0) (λi=>t.b.getD i 0) t.bs.length
def Tb.jP(t:Tb)(n m:Nat):List Rat:=fF (dm m) m n (λj=>t.fs.getD j 0) (λj=> -(t.c.getD j 0)) t.fs.length
def Tb.oc(t:Tb)(n s:Nat):List Rat:=fF (if t.fs.getD s 0<n then(dm n).set (t.fs.getD s 0) 1 else dm n) n 0 (λi=>t.bs.getD i 0) (λi=> -(dR t.a i s)) t.bs.length
def jC(n v:Nat):(dm n).getD v 0=0:=by
 unfold dm;rw[List.getD,List.getElem?_replicate];split<;>rfl
section
variable{t:Tb}{D:Dc}{s n m v:Nat}
def Rp.inj(h:Rp t D)(K:D.Ok):∀i j,i<t.bs.length->j<t.bs.length->t.bs.getD i 0=t.bs.getD j 0->i=j:=λi j R hj e=>by
 rw[h.KC]at R hj;rw[h.eu i R,h.eu j hj]at e;exact K.bi i j R hj e
def Rp.Ls(h:Rp t D)(K:D.Ok)(hv:v<n):(t.jf n).getD v 0=D.val v:=by
 unfold Tb.jf;rw[vW (by simp[dm]) hv _ (h.inj K) λi _ _=>jC _ _,jC,Rat.zero_add,h.KC,aV];exact cX λi R=>by rw[h.eu i R,h.eb i R]
def Rp.Cs(h:Rp t D)(K:D.Ok)(hv:v<m):(t.jP n m).getD v 0= -(D.lu (n+v)):=by
 unfold Tb.jP Dc.lu;rw[vW (by simp[dm]) hv _ (λi j R hj e=>?_) λi _ _=>jC _ _,jC,Rat.zero_add,h.Nd,<-gM]
 .refine cX λj hj=>?_;rw[h.eR j hj,h.ec j hj];split
  .rfl
  .decide +kernel
 .rw[h.Nd]at R hj;rw[h.eR i R,h.eR j hj]at e;exact K.fi i j R hj e
def Rp.Lt(h:Rp t D)(K:D.Ok)(hs:s<D.q)(hv:v<n):(t.oc n s).getD v 0=D.dir s v:=by
 have hl:(if t.fs.getD s 0<n then(dm n).set (t.fs.getD s 0) 1 else dm n).length=n:=by split<;>simp[dm]
 have Qw:(if t.fs.getD s 0<n then(dm n).set (t.fs.getD s 0) 1 else dm n).getD v 0=if v=D.eR s then 1 else 0:=by
  rw[h.eR s hs];split
  .rename_i g;rw[kB (by simp[dm];exact g),jC]
  .rename_i g;rw[jC,aJ be]
 unfold Tb.oc Dc.dir;rw[vW hl hv _ (h.inj K) λi R e=>?_,Qw,h.KC,aV,Rat.sub_eq_add_neg,<-gM]
 .congr 1;refine cX λi R=>?_;rw[h.eu i R,h.ea i s R hs];split
  .rfl
  .decide +kernel
 .rw[h.KC]at R;rw[Qw,aJ λg=>K.bf i s R hs (by rw[<-h.eu i R,e,<-g,aV])]
end
section
variable{D EQ:Dc}{B:Nat}{E9:Mx}{i v:Nat}{x:Nat->Rat}{z:Rat}
def Dc.Nh(D:Dc)(x:Nat->Rat)(z:Rat)(i:Nat):Rat:=cj (λv=>D.ext i v*x v) (D.m+D.q)+D.ext i (D.m+D.q+1)*z-D.ext i (D.m+D.q)
def Dc.Io(h:D.Ok)(g:Nat->Rat)(x:Nat->Rat):cj (λv=>cj (λj=>g j*iO v (D.eR j)) D.q*x v) (D.m+D.q)=cj (λj=>g j*x (D.eR j)) D.q:=by
 rw[cX (g:=λv=>cj (λj=>g j*iO v (D.eR j)*x v) D.q) λv _=>by rw[jB],jd];refine cX λj hj=>?_;unfold iO;rw[eN (h.fl j hj) λv _ e=>by rw[aJ λg=>e g.symm,bF,bc],aM rfl,Rat.mul_one]
def Dc.Ni(h:D.Ok)(R:i<D.m):D.Nh x z i=x (D.eu i)+D.row x i-D.b i:=by
 unfold Dc.Nh;rw[D.Od R];have e1:D.ext i (D.m+D.q+1)=0:=by
  unfold Dc.ext;rw[aM R,aJ be,aJ be]
 have e2:cj (λv=>D.ext i v*x v) (D.m+D.q)=x (D.eu i)+D.row x i:=by
  rw[cX (g:=λv=>iO v (D.eu i)*x v+D.row (iO v) i*x v) λv hv=>by unfold Dc.ext;rw[aM R,aM hv];grind,fu];congr 1
  .unfold iO;rw[eN (h.bl i R) λv _ e=>by rw[aJ λg=>e g.symm,bc],aM rfl,cQ]
  .exact D.Io h (D.a i) x
 rw[e1,e2];grind
def Dc.Nj(h:D.Ok):D.Nh x z D.m=z-cj (λj=>D.c j*x (D.eR j)) D.q-D.top:=by
 unfold Dc.Nh;have e1:D.ext D.m (D.m+D.q+1)=1:=by
  unfold Dc.ext;rw[aJ be,aJ be,aJ be]
 have e2:cj (λv=>D.ext D.m v*x v) (D.m+D.q)= -(cj (λj=>D.c j*x (D.eR j)) D.q):=by
  rw[<-D.Io h D.c x,<-gM];refine cX λv hv=>?_;unfold Dc.ext;rw[aJ be,aM hv];grind
 rw[D.Oe,e1,e2];grind
def Dc.Ip(h:D.Ok)(hs:D.xp x z):∀i,i<D.m+1->D.Nh x z i=0:=λi R=>by
 rcases aW i D.m with Y|Y
 .rw[D.Ni h Y,hs.1 i Y];grind
 .obtain rfl:i=D.m:=by omega
  rw[D.Nj h,hs.2];grind
def Dc.vX(h:D.Ok)(hj:j<D.q):D.val (D.eR j)=0:=D.vU (h.sk hj)
def Dc.span(h:D.Ok)(k:EQ.Ok)(hm:EQ.m=D.m)(hq:EQ.q=D.q)(hs:∀x z,D.xp x z->EQ.xp x z){i:Nat}(R:i<D.m+1):gg D.ext (D.m+1) (D.m+D.q+2) (EQ.ext i):=by
 have hu:=D.un h;obtain⟨δ,hδ⟩:∃δ:Nat->Rat,(λt=>EQ.ext i t-cj (λk=>EQ.ext i (D.pv k)*D.ext k t) (D.m+1))=δ:=⟨_,rfl⟩
 have hδv:∀t,δ t=EQ.ext i t-cj (λk=>EQ.ext i (D.pv k)*D.ext k t) (D.m+1):=λt=>by rw[<-hδ]
 have hp:∀a,a<D.m+1->δ (D.pv a)=0:=λa ha=>by
  rw[hδv,eN ha λb N e=>by rw[hu.unit a b ha N,aJ e,bF],hu.unit a a ha ha,aM rfl];grind
 have XY:∀x z,D.xp x z->cj (λv=>δ v*x v) (D.m+D.q)+δ (D.m+D.q+1)*z-δ (D.m+D.q)=0:=λx z Z=>by
  have Y:=EQ.Ip k (hs x z Z) i (by rw[hm];exact R);unfold Dc.Nh at Y;rw[hm,hq]at Y;have I:cj (λa=>EQ.ext i (D.pv a)*D.Nh x z a) (D.m+1)=0:=by
   rw[cX (g:=λ_=>0) λa ha=>by rw[D.Ip h Z a ha,bF],dc]
  have e1:cj (λv=>δ v*x v) (D.m+D.q)=cj (λv=>EQ.ext i v*x v) (D.m+D.q)-cj (λa=>EQ.ext i (D.pv a)*cj (λv=>D.ext a v*x v) (D.m+D.q)) (D.m+1):=by
   rw[cX (f:=λa=>EQ.ext i (D.pv a)*cj (λv=>D.ext a v*x v) (D.m+D.q)) (g:=λa=>cj (λv=>EQ.ext i (D.pv a)*(D.ext a v*x v)) (D.m+D.q)) λa _=>by rw[fP],jd,<-jc];refine cX λv _=>?_;rw[hδv,cX (f:=λa=>EQ.ext i (D.pv a)*(D.ext a v*x v)) (g:=λa=>(EQ.ext i (D.pv a)*D.ext a v)*x v) λa _=>by grind,jB];grind
  have e2:cj (λa=>EQ.ext i (D.pv a)*D.Nh x z a) (D.m+1)=cj (λa=>EQ.ext i (D.pv a)*cj (λv=>D.ext a v*x v) (D.m+D.q)) (D.m+1)+cj (λa=>EQ.ext i (D.pv a)*D.ext a (D.m+D.q+1)) (D.m+1)*z-cj (λa=>EQ.ext i (D.pv a)*D.ext a (D.m+D.q)) (D.m+1):=by
   rw[<-jB,<-fu,<-jc];refine cX λa _=>?_;unfold Dc.Nh;grind
  rw[e1,hδv,hδv];rw[I]at e2;grind
 have Rs:∀x z,D.xp x z->cj (λj=>δ (D.eR j)*x (D.eR j)) D.q-δ (D.m+D.q)=0:=λx z Z=>by
  have Y:=XY x z Z;have hz:δ (D.m+D.q+1)=0:=by
   have:=hp D.m be;unfold Dc.pv at this
   rwa [aJ be]at this
  rw[D.parts h (λv=>δ v*x v),cX (f:=λi=>δ (D.eu i)*x (D.eu i)) (g:=λ_=>0) λa ha=>?_,dc,hz]at Y
  .grind
  .have:=hp a be;unfold Dc.pv at this;rw[aM ha]at this;rw[this,bc]
 have h0:δ (D.m+D.q)=0:=by
  have Y:=Rs _ _ (D.vV h);rw[cX (g:=λ_=>0) λj hj=>by rw[D.vX h hj,bF],dc]at Y;grind
 have hf:∀s,s<D.q->δ (D.eR s)=0:=λs VT=>by
  have Y:=Rs _ _ (D.line h VT 1);rw[h0,eN VT λj hj e=>by rw[D.vX h hj,D.zG h VT hj,aJ e];grind,D.vX h VT,D.zG h VT VT,aM rfl]at Y;grind
 refine⟨λa=>EQ.ext i (D.pv a),λt ht=>?_⟩;have:δ t=0:=by
  rcases aW t (D.m+D.q)with Y|Y
  .rcases h.all t Y with⟨a,ha,rfl⟩|⟨j,hj,rfl⟩
   .have:=hp a be;unfold Dc.pv at this
    rwa [aM ha]at this
   .exact hf j hj
  .rcases aW (D.m+D.q) t with I|I
   .have:=hp D.m be;unfold Dc.pv at this;rw[aJ be]at this
    rwa [show t=D.m+D.q+1 by omega]
   .rwa [show t=D.m+D.q by omega]
 rw[hδv]at this;grind
def Ct{E9:Mx}(h:∀i,i<m->E9 i (p m)=0):tO E9 p (m+1)=E9 m (p m)*tO E9 p m:=by
 unfold tO;rw[fp,eN (i:=0) be λk K Po=>by rw[show m+1-1-0=m by omega,h (m+1-1-k) be,bc,bF]];have hs:∀j,skip 0 j=j+1:=λj=>by unfold skip;rw[aJ be]
 rw[show uJ 0=1 by decide,cQ];congr 1
 .exact jr λi j R hj=>by
   rw[hs,show m+1-1-(j+1)=m-1-j by omega,show m+1-1-(i+1)=m-1-i by omega]
def uP{E9 C9:Mx}{q:Nat->Nat}(h:∀i k,i<m->k<m->E9 i (p k)=C9 i (q k)):tO E9 p m=tO C9 q m:=jr λi j R hj=>h _ _ be be
def Dc.Sz.of(h:D.Ok)(k:EQ.Ok)(hm:EQ.m=D.m)(hq:EQ.q=D.q)(hs:∀x z,D.xp x z->EQ.xp x z)(d:Nat->Rat)(hz:∀i t,i<D.m+1->t<D.m+D.q+2->Ib B (d i*EQ.ext i t))(hd:d D.m≠0)(E:tO (λi t=>d i*EQ.ext i t) D.eu D.m≠0):D.Sz B λi t=>d i*EQ.ext i t:=by
 refine⟨λi R=>((Dc.span h k hm hq hs R).mul (d i)).congr λt _=>Rat.mul_comm _ _,hz,?_⟩;have Yo:D.pv D.m=D.m+D.q+1:=by unfold Dc.pv;rw[aJ be]
 rw[Ct λi R=>?_,Yo]
 .refine sj (sj hd ?_) ?_
  .unfold Dc.ext;rw[hm,hq,aJ be,aJ be,aJ be];decide
  .rw[uP (C9:=λi t=>d i*EQ.ext i t) (q:=D.eu) λi k _ K=>by unfold Dc.pv;rw[aM K]];exact E
 .rw[Yo];unfold Dc.ext;rw[hm,hq,aM R,aJ be,aJ be,bF]
def Dc.Sz.part(h:D.Sz B E9)(hz:∀i,i<D.m->E9 i (D.m+D.q+1)=0):tO E9 D.eu D.m≠0:=λe=>by
 have Yo:D.pv D.m=D.m+D.q+1:=by unfold Dc.pv;rw[aJ be]
 refine h.nz ?_;rw[Ct λi R=>by rw[Yo];exact hz i R,uP (C9:=E9) (q:=D.eu) λi k _ K=>by unfold Dc.pv;rw[aM K],e,bF]
end
end Go.Ex
