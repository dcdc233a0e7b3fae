/- Texts L25 to X130: lemmas, each with its conditions. -/
import Derived.Test.YtgkpbdkechfgmaaGreatP9
namespace Go.Ex
variable{M:List (List Rat)}{F' Do m:Mx}{B C r t:Nat}{p:Nat->Nat}{u v x:Nat->Rat}{d q:Rat}
def ef(F':Mx)(r n:Nat)(v:Nat->Rat):Prop:=∃c:Nat->Rat,∀t,t<n->v t=dC (fun i=>c i*F' i t) r
structure Rf(F':Mx)(p:Nat->Nat)(r n:Nat):Prop where
 lt:∀i,i<r->p i<n
 mono:∀i j,i<j->j<r->p i<p j
 unit:∀i j,i<r->j<r->F' j (p i)=if j=i then 1 else 0
 lead:∀i t,i<r->t<p i->F' i t=0
section
variable{F' Do:Mx}{p q:Nat->Nat}{r s n:Nat}{v:Nat->Rat}
theorem Rf.coeff(h:Rf F' p r n)(hv:ef F' r n v):∀t,t<n->v t=dC (fun i=>v (p i)*F' i t) r:=by
 obtain⟨c,hc⟩:=hv;intro t ht;rw[hc t ht];refine cT fun i D=>?_;rw[hc (p i) (h.lt i D),ed D fun k K Ox=>by rw[h.unit i k D K,aJ Ox,bF],h.unit i i D D,aM rfl,Rat.mul_one]
theorem Rf.aBa(h:Rf F' p r n)(hv:ef F' r n v)(ht:t<n)(h0:v t≠0)(hz:∀k,k<t->v k=0):∃i,i<r/\p i=t:=by
 refine Decidable.byContradiction fun S2=>h0 ?_;rw[h.coeff hv t ht,cT (g:=fun _=>0) fun i D=>?_,df];rcases cH (p i) t with I|I|I
 .rw[hz _ I,bI]
 .exact absurd ⟨i,D,I⟩ S2
 .rw[h.lead i t D I,bF]
theorem Rf.aCY(h:Rf F' p r n)(k:Rf Do q s n)(hE:∀i,i<r->ef Do s n (F' i)){i:Nat}(D:i<r):∃j,j<s/\q j=p i:=
 k.aBa (hE i D) (h.lt i D) (by rw[h.unit i i D D,aM rfl];decide) fun t ht=>h.lead i t D ht
theorem Rf.OW(h:Rf F' p r n)(k:Rf Do q s n)(hE:∀i,i<r->ef Do s n (F' i))(hF:∀j,j<s->ef F' r n (Do j)):∀i,i<r->i<s/\p i=q i:=by
 intro i
 induction i using Nat.strongRecOn with
 |ind i ih=>
  intro D;obtain⟨j,hj,e1⟩:=h.aCY k hE D;have QL:i<=j:=by
   refine Nat.le_of_not_lt fun PY=>?_;have I:=(ih j PY be).2;have G:=h.mono j i PY D;omega
  have his:i<s:=by omega
  refine⟨his,?_⟩;obtain⟨l,hl,e2⟩:=k.aCY h hF his;have UY:i<=l:=by
   refine Nat.le_of_not_lt fun PY=>?_;have I:=(ih l PY hl).2;have G:=k.mono l i PY his;omega
  have h3:q i<=q j:=by
   rcases aS i j with h4|h4
   .exact Nat.le_of_lt (k.mono i j h4 hj)
   .rw[show i=j by omega];exact aP _
  have h5:p i<=p l:=by
   rcases aS i l with h4|h4
   .exact Nat.le_of_lt (h.mono i l h4 hl)
   .rw[show i=l by omega];exact aP _
  omega
theorem Rf.one(h:Rf F' p r n)(k:Rf Do q s n)(hE:∀i,i<r->ef Do s n (F' i))(hF:∀j,j<s->ef F' r n (Do j)):r=s/\(∀i,i<r->p i=q i)/\∀i t,i<r->t<n->F' i t=Do i t:=by
 have I:=h.OW k hE hF;have G:=k.OW h hF hE;have XX:r=s:=by
  rcases cH r s with h3|h3|h3
  .have:=(G r h3).1;omega
  .exact h3
  .have:=(I s h3).1;omega
 refine⟨XX,fun i D=>(I i D).2,fun i t D ht=>?_⟩;rw[k.coeff (hE i D) t ht,ed (i:=i) be fun j hj Ox=>by rw[<-(I j be).2,h.unit j i be D,aJ (Ne.symm Ox),bI],<-(I i D).2,h.unit i i D D,aM rfl,bs]
end
theorem ef.row{n i:Nat}(D:i<r):ef F' r n (F' i):=⟨fun k=>if k=i then 1 else 0,fun t _=>by
 rw[ed D fun k _ Ox=>by simp only[aJ Ox,bI]]
 simp only[aM,bs]⟩
theorem ef.add{n:Nat}(h:ef F' r n u)(k:ef F' r n v)(x:Rat):ef F' r n fun t=>u t+x*v t:=by
 obtain⟨c,hc⟩:=h;obtain⟨d,hd⟩:=k;refine⟨fun i=>c i+x*d i,fun t ht=>?_⟩;show u t+x*v t=dC (fun i=>(c i+x*d i)*F' i t) r;rw[hc t ht,hd t ht,<-ec,<-fg];exact cT fun i _=>by grind
theorem ef.mul{n:Nat}(h:ef F' r n u)(x:Rat):ef F' r n fun t=>u t*x:=by
 obtain⟨c,hc⟩:=h;refine⟨fun i=>c i*x,fun t ht=>?_⟩;show u t*x=dC (fun i=>(c i*x)*F' i t) r;rw[hc t ht,<-jT];exact cT fun i _=>by grind
theorem ef.congr{n:Nat}(h:ef F' r n u)(e:∀t,t<n->v t=u t):ef F' r n v:=by
 obtain⟨c,hc⟩:=h;exact⟨c,fun t ht=>by rw[e t ht,hc t ht]⟩
theorem ef.trans{s n:Nat}(h:ef F' r n v)(k:∀i,i<r->ef Do s n (F' i)):ef Do s n v:=by
 obtain⟨c,hc⟩:=h;have key:∀m,m<=r->ef Do s n fun t=>dC (fun i=>c i*F' i t) m:=by
  intro m
  induction m with
  |zero=>intro _;exact⟨fun _=>0,fun t _=>by rw[cT (g:=fun _=>0) fun i _=>bI _,df];rfl⟩
  |succ m ih=>
   intro hm;exact(ih be).add (k m be) (c m)
 exact(key r (aP _)).congr fun t ht=>hc t ht
def OX(s:List (List Rat)×List Nat):Prop:=(∀i j,i<j->j<s.2.length->s.2.getD i 0<s.2.getD j 0)/\∀i t,i<s.2.length->t<s.2.getD i 0->dF s.1 i t=0
theorem OX.step{n c:Nat}{s:List (List Rat)×List Nat}(h:OX s)(hr:Red n c s)(hc:c<n):OX (dy s c):=by
 obtain⟨hl,hle,hz,R6,hu⟩:=hr;rcases kL c hle with⟨e,-⟩|⟨k,I,G,h3,e⟩
 .rw[e];exact h
 .obtain⟨r1,r2⟩:=mn hl I G h3 e;have e2:(dy s c).2=s.2++[c]:=by rw[e]
  have hold:∀i,i<s.2.length->(dy s c).2.getD i 0=s.2.getD i 0:=fun i D=>by rw[e2,List.getD,aI D,<-List.getD]
  have RB:(dy s c).2.getD s.2.length 0=c:=by rw[e2,List.getD,aN (aP _),bO];rfl
  have PY:∀i,i<s.2.length->s.2.getD i 0<c:=fun i D=>R6 _ (by rw[List.getD,aD D];exact bA _);have hlen:(dy s c).2.length=s.2.length+1:=by rw[e2];simp
  refine⟨fun i j Py hj=>?_,fun i t D ht=>?_⟩
  .rw[hlen]at hj;rcases aS j s.2.length with h4|h4
   .rw[hold i be,hold j h4];exact h.1 i j Py h4
   .rw[show j=s.2.length by omega,RB,hold i be];exact PY i be
  .rw[hlen]at D;rcases aS i s.2.length with h4|h4
   .rw[hold i h4]at ht;have h5:=PY i h4;rw[r2 i be be t be,hz k t I G be,aJ be,h.2 i t h4 ht,bI,bF,Rat.zero_add]
   .rw[show i=s.2.length by omega]at ht ⊢;rw[RB]at ht;rw[r1,hz k t I G ht,bI]
theorem wR{M:List (List Rat)}{n:Nat}(hl:fz n M):∀cols,cols<=n->OX (cW M cols)
 |0,_=>⟨fun _ _ _ h=>(by cases h),fun _ _ h=>(by cases h)⟩
 |c+1,h=>by
  have ih:=wR hl c be;have hr:=di hl c be;unfold cW at ih hr ⊢;rw[bU,List.foldl_append];exact ih.step hr be
theorem By{n:Nat}(hl:fz n M):Rf (dF (cW M n).1) (fun i=>(cW M n).2.getD i 0) (cW M n).2.length n:=by
 obtain⟨I,G,h3,h4,h5⟩:=di hl n (aP _);obtain⟨k1,k2⟩:=wR hl n (aP _);refine⟨fun i D=>h4 _ (by rw[List.getD,aD D];exact bA _),k1,fun i j D hj=>h5 i j D be,k2⟩
theorem aBb{s:List (List Rat)×List Nat}{c n:Nat}(hl:fz n s.1)(hle:s.2.length<=s.1.length):(∀j,j<s.1.length->ef (dF s.1) s.1.length n (dF (dy s c).1 j))/\∀j,j<s.1.length->ef (dF (dy s c).1) s.1.length n (dF s.1 j):=by
 rcases kL c hle with⟨e,-⟩|⟨k,I,G,h3,e⟩
 .rw[e];exact⟨fun j hj=>ef.row hj,fun j hj=>ef.row hj⟩
 .obtain⟨r1,r2⟩:=mn hl I G h3 e;have hp:s.2.length<s.1.length:=by omega
  have a1:ef (dF s.1) s.1.length n (dF (dy s c).1 s.2.length):=((ef.row G).mul (1 / dF s.1 k c)).congr fun t _=>r1 t;have b1:ef (dF (dy s c).1) s.1.length n (dF s.1 k):=((ef.row hp).mul (dF s.1 k c)).congr fun t _=>by rw[r1,Rat.mul_assoc,cB (1 / _),wP h3,Rat.mul_one]
  refine⟨fun j hj=>?_,fun j hj=>?_⟩
  .by_cases h4:j=s.2.length
   .rw[h4];exact a1
   .exact((ef.row (show (if j=k then s.2.length else j)<s.1.length by split<;>omega)).add (ef.row G) (-(dF s.1 (if j=k then s.2.length else j) c)*(1 / dF s.1 k c))).congr fun t ht=>by rw[r2 j hj h4 t ht];grind
  .by_cases h4:j=k
   .rw[h4];exact b1
   .obtain⟨i,D,Ox,Py⟩:∃i,i<s.1.length/\i≠s.2.length/\(if i=k then s.2.length else i)=j:=by
     by_cases h5:j=s.2.length
     .exact⟨k,G,fun e6=>h4 (h5.trans e6.symm),by rw[aM rfl,h5]⟩
     .exact⟨j,hj,h5,aJ h4⟩
    refine((ef.row D).add (ef.row hp) (dF s.1 j c)).congr fun t ht=>?_;rw[r2 i D Ox t ht,Py,r1];grind
theorem kF{M:List (List Rat)}{n:Nat}(hl:fz n M):∀cols,cols<=n->(∀j,j<M.length->ef (dF M) M.length n (dF (cW M cols).1 j))/\∀j,j<M.length->ef (dF (cW M cols).1) M.length n (dF M j)
 |0,_=>⟨fun j hj=>ef.row hj,fun j hj=>ef.row hj⟩
 |c+1,h=>by
  obtain⟨i1,i2⟩:=kF hl c be;have hr:=di hl c be;have I:=eC M c;have G:=aBb (c:=c) hr.1 hr.2.1;rw[I]at G;have e:(cW M (c+1))=dy (cW M c) c:=by unfold cW;rw[bU,List.foldl_append];rfl
  rw[e];exact⟨fun j hj=>(G.1 j hj).trans i1,fun j hj=>(i2 j hj).trans G.2⟩
theorem ef.cut{m n:Nat}(h:ef F' m n v)(hz:∀i t,r<=i->i<m->t<n->F' i t=0):ef F' r n v:=by
 refine h.trans fun i D=>?_;rcases aS i r with I|I
 .exact ef.row I
 .exact⟨fun _=>0,fun t ht=>by rw[hz i t I D ht,cT (g:=fun _=>0) fun k _=>bI _,df]⟩
theorem Hr{n:Nat}{q:Nat->Nat}(hl:fz n M)(k:Rf Do q r n)(I:∀i,i<r->ef (dF M) M.length n (Do i))(G:∀j,j<M.length->ef Do r n (dF M j)):
  (cW M n).2.length=r/\(∀i,i<r->(cW M n).2.getD i 0=q i)/\∀i t,i<r->t<n->dF (cW M n).1 i t=Do i t:=by
 obtain⟨a1,a2⟩:=kF hl n (aP _);obtain⟨-,hle,hz,-,-⟩:=di hl n (aP _);rw[eC]at hle hz;have h:=By hl;obtain⟨e1,e2,e3⟩:=h.one k (fun i D=>(a1 i be).trans G) fun j hj=>((I j hj).trans a2).cut fun i t D hm ht=>hz i t D hm ht;exact⟨e1,fun i D=>e2 i be,fun i t D ht=>e3 i t be ht⟩
structure Ru(F':Mx)(p:Nat->Nat)(r n:Nat):Prop where
 lt:∀i,i<r->p i<n
 inj:∀i j,i<r->j<r->p i=p j->i=j
 unit:∀i j,i<r->j<r->F' j (p i)=if j=i then 1 else 0
 lead:∀i t,i<r->t<p i->F' i t=0
def nU(F':Mx)(p:Nat->Nat)(r:Nat)(v:Nat->Rat)(k t:Nat):Rat:=v t-dC (fun i=>if p i<k then v (p i)*F' i t else 0) r
theorem OY(F':Mx)(p:Nat->Nat)(r:Nat)(v:Nat->Rat)(t:Nat):nU F' p r v 0 t=v t:=by
 unfold nU;rw[cT (g:=fun _=>0) fun i _=>aJ be,df];grind
section
variable{F':Mx}{p:Nat->Nat}{r n:Nat}{v:Nat->Rat}
theorem OZ{k:Nat}(h:∀i,i<r->p i≠k):nU F' p r v (k+1) t=nU F' p r v k t:=by
 unfold nU;rw[cT fun i D=>?_];have:=h i D;by_cases I:p i<k
 .rw[aM I,aM be]
 .rw[aJ I,aJ be]
theorem aCp(h:Ru F' p r n){i:Nat}(D:i<r):nU F' p r v (p i) (p i)=v (p i):=by
 unfold nU;rw[cT (g:=fun _=>0) fun j hj=>?_,df]
 .grind
 .by_cases I:p j<p i
  .rw[aM I,h.unit i j D hj,aJ (fun e=>by rw[e]at I;omega),bF]
  .rw[aJ I]
theorem Oa(h:Ru F' p r n){i:Nat}(D:i<r):nU F' p r v (p i+1) t=nU F' p r v (p i) t+ -(nU F' p r v (p i) (p i))*F' i t:=by
 rw[aCp h D];unfold nU;have e:dC (fun j=>if p j<p i+1 then v (p j)*F' j t else 0) r=dC (fun j=>(if p j<p i then v (p j)*F' j t else 0)+(if j=i then v (p i)*F' i t else 0)) r:=by
  refine cT fun j hj=>?_;by_cases I:j=i
  .subst I;rw[aM be,aJ be,aM rfl,Rat.zero_add]
  .have G:p j≠p i:=fun e=>I (h.inj j i hj D e);rw[aJ I,bV];by_cases h3:p j<p i
   .rw[aM h3,aM be]
   .rw[aJ h3,aJ be]
 rw[e,fg,ed D fun k _ Ox=>aJ Ox,aM rfl];grind
theorem LP(h:Ru F' p r n){i:Nat}(D:i<r):nU F' p r v n (p i)=0:=by
 unfold nU;rw[ed D fun k K Ox=>?_,aM (h.lt i D),h.unit i i D D,aM rfl]
 .grind
 .rw[aM (h.lt k K),h.unit i k D K,aJ Ox,bF]
end
def mD(F':Mx)(r:Nat)(u:Nat->Rat)(k:Nat):Mx:=fun i t=>if i=r then u t / u k else F' i t+ -(F' i k)*(u t / u k)
theorem Ru.push{n k:Nat}(h:Ru F' p r n)(K:k<n)(hu:∀i,i<r->u (p i)=0)(h0:u k≠0)(hz:∀t,t<k->u t=0):
  Ru (mD F' r u k) (fun i=>if i=r then k else p i) (r+1) n:=by
 have Ox:∀i,i<r->p i≠k:=fun i D e=>h0 (e▸hu i D);have PX:u k / u k=1:=by rw[bh,Rat.mul_inv_cancel _ h0]
 have PQ:∀i,i<r->u (p i) / u k=0:=fun i D=>by rw[hu i D,bh,bI]
 refine⟨fun i D=>?_,fun i j D hj e=>?_,fun i j D hj=>?_,fun i t D ht=>?_⟩
 .split
  .exact K
  .exact h.lt i be
 .by_cases I:i=r
  .by_cases G:j=r
   .omega
   .rw[aM I,aJ G]at e;exact absurd e.symm (Ox j be)
  .by_cases G:j=r
   .rw[aJ I,aM G]at e;exact absurd e (Ox i be)
   .rw[aJ I,aJ G]at e;exact h.inj i j be be e
 .unfold mD;by_cases I:i=r
  .rw[aM I];by_cases G:j=r
   .rw[aM G,aM be,PX]
   .rw[aJ G,aJ be,PX];grind
  .rw[aJ I];by_cases G:j=r
   .rw[aM G,aJ be,PQ i be]
   .rw[aJ G,PQ i be,bF,bV];exact h.unit i j be be
 .unfold mD;by_cases I:i=r
  .rw[aM I]at ht;rw[aM I,hz t ht,bh,bI]
  .rw[aJ I]at ht;rw[aJ I,h.lead i t be ht,Rat.zero_add];rcases aS t k with G|G
   .rw[hz t G,bh,bI,bF]
   .rw[h.lead i k be be];grind
def kr(F':Mx)(r:Nat)(v:Nat->Rat):Mx:=fun i t=>if i=r then v t else F' i t
section
variable{F':Mx}{p:Nat->Nat}{r n k:Nat}{u v:Nat->Rat}
theorem Me(i:Nat)(D:i<r):ef (kr F' r v) (r+1) n (F' i):=(ef.row (show i<r+1 by omega)).congr fun t _=>by unfold kr;rw[aJ be]
theorem aCq(hu:∀t,t<n->u t=nU F' p r v n t)(hl:∀i,i<r->p i<n):ef (kr F' r v) (r+1) n u:=by
 refine⟨fun i=>if i=r then 1 else -(v (p i)),fun t ht=>?_⟩;rw[hu t ht];show nU F' p r v n t=dC (fun i=>(if i=r then 1 else -(v (p i)))*kr F' r v i t) r+(if r=r then 1 else -(v (p r)))*kr F' r v r t;rw[aM rfl,cT (g:=fun i=> -(v (p i)*F' i t)) fun i D=>by unfold kr;rw[aJ be,aJ be,Rat.neg_mul],ov];unfold nU kr;rw[aM rfl,cT (g:=fun i=>v (p i)*F' i t) fun i D=>aM (hl i D)];grind
theorem Oc(hu:ef (kr F' r v) (r+1) n u):∀i,i<r+1->ef (kr F' r v) (r+1) n (mD F' r u k i):=fun i D=>by
 by_cases I:i=r
 .exact(hu.mul (1 / u k)).congr fun t _=>by unfold mD;rw[aM I,bh,bh,bs]
 .exact((Me i be).add hu (-(F' i k)*(1 / u k))).congr fun t _=>by unfold mD;rw[aJ I,bh,bh];grind
theorem LQ(h0:u k≠0):ef (mD F' r u k) (r+1) n u:=((ef.row (show r<r+1 by omega)).mul (u k)).congr fun t _=>by
 unfold mD;rw[aM rfl,Rat.div_mul_cancel h0]
theorem tP(h0:u k≠0)(i:Nat)(D:i<r):ef (mD F' r u k) (r+1) n (F' i):=((ef.row (show i<r+1 by omega)).add (LQ h0) (F' i k / u k)).congr fun t _=>by
 unfold mD;rw[aJ be,bh,bh];grind
theorem Ef(h0:u k≠0)(hu:∀t,t<n->u t=nU F' p r v n t)(hl:∀i,i<r->p i<n):ef (mD F' r u k) (r+1) n v:=by
 have I:ef (kr F' r u) (r+1) n v:=by
  refine⟨fun i=>if i=r then 1 else v (p i),fun t ht=>?_⟩;show v t=dC (fun i=>(if i=r then 1 else v (p i))*kr F' r u i t) r+(if r=r then 1 else v (p r))*kr F' r u r t;rw[aM rfl,cT (g:=fun i=>v (p i)*F' i t) fun i D=>by unfold kr;rw[aJ be,aJ be]];unfold kr;rw[aM rfl,hu t ht];unfold nU;rw[cT (g:=fun i=>v (p i)*F' i t) fun i D=>aM (hl i D)];grind
 refine I.trans fun i D=>?_;by_cases G:i=r
 .exact(LQ h0).congr fun t _=>by unfold kr;rw[aM G]
 .exact(tP h0 i be).congr fun t _=>by unfold kr;rw[aJ G]
end
def nh(row yJ:List Rat)(by_:Rat):List Rat:=row.mapIdx (ou (-by_) yJ)
theorem wS(row yJ:List Rat)(b:Rat):(nh row yJ b).length=row.length:=List.length_mapIdx
theorem Bz(row yJ:List Rat):nh row yJ 0=row:=by
 refine bT fun j=>?_;rw[nh,List.getElem?_mapIdx]
 cases row[j]? with
 |none=>rfl
 |some q=>exact congrArg some (by rw[ou,Rat.neg_zero,bI,bV])
def qn(row:List Rat):Nat->Nat->Nat
 |0,k=>k
 |f+1,k=>if row.getD k 0=0 then qn row f (k+1)else k
def wT(row:List Rat)(cols:Nat):Nat:=qn row cols 0
theorem Oe{row:List Rat}{k:Nat}:∀(f j:Nat),(∀i,j<=i->i<j+k->row.getD i 0=0)->k<=f->(k<f->row.getD (j+k) 0≠0)->qn row f j=j+k:=by
 induction k with
 |zero=>
  intro f j _ _ h
  cases f with
  |zero=>rfl
  |succ f=>rw[qn,aJ (by have:=h be;rwa [cI]at this)];rfl
 |succ k ih=>
  intro f j h0 hf h
  cases f with
  |zero=>omega
  |succ f=>
   rw[qn,aM (h0 j (aP _) be),ih f (j+1) (fun i I G=>h0 i be be) be (fun I=>by rw[Nat.add_assoc,Nat.add_comm 1 k];exact h be)];omega
theorem LR{row:List Rat}{cols k:Nat}(h0:∀i,i<k->row.getD i 0=0)(K:k<=cols)(h:k<cols->row.getD k 0≠0):wT row cols=k:=by
 rw[wT,Oe (k:=k) cols 0 (fun i _ G=>h0 i be) K (fun I=>by rw[aW];exact h I),aW]
abbrev AP:=List (List Rat)×List (Option Nat)×List Nat
def gR(F':List (List Rat))(at_:List (Option Nat))(row:List Rat):Nat->List Rat
 |0=>row
 |k+1=>match at_.getD k none with
  |some j=>nh (gR F' at_ row k) (F'.getD j []) ((gR F' at_ row k).getD k 0)
  |none=>gR F' at_ row k
theorem jF(F':List (List Rat))(at_:List (Option Nat))(row:List Rat):∀k,(gR F' at_ row k).length=row.length
 |0=>rfl
 |k+1=>by
  rw[gR];split
  .rw[wS,jF F' at_ row k]
  .exact jF F' at_ row k
def iA(F':List (List Rat))(u:List Rat)(p i:Nat):List (List Rat):=F'.mapIdx fun j r=>if j<i then nh r u (r.getD p 0)else r
def lO(cols:Nat)(s:AP)(i:Nat)(row:List Rat):AP:=
 let r:=gR s.1 s.2.1 row cols
 let p:=wT r cols
 if p=cols then s else
  let u:=r.map (· / r.getD p 0)
  (iA s.1 u p s.1.length++[u],s.2.1.set p (some s.1.length),s.2.2++[i])
def iu(M:List (List Rat))(cols:Nat):Nat->AP
 |0=>([],List.replicate cols none,[])
 |i+1=>lO cols (iu M cols i) i (M.getD i [])
def dW(s:AP):Nat->List (List Rat)×List Nat×List Nat
 |0=>([],[],[])
 |k+1=>match s.2.1.getD k none with
  |some r=>((dW s k).1++[s.1.getD r []],(dW s k).2.1++[k],(dW s k).2.2++[s.2.2.getD r 0])
  |none=>dW s k
def dh(M:List (List Rat))(cols:Nat):List (List Rat)×List Nat×List Nat:=dW (iu M cols M.length) cols
structure wU(n cols i:Nat)(s:AP):Prop where
 len:fz n s.1
 at_:s.2.1.length=cols
 yJ:s.2.2.length=s.1.length
 lt:∀(k r:Nat),s.2.1[k]? =some (some r)->r<s.1.length
 le:s.1.length<=i
 fr:∀j∈s.2.2,j<i
theorem gU(F':List (List Rat))(u:List Rat)(p i:Nat):(iA F' u p i).length=F'.length:=List.length_mapIdx
theorem Jo(F':List (List Rat))(u:List Rat)(p:Nat):iA F' u p 0=F':=by
 refine bT fun j=>?_;rw[iA,List.getElem?_mapIdx]
 cases F'[j]? <;>rfl
theorem Hu{F':List (List Rat)}{u:List Rat}{p i:Nat}{r:List Rat}(h:F'[i]? =some r):(iA F' u p i)[i]? =some r:=by
 rw[iA,List.getElem?_mapIdx,h];exact congrArg some (aJ (Nat.lt_irrefl i))
theorem CA{F':List (List Rat)}{u:List Rat}{p i:Nat}{r:List Rat}(h:F'[i]? =some r):iA F' u p (i+1)=(iA F' u p i).set i (nh r u (r.getD p 0)):=by
 refine bT fun j=>?_;have D:=(aE.1 h).1;by_cases hj:i=j
 .subst hj;rw[aT (by rw[gU];exact D),iA,List.getElem?_mapIdx,h];exact congrArg some (aM (bc i))
 .rw[aY hj,iA,iA,List.getElem?_mapIdx,List.getElem?_mapIdx]
  cases F'[j]? with
  |none=>rfl
  |some r=>
   have e:(j<i+1)↔(j<i):=by omega
   simp only[bw,e]
theorem Mh{F':List (List Rat)}{u:List Rat}{p i n:Nat}(h:fz n F'):fz n (iA F' u p i):=fun r hr=>by
 obtain⟨j,hj⟩:=aU hr;rw[iA,List.getElem?_mapIdx]at hj
 cases hE:F'[j]? with
 |none=>rw[hE]at hj;cases hj
 |some x=>
  rw[hE]at hj;have U:=h x (aC hE);simp only[bw,Option.some.injEq]at hj;subst hj;split
  .rw[wS];exact U
  .exact U
theorem wU.start(n cols:Nat):wU n cols 0 ([],List.replicate cols none,[]):=
 ⟨(fun r hr=>by cases hr),bD ..,rfl,(fun (k r:Nat) h=>by rw[List.getElem?_replicate]at h;split at h<;>cases h),aP _,fun j hj=>by cases hj⟩
theorem wU.step{n cols i:Nat}{s:AP}(h:wU n cols i s){row:List Rat}(hr:row.length=n):wU n cols (i+1) (lO cols s i row):=by
 unfold lO;dsimp only
 split
 .exact⟨h.len,h.at_,h.yJ,h.lt,Nat.le_succ_of_le h.le,fun j hj=>Nat.lt_succ_of_lt (h.fr j hj)⟩
 .refine⟨fun r hm=>?_,by simp[h.at_],by simp[h.yJ,gU],fun k r K=>?_,?_,fun j hj=>?_⟩
  .rcases bG.1 hm with hm|hm
   .exact Mh h.len r hm
   .rw[bK]at hm;subst hm;rw[aL,jF,hr]
  .dsimp only at K ⊢;rw[aQ,gU,bC];rw[List.getElem?_set]at K;split at K
   .split at K
    .injection K with K;injection K with K;omega
    .cases K
   .have:=h.lt k r K;omega
  .dsimp only
   rw[aQ,gU,bC];have:=h.le;omega
  .rcases bG.1 hj with hj|hj
   .exact Nat.lt_succ_of_lt (h.fr j hj)
   .rw[bK]at hj;omega
theorem CB{M:List (List Rat)}{n:Nat}(cols:Nat)(hM:fz n M):∀i,i<=M.length->wU n cols i (iu M cols i)
 |0,_=>wU.start n cols
 |i+1,D=>by
  have hm:=aD (l:=M) (show i<M.length by omega);refine(CB cols hM i be).step ?_;rw[List.getD,hm];exact hM _ (aC hm)
structure eh where
 nodes:List (Int×Int×Int)
 bars:List (Int×Int×Rat)
 dB:List (Int×Int×Rat)
def eh.cols(f:eh):Nat:=f.bars.length+f.dB.length
def eh.node(f:eh)(n:Int):Int×Int×Int:=f.nodes.getD n.toNat (0,0,0)
def j5(f:eh)(b:Int×Int×Rat):List Int:=[(f.node b.2.1).1-(f.node b.1).1,(f.node b.2.1).2.1-(f.node b.1).2.1,(f.node b.2.1).2.2-(f.node b.1).2.2]
def wV(M:List (List Int))(r c:Nat)(d:Int):List (List Int):=M.set r ((M.getD r []).set c ((M.getD r []).getD c 0+d))
def putAt(M:List (List Int))(r c:Nat)(d:Int):List (List Int):=M.set r ((M.getD r []).set c d)
def eo(f:eh)(M:List (List Int))(i:Nat):Nat->List (List Int)
 |0=>M
 |k+1=>
  let b:=f.bars.getD i (0,0,0)
  let d:=(j5 f b).getD k 0
  wV (wV (eo f M i k) (3*b.1+k).toNat i d) (3*b.2.1+k).toNat i (-d)
def dx(f:eh):Nat->List (List Int)
 |0=>List.replicate (3*f.nodes.length) (List.replicate f.cols 0)
 |i+1=>eo f (dx f i) i 3
def fY(f:eh):Nat->List (List Int)
 |0=>dx f f.bars.length
 |i+1=>
  let s:=f.dB.getD i (0,0,0)
  putAt (fY f i) (3*s.1+s.2.1).toNat (f.bars.length+i) 1
def iW(f:eh):List (List Int):=fY f f.dB.length
def dQ(l:List Int):List Rat:=l.map fun(n:Int)=>(n:Rat)
def c9(f:eh):List (List Rat):=(iW f).map dQ
def eA(M:List (List Rat))(cols:Nat):List (List Rat):=(List.range cols).map fun k=>M.map fun r=>r.getD k 0
abbrev Ld:=Int×Int×Int×Int
def LS(s:List Int)(r:Nat)(d:Int):List Int:=s.set r (s.getD r 0+d)
def eI(l:List Rat)(b:Rat):List Rat:=l.map (· *b)
def fu(a b:List Rat):List Rat:=a.mapIdx fun i x=>x*b.getD i 0
def dM(f:eh):List Rat:=f.bars.map (·.2.2)++f.dB.map (·.2.2)
def ku(M:List (List Rat))(b:List Rat):List (List Rat):=M.mapIdx fun i r=>r++[b.getD i 0]
def mT(M:List (List Rat))(cols:Nat):List (List Rat):=fF (dh M cols).1 (dh M cols).2.1 cols cols
def qA(M:List (List Rat))(b:List Rat)(cols:Nat):Option (List Rat):=
 let e:=dh (ku M b) (cols+1)
 if cols∈e.2.1 then none else some (iU e.1 e.2.1 cols e.2.1.length)
def fJ(st:List (List Rat))(fl:List Rat):List (List Rat):=st.map fun s=>st.map fun r=>fD (fu s fl) r s.length
def iP(st:List (List Rat))(fl x:List Rat):List Rat:=st.map fun s=> -(fD (fu s fl) x s.length)
def mu(st:List (List Rat))(c x:List Rat):Nat->List Rat
 |0=>x
 |i+1=>(mu st c x i).mapIdx fun k q=>q+c.getD i 0*(st.getD i []).getD k 0
def gH:eh:=⟨[(0,0,0),(0,0,4),(3,0,0)],[(0,2,1),(1,2,1)],[(0,0,0),(0,1,0),(0,2,0),(1,0,0),(1,1,0),(1,2,0),(2,1,0)]⟩
def Ib(B:Nat)(q:Rat):Prop:=∃z:Int,q=(z:Rat)/\z.natAbs<=B
theorem Ib.mono(h:Ib B q)(k:B<=C):Ib C q:=let⟨z,e,b⟩:=h;⟨z,e,aX b k⟩
theorem Ib.add{p:Rat}(h:Ib B p)(k:Ib C q):Ib (B+C) (p+q):=by
 obtain⟨z,rfl,b⟩:=h;obtain⟨y,rfl,c⟩:=k;exact⟨z+y,by rw[Rat.intCast_add],be⟩
theorem Ib.mul{p:Rat}(h:Ib B p)(k:Ib C q):Ib (B*C) (p*q):=by
 obtain⟨z,rfl,b⟩:=h;obtain⟨y,rfl,c⟩:=k;exact⟨z*y,by rw[Rat.intCast_mul],by rw[Int.natAbs_mul];exact Nat.mul_le_mul b c⟩
theorem Ib.neg{p:Rat}(h:Ib B p):Ib B (-p):=by
 obtain⟨z,rfl,b⟩:=h;exact⟨-z,by rw[Rat.intCast_neg],be⟩
theorem Ib.sub{p:Rat}(h:Ib B p)(k:Ib C q):Ib (B+C) (p-q):=by rw[Rat.sub_eq_add_neg];exact h.add k.neg
theorem Ib.zero(B:Nat):Ib B 0:=⟨0,rfl,aR _⟩
theorem Ib.one(h:1<=B):Ib B 1:=⟨1,rfl,h⟩
theorem Ib.int{z:Int}(h:z.natAbs<=B):Ib B (z:Rat):=⟨z,rfl,h⟩
theorem Ib.sum{B:Nat}{f:Nat->Rat}:∀(n:Nat),(∀k,k<n->Ib B (f k))->Ib (n*B) (dC f n)
 |0,_=>Ib.zero _
 |n+1,h=>by rw[dC,Nat.succ_mul];exact(Ib.sum n fun k K=>h k be).add (h n be)
def fB(B:Nat):Nat->Nat
 |0=>1
 |n+1=>(n+1)*(B*fB B n)
theorem Ib.l6{k:Nat}(h:Ib B q):Ib B (l6 k*q):=by
 unfold Go.Ex.l6;split
 .rw[show (-1:Rat)*q= -q by grind];exact h.neg
 .rw[bs];exact h
theorem Ib.det{B:Nat}:∀(n:Nat) {m:Mx},(∀i j,i<n->j<n->Ib B (m i j))->Ib (fB B n) (eO n m)
 |0,_,_=>Ib.one (aP _)
 |n+1,m,h=>by
  unfold eO fB;exact Ib.sum (n+1) fun k K=>((h 0 k be K).mul (Ib.det n fun i j D hj=>h (i+1) (skip k j) be (Fw hj))).l6
theorem LU(B n:Nat):B*fB B n<=fB B (n+1):=Nat.le_mul_of_pos_left _ (Nat.succ_pos n)
theorem aBd(h:1<=B)(n:Nat):fB B n<=fB B (n+1):=aX (Nat.le_mul_of_pos_left _ h) (LU B n)
theorem tQ{B a:Nat}(h:1<=B):∀{b:Nat},a<=b->fB B a<=fB B b
 |0,k=>by rw[Nat.le_zero.1 k];exact aP _
 |b+1,k=>by
  rcases aS b a with I|I
  .rw[show a=b+1 by omega];exact aP _
  .exact aX (tQ h I) (aBd h b)
theorem aCZ{B Fn:Nat}:∀{n:Nat},n<=Fn->fB B n<=(Fn*B)^n
 |0,_=>aP _
 |n+1,h=>by
  rw[fB,Nat.pow_succ,<-bz,bl _ (Fn*B)];exact Nat.mul_le_mul (Nat.mul_le_mul_right B h) (aCZ be)
theorem aC0{Fn l n:Nat}(W:n<=Fn)(h:Fn*B<=wt l):ln (fB B n)<=l*n+1:=by
 rw[gg,ji];have I:=aX (aCZ (B:=B) W) (Nat.pow_le_pow_left h n);rw[yS,<-Nat.pow_mul]at I;have G:=yS (l*n);have h3:=yR (l*n);rw[show 32*l*n=32*(l*n) by rw[bz]]at I;omega
theorem tR{GE:Nat}{Fd:Rat}(h0:Fd≠0)(hD:Ib GE Fd)(hq:Ib GE (Fd*q)):rl q<=ln GE:=by
 obtain⟨d,rfl,b⟩:=hD;obtain⟨z,e,c⟩:=hq;have hd:d≠0:=fun e=>h0 (by rw[e];rfl);have e2:q=Rat.divInt z d:=by
  rw[Rat.divInt_eq_div,<-e,bh,cB (d:Rat) q,Rat.mul_assoc,Rat.mul_inv_cancel _ h0,Rat.mul_one]
 have:=lF (a:=z) hd;have:=fq b;have:=fq c;rw[e2];omega
theorem Mj{n:Nat}(h:r<n):eO n (iL m r fun _=>0)=0:=by
 have I:=mq 1 n r m h (fun _=>0) fun _=>0;rw[show (fun _:Nat=>(0:Rat)+1*0)=fun _=>0 from funext fun _=>by grind]at I;grind
theorem CE{n r:Nat}{m:Mx}(h:r<n)(c:Nat->Rat)(v:Nat->Nat->Rat):∀s,eO n (iL m r fun j=>dC (fun k=>c k*v k j) s)=dC (fun k=>c k*eO n (iL m r (v k))) s
 |0=>Mj h
 |s+1=>by
  have I:=mq (c s) n r m h (fun j=>dC (fun k=>c k*v k j) s) (v s);rw[CE h c v s]at I;exact I
theorem LV{n a b:Nat}(hb:b<n)(QV:a<b)(L:∀j,j<n->m a j=m b j):eO n m=0:=by
 obtain⟨b,rfl⟩:∃k,b=k+1:=⟨b-1,be⟩
 cases a with
 |zero=>exact mr b n m hb L
 |succ a=>
  have I:=Eb (m:=m) (k:=a) (n:=n) be;rw[mr b n _ hb fun j hj=>?_]at I
  .grind
  .rw[show mS 0 (a+1) 0=a+1 by unfold mS;rw[aM rfl],show mS 0 (a+1) (b+1)=b+1 by unfold mS;rw[aJ be,aJ be]];exact L j hj
theorem Hv{n a b:Nat}(ha:a<n)(hb:b<n)(QV:a≠b)(L:∀j,j<n->m a j=m b j):eO n m=0:=by
 rcases Nat.lt_or_gt_of_ne QV with h|h
 .exact LV hb h L
 .exact LV ha h fun j hj=>(L j hj).symm
section
variable{F' F9:Mx}{p:Nat->Nat}{r n:Nat}{v:Nat->Rat}
theorem Ru.coeff(h:Ru F' p r n)(hv:ef F' r n v):∀t,t<n->v t=dC (fun i=>v (p i)*F' i t) r:=by
 obtain⟨c,hc⟩:=hv;intro t ht;rw[hc t ht];refine cT fun i D=>?_;rw[hc (p i) (h.lt i D),ed D fun k K Ox=>by rw[h.unit i k D K,aJ Ox,bF],h.unit i i D D,aM rfl,Rat.mul_one]
def wW(F9:Mx)(p:Nat->Nat)(r:Nat):Rat:=eO r fun j i=>F9 (r-1-i) (p (r-1-j))
theorem aCr(h:Ru F' p r n)(hZ:∀i,i<r->ef F' r n (F9 i)){k:Nat}(K:k<r)(ht:t<n):
  wW F9 p r*F' k t=eO r (iL (fun j i=>F9 (r-1-i) (p (r-1-j))) (r-1-k) fun i=>F9 (r-1-i) t):=by
 have e:∀i j,i<r->j<r->iL (fun j i=>F9 (r-1-i) (p (r-1-j))) (r-1-k) (fun i=>F9 (r-1-i) t) i j=iL (fun j i=>F9 (r-1-i) (p (r-1-j))) (r-1-k) (fun i=>dC (fun j=>F' j t*F9 (r-1-i) (p j)) r) i j:=fun i j D hj=>by
  unfold iL;split
  .show F9 (r-1-j) t=dC (fun l=>F' l t*F9 (r-1-j) (p l)) r;rw[h.coeff (hZ (r-1-j) be) t ht];exact cT fun l _=>cB _ _
  .rfl
 rw[fM e,CE (v:=fun k i=>F9 (r-1-i) (p k)) be,ed K fun j hj Ox=>?_]
 .rw[show iL (fun j i=>F9 (r-1-i) (p (r-1-j))) (r-1-k) (fun i=>F9 (r-1-i) (p k))=fun j i=>F9 (r-1-i) (p (r-1-j))from ?_]
  .rw[wW,cB]
  .funext i j
   unfold iL;split
   .rename_i D;rw[D,show r-1-(r-1-k)=k by omega]
   .rfl
 .rw[Hv (a:=r-1-k) (b:=r-1-j) be be be fun i D=>?_,bF];unfold iL;rw[aM rfl,aJ be];show F9 (r-1-i) (p j)=F9 (r-1-i) (p (r-1-(r-1-j)));rw[show r-1-(r-1-j)=j by omega]
theorem aCs(h:Ru F' p r n)(hZ:∀i,i<r->ef F' r n (F9 i))(ht:t<n):
  eO (r+1) (fun j i=>if j=0 then F9 (r-i) t else F9 (r-i) (p (r-j)))=nU F' p r (F9 r) n t*wW F9 p r:=by
 obtain⟨m,hm⟩:∃m:Mx,m=fun j i=>if j=0 then F9 (r-i) t else F9 (r-i) (p (r-j)):=⟨_,rfl⟩
 obtain⟨w,V⟩:∃w:Nat->Rat,w=fun i=>if i=0 then nU F' p r (F9 r) n t else 0:=⟨_,rfl⟩
 rw[<-hm];have Ov:∀j,j<r->∀i,m (r-j) i=F9 (r-i) (p j):=fun j hj i=>by rw[hm];simp only;rw[aJ be,show r-(r-j)=j by omega]
 have e:∀i j,i<r+1->j<r+1->m i j=iL m 0 (fun i=>w i+1*dC (fun j=>F' j t*m (r-j) i) r) i j:=fun i j D hj=>by
  unfold iL;split
  .rename_i h0;subst h0;show m 0 j=w j+1*dC (fun l=>F' l t*m (r-l) j) r;rw[cT (g:=fun l=>F' l t*F9 (r-j) (p l)) fun l hl=>by rw[Ov l hl],bs,V];simp only
   by_cases hj0:j=0
   .rw[aM hj0,hj0,hm];simp only[aM,Nat.sub_zero]
    unfold nU;rw[cT (f:=fun i=>if p i<n then F9 r (p i)*F' i t else 0) (g:=fun i=>F' i t*F9 r (p i)) fun l hl=>by rw[aM (h.lt l hl),cB]];grind
   .rw[aJ hj0,Rat.zero_add,hm];simp only[aM]
    rw[h.coeff (hZ (r-j) be) t ht];exact cT fun l _=>cB _ _
  .rfl
 rw[fM e,mq 1 (r+1) 0 m be,CE (v:=fun k i=>m (r-k) i) be,cT (g:=fun _=>0) fun j hj=>?_,df,bF,bV]
 .rw[eO,ed (i:=0) be fun k K Ox=>?_]
  .unfold iL;rw[aM rfl,V];simp only[aM]
   rw[show l6 0=1 by decide,bs,wW,fM fun i j D hj=>?_];rw[aJ be,hm];simp only
   rw[aJ be,show skip 0 j=j+1 by unfold skip;rw[aJ be],show r-(j+1)=r-1-j by omega,show r-(i+1)=r-1-i by omega]
  .unfold iL;rw[aM rfl,V];simp only
   rw[aJ Ox,bI,bF]
 .rw[Hv (a:=0) (b:=r-j) be be be fun i _=>?_,bF];unfold iL;rw[aM rfl,aJ be]
theorem aBe(d:Rat)(k t:Nat):nU F' p r (fun t=>d*v t) k t=d*nU F' p r v k t:=by
 unfold nU;rw[cT (g:=fun i=>d*if p i<k then v (p i)*F' i t else 0) fun i _=>?_,ec]
 .grind
 .split
  .rw[Rat.mul_assoc]
  .rw[bF]
theorem aBf(h:Ru F' p r n)(U:ef F' r n fun t=>v t+ -(x t))(h0:∀i,i<r->x (p i)=0)(ht:t<n):x t=nU F' p r v n t:=by
 have I:=h.coeff U t ht;unfold nU;rw[cT (g:=fun i=>v (p i)*F' i t) fun i D=>aM (h.lt i D)];rw[cT (g:=fun i=>v (p i)*F' i t) fun i D=>by rw[h0 i D];grind]at I;grind
end
structure CF(F':Mx)(p:Nat->Nat)(r n B:Nat)(F9:Mx):Prop where
 ru:Ru F' p r n
 sp:∀i,i<r->ef F' r n (F9 i)
 ib:∀i t,i<r->t<n->Ib B (F9 i t)
 nz:wW F9 p r≠0
section
variable{F' F9:Mx}{p:Nat->Nat}{r n B k:Nat}{v u:Nat->Rat}
theorem CF.start(F' F9:Mx)(p:Nat->Nat)(n B:Nat):CF F' p 0 n B F9:=
 ⟨⟨fun _ h=>be,fun _ _ h=>be,fun _ _ h=>be,fun _ _ h=>be⟩,fun _ h=>be,fun _ _ h=>be,by show(1:Rat)≠0;decide⟩
theorem CF.push(h:CF F' p r n B F9)(hd:d≠0)(hz:∀t,t<n->Ib B (d*v t))(hu:∀t,t<n->u t=nU F' p r v n t)(K:k<n)(h0:u k≠0)(hl:∀t,t<k->u t=0):
  CF (mD F' r u k) (fun i=>if i=r then k else p i) (r+1) n B fun i t=>if i=r then d*v t else F9 i t:=by
 refine⟨h.ru.push K (fun i D=>by rw[hu _ (h.ru.lt i D),LP h.ru D]) h0 hl,fun i D=>?_,fun i t D ht=>?_,?_⟩
 .by_cases I:i=r
  .exact((Ef h0 hu h.ru.lt).mul d).congr fun t _=>by simp only[aM I];rw[cB]
  .exact((h.sp i be).trans fun j hj=>tP h0 j hj).congr fun t _=>by simp only[aJ I]
 .by_cases I:i=r
  .simp only[aM I];exact hz t ht
  .simp only[aJ I];exact h.ib i t be ht
 .have hb:=aCs (F9:=fun i t=>if i=r then d*v t else F9 i t) h.ru (fun i D=>(h.sp i D).congr fun t _=>by simp only[aJ (Nat.ne_of_lt D)]) K;have e1:wW (fun i t=>if i=r then d*v t else F9 i t) p r=wW F9 p r:=fM fun i j D hj=>by simp only;rw[aJ be]
  simp only[aM]at hb;rw[aBe,<-hu k K,e1]at hb;have e2:wW (fun i t=>if i=r then d*v t else F9 i t) (fun i=>if i=r then k else p i) (r+1)=d*u k*wW F9 p r:=by
   rw[<-hb];refine fM fun i j D hj=>?_;by_cases I:i=0
   .subst I;simp only[if_true]
    rw[aM (show r+1-1-0=r by omega),show r+1-1-j=r-j by omega]
   .simp only[aJ I]
    rw[aJ (show ¬r+1-1-i=r by omega),show r+1-1-j=r-j by omega,show r+1-1-i=r-i by omega]
  rw[e2];have Pj:∀{a b:Rat},a≠0->b≠0->a*b≠0:=fun ha hb e=>by
   rcases Rat.mul_eq_zero.1 e with h|h
   .exact ha h
   .exact hb h
  exact Pj (Pj hd h0) h.nz
theorem CF.den(h:CF F' p r n B F9):Ib (fB B r) (wW F9 p r):=Ib.det r fun i j D hj=>h.ib _ _ be (h.ru.lt _ be)
theorem CF.ent(h:CF F' p r n B F9){i:Nat}(D:i<r)(ht:t<n):Ib (fB B r) (wW F9 p r*F' i t):=by
 rw[aCr h.ru h.sp D ht];refine Ib.det r fun j l hj hl=>?_;unfold iL;split
 .exact h.ib _ _ be ht
 .exact h.ib _ _ be (h.ru.lt _ be)
theorem CF.Of(h:CF F' p r n B F9){i:Nat}(D:i<r)(ht:t<n):rl (F' i t)<=ln (fB B r):=tR h.nz h.den (h.ent D ht)
theorem CF.nU(h:CF F' p r n B F9)(hz:∀t,t<n->Ib B (d*v t))(k:Nat)(ht:t<n):Ib (fB B (r+1)) (d*wW F9 p r*nU F' p r v k t):=by
 unfold Go.Ex.nU;rw[show ∀a b c s:Rat,a*b*(c-s)=b*(a*c)-(a*b)*s from fun a b c s=>by grind,<-ec,fB,Nat.succ_mul,Nat.add_comm];refine Ib.sub (by rw[bl B];exact h.den.mul (hz t ht)) (Ib.sum r fun i D=>?_);split
 .rw[show ∀a b c s:Rat,a*b*(c*s)=(a*c)*(b*s)from fun a b c s=>by grind];exact(hz _ (h.ru.lt i D)).mul (h.ent D ht)
 .rw[bF];exact Ib.zero _
theorem CF.Og(h:CF F' p r n B F9)(hB:1<=B)(hd:d≠0)(hdB:Ib B d)(hz:∀t,t<n->Ib B (d*v t))(k:Nat)(ht:t<n):Go.Ex.rl (Go.Ex.nU F' p r v k t)<=ln (fB B (r+1)):=
 tR (fun e=>by rcases Rat.mul_eq_zero.1 e with e|e;exact hd e;exact h.nz e) ((hdB.mul h.den).mono (LU B r)) (h.nU hz k ht)
end
def GA(M:List (List Rat))(n B:Nat):Prop:=∀j,j<M.length->∃d:Rat,d≠0/\Ib B d/\∀t,t<n->Ib B (d*dF M j t)
theorem ef.Jp{n:Nat}(h:ef F' r n v)(e:∀i t,i<r->t<n->Do i t=F' i t):ef Do r n v:=by
 obtain⟨c,hc⟩:=h;exact⟨c,fun t ht=>by rw[hc t ht];exact cT fun i D=>by rw[e i t D ht]⟩
theorem ef.more{s n:Nat}(h:ef F' r n v)(k:r<=s):ef F' s n v:=h.trans fun i D=>ef.row (Nat.lt_of_lt_of_le D k)
theorem Ru.congr{q:Nat->Nat}{n:Nat}(h:Ru F' p r n)(e:∀i t,i<r->t<n->Do i t=F' i t)(ep:∀i,i<r->q i=p i):Ru Do q r n:=
 ⟨fun i D=>by rw[ep i D];exact h.lt i D,fun i j D hj k=>h.inj i j D hj (by rw[<-ep i D,<-ep j hj];exact k),fun i j D hj=>by rw[ep i D,e j _ hj (h.lt i D)];exact h.unit i j D hj,
  fun i t D ht=>by rw[ep i D]at ht;rw[e i t D (by have:=h.lt i D;omega)];exact h.lead i t D ht⟩
theorem CF.congr{F9 AC:Mx}{q:Nat->Nat}{n:Nat}(h:CF F' p r n B F9)(e:∀i t,i<r->t<n->Do i t=F' i t)(ep:∀i,i<r->q i=p i)(eZ:∀i t,i<r->t<n->AC i t=F9 i t):CF Do q r n B AC:=by
 refine⟨h.ru.congr e ep,fun i D=>((h.sp i D).congr fun t ht=>eZ i t D ht).Jp e,fun i t D ht=>by rw[eZ i t D ht];exact h.ib i t D ht,?_⟩;rw[show wW AC q r=wW F9 p r from fM fun i j D hj=>by rw[ep _ be,eZ _ _ be (h.ru.lt _ be)]];exact h.nz
theorem CG(row:List Rat):∀f k,k<=qn row f k/\qn row f k<=k+f/\(∀t,k<=t->t<qn row f k->row.getD t 0=0)/\(qn row f k<k+f->row.getD (qn row f k) 0≠0)
 |0,k=>by
  unfold qn;exact⟨aP _,aP _,fun t I G=>be,fun h=>be⟩
 |f+1,k=>by
  unfold qn;split
  .rename_i h;obtain⟨I,G,h3,h4⟩:=CG row f (k+1);refine⟨be,be,fun t k1 k2=>?_,fun h5=>h4 be⟩;rcases aS k t with h5|h5
   .exact h3 t h5 k2
   .rw[show t=k by omega];exact h
  .rename_i h;exact⟨aP _,be,fun t I G=>be,fun _=>h⟩
theorem Mk(row:List Rat)(n:Nat):wT row n<=n/\(∀t,t<wT row n->row.getD t 0=0)/\(wT row n≠n->row.getD (wT row n) 0≠0):=by
 obtain⟨_,G,h3,h4⟩:=CG row n 0;unfold wT;exact⟨be,fun t h=>h3 t (aR _) h,fun h=>h4 be⟩
theorem Ml(y:List Rat)(q:Rat)(t:Nat):(y.map (· / q)).getD t 0=y.getD t 0 / q:=by
 simp only[List.getD,aO]
 cases y[t]? with
 |none=>show(0:Rat)=0 / q;rw[bh,bI]
 |some x=>rfl
structure Jq(M:List (List Rat))(n B i:Nat)(s:AP)(p:Nat->Nat)(F9:Mx):Prop where
 ok:wU n n i s
 piv:∀k,k<n->∀r:Nat,s.2.1[k]? =some (some r)↔r<s.1.length/\p r=k
 CH:CF (dF s.1) p s.1.length n B F9
 up:∀r,r<s.1.length->ef (dF M) i n (dF s.1 r)
 dn:∀j,j<i->ef (dF s.1) s.1.length n (dF M j)
section
variable{M:List (List Rat)}{n B i:Nat}{s:AP}{p:Nat->Nat}{F9:Mx}
theorem Jq.nU(h:Jq M n B i s p F9){x:List Rat}(U:x.length=n):∀k,k<=n->∀t,t<n->(gR s.1 s.2.1 x k).getD t 0=nU (dF s.1) p s.1.length (fun t=>x.getD t 0) k t
 |0,_,t,ht=>by rw[OY];rfl
 |k+1,K,t,ht=>by
  have ih:=Jq.nU h U k be;obtain⟨o,ho⟩:∃o,s.2.1[k]? =some o:=⟨_,aD (by rw[h.ok.at_];omega)⟩
  have hd:s.2.1.getD k none=o:=by rw[List.getD,ho];rfl
  rw[gR,hd]
  cases o with
  |none=>
   simp only
   rw[ih t ht,OZ fun r hr e=>?_];have:=(h.piv k be r).2 ⟨hr,e⟩;rw[ho]at this
   cases this
  |some r=>
   simp only
   obtain⟨hr,e⟩:=(h.piv k be r).1 ho;rw[nh,yT (by rw[jF,U];exact ht),ih t ht,ih k be,<-e,Oa h.CH.ru hr];rfl
theorem Jq.step(h:Jq M n B i s p F9)(hM:fz n M)(D:i<M.length){d:Rat}(hd:d≠0)(hz:∀t,t<n->Ib B (d*dF M i t)):
  ∃p' Z',Jq M n B (i+1) (lO n s i (M.getD i [])) p' Z':=by
 have U:(M.getD i []).length=n:=hM.getD D;have Oz:=h.ok.step U;obtain⟨y,hy⟩:∃y,gR s.1 s.2.1 (M.getD i []) n=y:=⟨_,rfl⟩
 have hu:∀t,t<n->y.getD t 0=Go.Ex.nU (dF s.1) p s.1.length (dF M i) n t:=fun t ht=>by rw[<-hy];exact h.nU U n (aP _) t ht
 have hyl:y.length=n:=by rw[<-hy,jF,U]
 obtain⟨q1,q2,q3⟩:=Mk y n;by_cases hq:wT y n=n
 .have e:lO n s i (M.getD i [])=s:=by unfold lO;simp only[hy,hq,if_true]
  rw[e]at Oz ⊢;refine⟨p,F9,Oz,h.piv,h.CH,fun r hr=>(h.up r hr).more (Nat.le_succ i),fun j hj=>?_⟩;rcases aS j i with I|I
  .exact h.dn j I
  .rw[show j=i by omega];refine⟨fun j=>dF M i (p j),fun t ht=>?_⟩;have G:=hu t ht;rw[q2 t be]at G;unfold Go.Ex.nU at G;rw[cT (g:=fun j=>dF M i (p j)*dF s.1 j t) fun j hj=>aM (h.CH.ru.lt j hj)]at G;grind
 .have h0:=q3 hq;obtain⟨k,K⟩:∃k,wT y n=k:=⟨_,rfl⟩
  rw[K]at hq h0 q1 q2;have Vy:k<n:=by omega
  have e:lO n s i (M.getD i [])=(iA s.1 (y.map (· / y.getD k 0)) k s.1.length++[y.map (· / y.getD k 0)],s.2.1.set k (some s.1.length),s.2.2++[i]):=by
   unfold lO;simp only[hy,K,aJ hq]
  rw[e]at Oz ⊢;have hl:(iA s.1 (y.map (· / y.getD k 0)) k s.1.length).length=s.1.length:=gU ..;have S4:(iA s.1 (y.map (· / y.getD k 0)) k s.1.length++[y.map (· / y.getD k 0)]).length=s.1.length+1:=by rw[aQ,hl];rfl
  have hdv:∀t,t<n->(y.map (· / y.getD k 0)).getD t 0=y.getD t 0 / y.getD k 0:=fun t _=>Ml y _ t;have hE:∀a t,a<s.1.length+1->t<n->dF (iA s.1 (y.map (· / y.getD k 0)) k s.1.length++[y.map (· / y.getD k 0)]) a t=mD (dF s.1) s.1.length (fun t=>y.getD t 0) k a t:=fun a t ha ht=>by
   unfold mD;by_cases I:a=s.1.length
   .rw[aM I,<-hdv t ht,dF];congr 1;rw[List.getD,aN be,hl,I,bO];rfl
   .have RT:a<s.1.length:=by omega
    have hr:=aD RT;have PN:(s.1[a]).length=n:=h.ok.len _ (bA RT);have X:s.1.getD a []=s.1[a]:=by rw[List.getD,hr];rfl
    have Ov:(iA s.1 (y.map (· / y.getD k 0)) k s.1.length++[y.map (· / y.getD k 0)]).getD a []=nh s.1[a] (y.map (· / y.getD k 0)) ((s.1[a]).getD k 0):=by
     rw[List.getD,aI be,iA,List.getElem?_mapIdx,hr];simp only[bw,Option.getD_some,aM RT]
    rw[aJ I,dF,Ov,nh,yT be,hdv t ht];unfold dF;rw[X]
  have hC:=h.CH.push hd hz hu Vy h0 q2;have Uo:=aCq (v:=dF M i) hu h.CH.ru.lt;refine⟨fun i=>if i=s.1.length then k else p i,fun a t=>if a=s.1.length then d*dF M i t else F9 a t,Oz,?_,?_,?_,?_⟩
  .intro c hc r;dsimp only
   rw[S4];have Ox:∀j,j<s.1.length->p j≠k:=fun j hj e=>h0 (by rw[hu k Vy,<-e];exact LP h.CH.ru hj);by_cases I:c=k
   .rw[I,aT (by rw[h.ok.at_];exact Vy)];constructor
    .intro e;injection e with e;injection e with e;exact⟨be,by rw[aM e.symm]⟩
    .rintro⟨G,h3⟩;by_cases h4:r=s.1.length
     .rw[h4]
     .rw[aJ h4]at h3;exact absurd h3 (Ox r be)
   .rw[aY (Ne.symm I),h.piv c hc r];constructor
    .rintro⟨G,h3⟩;exact⟨be,by rw[aJ be];exact h3⟩
    .rintro⟨G,h3⟩;by_cases h4:r=s.1.length
     .rw[aM h4]at h3;exact absurd h3.symm I
     .rw[aJ h4]at h3;exact⟨be,h3⟩
  .dsimp only
   rw[S4];exact hC.congr hE (fun _ _=>rfl) fun _ _ _ _=>rfl
  .dsimp only
   rw[S4];intro a ha;refine((Oc (k:=k) Uo a ha).trans fun b hb=>?_).congr fun t ht=>hE a t ha ht;by_cases I:b=s.1.length
   .exact(ef.row (show i<i+1 by omega)).congr fun t _=>by unfold kr;rw[aM I]
   .exact((h.up b be).more (Nat.le_succ i)).congr fun t _=>by unfold kr;rw[aJ I]
  .dsimp only
   rw[S4];intro j hj;refine ef.Jp ?_ hE;rcases aS j i with I|I
   .exact(h.dn j I).trans fun b hb=>tP h0 b hb
   .rw[show j=i by omega];exact Ef h0 hu h.CH.ru.lt
end
theorem tS{M:List (List Rat)}{n B:Nat}(hM:fz n M)(hW:GA M n B):∀i,i<=M.length->∃p F9,Jq M n B i (iu M n i) p F9
 |0,_=>⟨fun _=>0,fun _ _=>0,wU.start n n,fun k _ r=>⟨fun h=>(by
   simp only[iu,List.getElem?_replicate]at h
   split at h<;>cases h),fun h=>(by have:=h.1;simp[iu]at this)⟩,CF.start _ _ _ _ _,fun r h=>(by simp[iu]at h),fun j h=>be⟩
 |i+1,D=>by
  obtain⟨p,F9,h⟩:=tS hM hW i be;obtain⟨d,hd,-,hz⟩:=hW i be;exact h.step hM be hd hz
theorem Oh{n:Nat}(hM:fz n M)(hW:GA M n B)(hB:1<=B){i:Nat}(D:i<=M.length):∀r∈(iu M n i).1,∀q∈r,rl q<=ln (fB B M.length):=fun r hr q hq=>by
 obtain⟨p,F9,h⟩:=tS hM hW i D;obtain⟨a,ha⟩:=aU hr;obtain⟨t,ht⟩:=aU hq;have RT:=(aE.1 ha).1;have TR:=(aE.1 ht).1;rw[h.ok.len r hr]at TR;have I:=h.CH.Of RT TR;rw[dF,show(iu M n i).1.getD a []=r by rw[List.getD,ha];rfl,show r.getD t 0=q by rw[List.getD,ht];rfl]at I;exact aX I (fq (tQ hB (aX h.ok.le D)))
theorem Oi{n:Nat}(hM:fz n M)(hW:GA M n B)(hB:1<=B){i k:Nat}(D:i<M.length)(K:k<=n):∀q∈gR (iu M n i).1 (iu M n i).2.1 (M.getD i []) k,rl q<=ln (fB B M.length):=fun q hq=>by
 obtain⟨p,F9,h⟩:=tS hM hW i be;have U:(M.getD i []).length=n:=hM.getD D;obtain⟨t,ht⟩:=aU hq;have TR:=(aE.1 ht).1;rw[jF,U]at TR;have I:=h.nU U k K t TR;rw[show (gR (iu M n i).1 (iu M n i).2.1 (M.getD i []) k).getD t 0=q by rw[List.getD,ht];rfl]at I;obtain⟨d,hd,hdB,hz⟩:=hW i D;rw[I];exact aX (h.CH.Og hB hd hdB hz k TR) (fq (tQ hB (by have:=h.ok.le;omega)))
theorem Eg{s:AP}:∀k,(dW s k).1.length=(dW s k).2.1.length/\(∀i,i<(dW s k).2.1.length->∃r:Nat,s.2.1[(dW s k).2.1.getD i 0]? =some (some r)/\(dW s k).1.getD i []=s.1.getD r []/\(dW s k).2.1.getD i 0<k)/\
  (∀i j,i<j->j<(dW s k).2.1.length->(dW s k).2.1.getD i 0<(dW s k).2.1.getD j 0)/\∀q,q<k->∀r:Nat,s.2.1[q]? =some (some r)->∃i,i<(dW s k).2.1.length/\(dW s k).2.1.getD i 0=q
 |0=>⟨rfl,fun i h=>(by cases h),fun i j _ h=>(by cases h),fun q h=>be⟩
 |k+1=>by
  obtain⟨I,G,h3,h4⟩:=Eg (s:=s) k;have step:(∃r:Nat,s.2.1[k]? =some (some r)/\dW s (k+1)=((dW s k).1++[s.1.getD r []],(dW s k).2.1++[k],(dW s k).2.2++[s.2.2.getD r 0]))\/((∀r:Nat,s.2.1[k]? ≠some (some r))/\dW s (k+1)=dW s k):=by
   rw[dW]
   cases ho:s.2.1[k]? with
   |none=>exact .inr ⟨fun r e=>(by cases e),by rw[show s.2.1.getD k none=none by rw[List.getD,ho];rfl]⟩
   |some o=>cases o with
    |none=>exact .inr ⟨fun r e=>(by cases e),by rw[show s.2.1.getD k none=none by rw[List.getD,ho];rfl]⟩
    |some r=>exact .inl ⟨r,rfl,by rw[show s.2.1.getD k none=some r by rw[List.getD,ho];rfl]⟩
  rcases step with⟨r,hr,e⟩|⟨hr,e⟩
  .rw[e];have old:∀i,i<(dW s k).2.1.length->((dW s k).2.1++[k]).getD i 0=(dW s k).2.1.getD i 0:=fun i D=>by rw[List.getD,aI D,<-List.getD]
   have new:((dW s k).2.1++[k]).getD (dW s k).2.1.length 0=k:=by rw[List.getD,aN (aP _),bO];rfl
   have hlen:((dW s k).2.1++[k]).length=(dW s k).2.1.length+1:=by simp
   dsimp only
   rw[hlen];refine⟨by simp[I],fun i D=>?_,fun i j Py hj=>?_,fun q hq x U=>?_⟩
   .rcases aS i (dW s k).2.1.length with h5|h5
    .obtain⟨x,x1,x2,x3⟩:=G i h5;rw[old i h5];refine⟨x,x1,?_,be⟩;rw[List.getD,aI be,<-List.getD];exact x2
    .rw[show i=(dW s k).2.1.length by omega,new];refine⟨r,hr,?_,be⟩;rw[List.getD,aN be,I,bO];rfl
   .rcases aS j (dW s k).2.1.length with h5|h5
    .rw[old i be,old j h5];exact h3 i j Py h5
    .rw[show j=(dW s k).2.1.length by omega,new,old i be];obtain⟨_,_,_,x3⟩:=G i be;exact x3
   .rcases aS q k with h5|h5
    .obtain⟨i,i1,i2⟩:=h4 q h5 x U;exact⟨i,be,by rw[old i i1];exact i2⟩
    .exact⟨(dW s k).2.1.length,be,by rw[new];omega⟩
  .rw[e];refine⟨I,fun i D=>?_,h3,fun q hq x U=>?_⟩
   .obtain⟨x,x1,x2,x3⟩:=G i D;exact⟨x,x1,x2,be⟩
   .rcases aS q k with h5|h5
    .exact h4 q h5 x U
    .rw[show q=k by omega]at U;exact absurd U (hr x)
theorem gW{α:Type}{a b:List α}(d:α)(hl:a.length=b.length)(h:∀i,i<a.length->a.getD i d=b.getD i d):a=b:=by
 refine List.ext_getElem hl fun i I G=>?_;have:=h i I
 rwa [List.getD,List.getD,aD I,aD G]at this
theorem mw{n:Nat}(hM:fz n M)(hW:GA M n B):(dh M n).2.1=(cW M n).2/\(dh M n).1=(cW M n).1.take (cW M n).2.length:=by
 obtain⟨p,F9,h⟩:=tS hM hW M.length (aP _);obtain⟨I,G,h3,h4⟩:=Eg (s:=iu M n M.length) n;unfold dh;generalize iu M n M.length=s at*
 obtain⟨Do,hF⟩:∃Do,dW s n=Do:=⟨_,rfl⟩
 rw[hF]at I G h3 h4 ⊢;have Ov:∀i,i<Do.2.1.length->∃r,r<s.1.length/\p r=Do.2.1.getD i 0/\Do.1.getD i []=s.1.getD r []/\Do.2.1.getD i 0<n:=fun i D=>by
  obtain⟨r,r1,r2,R⟩:=G i D;obtain⟨k1,k2⟩:=(h.piv _ R r).1 r1;exact⟨r,k1,k2,r2,R⟩
 have inj:∀i j,i<Do.2.1.length->j<Do.2.1.length->Do.2.1.getD i 0=Do.2.1.getD j 0->i=j:=fun i j D hj e=>by
  rcases cH i j with h5|h5|h5
  .have:=h3 i j h5 hj;omega
  .exact h5
  .have:=h3 j i h5 D;omega
 have hrf:Rf (dF Do.1) (fun i=>Do.2.1.getD i 0) Do.2.1.length n:=by
  refine⟨fun i D=>?_,h3,fun i j D hj=>?_,fun i t D ht=>?_⟩
  .obtain⟨_,_,_,_,h5⟩:=Ov i D;exact h5
  .obtain⟨a,a1,a2,a3,_⟩:=Ov i D;obtain⟨b,b1,b2,b3,_⟩:=Ov j hj;rw[dF,b3,<-a2];have:=h.CH.ru.unit a b a1 b1;unfold dF at this;rw[this];by_cases h5:j=i
   .rw[aM h5,aM (h.CH.ru.inj b a b1 a1 (by rw[a2,b2,h5]))]
   .rw[aJ h5,aJ fun e=>h5 (inj j i hj D (by rw[<-a2,<-b2,e]))]
  .obtain⟨a,a1,a2,a3,_⟩:=Ov i D;rw[dF,a3];have:=h.CH.ru.lead a t a1 (by rw[a2];exact ht);unfold dF at this;exact this
 have hsp:∀r,r<s.1.length->ef (dF Do.1) Do.2.1.length n (dF s.1 r):=fun r hr=>by
  have hp:=h.CH.ru.lt r hr;obtain⟨i,i1,i2⟩:=h4 (p r) hp r ((h.piv _ hp r).2 ⟨hr,rfl⟩);obtain⟨a,a1,a2,a3,_⟩:=Ov i i1;have e:a=r:=h.CH.ru.inj a r a1 hr (by rw[a2,i2]);exact(ef.row i1).congr fun t _=>by rw[dF,dF,a3,e]
 obtain⟨e1,e2,e3⟩:=Hr hM hrf (fun i D=>by
  obtain⟨a,a1,a2,a3,_⟩:=Ov i D
  exact(h.up a a1).congr fun t _=>by rw[dF,dF,a3]) fun j hj=>(h.dn j hj).trans hsp
 obtain⟨g1,g2,-,-,-⟩:=di hM n (aP _);refine⟨gW 0 e1.symm fun i D=>(e2 i D).symm,gW [] ?_ fun i D=>?_⟩
 .rw[ah,e1,I];omega
 .rw[I]at D;have TG:i<(cW M n).2.length:=by omega
  obtain⟨a,a1,a2,a3,_⟩:=Ov i D;have Qe:(Do.1.getD i []).length=n:=by rw[a3];exact h.ok.len.getD a1
  have X:((cW M n).1.take (cW M n).2.length).getD i []=(cW M n).1.getD i []:=by rw[List.getD,bo TG,<-List.getD]
  rw[X];refine gW 0 (by rw[Qe,g1.getD be]) fun t ht=>?_;rw[Qe]at ht;exact(e3 i t D ht).symm
structure ElI(M:List (List Rat))(n B c:Nat)(s:List (List Rat)×List Nat)(σ:Nat->Nat)(F9:Mx):Prop where
 red:Red n c s
 mon:OX s
 len:s.1.length=M.length
 CH:CF (dF s.1) (fun i=>s.2.getD i 0) s.2.length n B F9
 org:∀j,j<M.length->σ j<M.length
 rest:∀j,s.2.length<=j->j<M.length->∀t,t<n->dF s.1 j t=nU (dF s.1) (fun i=>s.2.getD i 0) s.2.length (dF M (σ j)) n t
theorem ElI.step{M:List (List Rat)}{n B c:Nat}{s:List (List Rat)×List Nat}{σ:Nat->Nat}{F9:Mx}(h:ElI M n B c s σ F9)(hW:GA M n B)(hc:c<n):∃σ' Z',ElI M n B (c+1) (dy s c) σ' Z':=by
 have RH:=h.red.step hc;have hmon:=h.mon.step h.red hc;have hlen:(dy s c).1.length=M.length:=by rw[pn,h.len]
 obtain⟨hl,hle,hz,R6,hu⟩:=h.red;rcases kL c hle with⟨e,h0⟩|⟨k,I,G,h3,e⟩
 .rw[e]at RH hmon hlen ⊢;exact⟨σ,F9,RH,hmon,hlen,h.CH,h.org,h.rest⟩
 .obtain⟨r1,r2⟩:=mn hl I G h3 e;have e2:(dy s c).2=s.2++[c]:=by rw[e]
  have e3:(dy s c).2.length=s.2.length+1:=by rw[e2];simp
  have hkM:k<M.length:=by rw[<-h.len];exact G
  have K:=h.rest k I hkM;obtain⟨d,hd,-,hdz⟩:=hW (σ k) (h.org k hkM);have hC:=h.CH.push (u:=dF s.1 k) hd hdz K hc h3 fun t ht=>hz k t I G ht;have hold:∀i,i<s.2.length->(dy s c).2.getD i 0=s.2.getD i 0:=fun i D=>by rw[e2,List.getD,aI D,<-List.getD]
  have RB:(dy s c).2.getD s.2.length 0=c:=by rw[e2,List.getD,aN (aP _),bO];rfl
  have hE:∀i t,i<s.2.length+1->t<n->dF (dy s c).1 i t=mD (dF s.1) s.2.length (dF s.1 k) c i t:=fun i t D ht=>by
   unfold mD;by_cases Ti:i=s.2.length
   .rw[aM Ti,Ti,r1,bh,bh,bs]
   .rw[aJ Ti,r2 i be Ti t ht,aJ be,bh,bh,bs]
  have TH:CF (dF (dy s c).1) (fun i=>(dy s c).2.getD i 0) (dy s c).2.length n B fun i t=>if i=s.2.length then d*dF M (σ k) t else F9 i t:=by
   rw[e3];refine hC.congr hE (fun i D=>?_) fun _ _ _ _=>rfl;by_cases Ti:i=s.2.length
   .rw[aM Ti,Ti,RB]
   .rw[aJ Ti,hold i be]
  refine⟨fun j=>if j=k then σ s.2.length else σ j,_,RH,hmon,hlen,TH,fun j hj=>?_,fun j hj hjM t ht=>?_⟩
  .split
   .exact h.org _ be
   .exact h.org j hj
  .rw[e3]at hj;have hjs:j<s.1.length:=by rw[h.len];exact hjM
   obtain⟨jj,hjj⟩:∃jj,(if j=k then s.2.length else j)=jj:=⟨_,rfl⟩
   have hjr:s.2.length<=jj:=by rw[<-hjj];split<;>omega
   have Tu:jj<M.length:=by rw[<-hjj];split<;>omega
   have hσ:(if j=k then σ s.2.length else σ j)=σ jj:=by rw[<-hjj];split<;>rfl
   rw[hσ];refine aBf TH.ru ?_ (fun i D=>?_) ht
   .have hr:ef (dF (dy s c).1) (dy s c).2.length n (dF (dy s c).1 s.2.length):=ef.row be;have h5:ef (dF s.1) s.2.length n fun t=>dC (fun i=>dF M (σ jj) (s.2.getD i 0)*dF s.1 i t) s.2.length:=⟨_,fun t _=>rfl⟩
    have h6:ef (dF (dy s c).1) (dy s c).2.length n fun t=>dC (fun i=>dF M (σ jj) (s.2.getD i 0)*dF s.1 i t) s.2.length:=h5.trans fun i D=>by
     rw[e3];exact ef.Jp (tP h3 i D) hE
    refine(h6.add hr (dF s.1 jj c)).congr fun t ht=>?_;have h7:=h.rest jj hjr Tu t ht;unfold nU at h7;rw[cT (g:=fun i=>dF M (σ jj) (s.2.getD i 0)*dF s.1 i t) fun i D=>aM (h.CH.ru.lt i D)]at h7;rw[r2 j hjs be t ht,hjj,r1,h7];grind
   .rw[RH.2.2.2.2 i j D (by rw[hlen];exact hjM),aJ be]
theorem rf{M:List (List Rat)}{n B:Nat}(hM:fz n M)(hW:GA M n B):∀c,c<=n->∃σ F9,ElI M n B c (cW M c) σ F9
 |0,_=>⟨fun j=>j,fun _ _=>0,⟨hM,aR _,fun _ _ _ _ h=>be,fun p hp=>(by cases hp),fun _ _ h=>(by cases h)⟩,⟨fun _ _ _ h=>(by cases h),fun _ _ h=>(by cases h)⟩,rfl,CF.start _ _ _ _ _,fun j hj=>hj,fun j _ hj t ht=>by
   show dF M j t=nU (dF M) _ 0 (dF M j) n t;unfold nU;show _=_-0
   grind⟩
 |c+1,hc=>by
  obtain⟨σ,F9,h⟩:=rf hM hW c be;unfold cW at h ⊢;rw[bU,List.foldl_append];exact h.step hW be
theorem CI{n:Nat}(hM:fz n M)(hW:GA M n B)(hB:1<=B){c:Nat}(hc:c<=n):∀r∈(cW M c).1,∀q∈r,rl q<=ln (fB B M.length):=fun r hr q hq=>by
 obtain⟨σ,F9,h⟩:=rf hM hW c hc;obtain⟨a,ha⟩:=aU hr;obtain⟨t,ht⟩:=aU hq;have RT:=(aE.1 ha).1;have TR:=(aE.1 ht).1;rw[h.red.1 r hr]at TR;have hle:=h.red.2.1;have e:q=dF (cW M c).1 a t:=by rw[dF,show(cW M c).1.getD a []=r by rw[List.getD,ha];rfl,List.getD,ht];rfl
 rw[h.len]at RT hle;rw[e];rcases aS a (cW M c).2.length with I|I
 .exact aX (h.CH.Of I TR) (fq (tQ hB hle))
 .obtain⟨d,hd,hdB,hz⟩:=hW _ (h.org a RT);rw[h.rest a I RT t TR];exact aX (h.CH.Og hB hd hdB hz n TR) (fq (tQ hB be))
end Go.Ex
namespace Go.Ex
open Go Go.Sx Go.Proofs
variable{GE M:List (List Rat)}{qs x xs ys:List Rat}{Z:List Value}{h:Nat}{S:Nat->Prop}{q:Rat}{u v:Value}{w:World}
theorem Ix{a c i k:Nat}(h:i<k):(eE M a c k)[i]? =(eE M a c (i+1))[i]? :=by
 simp only[eE,List.getElem?_mapIdx]
 have:(i<k/\i≠a)↔(i<i+1/\i≠a):=by omega
 simp[this,h]
theorem Iy{n cols:Nat}(F:Old S w)(hm:fT w S v M)(hlen:fz n M)(W:n<=1000)(hR:M.length<=1000)(QP:cols<=n)(hB:∀c,c<=cols->Ht (cW M c).1 h)(hh:3*h<=90000):
  eH PG GT.uK #[v,iV cols] w (eR w fun v' Y=>∃vm vp,v'= .tuple #[vm,vp]/\fT Y (Nw S w Y) vm (cW M cols).1/\dN Y (Nf w Y) vp (cW M cols).2):=by
 have V:=bR w;replace hm:=fT.arg hm [];obtain⟨rv0,⟨Uu,hl0,I,am,cm,rfl,SB,Pt⟩,hl,hrows⟩:=hm;unfold maxLen at Uu;have Ql:ix w (Cv S w.heap.size []) rv0 M:=⟨hl,I,hrows⟩
 refine yw bv ?_;refine .inl ?_;refine⟨rv0,hl0,I,fun O J r Ph=>?_,?_⟩
 .obtain⟨u0,Xp⟩:=gO rv0 0;obtain⟨ad,ha,_,_⟩:=Pt 0 u0 Xp;refine⟨ad,ha,fun j u hj=>?_⟩;obtain⟨ad2,RT,q1,q2⟩:=Pt j u hj;rw[ha]at RT;injection RT with RT;subst RT;rw[cV (w:=w) (Y:=J) (by rw[dO];exact rls r F q1)];exact q2
 refine⟨rfl,be,mx,?_⟩;rw[aW M.length]
 refine⟨Nat×List Value×List (List Rat)×List Nat×World×Iv,fun z=>⟨[(1,iZ cols),(6,.o (.w 0 M.length)),(7,.o (.w 1 z.2.2.2.1.length)),(8,iN z.1)],[(1,.vec T.int 1 (z.2.2.2.1.map fun c:Nat=>iV (c:Int))),(0,.vec T.gF 1 z.2.1)],2,z.2.2.2.2.2,z.2.2.2.2.1⟩,fun z=>cols-z.1,
  fun z=>z.1<=cols/\(z.2.2.1,z.2.2.2.1)=(List.range z.1).foldl dy (M,[])/\fz n z.2.2.1/\(z.2.2.1.length=M.length/\z.2.2.2.1.length<=M.length)/\Bq w z.2.2.2.2.1/\ix z.2.2.2.2.1 (Cv S w.heap.size z.2.2.2.2.2) z.2.1 z.2.2.1,?_,?_⟩
 .intro O J r
  exact⟨(0,rv0,M,[],J,[]),⟨aR _,rfl,hlen,⟨rfl,aR _⟩,V.tr r.cZ,Ql.rel r F⟩,Sub.nil 7 T.int 1 rfl (by simp[kK,SV.sc,At.sc,fc]) r fun In r1=>
   sbgn [(0,1),(1,2)] r1⟩
 rintro⟨c,rv,M1,pv,w1,iv⟩ ⟨hc,SO,VC,hInv,V,Ql⟩;dsimp only at hc SO VC hInv V Ql ⊢;obtain⟨hI1,hI2⟩:=hInv;have hI4:Ht M1 h:=by
  have h5:=hB c hc;rw[show cW M c=(M1,pv)from SO.symm]at h5;exact h5
 have PN:rv.length=M.length:=by rw[Ql.1,hI1]
 apply bS<;>intro Ou
 .have Ou:=dL Ou
  refine⟨bv,Nat×World×Iv,fun z=>⟨[(1,iZ cols),(6,.o (.w 0 M.length)),(7,.o (.w 1 pv.length)),(8,iN c),(9,iN pv.length),(10,iN z.1)],[(1,.vec T.int 1 (pv.map fun c:Nat=>iV (c:Int))),(0,.vec T.gF 1 rv)],2,z.2.2,z.2.1⟩,fun z=>M.length-z.1,
   fun z=>pv.length<=z.1/\z.1<=M.length/\(∀j,pv.length<=j->j<z.1->dF M1 j c=0)/\Bq w z.2.1/\ix z.2.1 (Cv S w.heap.size z.2.2) rv M1,?_,?_⟩
  .intro O J r;exact⟨(pv.length,J,iv),⟨lr,hI2,fun j h3 h4=>by dsimp only at h4;omega,V.tr r.cZ,Ql.rel r F⟩,sbgn [] r⟩
  rintro⟨k,Y,iv⟩ ⟨Sc,hk1,hkz,V,Ql⟩;dsimp only at Sc hk1 hkz V Ql ⊢;have hRl:=Ql.1;refine⟨by rw[PN,aW,aZ],?_⟩;apply bS<;>intro Ow
  .have Ow:=dL Ow;obtain⟨u,x,hu,U,hux⟩:=Ql.get (i:=k) be;have QM:=VC x (aC U);obtain⟨y,hy⟩:=gO x c;have Qz:dF M1 k c=y:=by simp[dF,List.getD,U,hy]
   obtain⟨au,cu,rfl,hcu,-⟩:=dT.shape hux;obtain⟨ad,Z,PU,hF,_,Ty⟩:=dT.load hux hy;obtain⟨p0,p1,p2,p3,p4,p5,p6,p7,rfl,hF⟩:=hF;refine⟨by simp[PN],be,.slice au x.length cu,by simpa using hu,ad,PU,be,rC p0 p1 p2 p3 p4 p5 p6 p7,rfl,fun O J r i x U=>?_,?_⟩
   .obtain⟨k1,k2⟩:=Ty i x U;rw[aF,cV (w:=Y) (Y:=J) (by rw[dO,dO];exact rls r F k1)];exact k2
   refine cQ (cE V (pE (iV (rs y))) (fun O J r=>vo (rlo r F) (hF.rel r F)) ?_);rintro O _ _ Pa PA r L V E rfl;replace Ql:=Ql.cS r F L (mC E);apply bS<;>intro hs
   .have hs:y=0:=lV.1 (by simpa using hs);refine inc k ?_;intro I' w3 R
    exact⟨(k+1,w3,_),⟨by dsimp only;omega,Ow,fun j h3 h4=>by
      by_cases hj:j=k
      .rw[hj,Qz,hs]
      .exact hkz j h3 (by dsimp only at h4;omega),V.tr R.cZ,Ql.rel R F⟩,sbgn [] R,by dsimp only;omega⟩
   have hs:y≠0:=fun e=>by rw[e]at hs;exact absurd hs bi
   refine⟨by rw[PN,aW,aZ],?_⟩;refine tG.mk (fun Uc=>absurd (aK Uc) be) (fun _=>?_);obtain⟨uk,xk,huk,hxk,huxk⟩:=Ql.get (i:=k) be;obtain⟨ur,xr,hur,Uf,huxr⟩:=Ql.get (i:=pv.length) be;have hukc:=Ql.2.1 uk (aC huk);have hurc:=Ql.2.1 ur (aC hur);obtain⟨aur,cur,rfl,-,-⟩:=dT.shape huxr;obtain⟨auk,cuk,rfl,-,-⟩:=dT.shape huxk;have hsw:fC [] M1 pv.length k=(M1.set pv.length xk).set k xr:=by simp[fC,List.getD,hxk,Uf]
   have TS:pv.length<M.length:=by omega
   have Ox:dF M1 k c≠0:=by rw[Qz];exact hs
   have Pu:=Bg (s:=(M1,pv)) (c:=c) (k:=k) Sc (by show k<M1.length;omega) hkz Ox;dsimp only at Pu;have hHt2:=hI4.swap (i:=pv.length) (j:=k) be be;have hat2:=Bk (M:=M1) (i:=pv.length) (j:=k) (c:=c) be be;have Wr:Ht (eE (scaled (fC [] M1 pv.length k) pv.length c) pv.length c M.length) h:=by
    have h5:=hB (c+1) Ou;rw[show cW M (c+1)=dy (M1,pv) c by unfold cW;rw[bU,List.foldl_append,<-SO];rfl,Pu,hI1]at h5;exact h5
   have Xv:(∀r,(scaled (fC [] M1 pv.length k) pv.length c)[pv.length]? =some r->∀q∈r,rl q+1<=h)/\∀j r,j≠pv.length->(scaled (fC [] M1 pv.length k) pv.length c)[j]? =some r->∀q∈r,rl q+1<=h:=
    ⟨fun r hr=>Wr r (aC (i:=pv.length) (by rw[ui];exact hr)),fun j r hj hr=>hHt2 r (aC (i:=j) (by unfold Go.Ex.scaled at hr;rwa [aY (Ne.symm hj)]at hr))⟩
   have Sh:=(Ql.set (i:=pv.length) hukc huxk).set (i:=k) hurc huxr;rw[<-hsw]at Sh;have Yh:fz n (fC [] M1 pv.length k):=by
    rw[hsw];exact(VC.set (VC xk (aC hxk))).set (VC xr (aC Uf))
   have Ps:(fC [] M1 pv.length k).length=M.length:=by rw[jl,hI1]
   generalize hrv2:(rv.set pv.length (.slice auk xk.length cuk)).set k (.slice aur xr.length cur)=rv2 at Sh;have R0:rv2.length=M.length:=by rw[Sh.1,Ps]
   refine dP (idO 16) ?_;refine⟨by simp[PN],be,.slice auk xk.length cuk,by simpa using huk,by simp[PN],be,.slice aur xr.length cur,by simpa using hur,by simp[PN],be,by simp[PN,R0];omega,rv.set pv.length (.slice auk xk.length cuk),by rw[aF,aZ];exact gV (by simp[PN,R0];omega),by simp[PN],be,by simp[PN,R0];omega,rv2,by rw[aF,aZ,<-hrv2];exact gV (by simp[PN,R0];omega),?_⟩;obtain⟨u2,x2,Uo,RX,VD⟩:=Sh.get (i:=pv.length) be;have hx2l:=Yh x2 (aC RX);obtain⟨y2,Xl⟩:=gO x2 c;have hat3:dF (fC [] M1 pv.length k) pv.length c=y2:=by simp[dF,List.getD,RX,Xl]
   have hy20:y2≠0:=by rw[<-hat3,hat2];exact Ox
   have Qh:(fC [] M1 pv.length k).getD pv.length []=x2:=by simp[List.getD,RX]
   have hscl:scaled (fC [] M1 pv.length k) pv.length c=(fC [] M1 pv.length k).set pv.length (x2.map (· *(1 / y2))):=by rw[scaled,Qh,hat3]
   rw[hscl]at Pu Xv Wr;have RW:=hHt2.at RX;have WR:=RW y2 (aC Xl);have hinv:=aAL hy20;have Q7:((fC [] M1 pv.length k).set pv.length (x2.map (· *(1 / y2)))).length=M.length:=by rw[bj,Ps]
   have hget3:((fC [] M1 pv.length k).set pv.length (x2.map (· *(1 / y2))))[pv.length]? =some (x2.map (· *(1 / y2))):=aT be;have Yi:fz n ((fC [] M1 pv.length k).set pv.length (x2.map (· *(1 / y2)))):=Yh.set (by rw[aL];exact hx2l);generalize fC [] M1 pv.length k=M2 at*
   obtain⟨au2,cu2,rfl,hcu2,-⟩:=dT.shape VD;obtain⟨ad2,cs2,QR,Ry,_,hlc2⟩:=dT.load VD Xl;obtain⟨q0,q1,q2,q3,q4,q5,q6,q7,rfl,Ry⟩:=Ry;replace PN:=R0;refine dP [.x 1,.x 2,.x 3,.x 4,.x 5,.x 6,.x 7,.p 12,.x 0,.x 8,.x 9,.x 10,.x 11,.x 12,.x 13,.x 14] ?_;refine⟨by simp[PN],be,.slice au2 x2.length cu2,by simpa using Uo,ad2,QR,be,rC q0 q1 q2 q3 q4 q5 q6 q7,rfl,fun O J r i x U=>?_,?_⟩
   .obtain⟨k1,k2⟩:=hlc2 i x U;rw[aF,cV (w:=Pa) (Y:=J) (by rw[dO,dO];exact rls r F k1)];exact k2
   refine cE V (pR cY (1:Rat)) (fun O J r=>(show ((1:Int):Rat)=1 from rfl)▸oK 1 J bi bi) ?_;rintro O _ _ _ Oy r L V E W;replace Sh:=Sh.cS r F L (mC E);replace VD:=dK.cS VD r F L (mC E);replace Ry:=Ry.cS r F L (mC E);have h_1:=W.cP (nw r E);obtain⟨A0,A1,A2,A3,A4,A5,A6,A7,rfl⟩:=h_1.shape;refine cE V (fun _ J v Y=>∃q,v= .tuple #[q,iV 0]/\cY Y (Nf J Y) q (1 / y2)) (fun O J r=>FP (rlo r F) (((h_1.rel r oF).l (by rw[GN];decide)).cP fun g X=>Cv.false X) (Ry.rel r F) hy20) ?_;rintro O _ _ _ PH r L V E ⟨q,rfl,k1⟩;replace Sh:=Sh.cS r F L (mC E);replace VD:=dK.cS VD r F L (mC E);have PZ:=k1.cP (nw r E);obtain⟨s3_0a,s3_0b,s3_0c,s3_0d,s3_0e,s3_0f,s3_0g,s3_0h,rfl⟩:=PZ.shape;refine dP (idO 10) ?_;refine⟨by simp[PN],be,.slice au2 x2.length cu2,by simpa using Uo,?_⟩;refine cE V (pR cX (x2.map (· *(1 / y2)))) (fun O J r=>(Nc x2 (1 / y2))▸ME (rlo r F) (dK.nil J _) (dK.rel VD r F) (((PZ.rel r oF).l be).cP fun g X=>Cv.false X) (.inl rfl) be (fun y hy=>by have:=RW y hy;omega)) ?_;rintro O _ _ _ PV r L V E W;replace Sh:=Sh.cS r F L (mC E);have hx3:=cX.cP W (nw r E);obtain⟨a3,c3,rfl,Xw,-⟩:=dT.shape hx3;have hRV3:=Sh.set (i:=pv.length) (u:=.slice a3 (x2.map (· *(1 / y2))).length c3) rfl (dK.cP (cX.l hx3 fun q hq=>by have:=Xv.1 _ hget3 q hq;omega) fun g X=>Cv.false X);obtain⟨rv3,hrv3⟩:∃rv3,rv3=rv2.set pv.length (.slice a3 (x2.map (· *(1 / y2))).length c3):=⟨_,rfl⟩
   rw[<-hrv3]at hRV3;generalize x2.map (· *(1 / y2))=x3 at*
   generalize hM3:M2.set pv.length x3=M3 at*
   refine⟨by simp[PN],be,by simp[PN,R0];omega,rv3,by rw[aF,aZ,hrv3];exact gV (by simp[PN,R0];omega),?_⟩;have hrl3:rv3.length=M.length:=by rw[hRV3.1,Q7]
   refine⟨Nat×List Value×World×Iv,fun z=>⟨[(1,iZ cols),(6,.o (.w 0 M.length)),(7,.o (.w 1 pv.length)),(8,iN c),(9,iN pv.length),(13,iN z.1)],[(1,.vec T.int 1 (pv.map fun c:Nat=>iV (c:Int))),(0,.vec T.gF 1 z.2.1)],2,z.2.2.2,z.2.2.1⟩,fun z=>M.length-z.1,
    fun z=>z.1<=M.length/\Bq w z.2.2.1/\ix z.2.2.1 (Cv S w.heap.size z.2.2.2) z.2.1 (eE M3 pv.length c z.1),?_,?_⟩
   .intro O J r;exact⟨(0,rv3,J,PV),⟨aR _,V.tr r.cZ,by dsimp only;rw[GK];exact hRV3.rel r F⟩,sbgn [] r⟩
   rintro⟨i,rv,w4,iv⟩ ⟨D,V,Ql⟩;dsimp only at D V Ql ⊢;have PN:rv.length=M.length:=by rw[Ql.1,iY,Q7]
   refine⟨by rw[PN,aW,aZ],?_⟩;apply bS<;>intro WH
   .have WH:=dL WH;apply bS<;>intro Ti
    .have Ti:i≠pv.length:=fun e=>by rw[e]at Ti;simp at Ti
     obtain⟨u4,x4,hu4,hx4,UQ⟩:=Ql.get (i:=i) (by rw[iY];omega);obtain⟨u5,x5,hu5,hx5,Vl⟩:=Ql.get (i:=pv.length) (by rw[iY];omega);rw[KA _ _ _ _ _ lr]at hx4;rw[ui]at hx5;have hx4l:=Yi x4 (aC hx4);have hx5l:=Yi x5 (aC hx5);obtain⟨y4,hy4⟩:=gO x4 c;have hy4d:x4.getD c 0=y4:=by simp[List.getD,hy4]
     have hx5d:M3.getD pv.length []=x5:=by simp[List.getD,hx5]
     have TA:=Xv.2 i x4 Ti hx4;have hb5:=Xv.1 x5 hx5;have hyb4:=TA y4 (aC hy4);have YZ:=jE y4;obtain⟨au4,cu4,rfl,hcu4,-⟩:=dT.shape UQ;obtain⟨au5,cu5,rfl,hcu5,-⟩:=dT.shape Vl;obtain⟨ad4,cs4,had4,hF4,_,hlc4⟩:=dT.load UQ hy4;obtain⟨e0,e1,e2,e3,e4,e5,e6,e7,rfl,hF4⟩:=hF4;refine⟨by simp[PN],be,.slice au4 x4.length cu4,by simpa using hu4,ad4,had4,be,rC e0 e1 e2 e3 e4 e5 e6 e7,rfl,fun O J r i x U=>?_,?_⟩
     .obtain⟨k1,k2⟩:=hlc4 i x U;rw[aF,cV (w:=w4) (Y:=J) (by rw[dO,dO];exact rls r F k1)];exact k2
     refine cQ (cE V (pE (iV (rs y4))) (fun O J r=>vo (rlo r F) (hF4.rel r F)) ?_);rintro O _ _ SP Qk r L V E rfl;replace Ql:=Ql.cS r F L (mC E);replace UQ:=dK.cS UQ r F L (mC E);replace Vl:=dK.cS Vl r F L (mC E);apply bS<;>intro hs4
     .have hs4:y4≠0:=fun e=>by rw[e]at hs4;exact absurd hs4 bi
      obtain⟨ad6,cs6,had6,Wi,_,hlc6⟩:=dT.load UQ hy4;obtain⟨f0,f1,f2',f3,f4,f5,f6,f7,rfl,Wi⟩:=Wi;refine dP (idO 21) ?_;refine⟨by simp[PN],be,.slice au4 x4.length cu4,by simpa using hu4,by simp[PN],be,.slice au5 x5.length cu5,by simpa using hu5,by simp[PN],be,.slice au4 x4.length cu4,by simpa using hu4,ad6,had6,be,rC f0 f1 f2' f3 f4 f5 f6 f7,rfl,fun O J r i x U=>?_,?_⟩
      .obtain⟨k1,k2⟩:=hlc6 i x U;rw[aF,cV (w:=SP) (Y:=J) (by rw[dO,dO];exact rls r F k1)];exact k2
      refine cE V (pR cY (-y4)) (fun O J r=>KL (rlo r F) (Wi.rel r F)) ?_;rintro O _ _ _ RM r L V E W;replace Ql:=Ql.cS r F L (mC E);replace UQ:=dK.cS UQ r F L (mC E);replace Vl:=dK.cS Vl r F L (mC E);have hng:=W.cP (nw r E);obtain⟨C0,C1,C2,C3,C4,C5,C6,C7,rfl⟩:=hng.shape;refine cE V (pR cX (mL x4 x5 (-y4))) (fun O J r=>ME (rlo r F) (dK.rel UQ r F) (dK.rel Vl r F) (((hng.rel r oF).l be).cP fun g X=>Cv.false X) (.inr be) be (fun y hy=>by have:=hb5 y hy;omega)) ?_;rintro O _ _ _ Rj r L V E W;replace Ql:=Ql.cS r F L (mC E);have hx7:=cX.cP W (nw r E);obtain⟨a7,c7,rfl,hc7,-⟩:=dT.shape hx7;have RB:(eE M3 pv.length c i).set i (mL x4 x5 (-y4))=eE M3 pv.length c (i+1):=by
       rw[<-GL hx4 Ti,hy4d,hx5d,Kj _ be]
      have hrow7:(eE M3 pv.length c (i+1))[i]? =some (mL x4 x5 (-y4)):=by rw[<-RB];exact aT (by rw[iY];omega)
      have hb7:=Wr.at (i:=i) (by rw[Ix WH];exact hrow7);replace Ql:=Ql.set (i:=i) (u:=.slice a7 (mL x4 x5 (-y4)).length c7) rfl (dK.cP (cX.l hx7 fun q hq=>by have:=hb7 q hq;omega) fun g X=>Cv.false X);rw[RB]at Ql;refine⟨by simp[PN],be,by simp[PN];omega,rv.set i (.slice a7 (mL x4 x5 (-y4)).length c7),by rw[aF,aZ];exact gV be,((i+1:Nat):Int),wo,?_⟩;intro I' w3 R;exact⟨(i+1,rv.set i (.slice a7 (mL x4 x5 (-y4)).length c7),w3,_),⟨WH,V.tr R.cZ,by dsimp only;rw[show i+1=i+1 from rfl];exact Ql.rel R F⟩,sbgn [] R,dec WH⟩
     have hs4:y4=0:=lV.1 (by simpa using hs4);refine inc i ?_;intro I' w3 R;exact⟨(i+1,rv,w3,_),⟨WH,V.tr R.cZ,by dsimp only;rw[Fv hx4 (by rw[hy4d,hs4])];exact Ql.rel R F⟩,sbgn [] R,dec WH⟩
    have hir1:(i:Int)=pv.length:=by simpa using Ti
    have Ti:i=pv.length:=by omega
    refine inc i ?_;intro I' w3 R;exact⟨(i+1,rv,w3,_),⟨WH,V.tr R.cZ,by dsimp only;rw[show eE M3 pv.length c (i+1)=eE M3 pv.length c i by rw[Ti,<-GM]];exact Ql.rel R F⟩,sbgn [] R,dec WH⟩
   have WH:i=M.length:=by have:=aG WH;omega
   subst WH;refine .inl ?_;refine⟨bv,be,mx,?_⟩;have YQ:(pv++[c]).map (fun c:Nat=>iV (c:Int))=pv.map (fun c:Nat=>iV (c:Int))++[iV (c:Int)]:=by simp
   rw[hI1]at Pu;refine inc c ?_;intro I' w3 R;have hs:dy (M1,pv) c=((eE M3 pv.length c M.length),(pv++[c])):=Pu;have hf2:((eE M3 pv.length c M.length),(pv++[c]))=(List.range (c+1)).foldl dy (M,[]):=by rw[bU,List.foldl_append,<-SO];exact hs.symm
   have TG:(dy (M1,pv) c).1.length=M.length/\(dy (M1,pv) c).2.length<=M.length:=by
    have h5:=(di hlen (c+1) be).2.1;have h6:=eC M (c+1);rw[show cW M (c+1)=dy (M1,pv) c by unfold cW;rw[bU,List.foldl_append,<-SO];rfl]at h5 h6;omega
   have Ps:=fz.step (s:=(M1,pv)) (c:=c) VC;rw[hs]at TG Ps;exact⟨(c+1,rv,(eE M3 pv.length c M.length),(pv++[c]),w3,_),⟨Ou,hf2,Ps,TG,V.tr R.cZ,Ql.rel R F⟩,sbgn [(1,3)] R ⟨by dsimp only;rw[YQ];rfl,rfl,trivial⟩ ⟨rfl,rfl,by dsimp only;rw[l1];rfl,rfl,trivial⟩,dec Ou⟩
  have Ow:k=M.length:=by have:=aG Ow;omega
  refine⟨by rw[PN,aW,aZ],?_⟩;refine tG.mk (fun _=>?_) (fun Uc=>absurd (aG Uc) be);refine inc c ?_;intro I' w3 R;have hs:dy (M1,pv) c=(M1,pv):=M6 Sc (by show k=M1.length;omega) hkz;have hf2:(M1,pv)=(List.range (c+1)).foldl dy (M,[]):=by rw[bU,List.foldl_append,<-SO];exact hs.symm
  have TG:(dy (M1,pv) c).1.length=M.length/\(dy (M1,pv) c).2.length<=M.length:=by
   have h5:=(di hlen (c+1) be).2.1;have h6:=eC M (c+1);rw[show cW M (c+1)=dy (M1,pv) c by unfold cW;rw[bU,List.foldl_append,<-SO];rfl]at h5 h6;omega
  have Ps:=fz.step (s:=(M1,pv)) (c:=c) VC;rw[hs]at TG Ps;exact⟨(c+1,rv,M1,pv,w3,_),⟨Ou,hf2,Ps,TG,V.tr R.cZ,Ql.rel R F⟩,sbgn [] R,dec Ou⟩
 have Ou:=dE hc Ou;subst Ou;have RH:cW M c=(M1,pv):=SO.symm;rw[RH];intro J8 we re;refine⟨_,rfl,V.tr re.cZ,_,_,rfl,⟨rv,?_,Ql.1,fun i u x I G=>dK.out (Ql.2.2 i u x I G) re F⟩,?_⟩
 .have:=re.iD (id:=0) (sz:=1) (m:=M.length) rfl (by rw[PN,aZ]) mx bi Ql.2.1;rw[show (M1,pv).1.length=M.length from hI1];exact this.cP fun g X=>.inr X
 .have:=re.iD (id:=1) (sz:=1) (m:=pv.length) rfl bv mx bi (fun u hu=>by
   obtain⟨_,_,rfl⟩:=aV.1 hu
   rfl)
  exact this.cP fun g X=>.inr X
theorem aAq{M:List (List (Int×Int))}{h0:Nat}(F:Old S w)(h:fI w S v M)(hL:fT w S v (iy M))(RA:∀r∈M,r.length=fo M)(hR:M.length<=1000)(W:fo M<=1000)(hB:∀c,c<=fo M->Ht (cW (iy M) c).1 h0)(hh:3*h0<=90000):
  eH PG GT.vG #[v] w (eR w fun v' _=>v'=iV (cW (iy M) (fo M)).2.length):=by
 have V:=bR w;have VV:(iy M).length=M.length:=by simp[iy]
 have hlen:fz (fo M) (iy M):=fun r hr=>by
  rw[iy]at hr;obtain⟨x,U,rfl⟩:=aV.1 hr;rw[aL];exact RA x U
 replace h:=fI.arg h [];replace hL:=fT.arg hL [];obtain⟨am,cm,rfl,SB,Qr⟩:=dI.shape h;refine Du bv ?_;refine cQ (cE V (pE (iV (fo M))) (fun O J r=>Kk (rlo r F) (fI.rel h r F)) ?_);rintro O _ _ _ PA r L V E rfl;replace hL:=fT.cS hL r F L (mC E);refine cQ (cU (J9:=fun _ J v Y=>∃vm vp,v= .tuple #[vm,vp]/\fT Y (Nw (Cv S w.heap.size PA) J Y) vm (cW (iy M) (fo M)).1/\dN Y (Nf J Y) vp (cW (iy M) (fo M)).2) (fun O J r=>Iy (rlo r F) (fT.rel hL r F) hlen be be lr hB hh) ?_);rintro O Qb v2 Px r L hb ⟨vm,vp,rfl,k1,k2⟩;replace V:=V.tr hb;have hA:=fT.old k1 r.dA;have hP:=dN.iR (S:=FF) k2 r.dA (iv:=(Qb.heap.size,Px.heap.size)::PA) aH;generalize (Qb.heap.size,Px.heap.size)::PA=Oy at*
 obtain⟨aA,cA,rfl,hcA,-⟩:=dI.shape hA;have hPs:=hP;obtain⟨-,-,-,ap,cp,rfl,Yd,-⟩:=hPs;exact rtn V fun J8 we re=>rfl
theorem aDS(F:Old S w)(U:dK w S v xs)(hy:dK w S u ys)(hl:xs.length=ys.length)(hqx:∀q∈xs,rl q+1<=h)(hqy:∀q∈ys,rl q+1<=h)(G:2<=h)(hb:2*h*xs.length<=90000):
  eH PG GT.Ew #[v,u] w (eR w fun v' Y=>cY Y (Nf w Y) v' (fD xs ys xs.length)):=by
 have V:=bR w;obtain⟨ax,cx,rfl,To,UJ⟩:=U.shape;obtain⟨ay,cy,rfl,hcy,-⟩:=hy.shape;unfold maxLen at UJ;refine G3 bv ?_;refine cQ (cE V (pR cY (((0:Int):Rat))) (fun O J r=>oK 0 J bi bi) ?_);rintro O _ _ _ PA r L V E W;have hd:=W.cP (nw r E);obtain⟨A0,A1,A2,A3,A4,A5,A6,A7,rfl⟩:=hd.shape;rw[show ((0:Int):Rat)=fD xs ys 0 from rfl]at hd
 refine⟨Nat×(Bool×Bool)×(Option Addr×Option Addr)×(Nat×Nat×Nat×Nat)×World×Iv,fun z=>⟨[(0,sV ax xs.length cx),(1,sV ay ys.length cy),(4,pP 0 0),(5,pP 1 0),(6,iN z.1)],[(1,.box T.Rat [.v (.bool z.2.1.1),.v (.slice z.2.2.1.1 z.2.2.2.1.1 z.2.2.2.1.2.1),.v (.bool z.2.1.2),.v (.slice z.2.2.1.2 z.2.2.2.1.2.2.1 z.2.2.2.1.2.2.2)]),(0,.box T.Rat [.v (.bool false),.v nls,.v (.bool false),.v nls])],2,z.2.2.2.2.2,z.2.2.2.2.1⟩,fun z=>xs.length-z.1,
  fun z=>z.1<=xs.length/\Bq w z.2.2.2.2.1/\cY z.2.2.2.2.1 (Cf w z.2.2.2.2.2) (.agg #[.bool z.2.1.1,.slice z.2.2.1.1 z.2.2.2.1.1 z.2.2.2.1.2.1,.bool z.2.1.2,.slice z.2.2.1.2 z.2.2.2.1.2.2.1 z.2.2.2.1.2.2.2]) (fD xs ys z.1),?_,?_⟩
 .intro O J r;exact⟨(0,(A0,A4),(A1,A5),(A2,A3,A6,A7),J,PA),⟨bv,V.tr r.cZ,hd.rel r oF⟩,sbgn [] r⟩
 rintro⟨i,⟨p0,p4⟩,⟨p1,p5⟩,⟨p2,p3,p6,p7⟩,w1,iv⟩ ⟨D,V,hd⟩;dsimp only at D V hd ⊢;apply bS<;>intro Ou
 .have Ou:=dL Ou;have hs:=si hqx hqy G i;have Qy:2*h*i<=2*h*xs.length:=bX _ D;have hs3:2*h*1<=2*h*xs.length:=bX _ be;obtain⟨x,QB⟩:=gO xs i;obtain⟨y,Sn⟩:=gO ys i;have hx3:=hqx x (aC QB);have hy3:=hqy y (aC Sn);have RX:xs.getD i 0=x:=by rw[List.getD,QB];rfl
  have Xl:ys.getD i 0=y:=by rw[List.getD,Sn];rfl
  have hm:=fh x y;obtain⟨adx,csx,QU,Qu,-,Pq⟩:=dT.load U QB;obtain⟨ady,csy,VS,Rt,-,RL⟩:=dT.load hy Sn;obtain⟨f0,f1,f2,f3,f4,f5,f6,f7,rfl,Qu⟩:=Qu;obtain⟨q0,q1,q2,q3,q4,q5,q6,q7,rfl,Rt⟩:=Rt;refine dP (idO 12) ?_;refine⟨adx,QU,be,rC f0 f1 f2 f3 f4 f5 f6 f7,rfl,rdO Pq V F,ady,VS,be,rC q0 q1 q2 q3 q4 q5 q6 q7,rfl,rdO RL V F,?_⟩;refine cE V (pR cY (x*y)) (fun O J r=>vO (oS F r) (Qu.cR (kS V r F)) (Rt.cR (kS V r F))) ?_;rintro O _ _ _ Oy r L V E W;replace hd:=hd.cS r oF L (mC E);have hp:=W.cP (nw r E);obtain⟨C0,C1,C2,C3,C4,C5,C6,C7,rfl⟩:=hp.shape;refine cE V (pR cY (fD xs ys i+x*y)) (fun O J r=>vR (rlo r oF) ((hd.rel r oF).l be) ((hp.rel r oF).l be)) ?_;rintro O _ _ _ PH r L V E W;have Pc:=W.cP (nw r E);obtain⟨F0,F1,F2,F3,F4,F5,F6,F7,rfl⟩:=Pc.shape;rw[show fD xs ys i+x*y=fD xs ys (i+1) by rw[fD,RX,Xl]]at Pc;refine inc i ?_;intro I' w3 R;exact⟨(i+1,(F0,F4),(F1,F5),(F2,F3,F6,F7),w3,_),⟨Ou,V.tr R.cZ,Pc.rel R oF⟩,sbgn [] R,dec Ou⟩
 have Ou:=dE D Ou;subst Ou;exact rtn V fun J8 we re=>hd.out re oF
section
variable{S:Nat->Prop}{H:Hp}{nx:Nat}{iv N:Iv}{B:Nat}{w J Y:World}{O:Nat->Sx.eG}{A:List (List Value)}{qs:List Rat}
theorem Fc.rel(h:Fc w (Cv S B iv) A qs)(r:Rel H nx iv B w O J)(F:∀g,S g->g<B):Fc J (Cv S B iv) A qs:=h.cR fun _ X=>rls r F X
theorem Fc.cS(h:Fc w (Cv S B iv) A qs)(r:Rel H nx iv B w O J)(F:∀g,S g->g<B)(L:Ext J Y)(hm:∀p,p∈iv->p∈N):Fc Y (Cv S B N) A qs:=
 ((h.rel r F).cR fun g X=>L.block g (rlo r F g X)).cP fun _ X=>X.mono hm
theorem Fc.push(h:Fc w S A qs)(hc:js w S Z q):Fc w S (A++[Z]) (qs++[q]):=by
 refine⟨by simp[h.1],fun j x p I G=>?_⟩;rcases aS j A.length with D|D
 .rw[aI D]at I;rw[aI (by rw[<-h.1];exact D)]at G;exact h.2 j x p I G
 .have Rr:j=A.length:=by have:=(aE.1 I).1;simp at this;omega
  subst Rr;rw[aN lr,bO]at I;rw[h.1,aN lr,bO]at G;simp at I G;subst I G;exact hc
end
section
variable{S S':Nat->Prop}{H:Hp}{nx:Nat}{iv N:Iv}{B:Nat}{w J Y:World}{O:Nat->Sx.eG}{v:Value}{b:List (Int×Int)}
end
def jh(qs:List Rat):List (Int×Int):=qs.map fun q=>(q.num,(q.den:Int))
theorem zN(qs:List Rat):(jh qs).length=qs.length:=aL ..
theorem JR(qs:List Rat):(jh qs).map tA=qs:=by
 unfold jh;rw[List.map_map];exact(List.map_congr_left fun q _=>qi q).trans (List.map_id qs)
theorem D2(GE:List (List Rat)):iy (GE.map jh)=GE:=by
 unfold iy;rw[List.map_map];exact(List.map_congr_left fun q _=>JR q).trans (List.map_id GE)
theorem cX.jh(h:cX w S v qs):fy w S v (jh qs):=by
 obtain⟨A,I,G,h3,h4⟩:=h;refine⟨A,by unfold Go.Ex.jh;rw[aL];exact I,by unfold Go.Ex.jh;rw[aL];exact G,h3,fun j Z x k1 k2=>?_⟩;unfold Go.Ex.jh at k2;rw[aO]at k2;obtain⟨q,hq,rfl⟩:=Option.map_eq_some_iff.1 k2;obtain⟨b,a,n,c,b2,a2,n2,c2,rfl,hr⟩:=h4 j Z q k1 hq;exact hr.four
theorem dD.jh(h:dD w S v GE):fI w S v (GE.map jh):=by
 obtain⟨rv,I,G,h3⟩:=h;refine⟨rv,by rw[aL];exact I,by rw[aL];exact G,fun i u x k1 k2=>?_⟩;rw[aO]at k2;obtain⟨q,hq,rfl⟩:=Option.map_eq_some_iff.1 k2;exact(h3 i u q k1 hq).jh
theorem Nn(h:∀q∈qs,rl q<=10000000000):Few (jh qs):=fun x U=>by
 obtain⟨q,hq,rfl⟩:=aV.1 U;exact⟨aX (gI q) (h q hq),aX (fU q) (h q hq)⟩
section
variable{S:Nat->Prop}{w:World}{v u:Value}{M:List (List (Int×Int))}{b:List (Int×Int)}
end
theorem dD.l(h:dD w S v GE)(hq:∀r∈GE,∀q∈r,rl q<=100000):fT w S v GE:=by
 obtain⟨rv,I,G,h3⟩:=h;exact⟨rv,I,G,fun i u x k1 k2=>(h3 i u x k1 k2).l (hq x (aC k2))⟩
theorem lW(M:List (List Rat))(x:List Rat):(lA M x).length=M.length:=aL ..
theorem Nl{n:Nat}(hM:Ht M h)(U:∀q∈x,rl q+1<=h)(G:2<=h)(W:∀r∈M,r.length<=n):∀q∈lA M x,rl q<=2*h*n+2:=fun q hq=>by
 obtain⟨r,hr,rfl⟩:=aV.1 hq;have h3:=si (hM r hr) U G r.length;have:=bX (2*h) (W r hr);omega
theorem e9.zero:e9 w S (.agg #[.bool false,nls,.bool false,nls]) 0:=
 ⟨_,_,_,_,0,0,rfl,⟨false,[],⟨_,rfl,dc.nil _ _⟩,rfl,aR _⟩,⟨false,[],⟨_,rfl,dc.nil _ _⟩,rfl,aR _⟩,bi⟩
theorem aAx(F:Old S w)(hM:fT w S v M)(U:dK w S u x)(Ov:∀r∈M,r.length=x.length)(hqM:Ht M h)(hqx:∀q∈x,rl q+1<=h)(G:2<=h)(hb:2*h*x.length<=90000)(hR:M.length<=1000000):
  eH PG GT.zy #[v,u] w (eR w fun v' Y=>cX Y (Nf w Y) v' (lA M x)):=by
 have V:=bR w;obtain⟨am,cm,rfl,SB,Qr⟩:=dI.shape hM;obtain⟨ax,cx,rfl,To,-⟩:=dT.shape U;unfold maxLen at Qr;refine DG bv ?_
 refine⟨Nat×List (List Value)×World×Iv,fun z=>⟨[(0,sV am M.length cm),(1,sV ax x.length cx),(5,.o (.w 0 z.2.1.length)),(6,iN z.1)],[(0,.vec T.Rat 4 z.2.1.flatten)],1,z.2.2.2,z.2.2.1⟩,fun z=>M.length-z.1,
  fun z=>z.1<=M.length/\Bq w z.2.2.1/\Fc z.2.2.1 (Cf w z.2.2.2) z.2.1 ((lA M x).take z.1),?_,?_⟩
 .intro O J r
  exact⟨(0,[],J,[]),⟨aR _,V.tr r.cZ,by simp[Fc]⟩,Sub.nil 5 T.Rat 4 rfl (by simp[kK,SV.sc,At.sc,fc]) r fun In r1=>
   sbgn [] r1⟩
 rintro⟨i,A,w1,iv⟩ ⟨D,V,hC⟩;dsimp only at D V hC ⊢;have QW:A.length=i:=by rw[hC.1,ah,lW];omega
 have PM:=eP hC.ma;apply bS<;>intro Ou
 .have Ou:=dL Ou;obtain⟨ra,S6⟩:=gO M i;have Uq:=Ov ra (aC S6);obtain⟨adm,um,S7,QZ,km1,km2⟩:=dI.load hM S6;obtain⟨au,cu,rfl,hcu,-⟩:=dT.shape QZ;refine⟨adm,S7,be,.slice au ra.length cu,rd1 km2 V (F _ km1),?_⟩;refine cQ (cE V (pR cY (fD ra x ra.length)) (fun O J r=>aDS (oS F r) (dK.cR QZ ((kS V r F))) (dK.cR U ((kS V r F))) Uq (hqM ra (aC S6)) hqx G (by rw[Uq];exact hb)) ?_);rintro O _ _ Pa PA r L V E W;replace hC:=hC.cS r oF L (mC E);have hd:=W.cP (nw r E);obtain⟨A0,A1,A2,A3,A4,A5,A6,A7,rfl⟩:=hd.shape;have TH:Fc Pa (Cf w PA) (A++[rC A0 A1 A2 A3 A4 A5 A6 A7]) ((lA M x).take (i+1)):=by
   have e:(lA M x)[i]? =some (fD ra x ra.length):=by rw[lA,aO,S6];rfl
   rw[bB,e];exact hC.push hd.sd
  have QI:A.flatten++(rC A0 A1 A2 A3 A4 A5 A6 A7:List Value)=(A++([rC A0 A1 A2 A3 A4 A5 A6 A7]:List (List Value))).flatten:=by simp
  refine .inl ?_;refine⟨be,be,mx,((i+1:Nat):Int),wo,?_⟩;intro I' w3 R;exact⟨(i+1,A++[rC A0 A1 A2 A3 A4 A5 A6 A7],w3,_),⟨Ou,V.tr R.cZ,TH.rel R oF⟩,sbgn [(0,2)] R ⟨by dsimp only;rw[<-QI];rfl,trivial⟩ ⟨rfl,rfl,by dsimp only;rw[l1];rfl,rfl,trivial⟩,dec Ou⟩
 have Ou:=dE D Ou;intro J8 we re;refine⟨_,rfl,V.tr re.cZ,?_⟩;rw[bH (by rw[lW];omega)]at hC;have h5:=re.iD (id:=0) (sz:=4) (m:=A.length) rfl PM mx bi hC.one;have h6:=hC.rel re oF;refine⟨A,?_,h6.1,h6.ma,fun j Z q k1 k2=>(h6.2 j Z q k1 k2).cP fun _ X=>Cv.nw X re⟩;rw[<-hC.1];exact h5.cP fun g X=>.inr X
section
variable{S:Nat->Prop}{w:World}{v u:Value}{M:List (List (Int×Int))}{x:List Rat}
end
theorem oL(q:Rat):rs (q-0)=rs q:=by rw[show q-0=q by grind]
theorem kh(n:Int)(w:World)(h1n: -9223372036854775808<=n)(h2n:n<=9223372036854775807):eH PG GT.uC #[iV n] w (eR w fun v' Y=>cY Y (Nf w Y) v' (n:Rat)):=by
 have V:=bR w;refine ym bv ?_;refine cQ (cE V (pR cY ((n:Rat))) (fun O J r=>KN n J h1n h2n) ?_);rintro O _ _ _ PA r L V E W;have hd:=W.cP (nw r E);obtain⟨A0,A1,A2,A3,A4,A5,A6,A7,rfl⟩:=hd.shape;exact rtn V fun J8 we re=>hd.out re oF
theorem oM(F:Old S w)(hq:e9 w S v q):eH PG GT.xA #[v] w (eR w fun v' _=>∃d,v'= .bool d/\(d=true↔q=0)):=by
 have V:=bR w;obtain⟨f0,f1,f2,f3,f4,f5,f6,f7,rfl⟩:=hq.shape;refine AU bv ?_;refine cQ (cE V (pE (iV (rs q))) (fun O J r=>(KO (oS F r) (hq.v.cR (kS V r F)) (e9.zero (S:=S)).v).mono fun _ _ ⟨v2,e1,e2,e3⟩=>⟨v2,e1,e2,by rw[e3,oL]⟩) ?_);rintro O _ _ _ PA r L V E rfl;intro J8 we re;refine⟨_,rfl,V.tr re.cZ,_,rfl,?_⟩;rw[beq_iff_eq];exact lV
theorem KP{p:Rat}(F:Old S w)(hp:e9 w S v p)(hq:e9 w S u q)(h0:q≠0):eH PG GT.zt #[v,u] w (eR w fun v' Y=>cY Y (Nf w Y) v' (p / q)):=by
 have V:=bR w;obtain⟨f0,f1,f2,f3,f4,f5,f6,f7,rfl⟩:=hp.shape;obtain⟨g0,g1,g2,g3,g4,g5,g6,g7,rfl⟩:=hq.shape;refine DC bv ?_;refine cQ (cE V (fun _ J v Y=>∃r,v= .tuple #[r,iV 0]/\cY Y (Nf J Y) r (p / q)) (fun O J r=>(aDF (oS F r) (hp.v.cR (kS V r F)) (hq.v.cR (kS V r F))).mono fun _ _ ⟨v2,e1,e2,e3⟩=>⟨v2,e1,e2,e3.elim (fun h=>absurd h.1 h0) fun h=>h.2⟩) ?_);rintro O _ _ _ PA r L V E ⟨q1,rfl,k1⟩;have hd:=k1.cP (nw r E);obtain⟨s1_0a,s1_0b,s1_0c,s1_0d,s1_0e,s1_0f,s1_0g,s1_0h,rfl⟩:=hd.shape;exact rtn V fun J8 we re=>hd.out re oF
theorem zG(F:Old S w)(hq:e9 w S v q):eH PG GT.AB #[v] w (eR w fun v' Y=>cY Y (Nf w Y) v' (-q)):=by
 have V:=bR w;obtain⟨f0,f1,f2,f3,f4,f5,f6,f7,rfl⟩:=hq.shape;refine DJ bv ?_;refine cQ (cE V (pR cY (-q)) (fun O J r=>(aA8 (oS F r) (e9.zero (S:=S)).v (hq.v.cR (kS V r F))).mono fun _ _ ⟨v2,e1,e2,e3⟩=>⟨v2,e1,e2,by rwa [show (0:Rat)-q= -q by grind]at e3⟩) ?_);rintro O _ _ _ PA r L V E W;have hd:=W.cP (nw r E);obtain⟨A0,A1,A2,A3,A4,A5,A6,A7,rfl⟩:=hd.shape;exact rtn V fun J8 we re=>hd.out re oF
theorem aA9(F:Old S w)(U:dK w S v xs)(hy:dK w S u ys)(hl:xs.length<=ys.length)(hqx:∀q∈xs,rl q+1<=h)(hqy:∀q∈ys,rl q+1<=h)(G:2<=h)(hb:2*h*xs.length<=90000):
  eH PG GT.zq #[v,u] w (eR w fun v' Y=>cY Y (Nf w Y) v' (fD xs ys xs.length)):=by
 have V:=bR w;obtain⟨ax,cx,rfl,To,UJ⟩:=dT.shape U;obtain⟨ay,cy,rfl,hcy,-⟩:=dT.shape hy;unfold maxLen at UJ;refine DB bv ?_;refine cQ (cE V (pR cY (((0:Int):Rat))) (fun O J r=>kh 0 J bi bi) ?_);rintro O _ _ _ PA r L V E W;have hd:=W.cP (nw r E);obtain⟨A0,A1,A2,A3,A4,A5,A6,A7,rfl⟩:=hd.shape;rw[show ((0:Int):Rat)=fD xs ys 0 from rfl]at hd
 refine⟨Nat×(Bool×Bool)×(Option Addr×Option Addr)×(Nat×Nat×Nat×Nat)×World×Iv,fun z=>⟨[(1,sV ay ys.length cy),(4,pP 0 0),(5,pP 1 0),(9,sV ax xs.length cx),(10,iZ xs.length),(11,iN z.1)],[(1,.box T.Rat [.v (.bool z.2.1.1),.v (.slice z.2.2.1.1 z.2.2.2.1.1 z.2.2.2.1.2.1),.v (.bool z.2.1.2),.v (.slice z.2.2.1.2 z.2.2.2.1.2.2.1 z.2.2.2.1.2.2.2)]),(0,.box T.Rat [.v (.bool false),.v nls,.v (.bool false),.v nls])],2,z.2.2.2.2.2,z.2.2.2.2.1⟩,fun z=>xs.length-z.1,
  fun z=>z.1<=xs.length/\Bq w z.2.2.2.2.1/\cY z.2.2.2.2.1 (Cf w z.2.2.2.2.2) (.agg #[.bool z.2.1.1,.slice z.2.2.1.1 z.2.2.2.1.1 z.2.2.2.1.2.1,.bool z.2.1.2,.slice z.2.2.1.2 z.2.2.2.1.2.2.1 z.2.2.2.1.2.2.2]) (fD xs ys z.1),?_,?_⟩
 .intro O J r;exact⟨(0,(A0,A4),(A1,A5),(A2,A3,A6,A7),J,PA),⟨bv,V.tr r.cZ,hd.rel r oF⟩,sbgn [] r⟩
 rintro⟨i,⟨p0,p4⟩,⟨p1,p5⟩,⟨p2,p3,p6,p7⟩,w1,iv⟩ ⟨D,V,hd⟩;dsimp only at D V hd ⊢;apply bS<;>intro Ou
 .have Ou:=dL Ou;have hs:=si hqx hqy G i;have Qy:2*h*i<=2*h*xs.length:=bX _ D;have hs3:2*h*1<=2*h*xs.length:=bX _ be;obtain⟨x,QB⟩:=gO xs i;obtain⟨y,Sn⟩:=gO ys i;have hx3:=hqx x (aC QB);have hy3:=hqy y (aC Sn);have RX:xs.getD i 0=x:=by rw[List.getD,QB];rfl
  have Xl:ys.getD i 0=y:=by rw[List.getD,Sn];rfl
  have hm:=fh x y;obtain⟨adx,csx,QU,Qu,-,Pq⟩:=dT.load U QB;obtain⟨ady,csy,VS,Rt,-,RL⟩:=dT.load hy Sn;obtain⟨f0,f1,f2,f3,f4,f5,f6,f7,rfl,Qu⟩:=Qu;obtain⟨q0,q1,q2,q3,q4,q5,q6,q7,rfl,Rt⟩:=Rt;refine⟨adx,QU,be,rC f0 f1 f2 f3 f4 f5 f6 f7,rfl,rdO Pq V F,?_⟩;refine cQ (cE V (fun _ J v Y=>∃d,v= .bool d/\(d=true↔x=0)) (fun O J r=>oM (oS F r) (Qu.cR (kS V r F))) ?_);rintro O _ _ _ Oy r L V E ⟨d1,rfl,Pj⟩;replace hd:=hd.cS r oF L (mC E)
  cases d1
  .refine⟨ady,VS,be,rC q0 q1 q2 q3 q4 q5 q6 q7,rfl,rdO RL V F,?_⟩;refine cQ (cE V (fun _ J v Y=>∃d,v= .bool d/\(d=true↔y=0)) (fun O J r=>oM (oS F r) (Rt.cR (kS V r F))) ?_);rintro O _ _ _ PH r L V E ⟨d2,rfl,QY⟩;replace hd:=hd.cS r oF L (mC E)
   cases d2
   .refine dP (idO 9) ?_;refine⟨ady,VS,be,rC q0 q1 q2 q3 q4 q5 q6 q7,rfl,rdO RL V F,?_⟩;refine cE V (pR cY (x*y)) (fun O J r=>DP (oS F r) (Qu.v.cR (kS V r F)) (Rt.v.cR (kS V r F))) ?_;rintro O _ _ _ PV r L V E W;replace hd:=hd.cS r oF L (mC E);have hp:=W.cP (nw r E);obtain⟨C0,C1,C2,C3,C4,C5,C6,C7,rfl⟩:=hp.shape;refine cE V (pR cY (fD xs ys i+x*y)) (fun O J r=>Gm (rlo r oF) ((hd.rel r oF).v be) ((hp.rel r oF).v be)) ?_;rintro O _ _ _ Qk r L V E W;have Pc:=W.cP (nw r E);obtain⟨F0,F1,F2,F3,F4,F5,F6,F7,rfl⟩:=Pc.shape;rw[show fD xs ys i+x*y=fD xs ys (i+1) by rw[fD,RX,Xl]]at Pc;refine inc i ?_;intro I' w3 R;exact⟨(i+1,(F0,F4),(F1,F5),(F2,F3,F6,F7),w3,_),⟨Ou,V.tr R.cZ,Pc.rel R oF⟩,sbgn [] R,dec Ou⟩
   .have Q8:y=0:=QY.1 rfl;rw[show fD xs ys i=fD xs ys (i+1) by rw[fD,RX,Xl,Q8,bF,bV]]at hd;refine inc i ?_;intro I' w3 R;exact⟨(i+1,(p0,p4),(p1,p5),(p2,p3,p6,p7),w3,_),⟨Ou,V.tr R.cZ,hd.rel R oF⟩,sbgn [] R,dec Ou⟩
  .have SS:x=0:=Pj.1 rfl;rw[show fD xs ys i=fD xs ys (i+1) by rw[fD,RX,Xl,SS,bI,bV]]at hd;refine inc i ?_;intro I' w3 R;exact⟨(i+1,(p0,p4),(p1,p5),(p2,p3,p6,p7),w3,_),⟨Ou,V.tr R.cZ,hd.rel R oF⟩,sbgn [] R,dec Ou⟩
 have Ou:=dE D Ou;subst Ou;exact rtn V fun J8 we re=>hd.out re oF
end Go.Ex
