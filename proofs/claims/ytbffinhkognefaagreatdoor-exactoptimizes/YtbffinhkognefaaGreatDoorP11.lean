/- Texts X79 to X96: lemmas, each with its conditions. -/
import Derived.Test.YtbffinhkognefaaGreatDoorP10
namespace Go.Ex
open Go Go.Sx Go.Proofs
variable{H:Hp}{iv:Iv}{M:List (List (Int×Int))}{Z:List (List Value)}{qs:List Rat}{cs:List Value}{B nx:Nat}{S:Nat->Prop}{O:Nat->Sx.eH}{v:Value}{w J:World}
theorem OW{h0:Nat}(W:Old S w)(h:dR w S v M)(hL:dS w S v (dT M))(Qw:∀r∈M,r.length=dM M)(hR:M.length<=1000)(U:dM M<=1000)(TX:Ht (dT M) h0)(I:2<=h0)(TH:4^(dT M).length*h0<=90000):
  eL PG FS.vA #[v] w (eY w fun v' _=>v'=iV (dG (dT M) (dM M)).2.length):=by
 have G:=bR w;have ZN:(dT M).length=M.length:=by simp[dT]
 have hlen:iq (dM M) (dT M):=fun r hr=>by
  rw[dT]at hr;obtain⟨x,E,rfl⟩:=bE.1 hr;rw[aO];exact Qw x E
 replace h:=dR.arg h [];replace hL:=dS.arg hL [];obtain⟨am,cm,rfl,SF,TG⟩:=dH.shape h;refine Ca ce ?_;refine cW (cE G (pE (iV (dM M))) (fun O J r=>qn (rlo r W) (dR.rel h r W)) ?_);rintro O _ _ _ Pv r L G h_ rfl;replace hL:=dS.cS hL r W L (mC h_);refine cW (cU (GT:=fun _ J v F=>∃vm vp,v= .tuple #[vm,vp]/\dS F (Nw (Cv S w.heap.size Pv) J F) vm (dG (dT M) (dM M)).1/\eD F (Nf J F) vp (dG (dT M) (dM M)).2) (fun O J r=>CJ (rlo r W) (dS.rel hL r W) hlen be be lr TX I TH) ?_);rintro O Qq v2 QT r L A ⟨vm,vp,rfl,k1,k2⟩;replace G:=G.tr A;have hA:=dS.old k1 r.cZ;have hP:=eD.ep (S:=FF) k2 r.cZ (iv:=(Qq.heap.size,QT.heap.size)::Pv) aF;generalize (Qq.heap.size,QT.heap.size)::Pv=iv2 at*
 obtain⟨aA,cA,rfl,hcA,-⟩:=dH.shape hA;have hPs:=hP;obtain⟨-,-,-,ap,cp,rfl,hcp,-⟩:=hPs;exact rtn G fun GE we re=>rfl
def gQ(w:World)(S:Nat->Prop)(rv:List Value)(Fd:List (List Rat)):Prop:=rv.length=Fd.length/\(∀u∈rv,u.oneCell'=true)/\∀(i:Nat) u r,rv[i]? =some u->Fd[i]? =some r->cg w S u r
section
variable{S S':Nat->Prop}{H:Hp}{nx:Nat}{iv K:Iv}{B:Nat}{w J F:World}{O:Nat->Sx.eH}{rv:List Value}{Fd:List (List Rat)}
theorem gQ.cX(h:gQ w S rv Fd)(R:∀g,S g->F.heap[g]? =w.heap[g]?):gQ F S rv Fd:=⟨h.1,h.2.1,fun i u x Y I=>cg.cX (h.2.2 i u x Y I) R⟩
theorem gQ.cV(h:gQ w S rv Fd)(R:∀g,S g->S' g):gQ w S' rv Fd:=⟨h.1,h.2.1,fun i u x Y I=>cg.cV (h.2.2 i u x Y I) R⟩
theorem gQ.rel(h:gQ w (Cv S B iv) rv Fd)(r:Rel H nx iv B w O J)(W:∀g,S g->g<B):gQ J (Cv S B iv) rv Fd:=h.cX fun _ V=>rls r W V
theorem gQ.cS(h:gQ w (Cv S B iv) rv Fd)(r:Rel H nx iv B w O J)(W:∀g,S g->g<B)(L:Ext J F)(hm:∀p,p∈iv->p∈K):gQ F (Cv S B K) rv Fd:=
 ((h.rel r W).cX fun g V=>L.block g (rlo r W g V)).cV fun _ V=>V.mono hm
theorem gQ.push{u:Value}{x:List Rat}(h:gQ w S rv Fd)(hu:u.oneCell'=true)(E:cg w S u x):gQ w S (rv++[u]) (Fd++[x]):=by
 refine⟨by simp[h.1],fun v hv=>?_,fun i v y Y I=>?_⟩
 .rcases bB.1 hv with hv|hv
  .exact h.2.1 v hv
  .simp at hv;subst hv;exact hu
 .rcases aW i rv.length with N|N
  .rw[aN N]at Y;rw[aN (by rw[<-h.1];exact N)]at I;exact h.2.2 i v y Y I
  .have Vz:i=rv.length:=by have:=(aH.1 Y).1;simp at this;omega
   subst Vz;rw[aP lr,bY]at Y;rw[h.1,aP lr,bY]at I;simp at Y I;subst Y I;exact E
end
theorem aA6(r:Rel H nx iv B w O J){id n:Nat}(h:dV H id=some (.arr T.Rat Z.flatten))(hl:Z.length=n)(h4:∀cs∈Z,cs.length=4)(U:n<=maxLen):
  J.ownsRow 0 T.Rat 4 (.slice (some ⟨(O id).g,0,none⟩) n n) n Z.flatten:=by
 have hf:=fN h4;rw[hl]at hf;exact⟨hf,.inr ⟨(O id).g,n,Z.flatten.toArray,rfl,ae _,r.arr id _ _ h,lr,U,by simpa using hf,by rw[<-hf];exact bK⟩⟩
theorem gF.qp(r:Rel H nx iv B w O J){id n:Nat}(h:dV H id=some (.arr T.Rat Z.flatten))(hl:Z.length=n)(U:n<=maxLen)(hc:Fc w (Cv FF B iv) Z qs):
  gF J S B (((O id).g,(O id).g+1)::iv) (.slice (some ⟨(O id).g,0,none⟩) n n) n qs:=by
 refine⟨⟨Z,aA6 r h hl hc.oy U,hl,(hc.cX fun g V=>rls r (iw B) V).cV fun g V=>⟨?_,fun e=>?_⟩⟩,fun g V=>?_⟩
 .exact qj (V.mono fun p hp=>aD _ hp)
 .injection e with e;exact Rel.not r (iw B) V id _ h (r.fits h).1 e
 .injection V with V;subst V;exact .inr ⟨(r.low id _ h (r.fits h).1).1,_,_,aF,lr,cG _⟩
theorem gF.aAP{n:Nat}(h:gF w S B iv v n qs):cg w (Cv S B iv) v qs:=by
 obtain⟨Z,Y,I⟩:=h.read;exact⟨Z,Y,I.1,I.oy,I.2⟩
def l9(w:World)(S:Nat->Prop)(Z:List (List Value))(k:Nat):Prop:=∀(j:Nat) cs,j<k->Z[j]? =some cs->j6 w S cs 0
theorem l9.rel{k:Nat}(h:l9 w (Cv S B iv) Z k)(r:Rel H nx iv B w O J)(W:∀g,S g->g<B):l9 J (Cv S B iv) Z k:=fun j cs Y I=>(h j cs Y I).cX fun _ V=>rls r W V
theorem l9.cS{K:Iv}{F:World}{k:Nat}(h:l9 w (Cv S B iv) Z k)(r:Rel H nx iv B w O J)(W:∀g,S g->g<B)(L:Ext J F)(hm:∀p,p∈iv->p∈K):l9 F (Cv S B K) Z k:=fun j cs Y I=>
 (((h.rel r W) j cs Y I).cX fun g V=>L.block g (rlo r W g V)).cV fun _ V=>V.mono hm
theorem l9.push{k:Nat}(h:l9 w S Z k)(hc:j6 w S cs 0):l9 w S (Z.set k cs) (k+1):=fun j x hj E=>by
 rw[List.getElem?_set]at E;split at E
 .split at E
  .injection E with E;subst E;exact hc
  .cases E
 .exact h j x be E
theorem NX{k:Nat}(h:∀x∈Z,x.length=4)(hc:cs.length=4):∀x∈Z.set k cs,x.length=4:=fun x E=>by
 rcases bQ E with Y|Y
 .exact h x Y
 .rw[Y];exact hc
structure yh(w:World)(S:Nat->Prop)(Z:List (List Value))(qs:List Rat):Prop where
 len:Z.length=qs.length
 four:∀cs∈Z,cs.length=4
 at_:∀(j:Nat) cs q,Z[j]? =some cs->qs[j]? =some q->j6 w S cs q
section
variable{S S':Nat->Prop}{H:Hp}{nx:Nat}{iv K:Iv}{B:Nat}{w J F:World}{O:Nat->Sx.eH}{Z:List (List Value)}{qs:List Rat}
theorem yh.nil:yh w S [] []:=⟨rfl,fun _ h=>(by cases h),fun _ _ _ h=>by cases h⟩
theorem yh.cX(h:yh w S Z qs)(R:∀g,S g->F.heap[g]? =w.heap[g]?):yh F S Z qs:=⟨h.len,h.four,fun j cs q Y I=>by
 obtain⟨b,a,n,c,b2,a2,n2,c2,e,hr⟩:=h.at_ j cs q Y I
 exact⟨b,a,n,c,b2,a2,n2,c2,e,hr.cX R⟩⟩
theorem yh.cV(h:yh w S Z qs)(R:∀g,S g->S' g):yh w S' Z qs:=⟨h.len,h.four,fun j cs q Y I=>by
 obtain⟨b,a,n,c,b2,a2,n2,c2,e,hr⟩:=h.at_ j cs q Y I
 exact⟨b,a,n,c,b2,a2,n2,c2,e,hr.cV R⟩⟩
theorem yh.rel(h:yh w (Cv S B iv) Z qs)(r:Rel H nx iv B w O J)(W:∀g,S g->g<B):yh J (Cv S B iv) Z qs:=h.cX fun _ V=>rls r W V
theorem yh.cS(h:yh w (Cv S B iv) Z qs)(r:Rel H nx iv B w O J)(W:∀g,S g->g<B)(L:Ext J F)(hm:∀p,p∈iv->p∈K):yh F (Cv S B K) Z qs:=
 ((h.rel r W).cX fun g V=>L.block g (rlo r W g V)).cV fun _ V=>V.mono hm
theorem yh.push{q:Rat}(h:yh w S Z qs)(hc:j6 w S cs q)(h4:cs.length=4):yh w S (Z++[cs]) (qs++[q]):=by
 refine⟨by simp[h.len],fun x E=>?_,fun j x p Y I=>?_⟩
 .rcases bB.1 E with E|E
  .exact h.four x E
  .rw[aX.1 E];exact h4
 .rcases aW j Z.length with N|N
  .rw[aN N]at Y;rw[aN (by rw[<-h.len];exact N)]at I;exact h.at_ j x p Y I
  .have Vz:j=Z.length:=by have:=(aH.1 Y).1;simp at this;omega
   subst Vz;rw[aP lr,bY]at Y;rw[h.len,aP lr,bY]at I;simp at Y I;subst Y I;exact hc
theorem yh.one(h:yh w S Z qs):∀u∈Z.flatten,u.oneCell'=true:=fun u hu=>by
 obtain⟨cs,hc,hu⟩:=List.mem_flatten.1 hu;obtain⟨j,hj⟩:=az hc;obtain⟨_,_,_,_,_,_,_,_,rfl,_⟩:=h.at_ j cs _ hj (aE (by rw[<-h.len];exact(aH.1 hj).1));simp at hu;rcases hu with rfl|rfl|rfl|rfl<;>rfl
theorem yh.list(h:yh w S Z qs)(hs:fe w S 4 v Z.flatten Z.length):cg w S v qs:=⟨Z,h.len▸hs,h.len,h.four,h.at_⟩
end
end Go.Ex
namespace Go.Sx
open Go Go.Ex Go.Proofs
variable{cs:List Value}{O:Nat->Sx.eH}
theorem Rel.Df{H:Hp}{nx:Nat}{iv:Iv}{B:Nat}{w J:World}(r:Rel H nx iv B w O J){T:Nat->Prop}{id t m sz:Nat}(h:dV H id=some (.vec t sz cs))(hm:cs.length=m*sz)(Tf:m<=maxLen)(hs:0<sz)(Y:∀u∈cs,u.oneCell'=true)(hT:(O id).nil=false->T (O id).g):
  fe J T sz ((At.w id m).den O) cs m:=by
 rcases r.fits h with⟨U,rfl⟩|⟨U,spare,I,h3,h4⟩
 .have UR:m=0:=by
   rcases bH m with h|h
   .exact h
   .have:=Nat.mul_pos h hs;simp at hm;omega
  subst UR;have hden:(At.w id 0).den O=nls:=by simp[At.den,U]
  rw[hden];exact⟨ae _,ce,ce,none,0,rfl,lr,fun j u h=>by cases h⟩
 .have hden:(At.w id m).den O= .slice (some ⟨(O id).g,0,none⟩) m (O id).cap:=by simp[At.den,U]
  rw[hden];refine⟨Tf,hm,Y,_,_,rfl,?_,fun j u hu=>⟨_,rfl,hT U,?_⟩⟩
  .rw[aV,hm]at h3;exact Nat.le_of_mul_le_mul_right (show m*sz<=(O id).cap*sz by omega) hs
  .rw[dF,cell_of I,aS,aN (aH.1 hu).1];exact hu
end Go.Sx
namespace Go.Ex
open Go Go.Sx Go.Proofs
variable{O:Nat->Sx.eH}
theorem aBJ{id n:Nat}:((At.w id n).den O).oneCell'=true:=by
 cases h:(O id).nil<;>simp[At.den,h,Value.oneCell']
end Go.Ex
namespace Go.Ex
variable{M:List (List Rat)}{s:List (List Rat)×List Nat}{r:List Rat}
theorem kh(M:List (List Rat))(cols:Nat):(dG M cols).1.length=M.length:=by
 have key:∀(l:List Nat) (s:List (List Rat)×List Nat),(l.foldl e9 s).1.length=s.1.length:=by
  intro l
  induction l with
  |nil=>exact fun s=>rfl
  |cons c l ih=>exact fun s=>by rw[List.foldl_cons,ih,vj]
 exact key _ _
theorem uc{M:List (List Rat)}{c:Nat}:∀f k j,k<=j->j<gW M c f k->dU M j c=0
 |0,k,j,Y,I=>by simp only[gW]at I;omega
 |f+1,k,j,Y,I=>by
  unfold gW at I;split at I
  .rename_i h0;rcases aW k j with h|h
   .exact uc f (k+1) j h I
   .rw[show j=k by omega];exact h0
  .omega
theorem yJ(c:Nat)(hle:s.2.length<=s.1.length):(e9 s c=s/\∀j,s.2.length<=j->j<s.1.length->dU s.1 j c=0)\/
  ∃k,s.2.length<=k/\k<s.1.length/\dU s.1 k c≠0/\e9 s c=(du (scaled (fM [] s.1 s.2.length k) s.2.length c) s.2.length c s.1.length,s.2++[c]):=by
 have Y:=vl s.1 c (s.1.length-s.2.length) s.2.length;by_cases R:gW s.1 c (s.1.length-s.2.length) s.2.length=s.1.length
 .exact .inl ⟨AJ (.inr R),fun j hj hl=>uc (s.1.length-s.2.length) s.2.length j hj be⟩
 .exact .inr ⟨_,Y.1,be,vo s.1 c _ _ be,AK Y.1 be (fun j I h3=>uc _ _ j I h3) (vo s.1 c _ _ be)⟩
theorem vq{i:Nat}(h:i<M.length):M.getD i []∈M:=by
 rw[List.getD,aE h];exact bp h
theorem KF{p:Rat}{s:List Rat}{c:Nat}(h:c<r.length):(r.mapIdx (EJ p s)).getD c 0=r.getD c 0+p*s.getD c 0:=by
 simp only[List.getD,List.getElem?_mapIdx,aE h]
 rfl
theorem AN{k:Rat}{c:Nat}:(r.map (· *k)).getD c 0=r.getD c 0*k:=by
 simp only[List.getD,aU]
 cases r[c]? with
 |none=>exact(bj k).symm
 |some q=>rfl
theorem AO{c k n:Nat}(hl:iq n s.1)(Y:s.2.length<=k)(I:k<s.1.length)(h3:dU s.1 k c≠0)(e:e9 s c=(du (scaled (fM [] s.1 s.2.length k) s.2.length c) s.2.length c s.1.length,s.2++[c])):
  (∀t,dU (e9 s c).1 s.2.length t=dU s.1 k t*(1 / dU s.1 k c))/\
  ∀j,j<s.1.length->j≠s.2.length->∀t,t<n->dU (e9 s c).1 j t=dU s.1 (if j=k then s.2.length else j) t+ -(dU s.1 (if j=k then s.2.length else j) c)*(dU s.1 k t*(1 / dU s.1 k c)):=by
 have hp:s.2.length<s.1.length:=by omega
 have hsw:dU (fM [] s.1 s.2.length k) s.2.length c=dU s.1 k c:=vt hp I;have hpiv:(scaled (fM [] s.1 s.2.length k) s.2.length c).getD s.2.length []=(s.1.getD k []).map (· *(1 / dU s.1 k c)):=by
  unfold scaled;rw[hsw,List.getD,aQ (by rw[fU];exact hp)];simp only[Option.getD_some]
  congr 1;rw[List.getD,List.getD,DG hp I]
 have Pm:∀j,j<s.1.length->j≠s.2.length->(scaled (fM [] s.1 s.2.length k) s.2.length c)[j]? =some (s.1.getD (if j=k then s.2.length else j) []):=fun j hj Po=>by
  unfold scaled;rw[aZ (Ne.symm Po)];unfold fM;by_cases VK:j=k
  .subst VK;rw[aQ (by simpa using hj),aM rfl]
  .rw[aZ (Ne.symm VK),aZ (Ne.symm Po),aI VK,List.getD,aE hj];rfl
 have hgp:(du (scaled (fM [] s.1 s.2.length k) s.2.length c) s.2.length c s.1.length).getD s.2.length []=(s.1.getD k []).map (· *(1 / dU s.1 k c)):=by
  rw[<-hpiv];simp only[List.getD,ud]
 rw[e];refine⟨fun t=>?_,fun j hj Po t ht=>?_⟩
 .show((du (scaled (fM [] s.1 s.2.length k) s.2.length c) s.2.length c s.1.length).getD s.2.length []).getD t 0=_;rw[hgp,AN];rfl
 .have hgj:(du (scaled (fM [] s.1 s.2.length k) s.2.length c) s.2.length c s.1.length).getD j []=(s.1.getD (if j=k then s.2.length else j) []).mapIdx (EJ (-((s.1.getD (if j=k then s.2.length else j) []).getD c 0)) ((s.1.getD k []).map (· *(1 / dU s.1 k c)))):=by
   simp only[List.getD,du,List.getElem?_mapIdx,Pm j hj Po,bU,Option.getD_some]
   rw[aM ⟨hj,Po⟩];exact congrArg (fun P=>(s.1.getD (if j=k then s.2.length else j) []).mapIdx (EJ (-((s.1.getD (if j=k then s.2.length else j) []).getD c 0)) P)) hpiv
  show((du (scaled (fM [] s.1 s.2.length k) s.2.length c) s.2.length c s.1.length).getD j []).getD t 0=_;rw[hgj,KF (by rw[hl.getD (by split<;>omega)];exact ht),AN];rfl
theorem AP{x:Rat}(h:x≠0):x*(1 / x)=1:=by rw[bV,cR,Rat.mul_inv_cancel x h]
def Red(n c:Nat)(s:List (List Rat)×List Nat):Prop:=iq n s.1/\s.2.length<=s.1.length/\(∀j t,s.2.length<=j->j<s.1.length->t<c->dU s.1 j t=0)/\(∀p∈s.2,p<c)/\
 ∀i j,i<s.2.length->j<s.1.length->dU s.1 j (s.2.getD i 0)=if j=i then 1 else 0
theorem Red.step{n c:Nat}(h:Red n c s)(hc:c<n):Red n (c+1) (e9 s c):=by
 obtain⟨hl,hle,hz,Ty,hu⟩:=h;rcases yJ c hle with⟨e,h0⟩|⟨k,Y,I,h3,e⟩
 .rw[e];refine⟨hl,hle,fun j t hj Wm ht=>?_,fun p hp=>by have:=Ty p hp;omega,hu⟩;rcases aW t c with h|h
  .exact hz j t hj Wm h
  .rw[show t=c by omega];exact h0 j hj Wm
 .obtain⟨r1,r2⟩:=AO hl Y I h3 e;have hlen:(e9 s c).1.length=s.1.length:=vj s c;have e2:(e9 s c).2=s.2++[c]:=by rw[e]
  have e3:(e9 s c).2.length=s.2.length+1:=by rw[e2];simp
  have SG:∀j,j<s.1.length->j≠s.2.length->dU (e9 s c).1 j c=0:=fun j hj Po=>by
   rw[r2 j hj Po c hc,AP h3,Rat.mul_one,Rat.add_neg_cancel]
  refine⟨hl.step,by rw[e3,hlen];omega,fun j t hj Wm ht=>?_,fun p hp=>?_,fun i j N hj=>?_⟩
  .rw[e3]at hj;rw[hlen]at Wm;rcases aW t c with h|h
   .rw[r2 j Wm be t be,hz k t Y I h,hz (if j=k then s.2.length else j) t (by split<;>omega) (by split<;>omega) h,bj,bL,Rat.zero_add]
   .rw[show t=c by omega];exact SG j Wm be
  .rw[e2]at hp;rcases bB.1 hp with hp|hp
   .have:=Ty p hp;omega
   .rw[aX.1 hp];omega
  .rw[e3]at N;rw[hlen]at hj;rcases aW i s.2.length with h|h
   .have V:(e9 s c).2.getD i 0=s.2.getD i 0:=by rw[e2,List.getD,aN h,<-List.getD]
    have Yx:s.2.getD i 0<c:=Ty _ (by rw[List.getD,aE h];exact bp h);have TE:dU s.1 k (s.2.getD i 0)=0:=hz k _ Y I Yx;rw[V];by_cases hjp:j=s.2.length
    .rw[hjp,r1,TE,bj,aI be]
    .rw[r2 j hj hjp _ be,TE,bj,bL,cI];by_cases VK:j=k
     .rw[aM VK,hu i _ h be,aI be,aI be]
     .rw[aI VK,hu i j h hj]
   .have V:(e9 s c).2.getD i 0=c:=by rw[e2,List.getD,aP h,show i-s.2.length=0 by omega];rfl
    rw[V];by_cases hjp:j=s.2.length
    .rw[hjp,r1,AP h3,aM be]
    .rw[SG j hj hjp,aI be]
theorem kN{M:List (List Rat)}{n:Nat}(hl:iq n M):∀cols,cols<=n->Red n cols (dG M cols)
 |0,_=>⟨hl,ae _,fun _ _ _ _ h=>be,fun p hp=>(by cases hp),fun _ _ h=>(by cases h)⟩
 |c+1,h=>by
  have ih:=kN hl c be;unfold dG at ih ⊢;rw[bz,List.foldl_append];exact ih.step be
abbrev Mx:=Nat->Nat->Rat
def skip(k j:Nat):Nat:=if j<k then j else j+1
def ug(k:Nat):Rat:=if k % 2=1 then -1 else 1
def cw(f:Nat->Rat):Nat->Rat
 |0=>0
 |n+1=>cw f n+f n
def fz:Nat->Mx->Rat
 |0,_=>1
 |n+1,m=>cw (fun k=>ug k*(m 0 k*fz n fun i j=>m (i+1) (skip k j))) (n+1)
theorem cY{f g:Nat->Rat}:∀{n:Nat},(∀k,k<n->f k=g k)->cw f n=cw g n
 |0,_=>rfl
 |n+1,h=>by rw[cw,cw,cY fun k R=>h k be,h n be]
theorem dh:∀(n:Nat),cw (fun _=>0) n=0
 |0=>rfl
 |n+1=>by rw[cw,dh n,cI]
theorem gD(f g:Nat->Rat):∀(n:Nat),cw (fun k=>f k+g k) n=cw f n+cw g n
 |0=>(cI 0).symm
 |n+1=>by rw[cw,cw,cw,gD f g n];grind
theorem fV(p:Rat)(f:Nat->Rat):∀(n:Nat),cw (fun k=>p*f k) n=p*cw f n
 |0=>(bL p).symm
 |n+1=>by rw[cw,cw,fV p f n];grind
theorem gX(f:Nat->Rat)(n:Nat):cw (fun k=> -f k) n= -cw f n:=by
 have h:=fV (-1) f n;rw[show (-1:Rat)*cw f n= -cw f n by grind]at h;rw[<-h];exact cY fun k _=>by grind
theorem Iw{k j n:Nat}(h:j<n):skip k j<n+1:=by unfold skip;split<;>omega
theorem KG{k l:Nat}(h:k<=l)(j:Nat):skip k (skip l j)=skip (l+1) (skip k j):=by
 unfold skip;grind
theorem kH:∀{n:Nat} {m m':Mx},(∀i j,i<n->j<n->m i j=m' i j)->fz n m=fz n m'
 |0,_,_,_=>rfl
 |n+1,m,m',h=>by
  unfold fz;refine cY fun k R=>?_;rw[h 0 k be R,kH fun i j N hj=>h (i+1) (skip k j) be (Iw hj)]
def jG(m:Mx)(r:Nat)(u:Nat->Rat):Mx:=fun i j=>if i=r then u j else m i j
theorem xS(m:Mx)(r k:Nat)(u:Nat->Rat):(fun i j=>jG m (r+1) u (i+1) (skip k j))=jG (fun i j=>m (i+1) (skip k j)) r fun j=>u (skip k j):=by
 funext i j
 unfold jG;by_cases h:i=r
 .rw[aM h,aM be]
 .rw[aI h,aI be]
theorem rn(p:Rat):∀(n r:Nat) (m:Mx),r<n->∀(u v:Nat->Rat),fz n (jG m r fun j=>u j+p*v j)=fz n (jG m r u)+p*fz n (jG m r v)
 |0,_,_,h,_,_=>by omega
 |n+1,0,m,_,u,v=>by
  unfold fz;rw[<-fV,<-gD];refine cY fun k _=>?_;have e:∀x:Nat->Rat,(fun i j=>jG m 0 x (i+1) (skip k j))=fun i j=>m (i+1) (skip k j):=fun x=>by
   funext i j;unfold jG;rw[aI be]
  rw[e,e,e];unfold jG;rw[aM rfl,aM rfl,aM rfl];grind
 |n+1,r+1,m,h,u,v=>by
  unfold fz;rw[<-fV,<-gD];refine cY fun k _=>?_;rw[xS,xS,xS,rn p n r _ be (fun j=>u (skip k j)) fun j=>v (skip k j)];have e:∀x:Nat->Rat,jG m (r+1) x 0 k=m 0 k:=fun x=>by unfold jG;rw[aI be]
  rw[e,e,e];grind
theorem AU{AC:Nat->Nat->Rat}:∀{n:Nat},(∀k l,k<=l->l<n->AC k l+AC (l+1) k=0)->cw (fun k=>cw (AC k) n) (n+1)=0
 |0,_=>by show 0+0=(0:Rat);grind
 |n+1,h=>by
  have ih:=AU (AC:=AC) (n:=n) fun k l Y I=>h k l Y be;have h3:cw (fun k=>AC k n+AC (n+1) k) (n+1)=0:=by
   rw[cY (g:=fun _=>0) fun k R=>h k n be be,dh]
  rw[gD]at h3;rw[cw];have h4:cw (fun k=>cw (AC k) (n+1)) (n+1)=cw (fun k=>cw (AC k) n) (n+1)+cw (fun k=>AC k n) (n+1):=by
   rw[<-gD];rfl
  rw[h4,ih,Rat.zero_add];exact h3
def yK(a b i:Nat):Nat:=if i=a then b else if i=b then a else i
theorem KH(r i:Nat):yK (r+1) (r+2) (i+1)=yK r (r+1) i+1:=by
 unfold yK;by_cases h:i=r
 .rw[aM be,aM h]
 .rw[aI be,aI h];by_cases I:i=r+1
  .rw[aM be,aM I]
  .rw[aI be,aI I]
theorem Lr(k:Nat):ug (k+1)= -ug k:=by
 unfold ug;by_cases h:k % 2=1
 .rw[aM h,aI be];grind
 .rw[aI h,aM be]
theorem Fu(n:Nat)(m:Mx):fz (n+2) m=cw (fun k=>cw (fun l=>ug k*ug l*(m 0 k*m 1 (skip k l))*fz n fun i j=>m (i+2) (skip k (skip l j))) (n+1)) (n+2):=by
 rw[fz];refine cY fun k _=>?_;rw[fz,<-fV,<-fV];refine cY fun l _=>?_;grind
theorem AV:∀(n r:Nat) (m:Mx),r+1<n->fz n (fun i j=>m (yK r (r+1) i) j)= -fz n m
 |0,_,_,h=>by omega
 |1,_,_,h=>by omega
 |n+2,0,m,_=>by
  rw[Fu,Fu,<-gX];have key:cw (fun k=>cw (fun l=>ug k*ug l*(m 1 k*m 0 (skip k l))*(fz n fun i j=>m (i+2) (skip k (skip l j)))+ug k*ug l*(m 0 k*m 1 (skip k l))*fz n fun i j=>m (i+2) (skip k (skip l j))) (n+1)) (n+2)=0:=by
   refine AU fun k l Y I=>?_;have e1:skip k l=l+1:=by unfold skip;rw[aI be]
   have e2:skip (l+1) k=k:=by unfold skip;rw[aM be]
   have e3:(fun i j=>m (i+2) (skip (l+1) (skip k j)))=fun i j=>m (i+2) (skip k (skip l j)):=by
    funext i j;rw[KG Y]
   rw[e1,e2,e3,Lr];grind
  have h4:cw (fun k=>cw (fun l=>ug k*ug l*(m 1 k*m 0 (skip k l))*(fz n fun i j=>m (i+2) (skip k (skip l j)))+ug k*ug l*(m 0 k*m 1 (skip k l))*fz n fun i j=>m (i+2) (skip k (skip l j))) (n+1)) (n+2)=
    cw (fun k=>cw (fun l=>ug k*ug l*(m 1 k*m 0 (skip k l))*fz n fun i j=>m (i+2) (skip k (skip l j))) (n+1)) (n+2)+cw (fun k=>cw (fun l=>ug k*ug l*(m 0 k*m 1 (skip k l))*fz n fun i j=>m (i+2) (skip k (skip l j))) (n+1)) (n+2):=by
   rw[<-gD];exact cY fun k _=>gD _ _ _
  rw[h4]at key;have h5:cw (fun k=> -cw (fun l=>ug k*ug l*(m 0 k*m 1 (skip k l))*fz n fun i j=>m (i+2) (skip k (skip l j))) (n+1)) (n+2)= -cw (fun k=>cw (fun l=>ug k*ug l*(m 0 k*m 1 (skip k l))*fz n fun i j=>m (i+2) (skip k (skip l j))) (n+1)) (n+2):=gX _ _;rw[h5];have h6:cw (fun k=>cw (fun l=>ug k*ug l*(m (yK 0 1 0) k*m (yK 0 1 1) (skip k l))*fz n fun i j=>m (yK 0 1 (i+2)) (skip k (skip l j))) (n+1)) (n+2)=cw (fun k=>cw (fun l=>ug k*ug l*(m 1 k*m 0 (skip k l))*fz n fun i j=>m (i+2) (skip k (skip l j))) (n+1)) (n+2):=by
   refine cY fun k _=>cY fun l _=>?_;have e:∀i,yK 0 1 (i+2)=i+2:=fun i=>by unfold yK;rw[aI be,aI be]
   simp only[e]
   rfl
  rw[show (0:Nat)+1=1 from rfl,h6];grind
 |n+2,r+1,m,h=>by
  rw[fz,fz,<-gX];refine cY fun k _=>?_;have e:(fun i j=>m (yK (r+1) (r+1+1) (i+1)) (skip k j))=fun i j=>m (yK r (r+1) i+1) (skip k j):=by
   funext i j
   rw[show r+1+1=r+2 from rfl,KH]
  have ih:fz (n+1) (fun i j=>m (yK r (r+1) i+1) (skip k j))= -fz (n+1) fun i j=>m (i+1) (skip k j):=AV (n+1) r (fun i j=>m (i+1) (skip k j)) be;rw[e,ih];rw[show yK (r+1) (r+1+1) 0=0 by unfold yK;rw[aI be,aI be]];grind
theorem qK:∀(k n:Nat) (m:Mx),k+1<n->(∀j,j<n->m 0 j=m (k+1) j)->fz n m=0
 |0,n,m,h,L=>by
  have Y:=AV n 0 m h;rw[kH (m':=m) fun i j N hj=>?_]at Y
  .grind
  .unfold yK;by_cases h0:i=0
   .rw[aM h0,h0];exact(L j hj).symm
   .rw[aI h0];by_cases I:i=1
    .rw[aM I,I];exact L j hj
    .rw[aI I]
 |k+1,n,m,h,L=>by
  have Y:=AV n (k+1) m h;rw[qK k n _ be fun j hj=>?_]at Y
  .grind
  .rw[show yK (k+1) (k+1+1) 0=0 by unfold yK;rw[aI be,aI be],show yK (k+1) (k+1+1) (k+1)=k+1+1 by unfold yK;rw[aM rfl]];exact L j hj
theorem Fv(m:Mx)(r:Nat):jG m r (m r)=m:=by
 funext i j
 unfold jG;by_cases h:i=r
 .rw[aM h,h]
 .rw[aI h]
theorem KI{n k:Nat}{m:Mx}(h:k+1<n):fz n (fun i j=>m (yK 0 (k+1) i) j)= -fz n m:=by
 have z:∀u:Nat->Rat,fz n (jG (jG m 0 u) (k+1) u)=0:=fun u=>qK k n _ h fun j _=>by
  unfold jG;rw[aI be,aM rfl,aM rfl]
 have cm:∀u v:Nat->Rat,jG (jG m 0 u) (k+1) v=jG (jG m (k+1) v) 0 u:=fun u v=>by
  funext i j;unfold jG
  by_cases Y:i=k+1
  .rw[aM Y,aI be,aM Y]
  .rw[aI Y,aI Y]
 have l1:∀u v x:Nat->Rat,fz n (jG (jG m 0 u) (k+1) fun j=>v j+1*x j)=fz n (jG (jG m 0 u) (k+1) v)+1*fz n (jG (jG m 0 u) (k+1) x):=fun u v x=>rn 1 n (k+1) _ h v x;have l2:∀u v x:Nat->Rat,fz n (jG (jG m 0 fun j=>v j+1*x j) (k+1) u)=fz n (jG (jG m 0 v) (k+1) u)+1*fz n (jG (jG m 0 x) (k+1) u):=fun u v x=>by
  rw[cm,cm,cm];exact rn 1 n 0 _ be v x
 have Y:=z fun j=>m 0 j+1*m (k+1) j;rw[l1,l2,l2,z,z]at Y;have e1:jG (jG m 0 (m 0)) (k+1) (m (k+1))=m:=by rw[Fv,Fv]
 have e2:jG (jG m 0 (m (k+1))) (k+1) (m 0)=fun i j=>m (yK 0 (k+1) i) j:=by
  funext i j;unfold jG yK
  by_cases Y:i=k+1
  .rw[aM Y,aI be,aM Y]
  .rw[aI Y];by_cases h0:i=0
   .rw[aM h0,aM h0]
   .rw[aI h0,aI h0,aI Y]
 rw[e1,e2]at Y;grind
theorem jN(f:Nat->Rat)(p:Rat)(n:Nat):cw (fun k=>f k*p) n=cw f n*p:=by
 rw[Rat.mul_comm,<-fV];exact cY fun k _=>Rat.mul_comm ..
theorem js(f g:Nat->Rat):∀(n:Nat),cw (fun k=>f k-g k) n=cw f n-cw g n
 |0=>by show(0:Rat)=0-0;grind
 |n+1=>by rw[cw,cw,cw,js f g n];grind
theorem eR{f:Nat->Rat}{i:Nat}:∀{n:Nat},i<n->(∀k,k<n->k≠i->f k=0)->cw f n=f i
 |0,h,_=>by omega
 |n+1,h,hz=>by
  rw[cw];rcases aW i n with Y|Y
  .rw[eR Y fun k R Po=>hz k be Po,hz n be be,cI]
  .obtain rfl:i=n:=by omega
   rw[cY (g:=fun _=>0) fun k R=>hz k be be,dh,Rat.zero_add]
theorem Ll(s:List (List Rat)×List Nat)(c:Nat):(e9 s c).2=s.2\/(e9 s c).2=s.2++[c]:=by
 unfold e9;split
 .dsimp only
  split
  .exact .inl rfl
  .exact .inr rfl
 .exact .inl rfl
theorem mw(M:List (List Rat)):∀c:Nat,(∀p∈((List.range c).foldl e9 (M,[])).2,p<c)/\(((List.range c).foldl e9 (M,[])).2).Pairwise (· < ·)/\((List.range c).filter fun j=>decide (j∉((List.range c).foldl e9 (M,[])).2)).length+((List.range c).foldl e9 (M,[])).2.length=c:=by
 intro c
 induction c with
 |zero=>simp
 |succ c ih=>
  rw[bz,List.foldl_append,List.foldl_cons,List.foldl_nil];generalize (List.range c).foldl e9 (M,[])=s at*
  obtain⟨Y,I,h3⟩:=ih;have hc:c∉s.2:=fun h=>by have:=Y c h;omega
  rcases Ll s c with e|e
  .rw[e];refine⟨fun p hp=>by have:=Y p hp;omega,I,?_⟩;rw[List.filter_append,aV];simp only[List.filter_cons,hc,not_false_eq_true,decide_true,if_true,List.filter_nil,List.length_singleton]
   omega
  .rw[e];refine⟨fun p hp=>?_,?_,?_⟩
   .rcases bB.1 hp with hp|hp
    .have:=Y p hp;omega
    .simp at hp;omega
   .rw[List.pairwise_append];exact⟨I,ce,fun a ha b A=>by simp at A;subst A;exact Y a ha⟩
   .rw[List.filter_append,aV];have:(List.range c).filter (fun j=>decide (j∉s.2++[c]))=(List.range c).filter (fun j=>decide (j∉s.2)):=List.filter_congr fun j hj=>by
     have:=List.mem_range.1 hj;have Po:j≠c:=by omega
     simp[Po]
    have h0:(([c]:List Nat).filter fun j=>decide (j∉s.2++[c])).length=0:=by simp
    rw[this,aV,List.length_singleton,h0];omega
end Go.Ex
namespace Go.Ex
open Go Go.Sx Go.Proofs
variable{next:Act->World->Prop}{Q:Exit->Act->World->Prop}{Fd:KT}{M:List (List Rat)}{qs r xs ys:List Rat}{cs:List Value}{h:Nat}{S S':Nat->Prop}{O:Nat->Sx.eH}{q:Rat}{v:Value}{w F:World}
theorem nk.cX{M:List (List (Int×Int))}(h:nk w S v M)(R:∀g,S g->F.heap[g]? =w.heap[g]?):nk F S v M:=⟨h.1,h.2.1,dS.cX h.2.2.1 R,h.2.2.2⟩
section
variable{S S':Nat->Prop}{H:Hp}{nx:Nat}{iv K:Iv}{B:Nat}{w J F:World}{O:Nat->Sx.eH}{v:Value}{M:List (List (Int×Int))}
end
theorem nk.aBK{M:List (List (Int×Int))}(h:nk w S v M)(L:jm M=0):
  (∀r∈M,r.length=dM M)/\M.length<=5/\dM M<=5/\Ht (dT M) 4/\4^(dT M).length*4<=4096:=by
 obtain⟨Y,I,h3⟩:=Dt L;have h4:M.length<=5:=by have:=h.1;unfold rH at this;omega
 refine⟨Y,h4,?_,fun r hr q hq=>?_,?_⟩
 .cases M with
  |nil=>exact ae _
  |cons r t=>
   have:=h.2.1 r aF;have h5:dM (r::t)=r.length:=rfl;unfold rH at this;omega
 .have:=h.2.2.2.1 r hr q hq;omega
 .have h5:(dT M).length<=5:=by simp[dT];exact h4
  exact aR (Nat.mul_le_mul_right 4 (Nat.pow_le_pow_right bv h5)) bv
theorem Il(x y:Rat):x-y+y=x:=by rw[Rat.sub_eq_add_neg,Rat.add_assoc,Rat.neg_add_cancel,cI]
theorem FG(p q:Rat):p-q=0↔p=q:=by
 constructor
 .intro h;have:=congrArg (· +q) h;simpa [Il,Rat.zero_add]using this
 .intro h;rw[h,Rat.sub_self]
theorem ym{p:Rat}:rs (p-q)=0↔p=q:=by rw[gL,FG]
def dY(xs ys:List Rat):Nat->Rat
 |0=>0
 |i+1=>dY xs ys i+xs.getD i 0*ys.getD i 0
theorem fo{xs ys:List Rat}{h:Nat}(E:∀q∈xs,rl q+1<=h)(hy:∀q∈ys,rl q+1<=h)(I:2<=h):∀i:Nat,rl (dY xs ys i)<=2*h*i+2
 |0=>by rw[dY];exact aR (by decide:rl 0<=2) be
 |i+1=>by
  have h3:=fo E hy I i;have h4:=Ac (dY xs ys i) (xs.getD i 0*ys.getD i 0);have h5:=jl (xs.getD i 0) (ys.getD i 0);have h6:=kl E I i;have h7:=kl hy I i;rw[dY,bZ];omega
theorem CK{i:Nat}(h:xs.getD i 0=0\/ys.getD i 0=0):dY xs ys (i+1)=dY xs ys i:=by
 rw[dY];rcases h with h|h<;>rw[h]<;>simp only[bj,bL,cI]
theorem HM{u:Value}(W:Old S w)(E:eF w S S v xs)(hy:eF w S S u ys)(hl:xs.length=ys.length)(Vv:∀q∈xs,rl q+1<=h)(Vn:∀q∈ys,rl q+1<=h)(I:2<=h)(A:2*h*xs.length<=2000000000):
  eL PG FS.uJ #[v,u] w (eY w fun v' F=>cz F (Nf w F) v' (dY xs ys xs.length)):=by
 have G:=bR w;obtain⟨ax,cx,rfl,XC,Uy⟩:=E.shape;obtain⟨ay,cy,rfl,Yq,-⟩:=hy.shape;unfold maxLen at Uy;refine x8 ce ?_;conv=>whnf
 refine cW (cE G (pR cz ((0:Int):Rat)) (fun O J r=>iX 0 J bv bv) ?_);rintro O _ _ _ Pv r L G h_ U;have hd:=U.cV (nw r h_);clear r;obtain⟨A0,A1,A2,A3,A4,A5,A6,A7,rfl⟩:=hd.shape;conv=>whnf
 rw[show ((0:Int):Rat)=dY xs ys 0 from rfl]at hd
 refine⟨Nat×(Bool×Bool)×(Option Addr×Option Addr)×(Nat×Nat×Nat×Nat)×World×Iv,fun z=>⟨[(1,sV ay ys.length cy),(4,pP 0 0),(5,pP 1 0),(9,sV ax xs.length cx),(10,iZ xs.length),(11,iN z.1)],[(1,.box T.dO [.v (.bool z.2.1.1),.v (.slice z.2.2.1.1 z.2.2.2.1.1 z.2.2.2.1.2.1),.v (.bool z.2.1.2),.v (.slice z.2.2.1.2 z.2.2.2.1.2.2.1 z.2.2.2.1.2.2.2)]),(0,.box T.dO [.v (.bool false),.v nls,.v (.bool false),.v nls])],2,z.2.2.2.2.2,z.2.2.2.2.1⟩,fun z=>xs.length-z.1,
  fun z=>z.1<=xs.length/\Bq w z.2.2.2.2.1/\cz z.2.2.2.2.1 (Cf w z.2.2.2.2.2) (.agg #[.bool z.2.1.1,.slice z.2.2.1.1 z.2.2.2.1.1 z.2.2.2.1.2.1,.bool z.2.1.2,.slice z.2.2.1.2 z.2.2.2.1.2.2.1 z.2.2.2.1.2.2.2]) (dY xs ys z.1),?_,?_⟩
 .intro O J r;exact⟨(0,(A0,A4),(A1,A5),(A2,A3,A6,A7),J,Pv),⟨ce,G.tr r.cj,hd.rel r oF⟩,sbgn [] r⟩
 clear G hd;rintro⟨i,⟨p0,p4⟩,⟨p1,p5⟩,⟨p2,p3,p6,p7⟩,w1,iv⟩ ⟨N,G,hd⟩;dsimp only at N G hd ⊢;conv=>whnf
 apply bS<;>intro Pk
 .have Pk:=dL Pk;have hs:=fo Vv Vn I i;have TO:2*h*i<=2*h*xs.length:=bC _ N;have hs3:2*h*1<=2*h*xs.length:=bC _ be;obtain⟨x,Q5⟩:=gO xs i;obtain⟨y,Re⟩:=gO ys i;have XK:=Vv x (aG Q5);have hy3:=Vn y (aG Re);have Qa:xs.getD i 0=x:=by rw[List.getD,Q5];rfl
  have RR:ys.getD i 0=y:=by rw[List.getD,Re];rfl
  obtain⟨adx,csx,We,SL,RL⟩:=E.load Q5;obtain⟨ady,csy,VU,SY,R9⟩:=hy.load Re;obtain⟨f0,f1,f2,f3,f4,f5,f6,f7,rfl,SL⟩:=SL;obtain⟨q0,q1,q2,q3,q4,q5,q6,q7,rfl,SY⟩:=SY;conv=>whnf
  refine⟨adx,We,be,?_⟩;conv=>whnf
  refine⟨rC f0 f1 f2 f3 f4 f5 f6 f7,rfl,rdO RL G W,?_⟩;conv=>whnf
  refine cW (cE G (pE (iV (rs x))) (fun O J r=>jE (oS W r) (SL.cX (kS G r W))) ?_);rintro O _ _ _ iv2 r L G h_ rfl;replace hd:=hd.cS r oF L (mC h_);clear r;conv=>whnf
  apply bS<;>intro Y
  .have Y:x≠0:=by simpa [gL]using Y
   conv=>whnf
   refine⟨ady,VU,be,?_⟩;conv=>whnf
   refine⟨rC q0 q1 q2 q3 q4 q5 q6 q7,rfl,rdO R9 G W,?_⟩;conv=>whnf
   refine cW (cE G (pE (iV (rs y))) (fun O J r=>jE (oS W r) (SY.cX (kS G r W))) ?_);rintro O _ _ _ Pu r L G h_ rfl;replace hd:=hd.cS r oF L (mC h_);clear r;conv=>whnf
   apply bS<;>intro h3
   .conv=>whnf
    refine dP (idO 9) ?_;conv=>whnf
    refine⟨ady,VU,be,?_⟩;conv=>whnf
    refine⟨rC q0 q1 q2 q3 q4 q5 q6 q7,rfl,rdO R9 G W,?_⟩;conv=>whnf
    have hm:=jl x y;have Th:=Ac (dY xs ys i) (x*y);refine cE G (pR cz (x*y)) (fun O J r=>ns (oS W r) (SL.cX (kS G r W)) (SY.cX (kS G r W)) be be) ?_;rintro O _ _ _ QD r L G h_ U;replace hd:=hd.cS r oF L (mC h_);have hp:=U.cV (nw r h_);clear r;obtain⟨C0,C1,C2,C3,C4,C5,C6,C7,rfl⟩:=hp.shape;conv=>whnf
    refine cE G (pR cz (dY xs ys i+x*y)) (fun O J r=>wy (rlo r oF) (hd.rel r oF) (hp.rel r oF) be be) ?_;rintro O _ _ _ QH r L G h_ U;clear hd;clear hp;have QJ:=U.cV (nw r h_);clear r;obtain⟨E0,E1,E2,E3,E4,E5,E6,E7,rfl⟩:=QJ.shape;conv=>whnf
    rw[show dY xs ys i+x*y=dY xs ys (i+1) by rw[dY,Qa,RR]]at QJ;have hd:=QJ;refine inc i ?_;conv=>whnf
    intro I8 w3 r3;exact⟨(i+1,(E0,E4),(E1,E5),(E2,E3,E6,E7),w3,_),⟨Pk,G.tr r3.cj,hd.rel r3 oF⟩,sbgn [] r3,dec Pk⟩
   have h3:y=0:=by simpa [gL]using h3
   conv=>whnf
   refine inc i ?_;conv=>whnf
   intro I8 w3 r3;exact⟨(i+1,(p0,p4),(p1,p5),(p2,p3,p6,p7),w3,_),⟨Pk,G.tr r3.cj,by rw[CK (.inr (RR.trans h3))];exact hd.rel r3 oF⟩,sbgn [] r3,dec Pk⟩
  have Y:x=0:=by simpa [gL]using Y
  conv=>whnf
  refine inc i ?_;conv=>whnf
  intro I8 w3 r3;exact⟨(i+1,(p0,p4),(p1,p5),(p2,p3,p6,p7),w3,_),⟨Pk,G.tr r3.cj,by rw[CK (.inl (Qa.trans Y))];exact hd.rel r3 oF⟩,sbgn [] r3,dec Pk⟩
 have Pk:=dE N Pk;subst Pk;conv=>whnf
 exact rtn G fun GE we re=>hd.out re oF
def nt(M:List (List Rat))(k:Nat):List Rat:=M.map (·.getD k 0)
def da(ys:List Rat)(M:List (List Rat))(n i:Nat):List Rat:=(List.range n).map fun k=>dY ys (nt M k) i
theorem Cp(ys:List Rat)(M:List (List Rat))(n:Nat):da ys M n 0=List.replicate n 0:=by
 unfold da;simp only[dY]
 rw[List.map_const',List.length_range]
theorem ff(ys:List Rat)(M:List (List Rat))(n i:Nat):(da ys M n i).length=n:=by simp[da]
theorem Cq{n i:Nat}(h:M[i]? =some r):(da ys M n i).mapIdx (mV (ys.getD i 0) r)=da ys M n (i+1):=by
 refine bA fun k=>?_;unfold da;rw[List.getElem?_mapIdx,aU,aU];rcases aW k n with R|R
 .rw[cO R];simp only[bU,mV,dY]
  rw[show (nt M k).getD i 0=r.getD k 0 by rw[nt,List.getD,aU,h];rfl]
 .rw[List.getElem?_eq_none (by simpa using R)];rfl
theorem HN(H:Ht M h)(I:2<=h)(k:Nat):∀q∈nt M k,rl q+1<=h:=fun q hq=>by
 obtain⟨r,hr,rfl⟩:=bE.1 hq;exact kl (H r hr) I k
theorem ob(hy:∀q∈ys,rl q+1<=h)(H:Ht M h)(I:2<=h)(n i:Nat):∀q∈da ys M n i,rl q<=2*h*i+2:=fun q hq=>by
 obtain⟨k,_,rfl⟩:=bE.1 hq;exact fo hy (HN H I k) I i
theorem LM{u:Value}{n:Nat}(W:Old S w)(hy:eF w S S v ys)(hM:fR w S u M)(Sv:ys.length=M.length)(Pm:∀r∈M,r.length=n)(U:n<=1000000)
  (Vn:∀q∈ys,rl q+1<=h) (TA:Ht M h) (I:2<=h) (A:2*h*M.length<=1000000000):
  eL PG FS.uL #[v,u,iV n] w (eY w fun v' F=>eF F (Nw S w F) (Nw S w F) v' (da ys M n M.length)):=by
 have G:=bR w;obtain⟨ay,cy,rfl,Yq,-⟩:=hy.shape;obtain⟨am,cm,rfl,SF,TG⟩:=dH.shape hM;unfold maxLen at TG;refine xd ce ?_;conv=>whnf
 refine cW (cU (GT:=fun _ J v F=>eu F FF J.heap.size [(J.heap.size,F.heap.size)] v n (List.replicate n 0)) (fun O J r=>jh n J U) ?_);rintro O QP v1 QL r L A Ss;replace G:=G.tr A;have hX:=Ss.ep (S:=S) (iv:=(QP.heap.size,QL.heap.size)::[]) r.cZ aF;clear r L A Ss;generalize (QP.heap.size,QL.heap.size)::[]=Pv at*
 obtain⟨ax,cx,rfl,-⟩:=hX.row.form;rw[<-Cp ys M n]at hX;conv=>whnf
 refine⟨Nat×World×Iv,fun z=>⟨[(0,sV ay ys.length cy),(7,sV ax n cx),(12,sV am M.length cm),(13,iZ M.length),(14,iN z.1)],[],0,z.2.2,z.2.1⟩,fun z=>M.length-z.1,
  fun z=>z.1<=M.length/\Bq w z.2.1/\eu z.2.1 S w.heap.size z.2.2 (.slice ax n cx) n (da ys M n z.1),?_,?_⟩
 .intro O J r;exact⟨(0,J,Pv),⟨ce,G.tr r.cj,hX.rel r W⟩,sbgn [] r⟩
 clear G hX;rintro⟨i,w1,iv⟩ ⟨N,G,hX⟩;dsimp only at N G hX ⊢;conv=>whnf
 apply bS<;>intro Pk
 .have Pk:=dL Pk;have hs:=ob Vn TA I n i;have TO:2*h*i<=2*h*M.length:=bC _ N;have hs3:2*h*1<=2*h*M.length:=bC _ be;obtain⟨x,Q5⟩:=gO M i;obtain⟨y,Re⟩:=gO ys i;have RR:ys.getD i 0=y:=by rw[List.getD,Re];rfl
  have SS:=Pm x (aG Q5);obtain⟨adx,ux,rfl,SL,S4,Qa⟩:=dH.load hM Q5;obtain⟨aux,cux,rfl⟩:=dH.rowOf SL;obtain⟨ady,csy,VU,SY,R9⟩:=hy.load Re;obtain⟨q0,q1,q2,q3,q4,q5,q6,q7,rfl,SY⟩:=SY;conv=>whnf
  refine⟨adx,rfl,be,?_⟩;conv=>whnf
  refine⟨.slice aux x.length cux,rd1 Qa G (W _ S4),?_⟩;conv=>whnf
  refine⟨ady,VU,be,?_⟩;conv=>whnf
  refine⟨rC q0 q1 q2 q3 q4 q5 q6 q7,rfl,rdO R9 G W,?_⟩;conv=>whnf
  have Qs:=hX.new;have hnB:∀g,(Value.slice ax n cx).ownBlock=some g->w.heap.size<=g:=fun g V=>by
   rcases Qs g V with h4|⟨h4,_⟩
   .exact h4.elim
   .exact h4
  have hSn:∀g,S g->Cv S w.heap.size iv g/\(Value.slice ax n cx).ownBlock≠some g:=fun g V=>⟨.inl V,fun e=>by have:=hnB g e;have:=W g V;omega⟩
  refine⟨fun O J r=>?_⟩;have hkS:∀g,S g->J.heap[g]? =w.heap[g]? :=fun g V=>(G.tr r.cj).block g (W g V);obtain⟨Z,RP,S6,Wi⟩:=(hX.rel r W).row
  refine(Jc (C:=S) (oS W r) (fun g V=>rlo r W g V.1) RP Wi S6 ((SY.cX hkS).cV hSn) ((SL.cX fun g V=>hkS g (V.elim id id)).cV (fun _ h=>h) hSn) SS (fun g V h=>h.2 V) (fun g V h=>(hSn g h).2 V)
   (fun q hq=>by have:=hs q hq;omega) (fun q hq=>by have:=TA x (aG Q5) q hq;omega) (by have:=Vn y (aG Re);omega)).mono fun e w4 L=>?_
  obtain⟨rfl,QW,css',Xd,hr5,Xe⟩:=L;have hP2:gw w4 (Nw (fun g=>Cv S w.heap.size iv g/\(Value.slice ax n cx).ownBlock≠some g) J w4) (.slice ax n cx) n ((da ys M n i).mapIdx (mV y x)):=⟨css',Xd,hr5,Xe⟩
  rw[<-RR,Cq Q5]at hP2;refine⟨.tuple #[],_,(J.heap.size,w4.heap.size)::iv,rfl,r.xD (fun g V=>Rel.not r W (Qs g V |>.elim (fun h=>h.elim) .inr)) QW,?_⟩;have hX3:eu w4 S w.heap.size ((J.heap.size,w4.heap.size)::iv) (.slice ax n cx) n (da ys M n (i+1)):=
   ⟨hP2.cV fun g V=>by
    rcases V with V|V
    .exact⟨V.1.cons,V.2⟩
    .refine⟨.inr ⟨by have:=r.cZ;omega,_,_,aF,V.1,V.2⟩,fun e=>?_⟩;have:=rlo r oF g (Qs g e)
     omega,fun g V=>(Qs g V).cons⟩
  have QG:Bq w w4:=(G.tr r.cj).tr (Bel.grown QW hnB r.cZ);clear hX RP Wi Xd Xe QW hP2 r G Qs hnB hSn hkS;generalize (J.heap.size,w4.heap.size)::iv=iv2 at*
  conv=>whnf
  refine inc i ?_;conv=>whnf
  intro I8 w3 r3;exact⟨(i+1,w3,_),⟨Pk,QG.tr r3.cj,hX3.rel r3 W⟩,sbgn [] r3,dec Pk⟩
 have Pk:=dE N Pk;subst Pk;conv=>whnf
 intro GE we re;refine⟨_,rfl,G.tr re.cj,?_⟩;exact(hX.rel re W).read.cV (fun g V=>Cv.nw V re) fun g V=>Cv.nw V re
def fO(w:World)(S:Nat->Prop)(v:Value)(qs:List Rat):Prop:=eF w S S v qs
def mK(w:World)(S:Nat->Prop)(v:Value)(M:List (List Rat)):Prop:=fR w S v M
theorem fO.cX(h:fO w S v qs)(R:∀g,S g->F.heap[g]? =w.heap[g]?):fO F S v qs:=eF.cX h fun g V=>R g (V.elim id id)
theorem fO.cV(h:fO w S v qs)(R:∀g,S g->S' g):fO w S' v qs:=eF.cV h R R
theorem fO.shape(h:fO w S v qs):∃a c,v= .slice a qs.length c:=by
 obtain⟨a,c,h,_⟩:=eF.shape h;exact⟨a,c,h⟩
theorem mK.cX(h:mK w S v M)(R:∀g,S g->F.heap[g]? =w.heap[g]?):mK F S v M:=fR.cX h R
theorem mK.cV(h:mK w S v M)(R:∀g,S g->S' g):mK w S' v M:=fR.cV h R
theorem mK.shape(h:mK w S v M):∃a c,v= .slice a M.length c:=by
 obtain⟨a,c,h,_⟩:=dH.shape (show fR w S v M from h);exact⟨a,c,h⟩
def po(w:World)(S:Nat->Prop)(rv:List Value)(Fd:List (List Rat)):Prop:=∀(i:Nat) u r,rv[i]? =some u->Fd[i]? =some r->fO w S u r
theorem po.cX{v:List Value}(h:po w S v M)(R:∀g,S g->F.heap[g]? =w.heap[g]?):po F S v M:=fun i u x Y I=>(h i u x Y I).cX R
theorem po.cV{v:List Value}(h:po w S v M)(R:∀g,S g->S' g):po w S' v M:=fun i u x Y I=>(h i u x Y I).cV R
section
variable{S S':Nat->Prop}{H:Hp}{nx:Nat}{iv K:Iv}{B:Nat}{w J F:World}{O:Nat->Sx.eH}{v:Value}{qs:List Rat}
theorem fO.rel(h:fO w (Cv S B iv) v qs)(r:Rel H nx iv B w O J)(W:∀g,S g->g<B):fO J (Cv S B iv) v qs:=h.cX fun _ V=>rls r W V
theorem fO.cS(h:fO w (Cv S B iv) v qs)(r:Rel H nx iv B w O J)(W:∀g,S g->g<B)(L:Ext J F)(hm:∀p,p∈iv->p∈K):fO F (Cv S B K) v qs:=
 ((h.rel r W).cX fun g V=>L.block g (rlo r W g V)).cV fun _ V=>V.mono hm
theorem fO.old(h:fO F (Nw (Cv S B iv) J F) v qs)(hB:B<=J.heap.size):fO F (Cv S B ((J.heap.size,F.heap.size)::iv)) v qs:=h.cV fun _ V=>Nw.cv V hB
end
section
variable{S S':Nat->Prop}{H:Hp}{nx:Nat}{iv K:Iv}{B:Nat}{w J F:World}{O:Nat->Sx.eH}{v:Value}{M:List (List Rat)}
theorem mK.rel(h:mK w (Cv S B iv) v M)(r:Rel H nx iv B w O J)(W:∀g,S g->g<B):mK J (Cv S B iv) v M:=h.cX fun _ V=>rls r W V
theorem mK.cS(h:mK w (Cv S B iv) v M)(r:Rel H nx iv B w O J)(W:∀g,S g->g<B)(L:Ext J F)(hm:∀p,p∈iv->p∈K):mK F (Cv S B K) v M:=
 ((h.rel r W).cX fun g V=>L.block g (rlo r W g V)).cV fun _ V=>V.mono hm
theorem mK.ep(h:mK F (Nf J F) v M)(hB:B<=J.heap.size)(hm:(J.heap.size,F.heap.size)∈iv):mK F (Cv S B iv) v M:=h.cV fun _ V=>V.ep hB hm
end
section
variable{S S':Nat->Prop}{H:Hp}{nx:Nat}{iv K:Iv}{B:Nat}{w J F:World}{O:Nat->Sx.eH}{v:List Value}{M:List (List Rat)}
theorem po.rel(h:po w (Cv S B iv) v M)(r:Rel H nx iv B w O J)(W:∀g,S g->g<B):po J (Cv S B iv) v M:=h.cX fun _ V=>rls r W V
theorem po.cS(h:po w (Cv S B iv) v M)(r:Rel H nx iv B w O J)(W:∀g,S g->g<B)(L:Ext J F)(hm:∀p,p∈iv->p∈K):po F (Cv S B K) v M:=
 ((h.rel r W).cX fun g V=>L.block g (rlo r W g V)).cV fun _ V=>V.mono hm
end
theorem LN{M:List (List (Int×Int))}(W:Old S w)(h:dR w S v M)(hf:∀r∈M,vN r)(U:∀r∈M,r.length<=1000000)(hR:M.length<=1000000):
  eL PG FS.qQ #[v] w (eY w fun v' F=>mK F (Nf w F) v' (dT M)):=by
 replace h:=dR.arg h [];obtain⟨a,c,rfl,hc,-⟩:=dH.shape h;refine rE ce ?_;conv=>whnf
 refine⟨M.length,M.length,rfl,rfl,lr,be,be,?_⟩;conv=>whnf
 refine⟨List Value×Iv×World,fun z=>⟨[(3,.o (.s 0 0 M.length M.length)),(9,sV a M.length c),(10,iZ M.length),(11,iZ z.1.length)],[(0,.arr T.row (z.1++List.replicate (M.length-z.1.length) nls))],1,z.2.1,z.2.2⟩,fun z=>M.length-z.1.length,
  fun z=>z.1.length<=M.length/\Bq w z.2.2/\dR z.2.2 (Cv S w.heap.size z.2.1) (.slice a M.length c) M/\po z.2.2 (Cf w z.2.1) z.1 (dT M)/\∀u∈z.1,u.oneCell'=true,?_,?_⟩
 .intro O J r;exact⟨([],[],J),⟨ce,r.cj,dR.rel h r W,fun i u r h=>by simp at h,ce⟩,sbgn [] r⟩
 clear h;rintro⟨rv,iv,w1⟩ ⟨N,G,hX,hF,h1c⟩;dsimp only at N G hX hF h1c ⊢;conv=>whnf
 apply bS<;>intro h
 .have h:rv.length<M.length:=by simpa using h
  obtain⟨x,E⟩:=gO M rv.length;obtain⟨ad,u,rfl,Vi,Ts,Qu⟩:=dH.load hX E;obtain⟨a2,c2,rfl⟩:=dH.oB Vi;have SS:=U x (aG E);conv=>whnf
  refine⟨ad,rfl,be,?_⟩;conv=>whnf
  refine⟨.slice a2 x.length c2,fun O J r=>?_,?_⟩
  .have:=rls r W Ts;rw[aK,cd (w:=w1) (F:=J) (by rw[df];exact this)];exact Qu
  conv=>whnf
  refine cW (cU (GT:=fun _ J v F=>eu F FF J.heap.size [(J.heap.size,F.heap.size)] v x.length (x.map dD)) (fun O J r=>kr (rlo r W) (dK.rel Vi r W) (hf x (aG E)) SS) ?_);rintro O wa v1 wb r L A hO;have Qh:fO wb (Cf w ((wa.heap.size,wb.heap.size)::iv)) v1 (x.map dD):=(eu.ep (S:=FF) hO r.cZ aF).read;replace hX:=dR.cS (K:=(wa.heap.size,wb.heap.size)::iv) hX r W L fun x E=>aD _ E;replace hF:=hF.cS (K:=(wa.heap.size,wb.heap.size)::iv) r oF L fun x E=>aD _ E;replace G:=G.tr A;clear r L A hO Vi Ts Qu;generalize (wa.heap.size,wb.heap.size)::iv=iv2 at*
  obtain⟨a3,c3,rfl⟩:=Qh.shape;rw[aO]at Qh ⊢;conv=>whnf
  refine⟨be,?_⟩;conv=>whnf
  refine⟨by simp;omega,(rv++[.slice a3 x.length c3])++List.replicate (M.length-(rv.length+1)) nls,?_,?_⟩
  .have h5:M.length-rv.length=(M.length-(rv.length+1))+1:=by omega
   simp[h5,List.replicate_succ]
  conv=>whnf
  refine⟨((rv.length+1:Nat):Int),wo,?_⟩;conv=>whnf
  intro I8 w3 r3;have RQ:(rv++[Value.slice a3 x.length c3]).length=rv.length+1:=by simp
  refine⟨(rv++[.slice a3 x.length c3],iv2,w3),⟨by dsimp only;rw[RQ];exact h,G.tr r3.cj,dR.rel hX r3 W,?_,?_⟩,sbgn [] r3 ⟨by dsimp only;rw[RQ];rfl,trivial⟩ ⟨rfl,rfl,rfl,by dsimp only;rw[RQ];rfl,trivial⟩,by dsimp only;rw[RQ];omega⟩
  .intro i u y Y I;refine fO.rel ?_ r3 oF;rcases aW i rv.length with Qv|Qv
   .rw[aN Qv]at Y;exact hF i u y Y I
   .have Vz:i=rv.length:=by have:=(aH.1 Y).1;simp at this;omega
    subst Vz;rw[aP lr,bY]at Y;simp only[dT,aU,E]at I;simp at Y I;subst Y I;exact Qh
  .intro u hu;rcases bB.1 hu with hu|hu
   .exact h1c u hu
   .simp at hu;subst hu;rfl
 .have h:rv.length=M.length:=by
   have:¬rv.length<M.length:=by simpa using h
   omega
  rw[h,bY,List.replicate_zero,List.append_nil];conv=>whnf
  intro GE we re;refine⟨_,rfl,G.tr re.cj,?_⟩;have QF:=re.nn 0 _ rfl (by intros;simp) ce;have Pq:=re.low 0 _ rfl QF;have hs:=re.IC (id:=0) (t:=T.row) (n:=M.length) (sz:=1) (cs:=rv) rfl be mx h1c;have ZN:(dT M).length=M.length:=by simp[dT]
  refine⟨rv,?_,by rw[ZN,h],fun i u x Y I=>((hF.rel re oF) i u x Y I).cV fun g V=>Cv.nw V re⟩;rw[ZN];exact hs.cV fun g V=>.inr (by subst V;exact Pq)
abbrev vmO(gm F9:Nat):Value:=.slice (some ⟨gm,0,none⟩) F9 F9
def Lm'(S:Nat->Prop)(B:Nat)(iv:Iv)(gm F9:Nat)(rv:List Value)(g:Nat):Prop:=Cv S B iv g/\¬Mb (vmO gm F9) rv g
structure aBW(w:World)(S:Nat->Prop)(B:Nat)(iv:Iv)(gm F9 n:Nat)(rv:List Value)(M:List (List Rat)):Prop where
 mat:jD w (Lm' S B iv gm F9 rv) (vmO gm F9) rv n M
 kz:∀g,Mb (vmO gm F9) rv g->Cv FF B iv g
 rows:rv.length=F9
section
variable{S S':Nat->Prop}{H:Hp}{nx gm F9 n:Nat}{iv K:Iv}{B:Nat}{w J F:World}{O:Nat->Sx.eH}{rv:List Value}{M:List (List Rat)}
structure aBk(w:World)(S:Nat->Prop)(B:Nat)(iv:Iv)(gm F9 n:Nat)(rv:List Value)(M:List (List Rat))(i:Nat)(vb:Value):Prop where
 out:w.ownsRow 0 T.row 1 (vmO gm F9) F9 (rv.set i vb)
 D8:∃w0,aBW w0 S B iv gm F9 n rv M/\∀g,Cv S B iv g->g≠gm->w.heap[g]? =w0.heap[g]?
end
section
variable{S:Nat->Prop}{H:Hp}{nx gm F9:Nat}{iv K:Iv}{B:Nat}{w J F:World}{O:Nat->Sx.eH}{rv:List Value}{Z:List (List Value)}{qs:List Rat}
theorem Fr.push(h:Fr w S Z qs)(hq:jx w S cs q):Fr w S (Z++[cs]) (qs++[q]):=by
 refine⟨by simp[h.1],fun j c x Y I=>?_⟩;rcases aW j Z.length with hj|hj
 .rw[aN hj]at Y;rw[aN (by rw[<-h.1];exact hj)]at I;exact h.2 j c x Y I
 .rw[aP hj]at Y;rw[aP (by rw[<-h.1];exact hj),<-h.1]at I;have:j-Z.length=0:=by have:=(aH.1 Y).1;simp at this;omega
  rw[this]at Y I;injection Y with Y;injection I with I;subst Y I;exact hq
end
inductive Tp where
 |nil
 |x (i:Nat) (t:Tp)
 |two (i:Nat) (t:Tp) (j:Nat) (u:Tp)
 |qp (id:Nat) (t:Tp)
def xK(ops:Array Oper):Tp->Array Bool->Bool
 | .nil,lx=>(Region.ready .any ops lx).isEmpty
 | .x i t,lx=>match ops[i]? with
  |none=>false
  |some o=>(Region.ready .any ops lx).contains i&&((Region.ready .any ops lx).all (fun j=>Nat.beq j i)||mM o.op&&FP ops (iU lx.toList 0) [] i o)&&xK ops t (lx.setIfInBounds i true)
 | .two i t j u,lx=>match Region.ready .any ops lx with
  |[a,b]=>Nat.beq a i&&(Nat.beq b j&&(xK ops t (lx.setIfInBounds i true)&&xK ops u (lx.setIfInBounds j true)))
  |_=>false
 | .qp _ t,lx=>xK ops t lx
def LO(P:Program)(τ:mo)(B:Nat)(all:List Oper):Tp->Env->Hp->Nat->Iv->World->KT->Prop
 | .nil,l,H,nx,iv,w,Fd=>Fd l H nx iv w
 | .x i t,l,H,nx,iv,w,Fd=>lg all i (fun o=>fA (!fT o) P τ B all o l H nx iv w (fun l' H' Pr K J=>LO P τ B all t l' H' Pr K J Fd))
 | .two i t j u,l,H,nx,iv,w,Fd=>lg all i (fun o=>fA (!fT o) P τ B all o l H nx iv w (fun l' H' Pr K J=>LO P τ B all t l' H' Pr K J Fd))/\
   lg all j (fun o=>fA (!fT o) P τ B all o l H nx iv w (fun l' H' Pr K J=>LO P τ B all u l' H' Pr K J Fd))
 | .qp id t,l,H,nx,iv,w,Fd=>∃H' b,dV H id=some b/\b≠ .dead/\xN H H'/\FM id H'=true/\∀O J,Rel H nx iv B w O J->(O id).nil=false/\∃l',(∀u v,fZ l' u=some v->v.sc nx/\∃v',fZ l u=some v'/\v'.den O=v.den O)/\LO P τ B all t l' H' nx (((O id).g,(O id).g+1)::iv) J Fd
section
variable{P:Program}{τ:mo}{ops:Array Oper}{B n nx:Nat}{l:Env}{H:Hp}{iv:Iv}{w J:World}{O:Nat->Sx.eH}{a:Act}
theorem NY(hτ:fG P τ)(Py:∀(j:Nat) o,ops[j]? =some o->∀d,o.dst=some d->d<n){i:Nat}
  (h:lg ops.toList i (fun o=>fA (!fT o) P τ B ops.toList o l H nx iv w Fd)) (sat:Sat n l H nx iv B w O a J)
  (U:∀l' H' Pr K F F' a' w3,Fd l' H' Pr K F->Sat n l' H' Pr K B F F' a' w3->next a' w3):
  wpOp P ops Q i (fun a' F=>((∀o,ops[i]? =some o->rI o=false)->Ext J F)/\next a' F) a J:=by
 obtain⟨o,ho,Y⟩:=ew h;rw[ah]at ho;have hd:=Py i o ho;unfold fA at Y;refine lh ho ?_;rcases iy sat Y with⟨G,l1,I,sat1⟩|⟨G,l1,I,sat1⟩
 .refine .inl ⟨G,?_⟩
  cases hR:mM o.op with
  |true=>
   obtain⟨v,hK,R1,Px⟩:=(im hτ I sat1 hR).resolve_right (fun hh=>by have:=hh.1;rw[nP hR]at this;cases this);obtain⟨l2,h3,sat2⟩:=eh sat1 hK hd R1;exact kf (Px J (.inr sat1.rel)) ⟨fun _=>Ext.refl _,U _ _ _ _ _ _ _ _ h3 sat2⟩
  |false=>
   cases hA:Cw o.op with
   |true=>
    obtain⟨b,v,mk,obj,hK,TH,A,hv,Wk,RH,Tl⟩:=lF hτ I sat1 hA;have Qb:Rel ((nx,b)::H) (nx+1) iv B w (Sx.jG O nx ⟨J.heap.size,0,false⟩) (J.alloc obj):=
     sat1.rel.push b _ rfl rfl rfl ce (fun k R=>heap_alloc_old _ _ R) (fun _=>⟨lr,ce⟩) (RH _ _ (heap_alloc_new _ _)) A
    obtain⟨l2,h3,sat2⟩:=eh (sat1.next Qb (Nat.le_succ _) (fun id RE=>iO id RE)) hK hd hv;rw[Wk]at sat2;exact kf (v:=mk J.heap.size) (F:=J.alloc obj) (Tl J) ⟨fun _=>Ext.alloc _ _,U _ _ _ _ _ _ _ _ h3 sat2⟩
   |false=>
    cases hH:rI o with
    |false=>
     rw[od hH]at I;refine uX I sat1 hR hA hH fun v F hK L hs=>⟨fun _=>L,?_⟩
     obtain⟨l2,h3,sat2⟩:=eh (v:=.o (.v v)) hs hK hd trivial;exact U _ _ _ _ _ _ _ _ h3 sat2
    |true=>
     refine lG hτ I sat1 fun v H' Pr K F F' w3 hK sat2 hv=>⟨fun hs=>(by rw[hs o ho]at hH;cases hH),?_⟩
     obtain⟨l2,h3,sat3⟩:=eh sat2 hK hd hv;exact U _ _ _ _ _ _ _ _ h3 sat3
 .obtain⟨l2,h4,sat3⟩:=eh sat1 I hd trivial;exact .inr ⟨G,fun _=>Ext.refl _,U _ _ _ _ _ _ _ _ h4 sat3⟩
theorem oD(hτ:fG P τ)(Py:∀(j:Nat) o,ops[j]? =some o->∀d,o.dst=some d->d<n)(QB:∀(j:Nat) (o:Oper) cs b,ops[j]? =some o->o.op≠ .select cs b){Fd:KT}{Q0:Act->World->Prop}
  (hQ:∀l' H' Pr K F F' a' w3,Fd l' H' Pr K F->Sat n l' H' Pr K B F F' a' w3->Q0 a' w3):
  ∀(t:Tp) (fuel:Nat) (la:Array Bool) (l:Env) (H:Hp) (nx:Nat) (iv:Iv) (w:World) (O:Nat->Sx.eH) (a:Act) (J:World),LY la<=fuel->la.size=ops.size->xK ops t la=true->LO P τ B ops.toList t l H nx iv w Fd->Sat n l H nx iv B w O a J->uW P .any ops (QN Q0) fuel la a J
 | .nil,fuel,la,l,H,nx,iv,w,O,a,J,_,_,hc,h,s=>by
  simp only[xK,List.isEmpty_iff]at hc;exact yE hc ⟨rfl,hQ _ _ _ _ _ _ _ _ h s⟩ fuel
 | .x i t,fuel,la,l,H,nx,iv,w,O,a,J,hf,hz,hc,h,s=>by
  unfold xK at hc;obtain⟨o,ho,Y⟩:=ew h;rw[ah]at ho;simp only[ho,bF,Bool.or_eq_true]at hc;obtain⟨⟨c1,c2⟩,c3⟩:=hc;have c1:i∈Region.ready .any ops la:=by simpa using c1
  obtain⟨VW,-⟩:=eE.1 c1;have WS:=gH VW;obtain⟨f,rfl⟩:∃f,fuel=f+1:=⟨fuel-1,be⟩
  have Ro:(la.setIfInBounds i true).size=ops.size:=by rw[bO,hz]
  rcases c2 with c2|⟨hR,c4⟩
  .refine⟨fun h0=>(by rw[h0]at c1;cases c1),fun j hj=>?_⟩;have Q1:j=i:=ee (cD.1 c2 j hj);subst Q1;exact NY hτ Py h s fun _ _ _ _ _ _ _ _ R hs=>oD hτ Py QB hQ t f _ _ _ _ _ _ _ _ _ be Ro c3 R hs
  .obtain⟨kz,Sg,Q2,WU,Rd⟩:=zo c4 hz;unfold fA at Y;have hd:=Py i o ho;rcases iy s Y with⟨G,l1,I,sat1⟩|⟨G,l1,I,sat1⟩
   .obtain⟨v,hK,R1,Px⟩:=(im hτ I sat1 hR).resolve_right (fun hh=>by have:=hh.1;rw[nP hR]at this;cases this);obtain⟨l2,h3,sat2⟩:=eh sat1 hK hd R1;refine mq (pu:=HU o.op) (v:=v.den O) ho QB (fun c a w hq=>absurd hq.1 ce) kz Sg f la a J Q2 Rd c1 (.inl ⟨G,fun w3 L=>Px w3 (L.imp id fun L=>sat1.rel.ext L)⟩) ?_;exact oD hτ Py QB hQ t f _ _ _ _ _ _ _ _ _ be Ro c3 h3 sat2
   .obtain⟨l2,h3,sat2⟩:=eh (v:=.o (.v undef)) sat1 I hd trivial;refine mq (pu:=HU o.op) (v:=undef) ho QB (fun c a w hq=>absurd hq.1 ce) kz Sg f la a J Q2 Rd c1 (.inr ⟨G,rfl⟩) ?_;exact oD hτ Py QB hQ t f _ _ _ _ _ _ _ _ _ be Ro c3 h3 sat2
 | .two i t k u,fuel,la,l,H,nx,iv,w,O,a,J,hf,hz,hc,h,s=>by
  simp only[xK]at hc;split at hc
  .rename_i x y hr;simp only[bF]at hc;obtain⟨c1,c2,c3,c4⟩:=hc;have E:=bT c1;have hy:=bT c2;subst E;subst hy;obtain⟨Y,I⟩:=h;have Tf:x∈Region.ready .any ops la:=by rw[hr];simp
   have Th:y∈Region.ready .any ops la:=by rw[hr];simp
   have u1:=gH (eE.1 Tf).1;have u2:=gH (eE.1 Th).1;obtain⟨f,rfl⟩:∃f,fuel=f+1:=⟨fuel-1,be⟩
   refine⟨fun h0=>(by rw[hr]at h0;cases h0),fun j hj=>?_⟩;rw[hr,List.mem_cons,aX]at hj;rcases hj with rfl|rfl
   .exact NY hτ Py Y s fun _ _ _ _ _ _ _ _ R hs=>oD hτ Py QB hQ t f _ _ _ _ _ _ _ _ _ be (by rw[bO,hz]) c3 R hs
   .exact NY hτ Py I s fun _ _ _ _ _ _ _ _ R hs=>oD hτ Py QB hQ u f _ _ _ _ _ _ _ _ _ be (by rw[bO,hz]) c4 R hs
  .cases hc
 | .qp id t,fuel,la,l,H,nx,iv,w,O,a,J,hf,hz,hc,h,s=>by
  obtain⟨H',b,RE,hd,hs,ho,h⟩:=h;obtain⟨U,l',hl,h⟩:=h _ _ s.rel;exact oD hτ Py QB hQ t fuel la l' H' nx _ J O a J hf hz hc h ⟨s.rel.free RE hd U hs ho,s.size,s.defers,fun u v hv=>by obtain⟨-,v',Y,I⟩:=hl u v hv;rw[<-I];exact s.env u v' Y,fun u v hv=>(hl u v hv).1⟩
theorem HO(hτ:fG P τ)(hm:P.follows .mixedOrders=true)(t:Tp)(hs:Region.noSelect ops=true)(hc:xK ops t (Array.replicate ops.size false)=true)
  (h:LO P τ B ops.toList t l H nx iv w Fd):mO P B ops l H nx iv w Fd:=by
 refine⟨fun n O a J Py sat Q hQ id=>?_⟩;refine wp_mono (Q':=Q) (c:=.region id ops true) (wp_region_any (Q:=QN (Q .normal)) hm (uY _ _ _ _ ?_)) (fun e a w hq=>by obtain⟨rfl,hq⟩:=hq;exact hq);refine oD hτ (fun j o ho d hd=>?_) (Region.noSelect_spec hs) hQ t _ _ _ _ _ _ _ O _ _ ?_ ce hc h ⟨sat.rel.drew,sat.size,sat.defers,sat.env,sat.sc⟩
 .have:=cD.1 Py o (aG (by rw[ah];exact ho));rw[hd]at this;have h5:d+1<=n:=by simpa [Nat.blt]using this
  exact h5
 .unfold LY;refine aR List.countP_le_length ?_;simp
end
theorem pt{l tl:Env}{nx t id n:Nat}(U:(O id).nil=false)(ht:fZ l t=some (.o (.w id n)))(Y:FZ l tl)(I:jn nx tl):∀u v,fZ ((t,.o (.v (.slice (some ⟨(O id).g,0,none⟩) n (O id).cap)))::tl) u=some v->v.sc nx/\∃v',fZ l u=some v'/\v'.den O=v.den O:=fun u v hv=>by
 rw[fE]at hv;split at hv
 .rename_i e;subst e;injection hv with hv;subst hv;exact⟨trivial,_,ht,by simp[SV.den,At.den,U]⟩
 .exact⟨I.get u v hv,v,Y.get u v hv,rfl⟩
theorem tq{H:Hp}{nx:Nat}{iv:Iv}{B:Nat}{J:World}(r:Rel H nx iv B w O J){id t m sz:Nat}(h:dV H id=some (.vec t sz cs))(hm:cs.length=m*sz)(Tf:m<=maxLen)(hs:0<sz)(h0:0<m)(Y:∀u∈cs,u.oneCell'=true):
  (O id).nil=false/\B<=(O id).g/\fe J (fun g=>g=(O id).g) sz (.slice (some ⟨(O id).g,0,none⟩) m (O id).cap) cs m:=by
 rcases r.vec id t sz _ h with⟨U,rfl⟩|⟨U,spare,A,hc,RO⟩
 .have:=Nat.mul_pos h0 hs;simp at hm;omega
 .refine⟨U,(r.low id _ h U).1,Tf,hm,Y,some ⟨(O id).g,0,none⟩,(O id).cap,rfl,?_,fun j x E=>⟨_,rfl,rfl,?_⟩⟩
  .have Y:(cs++spare).length=cs.length+spare.length:=aV;have I:m*sz<=(O id).cap*sz:=by omega
   exact Nat.le_of_mul_le_mul_right I hs
  .rw[dF,cell_of A,aS,aN (aH.1 E).1];exact E
end Go.Ex
namespace Go.Ex
section
variable{M:List (List Rat)}{b:List Rat}{n:Nat}
def eM(M:List (List Rat))(b:List Rat):List (List Rat):=M.mapIdx fun i r=>r++[b.getD i 0]
theorem ue(hl:iq n M):iq (n+1) (eM M b):=fun r hr=>by
 obtain⟨i,N⟩:=az hr;unfold eM at N;rw[List.getElem?_mapIdx]at N
 cases E:M[i]? with
 |none=>rw[E]at N;cases N
 |some x=>
  rw[E]at N;injection N with N;subst N;rw[aV,hl x (aG E)];rfl
theorem jM:(eM M b).length=M.length:=by simp[eM]
end
end Go.Ex
namespace Go.Ex
open Go Go.Sx Go.Proofs
variable{b:List (Int×Int)}{Fd M:List (List Rat)}{rv:List Value}{S:Nat->Prop}{q:Rat}{u:Value}{w:World}
theorem ed.cV{S':Nat->Prop}(h:ed w S rv Fd)(R:∀g,S g->S' g):ed w S' rv Fd:=⟨h.1,h.2.1,fun i u x Y I=>dC.cV (h.2.2 i u x Y I) R⟩
theorem ed.push{x:List Rat}(h:ed w S rv Fd)(hu:u.oneCell'=true)(E:dC w S u x):ed w S (rv++[u]) (Fd++[x]):=by
 refine⟨by simp[h.1],fun v hv=>?_,fun i v y Y I=>?_⟩
 .rcases bB.1 hv with hv|hv
  .exact h.2.1 v hv
  .simp at hv;subst hv;exact hu
 .rcases aW i rv.length with N|N
  .rw[aN N]at Y;rw[aN (by rw[<-h.1];exact N)]at I;exact h.2.2 i v y Y I
  .have Vz:i=rv.length:=by have:=(aH.1 Y).1;simp at this;omega
   subst Vz;rw[aP lr,bY]at Y;rw[h.1,aP lr,bY]at I;simp at Y I;subst Y I;exact E
theorem NZ{v:Value}{b:List Rat}(W:Old S w)(h:dS w S v M)(hu:dC w S u b)(Pw:b.length=M.length)(Pm:∀r∈M,r.length<=1000)(hR:M.length<=1000):
  eL PG FS.yd #[v,u] w (eY w fun v' F=>dS F (Nw S w F) v' (eM M b)):=by
 have G:=bR w;replace h:=dS.arg h [];replace hu:=dC.arg hu [];obtain⟨am,cm,rfl,SF,-⟩:=dH.shape h;obtain⟨ab,cb,rfl,RK,-⟩:=dN.shape hu;refine BY ce ?_
 refine⟨Nat×List Value×World×Iv,fun z=>⟨[(0,sV am M.length cm),(1,sV ab b.length cb),(5,.o (.w 0 z.2.1.length)),(6,iN z.1)],[(0,.vec T.lM 1 z.2.1)],1,z.2.2.2,z.2.2.1⟩,fun z=>M.length-z.1,
  fun z=>z.1<=M.length/\Bq w z.2.2.1/\dS z.2.2.1 (Cv S w.heap.size z.2.2.2) (.slice am M.length cm) M/\dC z.2.2.1 (Cv S w.heap.size z.2.2.2) (.slice ab b.length cb) b/\ed z.2.2.1 (Cv S w.heap.size z.2.2.2) z.2.1 ((eM M b).take z.1),?_,?_⟩
 .intro O J r
  exact⟨(0,[],J,[]),⟨ae _,G.tr r.cj,dS.rel h r W,dC.rel hu r W,by simp[ed]⟩,Sub.nil 5 T.lM 1 rfl (by simp[jn,SV.sc,At.sc,fu]) r fun I9 r1=>
   sbgn [] r1⟩
 rintro⟨i,rv,w1,iv⟩ ⟨N,G,h,hu,hK⟩;dsimp only at N G h hu hK ⊢;have QO:rv.length=i:=by rw[hK.1,bN,jM];omega
 apply bS<;>intro Pk
 .have Pk:=dL Pk;obtain⟨x,E⟩:=gO M i;have SS:=Pm x (aG E);obtain⟨q,hq⟩:=gO b i;have hqd:b.getD i 0=q:=by rw[List.getD,hq];rfl
  have RC:(eM M b).take (i+1)=(eM M b).take i++[x++[q]]:=by
   rw[bM,show(eM M b)[i]? =some (x++[q]) by rw[eM,List.getElem?_mapIdx,E,<-hqd];rfl];rfl
  obtain⟨adm,um,UN,S7,km1,km2⟩:=dH.load h E;obtain⟨Z,⟨-,g1,g2,a0,c0,rfl,g4,g5⟩,Qg,Vt,Q4⟩:=S7;have Qp:=fN Vt;obtain⟨adq,cs,haq,hF,_,hl⟩:=dN.load hu hq;obtain⟨b3,a3,n3,c3,b4,a4,n4,c4,rfl,hF⟩:=hF;have Us:([]++Z.flatten++(rC b3 a3 n3 c3 b4 a4 n4 c4:List Value)).length=(x.length+1)*4:=by rw[List.nil_append,aV,g1];simp;omega
  have Ut:∀u∈[]++Z.flatten++(rC b3 a3 n3 c3 b4 a4 n4 c4:List Value),u.oneCell'=true:=fun u hu=>by
   rw[List.nil_append]at hu;rcases bB.1 hu with hu|hu
   .exact g2 u hu
   .simp at hu;rcases hu with rfl|rfl|rfl|rfl<;>rfl
  have Uu:∀{H nx O J g c iv2},Rel H nx iv w.heap.size w1 O J->w.heap.size<=g->fe J (fun y=>y=g) 4 (.slice (some ⟨g,0,none⟩) (x.length+1) c) ([]++Z.flatten++(rC b3 a3 n3 c3 b4 a4 n4 c4:List Value)) (x.length+1)->(g,g+1)∈iv2::iv->
    dC J (Cv S w.heap.size (iv2::iv)) (.slice (some ⟨g,0,none⟩) (x.length+1) c) (x++[q]):=by
   intro H nx O J g c iv2 r V hs hm;have R:∀y,Cv S w.heap.size iv y->Cv S w.heap.size (iv2::iv) y:=fun y hy=>hy.mono fun p hp=>aD _ hp;refine⟨Z++[rC b3 a3 n3 c3 b4 a4 n4 c4],?_,by simp[Qg],fun cs hc=>?_,fun j cs y k1 k2=>?_⟩
   .rw[List.nil_append]at hs;rw[aV,List.length_singleton,List.flatten_append];simp only[List.flatten_cons,List.flatten_nil,List.append_nil]
    exact hs.cV fun y hy=>.inr ⟨be,g,g+1,hm,be,be⟩
   .rcases bB.1 hc with hc|hc
    .exact Vt cs hc
    .rw[aX.1 hc];rfl
   .rcases aW j Z.length with hj|hj
    .rw[aN hj]at k1;rw[aN be]at k2;exact((Q4 j cs y k1 k2).cX fun y hy=>rls r W hy).cV R
    .have Yp:j=Z.length:=by have:=(aH.1 k1).1;simp at this;omega
     rw[Yp,aP lr,bY]at k1;rw[Yp,Qg,aP lr,bY]at k2;simp at k1 k2;rw[<-k1,<-k2];exact⟨_,_,_,_,_,_,_,_,rfl,(hF.cX fun y hy=>rls r W hy).cV R⟩
  refine HO hτ uw (.x 0 (.x 2 (.x 3 (.x 4 (.x 5 (.x 7 (.x 8 (.x 9 (.two 1 (.two 6 (.x 10 (.x 11 (.x 12 (.qp 4 (.x 13 (.x 14 (.x 15 .nil))))))) 10 (.two 6 (.x 11 (.x 12 (.qp 4 (.x 13 (.x 14 (.x 15 .nil)))))) 11 (.x 6 (.x 12 (.qp 4 (.x 13 (.x 14 (.x 15 .nil)))))))) 10 (.two 1 (.two 6 (.x 11 (.x 12 (.qp 4 (.x 13 (.x 14 (.x 15 .nil)))))) 11 (.x 6 (.x 12 (.qp 4 (.x 13 (.x 14 (.x 15 .nil))))))) 11 (.x 1 (.x 6 (.x 12 (.qp 4 (.x 13 (.x 14 (.x 15 .nil))))))))))))))))) d9 d9 ?_;refine⟨adm,UN,be,.slice a0 x.length c0,fun O J r=>?_,?_⟩
  .rw[aK,cd (w:=w1) (F:=J) (by rw[df];exact rls r W km1)];exact km2
  refine⟨adq,haq,be,?_,?_⟩
  .refine⟨?_,?_⟩
   .refine .inl ?_;refine⟨Z.flatten,g1,g2,fun O J r QU=>?_,?_⟩
    .obtain⟨u0,UX⟩:=gO Z.flatten 0;obtain⟨ad,ha,_,_⟩:=g5 0 u0 UX;refine⟨ad,ha,fun j u hj=>?_⟩;obtain⟨ad2,Qm,q1,q2⟩:=g5 j u hj;rw[ha]at Qm;injection Qm with Qm;subst Qm;rw[cd (w:=w1) (F:=J) (by rw[df];exact rls r W q1)];exact q2
    refine⟨rfl,be,mx,?_⟩;rw[aS x.length];refine⟨rC b3 a3 n3 c3 b4 a4 n4 c4,rfl,fun O J r j u hu=>?_,?_⟩
    .obtain⟨k1,k2⟩:=hl j u hu;rw[aK,cd (w:=w1) (F:=J) (by rw[df,df];exact rls r W k1)];exact k2
    refine .inl ?_;refine⟨by rw[<-g1];rfl,be,mx,[(0,.vec T.lM 1 rv)],_,rfl,ce,⟨rfl,trivial⟩,rfl,fun O J r=>?_⟩;have hv:=tq r (id:=4) (sz:=4) (m:=x.length+1) rfl Us mx bv be Ut;refine⟨hv.1,_,pt (tl:=[(13,.o (.w 0 rv.length)),(0,sV am M.length cm),(1,sV ab b.length cb),(6,iN i)]) hv.1 (t:=25) (n:=x.length+1) rfl ⟨rfl,rfl,rfl,rfl,trivial⟩ (by simp[jn,SV.sc,At.sc]),?_⟩;have Qs:=Uu r hv.2.1 hv.2.2 aF;replace hK:=(ed.cV (hK.rel r W) (fun g V=>V.mono fun p hp=>aD _ hp)).push rfl Qs;replace h:=dS.cV (dS.rel h r W) fun g V=>V.mono fun p hp=>aD ((O 4).g,(O 4).g+1) hp;replace hu:=dC.cV (dC.rel hu r W) fun g V=>V.mono fun p hp=>aD ((O 4).g,(O 4).g+1) hp;rw[<-RC]at hK;replace G:=G.tr r.cj;generalize (O 4).g=gx at*
    generalize (O 4).cap=cx at*
    generalize (gx,gx+1)::iv=iv2 at*
    refine .inl ?_;refine⟨ce,be,mx,((i+1:Nat):Int),wo,?_⟩;intro I8 w3 r3;exact⟨(i+1,rv++[.slice (some ⟨gx,0,none⟩) (x.length+1) cx],w3,_),⟨Pk,G.tr r3.cj,dS.rel h r3 W,dC.rel hu r3 W,hK.rel r3 W⟩,sbgn [(0,6)] r3 (hE:=⟨rfl,rfl,by dsimp only;rw[l1];rfl,rfl,trivial⟩),dec Pk⟩
   .refine⟨rC b3 a3 n3 c3 b4 a4 n4 c4,rfl,fun O J r j u hu=>?_,?_⟩
    .obtain⟨k1,k2⟩:=hl j u hu;rw[aK,cd (w:=w1) (F:=J) (by rw[df,df];exact rls r W k1)];exact k2
    refine⟨?_,?_⟩
    .refine .inl ?_;refine⟨Z.flatten,g1,g2,fun O J r QU=>?_,?_⟩
     .obtain⟨u0,UX⟩:=gO Z.flatten 0;obtain⟨ad,ha,_,_⟩:=g5 0 u0 UX;refine⟨ad,ha,fun j u hj=>?_⟩;obtain⟨ad2,Qm,q1,q2⟩:=g5 j u hj;rw[ha]at Qm;injection Qm with Qm;subst Qm;rw[cd (w:=w1) (F:=J) (by rw[df];exact rls r W q1)];exact q2
     refine⟨rfl,be,mx,?_⟩;rw[aS x.length];refine .inl ?_;refine⟨by rw[<-g1];rfl,be,mx,[(0,.vec T.lM 1 rv)],_,rfl,ce,⟨rfl,trivial⟩,rfl,fun O J r=>?_⟩;have hv:=tq r (id:=4) (sz:=4) (m:=x.length+1) rfl Us mx bv be Ut;refine⟨hv.1,_,pt (tl:=[(13,.o (.w 0 rv.length)),(0,sV am M.length cm),(1,sV ab b.length cb),(6,iN i)]) hv.1 (t:=25) (n:=x.length+1) rfl ⟨rfl,rfl,rfl,rfl,trivial⟩ (by simp[jn,SV.sc,At.sc]),?_⟩;have Qs:=Uu r hv.2.1 hv.2.2 aF;replace hK:=(ed.cV (hK.rel r W) (fun g V=>V.mono fun p hp=>aD _ hp)).push rfl Qs;replace h:=dS.cV (dS.rel h r W) fun g V=>V.mono fun p hp=>aD ((O 4).g,(O 4).g+1) hp;replace hu:=dC.cV (dC.rel hu r W) fun g V=>V.mono fun p hp=>aD ((O 4).g,(O 4).g+1) hp;rw[<-RC]at hK;replace G:=G.tr r.cj;generalize (O 4).g=gx at*
     generalize (O 4).cap=cx at*
     generalize (gx,gx+1)::iv=iv2 at*
     refine .inl ?_;refine⟨ce,be,mx,((i+1:Nat):Int),wo,?_⟩;intro I8 w3 r3;exact⟨(i+1,rv++[.slice (some ⟨gx,0,none⟩) (x.length+1) cx],w3,_),⟨Pk,G.tr r3.cj,dS.rel h r3 W,dC.rel hu r3 W,hK.rel r3 W⟩,sbgn [(0,6)] r3 (hE:=⟨rfl,rfl,by dsimp only;rw[l1];rfl,rfl,trivial⟩),dec Pk⟩
    .refine .inl ?_;refine⟨Z.flatten,g1,g2,fun O J r QU=>?_,?_⟩
     .obtain⟨u0,UX⟩:=gO Z.flatten 0;obtain⟨ad,ha,_,_⟩:=g5 0 u0 UX;refine⟨ad,ha,fun j u hj=>?_⟩;obtain⟨ad2,Qm,q1,q2⟩:=g5 j u hj;rw[ha]at Qm;injection Qm with Qm;subst Qm;rw[cd (w:=w1) (F:=J) (by rw[df];exact rls r W q1)];exact q2
     refine⟨rfl,be,mx,?_⟩;rw[aS x.length];refine .inl ?_;refine⟨by rw[<-g1];rfl,be,mx,[(0,.vec T.lM 1 rv)],_,rfl,ce,⟨rfl,trivial⟩,rfl,fun O J r=>?_⟩;have hv:=tq r (id:=4) (sz:=4) (m:=x.length+1) rfl Us mx bv be Ut;refine⟨hv.1,_,pt (tl:=[(13,.o (.w 0 rv.length)),(0,sV am M.length cm),(1,sV ab b.length cb),(6,iN i)]) hv.1 (t:=25) (n:=x.length+1) rfl ⟨rfl,rfl,rfl,rfl,trivial⟩ (by simp[jn,SV.sc,At.sc]),?_⟩;have Qs:=Uu r hv.2.1 hv.2.2 aF;replace hK:=(ed.cV (hK.rel r W) (fun g V=>V.mono fun p hp=>aD _ hp)).push rfl Qs;replace h:=dS.cV (dS.rel h r W) fun g V=>V.mono fun p hp=>aD ((O 4).g,(O 4).g+1) hp;replace hu:=dC.cV (dC.rel hu r W) fun g V=>V.mono fun p hp=>aD ((O 4).g,(O 4).g+1) hp;rw[<-RC]at hK;replace G:=G.tr r.cj;generalize (O 4).g=gx at*
     generalize (O 4).cap=cx at*
     generalize (gx,gx+1)::iv=iv2 at*
     refine .inl ?_;refine⟨ce,be,mx,((i+1:Nat):Int),wo,?_⟩;intro I8 w3 r3;exact⟨(i+1,rv++[.slice (some ⟨gx,0,none⟩) (x.length+1) cx],w3,_),⟨Pk,G.tr r3.cj,dS.rel h r3 W,dC.rel hu r3 W,hK.rel r3 W⟩,sbgn [(0,6)] r3 (hE:=⟨rfl,rfl,by dsimp only;rw[l1];rfl,rfl,trivial⟩),dec Pk⟩
  .refine⟨rC b3 a3 n3 c3 b4 a4 n4 c4,rfl,fun O J r j u hu=>?_,?_⟩
   .obtain⟨k1,k2⟩:=hl j u hu;rw[aK,cd (w:=w1) (F:=J) (by rw[df,df];exact rls r W k1)];exact k2
   refine⟨?_,?_⟩
   .refine⟨?_,?_⟩
    .refine .inl ?_;refine⟨Z.flatten,g1,g2,fun O J r QU=>?_,?_⟩
     .obtain⟨u0,UX⟩:=gO Z.flatten 0;obtain⟨ad,ha,_,_⟩:=g5 0 u0 UX;refine⟨ad,ha,fun j u hj=>?_⟩;obtain⟨ad2,Qm,q1,q2⟩:=g5 j u hj;rw[ha]at Qm;injection Qm with Qm;subst Qm;rw[cd (w:=w1) (F:=J) (by rw[df];exact rls r W q1)];exact q2
     refine⟨rfl,be,mx,?_⟩;rw[aS x.length];refine .inl ?_;refine⟨by rw[<-g1];rfl,be,mx,[(0,.vec T.lM 1 rv)],_,rfl,ce,⟨rfl,trivial⟩,rfl,fun O J r=>?_⟩;have hv:=tq r (id:=4) (sz:=4) (m:=x.length+1) rfl Us mx bv be Ut;refine⟨hv.1,_,pt (tl:=[(13,.o (.w 0 rv.length)),(0,sV am M.length cm),(1,sV ab b.length cb),(6,iN i)]) hv.1 (t:=25) (n:=x.length+1) rfl ⟨rfl,rfl,rfl,rfl,trivial⟩ (by simp[jn,SV.sc,At.sc]),?_⟩;have Qs:=Uu r hv.2.1 hv.2.2 aF;replace hK:=(ed.cV (hK.rel r W) (fun g V=>V.mono fun p hp=>aD _ hp)).push rfl Qs;replace h:=dS.cV (dS.rel h r W) fun g V=>V.mono fun p hp=>aD ((O 4).g,(O 4).g+1) hp;replace hu:=dC.cV (dC.rel hu r W) fun g V=>V.mono fun p hp=>aD ((O 4).g,(O 4).g+1) hp;rw[<-RC]at hK;replace G:=G.tr r.cj;generalize (O 4).g=gx at*
     generalize (O 4).cap=cx at*
     generalize (gx,gx+1)::iv=iv2 at*
     refine .inl ?_;refine⟨ce,be,mx,((i+1:Nat):Int),wo,?_⟩;intro I8 w3 r3;exact⟨(i+1,rv++[.slice (some ⟨gx,0,none⟩) (x.length+1) cx],w3,_),⟨Pk,G.tr r3.cj,dS.rel h r3 W,dC.rel hu r3 W,hK.rel r3 W⟩,sbgn [(0,6)] r3 (hE:=⟨rfl,rfl,by dsimp only;rw[l1];rfl,rfl,trivial⟩),dec Pk⟩
    .refine .inl ?_;refine⟨Z.flatten,g1,g2,fun O J r QU=>?_,?_⟩
     .obtain⟨u0,UX⟩:=gO Z.flatten 0;obtain⟨ad,ha,_,_⟩:=g5 0 u0 UX;refine⟨ad,ha,fun j u hj=>?_⟩;obtain⟨ad2,Qm,q1,q2⟩:=g5 j u hj;rw[ha]at Qm;injection Qm with Qm;subst Qm;rw[cd (w:=w1) (F:=J) (by rw[df];exact rls r W q1)];exact q2
     refine⟨rfl,be,mx,?_⟩;rw[aS x.length];refine .inl ?_;refine⟨by rw[<-g1];rfl,be,mx,[(0,.vec T.lM 1 rv)],_,rfl,ce,⟨rfl,trivial⟩,rfl,fun O J r=>?_⟩;have hv:=tq r (id:=4) (sz:=4) (m:=x.length+1) rfl Us mx bv be Ut;refine⟨hv.1,_,pt (tl:=[(13,.o (.w 0 rv.length)),(0,sV am M.length cm),(1,sV ab b.length cb),(6,iN i)]) hv.1 (t:=25) (n:=x.length+1) rfl ⟨rfl,rfl,rfl,rfl,trivial⟩ (by simp[jn,SV.sc,At.sc]),?_⟩;have Qs:=Uu r hv.2.1 hv.2.2 aF;replace hK:=(ed.cV (hK.rel r W) (fun g V=>V.mono fun p hp=>aD _ hp)).push rfl Qs;replace h:=dS.cV (dS.rel h r W) fun g V=>V.mono fun p hp=>aD ((O 4).g,(O 4).g+1) hp;replace hu:=dC.cV (dC.rel hu r W) fun g V=>V.mono fun p hp=>aD ((O 4).g,(O 4).g+1) hp;rw[<-RC]at hK;replace G:=G.tr r.cj;generalize (O 4).g=gx at*
     generalize (O 4).cap=cx at*
     generalize (gx,gx+1)::iv=iv2 at*
     refine .inl ?_;refine⟨ce,be,mx,((i+1:Nat):Int),wo,?_⟩;intro I8 w3 r3;exact⟨(i+1,rv++[.slice (some ⟨gx,0,none⟩) (x.length+1) cx],w3,_),⟨Pk,G.tr r3.cj,dS.rel h r3 W,dC.rel hu r3 W,hK.rel r3 W⟩,sbgn [(0,6)] r3 (hE:=⟨rfl,rfl,by dsimp only;rw[l1];rfl,rfl,trivial⟩),dec Pk⟩
   .refine .inl ?_;refine⟨Z.flatten,g1,g2,fun O J r QU=>?_,?_⟩
    .obtain⟨u0,UX⟩:=gO Z.flatten 0;obtain⟨ad,ha,_,_⟩:=g5 0 u0 UX;refine⟨ad,ha,fun j u hj=>?_⟩;obtain⟨ad2,Qm,q1,q2⟩:=g5 j u hj;rw[ha]at Qm;injection Qm with Qm;subst Qm;rw[cd (w:=w1) (F:=J) (by rw[df];exact rls r W q1)];exact q2
    refine⟨rfl,be,mx,?_⟩;rw[aS x.length];refine .inl ?_;refine⟨by rw[<-g1];rfl,be,mx,[(0,.vec T.lM 1 rv)],_,rfl,ce,⟨rfl,trivial⟩,rfl,fun O J r=>?_⟩;have hv:=tq r (id:=4) (sz:=4) (m:=x.length+1) rfl Us mx bv be Ut;refine⟨hv.1,_,pt (tl:=[(13,.o (.w 0 rv.length)),(0,sV am M.length cm),(1,sV ab b.length cb),(6,iN i)]) hv.1 (t:=25) (n:=x.length+1) rfl ⟨rfl,rfl,rfl,rfl,trivial⟩ (by simp[jn,SV.sc,At.sc]),?_⟩;have Qs:=Uu r hv.2.1 hv.2.2 aF;replace hK:=(ed.cV (hK.rel r W) (fun g V=>V.mono fun p hp=>aD _ hp)).push rfl Qs;replace h:=dS.cV (dS.rel h r W) fun g V=>V.mono fun p hp=>aD ((O 4).g,(O 4).g+1) hp;replace hu:=dC.cV (dC.rel hu r W) fun g V=>V.mono fun p hp=>aD ((O 4).g,(O 4).g+1) hp;rw[<-RC]at hK;replace G:=G.tr r.cj;generalize (O 4).g=gx at*
    generalize (O 4).cap=cx at*
    generalize (gx,gx+1)::iv=iv2 at*
    refine .inl ?_;refine⟨ce,be,mx,((i+1:Nat):Int),wo,?_⟩;intro I8 w3 r3;exact⟨(i+1,rv++[.slice (some ⟨gx,0,none⟩) (x.length+1) cx],w3,_),⟨Pk,G.tr r3.cj,dS.rel h r3 W,dC.rel hu r3 W,hK.rel r3 W⟩,sbgn [(0,6)] r3 (hE:=⟨rfl,rfl,by dsimp only;rw[l1];rfl,rfl,trivial⟩),dec Pk⟩
 have Pk:=dE N Pk;rw[Pk,bX (by rw[jM];omega)]at hK;intro GE we re;refine⟨_,rfl,G.tr re.cj,rv,?_,hK.1,fun i u x Y I=>dC.out (hK.2.2 i u x Y I) re W⟩;have:=re.ku (id:=0) (sz:=1) (m:=rv.length) rfl (by rw[av]) mx bv hK.2.1;rw[<-hK.1];exact this.cV fun g V=>.inr V
section
variable{S:Nat->Prop}{H:Hp}{nx:Nat}{iv0:Iv}{B:Nat}{w J F:World}{O:Nat->Sx.eH}{v:Value}{xs:List Rat}
end
theorem j5:rs q<0↔q<0:=by rw[rs,Int.sign_neg_iff,<-Int.not_le,Rat.num_nonneg,Rat.not_le]
theorem gv:0<rs q↔0<q:=by
 have h:=j5 (q:= -q);rw[PY]at h;constructor
 .intro k;have:=h.1 be;grind
 .intro k;have:=h.2 (by grind);omega
theorem iS{p:Rat}:rs (p-q)<0↔p<q:=by rw[j5];constructor<;>intro h<;>grind
theorem ql{p:Rat}:0<rs (p-q)↔q<p:=by rw[gv,<-Rat.lt_iff_sub_pos]
def nL(xs ys:List Rat):Prop:=∀i,i<xs.length->ys.getD i 0<=xs.getD i 0
abbrev dg(n:Nat):List Rat:=List.replicate n 0
def iT(M:List (List Rat))(n:Nat)(x b:List Rat):Prop:=x.length=n/\nL x (dg x.length)/\∀(i:Nat) r,M[i]? =some r->dY r x r.length<=b.getD i 0
def qk(M:List (List Rat))(y c:List Rat):Prop:=y.length=M.length/\nL y (dg y.length)/\nL (da y M c.length M.length) c
def iF(M:List (List Rat))(b c:List Rat)(z:Int)(X C9 F9:List Rat)(q:Rat):Prop:=
 (z=0/\F9=[]/\iT M c.length X b/\qk M C9 c/\dY c X c.length=q/\dY C9 b C9.length=q)\/
 (z=1/\X=[]/\F9=[]/\q=0/\qk M C9 (dg c.length)/\dY C9 b C9.length<0)\/
 (z=2/\C9=[]/\q=0/\iT M c.length X b/\iT M c.length F9 (dg b.length)/\0<dY c F9 c.length)
def gR(M:List (List (Int×Int)))(b c:List (Int×Int)):Nat:=if jm M≠0 then jm M else if b.length≠M.length\/(0<M.length/\c.length≠dM M)then 11 else if 60<c.length then 8 else 0
theorem nK{M:List (List (Int×Int))}{c:List (Int×Int)}(h:gR M b c=0):jm M=0/\b.length=M.length/\c.length<=60/\M.length<=60/\∀r∈M,r.length=c.length:=by
 unfold gR at h;split at h
 .rename_i h3;exact absurd h h3
 .rename_i h3;split at h
  .cases h
  .rename_i h4;split at h
   .cases h
   .rename_i h5;have h3:jm M=0:=by omega
    obtain⟨Pm,hl,-⟩:=Dt h3;refine⟨h3,be,be,hl,fun r hr=>?_⟩;have:=List.length_pos_of_mem hr;rw[Pm r hr];omega
theorem tD{vm vb vc:Value}{M:List (List (Int×Int))}{c:List (Int×Int)}(W:Old S w)(h:dR w S vm M)(A:dK w S vb b)(hc:dK w S vc c):
  eL PG FS.n0 #[.agg #[vm,vb,vc]] w (eY w fun v' _=>v'=iV (gR M b c)):=by
 have G:=bR w;obtain⟨am,cm,rfl,SF,TG⟩:=dH.shape h;obtain⟨ab,cb,rfl,RK,Te⟩:=dN.shape A;obtain⟨ac,cc,rfl,Vd,SR⟩:=dN.shape hc;unfold maxLen at TG Te SR;refine rN ce ?_;conv=>whnf
 refine cW (cE G (pE (iV (jm M))) (fun O J r=>uT (oS W r) (dR.cX h ((kS G r W)))) ?_);rintro O _ _ _ Pv r L G h_ rfl;clear r;conv=>whnf
 apply bS<;>intro L
 .have L:jm M≠0:=fun e=>by rw[e]at L;simp at L
  conv=>whnf
  exact rtn G fun GE we re=>by unfold gR;rw[aM L];rfl
 have L:jm M=0:=by
  have h4:((jm M:Int)==0)=true:=by simpa using L
  have:=eq_of_beq h4;omega
 conv=>whnf
 refine dP (idO 23) ?_;conv=>whnf
 apply bS<;>intro hl
 .have hl:b.length≠M.length:=fun e=>by rw[e]at hl;simp at hl
  conv=>whnf
  exact rtn G fun GE we re=>by unfold gR;rw[aI be,aM (.inl hl)];rfl
 have hl:b.length=M.length:=by
  have h4:((b.length:Int)==(M.length:Int))=true:=by simpa using hl
  have:=eq_of_beq h4;omega
 conv=>whnf
 apply bS<;>intro h0
 .have h0:0<M.length:=by have:(0:Int)<M.length:=(by simpa using h0);omega
  conv=>whnf
  refine cE G (pE (iV (dM M))) (fun O J r=>tf (oS W r) (dR.cX h ((kS G r W)))) ?_;rintro O _ _ _ iv2 r L G h_ rfl;clear r L;conv=>whnf
  apply bS<;>intro Y
  .have Y:c.length≠dM M:=fun e=>by rw[e]at Y;simp at Y
   conv=>whnf
   exact rtn G fun GE we re=>by unfold gR;rw[aI be,aM (.inr ⟨h0,Y⟩)];rfl
  have Y:c.length=dM M:=by
   have h4:((c.length:Int)==(dM M:Int))=true:=by simpa using Y
   have:=eq_of_beq h4;omega
  conv=>whnf
  apply bS<;>intro h6
  .have h6:60<c.length:=by have:(60:Int)<c.length:=(by simpa using h6);omega
   conv=>whnf
   exact rtn G fun GE we re=>by unfold gR;rw[aI be,aI be,aM h6];rfl
  have h6:¬60<c.length:=by have:¬(60:Int)<c.length:=(by simpa using h6);omega
  conv=>whnf
  exact rtn G fun GE we re=>by unfold gR;rw[aI be,aI be,aI h6];rfl
 have h0:¬0<M.length:=by have:¬(0:Int)<M.length:=(by simpa using h0);omega
 conv=>whnf
 apply bS<;>intro h6
 .have h6:60<c.length:=by have:(60:Int)<c.length:=(by simpa using h6);omega
  conv=>whnf
  exact rtn G fun GE we re=>by unfold gR;rw[aI be,aI be,aM h6];rfl
 have h6:¬60<c.length:=by have:¬(60:Int)<c.length:=(by simpa using h6);omega
 conv=>whnf
 exact rtn G fun GE we re=>by unfold gR;rw[aI be,aI be,aI h6];rfl
theorem yC{v:Value}{xs ys:List Rat}(W:Old S w)(E:eF w S S v xs)(hy:eF w S S u ys)(hl:xs.length=ys.length)(Vv:∀x∈xs,rl x<=10000000000)(Vn:∀x∈ys,rl x<=10000000000):
  eL PG FS.oU #[v,u] w (eY w fun v' _=>∃d,v'= .bool d/\(d=true->nL xs ys)/\(nL xs ys->d=true)):=by
 have G:=bR w;obtain⟨ax,cx,rfl,XC,Uy⟩:=E.shape;obtain⟨ay,cy,rfl,Yq,-⟩:=hy.shape;unfold maxLen at Uy;refine se ce ?_;conv=>whnf
 refine⟨Nat×World×Iv,fun z=>⟨[(1,sV ay ys.length cy),(7,sV ax xs.length cx),(8,iZ xs.length),(9,iN z.1)],[],0,z.2.2,z.2.1⟩,fun z=>xs.length-z.1,
  fun z=>z.1<=xs.length/\Bq w z.2.1/\∀j,j<z.1->ys.getD j 0<=xs.getD j 0,?_,?_⟩
 .intro O J r;exact⟨(0,J,[]),⟨ae _,G.tr r.cj,fun j hj=>by dsimp only at hj;omega⟩,sbgn [] r⟩
 clear G;rintro⟨i,w1,iv⟩ ⟨N,G,ht⟩;dsimp only at N G ht ⊢;conv=>whnf
 apply bS<;>intro Pk
 .have Pk:=dL Pk;obtain⟨x,Q5⟩:=gO xs i;obtain⟨y,Re⟩:=gO ys i;have Qa:xs.getD i 0=x:=by rw[List.getD,Q5];rfl
  have RR:ys.getD i 0=y:=by rw[List.getD,Re];rfl
  obtain⟨adx,csx,We,SL,RL⟩:=E.load Q5;obtain⟨ady,csy,VU,SY,R9⟩:=hy.load Re;obtain⟨f0,f1,f2,f3,f4,f5,f6,f7,rfl,SL⟩:=SL;obtain⟨q0,q1,q2,q3,q4,q5,q6,q7,rfl,SY⟩:=SY;conv=>whnf
  refine⟨adx,We,be,?_⟩;conv=>whnf
  refine⟨rC f0 f1 f2 f3 f4 f5 f6 f7,rfl,rdO RL G W,?_⟩;conv=>whnf
  refine dP (idO 7) ?_;conv=>whnf
  refine⟨ady,VU,be,?_⟩;conv=>whnf
  refine⟨rC q0 q1 q2 q3 q4 q5 q6 q7,rfl,rdO R9 G W,?_⟩;conv=>whnf
  refine cE G (pE (iV (rs (x-y)))) (fun O J r=>vM (oS W r) (SL.cX ((kS G r W))) (SY.cX ((kS G r W))) (Vv x (aG Q5)) (Vn y (aG Re))) ?_;rintro O _ _ _ Pv r L G h_ rfl;clear r;conv=>whnf
  apply bS<;>intro hs
  .have hs:x<y:=iS.1 (by simpa using hs);conv=>whnf
   exact rtn G fun GE we re=>⟨false,rfl,fun h=>(by cases h),fun h=>absurd hs (Rat.not_lt.2 (by have:=h i Pk;rwa [Qa,RR]at this))⟩
  have hs:y<=x:=Rat.not_lt.1 fun h=>absurd (iS.2 h) (by simpa using hs);conv=>whnf
  refine inc i ?_;conv=>whnf
  intro I8 w3 r3;refine⟨(i+1,w3,_),⟨Pk,G.tr r3.cj,fun j hj=>?_⟩,sbgn [] r3,by dsimp only;omega⟩;rcases aW j i with Y|Y
  .exact ht j Y
  .obtain rfl:j=i:=by dsimp only at hj;omega
   rw[Qa,RR];exact hs
 have Pk:=dE N Pk;conv=>whnf
 exact rtn G fun GE we re=>⟨true,rfl,fun _ j hj=>ht j be,fun _=>rfl⟩
theorem vQ{va vx vb:Value}{x b:List Rat}{a1 a2 a3 a4 a5 g1 g5:Option Addr}{n n1 c1 c2 n3 c3 n4 c4 n5 c5 g2 g3 g6 g7 h:Nat}{g0 g4:Bool}(W:Old S w)(hM:fR w S va M)(E:eF w S S vx x)(A:eF w S S vb b)(Pw:b.length=M.length)(Pm:∀r∈M,r.length=n)
  (TA:Ht M h) (Vv:∀q∈x,rl q+1<=h) (XP:∀q∈b,rl q+1<=h) (I:2<=h) (hh:h<=1000000000) (Q2:2*h*n<=1000000000) (SS:x.length<=1000000):
  eL PG FS.mB #[.agg #[va,.slice a1 n1 c1,.slice a2 n c2,.slice a3 n3 c3,.slice a4 n4 c4,.slice a5 n5 c5,.bool g0,.slice g1 g2 g3,.bool g4,.slice g5 g6 g7],vx,vb] w (eY w fun v' _=>∃d,v'= .bool d/\(d=true->iT M n x b)/\(iT M n x b->d=true)):=by
 have G:=bR w;obtain⟨am,cm,rfl,SF,TG⟩:=dH.shape hM;obtain⟨ax,cx,rfl,XC,Uy⟩:=E.shape;obtain⟨ab,cb,rfl,RK,-⟩:=A.shape;unfold maxLen at TG Uy;refine pW ce ?_;conv=>whnf
 apply bS<;>intro hl
 .have hl:x.length≠n:=fun e=>by rw[e]at hl;simp at hl
  conv=>whnf
  exact rtn G fun GE we re=>⟨false,rfl,fun h=>(by cases h),fun h=>absurd h.1 hl⟩
 have hl:x.length=n:=by
  have h4:((x.length:Int)==(n:Int))=true:=by simpa using hl
  have:=eq_of_beq h4;omega
 conv=>whnf
 refine cW (cE G (fun _ J v F=>eu F FF J.heap.size [(J.heap.size,F.heap.size)] v x.length (dg x.length)) (fun O J r=>jh x.length J be) ?_);rintro O _ _ _ Pv r L G h_ U;have hz:=(show fO _ _ _ _ from(eu.ep (S:=FF) (B:=w.heap.size) U r.cZ (mN h_)).read)
 clear r;obtain⟨ahz,chz,rfl⟩:=hz.shape;rw[aj]at hz ⊢;conv=>whnf
 refine cW (cE G (fun _ J v F=>∃d,v= .bool d/\(d=true->nL x (dg x.length))/\(nL x (dg x.length)->d=true)) (fun O J r=>yC (rlo r W) (fO.cV (fO.cX E ((kS G r W))) fun _ V=>(.inl V:Cv S w.heap.size _ _)) (fO.cV (fO.rel hz r oF) fun _ V=>(qj V:Cv S w.heap.size _ _)) (aj ..).symm (fun q hq=>by have:=Vv q hq;omega) (fun q hq=>by rw[aY hq];decide)) ?_);rintro O _ _ _ iv2 r L G h_ ⟨d,rfl,QM,QJ⟩;clear hz;clear r;conv=>whnf
 cases d with
 |false=>
  have TC:¬(nL x (dg x.length)):=fun h=>absurd (QJ h) bv;clear QM QJ;conv=>whnf
  exact rtn G fun GE we re=>⟨false,rfl,fun h=>(by cases h),fun h=>absurd h.2.1 TC⟩
 |true=>
  have TC:nL x (dg x.length):=QM rfl;clear QM QJ;conv=>whnf
  refine⟨Nat×World×Iv,fun z=>⟨[(1,sV ax x.length cx),(2,sV ab b.length cb),(24,sV am M.length cm),(25,iZ M.length),(26,iN z.1)],[],0,z.2.2,z.2.1⟩,fun z=>M.length-z.1,
   fun z=>z.1<=M.length/\Bq w z.2.1/\∀(j:Nat) r,j<z.1->M[j]? =some r->dY r x r.length<=b.getD j 0,?_,?_⟩
  .intro O J r;exact⟨(0,J,_),⟨ae _,G.tr r.cj,fun j r hj=>by dsimp only at hj;omega⟩,sbgn [] r⟩
  clear G;rintro⟨i,w1,iv⟩ ⟨N,G,ht⟩;dsimp only at N G ht ⊢;conv=>whnf
  apply bS<;>intro Pk
  .have Pk:=dL Pk;obtain⟨ra,Sn⟩:=gO M i;have UH:=Pm ra (aG Sn);obtain⟨y,Re⟩:=gO b i;have RR:b.getD i 0=y:=by rw[List.getD,Re];rfl
   have hyq:=XP y (aG Re);have S5:=fo (TA.at Sn) Vv I ra.length;rw[UH]at S5;obtain⟨adx,ux,rfl,SL,S4,Qa⟩:=dH.load hM Sn;obtain⟨aux,cux,rfl⟩:=dH.rowOf SL;obtain⟨ady,csy,VU,SY,R9⟩:=A.load Re;obtain⟨q0,q1,q2,q3,q4,q5,q6,q7,rfl,SY⟩:=SY;conv=>whnf
   refine⟨adx,rfl,be,?_⟩;conv=>whnf
   refine⟨.slice aux ra.length cux,rd1 Qa G (W _ S4),?_⟩;conv=>whnf
   refine dP [.x 0,.x 1,.x 3,.x 4,.x 5,.x 6,.x 2,.x 7,.x 8] ?_;conv=>whnf
   refine⟨ady,VU,be,?_⟩;conv=>whnf
   refine⟨rC q0 q1 q2 q3 q4 q5 q6 q7,rfl,rdO R9 G W,?_⟩;conv=>whnf
   refine cE G (pR cz (dY ra x ra.length)) (fun O J r=>HM (oS W r) (fO.cX SL ((kS G r W))) (fO.cX E ((kS G r W))) (UH.trans hl.symm) (TA.at Sn) Vv I (by rw[UH];omega)) ?_;rintro O _ _ _ Pu r L G h_ U;have hd:=U.cV (nw r h_);clear r;obtain⟨A0,A1,A2,A3,A4,A5,A6,A7,rfl⟩:=hd.shape;conv=>whnf
   refine cE G (pE (iV (rs (dY ra x ra.length-y)))) (fun O J r=>vM (rlo r W) (cz.cV (cz.rel hd r oF) fun _ V=>(qj V:Cv S w.heap.size _ _)) (cz.cV (cz.cX SY ((kS G r W))) fun _ V=>(.inl V:Cv S w.heap.size _ _)) (by rw[UH];omega) be) ?_;rintro O _ _ _ QD r L G h_ rfl;clear hd;clear r;conv=>whnf
   apply bS<;>intro hs
   .have hs:y<dY ra x ra.length:=ql.1 (by simpa using hs);conv=>whnf
    exact rtn G fun GE we re=>⟨false,rfl,fun h=>(by cases h),fun h=>absurd hs (Rat.not_lt.2 (by have:=h.2.2 i ra Sn;rwa [RR]at this))⟩
   have hs:dY ra x ra.length<=y:=Rat.not_lt.1 fun h=>absurd (ql.2 h) (by simpa using hs);conv=>whnf
   refine inc i ?_;conv=>whnf
   intro I8 w3 r3;refine⟨(i+1,w3,_),⟨Pk,G.tr r3.cj,fun j r hj hr=>?_⟩,sbgn [] r3,by dsimp only;omega⟩;rcases aW j i with Y|Y
   .exact ht j r Y hr
   .obtain rfl:j=i:=by dsimp only at hj;omega
    obtain rfl:ra=r:=by rw[Sn]at hr;injection hr
    rw[RR];exact hs
  have Pk:=dE N Pk;conv=>whnf
  exact rtn G fun GE we re=>⟨true,rfl,fun _=>⟨hl,TC,fun j r hr=>ht j r (by have:=(aH.1 hr).1;omega) hr⟩,fun _=>rfl⟩
theorem HP{va vy vc:Value}{y c:List Rat}{a1 a2 a3 a5 g1 g5:Option Addr}{n n1 c1 c2 n3 c3 n5 c5 g2 g3 g6 g7 h:Nat}{g0 g4:Bool}(W:Old S w)(Ss:n1=M.length)(hM:fR w S va M)(hy:eF w S S vy y)(hc:eF w S S vc c)(Pm:∀r∈M,r.length=c.length)
  (TA:Ht M h) (Vn:∀q∈y,rl q+1<=h) (XH:∀q∈c,rl q+1<=h) (I:2<=h) (hh:h<=1000000000) (Q2:2*h*M.length<=1000000000) (Sv:y.length<=1000000) (Qg:c.length<=1000000):
  eL PG FS.nd #[.agg #[va,.slice a1 n1 c1,.slice a2 n c2,.slice a3 n3 c3,vy,.slice a5 n5 c5,.bool g0,.slice g1 g2 g3,.bool g4,.slice g5 g6 g7],vc] w (eY w fun v' _=>∃d,v'= .bool d/\(d=true->qk M y c)/\(qk M y c->d=true)):=by
 subst Ss;have G:=bR w;obtain⟨am,cm,rfl,SF,TG⟩:=dH.shape hM;obtain⟨ay,cy,rfl,Yq,hmy⟩:=hy.shape;obtain⟨ac,cc,rfl,Vd,-⟩:=hc.shape;unfold maxLen at TG hmy;refine rP ce ?_;conv=>whnf
 refine dP [.x 0,.x 1,.x 2,.x 3,.x 4,.x 5,.x 6,.x 7,.x 8,.x 9,.x 10,.x 11,.x 12,.x 13,.x 14,.x 15,.x 16,.x 17,.x 18,.x 19,.x 20,.x 21,.x 22,.x 24,.x 23,.x 25,.x 26,.x 27] ?_;conv=>whnf
 apply bS<;>intro hl
 .have hl:y.length=M.length:=by
   have h4:((y.length:Int)==(M.length:Int))=true:=by simpa using hl
   have:=eq_of_beq h4;omega
  have Xw:=ob Vn TA I c.length M.length;conv=>whnf
  refine cE G (fun _ J v F=>eu F FF J.heap.size [(J.heap.size,F.heap.size)] v y.length (dg y.length)) (fun O J r=>jh y.length J be) ?_;rintro O _ _ _ Pv r L G h_ U;have hz:=(show fO _ _ _ _ from(eu.ep (S:=FF) (B:=w.heap.size) U r.cZ (mN h_)).read)
  clear r;obtain⟨ahz,chz,rfl⟩:=hz.shape;rw[aj]at hz ⊢;conv=>whnf
  refine cE G (fun _ J v F=>∃d,v= .bool d/\(d=true->nL y (dg y.length))/\(nL y (dg y.length)->d=true)) (fun O J r=>yC (rlo r W) (fO.cV (fO.cX hy ((kS G r W))) fun _ V=>(.inl V:Cv S w.heap.size _ _)) (fO.cV (fO.rel hz r oF) fun _ V=>(qj V:Cv S w.heap.size _ _)) (aj ..).symm (fun q hq=>by have:=Vn q hq;omega) (fun q hq=>by rw[aY hq];decide)) ?_;rintro O _ _ _ iv2 r L G h_ ⟨d,rfl,QM,QJ⟩;clear hz;clear r;conv=>whnf
  cases d with
  |false=>
   have TC:¬(nL y (dg y.length)):=fun h=>absurd (QJ h) bv;clear QM QJ;conv=>whnf
   exact rtn G fun GE we re=>⟨false,rfl,fun h=>(by cases h),fun h=>absurd h.2.1 TC⟩
  |true=>
   have TC:nL y (dg y.length):=QM rfl;clear QM QJ;conv=>whnf
   refine cU (GT:=fun _ J v F=>fO F (Nw (Cv S w.heap.size iv2) J F) v (da y M c.length M.length)) (fun O J r=>LM (rlo r W) (fO.cV (fO.cX hy ((kS G r W))) fun _ V=>(.inl V:Cv S w.heap.size _ _)) (mK.cV (mK.cX hM ((kS G r W))) fun _ V=>(.inl V:Cv S w.heap.size _ _)) hl Pm Qg Vn TA I be) ?_;rintro O Qo v3 Qc r L A U;replace G:=G.tr A;have hT:=U.old r.cZ;clear r L A U;generalize (Qo.heap.size,Qc.heap.size)::iv2=Pu at*
   obtain⟨aT,cT,rfl⟩:=hT.shape;rw[ff]at hT ⊢;conv=>whnf
   refine cE G (fun _ J v F=>∃d,v= .bool d/\(d=true->nL (da y M c.length M.length) c)/\(nL (da y M c.length M.length) c->d=true)) (fun O J r=>yC (rlo r W) (hT.rel r W) (fO.cV (fO.cX hc ((kS G r W))) fun _ V=>(.inl V:Cv S w.heap.size _ _)) (ff ..) (fun q hq=>by have:=Xw q hq;omega) (fun q hq=>by have:=XH q hq;omega)) ?_;rintro O _ _ _ QD r L G h_ ⟨d,rfl,QM,QJ⟩;clear hT;clear r L;conv=>whnf
   cases d with
   |false=>
    have HX:¬(nL (da y M c.length M.length) c):=fun h=>absurd (QJ h) bv;clear QM QJ;conv=>whnf
    exact rtn G fun GE we re=>⟨false,rfl,fun h=>(by cases h),fun h=>absurd h.2.2 HX⟩
   |true=>
    have HX:nL (da y M c.length M.length) c:=QM rfl;clear QM QJ;conv=>whnf
    exact rtn G fun GE we re=>⟨true,rfl,fun _=>⟨hl,TC,HX⟩,fun _=>rfl⟩
 have hl:y.length≠M.length:=fun e=>by rw[e]at hl;simp at hl
 conv=>whnf
 exact rtn G fun GE we re=>⟨false,rfl,fun h=>(by cases h),fun h=>absurd h.1 hl⟩
end Go.Ex
