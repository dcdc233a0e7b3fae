/- Texts X79 to L42: lemmas, each with its conditions. -/
import Derived.Test.YtbffinhkognefaaGreatDoorP10
set_option linter.defProp false
namespace Go.Ex
open Go Go.Sx Go.Proofs
variable{H:Hp}{iv:Iv}{M:List (List (Int×Int))}{U:List (List Value)}{qs:List Rat}{cs:List Value}{B nx:Nat}{S:Nat->Prop}{O:Nat->Sx.eD}{v:Value}{w J:World}
def OG{h0:Nat}(G:Old S w)(h:dQ w S v M)(hL:dZ w S v (dS M))(Qp:∀r∈M,r.length=dM M)(hR:M.length<=1000)(E:dM M<=1000)(TN:Ht (dS M) h0)(I:2<=h0)(TJ:4^(dS M).length*h0<=90000):
  eH PG Fd.uU #[v] w (eV w λv' _=>v'=iV (dF (dS M) (dM M)).2.length):=by
 have W:=bR w;have ZE:(dS M).length=M.length:=by simp[dS]
 have hlen:iP (dM M) (dS M):=λr hr=>by
  rw[dS]at hr;obtain⟨x,Z,rfl⟩:=bA.1 hr;rw[aO];exact Qp x Z
 replace h:=dQ.arg h [];replace hL:=dZ.arg hL [];obtain⟨am,cm,rfl,Rw,Sv⟩:=dG.shape h;refine CH ce ?_;refine cS (cE W (pE (iV (dM M))) (λO J r=>qO (rlo r G) (dQ.rel h r G)) ?_);rintro O _ _ _ Pt r L W h_ rfl;replace hL:=dZ.cV hL r G L (mC h_);refine cS (cR (GT:=λ_ J v F=>∃vm vp,v= .tuple #[vm,vp]/\dZ F (Nw (Cv S w.heap.size Pt) J F) vm (dF (dS M) (dM M)).1/\dw F (Nf J F) vp (dF (dS M) (dM M)).2) (λO J r=>Bj (rlo r G) (dZ.rel hL r G) hlen be be lr TN I TJ) ?_);rintro O Qk v2 QP r L N ⟨vm,vp,rfl,k1,k2⟩;replace W:=W.tr N;have hA:=dZ.old k1 r.cY;have hP:=dw.ef (S:=FF) k2 r.cY (iv:=(Qk.heap.size,QP.heap.size)::Pt) aF;generalize (Qk.heap.size,QP.heap.size)::Pt=iv2 at*
 obtain⟨aA,cA,rfl,hcA,-⟩:=dG.shape hA;have hPs:=hP;obtain⟨-,-,-,ap,cp,rfl,hcp,-⟩:=hPs;exact rtn W λGE we re=>rfl
def gH(w:World)(S:Nat->Prop)(rv:List Value)(FS:List (List Rat)):Prop:=rv.length=FS.length/\(∀u∈rv,u.oneCell'=true)/\∀(i:Nat) u r,rv[i]? =some u->FS[i]? =some r->cd w S u r
section
variable{S S':Nat->Prop}{H:Hp}{nx:Nat}{iv A:Iv}{B:Nat}{w J F:World}{O:Nat->Sx.eD}{rv:List Value}{FS:List (List Rat)}
def gH.cW(h:gH w S rv FS)(K:∀g,S g->F.heap[g]? =w.heap[g]?):gH F S rv FS:=⟨h.1,h.2.1,λi u x Y I=>cd.cW (h.2.2 i u x Y I) K⟩
def gH.cU(h:gH w S rv FS)(K:∀g,S g->S' g):gH w S' rv FS:=⟨h.1,h.2.1,λi u x Y I=>cd.cU (h.2.2 i u x Y I) K⟩
def gH.rel(h:gH w (Cv S B iv) rv FS)(r:Rel H nx iv B w O J)(G:∀g,S g->g<B):gH J (Cv S B iv) rv FS:=h.cW λ_ V=>rls r G V
def gH.cV(h:gH w (Cv S B iv) rv FS)(r:Rel H nx iv B w O J)(G:∀g,S g->g<B)(L:Ext J F)(hm:∀p,p∈iv->p∈A):gH F (Cv S B A) rv FS:=
 ((h.rel r G).cW λg V=>L.block g (rlo r G g V)).cU λ_ V=>V.mono hm
def gH.push{u:Value}{x:List Rat}(h:gH w S rv FS)(hu:u.oneCell'=true)(Z:cd w S u x):gH w S (rv++[u]) (FS++[x]):=by
 refine⟨by simp[h.1],λv hv=>?_,λi v y Y I=>?_⟩
 .rcases az.1 hv with hv|hv
  .exact h.2.1 v hv
  .simp at hv;subst hv;exact hu
 .rcases aW i rv.length with R|R
  .rw[aN R]at Y;rw[aN (by rw[<-h.1];exact R)]at I;exact h.2.2 i v y Y I
  .have Vh:i=rv.length:=by have:=(aH.1 Y).1;simp at this;omega
   subst Vh;rw[aP lr,bV]at Y;rw[h.1,aP lr,bV]at I;simp at Y I;subst Y I;exact Z
end
def aAU(r:Rel H nx iv B w O J){id n:Nat}(h:dT H id=some (.arr T.Rat U.flatten))(hl:U.length=n)(h4:∀cs∈U,cs.length=4)(E:n<=maxLen):
  J.ownsRow 0 T.Rat 4 (.slice (some ⟨(O id).g,0,none⟩) n n) n U.flatten:=by
 have hf:=fJ h4;rw[hl]at hf;exact⟨hf,.inr ⟨(O id).g,n,U.flatten.toArray,rfl,aZ _,r.arr id _ _ h,lr,E,by simpa using hf,by rw[<-hf];exact bE⟩⟩
def fw.Bk(r:Rel H nx iv B w O J){id n:Nat}(h:dT H id=some (.arr T.Rat U.flatten))(hl:U.length=n)(E:n<=maxLen)(hc:Fc w (Cv FF B iv) U qs):
  fw J S B (((O id).g,(O id).g+1)::iv) (.slice (some ⟨(O id).g,0,none⟩) n n) n qs:=by
 refine⟨⟨U,aAU r h hl hc.oP E,hl,(hc.cW λg V=>rls r (iS B) V).cU λg V=>⟨?_,λe=>?_⟩⟩,λg V=>?_⟩
 .exact qL (V.mono λp hp=>aD _ hp)
 .injection e with e;exact Rel.not r (iS B) V id _ h (r.fits h).1 e
 .injection V with V;subst V;exact .inr ⟨(r.low id _ h (r.fits h).1).1,_,_,aF,lr,cF _⟩
def fw.aAD{n:Nat}(h:fw w S B iv v n qs):cd w (Cv S B iv) v qs:=by
 obtain⟨U,Y,I⟩:=h.read;exact⟨U,Y,I.1,I.oP,I.2⟩
def lF(w:World)(S:Nat->Prop)(U:List (List Value))(k:Nat):Prop:=∀(j:Nat) cs,j<k->U[j]? =some cs->jV w S cs 0
def lF.rel{k:Nat}(h:lF w (Cv S B iv) U k)(r:Rel H nx iv B w O J)(G:∀g,S g->g<B):lF J (Cv S B iv) U k:=λj cs Y I=>(h j cs Y I).cW λ_ V=>rls r G V
def lF.cV{A:Iv}{F:World}{k:Nat}(h:lF w (Cv S B iv) U k)(r:Rel H nx iv B w O J)(G:∀g,S g->g<B)(L:Ext J F)(hm:∀p,p∈iv->p∈A):lF F (Cv S B A) U k:=λj cs Y I=>
 (((h.rel r G) j cs Y I).cW λg V=>L.block g (rlo r G g V)).cU λ_ V=>V.mono hm
def lF.push{k:Nat}(h:lF w S U k)(hc:jV w S cs 0):lF w S (U.set k cs) (k+1):=λj x hj Z=>by
 rw[List.getElem?_set]at Z;split at Z
 .split at Z
  .injection Z with Z;subst Z;exact hc
  .cases Z
 .exact h j x be Z
def NH{k:Nat}(h:∀x∈U,x.length=4)(hc:cs.length=4):∀x∈U.set k cs,x.length=4:=λx Z=>by
 rcases bL Z with Y|Y
 .exact h x Y
 .rw[Y];exact hc
structure yN(w:World)(S:Nat->Prop)(U:List (List Value))(qs:List Rat):Prop where
 len:U.length=qs.length
 four:∀cs∈U,cs.length=4
 at_:∀(j:Nat) cs q,U[j]? =some cs->qs[j]? =some q->jV w S cs q
section
variable{S S':Nat->Prop}{H:Hp}{nx:Nat}{iv A:Iv}{B:Nat}{w J F:World}{O:Nat->Sx.eD}{U:List (List Value)}{qs:List Rat}
def yN.nil:yN w S [] []:=⟨rfl,λ_ h=>(by cases h),λ_ _ _ h=>by cases h⟩
def yN.cW(h:yN w S U qs)(K:∀g,S g->F.heap[g]? =w.heap[g]?):yN F S U qs:=⟨h.len,h.four,λj cs q Y I=>by
 obtain⟨b,a,n,c,b2,a2,n2,c2,e,hr⟩:=h.at_ j cs q Y I
 exact⟨b,a,n,c,b2,a2,n2,c2,e,hr.cW K⟩⟩
def yN.cU(h:yN w S U qs)(K:∀g,S g->S' g):yN w S' U qs:=⟨h.len,h.four,λj cs q Y I=>by
 obtain⟨b,a,n,c,b2,a2,n2,c2,e,hr⟩:=h.at_ j cs q Y I
 exact⟨b,a,n,c,b2,a2,n2,c2,e,hr.cU K⟩⟩
def yN.rel(h:yN w (Cv S B iv) U qs)(r:Rel H nx iv B w O J)(G:∀g,S g->g<B):yN J (Cv S B iv) U qs:=h.cW λ_ V=>rls r G V
def yN.cV(h:yN w (Cv S B iv) U qs)(r:Rel H nx iv B w O J)(G:∀g,S g->g<B)(L:Ext J F)(hm:∀p,p∈iv->p∈A):yN F (Cv S B A) U qs:=
 ((h.rel r G).cW λg V=>L.block g (rlo r G g V)).cU λ_ V=>V.mono hm
def yN.push{q:Rat}(h:yN w S U qs)(hc:jV w S cs q)(h4:cs.length=4):yN w S (U++[cs]) (qs++[q]):=by
 refine⟨by simp[h.len],λx Z=>?_,λj x p Y I=>?_⟩
 .rcases az.1 Z with Z|Z
  .exact h.four x Z
  .rw[aY.1 Z];exact h4
 .rcases aW j U.length with R|R
  .rw[aN R]at Y;rw[aN (by rw[<-h.len];exact R)]at I;exact h.at_ j x p Y I
  .have Vh:j=U.length:=by have:=(aH.1 Y).1;simp at this;omega
   subst Vh;rw[aP lr,bV]at Y;rw[h.len,aP lr,bV]at I;simp at Y I;subst Y I;exact hc
def yN.one(h:yN w S U qs):∀u∈U.flatten,u.oneCell'=true:=λu hu=>by
 obtain⟨cs,hc,hu⟩:=List.mem_flatten.1 hu;obtain⟨j,hj⟩:=aj hc;obtain⟨_,_,_,_,_,_,_,_,rfl,_⟩:=h.at_ j cs _ hj (aE (by rw[<-h.len];exact(aH.1 hj).1));simp at hu;rcases hu with rfl|rfl|rfl|rfl<;>rfl
def yN.list(h:yN w S U qs)(hs:fT w S 4 v U.flatten U.length):cd w S v qs:=⟨U,h.len▸hs,h.len,h.four,h.at_⟩
end
end Go.Ex
namespace Go.Sx
open Go Go.Ex Go.Proofs
variable{cs:List Value}{O:Nat->Sx.eD}
def Rel.DR{H:Hp}{nx:Nat}{iv:Iv}{B:Nat}{w J:World}(r:Rel H nx iv B w O J){T:Nat->Prop}{id t m sz:Nat}(h:dT H id=some (.vec t sz cs))(hm:cs.length=m*sz)(VG:m<=maxLen)(hs:0<sz)(Y:∀u∈cs,u.oneCell'=true)(hT:(O id).nil=false->T (O id).g):
  fT J T sz ((At.w id m).den O) cs m:=by
 rcases r.fits h with⟨E,rfl⟩|⟨E,spare,I,h3,h4⟩
 .have UC:m=0:=by
   rcases bB m with h|h
   .exact h
   .have:=Nat.mul_pos h hs;simp at hm;omega
  subst UC;have hden:(At.w id 0).den O=nls:=by simp[At.den,E]
  rw[hden];exact⟨aZ _,ce,ce,none,0,rfl,lr,λj u h=>by cases h⟩
 .have hden:(At.w id m).den O= .slice (some ⟨(O id).g,0,none⟩) m (O id).cap:=by simp[At.den,E]
  rw[hden];refine⟨VG,hm,Y,_,_,rfl,?_,λj u hu=>⟨_,rfl,hT E,?_⟩⟩
  .rw[aU,hm]at h3;exact Nat.le_of_mul_le_mul_right (show m*sz<=(O id).cap*sz by omega) hs
  .rw[dD,cell_of I,aV,aN (aH.1 hu).1];exact hu
end Go.Sx
namespace Go.Ex
open Go Go.Sx Go.Proofs
variable{O:Nat->Sx.eD}
def aAx{id n:Nat}:((At.w id n).den O).oneCell'=true:=by
 cases h:(O id).nil<;>simp[At.den,h,Value.oneCell']
end Go.Ex
namespace Go.Ex
variable{M:List (List Rat)}{r:List Rat}
def kQ(M:List (List Rat))(cols:Nat):(dF M cols).1.length=M.length:=by
 have key:∀(l:List Nat) (s:List (List Rat)×List Nat),(l.foldl eY s).1.length=s.1.length:=by
  intro l
  induction l with
  |nil=>exact λs=>rfl
  |cons c l ih=>exact λs=>by rw[List.foldl_cons,ih,vG]
 exact key _ _
def uF{M:List (List Rat)}{c:Nat}:∀f k j,k<=j->j<gL M c f k->dR M j c=0
 |0,k,j,Y,I=>by simp only[gL]at I;omega
 |f+1,k,j,Y,I=>by
  unfold gL at I;split at I
  .rename_i h0;rcases aW k j with h|h
   .exact uF f (k+1) j h I
   .rw[show j=k by omega];exact h0
  .omega
def xn{s:List (List Rat)×List Nat}(c:Nat)(hle:s.2.length<=s.1.length):(eY s c=s/\∀j,s.2.length<=j->j<s.1.length->dR s.1 j c=0)\/
  ∃k,s.2.length<=k/\k<s.1.length/\dR s.1 k c≠0/\eY s c=(dg (scaled (fI [] s.1 s.2.length k) s.2.length c) s.2.length c s.1.length,s.2++[c]):=by
 have Y:=vH s.1 c (s.1.length-s.2.length) s.2.length;by_cases K:gL s.1 c (s.1.length-s.2.length) s.2.length=s.1.length
 .exact .inl ⟨zj (.inr K),λj hj hl=>uF (s.1.length-s.2.length) s.2.length j hj be⟩
 .exact .inr ⟨_,Y.1,be,vI s.1 c _ _ be,zk Y.1 be (λj I h3=>uF _ _ j I h3) (vI s.1 c _ _ be)⟩
def vJ{i:Nat}(h:i<M.length):M.getD i []∈M:=by
 rw[List.getD,aE h];exact bm h
def Jq{p:Rat}{s:List Rat}{c:Nat}(h:c<r.length):(r.mapIdx (Dk p s)).getD c 0=r.getD c 0+p*s.getD c 0:=by
 simp only[List.getD,List.getElem?_mapIdx,aE h]
 rfl
def zm{k:Rat}{c:Nat}:(r.map (· *k)).getD c 0=r.getD c 0*k:=by
 simp only[List.getD,aS]
 cases r[c]? with
 |none=>exact(bc k).symm
 |some q=>rfl
def zn{s:List (List Rat)×List Nat}{c k n:Nat}(hl:iP n s.1)(Y:s.2.length<=k)(I:k<s.1.length)(h3:dR s.1 k c≠0)(e:eY s c=(dg (scaled (fI [] s.1 s.2.length k) s.2.length c) s.2.length c s.1.length,s.2++[c])):
  (∀t,dR (eY s c).1 s.2.length t=dR s.1 k t*(1 / dR s.1 k c))/\
  ∀j,j<s.1.length->j≠s.2.length->∀t,t<n->dR (eY s c).1 j t=dR s.1 (if j=k then s.2.length else j) t+ -(dR s.1 (if j=k then s.2.length else j) c)*(dR s.1 k t*(1 / dR s.1 k c)):=by
 have hp:s.2.length<s.1.length:=by omega
 have hsw:dR (fI [] s.1 s.2.length k) s.2.length c=dR s.1 k c:=vK hp I;have hpiv:(scaled (fI [] s.1 s.2.length k) s.2.length c).getD s.2.length []=(s.1.getD k []).map (· *(1 / dR s.1 k c)):=by
  unfold scaled;rw[hsw,List.getD,aQ (by rw[fO];exact hp)];simp only[Option.getD_some]
  congr 1;rw[List.getD,List.getD,Cl hp I]
 have Pm:∀j,j<s.1.length->j≠s.2.length->(scaled (fI [] s.1 s.2.length k) s.2.length c)[j]? =some (s.1.getD (if j=k then s.2.length else j) []):=λj hj Po=>by
  unfold scaled;rw[aX (Ne.symm Po)];unfold fI;by_cases Up:j=k
  .subst Up;rw[aQ (by simpa using hj),aM rfl]
  .rw[aX (Ne.symm Up),aX (Ne.symm Po),aJ Up,List.getD,aE hj];rfl
 have hgp:(dg (scaled (fI [] s.1 s.2.length k) s.2.length c) s.2.length c s.1.length).getD s.2.length []=(s.1.getD k []).map (· *(1 / dR s.1 k c)):=by
  rw[<-hpiv];simp only[List.getD,uG]
 rw[e];refine⟨λt=>?_,λj hj Po t ht=>?_⟩
 .show((dg (scaled (fI [] s.1 s.2.length k) s.2.length c) s.2.length c s.1.length).getD s.2.length []).getD t 0=_;rw[hgp,zm];rfl
 .have hgj:(dg (scaled (fI [] s.1 s.2.length k) s.2.length c) s.2.length c s.1.length).getD j []=(s.1.getD (if j=k then s.2.length else j) []).mapIdx (Dk (-((s.1.getD (if j=k then s.2.length else j) []).getD c 0)) ((s.1.getD k []).map (· *(1 / dR s.1 k c)))):=by
   simp only[List.getD,dg,List.getElem?_mapIdx,Pm j hj Po,bN,Option.getD_some]
   rw[aM ⟨hj,Po⟩];exact congrArg (λP=>(s.1.getD (if j=k then s.2.length else j) []).mapIdx (Dk (-((s.1.getD (if j=k then s.2.length else j) []).getD c 0)) P)) hpiv
  show((dg (scaled (fI [] s.1 s.2.length k) s.2.length c) s.2.length c s.1.length).getD j []).getD t 0=_;rw[hgj,Jq (by rw[hl.getD (by split<;>omega)];exact ht),zm];rfl
def zo{x:Rat}(h:x≠0):x*(1 / x)=1:=by rw[bO,cQ,Rat.mul_inv_cancel x h]
def Red(n c:Nat)(s:List (List Rat)×List Nat):Prop:=iP n s.1/\s.2.length<=s.1.length/\(∀j t,s.2.length<=j->j<s.1.length->t<c->dR s.1 j t=0)/\(∀p∈s.2,p<c)/\
 ∀i j,i<s.2.length->j<s.1.length->dR s.1 j (s.2.getD i 0)=if j=i then 1 else 0
def Red.step{n c:Nat}{s:List (List Rat)×List Nat}(h:Red n c s)(hc:c<n):Red n (c+1) (eY s c):=by
 obtain⟨hl,hle,hz,Th,hu⟩:=h;rcases xn c hle with⟨e,h0⟩|⟨k,Y,I,h3,e⟩
 .rw[e];refine⟨hl,hle,λj t hj WR ht=>?_,λp hp=>by have:=Th p hp;omega,hu⟩;rcases aW t c with h|h
  .exact hz j t hj WR h
  .rw[show t=c by omega];exact h0 j hj WR
 .obtain⟨r1,r2⟩:=zn hl Y I h3 e;have hlen:(eY s c).1.length=s.1.length:=vG s c;have e2:(eY s c).2=s.2++[c]:=by rw[e]
  have e3:(eY s c).2.length=s.2.length+1:=by rw[e2];simp
  have Rx:∀j,j<s.1.length->j≠s.2.length->dR (eY s c).1 j c=0:=λj hj Po=>by
   rw[r2 j hj Po c hc,zo h3,Rat.mul_one,Rat.add_neg_cancel]
  refine⟨hl.step,by rw[e3,hlen];omega,λj t hj WR ht=>?_,λp hp=>?_,λi j R hj=>?_⟩
  .rw[e3]at hj;rw[hlen]at WR;rcases aW t c with h|h
   .rw[r2 j WR be t be,hz k t Y I h,hz (if j=k then s.2.length else j) t (by split<;>omega) (by split<;>omega) h,bc,bF,Rat.zero_add]
   .rw[show t=c by omega];exact Rx j WR be
  .rw[e2]at hp;rcases az.1 hp with hp|hp
   .have:=Th p hp;omega
   .rw[aY.1 hp];omega
  .rw[e3]at R;rw[hlen]at hj;rcases aW i s.2.length with h|h
   .have V:(eY s c).2.getD i 0=s.2.getD i 0:=by rw[e2,List.getD,aN h,<-List.getD]
    have Yo:s.2.getD i 0<c:=Th _ (by rw[List.getD,aE h];exact bm h);have Sp:dR s.1 k (s.2.getD i 0)=0:=hz k _ Y I Yo;rw[V];by_cases hjp:j=s.2.length
    .rw[hjp,r1,Sp,bc,aJ be]
    .rw[r2 j hj hjp _ be,Sp,bc,bF,cH];by_cases Up:j=k
     .rw[aM Up,hu i _ h be,aJ be,aJ be]
     .rw[aJ Up,hu i j h hj]
   .have V:(eY s c).2.getD i 0=c:=by rw[e2,List.getD,aP h,show i-s.2.length=0 by omega];rfl
    rw[V];by_cases hjp:j=s.2.length
    .rw[hjp,r1,zo h3,aM be]
    .rw[Rx j hj hjp,aJ be]
def jy{M:List (List Rat)}{n:Nat}(hl:iP n M):∀cols,cols<=n->Red n cols (dF M cols)
 |0,_=>⟨hl,aZ _,λ_ _ _ _ h=>be,λp hp=>(by cases hp),λ_ _ h=>(by cases h)⟩
 |c+1,h=>by
  have ih:=jy hl c be;unfold dF at ih ⊢;rw[bu,List.foldl_append];exact ih.step be
abbrev Mx:=Nat->Nat->Rat
def skip(k j:Nat):Nat:=if j<k then j else j+1
def uJ(k:Nat):Rat:=if k % 2=1 then -1 else 1
def cj(f:Nat->Rat):Nat->Rat
 |0=>0
 |n+1=>cj f n+f n
def fp:Nat->Mx->Rat
 |0,_=>1
 |n+1,m=>cj (λk=>uJ k*(m 0 k*fp n λi j=>m (i+1) (skip k j))) (n+1)
def cX{f g:Nat->Rat}:∀{n:Nat},(∀k,k<n->f k=g k)->cj f n=cj g n
 |0,_=>rfl
 |n+1,h=>by rw[cj,cj,cX λk K=>h k be,h n be]
def dc:∀(n:Nat),cj (λ_=>0) n=0
 |0=>rfl
 |n+1=>by rw[cj,dc n,cH]
def fu(f g:Nat->Rat):∀(n:Nat),cj (λk=>f k+g k) n=cj f n+cj g n
 |0=>(cH 0).symm
 |n+1=>by rw[cj,cj,cj,fu f g n];grind
def fP(p:Rat)(f:Nat->Rat):∀(n:Nat),cj (λk=>p*f k) n=p*cj f n
 |0=>(bF p).symm
 |n+1=>by rw[cj,cj,fP p f n];grind
def gM(f:Nat->Rat)(n:Nat):cj (λk=> -f k) n= -cj f n:=by
 have h:=fP (-1) f n;rw[show (-1:Rat)*cj f n= -cj f n by grind]at h;rw[<-h];exact cX λk _=>by grind
def IY{k j n:Nat}(h:j<n):skip k j<n+1:=by unfold skip;split<;>omega
def Jr{k l:Nat}(h:k<=l)(j:Nat):skip k (skip l j)=skip (l+1) (skip k j):=by
 unfold skip;grind
def jr:∀{n:Nat} {m m':Mx},(∀i j,i<n->j<n->m i j=m' i j)->fp n m=fp n m'
 |0,_,_,_=>rfl
 |n+1,m,m',h=>by
  unfold fp;refine cX λk K=>?_;rw[h 0 k be K,jr λi j R hj=>h (i+1) (skip k j) be (IY hj)]
def iy(m:Mx)(r:Nat)(u:Nat->Rat):Mx:=λi j=>if i=r then u j else m i j
def wz(m:Mx)(r k:Nat)(u:Nat->Rat):(λi j=>iy m (r+1) u (i+1) (skip k j))=iy (λi j=>m (i+1) (skip k j)) r λj=>u (skip k j):=by
 funext i j
 unfold iy;by_cases h:i=r
 .rw[aM h,aM be]
 .rw[aJ h,aJ be]
def rJ(p:Rat):∀(n r:Nat) (m:Mx),r<n->∀(u v:Nat->Rat),fp n (iy m r λj=>u j+p*v j)=fp n (iy m r u)+p*fp n (iy m r v)
 |0,_,_,h,_,_=>by omega
 |n+1,0,m,_,u,v=>by
  unfold fp;rw[<-fP,<-fu];refine cX λk _=>?_;have e:∀x:Nat->Rat,(λi j=>iy m 0 x (i+1) (skip k j))=λi j=>m (i+1) (skip k j):=λx=>by
   funext i j;unfold iy;rw[aJ be]
  rw[e,e,e];unfold iy;rw[aM rfl,aM rfl,aM rfl];grind
 |n+1,r+1,m,h,u,v=>by
  unfold fp;rw[<-fP,<-fu];refine cX λk _=>?_;rw[wz,wz,wz,rJ p n r _ be (λj=>u (skip k j)) λj=>v (skip k j)];have e:∀x:Nat->Rat,iy m (r+1) x 0 k=m 0 k:=λx=>by unfold iy;rw[aJ be]
  rw[e,e,e];grind
def zw{AC:Nat->Nat->Rat}:∀{n:Nat},(∀k l,k<=l->l<n->AC k l+AC (l+1) k=0)->cj (λk=>cj (AC k) n) (n+1)=0
 |0,_=>by show 0+0=(0:Rat);grind
 |n+1,h=>by
  have ih:=zw (AC:=AC) (n:=n) λk l Y I=>h k l Y be;have h3:cj (λk=>AC k n+AC (n+1) k) (n+1)=0:=by
   rw[cX (g:=λ_=>0) λk K=>h k n be be,dc]
  rw[fu]at h3;rw[cj];have h4:cj (λk=>cj (AC k) (n+1)) (n+1)=cj (λk=>cj (AC k) n) (n+1)+cj (λk=>AC k n) (n+1):=by
   rw[<-fu];rfl
  rw[h4,ih,Rat.zero_add];exact h3
def xo(a b i:Nat):Nat:=if i=a then b else if i=b then a else i
def Js(r i:Nat):xo (r+1) (r+2) (i+1)=xo r (r+1) i+1:=by
 unfold xo;by_cases h:i=r
 .rw[aM be,aM h]
 .rw[aJ be,aJ h];by_cases I:i=r+1
  .rw[aM be,aM I]
  .rw[aJ be,aJ I]
def La(k:Nat):uJ (k+1)= -uJ k:=by
 unfold uJ;by_cases h:k % 2=1
 .rw[aM h,aJ be];grind
 .rw[aJ h,aM be]
def FT(n:Nat)(m:Mx):fp (n+2) m=cj (λk=>cj (λl=>uJ k*uJ l*(m 0 k*m 1 (skip k l))*fp n λi j=>m (i+2) (skip k (skip l j))) (n+1)) (n+2):=by
 rw[fp];refine cX λk _=>?_;rw[fp,<-fP,<-fP];refine cX λl _=>?_;grind
def zx:∀(n r:Nat) (m:Mx),r+1<n->fp n (λi j=>m (xo r (r+1) i) j)= -fp n m
 |0,_,_,h=>by omega
 |1,_,_,h=>by omega
 |n+2,0,m,_=>by
  rw[FT,FT,<-gM];have key:cj (λk=>cj (λl=>uJ k*uJ l*(m 1 k*m 0 (skip k l))*(fp n λi j=>m (i+2) (skip k (skip l j)))+uJ k*uJ l*(m 0 k*m 1 (skip k l))*fp n λi j=>m (i+2) (skip k (skip l j))) (n+1)) (n+2)=0:=by
   refine zw λk l Y I=>?_;have e1:skip k l=l+1:=by unfold skip;rw[aJ be]
   have e2:skip (l+1) k=k:=by unfold skip;rw[aM be]
   have e3:(λi j=>m (i+2) (skip (l+1) (skip k j)))=λi j=>m (i+2) (skip k (skip l j)):=by
    funext i j;rw[Jr Y]
   rw[e1,e2,e3,La];grind
  have h4:cj (λk=>cj (λl=>uJ k*uJ l*(m 1 k*m 0 (skip k l))*(fp n λi j=>m (i+2) (skip k (skip l j)))+uJ k*uJ l*(m 0 k*m 1 (skip k l))*fp n λi j=>m (i+2) (skip k (skip l j))) (n+1)) (n+2)=
    cj (λk=>cj (λl=>uJ k*uJ l*(m 1 k*m 0 (skip k l))*fp n λi j=>m (i+2) (skip k (skip l j))) (n+1)) (n+2)+cj (λk=>cj (λl=>uJ k*uJ l*(m 0 k*m 1 (skip k l))*fp n λi j=>m (i+2) (skip k (skip l j))) (n+1)) (n+2):=by
   rw[<-fu];exact cX λk _=>fu _ _ _
  rw[h4]at key;have h5:cj (λk=> -cj (λl=>uJ k*uJ l*(m 0 k*m 1 (skip k l))*fp n λi j=>m (i+2) (skip k (skip l j))) (n+1)) (n+2)= -cj (λk=>cj (λl=>uJ k*uJ l*(m 0 k*m 1 (skip k l))*fp n λi j=>m (i+2) (skip k (skip l j))) (n+1)) (n+2):=gM _ _;rw[h5];have h6:cj (λk=>cj (λl=>uJ k*uJ l*(m (xo 0 1 0) k*m (xo 0 1 1) (skip k l))*fp n λi j=>m (xo 0 1 (i+2)) (skip k (skip l j))) (n+1)) (n+2)=cj (λk=>cj (λl=>uJ k*uJ l*(m 1 k*m 0 (skip k l))*fp n λi j=>m (i+2) (skip k (skip l j))) (n+1)) (n+2):=by
   refine cX λk _=>cX λl _=>?_;have e:∀i,xo 0 1 (i+2)=i+2:=λi=>by unfold xo;rw[aJ be,aJ be]
   simp only[e]
   rfl
  rw[show (0:Nat)+1=1 from rfl,h6];grind
 |n+2,r+1,m,h=>by
  rw[fp,fp,<-gM];refine cX λk _=>?_;have e:(λi j=>m (xo (r+1) (r+1+1) (i+1)) (skip k j))=λi j=>m (xo r (r+1) i+1) (skip k j):=by
   funext i j
   rw[show r+1+1=r+2 from rfl,Js]
  have ih:fp (n+1) (λi j=>m (xo r (r+1) i+1) (skip k j))= -fp (n+1) λi j=>m (i+1) (skip k j):=zx (n+1) r (λi j=>m (i+1) (skip k j)) be;rw[e,ih];rw[show xo (r+1) (r+1+1) 0=0 by unfold xo;rw[aJ be,aJ be]];grind
def pZ:∀(k n:Nat) (m:Mx),k+1<n->(∀j,j<n->m 0 j=m (k+1) j)->fp n m=0
 |0,n,m,h,L=>by
  have Y:=zx n 0 m h;rw[jr (m':=m) λi j R hj=>?_]at Y
  .grind
  .unfold xo;by_cases h0:i=0
   .rw[aM h0,h0];exact(L j hj).symm
   .rw[aJ h0];by_cases I:i=1
    .rw[aM I,I];exact L j hj
    .rw[aJ I]
 |k+1,n,m,h,L=>by
  have Y:=zx n (k+1) m h;rw[pZ k n _ be λj hj=>?_]at Y
  .grind
  .rw[show xo (k+1) (k+1+1) 0=0 by unfold xo;rw[aJ be,aJ be],show xo (k+1) (k+1+1) (k+1)=k+1+1 by unfold xo;rw[aM rfl]];exact L j hj
def FU(m:Mx)(r:Nat):iy m r (m r)=m:=by
 funext i j
 unfold iy;by_cases h:i=r
 .rw[aM h,h]
 .rw[aJ h]
def Jt{n k:Nat}{m:Mx}(h:k+1<n):fp n (λi j=>m (xo 0 (k+1) i) j)= -fp n m:=by
 have z:∀u:Nat->Rat,fp n (iy (iy m 0 u) (k+1) u)=0:=λu=>pZ k n _ h λj _=>by
  unfold iy;rw[aJ be,aM rfl,aM rfl]
 have cm:∀u v:Nat->Rat,iy (iy m 0 u) (k+1) v=iy (iy m (k+1) v) 0 u:=λu v=>by
  funext i j;unfold iy
  by_cases Y:i=k+1
  .rw[aM Y,aJ be,aM Y]
  .rw[aJ Y,aJ Y]
 have l1:∀u v x:Nat->Rat,fp n (iy (iy m 0 u) (k+1) λj=>v j+1*x j)=fp n (iy (iy m 0 u) (k+1) v)+1*fp n (iy (iy m 0 u) (k+1) x):=λu v x=>rJ 1 n (k+1) _ h v x;have l2:∀u v x:Nat->Rat,fp n (iy (iy m 0 λj=>v j+1*x j) (k+1) u)=fp n (iy (iy m 0 v) (k+1) u)+1*fp n (iy (iy m 0 x) (k+1) u):=λu v x=>by
  rw[cm,cm,cm];exact rJ 1 n 0 _ be v x
 have Y:=z λj=>m 0 j+1*m (k+1) j;rw[l1,l2,l2,z,z]at Y;have e1:iy (iy m 0 (m 0)) (k+1) (m (k+1))=m:=by rw[FU,FU]
 have e2:iy (iy m 0 (m (k+1))) (k+1) (m 0)=λi j=>m (xo 0 (k+1) i) j:=by
  funext i j;unfold iy xo
  by_cases Y:i=k+1
  .rw[aM Y,aJ be,aM Y]
  .rw[aJ Y];by_cases h0:i=0
   .rw[aM h0,aM h0]
   .rw[aJ h0,aJ h0,aJ Y]
 rw[e1,e2]at Y;grind
def jB(f:Nat->Rat)(p:Rat)(n:Nat):cj (λk=>f k*p) n=cj f n*p:=by
 rw[Rat.mul_comm,<-fP];exact cX λk _=>Rat.mul_comm ..
def jc(f g:Nat->Rat):∀(n:Nat),cj (λk=>f k-g k) n=cj f n-cj g n
 |0=>by show(0:Rat)=0-0;grind
 |n+1=>by rw[cj,cj,cj,jc f g n];grind
def eN{f:Nat->Rat}{i:Nat}:∀{n:Nat},i<n->(∀k,k<n->k≠i->f k=0)->cj f n=f i
 |0,h,_=>by omega
 |n+1,h,hz=>by
  rw[cj];rcases aW i n with Y|Y
  .rw[eN Y λk K Po=>hz k be Po,hz n be be,cH]
  .obtain rfl:i=n:=by omega
   rw[cX (g:=λ_=>0) λk K=>hz k be be,dc,Rat.zero_add]
def LW(s:List (List Rat)×List Nat)(c:Nat):(eY s c).2=s.2\/(eY s c).2=s.2++[c]:=by
 unfold eY;split
 .dsimp only
  split
  .exact .inl rfl
  .exact .inr rfl
 .exact .inl rfl
def mQ(M:List (List Rat)):∀c:Nat,(∀p∈((List.range c).foldl eY (M,[])).2,p<c)/\(((List.range c).foldl eY (M,[])).2).Pairwise (· < ·)/\((List.range c).filter λj=>decide (j∉((List.range c).foldl eY (M,[])).2)).length+((List.range c).foldl eY (M,[])).2.length=c:=by
 intro c
 induction c with
 |zero=>simp
 |succ c ih=>
  rw[bu,List.foldl_append,List.foldl_cons,List.foldl_nil];generalize (List.range c).foldl eY (M,[])=s at*
  obtain⟨Y,I,h3⟩:=ih;have hc:c∉s.2:=λh=>by have:=Y c h;omega
  rcases LW s c with e|e
  .rw[e];refine⟨λp hp=>by have:=Y p hp;omega,I,?_⟩;rw[List.filter_append,aU];simp only[List.filter_cons,hc,not_false_eq_true,decide_true,if_true,List.filter_nil,List.length_singleton]
   omega
  .rw[e];refine⟨λp hp=>?_,?_,?_⟩
   .rcases az.1 hp with hp|hp
    .have:=Y p hp;omega
    .simp at hp;omega
   .rw[List.pairwise_append];exact⟨I,ce,λa ha b N=>by simp at N;subst N;exact Y a ha⟩
   .rw[List.filter_append,aU];have:(List.range c).filter (λj=>decide (j∉s.2++[c]))=(List.range c).filter (λj=>decide (j∉s.2)):=List.filter_congr λj hj=>by
     have:=List.mem_range.1 hj;have Po:j≠c:=by omega
     simp[Po]
    have h0:(([c]:List Nat).filter λj=>decide (j∉s.2++[c])).length=0:=by simp
    rw[this,aU,List.length_singleton,h0];omega
end Go.Ex
namespace Go.Ex
open Go Go.Sx Go.Proofs
variable{M:List (List Rat)}{qs r xs ys:List Rat}{cs:List Value}{h:Nat}{S S':Nat->Prop}{O:Nat->Sx.eD}{q:Rat}{v:Value}{w F:World}
def nE.cW{M:List (List (Int×Int))}(h:nE w S v M)(K:∀g,S g->F.heap[g]? =w.heap[g]?):nE F S v M:=⟨h.1,h.2.1,dZ.cW h.2.2.1 K,h.2.2.2⟩
section
variable{S S':Nat->Prop}{H:Hp}{nx:Nat}{iv A:Iv}{B:Nat}{w J F:World}{O:Nat->Sx.eD}{v:Value}{M:List (List (Int×Int))}
end
def nE.aAy{M:List (List (Int×Int))}(h:nE w S v M)(L:j8 M=0):
  (∀r∈M,r.length=dM M)/\M.length<=5/\dM M<=5/\Ht (dS M) 4/\4^(dS M).length*4<=4096:=by
 obtain⟨Y,I,h3⟩:=D6 L;have h4:M.length<=5:=by have:=h.1;unfold qc at this;omega
 refine⟨Y,h4,?_,λr hr q hq=>?_,?_⟩
 .cases M with
  |nil=>exact aZ _
  |cons r t=>
   have:=h.2.1 r aF;have h5:dM (r::t)=r.length:=rfl;unfold qc at this;omega
 .have:=h.2.2.2.1 r hr q hq;omega
 .have h5:(dS M).length<=5:=by simp[dS];exact h4
  exact aR (Nat.mul_le_mul_right 4 (Nat.pow_le_pow_right bv h5)) bv
def IP(x y:Rat):x-y+y=x:=by rw[Rat.sub_eq_add_neg,Rat.add_assoc,Rat.neg_add_cancel,cH]
def Eg(p q:Rat):p-q=0↔p=q:=by
 constructor
 .intro h;have:=congrArg (· +q) h;simpa [IP,Rat.zero_add]using this
 .intro h;rw[h,Rat.sub_self]
def JS{p:Rat}:rs (p-q)=0↔p=q:=by rw[kZ,Eg]
def eG(xs ys:List Rat):Nat->Rat
 |0=>0
 |i+1=>eG xs ys i+xs.getD i 0*ys.getD i 0
def iA{xs ys:List Rat}{h:Nat}(Z:∀q∈xs,rl q+1<=h)(hy:∀q∈ys,rl q+1<=h)(I:2<=h):∀i:Nat,rl (eG xs ys i)<=2*h*i+2
 |0=>by rw[eG];exact aR (by decide:rl 0<=2) be
 |i+1=>by
  have h3:=iA Z hy I i;have h4:=AF (eG xs ys i) (xs.getD i 0*ys.getD i 0);have h5:=j7 (xs.getD i 0) (ys.getD i 0);have h6:=kU Z I i;have h7:=kU hy I i;rw[eG,bW];omega
def Bl{i:Nat}(h:xs.getD i 0=0\/ys.getD i 0=0):eG xs ys (i+1)=eG xs ys i:=by
 rw[eG];rcases h with h|h<;>rw[h]<;>simp only[bc,bF,cH]
def Gd{u:Value}(G:Old S w)(Z:dx w S S v xs)(hy:dx w S S u ys)(hl:xs.length=ys.length)(Vd:∀q∈xs,rl q+1<=h)(VS:∀q∈ys,rl q+1<=h)(I:2<=h)(N:2*h*xs.length<=2000000000):
  eH PG Fd.tc #[v,u] w (eV w λv' F=>cw F (Nf w F) v' (eG xs ys xs.length)):=by
 have W:=bR w;obtain⟨ax,cx,rfl,Wi,Ue⟩:=Z.shape;obtain⟨ay,cy,rfl,Yc,-⟩:=hy.shape;unfold maxLen at Ue;refine xJ ce ?_;refine cS (cE W (pR cw ((0:Int):Rat)) (λO J r=>iI 0 J bv bv) ?_);rintro O _ _ _ Pt r L W h_ E;have hd:=E.cU (nw r h_);clear r;obtain⟨A0,A1,A2,A3,A4,A5,A6,A7,rfl⟩:=hd.shape;rw[show ((0:Int):Rat)=eG xs ys 0 from rfl]at hd
 refine⟨Nat×(Bool×Bool)×(Option Addr×Option Addr)×(Nat×Nat×Nat×Nat)×World×Iv,λz=>⟨[(1,sV ay ys.length cy),(4,pP 0 0),(5,pP 1 0),(9,sV ax xs.length cx),(10,iZ xs.length),(11,iN z.1)],[(1,.box T.dN [.v (.bool z.2.1.1),.v (.slice z.2.2.1.1 z.2.2.2.1.1 z.2.2.2.1.2.1),.v (.bool z.2.1.2),.v (.slice z.2.2.1.2 z.2.2.2.1.2.2.1 z.2.2.2.1.2.2.2)]),(0,.box T.dN [.v (.bool false),.v nls,.v (.bool false),.v nls])],2,z.2.2.2.2.2,z.2.2.2.2.1⟩,λz=>xs.length-z.1,
  λz=>z.1<=xs.length/\Bq w z.2.2.2.2.1/\cw z.2.2.2.2.1 (Cf w z.2.2.2.2.2) (.agg #[.bool z.2.1.1,.slice z.2.2.1.1 z.2.2.2.1.1 z.2.2.2.1.2.1,.bool z.2.1.2,.slice z.2.2.1.2 z.2.2.2.1.2.2.1 z.2.2.2.1.2.2.2]) (eG xs ys z.1),?_,?_⟩
 .intro O J r;exact⟨(0,(A0,A4),(A1,A5),(A2,A3,A6,A7),J,Pt),⟨ce,W.tr r.cg,hd.rel r oF⟩,sbgn [] r⟩
 clear W hd;rintro⟨i,⟨p0,p4⟩,⟨p1,p5⟩,⟨p2,p3,p6,p7⟩,w1,iv⟩ ⟨R,W,hd⟩;dsimp only at R W hd ⊢;apply bS<;>intro Pk
 .have Pk:=dL Pk;have hs:=iA Vd VS I i;have TC:2*h*i<=2*h*xs.length:=bC _ R;have hs3:2*h*1<=2*h*xs.length:=bC _ be;obtain⟨x,QY⟩:=gO xs i;obtain⟨y,R5⟩:=gO ys i;have Wr:=Vd x (aG QY);have hy3:=VS y (aG R5);have Q5:xs.getD i 0=x:=by rw[List.getD,QY];rfl
  have RH:ys.getD i 0=y:=by rw[List.getD,R5];rfl
  obtain⟨adx,csx,WK,SD,RA⟩:=Z.load QY;obtain⟨ady,csy,Ux,SO,RZ⟩:=hy.load R5;obtain⟨f0,f1,f2,f3,f4,f5,f6,f7,rfl,SD⟩:=SD;obtain⟨q0,q1,q2,q3,q4,q5,q6,q7,rfl,SO⟩:=SO;refine⟨adx,WK,be,rC f0 f1 f2 f3 f4 f5 f6 f7,rfl,rdO RA W G,?_⟩;refine cS (cE W (pE (iV (rs x))) (λO J r=>ij (oS G r) (SD.cW (kS W r G))) ?_);rintro O _ _ _ iv2 r L W h_ rfl;replace hd:=hd.cV r oF L (mC h_);clear r;apply bS<;>intro Y
  .have Y:x≠0:=by simpa [kZ]using Y
   refine⟨ady,Ux,be,rC q0 q1 q2 q3 q4 q5 q6 q7,rfl,rdO RZ W G,?_⟩;refine cS (cE W (pE (iV (rs y))) (λO J r=>ij (oS G r) (SO.cW (kS W r G))) ?_);rintro O _ _ _ Ps r L W h_ rfl;replace hd:=hd.cV r oF L (mC h_);clear r;apply bS<;>intro h3
   .conv=>whnf
    refine dP (idO 9) ?_;refine⟨ady,Ux,be,rC q0 q1 q2 q3 q4 q5 q6 q7,rfl,rdO RZ W G,?_⟩;have hm:=j7 x y;have VI:=AF (eG xs ys i) (x*y);refine cE W (pR cw (x*y)) (λO J r=>nH (oS G r) (SD.cW (kS W r G)) (SO.cW (kS W r G)) be be) ?_;rintro O _ _ _ QA r L W h_ E;replace hd:=hd.cV r oF L (mC h_);have hp:=E.cU (nw r h_);clear r;obtain⟨C0,C1,C2,C3,C4,C5,C6,C7,rfl⟩:=hp.shape;refine cE W (pR cw (eG xs ys i+x*y)) (λO J r=>wN (rlo r oF) (hd.rel r oF) (hp.rel r oF) be be) ?_;rintro O _ _ _ QE r L W h_ E;clear hd;clear hp;have RS:=E.cU (nw r h_);clear r;obtain⟨E0,E1,E2,E3,E4,E5,E6,E7,rfl⟩:=RS.shape;rw[show eG xs ys i+x*y=eG xs ys (i+1) by rw[eG,Q5,RH]]at RS;have hd:=RS;refine inc i ?_;intro I8 w3 r3;exact⟨(i+1,(E0,E4),(E1,E5),(E2,E3,E6,E7),w3,_),⟨Pk,W.tr r3.cg,hd.rel r3 oF⟩,sbgn [] r3,dec Pk⟩
   have h3:y=0:=by simpa [kZ]using h3
   refine inc i ?_;intro I8 w3 r3;exact⟨(i+1,(p0,p4),(p1,p5),(p2,p3,p6,p7),w3,_),⟨Pk,W.tr r3.cg,by rw[Bl (.inr (RH.trans h3))];exact hd.rel r3 oF⟩,sbgn [] r3,dec Pk⟩
  have Y:x=0:=by simpa [kZ]using Y
  refine inc i ?_;intro I8 w3 r3;exact⟨(i+1,(p0,p4),(p1,p5),(p2,p3,p6,p7),w3,_),⟨Pk,W.tr r3.cg,by rw[Bl (.inl (Q5.trans Y))];exact hd.rel r3 oF⟩,sbgn [] r3,dec Pk⟩
 have Pk:=dE R Pk;subst Pk;exact rtn W λGE we re=>hd.out re oF
def nI(M:List (List Rat))(k:Nat):List Rat:=M.map (·.getD k 0)
def eO(ys:List Rat)(M:List (List Rat))(n i:Nat):List Rat:=(List.range n).map λk=>eG ys (nI M k) i
def CV(ys:List Rat)(M:List (List Rat))(n:Nat):eO ys M n 0=List.replicate n 0:=by
 unfold eO;simp only[eG]
 rw[List.map_const',List.length_range]
def fU(ys:List Rat)(M:List (List Rat))(n i:Nat):(eO ys M n i).length=n:=by simp[eO]
def CW{n i:Nat}(h:M[i]? =some r):(eO ys M n i).mapIdx (lk (ys.getD i 0) r)=eO ys M n (i+1):=by
 refine av λk=>?_;unfold eO;rw[List.getElem?_mapIdx,aS,aS];rcases aW k n with K|K
 .rw[cN K];simp only[bN,lk,eG]
  rw[show (nI M k).getD i 0=r.getD k 0 by rw[nI,List.getD,aS,h];rfl]
 .rw[List.getElem?_eq_none (by simpa using K)];rfl
def Gs(H:Ht M h)(I:2<=h)(k:Nat):∀q∈nI M k,rl q+1<=h:=λq hq=>by
 obtain⟨r,hr,rfl⟩:=bA.1 hq;exact kU (H r hr) I k
def oA(hy:∀q∈ys,rl q+1<=h)(H:Ht M h)(I:2<=h)(n i:Nat):∀q∈eO ys M n i,rl q<=2*h*i+2:=λq hq=>by
 obtain⟨k,_,rfl⟩:=bA.1 hq;exact iA hy (Gs H I k) I i
def Kx{u:Value}{n:Nat}(G:Old S w)(hy:dx w S S v ys)(hM:fM w S u M)(VU:ys.length=M.length)(Pm:∀r∈M,r.length=n)(E:n<=1000000)
  (VS:∀q∈ys,rl q+1<=h) (Sn:Ht M h) (I:2<=h) (N:2*h*M.length<=1000000000):
  eH PG Fd.te #[v,u,iV n] w (eV w λv' F=>dx F (Nw S w F) (Nw S w F) v' (eO ys M n M.length)):=by
 have W:=bR w;obtain⟨ay,cy,rfl,Yc,-⟩:=hy.shape;obtain⟨am,cm,rfl,Rw,Sv⟩:=dG.shape hM;unfold maxLen at Sv;refine xM ce ?_;refine cS (cR (GT:=λ_ J v F=>eh F FF J.heap.size [(J.heap.size,F.heap.size)] v n (List.replicate n 0)) (λO J r=>j4 n J E) ?_);rintro O QJ v1 QH r L N Si;replace W:=W.tr N;have hX:=Si.ef (S:=S) (iv:=(QJ.heap.size,QH.heap.size)::[]) r.cY aF;clear r L N Si;generalize (QJ.heap.size,QH.heap.size)::[]=Pt at*
 obtain⟨ax,cx,rfl,-⟩:=hX.row.form;rw[<-CV ys M n]at hX
 refine⟨Nat×World×Iv,λz=>⟨[(0,sV ay ys.length cy),(7,sV ax n cx),(12,sV am M.length cm),(13,iZ M.length),(14,iN z.1)],[],0,z.2.2,z.2.1⟩,λz=>M.length-z.1,
  λz=>z.1<=M.length/\Bq w z.2.1/\eh z.2.1 S w.heap.size z.2.2 (.slice ax n cx) n (eO ys M n z.1),?_,?_⟩
 .intro O J r;exact⟨(0,J,Pt),⟨ce,W.tr r.cg,hX.rel r G⟩,sbgn [] r⟩
 clear W hX;rintro⟨i,w1,iv⟩ ⟨R,W,hX⟩;dsimp only at R W hX ⊢;apply bS<;>intro Pk
 .have Pk:=dL Pk;have hs:=oA VS Sn I n i;have TC:2*h*i<=2*h*M.length:=bC _ R;have hs3:2*h*1<=2*h*M.length:=bC _ be;obtain⟨x,QY⟩:=gO M i;obtain⟨y,R5⟩:=gO ys i;have RH:ys.getD i 0=y:=by rw[List.getD,R5];rfl
  have SK:=Pm x (aG QY);obtain⟨adx,ux,rfl,SD,SS,Q5⟩:=dG.load hM QY;obtain⟨aux,cux,rfl⟩:=dG.rowOf SD;obtain⟨ady,csy,Ux,SO,RZ⟩:=hy.load R5;obtain⟨q0,q1,q2,q3,q4,q5,q6,q7,rfl,SO⟩:=SO;refine⟨adx,rfl,be,.slice aux x.length cux,rd1 Q5 W (G _ SS),ady,Ux,be,rC q0 q1 q2 q3 q4 q5 q6 q7,rfl,rdO RZ W G,?_⟩;have R7:=hX.new;have hnB:∀g,(Value.slice ax n cx).ownBlock=some g->w.heap.size<=g:=λg V=>by
   rcases R7 g V with h4|⟨h4,_⟩
   .exact h4.elim
   .exact h4
  have hSn:∀g,S g->Cv S w.heap.size iv g/\(Value.slice ax n cx).ownBlock≠some g:=λg V=>⟨.inl V,λe=>by have:=hnB g e;have:=G g V;omega⟩
  refine⟨λO J r=>?_⟩;have hkS:∀g,S g->J.heap[g]? =w.heap[g]? :=λg V=>(W.tr r.cg).block g (G g V);obtain⟨U,RF,Sr,WN⟩:=(hX.rel r G).row
  refine(JL (C:=S) (oS G r) (λg V=>rlo r G g V.1) RF WN Sr ((SO.cW hkS).cU hSn) ((SD.cW λg V=>hkS g (V.elim id id)).cU (λ_ h=>h) hSn) SK (λg V h=>h.2 V) (λg V h=>(hSn g h).2 V)
   (λq hq=>by have:=hs q hq;omega) (λq hq=>by have:=Sn x (aG QY) q hq;omega) (by have:=VS y (aG R5);omega)).mono λe w4 L=>?_
  obtain⟨rfl,QR,css',XK,hr5,YD⟩:=L;have hP2:gX w4 (Nw (λg=>Cv S w.heap.size iv g/\(Value.slice ax n cx).ownBlock≠some g) J w4) (.slice ax n cx) n ((eO ys M n i).mapIdx (lk y x)):=⟨css',XK,hr5,YD⟩
  rw[<-RH,CW QY]at hP2;refine⟨.tuple #[],_,(J.heap.size,w4.heap.size)::iv,rfl,r.wS (λg V=>Rel.not r G (R7 g V |>.elim (λh=>h.elim) .inr)) QR,?_⟩;have hX3:eh w4 S w.heap.size ((J.heap.size,w4.heap.size)::iv) (.slice ax n cx) n (eO ys M n (i+1)):=
   ⟨hP2.cU λg V=>by
    rcases V with V|V
    .exact⟨V.1.cons,V.2⟩
    .refine⟨.inr ⟨by have:=r.cY;omega,_,_,aF,V.1,V.2⟩,λe=>?_⟩;have:=rlo r oF g (R7 g e)
     omega,λg V=>(R7 g V).cons⟩
  have QD:Bq w w4:=(W.tr r.cg).tr (Bel.grown QR hnB r.cY);clear hX RF WN XK YD QR hP2 r W R7 hnB hSn hkS;generalize (J.heap.size,w4.heap.size)::iv=iv2 at*
  refine inc i ?_;intro I8 w3 r3;exact⟨(i+1,w3,_),⟨Pk,QD.tr r3.cg,hX3.rel r3 G⟩,sbgn [] r3,dec Pk⟩
 have Pk:=dE R Pk;subst Pk;intro GE we re;refine⟨_,rfl,W.tr re.cg,?_⟩;exact(hX.rel re G).read.cU (λg V=>Cv.nw V re) λg V=>Cv.nw V re
def gD(w:World)(S:Nat->Prop)(v:Value)(qs:List Rat):Prop:=dx w S S v qs
def nS(w:World)(S:Nat->Prop)(v:Value)(M:List (List Rat)):Prop:=fM w S v M
def gD.cW(h:gD w S v qs)(K:∀g,S g->F.heap[g]? =w.heap[g]?):gD F S v qs:=dx.cW h λg V=>K g (V.elim id id)
def gD.cU(h:gD w S v qs)(K:∀g,S g->S' g):gD w S' v qs:=dx.cU h K K
def gD.shape(h:gD w S v qs):∃a c,v= .slice a qs.length c:=by
 obtain⟨a,c,h,_⟩:=dx.shape h;exact⟨a,c,h⟩
def nS.cW(h:nS w S v M)(K:∀g,S g->F.heap[g]? =w.heap[g]?):nS F S v M:=fM.cW h K
def nS.cU(h:nS w S v M)(K:∀g,S g->S' g):nS w S' v M:=fM.cU h K
def nS.shape(h:nS w S v M):∃a c,v= .slice a M.length c:=by
 obtain⟨a,c,h,_⟩:=dG.shape (show fM w S v M from h);exact⟨a,c,h⟩
def pI(w:World)(S:Nat->Prop)(rv:List Value)(FS:List (List Rat)):Prop:=∀(i:Nat) u r,rv[i]? =some u->FS[i]? =some r->gD w S u r
def pI.cW{v:List Value}(h:pI w S v M)(K:∀g,S g->F.heap[g]? =w.heap[g]?):pI F S v M:=λi u x Y I=>(h i u x Y I).cW K
def pI.cU{v:List Value}(h:pI w S v M)(K:∀g,S g->S' g):pI w S' v M:=λi u x Y I=>(h i u x Y I).cU K
section
variable{S S':Nat->Prop}{H:Hp}{nx:Nat}{iv A:Iv}{B:Nat}{w J F:World}{O:Nat->Sx.eD}{v:Value}{qs:List Rat}
def gD.rel(h:gD w (Cv S B iv) v qs)(r:Rel H nx iv B w O J)(G:∀g,S g->g<B):gD J (Cv S B iv) v qs:=h.cW λ_ V=>rls r G V
def gD.cV(h:gD w (Cv S B iv) v qs)(r:Rel H nx iv B w O J)(G:∀g,S g->g<B)(L:Ext J F)(hm:∀p,p∈iv->p∈A):gD F (Cv S B A) v qs:=
 ((h.rel r G).cW λg V=>L.block g (rlo r G g V)).cU λ_ V=>V.mono hm
def gD.old(h:gD F (Nw (Cv S B iv) J F) v qs)(hB:B<=J.heap.size):gD F (Cv S B ((J.heap.size,F.heap.size)::iv)) v qs:=h.cU λ_ V=>Nw.cv V hB
end
section
variable{S S':Nat->Prop}{H:Hp}{nx:Nat}{iv A:Iv}{B:Nat}{w J F:World}{O:Nat->Sx.eD}{v:Value}{M:List (List Rat)}
def nS.rel(h:nS w (Cv S B iv) v M)(r:Rel H nx iv B w O J)(G:∀g,S g->g<B):nS J (Cv S B iv) v M:=h.cW λ_ V=>rls r G V
def nS.cV(h:nS w (Cv S B iv) v M)(r:Rel H nx iv B w O J)(G:∀g,S g->g<B)(L:Ext J F)(hm:∀p,p∈iv->p∈A):nS F (Cv S B A) v M:=
 ((h.rel r G).cW λg V=>L.block g (rlo r G g V)).cU λ_ V=>V.mono hm
def nS.ef(h:nS F (Nf J F) v M)(hB:B<=J.heap.size)(hm:(J.heap.size,F.heap.size)∈iv):nS F (Cv S B iv) v M:=h.cU λ_ V=>V.ef hB hm
end
section
variable{S S':Nat->Prop}{H:Hp}{nx:Nat}{iv A:Iv}{B:Nat}{w J F:World}{O:Nat->Sx.eD}{v:List Value}{M:List (List Rat)}
def pI.rel(h:pI w (Cv S B iv) v M)(r:Rel H nx iv B w O J)(G:∀g,S g->g<B):pI J (Cv S B iv) v M:=h.cW λ_ V=>rls r G V
def pI.cV(h:pI w (Cv S B iv) v M)(r:Rel H nx iv B w O J)(G:∀g,S g->g<B)(L:Ext J F)(hm:∀p,p∈iv->p∈A):pI F (Cv S B A) v M:=
 ((h.rel r G).cW λg V=>L.block g (rlo r G g V)).cU λ_ V=>V.mono hm
end
def Kg{M:List (List (Int×Int))}(G:Old S w)(h:dQ w S v M)(hf:∀r∈M,ue r)(E:∀r∈M,r.length<=1000000)(hR:M.length<=1000000):
  eH PG Fd.ph #[v] w (eV w λv' F=>nS F (Nf w F) v' (dS M)):=by
 replace h:=dQ.arg h [];obtain⟨a,c,rfl,hc,-⟩:=dG.shape h;refine qX ce ?_
 refine⟨M.length,M.length,rfl,rfl,lr,be,be,List Value×Iv×World,λz=>⟨[(3,.o (.s 0 0 M.length M.length)),(9,sV a M.length c),(10,iZ M.length),(11,iZ z.1.length)],[(0,.arr T.row (z.1++List.replicate (M.length-z.1.length) nls))],1,z.2.1,z.2.2⟩,λz=>M.length-z.1.length,
  λz=>z.1.length<=M.length/\Bq w z.2.2/\dQ z.2.2 (Cv S w.heap.size z.2.1) (.slice a M.length c) M/\pI z.2.2 (Cf w z.2.1) z.1 (dS M)/\∀u∈z.1,u.oneCell'=true,?_,?_⟩
 .intro O J r;exact⟨([],[],J),⟨ce,r.cg,dQ.rel h r G,λi u r h=>by simp at h,ce⟩,sbgn [] r⟩
 clear h;rintro⟨rv,iv,w1⟩ ⟨R,W,hX,hF,h1c⟩;dsimp only at R W hX hF h1c ⊢;apply bS<;>intro h
 .have h:rv.length<M.length:=by simpa using h
  obtain⟨x,Z⟩:=gO M rv.length;obtain⟨ad,u,rfl,VM,Ta,Qn⟩:=dG.load hX Z;obtain⟨a2,c2,rfl⟩:=dG.nL VM;have SK:=E x (aG Z);refine⟨ad,rfl,be,.slice a2 x.length c2,λO J r=>?_,?_⟩
  .have:=rls r G Ta;rw[aI,cZ (w:=w1) (F:=J) (by rw[da];exact this)];exact Qn
  refine cS (cR (GT:=λ_ J v F=>eh F FF J.heap.size [(J.heap.size,F.heap.size)] v x.length (x.map dC)) (λO J r=>kY (rlo r G) (dJ.rel VM r G) (hf x (aG Z)) SK) ?_);rintro O wa v1 wb r L N hO;have Qb:gD wb (Cf w ((wa.heap.size,wb.heap.size)::iv)) v1 (x.map dC):=(eh.ef (S:=FF) hO r.cY aF).read;replace hX:=dQ.cV (A:=(wa.heap.size,wb.heap.size)::iv) hX r G L λx Z=>aD _ Z;replace hF:=hF.cV (A:=(wa.heap.size,wb.heap.size)::iv) r oF L λx Z=>aD _ Z;replace W:=W.tr N;clear r L N hO VM Ta Qn;generalize (wa.heap.size,wb.heap.size)::iv=iv2 at*
  obtain⟨a3,c3,rfl⟩:=Qb.shape;rw[aO]at Qb ⊢;refine⟨be,by simp;omega,(rv++[.slice a3 x.length c3])++List.replicate (M.length-(rv.length+1)) nls,?_,?_⟩
  .have h5:M.length-rv.length=(M.length-(rv.length+1))+1:=by omega
   simp[h5,List.replicate_succ]
  refine⟨((rv.length+1:Nat):Int),wo,?_⟩;intro I8 w3 r3;have RG:(rv++[Value.slice a3 x.length c3]).length=rv.length+1:=by simp
  refine⟨(rv++[.slice a3 x.length c3],iv2,w3),⟨by dsimp only;rw[RG];exact h,W.tr r3.cg,dQ.rel hX r3 G,?_,?_⟩,sbgn [] r3 ⟨by dsimp only;rw[RG];rfl,trivial⟩ ⟨rfl,rfl,rfl,by dsimp only;rw[RG];rfl,trivial⟩,by dsimp only;rw[RG];omega⟩
  .intro i u y Y I;refine gD.rel ?_ r3 oF;rcases aW i rv.length with Qo|Qo
   .rw[aN Qo]at Y;exact hF i u y Y I
   .have Vh:i=rv.length:=by have:=(aH.1 Y).1;simp at this;omega
    subst Vh;rw[aP lr,bV]at Y;simp only[dS,aS,Z]at I;simp at Y I;subst Y I;exact Qb
  .intro u hu;rcases az.1 hu with hu|hu
   .exact h1c u hu
   .simp at hu;subst hu;rfl
 .have h:rv.length=M.length:=by
   have:¬rv.length<M.length:=by simpa using h
   omega
  rw[h,bV,List.replicate_zero,List.append_nil];intro GE we re;refine⟨_,rfl,W.tr re.cg,?_⟩;have QC:=re.nn 0 _ rfl (by intros;simp) ce;have Pq:=re.low 0 _ rfl QC;have hs:=re.Hh (id:=0) (t:=T.row) (n:=M.length) (sz:=1) (cs:=rv) rfl be mx h1c;have ZE:(dS M).length=M.length:=by simp[dS]
  refine⟨rv,?_,by rw[ZE,h],λi u x Y I=>((hF.rel re oF) i u x Y I).cU λg V=>Cv.nw V re⟩;rw[ZE];exact hs.cU λg V=>.inr (by subst V;exact Pq)
abbrev vmO(gm F9:Nat):Value:=.slice (some ⟨gm,0,none⟩) F9 F9
def Lm'(S:Nat->Prop)(B:Nat)(iv:Iv)(gm F9:Nat)(rv:List Value)(g:Nat):Prop:=Cv S B iv g/\¬Mb (vmO gm F9) rv g
structure aBJ(w:World)(S:Nat->Prop)(B:Nat)(iv:Iv)(gm F9 n:Nat)(rv:List Value)(M:List (List Rat)):Prop where
 mat:ig w (Lm' S B iv gm F9 rv) (vmO gm F9) rv n M
 lH:∀g,Mb (vmO gm F9) rv g->Cv FF B iv g
 rows:rv.length=F9
section
variable{S S':Nat->Prop}{H:Hp}{nx gm F9 n:Nat}{iv A:Iv}{B:Nat}{w J F:World}{O:Nat->Sx.eD}{rv:List Value}{M:List (List Rat)}
structure aB7(w:World)(S:Nat->Prop)(B:Nat)(iv:Iv)(gm F9 n:Nat)(rv:List Value)(M:List (List Rat))(i:Nat)(vb:Value):Prop where
 out:w.ownsRow 0 T.row 1 (vmO gm F9) F9 (rv.set i vb)
 DL:∃w0,aBJ w0 S B iv gm F9 n rv M/\∀g,Cv S B iv g->g≠gm->w.heap[g]? =w0.heap[g]?
end
section
variable{S:Nat->Prop}{H:Hp}{nx gm F9:Nat}{iv A:Iv}{B:Nat}{w J F:World}{O:Nat->Sx.eD}{rv:List Value}{U:List (List Value)}{qs:List Rat}
def Fr.push(h:Fr w S U qs)(hq:jh w S cs q):Fr w S (U++[cs]) (qs++[q]):=by
 refine⟨by simp[h.1],λj c x Y I=>?_⟩;rcases aW j U.length with hj|hj
 .rw[aN hj]at Y;rw[aN (by rw[<-h.1];exact hj)]at I;exact h.2 j c x Y I
 .rw[aP hj]at Y;rw[aP (by rw[<-h.1];exact hj),<-h.1]at I;have:j-U.length=0:=by have:=(aH.1 Y).1;simp at this;omega
  rw[this]at Y I;injection Y with Y;injection I with I;subst Y I;exact hq
end
inductive Tp where
 |nil
 |x (i:Nat) (t:Tp)
 |two (i:Nat) (t:Tp) (j:Nat) (u:Tp)
 |Bk (id:Nat) (t:Tp)
section
variable{P:Program}{τ:nO}{ops:Array Oper}{B n nx:Nat}{l:Env}{H:Hp}{iv:Iv}{w J:World}{O:Nat->Sx.eD}{a:Act}
end
def NI{l tl:Env}{nx t id n:Nat}(E:(O id).nil=false)(ht:fj l t=some (.o (.w id n)))(Y:FA l tl)(I:kN nx tl):∀u v,fj ((t,.o (.v (.slice (some ⟨(O id).g,0,none⟩) n (O id).cap)))::tl) u=some v->v.sc nx/\∃v',fj l u=some v'/\v'.den O=v.den O:=λu v hv=>by
 rw[ep]at hv;split at hv
 .rename_i e;subst e;injection hv with hv;subst hv;exact⟨trivial,_,ht,by simp[SV.den,At.den,E]⟩
 .exact⟨I.get u v hv,v,Y.get u v hv,rfl⟩
def OX{H:Hp}{nx:Nat}{iv:Iv}{B:Nat}{J:World}(r:Rel H nx iv B w O J){id t m sz:Nat}(h:dT H id=some (.vec t sz cs))(hm:cs.length=m*sz)(VG:m<=maxLen)(hs:0<sz)(h0:0<m)(Y:∀u∈cs,u.oneCell'=true):
  (O id).nil=false/\B<=(O id).g/\fT J (λg=>g=(O id).g) sz (.slice (some ⟨(O id).g,0,none⟩) m (O id).cap) cs m:=by
 rcases r.vec id t sz _ h with⟨E,rfl⟩|⟨E,spare,N,hc,RE⟩
 .have:=Nat.mul_pos h0 hs;simp at hm;omega
 .refine⟨E,(r.low id _ h E).1,VG,hm,Y,some ⟨(O id).g,0,none⟩,(O id).cap,rfl,?_,λj x Z=>⟨_,rfl,rfl,?_⟩⟩
  .have Y:(cs++spare).length=cs.length+spare.length:=aU;have I:m*sz<=(O id).cap*sz:=by omega
   exact Nat.le_of_mul_le_mul_right I hs
  .rw[dD,cell_of N,aV,aN (aH.1 Z).1];exact Z
end Go.Ex
namespace Go.Ex
section
variable{M:List (List Rat)}{b:List Rat}{n:Nat}
def eI(M:List (List Rat))(b:List Rat):List (List Rat):=M.mapIdx λi r=>r++[b.getD i 0]
def uH(hl:iP n M):iP (n+1) (eI M b):=λr hr=>by
 obtain⟨i,R⟩:=aj hr;unfold eI at R;rw[List.getElem?_mapIdx]at R
 cases Z:M[i]? with
 |none=>rw[Z]at R;cases R
 |some x=>
  rw[Z]at R;injection R with R;subst R;rw[aU,hl x (aG Z)];rfl
def jA:(eI M b).length=M.length:=by simp[eI]
end
end Go.Ex
namespace Go.Ex
open Go Go.Sx Go.Proofs
variable{b:List (Int×Int)}{FS M:List (List Rat)}{rv:List Value}{S:Nat->Prop}{q:Rat}{u:Value}{w:World}
def ek.cU{S':Nat->Prop}(h:ek w S rv FS)(K:∀g,S g->S' g):ek w S' rv FS:=⟨h.1,h.2.1,λi u x Y I=>dB.cU (h.2.2 i u x Y I) K⟩
def ek.push{x:List Rat}(h:ek w S rv FS)(hu:u.oneCell'=true)(Z:dB w S u x):ek w S (rv++[u]) (FS++[x]):=by
 refine⟨by simp[h.1],λv hv=>?_,λi v y Y I=>?_⟩
 .rcases az.1 hv with hv|hv
  .exact h.2.1 v hv
  .simp at hv;subst hv;exact hu
 .rcases aW i rv.length with R|R
  .rw[aN R]at Y;rw[aN (by rw[<-h.1];exact R)]at I;exact h.2.2 i v y Y I
  .have Vh:i=rv.length:=by have:=(aH.1 Y).1;simp at this;omega
   subst Vh;rw[aP lr,bV]at Y;rw[h.1,aP lr,bV]at I;simp at Y I;subst Y I;exact Z
def NJ{v:Value}{b:List Rat}(G:Old S w)(h:dZ w S v M)(hu:dB w S u b)(Pu:b.length=M.length)(Pm:∀r∈M,r.length<=1000)(hR:M.length<=1000):
  eH PG Fd.yK #[v,u] w (eV w λv' F=>dZ F (Nw S w F) v' (eI M b)):=by
 have W:=bR w;replace h:=dZ.arg h [];replace hu:=dB.arg hu [];obtain⟨am,cm,rfl,Rw,-⟩:=dG.shape h;obtain⟨ab,cb,rfl,Qz,-⟩:=dK.shape hu;refine BC ce ?_
 refine⟨Nat×List Value×World×Iv,λz=>⟨[(0,sV am M.length cm),(1,sV ab b.length cb),(5,.o (.w 0 z.2.1.length)),(6,iN z.1)],[(0,.vec T.nQ 1 z.2.1)],1,z.2.2.2,z.2.2.1⟩,λz=>M.length-z.1,
  λz=>z.1<=M.length/\Bq w z.2.2.1/\dZ z.2.2.1 (Cv S w.heap.size z.2.2.2) (.slice am M.length cm) M/\dB z.2.2.1 (Cv S w.heap.size z.2.2.2) (.slice ab b.length cb) b/\ek z.2.2.1 (Cv S w.heap.size z.2.2.2) z.2.1 ((eI M b).take z.1),?_,?_⟩
 .intro O J r
  exact⟨(0,[],J,[]),⟨aZ _,W.tr r.cg,dZ.rel h r G,dB.rel hu r G,by simp[ek]⟩,Sub.nil 5 T.nQ 1 rfl (by simp[kN,SV.sc,At.sc,ff]) r λI9 r1=>
   sbgn [] r1⟩
 rintro⟨i,rv,w1,iv⟩ ⟨R,W,h,hu,hK⟩;dsimp only at R W h hu hK ⊢;have QI:rv.length=i:=by rw[hK.1,bI,jA];omega
 apply bS<;>intro Pk
 .have Pk:=dL Pk;obtain⟨x,Z⟩:=gO M i;have SK:=Pm x (aG Z);obtain⟨q,hq⟩:=gO b i;have hqd:b.getD i 0=q:=by rw[List.getD,hq];rfl
  have R6:(eI M b).take (i+1)=(eI M b).take i++[x++[q]]:=by
   rw[bH,show(eI M b)[i]? =some (x++[q]) by rw[eI,List.getElem?_mapIdx,Z,<-hqd];rfl];rfl
  obtain⟨adm,um,Tw,SW,km1,km2⟩:=dG.load h Z;obtain⟨U,⟨-,g1,g2,a0,c0,rfl,g4,g5⟩,Qa,Vb,QX⟩:=SW;have Qj:=fJ Vb;obtain⟨adq,cs,haq,hF,_,hl⟩:=dK.load hu hq;obtain⟨b3,a3,n3,c3,b4,a4,n4,c4,rfl,hF⟩:=hF;have hlen5:([]++U.flatten++(rC b3 a3 n3 c3 b4 a4 n4 c4:List Value)).length=(x.length+1)*4:=by rw[List.nil_append,aU,g1];simp;omega
  have hone5:∀u∈[]++U.flatten++(rC b3 a3 n3 c3 b4 a4 n4 c4:List Value),u.oneCell'=true:=λu hu=>by
   rw[List.nil_append]at hu;rcases az.1 hu with hu|hu
   .exact g2 u hu
   .simp at hu;rcases hu with rfl|rfl|rfl|rfl<;>rfl
  have hrow5:∀{H nx O J g c iv2},Rel H nx iv w.heap.size w1 O J->w.heap.size<=g->fT J (λy=>y=g) 4 (.slice (some ⟨g,0,none⟩) (x.length+1) c) ([]++U.flatten++(rC b3 a3 n3 c3 b4 a4 n4 c4:List Value)) (x.length+1)->(g,g+1)∈iv2::iv->
    dB J (Cv S w.heap.size (iv2::iv)) (.slice (some ⟨g,0,none⟩) (x.length+1) c) (x++[q]):=by
   intro H nx O J g c iv2 r V hs hm;have K:∀y,Cv S w.heap.size iv y->Cv S w.heap.size (iv2::iv) y:=λy hy=>hy.mono λp hp=>aD _ hp;refine⟨U++[rC b3 a3 n3 c3 b4 a4 n4 c4],?_,by simp[Qa],λcs hc=>?_,λj cs y k1 k2=>?_⟩
   .rw[List.nil_append]at hs;rw[aU,List.length_singleton,List.flatten_append];simp only[List.flatten_cons,List.flatten_nil,List.append_nil]
    exact hs.cU λy hy=>.inr ⟨be,g,g+1,hm,be,be⟩
   .rcases az.1 hc with hc|hc
    .exact Vb cs hc
    .rw[aY.1 hc];rfl
   .rcases aW j U.length with hj|hj
    .rw[aN hj]at k1;rw[aN be]at k2;exact((QX j cs y k1 k2).cW λy hy=>rls r G hy).cU K
    .have Yg:j=U.length:=by have:=(aH.1 k1).1;simp at this;omega
     rw[Yg,aP lr,bV]at k1;rw[Yg,Qa,aP lr,bV]at k2;simp at k1 k2;rw[<-k1,<-k2];exact⟨_,_,_,_,_,_,_,_,rfl,(hF.cW λy hy=>rls r G hy).cU K⟩
  refine fA hτ uR (.x 0 (.x 2 (.x 3 (.x 4 (.x 7 (.x 8 (.x 9 (.ld 5 61504 (.ld 10 63488 (.two 1 (.two 6 (.x 11 (.x 12 (.Bk 4 (.x 13 (.x 14 (.x 15 .nil)))))) 11 (.x 6 (.x 12 (.Bk 4 (.x 13 (.x 14 (.x 15 .nil))))))) 11 (.x 1 (.x 6 (.x 12 (.Bk 4 (.x 13 (.x 14 (.x 15 .nil))))))))))))))))) d9 d9 ?_;refine⟨adm,Tw,be,adq,haq,be,.slice a0 x.length c0,λO J r=>?_,?_⟩
  .rw[aI,cZ (w:=w1) (F:=J) (by rw[da];exact rls r G km1)];exact km2
  refine⟨rC b3 a3 n3 c3 b4 a4 n4 c4,rfl,λO J r j u hu=>?_,?_⟩
  .obtain⟨k1,k2⟩:=hl j u hu;rw[aI,cZ (w:=w1) (F:=J) (by rw[da,da];exact rls r G k1)];exact k2
  refine⟨?ga,?gb⟩
  case' ga=>
   refine⟨rC b3 a3 n3 c3 b4 a4 n4 c4,rfl,λO J r j u hu=>?_,?_⟩
   .obtain⟨k1,k2⟩:=hl j u hu;rw[aI,cZ (w:=w1) (F:=J) (by rw[da,da];exact rls r G k1)];exact k2
   refine⟨rfl,.slice a0 x.length c0,λO J r=>?_,?_⟩
   .rw[aI,cZ (w:=w1) (F:=J) (by rw[da];exact rls r G km1)];exact km2
   refine⟨rfl,?gc,?gd⟩
  case' gc=>
   refine .inl ?_;refine⟨U.flatten,g1,g2,λO J r QV=>?_,?_⟩
   .obtain⟨u0,Vp⟩:=gO U.flatten 0;obtain⟨ad,ha,_,_⟩:=g5 0 u0 Vp;refine⟨ad,ha,λj u hj=>?_⟩;obtain⟨ad2,RL,q1,q2⟩:=g5 j u hj;rw[ha]at RL;injection RL with RL;subst RL;rw[cZ (w:=w1) (F:=J) (by rw[da];exact rls r G q1)];exact q2
   refine⟨rfl,be,mx,?_⟩;rw[aV x.length];refine⟨rC b3 a3 n3 c3 b4 a4 n4 c4,rfl,λO J r j u hu=>?_,?_⟩
   .obtain⟨k1,k2⟩:=hl j u hu;rw[aI,cZ (w:=w1) (F:=J) (by rw[da,da];exact rls r G k1)];exact k2
   refine⟨rfl,?_⟩
  case' gd=>
   refine⟨.slice a0 x.length c0,λO J r=>?_,?_⟩
   .rw[aI,cZ (w:=w1) (F:=J) (by rw[da];exact rls r G km1)];exact km2
   refine⟨rfl,?_⟩;refine .inl ?_;refine⟨U.flatten,g1,g2,λO J r QV=>?_,?_⟩
   .obtain⟨u0,Vp⟩:=gO U.flatten 0;obtain⟨ad,ha,_,_⟩:=g5 0 u0 Vp;refine⟨ad,ha,λj u hj=>?_⟩;obtain⟨ad2,RL,q1,q2⟩:=g5 j u hj;rw[ha]at RL;injection RL with RL;subst RL;rw[cZ (w:=w1) (F:=J) (by rw[da];exact rls r G q1)];exact q2
   refine⟨rfl,be,mx,?_⟩;rw[aV x.length]
  case' gb=>
   refine⟨.slice a0 x.length c0,λO J r=>?_,?_⟩
   .rw[aI,cZ (w:=w1) (F:=J) (by rw[da];exact rls r G km1)];exact km2
   refine⟨rfl,.slice a0 x.length c0,λO J r=>?_,?_⟩
   .rw[aI,cZ (w:=w1) (F:=J) (by rw[da];exact rls r G km1)];exact km2
   refine⟨rfl,?_⟩;refine .inl ?_;refine⟨U.flatten,g1,g2,λO J r QV=>?_,?_⟩
   .obtain⟨u0,Vp⟩:=gO U.flatten 0;obtain⟨ad,ha,_,_⟩:=g5 0 u0 Vp;refine⟨ad,ha,λj u hj=>?_⟩;obtain⟨ad2,RL,q1,q2⟩:=g5 j u hj;rw[ha]at RL;injection RL with RL;subst RL;rw[cZ (w:=w1) (F:=J) (by rw[da];exact rls r G q1)];exact q2
   refine⟨rfl,be,mx,?_⟩;rw[aV x.length]
  all_goals
    refine .inl ?_;refine⟨by rw[<-g1];rfl,be,mx,[(0,.vec T.nQ 1 rv)],_,rfl,ce,⟨rfl,trivial⟩,rfl,λO J r=>?_⟩;have hv:=OX r (id:=4) (sz:=4) (m:=x.length+1) rfl hlen5 mx bv be hone5;refine⟨hv.1,_,NI (tl:=[(13,.o (.w 0 rv.length)),(0,sV am M.length cm),(1,sV ab b.length cb),(6,iN i)]) hv.1 (t:=25) (n:=x.length+1) rfl ⟨rfl,rfl,rfl,rfl,trivial⟩ (by simp[kN,SV.sc,At.sc]),?_⟩;have R7:=hrow5 r hv.2.1 hv.2.2 aF;replace hK:=(ek.cU (hK.rel r G) (λg V=>V.mono λp hp=>aD _ hp)).push rfl R7;replace h:=dZ.cU (dZ.rel h r G) λg V=>V.mono λp hp=>aD ((O 4).g,(O 4).g+1) hp;replace hu:=dB.cU (dB.rel hu r G) λg V=>V.mono λp hp=>aD ((O 4).g,(O 4).g+1) hp;rw[<-R6]at hK;replace W:=W.tr r.cg;generalize (O 4).g=gx at*
    generalize (O 4).cap=cx at*
    generalize (gx,gx+1)::iv=iv2 at*
    refine .inl ?_;refine⟨ce,be,mx,((i+1:Nat):Int),wo,?_⟩;intro I8 w3 r3;exact⟨(i+1,rv++[.slice (some ⟨gx,0,none⟩) (x.length+1) cx],w3,_),⟨Pk,W.tr r3.cg,dZ.rel h r3 G,dB.rel hu r3 G,hK.rel r3 G⟩,sbgn [(0,6)] r3 (hE:=⟨rfl,rfl,by dsimp only;rw[l1];rfl,rfl,trivial⟩),dec Pk⟩
 have Pk:=dE R Pk;rw[Pk,bU (by rw[jA];omega)]at hK;intro GE we re;refine⟨_,rfl,W.tr re.cg,rv,?_,hK.1,λi u x Y I=>dB.out (hK.2.2 i u x Y I) re G⟩;have:=re.ka (id:=0) (sz:=1) (m:=rv.length) rfl (by rw[ah]) mx bv hK.2.1;rw[<-hK.1];exact this.cU λg V=>.inr V
section
variable{S:Nat->Prop}{H:Hp}{nx:Nat}{iv0:Iv}{B:Nat}{w J F:World}{O:Nat->Sx.eD}{v:Value}{xs:List Rat}
end
def kr:rs q<0↔q<0:=by rw[rs,Int.sign_neg_iff,<-Int.not_le,Rat.num_nonneg,Rat.not_le]
def il:0<rs q↔0<q:=by
 have h:=kr (q:= -q);rw[PJ]at h;constructor
 .intro k;have:=h.1 be;grind
 .intro k;have:=h.2 (by grind);omega
def iF{p:Rat}:rs (p-q)<0↔p<q:=by rw[kr];constructor<;>intro h<;>grind
def qM{p:Rat}:0<rs (p-q)↔q<p:=by rw[il,<-Rat.lt_iff_sub_pos]
def uj(xs ys:List Rat):Prop:=∀i,i<xs.length->ys.getD i 0<=xs.getD i 0
abbrev fG(n:Nat):List Rat:=List.replicate n 0
def xY(M:List (List Rat))(n:Nat)(x b:List Rat):Prop:=x.length=n/\uj x (fG x.length)/\∀(i:Nat) r,M[i]? =some r->eG r x r.length<=b.getD i 0
def Hm(M:List (List Rat))(y c:List Rat):Prop:=y.length=M.length/\uj y (fG y.length)/\uj (eO y M c.length M.length) c
def sY(M:List (List Rat))(b c:List Rat)(z:Int)(X C9 F9:List Rat)(q:Rat):Prop:=
 (z=0/\F9=[]/\xY M c.length X b/\Hm M C9 c/\eG c X c.length=q/\eG C9 b C9.length=q)\/
 (z=1/\X=[]/\F9=[]/\q=0/\Hm M C9 (fG c.length)/\eG C9 b C9.length<0)\/
 (z=2/\C9=[]/\q=0/\xY M c.length X b/\xY M c.length F9 (fG b.length)/\0<eG c F9 c.length)
def iH(M:List (List (Int×Int)))(b c:List (Int×Int)):Nat:=if j8 M≠0 then j8 M else if b.length≠M.length\/(0<M.length/\c.length≠dM M)then 11 else if 60<c.length then 8 else 0
def mc{M:List (List (Int×Int))}{c:List (Int×Int)}(h:iH M b c=0):j8 M=0/\b.length=M.length/\c.length<=60/\M.length<=60/\∀r∈M,r.length=c.length:=by
 unfold iH at h;split at h
 .rename_i h3;exact absurd h h3
 .rename_i h3;split at h
  .cases h
  .rename_i h4;split at h
   .cases h
   .rename_i h5;have h3:j8 M=0:=by omega
    obtain⟨Pm,hl,-⟩:=D6 h3;refine⟨h3,be,be,hl,λr hr=>?_⟩;have:=List.length_pos_of_mem hr;rw[Pm r hr];omega
def sZ{vm vb vc:Value}{M:List (List (Int×Int))}{c:List (Int×Int)}(G:Old S w)(h:dQ w S vm M)(N:dJ w S vb b)(hc:dJ w S vc c):
  eH PG Fd.my #[.agg #[vm,vb,vc]] w (eV w λv' _=>v'=iV (iH M b c)):=by
 have W:=bR w;obtain⟨am,cm,rfl,Rw,Sv⟩:=dG.shape h;obtain⟨ab,cb,rfl,Qz,TS⟩:=dK.shape N;obtain⟨ac,cc,rfl,VF,SJ⟩:=dK.shape hc;unfold maxLen at Sv TS SJ;refine qh ce ?_;refine cS (cE W (pE (iV (j8 M))) (λO J r=>tu (oS G r) (dQ.cW h ((kS W r G)))) ?_);rintro O _ _ _ Pt r L W h_ rfl;clear r;apply bS<;>intro L
 .have L:j8 M≠0:=λe=>by rw[e]at L;simp at L
  exact rtn W λGE we re=>by unfold iH;rw[aM L];rfl
 have L:j8 M=0:=by
  have h4:((j8 M:Int)==0)=true:=by simpa using L
  have:=eq_of_beq h4;omega
 refine dP (idO 23) ?_;apply bS<;>intro hl
 .have hl:b.length≠M.length:=λe=>by rw[e]at hl;simp at hl
  exact rtn W λGE we re=>by unfold iH;rw[aJ be,aM (.inl hl)];rfl
 have hl:b.length=M.length:=by
  have h4:((b.length:Int)==(M.length:Int))=true:=by simpa using hl
  have:=eq_of_beq h4;omega
 apply bS<;>intro h0
 .have h0:0<M.length:=by have:(0:Int)<M.length:=(by simpa using h0);omega
  refine cE W (pE (iV (dM M))) (λO J r=>tI (oS G r) (dQ.cW h ((kS W r G)))) ?_;rintro O _ _ _ iv2 r L W h_ rfl;clear r L;apply bS<;>intro Y
  .have Y:c.length≠dM M:=λe=>by rw[e]at Y;simp at Y
   exact rtn W λGE we re=>by unfold iH;rw[aJ be,aM (.inr ⟨h0,Y⟩)];rfl
  have Y:c.length=dM M:=by
   have h4:((c.length:Int)==(dM M:Int))=true:=by simpa using Y
   have:=eq_of_beq h4;omega
  apply bS<;>intro h6
  .have h6:60<c.length:=by have:(60:Int)<c.length:=(by simpa using h6);omega
   exact rtn W λGE we re=>by unfold iH;rw[aJ be,aJ be,aM h6];rfl
  have h6:¬60<c.length:=by have:¬(60:Int)<c.length:=(by simpa using h6);omega
  exact rtn W λGE we re=>by unfold iH;rw[aJ be,aJ be,aJ h6];rfl
 have h0:¬0<M.length:=by have:¬(0:Int)<M.length:=(by simpa using h0);omega
 apply bS<;>intro h6
 .have h6:60<c.length:=by have:(60:Int)<c.length:=(by simpa using h6);omega
  exact rtn W λGE we re=>by unfold iH;rw[aJ be,aJ be,aM h6];rfl
 have h6:¬60<c.length:=by have:¬(60:Int)<c.length:=(by simpa using h6);omega
 exact rtn W λGE we re=>by unfold iH;rw[aJ be,aJ be,aJ h6];rfl
def xf{v:Value}{xs ys:List Rat}(G:Old S w)(Z:dx w S S v xs)(hy:dx w S S u ys)(hl:xs.length=ys.length)(Vd:∀x∈xs,rl x<=10000000000)(VS:∀x∈ys,rl x<=10000000000):
  eH PG Fd.nh #[v,u] w (eV w λv' _=>∃d,v'= .bool d/\(d=true->uj xs ys)/\(uj xs ys->d=true)):=by
 have W:=bR w;obtain⟨ax,cx,rfl,Wi,Ue⟩:=Z.shape;obtain⟨ay,cy,rfl,Yc,-⟩:=hy.shape;unfold maxLen at Ue;refine sJ ce ?_
 refine⟨Nat×World×Iv,λz=>⟨[(1,sV ay ys.length cy),(7,sV ax xs.length cx),(8,iZ xs.length),(9,iN z.1)],[],0,z.2.2,z.2.1⟩,λz=>xs.length-z.1,
  λz=>z.1<=xs.length/\Bq w z.2.1/\∀j,j<z.1->ys.getD j 0<=xs.getD j 0,?_,?_⟩
 .intro O J r;exact⟨(0,J,[]),⟨aZ _,W.tr r.cg,λj hj=>by dsimp only at hj;omega⟩,sbgn [] r⟩
 clear W;rintro⟨i,w1,iv⟩ ⟨R,W,ht⟩;dsimp only at R W ht ⊢;apply bS<;>intro Pk
 .have Pk:=dL Pk;obtain⟨x,QY⟩:=gO xs i;obtain⟨y,R5⟩:=gO ys i;have Q5:xs.getD i 0=x:=by rw[List.getD,QY];rfl
  have RH:ys.getD i 0=y:=by rw[List.getD,R5];rfl
  obtain⟨adx,csx,WK,SD,RA⟩:=Z.load QY;obtain⟨ady,csy,Ux,SO,RZ⟩:=hy.load R5;obtain⟨f0,f1,f2,f3,f4,f5,f6,f7,rfl,SD⟩:=SD;obtain⟨q0,q1,q2,q3,q4,q5,q6,q7,rfl,SO⟩:=SO;refine⟨adx,WK,be,rC f0 f1 f2 f3 f4 f5 f6 f7,rfl,rdO RA W G,?_⟩;refine dP (idO 7) ?_;refine⟨ady,Ux,be,rC q0 q1 q2 q3 q4 q5 q6 q7,rfl,rdO RZ W G,?_⟩;refine cE W (pE (iV (rs (x-y)))) (λO J r=>ud (oS G r) (SD.cW ((kS W r G))) (SO.cW ((kS W r G))) (Vd x (aG QY)) (VS y (aG R5))) ?_;rintro O _ _ _ Pt r L W h_ rfl;clear r;apply bS<;>intro hs
  .have hs:x<y:=iF.1 (by simpa using hs);exact rtn W λGE we re=>⟨false,rfl,λh=>(by cases h),λh=>absurd hs (Rat.not_lt.2 (by have:=h i Pk;rwa [Q5,RH]at this))⟩
  have hs:y<=x:=Rat.not_lt.1 λh=>absurd (iF.2 h) (by simpa using hs);refine inc i ?_;intro I8 w3 r3;refine⟨(i+1,w3,_),⟨Pk,W.tr r3.cg,λj hj=>?_⟩,sbgn [] r3,by dsimp only;omega⟩;rcases aW j i with Y|Y
  .exact ht j Y
  .obtain rfl:j=i:=by dsimp only at hj;omega
   rw[Q5,RH];exact hs
 have Pk:=dE R Pk;exact rtn W λGE we re=>⟨true,rfl,λ_ j hj=>ht j be,λ_=>rfl⟩
def uh{va vx vb:Value}{x b:List Rat}{a1 a2 a3 a4 a5 g1 g5:Option Addr}{n n1 c1 c2 n3 c3 n4 c4 n5 c5 g2 g3 g6 g7 h:Nat}{g0 g4:Bool}(G:Old S w)(hM:fM w S va M)(Z:dx w S S vx x)(N:dx w S S vb b)(Pu:b.length=M.length)(Pm:∀r∈M,r.length=n)
  (Sn:Ht M h) (Vd:∀q∈x,rl q+1<=h) (Xt:∀q∈b,rl q+1<=h) (I:2<=h) (hh:h<=1000000000) (QZ:2*h*n<=1000000000) (SK:x.length<=1000000):
  eH PG Fd.lO #[.agg #[va,.slice a1 n1 c1,.slice a2 n c2,.slice a3 n3 c3,.slice a4 n4 c4,.slice a5 n5 c5,.bool g0,.slice g1 g2 g3,.bool g4,.slice g5 g6 g7],vx,vb] w (eV w λv' _=>∃d,v'= .bool d/\(d=true->xY M n x b)/\(xY M n x b->d=true)):=by
 have W:=bR w;obtain⟨am,cm,rfl,Rw,Sv⟩:=dG.shape hM;obtain⟨ax,cx,rfl,Wi,Ue⟩:=Z.shape;obtain⟨ab,cb,rfl,Qz,-⟩:=N.shape;unfold maxLen at Sv Ue;refine ov ce ?_;apply bS<;>intro hl
 .have hl:x.length≠n:=λe=>by rw[e]at hl;simp at hl
  exact rtn W λGE we re=>⟨false,rfl,λh=>(by cases h),λh=>absurd h.1 hl⟩
 have hl:x.length=n:=by
  have h4:((x.length:Int)==(n:Int))=true:=by simpa using hl
  have:=eq_of_beq h4;omega
 refine cS (cE W (λ_ J v F=>eh F FF J.heap.size [(J.heap.size,F.heap.size)] v x.length (fG x.length)) (λO J r=>j4 x.length J be) ?_);rintro O _ _ _ Pt r L W h_ E;have hz:=(show gD _ _ _ _ from(eh.ef (S:=FF) (B:=w.heap.size) E r.cY (mN h_)).read)
 clear r;obtain⟨ahz,chz,rfl⟩:=hz.shape;rw[aq]at hz ⊢;refine cS (cE W (λ_ J v F=>∃d,v= .bool d/\(d=true->uj x (fG x.length))/\(uj x (fG x.length)->d=true)) (λO J r=>xf (rlo r G) (gD.cU (gD.cW Z ((kS W r G))) λ_ V=>(.inl V:Cv S w.heap.size _ _)) (gD.cU (gD.rel hz r oF) λ_ V=>(qL V:Cv S w.heap.size _ _)) (aq ..).symm (λq hq=>by have:=Vd q hq;omega) (λq hq=>by rw[bK hq];decide)) ?_);rintro O _ _ _ iv2 r L W h_ ⟨d,rfl,Rd,RS⟩;clear hz;clear r
 cases d with
 |false=>
  have Ud:¬(uj x (fG x.length)):=λh=>absurd (RS h) bv;clear Rd RS;exact rtn W λGE we re=>⟨false,rfl,λh=>(by cases h),λh=>absurd h.2.1 Ud⟩
 |true=>
  have Ud:uj x (fG x.length):=Rd rfl;clear Rd RS
  refine⟨Nat×World×Iv,λz=>⟨[(1,sV ax x.length cx),(2,sV ab b.length cb),(24,sV am M.length cm),(25,iZ M.length),(26,iN z.1)],[],0,z.2.2,z.2.1⟩,λz=>M.length-z.1,
   λz=>z.1<=M.length/\Bq w z.2.1/\∀(j:Nat) r,j<z.1->M[j]? =some r->eG r x r.length<=b.getD j 0,?_,?_⟩
  .intro O J r;exact⟨(0,J,_),⟨aZ _,W.tr r.cg,λj r hj=>by dsimp only at hj;omega⟩,sbgn [] r⟩
  clear W;rintro⟨i,w1,iv⟩ ⟨R,W,ht⟩;dsimp only at R W ht ⊢;apply bS<;>intro Pk
  .have Pk:=dL Pk;obtain⟨ra,Sd⟩:=gO M i;have Tq:=Pm ra (aG Sd);obtain⟨y,R5⟩:=gO b i;have RH:b.getD i 0=y:=by rw[List.getD,R5];rfl
   have hyq:=Xt y (aG R5);have S7:=iA (Sn.at Sd) Vd I ra.length;rw[Tq]at S7;obtain⟨adx,ux,rfl,SD,SS,Q5⟩:=dG.load hM Sd;obtain⟨aux,cux,rfl⟩:=dG.rowOf SD;obtain⟨ady,csy,Ux,SO,RZ⟩:=N.load R5;obtain⟨q0,q1,q2,q3,q4,q5,q6,q7,rfl,SO⟩:=SO;refine⟨adx,rfl,be,.slice aux ra.length cux,rd1 Q5 W (G _ SS),?_⟩;refine dP [.x 0,.x 1,.x 3,.x 4,.x 5,.x 6,.x 2,.x 7,.x 8] ?_;refine⟨ady,Ux,be,rC q0 q1 q2 q3 q4 q5 q6 q7,rfl,rdO RZ W G,?_⟩;refine cE W (pR cw (eG ra x ra.length)) (λO J r=>Gd (oS G r) (gD.cW SD ((kS W r G))) (gD.cW Z ((kS W r G))) (Tq.trans hl.symm) (Sn.at Sd) Vd I (by rw[Tq];omega)) ?_;rintro O _ _ _ Ps r L W h_ E;have hd:=E.cU (nw r h_);clear r;obtain⟨A0,A1,A2,A3,A4,A5,A6,A7,rfl⟩:=hd.shape;refine cE W (pE (iV (rs (eG ra x ra.length-y)))) (λO J r=>ud (rlo r G) (cw.cU (cw.rel hd r oF) λ_ V=>(qL V:Cv S w.heap.size _ _)) (cw.cU (cw.cW SO ((kS W r G))) λ_ V=>(.inl V:Cv S w.heap.size _ _)) (by rw[Tq];omega) be) ?_;rintro O _ _ _ QA r L W h_ rfl;clear hd;clear r;apply bS<;>intro hs
   .have hs:y<eG ra x ra.length:=qM.1 (by simpa using hs);exact rtn W λGE we re=>⟨false,rfl,λh=>(by cases h),λh=>absurd hs (Rat.not_lt.2 (by have:=h.2.2 i ra Sd;rwa [RH]at this))⟩
   have hs:eG ra x ra.length<=y:=Rat.not_lt.1 λh=>absurd (qM.2 h) (by simpa using hs);refine inc i ?_;intro I8 w3 r3;refine⟨(i+1,w3,_),⟨Pk,W.tr r3.cg,λj r hj hr=>?_⟩,sbgn [] r3,by dsimp only;omega⟩;rcases aW j i with Y|Y
   .exact ht j r Y hr
   .obtain rfl:j=i:=by dsimp only at hj;omega
    obtain rfl:ra=r:=by rw[Sd]at hr;injection hr
    rw[RH];exact hs
  have Pk:=dE R Pk;exact rtn W λGE we re=>⟨true,rfl,λ_=>⟨hl,Ud,λj r hr=>ht j r (by have:=(aH.1 hr).1;omega) hr⟩,λ_=>rfl⟩
set_option maxRecDepth 2000 in
def Gc{va vy vc:Value}{y c:List Rat}{a1 a2 a3 a5 g1 g5:Option Addr}{n n1 c1 c2 n3 c3 n5 c5 g2 g3 g6 g7 h:Nat}{g0 g4:Bool}(G:Old S w)(Si:n1=M.length)(hM:fM w S va M)(hy:dx w S S vy y)(hc:dx w S S vc c)(Pm:∀r∈M,r.length=c.length)
  (Sn:Ht M h) (VS:∀q∈y,rl q+1<=h) (Xu:∀q∈c,rl q+1<=h) (I:2<=h) (hh:h<=1000000000) (QZ:2*h*M.length<=1000000000) (VU:y.length<=1000000) (Qa:c.length<=1000000):
  eH PG Fd.nA #[.agg #[va,.slice a1 n1 c1,.slice a2 n c2,.slice a3 n3 c3,vy,.slice a5 n5 c5,.bool g0,.slice g1 g2 g3,.bool g4,.slice g5 g6 g7],vc] w (eV w λv' _=>∃d,v'= .bool d/\(d=true->Hm M y c)/\(Hm M y c->d=true)):=by
 subst Si;have W:=bR w;obtain⟨am,cm,rfl,Rw,Sv⟩:=dG.shape hM;obtain⟨ay,cy,rfl,Yc,hmy⟩:=hy.shape;obtain⟨ac,cc,rfl,VF,-⟩:=hc.shape;unfold maxLen at Sv hmy;refine qk ce ?_;refine dP [.x 0,.x 1,.x 2,.x 3,.x 4,.x 5,.x 6,.x 7,.x 8,.x 9,.x 10,.x 11,.x 12,.x 13,.x 14,.x 15,.x 16,.x 17,.x 18,.x 19,.x 20,.x 21,.x 22,.x 24,.x 23,.x 25,.x 26,.x 27] ?_;apply bS<;>intro hl
 .have hl:y.length=M.length:=by
   have h4:((y.length:Int)==(M.length:Int))=true:=by simpa using hl
   have:=eq_of_beq h4;omega
  have Xd:=oA VS Sn I c.length M.length;refine cE W (λ_ J v F=>eh F FF J.heap.size [(J.heap.size,F.heap.size)] v y.length (fG y.length)) (λO J r=>j4 y.length J be) ?_;rintro O _ _ _ Pt r L W h_ E;have hz:=(show gD _ _ _ _ from(eh.ef (S:=FF) (B:=w.heap.size) E r.cY (mN h_)).read)
  clear r;obtain⟨ahz,chz,rfl⟩:=hz.shape;rw[aq]at hz ⊢;refine cE W (λ_ J v F=>∃d,v= .bool d/\(d=true->uj y (fG y.length))/\(uj y (fG y.length)->d=true)) (λO J r=>xf (rlo r G) (gD.cU (gD.cW hy ((kS W r G))) λ_ V=>(.inl V:Cv S w.heap.size _ _)) (gD.cU (gD.rel hz r oF) λ_ V=>(qL V:Cv S w.heap.size _ _)) (aq ..).symm (λq hq=>by have:=VS q hq;omega) (λq hq=>by rw[bK hq];decide)) ?_;rintro O _ _ _ iv2 r L W h_ ⟨d,rfl,Rd,RS⟩;clear hz;clear r
  cases d with
  |false=>
   have Ud:¬(uj y (fG y.length)):=λh=>absurd (RS h) bv;clear Rd RS;exact rtn W λGE we re=>⟨false,rfl,λh=>(by cases h),λh=>absurd h.2.1 Ud⟩
  |true=>
   have Ud:uj y (fG y.length):=Rd rfl;clear Rd RS;refine cR (GT:=λ_ J v F=>gD F (Nw (Cv S w.heap.size iv2) J F) v (eO y M c.length M.length)) (λO J r=>Kx (rlo r G) (gD.cU (gD.cW hy ((kS W r G))) λ_ V=>(.inl V:Cv S w.heap.size _ _)) (nS.cU (nS.cW hM ((kS W r G))) λ_ V=>(.inl V:Cv S w.heap.size _ _)) hl Pm Qa VS Sn I be) ?_;rintro O Qh v3 Q7 r L N E;replace W:=W.tr N;have hT:=E.old r.cY;clear r L N E;generalize (Qh.heap.size,Q7.heap.size)::iv2=Ps at*
   obtain⟨aT,cT,rfl⟩:=hT.shape;rw[fU]at hT ⊢;refine cE W (λ_ J v F=>∃d,v= .bool d/\(d=true->uj (eO y M c.length M.length) c)/\(uj (eO y M c.length M.length) c->d=true)) (λO J r=>xf (rlo r G) (hT.rel r G) (gD.cU (gD.cW hc ((kS W r G))) λ_ V=>(.inl V:Cv S w.heap.size _ _)) (fU ..) (λq hq=>by have:=Xd q hq;omega) (λq hq=>by have:=Xu q hq;omega)) ?_;rintro O _ _ _ QA r L W h_ ⟨d,rfl,Rd,RS⟩;clear hT;clear r L
   cases d with
   |false=>
    have HA:¬(uj (eO y M c.length M.length) c):=λh=>absurd (RS h) bv;clear Rd RS;exact rtn W λGE we re=>⟨false,rfl,λh=>(by cases h),λh=>absurd h.2.2 HA⟩
   |true=>
    have HA:uj (eO y M c.length M.length) c:=Rd rfl;clear Rd RS;exact rtn W λGE we re=>⟨true,rfl,λ_=>⟨hl,Ud,HA⟩,λ_=>rfl⟩
 have hl:y.length≠M.length:=λe=>by rw[e]at hl;simp at hl
 exact rtn W λGE we re=>⟨false,rfl,λh=>(by cases h),λh=>absurd h.1 hl⟩
def jD(n:Nat):(fG n).length=n:=aq
def Ge{n h:Nat}(I:2<=h):∀q∈fG n,rl q+1<=h:=λq hq=>by rw[bK hq];exact aR bv I
end Go.Ex
namespace Go.Ex
variable{pv:List Nat}{l:List Rat}{B r:Nat}{u v:Nat->Rat}{p q:Rat}
def aA1:List Nat->(Nat->Rat)->Rat
 |[],_=>0
 |t::l,g=>g t+aA1 l g
def zp{i t:Nat}{v:Rat}:(l.set i v).getD t 0=if i=t/\i<l.length then v else l.getD t 0:=by
 simp only[List.getD,List.getElem?_set]
 by_cases h:i=t
 .subst h;by_cases hl:i<l.length
  .simp[hl]
  .simp[hl]
 .simp[h]
def zq{AC:Nat->List Rat}{pv:List Nat}{f:Nat->Rat}(hF:∀i,AC (i+1)=(AC i).set (pv.getD i 0) (f i)){t:Nat}(ht:t∉pv):∀i,i<=pv.length->(AC i).getD t 0=(AC 0).getD t 0
 |0,_=>rfl
 |i+1,h=>by
  rw[hF,zp,aJ λe=>ht (by rw[<-e.1,List.getD,aE be];exact bm _)];exact zq hF ht i be
def LX(hp:pv.Pairwise (· < ·)){i j:Nat}(RQ:j<i)(R:i<pv.length):pv.getD j 0<pv.getD i 0:=by
 rw[List.getD,List.getD,aE R,aE be];exact List.pairwise_iff_getElem.1 hp j i _ _ RQ
def Dl{AC:Nat->List Rat}{pv:List Nat}{f:Nat->Rat}{n:Nat}(hF:∀i,AC (i+1)=(AC i).set (pv.getD i 0) (f i))(hl:∀i,(AC i).length=n)(hp:pv.Pairwise (· < ·))(E:∀p∈pv,p<n){j:Nat}:∀i,i<=pv.length->j<i->(AC i).getD (pv.getD j 0) 0=f j
 |0,_,h=>by omega
 |i+1,h,hj=>by
  rw[hF,zp];rcases aW j i with Y|Y
  .have:=LX hp Y be;rw[aJ be];exact Dl hF hl hp E i be Y
  .have e:j=i:=by omega
   subst e;have hm:pv.getD j 0<(AC j).length:=by rw[hl];exact E _ (by rw[List.getD,aE be];exact bm _)
   rw[aM ⟨rfl,hm⟩]
def iY(M:List (List Rat))(x:List Rat):List Rat:=M.map λr=>eG r x r.length
abbrev kR(pv:List Nat)(n:Nat):List Nat:=(List.range n).filter λc=>decide (c∉pv)
section
variable{M:List (List Rat)}{x:List Rat}{n:Nat}
end
structure Diff(Fn:List (List Rat))(pv:List Nat)(n:Nat)(x:List Rat):Prop where
 up:pv.Pairwise (· < ·)
 lt:∀p∈pv,p<n
 le:pv.length<=Fn.length
 unit:∀i j,i<pv.length->j<Fn.length->dR Fn j (pv.getD i 0)=if j=i then 1 else 0
 sum:∀j,j<Fn.length->aA1 (List.range n) (λt=>dR Fn j t*x.getD t 0)=dR Fn j n
section
variable{Fn:List (List Rat)}{pv:List Nat}{n:Nat}{x:List Rat}
def LY{t:Nat}(h:t∈pv):∃j,j<pv.length/\pv.getD j 0=t:=by
 obtain⟨j,hj,rfl⟩:=List.mem_iff_getElem.1 h;exact⟨j,hj,by rw[List.getD,aE hj];rfl⟩
def FR{c t:Nat}(ht:t∉pv)(hc:c<n):(jq Fn pv n c pv.length).getD t 0=if t=c then 1 else 0:=by
 rw[zq (AC:=jq Fn pv n c) (λi=>lK Fn pv n c i) ht _ (ae _)];show((List.replicate n (0:Rat)).set c 1).getD t 0=_;rw[zp,aq];by_cases h:c=t
 .rw[aM ⟨h,hc⟩,aM h.symm]
 .rw[aJ (λe=>h e.1),aJ (λe=>h e.symm)];simp only[List.getD,List.getElem?_replicate]
  split<;>rfl
def LZ{t:Nat}(ht:t∉pv):(gj Fn pv n pv.length).getD t 0=0:=by
 rw[zq (AC:=gj Fn pv n) (λi=>jz Fn pv n i) ht _ (ae _)];show(List.replicate n (0:Rat)).getD t 0=0;simp only[List.getD,List.getElem?_replicate]
 split<;>rfl
def zt:(kR pv n).Nodup:=List.Pairwise.filter _ List.nodup_range
def vL{c:Nat}:c∈kR pv n↔c<n/\c∉pv:=by
 unfold kR;rw[List.mem_filter,List.mem_range,decide_eq_true_eq]
def vM{k:Nat}(K:k<(kR pv n).length):(kR pv n).getD k 0∈kR pv n:=by rw[List.getD,aE K];exact bm K
def uI{k:Nat}{r:List Rat}(h:(du Fn pv n n)[k]? =some r):k<(kR pv n).length/\r=jq Fn pv n ((kR pv n).getD k 0) pv.length:=by
 unfold du at h;rw[aS]at h;obtain⟨c,hc,rfl⟩:=Option.map_eq_some_iff.1 h;refine⟨(aH.1 hc).1,?_⟩;rw[List.getD,hc];rfl
def L0{i k:Nat}(R:i<(kR pv n).length)(K:k<(kR pv n).length)(e:(kR pv n).getD i 0=(kR pv n).getD k 0):i=k:=by
 rw[List.getD,List.getD,aE R,aE K]at e;rcases cO i k with h|h|h
 .exact absurd e (List.pairwise_iff_getElem.1 zt i k R K h)
 .exact h
 .exact absurd e.symm (List.pairwise_iff_getElem.1 zt k i K R h)
def zu{k i:Nat}{r s:List Rat}(hr:(du Fn pv n n)[k]? =some r)(hs:(du Fn pv n n)[i]? =some s):s.getD ((kR pv n).getD k 0) 0=if i=k then 1 else 0:=by
 obtain⟨K,-⟩:=uI hr;obtain⟨R,rfl⟩:=uI hs;have hm:=vL.1 (vM K);rw[FR hm.2 (vL.1 (vM R)).1];by_cases h:i=k
 .rw[h,aM rfl,aM rfl]
 .rw[aJ (λe=>h (L0 R K e.symm)),aJ h]
end
def jd(f:Nat->Nat->Rat)(m:Nat):∀n,cj (λi=>cj (f i) m) n=cj (λj=>cj (λi=>f i j) n) m
 |0=>(dc m).symm
 |n+1=>by
  show cj (λi=>cj (f i) m) n+cj (f n) m=cj (λj=>cj (λi=>f i j) n+f n j) m;rw[fu,jd f m n]
def gN(x y:List Rat):∀n,eG x y n=cj (λt=>x.getD t 0*y.getD t 0) n
 |0=>rfl
 |n+1=>by rw[eG,gN x y n];rfl
def jM{f:Nat->Rat}:∀{n:Nat},(∀k,k<n->0<=f k)->0<=cj f n
 |0,_=>Rat.le_refl
 |n+1,h=>by
  have Y:=jM (n:=n) λk K=>h k be;have I:=h n be;show 0<=cj f n+f n;grind
def rK{f:Nat->Rat}:∀{n:Nat},(∀k,k<n->0<=f k)->cj f n<=0->∀k,k<n->f k=0
 |0,_,_,k,K=>by omega
 |n+1,h,h0,k,K=>by
  have Y:=jM (n:=n) λk K=>h k be;have I:=h n be;have h3:cj f n+f n<=0:=h0;rcases aW k n with h4|h4
  .exact rK (λk K=>h k be) (by grind) k h4
  .rw[show k=n by omega];grind
section
variable{m m':Mx}{n w p:Nat}{κ:Rat}{q:Nat->Rat}
end
def gg(EQ:Mx)(r n:Nat)(v:Nat->Rat):Prop:=∃c:Nat->Rat,∀t,t<n->v t=cj (λi=>c i*EQ i t) r
structure Rf(EQ:Mx)(p:Nat->Nat)(r n:Nat):Prop where
 lt:∀i,i<r->p i<n
 mono:∀i j,i<j->j<r->p i<p j
 unit:∀i j,i<r->j<r->EQ j (p i)=if j=i then 1 else 0
 lead:∀i t,i<r->t<p i->EQ i t=0
section
variable{EQ AC:Mx}{p q:Nat->Nat}{r s n:Nat}{v:Nat->Rat}
end
def gg.row{EQ:Mx}{n i:Nat}(R:i<r):gg EQ r n (EQ i):=⟨λk=>if k=i then 1 else 0,λt _=>by
 rw[eN R λk _ Po=>by simp only[aJ Po,bc]]
 simp only[aM,cQ]⟩
def gg.add{EQ:Mx}{n:Nat}(h:gg EQ r n u)(k:gg EQ r n v)(x:Rat):gg EQ r n λt=>u t+x*v t:=by
 obtain⟨c,hc⟩:=h;obtain⟨d,hd⟩:=k;refine⟨λi=>c i+x*d i,λt ht=>?_⟩;show u t+x*v t=cj (λi=>(c i+x*d i)*EQ i t) r;rw[hc t ht,hd t ht,<-fP,<-fu];exact cX λi _=>by grind
def gg.mul{EQ:Mx}{n:Nat}(h:gg EQ r n u)(x:Rat):gg EQ r n λt=>u t*x:=by
 obtain⟨c,hc⟩:=h;refine⟨λi=>c i*x,λt ht=>?_⟩;show u t*x=cj (λi=>(c i*x)*EQ i t) r;rw[hc t ht,<-jB];exact cX λi _=>by grind
def gg.congr{EQ:Mx}{n:Nat}(h:gg EQ r n u)(e:∀t,t<n->v t=u t):gg EQ r n v:=by
 obtain⟨c,hc⟩:=h;exact⟨c,λt ht=>by rw[e t ht,hc t ht]⟩
def gg.trans{EQ AC:Mx}{s n:Nat}(h:gg EQ r n v)(k:∀i,i<r->gg AC s n (EQ i)):gg AC s n v:=by
 obtain⟨c,hc⟩:=h;have key:∀m,m<=r->gg AC s n λt=>cj (λi=>c i*EQ i t) m:=by
  intro m
  induction m with
  |zero=>intro _;exact⟨λ_=>0,λt _=>by rw[cX (g:=λ_=>0) λi _=>bc _,dc];rfl⟩
  |succ m ih=>
   intro hm;exact(ih be).add (k m be) (c m)
 exact(key r (ae _)).congr λt ht=>hc t ht
def aBH(s:List (List Rat)×List Nat):Prop:=(∀i j,i<j->j<s.2.length->s.2.getD i 0<s.2.getD j 0)/\∀i t,i<s.2.length->t<s.2.getD i 0->dR s.1 i t=0
def NV{s:List (List Rat)×List Nat}{c n:Nat}(hl:iP n s.1)(hle:s.2.length<=s.1.length):(∀j,j<s.1.length->gg (dR s.1) s.1.length n (dR (eY s c).1 j))/\∀j,j<s.1.length->gg (dR (eY s c).1) s.1.length n (dR s.1 j):=by
 rcases xn c hle with⟨e,-⟩|⟨k,Y,I,h3,e⟩
 .rw[e];exact⟨λj hj=>gg.row hj,λj hj=>gg.row hj⟩
 .obtain⟨r1,r2⟩:=zn hl Y I h3 e;have hp:s.2.length<s.1.length:=by omega
  have a1:gg (dR s.1) s.1.length n (dR (eY s c).1 s.2.length):=((gg.row I).mul (1 / dR s.1 k c)).congr λt _=>r1 t;have b1:gg (dR (eY s c).1) s.1.length n (dR s.1 k):=((gg.row hp).mul (dR s.1 k c)).congr λt _=>by rw[r1,Rat.mul_assoc,Rat.mul_comm (1 / _),zo h3,Rat.mul_one]
  refine⟨λj hj=>?_,λj hj=>?_⟩
  .by_cases h4:j=s.2.length
   .rw[h4];exact a1
   .exact((gg.row (show (if j=k then s.2.length else j)<s.1.length by split<;>omega)).add (gg.row I) (-(dR s.1 (if j=k then s.2.length else j) c)*(1 / dR s.1 k c))).congr λt ht=>by rw[r2 j hj h4 t ht];grind
  .by_cases h4:j=k
   .rw[h4];exact b1
   .obtain⟨i,R,Po,RQ⟩:∃i,i<s.1.length/\i≠s.2.length/\(if i=k then s.2.length else i)=j:=by
     by_cases h5:j=s.2.length
     .exact⟨k,I,λe6=>h4 (h5.trans e6.symm),by rw[aM rfl,h5]⟩
     .exact⟨j,hj,h5,aJ h4⟩
    refine((gg.row R).add (gg.row hp) (dR s.1 j c)).congr λt ht=>?_;rw[r2 i R Po t ht,RQ,r1];grind
def uK{M:List (List Rat)}{n:Nat}(hl:iP n M):∀cols,cols<=n->(∀j,j<M.length->gg (dR M) M.length n (dR (dF M cols).1 j))/\∀j,j<M.length->gg (dR (dF M cols).1) M.length n (dR M j)
 |0,_=>⟨λj hj=>gg.row hj,λj hj=>gg.row hj⟩
 |c+1,h=>by
  obtain⟨i1,i2⟩:=uK hl c be;have hr:=jy hl c be;have Y:=kQ M c;have I:=NV (c:=c) hr.1 hr.2.1;rw[Y]at I;have e:(dF M (c+1))=eY (dF M c) c:=by unfold dF;rw[bu,List.foldl_append];rfl
  rw[e];exact⟨λj hj=>(I.1 j hj).trans i1,λj hj=>(i2 j hj).trans I.2⟩
structure Ru(EQ:Mx)(p:Nat->Nat)(r n:Nat):Prop where
 lt:∀i,i<r->p i<n
 inj:∀i j,i<r->j<r->p i=p j->i=j
 unit:∀i j,i<r->j<r->EQ j (p i)=if j=i then 1 else 0
 lead:∀i t,i<r->t<p i->EQ i t=0
def clr(EQ:Mx)(p:Nat->Nat)(r:Nat)(v:Nat->Rat)(k t:Nat):Rat:=v t-cj (λi=>if p i<k then v (p i)*EQ i t else 0) r
section
variable{EQ:Mx}{p:Nat->Nat}{r n:Nat}{v:Nat->Rat}
end
section
variable{EQ:Mx}{p:Nat->Nat}{r n k:Nat}{u v:Nat->Rat}
end
abbrev PK:=List (List Rat)×List (Option Nat)×List Nat
structure aA2(n cols i:Nat)(s:PK):Prop where
 len:iP n s.1
 at_:s.2.1.length=cols
 D9:s.2.2.length=s.1.length
 lt:∀(k r:Nat),s.2.1[k]? =some (some r)->r<s.1.length
 le:s.1.length<=i
 fr:∀j∈s.2.2,j<i
structure Frm where
 nodes:List (Int×Int×Int)
 bars:List (Int×Int×Rat)
 aBI:List (Int×Int×Rat)
def Frm.cols(f:Frm):Nat:=f.bars.length+f.aBI.length
def Ib(B:Nat)(q:Rat):Prop:=∃z:Int,q=(z:Rat)/\z.natAbs<=B
def Ib.add{C:Nat}(h:Ib B p)(k:Ib C q):Ib (B+C) (p+q):=by
 obtain⟨z,rfl,b⟩:=h;obtain⟨y,rfl,c⟩:=k;exact⟨z+y,by rw[Rat.intCast_add],be⟩
def Ib.mul{C:Nat}(h:Ib B p)(k:Ib C q):Ib (B*C) (p*q):=by
 obtain⟨z,rfl,b⟩:=h;obtain⟨y,rfl,c⟩:=k;exact⟨z*y,by rw[Rat.intCast_mul],by rw[Int.natAbs_mul];exact Nat.mul_le_mul b c⟩
def Ib.neg(h:Ib B p):Ib B (-p):=by
 obtain⟨z,rfl,b⟩:=h;exact⟨-z,by rw[Rat.intCast_neg],be⟩
def Ib.zero(B:Nat):Ib B 0:=⟨0,rfl,aZ _⟩
def Ib.one(h:1<=B):Ib B 1:=⟨1,rfl,h⟩
def Ib.int{z:Int}(h:z.natAbs<=B):Ib B (z:Rat):=⟨z,rfl,h⟩
def Ib.sum{B:Nat}{f:Nat->Rat}:∀(n:Nat),(∀k,k<n->Ib B (f k))->Ib (n*B) (cj f n)
 |0,_=>Ib.zero _
 |n+1,h=>by rw[cj,Nat.succ_mul];exact(Ib.sum n λk K=>h k be).add (h n be)
def fB(B:Nat):Nat->Nat
 |0=>1
 |n+1=>(n+1)*(B*fB B n)
def Ib.uJ{k:Nat}(h:Ib B q):Ib B (uJ k*q):=by
 unfold Go.Ex.uJ;split
 .rw[show (-1:Rat)*q= -q by grind];exact h.neg
 .rw[cQ];exact h
def Ib.det{B:Nat}:∀(n:Nat) {m:Mx},(∀i j,i<n->j<n->Ib B (m i j))->Ib (fB B n) (fp n m)
 |0,_,_=>Ib.one (ae _)
 |n+1,m,h=>by
  unfold fp fB;exact Ib.sum (n+1) λk K=>((h 0 k be K).mul (Ib.det n λi j R hj=>h (i+1) (skip k j) be (IY hj))).uJ
def Ob{B F9:Nat}:∀{n:Nat},n<=F9->fB B n<=(F9*B)^n
 |0,_=>ae _
 |n+1,h=>by
  rw[fB,Nat.pow_succ,<-bo,bX _ (F9*B)];exact Nat.mul_le_mul (Nat.mul_le_mul_right B h) (Ob be)
def aA3{F9 l n:Nat}(E:n<=F9)(h:F9*B<=wt l):ln (fB B n)<=l*n+1:=by
 rw[gn,jY];have Y:=aR (Ob (B:=B) E) (Nat.pow_le_pow_left h n);rw[rI,<-Nat.pow_mul]at Y;have I:=rI (l*n);have h3:=zg (l*n);rw[show 32*l*n=32*(l*n) by rw[bo]]at Y;omega
def NX{FS:Nat}{D:Rat}(h0:D≠0)(hD:Ib FS D)(hq:Ib FS (D*q)):rl q<=ln FS:=by
 obtain⟨d,rfl,b⟩:=hD;obtain⟨z,e,c⟩:=hq;have hd:d≠0:=λe=>h0 (by rw[e];rfl);have e2:q=Rat.divInt z d:=by
  rw[Rat.divInt_eq_div,<-e,bO,Rat.mul_comm (d:Rat) q,Rat.mul_assoc,Rat.mul_inv_cancel _ h0,Rat.mul_one]
 have:=km (a:=z) hd;have:=fK b;have:=fK c;rw[e2];omega
def Jx{n:Nat}{m:Mx}(h:r<n):fp n (iy m r λ_=>0)=0:=by
 have Y:=rJ 1 n r m h (λ_=>0) λ_=>0;rw[show (λ_:Nat=>(0:Rat)+1*0)=λ_=>0 from funext λ_=>by grind]at Y;grind
def FW{n r:Nat}{m:Mx}(h:r<n)(c:Nat->Rat)(v:Nat->Nat->Rat):∀s,fp n (iy m r λj=>cj (λk=>c k*v k j) s)=cj (λk=>c k*fp n (iy m r (v k))) s
 |0=>Jx h
 |s+1=>by
  have Y:=rJ (c s) n r m h (λj=>cj (λk=>c k*v k j) s) (v s);rw[FW h c v s]at Y;exact Y
def Ia{n a b:Nat}{m:Mx}(N:b<n)(TR:a<b)(L:∀j,j<n->m a j=m b j):fp n m=0:=by
 obtain⟨b,rfl⟩:∃k,b=k+1:=⟨b-1,be⟩
 cases a with
 |zero=>exact pZ b n m N L
 |succ a=>
  have Y:=Jt (m:=m) (k:=a) (n:=n) be;rw[pZ b n _ N λj hj=>?_]at Y
  .grind
  .rw[show xo 0 (a+1) 0=a+1 by unfold xo;rw[aM rfl],show xo 0 (a+1) (b+1)=b+1 by unfold xo;rw[aJ be,aJ be]];exact L j hj
def Lc{n a b:Nat}{m:Mx}(ha:a<n)(N:b<n)(TR:a≠b)(L:∀j,j<n->m a j=m b j):fp n m=0:=by
 rcases Nat.lt_or_gt_of_ne TR with h|h
 .exact Ia N h L
 .exact Ia ha h λj hj=>(L j hj).symm
section
variable{EQ E9:Mx}{p:Nat->Nat}{r n:Nat}{v:Nat->Rat}
def tO(E9:Mx)(p:Nat->Nat)(r:Nat):Rat:=fp r λj i=>E9 (r-1-i) (p (r-1-j))
end
structure Crm(EQ:Mx)(p:Nat->Nat)(r n B:Nat)(E9:Mx):Prop where
 ru:Ru EQ p r n
 sp:∀i,i<r->gg EQ r n (E9 i)
 ib:∀i t,i<r->t<n->Ib B (E9 i t)
 nz:tO E9 p r≠0
section
variable{EQ E9:Mx}{p:Nat->Nat}{r n B k:Nat}{v u:Nat->Rat}
end
structure aB9(M:List (List Rat))(n B i:Nat)(s:PK)(p:Nat->Nat)(E9:Mx):Prop where
 ok:aA2 n n i s
 gP:∀k,k<n->∀r:Nat,s.2.1[k]? =some (some r)↔r<s.1.length/\p r=k
 crm:Crm (dR s.1) p s.1.length n B E9
 up:∀r,r<s.1.length->gg (dR M) i n (dR s.1 r)
 dn:∀j,j<i->gg (dR s.1) s.1.length n (dR M j)
section
variable{M:List (List Rat)}{n B i:Nat}{s:PK}{p:Nat->Nat}{E9:Mx}
end
def Bx{α:Type}{a b:List α}(d:α)(hl:a.length=b.length)(h:∀i,i<a.length->a.getD i d=b.getD i d):a=b:=by
 refine List.ext_getElem hl λi Y I=>?_;have:=h i Y
 rwa [List.getD,List.getD,aE Y,aE I]at this
structure ElI(M:List (List Rat))(n B c:Nat)(s:List (List Rat)×List Nat)(σ:Nat->Nat)(E9:Mx):Prop where
 red:Red n c s
 mon:aBH s
 len:s.1.length=M.length
 crm:Crm (dR s.1) (λi=>s.2.getD i 0) s.2.length n B E9
 org:∀j,j<M.length->σ j<M.length
 rest:∀j,s.2.length<=j->j<M.length->∀t,t<n->dR s.1 j t=clr (dR s.1) (λi=>s.2.getD i 0) s.2.length (dR M (σ j)) n t
end Go.Ex
