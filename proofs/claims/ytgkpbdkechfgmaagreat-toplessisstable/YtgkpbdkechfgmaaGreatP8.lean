/- Texts X76 to X101: lemmas, each with its conditions. -/
import Derived.Test.YtgkpbdkechfgmaaGreatP7
namespace Go.Ex
open Go Go.Sx Go.Proofs
variable{A:List (List Value)}{xs ys:List Rat}{U:List Value}{S:Nat->Prop}{O:Nat->Sx.dL}{b:Rat}{w:World}
def Aq(w:World)(S:Nat->Prop)(A:List (List Value))(qs:List Rat):Prop:=∀(j:Nat) U q,A[j]? =some U->qs[j]? =some q->jA w S U q
section
variable{S S':Nat->Prop}{H:Hp}{nx:Nat}{iv E:Iv}{B:Nat}{w J V:World}{O:Nat->Sx.dL}{A:List (List Value)}{qs:List Rat}
theorem Aq.rel(h:Aq w (Cv S B iv) A qs)(r:Rel H nx iv B w O J)(F:∀g,S g->g<B):Aq J (Cv S B iv) A qs:=fun j U q I X=>(h j U q I X).cC fun _ G=>Rel.same r F G
theorem Aq.cD(h:Aq w (Cv S B iv) A qs)(r:Rel H nx iv B w O J)(F:∀g,S g->g<B)(W:Ext J V)(hm:∀p,p∈iv->p∈E):Aq V (Cv S B E) A qs:=fun j U q I X=>
 (((h.rel r F) j U q I X).cC fun g G=>W.block g (Rel.old r F g G)).cF fun _ G=>G.mono hm
theorem Aq.push{q:Rat}(h:Aq w S A qs)(hq:qs[A.length]? =some q)(hc:jA w S U q):Aq w S (A++[U]) qs:=fun j cs' q' I X=>by
 rcases aP j A.length with hj|hj
 ·rw[aJ hj]at I;exact h j cs' q' I X
 ·have hj0:j=A.length:=by have:=(aD.1 I).1;simp at this;omega
  subst hj0;rw[aN (Nat.le_refl _),bB]at I;simp at I;rw[hq]at X;injection X with X;subst I X;exact hc
end
theorem AN(h:∀x∈A,x.length=4/\∀u∈x,u.oneCell'=true)(hc:U.length=4/\∀u∈U,u.oneCell'=true):∀x∈A++[U],x.length=4/\∀u∈x,u.oneCell'=true:=fun x L=>by
 rcases List.mem_append.1 L with L|L
 ·exact h x L
 ·simp at L;subst L;exact hc
def aA3(w V:World)(v:Value)(xs:List Rat):Prop:=∃A:List (List Value),V.ownsRow w.heap.size T.Rat 4 v xs.length A.flatten/\A.length=xs.length/\(∀U∈A,U.length=4/\∀u∈U,u.oneCell'=true)/\∀(j:Nat) U q,A[j]? =some U->xs[j]? =some q->jA V (fun g=>Nf w V g/\v.ownBlock≠some g) U q
theorem NA{id n g:Nat}(h:((At.w id n).den O).ownBlock=some g):(O id).nil=false/\(O id).g=g:=by
 cases Z:(O id).nil with
 |true=>rw[show (At.w id n).den O= .slice none 0 0 by simp[At.den,Z]]at h;cases h
 |false=>
  rw[show (At.w id n).den O= .slice (some ⟨(O id).g,0,none⟩) n (O id).cap by simp[At.den,Z]]at h;injection h with h;exact⟨rfl,h⟩
def qO(xs ys:List Rat)(b:Rat):List Rat:=(List.range ys.length).map fun j=>if 0<xs.length then xs.getD j 0+ys.getD j 0*b else ys.getD j 0*b
theorem uZ(xs ys:List Rat)(b:Rat):(qO xs ys b).length=ys.length:=by simp[qO]
theorem Bw{j:Nat}(h:j<ys.length):(qO xs ys b)[j]? =some (if 0<xs.length then xs.getD j 0+ys.getD j 0*b else ys.getD j 0*b):=by
 rw[qO,aM,bZ h];rfl
theorem LZ{v u t:Value}(F:Old S w)(L:dM w S v xs)(hy:dM w S u ys)(hb:eJ w S t b)(hlen:xs=[]\/xs.length=ys.length)(Z:ys.length<=1000000)(hbound:∀y∈ys,rl y+rl b<=100000):
  dx PG F'.sQ #[v,u,t] w (eH w fun v' V=>cS V (Nf w V) v' (qO xs ys b)/\aA3 w V v' (qO xs ys b)):=by
 have Y:=bR w;obtain⟨ax,cx,rfl,UM,UN⟩:=eD.shape L;obtain⟨ay,cy,rfl,hcy,hmy⟩:=eD.shape hy;obtain⟨t0,t1,t2,t3,t4,t5,t6,t7,rfl⟩:=hb.shape;have Pj:=uZ xs ys b;refine AY (by simp) ?_
 refine⟨List (List Value)×World×Iv,fun z=>⟨[(0,sV ax xs.length cx),(1,sV ay ys.length cy),(5,pP 0 0),(7,.o (.w 1 z.1.length)),(8,iZ z.1.length)],[(1,.vec T.Rat 4 z.1.flatten),(0,.box T.Rat [.v (.bool t0),.v (.slice t1 t2 t3),.v (.bool t4),.v (.slice t5 t6 t7)])],2,z.2.2,z.2.1⟩,fun z=>ys.length-z.1.length,
  fun z=>z.1.length<=ys.length/\dT w.heap.size w z.2.1/\(∀x∈z.1,x.length=4/\∀u∈x,u.oneCell'=true)/\Aq z.2.1 (Cf w z.2.2) z.1 (qO xs ys b),?_,?_⟩
 ·intro O J r
  exact⟨([],J,[]),⟨by simp,r.cL,by simp,fun j U q h=>by simp at h⟩,Sub.nil 7 T.Rat 4 rfl (by simp[l5,SV.sc,At.sc,iW]) r fun In r1=>
   Sub.gn [] r1⟩
 clear Y;rintro⟨A,w1,iv⟩ ⟨D,Y,h4,Q4⟩;dsimp only at D Y h4 Q4 ⊢;have Ot:=eo fun x L=>(h4 x L).1;refine dB.mk ?_ ?_<;>intro OQ
 ·have OQ:A.length<ys.length:=by simpa using OQ
  obtain⟨y,Va⟩:∃y,ys[A.length]? =some y:=⟨_,aB OQ⟩
  obtain⟨ady,csy,Ud,RR,_,Q3⟩:=eD.load hy Va;obtain⟨p0,p1,p2,p3,p4,p5,p6,p7,rfl,RR⟩:=RR;have hyd:ys.getD A.length 0=y:=by rw[List.getD,Va];rfl
  have WI:=Bw (xs:=xs) (b:=b) OQ;rw[hyd]at WI;have Pf:=hbound y (aE Va);have hrm:=hJ y b;refine dB.mk ?_ ?_<;>intro Ri
  ·have Ri:0<xs.length:=by have:=aK Ri;omega
   have QC:A.length<xs.length:=hlen.elim (fun h=>by rw[h]at Ri;simp at Ri) (fun h=>by omega);obtain⟨x,Pz⟩:∃x,xs[A.length]? =some x:=⟨_,aB QC⟩
   obtain⟨adx,csx,Pu,Qg,_,Pt⟩:=eD.load L Pz;obtain⟨q0,q1,q2,q3,q4,q5,q6,q7,rfl,Qg⟩:=Qg;have Uf:xs.getD A.length 0=x:=by rw[List.getD,Pz];rfl
   rw[if_pos Ri,Uf]at WI;refine⟨ady,Ud,by omega,[.bool p0,.slice p1 p2 p3,.bool p4,.slice p5 p6 p7],rfl,fun O J r i x L=>?_,?_⟩
   ·obtain⟨k1,k2⟩:=Q3 i x L;rw[aF,cJ (w:=w) (V:=J) (by rw[c9,c9];exact(Y.tr r.cL).block _ (F _ k1))];exact k2
   refine cB (cE Y (fun _ J v V=>v= .int .i64 (rs y)) (fun O J r=>Gp (oS F r) (RR.cC (kS Y r F))) ?_);rintro O PQ v1 PE OZ r W Y h_ rfl;replace Q4:=Q4.cD r (bw w) W (mC h_);clear r;refine dB.mk ?_ ?_<;>intro hs
   ·have hs:y=0:=oN.1 (by simpa using hs);rw[hs,bC,bD]at WI;refine⟨adx,Pu,by omega,[.bool q0,.slice q1 q2 q3,.bool q4,.slice q5 q6 q7],rfl,fun O J r i x L=>?_,?_⟩
    ·obtain⟨k1,k2⟩:=Pt i x L;rw[aF,cJ (w:=w) (V:=J) (by rw[c9,c9];exact(Y.tr r.cL).block _ (F _ k1))];exact k2
    refine cB (cE Y (fun _ J v V=>cN V (Nf J V) v (x)) (fun O J r=>iy (oS F r) (Qg.cC (kS Y r F))) ?_);rintro O QK v2 PT OU r W Y h_ Z;replace Q4:=Q4.cD r (bw w) W (mC h_);have UE:=Z.dD (S:=FF) r.bz (mN h_);clear r Z;obtain⟨A0,A1,A2,A3,A4,A5,A6,A7,rfl⟩:=UE.shape;refine .inl ?_;refine⟨Ot,by omega,by unfold maxLen;omega,((A.length+1:Nat):Int),wo,?_⟩;intro IR w3 K;have QH:(A++[[Value.bool A0,.slice A1 A2 A3,.bool A4,.slice A5 A6 A7]]).length=A.length+1:=by simp
    have hf3:(A++[[Value.bool A0,.slice A1 A2 A3,.bool A4,.slice A5 A6 A7]]).flatten=A.flatten++[Value.bool A0,.slice A1 A2 A3,.bool A4,.slice A5 A6 A7]:=by simp
    exact⟨(A++[[.bool A0,.slice A1 A2 A3,.bool A4,.slice A5 A6 A7]],w3,_),⟨by dsimp only;rw[QH];exact OQ,Y.tr K.cL,AN h4 ⟨rfl,by intro u hu;simp at hu;rcases hu with rfl|rfl|rfl|rfl<;>rfl⟩,(Q4.rel K (bw w)).push WI (UE.rel K (bw w)).uK⟩,
     Sub.gn [(1,3)] K ⟨by dsimp only;rw[hf3];rfl,rfl,trivial⟩ ⟨rfl,rfl,rfl,by dsimp only;rw[QH];rfl,by dsimp only;rw[QH];rfl,trivial⟩,by dsimp only;rw[QH];omega⟩
   refine cI hτ dN [.x 0,.x 1,.x 2,.x 3,.x 4,.p 6,.x 5,.x 6,.x 7] (by kernel_rfl) (by kernel_rfl) ?_;refine⟨ady,Ud,by omega,[.bool p0,.slice p1 p2 p3,.bool p4,.slice p5 p6 p7],rfl,fun O J r i x L=>?_,?_⟩
   ·obtain⟨k1,k2⟩:=Q3 i x L;rw[aF,cJ (w:=w) (V:=J) (by rw[c9,c9];exact(Y.tr r.cL).block _ (F _ k1))];exact k2
   refine cE Y (fun _ J v V=>cN V (Nf J V) v (y*b)) (fun O J r=>LY (oS F r) (RR.cC (kS Y r F)) (hb.cC (kS Y r F))) ?_;rintro O _ _ _ OU r W Y h_ Z;replace Q4:=Q4.cD r (bw w) W (mC h_);have hm:=Z.dD (S:=FF) r.bz (mN h_);clear r Z;obtain⟨A0,A1,A2,A3,A4,A5,A6,A7,rfl⟩:=hm.shape;refine dB.mk (fun Ro=>?_) (fun Ro=>absurd Ri (by have:=aH Ro;omega));refine cI hτ dN [.x 0,.x 1,.x 2,.x 3,.x 4,.x 5,.x 6] (by kernel_rfl) (by kernel_rfl) ?_;refine⟨adx,Pu,by omega,[.bool q0,.slice q1 q2 q3,.bool q4,.slice q5 q6 q7],rfl,fun O J r i x L=>?_,?_⟩
   ·obtain⟨k1,k2⟩:=Pt i x L;rw[aF,cJ (w:=w) (V:=J) (by rw[c9,c9];exact(Y.tr r.cL).block _ (F _ k1))];exact k2
   refine cE Y (fun _ J v V=>cN V (Nf J V) v (x+y*b)) (fun O J r=>Nr (Rel.old r F) ((Qg.cC (kS Y r F)).cF fun g G=>Or.inl G) (((hm.rel r (bw w)).l (by omega)).cF fun g G=>Cv.false G)) ?_;rintro O _ _ _ Oi r W Y h_ Z;replace Q4:=Q4.cD r (bw w) W (mC h_);clear hm;have UE:=Z.dD (S:=FF) r.bz (mN h_);clear r Z;obtain⟨C0,C1,C2,C3,C4,C5,C6,C7,rfl⟩:=UE.shape;refine .inl ?_;refine⟨Ot,by omega,by unfold maxLen;omega,((A.length+1:Nat):Int),wo,?_⟩;intro IR w3 K;have QH:(A++[[Value.bool C0,.slice C1 C2 C3,.bool C4,.slice C5 C6 C7]]).length=A.length+1:=by simp
   have hf3:(A++[[Value.bool C0,.slice C1 C2 C3,.bool C4,.slice C5 C6 C7]]).flatten=A.flatten++[Value.bool C0,.slice C1 C2 C3,.bool C4,.slice C5 C6 C7]:=by simp
   exact⟨(A++[[.bool C0,.slice C1 C2 C3,.bool C4,.slice C5 C6 C7]],w3,_),⟨by dsimp only;rw[QH];exact OQ,Y.tr K.cL,AN h4 ⟨rfl,by intro u hu;simp at hu;rcases hu with rfl|rfl|rfl|rfl<;>rfl⟩,(Q4.rel K (bw w)).push WI (UE.rel K (bw w)).uK⟩,
    Sub.gn [(1,4)] K ⟨by dsimp only;rw[hf3];rfl,rfl,trivial⟩ ⟨rfl,rfl,rfl,by dsimp only;rw[QH];rfl,by dsimp only;rw[QH];rfl,trivial⟩,by dsimp only;rw[QH];omega⟩
  have Ri:¬0<xs.length:=by have:=aH Ri;omega
  rw[aI Ri]at WI;refine cI hτ dN [.x 0,.x 1,.x 2,.x 3,.x 4,.p 6,.x 5,.x 6,.x 7] (by kernel_rfl) (by kernel_rfl) ?_;refine⟨ady,Ud,by omega,[.bool p0,.slice p1 p2 p3,.bool p4,.slice p5 p6 p7],rfl,fun O J r i x L=>?_,?_⟩
  ·obtain⟨k1,k2⟩:=Q3 i x L;rw[aF,cJ (w:=w) (V:=J) (by rw[c9,c9];exact(Y.tr r.cL).block _ (F _ k1))];exact k2
  refine cE Y (fun _ J v V=>cN V (Nf J V) v (y*b)) (fun O J r=>LY (oS F r) (RR.cC (kS Y r F)) (hb.cC (kS Y r F))) ?_;rintro O _ _ _ OZ r W Y h_ Z;replace Q4:=Q4.cD r (bw w) W (mC h_);have hm:=Z.dD (S:=FF) r.bz (mN h_);clear r Z;obtain⟨E0,E1,E2,E3,E4,E5,E6,E7,rfl⟩:=hm.shape;refine dB.mk (fun Ro=>absurd (aK Ro) (by omega)) (fun Ro=>?_);refine .inl ?_;refine⟨Ot,by omega,by unfold maxLen;omega,((A.length+1:Nat):Int),wo,?_⟩;intro IR w3 K;have QH:(A++[[Value.bool E0,.slice E1 E2 E3,.bool E4,.slice E5 E6 E7]]).length=A.length+1:=by simp
  have hf3:(A++[[Value.bool E0,.slice E1 E2 E3,.bool E4,.slice E5 E6 E7]]).flatten=A.flatten++[Value.bool E0,.slice E1 E2 E3,.bool E4,.slice E5 E6 E7]:=by simp
  exact⟨(A++[[.bool E0,.slice E1 E2 E3,.bool E4,.slice E5 E6 E7]],w3,_),⟨by dsimp only;rw[QH];exact OQ,Y.tr K.cL,AN h4 ⟨rfl,by intro u hu;simp at hu;rcases hu with rfl|rfl|rfl|rfl<;>rfl⟩,(Q4.rel K (bw w)).push WI (hm.rel K (bw w)).uK⟩,
   Sub.gn [(1,4)] K ⟨by dsimp only;rw[hf3];rfl,rfl,trivial⟩ ⟨rfl,rfl,rfl,by dsimp only;rw[QH];rfl,by dsimp only;rw[QH];rfl,trivial⟩,by dsimp only;rw[QH];omega⟩
 have OQ:A.length=ys.length:=aU D (by simpa using OQ);intro GT we re;have PK:∀u∈A.flatten,u.oneCell'=true:=fun u hu=>by
  obtain⟨U,hc,hu⟩:=List.mem_flatten.1 hu;exact(h4 U hc).2 u hu
 refine⟨_,rfl,Y.tr re.cL,?_,A,by rw[Pj,<-OQ];exact Dd re (id:=1) rfl Ot (by decide),by rw[Pj];exact OQ,h4,fun j U q k1 k2=>((Q4 j U q k1 k2).cC fun g G=>Rel.same re (bw w) G).cF fun g G=>⟨Cv.nw G re,fun e=>Rel.not re (bw w) G 1 _ rfl (NA e).1 (NA e).2⟩⟩;refine⟨A,?_,by rw[Pj];exact OQ,fun U hc=>(h4 U hc).1,fun j U q k1 k2=>((Q4 j U q k1 k2).cC fun g G=>Rel.same re (bw w) G).cF fun g G=>Cv.nw G re⟩;have:=re.kQ (id:=1) (sz:=4) (m:=A.length) rfl Ot (by unfold maxLen;omega) (by decide) PK;rw[Pj,<-OQ];exact this.cF fun g G=>.inr G
theorem Hi{v u t:Value}(F:Old S w)(L:dM w S v xs)(hy:dM w S u ys)(hb:eJ w S t b)(hlen:xs=[]\/xs.length=ys.length)(Z:ys.length<=1000000)(hbound:∀y∈ys,rl y+rl b<=100000):
  dx PG F'.sQ #[v,u,t] w (eH w fun v' V=>cS V (Nf w V) v' (qO xs ys b)):=
 (LZ F L hy hb hlen Z hbound).mono fun _ _ ⟨v2,e1,e2,e3,_⟩=>⟨v2,e1,e2,e3⟩
end Go.Ex
namespace Go.Ex
variable{M:List (List Rat)}{s:List (List Rat)×List Nat}
theorem FZ{c r k FS:Nat}(R:r<=k)(hR:k<=FS)(h:∀j,r<=j->j<k->cW M j c=0):iO M c (FS-r) r=iO M c (FS-k) k:=by
 induction k with
 |zero=>
  have:r=0:=by omega
  subst this;rfl
 |succ k ih=>
  rcases aP k r with I|I
  ·have:r=k+1:=by omega
   subst this;rfl
  ·rw[ih I (by omega) fun j X N=>h j X (by omega),show FS-k=(FS-(k+1))+1 by omega,Fa (h k I (by omega))]
theorem jt{α:Type}{l:List α}{i:Nat}{x:α}(h:i<l.length):l.take i++[x]++l.drop (i+1)=l.set i x:=by
 rw[List.set_eq_take_append_cons_drop,if_pos h];simp
theorem Fb{c:Nat}(h:¬s.2.length<s.1.length\/iO s.1 c (s.1.length-s.2.length) s.2.length=s.1.length):dg s c=s:=by
 unfold dg;split
 ·rcases h with h|h
  ·exact absurd ‹_› h
  ·dsimp only;rw[if_pos h]
 ·rfl
theorem Fe{c k:Nat}(R:s.2.length<=k)(hl:k<s.1.length)(h:∀j,s.2.length<=j->j<k->cW s.1 j c=0)(Z:cW s.1 k c≠0):
  dg s c=(iP (scaled (fV [] s.1 s.2.length k) s.2.length c) s.2.length c s.1.length,s.2++[c]):=by
 have e:iO s.1 c (s.1.length-s.2.length) s.2.length=k:=by
  rw[FZ R (by omega) h,show s.1.length-k=(s.1.length-k-1)+1 by omega,Ff Z]
 unfold dg;rw[if_pos (by omega)];dsimp only
 rw[e,aI (by omega),rO,j8]
end Go.Ex
namespace Go.Ex
open Go Go.Sx Go.Proofs
variable{qs:List Rat}{S:Nat->Prop}
theorem Bm(ys:List Rat)(b:Rat):qO [] ys b=ys.map (· *b):=by
 refine bG fun j=>?_;rcases aP j ys.length with h|h
 ·rw[Bw h,aI (by simp),aM,List.getD,aB h];rfl
 ·rw[List.getElem?_eq_none (by rw[uZ];exact h),List.getElem?_eq_none (by simp;exact h)]
theorem cS.l{w:World}{v:Value}(h:cS w S v qs)(hq:∀q∈qs,rl q<=100000):dM w S v qs:=by
 obtain⟨A,I,X,N,h4⟩:=h;refine⟨A,I,X,N,fun j U q k1 k2=>?_⟩;obtain⟨b,a,n,c,b2,a2,n2,c2,e,hc⟩:=h4 j U q k1 k2;exact⟨b,a,n,c,b2,a2,n2,c2,e,hc.l (hq q (aE k2))⟩
theorem dM.nil(w:World)(S:Nat->Prop):dM w S (.slice none 0 0) []:=⟨[],⟨by simp,by simp,by simp,none,0,rfl,Nat.le_refl _,by simp⟩,rfl,by simp,by simp⟩
section
variable{S S':Nat->Prop}{H:Hp}{nx:Nat}{iv E:Iv}{B:Nat}{w J V:World}{O:Nat->Sx.dL}{rv:List Value}{M:List (List Rat)}
end
end Go.Ex
namespace Go.Ex
variable{M:List (List Rat)}{s:List (List Rat)×List Nat}{r:List Rat}{w:Nat}{p x:Rat}
theorem IF{c:Nat}(h:c<w):(r.take w).getD c 0=r.getD c 0:=by
 simp only[List.getD,List.getElem?_take,if_pos h]
def tk(w:Nat)(M:List (List Rat)):List (List Rat):=M.map (·.take w)
theorem IG(w:Nat)(M:List (List Rat)):(tk w M).length=M.length:=aL ..
theorem Ll(w:Nat)(M:List (List Rat))(i:Nat):(tk w M).getD i []=(M.getD i []).take w:=by
 unfold tk;simp only[List.getD,aM]
 cases M[i]? <;>simp
theorem NN{i c:Nat}(h:c<w):cW (tk w M) i c=cW M i c:=by
 unfold cW;rw[Ll,IF h]
theorem fp(M:List (List Rat))(cols:Nat):(cK M cols).1.length=M.length:=by
 have key:∀(l:List Nat) (s:List (List Rat)×List Nat),(l.foldl dg s).1.length=s.1.length:=by
  intro l
  induction l with
  |nil=>exact fun s=>rfl
  |cons c l ih=>exact fun s=>by rw[List.foldl_cons,ih,n9]
 exact key _ _
theorem sC{M:List (List Rat)}{c:Nat}:∀f k j,k<=j->j<iO M c f k->cW M j c=0
 |0,k,j,I,X=>by simp only[iO]at X;omega
 |f+1,k,j,I,X=>by
  unfold iO at X;split at X
  ·rename_i h0;rcases aP k j with h|h
   ·exact sC f (k+1) j h X
   ·rw[show j=k by omega];exact h0
  ·omega
theorem kE(c:Nat)(hle:s.2.length<=s.1.length):(dg s c=s/\∀j,s.2.length<=j->j<s.1.length->cW s.1 j c=0)\/
  ∃k,s.2.length<=k/\k<s.1.length/\cW s.1 k c≠0/\dg s c=(iP (scaled (fV [] s.1 s.2.length k) s.2.length c) s.2.length c s.1.length,s.2++[c]):=by
 have I:=yO s.1 c (s.1.length-s.2.length) s.2.length;by_cases R:iO s.1 c (s.1.length-s.2.length) s.2.length=s.1.length
 ·exact .inl ⟨Fb (.inr R),fun j hj hl=>sC (s.1.length-s.2.length) s.2.length j hj (by omega)⟩
 ·exact .inr ⟨_,I.1,by omega,yP s.1 c _ _ (by omega),Fe I.1 (by omega) (fun j X N=>sC _ _ j X N) (yP s.1 c _ _ (by omega))⟩
theorem Di{i:Nat}(h:i<M.length):M.getD i []∈M:=by
 rw[List.getD,aB h];exact aX h
theorem uu{s:List Rat}{c:Nat}(h:c<r.length):(r.mapIdx (rE p s)).getD c 0=r.getD c 0+p*s.getD c 0:=by
 simp only[List.getD,List.getElem?_mapIdx,aB h]
 rfl
theorem yQ{k:Rat}{c:Nat}:(r.map (· *k)).getD c 0=r.getD c 0*k:=by
 simp only[List.getD,aM]
 cases r[c]? with
 |none=>exact(bC k).symm
 |some q=>rfl
theorem nc{c k n:Nat}(hl:gh n s.1)(I:s.2.length<=k)(X:k<s.1.length)(N:cW s.1 k c≠0)(e:dg s c=(iP (scaled (fV [] s.1 s.2.length k) s.2.length c) s.2.length c s.1.length,s.2++[c])):
  (∀t,cW (dg s c).1 s.2.length t=cW s.1 k t*(1 / cW s.1 k c))/\
  ∀j,j<s.1.length->j≠s.2.length->∀t,t<n->cW (dg s c).1 j t=cW s.1 (if j=k then s.2.length else j) t+ -(cW s.1 (if j=k then s.2.length else j) c)*(cW s.1 k t*(1 / cW s.1 k c)):=by
 have hp:s.2.length<s.1.length:=by omega
 have hsw:cW (fV [] s.1 s.2.length k) s.2.length c=cW s.1 k c:=Dj hp X;have UF:(scaled (fV [] s.1 s.2.length k) s.2.length c).getD s.2.length []=(s.1.getD k []).map (· *(1 / cW s.1 k c)):=by
  unfold scaled;rw[hsw,List.getD,aO (by rw[j8];exact hp)];simp only[Option.getD_some]
  congr 1;rw[List.getD,List.getD,BJ hp X]
 have OR:∀j,j<s.1.length->j≠s.2.length->(scaled (fV [] s.1 s.2.length k) s.2.length c)[j]? =some (s.1.getD (if j=k then s.2.length else j) []):=fun j hj OS=>by
  unfold scaled;rw[aT (Ne.symm OS)];unfold fV;by_cases Rz:j=k
  ·subst Rz;rw[aO (by simpa using hj),if_pos rfl]
  ·rw[aT (Ne.symm Rz),aT (Ne.symm OS),aI Rz,List.getD,aB hj];rfl
 have hgp:(iP (scaled (fV [] s.1 s.2.length k) s.2.length c) s.2.length c s.1.length).getD s.2.length []=(s.1.getD k []).map (· *(1 / cW s.1 k c)):=by
  rw[<-UF];simp only[List.getD,Fg]
 rw[e];refine⟨fun t=>?_,fun j hj OS t ht=>?_⟩
 ·show((iP (scaled (fV [] s.1 s.2.length k) s.2.length c) s.2.length c s.1.length).getD s.2.length []).getD t 0=_;rw[hgp,yQ];rfl
 ·have hgj:(iP (scaled (fV [] s.1 s.2.length k) s.2.length c) s.2.length c s.1.length).getD j []=(s.1.getD (if j=k then s.2.length else j) []).mapIdx (rE (-((s.1.getD (if j=k then s.2.length else j) []).getD c 0)) ((s.1.getD k []).map (· *(1 / cW s.1 k c)))):=by
   simp only[List.getD,iP,List.getElem?_mapIdx,OR j hj OS,bY,Option.getD_some]
   rw[if_pos ⟨hj,OS⟩];exact congrArg (fun P=>(s.1.getD (if j=k then s.2.length else j) []).mapIdx (rE (-((s.1.getD (if j=k then s.2.length else j) []).getD c 0)) P)) UF
  show((iP (scaled (fV [] s.1 s.2.length k) s.2.length c) s.2.length c s.1.length).getD j []).getD t 0=_;rw[hgj,uu (by rw[hl.getD (by split<;>omega)];exact ht),yQ];rfl
theorem yR(h:x≠0):x*(1 / x)=1:=by rw[bK,bm,Rat.mul_inv_cancel x h]
def Nt(n c:Nat)(s:List (List Rat)×List Nat):Prop:=gh n s.1/\s.2.length<=s.1.length/\(∀j t,s.2.length<=j->j<s.1.length->t<c->cW s.1 j t=0)/\(∀p∈s.2,p<c)/\
 ∀i j,i<s.2.length->j<s.1.length->cW s.1 j (s.2.getD i 0)=if j=i then 1 else 0
theorem Nt.step{n c:Nat}(h:Nt n c s)(hc:c<n):Nt n (c+1) (dg s c):=by
 obtain⟨hl,hle,hz,Qe,hu⟩:=h;rcases kE c hle with⟨e,h0⟩|⟨k,I,X,N,e⟩
 ·rw[e];refine⟨hl,hle,fun j t hj Sr ht=>?_,fun p hp=>by have:=Qe p hp;omega,hu⟩;rcases aP t c with h|h
  ·exact hz j t hj Sr h
  ·rw[show t=c by omega];exact h0 j hj Sr
 ·obtain⟨r1,r2⟩:=nc hl I X N e;have hlen:(dg s c).1.length=s.1.length:=n9 s c;have e2:(dg s c).2=s.2++[c]:=by rw[e]
  have e3:(dg s c).2.length=s.2.length+1:=by rw[e2];simp
  have PK:∀j,j<s.1.length->j≠s.2.length->cW (dg s c).1 j c=0:=fun j hj OS=>by
   rw[r2 j hj OS c hc,yR N,Rat.mul_one,Rat.add_neg_cancel]
  refine⟨hl.step,by rw[e3,hlen];omega,fun j t hj Sr ht=>?_,fun p hp=>?_,fun i j D hj=>?_⟩
  ·rw[e3]at hj;rw[hlen]at Sr;rcases aP t c with h|h
   ·rw[r2 j Sr (by omega) t (by omega),hz k t I X h,hz (if j=k then s.2.length else j) t (by split<;>omega) (by split<;>omega) h,bC,az,Rat.zero_add]
   ·rw[show t=c by omega];exact PK j Sr (by omega)
  ·rw[e2]at hp;rcases List.mem_append.1 hp with hp|hp
   ·have:=Qe p hp;omega
   ·rw[bF.1 hp];omega
  ·rw[e3]at D;rw[hlen]at hj;rcases aP i s.2.length with h|h
   ·have G:(dg s c).2.getD i 0=s.2.getD i 0:=by rw[e2,List.getD,aJ h,<-List.getD]
    have hpm:s.2.getD i 0<c:=Qe _ (by rw[List.getD,aB h];exact aX h);have Um:cW s.1 k (s.2.getD i 0)=0:=hz k _ I X hpm;rw[G];by_cases hjp:j=s.2.length
    ·rw[hjp,r1,Um,bC,aI (by omega)]
    ·rw[r2 j hj hjp _ (by omega),Um,bC,az,bD];by_cases Rz:j=k
     ·rw[if_pos Rz,hu i _ h (by omega),aI (by omega),aI (by omega)]
     ·rw[aI Rz,hu i j h hj]
   ·have G:(dg s c).2.getD i 0=c:=by rw[e2,List.getD,aN h,show i-s.2.length=0 by omega];rfl
    rw[G];by_cases hjp:j=s.2.length
    ·rw[hjp,r1,yR N,if_pos (by omega)]
    ·rw[PK j hj hjp,aI (by omega)]
theorem eK{M:List (List Rat)}{n:Nat}(hl:gh n M):∀cols,cols<=n->Nt n cols (cK M cols)
 |0,_=>⟨hl,aS _,fun _ _ _ _ h=>by omega,fun p hp=>(by cases hp),fun _ _ h=>(by cases h)⟩
 |c+1,h=>by
  have ih:=eK hl c (by omega);unfold cK at ih ⊢;rw[bW,List.foldl_append];exact ih.step (by omega)
abbrev Mx:=Nat->Nat->Rat
def skip(k j:Nat):Nat:=if j<k then j else j+1
def qc(k:Nat):Rat:=if k % 2=1 then -1 else 1
def cQ(f:Nat->Rat):Nat->Rat
 |0=>0
 |n+1=>cQ f n+f n
def eV:Nat->Mx->Rat
 |0,_=>1
 |n+1,m=>cQ (fun k=>qc k*(m 0 k*eV n fun i j=>m (i+1) (skip k j))) (n+1)
theorem cH{f g:Nat->Rat}:∀{n:Nat},(∀k,k<n->f k=g k)->cQ f n=cQ g n
 |0,_=>rfl
 |n+1,h=>by rw[cQ,cQ,cH fun k R=>h k (by omega),h n (by omega)]
theorem dU:∀(n:Nat),cQ (fun _=>0) n=0
 |0=>rfl
 |n+1=>by rw[cQ,dU n,bD]
theorem fK(f g:Nat->Rat):∀(n:Nat),cQ (fun k=>f k+g k) n=cQ f n+cQ g n
 |0=>(bD 0).symm
 |n+1=>by rw[cQ,cQ,cQ,fK f g n];grind
theorem dY(p:Rat)(f:Nat->Rat):∀(n:Nat),cQ (fun k=>p*f k) n=p*cQ f n
 |0=>(az p).symm
 |n+1=>by rw[cQ,cQ,dY p f n];grind
theorem tI(f:Nat->Rat)(n:Nat):cQ (fun k=> -f k) n= -cQ f n:=by
 have h:=dY (-1) f n;rw[show (-1:Rat)*cQ f n= -cQ f n by grind]at h;rw[<-h];exact cH fun k _=>by grind
theorem jQ(f:Nat->Rat):∀(n:Nat),cQ f (n+1)=f 0+cQ (fun k=>f (k+1)) n
 |0=>by show 0+f 0=f 0+0;grind
 |n+1=>by rw[cQ,jQ f n,cQ];grind
theorem HA{k j n:Nat}(h:j<n):skip k j<n+1:=by unfold skip;split<;>omega
theorem IH{k l:Nat}(h:k<=l)(j:Nat):skip k (skip l j)=skip (l+1) (skip k j):=by
 unfold skip;grind
theorem eh:∀{n:Nat} {m m':Mx},(∀i j,i<n->j<n->m i j=m' i j)->eV n m=eV n m'
 |0,_,_,_=>rfl
 |n+1,m,m',h=>by
  unfold eV;refine cH fun k R=>?_;rw[h 0 k (by omega) R,eh fun i j D hj=>h (i+1) (skip k j) (by omega) (HA hj)]
def fh(m:Mx)(r:Nat)(u:Nat->Rat):Mx:=fun i j=>if i=r then u j else m i j
theorem uv(m:Mx)(r k:Nat)(u:Nat->Rat):(fun i j=>fh m (r+1) u (i+1) (skip k j))=fh (fun i j=>m (i+1) (skip k j)) r fun j=>u (skip k j):=by
 funext i j
 unfold fh;by_cases h:i=r
 ·rw[if_pos h,if_pos (by omega)]
 ·rw[aI h,aI (by omega)]
theorem ky(p:Rat):∀(n r:Nat) (m:Mx),r<n->∀(u v:Nat->Rat),eV n (fh m r fun j=>u j+p*v j)=eV n (fh m r u)+p*eV n (fh m r v)
 |0,_,_,h,_,_=>by omega
 |n+1,0,m,_,u,v=>by
  unfold eV;rw[<-dY,<-fK];refine cH fun k _=>?_;have e:∀x:Nat->Rat,(fun i j=>fh m 0 x (i+1) (skip k j))=fun i j=>m (i+1) (skip k j):=fun x=>by
   funext i j;unfold fh;rw[aI (by omega)]
  rw[e,e,e];unfold fh;rw[if_pos rfl,if_pos rfl,if_pos rfl];grind
 |n+1,r+1,m,h,u,v=>by
  unfold eV;rw[<-dY,<-fK];refine cH fun k _=>?_;rw[uv,uv,uv,ky p n r _ (by omega) (fun j=>u (skip k j)) fun j=>v (skip k j)];have e:∀x:Nat->Rat,fh m (r+1) x 0 k=m 0 k:=fun x=>by unfold fh;rw[aI (by omega)]
  rw[e,e,e];grind
theorem yX{D':Nat->Nat->Rat}:∀{n:Nat},(∀k l,k<=l->l<n->D' k l+D' (l+1) k=0)->cQ (fun k=>cQ (D' k) n) (n+1)=0
 |0,_=>by show 0+0=(0:Rat);grind
 |n+1,h=>by
  have ih:=yX (D':=D') (n:=n) fun k l I X=>h k l I (by omega);have N:cQ (fun k=>D' k n+D' (n+1) k) (n+1)=0:=by
   rw[cH (g:=fun _=>0) fun k R=>h k n (by omega) (by omega),dU]
  rw[fK]at N;rw[cQ];have h4:cQ (fun k=>cQ (D' k) (n+1)) (n+1)=cQ (fun k=>cQ (D' k) n) (n+1)+cQ (fun k=>D' k n) (n+1):=by
   rw[<-fK];rfl
  rw[h4,ih,Rat.zero_add];exact N
def uw(a b i:Nat):Nat:=if i=a then b else if i=b then a else i
theorem II(r i:Nat):uw (r+1) (r+2) (i+1)=uw r (r+1) i+1:=by
 unfold uw;by_cases h:i=r
 ·rw[if_pos (by omega),if_pos h]
 ·rw[aI (by omega),aI h];by_cases X:i=r+1
  ·rw[if_pos (by omega),if_pos X]
  ·rw[aI (by omega),aI X]
theorem Jh(k:Nat):qc (k+1)= -qc k:=by
 unfold qc;by_cases h:k % 2=1
 ·rw[if_pos h,aI (by omega)];grind
 ·rw[aI h,if_pos (by omega)]
theorem Dl(n:Nat)(m:Mx):eV (n+2) m=cQ (fun k=>cQ (fun l=>qc k*qc l*(m 0 k*m 1 (skip k l))*eV n fun i j=>m (i+2) (skip k (skip l j))) (n+1)) (n+2):=by
 rw[eV];refine cH fun k _=>?_;rw[eV,<-dY,<-dY];refine cH fun l _=>?_;grind
theorem yY:∀(n r:Nat) (m:Mx),r+1<n->eV n (fun i j=>m (uw r (r+1) i) j)= -eV n m
 |0,_,_,h=>by omega
 |1,_,_,h=>by omega
 |n+2,0,m,_=>by
  rw[Dl,Dl,<-tI];have key:cQ (fun k=>cQ (fun l=>qc k*qc l*(m 1 k*m 0 (skip k l))*(eV n fun i j=>m (i+2) (skip k (skip l j)))+qc k*qc l*(m 0 k*m 1 (skip k l))*eV n fun i j=>m (i+2) (skip k (skip l j))) (n+1)) (n+2)=0:=by
   refine yX fun k l I X=>?_;have e1:skip k l=l+1:=by unfold skip;rw[aI (by omega)]
   have e2:skip (l+1) k=k:=by unfold skip;rw[if_pos (by omega)]
   have e3:(fun i j=>m (i+2) (skip (l+1) (skip k j)))=fun i j=>m (i+2) (skip k (skip l j)):=by
    funext i j;rw[IH I]
   rw[e1,e2,e3,Jh];grind
  have h4:cQ (fun k=>cQ (fun l=>qc k*qc l*(m 1 k*m 0 (skip k l))*(eV n fun i j=>m (i+2) (skip k (skip l j)))+qc k*qc l*(m 0 k*m 1 (skip k l))*eV n fun i j=>m (i+2) (skip k (skip l j))) (n+1)) (n+2)=
    cQ (fun k=>cQ (fun l=>qc k*qc l*(m 1 k*m 0 (skip k l))*eV n fun i j=>m (i+2) (skip k (skip l j))) (n+1)) (n+2)+cQ (fun k=>cQ (fun l=>qc k*qc l*(m 0 k*m 1 (skip k l))*eV n fun i j=>m (i+2) (skip k (skip l j))) (n+1)) (n+2):=by
   rw[<-fK];exact cH fun k _=>fK _ _ _
  rw[h4]at key;have h5:cQ (fun k=> -cQ (fun l=>qc k*qc l*(m 0 k*m 1 (skip k l))*eV n fun i j=>m (i+2) (skip k (skip l j))) (n+1)) (n+2)= -cQ (fun k=>cQ (fun l=>qc k*qc l*(m 0 k*m 1 (skip k l))*eV n fun i j=>m (i+2) (skip k (skip l j))) (n+1)) (n+2):=tI _ _;rw[h5];have h6:cQ (fun k=>cQ (fun l=>qc k*qc l*(m (uw 0 1 0) k*m (uw 0 1 1) (skip k l))*eV n fun i j=>m (uw 0 1 (i+2)) (skip k (skip l j))) (n+1)) (n+2)=cQ (fun k=>cQ (fun l=>qc k*qc l*(m 1 k*m 0 (skip k l))*eV n fun i j=>m (i+2) (skip k (skip l j))) (n+1)) (n+2):=by
   refine cH fun k _=>cH fun l _=>?_;have e:∀i,uw 0 1 (i+2)=i+2:=fun i=>by unfold uw;rw[aI (by omega),aI (by omega)]
   simp only[e]
   rfl
  rw[show (0:Nat)+1=1 from rfl,h6];grind
 |n+2,r+1,m,h=>by
  rw[eV,eV,<-tI];refine cH fun k _=>?_;have e:(fun i j=>m (uw (r+1) (r+1+1) (i+1)) (skip k j))=fun i j=>m (uw r (r+1) i+1) (skip k j):=by
   funext i j
   rw[show r+1+1=r+2 from rfl,II]
  have ih:eV (n+1) (fun i j=>m (uw r (r+1) i+1) (skip k j))= -eV (n+1) fun i j=>m (i+1) (skip k j):=yY (n+1) r (fun i j=>m (i+1) (skip k j)) (by omega);rw[e,ih];rw[show uw (r+1) (r+1+1) 0=0 by unfold uw;rw[aI (by omega),aI (by omega)]];grind
theorem kz:∀(k n:Nat) (m:Mx),k+1<n->(∀j,j<n->m 0 j=m (k+1) j)->eV n m=0
 |0,n,m,h,W=>by
  have I:=yY n 0 m h;rw[eh (m':=m) fun i j D hj=>?_]at I
  ·grind
  ·unfold uw;by_cases h0:i=0
   ·rw[if_pos h0,h0];exact(W j hj).symm
   ·rw[aI h0];by_cases X:i=1
    ·rw[if_pos X,X];exact W j hj
    ·rw[aI X]
 |k+1,n,m,h,W=>by
  have I:=yY n (k+1) m h;rw[kz k n _ (by omega) fun j hj=>?_]at I
  ·grind
  ·rw[show uw (k+1) (k+1+1) 0=0 by unfold uw;rw[aI (by omega),aI (by omega)],show uw (k+1) (k+1+1) (k+1)=k+1+1 by unfold uw;rw[if_pos rfl]];exact W j hj
theorem yZ(m:Mx)(r:Nat):fh m r (m r)=m:=by
 funext i j
 unfold fh;by_cases h:i=r
 ·rw[if_pos h,h]
 ·rw[aI h]
theorem Dm{n r:Nat}{m:Mx}(p:Rat)(h:r+1<n):eV n (fh m (r+1) fun j=>m (r+1) j+p*m 0 j)=eV n m:=by
 rw[ky p n (r+1) m h,yZ,kz r n (fh m (r+1) (m 0)) h fun j _=>?_]
 ·grind
 ·unfold fh;rw[aI (by omega),if_pos rfl]
theorem BL{n k:Nat}{m:Mx}(h:k+1<n):eV n (fun i j=>m (uw 0 (k+1) i) j)= -eV n m:=by
 have z:∀u:Nat->Rat,eV n (fh (fh m 0 u) (k+1) u)=0:=fun u=>kz k n _ h fun j _=>by
  unfold fh;rw[aI (by omega),if_pos rfl,if_pos rfl]
 have cm:∀u v:Nat->Rat,fh (fh m 0 u) (k+1) v=fh (fh m (k+1) v) 0 u:=fun u v=>by
  funext i j;unfold fh
  by_cases I:i=k+1
  ·rw[if_pos I,aI (by omega),if_pos I]
  ·rw[aI I,aI I]
 have l1:∀u v x:Nat->Rat,eV n (fh (fh m 0 u) (k+1) fun j=>v j+1*x j)=eV n (fh (fh m 0 u) (k+1) v)+1*eV n (fh (fh m 0 u) (k+1) x):=fun u v x=>ky 1 n (k+1) _ h v x;have l2:∀u v x:Nat->Rat,eV n (fh (fh m 0 fun j=>v j+1*x j) (k+1) u)=eV n (fh (fh m 0 v) (k+1) u)+1*eV n (fh (fh m 0 x) (k+1) u):=fun u v x=>by
  rw[cm,cm,cm];exact ky 1 n 0 _ (by omega) v x
 have I:=z fun j=>m 0 j+1*m (k+1) j;rw[l1,l2,l2,z,z]at I;have e1:fh (fh m 0 (m 0)) (k+1) (m (k+1))=m:=by rw[yZ,yZ]
 have e2:fh (fh m 0 (m (k+1))) (k+1) (m 0)=fun i j=>m (uw 0 (k+1) i) j:=by
  funext i j;unfold fh uw
  by_cases I:i=k+1
  ·rw[if_pos I,aI (by omega),if_pos I]
  ·rw[aI I];by_cases h0:i=0
   ·rw[if_pos h0,if_pos h0]
   ·rw[aI h0,aI h0,aI I]
 rw[e1,e2]at I;grind
theorem uy:∀(n:Nat) (m:Mx),0<n->(∀i,i<n->m i 0=0)->eV n m=0
 |0,_,h,_=>by omega
 |n+1,m,_,h=>by
  rw[eV,jQ,h 0 (by omega),cH (g:=fun _=>0) fun k R=>?_,dU]
  ·grind
  ·rw[uy n _ (by omega) fun i D=>by
    show m (i+1) (skip (k+1) 0)=0;rw[show skip (k+1) 0=0 by unfold skip;rw[if_pos (by omega)]]
    exact h (i+1) (by omega)]
   grind
theorem BM{n:Nat}{m:Mx}(h:∀i,i<n->m (i+1) 0=0):eV (n+1) m=m 0 0*eV n fun i j=>m (i+1) (j+1):=by
 rw[eV,jQ,cH (g:=fun _=>0) fun k R=>?_,dU]
 ·rw[show qc 0=1 from rfl,show(fun i j=>m (i+1) (skip 0 j))=fun i j=>m (i+1) (j+1)from rfl];grind
 ·rw[uy n _ (by omega) fun i D=>by
   show m (i+1) (skip (k+1) 0)=0;rw[show skip (k+1) 0=0 by unfold skip;rw[if_pos (by omega)]]
   exact h i D]
  grind
theorem sF{n:Nat}{m:Mx}(p:Nat->Rat):∀(i:Nat),i<n->eV n (fun r j=>if 0<r/\r<=i then m r j+p r*m 0 j else m r j)=eV n m
 |0,_=>eh fun r j _ _=>aI (by omega)
 |i+1,h=>by
  refine Eq.trans ?_ (sF p i (by omega));refine Eq.trans (eh fun r j hr hj=>?_) (Dm (r:=i) (p (i+1)) h);unfold fh;grind
def jn(M:List (List Rat))(c n:Nat):Rat:=eV (n-c) fun i j=>cW M (c+i) (c+j)
def eF(M:List (List Rat))(c i:Nat):List (List Rat):=M.mapIdx fun j r=>if c<j/\j<i then r.mapIdx (rE (-(r.getD c 0 / cW M c c)) (M.getD c []))else r
theorem BN(M:List (List Rat))(n:Nat):jn M n n=1:=by unfold jn;rw[bB];rfl
theorem AV(M:List (List Rat))(c i:Nat):(eF M c i).length=M.length:=by simp[eF]
theorem nh(M:List (List Rat))(c i:Nat)(h:i<=c+1):eF M c i=M:=by
 refine bG fun j=>?_;unfold eF;rw[List.getElem?_mapIdx]
 cases M[j]? with
 |none=>rfl
 |some r=>simp only[bY];rw[aI (by omega)]
theorem jo(M:List (List Rat))(c i j:Nat)(h:j<=c\/i<=j):(eF M c i)[j]? =M[j]? :=by
 unfold eF;rw[List.getElem?_mapIdx]
 cases M[j]? with
 |none=>rfl
 |some r=>simp only[bY];rw[aI (by omega)]
theorem pL{c i:Nat}(h:M[i]? =some r)(hc:c<i):(eF M c i).set i (r.mapIdx (rE (-(r.getD c 0 / cW M c c)) (M.getD c [])))=eF M c (i+1):=by
 have hl:=(aD.1 h).1;refine bG fun j=>?_;by_cases PH:i=j
 ·subst PH;rw[aO (by rw[AV];exact hl)];unfold eF;rw[List.getElem?_mapIdx,h];simp only[bY]
  rw[if_pos (by omega)]
 ·rw[aT PH];unfold eF;rw[List.getElem?_mapIdx,List.getElem?_mapIdx]
  cases M[j]? with
  |none=>rfl
  |some r=>
   simp only[bY]
   by_cases hj:c<j/\j<i
   ·rw[if_pos hj,if_pos (by omega)]
   ·rw[aI hj,aI (by omega)]
theorem Fh{s:List Rat}{c:Nat}(h:c<r.length):(r.mapIdx (rE p s)).getD c 0=r.getD c 0+p*s.getD c 0:=by
 simp only[List.getD,List.getElem?_mapIdx,aB h]
 rfl
theorem Fi{c n i j:Nat}(hl:gh n M)(D:i<M.length)(hc:c<i)(hj:j<n){k:Nat}(hik:i<k):cW (eF M c k) i j=cW M i j+ -(cW M i c / cW M c c)*cW M c j:=by
 have I:M[i]? =some M[i]:=aB D;have X:(M[i]).length=n:=hl _ (aX D);show((eF M c k).getD i []).getD j 0=_;have N:(eF M c k).getD i []=(M[i]).mapIdx (rE (-((M[i]).getD c 0 / cW M c c)) (M.getD c [])):=by
  rw[List.getD,eF,List.getElem?_mapIdx,I];simp only[bY,Option.getD_some]
  rw[if_pos ⟨hc,hik⟩]
 rw[N,Fh (by omega)];have h4:M.getD i []=M[i]:=by rw[List.getD,I];rfl
 unfold cW;rw[h4]
theorem pM{c i j k:Nat}(h:i<=c\/k<=i):cW (eF M c k) i j=cW M i j:=by
 unfold cW;rw[show (eF M c k).getD i []=M.getD i [] by simp only[List.getD,jo M c k i h]]
theorem qg{c n:Nat}(hl:gh w M)(Y:n<=w)(Z:n<=M.length)(hc:c<n)(h0:cW M c c≠0){k:Nat}(R:n<=k):jn M c n=cW M c c*jn (eF M c k) (c+1) n:=by
 obtain⟨d,hd⟩:∃d,n=c+1+d:=⟨n-(c+1),by omega⟩
 subst hd;unfold jn;rw[show c+1+d-c=d+1 by omega,show c+1+d-(c+1)=d by omega];rw[<-sF (fun r=> -(cW M (c+r) c / cW M c c)) d (by omega),BM fun i D=>?_]
 ·simp only[bj]
  rw[aI (by omega)];congr 1;refine eh fun i j D hj=>?_;rw[if_pos (by omega),show c+1+i=c+(i+1) by omega,show c+1+j=c+(j+1) by omega,Fi (i:=c+(i+1)) hl (by omega) (by omega) (by omega) (by omega)]
 ·simp only[bj]
  rw[if_pos (by omega),Rat.neg_mul,Rat.div_mul_cancel h0];grind
theorem IJ{c n k:Nat}(R:c<k)(Z:k<n)(hl:n<=M.length):jn (fV [] M c k) c n= -jn M c n:=by
 obtain⟨d,hd⟩:∃d,k=c+(d+1):=⟨k-c-1,by omega⟩
 subst hd;unfold jn;rw[<-BL (k:=d) (by omega)];refine eh fun i j D hj=>?_;unfold cW;congr 1;simp only[List.getD]
 unfold uw fV;by_cases h0:i=0
 ·subst h0;simp only[bj,if_pos]
  rw[aT (by omega),aO (by omega),List.getD,aB (by omega)];rfl
 ·rw[aI h0];by_cases I:i=d+1
  ·subst I;simp only[bj,if_pos]
   rw[aO (by simp;omega),List.getD,aB (show c<M.length by omega)];rfl
  ·rw[aI I,aT (by omega),aT (by omega)]
theorem IK{c n:Nat}(hc:c<n)(h:∀j,c<=j->j<n->cW M j c=0):jn M c n=0:=
 uy _ _ (by omega) fun i D=>h (c+i) (by omega) (by omega)
theorem sG{c k:Nat}(hl:gh w M):gh w (eF M c k):=fun r hr=>by
 obtain⟨i,D⟩:=aQ hr;unfold eF at D;rw[List.getElem?_mapIdx]at D
 cases L:M[i]? with
 |none=>rw[L]at D;cases D
 |some x=>
  rw[L]at D;injection D with D;subst D;have:=hl x (aE L);split
  ·rw[List.length_mapIdx];exact this
  ·exact this
theorem ni{h:Nat}(H:Ht M h)(X:2<=h)(i j:Nat):rl (cW M i j)+1<=h:=by
 show rl ((M.getD i []).getD j 0)+1<=h;refine nk (fun q hq=>?_) X j
 cases hy:M[i]? with
 |none=>rw[show M.getD i []=[] by simp[List.getD,hy]]at hq;cases hq
 |some y=>rw[show M.getD i []=y by simp[List.getD,hy]]at hq;exact H.at hy q hq
theorem Ht.elim{h c k:Nat}(H:Ht M h)(X:2<=h)(h0:cW M c c≠0):Ht (eF M c k) (4*h):=fun r hr q hq=>by
 obtain⟨i,D⟩:=aQ hr;unfold eF at D;rw[List.getElem?_mapIdx]at D
 cases L:M[i]? with
 |none=>rw[L]at D;cases D
 |some x=>
  rw[L]at D;injection D with D;subst D;have Rh:=H.at L;have hc:∀j,rl ((M.getD c []).getD j 0)+1<=h:=ni H X c;split at hq
  ·obtain⟨j,hj⟩:=aQ hq;rw[List.getElem?_mapIdx]at hj
   cases hy:x[j]? with
   |none=>rw[hy]at hj;cases hj
   |some y=>
    rw[hy]at hj;injection hj with hj;subst hj;have N:=Rh y (aE hy);have h4:=hc j;have h5:=hc c;have h6:=nk Rh X c;have h7:=pN (x.getD c 0) h0;have h8:=j9 (x.getD c 0 / cW M c c);have h9:=hJ (-(x.getD c 0 / cW M c c)) ((M.getD c []).getD j 0);have h10:=lA y (-(x.getD c 0 / cW M c c)*(M.getD c []).getD j 0);have h11:rl (cW M c c)+1<=h:=h5;show rl (y+ -(x.getD c 0 / cW M c c)*(M.getD c []).getD j 0)+1<=4*h;omega
  ·have:=Rh q hq;omega
def gT(M:List (List Rat)):List Rat:=(List.range M.length).map fun k=>jn M 0 (k+1)
theorem pO(M:List (List Rat)):(gT M).length=M.length:=by simp[gT]
theorem ll{k:Nat}(h:k<M.length):(gT M)[k]? =some (jn M 0 (k+1)):=by
 rw[gT,aM,bZ h];rfl
theorem Fj{M F':List (List Rat)}{c n:Nat}(h:∀i j,c<=i->i<n->c<=j->j<n->cW M i j=cW F' i j):jn M c n=jn F' c n:=
 eh fun i j D hj=>h (c+i) (c+j) (by omega) (by omega) (by omega) (by omega)
theorem Dn{n:Nat}:jn (tk n (M.take n)) 0 n=jn M 0 n:=Fj fun i j _ D _ hj=>by
 rw[NN hj];unfold cW;rw[show (M.take n).getD i []=M.getD i [] by simp[List.getD,List.getElem?_take,D]]
theorem km(f:Nat->Rat)(p:Rat)(n:Nat):cQ (fun k=>f k*p) n=cQ f n*p:=by
 rw[bs,<-dY];exact cH fun k _=>bs ..
theorem tJ(f g:Nat->Rat):∀(n:Nat),cQ (fun k=>f k-g k) n=cQ f n-cQ g n
 |0=>by show(0:Rat)=0-0;grind
 |n+1=>by rw[cQ,cQ,cQ,tJ f g n];grind
theorem fY{f:Nat->Rat}{i:Nat}:∀{n:Nat},i<n->(∀k,k<n->k≠i->f k=0)->cQ f n=f i
 |0,h,_=>by omega
 |n+1,h,hz=>by
  rw[cQ];rcases aP i n with I|I
  ·rw[fY I fun k R OS=>hz k (by omega) OS,hz n (by omega) (by omega),bD]
  ·obtain rfl:i=n:=by omega
   rw[cH (g:=fun _=>0) fun k R=>hz k (by omega) (by omega),dU,Rat.zero_add]
def qf(m:Mx)(x:Nat->Rat)(n:Nat):Rat:=cQ (fun i=>x i*cQ (fun j=>m i j*x j) n) n
def CI(m:Mx):Mx:=fun i j=>m (i+1) (j+1)-m (i+1) 0 / m 0 0*m 0 (j+1)
def Sy(m:Mx)(n:Nat):Prop:=∀i j,i<n->j<n->m i j=m j i
def Po(m:Mx)(n:Nat):Prop:=∀k,k<n->0<eV (k+1) m
def Qp(m:Mx)(n:Nat):Prop:=∀x:Nat->Rat,(∃i,i<n/\x i≠0)->0<qf m x n
theorem BO{n:Nat}{m:Mx}(h0:m 0 0≠0):eV (n+1) m=m 0 0*eV n (CI m):=by
 rw[<-sF (fun r=> -(m r 0 / m 0 0)) n (by omega),BM fun i D=>?_]
 ·rw[aI (by omega)];congr 1;refine eh fun i j D hj=>?_;rw[if_pos (by omega)];unfold CI;grind
 ·rw[if_pos (by omega),Rat.neg_mul,Rat.div_mul_cancel h0];grind
theorem Sy.CI{m:Mx}{n:Nat}(h:Sy m (n+1)):Sy (CI m) n:=fun i j D hj=>by
 unfold Go.Ex.CI;rw[h (i+1) (j+1) (by omega) (by omega),h (i+1) 0 (by omega) (by omega),h (j+1) 0 (by omega) (by omega)];rw[bK,bK];grind
theorem Dp{m:Mx}{n:Nat}(hs:Sy m (n+1))(h0:m 0 0≠0)(x:Nat->Rat):
  qf m x (n+1)=m 0 0*((x 0+cQ (fun j=>m 0 (j+1)*x (j+1)) n / m 0 0)*(x 0+cQ (fun j=>m 0 (j+1)*x (j+1)) n / m 0 0))+qf (CI m) (fun i=>x (i+1)) n:=by
 obtain⟨T,hT⟩:∃T,T=cQ (fun j=>m 0 (j+1)*x (j+1)) n:=⟨_,rfl⟩
 obtain⟨S,F⟩:∃S,S=cQ (fun i=>x (i+1)*cQ (fun j=>m (i+1) (j+1)*x (j+1)) n) n:=⟨_,rfl⟩
 have e1:qf m x (n+1)=x 0*(m 0 0*x 0+T)+(x 0*T+S):=by
  unfold qf;rw[jQ,jQ,<-hT];congr 1;have:cQ (fun k=>x (k+1)*cQ (fun j=>m (k+1) j*x j) (n+1)) n=cQ (fun k=>x 0*(m 0 (k+1)*x (k+1))+x (k+1)*cQ (fun j=>m (k+1) (j+1)*x (j+1)) n) n:=
   cH fun k R=>by rw[jQ,hs (k+1) 0 (by omega) (by omega)];grind
  rw[this,fK,dY,<-hT,<-F]
 have e2:qf (CI m) (fun i=>x (i+1)) n=S-T*T / m 0 0:=by
  unfold qf;have:∀k,k<n->x (k+1)*cQ (fun j=>CI m k j*x (j+1)) n=x (k+1)*cQ (fun j=>m (k+1) (j+1)*x (j+1)) n-(m 0 (k+1)*x (k+1))*(T / m 0 0):=fun k R=>by
   have N:cQ (fun j=>CI m k j*x (j+1)) n=cQ (fun j=>m (k+1) (j+1)*x (j+1)) n-m (k+1) 0 / m 0 0*T:=by
    rw[hT,<-dY,<-tJ];exact cH fun j _=>by unfold CI;grind
   rw[N,hs (k+1) 0 (by omega) (by omega),bK,bK];grind
  rw[cH this,tJ,km,<-F,<-hT,bK,bK];grind
 rw[e1,e2,<-hT];have h4:m 0 0*(m 0 0)⁻¹=1:=Rat.mul_inv_cancel _ h0;rw[bK,bK];grind
theorem sq_nonneg(x:Rat):0<=x*x:=by
 rcases Rat.le_total (a:=0) (b:=x)with h|h
 ·exact Rat.mul_nonneg h h
 ·have:=Rat.mul_nonneg (show 0<= -x by grind) (show 0<= -x by grind);grind
theorem sq_pos(h:x≠0):0<x*x:=by
 have I:=sq_nonneg x;have X:x*x≠0:=fun e=>(Rat.mul_eq_zero.1 e).elim h h;grind
theorem Po.head{m:Mx}{n:Nat}(h:Po m (n+1)):0<m 0 0:=by
 have I:=h 0 (by omega);rw[show eV (0+1) m=m 0 0 by show 0+qc 0*(m 0 0*1)=m 0 0;rw[show qc 0=1 from rfl];grind]at I;exact I
theorem Po.CI{m:Mx}{n:Nat}(h:Po m (n+1)):Po (CI m) n:=fun k R=>by
 have I:=h (k+1) (by omega);have h0:=h.head;rw[BO (by grind)]at I;refine Decidable.byContradiction fun X=>?_;have:=Rat.mul_nonneg (Rat.le_of_lt h0) (show 0<= -(eV (k+1) (Go.Ex.CI m)) by grind);grind
theorem OD:∀(n:Nat) (m:Mx),Sy m n->Po m n->Qp m n
 |0,_,_,_,x,⟨i,D,_⟩=>by omega
 |n+1,m,hs,hp,x,⟨i,D,L⟩=>by
  have h0:=hp.head;have ih:=OD n (CI m) hs.CI hp.CI;rw[Dp hs (by grind)];by_cases hz:∃j,j<n/\x (j+1)≠0
  ·have I:=ih (fun i=>x (i+1)) hz;have X:=Rat.mul_nonneg (Rat.le_of_lt h0) (sq_nonneg (x 0+cQ (fun j=>m 0 (j+1)*x (j+1)) n / m 0 0));grind
  ·have hz:∀j,j<n->x (j+1)=0:=fun j hj=>Decidable.byContradiction fun h=>hz ⟨j,hj,h⟩;have Ri:x 0≠0:=by
    cases i with
    |zero=>exact L
    |succ i=>exact absurd (hz i (by omega)) L
   rw[cH (g:=fun _=>0) fun j hj=>by rw[hz j hj,az],dU];have I:qf (CI m) (fun i=>x (i+1)) n=0:=by
    unfold qf;rw[cH (g:=fun _=>0) fun j hj=>by show x (j+1)*_=0;rw[hz j hj,bC],dU]
   rw[I,bK,bC,bD,bD];exact Rat.mul_pos h0 (sq_pos Ri)
theorem Ln{m:Mx}{n i:Nat}(D:i<n):qf m (fun j=>if j=i then 1 else 0) n=m i i:=by
 unfold qf;rw[fY D fun k _ OS=>by simp only[aI OS,bC],fY D fun k _ OS=>by simp only[aI OS,az]];simp only[if_pos]
 grind
theorem Qp.diag{m:Mx}{n i:Nat}(h:Qp m n)(D:i<n):0<m i i:=by
 have:=h (fun j=>if j=i then 1 else 0) ⟨i,D,by rw[if_pos rfl];decide⟩
 rwa [Ln D]at this
theorem OE:∀(n:Nat) (m:Mx),Sy m n->Qp m n->Po m n
 |0,_,_,_,k,R=>by omega
 |n+1,m,hs,hq,k,R=>by
  have h0:=hq.diag (show 0<n+1 by omega);have ih:=OE n (CI m) hs.CI fun y ⟨i,D,hy⟩=>by
   have I:=hq (fun j=>match j with
    |0=> -(cQ (fun j=>m 0 (j+1)*y j) n / m 0 0)
    |j+1=>y j) ⟨i+1,by omega,hy⟩
   rw[Dp hs (by grind)]at I;simp only[]at I;have X: -(cQ (fun j=>m 0 (j+1)*y j) n / m 0 0)+cQ (fun j=>m 0 (j+1)*y j) n / m 0 0=0:=by grind
   rw[X]at I;have N:m 0 0*(0*0)=(0:Rat):=by grind
   rw[N,Rat.zero_add]at I;exact I
  rw[BO (by grind)]
  cases k with
  |zero=>show 0<m 0 0*1;rw[Rat.mul_one];exact h0
  |succ k=>exact Rat.mul_pos h0 (ih k (by omega))
end Go.Ex
namespace Go.Ex
open Go Go.Sx Go.Proofs
variable{M:List (List (Int×Int))}{U:List Value}{S:Nat->Prop}{a a1 a2:Option Addr}{q:Rat}
theorem I9(h:sZ M=0):(∀r∈M,r.length=iS M)/\M.length<=60/\iS M<=60:=by
 unfold sZ at h;split at h
 ·split at h
  ·cases h
  ·exact⟨‹_›,by omega,by omega⟩
 ·cases h
theorem jA.len{w:World}(h:jA w S U q):U.length=4:=by obtain⟨_,_,_,_,_,_,_,_,rfl,_⟩:=h;rfl
def Fc(w:World)(S:Nat->Prop)(A:List (List Value))(qs:List Rat):Prop:=A.length=qs.length/\∀(j:Nat) U q,A[j]? =some U->qs[j]? =some q->jA w S U q
section
variable{S S':Nat->Prop}{w V:World}{U:List Value}{A:List (List Value)}{q:Rat}{qs:List Rat}
theorem Fc.cC(h:Fc w S A qs)(R:∀g,S g->V.heap[g]? =w.heap[g]?):Fc V S A qs:=⟨h.1,fun j U q I X=>(h.2 j U q I X).cC R⟩
theorem Fc.cF(h:Fc w S A qs)(R:∀g,S g->S' g):Fc w S' A qs:=⟨h.1,fun j U q I X=>(h.2 j U q I X).cF R⟩
theorem Fc.nH(h:Fc w S A qs):∀U∈A,U.length=4:=fun U hc=>by
 obtain⟨j,hj⟩:=aQ hc;have hl:=(aD.1 hj).1;exact(h.2 j U _ hj (aB (by rw[<-h.1];exact hl))).len
theorem Fc.one(h:Fc w S A qs):∀u∈A.flatten,u.oneCell'=true:=fun u hu=>by
 obtain⟨U,hc,hu⟩:=List.mem_flatten.1 hu;obtain⟨j,hj⟩:=aQ hc;have hl:=(aD.1 hj).1;obtain⟨_,_,_,_,_,_,_,_,rfl,_⟩:=h.2 j U _ hj (aB (by rw[<-h.1];exact hl));simp at hu;rcases hu with rfl|rfl|rfl|rfl<;>rfl
theorem Fc.set(h:Fc w S A qs){j:Nat}(hq:jA w S U q):Fc w S (A.set j U) (qs.set j q):=by
 refine⟨by simp[h.1],fun i c p I X=>?_⟩;by_cases PH:j=i
 ·subst PH;have hl:=(aD.1 I).1;rw[aO (by simpa using hl)]at I;rw[aO (by have:=h.1;simp at hl;omega)]at X;injection I with I;injection X with X;subst I X;exact hq
 ·rw[aT PH]at I X;exact h.2 i c p I X
end
def gB(w:World)(C S:Nat->Prop)(v:Value)(qs:List Rat):Prop:=∃A,iu w C 4 v A.flatten qs.length/\Fc w S A qs
section
variable{C C' S S':Nat->Prop}{H:Hp}{nx:Nat}{iv E:Iv}{B:Nat}{w J V:World}{O:Nat->Sx.dL}{v:Value}{qs:List Rat}
theorem gB.cC(h:gB w C S v qs)(R:∀g,C g\/S g->V.heap[g]? =w.heap[g]?):gB V C S v qs:=by
 obtain⟨A,I,X⟩:=h;exact⟨A,I.cC fun g G=>R g (.inl G),X.cC fun g G=>R g (.inr G)⟩
theorem gB.cF(h:gB w C S v qs)(R:∀g,C g->C' g)(UX:∀g,S g->S' g):gB w C' S' v qs:=by
 obtain⟨A,I,X⟩:=h;exact⟨A,I.cF R,X.cF UX⟩
end
def gK(w:World)(S:Nat->Prop)(v:Value)(n:Nat)(qs:List Rat):Prop:=∃A,w.ownsRow 0 T.Rat 4 v n A.flatten/\A.length=n/\Fc w S A qs
section
variable{S S' C:Nat->Prop}{H:Hp}{nx n:Nat}{iv E:Iv}{B:Nat}{w J V:World}{O:Nat->Sx.dL}{v:Value}{qs:List Rat}
theorem gK.cC(h:gK w S v n qs)(R:∀g,S g\/v.ownBlock=some g->V.heap[g]? =w.heap[g]?):gK V S v n qs:=by
 obtain⟨A,I,X,N⟩:=h;exact⟨A,ownsRow.cC I fun g G=>R g (.inr G),X,N.cC fun g G=>R g (.inl G)⟩
theorem gK.cF(h:gK w S v n qs)(R:∀g,S g->S' g):gK w S' v n qs:=by
 obtain⟨A,I,X,N⟩:=h;exact⟨A,I,X,N.cF R⟩
theorem gK.len(h:gK w S v n qs):qs.length=n:=by
 obtain⟨A,I,X,N⟩:=h;rw[<-N.1,X]
theorem gK.form(h:gK w S v n qs):∃a c,v= .slice a n c/\n<=c:=by
 obtain⟨A,I,X,N⟩:=h;exact ig I
theorem gK.le(h:gK w S v n qs):n<=maxLen:=by
 obtain⟨A,I,X,N⟩:=h;rcases I.2 with⟨_,h0⟩|⟨_,_,_,_,_,_,I,X,_⟩
 ·omega
 ·omega
theorem gK.low(h:gK w S v n qs):∀g,v.ownBlock=some g->g<w.heap.size:=fun g G=>by
 obtain⟨A,I,X,N⟩:=h;exact(ownsRow.low I g G).2
theorem gK.read(h:gK w S v n qs):gB w (fun g=>v.ownBlock=some g) S v qs:=by
 have hl:=h.len;have Z:=h.le;obtain⟨A,I,X,N⟩:=h;refine⟨A,?_,N⟩;rw[hl];rcases I.2 with⟨rfl,rfl⟩|⟨g,cap,cur,rfl,hb,hc,Vl,QF,Oj,RK⟩
 ·refine⟨Z,I.1,N.one,none,0,rfl,Nat.le_refl _,fun j u hu=>?_⟩;have:=I.1;rw[Nat.zero_mul]at this;rw[List.eq_nil_of_length_eq_zero this]at hu
  cases hu
 ·refine⟨Z,I.1,N.one,_,cap,rfl,Vl,fun j u hu=>⟨_,rfl,rfl,?_⟩⟩;exact I.cells (g:=g) rfl j u hu
theorem gK.store{c j n1 c1 n2 c2:Nat}{b b2:Bool}(h:gK w S (.slice a n c) n qs)(hj:j<n)(hf:cN w S (.agg #[.bool b,.slice a1 n1 c1,.bool b2,.slice a2 n2 c2]) q)(VL:∀g,(Value.slice a n c).ownBlock=some g->¬S g)(F:Old S w):
  ∃g,a=some ⟨g,0,none⟩/\((⟨g,0,none⟩:Addr).add ((j:Int).toNat*4)).spot=none/\((⟨g,0,none⟩:Addr).add ((j:Int).toNat*4)).block=g/\
   (∀k,k<4->(w.cell? (((⟨g,0,none⟩:Addr).add ((j:Int).toNat*4)).add k)).isSome=true/\w.frozen? (((⟨g,0,none⟩:Addr).add ((j:Int).toNat*4)).add k)=false)/\
   ∀V,V=setCells w ((⟨g,0,none⟩:Addr).add ((j:Int).toNat*4)) [.bool b,.slice a1 n1 c1,.bool b2,.slice a2 n2 c2]->gK V S (.slice a n c) n (qs.set j q)/\w.grownBy V (some g)/\V.heap.size=w.heap.size:=by
 obtain⟨A,I,X,N⟩:=h;obtain⟨g,rfl,OV,QA,Oc,Oj⟩:=kA (nv:=[.bool b,.slice a1 n1 c1,.bool b2,.slice a2 n2 c2]) I rfl hj rfl (by decide);have Om:(⟨g,0,none⟩:Addr).add ((j:Int).toNat*4)=⟨g,j*4,none⟩:=by rw[aF,dA,aV]
 refine⟨g,rfl,by rw[Om],by rw[Om],fun k R=>by rw[Om];exact OV k R,fun V PR=>?_⟩;rw[Om]at PR;subst PR;have Si:=jI (U:=[.bool b,.slice a1 n1 c1,.bool b2,.slice a2 n2 c2]) N.nH (show j<A.length by omega);rw[Si]at QA;have Pe:∀x,S x->(setCells w ⟨g,j*4,none⟩ [.bool b,.slice a1 n1 c1,.bool b2,.slice a2 n2 c2]).heap[x]? =w.heap[x]? :=fun x L=>
  Oc.block x (F x L) fun e=>VL g rfl (by injection e with e;rw[<-e];exact L)
 exact⟨⟨_,QA,by simpa using X,(N.cC Pe).set (hf.cC Pe).uK⟩,Oc,Oj⟩
structure eE(w:World)(S:Nat->Prop)(B:Nat)(iv:Iv)(v:Value)(n:Nat)(qs:List Rat):Prop where
 row:gK w (fun g=>Cv S B iv g/\v.ownBlock≠some g) v n qs
 new:∀g,v.ownBlock=some g->Cv FF B iv g
theorem eE.cC(h:eE w S B iv v n qs)(R:∀g,Cv S B iv g->V.heap[g]? =w.heap[g]?):eE V S B iv v n qs:=
 ⟨h.row.cC fun g G=>R g (G.elim (fun h=>h.1) fun G=>(h.new g G).elim (fun h=>h.elim) .inr),h.new⟩
theorem eE.rel(h:eE w S B iv v n qs)(r:Rel H nx iv B w O J)(F:∀g,S g->g<B):eE J S B iv v n qs:=h.cC fun _ G=>Rel.same r F G
theorem eE.cD(h:eE w S B iv v n qs)(r:Rel H nx iv B w O J)(F:∀g,S g->g<B)(W:Ext J V)(hm:∀p,p∈iv->p∈E):eE V S B E v n qs:=
 have X:=(h.rel r F).cC fun g G=>W.block g (Rel.old r F g G)
 ⟨X.row.cF fun _ G=>⟨G.1.mono hm,G.2⟩,fun g G=>(X.new g G).mono hm⟩
theorem eE.dD(h:eE V FF J.heap.size [(J.heap.size,V.heap.size)] v n qs)(hB:B<=J.heap.size)(hm:(J.heap.size,V.heap.size)∈iv):eE V S B iv v n qs:=by
 have key:∀g {C9:Nat->Prop},Cv FF J.heap.size [(J.heap.size,V.heap.size)] g->Cv C9 B iv g:=fun g C9 G=>by
  rcases G with G|⟨I,lo,D,X,N,h4⟩
  ·exact G.elim
  ·simp at X;obtain⟨rfl,rfl⟩:=X;exact .inr ⟨by omega,_,_,hm,N,h4⟩
 exact⟨h.row.cF fun g G=>⟨key g G.1,G.2⟩,fun g G=>key g (h.new g G)⟩
theorem eE.read(h:eE w S B iv v n qs):gB w (Cv S B iv) (Cv S B iv) v qs:=
 h.row.read.cF (fun g G=>(h.new g G).elim (fun h=>h.elim) .inr) fun _ G=>G.1
end
section
variable{S S':Nat->Prop}{H:Hp}{nx n:Nat}{iv E:Iv}{B:Nat}{w J V:World}{O:Nat->Sx.dL}{v:Value}{qs:List Rat}
theorem eE.store{c j n1 c1 n2 c2:Nat}{b b2:Bool}(h:eE J S B iv (.slice a n c) n qs)(hj:j<n)(hf:cN J (fun g=>Cv S B iv g/\(Value.slice a n c).ownBlock≠some g) (.agg #[.bool b,.slice a1 n1 c1,.bool b2,.slice a2 n2 c2]) q)
  (r:Rel H nx iv B w O J) (F:∀g,S g->g<B):
  ∃g,a=some ⟨g,0,none⟩/\((⟨g,0,none⟩:Addr).add ((j:Int).toNat*4)).spot=none/\
   (∀k,k<4->(J.cell? (((⟨g,0,none⟩:Addr).add ((j:Int).toNat*4)).add k)).isSome=true/\J.frozen? (((⟨g,0,none⟩:Addr).add ((j:Int).toNat*4)).add k)=false)/\
   (∀id b,cV H id=some b->(O id).nil=false->(O id).g≠((⟨g,0,none⟩:Addr).add ((j:Int).toNat*4)).block)/\Cv FF B iv g/\
   ∀V,V=setCells J ((⟨g,0,none⟩:Addr).add ((j:Int).toNat*4)) [.bool b,.slice a1 n1 c1,.bool b2,.slice a2 n2 c2]->eE V S B iv (.slice a n c) n (qs.set j q)/\J.grownBy V (some g)/\V.heap.size=J.heap.size:=by
 obtain⟨g,rfl,I,X,N,h4⟩:=h.row.store hj hf (fun g G L=>L.2 G) (fun x L=>Rel.old r F x L.1);refine⟨g,rfl,I,N,fun id b hb Z=>by rw[X];exact Rel.not r F (Cg (h.new g rfl)) id b hb Z,h.new g rfl,fun V PR=>?_⟩;obtain⟨k1,k2,k3⟩:=h4 V PR;exact⟨⟨k1,h.new⟩,k2,k3⟩
end
end Go.Ex
namespace Go.Sx
open Go Go.Ex Go.Proofs
variable{U:List Value}{O:Nat->Sx.dL}
theorem Sub.rK{B:Nat}{l tl:Env}{nx:Nat}{H tH:Hp}{iv:Iv}{w J:World}{id t n c:Nat}{e:TypeId}(r:Rel H nx iv B w O J)(Oy:cV H id=some (.arr e U))(ht:fR l t=some (.o (.s id 0 n c)))
  (hs:ug H tH) (ho:CC id tH=true) (I:D4 l tl) (X:l5 nx tl):
  Sub B l nx O J ⟨(t,.o (.v (.slice (some ⟨(O id).g,0,none⟩) n c)))::tl,tH,nx,((O id).g,(O id).g+1)::iv,J⟩:=by
 refine⟨O,r.free Oy (by simp) (r.fits Oy).1 hs ho,fun u v hv=>?_⟩;rw[eW]at hv;split at hv
 ·rename_i e;subst e;injection hv with hv;subst hv;exact⟨trivial,_,ht,rfl⟩
 ·exact⟨X.get u v hv,v,I.get u v hv,rfl⟩
end Go.Sx
namespace Go.Ex
open Go Go.Sx Go.Proofs
end Go.Ex
namespace Go.Ex
open Go Go.Sx Go.Proofs
variable{x:List Rat}
def du(w:World)(S:Nat->Prop)(rv:List Value)(Fn:List (List Rat)):Prop:=rv.length=Fn.length/\(∀u∈rv,u.oneCell'=true)/\∀(i:Nat) u r,rv[i]? =some u->Fn[i]? =some r->cS w S u r
section
variable{S S':Nat->Prop}{H:Hp}{nx:Nat}{iv E:Iv}{B:Nat}{w J V:World}{O:Nat->Sx.dL}{rv:List Value}{Fn:List (List Rat)}
theorem du.cC(h:du w S rv Fn)(R:∀g,S g->V.heap[g]? =w.heap[g]?):du V S rv Fn:=⟨h.1,h.2.1,fun i u x I X=>cS.cC (h.2.2 i u x I X) R⟩
theorem du.cF(h:du w S rv Fn)(R:∀g,S g->S' g):du w S' rv Fn:=⟨h.1,h.2.1,fun i u x I X=>cS.cF (h.2.2 i u x I X) R⟩
theorem du.rel(h:du w (Cv S B iv) rv Fn)(r:Rel H nx iv B w O J)(F:∀g,S g->g<B):du J (Cv S B iv) rv Fn:=h.cC fun _ G=>Rel.same r F G
theorem du.push{u:Value}(h:du w S rv Fn)(hu:u.oneCell'=true)(L:cS w S u x):du w S (rv++[u]) (Fn++[x]):=by
 refine⟨by simp[h.1],fun v hv=>?_,fun i v y I X=>?_⟩
 ·rcases List.mem_append.1 hv with hv|hv
  ·exact h.2.1 v hv
  ·simp at hv;subst hv;exact hu
 ·rcases aP i rv.length with D|D
  ·rw[aJ D]at I;rw[aJ (by rw[<-h.1];exact D)]at X;exact h.2.2 i v y I X
  ·have RZ:i=rv.length:=by have:=(aD.1 I).1;simp at this;omega
   subst RZ;rw[aN (Nat.le_refl _),bB]at I;rw[h.1,aN (Nat.le_refl _),bB]at X;simp at I X;subst I X;exact L
end
end Go.Ex
namespace Go.Ex
theorem Je(s:List (List Rat)×List Nat)(c:Nat):(dg s c).2=s.2\/(dg s c).2=s.2++[c]:=by
 unfold dg;split
 ·dsimp only
  split
  ·exact .inl rfl
  ·exact .inr rfl
 ·exact .inl rfl
theorem iq(M:List (List Rat)):∀c:Nat,(∀p∈((List.range c).foldl dg (M,[])).2,p<c)/\(((List.range c).foldl dg (M,[])).2).Pairwise (· < ·)/\((List.range c).filter fun j=>decide (j∉((List.range c).foldl dg (M,[])).2)).length+((List.range c).foldl dg (M,[])).2.length=c:=by
 intro c
 induction c with
 |zero=>simp
 |succ c ih=>
  rw[bW,List.foldl_append,List.foldl_cons,List.foldl_nil];generalize (List.range c).foldl dg (M,[])=s at*
  obtain⟨I,X,N⟩:=ih;have hc:c∉s.2:=fun h=>by have:=I c h;omega
  rcases Je s c with e|e
  ·rw[e];refine⟨fun p hp=>by have:=I p hp;omega,X,?_⟩;rw[List.filter_append,List.length_append];simp only[List.filter_cons,hc,not_false_eq_true,decide_true,if_true,List.filter_nil,List.length_singleton]
   omega
  ·rw[e];refine⟨fun p hp=>?_,?_,?_⟩
   ·rcases List.mem_append.1 hp with hp|hp
    ·have:=I p hp;omega
    ·simp at hp;omega
   ·rw[List.pairwise_append];exact⟨X,by simp,fun a ha b hb=>by simp at hb;subst hb;exact I a ha⟩
   ·rw[List.filter_append,List.length_append];have:(List.range c).filter (fun j=>decide (j∉s.2++[c]))=(List.range c).filter (fun j=>decide (j∉s.2)):=List.filter_congr fun j hj=>by
     have:=List.mem_range.1 hj;have OS:j≠c:=by omega
     simp[OS]
    have h0:(([c]:List Nat).filter fun j=>decide (j∉s.2++[c])).length=0:=by simp
    rw[this,List.length_append,List.length_singleton,h0];omega
end Go.Ex
namespace Go.Ex
open Go Go.Sx Go.Proofs
variable{M:List (List Rat)}{qs:List Rat}{S S' S0:Nat->Prop}{row:Option Nat}{p q:Rat}{v vb:Value}{w V:World}
section
variable{S S':Nat->Prop}{H:Hp}{nx:Nat}{iv E:Iv}{B:Nat}{w J V:World}{O:Nat->Sx.dL}{v:Value}{M:List (List (Int×Int))}
end
theorem Gr(x y:Rat):x-y+y=x:=by rw[Rat.sub_eq_add_neg,Rat.add_assoc,Rat.neg_add_cancel,bD]
theorem DL(p q:Rat):p-q=0↔p=q:=by
 constructor
 ·intro h;have:=congrArg (· +q) h;simpa [Gr,Rat.zero_add]using this
 ·intro h;rw[h,Rat.sub_self]
theorem Mn:rs (p-q)=0↔p=q:=by rw[oN,DL]
def fnV(g:Nat):Value:=.func (.func g) #[] #[]
def fL(xs ys:List Rat):Nat->Rat
 |0=>0
 |i+1=>fL xs ys i+xs.getD i 0*ys.getD i 0
theorem zj{xs ys:List Rat}{h:Nat}(L:∀q∈xs,rl q+1<=h)(hy:∀q∈ys,rl q+1<=h)(X:2<=h):∀i:Nat,rl (fL xs ys i)<=2*h*i+2
 |0=>by rw[fL];exact aW (by decide:rl 0<=2) (by omega)
 |i+1=>by
  have N:=zj L hy X i;have h4:=lA (fL xs ys i) (xs.getD i 0*ys.getD i 0);have h5:=hJ (xs.getD i 0) (ys.getD i 0);have h6:=nk L X i;have h7:=nk hy X i;rw[fL,bQ];omega
def oO(w:World)(S:Nat->Prop)(v:Value)(qs:List Rat):Prop:=gj w S S v qs
def lf(w:World)(S:Nat->Prop)(v:Value)(M:List (List Rat)):Prop:=uH w S v M
theorem oO.cC(h:oO w S v qs)(R:∀g,S g->V.heap[g]? =w.heap[g]?):oO V S v qs:=gj.cC h fun g G=>R g (G.elim id id)
theorem oO.cF(h:oO w S v qs)(R:∀g,S g->S' g):oO w S' v qs:=gj.cF h R R
theorem oO.shape(h:oO w S v qs):∃a c,v= .slice a qs.length c:=by
 obtain⟨a,c,h,_⟩:=gj.shape h;exact⟨a,c,h⟩
theorem lf.cC(h:lf w S v M)(R:∀g,S g->V.heap[g]? =w.heap[g]?):lf V S v M:=uH.cC h R
theorem lf.cF(h:lf w S v M)(R:∀g,S g->S' g):lf w S' v M:=uH.cF h R
theorem lf.shape(h:lf w S v M):∃a c,v= .slice a M.length c:=by
 obtain⟨a,c,h,_⟩:=dG.shape (show uH w S v M from h);exact⟨a,c,h⟩
def nO(w:World)(S:Nat->Prop)(rv:List Value)(Fn:List (List Rat)):Prop:=∀(i:Nat) u r,rv[i]? =some u->Fn[i]? =some r->oO w S u r
theorem nO.cC{v:List Value}(h:nO w S v M)(R:∀g,S g->V.heap[g]? =w.heap[g]?):nO V S v M:=fun i u x I X=>(h i u x I X).cC R
theorem nO.cF{v:List Value}(h:nO w S v M)(R:∀g,S g->S' g):nO w S' v M:=fun i u x I X=>(h i u x I X).cF R
section
variable{S S':Nat->Prop}{H:Hp}{nx:Nat}{iv E:Iv}{B:Nat}{w J V:World}{O:Nat->Sx.dL}{v:Value}{qs:List Rat}
theorem oO.rel(h:oO w (Cv S B iv) v qs)(r:Rel H nx iv B w O J)(F:∀g,S g->g<B):oO J (Cv S B iv) v qs:=h.cC fun _ G=>Rel.same r F G
theorem oO.dD(h:oO V (Nf J V) v qs)(hB:B<=J.heap.size)(hm:(J.heap.size,V.heap.size)∈iv):oO V (Cv S B iv) v qs:=h.cF fun _ G=>G.dD hB hm
end
section
variable{S S':Nat->Prop}{H:Hp}{nx:Nat}{iv E:Iv}{B:Nat}{w J V:World}{O:Nat->Sx.dL}{v:Value}{M:List (List Rat)}
theorem lf.rel(h:lf w (Cv S B iv) v M)(r:Rel H nx iv B w O J)(F:∀g,S g->g<B):lf J (Cv S B iv) v M:=h.cC fun _ G=>Rel.same r F G
theorem lf.cD(h:lf w (Cv S B iv) v M)(r:Rel H nx iv B w O J)(F:∀g,S g->g<B)(W:Ext J V)(hm:∀p,p∈iv->p∈E):lf V (Cv S B E) v M:=
 ((h.rel r F).cC fun g G=>W.block g (Rel.old r F g G)).cF fun _ G=>G.mono hm
theorem lf.dD(h:lf V (Nf J V) v M)(hB:B<=J.heap.size)(hm:(J.heap.size,V.heap.size)∈iv):lf V (Cv S B iv) v M:=h.cF fun _ G=>G.dD hB hm
end
section
variable{S S':Nat->Prop}{H:Hp}{nx:Nat}{iv E:Iv}{B:Nat}{w J V:World}{O:Nat->Sx.dL}{v:List Value}{M:List (List Rat)}
theorem nO.rel(h:nO w (Cv S B iv) v M)(r:Rel H nx iv B w O J)(F:∀g,S g->g<B):nO J (Cv S B iv) v M:=h.cC fun _ G=>Rel.same r F G
theorem nO.cD(h:nO w (Cv S B iv) v M)(r:Rel H nx iv B w O J)(F:∀g,S g->g<B)(W:Ext J V)(hm:∀p,p∈iv->p∈E):nO V (Cv S B E) v M:=
 ((h.rel r F).cC fun g G=>W.block g (Rel.old r F g G)).cF fun _ G=>G.mono hm
end
theorem Ia{M:List (List (Int×Int))}(F:Old S w)(h:ee w S v M)(hf:∀r∈M,Few r)(Z:∀r∈M,r.length<=1000000)(hR:M.length<=1000000):
  dx PG F'.tZ #[v] w (eH w fun v' V=>lf V (Nf w V) v' (kX M)):=by
 replace h:=ee.arg h [];obtain⟨a,c,rfl,hc,-⟩:=dG.shape h;refine xE (by simp) ?_;conv=>whnf
 refine⟨M.length,M.length,rfl,rfl,Nat.le_refl _,by omega,by omega,?_⟩;conv=>whnf
 refine⟨List Value×Iv×World,fun z=>⟨[(3,.o (.s 0 0 M.length M.length)),(9,sV a M.length c),(10,iZ M.length),(11,iZ z.1.length)],[(0,.arr T.row (z.1++List.replicate (M.length-z.1.length) (.slice none 0 0)))],1,z.2.1,z.2.2⟩,fun z=>M.length-z.1.length,
  fun z=>z.1.length<=M.length/\dT w.heap.size w z.2.2/\ee z.2.2 (Cv S w.heap.size z.2.1) (.slice a M.length c) M/\nO z.2.2 (Cf w z.2.1) z.1 (kX M)/\∀u∈z.1,u.oneCell'=true,?_,?_⟩
 ·intro O J r;exact⟨([],[],J),⟨by simp,r.cL,ee.rel h r F,fun i u r h=>by simp at h,by simp⟩,Sub.gn [] r⟩
 clear h;rintro⟨rv,iv,w1⟩ ⟨D,Y,hX,hF,h1c⟩;dsimp only at D Y hX hF h1c ⊢;conv=>whnf
 refine dB.mk ?_ ?_<;>intro h
 ·have h:rv.length<M.length:=by simpa using h
  obtain⟨x,L⟩:∃x,M[rv.length]? =some x:=⟨_,aB h⟩
  obtain⟨ad,u,rfl,VW,QT,Ps⟩:=dG.load hX L;obtain⟨a2,c2,rfl⟩:=dG.AH VW;have QC:=Z x (aE L);conv=>whnf
  refine⟨ad,rfl,by omega,?_⟩;conv=>whnf
  refine⟨.slice a2 x.length c2,fun O J r=>?_,?_⟩
  ·have:=Rel.same r F QT;rw[aF,cJ (w:=w1) (V:=J) (by rw[c9];exact this)];exact Ps
  conv=>whnf
  refine cB (cG (Id:=fun _ J v V=>DH V FF J.heap.size [(J.heap.size,V.heap.size)] v x.length (x.map qQ)) (fun O J r=>LJ (Rel.old r F) (fO.rel VW r F) (hf x (aE L)) QC) ?_);rintro O wa v1 wb r W hb hO;have hON:oO wb (Cf w ((wa.heap.size,wb.heap.size)::iv)) v1 (x.map qQ):=(DH.dD (S:=FF) hO r.bz aG).read;replace hX:=ee.cD (E:=(wa.heap.size,wb.heap.size)::iv) hX r F W fun x L=>aC _ L;replace hF:=hF.cD (E:=(wa.heap.size,wb.heap.size)::iv) r (bw w) W fun x L=>aC _ L;replace Y:=Y.tr hb;clear r W hb hO VW QT Ps;generalize (wa.heap.size,wb.heap.size)::iv=OU at*
  obtain⟨a3,c3,rfl⟩:=hON.shape;rw[aL]at hON ⊢;conv=>whnf
  refine⟨by omega,?_⟩;conv=>whnf
  refine⟨by simp;omega,(rv++[.slice a3 x.length c3])++List.replicate (M.length-(rv.length+1)) (.slice none 0 0),?_,?_⟩
  ·have h5:M.length-rv.length=(M.length-(rv.length+1))+1:=by omega
   simp[h5,List.replicate_succ]
  conv=>whnf
  refine⟨((rv.length+1:Nat):Int),wo,?_⟩;conv=>whnf
  intro IR w3 K;have QH:(rv++[Value.slice a3 x.length c3]).length=rv.length+1:=by simp
  refine⟨(rv++[.slice a3 x.length c3],OU,w3),⟨by dsimp only;rw[QH];exact h,Y.tr K.cL,ee.rel hX K F,?_,?_⟩,Sub.gn [] K ⟨by dsimp only;rw[QH];rfl,trivial⟩ ⟨rfl,rfl,rfl,by dsimp only;rw[QH];rfl,trivial⟩,by dsimp only;rw[QH];omega⟩
  ·intro i u y I X;refine oO.rel ?_ K (bw w);rcases aP i rv.length with Tk|Tk
   ·rw[aJ Tk]at I;exact hF i u y I X
   ·have RZ:i=rv.length:=by have:=(aD.1 I).1;simp at this;omega
    subst RZ;rw[aN (Nat.le_refl _),bB]at I;simp only[kX,aM,L]at X;simp at I X;subst I X;exact hON
  ·intro u hu;rcases List.mem_append.1 hu with hu|hu
   ·exact h1c u hu
   ·simp at hu;subst hu;rfl
 ·have h:rv.length=M.length:=by
   have:¬rv.length<M.length:=by simpa using h
   omega
  rw[h,bB,List.replicate_zero,List.append_nil];conv=>whnf
  intro GT we re;refine⟨_,rfl,Y.tr re.cL,?_⟩;have Oe:=re.nn 0 _ rfl (by intros;simp) (by simp);have Od:=re.low 0 _ rfl Oe;have hs:=re.AD (id:=0) (t:=T.row) (n:=M.length) (sz:=1) (U:=rv) rfl (by omega) (by unfold maxLen;omega) h1c;have hvl:(kX M).length=M.length:=by simp[kX]
  refine⟨rv,?_,by rw[hvl,h],fun i u x I X=>((hF.rel re (bw w)) i u x I X).cF fun g G=>Cv.nw G re⟩;rw[hvl];exact hs.cF fun g G=>.inr (by subst G;exact Od)
abbrev DR(gm FS:Nat):Value:=.slice (some ⟨gm,0,none⟩) FS FS
def j4(S:Nat->Prop)(B:Nat)(iv:Iv)(gm FS:Nat)(rv:List Value)(g:Nat):Prop:=Cv S B iv g/\¬Mb (DR gm FS) rv g
structure fS(w:World)(S:Nat->Prop)(B:Nat)(iv:Iv)(gm FS n:Nat)(rv:List Value)(M:List (List Rat)):Prop where
 I6:lM w (j4 S B iv gm FS rv) (DR gm FS) rv n M
 oz:∀g,Mb (DR gm FS) rv g->Cv FF B iv g
 rows:rv.length=FS
section
variable{S S':Nat->Prop}{H:Hp}{nx gm FS n:Nat}{iv E:Iv}{B:Nat}{w J V:World}{O:Nat->Sx.dL}{rv:List Value}{M:List (List Rat)}
theorem fS.cC(h:fS w S B iv gm FS n rv M)(R:∀g,Cv S B iv g->V.heap[g]? =w.heap[g]?):fS V S B iv gm FS n rv M:=
 ⟨h.I6.cC fun g G=>R g (G.elim (fun h=>h.1) fun G=>Cg (h.oz g G)),h.oz,h.rows⟩
theorem fS.rel(h:fS w S B iv gm FS n rv M)(r:Rel H nx iv B w O J)(F:∀g,S g->g<B):fS J S B iv gm FS n rv M:=h.cC fun _ G=>Rel.same r F G
theorem fS.mono(h:fS w S B iv gm FS n rv M)(hm:∀p,p∈iv->p∈E):fS w S B E gm FS n rv M:=
 ⟨h.I6.cF fun _ G=>⟨G.1.mono hm,G.2⟩,fun g G=>(h.oz g G).mono hm,h.rows⟩
theorem fS.cD(h:fS w S B iv gm FS n rv M)(r:Rel H nx iv B w O J)(F:∀g,S g->g<B)(W:Ext J V)(hm:∀p,p∈iv->p∈E):fS V S B E gm FS n rv M:=
 ((h.rel r F).cC fun g G=>W.block g (Rel.old r F g G)).mono hm
theorem fS.out(h:fS w S B iv gm FS n rv M):Cv FF B iv gm:=h.oz gm (.inl rfl)
theorem fS.len(h:fS w S B iv gm FS n rv M):M.length=FS:=h.I6.len.symm.trans h.rows
theorem fS.cell(h:fS w S B iv gm FS n rv M)(r:Rel H nx iv B w O J){a:Addr}{x:Value}(hb:Mb (DR gm FS) rv a.block)(hc:w.cell? a=some x):J.cell? a=some x:=by
 rw[cJ (Rel.same r (eI B) (h.oz _ hb))];exact hc
theorem cP.beside(h:cP V (Nf J V) v q)(hM:fS w S B iv gm FS n rv M)(r:Rel H nx iv B w O J):cP V (j4 S0 B ((J.heap.size,V.heap.size)::iv) gm FS rv) v q:=
 h.cF fun g G=>by
  rcases G with G|G
  ·exact G.elim
  ·exact⟨.inr ⟨by have:=r.bz;omega,_,_,aG,G.1,G.2⟩,fun hm=>by have:=Rel.old r (eI B) g (hM.oz g hm);omega⟩
theorem cP.xn(h:cP V (Nw (j4 S0 B iv gm FS rv) J V) v q)(hM:fS w S B iv gm FS n rv M)(r:Rel H nx iv B w O J):cP V (j4 S0 B ((J.heap.size,V.heap.size)::iv) gm FS rv) v q:=
 h.cF fun g G=>by
  rcases G with G|G
  ·exact⟨G.1.mono fun p hp=>aC _ hp,G.2⟩
  ·exact⟨.inr ⟨by have:=r.bz;omega,_,_,aG,G.1,G.2⟩,fun hm=>by have:=Rel.old r (eI B) g (hM.oz g hm);omega⟩
theorem j4.old(r:Rel H nx iv B w O J)(F:∀g,S g->g<B):Old (j4 S B iv gm FS rv) J:=fun g G=>Rel.old r F g G.1
theorem cP.iH(h:cP w (j4 S B iv gm FS rv) v q)(r:Rel H nx iv B w O J)(F:∀g,S g->g<B):cP J (j4 S B iv gm FS rv) v q:=h.cC fun _ G=>Rel.same r F G.1
theorem cP.nG(h:cP w (j4 S B iv gm FS rv) v q)(r:Rel H nx iv B w O J)(F:∀g,S g->g<B)(W:Ext J V)(hm:∀p,p∈iv->p∈E):cP V (j4 S B E gm FS rv) v q:=
 ((h.iH r F).cC fun g G=>W.block g (Rel.old r F g G.1)).cF fun _ G=>⟨G.1.mono hm,G.2⟩
theorem fS.Eb(hM:fS w S B iv gm FS n rv M)(r:Rel H nx iv B w O J)(F:∀g,S g->g<B){i c:Nat}{vi vc vby:Value}{ri rc:List Rat}(Z:n<=maxLen)(hic:i≠c)(SX:rv[i]? =some vi)(hvc:rv[c]? =some vc)(S7:M[i]? =some ri)(Tm:M[c]? =some rc)
  (Oq:cP w (j4 S B iv gm FS rv) vby p) (hq:∀q∈ri,rl q<=2000000000) (hqc:∀q∈rc,rl q<=2000000000) (hb:rl p<=2000000000):
  dx PG F'.me #[vi,vby,vc] J (fun e V=>e= .returned (.tuple #[])/\J.grownBy V vi.ownBlock/\(∀g,vi.ownBlock=some g->Mb (DR gm FS) rv g)/\fS V S B ((J.heap.size,V.heap.size)::iv) gm FS n rv (M.set i (ri.mapIdx (rE p rc)))):=by
 have SY:=hM.rel r F;obtain⟨A,Tn,S8,hr3⟩:=SY.I6.row i _ ri SX S7;obtain⟨VW,RL⟩:=SY.I6.aAT hvc Tm Z;have QZ:∀g,vi.ownBlock=some g->Mb (DR gm FS) rv g:=fun g G=>.inr ⟨_,aE SX,G⟩;refine(Go.Ex.Eb (C:=fun g=>vc.ownBlock=some g) (fun x L=>SY.I6.low x (.inr ⟨_,aE hvc,L⟩)) (j4.old r F) Tn hr3 S8 (Oq.iH r F) VW RL (fun x L R1=>R1.2 (QZ x L)) (fun x L R1=>hic (SY.I6.rW i c _ _ x SX hvc L R1)) hq hqc hb).mono fun e w8 W=>?_;obtain⟨rfl,Oc,css',hr4,hr5,hr6⟩:=W;have hM3:=SY.I6.setRow (S':=Nw (j4 S B iv gm FS rv) J w8) (j4.old r F) (fun x L R1=>L.2 R1) SX Oc (fun x L=>.inl L) ⟨css',hr4,hr5,hr6⟩;refine⟨rfl,Oc,QZ,hM3.cF fun g G=>?_,fun g G=>(hM.oz g G).mono fun p hp=>aC _ hp,hM.rows⟩;rcases G with G|G
 ·exact⟨G.1.mono fun p hp=>aC _ hp,G.2⟩
 ·exact⟨.inr ⟨by have:=r.bz;omega,_,_,aG,G.1,G.2⟩,fun hm=>by have:=Rel.old r (eI B) g (hM.oz g hm);omega⟩
theorem j4.grown(r:Rel H nx iv B w O J)(F:∀g,S g->g<B)(G:J.grownBy V row)(OR:∀g,row=some g->Mb (DR gm FS) rv g):∀g,j4 S B iv gm FS rv g->V.heap[g]? =w.heap[g]? :=fun g h=>by
 rw[G.block g (Rel.old r F g h.1) fun e=>h.2 (OR g e.symm),Rel.same r F h.1]
theorem fS.base(hM:fS w S B iv gm FS n rv M){g:Nat}(h:Mb (DR gm FS) rv g):B<=g:=(hM.oz g h).elim (fun h=>h.elim) fun h=>h.1
theorem fS.cL(hM:fS w S B iv gm FS n rv M)(r:Rel H nx iv B w O J)(G:J.grownBy V row)(OR:∀g,row=some g->Mb (DR gm FS) rv g):dT B J V:=
 dT.grown G (fun g e=>hM.base (OR g e)) r.bz
structure uG(w:World)(S:Nat->Prop)(B:Nat)(iv:Iv)(gm FS n:Nat)(rv:List Value)(M:List (List Rat))(i:Nat)(vb:Value):Prop where
 out:w.ownsRow 0 T.row 1 (DR gm FS) FS (rv.set i vb)
 was:∃w0,fS w0 S B iv gm FS n rv M/\∀g,Cv S B iv g->g≠gm->w.heap[g]? =w0.heap[g]?
theorem uG.cC{i:Nat}(h:uG w S B iv gm FS n rv M i vb)(R:∀g,Cv S B iv g->V.heap[g]? =w.heap[g]?):uG V S B iv gm FS n rv M i vb:=by
 obtain⟨w0,I,X⟩:=h.was;exact⟨ownsRow.cC h.out fun g G=>by injection G with G;subst G;exact R _ (Cg I.out),w0,I,fun g G OS=>(R g G).trans (X g G OS)⟩
theorem fS.OO(hM:fS w S B iv gm FS n rv M)(r:Rel H nx iv B w O J)(F:∀g,S g->g<B){i:Nat}(D:i<FS):
  ((⟨gm,0,none⟩:Addr).add ((i:Int).toNat*1)).spot=none/\(∀k,k<1->(J.cell? (((⟨gm,0,none⟩:Addr).add ((i:Int).toNat*1)).add k)).isSome=true/\J.frozen? (((⟨gm,0,none⟩:Addr).add ((i:Int).toNat*1)).add k)=false)/\
  (∀id b,cV H id=some b->(O id).nil=false->(O id).g≠((⟨gm,0,none⟩:Addr).add ((i:Int).toNat*1)).block)/\
  ∀w4,w4=setCells J ((⟨gm,0,none⟩:Addr).add ((i:Int).toNat*1)) [vb]->uG w4 S B iv gm FS n rv M i vb/\J.grownBy w4 (some gm):=by
 have SY:=hM.rel r F;have Om:(⟨gm,0,none⟩:Addr).add ((i:Int).toNat*1)=⟨gm,i*1,none⟩:=by rw[aF,dA,aV]
 have OR:J.ownsRow 0 T.row 1 (DR gm FS) FS rv:=by have:=SY.I6.out;rwa [hM.rows]at this
 obtain⟨g',e,OV,QA,Oc,Oj⟩:=kA (nv:=[vb]) OR rfl (show i<FS from D) rfl (by decide);injection e with e;injection e with e;subst e;rw[Ch (by rw[hM.rows];exact D)]at QA;rw[Om];refine⟨rfl,OV,Rel.not r (eI B) hM.out,fun w4 hw4=>?_⟩;rw[hw4];exact⟨⟨QA,J,SY,fun g G OS=>Oc.block g (Rel.old r F g G) fun e=>OS (by injection e)⟩,Oc⟩
theorem uG.rel{i:Nat}(h:uG w S B iv gm FS n rv M i vb)(r:Rel H nx iv B w O J)(F:∀g,S g->g<B):uG J S B iv gm FS n rv M i vb:=h.cC fun _ G=>Rel.same r F G
theorem uG.OP{i j:Nat}{va:Value}(hH:uG w S B iv gm FS n rv M i vb)(r:Rel H nx iv B w O J)(F:∀g,S g->g<B)(D:rv[i]? =some va)(hj:rv[j]? =some vb):
  ((⟨gm,0,none⟩:Addr).add ((j:Int).toNat*1)).spot=none/\(∀k,k<1->(J.cell? (((⟨gm,0,none⟩:Addr).add ((j:Int).toNat*1)).add k)).isSome=true/\J.frozen? (((⟨gm,0,none⟩:Addr).add ((j:Int).toNat*1)).add k)=false)/\
  (∀id b,cV H id=some b->(O id).nil=false->(O id).g≠((⟨gm,0,none⟩:Addr).add ((j:Int).toNat*1)).block)/\
  ∀w4,w4=setCells J ((⟨gm,0,none⟩:Addr).add ((j:Int).toNat*1)) [va]->fS w4 S B iv gm FS n ((rv.set i vb).set j va) (fV [] M i j)/\(∀g,Mb (DR gm FS) ((rv.set i vb).set j va) g↔Mb (DR gm FS) rv g)/\J.grownBy w4 (some gm):=by
 have hHr:=hH.rel r F;obtain⟨w0,hM,hwas⟩:=hHr.was;have Om:(⟨gm,0,none⟩:Addr).add ((j:Int).toNat*1)=⟨gm,j*1,none⟩:=by rw[aF,dA,aV]
 have hjR:j<FS:=by rw[<-hM.rows];exact(aD.1 hj).1
 obtain⟨g',e,OV,QA,Oc,Oj⟩:=kA (nv:=[va]) hHr.out rfl hjR rfl (by decide);injection e with e;injection e with e;subst e;rw[Ch (by rw[bX,hM.rows];exact hjR)]at QA;rw[Om];refine⟨rfl,OV,Rel.not r (eI B) hM.out,fun w4 hw4=>?_⟩;rw[hw4];have RP:∀g,Mb (DR gm FS) ((rv.set i vb).set j va) g↔Mb (DR gm FS) rv g:=fun g=>Mb.swap D hj;have hst2:(setCells J ⟨gm,j*1,none⟩ [va]).ownsRow 0 T.row 1 (DR gm FS) rv.length ((rv.set i vb).set j va):=by rw[hM.rows];exact QA
 have hsw:=hM.I6.swap (V:=setCells J ⟨gm,j*1,none⟩ [va]) (fun g G hm=>G.2 hm) D hj hst2 fun g G OS=>by
  have OS:g≠gm:=fun e=>OS (by rw[e];rfl);have hgc:Cv S B iv g:=G.elim (fun h=>h.1) fun h=>Cg (hM.oz g h);rw[Oc.block g (Rel.old r F g hgc) (fun e=>OS (by injection e)),hwas g hgc OS]
 have TF:∀g,j4 S B iv gm FS ((rv.set i vb).set j va) g↔j4 S B iv gm FS rv g:=fun g=>and_congr_right fun _=>not_congr (RP g);exact⟨⟨hsw.cF fun g G=>(TF g).2 G,fun g G=>hM.oz g ((RP g).1 G),by simp[hM.rows]⟩,RP,Oc⟩
theorem iR.rK(h:iR w S B iv rv n M)(r:Rel H nx iv B w O J)(F:∀g,S g->g<B){id:Nat}(hH:cV H id=some (.arr T.row rv))(Oe:(O id).nil=false)(hR:rv.length<=maxLen)(I:∀u∈rv,u.oneCell'=true):
  fS J S B (((O id).g,(O id).g+1)::iv) (O id).g rv.length n rv M:=by
 have hm:=h.I6 r F hH Oe hR I;refine⟨hm.cF fun g G=>⟨G.1.mono fun p hp=>aC _ hp,G.2⟩,fun g G=>?_,rfl⟩;rcases G with G|⟨u,hu,G⟩
 ·injection G with G;subst G;exact .inr ⟨(r.low id _ hH Oe).1,_,_,aG,Nat.le_refl _,bV _⟩
 ·exact(h.new u hu g G).mono fun p hp=>aC _ hp
end
end Go.Ex
