/- Texts X76 to X101: lemmas, each with its conditions. -/
import Derived.Test.YtgkpbdkechfgmaaGreatP7
namespace Go.Ex
open Go Go.Sx Go.Proofs
variable{A:List (List Value)}{xs ys:List Rat}{Z:List Value}{S:Nat->Prop}{O:Nat->Sx.eG}{b:Rat}{w:World}
def ER(w:World)(S:Nat->Prop)(A:List (List Value))(qs:List Rat):Prop:=∀(j:Nat) Z q,A[j]? =some Z->qs[j]? =some q->js w S Z q
section
variable{S S':Nat->Prop}{H:Hp}{nx:Nat}{iv N:Iv}{B:Nat}{w J Y:World}{O:Nat->Sx.eG}{A:List (List Value)}{qs:List Rat}
theorem ER.rel(h:ER w (Cv S B iv) A qs)(r:Rel H nx iv B w O J)(F:∀g,S g->g<B):ER J (Cv S B iv) A qs:=fun j Z q I G=>(h j Z q I G).cR fun _ X=>rls r F X
theorem ER.cS(h:ER w (Cv S B iv) A qs)(r:Rel H nx iv B w O J)(F:∀g,S g->g<B)(L:Ext J Y)(hm:∀p,p∈iv->p∈N):ER Y (Cv S B N) A qs:=fun j Z q I G=>
 (((h.rel r F) j Z q I G).cR fun g X=>L.block g (rlo r F g X)).cP fun _ X=>X.mono hm
theorem ER.push{q:Rat}(h:ER w S A qs)(hq:qs[A.length]? =some q)(hc:js w S Z q):ER w S (A++[Z]) qs:=fun j cs' q' I G=>by
 rcases aS j A.length with hj|hj
 .rw[aI hj]at I;exact h j cs' q' I G
 .have hj0:j=A.length:=by have:=(aE.1 I).1;simp at this;omega
  subst hj0;rw[aN lr,bO]at I;simp at I;rw[hq]at G;injection G with G;subst I G;exact hc
end
theorem Db(h:∀x∈A,x.length=4/\∀u∈x,u.oneCell'=true)(hc:Z.length=4/\∀u∈Z,u.oneCell'=true):∀x∈A++[Z],x.length=4/\∀u∈x,u.oneCell'=true:=fun x U=>by
 rcases bG.1 U with U|U
 .exact h x U
 .simp at U;subst U;exact hc
def aEA(w Y:World)(v:Value)(xs:List Rat):Prop:=∃A:List (List Value),Y.ownsRow w.heap.size T.Rat 4 v xs.length A.flatten/\A.length=xs.length/\(∀Z∈A,Z.length=4/\∀u∈Z,u.oneCell'=true)/\∀(j:Nat) Z q,A[j]? =some Z->xs[j]? =some q->js Y (fun g=>Nf w Y g/\v.ownBlock≠some g) Z q
theorem FR{id n g:Nat}(h:((At.w id n).den O).ownBlock=some g):(O id).nil=false/\(O id).g=g:=by
 cases W:(O id).nil with
 |true=>rw[show (At.w id n).den O=nls by simp[At.den,W]]at h;cases h
 |false=>
  rw[show (At.w id n).den O= .slice (some ⟨(O id).g,0,none⟩) n (O id).cap by simp[At.den,W]]at h;injection h with h;exact⟨rfl,h⟩
def mL(xs ys:List Rat)(b:Rat):List Rat:=(List.range ys.length).map fun j=>if 0<xs.length then xs.getD j 0+ys.getD j 0*b else ys.getD j 0*b
theorem qj(xs ys:List Rat)(b:Rat):(mL xs ys b).length=ys.length:=by simp[mL]
theorem zR{j:Nat}(h:j<ys.length):(mL xs ys b)[j]? =some (if 0<xs.length then xs.getD j 0+ys.getD j 0*b else ys.getD j 0*b):=by
 rw[mL,aO,bY h];rfl
theorem aB2{v u t:Value}(F:Old S w)(U:dK w S v xs)(hy:dK w S u ys)(hb:e9 w S t b)(hlen:xs=[]\/xs.length=ys.length)(W:ys.length<=1000000)(hbound:∀y∈ys,rl y+rl b<=100000):
  eH PG GT.vD #[v,u,t] w (eR w fun v' Y=>cX Y (Nf w Y) v' (mL xs ys b)/\aEA w Y v' (mL xs ys b)):=by
 have V:=bR w;obtain⟨ax,cx,rfl,To,UJ⟩:=dT.shape U;obtain⟨ay,cy,rfl,hcy,hmy⟩:=dT.shape hy;obtain⟨t0,t1,t2,t3,t4,t5,t6,t7,rfl⟩:=hb.shape;have Q4:=qj xs ys b;refine Dn bv ?_
 refine⟨List (List Value)×World×Iv,fun z=>⟨[(0,sV ax xs.length cx),(1,sV ay ys.length cy),(5,pP 0 0),(7,.o (.w 1 z.1.length)),(8,iZ z.1.length)],[(1,.vec T.Rat 4 z.1.flatten),(0,.box T.Rat [.v (.bool t0),.v (.slice t1 t2 t3),.v (.bool t4),.v (.slice t5 t6 t7)])],2,z.2.2,z.2.1⟩,fun z=>ys.length-z.1.length,
  fun z=>z.1.length<=ys.length/\Bq w z.2.1/\(∀x∈z.1,x.length=4/\∀u∈x,u.oneCell'=true)/\ER z.2.1 (Cf w z.2.2) z.1 (mL xs ys b),?_,?_⟩
 .intro O J r
  exact⟨([],J,[]),⟨bv,r.cZ,bv,fun j Z q h=>by simp at h⟩,Sub.nil 7 T.Rat 4 rfl (by simp[kK,SV.sc,At.sc,fc]) r fun In r1=>
   sbgn [] r1⟩
 clear V;rintro⟨A,w1,iv⟩ ⟨D,V,h4,Qz⟩;dsimp only at D V h4 Qz ⊢;have PM:=eP fun x U=>(h4 x U).1;apply bS<;>intro Ou
 .have Ou:A.length<ys.length:=by simpa using Ou
  obtain⟨y,Sn⟩:=gO ys A.length;obtain⟨ady,csy,VS,Rt,_,RL⟩:=dT.load hy Sn;obtain⟨p0,p1,p2,p3,p4,p5,p6,p7,rfl,Rt⟩:=Rt;have hyd:ys.getD A.length 0=y:=by rw[List.getD,Sn];rfl
  have Xy:=zR (xs:=xs) (b:=b) Ou;rw[hyd]at Xy;have Pm:=hbound y (aC Sn);have hrm:=fh y b;apply bS<;>intro SS
  .have SS:0<xs.length:=by have:=aK SS;omega
   have QM:A.length<xs.length:=hlen.elim (fun h=>by rw[h]at SS;simp at SS) (fun h=>be);obtain⟨x,QB⟩:=gO xs A.length;obtain⟨adx,csx,QU,Qu,_,Pq⟩:=dT.load U QB;obtain⟨q0,q1,q2,q3,q4,q5,q6,q7,rfl,Qu⟩:=Qu;have WL:xs.getD A.length 0=x:=by rw[List.getD,QB];rfl
   rw[aM SS,WL]at Xy;refine⟨ady,VS,be,rC p0 p1 p2 p3 p4 p5 p6 p7,rfl,fun O J r i x U=>?_,?_⟩
   .obtain⟨k1,k2⟩:=RL i x U;rw[aF,cV (w:=w) (Y:=J) (by rw[dO,dO];exact(V.tr r.cZ).block _ (F _ k1))];exact k2
   refine cQ (cE V (pE (iV (rs y))) (fun O J r=>vo (oS F r) (Rt.cR (kS V r F))) ?_);rintro O Pw v1 Pa PA r L V E rfl;replace Qz:=Qz.cS r oF L (mC E);clear r;apply bS<;>intro hs
   .have hs:y=0:=lV.1 (by simpa using hs);rw[hs,bI,bV]at Xy;refine⟨adx,QU,be,rC q0 q1 q2 q3 q4 q5 q6 q7,rfl,fun O J r i x U=>?_,?_⟩
    .obtain⟨k1,k2⟩:=Pq i x U;rw[aF,cV (w:=w) (Y:=J) (by rw[dO,dO];exact(V.tr r.cZ).block _ (F _ k1))];exact k2
    refine cQ (cE V (pR cY (x)) (fun O J r=>iF (oS F r) (Qu.cR (kS V r F))) ?_);rintro O Qb v2 Px Oy r L V E W;replace Qz:=Qz.cS r oF L (mC E);have Va:=W.cP (nw r E);clear r W;obtain⟨A0,A1,A2,A3,A4,A5,A6,A7,rfl⟩:=Va.shape;refine .inl ?_;refine⟨PM,be,mx,((A.length+1:Nat):Int),wo,?_⟩;intro I' w3 R;have Q7:(A++[[Value.bool A0,.slice A1 A2 A3,.bool A4,.slice A5 A6 A7]]).length=A.length+1:=by simp
    have hf3:(A++[[Value.bool A0,.slice A1 A2 A3,.bool A4,.slice A5 A6 A7]]).flatten=A.flatten++[Value.bool A0,.slice A1 A2 A3,.bool A4,.slice A5 A6 A7]:=by simp
    exact⟨(A++[rC A0 A1 A2 A3 A4 A5 A6 A7],w3,_),⟨by dsimp only;rw[Q7];exact Ou,V.tr R.cZ,Db h4 ⟨rfl,by intro u hu;simp at hu;rcases hu with rfl|rfl|rfl|rfl<;>rfl⟩,(Qz.rel R oF).push Xy (Va.rel R oF).sd⟩,
     sbgn [(1,3)] R ⟨by dsimp only;rw[hf3];rfl,rfl,trivial⟩ ⟨rfl,rfl,rfl,by dsimp only;rw[Q7];rfl,by dsimp only;rw[Q7];rfl,trivial⟩,by dsimp only;rw[Q7];omega⟩
   refine dP [.x 0,.x 1,.x 2,.x 3,.x 4,.p 6,.x 5,.x 6,.x 7] ?_;refine⟨ady,VS,be,rC p0 p1 p2 p3 p4 p5 p6 p7,rfl,fun O J r i x U=>?_,?_⟩
   .obtain⟨k1,k2⟩:=RL i x U;rw[aF,cV (w:=w) (Y:=J) (by rw[dO,dO];exact(V.tr r.cZ).block _ (F _ k1))];exact k2
   refine cE V (pR cY (y*b)) (fun O J r=>vO (oS F r) (Rt.cR (kS V r F)) (hb.cR (kS V r F))) ?_;rintro O _ _ _ Oy r L V E W;replace Qz:=Qz.cS r oF L (mC E);have hm:=W.cP (nw r E);clear r W;obtain⟨A0,A1,A2,A3,A4,A5,A6,A7,rfl⟩:=hm.shape;refine tG.mk (fun Sq=>?_) (fun Sq=>absurd SS (by have:=aG Sq;omega));refine dP (idO 7) ?_;refine⟨adx,QU,be,rC q0 q1 q2 q3 q4 q5 q6 q7,rfl,fun O J r i x U=>?_,?_⟩
   .obtain⟨k1,k2⟩:=Pq i x U;rw[aF,cV (w:=w) (Y:=J) (by rw[dO,dO];exact(V.tr r.cZ).block _ (F _ k1))];exact k2
   refine cE V (pR cY (x+y*b)) (fun O J r=>vR (rlo r F) ((Qu.cR (kS V r F)).cP fun g X=>Or.inl X) (((hm.rel r oF).l be).cP fun g X=>Cv.false X)) ?_;rintro O _ _ _ PH r L V E W;replace Qz:=Qz.cS r oF L (mC E);clear hm;have Va:=W.cP (nw r E);clear r W;obtain⟨C0,C1,C2,C3,C4,C5,C6,C7,rfl⟩:=Va.shape;refine .inl ?_;refine⟨PM,be,mx,((A.length+1:Nat):Int),wo,?_⟩;intro I' w3 R;have Q7:(A++[[Value.bool C0,.slice C1 C2 C3,.bool C4,.slice C5 C6 C7]]).length=A.length+1:=by simp
   have hf3:(A++[[Value.bool C0,.slice C1 C2 C3,.bool C4,.slice C5 C6 C7]]).flatten=A.flatten++[Value.bool C0,.slice C1 C2 C3,.bool C4,.slice C5 C6 C7]:=by simp
   exact⟨(A++[rC C0 C1 C2 C3 C4 C5 C6 C7],w3,_),⟨by dsimp only;rw[Q7];exact Ou,V.tr R.cZ,Db h4 ⟨rfl,by intro u hu;simp at hu;rcases hu with rfl|rfl|rfl|rfl<;>rfl⟩,(Qz.rel R oF).push Xy (Va.rel R oF).sd⟩,
    sbgn [(1,4)] R ⟨by dsimp only;rw[hf3];rfl,rfl,trivial⟩ ⟨rfl,rfl,rfl,by dsimp only;rw[Q7];rfl,by dsimp only;rw[Q7];rfl,trivial⟩,by dsimp only;rw[Q7];omega⟩
  have SS:¬0<xs.length:=by have:=aG SS;omega
  rw[aJ SS]at Xy;refine dP [.x 0,.x 1,.x 2,.x 3,.x 4,.p 6,.x 5,.x 6,.x 7] ?_;refine⟨ady,VS,be,rC p0 p1 p2 p3 p4 p5 p6 p7,rfl,fun O J r i x U=>?_,?_⟩
  .obtain⟨k1,k2⟩:=RL i x U;rw[aF,cV (w:=w) (Y:=J) (by rw[dO,dO];exact(V.tr r.cZ).block _ (F _ k1))];exact k2
  refine cE V (pR cY (y*b)) (fun O J r=>vO (oS F r) (Rt.cR (kS V r F)) (hb.cR (kS V r F))) ?_;rintro O _ _ _ PA r L V E W;replace Qz:=Qz.cS r oF L (mC E);have hm:=W.cP (nw r E);clear r W;obtain⟨F0,F1,F2,F3,F4,F5,F6,F7,rfl⟩:=hm.shape;refine tG.mk (fun Sq=>absurd (aK Sq) be) (fun Sq=>?_);refine .inl ?_;refine⟨PM,be,mx,((A.length+1:Nat):Int),wo,?_⟩;intro I' w3 R;have Q7:(A++[[Value.bool F0,.slice F1 F2 F3,.bool F4,.slice F5 F6 F7]]).length=A.length+1:=by simp
  have hf3:(A++[[Value.bool F0,.slice F1 F2 F3,.bool F4,.slice F5 F6 F7]]).flatten=A.flatten++[Value.bool F0,.slice F1 F2 F3,.bool F4,.slice F5 F6 F7]:=by simp
  exact⟨(A++[rC F0 F1 F2 F3 F4 F5 F6 F7],w3,_),⟨by dsimp only;rw[Q7];exact Ou,V.tr R.cZ,Db h4 ⟨rfl,by intro u hu;simp at hu;rcases hu with rfl|rfl|rfl|rfl<;>rfl⟩,(Qz.rel R oF).push Xy (hm.rel R oF).sd⟩,
   sbgn [(1,4)] R ⟨by dsimp only;rw[hf3];rfl,rfl,trivial⟩ ⟨rfl,rfl,rfl,by dsimp only;rw[Q7];rfl,by dsimp only;rw[Q7];rfl,trivial⟩,by dsimp only;rw[Q7];omega⟩
 have Ou:A.length=ys.length:=Nat.le_antisymm D (by simpa using Ou);intro J8 we re;have PX:∀u∈A.flatten,u.oneCell'=true:=fun u hu=>by
  obtain⟨Z,hc,hu⟩:=List.mem_flatten.1 hu;exact(h4 Z hc).2 u hu
 refine⟨_,rfl,V.tr re.cZ,?_,A,by rw[Q4,<-Ou];exact B9 re (id:=1) rfl PM bi,by rw[Q4];exact Ou,h4,fun j Z q k1 k2=>((Qz j Z q k1 k2).cR fun g X=>rls re oF X).cP fun g X=>⟨Cv.nw X re,fun e=>Rel.not re oF X 1 _ rfl (FR e).1 (FR e).2⟩⟩;refine⟨A,?_,by rw[Q4];exact Ou,fun Z hc=>(h4 Z hc).1,fun j Z q k1 k2=>((Qz j Z q k1 k2).cR fun g X=>rls re oF X).cP fun g X=>Cv.nw X re⟩;have:=re.iD (id:=1) (sz:=4) (m:=A.length) rfl PM mx bi PX;rw[Q4,<-Ou];exact this.cP fun g X=>.inr X
theorem ME{v u t:Value}(F:Old S w)(U:dK w S v xs)(hy:dK w S u ys)(hb:e9 w S t b)(hlen:xs=[]\/xs.length=ys.length)(W:ys.length<=1000000)(hbound:∀y∈ys,rl y+rl b<=100000):
  eH PG GT.vD #[v,u,t] w (eR w fun v' Y=>cX Y (Nf w Y) v' (mL xs ys b)):=
 (aB2 F U hy hb hlen W hbound).mono fun _ _ ⟨v2,e1,e2,e3,_⟩=>⟨v2,e1,e2,e3⟩
end Go.Ex
namespace Go.Ex
variable{M:List (List Rat)}{s:List (List Rat)×List Nat}{r:List Rat}
theorem Be{c r k Fn:Nat}(K:r<=k)(hR:k<=Fn)(h:∀j,r<=j->j<k->dF M j c=0):jW M c (Fn-r) r=jW M c (Fn-k) k:=by
 induction k with
 |zero=>
  have:r=0:=by omega
  subst this;rfl
 |succ k ih=>
  rcases aS k r with I|I
  .have:r=k+1:=by omega
   subst this;rfl
  .rw[ih I be fun j G h3=>h j G be,show Fn-k=(Fn-(k+1))+1 by omega,Jj (h k I be)]
theorem Fv{a c i:Nat}(h:M[i]? =some r)(h0:r.getD c 0=0):eE M a c (i+1)=eE M a c i:=by
 unfold eE;refine bT fun j=>?_;rw[List.getElem?_mapIdx,List.getElem?_mapIdx];by_cases hj:j=i
 .subst hj;rw[h];simp only[bw]
  by_cases ha:j=a
  .rw[aJ be,aJ be]
  .rw[aM ⟨be,ha⟩,aJ be,h0];congr 1;refine bT fun k=>?_;rw[List.getElem?_mapIdx]
   cases r[k]? with
   |none=>rfl
   |some q=>simp[ou,bV]
 .cases M[j]? with
  |none=>rfl
  |some r'=>
   simp only[bw]
   by_cases G:j<i/\j≠a
   .rw[aM ⟨be,G.2⟩,aM G]
   .rw[aJ be,aJ G]
theorem gV{α:Type}{l:List α}{i:Nat}{x:α}(h:i<l.length):l.take i++[x]++l.drop (i+1)=l.set i x:=by
 rw[List.set_eq_take_append_cons_drop,aM h];simp
theorem Bf{c:Nat}(h:¬s.2.length<s.1.length\/jW s.1 c (s.1.length-s.2.length) s.2.length=s.1.length):dy s c=s:=by
 unfold dy;split
 .rcases h with h|h
  .exact absurd ‹_› h
  .dsimp only;rw[if_pos h]
 .rfl
theorem Bg{c k:Nat}(K:s.2.length<=k)(hl:k<s.1.length)(h:∀j,s.2.length<=j->j<k->dF s.1 j c=0)(W:dF s.1 k c≠0):
  dy s c=(eE (scaled (fC [] s.1 s.2.length k) s.2.length c) s.2.length c s.1.length,s.2++[c]):=by
 have e:jW s.1 c (s.1.length-s.2.length) s.2.length=k:=by
  rw[Be K be h,show s.1.length-k=(s.1.length-k-1)+1 by omega,Jk W]
 unfold dy;rw[aM be];dsimp only
 rw[e,aJ be,tz,jl]
theorem M6{c k:Nat}(K:s.2.length<=k)(hl:k=s.1.length)(h:∀j,s.2.length<=j->j<k->dF s.1 j c=0):dy s c=s:=by
 refine Bf (.inr ?_);rw[Be K be h,hl,bO];rfl
end Go.Ex
namespace Go.Ex
open Go Go.Sx Go.Proofs
variable{qs x:List Rat}{S:Nat->Prop}{u v:Value}{w:World}
theorem Nc(ys:List Rat)(b:Rat):mL [] ys b=ys.map (· *b):=by
 refine bT fun j=>?_;rcases aS j ys.length with h|h
 .rw[zR h,aJ bv,aO,List.getD,aD h];rfl
 .rw[List.getElem?_eq_none (by rw[qj];exact h),List.getElem?_eq_none (by simp;exact h)]
theorem Kj{xs ys:List Rat}(b:Rat)(h:xs.length=ys.length):mL xs ys b=xs.mapIdx (ou b ys):=by
 refine bT fun j=>?_;rw[List.getElem?_mapIdx];rcases aS j ys.length with I|I
 .rw[zR I,aM be,aD be,List.getD,aD (show j<xs.length by omega)];simp[ou,cB]
 .rw[List.getElem?_eq_none (by rw[qj];exact I),List.getElem?_eq_none (show xs.length<=j by omega)];rfl
theorem cX.l(h:cX w S v qs)(hq:∀q∈qs,rl q<=100000):dK w S v qs:=by
 obtain⟨A,I,G,h3,h4⟩:=h;refine⟨A,I,G,h3,fun j Z q k1 k2=>?_⟩;obtain⟨b,a,n,c,b2,a2,n2,c2,e,hc⟩:=h4 j Z q k1 k2;exact⟨b,a,n,c,b2,a2,n2,c2,e,hc.l (hq q (aC k2))⟩
theorem dK.nil(w:World)(S:Nat->Prop):dK w S nls []:=⟨[],⟨bv,bv,bv,none,0,rfl,lr,bv⟩,rfl,bv,bv⟩
theorem FP{p q:Rat}(F:Old S w)(hp:e9 w S v p)(hq:e9 w S u q)(h0:q≠0):
  eH PG GT.yj #[v,u] w (eR w fun v' Y=>∃r,v'= .tuple #[r,iV 0]/\cY Y (Nf w Y) r (p / q)):=
 (aDR F hp hq).mono fun _ _ ⟨v2,e1,e2,e3⟩=>⟨v2,e1,e2,e3.elim (fun h=>absurd h.1 h0) fun h=>h.2⟩
def ix(w:World)(S:Nat->Prop)(rv:List Value)(M:List (List Rat)):Prop:=rv.length=M.length/\(∀u∈rv,u.oneCell'=true)/\∀(i:Nat) u r,rv[i]? =some u->M[i]? =some r->dK w S u r
section
variable{S S':Nat->Prop}{H:Hp}{nx:Nat}{iv N:Iv}{B:Nat}{w J Y:World}{O:Nat->Sx.eG}{rv:List Value}{M:List (List Rat)}
theorem ix.rel(h:ix w (Cv S B iv) rv M)(r:Rel H nx iv B w O J)(F:∀g,S g->g<B):ix J (Cv S B iv) rv M:=⟨h.1,h.2.1,fun i u x I G=>dK.rel (h.2.2 i u x I G) r F⟩
theorem ix.cS(h:ix w (Cv S B iv) rv M)(r:Rel H nx iv B w O J)(F:∀g,S g->g<B)(L:Ext J Y)(hm:∀p,p∈iv->p∈N):ix Y (Cv S B N) rv M:=⟨h.1,h.2.1,fun i u x I G=>dK.cS (h.2.2 i u x I G) r F L hm⟩
theorem ix.set{i:Nat}(h:ix w S rv M)(hu:u.oneCell'=true)(U:dK w S u x):ix w S (rv.set i u) (M.set i x):=by
 refine⟨by simp[h.1],fun v hv=>?_,fun j v y I G=>?_⟩
 .rcases bE hv with I|I
  .exact h.2.1 v I
  .rw[I];exact hu
 .rw[List.getElem?_set]at I G;by_cases hj:i=j
  .rw[aM hj]at I G;split at I
   .split at G
    .injection I with I;injection G with G;subst I G;exact U
    .cases G
   .cases I
  .rw[aJ hj]at I G;exact h.2.2 j v y I G
theorem ix.get{i:Nat}(h:ix w S rv M)(D:i<M.length):∃u r,rv[i]? =some u/\M[i]? =some r/\dK w S u r:=by
 obtain⟨u,hu⟩:∃u,rv[i]? =some u:=⟨_,aD (by rw[h.1];exact D)⟩
 obtain⟨r,hr⟩:=gO M i;exact⟨u,r,hu,hr,h.2.2 i u r hu hr⟩
end
end Go.Ex
namespace Go.Ex
variable{M:List (List Rat)}{s:List (List Rat)×List Nat}{r:List Rat}{w:Nat}{p x:Rat}
theorem M7{c:Nat}(h:c<w):(r.take w).getD c 0=r.getD c 0:=by
 simp only[List.getD,List.getElem?_take,aM h]
def tk(w:Nat)(M:List (List Rat)):List (List Rat):=M.map (·.take w)
theorem M8(w:Nat)(M:List (List Rat)):(tk w M).length=M.length:=aL ..
theorem aB8(w:Nat)(M:List (List Rat))(i:Nat):(tk w M).getD i []=(M.getD i []).take w:=by
 unfold tk;simp only[List.getD,aO]
 cases M[i]? <;>simp
theorem aCn{i c:Nat}(h:c<w):dF (tk w M) i c=dF M i c:=by
 unfold dF;rw[aB8,M7 h]
theorem eC(M:List (List Rat))(cols:Nat):(cW M cols).1.length=M.length:=by
 have key:∀(l:List Nat) (s:List (List Rat)×List Nat),(l.foldl dy s).1.length=s.1.length:=by
  intro l
  induction l with
  |nil=>exact fun s=>rfl
  |cons c l ih=>exact fun s=>by rw[List.foldl_cons,ih,pn]
 exact key _ _
theorem uh{M:List (List Rat)}{c:Nat}:∀f k j,k<=j->j<jW M c f k->dF M j c=0
 |0,k,j,I,G=>by simp only[jW]at G;omega
 |f+1,k,j,I,G=>by
  unfold jW at G;split at G
  .rename_i h0;rcases aS k j with h|h
   .exact uh f (k+1) j h G
   .rw[show j=k by omega];exact h0
  .omega
theorem kL(c:Nat)(hle:s.2.length<=s.1.length):(dy s c=s/\∀j,s.2.length<=j->j<s.1.length->dF s.1 j c=0)\/
  ∃k,s.2.length<=k/\k<s.1.length/\dF s.1 k c≠0/\dy s c=(eE (scaled (fC [] s.1 s.2.length k) s.2.length c) s.2.length c s.1.length,s.2++[c]):=by
 have I:=Bh s.1 c (s.1.length-s.2.length) s.2.length;by_cases K:jW s.1 c (s.1.length-s.2.length) s.2.length=s.1.length
 .exact .inl ⟨Bf (.inr K),fun j hj hl=>uh (s.1.length-s.2.length) s.2.length j hj be⟩
 .exact .inr ⟨_,I.1,be,Bi s.1 c _ _ be,Bg I.1 be (fun j G h3=>uh _ _ j G h3) (Bi s.1 c _ _ be)⟩
theorem Hj{i:Nat}(h:i<M.length):M.getD i []∈M:=by
 rw[List.getD,aD h];exact bA h
theorem yT{s:List Rat}{c:Nat}(h:c<r.length):(r.mapIdx (ou p s)).getD c 0=r.getD c 0+p*s.getD c 0:=by
 simp only[List.getD,List.getElem?_mapIdx,aD h]
 rfl
theorem Bj{k:Rat}{c:Nat}:(r.map (· *k)).getD c 0=r.getD c 0*k:=by
 simp only[List.getD,aO]
 cases r[c]? with
 |none=>exact(bI k).symm
 |some q=>rfl
theorem mn{c k n:Nat}(hl:fz n s.1)(I:s.2.length<=k)(G:k<s.1.length)(h3:dF s.1 k c≠0)(e:dy s c=(eE (scaled (fC [] s.1 s.2.length k) s.2.length c) s.2.length c s.1.length,s.2++[c])):
  (∀t,dF (dy s c).1 s.2.length t=dF s.1 k t*(1 / dF s.1 k c))/\
  ∀j,j<s.1.length->j≠s.2.length->∀t,t<n->dF (dy s c).1 j t=dF s.1 (if j=k then s.2.length else j) t+ -(dF s.1 (if j=k then s.2.length else j) c)*(dF s.1 k t*(1 / dF s.1 k c)):=by
 have hp:s.2.length<s.1.length:=by omega
 have hsw:dF (fC [] s.1 s.2.length k) s.2.length c=dF s.1 k c:=Bk hp G;have Vb:(scaled (fC [] s.1 s.2.length k) s.2.length c).getD s.2.length []=(s.1.getD k []).map (· *(1 / dF s.1 k c)):=by
  unfold scaled;rw[hsw,List.getD,aT (by rw[jl];exact hp)];simp only[Option.getD_some]
  congr 1;rw[List.getD,List.getD,E9 hp G]
 have Ov:∀j,j<s.1.length->j≠s.2.length->(scaled (fC [] s.1 s.2.length k) s.2.length c)[j]? =some (s.1.getD (if j=k then s.2.length else j) []):=fun j hj Ox=>by
  unfold scaled;rw[aY (Ne.symm Ox)];unfold fC;by_cases TF:j=k
  .subst TF;rw[aT (by simpa using hj),aM rfl]
  .rw[aY (Ne.symm TF),aY (Ne.symm Ox),aJ TF,List.getD,aD hj];rfl
 have hgp:(eE (scaled (fC [] s.1 s.2.length k) s.2.length c) s.2.length c s.1.length).getD s.2.length []=(s.1.getD k []).map (· *(1 / dF s.1 k c)):=by
  rw[<-Vb];simp only[List.getD,ui]
 rw[e];refine⟨fun t=>?_,fun j hj Ox t ht=>?_⟩
 .show((eE (scaled (fC [] s.1 s.2.length k) s.2.length c) s.2.length c s.1.length).getD s.2.length []).getD t 0=_;rw[hgp,Bj];rfl
 .have hgj:(eE (scaled (fC [] s.1 s.2.length k) s.2.length c) s.2.length c s.1.length).getD j []=(s.1.getD (if j=k then s.2.length else j) []).mapIdx (ou (-((s.1.getD (if j=k then s.2.length else j) []).getD c 0)) ((s.1.getD k []).map (· *(1 / dF s.1 k c)))):=by
   simp only[List.getD,eE,List.getElem?_mapIdx,Ov j hj Ox,bw,Option.getD_some]
   rw[aM ⟨hj,Ox⟩];exact congrArg (fun P=>(s.1.getD (if j=k then s.2.length else j) []).mapIdx (ou (-((s.1.getD (if j=k then s.2.length else j) []).getD c 0)) P)) Vb
  show((eE (scaled (fC [] s.1 s.2.length k) s.2.length c) s.2.length c s.1.length).getD j []).getD t 0=_;rw[hgj,yT (by rw[hl.getD (by split<;>omega)];exact ht),Bj];rfl
theorem wP(h:x≠0):x*(1 / x)=1:=by rw[bh,bs,Rat.mul_inv_cancel x h]
def Red(n c:Nat)(s:List (List Rat)×List Nat):Prop:=fz n s.1/\s.2.length<=s.1.length/\(∀j t,s.2.length<=j->j<s.1.length->t<c->dF s.1 j t=0)/\(∀p∈s.2,p<c)/\
 ∀i j,i<s.2.length->j<s.1.length->dF s.1 j (s.2.getD i 0)=if j=i then 1 else 0
theorem Red.step{n c:Nat}{s:List (List Rat)×List Nat}(h:Red n c s)(hc:c<n):Red n (c+1) (dy s c):=by
 obtain⟨hl,hle,hz,R6,hu⟩:=h;rcases kL c hle with⟨e,h0⟩|⟨k,I,G,h3,e⟩
 .rw[e];refine⟨hl,hle,fun j t hj Tu ht=>?_,fun p hp=>by have:=R6 p hp;omega,hu⟩;rcases aS t c with h|h
  .exact hz j t hj Tu h
  .rw[show t=c by omega];exact h0 j hj Tu
 .obtain⟨r1,r2⟩:=mn hl I G h3 e;have hlen:(dy s c).1.length=s.1.length:=pn s c;have e2:(dy s c).2=s.2++[c]:=by rw[e]
  have e3:(dy s c).2.length=s.2.length+1:=by rw[e2];simp
  have PX:∀j,j<s.1.length->j≠s.2.length->dF (dy s c).1 j c=0:=fun j hj Ox=>by
   rw[r2 j hj Ox c hc,wP h3,Rat.mul_one,Rat.add_neg_cancel]
  refine⟨hl.step,by rw[e3,hlen];omega,fun j t hj Tu ht=>?_,fun p hp=>?_,fun i j D hj=>?_⟩
  .rw[e3]at hj;rw[hlen]at Tu;rcases aS t c with h|h
   .rw[r2 j Tu be t be,hz k t I G h,hz (if j=k then s.2.length else j) t (by split<;>omega) (by split<;>omega) h,bI,bF,Rat.zero_add]
   .rw[show t=c by omega];exact PX j Tu be
  .rw[e2]at hp;rcases bG.1 hp with hp|hp
   .have:=R6 p hp;omega
   .rw[bK.1 hp];omega
  .rw[e3]at D;rw[hlen]at hj;rcases aS i s.2.length with h|h
   .have X:(dy s c).2.getD i 0=s.2.getD i 0:=by rw[e2,List.getD,aI h,<-List.getD]
    have YQ:s.2.getD i 0<c:=R6 _ (by rw[List.getD,aD h];exact bA h);have Sc:dF s.1 k (s.2.getD i 0)=0:=hz k _ I G YQ;rw[X];by_cases WU:j=s.2.length
    .rw[WU,r1,Sc,bI,aJ be]
    .rw[r2 j hj WU _ be,Sc,bI,bF,bV];by_cases TF:j=k
     .rw[aM TF,hu i _ h be,aJ be,aJ be]
     .rw[aJ TF,hu i j h hj]
   .have X:(dy s c).2.getD i 0=c:=by rw[e2,List.getD,aN h,show i-s.2.length=0 by omega];rfl
    rw[X];by_cases WU:j=s.2.length
    .rw[WU,r1,wP h3,aM be]
    .rw[PX j hj WU,aJ be]
theorem di{M:List (List Rat)}{n:Nat}(hl:fz n M):∀cols,cols<=n->Red n cols (cW M cols)
 |0,_=>⟨hl,aR _,fun _ _ _ _ h=>be,fun p hp=>(by cases hp),fun _ _ h=>(by cases h)⟩
 |c+1,h=>by
  have ih:=di hl c be;unfold cW at ih ⊢;rw[bU,List.foldl_append];exact ih.step be
abbrev Mx:=Nat->Nat->Rat
def skip(k j:Nat):Nat:=if j<k then j else j+1
def l6(k:Nat):Rat:=if k % 2=1 then -1 else 1
def dC(f:Nat->Rat):Nat->Rat
 |0=>0
 |n+1=>dC f n+f n
def eO:Nat->Mx->Rat
 |0,_=>1
 |n+1,m=>dC (fun k=>l6 k*(m 0 k*eO n fun i j=>m (i+1) (skip k j))) (n+1)
theorem cT{f g:Nat->Rat}:∀{n:Nat},(∀k,k<n->f k=g k)->dC f n=dC g n
 |0,_=>rfl
 |n+1,h=>by rw[dC,dC,cT fun k K=>h k be,h n be]
theorem df:∀(n:Nat),dC (fun _=>0) n=0
 |0=>rfl
 |n+1=>by rw[dC,df n,bV]
theorem fg(f g:Nat->Rat):∀(n:Nat),dC (fun k=>f k+g k) n=dC f n+dC g n
 |0=>(bV 0).symm
 |n+1=>by rw[dC,dC,dC,fg f g n];grind
theorem ec(p:Rat)(f:Nat->Rat):∀(n:Nat),dC (fun k=>p*f k) n=p*dC f n
 |0=>(bF p).symm
 |n+1=>by rw[dC,dC,ec p f n];grind
theorem ov(f:Nat->Rat)(n:Nat):dC (fun k=> -f k) n= -dC f n:=by
 have h:=ec (-1) f n;rw[show (-1:Rat)*dC f n= -dC f n by grind]at h;rw[<-h];exact cT fun k _=>by grind
theorem kE(f:Nat->Rat):∀(n:Nat),dC f (n+1)=f 0+dC (fun k=>f (k+1)) n
 |0=>by show 0+f 0=f 0+0;grind
 |n+1=>by rw[dC,kE f n,dC];grind
theorem Fw{k j n:Nat}(h:j<n):skip k j<n+1:=by unfold skip;split<;>omega
theorem M9{k l:Nat}(h:k<=l)(j:Nat):skip k (skip l j)=skip (l+1) (skip k j):=by
 unfold skip;grind
theorem fM:∀{n:Nat} {m m':Mx},(∀i j,i<n->j<n->m i j=m' i j)->eO n m=eO n m'
 |0,_,_,_=>rfl
 |n+1,m,m',h=>by
  unfold eO;refine cT fun k K=>?_;rw[h 0 k be K,fM fun i j D hj=>h (i+1) (skip k j) be (Fw hj)]
def iL(m:Mx)(r:Nat)(u:Nat->Rat):Mx:=fun i j=>if i=r then u j else m i j
theorem yU(m:Mx)(r k:Nat)(u:Nat->Rat):(fun i j=>iL m (r+1) u (i+1) (skip k j))=iL (fun i j=>m (i+1) (skip k j)) r fun j=>u (skip k j):=by
 funext i j
 unfold iL;by_cases h:i=r
 .rw[aM h,aM be]
 .rw[aJ h,aJ be]
theorem mq(p:Rat):∀(n r:Nat) (m:Mx),r<n->∀(u v:Nat->Rat),eO n (iL m r fun j=>u j+p*v j)=eO n (iL m r u)+p*eO n (iL m r v)
 |0,_,_,h,_,_=>by omega
 |n+1,0,m,_,u,v=>by
  unfold eO;rw[<-ec,<-fg];refine cT fun k _=>?_;have e:∀x:Nat->Rat,(fun i j=>iL m 0 x (i+1) (skip k j))=fun i j=>m (i+1) (skip k j):=fun x=>by
   funext i j;unfold iL;rw[aJ be]
  rw[e,e,e];unfold iL;rw[aM rfl,aM rfl,aM rfl];grind
 |n+1,r+1,m,h,u,v=>by
  unfold eO;rw[<-ec,<-fg];refine cT fun k _=>?_;rw[yU,yU,yU,mq p n r _ be (fun j=>u (skip k j)) fun j=>v (skip k j)];have e:∀x:Nat->Rat,iL m (r+1) x 0 k=m 0 k:=fun x=>by unfold iL;rw[aJ be]
  rw[e,e,e];grind
theorem Bt{Do:Nat->Nat->Rat}:∀{n:Nat},(∀k l,k<=l->l<n->Do k l+Do (l+1) k=0)->dC (fun k=>dC (Do k) n) (n+1)=0
 |0,_=>by show 0+0=(0:Rat);grind
 |n+1,h=>by
  have ih:=Bt (Do:=Do) (n:=n) fun k l I G=>h k l I be;have h3:dC (fun k=>Do k n+Do (n+1) k) (n+1)=0:=by
   rw[cT (g:=fun _=>0) fun k K=>h k n be be,df]
  rw[fg]at h3;rw[dC];have h4:dC (fun k=>dC (Do k) (n+1)) (n+1)=dC (fun k=>dC (Do k) n) (n+1)+dC (fun k=>Do k n) (n+1):=by
   rw[<-fg];rfl
  rw[h4,ih,Rat.zero_add];exact h3
def mS(a b i:Nat):Nat:=if i=a then b else if i=b then a else i
theorem Ma(r i:Nat):mS (r+1) (r+2) (i+1)=mS r (r+1) i+1:=by
 unfold mS;by_cases h:i=r
 .rw[aM be,aM h]
 .rw[aJ be,aJ h];by_cases G:i=r+1
  .rw[aM be,aM G]
  .rw[aJ be,aJ G]
theorem OS(k:Nat):l6 (k+1)= -l6 k:=by
 unfold l6;by_cases h:k % 2=1
 .rw[aM h,aJ be];grind
 .rw[aJ h,aM be]
theorem Hl(n:Nat)(m:Mx):eO (n+2) m=dC (fun k=>dC (fun l=>l6 k*l6 l*(m 0 k*m 1 (skip k l))*eO n fun i j=>m (i+2) (skip k (skip l j))) (n+1)) (n+2):=by
 rw[eO];refine cT fun k _=>?_;rw[eO,<-ec,<-ec];refine cT fun l _=>?_;grind
theorem Bu:∀(n r:Nat) (m:Mx),r+1<n->eO n (fun i j=>m (mS r (r+1) i) j)= -eO n m
 |0,_,_,h=>by omega
 |1,_,_,h=>by omega
 |n+2,0,m,_=>by
  rw[Hl,Hl,<-ov];have key:dC (fun k=>dC (fun l=>l6 k*l6 l*(m 1 k*m 0 (skip k l))*(eO n fun i j=>m (i+2) (skip k (skip l j)))+l6 k*l6 l*(m 0 k*m 1 (skip k l))*eO n fun i j=>m (i+2) (skip k (skip l j))) (n+1)) (n+2)=0:=by
   refine Bt fun k l I G=>?_;have e1:skip k l=l+1:=by unfold skip;rw[aJ be]
   have e2:skip (l+1) k=k:=by unfold skip;rw[aM be]
   have e3:(fun i j=>m (i+2) (skip (l+1) (skip k j)))=fun i j=>m (i+2) (skip k (skip l j)):=by
    funext i j;rw[M9 I]
   rw[e1,e2,e3,OS];grind
  have h4:dC (fun k=>dC (fun l=>l6 k*l6 l*(m 1 k*m 0 (skip k l))*(eO n fun i j=>m (i+2) (skip k (skip l j)))+l6 k*l6 l*(m 0 k*m 1 (skip k l))*eO n fun i j=>m (i+2) (skip k (skip l j))) (n+1)) (n+2)=
    dC (fun k=>dC (fun l=>l6 k*l6 l*(m 1 k*m 0 (skip k l))*eO n fun i j=>m (i+2) (skip k (skip l j))) (n+1)) (n+2)+dC (fun k=>dC (fun l=>l6 k*l6 l*(m 0 k*m 1 (skip k l))*eO n fun i j=>m (i+2) (skip k (skip l j))) (n+1)) (n+2):=by
   rw[<-fg];exact cT fun k _=>fg _ _ _
  rw[h4]at key;have h5:dC (fun k=> -dC (fun l=>l6 k*l6 l*(m 0 k*m 1 (skip k l))*eO n fun i j=>m (i+2) (skip k (skip l j))) (n+1)) (n+2)= -dC (fun k=>dC (fun l=>l6 k*l6 l*(m 0 k*m 1 (skip k l))*eO n fun i j=>m (i+2) (skip k (skip l j))) (n+1)) (n+2):=ov _ _;rw[h5];have h6:dC (fun k=>dC (fun l=>l6 k*l6 l*(m (mS 0 1 0) k*m (mS 0 1 1) (skip k l))*eO n fun i j=>m (mS 0 1 (i+2)) (skip k (skip l j))) (n+1)) (n+2)=dC (fun k=>dC (fun l=>l6 k*l6 l*(m 1 k*m 0 (skip k l))*eO n fun i j=>m (i+2) (skip k (skip l j))) (n+1)) (n+2):=by
   refine cT fun k _=>cT fun l _=>?_;have e:∀i,mS 0 1 (i+2)=i+2:=fun i=>by unfold mS;rw[aJ be,aJ be]
   simp only[e]
   rfl
  rw[show (0:Nat)+1=1 from rfl,h6];grind
 |n+2,r+1,m,h=>by
  rw[eO,eO,<-ov];refine cT fun k _=>?_;have e:(fun i j=>m (mS (r+1) (r+1+1) (i+1)) (skip k j))=fun i j=>m (mS r (r+1) i+1) (skip k j):=by
   funext i j
   rw[show r+1+1=r+2 from rfl,Ma]
  have ih:eO (n+1) (fun i j=>m (mS r (r+1) i+1) (skip k j))= -eO (n+1) fun i j=>m (i+1) (skip k j):=Bu (n+1) r (fun i j=>m (i+1) (skip k j)) be;rw[e,ih];rw[show mS (r+1) (r+1+1) 0=0 by unfold mS;rw[aJ be,aJ be]];grind
theorem mr:∀(k n:Nat) (m:Mx),k+1<n->(∀j,j<n->m 0 j=m (k+1) j)->eO n m=0
 |0,n,m,h,L=>by
  have I:=Bu n 0 m h;rw[fM (m':=m) fun i j D hj=>?_]at I
  .grind
  .unfold mS;by_cases h0:i=0
   .rw[aM h0,h0];exact(L j hj).symm
   .rw[aJ h0];by_cases G:i=1
    .rw[aM G,G];exact L j hj
    .rw[aJ G]
 |k+1,n,m,h,L=>by
  have I:=Bu n (k+1) m h;rw[mr k n _ be fun j hj=>?_]at I
  .grind
  .rw[show mS (k+1) (k+1+1) 0=0 by unfold mS;rw[aJ be,aJ be],show mS (k+1) (k+1+1) (k+1)=k+1+1 by unfold mS;rw[aM rfl]];exact L j hj
theorem Bv(m:Mx)(r:Nat):iL m r (m r)=m:=by
 funext i j
 unfold iL;by_cases h:i=r
 .rw[aM h,h]
 .rw[aJ h]
theorem Hm{n r:Nat}{m:Mx}(p:Rat)(h:r+1<n):eO n (iL m (r+1) fun j=>m (r+1) j+p*m 0 j)=eO n m:=by
 rw[mq p n (r+1) m h,Bv,mr r n (iL m (r+1) (m 0)) h fun j _=>?_]
 .grind
 .unfold iL;rw[aJ be,aM rfl]
theorem Eb{n k:Nat}{m:Mx}(h:k+1<n):eO n (fun i j=>m (mS 0 (k+1) i) j)= -eO n m:=by
 have z:∀u:Nat->Rat,eO n (iL (iL m 0 u) (k+1) u)=0:=fun u=>mr k n _ h fun j _=>by
  unfold iL;rw[aJ be,aM rfl,aM rfl]
 have cm:∀u v:Nat->Rat,iL (iL m 0 u) (k+1) v=iL (iL m (k+1) v) 0 u:=fun u v=>by
  funext i j;unfold iL
  by_cases I:i=k+1
  .rw[aM I,aJ be,aM I]
  .rw[aJ I,aJ I]
 have l1:∀u v x:Nat->Rat,eO n (iL (iL m 0 u) (k+1) fun j=>v j+1*x j)=eO n (iL (iL m 0 u) (k+1) v)+1*eO n (iL (iL m 0 u) (k+1) x):=fun u v x=>mq 1 n (k+1) _ h v x;have l2:∀u v x:Nat->Rat,eO n (iL (iL m 0 fun j=>v j+1*x j) (k+1) u)=eO n (iL (iL m 0 v) (k+1) u)+1*eO n (iL (iL m 0 x) (k+1) u):=fun u v x=>by
  rw[cm,cm,cm];exact mq 1 n 0 _ be v x
 have I:=z fun j=>m 0 j+1*m (k+1) j;rw[l1,l2,l2,z,z]at I;have e1:iL (iL m 0 (m 0)) (k+1) (m (k+1))=m:=by rw[Bv,Bv]
 have e2:iL (iL m 0 (m (k+1))) (k+1) (m 0)=fun i j=>m (mS 0 (k+1) i) j:=by
  funext i j;unfold iL mS
  by_cases I:i=k+1
  .rw[aM I,aJ be,aM I]
  .rw[aJ I];by_cases h0:i=0
   .rw[aM h0,aM h0]
   .rw[aJ h0,aJ h0,aJ I]
 rw[e1,e2]at I;grind
theorem yV:∀(n:Nat) (m:Mx),0<n->(∀i,i<n->m i 0=0)->eO n m=0
 |0,_,h,_=>by omega
 |n+1,m,_,h=>by
  rw[eO,kE,h 0 be,cT (g:=fun _=>0) fun k K=>?_,df]
  .grind
  .rw[yV n _ be fun i D=>by
    show m (i+1) (skip (k+1) 0)=0;rw[show skip (k+1) 0=0 by unfold skip;rw[aM be]]
    exact h (i+1) be]
   grind
theorem Ec{n:Nat}{m:Mx}(h:∀i,i<n->m (i+1) 0=0):eO (n+1) m=m 0 0*eO n fun i j=>m (i+1) (j+1):=by
 rw[eO,kE,cT (g:=fun _=>0) fun k K=>?_,df]
 .rw[show l6 0=1 from rfl,show(fun i j=>m (i+1) (skip 0 j))=fun i j=>m (i+1) (j+1)from rfl];grind
 .rw[yV n _ be fun i D=>by
   show m (i+1) (skip (k+1) 0)=0;rw[show skip (k+1) 0=0 by unfold skip;rw[aM be]]
   exact h i D]
  grind
theorem uq{n:Nat}{m:Mx}(p:Nat->Rat):∀(i:Nat),i<n->eO n (fun r j=>if 0<r/\r<=i then m r j+p r*m 0 j else m r j)=eO n m
 |0,_=>fM fun r j _ _=>aJ be
 |i+1,h=>by
  refine Eq.trans ?_ (uq p i be);refine Eq.trans (fM fun r j hr hj=>?_) (Hm (r:=i) (p (i+1)) h);unfold iL;grind
def lC(M:List (List Rat))(c n:Nat):Rat:=eO (n-c) fun i j=>dF M (c+i) (c+j)
def fE(M:List (List Rat))(c i:Nat):List (List Rat):=M.mapIdx fun j r=>if c<j/\j<i then r.mapIdx (ou (-(r.getD c 0 / dF M c c)) (M.getD c []))else r
theorem Ed(M:List (List Rat))(n:Nat):lC M n n=1:=by unfold lC;rw[bO];rfl
theorem Dl(M:List (List Rat))(c i:Nat):(fE M c i).length=M.length:=by simp[fE]
theorem pr(M:List (List Rat))(c i:Nat)(h:i<=c+1):fE M c i=M:=by
 refine bT fun j=>?_;unfold fE;rw[List.getElem?_mapIdx]
 cases M[j]? with
 |none=>rfl
 |some r=>simp only[bw];rw[aJ be]
theorem lD(M:List (List Rat))(c i j:Nat)(h:j<=c\/i<=j):(fE M c i)[j]? =M[j]? :=by
 unfold fE;rw[List.getElem?_mapIdx]
 cases M[j]? with
 |none=>rfl
 |some r=>simp only[bw];rw[aJ be]
theorem r8{c i:Nat}(h:M[i]? =some r)(hc:c<i):(fE M c i).set i (r.mapIdx (ou (-(r.getD c 0 / dF M c c)) (M.getD c [])))=fE M c (i+1):=by
 have hl:=(aE.1 h).1;refine bT fun j=>?_;by_cases Py:i=j
 .subst Py;rw[aT (by rw[Dl];exact hl)];unfold fE;rw[List.getElem?_mapIdx,h];simp only[bw]
  rw[aM be]
 .rw[aY Py];unfold fE;rw[List.getElem?_mapIdx,List.getElem?_mapIdx]
  cases M[j]? with
  |none=>rfl
  |some r=>
   simp only[bw]
   by_cases hj:c<j/\j<i
   .rw[aM hj,aM be]
   .rw[aJ hj,aJ be]
theorem Jl{s:List Rat}{c:Nat}(h:c<r.length):(r.mapIdx (ou p s)).getD c 0=r.getD c 0+p*s.getD c 0:=by
 simp only[List.getD,List.getElem?_mapIdx,aD h]
 rfl
theorem Jm{c n i j:Nat}(hl:fz n M)(D:i<M.length)(hc:c<i)(hj:j<n){k:Nat}(hik:i<k):dF (fE M c k) i j=dF M i j+ -(dF M i c / dF M c c)*dF M c j:=by
 have I:M[i]? =some M[i]:=aD D;have G:(M[i]).length=n:=hl _ (bA D);show((fE M c k).getD i []).getD j 0=_;have h3:(fE M c k).getD i []=(M[i]).mapIdx (ou (-((M[i]).getD c 0 / dF M c c)) (M.getD c [])):=by
  rw[List.getD,fE,List.getElem?_mapIdx,I];simp only[bw,Option.getD_some]
  rw[aM ⟨hc,hik⟩]
 rw[h3,Jl be];have h4:M.getD i []=M[i]:=by rw[List.getD,I];rfl
 unfold dF;rw[h4]
theorem r9{c i j k:Nat}(h:i<=c\/k<=i):dF (fE M c k) i j=dF M i j:=by
 unfold dF;rw[show (fE M c k).getD i []=M.getD i [] by simp only[List.getD,lD M c k i h]]
theorem tO{c n:Nat}(hl:fz w M)(V:n<=w)(W:n<=M.length)(hc:c<n)(h0:dF M c c≠0){k:Nat}(K:n<=k):lC M c n=dF M c c*lC (fE M c k) (c+1) n:=by
 obtain⟨d,hd⟩:∃d,n=c+1+d:=⟨n-(c+1),be⟩
 subst hd;unfold lC;rw[show c+1+d-c=d+1 by omega,show c+1+d-(c+1)=d by omega];rw[<-uq (fun r=> -(dF M (c+r) c / dF M c c)) d be,Ec fun i D=>?_]
 .simp only[cI]
  rw[aJ be];congr 1;refine fM fun i j D hj=>?_;rw[aM be,show c+1+i=c+(i+1) by omega,show c+1+j=c+(j+1) by omega,Jm (i:=c+(i+1)) hl be be be be]
 .simp only[cI]
  rw[aM be,Rat.neg_mul,Rat.div_mul_cancel h0];grind
theorem Mc{c n k:Nat}(K:c<k)(W:k<n)(hl:n<=M.length):lC (fC [] M c k) c n= -lC M c n:=by
 obtain⟨d,hd⟩:∃d,k=c+(d+1):=⟨k-c-1,be⟩
 subst hd;unfold lC;rw[<-Eb (k:=d) be];refine fM fun i j D hj=>?_;unfold dF;congr 1;simp only[List.getD]
 unfold mS fC;by_cases h0:i=0
 .subst h0;simp only[cI,aM]
  rw[aY be,aT be,List.getD,aD be];rfl
 .rw[aJ h0];by_cases I:i=d+1
  .subst I;simp only[cI,aM]
   rw[aT (by simp;omega),List.getD,aD (show c<M.length by omega)];rfl
  .rw[aJ I,aY be,aY be]
theorem Md{c n:Nat}(hc:c<n)(h:∀j,c<=j->j<n->dF M j c=0):lC M c n=0:=
 yV _ _ be fun i D=>h (c+i) be be
theorem uu{c k:Nat}(hl:fz w M):fz w (fE M c k):=fun r hr=>by
 obtain⟨i,D⟩:=aU hr;unfold fE at D;rw[List.getElem?_mapIdx]at D
 cases U:M[i]? with
 |none=>rw[U]at D;cases D
 |some x=>
  rw[U]at D;injection D with D;subst D;have:=hl x (aC U);split
  .rw[List.length_mapIdx];exact this
  .exact this
theorem k6{h:Nat}(H:Ht M h)(G:2<=h)(i j:Nat):rl (dF M i j)+1<=h:=by
 show rl ((M.getD i []).getD j 0)+1<=h;refine pt (fun q hq=>?_) G j
 cases hy:M[i]? with
 |none=>rw[show M.getD i []=[] by simp[List.getD,hy]]at hq;cases hq
 |some y=>rw[show M.getD i []=y by simp[List.getD,hy]]at hq;exact H.at hy q hq
theorem Ht.elim{h c k:Nat}(H:Ht M h)(G:2<=h)(h0:dF M c c≠0):Ht (fE M c k) (4*h):=fun r hr q hq=>by
 obtain⟨i,D⟩:=aU hr;unfold fE at D;rw[List.getElem?_mapIdx]at D
 cases U:M[i]? with
 |none=>rw[U]at D;cases D
 |some x=>
  rw[U]at D;injection D with D;subst D;have Ri:=H.at U;have hc:∀j,rl ((M.getD c []).getD j 0)+1<=h:=k6 H G c;split at hq
  .obtain⟨j,hj⟩:=aU hq;rw[List.getElem?_mapIdx]at hj
   cases hy:x[j]? with
   |none=>rw[hy]at hj;cases hj
   |some y=>
    rw[hy]at hj;injection hj with hj;subst hj;have h3:=Ri y (aC hy);have h4:=hc j;have h5:=hc c;have h6:=pt Ri G c;have h7:=pw (x.getD c 0) h0;have h8:=jE (x.getD c 0 / dF M c c);have h9:=fh (-(x.getD c 0 / dF M c c)) ((M.getD c []).getD j 0);have h10:=lE y (-(x.getD c 0 / dF M c c)*(M.getD c []).getD j 0);have h11:rl (dF M c c)+1<=h:=h5;show rl (y+ -(x.getD c 0 / dF M c c)*(M.getD c []).getD j 0)+1<=4*h;omega
  .have:=Ri q hq;omega
def fk(M:List (List Rat)):List Rat:=(List.range M.length).map fun k=>lC M 0 (k+1)
theorem k7(M:List (List Rat)):(fk M).length=M.length:=by simp[fk]
theorem l7{k:Nat}(h:k<M.length):(fk M)[k]? =some (lC M 0 (k+1)):=by
 rw[fk,aO,bY h];rfl
theorem Jn{M GT:List (List Rat)}{c n:Nat}(h:∀i j,c<=i->i<n->c<=j->j<n->dF M i j=dF GT i j):lC M c n=lC GT c n:=
 fM fun i j D hj=>h (c+i) (c+j) be be be be
theorem Hn{n:Nat}:lC (tk n (M.take n)) 0 n=lC M 0 n:=Jn fun i j _ D _ hj=>by
 rw[aCn hj];unfold dF;rw[show (M.take n).getD i []=M.getD i [] by simp[List.getD,List.getElem?_take,D]]
theorem jT(f:Nat->Rat)(p:Rat)(n:Nat):dC (fun k=>f k*p) n=dC f n*p:=by
 rw[cB,<-ec];exact cT fun k _=>cB ..
theorem ow(f g:Nat->Rat):∀(n:Nat),dC (fun k=>f k-g k) n=dC f n-dC g n
 |0=>by show(0:Rat)=0-0;grind
 |n+1=>by rw[dC,dC,dC,ow f g n];grind
theorem ed{f:Nat->Rat}{i:Nat}:∀{n:Nat},i<n->(∀k,k<n->k≠i->f k=0)->dC f n=f i
 |0,h,_=>by omega
 |n+1,h,hz=>by
  rw[dC];rcases aS i n with I|I
  .rw[ed I fun k K Ox=>hz k be Ox,hz n be be,bV]
  .obtain rfl:i=n:=by omega
   rw[cT (g:=fun _=>0) fun k K=>hz k be be,df,Rat.zero_add]
def qf(m:Mx)(x:Nat->Rat)(n:Nat):Rat:=dC (fun i=>x i*dC (fun j=>m i j*x j) n) n
def Fx(m:Mx):Mx:=fun i j=>m (i+1) (j+1)-m (i+1) 0 / m 0 0*m 0 (j+1)
def Sy(m:Mx)(n:Nat):Prop:=∀i j,i<n->j<n->m i j=m j i
def Po(m:Mx)(n:Nat):Prop:=∀k,k<n->0<eO (k+1) m
def Qp(m:Mx)(n:Nat):Prop:=∀x:Nat->Rat,(∃i,i<n/\x i≠0)->0<qf m x n
theorem Ee{n:Nat}{m:Mx}(h0:m 0 0≠0):eO (n+1) m=m 0 0*eO n (Fx m):=by
 rw[<-uq (fun r=> -(m r 0 / m 0 0)) n be,Ec fun i D=>?_]
 .rw[aJ be];congr 1;refine fM fun i j D hj=>?_;rw[aM be];unfold Fx;grind
 .rw[aM be,Rat.neg_mul,Rat.div_mul_cancel h0];grind
theorem Sy.Fx{m:Mx}{n:Nat}(h:Sy m (n+1)):Sy (Fx m) n:=fun i j D hj=>by
 unfold Go.Ex.Fx;rw[h (i+1) (j+1) be be,h (i+1) 0 be be,h (j+1) 0 be be];rw[bh,bh];grind
theorem Ho{m:Mx}{n:Nat}(hs:Sy m (n+1))(h0:m 0 0≠0)(x:Nat->Rat):
  qf m x (n+1)=m 0 0*((x 0+dC (fun j=>m 0 (j+1)*x (j+1)) n / m 0 0)*(x 0+dC (fun j=>m 0 (j+1)*x (j+1)) n / m 0 0))+qf (Fx m) (fun i=>x (i+1)) n:=by
 obtain⟨T,hT⟩:∃T,T=dC (fun j=>m 0 (j+1)*x (j+1)) n:=⟨_,rfl⟩
 obtain⟨S,F⟩:∃S,S=dC (fun i=>x (i+1)*dC (fun j=>m (i+1) (j+1)*x (j+1)) n) n:=⟨_,rfl⟩
 have e1:qf m x (n+1)=x 0*(m 0 0*x 0+T)+(x 0*T+S):=by
  unfold qf;rw[kE,kE,<-hT];congr 1;have:dC (fun k=>x (k+1)*dC (fun j=>m (k+1) j*x j) (n+1)) n=dC (fun k=>x 0*(m 0 (k+1)*x (k+1))+x (k+1)*dC (fun j=>m (k+1) (j+1)*x (j+1)) n) n:=
   cT fun k K=>by rw[kE,hs (k+1) 0 be be];grind
  rw[this,fg,ec,<-hT,<-F]
 have e2:qf (Fx m) (fun i=>x (i+1)) n=S-T*T / m 0 0:=by
  unfold qf;have:∀k,k<n->x (k+1)*dC (fun j=>Fx m k j*x (j+1)) n=x (k+1)*dC (fun j=>m (k+1) (j+1)*x (j+1)) n-(m 0 (k+1)*x (k+1))*(T / m 0 0):=fun k K=>by
   have h3:dC (fun j=>Fx m k j*x (j+1)) n=dC (fun j=>m (k+1) (j+1)*x (j+1)) n-m (k+1) 0 / m 0 0*T:=by
    rw[hT,<-ec,<-ow];exact cT fun j _=>by unfold Fx;grind
   rw[h3,hs (k+1) 0 be be,bh,bh];grind
  rw[cT this,ow,jT,<-F,<-hT,bh,bh];grind
 rw[e1,e2,<-hT];have h4:m 0 0*(m 0 0)⁻¹=1:=Rat.mul_inv_cancel _ h0;rw[bh,bh];grind
theorem sq_nonneg(x:Rat):0<=x*x:=by
 rcases Rat.le_total (a:=0) (b:=x)with h|h
 .exact Rat.mul_nonneg h h
 .have:=Rat.mul_nonneg (show 0<= -x by grind) (show 0<= -x by grind);grind
theorem sq_pos(h:x≠0):0<x*x:=by
 have I:=sq_nonneg x;have G:x*x≠0:=fun e=>(Rat.mul_eq_zero.1 e).elim h h;grind
theorem Po.head{m:Mx}{n:Nat}(h:Po m (n+1)):0<m 0 0:=by
 have I:=h 0 be;rw[show eO (0+1) m=m 0 0 by show 0+l6 0*(m 0 0*1)=m 0 0;rw[show l6 0=1 from rfl];grind]at I;exact I
theorem Po.Fx{m:Mx}{n:Nat}(h:Po m (n+1)):Po (Fx m) n:=fun k K=>by
 have I:=h (k+1) be;have h0:=h.head;rw[Ee (by grind)]at I;refine Decidable.byContradiction fun G=>?_;have:=Rat.mul_nonneg (Rat.le_of_lt h0) (show 0<= -(eO (k+1) (Go.Ex.Fx m)) by grind);grind
theorem aDX:∀(n:Nat) (m:Mx),Sy m n->Po m n->Qp m n
 |0,_,_,_,x,⟨i,D,_⟩=>by omega
 |n+1,m,hs,hp,x,⟨i,D,U⟩=>by
  have h0:=hp.head;have ih:=aDX n (Fx m) hs.Fx hp.Fx;rw[Ho hs (by grind)];by_cases hz:∃j,j<n/\x (j+1)≠0
  .have I:=ih (fun i=>x (i+1)) hz;have G:=Rat.mul_nonneg (Rat.le_of_lt h0) (sq_nonneg (x 0+dC (fun j=>m 0 (j+1)*x (j+1)) n / m 0 0));grind
  .have hz:∀j,j<n->x (j+1)=0:=fun j hj=>Decidable.byContradiction fun h=>hz ⟨j,hj,h⟩;have SS:x 0≠0:=by
    cases i with
    |zero=>exact U
    |succ i=>exact absurd (hz i be) U
   rw[cT (g:=fun _=>0) fun j hj=>by rw[hz j hj,bF],df];have I:qf (Fx m) (fun i=>x (i+1)) n=0:=by
    unfold qf;rw[cT (g:=fun _=>0) fun j hj=>by show x (j+1)*_=0;rw[hz j hj,bI],df]
   rw[I,bh,bI,bV,bV];exact Rat.mul_pos h0 (sq_pos SS)
theorem aB9{m:Mx}{n i:Nat}(D:i<n):qf m (fun j=>if j=i then 1 else 0) n=m i i:=by
 unfold qf;rw[ed D fun k _ Ox=>by simp only[aJ Ox,bI],ed D fun k _ Ox=>by simp only[aJ Ox,bF]];simp only[aM]
 grind
theorem Qp.diag{m:Mx}{n i:Nat}(h:Qp m n)(D:i<n):0<m i i:=by
 have:=h (fun j=>if j=i then 1 else 0) ⟨i,D,by rw[aM rfl];decide⟩
 rwa [aB9 D]at this
theorem aDY:∀(n:Nat) (m:Mx),Sy m n->Qp m n->Po m n
 |0,_,_,_,k,K=>by omega
 |n+1,m,hs,hq,k,K=>by
  have h0:=hq.diag (show 0<n+1 by omega);have ih:=aDY n (Fx m) hs.Fx fun y ⟨i,D,hy⟩=>by
   have I:=hq (fun j=>match j with
    |0=> -(dC (fun j=>m 0 (j+1)*y j) n / m 0 0)
    |j+1=>y j) ⟨i+1,be,hy⟩
   rw[Ho hs (by grind)]at I;simp only[]at I;have G: -(dC (fun j=>m 0 (j+1)*y j) n / m 0 0)+dC (fun j=>m 0 (j+1)*y j) n / m 0 0=0:=by grind
   rw[G]at I;have h3:m 0 0*(0*0)=(0:Rat):=by grind
   rw[h3,Rat.zero_add]at I;exact I
  rw[Ee (by grind)]
  cases k with
  |zero=>show 0<m 0 0*1;rw[Rat.mul_one];exact h0
  |succ k=>exact Rat.mul_pos h0 (ih k be)
end Go.Ex
namespace Go.Ex
open Go Go.Sx Go.Proofs
variable{M:List (List (Int×Int))}{Z:List Value}{S:Nat->Prop}{a a1 a2:Option Addr}{q:Rat}{w:World}
theorem Kk{v:Value}(F:Old S w)(h:fI w S v M):eH PG GT.uJ #[v] w (eR w fun v' _=>v'=iV (fo M)):=by
 have W:=h;obtain⟨a,c,rfl,hc,hm⟩:=dI.shape h;refine yv bv ?_
 cases M with
 |nil=>
  intro J8 we re;exact⟨_,rfl,re.cZ,rfl⟩
 |cons r t=>
  obtain⟨ad,u,rfl,hu,I,G⟩:=dI.load h (j:=0) (x:=r) rfl;obtain⟨a2,c2,rfl⟩:=dI.yD hu;refine⟨ad,rfl,⟨be,bv⟩,.slice a2 r.length c2,fun O J r'=>by simpa using kg F ju.refl r' I (by simpa using G),?_⟩;intro J8 we re;exact⟨_,rfl,re.cZ,rfl⟩
theorem NJ(h:vS M=0):(∀r∈M,r.length=fo M)/\M.length<=60/\fo M<=60:=by
 unfold vS at h;split at h
 .split at h
  .cases h
  .exact⟨‹_›,be,be⟩
 .cases h
theorem js.len(h:js w S Z q):Z.length=4:=by obtain⟨_,_,_,_,_,_,_,_,rfl,_⟩:=h;rfl
def Fc(w:World)(S:Nat->Prop)(A:List (List Value))(qs:List Rat):Prop:=A.length=qs.length/\∀(j:Nat) Z q,A[j]? =some Z->qs[j]? =some q->js w S Z q
section
variable{S S':Nat->Prop}{w Y:World}{Z:List Value}{A:List (List Value)}{q:Rat}{qs:List Rat}
theorem Fc.cR(h:Fc w S A qs)(K:∀g,S g->Y.heap[g]? =w.heap[g]?):Fc Y S A qs:=⟨h.1,fun j Z q I G=>(h.2 j Z q I G).cR K⟩
theorem Fc.cP(h:Fc w S A qs)(K:∀g,S g->S' g):Fc w S' A qs:=⟨h.1,fun j Z q I G=>(h.2 j Z q I G).cP K⟩
theorem Fc.ma(h:Fc w S A qs):∀Z∈A,Z.length=4:=fun Z hc=>by
 obtain⟨j,hj⟩:=aU hc;have hl:=(aE.1 hj).1;exact(h.2 j Z _ hj (aD (by rw[<-h.1];exact hl))).len
theorem Fc.one(h:Fc w S A qs):∀u∈A.flatten,u.oneCell'=true:=fun u hu=>by
 obtain⟨Z,hc,hu⟩:=List.mem_flatten.1 hu;obtain⟨j,hj⟩:=aU hc;have hl:=(aE.1 hj).1;obtain⟨_,_,_,_,_,_,_,_,rfl,_⟩:=h.2 j Z _ hj (aD (by rw[<-h.1];exact hl));simp at hu;rcases hu with rfl|rfl|rfl|rfl<;>rfl
theorem Fc.set(h:Fc w S A qs){j:Nat}(hq:js w S Z q):Fc w S (A.set j Z) (qs.set j q):=by
 refine⟨by simp[h.1],fun i c p I G=>?_⟩;by_cases Py:j=i
 .subst Py;have hl:=(aE.1 I).1;rw[aT (by simpa using hl)]at I;rw[aT (by have:=h.1;simp at hl;omega)]at G;injection I with I;injection G with G;subst I G;exact hq
 .rw[aY Py]at I G;exact h.2 i c p I G
end
def gz(w:World)(C S:Nat->Prop)(v:Value)(qs:List Rat):Prop:=∃A,j1 w C 4 v A.flatten qs.length/\Fc w S A qs
section
variable{C C' S S':Nat->Prop}{H:Hp}{nx:Nat}{iv N:Iv}{B:Nat}{w J Y:World}{O:Nat->Sx.eG}{v:Value}{qs:List Rat}
theorem gz.cR(h:gz w C S v qs)(K:∀g,C g\/S g->Y.heap[g]? =w.heap[g]?):gz Y C S v qs:=by
 obtain⟨A,I,G⟩:=h;exact⟨A,I.cR fun g X=>K g (.inl X),G.cR fun g X=>K g (.inr X)⟩
theorem gz.cP(h:gz w C S v qs)(K:∀g,C g->C' g)(Vv:∀g,S g->S' g):gz w C' S' v qs:=by
 obtain⟨A,I,G⟩:=h;exact⟨A,I.cP K,G.cP Vv⟩
end
def iJ(w:World)(S:Nat->Prop)(v:Value)(n:Nat)(qs:List Rat):Prop:=∃A,w.ownsRow 0 T.Rat 4 v n A.flatten/\A.length=n/\Fc w S A qs
section
variable{S S' C:Nat->Prop}{H:Hp}{nx n:Nat}{iv N:Iv}{B:Nat}{w J Y:World}{O:Nat->Sx.eG}{v:Value}{qs:List Rat}
theorem iJ.cR(h:iJ w S v n qs)(K:∀g,S g\/v.ownBlock=some g->Y.heap[g]? =w.heap[g]?):iJ Y S v n qs:=by
 obtain⟨A,I,G,h3⟩:=h;exact⟨A,ownsRow.cR I fun g X=>K g (.inr X),G,h3.cR fun g X=>K g (.inl X)⟩
theorem iJ.cP(h:iJ w S v n qs)(K:∀g,S g->S' g):iJ w S' v n qs:=by
 obtain⟨A,I,G,h3⟩:=h;exact⟨A,I,G,h3.cP K⟩
theorem iJ.len(h:iJ w S v n qs):qs.length=n:=by
 obtain⟨A,I,G,h3⟩:=h;rw[<-h3.1,G]
theorem iJ.form(h:iJ w S v n qs):∃a c,v= .slice a n c/\n<=c:=by
 obtain⟨A,I,G,h3⟩:=h;exact ie I
theorem iJ.le(h:iJ w S v n qs):n<=maxLen:=by
 obtain⟨A,I,G,h3⟩:=h;rcases I.2 with⟨_,h0⟩|⟨_,_,_,_,_,_,I,G,_⟩
 .omega
 .omega
theorem iJ.low(h:iJ w S v n qs):∀g,v.ownBlock=some g->g<w.heap.size:=fun g X=>by
 obtain⟨A,I,G,h3⟩:=h;exact(ownsRow.low I g X).2
theorem iJ.read(h:iJ w S v n qs):gz w (fun g=>v.ownBlock=some g) S v qs:=by
 have hl:=h.len;have W:=h.le;obtain⟨A,I,G,h3⟩:=h;refine⟨A,?_,h3⟩;rw[hl];rcases I.2 with⟨rfl,rfl⟩|⟨g,cap,cur,rfl,hb,hc,WN,Qt,PR,Rq⟩
 .refine⟨W,I.1,h3.one,none,0,rfl,lr,fun j u hu=>?_⟩;have:=I.1;rw[Nat.zero_mul]at this;rw[List.eq_nil_of_length_eq_zero this]at hu
  cases hu
 .refine⟨W,I.1,h3.one,_,cap,rfl,WN,fun j u hu=>⟨_,rfl,rfl,?_⟩⟩;exact I.cells (g:=g) rfl j u hu
theorem iJ.store{c j n1 c1 n2 c2:Nat}{b b2:Bool}(h:iJ w S (.slice a n c) n qs)(hj:j<n)(hf:cY w S (.agg #[.bool b,.slice a1 n1 c1,.bool b2,.slice a2 n2 c2]) q)(SH:∀g,(Value.slice a n c).ownBlock=some g->¬S g)(F:Old S w):
  ∃g,a=some ⟨g,0,none⟩/\((⟨g,0,none⟩:Addr).add ((j:Int).toNat*4)).spot=none/\((⟨g,0,none⟩:Addr).add ((j:Int).toNat*4)).block=g/\
   (∀k,k<4->(w.cell? (((⟨g,0,none⟩:Addr).add ((j:Int).toNat*4)).add k)).isSome=true/\w.frozen? (((⟨g,0,none⟩:Addr).add ((j:Int).toNat*4)).add k)=false)/\
   ∀Y,Y=setCells w ((⟨g,0,none⟩:Addr).add ((j:Int).toNat*4)) (rC b a1 n1 c1 b2 a2 n2 c2)->iJ Y S (.slice a n c) n (qs.set j q)/\w.grownBy Y (some g)/\Y.heap.size=w.heap.size:=by
 obtain⟨A,I,G,h3⟩:=h;obtain⟨g,rfl,Oz,Qm,PF,PR⟩:=lZ (nv:=rC b a1 n1 c1 b2 a2 n2 c2) I rfl hj rfl bi;have PU:(⟨g,0,none⟩:Addr).add ((j:Int).toNat*4)=⟨g,j*4,none⟩:=by rw[aF,dX,aW]
 refine⟨g,rfl,by rw[PU],by rw[PU],fun k K=>by rw[PU];exact Oz k K,fun Y Pf=>?_⟩;rw[PU]at Pf;subst Pf;have UL:=jy (Z:=rC b a1 n1 c1 b2 a2 n2 c2) h3.ma (show j<A.length by omega);rw[UL]at Qm;have Pz:∀x,S x->(setCells w ⟨g,j*4,none⟩ (rC b a1 n1 c1 b2 a2 n2 c2)).heap[x]? =w.heap[x]? :=fun x U=>
  PF.block x (F x U) fun e=>SH g rfl (by injection e with e;rw[<-e];exact U)
 exact⟨⟨_,Qm,by simpa using G,(h3.cR Pz).set (hf.cR Pz).sd⟩,PF,PR⟩
structure eV(w:World)(S:Nat->Prop)(B:Nat)(iv:Iv)(v:Value)(n:Nat)(qs:List Rat):Prop where
 row:iJ w (fun g=>Cv S B iv g/\v.ownBlock≠some g) v n qs
 new:∀g,v.ownBlock=some g->Cv FF B iv g
theorem eV.cR(h:eV w S B iv v n qs)(K:∀g,Cv S B iv g->Y.heap[g]? =w.heap[g]?):eV Y S B iv v n qs:=
 ⟨h.row.cR fun g X=>K g (X.elim (fun h=>h.1) fun X=>(h.new g X).elim (fun h=>h.elim) .inr),h.new⟩
theorem eV.rel(h:eV w S B iv v n qs)(r:Rel H nx iv B w O J)(F:∀g,S g->g<B):eV J S B iv v n qs:=h.cR fun _ X=>rls r F X
theorem eV.cS(h:eV w S B iv v n qs)(r:Rel H nx iv B w O J)(F:∀g,S g->g<B)(L:Ext J Y)(hm:∀p,p∈iv->p∈N):eV Y S B N v n qs:=
 have G:=(h.rel r F).cR fun g X=>L.block g (rlo r F g X)
 ⟨G.row.cP fun _ X=>⟨X.1.mono hm,X.2⟩,fun g X=>(G.new g X).mono hm⟩
theorem eV.iR(h:eV Y FF J.heap.size [(J.heap.size,Y.heap.size)] v n qs)(hB:B<=J.heap.size)(hm:(J.heap.size,Y.heap.size)∈iv):eV Y S B iv v n qs:=by
 have key:∀g {C8:Nat->Prop},Cv FF J.heap.size [(J.heap.size,Y.heap.size)] g->Cv C8 B iv g:=fun g C8 X=>by
  rcases X with X|⟨I,lo,D,G,h3,h4⟩
  .exact X.elim
  .simp at G;obtain⟨rfl,rfl⟩:=G;exact .inr ⟨be,_,_,hm,h3,h4⟩
 exact⟨h.row.cP fun g X=>⟨key g X.1,X.2⟩,fun g X=>key g (h.new g X)⟩
theorem eV.read(h:eV w S B iv v n qs):gz w (Cv S B iv) (Cv S B iv) v qs:=
 h.row.read.cP (fun g X=>(h.new g X).elim (fun h=>h.elim) .inr) fun _ X=>X.1
end
section
variable{S S':Nat->Prop}{H:Hp}{nx n:Nat}{iv N:Iv}{B:Nat}{w J Y:World}{O:Nat->Sx.eG}{v:Value}{qs:List Rat}
theorem eV.store{c j n1 c1 n2 c2:Nat}{b b2:Bool}(h:eV J S B iv (.slice a n c) n qs)(hj:j<n)(hf:cY J (fun g=>Cv S B iv g/\(Value.slice a n c).ownBlock≠some g) (.agg #[.bool b,.slice a1 n1 c1,.bool b2,.slice a2 n2 c2]) q)
  (r:Rel H nx iv B w O J) (F:∀g,S g->g<B):
  ∃g,a=some ⟨g,0,none⟩/\((⟨g,0,none⟩:Addr).add ((j:Int).toNat*4)).spot=none/\
   (∀k,k<4->(J.cell? (((⟨g,0,none⟩:Addr).add ((j:Int).toNat*4)).add k)).isSome=true/\J.frozen? (((⟨g,0,none⟩:Addr).add ((j:Int).toNat*4)).add k)=false)/\
   (∀id b,dU H id=some b->(O id).nil=false->(O id).g≠((⟨g,0,none⟩:Addr).add ((j:Int).toNat*4)).block)/\Cv FF B iv g/\
   ∀Y,Y=setCells J ((⟨g,0,none⟩:Addr).add ((j:Int).toNat*4)) (rC b a1 n1 c1 b2 a2 n2 c2)->eV Y S B iv (.slice a n c) n (qs.set j q)/\J.grownBy Y (some g)/\Y.heap.size=J.heap.size:=by
 obtain⟨g,rfl,I,G,h3,h4⟩:=h.row.store hj hf (fun g X U=>U.2 X) (fun x U=>rlo r F x U.1);refine⟨g,rfl,I,h3,fun id b hb W=>by rw[G];exact Rel.not r F (Dh (h.new g rfl)) id b hb W,h.new g rfl,fun Y Pf=>?_⟩;obtain⟨k1,k2,k3⟩:=h4 Y Pf;exact⟨⟨k1,h.new⟩,k2,k3⟩
end
end Go.Ex
namespace Go.Sx
open Go Go.Ex Go.Proofs
variable{Z:List Value}{O:Nat->Sx.eG}
theorem Sub.pK{B:Nat}{l tl:Env}{nx:Nat}{H tH:Hp}{iv:Iv}{w J:World}{id t n c:Nat}{e:TypeId}(r:Rel H nx iv B w O J)(QF:dU H id=some (.arr e Z))(ht:gK l t=some (.o (.s id 0 n c)))
  (hs:AM H tH) (ho:H8 id tH=true) (I:H5 l tl) (G:kK nx tl):
  Sub B l nx O J ⟨(t,.o (.v (.slice (some ⟨(O id).g,0,none⟩) n c)))::tl,tH,nx,((O id).g,(O id).g+1)::iv,J⟩:=by
 refine⟨O,r.free QF bv (r.fits QF).1 hs ho,fun u v hv=>?_⟩;rw[fQ]at hv;split at hv
 .rename_i e;subst e;injection hv with hv;subst hv;exact⟨trivial,_,ht,rfl⟩
 .exact⟨G.get u v hv,v,I.get u v hv,rfl⟩
end Go.Sx
namespace Go.Ex
open Go Go.Sx Go.Proofs
variable{x:List Rat}
def dZ(w:World)(S:Nat->Prop)(rv:List Value)(GE:List (List Rat)):Prop:=rv.length=GE.length/\(∀u∈rv,u.oneCell'=true)/\∀(i:Nat) u r,rv[i]? =some u->GE[i]? =some r->cX w S u r
section
variable{S S':Nat->Prop}{H:Hp}{nx:Nat}{iv N:Iv}{B:Nat}{w J Y:World}{O:Nat->Sx.eG}{rv:List Value}{GE:List (List Rat)}
theorem dZ.cR(h:dZ w S rv GE)(K:∀g,S g->Y.heap[g]? =w.heap[g]?):dZ Y S rv GE:=⟨h.1,h.2.1,fun i u x I G=>cX.cR (h.2.2 i u x I G) K⟩
theorem dZ.cP(h:dZ w S rv GE)(K:∀g,S g->S' g):dZ w S' rv GE:=⟨h.1,h.2.1,fun i u x I G=>cX.cP (h.2.2 i u x I G) K⟩
theorem dZ.rel(h:dZ w (Cv S B iv) rv GE)(r:Rel H nx iv B w O J)(F:∀g,S g->g<B):dZ J (Cv S B iv) rv GE:=h.cR fun _ X=>rls r F X
theorem dZ.cS(h:dZ w (Cv S B iv) rv GE)(r:Rel H nx iv B w O J)(F:∀g,S g->g<B)(L:Ext J Y)(hm:∀p,p∈iv->p∈N):dZ Y (Cv S B N) rv GE:=
 ((h.rel r F).cR fun g X=>L.block g (rlo r F g X)).cP fun _ X=>X.mono hm
theorem dZ.push{u:Value}(h:dZ w S rv GE)(hu:u.oneCell'=true)(U:cX w S u x):dZ w S (rv++[u]) (GE++[x]):=by
 refine⟨by simp[h.1],fun v hv=>?_,fun i v y I G=>?_⟩
 .rcases bG.1 hv with hv|hv
  .exact h.2.1 v hv
  .simp at hv;subst hv;exact hu
 .rcases aS i rv.length with D|D
  .rw[aI D]at I;rw[aI (by rw[<-h.1];exact D)]at G;exact h.2.2 i v y I G
  .have Rr:i=rv.length:=by have:=(aE.1 I).1;simp at this;omega
   subst Rr;rw[aN lr,bO]at I;rw[h.1,aN lr,bO]at G;simp at I G;subst I G;exact U
end
end Go.Ex
namespace Go.Ex
theorem OP(s:List (List Rat)×List Nat)(c:Nat):(dy s c).2=s.2\/(dy s c).2=s.2++[c]:=by
 unfold dy;split
 .dsimp only
  split
  .exact .inl rfl
  .exact .inr rfl
 .exact .inl rfl
theorem jD(M:List (List Rat)):∀c:Nat,(∀p∈((List.range c).foldl dy (M,[])).2,p<c)/\(((List.range c).foldl dy (M,[])).2).Pairwise (· < ·)/\((List.range c).filter fun j=>decide (j∉((List.range c).foldl dy (M,[])).2)).length+((List.range c).foldl dy (M,[])).2.length=c:=by
 intro c
 induction c with
 |zero=>simp
 |succ c ih=>
  rw[bU,List.foldl_append,List.foldl_cons,List.foldl_nil];generalize (List.range c).foldl dy (M,[])=s at*
  obtain⟨I,G,h3⟩:=ih;have hc:c∉s.2:=fun h=>by have:=I c h;omega
  rcases OP s c with e|e
  .rw[e];refine⟨fun p hp=>by have:=I p hp;omega,G,?_⟩;rw[List.filter_append,aQ];simp only[List.filter_cons,hc,not_false_eq_true,decide_true,if_true,List.filter_nil,bC]
   omega
  .rw[e];refine⟨fun p hp=>?_,?_,?_⟩
   .rcases bG.1 hp with hp|hp
    .have:=I p hp;omega
    .simp at hp;omega
   .rw[List.pairwise_append];exact⟨G,bv,fun a ha b hb=>by simp at hb;subst hb;exact I a ha⟩
   .rw[List.filter_append,aQ];have:(List.range c).filter (fun j=>decide (j∉s.2++[c]))=(List.range c).filter (fun j=>decide (j∉s.2)):=List.filter_congr fun j hj=>by
     have:=List.mem_range.1 hj;have Ox:j≠c:=by omega
     simp[Ox]
    have h0:(([c]:List Nat).filter fun j=>decide (j∉s.2++[c])).length=0:=by simp
    rw[this,aQ,bC,h0];omega
end Go.Ex
namespace Go.Ex
open Go Go.Sx Go.Proofs
variable{M:List (List Rat)}{qs:List Rat}{S S' S0:Nat->Prop}{row:Option Nat}{p q:Rat}{v vb:Value}{w Y:World}
section
variable{S S':Nat->Prop}{H:Hp}{nx:Nat}{iv N:Iv}{B:Nat}{w J Y:World}{O:Nat->Sx.eG}{v:Value}{M:List (List (Int×Int))}
end
theorem LD(x y:Rat):x-y+y=x:=by rw[Rat.sub_eq_add_neg,Rat.add_assoc,Rat.neg_add_cancel,bV]
theorem HM(p q:Rat):p-q=0↔p=q:=by
 constructor
 .intro h;have:=congrArg (· +q) h;simpa [LD,Rat.zero_add]using this
 .intro h;rw[h,Rat.sub_self]
theorem Lv:rs (p-q)=0↔p=q:=by rw[lV,HM]
def fnV(g:Nat):Value:=.func (.func g) #[] #[]
def fD(xs ys:List Rat):Nat->Rat
 |0=>0
 |i+1=>fD xs ys i+xs.getD i 0*ys.getD i 0
theorem si{xs ys:List Rat}{h:Nat}(U:∀q∈xs,rl q+1<=h)(hy:∀q∈ys,rl q+1<=h)(G:2<=h):∀i:Nat,rl (fD xs ys i)<=2*h*i+2
 |0=>by rw[fD];exact aX (by decide:rl 0<=2) be
 |i+1=>by
  have h3:=si U hy G i;have h4:=lE (fD xs ys i) (xs.getD i 0*ys.getD i 0);have h5:=fh (xs.getD i 0) (ys.getD i 0);have h6:=pt U G i;have h7:=pt hy G i;rw[fD,bp];omega
def qU(w:World)(S:Nat->Prop)(v:Value)(qs:List Rat):Prop:=il w S S v qs
def nZ(w:World)(S:Nat->Prop)(v:Value)(M:List (List Rat)):Prop:=xh w S v M
theorem qU.cR(h:qU w S v qs)(K:∀g,S g->Y.heap[g]? =w.heap[g]?):qU Y S v qs:=il.cR h fun g X=>K g (X.elim id id)
theorem qU.cP(h:qU w S v qs)(K:∀g,S g->S' g):qU w S' v qs:=il.cP h K K
theorem qU.shape(h:qU w S v qs):∃a c,v= .slice a qs.length c:=by
 obtain⟨a,c,h,_⟩:=il.shape h;exact⟨a,c,h⟩
theorem nZ.cR(h:nZ w S v M)(K:∀g,S g->Y.heap[g]? =w.heap[g]?):nZ Y S v M:=xh.cR h K
theorem nZ.cP(h:nZ w S v M)(K:∀g,S g->S' g):nZ w S' v M:=xh.cP h K
theorem nZ.shape(h:nZ w S v M):∃a c,v= .slice a M.length c:=by
 obtain⟨a,c,h,_⟩:=dI.shape (show xh w S v M from h);exact⟨a,c,h⟩
def pX(w:World)(S:Nat->Prop)(rv:List Value)(GE:List (List Rat)):Prop:=∀(i:Nat) u r,rv[i]? =some u->GE[i]? =some r->qU w S u r
theorem pX.cR{v:List Value}(h:pX w S v M)(K:∀g,S g->Y.heap[g]? =w.heap[g]?):pX Y S v M:=fun i u x I G=>(h i u x I G).cR K
theorem pX.cP{v:List Value}(h:pX w S v M)(K:∀g,S g->S' g):pX w S' v M:=fun i u x I G=>(h i u x I G).cP K
section
variable{S S':Nat->Prop}{H:Hp}{nx:Nat}{iv N:Iv}{B:Nat}{w J Y:World}{O:Nat->Sx.eG}{v:Value}{qs:List Rat}
theorem qU.rel(h:qU w (Cv S B iv) v qs)(r:Rel H nx iv B w O J)(F:∀g,S g->g<B):qU J (Cv S B iv) v qs:=h.cR fun _ X=>rls r F X
theorem qU.iR(h:qU Y (Nf J Y) v qs)(hB:B<=J.heap.size)(hm:(J.heap.size,Y.heap.size)∈iv):qU Y (Cv S B iv) v qs:=h.cP fun _ X=>X.iR hB hm
end
section
variable{S S':Nat->Prop}{H:Hp}{nx:Nat}{iv N:Iv}{B:Nat}{w J Y:World}{O:Nat->Sx.eG}{v:Value}{M:List (List Rat)}
theorem nZ.rel(h:nZ w (Cv S B iv) v M)(r:Rel H nx iv B w O J)(F:∀g,S g->g<B):nZ J (Cv S B iv) v M:=h.cR fun _ X=>rls r F X
theorem nZ.cS(h:nZ w (Cv S B iv) v M)(r:Rel H nx iv B w O J)(F:∀g,S g->g<B)(L:Ext J Y)(hm:∀p,p∈iv->p∈N):nZ Y (Cv S B N) v M:=
 ((h.rel r F).cR fun g X=>L.block g (rlo r F g X)).cP fun _ X=>X.mono hm
theorem nZ.iR(h:nZ Y (Nf J Y) v M)(hB:B<=J.heap.size)(hm:(J.heap.size,Y.heap.size)∈iv):nZ Y (Cv S B iv) v M:=h.cP fun _ X=>X.iR hB hm
end
section
variable{S S':Nat->Prop}{H:Hp}{nx:Nat}{iv N:Iv}{B:Nat}{w J Y:World}{O:Nat->Sx.eG}{v:List Value}{M:List (List Rat)}
theorem pX.rel(h:pX w (Cv S B iv) v M)(r:Rel H nx iv B w O J)(F:∀g,S g->g<B):pX J (Cv S B iv) v M:=h.cR fun _ X=>rls r F X
theorem pX.cS(h:pX w (Cv S B iv) v M)(r:Rel H nx iv B w O J)(F:∀g,S g->g<B)(L:Ext J Y)(hm:∀p,p∈iv->p∈N):pX Y (Cv S B N) v M:=
 ((h.rel r F).cR fun g X=>L.block g (rlo r F g X)).cP fun _ X=>X.mono hm
end
theorem NK{M:List (List (Int×Int))}(F:Old S w)(h:fI w S v M)(hf:∀r∈M,Few r)(W:∀r∈M,r.length<=1000000)(hR:M.length<=1000000):
  eH PG GT.xE #[v] w (eR w fun v' Y=>nZ Y (Nf w Y) v' (iy M)):=by
 replace h:=fI.arg h [];obtain⟨a,c,rfl,hc,-⟩:=dI.shape h;refine AY bv ?_;conv=>whnf
 refine⟨M.length,M.length,rfl,rfl,lr,be,be,?_⟩;conv=>whnf
 refine⟨List Value×Iv×World,fun z=>⟨[(3,.o (.s 0 0 M.length M.length)),(9,sV a M.length c),(10,iZ M.length),(11,iZ z.1.length)],[(0,.arr T.row (z.1++List.replicate (M.length-z.1.length) nls))],1,z.2.1,z.2.2⟩,fun z=>M.length-z.1.length,
  fun z=>z.1.length<=M.length/\Bq w z.2.2/\fI z.2.2 (Cv S w.heap.size z.2.1) (.slice a M.length c) M/\pX z.2.2 (Cf w z.2.1) z.1 (iy M)/\∀u∈z.1,u.oneCell'=true,?_,?_⟩
 .intro O J r;exact⟨([],[],J),⟨bv,r.cZ,fI.rel h r F,fun i u r h=>by simp at h,bv⟩,sbgn [] r⟩
 clear h;rintro⟨rv,iv,w1⟩ ⟨D,V,hX,hF,h1c⟩;dsimp only at D V hX hF h1c ⊢;conv=>whnf
 apply bS<;>intro h
 .have h:rv.length<M.length:=by simpa using h
  obtain⟨x,U⟩:=gO M rv.length;obtain⟨ad,u,rfl,Vc,Qe,Ps⟩:=dI.load hX U;obtain⟨a2,c2,rfl⟩:=dI.yD Vc;have QM:=W x (aC U);conv=>whnf
  refine⟨ad,rfl,be,?_⟩;conv=>whnf
  refine⟨.slice a2 x.length c2,fun O J r=>?_,?_⟩
  .have:=rls r F Qe;rw[aF,cV (w:=w1) (Y:=J) (by rw[dO];exact this)];exact Ps
  conv=>whnf
  refine cQ (cU (J9:=fun _ J v Y=>HI Y FF J.heap.size [(J.heap.size,Y.heap.size)] v x.length (x.map tA)) (fun O J r=>aBO (rlo r F) (fy.rel Vc r F) (hf x (aC U)) QM) ?_);rintro O wa v1 wb r L hb hO;have hON:qU wb (Cf w ((wa.heap.size,wb.heap.size)::iv)) v1 (x.map tA):=(HI.iR (S:=FF) hO r.dA aH).read;replace hX:=fI.cS (N:=(wa.heap.size,wb.heap.size)::iv) hX r F L fun x U=>aB _ U;replace hF:=hF.cS (N:=(wa.heap.size,wb.heap.size)::iv) r oF L fun x U=>aB _ U;replace V:=V.tr hb;clear r L hb hO Vc Qe Ps;generalize (wa.heap.size,wb.heap.size)::iv=Oy at*
  obtain⟨a3,c3,rfl⟩:=hON.shape;rw[aL]at hON ⊢;conv=>whnf
  refine⟨be,?_⟩;conv=>whnf
  refine⟨by simp;omega,(rv++[.slice a3 x.length c3])++List.replicate (M.length-(rv.length+1)) nls,?_,?_⟩
  .have h5:M.length-rv.length=(M.length-(rv.length+1))+1:=by omega
   simp[h5,List.replicate_succ]
  conv=>whnf
  refine⟨((rv.length+1:Nat):Int),wo,?_⟩;conv=>whnf
  intro I' w3 R;have Q7:(rv++[Value.slice a3 x.length c3]).length=rv.length+1:=by simp
  refine⟨(rv++[.slice a3 x.length c3],Oy,w3),⟨by dsimp only;rw[Q7];exact h,V.tr R.cZ,fI.rel hX R F,?_,?_⟩,sbgn [] R ⟨by dsimp only;rw[Q7];rfl,trivial⟩ ⟨rfl,rfl,rfl,by dsimp only;rw[Q7];rfl,trivial⟩,by dsimp only;rw[Q7];omega⟩
  .intro i u y I G;refine qU.rel ?_ R oF;rcases aS i rv.length with TG|TG
   .rw[aI TG]at I;exact hF i u y I G
   .have Rr:i=rv.length:=by have:=(aE.1 I).1;simp at this;omega
    subst Rr;rw[aN lr,bO]at I;simp only[iy,aO,U]at G;simp at I G;subst I G;exact hON
  .intro u hu;rcases bG.1 hu with hu|hu
   .exact h1c u hu
   .simp at hu;subst hu;rfl
 .have h:rv.length=M.length:=by
   have:¬rv.length<M.length:=by simpa using h
   omega
  rw[h,bO,List.replicate_zero,List.append_nil];conv=>whnf
  intro J8 we re;refine⟨_,rfl,V.tr re.cZ,?_⟩;have PK:=re.nn 0 _ rfl (by intros;simp) bv;have PI:=re.low 0 _ rfl PK;have hs:=re.D3 (id:=0) (t:=T.row) (n:=M.length) (sz:=1) (Z:=rv) rfl be mx h1c;have VV:(iy M).length=M.length:=by simp[iy]
  refine⟨rv,?_,by rw[VV,h],fun i u x I G=>((hF.rel re oF) i u x I G).cP fun g X=>Cv.nw X re⟩;rw[VV];exact hs.cP fun g X=>.inr (by subst X;exact PI)
abbrev HS(gm Fn:Nat):Value:=.slice (some ⟨gm,0,none⟩) Fn Fn
def kW(S:Nat->Prop)(B:Nat)(iv:Iv)(gm Fn:Nat)(rv:List Value)(g:Nat):Prop:=Cv S B iv g/\¬Mb (HS gm Fn) rv g
structure gL(w:World)(S:Nat->Prop)(B:Nat)(iv:Iv)(gm Fn n:Nat)(rv:List Value)(M:List (List Rat)):Prop where
 Mz:nI w (kW S B iv gm Fn rv) (HS gm Fn) rv n M
 rO:∀g,Mb (HS gm Fn) rv g->Cv FF B iv g
 rows:rv.length=Fn
section
variable{S S':Nat->Prop}{H:Hp}{nx gm Fn n:Nat}{iv N:Iv}{B:Nat}{w J Y:World}{O:Nat->Sx.eG}{rv:List Value}{M:List (List Rat)}
theorem gL.cR(h:gL w S B iv gm Fn n rv M)(K:∀g,Cv S B iv g->Y.heap[g]? =w.heap[g]?):gL Y S B iv gm Fn n rv M:=
 ⟨h.Mz.cR fun g X=>K g (X.elim (fun h=>h.1) fun X=>Dh (h.rO g X)),h.rO,h.rows⟩
theorem gL.rel(h:gL w S B iv gm Fn n rv M)(r:Rel H nx iv B w O J)(F:∀g,S g->g<B):gL J S B iv gm Fn n rv M:=h.cR fun _ X=>rls r F X
theorem gL.mono(h:gL w S B iv gm Fn n rv M)(hm:∀p,p∈iv->p∈N):gL w S B N gm Fn n rv M:=
 ⟨h.Mz.cP fun _ X=>⟨X.1.mono hm,X.2⟩,fun g X=>(h.rO g X).mono hm,h.rows⟩
theorem gL.cS(h:gL w S B iv gm Fn n rv M)(r:Rel H nx iv B w O J)(F:∀g,S g->g<B)(L:Ext J Y)(hm:∀p,p∈iv->p∈N):gL Y S B N gm Fn n rv M:=
 ((h.rel r F).cR fun g X=>L.block g (rlo r F g X)).mono hm
theorem gL.out(h:gL w S B iv gm Fn n rv M):Cv FF B iv gm:=h.rO gm (.inl rfl)
theorem gL.len(h:gL w S B iv gm Fn n rv M):M.length=Fn:=h.Mz.len.symm.trans h.rows
theorem gL.cell(h:gL w S B iv gm Fn n rv M)(r:Rel H nx iv B w O J){a:Addr}{x:Value}(hb:Mb (HS gm Fn) rv a.block)(hc:w.cell? a=some x):J.cell? a=some x:=by
 rw[cV (rls r (dV B) (h.rO _ hb))];exact hc
theorem dH.beside(h:dH Y (Nf J Y) v q)(hM:gL w S B iv gm Fn n rv M)(r:Rel H nx iv B w O J):dH Y (kW S0 B ((J.heap.size,Y.heap.size)::iv) gm Fn rv) v q:=
 h.cP fun g X=>by
  rcases X with X|X
  .exact X.elim
  .exact⟨.inr ⟨by have:=r.dA;omega,_,_,aH,X.1,X.2⟩,fun hm=>by have:=rlo r (dV B) g (hM.rO g hm);omega⟩
theorem dH.BL(h:dH Y (Nw (kW S0 B iv gm Fn rv) J Y) v q)(hM:gL w S B iv gm Fn n rv M)(r:Rel H nx iv B w O J):dH Y (kW S0 B ((J.heap.size,Y.heap.size)::iv) gm Fn rv) v q:=
 h.cP fun g X=>by
  rcases X with X|X
  .exact⟨X.1.mono fun p hp=>aB _ hp,X.2⟩
  .exact⟨.inr ⟨by have:=r.dA;omega,_,_,aH,X.1,X.2⟩,fun hm=>by have:=rlo r (dV B) g (hM.rO g hm);omega⟩
theorem kW.old(r:Rel H nx iv B w O J)(F:∀g,S g->g<B):Old (kW S B iv gm Fn rv) J:=fun g X=>rlo r F g X.1
theorem dH.jO(h:dH w (kW S B iv gm Fn rv) v q)(r:Rel H nx iv B w O J)(F:∀g,S g->g<B):dH J (kW S B iv gm Fn rv) v q:=h.cR fun _ X=>rls r F X.1
theorem dH.pJ(h:dH w (kW S B iv gm Fn rv) v q)(r:Rel H nx iv B w O J)(F:∀g,S g->g<B)(L:Ext J Y)(hm:∀p,p∈iv->p∈N):dH Y (kW S B N gm Fn rv) v q:=
 ((h.jO r F).cR fun g X=>L.block g (rlo r F g X.1)).cP fun _ X=>⟨X.1.mono hm,X.2⟩
theorem gL.I9(hM:gL w S B iv gm Fn n rv M)(r:Rel H nx iv B w O J)(F:∀g,S g->g<B){i c:Nat}{vi vc vby:Value}{ri rc:List Rat}(W:n<=maxLen)(hic:i≠c)(Tj:rv[i]? =some vi)(hvc:rv[c]? =some vc)(Tz:M[i]? =some ri)(VO:M[c]? =some rc)
  (PZ:dH w (kW S B iv gm Fn rv) vby p) (hq:∀q∈ri,rl q<=2000000000) (hqc:∀q∈rc,rl q<=2000000000) (hb:rl p<=2000000000):
  eH PG GT.o0 #[vi,vby,vc] J (fun e Y=>e= .returned (.tuple #[])/\J.grownBy Y vi.ownBlock/\(∀g,vi.ownBlock=some g->Mb (HS gm Fn) rv g)/\gL Y S B ((J.heap.size,Y.heap.size)::iv) gm Fn n rv (M.set i (ri.mapIdx (ou p rc)))):=by
 have TS:=hM.rel r F;obtain⟨A,Tk,Sr,hr3⟩:=TS.Mz.row i _ ri Tj Tz;obtain⟨Vc,Q5⟩:=TS.Mz.aDu hvc VO W;have RP:∀g,vi.ownBlock=some g->Mb (HS gm Fn) rv g:=fun g X=>.inr ⟨_,aC Tj,X⟩;refine(Go.Ex.I9 (C:=fun g=>vc.ownBlock=some g) (fun x U=>TS.Mz.low x (.inr ⟨_,aC hvc,U⟩)) (kW.old r F) Tk hr3 Sr (PZ.jO r F) Vc Q5 (fun x U RX=>RX.2 (RP x U)) (fun x U RX=>hic (TS.Mz.uR i c _ _ x Tj hvc U RX)) hq hqc hb).mono fun e w8 L=>?_;obtain⟨rfl,PF,css',hr4,hr5,hr6⟩:=L;have hM3:=TS.Mz.setRow (S':=Nw (kW S B iv gm Fn rv) J w8) (kW.old r F) (fun x U RX=>U.2 RX) Tj PF (fun x U=>.inl U) ⟨css',hr4,hr5,hr6⟩;refine⟨rfl,PF,RP,hM3.cP fun g X=>?_,fun g X=>(hM.rO g X).mono fun p hp=>aB _ hp,hM.rows⟩;rcases X with X|X
 .exact⟨X.1.mono fun p hp=>aB _ hp,X.2⟩
 .exact⟨.inr ⟨by have:=r.dA;omega,_,_,aH,X.1,X.2⟩,fun hm=>by have:=rlo r (dV B) g (hM.rO g hm);omega⟩
theorem kW.grown(r:Rel H nx iv B w O J)(F:∀g,S g->g<B)(X:J.grownBy Y row)(Ov:∀g,row=some g->Mb (HS gm Fn) rv g):∀g,kW S B iv gm Fn rv g->Y.heap[g]? =w.heap[g]? :=fun g h=>by
 rw[X.block g (rlo r F g h.1) fun e=>h.2 (Ov g e.symm),rls r F h.1]
theorem gL.base(hM:gL w S B iv gm Fn n rv M){g:Nat}(h:Mb (HS gm Fn) rv g):B<=g:=(hM.rO g h).elim (fun h=>h.elim) fun h=>h.1
theorem gL.cZ(hM:gL w S B iv gm Fn n rv M)(r:Rel H nx iv B w O J)(X:J.grownBy Y row)(Ov:∀g,row=some g->Mb (HS gm Fn) rv g):ju B J Y:=
 ju.grown X (fun g e=>hM.base (Ov g e)) r.dA
structure xg(w:World)(S:Nat->Prop)(B:Nat)(iv:Iv)(gm Fn n:Nat)(rv:List Value)(M:List (List Rat))(i:Nat)(vb:Value):Prop where
 out:w.ownsRow 0 T.row 1 (HS gm Fn) Fn (rv.set i vb)
 was:∃w0,gL w0 S B iv gm Fn n rv M/\∀g,Cv S B iv g->g≠gm->w.heap[g]? =w0.heap[g]?
theorem xg.cR{i:Nat}(h:xg w S B iv gm Fn n rv M i vb)(K:∀g,Cv S B iv g->Y.heap[g]? =w.heap[g]?):xg Y S B iv gm Fn n rv M i vb:=by
 obtain⟨w0,I,G⟩:=h.was;exact⟨ownsRow.cR h.out fun g X=>by injection X with X;subst X;exact K _ (Dh I.out),w0,I,fun g X Ox=>(K g X).trans (G g X Ox)⟩
theorem gL.aD8(hM:gL w S B iv gm Fn n rv M)(r:Rel H nx iv B w O J)(F:∀g,S g->g<B){i:Nat}(D:i<Fn):
  ((⟨gm,0,none⟩:Addr).add ((i:Int).toNat*1)).spot=none/\(∀k,k<1->(J.cell? (((⟨gm,0,none⟩:Addr).add ((i:Int).toNat*1)).add k)).isSome=true/\J.frozen? (((⟨gm,0,none⟩:Addr).add ((i:Int).toNat*1)).add k)=false)/\
  (∀id b,dU H id=some b->(O id).nil=false->(O id).g≠((⟨gm,0,none⟩:Addr).add ((i:Int).toNat*1)).block)/\
  ∀w4,w4=setCells J ((⟨gm,0,none⟩:Addr).add ((i:Int).toNat*1)) [vb]->xg w4 S B iv gm Fn n rv M i vb/\J.grownBy w4 (some gm):=by
 have TS:=hM.rel r F;have PU:(⟨gm,0,none⟩:Addr).add ((i:Int).toNat*1)=⟨gm,i*1,none⟩:=by rw[aF,dX,aW]
 have Ov:J.ownsRow 0 T.row 1 (HS gm Fn) Fn rv:=by have:=TS.Mz.out;rwa [hM.rows]at this
 obtain⟨g',e,Oz,Qm,PF,PR⟩:=lZ (nv:=[vb]) Ov rfl (show i<Fn from D) rfl bi;injection e with e;injection e with e;subst e;rw[Gd (by rw[hM.rows];exact D)]at Qm;rw[PU];refine⟨rfl,Oz,Rel.not r (dV B) hM.out,fun w4 hw4=>?_⟩;rw[hw4];exact⟨⟨Qm,J,TS,fun g X Ox=>PF.block g (rlo r F g X) fun e=>Ox (by injection e)⟩,PF⟩
theorem xg.rel{i:Nat}(h:xg w S B iv gm Fn n rv M i vb)(r:Rel H nx iv B w O J)(F:∀g,S g->g<B):xg J S B iv gm Fn n rv M i vb:=h.cR fun _ X=>rls r F X
theorem xg.aD9{i j:Nat}{va:Value}(hH:xg w S B iv gm Fn n rv M i vb)(r:Rel H nx iv B w O J)(F:∀g,S g->g<B)(D:rv[i]? =some va)(hj:rv[j]? =some vb):
  ((⟨gm,0,none⟩:Addr).add ((j:Int).toNat*1)).spot=none/\(∀k,k<1->(J.cell? (((⟨gm,0,none⟩:Addr).add ((j:Int).toNat*1)).add k)).isSome=true/\J.frozen? (((⟨gm,0,none⟩:Addr).add ((j:Int).toNat*1)).add k)=false)/\
  (∀id b,dU H id=some b->(O id).nil=false->(O id).g≠((⟨gm,0,none⟩:Addr).add ((j:Int).toNat*1)).block)/\
  ∀w4,w4=setCells J ((⟨gm,0,none⟩:Addr).add ((j:Int).toNat*1)) [va]->gL w4 S B iv gm Fn n ((rv.set i vb).set j va) (fC [] M i j)/\(∀g,Mb (HS gm Fn) ((rv.set i vb).set j va) g↔Mb (HS gm Fn) rv g)/\J.grownBy w4 (some gm):=by
 have hHr:=hH.rel r F;obtain⟨w0,hM,hwas⟩:=hHr.was;have PU:(⟨gm,0,none⟩:Addr).add ((j:Int).toNat*1)=⟨gm,j*1,none⟩:=by rw[aF,dX,aW]
 have hjR:j<Fn:=by rw[<-hM.rows];exact(aE.1 hj).1
 obtain⟨g',e,Oz,Qm,PF,PR⟩:=lZ (nv:=[va]) hHr.out rfl hjR rfl bi;injection e with e;injection e with e;subst e;rw[Gd (by rw[bj,hM.rows];exact hjR)]at Qm;rw[PU];refine⟨rfl,Oz,Rel.not r (dV B) hM.out,fun w4 hw4=>?_⟩;rw[hw4];have RY:∀g,Mb (HS gm Fn) ((rv.set i vb).set j va) g↔Mb (HS gm Fn) rv g:=fun g=>Mb.swap D hj;have hst2:(setCells J ⟨gm,j*1,none⟩ [va]).ownsRow 0 T.row 1 (HS gm Fn) rv.length ((rv.set i vb).set j va):=by rw[hM.rows];exact Qm
 have hsw:=hM.Mz.swap (Y:=setCells J ⟨gm,j*1,none⟩ [va]) (fun g X hm=>X.2 hm) D hj hst2 fun g X Ox=>by
  have Ox:g≠gm:=fun e=>Ox (by rw[e];rfl);have hgc:Cv S B iv g:=X.elim (fun h=>h.1) fun h=>Dh (hM.rO g h);rw[PF.block g (rlo r F g hgc) (fun e=>Ox (by injection e)),hwas g hgc Ox]
 have Uk:∀g,kW S B iv gm Fn ((rv.set i vb).set j va) g↔kW S B iv gm Fn rv g:=fun g=>and_congr_right fun _=>not_congr (RY g);exact⟨⟨hsw.cP fun g X=>(Uk g).2 X,fun g X=>hM.rO g ((RY g).1 X),by simp[hM.rows]⟩,RY,PF⟩
theorem jY.pK(h:jY w S B iv rv n M)(r:Rel H nx iv B w O J)(F:∀g,S g->g<B){id:Nat}(hH:dU H id=some (.arr T.row rv))(PK:(O id).nil=false)(hR:rv.length<=maxLen)(I:∀u∈rv,u.oneCell'=true):
  gL J S B (((O id).g,(O id).g+1)::iv) (O id).g rv.length n rv M:=by
 have hm:=h.Mz r F hH PK hR I;refine⟨hm.cP fun g X=>⟨X.1.mono fun p hp=>aB _ hp,X.2⟩,fun g X=>?_,rfl⟩;rcases X with X|⟨u,hu,X⟩
 .injection X with X;subst X;exact .inr ⟨(r.low id _ hH PK).1,_,_,aH,lr,bc _⟩
 .exact(h.new u hu g X).mono fun p hp=>aB _ hp
end
end Go.Ex
