/- Texts X134 to X137: lemmas, each with its conditions. -/
import Derived.Test.YtgkpbdkechfgmaaGreatP11
set_option maxHeartbeats 2000000
namespace Go.Ex
open Go Go.Sx Go.Proofs
variable{s:AP}{iv:Iv}{F' M:List (List Rat)}{A:List (List Value)}{at_:List (Option Nat)}{fr ps pv:List Nat}{b qs r row u x y:List Rat}{Z rv:List Value}{B c cols g h i id j n p:Nat}{C S S0:Nat->Prop}{O:Nat->Sx.eG}{a ax:Option Addr}{q:Rat}{v:Value}{w:World}
theorem aAb{α:Type}(a b:α)(h:i<c):(List.replicate i a++List.replicate (c-i) b).take i++[a]++(List.replicate i a++List.replicate (c-i) b).drop (i+1)=List.replicate (i+1) a++List.replicate (c-(i+1)) b:=by
 rw[List.take_left' (bD ..),List.drop_append,bD,List.drop_of_length_le (by rw[bD];omega),List.nil_append,List.drop_replicate,List.replicate_succ'];congr 2;omega
def mb(w:World)(C S:Nat->Prop)(v:Value)(M:List (List Rat)):Prop:=∃rv,j1 w C 1 v rv M.length/\rv.length=M.length/\∀(i:Nat) u x,rv[i]? =some u->M[i]? =some x->cX w S u x
theorem mb.shape(h:mb w C S v M):∃a c,v= .slice a M.length c/\M.length<=c/\M.length<=maxLen:=by
 obtain⟨rv,⟨h0,_,_,a,c,I,G,_⟩,_⟩:=h;exact⟨a,c,I,G,h0⟩
theorem mb.load{m:Nat}(h:mb w C S (.slice a m c) M)(hq:M[j]? =some x):
  ∃ad u,a=some ad/\cX w S u x/\C ad.block/\w.cell? (ad.add (j*1))=some u:=by
 obtain⟨rv,⟨h0,I,G,a',c',e,h3,h4⟩,hl,hf⟩:=h;injection e with e1 e2 e3;subst e1;obtain⟨u,hu⟩:∃u,rv[j]? =some u:=⟨_,aD (by rw[hl];exact(aE.1 hq).1)⟩
 obtain⟨ad,k1,k2,k3⟩:=h4 j u hu;exact⟨ad,u,k1,hf j u x hu hq,k2,by rw[aZ];exact k3⟩
def atV:Option Nat->Value
 |none=>iV (-1)
 |some j=>iV (j:Int)
structure Gn(M:List (List Rat))(cols h:Nat):Prop where
 rows:∀i,i<=M.length->∀r∈(iu M cols i).1,∀q∈r,rl q+1<=h
 nU:∀i,i<M.length->∀k,k<=cols->∀q∈gR (iu M cols i).1 (iu M cols i).2.1 (M.getD i []) k,rl q+1<=h
theorem DS{k:Nat}(h:at_[k]? =some (some j)):gR F' at_ row (k+1)=nh (gR F' at_ row k) (F'.getD j []) ((gR F' at_ row k).getD k 0):=by
 rw[gR,show at_.getD k none=some j by rw[List.getD,h];rfl]
theorem KQ{k:Nat}(h:at_[k]? =some none):gR F' at_ row (k+1)=gR F' at_ row k:=by
 rw[gR,show at_.getD k none=none by rw[List.getD,h];rfl]
theorem aAc{α:Type}{l:List α}(a b:α)(h:j<l.length):(l++[a]).set j b=l.set j b++[a]:=by rw[List.set_append,aM h]
theorem KR(RH:(F',at_,fr)=iu M cols i)(U:M.getD i []=x)(hy:gR F' at_ x cols=y)(hp:wT y cols=cols):(F',at_,fr)=iu M cols (i+1):=by
 rw[iu,<-RH,U,lO];simp only[hy,hp,if_true]
theorem KU(RH:(F',at_,fr)=iu M cols i)(U:M.getD i []=x)(hy:gR F' at_ x cols=y)(hp:wT y cols=p)(Ox:p≠cols):
  iu M cols (i+1)=(iA F' (y.map (· / y.getD p 0)) p F'.length++[y.map (· / y.getD p 0)],at_.set p (some F'.length),fr++[i]):=by
 rw[iu,<-RH,U,lO];simp only[hy,hp,aJ Ox]
theorem aAd(q:Rat)(y:List Rat):ig y.length (fun _ r=>r / q) y=y.map (· / q):=by
 rw[tZ];exact bT fun j=>by rw[List.getElem?_mapIdx,aO]
theorem KV(h:F'[i]? =some r)(h0:r.getD p 0=0):iA F' u p (i+1)=iA F' u p i:=by
 rw[CA h,h0,Bz];refine bT fun j=>?_;by_cases hj:i=j
 .subst hj;rw[aT (by rw[gU];exact(aE.1 h).1),Hu h]
 .rw[aY hj]
def mJ(rv:List Value)(at_:List (Option Nat)):Nat->List Value
 |0=>[]
 |k+1=>match at_.getD k none with
  |some r=>mJ rv at_ k++[rv.getD r (.bool false)]
  |none=>mJ rv at_ k
theorem oN{k:Nat}(h:s.2.1[k]? =some none):dW s (k+1)=dW s k:=by
 rw[dW,show s.2.1.getD k none=none by rw[List.getD,h];rfl]
theorem oO{k r:Nat}(h:s.2.1[k]? =some (some r)):dW s (k+1)=((dW s k).1++[s.1.getD r []],(dW s k).2.1++[k],(dW s k).2.2++[s.2.2.getD r 0]):=by
 rw[dW,show s.2.1.getD k none=some r by rw[List.getD,h];rfl]
theorem vV{k:Nat}(h:at_[k]? =some none):mJ rv at_ (k+1)=mJ rv at_ k:=by
 rw[mJ,show at_.getD k none=none by rw[List.getD,h];rfl]
theorem vW{k r:Nat}(h:at_[k]? =some (some r)):mJ rv at_ (k+1)=mJ rv at_ k++[rv.getD r (.bool false)]:=by
 rw[mJ,show at_.getD k none=some r by rw[List.getD,h];rfl]
theorem xq(s:AP)(rv:List Value):∀k,k<=s.2.1.length->(dW s k).1.length=(dW s k).2.1.length/\(dW s k).2.2.length=(dW s k).2.1.length/\(mJ rv s.2.1 k).length=(dW s k).2.1.length/\(dW s k).2.1.length<=k
 |0,_=>⟨rfl,rfl,rfl,lr⟩
 |k+1,K=>by
  have ih:=xq s rv k be;obtain⟨o,ho⟩:=gO s.2.1 k
  cases o with
  |none=>rw[oN ho,vV ho];exact⟨ih.1,ih.2.1,ih.2.2.1,by have:=ih.2.2.2;omega⟩
  |some r=>rw[oO ho,vW ho];simp only[aQ,bC];omega
theorem DT{F':List (List Rat)}{at_:List (Option Nat)}{fr:List Nat}{rv:List Value}(hl:rv.length=F'.length)(PY:∀(k r:Nat),at_[k]? =some (some r)->r<F'.length):∀k,k<=at_.length->∀(i:Nat) u x,(mJ rv at_ k)[i]? =some u->(dW (F',at_,fr) k).1[i]? =some x->∃r:Nat,rv[r]? =some u/\F'[r]? =some x
 |0,_,i,u,x,h,_=>by cases h
 |k+1,K,i,u,x,I,G=>by
  have ih:=DT (fr:=fr) hl PY k be i u x;obtain⟨o,ho⟩:=gO at_ k
  cases o with
  |none=>
   rw[vV ho]at I;rw[oN (s:=(F',at_,fr)) ho]at G;exact ih I G
  |some r=>
   have hr:=PY k r ho;rw[vW ho]at I;rw[oO (s:=(F',at_,fr)) ho]at G;obtain⟨q1,q2,q3,q4⟩:=xq (F',at_,fr) rv k (by dsimp only;omega);dsimp only at q1 q2 q3 q4 G;rcases aS i (mJ rv at_ k).length with D|D
   .rw[aI D]at I;rw[aI be]at G;exact ih I G
   .have Rr:i=(mJ rv at_ k).length:=by have:=(aE.1 I).1;simp at this;omega
    rw[Rr,aN lr,bO]at I;rw[Rr,q3,<-q1,aN lr,bO]at G;simp only[List.getElem?_cons_zero,Option.some.injEq]at I G;refine⟨r,?_,?_⟩
    .rw[<-I,List.getD,aD be];rfl
    .rw[<-G,List.getD,aD hr];rfl
theorem Ih{α:Type}(l:List α)(a b:α):(l++[a]).set l.length b=l++[b]:=by simp
section
variable{S S':Nat->Prop}{H:Hp}{nx:Nat}{iv N:Iv}{B:Nat}{w J Y:World}{O:Nat->Sx.eG}{rv:List Value}{v:Value}{q:Rat}
theorem cY.Ii(h:cY w (Lr S B iv rv) v q)(r:Rel H nx iv B w O J)(F:∀g,S g->g<B):cY J (Lr S B iv rv) v q:=h.cR fun _ X=>rls r F X.1
theorem cY.aC4(h:cY w (Lr S B iv rv) v q)(r:Rel H nx iv B w O J)(F:∀g,S g->g<B)(L:Ext J Y)(hm:∀p,p∈iv->p∈N):cY Y (Lr S B N rv) v q:=
 ((h.Ii r F).cR fun g X=>L.block g (rlo r F g X.1)).cP fun _ X=>⟨X.1.mono hm,X.2⟩
theorem Lr.old(r:Rel H nx iv B w O J)(F:∀g,S g->g<B):Old (Lr S B iv rv) J:=fun g X=>rlo r F g X.1
theorem cY.aDv(h:cY Y (Nf J Y) v q)(hM:nK w S B iv rv n M)(r:Rel H nx iv B w O J):cY Y (Lr S0 B ((J.heap.size,Y.heap.size)::iv) rv) v q:=
 h.cP fun g X=>by
  rcases X with X|X
  .exact X.elim
  .exact⟨.inr ⟨by have:=r.dA;omega,_,_,aH,X.1,X.2⟩,fun hm=>by have:=hM.lt r hm;omega⟩
end
theorem zH(hC:Old C w)(F:Old S w)(hM:mb w C S v M)(hlen:fz n M)(hn0:0<n)(W:n<=1000)(hR:M.length<=1000)(QP:cols<=n)(hB:Gn M cols h)(hh:3*h<=90000):
  eH PG GT.gJ #[.agg #[v,iV n],iV cols] w (eR w fun v' Y=>∃vr vp vf,v'= .agg #[vr,iV n,vp,vf]/\dD Y (Nw S w Y) vr (dh M cols).1/\dN Y (Nf w Y) vp (dh M cols).2.1/\dN Y (Nf w Y) vf (dh M cols).2.2):=by
 have V:=bR w;obtain⟨am,cm,rfl,SB,Qr⟩:=mb.shape hM;unfold maxLen at Qr;refine kQ bv ?_
 refine⟨cols,cols,rfl,rfl,lr,be,be,Nat×World,fun z=>⟨[(1,iZ cols),(2,pP 0 0),(4,pP 1 0),(5,pP 2 0),(6,.o (.s 3 0 cols cols)),(27,iZ cols),(28,iN z.1)],
   [(3,.arr T.int (List.replicate z.1 (iV (-1))++List.replicate (cols-z.1) (iV 0))),(2,.box T.dm [.v nls,.v (iV n),.v nls,.v nls]),(1,.box T.dm [.v nls,.v (iV 0),.v nls,.v nls]),(0,.box T.eL [.v (.slice am M.length cm),.v (iV n)])],4,[],z.2⟩,fun z=>cols-z.1,
  fun z=>z.1<=cols/\Bq w z.2,?_,?_⟩
 .intro O J r;exact⟨(0,J),⟨aR _,V.tr r.cZ⟩,sbgn [] r ⟨by simp;rfl,rfl,rfl,rfl,trivial⟩⟩
 rintro⟨i,w1⟩ ⟨D,V⟩;dsimp only at D V ⊢;apply bS<;>intro Ou
 .have Ou:=dL Ou;refine⟨be,by simp;omega,List.replicate (i+1) (iV (-1))++List.replicate (cols-(i+1)) (iV 0),?_,?_⟩
  .rw[aF,aZ,aW];exact aAb _ _ Ou
  refine inc i ?_;intro I' w3 R;exact⟨(i+1,w3),⟨Ou,V.tr R.cZ⟩,sbgn [] R,dec Ou⟩
 have Ou:=dE D Ou;rw[Ou]
 refine⟨Nat×List Value×List (List Rat)×List (Option Nat)×List Nat×World×Iv,fun z=>⟨[(38,iN z.1),(1,iZ cols),(2,pP 0 0),(4,pP 1 0),(5,pP 2 0),(6,.o (.s 3 0 cols cols)),(36,sV am M.length cm),(37,iZ M.length)],[(2,.box T.dm [.w 4 z.2.1.length,.v (iV n),.v nls,.w 5 z.2.2.2.2.1.length]),(5,.vec T.int 1 (z.2.2.2.2.1.map fun c:Nat=>iV (c:Int))),(4,.vec T.gF 1 z.2.1),(0,.box T.eL [.v (.slice am M.length cm),.v (iV n)]),(1,.box T.dm [.v nls,.v (iV 0),.v nls,.v nls]),(3,.arr T.int (z.2.2.2.1.map atV))],6,z.2.2.2.2.2.2,z.2.2.2.2.2.1⟩,fun z=>M.length-z.1,
  fun z=>z.1<=M.length/\(z.2.2.1,z.2.2.2.1,z.2.2.2.2.1)=iu M cols z.1/\Bq w z.2.2.2.2.2.1/\nK z.2.2.2.2.2.1 S w.heap.size z.2.2.2.2.2.2 z.2.1 n z.2.2.1,?_,?_⟩
 .intro O J r
  exact⟨(0,[],[],List.replicate cols none,[],J,[]),⟨aR _,rfl,V.tr r.cZ,nK.nil⟩,Sub.EH 2 0 T.gF 1 rfl rfl (by simp[kK,SV.sc,At.sc]) r fun In r1=>Sub.EH 2 3 T.int 1 rfl rfl (by simp[kK,SV.sc,At.sc]) r1 fun If r2=>
   sbgn [] r2 ⟨rfl,rfl,rfl,rfl,rfl,by simp[atV];rfl,trivial⟩⟩
 rintro⟨i,rv,F',at_,fr,w1,iv⟩ ⟨D,RH,V,hE⟩;dsimp only at D RH V hE ⊢;have Oz:=CB cols hlen i D;rw[<-RH]at Oz;have hatl:at_.length=cols:=Oz.at_;have hfrl:fr.length=F'.length:=Oz.yJ;have hEi:F'.length<=i:=Oz.le;have PN:rv.length=F'.length:=hE.len;have hEb:∀r∈F',∀q∈r,rl q+1<=h:=by have:=hB.rows i D;rwa [<-RH]at this
 apply bS<;>intro Ou
 .have Ou:=dL Ou;obtain⟨x,U⟩:=gO M i;have QM:=hlen x (aC U);have WL:M.getD i []=x:=by rw[List.getD,U];rfl
  have Pk:∀k,k<=cols->∀q∈gR F' at_ x k,rl q+1<=h:=by have:=hB.nU i Ou;rwa [<-RH,WL]at this
  have hcll:∀k,(gR F' at_ x k).length=n:=fun k=>by rw[jF,QM]
  obtain⟨adm,um,S7,QZ,km1,km2⟩:=mb.load hM U;obtain⟨A,⟨-,g1,g2,a0,c0,rfl,g4,g5⟩,QW,VU,PT⟩:=QZ;have PM:=eP VU;refine⟨adm,S7,be,.slice a0 x.length c0,rd1 km2 V (hC _ km1),?_⟩;refine .inl ?_;refine⟨A.flatten,g1,g2,fun O J r Ph=>?_,?_⟩
  .obtain⟨u0,Xp⟩:=gO A.flatten 0;obtain⟨ad,ha,_,_⟩:=g5 0 u0 Xp;refine⟨ad,ha,fun j u hj=>?_⟩;obtain⟨ad2,RT,q1,q2⟩:=g5 j u hj;rw[ha]at RT;injection RT with RT;subst RT;rw[cV (w:=w) (Y:=J) (by rw[dO];exact(V.tr r.cZ).block _ (F _ q1))];exact q2
  refine⟨rfl,be,mx,?_⟩;rw[aW x.length,QM]
  refine⟨Nat×Nat×Nat×World×Iv,fun z=>⟨[(9,.o (.v (.slice (some ⟨z.2.1,0,none⟩) n z.2.2.1))),(46,iZ cols),(47,iN z.1),(2,pP 0 0),(4,pP 1 0),(5,pP 2 0),(6,.o (.s 3 0 cols cols)),(8,iN i),(36,sV am M.length cm),(37,iZ M.length),(38,iN i),(1,iZ cols)],[(2,.box T.dm [.w 4 rv.length,.v (iV n),.v nls,.w 5 fr.length]),(5,.vec T.int 1 (fr.map fun c:Nat=>iV (c:Int))),(4,.vec T.gF 1 rv),(0,.box T.eL [.v (.slice am M.length cm),.v (iV n)]),(1,.box T.dm [.v nls,.v (iV 0),.v nls,.v nls]),(3,.arr T.int (at_.map atV))],8,z.2.2.2.2,z.2.2.2.1⟩,fun z=>cols-z.1,
   fun z=>z.1<=cols/\Bq w z.2.2.2.1/\nK z.2.2.2.1 S w.heap.size z.2.2.2.2 (rv++[.slice (some ⟨z.2.1,0,none⟩) n z.2.2.1]) n (F'++[gR F' at_ x z.1]),?_,?_⟩
  .intro O J r;have hv:=aBx (S:=S) (m:=n) (qs:=x) (A:=A) r (id:=7) rfl be hn0 mx ⟨QW,fun j Z q k1 k2=>(PT j Z q k1 k2).cR fun g X=>(V.tr r.cZ).block g (F g X)⟩
   exact⟨(0,(O 7).g,(O 7).cap,J,((O 7).g,(O 7).g+1)::iv),⟨aR _,V.tr r.cZ,(hE.rel r F).push (fun g X e=>Rel.not r F X 7 _ rfl hv.1 e.symm) hv.2.1 hv.2.2.2 F⟩,
    Sub.aDb r (id:=7) (t:=9) (Z:=A.flatten) rfl hv.1 rfl ⟨rfl,rfl,rfl,rfl,rfl,rfl,trivial⟩ rfl ⟨rfl,rfl,rfl,rfl,rfl,rfl,rfl,rfl,rfl,rfl,rfl,trivial⟩ (by simp[kK,SV.sc,At.sc])⟩
  rintro⟨k,gx,cx,Y,iv⟩ ⟨K,V,hE⟩;dsimp only at K V hE ⊢;apply bS<;>intro Ow
  .have Ow:=dL Ow;obtain⟨o,ho⟩:=gO at_ k;refine⟨be,atV o,by rw[aF,aZ,aW,aO,ho];rfl,?_⟩
   cases o with
   |none=>
    refine inc k ?_;intro I' w3 R;exact⟨(k+1,gx,cx,w3,_),⟨Ow,V.tr R.cZ,by dsimp only;rw[KQ ho];exact hE.rel R F⟩,sbgn [] R,dec Ow⟩
   |some j=>
    have hj:j<F'.length:=Oz.lt k j ho;have hq:∃q,(gR F' at_ x k)[k]? =some q:=⟨_,aD (by rw[hcll];omega)⟩
    obtain⟨q,hq⟩:=hq;have RU:(gR F' at_ x k).getD k 0=q:=by rw[List.getD,hq];rfl
    have Ss:=Pk k K q (aC hq);have Ue:(rv++[.slice (some ⟨gx,0,none⟩) n cx])[rv.length]? =some (.slice (some ⟨gx,0,none⟩) n cx):=by simp
    have Uf:(F'++[gR F' at_ x k])[rv.length]? =some (gR F' at_ x k):=by rw[PN];simp
    obtain⟨ad,Z,PU,hF,hl⟩:=hE.load Ue Uf hq;obtain⟨f0,f1,f2,f3,f4,f5,f6,f7,rfl,hF⟩:=hF;refine⟨ad,PU,be,rC f0 f1 f2 f3 f4 f5 f6 f7,rfl,fun O J r t u hu=>?_,?_⟩
    .obtain⟨k1,k2⟩:=hl t u hu;rw[aF,cV (w:=Y) (Y:=J) (by rw[dO,dO];exact rls r (dV _) k1)];exact k2
    refine cQ (cE V (fun _ J v Y=>∃d,v= .bool d/\(d=true↔q=0)) (fun O J r=>oM (Lr.old r F) ((hF.Ii r F).l be)) ?_);rintro O _ _ Pa PA r L V E ⟨d,rfl,hz⟩;replace hE:=hE.cS r F L (mC E);replace hF:=hF.aC4 r F L (mC E)
    cases d
    .have Xq:q≠0:=fun e=>by have:=hz.2 e;cases this
     obtain⟨vj,UM⟩:=gO rv j;have Uw:(rv++[.slice (some ⟨gx,0,none⟩) n cx])[j]? =some vj:=by rw[aI be];exact UM
     obtain⟨ej,Wk⟩:=gO F' j;have Wl:(F'++[gR F' at_ x k])[j]? =some ej:=by rw[aI hj];exact Wk
     have hejd:F'.getD j []=ej:=by rw[List.getD,Wk];rfl
     obtain⟨aj,cj,rfl⟩:=hE.form Uw;obtain⟨ad,Z,PU,hF,hl⟩:=hE.load Ue Uf hq;obtain⟨f0,f1,f2,f3,f4,f5,f6,f7,rfl,hF⟩:=hF;refine dP (idO 12) ?_;refine⟨bv,be,.slice aj n cj,by simpa using UM,ad,PU,be,rC f0 f1 f2 f3 f4 f5 f6 f7,rfl,fun O J r t u hu=>?_,?_⟩
     .obtain⟨k1,k2⟩:=hl t u hu;rw[aF,cV (w:=Pa) (Y:=J) (by rw[dO,dO];exact rls r (dV _) k1)];exact k2
     refine⟨fun O J r=>?_⟩;refine(hE.Gi r F (i:=rv.length) (j:=j) (h:=h) be Ue Uw Uf Wl (hF.l be) (fun y hy=>Pk k K y hy) (fun y hy=>hEb ej (aC Wk) y hy) Ss hh).mono fun e w8 L=>?_;obtain⟨rfl,PF,RP,Pb⟩:=L;have Pf:=(V.tr r.cZ).tr (hE.cZ r PF RP);refine⟨.tuple #[],_,(J.heap.size,w8.heap.size)::PA,rfl,r.pM (fun x U=>Rel.not r (dV _) (hE.new x (RP x U))) PF,?_⟩;have PL:(F'++[gR F' at_ x k]).set rv.length (nh (gR F' at_ x k) ej q)=F'++[gR F' at_ x (k+1)]:=by rw[PN,Ih,DS ho,hejd,RU]
     rw[PL]at Pb;generalize (J.heap.size,w8.heap.size)::PA=RZ at*
     refine inc k ?_;intro I' w3 R;exact⟨(k+1,gx,cx,w3,_),⟨Ow,Pf.tr R.cZ,Pb.rel R F⟩,sbgn [] R,dec Ow⟩
    .have Xq:q=0:=hz.1 rfl;refine inc k ?_;intro I' w3 R;exact⟨(k+1,gx,cx,w3,_),⟨Ow,V.tr R.cZ,by dsimp only;rw[DS ho,RU,Xq,Bz];exact hE.rel R F⟩,sbgn [] R,dec Ow⟩
  have Ow:=dE K Ow;rw[Ow]at hE;obtain⟨y,hy⟩:=exq (gR F' at_ x cols);have hyl:y.length=n:=by rw[<-hy];exact hcll cols
  have WR:∀q∈y,rl q+1<=h:=by rw[<-hy];exact Pk cols lr
  rw[hy]at hE;have Ue:(rv++[.slice (some ⟨gx,0,none⟩) n cx])[rv.length]? =some (.slice (some ⟨gx,0,none⟩) n cx):=by simp
  refine⟨Nat×World×Iv,fun z=>⟨[(9,.o (.v (.slice (some ⟨gx,0,none⟩) n cx))),(12,iN z.1),(2,pP 0 0),(4,pP 1 0),(5,pP 2 0),(6,.o (.s 3 0 cols cols)),(8,iN i),(36,sV am M.length cm),(37,iZ M.length),(38,iN i),(1,iZ cols)],[(2,.box T.dm [.w 4 rv.length,.v (iV n),.v nls,.w 5 fr.length]),(5,.vec T.int 1 (fr.map fun c:Nat=>iV (c:Int))),(4,.vec T.gF 1 rv),(0,.box T.eL [.v (.slice am M.length cm),.v (iV n)]),(1,.box T.dm [.v nls,.v (iV 0),.v nls,.v nls]),(3,.arr T.int (at_.map atV))],8,z.2.2,z.2.1⟩,fun z=>cols-z.1,
   fun z=>z.1<=cols/\(∀t,t<z.1->y.getD t 0=0)/\Bq w z.2.1/\nK z.2.1 S w.heap.size z.2.2 (rv++[.slice (some ⟨gx,0,none⟩) n cx]) n (F'++[y]),?_,?_⟩
  .intro O J R;exact⟨(0,J,_),⟨aR _,fun t ht=>absurd ht (Nat.not_lt_zero t),V.tr R.cZ,hE.rel R F⟩,sbgn [] R⟩
  rintro⟨pv,w3,iv⟩ ⟨hp,XK,V,hE⟩;dsimp only at hp XK V hE ⊢;have Uf:(F'++[y])[rv.length]? =some y:=by rw[PN];simp
  apply bS<;>intro Ts
  .have Ts:=dL Ts;obtain⟨q,hq⟩:=gO y pv;have RU:y.getD pv 0=q:=by rw[List.getD,hq];rfl
   have Ss:=WR q (aC hq);obtain⟨ad,Z,PU,hF,hl⟩:=hE.load Ue Uf hq;obtain⟨f0,f1,f2,f3,f4,f5,f6,f7,rfl,hF⟩:=hF;refine⟨ad,PU,be,rC f0 f1 f2 f3 f4 f5 f6 f7,rfl,fun O J r t u hu=>?_,?_⟩
   .obtain⟨k1,k2⟩:=hl t u hu;rw[aF,cV (w:=w3) (Y:=J) (by rw[dO,dO];exact rls r (dV _) k1)];exact k2
   refine cQ (cE V (fun _ J v Y=>∃d,v= .bool d/\(d=true↔q=0)) (fun O J r=>oM (Lr.old r F) ((hF.Ii r F).l be)) ?_);rintro O _ _ Px Oy r L V E ⟨d,rfl,hz⟩;replace hE:=hE.cS r F L (mC E)
   cases d
   .have Xq:q≠0:=fun e=>by have:=hz.2 e;cases this
    apply bS<;>intro L
    .have L:(pv:Int)=cols:=by simpa using L
     omega
    have Vb:wT y cols=pv:=LR XK hp fun _=>by rw[RU];exact Xq
    have TM:=KU RH WL hy Vb be;rw[RU]at TM;obtain⟨u,hu⟩:=exq (y.map (· / q));rw[hu]at TM;have hul:u.length=n:=by rw[<-hu,aL,hyl]
    have hub:∀q∈u,rl q+1<=h:=by
     have:=hB.rows (i+1) Ou u (by rw[TM];simp);exact this
    obtain⟨ad,Z,PU,hF,hl⟩:=hE.load Ue Uf hq;obtain⟨f0,f1,f2,f3,f4,f5,f6,f7,rfl,hF⟩:=hF;refine⟨ad,PU,be,rC f0 f1 f2 f3 f4 f5 f6 f7,rfl,fun O J r t u hu=>?_,?_⟩
    .obtain⟨k1,k2⟩:=hl t u hu;rw[aF,cV (w:=Px) (Y:=J) (by rw[dO,dO];exact rls r (dV _) k1)];exact k2
    refine⟨Nat×World×Iv,fun z=>⟨[(9,.o (.v (.slice (some ⟨gx,0,none⟩) n cx))),(12,iN pv),(13,pP 8 0),(97,iZ n),(98,iN z.1),(2,pP 0 0),(4,pP 1 0),(5,pP 2 0),(6,.o (.s 3 0 cols cols)),(8,iN i),(36,sV am M.length cm),(37,iZ M.length),(38,iN i),(1,iZ cols)],[(8,.box T.Rat [.v (.bool f0),.v (.slice f1 f2 f3),.v (.bool f4),.v (.slice f5 f6 f7)]),(2,.box T.dm [.w 4 rv.length,.v (iV n),.v nls,.w 5 fr.length]),(5,.vec T.int 1 (fr.map fun c:Nat=>iV (c:Int))),(4,.vec T.gF 1 rv),(0,.box T.eL [.v (.slice am M.length cm),.v (iV n)]),(1,.box T.dm [.v nls,.v (iV 0),.v nls,.v nls]),(3,.arr T.int (at_.map atV))],9,z.2.2,z.2.1⟩,fun z=>n-z.1,
     fun z=>z.1<=n/\Bq w z.2.1/\nK z.2.1 S w.heap.size z.2.2 (rv++[.slice (some ⟨gx,0,none⟩) n cx]) n (F'++[ig z.1 (fun _ r=>r / q) y])/\cY z.2.1 (Lr S w.heap.size z.2.2 (rv++[.slice (some ⟨gx,0,none⟩) n cx])) (.agg #[.bool f0,.slice f1 f2 f3,.bool f4,.slice f5 f6 f7]) q,?_,?_⟩
    .intro O J R;exact⟨(0,J,_),⟨aR _,V.tr R.cZ,by dsimp only;rw[qX];exact hE.rel R F,hF.Ii R F⟩,sbgn [] R⟩
    rintro⟨k,w4,iv⟩ ⟨K,V,hE,hF⟩;dsimp only at K V hE hF ⊢;have Uf:(F'++[ig k (fun _ r=>r / q) y])[rv.length]? =some (ig k (fun _ r=>r / q) y):=by rw[PN];simp
    apply bS<;>intro Ow
    .have Ow:=dL Ow;obtain⟨t,ht⟩:=gO y k;have VR:=WR t (aC ht);obtain⟨ad,Z,PU,hG,hl⟩:=hE.load Ue Uf (xp ht);obtain⟨g0,g1,g2,g3,g4,g5,g6,g7,rfl,hG⟩:=hG;refine dP (idO 10) ?_;refine⟨ad,PU,be,rC g0 g1 g2 g3 g4 g5 g6 g7,rfl,fun O J r t u hu=>?_,?_⟩
     .obtain⟨k1,k2⟩:=hl t u hu;rw[aF,cV (w:=w4) (Y:=J) (by rw[dO,dO];exact rls r (dV _) k1)];exact k2
     refine cU (J9:=fun _ J v Y=>cY Y (Nf J Y) v (t / q)) (fun O J r=>KP (Lr.old r F) ((hG.Ii r F).l be) ((hF.Ii r F).l be) Xq) ?_;rintro O QD v3 QC r L hb R7;replace V:=V.tr hb;have hd:=R7.aDv (S0:=S) hE r;replace hE:=hE.cS (N:=(QD.heap.size,QC.heap.size)::iv) r F L fun x U=>aB _ U;replace hF:=hF.aC4 (N:=(QD.heap.size,QC.heap.size)::iv) r F L fun x U=>aB _ U;generalize (QD.heap.size,QC.heap.size)::iv=PH at*
     obtain⟨A0,A1,A2,A3,A4,A5,A6,A7,rfl⟩:=hd.shape;refine⟨⟨gx,0,none⟩,rfl,be,?_⟩;intro O J r;obtain⟨g,X,I,G,h3,h4⟩:=hE.store r F Ue Uf Ow hd;injection X with X;injection X with X;subst X;refine⟨I,G,h3,fun w5 Qv=>?_⟩;obtain⟨k1,k2,k3,k4⟩:=h4 w5 Qv;have Pf:=(V.tr r.cZ).tr k2;have Ry:=hF.cR k4;have PL:(F'++[ig k (fun _ r=>r / q) y]).set rv.length ((ig k (fun _ r=>r / q) y).set k (t / q))=F'++[ig (k+1) (fun _ r=>r / q) y]:=by rw[PN,Ih,<-nJ ht]
     rw[PL]at k1;refine inc k ?_;intro I' w6 R;exact⟨(k+1,w6,_),⟨Ow,Pf.tr R.cZ,k1.rel R F,Ry.Ii R F⟩,sbgn [] R,dec Ow⟩
    have Ow:=dE K Ow;rw[Ow,<-hyl,aAd,hu,hyl]at hE
    refine⟨bv,Nat×World×Iv,fun z=>⟨[(9,.o (.v (.slice (some ⟨gx,0,none⟩) n cx))),(12,iN pv),(113,.o (.w 4 rv.length)),(114,iZ rv.length),(115,iN z.1),(2,pP 0 0),(4,pP 1 0),(5,pP 2 0),(6,.o (.s 3 0 cols cols)),(8,iN i),(36,sV am M.length cm),(37,iZ M.length),(38,iN i),(1,iZ cols)],[(2,.box T.dm [.w 4 rv.length,.v (iV n),.v nls,.w 5 fr.length]),(5,.vec T.int 1 (fr.map fun c:Nat=>iV (c:Int))),(4,.vec T.gF 1 rv),(0,.box T.eL [.v (.slice am M.length cm),.v (iV n)]),(1,.box T.dm [.v nls,.v (iV 0),.v nls,.v nls]),(3,.arr T.int (at_.map atV))],9,z.2.2,z.2.1⟩,fun z=>rv.length-z.1,
     fun z=>z.1<=rv.length/\Bq w z.2.1/\nK z.2.1 S w.heap.size z.2.2 (rv++[.slice (some ⟨gx,0,none⟩) n cx]) n (iA F' u pv z.1++[u]),?_,?_⟩
    .intro O J R;exact⟨(0,J,_),⟨aR _,V.tr R.cZ,by dsimp only;rw[Jo];exact hE.rel R F⟩,sbgn [] R⟩
    rintro⟨j,w5,iv⟩ ⟨hj,V,hE⟩;dsimp only at hj V hE ⊢;apply bS<;>intro Pn
    .have Pn:=dL Pn;obtain⟨ej,Wk⟩:=gO F' j;have Ux:ej.length=n:=Oz.len ej (aC Wk);have heb:=hEb ej (aC Wk);obtain⟨vj,UM⟩:=gO rv j;have Uw:(rv++[.slice (some ⟨gx,0,none⟩) n cx])[j]? =some vj:=by rw[aI Pn];exact UM
     have Wl:(iA F' u pv j++[u])[j]? =some ej:=by rw[aI (by rw[gU];omega)];exact Hu Wk
     have hur:(iA F' u pv j++[u])[rv.length]? =some u:=by rw[PN,<-gU F' u pv j];simp
     obtain⟨t,ht⟩:=gO ej pv;have htd:ej.getD pv 0=t:=by rw[List.getD,ht];rfl
     have VR:=heb t (aC ht);obtain⟨aj,cj,rfl⟩:=hE.form Uw;obtain⟨ad,Z,PU,hG,hl⟩:=hE.load Uw Wl ht;obtain⟨g0,g1,g2,g3,g4,g5,g6,g7,rfl,hG⟩:=hG;refine⟨bv,be,.slice aj n cj,by simpa using UM,ad,PU,be,rC g0 g1 g2 g3 g4 g5 g6 g7,rfl,fun O J r t u hu=>?_,?_⟩
     .obtain⟨k1,k2⟩:=hl t u hu;rw[aF,cV (w:=w5) (Y:=J) (by rw[dO,dO];exact rls r (dV _) k1)];exact k2
     refine cQ (cE V (fun _ J v Y=>∃d,v= .bool d/\(d=true↔t=0)) (fun O J r=>oM (Lr.old r F) ((hG.Ii r F).l be)) ?_);rintro O _ _ Qw PV r L V E ⟨d,rfl,hz⟩;replace hE:=hE.cS r F L (mC E)
     cases d
     .have ht0:t≠0:=fun e=>by have:=hz.2 e;cases this
      obtain⟨ad,Z,PU,hG,hl⟩:=hE.load Uw Wl ht;obtain⟨g0,g1,g2,g3,g4,g5,g6,g7,rfl,hG⟩:=hG;refine⟨ad,PU,be,rC g0 g1 g2 g3 g4 g5 g6 g7,rfl,fun O J r t u hu=>?_,?_⟩
      .obtain⟨k1,k2⟩:=hl t u hu;rw[aF,cV (w:=Qw) (Y:=J) (by rw[dO,dO];exact rls r (dV _) k1)];exact k2
      refine⟨fun O J r=>?_⟩;refine(hE.Gi r F (i:=j) (j:=rv.length) (h:=h) be Uw Ue Wl hur (hG.l be) heb hub VR hh).mono fun e w8 L=>?_;obtain⟨rfl,PF,RP,Pb⟩:=L;have Pf:=(V.tr r.cZ).tr (hE.cZ r PF RP);refine⟨.tuple #[],_,(J.heap.size,w8.heap.size)::PV,rfl,r.pM (fun x U=>Rel.not r (dV _) (hE.new x (RP x U))) PF,?_⟩;have PL:(iA F' u pv j++[u]).set j (nh ej u t)=iA F' u pv (j+1)++[u]:=by rw[aAc _ _ (by rw[gU];omega),CA Wk,htd]
      rw[PL]at Pb;generalize (J.heap.size,w8.heap.size)::PV=RZ at*
      refine inc j ?_;intro I' w6 R;exact⟨(j+1,w6,_),⟨Pn,Pf.tr R.cZ,Pb.rel R F⟩,sbgn [] R,dec Pn⟩
     .have ht0:t=0:=hz.1 rfl;refine inc j ?_;intro I' w6 R;exact⟨(j+1,w6,_),⟨Pn,V.tr R.cZ,by dsimp only;rw[KV Wk (by rw[htd,ht0])];exact hE.rel R F⟩,sbgn [] R,dec Pn⟩
    have Pn:j=F'.length:=by have:=Nat.le_antisymm hj (by simpa using Pn);omega
    rw[Pn]at hE;refine⟨bv,be,by simp;omega,(at_.set pv (some rv.length)).map atV,?_,?_⟩
    .rw[aF,aZ,aW,List.map_set];exact gV (by simp;omega)
    refine jd hτ vC (.x 0 (.x 1 (.x 3 (.x 6 (.x 8 (.ld 2 64544 (.ld 7 64512 (.two 4 (.two 5 (.x 11 (.x 12 (.x 9 (.x 10 (.x 13 (.x 14 (.x 15 .nil))))))) 9 (.x 5 (.x 11 (.x 12 (.x 10 (.x 13 (.x 14 (.x 15 .nil)))))))) 9 (.x 4 (.x 5 (.x 11 (.x 12 (.x 10 (.x 13 (.x 14 (.x 15 .nil)))))))))))))))) d9 d9 ?_;refine⟨?_,?_⟩
    .refine⟨rfl,rfl,?_,?_⟩
     .refine .inl ?_;refine⟨bv,be,mx,rfl,rfl,?_⟩;refine .inl ?_;refine⟨bv,be,mx,((i+1:Nat):Int),wo,?_⟩;intro I' w6 R;exact⟨(i+1,rv++[.slice (some ⟨gx,0,none⟩) n cx],iA F' u pv F'.length++[u],at_.set pv (some F'.length),fr++[i],w6,_),⟨Ou,TM.symm,V.tr R.cZ,hE.rel R F⟩,sbgn [(4,10),(5,12)] R ⟨by dsimp only;rw[List.length_append,List.length_append,List.length_singleton,List.length_singleton];rfl,by dsimp only;rw[List.map_append];rfl,rfl,rfl,rfl,by dsimp only;rw[<-PN];rfl,trivial⟩,dec Ou⟩
     .refine⟨rfl,rfl,?_⟩;refine .inl ?_;refine⟨bv,be,mx,rfl,?_⟩;refine .inl ?_;refine⟨bv,be,mx,((i+1:Nat):Int),wo,?_⟩;intro I' w6 R;exact⟨(i+1,rv++[.slice (some ⟨gx,0,none⟩) n cx],iA F' u pv F'.length++[u],at_.set pv (some F'.length),fr++[i],w6,_),⟨Ou,TM.symm,V.tr R.cZ,hE.rel R F⟩,sbgn [(4,11),(5,12)] R ⟨by dsimp only;rw[List.length_append,List.length_append,List.length_singleton,List.length_singleton];rfl,by dsimp only;rw[List.map_append];rfl,rfl,rfl,rfl,by dsimp only;rw[<-PN];rfl,trivial⟩,dec Ou⟩
    .refine⟨rfl,rfl,rfl,rfl,?_⟩;refine .inl ?_;refine⟨bv,be,mx,rfl,?_⟩;refine .inl ?_;refine⟨bv,be,mx,((i+1:Nat):Int),wo,?_⟩;intro I' w6 R;exact⟨(i+1,rv++[.slice (some ⟨gx,0,none⟩) n cx],iA F' u pv F'.length++[u],at_.set pv (some F'.length),fr++[i],w6,_),⟨Ou,TM.symm,V.tr R.cZ,hE.rel R F⟩,sbgn [(4,11),(5,12)] R ⟨by dsimp only;rw[List.length_append,List.length_append,List.length_singleton,List.length_singleton];rfl,by dsimp only;rw[List.map_append];rfl,rfl,rfl,rfl,by dsimp only;rw[<-PN];rfl,trivial⟩,dec Ou⟩
   .have Xq:q=0:=hz.1 rfl;refine inc pv ?_;intro I' w4 R
    exact⟨(pv+1,w4,_),⟨Ts,fun t ht=>by
     by_cases htp:t=pv
     .rw[htp,RU,Xq]
     .exact XK t (by dsimp only at ht;omega),V.tr R.cZ,hE.rel R F⟩,sbgn [] R,by dsimp only;omega⟩
  have Ts:=dE hp Ts;have Vb:wT y cols=cols:=LR (k:=cols) (fun t ht=>XK t be) lr (fun h=>absurd h (Nat.lt_irrefl _));have hskip:=KR RH WL hy Vb;refine tG.mk (fun L=>?_) (fun L=>by rw[Ts]at L;simp at L);refine inc i ?_;intro I' w4 R;exact⟨(i+1,rv,F',at_,fr,w4,_),⟨Ou,hskip,V.tr R.cZ,hE.drop.rel R F⟩,sbgn [] R,dec Ou⟩
 have Ou:=dE D Ou;subst Ou;have hredS:dh M cols=dW (F',at_,fr) cols:=by rw[dh,<-RH]
 have PY:∀(k r:Nat),at_[k]? =some (some r)->r<F'.length:=Oz.lt;have TE:∀k,k<=cols->(dW (F',at_,fr) k).1.length=(dW (F',at_,fr) k).2.1.length/\(dW (F',at_,fr) k).2.2.length=(dW (F',at_,fr) k).2.1.length/\(mJ rv at_ k).length=(dW (F',at_,fr) k).2.1.length/\(dW (F',at_,fr) k).2.1.length<=k:=fun k K=>xq (F',at_,fr) rv k (by dsimp only;omega)
 refine⟨Nat×World,fun z=>⟨[(4,pP 1 0),(5,pP 2 0),(17,pP 6 0),(159,.o (.s 3 0 cols cols)),(160,iZ cols),(161,iN z.1)],[(6,.box T.dm [.w 7 (dW (F',at_,fr) z.1).2.1.length,.v (iV n),.w 8 (dW (F',at_,fr) z.1).2.1.length,.w 9 (dW (F',at_,fr) z.1).2.1.length]),(9,.vec T.int 1 ((dW (F',at_,fr) z.1).2.2.map fun c:Nat=>iV (c:Int))),(8,.vec T.int 1 ((dW (F',at_,fr) z.1).2.1.map fun c:Nat=>iV (c:Int))),(7,.vec T.gF 1 (mJ rv at_ z.1)),(2,.box T.dm [.w 4 rv.length,.v (iV n),.v nls,.w 5 fr.length]),(5,.vec T.int 1 (fr.map fun c:Nat=>iV (c:Int))),(4,.vec T.gF 1 rv),(1,.box T.dm [.v nls,.v (iV 0),.v nls,.v nls]),(3,.arr T.int (at_.map atV))],10,iv,z.2⟩,fun z=>cols-z.1,
  fun z=>z.1<=cols/\Bq w z.2/\nK z.2 S w.heap.size iv rv n F',?_,?_⟩
 .intro O J r
  exact⟨(0,J),⟨aR _,V.tr r.cZ,hE.rel r F⟩,Sub.EH 6 0 T.gF 1 rfl rfl (by simp[kK,SV.sc,At.sc]) r fun In r1=>Sub.EH 6 2 T.int 1 rfl rfl (by simp[kK,SV.sc,At.sc]) r1 fun If r2=>Sub.EH 6 3 T.int 1 rfl rfl (by simp[kK,SV.sc,At.sc]) r2 fun I' R=>
   sbgn [] R⟩
 rintro⟨k,w1⟩ ⟨K,V,hE⟩;dsimp only at K V hE ⊢;obtain⟨q1,q2,q3,q4⟩:=TE k K;apply bS<;>intro Ow
 .have Ow:=dL Ow;obtain⟨o,ho⟩:=gO at_ k;refine⟨be,atV o,by rw[aF,aZ,aW,aO,ho];rfl,?_⟩
  cases o with
  |none=>
   refine inc k ?_;have QQ:=oN (s:=(F',at_,fr)) ho;have Qy:=vV (rv:=rv) ho;intro I' w3 R;exact⟨(k+1,w3),⟨Ow,V.tr R.cZ,hE.rel R F⟩,sbgn [] R ⟨by dsimp only;rw[QQ];rfl,by dsimp only;rw[QQ];rfl,by dsimp only;rw[QQ];rfl,by dsimp only;rw[Qy];rfl,rfl,rfl,rfl,rfl,rfl,trivial⟩,dec Ow⟩
  |some j=>
   have hj:j<F'.length:=PY k j ho;obtain⟨vj,UM⟩:=gO rv j;have hvjd:rv.getD j (.bool false)=vj:=by rw[List.getD,UM];rfl
   obtain⟨aj,cj,rfl⟩:=hE.form UM;obtain⟨fj,Ub⟩:=gO fr j;have hfjd:fr.getD j 0=fj:=by rw[List.getD,Ub];rfl
   have QQ:=oO (s:=(F',at_,fr)) ho;have Qy:=vW (rv:=rv) ho;dsimp only at QQ;rw[hvjd]at Qy;rw[hfjd]at QQ;refine jd hτ vC (.x 0 (.x 1 (.x 3 (.x 4 (.x 6 (.x 11 (.x 13 (.x 16 (.x 18 (.x 20 (.ld 2 4278223872 (.ld 5 4278224768 (.x 7 (.ld 8 4278224384 (.ld 12 4278222848 (.ld 17 4278190080 (.ld 19 4192206848 (.x 21 (.ld 22 4185915392 (.three 9 (.three 10 (.x 25 (.x 26 (.two 14 (.two 15 (.x 23 (.x 24 (.x 27 (.x 28 (.x 29 (.x 30 (.x 31 .nil))))))) 23 (.x 15 (.x 24 (.x 27 (.x 28 (.x 29 (.x 30 (.x 31 .nil)))))))) 23 (.x 14 (.x 15 (.x 24 (.x 27 (.x 28 (.x 29 (.x 30 (.x 31 .nil))))))))))) 14 (.two 10 (.x 25 (.x 26 (.two 15 (.x 23 (.x 24 (.x 27 (.x 28 (.x 29 (.x 30 (.x 31 .nil))))))) 23 (.x 15 (.x 24 (.x 27 (.x 28 (.x 29 (.x 30 (.x 31 .nil)))))))))) 23 (.x 10 (.x 25 (.x 26 (.x 15 (.x 24 (.x 27 (.x 28 (.x 29 (.x 30 (.x 31 .nil))))))))))) 23 (.two 10 (.x 25 (.x 26 (.x 14 (.x 15 (.x 24 (.x 27 (.x 28 (.x 29 (.x 30 (.x 31 .nil)))))))))) 14 (.x 10 (.x 25 (.x 26 (.x 15 (.x 24 (.x 27 (.x 28 (.x 29 (.x 30 (.x 31 .nil)))))))))))) 14 (.two 9 (.two 10 (.x 25 (.x 26 (.two 15 (.x 23 (.x 24 (.x 27 (.x 28 (.x 29 (.x 30 (.x 31 .nil))))))) 23 (.x 15 (.x 24 (.x 27 (.x 28 (.x 29 (.x 30 (.x 31 .nil)))))))))) 23 (.x 10 (.x 25 (.x 26 (.x 15 (.x 24 (.x 27 (.x 28 (.x 29 (.x 30 (.x 31 .nil))))))))))) 23 (.x 9 (.x 10 (.x 25 (.x 26 (.x 15 (.x 24 (.x 27 (.x 28 (.x 29 (.x 30 (.x 31 .nil)))))))))))) 23 (.two 9 (.two 10 (.x 25 (.x 26 (.x 14 (.x 15 (.x 24 (.x 27 (.x 28 (.x 29 (.x 30 (.x 31 .nil)))))))))) 14 (.x 10 (.x 25 (.x 26 (.x 15 (.x 24 (.x 27 (.x 28 (.x 29 (.x 30 (.x 31 .nil))))))))))) 14 (.x 9 (.x 10 (.x 25 (.x 26 (.x 15 (.x 24 (.x 27 (.x 28 (.x 29 (.x 30 (.x 31 .nil)))))))))))))))))))))))))))))))) d9 d9 ?_;refine⟨bv,be,.slice aj n cj,by simpa using UM,bv,be,iV (fj:Int),by simp[Ub],?_,?_,?_⟩
   .refine⟨iV (fj:Int),by simp[Ub],rfl,rfl,rfl,rfl,rfl,?_,?_,?_⟩
    .refine .inl ?_;refine⟨by simp[q2,q3],be,mx,iV (fj:Int),by simp[Ub],rfl,rfl,rfl,rfl,?_,?_⟩
     .refine⟨iV (fj:Int),by simp[Ub],rfl,rfl,rfl,rfl,?_,?_⟩
      .refine .inl ?_;refine⟨by simp[q2,q3],be,mx,iV (fj:Int),by simp[Ub],rfl,rfl,rfl,rfl,?_⟩;refine .inl ?_;refine⟨by simp[q2,q3],be,mx,((k+1:Nat):Int),wo,?_⟩;intro I' w3 R;exact⟨(k+1,w3),⟨Ow,V.tr R.cZ,hE.rel R F⟩,sbgn [(7,11),(8,13),(9,15)] R ⟨by dsimp only;rw[QQ,List.length_append,List.length_singleton];rfl,by dsimp only;rw[QQ,List.map_append];rfl,by dsimp only;rw[QQ,List.map_append];rfl,by dsimp only;rw[Qy];rfl,rfl,rfl,rfl,rfl,rfl,trivial⟩,dec Ow⟩
      .refine⟨rfl,rfl,?_⟩;refine .inl ?_;refine⟨by simp[q2,q3],be,mx,rfl,?_⟩;refine .inl ?_;refine⟨by simp[q2,q3],be,mx,((k+1:Nat):Int),wo,?_⟩;intro I' w3 R;exact⟨(k+1,w3),⟨Ow,V.tr R.cZ,hE.rel R F⟩,sbgn [(7,11),(8,14),(9,15)] R ⟨by dsimp only;rw[QQ,List.length_append,List.length_singleton];rfl,by dsimp only;rw[QQ,List.map_append];rfl,by dsimp only;rw[QQ,List.map_append];rfl,by dsimp only;rw[Qy];rfl,rfl,rfl,rfl,rfl,rfl,trivial⟩,dec Ow⟩
     .refine⟨rfl,rfl,rfl,rfl,?_⟩;refine .inl ?_;refine⟨by simp[q2,q3],be,mx,rfl,?_⟩;refine .inl ?_;refine⟨by simp[q2,q3],be,mx,((k+1:Nat):Int),wo,?_⟩;intro I' w3 R;exact⟨(k+1,w3),⟨Ow,V.tr R.cZ,hE.rel R F⟩,sbgn [(7,11),(8,14),(9,15)] R ⟨by dsimp only;rw[QQ,List.length_append,List.length_singleton];rfl,by dsimp only;rw[QQ,List.map_append];rfl,by dsimp only;rw[QQ,List.map_append];rfl,by dsimp only;rw[Qy];rfl,rfl,rfl,rfl,rfl,rfl,trivial⟩,dec Ow⟩
    .refine⟨iV (fj:Int),by simp[Ub],rfl,rfl,rfl,rfl,rfl,?_,?_⟩
     .refine .inl ?_;refine⟨by simp[q2,q3],be,mx,iV (fj:Int),by simp[Ub],rfl,rfl,rfl,rfl,?_,?_⟩
      .refine .inl ?_;refine⟨by simp[q2,q3],be,mx,iV (fj:Int),by simp[Ub],rfl,rfl,rfl,rfl,?_⟩;refine .inl ?_;refine⟨by simp[q2,q3],be,mx,((k+1:Nat):Int),wo,?_⟩;intro I' w3 R;exact⟨(k+1,w3),⟨Ow,V.tr R.cZ,hE.rel R F⟩,sbgn [(7,12),(8,13),(9,15)] R ⟨by dsimp only;rw[QQ,List.length_append,List.length_singleton];rfl,by dsimp only;rw[QQ,List.map_append];rfl,by dsimp only;rw[QQ,List.map_append];rfl,by dsimp only;rw[Qy];rfl,rfl,rfl,rfl,rfl,rfl,trivial⟩,dec Ow⟩
      .refine⟨rfl,rfl,?_⟩;refine .inl ?_;refine⟨by simp[q2,q3],be,mx,rfl,?_⟩;refine .inl ?_;refine⟨by simp[q2,q3],be,mx,((k+1:Nat):Int),wo,?_⟩;intro I' w3 R;exact⟨(k+1,w3),⟨Ow,V.tr R.cZ,hE.rel R F⟩,sbgn [(7,12),(8,14),(9,15)] R ⟨by dsimp only;rw[QQ,List.length_append,List.length_singleton];rfl,by dsimp only;rw[QQ,List.map_append];rfl,by dsimp only;rw[QQ,List.map_append];rfl,by dsimp only;rw[Qy];rfl,rfl,rfl,rfl,rfl,rfl,trivial⟩,dec Ow⟩
     .refine⟨rfl,rfl,rfl,?_⟩;refine .inl ?_;refine⟨by simp[q2,q3],be,mx,rfl,rfl,?_⟩;refine .inl ?_;refine⟨by simp[q2,q3],be,mx,rfl,?_⟩;refine .inl ?_;refine⟨by simp[q2,q3],be,mx,((k+1:Nat):Int),wo,?_⟩;intro I' w3 R;exact⟨(k+1,w3),⟨Ow,V.tr R.cZ,hE.rel R F⟩,sbgn [(7,13),(8,14),(9,15)] R ⟨by dsimp only;rw[QQ,List.length_append,List.length_singleton];rfl,by dsimp only;rw[QQ,List.map_append];rfl,by dsimp only;rw[QQ,List.map_append];rfl,by dsimp only;rw[Qy];rfl,rfl,rfl,rfl,rfl,rfl,trivial⟩,dec Ow⟩
    .refine⟨rfl,rfl,rfl,?_,?_⟩
     .refine .inl ?_;refine⟨by simp[q2,q3],be,mx,rfl,rfl,rfl,rfl,?_⟩;refine .inl ?_;refine⟨by simp[q2,q3],be,mx,rfl,?_⟩;refine .inl ?_;refine⟨by simp[q2,q3],be,mx,((k+1:Nat):Int),wo,?_⟩;intro I' w3 R;exact⟨(k+1,w3),⟨Ow,V.tr R.cZ,hE.rel R F⟩,sbgn [(7,12),(8,14),(9,15)] R ⟨by dsimp only;rw[QQ,List.length_append,List.length_singleton];rfl,by dsimp only;rw[QQ,List.map_append];rfl,by dsimp only;rw[QQ,List.map_append];rfl,by dsimp only;rw[Qy];rfl,rfl,rfl,rfl,rfl,rfl,trivial⟩,dec Ow⟩
     .refine⟨rfl,rfl,rfl,?_⟩;refine .inl ?_;refine⟨by simp[q2,q3],be,mx,rfl,rfl,?_⟩;refine .inl ?_;refine⟨by simp[q2,q3],be,mx,rfl,?_⟩;refine .inl ?_;refine⟨by simp[q2,q3],be,mx,((k+1:Nat):Int),wo,?_⟩;intro I' w3 R;exact⟨(k+1,w3),⟨Ow,V.tr R.cZ,hE.rel R F⟩,sbgn [(7,13),(8,14),(9,15)] R ⟨by dsimp only;rw[QQ,List.length_append,List.length_singleton];rfl,by dsimp only;rw[QQ,List.map_append];rfl,by dsimp only;rw[QQ,List.map_append];rfl,by dsimp only;rw[Qy];rfl,rfl,rfl,rfl,rfl,rfl,trivial⟩,dec Ow⟩
   .refine⟨iV (fj:Int),by simp[Ub],rfl,rfl,rfl,rfl,.slice aj n cj,by simpa using UM,rfl,rfl,rfl,?_,?_⟩
    .refine⟨iV (fj:Int),by simp[Ub],rfl,rfl,rfl,rfl,rfl,?_,?_⟩
     .refine .inl ?_;refine⟨by simp[q2,q3],be,mx,iV (fj:Int),by simp[Ub],rfl,rfl,rfl,rfl,?_,?_⟩
      .refine .inl ?_;refine⟨by simp[q2,q3],be,mx,iV (fj:Int),by simp[Ub],rfl,rfl,rfl,rfl,?_⟩;refine .inl ?_;refine⟨by simp[q2,q3],be,mx,((k+1:Nat):Int),wo,?_⟩;intro I' w3 R;exact⟨(k+1,w3),⟨Ow,V.tr R.cZ,hE.rel R F⟩,sbgn [(7,12),(8,13),(9,15)] R ⟨by dsimp only;rw[QQ,List.length_append,List.length_singleton];rfl,by dsimp only;rw[QQ,List.map_append];rfl,by dsimp only;rw[QQ,List.map_append];rfl,by dsimp only;rw[Qy];rfl,rfl,rfl,rfl,rfl,rfl,trivial⟩,dec Ow⟩
      .refine⟨rfl,rfl,?_⟩;refine .inl ?_;refine⟨by simp[q2,q3],be,mx,rfl,?_⟩;refine .inl ?_;refine⟨by simp[q2,q3],be,mx,((k+1:Nat):Int),wo,?_⟩;intro I' w3 R;exact⟨(k+1,w3),⟨Ow,V.tr R.cZ,hE.rel R F⟩,sbgn [(7,12),(8,14),(9,15)] R ⟨by dsimp only;rw[QQ,List.length_append,List.length_singleton];rfl,by dsimp only;rw[QQ,List.map_append];rfl,by dsimp only;rw[QQ,List.map_append];rfl,by dsimp only;rw[Qy];rfl,rfl,rfl,rfl,rfl,rfl,trivial⟩,dec Ow⟩
     .refine⟨rfl,rfl,rfl,?_⟩;refine .inl ?_;refine⟨by simp[q2,q3],be,mx,rfl,rfl,?_⟩;refine .inl ?_;refine⟨by simp[q2,q3],be,mx,rfl,?_⟩;refine .inl ?_;refine⟨by simp[q2,q3],be,mx,((k+1:Nat):Int),wo,?_⟩;intro I' w3 R;exact⟨(k+1,w3),⟨Ow,V.tr R.cZ,hE.rel R F⟩,sbgn [(7,13),(8,14),(9,15)] R ⟨by dsimp only;rw[QQ,List.length_append,List.length_singleton];rfl,by dsimp only;rw[QQ,List.map_append];rfl,by dsimp only;rw[QQ,List.map_append];rfl,by dsimp only;rw[Qy];rfl,rfl,rfl,rfl,rfl,rfl,trivial⟩,dec Ow⟩
    .refine⟨rfl,rfl,.slice aj n cj,by simpa using UM,rfl,rfl,rfl,rfl,rfl,rfl,?_⟩;refine .inl ?_;refine⟨by simp[q2,q3],be,mx,rfl,rfl,?_⟩;refine .inl ?_;refine⟨by simp[q2,q3],be,mx,rfl,?_⟩;refine .inl ?_;refine⟨by simp[q2,q3],be,mx,((k+1:Nat):Int),wo,?_⟩;intro I' w3 R;exact⟨(k+1,w3),⟨Ow,V.tr R.cZ,hE.rel R F⟩,sbgn [(7,13),(8,14),(9,15)] R ⟨by dsimp only;rw[QQ,List.length_append,List.length_singleton];rfl,by dsimp only;rw[QQ,List.map_append];rfl,by dsimp only;rw[QQ,List.map_append];rfl,by dsimp only;rw[Qy];rfl,rfl,rfl,rfl,rfl,rfl,trivial⟩,dec Ow⟩
   .refine⟨rfl,rfl,.slice aj n cj,by simpa using UM,rfl,rfl,rfl,?_,?_⟩
    .refine⟨rfl,rfl,rfl,?_,?_⟩
     .refine .inl ?_;refine⟨by simp[q2,q3],be,mx,rfl,rfl,rfl,rfl,?_⟩;refine .inl ?_;refine⟨by simp[q2,q3],be,mx,rfl,?_⟩;refine .inl ?_;refine⟨by simp[q2,q3],be,mx,((k+1:Nat):Int),wo,?_⟩;intro I' w3 R;exact⟨(k+1,w3),⟨Ow,V.tr R.cZ,hE.rel R F⟩,sbgn [(7,12),(8,14),(9,15)] R ⟨by dsimp only;rw[QQ,List.length_append,List.length_singleton];rfl,by dsimp only;rw[QQ,List.map_append];rfl,by dsimp only;rw[QQ,List.map_append];rfl,by dsimp only;rw[Qy];rfl,rfl,rfl,rfl,rfl,rfl,trivial⟩,dec Ow⟩
     .refine⟨rfl,rfl,rfl,?_⟩;refine .inl ?_;refine⟨by simp[q2,q3],be,mx,rfl,rfl,?_⟩;refine .inl ?_;refine⟨by simp[q2,q3],be,mx,rfl,?_⟩;refine .inl ?_;refine⟨by simp[q2,q3],be,mx,((k+1:Nat):Int),wo,?_⟩;intro I' w3 R;exact⟨(k+1,w3),⟨Ow,V.tr R.cZ,hE.rel R F⟩,sbgn [(7,13),(8,14),(9,15)] R ⟨by dsimp only;rw[QQ,List.length_append,List.length_singleton];rfl,by dsimp only;rw[QQ,List.map_append];rfl,by dsimp only;rw[QQ,List.map_append];rfl,by dsimp only;rw[Qy];rfl,rfl,rfl,rfl,rfl,rfl,trivial⟩,dec Ow⟩
    .refine⟨rfl,rfl,.slice aj n cj,by simpa using UM,rfl,rfl,rfl,rfl,rfl,rfl,?_⟩;refine .inl ?_;refine⟨by simp[q2,q3],be,mx,rfl,rfl,?_⟩;refine .inl ?_;refine⟨by simp[q2,q3],be,mx,rfl,?_⟩;refine .inl ?_;refine⟨by simp[q2,q3],be,mx,((k+1:Nat):Int),wo,?_⟩;intro I' w3 R;exact⟨(k+1,w3),⟨Ow,V.tr R.cZ,hE.rel R F⟩,sbgn [(7,13),(8,14),(9,15)] R ⟨by dsimp only;rw[QQ,List.length_append,List.length_singleton];rfl,by dsimp only;rw[QQ,List.map_append];rfl,by dsimp only;rw[QQ,List.map_append];rfl,by dsimp only;rw[Qy];rfl,rfl,rfl,rfl,rfl,rfl,trivial⟩,dec Ow⟩
 have Ow:=dE K Ow;subst Ow;intro J8 we re;have PX:∀u∈mJ rv at_ k,u.oneCell'=true:=fun u hu=>by
  obtain⟨i,D⟩:=aU hu;obtain⟨x,U⟩:∃x,(dW (F',at_,fr) k).1[i]? =some x:=⟨_,aD (by have:=(aE.1 D).1;omega)⟩
  obtain⟨r,I,G⟩:=DT PN PY k be i u x D U;obtain⟨a,c,rfl⟩:=hE.form I;rfl
 have h7:=re.iD (id:=7) (sz:=1) (m:=(dW (F',at_,fr) k).2.1.length) rfl (by simp[q3]) mx bi PX;have h8:=re.iD (id:=8) (sz:=1) (m:=(dW (F',at_,fr) k).2.1.length) rfl bv mx bi (fun u hu=>by obtain⟨c,_,rfl⟩:=aV.1 hu;rfl);have h9:=re.iD (id:=9) (sz:=1) (m:=(dW (F',at_,fr) k).2.1.length) rfl (by simp[q2]) mx bi (fun u hu=>by obtain⟨c,_,rfl⟩:=aV.1 hu;rfl);have Pb:=hE.rel re F;rw[hredS];refine⟨_,rfl,V.tr re.cZ,_,_,_,rfl,⟨mJ rv at_ k,?_,be,fun i u x k1 k2=>?_⟩,?_,?_⟩
 .rw[q1];exact h7.cP fun g X=>.inr X
 .obtain⟨r,I,G⟩:=DT PN PY k be i u x k1 k2;refine((Pb.row r u x I G).read.cP (S':=Nw S w we) (C':=Nw S w we) (fun g X=>?_) fun g X=>Cv.nw X.1 re).c;exact Cv.nw (Dh (Pb.new g ⟨u,aC I,X⟩)) re
 .exact h8.cP fun g X=>.inr X
 .show j1 we _ 1 _ _ (dW (F',at_,fr) k).2.2.length;rw[q2];exact h9.cP fun g X=>.inr X
section
variable{S S':Nat->Prop}{H:Hp}{nx n:Nat}{iv N:Iv}{B:Nat}{w J Y:World}{O:Nat->Sx.eG}{v:Value}{qs:List Rat}
theorem eV.aDw{w0 w1:World}(h:eV w1 S w0.heap.size iv v n qs)(r:Rel H nx iv w0.heap.size w1 O J)(F:Old S w0):eV J S w0.heap.size [(w0.heap.size,J.heap.size)] v n qs:=by
 have G:=h.rel r F;have key:∀g {C8:Nat->Prop},Cv C8 w0.heap.size iv g->Cv C8 w0.heap.size [(w0.heap.size,J.heap.size)] g:=fun g C8 X=>by
  rcases X with X|⟨I,lo,D,G,h3,h4⟩
  .exact .inl X
  .exact .inr ⟨I,_,_,bK.2 rfl,I,by have:=r.tI lo D G;have:=r.size;omega⟩
 exact⟨G.row.cP fun g X=>⟨key g X.1,X.2⟩,fun g X=>key g (G.new g X)⟩
theorem eV.aDc(h:eV Y (Cv S B iv) J.heap.size [(J.heap.size,Y.heap.size)] v n qs)(hB:B<=J.heap.size):eV Y S B ((J.heap.size,Y.heap.size)::iv) v n qs:=by
 have key:∀g {C8 AC:Nat->Prop},(∀g,AC g->Cv C8 B iv g)->Cv AC J.heap.size [(J.heap.size,Y.heap.size)] g->Cv C8 B ((J.heap.size,Y.heap.size)::iv) g:=fun g C8 AC hY X=>by
  rcases X with X|⟨I,lo,D,G,h3,h4⟩
  .exact(hY g X).mono fun p hp=>aB _ hp
  .simp at G;obtain⟨rfl,rfl⟩:=G;exact .inr ⟨be,_,_,aH,h3,h4⟩
 exact⟨h.row.cP fun g X=>⟨key g (fun _ h=>h) X.1,X.2⟩,fun g X=>key g (fun _ h=>h.elim) (h.new g X)⟩
def Bs(S:Nat->Prop)(B:Nat)(iv:Iv)(v:Value)(g:Nat):Prop:=Cv S B iv g/\v.ownBlock≠some g
theorem Bs.kept(r:Rel H nx iv B w O J)(F:∀g,S g->g<B){row:Option Nat}(X:J.grownBy Y row)(Ov:∀g,row=some g->v.ownBlock=some g):∀g,Bs S B iv v g->Y.heap[g]? =w.heap[g]? :=fun g h=>by
 rw[X.block g (rlo r F g h.1) fun e=>h.2 (Ov g e.symm),rls r F h.1]
theorem Bs.same(r:Rel H nx iv B w O J)(F:∀g,S g->g<B):∀g,Bs S B iv v g->J.heap[g]? =w.heap[g]? :=fun g h=>rls r F h.1
theorem Bs.of(r:Rel H nx iv B w O J)(F:∀g,S g->g<B)(hm:∀p,p∈iv->p∈N)(W:eV Y FF J.heap.size [(J.heap.size,Y.heap.size)] v n qs)(h:Cv S B iv g):Bs S B N v g:=
 ⟨h.mono hm,fun e=>by
  have I:=rlo r F g h;rcases W.new g e with G|⟨G,_⟩
  .exact G
  .omega⟩
theorem Bs.mono(hm:∀p,p∈iv->p∈N)(h:Bs S B iv v g):Bs S B N v g:=⟨h.1.mono hm,h.2⟩
theorem dN.at{m:Nat}(h:dN w S (.slice a m c) ps)(hj:ps[j]? =some p):∃ad,a=some ad/\S ad.block/\w.cell? (ad.add (j*1))=some (iV (p:Int)):=by
 obtain⟨h0,I,G,a',c',e,h3,h4⟩:=h;injection e with e1 e2 e3;subst e1;obtain⟨ad,k1,k2,k3⟩:=h4 j (iV (p:Int)) (by rw[aO,hj];rfl);exact⟨ad,k1,k2,by rw[aZ];exact k3⟩
theorem dN.shape(h:dN w S v ps):∃a c,v= .slice a ps.length c/\ps.length<=c/\ps.length<=maxLen:=by
 obtain⟨h0,I,G,a,c,e,h3,h4⟩:=h;exact⟨a,c,e,h3,h0⟩
end
theorem DU{F':List (List Rat)}{at_:List (Option Nat)}{fr:List Nat}{n:Nat}(hE:fz n F')(PY:∀(k r:Nat),at_[k]? =some (some r)->r<F'.length):∀k,k<=at_.length->fz n (dW (F',at_,fr) k).1/\∀p∈(dW (F',at_,fr) k).2.1,p<k
 |0,_=>⟨(fun r hr=>by cases hr),fun p hp=>by cases hp⟩
 |k+1,K=>by
  have ih:=DU (fr:=fr) hE PY k be;obtain⟨o,ho⟩:=gO at_ k
  cases o with
  |none=>
   rw[oN (s:=(F',at_,fr)) ho];exact⟨ih.1,fun p hp=>Nat.lt_succ_of_lt (ih.2 p hp)⟩
  |some r=>
   rw[oO (s:=(F',at_,fr)) ho];refine⟨fun x U=>?_,fun p hp=>?_⟩
   .rcases bG.1 U with U|U
    .exact ih.1 x U
    .rw[bK.1 U];have:=PY k r ho;dsimp only
     rw[List.getD,aD this];exact hE _ (bA this)
   .rcases bG.1 hp with hp|hp
    .exact Nat.lt_succ_of_lt (ih.2 p hp)
    .rw[bK.1 hp];exact bc _
theorem uS(cols:Nat)(hM:fz n M):(dh M cols).1.length=(dh M cols).2.1.length/\(dh M cols).2.2.length=(dh M cols).2.1.length/\fz n (dh M cols).1/\(∀p∈(dh M cols).2.1,p<cols)/\(dh M cols).2.1.length<=cols:=by
 have Oz:=CB cols hM M.length lr;unfold dh;generalize iu M cols M.length=s at*
 obtain⟨F',at_,fr⟩:=s;have Qz:at_.length=cols:=Oz.at_;obtain⟨q1,q2,-,q4⟩:=xq (F',at_,fr) [] cols (by show cols<=at_.length;omega);obtain⟨f1,f2⟩:=DU (F':=F') (at_:=at_) (fr:=fr) Oz.len Oz.lt cols be;exact⟨q1,q2,f1,f2,q4⟩
theorem mc(M:List (List Rat))(b:List Rat):(ku M b).length=M.length:=List.length_mapIdx
theorem NO(h:fz n M):fz (n+1) (ku M b):=fun r hr=>by
 obtain⟨i,D⟩:=aU hr;rw[ku,List.getElem?_mapIdx]at D
 cases hM:M[i]? with
 |none=>rw[hM]at D;cases D
 |some x=>
  rw[hM]at D;simp only[bw,Option.some.injEq]at D;rw[<-D,aQ,h x (aC hM)];rfl
theorem KW{H:Hp}{nx:Nat}{J:World}(r:Rel H nx iv B w O J)(h:dU H id=some (.vec T.Rat 4 ([]++A.flatten++Z)))(hF:Fc J S A x)(hq:js J S Z q)(hm:x.length<maxLen):
  (O id).nil=false/\cX J (Cv S B (((O id).g,(O id).g+1)::iv)) (.slice (some ⟨(O id).g,0,none⟩) (x.length+1) (O id).cap) (x++[q]):=by
 have PM:=eP hF.ma;have hl:([]++A.flatten++Z).length=(x.length+1)*4:=by rw[List.nil_append,aQ,PM,hF.1,hq.len];omega
 have Ry:=hF.push hq;have L:[]++A.flatten++Z=(A++[Z]).flatten:=by simp
 have hv:=aBy r (sz:=4) (m:=x.length+1) h hl be bi be (fun u hu=>Ry.one u (by rw[<-L];exact hu));refine⟨hv.1,A++[Z],?_,Ry.1,Ry.ma,fun j c y k1 k2=>(Ry.2 j c y k1 k2).cP fun g X=>.inl X⟩;rw[aQ,bC,<-L];exact hv.2.2.cP fun g X=>.inr ⟨by have:=hv.2.1;omega,_,_,aH,be,be⟩
theorem FH{Fd:Nat->Prop}{u:Value}(hC:Old C w)(hD:Old Fd w)(F:Old S w)(hM:mb w C S v M)(hb:gz w Fd S u b)(Q3:b.length=M.length)(hlen:fz cols M)(W:cols<=999)(hR:M.length<=1000)(hB:Gn (ku M b) (cols+1) h)(hh:3*h<=90000):
  eH PG GT.jt #[.agg #[v,iV cols],u] w (eR w fun v' Y=>(qA M b cols=none/\v'= .tuple #[nls,.bool false])\/∃x vx,qA M b cols=some x/\v'= .tuple #[vx,.bool true]/\eV Y S w.heap.size [(w.heap.size,Y.heap.size)] vx cols x):=by
 have V:=bR w;obtain⟨am,cm,rfl,SB,Qr⟩:=mb.shape hM;obtain⟨ab,cb,rfl,Pk,RY⟩:=gz.shape hb;unfold maxLen at Qr RY;refine qM bv ?_
 refine⟨((cols+1:Nat):Int),wo,Nat×List Value×World×Iv,fun z=>⟨[(20,iN z.1),(1,sV ab b.length cb),(2,pP 0 0),(6,pP 1 0),(18,sV am M.length cm),(19,iZ M.length)],[(1,.box T.eL [.w 2 z.2.1.length,.v (iV ((cols+1:Nat):Int))]),(2,.vec T.gF 1 z.2.1),(0,.box T.eL [.v (.slice am M.length cm),.v (iV cols)])],3,z.2.2.2,z.2.2.1⟩,fun z=>M.length-z.1,
  fun z=>z.1<=M.length/\Bq w z.2.2.1/\dZ z.2.2.1 (Cv S w.heap.size z.2.2.2) z.2.1 ((ku M b).take z.1),?_,?_⟩
 .intro O J r
  exact⟨(0,[],J,[]),⟨aR _,V.tr r.cZ,by simp[dZ]⟩,Sub.EH 1 0 T.gF 1 rfl rfl (by simp[kK,SV.sc,At.sc,fc]) r fun In r1=>
   sbgn [] r1⟩
 rintro⟨i,rv,w1,iv⟩ ⟨D,V,hK⟩;dsimp only at D V hK ⊢;have PN:rv.length=i:=by rw[hK.1,ah,mc];omega
 apply bS<;>intro Ou
 .have Ou:=dL Ou;obtain⟨x,U⟩:=gO M i;have QM:=hlen x (aC U);obtain⟨q,hq⟩:=gO b i;have RU:b.getD i 0=q:=by rw[List.getD,hq];rfl
  have PL:(ku M b).take (i+1)=(ku M b).take i++[x++[q]]:=by
   rw[bB,show(ku M b)[i]? =some (x++[q]) by rw[ku,List.getElem?_mapIdx,U,<-RU];rfl];rfl
  obtain⟨adm,um,S7,QZ,km1,km2⟩:=mb.load hM U;obtain⟨A,⟨-,g1,g2,a0,c0,rfl,g4,g5⟩,QW,VU,PT⟩:=QZ;have PM:=eP VU;obtain⟨adq,Z,Ut,hF,hl⟩:=gz.load hb hq;obtain⟨b3,a3,n3,c3,b4,a4,n4,c4,rfl,hF⟩:=hF;refine⟨adm,S7,be,.slice a0 x.length c0,rd1 km2 V (hC _ km1),?_⟩;refine jd hτ vC (.x 0 (.x 3 (.x 5 (.x 6 (.x 7 (.ld 1 28672 (.ld 8 32256 (.two 2 (.two 4 (.x 9 (.x 10 (.pK 6 (.x 11 (.x 12 (.x 13 (.x 14 .nil))))))) 9 (.x 4 (.x 10 (.pK 6 (.x 11 (.x 12 (.x 13 (.x 14 .nil)))))))) 9 (.x 2 (.x 4 (.x 10 (.pK 6 (.x 11 (.x 12 (.x 13 (.x 14 .nil)))))))))))))))) d9 d9 ?_;refine⟨adq,Ut,be,rC b3 a3 n3 c3 b4 a4 n4 c4,rfl,rdO hl V hD,?_,?_⟩
  .refine⟨rC b3 a3 n3 c3 b4 a4 n4 c4,rfl,rdO hl V hD,rfl,rfl,?_,?_⟩
   .refine .inl ?_;refine⟨A.flatten,g1,g2,fun O J r Ph=>?_,?_⟩
    .obtain⟨u0,Xp⟩:=gO A.flatten 0;obtain⟨ad,ha,_,_⟩:=g5 0 u0 Xp;refine⟨ad,ha,fun j u hj=>?_⟩;obtain⟨ad2,RT,q1,q2⟩:=g5 j u hj;rw[ha]at RT;injection RT with RT;subst RT;rw[cV (w:=w) (Y:=J) (by rw[dO];exact(V.tr r.cZ).block _ (F _ q1))];exact q2
    refine⟨rfl,be,mx,?_⟩;rw[aW x.length];refine⟨rC b3 a3 n3 c3 b4 a4 n4 c4,rfl,rdO hl V hD,rfl,rfl,rfl,?_⟩;refine .inl ?_;refine⟨by rw[<-g1];rfl,be,mx,rfl,[(1,.box T.eL [.w 2 rv.length,.v (iV ((cols+1:Nat):Int))]),(2,.vec T.gF 1 rv),(0,.box T.eL [.v (.slice am M.length cm),.v (iV cols)])],_,rfl,bv,⟨rfl,rfl,rfl,trivial⟩,rfl,fun O J r=>?_⟩;have hv:=KW (S:=S) (x:=x) (q:=q) (A:=A) r (id:=6) rfl ⟨QW,fun j Z q k1 k2=>(PT j Z q k1 k2).cR fun g X=>(V.tr r.cZ).block g (F g X)⟩ (hF.cR (kS V r F)).sd mx;refine⟨hv.1,_,xn (tl:=[(25,pP 1 0),(26,.o (.w 2 rv.length)),(20,iN i),(1,sV ab b.length cb),(2,pP 0 0),(6,pP 1 0),(18,sV am M.length cm),(19,iZ M.length)]) hv.1 (t:=35) (n:=x.length+1) rfl ⟨rfl,rfl,rfl,rfl,rfl,rfl,rfl,rfl,trivial⟩ (by simp[kK,SV.sc,At.sc]),?_⟩;replace hK:=(dZ.cP (hK.rel r F) (fun g X=>X.mono fun p hp=>aB _ hp)).push rfl hv.2;rw[<-PL]at hK;replace V:=V.tr r.cZ;generalize (O 6).g=gx at*
    generalize (O 6).cap=cx at*
    generalize (gx,gx+1)::iv=Oy at*
    refine⟨rfl,?_⟩;refine .inl ?_;refine⟨bv,be,mx,((i+1:Nat):Int),wo,?_⟩;intro I' w3 R;exact⟨(i+1,rv++[.slice (some ⟨gx,0,none⟩) (x.length+1) cx],w3,_),⟨Ou,V.tr R.cZ,hK.rel R F⟩,sbgn [(2,8)] R ⟨by dsimp only;rw[l1];rfl,rfl,rfl,trivial⟩,dec Ou⟩
   .refine⟨rfl,?_⟩;refine .inl ?_;refine⟨A.flatten,g1,g2,fun O J r Ph=>?_,?_⟩
    .obtain⟨u0,Xp⟩:=gO A.flatten 0;obtain⟨ad,ha,_,_⟩:=g5 0 u0 Xp;refine⟨ad,ha,fun j u hj=>?_⟩;obtain⟨ad2,RT,q1,q2⟩:=g5 j u hj;rw[ha]at RT;injection RT with RT;subst RT;rw[cV (w:=w) (Y:=J) (by rw[dO];exact(V.tr r.cZ).block _ (F _ q1))];exact q2
    refine⟨rfl,be,mx,?_⟩;rw[aW x.length];refine⟨rfl,?_⟩;refine .inl ?_;refine⟨by rw[<-g1];rfl,be,mx,rfl,[(1,.box T.eL [.w 2 rv.length,.v (iV ((cols+1:Nat):Int))]),(2,.vec T.gF 1 rv),(0,.box T.eL [.v (.slice am M.length cm),.v (iV cols)])],_,rfl,bv,⟨rfl,rfl,rfl,trivial⟩,rfl,fun O J r=>?_⟩;have hv:=KW (S:=S) (x:=x) (q:=q) (A:=A) r (id:=6) rfl ⟨QW,fun j Z q k1 k2=>(PT j Z q k1 k2).cR fun g X=>(V.tr r.cZ).block g (F g X)⟩ (hF.cR (kS V r F)).sd mx;refine⟨hv.1,_,xn (tl:=[(25,pP 1 0),(26,.o (.w 2 rv.length)),(20,iN i),(1,sV ab b.length cb),(2,pP 0 0),(6,pP 1 0),(18,sV am M.length cm),(19,iZ M.length)]) hv.1 (t:=35) (n:=x.length+1) rfl ⟨rfl,rfl,rfl,rfl,rfl,rfl,rfl,rfl,trivial⟩ (by simp[kK,SV.sc,At.sc]),?_⟩;replace hK:=(dZ.cP (hK.rel r F) (fun g X=>X.mono fun p hp=>aB _ hp)).push rfl hv.2;rw[<-PL]at hK;replace V:=V.tr r.cZ;generalize (O 6).g=gx at*
    generalize (O 6).cap=cx at*
    generalize (gx,gx+1)::iv=Oy at*
    refine⟨rfl,?_⟩;refine .inl ?_;refine⟨bv,be,mx,((i+1:Nat):Int),wo,?_⟩;intro I' w3 R;exact⟨(i+1,rv++[.slice (some ⟨gx,0,none⟩) (x.length+1) cx],w3,_),⟨Ou,V.tr R.cZ,hK.rel R F⟩,sbgn [(2,8)] R ⟨by dsimp only;rw[l1];rfl,rfl,rfl,trivial⟩,dec Ou⟩
  .refine⟨rfl,rfl,?_⟩;refine .inl ?_;refine⟨A.flatten,g1,g2,fun O J r Ph=>?_,?_⟩
   .obtain⟨u0,Xp⟩:=gO A.flatten 0;obtain⟨ad,ha,_,_⟩:=g5 0 u0 Xp;refine⟨ad,ha,fun j u hj=>?_⟩;obtain⟨ad2,RT,q1,q2⟩:=g5 j u hj;rw[ha]at RT;injection RT with RT;subst RT;rw[cV (w:=w) (Y:=J) (by rw[dO];exact(V.tr r.cZ).block _ (F _ q1))];exact q2
   refine⟨rfl,be,mx,?_⟩;rw[aW x.length];refine⟨rfl,?_⟩;refine .inl ?_;refine⟨by rw[<-g1];rfl,be,mx,rfl,[(1,.box T.eL [.w 2 rv.length,.v (iV ((cols+1:Nat):Int))]),(2,.vec T.gF 1 rv),(0,.box T.eL [.v (.slice am M.length cm),.v (iV cols)])],_,rfl,bv,⟨rfl,rfl,rfl,trivial⟩,rfl,fun O J r=>?_⟩;have hv:=KW (S:=S) (x:=x) (q:=q) (A:=A) r (id:=6) rfl ⟨QW,fun j Z q k1 k2=>(PT j Z q k1 k2).cR fun g X=>(V.tr r.cZ).block g (F g X)⟩ (hF.cR (kS V r F)).sd mx;refine⟨hv.1,_,xn (tl:=[(25,pP 1 0),(26,.o (.w 2 rv.length)),(20,iN i),(1,sV ab b.length cb),(2,pP 0 0),(6,pP 1 0),(18,sV am M.length cm),(19,iZ M.length)]) hv.1 (t:=35) (n:=x.length+1) rfl ⟨rfl,rfl,rfl,rfl,rfl,rfl,rfl,rfl,trivial⟩ (by simp[kK,SV.sc,At.sc]),?_⟩;replace hK:=(dZ.cP (hK.rel r F) (fun g X=>X.mono fun p hp=>aB _ hp)).push rfl hv.2;rw[<-PL]at hK;replace V:=V.tr r.cZ;generalize (O 6).g=gx at*
   generalize (O 6).cap=cx at*
   generalize (gx,gx+1)::iv=Oy at*
   refine⟨rfl,?_⟩;refine .inl ?_;refine⟨bv,be,mx,((i+1:Nat):Int),wo,?_⟩;intro I' w3 R;exact⟨(i+1,rv++[.slice (some ⟨gx,0,none⟩) (x.length+1) cx],w3,_),⟨Ou,V.tr R.cZ,hK.rel R F⟩,sbgn [(2,8)] R ⟨by dsimp only;rw[l1];rfl,rfl,rfl,trivial⟩,dec Ou⟩
 have Ou:=dE D Ou;rw[bH (by rw[mc];omega)]at hK;have Vz:=NO (b:=b) hlen;obtain⟨f1,f2,f3,f4,f5⟩:=uS (cols+1) Vz;generalize hA:(dh (ku M b) (cols+1)).1=FS at*
 generalize hP:(dh (ku M b) (cols+1)).2.1=pv at*
 refine inc cols ?_
 refine cQ (cU (J9:=fun _ J v Y=>∃vr vp vf,v= .agg #[vr,iV ((cols+1:Nat):Int),vp,vf]/\dD Y (Nw (Cv S w.heap.size iv) J Y) vr FS/\dN Y (Nf J Y) vp pv/\dN Y (Nf J Y) vf (dh (ku M b) (cols+1)).2.2) (fun O J r=>by
  rw[<-hA,<-hP]
  exact zH (C:=fun g=>g<J.heap.size) (fun g X=>X) (rlo r F) ⟨rv,by rw[mc,<-Ou,<-PN];exact(r.iD (id:=2) (sz:=1) (m:=rv.length) rfl bv mx bi hK.2.1).cP fun g X=>X.2,hK.1,fun i u x I G=>cX.rel (hK.2.2 i u x I G) r F⟩ Vz be be (by rw[mc];omega) lr hB hh) ?_)
 rintro O Pw v1 Pa r L PE ⟨vr,vp,vf,rfl,k1,k2,k3⟩;replace V:=V.tr PE;have hR:=dD.old k1 r.dA;have hV:=dN.iR (S:=FF) k2 r.dA (iv:=(Pw.heap.size,Pa.heap.size)::iv) aH;have hX:=dN.iR (S:=FF) k3 r.dA (iv:=(Pw.heap.size,Pa.heap.size)::iv) aH;generalize (Pw.heap.size,Pa.heap.size)::iv=PA at*
 obtain⟨ar,cr,rfl,Ud,hmr⟩:=dI.shape hR;obtain⟨ap,cp,rfl,Yd,hmp⟩:=dN.shape hV;obtain⟨af,cf,rfl,-,-⟩:=dN.shape hX;refine cQ (cU (J9:=fun _ J v Y=>eV Y FF J.heap.size [(J.heap.size,Y.heap.size)] v cols (List.replicate cols 0)) (fun O J r=>DQ cols J be) ?_);rintro O Qb v2 Px r L PE W;replace V:=V.tr PE;replace hR:=dD.cP (S':=Bs S w.heap.size ((Qb.heap.size,Px.heap.size)::PA) v2) (dD.cR (dD.rel hR r F) fun g X=>L.block g (rlo r F g X)) fun g X=>Bs.of r F (fun x U=>aB _ U) W X;replace hV:=dN.cP (S':=Bs FF w.heap.size ((Qb.heap.size,Px.heap.size)::PA) v2) (dN.cR (dN.rel hV r oF) fun g X=>L.block g (rlo r oF g X)) fun g X=>Bs.of r oF (fun x U=>aB _ U) W X;have hX:=W.iR (S:=S) r.dA (iv:=(Qb.heap.size,Px.heap.size)::PA) aH;generalize (Qb.heap.size,Px.heap.size)::PA=Oy at*
 obtain⟨ax,cx,rfl,To⟩:=hX.row.form;have hXl:=hX.row.le;unfold maxLen at hXl
 refine⟨Nat×World×Iv,fun z=>⟨[(51,iN z.1),(2,pP 0 0),(9,pP 3 0),(10,sV ax cols cx),(49,sV ap pv.length cp),(50,iZ pv.length)],[(3,.box T.dm [.v (.slice ar FS.length cr),.v (iV ((cols+1:Nat):Int)),.v (.slice ap pv.length cp),.v (.slice af (dh (ku M b) (cols+1)).2.2.length cf)]),(0,.box T.eL [.v (.slice am M.length cm),.v (iV cols)])],4,z.2.2,z.2.1⟩,fun z=>pv.length-z.1,
  fun z=>z.1<=pv.length/\(∀(t p:Nat),t<z.1->pv[t]? =some p->p≠cols)/\Bq w z.2.1/\dD z.2.1 (Bs S w.heap.size z.2.2 (.slice ax cols cx)) (.slice ar FS.length cr) FS/\dN z.2.1 (Bs FF w.heap.size z.2.2 (.slice ax cols cx)) (.slice ap pv.length cp) pv/\eV z.2.1 S w.heap.size z.2.2 (.slice ax cols cx) cols (iU FS pv cols z.1),?_,?_⟩
 .intro O J r;exact⟨(0,J,_),⟨aR _,fun t p ht=>absurd ht (Nat.not_lt_zero t),V.tr r.cZ,dD.cR hR (Bs.same r F),dN.cR hV (Bs.same r oF),hX.rel r F⟩,sbgn [] r⟩
 rintro⟨k,w3,iv⟩ ⟨K,VL,V,hR,hV,hX⟩;dsimp only at K VL V hR hV hX ⊢;apply bS<;>intro Ow
 .have Ow:=dL Ow;obtain⟨p,hp⟩:=gO pv k;have R6:=f4 p (aC hp);obtain⟨adp,Rn,kp1,kp2⟩:=hV.at hp;refine⟨adp,Rn,be,iV (p:Int),fun O J r=>?_,?_⟩
  .rw[aF,cV (w:=w3) (Y:=J) (by rw[dO];exact rls r oF kp1.1)];exact kp2
  apply bS<;>intro L
  .have L:p=cols:=by
    have:(p:Int)=cols:=by simpa using L
    omega
   intro J8 we re;refine⟨_,rfl,V.tr re.cZ,.inl ⟨?_,rfl⟩⟩;unfold qA;simp only[hP]
   rw[aM (by rw[<-L];exact aC hp)]
  have L:p≠cols:=fun e=>by rw[e]at L;simp at L
  obtain⟨x,U⟩:=gO FS k;have QM:=f3 x (aC U);obtain⟨q,hq⟩:=gO x cols;have Qz:dF FS k cols=q:=by simp[dF,List.getD,U,hq]
  obtain⟨adm,um,S7,QZ,km1,km2⟩:=dI.load hR U;obtain⟨a0,c0,rfl,YS,-⟩:=dT.shape QZ;obtain⟨adq,Z,Ut,hF,_,hl⟩:=dT.load QZ hq;obtain⟨g0,g1,g2,g3,g4,g5,g6,g7,rfl,hF⟩:=hF;refine dP (idO 14) ?_;refine⟨adm,S7,be,.slice a0 x.length c0,fun O J r=>?_,?_⟩
  .rw[aF,cV (w:=w3) (Y:=J) (by rw[dO];exact rls r F km1.1)];exact km2
  refine⟨adq,Ut,be,rC g0 g1 g2 g3 g4 g5 g6 g7,rfl,fun O J r j u hu=>?_,?_⟩
  .obtain⟨k1,k2⟩:=hl j u hu;rw[aF,cV (w:=w3) (Y:=J) (by rw[dO,dO];exact rls r F k1.1)];exact k2
  obtain⟨gx,Yc⟩:∃g,ax=some ⟨g,0,none⟩:=by
   obtain⟨A,I,G,h3⟩:=hX.row;rcases I.2 with⟨_,h0⟩|⟨g,cap,cur,e,_⟩
   .omega
   .injection e with e;exact⟨g,e⟩
  subst Yc;refine⟨⟨gx,0,none⟩,rfl,be,?_⟩;intro O J r;obtain⟨g,X,I,G,h3,h4,h5⟩:=(hX.rel r F).store (j:=p) be (hF.cR (Bs.same r F)) r F;injection X with X;injection X with X;subst X;refine⟨I,G,h3,fun w5 Qv=>?_⟩;obtain⟨k1,k2,k3⟩:=h5 w5 Qv;have Pf:Bq w w5:=(V.tr r.cZ).tr (ju.grown k2 (fun g e=>by injection e with e;subst e;exact h4.elim (fun h=>h.elim) fun h=>h.1) r.dA);have Q5:=dD.cR hR (Bs.kept r F k2 fun g e=>e);have hV2:=dN.cR hV (Bs.kept r oF k2 fun g e=>e);have PL:(iU FS pv cols k).set p q=iU FS pv cols (k+1):=by rw[ir,Qz,List.getD,hp];rfl
  rw[PL]at k1;refine inc k ?_;intro I' w6 R
  exact⟨(k+1,w6,_),⟨Ow,fun t p2 ht Qa=>by
   by_cases WK:t=k
   .rw[WK,hp]at Qa;injection Qa with Qa;rw[<-Qa];exact L
   .exact VL t p2 (by dsimp only at ht;omega) Qa,Pf.tr R.cZ,dD.cR Q5 (Bs.same R F),dN.cR hV2 (Bs.same R oF),k1.rel R F⟩,sbgn [] R,by dsimp only;omega⟩
 have Ow:=dE K Ow;subst Ow;intro J8 we re;refine⟨_,rfl,V.tr re.cZ,.inr ⟨_,_,?_,rfl,hX.aDw re F⟩⟩;unfold qA;simp only[hA,hP]
 rw[aJ];intro hm;obtain⟨t,ht⟩:=aU hm;exact VL t cols (aE.1 ht).1 ht rfl
theorem Ij{u:Value}(hC:Old C w)(F:Old S w)(hM:mb w C S v M)(hb:cX w S u b)(Q3:b.length=M.length)(hlen:fz cols M)(W:cols<=999)(hR:M.length<=1000)(hB:Gn (ku M b) (cols+1) h)(hh:3*h<=90000):
  eH PG GT.jt #[.agg #[v,iV cols],u] w (eR w fun v' Y=>(qA M b cols=none/\v'= .tuple #[nls,.bool false])\/∃x vx,qA M b cols=some x/\v'= .tuple #[vx,.bool true]/\eV Y S w.heap.size [(w.heap.size,Y.heap.size)] vx cols x):=
 FH hC F F hM (cX.rc hb) Q3 hlen W hR hB hh
def vX(pv:List Nat)(n i:Nat):List Value:=(List.range n).map fun c=>.bool (decide (c∈pv.take i))
theorem NP(pv:List Nat)(n:Nat):vX pv n 0=List.replicate n (.bool false):=by
 refine bT fun j=>?_;rw[vX,aO,List.getElem?_replicate];by_cases h:j<n
 .rw[bY h,aM h];rfl
 .rw[List.getElem?_eq_none (by simp;omega),aJ h];rfl
theorem Gp(h:c<n):(vX pv n i)[c]? =some (.bool (decide (c∈pv.take i))):=by
 rw[vX,aO,bY h];rfl
theorem NQ(hp:pv[i]? =some p):(vX pv n i).set p (.bool true)=vX pv n (i+1):=by
 refine bT fun j=>?_;by_cases hj:j<n
 .rw[Gp hj,bB,hp];by_cases hpj:p=j
  .subst hpj;rw[aT (by simp[vX];exact hj)];simp
  .rw[aY hpj,Gp hj];have:j≠p:=fun e=>hpj e.symm;simp[this]
 .rw[List.getElem?_eq_none (by simp[vX];omega),List.getElem?_eq_none (by simp[vX];omega)]
theorem eV.at{cx:Nat}(h:eV w S B iv (.slice ax n cx) n qs)(h0:0<n):∃g,ax=some ⟨g,0,none⟩:=by
 obtain⟨A,I,G,h3⟩:=h.row;rcases I.2 with⟨_,h0⟩|⟨g,cap,cur,e,_⟩
 .omega
 .injection e with e;exact⟨g,e⟩
theorem NR(hC:Old C w)(F:Old S w)(hM:mb w C S v M)(hlen:fz n M)(hn0:0<n)(W:n<=1000)(hR:M.length<=1000)(hB:Gn M n h)(hAb:Ht (dh M n).1 h)(hh:3*h<=90000):
  eH PG GT.iI #[.agg #[v,iV n]] w (eR w fun v' Y=>dD Y (Nf w Y) v' (mT M n)):=by
 have V:=bR w;obtain⟨am,cm,rfl,SB,Qr⟩:=mb.shape hM;unfold maxLen at Qr;obtain⟨f1,f2,f3,f4,f5⟩:=uS n hlen;refine kP bv ?_;unfold mT;generalize hA:(dh M n).1=FS at*
 generalize hP:(dh M n).2.1=pv at*
 refine cQ (cU (J9:=fun _ J v Y=>∃vr vp vf,v= .agg #[vr,iV n,vp,vf]/\dD Y (Nw S J Y) vr FS/\dN Y (Nf J Y) vp pv/\dN Y (Nf J Y) vf (dh M n).2.2) (fun O J r=>by
  rw[<-hA,<-hP];obtain⟨rv,m1,m2,m3⟩:=hM
  exact zH (C:=C) (S:=S) (oS hC r) (oS F r) ⟨rv,m1.cR fun g X=>(V.tr r.cZ).block g (hC g X),m2,fun i u x I G=>cX.cR (m3 i u x I G) fun g X=>(V.tr r.cZ).block g (F g X)⟩ hlen hn0 W hR lr hB hh) ?_)
 rintro O Pw v1 Pa r L PE ⟨vr,vp,vf,rfl,k1,k2,k3⟩;replace V:=V.tr PE;have hR:=dD.old (dD.cP k1 fun g X=>X.imp (fun h=>(Or.inl h:Cv S w.heap.size [] g)) id) r.dA;have hV:=dN.iR (S:=FF) k2 r.dA (iv:=(Pw.heap.size,Pa.heap.size)::[]) aH;have hX:=dN.iR (S:=FF) k3 r.dA (iv:=(Pw.heap.size,Pa.heap.size)::[]) aH;generalize (Pw.heap.size,Pa.heap.size)::[]=PA at*
 obtain⟨ar,cr,rfl,Ud,hmr⟩:=dI.shape hR;obtain⟨ap,cp,rfl,Yd,hmp⟩:=dN.shape hV;obtain⟨af,cf,rfl,-,-⟩:=dN.shape hX
 refine⟨n,n,rfl,rfl,lr,be,be,Nat×World×Iv,fun z=>⟨[(1,pP 0 0),(3,pP 1 0),(4,.o (.s 2 0 n n)),(20,sV ap pv.length cp),(21,iZ pv.length),(22,iN z.1)],[(2,.arr T.bool (vX pv n z.1)),(1,.box T.dm [.v (.slice ar FS.length cr),.v (iV n),.v (.slice ap pv.length cp),.v (.slice af (dh M n).2.2.length cf)]),(0,.box T.eL [.v (.slice am M.length cm),.v (iV n)])],3,z.2.2,z.2.1⟩,fun z=>pv.length-z.1,
  fun z=>z.1<=pv.length/\Bq w z.2.1/\dD z.2.1 (Cv S w.heap.size z.2.2) (.slice ar FS.length cr) FS/\dN z.2.1 (Cf w z.2.2) (.slice ap pv.length cp) pv,?_,?_⟩
 .intro O J R;exact⟨(0,J,_),⟨aR _,V.tr R.cZ,dD.rel hR R F,dN.rel hV R oF⟩,sbgn [] R ⟨by dsimp only;rw[NP];rfl,rfl,rfl,trivial⟩⟩
 rintro⟨i,w1,iv⟩ ⟨D,V,hR,hV⟩;dsimp only at D V hR hV ⊢;apply bS<;>intro Ou
 .have Ou:=dL Ou;obtain⟨p,hp⟩:=gO pv i;have R6:=f4 p (aC hp);obtain⟨adp,Rn,kp1,kp2⟩:=hV.at hp;refine⟨adp,Rn,be,iV (p:Int),fun O J r=>?_,?_⟩
  .rw[aF,cV (w:=w1) (Y:=J) (by rw[dO];exact rls r oF kp1)];exact kp2
  refine⟨be,by simp[vX];omega,vX pv n (i+1),?_,?_⟩
  .rw[aF,aZ,aW,<-NQ hp];exact gV (by simp[vX];omega)
  refine inc i ?_;intro I' w3 R;exact⟨(i+1,w3,_),⟨Ou,V.tr R.cZ,dD.rel hR R F,dN.rel hV R oF⟩,sbgn [] R,dec Ou⟩
 have Ou:=dE D Ou;subst Ou
 refine⟨Nat×List Value×World×Iv,fun z=>⟨[(32,iN z.1),(7,.o (.w 3 z.2.1.length)),(1,pP 0 0),(3,pP 1 0),(4,.o (.s 2 0 n n)),(31,iZ n)],[(2,.arr T.bool (vX pv n pv.length)),(3,.vec T.gF 1 z.2.1),(1,.box T.dm [.v (.slice ar FS.length cr),.v (iV n),.v (.slice ap pv.length cp),.v (.slice af (dh M n).2.2.length cf)]),(0,.box T.eL [.v (.slice am M.length cm),.v (iV n)])],4,z.2.2.2,z.2.2.1⟩,fun z=>n-z.1,
  fun z=>z.1<=n/\Bq w z.2.2.1/\dD z.2.2.1 (Cv S w.heap.size z.2.2.2) (.slice ar FS.length cr) FS/\dN z.2.2.1 (Cf w z.2.2.2) (.slice ap pv.length cp) pv/\dZ z.2.2.1 (Cf w z.2.2.2) z.2.1 (fF FS pv n z.1),?_,?_⟩
 .intro O J r;exact⟨(0,[],J,_),⟨aR _,V.tr r.cZ,dD.rel hR r F,dN.rel hV r oF,by simp[dZ,fF]⟩,Sub.nil 7 T.gF 1 rfl (by simp[kK,SV.sc,At.sc]) r fun In r1=>sbgn [] r1⟩
 rintro⟨c,rv,w1,iv⟩ ⟨hc,V,hR,hV,hK⟩;dsimp only at hc V hR hV hK ⊢;have PN:rv.length=(fF FS pv n c).length:=hK.1;have VO:=Ik FS pv n c;apply bS<;>intro Pk
 .have Pk:=dL Pk;refine⟨be,.bool (decide (c∈pv)),by rw[aF,aZ,aW,Gp Pk,bN],?_⟩;apply bS<;>intro hm
  .have hm:c∈pv:=by simpa using hm
   refine inc c ?_;intro I' w3 R;exact⟨(c+1,rv,w3,_),⟨Pk,V.tr R.cZ,dD.rel hR R F,dN.rel hV R oF,by dsimp only;rw[Il hm];exact hK.rel R oF⟩,sbgn [] R,dec Pk⟩
  have hm:c∉pv:=by simpa using hm
  refine cQ (cU (J9:=fun _ J v Y=>eV Y FF J.heap.size [(J.heap.size,Y.heap.size)] v n (List.replicate n 0)) (fun O J r=>DQ n J be) ?_);rintro O Qb v2 Px r L PE R7;replace V:=V.tr PE;replace hR:=dD.cP (S':=Bs S w.heap.size ((Qb.heap.size,Px.heap.size)::iv) v2) (dD.cR (dD.rel hR r F) fun g X=>L.block g (rlo r F g X)) fun g X=>Bs.of r F (fun x U=>aB _ U) R7 X;replace hV:=dN.cP (S':=Bs FF w.heap.size ((Qb.heap.size,Px.heap.size)::iv) v2) (dN.cR (dN.rel hV r oF) fun g X=>L.block g (rlo r oF g X)) fun g X=>Bs.of r oF (fun x U=>aB _ U) R7 X;replace hK:=dZ.cP (S':=Bs FF w.heap.size ((Qb.heap.size,Px.heap.size)::iv) v2) (dZ.cR (dZ.rel hK r oF) fun g X=>L.block g (rlo r oF g X)) fun g X=>Bs.of r oF (fun x U=>aB _ U) R7 X;have hX:=R7.iR (S:=FF) r.dA (iv:=(Qb.heap.size,Px.heap.size)::iv) aH;generalize (Qb.heap.size,Px.heap.size)::iv=Oy at*
  obtain⟨ax,cx,rfl,To⟩:=hX.row.form;obtain⟨gx,rfl⟩:=hX.at hn0;refine cQ (cU (J9:=fun _ J v Y=>cY Y (Nf J Y) v ((1:Int):Rat)) (fun O J r=>kh 1 J bi bi) ?_);rintro O QD v3 QC r L PE R7;replace V:=V.tr PE;replace hR:=dD.cP (S':=Bs S w.heap.size ((QD.heap.size,QC.heap.size)::Oy) (.slice (some ⟨gx,0,none⟩) n cx)) (dD.cR (dD.cR hR (Bs.same r F)) fun g X=>L.block g (rlo r F g X.1)) fun g X=>Bs.mono (fun x U=>aB _ U) X;replace hV:=dN.cP (S':=Bs FF w.heap.size ((QD.heap.size,QC.heap.size)::Oy) (.slice (some ⟨gx,0,none⟩) n cx)) (dN.cR (dN.cR hV (Bs.same r oF)) fun g X=>L.block g (rlo r oF g X.1)) fun g X=>Bs.mono (fun x U=>aB _ U) X;replace hK:=dZ.cP (S':=Bs FF w.heap.size ((QD.heap.size,QC.heap.size)::Oy) (.slice (some ⟨gx,0,none⟩) n cx)) (dZ.cR (dZ.cR hK (Bs.same r oF)) fun g X=>L.block g (rlo r oF g X.1)) fun g X=>Bs.mono (fun x U=>aB _ U) X;have hd:=(R7.cP (S':=Bs FF w.heap.size ((QD.heap.size,QC.heap.size)::Oy) (.slice (some ⟨gx,0,none⟩) n cx)) fun g X=>X.elim (fun h=>h.elim) fun h=>⟨.inr ⟨by have:=r.dA;omega,_,_,aH,h.1,h.2⟩,fun e=>by have:=rlo r oF g (hX.new g e);omega⟩)
  replace hX:=hX.cS (N:=(QD.heap.size,QC.heap.size)::Oy) r oF L fun x U=>aB _ U;generalize (QD.heap.size,QC.heap.size)::Oy=PH at*
  obtain⟨A0,A1,A2,A3,A4,A5,A6,A7,rfl⟩:=hd.shape;refine⟨⟨gx,0,none⟩,rfl,be,?_⟩;intro O J r;obtain⟨g,X,I,G,h3,h4,h5⟩:=(hX.rel r oF).store (j:=c) Pk (hd.cR (Bs.same r oF)) r oF;injection X with X;injection X with X;subst X;refine⟨I,G,h3,fun w5 Qv=>?_⟩;obtain⟨k1,k2,k3⟩:=h5 w5 Qv;have Pf:Bq w w5:=(V.tr r.cZ).tr (ju.grown k2 (fun g e=>by injection e with e;subst e;exact h4.elim (fun h=>h.elim) fun h=>h.1) r.dA);have Q5:=dD.cR hR (Bs.kept r F k2 fun g e=>e);have hV2:=dN.cR hV (Bs.kept r oF k2 fun g e=>e);have R1:=dZ.cR hK (Bs.kept r oF k2 fun g e=>e);have PL:(List.replicate n (0:Rat)).set c ((1:Int):Rat)=gj FS pv n c 0:=rfl;rw[PL]at k1
  refine⟨Nat×World×Iv,fun z=>⟨[(49,iN z.1),(8,iN c),(9,.o (.v (.slice (some ⟨gx,0,none⟩) n cx))),(32,iN c),(47,sV ap pv.length cp),(48,iZ pv.length),(7,.o (.w 3 rv.length)),(1,pP 0 0),(3,pP 1 0),(4,.o (.s 2 0 n n)),(31,iZ n)],[(2,.arr T.bool (vX pv n pv.length)),(3,.vec T.gF 1 rv),(1,.box T.dm [.v (.slice ar FS.length cr),.v (iV n),.v (.slice ap pv.length cp),.v (.slice af (dh M n).2.2.length cf)]),(0,.box T.eL [.v (.slice am M.length cm),.v (iV n)])],4,z.2.2,z.2.1⟩,fun z=>pv.length-z.1,
   fun z=>z.1<=pv.length/\Bq w z.2.1/\dD z.2.1 (Bs S w.heap.size z.2.2 (.slice (some ⟨gx,0,none⟩) n cx)) (.slice ar FS.length cr) FS/\dN z.2.1 (Bs FF w.heap.size z.2.2 (.slice (some ⟨gx,0,none⟩) n cx)) (.slice ap pv.length cp) pv/\dZ z.2.1 (Bs FF w.heap.size z.2.2 (.slice (some ⟨gx,0,none⟩) n cx)) rv (fF FS pv n c)/\eV z.2.1 FF w.heap.size z.2.2 (.slice (some ⟨gx,0,none⟩) n cx) n (gj FS pv n c z.1),?_,?_⟩
  .intro O J R;exact⟨(0,J,_),⟨aR _,Pf.tr R.cZ,dD.cR Q5 (Bs.same R F),dN.cR hV2 (Bs.same R oF),dZ.cR R1 (Bs.same R oF),k1.rel R oF⟩,sbgn [] R⟩
  rintro⟨k,w3,iv⟩ ⟨K,V,hR,hV,hK,hX⟩;dsimp only at K V hR hV hK hX ⊢;apply bS<;>intro Ow
  .have Ow:=dL Ow;obtain⟨p,hp⟩:=gO pv k;have R6:=f4 p (aC hp);obtain⟨adp,Rn,kp1,kp2⟩:=hV.at hp;obtain⟨x,U⟩:=gO FS k;have QM:=f3 x (aC U);obtain⟨q,hq⟩:=gO x c;have Qz:dF FS k c=q:=by simp[dF,List.getD,U,hq]
   have Ss:=hAb x (aC U) q (aC hq);obtain⟨adm,um,S7,QZ,km1,km2⟩:=dI.load hR U;obtain⟨a0,c0,rfl,YS,-⟩:=dT.shape QZ;obtain⟨adq,Z,Ut,hF,_,hl⟩:=dT.load QZ hq;obtain⟨g0,g1,g2,g3,g4,g5,g6,g7,rfl,hF⟩:=hF;refine⟨adp,Rn,be,iV (p:Int),fun O J r=>?_,?_⟩
   .rw[aF,cV (w:=w3) (Y:=J) (by rw[dO];exact rls r oF kp1.1)];exact kp2
   refine⟨adm,S7,be,.slice a0 x.length c0,fun O J r=>?_,?_⟩
   .rw[aF,cV (w:=w3) (Y:=J) (by rw[dO];exact rls r F km1.1)];exact km2
   refine⟨adq,Ut,be,rC g0 g1 g2 g3 g4 g5 g6 g7,rfl,fun O J r j u hu=>?_,?_⟩
   .obtain⟨k1,k2⟩:=hl j u hu;rw[aF,cV (w:=w3) (Y:=J) (by rw[dO,dO];exact rls r F k1.1)];exact k2
   refine cQ (cU (J9:=fun _ J v Y=>cY Y (Nf J Y) v (-q)) (fun O J r=>zG (S:=Bs S w.heap.size iv (.slice (some ⟨gx,0,none⟩) n cx)) (fun g X=>rlo r F g X.1) ((hF.cR (Bs.same r F)).l be)) ?_);rintro O RF v4 Qw r L PE R7;replace V:=V.tr PE;replace hR:=dD.cP (S':=Bs S w.heap.size ((RF.heap.size,Qw.heap.size)::iv) (.slice (some ⟨gx,0,none⟩) n cx)) (dD.cR (dD.cR hR (Bs.same r F)) fun g X=>L.block g (rlo r F g X.1)) fun g X=>Bs.mono (fun x U=>aB _ U) X;replace hV:=dN.cP (S':=Bs FF w.heap.size ((RF.heap.size,Qw.heap.size)::iv) (.slice (some ⟨gx,0,none⟩) n cx)) (dN.cR (dN.cR hV (Bs.same r oF)) fun g X=>L.block g (rlo r oF g X.1)) fun g X=>Bs.mono (fun x U=>aB _ U) X;replace hK:=dZ.cP (S':=Bs FF w.heap.size ((RF.heap.size,Qw.heap.size)::iv) (.slice (some ⟨gx,0,none⟩) n cx)) (dZ.cR (dZ.cR hK (Bs.same r oF)) fun g X=>L.block g (rlo r oF g X.1)) fun g X=>Bs.mono (fun x U=>aB _ U) X;have hd:=(R7.cP (S':=Bs FF w.heap.size ((RF.heap.size,Qw.heap.size)::iv) (.slice (some ⟨gx,0,none⟩) n cx)) fun g X=>X.elim (fun h=>h.elim) fun h=>⟨.inr ⟨by have:=r.dA;omega,_,_,aH,h.1,h.2⟩,fun e=>by have:=rlo r oF g (hX.new g e);omega⟩)
   replace hX:=hX.cS (N:=(RF.heap.size,Qw.heap.size)::iv) r oF L fun x U=>aB _ U;generalize (RF.heap.size,Qw.heap.size)::iv=PV at*
   obtain⟨C0,C1,C2,C3,C4,C5,C6,C7,rfl⟩:=hd.shape;refine⟨⟨gx,0,none⟩,rfl,be,?_⟩;intro O J r;obtain⟨g,X,I,G,h3,h4,h5⟩:=(hX.rel r oF).store (j:=p) be (hd.cR (Bs.same r oF)) r oF;injection X with X;injection X with X;subst X;refine⟨I,G,h3,fun w5 Qv=>?_⟩;obtain⟨k1,k2,k3⟩:=h5 w5 Qv;have Pf:Bq w w5:=(V.tr r.cZ).tr (ju.grown k2 (fun g e=>by injection e with e;subst e;exact h4.elim (fun h=>h.elim) fun h=>h.1) r.dA);have Q5:=dD.cR hR (Bs.kept r F k2 fun g e=>e);have hV2:=dN.cR hV (Bs.kept r oF k2 fun g e=>e);have R1:=dZ.cR hK (Bs.kept r oF k2 fun g e=>e);have PL:(gj FS pv n c k).set p (-q)=gj FS pv n c (k+1):=by rw[iq,Qz,List.getD,hp];rfl
   rw[PL]at k1;refine inc k ?_;intro I' w6 R;exact⟨(k+1,w6,_),⟨Ow,Pf.tr R.cZ,dD.cR Q5 (Bs.same R F),dN.cR hV2 (Bs.same R oF),dZ.cR R1 (Bs.same R oF),k1.rel R oF⟩,sbgn [] R,dec Ow⟩
  have Ow:=dE K Ow;rw[Ow]at hX;replace hR:=dD.cP hR fun g X=>X.1;replace hV:=dN.cP hV fun g X=>X.1;replace hK:=(dZ.cP hK fun g X=>X.1).push (u:=(.slice (some ⟨gx,0,none⟩) n cx)) (x:=gj FS pv n c pv.length) rfl (by have:=hX.c;exact this);rw[<-Gq hm]at hK;refine .inl ?_;refine⟨bv,be,mx,((c+1:Nat):Int),wo,?_⟩;intro I' w3 R;exact⟨(c+1,rv++[(.slice (some ⟨gx,0,none⟩) n cx)],w3,_),⟨Pk,V.tr R.cZ,dD.rel hR R F,dN.rel hV R oF,hK.rel R oF⟩,sbgn [(3,5)] R (hE:=⟨rfl,by dsimp only;rw[l1];rfl,rfl,rfl,rfl,rfl,trivial⟩),dec Pk⟩
 have Pk:=dE hc Pk;subst Pk;intro J8 we re;refine⟨_,rfl,V.tr re.cZ,rv,?_,hK.1,fun i u x k1 k2=>cX.cP (cX.rel (hK.2.2 i u x k1 k2) re oF) fun g X=>Cv.nw X re⟩;rw[<-hK.1];exact(re.iD (id:=3) (sz:=1) (m:=rv.length) rfl bv mx bi hK.2.1).cP fun g X=>.inr X
structure je(w:World)(S:Nat->Prop)(B:Nat)(iv:Iv)(v:Value)(n i:Nat)(qs:List Rat):Prop where
 row:∃A,w.ownsRow 0 T.Rat 4 v n A.flatten/\gw w (Bs S B iv v) n i A qs
 new:∀g,v.ownBlock=some g->Cv FF B iv g
section
variable{S S':Nat->Prop}{H:Hp}{nx n i:Nat}{iv N:Iv}{B:Nat}{w J Y:World}{O:Nat->Sx.eG}{v:Value}{qs:List Rat}
theorem je.cR(h:je w S B iv v n i qs)(K:∀g,Cv S B iv g->Y.heap[g]? =w.heap[g]?):je Y S B iv v n i qs:=by
 obtain⟨⟨A,I,G⟩,h3⟩:=h;exact⟨⟨A,ownsRow.cR I fun g X=>K g (Dh (h3 g X)),G.cR fun g X=>K g X.1⟩,h3⟩
theorem je.rel(h:je w S B iv v n i qs)(r:Rel H nx iv B w O J)(F:∀g,S g->g<B):je J S B iv v n i qs:=h.cR fun _ X=>rls r F X
theorem je.mono(h:je w S B iv v n i qs)(hm:∀p,p∈iv->p∈N):je w S B N v n i qs:=by
 obtain⟨⟨A,I,G⟩,h3⟩:=h;exact⟨⟨A,I,G.cP fun g X=>X.mono hm⟩,fun g X=>(h3 g X).mono hm⟩
theorem je.cS(h:je w S B iv v n i qs)(r:Rel H nx iv B w O J)(F:∀g,S g->g<B)(L:Ext J Y)(hm:∀p,p∈iv->p∈N):je Y S B N v n i qs:=
 ((h.rel r F).cR fun g X=>L.block g (rlo r F g X)).mono hm
theorem je.pK(r:Rel H nx iv B w O J)(h:dU H id=some (.arr T.Rat (List.replicate n [Value.bool false,nls,.bool false,nls]).flatten))(W:n<=maxLen)(qs:List Rat):
  je J S B (((O id).g,(O id).g+1)::iv) (.slice (some ⟨(O id).g,0,none⟩) n n) n 0 qs:=by
 have PK:=(r.fits h).1;have h4:∀Z∈List.replicate n [Value.bool false,nls,.bool false,nls],Z.length=4:=fun Z hc=>by rw[bW hc];rfl
 have hf:=eP h4;rw[bD]at hf;refine⟨⟨List.replicate n [.bool false,nls,.bool false,nls],⟨hf,.inr ⟨(O id).g,n,_,rfl,aR _,r.arr id _ _ h,lr,W,bv,by rw[<-hf];exact bN⟩⟩,gw.start J _ n qs⟩,fun g X=>?_⟩;injection X with X;have X:(O id).g=g:=X;subst X;exact .inr ⟨(r.low id _ h PK).1,_,_,aH,lr,bc _⟩
theorem je.store{a1 a2:Option Addr}{n1 c1 n2 c2:Nat}{b b2:Bool}(h:je w S B iv (.slice a n c) n j qs)(hj:j<n)(hq:qs[j]? =some q)(hf:cY w (Bs S B iv (.slice a n c)) (.agg #[.bool b,.slice a1 n1 c1,.bool b2,.slice a2 n2 c2]) q)
  (r:Rel H nx iv B w O J) (F:∀g,S g->g<B):
  ∃g,a=some ⟨g,0,none⟩/\((⟨g,0,none⟩:Addr).add ((j:Int).toNat*4)).spot=none/\
   (∀k,k<4->(J.cell? (((⟨g,0,none⟩:Addr).add ((j:Int).toNat*4)).add k)).isSome=true/\J.frozen? (((⟨g,0,none⟩:Addr).add ((j:Int).toNat*4)).add k)=false)/\
   (∀id b,dU H id=some b->(O id).nil=false->(O id).g≠((⟨g,0,none⟩:Addr).add ((j:Int).toNat*4)).block)/\
   ∀Y,Y=setCells J ((⟨g,0,none⟩:Addr).add ((j:Int).toNat*4)) (rC b a1 n1 c1 b2 a2 n2 c2)->je Y S B iv (.slice a n c) n (j+1) qs/\J.grownBy Y (some g)/\ju B J Y/\Rel H nx iv B Y O Y:=by
 obtain⟨⟨A,I,G⟩,h3⟩:=h.rel r F;have hf:=hf.cR (Bs.same r F);obtain⟨g,rfl,Oz,Qm,PF,PR⟩:=lZ (nv:=rC b a1 n1 c1 b2 a2 n2 c2) I rfl hj rfl bi;have PU:(⟨g,0,none⟩:Addr).add ((j:Int).toNat*4)=⟨g,j*4,none⟩:=by rw[aF,dX,aW]
 have Qg:=Rel.not r (dV B) (h3 g rfl);refine⟨g,rfl,by rw[PU],fun k K=>by rw[PU];exact Oz k K,fun id b hb W=>by rw[PU];exact Qg id b hb W,fun Y Pf=>?_⟩;rw[PU]at Pf;subst Pf;have UL:=jy (Z:=rC b a1 n1 c1 b2 a2 n2 c2) G.four (show j<A.length by rw[G.len];exact hj);rw[UL]at Qm;have Pz:∀x,Bs S B iv (.slice (some ⟨g,0,none⟩) n c) x->(setCells J ⟨g,j*4,none⟩ (rC b a1 n1 c1 b2 a2 n2 c2)).heap[x]? =J.heap[x]? :=fun x U=>
  PF.block x (rlo r F x U.1) fun e=>U.2 e.symm
 refine⟨⟨⟨_,Qm,(G.cR Pz).next hj hq (hf.cR Pz)⟩,h3⟩,PF,ju.grown PF (fun x e=>by injection e with e;subst e;exact(h3 g rfl).elim (fun h=>h.elim) fun h=>h.1) r.dA,r.B3 Qg PF⟩
theorem je.done(h:je w S B iv v n n qs)(hl:qs.length=n):eV w S B iv v n qs:=by
 obtain⟨⟨A,I,G⟩,h3⟩:=h;exact⟨⟨A,I,G.len,by rw[G.len,hl],fun j Z q k1 k2=>G.at_ j Z q (by rw[<-hl];exact(aE.1 k2).1) k1 k2⟩,h3⟩
end
theorem o7(M:List (List Rat))(n:Nat):(eA M n).length=n:=by simp[eA]
theorem NS{k:Nat}(h:k<n):(eA M n)[k]? =some (M.map fun r=>r.getD k 0):=by rw[eA,aO,bY h];rfl
theorem EI(hC:Old C w)(F:Old S w)(hM:mb w C S v M)(hlen:fz n M)(W:n<=1000)(hR:M.length<=1000):
  eH PG GT.jx #[.agg #[v,iV n]] w (eR w fun v' Y=>∃vr,v'= .agg #[vr,iV M.length]/\dD Y (Nw S w Y) vr (eA M n)):=by
 have V:=bR w;obtain⟨am,cm,rfl,SB,Qr⟩:=mb.shape hM;unfold maxLen at Qr;refine mZ bv ?_
 refine⟨Nat×List Value×World×Iv,fun z=>⟨[(13,iN z.1),(1,pP 0 0),(2,pP 1 0),(3,pP 2 0),(12,iZ n)],[(2,.box T.eL [.w 3 z.2.1.length,.v (iV M.length)]),(3,.vec T.gF 1 z.2.1),(1,.box T.eL [.v nls,.v (iV 0)]),(0,.box T.eL [.v (.slice am M.length cm),.v (iV n)])],4,z.2.2.2,z.2.2.1⟩,fun z=>n-z.1,
  fun z=>z.1<=n/\Bq w z.2.2.1/\dZ z.2.2.1 (Cv S w.heap.size z.2.2.2) z.2.1 ((eA M n).take z.1),?_,?_⟩
 .intro O J r;exact⟨(0,[],J,[]),⟨aR _,V.tr r.cZ,by simp[dZ]⟩,Sub.EH 2 0 T.gF 1 rfl rfl (by simp[kK,SV.sc,At.sc,fc]) r fun In r1=>sbgn [] r1⟩
 rintro⟨k,rv,w1,iv⟩ ⟨K,V,hK⟩;dsimp only at K V hK ⊢;have PN:rv.length=k:=by rw[hK.1,ah,o7];omega
 apply bS<;>intro Ow
 .have Ow:=dL Ow;have WK:=NS (M:=M) Ow;have PL:(eA M n).take (k+1)=(eA M n).take k++[M.map fun r=>r.getD k 0]:=by rw[bB,WK];rfl
  refine⟨M.length,M.length,rfl,rfl,lr,be,be,Nat×Nat×World×Iv,fun z=>⟨[(5,.o (.v (.slice (some ⟨z.2.1,0,none⟩) M.length M.length))),(4,iN k),(13,iN k),(22,iZ M.length),(23,iN z.1),(1,pP 0 0),(2,pP 1 0),(3,pP 2 0),(12,iZ n)],[(2,.box T.eL [.w 3 rv.length,.v (iV M.length)]),(3,.vec T.gF 1 rv),(1,.box T.eL [.v nls,.v (iV 0)]),(0,.box T.eL [.v (.slice am M.length cm),.v (iV n)])],5,z.2.2.2,z.2.2.1⟩,fun z=>M.length-z.1,
   fun z=>z.1<=M.length/\Bq w z.2.2.1/\dZ z.2.2.1 (Bs S w.heap.size z.2.2.2 (.slice (some ⟨z.2.1,0,none⟩) M.length M.length)) rv ((eA M n).take k)/\je z.2.2.1 S w.heap.size z.2.2.2 (.slice (some ⟨z.2.1,0,none⟩) M.length M.length) M.length z.1 (M.map fun r=>r.getD k 0),?_,?_⟩
  .intro O J r;have hf:=je.pK (S:=S) (n:=M.length) r (id:=4) rfl mx (M.map fun r=>r.getD k 0)
   exact⟨(0,(O 4).g,J,((O 4).g,(O 4).g+1)::iv),⟨aR _,V.tr r.cZ,dZ.cP (hK.rel r F) fun g X=>⟨X.mono fun p hp=>aB _ hp,fun e=>Rel.not r F X 4 _ rfl (r.fits (id:=4) rfl).1 (by injection e)⟩,hf⟩,
    Sub.pK r (id:=4) (t:=5) rfl rfl ⟨rfl,rfl,rfl,rfl,trivial⟩ rfl ⟨rfl,rfl,rfl,rfl,rfl,rfl,rfl,rfl,trivial⟩ (by simp[kK,SV.sc,At.sc])⟩
  rintro⟨i,gx,Y,iv⟩ ⟨D,V,hK,hX⟩;dsimp only at D V hK hX ⊢;apply bS<;>intro Ou
  .have Ou:=dL Ou;obtain⟨x,U⟩:=gO M i;have QM:=hlen x (aC U);obtain⟨q,hq⟩:=gO x k;have RU:x.getD k 0=q:=by rw[List.getD,hq];rfl
   obtain⟨adm,um,S7,QZ,km1,km2⟩:=mb.load hM U;obtain⟨a0,c0,rfl,YS,-⟩:=dT.shape QZ;obtain⟨adq,Z,Ut,hF,_,hl⟩:=dT.load QZ hq;obtain⟨g0,g1,g2,g3,g4,g5,g6,g7,rfl,hF⟩:=hF;refine⟨adm,S7,be,.slice a0 x.length c0,rd1 km2 V (hC _ km1),adq,Ut,be,rC g0 g1 g2 g3 g4 g5 g6 g7,rfl,rdO hl V F,⟨gx,0,none⟩,rfl,be,?_⟩;intro O J r
   have Ry:cY Y (Bs S w.heap.size iv (.slice (some ⟨gx,0,none⟩) M.length M.length)) (.agg #[.bool g0,.slice g1 g2 g3,.bool g4,.slice g5 g6 g7]) q:=(hF.cR fun g X=>V.block g (F g X)).cP fun g X=>⟨.inl X,fun e=>by
    have I:=F g X;rcases hX.new g e with G|⟨G,_⟩
    .exact G
    .omega⟩
   obtain⟨g,X,I,G,h3,h4⟩:=hX.store (j:=i) Ou (by rw[aO,U,<-RU];rfl) Ry r F;injection X with X;injection X with X;subst X;refine⟨I,G,h3,fun w5 Qv=>?_⟩;obtain⟨k1,k2,k3,k4⟩:=h4 w5 Qv;have Pf:=(V.tr r.cZ).tr k3;have R1:=dZ.cR hK (Bs.kept r F k2 fun g e=>e);refine inc i ?_;intro I' w6 R;exact⟨(i+1,gx,w6,_),⟨Ou,Pf.tr R.cZ,dZ.cR R1 (Bs.same R F),k1.rel R F⟩,sbgn [] R,dec Ou⟩
  have Ou:=dE D Ou;rw[Ou]at hX;have hX2:=(hX.done bv).c;replace hK:=(dZ.cP hK fun g X=>X.1).push (u:=(.slice (some ⟨gx,0,none⟩) M.length M.length)) (x:=M.map fun r=>r.getD k 0) rfl hX2;rw[<-PL]at hK;refine .inl ?_;refine⟨bv,be,mx,((k+1:Nat):Int),wo,?_⟩;intro I' w3 R;exact⟨(k+1,rv++[(.slice (some ⟨gx,0,none⟩) M.length M.length)],w3,_),⟨Ow,V.tr R.cZ,hK.rel R F⟩,sbgn [(3,6)] R ⟨by dsimp only;rw[l1];rfl,rfl,rfl,rfl,trivial⟩,dec Ow⟩
 have Ow:=dE K Ow;rw[bH (by rw[o7];omega)]at hK;intro J8 we re;refine⟨_,rfl,V.tr re.cZ,_,rfl,rv,?_,hK.1,fun i u x k1 k2=>cX.cP (cX.rel (hK.2.2 i u x k1 k2) re F) fun g X=>Cv.nw X re⟩;rw[<-hK.1];exact(re.iD (id:=3) (sz:=1) (m:=rv.length) rfl bv mx bi hK.2.1).cP fun g X=>.inr X
end Go.Ex
