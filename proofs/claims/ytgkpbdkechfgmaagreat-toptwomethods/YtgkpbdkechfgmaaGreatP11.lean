/- Texts X134 to X137: lemmas, each with its conditions. -/
import Derived.Test.YtgkpbdkechfgmaaGreatP10
namespace Go.Ex
open Go Go.Sx Go.Proofs
variable{iv:Iv}{FS M:List (List Rat)}{Z:List (List Value)}{at_:List (Option Nat)}{fr ps pv:List Nat}{b qs r row u x y:List Rat}{W rv:List Value}{B c cols g h i id j n p:Nat}{C S S0:Nat->Prop}{O:Nat->Sx.dq}{a ax:Option Addr}{q:Rat}{v:Value}{w:World}{s:yB}
theorem MP{α:Type}(a b:α)(h:i<c):(List.replicate i a++List.replicate (c-i) b).take i++[a]++(List.replicate i a++List.replicate (c-i) b).drop (i+1)=List.replicate (i+1) a++List.replicate (c-(i+1)) b:=by
 rw[List.take_left' (bH ..),List.drop_append,bH,List.drop_of_length_le (by rw[bH];omega),List.nil_append,List.drop_replicate,List.replicate_succ'];congr 2;omega
def lI(w:World)(C S:Nat->Prop)(v:Value)(M:List (List Rat)):Prop:=∃rv,ie w C 1 v rv M.length/\rv.length=M.length/\∀(i:Nat) u x,rv[i]? =some u->M[i]? =some x->cS w S u x
theorem lI.shape(h:lI w C S v M):∃a c,v= .slice a M.length c/\M.length<=c/\M.length<=maxLen:=by
 obtain⟨rv,⟨h0,_,_,a,c,L,G,_⟩,_⟩:=h;exact⟨a,c,L,G,h0⟩
theorem lI.load{m:Nat}(h:lI w C S (.slice a m c) M)(hq:M[j]? =some x):
  ∃ad u,a=some ad/\cS w S u x/\C ad.block/\w.cell? (ad.add (j*1))=some u:=by
 obtain⟨rv,⟨h0,L,G,a',c',e,N,h4⟩,hl,hf⟩:=h;injection e with e1 e2 e3;subst e1;obtain⟨u,hu⟩:∃u,rv[j]? =some u:=⟨_,aA (by rw[hl];exact(aD.1 hq).1)⟩
 obtain⟨ad,k1,k2,k3⟩:=h4 j u hu;exact⟨ad,u,k1,hf j u x hu hq,k2,by rw[aV];exact k3⟩
def NM:Option Nat->Value
 |none=>.int .i64 (-1)
 |some j=>.int .i64 (j:Int)
structure EO(M:List (List Rat))(cols h:Nat):Prop where
 rows:∀i,i<=M.length->∀r∈(iO M cols i).1,∀q∈r,rl q+1<=h
 mP:∀i,i<M.length->∀k,k<=cols->∀q∈gB (iO M cols i).1 (iO M cols i).2.1 (M.getD i []) k,rl q+1<=h
theorem Ax{k:Nat}(h:at_[k]? =some (some j)):gB FS at_ row (k+1)=mW (gB FS at_ row k) (FS.getD j []) ((gB FS at_ row k).getD k 0):=by
 rw[gB,show at_.getD k none=some j by rw[List.getD,h];rfl]
theorem H6{k:Nat}(h:at_[k]? =some none):gB FS at_ row (k+1)=gB FS at_ row k:=by
 rw[gB,show at_.getD k none=none by rw[List.getD,h];rfl]
theorem MQ{α:Type}{l:List α}(a b:α)(h:j<l.length):(l++[a]).set j b=l.set j b++[a]:=by rw[List.set_append,if_pos h]
theorem H7(Qw:(FS,at_,fr)=iO M cols i)(F:M.getD i []=x)(hy:gB FS at_ x cols=y)(hp:tx y cols=cols):(FS,at_,fr)=iO M cols (i+1):=by
 rw[iO,<-Qw,F,kW];simp only[hy,hp,if_true]
theorem H8(Qw:(FS,at_,fr)=iO M cols i)(F:M.getD i []=x)(hy:gB FS at_ x cols=y)(hp:tx y cols=p)(Oe:p≠cols):
  iO M cols (i+1)=(gV FS (y.map (· / y.getD p 0)) p FS.length++[y.map (· / y.getD p 0)],at_.set p (some FS.length),fr++[i]):=by
 rw[iO,<-Qw,F,kW];simp only[hy,hp,aH Oe]
theorem MR(q:Rat)(y:List Rat):iJ y.length (fun _ r=>r / q) y=y.map (· / q):=by
 rw[rU];exact bF fun j=>by rw[List.getElem?_mapIdx,aL]
theorem H9(h:FS[i]? =some r)(h0:r.getD p 0=0):gV FS u p (i+1)=gV FS u p i:=by
 rw[zf h,h0,zd];refine bF fun j=>?_;by_cases hj:i=j
 ·subst hj;rw[aP (by rw[gF];exact(aD.1 h).1),FY h]
 ·rw[aS hj]
def ky(rv:List Value)(at_:List (Option Nat)):Nat->List Value
 |0=>[]
 |k+1=>match at_.getD k none with
  |some r=>ky rv at_ k++[rv.getD r (.bool false)]
  |none=>ky rv at_ k
theorem mq{k:Nat}(h:s.2.1[k]? =some none):dN s (k+1)=dN s k:=by
 rw[dN,show s.2.1.getD k none=none by rw[List.getD,h];rfl]
theorem mu{k r:Nat}(h:s.2.1[k]? =some (some r)):dN s (k+1)=((dN s k).1++[s.1.getD r []],(dN s k).2.1++[k],(dN s k).2.2++[s.2.2.getD r 0]):=by
 rw[dN,show s.2.1.getD k none=some r by rw[List.getD,h];rfl]
theorem tF{k:Nat}(h:at_[k]? =some none):ky rv at_ (k+1)=ky rv at_ k:=by
 rw[ky,show at_.getD k none=none by rw[List.getD,h];rfl]
theorem tG{k r:Nat}(h:at_[k]? =some (some r)):ky rv at_ (k+1)=ky rv at_ k++[rv.getD r (.bool false)]:=by
 rw[ky,show at_.getD k none=some r by rw[List.getD,h];rfl]
theorem ux(s:yB)(rv:List Value):∀k,k<=s.2.1.length->(dN s k).1.length=(dN s k).2.1.length/\(dN s k).2.2.length=(dN s k).2.1.length/\(ky rv s.2.1 k).length=(dN s k).2.1.length/\(dN s k).2.1.length<=k
 |0,_=>⟨rfl,rfl,rfl,Nat.le_refl _⟩
 |k+1,D=>by
  have ih:=ux s rv k (by omega);obtain⟨o,ho⟩:∃o,s.2.1[k]? =some o:=⟨_,aA (by omega)⟩
  cases o with
  |none=>rw[mq ho,tF ho];exact⟨ih.1,ih.2.1,ih.2.2.1,by have:=ih.2.2.2;omega⟩
  |some r=>rw[mu ho,tG ho];simp only[List.length_append,List.length_singleton];omega
theorem Ay{FS:List (List Rat)}{at_:List (Option Nat)}{fr:List Nat}{rv:List Value}(hl:rv.length=FS.length)(Ow:∀(k r:Nat),at_[k]? =some (some r)->r<FS.length):∀k,k<=at_.length->∀(i:Nat) u x,(ky rv at_ k)[i]? =some u->(dN (FS,at_,fr) k).1[i]? =some x->∃r:Nat,rv[r]? =some u/\FS[r]? =some x
 |0,_,i,u,x,h,_=>by cases h
 |k+1,D,i,u,x,L,G=>by
  have ih:=Ay (fr:=fr) hl Ow k (by omega) i u x;obtain⟨o,ho⟩:∃o,at_[k]? =some o:=⟨_,aA (by omega)⟩
  cases o with
  |none=>
   rw[tF ho]at L;rw[mq (s:=(FS,at_,fr)) ho]at G;exact ih L G
  |some r=>
   have hr:=Ow k r ho;rw[tG ho]at L;rw[mu (s:=(FS,at_,fr)) ho]at G;obtain⟨q1,q2,q3,q4⟩:=ux (FS,at_,fr) rv k (by dsimp only;omega);dsimp only at q1 q2 q3 q4 G;rcases aO i (ky rv at_ k).length with A|A
   ·rw[aI A]at L;rw[aI (by omega)]at G;exact ih L G
   ·have SR:i=(ky rv at_ k).length:=by have:=(aD.1 L).1;simp at this;omega
    rw[SR,aM (Nat.le_refl _),bJ]at L;rw[SR,q3,<-q1,aM (Nat.le_refl _),bJ]at G;simp only[List.getElem?_cons_zero,Option.some.injEq]at L G;refine⟨r,?_,?_⟩
    ·rw[<-L,List.getD,aA (by omega)];rfl
    ·rw[<-G,List.getD,aA hr];rfl
theorem GK{α:Type}(l:List α)(a b:α):(l++[a]).set l.length b=l++[b]:=by simp
section
variable{S S':Nat->Prop}{H:Hp}{nx:Nat}{iv K:Iv}{B:Nat}{w J V:World}{O:Nat->Sx.dq}{rv:List Value}{v:Value}{q:Rat}
theorem dA.GL(h:dA w (Lr S B iv rv) v q)(r:Rel H nx iv B w O J)(X:∀g,S g->g<B):dA J (Lr S B iv rv) v q:=h.cK fun _ Y=>Rel.same r X Y.1
theorem dA.OX(h:dA w (Lr S B iv rv) v q)(r:Rel H nx iv B w O J)(X:∀g,S g->g<B)(U:Ext J V)(hm:∀p,p∈iv->p∈K):dA V (Lr S B K rv) v q:=
 ((h.GL r X).cK fun g Y=>U.block g (Rel.old r X g Y.1)).cN fun _ Y=>⟨Y.1.mono hm,Y.2⟩
theorem Lr.old(r:Rel H nx iv B w O J)(X:∀g,S g->g<B):Old (Lr S B iv rv) J:=fun g Y=>Rel.old r X g Y.1
theorem dA.aBZ(h:dA V (Nf J V) v q)(hM:mE w S B iv rv n M)(r:Rel H nx iv B w O J):dA V (Lr S0 B ((J.heap.size,V.heap.size)::iv) rv) v q:=
 h.cN fun g Y=>by
  rcases Y with Y|Y
  ·exact Y.elim
  ·exact⟨.inr ⟨by have:=r.cI;omega,_,_,aF,Y.1,Y.2⟩,fun hm=>by have:=hM.lt r hm;omega⟩
end
set_option maxHeartbeats 2000000 in
theorem wW(hC:Old C w)(X:Old S w)(hM:lI w C S v M)(hlen:fZ n M)(hn0:0<n)(R:n<=1000)(hR:M.length<=1000)(Pp:cols<=n)(hB:EO M cols h)(hh:3*h<=90000):
  eI PG F'.fq #[.agg #[v,.int .i64 n],.int .i64 cols] w (eO w fun v' V=>∃vr vp vf,v'= .agg #[vr,.int .i64 n,vp,vf]/\cV V (Nw S w V) vr (dY M cols).1/\dO V (Nf w V) vp (dY M cols).2.1/\dO V (Nf w V) vf (dY M cols).2.2):=by
 have I:=bR w;obtain⟨am,cm,rfl,So,SC⟩:=lI.shape hM;unfold maxLen at SC;refine js (by simp) ?_
 refine⟨cols,cols,rfl,rfl,Nat.le_refl _,by omega,by omega,Nat×World,fun z=>⟨[(1,iZ cols),(2,pP 0 0),(4,pP 1 0),(5,pP 2 0),(6,.o (.s 3 0 cols cols)),(27,iZ cols),(28,iN z.1)],
   [(3,.arr T.int (List.replicate z.1 (.int .i64 (-1))++List.replicate (cols-z.1) (.int .i64 0))),(2,.box T.dX [.v (.slice none 0 0),.v (.int .i64 n),.v (.slice none 0 0),.v (.slice none 0 0)]),(1,.box T.dX [.v (.slice none 0 0),.v (.int .i64 0),.v (.slice none 0 0),.v (.slice none 0 0)]),(0,.box T.dy [.v (.slice am M.length cm),.v (.int .i64 n)])],4,[],z.2⟩,fun z=>cols-z.1,
  fun z=>z.1<=cols/\dw w.heap.size w z.2,?_,?_⟩
 ·intro O J r;exact⟨(0,J),⟨aQ _,I.tr r.cU⟩,Sub.gn [] r ⟨by simp;rfl,rfl,rfl,rfl,trivial⟩⟩
 rintro⟨i,w1⟩ ⟨A,I⟩;dsimp only at A I ⊢;refine dQ.mk ?_ ?_<;>intro OZ
 ·have OZ:i<cols:=by simpa using OZ
  refine⟨by omega,by simp;omega,List.replicate (i+1) (.int .i64 (-1))++List.replicate (cols-(i+1)) (.int .i64 0),?_,?_⟩
  ·rw[aE,aV,aT];exact MP _ _ OZ
  refine⟨((i+1:Nat):Int),wo,?_⟩;intro GT w3 E;exact⟨(i+1,w3),⟨OZ,I.tr E.cU⟩,Sub.gn [] E,by dsimp only;omega⟩
 have OZ:i=cols:=aR A (by simpa using OZ);rw[OZ]
 refine⟨Nat×List Value×List (List Rat)×List (Option Nat)×List Nat×World×Iv,fun z=>⟨[(38,iN z.1),(1,iZ cols),(2,pP 0 0),(4,pP 1 0),(5,pP 2 0),(6,.o (.s 3 0 cols cols)),(36,sV am M.length cm),(37,iZ M.length)],[(2,.box T.dX [.w 4 z.2.1.length,.v (.int .i64 n),.v (.slice none 0 0),.w 5 z.2.2.2.2.1.length]),(5,.vec T.int 1 (z.2.2.2.2.1.map fun c:Nat=>.int .i64 (c:Int))),(4,.vec T.iB 1 z.2.1),(0,.box T.dy [.v (.slice am M.length cm),.v (.int .i64 n)]),(1,.box T.dX [.v (.slice none 0 0),.v (.int .i64 0),.v (.slice none 0 0),.v (.slice none 0 0)]),(3,.arr T.int (z.2.2.2.1.map NM))],6,z.2.2.2.2.2.2,z.2.2.2.2.2.1⟩,fun z=>M.length-z.1,
  fun z=>z.1<=M.length/\(z.2.2.1,z.2.2.2.1,z.2.2.2.2.1)=iO M cols z.1/\dw w.heap.size w z.2.2.2.2.2.1/\mE z.2.2.2.2.2.1 S w.heap.size z.2.2.2.2.2.2 z.2.1 n z.2.2.1,?_,?_⟩
 ·intro O J r
  exact⟨(0,[],[],List.replicate cols none,[],J,[]),⟨aQ _,rfl,I.tr r.cU,mE.nil⟩,Sub.EN 2 0 T.iB 1 rfl rfl (by simp[jw,SV.sc,At.sc]) r fun Id r1=>Sub.EN 2 3 T.int 1 rfl rfl (by simp[jw,SV.sc,At.sc]) r1 fun GE r2=>
   Sub.gn [] r2 ⟨rfl,rfl,rfl,rfl,rfl,by simp[NM];rfl,trivial⟩⟩
 rintro⟨i,rv,FS,at_,fr,w1,iv⟩ ⟨A,Qw,I,hE⟩;dsimp only at A Qw I hE ⊢;have Of:=zg cols hlen i A;rw[<-Qw]at Of;have hatl:at_.length=cols:=Of.at_;have hfrl:fr.length=FS.length:=Of.vP;have hEi:FS.length<=i:=Of.le;have Po:rv.length=FS.length:=hE.len;have hEb:∀r∈FS,∀q∈r,rl q+1<=h:=by have:=hB.rows i A;rwa [<-Qw]at this
 refine dQ.mk ?_ ?_<;>intro OZ
 ·have OZ:i<M.length:=by simpa using OZ
  obtain⟨x,F⟩:∃r,M[i]? =some r:=⟨_,aA OZ⟩
  have QJ:=hlen x (aC F);have VM:M.getD i []=x:=by rw[List.getD,F];rfl
  have Q3:∀k,k<=cols->∀q∈gB FS at_ x k,rl q+1<=h:=by have:=hB.mP i OZ;rwa [<-Qw,VM]at this
  have hcll:∀k,(gB FS at_ x k).length=n:=fun k=>by rw[iU,QJ]
  obtain⟨adm,um,Rn,Pj,km1,km2⟩:=lI.load hM F;obtain⟨Z,⟨-,g1,g2,a0,c0,rfl,g4,g5⟩,Pu,UN,PS⟩:=Pj;have PL:=ef UN;refine⟨adm,Rn,by omega,.slice a0 x.length c0,rd1 km2 I (hC _ km1),?_⟩;refine .inl ?_;refine⟨Z.flatten,g1,g2,fun O J r QI=>?_,?_⟩
  ·obtain⟨u0,hu0⟩:∃u,Z.flatten[0]? =some u:=⟨_,aA (by omega)⟩
   obtain⟨ad,ha,_,_⟩:=g5 0 u0 hu0;refine⟨ad,ha,fun j u hj=>?_⟩;obtain⟨ad2,RV,q1,q2⟩:=g5 j u hj;rw[ha]at RV;injection RV with RV;subst RV;rw[cL (w:=w) (V:=J) (by rw[dF];exact(I.tr r.cU).block _ (X _ q1))];exact q2
  refine⟨rfl,by omega,by unfold maxLen;omega,?_⟩;rw[aT x.length,QJ]
  refine⟨Nat×Nat×Nat×World×Iv,fun z=>⟨[(9,.o (.v (.slice (some ⟨z.2.1,0,none⟩) n z.2.2.1))),(46,iZ cols),(47,iN z.1),(2,pP 0 0),(4,pP 1 0),(5,pP 2 0),(6,.o (.s 3 0 cols cols)),(8,iN i),(36,sV am M.length cm),(37,iZ M.length),(38,iN i),(1,iZ cols)],[(2,.box T.dX [.w 4 rv.length,.v (.int .i64 n),.v (.slice none 0 0),.w 5 fr.length]),(5,.vec T.int 1 (fr.map fun c:Nat=>.int .i64 (c:Int))),(4,.vec T.iB 1 rv),(0,.box T.dy [.v (.slice am M.length cm),.v (.int .i64 n)]),(1,.box T.dX [.v (.slice none 0 0),.v (.int .i64 0),.v (.slice none 0 0),.v (.slice none 0 0)]),(3,.arr T.int (at_.map NM))],8,z.2.2.2.2,z.2.2.2.1⟩,fun z=>cols-z.1,
   fun z=>z.1<=cols/\dw w.heap.size w z.2.2.2.1/\mE z.2.2.2.1 S w.heap.size z.2.2.2.2 (rv++[.slice (some ⟨z.2.1,0,none⟩) n z.2.2.1]) n (FS++[gB FS at_ x z.1]),?_,?_⟩
  ·intro O J r;have hv:=aBY (S:=S) (m:=n) (qs:=x) (Z:=Z) r (id:=7) rfl (by omega) hn0 (by unfold maxLen;omega) ⟨Pu,fun j W q k1 k2=>(PS j W q k1 k2).cK fun g Y=>(I.tr r.cU).block g (X g Y)⟩
   exact⟨(0,(O 7).g,(O 7).cap,J,((O 7).g,(O 7).g+1)::iv),⟨aQ _,I.tr r.cU,(hE.rel r X).push (fun g Y e=>Rel.not r X Y 7 _ rfl hv.1 e.symm) hv.2.1 hv.2.2.2 X⟩,
    Sub.aBF r (id:=7) (t:=9) (W:=Z.flatten) rfl hv.1 rfl ⟨rfl,rfl,rfl,rfl,rfl,rfl,trivial⟩ rfl ⟨rfl,rfl,rfl,rfl,rfl,rfl,rfl,rfl,rfl,rfl,rfl,trivial⟩ (by simp[jw,SV.sc,At.sc])⟩
  rintro⟨k,gx,cx,V,iv⟩ ⟨D,I,hE⟩;dsimp only at D I hE ⊢;refine dQ.mk ?_ ?_<;>intro Oj
  ·have Oj:k<cols:=by simpa using Oj
   obtain⟨o,ho⟩:∃o,at_[k]? =some o:=⟨_,aA (by omega)⟩
   refine⟨by omega,NM o,by rw[aE,aV,aT,aL,ho];rfl,?_⟩
   cases o with
   |none=>
    refine⟨((k+1:Nat):Int),wo,?_⟩;intro GT w3 E;exact⟨(k+1,gx,cx,w3,_),⟨Oj,I.tr E.cU,by dsimp only;rw[H6 ho];exact hE.rel E X⟩,Sub.gn [] E,by dsimp only;omega⟩
   |some j=>
    have hj:j<FS.length:=Of.lt k j ho;have hq:∃q,(gB FS at_ x k)[k]? =some q:=⟨_,aA (by rw[hcll];omega)⟩
    obtain⟨q,hq⟩:=hq;have VE:(gB FS at_ x k).getD k 0=q:=by rw[List.getD,hq];rfl
    have SZ:=Q3 k D q (aC hq);have VF:(rv++[.slice (some ⟨gx,0,none⟩) n cx])[rv.length]? =some (.slice (some ⟨gx,0,none⟩) n cx):=by simp
    have Se:(FS++[gB FS at_ x k])[rv.length]? =some (gB FS at_ x k):=by rw[Po];simp
    obtain⟨ad,W,PI,hF,hl⟩:=hE.load VF Se hq;obtain⟨f0,f1,f2,f3,f4,f5,f6,f7,rfl,hF⟩:=hF;refine⟨ad,PI,by omega,[.bool f0,.slice f1 f2 f3,.bool f4,.slice f5 f6 f7],rfl,fun O J r t u hu=>?_,?_⟩
    ·obtain⟨k1,k2⟩:=hl t u hu;rw[aE,cL (w:=V) (V:=J) (by rw[dF,dF];exact Rel.same r (gY _) k1)];exact k2
    refine cJ (cE I (fun _ J v V=>∃d,v= .bool d/\(d=true↔q=0)) (fun O J r=>rT (Lr.old r X) ((hF.GL r X).l (by omega))) ?_);rintro O _ _ QT Oo r U I h_ ⟨d,rfl,hz⟩;replace hE:=hE.cM r X U (mC h_);replace hF:=hF.OX r X U (mC h_)
    cases d
    ·have VW:q≠0:=fun e=>by have:=hz.2 e;cases this
     obtain⟨vj,TP⟩:∃v,rv[j]? =some v:=⟨_,aA (by omega)⟩
     have Tw:(rv++[.slice (some ⟨gx,0,none⟩) n cx])[j]? =some vj:=by rw[aI (by omega)];exact TP
     obtain⟨ej,Vc⟩:∃v,FS[j]? =some v:=⟨_,aA hj⟩
     have Vd:(FS++[gB FS at_ x k])[j]? =some ej:=by rw[aI hj];exact Vc
     have hejd:FS.getD j []=ej:=by rw[List.getD,Vc];rfl
     obtain⟨aj,cj,rfl⟩:=hE.form Tw;obtain⟨ad,W,PI,hF,hl⟩:=hE.load VF Se hq;obtain⟨f0,f1,f2,f3,f4,f5,f6,f7,rfl,hF⟩:=hF;refine cR hτ dx [.x 0,.x 1,.x 2,.x 3,.x 4,.x 5,.x 6,.x 7,.x 8,.x 9,.x 10,.x 11] (by kernel_rfl) (by kernel_rfl) ?_;refine⟨by simp,by omega,.slice aj n cj,by simpa using TP,ad,PI,by omega,[.bool f0,.slice f1 f2 f3,.bool f4,.slice f5 f6 f7],rfl,fun O J r t u hu=>?_,?_⟩
     ·obtain⟨k1,k2⟩:=hl t u hu;rw[aE,cL (w:=QT) (V:=J) (by rw[dF,dF];exact Rel.same r (gY _) k1)];exact k2
     refine⟨fun O J r=>?_⟩;refine(hE.EI r X (i:=rv.length) (j:=j) (h:=h) (by omega) VF Tw Se Vd (hF.l (by omega)) (fun y hy=>Q3 k D y hy) (fun y hy=>hEb ej (aC Vc) y hy) SZ hh).mono fun e w8 U=>?_;obtain⟨rfl,PC,Tc,PM⟩:=U;have PE:=(I.tr r.cU).tr (hE.cU r PC Tc);refine⟨.tuple #[],_,(J.heap.size,w8.heap.size)::Oo,rfl,r.qn (fun x F=>Rel.not r (gY _) (hE.new x (Tc x F))) PC,?_⟩;have Ou:(FS++[gB FS at_ x k]).set rv.length (mW (gB FS at_ x k) ej q)=FS++[gB FS at_ x (k+1)]:=by rw[Po,GK,Ax ho,hejd,VE]
     rw[Ou]at PM;generalize (J.heap.size,w8.heap.size)::Oo=Uk at*
     refine⟨((k+1:Nat):Int),wo,?_⟩;intro GT w3 E;exact⟨(k+1,gx,cx,w3,_),⟨Oj,PE.tr E.cU,PM.rel E X⟩,Sub.gn [] E,by dsimp only;omega⟩
    ·have VW:q=0:=hz.1 rfl;refine⟨((k+1:Nat):Int),wo,?_⟩;intro GT w3 E;exact⟨(k+1,gx,cx,w3,_),⟨Oj,I.tr E.cU,by dsimp only;rw[Ax ho,VE,VW,zd];exact hE.rel E X⟩,Sub.gn [] E,by dsimp only;omega⟩
  have Oj:k=cols:=aR D (by simpa using Oj);rw[Oj]at hE;obtain⟨y,hy⟩:∃y,gB FS at_ x cols=y:=⟨_,rfl⟩
  have hyl:y.length=n:=by rw[<-hy];exact hcll cols
  have WH:∀q∈y,rl q+1<=h:=by rw[<-hy];exact Q3 cols (Nat.le_refl _)
  rw[hy]at hE;have VF:(rv++[.slice (some ⟨gx,0,none⟩) n cx])[rv.length]? =some (.slice (some ⟨gx,0,none⟩) n cx):=by simp
  refine⟨Nat×World×Iv,fun z=>⟨[(9,.o (.v (.slice (some ⟨gx,0,none⟩) n cx))),(12,iN z.1),(2,pP 0 0),(4,pP 1 0),(5,pP 2 0),(6,.o (.s 3 0 cols cols)),(8,iN i),(36,sV am M.length cm),(37,iZ M.length),(38,iN i),(1,iZ cols)],[(2,.box T.dX [.w 4 rv.length,.v (.int .i64 n),.v (.slice none 0 0),.w 5 fr.length]),(5,.vec T.int 1 (fr.map fun c:Nat=>.int .i64 (c:Int))),(4,.vec T.iB 1 rv),(0,.box T.dy [.v (.slice am M.length cm),.v (.int .i64 n)]),(1,.box T.dX [.v (.slice none 0 0),.v (.int .i64 0),.v (.slice none 0 0),.v (.slice none 0 0)]),(3,.arr T.int (at_.map NM))],8,z.2.2,z.2.1⟩,fun z=>cols-z.1,
   fun z=>z.1<=cols/\(∀t,t<z.1->y.getD t 0=0)/\dw w.heap.size w z.2.1/\mE z.2.1 S w.heap.size z.2.2 (rv++[.slice (some ⟨gx,0,none⟩) n cx]) n (FS++[y]),?_,?_⟩
  ·intro O J E;exact⟨(0,J,_),⟨aQ _,fun t ht=>absurd ht (Nat.not_lt_zero t),I.tr E.cU,hE.rel E X⟩,Sub.gn [] E⟩
  rintro⟨pv,w3,iv⟩ ⟨hp,WL,I,hE⟩;dsimp only at hp WL I hE ⊢;have Se:(FS++[y])[rv.length]? =some y:=by rw[Po];simp
  refine dQ.mk ?_ ?_<;>intro Td
  ·have Td:pv<cols:=by simpa using Td
   obtain⟨q,hq⟩:∃q,y[pv]? =some q:=⟨_,aA (by omega)⟩
   have VE:y.getD pv 0=q:=by rw[List.getD,hq];rfl
   have SZ:=WH q (aC hq);obtain⟨ad,W,PI,hF,hl⟩:=hE.load VF Se hq;obtain⟨f0,f1,f2,f3,f4,f5,f6,f7,rfl,hF⟩:=hF;refine⟨ad,PI,by omega,[.bool f0,.slice f1 f2 f3,.bool f4,.slice f5 f6 f7],rfl,fun O J r t u hu=>?_,?_⟩
   ·obtain⟨k1,k2⟩:=hl t u hu;rw[aE,cL (w:=w3) (V:=J) (by rw[dF,dF];exact Rel.same r (gY _) k1)];exact k2
   refine cJ (cE I (fun _ J v V=>∃d,v= .bool d/\(d=true↔q=0)) (fun O J r=>rT (Lr.old r X) ((hF.GL r X).l (by omega))) ?_);rintro O _ _ Pt Od r U I h_ ⟨d,rfl,hz⟩;replace hE:=hE.cM r X U (mC h_)
   cases d
   ·have VW:q≠0:=fun e=>by have:=hz.2 e;cases this
    refine dQ.mk ?_ ?_<;>intro U
    ·have U:(pv:Int)=cols:=by simpa using U
     omega
    have Ub:tx y cols=pv:=IV WL hp fun _=>by rw[VE];exact VW
    have Sf:=H8 Qw VM hy Ub (by omega);rw[VE]at Sf;obtain⟨u,hu⟩:∃u,y.map (· / q)=u:=⟨_,rfl⟩
    rw[hu]at Sf;have hul:u.length=n:=by rw[<-hu,aJ,hyl]
    have hub:∀q∈u,rl q+1<=h:=by
     have:=hB.rows (i+1) OZ u (by rw[Sf];simp);exact this
    obtain⟨ad,W,PI,hF,hl⟩:=hE.load VF Se hq;obtain⟨f0,f1,f2,f3,f4,f5,f6,f7,rfl,hF⟩:=hF;refine⟨ad,PI,by omega,[.bool f0,.slice f1 f2 f3,.bool f4,.slice f5 f6 f7],rfl,fun O J r t u hu=>?_,?_⟩
    ·obtain⟨k1,k2⟩:=hl t u hu;rw[aE,cL (w:=Pt) (V:=J) (by rw[dF,dF];exact Rel.same r (gY _) k1)];exact k2
    refine⟨Nat×World×Iv,fun z=>⟨[(9,.o (.v (.slice (some ⟨gx,0,none⟩) n cx))),(12,iN pv),(13,pP 8 0),(97,iZ n),(98,iN z.1),(2,pP 0 0),(4,pP 1 0),(5,pP 2 0),(6,.o (.s 3 0 cols cols)),(8,iN i),(36,sV am M.length cm),(37,iZ M.length),(38,iN i),(1,iZ cols)],[(8,.box T.Rat [.v (.bool f0),.v (.slice f1 f2 f3),.v (.bool f4),.v (.slice f5 f6 f7)]),(2,.box T.dX [.w 4 rv.length,.v (.int .i64 n),.v (.slice none 0 0),.w 5 fr.length]),(5,.vec T.int 1 (fr.map fun c:Nat=>.int .i64 (c:Int))),(4,.vec T.iB 1 rv),(0,.box T.dy [.v (.slice am M.length cm),.v (.int .i64 n)]),(1,.box T.dX [.v (.slice none 0 0),.v (.int .i64 0),.v (.slice none 0 0),.v (.slice none 0 0)]),(3,.arr T.int (at_.map NM))],9,z.2.2,z.2.1⟩,fun z=>n-z.1,
     fun z=>z.1<=n/\dw w.heap.size w z.2.1/\mE z.2.1 S w.heap.size z.2.2 (rv++[.slice (some ⟨gx,0,none⟩) n cx]) n (FS++[iJ z.1 (fun _ r=>r / q) y])/\dA z.2.1 (Lr S w.heap.size z.2.2 (rv++[.slice (some ⟨gx,0,none⟩) n cx])) (.agg #[.bool f0,.slice f1 f2 f3,.bool f4,.slice f5 f6 f7]) q,?_,?_⟩
    ·intro O J E;exact⟨(0,J,_),⟨aQ _,I.tr E.cU,by dsimp only;rw[oz];exact hE.rel E X,hF.GL E X⟩,Sub.gn [] E⟩
    rintro⟨k,w4,iv⟩ ⟨D,I,hE,hF⟩;dsimp only at D I hE hF ⊢;have Se:(FS++[iJ k (fun _ r=>r / q) y])[rv.length]? =some (iJ k (fun _ r=>r / q) y):=by rw[Po];simp
    refine dQ.mk ?_ ?_<;>intro Oj
    ·have Oj:k<n:=by simpa using Oj
     obtain⟨t,ht⟩:∃q,y[k]? =some q:=⟨_,aA (by omega)⟩
     have St:=WH t (aC ht);obtain⟨ad,W,PI,hG,hl⟩:=hE.load VF Se (uv ht);obtain⟨g0,g1,g2,g3,g4,g5,g6,g7,rfl,hG⟩:=hG;refine cR hτ dx [.x 0,.x 1,.x 2,.x 3,.x 4,.x 5,.x 6,.x 7,.x 8,.x 9] (by kernel_rfl) (by kernel_rfl) ?_;refine⟨ad,PI,by omega,[.bool g0,.slice g1 g2 g3,.bool g4,.slice g5 g6 g7],rfl,fun O J r t u hu=>?_,?_⟩
     ·obtain⟨k1,k2⟩:=hl t u hu;rw[aE,cL (w:=w4) (V:=J) (by rw[dF,dF];exact Rel.same r (gY _) k1)];exact k2
     refine cO (If:=fun _ J v V=>dA V (Nf J V) v (t / q)) (fun O J r=>aAb (Lr.old r X) ((hG.GL r X).l (by omega)) ((hF.GL r X).l (by omega)) VW) ?_;rintro O QF v3 Pw r U hb Ri;replace I:=I.tr hb;have hd:=Ri.aBZ (S0:=S) hE r;replace hE:=hE.cM (K:=(QF.heap.size,Pw.heap.size)::iv) r X U fun x F=>aB _ F;replace hF:=hF.OX (K:=(QF.heap.size,Pw.heap.size)::iv) r X U fun x F=>aB _ F;generalize (QF.heap.size,Pw.heap.size)::iv=Oq at*
     obtain⟨A0,A1,A2,A3,A4,A5,A6,A7,rfl⟩:=hd.shape;refine⟨⟨gx,0,none⟩,rfl,by omega,?_⟩;intro O J r;obtain⟨g,Y,L,G,N,h4⟩:=hE.store r X VF Se Oj hd;injection Y with Y;injection Y with Y;subst Y;refine⟨L,G,N,fun w5 RY=>?_⟩;obtain⟨k1,k2,k3,k4⟩:=h4 w5 RY;have PE:=(I.tr r.cU).tr k2;have TC:=hF.cK k4;have Ou:(FS++[iJ k (fun _ r=>r / q) y]).set rv.length ((iJ k (fun _ r=>r / q) y).set k (t / q))=FS++[iJ (k+1) (fun _ r=>r / q) y]:=by rw[Po,GK,<-mD ht]
     rw[Ou]at k1;refine⟨((k+1:Nat):Int),wo,?_⟩;intro GT w6 E;exact⟨(k+1,w6,_),⟨Oj,PE.tr E.cU,k1.rel E X,TC.GL E X⟩,Sub.gn [] E,by dsimp only;omega⟩
    have Oj:k=n:=aR D (by simpa using Oj);rw[Oj,<-hyl,MR,hu,hyl]at hE
    refine⟨by simp,Nat×World×Iv,fun z=>⟨[(9,.o (.v (.slice (some ⟨gx,0,none⟩) n cx))),(12,iN pv),(113,.o (.w 4 rv.length)),(114,iZ rv.length),(115,iN z.1),(2,pP 0 0),(4,pP 1 0),(5,pP 2 0),(6,.o (.s 3 0 cols cols)),(8,iN i),(36,sV am M.length cm),(37,iZ M.length),(38,iN i),(1,iZ cols)],[(2,.box T.dX [.w 4 rv.length,.v (.int .i64 n),.v (.slice none 0 0),.w 5 fr.length]),(5,.vec T.int 1 (fr.map fun c:Nat=>.int .i64 (c:Int))),(4,.vec T.iB 1 rv),(0,.box T.dy [.v (.slice am M.length cm),.v (.int .i64 n)]),(1,.box T.dX [.v (.slice none 0 0),.v (.int .i64 0),.v (.slice none 0 0),.v (.slice none 0 0)]),(3,.arr T.int (at_.map NM))],9,z.2.2,z.2.1⟩,fun z=>rv.length-z.1,
     fun z=>z.1<=rv.length/\dw w.heap.size w z.2.1/\mE z.2.1 S w.heap.size z.2.2 (rv++[.slice (some ⟨gx,0,none⟩) n cx]) n (gV FS u pv z.1++[u]),?_,?_⟩
    ·intro O J E;exact⟨(0,J,_),⟨aQ _,I.tr E.cU,by dsimp only;rw[HK];exact hE.rel E X⟩,Sub.gn [] E⟩
    rintro⟨j,w5,iv⟩ ⟨hj,I,hE⟩;dsimp only at hj I hE ⊢;refine dQ.mk ?_ ?_<;>intro Pz
    ·have Pz:j<rv.length:=by simpa using Pz
     obtain⟨ej,Vc⟩:∃v,FS[j]? =some v:=⟨_,aA (by omega)⟩
     have Sg:ej.length=n:=Of.len ej (aC Vc);have heb:=hEb ej (aC Vc);obtain⟨vj,TP⟩:∃v,rv[j]? =some v:=⟨_,aA Pz⟩
     have Tw:(rv++[.slice (some ⟨gx,0,none⟩) n cx])[j]? =some vj:=by rw[aI Pz];exact TP
     have Vd:(gV FS u pv j++[u])[j]? =some ej:=by rw[aI (by rw[gF];omega)];exact FY Vc
     have hur:(gV FS u pv j++[u])[rv.length]? =some u:=by rw[Po,<-gF FS u pv j];simp
     obtain⟨t,ht⟩:∃q,ej[pv]? =some q:=⟨_,aA (by omega)⟩
     have htd:ej.getD pv 0=t:=by rw[List.getD,ht];rfl
     have St:=heb t (aC ht);obtain⟨aj,cj,rfl⟩:=hE.form Tw;obtain⟨ad,W,PI,hG,hl⟩:=hE.load Tw Vd ht;obtain⟨g0,g1,g2,g3,g4,g5,g6,g7,rfl,hG⟩:=hG;refine⟨by simp,by omega,.slice aj n cj,by simpa using TP,ad,PI,by omega,[.bool g0,.slice g1 g2 g3,.bool g4,.slice g5 g6 g7],rfl,fun O J r t u hu=>?_,?_⟩
     ·obtain⟨k1,k2⟩:=hl t u hu;rw[aE,cL (w:=w5) (V:=J) (by rw[dF,dF];exact Rel.same r (gY _) k1)];exact k2
     refine cJ (cE I (fun _ J v V=>∃d,v= .bool d/\(d=true↔t=0)) (fun O J r=>rT (Lr.old r X) ((hG.GL r X).l (by omega))) ?_);rintro O _ _ QX Ox r U I h_ ⟨d,rfl,hz⟩;replace hE:=hE.cM r X U (mC h_)
     cases d
     ·have ht0:t≠0:=fun e=>by have:=hz.2 e;cases this
      obtain⟨ad,W,PI,hG,hl⟩:=hE.load Tw Vd ht;obtain⟨g0,g1,g2,g3,g4,g5,g6,g7,rfl,hG⟩:=hG;refine⟨ad,PI,by omega,[.bool g0,.slice g1 g2 g3,.bool g4,.slice g5 g6 g7],rfl,fun O J r t u hu=>?_,?_⟩
      ·obtain⟨k1,k2⟩:=hl t u hu;rw[aE,cL (w:=QX) (V:=J) (by rw[dF,dF];exact Rel.same r (gY _) k1)];exact k2
      refine⟨fun O J r=>?_⟩;refine(hE.EI r X (i:=j) (j:=rv.length) (h:=h) (by omega) Tw VF Vd hur (hG.l (by omega)) heb hub St hh).mono fun e w8 U=>?_;obtain⟨rfl,PC,Tc,PM⟩:=U;have PE:=(I.tr r.cU).tr (hE.cU r PC Tc);refine⟨.tuple #[],_,(J.heap.size,w8.heap.size)::Ox,rfl,r.qn (fun x F=>Rel.not r (gY _) (hE.new x (Tc x F))) PC,?_⟩;have Ou:(gV FS u pv j++[u]).set j (mW ej u t)=gV FS u pv (j+1)++[u]:=by rw[MQ _ _ (by rw[gF];omega),zf Vc,htd]
      rw[Ou]at PM;generalize (J.heap.size,w8.heap.size)::Ox=Uk at*
      refine⟨((j+1:Nat):Int),wo,?_⟩;intro GT w6 E;exact⟨(j+1,w6,_),⟨Pz,PE.tr E.cU,PM.rel E X⟩,Sub.gn [] E,by dsimp only;omega⟩
     ·have ht0:t=0:=hz.1 rfl;refine⟨((j+1:Nat):Int),wo,?_⟩;intro GT w6 E;exact⟨(j+1,w6,_),⟨Pz,I.tr E.cU,by dsimp only;rw[H9 Vc (by rw[htd,ht0])];exact hE.rel E X⟩,Sub.gn [] E,by dsimp only;omega⟩
    have Pz:j=FS.length:=by have:=aR hj (by simpa using Pz);omega
    rw[Pz]at hE;refine⟨by simp,by omega,by simp;omega,(at_.set pv (some rv.length)).map NM,?_,?_⟩
    ·rw[aE,aV,aT,List.map_set];exact kV (by simp;omega)
    refine jQ hτ dx (.x 0 (.x 1 (.x 3 (.x 6 (.x 8 (.ld 2 64544 (.ld 7 64512 (.two 4 (.two 5 (.x 11 (.x 12 (.x 9 (.x 10 (.x 13 (.x 14 (.x 15 .nil))))))) 9 (.x 5 (.x 11 (.x 12 (.x 10 (.x 13 (.x 14 (.x 15 .nil)))))))) 9 (.x 4 (.x 5 (.x 11 (.x 12 (.x 10 (.x 13 (.x 14 (.x 15 .nil)))))))))))))))) (by kernel_rfl) (by kernel_rfl) ?_;refine⟨?_,?_⟩
    ·refine⟨rfl,rfl,?_,?_⟩
     ·refine .inl ?_;refine⟨by simp,by omega,by unfold maxLen;omega,rfl,rfl,?_⟩;refine .inl ?_;refine⟨by simp,by omega,by unfold maxLen;omega,((i+1:Nat):Int),wo,?_⟩;intro GT w6 E;exact⟨(i+1,rv++[.slice (some ⟨gx,0,none⟩) n cx],gV FS u pv FS.length++[u],at_.set pv (some FS.length),fr++[i],w6,_),⟨OZ,Sf.symm,I.tr E.cU,hE.rel E X⟩,Sub.gn [(4,10),(5,12)] E ⟨by dsimp only;rw[List.length_append,List.length_append,List.length_singleton,List.length_singleton];rfl,by dsimp only;rw[List.map_append];rfl,rfl,rfl,rfl,by dsimp only;rw[<-Po];rfl,trivial⟩,by dsimp only;omega⟩
     ·refine⟨rfl,rfl,?_⟩;refine .inl ?_;refine⟨by simp,by omega,by unfold maxLen;omega,rfl,?_⟩;refine .inl ?_;refine⟨by simp,by omega,by unfold maxLen;omega,((i+1:Nat):Int),wo,?_⟩;intro GT w6 E;exact⟨(i+1,rv++[.slice (some ⟨gx,0,none⟩) n cx],gV FS u pv FS.length++[u],at_.set pv (some FS.length),fr++[i],w6,_),⟨OZ,Sf.symm,I.tr E.cU,hE.rel E X⟩,Sub.gn [(4,11),(5,12)] E ⟨by dsimp only;rw[List.length_append,List.length_append,List.length_singleton,List.length_singleton];rfl,by dsimp only;rw[List.map_append];rfl,rfl,rfl,rfl,by dsimp only;rw[<-Po];rfl,trivial⟩,by dsimp only;omega⟩
    ·refine⟨rfl,rfl,rfl,rfl,?_⟩;refine .inl ?_;refine⟨by simp,by omega,by unfold maxLen;omega,rfl,?_⟩;refine .inl ?_;refine⟨by simp,by omega,by unfold maxLen;omega,((i+1:Nat):Int),wo,?_⟩;intro GT w6 E;exact⟨(i+1,rv++[.slice (some ⟨gx,0,none⟩) n cx],gV FS u pv FS.length++[u],at_.set pv (some FS.length),fr++[i],w6,_),⟨OZ,Sf.symm,I.tr E.cU,hE.rel E X⟩,Sub.gn [(4,11),(5,12)] E ⟨by dsimp only;rw[List.length_append,List.length_append,List.length_singleton,List.length_singleton];rfl,by dsimp only;rw[List.map_append];rfl,rfl,rfl,rfl,by dsimp only;rw[<-Po];rfl,trivial⟩,by dsimp only;omega⟩
   ·have VW:q=0:=hz.1 rfl;refine⟨((pv+1:Nat):Int),wo,?_⟩;intro GT w4 E
    exact⟨(pv+1,w4,_),⟨Td,fun t ht=>by
     by_cases htp:t=pv
     ·rw[htp,VE,VW]
     ·exact WL t (by dsimp only at ht;omega),I.tr E.cU,hE.rel E X⟩,Sub.gn [] E,by dsimp only;omega⟩
  have Td:pv=cols:=aR hp (by simpa using Td);have Ub:tx y cols=cols:=IV (k:=cols) (fun t ht=>WL t (by omega)) (Nat.le_refl _) (fun h=>absurd h (Nat.lt_irrefl _));have hskip:=H7 Qw VM hy Ub;refine dQ.mk (fun U=>?_) (fun U=>by rw[Td]at U;simp at U);refine⟨((i+1:Nat):Int),wo,?_⟩;intro GT w4 E;exact⟨(i+1,rv,FS,at_,fr,w4,_),⟨OZ,hskip,I.tr E.cU,hE.drop.rel E X⟩,Sub.gn [] E,by dsimp only;omega⟩
 have OZ:i=M.length:=aR A (by simpa using OZ);subst OZ;have hredS:dY M cols=dN (FS,at_,fr) cols:=by rw[dY,<-Qw]
 have Ow:∀(k r:Nat),at_[k]? =some (some r)->r<FS.length:=Of.lt;have SE:∀k,k<=cols->(dN (FS,at_,fr) k).1.length=(dN (FS,at_,fr) k).2.1.length/\(dN (FS,at_,fr) k).2.2.length=(dN (FS,at_,fr) k).2.1.length/\(ky rv at_ k).length=(dN (FS,at_,fr) k).2.1.length/\(dN (FS,at_,fr) k).2.1.length<=k:=fun k D=>ux (FS,at_,fr) rv k (by dsimp only;omega)
 refine⟨Nat×World,fun z=>⟨[(4,pP 1 0),(5,pP 2 0),(17,pP 6 0),(159,.o (.s 3 0 cols cols)),(160,iZ cols),(161,iN z.1)],[(6,.box T.dX [.w 7 (dN (FS,at_,fr) z.1).2.1.length,.v (.int .i64 n),.w 8 (dN (FS,at_,fr) z.1).2.1.length,.w 9 (dN (FS,at_,fr) z.1).2.1.length]),(9,.vec T.int 1 ((dN (FS,at_,fr) z.1).2.2.map fun c:Nat=>.int .i64 (c:Int))),(8,.vec T.int 1 ((dN (FS,at_,fr) z.1).2.1.map fun c:Nat=>.int .i64 (c:Int))),(7,.vec T.iB 1 (ky rv at_ z.1)),(2,.box T.dX [.w 4 rv.length,.v (.int .i64 n),.v (.slice none 0 0),.w 5 fr.length]),(5,.vec T.int 1 (fr.map fun c:Nat=>.int .i64 (c:Int))),(4,.vec T.iB 1 rv),(1,.box T.dX [.v (.slice none 0 0),.v (.int .i64 0),.v (.slice none 0 0),.v (.slice none 0 0)]),(3,.arr T.int (at_.map NM))],10,iv,z.2⟩,fun z=>cols-z.1,
  fun z=>z.1<=cols/\dw w.heap.size w z.2/\mE z.2 S w.heap.size iv rv n FS,?_,?_⟩
 ·intro O J r
  exact⟨(0,J),⟨aQ _,I.tr r.cU,hE.rel r X⟩,Sub.EN 6 0 T.iB 1 rfl rfl (by simp[jw,SV.sc,At.sc]) r fun Id r1=>Sub.EN 6 2 T.int 1 rfl rfl (by simp[jw,SV.sc,At.sc]) r1 fun GE r2=>Sub.EN 6 3 T.int 1 rfl rfl (by simp[jw,SV.sc,At.sc]) r2 fun GT E=>
   Sub.gn [] E⟩
 rintro⟨k,w1⟩ ⟨D,I,hE⟩;dsimp only at D I hE ⊢;obtain⟨q1,q2,q3,q4⟩:=SE k D;refine dQ.mk ?_ ?_<;>intro Oj
 ·have Oj:k<cols:=by simpa using Oj
  obtain⟨o,ho⟩:∃o,at_[k]? =some o:=⟨_,aA (by omega)⟩
  refine⟨by omega,NM o,by rw[aE,aV,aT,aL,ho];rfl,?_⟩
  cases o with
  |none=>
   refine⟨((k+1:Nat):Int),wo,?_⟩;have Ps:=mq (s:=(FS,at_,fr)) ho;have Qm:=tF (rv:=rv) ho;intro GT w3 E;exact⟨(k+1,w3),⟨Oj,I.tr E.cU,hE.rel E X⟩,Sub.gn [] E ⟨by dsimp only;rw[Ps];rfl,by dsimp only;rw[Ps];rfl,by dsimp only;rw[Ps];rfl,by dsimp only;rw[Qm];rfl,rfl,rfl,rfl,rfl,rfl,trivial⟩,by dsimp only;omega⟩
  |some j=>
   have hj:j<FS.length:=Ow k j ho;obtain⟨vj,TP⟩:∃v,rv[j]? =some v:=⟨_,aA (by omega)⟩
   have hvjd:rv.getD j (.bool false)=vj:=by rw[List.getD,TP];rfl
   obtain⟨aj,cj,rfl⟩:=hE.form TP;obtain⟨fj,TZ⟩:∃v,fr[j]? =some v:=⟨_,aA (by omega)⟩
   have hfjd:fr.getD j 0=fj:=by rw[List.getD,TZ];rfl
   have Ps:=mu (s:=(FS,at_,fr)) ho;have Qm:=tG (rv:=rv) ho;dsimp only at Ps;rw[hvjd]at Qm;rw[hfjd]at Ps;refine jQ hτ dx (.x 0 (.x 1 (.x 3 (.x 4 (.x 6 (.x 11 (.x 13 (.x 16 (.x 18 (.x 20 (.ld 2 4278223872 (.ld 5 4278224768 (.x 7 (.ld 8 4278224384 (.ld 12 4278222848 (.ld 17 4278190080 (.ld 19 4192206848 (.x 21 (.ld 22 4185915392 (.three 9 (.three 10 (.x 25 (.x 26 (.two 14 (.two 15 (.x 23 (.x 24 (.x 27 (.x 28 (.x 29 (.x 30 (.x 31 .nil))))))) 23 (.x 15 (.x 24 (.x 27 (.x 28 (.x 29 (.x 30 (.x 31 .nil)))))))) 23 (.x 14 (.x 15 (.x 24 (.x 27 (.x 28 (.x 29 (.x 30 (.x 31 .nil))))))))))) 14 (.two 10 (.x 25 (.x 26 (.two 15 (.x 23 (.x 24 (.x 27 (.x 28 (.x 29 (.x 30 (.x 31 .nil))))))) 23 (.x 15 (.x 24 (.x 27 (.x 28 (.x 29 (.x 30 (.x 31 .nil)))))))))) 23 (.x 10 (.x 25 (.x 26 (.x 15 (.x 24 (.x 27 (.x 28 (.x 29 (.x 30 (.x 31 .nil))))))))))) 23 (.two 10 (.x 25 (.x 26 (.x 14 (.x 15 (.x 24 (.x 27 (.x 28 (.x 29 (.x 30 (.x 31 .nil)))))))))) 14 (.x 10 (.x 25 (.x 26 (.x 15 (.x 24 (.x 27 (.x 28 (.x 29 (.x 30 (.x 31 .nil)))))))))))) 14 (.two 9 (.two 10 (.x 25 (.x 26 (.two 15 (.x 23 (.x 24 (.x 27 (.x 28 (.x 29 (.x 30 (.x 31 .nil))))))) 23 (.x 15 (.x 24 (.x 27 (.x 28 (.x 29 (.x 30 (.x 31 .nil)))))))))) 23 (.x 10 (.x 25 (.x 26 (.x 15 (.x 24 (.x 27 (.x 28 (.x 29 (.x 30 (.x 31 .nil))))))))))) 23 (.x 9 (.x 10 (.x 25 (.x 26 (.x 15 (.x 24 (.x 27 (.x 28 (.x 29 (.x 30 (.x 31 .nil)))))))))))) 23 (.two 9 (.two 10 (.x 25 (.x 26 (.x 14 (.x 15 (.x 24 (.x 27 (.x 28 (.x 29 (.x 30 (.x 31 .nil)))))))))) 14 (.x 10 (.x 25 (.x 26 (.x 15 (.x 24 (.x 27 (.x 28 (.x 29 (.x 30 (.x 31 .nil))))))))))) 14 (.x 9 (.x 10 (.x 25 (.x 26 (.x 15 (.x 24 (.x 27 (.x 28 (.x 29 (.x 30 (.x 31 .nil)))))))))))))))))))))))))))))))) (by kernel_rfl) (by kernel_rfl) ?_;refine⟨by simp,by omega,.slice aj n cj,by simpa using TP,by simp,by omega,.int .i64 (fj:Int),by simp[TZ],?_,?_,?_⟩
   ·refine⟨.int .i64 (fj:Int),by simp[TZ],rfl,rfl,rfl,rfl,rfl,?_,?_,?_⟩
    ·refine .inl ?_;refine⟨by simp[q2,q3],by omega,by unfold maxLen;omega,.int .i64 (fj:Int),by simp[TZ],rfl,rfl,rfl,rfl,?_,?_⟩
     ·refine⟨.int .i64 (fj:Int),by simp[TZ],rfl,rfl,rfl,rfl,?_,?_⟩
      ·refine .inl ?_;refine⟨by simp[q2,q3],by omega,by unfold maxLen;omega,.int .i64 (fj:Int),by simp[TZ],rfl,rfl,rfl,rfl,?_⟩;refine .inl ?_;refine⟨by simp[q2,q3],by omega,by unfold maxLen;omega,((k+1:Nat):Int),wo,?_⟩;intro GT w3 E;exact⟨(k+1,w3),⟨Oj,I.tr E.cU,hE.rel E X⟩,Sub.gn [(7,11),(8,13),(9,15)] E ⟨by dsimp only;rw[Ps,List.length_append,List.length_singleton];rfl,by dsimp only;rw[Ps,List.map_append];rfl,by dsimp only;rw[Ps,List.map_append];rfl,by dsimp only;rw[Qm];rfl,rfl,rfl,rfl,rfl,rfl,trivial⟩,by dsimp only;omega⟩
      ·refine⟨rfl,rfl,?_⟩;refine .inl ?_;refine⟨by simp[q2,q3],by omega,by unfold maxLen;omega,rfl,?_⟩;refine .inl ?_;refine⟨by simp[q2,q3],by omega,by unfold maxLen;omega,((k+1:Nat):Int),wo,?_⟩;intro GT w3 E;exact⟨(k+1,w3),⟨Oj,I.tr E.cU,hE.rel E X⟩,Sub.gn [(7,11),(8,14),(9,15)] E ⟨by dsimp only;rw[Ps,List.length_append,List.length_singleton];rfl,by dsimp only;rw[Ps,List.map_append];rfl,by dsimp only;rw[Ps,List.map_append];rfl,by dsimp only;rw[Qm];rfl,rfl,rfl,rfl,rfl,rfl,trivial⟩,by dsimp only;omega⟩
     ·refine⟨rfl,rfl,rfl,rfl,?_⟩;refine .inl ?_;refine⟨by simp[q2,q3],by omega,by unfold maxLen;omega,rfl,?_⟩;refine .inl ?_;refine⟨by simp[q2,q3],by omega,by unfold maxLen;omega,((k+1:Nat):Int),wo,?_⟩;intro GT w3 E;exact⟨(k+1,w3),⟨Oj,I.tr E.cU,hE.rel E X⟩,Sub.gn [(7,11),(8,14),(9,15)] E ⟨by dsimp only;rw[Ps,List.length_append,List.length_singleton];rfl,by dsimp only;rw[Ps,List.map_append];rfl,by dsimp only;rw[Ps,List.map_append];rfl,by dsimp only;rw[Qm];rfl,rfl,rfl,rfl,rfl,rfl,trivial⟩,by dsimp only;omega⟩
    ·refine⟨.int .i64 (fj:Int),by simp[TZ],rfl,rfl,rfl,rfl,rfl,?_,?_⟩
     ·refine .inl ?_;refine⟨by simp[q2,q3],by omega,by unfold maxLen;omega,.int .i64 (fj:Int),by simp[TZ],rfl,rfl,rfl,rfl,?_,?_⟩
      ·refine .inl ?_;refine⟨by simp[q2,q3],by omega,by unfold maxLen;omega,.int .i64 (fj:Int),by simp[TZ],rfl,rfl,rfl,rfl,?_⟩;refine .inl ?_;refine⟨by simp[q2,q3],by omega,by unfold maxLen;omega,((k+1:Nat):Int),wo,?_⟩;intro GT w3 E;exact⟨(k+1,w3),⟨Oj,I.tr E.cU,hE.rel E X⟩,Sub.gn [(7,12),(8,13),(9,15)] E ⟨by dsimp only;rw[Ps,List.length_append,List.length_singleton];rfl,by dsimp only;rw[Ps,List.map_append];rfl,by dsimp only;rw[Ps,List.map_append];rfl,by dsimp only;rw[Qm];rfl,rfl,rfl,rfl,rfl,rfl,trivial⟩,by dsimp only;omega⟩
      ·refine⟨rfl,rfl,?_⟩;refine .inl ?_;refine⟨by simp[q2,q3],by omega,by unfold maxLen;omega,rfl,?_⟩;refine .inl ?_;refine⟨by simp[q2,q3],by omega,by unfold maxLen;omega,((k+1:Nat):Int),wo,?_⟩;intro GT w3 E;exact⟨(k+1,w3),⟨Oj,I.tr E.cU,hE.rel E X⟩,Sub.gn [(7,12),(8,14),(9,15)] E ⟨by dsimp only;rw[Ps,List.length_append,List.length_singleton];rfl,by dsimp only;rw[Ps,List.map_append];rfl,by dsimp only;rw[Ps,List.map_append];rfl,by dsimp only;rw[Qm];rfl,rfl,rfl,rfl,rfl,rfl,trivial⟩,by dsimp only;omega⟩
     ·refine⟨rfl,rfl,rfl,?_⟩;refine .inl ?_;refine⟨by simp[q2,q3],by omega,by unfold maxLen;omega,rfl,rfl,?_⟩;refine .inl ?_;refine⟨by simp[q2,q3],by omega,by unfold maxLen;omega,rfl,?_⟩;refine .inl ?_;refine⟨by simp[q2,q3],by omega,by unfold maxLen;omega,((k+1:Nat):Int),wo,?_⟩;intro GT w3 E;exact⟨(k+1,w3),⟨Oj,I.tr E.cU,hE.rel E X⟩,Sub.gn [(7,13),(8,14),(9,15)] E ⟨by dsimp only;rw[Ps,List.length_append,List.length_singleton];rfl,by dsimp only;rw[Ps,List.map_append];rfl,by dsimp only;rw[Ps,List.map_append];rfl,by dsimp only;rw[Qm];rfl,rfl,rfl,rfl,rfl,rfl,trivial⟩,by dsimp only;omega⟩
    ·refine⟨rfl,rfl,rfl,?_,?_⟩
     ·refine .inl ?_;refine⟨by simp[q2,q3],by omega,by unfold maxLen;omega,rfl,rfl,rfl,rfl,?_⟩;refine .inl ?_;refine⟨by simp[q2,q3],by omega,by unfold maxLen;omega,rfl,?_⟩;refine .inl ?_;refine⟨by simp[q2,q3],by omega,by unfold maxLen;omega,((k+1:Nat):Int),wo,?_⟩;intro GT w3 E;exact⟨(k+1,w3),⟨Oj,I.tr E.cU,hE.rel E X⟩,Sub.gn [(7,12),(8,14),(9,15)] E ⟨by dsimp only;rw[Ps,List.length_append,List.length_singleton];rfl,by dsimp only;rw[Ps,List.map_append];rfl,by dsimp only;rw[Ps,List.map_append];rfl,by dsimp only;rw[Qm];rfl,rfl,rfl,rfl,rfl,rfl,trivial⟩,by dsimp only;omega⟩
     ·refine⟨rfl,rfl,rfl,?_⟩;refine .inl ?_;refine⟨by simp[q2,q3],by omega,by unfold maxLen;omega,rfl,rfl,?_⟩;refine .inl ?_;refine⟨by simp[q2,q3],by omega,by unfold maxLen;omega,rfl,?_⟩;refine .inl ?_;refine⟨by simp[q2,q3],by omega,by unfold maxLen;omega,((k+1:Nat):Int),wo,?_⟩;intro GT w3 E;exact⟨(k+1,w3),⟨Oj,I.tr E.cU,hE.rel E X⟩,Sub.gn [(7,13),(8,14),(9,15)] E ⟨by dsimp only;rw[Ps,List.length_append,List.length_singleton];rfl,by dsimp only;rw[Ps,List.map_append];rfl,by dsimp only;rw[Ps,List.map_append];rfl,by dsimp only;rw[Qm];rfl,rfl,rfl,rfl,rfl,rfl,trivial⟩,by dsimp only;omega⟩
   ·refine⟨.int .i64 (fj:Int),by simp[TZ],rfl,rfl,rfl,rfl,.slice aj n cj,by simpa using TP,rfl,rfl,rfl,?_,?_⟩
    ·refine⟨.int .i64 (fj:Int),by simp[TZ],rfl,rfl,rfl,rfl,rfl,?_,?_⟩
     ·refine .inl ?_;refine⟨by simp[q2,q3],by omega,by unfold maxLen;omega,.int .i64 (fj:Int),by simp[TZ],rfl,rfl,rfl,rfl,?_,?_⟩
      ·refine .inl ?_;refine⟨by simp[q2,q3],by omega,by unfold maxLen;omega,.int .i64 (fj:Int),by simp[TZ],rfl,rfl,rfl,rfl,?_⟩;refine .inl ?_;refine⟨by simp[q2,q3],by omega,by unfold maxLen;omega,((k+1:Nat):Int),wo,?_⟩;intro GT w3 E;exact⟨(k+1,w3),⟨Oj,I.tr E.cU,hE.rel E X⟩,Sub.gn [(7,12),(8,13),(9,15)] E ⟨by dsimp only;rw[Ps,List.length_append,List.length_singleton];rfl,by dsimp only;rw[Ps,List.map_append];rfl,by dsimp only;rw[Ps,List.map_append];rfl,by dsimp only;rw[Qm];rfl,rfl,rfl,rfl,rfl,rfl,trivial⟩,by dsimp only;omega⟩
      ·refine⟨rfl,rfl,?_⟩;refine .inl ?_;refine⟨by simp[q2,q3],by omega,by unfold maxLen;omega,rfl,?_⟩;refine .inl ?_;refine⟨by simp[q2,q3],by omega,by unfold maxLen;omega,((k+1:Nat):Int),wo,?_⟩;intro GT w3 E;exact⟨(k+1,w3),⟨Oj,I.tr E.cU,hE.rel E X⟩,Sub.gn [(7,12),(8,14),(9,15)] E ⟨by dsimp only;rw[Ps,List.length_append,List.length_singleton];rfl,by dsimp only;rw[Ps,List.map_append];rfl,by dsimp only;rw[Ps,List.map_append];rfl,by dsimp only;rw[Qm];rfl,rfl,rfl,rfl,rfl,rfl,trivial⟩,by dsimp only;omega⟩
     ·refine⟨rfl,rfl,rfl,?_⟩;refine .inl ?_;refine⟨by simp[q2,q3],by omega,by unfold maxLen;omega,rfl,rfl,?_⟩;refine .inl ?_;refine⟨by simp[q2,q3],by omega,by unfold maxLen;omega,rfl,?_⟩;refine .inl ?_;refine⟨by simp[q2,q3],by omega,by unfold maxLen;omega,((k+1:Nat):Int),wo,?_⟩;intro GT w3 E;exact⟨(k+1,w3),⟨Oj,I.tr E.cU,hE.rel E X⟩,Sub.gn [(7,13),(8,14),(9,15)] E ⟨by dsimp only;rw[Ps,List.length_append,List.length_singleton];rfl,by dsimp only;rw[Ps,List.map_append];rfl,by dsimp only;rw[Ps,List.map_append];rfl,by dsimp only;rw[Qm];rfl,rfl,rfl,rfl,rfl,rfl,trivial⟩,by dsimp only;omega⟩
    ·refine⟨rfl,rfl,.slice aj n cj,by simpa using TP,rfl,rfl,rfl,rfl,rfl,rfl,?_⟩;refine .inl ?_;refine⟨by simp[q2,q3],by omega,by unfold maxLen;omega,rfl,rfl,?_⟩;refine .inl ?_;refine⟨by simp[q2,q3],by omega,by unfold maxLen;omega,rfl,?_⟩;refine .inl ?_;refine⟨by simp[q2,q3],by omega,by unfold maxLen;omega,((k+1:Nat):Int),wo,?_⟩;intro GT w3 E;exact⟨(k+1,w3),⟨Oj,I.tr E.cU,hE.rel E X⟩,Sub.gn [(7,13),(8,14),(9,15)] E ⟨by dsimp only;rw[Ps,List.length_append,List.length_singleton];rfl,by dsimp only;rw[Ps,List.map_append];rfl,by dsimp only;rw[Ps,List.map_append];rfl,by dsimp only;rw[Qm];rfl,rfl,rfl,rfl,rfl,rfl,trivial⟩,by dsimp only;omega⟩
   ·refine⟨rfl,rfl,.slice aj n cj,by simpa using TP,rfl,rfl,rfl,?_,?_⟩
    ·refine⟨rfl,rfl,rfl,?_,?_⟩
     ·refine .inl ?_;refine⟨by simp[q2,q3],by omega,by unfold maxLen;omega,rfl,rfl,rfl,rfl,?_⟩;refine .inl ?_;refine⟨by simp[q2,q3],by omega,by unfold maxLen;omega,rfl,?_⟩;refine .inl ?_;refine⟨by simp[q2,q3],by omega,by unfold maxLen;omega,((k+1:Nat):Int),wo,?_⟩;intro GT w3 E;exact⟨(k+1,w3),⟨Oj,I.tr E.cU,hE.rel E X⟩,Sub.gn [(7,12),(8,14),(9,15)] E ⟨by dsimp only;rw[Ps,List.length_append,List.length_singleton];rfl,by dsimp only;rw[Ps,List.map_append];rfl,by dsimp only;rw[Ps,List.map_append];rfl,by dsimp only;rw[Qm];rfl,rfl,rfl,rfl,rfl,rfl,trivial⟩,by dsimp only;omega⟩
     ·refine⟨rfl,rfl,rfl,?_⟩;refine .inl ?_;refine⟨by simp[q2,q3],by omega,by unfold maxLen;omega,rfl,rfl,?_⟩;refine .inl ?_;refine⟨by simp[q2,q3],by omega,by unfold maxLen;omega,rfl,?_⟩;refine .inl ?_;refine⟨by simp[q2,q3],by omega,by unfold maxLen;omega,((k+1:Nat):Int),wo,?_⟩;intro GT w3 E;exact⟨(k+1,w3),⟨Oj,I.tr E.cU,hE.rel E X⟩,Sub.gn [(7,13),(8,14),(9,15)] E ⟨by dsimp only;rw[Ps,List.length_append,List.length_singleton];rfl,by dsimp only;rw[Ps,List.map_append];rfl,by dsimp only;rw[Ps,List.map_append];rfl,by dsimp only;rw[Qm];rfl,rfl,rfl,rfl,rfl,rfl,trivial⟩,by dsimp only;omega⟩
    ·refine⟨rfl,rfl,.slice aj n cj,by simpa using TP,rfl,rfl,rfl,rfl,rfl,rfl,?_⟩;refine .inl ?_;refine⟨by simp[q2,q3],by omega,by unfold maxLen;omega,rfl,rfl,?_⟩;refine .inl ?_;refine⟨by simp[q2,q3],by omega,by unfold maxLen;omega,rfl,?_⟩;refine .inl ?_;refine⟨by simp[q2,q3],by omega,by unfold maxLen;omega,((k+1:Nat):Int),wo,?_⟩;intro GT w3 E;exact⟨(k+1,w3),⟨Oj,I.tr E.cU,hE.rel E X⟩,Sub.gn [(7,13),(8,14),(9,15)] E ⟨by dsimp only;rw[Ps,List.length_append,List.length_singleton];rfl,by dsimp only;rw[Ps,List.map_append];rfl,by dsimp only;rw[Ps,List.map_append];rfl,by dsimp only;rw[Qm];rfl,rfl,rfl,rfl,rfl,rfl,trivial⟩,by dsimp only;omega⟩
 have Oj:k=cols:=aR D (by simpa using Oj);subst Oj;intro IR we re;have PZ:∀u∈ky rv at_ k,u.oneCell'=true:=fun u hu=>by
  obtain⟨i,A⟩:=aN hu;obtain⟨x,F⟩:∃x,(dN (FS,at_,fr) k).1[i]? =some x:=⟨_,aA (by have:=(aD.1 A).1;omega)⟩
  obtain⟨r,L,G⟩:=Ay Po Ow k (by omega) i u x A F;obtain⟨a,c,rfl⟩:=hE.form L;rfl
 have h7:=re.iK (id:=7) (sz:=1) (m:=(dN (FS,at_,fr) k).2.1.length) rfl (by simp[q3]) (by unfold maxLen;omega) (by decide) PZ;have h8:=re.iK (id:=8) (sz:=1) (m:=(dN (FS,at_,fr) k).2.1.length) rfl (by simp) (by unfold maxLen;omega) (by decide) (fun u hu=>by obtain⟨c,_,rfl⟩:=aU.1 hu;rfl);have h9:=re.iK (id:=9) (sz:=1) (m:=(dN (FS,at_,fr) k).2.1.length) rfl (by simp[q2]) (by unfold maxLen;omega) (by decide) (fun u hu=>by obtain⟨c,_,rfl⟩:=aU.1 hu;rfl);have PM:=hE.rel re X;rw[hredS];refine⟨_,rfl,I.tr re.cU,_,_,_,rfl,⟨ky rv at_ k,?_,by omega,fun i u x k1 k2=>?_⟩,?_,?_⟩
 ·rw[q1];exact h7.cN fun g Y=>.inr Y
 ·obtain⟨r,L,G⟩:=Ay Po Ow k (by omega) i u x k1 k2;refine((PM.row r u x L G).read.cN (S':=Nw S w we) (C':=Nw S w we) (fun g Y=>?_) fun g Y=>Cv.nw Y.1 re).c;exact Cv.nw (Er (PM.new g ⟨u,aC L,Y⟩)) re
 ·exact h8.cN fun g Y=>.inr Y
 ·show ie we _ 1 _ _ (dN (FS,at_,fr) k).2.2.length;rw[q2];exact h9.cN fun g Y=>.inr Y
section
variable{S S':Nat->Prop}{H:Hp}{nx n:Nat}{iv K:Iv}{B:Nat}{w J V:World}{O:Nat->Sx.dq}{v:Value}{qs:List Rat}
theorem eU.aB0{w0 w1:World}(h:eU w1 S w0.heap.size iv v n qs)(r:Rel H nx iv w0.heap.size w1 O J)(X:Old S w0):eU J S w0.heap.size [(w0.heap.size,J.heap.size)] v n qs:=by
 have G:=h.rel r X;have key:∀g {Do:Nat->Prop},Cv Do w0.heap.size iv g->Cv Do w0.heap.size [(w0.heap.size,J.heap.size)] g:=fun g Do Y=>by
  rcases Y with Y|⟨L,lo,A,G,N,h4⟩
  ·exact .inl Y
  ·exact .inr ⟨L,_,_,bD.2 rfl,L,by have:=r.oJ lo A G;have:=r.size;omega⟩
 exact⟨G.row.cN fun g Y=>⟨key g Y.1,Y.2⟩,fun g Y=>key g (G.new g Y)⟩
theorem eU.aBG(h:eU V (Cv S B iv) J.heap.size [(J.heap.size,V.heap.size)] v n qs)(hB:B<=J.heap.size):eU V S B ((J.heap.size,V.heap.size)::iv) v n qs:=by
 have key:∀g {Do AC:Nat->Prop},(∀g,AC g->Cv Do B iv g)->Cv AC J.heap.size [(J.heap.size,V.heap.size)] g->Cv Do B ((J.heap.size,V.heap.size)::iv) g:=fun g Do AC hY Y=>by
  rcases Y with Y|⟨L,lo,A,G,N,h4⟩
  ·exact(hY g Y).mono fun p hp=>aB _ hp
  ·simp at G;obtain⟨rfl,rfl⟩:=G;exact .inr ⟨by omega,_,_,aF,N,h4⟩
 exact⟨h.row.cN fun g Y=>⟨key g (fun _ h=>h) Y.1,Y.2⟩,fun g Y=>key g (fun _ h=>h.elim) (h.new g Y)⟩
def Bs(S:Nat->Prop)(B:Nat)(iv:Iv)(v:Value)(g:Nat):Prop:=Cv S B iv g/\v.ownBlock≠some g
theorem Bs.kept(r:Rel H nx iv B w O J)(X:∀g,S g->g<B){row:Option Nat}(Y:J.grownBy V row)(Oa:∀g,row=some g->v.ownBlock=some g):∀g,Bs S B iv v g->V.heap[g]? =w.heap[g]? :=fun g h=>by
 rw[Y.block g (Rel.old r X g h.1) fun e=>h.2 (Oa g e.symm),Rel.same r X h.1]
theorem Bs.same(r:Rel H nx iv B w O J)(X:∀g,S g->g<B):∀g,Bs S B iv v g->J.heap[g]? =w.heap[g]? :=fun g h=>Rel.same r X h.1
theorem Bs.of(r:Rel H nx iv B w O J)(X:∀g,S g->g<B)(hm:∀p,p∈iv->p∈K)(R:eU V FF J.heap.size [(J.heap.size,V.heap.size)] v n qs)(h:Cv S B iv g):Bs S B K v g:=
 ⟨h.mono hm,fun e=>by
  have L:=Rel.old r X g h;rcases R.new g e with G|⟨G,_⟩
  ·exact G
  ·omega⟩
theorem Bs.mono(hm:∀p,p∈iv->p∈K)(h:Bs S B iv v g):Bs S B K v g:=⟨h.1.mono hm,h.2⟩
theorem dO.at{m:Nat}(h:dO w S (.slice a m c) ps)(hj:ps[j]? =some p):∃ad,a=some ad/\S ad.block/\w.cell? (ad.add (j*1))=some (.int .i64 (p:Int)):=by
 obtain⟨h0,L,G,a',c',e,N,h4⟩:=h;injection e with e1 e2 e3;subst e1;obtain⟨ad,k1,k2,k3⟩:=h4 j (.int .i64 (p:Int)) (by rw[aL,hj];rfl);exact⟨ad,k1,k2,by rw[aV];exact k3⟩
theorem dO.shape(h:dO w S v ps):∃a c,v= .slice a ps.length c/\ps.length<=c/\ps.length<=maxLen:=by
 obtain⟨h0,L,G,a,c,e,N,h4⟩:=h;exact⟨a,c,e,N,h0⟩
end
theorem Az{FS:List (List Rat)}{at_:List (Option Nat)}{fr:List Nat}{n:Nat}(hE:fZ n FS)(Ow:∀(k r:Nat),at_[k]? =some (some r)->r<FS.length):∀k,k<=at_.length->fZ n (dN (FS,at_,fr) k).1/\∀p∈(dN (FS,at_,fr) k).2.1,p<k
 |0,_=>⟨(fun r hr=>by cases hr),fun p hp=>by cases hp⟩
 |k+1,D=>by
  have ih:=Az (fr:=fr) hE Ow k (by omega);obtain⟨o,ho⟩:∃o,at_[k]? =some o:=⟨_,aA (by omega)⟩
  cases o with
  |none=>
   rw[mq (s:=(FS,at_,fr)) ho];exact⟨ih.1,fun p hp=>Nat.lt_succ_of_lt (ih.2 p hp)⟩
  |some r=>
   rw[mu (s:=(FS,at_,fr)) ho];refine⟨fun x F=>?_,fun p hp=>?_⟩
   ·rcases bB.1 F with F|F
    ·exact ih.1 x F
    ·rw[bD.1 F];have:=Ow k r ho;dsimp only
     rw[List.getD,aA this];exact hE _ (aY this)
   ·rcases bB.1 hp with hp|hp
    ·exact Nat.lt_succ_of_lt (ih.2 p hp)
    ·rw[bD.1 hp];exact bQ _
theorem sS(cols:Nat)(hM:fZ n M):(dY M cols).1.length=(dY M cols).2.1.length/\(dY M cols).2.2.length=(dY M cols).2.1.length/\fZ n (dY M cols).1/\(∀p∈(dY M cols).2.1,p<cols)/\(dY M cols).2.1.length<=cols:=by
 have Of:=zg cols hM M.length (Nat.le_refl _);unfold dY;generalize iO M cols M.length=s at*
 obtain⟨FS,at_,fr⟩:=s;have QH:at_.length=cols:=Of.at_;obtain⟨q1,q2,-,q4⟩:=ux (FS,at_,fr) [] cols (by show cols<=at_.length;omega);obtain⟨f1,f2⟩:=Az (FS:=FS) (at_:=at_) (fr:=fr) Of.len Of.lt cols (by omega);exact⟨q1,q2,f1,f2,q4⟩
theorem lJ(M:List (List Rat))(b:List Rat):(kM M b).length=M.length:=List.length_mapIdx
theorem Jw(h:fZ n M):fZ (n+1) (kM M b):=fun r hr=>by
 obtain⟨i,A⟩:=aN hr;rw[kM,List.getElem?_mapIdx]at A
 cases hM:M[i]? with
 |none=>rw[hM]at A;cases A
 |some x=>
  rw[hM]at A;simp only[bc,Option.some.injEq]at A;rw[<-A,List.length_append,h x (aC hM)];rfl
theorem Ha{H:Hp}{nx:Nat}{J:World}(r:Rel H nx iv B w O J)(h:dG H id=some (.vec T.Rat 4 ([]++Z.flatten++W)))(hF:Fc J S Z x)(hq:jD J S W q)(hm:x.length<maxLen):
  (O id).nil=false/\cS J (Cv S B (((O id).g,(O id).g+1)::iv)) (.slice (some ⟨(O id).g,0,none⟩) (x.length+1) (O id).cap) (x++[q]):=by
 have PL:=ef hF.mR;have hl:([]++Z.flatten++W).length=(x.length+1)*4:=by rw[List.nil_append,List.length_append,PL,hF.1,hq.len];omega
 have TC:=hF.push hq;have U:[]++Z.flatten++W=(Z++[W]).flatten:=by simp
 have hv:=Nt r (sz:=4) (m:=x.length+1) h hl (by omega) (by decide) (by omega) (fun u hu=>TC.one u (by rw[<-U];exact hu));refine⟨hv.1,Z++[W],?_,TC.1,TC.mR,fun j c y k1 k2=>(TC.2 j c y k1 k2).cN fun g Y=>.inl Y⟩;rw[List.length_append,List.length_singleton,<-U];exact hv.2.2.cN fun g Y=>.inr ⟨by have:=hv.2.1;omega,_,_,aF,by omega,by omega⟩
set_option maxHeartbeats 2000000 in
theorem Cu{Fd:Nat->Prop}{u:Value}(hC:Old C w)(hD:Old Fd w)(X:Old S w)(hM:lI w C S v M)(hb:gX w Fd S u b)(PD:b.length=M.length)(hlen:fZ cols M)(R:cols<=999)(hR:M.length<=1000)(hB:EO (kM M b) (cols+1) h)(hh:3*h<=90000):
  eI PG F'.j2 #[.agg #[v,.int .i64 cols],u] w (eO w fun v' V=>(o6 M b cols=none/\v'= .tuple #[.slice none 0 0,.bool false])\/∃x vx,o6 M b cols=some x/\v'= .tuple #[vx,.bool true]/\eU V S w.heap.size [(w.heap.size,V.heap.size)] vx cols x):=by
 have I:=bR w;obtain⟨am,cm,rfl,So,SC⟩:=lI.shape hM;obtain⟨ab,cb,rfl,Q3,Rk⟩:=gX.shape hb;unfold maxLen at SC Rk;refine oq (by simp) ?_
 refine⟨((cols+1:Nat):Int),wo,Nat×List Value×World×Iv,fun z=>⟨[(20,iN z.1),(1,sV ab b.length cb),(2,pP 0 0),(6,pP 1 0),(18,sV am M.length cm),(19,iZ M.length)],[(1,.box T.dy [.w 2 z.2.1.length,.v (.int .i64 ((cols+1:Nat):Int))]),(2,.vec T.iB 1 z.2.1),(0,.box T.dy [.v (.slice am M.length cm),.v (.int .i64 cols)])],3,z.2.2.2,z.2.2.1⟩,fun z=>M.length-z.1,
  fun z=>z.1<=M.length/\dw w.heap.size w z.2.2.1/\dS z.2.2.1 (Cv S w.heap.size z.2.2.2) z.2.1 ((kM M b).take z.1),?_,?_⟩
 ·intro O J r
  exact⟨(0,[],J,[]),⟨aQ _,I.tr r.cU,by simp[dS]⟩,Sub.EN 1 0 T.iB 1 rfl rfl (by simp[jw,SV.sc,At.sc,fW]) r fun Id r1=>
   Sub.gn [] r1⟩
 rintro⟨i,rv,w1,iv⟩ ⟨A,I,hK⟩;dsimp only at A I hK ⊢;have Po:rv.length=i:=by rw[hK.1,aX,lJ];omega
 refine dQ.mk ?_ ?_<;>intro OZ
 ·have OZ:i<M.length:=by simpa using OZ
  obtain⟨x,F⟩:∃r,M[i]? =some r:=⟨_,aA OZ⟩
  have QJ:=hlen x (aC F);obtain⟨q,hq⟩:∃r,b[i]? =some r:=⟨_,aA (by omega)⟩
  have VE:b.getD i 0=q:=by rw[List.getD,hq];rfl
  have Ou:(kM M b).take (i+1)=(kM M b).take i++[x++[q]]:=by
   rw[List.take_add_one,show(kM M b)[i]? =some (x++[q]) by rw[kM,List.getElem?_mapIdx,F,<-VE];rfl];rfl
  obtain⟨adm,um,Rn,Pj,km1,km2⟩:=lI.load hM F;obtain⟨Z,⟨-,g1,g2,a0,c0,rfl,g4,g5⟩,Pu,UN,PS⟩:=Pj;have PL:=ef UN;obtain⟨adq,W,Wn,hF,hl⟩:=gX.load hb hq;obtain⟨b3,a3,n3,c3,b4,a4,n4,c4,rfl,hF⟩:=hF;refine⟨adm,Rn,by omega,.slice a0 x.length c0,rd1 km2 I (hC _ km1),?_⟩;refine jQ hτ dx (.x 0 (.x 3 (.x 5 (.x 6 (.x 7 (.ld 1 28672 (.ld 8 32256 (.two 2 (.two 4 (.x 9 (.x 10 (.wX 6 (.x 11 (.x 12 (.x 13 (.x 14 .nil))))))) 9 (.x 4 (.x 10 (.wX 6 (.x 11 (.x 12 (.x 13 (.x 14 .nil)))))))) 9 (.x 2 (.x 4 (.x 10 (.wX 6 (.x 11 (.x 12 (.x 13 (.x 14 .nil)))))))))))))))) (by kernel_rfl) (by kernel_rfl) ?_;refine⟨adq,Wn,by omega,[.bool b3,.slice a3 n3 c3,.bool b4,.slice a4 n4 c4],rfl,rdO hl I hD,?_,?_⟩
  ·refine⟨[.bool b3,.slice a3 n3 c3,.bool b4,.slice a4 n4 c4],rfl,rdO hl I hD,rfl,rfl,?_,?_⟩
   ·refine .inl ?_;refine⟨Z.flatten,g1,g2,fun O J r QI=>?_,?_⟩
    ·obtain⟨u0,hu0⟩:∃u,Z.flatten[0]? =some u:=⟨_,aA (by omega)⟩
     obtain⟨ad,ha,_,_⟩:=g5 0 u0 hu0;refine⟨ad,ha,fun j u hj=>?_⟩;obtain⟨ad2,RV,q1,q2⟩:=g5 j u hj;rw[ha]at RV;injection RV with RV;subst RV;rw[cL (w:=w) (V:=J) (by rw[dF];exact(I.tr r.cU).block _ (X _ q1))];exact q2
    refine⟨rfl,by omega,by unfold maxLen;omega,?_⟩;rw[aT x.length];refine⟨[.bool b3,.slice a3 n3 c3,.bool b4,.slice a4 n4 c4],rfl,rdO hl I hD,rfl,rfl,rfl,?_⟩;refine .inl ?_;refine⟨by rw[<-g1];rfl,by omega,by unfold maxLen;omega,rfl,[(1,.box T.dy [.w 2 rv.length,.v (.int .i64 ((cols+1:Nat):Int))]),(2,.vec T.iB 1 rv),(0,.box T.dy [.v (.slice am M.length cm),.v (.int .i64 cols)])],_,rfl,by simp,⟨rfl,rfl,rfl,trivial⟩,rfl,fun O J r=>?_⟩;have hv:=Ha (S:=S) (x:=x) (q:=q) (Z:=Z) r (id:=6) rfl ⟨Pu,fun j W q k1 k2=>(PS j W q k1 k2).cK fun g Y=>(I.tr r.cU).block g (X g Y)⟩ (hF.cK (kS I r X)).sR (by unfold maxLen;omega);refine⟨hv.1,_,uq (tl:=[(25,pP 1 0),(26,.o (.w 2 rv.length)),(20,iN i),(1,sV ab b.length cb),(2,pP 0 0),(6,pP 1 0),(18,sV am M.length cm),(19,iZ M.length)]) hv.1 (t:=35) (n:=x.length+1) rfl ⟨rfl,rfl,rfl,rfl,rfl,rfl,rfl,rfl,trivial⟩ (by simp[jw,SV.sc,At.sc]),?_⟩;replace hK:=(dS.cN (hK.rel r X) (fun g Y=>Y.mono fun p hp=>aB _ hp)).push rfl hv.2;rw[<-Ou]at hK;replace I:=I.tr r.cU;generalize (O 6).g=gx at*
    generalize (O 6).cap=cx at*
    generalize (gx,gx+1)::iv=Od at*
    refine⟨rfl,?_⟩;refine .inl ?_;refine⟨by simp,by omega,by unfold maxLen;omega,((i+1:Nat):Int),wo,?_⟩;intro GT w3 E;exact⟨(i+1,rv++[.slice (some ⟨gx,0,none⟩) (x.length+1) cx],w3,_),⟨OZ,I.tr E.cU,hK.rel E X⟩,Sub.gn [(2,8)] E ⟨by dsimp only;rw[List.length_append,List.length_singleton];rfl,rfl,rfl,trivial⟩,by dsimp only;omega⟩
   ·refine⟨rfl,?_⟩;refine .inl ?_;refine⟨Z.flatten,g1,g2,fun O J r QI=>?_,?_⟩
    ·obtain⟨u0,hu0⟩:∃u,Z.flatten[0]? =some u:=⟨_,aA (by omega)⟩
     obtain⟨ad,ha,_,_⟩:=g5 0 u0 hu0;refine⟨ad,ha,fun j u hj=>?_⟩;obtain⟨ad2,RV,q1,q2⟩:=g5 j u hj;rw[ha]at RV;injection RV with RV;subst RV;rw[cL (w:=w) (V:=J) (by rw[dF];exact(I.tr r.cU).block _ (X _ q1))];exact q2
    refine⟨rfl,by omega,by unfold maxLen;omega,?_⟩;rw[aT x.length];refine⟨rfl,?_⟩;refine .inl ?_;refine⟨by rw[<-g1];rfl,by omega,by unfold maxLen;omega,rfl,[(1,.box T.dy [.w 2 rv.length,.v (.int .i64 ((cols+1:Nat):Int))]),(2,.vec T.iB 1 rv),(0,.box T.dy [.v (.slice am M.length cm),.v (.int .i64 cols)])],_,rfl,by simp,⟨rfl,rfl,rfl,trivial⟩,rfl,fun O J r=>?_⟩;have hv:=Ha (S:=S) (x:=x) (q:=q) (Z:=Z) r (id:=6) rfl ⟨Pu,fun j W q k1 k2=>(PS j W q k1 k2).cK fun g Y=>(I.tr r.cU).block g (X g Y)⟩ (hF.cK (kS I r X)).sR (by unfold maxLen;omega);refine⟨hv.1,_,uq (tl:=[(25,pP 1 0),(26,.o (.w 2 rv.length)),(20,iN i),(1,sV ab b.length cb),(2,pP 0 0),(6,pP 1 0),(18,sV am M.length cm),(19,iZ M.length)]) hv.1 (t:=35) (n:=x.length+1) rfl ⟨rfl,rfl,rfl,rfl,rfl,rfl,rfl,rfl,trivial⟩ (by simp[jw,SV.sc,At.sc]),?_⟩;replace hK:=(dS.cN (hK.rel r X) (fun g Y=>Y.mono fun p hp=>aB _ hp)).push rfl hv.2;rw[<-Ou]at hK;replace I:=I.tr r.cU;generalize (O 6).g=gx at*
    generalize (O 6).cap=cx at*
    generalize (gx,gx+1)::iv=Od at*
    refine⟨rfl,?_⟩;refine .inl ?_;refine⟨by simp,by omega,by unfold maxLen;omega,((i+1:Nat):Int),wo,?_⟩;intro GT w3 E;exact⟨(i+1,rv++[.slice (some ⟨gx,0,none⟩) (x.length+1) cx],w3,_),⟨OZ,I.tr E.cU,hK.rel E X⟩,Sub.gn [(2,8)] E ⟨by dsimp only;rw[List.length_append,List.length_singleton];rfl,rfl,rfl,trivial⟩,by dsimp only;omega⟩
  ·refine⟨rfl,rfl,?_⟩;refine .inl ?_;refine⟨Z.flatten,g1,g2,fun O J r QI=>?_,?_⟩
   ·obtain⟨u0,hu0⟩:∃u,Z.flatten[0]? =some u:=⟨_,aA (by omega)⟩
    obtain⟨ad,ha,_,_⟩:=g5 0 u0 hu0;refine⟨ad,ha,fun j u hj=>?_⟩;obtain⟨ad2,RV,q1,q2⟩:=g5 j u hj;rw[ha]at RV;injection RV with RV;subst RV;rw[cL (w:=w) (V:=J) (by rw[dF];exact(I.tr r.cU).block _ (X _ q1))];exact q2
   refine⟨rfl,by omega,by unfold maxLen;omega,?_⟩;rw[aT x.length];refine⟨rfl,?_⟩;refine .inl ?_;refine⟨by rw[<-g1];rfl,by omega,by unfold maxLen;omega,rfl,[(1,.box T.dy [.w 2 rv.length,.v (.int .i64 ((cols+1:Nat):Int))]),(2,.vec T.iB 1 rv),(0,.box T.dy [.v (.slice am M.length cm),.v (.int .i64 cols)])],_,rfl,by simp,⟨rfl,rfl,rfl,trivial⟩,rfl,fun O J r=>?_⟩;have hv:=Ha (S:=S) (x:=x) (q:=q) (Z:=Z) r (id:=6) rfl ⟨Pu,fun j W q k1 k2=>(PS j W q k1 k2).cK fun g Y=>(I.tr r.cU).block g (X g Y)⟩ (hF.cK (kS I r X)).sR (by unfold maxLen;omega);refine⟨hv.1,_,uq (tl:=[(25,pP 1 0),(26,.o (.w 2 rv.length)),(20,iN i),(1,sV ab b.length cb),(2,pP 0 0),(6,pP 1 0),(18,sV am M.length cm),(19,iZ M.length)]) hv.1 (t:=35) (n:=x.length+1) rfl ⟨rfl,rfl,rfl,rfl,rfl,rfl,rfl,rfl,trivial⟩ (by simp[jw,SV.sc,At.sc]),?_⟩;replace hK:=(dS.cN (hK.rel r X) (fun g Y=>Y.mono fun p hp=>aB _ hp)).push rfl hv.2;rw[<-Ou]at hK;replace I:=I.tr r.cU;generalize (O 6).g=gx at*
   generalize (O 6).cap=cx at*
   generalize (gx,gx+1)::iv=Od at*
   refine⟨rfl,?_⟩;refine .inl ?_;refine⟨by simp,by omega,by unfold maxLen;omega,((i+1:Nat):Int),wo,?_⟩;intro GT w3 E;exact⟨(i+1,rv++[.slice (some ⟨gx,0,none⟩) (x.length+1) cx],w3,_),⟨OZ,I.tr E.cU,hK.rel E X⟩,Sub.gn [(2,8)] E ⟨by dsimp only;rw[List.length_append,List.length_singleton];rfl,rfl,rfl,trivial⟩,by dsimp only;omega⟩
 have OZ:i=M.length:=aR A (by simpa using OZ);rw[List.take_of_length_le (by rw[lJ];omega)]at hK;have Tv:=Jw (b:=b) hlen;obtain⟨f1,f2,f3,f4,f5⟩:=sS (cols+1) Tv;generalize hA:(dY (kM M b) (cols+1)).1=F9 at*
 generalize hP:(dY (kM M b) (cols+1)).2.1=pv at*
 refine⟨((cols+1:Nat):Int),wo,?_⟩
 refine cJ (cO (If:=fun _ J v V=>∃vr vp vf,v= .agg #[vr,.int .i64 ((cols+1:Nat):Int),vp,vf]/\cV V (Nw (Cv S w.heap.size iv) J V) vr F9/\dO V (Nf J V) vp pv/\dO V (Nf J V) vf (dY (kM M b) (cols+1)).2.2) (fun O J r=>by
  rw[<-hA,<-hP]
  exact wW (C:=fun g=>g<J.heap.size) (fun g Y=>Y) (Rel.old r X) ⟨rv,by rw[lJ,<-OZ,<-Po];exact(r.iK (id:=2) (sz:=1) (m:=rv.length) rfl (by simp) (by unfold maxLen;omega) (by decide) hK.2.1).cN fun g Y=>Y.2,hK.1,fun i u x L G=>cS.rel (hK.2.2 i u x L G) r X⟩ Tv (by omega) (by omega) (by rw[lJ];omega) (Nat.le_refl _) hB hh) ?_)
 rintro O Q6 v1 QT r U Py ⟨vr,vp,vf,rfl,k1,k2,k3⟩;replace I:=I.tr Py;have hR:=cV.old k1 r.cI;have hV:=dO.dK (S:=FF) k2 r.cI (iv:=(Q6.heap.size,QT.heap.size)::iv) aF;have hX:=dO.dK (S:=FF) k3 r.cI (iv:=(Q6.heap.size,QT.heap.size)::iv) aF;generalize (Q6.heap.size,QT.heap.size)::iv=Oo at*
 obtain⟨ar,cr,rfl,Ta,hmr⟩:=dC.shape hR;obtain⟨ap,cp,rfl,hcp,hmp⟩:=dO.shape hV;obtain⟨af,cf,rfl,-,-⟩:=dO.shape hX;refine cJ (cO (If:=fun _ J v V=>eU V FF J.heap.size [(J.heap.size,V.heap.size)] v cols (List.replicate cols 0)) (fun O J r=>GJ cols J (by omega)) ?_);rintro O Q7 v2 Pt r U Py R;replace I:=I.tr Py;replace hR:=cV.cN (S':=Bs S w.heap.size ((Q7.heap.size,Pt.heap.size)::Oo) v2) (cV.cK (cV.rel hR r X) fun g Y=>U.block g (Rel.old r X g Y)) fun g Y=>Bs.of r X (fun x F=>aB _ F) R Y;replace hV:=dO.cN (S':=Bs FF w.heap.size ((Q7.heap.size,Pt.heap.size)::Oo) v2) (dO.cK (dO.rel hV r (cH w)) fun g Y=>U.block g (Rel.old r (cH w) g Y)) fun g Y=>Bs.of r (cH w) (fun x F=>aB _ F) R Y;have hX:=R.dK (S:=S) r.cI (iv:=(Q7.heap.size,Pt.heap.size)::Oo) aF;generalize (Q7.heap.size,Pt.heap.size)::Oo=Od at*
 obtain⟨ax,cx,rfl,XW⟩:=hX.row.form;have hXl:=hX.row.le;unfold maxLen at hXl
 refine⟨Nat×World×Iv,fun z=>⟨[(51,iN z.1),(2,pP 0 0),(9,pP 3 0),(10,sV ax cols cx),(49,sV ap pv.length cp),(50,iZ pv.length)],[(3,.box T.dX [.v (.slice ar F9.length cr),.v (.int .i64 ((cols+1:Nat):Int)),.v (.slice ap pv.length cp),.v (.slice af (dY (kM M b) (cols+1)).2.2.length cf)]),(0,.box T.dy [.v (.slice am M.length cm),.v (.int .i64 cols)])],4,z.2.2,z.2.1⟩,fun z=>pv.length-z.1,
  fun z=>z.1<=pv.length/\(∀(t p:Nat),t<z.1->pv[t]? =some p->p≠cols)/\dw w.heap.size w z.2.1/\cV z.2.1 (Bs S w.heap.size z.2.2 (.slice ax cols cx)) (.slice ar F9.length cr) F9/\dO z.2.1 (Bs FF w.heap.size z.2.2 (.slice ax cols cx)) (.slice ap pv.length cp) pv/\eU z.2.1 S w.heap.size z.2.2 (.slice ax cols cx) cols (fE F9 pv cols z.1),?_,?_⟩
 ·intro O J r;exact⟨(0,J,_),⟨aQ _,fun t p ht=>absurd ht (Nat.not_lt_zero t),I.tr r.cU,cV.cK hR (Bs.same r X),dO.cK hV (Bs.same r (cH w)),hX.rel r X⟩,Sub.gn [] r⟩
 rintro⟨k,w3,iv⟩ ⟨D,Tl,I,hR,hV,hX⟩;dsimp only at D Tl I hR hV hX ⊢;refine dQ.mk ?_ ?_<;>intro Oj
 ·have Oj:k<pv.length:=by simpa using Oj
  obtain⟨p,hp⟩:∃p,pv[k]? =some p:=⟨_,aA Oj⟩
  have Qv:=f4 p (aC hp);obtain⟨adp,R5,kp1,kp2⟩:=hV.at hp;refine⟨adp,R5,by omega,.int .i64 (p:Int),fun O J r=>?_,?_⟩
  ·rw[aE,cL (w:=w3) (V:=J) (by rw[dF];exact Rel.same r (cH w) kp1.1)];exact kp2
  refine dQ.mk ?_ ?_<;>intro U
  ·have U:p=cols:=by
    have:(p:Int)=cols:=by simpa using U
    omega
   intro IR we re;refine⟨_,rfl,I.tr re.cU,.inl ⟨?_,rfl⟩⟩;unfold o6;simp only[hP]
   rw[if_pos (by rw[<-U];exact aC hp)]
  have U:p≠cols:=fun e=>by rw[e]at U;simp at U
  obtain⟨x,F⟩:∃x,F9[k]? =some x:=⟨_,aA (by omega)⟩
  have QJ:=f3 x (aC F);obtain⟨q,hq⟩:∃q,x[cols]? =some q:=⟨_,aA (by omega)⟩
  have QH:dD F9 k cols=q:=by simp[dD,List.getD,F,hq]
  obtain⟨adm,um,Rn,Pj,km1,km2⟩:=dC.load hR F;obtain⟨a0,c0,rfl,hc0,-⟩:=dV.shape Pj;obtain⟨adq,W,Wn,hF,_,hl⟩:=dV.load Pj hq;obtain⟨g0,g1,g2,g3,g4,g5,g6,g7,rfl,hF⟩:=hF;refine cR hτ dx [.x 0,.x 1,.x 2,.x 3,.x 4,.x 5,.x 6,.x 7,.x 8,.x 9,.x 10,.x 11,.x 12,.x 13] (by kernel_rfl) (by kernel_rfl) ?_;refine⟨adm,Rn,by omega,.slice a0 x.length c0,fun O J r=>?_,?_⟩
  ·rw[aE,cL (w:=w3) (V:=J) (by rw[dF];exact Rel.same r X km1.1)];exact km2
  refine⟨adq,Wn,by omega,[.bool g0,.slice g1 g2 g3,.bool g4,.slice g5 g6 g7],rfl,fun O J r j u hu=>?_,?_⟩
  ·obtain⟨k1,k2⟩:=hl j u hu;rw[aE,cL (w:=w3) (V:=J) (by rw[dF,dF];exact Rel.same r X k1.1)];exact k2
  obtain⟨gx,Qe⟩:∃g,ax=some ⟨g,0,none⟩:=by
   obtain⟨Z,L,G,N⟩:=hX.row;rcases L.2 with⟨_,h0⟩|⟨g,cap,cur,e,_⟩
   ·omega
   ·injection e with e;exact⟨g,e⟩
  subst Qe;refine⟨⟨gx,0,none⟩,rfl,by omega,?_⟩;intro O J r;obtain⟨g,Y,L,G,N,h4,h5⟩:=(hX.rel r X).store (j:=p) (by omega) (hF.cK (Bs.same r X)) r X;injection Y with Y;injection Y with Y;subst Y;refine⟨L,G,N,fun w5 RY=>?_⟩;obtain⟨k1,k2,k3⟩:=h5 w5 RY;have PE:dw w.heap.size w w5:=(I.tr r.cU).tr (dw.grown k2 (fun g e=>by injection e with e;subst e;exact h4.elim (fun h=>h.elim) fun h=>h.1) r.cI);have Qs:=cV.cK hR (Bs.kept r X k2 fun g e=>e);have hV2:=dO.cK hV (Bs.kept r (cH w) k2 fun g e=>e);have Ou:(fE F9 pv cols k).set p q=fE F9 pv cols (k+1):=by rw[gJ,QH,List.getD,hp];rfl
  rw[Ou]at k1;refine⟨((k+1:Nat):Int),wo,?_⟩;intro GT w6 E
  exact⟨(k+1,w6,_),⟨Oj,fun t p2 ht Qg=>by
   by_cases UU:t=k
   ·rw[UU,hp]at Qg;injection Qg with Qg;rw[<-Qg];exact U
   ·exact Tl t p2 (by dsimp only at ht;omega) Qg,PE.tr E.cU,cV.cK Qs (Bs.same E X),dO.cK hV2 (Bs.same E (cH w)),k1.rel E X⟩,Sub.gn [] E,by dsimp only;omega⟩
 have Oj:k=pv.length:=aR D (by simpa using Oj);subst Oj;intro IR we re;refine⟨_,rfl,I.tr re.cU,.inr ⟨_,_,?_,rfl,hX.aB0 re X⟩⟩;unfold o6;simp only[hA,hP]
 rw[aH];intro hm;obtain⟨t,ht⟩:=aN hm;exact Tl t cols (aD.1 ht).1 ht rfl
theorem GM{u:Value}(hC:Old C w)(X:Old S w)(hM:lI w C S v M)(hb:cS w S u b)(PD:b.length=M.length)(hlen:fZ cols M)(R:cols<=999)(hR:M.length<=1000)(hB:EO (kM M b) (cols+1) h)(hh:3*h<=90000):
  eI PG F'.j2 #[.agg #[v,.int .i64 cols],u] w (eO w fun v' V=>(o6 M b cols=none/\v'= .tuple #[.slice none 0 0,.bool false])\/∃x vx,o6 M b cols=some x/\v'= .tuple #[vx,.bool true]/\eU V S w.heap.size [(w.heap.size,V.heap.size)] vx cols x):=
 Cu hC X X hM (cS.rc hb) PD hlen R hR hB hh
def tI(pv:List Nat)(n i:Nat):List Value:=(List.range n).map fun c=>.bool (decide (c∈pv.take i))
theorem Jx(pv:List Nat)(n:Nat):tI pv n 0=List.replicate n (.bool false):=by
 refine bF fun j=>?_;rw[tI,aL,List.getElem?_replicate];by_cases h:j<n
 ·rw[bm h,if_pos h];rfl
 ·rw[List.getElem?_eq_none (by simp;omega),aH h];rfl
theorem EP(h:c<n):(tI pv n i)[c]? =some (.bool (decide (c∈pv.take i))):=by
 rw[tI,aL,bm h];rfl
theorem Jy(hp:pv[i]? =some p):(tI pv n i).set p (.bool true)=tI pv n (i+1):=by
 refine bF fun j=>?_;by_cases hj:j<n
 ·rw[EP hj,List.take_add_one,hp];by_cases hpj:p=j
  ·subst hpj;rw[aP (by simp[tI];exact hj)];simp
  ·rw[aS hpj,EP hj];have:j≠p:=fun e=>hpj e.symm;simp[this]
 ·rw[List.getElem?_eq_none (by simp[tI];omega),List.getElem?_eq_none (by simp[tI];omega)]
theorem eU.at{cx:Nat}(h:eU w S B iv (.slice ax n cx) n qs)(h0:0<n):∃g,ax=some ⟨g,0,none⟩:=by
 obtain⟨Z,L,G,N⟩:=h.row;rcases L.2 with⟨_,h0⟩|⟨g,cap,cur,e,_⟩
 ·omega
 ·injection e with e;exact⟨g,e⟩
set_option maxHeartbeats 2000000 in
theorem Jz(hC:Old C w)(X:Old S w)(hM:lI w C S v M)(hlen:fZ n M)(hn0:0<n)(R:n<=1000)(hR:M.length<=1000)(hB:EO M n h)(hAb:Ht (dY M n).1 h)(hh:3*h<=90000):
  eI PG F'.gk #[.agg #[v,.int .i64 n]] w (eO w fun v' V=>cV V (Nf w V) v' (kX M n)):=by
 have I:=bR w;obtain⟨am,cm,rfl,So,SC⟩:=lI.shape hM;unfold maxLen at SC;obtain⟨f1,f2,f3,f4,f5⟩:=sS n hlen;refine jr (by simp) ?_;unfold kX;generalize hA:(dY M n).1=F9 at*
 generalize hP:(dY M n).2.1=pv at*
 refine cJ (cO (If:=fun _ J v V=>∃vr vp vf,v= .agg #[vr,.int .i64 n,vp,vf]/\cV V (Nw S J V) vr F9/\dO V (Nf J V) vp pv/\dO V (Nf J V) vf (dY M n).2.2) (fun O J r=>by
  rw[<-hA,<-hP];obtain⟨rv,m1,m2,m3⟩:=hM
  exact wW (C:=C) (S:=S) (oS hC r) (oS X r) ⟨rv,m1.cK fun g Y=>(I.tr r.cU).block g (hC g Y),m2,fun i u x L G=>cS.cK (m3 i u x L G) fun g Y=>(I.tr r.cU).block g (X g Y)⟩ hlen hn0 R hR (Nat.le_refl _) hB hh) ?_)
 rintro O Q6 v1 QT r U Py ⟨vr,vp,vf,rfl,k1,k2,k3⟩;replace I:=I.tr Py;have hR:=cV.old (cV.cN k1 fun g Y=>Y.imp (fun h=>(Or.inl h:Cv S w.heap.size [] g)) id) r.cI;have hV:=dO.dK (S:=FF) k2 r.cI (iv:=(Q6.heap.size,QT.heap.size)::[]) aF;have hX:=dO.dK (S:=FF) k3 r.cI (iv:=(Q6.heap.size,QT.heap.size)::[]) aF;generalize (Q6.heap.size,QT.heap.size)::[]=Oo at*
 obtain⟨ar,cr,rfl,Ta,hmr⟩:=dC.shape hR;obtain⟨ap,cp,rfl,hcp,hmp⟩:=dO.shape hV;obtain⟨af,cf,rfl,-,-⟩:=dO.shape hX
 refine⟨n,n,rfl,rfl,Nat.le_refl _,by omega,by omega,Nat×World×Iv,fun z=>⟨[(1,pP 0 0),(3,pP 1 0),(4,.o (.s 2 0 n n)),(20,sV ap pv.length cp),(21,iZ pv.length),(22,iN z.1)],[(2,.arr T.bool (tI pv n z.1)),(1,.box T.dX [.v (.slice ar F9.length cr),.v (.int .i64 n),.v (.slice ap pv.length cp),.v (.slice af (dY M n).2.2.length cf)]),(0,.box T.dy [.v (.slice am M.length cm),.v (.int .i64 n)])],3,z.2.2,z.2.1⟩,fun z=>pv.length-z.1,
  fun z=>z.1<=pv.length/\dw w.heap.size w z.2.1/\cV z.2.1 (Cv S w.heap.size z.2.2) (.slice ar F9.length cr) F9/\dO z.2.1 (Cf w z.2.2) (.slice ap pv.length cp) pv,?_,?_⟩
 ·intro O J E;exact⟨(0,J,_),⟨aQ _,I.tr E.cU,cV.rel hR E X,dO.rel hV E (cH w)⟩,Sub.gn [] E ⟨by dsimp only;rw[Jx];rfl,rfl,rfl,trivial⟩⟩
 rintro⟨i,w1,iv⟩ ⟨A,I,hR,hV⟩;dsimp only at A I hR hV ⊢;refine dQ.mk ?_ ?_<;>intro OZ
 ·have OZ:i<pv.length:=by simpa using OZ
  obtain⟨p,hp⟩:∃p,pv[i]? =some p:=⟨_,aA OZ⟩
  have Qv:=f4 p (aC hp);obtain⟨adp,R5,kp1,kp2⟩:=hV.at hp;refine⟨adp,R5,by omega,.int .i64 (p:Int),fun O J r=>?_,?_⟩
  ·rw[aE,cL (w:=w1) (V:=J) (by rw[dF];exact Rel.same r (cH w) kp1)];exact kp2
  refine⟨by omega,by simp[tI];omega,tI pv n (i+1),?_,?_⟩
  ·rw[aE,aV,aT,<-Jy hp];exact kV (by simp[tI];omega)
  refine⟨((i+1:Nat):Int),wo,?_⟩;intro GT w3 E;exact⟨(i+1,w3,_),⟨OZ,I.tr E.cU,cV.rel hR E X,dO.rel hV E (cH w)⟩,Sub.gn [] E,by dsimp only;omega⟩
 have OZ:i=pv.length:=aR A (by simpa using OZ);subst OZ
 refine⟨Nat×List Value×World×Iv,fun z=>⟨[(32,iN z.1),(7,.o (.w 3 z.2.1.length)),(1,pP 0 0),(3,pP 1 0),(4,.o (.s 2 0 n n)),(31,iZ n)],[(2,.arr T.bool (tI pv n pv.length)),(3,.vec T.iB 1 z.2.1),(1,.box T.dX [.v (.slice ar F9.length cr),.v (.int .i64 n),.v (.slice ap pv.length cp),.v (.slice af (dY M n).2.2.length cf)]),(0,.box T.dy [.v (.slice am M.length cm),.v (.int .i64 n)])],4,z.2.2.2,z.2.2.1⟩,fun z=>n-z.1,
  fun z=>z.1<=n/\dw w.heap.size w z.2.2.1/\cV z.2.2.1 (Cv S w.heap.size z.2.2.2) (.slice ar F9.length cr) F9/\dO z.2.2.1 (Cf w z.2.2.2) (.slice ap pv.length cp) pv/\dS z.2.2.1 (Cf w z.2.2.2) z.2.1 (dM F9 pv n z.1),?_,?_⟩
 ·intro O J r;exact⟨(0,[],J,_),⟨aQ _,I.tr r.cU,cV.rel hR r X,dO.rel hV r (cH w),by simp[dS,dM]⟩,Sub.nil 7 T.iB 1 rfl (by simp[jw,SV.sc,At.sc]) r fun Id r1=>Sub.gn [] r1⟩
 rintro⟨c,rv,w1,iv⟩ ⟨hc,I,hR,hV,hK⟩;dsimp only at hc I hR hV hK ⊢;have Po:rv.length=(dM F9 pv n c).length:=hK.1;have hrc:=xk F9 pv n c;refine dQ.mk ?_ ?_<;>intro Q3
 ·have Q3:c<n:=by simpa using Q3
  refine⟨by omega,.bool (decide (c∈pv)),by rw[aE,aV,aT,EP Q3,bA],?_⟩;refine dQ.mk ?_ ?_<;>intro hm
  ·have hm:c∈pv:=by simpa using hm
   refine⟨((c+1:Nat):Int),wo,?_⟩;intro GT w3 E;exact⟨(c+1,rv,w3,_),⟨Q3,I.tr E.cU,cV.rel hR E X,dO.rel hV E (cH w),by dsimp only;rw[qo hm];exact hK.rel E (cH w)⟩,Sub.gn [] E,by dsimp only;omega⟩
  have hm:c∉pv:=by simpa using hm
  refine cJ (cO (If:=fun _ J v V=>eU V FF J.heap.size [(J.heap.size,V.heap.size)] v n (List.replicate n 0)) (fun O J r=>GJ n J (by omega)) ?_);rintro O Q7 v2 Pt r U Py Ri;replace I:=I.tr Py;replace hR:=cV.cN (S':=Bs S w.heap.size ((Q7.heap.size,Pt.heap.size)::iv) v2) (cV.cK (cV.rel hR r X) fun g Y=>U.block g (Rel.old r X g Y)) fun g Y=>Bs.of r X (fun x F=>aB _ F) Ri Y;replace hV:=dO.cN (S':=Bs FF w.heap.size ((Q7.heap.size,Pt.heap.size)::iv) v2) (dO.cK (dO.rel hV r (cH w)) fun g Y=>U.block g (Rel.old r (cH w) g Y)) fun g Y=>Bs.of r (cH w) (fun x F=>aB _ F) Ri Y;replace hK:=dS.cN (S':=Bs FF w.heap.size ((Q7.heap.size,Pt.heap.size)::iv) v2) (dS.cK (dS.rel hK r (cH w)) fun g Y=>U.block g (Rel.old r (cH w) g Y)) fun g Y=>Bs.of r (cH w) (fun x F=>aB _ F) Ri Y;have hX:=Ri.dK (S:=FF) r.cI (iv:=(Q7.heap.size,Pt.heap.size)::iv) aF;generalize (Q7.heap.size,Pt.heap.size)::iv=Od at*
  obtain⟨ax,cx,rfl,XW⟩:=hX.row.form;obtain⟨gx,rfl⟩:=hX.at hn0;refine cJ (cO (If:=fun _ J v V=>dA V (Nf J V) v ((1:Int):Rat)) (fun O J r=>mB 1 J (by decide) (by decide)) ?_);rintro O QF v3 Pw r U Py Ri;replace I:=I.tr Py;replace hR:=cV.cN (S':=Bs S w.heap.size ((QF.heap.size,Pw.heap.size)::Od) (.slice (some ⟨gx,0,none⟩) n cx)) (cV.cK (cV.cK hR (Bs.same r X)) fun g Y=>U.block g (Rel.old r X g Y.1)) fun g Y=>Bs.mono (fun x F=>aB _ F) Y;replace hV:=dO.cN (S':=Bs FF w.heap.size ((QF.heap.size,Pw.heap.size)::Od) (.slice (some ⟨gx,0,none⟩) n cx)) (dO.cK (dO.cK hV (Bs.same r (cH w))) fun g Y=>U.block g (Rel.old r (cH w) g Y.1)) fun g Y=>Bs.mono (fun x F=>aB _ F) Y;replace hK:=dS.cN (S':=Bs FF w.heap.size ((QF.heap.size,Pw.heap.size)::Od) (.slice (some ⟨gx,0,none⟩) n cx)) (dS.cK (dS.cK hK (Bs.same r (cH w))) fun g Y=>U.block g (Rel.old r (cH w) g Y.1)) fun g Y=>Bs.mono (fun x F=>aB _ F) Y;have hd:=(Ri.cN (S':=Bs FF w.heap.size ((QF.heap.size,Pw.heap.size)::Od) (.slice (some ⟨gx,0,none⟩) n cx)) fun g Y=>Y.elim (fun h=>h.elim) fun h=>⟨.inr ⟨by have:=r.cI;omega,_,_,aF,h.1,h.2⟩,fun e=>by have:=Rel.old r (cH w) g (hX.new g e);omega⟩)
  replace hX:=hX.cM (K:=(QF.heap.size,Pw.heap.size)::Od) r (cH w) U fun x F=>aB _ F;generalize (QF.heap.size,Pw.heap.size)::Od=Oq at*
  obtain⟨A0,A1,A2,A3,A4,A5,A6,A7,rfl⟩:=hd.shape;refine⟨⟨gx,0,none⟩,rfl,by omega,?_⟩;intro O J r;obtain⟨g,Y,L,G,N,h4,h5⟩:=(hX.rel r (cH w)).store (j:=c) Q3 (hd.cK (Bs.same r (cH w))) r (cH w);injection Y with Y;injection Y with Y;subst Y;refine⟨L,G,N,fun w5 RY=>?_⟩;obtain⟨k1,k2,k3⟩:=h5 w5 RY;have PE:dw w.heap.size w w5:=(I.tr r.cU).tr (dw.grown k2 (fun g e=>by injection e with e;subst e;exact h4.elim (fun h=>h.elim) fun h=>h.1) r.cI);have Qs:=cV.cK hR (Bs.kept r X k2 fun g e=>e);have hV2:=dO.cK hV (Bs.kept r (cH w) k2 fun g e=>e);have Qh:=dS.cK hK (Bs.kept r (cH w) k2 fun g e=>e);have Ou:(List.replicate n (0:Rat)).set c ((1:Int):Rat)=fp F9 pv n c 0:=rfl;rw[Ou]at k1
  refine⟨Nat×World×Iv,fun z=>⟨[(49,iN z.1),(8,iN c),(9,.o (.v (.slice (some ⟨gx,0,none⟩) n cx))),(32,iN c),(47,sV ap pv.length cp),(48,iZ pv.length),(7,.o (.w 3 rv.length)),(1,pP 0 0),(3,pP 1 0),(4,.o (.s 2 0 n n)),(31,iZ n)],[(2,.arr T.bool (tI pv n pv.length)),(3,.vec T.iB 1 rv),(1,.box T.dX [.v (.slice ar F9.length cr),.v (.int .i64 n),.v (.slice ap pv.length cp),.v (.slice af (dY M n).2.2.length cf)]),(0,.box T.dy [.v (.slice am M.length cm),.v (.int .i64 n)])],4,z.2.2,z.2.1⟩,fun z=>pv.length-z.1,
   fun z=>z.1<=pv.length/\dw w.heap.size w z.2.1/\cV z.2.1 (Bs S w.heap.size z.2.2 (.slice (some ⟨gx,0,none⟩) n cx)) (.slice ar F9.length cr) F9/\dO z.2.1 (Bs FF w.heap.size z.2.2 (.slice (some ⟨gx,0,none⟩) n cx)) (.slice ap pv.length cp) pv/\dS z.2.1 (Bs FF w.heap.size z.2.2 (.slice (some ⟨gx,0,none⟩) n cx)) rv (dM F9 pv n c)/\eU z.2.1 FF w.heap.size z.2.2 (.slice (some ⟨gx,0,none⟩) n cx) n (fp F9 pv n c z.1),?_,?_⟩
  ·intro O J E;exact⟨(0,J,_),⟨aQ _,PE.tr E.cU,cV.cK Qs (Bs.same E X),dO.cK hV2 (Bs.same E (cH w)),dS.cK Qh (Bs.same E (cH w)),k1.rel E (cH w)⟩,Sub.gn [] E⟩
  rintro⟨k,w3,iv⟩ ⟨D,I,hR,hV,hK,hX⟩;dsimp only at D I hR hV hK hX ⊢;refine dQ.mk ?_ ?_<;>intro Oj
  ·have Oj:k<pv.length:=by simpa using Oj
   obtain⟨p,hp⟩:∃p,pv[k]? =some p:=⟨_,aA Oj⟩
   have Qv:=f4 p (aC hp);obtain⟨adp,R5,kp1,kp2⟩:=hV.at hp;obtain⟨x,F⟩:∃x,F9[k]? =some x:=⟨_,aA (by omega)⟩
   have QJ:=f3 x (aC F);obtain⟨q,hq⟩:∃q,x[c]? =some q:=⟨_,aA (by omega)⟩
   have QH:dD F9 k c=q:=by simp[dD,List.getD,F,hq]
   have SZ:=hAb x (aC F) q (aC hq);obtain⟨adm,um,Rn,Pj,km1,km2⟩:=dC.load hR F;obtain⟨a0,c0,rfl,hc0,-⟩:=dV.shape Pj;obtain⟨adq,W,Wn,hF,_,hl⟩:=dV.load Pj hq;obtain⟨g0,g1,g2,g3,g4,g5,g6,g7,rfl,hF⟩:=hF;refine⟨adp,R5,by omega,.int .i64 (p:Int),fun O J r=>?_,?_⟩
   ·rw[aE,cL (w:=w3) (V:=J) (by rw[dF];exact Rel.same r (cH w) kp1.1)];exact kp2
   refine⟨adm,Rn,by omega,.slice a0 x.length c0,fun O J r=>?_,?_⟩
   ·rw[aE,cL (w:=w3) (V:=J) (by rw[dF];exact Rel.same r X km1.1)];exact km2
   refine⟨adq,Wn,by omega,[.bool g0,.slice g1 g2 g3,.bool g4,.slice g5 g6 g7],rfl,fun O J r j u hu=>?_,?_⟩
   ·obtain⟨k1,k2⟩:=hl j u hu;rw[aE,cL (w:=w3) (V:=J) (by rw[dF,dF];exact Rel.same r X k1.1)];exact k2
   refine cJ (cO (If:=fun _ J v V=>dA V (Nf J V) v (-q)) (fun O J r=>ML (S:=Bs S w.heap.size iv (.slice (some ⟨gx,0,none⟩) n cx)) (fun g Y=>Rel.old r X g Y.1) ((hF.cK (Bs.same r X)).l (by omega))) ?_);rintro O RG v4 QX r U Py Ri;replace I:=I.tr Py;replace hR:=cV.cN (S':=Bs S w.heap.size ((RG.heap.size,QX.heap.size)::iv) (.slice (some ⟨gx,0,none⟩) n cx)) (cV.cK (cV.cK hR (Bs.same r X)) fun g Y=>U.block g (Rel.old r X g Y.1)) fun g Y=>Bs.mono (fun x F=>aB _ F) Y;replace hV:=dO.cN (S':=Bs FF w.heap.size ((RG.heap.size,QX.heap.size)::iv) (.slice (some ⟨gx,0,none⟩) n cx)) (dO.cK (dO.cK hV (Bs.same r (cH w))) fun g Y=>U.block g (Rel.old r (cH w) g Y.1)) fun g Y=>Bs.mono (fun x F=>aB _ F) Y;replace hK:=dS.cN (S':=Bs FF w.heap.size ((RG.heap.size,QX.heap.size)::iv) (.slice (some ⟨gx,0,none⟩) n cx)) (dS.cK (dS.cK hK (Bs.same r (cH w))) fun g Y=>U.block g (Rel.old r (cH w) g Y.1)) fun g Y=>Bs.mono (fun x F=>aB _ F) Y;have hd:=(Ri.cN (S':=Bs FF w.heap.size ((RG.heap.size,QX.heap.size)::iv) (.slice (some ⟨gx,0,none⟩) n cx)) fun g Y=>Y.elim (fun h=>h.elim) fun h=>⟨.inr ⟨by have:=r.cI;omega,_,_,aF,h.1,h.2⟩,fun e=>by have:=Rel.old r (cH w) g (hX.new g e);omega⟩)
   replace hX:=hX.cM (K:=(RG.heap.size,QX.heap.size)::iv) r (cH w) U fun x F=>aB _ F;generalize (RG.heap.size,QX.heap.size)::iv=Ox at*
   obtain⟨C0,C1,C2,C3,C4,C5,C6,C7,rfl⟩:=hd.shape;refine⟨⟨gx,0,none⟩,rfl,by omega,?_⟩;intro O J r;obtain⟨g,Y,L,G,N,h4,h5⟩:=(hX.rel r (cH w)).store (j:=p) (by omega) (hd.cK (Bs.same r (cH w))) r (cH w);injection Y with Y;injection Y with Y;subst Y;refine⟨L,G,N,fun w5 RY=>?_⟩;obtain⟨k1,k2,k3⟩:=h5 w5 RY;have PE:dw w.heap.size w w5:=(I.tr r.cU).tr (dw.grown k2 (fun g e=>by injection e with e;subst e;exact h4.elim (fun h=>h.elim) fun h=>h.1) r.cI);have Qs:=cV.cK hR (Bs.kept r X k2 fun g e=>e);have hV2:=dO.cK hV (Bs.kept r (cH w) k2 fun g e=>e);have Qh:=dS.cK hK (Bs.kept r (cH w) k2 fun g e=>e);have Ou:(fp F9 pv n c k).set p (-q)=fp F9 pv n c (k+1):=by rw[gI,QH,List.getD,hp];rfl
   rw[Ou]at k1;refine⟨((k+1:Nat):Int),wo,?_⟩;intro GT w6 E;exact⟨(k+1,w6,_),⟨Oj,PE.tr E.cU,cV.cK Qs (Bs.same E X),dO.cK hV2 (Bs.same E (cH w)),dS.cK Qh (Bs.same E (cH w)),k1.rel E (cH w)⟩,Sub.gn [] E,by dsimp only;omega⟩
  have Oj:k=pv.length:=aR D (by simpa using Oj);rw[Oj]at hX;replace hR:=cV.cN hR fun g Y=>Y.1;replace hV:=dO.cN hV fun g Y=>Y.1;replace hK:=(dS.cN hK fun g Y=>Y.1).push (u:=(.slice (some ⟨gx,0,none⟩) n cx)) (x:=fp F9 pv n c pv.length) rfl (by have:=hX.c;exact this);rw[<-pA hm]at hK;refine .inl ?_;refine⟨by simp,by omega,by unfold maxLen;omega,((c+1:Nat):Int),wo,?_⟩;intro GT w3 E;exact⟨(c+1,rv++[(.slice (some ⟨gx,0,none⟩) n cx)],w3,_),⟨Q3,I.tr E.cU,cV.rel hR E X,dO.rel hV E (cH w),hK.rel E (cH w)⟩,Sub.gn [(3,5)] E (hE:=⟨rfl,by dsimp only;rw[List.length_append,List.length_singleton];rfl,rfl,rfl,rfl,rfl,trivial⟩),by dsimp only;omega⟩
 have Q3:c=n:=aR hc (by simpa using Q3);subst Q3;intro IR we re;refine⟨_,rfl,I.tr re.cU,rv,?_,hK.1,fun i u x k1 k2=>cS.cN (cS.rel (hK.2.2 i u x k1 k2) re (cH w)) fun g Y=>Cv.nw Y re⟩;rw[<-hK.1];exact(re.iK (id:=3) (sz:=1) (m:=rv.length) rfl (by simp) (by unfold maxLen;omega) (by decide) hK.2.1).cN fun g Y=>.inr Y
structure jR(w:World)(S:Nat->Prop)(B:Nat)(iv:Iv)(v:Value)(n i:Nat)(qs:List Rat):Prop where
 row:∃Z,w.ownsRow 0 T.Rat 4 v n Z.flatten/\gR w (Bs S B iv v) n i Z qs
 new:∀g,v.ownBlock=some g->Cv FF B iv g
section
variable{S S':Nat->Prop}{H:Hp}{nx n i:Nat}{iv K:Iv}{B:Nat}{w J V:World}{O:Nat->Sx.dq}{v:Value}{qs:List Rat}
theorem jR.cK(h:jR w S B iv v n i qs)(D:∀g,Cv S B iv g->V.heap[g]? =w.heap[g]?):jR V S B iv v n i qs:=by
 obtain⟨⟨Z,L,G⟩,N⟩:=h;exact⟨⟨Z,ownsRow.cK L fun g Y=>D g (Er (N g Y)),G.cK fun g Y=>D g Y.1⟩,N⟩
theorem jR.rel(h:jR w S B iv v n i qs)(r:Rel H nx iv B w O J)(X:∀g,S g->g<B):jR J S B iv v n i qs:=h.cK fun _ Y=>Rel.same r X Y
theorem jR.mono(h:jR w S B iv v n i qs)(hm:∀p,p∈iv->p∈K):jR w S B K v n i qs:=by
 obtain⟨⟨Z,L,G⟩,N⟩:=h;exact⟨⟨Z,L,G.cN fun g Y=>Y.mono hm⟩,fun g Y=>(N g Y).mono hm⟩
theorem jR.cM(h:jR w S B iv v n i qs)(r:Rel H nx iv B w O J)(X:∀g,S g->g<B)(U:Ext J V)(hm:∀p,p∈iv->p∈K):jR V S B K v n i qs:=
 ((h.rel r X).cK fun g Y=>U.block g (Rel.old r X g Y)).mono hm
theorem jR.wX(r:Rel H nx iv B w O J)(h:dG H id=some (.arr T.Rat (List.replicate n [Value.bool false,.slice none 0 0,.bool false,.slice none 0 0]).flatten))(R:n<=maxLen)(qs:List Rat):
  jR J S B (((O id).g,(O id).g+1)::iv) (.slice (some ⟨(O id).g,0,none⟩) n n) n 0 qs:=by
 have PA:=(r.fits h).1;have h4:∀W∈List.replicate n [Value.bool false,.slice none 0 0,.bool false,.slice none 0 0],W.length=4:=fun W hc=>by rw[bI hc];rfl
 have hf:=ef h4;rw[bH]at hf;refine⟨⟨List.replicate n [.bool false,.slice none 0 0,.bool false,.slice none 0 0],⟨hf,.inr ⟨(O id).g,n,_,rfl,aQ _,r.arr id _ _ h,Nat.le_refl _,R,by simp,by rw[<-hf];exact bA⟩⟩,gR.start J _ n qs⟩,fun g Y=>?_⟩;injection Y with Y;have Y:(O id).g=g:=Y;subst Y;exact .inr ⟨(r.low id _ h PA).1,_,_,aF,Nat.le_refl _,bQ _⟩
theorem jR.store{a1 a2:Option Addr}{n1 c1 n2 c2:Nat}{b b2:Bool}(h:jR w S B iv (.slice a n c) n j qs)(hj:j<n)(hq:qs[j]? =some q)(hf:dA w (Bs S B iv (.slice a n c)) (.agg #[.bool b,.slice a1 n1 c1,.bool b2,.slice a2 n2 c2]) q)
  (r:Rel H nx iv B w O J) (X:∀g,S g->g<B):
  ∃g,a=some ⟨g,0,none⟩/\((⟨g,0,none⟩:Addr).add ((j:Int).toNat*4)).spot=none/\
   (∀k,k<4->(J.cell? (((⟨g,0,none⟩:Addr).add ((j:Int).toNat*4)).add k)).isSome=true/\J.frozen? (((⟨g,0,none⟩:Addr).add ((j:Int).toNat*4)).add k)=false)/\
   (∀id b,dG H id=some b->(O id).nil=false->(O id).g≠((⟨g,0,none⟩:Addr).add ((j:Int).toNat*4)).block)/\
   ∀V,V=setCells J ((⟨g,0,none⟩:Addr).add ((j:Int).toNat*4)) [.bool b,.slice a1 n1 c1,.bool b2,.slice a2 n2 c2]->jR V S B iv (.slice a n c) n (j+1) qs/\J.grownBy V (some g)/\dw B J V/\Rel H nx iv B V O V:=by
 obtain⟨⟨Z,L,G⟩,N⟩:=h.rel r X;have hf:=hf.cK (Bs.same r X);obtain⟨g,rfl,Of,QW,PC,PN⟩:=j3 (nv:=[.bool b,.slice a1 n1 c1,.bool b2,.slice a2 n2 c2]) L rfl hj rfl (by decide);have PI:(⟨g,0,none⟩:Addr).add ((j:Int).toNat*4)=⟨g,j*4,none⟩:=by rw[aE,dL,aT]
 have Pa:=Rel.not r (gY B) (N g rfl);refine⟨g,rfl,by rw[PI],fun k D=>by rw[PI];exact Of k D,fun id b hb R=>by rw[PI];exact Pa id b hb R,fun V PE=>?_⟩;rw[PI]at PE;subst PE;have Qb:=iI (W:=[.bool b,.slice a1 n1 c1,.bool b2,.slice a2 n2 c2]) G.four (show j<Z.length by rw[G.len];exact hj);rw[Qb]at QW;have Oi:∀x,Bs S B iv (.slice (some ⟨g,0,none⟩) n c) x->(setCells J ⟨g,j*4,none⟩ [.bool b,.slice a1 n1 c1,.bool b2,.slice a2 n2 c2]).heap[x]? =J.heap[x]? :=fun x F=>
  PC.block x (Rel.old r X x F.1) fun e=>F.2 e.symm
 refine⟨⟨⟨_,QW,(G.cK Oi).next hj hq (hf.cK Oi)⟩,N⟩,PC,dw.grown PC (fun x e=>by injection e with e;subst e;exact(N g rfl).elim (fun h=>h.elim) fun h=>h.1) r.cI,r.zJ Pa PC⟩
theorem jR.done(h:jR w S B iv v n n qs)(hl:qs.length=n):eU w S B iv v n qs:=by
 obtain⟨⟨Z,L,G⟩,N⟩:=h;exact⟨⟨Z,L,G.len,by rw[G.len,hl],fun j W q k1 k2=>G.at_ j W q (by rw[<-hl];exact(aD.1 k2).1) k1 k2⟩,N⟩
end
theorem nJ(M:List (List Rat))(n:Nat):(da M n).length=n:=by simp[da]
theorem KA{k:Nat}(h:k<n):(da M n)[k]? =some (M.map fun r=>r.getD k 0):=by rw[da,aL,bm h];rfl
set_option maxHeartbeats 1000000 in
theorem Bp(hC:Old C w)(X:Old S w)(hM:lI w C S v M)(hlen:fZ n M)(R:n<=1000)(hR:M.length<=1000):
  eI PG F'.ja #[.agg #[v,.int .i64 n]] w (eO w fun v' V=>∃vr,v'= .agg #[vr,.int .i64 M.length]/\cV V (Nw S w V) vr (da M n)):=by
 have I:=bR w;obtain⟨am,cm,rfl,So,SC⟩:=lI.shape hM;unfold maxLen at SC;refine lH (by simp) ?_
 refine⟨Nat×List Value×World×Iv,fun z=>⟨[(13,iN z.1),(1,pP 0 0),(2,pP 1 0),(3,pP 2 0),(12,iZ n)],[(2,.box T.dy [.w 3 z.2.1.length,.v (.int .i64 M.length)]),(3,.vec T.iB 1 z.2.1),(1,.box T.dy [.v (.slice none 0 0),.v (.int .i64 0)]),(0,.box T.dy [.v (.slice am M.length cm),.v (.int .i64 n)])],4,z.2.2.2,z.2.2.1⟩,fun z=>n-z.1,
  fun z=>z.1<=n/\dw w.heap.size w z.2.2.1/\dS z.2.2.1 (Cv S w.heap.size z.2.2.2) z.2.1 ((da M n).take z.1),?_,?_⟩
 ·intro O J r;exact⟨(0,[],J,[]),⟨aQ _,I.tr r.cU,by simp[dS]⟩,Sub.EN 2 0 T.iB 1 rfl rfl (by simp[jw,SV.sc,At.sc,fW]) r fun Id r1=>Sub.gn [] r1⟩
 rintro⟨k,rv,w1,iv⟩ ⟨D,I,hK⟩;dsimp only at D I hK ⊢;have Po:rv.length=k:=by rw[hK.1,aX,nJ];omega
 refine dQ.mk ?_ ?_<;>intro Oj
 ·have Oj:k<n:=by simpa using Oj
  have UU:=KA (M:=M) Oj;have Ou:(da M n).take (k+1)=(da M n).take k++[M.map fun r=>r.getD k 0]:=by rw[List.take_add_one,UU];rfl
  refine⟨M.length,M.length,rfl,rfl,Nat.le_refl _,by omega,by omega,Nat×Nat×World×Iv,fun z=>⟨[(5,.o (.v (.slice (some ⟨z.2.1,0,none⟩) M.length M.length))),(4,iN k),(13,iN k),(22,iZ M.length),(23,iN z.1),(1,pP 0 0),(2,pP 1 0),(3,pP 2 0),(12,iZ n)],[(2,.box T.dy [.w 3 rv.length,.v (.int .i64 M.length)]),(3,.vec T.iB 1 rv),(1,.box T.dy [.v (.slice none 0 0),.v (.int .i64 0)]),(0,.box T.dy [.v (.slice am M.length cm),.v (.int .i64 n)])],5,z.2.2.2,z.2.2.1⟩,fun z=>M.length-z.1,
   fun z=>z.1<=M.length/\dw w.heap.size w z.2.2.1/\dS z.2.2.1 (Bs S w.heap.size z.2.2.2 (.slice (some ⟨z.2.1,0,none⟩) M.length M.length)) rv ((da M n).take k)/\jR z.2.2.1 S w.heap.size z.2.2.2 (.slice (some ⟨z.2.1,0,none⟩) M.length M.length) M.length z.1 (M.map fun r=>r.getD k 0),?_,?_⟩
  ·intro O J r;have hf:=jR.wX (S:=S) (n:=M.length) r (id:=4) rfl (by unfold maxLen;omega) (M.map fun r=>r.getD k 0)
   exact⟨(0,(O 4).g,J,((O 4).g,(O 4).g+1)::iv),⟨aQ _,I.tr r.cU,dS.cN (hK.rel r X) fun g Y=>⟨Y.mono fun p hp=>aB _ hp,fun e=>Rel.not r X Y 4 _ rfl (r.fits (id:=4) rfl).1 (by injection e)⟩,hf⟩,
    Sub.wX r (id:=4) (t:=5) rfl rfl ⟨rfl,rfl,rfl,rfl,trivial⟩ rfl ⟨rfl,rfl,rfl,rfl,rfl,rfl,rfl,rfl,trivial⟩ (by simp[jw,SV.sc,At.sc])⟩
  rintro⟨i,gx,V,iv⟩ ⟨A,I,hK,hX⟩;dsimp only at A I hK hX ⊢;refine dQ.mk ?_ ?_<;>intro OZ
  ·have OZ:i<M.length:=by simpa using OZ
   obtain⟨x,F⟩:∃r,M[i]? =some r:=⟨_,aA OZ⟩
   have QJ:=hlen x (aC F);obtain⟨q,hq⟩:∃q,x[k]? =some q:=⟨_,aA (by omega)⟩
   have VE:x.getD k 0=q:=by rw[List.getD,hq];rfl
   obtain⟨adm,um,Rn,Pj,km1,km2⟩:=lI.load hM F;obtain⟨a0,c0,rfl,hc0,-⟩:=dV.shape Pj;obtain⟨adq,W,Wn,hF,_,hl⟩:=dV.load Pj hq;obtain⟨g0,g1,g2,g3,g4,g5,g6,g7,rfl,hF⟩:=hF;refine⟨adm,Rn,by omega,.slice a0 x.length c0,rd1 km2 I (hC _ km1),adq,Wn,by omega,[.bool g0,.slice g1 g2 g3,.bool g4,.slice g5 g6 g7],rfl,rdO hl I X,⟨gx,0,none⟩,rfl,by omega,?_⟩;intro O J r
   have TC:dA V (Bs S w.heap.size iv (.slice (some ⟨gx,0,none⟩) M.length M.length)) (.agg #[.bool g0,.slice g1 g2 g3,.bool g4,.slice g5 g6 g7]) q:=(hF.cK fun g Y=>I.block g (X g Y)).cN fun g Y=>⟨.inl Y,fun e=>by
    have L:=X g Y;rcases hX.new g e with G|⟨G,_⟩
    ·exact G
    ·omega⟩
   obtain⟨g,Y,L,G,N,h4⟩:=hX.store (j:=i) OZ (by rw[aL,F,<-VE];rfl) TC r X;injection Y with Y;injection Y with Y;subst Y;refine⟨L,G,N,fun w5 RY=>?_⟩;obtain⟨k1,k2,k3,k4⟩:=h4 w5 RY;have PE:=(I.tr r.cU).tr k3;have Qh:=dS.cK hK (Bs.kept r X k2 fun g e=>e);refine⟨((i+1:Nat):Int),wo,?_⟩;intro GT w6 E;exact⟨(i+1,gx,w6,_),⟨OZ,PE.tr E.cU,dS.cK Qh (Bs.same E X),k1.rel E X⟩,Sub.gn [] E,by dsimp only;omega⟩
  have OZ:i=M.length:=aR A (by simpa using OZ);rw[OZ]at hX;have hX2:=(hX.done (by simp)).c;replace hK:=(dS.cN hK fun g Y=>Y.1).push (u:=(.slice (some ⟨gx,0,none⟩) M.length M.length)) (x:=M.map fun r=>r.getD k 0) rfl hX2;rw[<-Ou]at hK;refine .inl ?_;refine⟨by simp,by omega,by unfold maxLen;omega,((k+1:Nat):Int),wo,?_⟩;intro GT w3 E;exact⟨(k+1,rv++[(.slice (some ⟨gx,0,none⟩) M.length M.length)],w3,_),⟨Oj,I.tr E.cU,hK.rel E X⟩,Sub.gn [(3,6)] E ⟨by dsimp only;rw[List.length_append,List.length_singleton];rfl,rfl,rfl,rfl,trivial⟩,by dsimp only;omega⟩
 have Oj:k=n:=aR D (by simpa using Oj);rw[List.take_of_length_le (by rw[nJ];omega)]at hK;intro IR we re;refine⟨_,rfl,I.tr re.cU,_,rfl,rv,?_,hK.1,fun i u x k1 k2=>cS.cN (cS.rel (hK.2.2 i u x k1 k2) re X) fun g Y=>Cv.nw Y re⟩;rw[<-hK.1];exact(re.iK (id:=3) (sz:=1) (m:=rv.length) rfl (by simp) (by unfold maxLen;omega) (by decide) hK.2.1).cN fun g Y=>.inr Y
end Go.Ex
