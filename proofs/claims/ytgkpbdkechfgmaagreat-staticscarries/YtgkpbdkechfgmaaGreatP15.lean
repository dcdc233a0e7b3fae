/- Texts X189 to L52: lemmas, each with its conditions. -/
import Derived.Test.YtgkpbdkechfgmaaGreatP14
namespace Go.Ex
open Go Go.Sx Go.Proofs
variable{M:List (List Rat)}{s:List Int}{l:List Ld}{u x xs:List Rat}{h0 n:Nat}{S:Nat->Prop}{v vb vl vn vs vu vx:Value}{f:fA}
theorem CA{r:List Rat}{i:Nat}(h:M[i]? =some r):(ew M x)[i]? =some (dP r x r.length):=by rw[ew,aM,h];rfl
theorem qz{h:Nat}(hlen:fZ n M)(hM:Ht M h)(hx:∀q∈x,rl q+1<=h)(h2:2<=h):∀q∈ew M x,rl q<=2*h*n+2:=fun q hq=>by
 obtain⟨r,hr,rfl⟩:=aU.1 hq;have:=kW (fun q hq=>hM r hr q hq) hx h2 r.length;rw[hlen r hr]at this ⊢;exact this
theorem Fm{w:World}{u:Value}(OE:∀r∈M,r.length=x.length)(hqM:Ht M h0)(Tn:∀q∈x,rl q+1<=h0)(h2:2<=h0)(hb:2*h0*x.length<=90000)(hh:h0<=90000)(hR:M.length<=1000)(hS:Old S w)(hM:cR w S v M)(hx:cS w S u x):
  eA PG N.k9 #[.agg #[v,.int .i64 n],u] w (eF w fun v' w2=>dg w2 FF w.heap.size [(w.heap.size,w2.heap.size)] v' M.length (ew M x)):=by
 have hw:=bR w;obtain⟨am,cm,rfl,Rk,Qg⟩:=dM.shape hM;obtain⟨ax,cx,rfl,Sf,SI⟩:=cY.shape hx;refine oR (by simp) ?_
 refine⟨M.length,M.length,rfl,rfl,aF _,by omega,by omega,Nat×List (List Value)×Iv×World,fun z=>⟨[(1,sV ax x.length cx),(5,.o (.s 1 0 M.length M.length)),(13,sV am M.length cm),(14,iZ M.length),(15,iN z.1)],[(0,.box T.dw [.v (.slice am M.length cm),.v (.int .i64 n)]),(1,.arr T.Rat z.2.1.flatten)],2,z.2.2.1,z.2.2.2⟩,fun z=>M.length-z.1,
  fun z=>z.1<=M.length∧eE w.heap.size w z.2.2.2∧fw z.2.2.2 (Cf w z.2.2.1) (M.length) z.1 z.2.1 (ew M x),?_,?_⟩
 ·intro O w' r;exact⟨(0,List.replicate (M.length) f0,_,w'),⟨by simp,hw.tr r.cQ,fw.start _ _ _ _⟩,Sub.gn [] r⟩
 clear hw;rintro⟨i,css,iv,w1⟩ ⟨hi,hw,hF⟩;dsimp only at hi hw hF ⊢;refine dK.mk ?_ ?_<;>intro h
 ·have h:i<M.length:=by simpa using h
  obtain⟨y,hy⟩:∃r,M[i]? =some r:=⟨_,aB h⟩
  have VA:=OE y (aC hy);obtain⟨adm,um,Qd,Oh,km1,km2⟩:=dM.load hM hy;obtain⟨a0,c0,rfl,Tu,-⟩:=cY.shape Oh;refine⟨adm,Qd,by omega,.slice a0 y.length c0,rd1 km2 hw (hS _ km1),?_⟩;refine cF (cE hw (fun _ w' v w2=>cT w2 (Nf w' w2) v (dP y x y.length)) (fun O w' r=>AZ (h:=h0) (oS hS r) (cS.cJ (cI.l Oh fun q hq=>by have:=hqM y (aC hy) q hq;omega) (kS hw r hS)) (cS.cJ hx (kS hw r hS)) (by omega) (fun q hq=>hqM y (aC hy) q hq) Tn h2 (by rw[VA];exact hb)) ?_);rintro O _ _ _ OJ r he hw h_ hn;replace hF:=hF.cG r (cC w) he (mC h_);have hd:=hn.dB (S:=FF) r.cD (mN h_);clear r;obtain⟨A0,A1,A2,A3,A4,A5,A6,A7,rfl⟩:=hd.shape;have OL:=hF.next h (q:=_) (CA hy) hd
  refine⟨by omega,by have:=hF.flat;omega,(css.set i [.bool A0,.slice A1 A2 A3,.bool A4,.slice A5 A6 A7]).flatten,?_,?_⟩
  ·have:=jN (cs:=[.bool A0,.slice A1 A2 A3,.bool A4,.slice A5 A6 A7]) hF.four (show i<css.length by rw[hF.len];exact h);rw[<-this];simp
  refine⟨((i+1:Nat):Int),wo,?_⟩;intro ρ3 w3 r3;exact⟨(i+1,css.set i [.bool A0,.slice A1 A2 A3,.bool A4,.slice A5 A6 A7],_,w3),⟨h,hw.tr r3.cQ,OL.rel r3 (cC w)⟩,Sub.gn [] r3,by dsimp only;omega⟩
 have h:i=M.length:=aO hi (by simpa using h);subst h;exact rtn hw fun ρe we re=>hF.done (by rw[ei]) (by unfold maxLen;omega) re (id:=1) rfl (re.nn 1 _ rfl (by intros;simp) (by simp))
theorem Ms{w:World}{q:Rat}(hS:Old S w)(hq:eS w S v q):eA PG N.fc #[v] w (eF w fun v' _=>v'= .bool (decide (q≠0))):=by
 have hw:=bR w;obtain⟨f0,f1,f2,f3,f4,f5,f6,f7,rfl⟩:=hq.shape;refine nU (by simp) ?_;refine cF (cE hw (fun _ w' v w2=>∃d,v= .bool d∧(d=true↔q=0)) (fun O w' r=>kx (oS hS r) (hq.cJ (kS hw r hS))) ?_);rintro O _ _ _ OJ r he hw h_ ⟨d,rfl,hd⟩;clear r;intro ρe we re
 exact⟨_,rfl,hw.tr re.cQ,by show Value.bool (!d)=_;cases d with
  |true=>simp[hd.1 rfl]
  |false=>
   have h0:q≠0:=fun h=>by have:=hd.2 h;cases this
   simp[h0]⟩
theorem Fo{w:World}(hS:Old S w)(hx:cS w S v xs):
  eA PG N.ff #[v,fnV N.fc] w (eF w fun v' _=>∃z:Int,v'= .int .i64 z∧ -1<=z∧z<=9223372036854775807∧(0<=z↔∃x∈xs,x≠0)):=by
 have hw:=bR w;obtain⟨ax,cx,rfl,Sf,SI⟩:=cY.shape hx;unfold maxLen at SI;refine iM (by simp) ?_
 refine⟨Nat×World×Iv,fun z=>⟨[(0,sV ax xs.length cx),(1,.o (.v (fnV N.fc))),(7,iZ xs.length),(8,iN z.1)],[],0,z.2.2,z.2.1⟩,fun z=>xs.length-z.1,
  fun z=>z.1<=xs.length∧eE w.heap.size w z.2.1∧∀j x,j<z.1->xs[j]? =some x->x=0,?_,?_⟩
 ·intro O w' r;exact⟨(0,w',[]),⟨by simp,r.cQ,by simp⟩,Sub.gn [] r⟩
 clear hw;rintro⟨i,w1,iv⟩ ⟨hi,hw,ht⟩;dsimp only at hi hw ht ⊢;refine dK.mk ?_ ?_<;>intro OC
 ·have OC:i<xs.length:=by simpa using OC
  obtain⟨x,PL⟩:∃x,xs[i]? =some x:=⟨_,aB OC⟩
  obtain⟨adx,csx,PC,Qn,-,Oa⟩:=cY.load hx PL;obtain⟨p0,p1,p2,p3,p4,p5,p6,p7,rfl,Qn⟩:=Qn;refine⟨adx,PC,by omega,[.bool p0,.slice p1 p2 p3,.bool p4,.slice p5 p6 p7],rfl,rdO Oa hw hS,?_⟩;refine cF (cE hw (fun _ w' v w2=>v= .bool (decide (x≠0))) (fun O w' r=>Ms (oS hS r) (Qn.cJ (kS hw r hS))) ?_);rintro O _ _ _ OJ r he hw h_ rfl;clear r;refine dK.mk ?_ ?_<;>intro he
  ·have UD:x≠0:=by simpa using he
   exact rtn hw fun ρe we re=>⟨_,rfl,by omega,by omega,iff_of_true (by omega) ⟨x,aC PL,UD⟩⟩
  have UD:x=0:=by simpa using he
  refine⟨((i+1:Nat):Int),wo,?_⟩;intro ρ3 w3 r3;refine⟨(i+1,w3,_),⟨OC,hw.tr r3.cQ,fun j y hj hy=>?_⟩,Sub.gn [] r3,by dsimp only;omega⟩;rcases aP j i with h|h
  ·exact ht j y h hy
  obtain rfl:j=i:=by dsimp only at hj;omega
  rw[PL]at hy;injection hy with hy;rw[<-hy,UD]
 have OC:i=xs.length:=aO hi (by simpa using OC);intro ρe we re
 exact⟨_,rfl,hw.tr re.cQ,⟨_,rfl,by omega,by omega,iff_of_false (by omega) fun⟨x,hm,h0⟩=>by
   obtain⟨j,hj⟩:=aS hm;have TA:j<xs.length:=(aD.1 hj).1
   exact h0 (ht j x (by omega) hj)⟩⟩
theorem Am{w:World}(hS:Old S w)(hx:cS w S v xs):
  eA PG N.fN #[v,fnV N.fc] w (eF w fun v' _=>v'= .bool (decide (∃x∈xs,x≠0))):=by
 have hw:=bR w;have Qi:=hx;obtain⟨ax,cx,rfl,Sf,-⟩:=cY.shape Qi;refine gv (by simp) ?_;refine cF (cE hw (fun _ w' v w2=>∃z:Int,v= .int .i64 z∧ -1<=z∧z<=9223372036854775807∧(0<=z↔∃x∈xs,x≠0)) (fun O w' r=>Fo (oS hS r) (cS.cJ hx (kS hw r hS))) ?_);rintro O _ _ _ OJ r he hw h_ ⟨z,rfl,OR,Oq,hz⟩;clear r;exact rtn hw fun ρe we re=>by rw[show decide (∃x∈xs,x≠0)=decide (z≥0)from Bool.eq_iff_iff.2 (by rw[decide_eq_true_eq,decide_eq_true_eq];exact hz.symm)];rfl
set_option maxHeartbeats 400000 in
theorem Fp{w:World}{u t:Value}{p:List Rat}(hlen:fZ n M)(hqM:Ht M h0)(Tn:∀q∈x,rl q+1<=h0)(h2:2<=h0)(hb:2*h0*x.length<=90000)(hh:h0<=90000)(hR:M.length<=1000)(hS:Old S w)(hM:cR w S v M)(hx:cS w S u x)(hp:cS w S t p)(PR:p.length=M.length)(hqp:∀q∈p,rl q<=1):
  eA PG N.nP #[.agg #[v,.int .i64 n],u,t] w (eF w fun v' _=>∃d,v'= .bool d∧(d=true↔x.length=n∧∀(j:Nat) a b,(ew M x)[j]? =some a->p[j]? =some b->a+b=0)):=by
 have hw:=bR w;obtain⟨am,cm,rfl,Rk,Qg⟩:=dM.shape hM;obtain⟨ax,cx,rfl,Sf,SI⟩:=cY.shape hx;obtain⟨ap,cp,rfl,hcp,hmp⟩:=cY.shape hp;refine rI (by simp) ?_;refine dK.mk ?_ ?_<;>intro hl
 ·have hl:x.length≠n:=fun e=>by rw[e]at hl;simp at hl
  exact rtn hw fun ρe we re=>⟨false,rfl,iff_of_false (by simp) fun h=>hl h.1⟩
 have Pz:(x.length:Int)=n:=by simpa using hl
 have PQ:x.length=n:=by omega
 clear hl Pz;refine cF (cE hw (fun _ w' v w2=>dg w2 FF w'.heap.size [(w'.heap.size,w2.heap.size)] v M.length (ew M x)) (fun O w' r=>Fm (h0:=h0) (fun y hy=>(hlen y hy).trans PQ.symm) hqM Tn h2 hb hh hR (oS hS r) (cR.cJ hM (kS hw r hS)) (cS.cJ hx (kS hw r hS))) ?_);rintro O _ _ _ OJ r he hw h_ hn;have hT:=(hn.dB (S:=FF) r.cD (mN h_)).c;clear r;clear hn;have RD:(ew M x).length=M.length:=ei M x;have Vs:=qz hlen hqM Tn h2;have h2n:2*h0*n<=90000:=by rw[<-PQ];exact hb
 obtain⟨at_,ct,rfl,-,-⟩:=cY.shape hT;rw[RD];generalize ew M x=t at*
 refine⟨Nat×World×Iv,fun z=>⟨[(2,sV ap p.length cp),(16,sV at_ M.length ct),(17,iZ M.length),(18,iN z.1)],[],1,z.2.2,z.2.1⟩,fun z=>M.length-z.1,
  fun z=>z.1<=M.length∧eE w.heap.size w z.2.1∧cI z.2.1 (Cf w z.2.2) (.slice at_ M.length ct) t∧∀j a b,j<z.1->t[j]? =some a->p[j]? =some b->a+b=0,?_,?_⟩
 ·intro O w' r3;exact⟨(0,w',_),⟨aQ _,hw.tr r3.cQ,by have:=cI.rel hT r3 (cC w);rw[RD]at this;exact this,fun j a b hj=>absurd hj (cB j)⟩,Sub.gn [] r3⟩
 clear hw hT;rintro⟨i,w1,iv⟩ ⟨hi,hw,hT,hz⟩;dsimp only at hi hw hT hz ⊢;refine dK.mk ?_ ?_<;>intro OC
 ·have OC:i<M.length:=by simpa using OC
  obtain⟨a,ha⟩:∃q,t[i]? =some q:=⟨_,aB (by omega)⟩
  obtain⟨b,Oe⟩:∃q,p[i]? =some q:=⟨_,aB (by omega)⟩
  obtain⟨ada,csa,haa,VQ,-,PW⟩:=cY.load hT ha;obtain⟨f0,f1,f2,f3,f4,f5,f6,f7,rfl,VQ⟩:=VQ;have VQ:=VQ.l (by have:=Vs a (aC ha);omega);obtain⟨adb,csb,Pf,hFb,-,Od⟩:=cY.load hp Oe;obtain⟨q0,q1,q2,q3,q4,q5,q6,q7,rfl,hFb⟩:=hFb;refine⟨ada,haa,by omega,[.bool f0,.slice f1 f2 f3,.bool f4,.slice f5 f6 f7],rfl,fun O w' r j u hu=>?_,?_⟩
  ·obtain⟨k1,k2⟩:=PW j u hu;rw[aE,cH (w:=w1) (w2:=w') (by rw[dN,dN];exact Rel.same r (cC w) k1)];exact k2
  refine cM hτ df [.x 0,.x 1,.x 2,.x 3,.x 4,.x 5,.x 6,.x 7] (by kernel_rfl) (by kernel_rfl) ?_;refine⟨adb,Pf,by omega,[.bool q0,.slice q1 q2 q3,.bool q4,.slice q5 q6 q7],rfl,rdO Od hw hS,?_⟩;refine cE hw (fun _ w' v w2=>cT w2 (Nf w' w2) v (a+b)) (fun O w' r=>Gu (S:=Cv S w.heap.size iv) (Rel.old r hS) ((VQ.rel r (cC w)).cK fun g hg=>D7 hg).v ((hFb.cJ (kS hw r hS)).cK fun g hg=>.inl hg).v) ?_;rintro O _ _ _ OG r he hw h_ hn;replace hT:=cI.cG hT r (cC w) he (mC h_);have hd:=hn.dB (S:=FF) r.cD (mN h_);clear r;obtain⟨A0,A1,A2,A3,A4,A5,A6,A7,rfl⟩:=hd.shape;refine cE hw (fun _ w' v w2=>∃d,v= .bool d∧(d=true↔a+b=0)) (fun O w' r=>kx (S:=Cf w OG) (Rel.old r (cC w)) ((hd.rel r (cC w)).l (by have:=oM a b;have:=Vs a (aC ha);have:=hqp b (aC Oe);omega))) ?_;rintro O _ _ _ ON r he hw h_ ⟨d,rfl,RL⟩;replace hT:=cI.cG hT r (cC w) he (mC h_);clear hd;clear r
  cases d
  ·conv=>whnf
   exact rtn hw fun ρe we re=>⟨false,rfl,iff_of_false (by simp) fun h=>by have:=RL.2 (h.2 i a b ha Oe);cases this⟩
  refine⟨((i+1:Nat):Int),wo,?_⟩;intro ρ3 w3 r3;refine⟨(i+1,w3,_),⟨OC,hw.tr r3.cQ,cI.rel hT r3 (cC w),fun j a2 b2 hj h5 h6=>?_⟩,Sub.gn [] r3,by dsimp only;omega⟩;rcases aP j i with h|h
  ·exact hz j a2 b2 h h5 h6
  obtain rfl:j=i:=by dsimp only at hj;omega
  rw[ha]at h5;rw[Oe]at h6;injection h5 with h5;injection h6 with h6;rw[<-h5,<-h6];exact RL.1 rfl
 have OC:i=M.length:=aO hi (by simpa using OC);exact rtn hw fun ρe we re=>⟨true,rfl,iff_of_true rfl ⟨PQ,fun j a b h5 h6=>hz j a b (by have:=(aD.1 h5).1;omega) h5 h6⟩⟩
def EqB(f:fA)(l:List Ld)(b:Rat)(x:List Rat):Prop:=x.length=f.cols∧ew (cP f) x=cW (dI f l) (-b)
def Hx(f:fA)(l:List Ld)(u:List Rat):Prop:=u.length=3*f.nodes.length∧ew (cd (cP f) f.cols) u=List.replicate f.cols 0∧dP (dI f l) u (dI f l).length=1
def IL(f:fA)(l:List Ld)(k:Int)(x u:List Rat):Prop:=(k=0∧u.length=0∧EqB f l 1 x)∨(k=1∧x.length=0∧Hx f l u)
theorem Le(h:FrS f):Ht (cP f) 4:=fun r hr q hq=>by
 obtain⟨i,hi⟩:=aS hr;obtain⟨t,ht⟩:=aS hq;have:=h.pe i t;rw[dD,getD_some hi,getD_some ht]at this;obtain⟨z,rfl,hz⟩:=this;have:rl ((z:Int):Rat)<=2:=IJ (by omega);omega
theorem Lf(h:FrS f):Ht (cd (cP f) f.cols) 4:=fun r hr q hq=>by
 obtain⟨i,hi⟩:=aS hr;obtain⟨t,ht⟩:=aS hq;have hil:i<f.cols:=by have:=(aD.1 hi).1;rwa [dY]at this
 have:=h.pe t i;rw[<-kP (M:=cP f) hil,dD,getD_some hi,getD_some ht]at this;obtain⟨z,rfl,hz⟩:=this;have:rl ((z:Int):Rat)<=2:=IJ (by omega);omega
theorem yR(h:FrS f):Ht (cP f) 41:=fun r hr q hq=>by have:=Le h r hr q hq;omega
theorem nc(h:FrS f):Ht (cd (cP f) f.cols) 41:=fun r hr q hq=>by have:=Lf h r hr q hq;omega
theorem Dp:(x.length=f.cols∧∀(j:Nat) a b,(ew (cP f) x)[j]? =some a->(dI f l)[j]? =some b->a+b=0)↔EqB f l 1 x:=by
 refine and_congr_right fun _=>⟨fun h=>?_,fun h j a b h1 h2=>?_⟩
 ·refine fH 0 (by rw[ei,cW,aK,fM,e9]) fun i hi=>?_;have Tj:i<(dI f l).length:=by rw[ei,e9]at hi;rw[fM];exact hi
  have:=h i _ _ (aB hi) (aB Tj);rw[List.getD,aB hi,cW,List.getD,aM,aB Tj];show(ew (cP f) x)[i]=(dI f l)[i]* -1;grind
 ·rw[h,cW,aM,h2]at h1;injection h1 with h1;have h1:b* -1=a:=h1;rw[<-h1];grind
theorem Fq:(¬∃q∈ew (cd (cP f) f.cols) u,q≠0)↔ew (cd (cP f) f.cols) u=List.replicate f.cols 0:=by
 have hl:(ew (cd (cP f) f.cols) u).length=f.cols:=by rw[ei,dY]
 constructor
 ·intro h;rw[List.eq_replicate_iff];exact⟨hl,fun q hq=>Decidable.byContradiction fun h0=>h ⟨q,hq,h0⟩⟩
 ·rintro h ⟨q,hq,h0⟩;rw[h]at hq;exact h0 (bP hq)
set_option maxHeartbeats 1000000 in
theorem ry{w:World}(hS:Old S w)(hf:dU w S vn vb vs f)(hl:fL w S vl l)(R7:eL f=0->FrS f){k:Int}(hx:cS w S vx x)(hu:cS w S vu u)(hxq:∀q∈x,rl q<=40)(TV:∀q∈u,rl q<=40)(hx80:x.length<=80)(UY:u.length<=80):
  eA PG N.lZ #[.agg #[vn,vb,vs],vl,.agg #[.int .i64 k,vx,vu]] w (eF w fun v' _=>(gR f l≠0∧v'= .int .i64 (gR f l))∨(gR f l=0∧((v'= .int .i64 0∧IL f l k x u)∨(v'= .int .i64 25∧¬IL f l k x u)))):=by
 have hw:=bR w;obtain⟨an,cn,ab,cb,aq,cq,rfl,rfl,rfl,Q1,Qh,RN⟩:=hf.shape;obtain⟨al,cl,rfl,PU,QO⟩:=hl.shape;obtain⟨ax,cx,rfl,Sf,SI⟩:=cY.shape hx;obtain⟨au,cu,rfl,hcu,hmu⟩:=cY.shape hu;unfold maxLen at SI hmu;obtain⟨e0,EE⟩:∃e,gR f l=e:=⟨_,rfl⟩
 refine pD (by simp) ?_;refine cF (cE hw (fun _ w' v w2=>v= .int .i64 e0) (fun O w' r=>(jf (oS hS r) (hf.cJ (kS hw r hS)) (hl.cJ (kS hw r hS))).mono fun _ _ ⟨v2,e1,e2,e3⟩=>⟨v2,e1,e2,by rw[e3,EE]⟩) ?_);rintro O Pg v1 PS OJ r he hw h_ rfl;clear r;refine dK.mk ?_ ?_<;>intro he
 ·have he:e0≠0:=by simpa using he
  exact rtn hw fun ρe we re=>.inl ⟨by rw[EE];exact he,by rw[EE];rfl⟩
 have he:e0=0:=by simpa using he
 have Qj:gR f l=0:=by rw[EE,he]
 obtain⟨OP,PE⟩:=jX Qj;have OO:=R7 OP;have PE:=uW PE;clear EE he;have Re:=OO.FA;have RX:=OO.Hs;have RD:=e9 f;have hlen:=fE f;have Vt:=OO.n4;have OF:=jS OP;have QQ:=fM f l;have Tu:f.cols=f.bars.length+f.cX.length:=rfl;refine cM hτ df [.x 0,.x 2,.x 3,.p 5,.x 1,.x 4,.x 5,.x 6,.x 7] (by kernel_rfl) (by kernel_rfl) ?_;refine cE hw (fun _ w' v w2=>(∃vr,v= .agg #[vr,.int .i64 f.cols]∧cR w2 (Nf w' w2) vr (cP f))∧fZ f.cols (cP f)∧Ht (cP f) 2) (fun O w' r=>lh (S:=S) (oS hS r) (hf.cJ (kS hw r hS)) OF) ?_;rintro O _ _ _ ivt r he hw h_ ⟨⟨vr,rfl,k1⟩,-,-⟩;have hM:=cR.dB (S:=FF) k1 r.cD (mN h_);clear r he;obtain⟨am,cm,rfl,Rk,Qg⟩:=dM.shape hM
 refine cE hw (fun _ w' v w2=>cI w2 (Nf w' w2) v (dI f l)∧∀q∈dI f l,rl q<=1) (fun O w' r=>(qv (oS hS r) (hl.cJ (kS hw r hS)) OO.n PE rfl rfl).mono fun _ _ ⟨v2,e1,e2,e3,e4⟩=>⟨v2,e1,e2,cI.cK e3.c fun g hg=>hg.elim (fun h=>h.elim) fun⟨_,lo,hi,h2,h3,h4⟩=>by
  simp at h2;obtain⟨rfl,rfl⟩:=h2
  exact .inr ⟨h3,h4⟩,e4⟩) ?_
 rintro O _ v2 _ OG r he hw h_ ⟨hn,RQ⟩;replace hM:=cR.cG hM r (cC w) he (mC h_);have hP:=cI.dB (S:=FF) hn r.cD (mN h_);clear r he;clear hn;obtain⟨ap,cp,rfl,-,-⟩:=cY.shape hP;rw[QQ];rcases(show k=0∨k=1∨k≠0∧k≠1 by omega)with rfl|rfl|⟨RA,VM⟩
 ·conv=>whnf
  refine dK.mk ?_ ?_<;>intro h0
  ·have h0:u.length=0:=by simpa using h0
   refine cF (cE hw (fun _ w' v w2=>∃d,v= .bool d∧(d=true↔EqB f l 1 x)) (fun O w' r=>(Fp (S:=fun g=>S g∨Cf w OG g) (h0:=41) (p:=dI f l) hlen (yR OO) (fun q hq=>by have:=hxq q hq;omega) (by decide) (by omega) (by decide) (by omega) (fun g hg=>hg.elim (oS hS r g) (Rel.old r (cC w) g)) (cR.cK (cR.rel hM r (cC w)) fun g hg=>.inr hg) (cS.cK (cS.cJ hx (kS hw r hS)) fun g hg=>.inl hg) (cS.cK (cI.l (by have:=cI.rel hP r (cC w);rw[QQ]at this;exact this) fun q hq=>by have:=RQ q hq;omega) fun g hg=>.inr hg) (by rw[QQ,RD]) RQ).mono fun _ _ ⟨v2,e1,e2,d,e3,e4⟩=>⟨v2,e1,e2,d,e3,e4.trans Dp⟩) ?_);rintro O PH v3 PD ON r he hw h_ ⟨d,rfl,hd⟩;replace hM:=cR.cG hM r (cC w) he (mC h_);replace hP:=cI.cG hP r (cC w) he (mC h_);clear r he
   cases d
   ·conv=>whnf
    exact rtn hw fun ρe we re=>.inr ⟨Qj,.inr ⟨rfl,fun h=>by rcases h with⟨_,_,h⟩|⟨h,_⟩;(have:=hd.2 h;cases this);cases h⟩⟩
   exact rtn hw fun ρe we re=>.inr ⟨Qj,.inl ⟨rfl,.inl ⟨rfl,h0,hd.1 rfl⟩⟩⟩
  have h0:u.length≠0:=by simpa using h0
  exact rtn hw fun ρe we re=>.inr ⟨Qj,.inr ⟨rfl,fun h=>by rcases h with⟨_,h,_⟩|⟨h,_⟩;exact h0 h;cases h⟩⟩
 ·conv=>whnf
  refine dK.mk ?_ ?_<;>intro h0
  ·have h0:x.length=0:=by simpa using h0
   refine dK.mk ?_ ?_<;>intro h1
   ·have h1:(u.length:Int)=((3*f.nodes.length:Nat):Int):=by simpa using h1
    have h1:u.length=3*f.nodes.length:=by omega
    refine cM hτ df [.x 0,.x 2,.x 3,.x 1,.x 4,.x 5,.x 6] (by kernel_rfl) (by kernel_rfl) ?_;refine cO (Φ:=fun _ w' v w2=>∃vr,v= .agg #[vr,.int .i64 (cP f).length]∧cR w2 (Nw (Cf w OG) w' w2) vr (cd (cP f) f.cols)) (fun O w' r=>mr (C:=Cf w OG) (S:=Cf w OG) (Rel.old r (cC w)) (Rel.old r (cC w)) (cR.rel hM r (cC w)) hlen (by omega) (by omega)) ?_;rintro O PH v3 PD r he hb ⟨vt,rfl,hn⟩;replace hw:=hw.tr hb;clear hM;replace hP:=cI.cG (iv':=(PH.heap.size,PD.heap.size)::OG) hP r (cC w) he fun x hx=>List.mem_cons_of_mem _ hx;have hT:=cR.old hn r.cD;clear r he hb;generalize (PH.heap.size,PD.heap.size)::OG=ON at*
    clear hn;obtain⟨at_,ct,rfl,-,-⟩:=dM.shape hT
    refine cE hw (fun _ w' v w2=>cI w2 (Nf w' w2) v (ew (cd (cP f) f.cols) u)) (fun O w' r=>(Fm (S:=fun g=>S g∨Cf w ON g) (h0:=41) (fun y hy=>by rw[eP _ _ y hy,h1,RD]) (nc OO) (fun q hq=>by have:=TV q hq;omega) (by decide) (by omega) (by decide) (by rw[dY];omega) (fun g hg=>hg.elim (oS hS r g) (Rel.old r (cC w) g)) (cR.cK (cR.rel hT r (cC w)) fun g hg=>.inr hg) (cS.cK (cS.cJ hu (kS hw r hS)) fun g hg=>.inl hg)).mono fun _ _ ⟨v2,e1,e2,e3⟩=>⟨v2,e1,e2,cI.cK e3.c fun g hg=>hg.elim (fun h=>h.elim) fun⟨_,lo,hi,h2,h3,h4⟩=>by
     simp at h2;obtain⟨rfl,rfl⟩:=h2
     exact .inr ⟨h3,h4⟩⟩) ?_
    rintro O _ _ _ OZ r he hw h_ hn;replace hP:=cI.cG hP r (cC w) he (mC h_);clear hT;have hU:=cI.dB (S:=FF) hn r.cD (mN h_);clear r he;clear hn;obtain⟨aw,cw,rfl,-,-⟩:=cY.shape hU;have Vs:=qz (x:=u) (eP (cP f) f.cols) (nc OO) (fun q hq=>by have:=TV q hq;omega) (by decide);obtain⟨b,UI⟩:∃b,decide (∃q∈ew (cd (cP f) f.cols) u,q≠0)=b:=⟨_,rfl⟩
    refine cE hw (fun _ w' v w2=>v= .bool b) (fun O w' r=>(Am (S:=Cf w OZ) (Rel.old r (cC w)) (cI.l (cI.rel hU r (cC w)) fun q hq=>by have:=Vs q hq;omega)).mono fun _ _ ⟨v2,e1,e2,e3⟩=>⟨v2,e1,e2,by rw[e3,<-UI]⟩) ?_;rintro O _ _ _ PF r he hw h_ rfl;replace hP:=cI.cG hP r (cC w) he (mC h_);clear hU;clear r he
    cases b
    ·have PM:=Fq.1 (aH UI);refine cF (cE hw (fun _ w' v w2=>cT w2 (Nf w' w2) v (dP (dI f l) u (dI f l).length)) (fun O w' r=>AZ (S:=fun g=>S g∨Cf w PF g) (h:=41) (fun g hg=>hg.elim (oS hS r g) (Rel.old r (cC w) g)) (cS.cK (cI.l (by have:=cI.rel hP r (cC w);rw[QQ]at this;exact this) fun q hq=>by have:=RQ q hq;omega) fun g hg=>.inr hg) (cS.cK (cS.cJ hu (kS hw r hS)) fun g hg=>.inl hg) (by omega) (fun q hq=>by have:=RQ q hq;omega) (fun q hq=>by have:=TV q hq;omega) (by decide) (by omega)) ?_);rintro O _ _ _ Q2 r he hw h_ hn;replace hP:=cI.cG hP r (cC w) he (mC h_);have hd:=hn.dB (S:=FF) r.cD (mN h_);clear r he;obtain⟨A0,A1,A2,A3,A4,A5,A6,A7,rfl⟩:=hd.shape;have hdr:=kW (h:=41) (xs:=dI f l) (ys:=u) (fun q hq=>by have:=RQ q hq;omega) (fun q hq=>by have:=TV q hq;omega) (by decide) (dI f l).length;refine cF (cE hw (fun _ w' v w2=>cT w2 (Nf w' w2) v ((1:Int):Rat)) (fun O w' r=>jM 1 w' (by decide) (by decide)) ?_);rintro O _ _ _ RP r he hw h_ hn;replace hP:=cI.cG hP r (cC w) he (mC h_);replace hd:=hd.cG r (cC w) he (mC h_);have ho:=hn.dB (S:=FF) r.cD (mN h_);clear r he;obtain⟨C0,C1,C2,C3,C4,C5,C6,C7,rfl⟩:=ho.shape;refine cF (cE hw (fun _ w' v w2=>v= .int .i64 (rs (dP (dI f l) u (dI f l).length-((1:Int):Rat)))) (fun O w' r=>D6 (S:=Cf w RP) (Rel.old r (cC w)) ((hd.rel r (cC w)).l (by omega)).v ((ho.rel r (cC w)).l (by decide)).v) ?_);rintro O _ _ _ Rg r he hw h_ rfl;replace hP:=cI.cG hP r (cC w) he (mC h_);clear hd;clear ho;clear r he;obtain⟨cf,Rt⟩:∃c,rs (dP (dI f l) u (dI f l).length-((1:Int):Rat))=c:=⟨_,rfl⟩
     rw[Rt];refine dK.mk ?_ ?_<;>intro h2
     ·have h2:cf=0:=by simpa using h2
      rw[h2]at Rt;have hdot:=Fs.1 Rt;exact rtn hw fun ρe we re=>.inr ⟨Qj,.inl ⟨rfl,.inr ⟨rfl,h0,h1,PM,hdot⟩⟩⟩
     have h2:cf≠0:=by simpa using h2
     exact rtn hw fun ρe we re=>.inr ⟨Qj,.inr ⟨rfl,fun h=>by rcases h with⟨h,_⟩|⟨_,Qi,Qv,Rp,TW⟩;cases h;exact h2 (by rw[<-Rt];exact Fs.2 TW)⟩⟩
    exact rtn hw fun ρe we re=>.inr ⟨Qj,.inr ⟨rfl,fun h=>by rcases h with⟨h,_⟩|⟨_,Qi,Qv,Rp,TW⟩;cases h;exact(Fq.2 Rp) (aI UI)⟩⟩
   have h1:(u.length:Int)≠((3*f.nodes.length:Nat):Int):=by simpa using h1
   exact rtn hw fun ρe we re=>.inr ⟨Qj,.inr ⟨rfl,fun h=>by rcases h with⟨h,_⟩|⟨_,Qi,Qv,Rp,TW⟩;cases h;exact h1 (by rw[Qv])⟩⟩
  have h0:x.length≠0:=by simpa using h0
  exact rtn hw fun ρe we re=>.inr ⟨Qj,.inr ⟨rfl,fun h=>by rcases h with⟨h,_⟩|⟨_,Qi,Qv,Rp,TW⟩;cases h;exact h0 Qi⟩⟩
 refine dK.mk (fun h0=>absurd (by simpa using h0) RA) (fun _=>?_);refine dK.mk (fun h0=>absurd (by simpa using h0) VM) (fun _=>?_);exact rtn hw fun ρe we re=>.inr ⟨Qj,.inr ⟨rfl,fun h=>by rcases h with⟨h,_⟩|⟨h,_⟩;exact RA h;exact VM h⟩⟩
theorem CU{w:World}{u:Value}{y:List Rat}(hS:Old S w)(hx:cS w S v x)(hy:cS w S u y):eA PG N.xN #[v,u] w (eF w fun v' _=>∃d,v'= .bool d∧(d=true↔x=y)):=by
 have hw:=bR w;obtain⟨ax,cx,rfl,-,SI⟩:=cY.shape hx;obtain⟨ay,cy,rfl,-,hmy⟩:=cY.shape hy;unfold maxLen at SI hmy;refine AV (by simp) ?_;refine dK.mk ?_ ?_<;>intro hl
 ·have hl:x.length≠y.length:=fun e=>by rw[e]at hl;simp at hl
  exact rtn hw fun ρe we re=>⟨false,rfl,iff_of_false (by simp) fun h=>hl (by rw[h])⟩
 have Pz:(x.length:Int)=y.length:=by simpa using hl
 have PQ:x.length=y.length:=by omega
 clear hl Pz
 refine⟨Nat×World×Iv,fun z=>⟨[(0,sV ax x.length cx),(1,sV ay y.length cy),(5,iN z.1)],[],0,z.2.2,z.2.1⟩,fun z=>x.length-z.1,
  fun z=>z.1<=x.length∧eE w.heap.size w z.2.1∧∀(j:Nat),j<z.1->x.getD j 0=y.getD j 0,?_,?_⟩
 ·intro O w' r3;exact⟨(0,w',_),⟨aQ _,hw.tr r3.cQ,fun j hj=>absurd hj (cB j)⟩,Sub.gn [] r3⟩
 clear hw;rintro⟨i,w1,iv⟩ ⟨hi,hw,ht⟩;dsimp only at hi hw ht ⊢;refine dK.mk ?_ ?_<;>intro OC
 ·have OC:i<x.length:=by simpa using OC
  obtain⟨a,ha⟩:∃q,x[i]? =some q:=⟨_,aB OC⟩
  obtain⟨b,Oe⟩:∃q,y[i]? =some q:=⟨_,aB (by omega)⟩
  obtain⟨ada,csa,haa,VQ,-,PW⟩:=cY.load hx ha;obtain⟨f0,f1,f2,f3,f4,f5,f6,f7,rfl,VQ⟩:=VQ;obtain⟨adb,csb,Pf,hFb,-,Od⟩:=cY.load hy Oe;obtain⟨q0,q1,q2,q3,q4,q5,q6,q7,rfl,hFb⟩:=hFb;refine cM hτ df [.x 0,.x 1,.x 2,.x 3,.x 4,.x 5,.x 6,.x 7,.x 8,.x 9] (by kernel_rfl) (by kernel_rfl) ?_;refine⟨ada,haa,by omega,[.bool f0,.slice f1 f2 f3,.bool f4,.slice f5 f6 f7],rfl,rdO PW hw hS,adb,Pf,by omega,[.bool q0,.slice q1 q2 q3,.bool q4,.slice q5 q6 q7],rfl,rdO Od hw hS,?_⟩;refine cE hw (fun _ w' v w2=>v= .int .i64 (rs (a-b))) (fun O w' r=>Lg (oS hS r) (VQ.cJ (kS hw r hS)) (hFb.cJ (kS hw r hS))) ?_;rintro O _ _ _ OJ r he hw h_ rfl;clear r;obtain⟨cf,Rt⟩:∃c,rs (a-b)=c:=⟨_,rfl⟩
  rw[Rt];refine dK.mk ?_ ?_<;>intro he
  ·have he:cf≠0:=by simpa using he
   exact rtn hw fun ρe we re=>⟨false,rfl,iff_of_false (by simp) fun h=>he (by rw[<-Rt];refine Fs.2 ?_;rw[h,Oe]at ha;injection ha with ha;exact ha.symm)⟩
  have he:cf=0:=by simpa using he
  rw[he]at Rt;have Ow:=Fs.1 Rt;refine⟨((i+1:Nat):Int),wo,?_⟩;intro ρ3 w3 r3;refine⟨(i+1,w3,_),⟨OC,hw.tr r3.cQ,fun j hj=>?_⟩,Sub.gn [] r3,by dsimp only;omega⟩;rcases aP j i with h|h
  ·exact ht j h
  obtain rfl:j=i:=by dsimp only at hj;omega
  rw[getD_some ha,getD_some Oe,Ow]
 have OC:i=x.length:=aO hi (by simpa using OC);exact rtn hw fun ρe we re=>⟨true,rfl,iff_of_true rfl (fH 0 PQ fun j hj=>ht j (by omega))⟩
theorem Lh{t:Int}(h:MR s t)(ht:0<=t)(j:Nat): -t<=s.getD j 0∧s.getD j 0<=t:=by
 rcases aP j s.length with hj|hj
 ·rw[getD_some (aB hj)];exact h _ (aY hj)
 ·rw[List.getD,List.getElem?_eq_none hj];show -t<=0∧0<=t;omega
theorem CV{s:List Int}{x:Ld}{t:Int}(h:MR s t)(ht:0<=t)(hx:(-1000000<=x.2.1∧x.2.1<=1000000)∧(-1000000<=x.2.2.1∧x.2.2.1<=1000000)∧(-1000000<=x.2.2.2∧x.2.2.2<=1000000)):∀k,k<=3->MR (gT s x k) (t+1000000*(k:Int))
 |0,_=>by rw[gT];simpa using h
 |k+1,hk=>by
  have ih:=CV h ht hx k (by omega);have hd: -1000000<=(OB x).getD k 0∧(OB x).getD k 0<=1000000:=by
   rcases(show k=0∨k=1∨k=2 by omega)with rfl|rfl|rfl
   ·exact hx.1
   ·exact hx.2.1
   ·exact hx.2.2
  have hg:=Lh ih (by omega) (3*x.1+k).toNat;rw[gT,Hg];exact ih.set (by omega) (by omega)
theorem wH{n:Nat}{l:List Ld}(OF:nL n l):∀i,i<=l.length->MR (fU n l i) (3000000*(i:Int))
 |0,_=>fun z hz=>by rw[bP hz];decide
 |i+1,hi=>by
  have ih:=wH OF i (by omega);have hm:l.getD i (0,0,0,0)∈l:=by rw[getD_some (aB (show i<l.length by omega))];exact aY _
  have:=CV ih (by omega) (OF.ld _ hm).2 3 (aF _);rw[fU];intro z hz;have:=this z hz;omega
theorem yS(hn:f.nodes.length<=20)(OF:nL f.nodes.length l):∀q∈dI f l,rl q<=1:=fun q hq=>by
 obtain⟨z,hz,rfl⟩:=aU.1 hq;have:=wH OF l.length (aF _) z hz;have hl:=OF.len;exact wA (by omega) (by omega)
set_option maxHeartbeats 1000000 in
set_option maxRecDepth 8000 in
theorem wI{w:World}(hS:Old S w)(hf:dU w S vn vb vs f)(hl:fL w S vl l)(OP:eL f=0)(OO:FrS f)(PE:nL f.nodes.length l){vb2:Value}{b:Rat}(hx:cS w S vx x)(hxq:∀q∈x,rl q<=40)(hx80:x.length<=80)(hb:eS w S vb2 b)(hbq:rl b<=1000):
  eA PG N.kc #[.agg #[vn,vb,vs],vl,vb2,vx] w (eF w fun v' _=>∃d,v'= .bool d∧(d=true↔EqB f l b x)):=by
 have hw:=bR w;obtain⟨an,cn,ab,cb,aq,cq,rfl,rfl,rfl,Q1,Qh,RN⟩:=hf.shape;obtain⟨al,cl,rfl,PU,QO⟩:=hl.shape;obtain⟨ax,cx,rfl,Sf,SI⟩:=cY.shape hx;obtain⟨b0,b1,b2,b3,b4,b5,b6,b7,rfl⟩:=hb.shape;unfold maxLen at SI;have Re:=OO.FA;have RX:=OO.Hs;have RD:=e9 f;have hlen:=fE f;have Vt:=OO.n4;have OF:=jS OP;have QQ:=fM f l;have Tu:f.cols=f.bars.length+f.cX.length:=rfl;refine oT (by simp) ?_;refine cM hτ df [.x 0,.x 1,.x 2,.x 3,.x 4,.x 5,.x 6,.x 9,.x 11,.x 12,.x 14,.x 7,.x 8,.x 10,.x 13,.x 15,.x 16,.x 17,.x 18,.x 19] (by kernel_rfl) (by kernel_rfl) ?_;refine cE hw (fun _ w' v w2=>v= .int .i64 f.cols) (fun O w' r=>me (hf.cJ (kS hw r hS)) ⟨OO.b,OO.s⟩) ?_;rintro O _ _ _ OJ r he hw h_ rfl;clear r;refine dK.mk ?_ ?_<;>intro Pz
 ·have Pz:(x.length:Int)=f.cols:=by simpa using Pz
  have PQ:x.length=f.cols:=by omega
  refine cE hw (fun _ w' v w2=>mG w2 (Nf w' w2) v (gk f)∧FW (gk f) 2000000) (fun O w' r=>wE (oS hS r) (hf.cJ (kS hw r hS)) OP) ?_;rintro O _ _ _ OG r he hw h_ ⟨hn,SL⟩;have hZ:=mG.dB (S:=FF) hn r.cD (mN h_);clear r;clear hn;obtain⟨az,cz,rfl,-,-⟩:=dM.shape hZ;refine cE hw (fun _ w' v w2=>cR w2 (Nf w' w2) v (cP f)) (fun O w' r=>IK (Rel.old r (cC w)) (mG.rel hZ r (cC w)) (by rw[<-aK (f:=c9)];exact aX RX (by decide)) (fun l hl=>by rw[jW f _ l hl];omega) (fun l hl z hz=>by have:=SL l hl z hz;omega)) ?_;rintro O _ _ _ ON r he hw h_ hn;clear hZ;have hM:=cR.dB (S:=FF) hn r.cD (mN h_);clear r;clear hn;obtain⟨am,cm,rfl,-,-⟩:=dM.shape hM;refine cE hw (fun _ w' v w2=>cI w2 (Nf w' w2) v (ew (cP f) x)) (fun O w' r=>Ft (S:=fun g=>S g∨Cf w ON g) (h:=41) (fun g hg=>hg.elim (oS hS r g) (Rel.old r (cC w) g)) (da.cK (cR.l (cR.rel hM r (cC w)) fun y hy q hq=>by have:=(yR OO) y hy q hq;omega) fun g hg=>.inr hg) (cS.cK (cS.cJ hx (kS hw r hS)) fun g hg=>.inl hg) (fun y hy=>by rw[hlen y hy,PQ]) (yR OO) (fun q hq=>by have:=hxq q hq;omega) (by decide) (by omega) (by omega)) ?_;rintro O _ _ _ OZ r he hw h_ hn;clear hM;have hT:=cI.dB (S:=FF) hn r.cD (mN h_);clear r;clear hn;obtain⟨at_,ct,rfl,-,-⟩:=cY.shape hT;have Vs:=qz (x:=x) hlen (yR OO) (fun q hq=>by have:=hxq q hq;omega) (by decide);refine cE hw (fun _ w' v w2=>cI w2 (Nf w' w2) v (dI f l)) (fun O w' r=>wF (oS hS r) (hf.cJ (kS hw r hS)) (hl.cJ (kS hw r hS)) OO.n PE) ?_;rintro O _ _ _ PF r he hw h_ hn;replace hT:=cI.cG hT r (cC w) he (mC h_);have hP:=cI.dB (S:=FF) hn r.cD (mN h_);clear r;clear hn;obtain⟨ap,cp,rfl,-,-⟩:=cY.shape hP;have RQ:=yS OO.n PE
  (try rw[QQ])
  refine cE hw (fun _ w' v w2=>cT w2 (Nf w' w2) v (-b)) (fun O w' r=>HK (oS hS r) (hb.cJ (kS hw r hS))) ?_;rintro O _ _ _ Q2 r he hw h_ hn;replace hT:=cI.cG hT r (cC w) he (mC h_);replace hP:=cI.cG hP r (cC w) he (mC h_);have hg:=hn.dB (S:=FF) r.cD (mN h_);clear r;obtain⟨A0,A1,A2,A3,A4,A5,A6,A7,rfl⟩:=hg.shape;refine cE hw (fun _ w' v w2=>cI w2 (Nf w' w2) v (cW (dI f l) (-b))) (fun O w' r=>(show jr [] (dI f l) (-b)=cW (dI f l) (-b)from wD (dI f l) (-b))▸Dj (S:=Cf w Q2) (Rel.old r (cC w)) (cS.nil w' _) (cI.l (by have:=cI.rel hP r (cC w);try rw[QQ]at this;exact this) fun q hq=>by have:=RQ q hq;omega) ((hg.rel r (cC w)).l (by rw[lY];omega)) (.inl rfl) (by omega) (fun y hy=>by have:=RQ y hy;rw[lY];omega)) ?_;rintro O _ _ _ RP r he hw h_ hn;replace hT:=cI.cG hT r (cC w) he (mC h_);clear hP;clear hg;have hQ:=cI.dB (S:=FF) hn r.cD (mN h_);clear r;clear hn;obtain⟨aq2,cq2,rfl,-,-⟩:=cY.shape hQ;refine cE hw (fun _ w' v w2=>∃d,v= .bool d∧(d=true↔ew (cP f) x=cW (dI f l) (-b))) (fun O w' r=>CU (S:=Cf w RP) (Rel.old r (cC w)) (cI.l (cI.rel hT r (cC w)) fun q hq=>by have:=Vs q hq;omega) (cI.l (cI.rel hQ r (cC w)) fun q hq=>by obtain⟨y,hy,rfl⟩:=aU.1 hq;have:=RQ y hy;have:=jE y (-b);rw[lY]at this;omega)) ?_;rintro O _ _ _ Rg r he hw h_ ⟨d,rfl,hd⟩;clear hT;clear hQ;clear r;exact rtn hw fun ρe we re=>⟨d,rfl,hd.trans ⟨fun h=>⟨PQ,h⟩,fun h=>h.2⟩⟩
 have Pz:(x.length:Int)≠f.cols:=by simpa using Pz
 exact rtn hw fun ρe we re=>⟨false,rfl,iff_of_false (by simp) fun h=>Pz (by rw[h.1])⟩
theorem Li{w:World}(hS:Old S w)(hf:dU w S vn vb vs f)(OP:eL f=0)(OO:FrS f)(hu:cS w S vu u)(TV:∀q∈u,rl q<=40)(UY:u.length<=80)(Vi:u.length=3*f.nodes.length):
  eA PG N.xA #[.agg #[vn,vb,vs],vu] w (eF w fun v' w2=>cI w2 (Nf w w2) v' (ew (cd (cP f) f.cols) u)):=by
 have hw:=bR w;obtain⟨an,cn,ab,cb,aq,cq,rfl,rfl,rfl,Q1,Qh,RN⟩:=hf.shape;obtain⟨au,cu,rfl,hcu,hmu⟩:=cY.shape hu;unfold maxLen at hmu;have Re:=OO.FA;have RX:=OO.Hs;have RD:=e9 f;have hlen:=fE f;have Vt:=OO.n4;have OF:=jS OP;have Tu:f.cols=f.bars.length+f.cX.length:=rfl;refine AG (by simp) ?_;refine cF (cE hw (fun _ w' v w2=>cR w2 (Nf w' w2) v (cd (cP f) f.cols)) (fun O w' r=>JQ (oS hS r) (hf.cJ (kS hw r hS)) OP) ?_);rintro O _ _ _ OJ r he hw h_ hn;have hM:=cR.dB (S:=FF) hn r.cD (mN h_);clear r;clear hn;obtain⟨am,cm,rfl,-,-⟩:=dM.shape hM;refine cF (cE hw (fun _ w' v w2=>cI w2 (Nf w' w2) v (ew (cd (cP f) f.cols) u)) (fun O w' r=>Ft (S:=fun g=>S g∨Cf w OJ g) (h:=41) (fun g hg=>hg.elim (oS hS r g) (Rel.old r (cC w) g)) (da.cK (cR.l (cR.rel hM r (cC w)) fun y hy q hq=>by have:=(nc OO) y hy q hq;omega) fun g hg=>.inr hg) (cS.cK (cS.cJ hu (kS hw r hS)) fun g hg=>.inl hg) (fun y hy=>by rw[eP _ _ y hy,Vi,RD]) (nc OO) (fun q hq=>by have:=TV q hq;omega) (by decide) (by omega) (by rw[dY];omega)) ?_);rintro O _ _ _ OG r he hw h_ hn;clear hM;have hT:=cI.dB (S:=FF) hn r.cD (mN h_);clear r;clear hn;obtain⟨at_,ct,rfl,-,-⟩:=cY.shape hT;exact rtn hw fun ρe we re=>cI.out hT re (cC w)
set_option maxHeartbeats 1000000 in
set_option maxRecDepth 8000 in
theorem JV{w:World}(hS:Old S w)(hf:dU w S vn vb vs f)(hl:fL w S vl l)(OP:eL f=0)(OO:FrS f)(PE:nL f.nodes.length l)(hu:cS w S vu u)(TV:∀q∈u,rl q<=40)(UY:u.length<=80):
  eA PG N.tm #[.agg #[vn,vb,vs],vl,vu] w (eF w fun v' _=>∃d,v'= .bool d∧(d=true↔Hx f l u)):=by
 have hw:=bR w;obtain⟨an,cn,ab,cb,aq,cq,rfl,rfl,rfl,Q1,Qh,RN⟩:=hf.shape;obtain⟨al,cl,rfl,PU,QO⟩:=hl.shape;obtain⟨au,cu,rfl,hcu,hmu⟩:=cY.shape hu;unfold maxLen at hmu;have Re:=OO.FA;have RX:=OO.Hs;have RD:=e9 f;have hlen:=fE f;have Vt:=OO.n4;have OF:=jS OP;have QQ:=fM f l;have Tu:f.cols=f.bars.length+f.cX.length:=rfl;refine xd (by simp) ?_;refine cM hτ df [.x 0,.x 1,.x 2,.x 3,.x 4,.x 5,.x 6,.x 7,.x 8,.x 9,.x 11,.x 10,.x 12,.x 13,.x 14,.x 15,.x 16,.x 17,.x 18,.x 20,.x 19,.x 21,.x 22,.x 23,.x 24,.x 25,.x 26] (by kernel_rfl) (by kernel_rfl) ?_;refine⟨((3*f.nodes.length:Nat):Int),wo,?_⟩;refine dK.mk ?_ ?_<;>intro Pz
 ·have Pz:(u.length:Int)=((3*f.nodes.length:Nat):Int):=by simpa using Pz
  have Vi:u.length=3*f.nodes.length:=by omega
  refine cE hw (fun _ w' v w2=>cI w2 (Nf w' w2) v (ew (cd (cP f) f.cols) u)) (fun O w' r=>Li (oS hS r) (hf.cJ (kS hw r hS)) OP OO (cS.cJ hu (kS hw r hS)) TV UY Vi) ?_;rintro O _ _ _ OJ r he hw h_ hn;have hT:=cI.dB (S:=FF) hn r.cD (mN h_);clear r;clear hn;obtain⟨at_,ct,rfl,-,-⟩:=cY.shape hT;have Vs:=qz (x:=u) (eP (cP f) f.cols) (nc OO) (fun q hq=>by have:=TV q hq;omega) (by decide);refine cE hw (fun _ w' v w2=>v= .int .i64 f.cols) (fun O w' r=>me (hf.cJ (kS hw r hS)) ⟨OO.b,OO.s⟩) ?_;rintro O _ _ _ OG r he hw h_ rfl;replace hT:=cI.cG hT r (cC w) he (mC h_);clear r;refine cE hw (fun _ w' v w2=>cI w2 (Nf w' w2) v (List.replicate f.cols 0)) (fun O w' r=>L0 f.cols w' (by omega)) ?_;rintro O _ _ _ ON r he hw h_ hn;replace hT:=cI.cG hT r (cC w) he (mC h_);have hz:=cI.dB (S:=FF) hn r.cD (mN h_);clear r;clear hn;obtain⟨az,cz,rfl,-,-⟩:=cY.shape hz;refine cE hw (fun _ w' v w2=>∃d,v= .bool d∧(d=true↔ew (cd (cP f) f.cols) u=List.replicate f.cols 0)) (fun O w' r=>CU (S:=Cf w ON) (Rel.old r (cC w)) (cI.l (cI.rel hT r (cC w)) fun q hq=>by have:=Vs q hq;omega) (cI.l (cI.rel hz r (cC w)) fun q hq=>by rw[bP hq];decide)) ?_;rintro O _ _ _ OZ r he hw h_ ⟨d,rfl,hd⟩;clear hT;clear hz;clear r
  cases d
  ·conv=>whnf
   exact rtn hw fun ρe we re=>⟨false,rfl,iff_of_false (by simp) fun h=>by have:=hd.2 h.2.1;cases this⟩
  have PM:=hd.1 rfl;refine cE hw (fun _ w' v w2=>cI w2 (Nf w' w2) v (dI f l)) (fun O w' r=>wF (oS hS r) (hf.cJ (kS hw r hS)) (hl.cJ (kS hw r hS)) OO.n PE) ?_;rintro O _ _ _ PF r he hw h_ hn;have hP:=cI.dB (S:=FF) hn r.cD (mN h_);clear r;clear hn;obtain⟨ap,cp,rfl,-,-⟩:=cY.shape hP;have RQ:=yS OO.n PE
  (try rw[QQ])
  refine cE hw (fun _ w' v w2=>cT w2 (Nf w' w2) v (dP (dI f l) u (dI f l).length)) (fun O w' r=>Lj (S:=fun g=>S g∨Cf w PF g) (h:=41) (fun g hg=>hg.elim (oS hS r g) (Rel.old r (cC w) g)) (cS.cK (cI.l (by have:=cI.rel hP r (cC w);try rw[QQ]at this;exact this) fun q hq=>by have:=RQ q hq;omega) fun g hg=>.inr hg) (cS.cK (cS.cJ hu (kS hw r hS)) fun g hg=>.inl hg) (by omega) (fun q hq=>by have:=RQ q hq;omega) (fun q hq=>by have:=TV q hq;omega) (by decide) (by omega)) ?_;rintro O _ _ _ Q2 r he hw h_ hn;clear hP;have Oc:=hn.dB (S:=FF) r.cD (mN h_);clear r;obtain⟨A0,A1,A2,A3,A4,A5,A6,A7,rfl⟩:=Oc.shape;have hdr:=kW (h:=41) (xs:=dI f l) (ys:=u) (fun q hq=>by have:=RQ q hq;omega) (fun q hq=>by have:=TV q hq;omega) (by decide) (dI f l).length;refine cE hw (fun _ w' v w2=>cT w2 (Nf w' w2) v ((1:Int):Rat)) (fun O w' r=>jO 1 w' (by decide)) ?_;rintro O _ _ _ RP r he hw h_ hn;replace Oc:=Oc.cG r (cC w) he (mC h_);have ho:=hn.dB (S:=FF) r.cD (mN h_);clear r;obtain⟨C0,C1,C2,C3,C4,C5,C6,C7,rfl⟩:=ho.shape;refine cE hw (fun _ w' v w2=>v= .int .i64 (rs (dP (dI f l) u (dI f l).length-((1:Int):Rat)))) (fun O w' r=>Lg (S:=Cf w RP) (Rel.old r (cC w)) ((Oc.rel r (cC w)).l (by omega)) ((ho.rel r (cC w)).l (by decide))) ?_;rintro O _ _ _ Rg r he hw h_ rfl;clear Oc;clear ho;clear r;obtain⟨cf,Rt⟩:∃c,rs (dP (dI f l) u (dI f l).length-((1:Int):Rat))=c:=⟨_,rfl⟩
  rw[Rt];intro ρe we re;refine⟨_,rfl,hw.tr re.cQ,cf==0,rfl,?_⟩;rw[beq_iff_eq,<-Rt,Fs];exact⟨fun h=>⟨Vi,PM,h⟩,fun h=>h.2.2⟩
 have Pz:(u.length:Int)≠((3*f.nodes.length:Nat):Int):=by simpa using Pz
 exact rtn hw fun ρe we re=>⟨false,rfl,iff_of_false (by simp) fun h=>Pz (by rw[h.1])⟩
set_option maxHeartbeats 1000000 in
set_option maxRecDepth 8000 in
theorem rz{w:World}(hS:Old S w)(hf:dU w S vn vb vs f)(hl:fL w S vl l)(OP:eL f=0)(OO:FrS f)(PE:nL f.nodes.length l){k:Int}(hx:cS w S vx x)(hu:cS w S vu u)(hxq:∀q∈x,rl q<=40)(TV:∀q∈u,rl q<=40)(hx80:x.length<=80)(UY:u.length<=80):
  eA PG N.nM #[.agg #[vn,vb,vs],vl,.agg #[.int .i64 k,vx,vu]] w (eF w fun v' _=>(v'= .int .i64 0∧IL f l k x u)∨(v'= .int .i64 25∧¬IL f l k x u)):=by
 have hw:=bR w;obtain⟨an,cn,ab,cb,aq,cq,rfl,rfl,rfl,Q1,Qh,RN⟩:=hf.shape;obtain⟨al,cl,rfl,PU,QO⟩:=hl.shape;obtain⟨ax,cx,rfl,Sf,SI⟩:=cY.shape hx;obtain⟨au,cu,rfl,hcu,hmu⟩:=cY.shape hu;unfold maxLen at SI hmu;refine rF (by simp) ?_;refine cM hτ df [.x 0,.x 1,.x 2,.x 3,.x 4,.x 5,.x 6,.x 7,.x 8,.x 9,.x 10,.x 11,.x 13,.x 14,.x 12,.x 15,.x 16] (by kernel_rfl) (by kernel_rfl) ?_;rcases(show k=0∨k=1∨k≠0∧k≠1 by omega)with rfl|rfl|⟨RA,VM⟩
 ·conv=>whnf
  refine dK.mk ?_ ?_<;>intro h0
  ·have h0:u.length=0:=by simpa using h0
   refine cE hw (fun _ w' v w2=>cT w2 (Nf w' w2) v ((1:Int):Rat)) (fun O w' r=>jO 1 w' (by decide)) ?_;rintro O Pg v1 PS OJ r he hw h_ hn;have ho:=hn.dB (S:=FF) r.cD (mN h_);clear r;obtain⟨A0,A1,A2,A3,A4,A5,A6,A7,rfl⟩:=ho.shape;refine cE hw (fun _ w' v w2=>∃d,v= .bool d∧(d=true↔EqB f l ((1:Int):Rat) x)) (fun O w' r=>wI (S:=fun g=>S g∨Cf w OJ g) (fun g hg=>hg.elim (oS hS r g) (Rel.old r (cC w) g)) (dU.cK (hf.cJ (kS hw r hS)) fun g hg=>.inl hg) (fL.cK (hl.cJ (kS hw r hS)) fun g hg=>.inl hg) OP OO PE (cS.cK (cS.cJ hx (kS hw r hS)) fun g hg=>.inl hg) hxq hx80 (((ho.rel r (cC w)).l (by decide)).cK fun g hg=>.inr hg) (by decide)) ?_;rintro O _ _ _ OG r he hw h_ ⟨d,rfl,hd⟩;clear ho;clear r
   cases d
   ·conv=>whnf
    exact rtn hw fun ρe we re=>.inr ⟨rfl,fun h=>by rcases h with⟨_,_,h⟩|⟨h,_⟩;(have:=hd.2 h;cases this);cases h⟩
   exact rtn hw fun ρe we re=>.inl ⟨rfl,.inl ⟨rfl,h0,hd.1 rfl⟩⟩
  have h0:u.length≠0:=by simpa using h0
  exact rtn hw fun ρe we re=>.inr ⟨rfl,fun h=>by rcases h with⟨_,h,_⟩|⟨h,_⟩;exact h0 h;cases h⟩
 ·conv=>whnf
  refine dK.mk ?_ ?_<;>intro h0
  ·have h0:x.length=0:=by simpa using h0
   refine cF (cE hw (fun _ w' v w2=>∃d,v= .bool d∧(d=true↔Hx f l u)) (fun O w' r=>JV (oS hS r) (hf.cJ (kS hw r hS)) (hl.cJ (kS hw r hS)) OP OO PE (cS.cJ hu (kS hw r hS)) TV UY) ?_);rintro O _ _ _ OJ r he hw h_ ⟨d,rfl,hd⟩;clear r
   cases d
   ·conv=>whnf
    exact rtn hw fun ρe we re=>.inr ⟨rfl,fun h=>by rcases h with⟨h,_⟩|⟨_,_,h⟩;cases h;(have:=hd.2 h;cases this)⟩
   exact rtn hw fun ρe we re=>.inl ⟨rfl,.inr ⟨rfl,h0,hd.1 rfl⟩⟩
  have h0:x.length≠0:=by simpa using h0
  exact rtn hw fun ρe we re=>.inr ⟨rfl,fun h=>by rcases h with⟨h,_⟩|⟨_,h,_⟩;cases h;exact h0 h⟩
 refine dK.mk (fun h0=>absurd (by simpa using h0) RA) (fun _=>?_);refine dK.mk (fun h0=>absurd (by simpa using h0) VM) (fun _=>?_);exact rtn hw fun ρe we re=>.inr ⟨rfl,fun h=>by rcases h with⟨h,_⟩|⟨h,_⟩;exact RA h;exact VM h⟩
end Go.Ex
namespace Go.Ex
variable{M:List (List Rat)}{a l:Nat}{g:Nat->Rat}{D p q:Rat}
structure uh(f:fA):Prop extends FrS f where
 fx:∀q∈dO f,rl q<=3
def Bl(b:List Rat):Prop:=∀t,Ib 1000000000 (b.getD t 0)
theorem Ib.w{B:Nat}(h:Ib B q)(k:B<=wt l):Ib (wt l) q:=h.mono k
theorem vG(a b:Nat)(h:a+b<=l):wt a*wt b<=wt l:=by rw[<-Cr];exact yq h
theorem Ib.sW{b:Nat}(h:Ib (wt a) p)(k:Ib (wt b) q)(hl:a+b<=l):Ib (wt l) (p*q):=(h.mul k).mono (vG a b hl)
theorem Ib.up(h:Ib (wt a) p)(hl:a<=l):Ib (wt l) p:=h.mono (yq hl)
theorem Ib.Nt{n:Nat}(hn:n<=18)(h:∀k,k<n->Ib (wt a) (g k))(hl:a+1<=l):Ib (wt l) (cZ g n):=
 (Ib.sum n h).mono (aX (Nat.mul_le_mul_right _ (aX hn (by decide:18<=wt 1))) (vG 1 a (by omega)))
theorem Den.mono{K L:Nat}{l:List Rat}(h:Den K D l)(k:K<=L):Den L D l:=⟨h.1,h.2.1.mono k,fun t=>(h.2.2 t).mono k⟩
theorem Gd.mono{K L:Nat}(h:Gd K D M)(k:K<=L):Gd L D M:=⟨h.1,h.2.1.mono k,fun i t=>(h.2.2 i t).mono k⟩
theorem Kj{k:Nat}(h:a<=4294967295)(hk:1<=k):a<=wt k:=aX h (aX (by decide:4294967295<=wt 1) (yq hk))
theorem FB{k n R m:Nat}(hn:n<=R)(hR:R<=4294967295)(hl:k+1<=l)(hm:l*R+1<=m):ln (fB (wt k) n)<=m∧fB (wt k) n<=wt m:=by
 have h1:=KM (B:=wt k) (l:=l) hn (aX (Nat.mul_le_mul_right _ (aX hR (by decide:4294967295<=wt 1))) (vG 1 k (by omega)));have h2:l*n+1<=m:=aX (Nat.succ_le_succ (bY _ hn)) hm;exact⟨aX h1 h2,Nat.le_of_lt (gB.1 (aX h1 h2))⟩
section
variable{f:fA}{b x x0 c u:List Rat}
theorem FrS.yL(h:FrS f)(hb:Bl b):BF (dH (cP f) b) (f.cols+1) (wt 1):=fun j hj=>by
 rw[eH]at hj;have hw:=fun t=>jw (b:=b) (t:=t) (fE f) hj;refine⟨1,by decide,Ib.one lW,fun t ht=>?_⟩;rw[bp];rcases aP t f.cols with h1|h1
 ·rw[(hw t).1 h1];exact(h.pe j t).w (by decide)
 ·rw[show t=f.cols by omega,(hw 0).2];exact(hb j).w (by decide)
theorem FrS.z8(h:FrS f):ln (fB (wt 1) (dH (cP f) b).length)<=25:=by
 rw[eH];exact(FB (l:=2) h.Hs (by decide) (by decide) (by decide)).1
theorem FrS.NM(h:FrS f)(hb:Bl b)(h0:ed (cP f) b f.cols=some x0):∃D,Den (wt 25) D x0:=by
 obtain⟨D,hD⟩:=zW (fE f) (h.yL hb) lW h0;exact⟨D,hD.mono (FB (l:=2) h.Hs (by decide) (by decide) (by decide)).2⟩
theorem FrS.ker(h:FrS f):∃D,Gd (wt 13) D (cV (cP f) f.cols):=by
 obtain⟨D,hD⟩:=Cx (fE f) h.mQ (by decide);exact⟨D,hD.mono (Nat.le_of_lt (gB.1 h.size))⟩
theorem FrS.NN(h:FrS f):(cV (cP f) f.cols).length<=18:=by
 have h1:=zV (fE f);have h2:=h.FA;omega
theorem zc(f:fA):(dO f).length=f.cols:=by simp[dO,fA.cols]
theorem uh.aAm(h:uh f):Den (wt 54) (mM (dO f) 18) (dO f):=KZ (by rw[zc];exact h.FA) h.fx
theorem uh.Kk(h:uh f)(hx:∃D,Den (wt 25) D x0):BF (dH (eW (cV (cP f) f.cols) (dO f)) (gh (cV (cP f) f.cols) (dO f) x0)) ((cV (cP f) f.cols).length+1) (wt 106):=fun i hi=>by
 rw[eH,eW,aK]at hi;obtain⟨D0,a1,a2,a3⟩:=hx;obtain⟨D1,b1,b2,b3⟩:=h.ker;obtain⟨c1,c2,c3⟩:=h.aAm;have hn:=h.FA;have hw:=fun t=>jw (b:=gh (cV (cP f) f.cols) (dO f) x0) (t:=t) (oJ (cV (cP f) f.cols) (dO f)) (j:=i) (by rw[eW,aK];exact hi);refine⟨mM (dO f) 18*(D1*D1)*D0,qo (qo c1 (qo b1 b1)) a1,(((c2.sW (b2.sW b2 (aF _)) (aF _)).sW a2 (by decide))),fun t ht=>?_⟩;rcases aP t (cV (cP f) f.cols).length with h1|h1
 ·rw[(hw t).1 h1,vC _ _ _ hi h1];unfold Ho uz;rw[<-eR];refine Ib.Nt hn (fun k _=>?_) (aF _);rw[show mM (dO f) 18*(D1*D1)*D0*((dO f).getD k 0*(dD (cV (cP f) f.cols) i k*dD (cV (cP f) f.cols) t k))=(mM (dO f) 18*(dO f).getD k 0)*((D1*dD (cV (cP f) f.cols) i k)*(D1*dD (cV (cP f) f.cols) t k))*D0 by grind];exact((c3 k).sW ((b3 i k).sW (b3 t k) (aF _)) (aF _)).sW a2 (by decide)
 ·rw[show t=(cV (cP f) f.cols).length by omega,(hw 0).2,Es _ _ _ _ hi];unfold uz;rw[show mM (dO f) 18*(D1*D1)*D0* -(cZ (fun t=>(dO f).getD t 0*(dD (cV (cP f) f.cols) i t*x0.getD t 0)) f.cols)= -(mM (dO f) 18*(D1*D1)*D0*cZ (fun t=>(dO f).getD t 0*(dD (cV (cP f) f.cols) i t*x0.getD t 0)) f.cols) by grind,<-eR];refine(Ib.Nt hn (fun k _=>?_) (aF _)).neg;rw[show mM (dO f) 18*(D1*D1)*D0*((dO f).getD k 0*(dD (cV (cP f) f.cols) i k*x0.getD k 0))=(mM (dO f) 18*(dO f).getD k 0)*((D1*dD (cV (cP f) f.cols) i k)*D1)*(D0*x0.getD k 0) by grind];exact((c3 k).sW ((b3 i k).sW b2 (aF _)) (aF _)).sW (a3 k) (by decide)
theorem uh.Hv(h:uh f){b:List Rat}:ln (fB (wt 106) (dH (eW (cV (cP f) f.cols) (dO f)) b).length)<=1927:=by
 rw[eH,eW,aK];exact(FB (l:=107) h.NN (by decide) (by decide) (by decide)).1
theorem uh.Nu(h:uh f)(hx:∃D,Den (wt 25) D x0)(hc:ed (eW (cV (cP f) f.cols) (dO f)) (gh (cV (cP f) f.cols) (dO f) x0) (cV (cP f) f.cols).length=some c):∀q∈c,rl q<=1927:=fun q hq=>by
 obtain⟨D,hD⟩:=zW (oJ _ _) (h.Kk hx) lW hc;have h1:=hD.rl q hq;have h2:=h.Hv (b:=[]);rw[eH]at h2;omega
theorem DC(h:rl q<=3):Ib (wt 3) (q.den:Rat):=⟨(q.den:Int),rfl,by have:=(Hm h).2;omega⟩
theorem Kl(h:rl q<=3):Ib (wt 3) ((q.den:Rat)*q):=by rw[Hl];exact⟨q.num,rfl,Nat.le_of_lt (Hm h).1⟩
theorem Hw(q:Rat):(q.den:Rat)≠0:=fun e=>by
 have:((q.den:Int):Rat)=((0:Int):Rat):=e;exact q.den_nz (by have:=Rat.intCast_inj.1 this;omega)
theorem uh.fxD(h:uh f){t:Nat}(ht:t<f.cols):rl ((dO f).getD t 0)<=3:=by
 have hl:t<(dO f).length:=by rw[zc];exact ht
 rw[getD_some (aB hl)];exact h.fx _ (aY hl)
theorem uh.Me(h:uh f)(hb:Bl b)(PX:b.length=(cP f).length):BF (dH (jq (cP f) f.cols (dO f)) (b++vB f.cols)) ((cP f).length+f.cols+1) (wt 4):=fun j hj=>by
 rw[eH,iz]at hj;have hw:=fun t=>jw (b:=b++vB f.cols) (t:=t) (qt (fE f) (dO f)) (j:=j) (by rw[iz];exact hj);rcases aP j (cP f).length with h2|h2
 ·refine⟨1,by decide,Ib.one lW,fun t ht=>?_⟩;rw[bp];rcases aP t ((cP f).length+f.cols)with h1|h1
  ·rw[(hw t).1 h1];rcases aP t (cP f).length with h3|h3
   ·rw[(DA h2).1 h3];exact Ib.zero _
   ·obtain⟨s,rfl⟩:∃s,t=(cP f).length+s:=⟨t-(cP f).length,by omega⟩
    rw[(DA (t:=s) h2).2];exact((h.pe j s).w (by decide:2000000<=wt 1)).up (by decide)
  ·rw[show t=(cP f).length+f.cols by omega,(hw 0).2,pc];exact((hb j).w (by decide:1000000000<=wt 1)).up (by decide)
 ·obtain⟨k,rfl⟩:∃k,j=(cP f).length+k:=⟨j-(cP f).length,by omega⟩
  have hk:k<f.cols:=by omega
  have hq:=h.fxD hk;refine⟨(((dO f).getD k 0).den:Rat),Hw _,(DC hq).up (by decide),fun t ht=>?_⟩;rcases aP t ((cP f).length+f.cols)with h1|h1
  ·rw[(hw t).1 h1];rcases aP t (cP f).length with h3|h3
   ·rw[(z5 (t:=t) hk).1 h3];exact(DC hq).sW ((h.pe t k).w (by decide:2000000<=wt 1)) (by decide)
   ·obtain⟨s,rfl⟩:∃s,t=(cP f).length+s:=⟨t-(cP f).length,by omega⟩
    rw[(z5 (t:=s) hk).2 (by omega)];split
    ·exact(Kl hq).up (by decide)
    ·rw[bC];exact Ib.zero _
  ·rw[show t=(cP f).length+f.cols by omega,(hw 0).2,pc,jI (l:=b) (by omega),bC];exact Ib.zero _
theorem uh.Km(h:uh f)(hb:Bl b)(PX:b.length=(cP f).length)(hx:lX (cP f) f.cols (fun t=>(dO f).getD t 0) b x):∃D,Den (wt 151) D x:=by
 obtain⟨u,hu⟩:=hx.aAZ (fE f);obtain⟨s1,s2⟩:=Kg (fE f) PX hx hu;obtain⟨z,hz⟩:=Br (qt (fE f) (dO f)) s2;have h1:=Kh (fE f) PX hz;have h2:=h.Mc.one hx h1;obtain⟨D,d1,d2,d3⟩:=zW (qt (fE f) (dO f)) (h.Me hb PX) lW hz;have h3:fB (wt 4) (jq (cP f) f.cols (dO f)).length<=wt 151:=by
  rw[iz];have h1:=h.FA;have h2:=h.Hs;exact(FB (l:=5) (R:=30) (by omega) (by decide) (by decide) (by decide)).2
 refine⟨D,d1,d2.mono h3,fun t=>?_⟩;rw[h2,List.getD,List.getElem?_drop,<-List.getD];exact(d3 _).mono h3
theorem uh.aA0(h:uh f)(hb:Bl b)(PX:b.length=(cP f).length)(hx:lX (cP f) f.cols (fun t=>(dO f).getD t 0) b x):∀q∈x,rl q<=152:=fun q hq=>by
 obtain⟨D,hD⟩:=h.Km hb PX hx;have:=hD.rl q hq;have h2:ln (wt 151)<=152:=gB.2 (Ec (by decide));omega
theorem uh.Ix(h:uh f)(PZ:x.length=f.cols)(hx:∃D,Den (wt 151) D x):BF (dH (cd (cP f) f.cols) (cW (fR x (dO f)) (-1))) ((cP f).length+1) (wt 156):=fun j hj=>by
 rw[eH,dY]at hj;obtain⟨D,d1,d2,d3⟩:=hx;have hq:=h.fxD hj;have hw:=fun t=>jw (b:=cW (fR x (dO f)) (-1)) (t:=t) (eP (cP f) f.cols) (j:=j) (by rw[dY];exact hj);refine⟨(((dO f).getD j 0).den:Rat)*D,qo (Hw _) d1,(DC hq).sW d2 (by decide),fun t ht=>?_⟩;rcases aP t (cP f).length with h1|h1
 ·rw[(hw t).1 h1,kP hj];exact((DC hq).sW d2 (aF _)).sW ((h.pe t j).w (by decide:2000000<=wt 1)) (by decide)
 ·rw[show t=(cP f).length by omega,(hw 0).2,z6 x _ PZ hj,show(((dO f).getD j 0).den:Rat)*D* -((dO f).getD j 0*x.getD j 0)= -(((((dO f).getD j 0).den:Rat)*(dO f).getD j 0)*(D*x.getD j 0)) by grind];exact((Kl hq).sW (d3 j) (by decide)).neg
theorem uh.Gj(h:uh f){b:List Rat}:ln (fB (wt 156) (dH (cd (cP f) f.cols) b).length)<=2827:=by
 rw[eH,dY];exact(FB (l:=157) h.FA (by decide) (by decide) (by decide)).1
end
end Go.Ex
namespace Go.Ex
open Go Go.Sx Go.Proofs
end Go.Ex
namespace Go.Sx
open Go Go.Ex Go.Proofs
variable{cs:List Value}{T:Nat->Prop}{O:Nat->Sx.dx}
theorem Rel.Dq{H:Hp}{nx:Nat}{iv:Iv}{B:Nat}{w w':World}(r:Rel H nx iv B w O w'){id t m sz:Nat}(h:dF H id=some (.vec t sz cs))(hm:cs.length=m*sz)(Ra:m<=maxLen)(hs:0<sz)(h1:∀u∈cs,u.oneCell'=true)(hT:(O id).nil=false->T (O id).g):
  ij w' T sz ((At.w id m).den O) cs m:=by
 rcases r.fits h with⟨hn,rfl⟩|⟨hn,spare,h2,h3,h4⟩
 ·have Rp:m=0:=by
   rcases bH m with h|h
   ·exact h
   ·have:=Nat.mul_pos h hs;simp at hm;omega
  subst Rp;have Qo:(At.w id 0).den O= .slice none 0 0:=by simp[At.den,hn]
  rw[Qo];exact⟨aQ _,by simp,by simp,none,0,rfl,aF _,fun j u h=>by cases h⟩
 ·have Qo:(At.w id m).den O= .slice (some ⟨(O id).g,0,none⟩) m (O id).cap:=by simp[At.den,hn]
  rw[Qo];refine⟨Ra,hm,h1,_,_,rfl,?_,fun j u hu=>⟨_,rfl,hT hn,?_⟩⟩
  ·rw[List.length_append,hm]at h3;exact bo (show m*sz<=(O id).cap*sz by omega) hs
  ·rw[dV,cell_of h2,aR,aL (aD.1 hu).1];exact hu
end Go.Sx
namespace Go.Ex
open Go Go.Sx Go.Proofs
variable{p:List Rat}{g:Nat}{S T:Nat->Prop}
section
variable{S:Nat->Prop}{H:Hp}{nx:Nat}{iv iv':Iv}{B n:Nat}{w w' w2:World}{O:Nat->Sx.dx}{v:Value}{qs:List Rat}
theorem Bs.fresh(r:Rel H nx iv B w O w')(hx:∀g,v.ownBlock=some g->g<w'.heap.size)(hg:Nf w' w2 g):Bs S B ((w'.heap.size,w2.heap.size)::iv) v g:=by
 rcases hg with hg|hg
 ·exact hg.elim
 ·exact⟨.inr ⟨by have:=r.cD;omega,_,_,aG,hg.1,hg.2⟩,fun e=>by have:=hx g e;omega⟩
theorem Bs.solved(r:Rel H nx iv B w O w')(hx:∀g,v.ownBlock=some g->g<w'.heap.size)(hT:∀g,T g->Bs S B iv v g)(hg:Cv T w'.heap.size [(w'.heap.size,w2.heap.size)] g):Bs S B ((w'.heap.size,w2.heap.size)::iv) v g:=by
 rcases hg with hg|⟨h1,lo,hi,h2,h3,h4⟩
 ·exact Bs.mono (fun p hp=>List.mem_cons_of_mem _ hp) (hT g hg)
 ·simp at h2;obtain⟨rfl,rfl⟩:=h2;exact Bs.fresh r hx (.inr ⟨h3,h4⟩)
end
section
variable{S:Nat->Prop}{H:Hp}{nx:Nat}{iv iv':Iv}{B:Nat}{w w' w2:World}{O:Nat->Sx.dx}{v v0:Value}{q:Rat}
theorem lz.rel(h:cT w (Bs S B iv v) v0 q)(r:Rel H nx iv B w O w')(hS:∀g,S g->g<B):cT w' (Bs S B iv v) v0 q:=cT.cJ h (Bs.same r hS)
theorem lz.fresh(h:cT w2 (Nf w' w2) v0 q)(r:Rel H nx iv B w O w')(hx:∀g,v.ownBlock=some g->g<w'.heap.size):cT w2 (Bs S B ((w'.heap.size,w2.heap.size)::iv) v) v0 q:=cT.cK h fun _ hg=>Bs.fresh r hx hg
theorem lz.cv(h:cT w (Bs S B iv v) v0 q):cT w (Cv S B iv) v0 q:=cT.cK h fun _ hg=>hg.1
end
section
variable{S:Nat->Prop}{H:Hp}{nx:Nat}{iv iv':Iv}{B:Nat}{w w' w2:World}{O:Nat->Sx.dx}{v v0:Value}{K:List (List Rat)}
theorem gM.rel(h:cR w (Bs S B iv v) v0 K)(r:Rel H nx iv B w O w')(hS:∀g,S g->g<B):cR w' (Bs S B iv v) v0 K:=cR.cJ h (Bs.same r hS)
theorem gM.cG(h:cR w (Bs S B iv v) v0 K)(r:Rel H nx iv B w O w')(hS:∀g,S g->g<B)(he:Ext w' w2)(hm:∀p,p∈iv->p∈iv'):cR w2 (Bs S B iv' v) v0 K:=
 cR.cK (cR.cJ (gM.rel h r hS) fun g hg=>he.block g (Rel.old r hS g hg.1)) fun _ hg=>Bs.mono hm hg
theorem gM.fresh(h:cR w2 (Nf w' w2) v0 K)(r:Rel H nx iv B w O w')(hx:∀g,v.ownBlock=some g->g<w'.heap.size):cR w2 (Bs S B ((w'.heap.size,w2.heap.size)::iv) v) v0 K:=cR.cK h fun _ hg=>Bs.fresh r hx hg
theorem gM.kept(h:cR w (Bs S B iv v) v0 K)(r:Rel H nx iv B w O w')(hS:∀g,S g->g<B)(hg:w'.grownBy w2 v.ownBlock):cR w2 (Bs S B iv v) v0 K:=cR.cJ h (Bs.kept r hS hg fun _ e=>e)
end
section
variable{S:Nat->Prop}{H:Hp}{nx:Nat}{iv iv':Iv}{B:Nat}{w w' w2:World}{O:Nat->Sx.dx}{v v0:Value}{xs:List Rat}
theorem ec.rel(h:cI w (Bs S B iv v) v0 xs)(r:Rel H nx iv B w O w')(hS:∀g,S g->g<B):cI w' (Bs S B iv v) v0 xs:=cI.cJ h (Bs.same r hS)
theorem ec.cG(h:cI w (Bs S B iv v) v0 xs)(r:Rel H nx iv B w O w')(hS:∀g,S g->g<B)(he:Ext w' w2)(hm:∀p,p∈iv->p∈iv'):cI w2 (Bs S B iv' v) v0 xs:=
 cI.cK (cI.cJ (ec.rel h r hS) fun g hg=>he.block g (Rel.old r hS g hg.1)) fun _ hg=>Bs.mono hm hg
theorem ec.fresh(h:cI w2 (Nf w' w2) v0 xs)(r:Rel H nx iv B w O w')(hx:∀g,v.ownBlock=some g->g<w'.heap.size):cI w2 (Bs S B ((w'.heap.size,w2.heap.size)::iv) v) v0 xs:=cI.cK h fun _ hg=>Bs.fresh r hx hg
theorem ec.cv(h:cI w (Bs S B iv v) v0 xs):cI w (Cv S B iv) v0 xs:=cI.cK h fun _ hg=>hg.1
theorem ec.kept(h:cI w (Bs S B iv v) v0 xs)(r:Rel H nx iv B w O w')(hS:∀g,S g->g<B)(hg:w'.grownBy w2 v.ownBlock):cI w2 (Bs S B iv v) v0 xs:=cI.cJ h (Bs.kept r hS hg fun _ e=>e)
end
section
variable{S:Nat->Prop}{H:Hp}{nx:Nat}{iv iv':Iv}{B:Nat}{w w' w2:World}{O:Nat->Sx.dx}{v v0:Value}{rv:List Value}{K:List (List Rat)}
theorem mw.rel(h:dh w (Bs S B iv v) rv K)(r:Rel H nx iv B w O w')(hS:∀g,S g->g<B):dh w' (Bs S B iv v) rv K:=dh.cJ h (Bs.same r hS)
theorem mw.cG(h:dh w (Bs S B iv v) rv K)(r:Rel H nx iv B w O w')(hS:∀g,S g->g<B)(he:Ext w' w2)(hm:∀p,p∈iv->p∈iv'):dh w2 (Bs S B iv' v) rv K:=
 dh.cK (dh.cJ (mw.rel h r hS) fun g hg=>he.block g (Rel.old r hS g hg.1)) fun _ hg=>Bs.mono hm hg
end
section
variable{S:Nat->Prop}{H:Hp}{nx:Nat}{iv iv':Iv}{B:Nat}{w w' w2:World}{O:Nat->Sx.dx}{v v0:Value}{css:List (List Value)}{xs:List Rat}
theorem ji.rel(h:eN w (Bs S B iv v) css xs)(r:Rel H nx iv B w O w')(hS:∀g,S g->g<B):eN w' (Bs S B iv v) css xs:=eN.cJ h (Bs.same r hS)
theorem ji.cG(h:eN w (Bs S B iv v) css xs)(r:Rel H nx iv B w O w')(hS:∀g,S g->g<B)(he:Ext w' w2)(hm:∀p,p∈iv->p∈iv'):eN w2 (Bs S B iv' v) css xs:=
 eN.cK (eN.cJ (ji.rel h r hS) fun g hg=>he.block g (Rel.old r hS g hg.1)) fun _ hg=>Bs.mono hm hg
end
theorem Fu{st:List (List Rat)}{c x:List Rat}{a b:Nat}(hx:∀q∈x,rl q<=a)(hs:∀r∈st,∀q∈r,rl q<=b)(hc:∀q∈c,rl q<=b):∀i,∀q∈lQ st c x i,rl q<=a+i*(2*b+5)
 |0,q,hq=>by have:=hx q hq;omega
 |i+1,q,hq=>by
  rw[lQ]at hq;obtain⟨k,hk⟩:=aS hq;rw[List.getElem?_mapIdx]at hk;obtain⟨p,hp,rfl⟩:=Option.map_eq_some_iff.1 hk;have h1:=Fu hx hs hc i p (aC hp);have h0:rl 0<=2:=by decide
  have h2:rl (c.getD i 0)<=b+2:=by
   rcases aP i c.length with h|h
   ·rw[getD_some (aB h)];have:=hc _ (aY h);omega
   ·rw[jI h];omega
  have h3:rl ((st.getD i []).getD k 0)<=b+2:=by
   rcases aP i st.length with h|h
   ·rw[getD_some (d:=[]) (aB h)];rcases aP k (st[i]).length with h4|h4
    ·rw[getD_some (aB h4)];have:=hs _ (aY h) _ (aY h4);omega
    ·rw[jI h4];omega
   ·rw[show st.getD i []=[] by rw[List.getD,List.getElem?_eq_none h];rfl];exact aX h0 (Nat.le_add_left _ _)
  have h4:=oM p (c.getD i 0*(st.getD i []).getD k 0);have h5:=jE (c.getD i 0) ((st.getD i []).getD k 0);rw[Nat.add_mul];omega
set_option maxHeartbeats 2000000 in
set_option maxRecDepth 8000 in
theorem CW{w:World}{vn vb vs u:Value}{f:fA}(hS:Old S w)(hf:dU w S vn vb vs f)(OP:eL f=0)(QU:uh f)(hp:cI w S u p)(PR:p.length=3*f.nodes.length)(VR:∀q∈p,rl q<=100000)(hb:Bl (cW p (-1))):
  eA PG N.pt #[.agg #[vn,vb,vs],u] w (eF w fun v' w2=>(ed (cP f) (cW p (-1)) f.cols=none∧v'= .tuple #[.slice none 0 0,.bool false])∨∃x vx,lX (cP f) f.cols (fun t=>(dO f).getD t 0) (cW p (-1)) x∧v'= .tuple #[vx,.bool true]∧cI w2 (Nf w w2) vx x):=by
 have hw:=bR w;obtain⟨an,cn,ab,cb,aq,cq,rfl,rfl,rfl,Q1,Qh,RN⟩:=hf.shape;have OF:=jS OP;have hlen:=fE f;have RD:=e9 f;have Re:=QU.FA;have RX:=QU.Hs;have OX:=o8 f;have Px:f.cols=f.bars.length+f.cX.length:=rfl;obtain⟨ap,cp,rfl,hcp,hmp⟩:=cY.shape hp;have PX:(cW p (-1)).length=(cP f).length:=by rw[cW,aK,RD];exact PR
 have hw0:=QU.yL hb;have OM:=QU.z8 (b:=cW p (-1));refine uG (by simp) ?_;refine cF (cE hw (fun _ w' v w2=>(∃vr,v= .agg #[vr,.int .i64 f.cols]∧cR w2 (Nf w' w2) vr (cP f))∧fZ f.cols (cP f)∧Ht (cP f) 2) (fun O w' r=>lh (S:=S) (oS hS r) (hf.cJ (kS hw r hS)) OF) ?_);rintro O _ _ _ OJ r he hw h_ ⟨⟨vr,rfl,k1⟩,-,-⟩;have hM:=cR.dB (S:=FF) k1 r.cD (mN h_);clear r;obtain⟨am,cm,rfl,Rk,Qg⟩:=dM.shape hM;refine cM hτ df [.x 0,.x 1,.x 2,.x 3,.x 4,.x 5,.x 6,.x 7,.x 8,.x 9] (by kernel_rfl) (by kernel_rfl) ?_;refine cE hw (fun _ w' v w2=>cT w2 (Nf w' w2) v ((-1:Int):Rat)) (fun O w' r=>jM (-1) w' (by decide) (by decide)) ?_;rintro O _ v2 _ OG r he hw h_ hn;replace hM:=cR.cG hM r (cC w) he (mC h_);have hd:=hn.dB (S:=FF) r.cD (mN h_);clear r;obtain⟨A0,A1,A2,A3,A4,A5,A6,A7,rfl⟩:=hd.shape;refine cE hw (fun _ w' v w2=>dg w2 FF w'.heap.size [(w'.heap.size,w2.heap.size)] v p.length (cW p (-1))) (fun O w' r=>qu (S:=Cv S w.heap.size OG) (Rel.old r hS) (cS.cK (cI.l (cI.cJ hp (kS hw r hS)) fun q hq=>by have:=VR q hq;omega) fun g hg=>.inl hg) (((hd.rel r (cC w)).l (by decide)).cK fun g hg=>D7 hg) (by omega)) ?_;rintro O _ _ _ ON r he hw h_ hn;replace hM:=cR.cG hM r (cC w) he (mC h_);clear hd;have hB:=hn.dB (S:=FF) r.cD (mN h_);clear r;clear hn;obtain⟨a3,c3,rfl,hc3⟩:=hB.row.form;refine cO (Φ:=fun _ w' v w2=>(ed (cP f) (cW p (-1)) f.cols=none∧v= .tuple #[.slice none 0 0,.bool false])∨∃x vx,ed (cP f) (cW p (-1)) f.cols=some x∧v= .tuple #[vx,.bool true]∧dg w2 (Cf w ON) w'.heap.size [(w'.heap.size,w2.heap.size)] vx f.cols x) (fun O w' r=>qn (M:=cP f) (b:=cW p (-1)) hlen hw0▸Af (C:=Cf w ON) (S:=Cf w ON) (h:=30) (Rel.old r (cC w)) (Rel.old r (cC w)) (cR.rel hM r (cC w)) ((hB.rel r (cC w)).c) PX hlen (by omega) (by omega) (kY (gH hlen) hw0 lW (by rw[p8]at *;omega)) (by decide)) ?_;rintro O Qw v4 Qk r he hb (⟨Qy,rfl⟩|⟨x0,vx,Qi,rfl,k2⟩)
 ·replace hw:=hw.tr hb;clear r he hb;exact rtn hw fun ρe we re=>.inl ⟨Qy,rfl⟩
 replace hw:=hw.tr hb;replace hM:=cR.cG (iv':=(Qw.heap.size,Qk.heap.size)::ON) hM r (cC w) he fun x hx=>List.mem_cons_of_mem _ hx;have hX:=k2.aA6 r.cD;clear r he hb k2 hB;generalize (Qw.heap.size,Qk.heap.size)::ON=OZ at*
 obtain⟨ax,cx,rfl,Sf⟩:=hX.row.form;obtain⟨hx0l,-⟩:=jx hlen Qi;have hx0D:=QU.NM hb Qi;have VS:∀q∈x0,rl q<=26:=fun q hq=>by
  obtain⟨D,hD⟩:=hx0D;have h1:=hD.rl q hq;have h2:ln (wt 25)<=26:=gB.2 (Ec (by decide));omega
 have hw1:=QU.Kk hx0D;have OR:=QU.Hv (b:=gh (cV (cP f) f.cols) (dO f) x0);obtain⟨c,hc,PU,hfrc⟩:=QU.Mc.force (fl:=dO f) Qi;have Se:=QU.Nu hx0D hc;have hKr:∀r∈cV (cP f) f.cols,∀q∈r,rl q<=14:=fun r hr q hq=>by
  obtain⟨D,hD⟩:=QU.ker;have h1:=hD.rl r hr q hq;have h2:ln (wt 13)<=14:=gB.2 (Ec (by decide));omega
 have hKl:=jy (cP f) f.cols;have hK18:=QU.NN;have hSl:=oJ (cV (cP f) f.cols) (dO f);have hfx:=QU.fx;have Q6:=qn (M:=eW (cV (cP f) f.cols) (dO f)) (b:=gh (cV (cP f) f.cols) (dO f) x0) hSl hw1;rw[hc]at Q6;have hredB:=kY (M:=dH (eW (cV (cP f) f.cols) (dO f)) (gh (cV (cP f) f.cols) (dO f) x0)) (h:=1930) (gH hSl) hw1 lW (by omega);refine cM hτ df [.x 0,.x 2,.x 1,.x 3,.x 4,.x 5] (by kernel_rfl) (by kernel_rfl) ?_;refine cO (Φ:=fun _ w' v w2=>cR w2 (Nf w' w2) v (cV (cP f) f.cols)) (fun O w' r=>zS (M:=cP f) (n:=f.cols) hlen QU.mQ▸Ak (C:=Cf w OZ) (S:=Cf w OZ) (h:=20) (Rel.old r (cC w)) (Rel.old r (cC w)) (cR.rel hM r (cC w)) hlen (by omega) (by omega) (kY hlen QU.mQ (by decide) (by have:=QU.size;omega)) (Al hlen QU.mQ (by decide) (by have:=QU.size;omega)) (by decide)) ?_;rintro O RY v5 RO r he Oe hn;replace hw:=hw.tr Oe;have Q9:∀g,(Value.slice ax f.cols cx).ownBlock=some g->g<RY.heap.size:=fun g e=>Rel.old r (cC w) g (hX.new g e);clear hM;replace hX:=hX.cG (iv':=(RY.heap.size,RO.heap.size)::OZ) r (cC w) he fun x hx=>List.mem_cons_of_mem _ hx;have hK:=gM.fresh (S:=FF) (v:=(.slice ax f.cols cx)) hn r Q9;clear r he Oe Q9 hn;generalize (RY.heap.size,RO.heap.size)::OZ=PF at*
 obtain⟨ak,ck,rfl,hck,Tx⟩:=dM.shape hK;refine cO (Φ:=fun _ w' v w2=>cS w2 (Nw S w' w2) v (dO f)) (fun O w' r=>CO (S:=S) (oS hS r) (hf.cJ (kS hw r hS)) OF) ?_;rintro O RR v6 RZ r he Oe hn;replace hw:=hw.tr Oe;have Q9:∀g,(Value.slice ax f.cols cx).ownBlock=some g->g<RR.heap.size:=fun g e=>Rel.old r (cC w) g (hX.new g e);replace hX:=hX.cG (iv':=(RR.heap.size,RZ.heap.size)::PF) r (cC w) he fun x hx=>List.mem_cons_of_mem _ hx;replace hK:=gM.cG (iv':=(RR.heap.size,RZ.heap.size)::PF) hK r (cC w) he fun x hx=>List.mem_cons_of_mem _ hx;have hL:=cS.cK (S':=Cv S w.heap.size ((RR.heap.size,RZ.heap.size)::PF)) hn fun g hg=>hg.elim .inl fun h=>.inr ⟨by have:=r.cD;omega,_,_,aG,h.1,h.2⟩;clear r he Oe Q9 hn;generalize (RR.heap.size,RZ.heap.size)::PF=Q2 at*
 obtain⟨al,cl,rfl,TS,QO⟩:=cY.shape hL;rw[OX]
 refine⟨Nat×List Value×List (List Value)×World×Iv,fun z=>⟨[(7,sV ax f.cols cx),(9,.o (.v (.slice ak (cV (cP f) f.cols).length ck))),(10,sV al f.cols cl),(11,pP 2 0),(43,.o (.v (.slice ak (cV (cP f) f.cols).length ck))),(44,.o (.v (.int .i64 (cV (cP f) f.cols).length))),(12,.o (.w 4 z.2.2.1.length)),(45,iN z.1)],[(2,.box T.dw [.w 3 z.2.1.length,.v (.int .i64 (cV (cP f) f.cols).length)]),(3,.vec T.gA 1 z.2.1),(4,.vec T.Rat 4 z.2.2.1.flatten)],5,z.2.2.2.2,z.2.2.2.1⟩,fun z=>(cV (cP f) f.cols).length-z.1,
  fun z=>z.1<=(cV (cP f) f.cols).length∧eE w.heap.size w z.2.2.2.1∧dg z.2.2.2.1 FF w.heap.size z.2.2.2.2 (.slice ax f.cols cx) f.cols x0∧cR z.2.2.2.1 (Bs FF w.heap.size z.2.2.2.2 (.slice ax f.cols cx)) (.slice ak (cV (cP f) f.cols).length ck) (cV (cP f) f.cols)∧cS z.2.2.2.1 (Cv S w.heap.size z.2.2.2.2) (.slice al f.cols cl) (dO f)∧dh z.2.2.2.1 (Bs FF w.heap.size z.2.2.2.2 (.slice ax f.cols cx)) z.2.1 ((eW (cV (cP f) f.cols) (dO f)).take z.1)∧eN z.2.2.2.1 (Bs FF w.heap.size z.2.2.2.2 (.slice ax f.cols cx)) z.2.2.1 ((gh (cV (cP f) f.cols) (dO f) x0).take z.1),?_,?_⟩
 ·intro O w' r3;exact⟨(0,[],[],w',_),⟨aQ _,hw.tr r3.cQ,hX.rel r3 (cC w),gM.rel hK r3 (cC w),by have:=cS.rel hL r3 hS;rw[OX]at this;exact this,by simp[dh],eN.nil⟩,Sub.BT 2 0 T.gA 1 rfl rfl (by simp[j8,SV.sc,At.sc,fa]) r3 fun ρ1 r1=>Sub.nil 12 T.Rat 4 rfl (by simp[j8,SV.sc,At.sc,fa]) r1 fun ρ2 r2=>Sub.gn [] r2⟩
 clear hw hX hK hL;rintro⟨i,rv,rc,w7,iv⟩ ⟨hi,hw,hX,hK,hL,hR,hG⟩;dsimp only at hi hw hX hK hL hR hG ⊢;have Of:rv.length=i:=by rw[hR.1,aW,eW,aK];omega
 have hgl:rc.length=i:=by rw[hG.len,aW,gh,aK];omega
 have hgf:=eY hG.four;refine dK.mk ?_ ?_<;>intro OC
 ·have OC:i<(cV (cP f) f.cols).length:=by have:=aI OC;omega
  obtain⟨s,hs⟩:∃s,(cV (cP f) f.cols)[i]? =some s:=⟨_,aB OC⟩
  have R1:s.length=f.cols:=hKl s (aC hs);have hsr:=hKr s (aC hs);obtain⟨adm1,um,ham1,Oh,km1,kn1⟩:=dM.load hK hs;obtain⟨as1,cs1,rfl,-,-⟩:=cY.shape Oh;obtain⟨bent,S5⟩:∃b,fR s (dO f)=b:=⟨_,rfl⟩
  have Ss:bent.length=f.cols:=by rw[<-S5,jg,R1]
  have VT:∀q∈bent,rl q<=20:=fun q hq=>by
   rw[<-S5]at hq;obtain⟨t,ht⟩:=aS hq;have TX:t<s.length:=by have:=(aD.1 ht).1;rw[jg]at this;exact this
   have h1:=nJ (a:=s) (b:=dO f) TX;rw[getD_some ht]at h1;have h2:=jE (s.getD t 0) ((dO f).getD t 0);have h3:=hsr (s.getD t 0) (by rw[getD_some (aB TX)];exact aY _);have h4:=QU.fxD (t:=t) (by omega);rw[h1];omega
  refine⟨adm1,ham1,by omega,.slice as1 s.length cs1,fun O w' r=>?_,?_⟩
  ·rw[aE,cH (w:=w7) (w2:=w') (by rw[dN];exact Rel.same r (cC w) km1.1)];exact kn1
  refine cF (cO (Φ:=fun _ w' v w2=>cI w2 (Nf w' w2) v bent) (fun O w' r=>(S5▸IF (S:=Cv S w.heap.size iv) (Rel.old r hS) (cS.cK (cI.l (ec.cv (ec.rel Oh r (cC w))) fun q hq=>by have:=hsr q hq;omega) fun g hg=>D7 hg) (cS.rel hL r hS) (by rw[R1,OX];exact aF _) (by omega)).mono fun _ _ ⟨v2,e1,e2,e3⟩=>⟨v2,e1,e2,cI.cK e3.c fun g hg=>hg.elim (fun h=>h.elim) fun⟨_,lo,hi,h2,h3,h4⟩=>by
   simp at h2;obtain⟨rfl,rfl⟩:=h2
   exact .inr ⟨h3,h4⟩⟩) ?_)
  rintro O Tw v8 UZ r he Oe hn;replace hw:=hw.tr Oe;have Q9:∀g,(Value.slice ax f.cols cx).ownBlock=some g->g<Tw.heap.size:=fun g e=>Rel.old r (cC w) g (hX.new g e);replace hX:=hX.cG (iv':=(Tw.heap.size,UZ.heap.size)::iv) r (cC w) he fun x hx=>List.mem_cons_of_mem _ hx;replace hK:=gM.cG (iv':=(Tw.heap.size,UZ.heap.size)::iv) hK r (cC w) he fun x hx=>List.mem_cons_of_mem _ hx;replace hL:=cS.cG (iv':=(Tw.heap.size,UZ.heap.size)::iv) hL r hS he fun x hx=>List.mem_cons_of_mem _ hx;replace hR:=mw.cG (iv':=(Tw.heap.size,UZ.heap.size)::iv) hR r (cC w) he fun x hx=>List.mem_cons_of_mem _ hx;replace hG:=ji.cG (iv':=(Tw.heap.size,UZ.heap.size)::iv) hG r (cC w) he fun x hx=>List.mem_cons_of_mem _ hx;have hE:=ec.fresh (S:=FF) (v:=(.slice ax f.cols cx)) hn r Q9;clear r he Oe Q9 hn;generalize (Tw.heap.size,UZ.heap.size)::iv=Rg at*
  clear Oh;obtain⟨ae,ce,rfl,-,-⟩:=cY.shape hE;rw[Ss]
  refine⟨Nat×List (List Value)×World×Iv,fun z=>⟨[(7,sV ax f.cols cx),(9,.o (.v (.slice ak (cV (cP f) f.cols).length ck))),(10,sV al f.cols cl),(11,pP 2 0),(43,.o (.v (.slice ak (cV (cP f) f.cols).length ck))),(44,.o (.v (.int .i64 (cV (cP f) f.cols).length))),(12,.o (.w 4 rc.length)),(45,iN i),(15,sV ae f.cols ce),(52,.o (.v (.slice ak (cV (cP f) f.cols).length ck))),(53,.o (.v (.int .i64 (cV (cP f) f.cols).length))),(16,.o (.w 5 z.2.1.length)),(54,iN z.1)],[(5,.vec T.Rat 4 z.2.1.flatten),(2,.box T.dw [.w 3 rv.length,.v (.int .i64 (cV (cP f) f.cols).length)]),(3,.vec T.gA 1 rv),(4,.vec T.Rat 4 rc.flatten)],6,z.2.2.2,z.2.2.1⟩,fun z=>(cV (cP f) f.cols).length-z.1,
   fun z=>z.1<=(cV (cP f) f.cols).length∧eE w.heap.size w z.2.2.1∧(dg z.2.2.1 FF w.heap.size z.2.2.2 (.slice ax f.cols cx) f.cols x0∧cR z.2.2.1 (Bs FF w.heap.size z.2.2.2 (.slice ax f.cols cx)) (.slice ak (cV (cP f) f.cols).length ck) (cV (cP f) f.cols)∧cS z.2.2.1 (Cv S w.heap.size z.2.2.2) (.slice al f.cols cl) (dO f)∧dh z.2.2.1 (Bs FF w.heap.size z.2.2.2 (.slice ax f.cols cx)) rv ((eW (cV (cP f) f.cols) (dO f)).take i)∧eN z.2.2.1 (Bs FF w.heap.size z.2.2.2 (.slice ax f.cols cx)) rc ((gh (cV (cP f) f.cols) (dO f) x0).take i)∧cI z.2.2.1 (Bs FF w.heap.size z.2.2.2 (.slice ax f.cols cx)) (.slice ae f.cols ce) bent)∧eN z.2.2.1 (Bs FF w.heap.size z.2.2.2 (.slice ax f.cols cx)) z.2.1 (((cV (cP f) f.cols).map fun r=>dP bent r f.cols).take z.1),?_,?_⟩
  ·intro O w' r3;exact⟨(0,[],w',_),⟨aQ _,hw.tr r3.cQ,⟨hX.rel r3 (cC w),gM.rel hK r3 (cC w),cS.rel hL r3 hS,mw.rel hR r3 (cC w),ji.rel hG r3 (cC w),by have:=ec.rel hE r3 (cC w);rw[Ss]at this;exact this⟩,eN.nil⟩,Sub.nil 16 T.Rat 4 rfl (by simp[j8,SV.sc,At.sc,fa]) r3 fun ρ2 r2=>Sub.gn [] r2⟩
  clear hw hX hK hL hR hG hE;rintro⟨j,css,w8,iv⟩ ⟨hj,hw,⟨hX,hK,hL,hR,hG,hE⟩,hD⟩;dsimp only at hj hw hX hK hL hR hG hE hD ⊢;have Sc:css.length=j:=by rw[hD.len,aW,aK];omega
  have hdf:=eY hD.four;refine dK.mk ?_ ?_<;>intro PT
  ·have PT:j<(cV (cP f) f.cols).length:=by have:=aI PT;omega
   obtain⟨t,ht⟩:∃s,(cV (cP f) f.cols)[j]? =some s:=⟨_,aB PT⟩
   have TX:t.length=f.cols:=hKl t (aC ht);have htr:=hKr t (aC ht);obtain⟨adm2,um2,ham2,Oh,km2,kn2⟩:=dM.load hK ht;obtain⟨as2,cs2,rfl,-,-⟩:=cY.shape Oh;refine⟨adm2,ham2,by omega,.slice as2 t.length cs2,fun O w' r=>?_,?_⟩
   ·rw[aE,cH (w:=w8) (w2:=w') (by rw[dN];exact Rel.same r (cC w) km2.1)];exact kn2
   refine cF (cO (Φ:=fun _ w' v w2=>cT w2 (Nf w' w2) v (dP bent t f.cols)) (fun O w' r=>Ss▸AZ (S:=Cf w iv) (h:=21) (Rel.old r (cC w)) (cI.l (by have:=ec.cv (ec.rel hE r (cC w));rw[<-Ss]at this;exact this) fun q hq=>by have:=VT q hq;omega) (cI.l (ec.cv (ec.rel Oh r (cC w))) fun q hq=>by have:=htr q hq;omega) (by omega) (fun q hq=>by have:=VT q hq;omega) (fun q hq=>by have:=htr q hq;omega) (by decide) (by omega)) ?_);rintro O Rh v9 Rv r he Oe hn;replace hw:=hw.tr Oe;have Q9:∀g,(Value.slice ax f.cols cx).ownBlock=some g->g<Rh.heap.size:=fun g e=>Rel.old r (cC w) g (hX.new g e);replace hX:=hX.cG (iv':=(Rh.heap.size,Rv.heap.size)::iv) r (cC w) he fun x hx=>List.mem_cons_of_mem _ hx;replace hK:=gM.cG (iv':=(Rh.heap.size,Rv.heap.size)::iv) hK r (cC w) he fun x hx=>List.mem_cons_of_mem _ hx;replace hL:=cS.cG (iv':=(Rh.heap.size,Rv.heap.size)::iv) hL r hS he fun x hx=>List.mem_cons_of_mem _ hx;replace hR:=mw.cG (iv':=(Rh.heap.size,Rv.heap.size)::iv) hR r (cC w) he fun x hx=>List.mem_cons_of_mem _ hx;replace hG:=ji.cG (iv':=(Rh.heap.size,Rv.heap.size)::iv) hG r (cC w) he fun x hx=>List.mem_cons_of_mem _ hx;replace hE:=ec.cG (iv':=(Rh.heap.size,Rv.heap.size)::iv) hE r (cC w) he fun x hx=>List.mem_cons_of_mem _ hx;replace hD:=ji.cG (iv':=(Rh.heap.size,Rv.heap.size)::iv) hD r (cC w) he fun x hx=>List.mem_cons_of_mem _ hx;have hd:=lz.fresh (S:=FF) (v:=(.slice ax f.cols cx)) hn r Q9;clear r he Oe Q9 hn;generalize (Rh.heap.size,Rv.heap.size)::iv=SK at*
   obtain⟨C0,C1,C2,C3,C4,C5,C6,C7,rfl⟩:=hd.shape;clear Oh;have hD2:=hD.push (cs:=[.bool C0,.slice C1 C2 C3,.bool C4,.slice C5 C6 C7]) (q:=dP bent t f.cols) ⟨_,_,_,_,_,_,_,_,rfl,hd⟩ rfl;rw[show (((cV (cP f) f.cols).map fun r=>dP bent r f.cols).take j)++[dP bent t f.cols]=((cV (cP f) f.cols).map fun r=>dP bent r f.cols).take (j+1) by rw[List.take_add_one,aM,ht];rfl]at hD2;have Pt:css.flatten++([.bool C0,.slice C1 C2 C3,.bool C4,.slice C5 C6 C7]:List Value)=(css++([[.bool C0,.slice C1 C2 C3,.bool C4,.slice C5 C6 C7]]:List (List Value))).flatten:=by simp
   refine .inl ?_;refine⟨by omega,by omega,by unfold maxLen;omega,((j+1:Nat):Int),wo,?_⟩;intro ρ3 w6 r3;exact⟨(j+1,css++[[.bool C0,.slice C1 C2 C3,.bool C4,.slice C5 C6 C7]],w6,_),⟨PT,hw.tr r3.cQ,⟨hX.rel r3 (cC w),gM.rel hK r3 (cC w),cS.rel hL r3 hS,mw.rel hR r3 (cC w),ji.rel hG r3 (cC w),ec.rel hE r3 (cC w)⟩,ji.rel hD2 r3 (cC w)⟩,Sub.gn [(5,7)] r3 ⟨by dsimp only;rw[<-Pt];rfl,rfl,rfl,rfl,trivial⟩ ⟨rfl,rfl,rfl,rfl,rfl,rfl,rfl,rfl,rfl,rfl,rfl,by dsimp only;rw[List.length_append,List.length_singleton];rfl,rfl,trivial⟩,by dsimp only;omega⟩
  have PT:j=(cV (cP f) f.cols).length:=by have:=aH PT;omega
  rw[PT,List.take_of_length_le (by rw[aK];exact aF _)]at hD;have OE:(eW (cV (cP f) f.cols) (dO f)).take i++[((cV (cP f) f.cols).map fun r=>dP bent r f.cols)]=(eW (cV (cP f) f.cols) (dO f)).take (i+1):=by
   rw[List.take_add_one,eW,aM,hs,<-S5,<-R1];rfl
  have hrgt:(gh (cV (cP f) f.cols) (dO f) x0).take i++[-(dP bent x0 f.cols)]=(gh (cV (cP f) f.cols) (dO f) x0).take (i+1):=by
   rw[List.take_add_one,gh,aM,hs,<-S5,<-R1];rfl
  refine nm hτ (id3:=6) (id2:=5) (tH:=[(2,.box T.dw [.w 3 rv.length,.v (.int .i64 (cV (cP f) f.cols).length)]),(3,.vec T.gA 1 rv),(4,.vec T.Rat 4 rc.flatten)]) rfl rfl rfl rfl (by simp) ⟨rfl,rfl,rfl,trivial⟩ rfl rfl (fun O w' r r2 S3=>?_);have QR:∀g,(Value.slice ax f.cols cx).ownBlock=some g->∀id b,dF [(6,.box T.gA [.w 5 css.length]),(5,.vec T.Rat 4 css.flatten),(2,.box T.dw [.w 3 rv.length,.v (.int .i64 (cV (cP f) f.cols).length)]),(3,.vec T.gA 1 rv),(4,.vec T.Rat 4 rc.flatten)] id=some b->(O id).nil=false->(O id).g≠g:=fun g e id b h1 h2=>Rel.not r (cC w) (hX.new g e) id b h1 h2;have Rd:=r.low 6 _ rfl (r.fits (id:=6) rfl).1;have hB3:Bs FF w.heap.size (((O 6).g,(O 6).g+1)::js (O 5) iv) (.slice ax f.cols cx) (O 6).g:=⟨.inr ⟨Rd.1,_,_,aG,aF _,bZ _⟩,fun e=>QR _ e 6 _ rfl (r.fits (id:=6) rfl).1 rfl⟩
  have Po:∀p,p∈iv->p∈((O 6).g,(O 6).g+1)::js (O 5) iv:=fun p hp=>List.mem_cons_of_mem _ (nF p hp);have Vu:=eN.list ((ji.rel hD r (cC w)).cK fun g hg=>Bs.mono Po hg) (r.Dq (T:=Bs FF w.heap.size (((O 6).g,(O 6).g+1)::js (O 5) iv) (.slice ax f.cols cx)) (id:=5) (sz:=4) (m:=css.length) rfl hdf (by unfold maxLen;omega) (by decide) hD.one fun hn=>⟨.inr ⟨(r.low 5 _ rfl hn).1,_,_,List.mem_cons_of_mem _ (ET hn),aF _,bZ _⟩,fun e=>QR _ e 5 _ rfl hn rfl⟩);have Pm:((At.w 5 css.length).den O).oneCell'=true:=At.LY;have Oz:=hw.tr r.cQ;replace hX:dg w' FF w.heap.size (((O 6).g,(O 6).g+1)::js (O 5) iv) (.slice ax f.cols cx) f.cols x0:=by
   have h1:=hX.rel r (cC w);exact⟨h1.row.cK fun g hg=>⟨hg.1.mono Po,hg.2⟩,fun g hg=>(h1.new g hg).mono Po⟩
  replace hK:=cR.cK (gM.rel hK r (cC w)) fun g hg=>Bs.mono Po hg;replace hL:=cS.cK (cS.rel hL r hS) fun g hg=>hg.mono Po;replace hR:=dh.cK (mw.rel hR r (cC w)) fun g hg=>Bs.mono Po hg;replace hG:=eN.cK (ji.rel hG r (cC w)) fun g hg=>Bs.mono Po hg;replace hE:=cI.cK (ec.rel hE r (cC w)) fun g hg=>Bs.mono Po hg;clear r2 Rd hD QR hw;generalize (At.w 5 css.length).den O=ur at*
  generalize (O 6).g=gy at*
  generalize (gy,gy+1)::js (O 5) iv=ivg at*
  clear r;refine⟨[ur],rfl,by simpa using Pm,fun ρ2 w2 r2 _=>⟨_,rfl,fun j u hu=>?_⟩,?_⟩
  ·have h5:=Rel.same r2 (gQ _) hB3.1;rw[dV,cell_of (h5.trans S3)];rcases j with _|j
   ·exact hu
   ·cases hu
  refine⟨by simp,by omega,by unfold maxLen;omega,?_⟩;have Ql:=hR.push Pm Vu;rw[OE]at Ql;clear Vu hR S3 hB3;rename_i wg _;have hw:=Oz;clear Oz;refine cF (cO (Φ:=fun _ w' v w2=>cT w2 (Nf w' w2) v (dP bent x0 f.cols)) (fun O w' r=>Ss▸AZ (S:=Cf w ivg) (h:=30) (Rel.old r (cC w)) (cI.l (by have:=ec.cv (ec.rel hE r (cC w));rw[<-Ss]at this;exact this) fun q hq=>by have:=VT q hq;omega) (cI.l (by have:=(hX.rel r (cC w)).c;rw[<-Ss]at this;exact this) fun q hq=>by have:=VS q hq;omega) (by omega) (fun q hq=>by have:=VT q hq;omega) (fun q hq=>by have:=VS q hq;omega) (by decide) (by omega)) ?_);rintro O Qq v11 RG r he Oe hn;replace hw:=hw.tr Oe;have Q9:∀g,(Value.slice ax f.cols cx).ownBlock=some g->g<Qq.heap.size:=fun g e=>Rel.old r (cC w) g (hX.new g e);replace hX:=hX.cG (iv':=(Qq.heap.size,RG.heap.size)::ivg) r (cC w) he fun x hx=>List.mem_cons_of_mem _ hx;replace hK:=gM.cG (iv':=(Qq.heap.size,RG.heap.size)::ivg) hK r (cC w) he fun x hx=>List.mem_cons_of_mem _ hx;replace hL:=cS.cG (iv':=(Qq.heap.size,RG.heap.size)::ivg) hL r hS he fun x hx=>List.mem_cons_of_mem _ hx;replace Ql:=mw.cG (iv':=(Qq.heap.size,RG.heap.size)::ivg) Ql r (cC w) he fun x hx=>List.mem_cons_of_mem _ hx;replace hG:=ji.cG (iv':=(Qq.heap.size,RG.heap.size)::ivg) hG r (cC w) he fun x hx=>List.mem_cons_of_mem _ hx;replace hE:=ec.cG (iv':=(Qq.heap.size,RG.heap.size)::ivg) hE r (cC w) he fun x hx=>List.mem_cons_of_mem _ hx;have hd:=lz.fresh (S:=FF) (v:=(.slice ax f.cols cx)) hn r Q9;clear r he Oe Q9 hn;generalize (Qq.heap.size,RG.heap.size)::ivg=QV at*
  obtain⟨E0,E1,E2,E3,E4,E5,E6,E7,rfl⟩:=hd.shape;have hdr:=kW (h:=30) (xs:=bent) (ys:=x0) (fun q hq=>by have:=VT q hq;omega) (fun q hq=>by have:=VS q hq;omega) (by decide) f.cols;refine cF (cO (Φ:=fun _ w' v w2=>cT w2 (Nf w' w2) v (-(dP bent x0 f.cols))) (fun O w' r=>LF (S:=Cf w QV) (Rel.old r (cC w)) (cT.l (lz.cv (lz.rel hd r (cC w))) (by omega))) ?_);rintro O S6 v12 St r he Oe hn;replace hw:=hw.tr Oe;have Q9:∀g,(Value.slice ax f.cols cx).ownBlock=some g->g<S6.heap.size:=fun g e=>Rel.old r (cC w) g (hX.new g e);replace hX:=hX.cG (iv':=(S6.heap.size,St.heap.size)::QV) r (cC w) he fun x hx=>List.mem_cons_of_mem _ hx;replace hK:=gM.cG (iv':=(S6.heap.size,St.heap.size)::QV) hK r (cC w) he fun x hx=>List.mem_cons_of_mem _ hx;replace hL:=cS.cG (iv':=(S6.heap.size,St.heap.size)::QV) hL r hS he fun x hx=>List.mem_cons_of_mem _ hx;replace Ql:=mw.cG (iv':=(S6.heap.size,St.heap.size)::QV) Ql r (cC w) he fun x hx=>List.mem_cons_of_mem _ hx;replace hG:=ji.cG (iv':=(S6.heap.size,St.heap.size)::QV) hG r (cC w) he fun x hx=>List.mem_cons_of_mem _ hx;replace hE:=ec.cG (iv':=(S6.heap.size,St.heap.size)::QV) hE r (cC w) he fun x hx=>List.mem_cons_of_mem _ hx;clear hd;have Oc:=lz.fresh (S:=FF) (v:=(.slice ax f.cols cx)) hn r Q9;clear r he Oe Q9 hn;generalize (S6.heap.size,St.heap.size)::QV=VU at*
  obtain⟨F0,F1,F2,F3,F4,F5,F6,F7,rfl⟩:=Oc.shape;have S2:=hG.push (cs:=[.bool F0,.slice F1 F2 F3,.bool F4,.slice F5 F6 F7]) (q:= -(dP bent x0 f.cols)) ⟨_,_,_,_,_,_,_,_,rfl,Oc⟩ rfl;rw[hrgt]at S2;have Pt:rc.flatten++([.bool F0,.slice F1 F2 F3,.bool F4,.slice F5 F6 F7]:List Value)=(rc++([[.bool F0,.slice F1 F2 F3,.bool F4,.slice F5 F6 F7]]:List (List Value))).flatten:=by simp
  refine .inl ?_;refine⟨by omega,by omega,by unfold maxLen;omega,((i+1:Nat):Int),wo,?_⟩;intro ρ3 w6 r3;exact⟨(i+1,rv++[ur],rc++[[.bool F0,.slice F1 F2 F3,.bool F4,.slice F5 F6 F7]],w6,_),⟨OC,hw.tr r3.cQ,hX.rel r3 (cC w),gM.rel hK r3 (cC w),cS.rel hL r3 hS,mw.rel Ql r3 (cC w),ji.rel S2 r3 (cC w)⟩,Sub.gn [(3,7),(4,9)] r3 ⟨by dsimp only;rw[List.length_append,List.length_singleton];rfl,rfl,by dsimp only;rw[<-Pt];rfl,trivial⟩ ⟨rfl,rfl,rfl,rfl,rfl,rfl,by dsimp only;rw[List.length_append,List.length_singleton];rfl,rfl,trivial⟩,by dsimp only;omega⟩
 have OC:i=(cV (cP f) f.cols).length:=by have:=aH OC;omega
 rw[OC,List.take_of_length_le (by rw[eW,aK];exact aF _)]at hR;rw[OC,List.take_of_length_le (by rw[gh,aK];exact aF _)]at hG;have QT:rv.length=(eW (cV (cP f) f.cols) (dO f)).length:=hR.1
 refine cF (cO (Φ:=fun _ w' v w2=>∃vc,v= .tuple #[vc,.bool true]∧dg w2 (Bs FF w.heap.size iv (.slice ax f.cols cx)) w'.heap.size [(w'.heap.size,w2.heap.size)] vc (cV (cP f) f.cols).length c) (fun O w' r=>(CL (C:=(fun g=>g<w'.heap.size)) (D:=(fun g=>g<w'.heap.size)) (S:=Bs FF w.heap.size iv (.slice ax f.cols cx)) (M:=eW (cV (cP f) f.cols) (dO f)) (b:=gh (cV (cP f) f.cols) (dO f) x0) (cols:=(cV (cP f) f.cols).length) (h:=1930) (fun g hg=>hg) (fun g hg=>hg) (fun g hg=>Rel.old r (cC w) g hg.1) ⟨rv,by rw[<-QT];exact r.Dq (T:=(fun g=>g<w'.heap.size)) (id:=3) (sz:=1) (m:=rv.length) rfl (by simp) (by unfold maxLen;omega) (by decide) hR.2.1 fun hn=>(r.low 3 _ rfl hn).2,hR.1,fun a u x h1 h2=>ec.rel (hR.2.2 a u x h1 h2) r (cC w)⟩ ⟨rc,by rw[<-hG.len];exact r.Dq (T:=(fun g=>g<w'.heap.size)) (id:=4) (sz:=4) (m:=rc.length) rfl hgf (by unfold maxLen;omega) (by decide) hG.one fun hn=>(r.low 4 _ rfl hn).2,hG.len,fun a cs x h1 h2=>(ji.rel hG r (cC w)).at_ a cs x h1 h2⟩ (by rw[gh,eW,aK,aK]) hSl (by omega) (by rw[eW,aK];omega) hredB (by decide)).mono fun _ _ ⟨v2,e1,e2,e3⟩=>⟨v2,e1,e2,by
  rcases e3 with⟨h1,_⟩|⟨x2,vx,h1,h2,h3⟩
  ·rw[Q6]at h1;cases h1
  ·rw[Q6]at h1;injection h1 with h1;subst h1;exact⟨vx,h2,h3⟩⟩) ?_)
 rintro O VV v13 wb13 r he Oe ⟨vc,rfl,hn⟩;replace hw:=hw.tr Oe;have Q9:∀g,(Value.slice ax f.cols cx).ownBlock=some g->g<VV.heap.size:=fun g e=>Rel.old r (cC w) g (hX.new g e);replace hX:=hX.cG (iv':=(VV.heap.size,wb13.heap.size)::iv) r (cC w) he fun x hx=>List.mem_cons_of_mem _ hx;replace hK:=gM.cG (iv':=(VV.heap.size,wb13.heap.size)::iv) hK r (cC w) he fun x hx=>List.mem_cons_of_mem _ hx;have hC:=cI.cK hn.c fun g hg=>Bs.solved r Q9 (fun _ h=>h) hg;clear r he Oe Q9;generalize (VV.heap.size,wb13.heap.size)::iv=VW at*
 clear hn hR hG hL;obtain⟨ac,cc,rfl,-,-⟩:=cY.shape hC;rw[PU]
 refine⟨Nat×World×Iv,fun z=>⟨[(7,sV ax f.cols cx),(19,.o (.v (.slice ac (cV (cP f) f.cols).length cc))),(87,.o (.v (.slice ak (cV (cP f) f.cols).length ck))),(88,.o (.v (.int .i64 (cV (cP f) f.cols).length))),(89,iN z.1)],[],0,z.2.2,z.2.1⟩,fun z=>(cV (cP f) f.cols).length-z.1,
  fun z=>z.1<=(cV (cP f) f.cols).length∧eE w.heap.size w z.2.1∧dg z.2.1 FF w.heap.size z.2.2 (.slice ax f.cols cx) f.cols (lQ (cV (cP f) f.cols) c x0 z.1)∧cR z.2.1 (Bs FF w.heap.size z.2.2 (.slice ax f.cols cx)) (.slice ak (cV (cP f) f.cols).length ck) (cV (cP f) f.cols)∧cI z.2.1 (Bs FF w.heap.size z.2.2 (.slice ax f.cols cx)) (.slice ac (cV (cP f) f.cols).length cc) c,?_,?_⟩
 ·intro O w' r3;exact⟨(0,w',_),⟨aQ _,hw.tr r3.cQ,hX.rel r3 (cC w),gM.rel hK r3 (cC w),by have:=ec.rel hC r3 (cC w);rw[PU]at this;exact this⟩,Sub.gn [] r3⟩
 clear hw hX hK hC;rintro⟨i,w13,iv⟩ ⟨hi,hw,hX,hK,hC⟩;dsimp only at hi hw hX hK hC ⊢;refine dK.mk ?_ ?_<;>intro OC
 ·have OC:i<(cV (cP f) f.cols).length:=by have:=aI OC;omega
  obtain⟨s,hs⟩:∃s,(cV (cP f) f.cols)[i]? =some s:=⟨_,aB OC⟩
  have R1:s.length=f.cols:=hKl s (aC hs);have hsr:=hKr s (aC hs);obtain⟨ci,hci⟩:∃q,c[i]? =some q:=⟨_,aB (by omega)⟩
  have hcir:=Se ci (aC hci);obtain⟨y0,Pe⟩:∃y,lQ (cV (cP f) f.cols) c x0 i=y:=⟨_,rfl⟩
  have hy0l:y0.length=f.cols:=by rw[<-Pe,qp,hx0l]
  have hy0r:∀q∈y0,rl q<=75000:=fun q hq=>by
   rw[<-Pe]at hq;have h1:=Fu (a:=26) (b:=1927) VS (fun r hr q hq=>by have:=hKr r hr q hq;omega) Se i q hq;have h2:i*(2*1927+5)<=18*(2*1927+5):=Nat.mul_le_mul_right _ (by omega);omega
  have hnextA:lQ (cV (cP f) f.cols) c x0 (i+1)=y0.mapIdx fun k q=>q+ci*s.getD k 0:=by rw[lQ,Pe,getD_some hci,getD_some (d:=[]) hs]
  rw[Pe]at hX;obtain⟨adm3,um,ham3,Oh,km3,kn3⟩:=dM.load hK hs;obtain⟨as3,cs3,rfl,-,-⟩:=cY.shape Oh;refine⟨adm3,ham3,by omega,.slice as3 s.length cs3,fun O w' r=>?_,?_⟩
  ·rw[aE,cH (w:=w13) (w2:=w') (by rw[dN];exact Rel.same r (cC w) km3.1)];exact kn3
  rw[R1]
  refine⟨Nat×World×Iv,fun z=>⟨[(7,sV ax f.cols cx),(19,.o (.v (.slice ac (cV (cP f) f.cols).length cc))),(87,.o (.v (.slice ak (cV (cP f) f.cols).length ck))),(88,.o (.v (.int .i64 (cV (cP f) f.cols).length))),(89,iN i),(20,iN i),(94,sV as3 f.cols cs3),(95,iZ f.cols),(96,iN z.1)],[],0,z.2.2,z.2.1⟩,fun z=>f.cols-z.1,
   fun z=>z.1<=f.cols∧eE w.heap.size w z.2.1∧dg z.2.1 FF w.heap.size z.2.2 (.slice ax f.cols cx) f.cols ((iA z.1 (fun k q=>q+ci*s.getD k 0) y0))∧cR z.2.1 (Bs FF w.heap.size z.2.2 (.slice ax f.cols cx)) (.slice ak (cV (cP f) f.cols).length ck) (cV (cP f) f.cols)∧cI z.2.1 (Bs FF w.heap.size z.2.2 (.slice ax f.cols cx)) (.slice ac (cV (cP f) f.cols).length cc) c∧cI z.2.1 (Bs FF w.heap.size z.2.2 (.slice ax f.cols cx)) (.slice as3 f.cols cs3) s,?_,?_⟩
  ·intro O w' r3;exact⟨(0,w',_),⟨aQ _,hw.tr r3.cQ,by dsimp only;rw[sf];exact hX.rel r3 (cC w),gM.rel hK r3 (cC w),ec.rel hC r3 (cC w),by have:=ec.rel Oh r3 (cC w);rw[R1]at this;exact this⟩,Sub.gn [] r3⟩
  clear hw hX hK hC Oh;rintro⟨k,w14,iv⟩ ⟨hk,hw,hX,hK,hC,Oh⟩;dsimp only at hk hw hX hK hC Oh ⊢;refine dK.mk ?_ ?_<;>intro OH
  ·have OH:k<f.cols:=by have:=aI OH;omega
   obtain⟨gx,rfl⟩:=hX.at (by omega);obtain⟨q,hq⟩:∃q,s[k]? =some q:=⟨_,aB (by omega)⟩
   obtain⟨y,hy⟩:∃q,y0[k]? =some q:=⟨_,aB (by omega)⟩
   have hyu:=Ab (f:=fun k q=>q+ci*s.getD k 0) hy;have hqr:=hsr q (aC hq);have hyr:=hy0r y (aC hy);obtain⟨adq,csq,TG,hFq,_,hlq⟩:=cY.load Oh hq;obtain⟨q0,q1,q2,q3,q4,q5,q6,q7,rfl,hFq⟩:=hFq;obtain⟨ady,csy,Ts,RE,_,QP⟩:=cY.load hX.c hyu;obtain⟨y0',y1,y2,y3,y4,y5,y6,y7,rfl,RE⟩:=RE;obtain⟨adc,csc,Vm,hFc,_,SR⟩:=cY.load hC hci;obtain⟨c0,c1,c2,c3,c4,c5,c6,c7,rfl,hFc⟩:=hFc;refine⟨adq,TG,by omega,[.bool q0,.slice q1 q2 q3,.bool q4,.slice q5 q6 q7],rfl,fun O w' r j u hu=>?_,?_⟩
   ·obtain⟨k1,k2⟩:=hlq j u hu;rw[aE,cH (w:=w14) (w2:=w') (by rw[dN,dN];exact Rel.same r (cC w) k1.1)];exact k2
   refine cM hτ df [.x 0,.x 1,.x 2,.x 3,.x 4,.x 5,.x 6,.x 7,.x 8,.x 9,.x 10,.x 11,.x 12,.x 13,.x 14] (by kernel_rfl) (by kernel_rfl) ?_;refine⟨ady,Ts,by omega,[.bool y0',.slice y1 y2 y3,.bool y4,.slice y5 y6 y7],rfl,fun O w' r j u hu=>?_,?_⟩
   ·obtain⟨k1,k2⟩:=QP j u hu;rw[aE,cH (w:=w14) (w2:=w') (by rw[dN,dN];exact Rel.same r (cC w) k1)];exact k2
   refine⟨adc,Vm,by omega,[.bool c0,.slice c1 c2 c3,.bool c4,.slice c5 c6 c7],rfl,fun O w' r j u hu=>?_,?_⟩
   ·obtain⟨k1,k2⟩:=SR j u hu;rw[aE,cH (w:=w14) (w2:=w') (by rw[dN,dN];exact Rel.same r (cC w) k1.1)];exact k2
   refine cO (Φ:=fun _ w' v w2=>cT w2 (Nf w' w2) v (ci*q)) (fun O w' r=>Aa (S:=Cf w iv) (Rel.old r (cC w)) ((cT.l (lz.cv (lz.rel hFc r (cC w))) (by omega)).v) ((cT.l (lz.cv (lz.rel hFq r (cC w))) (by omega)).v)) ?_;rintro O Su v15 TY r he Oe hn;replace hw:=hw.tr Oe;have Q9:∀g,(Value.slice (some ⟨gx,0,none⟩) f.cols cx).ownBlock=some g->g<Su.heap.size:=fun g e=>Rel.old r (cC w) g (hX.new g e);replace hX:=hX.cG (iv':=(Su.heap.size,TY.heap.size)::iv) r (cC w) he fun x hx=>List.mem_cons_of_mem _ hx;replace hK:=gM.cG (iv':=(Su.heap.size,TY.heap.size)::iv) hK r (cC w) he fun x hx=>List.mem_cons_of_mem _ hx;replace hC:=ec.cG (iv':=(Su.heap.size,TY.heap.size)::iv) hC r (cC w) he fun x hx=>List.mem_cons_of_mem _ hx;replace Oh:=ec.cG (iv':=(Su.heap.size,TY.heap.size)::iv) Oh r (cC w) he fun x hx=>List.mem_cons_of_mem _ hx;replace RE:=cT.cG (iv':=(Su.heap.size,TY.heap.size)::iv) RE r (cC w) he fun x hx=>List.mem_cons_of_mem _ hx;have hm:=lz.fresh (S:=FF) (v:=(.slice (some ⟨gx,0,none⟩) f.cols cx)) hn r Q9;clear r he Oe Q9 hn;generalize (Su.heap.size,TY.heap.size)::iv=TZ at*
   obtain⟨G0,G1,G2,G3,G4,G5,G6,G7,rfl⟩:=hm.shape;refine cO (Φ:=fun _ w' v w2=>cT w2 (Nf w' w2) v (y+ci*q)) (fun O w' r=>Gu (S:=Cf w TZ) (Rel.old r (cC w)) ((cT.l (cT.rel RE r (cC w)) (by omega)).v) ((cT.l (lz.cv (lz.rel hm r (cC w))) (by have:=jE ci q;omega)).v)) ?_;rintro O Ta v16 Ua r he Oe hn;replace hw:=hw.tr Oe;have Q9:∀g,(Value.slice (some ⟨gx,0,none⟩) f.cols cx).ownBlock=some g->g<Ta.heap.size:=fun g e=>Rel.old r (cC w) g (hX.new g e);replace hX:=hX.cG (iv':=(Ta.heap.size,Ua.heap.size)::TZ) r (cC w) he fun x hx=>List.mem_cons_of_mem _ hx;replace hK:=gM.cG (iv':=(Ta.heap.size,Ua.heap.size)::TZ) hK r (cC w) he fun x hx=>List.mem_cons_of_mem _ hx;replace hC:=ec.cG (iv':=(Ta.heap.size,Ua.heap.size)::TZ) hC r (cC w) he fun x hx=>List.mem_cons_of_mem _ hx;replace Oh:=ec.cG (iv':=(Ta.heap.size,Ua.heap.size)::TZ) Oh r (cC w) he fun x hx=>List.mem_cons_of_mem _ hx;clear RE;clear hm;have hd:=lz.fresh (S:=FF) (v:=(.slice (some ⟨gx,0,none⟩) f.cols cx)) hn r Q9;clear r he Oe Q9 hn;generalize (Ta.heap.size,Ua.heap.size)::TZ=iv16 at*
   obtain⟨J0,J1,J2,J3,J4,J5,J6,J7,rfl⟩:=hd.shape;refine⟨⟨gx,0,none⟩,rfl,by omega,?_⟩;intro O w' r;obtain⟨g,hg,h1,h2,h3,h4,h5⟩:=(hX.rel r (cC w)).store (j:=k) OH (hd.cJ (Bs.same r (cC w))) r (cC w);injection hg with hg;injection hg with hg;subst hg;refine⟨h1,h2,h3,fun w5 QZ=>?_⟩;obtain⟨k1,k2,k3⟩:=h5 w5 QZ;have Oz:eE w.heap.size w w5:=(hw.tr r.cQ).tr (eE.grown k2 (fun g e=>by injection e with e;subst e;exact h4.elim (fun h=>h.elim) fun h=>h.1) r.cD);have Qe:=gM.kept hK r (cC w) k2;have Uj:=ec.kept hC r (cC w) k2;have Ql:=ec.kept Oh r (cC w) k2;have OL:(iA k (fun k q=>q+ci*s.getD k 0) y0).set k (y+ci*q)=(iA (k+1) (fun k q=>q+ci*s.getD k 0) y0):=by rw[<-o6 hy,getD_some hq]
   rw[OL]at k1;clear hX hK hC Oh hw h1 h2 h3 h4 h5 QZ k2 k3 r hd;refine⟨((k+1:Nat):Int),wo,?_⟩;intro ρ3 w6 r3;exact⟨(k+1,w6,_),⟨OH,Oz.tr r3.cQ,k1.rel r3 (cC w),gM.rel Qe r3 (cC w),ec.rel Uj r3 (cC w),ec.rel Ql r3 (cC w)⟩,Sub.gn [] r3,by dsimp only;omega⟩
  have OH:k=f.cols:=by have:=aH OH;omega
  rw[OH,<-hy0l,vq,<-hnextA,hy0l]at hX;refine⟨((i+1:Nat):Int),wo,?_⟩;intro ρ3 w6 r3;exact⟨(i+1,w6,_),⟨OC,hw.tr r3.cQ,hX.rel r3 (cC w),gM.rel hK r3 (cC w),ec.rel hC r3 (cC w)⟩,Sub.gn [] r3,by dsimp only;omega⟩
 have OC:i=(cV (cP f) f.cols).length:=by have:=aH OC;omega
 rw[OC]at hX;exact rtn hw fun ρe we re=>.inr ⟨_,_,hfrc,rfl,cI.out hX.c re (cC w)⟩
end Go.Ex
namespace Go.Ex
open Go Go.Sx Go.Proofs
variable{M:List (List Rat)}{l:List Ld}{S:Nat->Prop}{f:fA}
theorem sX(OF:nL f.nodes.length l):Bl (cW (dI f l) (-1)):=fun t=>by
 rcases aP t (cW (dI f l) (-1)).length with h|h
 ·have h2:t<(dI f l).length:=by rw[cW,aK]at h;exact h
  have h3:(dI f l)[t]∈dI f l:=aY h2;rw[getD_some (show (cW (dI f l) (-1))[t]? =some ((dI f l)[t]* -1) by rw[cW,aM,aB h2];rfl)];obtain⟨z,hz,Oq⟩:=aU.1 h3;have hb:=wH OF l.length (aF _) z hz;have hl:=OF.len;rw[<-Oq,show(z:Rat)* -1=((-z:Int):Rat) by rw[Rat.intCast_neg];grind];exact Ib.int (by omega)
 ·rw[jI h];exact Ib.zero _
theorem Lk(hn:f.nodes.length<=20)(OF:nL f.nodes.length l):∀q∈cW (dI f l) (-1),rl q<=5:=fun q hq=>by
 obtain⟨y,hy,rfl⟩:=aU.1 hq;have h1:=yS hn OF y hy;have h2:=jE y (-1);have h3:rl (-1)=1:=by decide
 omega
theorem aA9{n B h0 c:Nat}(hM:fZ n M)(hW:BF M n B)(hB:1<=B)(hs:ln (fB B M.length)+1<=h0)(hc:c<=n):Ht (cN M c).1 h0:=fun r hr q hq=>by
 have:=zR hM hW hB hc r hr q hq;omega
set_option maxRecDepth 8000 in
theorem An{w:World}{vn vb vs vl:Value}(hS:Old S w)(hf:dU w S vn vb vs f)(hl:fL w S vl l)(OP:eL f=0)(OO:FrS f)(PE:nL f.nodes.length l):
  eA PG N.rT #[.agg #[vn,vb,vs],vl] w (eF w fun v' w2=>(ed (cP f) (cW (dI f l) (-1)) f.cols=none∧v'= .tuple #[.slice none 0 0,.bool false])∨∃x vx,ed (cP f) (cW (dI f l) (-1)) f.cols=some x∧v'= .tuple #[vx,.bool true]∧cI w2 (Nf w w2) vx x):=by
 have hw:=bR w;obtain⟨an,cn,ab,cb,aq,cq,rfl,rfl,rfl,Q1,Qh,RN⟩:=hf.shape;obtain⟨al,cl,rfl,PU,QO⟩:=hl.shape;have Re:=OO.FA;have RX:=OO.Hs;have RD:=e9 f;have hlen:=fE f;have Vt:=OO.n4;have OF:=jS OP;have QQ:=fM f l;have Tu:f.cols=f.bars.length+f.cX.length:=rfl;have PX:=sX PE;have VT:=Lk OO.n PE;have Tb:(cW (dI f l) (-1)).length=(cP f).length:=by rw[cW,aK,QQ,RD]
 refine vP (by simp) ?_;refine cM hτ df [.x 0,.x 3,.x 4,.x 1,.x 2,.x 5,.x 6,.x 7,.x 8,.x 9,.x 10,.x 11] (by kernel_rfl) (by kernel_rfl) ?_;refine cE hw (fun _ w' v w2=>mG w2 (Nf w' w2) v (gk f)∧FW (gk f) 2000000) (fun O w' r=>wE (oS hS r) (hf.cJ (kS hw r hS)) OP) ?_;rintro O _ _ _ OJ r he hw h_ ⟨hn,SL⟩;have hZ:=mG.dB (S:=FF) hn r.cD (mN h_);obtain⟨az,cz,rfl,-,-⟩:=dM.shape hZ;refine cE hw (fun _ w' v w2=>cR w2 (Nf w' w2) v (cP f)) (fun O w' r=>IK (Rel.old r (cC w)) (mG.rel hZ r (cC w)) (by rw[<-aK (f:=c9)];exact aX RX (by decide)) (fun l hl=>by rw[jW f _ l hl];omega) (fun l hl z hz=>by have:=SL l hl z hz;omega)) ?_;rintro O _ _ _ OG r he hw h_ hn;have hM:=cR.dB (S:=FF) hn r.cD (mN h_);obtain⟨am,cm,rfl,-,-⟩:=dM.shape hM;refine cE hw (fun _ w' v w2=>cI w2 (Nf w' w2) v (dI f l)) (fun O w' r=>wF (oS hS r) (hf.cJ (kS hw r hS)) (hl.cJ (kS hw r hS)) OO.n PE) ?_;rintro O _ _ _ ON r he hw h_ hn;replace hM:=cR.cG hM r (cC w) he (mC h_);have hP:=cI.dB (S:=FF) hn r.cD (mN h_);obtain⟨ap,cp,rfl,-,-⟩:=cY.shape hP;have RQ:=yS OO.n PE
 (try rw[QQ])
 refine cE hw (fun _ w' v w2=>cI w2 (Nf w' w2) v (cW (dI f l) (-1))) (fun O w' r=>Fk (Rel.old r (cC w)) (cI.l (by have:=cI.rel hP r (cC w);try rw[QQ]at this;exact this) fun q hq=>by have:=RQ q hq;omega) (by omega) (fun q hq=>by have:=RQ q hq;omega)) ?_;rintro O _ _ _ OZ r he hw h_ hn;replace hM:=cR.cG hM r (cC w) he (mC h_);have hB:=cI.dB (S:=FF) hn r.cD (mN h_);obtain⟨ab2,cb2,rfl,-,-⟩:=cY.shape hB;refine cO (Φ:=fun _ w' v w2=>(ed (cP f) (cW (dI f l) (-1)) f.cols=none∧v= .tuple #[.slice none 0 0,.bool false])∨∃x vx,ed (cP f) (cW (dI f l) (-1)) f.cols=some x∧v= .tuple #[vx,.bool true]∧cI w2 (Nf w' w2) vx x) (fun O w' r=>JU (h0:=30) (Rel.old r (cC w)) (cR.rel hM r (cC w)) (cI.rel hB r (cC w)) hlen (by rw[RD];exact OO.col) Tb (fun q hq=>by have:=VT q hq;omega) (fun r hr q hq=>by have:=Le OO r hr q hq;omega) (by omega) (by omega) (fun c hc=>aA9 (gH hlen) (OO.yL PX) lW (by have:=OO.z8 (b:=cW (dI f l) (-1));omega) (by omega)) (by decide)) ?_;rintro O RY v5 RO r he hb (⟨Qy,rfl⟩|⟨x,vx,hx,rfl,hn⟩)
 ·replace hw:=hw.tr hb;exact rtn hw fun ρe we re=>.inl ⟨Qy,rfl⟩
 replace hw:=hw.tr hb;have hX:=cI.dB (S:=FF) hn r.cD (iv:=(RY.heap.size,RO.heap.size)::OZ) aG;generalize (RY.heap.size,RO.heap.size)::OZ=ivx at*
 obtain⟨ax,cx,rfl,-,-⟩:=cY.shape hX;exact rtn hw fun ρe we re=>.inr ⟨x,_,hx,rfl,cI.out hX re (cC w)⟩
abbrev Ll(f:fA):Nat->Rat:=fun t=>(dO f).getD t 0
set_option maxRecDepth 8000 in
theorem HR{w:World}{vn vb vs vl:Value}(hS:Old S w)(hf:dU w S vn vb vs f)(hl:fL w S vl l)(R7:eL f=0->uh f):
  eA PG N.pn #[.agg #[vn,vb,vs],vl] w (eF w fun v' w2=>(gR f l≠0∧v'= .tuple #[.slice none 0 0,.int .i64 (gR f l)])∨(gR f l=0∧((ed (cP f) (cW (dI f l) (-1)) f.cols=none∧v'= .tuple #[.slice none 0 0,.int .i64 17])∨∃x vx,lX (cP f) f.cols (Ll f) (cW (dI f l) (-1)) x∧v'= .tuple #[vx,.int .i64 0]∧cI w2 (Nf w w2) vx x))):=by
 have hw:=bR w;obtain⟨an,cn,ab,cb,aq,cq,rfl,rfl,rfl,Q1,Qh,RN⟩:=hf.shape;obtain⟨al,cl,rfl,PU,QO⟩:=hl.shape;obtain⟨e0,EE⟩:∃e,gR f l=e:=⟨_,rfl⟩
 refine uE (by simp) ?_;refine cF (cE hw (fun _ w' v w2=>v= .int .i64 e0) (fun O w' r=>(jf (oS hS r) (hf.cJ (kS hw r hS)) (hl.cJ (kS hw r hS))).mono fun _ _ ⟨v2,e1,e2,e3⟩=>⟨v2,e1,e2,by rw[e3,EE]⟩) ?_);rintro O _ _ _ OJ r he hw h_ rfl;refine dK.mk ?_ ?_<;>intro he
 ·have he:e0≠0:=by simpa using he
  exact rtn hw fun ρe we re=>.inl ⟨by rw[EE];exact he,by rw[EE];rfl⟩
 have he:e0=0:=by simpa using he
 have Qj:gR f l=0:=by rw[EE,he]
 obtain⟨OP,PE⟩:=jX Qj;have QU:=R7 OP;have OO:=QU.toFrS;have PE:=uW PE;have Re:=OO.FA;have RX:=OO.Hs;have RD:=e9 f;have hlen:=fE f;have Vt:=OO.n4;have OF:=jS OP;have QQ:=fM f l;have Tu:f.cols=f.bars.length+f.cX.length:=rfl;refine cM hτ df [.x 0,.x 1,.x 2,.x 3,.x 4,.x 5,.x 6,.x 7,.x 8,.x 9] (by kernel_rfl) (by kernel_rfl) ?_;refine cE hw (fun _ w' v w2=>cI w2 (Nf w' w2) v (dI f l)∧∀q∈dI f l,rl q<=1) (fun O w' r=>(qv (oS hS r) (hl.cJ (kS hw r hS)) OO.n PE rfl rfl).mono fun _ _ ⟨v2,e1,e2,e3,e4⟩=>⟨v2,e1,e2,cI.cK e3.c fun g hg=>hg.new,e4⟩) ?_;rintro O _ _ _ OG r he hw h_ ⟨hn,RQ⟩;have hP:=cI.dB (S:=FF) hn r.cD (mN h_);obtain⟨ap,cp,rfl,-,-⟩:=cY.shape hP;rw[QQ];refine cO (Φ:=fun _ w' v w2=>(ed (cP f) (cW (dI f l) (-1)) f.cols=none∧v= .tuple #[.slice none 0 0,.bool false])∨∃x vx,lX (cP f) f.cols (Ll f) (cW (dI f l) (-1)) x∧v= .tuple #[vx,.bool true]∧cI w2 (Nf w' w2) vx x) (fun O w' r=>CW (S:=fun g=>S g∨Cf w OG g) (fun g hg=>hg.elim (oS hS r g) (Rel.old r (cC w) g)) (dU.cK (hf.cJ (kS hw r hS)) fun g hg=>.inl hg) OP QU (cI.cK (by have:=cI.rel hP r (cC w);rw[QQ]at this;exact this) fun g hg=>.inr hg) QQ (fun q hq=>by have:=RQ q hq;omega) (sX PE)) ?_;rintro O PH v3 PD r he hb (⟨Qy,rfl⟩|⟨x,vx,hx,rfl,hn⟩)
 ·replace hw:=hw.tr hb;exact rtn hw fun ρe we re=>.inr ⟨Qj,.inl ⟨Qy,rfl⟩⟩
 replace hw:=hw.tr hb;have hX:=cI.dB (S:=FF) hn r.cD (iv:=(PH.heap.size,PD.heap.size)::OG) aG;generalize (PH.heap.size,PD.heap.size)::OG=ivx at*
 obtain⟨ax,cx,rfl,-,-⟩:=cY.shape hX;exact rtn hw fun ρe we re=>.inr ⟨Qj,.inr ⟨x,_,hx,rfl,cI.out hX re (cC w)⟩⟩
end Go.Ex
namespace Go.Ex
section
variable{f:fA}{b y s z:List Rat}{c:Rat}
end
section
variable{M:List (List Rat)}{n:Nat}{fl p q x y u v:List Rat}
theorem oN(p:List Rat)(c:Rat)(i:Nat):(cW p c).getD i 0=p.getD i 0*c:=by
 rw[cW,List.getD,aM,List.getD]
 cases p[i]? with
 |none=>exact(bE c).symm
 |some a=>rfl
end
end Go.Ex
