/- Texts X94 to X241: lemmas, each with its conditions. -/
import Derived.Test.YtbffinhkognefaaGreatDoorP13
namespace Go.Ex
open Go Go.Sx Go.Proofs
variable{P:List (List (Int×Int))}{M:List (List Rat)}{b qs:List Rat}{cs xs:List Value}{h:Nat}{S:Nat->Prop}{O:Nat->Sx.eH}{w:World}
theorem lf(M:List (List Rat))(x:List Rat):(jB M x).length=M.length:=aO ..
theorem LP{x:List Rat}{n:Nat}(hM:Ht M h)(E:∀q∈x,rl q+1<=h)(I:2<=h)(U:∀r∈M,r.length<=n):∀q∈jB M x,rl q<=2*h*n+2:=fun q hq=>by
 obtain⟨r,hr,rfl⟩:=bE.1 hq;have h3:=fo (hM r hr) E I r.length;have:=bC (2*h) (U r hr);omega
theorem Na{v u:Value}{x:List Rat}(W:Old S w)(hM:dS w S v M)(E:dC w S u x)(Pm:∀r∈M,r.length=x.length)(TA:Ht M h)(Vv:∀q∈x,rl q+1<=h)(I:2<=h)(A:2*h*x.length<=90000)(hR:M.length<=1000000):
  eL PG FS.yU #[v,u] w (eY w fun v' F=>cg F (Nf w F) v' (jB M x)):=by
 have G:=bR w;obtain⟨am,cm,rfl,SF,TG⟩:=dH.shape hM;obtain⟨ax,cx,rfl,XC,-⟩:=dN.shape E;unfold maxLen at TG;refine BO ce ?_
 refine⟨Nat×List (List Value)×World×Iv,fun z=>⟨[(0,sV am M.length cm),(1,sV ax x.length cx),(5,.o (.w 0 z.2.1.length)),(6,iN z.1)],[(0,.vec T.Rat 4 z.2.1.flatten)],1,z.2.2.2,z.2.2.1⟩,fun z=>M.length-z.1,
  fun z=>z.1<=M.length/\Bq w z.2.2.1/\Fc z.2.2.1 (Cf w z.2.2.2) z.2.1 ((jB M x).take z.1),?_,?_⟩
 .intro O J r
  exact⟨(0,[],J,[]),⟨ae _,G.tr r.cj,by simp[Fc]⟩,Sub.nil 5 T.Rat 4 rfl (by simp[jn,SV.sc,At.sc,fu]) r fun I9 r1=>
   sbgn [] r1⟩
 rintro⟨i,Z,w1,iv⟩ ⟨N,G,hC⟩;dsimp only at N G hC ⊢;have Qg:Z.length=i:=by rw[hC.1,bN,lf];omega
 have Qp:=fN hC.oy;apply bS<;>intro Pk
 .have Pk:=dL Pk;obtain⟨ra,Sn⟩:=gO M i;have UH:=Pm ra (aG Sn);obtain⟨adm,um,UN,S7,km1,km2⟩:=dH.load hM Sn;obtain⟨au,cu,rfl,hcu,-⟩:=dN.shape S7;refine⟨adm,UN,be,.slice au ra.length cu,rd1 km2 G (W _ km1),?_⟩;refine cW (cE G (pR dI (dY ra x ra.length)) (fun O J r=>tF (oS W r) (dC.cX S7 ((kS G r W))) (dC.cX E ((kS G r W))) UH (TA ra (aG Sn)) Vv I (by rw[UH];exact A)) ?_);rintro O _ _ QL Pv r L G h_ U;replace hC:=hC.cS r oF L (mC h_);have hd:=U.cV (nw r h_);obtain⟨A0,A1,A2,A3,A4,A5,A6,A7,rfl⟩:=hd.shape;have Yg:Fc QL (Cf w Pv) (Z++[rC A0 A1 A2 A3 A4 A5 A6 A7]) ((jB M x).take (i+1)):=by
   have e:(jB M x)[i]? =some (dY ra x ra.length):=by rw[jB,aU,Sn];rfl
   rw[bM,e];exact hC.push hd.pj
  have Qt:Z.flatten++(rC A0 A1 A2 A3 A4 A5 A6 A7:List Value)=(Z++([rC A0 A1 A2 A3 A4 A5 A6 A7]:List (List Value))).flatten:=by simp
  refine .inl ?_;refine⟨be,be,mx,((i+1:Nat):Int),wo,?_⟩;intro I8 w3 r3;exact⟨(i+1,Z++[rC A0 A1 A2 A3 A4 A5 A6 A7],w3,_),⟨Pk,G.tr r3.cj,Yg.rel r3 oF⟩,sbgn [(0,2)] r3 ⟨by dsimp only;rw[<-Qt];rfl,trivial⟩ ⟨rfl,rfl,by dsimp only;rw[l1];rfl,rfl,trivial⟩,dec Pk⟩
 have Pk:=dE N Pk;intro GE we re;refine⟨_,rfl,G.tr re.cj,?_⟩;rw[bX (by rw[lf];omega)]at hC;have h5:=re.ku (id:=0) (sz:=4) (m:=Z.length) rfl Qp mx bv hC.one;have h6:=hC.rel re oF;refine⟨Z,?_,h6.1,h6.oy,fun j cs q k1 k2=>(h6.2 j cs q k1 k2).cV fun _ V=>Cv.nw V re⟩;rw[<-hC.1];exact h5.cV fun g V=>.inr V
section
variable{S:Nat->Prop}{w:World}{v u:Value}{M:List (List (Int×Int))}{x:List Rat}
end
theorem CL{x r:List Rat}{i:Nat}(h:M[i]? =some r):(jB M x).getD i 0=dY r x r.length:=by
 rw[List.getD,jB,aU,h];rfl
theorem HR{x:List Rat}(hl:b.length=M.length):nL b (jB M x)↔∀(i:Nat) r,M[i]? =some r->dY r x r.length<=b.getD i 0:=
 ⟨fun h i r hr=>CL (x:=x) hr▸h i (by have:=(aH.1 hr).1;omega),fun h i N=>by
  have hr:M[i]? =some (M[i]' be):=aE be
  rw[CL hr];exact h i _ hr⟩
theorem tJ(n:Nat)(w:World)(U:n<=1000000):eL PG FS.sQ #[iV n] w (eY w fun v' F=>cg F (Nf w F) v' (dg n)):=by
 have G:=bR w;refine s5 ce ?_;conv=>whnf
 refine⟨Nat×List (List Value)×World×Iv,fun z=>⟨[(0,iZ n),(3,.o (.w 0 z.2.1.length)),(4,iN z.1)],[(0,.vec T.Rat 4 z.2.1.flatten)],1,z.2.2.2,z.2.2.1⟩,fun z=>n-z.1,
  fun z=>z.1<=n/\Bq w z.2.2.1/\Fc z.2.2.1 (Cf w z.2.2.2) z.2.1 (dg z.1),?_,?_⟩
 .intro O J r
  exact⟨(0,[],J,[]),⟨ae _,G.tr r.cj,by simp[Fc]⟩,Sub.nil 3 T.Rat 4 rfl (by simp[jn,SV.sc,At.sc,fu]) r fun I9 r1=>
   sbgn [] r1⟩
 clear G;rintro⟨i,Z,w1,iv⟩ ⟨N,G,hC⟩;dsimp only at N G hC ⊢;have Qg:Z.length=i:=by rw[hC.1,gT]
 have Qp:=fN hC.oy;conv=>whnf
 apply bS<;>intro Pk
 .have Pk:=dL Pk;conv=>whnf
  refine cW (cE G (pR dI ((0:Int):Rat)) (fun O J r=>mJ 0 J bv bv) ?_);rintro O _ _ QL Pv r L G h_ U;replace hC:=hC.cS r oF L (mC h_);have hd:=U.cV (nw r h_);clear r U;obtain⟨A0,A1,A2,A3,A4,A5,A6,A7,rfl⟩:=hd.shape;conv=>whnf
  have Yg:Fc QL (Cf w Pv) (Z++[rC A0 A1 A2 A3 A4 A5 A6 A7]) (dg (i+1)):=by
   rw[show dg (i+1)=dg i++[0]from List.replicate_succ'];exact hC.push hd.pj
  have Qt:Z.flatten++(rC A0 A1 A2 A3 A4 A5 A6 A7:List Value)=(Z++([rC A0 A1 A2 A3 A4 A5 A6 A7]:List (List Value))).flatten:=by simp
  clear hC hd;refine .inl ?_;conv=>whnf
  refine⟨be,be,mx,?_⟩;conv=>whnf
  refine inc i ?_;conv=>whnf
  intro I8 w3 r3;exact⟨(i+1,Z++[rC A0 A1 A2 A3 A4 A5 A6 A7],w3,_),⟨Pk,G.tr r3.cj,Yg.rel r3 oF⟩,sbgn [(0,2)] r3 ⟨by dsimp only;rw[<-Qt];rfl,trivial⟩ ⟨rfl,by dsimp only;rw[l1];rfl,rfl,trivial⟩,dec Pk⟩
 have Pk:=dE N Pk;subst Pk;conv=>whnf
 intro GE we re;refine⟨_,rfl,G.tr re.cj,?_⟩;have h5:=re.ku (id:=0) (sz:=4) (m:=Z.length) rfl Qp mx bv hC.one;have h6:=hC.rel re oF;refine⟨Z,?_,h6.1,h6.oy,fun j cs q k1 k2=>(h6.2 j cs q k1 k2).cV fun _ V=>Cv.nw V re⟩;rw[<-hC.1];exact h5.cV fun g V=>.inr V
theorem iG{vm vb vc:Value}{M:List (List (Int×Int))}{b c:List (Int×Int)}(W:Old S w)(h:dR w S vm M)(A:dK w S vb b)(hc:dK w S vc c):
  eL PG FS.nW #[.agg #[vm,vb,vc]] w (eY w fun v' _=>v'=iV (gR M b c)):=by
 have G:=bR w;obtain⟨am,cm,rfl,SF,TG⟩:=dH.shape h;obtain⟨ab,cb,rfl,RK,Te⟩:=dN.shape A;obtain⟨ac,cc,rfl,Vd,SR⟩:=dN.shape hc;unfold maxLen at TG Te SR;refine rK ce ?_;conv=>whnf
 refine cW (cE G (pE (iV (jm M))) (fun O J r=>CH (oS W r) (dR.cX h ((kS G r W)))) ?_);rintro O _ _ _ Pv r L G h_ rfl;clear r;conv=>whnf
 apply bS<;>intro L
 .have L:jm M≠0:=fun e=>by rw[e]at L;simp at L
  conv=>whnf
  exact rtn G fun GE we re=>by unfold gR;rw[aM L];rfl
 have L:jm M=0:=by
  have h4:((jm M:Int)==0)=true:=by simpa using L
  have:=eq_of_beq h4;omega
 conv=>whnf
 refine dP (idO 22) ?_;conv=>whnf
 apply bS<;>intro hl
 .have hl:b.length≠M.length:=fun e=>by rw[e]at hl;simp at hl
  conv=>whnf
  exact rtn G fun GE we re=>by unfold gR;rw[aI be,aM (.inl hl)];rfl
 have hl:b.length=M.length:=by
  have h4:((b.length:Int)==(M.length:Int))=true:=by simpa using hl
  have:=eq_of_beq h4;omega
 conv=>whnf
 apply bS<;>intro h0
 .have h0:0<M.length:=by have:(0:Int)<M.length:=(by simpa using h0);omega
  conv=>whnf
  refine cE G (pE (iV (dM M))) (fun O J r=>qn (oS W r) (dR.cX h ((kS G r W)))) ?_;rintro O _ _ _ iv2 r L G h_ rfl;clear r L;conv=>whnf
  apply bS<;>intro Y
  .have Y:c.length≠dM M:=fun e=>by rw[e]at Y;simp at Y
   conv=>whnf
   exact rtn G fun GE we re=>by unfold gR;rw[aI be,aM (.inr ⟨h0,Y⟩)];rfl
  have Y:c.length=dM M:=by
   have h4:((c.length:Int)==(dM M:Int))=true:=by simpa using Y
   have:=eq_of_beq h4;omega
  conv=>whnf
  apply bS<;>intro h6
  .have h6:60<c.length:=by have:(60:Int)<c.length:=(by simpa using h6);omega
   conv=>whnf
   exact rtn G fun GE we re=>by unfold gR;rw[aI be,aI be,aM h6];rfl
  have h6:¬60<c.length:=by have:¬(60:Int)<c.length:=(by simpa using h6);omega
  conv=>whnf
  exact rtn G fun GE we re=>by unfold gR;rw[aI be,aI be,aI h6];rfl
 have h0:¬0<M.length:=by have:¬(0:Int)<M.length:=(by simpa using h0);omega
 conv=>whnf
 apply bS<;>intro h6
 .have h6:60<c.length:=by have:(60:Int)<c.length:=(by simpa using h6);omega
  conv=>whnf
  exact rtn G fun GE we re=>by unfold gR;rw[aI be,aI be,aM h6];rfl
 have h6:¬60<c.length:=by have:¬(60:Int)<c.length:=(by simpa using h6);omega
 conv=>whnf
 exact rtn G fun GE we re=>by unfold gR;rw[aI be,aI be,aI h6];rfl
theorem lO{v u:Value}{xs ys:List Rat}(W:Old S w)(E:dC w S v xs)(hy:dC w S u ys):
  eL PG FS.uH #[v,u] w (eY w fun v' _=>∃d,v'= .bool d/\(d=true->xs.length=ys.length/\nL xs ys)/\(xs.length=ys.length/\nL xs ys->d=true)):=by
 have G:=bR w;obtain⟨ax,cx,rfl,XC,Uy⟩:=dN.shape E;obtain⟨ay,cy,rfl,Yq,-⟩:=dN.shape hy;unfold maxLen at Uy;refine x6 ce ?_;conv=>whnf
 apply bS<;>intro h0
 .have h0:xs.length≠ys.length:=fun e=>by rw[e]at h0;simp at h0
  conv=>whnf
  exact rtn G fun GE we re=>⟨false,rfl,fun h=>(by cases h),fun h=>absurd h.1 h0⟩
 have h0:xs.length=ys.length:=by
  have h4:((xs.length:Int)==(ys.length:Int))=true:=by simpa using h0
  have:=eq_of_beq h4;omega
 conv=>whnf
 refine⟨Nat×World×Iv,fun z=>⟨[(0,sV ax xs.length cx),(1,sV ay ys.length cy),(5,iN z.1)],[],0,z.2.2,z.2.1⟩,fun z=>xs.length-z.1,
  fun z=>z.1<=xs.length/\Bq w z.2.1/\∀j,j<z.1->ys.getD j 0<=xs.getD j 0,?_,?_⟩
 .intro O J r;exact⟨(0,J,[]),⟨ae _,G.tr r.cj,fun j hj=>by dsimp only at hj;omega⟩,sbgn [] r⟩
 clear G;rintro⟨i,w1,iv⟩ ⟨N,G,ht⟩;dsimp only at N G ht ⊢;conv=>whnf
 apply bS<;>intro Pk
 .have Pk:=dL Pk;obtain⟨x,Q5⟩:=gO xs i;obtain⟨y,Re⟩:=gO ys i;have Qa:xs.getD i 0=x:=by rw[List.getD,Q5];rfl
  have RR:ys.getD i 0=y:=by rw[List.getD,Re];rfl
  obtain⟨adx,csx,We,SL,-,RL⟩:=dN.load E Q5;obtain⟨ady,csy,VU,SY,-,R9⟩:=dN.load hy Re;obtain⟨f0,f1,f2,f3,f4,f5,f6,f7,rfl,SL⟩:=SL;obtain⟨q0,q1,q2,q3,q4,q5,q6,q7,rfl,SY⟩:=SY;conv=>whnf
  refine dP (idO 10) ?_;conv=>whnf
  refine⟨adx,We,be,?_⟩;conv=>whnf
  refine⟨rC f0 f1 f2 f3 f4 f5 f6 f7,rfl,rdO RL G W,?_⟩;conv=>whnf
  refine⟨ady,VU,be,?_⟩;conv=>whnf
  refine⟨rC q0 q1 q2 q3 q4 q5 q6 q7,rfl,rdO R9 G W,?_⟩;conv=>whnf
  refine cE G (pE (iV (rs (x-y)))) (fun O J r=>Bs (oS W r) (SL.cX ((kS G r W))) (SY.cX ((kS G r W)))) ?_;rintro O _ _ _ Pv r L G h_ rfl;clear r;conv=>whnf
  apply bS<;>intro hs
  .have hs:x<y:=iS.1 (by simpa using hs);conv=>whnf
   exact rtn G fun GE we re=>⟨false,rfl,fun h=>(by cases h),fun h=>absurd hs (Rat.not_lt.2 (by have:=h.2 i Pk;rwa [Qa,RR]at this))⟩
  have hs:y<=x:=Rat.not_lt.1 fun h=>absurd (iS.2 h) (by simpa using hs);conv=>whnf
  refine inc i ?_;conv=>whnf
  intro I8 w3 r3;refine⟨(i+1,w3,_),⟨Pk,G.tr r3.cj,fun j hj=>?_⟩,sbgn [] r3,by dsimp only;omega⟩;rcases aW j i with Y|Y
  .exact ht j Y
  .obtain rfl:j=i:=by dsimp only at hj;omega
   rw[Qa,RR];exact hs
 have Pk:=dE N Pk;conv=>whnf
 exact rtn G fun GE we re=>⟨true,rfl,fun _=>⟨h0,fun j hj=>ht j be⟩,fun _=>rfl⟩
theorem mI{vm vx vb:Value}{x:List Rat}{a1 a2:Option Addr}{n1 c1 n c2:Nat}(W:Old S w)(hM:dS w S vm M)(E:dC w S vx x)(A:dC w S vb b)(Pw:b.length=M.length)(Pm:∀r∈M,r.length=n)
  (TA:Ht M h) (Vv:∀q∈x,rl q+1<=h) (I:2<=h) (Q2:2*h*n<=90000) (hR:M.length<=1000000) (U:n<=1000000):
  eL PG FS.sK #[.agg #[vm,.slice a1 n1 c1,.slice a2 n c2],vx,vb] w (eY w fun v' _=>∃d,v'= .bool d/\(d=true->iT M n x b)/\(iT M n x b->d=true)):=by
 have G:=bR w;obtain⟨am,cm,rfl,SF,TG⟩:=dH.shape hM;obtain⟨ax,cx,rfl,XC,Uy⟩:=dN.shape E;obtain⟨ab,cb,rfl,RK,-⟩:=dN.shape A;unfold maxLen at TG Uy;refine wg ce ?_;conv=>whnf
 apply bS<;>intro hl
 .have hl:x.length=n:=by
   have h4:((x.length:Int)==(n:Int))=true:=by simpa using hl
   have:=eq_of_beq h4;omega
  have Xw:=LP (n:=n) TA Vv I fun r hr=>by rw[Pm r hr];exact aq _
  conv=>whnf
  refine cW (cE G (pR cg (dg n)) (fun O J r=>tJ n J be) ?_);rintro O _ _ _ Pv r L G h_ U;have hz:=cg.cV U (nw r h_);clear r U;obtain⟨ahz,chz,rfl,-,-⟩:=dN.shape hz;rw[aj]at hz ⊢;conv=>whnf
  refine cW (cE G (fun _ J v F=>∃d,v= .bool d/\(d=true->x.length=(dg n).length/\nL x (dg n))/\(x.length=(dg n).length/\nL x (dg n)->d=true)) (fun O J r=>lO (rlo r W) (dC.cV (dC.cX E ((kS G r W))) fun _ V=>(.inl V:Cv S w.heap.size _ _)) (dC.cV (cg.l (cg.rel hz r oF) (fun q hq=>by rw[aY hq];decide)) fun _ V=>(qj V:Cv S w.heap.size _ _))) ?_);rintro O _ _ _ iv2 r L G h_ ⟨d,rfl,QM,QJ⟩;clear hz;clear r;conv=>whnf
  cases d with
  |false=>
   have TC:¬(x.length=(dg n).length/\nL x (dg n)):=fun h=>absurd (QJ h) bv;clear QM QJ;conv=>whnf
   exact rtn G fun GE we re=>⟨false,rfl,fun h=>(by cases h),fun h=>absurd ⟨hl.trans (gT _).symm,hl▸h.2.1⟩ TC⟩
  |true=>
   have TC:x.length=(dg n).length/\nL x (dg n):=QM rfl;clear QM QJ;conv=>whnf
   refine cW (cE G (pR cg (jB M x)) (fun O J r=>Na (oS W r) (dS.cX hM ((kS G r W))) (dC.cX E ((kS G r W))) (fun r hr=>(Pm r hr).trans hl.symm) TA Vv I (by rw[hl];exact Q2) be) ?_);rintro O _ _ _ Pu r L G h_ U;have hT:=cg.cV U (nw r h_);clear r;clear U;obtain⟨aT,cT,rfl,-,-⟩:=dN.shape hT;rw[lf]at hT ⊢;conv=>whnf
   refine cW (cE G (fun _ J v F=>∃d,v= .bool d/\(d=true->b.length=(jB M x).length/\nL b (jB M x))/\(b.length=(jB M x).length/\nL b (jB M x)->d=true)) (fun O J r=>lO (rlo r W) (dC.cV (dC.cX A ((kS G r W))) fun _ V=>(.inl V:Cv S w.heap.size _ _)) (dC.cV (cg.l (cg.rel hT r oF) (fun q hq=>by have:=Xw q hq;omega)) fun _ V=>(qj V:Cv S w.heap.size _ _))) ?_);rintro O _ _ _ QD r L G h_ ⟨d,rfl,QM,QJ⟩;clear hT;clear r;conv=>whnf
   cases d with
   |false=>
    have HX:¬(b.length=(jB M x).length/\nL b (jB M x)):=fun h=>absurd (QJ h) bv;clear QM QJ;conv=>whnf
    exact rtn G fun GE we re=>⟨false,rfl,fun h=>(by cases h),fun h=>absurd ⟨Pw.trans (lf ..).symm,(HR Pw).2 h.2.2⟩ HX⟩
   |true=>
    have HX:b.length=(jB M x).length/\nL b (jB M x):=QM rfl;clear QM QJ;conv=>whnf
    exact rtn G fun GE we re=>⟨true,rfl,fun _=>⟨hl,hl.symm▸TC.2,(HR Pw).1 HX.2⟩,fun _=>rfl⟩
 have hl:x.length≠n:=fun e=>by rw[e]at hl;simp at hl
 conv=>whnf
 exact rtn G fun GE we re=>⟨false,rfl,fun h=>(by cases h),fun h=>absurd h.1 hl⟩
structure ke(w:World)(S:Nat->Prop)(Z:List (List Value))(qs:List Rat):Prop where
 len:Z.length=qs.length
 four:∀cs∈Z,cs.length=4
 at_:∀(j:Nat) cs q,Z[j]? =some cs->qs[j]? =some q->uS w S cs q
section
variable{S S':Nat->Prop}{H:Hp}{nx:Nat}{iv K:Iv}{B:Nat}{w J F:World}{O:Nat->Sx.eH}{Z:List (List Value)}{qs:List Rat}
theorem ke.nil:ke w S [] []:=⟨rfl,fun _ h=>(by cases h),fun _ _ _ h=>by cases h⟩
theorem ke.cX(h:ke w S Z qs)(R:∀g,S g->F.heap[g]? =w.heap[g]?):ke F S Z qs:=⟨h.len,h.four,fun j cs q Y I=>(h.at_ j cs q Y I).cX R⟩
theorem ke.cV(h:ke w S Z qs)(R:∀g,S g->S' g):ke w S' Z qs:=⟨h.len,h.four,fun j cs q Y I=>(h.at_ j cs q Y I).cV R⟩
theorem ke.rel(h:ke w (Cv S B iv) Z qs)(r:Rel H nx iv B w O J)(W:∀g,S g->g<B):ke J (Cv S B iv) Z qs:=h.cX fun _ V=>rls r W V
theorem ke.cS(h:ke w (Cv S B iv) Z qs)(r:Rel H nx iv B w O J)(W:∀g,S g->g<B)(L:Ext J F)(hm:∀p,p∈iv->p∈K):ke F (Cv S B K) Z qs:=
 ((h.rel r W).cX fun g V=>L.block g (rlo r W g V)).cV fun _ V=>V.mono hm
theorem ke.push{q:Rat}(h:ke w S Z qs)(hc:uS w S cs q)(h4:cs.length=4):ke w S (Z++[cs]) (qs++[q]):=by
 refine⟨by simp[h.len],fun x E=>?_,fun j x p Y I=>?_⟩
 .rcases bB.1 E with E|E
  .exact h.four x E
  .rw[aX.1 E];exact h4
 .rcases aW j Z.length with N|N
  .rw[aN N]at Y;rw[aN (by rw[<-h.len];exact N)]at I;exact h.at_ j x p Y I
  .have Vz:j=Z.length:=by have:=(aH.1 Y).1;simp at this;omega
   subst Vz;rw[aP lr,bY]at Y;rw[h.len,aP lr,bY]at I;simp at Y I;subst Y I;exact hc
theorem ke.one(h:ke w S Z qs):∀u∈Z.flatten,u.oneCell'=true:=fun u hu=>by
 obtain⟨cs,hc,hu⟩:=List.mem_flatten.1 hu;obtain⟨j,hj⟩:=az hc;obtain⟨_,_,_,_,_,_,_,_,rfl,_⟩:=h.at_ j cs _ hj (aE (by rw[<-h.len];exact(aH.1 hj).1));simp at hu;rcases hu with rfl|rfl|rfl|rfl<;>rfl
theorem ke.list{v:Value}(h:ke w S Z qs)(hs:fe w S 4 v Z.flatten Z.length):dC w S v qs:=⟨Z,h.len▸hs,h.len,h.four,h.at_⟩
end
theorem Mw{α β γ:Type}{P:β->γ->Prop}(f:γ->α):∀(cs:List β) (xs:List α),cs.length=xs.length->(∀(j:Nat) c x,cs[j]? =some c->xs[j]? =some x->∃y,P c y/\f y=x)->∃ys:List γ,ys.map f=xs/\∀(j:Nat) c y,cs[j]? =some c->ys[j]? =some y->P c y
 |[],[],_,_=>⟨[],rfl,fun _ _ _ h=>by simp at h⟩
 |c::cs,x::xs,hl,h=>by
  obtain⟨y,Y,I⟩:=h 0 c x rfl rfl;obtain⟨ys,h3,h4⟩:=Mw f cs xs (by simpa using hl) fun j=>h (j+1);refine⟨y::ys,by rw[List.map_cons,I,h3],fun j=>?_⟩
  cases j with
  |zero=>intro c' y' e1 e2;injection e1 with e1;injection e2 with e2;subst e1 e2;exact Y
  |succ j=>exact h4 j
 |[],_::_,hl,_=>by cases hl
 |_::_,[],hl,_=>by cases hl
section
variable{S:Nat->Prop}{w:World}{v u:Value}{M:List (List Rat)}{b:List Rat}{n h0:Nat}
theorem dC.prs(h:dC w S v qs):∃xs,dK w S v xs/\xs.map dD=qs:=by
 obtain⟨Z,Y,I,h3,h4⟩:=h;obtain⟨xs,E,hp⟩:=Mw (P:=fun cs x=>zO w S cs x) dD Z qs I fun j cs q k1 k2=>by
  obtain⟨b,a,n,c,b2,a2,n2,c2,e,hr⟩:=h4 j cs q k1 k2;obtain⟨z1,z2,r1,r2⟩:=hr.r;exact⟨(z1,z2),⟨b,a,n,c,b2,a2,n2,c2,e,r1⟩,r2⟩
 have hl:xs.length=qs.length:=by rw[<-E,aO]
 exact⟨xs,⟨Z,by rw[hl];exact Y,by rw[hl];exact I,h3,hp⟩,E⟩
theorem dS.prs(h:dS w S v M):∃P,dR w S v P/\dT P=M:=by
 obtain⟨rv,Y,I,h3⟩:=h;obtain⟨P,E,hp⟩:=Mw (P:=fun u x=>dK w S u x) (fun r:List (Int×Int)=>r.map dD) rv M I fun j u r k1 k2=>dC.prs (h3 j u r k1 k2);have hl:P.length=M.length:=by rw[<-E,aO]
 exact⟨P,⟨rv,by rw[hl];exact Y,by rw[hl];exact I,hp⟩,E⟩
theorem PL(hlen:iq n (dT P))(XE:0<(dT P).length):dM P=n/\∀r∈P,r.length=n:=by
 have hr:∀r∈P,r.length=n:=fun r hr=>by
  rw[<-hlen _ (List.mem_map_of_mem hr)];exact(aO ..).symm
 refine⟨?_,hr⟩;obtain⟨r,h0⟩:∃r,P[0]? =some r:=⟨_,aE (by rw[nM]at XE;exact XE)⟩
 rw[Dh h0];exact hr r (aG h0)
theorem My(W:Old S w)(h:dS w S v M)(hlen:iq n M)(XE:0<M.length)(hR:M.length<=1000)(U:n<=999)(TX:Ht M h0)(I:2<=h0)(TH:4^M.length*h0<=90000):
  eL PG FS.vA #[v] w (eY w fun v' _=>v'=iV (Ng M n)):=by
 obtain⟨P,hP,hv⟩:=dS.prs h;subst hv;obtain⟨hc,hr⟩:=PL hlen XE;have:=OW (h0:=h0) W hP h (fun r h=>(hr r h).trans hc.symm) (by rw[nM]at hR;exact hR) be TX I TH;rw[hc]at this;exact this
theorem Kp(W:Old S w)(h:dS w S v M)(A:dC w S u b)(hlen:iq n M)(XE:0<M.length)(Pw:b.length=M.length)(hR:M.length<=1000)(U:n<=998)(TX:Ht M h0)(hhb:∀q∈b,rl q+1<=h0)(I:2<=h0)(TH:4^M.length*h0<=90000):
  eL PG FS.sS #[v,u] w (eY w fun v' F=>(lu M b n=none/\v'= .tuple #[nls,.bool false])\/∃x vx,lu M b n=some x/\v'= .tuple #[vx,.bool true]/\cg F (Nf w F) vx x/\x.length=n/\∀q∈x,rl q+1<=4^M.length*h0):=by
 obtain⟨P,hP,hv⟩:=dS.prs h;obtain⟨xs,E,hxv⟩:=dC.prs A;subst hv hxv;obtain⟨hc,hr⟩:=PL hlen XE;have Zt:(dT P).length=P.length:=nM P;have Yy:=jM (M:=dT P) (b:=xs.map dD);have hwh:Ht (eM (dT P) (xs.map dD)) h0:=fun r hr q hq=>by
  obtain⟨i,N⟩:=az hr;rw[eM,List.getElem?_mapIdx]at N
  cases Qv:(dT P)[i]? with
  |none=>rw[Qv]at N;cases N
  |some x=>
   rw[Qv]at N;injection N with N;subst N;rcases bB.1 hq with hq|hq
   .exact TX x (aG Qv) q hq
   .rw[aX.1 hq];exact kl hhb I i
 refine(Mz (h0:=h0) W hP h A (fun r h=>(hr r h).trans hc.symm) (by rw[aO,Zt]at Pw;exact Pw) be be hwh I (by rw[<-Zt];exact TH)).mono fun e F ⟨v2,e1,e2,e3⟩=>⟨v2,e1,e2,?_⟩
 rw[hc]at e3;obtain⟨i1,i2,-,i4⟩:=lz (cols:=n) hwh I;rw[Yy]at i2;unfold lu;rw[Zt];rcases e3 with⟨j,Y,I,h3,h4⟩|⟨Y,vx,h5,h3⟩
 .left;refine⟨?_,h4⟩;rw[aI fun Qw=>h3 (Qw j I Y)]
 .right;refine⟨_,vx,aM fun j h4 h5=>Y j h5 h4,h5,h3,ju ..,fun q hq=>aR (Di i4 ?_ _ _ _ q hq) ?_⟩
  .exact aR I (Nat.le_mul_of_pos_left _ (Nat.pow_pos bv))
  .exact Nat.mul_le_mul_right _ (Nat.pow_le_pow_right bv be)
end
theorem NA{B e sz n:Nat}{v:Value}(h:w.ownsRow B e sz v n xs):w.ownsRow 0 e sz v n xs:=⟨h.1,h.2.imp id fun⟨g,cap,cur,e1,_,rest⟩=>⟨g,cap,cur,e1,ae _,rest⟩⟩
theorem Cv.aBd{H:Hp}{nx:Nat}{iv:Iv}{w0 w1 J:World}{g:Nat}(V:Cf w0 iv g)(r:Rel H nx iv w0.heap.size w1 O J):Cf w0 [(w0.heap.size,J.heap.size)] g:=by
 rcases V with V|⟨Y,lo,N,I,h3,h4⟩
 .exact V.elim
 .exact .inr ⟨Y,_,_,aX.2 rfl,Y,by have:=r.oc lo N I;have:=r.size;omega⟩
theorem nD(n:Nat)(x:Int)(w:World)(U:n<=1000)(E:x.natAbs<1073741824):eL PG FS.Aw #[iV n,iV x] w (eY w fun v' F=>cg F (Nf w F) v' (List.replicate n (x:Rat))):=by
 have G:=bR w;have hF:=iw w.heap.size;refine CW ce ?_;refine⟨Nat×List (List Value)×World×Iv,fun z=>⟨[(0,iZ n),(1,iZ x),(5,.o (.w 0 z.2.1.length)),(6,iN z.1)],[(0,.vec T.Rat 4 z.2.1.flatten)],1,z.2.2.2,z.2.2.1⟩,fun z=>n-z.1,fun z=>z.1<=n/\Bq w z.2.2.1/\yh z.2.2.1 (Cf w z.2.2.2) z.2.1 (List.replicate z.1 (x:Rat)),?_,?_⟩
 .intro O J r;exact⟨(0,[],J,[]),⟨ae _,G.tr r.cj,yh.nil⟩,Sub.nil 5 T.Rat 4 rfl (by simp[jn,SV.sc,At.sc,fu]) r fun I9 r1=>sbgn [] r1⟩
 clear G;rintro⟨i,Z,w1,iv⟩ ⟨N,G,hG⟩;dsimp only at N G hG ⊢;have Qg:Z.length=i:=by rw[hG.len,aj]
 have Qp:=fN hG.four;apply bS<;>intro Pk
 .have Pk:=dL Pk;refine cW (cU (GT:=fun _ J v F=>dI F (Nf J F) v ((x:Rat))) (fun O J r=>fm x J E) ?_);rintro O wa v1 wb r L Pw hO;replace hO:=dI.ep (S:=FF) hO r.cZ (iv:=(wa.heap.size,wb.heap.size)::iv) aF;replace hG:=hG.cS (K:=(wa.heap.size,wb.heap.size)::iv) r hF L fun p hp=>aD _ hp;replace G:=G.tr Pw;clear r L Pw;generalize (wa.heap.size,wb.heap.size)::iv=ivn at*
  obtain⟨o0,o1,o2,o3,o4,o5,o6,o7,rfl⟩:=dI.shape hO;have XF:=hG.push (cs:=rC o0 o1 o2 o3 o4 o5 o6 o7) (q:=(x:Rat)) ⟨_,_,_,_,_,_,_,_,rfl,hO⟩ rfl;rw[show List.replicate i ((x:Rat))++[(x:Rat)]=List.replicate (i+1) ((x:Rat))from List.replicate_succ'.symm]at XF;have Qt:Z.flatten++(rC o0 o1 o2 o3 o4 o5 o6 o7:List Value)=(Z++([rC o0 o1 o2 o3 o4 o5 o6 o7]:List (List Value))).flatten:=by simp
  refine .inl ?_;refine⟨be,be,mx,((i+1:Nat):Int),wo,?_⟩;intro I8 w3 r3;exact⟨(i+1,Z++[rC o0 o1 o2 o3 o4 o5 o6 o7],w3,_),⟨Pk,G.tr r3.cj,XF.rel r3 hF⟩,sbgn [(0,2)] r3 ⟨by dsimp only;rw[<-Qt];rfl,trivial⟩ ⟨rfl,rfl,by dsimp only;rw[l1];rfl,rfl,trivial⟩,dec Pk⟩
 have Pk:=dE N Pk;subst Pk;intro GE we re;refine⟨_,rfl,G.tr re.cj,?_⟩;refine yh.list ((hG.rel re hF).cV fun g V=>Cv.nw V re) (re.Df (id:=0) (sz:=4) (m:=Z.length) rfl Qp mx bv hG.one fun U=>.inr (re.low 0 _ rfl U))
theorem Dj(n:Nat)(w:World)(U:n<=1000):eL PG FS.sQ #[iV n] w (eY w fun v' F=>gF F FF w.heap.size [(w.heap.size,F.heap.size)] v' n (List.replicate n ((0:Int):Rat))):=by
 have G:=bR w;have hF:=iw w.heap.size;refine s5 ce ?_;refine⟨Nat×List (List Value)×World×Iv,fun z=>⟨[(0,iZ n),(3,.o (.w 0 z.2.1.length)),(4,iN z.1)],[(0,.vec T.Rat 4 z.2.1.flatten)],1,z.2.2.2,z.2.2.1⟩,fun z=>n-z.1,fun z=>z.1<=n/\Bq w z.2.2.1/\yh z.2.2.1 (Cf w z.2.2.2) z.2.1 (List.replicate z.1 ((0:Int):Rat)),?_,?_⟩
 .intro O J r;exact⟨(0,[],J,[]),⟨ae _,G.tr r.cj,yh.nil⟩,Sub.nil 3 T.Rat 4 rfl (by simp[jn,SV.sc,At.sc,fu]) r fun I9 r1=>sbgn [] r1⟩
 clear G;rintro⟨i,Z,w1,iv⟩ ⟨N,G,hG⟩;dsimp only at N G hG ⊢;have Qg:Z.length=i:=by rw[hG.len,aj]
 have Qp:=fN hG.four;apply bS<;>intro Pk
 .have Pk:=dL Pk;refine cW (cU (GT:=fun _ J v F=>dI F (Nf J F) v (((0:Int):Rat))) (fun O J r=>fm 0 J bv) ?_);rintro O wa v1 wb r L Pw hO;replace hO:=dI.ep (S:=FF) hO r.cZ (iv:=(wa.heap.size,wb.heap.size)::iv) aF;replace hG:=hG.cS (K:=(wa.heap.size,wb.heap.size)::iv) r hF L fun p hp=>aD _ hp;replace G:=G.tr Pw;clear r L Pw;generalize (wa.heap.size,wb.heap.size)::iv=ivn at*
  obtain⟨o0,o1,o2,o3,o4,o5,o6,o7,rfl⟩:=dI.shape hO;have XF:=hG.push (cs:=rC o0 o1 o2 o3 o4 o5 o6 o7) (q:=((0:Int):Rat)) ⟨_,_,_,_,_,_,_,_,rfl,hO⟩ rfl;rw[show List.replicate i (((0:Int):Rat))++[((0:Int):Rat)]=List.replicate (i+1) (((0:Int):Rat))from List.replicate_succ'.symm]at XF;have Qt:Z.flatten++(rC o0 o1 o2 o3 o4 o5 o6 o7:List Value)=(Z++([rC o0 o1 o2 o3 o4 o5 o6 o7]:List (List Value))).flatten:=by simp
  refine .inl ?_;refine⟨be,be,mx,((i+1:Nat):Int),wo,?_⟩;intro I8 w3 r3;exact⟨(i+1,Z++[rC o0 o1 o2 o3 o4 o5 o6 o7],w3,_),⟨Pk,G.tr r3.cj,XF.rel r3 hF⟩,sbgn [(0,2)] r3 ⟨by dsimp only;rw[<-Qt];rfl,trivial⟩ ⟨rfl,by dsimp only;rw[l1];rfl,rfl,trivial⟩,dec Pk⟩
 have Pk:=dE N Pk;subst Pk;intro GE we re;have hG1:=hG.rel re hF;refine⟨_,rfl,G.tr re.cj,⟨Z,by rw[<-Qg];exact NA (AD re (id:=0) rfl Qp bv),Qg,hG1.len,fun j cs q k1 k2=>(hG1.at_ j cs q k1 k2).cV fun g V=>⟨V.aBd re,fun e=>Rel.not re hF V 0 _ rfl (Dk e).1 (Dk e).2⟩⟩,fun g e=>?_⟩;have hl:=re.low 0 _ rfl (Dk e).1;rw[(Dk e).2]at hl;exact .inr ⟨hl.1,_,_,aX.2 rfl,hl.1,hl.2⟩
end Go.Ex
namespace Go.Ex
variable{l:List Nat}{e i m:Nat}{M:Nat->Nat->Rat}{y z:Nat->Rat}
def kT(Fn:List (List Rat))(n:Nat):List (List Rat):=Fn++(List.range n).map fun k=>(dx n).set k 1
def sC(b:List Rat)(n:Nat):List Rat:=b++dx n
def j1(rows:List (List Rat))(l:List Nat):List (List Rat):=l.map fun e=>rows.getD e []
def sD(right:List Rat)(l:List Nat):List Rat:=l.map fun e=>right.getD e 0
theorem MO{M:List (List Rat)}{n:Nat}(hM:iq n M)(N:Inj M n):Ng M n=n:=by
 have hkc:=Hh hM;have Ye:Ng M n=(dG M n).2.length:=rfl;have Ty:(dG M n).2.length<=n:=by
  have:=(mw M n).2.2;show((List.range n).foldl e9 (M,[])).2.length<=n;omega
 rcases bH (oh M n).length with h|h
 .omega
 .have hy:=Lx hM h;have Y:=N _ hy
  have h3:=Nq (M:=M) (n:=n) (c:=fun k=>if k=0 then 1 else 0) (fun t ht=>by
   rw[eR h fun k _ Po=>by rw[aI Po,bj],aM rfl,cR]
   exact Y t ht) 0 h
  exact absurd h3 bv
section
variable{D:Dc}{n:Nat}{Fn:List (List Rat)}{b:List Rat}{c:Nat->Rat}
theorem wL:(kT Fn n).length=Fn.length+n:=by simp[kT]
theorem DS(hA:iq n Fn):iq n (kT Fn n):=fun r hr=>by
 rcases bB.1 hr with hr|hr
 .exact hA r hr
 .obtain⟨k,_,rfl⟩:=bE.1 hr;simp[dx]
theorem MP(hA:iq n Fn){k:Nat}(L:e<Fn.length+n)(R:k<n):dU (kT Fn n) e k=GM Fn.length (dU Fn) e k:=by
 unfold GM;rcases aW e Fn.length with h|h
 .rw[aM h,dU,dU,show(kT Fn n).getD e []=Fn.getD e [] by unfold kT;rw[List.getD,aN h];rfl]
 .rw[aI be,dU,show(kT Fn n).getD e []=(dx n).set (e-Fn.length) 1 by unfold kT;rw[List.getD,aP h,aU,cO be];rfl];rw[kQ (by simp[dx];omega),jO]
theorem DT(A:b.length=Fn.length):(sC b n).getD e 0=An Fn.length (fun i=>b.getD i 0) e:=by
 unfold sC An;rw[MC];split
 .rfl
 .exact Aa be
theorem OC(rows:List (List Rat))(N:i<l.length)(k:Nat):dU (j1 rows l) i k=dU rows (l.getD i 0) k:=by
 unfold j1 dU;rw[getD_map 0 [] N]
theorem JK(right:List Rat)(N:i<l.length):(sD right l).getD i 0=right.getD (l.getD i 0) 0:=getD_map 0 0 N
theorem kI:e∈eo D m n↔e<m+n/\∃j,j<D.q/\tE m n (D.eV j)=e:=by
 unfold eo;rw[List.mem_filter,List.mem_range,decide_eq_true_iff]
theorem DU:(eo D m n).Pairwise (· < ·):=List.pairwise_lt_range.filter _
theorem CT(h:D.Ok)(hm:D.m=m)(hq:D.q=n):(eo D m n).length=n:=by
 have hnd:=DU (D:=D) (n:=n) (m:=m);have Zs:=List.pairwise_iff_getElem.1 hnd;have ZB:∀a b (ha:a<(eo D m n).length) (A:b<(eo D m n).length),(eo D m n)[a]=(eo D m n)[b]->a=b:=fun a b ha A e=>by
  rcases cP a b with g|g|g
  .have:=Zs a b ha A g;omega
  .exact g
  .have:=Zs b a A ha g;omega
 refine Nat.le_antisymm ?_ ?_
 .obtain⟨g,V⟩:∃g:Nat->Nat,∀a,a<(eo D m n).length->g a<D.q/\tE m n (D.eV (g a))=(eo D m n).getD a 0:=by
   have:∀a,∃j,a<(eo D m n).length->j<D.q/\tE m n (D.eV j)=(eo D m n).getD a 0:=fun a=>by
    by_cases ha:a<(eo D m n).length
    .obtain⟨j,Y,I⟩:=(kI.1 (bp ha)).2;exact⟨j,fun _=>⟨Y,by rw[I,List.getD,aE ha];rfl⟩⟩
    .exact⟨0,fun g=>absurd g ha⟩
   exact⟨fun a=>(this a).choose,fun a=>(this a).choose_spec⟩
  refine aR (xU D.q _ g (fun a ha=>(V a ha).1) fun a b ha A e=>?_) (Nat.le_of_eq hq);have Y:=(V a ha).2;rw[e,(V b A).2,List.getD,aE A,List.getD,aE ha]at Y;exact(ZB b a A ha Y).symm
 .obtain⟨g,V⟩:∃g:Nat->Nat,∀j,j<D.q->g j<(eo D m n).length/\(eo D m n).getD (g j) 0=tE m n (D.eV j):=by
   have:∀j,∃a,j<D.q->a<(eo D m n).length/\(eo D m n).getD a 0=tE m n (D.eV j):=fun j=>by
    by_cases hj:j<D.q
    .have hf:=h.fl j hj;rw[hm,hq]at hf;obtain⟨a,ha,e⟩:=List.getElem_of_mem (kI.2 ⟨PA hf,j,hj,rfl⟩:tE m n (D.eV j)∈eo D m n);exact⟨a,fun _=>⟨ha,by rw[List.getD,aE ha];exact e⟩⟩
    .exact⟨0,fun g=>absurd g hj⟩
   exact⟨fun a=>(this a).choose,fun a=>(this a).choose_spec⟩
  refine aR (Nat.le_of_eq hq.symm) (xU _ D.q g (fun a ha=>(V a ha).1) fun a b ha A e=>?_);have Y:=(V a ha).2;rw[e,(V b A).2]at Y;have hfa:=h.fl a ha;have WZ:=h.fl b A;rw[hm,hq]at hfa WZ;exact h.fi a b ha A (Pc hfa WZ Y.symm)
theorem jZ.Pe(hA:iq n Fn)(A:b.length=Fn.length)(h:jZ D Fn.length n (dU Fn) (fun i=>b.getD i 0) c):
  eo D Fn.length n∈CN n (Fn.length+n)/\iq n (j1 (kT Fn n) (eo D Fn.length n))/\Ng (j1 (kT Fn n) (eo D Fn.length n)) n=n/\lu (j1 (kT Fn n) (eo D Fn.length n)) (sD (sC b n) (eo D Fn.length n)) n=some ((List.range n).map D.val):=by
 have hl:=CT h.ok h.em h.eq;have hlen:iq n (j1 (kT Fn n) (eo D Fn.length n)):=fun r hr=>by
  obtain⟨e,L,rfl⟩:=bE.1 hr;exact(DS hA).getD (by rw[wL];exact(kI.1 L).1)
 have Pm:∀(x:Nat->Rat) i,i<n->mulR (j1 (kT Fn n) (eo D Fn.length n)) n x i=cw (fun k=>GM Fn.length (dU Fn) ((eo D Fn.length n).getD i 0) k*x k) n:=fun x i N=>by
  unfold mulR;refine cY fun k R=>?_;have L:(eo D Fn.length n).getD i 0∈eo D Fn.length n:=by rw[List.getD,aE be];exact bp _
  rw[OC _ be,MP hA (kI.1 L).1 R]
 have hRl:(j1 (kT Fn n) (eo D Fn.length n)).length=n:=by unfold j1;rw[aO,hl]
 have huni:∀x:Nat->Rat,(∀i,i<n->mulR (j1 (kT Fn n) (eo D Fn.length n)) n x i=(sD (sC b n) (eo D Fn.length n)).getD i 0)->∀v,v<n->x v=D.val v:=fun x E=>by
  refine h.uni fun j hj=>?_;have hf:=h.ok.fl j hj;rw[h.em,h.eq]at hf;obtain⟨a,ha,e⟩:=List.getElem_of_mem (kI.2 ⟨PA hf,j,hj,rfl⟩:tE Fn.length n (D.eV j)∈eo D Fn.length n);have e:(eo D Fn.length n).getD a 0=tE Fn.length n (D.eV j):=by rw[List.getD,aE ha];exact e
  have Y:=E a be;rw[Pm x a be,JK _ ha,DT A,e]at Y;exact(GN hf x).1 Y
 have SH:∀i,i<n->mulR (j1 (kT Fn n) (eo D Fn.length n)) n D.val i=(sD (sC b n) (eo D Fn.length n)).getD i 0:=fun i N=>by
  have L:(eo D Fn.length n).getD i 0∈eo D Fn.length n:=by rw[List.getD,aE be];exact bp _
  obtain⟨-,j,hj,e⟩:=kI.1 L;have hf:=h.ok.fl j hj;rw[h.em,h.eq]at hf;rw[Pm _ i N,JK _ be,DT A,<-e];refine(GN hf D.val).2 ?_;rw[h.MN hf,D.wI h.ok hj]
 have ZB:Inj (j1 (kT Fn n) (eo D Fn.length n)) n:=fun x E v hv=>by
  have Y:=huni (fun t=>D.val t+x t) (fun i N=>by
   rw[MB,SH i N,E i (by rw[hRl];exact N),cI]) v hv
  grind
 refine⟨(wK _ _ _).2 ⟨hl,DU,fun x E=>(kI.1 E).1⟩,hlen,MO hlen ZB,KN hlen ZB ce fun i N=>?_⟩;rw[hRl]at N;rw[<-SH i N];exact Hi (fun t ht=>by rw[List.getD,aU,cO ht];rfl) i
end
structure HW(Fn:List (List Rat))(b:List Rat)(n:Nat)(x:List Rat):Prop where
 ex:∃l∈CN n (Fn.length+n),Ng (j1 (kT Fn n) l) n=n/\lu (j1 (kT Fn n) l) (sD (sC b n) l) n=some x
 ok:om Fn.length n (dU Fn) (fun i=>b.getD i 0) fun j=>x.getD j 0
def oo(c:List Rat)(x:List Rat)(n:Nat):Rat:=cw (fun j=>c.getD j 0*x.getD j 0) n
def jI(Fn:List (List Rat))(n:Nat):List (List Rat):=Fn++[List.replicate n 1,List.replicate n (-1)]
def kU(m:Nat):List Rat:=dx m++[1,-1]
section
variable{D:Dc}{n:Nat}{Fn:List (List Rat)}{b c x:List Rat}
theorem yN(f:Nat->Rat){n j:Nat}(h:j<n):((List.range n).map f).getD j 0=f j:=by rw[List.getD,aU,cO h];rfl
theorem om.congr{r:Nat->Rat}(h:om m n M r y)(e:∀j,j<n->z j=y j):om m n M r z:=⟨fun j hj=>by rw[e j hj];exact h.1 j hj,fun i N=>by rw[cY fun j hj=>by rw[e j hj]];exact h.2 i N⟩
theorem jZ.crn(hA:iq n Fn)(A:b.length=Fn.length){g:Nat->Rat}(h:jZ D Fn.length n (dU Fn) (fun i=>b.getD i 0) g)(hf:D.uq):HW Fn b n ((List.range n).map D.val):=by
 obtain⟨Y,I,h3,h4⟩:=h.Pe hA A;exact⟨⟨_,Y,h3,h4⟩,(h.aAn hf).congr fun j hj=>yN _ hj⟩
theorem JL{g:Nat->Rat}:oo c ((List.range n).map g) n=cw (fun j=>c.getD j 0*g j) n:=cY fun j hj=>by rw[yN _ hj]
theorem z7{k:Nat}(R:k<n):(i<Fn.length->dU (jI Fn n) i k=dU Fn i k)/\dU (jI Fn n) Fn.length k=1/\dU (jI Fn n) (Fn.length+1) k= -1:=by
 unfold jI;refine⟨fun h=>?_,?_,?_⟩
 .rw[dU,dU,show(Fn++[List.replicate n (1:Rat),List.replicate n (-1:Rat)]).getD i []=Fn.getD i [] by rw[List.getD,aN h];rfl]
 .rw[dU,show(Fn++[List.replicate n (1:Rat),List.replicate n (-1:Rat)]).getD Fn.length []=List.replicate n (1:Rat) by rw[List.getD,aP (aq _),bY];rfl,List.getD,List.getElem?_replicate,aM R];rfl
 .rw[dU,show(Fn++[List.replicate n (1:Rat),List.replicate n (-1:Rat)]).getD (Fn.length+1) []=List.replicate n (-1:Rat) by rw[List.getD,aP (Nat.le_add_right _ _),Nat.add_sub_cancel_left];rfl,List.getD,List.getElem?_replicate,aM R];rfl
theorem pL:(i<m->(kU m).getD i 0=0)/\(kU m).getD m 0=1/\(kU m).getD (m+1) 0= -1:=by
 unfold kU;have hz:(dx m).length=m:=by simp[dx]
 refine⟨fun h=>?_,?_,?_⟩
 .rw[List.getD,aN be,<-List.getD,jO]
 .rw[List.getD,aP be,hz,bY];rfl
 .rw[List.getD,aP be,hz,Nat.add_sub_cancel_left];rfl
theorem GO(hA:iq n Fn):iq n (jI Fn n):=fun r hr=>by
 rcases bB.1 hr with hr|hr
 .exact hA r hr
 .rcases List.mem_cons.1 hr with rfl|hr
  .exact aj
  .rw[aX.1 hr];exact aj
theorem kV:(jI Fn n).length=Fn.length+2:=by simp[jI]
theorem wM:(kU Fn.length).length=(jI Fn n).length:=by simp[jI,kU,dx]
theorem DV:om (jI Fn n).length n (dU (jI Fn n)) (fun i=>(kU Fn.length).getD i 0) z↔om Fn.length n (dU Fn) (fun _=>0) z/\cw z n=1:=by
 have e1:cw (fun j=>dU (jI Fn n) Fn.length j*z j) n=cw z n:=cY fun j hj=>by rw[(z7 (Fn:=Fn) (i:=0) hj).2.1,cR]
 have e2:cw (fun j=>dU (jI Fn n) (Fn.length+1) j*z j) n= -(cw z n):=by
  rw[<-gX];exact cY fun j hj=>by rw[(z7 (Fn:=Fn) (i:=0) hj).2.2];grind
 have e3:∀i,i<Fn.length->cw (fun j=>dU (jI Fn n) i j*z j) n=cw (fun j=>dU Fn i j*z j) n:=fun i N=>cY fun j hj=>by rw[(z7 hj).1 N]
 constructor
 .rintro⟨Y,I⟩;have g1:_<=(kU Fn.length).getD Fn.length 0:=I Fn.length (by rw[kV];omega);have g2:_<=(kU Fn.length).getD (Fn.length+1) 0:=I (Fn.length+1) (by rw[kV];omega);rw[e1,(pL (i:=0)).2.1]at g1;rw[e2,(pL (i:=0)).2.2]at g2;refine⟨⟨Y,fun i N=>?_⟩,by grind⟩;have:_<=(kU Fn.length).getD i 0:=I i (by rw[kV];omega)
  rwa [e3 i N,pL.1 N]at this
 .rintro⟨⟨Y,I⟩,h3⟩;refine⟨Y,fun i N=>?_⟩;rw[kV]at N;show _<=(kU Fn.length).getD i 0;rcases aW i Fn.length with g|g
  .rw[e3 i g,pL.1 g];exact I i g
  .rcases aW Fn.length i with g2|g2
   .rw[show i=Fn.length+1 by omega,e2,(pL (i:=0)).2.2,h3];exact Rat.le_refl
   .rw[show i=Fn.length by omega,e1,(pL (i:=0)).2.1,h3];exact Rat.le_refl
theorem Hn(hA:iq n Fn)(hz:KV Fn.length n (dU Fn) (fun j=>c.getD j 0) z):∃r,HW (jI Fn n) (kU Fn.length) n r/\0<oo c r n:=by
 obtain⟨⟨Y,I⟩,h3⟩:=hz;have W:0<cw z n:=by
  refine Rat.not_le.1 fun hle=>?_;have h0:=ry (f:=z) (n:=n) Y hle;rw[cY (g:=fun _=>0) fun j hj=>by rw[h0 j hj,bL],dh]at h3;exact Rat.lt_irrefl h3
 obtain⟨S,hSe⟩:∃S,cw z n=S:=⟨_,rfl⟩
 rw[hSe]at W;have N:=Rat.inv_pos.2 W;have U:om (jI Fn n).length n (dU (jI Fn n)) (fun i=>(kU Fn.length).getD i 0) fun j=>S⁻¹*z j:=by
  refine DV.2 ⟨⟨fun j hj=>Rat.mul_nonneg (Rat.le_of_lt N) (Y j hj),fun i Rc=>?_⟩,?_⟩
  .rw[cY (g:=fun j=>S⁻¹*(dU Fn i j*z j)) fun j _=>by grind,fV];have g1:=I i Rc;have g2:=Rat.mul_nonneg (Rat.le_of_lt N) (show 0<= -(cw (fun j=>dU Fn i j*z j) n) by grind);grind
  .rw[fV,hSe];exact Rat.inv_mul_cancel _ fun e=>by rw[e]at W;exact Rat.lt_irrefl W
 rcases JJ (jI Fn n).length n (dU (jI Fn n)) (fun i=>(kU Fn.length).getD i 0) (fun j=>c.getD j 0)with⟨y,hy⟩|⟨D,hD,hF,hE⟩
 .exact absurd (hy.no U) id
 .cases hE with
  |CS A=>
   refine⟨_,hD.crn (GO hA) wM hF,?_⟩;rw[JL];have g1:=(hD.jv hF).2.2;have g2:=hD.CS A U;rw[cY (g:=fun j=>S⁻¹*(c.getD j 0*z j)) fun j _=>by grind,fV]at g2;have g3:=Rat.mul_pos N h3;rw[g1];grind
  |MD s hs hc ha=>
   obtain⟨⟨k1,k2⟩,k3⟩:=hD.MD hs hc ha;have g1:=k2 Fn.length (by rw[kV];omega);rw[cY (g:=D.dir s) fun j hj=>by rw[(z7 (Fn:=Fn) (i:=0) hj).2.1,cR]]at g1;have h0:=ry (f:=D.dir s) (n:=n) k1 g1;rw[cY (g:=fun _=>0) fun j hj=>by rw[h0 j hj,bL],dh]at k3;exact absurd k3 Rat.lt_irrefl
theorem yO(h:wJ Fn.length n (dU Fn) (fun i=>b.getD i 0) y)(E:HW Fn b n x):False:=h.no E.ok
theorem KX(hy:∀i,i<Fn.length->0<=y i)(hc:∀j,j<n->c.getD j 0<=cw (fun i=>y i*dU Fn i j) Fn.length)(E:HW (jI Fn n) (kU Fn.length) n x):¬0<oo c x n:=fun g=>
 ML (c:=fun j=>c.getD j 0) ⟨(DV.1 E.ok).1,g⟩ hy hc
end
end Go.Ex
namespace Go.Ex
open Go Go.Sx Go.Proofs
variable{a:Act}{Fd next:Act->World->Prop}{la lx:Array Bool}{E8:Array Bool->World->Prop}{Q:Exit->Act->World->Prop}{b i j:Nat}{oi:Oper}{X:Sem Next}{w:World}{C9:World->Prop}
inductive Tq where
 |nil
 |x (i:Nat) (t:Tq)
 |two (i:Nat) (t:Tq) (j:Nat) (u:Tq)
 |three (i:Nat) (t:Tq) (j:Nat) (u:Tq) (k:Nat) (v:Tq)
section
variable{P:Program}{τ:mo}{ops:Array Oper}{B n nx:Nat}{l:Env}{H:Hp}{iv:Iv}{w J:World}{O:Nat->Sx.eH}{a:Act}
end
section
variable{P:Program}{ops:Array Oper}{Q:Exit->Act->World->Prop}{md:Region.Mode}
theorem LQ{oj:Oper}{v:Value}(hj:ops[j]? =some oj)(Sr:oi.apart ops oj=true)
  (hsi:∀cs b,oi.op≠ .select cs b) (hsj:∀cs b,oj.op≠ .select cs b)
  (hQ:∀c a w,Q (.panic c) (a.put oi.dst v) w->Q (.panic c) a w)
  (hy:Region.wanted oi (yielded ops a.tmps)=true/\execOp a.eval oi=X) (h:wpOp P ops Q j Fd (a.put oi.dst v) w):
  wpOp P ops Q j (fun a' J=>(Region.wanted oi (yielded ops a'.tmps)=true/\execOp a'.eval oi=X)/\Fd (a'.put oi.dst v) J) a w:=by
 obtain⟨Y,I,h3⟩:=Oper.apart_spec Sr;have cX:∀(a:Act),(Region.wanted oi (yielded ops a.tmps)=true/\execOp a.eval oi=X)->∀u,(Region.wanted oi (yielded ops (a.put oj.dst u).tmps)=true/\execOp (a.put oj.dst u).eval oi=X):=fun a hy u=>
  ⟨(wanted_put oi a oj.dst u h3).trans hy.1,(execOp_put oi hsi a oj.dst u h3).trans hy.2⟩
 have keepD:∀d:Deferred,(Region.wanted oi (yielded ops ({a with defers:=d::a.defers}:Act).tmps)=true/\execOp ({a with defers:=d::a.defers}:Act).eval oi=X):=fun d=>hy;unfold wpOp at*
 simp only[hj]at*
 rw[wanted_put oj a oi.dst v Y]at h;split
 .rename_i G;simp only[G,if_true]at h;rcases h with h|⟨VZ,Xm⟩
  case inr=>exact .inr ⟨by unfold Oper.asks at *;rw[execOp_put oj hsj a oi.dst v Y]at VZ;exact VZ,Xm⟩
  refine .inl ?_;unfold Oper.wp at*
  rw[execOp_put oj hsj a oi.dst v Y]at h;generalize (execOp a.eval oj).run P w=r at*
  cases r with
  |ok n J=>
   cases n<;>simp only[Oper.upon]at h ⊢
   case value u=>exact⟨cX a hy u,by rw[<-Act.put_comm a v u I];exact h⟩
   case skip=>exact⟨cX a hy _,by rw[<-Act.put_comm a v undef I];exact h⟩
   case defer d=>
    refine⟨cX ({a with defers:=d::a.defers}:Act) (keepD d) undef,?_⟩;rw[<-Act.put_comm _ v undef I,<-Act.put_defers];exact h
   case enter f args=>
    refine Calls.mono h fun e w'' L=>?_
    cases e with
    |returned u=>exact⟨cX a hy u,by rw[<-Act.put_comm a v u I];exact L⟩
    |panicked c=>exact hQ _ _ _ L
    |outgrown=>exact L
   case row row args=>exact Rows.mono h fun u w'' L=>⟨cX a hy u,by rw[<-Act.put_comm a v u I];exact L⟩
  |halt x J=>
   cases x<;>simp only[Oper.upon]at h ⊢
   case panic u=>exact hQ _ _ _ h
 .rename_i G;simp only[G]at h;exact⟨cX a hy _,by rw[<-Act.put_comm a v undef I];exact h⟩
def qq(P:Program)(md:Region.Mode)(ops:Array Oper)(Q:Exit->Act->World->Prop)(E8:Array Bool->World->Prop):Nat->Array Bool->Act->World->Prop
 |0,lx,a,w=>E8 lx w/\Region.ready md ops lx=[]/\Q .normal a w
 |fuel+1,lx,a,w=>E8 lx w/\(Region.ready md ops lx=[]->Q .normal a w)/\∀i∈Region.ready md ops lx,wpOp P ops Q i (fun a' J=>qq P md ops Q E8 fuel (lx.setIfInBounds i true) a' J) a w
theorem vR{E8:Array Bool->World->Prop}:∀(fuel:Nat) (lx:Array Bool) (a:Act) (w:World),qq P md ops Q E8 fuel lx a w->wpAny P md ops Q fuel lx a w
 |0,_,_,_,h=>h.2
 |fuel+1,_,_,_,h=>⟨h.2.1,fun i N=>wpOp_mono (fun _ _ h'=>vR fuel _ _ _ h') (h.2.2 i N)⟩
theorem j8{E8 A8:Array Bool->World->Prop}(hIJ:∀lx w,E8 lx w->A8 lx w):∀(fuel:Nat) (lx:Array Bool) (a:Act) (w:World),qq P md ops Q E8 fuel lx a w->qq P md ops Q A8 fuel lx a w
 |0,_,_,_,h=>⟨hIJ _ _ h.1,h.2⟩
 |fuel+1,_,_,_,h=>⟨hIJ _ _ h.1,h.2.1,fun i N=>wpOp_mono (fun _ _ h'=>j8 hIJ fuel _ _ _ h') (h.2.2 i N)⟩
theorem yo(hI:E8 lx w)(hr:Region.ready md ops lx=[])(h:Q .normal a w):∀fuel,qq P md ops Q E8 fuel lx a w
 |0=>⟨hI,hr,h⟩
 |_+1=>⟨hI,fun _=>h,by rw[hr];simp⟩
def lP(ops:Array Oper)(b:Nat)(lx:Array Bool):Prop:=∀(k:Nat) o,tb b k=true->ops[k]? =some o->mM o.op=false->lx.getD k false=false
theorem fp(N:ops[i]? =some oi)(hR:mM oi.op=true):lP ops b (lx.setIfInBounds i true)↔lP ops b lx:=by
 have key:∀(k:Nat) o,ops[k]? =some o->mM o.op=false->(lx.setIfInBounds i true).getD k false=lx.getD k false:=fun k o ho hr=>by
  have:i≠k:=fun e=>by subst e;rw[N]at ho;injection ho with ho;subst ho;rw[hR]at hr;cases hr
  exact Go.getD_set_ne false this
 exact⟨fun h k o Y I h3=>by rw[<-key k o I h3];exact h k o Y I h3,fun h k o Y I h3=>by rw[key k o I h3];exact h k o Y I h3⟩
theorem nF{v:Value}(N:ops[i]? =some oi)(hR:mM oi.op=true)(QB:∀(j:Nat) (o:Oper) cs b,ops[j]? =some o->o.op≠ .select cs b)
  (hQ:∀c a w,Q (.panic c) (a.put oi.dst v) w->Q (.panic c) a w) (RA:∀j,tb b j=true->∃oj e,ops[j]? =some oj/\e∈oj.after/\Region.binds md e=true/\(e.on=i\/tb b e.on=true))
  (hY:∀w,C9 w->X.run P w= .ok (.value v) w) (hI:∀lx w,E8 (lx.setIfInBounds i true) w->E8 lx w):
  ∀(fuel:Nat) (lx:Array Bool) (a:Act) (w:World),(∀j,tb b j=true->lx.getD j false=false)->
   (∀j oj,ops[j]? =some oj->j≠i->lx.getD j true=false->tb b j=false->oi.apart ops oj=true)->
   i∈Region.ready md ops lx->(Region.wanted oi (yielded ops a.tmps)=true/\execOp a.eval oi=X)->
   qq P md ops Q (fun lx w=>E8 lx w/\(lP ops b lx->C9 w)) fuel (lx.setIfInBounds i true) (a.put oi.dst v) w->qq P md ops Q E8 (fuel+1) lx a w:=by
 intro fuel;have run:∀(lx:Array Bool) (a:Act) (w:World),(∀j,tb b j=true->lx.getD j false=false)->(Region.wanted oi (yielded ops a.tmps)=true/\execOp a.eval oi=X)->(E8 (lx.setIfInBounds i true) w/\(lP ops b (lx.setIfInBounds i true)->C9 w))->
   ∀Fd:Act->World->Prop,Fd (a.put oi.dst v) w->wpOp P ops Q i Fd a w:=fun lx a w Pw hy hH Fd hK=>by
  have hYw:=hH.2 ((fp N hR).2 fun k o Y _ _=>Pw k Y);unfold wpOp;simp only[N,hy.1,if_true]
  refine .inl ?_;unfold Oper.wp;rw[hy.2,hY w hYw];exact hK
 induction fuel with
 |zero=>
  intro lx a w Pw _ hr hy H;refine⟨hI _ _ H.1.1,fun h=>(by rw[h]at hr;cases hr),fun j hj=>?_⟩;by_cases Q1:j=i
  .subst Q1;exact run lx a w Pw hy H.1 _ (j8 (fun _ _ h=>h.1) 0 _ _ _ H)
  .have:=ready_mono hj Q1;rw[H.2.1]at this
   cases this
 |succ fuel ih=>
  intro lx a w Pw SC hr hy H;refine⟨hI _ _ H.1.1,fun h=>(by rw[h]at hr;cases hr),fun j hj=>?_⟩;by_cases Q1:j=i
  .subst Q1;exact run lx a w Pw hy H.1 _ (j8 (fun _ _ h=>h.1) (fuel+1) _ _ _ H)
  .have Y:=H.2.2 j (ready_mono hj Q1);obtain⟨Xn,oj,Ry,Qw⟩:=mem_ready.1 hj;have Qk:tb b j=false:=by
    cases A:tb b j with
    |false=>rfl
    |true=>
     exfalso;obtain⟨oj',e,Uf,L,Wo,XT⟩:=RA j A;rw[Ry]at Uf;injection Uf with Uf;subst Uf;have Y:=Qw e L Wo;rcases XT with heq|Q2
     .have h0:=(mem_ready.1 hr).1;rw[heq]at Y;rcases aW i lx.size with h'|h'
      .simp[h']at h0 Y;rw[h0]at Y;cases Y
      .simp[Array.getElem?_eq_none h']at Y
     .rw[Pw _ Q2]at Y;cases Y
   have I:=LQ Ry (SC j oj Ry Q1 Xn Qk) (fun cs b=>QB i oi cs b N) (fun cs b=>QB j oj cs b Ry) hQ hy Y;have hbl':∀k,tb b k=true->(lx.setIfInBounds j true).getD k false=false:=fun k R=>by
    rw[Go.getD_set_ne false (fun e=>(by subst e;rw[Qk]at R;cases R))];exact Pw k R
   have WA:∀k ok,ops[k]? =some ok->k≠i->(lx.setIfInBounds j true).getD k true=false->tb b k=false->oi.apart ops ok=true:=fun k ok R Va WS Ta=>by
    refine SC k ok R Va ?_ Ta;by_cases VK:j=k
    .subst VK;exact Xn
    .rw[Go.getD_set_ne true VK]at WS;exact WS
   refine wpOp_mono (fun a' J h3=>?_) I;refine ih (lx.setIfInBounds j true) a' J hbl' WA (ready_mono hr (Ne.symm Q1)) h3.1 ?_;rw[Array.setIfInBounds_comm _ _ Q1];exact h3.2
end
structure Gh where
 u:Nat
 d:Nat
 T:Nat
 b:Nat
def FK(τ:mo)(B:Nat):List Gh->Env->Hp->Nat->Iv->World->Prop->Prop
 |[],_,_,_,_,_,Fd=>Fd
 |g::r,l,H,nx,iv,w,Fd=>match fZ l g.u with
  |some su=>zy τ B g.T su H nx iv w (fun v=>fZ l g.d=some v/\FK τ B r l H nx iv w Fd)
  |none=>False
inductive Tg where
 |nil
 |x (i:Nat) (t:Tg)
 |two (i:Nat) (t:Tg) (j:Nat) (u:Tg)
 |three (i:Nat) (t:Tg) (j:Nat) (u:Tg) (k:Nat) (v:Tg)
 |ld (i b:Nat) (t:Tg)
 |qp (id:Nat) (t:Tg)
def Dw(j:Nat):List Gh->List Gh
 |[]=>[]
 |g::r=>match tb g.b j with
  |true=>Dw j r
  |false=>g::Dw j r
def stepG(τ:mo)(B:Nat)(rd:Bool)(C8:List Gh)(j:Nat)(l:Env)(H:Hp)(nx:Nat)(iv:Iv)(w:World)(Fd:List Gh->Prop):Prop:=match rd with
 |true=>Fd C8
 |false=>FK τ B (Dw j C8) l H nx iv w (Fd (Dw j C8))
def HT(ops:Array Oper)(m i:Nat)(oi:Oper)(b:Nat):List Oper->Nat->Bool
 |[],_=>true
 |oj::r,j=>(Nat.beq j i||tb m j||tb b j||oi.apart ops oj)&&HT ops m i oi b r (j+1)
def Jl(m i u d:Nat):List Oper->Nat->Bool
 |[],_=>true
 |oj::r,j=>(tb m j||match oj.dst with
   |none=>true
   |some e=> !Nat.beq e u&&(Nat.beq j i|| !Nat.beq e d))&&Jl m i u d r (j+1)
def Io(o:Oper):Option (Nat×Nat×Nat):=match o with
 |⟨some d,.load T (.tmp u),_,_,_,none⟩=>some (d,T,u)
 |_=>none
def jk(ops:Array Oper):Tg->Array Bool->Bool
 | .nil,lx=>(Region.ready .any ops lx).isEmpty
 | .x i t,lx=>match ops[i]? with
  |none=>false
  |some o=>(Region.ready .any ops lx).contains i&&((Region.ready .any ops lx).all (fun j=>Nat.beq j i)||HU o.op&&o.guard.isNone&&HT ops (iU lx.toList 0) i o (zm (iU lx.toList 0) i ops.toList 0 0) ops.toList 0)&&jk ops t (lx.setIfInBounds i true)
 | .two i t j u,lx=>match Region.ready .any ops lx with
  |[a,b]=>Nat.beq a i&&(Nat.beq b j&&(jk ops t (lx.setIfInBounds i true)&&jk ops u (lx.setIfInBounds j true)))
  |_=>false
 | .three i t j u k v,lx=>match Region.ready .any ops lx with
  |[a,b,c]=>Nat.beq a i&&(Nat.beq b j&&(Nat.beq c k&&(jk ops t (lx.setIfInBounds i true)&&(jk ops u (lx.setIfInBounds j true)&&jk ops v (lx.setIfInBounds k true)))))
  |_=>false
 | .ld i b t,lx=>match ops[i]? with
  |none=>false
  |some o=>match Io o with
   |none=>false
   |some (d,_,u)=>(Region.ready .any ops lx).contains i&&Nat.beq b (zm (iU lx.toList 0) i ops.toList 0 0)&&HT ops (iU lx.toList 0) i o b ops.toList 0&&Jl (iU lx.toList 0) i u d ops.toList 0&&jk ops t (lx.setIfInBounds i true)
 | .qp _ t,lx=>jk ops t lx
def Cr(P:Program)(τ:mo)(B:Nat)(all:List Oper):Tg->List Gh->Env->Hp->Nat->Iv->World->KT->Prop
 | .nil,_,l,H,nx,iv,w,Fd=>Fd l H nx iv w
 | .x i t,C8,l,H,nx,iv,w,Fd=>lg all i (fun o=>fA (!fT o) P τ B all o l H nx iv w (fun l' H' Pr K J=>stepG τ B (mM o.op) C8 i l' H' Pr K J (fun G'=>Cr P τ B all t G' l' H' Pr K J Fd)))
 | .two i t j u,C8,l,H,nx,iv,w,Fd=>lg all i (fun o=>fA (!fT o) P τ B all o l H nx iv w (fun l' H' Pr K J=>stepG τ B (mM o.op) C8 i l' H' Pr K J (fun G'=>Cr P τ B all t G' l' H' Pr K J Fd)))/\
   lg all j (fun o=>fA (!fT o) P τ B all o l H nx iv w (fun l' H' Pr K J=>stepG τ B (mM o.op) C8 j l' H' Pr K J (fun G'=>Cr P τ B all u G' l' H' Pr K J Fd)))
 | .three i t j u k v,C8,l,H,nx,iv,w,Fd=>lg all i (fun o=>fA (!fT o) P τ B all o l H nx iv w (fun l' H' Pr K J=>stepG τ B (mM o.op) C8 i l' H' Pr K J (fun G'=>Cr P τ B all t G' l' H' Pr K J Fd)))/\
   (lg all j (fun o=>fA (!fT o) P τ B all o l H nx iv w (fun l' H' Pr K J=>stepG τ B (mM o.op) C8 j l' H' Pr K J (fun G'=>Cr P τ B all u G' l' H' Pr K J Fd)))/\
   lg all k (fun o=>fA (!fT o) P τ B all o l H nx iv w (fun l' H' Pr K J=>stepG τ B (mM o.op) C8 k l' H' Pr K J (fun G'=>Cr P τ B all v G' l' H' Pr K J Fd))))
 | .ld i b t,C8,l,H,nx,iv,w,Fd=>lg all i (fun o=>match Io o with
  |some (d,T,u)=>match fZ l u with
   |some su=>zy τ B T su H nx iv w (fun v=>Cr P τ B all t (⟨u,d,T,b⟩::C8) ((d,v)::l) H nx iv w Fd)
   |none=>False
  |none=>False)
 | .qp id t,C8,l,H,nx,iv,w,Fd=>∃H' b,dV H id=some b/\b≠ .dead/\xN H H'/\FM id H'=true/\∀O J,Rel H nx iv B w O J->(O id).nil=false/\∃l',(∀u v,fZ l' u=some v->v.sc nx/\∃v',fZ l u=some v'/\v'.den O=v.den O)/\Cr P τ B all t C8 l' H' nx (((O id).g,(O id).g+1)::iv) J Fd
section
variable{P:Program}{τ:mo}{ops:Array Oper}{B n nx:Nat}{l:Env}{H:Hp}{iv:Iv}{w J:World}{O:Nat->Sx.eH}{a:Act}
theorem aBR(hτ:fG P τ){o:Oper}(ho:ops[i]? =some o)(hd:∀d,o.dst=some d->d<n){Fd:KT}
  (Y:fA (!fT o) P τ B ops.toList o l H nx iv w Fd) (sat:Sat n l H nx iv B w O a J)
  (U:∀l' H' Pr K F F' x w3,Fd l' H' Pr K F->Sat n l' H' Pr K B F F' (a.put o.dst x) w3->(mM o.op=true->w3=J)->next (a.put o.dst x) w3):
  wpOp P ops Q i next a J:=by
 unfold fA at Y;refine lh ho ?_;rcases iy sat Y with⟨G,l1,I,sat1⟩|⟨G,l1,I,sat1⟩
 .refine .inl ⟨G,?_⟩
  cases hR:mM o.op with
  |true=>
   obtain⟨v,hK,R1,Px⟩:=(im hτ I sat1 hR).resolve_right (fun hh=>by have:=hh.1;rw[nP hR]at this;cases this);obtain⟨l2,h3,sat2⟩:=eh sat1 hK hd R1;exact kf (Px J (.inr sat1.rel)) (U _ _ _ _ _ _ _ _ h3 sat2 fun _=>rfl)
  |false=>
   have nr:∀w3:World,mM o.op=true->w3=J:=fun w3 h=>by rw[hR]at h;cases h
   cases hA:Cw o.op with
   |true=>
    obtain⟨b,v,mk,obj,hK,TH,A,hv,Wk,RH,Tl⟩:=lF hτ I sat1 hA;have Qb:Rel ((nx,b)::H) (nx+1) iv B w (Sx.jG O nx ⟨J.heap.size,0,false⟩) (J.alloc obj):=
     sat1.rel.push b _ rfl rfl rfl ce (fun k R=>heap_alloc_old _ _ R) (fun _=>⟨lr,ce⟩) (RH _ _ (heap_alloc_new _ _)) A
    obtain⟨l2,h3,sat2⟩:=eh (sat1.next Qb (Nat.le_succ _) (fun id RE=>iO id RE)) hK hd hv;rw[Wk]at sat2;exact kf (v:=mk J.heap.size) (F:=J.alloc obj) (Tl J) (U _ _ _ _ _ _ _ _ h3 sat2 (by rw[hR];exact fun h=>by cases h))
   |false=>
    cases hH:rI o with
    |false=>
     rw[od hH]at I;refine uX I sat1 hR hA hH fun v F hK L hs=>?_;obtain⟨l2,h3,sat2⟩:=eh (v:=.o (.v v)) hs hK hd trivial;exact U _ _ _ _ _ _ _ _ h3 sat2 (by rw[hR];exact fun h=>by cases h)
    |true=>
     refine lG hτ I sat1 fun v H' Pr K F F' w3 hK sat2 hv=>?_;obtain⟨l2,h3,sat3⟩:=eh sat2 hK hd hv;exact U _ _ _ _ _ _ _ _ h3 sat3 (by rw[hR];exact fun h=>by cases h)
 .obtain⟨l2,h4,sat3⟩:=eh sat1 I hd trivial;exact .inr ⟨G,U _ _ _ _ _ _ _ _ h4 sat3 fun _=>rfl⟩
theorem tL(hτ:fG P τ)(sat:Sat n l H nx iv B w O a J){Fd:Prop}:∀(C8:List Gh),FK τ B C8 l H nx iv w Fd->
  Fd/\∀g∈C8,∃su sv,fZ l g.u=some su/\fZ l g.d=some sv/\(Instr.loadAt g.T (su.den O)).run P J= .ok (sv.den O) J
 |[],h=>⟨h,fun g V=>by cases V⟩
 |g::r,h=>by
  unfold FK at h;split at h
  .rename_i su Xg;obtain⟨v,⟨Y,I⟩,hv,Px⟩:=nU hτ sat.rel (sat.sc _ _ Xg) h;obtain⟨h3,h4⟩:=tL hτ sat r I;refine⟨h3,fun g' V=>?_⟩;rcases List.mem_cons.1 V with rfl|V
   .exact⟨su,v,Xg,Y,Px J sat.rel⟩
   .exact h4 g' V
  .exact h.elim
theorem nO{j:Nat}{g:Gh}:∀{C8:List Gh},g∈C8->tb g.b j=false->g∈Dw j C8
 |g'::r,h,A=>by
  unfold Dw;rcases List.mem_cons.1 h with rfl|h
  .rw[A];exact aF
  .split
   .exact nO h A
   .exact aD _ (nO h A)
abbrev Zh:=Gh×Value×Value
def Yz(P:Program)(z:Zh)(w:World):Prop:=(Instr.loadAt z.1.T z.2.1).run P w= .ok z.2.2 w
structure Nb(ops:Array Oper)(la:Array Bool)(a:Act)(z:Zh):Prop where
 u:a.tmps[z.1.u]? =some z.2.1
 d:a.tmps[z.1.d]? =some z.2.2
 no:∀(j:Nat) oj,ops[j]? =some oj->la.getD j false=false->oj.dst≠some z.1.u/\oj.dst≠some z.1.d
theorem Nb.step{z:Zh}{oj:Oper}{x:Value}(h:Nb ops la a z)(hj:ops[j]? =some oj)(hl:la.getD j false=false):Nb ops (la.setIfInBounds j true) (a.put oj.dst x) z:=by
 obtain⟨Y,I⟩:=h.no j oj hj hl;refine⟨qA Y h.u,qA I h.d,fun k ok R hlk=>h.no k ok R ?_⟩;by_cases VK:j=k
 .subst VK;exact hl
 .rwa [Go.getD_set_ne false VK]at hlk
def IZ(P:Program)(ops:Array Oper)(F8:List Zh)(lx:Array Bool)(w:World):Prop:=∀z∈F8,lP ops z.1.b lx->Yz P z w
theorem mL(h:i∈Region.ready .any ops la):la.getD i false=false:=by
 have:=(eE.1 h).1;rw[bG,this];rfl
theorem j9{o:Oper}(ho:ops[i]? =some o)(hl:la[i]? =some false)(h:lP ops b (la.setIfInBounds i true)):lP ops b la/\(mM o.op=false->tb b i=false):=by
 refine⟨fun k ok Y I h3=>?_,fun hR=>?_⟩
 .by_cases hik:i=k
  .subst hik;rw[bG,hl];rfl
  .rw[<-Go.getD_set_ne false hik];exact h k ok Y I h3
 .cases A:tb b i with
  |false=>rfl
  |true=>
   have:=h i o A ho hR;have N:=(bD.1 hl).1;rw[bG,Array.getElem?_setIfInBounds_self_of_lt N]at this
   cases this
theorem Dx(hτ:fG P τ){o:Oper}{C8:List Gh}{F8:List Zh}(ho:ops[i]? =some o)(hd:∀d,o.dst=some d->d<n)(hr:i∈Region.ready .any ops la){Fd:Env->Hp->Nat->Iv->World->List Gh->Prop}
  (Y:fA (!fT o) P τ B ops.toList o l H nx iv w (fun l' H' Pr K J=>stepG τ B (mM o.op) C8 i l' H' Pr K J (Fd l' H' Pr K J))) (sat:Sat n l H nx iv B w O a J)
  (hG:∀z∈F8,lP ops z.1.b la->z.1∈C8) (hZ:∀z∈F8,Nb ops la a z) (hI:IZ P ops F8 la J)
  (U:∀l' H' Pr K F F' x w3 G',Fd l' H' Pr K F G'->Sat n l' H' Pr K B F F' (a.put o.dst x) w3->(∀z∈F8,lP ops z.1.b (la.setIfInBounds i true)->z.1∈G')->(∀z∈F8,Nb ops (la.setIfInBounds i true) (a.put o.dst x) z)->IZ P ops F8 (la.setIfInBounds i true) w3->next (a.put o.dst x) w3):
  wpOp P ops Q i next a J:=by
 have hl:=(eE.1 hr).1;refine aBR hτ ho hd Y sat fun l' H' Pr K F F' x w3 hK sat2 G=>?_;have Zd:∀z∈F8,Nb ops (la.setIfInBounds i true) (a.put o.dst x) z:=fun z hz=>(hZ z hz).step ho (mL hr)
 cases hR:mM o.op with
 |true=>
  rw[hR]at hK;have G:=G hR;subst G;refine U _ _ _ _ _ _ _ _ C8 hK sat2 (fun z hz h=>hG z hz (j9 ho hl h).1) Zd fun z hz h=>hI z hz (j9 ho hl h).1
 |false=>
  rw[hR]at hK;obtain⟨I,h3⟩:=tL hτ sat2 _ hK;refine U _ _ _ _ _ _ _ _ _ I sat2 (fun z hz h=>?_) Zd fun z hz h=>?_
  .obtain⟨k1,k2⟩:=j9 ho hl h;exact nO (hG z hz k1) (k2 hR)
  .obtain⟨k1,k2⟩:=j9 ho hl h;obtain⟨su,sv,e1,e2,e3⟩:=h3 z.1 (nO (hG z hz k1) (k2 hR));have h4:=sat2.env _ _ e1;have h5:=sat2.env _ _ e2;rw[(Zd z hz).u]at h4;rw[(Zd z hz).d]at h5;injection h4 with h4;injection h5 with h5;unfold Yz;rw[h4,h5];exact e3
end
section
variable{P:Program}{τ:mo}{ops:Array Oper}{B n nx:Nat}{l:Env}{H:Hp}{iv:Iv}{w J:World}{O:Nat->Sx.eH}{a:Act}
theorem oE{m i b:Nat}{oi:Oper}:∀(l:List Oper) (k:Nat),HT ops m i oi b l k=true->∀(j:Nat) oj,l[j]? =some oj->k+j≠i->tb m (k+j)=false->tb b (k+j)=false->oi.apart ops oj=true
 |[],_,_,j,oj,h,_,_,_=>by cases h
 |o::r,k,h,j,oj,hj,Y,I,h3=>by
  simp only[HT,bF,Bool.or_eq_true]at h
  cases j with
  |zero=>
   injection hj with hj;subst hj;rcases h.1 with((h4|h4)|h4)|h4
   .exact absurd (bT h4) Y
   .rw[cN]at I;rw[I]at h4;cases h4
   .rw[cN]at h3;rw[h3]at h4;cases h4
   .exact h4
  |succ j=>
   have e:k+(j+1)=k+1+j:=by omega
   rw[e]at Y I h3;exact oE r (k+1) h.2 j oj (by simpa using hj) Y I h3
theorem vS{m i u d:Nat}:∀(l:List Oper) (k:Nat),Jl m i u d l k=true->∀(j:Nat) oj,l[j]? =some oj->tb m (k+j)=false->oj.dst≠some u/\(k+j≠i->oj.dst≠some d)
 |[],_,_,j,oj,h,_=>by cases h
 |o::r,k,h,j,oj,hj,I=>by
  simp only[Jl,bF,Bool.or_eq_true]at h
  cases j with
  |zero=>
   injection hj with hj;subst hj;rcases h.1 with h4|h4
   .rw[cN]at I;rw[I]at h4;cases h4
   .cases ho:o.dst with
    |none=>exact⟨ce,ce⟩
    |some e=>
     rw[ho]at h4;simp only[bF,Bool.not_eq_true',Bool.or_eq_true]at h4;refine⟨fun hh=>?_,fun Po hh=>?_⟩
     .injection hh with hh;subst hh;have:=h4.1;simp at this
     .injection hh with hh;subst hh;rcases h4.2 with h5|h5
      .exact Po (bT h5)
      .simp at h5
  |succ j=>
   have e:k+(j+1)=k+1+j:=by omega
   rw[e]at I ⊢;exact vS r (k+1) h.2 j oj (by simpa using hj) I
theorem Dy{o:Oper}{d T u:Nat}(h:Io o=some (d,T,u)):o.dst=some d/\o.op= .load T (.tmp u)/\o.guard=none:=by
 unfold Io at h;split at h
 .injection h with h;injection h with Y I;injection I with I h3;subst Y I h3;exact⟨rfl,rfl,rfl⟩
 .cases h
theorem kB(hτ:fG P τ)(Py:∀(j:Nat) o,ops[j]? =some o->∀d,o.dst=some d->d<n)(QB:∀(j:Nat) (o:Oper) cs b,ops[j]? =some o->o.op≠ .select cs b){Fd:KT}{Q0:Act->World->Prop}
  (hQ:∀l' H' Pr K F F' a' w3,Fd l' H' Pr K F->Sat n l' H' Pr K B F F' a' w3->Q0 a' w3):
  ∀(t:Tg) (fuel:Nat) (la:Array Bool) (l:Env) (H:Hp) (nx:Nat) (iv:Iv) (w:World) (O:Nat->Sx.eH) (a:Act) (J:World) (C8:List Gh) (F8:List Zh),LY la<=fuel->la.size=ops.size->jk ops t la=true->Cr P τ B ops.toList t C8 l H nx iv w Fd->Sat n l H nx iv B w O a J->
   (∀z∈F8,lP ops z.1.b la->z.1∈C8)->(∀z∈F8,Nb ops la a z)->IZ P ops F8 la J->qq P .any ops (QN Q0) (IZ P ops F8) fuel la a J
 | .nil,fuel,la,l,H,nx,iv,w,O,a,J,C8,F8,_,_,hc,h,s,hG,hZ,hI=>by
  simp only[jk,List.isEmpty_iff]at hc;exact yo hI hc ⟨rfl,hQ _ _ _ _ _ _ _ _ h s⟩ fuel
 | .x i t,fuel,la,l,H,nx,iv,w,O,a,J,C8,F8,hf,hz,hc,h,s,hG,hZ,hI=>by
  unfold jk at hc;obtain⟨o,ho,Y⟩:=ew h;rw[ah]at ho;simp only[ho,bF,Bool.or_eq_true]at hc;obtain⟨⟨c1,c2⟩,c3⟩:=hc;have c1:i∈Region.ready .any ops la:=by simpa using c1
  obtain⟨VW,-⟩:=eE.1 c1;have WS:=gH VW;obtain⟨f,rfl⟩:∃f,fuel=f+1:=⟨fuel-1,be⟩
  have Ro:(la.setIfInBounds i true).size=ops.size:=by rw[bO,hz]
  rcases c2 with c2|⟨⟨hP,Sj⟩,c4⟩
  .refine⟨hI,fun h0=>(by rw[h0]at c1;cases c1),fun j hj=>?_⟩;have Q1:j=i:=ee (cD.1 c2 j hj);subst Q1;exact Dx hτ ho (Py j o ho) c1 Y s hG hZ hI fun _ _ _ _ _ _ _ _ G' R hs UJ UK UL=>kB hτ Py QB hQ t f _ _ _ _ _ _ _ _ _ G' F8 be Ro c3 R hs UJ UK UL
  .have hR:mM o.op=true:=by
    unfold HU at hP;split at hP
    .cases hP
    .exact hP
   have hm:=tN la;have A:=lE (ops:=ops) (m:=iU la.toList 0) (i:=i) ops.toList 0 0 (fun n o U=>by rw[aS];rwa [ah]at U) (fun j hj=>by rw[pz]at hj;cases hj);generalize zm (iU la.toList 0) i ops.toList 0 0=b at*
   have VD:o.guard=none:=by simpa using Sj
   unfold fA tP at Y;rw[VD]at Y;obtain⟨v,hK,R1,Px⟩:=(im hτ Y s hR).resolve_right (fun hh=>by have:=hh.1;rw[nP hR]at this;cases this);obtain⟨l2,h3,sat2⟩:=eh s hK (Py i o ho) R1;rw[hR]at h3;have G:Region.wanted o (yielded ops a.tmps)=true:=by simp[Region.wanted,VD]
   refine nF (v:=v.den O) (b:=b) (C9:=fun _=>True) (X:=execOp a.eval o) ho hR QB (fun c a w hq=>absurd hq.1 ce) (fun j hj=>(A j hj).2.2) (fun w3 _=>Px w3 (.inl hP)) (fun lx w h z hz ha=>h z hz ((fp ho hR).2 ha))
    f la a J (fun j hj=>(hm j).symm.trans (A j hj).1) (fun j oj Ry Q1 hl R=>oE ops.toList 0 c4 j oj (by rw[ah];exact Ry) be (by
     have hj:=(bD.1 Ry).1
     rw[aS,hm,lD be false true];exact hl) (by rw[aS];exact R)) c1 ⟨G,rfl⟩ ?_
   refine j8 (fun lx w h=>⟨h,fun _=>trivial⟩) _ _ _ _ ?_;exact kB hτ Py QB hQ t f _ _ _ _ _ _ _ _ _ C8 F8 be Ro c3 h3 sat2 (fun z hz h=>hG z hz ((fp ho hR).1 h)) (fun z hz=>(hZ z hz).step ho (mL c1)) (fun z hz h=>hI z hz ((fp ho hR).1 h))
 | .two i t k u,fuel,la,l,H,nx,iv,w,O,a,J,C8,F8,hf,hz,hc,h,s,hG,hZ,hI=>by
  simp only[jk]at hc;split at hc
  .rename_i x y hr;simp only[bF]at hc;obtain⟨c1,c2,c3,c4⟩:=hc;have E:=bT c1;have hy:=bT c2;subst E;subst hy;obtain⟨Y,I⟩:=h;obtain⟨o1,TJ,Y⟩:=ew Y;obtain⟨o2,RB,I⟩:=ew I;rw[ah]at TJ RB;have Tf:x∈Region.ready .any ops la:=by rw[hr];simp
   have Th:y∈Region.ready .any ops la:=by rw[hr];simp
   have u1:=gH (eE.1 Tf).1;have u2:=gH (eE.1 Th).1;obtain⟨f,rfl⟩:∃f,fuel=f+1:=⟨fuel-1,be⟩
   refine⟨hI,fun h0=>(by rw[hr]at h0;cases h0),fun j hj=>?_⟩;rw[hr,List.mem_cons,aX]at hj;rcases hj with rfl|rfl
   .exact Dx hτ TJ (Py _ o1 TJ) Tf Y s hG hZ hI fun _ _ _ _ _ _ _ _ G' R hs UJ UK UL=>kB hτ Py QB hQ t f _ _ _ _ _ _ _ _ _ G' F8 be (by rw[bO,hz]) c3 R hs UJ UK UL
   .exact Dx hτ RB (Py _ o2 RB) Th I s hG hZ hI fun _ _ _ _ _ _ _ _ G' R hs UJ UK UL=>kB hτ Py QB hQ u f _ _ _ _ _ _ _ _ _ G' F8 be (by rw[bO,hz]) c4 R hs UJ UK UL
  .cases hc
 | .three i t k u m v,fuel,la,l,H,nx,iv,w,O,a,J,C8,F8,hf,hz,hc,h,s,hG,hZ,hI=>by
  simp only[jk]at hc;split at hc
  .rename_i x y z9 hr;simp only[bF]at hc;obtain⟨c1,c2,c6,c3,c4,c5⟩:=hc;have E:=bT c1;have hy:=bT c2;have hz9:=bT c6;subst E;subst hy;subst hz9;obtain⟨Y,I,h3⟩:=h;obtain⟨o1,TJ,Y⟩:=ew Y;obtain⟨o2,RB,I⟩:=ew I;obtain⟨o3,VJ,h3⟩:=ew h3;rw[ah]at TJ RB VJ;have Tf:x∈Region.ready .any ops la:=by rw[hr];simp
   have Th:y∈Region.ready .any ops la:=by rw[hr];simp
   have hm3:z9∈Region.ready .any ops la:=by rw[hr];simp
   have u1:=gH (eE.1 Tf).1;have u2:=gH (eE.1 Th).1;have u3:=gH (eE.1 hm3).1;obtain⟨f,rfl⟩:∃f,fuel=f+1:=⟨fuel-1,be⟩
   refine⟨hI,fun h0=>(by rw[hr]at h0;cases h0),fun j hj=>?_⟩;rw[hr,List.mem_cons,List.mem_cons,aX]at hj;rcases hj with rfl|rfl|rfl
   .exact Dx hτ TJ (Py _ o1 TJ) Tf Y s hG hZ hI fun _ _ _ _ _ _ _ _ G' R hs UJ UK UL=>kB hτ Py QB hQ t f _ _ _ _ _ _ _ _ _ G' F8 be (by rw[bO,hz]) c3 R hs UJ UK UL
   .exact Dx hτ RB (Py _ o2 RB) Th I s hG hZ hI fun _ _ _ _ _ _ _ _ G' R hs UJ UK UL=>kB hτ Py QB hQ u f _ _ _ _ _ _ _ _ _ G' F8 be (by rw[bO,hz]) c4 R hs UJ UK UL
   .exact Dx hτ VJ (Py _ o3 VJ) hm3 h3 s hG hZ hI fun _ _ _ _ _ _ _ _ G' R hs UJ UK UL=>kB hτ Py QB hQ v f _ _ _ _ _ _ _ _ _ G' F8 be (by rw[bO,hz]) c5 R hs UJ UK UL
  .cases hc
 | .ld i b t,fuel,la,l,H,nx,iv,w,O,a,J,C8,F8,hf,hz,hc,h,s,hG,hZ,hI=>by
  unfold jk at hc;obtain⟨o,ho,Y⟩:=ew h;rw[ah]at ho;simp only[ho]at hc
  cases Rt:Io o with
  |none=>rw[Rt]at hc;cases hc
  |some q=>
   obtain⟨d,T,u⟩:=q;rw[Rt]at hc Y;simp only[bF]at hc;obtain⟨⟨⟨⟨c1,c2⟩,c4⟩,c5⟩,c3⟩:=hc;obtain⟨e1,e2,e3⟩:=Dy Rt;have c1:i∈Region.ready .any ops la:=by simpa using c1
   obtain⟨VW,-⟩:=eE.1 c1;have WS:=gH VW;obtain⟨f,rfl⟩:∃f,fuel=f+1:=⟨fuel-1,be⟩
   have Ro:(la.setIfInBounds i true).size=ops.size:=by rw[bO,hz]
   have hR:mM o.op=true:=by rw[e2];rfl
   have hm:=tN la;have A:=lE (ops:=ops) (m:=iU la.toList 0) (i:=i) ops.toList 0 0 (fun n o U=>by rw[aS];rwa [ah]at U) (fun j hj=>by rw[pz]at hj;cases hj);rw[<-bT c2]at A
   cases Xg:fZ l u with
   |none=>simp only[Xg]at Y
   |some su=>
    simp only[Xg]at Y;obtain⟨v,hK,R1,Px⟩:=nU hτ s.rel (s.sc _ _ Xg) Y;have hau:=s.env _ _ Xg;have Wl:=Py i o ho d e1;have sat2:Sat n ((d,v)::l) H nx iv B w O (a.put o.dst (v.den O)) J:=by rw[e1];exact s.put Wl R1
    have G:Region.wanted o (yielded ops a.tmps)=true:=by simp[Region.wanted,e3]
    have TB:a.eval (.tmp u)=su.den O:=by rw[Act.eval,bG,hau];rfl
    have hui:tb (iU la.toList 0) i=false:=by rw[hm];exact mL c1
    have Ta:=vS ops.toList 0 c5;refine nF (v:=v.den O) (b:=b) (C9:=Yz P (⟨u,d,T,b⟩,su.den O,v.den O)) (X:=execOp a.eval o) ho hR QB (fun c a w hq=>absurd hq.1 ce) (fun j hj=>(A j hj).2.2) (fun w3 hY=>?_) (fun lx w h z hz ha=>h z hz ((fp ho hR).2 ha))
     f la a J (fun j hj=>(hm j).symm.trans (A j hj).1) (fun j oj Ry Q1 hl R=>oE ops.toList 0 c4 j oj (by rw[ah];exact Ry) be (by
      have hj:=(bD.1 Ry).1
      rw[aS,hm,lD be false true];exact hl) (by rw[aS];exact R)) c1 ⟨G,rfl⟩ ?_
    .unfold Yz at hY;obtain⟨dst,op,ty,pos,after,guard⟩:=o;simp only at e2;subst e2;simp only[execOp,TB]
     exact mX hY
    .refine j8 (E8:=IZ P ops ((⟨u,d,T,b⟩,su.den O,v.den O)::F8)) (fun lx w h=>⟨fun z hz=>h z (aD _ hz),h _ aF⟩) _ _ _ _ ?_;refine kB hτ Py QB hQ t f _ _ _ _ _ _ _ _ _ (⟨u,d,T,b⟩::C8) ((⟨u,d,T,b⟩,su.den O,v.den O)::F8) be Ro c3 hK sat2 (fun z hz h=>?_) (fun z hz=>?_) (fun z hz h=>?_)
     .rcases List.mem_cons.1 hz with rfl|hz
      .exact aF
      .exact aD _ (hG z hz ((fp ho hR).1 h))
     .rcases List.mem_cons.1 hz with rfl|hz
      .have h7:=(Ta i o (by rw[ah];exact ho) (by rw[aS];exact hui)).1;refine⟨qA h7 hau,?_,fun j oj Ry TM=>?_⟩
       .rw[e1];show(a.tmps.setIfInBounds d _)[d]? =_;rw[Array.getElem?_setIfInBounds_self_of_lt (by rw[s.size];exact Wl)]
       .have Q1:i≠j:=fun e=>by
         subst e;have N:=(bD.1 VW).1;rw[bG,Array.getElem?_setIfInBounds_self_of_lt N]at TM
         cases TM
        rw[Go.getD_set_ne false Q1]at TM;obtain⟨k1,k2⟩:=Ta j oj (by rw[ah];exact Ry) (by rw[aS,hm];exact TM);exact⟨k1,k2 be⟩
      .exact(hZ z hz).step ho (mL c1)
     .rcases List.mem_cons.1 hz with rfl|hz
      .exact Px J s.rel
      .exact hI z hz ((fp ho hR).1 h)
 | .qp id t,fuel,la,l,H,nx,iv,w,O,a,J,C8,F8,hf,hz,hc,h,s,hG,hZ,hI=>by
  obtain⟨H',b,RE,hd,hs,ho,h⟩:=h;obtain⟨U,l',hl,h⟩:=h _ _ s.rel;exact kB hτ Py QB hQ t fuel la l' H' nx _ J O a J C8 F8 hf hz hc h ⟨s.rel.free RE hd U hs ho,s.size,s.defers,fun u v hv=>by obtain⟨-,v',Y,I⟩:=hl u v hv;rw[<-I];exact s.env u v' Y,fun u v hv=>(hl u v hv).1⟩ hG hZ hI
theorem oa(hτ:fG P τ)(hm:P.follows .mixedOrders=true){Fd:KT}(t:Tg)(hs:Region.noSelect ops=true)(hc:jk ops t (Array.replicate ops.size false)=true)
  (h:Cr P τ B ops.toList t [] l H nx iv w Fd):mO P B ops l H nx iv w Fd:=by
 refine⟨fun n O a J Py sat Q hQ id=>?_⟩;refine wp_mono (Q':=Q) (c:=.region id ops true) (wp_region_any (Q:=QN (Q .normal)) hm (vR (E8:=IZ P ops []) _ _ _ _ ?_)) (fun e a w hq=>by obtain⟨rfl,hq⟩:=hq;exact hq);refine kB (Q0:=Q .normal) hτ (fun j o ho d hd=>?_) (Region.noSelect_spec hs) hQ t _ _ _ _ _ _ _ O _ _ [] [] ?_ ce hc h ⟨sat.rel.drew,sat.size,sat.defers,sat.env,sat.sc⟩ (fun z hz=>by cases hz) (fun z hz=>by cases hz) (fun z hz=>by cases hz)
 .have:=cD.1 Py o (aG (by rw[ah];exact ho));rw[hd]at this;have h5:d+1<=n:=by simpa [Nat.blt]using this
  exact h5
 .unfold LY;refine aR List.countP_le_length ?_;simp
end
structure Ow where
 v:Value
 e:TypeId
 sz:Nat
 n:Nat
 xs:List Value
def Ow.wri(it:Ow)(xs:List Value):Ow:=⟨it.v,it.e,it.sz,it.n,xs⟩
def Bv(vs:List Value)(g:Nat):Prop:=∃v∈vs,v.ownBlock=some g
structure kK(w:World)(S:Nat->Prop)(E8:List Ow):Prop where
 own:∀it∈E8,w.ownsRow 0 it.e it.sz it.v it.n it.xs
 apart:∀(i j:Nat) a b g,E8[i]? =some a->E8[j]? =some b->a.v.ownBlock=some g->b.v.ownBlock=some g->i=j
 off:∀g,Bv (E8.map Ow.v) g->¬S g
theorem eU{α:Type}{l:List α}{k:Nat}{x:α}(h:l[k]? =some x):k<l.length:=(aH.1 h).1
section
variable{w F:World}{S S':Nat->Prop}{E8:List Ow}{it:Ow}{k:Nat}{xs:List Value}
theorem kK.bk{g:Nat}(h:it∈E8)(V:it.v.ownBlock=some g):Bv (E8.map Ow.v) g:=⟨_,List.mem_map_of_mem h,V⟩
theorem kK.low(h:kK w S E8){g:Nat}(V:Bv (E8.map Ow.v) g):g<w.heap.size:=by
 obtain⟨v,hv,V⟩:=V;obtain⟨it,N,rfl⟩:=bE.1 hv;exact(ownsRow.low (h.own it N) g V).2
theorem kK.cX(h:kK w S E8)(R:∀g,Bv (E8.map Ow.v) g->F.heap[g]? =w.heap[g]?):kK F S E8:=
 ⟨fun it N=>ownsRow.cX (h.own it N) fun g V=>R g (kK.bk N V),h.apart,h.off⟩
theorem kK.HY(h:kK w S E8)(R:∀g,Bv (E8.map Ow.v) g->¬S' g):kK w S' E8:=⟨h.own,h.apart,R⟩
theorem ON(R:E8[k]? =some it):(E8.set k (it.wri xs)).map Ow.v=E8.map Ow.v:=by
 rw[List.map_set];apply bA;intro i;by_cases e:k=i
 .subst e;rw[aQ (by rw[aO];exact eU R),aU,R];rfl
 .rw[aZ e]
theorem JY(R:E8[k]? =some it){a:Ow}(N:(E8.set k (it.wri xs))[i]? =some a):∃a',E8[i]? =some a'/\a'.v=a.v:=by
 by_cases e:k=i
 .subst e;rw[aQ (eU R)]at N;injection N with N;subst N;exact⟨it,R,rfl⟩
 .rw[aZ e]at N;exact⟨a,N,rfl⟩
theorem kK.put(h:kK w S E8)(R:E8[k]? =some it)(V:w.grownBy F it.v.ownBlock)(ho:F.ownsRow 0 it.e it.sz it.v it.n xs):kK F S (E8.set k (it.wri xs)):=by
 refine⟨fun it2 Qv=>?_,fun i j a b g N hj ha A=>?_,fun g V=>h.off g (by rw[ON R]at V;exact V)⟩
 .obtain⟨i,N⟩:=az Qv;by_cases e:k=i
  .subst e;rw[aQ (eU R)]at N;injection N with N;subst N;exact ho
  .rw[aZ e]at N;have R8:=h.own it2 (aG N);exact ownsRow.cX R8 fun g RF=>V.block g (ownsRow.low R8 g RF).2 fun e2=>e (h.apart k i _ _ g R N e2.symm RF)
 .obtain⟨a',Y,I⟩:=JY R N;obtain⟨b',h3,h4⟩:=JY R hj;exact h.apart i j a' b' g Y h3 (by rw[I];exact ha) (by rw[h4];exact A)
end
theorem Mj{Bc e sz n off:Nat}{v:Value}{xs nv:List Value}(h:w.ownsRow Bc e sz v n xs)(hj:off+nv.length<=n*sz)(h0:0<nv.length):
  ∃g c,v= .slice (some ⟨g,0,none⟩) n c/\(∀k,k<nv.length->(w.cell? (Addr.add ⟨g,off,none⟩ k)).isSome=true/\w.frozen? (Addr.add ⟨g,off,none⟩ k)=false)/\
   (setCells w ⟨g,off,none⟩ nv).ownsRow Bc e sz v n (xs.take off++nv++xs.drop (off+nv.length))/\w.grownBy (setCells w ⟨g,off,none⟩ nv) (some g):=by
 rcases h.2 with⟨_,Ww⟩|⟨g,cap,cur,Sh,A,V,VI,SF,Q4,VX⟩
 .subst Ww;omega
 have hns:n*sz<=cap*sz:=Nat.mul_le_mul_right sz VI;obtain⟨f1,f2,f3,f4⟩:=qD nv w g off;have RA:=nR nv w g off cur e V be;refine⟨g,cap,Sh,fun k R=>?_,?_,?_⟩
 .rw[dF];refine⟨?_,?_⟩
  .rw[cell_of (g:=g) (cs:=cur.toList) (by simpa using V),aE (by simp;omega)];rfl
  .simp[World.frozen?,V]
 .rw[jW];refine⟨?_,.inr ⟨g,cap,_,Sh,A,RA,VI,SF,?_,?_⟩⟩
  .simp only[aV,bN,List.length_drop,h.1];omega
  .simp only[List.size_toArray,aV,bN,List.length_drop,Array.length_toList];omega
  .subst VX;have Qg:cur.toList.length=cur.size:=by simp
   have ha:List.drop (off+nv.length) (List.take (n*sz) cur.toList)=(List.drop (off+nv.length) cur.toList).take (n*sz-(off+nv.length)):=by rw[List.drop_take]
   rw[ha,List.take_take,Nat.min_eq_left be];show List.take (n*sz) (_++nv++_)=_;rw[List.take_append,bX (by simp;omega)];congr 2;simp only[aV,bN]
   omega
 .rw[jW];exact⟨f1,f2,f3,by rw[f4];exact lr,fun k R Po=>nS nv w g _ (fun e=>Po (by rw[e]))⟩
end Go.Ex
namespace Go.Sx
open Go Go.Ex Go.Proofs
variable{X:Nat->Prop}{O:Nat->Sx.eH}
theorem Rel.gJ{H:Hp}{nx:Nat}{iv:Iv}{B:Nat}{w J F:World}(r:Rel H nx iv B w O J)(Po:∀g,X g->∀id b,dV H id=some b->(O id).nil=false->(O id).g≠g)(h:Kept J F X):Rel H nx ((J.heap.size,F.heap.size)::iv) B F O F:=
 r.Cz h.size (fun id b A U=>h.block _ (r.low id b A U).2 fun E=>Po _ E id b A U rfl) fun lo N hm=>by
  rcases List.mem_cons.1 hm with e|hm
  .injection e with e1 e2;subst e1 e2;exact⟨lr,fun id b A U=>by have:=(r.low id b A U).2;omega⟩
  .exact⟨by have:=r.oc lo N hm;have:=r.size;have:=h.size;omega,fun id b A U=>r.jU lo N hm id b A U⟩
end Go.Sx
namespace Go.Ex
open Go Go.Sx Go.Proofs
section
variable{Z:List (List Value)}{l:List Nat}{q:List Rat}{tp':List Value}{i:Nat}
structure Tx where
 g:Nat
 vb:Value
 vf:Value
 va:Value
 vB:Value
 vc:Value
 rv:List Value
abbrev Tx.bx(x:Tx):Value:=.slice (some ⟨x.g,0,none⟩) 9 9
def Tx.dB(x:Tx):List Value:=x.bx::x.vb::x.vf::x.va::x.vB::x.vc::x.rv
def ints(l:List Nat):List Value:=l.map fun(n:Nat)=>iV (n:Int)
def gK(v:Value)(Z:List (List Value)):Ow:=⟨v,T.dO,4,Z.length,Z.flatten⟩
def iL(x:Tx)(t:Tb)(tp:List Value)(cb cc:List (List Value))(ca:List (List (List Value))):List Ow:=
 ⟨x.bx,T.table,1,9,x.vb::x.vf::x.va::x.vB::x.vc::tp⟩::⟨x.vb,T.int,1,t.bs.length,ints t.bs⟩::⟨x.vf,T.int,1,t.fs.length,ints t.fs⟩::⟨x.va,T.row,1,x.rv.length,x.rv⟩::gK x.vB cb::gK x.vc cc::List.zipWith gK x.rv ca
structure fw(w:World)(S:Nat->Prop)(x:Tx)(t:Tb)(tp:List Value)(cb cc:List (List Value))(ca:List (List (List Value))):Prop where
 ows:kK w S (iL x t tp cb cc ca)
 ft:jx w S tp t.top
 fb:Fr w S cb t.b
 fc:Fr w S cc t.c
 fl:ca.length=t.a.length
 fa:∀(i:Nat) Z q,ca[i]? =some Z->t.a[i]? =some q->Fr w S Z q
 rl:x.rv.length=t.a.length
def fQ(w:World)(S:Nat->Prop)(x:Tx)(t:Tb):Prop:=∃tp cb cc ca,fw w S x t tp cb cc ca
section
variable{w F:World}{S S':Nat->Prop}{x:Tx}{t:Tb}{tp:List Value}{cb cc:List (List Value)}{ca:List (List (List Value))}
theorem j4:∀{rv:List Value} {ca:List (List (List Value))},rv.length=ca.length->(List.zipWith gK rv ca).map Ow.v=rv
 |[],[],_=>rfl
 |v::rv,c::ca,h=>by
  rw[List.zipWith_cons_cons,List.map_cons,j4 (by simpa using h)];rfl
 |[],_::_,h=>by simp at h
 |_::_,[],h=>by simp at h
theorem fw.dB(h:fw w S x t tp cb cc ca):(iL x t tp cb cc ca).map Ow.v=x.dB:=by
 show _::_::_::_::_::_::(List.zipWith gK x.rv ca).map Ow.v=_;rw[j4 (by rw[h.rl,h.fl])];rfl
theorem fw.cX(h:fw w S x t tp cb cc ca)(R:∀g,S g\/Bv x.dB g->F.heap[g]? =w.heap[g]?):fw F S x t tp cb cc ca:=
 ⟨h.ows.cX fun g V=>R g (.inr (by rw[h.dB]at V;exact V)),h.ft.cX fun g V=>R g (.inl V),h.fb.cX fun g V=>R g (.inl V),h.fc.cX fun g V=>R g (.inl V),h.fl,fun i Z q Y I=>(h.fa i Z q Y I).cX fun g V=>R g (.inl V),h.rl⟩
theorem fw.cV(h:fw w S x t tp cb cc ca)(R:∀g,S g->S' g)(U:∀g,Bv x.dB g->¬S' g):fw w S' x t tp cb cc ca:=
 ⟨h.ows.HY fun g V=>U g (by rw[h.dB]at V;exact V),h.ft.cV R,h.fb.cV R,h.fc.cV R,h.fl,fun i Z q Y I=>(h.fa i Z q Y I).cV R,h.rl⟩
theorem fQ.cX(h:fQ w S x t)(R:∀g,S g\/Bv x.dB g->F.heap[g]? =w.heap[g]?):fQ F S x t:=by
 obtain⟨tp,cb,cc,ca,h⟩:=h;exact⟨tp,cb,cc,ca,h.cX R⟩
theorem fQ.cV(h:fQ w S x t)(R:∀g,S g->S' g)(U:∀g,Bv x.dB g->¬S' g):fQ w S' x t:=by
 obtain⟨tp,cb,cc,ca,h⟩:=h;exact⟨tp,cb,cc,ca,h.cV R U⟩
theorem fQ.low(h:fQ w S x t){g:Nat}(V:Bv x.dB g):g<w.heap.size:=by
 obtain⟨tp,cb,cc,ca,h⟩:=h;exact h.ows.low (by rw[h.dB];exact V)
theorem fQ.off(h:fQ w S x t){g:Nat}(V:Bv x.dB g):¬S g:=by
 obtain⟨tp,cb,cc,ca,h⟩:=h;exact h.ows.off g (by rw[h.dB];exact V)
theorem fw.rowAt(h:fw w S x t tp cb cc ca){v:Value}(hv:x.rv[i]? =some v)(hc:ca[i]? =some Z):(iL x t tp cb cc ca)[i+6]? =some (gK v Z):=by
 show(List.zipWith gK x.rv ca)[i]? =_;rw[List.getElem?_zipWith,hv,hc]
theorem fw.aBY(h:fw w S x t tp cb cc ca){q:Rat}(V:w.grownBy F x.bx.ownBlock)(ho:F.ownsRow 0 T.table 1 x.bx 9 (x.vb::x.vf::x.va::x.vB::x.vc::tp'))(hf:jx w S tp' q)(R:∀g,S g->F.heap[g]? =w.heap[g]?):
  fw F S x {t with top:=q} tp' cb cc ca:=
 ⟨h.ows.put (k:=0) rfl V ho,hf.cX R,h.fb.cX R,h.fc.cX R,h.fl,fun i Z q Y I=>(h.fa i Z q Y I).cX R,h.rl⟩
theorem fw.aBZ(h:fw w S x t tp cb cc ca)(hl:l.length=t.bs.length)(V:w.grownBy F x.vb.ownBlock)(ho:F.ownsRow 0 T.int 1 x.vb t.bs.length (ints l))(R:∀g,S g->F.heap[g]? =w.heap[g]?):
  fw F S x {t with bs:=l} tp cb cc ca:=by
 have:=h.ows.put (k:=1) rfl V ho;refine⟨?_,h.ft.cX R,h.fb.cX R,h.fc.cX R,h.fl,fun i Z q Y I=>(h.fa i Z q Y I).cX R,h.rl⟩;show kK F S (_::⟨x.vb,T.int,1,l.length,ints l⟩::_);rw[hl];exact this
theorem fw.aB0(h:fw w S x t tp cb cc ca)(hl:l.length=t.fs.length)(V:w.grownBy F x.vf.ownBlock)(ho:F.ownsRow 0 T.int 1 x.vf t.fs.length (ints l))(R:∀g,S g->F.heap[g]? =w.heap[g]?):
  fw F S x {t with fs:=l} tp cb cc ca:=by
 have:=h.ows.put (k:=2) rfl V ho;refine⟨?_,h.ft.cX R,h.fb.cX R,h.fc.cX R,h.fl,fun i Z q Y I=>(h.fa i Z q Y I).cX R,h.rl⟩;show kK F S (_::_::⟨x.vf,T.int,1,l.length,ints l⟩::_);rw[hl];exact this
theorem fw.b'(h:fw w S x t tp cb cc ca)(hl:Z.length=cb.length)(V:w.grownBy F x.vB.ownBlock)(ho:F.ownsRow 0 T.dO 4 x.vB cb.length Z.flatten)(hf:Fr F S' Z q)(R:∀g,S g->F.heap[g]? =w.heap[g]?)(hs:∀g,S g->S' g)(U:∀g,Bv x.dB g->¬S' g):
  fw F S' x {t with b:=q} tp Z cc ca:=by
 have I:=h.ows.put (k:=4) rfl V ho;refine⟨?_,(h.ft.cX R).cV hs,hf,(h.fc.cX R).cV hs,h.fl,fun i Z q Y I=>((h.fa i Z q Y I).cX R).cV hs,h.rl⟩;have h3:kK F S (iL x {t with b:=q} tp Z cc ca):=by
  show kK F S (_::_::_::_::⟨x.vB,T.dO,4,Z.length,Z.flatten⟩::_);rw[hl];exact I
 exact h3.HY fun g V=>U g (by rw[<-h.dB];exact V)
theorem fw.c'(h:fw w S x t tp cb cc ca)(hl:Z.length=cc.length)(V:w.grownBy F x.vc.ownBlock)(ho:F.ownsRow 0 T.dO 4 x.vc cc.length Z.flatten)(hf:Fr F S' Z q)(R:∀g,S g->F.heap[g]? =w.heap[g]?)(hs:∀g,S g->S' g)(U:∀g,Bv x.dB g->¬S' g):
  fw F S' x {t with c:=q} tp cb Z ca:=by
 have I:=h.ows.put (k:=5) rfl V ho;refine⟨?_,(h.ft.cX R).cV hs,(h.fb.cX R).cV hs,hf,h.fl,fun i Z q Y I=>((h.fa i Z q Y I).cX R).cV hs,h.rl⟩;have h3:kK F S (iL x {t with c:=q} tp cb Z ca):=by
  show kK F S (_::_::_::_::_::⟨x.vc,T.dO,4,Z.length,Z.flatten⟩::_);rw[hl];exact I
 exact h3.HY fun g V=>U g (by rw[<-h.dB];exact V)
theorem fw.a'(h:fw w S x t tp cb cc ca){v:Value}{css':List (List Value)}(hv:x.rv[i]? =some v)(hc:ca[i]? =some Z)(hl:css'.length=Z.length)(V:w.grownBy F v.ownBlock)(ho:F.ownsRow 0 T.dO 4 v Z.length css'.flatten)(hf:Fr F S' css' q)(R:∀g,S g->F.heap[g]? =w.heap[g]?)(hs:∀g,S g->S' g)(U:∀g,Bv x.dB g->¬S' g):
  fw F S' x {t with a:=t.a.set i q} tp cb cc (ca.set i css'):=by
 have I:=h.ows.put (h.rowAt hv hc) V ho;have h3:kK F S (iL x {t with a:=t.a.set i q} tp cb cc (ca.set i css')):=by
  have e:(iL x t tp cb cc ca).set (i+6) ((gK v Z).wri css'.flatten)=iL x {t with a:=t.a.set i q} tp cb cc (ca.set i css'):=by
   show _::_::_::_::_::_::(List.zipWith gK x.rv ca).set i _=_::_::_::_::_::_::List.zipWith gK x.rv (ca.set i css');congr 6;apply bA;intro j;by_cases e:i=j
   .subst e;rw[aQ (by rw[List.length_zipWith];have:=eU hv;have:=eU hc;omega),List.getElem?_zipWith,hv,aQ (eU hc)];show some (Ow.mk _ _ _ Z.length _)=some (Ow.mk _ _ _ css'.length _);rw[hl];rfl
   .rw[aZ e,List.getElem?_zipWith,List.getElem?_zipWith,aZ e]
  rw[<-e];exact I
 have h4:=h3.HY (S':=S') fun g V=>U g (by
  have:=h.dB;rw[<-this];have e2:(iL x {t with a:=t.a.set i q} tp cb cc (ca.set i css')).map Ow.v=(iL x t tp cb cc ca).map Ow.v:=by
   rw[this];show _::_::_::_::_::_::(List.zipWith gK x.rv (ca.set i css')).map Ow.v=_;rw[j4 (by rw[bW,h.rl,h.fl])];rfl
  rw[<-e2];exact V)
 refine⟨h4,(h.ft.cX R).cV hs,(h.fb.cX R).cV hs,(h.fc.cX R).cV hs,by simp[h.fl],fun j Wx q2 h5 h6=>?_,by simp[h.rl]⟩;by_cases e:i=j
 .subst e;rw[aQ (eU hc)]at h5;rw[aQ (by rw[<-h.fl];exact eU hc)]at h6;injection h5 with h5;injection h6 with h6;subst h5 h6;exact hf
 .rw[aZ e]at h5 h6;exact((h.fa j Wx q2 h5 h6).cX R).cV hs
end
end
variable{ca:List (List (List Value))}{cb cc Z:List (List Value)}{l:List Nat}{qs:List Rat}{nv tp:List Value}{i j k m:Nat}{S:Nat->Prop}{O:Nat->Sx.eH}{t':Tb}{w:World}
def Lv(S:Nat->Prop)(B:Nat)(iv:Iv)(x:Tx)(g:Nat):Prop:=Cv S B iv g/\¬Bv x.dB g
structure dJ(w:World)(S:Nat->Prop)(B:Nat)(iv:Iv)(x:Tx)(t:Tb):Prop where
 jK:fQ w (Lv S B iv x) x t
 kz:∀g,Bv x.dB g->Out B iv g
theorem kK.st{H:Hp}{nx:Nat}{iv:Iv}{B:Nat}{J:World}{E8:List Ow}{it:Ow}{off:Nat}{ad:Addr}(h:kK w S E8)(r:Rel H nx iv B w O J)(hO:∀g,Bv (E8.map Ow.v) g->Out B iv g)(W:∀g,S g->J.heap[g]? =w.heap[g]?)
  (R:E8[k]? =some it) (Rx:off+nv.length<=it.n*it.sz) (h0:0<nv.length) (QV:∀g c,it.v= .slice (some ⟨g,0,none⟩) it.n c->ad=⟨g,off,none⟩):
  ad.spot=none/\(∀k,k<nv.length->(J.cell? (ad.add k)).isSome=true/\J.frozen? (ad.add k)=false)/\(∀id b,dV H id=some b->(O id).nil=false->(O id).g≠ad.block)/\
  ∀w4,w4=setCells J ad nv->J.grownBy w4 it.v.ownBlock/\w4.ownsRow 0 it.e it.sz it.v it.n (it.xs.take off++nv++it.xs.drop (off+nv.length))/\(∀g,S g->g<w.heap.size->w4.heap[g]? =J.heap[g]?):=by
 have hm:=aG R;have ho:=ownsRow.cX (h.own it hm) fun g V=>rls r (fun _ h=>h) (hO g (kK.bk hm V));obtain⟨g,c,e,Y,I,h3⟩:=Mj (off:=off) (nv:=nv) ho Rx h0;have V:Bv (E8.map Ow.v) g:=kK.bk hm (by rw[e];rfl);rw[QV g c e];refine⟨rfl,Y,Rel.not r (fun _ h=>h) (hO g V),fun w4 QG=>?_⟩;rw[QG];refine⟨by rw[e];exact h3,I,fun g2 RF QZ=>h3.block g2 (by have:=r.size;omega) fun e2=>?_⟩;injection e2 with e2;subst e2;exact h.off _ V RF
theorem kK.ld{E8:List Ow}{it:Ow}{u:Value}(h:kK w S E8)(hm:it∈E8)(E:it.xs[k]? =some u):∃g c,it.v= .slice (some ⟨g,0,none⟩) it.n c/\w.cell? ⟨g,k,none⟩=some u:=by
 have ho:=h.own it hm;rcases ho.2 with⟨_,h0⟩|⟨g,cap,cur,hv,_⟩
 .have Y:=ho.1;have:=eU E;rw[h0]at Y;omega
 .refine⟨g,cap,hv,?_⟩;have:=ho.cells (g:=g) (by rw[hv];rfl) k u E;rw[dF,aS]at this;exact this
section
variable{S S':Nat->Prop}{H:Hp}{nx:Nat}{iv K:Iv}{B:Nat}{w J F:World}{O:Nat->Sx.eH}{x:Tx}{t:Tb}{v:Value}{q:Rat}
theorem Lv.mono{g:Nat}(h:Lv S B iv x g)(hm:∀p,p∈iv->p∈K):Lv S B K x g:=⟨h.1.mono hm,h.2⟩
theorem Lv.old(r:Rel H nx iv B w O J)(W:∀g,S g->g<B):Old (Lv S B iv x) J:=fun g h=>rlo r W g h.1
theorem Lv.same(r:Rel H nx iv B w O J)(W:∀g,S g->g<B):∀g,Lv S B iv x g->J.heap[g]? =w.heap[g]? :=fun _ h=>rls r W h.1
theorem dJ.arg(h:fQ w S x t):dJ w S w.heap.size [] x t:=
 ⟨h.cV (fun g V=>⟨.inl V,fun A=>h.off A V⟩) fun g A V=>V.2 A,fun g V=>.inl (h.low V)⟩
theorem dJ.cX(h:dJ w S B iv x t)(R:∀g,Lv S B iv x g\/Bv x.dB g->F.heap[g]? =w.heap[g]?):dJ F S B iv x t:=⟨h.jK.cX R,h.kz⟩
theorem dJ.mono(h:dJ w S B iv x t)(hm:∀p,p∈iv->p∈K):dJ w S B K x t:=
 ⟨h.jK.cV (fun _ V=>V.mono hm) fun g A V=>V.2 A,fun g V=>(h.kz g V).mono hm⟩
theorem dJ.same(h:dJ w S B iv x t)(r:Rel H nx iv B w O J)(W:∀g,S g->g<B):∀g,Lv S B iv x g\/Bv x.dB g->J.heap[g]? =w.heap[g]? :=fun g V=>
 V.elim (fun V=>rls r W V.1) fun V=>rls r (fun _ h=>h) (h.kz g V)
theorem dJ.rel(h:dJ w S B iv x t)(r:Rel H nx iv B w O J)(W:∀g,S g->g<B):dJ J S B iv x t:=h.cX (h.same r W)
theorem dJ.low(h:dJ w S B iv x t)(r:Rel H nx iv B w O J){g:Nat}(V:Bv x.dB g):g<J.heap.size:=rlo r (fun _ h=>h) g (h.kz g V)
theorem dJ.cS(h:dJ w S B iv x t)(r:Rel H nx iv B w O J)(W:∀g,S g->g<B)(L:Ext J F)(hm:∀p,p∈iv->p∈K):dJ F S B K x t:=
 ((h.rel r W).cX fun g V=>L.block g (V.elim (fun V=>rlo r W g V.1) fun V=>h.low r V)).mono hm
theorem cz.iC(h:cz w (Lv S B iv x) v q)(r:Rel H nx iv B w O J)(W:∀g,S g->g<B):cz J (Lv S B iv x) v q:=h.cX (Lv.same r W)
theorem cz.jy(h:cz w (Lv S B iv x) v q)(r:Rel H nx iv B w O J)(W:∀g,S g->g<B)(L:Ext J F)(hm:∀p,p∈iv->p∈K):cz F (Lv S B K x) v q:=
 ((h.iC r W).cX fun g V=>L.block g (Lv.old r W g V)).cV fun _ V=>V.mono hm
theorem dJ.new(h:dJ w S B iv x t)(r:Rel H nx iv B w O J){g:Nat}(Y:J.heap.size<=g)(I:g<F.heap.size):Lv S B ((J.heap.size,F.heap.size)::iv) x g:=
 ⟨.inr ⟨by have:=r.cZ;omega,_,_,aF,Y,I⟩,fun A=>by have:=h.low r A;omega⟩
theorem cz.vL(h:cz F (Nf J F) v q)(hT:dJ w S B iv x t)(r:Rel H nx iv B w O J):cz F (Lv S B ((J.heap.size,F.heap.size)::iv) x) v q:=
 h.cV fun g V=>V.elim (fun h=>h.elim) fun V=>hT.new r V.1 V.2
theorem cz.aAG(h:cz F (Nw (Lv S B iv x) J F) v q)(hT:dJ w S B iv x t)(r:Rel H nx iv B w O J):cz F (Lv S B ((J.heap.size,F.heap.size)::iv) x) v q:=
 h.cV fun g V=>V.elim (fun V=>V.mono fun _ hp=>aD _ hp) fun V=>hT.new r V.1 V.2
theorem Lv.nw{w0:World}{g:Nat}(h:Lv S w0.heap.size iv x g)(r:Rel H nx iv w0.heap.size w O J):Nw S w0 J g:=Cv.nw h.1 r
theorem dJ.ep(h:dJ w S B iv x t)(r:Rel H nx iv B w O J)(I:fQ F (Nw (Lv S B iv x) J F) x t'):dJ F S B ((J.heap.size,F.heap.size)::iv) x t':=
 ⟨I.cV (fun g V=>V.elim (fun V=>V.mono fun _ hp=>aD _ hp) fun V=>h.new r V.1 V.2) fun g A V=>V.2 A,fun g V=>(h.kz g V).mono fun _ hp=>aD _ hp⟩
theorem dJ.not(h:dJ w S B iv x t)(r:Rel H nx iv B w O J):∀g,Bv x.dB g->∀id b,dV H id=some b->(O id).nil=false->(O id).g≠g:=fun g V=>Rel.not r (fun _ h=>h) (h.kz g V)
theorem cz.JZ(h:cz w (Lv S B iv x) v q)(r:Rel H nx iv B w O J)(W:∀g,S g->g<B)(R:Kept J F (Bv x.dB)):cz F (Lv S B ((J.heap.size,F.heap.size)::iv) x) v q:=
 ((h.iC r W).cX fun g V=>R.block g (Lv.old r W g V) V.2).cV fun _ V=>V.mono fun _ hp=>aD _ hp
end
section
variable{S:Nat->Prop}{H:Hp}{nx:Nat}{iv:Iv}{B:Nat}{w J:World}{O:Nat->Sx.eH}{x:Tx}{t:Tb}{q:Rat}{nv:List Value}{ad:Addr}
def aAs(w J w4:World)(S:Nat->Prop)(B:Nat)(iv:Iv)(x:Tx)(t:Tb):Prop:=dJ w4 S B iv x t/\Kept J w4 (Bv x.dB)/\∀g,Lv S B iv x g->w4.heap[g]? =w.heap[g]?
def ss(H:Hp)(O:Nat->Sx.eH)(w J:World)(ad:Addr)(nv:List Value)(S:Nat->Prop)(B:Nat)(iv:Iv)(x:Tx)(t:Tb):Prop:=
 ad.spot=none/\(∀k,k<nv.length->(J.cell? (ad.add k)).isSome=true/\J.frozen? (ad.add k)=false)/\(∀id b,dV H id=some b->(O id).nil=false->(O id).g≠ad.block)/\∀w4,w4=setCells J ad nv->aAs w J w4 S B iv x t
theorem ss.of{E8:List Ow}{it:Ow}{off:Nat}(W:∀g,S g->g<B)(r:Rel H nx iv B w O J)(hT:dJ w S B iv x t)(hC:fw w (Lv S B iv x) x t tp cb cc ca)(hI:E8=iL x t tp cb cc ca)(R:E8[k]? =some it)(Rx:off+nv.length<=it.n*it.sz)(h0:0<nv.length)
  (QV:∀g c,it.v= .slice (some ⟨g,0,none⟩) it.n c->ad=⟨g,off,none⟩)
  (hN:∀w4,fw J (Lv S B iv x) x t tp cb cc ca->J.grownBy w4 it.v.ownBlock->w4.ownsRow 0 it.e it.sz it.v it.n (it.xs.take off++nv++it.xs.drop (off+nv.length))->(∀g,Lv S B iv x g->w4.heap[g]? =J.heap[g]?)->fQ w4 (Lv S B iv x) x t'):
  ss H O w J ad nv S B iv x t':=by
 subst hI;obtain⟨Y,I,h3,h4⟩:=hC.ows.st r (fun g V=>hT.kz g (by rw[<-hC.dB];exact V)) (Lv.same r W) R Rx h0 QV;refine⟨Y,I,h3,fun w4 QG=>?_⟩;obtain⟨h5,h6,h7⟩:=h4 w4 QG;have Pq:∀g,Lv S B iv x g->g<w.heap.size:=fun g V=>by
  rcases V.1 with h|⟨_,lo,N,k1,k2,k3⟩
  .have:=W g h;have:=r.base;omega
  .have:=r.oc lo N k1;omega
 have hL:∀g,Lv S B iv x g->w4.heap[g]? =J.heap[g]? :=fun g V=>h7 g V (Pq g V);refine⟨⟨hN w4 (hC.cX (hT.same r W)) h5 h6 hL,hT.kz⟩,⟨h5.os,h5.tape,h5.output,h5.size,fun k R E=>h5.block k R fun e=>E ?_⟩,fun g V=>(hL g V).trans (Lv.same r W g V)⟩;rw[<-hC.dB];exact kK.bk (aG (by assumption)) e.symm
theorem Gg(h:i<l.length):(ints l)[i]? =some (iV ((l.getD i 0:Nat):Int)):=by
 unfold ints;rw[aU,aE h,List.getD,aE h];rfl
theorem ints_set{n:Nat}(h:i<l.length):(ints l).take i++[iV (n:Int)]++(ints l).drop (i+1)=ints (l.set i n):=by
 unfold ints;rw[List.map_set,List.set_eq_take_append_cons_drop,aM (by rw[aO];exact h)];simp
theorem dJ.aB1(hT:dJ w S B iv x t)(W:∀g,S g->g<B)(r:Rel H nx iv B w O J){n c:Nat}{g:Nat}(N:i<t.bs.length)(hv:x.vb= .slice (some ⟨g,0,none⟩) m c)(QV:ad=⟨g,i*1,none⟩):
  ss H O w J ad [iV (n:Int)] S B iv x {t with bs:=t.bs.set i n}:=by
 obtain⟨tp,cb,cc,ca,hC⟩:=hT.jK;refine .of (k:=1) (off:=i) W r hT hC rfl rfl (by show i+1<=t.bs.length*1;omega) ce (fun g2 c2 e=>?_) fun w4 k1 k2 k3 k4=>⟨tp,cb,cc,ca,k1.aBZ ce k2 ?_ k4⟩
 .rw[show x.vb=_ from e]at hv;injection hv with hv;injection hv with hv;injection hv with hv;rw[QV,hv,av]
 .rw[<-ints_set N];exact k3
theorem dJ.aB2(hT:dJ w S B iv x t)(W:∀g,S g->g<B)(r:Rel H nx iv B w O J){n c:Nat}{g:Nat}(N:i<t.fs.length)(hv:x.vf= .slice (some ⟨g,0,none⟩) m c)(QV:ad=⟨g,i*1,none⟩):
  ss H O w J ad [iV (n:Int)] S B iv x {t with fs:=t.fs.set i n}:=by
 obtain⟨tp,cb,cc,ca,hC⟩:=hT.jK;refine .of (k:=2) (off:=i) W r hT hC rfl rfl (by show i+1<=t.fs.length*1;omega) ce (fun g2 c2 e=>?_) fun w4 k1 k2 k3 k4=>⟨tp,cb,cc,ca,k1.aB0 ce k2 ?_ k4⟩
 .rw[show x.vf=_ from e]at hv;injection hv with hv;injection hv with hv;injection hv with hv;rw[QV,hv,av]
 .rw[<-ints_set N];exact k3
theorem Fr.aAH{S:Nat->Prop}{w:World}(h:Fr w S Z qs)(hj:j<qs.length)(U:nv.length=4):Z.flatten.take (j*4)++nv++Z.flatten.drop (j*4+nv.length)=(Z.set j nv).flatten:=by
 rw[U];exact kq h.oy (by rw[h.1];exact hj)
theorem dJ.stB(hT:dJ w S B iv x t)(W:∀g,S g->g<B)(r:Rel H nx iv B w O J){c g:Nat}(hj:j<t.b.length)(hv:x.vB= .slice (some ⟨g,0,none⟩) m c)(TU:jx w (Lv S B iv x) nv q)(QV:ad=⟨g,j*4,none⟩):
  ss H O w J ad nv S B iv x {t with b:=t.b.set j q}:=by
 obtain⟨tp,cb,cc,ca,hC⟩:=hT.jK;have hn4:=TU.len;have VS:=hC.fb.1;refine .of (k:=4) (off:=j*4) W r hT hC rfl rfl (by show j*4+nv.length<=cb.length*4;omega) be (fun g2 c2 e=>?_) fun w4 k1 k2 k3 k4=>⟨tp,cb.set j nv,cc,ca,k1.b' ce k2 ?_ ((k1.fb.cX k4).set ((TU.cX (Lv.same r W)).cX k4)) k4 (fun _ h=>h) fun g A V=>V.2 A⟩
 .rw[show x.vB=_ from e]at hv;injection hv with hv;injection hv with hv;injection hv with hv;rw[QV,hv]
 .rw[<-hC.fb.aAH hj hn4];exact k3
theorem dJ.stC(hT:dJ w S B iv x t)(W:∀g,S g->g<B)(r:Rel H nx iv B w O J){c g:Nat}(hj:j<t.c.length)(hv:x.vc= .slice (some ⟨g,0,none⟩) m c)(TU:jx w (Lv S B iv x) nv q)(QV:ad=⟨g,j*4,none⟩):
  ss H O w J ad nv S B iv x {t with c:=t.c.set j q}:=by
 obtain⟨tp,cb,cc,ca,hC⟩:=hT.jK;have hn4:=TU.len;have VS:=hC.fc.1;refine .of (k:=5) (off:=j*4) W r hT hC rfl rfl (by show j*4+nv.length<=cc.length*4;omega) be (fun g2 c2 e=>?_) fun w4 k1 k2 k3 k4=>⟨tp,cb,cc.set j nv,ca,k1.c' ce k2 ?_ ((k1.fc.cX k4).set ((TU.cX (Lv.same r W)).cX k4)) k4 (fun _ h=>h) fun g A V=>V.2 A⟩
 .rw[show x.vc=_ from e]at hv;injection hv with hv;injection hv with hv;injection hv with hv;rw[QV,hv]
 .rw[<-hC.fc.aAH hj hn4];exact k3
theorem fw.row{w:World}{S:Nat->Prop}(hC:fw w S x t tp cb cc ca)(N:i<t.a.length):
  ∃v Z,x.rv[i]? =some v/\ca[i]? =some Z/\Fr w S Z (t.a.getD i [])/\t.a[i]? =some (t.a.getD i []):=by
 have Y:t.a[i]? =some (t.a.getD i []):=by rw[List.getD,aE N];rfl
 have I:ca[i]? =some (ca[i]'(by rw[hC.fl];exact N)):=aE _;exact⟨x.rv[i]'(by rw[hC.rl];exact N),_,aE _,I,hC.fa i _ _ I Y,Y⟩
theorem dJ.stA(hT:dJ w S B iv x t)(W:∀g,S g->g<B)(r:Rel H nx iv B w O J){c g:Nat}(N:i<t.a.length)(hj:j<(t.a.getD i []).length)(hv:x.rv[i]? =some (.slice (some ⟨g,0,none⟩) m c))(TU:jx w (Lv S B iv x) nv q)(QV:ad=⟨g,j*4,none⟩):
  ss H O w J ad nv S B iv x {t with a:=t.a.set i ((t.a.getD i []).set j q)}:=by
 obtain⟨tp,cb,cc,ca,hC⟩:=hT.jK;have hn4:=TU.len;obtain⟨v,Z,Y,I,h3,h4⟩:=hC.row N;rw[Y]at hv;injection hv with hv;have hl:=h3.1;refine .of (k:=i+6) (off:=j*4) W r hT hC rfl (hC.rowAt Y I) (by show j*4+nv.length<=Z.length*4;omega) be (fun g2 c2 e=>?_) fun w4 k1 k2 k3 k4=>⟨tp,cb,cc,ca.set i (Z.set j nv),k1.a' Y I ce k2 ?_ (((h3.cX (Lv.same r W)).cX k4).set ((TU.cX (Lv.same r W)).cX k4)) k4 (fun _ h=>h) fun g A V=>V.2 A⟩
 .rw[show v=_ from e]at hv;injection hv with hv;injection hv with hv;injection hv with hv;rw[QV,hv]
 .rw[<-h3.aAH hj hn4];exact k3
theorem dJ.stT(hT:dJ w S B iv x t)(W:∀g,S g->g<B)(r:Rel H nx iv B w O J)(TU:jx w (Lv S B iv x) nv q)(QV:ad=⟨x.g,5,none⟩):
  ss H O w J ad nv S B iv x {t with top:=q}:=by
 obtain⟨tp,cb,cc,ca,hC⟩:=hT.jK;have hn4:=TU.len;have ht4:=hC.ft.len;refine .of (k:=0) (off:=5) W r hT hC rfl rfl (by show 5+nv.length<=9*1;omega) be (fun g2 c2 e=>?_) fun w4 k1 k2 k3 k4=>⟨nv,cb,cc,ca,k1.aBY k2 ?_ (TU.cX (Lv.same r W)) k4⟩
 .injection e with e;injection e with e;injection e with e;rw[QV,e]
 .have e:(x.vb::x.vf::x.va::x.vB::x.vc::tp).take 5++nv++(x.vb::x.vf::x.va::x.vB::x.vc::tp).drop (5+nv.length)=x.vb::x.vf::x.va::x.vB::x.vc::nv:=by
   rw[hn4];show _::_::_::_::_::(([]++nv)++tp.drop 4)=_;rw[List.drop_of_length_le be,List.append_nil,List.nil_append]
  rw[<-e];exact k3
end
end Go.Ex
