/- Texts L64 to X92: lemmas, each with its conditions. -/
import Derived.Test.YtbffinhkognefaaGreatDoorP12
namespace Go.Ex
variable{F8:Mx}{B j m v:Nat}{f p r s:Nat->Nat}{x y:Nat->Rat}
structure fq(D:Dc)(m n:Nat)(Fn:Nat->Nat->Rat)(b:Nat->Rat):Prop where
 ok:D.Ok
 em:D.m=m
 eq:D.q=n+1
 GI:∀x z,D.yL x z↔(eI m n Fn b).yL x z
section
variable{D:Dc}{m n r s:Nat}{Fn:Nat->Nat->Rat}{b c x:Nat->Rat}
theorem fq.gZ(h:fq D m n Fn b)(hr:r<D.m)(hs:s<D.q)(hp:D.a r s≠0):fq (D.gZ r s) m n Fn b:=⟨h.ok.gZ hr hs,h.em,h.eq,fun x z=>(Dc.Iz hr hs hp).trans (h.GI x z)⟩
theorem jZ.start:jZ (iE m n Fn b c) m n Fn b c:=⟨tW _ _ _ _ _,rfl,rfl,fun _ _=>Iff.rfl⟩
theorem fq.start:fq (eI m n Fn b) m n Fn b:=⟨tX _ _ _ _,rfl,rfl,fun _ _=>Iff.rfl⟩
theorem Af{low:Nat}(hl:low<m)(Xh:∀i,i<m->b low<=b i)(U:b low<=0):((eI m n Fn b).gZ low n).uq:=fun i (N:i<m)=>by
 have ha:∀i,(eI m n Fn b).a i n= -1:=fun i=>aI (Nat.lt_irrefl n);show 0<=if i=low then b low / (eI m n Fn b).a low n else b i-(eI m n Fn b).a i n*(b low / (eI m n Fn b).a low n)
 rw[ha,ha];have e:b low / (-1)= -(b low):=by
  rw[bV,show((-1:Rat))⁻¹= -1 by decide +kernel];grind
 rw[e];split
 .grind
 .have:=Xh i N;grind
def nV(m n:Nat)(Fn:Nat->Nat->Rat)(b x:Nat->Rat)(u:Rat)(v:Nat):Rat:=if v<n then x v else if v<n+m then b (v-n)-cw (fun j=>Fn (v-n) j*x j) n+u else u
theorem DL(x:Nat->Rat)(u:Rat):(eI m n Fn b).yL (nV m n Fn b x u) (-u):=by
 have ha:nV m n Fn b x u (n+m)=u:=by
  unfold nV;rw[aI be,aI be]
 refine qN.2 ⟨fun i N=>?_,by rw[ha]⟩;rw[ha,cY (f:=fun j=>Fn i j*nV m n Fn b x u j) (g:=fun j=>Fn i j*x j) fun j hj=>by unfold nV;rw[aM hj]];unfold nV;rw[aI be,aM be,Nat.add_sub_cancel_left];grind
theorem fq.Hm(h:fq D m n Fn b){x:Nat->Rat}{z:Rat}(E:D.yL x z):z= -x (n+m):=(qN.1 ((h.GI _ _).1 E)).2
theorem fq.topVal(h:fq D m n Fn b):D.top= -D.val (n+m):=h.Hm (Dc.wG h.ok)
theorem fq.bounded(h:fq D m n Fn b)(hf:D.uq)(hs:s<D.q)(hc:0<D.c s)(ha:∀i,i<D.m->D.a i s<=0):False:=by
 have hd:0<=D.dir s (n+m):=by
  have Y:0<=cw (fun i=> -(if D.fF i=n+m then D.a i s else 0)) D.m:=jX fun i N=>by
   have:=ha i N;split<;>grind
  rw[gX]at Y;unfold Dc.dir;split<;>grind
 have hv:=D.ER hf (n+m);have ht:=h.topVal;have hl:=h.Hm (Dc.line h.ok hs ((1-D.top) / D.c s));have e:D.c s*((1-D.top) / D.c s)=1-D.top:=by rw[Rat.mul_comm];exact rz (qM hc)
 rw[e]at hl;have hy:0<=(1-D.top) / D.c s:=sA (by grind) hc;have:=Rat.mul_nonneg hy hd;grind
theorem fq.obj(h:fq D m n Fn b)(x:Nat->Rat)(u:Rat): -u=D.top+cw (fun v=>D.mY v*x v) n+cw (fun i=>D.mY (n+i)*(b i-cw (fun j=>Fn i j*x j) n+u)) m+D.mY (n+m)*u:=by
 have Y:=((h.GI _ _).2 (DL (Fn:=Fn) (b:=b) x u)).2;rw[D.JC h.ok,h.em,h.eq,show m+(n+1)=(n+m)+1 by omega]at Y;have e:cw (fun v=>D.mY v*nV m n Fn b x u v) (n+m+1)=cw (fun v=>D.mY v*nV m n Fn b x u v) (n+m)+D.mY (n+m)*u:=by
  show _+D.mY (n+m)*nV m n Fn b x u (n+m)=_;unfold nV;rw[aI be,aI be]
 rw[e,qL,cY (f:=fun v=>D.mY v*nV m n Fn b x u v) (g:=fun v=>D.mY v*x v) fun v hv=>by unfold nV;rw[aM hv],cY (f:=fun k=>D.mY (n+k)*nV m n Fn b x u (n+k)) (g:=fun i=>D.mY (n+i)*(b i-cw (fun j=>Fn i j*x j) n+u)) fun i N=>by
  unfold nV
  rw[aI be,aM be,Nat.add_sub_cancel_left]]at Y
 rw[Y];grind
theorem fq.none(h:fq D m n Fn b)(A:∀j,j<D.q->¬0<D.c j):(∀i,0<= -(D.mY (n+i)))/\cw (fun i=> -(D.mY (n+i))*b i) m=D.top/\∀j,j<n->0<=cw (fun i=> -(D.mY (n+i))*Fn i j) m:=by
 have h0:=h.obj (fun _=>0) 0;have hz:∀g:Nat->Rat,cw (fun j=>g j*(0:Rat)) n=0:=fun g=>by rw[cY (g:=fun _=>0) fun j _=>bL _,dh]
 rw[hz,cY (g:=fun i=>D.mY (n+i)*b i) fun i _=>by rw[hz];grind]at h0;have Vc:cw (fun i=> -(D.mY (n+i))*b i) m=D.top:=by
  rw[cY (g:=fun i=> -(D.mY (n+i)*b i)) fun i _=>by grind,gX];grind
 refine⟨fun i=>by have:=D.EP A (n+i);grind,Vc,fun j hj=>?_⟩;have Y:=h.obj (fun v=>if v=j then 1 else 0) 0;have L:∀g:Nat->Rat,cw (fun v=>g v*(if v=j then(1:Rat)else 0)) n=g j:=fun g=>by
  rw[eR hj fun k _ e=>by rw[aI e,bL],aM rfl,Rat.mul_one]
 rw[L,cY (g:=fun i=>D.mY (n+i)*b i-D.mY (n+i)*Fn i j) fun i _=>by rw[L];grind,js]at Y;have I:=D.EP A j;rw[cY (f:=fun i=> -(D.mY (n+i))*Fn i j) (g:=fun i=> -(D.mY (n+i)*Fn i j)) fun i _=>by grind,gX];grind
theorem fq.ME(h:fq D m n Fn b)(hr:r<D.m)(hv:D.fF r=n+m)(A:D.b r=0):∃j,j<D.q/\D.a r j≠0:=by
 refine Decidable.byContradiction fun Ta=>?_;have Y:=((h.GI _ _).2 (DL (Fn:=Fn) (b:=b) (fun _=>0) 1)).1 r hr;unfold Dc.row at Y;rw[cY (g:=fun _=>0) fun j hj=>by rw[show D.a r j=0 from Decidable.byContradiction fun g=>Ta ⟨j,hj,g⟩,bj],dh,hv,A]at Y;unfold nV at Y;rw[aI be,aI be]at Y;grind
theorem Dc.MF(hf:D.uq)(A:D.b r=0):(D.gZ r s).uq:=fun i N=>by
 show 0<=if i=r then D.b r / D.a r s else D.b i-D.a i s*(D.b r / D.a r s)
 rw[A,bV,bj,bL];split
 .exact Rat.le_refl
 .have:=hf i N;grind
def eP(k j:Nat):Nat:=if j<k then j else j+1
def Dc.cut(D:Dc)(k n:Nat)(c:Nat->Rat):Dc where
 m:=D.m
 q:=D.q-1
 fF:=D.fF
 eV:=fun j=>D.eV (eP k j)
 a:=fun i j=>D.a i (eP k j)
 b:=D.b
 c:=fun j=>(if D.eV (eP k j)<n then c (D.eV (eP k j))else 0)-cw (fun i=>if D.fF i<n then c (D.fF i)*D.a i (eP k j)else 0) D.m
 top:=cw (fun i=>if D.fF i<n then c (D.fF i)*D.b i else 0) D.m
theorem MG(k j:Nat):eP k j≠k:=by unfold eP;split<;>omega
theorem KP{k i:Nat}(h:eP k i=eP k j):i=j:=by unfold eP at h;split at h<;>split at h<;>omega
theorem Ag(g:Nat->Rat){k:Nat}:∀{q:Nat},k<q+1->cw g (q+1)=cw (fun j=>g (eP k j)) q+g k
 |0,h=>by
  obtain rfl:k=0:=by omega
  rfl
 |q+1,h=>by
  show cw g (q+1)+g (q+1)=cw (fun j=>g (eP k j)) q+g (eP k q)+g k;by_cases e:k=q+1
  .subst e;have Y:∀j,j<q+1->eP (q+1) j=j:=fun j hj=>aM hj;rw[Y q be,cY (f:=fun j=>g (eP (q+1) j)) (g:=g) fun j hj=>by rw[Y j be]];rfl
  .rw[Ag g (show k<q+1 by omega),show eP k q=q+1 from aI be];grind
theorem Dc.parts(h:D.Ok)(g:Nat->Rat):cw g (D.m+D.q)=cw (fun i=>g (D.fF i)) D.m+cw (fun j=>g (D.eV j)) D.q:=by
 have Y:∀v,v<D.m+D.q->g v=cw (fun i=>if D.fF i=v then g v else 0) D.m+cw (fun j=>if D.eV j=v then g v else 0) D.q:=fun v hv=>by
  rcases h.all v hv with⟨i,N,rfl⟩|⟨j,hj,rfl⟩
  .rw[eR N fun k R e=>aI fun g=>e (h.bi k i R N g),aM rfl,cY (g:=fun _=>0) fun j hj=>aI fun g=>h.bf i j N hj g.symm,dh];grind
  .rw[cY (g:=fun _=>0) fun i N=>aI (h.bf i j N hj),dh,eR hj fun k R e=>aI fun g=>e (h.fi k j R hj g),aM rfl];grind
 rw[cY Y,gD];congr 1
 .rw[jt];refine cY fun i N=>?_;rw[eR (h.bl i N) fun v _ e=>aI fun g=>e g.symm,aM rfl]
 .rw[jt];refine cY fun j hj=>?_;rw[eR (h.fl j hj) fun v _ e=>aI fun g=>e g.symm,aM rfl]
theorem fq.cut(h:fq D m n Fn b){k:Nat}(R:k<D.q)(hv:D.eV k=n+m):jZ (D.cut k n c) m n Fn b c:=by
 have hq:(D.cut k n c).q=n:=by show D.q-1=n;rw[h.eq];omega
 have SU:∀j,j<n->eP k j<D.q:=fun j hj=>by rw[h.eq];unfold eP;split<;>omega
 have Pw:∀i,i<m->D.fF i<m+n:=fun i N=>by
  have Y:=h.ok.bl i (by rw[h.em];exact N);have I:=h.ok.bf i k (by rw[h.em];exact N) R;rw[hv]at I;rw[h.em,h.eq]at Y;omega
 have Qp:∀j,j<n->D.eV (eP k j)<m+n:=fun j hj=>by
  have Y:=h.ok.fl _ (SU j hj);have I:D.eV (eP k j)≠D.eV k:=fun e=>MG k j (h.ok.fi _ _ (SU j hj) R e);rw[hv]at I;rw[h.em,h.eq]at Y;omega
 have Py:(D.cut k n c).Ok:=by
  refine⟨fun i N=>?_,fun j hj=>?_,fun i k' N Uw e=>h.ok.bi i k' N Uw e,fun j k' hj Uw e=>?_,fun i j N hj e=>?_,fun v hv'=>?_⟩
  .rw[hq];show D.fF i<D.m+n;rw[h.em];exact Pw i (by rw[<-h.em];exact N)
  .rw[hq]at hj ⊢;show D.eV (eP k j)<D.m+n;rw[h.em];exact Qp j hj
  .rw[hq]at hj Uw;exact KP (h.ok.fi _ _ (SU j hj) (SU k' Uw) e)
  .rw[hq]at hj;exact h.ok.bf i _ N (SU j hj) e
  .rw[hq]at hv';have hv':v<D.m+n:=hv';rw[h.em]at hv';rcases h.ok.all v (by rw[h.em,h.eq];omega)with⟨i,N,e⟩|⟨j,hj,e⟩
   .exact .inl ⟨i,N,e⟩
   .refine .inr ?_;have VK:j≠k:=fun g=>by rw[g,hv]at e;omega
    rw[h.eq]at hj R;rcases aW j k with g|g
    .exact⟨j,by rw[hq];omega,by show D.eV (eP k j)=v;rw[show eP k j=j from aM g];exact e⟩
    .exact⟨j-1,by rw[hq];omega,by show D.eV (eP k (j-1))=v;rw[show eP k (j-1)=j by unfold eP;rw[aI be];omega];exact e⟩
 refine⟨Py,h.em,hq,fun x z=>?_⟩;obtain⟨y,hy⟩:∃y,(fun v=>if v=n+m then 0 else x v)=y:=⟨_,rfl⟩
 have hyv:∀v,v≠n+m->y v=x v:=fun v e=>by rw[<-hy];exact aI e
 have R6:y (n+m)=0:=by rw[<-hy];exact aM rfl
 have Pm:∀i,(D.cut k n c).row x i=D.row y i:=fun i=>by
  unfold Dc.row;rw[hq,h.eq,Ag (fun j=>D.a i j*y (D.eV j)) (k:=k) (by rw[h.eq]at R;exact R),hv,R6,bL,cI];refine cY fun j hj=>?_;show D.a i (eP k j)*x (D.eV (eP k j))=_;rw[hyv _ (by have:=Qp j hj;omega)]
 have Uh:(∀i,i<m->x (D.fF i)=D.b i-D.row y i)↔∀i,i<m->x (n+i)=b i-cw (fun j=>Fn i j*x j) n:=by
  have e1:(∀i,i<m->x (D.fF i)=D.b i-D.row y i)↔∀i,i<D.m->y (D.fF i)=D.b i-D.row y i:=by
   rw[h.em];constructor
   .intro g i N;rw[hyv _ (by have:=Pw i N;omega)];exact g i N
   .intro g i N;rw[<-hyv _ (by have:=Pw i N;omega)];exact g i N
  have e2:(∀i,i<D.m->y (D.fF i)=D.b i-D.row y i)↔D.yL y (D.top+cw (fun j=>D.c j*y (D.eV j)) D.q):=⟨fun g=>⟨g,rfl⟩,fun g=>g.1⟩
  rw[e1,e2,h.GI,qN];have e3:∀i,i<m->(y (n+i)=b i-(cw (fun j=>Fn i j*y j) n-y (n+m))↔x (n+i)=b i-cw (fun j=>Fn i j*x j) n):=fun i N=>by
   rw[R6,hyv _ be,cY (f:=fun j=>Fn i j*y j) (g:=fun j=>Fn i j*x j) fun j hj=>by rw[hyv j be]];constructor<;>intro g<;>rw[g]<;>grind
  constructor
  .rintro⟨g,_⟩ i N;exact(e3 i N).1 (g i N)
  .intro g;refine⟨fun i N=>(e3 i N).2 (g i N),?_⟩;have hD:D.yL y (D.top+cw (fun j=>D.c j*y (D.eV j)) D.q):=by
    have hs:(eI m n Fn b).yL y (-y (n+m)):=qN.2 ⟨fun i N=>(e3 i N).2 (g i N),rfl⟩;exact⟨((h.GI _ _).2 hs).1,rfl⟩
   exact h.Hm hD
 have Xq:(∀i,i<m->x (D.fF i)=D.b i-D.row y i)->(D.cut k n c).top+cw (fun j=>(D.cut k n c).c j*x ((D.cut k n c).eV j)) n=0+cw (fun j=>c j*x j) n:=fun g=>by
  have hp:=Dc.parts Py fun v=>if v<n then c v*x v else 0
  rw[hq,show(D.cut k n c).m=m from h.em,Nat.add_comm m n,qL,cY (f:=fun v=>if v<n then c v*x v else 0) (g:=fun v=>c v*x v) fun v hv=>aM hv,cY (f:=fun k=>if n+k<n then c (n+k)*x (n+k)else 0) (g:=fun _=>0) fun k _=>aI be,dh]at hp;have hp:cw (fun v=>c v*x v) n+0=cw (fun i=>if D.fF i<n then c (D.fF i)*x (D.fF i)else 0) m+cw (fun j=>if D.eV (eP k j)<n then c (D.eV (eP k j))*x (D.eV (eP k j))else 0) n:=hp;have e1:cw (fun i=>if D.fF i<n then c (D.fF i)*x (D.fF i)else 0) m=cw (fun i=>if D.fF i<n then c (D.fF i)*D.b i else 0) m-cw (fun j=>cw (fun i=>if D.fF i<n then c (D.fF i)*D.a i (eP k j)else 0) m*x (D.eV (eP k j))) n:=by
   rw[cY (f:=fun j=>cw (fun i=>if D.fF i<n then c (D.fF i)*D.a i (eP k j)else 0) m*x (D.eV (eP k j))) (g:=fun j=>cw (fun i=>(if D.fF i<n then c (D.fF i)*D.a i (eP k j)else 0)*x (D.eV (eP k j))) m) fun j _=>by rw[jN],jt,<-js];refine cY fun i N=>?_;by_cases Wo:D.fF i<n
   .rw[aM Wo,aM Wo,g i N,cY (g:=fun j=>c (D.fF i)*(D.a i (eP k j)*x (D.eV (eP k j)))) fun j _=>by rw[aM Wo,Rat.mul_assoc],fV,<-Pm i];have:(D.cut k n c).row x i=cw (fun j=>D.a i (eP k j)*x (D.eV (eP k j))) n:=by unfold Dc.row;rw[hq];rfl
    rw[this];grind
   .rw[aI Wo,aI Wo,cY (g:=fun _=>0) fun j _=>by rw[aI Wo,bj],dh];grind
  have e2:cw (fun j=>(D.cut k n c).c j*x ((D.cut k n c).eV j)) n=cw (fun j=>if D.eV (eP k j)<n then c (D.eV (eP k j))*x (D.eV (eP k j))else 0) n-cw (fun j=>cw (fun i=>if D.fF i<n then c (D.fF i)*D.a i (eP k j)else 0) m*x (D.eV (eP k j))) n:=by
   rw[<-js];refine cY fun j _=>?_;show((if D.eV (eP k j)<n then c (D.eV (eP k j))else 0)-cw (fun i=>if D.fF i<n then c (D.fF i)*D.a i (eP k j)else 0) D.m)*x (D.eV (eP k j))=_;rw[h.em];split<;>grind
  have e3:(D.cut k n c).top=cw (fun i=>if D.fF i<n then c (D.fF i)*D.b i else 0) m:=by
   show cw _ D.m=_;rw[h.em]
  rw[e3,e2];grind
 have VM:(∀i,i<(D.cut k n c).m->x ((D.cut k n c).fF i)=(D.cut k n c).b i-(D.cut k n c).row x i)↔∀i,i<m->x (D.fF i)=D.b i-D.row y i:=by
  constructor
  .intro g i N;have:=g i (by show i<D.m;rw[h.em];exact N);rw[Pm]at this;exact this
  .intro g i N;rw[Pm];exact g i (by rw[<-h.em];exact N)
 constructor
 .rintro⟨g1,g2⟩;have g3:=VM.1 g1;rw[hq]at g2;exact⟨Uh.1 g3,g2.trans (Xq g3)⟩
 .rintro⟨g1,g2⟩;have g3:=Uh.2 g1;refine⟨VM.2 g3,?_⟩;rw[hq,Xq g3];exact g2
end
theorem KO(a b:Nat){l:Nat}(h:a+b<=l):wt a*wt b<=wt l:=by rw[<-EH];exact Fs h
theorem aAg{l k n F9:Nat}(U:n<=F9)(hR:F9<=4294967295)(hl:k+1<=l)(hm:l*F9+1<=m):ln (fB (wt k) n)<=m/\fB (wt k) n<=wt m:=by
 have Y:=aAf (B:=wt k) (l:=l) U (aR (Nat.mul_le_mul_right _ (aR hR (by decide:4294967295<=wt 1))) (KO 1 k be));have I:l*n+1<=m:=aR (Nat.succ_le_succ (bC _ U)) hm;exact⟨aR Y I,Nat.le_of_lt (iH.1 (aR Y I))⟩
structure Un(E9:Mx)(p:Nat->Nat)(r n:Nat):Prop where
 lt:∀i,i<r->p i<n
 unit:∀i j,i<r->j<r->E9 j (p i)=if j=i then 1 else 0
section
variable{E9 F8:Mx}{p:Nat->Nat}{r n:Nat}{v:Nat->Rat}
theorem Un.coeff(h:Un E9 p r n)(hv:iB E9 r n v):∀t,t<n->v t=cw (fun i=>v (p i)*E9 i t) r:=by
 obtain⟨c,hc⟩:=hv;intro t ht;rw[hc t ht];refine cY fun i N=>?_;rw[hc (p i) (h.lt i N),eR N fun k R Po=>by rw[h.unit i k N R,aI Po,bL],h.unit i i N N,aM rfl,Rat.mul_one]
theorem JD(h:Un E9 p r n)(hZ:∀i,i<r->iB E9 r n (F8 i)){k t:Nat}(R:k<r)(ht:t<n):
  tu F8 p r*E9 k t=tu F8 (fun i=>if i=k then t else p i) r:=by
 have e0:tu F8 (fun i=>if i=k then t else p i) r=fz r (Ex.jG (fun j i=>F8 (r-1-i) (p (r-1-j))) (r-1-k) fun i=>F8 (r-1-i) t):=kH fun i j N hj=>by
  unfold Ex.jG;dsimp only
  by_cases g:i=r-1-k
  .rw[aM g,aM be]
  .rw[aI g,aI be]
 have e:∀i j,i<r->j<r->Ex.jG (fun j i=>F8 (r-1-i) (p (r-1-j))) (r-1-k) (fun i=>F8 (r-1-i) t) i j=Ex.jG (fun j i=>F8 (r-1-i) (p (r-1-j))) (r-1-k) (fun i=>cw (fun j=>E9 j t*F8 (r-1-i) (p j)) r) i j:=fun i j N hj=>by
  unfold Ex.jG;split
  .show F8 (r-1-j) t=cw (fun l=>E9 l t*F8 (r-1-j) (p l)) r;rw[h.coeff (hZ (r-1-j) be) t ht];exact cY fun l _=>Rat.mul_comm _ _
  .rfl
 rw[e0,kH e,Fx (v:=fun k i=>F8 (r-1-i) (p k)) be,eR R fun j hj Po=>?_]
 .rw[show Ex.jG (fun j i=>F8 (r-1-i) (p (r-1-j))) (r-1-k) (fun i=>F8 (r-1-i) (p k))=fun j i=>F8 (r-1-i) (p (r-1-j))from ?_]
  .rw[tu,Rat.mul_comm]
  .funext i j
   unfold Ex.jG;split
   .rename_i N;rw[N,show r-1-(r-1-k)=k by omega]
   .rfl
 .rw[Lt (a:=r-1-k) (b:=r-1-j) be be be fun i N=>?_,bL];unfold Ex.jG;rw[aM rfl,aI be];show F8 (r-1-i) (p j)=F8 (r-1-i) (p (r-1-(r-1-j)));rw[show r-1-(r-1-j)=j by omega]
theorem DM{m:Mx}:∀n,(∀i j,i<n->j<n->i≠j->m i j=0)->(∀i,i<n->m i i≠0)->fz n m≠0
 |0,_,_=>by show(1:Rat)≠0;decide
 |n+1,h,h0=>by
  rw[fz,eR (i:=0) be fun k R Po=>by rw[h 0 k be R (Ne.symm Po),bj,bL]];have hs:∀j,skip 0 j=j+1:=fun j=>by unfold skip;rw[aI be]
  refine tS bv (tS (h0 0 be) ?_);rw[kH (m':=fun i j=>m (i+1) (j+1)) fun i j _ _=>by rw[hs]];exact DM n (fun i j N hj e=>h _ _ be be be) fun i N=>h0 _ be
theorem KQ(hz:∀i j,i<r->j<r->i≠j->F8 i (p j)=0)(h0:∀i,i<r->F8 i (p i)≠0):tu F8 p r≠0:=
 DM r (fun i j N hj e=>hz _ _ be be be) fun i N=>h0 _ be
end
def il(v w:Nat):Rat:=if w=v then 1 else 0
def Dc.ext(D:Dc)(i v:Nat):Rat:=
 if i<D.m then(if v<D.m+D.q then il v (D.fF i)+D.row (il v) i else if v=D.m+D.q then D.b i else 0)
 else(if v<D.m+D.q then -(cw (fun j=>D.c j*il v (D.eV j)) D.q)else if v=D.m+D.q then D.top else 1)
def Dc.pv(D:Dc)(i:Nat):Nat:=if i<D.m then D.fF i else D.m+D.q+1
section
variable{D:Dc}{r s:Nat}
theorem Dc.JE(h:D.Ok)(hj:j<D.q)(g:Nat->Rat):cw (fun k=>g k*il (D.eV j) (D.eV k)) D.q=g j:=by
 unfold il;rw[eR hj fun k R e=>by rw[aI fun g=>e (h.fi k j R hj g),bL],aM rfl,Rat.mul_one]
theorem Dc.JF(h:D.Ok){i:Nat}(N:i<D.m)(g:Nat->Rat):cw (fun k=>g k*il (D.fF i) (D.eV k)) D.q=0:=by
 unfold il;rw[cY (g:=fun _=>0) fun k R=>by rw[aI fun e=>h.bf i k N R e.symm,bL],dh]
theorem Dc.MH(h:D.Ok){i:Nat}(N:i<D.m)(hj:j<D.q):D.ext i (D.eV j)=D.a i j:=by
 unfold Dc.ext Dc.row;rw[aM N,aM (h.fl j hj),D.JE h hj];unfold il;rw[aI (h.bf i j N hj),Rat.zero_add]
theorem Dc.Ox{i:Nat}(N:i<D.m):D.ext i (D.m+D.q)=D.b i:=by
 unfold Dc.ext;rw[aM N,aI (Nat.lt_irrefl _),aM rfl]
theorem Dc.aAj(h:D.Ok)(hj:j<D.q):D.ext D.m (D.eV j)= -(D.c j):=by
 unfold Dc.ext;rw[aI (Nat.lt_irrefl _),aM (h.fl j hj),D.JE h hj]
theorem Dc.Oy:D.ext D.m (D.m+D.q)=D.top:=by
 unfold Dc.ext;rw[aI (Nat.lt_irrefl _),aI (Nat.lt_irrefl _),aM rfl]
theorem Dc.un(h:D.Ok):Un D.ext D.pv (D.m+1) (D.m+D.q+2):=by
 refine⟨fun i N=>?_,fun i k N R=>?_⟩
 .unfold Dc.pv;split
  .rename_i g;have:=h.bl i g;omega
  .omega
 .unfold Dc.pv Dc.ext;by_cases Rc:i<D.m
  .have A:=h.bl i Rc;rw[aM Rc];by_cases Uw:k<D.m
   .rw[aM Uw,aM A];unfold Dc.row;rw[D.JF h Rc,cI];unfold il;by_cases e:k=i
    .rw[aM e,aM (by rw[e])]
    .rw[aI e,aI fun g=>e (h.bi k i Uw Rc g)]
   .rw[aI Uw,aM A,D.JF h Rc,aI (show ¬k=i by omega)];decide +kernel
  .have f1:¬D.m+D.q+1<D.m+D.q:=by omega
   have f2:¬D.m+D.q+1=D.m+D.q:=by omega
   rw[aI Rc];by_cases Uw:k<D.m
   .rw[aM Uw,aI f1,aI f2,aI (show ¬k=i by omega)]
   .rw[aI Uw,aI f1,aI f2,aM (show k=i by omega)]
theorem Dc.JG(hr:r<D.m)(hs:s<D.q)(hp:D.a r s≠0){i:Nat}(N:i<=D.m)(v:Nat):
  D.ext i v=(if i=r then 0 else(D.gZ r s).ext i v)+(if i<D.m then D.a i s else -(D.c s))*(D.gZ r s).ext r v:=by
 have hinv:D.a r s*(D.a r s)⁻¹=1:=Rat.mul_inv_cancel _ hp;have XU:(D.gZ r s).fF r=D.eV s:=aM rfl;have Wr:(D.gZ r s).ext r v=if v<D.m+D.q then(D.row (il v) r+il v (D.fF r)) / D.a r s else if v=D.m+D.q then D.b r / D.a r s else 0:=by
  unfold Dc.ext;rw[aM (show r<(D.gZ r s).m from hr),XU,D.DJ hs];show(if v<D.m+D.q then _ else if v=D.m+D.q then(if r=r then _ else _)else _)=_;rw[aM rfl];split
  .rw[bV,bV];have:il v (D.eV s)=il v (D.eV s)*(D.a r s*(D.a r s)⁻¹):=by rw[hinv,Rat.mul_one]
   grind
  .rfl
 rw[Wr];rcases aW i D.m with Y|Y
 .rw[aM Y];by_cases e:i=r
  .subst e;rw[aM rfl,Rat.zero_add];unfold Dc.ext;rw[aM Y];split
   .rw[bV];grind
   .split
    .rw[bV];grind
    .grind
  .rw[aI e];unfold Dc.ext;rw[aM Y,aM (show i<(D.gZ r s).m from Y),D.DK hs e hp,show(D.gZ r s).fF i=D.fF i from aI e,show(D.gZ r s).b i=D.b i-D.a i s*(D.b r / D.a r s)from aI e];show _=(if v<D.m+D.q then _ else if v=D.m+D.q then _ else _)+_;split
   .rw[bV,bV];grind
   .split<;>grind
 .have Po:i≠r:=by omega
  rw[aI Po,aI be];unfold Dc.ext;rw[aI be,aI (show ¬i<(D.gZ r s).m from by show ¬i<D.m;omega)];show _=(if v<D.m+D.q then -(cw (fun j=>(D.gZ r s).c j*il v ((D.gZ r s).eV j)) D.q)else if v=D.m+D.q then D.top+D.c s*(D.b r / D.a r s)else _)+_;rw[D.Iy hs hp];split
  .rw[bV,bV];grind
  .split<;>grind
structure Dc.Sz(D:Dc)(B:Nat)(F8:Mx):Prop where
 sp:∀i,i<D.m+1->iB D.ext (D.m+1) (D.m+D.q+2) (F8 i)
 ib:∀i t,i<D.m+1->t<D.m+D.q+2->Ib B (F8 i t)
 nz:tu F8 D.pv (D.m+1)≠0
theorem Dc.Sz.gZ(h:D.Sz B F8)(R:D.Ok)(hr:r<D.m)(hs:s<D.q)(hp:D.a r s≠0):(D.gZ r s).Sz B F8:=by
 refine⟨fun i N=>(h.sp i N).trans fun i N=>?_,h.ib,?_⟩
 .have Rc:i<=D.m:=by omega
  by_cases e:i=r
  .refine((iB.row (E9:=(D.gZ r s).ext) (n:=D.m+D.q+2) (show r<D.m+1 by omega)).mul (D.a r s)).congr fun t _=>?_;rw[D.JG hr hs hp Rc,aM e,aM be,e];grind
  .refine((iB.row (E9:=(D.gZ r s).ext) (n:=D.m+D.q+2) N).add (iB.row (show r<D.m+1 by omega)) (if i<D.m then D.a i s else -(D.c s))).congr fun t _=>?_;rw[D.JG hr hs hp Rc,aI e]
 .have Y:=JD (D.un R) h.sp (k:=r) (t:=D.eV s) be (by have:=R.fl s hs;omega);rw[D.MH R hr hs]at Y;have e:(D.gZ r s).pv=fun i=>if i=r then D.eV s else D.pv i:=by
   funext i
   show(if i<D.m then(if i=r then D.eV s else D.fF i)else D.m+D.q+1)=if i=r then D.eV s else if i<D.m then D.fF i else D.m+D.q+1
   by_cases g:i=r
   .rw[aM g,aM be,aM g]
   .rw[aI g,aI g]
  show tu F8 (D.gZ r s).pv (D.m+1)≠0;rw[e,<-Y];exact tS h.nz hp
theorem Dc.Sz.rl(h:D.Sz B F8)(R:D.Ok){i t:Nat}(N:i<D.m+1)(ht:t<D.m+D.q+2):rl (D.ext i t)<=ln (fB B (D.m+1)):=by
 have hu:=D.un R;have hd:∀p:Nat->Nat,(∀i,i<D.m+1->p i<D.m+D.q+2)->Ib (fB B (D.m+1)) (tu F8 p (D.m+1)):=fun p hp=>Ib.det (D.m+1) fun a b ha A=>h.ib _ _ be (hp _ be);refine Np h.nz (hd _ hu.lt) ?_;rw[JD hu h.sp N ht];refine hd _ fun k R=>?_;split
 .exact ht
 .exact hu.lt k R
theorem Dc.Sz.all{Fd:Nat}(h:D.Sz B F8)(R:D.Ok)(hK:ln (fB B (D.m+1))<=Fd):(∀i j,i<D.m->j<D.q->Ex.rl (D.a i j)<=Fd)/\(∀i,i<D.m->Ex.rl (D.b i)<=Fd)/\(∀j,j<D.q->Ex.rl (D.c j)<=Fd)/\Ex.rl D.top<=Fd:=by
 refine⟨fun i j N hj=>?_,fun i N=>?_,fun j hj=>?_,?_⟩
 .rw[<-D.MH R N hj];exact aR (h.rl R be (by have:=R.fl j hj;omega)) hK
 .rw[<-D.Ox N];exact aR (h.rl R be be) hK
 .have Y:=h.rl R (i:=D.m) (t:=D.eV j) be (by have:=R.fl j hj;omega);rw[D.aAj R hj]at Y;rw[<-Rat.neg_neg (D.c j),kj];exact aR Y hK
 .rw[<-D.Oy];exact aR (h.rl R be be) hK
theorem Dc.Sz.start(R:D.Ok)(d:Nat->Rat)(hd:∀i,i<D.m+1->d i≠0)(hz:∀i t,i<D.m+1->t<D.m+D.q+2->Ib B (d i*D.ext i t)):D.Sz B fun i t=>d i*D.ext i t:=by
 have hu:=D.un R;refine⟨fun i N=>((iB.row (n:=D.m+D.q+2) N).mul (d i)).congr fun t _=>Rat.mul_comm _ _,hz,KQ (fun i j N hj e=>?_) fun i N=>?_⟩
 .rw[hu.unit j i hj N,aI e,bL]
 .rw[hu.unit i i N N,aM rfl,Rat.mul_one];exact hd i N
end
structure Tb where
 bs:List Nat
 fs:List Nat
 a:List (List Rat)
 b:List Rat
 c:List Rat
 top:Rat
structure Rp(t:Tb)(D:Dc):Prop where
 KR:t.bs.length=D.m
 Nv:t.fs.length=D.q
 al:t.a.length=D.m
 aw:iq D.q t.a
 bl:t.b.length=D.m
 cl:t.c.length=D.q
 fF:∀i,i<D.m->t.bs.getD i 0=D.fF i
 eV:∀j,j<D.q->t.fs.getD j 0=D.eV j
 ea:∀i j,i<D.m->j<D.q->dU t.a i j=D.a i j
 eb:∀i,i<D.m->t.b.getD i 0=D.b i
 ec:∀j,j<D.q->t.c.getD j 0=D.c j
 et:t.top=D.top
def rJ(x:List Rat)(k:Rat)(y:List Rat):List Rat:=x.mapIdx fun i q=>q+k*y.getD i 0
def Tb.mQ(t:Tb)(r s:Nat):List Rat:=((t.a.getD r []).set s 1).map fun q=>q*(1 / dU t.a r s)
def Tb.bP(t:Tb)(r s:Nat):Rat:=t.b.getD r 0*(1 / dU t.a r s)
def Tb.gZ(t:Tb)(r s:Nat):Tb where
 bs:=t.bs.set r (t.fs.getD s 0)
 fs:=t.fs.set s (t.bs.getD r 0)
 a:=t.a.mapIdx fun i x=>if i=r then t.mQ r s else rJ (x.set s 0) (-(x.getD s 0)) (t.mQ r s)
 b:=t.b.mapIdx fun i x=>if i=r then t.bP r s else x+ -(dU t.a i s)*t.bP r s
 c:=rJ (t.c.set s 0) (-(t.c.getD s 0)) (t.mQ r s)
 top:=t.top+t.c.getD s 0*t.bP r s
theorem iI{α β:Type}{f:Nat->α->β}{l:List α}{i:Nat}(d:α)(e:β)(h:i<l.length):(l.mapIdx f).getD i e=f i (l.getD i d):=by
 rw[List.getD,List.getElem?_mapIdx,List.getD,aE h];rfl
theorem getD_map{α β:Type}{f:α->β}{l:List α}{i:Nat}(d:α)(e:β)(h:i<l.length):(l.map f).getD i e=f (l.getD i d):=by
 rw[List.getD,aU,List.getD,aE h];rfl
theorem kQ{α:Type}{l:List α}{i:Nat}{x d:α}(h:i<l.length):(l.set i x).getD j d=if j=i then x else l.getD j d:=by
 by_cases e:j=i
 .subst e;rw[aM rfl,GC h]
 .rw[aI e,getD_set_ne (Ne.symm e)]
theorem oJ(x:List Rat)(k:Rat)(y:List Rat):(rJ x k y).length=x.length:=List.length_mapIdx
theorem ES{x y:List Rat}{k:Rat}(h:j<x.length):(rJ x k y).getD j 0=x.getD j 0+k*y.getD j 0:=iI 0 0 h
section
variable{t:Tb}{D:Dc}{r s:Nat}
theorem Rp.MI(h:Rp t D){i:Nat}(N:i<D.m):(t.a.getD i []).length=D.q:=h.aw.getD (by rw[h.al];exact N)
theorem Rp.GJ(h:Rp t D)(hr:r<D.m):(t.mQ r s).length=D.q:=by
 unfold Tb.mQ;rw[aO,bW];exact h.MI hr
theorem Rp.Nx(h:Rp t D)(hr:r<D.m)(hs:s<D.q)(hj:j<D.q):(t.mQ r s).getD j 0=(D.gZ r s).a r j:=by
 have hl:=h.MI hr;unfold Tb.mQ;rw[getD_map 0 0 (by rw[bW,hl];exact hj),kQ (by rw[hl];exact hs),h.ea r s hr hs];show _=if r=r then(if j=s then 1 / D.a r s else D.a r j / D.a r s)else _
 rw[aM rfl];by_cases e:j=s
 .rw[aM e,aM e,cR]
 .rw[aI e,aI e,show(t.a.getD r []).getD j 0=D.a r j from h.ea r j hr hj,bV,bV,cR]
theorem Rp.Oz(h:Rp t D)(hr:r<D.m)(hs:s<D.q):t.bP r s=D.b r / D.a r s:=by
 unfold Tb.bP;rw[h.eb r hr,h.ea r s hr hs,bV,bV,cR]
theorem Rp.gZ(h:Rp t D)(hr:r<D.m)(hs:s<D.q):Rp (t.gZ r s) (D.gZ r s):=by
 have Pm:=fun{j:Nat} (hj:j<D.q)=>h.Nx hr hs hj;have hprr:∀j,(D.gZ r s).a r j=if j=s then 1 / D.a r s else D.a r j / D.a r s:=fun j=>aM rfl
 refine⟨by show(t.bs.set _ _).length=_;rw[bW];exact h.KR,by show(t.fs.set _ _).length=_;rw[bW];exact h.Nv,by show(t.a.mapIdx _).length=_;rw[List.length_mapIdx];exact h.al,fun x E=>?_,by show(t.b.mapIdx _).length=_;rw[List.length_mapIdx];exact h.bl,by show(rJ _ _ _).length=_;rw[oJ,bW];exact h.cl,fun i N=>?_,fun j hj=>?_,fun i j N hj=>?_,fun i N=>?_,fun j hj=>?_,?_⟩
 .obtain⟨i,N⟩:=az E;have Qv:(t.a.mapIdx fun i x=>if i=r then t.mQ r s else rJ (x.set s 0) (-(x.getD s 0)) (t.mQ r s))[i]? =some x:=N;rw[List.getElem?_mapIdx]at Qv
  cases hy:t.a[i]? with
  |none=>rw[hy]at Qv;cases Qv
  |some y=>
   rw[hy]at Qv;injection Qv with Qv;rw[<-Qv];split
   .exact h.GJ hr
   .rw[oJ,bW];exact h.aw y (aG hy)
 .show(t.bs.set r (t.fs.getD s 0)).getD i 0=if i=r then D.eV s else D.fF i
  have N:i<D.m:=N;rw[kQ (by rw[h.KR];exact hr),h.eV s hs];split
  .rfl
  .exact h.fF i N
 .show(t.fs.set s (t.bs.getD r 0)).getD j 0=if j=s then D.fF r else D.eV j
  have hj:j<D.q:=hj;rw[kQ (by rw[h.Nv];exact hs),h.fF r hr];split
  .rfl
  .exact h.eV j hj
 .have N:i<D.m:=N;have hj:j<D.q:=hj;show((t.a.mapIdx fun i x=>if i=r then t.mQ r s else rJ (x.set s 0) (-(x.getD s 0)) (t.mQ r s)).getD i []).getD j 0=_;rw[iI [] [] (by rw[h.al];exact N)];by_cases e:i=r
  .subst e;rw[aM rfl];exact Pm hj
  .have hl:=h.MI N;rw[aI e,ES (by rw[bW,hl];exact hj),kQ (by rw[hl];exact hs),Pm hj,hprr,show(t.a.getD i []).getD j 0=D.a i j from h.ea i j N hj,show(t.a.getD i []).getD s 0=D.a i s from h.ea i s N hs];show _=if i=r then _ else if j=s then -(D.a i s / D.a r s)else D.a i j-D.a i s*(D.a r j / D.a r s)
   rw[aI e];by_cases g:j=s
   .rw[aM g,aM g,aM g,bV,bV];grind
   .rw[aI g,aI g,aI g];grind
 .have N:i<D.m:=N;show(t.b.mapIdx fun i x=>if i=r then t.bP r s else x+ -(dU t.a i s)*t.bP r s).getD i 0=if i=r then D.b r / D.a r s else D.b i-D.a i s*(D.b r / D.a r s)
  rw[iI 0 0 (by rw[h.bl];exact N),h.Oz hr hs,h.eb i N,h.ea i s N hs];split
  .rfl
  .grind
 .have hj:j<D.q:=hj;show(rJ (t.c.set s 0) (-(t.c.getD s 0)) (t.mQ r s)).getD j 0=if j=s then -(D.c s / D.a r s)else D.c j-D.c s*(D.a r j / D.a r s)
  rw[ES (by rw[bW,h.cl];exact hj),kQ (by rw[h.cl];exact hs),Pm hj,hprr,h.ec s hs,h.ec j hj];by_cases g:j=s
  .rw[aM g,aM g,aM g,bV,bV];grind
  .rw[aI g,aI g,aI g];grind
 .show t.top+t.c.getD s 0*t.bP r s=D.top+D.c s*(D.b r / D.a r s)
  rw[h.et,h.ec s hs,h.Oz hr hs]
theorem Ah{c c':Nat->Rat}{f f':Nat->Nat}:∀{n:Nat},(∀j,j<n->c j=c' j)->(∀j,j<n->f j=f' j)->my c f n=my c' f' n
 |0,_,_=>rfl
 |n+1,hc,hf=>by
  rw[my,my,Ah (fun j hj=>hc j be) fun j hj=>hf j be,hc n be]
  cases e:my c' f' n with
  |none=>rfl
  |some k=>
   have R:=(kP e).1;dsimp only
   rw[hf n be,hf k be]
theorem Ai{a a' b b':Nat->Rat}{f f':Nat->Nat}:∀{n:Nat},(∀j,j<n->a j=a' j)->(∀j,j<n->b j=b' j)->(∀j,j<n->f j=f' j)->kc a b f n=kc a' b' f' n
 |0,_,_,_=>rfl
 |n+1,ha,A,hf=>by
  rw[kc,kc,Ai (fun j hj=>ha j be) (fun j hj=>A j be) fun j hj=>hf j be,ha n be,A n be]
  cases e:kc a' b' f' n with
  |none=>rfl
  |some k=>
   have R:=(pI e).1;dsimp only
   rw[hf n be,hf k be,ha k be,A k be]
def Tb.HV(t:Tb):Option Nat:=my (fun j=>t.c.getD j 0) (fun j=>t.fs.getD j 0) t.c.length
def Tb.Hk(t:Tb)(s:Nat):Option Nat:=kc (fun i=>dU t.a i s) (fun i=>t.b.getD i 0) (fun i=>t.bs.getD i 0) t.a.length
theorem Rp.HV(h:Rp t D):t.HV=my D.c D.eV D.q:=by
 unfold Tb.HV;rw[h.cl];exact Ah h.ec h.eV
theorem Rp.Hk(h:Rp t D)(hs:s<D.q):t.Hk s=kc (fun i=>D.a i s) D.b D.fF D.m:=by
 unfold Tb.Hk;rw[h.al];exact Ai (fun i N=>h.ea i s N hs) h.eb h.fF
end
def fK(l:List Rat)(n off:Nat)(idx:Nat->Nat)(val:Nat->Rat):Nat->List Rat
 |0=>l
 |i+1=>if off<=idx i/\idx i<off+n then(fK l n off idx val i).set (idx i-off) (val i)else fK l n off idx val i
theorem jC(l:List Rat)(n off:Nat)(idx:Nat->Nat)(val:Nat->Rat):∀k,(fK l n off idx val k).length=l.length
 |0=>rfl
 |i+1=>by
  rw[fK];split
  .rw[bW];exact jC l n off idx val i
  .exact jC l n off idx val i
theorem wH{l:List Rat}{n off v:Nat}{idx:Nat->Nat}{val:Nat->Rat}(hl:l.length=n)(hv:v<n):∀k,(∀i j,i<k->j<k->idx i=idx j->i=j)->(∀i,i<k->idx i=off+v->l.getD v 0=0)->
  (fK l n off idx val k).getD v 0=l.getD v 0+cw (fun i=>if idx i=off+v then val i else 0) k
 |0,_,_=>(cI _).symm
 |i+1,hj,h0=>by
  have ih:=wH (val:=val) hl hv i (fun a b ha A e=>hj a b be be e) fun a ha e=>h0 a be e;rw[fK,cw];by_cases e:idx i=off+v
  .rw[aM ⟨be,be⟩,kQ (by rw[jC,hl];omega),aM (show v=idx i-off by omega),aM e,h0 i be e,cY (g:=fun _=>0) fun k R=>aI fun g=>by have:=hj k i be be (g.trans e.symm);omega,dh];grind
  .rw[aI e,cI];split
   .rename_i g;rw[getD_set_ne be];exact ih
   .exact ih
def Tb.jv(t:Tb)(n:Nat):List Rat:=fK (dx n) n 0 (fun i=>t.bs.getD i 0) (fun i=>t.b.getD i 0) t.bs.length
def Tb.j0(t:Tb)(n m:Nat):List Rat:=fK (dx m) m n (fun j=>t.fs.getD j 0) (fun j=> -(t.c.getD j 0)) t.fs.length
def Tb.pJ(t:Tb)(n s:Nat):List Rat:=fK (if t.fs.getD s 0<n then(dx n).set (t.fs.getD s 0) 1 else dx n) n 0 (fun i=>t.bs.getD i 0) (fun i=> -(dU t.a i s)) t.bs.length
theorem jO(n v:Nat):(dx n).getD v 0=0:=by
 unfold dx;rw[List.getD,List.getElem?_replicate];split<;>rfl
section
variable{t:Tb}{D:Dc}{s n m v:Nat}
theorem Rp.inj(h:Rp t D)(R:D.Ok):∀i j,i<t.bs.length->j<t.bs.length->t.bs.getD i 0=t.bs.getD j 0->i=j:=fun i j N hj e=>by
 rw[h.KR]at N hj;rw[h.fF i N,h.fF j hj]at e;exact R.bi i j N hj e
theorem Rp.MJ(h:Rp t D)(R:D.Ok)(hv:v<n):(t.jv n).getD v 0=D.val v:=by
 unfold Tb.jv;rw[wH (by simp[dx]) hv _ (h.inj R) fun i _ _=>jO _ _,jO,Rat.zero_add,h.KR,aS];exact cY fun i N=>by rw[h.fF i N,h.eb i N]
theorem Rp.DN(h:Rp t D)(R:D.Ok)(hv:v<m):(t.j0 n m).getD v 0= -(D.mY (n+v)):=by
 unfold Tb.j0 Dc.mY;rw[wH (by simp[dx]) hv _ (fun i j N hj e=>?_) fun i _ _=>jO _ _,jO,Rat.zero_add,h.Nv,<-gX]
 .refine cY fun j hj=>?_;rw[h.eV j hj,h.ec j hj];split
  .rfl
  .decide +kernel
 .rw[h.Nv]at N hj;rw[h.eV i N,h.eV j hj]at e;exact R.fi i j N hj e
theorem Rp.MK(h:Rp t D)(R:D.Ok)(hs:s<D.q)(hv:v<n):(t.pJ n s).getD v 0=D.dir s v:=by
 have hl:(if t.fs.getD s 0<n then(dx n).set (t.fs.getD s 0) 1 else dx n).length=n:=by split<;>simp[dx]
 have RG:(if t.fs.getD s 0<n then(dx n).set (t.fs.getD s 0) 1 else dx n).getD v 0=if v=D.eV s then 1 else 0:=by
  rw[h.eV s hs];split
  .rename_i g;rw[kQ (by simp[dx];exact g),jO]
  .rename_i g;rw[jO,aI be]
 unfold Tb.pJ Dc.dir;rw[wH hl hv _ (h.inj R) fun i N e=>?_,RG,h.KR,aS,Rat.sub_eq_add_neg,<-gX]
 .congr 1;refine cY fun i N=>?_;rw[h.fF i N,h.ea i s N hs];split
  .rfl
  .decide +kernel
 .rw[h.KR]at N;rw[RG,aI fun g=>R.bf i s N hs (by rw[<-h.fF i N,e,<-g,aS])]
end
section
variable{D E9:Dc}{B:Nat}{F8:Mx}{i v:Nat}{x:Nat->Rat}{z:Rat}
def Dc.Ny(D:Dc)(x:Nat->Rat)(z:Rat)(i:Nat):Rat:=cw (fun v=>D.ext i v*x v) (D.m+D.q)+D.ext i (D.m+D.q+1)*z-D.ext i (D.m+D.q)
theorem Dc.JH(h:D.Ok)(g:Nat->Rat)(x:Nat->Rat):cw (fun v=>cw (fun j=>g j*il v (D.eV j)) D.q*x v) (D.m+D.q)=cw (fun j=>g j*x (D.eV j)) D.q:=by
 rw[cY (g:=fun v=>cw (fun j=>g j*il v (D.eV j)*x v) D.q) fun v _=>by rw[jN],jt];refine cY fun j hj=>?_;unfold il;rw[eR (h.fl j hj) fun v _ e=>by rw[aI fun g=>e g.symm,bL,bj],aM rfl,Rat.mul_one]
theorem Dc.OA(h:D.Ok)(N:i<D.m):D.Ny x z i=x (D.fF i)+D.row x i-D.b i:=by
 unfold Dc.Ny;rw[D.Ox N];have e1:D.ext i (D.m+D.q+1)=0:=by
  unfold Dc.ext;rw[aM N,aI be,aI be]
 have e2:cw (fun v=>D.ext i v*x v) (D.m+D.q)=x (D.fF i)+D.row x i:=by
  rw[cY (g:=fun v=>il v (D.fF i)*x v+D.row (il v) i*x v) fun v hv=>by unfold Dc.ext;rw[aM N,aM hv];grind,gD];congr 1
  .unfold il;rw[eR (h.bl i N) fun v _ e=>by rw[aI fun g=>e g.symm,bj],aM rfl,cR]
  .exact D.JH h (D.a i) x
 rw[e1,e2];grind
theorem Dc.OB(h:D.Ok):D.Ny x z D.m=z-cw (fun j=>D.c j*x (D.eV j)) D.q-D.top:=by
 unfold Dc.Ny;have e1:D.ext D.m (D.m+D.q+1)=1:=by
  unfold Dc.ext;rw[aI be,aI be,aI be]
 have e2:cw (fun v=>D.ext D.m v*x v) (D.m+D.q)= -(cw (fun j=>D.c j*x (D.eV j)) D.q):=by
  rw[<-D.JH h D.c x,<-gX];refine cY fun v hv=>?_;unfold Dc.ext;rw[aI be,aM hv];grind
 rw[D.Oy,e1,e2];grind
theorem Dc.JI(h:D.Ok)(hs:D.yL x z):∀i,i<D.m+1->D.Ny x z i=0:=fun i N=>by
 rcases aW i D.m with Y|Y
 .rw[D.OA h Y,hs.1 i Y];grind
 .obtain rfl:i=D.m:=by omega
  rw[D.OB h,hs.2];grind
theorem Dc.wI(h:D.Ok)(hj:j<D.q):D.val (D.eV j)=0:=D.wF (h.tT hj)
theorem Dc.span(h:D.Ok)(k:E9.Ok)(hm:E9.m=D.m)(hq:E9.q=D.q)(hs:∀x z,D.yL x z->E9.yL x z){i:Nat}(N:i<D.m+1):iB D.ext (D.m+1) (D.m+D.q+2) (E9.ext i):=by
 have hu:=D.un h;obtain⟨δ,hδ⟩:∃δ:Nat->Rat,(fun t=>E9.ext i t-cw (fun k=>E9.ext i (D.pv k)*D.ext k t) (D.m+1))=δ:=⟨_,rfl⟩
 have hδv:∀t,δ t=E9.ext i t-cw (fun k=>E9.ext i (D.pv k)*D.ext k t) (D.m+1):=fun t=>by rw[<-hδ]
 have hp:∀a,a<D.m+1->δ (D.pv a)=0:=fun a ha=>by
  rw[hδv,eR ha fun b A e=>by rw[hu.unit a b ha A,aI e,bL],hu.unit a a ha ha,aM rfl];grind
 have Xr:∀x z,D.yL x z->cw (fun v=>δ v*x v) (D.m+D.q)+δ (D.m+D.q+1)*z-δ (D.m+D.q)=0:=fun x z E=>by
  have Y:=E9.JI k (hs x z E) i (by rw[hm];exact N);unfold Dc.Ny at Y;rw[hm,hq]at Y;have I:cw (fun a=>E9.ext i (D.pv a)*D.Ny x z a) (D.m+1)=0:=by
   rw[cY (g:=fun _=>0) fun a ha=>by rw[D.JI h E a ha,bL],dh]
  have e1:cw (fun v=>δ v*x v) (D.m+D.q)=cw (fun v=>E9.ext i v*x v) (D.m+D.q)-cw (fun a=>E9.ext i (D.pv a)*cw (fun v=>D.ext a v*x v) (D.m+D.q)) (D.m+1):=by
   rw[cY (f:=fun a=>E9.ext i (D.pv a)*cw (fun v=>D.ext a v*x v) (D.m+D.q)) (g:=fun a=>cw (fun v=>E9.ext i (D.pv a)*(D.ext a v*x v)) (D.m+D.q)) fun a _=>by rw[fV],jt,<-js];refine cY fun v _=>?_;rw[hδv,cY (f:=fun a=>E9.ext i (D.pv a)*(D.ext a v*x v)) (g:=fun a=>(E9.ext i (D.pv a)*D.ext a v)*x v) fun a _=>by grind,jN];grind
  have e2:cw (fun a=>E9.ext i (D.pv a)*D.Ny x z a) (D.m+1)=cw (fun a=>E9.ext i (D.pv a)*cw (fun v=>D.ext a v*x v) (D.m+D.q)) (D.m+1)+cw (fun a=>E9.ext i (D.pv a)*D.ext a (D.m+D.q+1)) (D.m+1)*z-cw (fun a=>E9.ext i (D.pv a)*D.ext a (D.m+D.q)) (D.m+1):=by
   rw[<-jN,<-gD,<-js];refine cY fun a _=>?_;unfold Dc.Ny;grind
  rw[e1,hδv,hδv];rw[I]at e2;grind
 have SC:∀x z,D.yL x z->cw (fun j=>δ (D.eV j)*x (D.eV j)) D.q-δ (D.m+D.q)=0:=fun x z E=>by
  have Y:=Xr x z E;have hz:δ (D.m+D.q+1)=0:=by
   have:=hp D.m be;unfold Dc.pv at this
   rwa [aI be]at this
  rw[D.parts h (fun v=>δ v*x v),cY (f:=fun i=>δ (D.fF i)*x (D.fF i)) (g:=fun _=>0) fun a ha=>?_,dh,hz]at Y
  .grind
  .have:=hp a be;unfold Dc.pv at this;rw[aM ha]at this;rw[this,bj]
 have h0:δ (D.m+D.q)=0:=by
  have Y:=SC _ _ (D.wG h);rw[cY (g:=fun _=>0) fun j hj=>by rw[D.wI h hj,bL],dh]at Y;grind
 have hf:∀s,s<D.q->δ (D.eV s)=0:=fun s Vo=>by
  have Y:=SC _ _ (D.line h Vo 1);rw[h0,eR Vo fun j hj e=>by rw[D.wI h hj,D.z4 h Vo hj,aI e];grind,D.wI h Vo,D.z4 h Vo Vo,aM rfl]at Y;grind
 refine⟨fun a=>E9.ext i (D.pv a),fun t ht=>?_⟩;have:δ t=0:=by
  rcases aW t (D.m+D.q)with Y|Y
  .rcases h.all t Y with⟨a,ha,rfl⟩|⟨j,hj,rfl⟩
   .have:=hp a be;unfold Dc.pv at this
    rwa [aM ha]at this
   .exact hf j hj
  .rcases aW (D.m+D.q) t with I|I
   .have:=hp D.m be;unfold Dc.pv at this;rw[aI be]at this
    rwa [show t=D.m+D.q+1 by omega]
   .rwa [show t=D.m+D.q by omega]
 rw[hδv]at this;grind
theorem DO{F8:Mx}(h:∀i,i<m->F8 i (p m)=0):tu F8 p (m+1)=F8 m (p m)*tu F8 p m:=by
 unfold tu;rw[fz,eR (i:=0) be fun k R Po=>by rw[show m+1-1-0=m by omega,h (m+1-1-k) be,bj,bL]];have hs:∀j,skip 0 j=j+1:=fun j=>by unfold skip;rw[aI be]
 rw[show ug 0=1 by decide,cR];congr 1
 .exact kH fun i j N hj=>by
   rw[hs,show m+1-1-(j+1)=m-1-j by omega,show m+1-1-(i+1)=m-1-i by omega]
theorem uu{F8 C9:Mx}{q:Nat->Nat}(h:∀i k,i<m->k<m->F8 i (p k)=C9 i (q k)):tu F8 p m=tu C9 q m:=kH fun i j N hj=>h _ _ be be
theorem Dc.Sz.of(h:D.Ok)(k:E9.Ok)(hm:E9.m=D.m)(hq:E9.q=D.q)(hs:∀x z,D.yL x z->E9.yL x z)(d:Nat->Rat)(hz:∀i t,i<D.m+1->t<D.m+D.q+2->Ib B (d i*E9.ext i t))(hd:d D.m≠0)(U:tu (fun i t=>d i*E9.ext i t) D.fF D.m≠0):D.Sz B fun i t=>d i*E9.ext i t:=by
 refine⟨fun i N=>((Dc.span h k hm hq hs N).mul (d i)).congr fun t _=>Rat.mul_comm _ _,hz,?_⟩;have Yx:D.pv D.m=D.m+D.q+1:=by unfold Dc.pv;rw[aI be]
 rw[DO fun i N=>?_,Yx]
 .refine tS (tS hd ?_) ?_
  .unfold Dc.ext;rw[hm,hq,aI be,aI be,aI be];decide
  .rw[uu (C9:=fun i t=>d i*E9.ext i t) (q:=D.fF) fun i k _ R=>by unfold Dc.pv;rw[aM R]];exact U
 .rw[Yx];unfold Dc.ext;rw[hm,hq,aM N,aI be,aI be,bL]
theorem Dc.Sz.part(h:D.Sz B F8)(hz:∀i,i<D.m->F8 i (D.m+D.q+1)=0):tu F8 D.fF D.m≠0:=fun e=>by
 have Yx:D.pv D.m=D.m+D.q+1:=by unfold Dc.pv;rw[aI be]
 refine h.nz ?_;rw[DO fun i N=>by rw[Yx];exact hz i N,uu (C9:=F8) (q:=D.fF) fun i k _ R=>by unfold Dc.pv;rw[aM R],e,bL]
end
def Aj(b:List Rat):Nat->Nat
 |0=>0
 |i+1=>if b.getD i 0<b.getD (Aj b i) 0 then i else Aj b i
theorem tZ(b:List Rat):∀n,(0<n->Aj b n<n)/\∀i,i<n->b.getD (Aj b n) 0<=b.getD i 0
 |0=>⟨fun h=>be,fun i h=>be⟩
 |n+1=>by
  obtain⟨Y,I⟩:=tZ b n;rw[Aj];split
  .rename_i g;refine⟨fun _=>be,fun i N=>?_⟩;rcases aW i n with h3|h3
   .exact Rat.le_of_lt ((by have:=I i h3;grind:b.getD n 0<b.getD i 0))
   .rw[show i=n by omega];exact Rat.le_refl
  .rename_i g;refine⟨fun _=>?_,fun i N=>?_⟩
   .rcases bH n with h3|h3
    .subst h3;show 0<1;omega
    .have:=Y h3;omega
   .rcases aW i n with h3|h3
    .exact I i h3
    .rw[show i=n by omega];exact Rat.not_lt.1 g
def Tb.begin(Fn:List (List Rat))(b c:List Rat):Tb:=⟨(List.range Fn.length).map fun i=>c.length+i,List.range c.length,Fn,b,c,0⟩
def Tb.Hm(Fn:List (List Rat))(b c:List Rat):Tb:=⟨(List.range Fn.length).map fun i=>c.length+i,List.range c.length++[c.length+Fn.length],Fn.map fun r=>r++[-1],b,dx c.length++[-1],0⟩
def Tb.del(t:Tb)(k:Nat):Tb:={t with fs:=t.fs.eraseIdx k,a:=t.a.map fun r=>r.eraseIdx k,c:=t.c.eraseIdx k}
def Tb.jH(t:Tb)(n:Nat)(c:List Rat):Nat->List Rat
 |0=>t.fs.map fun v=>if v<n then c.getD v 0 else 0
 |i+1=>if t.bs.getD i 0<n then rJ (t.jH n c i) (-(c.getD (t.bs.getD i 0) 0)) (t.a.getD i [])else t.jH n c i
def Tb.kR(t:Tb)(n:Nat)(c:List Rat):Nat->Rat
 |0=>0
 |i+1=>if t.bs.getD i 0<n then t.kR n c i+c.getD (t.bs.getD i 0) 0*t.b.getD i 0 else t.kR n c i
def Tb.rest(t:Tb)(n:Nat)(c:List Rat):Tb:={t with c:=t.jH n c t.bs.length,top:=t.kR n c t.bs.length}
section
variable{Fn:List (List Rat)}{b c:List Rat}{t:Tb}{D:Dc}
theorem DP{n i:Nat}(h:i<n):(List.range n).getD i 0=i:=by rw[List.getD,cO h];rfl
theorem DQ{n i:Nat}(h:i<n):((List.range n).map f).getD i 0=f i:=by rw[List.getD,aU,cO h];rfl
theorem Rp.start(hA:iq c.length Fn)(A:b.length=Fn.length):Rp (Tb.begin Fn b c) (iE Fn.length c.length (dU Fn) (fun i=>b.getD i 0) fun j=>c.getD j 0):=
 ⟨by simp[Tb.begin,iE],by simp[Tb.begin,iE],rfl,hA,A,rfl,fun i N=>DQ N,fun j hj=>DP hj,fun i j _ _=>rfl,fun i _=>rfl,fun j _=>rfl,rfl⟩
theorem pK{α:Type}{l:List α}{x d:α}(h:j<=l.length):(l++[x]).getD j d=if j<l.length then l.getD j d else x:=by
 rcases aW j l.length with Y|Y
 .rw[aM Y,List.getD,aN Y];rfl
 .rw[aI be,List.getD,aP Y,show j-l.length=0 by omega];rfl
theorem Rp.Hm(hA:iq c.length Fn)(A:b.length=Fn.length):Rp (Tb.Hm Fn b c) (eI Fn.length c.length (dU Fn) fun i=>b.getD i 0):=by
 refine⟨by simp[Tb.Hm,eI],by simp[Tb.Hm,eI],by simp[Tb.Hm,eI],fun r hr=>?_,A,by simp[Tb.Hm,eI,dx],fun i N=>DQ N,fun j hj=>?_,fun i j N hj=>?_,fun i _=>rfl,fun j hj=>?_,rfl⟩
 .obtain⟨x,E,rfl⟩:=bE.1 (show r∈Fn.map fun r=>r++[-1]from hr);rw[aV,hA x E];rfl
 .have hj:j<c.length+1:=hj;show(List.range c.length++[c.length+Fn.length]).getD j 0=if j<c.length then j else c.length+Fn.length
  rw[pK (by rw[List.length_range];omega),List.length_range];split
  .rename_i g;exact DP g
  .rfl
 .have N:i<Fn.length:=N;have hj:j<c.length+1:=hj;show((Fn.map fun r=>r++[-1]).getD i []).getD j 0=if j<c.length then dU Fn i j else -1
  rw[getD_map [] [] N,pK (by rw[hA.getD N];omega),hA.getD N];rfl
 .have hj:j<c.length+1:=hj;show(dx c.length++[-1]).getD j 0=if j<c.length then 0 else -1
  rw[pK (by simp[dx];omega),jO];simp[dx]
theorem getD_erase{α:Type}{l:List α}{d:α}{k:Nat}:(l.eraseIdx k).getD j d=l.getD (eP k j) d:=by
 unfold eP;rw[List.getD,List.getElem?_eraseIdx,List.getD];split<;>rfl
theorem km(t:Tb)(n:Nat)(c:List Rat):∀i,(t.jH n c i).length=t.fs.length
 |0=>by rw[Tb.jH,aO]
 |i+1=>by
  rw[Tb.jH];split
  .rw[oJ];exact km t n c i
  .exact km t n c i
theorem GK(t:Tb)(n:Nat)(c:List Rat){j:Nat}(hj:j<t.fs.length):∀i,(t.jH n c i).getD j 0=(if t.fs.getD j 0<n then c.getD (t.fs.getD j 0) 0 else 0)-cw (fun i=>if t.bs.getD i 0<n then c.getD (t.bs.getD i 0) 0*dU t.a i j else 0) i
 |0=>by rw[Tb.jH,getD_map 0 0 hj];show _=_-(0:Rat);grind
 |i+1=>by
  have ih:=GK t n c hj i;rw[Tb.jH,cw];split
  .rw[ES (by rw[km];exact hj),ih];show _+ -_*dU t.a i j=_;grind
  .rw[ih];grind
theorem GL(t:Tb)(n:Nat)(c:List Rat):∀i,t.kR n c i=cw (fun i=>if t.bs.getD i 0<n then c.getD (t.bs.getD i 0) 0*t.b.getD i 0 else 0) i
 |0=>rfl
 |i+1=>by
  rw[Tb.kR,cw,GL t n c i];split
  .rfl
  .rw[cI]
theorem Rp.cut(h:Rp t D){k n:Nat}(R:k<D.q):Rp ((t.del k).rest n c) (D.cut k n fun j=>c.getD j 0):=by
 have SU:∀j,j<D.q-1->eP k j<D.q:=fun j hj=>by unfold eP;split<;>omega
 have Qp:(t.del k).fs.length=D.q-1:=by
  show(t.fs.eraseIdx k).length=_;rw[List.length_eraseIdx,aM (by rw[h.Nv];exact R),h.Nv]
 have RG:∀i j,i<D.m->dU (t.del k).a i j=dU t.a i (eP k j):=fun i j N=>by
  show((t.a.map fun r=>r.eraseIdx k).getD i []).getD j 0=_;rw[getD_map [] [] (by rw[h.al];exact N),getD_erase];rfl
 have Yt:∀j,(t.del k).fs.getD j 0=t.fs.getD (eP k j) 0:=fun j=>getD_erase;refine⟨h.KR,Qp,?_,fun r hr=>?_,h.bl,?_,h.fF,fun j hj=>?_,fun i j N hj=>?_,h.eb,fun j hj=>?_,?_⟩
 .show(t.a.map _).length=_;rw[aO];exact h.al
 .obtain⟨x,E,rfl⟩:=bE.1 (show r∈t.a.map fun r=>r.eraseIdx k from hr);rw[List.length_eraseIdx,h.aw x E,aM R];rfl
 .show((t.del k).jH n c _).length=D.q-1;rw[km,Qp]
 .show(t.del k).fs.getD j 0=D.eV (eP k j);rw[Yt,h.eV _ (SU j hj)]
 .show dU (t.del k).a i j=D.a i (eP k j);rw[RG i j N,h.ea _ _ N (SU j hj)]
 .have hj:j<D.q-1:=hj;show((t.del k).jH n c t.bs.length).getD j 0=(if D.eV (eP k j)<n then c.getD (D.eV (eP k j)) 0 else 0)-cw (fun i=>if D.fF i<n then c.getD (D.fF i) 0*D.a i (eP k j)else 0) D.m;rw[GK _ _ _ (by rw[Qp];exact hj),Yt,h.eV _ (SU j hj),h.KR];congr 1;refine cY fun i N=>?_;rw[show (t.del k).bs.getD i 0=D.fF i from h.fF i N,RG i j N,h.ea _ _ N (SU j hj)]
 .show(t.del k).kR n c t.bs.length=cw (fun i=>if D.fF i<n then c.getD (D.fF i) 0*D.b i else 0) D.m;rw[GL,h.KR];refine cY fun i N=>?_;rw[show (t.del k).bs.getD i 0=D.fF i from h.fF i N,show(t.del k).b.getD i 0=D.b i from h.eb i N]
end
structure LS(m n B:Nat)(Fn:Nat->Nat->Rat)(b c d:Nat->Rat):Prop where
 nz:∀i,i<m+1->d i≠0
 id:∀i,i<m+1->Ib B (d i)
 ia:∀i j,i<m->j<n->Ib B (d i*Fn i j)
 ib:∀i,i<m->Ib B (d i*b i)
 ic:∀j,j<n->Ib B (d m*c j)
 one:1<=B
section
variable{m n B:Nat}{Fn:Nat->Nat->Rat}{b c d:Nat->Rat}{D:Dc}
theorem Ak{i:Nat}(N:i<m)(hv:v<n+m):(iE m n Fn b c).ext i v=if v<n then Fn i v else il v (n+i):=by
 unfold Dc.ext;rw[aM (show i<(iE m n Fn b c).m from N),aM (show v<(iE m n Fn b c).m+(iE m n Fn b c).q from(by omega:v<m+n))];show il v (n+i)+cw (fun j=>Fn i j*il v j) n=_;unfold il;by_cases h:v<n
 .rw[aM h,aI be,eR h fun j _ e=>by rw[aI e,bL],aM rfl,Rat.mul_one,Rat.zero_add]
 .rw[aI h,cY (g:=fun _=>0) fun j hj=>by rw[aI be,bL],dh,cI]
theorem Al{i:Nat}(N:i<m)(hv:v<n+m):(eI m n Fn b).ext i v=if v<n then Fn i v else il v (n+i):=by
 unfold Dc.ext;rw[aM (show i<(eI m n Fn b).m from N),aM (show v<(eI m n Fn b).m+(eI m n Fn b).q from(by omega:v<m+(n+1)))];show il v (n+i)+cw (fun j=>(if j<n then Fn i j else -1)*il v (if j<n then j else n+m)) (n+1)=_;show il v (n+i)+(cw (fun j=>(if j<n then Fn i j else -1)*il v (if j<n then j else n+m)) n+(if n<n then Fn i n else -1)*il v (if n<n then n else n+m))=_;rw[aI (Nat.lt_irrefl n),aI (Nat.lt_irrefl n),cY (g:=fun j=>Fn i j*il v j) fun j hj=>by rw[aM hj,aM hj]];unfold il;rw[aI (show ¬n+m=v by omega)];by_cases h:v<n
 .rw[aM h,aI be,eR h fun j _ e=>by rw[aI e,bL],aM rfl,Rat.mul_one];grind
 .rw[aI h,cY (g:=fun _=>0) fun j hj=>by rw[aI be,bL],dh];grind
theorem Ib.ind{B:Nat}{q:Rat}(h:Ib B q)(v w:Nat):Ib B (q*il v w):=by
 unfold il;split
 .rw[Rat.mul_one];exact h
 .rw[bL];exact Ib.zero _
theorem DR(h:LS m n B Fn b c d):∀i t,i<m+1->t<m+n+2->Ib B (d i*(iE m n Fn b c).ext i t):=fun i t N ht=>by
 rcases aW i m with Y|Y
 .rcases aW t (n+m)with I|I
  .rw[Ak Y I];split
   .rename_i g;exact h.ia i t Y g
   .exact(h.id i N).ind _ _
  .unfold Dc.ext;rw[aM (show i<(iE m n Fn b c).m from Y),aI (show ¬t<(iE m n Fn b c).m+(iE m n Fn b c).q from(by omega:¬t<m+n))];split
   .exact h.ib i Y
   .rw[bL];exact Ib.zero _
 .obtain rfl:i=m:=by omega
  unfold Dc.ext;rw[aI (show ¬i<(iE i n Fn b c).m from Nat.lt_irrefl _)];split
  .show Ib B (d i* -(cw (fun j=>c j*il t j) n));have e:d i* -(cw (fun j=>c j*il t j) n)= -(d i*cw (fun j=>c j*il t j) n):=by grind
   rw[e];refine Ib.neg ?_;unfold il;by_cases g:t<n
   .rw[eR g fun j _ e=>by rw[aI e,bL],aM rfl,Rat.mul_one];exact h.ic t g
   .rw[cY (g:=fun _=>0) fun j hj=>by rw[aI be,bL],dh,bL];exact Ib.zero _
  .split
   .show Ib B (d i*0);rw[bL];exact Ib.zero _
   .rw[Rat.mul_one];exact h.id i N
def dA(m:Nat)(d:Nat->Rat)(i:Nat):Rat:=if i<m then d i else 1
theorem KU(h:LS m n B Fn b c d):∀i t,i<m+1->t<m+(n+1)+2->Ib B (dA m d i*(eI m n Fn b).ext i t):=fun i t N ht=>by
 unfold dA;rcases aW i m with Y|Y
 .rw[aM Y];rcases aW t (n+m)with I|I
  .rw[Al Y I];split
   .rename_i g;exact h.ia i t Y g
   .exact(h.id i N).ind _ _
  .rcases aW t (n+m+1)with h3|h3
   .obtain rfl:t=n+m:=by omega
    have e:=(eI m n Fn b).MH (tX m n Fn b) (i:=i) (j:=n) Y (cG n);rw[show (eI m n Fn b).eV n=n+m from aI (Nat.lt_irrefl n),show(eI m n Fn b).a i n= -1 from aI (Nat.lt_irrefl n)]at e;rw[e,show d i* -1= -(d i) by grind];exact(h.id i N).neg
   .unfold Dc.ext;rw[aM (show i<(eI m n Fn b).m from Y),aI (show ¬t<(eI m n Fn b).m+(eI m n Fn b).q from(by omega:¬t<m+(n+1)))];split
    .exact h.ib i Y
    .rw[bL];exact Ib.zero _
 .rw[aI be,cR];unfold Dc.ext;rw[aI (show ¬i<(eI m n Fn b).m from by show ¬i<m;omega)];split
  .show Ib B (-(cw (fun j=>(if j<n then 0 else -1)*il t (if j<n then j else n+m)) n+(if n<n then 0 else -1)*il t (if n<n then n else n+m)));rw[aI (Nat.lt_irrefl n),aI (Nat.lt_irrefl n),cY (g:=fun _=>0) fun j hj=>by rw[aM hj,bj],dh,Rat.zero_add];exact((Ib.one h.one).neg.ind _ _).neg
  .split
   .exact Ib.zero _
   .exact Ib.one h.one
theorem LS.szD(h:LS m n B Fn b c d):(iE m n Fn b c).Sz B fun i t=>d i*(iE m n Fn b c).ext i t:=Dc.Sz.start (tW m n Fn b c) d h.nz (DR h)
theorem LS.szA(h:LS m n B Fn b c d):(eI m n Fn b).Sz B fun i t=>dA m d i*(eI m n Fn b).ext i t:=Dc.Sz.start (tX m n Fn b) (dA m d) (fun i N=>by
  unfold dA;split
  .exact h.nz i N
  .decide) (KU h)
theorem LS.aAk(h:LS m n B Fn b c d)(hs:fq D m n Fn b)(hz:D.Sz B fun i t=>dA m d i*(eI m n Fn b).ext i t){k:Nat}(R:k<D.q)(hv:D.eV k=n+m):(D.cut k n c).Sz B fun i t=>d i*(iE m n Fn b c).ext i t:=by
 have W:=hs.cut (c:=c) R hv;have hm:(D.cut k n c).m=m:=W.em;have hq:(D.cut k n c).q=n:=W.eq;refine Dc.Sz.of W.ok (tW m n Fn b c) (by rw[hm];rfl) (by rw[hq];rfl) (fun x z g=>(W.GI x z).1 g) d (by rw[hm,hq];exact DR h) (by rw[hm];exact h.nz m be) ?_;have Y:=hz.part fun i N=>by
  rw[hs.em]at N;rw[hs.em,hs.eq];unfold Dc.ext;rw[aM (show i<(eI m n Fn b).m from N),aI (show ¬m+(n+1)+1<(eI m n Fn b).m+(eI m n Fn b).q from(by omega:¬m+(n+1)+1<m+(n+1))),aI (show ¬m+(n+1)+1=(eI m n Fn b).m+(eI m n Fn b).q from(by omega:¬m+(n+1)+1=m+(n+1))),bL]
 rw[hm];rw[hs.em]at Y;rw[uu (C9:=fun i t=>dA m d i*(eI m n Fn b).ext i t) (q:=D.fF) fun i j N hj=>?_]
 .exact Y
 .have A:D.fF j<n+m:=by
   have g1:=hs.ok.bl j (by rw[hs.em];exact hj);have g2:=hs.ok.bf j k (by rw[hs.em];exact hj) R;rw[hv]at g2;rw[hs.em,hs.eq]at g1;omega
  show d i*(iE m n Fn b c).ext i (D.fF j)=dA m d i*(eI m n Fn b).ext i (D.fF j);rw[Ak N A,Al N A];unfold dA;rw[aM N]
end
theorem Am{a b:Rat}(h:¬a<b):b<=a:=Rat.not_lt.1 h
section
variable{D:Dc}{m n:Nat}{Fn:Nat->Nat->Rat}{b c:Nat->Rat}
theorem uv(h:∀i,i<m->0<=b i):(iE m n Fn b c).uq:=fun i N=>h i N
theorem fq.top_le(h:fq D m n Fn b)(hf:D.uq):D.top<=0:=by
 have Y:=h.topVal;have I:=D.ER hf (n+m);grind
theorem fq.aAl(h:fq D m n Fn b)(hf:D.uq)(ht:¬D.top<0):(∃r,r<D.m/\D.fF r=n+m/\D.b r=0)\/∃k,k<D.q/\D.eV k=n+m:=by
 have h0:D.val (n+m)=0:=by
  have Y:=h.topVal;have I:=h.top_le hf;have h3:=Am ht;grind
 rcases h.ok.all (n+m) (by rw[h.em,h.eq];omega)with⟨r,hr,e⟩|⟨k,R,e⟩
 .exact .inl ⟨r,hr,e,by rw[<-e,D.wE h.ok hr]at h0;exact h0⟩
 .exact .inr ⟨k,R,e⟩
theorem fq.out(h:fq D m n Fn b)(hf:D.uq){r:Nat}(hr:r<D.m)(hv:D.fF r=n+m)(A:D.b r=0)(hj:j<D.q)(ha:D.a r j≠0):fq (D.gZ r j) m n Fn b/\(D.gZ r j).uq/\(D.gZ r j).eV j=n+m:=
 ⟨h.gZ hr hj ha,Dc.MF hf A,by show(if j=j then D.fF r else D.eV j)=_;rw[aM rfl];exact hv⟩
theorem yt.aAm{Ds:Nat->Dc}{k:Nat}(h:yt Ds r s k)(h0:fq (Ds 0) m n Fn b):fq (Ds k) m n Fn b/\(Ds k).uq:=by
 obtain⟨Y,I,h3,h4,h5⟩:=h.at_ k (aq _);exact⟨⟨Y,h3.trans h0.em,h4.trans h0.eq,fun x z=>(h5 x z).trans (h0.GI x z)⟩,I⟩
theorem yt.same{Ds:Nat->Dc}{k:Nat}(h:yt Ds r s k)(h0:jZ (Ds 0) m n Fn b c):jZ (Ds k) m n Fn b c/\(Ds k).uq:=by
 obtain⟨Y,I,h3,h4,h5⟩:=h.at_ k (aq _);exact⟨⟨Y,h3.trans h0.em,h4.trans h0.eq,fun x z=>(h5 x z).trans (h0.GI x z)⟩,I⟩
def wJ(m n:Nat)(Fn:Nat->Nat->Rat)(b y:Nat->Rat):Prop:=(∀i,i<m->0<=y i)/\cw (fun i=>y i*b i) m<0/\∀j,j<n->0<=cw (fun i=>y i*Fn i j) m
def om(m n:Nat)(Fn:Nat->Nat->Rat)(b x:Nat->Rat):Prop:=(∀j,j<n->0<=x j)/\∀i,i<m->cw (fun j=>Fn i j*x j) n<=b i
theorem Pb(m n:Nat)(Fn:Nat->Nat->Rat)(b c:Nat->Rat):(∃y,wJ m n Fn b y)\/∃D,jZ D m n Fn b c/\D.uq:=by
 by_cases A:∀i,i<m->0<=b i
 .exact .inr ⟨_,jZ.start,uv A⟩
 .have hm:0<m:=by
   rcases bH m with h|h
   .exact absurd (fun i N=>be) A
   .exact h
  obtain⟨low,Pq⟩:∃low,low<m/\∀i,i<m->b low<=b i:=by
   have Y:=tZ ((List.range m).map b) m;have I:∀i,i<m->((List.range m).map b).getD i 0=b i:=fun i N=>by rw[List.getD,aU,cO N];rfl
   refine⟨_,Y.1 hm,fun i N=>?_⟩;have:=Y.2 i N
   rwa [I _ (Y.1 hm),I i N]at this
  have SE:b low<=0:=by
   refine Am fun g=>A fun i N=>?_;have:=Pq.2 i N;grind
  have hs0:fq ((eI m n Fn b).gZ low n) m n Fn b:=fq.start.gZ Pq.1 (cG n) (by
   show(if n<n then Fn low n else -1)≠0
   rw[aI (Nat.lt_irrefl n)];decide)
  obtain⟨Ds,r,s,k,hR,h0,hE⟩:=yt.ends hs0.ok (Af (n:=n) (Fn:=Fn) Pq.1 Pq.2 SE);obtain⟨W,hF⟩:=hR.aAm (by rw[h0];exact hs0);have hbest:∀j,j<(Ds k).q->¬0<(Ds k).c j:=by
   cases hE with
   |CS h=>exact h
   |MD s' Y I h3=>exact absurd (W.bounded hF Y I h3) id
  by_cases ht:(Ds k).top<0
  .obtain⟨k1,k2,k3⟩:=W.none hbest;exact .inl ⟨_,fun i _=>k1 i,by rw[k2];exact ht,k3⟩
  .rcases W.aAl hF ht with⟨r',Y,I,h3⟩|⟨k',Y,I⟩
   .obtain⟨j,hj,ha⟩:=W.ME Y I h3;obtain⟨g1,g2,g3⟩:=W.out hF Y I h3 hj ha;exact .inr ⟨_,g1.cut (c:=c) (k:=j) hj g3,g2⟩
   .exact .inr ⟨_,W.cut (c:=c) Y I,hF⟩
theorem JJ(m n:Nat)(Fn:Nat->Nat->Rat)(b c:Nat->Rat):(∃y,wJ m n Fn b y)\/∃D,jZ D m n Fn b c/\D.uq/\D.End:=by
 rcases Pb m n Fn b c with h|⟨D,Y,I⟩
 .exact .inl h
 .obtain⟨Ds,r,s,k,hR,h0,hE⟩:=yt.ends Y.ok I;obtain⟨g1,g2⟩:=hR.same (by rw[h0];exact Y);exact .inr ⟨_,g1,g2,hE⟩
theorem sB{f g:Nat->Rat}:∀{n:Nat},(∀k,k<n->f k<=g k)->cw f n<=cw g n
 |0,_=>Rat.le_refl
 |n+1,h=>by
  have Y:=sB (f:=f) (g:=g) (n:=n) fun k R=>h k be;have I:=h n be;show cw f n+f n<=cw g n+g n;grind
theorem cV(E:om m n Fn b x)(hy:∀i,i<m->0<=y i):cw (fun j=>cw (fun i=>y i*Fn i j) m*x j) n<=cw (fun i=>y i*b i) m:=by
 rw[cY (g:=fun j=>cw (fun i=>y i*Fn i j*x j) m) fun j _=>by rw[jN],jt];refine sB fun i N=>?_;rw[cY (g:=fun j=>y i*(Fn i j*x j)) fun j _=>by grind,fV];have Y:=E.2 i N;have I:=hy i N;have h3:=Rat.mul_nonneg I (show 0<=b i-cw (fun j=>Fn i j*x j) n by grind);grind
theorem ET(E:om m n Fn b x)(hy:∀i,i<m->0<=y i)(hc:∀j,j<n->c j<=cw (fun i=>y i*Fn i j) m):cw (fun j=>c j*x j) n<=cw (fun i=>y i*b i) m:=by
 refine Rat.le_trans (sB fun j hj=>?_) (cV E hy);have Y:=hc j hj;have I:=E.1 j hj;have h3:=Rat.mul_nonneg (show 0<=cw (fun i=>y i*Fn i j) m-c j by grind) I;grind
theorem wJ.no(h:wJ m n Fn b y)(E:om m n Fn b x):False:=by
 have Y:=ET (c:=fun _=>0) E h.1 h.2.2;rw[cY (g:=fun _=>0) fun j _=>bj _,dh]at Y;have:=h.2.1;grind
theorem jZ.aAn(h:jZ D m n Fn b c)(hf:D.uq):om m n Fn b D.val:=by
 obtain⟨Y,I,-⟩:=h.jv hf;exact⟨fun j _=>Y j,I⟩
theorem jZ.CS(h:jZ D m n Fn b c)(A:∀j,j<D.q->¬0<D.c j)(E:om m n Fn b x):cw (fun j=>c j*x j) n<=D.top:=by
 obtain⟨Y,I,h3⟩:=h.aAi A;have h4:=ET E (fun i _=>Y i) h3
 rwa [I]at h4
def KV(m n:Nat)(Fn:Nat->Nat->Rat)(c y:Nat->Rat):Prop:=om m n Fn (fun _=>0) y/\0<cw (fun j=>c j*y j) n
theorem jZ.MD(h:jZ D m n Fn b c){s:Nat}(hs:s<D.q)(hc:0<D.c s)(ha:∀i,i<D.m->D.a i s<=0):KV m n Fn c (D.dir s):=by
 obtain⟨Y,I,h3⟩:=h.ray hs ha;exact⟨⟨fun j _=>Y j,I⟩,by rw[h3];exact hc⟩
theorem ML{z:Nat->Rat}(hr:KV m n Fn c z)(hy:∀i,i<m->0<=y i)(hc:∀j,j<n->c j<=cw (fun i=>y i*Fn i j) m):False:=by
 have Y:=ET hr.1 hy hc;rw[cY (f:=fun i=>y i*0) (g:=fun _=>0) fun i _=>bL _,dh]at Y;have:=hr.2;grind
end
def CN:Nat->Nat->List (List Nat)
 |0,_=>[[]]
 |k+1,n=>(List.range' k (n-k)).flatMap fun last=>(CN k last).map fun l=>l++[last]
theorem wK:∀(k n:Nat) (l:List Nat),l∈CN k n↔l.length=k/\l.Pairwise (· < ·)/\∀x∈l,x<n
 |0,n,l=>by
  rw[CN,aX];constructor
  .rintro rfl;exact⟨rfl,List.Pairwise.nil,fun x h=>by cases h⟩
  .rintro⟨h,-⟩;exact List.length_eq_zero_iff.1 h
 |k+1,n,l=>by
  rw[CN,List.mem_flatMap];constructor
  .rintro⟨last,Y,I⟩;obtain⟨l',h3,rfl⟩:=bE.1 I;rw[List.mem_range'_1]at Y;obtain⟨g1,g2,g3⟩:=(wK k last l').1 h3;refine⟨by rw[aV,g1];rfl,List.pairwise_append.2 ⟨g2,List.pairwise_singleton _ _,fun a ha b A=>by rw[aX.1 A];exact g3 a ha⟩,fun x E=>?_⟩;rcases bB.1 E with E|E
   .have:=g3 x E;omega
   .rw[aX.1 E];omega
  .rintro⟨Y,I,h3⟩;obtain⟨l',last,rfl⟩:∃l' last,l=l'++[last]:=by
    rcases List.eq_nil_or_concat l with h|⟨l',a,h⟩
    .rw[h]at Y;cases Y
    .exact⟨l',a,by rw[h,List.concat_eq_append]⟩
   rw[aV]at Y;have R:l'.length=k:=by have:[last].length=1:=rfl;omega
   obtain⟨g1,-,g2⟩:=List.pairwise_append.1 I;have g2:∀x∈l',x<last:=fun x E=>g2 x E last (aX.2 rfl);have WX:k<=last:=by
    have:=xU last k (fun i=>l'.getD i 0) (fun i N=>g2 _ (by rw[List.getD,aE be];exact bp _)) fun i j N hj e=>by
     rw[List.getD,aE be,List.getD,aE be]at e;have h4:=List.pairwise_iff_getElem.1 g1;rcases cP i j with g|g|g
     .have:=h4 i j be be g;simp only[Option.getD_some]at e;omega
     .exact g
     .have:=h4 j i be be g;simp only[Option.getD_some]at e;omega
    exact this
   have Tn:=h3 last (List.mem_append_right _ (aX.2 rfl));exact⟨last,List.mem_range'_1.2 ⟨WX,be⟩,bE.2 ⟨l',(wK k last l').2 ⟨R,g1,g2⟩,rfl⟩⟩
def tE(m n v:Nat):Nat:=if v<n then m+v else v-n
def GM(m:Nat)(Fn:Nat->Nat->Rat)(e k:Nat):Rat:=if e<m then Fn e k else if k=e-m then 1 else 0
def An(m:Nat)(b:Nat->Rat)(e:Nat):Rat:=if e<m then b e else 0
section
variable{D:Dc}{m n:Nat}{Fn:Nat->Nat->Rat}{b c x:Nat->Rat}
theorem KW{k:Nat}(R:k<n)(x:Nat->Rat):cw (fun j=>GM m Fn (m+k) j*x j) n=x k:=by
 unfold GM;rw[eR R fun j _ e=>by rw[aI be,aI be,bj],aI be,aM be,cR]
theorem MM{i:Nat}(N:i<m)(x:Nat->Rat):cw (fun j=>GM m Fn i j*x j) n=cw (fun j=>Fn i j*x j) n:=cY fun j _=>by unfold GM;rw[aM N]
theorem GN(hv:v<m+n)(x:Nat->Rat):cw (fun j=>GM m Fn (tE m n v) j*x j) n=An m b (tE m n v)↔full m n Fn b x v=0:=by
 unfold tE;rcases aW v n with h|h
 .rw[aM h,KW h,tY h];unfold An;rw[aI be]
 .obtain⟨i,rfl⟩:∃i,v=n+i:=⟨v-n,be⟩
  rw[aI be,Nat.add_sub_cancel_left,MM be,z6];unfold An;rw[aM be];constructor<;>intro g<;>grind
theorem Pc{w:Nat}(hv:v<m+n)(G:w<m+n)(e:tE m n v=tE m n w):v=w:=by
 unfold tE at e;split at e<;>split at e<;>omega
theorem PA(hv:v<m+n):tE m n v<m+n:=by unfold tE;split<;>omega
theorem jZ.uni(h:jZ D m n Fn b c)(E:∀j,j<D.q->full m n Fn b x (D.eV j)=0):∀v,v<n->x v=D.val v:=fun v hv=>by
 have Y:=((h.GI _ _).2 (GH (c:=c) x)).1;have I:∀i,D.row (full m n Fn b x) i=0:=fun i=>by
  unfold Dc.row;rw[cY (g:=fun _=>0) fun j hj=>by rw[E j hj,bL],dh]
 rw[<-tY (m:=m) (Fn:=Fn) (b:=b) (x:=x) hv];rcases h.ok.all v (by rw[h.em,h.eq];omega)with⟨i,N,e⟩|⟨j,hj,e⟩
 .rw[<-e,Y i N,I,D.wE h.ok N];grind
 .rw[<-e,E j hj,D.wI h.ok hj]
theorem jZ.MN(h:jZ D m n Fn b c)(hv:v<m+n):full m n Fn b D.val v=D.val v:=by
 have Y:=((h.GI _ _).1 (D.wG h.ok)).1;rcases aW v n with g|g
 .exact tY g
 .obtain⟨i,rfl⟩:∃i,v=n+i:=⟨v-n,be⟩
  rw[z6];exact(Y i (show i<m by omega)).symm
def eo(D:Dc)(m n:Nat):List Nat:=(List.range (m+n)).filter fun e=>decide (∃j,j<D.q/\tE m n (D.eV j)=e)
end
end Go.Ex
namespace Go.Ex
open Go Go.Sx Go.Proofs
variable{b:List (Int×Int)}{M:List (List (Int×Int))}{ps x:List Nat}{qs ys:List Rat}{cs:List Value}{h:Nat}{S:Nat->Prop}{u v:Value}{w:World}
def kA(w:World)(S:Nat->Prop)(rv:List Value)(Fd:List (List Nat)):Prop:=rv.length=Fd.length/\(∀u∈rv,u.oneCell'=true)/\∀(i:Nat) u r,rv[i]? =some u->Fd[i]? =some r->eD w S u r
section
variable{S S':Nat->Prop}{H:Hp}{nx:Nat}{iv K:Iv}{B:Nat}{w J F:World}{O:Nat->Sx.eH}{rv:List Value}{Fd:List (List Nat)}{v:Value}
theorem kA.cX(h:kA w S rv Fd)(R:∀g,S g->F.heap[g]? =w.heap[g]?):kA F S rv Fd:=⟨h.1,h.2.1,fun i u x Y I=>eD.cX (h.2.2 i u x Y I) R⟩
theorem kA.cV(h:kA w S rv Fd)(R:∀g,S g->S' g):kA w S' rv Fd:=⟨h.1,h.2.1,fun i u x Y I=>eD.cV (h.2.2 i u x Y I) R⟩
theorem kA.rel(h:kA w (Cv S B iv) rv Fd)(r:Rel H nx iv B w O J)(W:∀g,S g->g<B):kA J (Cv S B iv) rv Fd:=h.cX fun _ V=>rls r W V
theorem kA.cS(h:kA w (Cv S B iv) rv Fd)(r:Rel H nx iv B w O J)(W:∀g,S g->g<B)(L:Ext J F)(hm:∀p,p∈iv->p∈K):kA F (Cv S B K) rv Fd:=
 ((h.rel r W).cX fun g V=>L.block g (rlo r W g V)).cV fun _ V=>V.mono hm
theorem kA.push(h:kA w S rv Fd)(hu:u.oneCell'=true)(E:eD w S u x):kA w S (rv++[u]) (Fd++[x]):=by
 refine⟨by simp[h.1],fun v hv=>?_,fun i v y Y I=>?_⟩
 .rcases bB.1 hv with hv|hv
  .exact h.2.1 v hv
  .simp at hv;subst hv;exact hu
 .rcases aW i rv.length with N|N
  .rw[aN N]at Y;rw[aN (by rw[<-h.1];exact N)]at I;exact h.2.2 i v y Y I
  .have Vz:i=rv.length:=by have:=(aH.1 Y).1;simp at this;omega
   subst Vz;rw[aP lr,bY]at Y;rw[h.1,aP lr,bY]at I;simp at Y I;subst Y I;exact E
theorem eD.cell{a:Option Addr}{m c j p:Nat}(h:eD w S (.slice a m c) ps)(hj:ps[j]? =some p):∃ad,a=some ad/\S ad.block/\w.cell? (ad.add (j*1))=some (iV (p:Int)):=by
 obtain⟨h0,Y,I,a',c',e,h3,h4⟩:=h;injection e with e1 e2 e3;subst e1;obtain⟨ad,k1,k2,k3⟩:=h4 j (iV (p:Int)) (by rw[aU,hj];rfl);exact⟨ad,k1,k2,by rw[av];exact k3⟩
theorem eD.form(h:eD w S v ps):∃a c,v= .slice a ps.length c/\ps.length<=c/\ps.length<=maxLen:=by
 obtain⟨h0,Y,I,a,c,e,h3,h4⟩:=h;exact⟨a,c,e,h3,h0⟩
end
abbrev rV:=dH eD
section
variable{S S':Nat->Prop}{iv K:Iv}{B:Nat}{w J F:World}{v:Value}{Do:List (List Nat)}
theorem rV.cX(h:rV w S v Do)(R:∀g,S g->F.heap[g]? =w.heap[g]?):rV F S v Do:=by
 obtain⟨rv,Y,I,h3⟩:=h;exact⟨rv,fe.cX Y R,I,fun i u x k1 k2=>eD.cX (h3 i u x k1 k2) R⟩
theorem rV.cV(h:rV w S v Do)(R:∀g,S g->S' g):rV w S' v Do:=by
 obtain⟨rv,Y,I,h3⟩:=h;exact⟨rv,fe.cV Y R,I,fun i u x k1 k2=>eD.cV (h3 i u x k1 k2) R⟩
end
def OV(k:Nat)(j:Nat):List (List Nat):=(List.range' k j).flatMap fun last=>(CN k last).map fun l=>l++[last]
theorem Mv{k j:Nat}:OV k j++(CN k (k+j)).map (fun l=>l++[k+j])=OV k (j+1):=by
 unfold OV;rw[List.range'_1_concat,List.flatMap_append];simp
theorem Et{α:Type}{β:Type}{f:α->List β}{B:Nat}:∀l:List α,(∀x∈l,(f x).length<=B)->(l.flatMap f).length<=l.length*B
 |[],_=>by simp
 |a::l,h=>by
  have Y:=Et l fun x E=>h x (aD _ E);have I:=h a aF;rw[List.flatMap_cons,aV,bm,Nat.succ_mul];omega
theorem zf:∀k n,n<=20->(CN k n).length<=20^k
 |0,_,_=>by simp[CN]
 |k+1,n,U=>by
  rw[CN];refine aR (Et (B:=20^k) _ fun x E=>?_) ?_
  .rw[List.mem_range'_1]at E;rw[aO];exact zf k x be
  .rw[List.length_range',Nat.pow_succ,bc];exact bC _ be
theorem Ji{k j:Nat}(h:j<=20-k):(OV k j).length<=20*20^k:=by
 refine aR (Et (B:=20^k) _ fun x E=>?_) ?_
 .rw[List.mem_range'_1]at E;rw[aO];exact zf k x be
 .rw[List.length_range'];exact Nat.mul_le_mul_right _ be
theorem Gv(w:World)(n:Nat):eL PG FS.jw #[iV (n:Int),iV ((0:Nat):Int)] w (eY w fun v' F=>rV F (Nf w F) v' (CN 0 n)):=by
 have G:=bR w;have hF:=iw w.heap.size;refine pZ ce ?_;intro GE we re;refine⟨_,rfl,G.tr re.cj,?_⟩;have Y:=re.kJ (id:=1) (sz:=1) (n:=1) rfl rfl bv (by intro u hu;simp at hu;rcases hu with rfl;simp[At.den,Value.oneCell']);have l1:=re.low 1 _ rfl (re.fits (id:=1) rfl).1;have Ww:(GE 0).nil=false:=(re.fits (id:=0) rfl).1;refine⟨_,Y.cV fun g V=>.inr (by rw[V];exact l1),rfl,fun i u x k1 k2=>?_⟩;rcases i with _|i
 .injection k1 with k1;injection k2 with k2;subst k1 k2;exact⟨ae _,rfl,ce,some ⟨(GE 0).g,0,none⟩,0,by simp[At.den],lr,fun j u h=>by cases h⟩
 .cases k2
theorem Gw{k:Nat}(ih:∀(n:Nat) (w:World),n<=20->eL PG FS.jw #[iV (n:Int),iV (k:Int)] w (eY w fun v' F=>rV F (Nf w F) v' (CN k n)))(w:World)(n:Nat)(U:n<=20)(R:k<=4):
  eL PG FS.jw #[iV (n:Int),iV ((k+1:Nat):Int)] w (eY w fun v' F=>rV F (Nf w F) v' (CN (k+1) n)):=by
 have G:=bR w;have hF:=iw w.heap.size;refine pZ ce ?_;refine⟨((k:Nat):Int),wo,Nat×List Value×World×Iv,fun z=>⟨[(0,.o (.v (iV (n:Int)))),(1,iN (k+1)),(5,.o (.w 0 (z.2.1).length)),(6,iN (k+z.1))],[(0,.vec T.Lint 1 (z.2.1))],1,z.2.2.2,z.2.2.1⟩,fun z=>n-k-z.1,fun z=>z.1<=n-k/\Bq w z.2.2.1/\kA z.2.2.1 (Cf w z.2.2.2) z.2.1 (OV k z.1),?_,?_⟩
 .intro O J r;exact⟨(0,[],J,[]),⟨ae _,G.tr r.cj,by simp[kA,OV]⟩,Sub.nil 5 T.Lint 1 rfl (by simp[jn,SV.sc,At.sc,fu]) r fun I9 r1=>sbgn [] r1⟩
 clear G;rintro⟨j,rv,w1,iv⟩ ⟨hj,G,hR⟩;dsimp only at hj G hR ⊢;apply bS<;>intro Pk
 .have Pk:k+j<n:=by have:=aJ Pk;omega
  refine⟨((k:Nat):Int),wo,?_⟩;refine cW (cU (GT:=fun _ J v F=>rV F (Nf J F) v (CN k (k+j))) (fun O J r=>ih (k+j) J be) ?_);rintro O wa v1 wb r L Pw hO;replace hO:=rV.cV (S':=Cf w ((wa.heap.size,wb.heap.size)::iv)) hO fun g V=>V.ep r.cZ aF;replace hR:=hR.cS (K:=(wa.heap.size,wb.heap.size)::iv) r hF L fun p hp=>aD _ hp;replace G:=G.tr Pw;clear r L Pw;generalize (wa.heap.size,wb.heap.size)::iv=ivn at*
  have hLl:=zf k (k+j) be;have Zt:=Ji (k:=k) (j:=j) be;have Zs:20^k<=160000:=aR (Nat.pow_le_pow_right bv R) bv;generalize 20^k=pw at hLl Zt Zs;obtain⟨Do,hL⟩:∃Do,Do=CN k (k+j):=⟨_,rfl⟩
  rw[<-hL]at hO hLl;obtain⟨al,cl,rfl,Qg,VH⟩:=dH.shape hO;have QO:=hR.1;refine⟨Nat×List Value×World×Iv,fun z=>⟨[(0,.o (.v (iV (n:Int)))),(1,iN (k+1)),(5,.o (.w 0 (z.2.1).length)),(6,iN (k+j)),(7,sV al Do.length cl),(8,iN z.1)],[(0,.vec T.Lint 1 (z.2.1))],1,z.2.2.2,z.2.2.1⟩,fun z=>Do.length-z.1,fun z=>z.1<=Do.length/\Bq w z.2.2.1/\kA z.2.2.1 (Cf w z.2.2.2) z.2.1 (OV k j++(Do.take z.1).map fun l=>l++[k+j])/\rV z.2.2.1 (Cf w z.2.2.2) (.slice al Do.length cl) Do,?_,?_⟩
  .intro O J r;exact⟨(0,rv,J,_),⟨ae _,G.tr r.cj,by simpa using hR.rel r hF,rV.cX hO fun g V=>rls r hF V⟩,sbgn [] r⟩
  clear G hR hO QO;rintro⟨i,rv,w1,iv⟩ ⟨N,G,hR,hO⟩;dsimp only at N G hR hO ⊢;have QO:=hR.1;rw[aV,aO,bN]at QO;apply bS<;>intro Wh
  .have Wh:=dL Wh;obtain⟨li,Ud⟩:=gO Do i;have VS:=((wK k (k+j) li).1 (by rw[<-hL];exact aG Ud)).1;obtain⟨adm,um,UN,S7,km1,km2⟩:=dH.load hO Ud;obtain⟨ai,ci,rfl,hci,hmi⟩:=eD.form S7;obtain⟨SB,Sk,Rq,ai',ci',hqe,VN,hq4⟩:=S7;injection hqe with e1 e2 e3;subst e1;subst e3;refine⟨adm,UN,be,.slice ai li.length ci,fun O J r=>?_,?_⟩
   .rw[aK,cd (w:=w1) (F:=J) (by rw[df];exact rls r hF km1)];exact km2
   refine .inl ?_;refine⟨li.map fun c:Nat=>iV (c:Int),Sk,Rq,fun O J r QU=>?_,?_⟩
   .obtain⟨u0,UX⟩:∃u,(li.map fun c:Nat=>iV (c:Int))[0]? =some u:=⟨_,aE (by rw[aO];omega)⟩
    obtain⟨ad,ha,_,_⟩:=hq4 0 u0 UX;refine⟨ad,ha,fun j u hj=>?_⟩;obtain⟨ad2,Qm,q1,q2⟩:=hq4 j u hj;rw[ha]at Qm;injection Qm with Qm;subst Qm;rw[cd (w:=w1) (F:=J) (by rw[df];exact rls r hF q1)];exact q2
   refine⟨ce,be,mx,?_⟩;refine .inl ?_;have Tu:([]++li.map (fun c:Nat=>iV (c:Int))).length=li.length:=by simp
   refine⟨be,be,mx,?_⟩;have ZN:([]++li.map (fun c:Nat=>iV (c:Int)))++[iV (((k+j:Nat):Int))]=(li++[k+j]).map fun c:Nat=>iV (c:Int):=by rw[bw];rfl
   refine Ha hτ (id3:=5) (id2:=4) (tH:=[(0,.vec T.Lint 1 rv)]) rfl rfl rfl rfl ce (by first|exact⟨rfl,trivial⟩|exact⟨rfl,rfl,trivial⟩) rfl rfl (fun O J r r2 VO=>?_);have Pm:eD J (Cf w (((O 5).g,(O 5).g+1)::tt (O 4) iv)) ((At.w 4 (0+li.length+1)).den O) (li++[k+j]):=by
    have h:=r.Df (T:=Cf w (((O 5).g,(O 5).g+1)::tt (O 4) iv)) (id:=4) (sz:=1) (m:=0+li.length+1) rfl (by rw[aV,Tu,List.length_singleton];omega) mx bv (by rw[ZN];intro u hu;obtain⟨c,-,rfl⟩:=bE.1 hu;rfl) fun U=>.inr ⟨(r.low 4 _ rfl U).1,_,_,aD _ (Lf U),lr,cG _⟩;rw[ZN]at h;unfold eD;rw[show (li++[k+j]).length=0+li.length+1 by simp];exact h
   have SG:((At.w 4 (0+li.length+1)).den O).oneCell'=true:=aBJ;have hlo3:=r.low 5 _ rfl (r.fits (id:=5) rfl).1;have hC3:Cf w (((O 5).g,(O 5).g+1)::tt (O 4) iv) (O 5).g:=.inr ⟨hlo3.1,_,_,aF,lr,cG _⟩;have TF:∀p,p∈iv->p∈((O 5).g,(O 5).g+1)::tt (O 4) iv:=fun p hp=>aD _ (Jx p hp);have RT:=G.tr r.cj;have UO:=(kA.cV (hR.rel r hF) fun g V=>Cv.mono V TF).push SG Pm;have TK:=rV.cV (rV.cX hO fun g V=>rls r hF V) fun g V=>Cv.mono V TF;rw[show (OV k j++(Do.take i).map fun l=>l++[k+j])++[li++[k+j]]=OV k j++(Do.take (i+1)).map fun l=>l++[k+j] by rw[bM,Ud];simp]at UO;clear r2 hlo3 Pm;generalize (At.w 4 (0+li.length+1)).den O=ur at*
   generalize (O 5).g=gy at*
   generalize (gy,gy+1)::tt (O 4) iv=iv2 at*
   refine⟨[ur],rfl,by simpa using SG,fun G9 F r2 _=>⟨_,rfl,fun j u hu=>?_⟩,?_⟩
   .have h5:=rls r2 (iw _) hC3;rw[dF,cell_of (h5.trans VO)];rcases j with _|j
    .exact hu
    .cases hu
   refine⟨ce,be,mx,((i+1:Nat):Int),wo,?_⟩;intro I8 w6 r3;exact⟨(i+1,rv++[ur],w6,_),⟨Wh,RT.tr r3.cj,UO.rel r3 hF,rV.cX TK fun g V=>rls r3 hF V⟩,sbgn [(0,6)] r3 (hE:=⟨rfl,rfl,by dsimp only;rw[l1];rfl,rfl,rfl,rfl,trivial⟩),dec Wh⟩
  have Wh:=dE N Wh;rw[Wh,bK,hL,Mv]at hR;rw[Wh,Nat.min_self]at QO;refine⟨((k+(j+1):Nat):Int),wo,?_⟩;intro I8 w3 r3;exact⟨(j+1,rv,w3,_),⟨by dsimp only;omega,G.tr r3.cj,hR.rel r3 hF⟩,sbgn [] r3,by dsimp only;omega⟩
 have Pk:j=n-k:=by have:=aL Pk;omega
 rw[Pk]at hR;have Zt:=Ji (k:=k) (j:=n-k) be;have Zs:20^k<=160000:=aR (Nat.pow_le_pow_right bv R) bv;have QO:=hR.1;intro GE we re;have UO:=kA.cV (kA.rel hR re hF) fun g V=>(Cv.nw V re:Nf w we g)
 refine⟨_,rfl,G.tr re.cj,rv,?_,UO.1,UO.2.2⟩;rw[show (CN (k+1) n).length=rv.length from QO.symm];exact re.Df (id:=0) (sz:=1) (m:=rv.length) rfl be mx bv UO.2.1 fun U=>.inr (re.low 0 _ rfl U)
theorem Bn:∀(k:Nat),k<=5->∀(n:Nat) (w:World),n<=20->eL PG FS.jw #[iV (n:Int),iV (k:Int)] w (eY w fun v' F=>rV F (Nf w F) v' (CN k n))
 |0,_,n,w,_=>Gv w n
 |k+1,R,n,w,U=>Gw (Bn k be) w n U be
theorem Mz{h0:Nat}(W:Old S w)(h:dR w S v M)(hL:dS w S v (dT M))(hu:dC w S u (b.map dD))(Qw:∀r∈M,r.length=dM M)(Pw:b.length=M.length)(hR:M.length<=1000)(U:dM M<=999)
  (TX:Ht (eM (dT M) (b.map dD)) h0) (I:2<=h0) (TH:4^M.length*h0<=90000):
  eL PG FS.sS #[v,u] w (eY w fun v' F=>(∃j,(dG (eM (dT M) (b.map dD)) (dM M)).2.length<=j/\j<M.length/\dU (dG (eM (dT M) (b.map dD)) (dM M)).1 j (dM M)≠0/\v'= .tuple #[nls,.bool false])\/
   ((∀j,(dG (eM (dT M) (b.map dD)) (dM M)).2.length<=j->j<M.length->dU (dG (eM (dT M) (b.map dD)) (dM M)).1 j (dM M)=0)/\∃vx,v'= .tuple #[vx,.bool true]/\cg F (Nf w F) vx (iD (dG (eM (dT M) (b.map dD)) (dM M)).1 (dG (eM (dT M) (b.map dD)) (dM M)).2 (dM M) (dG (eM (dT M) (b.map dD)) (dM M)).2.length))):=by
 have G:=bR w;have ZN:(dT M).length=M.length:=by simp[dT]
 have hlen0:iq (dM M) (dT M):=fun r hr=>by
  rw[dT]at hr;obtain⟨x,E,rfl⟩:=bE.1 hr;rw[aO];exact Qw x E
 have hlen:=ue (b:=b.map dD) hlen0;have Yy:(eM (dT M) (b.map dD)).length=M.length:=by rw[jM,ZN]
 replace h:=dR.arg h [];replace hL:=dS.arg hL [];replace hu:=dC.arg hu [];obtain⟨am,cm,rfl,SF,TG⟩:=dH.shape h;obtain⟨ab,cb,rfl,RK,-⟩:=dN.shape hu;refine BX ce ?_;refine cW (cE G (pE (iV (dM M))) (fun O J r=>qn (rlo r W) (dR.rel h r W)) ?_);rintro O _ v1 _ Pv r L G h_ rfl;replace hL:=dS.cS hL r W L (mC h_);replace hu:=dC.cS hu r W L (mC h_);refine cW (cU (GT:=fun _ J v F=>dS F (Nw (Cv S w.heap.size Pv) J F) v (eM (dT M) (b.map dD))) (fun O J r=>NZ (rlo r W) (dS.rel hL r W) (dC.rel hu r W) (by rw[aO,ZN];exact Pw) (fun r hr=>by rw[hlen0 r hr];omega) be) ?_);rintro O Qq v2 QT r L A U;replace G:=G.tr A;have hW:=dS.old U r.cZ;generalize (Qq.heap.size,QT.heap.size)::Pv=iv2 at*
 refine cW (cU (GT:=fun _ J v F=>∃vm vp,v= .tuple #[vm,vp]/\dS F (Nw (Cv S w.heap.size iv2) J F) vm (dG (eM (dT M) (b.map dD)) (dM M)).1/\eD F (Nf J F) vp (dG (eM (dT M) (b.map dD)) (dM M)).2) (fun O J r=>CJ (rlo r W) (dS.rel hW r W) hlen be be be TX I (by rw[Yy];exact TH)) ?_);rintro O Qo v3 Qc r L A ⟨vm,vp,rfl,k1,k2⟩;replace G:=G.tr A;have hA:=dS.old k1 r.cZ;have hP:=eD.ep (S:=FF) k2 r.cZ (iv:=(Qo.heap.size,Qc.heap.size)::iv2) aF;generalize (Qo.heap.size,Qc.heap.size)::iv2=Pu at*
 obtain⟨aA,cA,rfl,hcA,-⟩:=dH.shape hA;have hPs:=hP;obtain⟨-,-,-,ap,cp,rfl,hcp,-⟩:=hPs;obtain⟨Ul,QQ,Ty,hAh⟩:=lz (cols:=dM M) TX I;have hAlen:=yM (cols:=dM M) hlen;have ZQ:=Nat.mul_le_mul_right h0 (Nat.pow_le_pow_right (show 0<4 by decide) QQ);rw[Yy]at Ul QQ ZQ;generalize (dG (eM (dT M) (b.map dD)) (dM M)).1=Fn at*
 generalize (dG (eM (dT M) (b.map dD)) (dM M)).2=pv at*
 generalize dM M=cols at*
 rw[<-Ul]at hR QQ TH ⊢
 refine⟨cols,cols,rfl,rfl,lr,be,be,Nat×List (List Value)×World×Iv,fun z=>⟨[(6,iZ cols),(7,sV aA Fn.length cA),(8,sV ap pv.length cp),(9,.o (.s 0 0 cols cols)),(10,iN z.1)],[(0,.arr T.Rat z.2.1.flatten)],1,z.2.2.2,z.2.2.1⟩,fun z=>cols-z.1,
  fun z=>z.1<=cols/\z.2.1.length=cols/\(∀x∈z.2.1,x.length=4)/\Bq w z.2.2.1/\dS z.2.2.1 (Cv S w.heap.size z.2.2.2) (.slice aA Fn.length cA) Fn/\eD z.2.2.1 (Cf w z.2.2.2) (.slice ap pv.length cp) pv/\
   l9 z.2.2.1 (Cf w z.2.2.2) z.2.1 z.1,?_,?_⟩
 .intro O J r
  exact⟨(0,List.replicate cols [.bool false,nls,.bool false,nls],J,Pu),⟨ae _,ce,fun x E=>by rw[aY E];rfl,G.tr r.cj,dS.rel hA r W,eD.rel hP r oF,fun j cs hj=>by dsimp only at hj;omega⟩,
   sbgn [] r⟩
 rintro⟨k,Z,F,iv⟩ ⟨R,Qg,Vt,G,hA,hP,hz⟩;dsimp only at R Qg Vt G hA hP hz ⊢;apply bS<;>intro Ra
 .have Ra:=dL Ra;refine cW (cE G (pR dI (0)) (fun O J r=>(show ((0:Int):Rat)=0 from rfl)▸mJ 0 J bv bv) ?_);rintro O _ _ _ QD r L G h_ U;replace hA:=dS.cS hA r W L (mC h_);replace hP:=eD.cS hP r oF L (mC h_);replace hz:=hz.cS r oF L (mC h_);have h_0:=U.cV (nw r h_);obtain⟨A0,A1,A2,A3,A4,A5,A6,A7,rfl⟩:=h_0.shape;refine⟨be,?_⟩;have Qp:=fN Vt;refine⟨by rw[aK,Qp];omega,(Z.set k (rC A0 A1 A2 A3 A4 A5 A6 A7)).flatten,by rw[aK,aS];exact kq (Z:=Z) (j:=k) Vt be,((k+1:Nat):Int),wo,?_⟩;intro I8 w3 r3
  exact⟨(k+1,Z.set k (rC A0 A1 A2 A3 A4 A5 A6 A7),w3,_),⟨Ra,by simp[Qg],NX Vt rfl,G.tr r3.cj,dS.rel hA r3 W,eD.rel hP r3 oF,(hz.rel r3 oF).push (h_0.rel r3 oF).pj⟩,
   sbgn [] r3,by dsimp only;omega⟩
 have Ra:=dE R Ra;subst Ra;have hFc:Fc F (Cf w iv) Z (iD Fn pv k 0):=by
  refine⟨by rw[Qg,ju],fun j cs q Y I=>?_⟩;have hj:=(aH.1 Y).1;simp only[iD,List.range_zero,List.foldl_nil,List.getElem?_replicate]at I;split at I
  .injection I with I;rw[<-I];exact hz j cs be Y
  .cases I
 refine⟨Nat×Nat×World×Iv,fun z=>⟨[(9,.o (.v (.slice (some ⟨z.2.1,0,none⟩) k k))),(6,iZ k),(7,sV aA Fn.length cA),(8,sV ap pv.length cp),(11,iN z.1)],[],1,z.2.2.2,z.2.2.1⟩,fun z=>Fn.length-z.1,
  fun z=>z.1<=Fn.length/\(∀j,pv.length<=j->j<z.1->dU Fn j k=0)/\Bq w z.2.2.1/\(∀p,p∈iv->p∈z.2.2.2)/\¬Cv S w.heap.size iv z.2.1/\w.heap.size<=z.2.1/\dS z.2.2.1 (Cv S w.heap.size iv) (.slice aA Fn.length cA) Fn/\eD z.2.2.1 (Cf w iv) (.slice ap pv.length cp) pv/\
   gF z.2.2.1 FF w.heap.size z.2.2.2 (.slice (some ⟨z.2.1,0,none⟩) k k) k (iD Fn pv k (min z.1 pv.length)),?_,?_⟩
 .intro O J r
  exact⟨(0,(O 0).g,J,((O 0).g,(O 0).g+1)::iv),⟨ae _,fun j h3 h4=>by dsimp only at h4;omega,G.tr r.cj,fun p hp=>List.mem_cons_of_mem _ hp,fun V=>Rel.not r W V 0 _ rfl (r.fits (id:=0) rfl).1 rfl,(r.low 0 _ rfl (r.fits (id:=0) rfl).1).1,dS.rel hA r W,eD.rel hP r oF,by dsimp only;rw[Nat.zero_min];exact gF.qp r (id:=0) rfl Qg mx hFc⟩,
   Sub.qp r (id:=0) (t:=9) rfl rfl trivial rfl ⟨rfl,rfl,rfl,rfl,trivial⟩ (by simp[jn,SV.sc,At.sc])⟩
 rintro⟨i,gx,w5,QH⟩ ⟨N,hzr,G,Pn,TY,Yo,hA,hP,hX⟩;dsimp only at N hzr G Pn TY Yo hA hP hX ⊢;apply bS<;>intro Qv
 .have Qv:=dL Qv;obtain⟨ra,Sn⟩:=gO Fn i;have UH:=hAlen ra (aG Sn);obtain⟨adm,um,UN,S7,km1,km2⟩:=dH.load hA Sn;obtain⟨au,cu,rfl,hcu,-⟩:=dN.shape S7;obtain⟨q,hq⟩:=gO ra k;have RG:dU Fn i k=q:=by simp[dU,List.getD,Sn,hq]
  obtain⟨adq,cs,haq,hF,_,hl⟩:=dN.load S7 hq;obtain⟨b3,a3,n3,c3,b4,a4,n4,c4,rfl,hF⟩:=hF;have Vu:∀{H nx O J},Rel H nx QH w.heap.size w5 O J->∀{g},Cv S w.heap.size iv g->J.heap[g]? =w5.heap[g]? :=fun r g V=>rls r W (V.mono Pn);apply bS<;>intro hp0
  .have hp0:=dL hp0;obtain⟨p,Si⟩:=gO pv i;have hpd:pv.getD i 0=p:=by simp[List.getD,Si]
   have Vl:=Ty p (aG Si);have hPs:=hP;obtain⟨_,_,_,_,_,Xp,_,Sp⟩:=hPs;injection Xp with WK ZS WL;subst WK WL;obtain⟨adp,Sr,kp1,kp2⟩:=Sp i (iV (p:Int)) (by rw[aU,Si];rfl);rw[Nat.min_eq_left be]at hX;refine dP (idO 15) ?_;refine⟨adp,Sr,be,iV (p:Int),fun O J r=>?_,?_⟩
   .rw[aK,av,cd (w:=w5) (F:=J) (by rw[df];exact Vu r (qj kp1))];exact kp2
   refine⟨adm,UN,be,.slice au ra.length cu,fun O J r=>?_,?_⟩
   .rw[aK,cd (w:=w5) (F:=J) (by rw[df];exact Vu r km1)];exact km2
   refine⟨adq,haq,be,rC b3 a3 n3 c3 b4 a4 n4 c4,rfl,fun O J r j u hu=>?_,?_⟩
   .obtain⟨k1,k2⟩:=hl j u hu;rw[aK,cd (w:=w5) (F:=J) (by rw[df,df];exact Vu r k1)];exact k2
   refine cU (GT:=fun _ J v F=>dI F (Nf J F) v q) (fun O J r=>gS (fun g V=>rlo r W g (V.mono Pn)) (hF.cX fun g V=>Vu r V)) ?_;rintro O wa v1 wb r L A hO;have Qh:dI wb (fun g=>Cf w ((wa.heap.size,wb.heap.size)::QH) g/\(Value.slice (some ⟨gx,0,none⟩) k k).ownBlock≠some g) v1 q:=hO.cV fun g V=>by
    rcases V with V|V
    .exact V.elim
    .have hB:=r.cZ;have:=rlo r W gx (qj (hX.new gx rfl));refine⟨.inr ⟨be,_,_,aF,V.1,V.2⟩,fun e=>?_⟩;have e2:gx=_:=Option.some.inj e;omega
   replace hX:=hX.cS (K:=(wa.heap.size,wb.heap.size)::QH) r oF L fun x E=>aD _ E;have R5:∀g,Cv S w.heap.size iv g->wb.heap[g]? =w5.heap[g]? :=fun g V=>by rw[L.block g (rlo r W g (V.mono Pn)),rls r W (V.mono Pn)]
   replace hA:=dS.cX hA R5;replace hP:=fe.cX hP fun g V=>R5 g (qj V);replace G:=G.tr A;replace Pn:∀p,p∈iv->p∈(wa.heap.size,wb.heap.size)::QH:=fun p hp=>aD _ (Pn p hp);generalize (wa.heap.size,wb.heap.size)::QH=Qe at*
   obtain⟨b1,a1,n1,c1,b2,a2,n2,c2,rfl⟩:=Qh.shape;refine⟨⟨gx,0,none⟩,rfl,be,?_⟩;intro O J r;obtain⟨_,QY,Y,h2',h3,h4,h5⟩:=(hX.rel r oF).store Vl (dI.cX Qh fun g V=>rls r oF V.1) r oF;injection QY with QY;injection QY with QY;subst QY;have R5:∀g,Cv S w.heap.size iv g->J.heap[g]? =wb.heap[g]? :=fun g V=>rls r W (V.mono Pn);replace G:=G.tr r.cj;have hold:∀g,Cv S w.heap.size Qe g->g<J.heap.size:=rlo r W;refine⟨Y,h2',h3,fun F RT=>?_⟩;obtain⟨hX,QW,-⟩:=h5 F RT;have hkp2:∀g,Cv S w.heap.size iv g->F.heap[g]? =wb.heap[g]? :=fun g V=>by
    rw[<-R5 g V];exact QW.block g (hold g (V.mono Pn)) fun e=>by injection e with e;subst e;exact TY V
   replace hA:=dS.cX hA hkp2;replace hP:=fe.cX hP fun g V=>hkp2 g (qj V);replace G:Bq w F:=G.tr (Bel.grown QW (fun g V=>by injection V with V;subst V;exact Yo) (by have:=G.size;omega));rw[<-RG,<-hpd,<-kO]at hX;refine inc i ?_;intro I8 w3 r3;have R5:∀g,Cv S w.heap.size iv g->w3.heap[g]? =F.heap[g]? :=fun g V=>rls r3 W (V.mono Pn)
   exact⟨(i+1,gx,w3,Qe),⟨Qv,fun j h3 h4=>by dsimp only at h4;omega,G.tr r3.cj,Pn,TY,Yo,dS.cX hA R5,fe.cX hP fun g V=>R5 g (qj V),by dsimp only;rw[Nat.min_eq_left be];exact hX.rel r3 oF⟩,
    sbgn [] r3,by dsimp only;omega⟩
  have hp0:pv.length<=i:=by have:=aL hp0;omega
  refine⟨adm,UN,be,.slice au ra.length cu,fun O J r=>?_,?_⟩
  .rw[aK,cd (w:=w5) (F:=J) (by rw[df];exact Vu r km1)];exact km2
  refine⟨adq,haq,be,rC b3 a3 n3 c3 b4 a4 n4 c4,rfl,fun O J r j u hu=>?_,?_⟩
  .obtain⟨k1,k2⟩:=hl j u hu;rw[aK,cd (w:=w5) (F:=J) (by rw[df,df];exact Vu r k1)];exact k2
  refine cW (cU (GT:=fun _ J v F=>v=iV (rs q)) (fun O J r=>kL (fun g V=>rlo r W g (V.mono Pn)) (hF.cX fun g V=>Vu r V)) ?_);rintro O wa v1 wb r L A rfl;replace hX:=hX.cS (K:=(wa.heap.size,wb.heap.size)::QH) r oF L fun x E=>aD _ E;have R5:∀g,Cv S w.heap.size iv g->wb.heap[g]? =w5.heap[g]? :=fun g V=>by rw[L.block g (rlo r W g (V.mono Pn)),rls r W (V.mono Pn)]
  replace hA:=dS.cX hA R5;replace hP:=fe.cX hP fun g V=>R5 g (qj V);replace G:=G.tr A;replace Pn:∀p,p∈iv->p∈(wa.heap.size,wb.heap.size)::QH:=fun p hp=>aD _ (Pn p hp);generalize (wa.heap.size,wb.heap.size)::QH=Qe at*
  apply bS<;>intro hs
  .have hs:q≠0:=fun e=>by rw[gL.2 e]at hs;exact absurd hs bv
   exact rtn G fun GE we re=>.inl ⟨i,hp0,Qv,by rw[RG];exact hs,rfl⟩
  have hs:q=0:=gL.1 (by simpa using hs);refine inc i ?_;intro I8 w3 r3;have R5:∀g,Cv S w.heap.size iv g->w3.heap[g]? =wb.heap[g]? :=fun g V=>rls r3 W (V.mono Pn)
  exact⟨(i+1,gx,w3,Qe),⟨Qv,fun j h3 h4=>by
    by_cases hj:j=i
    .rw[hj,RG,hs]
    .exact hzr j h3 (by dsimp only at h4;omega),G.tr r3.cj,Pn,TY,Yo,dS.cX hA R5,fe.cX hP fun g V=>R5 g (qj V),by dsimp only;rw[Nat.min_eq_right be,<-Nat.min_eq_right hp0];exact hX.rel r3 oF⟩,
   sbgn [] r3,by dsimp only;omega⟩
 have Qv:=dE N Qv;subst Qv;rw[Nat.min_eq_right QQ]at hX;intro GE we re;refine⟨_,rfl,G.tr re.cj,.inr ⟨hzr,_,rfl,?_⟩⟩;exact cg.out hX.aAP re oF
theorem tF{xs:List Rat}(W:Old S w)(E:dC w S v xs)(hy:dC w S u ys)(hl:xs.length=ys.length)(Vv:∀q∈xs,rl q+1<=h)(Vn:∀q∈ys,rl q+1<=h)(I:2<=h)(A:2*h*xs.length<=90000):
  eL PG FS.DZ #[v,u] w (eY w fun v' F=>dI F (Nf w F) v' (dY xs ys xs.length)):=by
 have G:=bR w;obtain⟨ax,cx,rfl,XC,Uy⟩:=E.shape;obtain⟨ay,cy,rfl,Yq,-⟩:=hy.shape;unfold maxLen at Uy;refine Ea ce ?_;refine cW (cE G (pR dI (((0:Int):Rat))) (fun O J r=>mJ 0 J bv bv) ?_);rintro O _ _ _ Pv r L G h_ U;have hd:=U.cV (nw r h_);obtain⟨A0,A1,A2,A3,A4,A5,A6,A7,rfl⟩:=hd.shape;rw[show ((0:Int):Rat)=dY xs ys 0 from rfl]at hd
 refine⟨Nat×(Bool×Bool)×(Option Addr×Option Addr)×(Nat×Nat×Nat×Nat)×World×Iv,fun z=>⟨[(0,sV ax xs.length cx),(1,sV ay ys.length cy),(4,pP 0 0),(5,pP 1 0),(6,iN z.1)],[(1,.box T.Rat [.v (.bool z.2.1.1),.v (.slice z.2.2.1.1 z.2.2.2.1.1 z.2.2.2.1.2.1),.v (.bool z.2.1.2),.v (.slice z.2.2.1.2 z.2.2.2.1.2.2.1 z.2.2.2.1.2.2.2)]),(0,.box T.Rat [.v (.bool false),.v nls,.v (.bool false),.v nls])],2,z.2.2.2.2.2,z.2.2.2.2.1⟩,fun z=>xs.length-z.1,
  fun z=>z.1<=xs.length/\Bq w z.2.2.2.2.1/\dI z.2.2.2.2.1 (Cf w z.2.2.2.2.2) (.agg #[.bool z.2.1.1,.slice z.2.2.1.1 z.2.2.2.1.1 z.2.2.2.1.2.1,.bool z.2.1.2,.slice z.2.2.1.2 z.2.2.2.1.2.2.1 z.2.2.2.1.2.2.2]) (dY xs ys z.1),?_,?_⟩
 .intro O J r;exact⟨(0,(A0,A4),(A1,A5),(A2,A3,A6,A7),J,Pv),⟨ce,G.tr r.cj,hd.rel r oF⟩,sbgn [] r⟩
 rintro⟨i,⟨p0,p4⟩,⟨p1,p5⟩,⟨p2,p3,p6,p7⟩,w1,iv⟩ ⟨N,G,hd⟩;dsimp only at N G hd ⊢;apply bS<;>intro Pk
 .have Pk:=dL Pk;have hs:=fo Vv Vn I i;have TO:2*h*i<=2*h*xs.length:=bC _ N;have hs3:2*h*1<=2*h*xs.length:=bC _ be;obtain⟨x,Q5⟩:=gO xs i;obtain⟨y,Re⟩:=gO ys i;have XK:=Vv x (aG Q5);have hy3:=Vn y (aG Re);have Qa:xs.getD i 0=x:=by rw[List.getD,Q5];rfl
  have RR:ys.getD i 0=y:=by rw[List.getD,Re];rfl
  have hm:=jl x y;obtain⟨adx,csx,We,SL,-,RL⟩:=dN.load E Q5;obtain⟨ady,csy,VU,SY,-,R9⟩:=dN.load hy Re;obtain⟨f0,f1,f2,f3,f4,f5,f6,f7,rfl,SL⟩:=SL;obtain⟨q0,q1,q2,q3,q4,q5,q6,q7,rfl,SY⟩:=SY;refine dP (idO 12) ?_;refine⟨adx,We,be,rC f0 f1 f2 f3 f4 f5 f6 f7,rfl,rdO RL G W,ady,VU,be,rC q0 q1 q2 q3 q4 q5 q6 q7,rfl,rdO R9 G W,?_⟩;refine cE G (pR dI (x*y)) (fun O J r=>FE (oS W r) (SL.cX (kS G r W)) (SY.cX (kS G r W))) ?_;rintro O _ _ _ iv2 r L G h_ U;replace hd:=hd.cS r oF L (mC h_);have hp:=U.cV (nw r h_);obtain⟨C0,C1,C2,C3,C4,C5,C6,C7,rfl⟩:=hp.shape;refine cE G (pR dI (dY xs ys i+x*y)) (fun O J r=>FD (rlo r oF) ((hd.rel r oF).l be) ((hp.rel r oF).l be)) ?_;rintro O _ _ _ Pu r L G h_ U;have QJ:=U.cV (nw r h_);obtain⟨E0,E1,E2,E3,E4,E5,E6,E7,rfl⟩:=QJ.shape;rw[show dY xs ys i+x*y=dY xs ys (i+1) by rw[dY,Qa,RR]]at QJ;refine inc i ?_;intro I8 w3 r3;exact⟨(i+1,(E0,E4),(E1,E5),(E2,E3,E6,E7),w3,_),⟨Pk,G.tr r3.cj,QJ.rel r3 oF⟩,sbgn [] r3,dec Pk⟩
 have Pk:=dE N Pk;subst Pk;exact rtn G fun GE we re=>hd.out re oF
section
variable{S:Nat->Prop}{H:Hp}{nx:Nat}{iv K:Iv}{B:Nat}{w J F:World}{O:Nat->Sx.eH}{Z:List (List Value)}{qs:List Rat}
theorem Fc.rel(h:Fc w (Cv S B iv) Z qs)(r:Rel H nx iv B w O J)(W:∀g,S g->g<B):Fc J (Cv S B iv) Z qs:=h.cX fun _ V=>rls r W V
theorem Fc.cS(h:Fc w (Cv S B iv) Z qs)(r:Rel H nx iv B w O J)(W:∀g,S g->g<B)(L:Ext J F)(hm:∀p,p∈iv->p∈K):Fc F (Cv S B K) Z qs:=
 ((h.rel r W).cX fun g V=>L.block g (rlo r W g V)).cV fun _ V=>V.mono hm
theorem Fc.push{q:Rat}(h:Fc w S Z qs)(hc:j6 w S cs q):Fc w S (Z++[cs]) (qs++[q]):=by
 refine⟨by simp[h.1],fun j x p Y I=>?_⟩;rcases aW j Z.length with N|N
 .rw[aN N]at Y;rw[aN (by rw[<-h.1];exact N)]at I;exact h.2 j x p Y I
 .have Vz:j=Z.length:=by have:=(aH.1 Y).1;simp at this;omega
  subst Vz;rw[aP lr,bY]at Y;rw[h.1,aP lr,bY]at I;simp at Y I;subst Y I;exact hc
end
theorem Dv{M:List (List Rat)}{n:Nat}(W:Old S w)(hy:dC w S v ys)(hM:dS w S u M)(Sv:ys.length=M.length)(Pm:∀r∈M,r.length=n)(U:n<=1000000)
  (Vn:∀q∈ys,rl q+1<=h) (TA:Ht M h) (I:2<=h) (A:2*h*M.length<=90000):
  eL PG FS.wP #[v,u,iV n] w (eY w fun v' F=>cg F (Nf w F) v' (da ys M n M.length)):=by
 have G:=bR w;obtain⟨ay,cy,rfl,Yq,hmy⟩:=dN.shape hy;obtain⟨am,cm,rfl,SF,-⟩:=dH.shape hM;unfold maxLen at hmy;refine zC ce ?_;conv=>whnf
 refine⟨Nat×List (List Value)×World×Iv,fun z=>⟨[(0,sV ay ys.length cy),(1,sV am M.length cm),(2,iZ n),(7,.o (.w 0 z.2.1.length)),(8,iN z.1)],[(0,.vec T.Rat 4 z.2.1.flatten)],1,z.2.2.2,z.2.2.1⟩,fun z=>n-z.1,
  fun z=>z.1<=n/\Bq w z.2.2.1/\Fc z.2.2.1 (Cf w z.2.2.2) z.2.1 ((da ys M n M.length).take z.1),?_,?_⟩
 .intro O J r
  exact⟨(0,[],J,[]),⟨ae _,G.tr r.cj,by simp[Fc]⟩,Sub.nil 7 T.Rat 4 rfl (by simp[jn,SV.sc,At.sc,fu]) r fun I9 r1=>
   sbgn [] r1⟩
 clear G;rintro⟨k,Z,w1,iv⟩ ⟨R,G,hC⟩;dsimp only at R G hC ⊢;have Qg:Z.length=k:=by rw[hC.1,bN,ff];omega
 have Qp:=fN hC.oy;conv=>whnf
 apply bS<;>intro Ra
 .have Ra:=dL Ra;conv=>whnf
  refine cW (cE G (pR dI (((0:Int):Rat))) (fun O J r=>mJ 0 J bv bv) ?_);rintro O _ _ _ Pv r L G h_ U;replace hC:=hC.cS r oF L (mC h_);have hd:=U.cV (nw r h_);clear r U;obtain⟨A0,A1,A2,A3,A4,A5,A6,A7,rfl⟩:=hd.shape;conv=>whnf
  rw[show ((0:Int):Rat)=dY ys (nt M k) 0 from rfl]at hd
  refine⟨Nat×(Bool×Bool)×(Option Addr×Option Addr)×(Nat×Nat×Nat×Nat)×World×Iv,fun z=>⟨[(0,sV ay ys.length cy),(1,sV am M.length cm),(2,iZ n),(7,.o (.w 0 Z.length)),(8,iN k),(9,pP 1 0),(10,iN z.1)],[(1,.box T.Rat [.v (.bool z.2.1.1),.v (.slice z.2.2.1.1 z.2.2.2.1.1 z.2.2.2.1.2.1),.v (.bool z.2.1.2),.v (.slice z.2.2.1.2 z.2.2.2.1.2.2.1 z.2.2.2.1.2.2.2)]),(0,.vec T.Rat 4 Z.flatten)],2,z.2.2.2.2.2,z.2.2.2.2.1⟩,fun z=>M.length-z.1,
   fun z=>z.1<=M.length/\Bq w z.2.2.2.2.1/\Fc z.2.2.2.2.1 (Cf w z.2.2.2.2.2) Z ((da ys M n M.length).take k)/\dI z.2.2.2.2.1 (Cf w z.2.2.2.2.2) (.agg #[.bool z.2.1.1,.slice z.2.2.1.1 z.2.2.2.1.1 z.2.2.2.1.2.1,.bool z.2.1.2,.slice z.2.2.1.2 z.2.2.2.1.2.2.1 z.2.2.2.1.2.2.2]) (dY ys (nt M k) z.1),?_,?_⟩
  .intro O J r;exact⟨(0,(A0,A4),(A1,A5),(A2,A3,A6,A7),J,Pv),⟨ce,G.tr r.cj,hC.rel r oF,hd.rel r oF⟩,sbgn [] r⟩
  clear G hd hC;rintro⟨i,⟨p0,p4⟩,⟨p1,p5⟩,⟨p2,p3,p6,p7⟩,w1,iv⟩ ⟨N,G,hC,hd⟩;dsimp only at N G hC hd ⊢;conv=>whnf
  apply bS<;>intro Pk
  .have Pk:=dL Pk;have hs:=fo Vn (HN TA I k) I i;have TO:2*h*i<=2*h*M.length:=bC _ N;have hs3:2*h*1<=2*h*M.length:=bC _ be;obtain⟨x,Q5⟩:=gO ys i;obtain⟨ra,Sn⟩:=gO M i;have UH:=Pm ra (aG Sn);obtain⟨y,hyk⟩:=gO ra k;have XK:=Vn x (aG Q5);have hy3:=TA.at Sn y (aG hyk);have Qa:ys.getD i 0=x:=by rw[List.getD,Q5];rfl
   have RR:(nt M k).getD i 0=y:=by simp[nt,List.getD,Sn,hyk]
   have hm:=jl x y;obtain⟨adx,csx,We,SL,-,RL⟩:=dN.load hy Q5;obtain⟨f0,f1,f2,f3,f4,f5,f6,f7,rfl,SL⟩:=SL;obtain⟨adm,um,UN,S7,km1,km2⟩:=dH.load hM Sn;obtain⟨au,cu,rfl,hcu,-⟩:=dN.shape S7;obtain⟨ady,csy,VU,SY,-,R9⟩:=dN.load S7 hyk;obtain⟨q0,q1,q2,q3,q4,q5,q6,q7,rfl,SY⟩:=SY;conv=>whnf
   refine dP (idO 15) ?_;conv=>whnf
   refine⟨adx,We,be,?_⟩;conv=>whnf
   refine⟨rC f0 f1 f2 f3 f4 f5 f6 f7,rfl,rdO RL G W,?_⟩;conv=>whnf
   refine⟨adm,UN,be,?_⟩;conv=>whnf
   refine⟨.slice au ra.length cu,rd1 km2 G (W _ km1),?_⟩;conv=>whnf
   refine⟨ady,VU,be,?_⟩;conv=>whnf
   refine⟨rC q0 q1 q2 q3 q4 q5 q6 q7,rfl,rdO R9 G W,?_⟩;conv=>whnf
   refine cE G (pR dI (x*y)) (fun O J r=>FE (oS W r) (SL.cX (kS G r W)) (SY.cX (kS G r W))) ?_;rintro O _ _ _ iv2 r L G h_ U;replace hd:=hd.cS r oF L (mC h_);replace hC:=hC.cS r oF L (mC h_);have hp:=U.cV (nw r h_);clear r U;obtain⟨C0,C1,C2,C3,C4,C5,C6,C7,rfl⟩:=hp.shape;conv=>whnf
   refine cE G (pR dI (dY ys (nt M k) i+x*y)) (fun O J r=>FD (rlo r oF) ((hd.rel r oF).l be) ((hp.rel r oF).l be)) ?_;rintro O _ _ _ Pu r L G h_ U;clear hd;replace hC:=hC.cS r oF L (mC h_);clear hp;have QJ:=U.cV (nw r h_);clear r U;obtain⟨E0,E1,E2,E3,E4,E5,E6,E7,rfl⟩:=QJ.shape;conv=>whnf
   rw[show dY ys (nt M k) i+x*y=dY ys (nt M k) (i+1) by rw[dY,Qa,RR]]at QJ;refine inc i ?_;conv=>whnf
   intro I8 w3 r3;exact⟨(i+1,(E0,E4),(E1,E5),(E2,E3,E6,E7),w3,_),⟨Pk,G.tr r3.cj,hC.rel r3 oF,QJ.rel r3 oF⟩,sbgn [] r3,dec Pk⟩
  have Pk:=dE N Pk;subst Pk;conv=>whnf
  have Yg:Fc w1 (Cf w iv) (Z++[rC p0 p1 p2 p3 p4 p5 p6 p7]) ((da ys M n M.length).take (k+1)):=by
   have e:(da ys M n M.length)[k]? =some (dY ys (nt M k) M.length):=by simp[da,Ra]
   rw[bM,e];exact hC.push hd.pj
  have Qt:Z.flatten++(rC p0 p1 p2 p3 p4 p5 p6 p7:List Value)=(Z++([rC p0 p1 p2 p3 p4 p5 p6 p7]:List (List Value))).flatten:=by simp
  clear hC hd;refine .inl ?_;conv=>whnf
  refine⟨be,be,mx,?_⟩;conv=>whnf
  refine inc k ?_;conv=>whnf
  intro I8 w3 r3;exact⟨(k+1,Z++[rC p0 p1 p2 p3 p4 p5 p6 p7],w3,_),⟨Ra,G.tr r3.cj,Yg.rel r3 oF⟩,sbgn [(0,3)] r3 ⟨by dsimp only;rw[<-Qt];rfl,trivial⟩ ⟨rfl,rfl,rfl,by dsimp only;rw[l1];rfl,rfl,trivial⟩,dec Ra⟩
 have Ra:=dE R Ra;subst Ra;conv=>whnf
 intro GE we re;refine⟨_,rfl,G.tr re.cj,?_⟩;rw[bX (by rw[ff];omega)]at hC;have h5:=re.ku (id:=0) (sz:=4) (m:=Z.length) rfl Qp mx bv hC.one;have h6:=hC.rel re oF;refine⟨Z,?_,h6.1,h6.oy,fun j cs q k1 k2=>(h6.2 j cs q k1 k2).cV fun _ V=>Cv.nw V re⟩;rw[<-hC.1];exact h5.cV fun g V=>.inr V
def qf(w:World)(S:Nat->Prop)(v:Value)(b:List (Int×Int)):Prop:=dC w S v (b.map dD)/\(∀q∈b.map dD,rl q<=3)/\vN b
theorem qf.cX{F:World}(h:qf w S v b)(R:∀g,S g->F.heap[g]? =w.heap[g]?):qf F S v b:=⟨dC.cX h.1 R,h.2⟩
section
variable{S S':Nat->Prop}{H:Hp}{nx:Nat}{iv K:Iv}{B:Nat}{w J F:World}{O:Nat->Sx.eH}{v:Value}{b:List (Int×Int)}
end
def nu(qs:List Rat):List (Int×Int):=qs.map fun q=>(q.num,(q.den:Int))
theorem xw(qs:List Rat):(nu qs).length=qs.length:=aO ..
theorem ka(qs:List Rat):(nu qs).map dD=qs:=by
 unfold nu;rw[List.map_map];exact(List.map_congr_left fun q _=>oA q).trans (List.map_id qs)
theorem cg.nu(h:cg w S v qs):dK w S v (nu qs):=by
 obtain⟨Z,Y,I,h3,h4⟩:=h;refine⟨Z,by unfold Go.Ex.nu;rw[aO];exact Y,by unfold Go.Ex.nu;rw[aO];exact I,h3,fun j cs x k1 k2=>?_⟩;unfold Go.Ex.nu at k2;rw[aU]at k2;obtain⟨q,hq,rfl⟩:=Option.map_eq_some_iff.1 k2;obtain⟨b,a,n,c,b2,a2,n2,c2,rfl,hr⟩:=h4 j cs q k1 hq;exact hr.four
theorem xx(h:∀q∈qs,rl q<=10000000000):vN (nu qs):=fun x E=>by
 obtain⟨q,hq,rfl⟩:=bE.1 E;exact⟨aR (fv q) (h q hq),aR (fI q) (h q hq)⟩
section
variable{S:Nat->Prop}{w:World}{v u:Value}{M:List (List (Int×Int))}{b:List (Int×Int)}
theorem nM(M:List (List (Int×Int))):(dT M).length=M.length:=by simp[dT]
end
end Go.Ex
