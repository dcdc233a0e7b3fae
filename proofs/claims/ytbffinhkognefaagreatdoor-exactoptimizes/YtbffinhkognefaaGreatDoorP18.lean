/- Texts X270 to X271: lemmas, each with its conditions. -/
import Derived.Test.YtbffinhkognefaaGreatDoorP17
set_option maxHeartbeats 1000000
set_option maxRecDepth 4000
set_option linter.defProp false
namespace Go.Ex
open Go Go.Sx Go.Proofs
variable{b c:List (Int×Int)}{M:List (List (Int×Int))}{Fn:List (List Rat)}{S:Nat->Prop}{d:Nat->Rat}{v vb vc vm:Value}{w J:World}
def Mk{n:Nat}(h:∀r∈Fn,∀q∈r,rl q<=3):∀r∈ir Fn n,∀q∈r,rl q<=3:=λr hr q hq=>by
 rcases az.1 hr with hr|hr
 .exact h r hr q hq
 .rcases List.mem_cons.1 hr with rfl|hr
  .rw[bK hq];decide
  .rw[aY.1 hr]at hq;rw[bK hq];decide
def Gb{m:Nat}:∀q∈kE m,rl q<=3:=λq hq=>by
 rcases az.1 hq with hq|hq
 .rw[bK hq];decide
 .simp at hq;rcases hq with rfl|rfl<;>decide
def EW(c x:List Rat):eG c x c.length=oI c x c.length:=gN c x c.length
def Ke{b c:List Rat}(G:Old S w)(hm:dZ w S vm Fn)(N:dB w S vb b)(hc:dB w S vc c)(hA:iP c.length Fn)(Pu:b.length=Fn.length)(hA4:Fn.length<=4)(Ya:c.length<=3)(rA:∀r∈Fn,∀q∈r,rl q<=3)(rb:∀q∈b,rl q<=3)(rc:∀q∈c,rl q<=3):
  eH PG Fd.vh #[.agg #[vm,vb,vc]] w (eV w λv F=>∃(k:Nat) (q:Rat) (g0:Bool) (g1:Option Addr) (g2 g3:Nat) (g4:Bool) (g5:Option Addr) (g6 g7:Nat),v= .tuple #[.int .i64 k,.agg #[.bool g0,.slice g1 g2 g3,.bool g4,.slice g5 g6 g7]]/\
   dH F (Nf w F) (.agg #[.bool g0,.slice g1 g2 g3,.bool g4,.slice g5 g6 g7]) q/\rl q<=2000/\PT Fn b c k q):=by
 have hF:=iS w.heap.size;have W:=bR w;have hm':=hm;obtain⟨rv0,⟨UC,Wg,Y,am,cm,rfl,Rw,Px⟩,hl,UP⟩:=hm';unfold maxLen at UC;obtain⟨ab,cb,rfl,Qz,TS⟩:=dK.shape N;obtain⟨ac,cc,rfl,VF,SJ⟩:=dK.shape hc;refine yZ ce ?_;refine cS (cR (GT:=λ_ J v F=>∃FS:List (List Rat),dX F (Nf J F) v FS/\(∀x,x∈FS↔Gz Fn b c.length x)/\∀x∈FS,x.length=c.length/\∀q∈x,rl q+1<=256) (λO J r=>BX (oS G r) (dZ.cW hm ((kS W r G))) (dB.cW N ((kS W r G))) hA Pu be Ya rA rb) ?_);rintro O wa v1 wb r L Pz ⟨FS,hO,hKm,hKh⟩;have hK:=dX.cU hO λg V=>(V.ef r.cY aF:Cv S w.heap.size ((wa.heap.size,wb.heap.size)::[]) g)
 replace W:=W.tr Pz;clear r L Pz;generalize (wa.heap.size,wb.heap.size)::[]=iv at*
 obtain⟨ak,ck,rfl,hck,Yj⟩:=dG.shape hK;apply bS<;>intro Sp
 .have Sp:FS=[]:=by
   have:FS.length=0:=by simpa using Sp
   exact List.length_eq_zero_iff.1 this
  refine cS (cR (GT:=λ_ J v F=>dH F (Nf J F) v ((0:Int):Rat)) (λO J r=>fZ 0 J bv) ?_);rintro O wa v9 wb r L Pz hO;have hZ:=dH.ef (S:=FF) hO r.cY (iv:=(wa.heap.size,wb.heap.size)::iv) aF;replace W:=W.tr Pz;clear r L Pz;generalize (wa.heap.size,wb.heap.size)::iv=iv2 at*
  rw[show ((0:Int):Rat)=0 by decide]at hZ;obtain⟨o0,o1,o2,o3,o4,o5,o6,o7,rfl⟩:=dH.shape hZ;exact rtn W λGE we re=>⟨1,_,_,_,_,_,_,_,_,_,rfl,dH.out hZ re hF,(by decide:rl 0<=2000),.inl ⟨rfl,rfl,λx Z=>by have:=(hKm x).2 Z;rw[Sp]at this;cases this⟩⟩
 have Sp:0<FS.length:=Nat.pos_of_ne_zero λe=>by rw[e]at Sp;simp at Sp
 refine Ka (α:=Value×Value×World×Iv) (λz=>⟨[(1,pP 0 0),(2,iZ 0),(3,pP 1 0),(4,sV ak FS.length ck),(5,pP 2 0)],[(2,.box T.Program [.w 3 (0+Fn.length+2),.v nls,.v (.slice ac c.length cc)]),(3,.vec T.nQ 1 (rv0++[z.1,z.2.1])),(0,.box T.Program [.v (.slice am Fn.length cm),.v (.slice ab b.length cb),.v (.slice ac c.length cc)]),(1,.box T.Rat [.v (.bool false),.v nls,.v (.bool false),.v nls])],4,z.2.2.2,z.2.2.1⟩) (λz=>Bq w z.2.2.1/\dX z.2.2.1 (Cv S w.heap.size z.2.2.2) (.slice ak FS.length ck) FS/\ek z.2.2.1 (Cv S w.heap.size z.2.2.2) rv0 Fn/\cd z.2.2.1 (Cv S w.heap.size z.2.2.2) z.1 (List.replicate c.length ((1:Int):Rat))/\cd z.2.2.1 (Cv S w.heap.size z.2.2.2) z.2.1 (List.replicate c.length (((-1):Int):Rat))) ?_ ?_
 .have TV:ek wb (Cv S w.heap.size iv) rv0 Fn:=⟨hl,Y,λi u x k1 k2=>dB.cU (dB.cW (UP i u x k1 k2) λg V=>W.block g (G g V)) λg V=>.inl V⟩
  refine fA hτ uR (.x 0 (.x 3 (.x 6 (.x 10 (.ld 1 327680 (.ld 4 385568 (.ld 7 385792 (.x 8 (.ld 11 389120 (.x 12 (.two 2 (.two 5 (.two 9 (.two 13 (.two 14 (.two 15 (.x 16 (.x 17 (.x 18 .nil))) 17 (.x 15 (.x 16 (.x 18 .nil)))) 17 (.x 14 (.x 15 (.x 16 (.x 18 .nil))))) 17 (.x 13 (.x 14 (.x 15 (.x 16 (.x 18 .nil)))))) 17 (.x 9 (.x 13 (.x 14 (.x 15 (.x 16 (.x 18 .nil))))))) 17 (.x 5 (.x 9 (.x 13 (.x 14 (.x 15 (.x 16 (.x 18 .nil)))))))) 17 (.x 2 (.x 5 (.x 9 (.x 13 (.x 14 (.x 15 (.x 16 (.x 18 .nil))))))))))))))))))) d9 d9 ?_;refine⟨?_,?_⟩
  .conv=>whnf
   refine⟨rfl,rfl,rfl,rfl,?_,?_⟩
   .conv=>whnf
    refine .inl ?_;refine⟨rv0,Wg,Y,λO J r QV=>?_,?_⟩
    .obtain⟨u0,Vp⟩:=gO rv0 0;obtain⟨ad,ha,_,_⟩:=Px 0 u0 Vp;refine⟨ad,ha,λj u hj=>?_⟩;obtain⟨ad2,RL,q1,q2⟩:=Px j u hj;rw[ha]at RL;injection RL with RL;subst RL;rw[cZ (w:=w) (F:=J) (by rw[da];exact(W.tr r.cg).block _ (G _ q1))];exact q2
    refine⟨rfl,be,mx,rfl,rfl,rfl,?_,?_⟩
    .conv=>whnf
     refine cS (cR (GT:=λ_ J v F=>cd F (Nf J F) v (List.replicate c.length ((1:Int):Rat))) (λO J r=>mW c.length 1 J be bv) ?_);rintro O wa v9 wb r L Pz hO;have Sm:=cd.ef (S:=S) hO r.cY (iv:=(wa.heap.size,wb.heap.size)::iv) aF;replace hK:=dX.cV (A:=(wa.heap.size,wb.heap.size)::iv) hK r G L λp hp=>aD _ hp;replace TV:=ek.cV (A:=(wa.heap.size,wb.heap.size)::iv) TV r G L λp hp=>aD _ hp;replace W:=W.tr Pz;clear r L Pz;generalize (wa.heap.size,wb.heap.size)::iv=iv2 at*
     obtain⟨x9,y9,rfl,-,-⟩:=dK.shape Sm;rw[aq]at Sm ⊢;refine⟨rfl,rfl,?_,?_⟩
     .conv=>whnf
      refine cS (cR (GT:=λ_ J v F=>cd F (Nf J F) v (List.replicate c.length (((-1):Int):Rat))) (λO J r=>mW c.length (-1) J be bv) ?_);rintro O wa v13 wb r L Pz hO;have Sy:=cd.ef (S:=S) hO r.cY (iv:=(wa.heap.size,wb.heap.size)::iv2) aF;replace hK:=dX.cV (A:=(wa.heap.size,wb.heap.size)::iv2) hK r G L λp hp=>aD _ hp;replace TV:=ek.cV (A:=(wa.heap.size,wb.heap.size)::iv2) TV r G L λp hp=>aD _ hp;replace Sm:=cd.cV (A:=(wa.heap.size,wb.heap.size)::iv2) Sm r G L λp hp=>aD _ hp;replace W:=W.tr Pz;clear r L Pz;generalize (wa.heap.size,wb.heap.size)::iv2=Ps at*
      obtain⟨x13,y13,rfl,-,-⟩:=dK.shape Sy;rw[aq]at Sy ⊢;refine⟨rfl,?_,?_⟩
      .conv=>whnf
       refine⟨rfl,?_,?_⟩
       .conv=>whnf
        refine .inl ?_;refine⟨by simp;omega,be,mx,rfl,rfl,?_⟩;intro I8 w3 r3;exact⟨(.slice x9 c.length y9,.slice x13 c.length y13,w3,_),⟨W.tr r3.cg,dX.rel hK r3 G,TV.rel r3 G,cd.rel Sm r3 G,cd.rel Sy r3 G⟩,sbgn [(2,6),(3,5)] r3⟩
       .conv=>whnf
        refine⟨rfl,?_⟩;refine .inl ?_;refine⟨by simp;omega,be,mx,rfl,?_⟩;intro I8 w3 r3;exact⟨(.slice x9 c.length y9,.slice x13 c.length y13,w3,_),⟨W.tr r3.cg,dX.rel hK r3 G,TV.rel r3 G,cd.rel Sm r3 G,cd.rel Sy r3 G⟩,sbgn [(2,5),(3,6)] r3⟩
      .conv=>whnf
       refine⟨rfl,rfl,?_⟩;refine .inl ?_;refine⟨by simp;omega,be,mx,rfl,?_⟩;intro I8 w3 r3;exact⟨(.slice x9 c.length y9,.slice x13 c.length y13,w3,_),⟨W.tr r3.cg,dX.rel hK r3 G,TV.rel r3 G,cd.rel Sm r3 G,cd.rel Sy r3 G⟩,sbgn [(2,4),(3,6)] r3⟩
     .conv=>whnf
      refine⟨rfl,rfl,?_⟩;refine cS (cR (GT:=λ_ J v F=>cd F (Nf J F) v (List.replicate c.length (((-1):Int):Rat))) (λO J r=>mW c.length (-1) J be bv) ?_);rintro O wa v13 wb r L Pz hO;have Sy:=cd.ef (S:=S) hO r.cY (iv:=(wa.heap.size,wb.heap.size)::iv2) aF;replace hK:=dX.cV (A:=(wa.heap.size,wb.heap.size)::iv2) hK r G L λp hp=>aD _ hp;replace TV:=ek.cV (A:=(wa.heap.size,wb.heap.size)::iv2) TV r G L λp hp=>aD _ hp;replace Sm:=cd.cV (A:=(wa.heap.size,wb.heap.size)::iv2) Sm r G L λp hp=>aD _ hp;replace W:=W.tr Pz;clear r L Pz;generalize (wa.heap.size,wb.heap.size)::iv2=Ps at*
      obtain⟨x13,y13,rfl,-,-⟩:=dK.shape Sy;rw[aq]at Sy ⊢;refine⟨rfl,rfl,?_⟩;refine .inl ?_;refine⟨by simp;omega,be,mx,rfl,?_⟩;intro I8 w3 r3;exact⟨(.slice x9 c.length y9,.slice x13 c.length y13,w3,_),⟨W.tr r3.cg,dX.rel hK r3 G,TV.rel r3 G,cd.rel Sm r3 G,cd.rel Sy r3 G⟩,sbgn [(2,4),(3,6)] r3⟩
    .conv=>whnf
     refine⟨rfl,rfl,rfl,?_⟩;refine cS (cR (GT:=λ_ J v F=>cd F (Nf J F) v (List.replicate c.length ((1:Int):Rat))) (λO J r=>mW c.length 1 J be bv) ?_);rintro O wa v9 wb r L Pz hO;have Sm:=cd.ef (S:=S) hO r.cY (iv:=(wa.heap.size,wb.heap.size)::iv) aF;replace hK:=dX.cV (A:=(wa.heap.size,wb.heap.size)::iv) hK r G L λp hp=>aD _ hp;replace TV:=ek.cV (A:=(wa.heap.size,wb.heap.size)::iv) TV r G L λp hp=>aD _ hp;replace W:=W.tr Pz;clear r L Pz;generalize (wa.heap.size,wb.heap.size)::iv=iv2 at*
     obtain⟨x9,y9,rfl,-,-⟩:=dK.shape Sm;rw[aq]at Sm ⊢;refine⟨rfl,rfl,?_⟩;refine cS (cR (GT:=λ_ J v F=>cd F (Nf J F) v (List.replicate c.length (((-1):Int):Rat))) (λO J r=>mW c.length (-1) J be bv) ?_);rintro O wa v13 wb r L Pz hO;have Sy:=cd.ef (S:=S) hO r.cY (iv:=(wa.heap.size,wb.heap.size)::iv2) aF;replace hK:=dX.cV (A:=(wa.heap.size,wb.heap.size)::iv2) hK r G L λp hp=>aD _ hp;replace TV:=ek.cV (A:=(wa.heap.size,wb.heap.size)::iv2) TV r G L λp hp=>aD _ hp;replace Sm:=cd.cV (A:=(wa.heap.size,wb.heap.size)::iv2) Sm r G L λp hp=>aD _ hp;replace W:=W.tr Pz;clear r L Pz;generalize (wa.heap.size,wb.heap.size)::iv2=Ps at*
     obtain⟨x13,y13,rfl,-,-⟩:=dK.shape Sy;rw[aq]at Sy ⊢;refine⟨rfl,rfl,?_⟩;refine .inl ?_;refine⟨by simp;omega,be,mx,rfl,?_⟩;intro I8 w3 r3;exact⟨(.slice x9 c.length y9,.slice x13 c.length y13,w3,_),⟨W.tr r3.cg,dX.rel hK r3 G,TV.rel r3 G,cd.rel Sm r3 G,cd.rel Sy r3 G⟩,sbgn [(2,4),(3,6)] r3⟩
   .conv=>whnf
    refine⟨rfl,rfl,rfl,rfl,?_⟩;refine .inl ?_;refine⟨rv0,Wg,Y,λO J r QV=>?_,?_⟩
    .obtain⟨u0,Vp⟩:=gO rv0 0;obtain⟨ad,ha,_,_⟩:=Px 0 u0 Vp;refine⟨ad,ha,λj u hj=>?_⟩;obtain⟨ad2,RL,q1,q2⟩:=Px j u hj;rw[ha]at RL;injection RL with RL;subst RL;rw[cZ (w:=w) (F:=J) (by rw[da];exact(W.tr r.cg).block _ (G _ q1))];exact q2
    refine⟨rfl,be,mx,rfl,rfl,rfl,?_⟩;refine cS (cR (GT:=λ_ J v F=>cd F (Nf J F) v (List.replicate c.length ((1:Int):Rat))) (λO J r=>mW c.length 1 J be bv) ?_);rintro O wa v9 wb r L Pz hO;have Sm:=cd.ef (S:=S) hO r.cY (iv:=(wa.heap.size,wb.heap.size)::iv) aF;replace hK:=dX.cV (A:=(wa.heap.size,wb.heap.size)::iv) hK r G L λp hp=>aD _ hp;replace TV:=ek.cV (A:=(wa.heap.size,wb.heap.size)::iv) TV r G L λp hp=>aD _ hp;replace W:=W.tr Pz;clear r L Pz;generalize (wa.heap.size,wb.heap.size)::iv=iv2 at*
    obtain⟨x9,y9,rfl,-,-⟩:=dK.shape Sm;rw[aq]at Sm ⊢;refine⟨rfl,rfl,?_⟩;refine cS (cR (GT:=λ_ J v F=>cd F (Nf J F) v (List.replicate c.length (((-1):Int):Rat))) (λO J r=>mW c.length (-1) J be bv) ?_);rintro O wa v13 wb r L Pz hO;have Sy:=cd.ef (S:=S) hO r.cY (iv:=(wa.heap.size,wb.heap.size)::iv2) aF;replace hK:=dX.cV (A:=(wa.heap.size,wb.heap.size)::iv2) hK r G L λp hp=>aD _ hp;replace TV:=ek.cV (A:=(wa.heap.size,wb.heap.size)::iv2) TV r G L λp hp=>aD _ hp;replace Sm:=cd.cV (A:=(wa.heap.size,wb.heap.size)::iv2) Sm r G L λp hp=>aD _ hp;replace W:=W.tr Pz;clear r L Pz;generalize (wa.heap.size,wb.heap.size)::iv2=Ps at*
    obtain⟨x13,y13,rfl,-,-⟩:=dK.shape Sy;rw[aq]at Sy ⊢;refine⟨rfl,rfl,?_⟩;refine .inl ?_;refine⟨by simp;omega,be,mx,rfl,?_⟩;intro I8 w3 r3;exact⟨(.slice x9 c.length y9,.slice x13 c.length y13,w3,_),⟨W.tr r3.cg,dX.rel hK r3 G,TV.rel r3 G,cd.rel Sm r3 G,cd.rel Sy r3 G⟩,sbgn [(2,3),(3,6)] r3⟩
  .conv=>whnf
   refine⟨rfl,rfl,rfl,rfl,rfl,rfl,rfl,rfl,?_⟩;refine .inl ?_;refine⟨rv0,Wg,Y,λO J r QV=>?_,?_⟩
   .obtain⟨u0,Vp⟩:=gO rv0 0;obtain⟨ad,ha,_,_⟩:=Px 0 u0 Vp;refine⟨ad,ha,λj u hj=>?_⟩;obtain⟨ad2,RL,q1,q2⟩:=Px j u hj;rw[ha]at RL;injection RL with RL;subst RL;rw[cZ (w:=w) (F:=J) (by rw[da];exact(W.tr r.cg).block _ (G _ q1))];exact q2
   refine⟨rfl,be,mx,rfl,rfl,rfl,?_⟩;refine cS (cR (GT:=λ_ J v F=>cd F (Nf J F) v (List.replicate c.length ((1:Int):Rat))) (λO J r=>mW c.length 1 J be bv) ?_);rintro O wa v9 wb r L Pz hO;have Sm:=cd.ef (S:=S) hO r.cY (iv:=(wa.heap.size,wb.heap.size)::iv) aF;replace hK:=dX.cV (A:=(wa.heap.size,wb.heap.size)::iv) hK r G L λp hp=>aD _ hp;replace TV:=ek.cV (A:=(wa.heap.size,wb.heap.size)::iv) TV r G L λp hp=>aD _ hp;replace W:=W.tr Pz;clear r L Pz;generalize (wa.heap.size,wb.heap.size)::iv=iv2 at*
   obtain⟨x9,y9,rfl,-,-⟩:=dK.shape Sm;rw[aq]at Sm ⊢;refine⟨rfl,rfl,?_⟩;refine cS (cR (GT:=λ_ J v F=>cd F (Nf J F) v (List.replicate c.length (((-1):Int):Rat))) (λO J r=>mW c.length (-1) J be bv) ?_);rintro O wa v13 wb r L Pz hO;have Sy:=cd.ef (S:=S) hO r.cY (iv:=(wa.heap.size,wb.heap.size)::iv2) aF;replace hK:=dX.cV (A:=(wa.heap.size,wb.heap.size)::iv2) hK r G L λp hp=>aD _ hp;replace TV:=ek.cV (A:=(wa.heap.size,wb.heap.size)::iv2) TV r G L λp hp=>aD _ hp;replace Sm:=cd.cV (A:=(wa.heap.size,wb.heap.size)::iv2) Sm r G L λp hp=>aD _ hp;replace W:=W.tr Pz;clear r L Pz;generalize (wa.heap.size,wb.heap.size)::iv2=Ps at*
   obtain⟨x13,y13,rfl,-,-⟩:=dK.shape Sy;rw[aq]at Sy ⊢;refine⟨rfl,rfl,?_⟩;refine .inl ?_;refine⟨by simp;omega,be,mx,rfl,?_⟩;intro I8 w3 r3;exact⟨(.slice x9 c.length y9,.slice x13 c.length y13,w3,_),⟨W.tr r3.cg,dX.rel hK r3 G,TV.rel r3 G,cd.rel Sm r3 G,cd.rel Sy r3 G⟩,sbgn [(2,2),(3,6)] r3⟩
 clear W hK;rintro⟨v1,v2,w1,iv⟩ ⟨W,hK,hR,hV1,hV2⟩;dsimp only at W hK hR hV1 hV2 ⊢;obtain⟨_,_,rfl,-,-⟩:=dK.shape hV1;obtain⟨_,_,rfl,-,-⟩:=dK.shape hV2;replace hR:=(hR.push rfl (cd.l hV1 λq hq=>(by rw[bK hq];decide))).push rfl (cd.l hV2 λq hq=>(by rw[bK hq];decide));rw[bg,bg]at hR;replace hR:ek w1 _ _ (ir Fn c.length):=hR;clear hV1 hV2;have QI:_=0+Fn.length+2:=hR.1.trans (by rw[jR];omega);refine cS (cR (GT:=λ_ J v F=>fw F FF J.heap.size [(J.heap.size,F.heap.size)] v Fn.length (List.replicate Fn.length ((0:Int):Rat))) (λO J r=>DU Fn.length J be) ?_);rintro O wa u0 wb r L Qf hX;have TO:∀g,u0.ownBlock=some g->¬Cv S w.heap.size iv g/\w.heap.size<=g:=λg e=>by
  have hB:=r.cY;rcases hX.new g e with Y|⟨Y,-⟩
  .exact Y.elim
  .exact⟨λhc=>by have:=rlo r G g hc;omega,be⟩
 replace hX:=hX.ef (S:=FF) (iv:=(wa.heap.size,wb.heap.size)::iv) r.cY aF;have RV:∀g,Cv S w.heap.size iv g->wb.heap[g]? =w1.heap[g]? :=λg V=>by rw[L.block g (rlo r G g V),rls r G V]
 replace hR:=hR.kp RV;replace hK:=dX.cW hK RV;replace W:=W.tr Qf;have Pn:∀p,p∈iv->p∈(wa.heap.size,wb.heap.size)::iv:=λp hp=>aD _ hp;clear RV r L Qf;generalize (wa.heap.size,wb.heap.size)::iv=ivc at*
 refine cS (cR (GT:=λ_ J v F=>dH F (Nf J F) v ((1:Int):Rat)) (λO J r=>fZ 1 J bv) ?_);rintro O wa t wd r L Qf hO;have Qb:dH wd (λg=>Cf w ((wa.heap.size,wd.heap.size)::ivc) g/\u0.ownBlock≠some g) t ((1:Int):Rat):=hO.cU λg V=>by
  rcases V with V|V
  .exact V.elim
  .have hB:=r.cY;refine⟨.inr ⟨be,_,_,aF,V.1,V.2⟩,λe=>?_⟩;have:=rlo r hF g (hX.new g e);omega
 have RV:∀g,Cv S w.heap.size iv g->wd.heap[g]? =wb.heap[g]? :=λg V=>by rw[L.block g (rlo r G g (V.mono Pn)),rls r G (V.mono Pn)]
 replace hX:=hX.cV (A:=(wa.heap.size,wd.heap.size)::ivc) r hF L λx Z=>aD _ Z;replace hR:=hR.kp RV;replace hK:=dX.cW hK RV;replace W:=W.tr Qf;replace Pn:∀p,p∈iv->p∈(wa.heap.size,wd.heap.size)::ivc:=λp hp=>aD _ (Pn p hp);clear RV r L Qf hO;generalize (wa.heap.size,wd.heap.size)::ivc=ivd at*
 obtain⟨_,_,_,_,_,_,_,_,rfl⟩:=Qb.shape;refine .inr (Ga hτ hX Qb be rfl rfl rfl λO J u1 F r Zv QR h7=>?_);have RV:∀g,Cv S w.heap.size iv g->F.heap[g]? =wd.heap[g]? :=λg V=>by
  rw[<-rls r G (V.mono Pn)];exact QR.block g (rlo r G g (V.mono Pn)) λe=>(TO g e.symm).1 V
 have Xs:∀g,u1.ownBlock=some g->¬Cv S w.heap.size iv g/\w.heap.size<=g:=λg e=>by
  rcases h7 with h7|h7
  .exact TO g (h7▸e)
  .rw[h7]at e;injection e with e;subst e;exact⟨λhc=>by have:=rlo r G _ (hc.mono Pn);omega,r.cY⟩
 replace hR:=hR.kp RV;replace hK:=dX.cW hK RV;replace W:=W.tr r.cg;replace W:Bq w F:=W.tr (Bel.grown QR (λg V=>(TO g V).2) (by have:=W.size;omega));replace Pn:∀p,p∈iv->p∈e9 u1++ivd:=λp hp=>List.mem_append_right _ (Pn p hp);clear RV QR h7 hX Qb TO r;have hX:=Zv;have TO:=Xs;clear Zv Xs;generalize e9 u1++ivd=ivc at*
 refine cS (cR (GT:=λ_ J v F=>dH F (Nf J F) v (((-1):Int):Rat)) (λO J r=>fZ (-1) J bv) ?_);rintro O wa t wd r L Qf hO;have Qb:dH wd (λg=>Cf w ((wa.heap.size,wd.heap.size)::ivc) g/\u1.ownBlock≠some g) t (((-1):Int):Rat):=hO.cU λg V=>by
  rcases V with V|V
  .exact V.elim
  .have hB:=r.cY;refine⟨.inr ⟨be,_,_,aF,V.1,V.2⟩,λe=>?_⟩;have:=rlo r hF g (hX.new g e);omega
 have RV:∀g,Cv S w.heap.size iv g->wd.heap[g]? =F.heap[g]? :=λg V=>by rw[L.block g (rlo r G g (V.mono Pn)),rls r G (V.mono Pn)]
 replace hX:=hX.cV (A:=(wa.heap.size,wd.heap.size)::ivc) r hF L λx Z=>aD _ Z;replace hR:=hR.kp RV;replace hK:=dX.cW hK RV;replace W:=W.tr Qf;replace Pn:∀p,p∈iv->p∈(wa.heap.size,wd.heap.size)::ivc:=λp hp=>aD _ (Pn p hp);clear RV r L Qf hO;generalize (wa.heap.size,wd.heap.size)::ivc=ivd at*
 obtain⟨_,_,_,_,_,_,_,_,rfl⟩:=Qb.shape;refine .inr (Ga hτ hX Qb be rfl rfl rfl λO J u2 F r Zv QR h7=>?_);have RV:∀g,Cv S w.heap.size iv g->F.heap[g]? =wd.heap[g]? :=λg V=>by
  rw[<-rls r G (V.mono Pn)];exact QR.block g (rlo r G g (V.mono Pn)) λe=>(TO g e.symm).1 V
 have Xs:∀g,u2.ownBlock=some g->¬Cv S w.heap.size iv g/\w.heap.size<=g:=λg e=>by
  rcases h7 with h7|h7
  .exact TO g (h7▸e)
  .rw[h7]at e;injection e with e;subst e;exact⟨λhc=>by have:=rlo r G _ (hc.mono Pn);omega,r.cY⟩
 replace hR:=hR.kp RV;replace hK:=dX.cW hK RV;replace W:=W.tr r.cg;replace W:Bq w F:=W.tr (Bel.grown QR (λg V=>(TO g V).2) (by have:=W.size;omega));replace Pn:∀p,p∈iv->p∈e9 u2++ivd:=λp hp=>List.mem_append_right _ (Pn p hp);clear RV QR h7 hX Qb TO r;have hX:=Zv;have TO:=Xs;clear Zv Xs;generalize e9 u2++ivd=ivc at*
 replace hK:=dX.cU hK λg V=>(V.mono Pn:Cv S w.heap.size ivc g)
 replace hR:=hR.cU λg V=>(V.mono Pn:Cv S w.heap.size ivc g)
 have hbc:dB F (Cv S w.heap.size ivc) u2 (kE Fn.length):=by
  have h:=hX.aAD;rw[bg]at h;exact cd.l (cd.cU h λg V=>qL V) λq hq=>aR (Gb q hq) bv
 clear hX TO Pn;refine cS (cR (GT:=λ_ J v F=>∃FS:List (List Rat),dX F (Nf J F) v FS/\(∀x,x∈FS↔Gz (ir Fn c.length) (kE Fn.length) c.length x)/\∀x∈FS,x.length=c.length/\∀q∈x,rl q+1<=256) (λO J r=>BX (S:=λg=>g<J.heap.size) (λg V=>V) (by have h:=hR.asM (id:=3) r G rfl mx;rw[QI]at h;exact h) (dB.cU (dB.rel hbc r G) λg V=>rlo r G g V) (Fp hA) vg (by rw[jR];omega) Ya (Mk rA) Gb) ?_);rintro O wa v11 wb r L Pz ⟨K2,hO,hK2m,hK2h⟩;have TE:=dX.cU hO λg V=>(V.ef r.cY aF:Cv S w.heap.size ((wa.heap.size,wb.heap.size)::ivc) g)
 replace hK:=dX.cV (A:=(wa.heap.size,wb.heap.size)::ivc) hK r G L λp hp=>aD _ hp;replace W:=W.tr Pz;clear r L Pz;generalize (wa.heap.size,wb.heap.size)::ivc=QE at*
 clear hbc hR QI;obtain⟨ar,cr,rfl,Ur,Zw⟩:=dG.shape TE;unfold maxLen at Zw Yj;have Vb:∀q∈c,rl q+1<=256:=λq hq=>by have:=rc q hq;omega
 obtain⟨x0,RI⟩:=gO FS 0;refine⟨Nat×World×Iv,λz=>⟨[(1,pP 0 0),(2,iZ 0),(3,pP 1 0),(4,sV ak FS.length ck),(7,sV ar K2.length cr),(8,iN z.1)],[(0,.box T.Program [.v (.slice am Fn.length cm),.v (.slice ab b.length cb),.v (.slice ac c.length cc)]),(1,.box T.Rat [.v (.bool false),.v nls,.v (.bool false),.v nls])],2,z.2.2,z.2.1⟩,λz=>K2.length-z.1,λz=>z.1<=K2.length/\Bq w z.2.1/\dX z.2.1 (Cv S w.heap.size z.2.2) (.slice ak FS.length ck) FS/\dX z.2.1 (Cv S w.heap.size z.2.2) (.slice ar K2.length cr) K2/\∀r∈K2.take z.1,¬0<oI c r c.length,?_,?_⟩
 .intro O J r;exact⟨(0,J,_),⟨aZ _,W.tr r.cg,dX.rel hK r G,dX.rel TE r G,ce⟩,sbgn [] r⟩
 clear W hK TE;rintro⟨i,w1,iv⟩ ⟨R,W,hK,TE,Tu⟩;dsimp only at R W hK TE Tu ⊢;apply bS<;>intro Pk
 .have Pk:=dL Pk;obtain⟨t,ht⟩:=gO K2 i;have htm:=aG ht;obtain⟨Xd,hth⟩:=hK2h t htm;obtain⟨adm,um,Tw,SW,km1,km2⟩:=dG.load TE ht;obtain⟨at',ct,rfl,hct,-⟩:=dK.shape SW;refine dP (idO 9) ?_;refine⟨adm,Tw,be,.slice at' t.length ct,λO J r=>?_,?_⟩
  .rw[aI,cZ (w:=w1) (F:=J) (by rw[da];exact rls r G km1)];exact km2
  have S7:=iA Vb hth bv c.length;refine cR (GT:=λ_ J v F=>dH F (Nf J F) v (eG c t c.length)) (λO J r=>s0 (h:=256) (rlo r G) (dB.cU (dB.cW hc ((kS W r G))) λg V=>(.inl V:Cv S w.heap.size _ g)) (cd.l (cd.rel SW r G) λq hq=>by have:=hth q hq;omega) Xd.symm Vb hth bv be) ?_;rintro O wa v12 wb r L Pz hO;have hD:=dH.ef (S:=FF) hO r.cY (iv:=(wa.heap.size,wb.heap.size)::iv) aF;replace hK:=dX.cV (A:=(wa.heap.size,wb.heap.size)::iv) hK r G L λp hp=>aD _ hp;replace TE:=dX.cV (A:=(wa.heap.size,wb.heap.size)::iv) TE r G L λp hp=>aD _ hp;replace W:=W.tr Pz;clear r L Pz;generalize (wa.heap.size,wb.heap.size)::iv=iv2 at*
  rw[EW]at hD S7;obtain⟨_,_,_,_,_,_,_,_,rfl⟩:=dH.shape hD;refine cR (GT:=λ_ J v F=>v=iV (rs (oI c t c.length))) (λO J r=>jv (rlo r hF) (dH.l (dH.rel hD r hF) be)) ?_;rintro O wa v13 wb r L Pz rfl;replace hK:=dX.cV (A:=(wa.heap.size,wb.heap.size)::iv2) hK r G L λp hp=>aD _ hp;replace TE:=dX.cV (A:=(wa.heap.size,wb.heap.size)::iv2) TE r G L λp hp=>aD _ hp;replace W:=W.tr Pz;clear r L Pz;generalize (wa.heap.size,wb.heap.size)::iv2=Ps at*
  apply bS<;>intro V
  .have V:0<oI c t c.length:=il.1 (aK V);refine cS (cR (GT:=λ_ J v F=>dH F (Nf J F) v ((0:Int):Rat)) (λO J r=>fZ 0 J bv) ?_);rintro O wa v9 wb r L Pz hO;have hZ:=dH.ef (S:=FF) hO r.cY (iv:=(wa.heap.size,wb.heap.size)::Ps) aF;replace W:=W.tr Pz;clear r L Pz;generalize (wa.heap.size,wb.heap.size)::Ps=QA at*
   rw[show ((0:Int):Rat)=0 by decide]at hZ;obtain⟨o0,o1,o2,o3,o4,o5,o6,o7,rfl⟩:=dH.shape hZ;exact rtn W λGE we re=>⟨2,_,_,_,_,_,_,_,_,_,rfl,dH.out hZ re hF,(by decide:rl 0<=2000),.inr (.inl ⟨rfl,rfl,⟨x0,(hKm x0).1 (aG RI)⟩,t,(hK2m t).1 htm,V⟩)⟩
  have V:¬0<oI c t c.length:=λh=>absurd (il.2 h) (aL V);refine inc i ?_;intro I8 w3 r3
  exact⟨(i+1,w3,_),⟨Pk,W.tr r3.cg,dX.rel hK r3 G,dX.rel TE r3 G,λx Z=>(by
   rw[show (i+1,w3,Ps).1=i+1 from rfl,<-iM ht]at Z
   exact(az.1 Z).elim (Tu x) λZ=>by rw[aY.1 Z];exact V)⟩,sbgn [] r3,by dsimp only;omega⟩
 have Pk:=dE R Pk;rw[Pk,bE]at Tu;clear TE;obtain⟨hx0l,hx0h⟩:=hKh x0 (aG RI);obtain⟨adm,um,Tw,SW,km1,km2⟩:=dG.load hK RI;obtain⟨at0,ct0,rfl,hct0,-⟩:=dK.shape SW;refine dP [.x 0,.x 1,.x 2,.x 3,.x 4,.p 6,.x 5,.x 6,.x 7] ?_;refine⟨adm,Tw,be,.slice at0 x0.length ct0,λO J r=>?_,?_⟩
 .rw[cZ (w:=w1) (F:=J) (by rw[da];exact rls r G km1)];exact km2
 have hdl0:=iA Vb hx0h bv c.length;refine cR (GT:=λ_ J v F=>dH F (Nf J F) v (eG c x0 c.length)) (λO J r=>s0 (h:=256) (rlo r G) (dB.cU (dB.cW hc ((kS W r G))) λg V=>(.inl V:Cv S w.heap.size _ g)) (cd.l (cd.rel SW r G) λq hq=>by have:=hx0h q hq;omega) hx0l.symm Vb hx0h bv be) ?_;rintro O wa v14 wb r L Pz hO;have hD:=dH.ef (S:=FF) hO r.cY (iv:=(wa.heap.size,wb.heap.size)::iv) aF;replace hK:=dX.cV (A:=(wa.heap.size,wb.heap.size)::iv) hK r G L λp hp=>aD _ hp;replace W:=W.tr Pz;clear r L Pz;generalize (wa.heap.size,wb.heap.size)::iv=Q8 at*
 rw[EW]at hD hdl0;obtain⟨d0,d1,d2,d3,d4,d5,d6,d7,rfl⟩:=dH.shape hD;refine⟨Nat×(Bool×Option Addr×Nat×Nat×Bool×Option Addr×Nat×Nat)×Rat×World×Iv,λz=>⟨[(1,pP 0 0),(2,iZ 0),(3,pP 1 0),(4,sV ak FS.length ck),(9,pP 2 0),(10,iN z.1)],[(2,.box T.Rat [.v (.bool z.2.1.1),.v (.slice z.2.1.2.1 z.2.1.2.2.1 z.2.1.2.2.2.1),.v (.bool z.2.1.2.2.2.2.1),.v (.slice z.2.1.2.2.2.2.2.1 z.2.1.2.2.2.2.2.2.1 z.2.1.2.2.2.2.2.2.2)]),(0,.box T.Program [.v (.slice am Fn.length cm),.v (.slice ab b.length cb),.v (.slice ac c.length cc)]),(1,.box T.Rat [.v (.bool false),.v nls,.v (.bool false),.v nls])],3,z.2.2.2.2,z.2.2.2.1⟩,λz=>FS.length-z.1,λz=>1<=z.1/\z.1<=FS.length/\Bq w z.2.2.2.1/\dX z.2.2.2.1 (Cv S w.heap.size z.2.2.2.2) (.slice ak FS.length ck) FS/\dH z.2.2.2.1 (Cf w z.2.2.2.2) (.agg #[.bool z.2.1.1,.slice z.2.1.2.1 z.2.1.2.2.1 z.2.1.2.2.2.1,.bool z.2.1.2.2.2.2.1,.slice z.2.1.2.2.2.2.2.1 z.2.1.2.2.2.2.2.2.1 z.2.1.2.2.2.2.2.2.2]) z.2.2.1/\rl z.2.2.1<=2000/\(∃x∈FS.take z.1,oI c x c.length=z.2.2.1)/\∀x∈FS.take z.1,oI c x c.length<=z.2.2.1,?_,?_⟩
 .intro O J r
  exact⟨(1,(d0,d1,d2,d3,d4,d5,d6,d7),_,J,_),⟨lr,Sp,W.tr r.cg,dX.rel hK r G,dH.rel hD r hF,by show rl (oI c x0 c.length)<=2000;omega,⟨x0,by rw[<-iM RI];exact List.mem_append_right _ (aY.2 rfl),rfl⟩,λx Z=>(by
   rw[<-iM RI]at Z
   rw[aY.1 Z];exact Rat.le_refl)⟩,sbgn [] r⟩
 clear W hK hD hdl0 SW km1 km2 Tw hct0;rintro⟨i,⟨d0,d1,d2,d3,d4,d5,d6,d7⟩,q,w1,iv⟩ ⟨Zk,R,W,hK,hD,Uh,hex,Qp⟩;dsimp only at Zk R W hK hD Uh hex Qp ⊢;apply bS<;>intro Pk
 .have Pk:=dL Pk;obtain⟨t,ht⟩:=gO FS i;obtain⟨Xd,hth⟩:=hKh t (aG ht);obtain⟨adm,um,Tw,SW,km1,km2⟩:=dG.load hK ht;obtain⟨at',ct,rfl,hct,-⟩:=dK.shape SW;refine dP [.x 0,.x 1,.x 2,.x 3,.x 4,.x 5,.p 7,.x 6,.x 7,.x 8] ?_;refine⟨adm,Tw,be,.slice at' t.length ct,λO J r=>?_,?_⟩
  .rw[aI,cZ (w:=w1) (F:=J) (by rw[da];exact rls r G km1)];exact km2
  have S7:=iA Vb hth bv c.length;have hB:=hD;clear hD;refine cR (GT:=λ_ J v F=>dH F (Nf J F) v (eG c t c.length)) (λO J r=>s0 (h:=256) (rlo r G) (dB.cU (dB.cW hc ((kS W r G))) λg V=>(.inl V:Cv S w.heap.size _ g)) (cd.l (cd.rel SW r G) λq hq=>by have:=hth q hq;omega) Xd.symm Vb hth bv be) ?_;rintro O wa v15 wb r L Pz hO;have hD:=dH.ef (S:=FF) hO r.cY (iv:=(wa.heap.size,wb.heap.size)::iv) aF;replace hK:=dX.cV (A:=(wa.heap.size,wb.heap.size)::iv) hK r G L λp hp=>aD _ hp;replace hB:=dH.cV (A:=(wa.heap.size,wb.heap.size)::iv) hB r hF L λp hp=>aD _ hp;replace W:=W.tr Pz;clear r L Pz;generalize (wa.heap.size,wb.heap.size)::iv=iv2 at*
  rw[EW]at hD S7;obtain⟨e0,e1,e2,e3,e4,e5,e6,e7,rfl⟩:=dH.shape hD;refine cS (cR (GT:=λ_ J v F=>v=iV (rs (oI c t c.length-q))) (λO J r=>BZ (rlo r hF) (dH.l (dH.rel hD r hF) be) (dH.l (dH.rel hB r hF) be)) ?_);rintro O wa v16 wb r L Pz rfl;replace hK:=dX.cV (A:=(wa.heap.size,wb.heap.size)::iv2) hK r G L λp hp=>aD _ hp;replace hB:=dH.cV (A:=(wa.heap.size,wb.heap.size)::iv2) hB r hF L λp hp=>aD _ hp;replace hD:=dH.cV (A:=(wa.heap.size,wb.heap.size)::iv2) hD r hF L λp hp=>aD _ hp;replace W:=W.tr Pz;clear r L Pz;generalize (wa.heap.size,wb.heap.size)::iv2=Ps at*
  apply bS<;>intro V
  .have V:q<oI c t c.length:=qM.1 (aK V);refine inc i ?_;intro I8 w3 r3
   exact⟨(i+1,(e0,e1,e2,e3,e4,e5,e6,e7),oI c t c.length,w3,_),⟨by dsimp only;omega,Pk,W.tr r3.cg,dX.rel hK r3 G,dH.rel hD r3 hF,by dsimp only;omega,⟨t,by rw[<-iM ht];exact List.mem_append_right _ (aY.2 rfl),rfl⟩,λx Z=>(by
    rw[<-iM ht]at Z;rcases az.1 Z with Z|Z
    .exact Rat.le_trans (Qp x Z) (Rat.le_of_lt V)
    .rw[aY.1 Z];exact Rat.le_refl)⟩,sbgn [] r3,by dsimp only;omega⟩
  have V:oI c t c.length<=q:=Rat.not_lt.1 λh=>absurd (qM.2 h) (aL V);refine inc i ?_;intro I8 w3 r3
  exact⟨(i+1,(d0,d1,d2,d3,d4,d5,d6,d7),q,w3,_),⟨by dsimp only;omega,Pk,W.tr r3.cg,dX.rel hK r3 G,dH.rel hB r3 hF,by dsimp only;omega,hex.imp λx Z=>⟨by rw[<-iM ht];exact List.mem_append_left _ Z.1,Z.2⟩,λx Z=>(by
   rw[<-iM ht]at Z;rcases az.1 Z with Z|Z
   .exact Qp x Z
   .rw[aY.1 Z];exact V)⟩,sbgn [] r3,by dsimp only;omega⟩
 have Pk:=dE R Pk;rw[Pk,bE]at hex Qp;refine dP (idO 3) ?_;obtain⟨xb,hxb,hxq⟩:=hex;have hnk:0<FS.length:=Sp;intro GE we re;refine⟨_,rfl,W.tr re.cg,0,q,d0,d1,d2,d3,d4,d5,d6,d7,rfl,dH.out hD re hF,Uh,.inr (.inr ⟨rfl,⟨xb,(hKm xb).1 hxb,hxq⟩,λx Z=>Qp x ((hKm x).2 Z),λt ht=>Tu t ((hK2m t).2 ht)⟩)⟩
def cd.OE:cd w S nls []:=⟨[],⟨aZ _,rfl,ce,none,0,rfl,lr,λj u h=>by cases h⟩,rfl,ce,λj cs x h=>by cases h⟩
def Hq{x:Tx}{b c:List Rat}{FS Bz n m:Nat}(WL:c.length=n)(XI:Fn.length=m)(TT:Old S w)(Qq:fL w S x (Tb.begin Fn b c))(hA:iP n Fn)(N:b.length=m)(hm:m<=900)(E:n<=900)
  (hW:LD m n Bz (dR Fn) (λi=>b.getD i 0) (λj=>c.getD j 0) d) (hK:ln (fB Bz (m+1))<=FS) (Y:1<=FS) (hh:FS<=90000):
  eH PG Fd.jS #[.pointer (some ⟨x.g,0,none⟩),iV n] w (λe F=>∃v x' t',e= .returned v/\x'.g=x.g/\Kept w F (Bv x.cz)/\fL F (λg=>Nw (λg=>S g\/Bv x.cz g) w F g/\¬Bv x'.cz g) x' t'/\(∀g,Bv x'.cz g->Bv x.cz g\/w.heap.size<=g)/\
   ((v=nls/\∃D,Rp t' D/\jO D m n (dR Fn) (λi=>b.getD i 0) (λj=>c.getD j 0)/\D.uO/\∃E9,D.Sz Bz E9)\/
    (∃a q y,v= .slice (some a) m q/\dx F (Nw S w F) (Nw S w F) v y/\y.length=m/\(∀q∈y,rl q+1<=FS+1)/\vY m n (dR Fn) (λi=>b.getD i 0) λi=>y.getD i 0))):=by
 subst WL XI;exact Hl TT Qq hA N hm E hW hK Y hh
def DQ(Fn:List (List Rat))(b c:List Rat)(FS:Nat)(F:World)(Do:Nat->Prop)(s:Value):Prop:=
 ∃(z:Nat) (vx vy vr:Value) (g0:Bool) (g1:Option Addr) (g2 g3:Nat) (g4:Bool) (g5:Option Addr) (g6 g7:Nat) (X C9 F9:List Rat) (q:Rat),s= .agg #[iV z,vx,vy,vr,.bool g0,.slice g1 g2 g3,.bool g4,.slice g5 g6 g7]/\
  cd F Do vx X/\cd F Do vy C9/\cd F Do vr F9/\dH F Do (.agg #[.bool g0,.slice g1 g2 g3,.bool g4,.slice g5 g6 g7]) q/\sY Fn b c z X C9 F9 q/\
  (∀p∈X,rl p+1<=FS+1)/\(∀p∈C9,rl p+1<=FS+1)/\(∀p∈F9,rl p+1<=FS+1)/\rl q+1<=FS+1/\X.length<=60/\C9.length<=60/\F9.length<=60
def BT{FS Bz:Nat}(TT:Old S w)(hm:dQ w S vm M)(N:dJ w S vb b)(hc:dJ w S vc c)
  (hf:iH M b c=0->(∀r∈M,ue r)/\ue b/\ue c/\LD M.length c.length Bz (dR (dS M)) (λi=>(b.map dC).getD i 0) (λj=>(c.map dC).getD j 0) d/\ln (fB Bz (M.length+1))<=FS/\2<=FS/\FS<=90000):
  eH PG Fd.mq #[.agg #[vm,vb,vc]] w (eV w λv F=>(iH M b c≠0/\v= .tuple #[.agg #[iV 0,nls,nls,nls,.bool false,nls,.bool false,nls],iV (iH M b c)])\/
   (iH M b c=0/\∃s,v= .tuple #[s,iV 0]/\DQ (dS M) (b.map dC) (c.map dC) FS F (Nf w F) s)):=by
 have G:=TT;have hF:=iS w.heap.size;have W:=bR w;obtain⟨am,cm,rfl,Rw,Sv⟩:=dG.shape hm;obtain⟨ab,cb,rfl,Qz,TS⟩:=dK.shape N;obtain⟨ac,cc,rfl,VF,SJ⟩:=dK.shape hc;obtain⟨EQ,hE⟩:∃EQ,EQ=iH M b c:=⟨_,rfl⟩
 refine wE ce ?_;refine cS (cR (GT:=λ_ J v F=>v=iV (iH M b c)) (λO J r=>sZ (oS G r) (dQ.cW hm ((kS W r G))) (dJ.cW N ((kS W r G))) (dJ.cW hc ((kS W r G)))) ?_);rintro O wa_1 v1 wb_1 r L Pu rfl;replace W:=W.tr Pu;clear r L Pu;rw[<-hE];apply bS<;>intro hc0
 .have Po:EQ≠0:=λh=>by rw[h]at hc0;simp at hc0
  exact rtn W λGE we re=>.inl ⟨Po,rfl⟩
 have hE0:EQ=0:=by simpa using hc0
 have hE1:iH M b c=0:=by rw[<-hE];exact hE0
 obtain⟨hfM,WG,Zq,hWp,hK,Y,hh⟩:=hf hE1;obtain⟨-,Pu,Uk,VN,Pm⟩:=mc hE1;rw[Pu]at N ⊢;refine dP (idO 8) ?_;refine cS (cR (GT:=λ_ J v F=>∃x:Tx,v= .pointer (some ⟨x.g,0,none⟩)/\dI F FF J.heap.size [(J.heap.size,F.heap.size)] x (Tb.begin (dS M) (b.map dC) (c.map dC))/\∀g,Bv x.cz g->J.heap.size<=g) (λO J r=>OB (oS G r) (dQ.cW hm ((kS W r G))) (dJ.cW N ((kS W r G))) (dJ.cW hc ((kS W r G))) hfM WG Zq Pm be be be) ?_);rintro O wa v1 wb r L Qf ⟨x,rfl,hT,Z⟩;replace hT:=hT.aAC (iv:=(wa.heap.size,wb.heap.size)::[(wa_1.heap.size,wb_1.heap.size)]) Z r.cY aF;replace Z:∀g,Bv x.cz g->w.heap.size<=g:=λg V=>aR r.cY (Z g V);replace W:=W.tr Qf;clear r L Qf;generalize (wa.heap.size,wb.heap.size)::[(wa_1.heap.size,wb_1.heap.size)]=Pt at*
 obtain⟨Fn,hA⟩:∃Fn,Fn=dS M:=⟨_,rfl⟩
 obtain⟨bq,hbq⟩:∃q,q=b.map dC:=⟨_,rfl⟩
 obtain⟨cq,Xi⟩:∃q,q=c.map dC:=⟨_,rfl⟩
 rw[<-hA,<-hbq,<-Xi]at hT hWp ⊢;have XI:Fn.length=M.length:=by rw[hA];simp[dS]
 have hbm:bq.length=M.length:=by rw[hbq,aO,Pu]
 have WL:cq.length=c.length:=by rw[Xi,aO]
 have hAw:iP c.length Fn:=λr hr=>by
  rw[hA]at hr;obtain⟨r0,h0,rfl⟩:=bA.1 hr;rw[aO];exact Pm r0 h0
 clear hm N hc hf;obtain⟨n,E⟩:∃n,n=c.length:=⟨_,rfl⟩
 obtain⟨m,hm⟩:∃m,m=M.length:=⟨_,rfl⟩
 rw[<-E]at hWp WL hAw Uk ⊢;rw[<-hm]at hWp XI hbm VN hK ⊢;refine⟨λO J r=>?_⟩;refine(Hq (FS:=FS) WL XI (Lv.old r hF) (hT.rel r hF).iw hAw hbm be be hWp hK be hh).mono λe w8 L=>?_;obtain⟨v,y,t1,rfl,R0,Qu,Ql,Pw,Wj⟩:=L;replace Ql:=hT.aBZ r Z Ql Pw;replace W:=(W.tr r.cg).tr (Qu.toBel Z r.cY);replace Pw:∀g,Bv y.cz g->w.heap.size<=g:=λg V=>(Pw g V).elim (Z g) λh=>aR r.cY h;rcases Wj with⟨rfl,D,hR,Zt,hFe,E9,hz⟩|⟨a3,c3,yy,rfl,hY,VU,hyh,hNo⟩
 .refine⟨nls,_,(J.heap.size,w8.heap.size)::Pt,rfl,r.fz (hT.not r) Qu,?_⟩;clear hT Qu r;have hT:=Ql;clear Ql;generalize (J.heap.size,w8.heap.size)::Pt=iv2 at*
  rw[<-R0];refine⟨false,λO w1 o1 o2=>by simp[eqGuard,SV.den,At.den,j5 w1 T.row T.dN none 0 0 0 0 tF],?_⟩;refine⟨λO J r=>?_⟩;refine(JM (FS:=FS) (Lv.old r hF) (hT.rel r hF).iw Zt.ok hFe hR hz (by rw[Zt.em];omega) (by rw[Zt.eq];omega) (by rw[Zt.em];exact hK) be be).mono λe w8 L=>?_;obtain⟨t2,D2,k,j,rfl,Qu,Ql,hC,hD⟩:=L;refine⟨iV (qo j),_,(J.heap.size,w8.heap.size)::iv2,rfl,r.fz (hT.not r) Qu,?_⟩;replace Ql:=hT.ef r Ql;replace W:=(W.tr r.cg).tr (Qu.toBel Pw r.cY);clear hT Qu r;have hT:=Ql;clear Ql;generalize (J.heap.size,w8.heap.size)::iv2=Ps at*
  obtain⟨f1,f2,f3,f4,f5,-⟩:=hC.facts;have Zu:jO D2 m n (dR Fn) (λi=>bq.getD i 0) λj=>cq.getD j 0:=⟨f1,f3.trans Zt.em,f4.trans Zt.eq,λx z=>(f5 x z).trans (Zt.Fi x z)⟩
  have hW2:t2.Wf m n:=by
   have:=hC.rp.wf;rw[Zu.em,Zu.eq]at this;exact this
  have WE:=hC.rp.HA (hC.sz.all f1 (FS:=FS) (by rw[Zu.em];exact hK));have Sr:=hC.rp;have h3:=KJ.end_ Sr hD;have hpt:∀v,v<n->(t2.jf n).getD v 0=D2.val v:=λv hv=>Sr.Ls f1 hv;have QL:=K6 (t:=t2) (n:=n);have hph:=WE.jf (n:=n) be;have XJ:oH Fn.length cq.length (dR Fn) (λi=>bq.getD i 0) λj=>(t2.jf n).getD j 0:=by
   rw[XI,WL];exact(Zu.aAb f2).congr λj hj=>hpt j hj
  have hAw2:iP cq.length Fn:=by rw[WL];exact hAw
  clear hC hz hR Zt hFe f3 f4 f5 hWp
  cases j with
  |some s=>
   obtain⟨e1,e2,e3⟩:=h3;have QI:=K7 (t:=t2) (n:=n) (s:=s);have hrh:=WE.oc (n:=n) (s:=s) be;have hdi:∀v,v<n->(t2.oc n s).getD v 0=D2.dir s v:=λv hv=>Sr.Lt f1 e1 hv;have hsn:s<n:=by rw[<-Zu.eq];exact e1
   refine cS (cR (GT:=λ_ J v F=>dx F (Nw (Lv FF w.heap.size Ps y) J F) (Nw (Lv FF w.heap.size Ps y) J F) v (t2.jf n)) (λO J r=>JN (Lv.old r hF) (hT.rel r hF).iw hW2 be be) ?_);rintro O wa v4 wb r L Pu hO;have hX:=hO.Me r.cY;replace hT:=hT.cV (A:=(wa.heap.size,wb.heap.size)::Ps) r hF L λp hp=>aD _ hp;replace W:=W.tr Pu;clear r L Pu hO;generalize (wa.heap.size,wb.heap.size)::Ps=QA at*
   obtain⟨_,_,rfl,-,-⟩:=dx.shape hX;refine cS (cR (GT:=λ_ J v F=>cd F (Nf J F) v (t2.jf n)) (λO J r=>kI (rlo r hF) (hX.rel r hF hF) (by rw[QL];omega) (λq hq=>by have:=hph q hq;omega)) ?_);rintro O wa v5 wb r L Pu hO;have VO:=cd.ef (S:=FF) hO r.cY (iv:=(wa.heap.size,wb.heap.size)::QA) aF;replace hT:=hT.cV (A:=(wa.heap.size,wb.heap.size)::QA) r hF L λp hp=>aD _ hp;replace hX:=dx.cV (A:=(wa.heap.size,wb.heap.size)::QA) hX r hF hF L λp hp=>aD _ hp;replace W:=W.tr Pu;clear r L Pu hO;generalize (wa.heap.size,wb.heap.size)::QA=QE at*
   obtain⟨_,_,rfl,-,-⟩:=dK.shape VO;clear hX;refine cS (cR (GT:=λ_ J v F=>dx F (Nw (Lv FF w.heap.size QE y) J F) (Nw (Lv FF w.heap.size QE y) J F) v (t2.oc n s)) (λO J r=>GK (Lv.old r hF) (hT.rel r hF).iw hW2 hsn be be be) ?_);rintro O wa v6 wb r L Pu hO;have hR:=hO.Me r.cY;replace hT:=hT.cV (A:=(wa.heap.size,wb.heap.size)::QE) r hF L λp hp=>aD _ hp;replace VO:=cd.cV (A:=(wa.heap.size,wb.heap.size)::QE) VO r hF L λp hp=>aD _ hp;replace W:=W.tr Pu;clear r L Pu hO;generalize (wa.heap.size,wb.heap.size)::QE=Q8 at*
   obtain⟨_,_,rfl,-,-⟩:=dx.shape hR;refine cS (cR (GT:=λ_ J v F=>cd F (Nf J F) v (t2.oc n s)) (λO J r=>kI (rlo r hF) (hR.rel r hF hF) (by rw[QI];omega) (λq hq=>by have:=hrh q hq;omega)) ?_);rintro O wa v7 wb r L Pu hO;have hGR:=cd.ef (S:=FF) hO r.cY (iv:=(wa.heap.size,wb.heap.size)::Q8) aF;replace hT:=hT.cV (A:=(wa.heap.size,wb.heap.size)::Q8) r hF L λp hp=>aD _ hp;replace VO:=cd.cV (A:=(wa.heap.size,wb.heap.size)::Q8) VO r hF L λp hp=>aD _ hp;replace hR:=dx.cV (A:=(wa.heap.size,wb.heap.size)::Q8) hR r hF hF L λp hp=>aD _ hp;replace W:=W.tr Pu;clear r L Pu hO;generalize (wa.heap.size,wb.heap.size)::Q8=RJ at*
   obtain⟨_,_,rfl,-,-⟩:=dK.shape hGR;clear hR;refine cS (cR (GT:=λ_ J v F=>dH F (Nf J F) v ((0:Int):Rat)) (λO J r=>BU 0 J bv bv) ?_);rintro O wa v8 wb r L Pu hO;have hV:=dH.ef (S:=FF) hO r.cY (iv:=(wa.heap.size,wb.heap.size)::RJ) aF;replace hT:=hT.cV (A:=(wa.heap.size,wb.heap.size)::RJ) r hF L λp hp=>aD _ hp;replace VO:=cd.cV (A:=(wa.heap.size,wb.heap.size)::RJ) VO r hF L λp hp=>aD _ hp;replace hGR:=cd.cV (A:=(wa.heap.size,wb.heap.size)::RJ) hGR r hF L λp hp=>aD _ hp;replace W:=W.tr Pu;clear r L Pu hO;generalize (wa.heap.size,wb.heap.size)::RJ=Sl at*
   obtain⟨_,_,_,_,_,_,_,_,rfl⟩:=dH.shape hV;intro GE we re;refine⟨_,rfl,W.tr re.cg,.inr ⟨hE0,_,rfl,2,_,_,_,_,_,_,_,_,_,_,_,t2.jf n,[],t2.oc n s,0,rfl,cd.out VO re hF,cd.OE,cd.out hGR re hF,dH.out hV re hF,?_,hph,(λ_ h=>by cases h),hrh,aR bv (show 3<=FS+1 by omega),by rw[QL];omega,ce,by rw[QI];omega⟩⟩;refine K8 hAw2 (by rw[QL,WL]) (by rw[QI,WL]) XJ ?_;rw[XI,WL];obtain⟨g1,g2⟩:=Zu.Ll e1 e2 e3;exact⟨g1.congr λj hj=>hdi j hj,by rw[cX (g:=λj=>cq.getD j 0*D2.dir s j) λj hj=>by dsimp only;rw[hdi j hj]];exact g2⟩
  |none=>
   have hpr:∀i,i<m->(t2.jP n m).getD i 0= -(D2.lu (n+i)):=λi R=>Sr.Cs f1 R;have VU:=Hk (t:=t2) (n:=n) (k:=m);have hyh:=WE.jP (n:=n) (k:=m) be;have VE:=Sr.et;have Xd:=WE.top;obtain⟨n1,n2,n3⟩:=Zu.aA6 h3;have n4:=(Zu.jf f2).2.2;obtain⟨o1,o2,o3,o4,o5,o6,o7,o8,ZA,hY⟩:=hT.ldT hF;refine dP [.x 0,.x 1,.x 4,.x 5,.x 6,.x 9,.x 10,.x 11,.x 12,.x 2,.x 3,.x 7,.x 8,.x 13,.x 14,.x 15,.x 16] ?_;refine⟨rC o1 o2 o3 o4 o5 o6 o7 o8,rfl,λO J r k u hu=>ZA r k u hu,?_⟩;clear ZA;refine cR (GT:=λ_ J v F=>dx F (Nw (Lv FF w.heap.size Ps y) J F) (Nw (Lv FF w.heap.size Ps y) J F) v (t2.jf n)) (λO J r=>JN (Lv.old r hF) (hT.rel r hF).iw hW2 be be) ?_;rintro O wa v4 wb r L Pu hO;have hX:=hO.Me r.cY;replace hT:=hT.cV (A:=(wa.heap.size,wb.heap.size)::Ps) r hF L λp hp=>aD _ hp;replace hY:=cw.ji (A:=(wa.heap.size,wb.heap.size)::Ps) hY r hF L λp hp=>aD _ hp;replace W:=W.tr Pu;clear r L Pu hO;generalize (wa.heap.size,wb.heap.size)::Ps=QA at*
   obtain⟨_,_,rfl,-,-⟩:=dx.shape hX;refine cR (GT:=λ_ J v F=>cd F (Nf J F) v (t2.jf n)) (λO J r=>kI (rlo r hF) (hX.rel r hF hF) (by rw[QL];omega) (λq hq=>by have:=hph q hq;omega)) ?_;rintro O wa v5 wb r L Pu hO;have VO:=cd.ef (S:=FF) hO r.cY (iv:=(wa.heap.size,wb.heap.size)::QA) aF;replace hT:=hT.cV (A:=(wa.heap.size,wb.heap.size)::QA) r hF L λp hp=>aD _ hp;replace hY:=cw.ji (A:=(wa.heap.size,wb.heap.size)::QA) hY r hF L λp hp=>aD _ hp;replace hX:=dx.cV (A:=(wa.heap.size,wb.heap.size)::QA) hX r hF hF L λp hp=>aD _ hp;replace W:=W.tr Pu;clear r L Pu hO;generalize (wa.heap.size,wb.heap.size)::QA=QE at*
   obtain⟨_,_,rfl,-,-⟩:=dK.shape VO;clear hX;refine cR (GT:=λ_ J v F=>dx F (Nw (Lv FF w.heap.size QE y) J F) (Nw (Lv FF w.heap.size QE y) J F) v (t2.jP n m)) (λO J r=>GJ (Lv.old r hF) (hT.rel r hF).iw hW2 be be be) ?_;rintro O wa v6 wb r L Pu hO;have hP:=hO.Me r.cY;replace hT:=hT.cV (A:=(wa.heap.size,wb.heap.size)::QE) r hF L λp hp=>aD _ hp;replace hY:=cw.ji (A:=(wa.heap.size,wb.heap.size)::QE) hY r hF L λp hp=>aD _ hp;replace VO:=cd.cV (A:=(wa.heap.size,wb.heap.size)::QE) VO r hF L λp hp=>aD _ hp;replace W:=W.tr Pu;clear r L Pu hO;generalize (wa.heap.size,wb.heap.size)::QE=Q8 at*
   obtain⟨_,_,rfl,-,-⟩:=dx.shape hP;refine cR (GT:=λ_ J v F=>cd F (Nf J F) v (t2.jP n m)) (λO J r=>kI (rlo r hF) (hP.rel r hF hF) (by rw[VU];omega) (λq hq=>by have:=hyh q hq;omega)) ?_;rintro O wa v7 wb r L Pu hO;have hGP:=cd.ef (S:=FF) hO r.cY (iv:=(wa.heap.size,wb.heap.size)::Q8) aF;replace hT:=hT.cV (A:=(wa.heap.size,wb.heap.size)::Q8) r hF L λp hp=>aD _ hp;replace hY:=cw.ji (A:=(wa.heap.size,wb.heap.size)::Q8) hY r hF L λp hp=>aD _ hp;replace VO:=cd.cV (A:=(wa.heap.size,wb.heap.size)::Q8) VO r hF L λp hp=>aD _ hp;replace hP:=dx.cV (A:=(wa.heap.size,wb.heap.size)::Q8) hP r hF hF L λp hp=>aD _ hp;replace W:=W.tr Pu;clear r L Pu hO;generalize (wa.heap.size,wb.heap.size)::Q8=RJ at*
   obtain⟨_,_,rfl,-,-⟩:=dK.shape hGP;clear hP;refine cR (GT:=λ_ J v F=>dH F (Nf J F) v t2.top) (λO J r=>zN (Lv.old r hF) (hY.gh r hF) be) ?_;rintro O wa v8 wb r L Pu hO;have hV:=dH.ef (S:=FF) hO r.cY (iv:=(wa.heap.size,wb.heap.size)::RJ) aF;replace hT:=hT.cV (A:=(wa.heap.size,wb.heap.size)::RJ) r hF L λp hp=>aD _ hp;replace hY:=cw.ji (A:=(wa.heap.size,wb.heap.size)::RJ) hY r hF L λp hp=>aD _ hp;replace VO:=cd.cV (A:=(wa.heap.size,wb.heap.size)::RJ) VO r hF L λp hp=>aD _ hp;replace hGP:=cd.cV (A:=(wa.heap.size,wb.heap.size)::RJ) hGP r hF L λp hp=>aD _ hp;replace W:=W.tr Pu;clear r L Pu hO;generalize (wa.heap.size,wb.heap.size)::RJ=Sl at*
   obtain⟨_,_,_,_,_,_,_,_,rfl⟩:=dH.shape hV;intro GE we re;refine⟨_,rfl,W.tr re.cg,.inr ⟨hE0,_,rfl,0,_,_,_,_,_,_,_,_,_,_,_,t2.jf n,t2.jP n m,[],t2.top,rfl,cd.out VO re hF,cd.out hGP re hF,cd.OE,dH.out hV re hF,?_,hph,hyh,(λ_ h=>by cases h),Xd,by rw[QL];omega,by rw[VU];omega,ce⟩⟩;rw[VE];refine Hn hAw2 (by rw[QL,WL]) (by rw[VU,XI]) XJ ?_ ?_ ?_ ?_
   .rw[XI];intro i R;rw[hpr i R];exact n1 i
   .rw[XI,WL];intro j hj;rw[cX (g:=λi=> -(D2.lu (n+i))*dR Fn i j) λi R=>by rw[hpr i R]];exact n3 j hj
   .rw[WL,cX (g:=λj=>cq.getD j 0*D2.val j) λj hj=>by rw[hpt j hj]];exact n4
   .rw[XI,cX (g:=λi=> -(D2.lu (n+i))*bq.getD i 0) λi R=>by rw[hpr i R]];exact n2
 refine⟨.slice (some a3) m c3,_,(J.heap.size,w8.heap.size)::Pt,rfl,r.fz (hT.not r) Qu,?_⟩;replace hY:=hY.Me r.cY;clear hT Qu r;have hT:=Ql;clear Ql;generalize (J.heap.size,w8.heap.size)::Pt=iv2 at*
 refine⟨true,λO w1 o1 o2=>by simp[eqGuard,SV.den,At.den,j5 w1 T.row T.dN (some a3) m c3 0 0 tF],?_⟩;refine cS (cR (GT:=λ_ J v F=>cd F (Nf J F) v (yy)) (λO J r=>kI (rlo r hF) (hY.rel r hF hF) (by rw[VU];omega) (λq hq=>by have:=hyh q hq;omega)) ?_);rintro O wa v4 wb r L Pu hO;have hGY:=cd.ef (S:=FF) hO r.cY (iv:=(wa.heap.size,wb.heap.size)::iv2) aF;replace W:=W.tr Pu;clear r L Pu hO;generalize (wa.heap.size,wb.heap.size)::iv2=QA at*
 obtain⟨_,_,rfl,-,-⟩:=dK.shape hGY;refine cS (cR (GT:=λ_ J v F=>dH F (Nf J F) v ((0:Int):Rat)) (λO J r=>BU 0 J bv bv) ?_);rintro O wa v5 wb r L Pu hO;have hV:=dH.ef (S:=FF) hO r.cY (iv:=(wa.heap.size,wb.heap.size)::QA) aF;replace hGY:=cd.cV (A:=(wa.heap.size,wb.heap.size)::QA) hGY r hF L λp hp=>aD _ hp;replace W:=W.tr Pu;clear r L Pu hO;generalize (wa.heap.size,wb.heap.size)::QA=QE at*
 obtain⟨_,_,_,_,_,_,_,_,rfl⟩:=dH.shape hV;intro GE we re;refine⟨_,rfl,W.tr re.cg,.inr ⟨hE0,_,rfl,1,_,_,_,_,_,_,_,_,_,_,_,[],yy,[],0,rfl,cd.OE,cd.out hGY re hF,cd.OE,dH.out hV re hF,Ho (by rw[VU,XI]) (by rw[XI,WL];exact hNo),(λ_ h=>by cases h),hyh,(λ_ h=>by cases h),aR bv (show 3<=FS+1 by omega),ce,by rw[VU];omega,ce⟩⟩
def MO(G:Old S J)(K:∀g,S g->J.heap[g]? =w.heap[g]?)(h:dQ w S v M):
  eH PG Fd.rX #[v] J (eV J λv' _=>∃d,v'= .bool d/\(d=true->nE w S v M)):=
 (NF G (dQ.cW h K)).mono λ_ _ ⟨v2,e1,e2,d,e3,e4⟩=>⟨v2,e1,e2,d,e3,λhd=>(e4 hd).cW λg V=>(K g V).symm⟩
def BE(G:Old S J)(K:∀g,S g->J.heap[g]? =w.heap[g]?)(h:dJ w S v b):
  eH PG Fd.rV #[v] J (eV J λv' _=>∃d,v'= .bool d/\(d=true->qI w S v b)):=by
 obtain⟨ks,ZR,Wz⟩:=dJ.Gq h;exact(wY G (ZR.cW K)).mono λ_ _ ⟨v2,e1,e2,e3⟩=>⟨v2,e1,e2,_,e3,λhd=>Wz (aK hd)⟩
section
variable{S:Nat->Prop}{w:World}{v u vx vk vp:Value}{z:Int}{M FS:List (List (Int×Int))}{b X P:List (Int×Int)}
end
def Hd(w:World)(S:Nat->Prop)(vm vb vc:Value)(M:List (List (Int×Int)))(b c:List (Int×Int)):Prop:=
 nE w S vm M/\(iH M b c=0->M.length<=4/\c.length<=3/\qI w S vb b/\qI w S vc c)
def Nq(G:Old S w)(hm:dQ w S vm M)(hB:dJ w S vb b)(hc:dJ w S vc c):
  eH PG Fd.rU #[.agg #[vm,vb,vc]] w (eV w λv' _=>∃d,v'= .bool d/\(d=true->Hd w S vm vb vc M b c)):=by
 have W:=bR w;obtain⟨am,cm,rfl,Rw,Sv⟩:=dG.shape hm;obtain⟨ab,cb,rfl,Qz,TS⟩:=dK.shape hB;obtain⟨ac,cc,rfl,VF,SJ⟩:=dK.shape hc;unfold maxLen at Sv TS SJ;refine Aj ce ?_;refine cS (cE W (λ_ J v F=>∃d,v= .bool d/\(d=true->nE w S (.slice am M.length cm) M)) (λO J r=>MO (oS G r) ((kS W r G)) hm) ?_);rintro O _ _ _ Pt r L W h_ ⟨d,rfl,hd⟩;clear r
 cases d with
 |false=>
  exact rtn W λGE we re=>⟨false,rfl,λh=>(by cases h)⟩
 |true=>
  have hM:=hd rfl;clear hd;apply bS<;>intro hb70
  .conv=>whnf
   exact rtn W λGE we re=>⟨false,rfl,λh=>(by cases h)⟩
  have hb70:=aL hb70;apply bS<;>intro hc70
  .conv=>whnf
   exact rtn W λGE we re=>⟨false,rfl,λh=>(by cases h)⟩
  have hc70:=aL hc70;apply bS<;>intro h5b
  .conv=>whnf
   refine cS (cE W (λ_ J v F=>∃d,v= .bool d/\(d=true->qI w S (.slice ab b.length cb) b)) (λO J r=>BE (oS G r) ((kS W r G)) hB) ?_);rintro O Qk v2 QP iv2 r L W h_ ⟨d,rfl,hd⟩;clear r
   cases d with
   |false=>
    exact rtn W λGE we re=>⟨false,rfl,λh=>(by cases h)⟩
   |true=>
    have hBs:=hd rfl;clear hd;apply bS<;>intro h5c
    .conv=>whnf
     refine cS (cE W (λ_ J v F=>∃d,v= .bool d/\(d=true->qI w S (.slice ac c.length cc) c)) (λO J r=>BE (oS G r) ((kS W r G)) hc) ?_);rintro O Qh v3 Q7 Ps r L W h_ ⟨d,rfl,hd⟩;clear r
     cases d with
     |false=>
      exact rtn W λGE we re=>⟨false,rfl,λh=>(by cases h)⟩
     |true=>
      have hC:=hd rfl;clear hd;refine cS (cE W (pE (iV (iH M b c))) (λO J r=>gl (oS G r) (dQ.cW hm ((kS W r G))) (dJ.cW hB ((kS W r G))) (dJ.cW hc ((kS W r G)))) ?_);rintro O _ _ _ QA r L W h_ rfl;clear r;apply bS<;>intro L
      .have L:iH M b c≠0:=λe=>by rw[e]at L;simp at L
       exact rtn W λGE we re=>⟨true,rfl,λ_=>⟨hM,λe=>absurd e L⟩⟩
      apply bS<;>intro h4
      .have h4:M.length<=4:=by have:(M.length:Int)<=4:=(by simpa using h4);omega
       exact rtn W λGE we re=>⟨_,rfl,λh3=>⟨hM,λe=>⟨h4,(by have:(c.length:Int)<=3:=aK h3;omega),hBs,hC⟩⟩⟩
      exact rtn W λGE we re=>⟨false,rfl,λh=>(by cases h)⟩
    have h5c:¬c.length<=5:=λh=>aL h5c be;refine cS (cE W (pE (iV (iH M b c))) (λO J r=>gl (oS G r) (dQ.cW hm ((kS W r G))) (dJ.cW hB ((kS W r G))) (dJ.cW hc ((kS W r G)))) ?_);rintro O Qh v3 Q7 Ps r L W h_ rfl;clear r L;apply bS<;>intro L
    .have L:iH M b c≠0:=λe=>by rw[e]at L;simp at L
     exact rtn W λGE we re=>⟨true,rfl,λ_=>⟨hM,λe=>absurd e L⟩⟩
    apply bS<;>intro h4
    .have h4:M.length<=4:=by have:(M.length:Int)<=4:=(by simpa using h4);omega
     exact rtn W λGE we re=>⟨_,rfl,λh3=>⟨hM,λe=>⟨h4,(by have:(c.length:Int)<=3:=aK h3;omega),hBs,absurd (show c.length<=5 by have:(c.length:Int)<=3:=aK h3;omega) h5c⟩⟩⟩
    exact rtn W λGE we re=>⟨false,rfl,λh=>(by cases h)⟩
  have h5b:¬b.length<=5:=λh=>aL h5b be;apply bS<;>intro h5c
  .conv=>whnf
   refine cS (cE W (λ_ J v F=>∃d,v= .bool d/\(d=true->qI w S (.slice ac c.length cc) c)) (λO J r=>BE (oS G r) ((kS W r G)) hc) ?_);rintro O Qk v2 QP iv2 r L W h_ ⟨d,rfl,hd⟩;clear r L
   cases d with
   |false=>
    exact rtn W λGE we re=>⟨false,rfl,λh=>(by cases h)⟩
   |true=>
    have hC:=hd rfl;clear hd;refine cS (cE W (pE (iV (iH M b c))) (λO J r=>gl (oS G r) (dQ.cW hm ((kS W r G))) (dJ.cW hB ((kS W r G))) (dJ.cW hc ((kS W r G)))) ?_);rintro O _ _ _ Ps r L W h_ rfl;clear r L;apply bS<;>intro L
    .have L:iH M b c≠0:=λe=>by rw[e]at L;simp at L
     exact rtn W λGE we re=>⟨true,rfl,λ_=>⟨hM,λe=>absurd e L⟩⟩
    apply bS<;>intro h4
    .have h4:M.length<=4:=by have:(M.length:Int)<=4:=(by simpa using h4);omega
     exact rtn W λGE we re=>⟨_,rfl,λh3=>⟨hM,λe=>⟨h4,(by have:(c.length:Int)<=3:=aK h3;omega),absurd (show b.length<=5 by have:=(mc e).2.1;omega) h5b,hC⟩⟩⟩
    exact rtn W λGE we re=>⟨false,rfl,λh=>(by cases h)⟩
  have h5c:¬c.length<=5:=λh=>aL h5c be;refine cS (cE W (pE (iV (iH M b c))) (λO J r=>gl (oS G r) (dQ.cW hm ((kS W r G))) (dJ.cW hB ((kS W r G))) (dJ.cW hc ((kS W r G)))) ?_);rintro O _ _ _ iv2 r L W h_ rfl;clear r L;apply bS<;>intro L
  .have L:iH M b c≠0:=λe=>by rw[e]at L;simp at L
   exact rtn W λGE we re=>⟨true,rfl,λ_=>⟨hM,λe=>absurd e L⟩⟩
  apply bS<;>intro h4
  .have h4:M.length<=4:=by have:(M.length:Int)<=4:=(by simpa using h4);omega
   exact rtn W λGE we re=>⟨_,rfl,λh3=>⟨hM,λe=>⟨h4,(by have:(c.length:Int)<=3:=aK h3;omega),absurd (show b.length<=5 by have:=(mc e).2.1;omega) h5b,absurd (show c.length<=5 by have:(c.length:Int)<=3:=aK h3;omega) h5c⟩⟩⟩
  exact rtn W λGE we re=>⟨false,rfl,λh=>(by cases h)⟩
def MP(G:Old S J)(K:∀g,S g->J.heap[g]? =w.heap[g]?)(hm:dQ w S vm M)(hB:dJ w S vb b)(hc:dJ w S vc c):
  eH PG Fd.rU #[.agg #[vm,vb,vc]] J (eV J λv' _=>∃d,v'= .bool d/\(d=true->Hd w S vm vb vc M b c)):=
 (Nq G (dQ.cW hm K) (dJ.cW hB K) (dJ.cW hc K)).mono λ_ _ ⟨v2,e1,e2,d,e3,e4⟩=>⟨v2,e1,e2,d,e3,λhd=>⟨(e4 hd).1.cW λg V=>(K g V).symm,λe=>
  have h:=(e4 hd).2 e
  ⟨h.1,h.2.1,h.2.2.1.cW λg V=>(K g V).symm,h.2.2.2.cW λg V=>(K g V).symm⟩⟩⟩
end Go.Ex
namespace Go.Ex
variable{l:List Rat}
section
variable{Fn:List (List Rat)}{b c:List Rat}{n:Nat}
def MD{k:Nat}(h:∀q∈l,rl q<=k)(K:1<=k)(t:Nat):rl (l.getD t 0)<=k:=by
 rw[List.getD]
 cases e:l[t]? with
 |none=>exact aR (by decide:rl 0<=1) K
 |some q=>exact h q (aG e)
def KH(hA:iP n Fn)(E:n<=4)(hc:c.length<=5)(rA:∀r∈Fn,∀q∈r,rl q<=3)(rb:∀q∈b,rl q<=3)(rc:∀q∈c,rl q<=3):
  ∃d,LD Fn.length n (wt 15) (dR Fn) (λi=>b.getD i 0) (λj=>c.getD j 0) d:=by
 have WQ:=MD rb bv;have Pm:∀i,i<Fn.length->Den (wt 15) (tX (Fn.getD i []++[b.getD i 0]) 5) (Fn.getD i []++[b.getD i 0]):=λi R=>by
  refine Fa (n:=5) (by rw[aU,hA.getD R];show n+1<=5;omega) λq hq=>?_;rcases az.1 hq with hq|hq
  .refine rA _ ?_ q hq;rw[List.getD,aE R];exact bm _
  .rw[aY.1 hq];exact WQ i
 have Tj:Den (wt 15) (tX c 5) c:=Fa (n:=5) hc rc;refine⟨λi=>if i<Fn.length then tX (Fn.getD i []++[b.getD i 0]) 5 else tX c 5,λi _=>?_,λi _=>?_,λi j R hj=>?_,λi R=>?_,λj _=>?_,Lh⟩
 .split
  .rename_i g;exact(Pm i g).1
  .exact Tj.1
 .split
  .rename_i g;exact(Pm i g).2.1
  .exact Tj.2.1
 .rw[aM R];have Y:=(Pm i R).2.2 j
  rwa [od (by rw[hA.getD R];omega),aM (by rw[hA.getD R];exact hj)]at Y
 .rw[aM R];have Y:=(Pm i R).2.2 n
  rwa [od (by rw[hA.getD R];exact ae _),aJ (by rw[hA.getD R];omega)]at Y
 .rw[aJ (Nat.lt_irrefl _)];exact Tj.2.2 j
def H6{m:Nat}(hm:m<=5):ln (fB (wt 15) (m+1))<=97:=(aA4 (l:=16) (F9:=6) be bv bv bv).1
end
end Go.Ex
namespace Go.Ex
open Go Go.Sx Go.Proofs
variable{args:Array Value}{b c:List (Int×Int)}{M:List (List (Int×Int))}{Fn:List (List Rat)}{S:Nat->Prop}{g1 g5:Option Addr}{vb vc vm:Value}{w:World}
def DQ.cU{b c:List Rat}{FS:Nat}{F:World}{Do L':Nat->Prop}{s:Value}(h:DQ Fn b c FS F Do s)(K:∀g,Do g->L' g):DQ Fn b c FS F L' s:=by
 obtain⟨z,vx,vy,vr,g0,g1,g2,g3,g4,g5,g6,g7,X,C9,F9,q,e,Y,I,h3,h4,h5⟩:=h;exact⟨z,vx,vy,vr,g0,g1,g2,g3,g4,g5,g6,g7,X,C9,F9,q,e,cd.cU Y K,cd.cU I K,cd.cU h3 K,dH.cU h4 K,h5⟩
def GV(G:Old S w)(hm:dQ w S vm M)(N:dJ w S vb b)(hc:dJ w S vc c)(L:iH M b c=0)(hM:∀r∈M,ue r)(WG:ue b)(Zq:ue c)
  (ZD:M.length<=4) (Vb:c.length<=4) (r1:∀r∈dS M,∀q∈r,rl q<=3) (r2:∀q∈b.map dC,rl q<=3) (r3:∀q∈c.map dC,rl q<=3):
  eH PG Fd.mq #[.agg #[vm,vb,vc]] w (eV w λv F=>∃s,v= .tuple #[s,iV 0]/\DQ (dS M) (b.map dC) (c.map dC) 97 F (Nf w F) s):=by
 obtain⟨-,-,-,-,Pm⟩:=mc L;have hA:iP c.length (dS M):=λr hr=>by
  obtain⟨x,Z,rfl⟩:=bA.1 hr;rw[aO];exact Pm x Z
 obtain⟨d,hd⟩:=KH (c:=c.map dC) hA Vb (by rw[aO];omega) r1 r2 r3;rw[me]at hd;exact(BT (FS:=97) (Bz:=wt 15) (d:=d) G hm N hc λ_=>⟨hM,WG,Zq,hd,H6 be,bv,bv⟩).mono λ_ F ⟨v2,e1,e2,h⟩=>⟨v2,e1,e2,h.elim (λh=>absurd L h.1) λh=>h.2⟩
def q9{f:Nat}{Q:Prop}(h:eH PG f args w (eV w λv' _=>∃d,v'= .bool d/\(d=true->Q)/\(Q->d=true)))(hq:Q):eH PG f args w (eV w λv' _=>v'= .bool true):=
 h.mono λ_ _ ⟨v2,e1,e2,d,e3,_,e4⟩=>⟨v2,e1,e2,by rw[e3,e4 hq]⟩
def CoG(w:World)(S:Nat->Prop)(va vb vc vx vy vr vq:Value)(Fn:List (List Rat))(bs cs xs ys rs:List Rat)(q:Rat):Prop:=nS w S va Fn/\gD w S vb bs/\gD w S vc cs/\gD w S vx xs/\gD w S vy ys/\gD w S vr rs/\cw w S vq q
section
variable{S:Nat->Prop}{H:Hp}{nx:Nat}{iv A:Iv}{B:Nat}{w J F:World}{O:Nat->Sx.eD}{va vb vc vx vy vr vq:Value}{Fn:List (List Rat)}{bs cs xs ys rs:List Rat}{q:Rat}
def CoG.rel(h:CoG w (Cv S B iv) va vb vc vx vy vr vq Fn bs cs xs ys rs q)(r:Rel H nx iv B w O J)(G:∀g,S g->g<B):CoG J (Cv S B iv) va vb vc vx vy vr vq Fn bs cs xs ys rs q:=by
 obtain⟨Y,I,h3,h4,h5,h6,h7⟩:=h;exact⟨Y.rel r G,I.rel r G,h3.rel r G,h4.rel r G,h5.rel r G,h6.rel r G,h7.rel r G⟩
def CoG.cV(h:CoG w (Cv S B iv) va vb vc vx vy vr vq Fn bs cs xs ys rs q)(r:Rel H nx iv B w O J)(G:∀g,S g->g<B)(L:Ext J F)(hm:∀p,p∈iv->p∈A):CoG F (Cv S B A) va vb vc vx vy vr vq Fn bs cs xs ys rs q:=by
 obtain⟨Y,I,h3,h4,h5,h6,h7⟩:=h;exact⟨Y.cV r G L hm,I.cV r G L hm,h3.cV r G L hm,h4.cV r G L hm,h5.cV r G L hm,h6.cV r G L hm,h7.cV r G L hm⟩
end
def Kf{vx vy vr:Value}{z p1 p2:Int}{X C9 F9:List (Int×Int)}{g2 g3 g6 g7 h:Nat}{g0 g4:Bool}(G:Old S w)
  (hm:dQ w S vm M) (hB:dJ w S vb b) (hc:dJ w S vc c) (Z:dJ w S vx X) (hy:dJ w S vy C9) (hr:dJ w S vr F9) (hv:ke w S (.agg #[.bool g0,.slice g1 g2 g3,.bool g4,.slice g5 g6 g7]) p1 p2) (I:2<=h) (hh:h<=1000000) (h0:iH M b c=0)
  (hf:((∀r∈M,ue r)/\ue b/\ue c/\ue X/\ue C9/\ue F9/\ln p1.natAbs<=10000000000/\ln p2.natAbs<=10000000000)/\Ht (dS M) h/\(∀q∈b.map dC,rl q+1<=h)/\(∀q∈c.map dC,rl q+1<=h)/\
   (∀q∈X.map dC,rl q+1<=h)/\(∀q∈C9.map dC,rl q+1<=h)/\(∀q∈F9.map dC,rl q+1<=h)/\rl (ratio p1 p2)+1<=h/\X.length<=1000000/\C9.length<=1000000/\F9.length<=1000000) (hR:sY (dS M) (b.map dC) (c.map dC) z (X.map dC) (C9.map dC) (F9.map dC) (ratio p1 p2)):
  eH PG Fd.mw #[.agg #[vm,vb,vc],.agg #[iV z,vx,vy,vr,.bool g0,.slice g1 g2 g3,.bool g4,.slice g5 g6 g7]] w (eV w λv' _=>v'=iV 0):=by
 have W:=bR w;obtain⟨am,cm,rfl,Rw,Sv⟩:=dG.shape hm;obtain⟨ab,cb,rfl,Qz,TS⟩:=dK.shape hB;obtain⟨ac,cc,rfl,VF,SJ⟩:=dK.shape hc;obtain⟨ax,cx,rfl,Wi,Ue⟩:=dK.shape Z;obtain⟨ay,cy,rfl,Yc,hmy⟩:=dK.shape hy;obtain⟨ar,cr,rfl,Ur,Zw⟩:=dK.shape hr;refine qg ce ?_;refine cS (cE W (pE (iV ((0:Nat):Int))) (λO J r=>(show iH M b c=0 from h0)▸sZ (oS G r) (dQ.cW hm ((kS W r G))) (dJ.cW hB ((kS W r G))) (dJ.cW hc ((kS W r G)))) ?_);rintro O _ _ _ Pt r L W h_ rfl;clear r;obtain⟨⟨hfM,WG,Zq,hfX,hfY,hfR,TQ,S5⟩,Sn,Xt,Xu,Zy,Wm,hqR,hqv,hX6,hY6,hR6⟩:=hf;obtain⟨hE,Pu,Uk,VN,Pm⟩:=mc h0;refine dP [.x 0,.x 1,.x 3,.x 4,.x 6,.x 7,.x 9,.x 10,.x 12,.x 13,.x 15,.x 16,.x 18,.x 19,.p 22,.x 2,.x 5,.x 8,.x 11,.x 14,.x 17,.x 20,.x 21,.x 22,.x 23] ?_;refine cE W (pR nS (dS M)) (λO J r=>Kg (oS G r) (dQ.cW hm ((kS W r G))) hfM (λr hr=>by have:=Pm r hr;omega) be) ?_;rintro O _ _ _ iv2 r L W h_ E;have gA:=E.cU (nw r h_);clear r;obtain⟨aA,cA,rfl⟩:=gA.shape;refine cE W (λ_ J v F=>eh F FF J.heap.size [(J.heap.size,F.heap.size)] v b.length (b.map dC)) (λO J r=>kY (oS G r) (dJ.cW hB ((kS W r G))) WG be) ?_;rintro O _ _ _ Ps r L W h_ E;replace gA:=gA.cV r oF L (mC h_);have gb:=(show gD _ _ _ _ from(eh.ef (S:=FF) (B:=w.heap.size) E r.cY (mN h_)).read)
 clear r;obtain⟨agb,cgb,rfl⟩:=gb.shape;refine cE W (λ_ J v F=>eh F FF J.heap.size [(J.heap.size,F.heap.size)] v c.length (c.map dC)) (λO J r=>kY (oS G r) (dJ.cW hc ((kS W r G))) Zq be) ?_;rintro O _ _ _ QA r L W h_ E;replace gA:=gA.cV r oF L (mC h_);replace gb:=gb.cV r oF L (mC h_);have gc:=(show gD _ _ _ _ from(eh.ef (S:=FF) (B:=w.heap.size) E r.cY (mN h_)).read)
 clear r;obtain⟨agc,cgc,rfl⟩:=gc.shape;refine cE W (λ_ J v F=>eh F FF J.heap.size [(J.heap.size,F.heap.size)] v X.length (X.map dC)) (λO J r=>kY (oS G r) (dJ.cW Z ((kS W r G))) hfX hX6) ?_;rintro O _ _ _ QE r L W h_ E;replace gA:=gA.cV r oF L (mC h_);replace gb:=gb.cV r oF L (mC h_);replace gc:=gc.cV r oF L (mC h_);have gx:=(show gD _ _ _ _ from(eh.ef (S:=FF) (B:=w.heap.size) E r.cY (mN h_)).read)
 clear r;obtain⟨agx,cgx,rfl⟩:=gx.shape;refine cE W (λ_ J v F=>eh F FF J.heap.size [(J.heap.size,F.heap.size)] v C9.length (C9.map dC)) (λO J r=>kY (oS G r) (dJ.cW hy ((kS W r G))) hfY hY6) ?_;rintro O _ _ _ Q8 r L W h_ E;replace gA:=gA.cV r oF L (mC h_);replace gb:=gb.cV r oF L (mC h_);replace gc:=gc.cV r oF L (mC h_);replace gx:=gx.cV r oF L (mC h_);have gy:=(show gD _ _ _ _ from(eh.ef (S:=FF) (B:=w.heap.size) E r.cY (mN h_)).read)
 clear r;obtain⟨agy,cgy,rfl⟩:=gy.shape;refine cE W (λ_ J v F=>eh F FF J.heap.size [(J.heap.size,F.heap.size)] v F9.length (F9.map dC)) (λO J r=>kY (oS G r) (dJ.cW hr ((kS W r G))) hfR hR6) ?_;rintro O _ _ _ RJ r L W h_ E;replace gA:=gA.cV r oF L (mC h_);replace gb:=gb.cV r oF L (mC h_);replace gc:=gc.cV r oF L (mC h_);replace gx:=gx.cV r oF L (mC h_);replace gy:=gy.cV r oF L (mC h_);have gr:=(show gD _ _ _ _ from(eh.ef (S:=FF) (B:=w.heap.size) E r.cY (mN h_)).read)
 clear r;obtain⟨agr,cgr,rfl⟩:=gr.shape;refine cE W (pR cw (ratio p1 p2)) (λO J r=>zO (oS G r) (hv.cW ((kS W r G))) be be) ?_;rintro O _ _ _ Sl r L W h_ E;replace gA:=gA.cV r oF L (mC h_);replace gb:=gb.cV r oF L (mC h_);replace gc:=gc.cV r oF L (mC h_);replace gx:=gx.cV r oF L (mC h_);replace gy:=gy.cV r oF L (mC h_);replace gr:=gr.cV r oF L (mC h_);have gq:=E.cU (nw r h_);clear r;obtain⟨A0,A1,A2,A3,A4,A5,A6,A7,rfl⟩:=gq.shape;have UU:(dS M).length=M.length:=by simp[dS]
 have SF:∀r∈dS M,r.length=(c.map dC).length:=λr hr=>by
  obtain⟨x,Z,rfl⟩:=bA.1 hr;rw[aO,aO];exact Pm x Z
 have TF:(b.map dC).length=(dS M).length:=by rw[aO,Pu,UU]
 replace Uk:(c.map dC).length<=60:=by rw[aO];exact Uk
 replace VN:(dS M).length<=60:=by rw[UU];exact VN
 replace hX6:(X.map dC).length<=1000000:=by rw[aO];exact hX6
 replace hY6:(C9.map dC).length<=1000000:=by rw[aO];exact hY6
 replace hR6:(F9.map dC).length<=1000000:=by rw[aO];exact hR6
 clear hm hB hc Z hy hr hv hfM WG Zq hfX hfY hfR UU Pm Pu Rw Sv Qz TS VF SJ Wi Ue Yc hmy Ur Zw;generalize dS M=Fn at*
 generalize b.map dC=bs at*
 generalize c.map dC=cs at*
 generalize X.map dC=xs at*
 generalize C9.map dC=ys at*
 generalize F9.map dC=rs' at*
 generalize ratio p1 p2=q at*
 have hL:CoG _ _ _ _ _ _ _ _ _ Fn bs cs xs ys rs' q:=⟨gA,gb,gc,gx,gy,gr,gq⟩
 clear gA gb gc gx gy gr gq;rcases hR with⟨rfl,rfl,XJ,TW,e1,e2⟩|⟨rfl,rfl,rfl,rfl,TW,e1⟩|⟨rfl,rfl,rfl,XJ,hro,e1⟩
 .conv=>whnf
  refine dP [.x 0,.x 1,.x 2,.x 3,.x 4,.x 5,.x 6,.x 7,.x 8,.x 9,.x 10,.x 11,.x 12,.x 13,.x 14,.x 15,.x 16,.x 17,.x 18,.x 19,.x 20,.x 21,.x 22,.x 24,.x 25,.x 23,.x 26,.x 27,.x 28,.x 29,.x 30,.x 31,.x 32,.x 33,.x 35,.x 36,.x 34,.x 37,.x 38,.x 39,.x 40] ?_;refine cE W (pE (.bool true)) (λO J r=>q9 (uh (h:=h) (rlo r oF) (hL.rel r oF).1 (hL.rel r oF).2.2.2.1 (hL.rel r oF).2.1 TF SF Sn Zy Xt I be (by have:=bC (2*h) Uk;omega) hX6) XJ) ?_;rintro O Tk v9 Tl Ui r L W h_ rfl;replace hL:=hL.cV r oF L (mC h_);clear r;refine cE W (pE (.bool true)) (λO J r=>q9 (Gc (h:=h) (rlo r oF) TF (hL.rel r oF).1 (hL.rel r oF).2.2.2.2.1 (hL.rel r oF).2.2.1 SF Sn Wm Xu I be (by have:=bC (2*h) VN;omega) hY6 be) TW) ?_;rintro O UE v10 UF Uj r L W h_ rfl;replace hL:=hL.cV r oF L (mC h_);clear r;refine cE W (pR cw (eG cs xs cs.length)) (λO J r=>Gd (h:=h) (rlo r oF) (hL.rel r oF).2.2.1 (hL.rel r oF).2.2.2.1 XJ.1.symm Xu Zy I (by have:=bC (2*h) Uk;omega)) ?_;rintro O wa11 v11 wb11 Wn r L W h_ E;replace hL:=hL.cV r oF L (mC h_);have hd:=E.cU (nw r h_);clear r;obtain⟨C0,C1,C2,C3,C4,C5,C6,C7,rfl⟩:=hd.shape;rw[e1]at hd;refine cE W (pE (iV 0)) (λO J r=>(JS.2 rfl:rs (q-q)=0)▸ud (rlo r oF) (hd.rel r oF) (hL.rel r oF).2.2.2.2.2.2 be be) ?_;rintro O wa12 v12 wb12 ZF r L W h_ rfl;replace hL:=hL.cV r oF L (mC h_);clear hd;clear r;refine cE W (pR cw (eG ys bs ys.length)) (λO J r=>Gd (h:=h) (rlo r oF) (hL.rel r oF).2.2.2.2.1 (hL.rel r oF).2.1 (TW.1.trans TF.symm) Wm Xt I (by have:=bC (2*h) (show ys.length<=60 from TW.1▸VN);omega)) ?_;rintro O wa13 v13 wb13 ZG r L W h_ E;replace hL:=hL.cV r oF L (mC h_);have hd:=E.cU (nw r h_);clear r;obtain⟨E0,E1,E2,E3,E4,E5,E6,E7,rfl⟩:=hd.shape;rw[e2]at hd;refine cE W (pE (iV 0)) (λO J r=>(JS.2 rfl:rs (q-q)=0)▸ud (rlo r oF) (hd.rel r oF) (hL.rel r oF).2.2.2.2.2.2 be be) ?_;rintro O wa14 v14 wb14 iv14 r L W h_ rfl;replace hL:=hL.cV r oF L (mC h_);clear hd;clear r;exact rtn W λGE we re=>rfl
 .conv=>whnf
  refine dP (idO 34) ?_;refine cE W (pE (iV (rs (0)))) (λO J r=>ij (rlo r oF) (hL.rel r oF).2.2.2.2.2.2) ?_;rintro O Tk v9 Tl Ui r L W h_ rfl;replace hL:=hL.cV r oF L (mC h_);clear r;refine cE W (λ_ J v F=>eh F FF J.heap.size [(J.heap.size,F.heap.size)] v cs.length (fG cs.length)) (λO J r=>j4 cs.length J be) ?_;rintro O UE v10 UF Uj r L W h_ E;replace hL:=hL.cV r oF L (mC h_);have hz:=(show gD _ _ _ _ from(eh.ef (S:=FF) (B:=w.heap.size) E r.cY (mN h_)).read)
  clear r;obtain⟨_,_,rfl⟩:=hz.shape;refine cE W (pE (.bool true)) (λO J r=>q9 (Gc (h:=h) (rlo r oF) TF (hL.rel r oF).1 (hL.rel r oF).2.2.2.2.1 (hz.rel r oF) (λr hr=>(SF r hr).trans (jD _).symm) Sn Wm (Ge I) I be (by have:=bC (2*h) VN;omega) hY6 (by rw[jD];omega)) TW) ?_;rintro O wa11 v11 wb11 Wn r L W h_ rfl;replace hL:=hL.cV r oF L (mC h_);replace hz:=hz.cV r oF L (mC h_);clear r;clear hz;refine cE W (pR cw (eG ys bs ys.length)) (λO J r=>Gd (h:=h) (rlo r oF) (hL.rel r oF).2.2.2.2.1 (hL.rel r oF).2.1 (TW.1.trans TF.symm) Wm Xt I (by have:=bC (2*h) (show ys.length<=60 from TW.1▸VN);omega)) ?_;rintro O wa12 v12 wb12 ZF r L W h_ E;replace hL:=hL.cV r oF L (mC h_);have hd:=E.cU (nw r h_);clear r;obtain⟨F0,F1,F2,F3,F4,F5,F6,F7,rfl⟩:=hd.shape;refine cE W (pE (iV (rs (eG ys bs ys.length)))) (λO J r=>ij (rlo r oF) (hd.rel r oF)) ?_;rintro O wa13 v13 wb13 ZG r L W h_ rfl;replace hL:=hL.cV r oF L (mC h_);clear hd;clear r;refine wj.mk (λE=>absurd (kr.2 e1) (by simpa using E)) (λ_=>?_);exact rtn W λGE we re=>rfl
 .conv=>whnf
  refine dP (idO 38) ?_;refine cE W (pE (iV (rs (0)))) (λO J r=>ij (rlo r oF) (hL.rel r oF).2.2.2.2.2.2) ?_;rintro O _ _ _ Ui r L W h_ rfl;replace hL:=hL.cV r oF L (mC h_);clear r;refine cE W (pE (.bool true)) (λO J r=>q9 (uh (h:=h) (rlo r oF) (hL.rel r oF).1 (hL.rel r oF).2.2.2.1 (hL.rel r oF).2.1 TF SF Sn Zy Xt I be (by have:=bC (2*h) Uk;omega) hX6) XJ) ?_;rintro O _ _ _ Uj r L W h_ rfl;replace hL:=hL.cV r oF L (mC h_);clear r;refine cE W (λ_ J v F=>eh F FF J.heap.size [(J.heap.size,F.heap.size)] v bs.length (fG bs.length)) (λO J r=>j4 bs.length J be) ?_;rintro O _ _ _ Wn r L W h_ E;replace hL:=hL.cV r oF L (mC h_);have hz:=(show gD _ _ _ _ from(eh.ef (S:=FF) (B:=w.heap.size) E r.cY (mN h_)).read)
  clear r E;obtain⟨_,_,rfl⟩:=hz.shape;refine cE W (pE (.bool true)) (λO J r=>q9 (uh (h:=h) (rlo r oF) (hL.rel r oF).1 (hL.rel r oF).2.2.2.2.2.1 (hz.rel r oF) ((jD _).trans TF) SF Sn hqR (Ge I) I be (by have:=bC (2*h) Uk;omega) hR6) hro) ?_;rintro O _ _ _ ZF r L W h_ rfl;replace hL:=hL.cV r oF L (mC h_);replace hz:=hz.cV r oF L (mC h_);clear r;clear hz;refine cE W (pR cw (eG cs rs' cs.length)) (λO J r=>Gd (h:=h) (rlo r oF) (hL.rel r oF).2.2.1 (hL.rel r oF).2.2.2.2.2.1 hro.1.symm Xu hqR I (by have:=bC (2*h) Uk;omega)) ?_;rintro O _ _ _ ZG r L W h_ E;replace hL:=hL.cV r oF L (mC h_);have hd:=E.cU (nw r h_);clear r E;obtain⟨E0,E1,E2,E3,E4,E5,E6,E7,rfl⟩:=hd.shape;refine cE W (pE (iV (rs (eG cs rs' cs.length)))) (λO J r=>ij (rlo r oF) (hd.rel r oF)) ?_;rintro O _ _ _ iv14 r L W h_ rfl;replace hL:=hL.cV r oF L (mC h_);clear hd;clear r;refine wj.mk (λE=>absurd (il.2 e1) (by simpa using E)) (λ_=>?_);exact rtn W λGE we re=>rfl
def Hy{vx vy vr:Value}{z:Int}{bs cs xs ys rs':List Rat}{q:Rat}{g2 g3 g6 g7 h:Nat}{g0 g4:Bool}(G:Old S w)
  (hm:dZ w S vm Fn) (hB:dB w S vb bs) (hc:dB w S vc cs) (Z:dB w S vx xs) (hy:dB w S vy ys) (hr:dB w S vr rs') (hv:fx w S (.agg #[.bool g0,.slice g1 g2 g3,.bool g4,.slice g5 g6 g7]) q) (TF:bs.length=Fn.length) (SF:∀r∈Fn,r.length=cs.length)
  (I:2<=h) (Sn:Ht Fn h) (Xt:∀q∈bs,rl q+1<=h) (Xu:∀q∈cs,rl q+1<=h) (Zy:∀q∈xs,rl q+1<=h) (Wm:∀q∈ys,rl q+1<=h) (hqR:∀q∈rs',rl q+1<=h) (Si:2*h*cs.length<=90000) (Tv:2*h*Fn.length<=90000) (hM6:Fn.length<=1000000) (hc6:cs.length<=1000000) (hR:sY Fn bs cs z xs ys rs' q):
  eH PG Fd.mu #[.agg #[vm,vb,vc],.agg #[iV z,vx,vy,vr,.bool g0,.slice g1 g2 g3,.bool g4,.slice g5 g6 g7]] w (eV w λv' _=>v'=iV 0):=by
 have W:=bR w;obtain⟨am,cm,rfl,Rw,Sv⟩:=dG.shape hm;obtain⟨ab,cb,rfl,Qz,TS⟩:=dK.shape hB;obtain⟨ac,cc,rfl,VF,SJ⟩:=dK.shape hc;obtain⟨ax,cx,rfl,Wi,Ue⟩:=dK.shape Z;obtain⟨ay,cy,rfl,Yc,hmy⟩:=dK.shape hy;obtain⟨ar,cr,rfl,Ur,Zw⟩:=dK.shape hr;unfold maxLen at Sv TS SJ;refine qf ce ?_;refine dP (idO 8) ?_;rcases hR with⟨rfl,rfl,XJ,TW,e1,e2⟩|⟨rfl,rfl,rfl,rfl,TW,e1⟩|⟨rfl,rfl,rfl,XJ,hro,e1⟩
 .conv=>whnf
  refine dP [.x 0,.x 1,.x 2,.x 3,.x 4,.x 5,.x 6,.x 7,.x 8,.x 9,.x 10,.x 11,.x 12,.x 13,.x 14,.x 15,.x 16,.x 17,.x 18,.x 19,.x 20,.x 21,.x 22,.x 23,.x 24,.x 26,.x 27,.x 25,.x 28,.x 29,.x 30,.x 31,.x 32,.x 33,.x 34,.x 36,.x 37,.x 35,.x 38,.x 39,.x 40,.x 41,.x 42,.x 43,.x 44,.x 45,.x 47,.x 48,.x 46,.x 49,.x 50,.x 51,.x 52] ?_;refine cE W (pE (.bool true)) (λO J r=>q9 (lW (h:=h) (rlo r G) (dZ.cU (dZ.cW hm ((kS W r G))) λ_ V=>(.inl V:Cv S w.heap.size _ _)) (dB.cU (dB.cW Z ((kS W r G))) λ_ V=>(.inl V:Cv S w.heap.size _ _)) (dB.cU (dB.cW hB ((kS W r G))) λ_ V=>(.inl V:Cv S w.heap.size _ _)) TF SF Sn Zy I Si be be) XJ) ?_;rintro O QJ v1 QH Pt r L W h_ rfl;clear r;refine cE W (pR cd (fG Fn.length)) (λO J r=>s5 Fn.length J be) ?_;rintro O Qk v2 QP iv2 r L W h_ E;have hz:=cd.cU E (nw r h_);clear r;obtain⟨ahz,chz,rfl,-,-⟩:=dK.shape hz;rw[aq]at hz ⊢;refine cE W (pE (.bool true)) (λO J r=>q9 (ku (rlo r G) (dB.cU (dB.cW hy ((kS W r G))) λ_ V=>(.inl V:Cv S w.heap.size _ _)) (dB.cU (cd.l (cd.rel hz r oF) (λq hq=>by rw[bK hq];decide)) λ_ V=>(qL V:Cv S w.heap.size _ _))) ⟨TW.1.trans (jD _).symm,TW.1▸TW.2.1⟩) ?_;rintro O Qh v3 Q7 Ps r L W h_ rfl;clear hz;clear r;refine cE W (pR cd (eO ys Fn cs.length Fn.length)) (λO J r=>DW (h:=h) (oS G r) (dB.cW hy ((kS W r G))) (dZ.cW hm ((kS W r G))) TW.1 SF be Wm Sn I Tv) ?_;rintro O Rg v4 RT QA r L W h_ E;have hT:=cd.cU E (nw r h_);clear r;clear E;obtain⟨aT,cT,rfl,-,-⟩:=dK.shape hT;rw[fU]at hT ⊢;refine cE W (pE (.bool true)) (λO J r=>q9 (ku (rlo r G) (dB.cU (cd.l (cd.rel hT r oF) (λq hq=>by have:=oA Wm Sn I cs.length Fn.length q hq;omega)) λ_ V=>(qL V:Cv S w.heap.size _ _)) (dB.cU (dB.cW hc ((kS W r G))) λ_ V=>(.inl V:Cv S w.heap.size _ _))) ⟨fU ..,TW.2.2⟩) ?_;rintro O VZ v5 Ut QE r L W h_ rfl;clear hT;clear r;refine cE W (pR dH (eG cs xs cs.length)) (λO J r=>s0 (h:=h) (oS G r) (dB.cW hc ((kS W r G))) (dB.cW Z ((kS W r G))) XJ.1.symm Xu Zy I Si) ?_;rintro O Uu v6 Uv Q8 r L W h_ E;have hd:=E.cU (nw r h_);clear r;obtain⟨A0,A1,A2,A3,A4,A5,A6,A7,rfl⟩:=hd.shape;have S7:=iA Xu Zy I cs.length;have YV:=Si;rw[e1]at hd S7;refine cE W (pE (iV 0)) (λO J r=>(JS.2 rfl:rs (q-q)=0)▸BZ (rlo r G) (dH.l (dH.cU (dH.rel hd r oF) λ_ V=>(qL V:Cv S w.heap.size _ _)) be) (fx.cU (fx.cW hv ((kS W r G))) λ_ V=>(.inl V:Cv S w.heap.size _ _))) ?_;rintro O Wd v7 We RJ r L W h_ rfl;clear hd;clear r;refine cE W (pR dH (eG ys bs ys.length)) (λO J r=>s0 (h:=h) (oS G r) (dB.cW hy ((kS W r G))) (dB.cW hB ((kS W r G))) (TW.1.trans TF.symm) Wm Xt I (show 2*h*ys.length<=90000 by rw[TW.1];exact Tv)) ?_;rintro O wa8 v8 wb8 Sl r L W h_ E;have hd:=E.cU (nw r h_);clear r;obtain⟨C0,C1,C2,C3,C4,C5,C6,C7,rfl⟩:=hd.shape;have S7:=iA Wm Xt I ys.length;have YV:=(show 2*h*ys.length<=90000 by rw[TW.1];exact Tv)
  rw[e2]at hd S7;refine cE W (pE (iV 0)) (λO J r=>(JS.2 rfl:rs (q-q)=0)▸BZ (rlo r G) (dH.l (dH.cU (dH.rel hd r oF) λ_ V=>(qL V:Cv S w.heap.size _ _)) be) (fx.cU (fx.cW hv ((kS W r G))) λ_ V=>(.inl V:Cv S w.heap.size _ _))) ?_;rintro O _ _ _ Ui r L W h_ rfl;clear hd;clear r;exact rtn W λGE we re=>rfl
 .conv=>whnf
  refine dP [.x 0,.x 1,.x 2,.x 3,.x 4,.x 5,.x 6,.x 7,.x 8,.x 9,.x 10,.x 11,.x 12,.x 13,.x 14,.x 15,.x 16,.x 17,.x 18,.x 19,.x 20,.x 21,.x 22,.x 23,.x 24,.x 25,.x 26,.x 28,.x 27,.x 29,.x 30,.x 31,.x 32,.x 33,.x 34,.x 35,.x 36,.x 37,.x 38,.x 39,.x 40,.x 41] ?_;refine⟨((0:Nat):Int),bv,?_⟩;refine cE W (pE (iV (rs 0))) (λO J r=>jv (oS G r) (fx.cW hv ((kS W r G)))) ?_;rintro O QJ v1 QH Pt r L W h_ rfl;clear r;refine cE W (pR cd (fG Fn.length)) (λO J r=>s5 Fn.length J be) ?_;rintro O Qk v2 QP iv2 r L W h_ E;have hz:=cd.cU E (nw r h_);clear r;obtain⟨ahz,chz,rfl,-,-⟩:=dK.shape hz;rw[aq]at hz ⊢;refine cE W (pE (.bool true)) (λO J r=>q9 (ku (rlo r G) (dB.cU (dB.cW hy ((kS W r G))) λ_ V=>(.inl V:Cv S w.heap.size _ _)) (dB.cU (cd.l (cd.rel hz r oF) (λq hq=>by rw[bK hq];decide)) λ_ V=>(qL V:Cv S w.heap.size _ _))) ⟨TW.1.trans (jD _).symm,TW.1▸TW.2.1⟩) ?_;rintro O Qh v3 Q7 Ps r L W h_ rfl;clear hz;clear r;refine cE W (pR cd (eO ys Fn cs.length Fn.length)) (λO J r=>DW (h:=h) (oS G r) (dB.cW hy ((kS W r G))) (dZ.cW hm ((kS W r G))) TW.1 SF be Wm Sn I Tv) ?_;rintro O Rg v4 RT QA r L W h_ E;have hT:=cd.cU E (nw r h_);clear r;clear E;obtain⟨aT,cT,rfl,-,-⟩:=dK.shape hT;rw[fU]at hT ⊢;refine cE W (pR cd (fG cs.length)) (λO J r=>s5 cs.length J be) ?_;rintro O VZ v5 Ut QE r L W h_ E;replace hT:=cd.cV hT r oF L (mC h_);have hz:=cd.cU E (nw r h_);clear r;obtain⟨ahz,chz,rfl,-,-⟩:=dK.shape hz;rw[aq]at hz ⊢;refine cE W (pE (.bool true)) (λO J r=>q9 (ku (rlo r G) (dB.cU (cd.l (cd.rel hT r oF) (λq hq=>by have:=oA Wm Sn I cs.length Fn.length q hq;omega)) λ_ V=>(qL V:Cv S w.heap.size _ _)) (dB.cU (cd.l (cd.rel hz r oF) (λq hq=>by rw[bK hq];decide)) λ_ V=>(qL V:Cv S w.heap.size _ _))) ⟨(fU ..).trans (jD _).symm,by have h:=TW.2.2;rw[jD]at h;exact h⟩) ?_;rintro O Uu v6 Uv Q8 r L W h_ rfl;clear hT;clear hz;clear r;refine cE W (pR dH (eG ys bs ys.length)) (λO J r=>s0 (h:=h) (oS G r) (dB.cW hy ((kS W r G))) (dB.cW hB ((kS W r G))) (TW.1.trans TF.symm) Wm Xt I (show 2*h*ys.length<=90000 by rw[TW.1];exact Tv)) ?_;rintro O _ _ _ RJ r L W h_ E;have hd:=E.cU (nw r h_);clear r;obtain⟨E0,E1,E2,E3,E4,E5,E6,E7,rfl⟩:=hd.shape;have S7:=iA Wm Xt I ys.length;have YV:=(show 2*h*ys.length<=90000 by rw[TW.1];exact Tv)
  refine cE W (pE (iV (rs (eG ys bs ys.length)))) (λO J r=>tG (rlo r oF) (hd.rel r oF)) ?_;rintro O _ _ _ Sl r L W h_ rfl;clear hd;clear r;refine wj.mk (λE=>absurd (kr.2 e1) (by simpa using E)) (λ_=>?_);exact rtn W λGE we re=>rfl
 .rw[TF]at hro;refine dP (idO 36) ?_;refine cE W (pE (iV (rs 0))) (λO J r=>jv (oS G r) (fx.cW hv ((kS W r G)))) ?_;rintro O _ _ _ Pt r L W h_ rfl;clear r;refine cE W (pE (.bool true)) (λO J r=>q9 (lW (h:=h) (rlo r G) (dZ.cU (dZ.cW hm ((kS W r G))) λ_ V=>(.inl V:Cv S w.heap.size _ _)) (dB.cU (dB.cW Z ((kS W r G))) λ_ V=>(.inl V:Cv S w.heap.size _ _)) (dB.cU (dB.cW hB ((kS W r G))) λ_ V=>(.inl V:Cv S w.heap.size _ _)) TF SF Sn Zy I Si be be) XJ) ?_;rintro O _ _ _ iv2 r L W h_ rfl;clear r;refine cE W (pR cd (fG Fn.length)) (λO J r=>s5 Fn.length J be) ?_;rintro O _ _ _ Ps r L W h_ E;have hz:=cd.cU E (nw r h_);clear r E;obtain⟨ahz,chz,rfl,-,-⟩:=dK.shape hz;rw[aq]at hz ⊢;refine cE W (pE (.bool true)) (λO J r=>q9 (lW (h:=h) (rlo r G) (dZ.cU (dZ.cW hm ((kS W r G))) λ_ V=>(.inl V:Cv S w.heap.size _ _)) (dB.cU (dB.cW hr ((kS W r G))) λ_ V=>(.inl V:Cv S w.heap.size _ _)) (show dB _ _ (Value.slice ahz Fn.length chz) _ from(dB.cU (cd.l (cd.rel hz r oF) (λq hq=>by rw[bK hq];decide)) λ_ V=>(qL V:Cv S w.heap.size _ _))) (jD _) SF Sn hqR I Si be be) hro) ?_;rintro O _ _ _ QA r L W h_ rfl;replace hz:=cd.cV hz r oF L (mC h_);clear r;clear hz;refine cE W (pR dH (eG cs rs' cs.length)) (λO J r=>s0 (h:=h) (oS G r) (dB.cW hc ((kS W r G))) (dB.cW hr ((kS W r G))) hro.1.symm Xu hqR I Si) ?_;rintro O _ _ _ QE r L W h_ E;have hd:=E.cU (nw r h_);clear r E;obtain⟨F0,F1,F2,F3,F4,F5,F6,F7,rfl⟩:=hd.shape;have S7:=iA Xu hqR I cs.length;have YV:=Si;refine cE W (pE (iV (rs (eG cs rs' cs.length)))) (λO J r=>tG (rlo r oF) (hd.rel r oF)) ?_;rintro O _ _ _ Q8 r L W h_ rfl;clear hd;clear r;refine wj.mk (λE=>absurd (il.2 e1) (by simpa using E)) (λ_=>?_);exact rtn W λGE we re=>rfl
def Hx(w:World):eH PG Fd.uT #[.agg #[.bool false,nls,.bool false,nls],.agg #[.bool false,nls,.bool false,nls]] w (eV w λv' _=>v'= .bool true):=by
 have W:=bR w;refine tm ce ?_;refine cS (cE W (pE (.bool true)) (λO J r=>mf (MV J) (dV.nil J _) (dV.nil J _)) ?_);rintro O _ _ _ Pt r L W h_ rfl;clear r;refine cS (cE W (pE (.bool true)) (λO J r=>mf (MV J) (dV.nil J _) (dV.nil J _)) ?_);rintro O _ _ _ iv2 r L W h_ rfl;clear r;exact rtn W λGE we re=>rfl
def aAE(w:World):eH PG Fd.AY #[.agg #[iV 0,nls,nls,nls,.bool false,nls,.bool false,nls]] w (eV w λv' _=>v'= .bool true):=by
 have W:=bR w;refine CC ce ?_;refine⟨((0:Nat):Int),bv,((0:Nat):Int),bv,?_⟩;refine cS (cR (GT:=λ_ J v F=>v= .bool true) (λO J r=>Hx J) ?_);rintro O QJ v1 QH r L N rfl;replace W:=W.tr N;exact rtn W λGE we re=>rfl
def x6(G:Old S w)(hm:dQ w S vm M)(hB:dJ w S vb b)(hc:dJ w S vc c):
  eH PG Fd.lN #[.agg #[vm,vb,vc]] w (eV w λv' _=>v'= .bool true):=by
 have W:=bR w;have hF:=iS w.heap.size;obtain⟨am,cm,rfl,Rw,Sv⟩:=dG.shape hm;obtain⟨ab,cb,rfl,Qz,TS⟩:=dK.shape hB;obtain⟨ac,cc,rfl,VF,SJ⟩:=dK.shape hc;unfold maxLen at Sv TS SJ;refine ot ce ?_;refine cS (cE W (λ_ J v F=>∃d,v= .bool d/\(d=true->Hd w S (.slice am M.length cm) (.slice ab b.length cb) (.slice ac c.length cc) M b c)) (λO J r=>MP (oS G r) ((kS W r G)) hm hB hc) ?_);rintro O _ _ _ Pt r L W h_ ⟨d,rfl,hd⟩;clear r
 cases d with
 |false=>
  refine cS (cE W (pE (.bool true)) (λO J r=>EX J) ?_);rintro O Qk v2 QP iv2 r L W h_ rfl;clear r;exact rtn W λGE we re=>rfl
 |true=>
  have hL:=hd rfl;clear hd;obtain⟨hM,hL⟩:=hL;rcases bB (iH M b c)with L|L
  .obtain⟨ZD,Ya,Zx,QX⟩:=hL L;obtain⟨e1,e2,e3,e4,e5⟩:=mc L;have hrA:iP c.length (dS M):=λr hr=>by
    obtain⟨x,Z,rfl⟩:=bA.1 hr;rw[aO];exact e5 x Z
   have Zm:(b.map dC).length=(dS M).length:=by rw[aO,me];exact e2
   have Qa:(c.map dC).length=c.length:=aO ..;have UU:(dS M).length=M.length:=me M;obtain⟨m1,m2,m3,m4,-⟩:=hM.aAy e1;refine cS (cR (GT:=λ_ J v F=>∃s,v= .tuple #[s,iV 0]/\DQ (dS M) (b.map dC) (c.map dC) 97 F (Nf J F) s) (λO J r=>GV (oS G r) (dQ.cW hm ((kS W r G))) (dJ.cW hB ((kS W r G))) (dJ.cW hc ((kS W r G))) L hM.2.2.2.2 Zx.2.2 QX.2.2 ZD be hM.2.2.2.1 Zx.2.1 QX.2.1) ?_);rintro O Qk v2 QP r L N ⟨s,rfl,hO⟩;replace W:=W.tr N;have Sm:=hO.cU (L':=Cv S w.heap.size ((Qk.heap.size,QP.heap.size)::Pt)) λg V=>V.ef r.cY aF;clear r L N;generalize (Qk.heap.size,QP.heap.size)::Pt=iv2 at*
   obtain⟨z,vx,vy,vr,k0,k1,k2,k3,k4,k5,k6,k7,X,C9,F9,p,rfl,Z,hy,hr,hV,hR,hXh,hYh,hRh,hph,hXl,hYl,hRl⟩:=Sm;obtain⟨_,_,rfl,-,-⟩:=dK.shape Z;obtain⟨_,_,rfl,-,-⟩:=dK.shape hy;obtain⟨_,_,rfl,-,-⟩:=dK.shape hr;refine cS (cE W (pE (iV ((0:Nat):Int))) (λO J r=>(show iH M b c=0 from L)▸gl (oS G r) (dQ.cW hm ((kS W r G))) (dJ.cW hB ((kS W r G))) (dJ.cW hc ((kS W r G)))) ?_);rintro O Qh v3 Q7 Ps r L W h_ rfl;replace Z:=cd.cV Z r G L (mC h_);replace hy:=cd.cV hy r G L (mC h_);replace hr:=cd.cV hr r G L (mC h_);replace hV:=dH.cV hV r G L (mC h_);clear r L
   refine cS (cE W (λ_ J v F=>∃(kk:Nat) (q:Rat) (q0:Bool) (q1:Option Addr) (q2 q3:Nat) (q4:Bool) (q5:Option Addr) (q6 q7:Nat),v= .tuple #[iV kk,.agg #[.bool q0,.slice q1 q2 q3,.bool q4,.slice q5 q6 q7]]/\dH F (Nf J F) (.agg #[.bool q0,.slice q1 q2 q3,.bool q4,.slice q5 q6 q7]) q/\rl q<=2000/\PT (dS M) (b.map dC) (c.map dC) kk q) (λO J r=>(by
     have h:=Ke (w:=J) (b:=b.map dC) (c:=c.map dC) (oS G r) (dZ.cW hM.2.2.1 ((kS W r G))) (dB.cW Zx.1 ((kS W r G))) (dB.cW QX.1 ((kS W r G))) (by rw[Qa];exact hrA) Zm be be hM.2.2.2.1 Zx.2.1 QX.2.1
     exact h)) ?_)
   rintro O Rg v4 RT QA r L W h_ ⟨kk,q,q0,q1,q2,q3,q4,q5,q6,q7,rfl,hq,Uh,hAns⟩;replace Z:=cd.cV Z r G L (mC h_);replace hy:=cd.cV hy r G L (mC h_);replace hr:=cd.cV hr r G L (mC h_);replace hV:=dH.cV hV r G L (mC h_);have hQ:=dH.ef (S:=S) hq r.cY (mN h_);clear r L;obtain⟨k9,hz,Vi,hCert⟩:=hR.cert (by rw[Qa];exact hrA) Zm;obtain rfl:z=k9:=by omega
   obtain⟨rfl,rfl⟩:=MK (by rw[Qa];exact hrA) Zm hCert hAns;refine wj.mk (λ_=>?_) (λPo=>by simp at Po);refine cS (cE W (pE (iV 0)) (λO J r=>(show rs (p-p)=0 from sT.2 rfl)▸BZ (rlo r G) (dH.l (dH.rel hV r G) be) (dH.l (dH.rel hQ r G) be)) ?_);rintro O VZ v5 Ut QE r L W h_ rfl;replace Z:=cd.cV Z r G L (mC h_);replace hy:=cd.cV hy r G L (mC h_);replace hr:=cd.cV hr r G L (mC h_);replace hV:=dH.cV hV r G L (mC h_);clear hQ;clear r L;refine cS (cE W (pE (iV 0)) (λO J r=>Hy (z:=(z:Int)) (h:=98) (rlo r G) (dZ.cU (dZ.cW hM.2.2.1 ((kS W r G))) λg V=>(.inl V:Cv S w.heap.size _ g)) (dB.cU (dB.cW Zx.1 ((kS W r G))) λg V=>(.inl V:Cv S w.heap.size _ g)) (dB.cU (dB.cW QX.1 ((kS W r G))) λg V=>(.inl V:Cv S w.heap.size _ g)) (cd.l (cd.rel Z r G) λq hq=>by have:=hXh q hq;omega) (cd.l (cd.rel hy r G) λq hq=>by have:=hYh q hq;omega) (cd.l (cd.rel hr r G) λq hq=>by have:=hRh q hq;omega) (dH.l (dH.rel hV r G) be) Zm (by rw[Qa];exact hrA) bv (m4.mono bv) (λq hq=>by have:=Zx.2.1 q hq;omega) (λq hq=>by have:=QX.2.1 q hq;omega) hXh hYh hRh be be be be hR) ?_);rintro O _ _ _ Q8 r L W h_ rfl;replace Z:=cd.cV Z r G L (mC h_);replace hy:=cd.cV hy r G L (mC h_);replace hr:=cd.cV hr r G L (mC h_);replace hV:=dH.cV hV r G L (mC h_);clear r L
   refine cS (cE W (pE (iV 0)) (λO J r=>Kf (z:=(z:Int)) (h:=98) (X:=nJ X) (C9:=nJ C9) (F9:=nJ F9) (p1:=p.num) (p2:=(p.den:Int)) (rlo r G) (dQ.cU (dQ.cW hm ((kS W r G))) λg V=>(.inl V:Cv S w.heap.size _ g)) (dJ.cU (dJ.cW hB ((kS W r G))) λg V=>(.inl V:Cv S w.heap.size _ g)) (dJ.cU (dJ.cW hc ((kS W r G))) λg V=>(.inl V:Cv S w.heap.size _ g)) (cd.rel Z r G).nJ (cd.rel hy r G).nJ (cd.rel hr r G).nJ (dH.rel hV r G).r bv bv L (by
     rw[kJ,kJ,kJ,nK,x7,x7,x7]
     exact⟨⟨hM.2.2.2.2,Zx.2.2,QX.2.2,x8 λq hq=>by have:=hXh q hq;omega,x8 λq hq=>by have:=hYh q hq;omega,x8 λq hq=>by have:=hRh q hq;omega,by have:=fg p;omega,by have:=fD p;omega⟩,m4.mono bv,(λq hq=>by have:=Zx.2.1 q hq;omega),(λq hq=>by have:=QX.2.1 q hq;omega),hXh,hYh,hRh,be,be,be,be⟩) (by rw[kJ,kJ,kJ,nK];exact hR)) ?_)
   rintro O _ _ _ RJ r L W h_ rfl;replace Z:=cd.cV Z r G L (mC h_);replace hy:=cd.cV hy r G L (mC h_);replace hr:=cd.cV hr r G L (mC h_);replace hV:=dH.cV hV r G L (mC h_);clear r L;refine cS (cE W (pE (.bool true)) (λO J r=>EX J) ?_);rintro O _ _ _ Sl r L W h_ rfl;replace Z:=cd.cV Z r G L (mC h_);replace hy:=cd.cV hy r G L (mC h_);replace hr:=cd.cV hr r G L (mC h_);replace hV:=dH.cV hV r G L (mC h_);clear r L;exact rtn W λGE we re=>rfl
  refine cS (cE W (pE (.tuple #[.agg #[iV 0,nls,nls,nls,.bool false,nls,.bool false,nls],iV (iH M b c)])) (λO J r=>(BT (FS:=97) (Bz:=wt 15) (d:=λ_=>0) (oS G r) (dQ.cW hm ((kS W r G))) (dJ.cW hB ((kS W r G))) (dJ.cW hc ((kS W r G))) λe=>absurd e be).mono λ_ F ⟨v2,e1,e2,e3⟩=>⟨v2,e1,e2,e3.elim (λh=>h.2) λh=>absurd h.1 be⟩) ?_);rintro O _ _ _ iv2 r L W h_ rfl;clear r L;refine cS (cE W (pE (iV ((iH M b c:Nat):Int))) (λO J r=>gl (oS G r) (dQ.cW hm ((kS W r G))) (dJ.cW hB ((kS W r G))) (dJ.cW hc ((kS W r G)))) ?_);rintro O _ _ _ Ps r L W h_ rfl;clear r L;refine wj.mk (λ_=>?_) (λh=>absurd (show iH M b c=0 by simpa using h) be);refine wj.mk (λ_=>?_) (λPo=>by simp at Po);refine cS (cE W (pE (.bool true)) (λO J r=>aAE J) ?_);rintro O _ _ _ QA r L W h_ rfl;clear r L;refine cS (cE W (pE (.bool true)) (λO J r=>EX J) ?_);rintro O _ _ _ QE r L W h_ rfl;clear r L;exact rtn W λGE we re=>rfl
end Go.Ex
