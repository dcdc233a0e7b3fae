/- Texts X104 to L40: lemmas, each with its conditions. -/
import Derived.Test.YtgkpbdkechfgmaaGreatP9
namespace Go.Ex
open Go Go.Sx Go.Proofs
variable{M:List (List Rat)}{xs:List Rat}{S:Nat->Prop}{q:Rat}{v:Value}{w:World}
def xY(w:World)(S:Nat->Prop)(B:Nat)(v:Value)(xs:List Rat):Prop:=∃css:List (List Value),css.length=xs.length∧(∀cs∈css,cs.length=4)∧w.ownsRow B T.Rat 4 v xs.length css.flatten∧(∀u∈css.flatten,u.oneCell'=true)∧∀(j:Nat) cs q,css[j]? =some cs->xs[j]? =some q->mD w S cs q
section
variable{S:Nat->Prop}{H:Hp}{nx:Nat}{iv0:Iv}{B:Nat}{w w' w2:World}{O:Nat->Sx.eE}{v:Value}{xs:List Rat}
theorem xY.nil:xY w S B (.slice none 0 0) []:=⟨[],rfl,by simp,⟨rfl,.inl ⟨rfl,rfl⟩⟩,by simp,by simp⟩
theorem xY.shape(h:xY w S B v xs):∃a c,v= .slice a xs.length c:=by
 obtain⟨css,h1,h2,h3,-⟩:=h;obtain⟨a,c,h,_⟩:=iX h3;exact⟨a,c,h⟩
theorem xY.le(h:xY w S B v xs):xs.length<=maxLen:=by
 obtain⟨css,h1,h2,h3,-⟩:=h;rcases h3.2 with⟨_,h0⟩|⟨_,_,_,_,_,_,h1,h2,_⟩
 ·omega
 ·omega
theorem xY.rel(h:xY w S B v xs)(r:Rel H nx (j8 v++iv0) B w O w')(hS:∀g,S g->g<B):xY w' S B v xs:=by
 obtain⟨css,h1,h2,h3,h4,h5⟩:=h;exact⟨css,h1,h2,jW h3 ((G2.row v).mono fun p hp=>List.mem_append_left _ hp) r,h4,fun j cs q k1 k2=>(h5 j cs q k1 k2).cJ fun g hg=>r.cS.block g (hS g hg)⟩
theorem Mh{v':Value}(r:Rel H nx (j8 v++iv0) B w O w')(Oo:w'.heap.size<=w2.heap.size)(R1:∀g,v'.ownBlock=some g->g<w2.heap.size∧(v.ownBlock=some g∨g=w'.heap.size)):
  ∀lo hi,(lo,hi)∈j8 v'++iv0->hi<=w2.heap.size∧∀id b,dM H id=some b->(O id).nil=false->¬(lo<=(O id).g∧(O id).g<hi):=fun lo hi hm=>by
 rcases List.mem_append.1 hm with hm|hm
 ·obtain⟨hg,rfl⟩:=tO.1 hm;obtain⟨h1,h2⟩:=R1 _ hg;refine⟨by omega,fun id c hc hn he=>?_⟩;rcases h2 with h2|h2
  ·exact((G2.row v).mono fun p hp=>List.mem_append_left _ hp).not r h2 id c hc hn (by omega)
  ·have:=(r.low id c hc hn).2;omega
 ·have Th:=List.mem_append_right (j8 v) hm;exact⟨by have:=r.so lo hi Th;have:=r.size;omega,fun id b hb hn=>r.lk lo hi Th id b hb hn⟩
theorem xY.read(h:xY w S B v xs):dB w (Cv S B (j8 v++iv0)) v xs:=by
 have hle:=h.le;obtain⟨css,h1,h2,h3,h4,h5⟩:=h;have Ok:=eD h2;refine⟨css,?_,h1,h2,fun j cs q k1 k2=>(h5 j cs q k1 k2).cL fun _ hg=>.inl hg⟩;rcases h3.2 with⟨rfl,h0⟩|⟨g,cap,cur,rfl,hb,hc,Vo,Qb,Oo,R9⟩
 ·refine⟨hle,by rw[Ok,h1],h4,none,0,by rw[h0],by omega,fun j u hu=>?_⟩;have h6:css=[]:=List.eq_nil_of_length_eq_zero (by omega);rw[h6]at hu
  cases hu
 ·refine⟨hle,by rw[Ok,h1],h4,_,cap,rfl,Vo,fun j u hu=>⟨_,rfl,.inr ⟨hb,g,g+1,List.mem_append_left _ (tO.2 ⟨rfl,rfl⟩),Nat.le_refl _,bU _⟩,?_⟩⟩;exact h3.cells (g:=g) rfl j u hu
end
def kD(M:List (List Rat))(n k i:Nat):List (List Rat):=(List.range i).map fun r=>(List.range n).map fun j=>cY M (r+1) (skip k j)
def kM(M:List (List Rat))(r k c:Nat):List Rat:=(List.range (if c<=k then c else c-1)).map fun j=>cY M r (skip k j)
theorem Mi(M:List (List Rat))(r k c:Nat):(kM M r k c).length=if c<=k then c else c-1:=by simp[kM]
theorem Jq{r k:Nat}:kM M r k (k+1)=kM M r k k:=by
 unfold kM;rw[aK (by omega),if_pos (Nat.le_refl _),Nat.add_sub_cancel]
theorem Jr{r k c:Nat}(h:c≠k):kM M r k (c+1)=kM M r k c++[cY M r c]:=by
 unfold kM;rcases aP c k with h1|h1
 ·rw[if_pos (by omega),if_pos (by omega),bM,List.map_append];simp[skip,h1]
 ·obtain⟨d,rfl⟩:∃d,c=d+1:=⟨c-1,by omega⟩
  rw[aK (by omega),aK (by omega),Nat.add_sub_cancel,Nat.add_sub_cancel,bM,List.map_append];simp[skip,show ¬d<k by omega]
theorem Mj{n r k:Nat}(h:k<n+1):kM M r k (n+1)=(List.range n).map fun j=>cY M r (skip k j):=by
 unfold kM;rw[aK (by omega),Nat.add_sub_cancel]
theorem qM(M:List (List Rat))(n k i:Nat):(kD M n k i).length=i:=by simp[kD]
theorem IU{n k i:Nat}:kD M n k (i+1)=kD M n k i++[(List.range n).map fun j=>cY M (i+1) (skip k j)]:=by
 unfold kD;rw[bM,List.map_append];rfl
theorem Mk{n k i j:Nat}(hi:i<n)(hj:j<n):cY (kD M n k n) i j=cY M (i+1) (skip k j):=by
 unfold cY kD;simp[List.getD,bP hi,bP hj];rfl
theorem Js{n k i:Nat}:∀r∈kD M n k i,r.length=n:=fun r hr=>by
 obtain⟨x,_,rfl⟩:=aT.1 hr;simp
theorem Ml{n k i h:Nat}(H:Ht M h)(h2:2<=h):Ht (kD M n k i) h:=fun r hr q hq=>by
 obtain⟨x,_,rfl⟩:=aT.1 hr;obtain⟨j,_,rfl⟩:=aT.1 hq;exact kU H h2 _ _
def lf(h:Nat):Nat->Nat
 |0=>2
 |n+1=>(n+1)*(h+lf h n+2)+2
theorem LZ(h n:Nat):h+lf h n+4<=lf h (n+1):=by
 show _<=(n+1)*(h+lf h n+2)+2;have:=Nat.mul_le_mul_right (h+lf h n+2) (show 1<=n+1 by omega);omega
theorem xZ{f:Nat->Rat}{b:Nat}:∀n,(∀k,k<n->rl (f k)<=b)->rl (cX f n)<=n*(b+1)+2
 |0,_=>by show rl 0<=_;exact aV (by decide:rl 0<=2) (Nat.le_add_left ..)
 |n+1,h=>by
  have h1:=xZ n fun k hk=>h k (by omega);have h2:=h n (by omega);have h3:=kz (cX f n) (f n);show rl (cX f n+f n)<=_;rw[Nat.add_mul,Nat.one_mul];omega
theorem aA2(k:Nat)(x:Rat):rl (lX k*x)=rl x:=by
 unfold lX;split
 ·rw[show (-1:Rat)*x= -x by grind,jB]
 ·rw[bf]
theorem G3{h:Nat}(h2:2<=h):∀(n:Nat) (m:Mx),(∀i j,i<n->j<n->rl (m i j)+1<=h)->rl (eJ n m)<=lf h n
 |0,_,_=>by show rl 1<=2;decide
 |n+1,m,H=>by
  unfold eJ lf;refine aV (xZ (b:=h+lf h n) _ fun k hk=>?_) ?_
  ·have h3:=G3 h2 n (fun i j=>m (i+1) (skip k j)) fun i j hi hj=>H _ _ (by omega) (Fi hj);have h4:=H 0 k (by omega) hk;have h5:=fb (m 0 k) (eJ n fun i j=>m (i+1) (skip k j));rw[aA2];omega
  ·exact Nat.add_le_add_right (bO _ (by omega)) 2
theorem Mm{h:Nat}{n m:Nat}(hm:n<=m):lf h n<=lf h m:=by
 induction hm with
 |refl=>exact Nat.le_refl _
 | @step m _ ih=>exact aV ih (by have:=LZ h m;show lf h m<=lf h (m+1);omega)
theorem aA3{h:Nat}(h2:2<=h):∀(n:Nat) {S:Nat->Prop} {w:World} {vm:Value} {M:List (List Rat)},Old S w->fN w S vm M->n<=M.length->(∀r∈M,n<=r.length)->Ht M h->n<=1000->lf h n<=90000->
  eA PG N.Eo #[vm,.int .i64 ((n:Nat):Int)] w (eL w fun v' w2=>cT w2 (Nf w w2) v' (eJ n (cY M)))
 |0,S,w,vm,M,_,_,_,_,_,_,_=>by
  have hw:=bR w;refine xR (by simp) ?_;conv=>whnf
  refine cH (cE hw (fun _ w' v w2=>cT w2 (Nf w' w2) v (((1:Int):Rat))) (fun O w' r=>oE 1 w' (by decide) (by decide)) ?_);rintro O Pa v1 PJ Od r he hw h_ hn;have hd:=hn.dK (S:=FF) r.cI (mN h_);clear r;obtain⟨A0,A1,A2,A3,A4,A5,A6,A7,rfl⟩:=hd.shape;conv=>whnf
  exact rtn hw fun ρe we re=>by have h:=hd.out re (cG w);rw[show ((1:Int):Rat)=1 by decide]at h;exact h
 |n+1,S,w,vm,M,hS,TR,hnM,OX,QO,UC,hBd=>by
  have hw:=bR w;obtain⟨am,cm,rfl,Ri,Q9⟩:=dA.shape TR;unfold maxLen at Q9;have hB1:=LZ h n;refine xR (by simp) ?_;conv=>whnf
  refine cH (cE hw (fun _ w' v w2=>cT w2 (Nf w' w2) v (((0:Int):Rat))) (fun O w' r=>oE 0 w' (by decide) (by decide)) ?_);rintro O _ _ _ Od r he hw h_ hn;have hd:=hn.dK (S:=FF) r.cI (mN h_);clear r;obtain⟨A0,A1,A2,A3,A4,A5,A6,A7,rfl⟩:=hd.shape;conv=>whnf
  rw[show ((0:Int):Rat)=cX (fun k=>lX k*(cY M 0 k*eJ n fun i j=>cY M (i+1) (skip k j))) 0 by rfl]at hd;have hfk:∀k,k<n+1->rl ((fun k=>lX k*(cY M 0 k*eJ n fun i j=>cY M (i+1) (skip k j))) k)<=h+lf h n:=fun k hk=>by
   have h3:=G3 h2 n (fun i j=>cY M (i+1) (skip k j)) fun i j hi hj=>kU QO h2 _ _;have h4:=kU QO h2 0 k;have h5:=fb (cY M 0 k) (eJ n fun i j=>cY M (i+1) (skip k j));dsimp only
   rw[aA2];omega
  refine⟨Nat×((Bool×Bool)×(Option Addr×Option Addr)×(Nat×Nat×Nat×Nat))×World×Iv,fun z=>⟨[(0,sV am M.length cm),(1,iN (n+1)),(4,pP 0 0),(5,pP 1 0),(6,iN z.1)],[(1,.box T.Rat [.v (.bool z.2.1.1.1),.v (.slice z.2.1.2.1.1 z.2.1.2.2.1 z.2.1.2.2.2.1),.v (.bool z.2.1.1.2),.v (.slice z.2.1.2.1.2 z.2.1.2.2.2.2.1 z.2.1.2.2.2.2.2)]),(0,.box T.Rat [.v (.bool false),.v (.slice none 0 0),.v (.bool false),.v (.slice none 0 0)])],2,z.2.2.2,z.2.2.1⟩,fun z=>n+1-z.1,
   fun z=>z.1<=n+1∧dg w.heap.size w z.2.2.1∧cT z.2.2.1 (Cf w z.2.2.2) (.agg #[.bool z.2.1.1.1,.slice z.2.1.2.1.1 z.2.1.2.2.1 z.2.1.2.2.2.1,.bool z.2.1.1.2,.slice z.2.1.2.1.2 z.2.1.2.2.2.2.1 z.2.1.2.2.2.2.2]) (cX (fun k=>lX k*(cY M 0 k*eJ n fun i j=>cY M (i+1) (skip k j))) z.1),?_,?_⟩
  ·intro O w' r;exact⟨(0,((A0,A4),(A1,A5),(A2,A3,A6,A7)),w',Od),⟨aO _,hw.tr r.cS,hd.rel r (cG w)⟩,Sub.gn [] r⟩
  clear hw hd;rintro⟨k,⟨⟨p0,p4⟩,⟨p1,p5⟩,⟨p2,p3,p6,p7⟩⟩,w1,iv⟩ ⟨hk,hw,hd⟩;dsimp only at hk hw hd ⊢;conv=>whnf
  refine dG.mk ?_ ?_<;>intro OY
  ·have OY:k<n+1:=by have:(k:Int)<((n+1:Nat):Int):=aH OY;omega
   conv=>whnf
   refine⟨Nat×List Value×World×Iv,fun z=>⟨[(0,sV am M.length cm),(1,iN (n+1)),(4,pP 0 0),(5,pP 1 0),(6,iN k),(7,.o (.w 2 z.2.1.length)),(8,iN (z.1+1))],[(2,.vec T.fz 1 z.2.1),(1,.box T.Rat [.v (.bool p0),.v (.slice p1 p2 p3),.v (.bool p4),.v (.slice p5 p6 p7)]),(0,.box T.Rat [.v (.bool false),.v (.slice none 0 0),.v (.bool false),.v (.slice none 0 0)])],3,z.2.2.2,z.2.2.1⟩,fun z=>n-z.1,
    fun z=>z.1<=n∧dg w.heap.size w z.2.2.1∧cT z.2.2.1 (Cf w z.2.2.2) (.agg #[.bool p0,.slice p1 p2 p3,.bool p4,.slice p5 p6 p7]) (cX (fun k=>lX k*(cY M 0 k*eJ n fun i j=>cY M (i+1) (skip k j))) k)∧ir z.2.2.1 (Cv S w.heap.size z.2.2.2) z.2.1 (kD M n k z.1),?_,?_⟩
   ·intro O w' r
    exact⟨(0,[],w',iv),⟨aO _,hw.tr r.cS,hd.rel r (cG w),by simp[ir,kD]⟩,Sub.nil 7 T.fz 1 rfl (by simp[jw,SV.sc,At.sc,fQ]) r fun ρ1 r1=>
     Sub.gn [] r1⟩
   clear hw hd;rintro⟨i,rv,w1,iv⟩ ⟨hi,hw,hd,hR⟩;dsimp only at hi hw hd hR ⊢;have Ot:rv.length=i:=by rw[hR.1,qM]
   conv=>whnf
   refine dG.mk ?_ ?_<;>intro OW
   ·have OW:i<n:=by have:((i+1:Nat):Int)<((n+1:Nat):Int):=aH OW;omega
    conv=>whnf
    refine⟨Nat×Value×World,fun z=>⟨[(0,sV am M.length cm),(1,iN (n+1)),(4,pP 0 0),(5,pP 1 0),(6,iN k),(7,.o (.w 2 rv.length)),(8,iN (i+1)),(9,.o (.v z.2.1)),(10,iN z.1)],[(2,.vec T.fz 1 rv),(1,.box T.Rat [.v (.bool p0),.v (.slice p1 p2 p3),.v (.bool p4),.v (.slice p5 p6 p7)]),(0,.box T.Rat [.v (.bool false),.v (.slice none 0 0),.v (.bool false),.v (.slice none 0 0)])],3,j8 z.2.1++iv,z.2.2⟩,fun z=>n+1-z.1,
     fun z=>z.1<=n+1∧dg w.heap.size w z.2.2∧cT z.2.2 (Cf w iv) (.agg #[.bool p0,.slice p1 p2 p3,.bool p4,.slice p5 p6 p7]) (cX (fun k=>lX k*(cY M 0 k*eJ n fun i j=>cY M (i+1) (skip k j))) k)∧ir z.2.2 (Cv S w.heap.size iv) rv (kD M n k i)∧xY z.2.2 S w.heap.size z.2.1 (kM M (i+1) k z.1)∧∀g,z.2.1.ownBlock=some g->¬Cv S w.heap.size iv g,?_,?_⟩
    ·intro O w' r;exact⟨(0,.slice none 0 0,w'),⟨aO _,hw.tr r.cS,hd.rel r (cG w),hR.rel r hS,xY.nil,fun g hg=>(by cases hg)⟩,Sub.gn [] r⟩
    clear hw hd hR;rintro⟨c,v,w1⟩ ⟨hc,hw,hd,hR,hL,Rp⟩;dsimp only at hc hw hd hR hL Rp ⊢;have Ti:∀p,p∈iv->p∈j8 v++iv:=fun p hp=>List.mem_append_right _ hp;have hlen:=Mi M (i+1) k c;have hll:(kM M (i+1) k c).length<=n+1:=by rw[hlen];split<;>omega
    obtain⟨av,cv,rfl⟩:=hL.shape;conv=>whnf
    refine dG.mk ?_ ?_<;>intro PO
    ·have PO:c<n+1:=by have:(c:Int)<((n+1:Nat):Int):=aH PO;omega
     conv=>whnf
     refine dG.mk ?_ ?_<;>intro TN
     ·have TN:c≠k:=fun e=>by rw[e]at TN;simp at TN
      obtain⟨ra,SM⟩:∃r,M[i+1]? =some r:=⟨_,aB (by omega)⟩
      have UT:=OX ra (aD SM);obtain⟨q,hq⟩:∃q,ra[c]? =some q:=⟨_,aB (by omega)⟩
      have Qg:cY M (i+1) c=q:=by unfold cY;simp[List.getD,SM,hq]
      obtain⟨adm,um,SN,QE,km1,km2⟩:=dA.load TR SM;obtain⟨au,cu,rfl,hcu,-⟩:=dL.shape QE;obtain⟨adq,csq,UY,hF,_,hl⟩:=dL.load QE hq;have hF4:=hF;obtain⟨f0,f1,f2,f3,f4,f5,f6,f7,rfl,-⟩:=hF;conv=>whnf
      refine⟨adm,SN,by omega,?_⟩;conv=>whnf
      refine⟨.slice au ra.length cu,fun O w' r=>?_,?_⟩
      ·rw[show (((i+1:Nat):Int)).toNat=i+1 from rfl,cM (w:=w) (w2:=w') (by rw[dD];exact(hw.tr r.cS).block _ (hS _ km1))];exact km2
      conv=>whnf
      refine⟨adq,UY,by omega,?_⟩;conv=>whnf
      refine⟨[.bool f0,.slice f1 f2 f3,.bool f4,.slice f5 f6 f7],rfl,rdO hl hw hS,?_⟩;conv=>whnf
      obtain⟨css,QV,PU,QL,Us,hl5⟩:=hL;have Ok:=eD PU
      refine .inr (uO hτ (Nat.le_refl _) (xs:=css.flatten) (news:=[.bool f0,.slice f1 f2 f3,.bool f4,.slice f5 f6 f7]) (m:=(kM M (i+1) k c).length) (k:=1) (by rfl) (by rfl) (by decide) (by rfl) (by rfl) (fun O w' r=>⟨jW QL ((G2.row _).mono fun p hp=>List.mem_append_left _ hp) r,fun g hg=>((G2.row _).mono fun p hp=>List.mem_append_left _ hp).not r hg⟩) rfl (by intro u hu;simp at hu;rcases hu with rfl|rfl|rfl|rfl<;>rfl) (by unfold maxLen;omega) (by omega)
       (fun O w' r=>.inr ?_) (fun v' w2=>j8 v'++iv) (fun O w' v' w2 r Oo R1=>Mh r Oo R1) (fun O w' v' w2 r h5 h6 h7=>?_))
      ·have hb:=r.qN (id:=3) (sz:=4) (n:=1) rfl rfl (by decide) (by intro u hu;simp at hu;rcases hu with rfl|rfl|rfl|rfl<;>rfl);obtain⟨_,_,_,a2,c2,e,_,h6⟩:=hb;injection e with e1 e2 e3;subst e1 e3;refine⟨_,_,rfl,fun j u hu=>?_⟩;obtain⟨ad2,k1,_,k3⟩:=h6 j u hu;injection k1 with k1;subst k1;exact k3
      ·have SA:∀g,(Value.slice av (kM M (i+1) k c).length cv).ownBlock=some g->w.heap.size<=g:=fun g hg=>(ownsRow.low QL g hg).1;have Pb:∀g,Cv S w.heap.size iv g->w2.heap[g]? =w1.heap[g]? :=fun g hg=>by
        have SJ:Cv S w.heap.size (j8 (Value.slice av (kM M (i+1) k c).length cv)++iv) g:=hg.mono Ti;rw[h6.block g (Rel.old r hS g SJ) fun e=>Rp g e.symm hg,Rel.same r hS SJ]
       have PI:dg w.heap.size w w2:=(hw.tr r.cS).tr (dg.grown h6 SA r.cI);replace hd:=hd.cJ fun g hg=>Pb g (D3 hg);have QJ:ir w2 (Cv S w.heap.size iv) rv (kD M n k i):=⟨hR.1,hR.2.1,fun j u x k1 k2=>dB.cJ (hR.2.2 j u x k1 k2) Pb⟩
       have hoff2:∀g,v'.ownBlock=some g->¬Cv S w.heap.size iv g:=fun g hg TT=>by
        rcases h7 with h7|h7
        ·exact Rp g (h7▸hg) TT
        ·rw[h7]at hg;injection hg with hg;have:=Rel.old r hS g (TT.mono Ti);omega
       have hL2:xY w2 S w.heap.size v' (kM M (i+1) k (c+1)):=by
        rw[Jr TN,Qg];refine⟨css++[[.bool f0,.slice f1 f2 f3,.bool f4,.slice f5 f6 f7]],by simp[QV],fun cs Ox=>?_,?_,fun u hu=>?_,fun j cs p k1 k2=>?_⟩
        ·rcases List.mem_append.1 Ox with h|h
         ·exact PU cs h
         ·rw[bE.1 h];rfl
        ·rw[List.length_append,List.flatten_append];simpa using h5
        ·rw[List.flatten_append]at hu;rcases List.mem_append.1 hu with h|h
         ·exact Us u h
         ·simp at h;rcases h with rfl|rfl|rfl|rfl<;>rfl
        ·rcases aP j css.length with hj|hj
         ·rw[aJ hj]at k1;rw[aJ (by rw[<-QV];exact hj)]at k2;exact(hl5 j cs p k1 k2).cJ fun g hg=>by rw[PI.block g (hS g hg),hw.block g (hS g hg)]
         ·rw[aM hj]at k1;rw[aM (by rw[<-QV];exact hj),<-QV]at k2;have:j-css.length=0:=by have:=(aE.1 k1).1;simp at this;omega
          rw[this]at k1 k2;injection k1 with k1;injection k2 with k2;subst k1 k2;exact hF4.cJ fun g hg=>PI.block g (hS g hg)
       obtain⟨a3,c3,rfl⟩:=hL2.shape;clear h5 h6 h7 r hR Rp hw SA Pb QV PU QL Us hl5 Ok;conv=>whnf
       refine⟨((c+1:Nat):Int),wo,?_⟩;conv=>whnf
       intro ρ3 w3 r3
       exact⟨(c+1,.slice a3 (kM M (i+1) k (c+1)).length c3,w3),⟨PO,PI.tr r3.cS,hd.cJ fun g hg=>Rel.same r3 (cG w) (hg.mono fun p hp=>List.mem_append_right _ hp),⟨QJ.1,QJ.2.1,fun j u x k1 k2=>dB.cJ (QJ.2.2 j u x k1 k2) fun g hg=>Rel.same r3 hS (hg.mono fun p hp=>List.mem_append_right _ hp)⟩,hL2.rel r3 hS,hoff2⟩,
        Sub.gn [] r3,by dsimp only;omega⟩
     have TN:c=k:=by
      have h4:((c:Int)==(k:Int))=true:=by simpa using TN
      have:=eq_of_beq h4;omega
     conv=>whnf
     refine⟨((c+1:Nat):Int),wo,?_⟩;conv=>whnf
     intro ρ3 w3 r3
     exact⟨(c+1,(Value.slice av (kM M (i+1) k c).length cv),w3),⟨PO,hw.tr r3.cS,hd.cJ fun g hg=>Rel.same r3 (cG w) (hg.mono Ti),⟨hR.1,hR.2.1,fun j u x k1 k2=>dB.cJ (hR.2.2 j u x k1 k2) fun g hg=>Rel.same r3 hS (hg.mono Ti)⟩,by have e:kM M (i+1) k (c+1)=kM M (i+1) k c:=(by rw[TN,Jq]);dsimp only;rw[e];exact hL.rel r3 hS,Rp⟩,
      Sub.gn [] r3,by dsimp only;omega⟩
    have PO:c=n+1:=by have:¬(c:Int)<((n+1:Nat):Int):=aG PO;omega
    rw[PO,Mj OY]at hL Rp Ti hlen hll ⊢;have Pp:dB w1 (Cv S w.heap.size (j8 (.slice av ((List.range n).map fun j=>cY M (i+1) (skip k j)).length cv)++iv)) (.slice av ((List.range n).map fun j=>cY M (i+1) (skip k j)).length cv) ((List.range n).map fun j=>cY M (i+1) (skip k j)):=hL.read;replace hR:ir w1 (Cv S w.heap.size (j8 (.slice av ((List.range n).map fun j=>cY M (i+1) (skip k j)).length cv)++iv)) (rv++[.slice av ((List.range n).map fun j=>cY M (i+1) (skip k j)).length cv]) (kD M n k (i+1)):=by
     rw[IU];exact(hR.cL fun g hg=>hg.mono Ti).push rfl Pp
    replace hd:=hd.cL (S':=Cf w (j8 (.slice av ((List.range n).map fun j=>cY M (i+1) (skip k j)).length cv)++iv)) fun g hg=>hg.mono Ti;clear Pp hL Rp Ti;generalize j8 (.slice av ((List.range n).map fun j=>cY M (i+1) (skip k j)).length cv)++iv=Oa at*
    conv=>whnf
    refine .inl ?_;conv=>whnf
    refine⟨by omega,by omega,by unfold maxLen;omega,?_⟩;conv=>whnf
    refine⟨((i+1+1:Nat):Int),wo,?_⟩;conv=>whnf
    intro ρ3 w3 r3
    exact⟨(i+1,rv++[.slice av ((List.range n).map fun j=>cY M (i+1) (skip k j)).length cv],w3,Oa),⟨OW,hw.tr r3.cS,hd.rel r3 (cG w),hR.rel r3 hS⟩,
     Sub.gn [(2,4)] r3 (hE:=⟨rfl,rfl,rfl,rfl,rfl,by dsimp only;rw[List.length_append,List.length_singleton];rfl,rfl,trivial⟩),by dsimp only;omega⟩
   have OW:i=n:=by have:¬((i+1:Nat):Int)<((n+1:Nat):Int):=aG OW;omega
   rw[OW]at hR Ot;clear hi OW;obtain⟨ra,SM⟩:∃r,M[0]? =some r:=⟨_,aB (by omega)⟩
   have UT:=OX ra (aD SM);obtain⟨q,hq⟩:∃q,ra[k]? =some q:=⟨_,aB (by omega)⟩
   have Qg:cY M 0 k=q:=by unfold cY;simp[List.getD,SM,hq]
   have Sd:=QO.at SM q (aD hq);have SD:=G3 h2 n (fun i j=>cY M (i+1) (skip k j)) fun i j hi hj=>kU QO h2 _ _;have Rh:=fb q (eJ n fun i j=>cY M (i+1) (skip k j));have So:=xZ (b:=h+lf h n) k fun j hj=>hfk j (by omega);have hsl2:=Nat.mul_le_mul_right (h+lf h n+1) (show k<=n by omega);have hsl3:n*(h+lf h n+1)+(h+lf h n+1)<=lf h (n+1):=by
    show _<=(n+1)*(h+lf h n+2)+2;have:=bO n (show h+lf h n+1<=h+lf h n+2 by omega);rw[Nat.add_mul,Nat.one_mul];omega
   obtain⟨adm,um,SN,QE,km1,km2⟩:=dA.load TR SM;obtain⟨au,cu,rfl,hcu,-⟩:=dL.shape QE;obtain⟨adq,csq,UY,hF,_,hl⟩:=dL.load QE hq;obtain⟨f0,f1,f2,f3,f4,f5,f6,f7,rfl,hF⟩:=hF;conv=>whnf
   refine cO hτ dZ [.x 0,.x 1,.x 2,.x 3,.x 4,.x 5,.x 6,.x 7,.x 8,.p 11,.x 9,.x 10,.x 11,.x 12] (by kernel_rfl) (by kernel_rfl) ?_;conv=>whnf
   refine⟨adm,SN,by omega,?_⟩;conv=>whnf
   refine⟨.slice au ra.length cu,fun O w' r=>?_,?_⟩
   ·rw[show ((0:Int)).toNat=0 from rfl,cM (w:=w) (w2:=w') (by rw[dD];exact(hw.tr r.cS).block _ (hS _ km1))];exact km2
   conv=>whnf
   refine⟨adq,UY,by omega,?_⟩;conv=>whnf
   refine⟨[.bool f0,.slice f1 f2 f3,.bool f4,.slice f5 f6 f7],rfl,rdO hl hw hS,?_⟩;conv=>whnf
   refine⟨((n:Nat):Int),wo,?_⟩;conv=>whnf
   refine cE hw (fun _ w' v w2=>cT w2 (Nf w' w2) v (eJ n fun i j=>cY M (i+1) (skip k j))) (fun O w' r=>?_) ?_
   ·have h5:=r.gz (id:=2) (sz:=1) (m:=rv.length) rfl (by simp) (by unfold maxLen;omega) (by decide) hR.2.1;have hRr:=hR.rel r hS;have hK:fN w' (fun g=>g<w'.heap.size) ((At.w 2 rv.length).den O) (kD M n k n):=⟨rv,by rw[qM,<-Ot];exact h5.cL fun g hg=>hg.2,by rw[qM];exact Ot,fun i u x k1 k2=>dB.cL (hRr.2.2 i u x k1 k2) fun g hg=>Rel.old r hS g hg⟩
    have:=aA3 h2 n (fun g hg=>hg) hK (by rw[qM];exact Nat.le_refl _) (fun r hr=>by rw[Js r hr];exact Nat.le_refl _) (Ml QO h2) (by omega) (by omega);rw[fG (fun i j hi hj=>Mk hi hj)]at this;exact this
   rintro O _ _ _ Pw r he hw h_ hn;replace hd:=hd.cK r (cG w) he (mC h_);have hx:=hn.dK (S:=FF) r.cI (mN h_);clear r;obtain⟨C0,C1,C2,C3,C4,C5,C6,C7,rfl⟩:=hx.shape;clear hR Ot;conv=>whnf
   refine cE hw (fun _ w' v w2=>cT w2 (Nf w' w2) v (q*eJ n fun i j=>cY M (i+1) (skip k j))) (fun O w' r=>vC (Rel.old r hS) (eS.cL (eS.cJ hF ((kS hw r hS))) fun _ hg=>(.inl hg:Cv S w.heap.size _ _)) (cT.l (cT.cL (cT.rel hx r (cG w)) fun _ hg=>(D3 hg:Cv S w.heap.size _ _)) (by omega))) ?_;rintro O _ _ _ WB r he hw h_ hn;replace hd:=hd.cK r (cG w) he (mC h_);clear hx;have hp:=hn.dK (S:=FF) r.cI (mN h_);clear r;obtain⟨F0,F1,F2,F3,F4,F5,F6,F7,rfl⟩:=hp.shape;conv=>whnf
   refine⟨by decide,((k % 2:Nat):Int),rfl,?_⟩;conv=>whnf
   refine dG.mk ?_ ?_<;>intro QQ
   ·have QQ:k % 2=1:=by
     have:=eq_of_beq QQ;omega
    conv=>whnf
    refine cH (cE hw (fun _ w' v w2=>cT w2 (Nf w' w2) v (-(q*eJ n fun i j=>cY M (i+1) (skip k j)))) (fun O w' r=>Jt (Rel.old r (cG w)) (cT.l (hp.rel r (cG w)) (by omega))) ?_);rintro O WC v13 XI UX r he hw h_ hn;replace hd:=hd.cK r (cG w) he (mC h_);clear hp;have hp9:=hn.dK (S:=FF) r.cI (mN h_);clear r;obtain⟨J0,J1,J2,J3,J4,J5,J6,J7,rfl⟩:=hp9.shape;conv=>whnf
    refine cH (cE hw (fun _ w' v w2=>cT w2 (Nf w' w2) v (cX (fun k=>lX k*(cY M 0 k*eJ n fun i j=>cY M (i+1) (skip k j))) k+ -(q*eJ n fun i j=>cY M (i+1) (skip k j)))) (fun O w' r=>vD (Rel.old r (cG w)) (cT.l (hd.rel r (cG w)) (by omega)) (cT.l (hp9.rel r (cG w)) (by first|omega|(rw [jB];omega)))) ?_);rintro O _ _ _ VL r he hw h_ hn;clear hd;clear hp9;have PF:=hn.dK (S:=FF) r.cI (mN h_);clear r;obtain⟨K0,K1,K2,K3,K4,K5,K6,K7,rfl⟩:=PF.shape;conv=>whnf
    rw[show cX (fun k=>lX k*(cY M 0 k*eJ n fun i j=>cY M (i+1) (skip k j))) k+ -(q*eJ n fun i j=>cY M (i+1) (skip k j))=cX (fun k=>lX k*(cY M 0 k*eJ n fun i j=>cY M (i+1) (skip k j))) (k+1) by
     show _=cX (fun k=>lX k*(cY M 0 k*eJ n fun i j=>cY M (i+1) (skip k j))) k+lX k*(cY M 0 k*eJ n fun i j=>cY M (i+1) (skip k j))
     rw[Qg];unfold lX;rw[if_pos QQ];first|rw[bf]|rw[Rat.neg_mul,bf]]at PF
    refine⟨((k+1:Nat):Int),wo,?_⟩;conv=>whnf
    intro ρ3 w3 r3;exact⟨(k+1,((K0,K4),(K1,K5),(K2,K3,K6,K7)),w3,_),⟨OY,hw.tr r3.cS,PF.rel r3 (cG w)⟩,Sub.gn [] r3,by dsimp only;omega⟩
   have QQ:¬k % 2=1:=fun e=>by rw[e]at QQ;simp at QQ
   conv=>whnf
   refine cH (cE hw (fun _ w' v w2=>cT w2 (Nf w' w2) v (cX (fun k=>lX k*(cY M 0 k*eJ n fun i j=>cY M (i+1) (skip k j))) k+(q*eJ n fun i j=>cY M (i+1) (skip k j)))) (fun O w' r=>vD (Rel.old r (cG w)) (cT.l (hd.rel r (cG w)) (by omega)) (cT.l (hp.rel r (cG w)) (by first|omega|(rw [jB];omega)))) ?_);rintro O _ _ _ UX r he hw h_ hn;clear hd;clear hp;have PF:=hn.dK (S:=FF) r.cI (mN h_);clear r;obtain⟨J0,J1,J2,J3,J4,J5,J6,J7,rfl⟩:=PF.shape;conv=>whnf
   rw[show cX (fun k=>lX k*(cY M 0 k*eJ n fun i j=>cY M (i+1) (skip k j))) k+(q*eJ n fun i j=>cY M (i+1) (skip k j))=cX (fun k=>lX k*(cY M 0 k*eJ n fun i j=>cY M (i+1) (skip k j))) (k+1) by
    show _=cX (fun k=>lX k*(cY M 0 k*eJ n fun i j=>cY M (i+1) (skip k j))) k+lX k*(cY M 0 k*eJ n fun i j=>cY M (i+1) (skip k j))
    rw[Qg];unfold lX;rw[aK QQ];first|rw[bf]|rw[Rat.neg_mul,bf]]at PF
   refine⟨((k+1:Nat):Int),wo,?_⟩;conv=>whnf
   intro ρ3 w3 r3;exact⟨(k+1,((J0,J4),(J1,J5),(J2,J3,J6,J7)),w3,_),⟨OY,hw.tr r3.cS,PF.rel r3 (cG w)⟩,Sub.gn [] r3,by dsimp only;omega⟩
  have OY:k=n+1:=by have:¬(k:Int)<((n+1:Nat):Int):=aG OY;omega
  rw[OY]at hd;conv=>whnf
  exact rtn hw fun ρe we re=>hd.out re (cG w)
theorem nG:rs q<0↔q<0:=by rw[rs,Int.sign_neg_iff,<-Int.not_le,Rat.num_nonneg,Rat.not_le]
theorem j9:0<rs q↔0<q:=by
 have h:=nG (q:= -q);rw[aCm]at h;constructor
 ·intro k;have:=h.1 (by omega);grind
 ·intro k;have:=h.2 (by grind);omega
theorem KL{p:Rat}:0<rs (p-q)↔q<p:=by rw[j9,<-Rat.lt_iff_sub_pos]
theorem Bj(M:List (List Rat))(n:Nat):kx M 0 n=eJ n (cY M):=by
 unfold kx;rw[Nat.sub_zero];exact fG fun i j _ _=>by rw[aW,aW]
def sW{α:Type}(M:List (List α)):Nat:=if vE M≠0 then vE M else if fg M≠M.length then 11 else 0
theorem Mn{α:Type}{M:List (List α)}(h:sW M=0):vE M=0∧fg M=M.length:=by
 unfold sW at h;split at h
 ·rename_i h3;exact absurd h h3
 ·split at h
  ·cases h
  ·rename_i h3 h4;exact⟨by omega,by omega⟩
def D8(M:List (List Rat)):Prop:=(∀i k,i<M.length->k<i->cY M i k=cY M k i)∧∀q∈fc M,0<q
theorem DB{M:List (List (Int×Int))}(hS:Old S w)(h:fC w S v M):eA PG N.nk #[v] w (eL w fun v' _=>v'= .int .i64 (sW M)):=by
 have hw:=bR w;obtain⟨am,cm,rfl,Ri,Q9⟩:=dA.shape h;unfold maxLen at Q9;refine sK (by simp) ?_;conv=>whnf
 refine cH (cE hw (fun _ w' v w2=>v= .int .i64 (vE M)) (fun O w' r=>Dr (oS hS r) (fC.cJ h ((kS hw r hS)))) ?_);rintro O _ _ _ Od r he hw h_ rfl;clear r;conv=>whnf
 refine dG.mk ?_ ?_<;>intro he
 ·have he:vE M≠0:=fun e=>by rw[e]at he;simp at he
  conv=>whnf
  exact rtn hw fun ρe we re=>by unfold sW;rw[if_pos he];rfl
 have he:(vE M:Nat)=0:=by
  have h4:(((vE M:Nat):Int)==(0:Int))=true:=by simpa using he
  have:=eq_of_beq h4;omega
 conv=>whnf
 refine cH (cE hw (fun _ w' v w2=>v= .int .i64 (fg M)) (fun O w' r=>yo (oS hS r) (fC.cJ h ((kS hw r hS)))) ?_);rintro O _ _ _ Oa r he hw h_ rfl;clear r he;conv=>whnf
 refine dG.mk ?_ ?_<;>intro hl
 ·have hl:fg M≠M.length:=fun e=>by rw[e]at hl;simp at hl
  conv=>whnf
  exact rtn hw fun ρe we re=>by unfold sW;rw[aK (by omega),if_pos hl];rfl
 have hl:(fg M:Nat)=(M.length:Nat):=by
  have h4:(((fg M:Nat):Int)==((M.length:Nat):Int))=true:=by simpa using hl
  have:=eq_of_beq h4;omega
 conv=>whnf
 exact rtn hw fun ρe we re=>by unfold sW;rw[aK (by omega),aK (by omega)];rfl
theorem aDB{f:Rat}(hS:Old S w)(hf:c9 w S v f):
  eA PG N.iW #[v] w (eL w fun v' _=>v'= .bool (decide (f<=0))):=by
 have hw:=bR w;obtain⟨b1,a1,n1,c1,b2,a2,n2,c2,rfl⟩:=hf.shape;refine tY (by simp) ?_;conv=>whnf
 refine cH (cE hw (fun _ w' v w2=>v= .int .i64 (rs f)) (fun O w' r=>tN (oS hS r) (hf.cJ (kS hw r hS))) ?_);rintro O _ _ _ Od r he hw h_ rfl;clear r;conv=>whnf
 exact rtn hw fun ρe we re=>by rw[show decide (f<=0)=decide (rs f<=0)from Bool.eq_iff_iff.2 (by rw[decide_eq_true_eq,decide_eq_true_eq,<-Rat.not_lt,<-Int.not_lt,j9])];rfl
theorem Ju(hS:Old S w)(hx:ie w S S v xs):
  eA PG N.fJ #[v,fnV N.iW] w (eL w fun v' _=>∃z:Int,v'= .int .i64 z∧ -1<=z∧z<=9223372036854775807∧(0<=z↔∃x∈xs,x<=0)):=by
 have hw:=bR w;obtain⟨ax,cx,rfl,TU,Tj⟩:=hx.shape;unfold maxLen at Tj;refine gg (by simp) ?_;conv=>whnf
 refine⟨Nat×World×Iv,fun z=>⟨[(0,sV ax xs.length cx),(1,.o (.v (fnV N.iW))),(7,iZ xs.length),(8,iN z.1)],[],0,z.2.2,z.2.1⟩,fun z=>xs.length-z.1,
  fun z=>z.1<=xs.length∧dg w.heap.size w z.2.1∧∀j x,j<z.1->xs[j]? =some x->¬x<=0,?_,?_⟩
 ·intro O w' r;exact⟨(0,w',[]),⟨by simp,r.cS,by simp⟩,Sub.gn [] r⟩
 clear hw;rintro⟨i,w1,iv⟩ ⟨hi,hw,ht⟩;dsimp only at hi hw ht ⊢;conv=>whnf
 refine dG.mk ?_ ?_<;>intro OW
 ·have OW:i<xs.length:=by simpa using OW
  obtain⟨x,Pf⟩:∃x,xs[i]? =some x:=⟨_,aB OW⟩
  obtain⟨adx,csx,Pz,Qc,PS⟩:=hx.load Pf;obtain⟨p0,p1,p2,p3,p4,p5,p6,p7,rfl,Qc⟩:=Qc;conv=>whnf
  refine⟨adx,Pz,by omega,?_⟩;conv=>whnf
  refine⟨[.bool p0,.slice p1 p2 p3,.bool p4,.slice p5 p6 p7],rfl,rdO PS hw hS,?_⟩;conv=>whnf
  refine cH (cE hw (fun _ w' v w2=>v= .bool (decide (x<=0))) (fun O w' r=>aDB (oS hS r) (Qc.cJ (kS hw r hS))) ?_);rintro O _ _ _ Od r he hw h_ rfl;clear r;conv=>whnf
  refine dG.mk ?_ ?_<;>intro he
  ·have Vp:x<=0:=aH he;conv=>whnf
   exact rtn hw fun ρe we re=>⟨_,rfl,by omega,by omega,iff_of_true (by omega) ⟨x,aD Pf,Vp⟩⟩
  have Vp:¬x<=0:=aG he;conv=>whnf
  refine⟨((i+1:Nat):Int),wo,?_⟩;conv=>whnf
  intro ρ3 w3 r3;refine⟨(i+1,w3,_),⟨OW,hw.tr r3.cS,fun j y hj hy=>?_⟩,Sub.gn [] r3,by dsimp only;omega⟩;rcases aP j i with h|h
  ·exact ht j y h hy
  obtain rfl:j=i:=by dsimp only at hj;omega
  rw[Pf]at hy;injection hy with hy;rw[<-hy];exact Vp
 have OW:i=xs.length:=aQ hi (by simpa using OW);conv=>whnf
 intro ρe we re
 exact⟨_,rfl,hw.tr re.cS,⟨_,rfl,by omega,by omega,iff_of_false (by omega) fun⟨x,hm,h0⟩=>by
   obtain⟨j,hj⟩:=aS hm;have TX:j<xs.length:=(aE.1 hj).1
   exact ht j x (by omega) hj h0⟩⟩
theorem Ds(hS:Old S w)(hx:ie w S S v xs):
  eA PG N.ew #[v,fnV N.iW] w (eL w fun v' _=>v'= .bool (decide (∃x∈xs,x<=0))):=by
 have hw:=bR w;have SC:=hx;obtain⟨ax,cx,rfl,TU,-⟩:=SC.shape;refine gN (by simp) ?_;conv=>whnf
 refine cH (cE hw (fun _ w' v w2=>∃z:Int,v= .int .i64 z∧ -1<=z∧z<=9223372036854775807∧(0<=z↔∃x∈xs,x<=0)) (fun O w' r=>Ju (oS hS r) (hx.cJ fun g hg=>(hw.tr r.cS).block g (hS g (hg.elim id id)))) ?_);rintro O _ _ _ Od r he hw h_ ⟨z,rfl,PM,QD,hz⟩;clear r;conv=>whnf
 exact rtn hw fun ρe we re=>by rw[show decide (∃x∈xs,x<=0)=decide (z≥0)from Bool.eq_iff_iff.2 (by rw[decide_eq_true_eq,decide_eq_true_eq];exact hz.symm)];rfl
theorem Dt{M:List (List (Int×Int))}{h0:Nat}(hS:Old S w)(h:fC w S v M)(hf:sW M=0->(∀r∈M,Few r)∧Ht (iu M) h0∧2<=h0∧4^M.length*h0<=800000000)(h0b:h0<=1000000000):
  eA PG N.rk #[v] w (eL w fun v' _=>(sW M≠0∧v'= .tuple #[.bool false,.int .i64 (sW M)])∨(sW M=0∧∃d,v'= .tuple #[.bool d,.int .i64 0]∧(d=true->D8 (iu M))∧(D8 (iu M)->d=true))):=by
 have hw:=bR w;obtain⟨am,cm,rfl,Ri,Q9⟩:=dA.shape h;refine xJ (by simp) ?_;conv=>whnf
 refine cH (cE hw (fun _ w' v w2=>v= .int .i64 ((sW M:Nat):Int)) (fun O w' r=>DB (oS hS r) (fC.cJ h ((kS hw r hS)))) ?_);rintro O _ _ _ Od r he hw h_ rfl;clear r;conv=>whnf
 refine dG.mk ?_ ?_<;>intro he
 ·have he:sW M≠0:=fun e=>by rw[e]at he;simp at he
  conv=>whnf
  exact rtn hw fun ρe we re=>.inl ⟨he,rfl⟩
 have he:(sW M:Nat)=0:=by
  have h4:(((sW M:Nat):Int)==(0:Int))=true:=by simpa using he
  have:=eq_of_beq h4;omega
 obtain⟨hfM,QO,h2,PN⟩:=hf he;obtain⟨hE,hsq⟩:=Mn he;obtain⟨OX,hRl,QB⟩:=Mo hE;have hAl:(iu M).length=M.length:=by simp[iu]
 have Uv:∀r∈iu M,r.length=(iu M).length:=fun r hr=>by
  obtain⟨x,hx,rfl⟩:=aT.1 hr;rw[aL,hAl,OX x hx,hsq]
 conv=>whnf
 refine cH (cE hw (fun _ w' v w2=>nU w2 (Nf w' w2) v (iu M)) (fun O w' r=>Mp (oS hS r) (fC.cJ h ((kS hw r hS))) hfM (fun r hr=>by rw[OX r hr];omega) (by omega)) ?_);rintro O _ _ _ Oa r he hw h_ hn;have gA:=hn.dK (S:=FF) r.cI (mN h_);clear r he;obtain⟨aA,cA,rfl⟩:=gA.shape;rw[hAl]at gA Uv ⊢;clear hf h hfM;generalize iu M=A at*
 generalize M.length=R at*
 conv=>whnf
 refine⟨Nat×World×Iv,fun z=>⟨[(5,sV aA R cA),(16,iZ R),(17,iN z.1)],[],0,z.2.2,z.2.1⟩,fun z=>R-z.1,
  fun z=>z.1<=R∧dg w.heap.size w z.2.1∧nU z.2.1 (Cf w z.2.2) (.slice aA R cA) A∧∀i k,i<z.1->k<i->cY A i k=cY A k i,?_,?_⟩
 ·intro O w' r;exact⟨(0,w',_),⟨aO _,hw.tr r.cS,gA.rel r (cG w),fun i k hi=>by dsimp only at hi;omega⟩,Sub.gn [] r⟩
 clear hw gA;rintro⟨i,w1,iv⟩ ⟨hi,hw,gA,hs⟩;dsimp only at hi hw gA hs ⊢;conv=>whnf
 refine dG.mk ?_ ?_<;>intro OW
 ·have OW:i<R:=by simpa using OW
  conv=>whnf
  refine⟨Nat×World×Iv,fun z=>⟨[(5,sV aA R cA),(16,iZ R),(17,iN i),(6,iN i),(20,iN i),(21,iN z.1)],[],0,z.2.2,z.2.1⟩,fun z=>i-z.1,
   fun z=>z.1<=i∧dg w.heap.size w z.2.1∧nU z.2.1 (Cf w z.2.2) (.slice aA R cA) A∧∀k,k<z.1->cY A i k=cY A k i,?_,?_⟩
  ·intro O w' r;exact⟨(0,w',_),⟨aO _,hw.tr r.cS,gA.rel r (cG w),fun k hk=>by dsimp only at hk;omega⟩,Sub.gn [] r⟩
  clear hw gA;rintro⟨k,w1,iv⟩ ⟨hk,hw,gA,ht⟩;dsimp only at hk hw gA ht ⊢;conv=>whnf
  refine dG.mk ?_ ?_<;>intro OY
  ·have OY:k<i:=by simpa using OY
   obtain⟨rd,Wj⟩:∃r,A[i]? =some r:=⟨_,aB (by omega)⟩
   have SO:=Uv rd (aD Wj);obtain⟨qd,RC⟩:∃q,rd[k]? =some q:=⟨_,aB (by omega)⟩
   have hed:cY A i k=qd:=by unfold cY;simp[List.getD,Wj,RC]
   obtain⟨add,ud,Oy,hRd,k1d,k2d⟩:=dA.load (show xX _ _ _ _ from gA) Wj;obtain⟨aud,cud,rfl⟩:=dA.rowOf hRd;obtain⟨aed,csd,haed,XJ,WD⟩:=hRd.load RC;obtain⟨d0,d1,d2,d3,d4,d5,d6,d7,rfl,XJ⟩:=XJ;obtain⟨re,Xy⟩:∃r,A[k]? =some r:=⟨_,aB (by omega)⟩
   have hle:=Uv re (aD Xy);obtain⟨qe,TS⟩:∃q,re[i]? =some q:=⟨_,aB (by omega)⟩
   have hee:cY A k i=qe:=by unfold cY;simp[List.getD,Xy,TS]
   obtain⟨ade,ue,hae,VJ,k1e,k2e⟩:=dA.load (show xX _ _ _ _ from gA) Xy;obtain⟨aue,cue,rfl⟩:=dA.rowOf VJ;obtain⟨aee,cse,haee,XK,WE⟩:=VJ.load TS;obtain⟨e0,e1,e2,e3,e4,e5,e6,e7,rfl,XK⟩:=XK;have hqd2:=QO.at Wj qd (aD RC);have hqe2:=QO.at Xy qe (aD TS);conv=>whnf
   refine cO hτ dZ [.x 0,.x 1,.x 2,.x 3,.x 4,.x 5,.x 6,.x 7,.x 8,.x 9,.x 10,.x 11,.x 12,.x 13,.x 14,.x 15] (by kernel_rfl) (by kernel_rfl) ?_;conv=>whnf
   refine⟨add,Oy,by omega,?_⟩;conv=>whnf
   refine⟨.slice aud rd.length cud,fun O w' r=>?_,?_⟩
   ·rw[aF,cM (w:=w1) (w2:=w') (by rw[dD];exact Rel.same r (cG w) k1d)];exact k2d
   conv=>whnf
   refine⟨aed,haed,by omega,?_⟩;conv=>whnf
   refine⟨[.bool d0,.slice d1 d2 d3,.bool d4,.slice d5 d6 d7],rfl,fun O w' r j u hu=>?_,?_⟩
   ·obtain⟨z1,z2⟩:=WD j u hu;rw[aF,cM (w:=w1) (w2:=w') (by rw[dD,dD];exact Rel.same r (cG w) z1)];exact z2
   conv=>whnf
   refine⟨ade,hae,by omega,?_⟩;conv=>whnf
   refine⟨.slice aue re.length cue,fun O w' r=>?_,?_⟩
   ·rw[aF,cM (w:=w1) (w2:=w') (by rw[dD];exact Rel.same r (cG w) k1e)];exact k2e
   conv=>whnf
   refine⟨aee,haee,by omega,?_⟩;conv=>whnf
   refine⟨[.bool e0,.slice e1 e2 e3,.bool e4,.slice e5 e6 e7],rfl,fun O w' r j u hu=>?_,?_⟩
   ·obtain⟨z1,z2⟩:=WE j u hu;rw[aF,cM (w:=w1) (w2:=w') (by rw[dD,dD];exact Rel.same r (cG w) z1)];exact z2
   conv=>whnf
   refine cE hw (fun _ w' v w2=>v= .int .i64 (rs (qd-qe))) (fun O w' r=>aA4 (Rel.old r (cG w)) (XJ.rel r (cG w)) (XK.rel r (cG w)) (by have:=h0b;omega) (by have:=h0b;omega)) ?_;rintro O _ _ _ Pw r he hw h_ rfl;replace gA:=gA.cK r (cG w) he (mC h_);clear r he;conv=>whnf
   clear hRd VJ XJ XK WD WE k1d k1e k2d k2e;refine dG.mk ?_ ?_<;>intro hc
   ·have hc:qd≠qe:=fun e=>by rw[L0.2 e]at hc;simp at hc
    conv=>whnf
    exact rtn hw fun ρe we re=>.inr ⟨he,false,rfl,fun h=>(by cases h),fun h=>absurd (by rw[<-hed,<-hee];exact h.1 i k (by omega) OY) hc⟩
   have hc:qd=qe:=L0.1 (by simpa using hc);conv=>whnf
   refine⟨((k+1:Nat):Int),wo,?_⟩;conv=>whnf
   intro ρ3 w3 r3;refine⟨(k+1,w3,_),⟨OY,hw.tr r3.cS,gA.rel r3 (cG w),fun j hj=>?_⟩,Sub.gn [] r3,by dsimp only;omega⟩;rcases aP j k with h1|h1
   ·exact ht j h1
   ·rw[show j=k by dsimp only at hj;omega,hed,hee,hc]
  have OY:k=i:=aQ hk (by simpa using OY);conv=>whnf
  refine⟨((i+1:Nat):Int),wo,?_⟩;conv=>whnf
  intro ρ3 w3 r3;refine⟨(i+1,w3,_),⟨OW,hw.tr r3.cS,gA.rel r3 (cG w),fun i2 k2 h1 h2=>?_⟩,Sub.gn [] r3,by dsimp only;omega⟩;rcases aP i2 i with h3|h3
  ·exact hs i2 k2 h3 h2
  ·obtain rfl:i2=i:=by dsimp only at h1;omega
   exact ht k2 (by omega)
 have OW:i=R:=aQ hi (by simpa using OW);subst OW;conv=>whnf
 refine cH (cE hw (fun _ w' v w2=>qL w2 (Nf w' w2) v (fc A)) (fun O w' r=>aA1 (h:=h0) (Rel.old r (cG w)) (gA.rel r (cG w)) (fun r hr=>(Uv r hr).trans hAl.symm) (by omega) QO h2 (by rw[hAl];exact PN)) ?_);rintro O _ _ _ Q1 r he hw h_ hn;clear gA;have gm:=hn.dK (S:=FF) r.cI (mN h_);clear r he;obtain⟨ag,cg,rfl⟩:=gm.shape;conv=>whnf
 refine cH (cE hw (fun _ w' v w2=>v= .bool (decide (∃x∈fc A,x<=0))) (fun O w' r=>Ds (Rel.old r (cG w)) (gm.rel r (cG w))) ?_);rintro O _ _ _ RS r he hw h_ rfl;clear gm;clear r he;conv=>whnf
 exact rtn hw fun ρe we re=>.inr ⟨he,_,rfl,fun h=>⟨fun i k hi hk=>hs i k (by omega) hk,fun q hq=>Rat.not_le.1 fun h0=>by rw[bS (⟨q,hq,h0⟩:∃x∈fc A,x<=0)]at h;cases h⟩,fun h=>by rw[bJ (fun ⟨q,hq,h0⟩=>absurd (h.2 q hq) (Rat.not_lt.2 h0):¬ ∃x∈fc A,x<=0)];rfl⟩
end Go.Ex
namespace Go.Ex
variable{E M:List (List Rat)}{pv:List Nat}{l r:List Rat}{m:Mx}{B C a j:Nat}{u v x:Nat->Rat}{d p q:Rat}
def ku:List Nat->(Nat->Rat)->Rat
 |[],_=>0
 |t::l,g=>g t+ku l g
theorem Ba{g h:Nat->Rat}:∀{l:List Nat},(∀t∈l,g t=h t)->ku l g=ku l h
 |[],_=>rfl
 |t::l,e=>by show g t+_=h t+_;rw[e t aI,Ba fun s hs=>e s (aC _ hs)]
theorem EX{g:Nat->Rat}:∀{l:List Nat},(∀t∈l,g t=0)->ku l g=0
 |[],_=>rfl
 |t::l,e=>by show g t+_=0;rw[e t aI,EX fun s hs=>e s (aC _ hs),bN]
theorem zK(g:Nat->Rat):∀l k:List Nat,ku (l++k) g=ku l g+ku k g
 |[],k=>(Rat.zero_add _).symm
 |t::l,k=>by show g t+ku (l++k) g=g t+ku l g+ku k g;rw[zK g l k,Rat.add_assoc]
theorem H5(g:Nat->Rat):∀l:List Nat,ku l (fun t=> -g t)= -ku l g
 |[]=>rfl
 |t::l=>by show -g t+ku l _= -(g t+ku l g);rw[H5 g l,Rat.neg_add]
theorem zL(p:Nat->Bool)(g:Nat->Rat):∀l:List Nat,ku l g=ku (l.filter p) g+ku (l.filter fun t=> !p t) g
 |[]=>(bN 0).symm
 |t::l=>by
  show g t+ku l g=_;rw[zL p g l,List.filter_cons,List.filter_cons]
  cases p t with
  |true=>show _=g t+_+_;rw[Rat.add_assoc];rfl
  |false=>
   show _=ku (l.filter p) g+(g t+_)
   rw[<-Rat.add_assoc,Rat.add_comm (g t),Rat.add_assoc]
theorem Bb{g:Nat->Rat}{s:Nat}:∀{l:List Nat},l.Nodup->s∈l->(∀t∈l,t≠s->g t=0)->ku l g=g s
 |[],_,hm,_=>by cases hm
 |t::l,hn,hm,h=>by
  show g t+ku l g=g s;have RR:=List.nodup_cons.1 hn;rcases List.mem_cons.1 hm with rfl|hm
  ·rw[EX fun u hu=>h u (aC _ hu) fun e=>RR.1 (e▸hu),bN]
  ·rw[h t aI (fun e=>RR.1 (e▸hm)),Rat.zero_add,Bb RR.2 hm fun u hu=>h u (aC _ hu)]
theorem Bd{i t:Nat}{v:Rat}:(l.set i v).getD t 0=if i=t∧i<l.length then v else l.getD t 0:=by
 simp only[List.getD,List.getElem?_set]
 by_cases h:i=t
 ·subst h;by_cases hl:i<l.length
  ·simp[hl]
  ·simp[hl]
 ·simp[h]
theorem Be{F:Nat->List Rat}{pv:List Nat}{f:Nat->Rat}(hF:∀i,F (i+1)=(F i).set (pv.getD i 0) (f i)){t:Nat}(ht:t∉pv):∀i,i<=pv.length->(F i).getD t 0=(F 0).getD t 0
 |0,_=>rfl
 |i+1,h=>by
  rw[hF,Bd,aK fun e=>ht (by rw[<-e.1,List.getD,aB (by omega)];exact a9 _)];exact Be hF ht i (by omega)
theorem Nx(hp:pv.Pairwise (· < ·)){i:Nat}(PZ:j<i)(hi:i<pv.length):pv.getD j 0<pv.getD i 0:=by
 rw[List.getD,List.getD,aB hi,aB (by omega)];exact List.pairwise_iff_getElem.1 hp j i _ _ PZ
theorem pY{F:Nat->List Rat}{pv:List Nat}{f:Nat->Rat}{n:Nat}(hF:∀i,F (i+1)=(F i).set (pv.getD i 0) (f i))(hl:∀i,(F i).length=n)(hp:pv.Pairwise (· < ·))(hn:∀p∈pv,p<n){j:Nat}:∀i,i<=pv.length->j<i->(F i).getD (pv.getD j 0) 0=f j
 |0,_,h=>by omega
 |i+1,h,hj=>by
  rw[hF,Bd];rcases aP j i with h1|h1
  ·have:=Nx hp h1 (by omega);rw[aK (by omega)];exact pY hF hl hp hn i (by omega) h1
  ·have e:j=i:=by omega
   subst e;have hm:pv.getD j 0<(F j).length:=by rw[hl];exact hn _ (by rw[List.getD,aB (by omega)];exact a9 _)
   rw[if_pos ⟨rfl,hm⟩]
def kv(M:List (List Rat))(x:List Rat):List Rat:=M.map fun r=>eh r x r.length
abbrev jm(pv:List Nat)(n:Nat):List Nat:=(List.range n).filter fun c=>decide (c∉pv)
section
variable{M:List (List Rat)}{x:List Rat}{n:Nat}
end
structure Diff(A:List (List Rat))(pv:List Nat)(n:Nat)(x:List Rat):Prop where
 up:pv.Pairwise (· < ·)
 lt:∀p∈pv,p<n
 le:pv.length<=A.length
 unit:∀i j,i<pv.length->j<A.length->cY A j (pv.getD i 0)=if j=i then 1 else 0
 sum:∀j,j<A.length->ku (List.range n) (fun t=>cY A j t*x.getD t 0)=cY A j n
section
variable{A:List (List Rat)}{pv:List Nat}{n:Nat}{x:List Rat}
theorem uY{t:Nat}(h:t∈pv):∃j,j<pv.length∧pv.getD j 0=t:=by
 obtain⟨j,hj,rfl⟩:=List.mem_iff_getElem.1 h;exact⟨j,hj,by rw[List.getD,aB hj];rfl⟩
theorem rO{c t:Nat}(ht:t∉pv)(hc:c<n):(gZ A pv n c pv.length).getD t 0=if t=c then 1 else 0:=by
 rw[Be (F:=gZ A pv n c) (fun i=>ij A pv n c i) ht _ (Nat.le_refl _)];show((List.replicate n (0:Rat)).set c 1).getD t 0=_;rw[Bd,aU];by_cases h:c=t
 ·rw[if_pos ⟨h,hc⟩,if_pos h.symm]
 ·rw[aK (fun e=>h e.1),aK (fun e=>h e.symm)];simp only[List.getD,List.getElem?_replicate]
  split<;>rfl
theorem Diff.kin(h:Diff A pv n x){c:Nat}(hj:j<pv.length):(gZ A pv n c pv.length).getD (pv.getD j 0) 0= -(cY A j c):=
 pY (F:=gZ A pv n c) (f:=fun i=> -(cY A i c)) (fun i=>ij A pv n c i) (lI A pv n c) h.up h.lt _ (Nat.le_refl _) hj
theorem wD{t:Nat}(ht:t∉pv):(iR A pv n pv.length).getD t 0=0:=by
 rw[Be (F:=iR A pv n) (fun i=>il A pv n i) ht _ (Nat.le_refl _)];show(List.replicate n (0:Rat)).getD t 0=0;simp only[List.getD,List.getElem?_replicate]
 split<;>rfl
theorem Diff.xin(h:Diff A pv n x)(hj:j<pv.length):(iR A pv n pv.length).getD (pv.getD j 0) 0=cY A j n:=
 pY (F:=iR A pv n) (f:=fun i=>cY A i n) (fun i=>il A pv n i) (lJ A pv n) h.up h.lt _ (Nat.le_refl _) hj
theorem uZ:(jm pv n).Nodup:=List.Pairwise.filter _ List.nodup_range
theorem mj{c:Nat}:c∈jm pv n↔c<n∧c∉pv:=by
 unfold jm;rw[List.mem_filter,List.mem_range,decide_eq_true_eq]
theorem Diff.rest(h:Diff A pv n x){t:Nat}(ht:t<n):x.getD t 0+(iR A pv n pv.length).getD t 0* -1=ku (jm pv n) fun c=>x.getD c 0*(gZ A pv n c pv.length).getD t 0:=by
 by_cases hp:t∈pv
 ·obtain⟨j,hj,rfl⟩:=uY hp;have hs:=h.sum j (Nat.lt_of_lt_of_le hj h.le);rw[zL (fun c=>decide (c∉pv)),Bb (s:=pv.getD j 0) (l:=(List.range n).filter fun t=> !decide (t∉pv)) (List.Pairwise.filter _ List.nodup_range) (List.mem_filter.2 ⟨List.mem_range.2 ht,by rw[bJ fun e=>e hp];rfl⟩) (fun s hs OZ=>?_),h.unit j j hj (Nat.lt_of_lt_of_le hj h.le),if_pos rfl,bf]at hs
  ·rw[h.xin hj,Ba (h:=fun c=> -(cY A j c*x.getD c 0)) fun c hc=>by rw[h.kin hj,Rat.mul_neg,bl],H5,<-hs];generalize x.getD (pv.getD j 0) 0=q;generalize ku _ _=s;rw[Rat.mul_neg,Rat.mul_one,Rat.neg_add,<-Rat.add_assoc,Rat.add_comm q,Rat.add_assoc,Rat.add_neg_cancel,bN]
  ·have Qf:s∈pv:=by simpa using(List.mem_filter.1 hs).2
   obtain⟨i,hi,rfl⟩:=uY Qf;rw[h.unit i j hi (Nat.lt_of_lt_of_le hj h.le),aK (fun e=>OZ (by rw[e])),bC]
 ·rw[wD hp,bC,bN,Bb (s:=t) uZ (mj.2 ⟨ht,hp⟩) fun c hc OZ=>by rw[rO hp (mj.1 hc).1,aK (Ne.symm OZ),bB],rO hp ht,if_pos rfl,Rat.mul_one]
theorem rP{k:Nat}(hk:k<(jm pv n).length):(jm pv n).getD k 0∈jm pv n:=by rw[List.getD,aB hk];exact a9 hk
theorem pZ{k:Nat}(h:(eu A pv n n)[k]? =some r):k<(jm pv n).length∧r=gZ A pv n ((jm pv n).getD k 0) pv.length:=by
 unfold eu at h;rw[aN]at h;obtain⟨c,hc,rfl⟩:=Option.map_eq_some_iff.1 h;refine⟨(aE.1 hc).1,?_⟩;rw[List.getD,hc];rfl
theorem Ny{i k:Nat}(hi:i<(jm pv n).length)(hk:k<(jm pv n).length)(e:(jm pv n).getD i 0=(jm pv n).getD k 0):i=k:=by
 rw[List.getD,List.getD,aB hi,aB hk]at e;rcases bs i k with h|h|h
 ·exact absurd e (List.pairwise_iff_getElem.1 uZ i k hi hk h)
 ·exact h
 ·exact absurd e.symm (List.pairwise_iff_getElem.1 uZ k i hk hi h)
theorem Bf{k i:Nat}{s:List Rat}(hr:(eu A pv n n)[k]? =some r)(hs:(eu A pv n n)[i]? =some s):s.getD ((jm pv n).getD k 0) 0=if i=k then 1 else 0:=by
 obtain⟨hk,-⟩:=pZ hr;obtain⟨hi,rfl⟩:=pZ hs;have hm:=mj.1 (rP hk);rw[rO hm.2 (mj.1 (rP hi)).1];by_cases h:i=k
 ·rw[h,if_pos rfl,if_pos rfl]
 ·rw[aK (fun e=>h (Ny hi hk e.symm)),aK h]
end
theorem kW(f:Nat->Nat->Rat)(m:Nat):∀n,cX (fun i=>cX (f i) m) n=cX (fun j=>cX (fun i=>f i j) n) m
 |0=>(dW m).symm
 |n+1=>by
  show cX (fun i=>cX (f i) m) n+cX (f n) m=cX (fun j=>cX (fun i=>f i j) n+f n j) m;rw[fa,kW f m n]
theorem pe(x y:List Rat):∀n,eh x y n=cX (fun t=>x.getD t 0*y.getD t 0) n
 |0=>rfl
 |n+1=>by rw[eh,pe x y n];rfl
theorem zM{f:Nat->Rat}:∀{n:Nat},(∀k,k<n->0<=f k)->0<=cX f n
 |0,_=>Rat.le_refl
 |n+1,h=>by
  have h1:=zM (n:=n) fun k hk=>h k (by omega);have h2:=h n (by omega);show 0<=cX f n+f n;grind
theorem rS{f:Nat->Rat}:∀{n:Nat},(∀k,k<n->0<=f k)->cX f n<=0->∀k,k<n->f k=0
 |0,_,_,k,hk=>by omega
 |n+1,h,h0,k,hk=>by
  have h1:=zM (n:=n) fun k hk=>h k (by omega);have h2:=h n (by omega);have h3:cX f n+f n<=0:=h0;rcases aP k n with h4|h4
  ·exact rS (fun k hk=>h k (by omega)) (by grind) k h4
  ·rw[show k=n by omega];grind
def Fk(m:Mx)(n w:Nat):Prop:=∀x:Nat->Rat,(∀t,t<w->cX (fun i=>x i*m i t) n=0)->∀i,i<n->x i=0
theorem OB(f:Nat->Rat){n b:Nat}(ha:a<n)(hb:b<n):cX (fun i=>f (mM a b i)) n=cX f n:=by
 have h1:cX (fun i=>(if i=a then f b-f a else 0)+(if i=b then f a-f b else 0)) n=0:=by
  rw[fa,eV ha fun k _ OZ=>aK OZ,eV hb fun k _ OZ=>aK OZ,if_pos rfl,if_pos rfl];grind
 have h2:cX (fun i=>f (mM a b i)) n-cX f n=0:=by
  rw[<-oh,<-h1];refine cN fun k _=>?_;unfold mM;by_cases h3:k=a
  ·subst h3;rw[if_pos rfl,if_pos rfl];by_cases h4:k=b
   ·subst h4;rw[if_pos rfl];grind
   ·rw[aK h4];grind
  ·rw[aK h3,aK h3];by_cases h4:k=b
   ·subst h4;rw[if_pos rfl,if_pos rfl];grind
   ·rw[aK h4,aK h4];grind
 grind
theorem Fl(a b i:Nat):mM a b (mM a b i)=i:=by
 unfold mM;by_cases h1:i=a
 ·rw[if_pos h1];by_cases h2:b=a
  ·rw[if_pos h2];omega
  ·rw[aK h2,if_pos rfl];omega
 ·rw[aK h1];by_cases h2:i=b
  ·rw[if_pos h2,if_pos rfl];omega
  ·rw[aK h2,aK h1,aK h2]
theorem aCo{b i n:Nat}(ha:a<n)(hb:b<n)(hi:i<n):mM a b i<n:=by unfold mM;split<;>(try split)<;>omega
theorem Fk.mM{n w b:Nat}(h:Fk m n w)(ha:a<n)(hb:b<n):Fk (fun i t=>m (mM a b i) t) n w:=fun x hx i hi=>by
 have h1:=h (fun i=>x (Go.Ex.mM a b i)) (fun t ht=>by
  rw[<-hx t ht,<-OB (fun i=>x i*m (Go.Ex.mM a b i) t) ha hb]
  exact cN fun k _=>by simp only[Fl]) (Go.Ex.mM a b i) (aCo ha hb hi)
 simp only[Fl]at h1;exact h1
section
variable{m m':Mx}{n w p:Nat}{κ:Rat}{q:Nat->Rat}
def nY(p:Nat)(q x:Nat->Rat)(n:Nat):Rat:=cX (fun j=>if j=p then 0 else x j*q j) n
theorem Ku(hp:p<n)(h1:∀t,t<w->m' p t=κ*m p t)(h2:∀j t,j<n->j≠p->t<w->m' j t=m j t+q j*m' p t)(x:Nat->Rat){t:Nat}(ht:t<w):
  cX (fun j=>x j*m' j t) n=cX (fun j=>(if j=p then κ*(x p+nY p q x n)else x j)*m j t) n:=by
 have h3:cX (fun j=>x j*m' j t) n-cX (fun j=>(if j=p then κ*(x p+nY p q x n)else x j)*m j t) n=0:=by
  rw[<-oh];have h4:∀j,j<n->x j*m' j t-(if j=p then κ*(x p+nY p q x n)else x j)*m j t=(if j=p then 0 else x j*q j)*(κ*m p t)+(if j=p then -(nY p q x n*(κ*m p t))else 0):=fun j hj=>by
   by_cases h5:j=p
   ·subst h5;rw[if_pos rfl,if_pos rfl,if_pos rfl,h1 t ht];grind
   ·rw[aK h5,aK h5,aK h5,h2 j t hj h5 ht,h1 t ht];grind
  rw[cN h4,fa,jR,eV hp fun k _ OZ=>aK OZ,if_pos rfl];unfold nY;grind
 grind
theorem Fk.mix(hi:Fk m n w)(hκ:κ≠0)(hp:p<n)(h1:∀t,t<w->m' p t=κ*m p t)(h2:∀j t,j<n->j≠p->t<w->m' j t=m j t+q j*m' p t):Fk m' n w:=fun x hx=>by
 have h3:=hi _ fun t ht=>(Ku hp h1 h2 x ht).symm.trans (hx t ht);have h4:∀j,j<n->j≠p->x j=0:=fun j hj OZ=>by have:=h3 j hj;rwa [aK OZ]at this
 have h5:nY p q x n=0:=by
  unfold nY;rw[cN (g:=fun _=>0) fun j hj=>?_,dW];by_cases h6:j=p
  ·rw[if_pos h6]
  ·rw[aK h6,h4 j hj h6,bC]
 have h6:=h3 p hp;rw[if_pos rfl,h5,bN]at h6;intro i hi;by_cases h7:i=p
 ·rw[h7];exact(Rat.mul_eq_zero.1 h6).resolve_left hκ
 ·exact h4 i hi h7
theorem Fk.aDZ(hi:Fk m' n w)(hκ:κ≠0)(hp:p<n)(h1:∀t,t<w->m' p t=κ*m p t)(h2:∀j t,j<n->j≠p->t<w->m' j t=m j t+q j*m' p t):Fk m n w:=fun y hy=>by
 have hk:κ*κ⁻¹=1:=Rat.mul_inv_cancel _ hκ;have h3:=hi (fun j=>if j=p then y p*κ⁻¹-nY p q y n else y j) fun t ht=>by
  rw[Ku hp h1 h2 _ ht,<-hy t ht];refine cN fun j hj=>?_;have h5:nY p q (fun j=>if j=p then y p*κ⁻¹-nY p q y n else y j) n=nY p q y n:=by
   unfold nY;refine cN fun i _=>?_;by_cases h6:i=p
   ·rw[if_pos h6,if_pos h6]
   ·rw[aK h6,aK h6];simp only[aK h6]
  rw[h5,if_pos rfl];by_cases h6:j=p
  ·rw[if_pos h6,h6];grind
  ·rw[aK h6,aK h6]
 have h4:∀j,j<n->j≠p->y j=0:=fun j hj OZ=>by have:=h3 j hj;rwa [aK OZ]at this
 have h5:nY p q y n=0:=by
  unfold nY;rw[cN (g:=fun _=>0) fun j hj=>?_,dW];by_cases h6:j=p
  ·rw[if_pos h6]
  ·rw[aK h6,h4 j hj h6,bC]
 have h6:=h3 p hp;rw[if_pos rfl,h5]at h6;intro i hi;by_cases h7:i=p
 ·rw[h7];grind
 ·exact h4 i hi h7
end
theorem Fk.congr{m':Mx}{n w:Nat}(h:Fk m n w)(e:∀i t,i<n->t<w->m' i t=m i t):Fk m' n w:=fun x hx=>h x fun t ht=>by
 rw[<-hx t ht];exact cN fun i hi=>by rw[e i t hi ht]
theorem OC{s:List (List Rat)×List Nat}{c w:Nat}(hl:fq w s.1)(hle:s.2.length<=s.1.length):Fk (cY (dm s c).1) s.1.length w↔Fk (cY s.1) s.1.length w:=by
 rcases kH c hle with⟨e,-⟩|⟨k,h1,h2,h3,e⟩
 ·rw[e]
 ·obtain⟨r1,r2⟩:=mi hl h1 h2 h3 e;have hp:s.2.length<s.1.length:=by omega
  have hs:mM s.2.length k s.2.length=k:=by unfold mM;rw[if_pos rfl]
  have hκ:(1 / cY s.1 k c)≠0:=fun e=>by have:=wC h3;rw[e,bB]at this;exact absurd this (by decide)
  have q1:∀t,t<w->cY (dm s c).1 s.2.length t=(1 / cY s.1 k c)*(fun i t=>cY s.1 (mM s.2.length k i) t) s.2.length t:=fun t _=>by
   simp only[hs]
   rw[r1,bl]
  have q2:∀j t,j<s.1.length->j≠s.2.length->t<w->cY (dm s c).1 j t=(fun i t=>cY s.1 (mM s.2.length k i) t) j t+(fun j=> -(cY s.1 (mM s.2.length k j) c)) j*cY (dm s c).1 s.2.length t:=fun j t hj OZ ht=>by
   rw[r2 j hj OZ t ht,r1];have:mM s.2.length k j=if j=k then s.2.length else j:=by unfold mM;rw[aK OZ]
   simp only[this]
  constructor
  ·intro h;have h4:=(Fk.aDZ h hκ hp q1 q2).mM hp h2;exact h4.congr fun i t _ _=>by simp only[Fl]
  ·intro h;exact Fk.mix (h.mM hp h2) hκ hp q1 q2
theorem zN{M:List (List Rat)}{w:Nat}(hl:fq w M):∀cols,cols<=w->(Fk (cY (cQ M cols).1) M.length w↔Fk (cY M) M.length w)
 |0,_=>Iff.rfl
 |c+1,h=>by
  have ih:=zN hl c (by omega);have hr:=dc hl c (by omega);have h1:=da M c;rw[<-ih];have h2:=OC (c:=c) hr.1 hr.2.1;rw[h1]at h2;rw[<-h2];unfold cQ;rw[bM,List.foldl_append];exact Iff.rfl
theorem OD(M:List (List Rat)):D8 M↔Sy (cY M) M.length∧Po (cY M) M.length:=by
 constructor
 ·intro⟨h1,h2⟩;refine⟨fun i j hi hj=>?_,fun k hk=>?_⟩
  ·rcases bs j i with h|h|h
   ·exact h1 i j hi h
   ·rw[h]
   ·exact(h1 j i hj h).symm
  ·have:=h2 _ (aD (lY hk))
   rwa [Bj]at this
 ·intro⟨h1,h2⟩;refine⟨fun i k hi hk=>h1 i k hi (by omega),fun q hq=>?_⟩;obtain⟨k,hk⟩:=aS hq;have hl:=(aE.1 hk).1;rw[kV]at hl;rw[lY hl]at hk;injection hk with hk;rw[<-hk,Bj];exact h2 k hl
theorem Ha{m':Mx}{n:Nat}(h:∀i j,i<n->j<n->m i j=m' i j):qf m x n=qf m' x n:=cN fun i hi=>by rw[cN fun j hj=>by rw[h i j hi hj]]
def eX(E:Mx)(r n:Nat)(v:Nat->Rat):Prop:=∃c:Nat->Rat,∀t,t<n->v t=cX (fun i=>c i*E i t) r
structure Rf(E:Mx)(p:Nat->Nat)(r n:Nat):Prop where
 lt:∀i,i<r->p i<n
 mono:∀i j,i<j->j<r->p i<p j
 unit:∀i j,i<r->j<r->E j (p i)=if j=i then 1 else 0
 lead:∀i t,i<r->t<p i->E i t=0
section
variable{E F:Mx}{p q:Nat->Nat}{r s n:Nat}{v:Nat->Rat}
theorem Rf.coeff(h:Rf E p r n)(hv:eX E r n v):∀t,t<n->v t=cX (fun i=>v (p i)*E i t) r:=by
 obtain⟨c,hc⟩:=hv;intro t ht;rw[hc t ht];refine cN fun i hi=>?_;rw[hc (p i) (h.lt i hi),eV hi fun k hk OZ=>by rw[h.unit i k hi hk,aK OZ,bB],h.unit i i hi hi,if_pos rfl,Rat.mul_one]
theorem Rf.aBa(h:Rf E p r n)(hv:eX E r n v){t:Nat}(ht:t<n)(h0:v t≠0)(hz:∀k,k<t->v k=0):∃i,i<r∧p i=t:=by
 refine Decidable.byContradiction fun SI=>h0 ?_;rw[h.coeff hv t ht,cN (g:=fun _=>0) fun i hi=>?_,dW];rcases bs (p i) t with h1|h1|h1
 ·rw[hz _ h1,bC]
 ·exact absurd ⟨i,hi,h1⟩ SI
 ·rw[h.lead i t hi h1,bB]
theorem Rf.aCY(h:Rf E p r n)(k:Rf F q s n)(hE:∀i,i<r->eX F s n (E i)){i:Nat}(hi:i<r):∃j,j<s∧q j=p i:=
 k.aBa (hE i hi) (h.lt i hi) (by rw[h.unit i i hi hi,if_pos rfl];decide) fun t ht=>h.lead i t hi ht
theorem Rf.OE(h:Rf E p r n)(k:Rf F q s n)(hE:∀i,i<r->eX F s n (E i))(hF:∀j,j<s->eX E r n (F j)):∀i,i<r->i<s∧p i=q i:=by
 intro i
 induction i using Nat.strongRecOn with
 |ind i ih=>
  intro hi;obtain⟨j,hj,e1⟩:=h.aCY k hE hi;have Pq:i<=j:=by
   refine Nat.le_of_not_lt fun PC=>?_;have h1:=(ih j PC (by omega)).2;have h2:=h.mono j i PC hi;omega
  have his:i<s:=by omega
  refine⟨his,?_⟩;obtain⟨l,hl,e2⟩:=k.aCY h hF his;have UB:i<=l:=by
   refine Nat.le_of_not_lt fun PC=>?_;have h1:=(ih l PC hl).2;have h2:=k.mono l i PC his;omega
  have h3:q i<=q j:=by
   rcases aP i j with h4|h4
   ·exact Nat.le_of_lt (k.mono i j h4 hj)
   ·rw[show i=j by omega];exact Nat.le_refl _
  have h5:p i<=p l:=by
   rcases aP i l with h4|h4
   ·exact Nat.le_of_lt (h.mono i l h4 hl)
   ·rw[show i=l by omega];exact Nat.le_refl _
  omega
theorem Rf.one(h:Rf E p r n)(k:Rf F q s n)(hE:∀i,i<r->eX F s n (E i))(hF:∀j,j<s->eX E r n (F j)):r=s∧(∀i,i<r->p i=q i)∧∀i t,i<r->t<n->E i t=F i t:=by
 have h1:=h.OE k hE hF;have h2:=k.OE h hF hE;have XC:r=s:=by
  rcases bs r s with h3|h3|h3
  ·have:=(h2 r h3).1;omega
  ·exact h3
  ·have:=(h1 s h3).1;omega
 refine⟨XC,fun i hi=>(h1 i hi).2,fun i t hi ht=>?_⟩;rw[k.coeff (hE i hi) t ht,eV (i:=i) (by omega) fun j hj OZ=>by rw[<-(h1 j (by omega)).2,h.unit j i (by omega) hi,aK (Ne.symm OZ),bC],<-(h1 i hi).2,h.unit i i hi hi,if_pos rfl,bf]
end
theorem eX.row{E:Mx}{r n i:Nat}(hi:i<r):eX E r n (E i):=⟨fun k=>if k=i then 1 else 0,fun t _=>by
 rw[eV hi fun k _ OZ=>by simp only[aK OZ,bC]]
 simp only[if_pos,bf]⟩
theorem eX.add{E:Mx}{r n:Nat}(h:eX E r n u)(k:eX E r n v)(x:Rat):eX E r n fun t=>u t+x*v t:=by
 obtain⟨c,hc⟩:=h;obtain⟨d,hd⟩:=k;refine⟨fun i=>c i+x*d i,fun t ht=>?_⟩;show u t+x*v t=cX (fun i=>(c i+x*d i)*E i t) r;rw[hc t ht,hd t ht,<-eU,<-fa];exact cN fun i _=>by grind
theorem eX.mul{E:Mx}{r n:Nat}(h:eX E r n u)(x:Rat):eX E r n fun t=>u t*x:=by
 obtain⟨c,hc⟩:=h;refine⟨fun i=>c i*x,fun t ht=>?_⟩;show u t*x=cX (fun i=>(c i*x)*E i t) r;rw[hc t ht,<-jR];exact cN fun i _=>by grind
theorem eX.congr{E:Mx}{r n:Nat}(h:eX E r n u)(e:∀t,t<n->v t=u t):eX E r n v:=by
 obtain⟨c,hc⟩:=h;exact⟨c,fun t ht=>by rw[e t ht,hc t ht]⟩
theorem eX.trans{E F:Mx}{r s n:Nat}(h:eX E r n v)(k:∀i,i<r->eX F s n (E i)):eX F s n v:=by
 obtain⟨c,hc⟩:=h;have key:∀m,m<=r->eX F s n fun t=>cX (fun i=>c i*E i t) m:=by
  intro m
  induction m with
  |zero=>intro _;exact⟨fun _=>0,fun t _=>by rw[cN (g:=fun _=>0) fun i _=>bC _,dW];rfl⟩
  |succ m ih=>
   intro hm;exact(ih (by omega)).add (k m (by omega)) (c m)
 exact(key r (Nat.le_refl _)).congr fun t ht=>hc t ht
def OF(s:List (List Rat)×List Nat):Prop:=(∀i j,i<j->j<s.2.length->s.2.getD i 0<s.2.getD j 0)∧∀i t,i<s.2.length->t<s.2.getD i 0->cY s.1 i t=0
theorem OF.step{n c:Nat}{s:List (List Rat)×List Nat}(h:OF s)(hr:Red n c s)(hc:c<n):OF (dm s c):=by
 obtain⟨hl,hle,hz,RQ,hu⟩:=hr;rcases kH c hle with⟨e,-⟩|⟨k,h1,h2,h3,e⟩
 ·rw[e];exact h
 ·obtain⟨r1,r2⟩:=mi hl h1 h2 h3 e;have e2:(dm s c).2=s.2++[c]:=by rw[e]
  have hold:∀i,i<s.2.length->(dm s c).2.getD i 0=s.2.getD i 0:=fun i hi=>by rw[e2,List.getD,aJ hi,<-List.getD]
  have Qj:(dm s c).2.getD s.2.length 0=c:=by rw[e2,List.getD,aM (Nat.le_refl _),bI];rfl
  have PC:∀i,i<s.2.length->s.2.getD i 0<c:=fun i hi=>RQ _ (by rw[List.getD,aB hi];exact a9 _);have hlen:(dm s c).2.length=s.2.length+1:=by rw[e2];simp
  refine⟨fun i j PZ hj=>?_,fun i t hi ht=>?_⟩
  ·rw[hlen]at hj;rcases aP j s.2.length with h4|h4
   ·rw[hold i (by omega),hold j h4];exact h.1 i j PZ h4
   ·rw[show j=s.2.length by omega,Qj,hold i (by omega)];exact PC i (by omega)
  ·rw[hlen]at hi;rcases aP i s.2.length with h4|h4
   ·rw[hold i h4]at ht;have h5:=PC i h4;rw[r2 i (by omega) (by omega) t (by omega),hz k t h1 h2 (by omega),aK (by omega),h.2 i t h4 ht,bC,bB,Rat.zero_add]
   ·rw[show i=s.2.length by omega]at ht ⊢;rw[Qj]at ht;rw[r1,hz k t h1 h2 ht,bC]
theorem wF{M:List (List Rat)}{n:Nat}(hl:fq n M):∀cols,cols<=n->OF (cQ M cols)
 |0,_=>⟨fun _ _ _ h=>(by cases h),fun _ _ h=>(by cases h)⟩
 |c+1,h=>by
  have ih:=wF hl c (by omega);have hr:=dc hl c (by omega);unfold cQ at ih hr ⊢;rw[bM,List.foldl_append];exact ih.step hr (by omega)
theorem Bk{n:Nat}(hl:fq n M):Rf (cY (cQ M n).1) (fun i=>(cQ M n).2.getD i 0) (cQ M n).2.length n:=by
 obtain⟨h1,h2,h3,h4,h5⟩:=dc hl n (Nat.le_refl _);obtain⟨k1,k2⟩:=wF hl n (Nat.le_refl _);refine⟨fun i hi=>h4 _ (by rw[List.getD,aB hi];exact a9 _),k1,fun i j hi hj=>h5 i j hi (by omega),k2⟩
theorem aBb{s:List (List Rat)×List Nat}{c n:Nat}(hl:fq n s.1)(hle:s.2.length<=s.1.length):(∀j,j<s.1.length->eX (cY s.1) s.1.length n (cY (dm s c).1 j))∧∀j,j<s.1.length->eX (cY (dm s c).1) s.1.length n (cY s.1 j):=by
 rcases kH c hle with⟨e,-⟩|⟨k,h1,h2,h3,e⟩
 ·rw[e];exact⟨fun j hj=>eX.row hj,fun j hj=>eX.row hj⟩
 ·obtain⟨r1,r2⟩:=mi hl h1 h2 h3 e;have hp:s.2.length<s.1.length:=by omega
  have a1:eX (cY s.1) s.1.length n (cY (dm s c).1 s.2.length):=((eX.row h2).mul (1 / cY s.1 k c)).congr fun t _=>r1 t;have b1:eX (cY (dm s c).1) s.1.length n (cY s.1 k):=((eX.row hp).mul (cY s.1 k c)).congr fun t _=>by rw[r1,Rat.mul_assoc,bl (1 / _),wC h3,Rat.mul_one]
  refine⟨fun j hj=>?_,fun j hj=>?_⟩
  ·by_cases h4:j=s.2.length
   ·rw[h4];exact a1
   ·exact((eX.row (show (if j=k then s.2.length else j)<s.1.length by split<;>omega)).add (eX.row h2) (-(cY s.1 (if j=k then s.2.length else j) c)*(1 / cY s.1 k c))).congr fun t ht=>by rw[r2 j hj h4 t ht];grind
  ·by_cases h4:j=k
   ·rw[h4];exact b1
   ·obtain⟨i,hi,OZ,PZ⟩:∃i,i<s.1.length∧i≠s.2.length∧(if i=k then s.2.length else i)=j:=by
     by_cases h5:j=s.2.length
     ·exact⟨k,h2,fun e6=>h4 (h5.trans e6.symm),by rw[if_pos rfl,h5]⟩
     ·exact⟨j,hj,h5,aK h4⟩
    refine((eX.row hi).add (eX.row hp) (cY s.1 j c)).congr fun t ht=>?_;rw[r2 i hi OZ t ht,PZ,r1];grind
theorem kC{M:List (List Rat)}{n:Nat}(hl:fq n M):∀cols,cols<=n->(∀j,j<M.length->eX (cY M) M.length n (cY (cQ M cols).1 j))∧∀j,j<M.length->eX (cY (cQ M cols).1) M.length n (cY M j)
 |0,_=>⟨fun j hj=>eX.row hj,fun j hj=>eX.row hj⟩
 |c+1,h=>by
  obtain⟨i1,i2⟩:=kC hl c (by omega);have hr:=dc hl c (by omega);have h1:=da M c;have h2:=aBb (c:=c) hr.1 hr.2.1;rw[h1]at h2;have e:(cQ M (c+1))=dm (cQ M c) c:=by unfold cQ;rw[bM,List.foldl_append];rfl
  rw[e];exact⟨fun j hj=>(h2.1 j hj).trans i1,fun j hj=>(i2 j hj).trans h2.2⟩
theorem eX.cut{E:Mx}{r m n:Nat}(h:eX E m n v)(hz:∀i t,r<=i->i<m->t<n->E i t=0):eX E r n v:=by
 refine h.trans fun i hi=>?_;rcases aP i r with h1|h1
 ·exact eX.row h1
 ·exact⟨fun _=>0,fun t ht=>by rw[hz i t h1 hi ht,cN (g:=fun _=>0) fun k _=>bC _,dW]⟩
theorem Hb{n r:Nat}{F:Mx}{q:Nat->Nat}(hl:fq n M)(k:Rf F q r n)(h1:∀i,i<r->eX (cY M) M.length n (F i))(h2:∀j,j<M.length->eX F r n (cY M j)):
  (cQ M n).2.length=r∧(∀i,i<r->(cQ M n).2.getD i 0=q i)∧∀i t,i<r->t<n->cY (cQ M n).1 i t=F i t:=by
 obtain⟨a1,a2⟩:=kC hl n (Nat.le_refl _);obtain⟨-,hle,hz,-,-⟩:=dc hl n (Nat.le_refl _);rw[da]at hle hz;have h:=Bk hl;obtain⟨e1,e2,e3⟩:=h.one k (fun i hi=>(a1 i (by omega)).trans h2) fun j hj=>((h1 j hj).trans a2).cut fun i t hi hm ht=>hz i t hi hm ht;exact⟨e1,fun i hi=>e2 i (by omega),fun i t hi ht=>e3 i t (by omega) ht⟩
structure Ru(E:Mx)(p:Nat->Nat)(r n:Nat):Prop where
 lt:∀i,i<r->p i<n
 inj:∀i j,i<r->j<r->p i=p j->i=j
 unit:∀i j,i<r->j<r->E j (p i)=if j=i then 1 else 0
 lead:∀i t,i<r->t<p i->E i t=0
def nP(E:Mx)(p:Nat->Nat)(r:Nat)(v:Nat->Rat)(k t:Nat):Rat:=v t-cX (fun i=>if p i<k then v (p i)*E i t else 0) r
theorem OG(E:Mx)(p:Nat->Nat)(r:Nat)(v:Nat->Rat)(t:Nat):nP E p r v 0 t=v t:=by
 unfold nP;rw[cN (g:=fun _=>0) fun i _=>aK (by omega),dW];grind
section
variable{E:Mx}{p:Nat->Nat}{r n:Nat}{v:Nat->Rat}
theorem OH{k t:Nat}(h:∀i,i<r->p i≠k):nP E p r v (k+1) t=nP E p r v k t:=by
 unfold nP;rw[cN fun i hi=>?_];have:=h i hi;by_cases h1:p i<k
 ·rw[if_pos h1,if_pos (by omega)]
 ·rw[aK h1,aK (by omega)]
theorem aCp(h:Ru E p r n){i:Nat}(hi:i<r):nP E p r v (p i) (p i)=v (p i):=by
 unfold nP;rw[cN (g:=fun _=>0) fun j hj=>?_,dW]
 ·grind
 ·by_cases h1:p j<p i
  ·rw[if_pos h1,h.unit i j hi hj,aK (fun e=>by rw[e]at h1;omega),bB]
  ·rw[aK h1]
theorem OI(h:Ru E p r n){i t:Nat}(hi:i<r):nP E p r v (p i+1) t=nP E p r v (p i) t+ -(nP E p r v (p i) (p i))*E i t:=by
 rw[aCp h hi];unfold nP;have e:cX (fun j=>if p j<p i+1 then v (p j)*E j t else 0) r=cX (fun j=>(if p j<p i then v (p j)*E j t else 0)+(if j=i then v (p i)*E i t else 0)) r:=by
  refine cN fun j hj=>?_;by_cases h1:j=i
  ·subst h1;rw[if_pos (by omega),aK (by omega),if_pos rfl,Rat.zero_add]
  ·have h2:p j≠p i:=fun e=>h1 (h.inj j i hj hi e);rw[aK h1,bN];by_cases h3:p j<p i
   ·rw[if_pos h3,if_pos (by omega)]
   ·rw[aK h3,aK (by omega)]
 rw[e,fa,eV hi fun k _ OZ=>aK OZ,if_pos rfl];grind
theorem Kv(h:Ru E p r n){i:Nat}(hi:i<r):nP E p r v n (p i)=0:=by
 unfold nP;rw[eV hi fun k hk OZ=>?_,if_pos (h.lt i hi),h.unit i i hi hi,if_pos rfl]
 ·grind
 ·rw[if_pos (h.lt k hk),h.unit i k hi hk,aK OZ,bB]
end
def lr(E:Mx)(r:Nat)(u:Nat->Rat)(k:Nat):Mx:=fun i t=>if i=r then u t / u k else E i t+ -(E i k)*(u t / u k)
theorem Ru.push{E:Mx}{p:Nat->Nat}{r n k:Nat}(h:Ru E p r n)(hk:k<n)(hu:∀i,i<r->u (p i)=0)(h0:u k≠0)(hz:∀t,t<k->u t=0):
  Ru (lr E r u k) (fun i=>if i=r then k else p i) (r+1) n:=by
 have OZ:∀i,i<r->p i≠k:=fun i hi e=>h0 (e▸hu i hi);have PB:u k / u k=1:=by rw[bV,Rat.mul_inv_cancel _ h0]
 have Ow:∀i,i<r->u (p i) / u k=0:=fun i hi=>by rw[hu i hi,bV,bC]
 refine⟨fun i hi=>?_,fun i j hi hj e=>?_,fun i j hi hj=>?_,fun i t hi ht=>?_⟩
 ·split
  ·exact hk
  ·exact h.lt i (by omega)
 ·by_cases h1:i=r
  ·by_cases h2:j=r
   ·omega
   ·rw[if_pos h1,aK h2]at e;exact absurd e.symm (OZ j (by omega))
  ·by_cases h2:j=r
   ·rw[aK h1,if_pos h2]at e;exact absurd e (OZ i (by omega))
   ·rw[aK h1,aK h2]at e;exact h.inj i j (by omega) (by omega) e
 ·unfold lr;by_cases h1:i=r
  ·rw[if_pos h1];by_cases h2:j=r
   ·rw[if_pos h2,if_pos (by omega),PB]
   ·rw[aK h2,aK (by omega),PB];grind
  ·rw[aK h1];by_cases h2:j=r
   ·rw[if_pos h2,aK (by omega),Ow i (by omega)]
   ·rw[aK h2,Ow i (by omega),bB,bN];exact h.unit i j (by omega) (by omega)
 ·unfold lr;by_cases h1:i=r
  ·rw[if_pos h1]at ht;rw[if_pos h1,hz t ht,bV,bC]
  ·rw[aK h1]at ht;rw[aK h1,h.lead i t (by omega) ht,Rat.zero_add];rcases aP t k with h2|h2
   ·rw[hz t h2,bV,bC,bB]
   ·rw[h.lead i k (by omega) (by omega)];grind
def kk(E:Mx)(r:Nat)(v:Nat->Rat):Mx:=fun i t=>if i=r then v t else E i t
section
variable{E:Mx}{p:Nat->Nat}{r n k:Nat}{u v:Nat->Rat}
theorem MR(i:Nat)(hi:i<r):eX (kk E r v) (r+1) n (E i):=(eX.row (show i<r+1 by omega)).congr fun t _=>by unfold kk;rw[aK (by omega)]
theorem aCq(hu:∀t,t<n->u t=nP E p r v n t)(hl:∀i,i<r->p i<n):eX (kk E r v) (r+1) n u:=by
 refine⟨fun i=>if i=r then 1 else -(v (p i)),fun t ht=>?_⟩;rw[hu t ht];show nP E p r v n t=cX (fun i=>(if i=r then 1 else -(v (p i)))*kk E r v i t) r+(if r=r then 1 else -(v (p r)))*kk E r v r t;rw[if_pos rfl,cN (g:=fun i=> -(v (p i)*E i t)) fun i hi=>by unfold kk;rw[aK (by omega),aK (by omega),Rat.neg_mul],og];unfold nP kk;rw[if_pos rfl,cN (g:=fun i=>v (p i)*E i t) fun i hi=>if_pos (hl i hi)];grind
theorem OJ(hu:eX (kk E r v) (r+1) n u):∀i,i<r+1->eX (kk E r v) (r+1) n (lr E r u k i):=fun i hi=>by
 by_cases h1:i=r
 ·exact(hu.mul (1 / u k)).congr fun t _=>by unfold lr;rw[if_pos h1,bV,bV,bf]
 ·exact((MR i (by omega)).add hu (-(E i k)*(1 / u k))).congr fun t _=>by unfold lr;rw[aK h1,bV,bV];grind
theorem Kw(h0:u k≠0):eX (lr E r u k) (r+1) n u:=((eX.row (show r<r+1 by omega)).mul (u k)).congr fun t _=>by
 unfold lr;rw[if_pos rfl,Rat.div_mul_cancel h0]
theorem tE(h0:u k≠0)(i:Nat)(hi:i<r):eX (lr E r u k) (r+1) n (E i):=((eX.row (show i<r+1 by omega)).add (Kw h0) (E i k / u k)).congr fun t _=>by
 unfold lr;rw[aK (by omega),bV,bV];grind
theorem E3(h0:u k≠0)(hu:∀t,t<n->u t=nP E p r v n t)(hl:∀i,i<r->p i<n):eX (lr E r u k) (r+1) n v:=by
 have h1:eX (kk E r u) (r+1) n v:=by
  refine⟨fun i=>if i=r then 1 else v (p i),fun t ht=>?_⟩;show v t=cX (fun i=>(if i=r then 1 else v (p i))*kk E r u i t) r+(if r=r then 1 else v (p r))*kk E r u r t;rw[if_pos rfl,cN (g:=fun i=>v (p i)*E i t) fun i hi=>by unfold kk;rw[aK (by omega),aK (by omega)]];unfold kk;rw[if_pos rfl,hu t ht];unfold nP;rw[cN (g:=fun i=>v (p i)*E i t) fun i hi=>if_pos (hl i hi)];grind
 refine h1.trans fun i hi=>?_;by_cases h2:i=r
 ·exact(Kw h0).congr fun t _=>by unfold kk;rw[if_pos h2]
 ·exact(tE h0 i (by omega)).congr fun t _=>by unfold kk;rw[aK h2]
end
def nZ(row xw:List Rat)(by_:Rat):List Rat:=row.mapIdx (oe (-by_) xw)
theorem wG(row xw:List Rat)(b:Rat):(nZ row xw b).length=row.length:=List.length_mapIdx
theorem Bm(row xw:List Rat):nZ row xw 0=row:=by
 refine bL fun j=>?_;rw[nZ,List.getElem?_mapIdx]
 cases row[j]? with
 |none=>rfl
 |some q=>exact congrArg some (by rw[oe,Rat.neg_zero,bC,bN])
def q9(row:List Rat):Nat->Nat->Nat
 |0,k=>k
 |f+1,k=>if row.getD k 0=0 then q9 row f (k+1)else k
def wH(row:List Rat)(cols:Nat):Nat:=q9 row cols 0
theorem OL{row:List Rat}{k:Nat}:∀(f j:Nat),(∀i,j<=i->i<j+k->row.getD i 0=0)->k<=f->(k<f->row.getD (j+k) 0≠0)->q9 row f j=j+k:=by
 induction k with
 |zero=>
  intro f j _ _ h
  cases f with
  |zero=>rfl
  |succ f=>rw[q9,aK (by have:=h (by omega);rwa [bu]at this)];rfl
 |succ k ih=>
  intro f j h0 hf h
  cases f with
  |zero=>omega
  |succ f=>
   rw[q9,if_pos (h0 j (Nat.le_refl _) (by omega)),ih f (j+1) (fun i h1 h2=>h0 i (by omega) (by omega)) (by omega) (fun h1=>by rw[Nat.add_assoc,Nat.add_comm 1 k];exact h (by omega))];omega
theorem Kx{row:List Rat}{cols k:Nat}(h0:∀i,i<k->row.getD i 0=0)(hk:k<=cols)(h:k<cols->row.getD k 0≠0):wH row cols=k:=by
 rw[wH,OL (k:=k) cols 0 (fun i _ h2=>h0 i (by omega)) hk (fun h1=>by rw[aW];exact h h1),aW]
abbrev AD:=List (List Rat)×List (Option Nat)×List Nat
def gL(E:List (List Rat))(at_:List (Option Nat))(row:List Rat):Nat->List Rat
 |0=>row
 |k+1=>match at_.getD k none with
  |some j=>nZ (gL E at_ row k) (E.getD j []) ((gL E at_ row k).getD k 0)
  |none=>gL E at_ row k
theorem jC(E:List (List Rat))(at_:List (Option Nat))(row:List Rat):∀k,(gL E at_ row k).length=row.length
 |0=>rfl
 |k+1=>by
  rw[gL];split
  ·rw[wG,jC E at_ row k]
  ·exact jC E at_ row k
def gp(E:List (List Rat))(u:List Rat)(p i:Nat):List (List Rat):=E.mapIdx fun j r=>if j<i then nZ r u (r.getD p 0)else r
def lK(cols:Nat)(s:AD)(i:Nat)(row:List Rat):AD:=
 let r:=gL s.1 s.2.1 row cols
 let p:=wH r cols
 if p=cols then s else
  let u:=r.map (· / r.getD p 0)
  (gp s.1 u p s.1.length++[u],s.2.1.set p (some s.1.length),s.2.2++[i])
def im(M:List (List Rat))(cols:Nat):Nat->AD
 |0=>([],List.replicate cols none,[])
 |i+1=>lK cols (im M cols i) i (M.getD i [])
def dO(s:AD):Nat->List (List Rat)×List Nat×List Nat
 |0=>([],[],[])
 |k+1=>match s.2.1.getD k none with
  |some r=>((dO s k).1++[s.1.getD r []],(dO s k).2.1++[k],(dO s k).2.2++[s.2.2.getD r 0])
  |none=>dO s k
def db(M:List (List Rat))(cols:Nat):List (List Rat)×List Nat×List Nat:=dO (im M cols M.length) cols
structure wI(n cols i:Nat)(s:AD):Prop where
 len:fq n s.1
 at_:s.2.1.length=cols
 xw:s.2.2.length=s.1.length
 lt:∀(k r:Nat),s.2.1[k]? =some (some r)->r<s.1.length
 le:s.1.length<=i
 fr:∀j∈s.2.2,j<i
theorem gO(E:List (List Rat))(u:List Rat)(p i:Nat):(gp E u p i).length=E.length:=List.length_mapIdx
theorem JW(E:List (List Rat))(u:List Rat)(p:Nat):gp E u p 0=E:=by
 refine bL fun j=>?_;rw[gp,List.getElem?_mapIdx]
 cases E[j]? <;>rfl
theorem Hd{u:List Rat}{p i:Nat}(h:E[i]? =some r):(gp E u p i)[i]? =some r:=by
 rw[gp,List.getElem?_mapIdx,h];exact congrArg some (aK (Nat.lt_irrefl i))
theorem Bn{u:List Rat}{p i:Nat}(h:E[i]? =some r):gp E u p (i+1)=(gp E u p i).set i (nZ r u (r.getD p 0)):=by
 refine bL fun j=>?_;have hi:=(aE.1 h).1;by_cases hj:i=j
 ·subst hj;rw[aR (by rw[gO];exact hi),gp,List.getElem?_mapIdx,h];exact congrArg some (if_pos (bU i))
 ·rw[aX hj,gp,gp,List.getElem?_mapIdx,List.getElem?_mapIdx]
  cases E[j]? with
  |none=>rfl
  |some r=>
   have e:(j<i+1)↔(j<i):=by omega
   simp only[bh,e]
theorem MU{u:List Rat}{p i n:Nat}(h:fq n E):fq n (gp E u p i):=fun r hr=>by
 obtain⟨j,hj⟩:=aS hr;rw[gp,List.getElem?_mapIdx]at hj
 cases hE:E[j]? with
 |none=>rw[hE]at hj;cases hj
 |some x=>
  rw[hE]at hj;have hx:=h x (aD hE);simp only[bh,Option.some.injEq]at hj;subst hj;split
  ·rw[wG];exact hx
  ·exact hx
theorem wI.start(n cols:Nat):wI n cols 0 ([],List.replicate cols none,[]):=
 ⟨(fun r hr=>by cases hr),aU ..,rfl,(fun (k r:Nat) h=>by rw[List.getElem?_replicate]at h;split at h<;>cases h),Nat.le_refl _,fun j hj=>by cases hj⟩
theorem wI.step{n cols i:Nat}{s:AD}(h:wI n cols i s){row:List Rat}(hr:row.length=n):wI n cols (i+1) (lK cols s i row):=by
 unfold lK;dsimp only
 split
 ·exact⟨h.len,h.at_,h.xw,h.lt,Nat.le_succ_of_le h.le,fun j hj=>Nat.lt_succ_of_lt (h.fr j hj)⟩
 ·refine⟨fun r hm=>?_,by simp[h.at_],by simp[h.xw,gO],fun k r hk=>?_,?_,fun j hj=>?_⟩
  ·rcases List.mem_append.1 hm with hm|hm
   ·exact MU h.len r hm
   ·rw[bE]at hm;subst hm;rw[aL,jC,hr]
  ·dsimp only at hk ⊢;rw[List.length_append,gO,List.length_singleton];rw[List.getElem?_set]at hk;split at hk
   ·split at hk
    ·injection hk with hk;injection hk with hk;omega
    ·cases hk
   ·have:=h.lt k r hk;omega
  ·dsimp only
   rw[List.length_append,gO,List.length_singleton];have:=h.le;omega
  ·rcases List.mem_append.1 hj with hj|hj
   ·exact Nat.lt_succ_of_lt (h.fr j hj)
   ·rw[bE]at hj;omega
theorem Bo{M:List (List Rat)}{n:Nat}(cols:Nat)(hM:fq n M):∀i,i<=M.length->wI n cols i (im M cols i)
 |0,_=>wI.start n cols
 |i+1,hi=>by
  have hm:=aB (l:=M) (show i<M.length by omega);refine(Bo cols hM i (by omega)).step ?_;rw[List.getD,hm];exact hM _ (aD hm)
structure eY where
 nodes:List (Int×Int×Int)
 bars:List (Int×Int×Rat)
 cV:List (Int×Int×Rat)
def eY.cols(f:eY):Nat:=f.bars.length+f.cV.length
def eY.node(f:eY)(n:Int):Int×Int×Int:=f.nodes.getD n.toNat (0,0,0)
def j2(f:eY)(b:Int×Int×Rat):List Int:=[(f.node b.2.1).1-(f.node b.1).1,(f.node b.2.1).2.1-(f.node b.1).2.1,(f.node b.2.1).2.2-(f.node b.1).2.2]
def wJ(M:List (List Int))(r c:Nat)(d:Int):List (List Int):=M.set r ((M.getD r []).set c ((M.getD r []).getD c 0+d))
def putAt(M:List (List Int))(r c:Nat)(d:Int):List (List Int):=M.set r ((M.getD r []).set c d)
def e9(f:eY)(M:List (List Int))(i:Nat):Nat->List (List Int)
 |0=>M
 |k+1=>
  let b:=f.bars.getD i (0,0,0)
  let d:=(j2 f b).getD k 0
  wJ (wJ (e9 f M i k) (3*b.1+k).toNat i d) (3*b.2.1+k).toNat i (-d)
def di(f:eY):Nat->List (List Int)
 |0=>List.replicate (3*f.nodes.length) (List.replicate f.cols 0)
 |i+1=>e9 f (di f i) i 3
def fT(f:eY):Nat->List (List Int)
 |0=>di f f.bars.length
 |i+1=>
  let s:=f.cV.getD i (0,0,0)
  putAt (fT f i) (3*s.1+s.2.1).toNat (f.bars.length+i) 1
def iS(f:eY):List (List Int):=fT f f.cV.length
def dH(l:List Int):List Rat:=l.map fun(n:Int)=>(n:Rat)
def cU(f:eY):List (List Rat):=(iS f).map dH
def dq(M:List (List Rat))(cols:Nat):List (List Rat):=(List.range cols).map fun k=>M.map fun r=>r.getD k 0
abbrev Ld:=Int×Int×Int×Int
def Ky(s:List Int)(r:Nat)(d:Int):List Int:=s.set r (s.getD r 0+d)
def eB(l:List Rat)(b:Rat):List Rat:=l.map (· *b)
def fm(a b:List Rat):List Rat:=a.mapIdx fun i x=>x*b.getD i 0
def dE(f:eY):List Rat:=f.bars.map (·.2.2)++f.cV.map (·.2.2)
def kl(M:List (List Rat))(b:List Rat):List (List Rat):=M.mapIdx fun i r=>r++[b.getD i 0]
def mO(M:List (List Rat))(cols:Nat):List (List Rat):=eu (db M cols).1 (db M cols).2.1 cols cols
def pf(M:List (List Rat))(b:List Rat)(cols:Nat):Option (List Rat):=
 let e:=db (kl M b) (cols+1)
 if cols∈e.2.1 then none else some (iR e.1 e.2.1 cols e.2.1.length)
def fD(st:List (List Rat))(fl:List Rat):List (List Rat):=st.map fun s=>st.map fun r=>eh (fm s fl) r s.length
def iL(st:List (List Rat))(fl x:List Rat):List Rat:=st.map fun s=> -(eh (fm s fl) x s.length)
def mn(st:List (List Rat))(c x:List Rat):Nat->List Rat
 |0=>x
 |i+1=>(mn st c x i).mapIdx fun k q=>q+c.getD i 0*(st.getD i []).getD k 0
def gC:eY:=⟨[(0,0,0),(0,0,4),(3,0,0)],[(0,2,1),(1,2,1)],[(0,0,0),(0,1,0),(0,2,0),(1,0,0),(1,1,0),(1,2,0),(2,1,0)]⟩
def Ib(B:Nat)(q:Rat):Prop:=∃z:Int,q=(z:Rat)∧z.natAbs<=B
theorem Ib.mono(h:Ib B q)(k:B<=C):Ib C q:=let⟨z,e,b⟩:=h;⟨z,e,aV b k⟩
theorem Ib.add(h:Ib B p)(k:Ib C q):Ib (B+C) (p+q):=by
 obtain⟨z,rfl,b⟩:=h;obtain⟨y,rfl,c⟩:=k;exact⟨z+y,by rw[Rat.intCast_add],by omega⟩
theorem Ib.mul(h:Ib B p)(k:Ib C q):Ib (B*C) (p*q):=by
 obtain⟨z,rfl,b⟩:=h;obtain⟨y,rfl,c⟩:=k;exact⟨z*y,by rw[Rat.intCast_mul],by rw[Int.natAbs_mul];exact Nat.mul_le_mul b c⟩
theorem Ib.neg(h:Ib B p):Ib B (-p):=by
 obtain⟨z,rfl,b⟩:=h;exact⟨-z,by rw[Rat.intCast_neg],by omega⟩
theorem Ib.sub(h:Ib B p)(k:Ib C q):Ib (B+C) (p-q):=by rw[Rat.sub_eq_add_neg];exact h.add k.neg
theorem Ib.zero(B:Nat):Ib B 0:=⟨0,rfl,aO _⟩
theorem Ib.one(h:1<=B):Ib B 1:=⟨1,rfl,h⟩
theorem Ib.int{z:Int}(h:z.natAbs<=B):Ib B (z:Rat):=⟨z,rfl,h⟩
theorem Ib.sum{B:Nat}{f:Nat->Rat}:∀(n:Nat),(∀k,k<n->Ib B (f k))->Ib (n*B) (cX f n)
 |0,_=>Ib.zero _
 |n+1,h=>by rw[cX,Nat.succ_mul];exact(Ib.sum n fun k hk=>h k (by omega)).add (h n (by omega))
def fB(B:Nat):Nat->Nat
 |0=>1
 |n+1=>(n+1)*(B*fB B n)
theorem Ib.lX{k:Nat}(h:Ib B q):Ib B (lX k*q):=by
 unfold Go.Ex.lX;split
 ·rw[show (-1:Rat)*q= -q by grind];exact h.neg
 ·rw[bf];exact h
theorem Ib.det{B:Nat}:∀(n:Nat) {m:Mx},(∀i j,i<n->j<n->Ib B (m i j))->Ib (fB B n) (eJ n m)
 |0,_,_=>Ib.one (Nat.le_refl _)
 |n+1,m,h=>by
  unfold eJ fB;exact Ib.sum (n+1) fun k hk=>((h 0 k (by omega) hk).mul (Ib.det n fun i j hi hj=>h (i+1) (skip k j) (by omega) (Fi hj))).lX
theorem Kz(B n:Nat):B*fB B n<=fB B (n+1):=Nat.le_mul_of_pos_left _ (Nat.succ_pos n)
theorem aBd(h:1<=B)(n:Nat):fB B n<=fB B (n+1):=aV (Nat.le_mul_of_pos_left _ h) (Kz B n)
theorem tF{B a:Nat}(h:1<=B):∀{b:Nat},a<=b->fB B a<=fB B b
 |0,k=>by rw[Nat.le_zero.1 k];exact Nat.le_refl _
 |b+1,k=>by
  rcases aP b a with h1|h1
  ·rw[show a=b+1 by omega];exact Nat.le_refl _
  ·exact aV (tF h h1) (aBd h b)
theorem aCZ{B R:Nat}:∀{n:Nat},n<=R->fB B n<=(R*B)^n
 |0,_=>Nat.le_refl _
 |n+1,h=>by
  rw[fB,Nat.pow_succ,<-bj,bX _ (R*B)];exact Nat.mul_le_mul (Nat.mul_le_mul_right B h) (aCZ (by omega))
theorem aC0{R l n:Nat}(hn:n<=R)(h:R*B<=wt l):ln (fB B n)<=l*n+1:=by
 rw[gX,je];have h1:=aV (aCZ (B:=B) hn) (Nat.pow_le_pow_left h n);rw[yE,<-Nat.pow_mul]at h1;have h2:=yE (l*n);have h3:=yD (l*n);rw[show 32*l*n=32*(l*n) by rw[bj]]at h1;omega
theorem tG{K:Nat}{D:Rat}(h0:D≠0)(hD:Ib K D)(hq:Ib K (D*q)):rl q<=ln K:=by
 obtain⟨d,rfl,b⟩:=hD;obtain⟨z,e,c⟩:=hq;have hd:d≠0:=fun e=>h0 (by rw[e];rfl);have e2:q=Rat.divInt z d:=by
  rw[Rat.divInt_eq_div,<-e,bV,bl (d:Rat) q,Rat.mul_assoc,Rat.mul_inv_cancel _ h0,Rat.mul_one]
 have:=lA (a:=z) hd;have:=fk b;have:=fk c;rw[e2];omega
theorem MW{n r:Nat}(h:r<n):eJ n (iI m r fun _=>0)=0:=by
 have h1:=ml 1 n r m h (fun _=>0) fun _=>0;rw[show (fun _:Nat=>(0:Rat)+1*0)=fun _=>0 from funext fun _=>by grind]at h1;grind
theorem Br{n r:Nat}{m:Mx}(h:r<n)(c:Nat->Rat)(v:Nat->Nat->Rat):∀s,eJ n (iI m r fun j=>cX (fun k=>c k*v k j) s)=cX (fun k=>c k*eJ n (iI m r (v k))) s
 |0=>MW h
 |s+1=>by
  have h1:=ml (c s) n r m h (fun j=>cX (fun k=>c k*v k j) s) (v s);rw[Br h c v s]at h1;exact h1
theorem LB{n b:Nat}(hb:b<n)(QA:a<b)(he:∀j,j<n->m a j=m b j):eJ n m=0:=by
 obtain⟨b,rfl⟩:∃k,b=k+1:=⟨b-1,by omega⟩
 cases a with
 |zero=>exact mm b n m hb he
 |succ a=>
  have h1:=EY (m:=m) (k:=a) (n:=n) (by omega);rw[mm b n _ hb fun j hj=>?_]at h1
  ·grind
  ·rw[show mM 0 (a+1) 0=a+1 by unfold mM;rw[if_pos rfl],show mM 0 (a+1) (b+1)=b+1 by unfold mM;rw[aK (by omega),aK (by omega)]];exact he j hj
theorem He{n b:Nat}(ha:a<n)(hb:b<n)(QA:a≠b)(he:∀j,j<n->m a j=m b j):eJ n m=0:=by
 rcases Nat.lt_or_gt_of_ne QA with h|h
 ·exact LB hb h he
 ·exact LB ha h fun j hj=>(he j hj).symm
section
variable{E Z:Mx}{p:Nat->Nat}{r n:Nat}{v:Nat->Rat}
theorem Ru.coeff(h:Ru E p r n)(hv:eX E r n v):∀t,t<n->v t=cX (fun i=>v (p i)*E i t) r:=by
 obtain⟨c,hc⟩:=hv;intro t ht;rw[hc t ht];refine cN fun i hi=>?_;rw[hc (p i) (h.lt i hi),eV hi fun k hk OZ=>by rw[h.unit i k hi hk,aK OZ,bB],h.unit i i hi hi,if_pos rfl,Rat.mul_one]
def wK(Z:Mx)(p:Nat->Nat)(r:Nat):Rat:=eJ r fun j i=>Z (r-1-i) (p (r-1-j))
theorem aCr(h:Ru E p r n)(hZ:∀i,i<r->eX E r n (Z i)){k t:Nat}(hk:k<r)(ht:t<n):
  wK Z p r*E k t=eJ r (iI (fun j i=>Z (r-1-i) (p (r-1-j))) (r-1-k) fun i=>Z (r-1-i) t):=by
 have e:∀i j,i<r->j<r->iI (fun j i=>Z (r-1-i) (p (r-1-j))) (r-1-k) (fun i=>Z (r-1-i) t) i j=iI (fun j i=>Z (r-1-i) (p (r-1-j))) (r-1-k) (fun i=>cX (fun j=>E j t*Z (r-1-i) (p j)) r) i j:=fun i j hi hj=>by
  unfold iI;split
  ·show Z (r-1-j) t=cX (fun l=>E l t*Z (r-1-j) (p l)) r;rw[h.coeff (hZ (r-1-j) (by omega)) t ht];exact cN fun l _=>bl _ _
  ·rfl
 rw[fG e,Br (v:=fun k i=>Z (r-1-i) (p k)) (by omega),eV hk fun j hj OZ=>?_]
 ·rw[show iI (fun j i=>Z (r-1-i) (p (r-1-j))) (r-1-k) (fun i=>Z (r-1-i) (p k))=fun j i=>Z (r-1-i) (p (r-1-j))from ?_]
  ·rw[wK,bl]
  ·funext i j
   unfold iI;split
   ·rename_i hi;rw[hi,show r-1-(r-1-k)=k by omega]
   ·rfl
 ·rw[He (a:=r-1-k) (b:=r-1-j) (by omega) (by omega) (by omega) fun i hi=>?_,bB];unfold iI;rw[if_pos rfl,aK (by omega)];show Z (r-1-i) (p j)=Z (r-1-i) (p (r-1-(r-1-j)));rw[show r-1-(r-1-j)=j by omega]
theorem aCs(h:Ru E p r n)(hZ:∀i,i<r->eX E r n (Z i)){t:Nat}(ht:t<n):
  eJ (r+1) (fun j i=>if j=0 then Z (r-i) t else Z (r-i) (p (r-j)))=nP E p r (Z r) n t*wK Z p r:=by
 obtain⟨m,hm⟩:∃m:Mx,m=fun j i=>if j=0 then Z (r-i) t else Z (r-i) (p (r-j)):=⟨_,rfl⟩
 obtain⟨w,hw⟩:∃w:Nat->Rat,w=fun i=>if i=0 then nP E p r (Z r) n t else 0:=⟨_,rfl⟩
 rw[<-hm];have OX:∀j,j<r->∀i,m (r-j) i=Z (r-i) (p j):=fun j hj i=>by rw[hm];simp only;rw[aK (by omega),show r-(r-j)=j by omega]
 have e:∀i j,i<r+1->j<r+1->m i j=iI m 0 (fun i=>w i+1*cX (fun j=>E j t*m (r-j) i) r) i j:=fun i j hi hj=>by
  unfold iI;split
  ·rename_i h0;subst h0;show m 0 j=w j+1*cX (fun l=>E l t*m (r-l) j) r;rw[cN (g:=fun l=>E l t*Z (r-j) (p l)) fun l hl=>by rw[OX l hl],bf,hw];simp only
   by_cases hj0:j=0
   ·rw[if_pos hj0,hj0,hm];simp only[if_pos,Nat.sub_zero]
    unfold nP;rw[cN (f:=fun i=>if p i<n then Z r (p i)*E i t else 0) (g:=fun i=>E i t*Z r (p i)) fun l hl=>by rw[if_pos (h.lt l hl),bl]];grind
   ·rw[aK hj0,Rat.zero_add,hm];simp only[if_pos]
    rw[h.coeff (hZ (r-j) (by omega)) t ht];exact cN fun l _=>bl _ _
  ·rfl
 rw[fG e,ml 1 (r+1) 0 m (by omega),Br (v:=fun k i=>m (r-k) i) (by omega),cN (g:=fun _=>0) fun j hj=>?_,dW,bB,bN]
 ·rw[eJ,eV (i:=0) (by omega) fun k hk OZ=>?_]
  ·unfold iI;rw[if_pos rfl,hw];simp only[if_pos]
   rw[show lX 0=1 by decide,bf,wK,fG fun i j hi hj=>?_];rw[aK (by omega),hm];simp only
   rw[aK (by omega),show skip 0 j=j+1 by unfold skip;rw[aK (by omega)],show r-(j+1)=r-1-j by omega,show r-(i+1)=r-1-i by omega]
  ·unfold iI;rw[if_pos rfl,hw];simp only
   rw[aK OZ,bC,bB]
 ·rw[He (a:=0) (b:=r-j) (by omega) (by omega) (by omega) fun i _=>?_,bB];unfold iI;rw[if_pos rfl,aK (by omega)]
theorem aBe(d:Rat)(k t:Nat):nP E p r (fun t=>d*v t) k t=d*nP E p r v k t:=by
 unfold nP;rw[cN (g:=fun i=>d*if p i<k then v (p i)*E i t else 0) fun i _=>?_,eU]
 ·grind
 ·split
  ·rw[Rat.mul_assoc]
  ·rw[bB]
theorem aBf(h:Ru E p r n)(hx:eX E r n fun t=>v t+ -(x t))(h0:∀i,i<r->x (p i)=0){t:Nat}(ht:t<n):x t=nP E p r v n t:=by
 have h1:=h.coeff hx t ht;unfold nP;rw[cN (g:=fun i=>v (p i)*E i t) fun i hi=>if_pos (h.lt i hi)];rw[cN (g:=fun i=>v (p i)*E i t) fun i hi=>by rw[h0 i hi];grind]at h1;grind
end
structure Bt(E:Mx)(p:Nat->Nat)(r n B:Nat)(Z:Mx):Prop where
 ru:Ru E p r n
 sp:∀i,i<r->eX E r n (Z i)
 ib:∀i t,i<r->t<n->Ib B (Z i t)
 nz:wK Z p r≠0
section
variable{E Z:Mx}{p:Nat->Nat}{r n B k:Nat}{v u:Nat->Rat}
theorem Bt.start(E Z:Mx)(p:Nat->Nat)(n B:Nat):Bt E p 0 n B Z:=
 ⟨⟨fun _ h=>(by omega),fun _ _ h=>(by omega),fun _ _ h=>(by omega),fun _ _ h=>(by omega)⟩,fun _ h=>(by omega),fun _ _ h=>(by omega),by show(1:Rat)≠0;decide⟩
theorem Bt.push(h:Bt E p r n B Z)(hd:d≠0)(hz:∀t,t<n->Ib B (d*v t))(hu:∀t,t<n->u t=nP E p r v n t)(hk:k<n)(h0:u k≠0)(hl:∀t,t<k->u t=0):
  Bt (lr E r u k) (fun i=>if i=r then k else p i) (r+1) n B fun i t=>if i=r then d*v t else Z i t:=by
 refine⟨h.ru.push hk (fun i hi=>by rw[hu _ (h.ru.lt i hi),Kv h.ru hi]) h0 hl,fun i hi=>?_,fun i t hi ht=>?_,?_⟩
 ·by_cases h1:i=r
  ·exact((E3 h0 hu h.ru.lt).mul d).congr fun t _=>by simp only[if_pos h1];rw[bl]
  ·exact((h.sp i (by omega)).trans fun j hj=>tE h0 j hj).congr fun t _=>by simp only[aK h1]
 ·by_cases h1:i=r
  ·simp only[if_pos h1];exact hz t ht
  ·simp only[aK h1];exact h.ib i t (by omega) ht
 ·have hb:=aCs (Z:=fun i t=>if i=r then d*v t else Z i t) h.ru (fun i hi=>(h.sp i hi).congr fun t _=>by simp only[aK (Nat.ne_of_lt hi)]) hk;have e1:wK (fun i t=>if i=r then d*v t else Z i t) p r=wK Z p r:=fG fun i j hi hj=>by simp only;rw[aK (by omega)]
  simp only[if_pos]at hb;rw[aBe,<-hu k hk,e1]at hb;have e2:wK (fun i t=>if i=r then d*v t else Z i t) (fun i=>if i=r then k else p i) (r+1)=d*u k*wK Z p r:=by
   rw[<-hb];refine fG fun i j hi hj=>?_;by_cases h1:i=0
   ·subst h1;simp only[if_true]
    rw[if_pos (show r+1-1-0=r by omega),show r+1-1-j=r-j by omega]
   ·simp only[aK h1]
    rw[aK (show ¬r+1-1-i=r by omega),show r+1-1-j=r-j by omega,show r+1-1-i=r-i by omega]
  rw[e2];have PM:∀{a b:Rat},a≠0->b≠0->a*b≠0:=fun ha hb e=>by
   rcases Rat.mul_eq_zero.1 e with h|h
   ·exact ha h
   ·exact hb h
  exact PM (PM hd h0) h.nz
theorem Bt.den(h:Bt E p r n B Z):Ib (fB B r) (wK Z p r):=Ib.det r fun i j hi hj=>h.ib _ _ (by omega) (h.ru.lt _ (by omega))
theorem Bt.ent(h:Bt E p r n B Z){i t:Nat}(hi:i<r)(ht:t<n):Ib (fB B r) (wK Z p r*E i t):=by
 rw[aCr h.ru h.sp hi ht];refine Ib.det r fun j l hj hl=>?_;unfold iI;split
 ·exact h.ib _ _ (by omega) ht
 ·exact h.ib _ _ (by omega) (h.ru.lt _ (by omega))
theorem Bt.OM(h:Bt E p r n B Z){i t:Nat}(hi:i<r)(ht:t<n):rl (E i t)<=ln (fB B r):=tG h.nz h.den (h.ent hi ht)
theorem Bt.nP(h:Bt E p r n B Z)(hz:∀t,t<n->Ib B (d*v t))(k:Nat){t:Nat}(ht:t<n):Ib (fB B (r+1)) (d*wK Z p r*nP E p r v k t):=by
 unfold Go.Ex.nP;rw[show ∀a b c s:Rat,a*b*(c-s)=b*(a*c)-(a*b)*s from fun a b c s=>by grind,<-eU,fB,Nat.succ_mul,Nat.add_comm];refine Ib.sub (by rw[bX B];exact h.den.mul (hz t ht)) (Ib.sum r fun i hi=>?_);split
 ·rw[show ∀a b c s:Rat,a*b*(c*s)=(a*c)*(b*s)from fun a b c s=>by grind];exact(hz _ (h.ru.lt i hi)).mul (h.ent hi ht)
 ·rw[bB];exact Ib.zero _
theorem Bt.ON(h:Bt E p r n B Z)(hB:1<=B)(hd:d≠0)(hdB:Ib B d)(hz:∀t,t<n->Ib B (d*v t))(k:Nat){t:Nat}(ht:t<n):Go.Ex.rl (Go.Ex.nP E p r v k t)<=ln (fB B (r+1)):=
 tG (fun e=>by rcases Rat.mul_eq_zero.1 e with e|e;exact hd e;exact h.nz e) ((hdB.mul h.den).mono (Kz B r)) (h.nP hz k ht)
end
def Fm(M:List (List Rat))(n B:Nat):Prop:=∀j,j<M.length->∃d:Rat,d≠0∧Ib B d∧∀t,t<n->Ib B (d*cY M j t)
end Go.Ex
