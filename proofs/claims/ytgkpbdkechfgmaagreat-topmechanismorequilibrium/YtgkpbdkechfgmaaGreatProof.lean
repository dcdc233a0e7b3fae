/- putlog/putlogtop.TopMechanismOrEquilibrium returns true for every input, and its arguments read behind the call as they read before. No condition. -/
import Derived.Test.YtgkpbdkechfgmaaGreatRows
import Derived.ProofKit
import Derived.WalkKit
import Derived.OpenShut
import Derived.ShutString
import Derived.ChangeOld
import Derived.Below
import Derived.Deep.SlicePairs
import Derived.Test.YtgkpbdkechfgmaaGreatP17
namespace Go.Proofs.YtgkpbdkechfgmaaGreat
open Go.ChangeShapes Go.WideShapes Go.ChangeAt Go.RowKit Go.Deep Go.Sx

theorem own:ownKnob Tryz.prog.godebug=none:=by kernel_rfl
theorem laidOut:laidOutB Tryz.prog=true:=by kernel_rfl

theorem EK{w:World}{a:Addr}{v:Value}(h:w.cell? a=some v):a.block<w.heap.size:=by
 apply Decidable.byContradiction;intro hn;have hb:w.heap[a.block]? =none:=Array.getElem?_eq_none (by omega);unfold World.cell? at h;rw[hb]at h
 cases h
theorem qu{α:Type}(n:Nat)(P:Nat->α->Prop)(h:∀j,j<n->∃x,P j x):∃l:List α,l.length=n∧∀(j:Nat) (x:α),l[j]? =some x->P j x:=by
 induction n with
 |zero=>exact⟨[],rfl,by simp⟩
 |succ n ih=>
  obtain⟨l,h1,h2⟩:=ih fun j hj=>h j (by omega);obtain⟨x,hx⟩:=h n (by omega);refine⟨l++[x],by simp[h1],fun j y hy=>?_⟩;rcases aS j n with hj|hj
  ·rw[aK (by omega)]at hy;exact h2 j y hy
  ·rw[aO (by omega)]at hy;have:j=n:=by
    have:=(aE.1 hy).1;simp at this;omega
   subst this;rw[h1,bK]at hy;simp at hy;rw[<-hy];exact hx
section
variable{H:Type}{enc:TypeId×Value->H}{W:World}{sp:Nat->Bool}{hd:Bool}
theorem BO{fuel:Nat}{cs:List Value}{x:DataW H×List MemPlace}(h:DataW.trod enc Tryz.prog W 0 sp hd fuel 44 cs=some x):∃v ls,cs=[v]∧Ex.dV W (fun g=>g<W.heap.size) v ls:=by
 rcases open_slice1 Tryz.underlying44 (by kernel_rfl) h with⟨rfl,_⟩|⟨a,n,c,m,k,V,D,Pl,rfl,_,TF,Rt,hm,_,Qk⟩
 ·exact⟨_,[],rfl,Ex.dV.nil _ _⟩
 ·have Ty:n<=m:=by rw[hm];split<;>omega
  obtain⟨xs,hl,hx⟩:=qu n (fun j (y:Nat)=>V j= .int .u32 (y:Int)∧y<4294967296) (fun j hj=>by
   obtain⟨y,h1,_,h3⟩:=DataW.trod_int Tryz.underlying292 (Qk j (by omega)).2;injection h1 with h1;have h3:0<=y∧y<=4294967295:=by simpa [Lit.wf,IntKind.min,IntKind.max,IntKind.signed,IntKind.bits]using h3
   exact⟨y.toNat,by rw[h1];congr 1;omega,by omega⟩)
  subst hl;refine⟨_,xs,rfl,fun y hy=>?_,by unfold maxLen at Rt;omega,some a,c,rfl,by omega,fun j y hj=>⟨a,rfl,?_⟩⟩
  ·obtain⟨j,hj,rfl⟩:=List.mem_iff_getElem.1 hy;exact(hx j _ (aA hj)).2
  ·have Sa:=(aE.1 hj).1;have h1:=(Qk j (by omega)).1;rw[(hx j y hj).1]at h1;refine⟨?_,h1⟩;have:=EK h1
   rwa [Ex.dC]at this
theorem xa{v:Value}{d:DataW H}{p:List MemPlace}(h:DataW.Trod enc Tryz.prog W 0 sp hd 46 v d p)(hc:∃cs,v= .agg cs∧cs.size=Tryz.prog.cellsOf 46):∃z,Ex.jn W (fun g=>g<W.heap.size) v z:=by
 obtain⟨fuel,hf⟩:=h;obtain⟨cs,rfl,hs⟩:=hc;have c24:Tryz.prog.cellsOf 46=2:=by kernel_rfl
 rw[c24]at hs;obtain⟨c0,c1,rfl⟩:∃c0 c1,cs= #[c0,c1]:=by
  obtain⟨l⟩:=cs
  match l,hs with
  |[c0,c1],_=>exact⟨c0,c1,rfl⟩
 have hf:DataW.trod enc Tryz.prog W 0 sp hd fuel 46 [c0,c1]=some (d,p):=hf;obtain⟨xs,k,_,_,_,QO,PA⟩:=DataW.trod_struct Tryz.underlying46 hf;have c4:Tryz.prog.cellsOf 4=1:=by kernel_rfl
 have c22:Tryz.prog.cellsOf 44=1:=by kernel_rfl
 have len2:xs.length=2:=QO
 match xs,len2 with
 |[y0,y1],_=>
  have g0:DataW.trod enc Tryz.prog W 0 sp hd k 4 (List.take (Tryz.prog.cellsOf 4) [c0,c1])=some y0:=PA 0 _ rfl;have g1:DataW.trod enc Tryz.prog W 0 sp hd k 44 (List.take (Tryz.prog.cellsOf 44) [c1])=some y1:=PA 1 _ rfl;rw[c4]at g0;rw[c22]at g1;obtain⟨b,e0,_⟩:=DataW.trod_bool Tryz.underlying4 g0;obtain⟨v,ls,e1,hl⟩:=BO g1;have e0:[c0]=[Value.bool b]:=e0;have e1:[c1]=[v]:=e1;simp only[List.cons.injEq,and_true]at e0 e1;subst e0 e1;exact⟨Ex.sg b (Ex.val ls),b,ls,⟨_,rfl,hl⟩,rfl⟩
theorem kE{α:Type}{P:World->(Nat->Prop)->List Value->α->Prop}{t e k:Nat}(hk:0<k)(hu:Tryz.prog.underlying t=some (.slice e))(hc:Tryz.prog.cellsOf e=k)(hP1:∀cs y,P W (fun g=>g<W.heap.size) cs y->∀u∈cs,u.oneCell'=true)
  (hE:∀{fuel:Nat} {cs:List Value} {x:DataW H×List MemPlace},DataW.trod enc Tryz.prog W 0 sp hd fuel e cs=some x->cs.length=k->∃y,P W (fun g=>g<W.heap.size) cs y) {fuel:Nat} {cs:List Value} {x:DataW H×List MemPlace}
  (h:DataW.trod enc Tryz.prog W 0 sp hd fuel t cs=some x):∃v xs,cs=[v]∧Ex.ed k P W (fun g=>g<W.heap.size) v xs:=by
 rcases open_slice hu h with⟨rfl,_⟩|⟨a,n,c,m,k2,D,Pl,rfl,_,TF,Rt,hm,_,Qk⟩
 ·exact⟨_,[],rfl,[],⟨by simp,by simp,by simp,none,0,rfl,Nat.le_refl _,by simp⟩,rfl,by simp,by simp⟩
 ·have Ty:n<=m:=by rw[hm];split<;>omega
  obtain⟨l,hl,hx⟩:=qu n (fun j (y:List Value×α)=>y.1.length=k∧P W (fun g=>g<W.heap.size) y.1 y.2∧∀(i:Nat) u,y.1[i]? =some u->W.cell? (a.add (j*k+i))=some u) (fun j hj=>by
   obtain⟨cs,h1,h2⟩:=Qk j (by omega);rw[hc]at h1;obtain⟨_,hlen,PC⟩:=World.cells?_some h1;obtain⟨y,hy⟩:=hE h2 hlen;refine⟨(cs,y),hlen,hy,fun i u hi=>?_⟩;have hi4:i<cs.length:=(aE.1 hi).1;have:=PC i (by omega);rw[<-Ex.GL,this]
   exact hi)
  have h4:∀cs∈l.map (·.1),cs.length=k:=fun cs hc=>by
   obtain⟨y,hy,rfl⟩:=aV.1 hc;obtain⟨j,hj⟩:=aN hy;exact(hx j y hj).1
  have PA:=Ex.wJ h4;rw[aL,hl]at PA;refine⟨_,l.map (·.2),rfl,l.map (·.1),⟨by rw[aL];unfold maxLen at *;omega,by rw[PA,aL,hl],fun u hu=>?_,some a,c,by rw[aL,hl],by rw[aL,hl];omega,fun j u hj=>⟨a,rfl,?_⟩⟩,by simp,h4,fun j cs y k1 k2=>?_⟩
  ·obtain⟨cs,hc,hu⟩:=List.mem_flatten.1 hu;obtain⟨y,hy,rfl⟩:=aV.1 hc;obtain⟨j,hj⟩:=aN hy;exact hP1 _ _ (hx j y hj).2.1 u hu
  ·have hj4:=(aE.1 hj).1;rw[PA]at hj4;have hdm:j / k*k+j % k=j:=by rw[bT];exact Nat.div_add_mod j k
   have hjn:j / k<n:=Nat.div_lt_of_lt_mul (by rw[bT];exact hj4);have WI:=cC j hk;obtain⟨y,hy⟩:∃y,l[j / k]? =some y:=⟨_,aA (by omega)⟩
   obtain⟨h5,h6,h7⟩:=hx _ y hy;obtain⟨u2,WU⟩:∃u,y.1[j % k]? =some u:=⟨_,aA (by omega)⟩
   have h8:=Ex.wK h4 (show (l.map (·.1))[j / k]? =some y.1 by rw[aM,hy];rfl) (j % k) u2 WU;rw[hdm,hj]at h8;injection h8 with h8;subst h8;have h9:=h7 _ _ WU;rw[hdm]at h9;have:=EK h9;rw[Ex.dC]at this;exact⟨this,h9⟩
  ·rw[aM]at k1 k2
   cases QA:l[j]? with
   |none=>rw[QA]at k1;cases k1
   |some y2=>
    rw[QA]at k1 k2;injection k1 with k1;injection k2 with k2;subst k1 k2;exact(hx j y2 QA).2.1
set_option maxRecDepth 100000 in
theorem Bk{fuel:Nat}{cs:List Value}{x:DataW H×List MemPlace}(h:DataW.trod enc Tryz.prog W 0 sp hd fuel 195 cs=some x)(hl:cs.length=3):∃y,Ex.IY W (fun g=>g<W.heap.size) cs y:=by
 match cs,hl with
 |[c0,c1,c2],_=>
 obtain⟨xs,k,_,_,_,QO,PA⟩:=DataW.trod_struct Tryz.underlying195 h;have eint:Tryz.prog.cellsOf 3=1:=by kernel_rfl
 have lenF:xs.length=3:=QO
 match xs,lenF with
 |[y0,y1,y2],_=>
  have g0:DataW.trod enc Tryz.prog W 0 sp hd k 3 (List.take (Tryz.prog.cellsOf 3) [c0,c1,c2])=some y0:=PA 0 _ rfl;rw[eint]at g0;have g1:DataW.trod enc Tryz.prog W 0 sp hd k 3 (List.take (Tryz.prog.cellsOf 3) (List.drop (Tryz.prog.cellsOf 3) [c0,c1,c2]))=some y1:=PA 1 _ rfl;rw[eint]at g1;have g2:DataW.trod enc Tryz.prog W 0 sp hd k 3 (List.take (Tryz.prog.cellsOf 3) (List.drop (Tryz.prog.cellsOf 3+Tryz.prog.cellsOf 3) [c0,c1,c2]))=some y2:=PA 2 _ rfl;rw[eint]at g2;obtain⟨n0,i0,_,_⟩:=DataW.trod_int Tryz.underlying3 g0;have i0:[c0]=[Value.int .i64 n0]:=i0;simp only[List.cons.injEq,and_true]at i0;subst i0;obtain⟨n1,i1,_,_⟩:=DataW.trod_int Tryz.underlying3 g1;have i1:[c1]=[Value.int .i64 n1]:=i1;simp only[List.cons.injEq,and_true]at i1;subst i1;obtain⟨n2,i2,_,_⟩:=DataW.trod_int Tryz.underlying3 g2;have i2:[c2]=[Value.int .i64 n2]:=i2;simp only[List.cons.injEq,and_true]at i2;subst i2;exact⟨(n0,n1,n2),rfl⟩
theorem qv{fuel:Nat}{cs:List Value}{x:DataW H×List MemPlace}(h:DataW.trod enc Tryz.prog W 0 sp hd fuel 22 cs=some x):∃v xs,cs=[v]∧Ex.ed 3 Ex.IY W (fun g=>g<W.heap.size) v xs:=
 kE (by decide) Tryz.underlying22 (by kernel_rfl) (fun cs y hy u hu=>by have hy:cs=_:=hy;subst hy;simp at hu;rcases hu with rfl|rfl|rfl<;>rfl) (fun h hl=>Bk h hl) h
set_option maxRecDepth 100000 in
theorem aAB{base:Nat}{v:Value}{d:DataW H}{p:List MemPlace}(hv:Value.okWide Tryz.prog W .any base 22 v)(h:DataW.Trod enc Tryz.prog W 0 sp hd 22 v d p):∃xs,Ex.ed 3 Ex.IY W (fun g=>g<W.heap.size) v xs:=by
 obtain⟨a,n,c,rfl⟩:=okWide_slice Tryz.underlying22 hv;obtain⟨fuel,hf⟩:=h;obtain⟨v,xs,e,hr⟩:=qv (cs:=[.slice a n c]) hf;simp only[List.cons.injEq,and_true]at e;rw[e];exact⟨xs,hr⟩
theorem GN{v:Value}{d:DataW H}{p:List MemPlace}(h:DataW.Trod enc Tryz.prog W 0 sp hd 48 v d p)(hc:∃cs,v= .agg cs∧cs.size=Tryz.prog.cellsOf 48):∃a b,Ex.iP W (fun g=>g<W.heap.size) v a b:=by
 obtain⟨fuel,hf⟩:=h;obtain⟨cs,rfl,hs⟩:=hc;have c26:Tryz.prog.cellsOf 48=4:=by kernel_rfl
 rw[c26]at hs;obtain⟨c0,c1,c2,c3,rfl⟩:∃c0 c1 c2 c3,cs= #[c0,c1,c2,c3]:=by
  obtain⟨l⟩:=cs
  match l,hs with
  |[c0,c1,c2,c3],_=>exact⟨c0,c1,c2,c3,rfl⟩
 have hf:DataW.trod enc Tryz.prog W 0 sp hd fuel 48 [c0,c1,c2,c3]=some (d,p):=hf;obtain⟨xs,k,_,_,_,QO,PA⟩:=DataW.trod_struct Tryz.underlying48 hf;have c24:Tryz.prog.cellsOf 46=2:=by kernel_rfl
 have len2:xs.length=2:=QO
 match xs,len2 with
 |[y0,y1],_=>
  have g0:DataW.trod enc Tryz.prog W 0 sp hd k 46 (List.take (Tryz.prog.cellsOf 46) [c0,c1,c2,c3])=some y0:=PA 0 _ rfl;have g1:DataW.trod enc Tryz.prog W 0 sp hd k 46 (List.take (Tryz.prog.cellsOf 46) [c2,c3])=some y1:=PA 1 _ rfl;rw[c24]at g0 g1;obtain⟨z0,i0⟩:=xa (v:=.agg #[c0,c1]) ⟨k,g0⟩ ⟨_,rfl,by rw[c24];rfl⟩;obtain⟨z1,i1⟩:=xa (v:=.agg #[c2,c3]) ⟨k,g1⟩ ⟨_,rfl,by rw[c24];rfl⟩;obtain⟨b0,w0,_,_,e0,_⟩:=i0.GK;obtain⟨b1,w1,_,_,e1,_⟩:=i1.GK;simp only[Value.agg.injEq,Array.mk.injEq,List.cons.injEq,and_true]at e0 e1;obtain⟨rfl,rfl⟩:=e0;obtain⟨rfl,rfl⟩:=e1;exact⟨z0,z1,_,_,_,_,rfl,i0,i1⟩
theorem pA{fuel:Nat}{cs:List Value}{x:DataW H×List MemPlace}(h:DataW.trod enc Tryz.prog W 0 sp hd fuel 48 cs=some x)(hl:cs.length=4):∃y:Int×Int,Ex.wQ W (fun g=>g<W.heap.size) cs y:=by
 match cs,hl with
 |[c0,c1,c2,c3],_=>
  obtain⟨a,b,hr⟩:=GN (v:=.agg #[c0,c1,c2,c3]) (d:=x.1) (p:=x.2) ⟨fuel,h⟩ ⟨_,rfl,by rw[show Tryz.prog.cellsOf 48=4 by kernel_rfl];rfl⟩;obtain⟨b1,a1,n1,k1,b2,a2,n2,k2,e⟩:=hr.shape;simp only[Value.agg.injEq,Array.mk.injEq,List.cons.injEq,and_true]at e;obtain⟨rfl,rfl,rfl,rfl⟩:=e;exact⟨(a,b),b1,a1,n1,k1,b2,a2,n2,k2,rfl,hr⟩
set_option maxRecDepth 100000 in
theorem EL{fuel:Nat}{cs:List Value}{x:DataW H×List MemPlace}(h:DataW.trod enc Tryz.prog W 0 sp hd fuel 144 cs=some x)(hl:cs.length=6):∃y,Ex.uw W (fun g=>g<W.heap.size) cs y:=by
 match cs,hl with
 |[c0,c1,c2,c3,c4,c5],_=>
 obtain⟨xs,k,_,_,_,QO,PA⟩:=DataW.trod_struct Tryz.underlying144 h;have eint:Tryz.prog.cellsOf 3=1:=by kernel_rfl
 have eRat:Tryz.prog.cellsOf 48=4:=by kernel_rfl
 have lenF:xs.length=3:=QO
 match xs,lenF with
 |[y0,y1,y2],_=>
  have g0:DataW.trod enc Tryz.prog W 0 sp hd k 3 (List.take (Tryz.prog.cellsOf 3) [c0,c1,c2,c3,c4,c5])=some y0:=PA 0 _ rfl;rw[eint]at g0;have g1:DataW.trod enc Tryz.prog W 0 sp hd k 3 (List.take (Tryz.prog.cellsOf 3) (List.drop (Tryz.prog.cellsOf 3) [c0,c1,c2,c3,c4,c5]))=some y1:=PA 1 _ rfl;rw[eint]at g1;have g2:DataW.trod enc Tryz.prog W 0 sp hd k 48 (List.take (Tryz.prog.cellsOf 48) (List.drop (Tryz.prog.cellsOf 3+Tryz.prog.cellsOf 3) [c0,c1,c2,c3,c4,c5]))=some y2:=PA 2 _ rfl;rw[eRat,eint]at g2;obtain⟨n0,i0,_,_⟩:=DataW.trod_int Tryz.underlying3 g0;have i0:[c0]=[Value.int .i64 n0]:=i0;simp only[List.cons.injEq,and_true]at i0;subst i0;obtain⟨n1,i1,_,_⟩:=DataW.trod_int Tryz.underlying3 g1;have i1:[c1]=[Value.int .i64 n1]:=i1;simp only[List.cons.injEq,and_true]at i1;subst i1;obtain⟨x2,b21,a21,n21,k21,b22,a22,n22,k22,i2,h2⟩:=pA (cs:=[c2,c3,c4,c5]) g2 rfl;simp only[List.cons.injEq,and_true]at i2;obtain⟨rfl,rfl,rfl,rfl⟩:=i2;exact⟨(n0,n1,x2),_,_,_,_,_,_,_,_,rfl,h2⟩
theorem sL{fuel:Nat}{cs:List Value}{x:DataW H×List MemPlace}(h:DataW.trod enc Tryz.prog W 0 sp hd fuel 23 cs=some x):∃v xs,cs=[v]∧Ex.ed 6 Ex.uw W (fun g=>g<W.heap.size) v xs:=
 kE (by decide) Tryz.underlying23 (by kernel_rfl) (fun cs y hy u hu=>by obtain⟨_,_,_,_,_,_,_,_,rfl,_⟩:=hy;simp at hu;rcases hu with rfl|rfl|rfl|rfl|rfl|rfl<;>rfl) (fun h hl=>EL h hl) h
set_option maxRecDepth 100000 in
theorem aAC{base:Nat}{v:Value}{d:DataW H}{p:List MemPlace}(hv:Value.okWide Tryz.prog W .any base 23 v)(h:DataW.Trod enc Tryz.prog W 0 sp hd 23 v d p):∃xs,Ex.ed 6 Ex.uw W (fun g=>g<W.heap.size) v xs:=by
 obtain⟨a,n,c,rfl⟩:=okWide_slice Tryz.underlying23 hv;obtain⟨fuel,hf⟩:=h;obtain⟨v,xs,e,hr⟩:=sL (cs:=[.slice a n c]) hf;simp only[List.cons.injEq,and_true]at e;rw[e];exact⟨xs,hr⟩
set_option maxRecDepth 100000 in
theorem wX{fuel:Nat}{cs:List Value}{x:DataW H×List MemPlace}(h:DataW.trod enc Tryz.prog W 0 sp hd fuel 146 cs=some x)(hl:cs.length=6):∃y,Ex.uw W (fun g=>g<W.heap.size) cs y:=by
 match cs,hl with
 |[c0,c1,c2,c3,c4,c5],_=>
 obtain⟨xs,k,_,_,_,QO,PA⟩:=DataW.trod_struct Tryz.underlying146 h;have eint:Tryz.prog.cellsOf 3=1:=by kernel_rfl
 have eRat:Tryz.prog.cellsOf 48=4:=by kernel_rfl
 have lenF:xs.length=3:=QO
 match xs,lenF with
 |[y0,y1,y2],_=>
  have g0:DataW.trod enc Tryz.prog W 0 sp hd k 3 (List.take (Tryz.prog.cellsOf 3) [c0,c1,c2,c3,c4,c5])=some y0:=PA 0 _ rfl;rw[eint]at g0;have g1:DataW.trod enc Tryz.prog W 0 sp hd k 3 (List.take (Tryz.prog.cellsOf 3) (List.drop (Tryz.prog.cellsOf 3) [c0,c1,c2,c3,c4,c5]))=some y1:=PA 1 _ rfl;rw[eint]at g1;have g2:DataW.trod enc Tryz.prog W 0 sp hd k 48 (List.take (Tryz.prog.cellsOf 48) (List.drop (Tryz.prog.cellsOf 3+Tryz.prog.cellsOf 3) [c0,c1,c2,c3,c4,c5]))=some y2:=PA 2 _ rfl;rw[eRat,eint]at g2;obtain⟨n0,i0,_,_⟩:=DataW.trod_int Tryz.underlying3 g0;have i0:[c0]=[Value.int .i64 n0]:=i0;simp only[List.cons.injEq,and_true]at i0;subst i0;obtain⟨n1,i1,_,_⟩:=DataW.trod_int Tryz.underlying3 g1;have i1:[c1]=[Value.int .i64 n1]:=i1;simp only[List.cons.injEq,and_true]at i1;subst i1;obtain⟨x2,b21,a21,n21,k21,b22,a22,n22,k22,i2,h2⟩:=pA (cs:=[c2,c3,c4,c5]) g2 rfl;simp only[List.cons.injEq,and_true]at i2;obtain⟨rfl,rfl,rfl,rfl⟩:=i2;exact⟨(n0,n1,x2),_,_,_,_,_,_,_,_,rfl,h2⟩
theorem mj{fuel:Nat}{cs:List Value}{x:DataW H×List MemPlace}(h:DataW.trod enc Tryz.prog W 0 sp hd fuel 24 cs=some x):∃v xs,cs=[v]∧Ex.ed 6 Ex.uw W (fun g=>g<W.heap.size) v xs:=
 kE (by decide) Tryz.underlying24 (by kernel_rfl) (fun cs y hy u hu=>by obtain⟨_,_,_,_,_,_,_,_,rfl,_⟩:=hy;simp at hu;rcases hu with rfl|rfl|rfl|rfl|rfl|rfl<;>rfl) (fun h hl=>wX h hl) h
set_option maxRecDepth 100000 in
theorem aAA{base:Nat}{v:Value}{d:DataW H}{p:List MemPlace}(hv:Value.okWide Tryz.prog W .any base 24 v)(h:DataW.Trod enc Tryz.prog W 0 sp hd 24 v d p):∃xs,Ex.ed 6 Ex.uw W (fun g=>g<W.heap.size) v xs:=by
 obtain⟨a,n,c,rfl⟩:=okWide_slice Tryz.underlying24 hv;obtain⟨fuel,hf⟩:=h;obtain⟨v,xs,e,hr⟩:=mj (cs:=[.slice a n c]) hf;simp only[List.cons.injEq,and_true]at e;rw[e];exact⟨xs,hr⟩
set_option maxRecDepth 100000 in
theorem BP{fuel:Nat}{cs:List Value}{x:DataW H×List MemPlace}(h:DataW.trod enc Tryz.prog W 0 sp hd fuel 26 cs=some x)(hl:cs.length=3):∃vn vb vs f,cs=[vn,vb,vs]∧Ex.qk W (fun g=>g<W.heap.size) vn vb vs f:=by
 match cs,hl with
 |[c0,c1,c2],_=>
 obtain⟨xs,k,_,_,_,QO,PA⟩:=DataW.trod_struct Tryz.underlying26 h;have eLNode:Tryz.prog.cellsOf 22=1:=by kernel_rfl
 have eLBar:Tryz.prog.cellsOf 23=1:=by kernel_rfl
 have eLSupport:Tryz.prog.cellsOf 24=1:=by kernel_rfl
 have lenF:xs.length=3:=QO
 match xs,lenF with
 |[y0,y1,y2],_=>
  have g0:DataW.trod enc Tryz.prog W 0 sp hd k 22 (List.take (Tryz.prog.cellsOf 22) [c0,c1,c2])=some y0:=PA 0 _ rfl;rw[eLNode]at g0;have g1:DataW.trod enc Tryz.prog W 0 sp hd k 23 (List.take (Tryz.prog.cellsOf 23) (List.drop (Tryz.prog.cellsOf 22) [c0,c1,c2]))=some y1:=PA 1 _ rfl;rw[eLBar,eLNode]at g1;have g2:DataW.trod enc Tryz.prog W 0 sp hd k 24 (List.take (Tryz.prog.cellsOf 24) (List.drop (Tryz.prog.cellsOf 22+Tryz.prog.cellsOf 23) [c0,c1,c2]))=some y2:=PA 2 _ rfl;rw[eLSupport,eLNode,eLBar]at g2;obtain⟨v0,x0,i0,h0⟩:=qv (cs:=[c0]) g0;simp only[List.cons.injEq,and_true]at i0;subst i0;obtain⟨v1,x1,i1,h1⟩:=sL (cs:=[c1]) g1;simp only[List.cons.injEq,and_true]at i1;subst i1;obtain⟨v2,x2,i2,h2⟩:=mj (cs:=[c2]) g2;simp only[List.cons.injEq,and_true]at i2;subst i2;exact⟨_,_,_,⟨x0,x1,x2⟩,rfl,h0,h1,h2⟩
theorem Bm{v:Value}{d:DataW H}{p:List MemPlace}(h:DataW.Trod enc Tryz.prog W 0 sp hd 26 v d p)(hc:∃cs,v= .agg cs∧cs.size=Tryz.prog.cellsOf 26):∃vn vb vs f,v= .agg #[vn,vb,vs]∧Ex.qk W (fun g=>g<W.heap.size) vn vb vs f:=by
 obtain⟨fuel,hf⟩:=h;obtain⟨cs,rfl,hs⟩:=hc;have eT:Tryz.prog.cellsOf 26=3:=by kernel_rfl
 rw[eT]at hs;obtain⟨vn,vb,vs,f,e,hr⟩:=BP (cs:=cs.toList) hf (by simpa using hs);exact⟨vn,vb,vs,f,by rw[<-Array.toArray_toList (xs:=cs),e],hr⟩
set_option maxRecDepth 100000 in
theorem Bn{fuel:Nat}{cs:List Value}{x:DataW H×List MemPlace}(h:DataW.trod enc Tryz.prog W 0 sp hd fuel 141 cs=some x)(hl:cs.length=4):∃y,Ex.I0 W (fun g=>g<W.heap.size) cs y:=by
 match cs,hl with
 |[c0,c1,c2,c3],_=>
 obtain⟨xs,k,_,_,_,QO,PA⟩:=DataW.trod_struct Tryz.underlying141 h;have eint:Tryz.prog.cellsOf 3=1:=by kernel_rfl
 have lenF:xs.length=4:=QO
 match xs,lenF with
 |[y0,y1,y2,y3],_=>
  have g0:DataW.trod enc Tryz.prog W 0 sp hd k 3 (List.take (Tryz.prog.cellsOf 3) [c0,c1,c2,c3])=some y0:=PA 0 _ rfl;rw[eint]at g0;have g1:DataW.trod enc Tryz.prog W 0 sp hd k 3 (List.take (Tryz.prog.cellsOf 3) (List.drop (Tryz.prog.cellsOf 3) [c0,c1,c2,c3]))=some y1:=PA 1 _ rfl;rw[eint]at g1;have g2:DataW.trod enc Tryz.prog W 0 sp hd k 3 (List.take (Tryz.prog.cellsOf 3) (List.drop (Tryz.prog.cellsOf 3+Tryz.prog.cellsOf 3) [c0,c1,c2,c3]))=some y2:=PA 2 _ rfl;rw[eint]at g2;have g3:DataW.trod enc Tryz.prog W 0 sp hd k 3 (List.take (Tryz.prog.cellsOf 3) (List.drop (Tryz.prog.cellsOf 3+Tryz.prog.cellsOf 3+Tryz.prog.cellsOf 3) [c0,c1,c2,c3]))=some y3:=PA 3 _ rfl;rw[eint]at g3;obtain⟨n0,i0,_,_⟩:=DataW.trod_int Tryz.underlying3 g0;have i0:[c0]=[Value.int .i64 n0]:=i0;simp only[List.cons.injEq,and_true]at i0;subst i0;obtain⟨n1,i1,_,_⟩:=DataW.trod_int Tryz.underlying3 g1;have i1:[c1]=[Value.int .i64 n1]:=i1;simp only[List.cons.injEq,and_true]at i1;subst i1;obtain⟨n2,i2,_,_⟩:=DataW.trod_int Tryz.underlying3 g2;have i2:[c2]=[Value.int .i64 n2]:=i2;simp only[List.cons.injEq,and_true]at i2;subst i2;obtain⟨n3,i3,_,_⟩:=DataW.trod_int Tryz.underlying3 g3;have i3:[c3]=[Value.int .i64 n3]:=i3;simp only[List.cons.injEq,and_true]at i3;subst i3;exact⟨(n0,n1,n2,n3),rfl⟩
theorem BQ{fuel:Nat}{cs:List Value}{x:DataW H×List MemPlace}(h:DataW.trod enc Tryz.prog W 0 sp hd fuel 30 cs=some x):∃v xs,cs=[v]∧Ex.ed 4 Ex.I0 W (fun g=>g<W.heap.size) v xs:=
 kE (by decide) Tryz.underlying30 (by kernel_rfl) (fun cs y hy u hu=>by have hy:cs=_:=hy;subst hy;simp at hu;rcases hu with rfl|rfl|rfl|rfl<;>rfl) (fun h hl=>Bn h hl) h
set_option maxRecDepth 100000 in
theorem Bo{base:Nat}{v:Value}{d:DataW H}{p:List MemPlace}(hv:Value.okWide Tryz.prog W .any base 30 v)(h:DataW.Trod enc Tryz.prog W 0 sp hd 30 v d p):∃xs,Ex.ed 4 Ex.I0 W (fun g=>g<W.heap.size) v xs:=by
 obtain⟨a,n,c,rfl⟩:=okWide_slice Tryz.underlying30 hv;obtain⟨fuel,hf⟩:=h;obtain⟨v,xs,e,hr⟩:=BQ (cs:=[.slice a n c]) hf;simp only[List.cons.injEq,and_true]at e;rw[e];exact⟨xs,hr⟩
theorem Bp{fuel:Nat}{cs:List Value}{x:DataW H×List MemPlace}(h:DataW.trod enc Tryz.prog W 0 sp hd fuel 40 cs=some x):∃v xs,cs=[v]∧Ex.eP W (fun g=>g<W.heap.size) v xs:=by
 have c26:Tryz.prog.cellsOf 48=4:=by kernel_rfl
 rcases open_slice Tryz.underlying40 h with⟨rfl,_⟩|⟨a,n,c,m,k,D,Pl,rfl,_,TF,Rt,hm,_,Qk⟩
 ·exact⟨_,[],rfl,[],⟨by simp,by simp,by simp,none,0,rfl,Nat.le_refl _,by simp⟩,rfl,by simp,by simp⟩
 ·have Ty:n<=m:=by rw[hm];split<;>omega
  obtain⟨l,hl,hx⟩:=qu n (fun j (y:List Value×(Int×Int))=>y.1.length=4∧Ex.wQ W (fun g=>g<W.heap.size) y.1 y.2∧∀(i:Nat) u,y.1[i]? =some u->W.cell? (a.add (j*4+i))=some u) (fun j hj=>by
   obtain⟨cs,h1,h2⟩:=Qk j (by omega);rw[c26]at h1;obtain⟨_,hlen,PC⟩:=World.cells?_some h1;obtain⟨y,hy⟩:=pA h2 hlen;refine⟨(cs,y),hlen,hy,fun i u hi=>?_⟩;have hi4:i<cs.length:=(aE.1 hi).1;have:=PC i (by omega);rw[<-Ex.GL,this]
   exact hi)
  have h4:∀cs∈l.map (·.1),cs.length=4:=fun cs hc=>by
   obtain⟨y,hy,rfl⟩:=aV.1 hc;obtain⟨j,hj⟩:=aN hy;exact(hx j y hj).1
  have PA:=Ex.ei h4;rw[aL,hl]at PA;refine⟨_,l.map (·.2),rfl,l.map (·.1),⟨by rw[aL];unfold maxLen at *;omega,by rw[PA,aL,hl],fun u hu=>?_,some a,c,by rw[aL,hl],by rw[aL,hl];omega,fun j u hj=>⟨a,rfl,?_⟩⟩,by simp,h4,fun j cs y k1 k2=>?_⟩
  ·obtain⟨cs,hc,hu⟩:=List.mem_flatten.1 hu;obtain⟨y,hy,rfl⟩:=aV.1 hc;obtain⟨j,hj⟩:=aN hy;obtain⟨_,⟨b1,a1,n1,k1,b2,a2,n2,k2,e,_⟩,_⟩:=hx j y hj;rw[e]at hu;simp at hu;rcases hu with rfl|rfl|rfl|rfl<;>rfl
  ·have hj4:=(aE.1 hj).1;obtain⟨y,hy⟩:∃y,l[j / 4]? =some y:=⟨_,aA (by omega)⟩
   obtain⟨h5,h6,h7⟩:=hx _ y hy;obtain⟨u2,WU⟩:∃u,y.1[j % 4]? =some u:=⟨_,aA (by omega)⟩
   have h8:=Ex.flat_get h4 (show (l.map (·.1))[j / 4]? =some y.1 by rw[aM,hy];rfl) (j % 4) u2 WU;rw[show j / 4*4+j % 4=j by omega,hj]at h8;injection h8 with h8;subst h8;have h9:=h7 _ _ WU;rw[show j / 4*4+j % 4=j by omega]at h9;have:=EK h9;rw[Ex.dC]at this;exact⟨this,h9⟩
  ·rw[aM]at k1 k2
   cases QA:l[j]? with
   |none=>rw[QA]at k1;cases k1
   |some y2=>
    rw[QA]at k1 k2;injection k1 with k1;injection k2 with k2;subst k1 k2;exact(hx j y2 QA).2.1
set_option maxRecDepth 100000 in
theorem EM{base:Nat}{v:Value}{d:DataW H}{p:List MemPlace}(hv:Value.okWide Tryz.prog W .any base 40 v)(h:DataW.Trod enc Tryz.prog W 0 sp hd 40 v d p):∃xs,Ex.eP W (fun g=>g<W.heap.size) v xs:=by
 obtain⟨a,n,c,rfl⟩:=okWide_slice Tryz.underlying40 hv;obtain⟨fuel,hf⟩:=h;obtain⟨v,xs,e,hr⟩:=Bp (cs:=[.slice a n c]) hf;simp only[List.cons.injEq,and_true]at e;rw[e];exact⟨xs,hr⟩
end

set_option maxRecDepth 100000 in
theorem lifted(os:Os)(started:os.Started)(H:Type)(enc:TypeId×Value->H):
  ReturnsInHanded {} Tryz.checked os 10 .any (Rows.topMechanismOrEquilibriumSpec.pre6 enc Tryz.prog Tryz.f10 Rows.topMechanismOrEquilibriumRow.domain false) (Rows.topMechanismOrEquilibriumSpec.post enc Tryz.prog Tryz.f10 false true false false):=by
 refine returnsInHanded_of_change (C:=Tryz.checked) own started (by kernel_rfl) Tryz.func10
  (ChangeSpec.witness6 (enc:=enc) (C:=Tryz.checked) false ⟨#[],#[.agg #[.slice none 0 0,.slice none 0 0,.slice none 0 0],.slice none 0 0,.slice none 0 0],[]⟩ 8 (by kernel_rfl) (by kernel_rfl) (by kernel_rfl) (by kernel_rfl)) ?_
 intro W base args ds gs before Xd hW hcnd _;have Uh:∀(j:Nat) t v,Tryz.f10.params[j]? =some t->args[j]? =some v->Value.okWide Tryz.prog W .any base t v:=Xd;have hW':=hW;obtain⟨p,q,hA0,hV,rfl,hfz,hnd⟩:=hW;have hA:DataW.TrodAll enc Tryz.prog W 0 (fun _=>true) true Tryz.f10.params.toList args.toList ds p:=hA0;rw[Tryz.params10]at hA Uh;obtain⟨v0,vs0_,d0,ds0,p0,q0,SX,rfl,rfl,h0,r0⟩:=trodAll_cons hA;obtain⟨v1,vs1_,d1,ds1,p1,q1,rfl,rfl,rfl,h1,r1⟩:=trodAll_cons r0;obtain⟨v2,vs2_,d2,ds2,p2,q2,rfl,rfl,rfl,h2,r2⟩:=trodAll_cons r1;obtain⟨rfl,rfl,rfl⟩:=trodAll_nil r2;obtain rfl:args= #[v0,v1,v2]:=by cases args;simp_all
 obtain⟨rfl,rfl⟩:=trodVars_none hV;have k0:=h0;have k1:=h1;have k2:=h2;have lt0:∀x∈p0,x.block<W.heap.size:=by obtain⟨m,hm⟩:=k0;exact DataW.trod_lt m _ _ _ hm
 have lt1:∀x∈p1,x.block<W.heap.size:=by obtain⟨m,hm⟩:=k1;exact DataW.trod_lt m _ _ _ hm
 have lt2:∀x∈p2,x.block<W.heap.size:=by obtain⟨m,hm⟩:=k2;exact DataW.trod_lt m _ _ _ hm
 obtain⟨vn0,vb0,vs0,f0,rfl,y0⟩:=Bm h0 (okWide_struct Tryz.underlying26 (Uh 0 26 v0 rfl rfl));obtain⟨M1,y1⟩:=Bo (Uh 1 30 v1 rfl rfl) h1;obtain⟨M2,y2⟩:=EM (Uh 2 40 v2 rfl rfl) h2;clear hA0 Xd;refine((Ex.topMechanism_c (S:=fun g=>g<W.heap.size) (fun _ h=>h) y0 y1 y2).2).mono fun e W' ⟨v,he,S8,hv⟩=>?_;subst he;subst hv;have cU:Below W.heap.size W W':=Ext.cU S8 (Nat.le_refl _);exact⟨_,rfl,_,_,_,[],_,[],hW',trodAll_mk1 (shut_bool Tryz.underlying4 _),(trodAll_cons_mk (Below.trod laidOut (by kernel_rfl) (aI (by kernel_rfl)) k0 cU lt0) (trodAll_cons_mk (Below.trod laidOut (by kernel_rfl) (aI (by kernel_rfl)) k1 cU lt1) (trodAll_cons_mk (Below.trod laidOut (by kernel_rfl) (aI (by kernel_rfl)) k2 cU lt2) trodAll_mk0))),rfl,cU.frame _,fun h=>by cases h⟩

theorem aBD{a b:Bool}(ha:a=true)(hb:b=true):(a&&b)=true:=by rw[ha,hb];rfl
set_option maxHeartbeats 4000000 in
set_option maxRecDepth 100000 in
theorem closed:joinedFacts Tryz.pinned.checked.prog 10 Tryz.f10 Rows.topMechanismOrEquilibriumSpec Rows.topMechanismOrEquilibriumRow=true:=by
 unfold joinedFacts
 iterate 31 refine aBD ?_ ?_
 all_goals decide +kernel
theorem aBE:Rows.topMechanismOrEquilibriumRow.holds Tryz.pinned (OpenSpec.ofChange Rows.topMechanismOrEquilibriumSpec):=
 OpenClaim.holds_of_wide 10 Tryz.f10 rfl rfl rfl rfl rfl rfl rfl ⟨rfl,rfl,rfl,rfl,rfl⟩ rfl rfl rfl rfl rfl (by kernel_rfl) Tryz.func10 closed
  (aI (by kernel_rfl)) (by unfold Func.isWrapper;first|(rw [if_pos (by decide +kernel)];kernel_rfl)|(rw [aJ (by decide +kernel)];exact⟨rfl,rfl⟩))
  (fun os started H enc _=>lifted os started H enc)

/-- The law holds for every input. -/
theorem topMechanismOrEquilibrium_holds:Rows.TopMechanismOrEquilibriumSaid:=aBE
#print axioms topMechanismOrEquilibrium_holds
end Go.Proofs.YtgkpbdkechfgmaaGreat
