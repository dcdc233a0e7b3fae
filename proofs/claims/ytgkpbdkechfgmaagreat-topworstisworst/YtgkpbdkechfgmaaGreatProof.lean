/- putlog/putlogtop.TopWorstIsWorst returns true for every input, and its arguments read behind the call as they read before. No condition. -/
import Derived.Test.YtgkpbdkechfgmaaGreatRows
import Derived.ProofKit
import Derived.WalkKit
import Derived.OpenShut
import Derived.ShutString
import Derived.ChangeOld
import Derived.Below
import Derived.Deep.SlicePairs
import Derived.Test.YtgkpbdkechfgmaaGreatP13
namespace Go.Proofs.YtgkpbdkechfgmaaGreat
open Go.ChangeShapes Go.WideShapes Go.ChangeAt Go.RowKit Go.Deep Go.Sx

theorem own:ownKnob Tryz.prog.godebug=none:=by kernel_rfl
theorem laidOut:laidOutB Tryz.prog=true:=by kernel_rfl

theorem zu{w:World}{a:Addr}{v:Value}(h:w.cell? a=some v):a.block<w.heap.size:=by
 apply Decidable.byContradiction;intro A;have hb:w.heap[a.block]? =none:=Array.getElem?_eq_none (by omega);unfold World.cell? at h;rw[hb]at h
 cases h
theorem oM{α:Type}(n:Nat)(P:Nat->α->Prop)(h:∀j,j<n->∃x,P j x):∃l:List α,l.length=n/\∀(j:Nat) (x:α),l[j]? =some x->P j x:=by
 induction n with
 |zero=>exact⟨[],rfl,by simp⟩
 |succ n ih=>
  obtain⟨l,V,I⟩:=ih fun j hj=>h j (by omega);obtain⟨x,F⟩:=h n (by omega);refine⟨l++[x],by simp[V],fun j y hy=>?_⟩;rcases aO j n with hj|hj
  ·rw[aJ (by omega)]at hy;exact I j y hy
  ·rw[aN (by omega)]at hy;have:j=n:=by
    have:=(aC.1 hy).1;simp at this;omega
   subst this;rw[V,bC]at hy;simp at hy;rw[<-hy];exact F
section
variable{H:Type}{enc:TypeId×Value->H}{Fd:World}{sp:Nat->Bool}{hd:Bool}
theorem xL{fuel:Nat}{G:List Value}{x:DataW H×List MemPlace}(h:DataW.trod enc Tryz.prog Fd 0 sp hd fuel 44 G=some x):∃v ls,G=[v]/\Ex.cR Fd (fun g=>g<Fd.heap.size) v ls:=by
 rcases open_slice1 Tryz.underlying44 (by kernel_rfl) h with⟨rfl,_⟩|⟨a,n,c,m,k,A9,Fn,Pl,rfl,_,PZ,Og,hm,_,Ol⟩
 ·exact⟨_,[],rfl,Ex.cR.nil _ _⟩
 ·have RA:n<=m:=by rw[hm];split<;>omega
  obtain⟨xs,hl,F⟩:=oM n (fun j (y:Nat)=>A9 j= .int .u32 (y:Int)/\y<4294967296) (fun j hj=>by
   obtain⟨y,V,_,K⟩:=DataW.trod_int Tryz.underlying292 (Ol j (by omega)).2;injection V with V;have K:0<=y/\y<=4294967295:=by simpa [Lit.wf,IntKind.min,IntKind.max,IntKind.signed,IntKind.bits]using K
   exact⟨y.toNat,by rw[V];congr 1;omega,by omega⟩)
  subst hl;refine⟨_,xs,rfl,fun y hy=>?_,by unfold maxLen at Og;omega,some a,c,rfl,by omega,fun j y hj=>⟨a,rfl,?_⟩⟩
  ·obtain⟨j,hj,rfl⟩:=List.mem_iff_getElem.1 hy;exact(F j _ (aA hj)).2
  ·have PY:=(aC.1 hj).1;have V:=(Ol j (by omega)).1;rw[(F j y hj).1]at V;refine⟨?_,V⟩;have:=zu V
   rwa [Ex.dP]at this
theorem tO{v:Value}{d:DataW H}{p:List MemPlace}(h:DataW.Trod enc Tryz.prog Fd 0 sp hd 46 v d p)(hc:∃G,v= .agg G/\G.size=Tryz.prog.cellsOf 46):∃z,Ex.ic Fd (fun g=>g<Fd.heap.size) v z:=by
 obtain⟨fuel,hf⟩:=h;obtain⟨G,rfl,hs⟩:=hc;have c24:Tryz.prog.cellsOf 46=2:=by kernel_rfl
 rw[c24]at hs;obtain⟨c0,c1,rfl⟩:∃c0 c1,G= #[c0,c1]:=by
  obtain⟨l⟩:=G
  match l,hs with
  |[c0,c1],_=>exact⟨c0,c1,rfl⟩
 have hf:DataW.trod enc Tryz.prog Fd 0 sp hd fuel 46 [c0,c1]=some (d,p):=hf;obtain⟨xs,k,_,_,_,Mo,LN⟩:=DataW.trod_struct Tryz.underlying46 hf;have c4:Tryz.prog.cellsOf 4=1:=by kernel_rfl
 have c22:Tryz.prog.cellsOf 44=1:=by kernel_rfl
 have len2:xs.length=2:=Mo
 match xs,len2 with
 |[y0,y1],_=>
  have g0:DataW.trod enc Tryz.prog Fd 0 sp hd k 4 (List.take (Tryz.prog.cellsOf 4) [c0,c1])=some y0:=LN 0 _ rfl;have g1:DataW.trod enc Tryz.prog Fd 0 sp hd k 44 (List.take (Tryz.prog.cellsOf 44) [c1])=some y1:=LN 1 _ rfl;rw[c4]at g0;rw[c22]at g1;obtain⟨b,e0,_⟩:=DataW.trod_bool Tryz.underlying4 g0;obtain⟨v,ls,e1,hl⟩:=xL g1;have e0:[c0]=[Value.bool b]:=e0;have e1:[c1]=[v]:=e1;simp only[List.cons.injEq,and_true]at e0 e1;subst e0 e1;exact⟨Ex.sg b (Ex.val ls),b,ls,⟨_,rfl,hl⟩,rfl⟩
theorem iw{α:Type}{P:World->(Nat->Prop)->List Value->α->Prop}{t e k:Nat}(W:0<k)(hu:Tryz.prog.underlying t=some (.slice e))(hc:Tryz.prog.cellsOf e=k)(hP1:∀G y,P Fd (fun g=>g<Fd.heap.size) G y->∀u∈G,u.oneCell'=true)
  (hE:∀{fuel:Nat} {G:List Value} {x:DataW H×List MemPlace},DataW.trod enc Tryz.prog Fd 0 sp hd fuel e G=some x->G.length=k->∃y,P Fd (fun g=>g<Fd.heap.size) G y) {fuel:Nat} {G:List Value} {x:DataW H×List MemPlace}
  (h:DataW.trod enc Tryz.prog Fd 0 sp hd fuel t G=some x):∃v xs,G=[v]/\Ex.dT k P Fd (fun g=>g<Fd.heap.size) v xs:=by
 rcases open_slice hu h with⟨rfl,_⟩|⟨a,n,c,m,k2,Fn,Pl,rfl,_,PZ,Og,hm,_,Ol⟩
 ·exact⟨_,[],rfl,[],⟨by simp,by simp,by simp,none,0,rfl,aE _,by simp⟩,rfl,by simp,by simp⟩
 ·have RA:n<=m:=by rw[hm];split<;>omega
  obtain⟨l,hl,F⟩:=oM n (fun j (y:List Value×α)=>y.1.length=k/\P Fd (fun g=>g<Fd.heap.size) y.1 y.2/\∀(i:Nat) u,y.1[i]? =some u->Fd.cell? (a.add (j*k+i))=some u) (fun j hj=>by
   obtain⟨G,V,I⟩:=Ol j (by omega);rw[hc]at V;obtain⟨_,hlen,La⟩:=World.cells?_some V;obtain⟨y,hy⟩:=hE I hlen;refine⟨(G,y),hlen,hy,fun i u N=>?_⟩;have hi4:i<G.length:=(aC.1 N).1;have:=La i (by omega);rw[<-Ex.eW,this]
   exact N)
  have h4:∀G∈l.map (·.1),G.length=k:=fun G hc=>by
   obtain⟨y,hy,rfl⟩:=aT.1 hc;obtain⟨j,hj⟩:=aQ hy;exact(F j y hj).1
  have LN:=Ex.gj h4;rw[aK,hl]at LN;refine⟨_,l.map (·.2),rfl,l.map (·.1),⟨by rw[aK];unfold maxLen at *;omega,by rw[LN,aK,hl],fun u hu=>?_,some a,c,by rw[aK,hl],by rw[aK,hl];omega,fun j u hj=>⟨a,rfl,?_⟩⟩,by simp,h4,fun j G y k1 k2=>?_⟩
  ·obtain⟨G,hc,hu⟩:=List.mem_flatten.1 hu;obtain⟨y,hy,rfl⟩:=aT.1 hc;obtain⟨j,hj⟩:=aQ hy;exact hP1 _ _ (F j y hj).2.1 u hu
  ·have hj4:=(aC.1 hj).1;rw[LN]at hj4;have hdm:j / k*k+j % k=j:=by rw[bO];exact Nat.div_add_mod j k
   have hjn:j / k<n:=Nat.div_lt_of_lt_mul (by rw[bO];exact hj4);have Qs:=bl j W;obtain⟨y,hy⟩:∃y,l[j / k]? =some y:=⟨_,aA (by omega)⟩
   obtain⟨h5,h6,h7⟩:=F _ y hy;obtain⟨u2,hu2⟩:∃u,y.1[j % k]? =some u:=⟨_,aA (by omega)⟩
   have h8:=Ex.od h4 (show (l.map (·.1))[j / k]? =some y.1 by rw[aM,hy];rfl) (j % k) u2 hu2;rw[hdm,hj]at h8;injection h8 with h8;subst h8;have h9:=h7 _ _ hu2;rw[hdm]at h9;have:=zu h9;rw[Ex.dP]at this;exact⟨this,h9⟩
  ·rw[aM]at k1 k2
   cases MP:l[j]? with
   |none=>rw[MP]at k1;cases k1
   |some y2=>
    rw[MP]at k1 k2;injection k1 with k1;injection k2 with k2;subst k1 k2;exact(F j y2 MP).2.1
set_option maxRecDepth 100000 in
theorem xh{fuel:Nat}{G:List Value}{x:DataW H×List MemPlace}(h:DataW.trod enc Tryz.prog Fd 0 sp hd fuel 195 G=some x)(hl:G.length=3):∃y,Ex.Df Fd (fun g=>g<Fd.heap.size) G y:=by
 match G,hl with
 |[c0,c1,c2],_=>
 obtain⟨xs,k,_,_,_,Mo,LN⟩:=DataW.trod_struct Tryz.underlying195 h;have eint:Tryz.prog.cellsOf 3=1:=by kernel_rfl
 have lenF:xs.length=3:=Mo
 match xs,lenF with
 |[y0,y1,y2],_=>
  have g0:DataW.trod enc Tryz.prog Fd 0 sp hd k 3 (List.take (Tryz.prog.cellsOf 3) [c0,c1,c2])=some y0:=LN 0 _ rfl;rw[eint]at g0;have g1:DataW.trod enc Tryz.prog Fd 0 sp hd k 3 (List.take (Tryz.prog.cellsOf 3) (List.drop (Tryz.prog.cellsOf 3) [c0,c1,c2]))=some y1:=LN 1 _ rfl;rw[eint]at g1;have g2:DataW.trod enc Tryz.prog Fd 0 sp hd k 3 (List.take (Tryz.prog.cellsOf 3) (List.drop (Tryz.prog.cellsOf 3+Tryz.prog.cellsOf 3) [c0,c1,c2]))=some y2:=LN 2 _ rfl;rw[eint]at g2;obtain⟨n0,i0,_,_⟩:=DataW.trod_int Tryz.underlying3 g0;have i0:[c0]=[Value.int .i64 n0]:=i0;simp only[List.cons.injEq,and_true]at i0;subst i0;obtain⟨n1,i1,_,_⟩:=DataW.trod_int Tryz.underlying3 g1;have i1:[c1]=[Value.int .i64 n1]:=i1;simp only[List.cons.injEq,and_true]at i1;subst i1;obtain⟨n2,i2,_,_⟩:=DataW.trod_int Tryz.underlying3 g2;have i2:[c2]=[Value.int .i64 n2]:=i2;simp only[List.cons.injEq,and_true]at i2;subst i2;exact⟨(n0,n1,n2),rfl⟩
theorem oN{fuel:Nat}{G:List Value}{x:DataW H×List MemPlace}(h:DataW.trod enc Tryz.prog Fd 0 sp hd fuel 22 G=some x):∃v xs,G=[v]/\Ex.dT 3 Ex.Df Fd (fun g=>g<Fd.heap.size) v xs:=
 iw (by decide) Tryz.underlying22 (by kernel_rfl) (fun G y hy u hu=>by have hy:G=_:=hy;subst hy;simp at hu;rcases hu with rfl|rfl|rfl<;>rfl) (fun h hl=>xh h hl) h
set_option maxRecDepth 100000 in
theorem aAB{base:Nat}{v:Value}{d:DataW H}{p:List MemPlace}(hv:Value.okWide Tryz.prog Fd .any base 22 v)(h:DataW.Trod enc Tryz.prog Fd 0 sp hd 22 v d p):∃xs,Ex.dT 3 Ex.Df Fd (fun g=>g<Fd.heap.size) v xs:=by
 obtain⟨a,n,c,rfl⟩:=okWide_slice Tryz.underlying22 hv;obtain⟨fuel,hf⟩:=h;obtain⟨v,xs,e,hr⟩:=oN (G:=[.slice a n c]) hf;simp only[List.cons.injEq,and_true]at e;rw[e];exact⟨xs,hr⟩
theorem Bb{v:Value}{d:DataW H}{p:List MemPlace}(h:DataW.Trod enc Tryz.prog Fd 0 sp hd 48 v d p)(hc:∃G,v= .agg G/\G.size=Tryz.prog.cellsOf 48):∃a b,Ex.gK Fd (fun g=>g<Fd.heap.size) v a b:=by
 obtain⟨fuel,hf⟩:=h;obtain⟨G,rfl,hs⟩:=hc;have c26:Tryz.prog.cellsOf 48=4:=by kernel_rfl
 rw[c26]at hs;obtain⟨c0,c1,c2,c3,rfl⟩:∃c0 c1 c2 c3,G= #[c0,c1,c2,c3]:=by
  obtain⟨l⟩:=G
  match l,hs with
  |[c0,c1,c2,c3],_=>exact⟨c0,c1,c2,c3,rfl⟩
 have hf:DataW.trod enc Tryz.prog Fd 0 sp hd fuel 48 [c0,c1,c2,c3]=some (d,p):=hf;obtain⟨xs,k,_,_,_,Mo,LN⟩:=DataW.trod_struct Tryz.underlying48 hf;have c24:Tryz.prog.cellsOf 46=2:=by kernel_rfl
 have len2:xs.length=2:=Mo
 match xs,len2 with
 |[y0,y1],_=>
  have g0:DataW.trod enc Tryz.prog Fd 0 sp hd k 46 (List.take (Tryz.prog.cellsOf 46) [c0,c1,c2,c3])=some y0:=LN 0 _ rfl;have g1:DataW.trod enc Tryz.prog Fd 0 sp hd k 46 (List.take (Tryz.prog.cellsOf 46) [c2,c3])=some y1:=LN 1 _ rfl;rw[c24]at g0 g1;obtain⟨z0,i0⟩:=tO (v:=.agg #[c0,c1]) ⟨k,g0⟩ ⟨_,rfl,by rw[c24];rfl⟩;obtain⟨z1,i1⟩:=tO (v:=.agg #[c2,c3]) ⟨k,g1⟩ ⟨_,rfl,by rw[c24];rfl⟩;obtain⟨b0,w0,_,_,e0,_⟩:=i0.B9;obtain⟨b1,w1,_,_,e1,_⟩:=i1.B9;simp only[Value.agg.injEq,Array.mk.injEq,List.cons.injEq,and_true]at e0 e1;obtain⟨rfl,rfl⟩:=e0;obtain⟨rfl,rfl⟩:=e1;exact⟨z0,z1,_,_,_,_,rfl,i0,i1⟩
theorem rM{fuel:Nat}{G:List Value}{x:DataW H×List MemPlace}(h:DataW.trod enc Tryz.prog Fd 0 sp hd fuel 48 G=some x)(hl:G.length=4):∃y:Int×Int,Ex.KY Fd (fun g=>g<Fd.heap.size) G y:=by
 match G,hl with
 |[c0,c1,c2,c3],_=>
  obtain⟨a,b,hr⟩:=Bb (v:=.agg #[c0,c1,c2,c3]) (d:=x.1) (p:=x.2) ⟨fuel,h⟩ ⟨_,rfl,by rw[show Tryz.prog.cellsOf 48=4 by kernel_rfl];rfl⟩;obtain⟨b1,a1,n1,k1,b2,a2,n2,k2,e⟩:=hr.shape;simp only[Value.agg.injEq,Array.mk.injEq,List.cons.injEq,and_true]at e;obtain⟨rfl,rfl,rfl,rfl⟩:=e;exact⟨(a,b),b1,a1,n1,k1,b2,a2,n2,k2,rfl,hr⟩
set_option maxRecDepth 100000 in
theorem zw{fuel:Nat}{G:List Value}{x:DataW H×List MemPlace}(h:DataW.trod enc Tryz.prog Fd 0 sp hd fuel 144 G=some x)(hl:G.length=6):∃y,Ex.rG Fd (fun g=>g<Fd.heap.size) G y:=by
 match G,hl with
 |[c0,c1,c2,c3,c4,c5],_=>
 obtain⟨xs,k,_,_,_,Mo,LN⟩:=DataW.trod_struct Tryz.underlying144 h;have eint:Tryz.prog.cellsOf 3=1:=by kernel_rfl
 have eRat:Tryz.prog.cellsOf 48=4:=by kernel_rfl
 have lenF:xs.length=3:=Mo
 match xs,lenF with
 |[y0,y1,y2],_=>
  have g0:DataW.trod enc Tryz.prog Fd 0 sp hd k 3 (List.take (Tryz.prog.cellsOf 3) [c0,c1,c2,c3,c4,c5])=some y0:=LN 0 _ rfl;rw[eint]at g0;have g1:DataW.trod enc Tryz.prog Fd 0 sp hd k 3 (List.take (Tryz.prog.cellsOf 3) (List.drop (Tryz.prog.cellsOf 3) [c0,c1,c2,c3,c4,c5]))=some y1:=LN 1 _ rfl;rw[eint]at g1;have g2:DataW.trod enc Tryz.prog Fd 0 sp hd k 48 (List.take (Tryz.prog.cellsOf 48) (List.drop (Tryz.prog.cellsOf 3+Tryz.prog.cellsOf 3) [c0,c1,c2,c3,c4,c5]))=some y2:=LN 2 _ rfl;rw[eRat,eint]at g2;obtain⟨n0,i0,_,_⟩:=DataW.trod_int Tryz.underlying3 g0;have i0:[c0]=[Value.int .i64 n0]:=i0;simp only[List.cons.injEq,and_true]at i0;subst i0;obtain⟨n1,i1,_,_⟩:=DataW.trod_int Tryz.underlying3 g1;have i1:[c1]=[Value.int .i64 n1]:=i1;simp only[List.cons.injEq,and_true]at i1;subst i1;obtain⟨x2,b21,a21,n21,k21,b22,a22,n22,k22,i2,I⟩:=rM (G:=[c2,c3,c4,c5]) g2 rfl;simp only[List.cons.injEq,and_true]at i2;obtain⟨rfl,rfl,rfl,rfl⟩:=i2;exact⟨(n0,n1,x2),_,_,_,_,_,_,_,_,rfl,I⟩
theorem pM{fuel:Nat}{G:List Value}{x:DataW H×List MemPlace}(h:DataW.trod enc Tryz.prog Fd 0 sp hd fuel 23 G=some x):∃v xs,G=[v]/\Ex.dT 6 Ex.rG Fd (fun g=>g<Fd.heap.size) v xs:=
 iw (by decide) Tryz.underlying23 (by kernel_rfl) (fun G y hy u hu=>by obtain⟨_,_,_,_,_,_,_,_,rfl,_⟩:=hy;simp at hu;rcases hu with rfl|rfl|rfl|rfl|rfl|rfl<;>rfl) (fun h hl=>zw h hl) h
set_option maxRecDepth 100000 in
theorem aAD{base:Nat}{v:Value}{d:DataW H}{p:List MemPlace}(hv:Value.okWide Tryz.prog Fd .any base 23 v)(h:DataW.Trod enc Tryz.prog Fd 0 sp hd 23 v d p):∃xs,Ex.dT 6 Ex.rG Fd (fun g=>g<Fd.heap.size) v xs:=by
 obtain⟨a,n,c,rfl⟩:=okWide_slice Tryz.underlying23 hv;obtain⟨fuel,hf⟩:=h;obtain⟨v,xs,e,hr⟩:=pM (G:=[.slice a n c]) hf;simp only[List.cons.injEq,and_true]at e;rw[e];exact⟨xs,hr⟩
set_option maxRecDepth 100000 in
theorem sZ{fuel:Nat}{G:List Value}{x:DataW H×List MemPlace}(h:DataW.trod enc Tryz.prog Fd 0 sp hd fuel 146 G=some x)(hl:G.length=6):∃y,Ex.rG Fd (fun g=>g<Fd.heap.size) G y:=by
 match G,hl with
 |[c0,c1,c2,c3,c4,c5],_=>
 obtain⟨xs,k,_,_,_,Mo,LN⟩:=DataW.trod_struct Tryz.underlying146 h;have eint:Tryz.prog.cellsOf 3=1:=by kernel_rfl
 have eRat:Tryz.prog.cellsOf 48=4:=by kernel_rfl
 have lenF:xs.length=3:=Mo
 match xs,lenF with
 |[y0,y1,y2],_=>
  have g0:DataW.trod enc Tryz.prog Fd 0 sp hd k 3 (List.take (Tryz.prog.cellsOf 3) [c0,c1,c2,c3,c4,c5])=some y0:=LN 0 _ rfl;rw[eint]at g0;have g1:DataW.trod enc Tryz.prog Fd 0 sp hd k 3 (List.take (Tryz.prog.cellsOf 3) (List.drop (Tryz.prog.cellsOf 3) [c0,c1,c2,c3,c4,c5]))=some y1:=LN 1 _ rfl;rw[eint]at g1;have g2:DataW.trod enc Tryz.prog Fd 0 sp hd k 48 (List.take (Tryz.prog.cellsOf 48) (List.drop (Tryz.prog.cellsOf 3+Tryz.prog.cellsOf 3) [c0,c1,c2,c3,c4,c5]))=some y2:=LN 2 _ rfl;rw[eRat,eint]at g2;obtain⟨n0,i0,_,_⟩:=DataW.trod_int Tryz.underlying3 g0;have i0:[c0]=[Value.int .i64 n0]:=i0;simp only[List.cons.injEq,and_true]at i0;subst i0;obtain⟨n1,i1,_,_⟩:=DataW.trod_int Tryz.underlying3 g1;have i1:[c1]=[Value.int .i64 n1]:=i1;simp only[List.cons.injEq,and_true]at i1;subst i1;obtain⟨x2,b21,a21,n21,k21,b22,a22,n22,k22,i2,I⟩:=rM (G:=[c2,c3,c4,c5]) g2 rfl;simp only[List.cons.injEq,and_true]at i2;obtain⟨rfl,rfl,rfl,rfl⟩:=i2;exact⟨(n0,n1,x2),_,_,_,_,_,_,_,_,rfl,I⟩
theorem km{fuel:Nat}{G:List Value}{x:DataW H×List MemPlace}(h:DataW.trod enc Tryz.prog Fd 0 sp hd fuel 24 G=some x):∃v xs,G=[v]/\Ex.dT 6 Ex.rG Fd (fun g=>g<Fd.heap.size) v xs:=
 iw (by decide) Tryz.underlying24 (by kernel_rfl) (fun G y hy u hu=>by obtain⟨_,_,_,_,_,_,_,_,rfl,_⟩:=hy;simp at hu;rcases hu with rfl|rfl|rfl|rfl|rfl|rfl<;>rfl) (fun h hl=>sZ h hl) h
set_option maxRecDepth 100000 in
theorem aAA{base:Nat}{v:Value}{d:DataW H}{p:List MemPlace}(hv:Value.okWide Tryz.prog Fd .any base 24 v)(h:DataW.Trod enc Tryz.prog Fd 0 sp hd 24 v d p):∃xs,Ex.dT 6 Ex.rG Fd (fun g=>g<Fd.heap.size) v xs:=by
 obtain⟨a,n,c,rfl⟩:=okWide_slice Tryz.underlying24 hv;obtain⟨fuel,hf⟩:=h;obtain⟨v,xs,e,hr⟩:=km (G:=[.slice a n c]) hf;simp only[List.cons.injEq,and_true]at e;rw[e];exact⟨xs,hr⟩
set_option maxRecDepth 100000 in
theorem xM{fuel:Nat}{G:List Value}{x:DataW H×List MemPlace}(h:DataW.trod enc Tryz.prog Fd 0 sp hd fuel 26 G=some x)(hl:G.length=3):∃vn vb vs f,G=[vn,vb,vs]/\Ex.oI Fd (fun g=>g<Fd.heap.size) vn vb vs f:=by
 match G,hl with
 |[c0,c1,c2],_=>
 obtain⟨xs,k,_,_,_,Mo,LN⟩:=DataW.trod_struct Tryz.underlying26 h;have eLNode:Tryz.prog.cellsOf 22=1:=by kernel_rfl
 have eLBar:Tryz.prog.cellsOf 23=1:=by kernel_rfl
 have eLSupport:Tryz.prog.cellsOf 24=1:=by kernel_rfl
 have lenF:xs.length=3:=Mo
 match xs,lenF with
 |[y0,y1,y2],_=>
  have g0:DataW.trod enc Tryz.prog Fd 0 sp hd k 22 (List.take (Tryz.prog.cellsOf 22) [c0,c1,c2])=some y0:=LN 0 _ rfl;rw[eLNode]at g0;have g1:DataW.trod enc Tryz.prog Fd 0 sp hd k 23 (List.take (Tryz.prog.cellsOf 23) (List.drop (Tryz.prog.cellsOf 22) [c0,c1,c2]))=some y1:=LN 1 _ rfl;rw[eLBar,eLNode]at g1;have g2:DataW.trod enc Tryz.prog Fd 0 sp hd k 24 (List.take (Tryz.prog.cellsOf 24) (List.drop (Tryz.prog.cellsOf 22+Tryz.prog.cellsOf 23) [c0,c1,c2]))=some y2:=LN 2 _ rfl;rw[eLSupport,eLNode,eLBar]at g2;obtain⟨v0,x0,i0,h0⟩:=oN (G:=[c0]) g0;simp only[List.cons.injEq,and_true]at i0;subst i0;obtain⟨v1,x1,i1,V⟩:=pM (G:=[c1]) g1;simp only[List.cons.injEq,and_true]at i1;subst i1;obtain⟨v2,x2,i2,I⟩:=km (G:=[c2]) g2;simp only[List.cons.injEq,and_true]at i2;subst i2;exact⟨_,_,_,⟨x0,x1,x2⟩,rfl,h0,V,I⟩
theorem xj{v:Value}{d:DataW H}{p:List MemPlace}(h:DataW.Trod enc Tryz.prog Fd 0 sp hd 26 v d p)(hc:∃G,v= .agg G/\G.size=Tryz.prog.cellsOf 26):∃vn vb vs f,v= .agg #[vn,vb,vs]/\Ex.oI Fd (fun g=>g<Fd.heap.size) vn vb vs f:=by
 obtain⟨fuel,hf⟩:=h;obtain⟨G,rfl,hs⟩:=hc;have eT:Tryz.prog.cellsOf 26=3:=by kernel_rfl
 rw[eT]at hs;obtain⟨vn,vb,vs,f,e,hr⟩:=xM (G:=G.toList) hf (by simpa using hs);exact⟨vn,vb,vs,f,by rw[<-Array.toArray_toList (xs:=G),e],hr⟩
set_option maxRecDepth 100000 in
theorem xk{fuel:Nat}{G:List Value}{x:DataW H×List MemPlace}(h:DataW.trod enc Tryz.prog Fd 0 sp hd fuel 141 G=some x)(hl:G.length=4):∃y,Ex.mw Fd (fun g=>g<Fd.heap.size) G y:=by
 match G,hl with
 |[c0,c1,c2,c3],_=>
 obtain⟨xs,k,_,_,_,Mo,LN⟩:=DataW.trod_struct Tryz.underlying141 h;have eint:Tryz.prog.cellsOf 3=1:=by kernel_rfl
 have lenF:xs.length=4:=Mo
 match xs,lenF with
 |[y0,y1,y2,y3],_=>
  have g0:DataW.trod enc Tryz.prog Fd 0 sp hd k 3 (List.take (Tryz.prog.cellsOf 3) [c0,c1,c2,c3])=some y0:=LN 0 _ rfl;rw[eint]at g0;have g1:DataW.trod enc Tryz.prog Fd 0 sp hd k 3 (List.take (Tryz.prog.cellsOf 3) (List.drop (Tryz.prog.cellsOf 3) [c0,c1,c2,c3]))=some y1:=LN 1 _ rfl;rw[eint]at g1;have g2:DataW.trod enc Tryz.prog Fd 0 sp hd k 3 (List.take (Tryz.prog.cellsOf 3) (List.drop (Tryz.prog.cellsOf 3+Tryz.prog.cellsOf 3) [c0,c1,c2,c3]))=some y2:=LN 2 _ rfl;rw[eint]at g2;have g3:DataW.trod enc Tryz.prog Fd 0 sp hd k 3 (List.take (Tryz.prog.cellsOf 3) (List.drop (Tryz.prog.cellsOf 3+Tryz.prog.cellsOf 3+Tryz.prog.cellsOf 3) [c0,c1,c2,c3]))=some y3:=LN 3 _ rfl;rw[eint]at g3;obtain⟨n0,i0,_,_⟩:=DataW.trod_int Tryz.underlying3 g0;have i0:[c0]=[Value.int .i64 n0]:=i0;simp only[List.cons.injEq,and_true]at i0;subst i0;obtain⟨n1,i1,_,_⟩:=DataW.trod_int Tryz.underlying3 g1;have i1:[c1]=[Value.int .i64 n1]:=i1;simp only[List.cons.injEq,and_true]at i1;subst i1;obtain⟨n2,i2,_,_⟩:=DataW.trod_int Tryz.underlying3 g2;have i2:[c2]=[Value.int .i64 n2]:=i2;simp only[List.cons.injEq,and_true]at i2;subst i2;obtain⟨n3,i3,_,_⟩:=DataW.trod_int Tryz.underlying3 g3;have i3:[c3]=[Value.int .i64 n3]:=i3;simp only[List.cons.injEq,and_true]at i3;subst i3;exact⟨(n0,n1,n2,n3),rfl⟩
theorem oO{fuel:Nat}{G:List Value}{x:DataW H×List MemPlace}(h:DataW.trod enc Tryz.prog Fd 0 sp hd fuel 30 G=some x):∃v xs,G=[v]/\Ex.dT 4 Ex.mw Fd (fun g=>g<Fd.heap.size) v xs:=
 iw (by decide) Tryz.underlying30 (by kernel_rfl) (fun G y hy u hu=>by have hy:G=_:=hy;subst hy;simp at hu;rcases hu with rfl|rfl|rfl|rfl<;>rfl) (fun h hl=>xk h hl) h
set_option maxRecDepth 100000 in
theorem aAC{base:Nat}{v:Value}{d:DataW H}{p:List MemPlace}(hv:Value.okWide Tryz.prog Fd .any base 30 v)(h:DataW.Trod enc Tryz.prog Fd 0 sp hd 30 v d p):∃xs,Ex.dT 4 Ex.mw Fd (fun g=>g<Fd.heap.size) v xs:=by
 obtain⟨a,n,c,rfl⟩:=okWide_slice Tryz.underlying30 hv;obtain⟨fuel,hf⟩:=h;obtain⟨v,xs,e,hr⟩:=oO (G:=[.slice a n c]) hf;simp only[List.cons.injEq,and_true]at e;rw[e];exact⟨xs,hr⟩
theorem tm{fuel:Nat}{G:List Value}{x:DataW H×List MemPlace}(h:DataW.trod enc Tryz.prog Fd 0 sp hd fuel 27 G=some x):∃v M,G=[v]/\Ex.gB Fd (fun g=>g<Fd.heap.size) v M:=by
 rcases open_slice1 Tryz.underlying27 (by kernel_rfl) h with⟨rfl,_⟩|⟨a,n,c,m,k,A9,Fn,Pl,rfl,_,PZ,Og,hm,_,Ol⟩
 ·exact⟨_,[],rfl,[],⟨by simp,by simp,by simp,none,0,rfl,aE _,by simp⟩,rfl,by simp⟩
 ·have RA:n<=m:=by rw[hm];split<;>omega
  obtain⟨l,hl,F⟩:=oM n (fun j (y:Value×List Ex.Ld)=>Fd.cell? (a.add j)=some y.1/\Ex.dQ Fd (fun g=>g<Fd.heap.size) y.1 y.2) (fun j hj=>by
   obtain⟨V,I⟩:=Ol j (by omega);obtain⟨v,xs,e,hr⟩:=oO I;simp only[List.cons.injEq,and_true]at e
   exact⟨(A9 j,xs),V,by rw[e];exact hr⟩)
  refine⟨_,l.map (·.2),rfl,l.map (·.1),⟨by rw[aK];unfold maxLen at *;omega,by simp,fun u hu=>?_,some a,c,by rw[aK,hl],by rw[aK,hl];omega,fun j u hj=>⟨a,rfl,?_⟩⟩,by simp,fun j u y k1 k2=>?_⟩
  ·obtain⟨y,hy,rfl⟩:=aT.1 hu;obtain⟨j,hj⟩:=aQ hy;obtain⟨_,hr⟩:=F j y hj;obtain⟨a2,c2,e,_⟩:=hr.shape;rw[e];rfl
  ·rw[aM]at hj
   cases MP:l[j]? with
   |none=>rw[MP]at hj;cases hj
   |some y2=>
    rw[MP]at hj;injection hj with hj;subst hj;have h9:=(F j y2 MP).1;have:=zu h9;rw[Ex.dP]at this;exact⟨this,h9⟩
  ·rw[aM]at k1 k2
   cases MP:l[j]? with
   |none=>rw[MP]at k1;cases k1
   |some y2=>
    rw[MP]at k1 k2;injection k1 with k1;injection k2 with k2;subst k1 k2;exact(F j y2 MP).2
set_option maxRecDepth 100000 in
theorem xN{base:Nat}{v:Value}{d:DataW H}{p:List MemPlace}(hv:Value.okWide Tryz.prog Fd .any base 27 v)(h:DataW.Trod enc Tryz.prog Fd 0 sp hd 27 v d p):∃M,Ex.gB Fd (fun g=>g<Fd.heap.size) v M:=by
 obtain⟨a,n,c,rfl⟩:=okWide_slice Tryz.underlying27 hv;obtain⟨fuel,hf⟩:=h;obtain⟨v,xs,e,hr⟩:=tm (G:=[.slice a n c]) hf;simp only[List.cons.injEq,and_true]at e;rw[e];exact⟨xs,hr⟩
end

set_option maxRecDepth 100000 in
theorem lifted(os:Os)(started:os.Started)(H:Type)(enc:TypeId×Value->H):
  ReturnsInHanded {} Tryz.checked os 3 .any (Rows.topWorstIsWorstSpec.pre6 enc Tryz.prog Tryz.f3 Rows.topWorstIsWorstRow.domain false) (Rows.topWorstIsWorstSpec.post enc Tryz.prog Tryz.f3 false true false false):=by
 refine returnsInHanded_of_change (C:=Tryz.checked) own started (by kernel_rfl) Tryz.func3
  (ChangeSpec.witness6 (enc:=enc) (C:=Tryz.checked) false ⟨#[],#[.agg #[.slice none 0 0,.slice none 0 0,.slice none 0 0],.slice none 0 0],[]⟩ 8 (by kernel_rfl) (by kernel_rfl) (by kernel_rfl) (by kernel_rfl)) ?_
 intro Fd base args ds gs before SM hW hcnd _;have hval:∀(j:Nat) t v,Tryz.f3.params[j]? =some t->args[j]? =some v->Value.okWide Tryz.prog Fd .any base t v:=SM;have hW':=hW;obtain⟨p,q,hA0,hV,rfl,hfz,hnd⟩:=hW;have hA:DataW.TrodAll enc Tryz.prog Fd 0 (fun _=>true) true Tryz.f3.params.toList args.toList ds p:=hA0;rw[Tryz.params3]at hA hval;obtain⟨v0,vs0_,d0,ds0,p0,q0,Nn,rfl,rfl,h0,r0⟩:=trodAll_cons hA;obtain⟨v1,vs1_,d1,ds1,p1,q1,rfl,rfl,rfl,V,r1⟩:=trodAll_cons r0;obtain⟨rfl,rfl,rfl⟩:=trodAll_nil r1;obtain rfl:args= #[v0,v1]:=by cases args;simp_all
 obtain⟨rfl,rfl⟩:=trodVars_none hV;have k0:=h0;have k1:=V;have lt0:∀x∈p0,x.block<Fd.heap.size:=by obtain⟨m,hm⟩:=k0;exact DataW.trod_lt m _ _ _ hm
 have lt1:∀x∈p1,x.block<Fd.heap.size:=by obtain⟨m,hm⟩:=k1;exact DataW.trod_lt m _ _ _ hm
 obtain⟨vn0,vb0,vs0,f0,rfl,y0⟩:=xj h0 (okWide_struct Tryz.underlying26 (hval 0 26 v0 rfl rfl));obtain⟨M1,y1⟩:=xN (hval 1 27 v1 rfl rfl) V;clear hA0 SM;refine((Ex.topWorst_c (S:=fun g=>g<Fd.heap.size) (fun _ h=>h) y0 y1).2).mono fun e W' ⟨v,Z,Nv,hv⟩=>?_;subst Z;subst hv;have cG:Below Fd.heap.size Fd W':=Ext.cG Nv (aE _);exact⟨_,rfl,_,_,_,[],_,[],hW',trodAll_mk1 (shut_bool Tryz.underlying4 _),(trodAll_cons_mk (Below.trod laidOut (by kernel_rfl) (aL (by kernel_rfl)) k0 cG lt0) (trodAll_cons_mk (Below.trod laidOut (by kernel_rfl) (aL (by kernel_rfl)) k1 cG lt1) trodAll_mk0)),rfl,cG.frame _,fun h=>by cases h⟩

theorem KZ{a b:Bool}(ha:a=true)(hb:b=true):(a&&b)=true:=by rw[ha,hb];rfl
set_option maxHeartbeats 4000000 in
set_option maxRecDepth 100000 in
theorem closed:joinedFacts Tryz.pinned.checked.prog 3 Tryz.f3 Rows.topWorstIsWorstSpec Rows.topWorstIsWorstRow=true:=by
 unfold joinedFacts
 iterate 31 refine KZ ?_ ?_
 all_goals decide +kernel
theorem Ka:Rows.topWorstIsWorstRow.holds Tryz.pinned (OpenSpec.ofChange Rows.topWorstIsWorstSpec):=
 OpenClaim.holds_of_wide 3 Tryz.f3 rfl rfl rfl rfl rfl rfl rfl ⟨rfl,rfl,rfl,rfl,rfl⟩ rfl rfl rfl rfl rfl (by kernel_rfl) Tryz.func3 closed
  (aL (by kernel_rfl)) (by unfold Func.isWrapper;first|(rw [if_pos (by decide +kernel)];kernel_rfl)|(rw [aF (by decide +kernel)];exact⟨rfl,rfl⟩))
  (fun os started H enc _=>lifted os started H enc)

/-- The law holds for every input. -/
theorem topWorstIsWorst_holds:Rows.TopWorstIsWorstSaid:=Ka
#print axioms topWorstIsWorst_holds
end Go.Proofs.YtgkpbdkechfgmaaGreat
