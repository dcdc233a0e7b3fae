/- putlog/putlogtop.TopLessIsStable returns true for every input, and its arguments read behind the call as they read before. No condition. -/
import Derived.Test.YtgkpbdkechfgmaaGreatRows
import Derived.ProofKit
import Derived.WalkKit
import Derived.OpenShut
import Derived.ShutString
import Derived.ChangeOld
import Derived.Below
import Derived.Deep.SlicePairs
import Derived.Test.YtgkpbdkechfgmaaGreatP16
namespace Go.Proofs.YtgkpbdkechfgmaaGreat
open Go.ChangeShapes Go.WideShapes Go.ChangeAt Go.RowKit Go.Deep Go.Sx

theorem own:ownKnob Tryz.prog.godebug=none:=by kernel_rfl
theorem laidOut:laidOutB Tryz.prog=true:=by kernel_rfl

theorem DM{w:World}{a:Addr}{v:Value}(h:w.cell? a=some v):a.block<w.heap.size:=by
 apply Decidable.byContradiction;intro Z;have hb:w.heap[a.block]? =none:=Array.getElem?_eq_none (by omega);unfold World.cell? at h;rw[hb]at h
 cases h
theorem qS{α:Type}(n:Nat)(P:Nat->α->Prop)(h:∀j,j<n->∃x,P j x):∃l:List α,l.length=n/\∀(j:Nat) (x:α),l[j]? =some x->P j x:=by
 induction n with
 |zero=>exact⟨[],rfl,by simp⟩
 |succ n ih=>
  obtain⟨l,I,X⟩:=ih fun j hj=>h j (by omega);obtain⟨x,L⟩:=h n (by omega);refine⟨l++[x],by simp[I],fun j y hy=>?_⟩;rcases aP j n with hj|hj
  ·rw[aJ (by omega)]at hy;exact X j y hy
  ·rw[aN (by omega)]at hy;have:j=n:=by
    have:=(aD.1 hy).1;simp at this;omega
   subst this;rw[I,bB]at hy;simp at hy;rw[<-hy];exact L
section
variable{H:Type}{enc:TypeId×Value->H}{E9:World}{sp:Nat->Bool}{hd:Bool}
theorem AO{fuel:Nat}{U:List Value}{x:DataW H×List MemPlace}(h:DataW.trod enc Tryz.prog E9 0 sp hd fuel 44 U=some x):∃v ls,U=[v]/\Ex.cz E9 (fun g=>g<E9.heap.size) v ls:=by
 rcases open_slice1 Tryz.underlying44 (by kernel_rfl) h with⟨rfl,_⟩|⟨a,n,c,m,k,A9,F9,Pl,rfl,_,Ti,S3,hm,_,VB⟩
 ·exact⟨_,[],rfl,Ex.cz.nil _ _⟩
 ·have UZ:n<=m:=by rw[hm];split<;>omega
  obtain⟨xs,hl,L⟩:=qS n (fun j (y:Nat)=>A9 j= .int .u32 (y:Int)/\y<4294967296) (fun j hj=>by
   obtain⟨y,I,_,N⟩:=DataW.trod_int Tryz.underlying292 (VB j (by omega)).2;injection I with I;have N:0<=y/\y<=4294967295:=by simpa [Lit.wf,IntKind.min,IntKind.max,IntKind.signed,IntKind.bits]using N
   exact⟨y.toNat,by rw[I];congr 1;omega,by omega⟩)
  subst hl;refine⟨_,xs,rfl,fun y hy=>?_,by unfold maxLen at S3;omega,some a,c,rfl,by omega,fun j y hj=>⟨a,rfl,?_⟩⟩
  ·obtain⟨j,hj,rfl⟩:=List.mem_iff_getElem.1 hy;exact(L j _ (aB hj)).2
  ·have Sr:=(aD.1 hj).1;have I:=(VB j (by omega)).1;rw[(L j y hj).1]at I;refine⟨?_,I⟩;have:=DM I
   rwa [Ex.c9]at this
theorem wh{v:Value}{d:DataW H}{p:List MemPlace}(h:DataW.Trod enc Tryz.prog E9 0 sp hd 46 v d p)(hc:∃U,v= .agg U/\U.size=Tryz.prog.cellsOf 46):∃z,Ex.j5 E9 (fun g=>g<E9.heap.size) v z:=by
 obtain⟨fuel,hf⟩:=h;obtain⟨U,rfl,hs⟩:=hc;have c24:Tryz.prog.cellsOf 46=2:=by kernel_rfl
 rw[c24]at hs;obtain⟨c0,c1,rfl⟩:∃c0 c1,U= #[c0,c1]:=by
  obtain⟨l⟩:=U
  match l,hs with
  |[c0,c1],_=>exact⟨c0,c1,rfl⟩
 have hf:DataW.trod enc Tryz.prog E9 0 sp hd fuel 46 [c0,c1]=some (d,p):=hf;obtain⟨xs,k,_,_,_,QC,Ot⟩:=DataW.trod_struct Tryz.underlying46 hf;have c4:Tryz.prog.cellsOf 4=1:=by kernel_rfl
 have c22:Tryz.prog.cellsOf 44=1:=by kernel_rfl
 have len2:xs.length=2:=QC
 match xs,len2 with
 |[y0,y1],_=>
  have g0:DataW.trod enc Tryz.prog E9 0 sp hd k 4 (List.take (Tryz.prog.cellsOf 4) [c0,c1])=some y0:=Ot 0 _ rfl;have g1:DataW.trod enc Tryz.prog E9 0 sp hd k 44 (List.take (Tryz.prog.cellsOf 44) [c1])=some y1:=Ot 1 _ rfl;rw[c4]at g0;rw[c22]at g1;obtain⟨b,e0,_⟩:=DataW.trod_bool Tryz.underlying4 g0;obtain⟨v,ls,e1,hl⟩:=AO g1;have e0:[c0]=[Value.bool b]:=e0;have e1:[c1]=[v]:=e1;simp only[List.cons.injEq,and_true]at e0 e1;subst e0 e1;exact⟨Ex.sg b (Ex.val ls),b,ls,⟨_,rfl,hl⟩,rfl⟩
theorem lZ{α:Type}{P:World->(Nat->Prop)->List Value->α->Prop}{t e k:Nat}(R:0<k)(hu:Tryz.prog.underlying t=some (.slice e))(hc:Tryz.prog.cellsOf e=k)(hP1:∀U y,P E9 (fun g=>g<E9.heap.size) U y->∀u∈U,u.oneCell'=true)
  (hE:∀{fuel:Nat} {U:List Value} {x:DataW H×List MemPlace},DataW.trod enc Tryz.prog E9 0 sp hd fuel e U=some x->U.length=k->∃y,P E9 (fun g=>g<E9.heap.size) U y) {fuel:Nat} {U:List Value} {x:DataW H×List MemPlace}
  (h:DataW.trod enc Tryz.prog E9 0 sp hd fuel t U=some x):∃v xs,U=[v]/\Ex.eY k P E9 (fun g=>g<E9.heap.size) v xs:=by
 rcases open_slice hu h with⟨rfl,_⟩|⟨a,n,c,m,k2,F9,Pl,rfl,_,Ti,S3,hm,_,VB⟩
 ·exact⟨_,[],rfl,[],⟨by simp,by simp,by simp,none,0,rfl,Nat.le_refl _,by simp⟩,rfl,by simp,by simp⟩
 ·have UZ:n<=m:=by rw[hm];split<;>omega
  obtain⟨l,hl,L⟩:=qS n (fun j (y:List Value×α)=>y.1.length=k/\P E9 (fun g=>g<E9.heap.size) y.1 y.2/\∀(i:Nat) u,y.1[i]? =some u->E9.cell? (a.add (j*k+i))=some u) (fun j hj=>by
   obtain⟨U,I,X⟩:=VB j (by omega);rw[hc]at I;obtain⟨_,hlen,Oz⟩:=World.cells?_some I;obtain⟨y,hy⟩:=hE X hlen;refine⟨(U,y),hlen,hy,fun i u D=>?_⟩;have hi4:i<U.length:=(aD.1 D).1;have:=Oz i (by omega);rw[<-Ex.FD,this]
   exact D)
  have h4:∀U∈l.map (·.1),U.length=k:=fun U hc=>by
   obtain⟨y,hy,rfl⟩:=aR.1 hc;obtain⟨j,hj⟩:=aQ hy;exact(L j y hj).1
  have Ot:=Ex.vV h4;rw[aL,hl]at Ot;refine⟨_,l.map (·.2),rfl,l.map (·.1),⟨by rw[aL];unfold maxLen at *;omega,by rw[Ot,aL,hl],fun u hu=>?_,some a,c,by rw[aL,hl],by rw[aL,hl];omega,fun j u hj=>⟨a,rfl,?_⟩⟩,by simp,h4,fun j U y k1 k2=>?_⟩
  ·obtain⟨U,hc,hu⟩:=List.mem_flatten.1 hu;obtain⟨y,hy,rfl⟩:=aR.1 hc;obtain⟨j,hj⟩:=aQ hy;exact hP1 _ _ (L j y hj).2.1 u hu
  ·have hj4:=(aD.1 hj).1;rw[Ot]at hj4;have hdm:j / k*k+j % k=j:=by rw[bL];exact Nat.div_add_mod j k
   have hjn:j / k<n:=Nat.div_lt_of_lt_mul (by rw[bL];exact hj4);have Ve:=bq j R;obtain⟨y,hy⟩:∃y,l[j / k]? =some y:=⟨_,aB (by omega)⟩
   obtain⟨h5,h6,h7⟩:=L _ y hy;obtain⟨u2,hu2⟩:∃u,y.1[j % k]? =some u:=⟨_,aB (by omega)⟩
   have h8:=Ex.vW h4 (show (l.map (·.1))[j / k]? =some y.1 by rw[aM,hy];rfl) (j % k) u2 hu2;rw[hdm,hj]at h8;injection h8 with h8;subst h8;have h9:=h7 _ _ hu2;rw[hdm]at h9;have:=DM h9;rw[Ex.c9]at this;exact⟨this,h9⟩
  ·rw[aM]at k1 k2
   cases Ps:l[j]? with
   |none=>rw[Ps]at k1;cases k1
   |some y2=>
    rw[Ps]at k1 k2;injection k1 with k1;injection k2 with k2;subst k1 k2;exact(L j y2 Ps).2.1
set_option maxRecDepth 100000 in
theorem Ar{fuel:Nat}{U:List Value}{x:DataW H×List MemPlace}(h:DataW.trod enc Tryz.prog E9 0 sp hd fuel 195 U=some x)(hl:U.length=3):∃y,Ex.H9 E9 (fun g=>g<E9.heap.size) U y:=by
 match U,hl with
 |[c0,c1,c2],_=>
 obtain⟨xs,k,_,_,_,QC,Ot⟩:=DataW.trod_struct Tryz.underlying195 h;have eint:Tryz.prog.cellsOf 3=1:=by kernel_rfl
 have lenF:xs.length=3:=QC
 match xs,lenF with
 |[y0,y1,y2],_=>
  have g0:DataW.trod enc Tryz.prog E9 0 sp hd k 3 (List.take (Tryz.prog.cellsOf 3) [c0,c1,c2])=some y0:=Ot 0 _ rfl;rw[eint]at g0;have g1:DataW.trod enc Tryz.prog E9 0 sp hd k 3 (List.take (Tryz.prog.cellsOf 3) (List.drop (Tryz.prog.cellsOf 3) [c0,c1,c2]))=some y1:=Ot 1 _ rfl;rw[eint]at g1;have g2:DataW.trod enc Tryz.prog E9 0 sp hd k 3 (List.take (Tryz.prog.cellsOf 3) (List.drop (Tryz.prog.cellsOf 3+Tryz.prog.cellsOf 3) [c0,c1,c2]))=some y2:=Ot 2 _ rfl;rw[eint]at g2;obtain⟨n0,i0,_,_⟩:=DataW.trod_int Tryz.underlying3 g0;have i0:[c0]=[Value.int .i64 n0]:=i0;simp only[List.cons.injEq,and_true]at i0;subst i0;obtain⟨n1,i1,_,_⟩:=DataW.trod_int Tryz.underlying3 g1;have i1:[c1]=[Value.int .i64 n1]:=i1;simp only[List.cons.injEq,and_true]at i1;subst i1;obtain⟨n2,i2,_,_⟩:=DataW.trod_int Tryz.underlying3 g2;have i2:[c2]=[Value.int .i64 n2]:=i2;simp only[List.cons.injEq,and_true]at i2;subst i2;exact⟨(n0,n1,n2),rfl⟩
theorem qT{fuel:Nat}{U:List Value}{x:DataW H×List MemPlace}(h:DataW.trod enc Tryz.prog E9 0 sp hd fuel 22 U=some x):∃v xs,U=[v]/\Ex.eY 3 Ex.H9 E9 (fun g=>g<E9.heap.size) v xs:=
 lZ (by decide) Tryz.underlying22 (by kernel_rfl) (fun U y hy u hu=>by have hy:U=_:=hy;subst hy;simp at hu;rcases hu with rfl|rfl|rfl<;>rfl) (fun h hl=>Ar h hl) h
set_option maxRecDepth 100000 in
theorem aAB{base:Nat}{v:Value}{d:DataW H}{p:List MemPlace}(hv:Value.okWide Tryz.prog E9 .any base 22 v)(h:DataW.Trod enc Tryz.prog E9 0 sp hd 22 v d p):∃xs,Ex.eY 3 Ex.H9 E9 (fun g=>g<E9.heap.size) v xs:=by
 obtain⟨a,n,c,rfl⟩:=okWide_slice Tryz.underlying22 hv;obtain⟨fuel,hf⟩:=h;obtain⟨v,xs,e,hr⟩:=qT (U:=[.slice a n c]) hf;simp only[List.cons.injEq,and_true]at e;rw[e];exact⟨xs,hr⟩
theorem FG{v:Value}{d:DataW H}{p:List MemPlace}(h:DataW.Trod enc Tryz.prog E9 0 sp hd 48 v d p)(hc:∃U,v= .agg U/\U.size=Tryz.prog.cellsOf 48):∃a b,Ex.iD E9 (fun g=>g<E9.heap.size) v a b:=by
 obtain⟨fuel,hf⟩:=h;obtain⟨U,rfl,hs⟩:=hc;have c26:Tryz.prog.cellsOf 48=4:=by kernel_rfl
 rw[c26]at hs;obtain⟨c0,c1,c2,c3,rfl⟩:∃c0 c1 c2 c3,U= #[c0,c1,c2,c3]:=by
  obtain⟨l⟩:=U
  match l,hs with
  |[c0,c1,c2,c3],_=>exact⟨c0,c1,c2,c3,rfl⟩
 have hf:DataW.trod enc Tryz.prog E9 0 sp hd fuel 48 [c0,c1,c2,c3]=some (d,p):=hf;obtain⟨xs,k,_,_,_,QC,Ot⟩:=DataW.trod_struct Tryz.underlying48 hf;have c24:Tryz.prog.cellsOf 46=2:=by kernel_rfl
 have len2:xs.length=2:=QC
 match xs,len2 with
 |[y0,y1],_=>
  have g0:DataW.trod enc Tryz.prog E9 0 sp hd k 46 (List.take (Tryz.prog.cellsOf 46) [c0,c1,c2,c3])=some y0:=Ot 0 _ rfl;have g1:DataW.trod enc Tryz.prog E9 0 sp hd k 46 (List.take (Tryz.prog.cellsOf 46) [c2,c3])=some y1:=Ot 1 _ rfl;rw[c24]at g0 g1;obtain⟨z0,i0⟩:=wh (v:=.agg #[c0,c1]) ⟨k,g0⟩ ⟨_,rfl,by rw[c24];rfl⟩;obtain⟨z1,i1⟩:=wh (v:=.agg #[c2,c3]) ⟨k,g1⟩ ⟨_,rfl,by rw[c24];rfl⟩;obtain⟨b0,w0,_,_,e0,_⟩:=i0.FC;obtain⟨b1,w1,_,_,e1,_⟩:=i1.FC;simp only[Value.agg.injEq,Array.mk.injEq,List.cons.injEq,and_true]at e0 e1;obtain⟨rfl,rfl⟩:=e0;obtain⟨rfl,rfl⟩:=e1;exact⟨z0,z1,_,_,_,_,rfl,i0,i1⟩
theorem oX{fuel:Nat}{U:List Value}{x:DataW H×List MemPlace}(h:DataW.trod enc Tryz.prog E9 0 sp hd fuel 48 U=some x)(hl:U.length=4):∃y:Int×Int,Ex.ve E9 (fun g=>g<E9.heap.size) U y:=by
 match U,hl with
 |[c0,c1,c2,c3],_=>
  obtain⟨a,b,hr⟩:=FG (v:=.agg #[c0,c1,c2,c3]) (d:=x.1) (p:=x.2) ⟨fuel,h⟩ ⟨_,rfl,by rw[show Tryz.prog.cellsOf 48=4 by kernel_rfl];rfl⟩;obtain⟨b1,a1,n1,k1,b2,a2,n2,k2,e⟩:=hr.shape;simp only[Value.agg.injEq,Array.mk.injEq,List.cons.injEq,and_true]at e;obtain⟨rfl,rfl,rfl,rfl⟩:=e;exact⟨(a,b),b1,a1,n1,k1,b2,a2,n2,k2,rfl,hr⟩
set_option maxRecDepth 100000 in
theorem DN{fuel:Nat}{U:List Value}{x:DataW H×List MemPlace}(h:DataW.trod enc Tryz.prog E9 0 sp hd fuel 144 U=some x)(hl:U.length=6):∃y,Ex.uT E9 (fun g=>g<E9.heap.size) U y:=by
 match U,hl with
 |[c0,c1,c2,c3,c4,c5],_=>
 obtain⟨xs,k,_,_,_,QC,Ot⟩:=DataW.trod_struct Tryz.underlying144 h;have eint:Tryz.prog.cellsOf 3=1:=by kernel_rfl
 have eRat:Tryz.prog.cellsOf 48=4:=by kernel_rfl
 have lenF:xs.length=3:=QC
 match xs,lenF with
 |[y0,y1,y2],_=>
  have g0:DataW.trod enc Tryz.prog E9 0 sp hd k 3 (List.take (Tryz.prog.cellsOf 3) [c0,c1,c2,c3,c4,c5])=some y0:=Ot 0 _ rfl;rw[eint]at g0;have g1:DataW.trod enc Tryz.prog E9 0 sp hd k 3 (List.take (Tryz.prog.cellsOf 3) (List.drop (Tryz.prog.cellsOf 3) [c0,c1,c2,c3,c4,c5]))=some y1:=Ot 1 _ rfl;rw[eint]at g1;have g2:DataW.trod enc Tryz.prog E9 0 sp hd k 48 (List.take (Tryz.prog.cellsOf 48) (List.drop (Tryz.prog.cellsOf 3+Tryz.prog.cellsOf 3) [c0,c1,c2,c3,c4,c5]))=some y2:=Ot 2 _ rfl;rw[eRat,eint]at g2;obtain⟨n0,i0,_,_⟩:=DataW.trod_int Tryz.underlying3 g0;have i0:[c0]=[Value.int .i64 n0]:=i0;simp only[List.cons.injEq,and_true]at i0;subst i0;obtain⟨n1,i1,_,_⟩:=DataW.trod_int Tryz.underlying3 g1;have i1:[c1]=[Value.int .i64 n1]:=i1;simp only[List.cons.injEq,and_true]at i1;subst i1;obtain⟨x2,b21,a21,n21,k21,b22,a22,n22,k22,i2,X⟩:=oX (U:=[c2,c3,c4,c5]) g2 rfl;simp only[List.cons.injEq,and_true]at i2;obtain⟨rfl,rfl,rfl,rfl⟩:=i2;exact⟨(n0,n1,x2),_,_,_,_,_,_,_,_,rfl,X⟩
theorem rb{fuel:Nat}{U:List Value}{x:DataW H×List MemPlace}(h:DataW.trod enc Tryz.prog E9 0 sp hd fuel 23 U=some x):∃v xs,U=[v]/\Ex.eY 6 Ex.uT E9 (fun g=>g<E9.heap.size) v xs:=
 lZ (by decide) Tryz.underlying23 (by kernel_rfl) (fun U y hy u hu=>by obtain⟨_,_,_,_,_,_,_,_,rfl,_⟩:=hy;simp at hu;rcases hu with rfl|rfl|rfl|rfl|rfl|rfl<;>rfl) (fun h hl=>DN h hl) h
set_option maxRecDepth 100000 in
theorem aAC{base:Nat}{v:Value}{d:DataW H}{p:List MemPlace}(hv:Value.okWide Tryz.prog E9 .any base 23 v)(h:DataW.Trod enc Tryz.prog E9 0 sp hd 23 v d p):∃xs,Ex.eY 6 Ex.uT E9 (fun g=>g<E9.heap.size) v xs:=by
 obtain⟨a,n,c,rfl⟩:=okWide_slice Tryz.underlying23 hv;obtain⟨fuel,hf⟩:=h;obtain⟨v,xs,e,hr⟩:=rb (U:=[.slice a n c]) hf;simp only[List.cons.injEq,and_true]at e;rw[e];exact⟨xs,hr⟩
set_option maxRecDepth 100000 in
theorem vo{fuel:Nat}{U:List Value}{x:DataW H×List MemPlace}(h:DataW.trod enc Tryz.prog E9 0 sp hd fuel 146 U=some x)(hl:U.length=6):∃y,Ex.uT E9 (fun g=>g<E9.heap.size) U y:=by
 match U,hl with
 |[c0,c1,c2,c3,c4,c5],_=>
 obtain⟨xs,k,_,_,_,QC,Ot⟩:=DataW.trod_struct Tryz.underlying146 h;have eint:Tryz.prog.cellsOf 3=1:=by kernel_rfl
 have eRat:Tryz.prog.cellsOf 48=4:=by kernel_rfl
 have lenF:xs.length=3:=QC
 match xs,lenF with
 |[y0,y1,y2],_=>
  have g0:DataW.trod enc Tryz.prog E9 0 sp hd k 3 (List.take (Tryz.prog.cellsOf 3) [c0,c1,c2,c3,c4,c5])=some y0:=Ot 0 _ rfl;rw[eint]at g0;have g1:DataW.trod enc Tryz.prog E9 0 sp hd k 3 (List.take (Tryz.prog.cellsOf 3) (List.drop (Tryz.prog.cellsOf 3) [c0,c1,c2,c3,c4,c5]))=some y1:=Ot 1 _ rfl;rw[eint]at g1;have g2:DataW.trod enc Tryz.prog E9 0 sp hd k 48 (List.take (Tryz.prog.cellsOf 48) (List.drop (Tryz.prog.cellsOf 3+Tryz.prog.cellsOf 3) [c0,c1,c2,c3,c4,c5]))=some y2:=Ot 2 _ rfl;rw[eRat,eint]at g2;obtain⟨n0,i0,_,_⟩:=DataW.trod_int Tryz.underlying3 g0;have i0:[c0]=[Value.int .i64 n0]:=i0;simp only[List.cons.injEq,and_true]at i0;subst i0;obtain⟨n1,i1,_,_⟩:=DataW.trod_int Tryz.underlying3 g1;have i1:[c1]=[Value.int .i64 n1]:=i1;simp only[List.cons.injEq,and_true]at i1;subst i1;obtain⟨x2,b21,a21,n21,k21,b22,a22,n22,k22,i2,X⟩:=oX (U:=[c2,c3,c4,c5]) g2 rfl;simp only[List.cons.injEq,and_true]at i2;obtain⟨rfl,rfl,rfl,rfl⟩:=i2;exact⟨(n0,n1,x2),_,_,_,_,_,_,_,_,rfl,X⟩
theorem mT{fuel:Nat}{U:List Value}{x:DataW H×List MemPlace}(h:DataW.trod enc Tryz.prog E9 0 sp hd fuel 24 U=some x):∃v xs,U=[v]/\Ex.eY 6 Ex.uT E9 (fun g=>g<E9.heap.size) v xs:=
 lZ (by decide) Tryz.underlying24 (by kernel_rfl) (fun U y hy u hu=>by obtain⟨_,_,_,_,_,_,_,_,rfl,_⟩:=hy;simp at hu;rcases hu with rfl|rfl|rfl|rfl|rfl|rfl<;>rfl) (fun h hl=>vo h hl) h
set_option maxRecDepth 100000 in
theorem aAA{base:Nat}{v:Value}{d:DataW H}{p:List MemPlace}(hv:Value.okWide Tryz.prog E9 .any base 24 v)(h:DataW.Trod enc Tryz.prog E9 0 sp hd 24 v d p):∃xs,Ex.eY 6 Ex.uT E9 (fun g=>g<E9.heap.size) v xs:=by
 obtain⟨a,n,c,rfl⟩:=okWide_slice Tryz.underlying24 hv;obtain⟨fuel,hf⟩:=h;obtain⟨v,xs,e,hr⟩:=mT (U:=[.slice a n c]) hf;simp only[List.cons.injEq,and_true]at e;rw[e];exact⟨xs,hr⟩
set_option maxRecDepth 100000 in
theorem AP{fuel:Nat}{U:List Value}{x:DataW H×List MemPlace}(h:DataW.trod enc Tryz.prog E9 0 sp hd fuel 26 U=some x)(hl:U.length=3):∃vn vb vs f,U=[vn,vb,vs]/\Ex.qL E9 (fun g=>g<E9.heap.size) vn vb vs f:=by
 match U,hl with
 |[c0,c1,c2],_=>
 obtain⟨xs,k,_,_,_,QC,Ot⟩:=DataW.trod_struct Tryz.underlying26 h;have eLNode:Tryz.prog.cellsOf 22=1:=by kernel_rfl
 have eLBar:Tryz.prog.cellsOf 23=1:=by kernel_rfl
 have eLSupport:Tryz.prog.cellsOf 24=1:=by kernel_rfl
 have lenF:xs.length=3:=QC
 match xs,lenF with
 |[y0,y1,y2],_=>
  have g0:DataW.trod enc Tryz.prog E9 0 sp hd k 22 (List.take (Tryz.prog.cellsOf 22) [c0,c1,c2])=some y0:=Ot 0 _ rfl;rw[eLNode]at g0;have g1:DataW.trod enc Tryz.prog E9 0 sp hd k 23 (List.take (Tryz.prog.cellsOf 23) (List.drop (Tryz.prog.cellsOf 22) [c0,c1,c2]))=some y1:=Ot 1 _ rfl;rw[eLBar,eLNode]at g1;have g2:DataW.trod enc Tryz.prog E9 0 sp hd k 24 (List.take (Tryz.prog.cellsOf 24) (List.drop (Tryz.prog.cellsOf 22+Tryz.prog.cellsOf 23) [c0,c1,c2]))=some y2:=Ot 2 _ rfl;rw[eLSupport,eLNode,eLBar]at g2;obtain⟨v0,x0,i0,h0⟩:=qT (U:=[c0]) g0;simp only[List.cons.injEq,and_true]at i0;subst i0;obtain⟨v1,x1,i1,I⟩:=rb (U:=[c1]) g1;simp only[List.cons.injEq,and_true]at i1;subst i1;obtain⟨v2,x2,i2,X⟩:=mT (U:=[c2]) g2;simp only[List.cons.injEq,and_true]at i2;subst i2;exact⟨_,_,_,⟨x0,x1,x2⟩,rfl,h0,I,X⟩
theorem As{v:Value}{d:DataW H}{p:List MemPlace}(h:DataW.Trod enc Tryz.prog E9 0 sp hd 26 v d p)(hc:∃U,v= .agg U/\U.size=Tryz.prog.cellsOf 26):∃vn vb vs f,v= .agg #[vn,vb,vs]/\Ex.qL E9 (fun g=>g<E9.heap.size) vn vb vs f:=by
 obtain⟨fuel,hf⟩:=h;obtain⟨U,rfl,hs⟩:=hc;have eT:Tryz.prog.cellsOf 26=3:=by kernel_rfl
 rw[eT]at hs;obtain⟨vn,vb,vs,f,e,hr⟩:=AP (U:=U.toList) hf (by simpa using hs);exact⟨vn,vb,vs,f,by rw[<-Array.toArray_toList (xs:=U),e],hr⟩
theorem Au{fuel:Nat}{U:List Value}{x:DataW H×List MemPlace}(h:DataW.trod enc Tryz.prog E9 0 sp hd fuel 40 U=some x):∃v xs,U=[v]/\Ex.fO E9 (fun g=>g<E9.heap.size) v xs:=by
 have c26:Tryz.prog.cellsOf 48=4:=by kernel_rfl
 rcases open_slice Tryz.underlying40 h with⟨rfl,_⟩|⟨a,n,c,m,k,F9,Pl,rfl,_,Ti,S3,hm,_,VB⟩
 ·exact⟨_,[],rfl,[],⟨by simp,by simp,by simp,none,0,rfl,Nat.le_refl _,by simp⟩,rfl,by simp,by simp⟩
 ·have UZ:n<=m:=by rw[hm];split<;>omega
  obtain⟨l,hl,L⟩:=qS n (fun j (y:List Value×(Int×Int))=>y.1.length=4/\Ex.ve E9 (fun g=>g<E9.heap.size) y.1 y.2/\∀(i:Nat) u,y.1[i]? =some u->E9.cell? (a.add (j*4+i))=some u) (fun j hj=>by
   obtain⟨U,I,X⟩:=VB j (by omega);rw[c26]at I;obtain⟨_,hlen,Oz⟩:=World.cells?_some I;obtain⟨y,hy⟩:=oX X hlen;refine⟨(U,y),hlen,hy,fun i u D=>?_⟩;have hi4:i<U.length:=(aD.1 D).1;have:=Oz i (by omega);rw[<-Ex.FD,this]
   exact D)
  have h4:∀U∈l.map (·.1),U.length=4:=fun U hc=>by
   obtain⟨y,hy,rfl⟩:=aR.1 hc;obtain⟨j,hj⟩:=aQ hy;exact(L j y hj).1
  have Ot:=Ex.eo h4;rw[aL,hl]at Ot;refine⟨_,l.map (·.2),rfl,l.map (·.1),⟨by rw[aL];unfold maxLen at *;omega,by rw[Ot,aL,hl],fun u hu=>?_,some a,c,by rw[aL,hl],by rw[aL,hl];omega,fun j u hj=>⟨a,rfl,?_⟩⟩,by simp,h4,fun j U y k1 k2=>?_⟩
  ·obtain⟨U,hc,hu⟩:=List.mem_flatten.1 hu;obtain⟨y,hy,rfl⟩:=aR.1 hc;obtain⟨j,hj⟩:=aQ hy;obtain⟨_,⟨b1,a1,n1,k1,b2,a2,n2,k2,e,_⟩,_⟩:=L j y hj;rw[e]at hu;simp at hu;rcases hu with rfl|rfl|rfl|rfl<;>rfl
  ·have hj4:=(aD.1 hj).1;obtain⟨y,hy⟩:∃y,l[j / 4]? =some y:=⟨_,aB (by omega)⟩
   obtain⟨h5,h6,h7⟩:=L _ y hy;obtain⟨u2,hu2⟩:∃u,y.1[j % 4]? =some u:=⟨_,aB (by omega)⟩
   have h8:=Ex.flat_get h4 (show (l.map (·.1))[j / 4]? =some y.1 by rw[aM,hy];rfl) (j % 4) u2 hu2;rw[show j / 4*4+j % 4=j by omega,hj]at h8;injection h8 with h8;subst h8;have h9:=h7 _ _ hu2;rw[show j / 4*4+j % 4=j by omega]at h9;have:=DM h9;rw[Ex.c9]at this;exact⟨this,h9⟩
  ·rw[aM]at k1 k2
   cases Ps:l[j]? with
   |none=>rw[Ps]at k1;cases k1
   |some y2=>
    rw[Ps]at k1 k2;injection k1 with k1;injection k2 with k2;subst k1 k2;exact(L j y2 Ps).2.1
set_option maxRecDepth 100000 in
theorem DO{base:Nat}{v:Value}{d:DataW H}{p:List MemPlace}(hv:Value.okWide Tryz.prog E9 .any base 40 v)(h:DataW.Trod enc Tryz.prog E9 0 sp hd 40 v d p):∃xs,Ex.fO E9 (fun g=>g<E9.heap.size) v xs:=by
 obtain⟨a,n,c,rfl⟩:=okWide_slice Tryz.underlying40 hv;obtain⟨fuel,hf⟩:=h;obtain⟨v,xs,e,hr⟩:=Au (U:=[.slice a n c]) hf;simp only[List.cons.injEq,and_true]at e;rw[e];exact⟨xs,hr⟩
end

set_option maxRecDepth 100000 in
theorem lifted(os:Os)(started:os.Started)(H:Type)(enc:TypeId×Value->H):
  ReturnsInHanded {} Tryz.checked os 6 .any (Rows.topLessIsStableSpec.pre6 enc Tryz.prog Tryz.f6 Rows.topLessIsStableRow.domain false) (Rows.topLessIsStableSpec.post enc Tryz.prog Tryz.f6 false true false false):=by
 refine returnsInHanded_of_change (C:=Tryz.checked) own started (by kernel_rfl) Tryz.func6
  (ChangeSpec.witness6 (enc:=enc) (C:=Tryz.checked) false ⟨#[],#[.agg #[.slice none 0 0,.slice none 0 0,.slice none 0 0],.slice none 0 0],[]⟩ 8 (by kernel_rfl) (by kernel_rfl) (by kernel_rfl) (by kernel_rfl)) ?_
 intro E9 base args ds gs before Wu hW hcnd _;have TT:∀(j:Nat) t v,Tryz.f6.params[j]? =some t->args[j]? =some v->Value.okWide Tryz.prog E9 .any base t v:=Wu;have hW':=hW;obtain⟨p,q,hA0,hV,rfl,hfz,hnd⟩:=hW;have hA:DataW.TrodAll enc Tryz.prog E9 0 (fun _=>true) true Tryz.f6.params.toList args.toList ds p:=hA0;rw[Tryz.params6]at hA TT;obtain⟨v0,vs0_,d0,ds0,p0,q0,Rt,rfl,rfl,h0,r0⟩:=trodAll_cons hA;obtain⟨v1,vs1_,d1,ds1,p1,q1,rfl,rfl,rfl,I,r1⟩:=trodAll_cons r0;obtain⟨rfl,rfl,rfl⟩:=trodAll_nil r1;obtain rfl:args= #[v0,v1]:=by cases args;simp_all
 obtain⟨rfl,rfl⟩:=trodVars_none hV;have k0:=h0;have k1:=I;have lt0:∀x∈p0,x.block<E9.heap.size:=by obtain⟨m,hm⟩:=k0;exact DataW.trod_lt m _ _ _ hm
 have lt1:∀x∈p1,x.block<E9.heap.size:=by obtain⟨m,hm⟩:=k1;exact DataW.trod_lt m _ _ _ hm
 obtain⟨vn0,vb0,vs0,f0,rfl,y0⟩:=As h0 (okWide_struct Tryz.underlying26 (TT 0 26 v0 rfl rfl));obtain⟨M1,y1⟩:=DO (TT 1 40 v1 rfl rfl) I;clear hA0 Wu;refine((Ex.topLessIsStable_c (S:=fun g=>g<E9.heap.size) (fun _ h=>h) y0 y1).2).mono fun e W' ⟨v,W,SG,hv⟩=>?_;subst W;subst hv;have cL:Below E9.heap.size E9 W':=Ext.cL SG (Nat.le_refl _);exact⟨_,rfl,_,_,_,[],_,[],hW',trodAll_mk1 (shut_bool Tryz.underlying4 _),(trodAll_cons_mk (Below.trod laidOut (by kernel_rfl) (aK (by kernel_rfl)) k0 cL lt0) (trodAll_cons_mk (Below.trod laidOut (by kernel_rfl) (aK (by kernel_rfl)) k1 cL lt1) trodAll_mk0)),rfl,cL.frame _,fun h=>by cases h⟩

theorem aA4{a b:Bool}(ha:a=true)(hb:b=true):(a&&b)=true:=by rw[ha,hb];rfl
set_option maxHeartbeats 4000000 in
set_option maxRecDepth 100000 in
theorem closed:joinedFacts Tryz.pinned.checked.prog 6 Tryz.f6 Rows.topLessIsStableSpec Rows.topLessIsStableRow=true:=by
 unfold joinedFacts
 iterate 31 refine aA4 ?_ ?_
 all_goals decide +kernel
theorem aA5:Rows.topLessIsStableRow.holds Tryz.pinned (OpenSpec.ofChange Rows.topLessIsStableSpec):=
 OpenClaim.holds_of_wide 6 Tryz.f6 rfl rfl rfl rfl rfl rfl rfl ⟨rfl,rfl,rfl,rfl,rfl⟩ rfl rfl rfl rfl rfl (by kernel_rfl) Tryz.func6 closed
  (aK (by kernel_rfl)) (by unfold Func.isWrapper;first|(rw [if_pos (by decide +kernel)];kernel_rfl)|(rw [aI (by decide +kernel)];exact⟨rfl,rfl⟩))
  (fun os started H enc _=>lifted os started H enc)

/-- The law holds for every input. -/
theorem topLessIsStable_holds:Rows.TopLessIsStableSaid:=aA5
#print axioms topLessIsStable_holds
end Go.Proofs.YtgkpbdkechfgmaaGreat
