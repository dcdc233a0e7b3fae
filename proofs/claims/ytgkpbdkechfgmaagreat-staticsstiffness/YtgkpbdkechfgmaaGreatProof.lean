/- putlog/putloglaw05.StaticsStiffness returns true for every input, and its arguments read behind the call as they read before. No condition. -/
import Derived.Test.YtgkpbdkechfgmaaGreatRows
import Derived.ProofKit
import Derived.WalkKit
import Derived.OpenShut
import Derived.ShutString
import Derived.ChangeOld
import Derived.Below
import Derived.Deep.SlicePairs
import Derived.Test.YtgkpbdkechfgmaaGreatP18
namespace Go.Proofs.YtgkpbdkechfgmaaGreat
open Go.ChangeShapes Go.WideShapes Go.ChangeAt Go.RowKit Go.Deep Go.Sx

theorem own:ownKnob Tryz.prog.godebug=none:=by kernel_rfl
theorem laidOut:laidOutB Tryz.prog=true:=by kernel_rfl

theorem HN{w:World}{a:Addr}{v:Value}(h:w.cell? a=some v):a.block<w.heap.size:=by
 apply Decidable.byContradiction;intro W;have hb:w.heap[a.block]? =none:=Array.getElem?_eq_none be;unfold World.cell? at h;rw[hb]at h
 cases h
theorem tC{α:Type}(n:Nat)(P:Nat->α->Prop)(h:∀j,j<n->∃x,P j x):∃l:List α,l.length=n/\∀(j:Nat) (x:α),l[j]? =some x->P j x:=by
 induction n with
 |zero=>exact⟨[],rfl,bv⟩
 |succ n ih=>
  obtain⟨l,I,G⟩:=ih fun j hj=>h j be;obtain⟨x,U⟩:=h n be;refine⟨l++[x],by simp[I],fun j y hy=>?_⟩;rcases aS j n with hj|hj
  .rw[aI be]at hy;exact G j y hy
  .rw[aN be]at hy;have:j=n:=by
    have:=(aE.1 hy).1;simp at this;omega
   subst this;rw[I,bO]at hy;simp at hy;rw[<-hy];exact U
section
variable{H:Type}{enc:TypeId×Value->H}{F8:World}{sp:Nat->Bool}{hd:Bool}
theorem Dc{fuel:Nat}{Z:List Value}{x:DataW H×List MemPlace}(h:DataW.trod enc Tryz.prog F8 0 sp hd fuel 44 Z=some x):∃v ls,Z=[v]/\Ex.dc F8 (fun g=>g<F8.heap.size) v ls:=by
 rcases open_slice1 Tryz.underlying44 d9 h with⟨rfl,_⟩|⟨a,n,c,m,k,A9,Fd,Pl,rfl,_,VL,SB,hm,_,Ux⟩
 .exact⟨_,[],rfl,Ex.dc.nil _ _⟩
 .have Vx:n<=m:=by rw[hm];split<;>omega
  obtain⟨xs,hl,U⟩:=tC n (fun j (y:Nat)=>A9 j= .int .u32 (y:Int)/\y<4294967296) (fun j hj=>by
   obtain⟨y,I,_,h3⟩:=DataW.trod_int Tryz.underlying292 (Ux j be).2;injection I with I;have h3:0<=y/\y<=4294967295:=by simpa [Lit.wf,IntKind.min,IntKind.max,IntKind.signed,IntKind.bits]using h3
   exact⟨y.toNat,by rw[I];congr 1;omega,be⟩)
  subst hl;refine⟨_,xs,rfl,fun y hy=>?_,by unfold maxLen at SB;omega,some a,c,rfl,be,fun j y hj=>⟨a,rfl,?_⟩⟩
  .obtain⟨j,hj,rfl⟩:=List.mem_iff_getElem.1 hy;exact(U j _ (aD hj)).2
  .have Tu:=(aE.1 hj).1;have I:=(Ux j be).1;rw[(U j y hj).1]at I;refine⟨?_,I⟩;have:=HN I
   rwa [Ex.dO]at this
theorem AI{v:Value}{d:DataW H}{p:List MemPlace}(h:DataW.Trod enc Tryz.prog F8 0 sp hd 46 v d p)(hc:∃Z,v= .agg Z/\Z.size=Tryz.prog.cellsOf 46):∃z,Ex.kX F8 (fun g=>g<F8.heap.size) v z:=by
 obtain⟨fuel,hf⟩:=h;obtain⟨Z,rfl,hs⟩:=hc;have c24:Tryz.prog.cellsOf 46=2:=by kernel_rfl
 rw[c24]at hs;obtain⟨c0,c1,rfl⟩:∃c0 c1,Z= #[c0,c1]:=by
  obtain⟨l⟩:=Z
  match l,hs with
  |[c0,c1],_=>exact⟨c0,c1,rfl⟩
 have hf:DataW.trod enc Tryz.prog F8 0 sp hd fuel 46 [c0,c1]=some (d,p):=hf;obtain⟨xs,k,_,_,_,QM,PM⟩:=DataW.trod_struct Tryz.underlying46 hf;have c4:Tryz.prog.cellsOf 4=1:=by kernel_rfl
 have c22:Tryz.prog.cellsOf 44=1:=by kernel_rfl
 have len2:xs.length=2:=QM
 match xs,len2 with
 |[y0,y1],_=>
  have g0:DataW.trod enc Tryz.prog F8 0 sp hd k 4 (List.take (Tryz.prog.cellsOf 4) [c0,c1])=some y0:=PM 0 _ rfl;have g1:DataW.trod enc Tryz.prog F8 0 sp hd k 44 (List.take (Tryz.prog.cellsOf 44) [c1])=some y1:=PM 1 _ rfl;rw[c4]at g0;rw[c22]at g1;obtain⟨b,e0,_⟩:=DataW.trod_bool Tryz.underlying4 g0;obtain⟨v,ls,e1,hl⟩:=Dc g1;have e0:[c0]=[Value.bool b]:=e0;have e1:[c1]=[v]:=e1;simp only[List.cons.injEq,and_true]at e0 e1;subst e0 e1;exact⟨Ex.sg b (Ex.val ls),b,ls,⟨_,rfl,hl⟩,rfl⟩
theorem nS{α:Type}{P:World->(Nat->Prop)->List Value->α->Prop}{t e k:Nat}(K:0<k)(hu:Tryz.prog.underlying t=some (.slice e))(hc:Tryz.prog.cellsOf e=k)(hP1:∀Z y,P F8 (fun g=>g<F8.heap.size) Z y->∀u∈Z,u.oneCell'=true)
  (hE:∀{fuel:Nat} {Z:List Value} {x:DataW H×List MemPlace},DataW.trod enc Tryz.prog F8 0 sp hd fuel e Z=some x->Z.length=k->∃y,P F8 (fun g=>g<F8.heap.size) Z y) {fuel:Nat} {Z:List Value} {x:DataW H×List MemPlace}
  (h:DataW.trod enc Tryz.prog F8 0 sp hd fuel t Z=some x):∃v xs,Z=[v]/\Ex.fW k P F8 (fun g=>g<F8.heap.size) v xs:=by
 rcases open_slice hu h with⟨rfl,_⟩|⟨a,n,c,m,k2,Fd,Pl,rfl,_,VL,SB,hm,_,Ux⟩
 .exact⟨_,[],rfl,[],⟨bv,bv,bv,none,0,rfl,aP _,bv⟩,rfl,bv,bv⟩
 .have Vx:n<=m:=by rw[hm];split<;>omega
  obtain⟨l,hl,U⟩:=tC n (fun j (y:List Value×α)=>y.1.length=k/\P F8 (fun g=>g<F8.heap.size) y.1 y.2/\∀(i:Nat) u,y.1[i]? =some u->F8.cell? (a.add (j*k+i))=some u) (fun j hj=>by
   obtain⟨Z,I,G⟩:=Ux j be;rw[hc]at I;obtain⟨_,hlen,Pt⟩:=World.cells?_some I;obtain⟨y,hy⟩:=hE G hlen;refine⟨(Z,y),hlen,hy,fun i u D=>?_⟩;have hi4:i<Z.length:=(aE.1 D).1;have:=Pt i be;rw[<-Ex.JQ,this]
   exact D)
  have h4:∀Z∈l.map (·.1),Z.length=k:=fun Z hc=>by
   obtain⟨y,hy,rfl⟩:=aV.1 hc;obtain⟨j,hj⟩:=aU hy;exact(U j y hj).1
  have PM:=Ex.zI h4;rw[aL,hl]at PM;refine⟨_,l.map (·.2),rfl,l.map (·.1),⟨by rw[aL];unfold maxLen at *;omega,by rw[PM,aL,hl],fun u hu=>?_,some a,c,by rw[aL,hl],by rw[aL,hl];omega,fun j u hj=>⟨a,rfl,?_⟩⟩,bv,h4,fun j Z y k1 k2=>?_⟩
  .obtain⟨Z,hc,hu⟩:=List.mem_flatten.1 hu;obtain⟨y,hy,rfl⟩:=aV.1 hc;obtain⟨j,hj⟩:=aU hy;exact hP1 _ _ (U j y hj).2.1 u hu
  .have Wp:=(aE.1 hj).1;rw[PM]at Wp;have YE:j / k*k+j % k=j:=by rw[bl];exact Nat.div_add_mod j k
   have hjn:j / k<n:=Nat.div_lt_of_lt_mul (by rw[bl];exact Wp);have XO:=cN j K;obtain⟨y,hy⟩:∃y,l[j / k]? =some y:=⟨_,aD be⟩
   obtain⟨h5,h6,h7⟩:=U _ y hy;obtain⟨u2,Uo⟩:∃u,y.1[j % k]? =some u:=⟨_,aD be⟩
   have h8:=Ex.zJ h4 (show (l.map (·.1))[j / k]? =some y.1 by rw[aO,hy];rfl) (j % k) u2 Uo;rw[YE,hj]at h8;injection h8 with h8;subst h8;have h9:=h7 _ _ Uo;rw[YE]at h9;have:=HN h9;rw[Ex.dO]at this;exact⟨this,h9⟩
  .rw[aO]at k1 k2
   cases Ps:l[j]? with
   |none=>rw[Ps]at k1;cases k1
   |some y2=>
    rw[Ps]at k1 k2;injection k1 with k1;injection k2 with k2;subst k1 k2;exact(U j y2 Ps).2.1
set_option maxRecDepth 100000 in
theorem ES{fuel:Nat}{Z:List Value}{x:DataW H×List MemPlace}(h:DataW.trod enc Tryz.prog F8 0 sp hd fuel 195 Z=some x)(hl:Z.length=3):∃y,Ex.MB F8 (fun g=>g<F8.heap.size) Z y:=by
 match Z,hl with
 |[c0,c1,c2],_=>
 obtain⟨xs,k,_,_,_,QM,PM⟩:=DataW.trod_struct Tryz.underlying195 h;have eint:Tryz.prog.cellsOf 3=1:=by kernel_rfl
 have lenF:xs.length=3:=QM
 match xs,lenF with
 |[y0,y1,y2],_=>
  have g0:DataW.trod enc Tryz.prog F8 0 sp hd k 3 (List.take (Tryz.prog.cellsOf 3) [c0,c1,c2])=some y0:=PM 0 _ rfl;rw[eint]at g0;have g1:DataW.trod enc Tryz.prog F8 0 sp hd k 3 (List.take (Tryz.prog.cellsOf 3) (List.drop (Tryz.prog.cellsOf 3) [c0,c1,c2]))=some y1:=PM 1 _ rfl;rw[eint]at g1;have g2:DataW.trod enc Tryz.prog F8 0 sp hd k 3 (List.take (Tryz.prog.cellsOf 3) (List.drop (Tryz.prog.cellsOf 3+Tryz.prog.cellsOf 3) [c0,c1,c2]))=some y2:=PM 2 _ rfl;rw[eint]at g2;obtain⟨n0,i0,_,_⟩:=DataW.trod_int Tryz.underlying3 g0;have i0:[c0]=[Value.int .i64 n0]:=i0;simp only[List.cons.injEq,and_true]at i0;subst i0;obtain⟨n1,i1,_,_⟩:=DataW.trod_int Tryz.underlying3 g1;have i1:[c1]=[Value.int .i64 n1]:=i1;simp only[List.cons.injEq,and_true]at i1;subst i1;obtain⟨n2,i2,_,_⟩:=DataW.trod_int Tryz.underlying3 g2;have i2:[c2]=[Value.int .i64 n2]:=i2;simp only[List.cons.injEq,and_true]at i2;subst i2;exact⟨(n0,n1,n2),rfl⟩
theorem tD{fuel:Nat}{Z:List Value}{x:DataW H×List MemPlace}(h:DataW.trod enc Tryz.prog F8 0 sp hd fuel 22 Z=some x):∃v xs,Z=[v]/\Ex.fW 3 Ex.MB F8 (fun g=>g<F8.heap.size) v xs:=
 nS bi Tryz.underlying22 d9 (fun Z y hy u hu=>by have hy:Z=_:=hy;subst hy;simp at hu;rcases hu with rfl|rfl|rfl<;>rfl) (fun h hl=>ES h hl) h
set_option maxRecDepth 100000 in
theorem aB4{base:Nat}{v:Value}{d:DataW H}{p:List MemPlace}(hv:Value.okWide Tryz.prog F8 .any base 22 v)(h:DataW.Trod enc Tryz.prog F8 0 sp hd 22 v d p):∃xs,Ex.fW 3 Ex.MB F8 (fun g=>g<F8.heap.size) v xs:=by
 obtain⟨a,n,c,rfl⟩:=okWide_slice Tryz.underlying22 hv;obtain⟨fuel,hf⟩:=h;obtain⟨v,xs,e,hr⟩:=tD (Z:=[.slice a n c]) hf;simp only[List.cons.injEq,and_true]at e;rw[e];exact⟨xs,hr⟩
theorem JS{v:Value}{d:DataW H}{p:List MemPlace}(h:DataW.Trod enc Tryz.prog F8 0 sp hd 48 v d p)(hc:∃Z,v= .agg Z/\Z.size=Tryz.prog.cellsOf 48):∃a b,Ex.jP F8 (fun g=>g<F8.heap.size) v a b:=by
 obtain⟨fuel,hf⟩:=h;obtain⟨Z,rfl,hs⟩:=hc;have c26:Tryz.prog.cellsOf 48=4:=by kernel_rfl
 rw[c26]at hs;obtain⟨c0,c1,c2,c3,rfl⟩:∃c0 c1 c2 c3,Z= #[c0,c1,c2,c3]:=by
  obtain⟨l⟩:=Z
  match l,hs with
  |[c0,c1,c2,c3],_=>exact⟨c0,c1,c2,c3,rfl⟩
 have hf:DataW.trod enc Tryz.prog F8 0 sp hd fuel 48 [c0,c1,c2,c3]=some (d,p):=hf;obtain⟨xs,k,_,_,_,QM,PM⟩:=DataW.trod_struct Tryz.underlying48 hf;have c24:Tryz.prog.cellsOf 46=2:=by kernel_rfl
 have len2:xs.length=2:=QM
 match xs,len2 with
 |[y0,y1],_=>
  have g0:DataW.trod enc Tryz.prog F8 0 sp hd k 46 (List.take (Tryz.prog.cellsOf 46) [c0,c1,c2,c3])=some y0:=PM 0 _ rfl;have g1:DataW.trod enc Tryz.prog F8 0 sp hd k 46 (List.take (Tryz.prog.cellsOf 46) [c2,c3])=some y1:=PM 1 _ rfl;rw[c24]at g0 g1;obtain⟨z0,i0⟩:=AI (v:=.agg #[c0,c1]) ⟨k,g0⟩ ⟨_,rfl,by rw[c24];rfl⟩;obtain⟨z1,i1⟩:=AI (v:=.agg #[c2,c3]) ⟨k,g1⟩ ⟨_,rfl,by rw[c24];rfl⟩;obtain⟨b0,w0,_,_,e0,_⟩:=i0.JP;obtain⟨b1,w1,_,_,e1,_⟩:=i1.JP;simp only[Value.agg.injEq,Array.mk.injEq,List.cons.injEq,and_true]at e0 e1;obtain⟨rfl,rfl⟩:=e0;obtain⟨rfl,rfl⟩:=e1;exact⟨z0,z1,_,_,_,_,rfl,i0,i1⟩
theorem qk{fuel:Nat}{Z:List Value}{x:DataW H×List MemPlace}(h:DataW.trod enc Tryz.prog F8 0 sp hd fuel 48 Z=some x)(hl:Z.length=4):∃y:Int×Int,Ex.EN F8 (fun g=>g<F8.heap.size) Z y:=by
 match Z,hl with
 |[c0,c1,c2,c3],_=>
  obtain⟨a,b,hr⟩:=JS (v:=.agg #[c0,c1,c2,c3]) (d:=x.1) (p:=x.2) ⟨fuel,h⟩ ⟨_,rfl,by rw[show Tryz.prog.cellsOf 48=4 by kernel_rfl];rfl⟩;obtain⟨b1,a1,n1,k1,b2,a2,n2,k2,e⟩:=hr.shape;simp only[Value.agg.injEq,Array.mk.injEq,List.cons.injEq,and_true]at e;obtain⟨rfl,rfl,rfl,rfl⟩:=e;exact⟨(a,b),b1,a1,n1,k1,b2,a2,n2,k2,rfl,hr⟩
set_option maxRecDepth 100000 in
theorem HO{fuel:Nat}{Z:List Value}{x:DataW H×List MemPlace}(h:DataW.trod enc Tryz.prog F8 0 sp hd fuel 144 Z=some x)(hl:Z.length=6):∃y,Ex.yA F8 (fun g=>g<F8.heap.size) Z y:=by
 match Z,hl with
 |[c0,c1,c2,c3,c4,c5],_=>
 obtain⟨xs,k,_,_,_,QM,PM⟩:=DataW.trod_struct Tryz.underlying144 h;have eint:Tryz.prog.cellsOf 3=1:=by kernel_rfl
 have eRat:Tryz.prog.cellsOf 48=4:=by kernel_rfl
 have lenF:xs.length=3:=QM
 match xs,lenF with
 |[y0,y1,y2],_=>
  have g0:DataW.trod enc Tryz.prog F8 0 sp hd k 3 (List.take (Tryz.prog.cellsOf 3) [c0,c1,c2,c3,c4,c5])=some y0:=PM 0 _ rfl;rw[eint]at g0;have g1:DataW.trod enc Tryz.prog F8 0 sp hd k 3 (List.take (Tryz.prog.cellsOf 3) (List.drop (Tryz.prog.cellsOf 3) [c0,c1,c2,c3,c4,c5]))=some y1:=PM 1 _ rfl;rw[eint]at g1;have g2:DataW.trod enc Tryz.prog F8 0 sp hd k 48 (List.take (Tryz.prog.cellsOf 48) (List.drop (Tryz.prog.cellsOf 3+Tryz.prog.cellsOf 3) [c0,c1,c2,c3,c4,c5]))=some y2:=PM 2 _ rfl;rw[eRat,eint]at g2;obtain⟨n0,i0,_,_⟩:=DataW.trod_int Tryz.underlying3 g0;have i0:[c0]=[Value.int .i64 n0]:=i0;simp only[List.cons.injEq,and_true]at i0;subst i0;obtain⟨n1,i1,_,_⟩:=DataW.trod_int Tryz.underlying3 g1;have i1:[c1]=[Value.int .i64 n1]:=i1;simp only[List.cons.injEq,and_true]at i1;subst i1;obtain⟨x2,b21,a21,n21,k21,b22,a22,n22,k22,i2,G⟩:=qk (Z:=[c2,c3,c4,c5]) g2 rfl;simp only[List.cons.injEq,and_true]at i2;obtain⟨rfl,rfl,rfl,rfl⟩:=i2;exact⟨(n0,n1,x2),_,_,_,_,_,_,_,_,rfl,G⟩
theorem uV{fuel:Nat}{Z:List Value}{x:DataW H×List MemPlace}(h:DataW.trod enc Tryz.prog F8 0 sp hd fuel 23 Z=some x):∃v xs,Z=[v]/\Ex.fW 6 Ex.yA F8 (fun g=>g<F8.heap.size) v xs:=
 nS bi Tryz.underlying23 d9 (fun Z y hy u hu=>by obtain⟨_,_,_,_,_,_,_,_,rfl,_⟩:=hy;simp at hu;rcases hu with rfl|rfl|rfl|rfl|rfl|rfl<;>rfl) (fun h hl=>HO h hl) h
set_option maxRecDepth 100000 in
theorem aCU{base:Nat}{v:Value}{d:DataW H}{p:List MemPlace}(hv:Value.okWide Tryz.prog F8 .any base 23 v)(h:DataW.Trod enc Tryz.prog F8 0 sp hd 23 v d p):∃xs,Ex.fW 6 Ex.yA F8 (fun g=>g<F8.heap.size) v xs:=by
 obtain⟨a,n,c,rfl⟩:=okWide_slice Tryz.underlying23 hv;obtain⟨fuel,hf⟩:=h;obtain⟨v,xs,e,hr⟩:=uV (Z:=[.slice a n c]) hf;simp only[List.cons.injEq,and_true]at e;rw[e];exact⟨xs,hr⟩
set_option maxRecDepth 100000 in
theorem zS{fuel:Nat}{Z:List Value}{x:DataW H×List MemPlace}(h:DataW.trod enc Tryz.prog F8 0 sp hd fuel 146 Z=some x)(hl:Z.length=6):∃y,Ex.yA F8 (fun g=>g<F8.heap.size) Z y:=by
 match Z,hl with
 |[c0,c1,c2,c3,c4,c5],_=>
 obtain⟨xs,k,_,_,_,QM,PM⟩:=DataW.trod_struct Tryz.underlying146 h;have eint:Tryz.prog.cellsOf 3=1:=by kernel_rfl
 have eRat:Tryz.prog.cellsOf 48=4:=by kernel_rfl
 have lenF:xs.length=3:=QM
 match xs,lenF with
 |[y0,y1,y2],_=>
  have g0:DataW.trod enc Tryz.prog F8 0 sp hd k 3 (List.take (Tryz.prog.cellsOf 3) [c0,c1,c2,c3,c4,c5])=some y0:=PM 0 _ rfl;rw[eint]at g0;have g1:DataW.trod enc Tryz.prog F8 0 sp hd k 3 (List.take (Tryz.prog.cellsOf 3) (List.drop (Tryz.prog.cellsOf 3) [c0,c1,c2,c3,c4,c5]))=some y1:=PM 1 _ rfl;rw[eint]at g1;have g2:DataW.trod enc Tryz.prog F8 0 sp hd k 48 (List.take (Tryz.prog.cellsOf 48) (List.drop (Tryz.prog.cellsOf 3+Tryz.prog.cellsOf 3) [c0,c1,c2,c3,c4,c5]))=some y2:=PM 2 _ rfl;rw[eRat,eint]at g2;obtain⟨n0,i0,_,_⟩:=DataW.trod_int Tryz.underlying3 g0;have i0:[c0]=[Value.int .i64 n0]:=i0;simp only[List.cons.injEq,and_true]at i0;subst i0;obtain⟨n1,i1,_,_⟩:=DataW.trod_int Tryz.underlying3 g1;have i1:[c1]=[Value.int .i64 n1]:=i1;simp only[List.cons.injEq,and_true]at i1;subst i1;obtain⟨x2,b21,a21,n21,k21,b22,a22,n22,k22,i2,G⟩:=qk (Z:=[c2,c3,c4,c5]) g2 rfl;simp only[List.cons.injEq,and_true]at i2;obtain⟨rfl,rfl,rfl,rfl⟩:=i2;exact⟨(n0,n1,x2),_,_,_,_,_,_,_,_,rfl,G⟩
theorem oP{fuel:Nat}{Z:List Value}{x:DataW H×List MemPlace}(h:DataW.trod enc Tryz.prog F8 0 sp hd fuel 24 Z=some x):∃v xs,Z=[v]/\Ex.fW 6 Ex.yA F8 (fun g=>g<F8.heap.size) v xs:=
 nS bi Tryz.underlying24 d9 (fun Z y hy u hu=>by obtain⟨_,_,_,_,_,_,_,_,rfl,_⟩:=hy;simp at hu;rcases hu with rfl|rfl|rfl|rfl|rfl|rfl<;>rfl) (fun h hl=>zS h hl) h
set_option maxRecDepth 100000 in
theorem aAA{base:Nat}{v:Value}{d:DataW H}{p:List MemPlace}(hv:Value.okWide Tryz.prog F8 .any base 24 v)(h:DataW.Trod enc Tryz.prog F8 0 sp hd 24 v d p):∃xs,Ex.fW 6 Ex.yA F8 (fun g=>g<F8.heap.size) v xs:=by
 obtain⟨a,n,c,rfl⟩:=okWide_slice Tryz.underlying24 hv;obtain⟨fuel,hf⟩:=h;obtain⟨v,xs,e,hr⟩:=oP (Z:=[.slice a n c]) hf;simp only[List.cons.injEq,and_true]at e;rw[e];exact⟨xs,hr⟩
set_option maxRecDepth 100000 in
theorem Dd{fuel:Nat}{Z:List Value}{x:DataW H×List MemPlace}(h:DataW.trod enc Tryz.prog F8 0 sp hd fuel 26 Z=some x)(hl:Z.length=3):∃vn vb vs f,Z=[vn,vb,vs]/\Ex.sn F8 (fun g=>g<F8.heap.size) vn vb vs f:=by
 match Z,hl with
 |[c0,c1,c2],_=>
 obtain⟨xs,k,_,_,_,QM,PM⟩:=DataW.trod_struct Tryz.underlying26 h;have eLNode:Tryz.prog.cellsOf 22=1:=by kernel_rfl
 have eLBar:Tryz.prog.cellsOf 23=1:=by kernel_rfl
 have eLSupport:Tryz.prog.cellsOf 24=1:=by kernel_rfl
 have lenF:xs.length=3:=QM
 match xs,lenF with
 |[y0,y1,y2],_=>
  have g0:DataW.trod enc Tryz.prog F8 0 sp hd k 22 (List.take (Tryz.prog.cellsOf 22) [c0,c1,c2])=some y0:=PM 0 _ rfl;rw[eLNode]at g0;have g1:DataW.trod enc Tryz.prog F8 0 sp hd k 23 (List.take (Tryz.prog.cellsOf 23) (List.drop (Tryz.prog.cellsOf 22) [c0,c1,c2]))=some y1:=PM 1 _ rfl;rw[eLBar,eLNode]at g1;have g2:DataW.trod enc Tryz.prog F8 0 sp hd k 24 (List.take (Tryz.prog.cellsOf 24) (List.drop (Tryz.prog.cellsOf 22+Tryz.prog.cellsOf 23) [c0,c1,c2]))=some y2:=PM 2 _ rfl;rw[eLSupport,eLNode,eLBar]at g2;obtain⟨v0,x0,i0,h0⟩:=tD (Z:=[c0]) g0;simp only[List.cons.injEq,and_true]at i0;subst i0;obtain⟨v1,x1,i1,I⟩:=uV (Z:=[c1]) g1;simp only[List.cons.injEq,and_true]at i1;subst i1;obtain⟨v2,x2,i2,G⟩:=oP (Z:=[c2]) g2;simp only[List.cons.injEq,and_true]at i2;subst i2;exact⟨_,_,_,⟨x0,x1,x2⟩,rfl,h0,I,G⟩
theorem ET{v:Value}{d:DataW H}{p:List MemPlace}(h:DataW.Trod enc Tryz.prog F8 0 sp hd 26 v d p)(hc:∃Z,v= .agg Z/\Z.size=Tryz.prog.cellsOf 26):∃vn vb vs f,v= .agg #[vn,vb,vs]/\Ex.sn F8 (fun g=>g<F8.heap.size) vn vb vs f:=by
 obtain⟨fuel,hf⟩:=h;obtain⟨Z,rfl,hs⟩:=hc;have eT:Tryz.prog.cellsOf 26=3:=by kernel_rfl
 rw[eT]at hs;obtain⟨vn,vb,vs,f,e,hr⟩:=Dd (Z:=Z.toList) hf (by simpa using hs);exact⟨vn,vb,vs,f,by rw[<-Array.toArray_toList (xs:=Z),e],hr⟩
theorem EU{fuel:Nat}{Z:List Value}{x:DataW H×List MemPlace}(h:DataW.trod enc Tryz.prog F8 0 sp hd fuel 40 Z=some x):∃v xs,Z=[v]/\Ex.fy F8 (fun g=>g<F8.heap.size) v xs:=by
 have c26:Tryz.prog.cellsOf 48=4:=by kernel_rfl
 rcases open_slice Tryz.underlying40 h with⟨rfl,_⟩|⟨a,n,c,m,k,Fd,Pl,rfl,_,VL,SB,hm,_,Ux⟩
 .exact⟨_,[],rfl,[],⟨bv,bv,bv,none,0,rfl,aP _,bv⟩,rfl,bv,bv⟩
 .have Vx:n<=m:=by rw[hm];split<;>omega
  obtain⟨l,hl,U⟩:=tC n (fun j (y:List Value×(Int×Int))=>y.1.length=4/\Ex.EN F8 (fun g=>g<F8.heap.size) y.1 y.2/\∀(i:Nat) u,y.1[i]? =some u->F8.cell? (a.add (j*4+i))=some u) (fun j hj=>by
   obtain⟨Z,I,G⟩:=Ux j be;rw[c26]at I;obtain⟨_,hlen,Pt⟩:=World.cells?_some I;obtain⟨y,hy⟩:=qk G hlen;refine⟨(Z,y),hlen,hy,fun i u D=>?_⟩;have hi4:i<Z.length:=(aE.1 D).1;have:=Pt i be;rw[<-Ex.JQ,this]
   exact D)
  have h4:∀Z∈l.map (·.1),Z.length=4:=fun Z hc=>by
   obtain⟨y,hy,rfl⟩:=aV.1 hc;obtain⟨j,hj⟩:=aU hy;exact(U j y hj).1
  have PM:=Ex.eP h4;rw[aL,hl]at PM;refine⟨_,l.map (·.2),rfl,l.map (·.1),⟨by rw[aL];unfold maxLen at *;omega,by rw[PM,aL,hl],fun u hu=>?_,some a,c,by rw[aL,hl],by rw[aL,hl];omega,fun j u hj=>⟨a,rfl,?_⟩⟩,bv,h4,fun j Z y k1 k2=>?_⟩
  .obtain⟨Z,hc,hu⟩:=List.mem_flatten.1 hu;obtain⟨y,hy,rfl⟩:=aV.1 hc;obtain⟨j,hj⟩:=aU hy;obtain⟨_,⟨b1,a1,n1,k1,b2,a2,n2,k2,e,_⟩,_⟩:=U j y hj;rw[e]at hu;simp at hu;rcases hu with rfl|rfl|rfl|rfl<;>rfl
  .have Wp:=(aE.1 hj).1;obtain⟨y,hy⟩:∃y,l[j / 4]? =some y:=⟨_,aD be⟩
   obtain⟨h5,h6,h7⟩:=U _ y hy;obtain⟨u2,Uo⟩:∃u,y.1[j % 4]? =some u:=⟨_,aD be⟩
   have h8:=Ex.flat_get h4 (show (l.map (·.1))[j / 4]? =some y.1 by rw[aO,hy];rfl) (j % 4) u2 Uo;rw[show j / 4*4+j % 4=j by omega,hj]at h8;injection h8 with h8;subst h8;have h9:=h7 _ _ Uo;rw[show j / 4*4+j % 4=j by omega]at h9;have:=HN h9;rw[Ex.dO]at this;exact⟨this,h9⟩
  .rw[aO]at k1 k2
   cases Ps:l[j]? with
   |none=>rw[Ps]at k1;cases k1
   |some y2=>
    rw[Ps]at k1 k2;injection k1 with k1;injection k2 with k2;subst k1 k2;exact(U j y2 Ps).2.1
set_option maxRecDepth 100000 in
theorem HP{base:Nat}{v:Value}{d:DataW H}{p:List MemPlace}(hv:Value.okWide Tryz.prog F8 .any base 40 v)(h:DataW.Trod enc Tryz.prog F8 0 sp hd 40 v d p):∃xs,Ex.fy F8 (fun g=>g<F8.heap.size) v xs:=by
 obtain⟨a,n,c,rfl⟩:=okWide_slice Tryz.underlying40 hv;obtain⟨fuel,hf⟩:=h;obtain⟨v,xs,e,hr⟩:=EU (Z:=[.slice a n c]) hf;simp only[List.cons.injEq,and_true]at e;rw[e];exact⟨xs,hr⟩
end

set_option maxRecDepth 100000 in
theorem lifted(os:Os)(started:os.Started)(H:Type)(enc:TypeId×Value->H):
  ReturnsInHanded {} Tryz.checked os 7 .any (Rows.staticsStiffnessSpec.pre6 enc Tryz.prog Tryz.f7 Rows.staticsStiffnessRow.domain false) (Rows.staticsStiffnessSpec.post enc Tryz.prog Tryz.f7 false true false false):=by
 refine returnsInHanded_of_change (C:=Tryz.checked) own started d9 Tryz.func7
  (ChangeSpec.witness6 (enc:=enc) (C:=Tryz.checked) false ⟨#[],#[.agg #[.slice none 0 0,.slice none 0 0,.slice none 0 0],.slice none 0 0],[]⟩ 8 d9 d9 d9 d9) ?_
 intro F8 base args ds gs before Yu hW hcnd _;have SF:∀(j:Nat) t v,Tryz.f7.params[j]? =some t->args[j]? =some v->Value.okWide Tryz.prog F8 .any base t v:=Yu;have hW':=hW;obtain⟨p,q,hA0,hV,rfl,hfz,hnd⟩:=hW;have hA:DataW.TrodAll enc Tryz.prog F8 0 (fun _=>true) true Tryz.f7.params.toList args.toList ds p:=hA0;rw[Tryz.params7]at hA SF;obtain⟨v0,vs0_,d0,ds0,p0,q0,Sw,rfl,rfl,h0,r0⟩:=trodAll_cons hA;obtain⟨v1,vs1_,d1,ds1,p1,q1,rfl,rfl,rfl,I,r1⟩:=trodAll_cons r0;obtain⟨rfl,rfl,rfl⟩:=trodAll_nil r1;obtain rfl:args= #[v0,v1]:=by cases args;simp_all
 obtain⟨rfl,rfl⟩:=trodVars_none hV;have k0:=h0;have k1:=I;have lt0:∀x∈p0,x.block<F8.heap.size:=by obtain⟨m,hm⟩:=k0;exact DataW.trod_lt m _ _ _ hm
 have lt1:∀x∈p1,x.block<F8.heap.size:=by obtain⟨m,hm⟩:=k1;exact DataW.trod_lt m _ _ _ hm
 obtain⟨vn0,vb0,vs0,f0,rfl,y0⟩:=ET h0 (okWide_struct Tryz.underlying26 (SF 0 26 v0 rfl rfl));obtain⟨M1,y1⟩:=HP (SF 1 40 v1 rfl rfl) I;clear hA0 Yu;refine((Ex.vw (S:=fun g=>g<F8.heap.size) (fun _ h=>h) y0 y1).2).mono fun e W' ⟨v,L,TP,hv⟩=>?_;subst L;subst hv;have cZ:Below F8.heap.size F8 W':=Ext.cZ TP (aP _);exact⟨_,rfl,_,_,_,[],_,[],hW',trodAll_mk1 (shut_bool Tryz.underlying4 _),(trodAll_cons_mk (Below.trod laidOut d9 (aK d9) k0 cZ lt0) (trodAll_cons_mk (Below.trod laidOut d9 (aK d9) k1 cZ lt1) trodAll_mk0)),rfl,cZ.frame _,fun h=>by cases h⟩

theorem aEB{a b:Bool}(ha:a=true)(hb:b=true):(a&&b)=true:=by rw[ha,hb];rfl
set_option maxHeartbeats 4000000 in
set_option maxRecDepth 100000 in
theorem closed:joinedFacts Tryz.pinned.checked.prog 7 Tryz.f7 Rows.staticsStiffnessSpec Rows.staticsStiffnessRow=true:=by
 unfold joinedFacts
 iterate 31 refine aEB ?_ ?_
 all_goals decide +kernel
theorem aEC:Rows.staticsStiffnessRow.holds Tryz.pinned (OpenSpec.ofChange Rows.staticsStiffnessSpec):=
 OpenClaim.holds_of_wide 7 Tryz.f7 rfl rfl rfl rfl rfl rfl rfl ⟨rfl,rfl,rfl,rfl,rfl⟩ rfl rfl rfl rfl rfl d9 Tryz.func7 closed
  (aK d9) (by unfold Func.isWrapper;first|(rw [aM (by decide +kernel)];kernel_rfl)|(rw [aJ (by decide +kernel)];exact⟨rfl,rfl⟩))
  (fun os started H enc _=>lifted os started H enc)

/-- The law holds for every input. -/
theorem staticsStiffness_holds:Rows.StaticsStiffnessSaid:=aEC
#print axioms staticsStiffness_holds
end Go.Proofs.YtgkpbdkechfgmaaGreat
