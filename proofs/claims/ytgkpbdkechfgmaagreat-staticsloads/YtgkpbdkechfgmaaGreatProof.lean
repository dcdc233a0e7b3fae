/- putlog/putloglaw05.StaticsLoads returns true for every input, and its arguments read behind the call as they read before. No condition. -/
import Derived.Test.YtgkpbdkechfgmaaGreatRows
import Derived.ProofKit
import Derived.WalkKit
import Derived.OpenShut
import Derived.ShutString
import Derived.ChangeOld
import Derived.Below
import Derived.Deep.SlicePairs
import Derived.Test.YtgkpbdkechfgmaaGreatP14
namespace Go.Proofs.YtgkpbdkechfgmaaGreat
open Go.ChangeShapes Go.WideShapes Go.ChangeAt Go.RowKit Go.Deep Go.Sx

theorem own:ownKnob Tryz.prog.godebug=none:=by kernel_rfl
theorem laidOut:laidOutB Tryz.prog=true:=by kernel_rfl

theorem Ch{w:World}{a:Addr}{v:Value}(h:w.cell? a=some v):a.block<w.heap.size:=by
 apply Decidable.byContradiction;intro Z;have hb:w.heap[a.block]? =none:=Array.getElem?_eq_none be;unfold World.cell? at h;rw[hb]at h
 cases h
theorem pw{α:Type}(n:Nat)(P:Nat->α->Prop)(h:∀j,j<n->∃x,P j x):∃l:List α,l.length=n/\∀(j:Nat) (x:α),l[j]? =some x->P j x:=by
 induction n with
 |zero=>exact⟨[],rfl,bv⟩
 |succ n ih=>
  obtain⟨l,Y,X⟩:=ih fun j hj=>h j be;obtain⟨x,G⟩:=h n be;refine⟨l++[x],by simp[Y],fun j y hy=>?_⟩;rcases aR j n with hj|hj
  .rw[aK be]at hy;exact X j y hy
  .rw[aQ be]at hy;have:j=n:=by
    have:=(aD.1 hy).1;simp at this;omega
   subst this;rw[Y,bP]at hy;simp at hy;rw[<-hy];exact G
section
variable{H:Type}{enc:TypeId×Value->H}{F9:World}{sp:Nat->Bool}{hd:Bool}
theorem zi{fuel:Nat}{L:List Value}{x:DataW H×List MemPlace}(h:DataW.trod enc Tryz.prog F9 0 sp hd fuel 44 L=some x):∃v ls,L=[v]/\Ex.dF F9 (fun g=>g<F9.heap.size) v ls:=by
 rcases open_slice1 Tryz.underlying44 d4 h with⟨rfl,_⟩|⟨a,n,c,m,k,A9,FS,Pl,rfl,_,Sm,Sd,hm,_,RG⟩
 .exact⟨_,[],rfl,Ex.dF.nil _ _⟩
 .have UT:n<=m:=by rw[hm];split<;>omega
  obtain⟨xs,hl,G⟩:=pw n (fun j (y:Nat)=>A9 j= .int .u32 (y:Int)/\y<4294967296) (fun j hj=>by
   obtain⟨y,Y,_,N⟩:=DataW.trod_int Tryz.underlying292 (RG j be).2;injection Y with Y;have N:0<=y/\y<=4294967295:=by simpa [Lit.wf,IntKind.min,IntKind.max,IntKind.signed,IntKind.bits]using N
   exact⟨y.toNat,by rw[Y];congr 1;omega,be⟩)
  subst hl;refine⟨_,xs,rfl,fun y hy=>?_,by unfold maxLen at Sd;omega,some a,c,rfl,be,fun j y hj=>⟨a,rfl,?_⟩⟩
  .obtain⟨j,hj,rfl⟩:=List.mem_iff_getElem.1 hy;exact(G j _ (aB hj)).2
  .have Sb:=(aD.1 hj).1;have Y:=(RG j be).1;rw[(G j y hj).1]at Y;refine⟨?_,Y⟩;have:=Ch Y
   rwa [Ex.eV]at this
theorem wK{v:Value}{d:DataW H}{p:List MemPlace}(h:DataW.Trod enc Tryz.prog F9 0 sp hd 46 v d p)(hc:∃L,v= .agg L/\L.size=Tryz.prog.cellsOf 46):∃z,Ex.jR F9 (fun g=>g<F9.heap.size) v z:=by
 obtain⟨fuel,hf⟩:=h;obtain⟨L,rfl,hs⟩:=hc;have c24:Tryz.prog.cellsOf 46=2:=by kernel_rfl
 rw[c24]at hs;obtain⟨c0,c1,rfl⟩:∃c0 c1,L= #[c0,c1]:=by
  obtain⟨l⟩:=L
  match l,hs with
  |[c0,c1],_=>exact⟨c0,c1,rfl⟩
 have hf:DataW.trod enc Tryz.prog F9 0 sp hd fuel 46 [c0,c1]=some (d,p):=hf;obtain⟨xs,k,_,_,_,PJ,OL⟩:=DataW.trod_struct Tryz.underlying46 hf;have c4:Tryz.prog.cellsOf 4=1:=by kernel_rfl
 have c22:Tryz.prog.cellsOf 44=1:=by kernel_rfl
 have len2:xs.length=2:=PJ
 match xs,len2 with
 |[y0,y1],_=>
  have g0:DataW.trod enc Tryz.prog F9 0 sp hd k 4 (List.take (Tryz.prog.cellsOf 4) [c0,c1])=some y0:=OL 0 _ rfl;have g1:DataW.trod enc Tryz.prog F9 0 sp hd k 44 (List.take (Tryz.prog.cellsOf 44) [c1])=some y1:=OL 1 _ rfl;rw[c4]at g0;rw[c22]at g1;obtain⟨b,e0,_⟩:=DataW.trod_bool Tryz.underlying4 g0;obtain⟨v,ls,e1,hl⟩:=zi g1;have e0:[c0]=[Value.bool b]:=e0;have e1:[c1]=[v]:=e1;simp only[List.cons.injEq,and_true]at e0 e1;subst e0 e1;exact⟨Ex.sg b (Ex.val ls),b,ls,⟨_,rfl,hl⟩,rfl⟩
theorem gX{α:Type}{P:World->(Nat->Prop)->List Value->α->Prop}{t e k:Nat}(E:0<k)(hu:Tryz.prog.underlying t=some (.slice e))(hc:Tryz.prog.cellsOf e=k)(hP1:∀L y,P F9 (fun g=>g<F9.heap.size) L y->∀u∈L,u.oneCell'=true)
  (hE:∀{fuel:Nat} {L:List Value} {x:DataW H×List MemPlace},DataW.trod enc Tryz.prog F9 0 sp hd fuel e L=some x->L.length=k->∃y,P F9 (fun g=>g<F9.heap.size) L y) {fuel:Nat} {L:List Value} {x:DataW H×List MemPlace}
  (h:DataW.trod enc Tryz.prog F9 0 sp hd fuel t L=some x):∃v xs,L=[v]/\Ex.dW k P F9 (fun g=>g<F9.heap.size) v xs:=by
 rcases open_slice hu h with⟨rfl,_⟩|⟨a,n,c,m,k2,FS,Pl,rfl,_,Sm,Sd,hm,_,RG⟩
 .exact⟨_,[],rfl,[],⟨bv,bv,bv,none,0,rfl,aN _,bv⟩,rfl,bv,bv⟩
 .have UT:n<=m:=by rw[hm];split<;>omega
  obtain⟨l,hl,G⟩:=pw n (fun j (y:List Value×α)=>y.1.length=k/\P F9 (fun g=>g<F9.heap.size) y.1 y.2/\∀(i:Nat) u,y.1[i]? =some u->F9.cell? (a.add (j*k+i))=some u) (fun j hj=>by
   obtain⟨L,Y,X⟩:=RG j be;rw[hc]at Y;obtain⟨_,hlen,Oz⟩:=World.cells?_some Y;obtain⟨y,hy⟩:=hE X hlen;refine⟨(L,y),hlen,hy,fun i u D=>?_⟩;have hi4:i<L.length:=(aD.1 D).1;have:=Oz i be;rw[<-Ex.KK,this]
   exact D)
  have h4:∀L∈l.map (·.1),L.length=k:=fun L hc=>by
   obtain⟨y,hy,rfl⟩:=aV.1 hc;obtain⟨j,hj⟩:=aT hy;exact(G j y hj).1
  have OL:=Ex.ed h4;rw[aM,hl]at OL;refine⟨_,l.map (·.2),rfl,l.map (·.1),⟨by rw[aM];unfold maxLen at *;omega,by rw[OL,aM,hl],fun u hu=>?_,some a,c,by rw[aM,hl],by rw[aM,hl];omega,fun j u hj=>⟨a,rfl,?_⟩⟩,bv,h4,fun j L y k1 k2=>?_⟩
  .obtain⟨L,hc,hu⟩:=List.mem_flatten.1 hu;obtain⟨y,hy,rfl⟩:=aV.1 hc;obtain⟨j,hj⟩:=aT hy;exact hP1 _ _ (G j y hj).2.1 u hu
  .have hj4:=(aD.1 hj).1;rw[OL]at hj4;have hdm:j / k*k+j % k=j:=by rw[bU];exact Nat.div_add_mod j k
   have hjn:j / k<n:=Nat.div_lt_of_lt_mul (by rw[bU];exact hj4);have UJ:=bz j E;obtain⟨y,hy⟩:∃y,l[j / k]? =some y:=⟨_,aB be⟩
   obtain⟨h5,h6,h7⟩:=G _ y hy;obtain⟨u2,UU⟩:∃u,y.1[j % k]? =some u:=⟨_,aB be⟩
   have h8:=Ex.uw h4 (show (l.map (·.1))[j / k]? =some y.1 by rw[aO,hy];rfl) (j % k) u2 UU;rw[hdm,hj]at h8;injection h8 with h8;subst h8;have h9:=h7 _ _ UU;rw[hdm]at h9;have:=Ch h9;rw[Ex.eV]at this;exact⟨this,h9⟩
  .rw[aO]at k1 k2
   cases Ps:l[j]? with
   |none=>rw[Ps]at k1;cases k1
   |some y2=>
    rw[Ps]at k1 k2;injection k1 with k1;injection k2 with k2;subst k1 k2;exact(G j y2 Ps).2.1
set_option maxRecDepth 100000 in
theorem AR{fuel:Nat}{L:List Value}{x:DataW H×List MemPlace}(h:DataW.trod enc Tryz.prog F9 0 sp hd fuel 195 L=some x)(hl:L.length=3):∃y,Ex.Gn F9 (fun g=>g<F9.heap.size) L y:=by
 match L,hl with
 |[c0,c1,c2],_=>
 obtain⟨xs,k,_,_,_,PJ,OL⟩:=DataW.trod_struct Tryz.underlying195 h;have eint:Tryz.prog.cellsOf 3=1:=by kernel_rfl
 have lenF:xs.length=3:=PJ
 match xs,lenF with
 |[y0,y1,y2],_=>
  have g0:DataW.trod enc Tryz.prog F9 0 sp hd k 3 (List.take (Tryz.prog.cellsOf 3) [c0,c1,c2])=some y0:=OL 0 _ rfl;rw[eint]at g0;have g1:DataW.trod enc Tryz.prog F9 0 sp hd k 3 (List.take (Tryz.prog.cellsOf 3) (List.drop (Tryz.prog.cellsOf 3) [c0,c1,c2]))=some y1:=OL 1 _ rfl;rw[eint]at g1;have g2:DataW.trod enc Tryz.prog F9 0 sp hd k 3 (List.take (Tryz.prog.cellsOf 3) (List.drop (Tryz.prog.cellsOf 3+Tryz.prog.cellsOf 3) [c0,c1,c2]))=some y2:=OL 2 _ rfl;rw[eint]at g2;obtain⟨n0,i0,_,_⟩:=DataW.trod_int Tryz.underlying3 g0;have i0:[c0]=[Value.int .i64 n0]:=i0;simp only[List.cons.injEq,and_true]at i0;subst i0;obtain⟨n1,i1,_,_⟩:=DataW.trod_int Tryz.underlying3 g1;have i1:[c1]=[Value.int .i64 n1]:=i1;simp only[List.cons.injEq,and_true]at i1;subst i1;obtain⟨n2,i2,_,_⟩:=DataW.trod_int Tryz.underlying3 g2;have i2:[c2]=[Value.int .i64 n2]:=i2;simp only[List.cons.injEq,and_true]at i2;subst i2;exact⟨(n0,n1,n2),rfl⟩
theorem pz{fuel:Nat}{L:List Value}{x:DataW H×List MemPlace}(h:DataW.trod enc Tryz.prog F9 0 sp hd fuel 22 L=some x):∃v xs,L=[v]/\Ex.dW 3 Ex.Gn F9 (fun g=>g<F9.heap.size) v xs:=
 gX bi Tryz.underlying22 d4 (fun L y hy u hu=>by have hy:L=_:=hy;subst hy;simp at hu;rcases hu with rfl|rfl|rfl<;>rfl) (fun h hl=>AR h hl) h
set_option maxRecDepth 100000 in
theorem aAB{base:Nat}{v:Value}{d:DataW H}{p:List MemPlace}(hv:Value.okWide Tryz.prog F9 .any base 22 v)(h:DataW.Trod enc Tryz.prog F9 0 sp hd 22 v d p):∃xs,Ex.dW 3 Ex.Gn F9 (fun g=>g<F9.heap.size) v xs:=by
 obtain⟨a,n,c,rfl⟩:=okWide_slice Tryz.underlying22 hv;obtain⟨fuel,hf⟩:=h;obtain⟨v,xs,e,hr⟩:=pz (L:=[.slice a n c]) hf;simp only[List.cons.injEq,and_true]at e;rw[e];exact⟨xs,hr⟩
theorem EN{v:Value}{d:DataW H}{p:List MemPlace}(h:DataW.Trod enc Tryz.prog F9 0 sp hd 48 v d p)(hc:∃L,v= .agg L/\L.size=Tryz.prog.cellsOf 48):∃a b,Ex.iC F9 (fun g=>g<F9.heap.size) v a b:=by
 obtain⟨fuel,hf⟩:=h;obtain⟨L,rfl,hs⟩:=hc;have c26:Tryz.prog.cellsOf 48=4:=by kernel_rfl
 rw[c26]at hs;obtain⟨c0,c1,c2,c3,rfl⟩:∃c0 c1 c2 c3,L= #[c0,c1,c2,c3]:=by
  obtain⟨l⟩:=L
  match l,hs with
  |[c0,c1,c2,c3],_=>exact⟨c0,c1,c2,c3,rfl⟩
 have hf:DataW.trod enc Tryz.prog F9 0 sp hd fuel 48 [c0,c1,c2,c3]=some (d,p):=hf;obtain⟨xs,k,_,_,_,PJ,OL⟩:=DataW.trod_struct Tryz.underlying48 hf;have c24:Tryz.prog.cellsOf 46=2:=by kernel_rfl
 have len2:xs.length=2:=PJ
 match xs,len2 with
 |[y0,y1],_=>
  have g0:DataW.trod enc Tryz.prog F9 0 sp hd k 46 (List.take (Tryz.prog.cellsOf 46) [c0,c1,c2,c3])=some y0:=OL 0 _ rfl;have g1:DataW.trod enc Tryz.prog F9 0 sp hd k 46 (List.take (Tryz.prog.cellsOf 46) [c2,c3])=some y1:=OL 1 _ rfl;rw[c24]at g0 g1;obtain⟨z0,i0⟩:=wK (v:=.agg #[c0,c1]) ⟨k,g0⟩ ⟨_,rfl,by rw[c24];rfl⟩;obtain⟨z1,i1⟩:=wK (v:=.agg #[c2,c3]) ⟨k,g1⟩ ⟨_,rfl,by rw[c24];rfl⟩;obtain⟨b0,w0,_,_,e0,_⟩:=i0.EM;obtain⟨b1,w1,_,_,e1,_⟩:=i1.EM;simp only[Value.agg.injEq,Array.mk.injEq,List.cons.injEq,and_true]at e0 e1;obtain⟨rfl,rfl⟩:=e0;obtain⟨rfl,rfl⟩:=e1;exact⟨z0,z1,_,_,_,_,rfl,i0,i1⟩
theorem tz{fuel:Nat}{L:List Value}{x:DataW H×List MemPlace}(h:DataW.trod enc Tryz.prog F9 0 sp hd fuel 48 L=some x)(hl:L.length=4):∃y:Int×Int,Ex.Nl F9 (fun g=>g<F9.heap.size) L y:=by
 match L,hl with
 |[c0,c1,c2,c3],_=>
  obtain⟨a,b,hr⟩:=EN (v:=.agg #[c0,c1,c2,c3]) (d:=x.1) (p:=x.2) ⟨fuel,h⟩ ⟨_,rfl,by rw[show Tryz.prog.cellsOf 48=4 by kernel_rfl];rfl⟩;obtain⟨b1,a1,n1,k1,b2,a2,n2,k2,e⟩:=hr.shape;simp only[Value.agg.injEq,Array.mk.injEq,List.cons.injEq,and_true]at e;obtain⟨rfl,rfl,rfl,rfl⟩:=e;exact⟨(a,b),b1,a1,n1,k1,b2,a2,n2,k2,rfl,hr⟩
set_option maxRecDepth 100000 in
theorem Ci{fuel:Nat}{L:List Value}{x:DataW H×List MemPlace}(h:DataW.trod enc Tryz.prog F9 0 sp hd fuel 144 L=some x)(hl:L.length=6):∃y,Ex.tp F9 (fun g=>g<F9.heap.size) L y:=by
 match L,hl with
 |[c0,c1,c2,c3,c4,c5],_=>
 obtain⟨xs,k,_,_,_,PJ,OL⟩:=DataW.trod_struct Tryz.underlying144 h;have eint:Tryz.prog.cellsOf 3=1:=by kernel_rfl
 have eRat:Tryz.prog.cellsOf 48=4:=by kernel_rfl
 have lenF:xs.length=3:=PJ
 match xs,lenF with
 |[y0,y1,y2],_=>
  have g0:DataW.trod enc Tryz.prog F9 0 sp hd k 3 (List.take (Tryz.prog.cellsOf 3) [c0,c1,c2,c3,c4,c5])=some y0:=OL 0 _ rfl;rw[eint]at g0;have g1:DataW.trod enc Tryz.prog F9 0 sp hd k 3 (List.take (Tryz.prog.cellsOf 3) (List.drop (Tryz.prog.cellsOf 3) [c0,c1,c2,c3,c4,c5]))=some y1:=OL 1 _ rfl;rw[eint]at g1;have g2:DataW.trod enc Tryz.prog F9 0 sp hd k 48 (List.take (Tryz.prog.cellsOf 48) (List.drop (Tryz.prog.cellsOf 3+Tryz.prog.cellsOf 3) [c0,c1,c2,c3,c4,c5]))=some y2:=OL 2 _ rfl;rw[eRat,eint]at g2;obtain⟨n0,i0,_,_⟩:=DataW.trod_int Tryz.underlying3 g0;have i0:[c0]=[Value.int .i64 n0]:=i0;simp only[List.cons.injEq,and_true]at i0;subst i0;obtain⟨n1,i1,_,_⟩:=DataW.trod_int Tryz.underlying3 g1;have i1:[c1]=[Value.int .i64 n1]:=i1;simp only[List.cons.injEq,and_true]at i1;subst i1;obtain⟨x2,b21,a21,n21,k21,b22,a22,n22,k22,i2,X⟩:=tz (L:=[c2,c3,c4,c5]) g2 rfl;simp only[List.cons.injEq,and_true]at i2;obtain⟨rfl,rfl,rfl,rfl⟩:=i2;exact⟨(n0,n1,x2),_,_,_,_,_,_,_,_,rfl,X⟩
theorem rE{fuel:Nat}{L:List Value}{x:DataW H×List MemPlace}(h:DataW.trod enc Tryz.prog F9 0 sp hd fuel 23 L=some x):∃v xs,L=[v]/\Ex.dW 6 Ex.tp F9 (fun g=>g<F9.heap.size) v xs:=
 gX bi Tryz.underlying23 d4 (fun L y hy u hu=>by obtain⟨_,_,_,_,_,_,_,_,rfl,_⟩:=hy;simp at hu;rcases hu with rfl|rfl|rfl|rfl|rfl|rfl<;>rfl) (fun h hl=>Ci h hl) h
set_option maxRecDepth 100000 in
theorem aAF{base:Nat}{v:Value}{d:DataW H}{p:List MemPlace}(hv:Value.okWide Tryz.prog F9 .any base 23 v)(h:DataW.Trod enc Tryz.prog F9 0 sp hd 23 v d p):∃xs,Ex.dW 6 Ex.tp F9 (fun g=>g<F9.heap.size) v xs:=by
 obtain⟨a,n,c,rfl⟩:=okWide_slice Tryz.underlying23 hv;obtain⟨fuel,hf⟩:=h;obtain⟨v,xs,e,hr⟩:=rE (L:=[.slice a n c]) hf;simp only[List.cons.injEq,and_true]at e;rw[e];exact⟨xs,hr⟩
set_option maxRecDepth 100000 in
theorem vD{fuel:Nat}{L:List Value}{x:DataW H×List MemPlace}(h:DataW.trod enc Tryz.prog F9 0 sp hd fuel 146 L=some x)(hl:L.length=6):∃y,Ex.tp F9 (fun g=>g<F9.heap.size) L y:=by
 match L,hl with
 |[c0,c1,c2,c3,c4,c5],_=>
 obtain⟨xs,k,_,_,_,PJ,OL⟩:=DataW.trod_struct Tryz.underlying146 h;have eint:Tryz.prog.cellsOf 3=1:=by kernel_rfl
 have eRat:Tryz.prog.cellsOf 48=4:=by kernel_rfl
 have lenF:xs.length=3:=PJ
 match xs,lenF with
 |[y0,y1,y2],_=>
  have g0:DataW.trod enc Tryz.prog F9 0 sp hd k 3 (List.take (Tryz.prog.cellsOf 3) [c0,c1,c2,c3,c4,c5])=some y0:=OL 0 _ rfl;rw[eint]at g0;have g1:DataW.trod enc Tryz.prog F9 0 sp hd k 3 (List.take (Tryz.prog.cellsOf 3) (List.drop (Tryz.prog.cellsOf 3) [c0,c1,c2,c3,c4,c5]))=some y1:=OL 1 _ rfl;rw[eint]at g1;have g2:DataW.trod enc Tryz.prog F9 0 sp hd k 48 (List.take (Tryz.prog.cellsOf 48) (List.drop (Tryz.prog.cellsOf 3+Tryz.prog.cellsOf 3) [c0,c1,c2,c3,c4,c5]))=some y2:=OL 2 _ rfl;rw[eRat,eint]at g2;obtain⟨n0,i0,_,_⟩:=DataW.trod_int Tryz.underlying3 g0;have i0:[c0]=[Value.int .i64 n0]:=i0;simp only[List.cons.injEq,and_true]at i0;subst i0;obtain⟨n1,i1,_,_⟩:=DataW.trod_int Tryz.underlying3 g1;have i1:[c1]=[Value.int .i64 n1]:=i1;simp only[List.cons.injEq,and_true]at i1;subst i1;obtain⟨x2,b21,a21,n21,k21,b22,a22,n22,k22,i2,X⟩:=tz (L:=[c2,c3,c4,c5]) g2 rfl;simp only[List.cons.injEq,and_true]at i2;obtain⟨rfl,rfl,rfl,rfl⟩:=i2;exact⟨(n0,n1,x2),_,_,_,_,_,_,_,_,rfl,X⟩
theorem mD{fuel:Nat}{L:List Value}{x:DataW H×List MemPlace}(h:DataW.trod enc Tryz.prog F9 0 sp hd fuel 24 L=some x):∃v xs,L=[v]/\Ex.dW 6 Ex.tp F9 (fun g=>g<F9.heap.size) v xs:=
 gX bi Tryz.underlying24 d4 (fun L y hy u hu=>by obtain⟨_,_,_,_,_,_,_,_,rfl,_⟩:=hy;simp at hu;rcases hu with rfl|rfl|rfl|rfl|rfl|rfl<;>rfl) (fun h hl=>vD h hl) h
set_option maxRecDepth 100000 in
theorem aAA{base:Nat}{v:Value}{d:DataW H}{p:List MemPlace}(hv:Value.okWide Tryz.prog F9 .any base 24 v)(h:DataW.Trod enc Tryz.prog F9 0 sp hd 24 v d p):∃xs,Ex.dW 6 Ex.tp F9 (fun g=>g<F9.heap.size) v xs:=by
 obtain⟨a,n,c,rfl⟩:=okWide_slice Tryz.underlying24 hv;obtain⟨fuel,hf⟩:=h;obtain⟨v,xs,e,hr⟩:=mD (L:=[.slice a n c]) hf;simp only[List.cons.injEq,and_true]at e;rw[e];exact⟨xs,hr⟩
set_option maxRecDepth 100000 in
theorem zj{fuel:Nat}{L:List Value}{x:DataW H×List MemPlace}(h:DataW.trod enc Tryz.prog F9 0 sp hd fuel 26 L=some x)(hl:L.length=3):∃vn vb vs f,L=[vn,vb,vs]/\Ex.pj F9 (fun g=>g<F9.heap.size) vn vb vs f:=by
 match L,hl with
 |[c0,c1,c2],_=>
 obtain⟨xs,k,_,_,_,PJ,OL⟩:=DataW.trod_struct Tryz.underlying26 h;have eLNode:Tryz.prog.cellsOf 22=1:=by kernel_rfl
 have eLBar:Tryz.prog.cellsOf 23=1:=by kernel_rfl
 have eLSupport:Tryz.prog.cellsOf 24=1:=by kernel_rfl
 have lenF:xs.length=3:=PJ
 match xs,lenF with
 |[y0,y1,y2],_=>
  have g0:DataW.trod enc Tryz.prog F9 0 sp hd k 22 (List.take (Tryz.prog.cellsOf 22) [c0,c1,c2])=some y0:=OL 0 _ rfl;rw[eLNode]at g0;have g1:DataW.trod enc Tryz.prog F9 0 sp hd k 23 (List.take (Tryz.prog.cellsOf 23) (List.drop (Tryz.prog.cellsOf 22) [c0,c1,c2]))=some y1:=OL 1 _ rfl;rw[eLBar,eLNode]at g1;have g2:DataW.trod enc Tryz.prog F9 0 sp hd k 24 (List.take (Tryz.prog.cellsOf 24) (List.drop (Tryz.prog.cellsOf 22+Tryz.prog.cellsOf 23) [c0,c1,c2]))=some y2:=OL 2 _ rfl;rw[eLSupport,eLNode,eLBar]at g2;obtain⟨v0,x0,i0,h0⟩:=pz (L:=[c0]) g0;simp only[List.cons.injEq,and_true]at i0;subst i0;obtain⟨v1,x1,i1,Y⟩:=rE (L:=[c1]) g1;simp only[List.cons.injEq,and_true]at i1;subst i1;obtain⟨v2,x2,i2,X⟩:=mD (L:=[c2]) g2;simp only[List.cons.injEq,and_true]at i2;subst i2;exact⟨_,_,_,⟨x0,x1,x2⟩,rfl,h0,Y,X⟩
theorem AS{v:Value}{d:DataW H}{p:List MemPlace}(h:DataW.Trod enc Tryz.prog F9 0 sp hd 26 v d p)(hc:∃L,v= .agg L/\L.size=Tryz.prog.cellsOf 26):∃vn vb vs f,v= .agg #[vn,vb,vs]/\Ex.pj F9 (fun g=>g<F9.heap.size) vn vb vs f:=by
 obtain⟨fuel,hf⟩:=h;obtain⟨L,rfl,hs⟩:=hc;have eT:Tryz.prog.cellsOf 26=3:=by kernel_rfl
 rw[eT]at hs;obtain⟨vn,vb,vs,f,e,hr⟩:=zj (L:=L.toList) hf (by simpa using hs);exact⟨vn,vb,vs,f,by rw[<-Array.toArray_toList (xs:=L),e],hr⟩
set_option maxRecDepth 100000 in
theorem rF{fuel:Nat}{L:List Value}{x:DataW H×List MemPlace}(h:DataW.trod enc Tryz.prog F9 0 sp hd fuel 184 L=some x)(hl:L.length=4):∃a b c d:Int,L=[.int .i64 a,.int .i64 b,.int .i64 c,.int .i64 d]:=by
 match L,hl with
 |[c0,c1,c2,c3],_=>
 obtain⟨xs,k,_,_,_,PJ,OL⟩:=DataW.trod_array Tryz.underlying184 h;have cI:Tryz.prog.cellsOf 3=1:=by kernel_rfl
 rw[cI]at OL
 match xs,PJ with
 |[y0,y1,y2,y3],_=>
  obtain⟨n0,e0,_,_⟩:=DataW.trod_int Tryz.underlying3 (OL 0 bi);obtain⟨n1,e1,_,_⟩:=DataW.trod_int Tryz.underlying3 (OL 1 bi);obtain⟨n2,e2,_,_⟩:=DataW.trod_int Tryz.underlying3 (OL 2 bi);obtain⟨n3,e3,_,_⟩:=DataW.trod_int Tryz.underlying3 (OL 3 bi);have i0:[c0]=[Value.int .i64 n0]:=e0;have i1:[c1]=[Value.int .i64 n1]:=e1;have i2:[c2]=[Value.int .i64 n2]:=e2;have i3:[c3]=[Value.int .i64 n3]:=e3;simp only[List.cons.injEq,and_true]at i0 i1 i2 i3;subst i0 i1 i2 i3;exact⟨n0,n1,n2,n3,rfl⟩
set_option maxRecDepth 100000 in
theorem AT{fuel:Nat}{L:List Value}{x:DataW H×List MemPlace}(h:DataW.trod enc Tryz.prog F9 0 sp hd fuel 186 L=some x)(hl:L.length=5):∃y,Ex.Gv F9 (fun g=>g<F9.heap.size) L y:=by
 match L,hl with
 |[c0,c1,c2,c3,c4],_=>
 obtain⟨xs,k,_,_,_,PJ,OL⟩:=DataW.trod_struct Tryz.underlying186 h;have efour:Tryz.prog.cellsOf 184=4:=by kernel_rfl
 have eint:Tryz.prog.cellsOf 3=1:=by kernel_rfl
 have lenF:xs.length=2:=PJ
 match xs,lenF with
 |[y0,y1],_=>
  have g0:DataW.trod enc Tryz.prog F9 0 sp hd k 184 (List.take (Tryz.prog.cellsOf 184) [c0,c1,c2,c3,c4])=some y0:=OL 0 _ rfl;rw[efour]at g0;have g1:DataW.trod enc Tryz.prog F9 0 sp hd k 3 (List.take (Tryz.prog.cellsOf 3) (List.drop (Tryz.prog.cellsOf 184) [c0,c1,c2,c3,c4]))=some y1:=OL 1 _ rfl;rw[eint,efour]at g1;obtain⟨m0a,m0b,m0c,m0d,i0⟩:=rF (L:=[c0,c1,c2,c3]) g0 rfl;simp only[List.cons.injEq,and_true]at i0;obtain⟨rfl,rfl,rfl,rfl⟩:=i0;obtain⟨n1,i1,_,_⟩:=DataW.trod_int Tryz.underlying3 g1;have i1:[c4]=[Value.int .i64 n1]:=i1;simp only[List.cons.injEq,and_true]at i1;subst i1;exact⟨((m0a,m0b,m0c,m0d),n1),rfl⟩
theorem qA{fuel:Nat}{L:List Value}{x:DataW H×List MemPlace}(h:DataW.trod enc Tryz.prog F9 0 sp hd fuel 68 L=some x):∃v xs,L=[v]/\Ex.dW 5 Ex.Gv F9 (fun g=>g<F9.heap.size) v xs:=
 gX bi Tryz.underlying68 d4 (fun L y hy u hu=>by have hy:L=_:=hy;subst hy;simp at hu;rcases hu with rfl|rfl|rfl|rfl|rfl<;>rfl) (fun h hl=>AT h hl) h
set_option maxRecDepth 100000 in
theorem aAC{base:Nat}{v:Value}{d:DataW H}{p:List MemPlace}(hv:Value.okWide Tryz.prog F9 .any base 68 v)(h:DataW.Trod enc Tryz.prog F9 0 sp hd 68 v d p):∃xs,Ex.dW 5 Ex.Gv F9 (fun g=>g<F9.heap.size) v xs:=by
 obtain⟨a,n,c,rfl⟩:=okWide_slice Tryz.underlying68 hv;obtain⟨fuel,hf⟩:=h;obtain⟨v,xs,e,hr⟩:=qA (L:=[.slice a n c]) hf;simp only[List.cons.injEq,and_true]at e;rw[e];exact⟨xs,hr⟩
set_option maxRecDepth 100000 in
theorem AU{fuel:Nat}{L:List Value}{x:DataW H×List MemPlace}(h:DataW.trod enc Tryz.prog F9 0 sp hd fuel 191 L=some x)(hl:L.length=8):∃y,Ex.Gw F9 (fun g=>g<F9.heap.size) L y:=by
 match L,hl with
 |[c0,c1,c2,c3,c4,c5,c6,c7],_=>
 obtain⟨xs,k,_,_,_,PJ,OL⟩:=DataW.trod_struct Tryz.underlying191 h;have efour:Tryz.prog.cellsOf 184=4:=by kernel_rfl
 have eint:Tryz.prog.cellsOf 3=1:=by kernel_rfl
 have lenF:xs.length=5:=PJ
 match xs,lenF with
 |[y0,y1,y2,y3,y4],_=>
  have g0:DataW.trod enc Tryz.prog F9 0 sp hd k 184 (List.take (Tryz.prog.cellsOf 184) [c0,c1,c2,c3,c4,c5,c6,c7])=some y0:=OL 0 _ rfl;rw[efour]at g0;have g1:DataW.trod enc Tryz.prog F9 0 sp hd k 3 (List.take (Tryz.prog.cellsOf 3) (List.drop (Tryz.prog.cellsOf 184) [c0,c1,c2,c3,c4,c5,c6,c7]))=some y1:=OL 1 _ rfl;rw[eint,efour]at g1;have g2:DataW.trod enc Tryz.prog F9 0 sp hd k 3 (List.take (Tryz.prog.cellsOf 3) (List.drop (Tryz.prog.cellsOf 184+Tryz.prog.cellsOf 3) [c0,c1,c2,c3,c4,c5,c6,c7]))=some y2:=OL 2 _ rfl;rw[eint,efour]at g2;have g3:DataW.trod enc Tryz.prog F9 0 sp hd k 3 (List.take (Tryz.prog.cellsOf 3) (List.drop (Tryz.prog.cellsOf 184+Tryz.prog.cellsOf 3+Tryz.prog.cellsOf 3) [c0,c1,c2,c3,c4,c5,c6,c7]))=some y3:=OL 3 _ rfl;rw[eint,efour]at g3;have g4:DataW.trod enc Tryz.prog F9 0 sp hd k 3 (List.take (Tryz.prog.cellsOf 3) (List.drop (Tryz.prog.cellsOf 184+Tryz.prog.cellsOf 3+Tryz.prog.cellsOf 3+Tryz.prog.cellsOf 3) [c0,c1,c2,c3,c4,c5,c6,c7]))=some y4:=OL 4 _ rfl;rw[eint,efour]at g4;obtain⟨m0a,m0b,m0c,m0d,i0⟩:=rF (L:=[c0,c1,c2,c3]) g0 rfl;simp only[List.cons.injEq,and_true]at i0;obtain⟨rfl,rfl,rfl,rfl⟩:=i0;obtain⟨n1,i1,_,_⟩:=DataW.trod_int Tryz.underlying3 g1;have i1:[c4]=[Value.int .i64 n1]:=i1;simp only[List.cons.injEq,and_true]at i1;subst i1;obtain⟨n2,i2,_,_⟩:=DataW.trod_int Tryz.underlying3 g2;have i2:[c5]=[Value.int .i64 n2]:=i2;simp only[List.cons.injEq,and_true]at i2;subst i2;obtain⟨n3,i3,_,_⟩:=DataW.trod_int Tryz.underlying3 g3;have i3:[c6]=[Value.int .i64 n3]:=i3;simp only[List.cons.injEq,and_true]at i3;subst i3;obtain⟨n4,i4,_,_⟩:=DataW.trod_int Tryz.underlying3 g4;have i4:[c7]=[Value.int .i64 n4]:=i4;simp only[List.cons.injEq,and_true]at i4;subst i4;exact⟨((m0a,m0b,m0c,m0d),n1,n2,n3,n4),rfl⟩
theorem qB{fuel:Nat}{L:List Value}{x:DataW H×List MemPlace}(h:DataW.trod enc Tryz.prog F9 0 sp hd fuel 69 L=some x):∃v xs,L=[v]/\Ex.dW 8 Ex.Gw F9 (fun g=>g<F9.heap.size) v xs:=
 gX bi Tryz.underlying69 d4 (fun L y hy u hu=>by have hy:L=_:=hy;subst hy;simp at hu;rcases hu with rfl|rfl|rfl|rfl|rfl|rfl|rfl|rfl<;>rfl) (fun h hl=>AU h hl) h
set_option maxRecDepth 100000 in
theorem aAD{base:Nat}{v:Value}{d:DataW H}{p:List MemPlace}(hv:Value.okWide Tryz.prog F9 .any base 69 v)(h:DataW.Trod enc Tryz.prog F9 0 sp hd 69 v d p):∃xs,Ex.dW 8 Ex.Gw F9 (fun g=>g<F9.heap.size) v xs:=by
 obtain⟨a,n,c,rfl⟩:=okWide_slice Tryz.underlying69 hv;obtain⟨fuel,hf⟩:=h;obtain⟨v,xs,e,hr⟩:=qB (L:=[.slice a n c]) hf;simp only[List.cons.injEq,and_true]at e;rw[e];exact⟨xs,hr⟩
set_option maxRecDepth 100000 in
theorem AV{fuel:Nat}{L:List Value}{x:DataW H×List MemPlace}(h:DataW.trod enc Tryz.prog F9 0 sp hd fuel 193 L=some x)(hl:L.length=2):∃y,Ex.Gu F9 (fun g=>g<F9.heap.size) L y:=by
 match L,hl with
 |[c0,c1],_=>
 obtain⟨xs,k,_,_,_,PJ,OL⟩:=DataW.trod_struct Tryz.underlying193 h;have eint:Tryz.prog.cellsOf 3=1:=by kernel_rfl
 have lenF:xs.length=2:=PJ
 match xs,lenF with
 |[y0,y1],_=>
  have g0:DataW.trod enc Tryz.prog F9 0 sp hd k 3 (List.take (Tryz.prog.cellsOf 3) [c0,c1])=some y0:=OL 0 _ rfl;rw[eint]at g0;have g1:DataW.trod enc Tryz.prog F9 0 sp hd k 3 (List.take (Tryz.prog.cellsOf 3) (List.drop (Tryz.prog.cellsOf 3) [c0,c1]))=some y1:=OL 1 _ rfl;rw[eint]at g1;obtain⟨n0,i0,_,_⟩:=DataW.trod_int Tryz.underlying3 g0;have i0:[c0]=[Value.int .i64 n0]:=i0;simp only[List.cons.injEq,and_true]at i0;subst i0;obtain⟨n1,i1,_,_⟩:=DataW.trod_int Tryz.underlying3 g1;have i1:[c1]=[Value.int .i64 n1]:=i1;simp only[List.cons.injEq,and_true]at i1;subst i1;exact⟨(n0,n1),rfl⟩
theorem qC{fuel:Nat}{L:List Value}{x:DataW H×List MemPlace}(h:DataW.trod enc Tryz.prog F9 0 sp hd fuel 70 L=some x):∃v xs,L=[v]/\Ex.dW 2 Ex.Gu F9 (fun g=>g<F9.heap.size) v xs:=
 gX bi Tryz.underlying70 d4 (fun L y hy u hu=>by have hy:L=_:=hy;subst hy;simp at hu;rcases hu with rfl|rfl<;>rfl) (fun h hl=>AV h hl) h
set_option maxRecDepth 100000 in
theorem aAE{base:Nat}{v:Value}{d:DataW H}{p:List MemPlace}(hv:Value.okWide Tryz.prog F9 .any base 70 v)(h:DataW.Trod enc Tryz.prog F9 0 sp hd 70 v d p):∃xs,Ex.dW 2 Ex.Gu F9 (fun g=>g<F9.heap.size) v xs:=by
 obtain⟨a,n,c,rfl⟩:=okWide_slice Tryz.underlying70 hv;obtain⟨fuel,hf⟩:=h;obtain⟨v,xs,e,hr⟩:=qC (L:=[.slice a n c]) hf;simp only[List.cons.injEq,and_true]at e;rw[e];exact⟨xs,hr⟩
set_option maxRecDepth 100000 in
theorem vE{fuel:Nat}{L:List Value}{x:DataW H×List MemPlace}(h:DataW.trod enc Tryz.prog F9 0 sp hd fuel 72 L=some x)(hl:L.length=4):∃v0 n1 v2 v3 x0 x2 x3,L=[v0,.int .i64 n1,v2,v3]/\Ex.sJ F9 (fun g=>g<F9.heap.size) v0 x0/\Ex.sK F9 (fun g=>g<F9.heap.size) v2 x2/\Ex.oC F9 (fun g=>g<F9.heap.size) v3 x3:=by
 match L,hl with
 |[c0,c1,c2,c3],_=>
 obtain⟨xs,k,_,_,_,PJ,OL⟩:=DataW.trod_struct Tryz.underlying72 h;have eLDeck:Tryz.prog.cellsOf 68=1:=by kernel_rfl
 have eint:Tryz.prog.cellsOf 3=1:=by kernel_rfl
 have eLFace:Tryz.prog.cellsOf 69=1:=by kernel_rfl
 have eLWind:Tryz.prog.cellsOf 70=1:=by kernel_rfl
 have lenF:xs.length=4:=PJ
 match xs,lenF with
 |[y0,y1,y2,y3],_=>
  have g0:DataW.trod enc Tryz.prog F9 0 sp hd k 68 (List.take (Tryz.prog.cellsOf 68) [c0,c1,c2,c3])=some y0:=OL 0 _ rfl;rw[eLDeck]at g0;have g1:DataW.trod enc Tryz.prog F9 0 sp hd k 3 (List.take (Tryz.prog.cellsOf 3) (List.drop (Tryz.prog.cellsOf 68) [c0,c1,c2,c3]))=some y1:=OL 1 _ rfl;rw[eint,eLDeck]at g1;have g2:DataW.trod enc Tryz.prog F9 0 sp hd k 69 (List.take (Tryz.prog.cellsOf 69) (List.drop (Tryz.prog.cellsOf 68+Tryz.prog.cellsOf 3) [c0,c1,c2,c3]))=some y2:=OL 2 _ rfl;rw[eLFace,eLDeck,eint]at g2;have g3:DataW.trod enc Tryz.prog F9 0 sp hd k 70 (List.take (Tryz.prog.cellsOf 70) (List.drop (Tryz.prog.cellsOf 68+Tryz.prog.cellsOf 3+Tryz.prog.cellsOf 69) [c0,c1,c2,c3]))=some y3:=OL 3 _ rfl;rw[eLWind,eLDeck,eint,eLFace]at g3;obtain⟨v0,x0,i0,h0⟩:=qA (L:=[c0]) g0;simp only[List.cons.injEq,and_true]at i0;subst i0;obtain⟨n1,i1,_,_⟩:=DataW.trod_int Tryz.underlying3 g1;have i1:[c1]=[Value.int .i64 n1]:=i1;simp only[List.cons.injEq,and_true]at i1;subst i1;obtain⟨v2,x2,i2,X⟩:=qB (L:=[c2]) g2;simp only[List.cons.injEq,and_true]at i2;subst i2;obtain⟨v3,x3,i3,N⟩:=qC (L:=[c3]) g3;simp only[List.cons.injEq,and_true]at i3;subst i3;exact⟨_,_,_,_,x0,x2,x3,rfl,h0,X,N⟩
theorem xE{v:Value}{d:DataW H}{p:List MemPlace}(h:DataW.Trod enc Tryz.prog F9 0 sp hd 72 v d p)(hc:∃L,v= .agg L/\L.size=Tryz.prog.cellsOf 72):∃v0 n1 v2 v3 x0 x2 x3,v= .agg #[v0,.int .i64 n1,v2,v3]/\Ex.sJ F9 (fun g=>g<F9.heap.size) v0 x0/\Ex.sK F9 (fun g=>g<F9.heap.size) v2 x2/\Ex.oC F9 (fun g=>g<F9.heap.size) v3 x3:=by
 obtain⟨fuel,hf⟩:=h;obtain⟨L,rfl,hs⟩:=hc;have eT:Tryz.prog.cellsOf 72=4:=by kernel_rfl
 rw[eT]at hs;obtain⟨v0,n1,v2,v3,x0,x2,x3,e,h0,X,N⟩:=vE (L:=L.toList) hf (by simpa using hs);exact⟨v0,n1,v2,v3,x0,x2,x3,by rw[<-Array.toArray_toList (xs:=L),e],h0,X,N⟩
theorem AW{fuel:Nat}{L:List Value}{x:DataW H×List MemPlace}(h:DataW.trod enc Tryz.prog F9 0 sp hd fuel 37 L=some x):∃v xs,L=[v]/\Ex.tf F9 (fun g=>g<F9.heap.size) v xs:=by
 rcases open_slice1 Tryz.underlying37 d4 h with⟨rfl,_⟩|⟨a,n,c,m,k,A9,FS,Pl,rfl,_,Sm,Sd,hm,_,RG⟩
 .exact⟨_,[],rfl,⟨bv,bv,bv,none,0,rfl,aN _,bv⟩⟩
 .have UT:n<=m:=by rw[hm];split<;>omega
  obtain⟨xs,hl,G⟩:=pw n (fun j (y:Int)=>A9 j= .int .i64 y) (fun j hj=>by
   obtain⟨y,Y,_⟩:=DataW.trod_int Tryz.underlying3 (RG j be).2;injection Y with Y
   exact⟨y,Y⟩)
  subst hl;refine⟨_,xs,rfl,⟨by unfold maxLen at *;omega,by rw[aM,aw],fun u hu=>?_,some a,c,rfl,be,fun j u hj=>⟨a,rfl,?_⟩⟩⟩
  .obtain⟨z,_,rfl⟩:=aV.1 hu;rfl
  .rw[aO]at hj;obtain⟨y,hy,rfl⟩:=Option.map_eq_some_iff.1 hj;have Sb:=(aD.1 hy).1;have Y:=(RG j be).1;rw[G j y hy]at Y;have:=Ch Y;rw[Ex.eV]at this;exact⟨this,Y⟩
set_option maxRecDepth 100000 in
theorem Cj{base:Nat}{v:Value}{d:DataW H}{p:List MemPlace}(hv:Value.okWide Tryz.prog F9 .any base 37 v)(h:DataW.Trod enc Tryz.prog F9 0 sp hd 37 v d p):∃xs,Ex.tf F9 (fun g=>g<F9.heap.size) v xs:=by
 obtain⟨a,n,c,rfl⟩:=okWide_slice Tryz.underlying37 hv;obtain⟨fuel,hf⟩:=h;obtain⟨v,xs,e,hr⟩:=AW (L:=[.slice a n c]) hf;simp only[List.cons.injEq,and_true]at e;rw[e];exact⟨xs,hr⟩
end

set_option maxRecDepth 100000 in
theorem lifted(os:Os)(started:os.Started)(H:Type)(enc:TypeId×Value->H):
  ReturnsInHanded {} Tryz.checked os 5 .any (Rows.staticsLoadsSpec.pre6 enc Tryz.prog Tryz.f5 Rows.staticsLoadsRow.domain false) (Rows.staticsLoadsSpec.post enc Tryz.prog Tryz.f5 false true false false):=by
 refine returnsInHanded_of_change (C:=Tryz.checked) own started d4 Tryz.func5
  (ChangeSpec.witness6 (enc:=enc) (C:=Tryz.checked) false ⟨#[],#[.agg #[.slice none 0 0,.slice none 0 0,.slice none 0 0],.agg #[.slice none 0 0,.int .i64 0,.slice none 0 0,.slice none 0 0],.slice none 0 0],[]⟩ 8 d4 d4 d4 d4) ?_
 intro F9 base args ds gs before VP hW hcnd _;have Up:∀(j:Nat) t v,Tryz.f5.params[j]? =some t->args[j]? =some v->Value.okWide Tryz.prog F9 .any base t v:=VP;have hW':=hW;obtain⟨p,q,hA0,hV,rfl,hfz,hnd⟩:=hW;have hA:DataW.TrodAll enc Tryz.prog F9 0 (fun _=>true) true Tryz.f5.params.toList args.toList ds p:=hA0;rw[Tryz.params5]at hA Up;obtain⟨v0,vs0_,d0,ds0,p0,q0,RN,rfl,rfl,h0,r0⟩:=trodAll_cons hA;obtain⟨v1,vs1_,d1,ds1,p1,q1,rfl,rfl,rfl,Y,r1⟩:=trodAll_cons r0;obtain⟨v2,vs2_,d2,ds2,p2,q2,rfl,rfl,rfl,X,r2⟩:=trodAll_cons r1;obtain⟨rfl,rfl,rfl⟩:=trodAll_nil r2;obtain rfl:args= #[v0,v1,v2]:=by cases args;simp_all
 obtain⟨rfl,rfl⟩:=trodVars_none hV;have k0:=h0;have k1:=Y;have k2:=X;have lt0:∀x∈p0,x.block<F9.heap.size:=by obtain⟨m,hm⟩:=k0;exact DataW.trod_lt m _ _ _ hm
 have lt1:∀x∈p1,x.block<F9.heap.size:=by obtain⟨m,hm⟩:=k1;exact DataW.trod_lt m _ _ _ hm
 have lt2:∀x∈p2,x.block<F9.heap.size:=by obtain⟨m,hm⟩:=k2;exact DataW.trod_lt m _ _ _ hm
 obtain⟨vn0,vb0,vs0,f0,rfl,y0⟩:=AS h0 (okWide_struct Tryz.underlying26 (Up 0 26 v0 rfl rfl));obtain⟨v1a,n1,v1b,v1c,x1a,x1b,x1c,rfl,y1a,y1b,y1c⟩:=xE Y (okWide_struct Tryz.underlying72 (Up 1 72 v1 rfl rfl));obtain⟨M2,y2⟩:=Cj (Up 2 37 v2 rfl rfl) X;clear hA0 VP;refine((Ex.z7 (S:=fun g=>g<F9.heap.size) (fun _ h=>h) y0 y1a y1b y1c y2).2).mono fun e W' ⟨v,R,RW,hv⟩=>?_;subst R;subst hv;have cN:Below F9.heap.size F9 W':=Ext.cN RW (aN _);exact⟨_,rfl,_,_,_,[],_,[],hW',trodAll_mk1 (shut_bool Tryz.underlying4 _),(trodAll_cons_mk (Below.trod laidOut d4 (aE d4) k0 cN lt0) (trodAll_cons_mk (Below.trod laidOut d4 (aE d4) k1 cN lt1) (trodAll_cons_mk (Below.trod laidOut d4 (aE d4) k2 cN lt2) trodAll_mk0))),rfl,cN.frame _,fun h=>by cases h⟩

theorem Nn{a b:Bool}(ha:a=true)(hb:b=true):(a&&b)=true:=by rw[ha,hb];rfl
set_option maxHeartbeats 4000000 in
set_option maxRecDepth 100000 in
theorem closed:joinedFacts Tryz.pinned.checked.prog 5 Tryz.f5 Rows.staticsLoadsSpec Rows.staticsLoadsRow=true:=by
 unfold joinedFacts
 iterate 31 refine Nn ?_ ?_
 all_goals decide +kernel
theorem No:Rows.staticsLoadsRow.holds Tryz.pinned (OpenSpec.ofChange Rows.staticsLoadsSpec):=
 OpenClaim.holds_of_wide 5 Tryz.f5 rfl rfl rfl rfl rfl rfl rfl ⟨rfl,rfl,rfl,rfl,rfl⟩ rfl rfl rfl rfl rfl d4 Tryz.func5 closed
  (aE d4) (by unfold Func.isWrapper;first|(rw [aH (by decide +kernel)];kernel_rfl)|(rw [aF (by decide +kernel)];exact⟨rfl,rfl⟩))
  (fun os started H enc _=>lifted os started H enc)

/-- The law holds for every input. -/
theorem staticsLoads_holds:Rows.StaticsLoadsSaid:=No
#print axioms staticsLoads_holds
end Go.Proofs.YtgkpbdkechfgmaaGreat
