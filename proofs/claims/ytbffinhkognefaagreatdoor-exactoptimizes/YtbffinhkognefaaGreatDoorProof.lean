/- putlog/putloglaw01.ExactOptimizes returns true for every input, and its arguments read behind the call as they read before; the listed variables are tied to the program's text. No condition. -/
import Derived.Test.YtbffinhkognefaaGreatDoorCards
import Derived.Test.YtbffinhkognefaaGreatDoorTie
import Derived.ProofKit
import Derived.WalkKit
import Derived.OpenShut
import Derived.ShutString
import Derived.ChangeOld
import Derived.Below
import Derived.Deep.SlicePairs
import Derived.Lay
import Derived.SevenTiedAt
import Derived.Test.YtbffinhkognefaaGreatDoorP19
namespace Go.Proofs.YtbffinhkognefaaGreatDoor
open Go.ChangeShapes Go.WideShapes Go.ChangeAt Go.RowKit Go.Deep Go.Sx

theorem own:ownKnob Tryz.prog.godebug=none:=by kernel_rfl
theorem laidOut:laidOutB Tryz.prog=true:=by kernel_rfl

theorem FH{w:World}{a:Addr}{v:Value}(h:w.cell? a=some v):a.block<w.heap.size:=by
 apply Decidable.byContradiction;intro U;have A:w.heap[a.block]? =none:=Array.getElem?_eq_none be;unfold World.cell? at h;rw[A]at h
 cases h
theorem tK{α:Type}(n:Nat)(P:Nat->α->Prop)(h:∀j,j<n->∃x,P j x):∃l:List α,l.length=n/\∀(j:Nat) (x:α),l[j]? =some x->P j x:=by
 induction n with
 |zero=>exact⟨[],rfl,ce⟩
 |succ n ih=>
  obtain⟨l,Y,I⟩:=ih fun j hj=>h j be;obtain⟨x,E⟩:=h n be;refine⟨l++[x],by simp[Y],fun j y hy=>?_⟩;rcases aW j n with hj|hj
  .rw[aN be]at hy;exact I j y hy
  .rw[aP be]at hy;have:j=n:=by
    have:=(aH.1 hy).1;simp at this;omega
   subst this;rw[Y,bY]at hy;simp at hy;rw[<-hy];exact E
section
variable{H:Type}{enc:TypeId×Value->H}{A':World}{sp:Nat->Bool}{hd:Bool}
theorem CM{fuel:Nat}{cs:List Value}{x:DataW H×List MemPlace}(h:DataW.trod enc Tryz.prog A' 0 sp hd fuel 31 cs=some x):∃v ls,cs=[v]/\Ex.dZ A' (fun g=>g<A'.heap.size) v ls:=by
 rcases open_slice1 Tryz.underlying31 d9 h with⟨rfl,_⟩|⟨a,n,c,m,k,A9,D,Pl,rfl,_,VI,SF,hm,_,hel⟩
 .exact⟨_,[],rfl,Ex.dZ.nil _ _⟩
 .have Xo:n<=m:=by rw[hm];split<;>omega
  obtain⟨xs,hl,E⟩:=tK n (fun j (y:Nat)=>A9 j= .int .u32 (y:Int)/\y<4294967296) (fun j hj=>by
   obtain⟨y,Y,_,h3⟩:=DataW.trod_int Tryz.underlying118 (hel j be).2;injection Y with Y;have h3:0<=y/\y<=4294967295:=by simpa [Lit.wf,IntKind.min,IntKind.max,IntKind.signed,IntKind.bits]using h3
   exact⟨y.toNat,by rw[Y];congr 1;omega,be⟩)
  subst hl;refine⟨_,xs,rfl,fun y hy=>?_,by unfold maxLen at SF;omega,some a,c,rfl,be,fun j y hj=>⟨a,rfl,?_⟩⟩
  .obtain⟨j,hj,rfl⟩:=List.mem_iff_getElem.1 hy;exact(E j _ (aE hj)).2
  .have Wm:=(aH.1 hj).1;have Y:=(hel j be).1;rw[(E j y hj).1]at Y;refine⟨?_,Y⟩;have:=FH Y
   rwa [Ex.df]at this
theorem yn{v:Value}{d:DataW H}{p:List MemPlace}(h:DataW.Trod enc Tryz.prog A' 0 sp hd 33 v d p)(hc:∃cs,v= .agg cs/\cs.size=Tryz.prog.cellsOf 33):∃z,Ex.jg A' (fun g=>g<A'.heap.size) v z:=by
 obtain⟨fuel,hf⟩:=h;obtain⟨cs,rfl,hs⟩:=hc;have c24:Tryz.prog.cellsOf 33=2:=by kernel_rfl
 rw[c24]at hs;obtain⟨c0,c1,rfl⟩:∃c0 c1,cs= #[c0,c1]:=by
  obtain⟨l⟩:=cs
  match l,hs with
  |[c0,c1],_=>exact⟨c0,c1,rfl⟩
 have hf:DataW.trod enc Tryz.prog A' 0 sp hd fuel 33 [c0,c1]=some (d,p):=hf;obtain⟨xs,k,_,_,_,SS,Qp⟩:=DataW.trod_struct Tryz.underlying33 hf;have c4:Tryz.prog.cellsOf 4=1:=by kernel_rfl
 have c22:Tryz.prog.cellsOf 31=1:=by kernel_rfl
 have len2:xs.length=2:=SS
 match xs,len2 with
 |[y0,y1],_=>
  have g0:DataW.trod enc Tryz.prog A' 0 sp hd k 4 (List.take (Tryz.prog.cellsOf 4) [c0,c1])=some y0:=Qp 0 _ rfl;have g1:DataW.trod enc Tryz.prog A' 0 sp hd k 31 (List.take (Tryz.prog.cellsOf 31) [c1])=some y1:=Qp 1 _ rfl;rw[c4]at g0;rw[c22]at g1;obtain⟨b,e0,_⟩:=DataW.trod_bool Tryz.underlying4 g0;obtain⟨v,ls,e1,hl⟩:=CM g1;have e0:[c0]=[Value.bool b]:=e0;have e1:[c1]=[v]:=e1;simp only[List.cons.injEq,and_true]at e0 e1;subst e0 e1;exact⟨Ex.sg b (Ex.val ls),b,ls,⟨_,rfl,hl⟩,rfl⟩
theorem HS{v:Value}{d:DataW H}{p:List MemPlace}(h:DataW.Trod enc Tryz.prog A' 0 sp hd 35 v d p)(hc:∃cs,v= .agg cs/\cs.size=Tryz.prog.cellsOf 35):∃a b,Ex.ky A' (fun g=>g<A'.heap.size) v a b:=by
 obtain⟨fuel,hf⟩:=h;obtain⟨cs,rfl,hs⟩:=hc;have c26:Tryz.prog.cellsOf 35=4:=by kernel_rfl
 rw[c26]at hs;obtain⟨c0,c1,c2,c3,rfl⟩:∃c0 c1 c2 c3,cs= #[c0,c1,c2,c3]:=by
  obtain⟨l⟩:=cs
  match l,hs with
  |[c0,c1,c2,c3],_=>exact⟨c0,c1,c2,c3,rfl⟩
 have hf:DataW.trod enc Tryz.prog A' 0 sp hd fuel 35 [c0,c1,c2,c3]=some (d,p):=hf;obtain⟨xs,k,_,_,_,SS,Qp⟩:=DataW.trod_struct Tryz.underlying35 hf;have c24:Tryz.prog.cellsOf 33=2:=by kernel_rfl
 have len2:xs.length=2:=SS
 match xs,len2 with
 |[y0,y1],_=>
  have g0:DataW.trod enc Tryz.prog A' 0 sp hd k 33 (List.take (Tryz.prog.cellsOf 33) [c0,c1,c2,c3])=some y0:=Qp 0 _ rfl;have g1:DataW.trod enc Tryz.prog A' 0 sp hd k 33 (List.take (Tryz.prog.cellsOf 33) [c2,c3])=some y1:=Qp 1 _ rfl;rw[c24]at g0 g1;obtain⟨z0,i0⟩:=yn (v:=.agg #[c0,c1]) ⟨k,g0⟩ ⟨_,rfl,by rw[c24];rfl⟩;obtain⟨z1,i1⟩:=yn (v:=.agg #[c2,c3]) ⟨k,g1⟩ ⟨_,rfl,by rw[c24];rfl⟩;obtain⟨b0,w0,_,_,e0,_⟩:=i0.B8;obtain⟨b1,w1,_,_,e1,_⟩:=i1.B8;simp only[Value.agg.injEq,Array.mk.injEq,List.cons.injEq,and_true]at e0 e1;obtain⟨rfl,rfl⟩:=e0;obtain⟨rfl,rfl⟩:=e1;exact⟨z0,z1,_,_,_,_,rfl,i0,i1⟩
theorem FI{fuel:Nat}{cs:List Value}{x:DataW H×List MemPlace}(h:DataW.trod enc Tryz.prog A' 0 sp hd fuel 35 cs=some x)(hl:cs.length=4):∃y:Int×Int,Ex.zO A' (fun g=>g<A'.heap.size) cs y:=by
 match cs,hl with
 |[c0,c1,c2,c3],_=>
  obtain⟨a,b,hr⟩:=HS (v:=.agg #[c0,c1,c2,c3]) (d:=x.1) (p:=x.2) ⟨fuel,h⟩ ⟨_,rfl,by rw[show Tryz.prog.cellsOf 35=4 by kernel_rfl];rfl⟩;obtain⟨b1,a1,n1,k1,b2,a2,n2,k2,e⟩:=hr.shape;simp only[Value.agg.injEq,Array.mk.injEq,List.cons.injEq,and_true]at e;obtain⟨rfl,rfl,rfl,rfl⟩:=e;exact⟨(a,b),b1,a1,n1,k1,b2,a2,n2,k2,rfl,hr⟩
theorem pD{fuel:Nat}{cs:List Value}{x:DataW H×List MemPlace}(h:DataW.trod enc Tryz.prog A' 0 sp hd fuel 23 cs=some x):∃v xs,cs=[v]/\Ex.dK A' (fun g=>g<A'.heap.size) v xs:=by
 have c26:Tryz.prog.cellsOf 35=4:=by kernel_rfl
 rcases open_slice Tryz.underlying23 h with⟨rfl,_⟩|⟨a,n,c,m,k,D,Pl,rfl,_,VI,SF,hm,_,hel⟩
 .exact⟨_,[],rfl,[],⟨ce,ce,ce,none,0,rfl,aq _,ce⟩,rfl,ce,ce⟩
 .have Xo:n<=m:=by rw[hm];split<;>omega
  obtain⟨l,hl,E⟩:=tK n (fun j (y:List Value×(Int×Int))=>y.1.length=4/\Ex.zO A' (fun g=>g<A'.heap.size) y.1 y.2/\∀(i:Nat) u,y.1[i]? =some u->A'.cell? (a.add (j*4+i))=some u) (fun j hj=>by
   obtain⟨cs,Y,I⟩:=hel j be;rw[c26]at Y;obtain⟨_,hlen,QA⟩:=World.cells?_some Y;obtain⟨y,hy⟩:=FI I hlen;refine⟨(cs,y),hlen,hy,fun i u N=>?_⟩;have hi4:i<cs.length:=(aH.1 N).1;have:=QA i be;rw[<-Ex.CD,this]
   exact N)
  have h4:∀cs∈l.map (·.1),cs.length=4:=fun cs hc=>by
   obtain⟨y,hy,rfl⟩:=bE.1 hc;obtain⟨j,hj⟩:=az hy;exact(E j y hj).1
  have Qp:=Ex.fN h4;rw[aO,hl]at Qp;refine⟨_,l.map (·.2),rfl,l.map (·.1),⟨by rw[aO];unfold maxLen at *;omega,by rw[Qp,aO,hl],fun u hu=>?_,some a,c,by rw[aO,hl],by rw[aO,hl];omega,fun j u hj=>⟨a,rfl,?_⟩⟩,ce,h4,fun j cs y k1 k2=>?_⟩
  .obtain⟨cs,hc,hu⟩:=List.mem_flatten.1 hu;obtain⟨y,hy,rfl⟩:=bE.1 hc;obtain⟨j,hj⟩:=az hy;obtain⟨_,⟨b1,a1,n1,k1,b2,a2,n2,k2,e,_⟩,_⟩:=E j y hj;rw[e]at hu;simp at hu;rcases hu with rfl|rfl|rfl|rfl<;>rfl
  .have hj4:=(aH.1 hj).1;obtain⟨y,hy⟩:∃y,l[j / 4]? =some y:=⟨_,aE be⟩
   obtain⟨h5,h6,h7⟩:=E _ y hy;obtain⟨u2,ZI⟩:∃u,y.1[j % 4]? =some u:=⟨_,aE be⟩
   have h8:=Ex.flat_get h4 (show (l.map (·.1))[j / 4]? =some y.1 by rw[aU,hy];rfl) (j % 4) u2 ZI;rw[show j / 4*4+j % 4=j by omega,hj]at h8;injection h8 with h8;subst h8;have h9:=h7 _ _ ZI;rw[show j / 4*4+j % 4=j by omega]at h9;have:=FH h9;rw[Ex.df]at this;exact⟨this,h9⟩
  .rw[aU]at k1 k2
   cases Qu:l[j]? with
   |none=>rw[Qu]at k1;cases k1
   |some y2=>
    rw[Qu]at k1 k2;injection k1 with k1;injection k2 with k2;subst k1 k2;exact(E j y2 Qu).2.1
theorem FJ{fuel:Nat}{cs:List Value}{x:DataW H×List MemPlace}(h:DataW.trod enc Tryz.prog A' 0 sp hd fuel 22 cs=some x):∃v M,cs=[v]/\Ex.dR A' (fun g=>g<A'.heap.size) v M:=by
 rcases open_slice1 Tryz.underlying22 d9 h with⟨rfl,_⟩|⟨a,n,c,m,k,A9,D,Pl,rfl,_,VI,SF,hm,_,hel⟩
 .exact⟨_,[],rfl,[],⟨ce,ce,ce,none,0,rfl,aq _,ce⟩,rfl,ce⟩
 .have Xo:n<=m:=by rw[hm];split<;>omega
  obtain⟨l,hl,E⟩:=tK n (fun j (y:Value×List (Int×Int))=>A'.cell? (a.add j)=some y.1/\Ex.dK A' (fun g=>g<A'.heap.size) y.1 y.2) (fun j hj=>by
   obtain⟨Y,I⟩:=hel j be;obtain⟨v,xs,e,hr⟩:=pD I;simp only[List.cons.injEq,and_true]at e
   exact⟨(A9 j,xs),Y,by rw[e];exact hr⟩)
  refine⟨_,l.map (·.2),rfl,l.map (·.1),⟨by rw[aO];unfold maxLen at *;omega,ce,fun u hu=>?_,some a,c,by rw[aO,hl],by rw[aO,hl];omega,fun j u hj=>⟨a,rfl,?_⟩⟩,ce,fun j u y k1 k2=>?_⟩
  .obtain⟨y,hy,rfl⟩:=bE.1 hu;obtain⟨j,hj⟩:=az hy;obtain⟨_,hr⟩:=E j y hj;obtain⟨a2,c2,e,_⟩:=Ex.dN.shape hr;rw[e];rfl
  .rw[aU]at hj
   cases Qu:l[j]? with
   |none=>rw[Qu]at hj;cases hj
   |some y2=>
    rw[Qu]at hj;injection hj with hj;subst hj;have h9:=(E j y2 Qu).1;have:=FH h9;rw[Ex.df]at this;exact⟨this,h9⟩
  .rw[aU]at k1 k2
   cases Qu:l[j]? with
   |none=>rw[Qu]at k1;cases k1
   |some y2=>
    rw[Qu]at k1 k2;injection k1 with k1;injection k2 with k2;subst k1 k2;exact(E j y2 Qu).2
set_option maxRecDepth 100000 in
theorem zQ{v:Value}{d:DataW H}{p:List MemPlace}(h:DataW.Trod enc Tryz.prog A' 0 sp hd 25 v d p)(hc:∃cs,v= .agg cs/\cs.size=Tryz.prog.cellsOf 25):
  ∃v0 x0 v1 x1 v2 x2,v= .agg #[v0,v1,v2]/\Ex.dR A' (fun g=>g<A'.heap.size) v0 x0/\Ex.dK A' (fun g=>g<A'.heap.size) v1 x1/\Ex.dK A' (fun g=>g<A'.heap.size) v2 x2:=by
 obtain⟨fuel,hf⟩:=h;obtain⟨cs,rfl,hs⟩:=hc;have eT:Tryz.prog.cellsOf 25=3:=by kernel_rfl
 rw[eT]at hs;obtain⟨c0,c1,c2,rfl⟩:∃c0 c1 c2,cs= #[c0,c1,c2]:=by
  obtain⟨l⟩:=cs
  match l,hs with
  |[c0,c1,c2],_=>exact⟨c0,c1,c2,rfl⟩
 have hf:DataW.trod enc Tryz.prog A' 0 sp hd fuel 25 [c0,c1,c2]=some (d,p):=hf;obtain⟨xs,k,_,_,_,SS,Qp⟩:=DataW.trod_struct Tryz.underlying25 hf;have eLLRat:Tryz.prog.cellsOf 22=1:=by kernel_rfl
 have eLRat:Tryz.prog.cellsOf 23=1:=by kernel_rfl
 have lenF:xs.length=3:=SS
 match xs,lenF with
 |[y0,y1,y2],_=>
  have g0:DataW.trod enc Tryz.prog A' 0 sp hd k 22 (List.take (Tryz.prog.cellsOf 22) [c0,c1,c2])=some y0:=Qp 0 _ rfl;rw[eLLRat]at g0;have g1:DataW.trod enc Tryz.prog A' 0 sp hd k 23 (List.take (Tryz.prog.cellsOf 23) (List.drop (Tryz.prog.cellsOf 22) [c0,c1,c2]))=some y1:=Qp 1 _ rfl;rw[eLRat,eLLRat]at g1;have g2:DataW.trod enc Tryz.prog A' 0 sp hd k 23 (List.take (Tryz.prog.cellsOf 23) (List.drop (Tryz.prog.cellsOf 22+Tryz.prog.cellsOf 23) [c0,c1,c2]))=some y2:=Qp 2 _ rfl;rw[eLRat,eLLRat]at g2;obtain⟨v0,x0,e0,h0⟩:=FJ (cs:=[c0]) g0;simp only[List.cons.injEq,and_true]at e0;obtain⟨v1,x1,e1,Y⟩:=pD (cs:=[c1]) g1;simp only[List.cons.injEq,and_true]at e1;obtain⟨v2,x2,e2,I⟩:=pD (cs:=[c2]) g2;simp only[List.cons.injEq,and_true]at e2;subst e0;subst e1;subst e2;exact⟨_,_,_,_,_,_,rfl,h0,Y,I⟩
end

set_option maxRecDepth 100000 in
theorem lifted(os:Os)(started:os.Started)(H:Type)(enc:TypeId×Value->H):
  ReturnsInHanded {} Tryz.checked os 4 .any (fun w args=>(Rows.exactOptimizesSpec.pre enc Tryz.prog Tryz.f4 Rows.exactOptimizesRow.domain false w args/\laidMetH Tryz.prog Rows.exactOptimizesRow.laid w)/\sizedMet enc Tryz.prog Tryz.f4 (OpenSpec.ofChange Rows.exactOptimizesSpec) false w args)
   (Rows.exactOptimizesSpec.post enc Tryz.prog Tryz.f4 false true false false):=by
 refine returnsInHanded_of_change_and (C:=Tryz.checked) (X:=fun w _=>laidMetH Tryz.prog Rows.exactOptimizesRow.laid w) (fun _ _ _ hh h=>h.of_heap hh) own started d9 Tryz.func4
  (ChangeSpec.witness_shaped (enc:=enc) (C:=Tryz.checked) (os:=os) (X:=fun w _=>laidMetH Tryz.prog Rows.exactOptimizesRow.laid w) false (World.laidAll Tryz.prog os Rows.exactOptimizesRow.laid) #[.agg #[.slice none 0 0,.slice none 0 0,.slice none 0 0]] 8 (World.laidAll_os _ _ _)
   (World.shaped_of_ZipB d9 d9) d9 d9 d9
   (by rw[MakeChecks.laidMetH_plain _ _ _ d9];exact laidMet_laidAll _ d9 d9)) ?_
 intro A' base args ds gs before hval0 hW hcnd _ hL _;have SH:∀(j:Nat) t v,Tryz.f4.params[j]? =some t->args[j]? =some v->Value.okWide Tryz.prog A' .any base t v:=hval0;have hW':=hW;obtain⟨p,q,hA0,hV,rfl,hfz,hnd⟩:=hW;have hA:DataW.TrodAll enc Tryz.prog A' 0 (fun _=>true) true Tryz.f4.params.toList args.toList ds p:=hA0;rw[Tryz.params4]at hA SH;obtain⟨v0,vs0,d0,ds0,p0,q0,Ue,rfl,rfl,h0,r0⟩:=trodAll_cons hA;obtain⟨rfl,rfl,rfl⟩:=trodAll_nil r0;obtain rfl:args= #[v0]:=by cases args;simp_all
 obtain⟨rfl,rfl⟩:=trodVars_none hV;have k0:=h0;have lt0:∀x∈p0,x.block<A'.heap.size:=by obtain⟨m,hm⟩:=k0;exact DataW.trod_lt m _ _ _ hm
 obtain⟨_,_,_,_,_,_,rfl,y00,y01,y02⟩:=zQ h0 (okWide_struct Tryz.underlying25 (SH 0 25 v0 rfl rfl));clear hA0 hval0;refine((Ex.xu (fun _ h=>h) y00 y01 y02).2).mono fun e W' ⟨v,L,Uv,hv⟩=>?_;subst L;subst hv;have cj:Below A'.heap.size A' W':=Ext.cj Uv (aq _);exact⟨_,rfl,_,_,_,[],_,[],hW',trodAll_mk1 (shut_bool Tryz.underlying4 _),(trodAll_cons_mk (Below.trod laidOut d9 (aJ d9) k0 cj lt0) trodAll_mk0),rfl,cj.frame _,fun h=>by cases h⟩

theorem over:Rows.exactOptimizesRow.holds Tryz.pinned (OpenSpec.ofChange Rows.exactOptimizesSpec):=
 OpenClaim.holds_of_wide 4 Tryz.f4 rfl rfl rfl rfl rfl rfl rfl ⟨rfl,rfl,rfl,rfl,rfl⟩ rfl rfl rfl rfl rfl d9 Tryz.func4 d9
  (aJ d9) (by unfold Func.isWrapper;first|(rw [aM (by decide +kernel)];kernel_rfl)|(rw [aI (by decide +kernel)];exact⟨rfl,rfl⟩))
  (fun os started H enc _=>lifted os started H enc)

/-- The law holds for every input. -/
theorem exactOptimizes_holds:Rows.ExactOptimizesCardSaid:=
 Claim7.holds_tied_plain_at .later [] [.data,.pinned] true (true, "0bc75af6b6dec3d403eda55c1824110a830e2f3b055f3be94a7c3e109a489aed") false over (fun _ h=>by cases h) d9 (fun _ h=>by cases h) exactOptimizes_row_tie rfl ⟨rfl,rfl⟩ d9 rfl
  (fun f fn hf Ui=>by
   obtain rfl:f=4:=Option.some.inj ((show Tryz.prog.funcNamed "putlog/putloglaw01.ExactOptimizes" =some 4 by kernel_rfl).symm.trans hf) |>.symm
   obtain rfl:fn=Tryz.f4:=(Option.some.inj (Tryz.func4.symm.trans Ui)).symm
   exact⟨d9,fun j t ht=>by
    rw[Tryz.params4]at ht;have hm:t∈[25]:=by simpa using Array.mem_of_getElem? ht
    have Qw:([25].all fun u=> !Tryz.prog.wantsStandIn u)=true:=by kernel_rfl
    exact(show Tryz.prog.wantsStandIn t=false by simpa using cD.1 Qw t hm)⟩)
  d9
#print axioms exactOptimizes_holds
end Go.Proofs.YtbffinhkognefaaGreatDoor
