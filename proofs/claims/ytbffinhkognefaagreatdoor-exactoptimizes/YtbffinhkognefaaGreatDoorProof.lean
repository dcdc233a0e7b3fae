/- putlog/putloglaw01.ExactOptimizes returns true for every input, and its arguments read behind the call as they read before; the listed variables are tied to the program's text. No condition. -/
import Derived.Test.YtbffinhkognefaaGreatDoorCards
import Derived.Test.YtbffinhkognefaaGreatDoorTie
import Derived.ProofKit
import Derived.WalkKit
import Derived.OpenShut
import Derived.ShutString
import Derived.ChangeOld
import Derived.Below
import Derived.Deep.SlicePairs
import Derived.Lay
import Derived.SevenTiedAt
import Derived.Test.YtbffinhkognefaaGreatDoorP18
namespace Go.Proofs.YtbffinhkognefaaGreatDoor
open Go.ChangeShapes Go.WideShapes Go.ChangeAt Go.RowKit Go.Deep Go.Sx

theorem own:ownKnob Tryz.prog.godebug=none:=by kernel_rfl
theorem laidOut:laidOutB Tryz.prog=true:=by kernel_rfl

theorem Eh{w:World}{a:Addr}{v:Value}(h:w.cell? a=some v):a.block<w.heap.size:=by
 apply Decidable.byContradiction;intro E;have N:w.heap[a.block]? =none:=Array.getElem?_eq_none be;unfold World.cell? at h;rw[N]at h
 cases h
theorem s8{α:Type}(n:Nat)(P:Nat->α->Prop)(h:∀j,j<n->∃x,P j x):∃l:List α,l.length=n/\∀(j:Nat) (x:α),l[j]? =some x->P j x:=by
 induction n with
 |zero=>exact⟨[],rfl,ce⟩
 |succ n ih=>
  obtain⟨l,Y,I⟩:=ih λj hj=>h j be;obtain⟨x,Z⟩:=h n be;refine⟨l++[x],by simp[Y],λj y hy=>?_⟩;rcases aW j n with hj|hj
  .rw[aN be]at hy;exact I j y hy
  .rw[aP be]at hy;have:j=n:=by
    have:=(aH.1 hy).1;simp at this;omega
   subst this;rw[Y,bV]at hy;simp at hy;rw[<-hy];exact Z
section
variable{H:Type}{enc:TypeId×Value->H}{C8:World}{sp:Nat->Bool}{hd:Bool}
theorem Bn{fuel:Nat}{cs:List Value}{x:DataW H×List MemPlace}(h:DataW.trod enc Tryz.prog C8 0 sp hd fuel 31 cs=some x):∃v ls,cs=[v]/\Ex.dW C8 (λg=>g<C8.heap.size) v ls:=by
 rcases open_slice1 Tryz.underlying31 d9 h with⟨rfl,_⟩|⟨a,n,c,m,k,A9,D,Pl,rfl,_,Uo,Rw,hm,_,hel⟩
 .exact⟨_,[],rfl,Ex.dW.nil _ _⟩
 .have XV:n<=m:=by rw[hm];split<;>omega
  obtain⟨xs,hl,Z⟩:=s8 n (λj (y:Nat)=>A9 j= .int .u32 (y:Int)/\y<4294967296) (λj hj=>by
   obtain⟨y,Y,_,h3⟩:=DataW.trod_int Tryz.underlying118 (hel j be).2;injection Y with Y;have h3:0<=y/\y<=4294967295:=by simpa [Lit.wf,IntKind.min,IntKind.max,IntKind.signed,IntKind.bits]using h3
   exact⟨y.toNat,by rw[Y];congr 1;omega,be⟩)
  subst hl;refine⟨_,xs,rfl,λy hy=>?_,by unfold maxLen at Rw;omega,some a,c,rfl,be,λj y hj=>⟨a,rfl,?_⟩⟩
  .obtain⟨j,hj,rfl⟩:=List.mem_iff_getElem.1 hy;exact(Z j _ (aE hj)).2
  .have WR:=(aH.1 hj).1;have Y:=(hel j be).1;rw[(Z j y hj).1]at Y;refine⟨?_,Y⟩;have:=Eh Y
   rwa [Ex.da]at this
theorem yR{v:Value}{d:DataW H}{p:List MemPlace}(h:DataW.Trod enc Tryz.prog C8 0 sp hd 33 v d p)(hc:∃cs,v= .agg cs/\cs.size=Tryz.prog.cellsOf 33):∃z,Ex.j3 C8 (λg=>g<C8.heap.size) v z:=by
 obtain⟨fuel,hf⟩:=h;obtain⟨cs,rfl,hs⟩:=hc;have c24:Tryz.prog.cellsOf 33=2:=by kernel_rfl
 rw[c24]at hs;obtain⟨c0,c1,rfl⟩:∃c0 c1,cs= #[c0,c1]:=by
  obtain⟨l⟩:=cs
  match l,hs with
  |[c0,c1],_=>exact⟨c0,c1,rfl⟩
 have hf:DataW.trod enc Tryz.prog C8 0 sp hd fuel 33 [c0,c1]=some (d,p):=hf;obtain⟨xs,k,_,_,_,SK,Qj⟩:=DataW.trod_struct Tryz.underlying33 hf;have c4:Tryz.prog.cellsOf 4=1:=by kernel_rfl
 have c22:Tryz.prog.cellsOf 31=1:=by kernel_rfl
 have len2:xs.length=2:=SK
 match xs,len2 with
 |[y0,y1],_=>
  have g0:DataW.trod enc Tryz.prog C8 0 sp hd k 4 (List.take (Tryz.prog.cellsOf 4) [c0,c1])=some y0:=Qj 0 _ rfl;have g1:DataW.trod enc Tryz.prog C8 0 sp hd k 31 (List.take (Tryz.prog.cellsOf 31) [c1])=some y1:=Qj 1 _ rfl;rw[c4]at g0;rw[c22]at g1;obtain⟨b,e0,_⟩:=DataW.trod_bool Tryz.underlying4 g0;obtain⟨v,ls,e1,hl⟩:=Bn g1;have e0:[c0]=[Value.bool b]:=e0;have e1:[c1]=[v]:=e1;simp only[List.cons.injEq,and_true]at e0 e1;subst e0 e1;exact⟨Ex.sg b (Ex.val ls),b,ls,⟨_,rfl,hl⟩,rfl⟩
theorem Gu{v:Value}{d:DataW H}{p:List MemPlace}(h:DataW.Trod enc Tryz.prog C8 0 sp hd 35 v d p)(hc:∃cs,v= .agg cs/\cs.size=Tryz.prog.cellsOf 35):∃a b,Ex.ke C8 (λg=>g<C8.heap.size) v a b:=by
 obtain⟨fuel,hf⟩:=h;obtain⟨cs,rfl,hs⟩:=hc;have c26:Tryz.prog.cellsOf 35=4:=by kernel_rfl
 rw[c26]at hs;obtain⟨c0,c1,c2,c3,rfl⟩:∃c0 c1 c2 c3,cs= #[c0,c1,c2,c3]:=by
  obtain⟨l⟩:=cs
  match l,hs with
  |[c0,c1,c2,c3],_=>exact⟨c0,c1,c2,c3,rfl⟩
 have hf:DataW.trod enc Tryz.prog C8 0 sp hd fuel 35 [c0,c1,c2,c3]=some (d,p):=hf;obtain⟨xs,k,_,_,_,SK,Qj⟩:=DataW.trod_struct Tryz.underlying35 hf;have c24:Tryz.prog.cellsOf 33=2:=by kernel_rfl
 have len2:xs.length=2:=SK
 match xs,len2 with
 |[y0,y1],_=>
  have g0:DataW.trod enc Tryz.prog C8 0 sp hd k 33 (List.take (Tryz.prog.cellsOf 33) [c0,c1,c2,c3])=some y0:=Qj 0 _ rfl;have g1:DataW.trod enc Tryz.prog C8 0 sp hd k 33 (List.take (Tryz.prog.cellsOf 33) [c2,c3])=some y1:=Qj 1 _ rfl;rw[c24]at g0 g1;obtain⟨z0,i0⟩:=yR (v:=.agg #[c0,c1]) ⟨k,g0⟩ ⟨_,rfl,by rw[c24];rfl⟩;obtain⟨z1,i1⟩:=yR (v:=.agg #[c2,c3]) ⟨k,g1⟩ ⟨_,rfl,by rw[c24];rfl⟩;obtain⟨b0,w0,_,_,e0,_⟩:=i0.BH;obtain⟨b1,w1,_,_,e1,_⟩:=i1.BH;simp only[Value.agg.injEq,Array.mk.injEq,List.cons.injEq,and_true]at e0 e1;obtain⟨rfl,rfl⟩:=e0;obtain⟨rfl,rfl⟩:=e1;exact⟨z0,z1,_,_,_,_,rfl,i0,i1⟩
theorem Ei{fuel:Nat}{cs:List Value}{x:DataW H×List MemPlace}(h:DataW.trod enc Tryz.prog C8 0 sp hd fuel 35 cs=some x)(hl:cs.length=4):∃y:Int×Int,Ex.yr C8 (λg=>g<C8.heap.size) cs y:=by
 match cs,hl with
 |[c0,c1,c2,c3],_=>
  obtain⟨a,b,hr⟩:=Gu (v:=.agg #[c0,c1,c2,c3]) (d:=x.1) (p:=x.2) ⟨fuel,h⟩ ⟨_,rfl,by rw[show Tryz.prog.cellsOf 35=4 by kernel_rfl];rfl⟩;obtain⟨b1,a1,n1,k1,b2,a2,n2,k2,e⟩:=hr.shape;simp only[Value.agg.injEq,Array.mk.injEq,List.cons.injEq,and_true]at e;obtain⟨rfl,rfl,rfl,rfl⟩:=e;exact⟨(a,b),b1,a1,n1,k1,b2,a2,n2,k2,rfl,hr⟩
theorem oV{fuel:Nat}{cs:List Value}{x:DataW H×List MemPlace}(h:DataW.trod enc Tryz.prog C8 0 sp hd fuel 23 cs=some x):∃v xs,cs=[v]/\Ex.dJ C8 (λg=>g<C8.heap.size) v xs:=by
 have c26:Tryz.prog.cellsOf 35=4:=by kernel_rfl
 rcases open_slice Tryz.underlying23 h with⟨rfl,_⟩|⟨a,n,c,m,k,D,Pl,rfl,_,Uo,Rw,hm,_,hel⟩
 .exact⟨_,[],rfl,[],⟨ce,ce,ce,none,0,rfl,ae _,ce⟩,rfl,ce,ce⟩
 .have XV:n<=m:=by rw[hm];split<;>omega
  obtain⟨l,hl,Z⟩:=s8 n (λj (y:List Value×(Int×Int))=>y.1.length=4/\Ex.yr C8 (λg=>g<C8.heap.size) y.1 y.2/\∀(i:Nat) u,y.1[i]? =some u->C8.cell? (a.add (j*4+i))=some u) (λj hj=>by
   obtain⟨cs,Y,I⟩:=hel j be;rw[c26]at Y;obtain⟨_,hlen,Px⟩:=World.cells?_some Y;obtain⟨y,hy⟩:=Ei I hlen;refine⟨(cs,y),hlen,hy,λi u R=>?_⟩;have hi4:i<cs.length:=(aH.1 R).1;have:=Px i be;rw[<-Ex.Bd,this]
   exact R)
  have h4:∀cs∈l.map (·.1),cs.length=4:=λcs hc=>by
   obtain⟨y,hy,rfl⟩:=bA.1 hc;obtain⟨j,hj⟩:=aj hy;exact(Z j y hj).1
  have Qj:=Ex.fJ h4;rw[aO,hl]at Qj;refine⟨_,l.map (·.2),rfl,l.map (·.1),⟨by rw[aO];unfold maxLen at *;omega,by rw[Qj,aO,hl],λu hu=>?_,some a,c,by rw[aO,hl],by rw[aO,hl];omega,λj u hj=>⟨a,rfl,?_⟩⟩,ce,h4,λj cs y k1 k2=>?_⟩
  .obtain⟨cs,hc,hu⟩:=List.mem_flatten.1 hu;obtain⟨y,hy,rfl⟩:=bA.1 hc;obtain⟨j,hj⟩:=aj hy;obtain⟨_,⟨b1,a1,n1,k1,b2,a2,n2,k2,e,_⟩,_⟩:=Z j y hj;rw[e]at hu;simp at hu;rcases hu with rfl|rfl|rfl|rfl<;>rfl
  .have hj4:=(aH.1 hj).1;obtain⟨y,hy⟩:∃y,l[j / 4]? =some y:=⟨_,aE be⟩
   obtain⟨h5,h6,h7⟩:=Z _ y hy;obtain⟨u2,Yy⟩:∃u,y.1[j % 4]? =some u:=⟨_,aE be⟩
   have h8:=Ex.flat_get h4 (show (l.map (·.1))[j / 4]? =some y.1 by rw[aS,hy];rfl) (j % 4) u2 Yy;rw[show j / 4*4+j % 4=j by omega,hj]at h8;injection h8 with h8;subst h8;have h9:=h7 _ _ Yy;rw[show j / 4*4+j % 4=j by omega]at h9;have:=Eh h9;rw[Ex.da]at this;exact⟨this,h9⟩
  .rw[aS]at k1 k2
   cases Qn:l[j]? with
   |none=>rw[Qn]at k1;cases k1
   |some y2=>
    rw[Qn]at k1 k2;injection k1 with k1;injection k2 with k2;subst k1 k2;exact(Z j y2 Qn).2.1
theorem Ej{fuel:Nat}{cs:List Value}{x:DataW H×List MemPlace}(h:DataW.trod enc Tryz.prog C8 0 sp hd fuel 22 cs=some x):∃v M,cs=[v]/\Ex.dQ C8 (λg=>g<C8.heap.size) v M:=by
 rcases open_slice1 Tryz.underlying22 d9 h with⟨rfl,_⟩|⟨a,n,c,m,k,A9,D,Pl,rfl,_,Uo,Rw,hm,_,hel⟩
 .exact⟨_,[],rfl,[],⟨ce,ce,ce,none,0,rfl,ae _,ce⟩,rfl,ce⟩
 .have XV:n<=m:=by rw[hm];split<;>omega
  obtain⟨l,hl,Z⟩:=s8 n (λj (y:Value×List (Int×Int))=>C8.cell? (a.add j)=some y.1/\Ex.dJ C8 (λg=>g<C8.heap.size) y.1 y.2) (λj hj=>by
   obtain⟨Y,I⟩:=hel j be;obtain⟨v,xs,e,hr⟩:=oV I;simp only[List.cons.injEq,and_true]at e
   exact⟨(A9 j,xs),Y,by rw[e];exact hr⟩)
  refine⟨_,l.map (·.2),rfl,l.map (·.1),⟨by rw[aO];unfold maxLen at *;omega,ce,λu hu=>?_,some a,c,by rw[aO,hl],by rw[aO,hl];omega,λj u hj=>⟨a,rfl,?_⟩⟩,ce,λj u y k1 k2=>?_⟩
  .obtain⟨y,hy,rfl⟩:=bA.1 hu;obtain⟨j,hj⟩:=aj hy;obtain⟨_,hr⟩:=Z j y hj;obtain⟨a2,c2,e,_⟩:=Ex.dK.shape hr;rw[e];rfl
  .rw[aS]at hj
   cases Qn:l[j]? with
   |none=>rw[Qn]at hj;cases hj
   |some y2=>
    rw[Qn]at hj;injection hj with hj;subst hj;have h9:=(Z j y2 Qn).1;have:=Eh h9;rw[Ex.da]at this;exact⟨this,h9⟩
  .rw[aS]at k1 k2
   cases Qn:l[j]? with
   |none=>rw[Qn]at k1;cases k1
   |some y2=>
    rw[Qn]at k1 k2;injection k1 with k1;injection k2 with k2;subst k1 k2;exact(Z j y2 Qn).2
set_option maxRecDepth 100000 in
theorem yt{v:Value}{d:DataW H}{p:List MemPlace}(h:DataW.Trod enc Tryz.prog C8 0 sp hd 25 v d p)(hc:∃cs,v= .agg cs/\cs.size=Tryz.prog.cellsOf 25):
  ∃v0 x0 v1 x1 v2 x2,v= .agg #[v0,v1,v2]/\Ex.dQ C8 (λg=>g<C8.heap.size) v0 x0/\Ex.dJ C8 (λg=>g<C8.heap.size) v1 x1/\Ex.dJ C8 (λg=>g<C8.heap.size) v2 x2:=by
 obtain⟨fuel,hf⟩:=h;obtain⟨cs,rfl,hs⟩:=hc;have eT:Tryz.prog.cellsOf 25=3:=by kernel_rfl
 rw[eT]at hs;obtain⟨c0,c1,c2,rfl⟩:∃c0 c1 c2,cs= #[c0,c1,c2]:=by
  obtain⟨l⟩:=cs
  match l,hs with
  |[c0,c1,c2],_=>exact⟨c0,c1,c2,rfl⟩
 have hf:DataW.trod enc Tryz.prog C8 0 sp hd fuel 25 [c0,c1,c2]=some (d,p):=hf;obtain⟨xs,k,_,_,_,SK,Qj⟩:=DataW.trod_struct Tryz.underlying25 hf;have eLLRat:Tryz.prog.cellsOf 22=1:=by kernel_rfl
 have eLRat:Tryz.prog.cellsOf 23=1:=by kernel_rfl
 have lenF:xs.length=3:=SK
 match xs,lenF with
 |[y0,y1,y2],_=>
  have g0:DataW.trod enc Tryz.prog C8 0 sp hd k 22 (List.take (Tryz.prog.cellsOf 22) [c0,c1,c2])=some y0:=Qj 0 _ rfl;rw[eLLRat]at g0;have g1:DataW.trod enc Tryz.prog C8 0 sp hd k 23 (List.take (Tryz.prog.cellsOf 23) (List.drop (Tryz.prog.cellsOf 22) [c0,c1,c2]))=some y1:=Qj 1 _ rfl;rw[eLRat,eLLRat]at g1;have g2:DataW.trod enc Tryz.prog C8 0 sp hd k 23 (List.take (Tryz.prog.cellsOf 23) (List.drop (Tryz.prog.cellsOf 22+Tryz.prog.cellsOf 23) [c0,c1,c2]))=some y2:=Qj 2 _ rfl;rw[eLRat,eLLRat]at g2;obtain⟨v0,x0,e0,h0⟩:=Ej (cs:=[c0]) g0;simp only[List.cons.injEq,and_true]at e0;obtain⟨v1,x1,e1,Y⟩:=oV (cs:=[c1]) g1;simp only[List.cons.injEq,and_true]at e1;obtain⟨v2,x2,e2,I⟩:=oV (cs:=[c2]) g2;simp only[List.cons.injEq,and_true]at e2;subst e0;subst e1;subst e2;exact⟨_,_,_,_,_,_,rfl,h0,Y,I⟩
end

set_option maxRecDepth 100000 in
theorem lifted(os:Os)(started:os.Started)(H:Type)(enc:TypeId×Value->H):
  ReturnsInHanded {} Tryz.checked os 4 .any (λw args=>(Rows.exactOptimizesSpec.pre enc Tryz.prog Tryz.f4 Rows.exactOptimizesRow.domain false w args/\laidMetH Tryz.prog Rows.exactOptimizesRow.laid w)/\sizedMet enc Tryz.prog Tryz.f4 (OpenSpec.ofChange Rows.exactOptimizesSpec) false w args)
   (Rows.exactOptimizesSpec.post enc Tryz.prog Tryz.f4 false true false false):=by
 refine returnsInHanded_of_change_and (C:=Tryz.checked) (X:=λw _=>laidMetH Tryz.prog Rows.exactOptimizesRow.laid w) (λ_ _ _ hh h=>h.of_heap hh) own started d9 Tryz.func4
  (ChangeSpec.witness_shaped (enc:=enc) (C:=Tryz.checked) (os:=os) (X:=λw _=>laidMetH Tryz.prog Rows.exactOptimizesRow.laid w) false (World.laidAll Tryz.prog os Rows.exactOptimizesRow.laid) #[.agg #[.slice none 0 0,.slice none 0 0,.slice none 0 0]] 8 (World.laidAll_os _ _ _)
   (World.shaped_of_ZipB d9 d9) d9 d9 d9
   (by rw[MakeChecks.laidMetH_plain _ _ _ d9];exact laidMet_laidAll _ d9 d9)) ?_
 intro C8 base args ds gs before hval0 hW hcnd _ hL _;have Ry:∀(j:Nat) t v,Tryz.f4.params[j]? =some t->args[j]? =some v->Value.okWide Tryz.prog C8 .any base t v:=hval0;have hW':=hW;obtain⟨p,q,hA0,hV,rfl,hfz,hnd⟩:=hW;have hA:DataW.TrodAll enc Tryz.prog C8 0 (λ_=>true) true Tryz.f4.params.toList args.toList ds p:=hA0;rw[Tryz.params4]at hA Ry;obtain⟨v0,vs0,d0,ds0,p0,q0,UM,rfl,rfl,h0,r0⟩:=trodAll_cons hA;obtain⟨rfl,rfl,rfl⟩:=trodAll_nil r0;obtain rfl:args= #[v0]:=by cases args;simp_all
 obtain⟨rfl,rfl⟩:=trodVars_none hV;have k0:=h0;have lt0:∀x∈p0,x.block<C8.heap.size:=by obtain⟨m,hm⟩:=k0;exact DataW.trod_lt m _ _ _ hm
 obtain⟨_,_,_,_,_,_,rfl,y00,y01,y02⟩:=yt h0 (okWide_struct Tryz.underlying25 (Ry 0 25 v0 rfl rfl));clear hA0 hval0;refine((Ex.x6 (λ_ h=>h) y00 y01 y02).2).mono λe W' ⟨v,L,Ua,hv⟩=>?_;subst L;subst hv;have cg:Below C8.heap.size C8 W':=Ext.cg Ua (ae _);exact⟨_,rfl,_,_,_,[],_,[],hW',trodAll_mk1 (shut_bool Tryz.underlying4 _),(trodAll_cons_mk (Below.trod laidOut d9 (aK d9) k0 cg lt0) trodAll_mk0),rfl,cg.frame _,λh=>by cases h⟩

theorem over:Rows.exactOptimizesRow.holds Tryz.pinned (OpenSpec.ofChange Rows.exactOptimizesSpec):=
 OpenClaim.holds_of_wide 4 Tryz.f4 rfl rfl rfl rfl rfl rfl rfl ⟨rfl,rfl,rfl,rfl,rfl⟩ rfl rfl rfl rfl rfl d9 Tryz.func4 d9
  (aK d9) (by unfold Func.isWrapper;first|(rw [aM (by decide +kernel)];kernel_rfl)|(rw [aJ (by decide +kernel)];exact⟨rfl,rfl⟩))
  (λos started H enc _=>lifted os started H enc)

/-- The law holds for every input. -/
theorem exactOptimizes_holds:Rows.ExactOptimizesCardSaid:=
 Claim7.holds_tied_plain_at .later [] [.data,.pinned] true (true, "0bc75af6b6dec3d403eda55c1824110a830e2f3b055f3be94a7c3e109a489aed") false over (λ_ h=>by cases h) d9 (λ_ h=>by cases h) exactOptimizes_row_tie rfl ⟨rfl,rfl⟩ d9 rfl
  (λf fn hf UQ=>by
   obtain rfl:f=4:=Option.some.inj ((show Tryz.prog.funcNamed "putlog/putloglaw01.ExactOptimizes" =some 4 by kernel_rfl).symm.trans hf) |>.symm
   obtain rfl:fn=Tryz.f4:=(Option.some.inj (Tryz.func4.symm.trans UQ)).symm
   exact⟨d9,λj t ht=>by
    rw[Tryz.params4]at ht;have hm:t∈[25]:=by simpa using Array.mem_of_getElem? ht
    have Qp:([25].all λu=> !Tryz.prog.wantsStandIn u)=true:=by kernel_rfl
    exact(show Tryz.prog.wantsStandIn t=false by simpa using List.all_eq_true.1 Qp t hm)⟩)
  d9
#print axioms exactOptimizes_holds
end Go.Proofs.YtbffinhkognefaaGreatDoor
