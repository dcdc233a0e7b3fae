/- putlog/putloglaw01.ExactDuality returns true for every input, and its arguments read behind the call as they read before; the listed variables are tied to the program's text. No condition. -/
import Derived.Test.YtbffinhkognefaaGreatDoorCards
import Derived.Test.YtbffinhkognefaaGreatDoorTie
import Derived.ProofKit
import Derived.WalkKit
import Derived.OpenShut
import Derived.ShutString
import Derived.ChangeOld
import Derived.Below
import Derived.Deep.SlicePairs
import Derived.Lay
import Derived.SevenTiedAt
import Derived.Test.YtbffinhkognefaaGreatDoorP16
namespace Go.Proofs.YtbffinhkognefaaGreatDoor
open Go.ChangeShapes Go.WideShapes Go.ChangeAt Go.RowKit Go.Deep Go.Sx

theorem own:ownKnob Tryz.prog.godebug=none:=by kernel_rfl
theorem laidOut:laidOutB Tryz.prog=true:=by kernel_rfl

theorem Be{w:World}{a:Addr}{v:Value}(h:w.cell? a=some v):a.block<w.heap.size:=by
 apply Decidable.byContradiction;intro U;have N:w.heap[a.block]? =none:=Array.getElem?_eq_none be;unfold World.cell? at h;rw[N]at h
 cases h
theorem rB{α:Type}(n:Nat)(P:Nat->α->Prop)(h:∀j,j<n->∃x,P j x):∃l:List α,l.length=n/\∀(j:Nat) (x:α),l[j]? =some x->P j x:=by
 induction n with
 |zero=>exact⟨[],rfl,ce⟩
 |succ n ih=>
  obtain⟨l,W,I⟩:=ih fun j hj=>h j be;obtain⟨x,E⟩:=h n be;refine⟨l++[x],by simp[W],fun j y hy=>?_⟩;rcases az j n with hj|hj
  .rw[aQ be]at hy;exact I j y hy
  .rw[aW be]at hy;have:j=n:=by
    have:=(aH.1 hy).1;simp at this;omega
   subst this;rw[W,bj]at hy;simp at hy;rw[<-hy];exact E
section
variable{H:Type}{enc:TypeId×Value->H}{C9:World}{sp:Nat->Bool}{hd:Bool}
theorem zD{fuel:Nat}{cs:List Value}{x:DataW H×List MemPlace}(h:DataW.trod enc Tryz.prog C9 0 sp hd fuel 31 cs=some x):∃v ls,cs=[v]/\Ex.dI C9 (fun g=>g<C9.heap.size) v ls:=by
 rcases open_slice1 Tryz.underlying31 d6 h with⟨rfl,_⟩|⟨a,n,c,m,k,A9,D,Pl,rfl,_,So,Rd,hm,_,hel⟩
 .exact⟨_,[],rfl,Ex.dI.nil _ _⟩
 .have VT:n<=m:=by rw[hm];split<;>omega
  obtain⟨xs,hl,E⟩:=rB n (fun j (y:Nat)=>A9 j= .int .u32 (y:Int)/\y<4294967296) (fun j hj=>by
   obtain⟨y,W,_,h3⟩:=DataW.trod_int Tryz.underlying118 (hel j be).2;injection W with W;have h3:0<=y/\y<=4294967295:=by simpa [Lit.wf,IntKind.min,IntKind.max,IntKind.signed,IntKind.bits]using h3
   exact⟨y.toNat,by rw[W];congr 1;omega,be⟩)
  subst hl;refine⟨_,xs,rfl,fun y hy=>?_,by unfold maxLen at Rd;omega,some a,c,rfl,be,fun j y hj=>⟨a,rfl,?_⟩⟩
  .obtain⟨j,hj,rfl⟩:=List.mem_iff_getElem.1 hy;exact(E j _ (aE hj)).2
  .have hjl:=(aH.1 hj).1;have W:=(hel j be).1;rw[(E j y hj).1]at W;refine⟨?_,W⟩;have:=Be W
   rwa [Ex.eQ]at this
theorem vZ{v:Value}{d:DataW H}{p:List MemPlace}(h:DataW.Trod enc Tryz.prog C9 0 sp hd 33 v d p)(hc:∃cs,v= .agg cs/\cs.size=Tryz.prog.cellsOf 33):∃z,Ex.jE C9 (fun g=>g<C9.heap.size) v z:=by
 obtain⟨fuel,hf⟩:=h;obtain⟨cs,rfl,hs⟩:=hc;have c24:Tryz.prog.cellsOf 33=2:=by kernel_rfl
 rw[c24]at hs;obtain⟨c0,c1,rfl⟩:∃c0 c1,cs= #[c0,c1]:=by
  obtain⟨l⟩:=cs
  match l,hs with
  |[c0,c1],_=>exact⟨c0,c1,rfl⟩
 have hf:DataW.trod enc Tryz.prog C9 0 sp hd fuel 33 [c0,c1]=some (d,p):=hf;obtain⟨xs,k,_,_,_,Ra,Pt⟩:=DataW.trod_struct Tryz.underlying33 hf;have c4:Tryz.prog.cellsOf 4=1:=by kernel_rfl
 have c22:Tryz.prog.cellsOf 31=1:=by kernel_rfl
 have len2:xs.length=2:=Ra
 match xs,len2 with
 |[y0,y1],_=>
  have g0:DataW.trod enc Tryz.prog C9 0 sp hd k 4 (List.take (Tryz.prog.cellsOf 4) [c0,c1])=some y0:=Pt 0 _ rfl;have g1:DataW.trod enc Tryz.prog C9 0 sp hd k 31 (List.take (Tryz.prog.cellsOf 31) [c1])=some y1:=Pt 1 _ rfl;rw[c4]at g0;rw[c22]at g1;obtain⟨b,e0,_⟩:=DataW.trod_bool Tryz.underlying4 g0;obtain⟨v,ls,e1,hl⟩:=zD g1;have e0:[c0]=[Value.bool b]:=e0;have e1:[c1]=[v]:=e1;simp only[List.cons.injEq,and_true]at e0 e1;subst e0 e1;exact⟨Ex.sg b (Ex.val ls),b,ls,⟨_,rfl,hl⟩,rfl⟩
theorem DW{v:Value}{d:DataW H}{p:List MemPlace}(h:DataW.Trod enc Tryz.prog C9 0 sp hd 35 v d p)(hc:∃cs,v= .agg cs/\cs.size=Tryz.prog.cellsOf 35):∃a b,Ex.kU C9 (fun g=>g<C9.heap.size) v a b:=by
 obtain⟨fuel,hf⟩:=h;obtain⟨cs,rfl,hs⟩:=hc;have c26:Tryz.prog.cellsOf 35=4:=by kernel_rfl
 rw[c26]at hs;obtain⟨c0,c1,c2,c3,rfl⟩:∃c0 c1 c2 c3,cs= #[c0,c1,c2,c3]:=by
  obtain⟨l⟩:=cs
  match l,hs with
  |[c0,c1,c2,c3],_=>exact⟨c0,c1,c2,c3,rfl⟩
 have hf:DataW.trod enc Tryz.prog C9 0 sp hd fuel 35 [c0,c1,c2,c3]=some (d,p):=hf;obtain⟨xs,k,_,_,_,Ra,Pt⟩:=DataW.trod_struct Tryz.underlying35 hf;have c24:Tryz.prog.cellsOf 33=2:=by kernel_rfl
 have len2:xs.length=2:=Ra
 match xs,len2 with
 |[y0,y1],_=>
  have g0:DataW.trod enc Tryz.prog C9 0 sp hd k 33 (List.take (Tryz.prog.cellsOf 33) [c0,c1,c2,c3])=some y0:=Pt 0 _ rfl;have g1:DataW.trod enc Tryz.prog C9 0 sp hd k 33 (List.take (Tryz.prog.cellsOf 33) [c2,c3])=some y1:=Pt 1 _ rfl;rw[c24]at g0 g1;obtain⟨z0,i0⟩:=vZ (v:=.agg #[c0,c1]) ⟨k,g0⟩ ⟨_,rfl,by rw[c24];rfl⟩;obtain⟨z1,i1⟩:=vZ (v:=.agg #[c2,c3]) ⟨k,g1⟩ ⟨_,rfl,by rw[c24];rfl⟩;obtain⟨b0,w0,_,_,e0,_⟩:=i0.yS;obtain⟨b1,w1,_,_,e1,_⟩:=i1.yS;simp only[Value.agg.injEq,Array.mk.injEq,List.cons.injEq,and_true]at e0 e1;obtain⟨rfl,rfl⟩:=e0;obtain⟨rfl,rfl⟩:=e1;exact⟨z0,z1,_,_,_,_,rfl,i0,i1⟩
theorem Bf{fuel:Nat}{cs:List Value}{x:DataW H×List MemPlace}(h:DataW.trod enc Tryz.prog C9 0 sp hd fuel 35 cs=some x)(hl:cs.length=4):∃y:Int×Int,Ex.yo C9 (fun g=>g<C9.heap.size) cs y:=by
 match cs,hl with
 |[c0,c1,c2,c3],_=>
  obtain⟨a,b,hr⟩:=DW (v:=.agg #[c0,c1,c2,c3]) (d:=x.1) (p:=x.2) ⟨fuel,h⟩ ⟨_,rfl,by rw[show Tryz.prog.cellsOf 35=4 by kernel_rfl];rfl⟩;obtain⟨b1,a1,n1,k1,b2,a2,n2,k2,e⟩:=hr.shape;simp only[Value.agg.injEq,Array.mk.injEq,List.cons.injEq,and_true]at e;obtain⟨rfl,rfl,rfl,rfl⟩:=e;exact⟨(a,b),b1,a1,n1,k1,b2,a2,n2,k2,rfl,hr⟩
theorem kK{fuel:Nat}{cs:List Value}{x:DataW H×List MemPlace}(h:DataW.trod enc Tryz.prog C9 0 sp hd fuel 23 cs=some x):∃v xs,cs=[v]/\Ex.dB C9 (fun g=>g<C9.heap.size) v xs:=by
 have c26:Tryz.prog.cellsOf 35=4:=by kernel_rfl
 rcases open_slice Tryz.underlying23 h with⟨rfl,_⟩|⟨a,n,c,m,k,D,Pl,rfl,_,So,Rd,hm,_,hel⟩
 .exact⟨_,[],rfl,[],⟨ce,ce,ce,none,0,rfl,ae _,ce⟩,rfl,ce,ce⟩
 .have VT:n<=m:=by rw[hm];split<;>omega
  obtain⟨l,hl,E⟩:=rB n (fun j (y:List Value×(Int×Int))=>y.1.length=4/\Ex.yo C9 (fun g=>g<C9.heap.size) y.1 y.2/\∀(i:Nat) u,y.1[i]? =some u->C9.cell? (a.add (j*4+i))=some u) (fun j hj=>by
   obtain⟨cs,W,I⟩:=hel j be;rw[c26]at W;obtain⟨_,hlen,OY⟩:=World.cells?_some W;obtain⟨y,hy⟩:=Bf I hlen;refine⟨(cs,y),hlen,hy,fun i u R=>?_⟩;have hi4:i<cs.length:=(aH.1 R).1;have:=OY i be;rw[<-Ex.yv,this]
   exact R)
  have h4:∀cs∈l.map (·.1),cs.length=4:=fun cs hc=>by
   obtain⟨y,hy,rfl⟩:=bD.1 hc;obtain⟨j,hj⟩:=aY hy;exact(E j y hj).1
  have Pt:=Ex.gZ h4;rw[aJ,hl]at Pt;refine⟨_,l.map (·.2),rfl,l.map (·.1),⟨by rw[aJ];unfold maxLen at *;omega,by rw[Pt,aJ,hl],fun u hu=>?_,some a,c,by rw[aJ,hl],by rw[aJ,hl];omega,fun j u hj=>⟨a,rfl,?_⟩⟩,ce,h4,fun j cs y k1 k2=>?_⟩
  .obtain⟨cs,hc,hu⟩:=List.mem_flatten.1 hu;obtain⟨y,hy,rfl⟩:=bD.1 hc;obtain⟨j,hj⟩:=aY hy;obtain⟨_,⟨b1,a1,n1,k1,b2,a2,n2,k2,e,_⟩,_⟩:=E j y hj;rw[e]at hu;simp at hu;rcases hu with rfl|rfl|rfl|rfl<;>rfl
  .have hj4:=(aH.1 hj).1;obtain⟨y,hy⟩:∃y,l[j / 4]? =some y:=⟨_,aE be⟩
   obtain⟨h5,h6,h7⟩:=E _ y hy;obtain⟨u2,hu2⟩:∃u,y.1[j % 4]? =some u:=⟨_,aE be⟩
   have h8:=Ex.flat_get h4 (show (l.map (·.1))[j / 4]? =some y.1 by rw[aS,hy];rfl) (j % 4) u2 hu2;rw[show j / 4*4+j % 4=j by omega,hj]at h8;injection h8 with h8;subst h8;have h9:=h7 _ _ hu2;rw[show j / 4*4+j % 4=j by omega]at h9;have:=Be h9;rw[Ex.eQ]at this;exact⟨this,h9⟩
  .rw[aS]at k1 k2
   cases Ph:l[j]? with
   |none=>rw[Ph]at k1;cases k1
   |some y2=>
    rw[Ph]at k1 k2;injection k1 with k1;injection k2 with k2;subst k1 k2;exact(E j y2 Ph).2.1
theorem Bg{fuel:Nat}{cs:List Value}{x:DataW H×List MemPlace}(h:DataW.trod enc Tryz.prog C9 0 sp hd fuel 22 cs=some x):∃v G8,cs=[v]/\Ex.dK C9 (fun g=>g<C9.heap.size) v G8:=by
 rcases open_slice1 Tryz.underlying22 d6 h with⟨rfl,_⟩|⟨a,n,c,m,k,A9,D,Pl,rfl,_,So,Rd,hm,_,hel⟩
 .exact⟨_,[],rfl,[],⟨ce,ce,ce,none,0,rfl,ae _,ce⟩,rfl,ce⟩
 .have VT:n<=m:=by rw[hm];split<;>omega
  obtain⟨l,hl,E⟩:=rB n (fun j (y:Value×List (Int×Int))=>C9.cell? (a.add j)=some y.1/\Ex.dB C9 (fun g=>g<C9.heap.size) y.1 y.2) (fun j hj=>by
   obtain⟨W,I⟩:=hel j be;obtain⟨v,xs,e,hr⟩:=kK I;simp only[List.cons.injEq,and_true]at e
   exact⟨(A9 j,xs),W,by rw[e];exact hr⟩)
  refine⟨_,l.map (·.2),rfl,l.map (·.1),⟨by rw[aJ];unfold maxLen at *;omega,ce,fun u hu=>?_,some a,c,by rw[aJ,hl],by rw[aJ,hl];omega,fun j u hj=>⟨a,rfl,?_⟩⟩,ce,fun j u y k1 k2=>?_⟩
  .obtain⟨y,hy,rfl⟩:=bD.1 hu;obtain⟨j,hj⟩:=aY hy;obtain⟨_,hr⟩:=E j y hj;obtain⟨a2,c2,e,_⟩:=Ex.dU.shape hr;rw[e];rfl
  .rw[aS]at hj
   cases Ph:l[j]? with
   |none=>rw[Ph]at hj;cases hj
   |some y2=>
    rw[Ph]at hj;injection hj with hj;subst hj;have h9:=(E j y2 Ph).1;have:=Be h9;rw[Ex.eQ]at this;exact⟨this,h9⟩
  .rw[aS]at k1 k2
   cases Ph:l[j]? with
   |none=>rw[Ph]at k1;cases k1
   |some y2=>
    rw[Ph]at k1 k2;injection k1 with k1;injection k2 with k2;subst k1 k2;exact(E j y2 Ph).2
set_option maxRecDepth 100000 in
theorem tq{base:Nat}{v:Value}{d:DataW H}{p:List MemPlace}(hv:Value.okWide Tryz.prog C9 .any base 23 v)(h:DataW.Trod enc Tryz.prog C9 0 sp hd 23 v d p):∃xs,Ex.dB C9 (fun g=>g<C9.heap.size) v xs:=by
 obtain⟨a,n,c,rfl⟩:=okWide_slice Tryz.underlying23 hv;obtain⟨fuel,hf⟩:=h;obtain⟨v,xs,e,hr⟩:=kK (cs:=[.slice a n c]) hf;simp only[List.cons.injEq,and_true]at e;rw[e];exact⟨xs,hr⟩
set_option maxRecDepth 100000 in
theorem wM{v:Value}{d:DataW H}{p:List MemPlace}(h:DataW.Trod enc Tryz.prog C9 0 sp hd 25 v d p)(hc:∃cs,v= .agg cs/\cs.size=Tryz.prog.cellsOf 25):
  ∃v0 x0 v1 x1 v2 x2,v= .agg #[v0,v1,v2]/\Ex.dK C9 (fun g=>g<C9.heap.size) v0 x0/\Ex.dB C9 (fun g=>g<C9.heap.size) v1 x1/\Ex.dB C9 (fun g=>g<C9.heap.size) v2 x2:=by
 obtain⟨fuel,hf⟩:=h;obtain⟨cs,rfl,hs⟩:=hc;have eT:Tryz.prog.cellsOf 25=3:=by kernel_rfl
 rw[eT]at hs;obtain⟨c0,c1,c2,rfl⟩:∃c0 c1 c2,cs= #[c0,c1,c2]:=by
  obtain⟨l⟩:=cs
  match l,hs with
  |[c0,c1,c2],_=>exact⟨c0,c1,c2,rfl⟩
 have hf:DataW.trod enc Tryz.prog C9 0 sp hd fuel 25 [c0,c1,c2]=some (d,p):=hf;obtain⟨xs,k,_,_,_,Ra,Pt⟩:=DataW.trod_struct Tryz.underlying25 hf;have eLLRat:Tryz.prog.cellsOf 22=1:=by kernel_rfl
 have eLRat:Tryz.prog.cellsOf 23=1:=by kernel_rfl
 have lenF:xs.length=3:=Ra
 match xs,lenF with
 |[y0,y1,y2],_=>
  have g0:DataW.trod enc Tryz.prog C9 0 sp hd k 22 (List.take (Tryz.prog.cellsOf 22) [c0,c1,c2])=some y0:=Pt 0 _ rfl;rw[eLLRat]at g0;have g1:DataW.trod enc Tryz.prog C9 0 sp hd k 23 (List.take (Tryz.prog.cellsOf 23) (List.drop (Tryz.prog.cellsOf 22) [c0,c1,c2]))=some y1:=Pt 1 _ rfl;rw[eLRat,eLLRat]at g1;have g2:DataW.trod enc Tryz.prog C9 0 sp hd k 23 (List.take (Tryz.prog.cellsOf 23) (List.drop (Tryz.prog.cellsOf 22+Tryz.prog.cellsOf 23) [c0,c1,c2]))=some y2:=Pt 2 _ rfl;rw[eLRat,eLLRat]at g2;obtain⟨v0,x0,e0,h0⟩:=Bg (cs:=[c0]) g0;simp only[List.cons.injEq,and_true]at e0;obtain⟨v1,x1,e1,W⟩:=kK (cs:=[c1]) g1;simp only[List.cons.injEq,and_true]at e1;obtain⟨v2,x2,e2,I⟩:=kK (cs:=[c2]) g2;simp only[List.cons.injEq,and_true]at e2;subst e0;subst e1;subst e2;exact⟨_,_,_,_,_,_,rfl,h0,W,I⟩
end

set_option maxRecDepth 100000 in
theorem lifted(os:Os)(started:os.Started)(H:Type)(enc:TypeId×Value->H):
  ReturnsInHanded {} Tryz.checked os 3 .any (fun w args=>(Rows.exactDualitySpec.pre enc Tryz.prog Tryz.f3 Rows.exactDualityRow.domain false w args/\laidMetH Tryz.prog Rows.exactDualityRow.laid w)/\sizedMet enc Tryz.prog Tryz.f3 (OpenSpec.ofChange Rows.exactDualitySpec) false w args)
   (Rows.exactDualitySpec.post enc Tryz.prog Tryz.f3 false true false false):=by
 refine returnsInHanded_of_change_and (C:=Tryz.checked) (X:=fun w _=>laidMetH Tryz.prog Rows.exactDualityRow.laid w) (fun _ _ _ hh h=>h.of_heap hh) own started d6 Tryz.func3
  (ChangeSpec.witness_shaped (enc:=enc) (C:=Tryz.checked) (os:=os) (X:=fun w _=>laidMetH Tryz.prog Rows.exactDualityRow.laid w) false (World.laidAll Tryz.prog os Rows.exactDualityRow.laid) #[.agg #[.slice none 0 0,.slice none 0 0,.slice none 0 0],.slice none 0 0,.slice none 0 0] 8 (World.laidAll_os _ _ _)
   (World.shaped_of_ZipB d6 d6) d6 d6 d6
   (by rw[MakeChecks.laidMetH_plain _ _ _ d6];exact laidMet_laidAll _ d6 d6)) ?_
 intro C9 base args ds gs before Xr hW hcnd _ hL _;have Qj:∀(j:Nat) t v,Tryz.f3.params[j]? =some t->args[j]? =some v->Value.okWide Tryz.prog C9 .any base t v:=Xr;have hW':=hW;obtain⟨p,q,hA0,hV,rfl,hfz,hnd⟩:=hW;have hA:DataW.TrodAll enc Tryz.prog C9 0 (fun _=>true) true Tryz.f3.params.toList args.toList ds p:=hA0;rw[Tryz.params3]at hA Qj;obtain⟨v0,vs0,d0,ds0,p0,q0,SX,rfl,rfl,h0,r0⟩:=trodAll_cons hA;obtain⟨v1,vs1,d1,ds1,p1,q1,rfl,rfl,rfl,W,r1⟩:=trodAll_cons r0;obtain⟨v2,vs2,d2,ds2,p2,q2,rfl,rfl,rfl,I,r2⟩:=trodAll_cons r1;obtain⟨rfl,rfl,rfl⟩:=trodAll_nil r2;obtain rfl:args= #[v0,v1,v2]:=by cases args;simp_all
 obtain⟨rfl,rfl⟩:=trodVars_none hV;have k0:=h0;have k1:=W;have k2:=I;have lt0:∀x∈p0,x.block<C9.heap.size:=by obtain⟨m,hm⟩:=k0;exact DataW.trod_lt m _ _ _ hm
 have lt1:∀x∈p1,x.block<C9.heap.size:=by obtain⟨m,hm⟩:=k1;exact DataW.trod_lt m _ _ _ hm
 have lt2:∀x∈p2,x.block<C9.heap.size:=by obtain⟨m,hm⟩:=k2;exact DataW.trod_lt m _ _ _ hm
 obtain⟨_,_,_,_,_,_,rfl,y00,y01,y02⟩:=wM h0 (okWide_struct Tryz.underlying25 (Qj 0 25 v0 rfl rfl));obtain⟨M1,y1⟩:=tq (Qj 1 23 v1 rfl rfl) W;obtain⟨M2,y2⟩:=tq (Qj 2 23 v2 rfl rfl) I;clear hA0 Xr;refine((Ex.yi (fun _ h=>h) y00 y01 y02 y1 y2).2).mono fun e W' ⟨v,G,Sa,hv⟩=>?_;subst G;subst hv;have cV:Below C9.heap.size C9 W':=Ext.cV Sa (ae _);exact⟨_,rfl,_,_,_,[],_,[],hW',trodAll_mk1 (shut_bool Tryz.underlying4 _),(trodAll_cons_mk (Below.trod laidOut d6 (aI d6) k0 cV lt0) (trodAll_cons_mk (Below.trod laidOut d6 (aI d6) k1 cV lt1) (trodAll_cons_mk (Below.trod laidOut d6 (aI d6) k2 cV lt2) trodAll_mk0))),rfl,cV.frame _,fun h=>by cases h⟩

theorem over:Rows.exactDualityRow.holds Tryz.pinned (OpenSpec.ofChange Rows.exactDualitySpec):=
 OpenClaim.holds_of_wide 3 Tryz.f3 rfl rfl rfl rfl rfl rfl rfl ⟨rfl,rfl,rfl,rfl,rfl⟩ rfl rfl rfl rfl rfl d6 Tryz.func3 d6
  (aI d6) (by unfold Func.isWrapper;first|(rw [aM (by decide +kernel)];kernel_rfl)|(rw [aK (by decide +kernel)];exact⟨rfl,rfl⟩))
  (fun os started H enc _=>lifted os started H enc)

/-- The law holds for every input. -/
theorem exactDuality_holds:Rows.ExactDualityCardSaid:=
 Claim7.holds_tied_plain_at .later [] [.data,.pinned] true (true, "0bc75af6b6dec3d403eda55c1824110a830e2f3b055f3be94a7c3e109a489aed") false over (fun _ h=>by cases h) d6 (fun _ h=>by cases h) exactDuality_row_tie rfl ⟨rfl,rfl⟩ d6 rfl
  (fun f fn hf S3=>by
   obtain rfl:f=3:=Option.some.inj ((show Tryz.prog.funcNamed "putlog/putloglaw01.ExactDuality" =some 3 by kernel_rfl).symm.trans hf) |>.symm
   obtain rfl:fn=Tryz.f3:=(Option.some.inj (Tryz.func3.symm.trans S3)).symm
   exact⟨d6,fun j t ht=>by
    rw[Tryz.params3]at ht;have hm:t∈[25,23,23]:=by simpa using Array.mem_of_getElem? ht
    have Q7:([25,23,23].all fun u=> !Tryz.prog.wantsStandIn u)=true:=by kernel_rfl
    exact(show Tryz.prog.wantsStandIn t=false by simpa using List.all_eq_true.1 Q7 t hm)⟩)
  d6
#print axioms exactDuality_holds
end Go.Proofs.YtbffinhkognefaaGreatDoor
