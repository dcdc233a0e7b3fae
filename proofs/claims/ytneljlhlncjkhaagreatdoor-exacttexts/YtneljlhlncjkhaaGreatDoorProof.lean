/- putlog/putloglaw01.ExactTexts returns true for every input, and its arguments read behind the call as they read before; the listed variables are tied to the program's text. No condition. -/
import Derived.Test.YtneljlhlncjkhaaGreatDoorCards
import Derived.Test.YtneljlhlncjkhaaGreatDoorTie
import Derived.ProofKit
import Derived.WalkKit
import Derived.OpenShut
import Derived.ShutString
import Derived.ChangeOld
import Derived.Below
import Derived.Deep.SlicePairs
import Derived.Lay
import Derived.SevenTiedAt
import Derived.ChangeMaps5
import Derived.Test.YtneljlhlncjkhaaGreatDoorP14
namespace Go.Proofs.YtneljlhlncjkhaaGreatDoor
open Go.ChangeShapes Go.WideShapes Go.ChangeAt Go.RowKit Go.Deep Go.Sx

theorem own:ownKnob Tryz.prog.godebug=none:=by kernel_rfl
theorem laidOut:laidOutB Tryz.prog=true:=by kernel_rfl

theorem cell_lt{w:World}{a:Addr}{v:Value}(h:w.cell? a=some v):a.block<w.heap.size:=by
 apply Decidable.byContradiction
 intro hn
 have hb:w.heap[a.block]? =none:=Array.getElem?_eq_none (by omega)
 unfold World.cell? at h
 rw[hb]at h
 cases h
theorem choose_list{α:Type}(n:Nat)(P:Nat→α→Prop)(h:∀j,j<n→∃x,P j x):∃l:List α,l.length=n∧∀(j:Nat) (x:α),l[j]? =some x→P j x:=by
 induction n with
 |zero=>exact⟨[],rfl,by simp⟩
 |succ n ih=>
  obtain⟨l,h1,h2⟩:=ih fun j hj=>h j (by omega)
  obtain⟨x,hx⟩:=h n (by omega)
  refine⟨l++[x],by simp[h1],fun j y hy=>?_⟩
  rcases Nat.lt_or_ge j n with hj|hj
  ·rw[List.getElem?_append_left (by omega)]at hy
   exact h2 j y hy
  ·rw[List.getElem?_append_right (by omega)]at hy
   have:j=n:=by
    have:=(List.getElem?_eq_some_iff.1 hy).1
    simp at this
    omega
   subst this
   rw[h1,Nat.sub_self]at hy
   simp at hy
   rw[←hy]
   exact hx
section
variable{H:Type}{enc:TypeId×Value→H}{W:World}{sp:Nat→Bool}{hd:Bool}
theorem limbs_of_cells{fuel:Nat}{cs:List Value}{x:DataW H×List MemPlace}(h:DataW.trod enc Tryz.prog W 0 sp hd fuel 26 cs=some x):∃v ls,cs=[v]∧Ex.Limbs W (fun g=>g<W.heap.size) v ls:=by
 rcases open_slice1 Tryz.underlying26 (by kernel_rfl) h with⟨rfl,_⟩|⟨a,n,c,m,k,V,D,Pl,rfl,_,hnc,hcm,hm,_,hel⟩
 ·exact⟨_,[],rfl,Ex.Limbs.nil _ _⟩
 ·have hnm:n≤m:=by rw[hm];split<;>omega
  obtain⟨xs,hl,hx⟩:=choose_list n (fun j (y:Nat)=>V j= .int .u32 (y:Int)∧y<4294967296) (fun j hj=>by
   obtain⟨y,h1,_,h3⟩:=DataW.trod_int Tryz.underlying124 (hel j (by omega)).2
   injection h1 with h1
   have h3:0≤y∧y≤4294967295:=by simpa [Lit.wf,IntKind.min,IntKind.max,IntKind.signed,IntKind.bits]using h3
   exact⟨y.toNat,by rw[h1];congr 1;omega,by omega⟩)
  subst hl
  refine⟨_,xs,rfl,fun y hy=>?_,by unfold maxLen at hcm;omega,some a,c,rfl,by omega,fun j y hj=>⟨a,rfl,?_⟩⟩
  ·obtain⟨j,hj,rfl⟩:=List.mem_iff_getElem.1 hy
   exact(hx j _ (List.getElem?_eq_getElem hj)).2
  ·have hjl:=(List.getElem?_eq_some_iff.1 hj).1
   have h1:=(hel j (by omega)).1
   rw[(hx j y hj).1]at h1
   refine⟨?_,h1⟩
   have:=cell_lt h1
   rwa [Ex.addB]at this
theorem int_of_trod{v:Value}{d:DataW H}{p:List MemPlace}(h:DataW.Trod enc Tryz.prog W 0 sp hd 28 v d p)(hc:∃cs,v= .agg cs∧cs.size=Tryz.prog.cellsOf 28):∃z,Ex.IntR W (fun g=>g<W.heap.size) v z:=by
 obtain⟨fuel,hf⟩:=h
 obtain⟨cs,rfl,hs⟩:=hc
 have c24:Tryz.prog.cellsOf 28=2:=by kernel_rfl
 rw[c24]at hs
 obtain⟨c0,c1,rfl⟩:∃c0 c1,cs= #[c0,c1]:=by
  obtain⟨l⟩:=cs
  match l,hs with
  |[c0,c1],_=>exact⟨c0,c1,rfl⟩
 have hf:DataW.trod enc Tryz.prog W 0 sp hd fuel 28 [c0,c1]=some (d,p):=hf
 obtain⟨xs,k,_,_,_,hxl,hfl⟩:=DataW.trod_struct Tryz.underlying28 hf
 have c4:Tryz.prog.cellsOf 4=1:=by kernel_rfl
 have c22:Tryz.prog.cellsOf 26=1:=by kernel_rfl
 have len2:xs.length=2:=hxl
 match xs,len2 with
 |[y0,y1],_=>
  have g0:DataW.trod enc Tryz.prog W 0 sp hd k 4 (List.take (Tryz.prog.cellsOf 4) [c0,c1])=some y0:=hfl 0 _ rfl
  have g1:DataW.trod enc Tryz.prog W 0 sp hd k 26 (List.take (Tryz.prog.cellsOf 26) [c1])=some y1:=hfl 1 _ rfl
  rw[c4]at g0
  rw[c22]at g1
  obtain⟨b,e0,_⟩:=DataW.trod_bool Tryz.underlying4 g0
  obtain⟨v,ls,e1,hl⟩:=limbs_of_cells g1
  have e0:[c0]=[Value.bool b]:=e0
  have e1:[c1]=[v]:=e1
  simp only[List.cons.injEq,and_true]at e0 e1
  subst e0 e1
  exact⟨Ex.sg b (Ex.val ls),b,ls,⟨_,rfl,hl⟩,rfl⟩
theorem rat_of_trod{v:Value}{d:DataW H}{p:List MemPlace}(h:DataW.Trod enc Tryz.prog W 0 sp hd 30 v d p)(hc:∃cs,v= .agg cs∧cs.size=Tryz.prog.cellsOf 30):∃a b,Ex.RatR W (fun g=>g<W.heap.size) v a b:=by
 obtain⟨fuel,hf⟩:=h
 obtain⟨cs,rfl,hs⟩:=hc
 have c26:Tryz.prog.cellsOf 30=4:=by kernel_rfl
 rw[c26]at hs
 obtain⟨c0,c1,c2,c3,rfl⟩:∃c0 c1 c2 c3,cs= #[c0,c1,c2,c3]:=by
  obtain⟨l⟩:=cs
  match l,hs with
  |[c0,c1,c2,c3],_=>exact⟨c0,c1,c2,c3,rfl⟩
 have hf:DataW.trod enc Tryz.prog W 0 sp hd fuel 30 [c0,c1,c2,c3]=some (d,p):=hf
 obtain⟨xs,k,_,_,_,hxl,hfl⟩:=DataW.trod_struct Tryz.underlying30 hf
 have c24:Tryz.prog.cellsOf 28=2:=by kernel_rfl
 have len2:xs.length=2:=hxl
 match xs,len2 with
 |[y0,y1],_=>
  have g0:DataW.trod enc Tryz.prog W 0 sp hd k 28 (List.take (Tryz.prog.cellsOf 28) [c0,c1,c2,c3])=some y0:=hfl 0 _ rfl
  have g1:DataW.trod enc Tryz.prog W 0 sp hd k 28 (List.take (Tryz.prog.cellsOf 28) [c2,c3])=some y1:=hfl 1 _ rfl
  rw[c24]at g0 g1
  obtain⟨z0,i0⟩:=int_of_trod (v:=.agg #[c0,c1]) ⟨k,g0⟩ ⟨_,rfl,by rw[c24];rfl⟩
  obtain⟨z1,i1⟩:=int_of_trod (v:=.agg #[c2,c3]) ⟨k,g1⟩ ⟨_,rfl,by rw[c24];rfl⟩
  obtain⟨b0,w0,_,_,e0,_⟩:=i0.limbs
  obtain⟨b1,w1,_,_,e1,_⟩:=i1.limbs
  simp only[Value.agg.injEq,Array.mk.injEq,List.cons.injEq,and_true]at e0 e1
  obtain⟨rfl,rfl⟩:=e0
  obtain⟨rfl,rfl⟩:=e1
  exact⟨z0,z1,_,_,_,_,rfl,i0,i1⟩
end

set_option maxRecDepth 100000 in
theorem lifted(os:Os)(started:os.Started)(H:Type)(enc:TypeId×Value→H):
  ReturnsInHanded {} Tryz.checked os 6 .any (fun w args=>(Rows.exactTextsSpec.pre enc Tryz.prog Tryz.f6 Rows.exactTextsRow.domain false w args∧laidMetH Tryz.prog Rows.exactTextsRow.laid w)∧sizedMet enc Tryz.prog Tryz.f6 (OpenSpec.ofChange Rows.exactTextsSpec) false w args)
   (Rows.exactTextsSpec.post enc Tryz.prog Tryz.f6 false true false false):=by
 refine returnsInHanded_of_change_and (C:=Tryz.checked) (X:=fun w _=>laidMetH Tryz.prog Rows.exactTextsRow.laid w) (fun _ _ _ hh h=>h.of_heap hh) own started (by kernel_rfl) Tryz.func6
  (ChangeSpec.witness_shaped (enc:=enc) (C:=Tryz.checked) (os:=os) (X:=fun w _=>laidMetH Tryz.prog Rows.exactTextsRow.laid w) false (World.laidAll Tryz.prog os Rows.exactTextsRow.laid) #[.agg #[.bool false,.slice none 0 0,.bool false,.slice none 0 0],.string ⟨#[]⟩] 8 (World.laidAll_os _ _ _)
   (World.shaped_of_ZipB (by kernel_rfl) (by kernel_rfl)) (by kernel_rfl) (by kernel_rfl) (by kernel_rfl)
   (by rw[MakeChecks.laidMetH_plain _ _ _ (by kernel_rfl)];exact laidMet_laidAll _ (by kernel_rfl) (by kernel_rfl))) ?_
 intro W base args ds gs before hval0 hW hcnd _ hL _
 have hval:∀(j:Nat) t v,Tryz.f6.params[j]? =some t→args[j]? =some v→Value.okWide Tryz.prog W .any base t v:=hval0
 have hW':=hW
 obtain⟨p,q,hA0,hV,rfl,hfz,hnd⟩:=hW
 have hA:DataW.TrodAll enc Tryz.prog W 0 (fun _=>true) true Tryz.f6.params.toList args.toList ds p:=hA0
 rw[Tryz.params6]at hA hval
 obtain⟨v0,vs0,d0,ds0,p0,q0,hargs,rfl,rfl,h0,r0⟩:=trodAll_cons hA
 obtain⟨v1,vs1,d1,ds1,p1,q1,rfl,rfl,rfl,h1,r1⟩:=trodAll_cons r0
 obtain⟨rfl,rfl,rfl⟩:=trodAll_nil r1
 obtain rfl:args= #[v0,v1]:=by cases args;simp_all
 obtain⟨rfl,rfl⟩:=trodVars_none hV
 have k0:=h0
 have k1:=h1
 have lt0:∀x∈p0,x.block<W.heap.size:=by obtain⟨m,hm⟩:=k0;exact DataW.trod_lt m _ _ _ hm
 have lt1:∀x∈p1,x.block<W.heap.size:=by obtain⟨m,hm⟩:=k1;exact DataW.trod_lt m _ _ _ hm
 obtain⟨za0,zb0,y0⟩:=rat_of_trod h0 (okWide_struct Tryz.underlying30 (hval 0 30 v0 rfl rfl))
 obtain⟨s1,rfl,hs1⟩:=Go.ChangeMaps.open_string Tryz.underlying9 (hval 1 9 v1 rfl rfl) h1
 clear hA0 hval0
 refine((Ex.exactTexts_c (fun _ h=>h) y0 s1).2).mono fun e W' ⟨v,he,hext,hv⟩=>?_
 subst he;subst hv
 have bel:Below W.heap.size W W':=Ext.bel hext (Nat.le_refl _)
 exact⟨_,rfl,_,_,_,[],_,[],hW',trodAll_mk1 (shut_bool Tryz.underlying4 _),(trodAll_cons_mk (Below.trod laidOut (by kernel_rfl) (of_decide_eq_true (by kernel_rfl)) k0 bel lt0) (trodAll_cons_mk (Below.trod laidOut (by kernel_rfl) (of_decide_eq_true (by kernel_rfl)) k1 bel lt1) trodAll_mk0)),rfl,bel.frame _,fun h=>by cases h⟩

theorem over:Rows.exactTextsRow.holds Tryz.pinned (OpenSpec.ofChange Rows.exactTextsSpec):=
 OpenClaim.holds_of_wide 6 Tryz.f6 rfl rfl rfl rfl rfl rfl rfl ⟨rfl,rfl,rfl,rfl,rfl⟩ rfl rfl rfl rfl rfl (by kernel_rfl) Tryz.func6 (by kernel_rfl)
  (of_decide_eq_true (by kernel_rfl)) (by unfold Func.isWrapper;first|(rw [if_pos (by decide +kernel)];kernel_rfl)|(rw [if_neg (by decide +kernel)];exact⟨rfl,rfl⟩))
  (fun os started H enc _=>lifted os started H enc)

/-- The law holds for every input. -/
theorem exactTexts_holds:Rows.ExactTextsCardSaid:=
 Claim7.holds_tied_plain_at .later [] [.data,.pinned] true (true, "c529851e8d8ecaa2a371ecee4a383b9fa6866ae0494a9f2d521c26521f33c4b3") false over (fun _ h=>by cases h) (by kernel_rfl) (fun _ h=>by cases h) exactTexts_row_tie rfl ⟨rfl,rfl⟩ (by kernel_rfl) rfl
  (fun f fn hf hfn=>by
   obtain rfl:f=6:=Option.some.inj ((show Tryz.prog.funcNamed "putlog/putloglaw01.ExactTexts" =some 6 by kernel_rfl).symm.trans hf) |>.symm
   obtain rfl:fn=Tryz.f6:=(Option.some.inj (Tryz.func6.symm.trans hfn)).symm
   exact⟨by kernel_rfl,fun j t ht=>by
    rw[Tryz.params6]at ht
    have hm:t∈[30,9]:=by simpa using Array.mem_of_getElem? ht
    have hall:([30,9].all fun u=> !Tryz.prog.wantsStandIn u)=true:=by kernel_rfl
    exact(show Tryz.prog.wantsStandIn t=false by simpa using List.all_eq_true.1 hall t hm)⟩)
  (by kernel_rfl)
#print axioms exactTexts_holds
end Go.Proofs.YtneljlhlncjkhaaGreatDoor
