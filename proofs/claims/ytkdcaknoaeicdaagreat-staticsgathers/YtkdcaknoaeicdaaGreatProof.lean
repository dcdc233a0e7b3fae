/- putlog/putloglaw05.StaticsGathers returns true for every input, and its arguments read behind the call as they read before. No condition. -/
import Derived.Test.YtkdcaknoaeicdaaGreatRows
import Derived.ProofKit
import Derived.WalkKit
import Derived.OpenShut
import Derived.ShutString
import Derived.ChangeOld
import Derived.Below
import Derived.Deep.SlicePairs
import Derived.Test.YtkdcaknoaeicdaaGreatP14
namespace Go.Proofs.YtkdcaknoaeicdaaGreat
open Go.ChangeShapes Go.WideShapes Go.ChangeAt Go.RowKit Go.Deep Go.Sx

theorem own:ownKnob Tryz.prog.godebug=none:=by kernel_rfl
theorem laidOut:laidOutB Tryz.prog=true:=by kernel_rfl

theorem cell_lt{w:World}{a:Addr}{v:Value}(h:w.cell? a=some v):a.block<w.heap.size:=by
 apply Decidable.byContradiction
 intro hn
 have hb:w.heap[a.block]? =none:=Array.getElem?_eq_none (by omega)
 unfold World.cell? at h
 rw[hb]at h
 cases h
theorem choose_list{α:Type}(n:Nat)(P:Nat→α→Prop)(h:∀j,j<n→∃x,P j x):∃l:List α,l.length=n∧∀(j:Nat) (x:α),l[j]? =some x→P j x:=by
 induction n with
 |zero=>exact⟨[],rfl,by simp⟩
 |succ n ih=>
  obtain⟨l,h1,h2⟩:=ih fun j hj=>h j (by omega)
  obtain⟨x,hx⟩:=h n (by omega)
  refine⟨l++[x],by simp[h1],fun j y hy=>?_⟩
  rcases Nat.lt_or_ge j n with hj|hj
  ·rw[List.getElem?_append_left (by omega)]at hy
   exact h2 j y hy
  ·rw[List.getElem?_append_right (by omega)]at hy
   have:j=n:=by
    have:=(List.getElem?_eq_some_iff.1 hy).1
    simp at this
    omega
   subst this
   rw[h1,Nat.sub_self]at hy
   simp at hy
   rw[←hy]
   exact hx
section
variable{H:Type}{enc:TypeId×Value→H}{W:World}{sp:Nat→Bool}{hd:Bool}
theorem limbs_of_cells{fuel:Nat}{cs:List Value}{x:DataW H×List MemPlace}(h:DataW.trod enc Tryz.prog W 0 sp hd fuel 43 cs=some x):∃v ls,cs=[v]∧Ex.Limbs W (fun g=>g<W.heap.size) v ls:=by
 rcases open_slice1 Tryz.underlying43 (by kernel_rfl) h with⟨rfl,_⟩|⟨a,n,c,m,k,V,D,Pl,rfl,_,hnc,hcm,hm,_,hel⟩
 ·exact⟨_,[],rfl,Ex.Limbs.nil _ _⟩
 ·have hnm:n≤m:=by rw[hm];split<;>omega
  obtain⟨xs,hl,hx⟩:=choose_list n (fun j (y:Nat)=>V j= .int .u32 (y:Int)∧y<4294967296) (fun j hj=>by
   obtain⟨y,h1,_,h3⟩:=DataW.trod_int Tryz.underlying220 (hel j (by omega)).2
   injection h1 with h1
   have h3:0≤y∧y≤4294967295:=by simpa [Lit.wf,IntKind.min,IntKind.max,IntKind.signed,IntKind.bits]using h3
   exact⟨y.toNat,by rw[h1];congr 1;omega,by omega⟩)
  subst hl
  refine⟨_,xs,rfl,fun y hy=>?_,by unfold maxLen at hcm;omega,some a,c,rfl,by omega,fun j y hj=>⟨a,rfl,?_⟩⟩
  ·obtain⟨j,hj,rfl⟩:=List.mem_iff_getElem.1 hy
   exact(hx j _ (List.getElem?_eq_getElem hj)).2
  ·have hjl:=(List.getElem?_eq_some_iff.1 hj).1
   have h1:=(hel j (by omega)).1
   rw[(hx j y hj).1]at h1
   refine⟨?_,h1⟩
   have:=cell_lt h1
   rwa [Ex.addB]at this
theorem int_of_trod{v:Value}{d:DataW H}{p:List MemPlace}(h:DataW.Trod enc Tryz.prog W 0 sp hd 45 v d p)(hc:∃cs,v= .agg cs∧cs.size=Tryz.prog.cellsOf 45):∃z,Ex.IntR W (fun g=>g<W.heap.size) v z:=by
 obtain⟨fuel,hf⟩:=h
 obtain⟨cs,rfl,hs⟩:=hc
 have c24:Tryz.prog.cellsOf 45=2:=by kernel_rfl
 rw[c24]at hs
 obtain⟨c0,c1,rfl⟩:∃c0 c1,cs= #[c0,c1]:=by
  obtain⟨l⟩:=cs
  match l,hs with
  |[c0,c1],_=>exact⟨c0,c1,rfl⟩
 have hf:DataW.trod enc Tryz.prog W 0 sp hd fuel 45 [c0,c1]=some (d,p):=hf
 obtain⟨xs,k,_,_,_,hxl,hfl⟩:=DataW.trod_struct Tryz.underlying45 hf
 have c4:Tryz.prog.cellsOf 4=1:=by kernel_rfl
 have c22:Tryz.prog.cellsOf 43=1:=by kernel_rfl
 have len2:xs.length=2:=hxl
 match xs,len2 with
 |[y0,y1],_=>
  have g0:DataW.trod enc Tryz.prog W 0 sp hd k 4 (List.take (Tryz.prog.cellsOf 4) [c0,c1])=some y0:=hfl 0 _ rfl
  have g1:DataW.trod enc Tryz.prog W 0 sp hd k 43 (List.take (Tryz.prog.cellsOf 43) [c1])=some y1:=hfl 1 _ rfl
  rw[c4]at g0
  rw[c22]at g1
  obtain⟨b,e0,_⟩:=DataW.trod_bool Tryz.underlying4 g0
  obtain⟨v,ls,e1,hl⟩:=limbs_of_cells g1
  have e0:[c0]=[Value.bool b]:=e0
  have e1:[c1]=[v]:=e1
  simp only[List.cons.injEq,and_true]at e0 e1
  subst e0 e1
  exact⟨Ex.sg b (Ex.val ls),b,ls,⟨_,rfl,hl⟩,rfl⟩
theorem listk_of_cells{α:Type}{P:World→(Nat→Prop)→List Value→α→Prop}{t e k:Nat}(hk:0<k)(hu:Tryz.prog.underlying t=some (.slice e))(hc:Tryz.prog.cellsOf e=k)(hP1:∀cs y,P W (fun g=>g<W.heap.size) cs y→∀u∈cs,u.oneCell'=true)
  (hE:∀{fuel:Nat} {cs:List Value} {x:DataW H×List MemPlace},DataW.trod enc Tryz.prog W 0 sp hd fuel e cs=some x→cs.length=k→∃y,P W (fun g=>g<W.heap.size) cs y) {fuel:Nat} {cs:List Value} {x:DataW H×List MemPlace}
  (h:DataW.trod enc Tryz.prog W 0 sp hd fuel t cs=some x):∃v xs,cs=[v]∧Ex.ListK k P W (fun g=>g<W.heap.size) v xs:=by
 rcases open_slice hu h with⟨rfl,_⟩|⟨a,n,c,m,k2,D,Pl,rfl,_,hnc,hcm,hm,_,hel⟩
 ·exact⟨_,[],rfl,[],⟨by simp,by simp,by simp,none,0,rfl,Nat.le_refl _,by simp⟩,rfl,by simp,by simp⟩
 ·have hnm:n≤m:=by rw[hm];split<;>omega
  obtain⟨l,hl,hx⟩:=choose_list n (fun j (y:List Value×α)=>y.1.length=k∧P W (fun g=>g<W.heap.size) y.1 y.2∧∀(i:Nat) u,y.1[i]? =some u→W.cell? (a.add (j*k+i))=some u) (fun j hj=>by
   obtain⟨cs,h1,h2⟩:=hel j (by omega)
   rw[hc]at h1
   obtain⟨_,hlen,hcell⟩:=World.cells?_some h1
   obtain⟨y,hy⟩:=hE h2 hlen
   refine⟨(cs,y),hlen,hy,fun i u hi=>?_⟩
   have hi4:i<cs.length:=(List.getElem?_eq_some_iff.1 hi).1
   have:=hcell i (by omega)
   rw[←Ex.addr_two,this]
   exact hi)
  have h4:∀cs∈l.map (·.1),cs.length=k:=fun cs hc=>by
   obtain⟨y,hy,rfl⟩:=List.mem_map.1 hc
   obtain⟨j,hj⟩:=List.getElem?_of_mem hy
   exact(hx j y hj).1
  have hfl:=Ex.flatk_len h4
  rw[List.length_map,hl]at hfl
  refine⟨_,l.map (·.2),rfl,l.map (·.1),⟨by rw[List.length_map];unfold maxLen at *;omega,by rw[hfl,List.length_map,hl],fun u hu=>?_,some a,c,by rw[List.length_map,hl],by rw[List.length_map,hl];omega,fun j u hj=>⟨a,rfl,?_⟩⟩,by simp,h4,fun j cs y k1 k2=>?_⟩
  ·obtain⟨cs,hc,hu⟩:=List.mem_flatten.1 hu
   obtain⟨y,hy,rfl⟩:=List.mem_map.1 hc
   obtain⟨j,hj⟩:=List.getElem?_of_mem hy
   exact hP1 _ _ (hx j y hj).2.1 u hu
  ·have hj4:=(List.getElem?_eq_some_iff.1 hj).1
   rw[hfl]at hj4
   have hdm:j / k*k+j % k=j:=by rw[Nat.mul_comm];exact Nat.div_add_mod j k
   have hjn:j / k<n:=Nat.div_lt_of_lt_mul (by rw[Nat.mul_comm];exact hj4)
   have hmk:=Nat.mod_lt j hk
   obtain⟨y,hy⟩:∃y,l[j / k]? =some y:=⟨_,List.getElem?_eq_getElem (by omega)⟩
   obtain⟨h5,h6,h7⟩:=hx _ y hy
   obtain⟨u2,hu2⟩:∃u,y.1[j % k]? =some u:=⟨_,List.getElem?_eq_getElem (by omega)⟩
   have h8:=Ex.flatk_get h4 (show (l.map (·.1))[j / k]? =some y.1 by rw[List.getElem?_map,hy];rfl) (j % k) u2 hu2
   rw[hdm,hj]at h8
   injection h8 with h8
   subst h8
   have h9:=h7 _ _ hu2
   rw[hdm]at h9
   have:=cell_lt h9
   rw[Ex.addB]at this
   exact⟨this,h9⟩
  ·rw[List.getElem?_map]at k1 k2
   cases hl2:l[j]? with
   |none=>rw[hl2]at k1;cases k1
   |some y2=>
    rw[hl2]at k1 k2
    injection k1 with k1
    injection k2 with k2
    subst k1 k2
    exact(hx j y2 hl2).2.1
set_option maxRecDepth 100000 in
theorem load_of_cells{fuel:Nat}{cs:List Value}{x:DataW H×List MemPlace}(h:DataW.trod enc Tryz.prog W 0 sp hd fuel 147 cs=some x)(hl:cs.length=4):∃y,Ex.LoadP W (fun g=>g<W.heap.size) cs y:=by
 match cs,hl with
 |[c0,c1,c2,c3],_=>
 obtain⟨xs,k,_,_,_,hxl,hfl⟩:=DataW.trod_struct Tryz.underlying147 h
 have eint:Tryz.prog.cellsOf 3=1:=by kernel_rfl
 have lenF:xs.length=4:=hxl
 match xs,lenF with
 |[y0,y1,y2,y3],_=>
  have g0:DataW.trod enc Tryz.prog W 0 sp hd k 3 (List.take (Tryz.prog.cellsOf 3) [c0,c1,c2,c3])=some y0:=hfl 0 _ rfl
  rw[eint]at g0
  have g1:DataW.trod enc Tryz.prog W 0 sp hd k 3 (List.take (Tryz.prog.cellsOf 3) (List.drop (Tryz.prog.cellsOf 3) [c0,c1,c2,c3]))=some y1:=hfl 1 _ rfl
  rw[eint]at g1
  have g2:DataW.trod enc Tryz.prog W 0 sp hd k 3 (List.take (Tryz.prog.cellsOf 3) (List.drop (Tryz.prog.cellsOf 3+Tryz.prog.cellsOf 3) [c0,c1,c2,c3]))=some y2:=hfl 2 _ rfl
  rw[eint]at g2
  have g3:DataW.trod enc Tryz.prog W 0 sp hd k 3 (List.take (Tryz.prog.cellsOf 3) (List.drop (Tryz.prog.cellsOf 3+Tryz.prog.cellsOf 3+Tryz.prog.cellsOf 3) [c0,c1,c2,c3]))=some y3:=hfl 3 _ rfl
  rw[eint]at g3
  obtain⟨n0,i0,_,_⟩:=DataW.trod_int Tryz.underlying3 g0
  have i0:[c0]=[Value.int .i64 n0]:=i0
  simp only[List.cons.injEq,and_true]at i0
  subst i0
  obtain⟨n1,i1,_,_⟩:=DataW.trod_int Tryz.underlying3 g1
  have i1:[c1]=[Value.int .i64 n1]:=i1
  simp only[List.cons.injEq,and_true]at i1
  subst i1
  obtain⟨n2,i2,_,_⟩:=DataW.trod_int Tryz.underlying3 g2
  have i2:[c2]=[Value.int .i64 n2]:=i2
  simp only[List.cons.injEq,and_true]at i2
  subst i2
  obtain⟨n3,i3,_,_⟩:=DataW.trod_int Tryz.underlying3 g3
  have i3:[c3]=[Value.int .i64 n3]:=i3
  simp only[List.cons.injEq,and_true]at i3
  subst i3
  exact⟨(n0,n1,n2,n3),rfl⟩
theorem lload_of_cells{fuel:Nat}{cs:List Value}{x:DataW H×List MemPlace}(h:DataW.trod enc Tryz.prog W 0 sp hd fuel 27 cs=some x):∃v xs,cs=[v]∧Ex.ListK 4 Ex.LoadP W (fun g=>g<W.heap.size) v xs:=
 listk_of_cells (by decide) Tryz.underlying27 (by kernel_rfl) (fun cs y hy u hu=>by have hy:cs=_:=hy;subst hy;simp at hu;rcases hu with rfl|rfl|rfl|rfl<;>rfl) (fun h hl=>load_of_cells h hl) h
set_option maxRecDepth 100000 in
theorem lload_of_trod{base:Nat}{v:Value}{d:DataW H}{p:List MemPlace}(hv:Value.okWide Tryz.prog W .any base 27 v)(h:DataW.Trod enc Tryz.prog W 0 sp hd 27 v d p):∃xs,Ex.ListK 4 Ex.LoadP W (fun g=>g<W.heap.size) v xs:=by
 obtain⟨a,n,c,rfl⟩:=okWide_slice Tryz.underlying27 hv
 obtain⟨fuel,hf⟩:=h
 obtain⟨v,xs,e,hr⟩:=lload_of_cells (cs:=[.slice a n c]) hf
 simp only[List.cons.injEq,and_true]at e
 rw[e]
 exact⟨xs,hr⟩
theorem llload_of_cells{fuel:Nat}{cs:List Value}{x:DataW H×List MemPlace}(h:DataW.trod enc Tryz.prog W 0 sp hd fuel 91 cs=some x):∃v M,cs=[v]∧Ex.CasesR W (fun g=>g<W.heap.size) v M:=by
 rcases open_slice1 Tryz.underlying91 (by kernel_rfl) h with⟨rfl,_⟩|⟨a,n,c,m,k,V,D,Pl,rfl,_,hnc,hcm,hm,_,hel⟩
 ·exact⟨_,[],rfl,[],⟨by simp,by simp,by simp,none,0,rfl,Nat.le_refl _,by simp⟩,rfl,by simp⟩
 ·have hnm:n≤m:=by rw[hm];split<;>omega
  obtain⟨l,hl,hx⟩:=choose_list n (fun j (y:Value×List Ex.Ld)=>W.cell? (a.add j)=some y.1∧Ex.LoadsR W (fun g=>g<W.heap.size) y.1 y.2) (fun j hj=>by
   obtain⟨h1,h2⟩:=hel j (by omega)
   obtain⟨v,xs,e,hr⟩:=lload_of_cells h2
   simp only[List.cons.injEq,and_true]at e
   exact⟨(V j,xs),h1,by rw[e];exact hr⟩)
  refine⟨_,l.map (·.2),rfl,l.map (·.1),⟨by rw[List.length_map];unfold maxLen at *;omega,by simp,fun u hu=>?_,some a,c,by rw[List.length_map,hl],by rw[List.length_map,hl];omega,fun j u hj=>⟨a,rfl,?_⟩⟩,by simp,fun j u y k1 k2=>?_⟩
  ·obtain⟨y,hy,rfl⟩:=List.mem_map.1 hu
   obtain⟨j,hj⟩:=List.getElem?_of_mem hy
   obtain⟨_,hr⟩:=hx j y hj
   obtain⟨a2,c2,e,_⟩:=hr.shape
   rw[e];rfl
  ·rw[List.getElem?_map]at hj
   cases hl2:l[j]? with
   |none=>rw[hl2]at hj;cases hj
   |some y2=>
    rw[hl2]at hj
    injection hj with hj
    subst hj
    have h9:=(hx j y2 hl2).1
    have:=cell_lt h9
    rw[Ex.addB]at this
    exact⟨this,h9⟩
  ·rw[List.getElem?_map]at k1 k2
   cases hl2:l[j]? with
   |none=>rw[hl2]at k1;cases k1
   |some y2=>
    rw[hl2]at k1 k2
    injection k1 with k1
    injection k2 with k2
    subst k1 k2
    exact(hx j y2 hl2).2
set_option maxRecDepth 100000 in
theorem llload_of_trod{base:Nat}{v:Value}{d:DataW H}{p:List MemPlace}(hv:Value.okWide Tryz.prog W .any base 91 v)(h:DataW.Trod enc Tryz.prog W 0 sp hd 91 v d p):∃M,Ex.CasesR W (fun g=>g<W.heap.size) v M:=by
 obtain⟨a,n,c,rfl⟩:=okWide_slice Tryz.underlying91 hv
 obtain⟨fuel,hf⟩:=h
 obtain⟨v,xs,e,hr⟩:=llload_of_cells (cs:=[.slice a n c]) hf
 simp only[List.cons.injEq,and_true]at e
 rw[e]
 exact⟨xs,hr⟩
theorem lint_of_cells{fuel:Nat}{cs:List Value}{x:DataW H×List MemPlace}(h:DataW.trod enc Tryz.prog W 0 sp hd fuel 92 cs=some x):∃v xs,cs=[v]∧Ex.ZsR W (fun g=>g<W.heap.size) v xs:=by
 rcases open_slice1 Tryz.underlying92 (by kernel_rfl) h with⟨rfl,_⟩|⟨a,n,c,m,k,V,D,Pl,rfl,_,hnc,hcm,hm,_,hel⟩
 ·exact⟨_,[],rfl,⟨by simp,by simp,by simp,none,0,rfl,Nat.le_refl _,by simp⟩⟩
 ·have hnm:n≤m:=by rw[hm];split<;>omega
  obtain⟨xs,hl,hx⟩:=choose_list n (fun j (y:Int)=>V j= .int .i64 y) (fun j hj=>by
   obtain⟨y,h1,_⟩:=DataW.trod_int Tryz.underlying3 (hel j (by omega)).2
   injection h1 with h1
   exact⟨y,h1⟩)
  subst hl
  refine⟨_,xs,rfl,⟨by unfold maxLen at *;omega,by rw[List.length_map,Nat.mul_one],fun u hu=>?_,some a,c,rfl,by omega,fun j u hj=>⟨a,rfl,?_⟩⟩⟩
  ·obtain⟨z,_,rfl⟩:=List.mem_map.1 hu
   rfl
  ·rw[List.getElem?_map]at hj
   obtain⟨y,hy,rfl⟩:=Option.map_eq_some_iff.1 hj
   have hjl:=(List.getElem?_eq_some_iff.1 hy).1
   have h1:=(hel j (by omega)).1
   rw[hx j y hy]at h1
   have:=cell_lt h1
   rw[Ex.addB]at this
   exact⟨this,h1⟩
set_option maxRecDepth 100000 in
theorem lint_of_trod{base:Nat}{v:Value}{d:DataW H}{p:List MemPlace}(hv:Value.okWide Tryz.prog W .any base 92 v)(h:DataW.Trod enc Tryz.prog W 0 sp hd 92 v d p):∃xs,Ex.ZsR W (fun g=>g<W.heap.size) v xs:=by
 obtain⟨a,n,c,rfl⟩:=okWide_slice Tryz.underlying92 hv
 obtain⟨fuel,hf⟩:=h
 obtain⟨v,xs,e,hr⟩:=lint_of_cells (cs:=[.slice a n c]) hf
 simp only[List.cons.injEq,and_true]at e
 rw[e]
 exact⟨xs,hr⟩
end

set_option maxRecDepth 100000 in
theorem lifted(os:Os)(started:os.Started)(H:Type)(enc:TypeId×Value→H):
  ReturnsInHanded {} Tryz.checked os 9 .any (Rows.staticsGathersSpec.pre6 enc Tryz.prog Tryz.f9 Rows.staticsGathersRow.domain false) (Rows.staticsGathersSpec.post enc Tryz.prog Tryz.f9 false true false false):=by
 refine returnsInHanded_of_change (C:=Tryz.checked) own started (by kernel_rfl) Tryz.func9
  (ChangeSpec.witness6 (enc:=enc) (C:=Tryz.checked) false ⟨#[],#[.slice none 0 0,.slice none 0 0],[]⟩ 8 (by kernel_rfl) (by kernel_rfl) (by kernel_rfl) (by kernel_rfl)) ?_
 intro W base args ds gs before hval0 hW hcnd _
 have hval:∀(j:Nat) t v,Tryz.f9.params[j]? =some t→args[j]? =some v→Value.okWide Tryz.prog W .any base t v:=hval0
 have hW':=hW
 obtain⟨p,q,hA0,hV,rfl,hfz,hnd⟩:=hW
 have hA:DataW.TrodAll enc Tryz.prog W 0 (fun _=>true) true Tryz.f9.params.toList args.toList ds p:=hA0
 rw[Tryz.params9]at hA hval
 obtain⟨v0,vs0_,d0,ds0,p0,q0,hargs,rfl,rfl,h0,r0⟩:=trodAll_cons hA
 obtain⟨v1,vs1_,d1,ds1,p1,q1,rfl,rfl,rfl,h1,r1⟩:=trodAll_cons r0
 obtain⟨rfl,rfl,rfl⟩:=trodAll_nil r1
 obtain rfl:args= #[v0,v1]:=by cases args;simp_all
 obtain⟨rfl,rfl⟩:=trodVars_none hV
 have k0:=h0
 have k1:=h1
 have lt0:∀x∈p0,x.block<W.heap.size:=by obtain⟨m,hm⟩:=k0;exact DataW.trod_lt m _ _ _ hm
 have lt1:∀x∈p1,x.block<W.heap.size:=by obtain⟨m,hm⟩:=k1;exact DataW.trod_lt m _ _ _ hm
 obtain⟨M0,y0⟩:=llload_of_trod (hval 0 91 v0 rfl rfl) h0
 obtain⟨M1,y1⟩:=lint_of_trod (hval 1 92 v1 rfl rfl) h1
 clear hA0 hval0
 refine((Ex.staticsGathers_c (S:=fun g=>g<W.heap.size) (fun _ h=>h) y0 y1).2).mono fun e W' ⟨v,he,hext,hv⟩=>?_
 subst he;subst hv
 have bel:Below W.heap.size W W':=Ext.bel hext (Nat.le_refl _)
 exact⟨_,rfl,_,_,_,[],_,[],hW',trodAll_mk1 (shut_bool Tryz.underlying4 _),(trodAll_cons_mk (Below.trod laidOut (by kernel_rfl) (of_decide_eq_true (by kernel_rfl)) k0 bel lt0) (trodAll_cons_mk (Below.trod laidOut (by kernel_rfl) (of_decide_eq_true (by kernel_rfl)) k1 bel lt1) trodAll_mk0)),rfl,bel.frame _,fun h=>by cases h⟩

theorem over:Rows.staticsGathersRow.holds Tryz.pinned (OpenSpec.ofChange Rows.staticsGathersSpec):=
 OpenClaim.holds_of_wide 9 Tryz.f9 rfl rfl rfl rfl rfl rfl rfl ⟨rfl,rfl,rfl,rfl,rfl⟩ rfl rfl rfl rfl rfl (by kernel_rfl) Tryz.func9 (by kernel_rfl)
  (of_decide_eq_true (by kernel_rfl)) (by unfold Func.isWrapper;first|(rw [if_pos (by decide +kernel)];kernel_rfl)|(rw [if_neg (by decide +kernel)];exact⟨rfl,rfl⟩))
  (fun os started H enc _=>lifted os started H enc)

/-- The law holds for every input. -/
theorem staticsGathers_holds:Rows.StaticsGathersSaid:=over
#print axioms staticsGathers_holds
end Go.Proofs.YtkdcaknoaeicdaaGreat
