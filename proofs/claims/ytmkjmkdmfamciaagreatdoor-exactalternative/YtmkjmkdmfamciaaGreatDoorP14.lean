/- A part of the proof: texts L14 to X89. Each tells its conditions in its theorems. -/
import Derived.Test.YtmkjmkdmfamciaaGreatDoorP7
import Derived.Test.YtmkjmkdmfamciaaGreatDoorP13
/- The pivots of an elimination. Plain. -/
namespace Go.Ex
theorem stepF_pv(s:List (List Rat)×List Nat)(c:Nat):(stepF s c).2=s.2∨(stepF s c).2=s.2++[c]:=by
 unfold stepF
 split
 ·dsimp only
  split
  ·exact .inl rfl
  ·exact .inr rfl
 ·exact .inl rfl
/-- free columns and pivots make up the columns -/
theorem pivots_count(M:List (List Rat)):∀c:Nat,(∀p∈((List.range c).foldl stepF (M,[])).2,p<c)∧(((List.range c).foldl stepF (M,[])).2).Pairwise (· < ·)∧((List.range c).filter fun j=>decide (j∉((List.range c).foldl stepF (M,[])).2)).length+((List.range c).foldl stepF (M,[])).2.length=c:=by
 intro c
 induction c with
 |zero=>simp
 |succ c ih=>
  rw[List.range_succ,List.foldl_append,List.foldl_cons,List.foldl_nil]
  generalize (List.range c).foldl stepF (M,[])=s at*
  obtain⟨h1,h2,h3⟩:=ih
  have hc:c∉s.2:=fun h=>by have:=h1 c h;omega
  rcases stepF_pv s c with e|e
  ·rw[e]
   refine⟨fun p hp=>by have:=h1 p hp;omega,h2,?_⟩
   rw[List.filter_append,List.length_append]
   simp only[List.filter_cons,hc,not_false_eq_true,decide_true,if_true,List.filter_nil,List.length_singleton]
   omega
  ·rw[e]
   refine⟨fun p hp=>?_,?_,?_⟩
   ·rcases List.mem_append.1 hp with hp|hp
    ·have:=h1 p hp;omega
    ·simp at hp;omega
   ·rw[List.pairwise_append]
    exact⟨h2,by simp,fun a ha b hb=>by simp at hb;subst hb;exact h1 a ha⟩
   ·rw[List.filter_append,List.length_append]
    have:(List.range c).filter (fun j=>decide (j∉s.2++[c]))=(List.range c).filter (fun j=>decide (j∉s.2)):=List.filter_congr fun j hj=>by
     have:=List.mem_range.1 hj
     have hne:j≠c:=by omega
     simp[hne]
    have h0:(([c]:List Nat).filter fun j=>decide (j∉s.2++[c])).length=0:=by simp
    rw[this,List.length_append,List.length_singleton,h0]
    omega
end Go.Ex

/- ExactRanks of the laws of chapter 1. Printed by program. No condition. -/
namespace Go.Ex
open Go Go.Sx Go.Proofs

theorem SmallM.keep{S:Nat→Prop}{w w2:World}{v:Value}{M:List (List (Int×Int))}(h:SmallM w S v M)(hk:∀g,S g→w2.heap[g]? =w.heap[g]?):SmallM w2 S v M:=⟨h.1,h.2.1,RatML.keep h.2.2.1 hk,h.2.2.2⟩
theorem SmallM.weak{S S':Nat→Prop}{w:World}{v:Value}{M:List (List (Int×Int))}(h:SmallM w S v M)(hk:∀g,S g→S' g):SmallM w S' v M:=⟨h.1,h.2.1,RatML.weak h.2.2.1 hk,h.2.2.2⟩
section
variable{S S':Nat→Prop}{H:Hp}{nx:Nat}{iv iv':Iv}{B:Nat}{w w' w2:World}{ρ:Nat→Sx.Val}{v:Value}{M:List (List (Int×Int))}
end
/-- sizes of a matrix that the laws are told for -/
theorem SmallM.sizes{S:Nat→Prop}{w:World}{v:Value}{M:List (List (Int×Int))}(h:SmallM w S v M)(he:errM M=0):
  (∀r∈M,r.length=colsM M)∧M.length≤5∧colsM M≤5∧Ht (valsM M) 4∧4^(valsM M).length*4≤4096:=by
 obtain⟨h1,h2,h3⟩:=errM_zero he
 have h4:M.length≤5:=by have:=h.1;unfold Sized at this;omega
 refine⟨h1,h4,?_,fun r hr q hq=>?_,?_⟩
 ·cases M with
  |nil=>exact Nat.zero_le _
  |cons r t=>
   have:=h.2.1 r List.mem_cons_self
   have h5:colsM (r::t)=r.length:=rfl
   unfold Sized at this
   omega
 ·have:=h.2.2.2.1 r hr q hq
  omega
 ·have h5:(valsM M).length≤5:=by simp[valsM];exact h4
  exact Nat.le_trans (Nat.mul_le_mul_right 4 (Nat.pow_le_pow_right (by decide) h5)) (by decide)
end Go.Ex

/- Rows of package exact: same, nought, dot. Printed by program. No condition but sizes. -/
namespace Go.Ex
open Go Go.Sx Go.Proofs

theorem rat_back81(x y:Rat):x-y+y=x:=by rw[Rat.sub_eq_add_neg,Rat.add_assoc,Rat.neg_add_cancel,Rat.add_zero]
theorem sub_zero_iff(p q:Rat):p-q=0↔p=q:=by
 constructor
 ·intro h
  have:=congrArg (· +q) h
  simpa [rat_back81,Rat.zero_add]using this
 ·intro h;rw[h,Rat.sub_self]
theorem rs_eq{p q:Rat}:rs (p-q)=0↔p=q:=by rw[rs_zero,sub_zero_iff]
def fnV(g:Nat):Value:=.func (.func g) #[] #[]
theorem same1_c{S:Nat→Prop}{w:World}{v u:Value}{f g:Rat}(hS:Old S w)(hf:FracR w S v f)(hg:FracR w S u g)(hlf:rl f≤10000000000)(hlg:rl g≤10000000000):
  Con PG N.exact_row_same_1 #[v,u] w (Ret w fun v' _=>v'= .bool (decide (f=g))):=by
 have hw:Bel w.heap.size w w:=Bel.refl
 obtain⟨b1,a1,n1,c1,b2,a2,n2,c2,rfl⟩:=hf.shape
 obtain⟨b3,a3,n3,c3,b4,a4,n4,c4,rfl⟩:=hg.shape
 refine in_exact_row_same_1 (by simp) ?_
 conv=>whnf
 refine callE_S (callE_con (Φ:=fun _ w' v w2=>v= .int .i64 (rs (f-g))) (fun ρ w' r=>fcmp_c (fun g hg=>by have:=hS g hg;have:=r.baseLe;omega) (hf.keep fun g hg=>(hw.tr r.bel).block g (hS g hg)) (hg.keep fun g hg=>(hw.tr r.bel).block g (hS g hg)) hlf hlg) ?_)
 rintro ρ wa1 v1 wb1 r he hb rfl
 replace hw:=hw.tr hb
 clear r he hb
 generalize (wa1.heap.size,wb1.heap.size)::[]=iv1 at*
 conv=>whnf
 intro ρe we re
 exact⟨_,rfl,hw.tr re.bel,by rw[show decide (f=g)=(rs (f-g)==0)from Bool.eq_iff_iff.2 (by rw[decide_eq_true_eq,beq_iff_eq,rs_eq])];rfl⟩
theorem nought1_c{S:Nat→Prop}{w:World}{v:Value}{f:Rat}(hS:Old S w)(hf:FracR w S v f):
  Con PG N.exact_row_nought_1 #[v] w (Ret w fun v' _=>v'= .bool (decide (f≠0))):=by
 have hw:Bel w.heap.size w w:=Bel.refl
 obtain⟨b1,a1,n1,c1,b2,a2,n2,c2,rfl⟩:=hf.shape
 refine in_exact_row_nought_1 (by simp) ?_
 conv=>whnf
 refine callE_S (callE_con (Φ:=fun _ w' v w2=>v= .int .i64 (rs f)) (fun ρ w' r=>fsign_c (fun g hg=>by have:=hS g hg;have:=r.baseLe;omega) (hf.keep fun g hg=>(hw.tr r.bel).block g (hS g hg))) ?_)
 rintro ρ wa1 v1 wb1 r he hb rfl
 replace hw:=hw.tr hb
 clear r he hb
 generalize (wa1.heap.size,wb1.heap.size)::[]=iv1 at*
 conv=>whnf
 intro ρe we re
 exact⟨_,rfl,hw.tr re.bel,by rw[show decide (f≠0)=(rs f != 0)from Bool.eq_iff_iff.2 (by rw[decide_eq_true_eq,bne_iff_ne,ne_eq,ne_eq,rs_zero])];rfl⟩
theorem equalFrac_c{S:Nat→Prop}{w:World}{v u:Value}{xs ys:List Rat}(hS:Old S w)(hx:RowR w S S v xs)(hy:RowR w S S u ys)(hqx:∀x∈xs,rl x≤10000000000)(hqy:∀x∈ys,rl x≤10000000000):
  Con PG N.slices_EqualFunc_of_exact_row_exact_row_exact_fraction_exact_fraction_of #[v,u,fnV 149] w (Ret w fun v' _=>v'= .bool (decide (xs=ys))):=by
 have hw:Bel w.heap.size w w:=Bel.refl
 obtain⟨ax,cx,rfl,hcx,hmx⟩:=hx.shape
 obtain⟨ay,cy,rfl,hcy,hmy⟩:=hy.shape
 unfold maxLen at hmx hmy
 refine in_slices_EqualFunc_of_exact_row_exact_row_exact_fraction_exact_fraction_of (by simp) ?_
 conv=>whnf
 refine BrS.mk (fun hl=>?_) (fun hl=>?_)
 ·have hl:xs.length≠ys.length:=fun e=>by rw[e]at hl;simp at hl
  conv=>whnf
  intro ρe we re
  exact⟨_,rfl,hw.tr re.bel,by rw[decide_eq_false (fun e=>hl (by rw[e]))];rfl⟩
 have hl1:(xs.length:Int)=ys.length:=by simpa using hl
 have hl2:xs.length=ys.length:=by omega
 conv=>whnf
 refine⟨Nat×World×Iv,fun z=>⟨[(1,.o (.v (.slice ay ys.length cy))),(2,.o (.v (fnV 149))),(15,.o (.v (.slice ax xs.length cx))),(16,.o (.v (.int .i64 xs.length))),(17,.o (.v (.int .i64 ((z.1:Nat):Int))))],[],0,z.2.2,z.2.1⟩,fun z=>xs.length-z.1,
  fun z=>z.1≤xs.length∧Bel w.heap.size w z.2.1∧xs.take z.1=ys.take z.1,?_,?_⟩
 ·intro ρ w' r
  exact⟨(0,w',[]),⟨by simp,r.bel,by simp⟩,Sub.gen [] r trivial ⟨rfl,rfl,rfl,rfl,rfl,trivial⟩ (by simp[ScH]) (by simp[ScE,SV.sc,At.sc]) (by rfl) (by simp)⟩
 clear hw
 rintro⟨i,w1,iv⟩ ⟨hi,hw,ht⟩
 dsimp only at hi hw ht ⊢
 conv=>whnf
 refine BrS.mk (fun hib=>?_) (fun hib=>?_)
 ·have hib:i<xs.length:=by simpa using hib
  obtain⟨x,hxi⟩:∃x,xs[i]? =some x:=⟨_,List.getElem?_eq_getElem hib⟩
  obtain⟨y,hyi⟩:∃x,ys[i]? =some x:=⟨_,List.getElem?_eq_getElem (by omega)⟩
  obtain⟨adx,csx,hax,hFx,hlx⟩:=hx.load hxi
  obtain⟨ady,csy,hay,hFy,hly⟩:=hy.load hyi
  obtain⟨p0,p1,p2,p3,p4,p5,p6,p7,rfl,hFx⟩:=hFx
  obtain⟨q0,q1,q2,q3,q4,q5,q6,q7,rfl,hFy⟩:=hFy
  conv=>whnf
  refine⟨adx,hax,⟨by omega,by omega⟩,?_⟩
  conv=>whnf
  refine⟨[.bool p0,.slice p1 p2 p3,.bool p4,.slice p5 p6 p7],rfl,fun ρ w' r j u hu=>?_,?_⟩
  ·obtain⟨k1,k2⟩:=hlx j u hu
   rw[Int.toNat_natCast,cell_of_heap (w:=w) (w2:=w') (by rw[addB,addB];exact(hw.tr r.bel).block _ (hS _ k1))]
   exact k2
  conv=>whnf
  refine⟨ady,hay,⟨by omega,by omega⟩,?_⟩
  conv=>whnf
  refine⟨[.bool q0,.slice q1 q2 q3,.bool q4,.slice q5 q6 q7],rfl,fun ρ w' r j u hu=>?_,?_⟩
  ·obtain⟨k1,k2⟩:=hly j u hu
   rw[Int.toNat_natCast,cell_of_heap (w:=w) (w2:=w') (by rw[addB,addB];exact(hw.tr r.bel).block _ (hS _ k1))]
   exact k2
  conv=>whnf
  refine callE_S (callE_con (Φ:=fun _ w' v w2=>v= .bool (decide (x=y))) (fun ρ w' r=>same1_c (fun g hg=>by have:=hS g hg;have:=r.baseLe;omega) (hFx.keep fun g hg=>(hw.tr r.bel).block g (hS g hg)) (hFy.keep fun g hg=>(hw.tr r.bel).block g (hS g hg)) (hqx x (List.mem_of_getElem? hxi)) (hqy y (List.mem_of_getElem? hyi))) ?_)
  rintro ρ wa1 v1 wb1 r he hb rfl
  replace hw:=hw.tr hb
  clear r he hb
  generalize (wa1.heap.size,wb1.heap.size)::iv=iv1 at*
  conv=>whnf
  refine BrS.mk (fun he=>?_) (fun he=>?_)
  ·have he1:x≠y:=by simpa using he
   conv=>whnf
   intro ρe we re
   exact⟨_,rfl,hw.tr re.bel,by rw[decide_eq_false (fun e=>he1 (by subst e;rw[hxi]at hyi;injection hyi))];rfl⟩
  have he1:x=y:=by simpa using he
  have ht2:xs.take (i+1)=ys.take (i+1):=by rw[List.take_add_one,List.take_add_one,ht,hxi,hyi,he1]
  conv=>whnf
  refine⟨((i+1:Nat):Int),by rw[wrap64]<;>omega,?_⟩
  conv=>whnf
  intro ρ3 w3 r3
  exact⟨(i+1,w3,_),⟨hib,hw.tr r3.bel,ht2⟩,Sub.gen [] r3 trivial ⟨rfl,rfl,rfl,rfl,rfl,trivial⟩ (by simp[ScH]) (by simp[ScE,SV.sc,At.sc]) (by rfl) (fun lo hi h=>h),by dsimp only;omega⟩
 have hib:i=xs.length:=Nat.le_antisymm hi (by simpa using hib)
 rw[hib,List.take_length,hl2,List.take_length]at ht
 conv=>whnf
 intro ρe we re
 exact⟨_,rfl,hw.tr re.bel,by rw[decide_eq_true ht];rfl⟩
theorem rowSame_c{S:Nat→Prop}{w:World}{v u:Value}{xs ys:List Rat}(hS:Old S w)(hx:RowR w S S v xs)(hy:RowR w S S u ys)(hqx:∀x∈xs,rl x≤10000000000)(hqy:∀x∈ys,rl x≤10000000000):
  Con PG N.exact_row_same #[v,u] w (Ret w fun v' _=>v'= .bool (decide (xs=ys))):=by
 have hw:Bel w.heap.size w w:=Bel.refl
 have hx0:=hx
 have hy0:=hy
 obtain⟨ax,cx,rfl,hcx,-⟩:=hx0.shape
 obtain⟨ay,cy,rfl,hcy,-⟩:=hy0.shape
 refine in_exact_row_same (by simp) ?_
 conv=>whnf
 refine callE_S (callE_con (Φ:=fun _ w' v w2=>v= .bool (decide (xs=ys))) (fun ρ w' r=>equalFrac_c (fun g hg=>by have:=hS g hg;have:=r.baseLe;omega) (hx.keep fun g hg=>(hw.tr r.bel).block g (hS g (hg.elim id id))) (hy.keep fun g hg=>(hw.tr r.bel).block g (hS g (hg.elim id id))) hqx hqy) ?_)
 rintro ρ wa1 v1 wb1 r he hb rfl
 replace hw:=hw.tr hb
 clear r he hb
 generalize (wa1.heap.size,wb1.heap.size)::[]=iv1 at*
 conv=>whnf
 intro ρe we re
 exact⟨_,rfl,hw.tr re.bel,rfl⟩
end Go.Ex

/- Rows of package exact: EqualFunc of rows, nought, dot. Printed by program. No condition but sizes. -/
namespace Go.Ex
open Go Go.Sx Go.Proofs

theorem equalRows_c{S:Nat→Prop}{w:World}{v u:Value}{xs ys:List (List Rat)}(hS:Old S w)(hx:MatR w S v xs)(hy:MatR w S u ys)(hqx:∀x∈xs,∀q∈x,rl q≤10000000000)(hqy:∀x∈ys,∀q∈x,rl q≤10000000000):
  Con PG N.slices_EqualFunc_of_exact_row_of_exact_row_exact_row_exact_row_of #[v,u,fnV 117] w (Ret w fun v' _=>v'= .bool (decide (xs=ys))):=by
 have hw:Bel w.heap.size w w:=Bel.refl
 obtain⟨ax,cx,rfl,hcx,hmx⟩:=SlicesR.shape hx
 obtain⟨ay,cy,rfl,hcy,hmy⟩:=SlicesR.shape hy
 unfold maxLen at hmx hmy
 refine in_slices_EqualFunc_of_exact_row_of_exact_row_exact_row_exact_row_of (by simp) ?_
 conv=>whnf
 refine BrS.mk (fun hl=>?_) (fun hl=>?_)
 ·have hl:xs.length≠ys.length:=fun e=>by rw[e]at hl;simp at hl
  conv=>whnf
  intro ρe we re
  exact⟨_,rfl,hw.tr re.bel,by rw[decide_eq_false (fun e=>hl (by rw[e]))];rfl⟩
 have hl1:(xs.length:Int)=ys.length:=by simpa using hl
 have hl2:xs.length=ys.length:=by omega
 conv=>whnf
 refine⟨Nat×World×Iv,fun z=>⟨[(1,.o (.v (.slice ay ys.length cy))),(2,.o (.v (fnV 117))),(15,.o (.v (.slice ax xs.length cx))),(16,.o (.v (.int .i64 xs.length))),(17,.o (.v (.int .i64 ((z.1:Nat):Int))))],[],0,z.2.2,z.2.1⟩,fun z=>xs.length-z.1,
  fun z=>z.1≤xs.length∧Bel w.heap.size w z.2.1∧xs.take z.1=ys.take z.1,?_,?_⟩
 ·intro ρ w' r
  exact⟨(0,w',[]),⟨by simp,r.bel,by simp⟩,Sub.gen [] r trivial ⟨rfl,rfl,rfl,rfl,rfl,trivial⟩ (by simp[ScH]) (by simp[ScE,SV.sc,At.sc]) (by rfl) (by simp)⟩
 clear hw
 rintro⟨i,w1,iv⟩ ⟨hi,hw,ht⟩
 dsimp only at hi hw ht ⊢
 conv=>whnf
 refine BrS.mk (fun hib=>?_) (fun hib=>?_)
 ·have hib:i<xs.length:=by simpa using hib
  obtain⟨x,hxi⟩:∃x,xs[i]? =some x:=⟨_,List.getElem?_eq_getElem hib⟩
  obtain⟨y,hyi⟩:∃x,ys[i]? =some x:=⟨_,List.getElem?_eq_getElem (by omega)⟩
  obtain⟨adx,ux,rfl,hFx,hx1,hx2⟩:=SlicesR.load hx hxi
  obtain⟨ady,uy,rfl,hFy,hy1,hy2⟩:=SlicesR.load hy hyi
  obtain⟨aux,cux,rfl⟩:=SlicesR.rowOf hFx
  obtain⟨auy,cuy,rfl⟩:=SlicesR.rowOf hFy
  conv=>whnf
  refine⟨adx,rfl,⟨by omega,by omega⟩,?_⟩
  conv=>whnf
  refine⟨.slice aux x.length cux,fun ρ w' r=>?_,?_⟩
  ·rw[Int.toNat_natCast,cell_of_heap (w:=w) (w2:=w') (by rw[addB];exact(hw.tr r.bel).block _ (hS _ hx1))]
   exact hx2
  conv=>whnf
  refine⟨ady,rfl,⟨by omega,by omega⟩,?_⟩
  conv=>whnf
  refine⟨.slice auy y.length cuy,fun ρ w' r=>?_,?_⟩
  ·rw[Int.toNat_natCast,cell_of_heap (w:=w) (w2:=w') (by rw[addB];exact(hw.tr r.bel).block _ (hS _ hy1))]
   exact hy2
  conv=>whnf
  refine callE_S (callE_con (Φ:=fun _ w' v w2=>v= .bool (decide (x=y))) (fun ρ w' r=>rowSame_c (fun g hg=>by have:=hS g hg;have:=r.baseLe;omega) (hFx.keep fun g hg=>(hw.tr r.bel).block g (hS g (hg.elim id id))) (hFy.keep fun g hg=>(hw.tr r.bel).block g (hS g (hg.elim id id))) (hqx x (List.mem_of_getElem? hxi)) (hqy y (List.mem_of_getElem? hyi))) ?_)
  rintro ρ wa1 v1 wb1 r he hb rfl
  replace hw:=hw.tr hb
  clear r he hb
  generalize (wa1.heap.size,wb1.heap.size)::iv=iv1 at*
  conv=>whnf
  refine BrS.mk (fun he=>?_) (fun he=>?_)
  ·have he1:x≠y:=by simpa using he
   conv=>whnf
   intro ρe we re
   exact⟨_,rfl,hw.tr re.bel,by rw[decide_eq_false (fun e=>he1 (by subst e;rw[hxi]at hyi;injection hyi))];rfl⟩
  have he1:x=y:=by simpa using he
  have ht2:xs.take (i+1)=ys.take (i+1):=by rw[List.take_add_one,List.take_add_one,ht,hxi,hyi,he1]
  conv=>whnf
  refine⟨((i+1:Nat):Int),by rw[wrap64]<;>omega,?_⟩
  conv=>whnf
  intro ρ3 w3 r3
  exact⟨(i+1,w3,_),⟨hib,hw.tr r3.bel,ht2⟩,Sub.gen [] r3 trivial ⟨rfl,rfl,rfl,rfl,rfl,trivial⟩ (by simp[ScH]) (by simp[ScE,SV.sc,At.sc]) (by rfl) (fun lo hi h=>h),by dsimp only;omega⟩
 have hib:i=xs.length:=Nat.le_antisymm hi (by simpa using hib)
 rw[hib,List.take_length,hl2,List.take_length]at ht
 conv=>whnf
 intro ρe we re
 exact⟨_,rfl,hw.tr re.bel,by rw[decide_eq_true ht];rfl⟩
theorem indexNought_c{S:Nat→Prop}{w:World}{v:Value}{xs:List Rat}(hS:Old S w)(hx:RowR w S S v xs):
  Con PG N.slices_IndexFunc_of_exact_row_exact_fraction_of #[v,fnV 151] w (Ret w fun v' _=>∃z:Int,v'= .int .i64 z∧ -1≤z∧z≤9223372036854775807∧(0≤z↔∃x∈xs,x≠0)):=by
 have hw:Bel w.heap.size w w:=Bel.refl
 obtain⟨ax,cx,rfl,hcx,hmx⟩:=hx.shape
 unfold maxLen at hmx
 refine in_slices_IndexFunc_of_exact_row_exact_fraction_of (by simp) ?_
 conv=>whnf
 refine⟨Nat×World×Iv,fun z=>⟨[(0,.o (.v (.slice ax xs.length cx))),(1,.o (.v (fnV 151))),(7,.o (.v (.int .i64 xs.length))),(8,.o (.v (.int .i64 ((z.1:Nat):Int))))],[],0,z.2.2,z.2.1⟩,fun z=>xs.length-z.1,
  fun z=>z.1≤xs.length∧Bel w.heap.size w z.2.1∧∀j x,j<z.1→xs[j]? =some x→x=0,?_,?_⟩
 ·intro ρ w' r
  exact⟨(0,w',[]),⟨by simp,r.bel,by simp⟩,Sub.gen [] r trivial ⟨rfl,rfl,rfl,rfl,trivial⟩ (by simp[ScH]) (by simp[ScE,SV.sc,At.sc]) (by rfl) (by simp)⟩
 clear hw
 rintro⟨i,w1,iv⟩ ⟨hi,hw,ht⟩
 dsimp only at hi hw ht ⊢
 conv=>whnf
 refine BrS.mk (fun hib=>?_) (fun hib=>?_)
 ·have hib:i<xs.length:=by simpa using hib
  obtain⟨x,hxi⟩:∃x,xs[i]? =some x:=⟨_,List.getElem?_eq_getElem hib⟩
  obtain⟨adx,csx,hax,hFx,hlx⟩:=hx.load hxi
  obtain⟨p0,p1,p2,p3,p4,p5,p6,p7,rfl,hFx⟩:=hFx
  conv=>whnf
  refine⟨adx,hax,⟨by omega,by omega⟩,?_⟩
  conv=>whnf
  refine⟨[.bool p0,.slice p1 p2 p3,.bool p4,.slice p5 p6 p7],rfl,fun ρ w' r j u hu=>?_,?_⟩
  ·obtain⟨k1,k2⟩:=hlx j u hu
   rw[Int.toNat_natCast,cell_of_heap (w:=w) (w2:=w') (by rw[addB,addB];exact(hw.tr r.bel).block _ (hS _ k1))]
   exact k2
  conv=>whnf
  refine callE_S (callE_con (Φ:=fun _ w' v w2=>v= .bool (decide (x≠0))) (fun ρ w' r=>nought1_c (fun g hg=>by have:=hS g hg;have:=r.baseLe;omega) (hFx.keep fun g hg=>(hw.tr r.bel).block g (hS g hg))) ?_)
  rintro ρ wa1 v1 wb1 r he hb rfl
  replace hw:=hw.tr hb
  clear r he hb
  generalize (wa1.heap.size,wb1.heap.size)::iv=iv1 at*
  conv=>whnf
  refine BrS.mk (fun he=>?_) (fun he=>?_)
  ·have he1:x≠0:=by simpa using he
   conv=>whnf
   intro ρe we re
   exact⟨_,rfl,hw.tr re.bel,⟨_,rfl,by omega,by omega,iff_of_true (by omega) ⟨x,List.mem_of_getElem? hxi,he1⟩⟩⟩
  have he1:x=0:=by simpa using he
  conv=>whnf
  refine⟨((i+1:Nat):Int),by rw[wrap64]<;>omega,?_⟩
  conv=>whnf
  intro ρ3 w3 r3
  refine⟨(i+1,w3,_),⟨hib,hw.tr r3.bel,fun j y hj hy=>?_⟩,Sub.gen [] r3 trivial ⟨rfl,rfl,rfl,rfl,trivial⟩ (by simp[ScH]) (by simp[ScE,SV.sc,At.sc]) (by rfl) (fun lo hi h=>h),by dsimp only;omega⟩
  rcases Nat.lt_or_ge j i with h|h
  ·exact ht j y h hy
  obtain rfl:j=i:=by dsimp only at hj;omega
  rw[hxi]at hy
  injection hy with hy
  rw[←hy,he1]
 have hib:i=xs.length:=Nat.le_antisymm hi (by simpa using hib)
 conv=>whnf
 intro ρe we re
 exact⟨_,rfl,hw.tr re.bel,⟨_,rfl,by omega,by omega,iff_of_false (by omega) fun⟨x,hm,h0⟩=>by
   obtain⟨j,hj⟩:=List.getElem?_of_mem hm
   have hjl:j<xs.length:=(List.getElem?_eq_some_iff.1 hj).1
   exact h0 (ht j x (by omega) hj)⟩⟩
theorem containsNought_c{S:Nat→Prop}{w:World}{v:Value}{xs:List Rat}(hS:Old S w)(hx:RowR w S S v xs):
  Con PG N.slices_ContainsFunc_of_exact_row_exact_fraction_of #[v,fnV 151] w (Ret w fun v' _=>v'= .bool (decide (∃x∈xs,x≠0))):=by
 have hw:Bel w.heap.size w w:=Bel.refl
 have hx0:=hx
 obtain⟨ax,cx,rfl,hcx,-⟩:=hx0.shape
 refine in_slices_ContainsFunc_of_exact_row_exact_fraction_of (by simp) ?_
 conv=>whnf
 refine callE_S (callE_con (Φ:=fun _ w' v w2=>∃z:Int,v= .int .i64 z∧ -1≤z∧z≤9223372036854775807∧(0≤z↔∃x∈xs,x≠0)) (fun ρ w' r=>indexNought_c (fun g hg=>by have:=hS g hg;have:=r.baseLe;omega) (hx.keep fun g hg=>(hw.tr r.bel).block g (hS g (hg.elim id id)))) ?_)
 rintro ρ wa1 v1 wb1 r he hb ⟨z,rfl,hz1,hz2,hz⟩
 replace hw:=hw.tr hb
 clear r he hb
 generalize (wa1.heap.size,wb1.heap.size)::[]=iv1 at*
 conv=>whnf
 intro ρe we re
 exact⟨_,rfl,hw.tr re.bel,by rw[show decide (∃x∈xs,x≠0)=decide (z≥0)from Bool.eq_iff_iff.2 (by rw[decide_eq_true_eq,decide_eq_true_eq];exact hz.symm)];rfl⟩
theorem nought_c{S:Nat→Prop}{w:World}{v:Value}{xs:List Rat}(hS:Old S w)(hx:RowR w S S v xs):
  Con PG N.exact_row_nought #[v] w (Ret w fun v' _=>v'= .bool (decide (∀x∈xs,x=0))):=by
 have hw:Bel w.heap.size w w:=Bel.refl
 have hx0:=hx
 obtain⟨ax,cx,rfl,hcx,-⟩:=hx0.shape
 refine in_exact_row_nought (by simp) ?_
 conv=>whnf
 refine callE_S (callE_con (Φ:=fun _ w' v w2=>v= .bool (decide (∃x∈xs,x≠0))) (fun ρ w' r=>containsNought_c (fun g hg=>by have:=hS g hg;have:=r.baseLe;omega) (hx.keep fun g hg=>(hw.tr r.bel).block g (hS g (hg.elim id id)))) ?_)
 rintro ρ wa1 v1 wb1 r he hb rfl
 replace hw:=hw.tr hb
 clear r he hb
 generalize (wa1.heap.size,wb1.heap.size)::[]=iv1 at*
 conv=>whnf
 intro ρe we re
 exact⟨_,rfl,hw.tr re.bel,by rw[show decide (∀x∈xs,x=0)= !decide (∃x∈xs,x≠0)from Bool.eq_iff_iff.2 (by simp)];rfl⟩
/-- the sum of products so far -/
def dotTo(xs ys:List Rat):Nat→Rat
 |0=>0
 |i+1=>dotTo xs ys i+xs.getD i 0*ys.getD i 0
theorem rl_dotTo{xs ys:List Rat}{h:Nat}(hx:∀q∈xs,rl q+1≤h)(hy:∀q∈ys,rl q+1≤h)(h2:2≤h):∀i:Nat,rl (dotTo xs ys i)≤2*h*i+2
 |0=>by rw[dotTo];exact Nat.le_trans (by decide:rl 0≤2) (by omega)
 |i+1=>by
  have h3:=rl_dotTo hx hy h2 i
  have h4:=rl_add (dotTo xs ys i) (xs.getD i 0*ys.getD i 0)
  have h5:=rl_mul (xs.getD i 0) (ys.getD i 0)
  have h6:=rl_getD hx h2 i
  have h7:=rl_getD hy h2 i
  rw[dotTo,Nat.mul_add]
  omega
theorem dotTo_zero{xs ys:List Rat}{i:Nat}(h:xs.getD i 0=0∨ys.getD i 0=0):dotTo xs ys (i+1)=dotTo xs ys i:=by
 rw[dotTo]
 rcases h with h|h<;>rw[h]<;>simp only[Rat.zero_mul,Rat.mul_zero,Rat.add_zero]
theorem dot_c{S:Nat→Prop}{w:World}{v u:Value}{xs ys:List Rat}{h:Nat}(hS:Old S w)(hx:RowR w S S v xs)(hy:RowR w S S u ys)(hl:xs.length=ys.length)(hqx:∀q∈xs,rl q+1≤h)(hqy:∀q∈ys,rl q+1≤h)(h2:2≤h)(hb:2*h*xs.length≤2000000000):
  Con PG N.exact_row_dot #[v,u] w (Ret w fun v' w2=>FracR w2 (Nw (fun _=>False) w w2) v' (dotTo xs ys xs.length)):=by
 have hw:Bel w.heap.size w w:=Bel.refl
 obtain⟨ax,cx,rfl,hcx,hmx⟩:=hx.shape
 obtain⟨ay,cy,rfl,hcy,-⟩:=hy.shape
 unfold maxLen at hmx
 refine in_exact_row_dot (by simp) ?_
 conv=>whnf
 refine callE_S (callE_con (Φ:=fun _ w' v w2=>FracR w2 (Nw (fun _=>False) w' w2) v ((0:Int):Rat)) (fun ρ w' r=>whole_c 0 w' (by decide) (by decide)) ?_)
 rintro ρ wa1 v1 wb1 r he hb hn
 replace hw:=hw.tr hb
 have hd:=hn.got (S:=fun _=>False) r.baseLe (iv:=(wa1.heap.size,wb1.heap.size)::[]) List.mem_cons_self
 clear r he hb hn
 generalize (wa1.heap.size,wb1.heap.size)::[]=iv1 at*
 obtain⟨s1_0,s1_1,s1_2,s1_3,s1_4,s1_5,s1_6,s1_7,rfl⟩:=hd.shape
 conv=>whnf
 rw[show ((0:Int):Rat)=dotTo xs ys 0 from rfl]at hd
 refine⟨Nat×(Bool×Bool)×(Option Addr×Option Addr)×(Nat×Nat×Nat×Nat)×World×Iv,fun z=>⟨[(1,.o (.v (.slice ay ys.length cy))),(4,.o (.p 0 0)),(5,.o (.p 1 0)),(9,.o (.v (.slice ax xs.length cx))),(10,.o (.v (.int .i64 xs.length))),(11,.o (.v (.int .i64 ((z.1:Nat):Int))))],[(1,.box T.fraction [.v (.bool z.2.1.1),.v (.slice z.2.2.1.1 z.2.2.2.1.1 z.2.2.2.1.2.1),.v (.bool z.2.1.2),.v (.slice z.2.2.1.2 z.2.2.2.1.2.2.1 z.2.2.2.1.2.2.2)]),(0,.box T.fraction [.v (.bool false),.v (.slice none 0 0),.v (.bool false),.v (.slice none 0 0)])],2,z.2.2.2.2.2,z.2.2.2.2.1⟩,fun z=>xs.length-z.1,
  fun z=>z.1≤xs.length∧Bel w.heap.size w z.2.2.2.2.1∧FracR z.2.2.2.2.1 (Cv (fun _=>False) w.heap.size z.2.2.2.2.2) (.agg #[.bool z.2.1.1,.slice z.2.2.1.1 z.2.2.2.1.1 z.2.2.2.1.2.1,.bool z.2.1.2,.slice z.2.2.1.2 z.2.2.2.1.2.2.1 z.2.2.2.1.2.2.2]) (dotTo xs ys z.1),?_,?_⟩
 ·intro ρ w' r
  exact⟨(0,(s1_0,s1_4),(s1_1,s1_5),(s1_2,s1_3,s1_6,s1_7),w',iv1),⟨by simp,hw.tr r.bel,hd.rel r (oldF w)⟩,Sub.gen [] r ⟨rfl,rfl,trivial⟩ ⟨rfl,rfl,rfl,rfl,rfl,rfl,trivial⟩ (by simp[ScH,Blk.scopd,At.sc]) (by simp[ScE,SV.sc,At.sc]) (by rfl) (fun lo hi h=>h)⟩
 clear hw hd
 rintro⟨i,⟨p0,p4⟩,⟨p1,p5⟩,⟨p2,p3,p6,p7⟩,w1,iv⟩ ⟨hi,hw,hd⟩
 dsimp only at hi hw hd ⊢
 conv=>whnf
 refine BrS.mk (fun hib=>?_) (fun hib=>?_)
 ·have hib:i<xs.length:=by simpa using hib
  have hs:=rl_dotTo hqx hqy h2 i
  have hs2:2*h*i≤2*h*xs.length:=Nat.mul_le_mul_left _ hi
  have hs3:2*h*1≤2*h*xs.length:=Nat.mul_le_mul_left _ (by omega)
  obtain⟨x,hxi⟩:∃x,xs[i]? =some x:=⟨_,List.getElem?_eq_getElem hib⟩
  obtain⟨y,hyi⟩:∃x,ys[i]? =some x:=⟨_,List.getElem?_eq_getElem (by omega)⟩
  have hx3:=hqx x (List.mem_of_getElem? hxi)
  have hy3:=hqy y (List.mem_of_getElem? hyi)
  have hx2:xs.getD i 0=x:=by rw[List.getD,hxi];rfl
  have hy2:ys.getD i 0=y:=by rw[List.getD,hyi];rfl
  obtain⟨adx,csx,hax,hFx,hlx⟩:=hx.load hxi
  obtain⟨ady,csy,hay,hFy,hly⟩:=hy.load hyi
  obtain⟨f0,f1,f2,f3,f4,f5,f6,f7,rfl,hFx⟩:=hFx
  obtain⟨q0,q1,q2,q3,q4,q5,q6,q7,rfl,hFy⟩:=hFy
  conv=>whnf
  refine⟨adx,hax,⟨by omega,by omega⟩,?_⟩
  conv=>whnf
  refine⟨[.bool f0,.slice f1 f2 f3,.bool f4,.slice f5 f6 f7],rfl,fun ρ w' r j u hu=>?_,?_⟩
  ·obtain⟨k1,k2⟩:=hlx j u hu
   rw[Int.toNat_natCast,cell_of_heap (w:=w) (w2:=w') (by rw[addB,addB];exact(hw.tr r.bel).block _ (hS _ k1))]
   exact k2
  conv=>whnf
  refine callE_S (callE_con (Φ:=fun _ w' v w2=>v= .int .i64 (rs x)) (fun ρ w' r=>fsign_c (fun g hg=>by have:=hS g hg;have:=r.baseLe;omega) (hFx.keep fun g hg=>(hw.tr r.bel).block g (hS g hg))) ?_)
  rintro ρ wa2 v2 wb2 r he hb rfl
  replace hw:=hw.tr hb
  replace hd:=hd.past (iv':=(wa2.heap.size,wb2.heap.size)::iv) r (oldF w) he fun x hx=>List.mem_cons_of_mem _ hx
  clear r he hb
  generalize (wa2.heap.size,wb2.heap.size)::iv=iv2 at*
  conv=>whnf
  refine BrS.mk (fun h1=>?_) (fun h1=>?_)
  ·have h1:x≠0:=by simpa [rs_zero]using h1
   conv=>whnf
   refine⟨ady,hay,⟨by omega,by omega⟩,?_⟩
   conv=>whnf
   refine⟨[.bool q0,.slice q1 q2 q3,.bool q4,.slice q5 q6 q7],rfl,fun ρ w' r j u hu=>?_,?_⟩
   ·obtain⟨k1,k2⟩:=hly j u hu
    rw[Int.toNat_natCast,cell_of_heap (w:=w) (w2:=w') (by rw[addB,addB];exact(hw.tr r.bel).block _ (hS _ k1))]
    exact k2
   conv=>whnf
   refine callE_S (callE_con (Φ:=fun _ w' v w2=>v= .int .i64 (rs y)) (fun ρ w' r=>fsign_c (fun g hg=>by have:=hS g hg;have:=r.baseLe;omega) (hFy.keep fun g hg=>(hw.tr r.bel).block g (hS g hg))) ?_)
   rintro ρ wa3 v3 wb3 r he hb rfl
   replace hw:=hw.tr hb
   replace hd:=hd.past (iv':=(wa3.heap.size,wb3.heap.size)::iv2) r (oldF w) he fun x hx=>List.mem_cons_of_mem _ hx
   clear r he hb
   generalize (wa3.heap.size,wb3.heap.size)::iv2=iv3 at*
   conv=>whnf
   refine BrS.mk (fun h3=>?_) (fun h3=>?_)
   ·conv=>whnf
    refine drawn_of_pi hτ hmix [.x 0,.x 1,.x 2,.x 3,.x 4,.x 5,.x 6,.x 7,.x 8] (by kernel_rfl) (by kernel_rfl) ?_
    conv=>whnf
    refine⟨ady,hay,⟨by omega,by omega⟩,?_⟩
    conv=>whnf
    refine⟨[.bool q0,.slice q1 q2 q3,.bool q4,.slice q5 q6 q7],rfl,fun ρ w' r j u hu=>?_,?_⟩
    ·obtain⟨k1,k2⟩:=hly j u hu
     rw[Int.toNat_natCast,cell_of_heap (w:=w) (w2:=w') (by rw[addB,addB];exact(hw.tr r.bel).block _ (hS _ k1))]
     exact k2
    conv=>whnf
    have hm:=rl_mul x y
    have hm2:=rl_add (dotTo xs ys i) (x*y)
    refine callE_con (Φ:=fun _ w' v w2=>FracR w2 (Nw (fun _=>False) w' w2) v (x*y)) (fun ρ w' r=>ftimes_c (fun g hg=>by have:=hS g hg;have:=r.baseLe;omega) (hFx.keep fun g hg=>(hw.tr r.bel).block g (hS g hg)) (hFy.keep fun g hg=>(hw.tr r.bel).block g (hS g hg)) (by omega) (by omega)) ?_
    rintro ρ wa4 v4 wb4 r he hb hn
    replace hw:=hw.tr hb
    replace hd:=hd.past (iv':=(wa4.heap.size,wb4.heap.size)::iv3) r (oldF w) he fun x hx=>List.mem_cons_of_mem _ hx
    have hp:=hn.got (S:=fun _=>False) r.baseLe (iv:=(wa4.heap.size,wb4.heap.size)::iv3) List.mem_cons_self
    clear r he hb hn
    generalize (wa4.heap.size,wb4.heap.size)::iv3=iv4 at*
    obtain⟨s4_0,s4_1,s4_2,s4_3,s4_4,s4_5,s4_6,s4_7,rfl⟩:=hp.shape
    conv=>whnf
    refine callE_con (Φ:=fun _ w' v w2=>FracR w2 (Nw (fun _=>False) w' w2) v (dotTo xs ys i+x*y)) (fun ρ w' r=>fplus_c (Rel.old r (oldF w)) (hd.rel r (oldF w)) (hp.rel r (oldF w)) (by omega) (by omega)) ?_
    rintro ρ wa5 v5 wb5 r he hb hn
    replace hw:=hw.tr hb
    clear hd
    clear hp
    have hd2:=hn.got (S:=fun _=>False) r.baseLe (iv:=(wa5.heap.size,wb5.heap.size)::iv4) List.mem_cons_self
    clear r he hb hn
    generalize (wa5.heap.size,wb5.heap.size)::iv4=iv5 at*
    obtain⟨s5_0,s5_1,s5_2,s5_3,s5_4,s5_5,s5_6,s5_7,rfl⟩:=hd2.shape
    conv=>whnf
    rw[show dotTo xs ys i+x*y=dotTo xs ys (i+1) by rw[dotTo,hx2,hy2]]at hd2
    have hd:=hd2
    refine⟨((i+1:Nat):Int),by rw[wrap64]<;>omega,?_⟩
    conv=>whnf
    intro ρ3 w3 r3
    exact⟨(i+1,(s5_0,s5_4),(s5_1,s5_5),(s5_2,s5_3,s5_6,s5_7),w3,_),⟨hib,hw.tr r3.bel,hd.rel r3 (oldF w)⟩,Sub.gen [] r3 ⟨rfl,rfl,trivial⟩ ⟨rfl,rfl,rfl,rfl,rfl,rfl,trivial⟩ (by simp[ScH,Blk.scopd,At.sc]) (by simp[ScE,SV.sc,At.sc]) (by rfl) (fun lo hi h=>h),by dsimp only;omega⟩
   have h3:y=0:=by simpa [rs_zero]using h3
   conv=>whnf
   refine⟨((i+1:Nat):Int),by rw[wrap64]<;>omega,?_⟩
   conv=>whnf
   intro ρ3 w3 r3
   exact⟨(i+1,(p0,p4),(p1,p5),(p2,p3,p6,p7),w3,_),⟨hib,hw.tr r3.bel,by rw[dotTo_zero (.inr (hy2.trans h3))];exact hd.rel r3 (oldF w)⟩,Sub.gen [] r3 ⟨rfl,rfl,trivial⟩ ⟨rfl,rfl,rfl,rfl,rfl,rfl,trivial⟩ (by simp[ScH,Blk.scopd,At.sc]) (by simp[ScE,SV.sc,At.sc]) (by rfl) (fun lo hi h=>h),by dsimp only;omega⟩
  have h1:x=0:=by simpa [rs_zero]using h1
  conv=>whnf
  refine⟨((i+1:Nat):Int),by rw[wrap64]<;>omega,?_⟩
  conv=>whnf
  intro ρ3 w3 r3
  exact⟨(i+1,(p0,p4),(p1,p5),(p2,p3,p6,p7),w3,_),⟨hib,hw.tr r3.bel,by rw[dotTo_zero (.inl (hx2.trans h1))];exact hd.rel r3 (oldF w)⟩,Sub.gen [] r3 ⟨rfl,rfl,trivial⟩ ⟨rfl,rfl,rfl,rfl,rfl,rfl,trivial⟩ (by simp[ScH,Blk.scopd,At.sc]) (by simp[ScE,SV.sc,At.sc]) (by rfl) (fun lo hi h=>h),by dsimp only;omega⟩
 have hib:i=xs.length:=Nat.le_antisymm hi (by simpa using hib)
 subst hib
 conv=>whnf
 intro ρe we re
 exact⟨_,rfl,hw.tr re.bel,hd.out re (oldF w)⟩
end Go.Ex

/- through of package exact: the sums of the rows' multiples. Printed by program. No condition but sizes. -/
namespace Go.Ex
open Go Go.Sx Go.Proofs

def colOf(M:List (List Rat))(k:Nat):List Rat:=M.map (·.getD k 0)
/-- the sums over the first i rows, column by column -/
def throughF(ys:List Rat)(M:List (List Rat))(n i:Nat):List Rat:=(List.range n).map fun k=>dotTo ys (colOf M k) i
theorem throughF_zero(ys:List Rat)(M:List (List Rat))(n:Nat):throughF ys M n 0=List.replicate n 0:=by
 unfold throughF
 simp only[dotTo]
 rw[List.map_const',List.length_range]
theorem throughF_succ{ys:List Rat}{M:List (List Rat)}{n i:Nat}{r:List Rat}(h:M[i]? =some r):(throughF ys M n i).mapIdx (addRow (ys.getD i 0) r)=throughF ys M n (i+1):=by
 refine List.ext_getElem? fun k=>?_
 unfold throughF
 rw[List.getElem?_mapIdx,List.getElem?_map,List.getElem?_map]
 rcases Nat.lt_or_ge k n with hk|hk
 ·rw[List.getElem?_range hk]
  simp only[Option.map_some,addRow,dotTo]
  rw[show (colOf M k).getD i 0=r.getD k 0 by rw[colOf,List.getD,List.getElem?_map,h];rfl]
 ·rw[List.getElem?_eq_none (by simpa using hk)];rfl
theorem rl_colOf{M:List (List Rat)}{h:Nat}(H:Ht M h)(h2:2≤h)(k:Nat):∀q∈colOf M k,rl q+1≤h:=fun q hq=>by
 obtain⟨r,hr,rfl⟩:=List.mem_map.1 hq
 exact rl_getD (H r hr) h2 k
theorem rl_throughF{ys:List Rat}{M:List (List Rat)}{h:Nat}(hy:∀q∈ys,rl q+1≤h)(H:Ht M h)(h2:2≤h)(n i:Nat):∀q∈throughF ys M n i,rl q≤2*h*i+2:=fun q hq=>by
 obtain⟨k,_,rfl⟩:=List.mem_map.1 hq
 exact rl_dotTo hy (rl_colOf H h2 k) h2 i
theorem through_c{S:Nat→Prop}{w:World}{v u:Value}{ys:List Rat}{M:List (List Rat)}{n h:Nat}(hS:Old S w)(hy:RowR w S S v ys)(hM:MatR w S u M)(hyl:ys.length=M.length)(hrow:∀r∈M,r.length=n)(hn:n≤1000000)
  (hqy:∀q∈ys,rl q+1≤h) (hqM:Ht M h) (h2:2≤h) (hb:2*h*M.length≤1000000000):
  Con PG N.exact_through #[v,u,.int .i64 n] w (Ret w fun v' w2=>RowR w2 (Nw S w w2) (Nw S w w2) v' (throughF ys M n M.length)):=by
 have hw:Bel w.heap.size w w:=Bel.refl
 obtain⟨ay,cy,rfl,hcy,-⟩:=hy.shape
 obtain⟨am,cm,rfl,hcm,hmm⟩:=SlicesR.shape hM
 unfold maxLen at hmm
 refine in_exact_through (by simp) ?_
 conv=>whnf
 refine callE_S (callE_con (Φ:=fun _ w' v w2=>RowX w2 (fun _=>False) w'.heap.size [(w'.heap.size,w2.heap.size)] v n (List.replicate n 0)) (fun ρ w' r=>zeros_c n w' hn) ?_)
 rintro ρ wa1 v1 wb1 r he hb hn1
 replace hw:=hw.tr hb
 have hX:=hn1.got (S:=S) (iv:=(wa1.heap.size,wb1.heap.size)::[]) r.baseLe List.mem_cons_self
 clear r he hb hn1
 generalize (wa1.heap.size,wb1.heap.size)::[]=iv1 at*
 obtain⟨ax,cx,rfl,-⟩:=hX.row.form
 rw[←throughF_zero ys M n]at hX
 conv=>whnf
 refine⟨Nat×World×Iv,fun z=>⟨[(0,.o (.v (.slice ay ys.length cy))),(7,.o (.v (.slice ax n cx))),(12,.o (.v (.slice am M.length cm))),(13,.o (.v (.int .i64 M.length))),(14,.o (.v (.int .i64 ((z.1:Nat):Int))))],[],0,z.2.2,z.2.1⟩,fun z=>M.length-z.1,
  fun z=>z.1≤M.length∧Bel w.heap.size w z.2.1∧RowX z.2.1 S w.heap.size z.2.2 (.slice ax n cx) n (throughF ys M n z.1),?_,?_⟩
 ·intro ρ w' r
  exact⟨(0,w',iv1),⟨by simp,hw.tr r.bel,hX.rel r hS⟩,Sub.gen [] r trivial ⟨rfl,rfl,rfl,rfl,rfl,trivial⟩ (by simp[ScH]) (by simp[ScE,SV.sc,At.sc]) (by rfl) (fun lo hi h=>h)⟩
 clear hw hX
 rintro⟨i,w1,iv⟩ ⟨hi,hw,hX⟩
 dsimp only at hi hw hX ⊢
 conv=>whnf
 refine BrS.mk (fun hib=>?_) (fun hib=>?_)
 ·have hib:i<M.length:=by simpa using hib
  have hs:=rl_throughF hqy hqM h2 n i
  have hs2:2*h*i≤2*h*M.length:=Nat.mul_le_mul_left _ hi
  have hs3:2*h*1≤2*h*M.length:=Nat.mul_le_mul_left _ (by omega)
  obtain⟨x,hxi⟩:∃x,M[i]? =some x:=⟨_,List.getElem?_eq_getElem hib⟩
  obtain⟨y,hyi⟩:∃x,ys[i]? =some x:=⟨_,List.getElem?_eq_getElem (by omega)⟩
  have hy2:ys.getD i 0=y:=by rw[List.getD,hyi];rfl
  have hxl:=hrow x (List.mem_of_getElem? hxi)
  obtain⟨adx,ux,rfl,hFx,hx1,hx2⟩:=SlicesR.load hM hxi
  obtain⟨aux,cux,rfl⟩:=SlicesR.rowOf hFx
  obtain⟨ady,csy,hay,hFy,hly⟩:=hy.load hyi
  obtain⟨q0,q1,q2,q3,q4,q5,q6,q7,rfl,hFy⟩:=hFy
  conv=>whnf
  refine⟨adx,rfl,⟨by omega,by omega⟩,?_⟩
  conv=>whnf
  refine⟨.slice aux x.length cux,fun ρ w' r=>?_,?_⟩
  ·rw[Int.toNat_natCast,cell_of_heap (w:=w) (w2:=w') (by rw[addB];exact(hw.tr r.bel).block _ (hS _ hx1))]
   exact hx2
  conv=>whnf
  refine⟨ady,hay,⟨by omega,by omega⟩,?_⟩
  conv=>whnf
  refine⟨[.bool q0,.slice q1 q2 q3,.bool q4,.slice q5 q6 q7],rfl,fun ρ w' r j u hu=>?_,?_⟩
  ·obtain⟨k1,k2⟩:=hly j u hu
   rw[Int.toNat_natCast,cell_of_heap (w:=w) (w2:=w') (by rw[addB,addB];exact(hw.tr r.bel).block _ (hS _ k1))]
   exact k2
  conv=>whnf
  have hnew:=hX.new
  have hnB:∀g,(Value.slice ax n cx).ownBlock=some g→w.heap.size≤g:=fun g hg=>by
   rcases hnew g hg with h4|⟨h4,_⟩
   ·exact h4.elim
   ·exact h4
  have hSn:∀g,S g→Cv S w.heap.size iv g∧(Value.slice ax n cx).ownBlock≠some g:=fun g hg=>⟨.inl hg,fun e=>by have:=hnB g e;have:=hS g hg;omega⟩
  refine⟨fun ρ w' r=>?_⟩
  have hkS:∀g,S g→w'.heap[g]? =w.heap[g]? :=fun g hg=>(hw.tr r.bel).block g (hS g hg)
  obtain⟨css,hr1,hr2,hr3⟩:=(hX.rel r hS).row
  refine(add_c (C:=S) (fun g hg=>by have:=hS g hg;have:=r.baseLe;omega) (fun g hg=>Rel.old r hS g hg.1) hr1 hr3 hr2 ((hFy.keep hkS).weak hSn) ((hFx.keep fun g hg=>hkS g (hg.elim id id)).weak (fun _ h=>h) hSn) hxl (fun g hg h=>h.2 hg) (fun g hg h=>(hSn g h).2 hg)
   (fun q hq=>by have:=hs q hq;omega) (fun q hq=>by have:=hqM x (List.mem_of_getElem? hxi) q hq;omega) (by have:=hqy y (List.mem_of_getElem? hyi);omega)).mono fun e w4 he=>?_
  obtain⟨rfl,hgr,css',hr4,hr5,hr6⟩:=he
  have hP2:RowW w4 (Nw (fun g=>Cv S w.heap.size iv g∧(Value.slice ax n cx).ownBlock≠some g) w' w4) (.slice ax n cx) n ((throughF ys M n i).mapIdx (addRow y x)):=⟨css',hr4,hr5,hr6⟩
  rw[←hy2,throughF_succ hxi]at hP2
  refine⟨.tuple #[],_,(w'.heap.size,w4.heap.size)::iv,rfl,r.rowedNew (fun g hg=>Rel.not r hS (hnew g hg |>.elim (fun h=>h.elim) .inr)) hgr,?_⟩
  have hX3:RowX w4 S w.heap.size ((w'.heap.size,w4.heap.size)::iv) (.slice ax n cx) n (throughF ys M n (i+1)):=
   ⟨hP2.weak fun g hg=>by
    rcases hg with hg|hg
    ·exact⟨hg.1.cons,hg.2⟩
    ·refine⟨.inr ⟨by have:=r.baseLe;omega,_,_,List.mem_cons_self,hg.1,hg.2⟩,fun e=>?_⟩
     have:=Rel.old r (oldF w) g (hnew g e)
     omega,fun g hg=>(hnew g hg).cons⟩
  have hw4:Bel w.heap.size w w4:=(hw.tr r.bel).tr (Bel.grown hgr hnB r.baseLe)
  clear hX hr1 hr3 hr4 hr6 hgr hP2 r hw hnew hnB hSn hkS
  generalize (w'.heap.size,w4.heap.size)::iv=iv2 at*
  conv=>whnf
  refine⟨((i+1:Nat):Int),by rw[wrap64]<;>omega,?_⟩
  conv=>whnf
  intro ρ3 w3 r3
  exact⟨(i+1,w3,_),⟨hib,hw4.tr r3.bel,hX3.rel r3 hS⟩,Sub.gen [] r3 trivial ⟨rfl,rfl,rfl,rfl,rfl,trivial⟩ (by simp[ScH]) (by simp[ScE,SV.sc,At.sc]) (by rfl) (fun lo hi h=>h),by dsimp only;omega⟩
 have hib:i=M.length:=Nat.le_antisymm hi (by simpa using hib)
 subst hib
 conv=>whnf
 intro ρe we re
 refine⟨_,rfl,hw.tr re.bel,?_⟩
 exact(hX.rel re hS).read.weak (fun g hg=>Cv.nw hg re) fun g hg=>Cv.nw hg re
end Go.Ex

/- Package exact: a matrix with rows of any lengths, and CheckSolution. Printed by program. No condition but sizes. -/
namespace Go.Ex
open Go Go.Sx Go.Proofs

def RowG(w:World)(S:Nat→Prop)(v:Value)(qs:List Rat):Prop:=RowR w S S v qs
def MatG(w:World)(S:Nat→Prop)(v:Value)(M:List (List Rat)):Prop:=MatR w S v M
theorem RowG.keep{S:Nat→Prop}{w w2:World}{v:Value}{qs:List Rat}(h:RowG w S v qs)(hk:∀g,S g→w2.heap[g]? =w.heap[g]?):RowG w2 S v qs:=RowR.keep h fun g hg=>hk g (hg.elim id id)
theorem RowG.weak{S S':Nat→Prop}{w:World}{v:Value}{qs:List Rat}(h:RowG w S v qs)(hk:∀g,S g→S' g):RowG w S' v qs:=RowR.weak h hk hk
theorem RowG.shape{S:Nat→Prop}{w:World}{v:Value}{qs:List Rat}(h:RowG w S v qs):∃a c,v= .slice a qs.length c:=by
 obtain⟨a,c,h,_⟩:=RowR.shape h
 exact⟨a,c,h⟩
theorem MatG.keep{S:Nat→Prop}{w w2:World}{v:Value}{M:List (List Rat)}(h:MatG w S v M)(hk:∀g,S g→w2.heap[g]? =w.heap[g]?):MatG w2 S v M:=MatR.keep h hk
theorem MatG.weak{S S':Nat→Prop}{w:World}{v:Value}{M:List (List Rat)}(h:MatG w S v M)(hk:∀g,S g→S' g):MatG w S' v M:=MatR.weak h hk
theorem MatG.shape{S:Nat→Prop}{w:World}{v:Value}{M:List (List Rat)}(h:MatG w S v M):∃a c,v= .slice a M.length c:=by
 obtain⟨a,c,h,_⟩:=SlicesR.shape (show MatR w S v M from h)
 exact⟨a,c,h⟩
/-- rows written so far -/
def RowsG(w:World)(S:Nat→Prop)(rv:List Value)(K:List (List Rat)):Prop:=∀(i:Nat) u r,rv[i]? =some u→K[i]? =some r→RowG w S u r
theorem RowsG.keep{S:Nat→Prop}{w w2:World}{v:List Value}{M:List (List Rat)}(h:RowsG w S v M)(hk:∀g,S g→w2.heap[g]? =w.heap[g]?):RowsG w2 S v M:=fun i u x h1 h2=>(h i u x h1 h2).keep hk
theorem RowsG.weak{S S':Nat→Prop}{w:World}{v:List Value}{M:List (List Rat)}(h:RowsG w S v M)(hk:∀g,S g→S' g):RowsG w S' v M:=fun i u x h1 h2=>(h i u x h1 h2).weak hk
section
variable{S S':Nat→Prop}{H:Hp}{nx:Nat}{iv iv':Iv}{B:Nat}{w w' w2:World}{ρ:Nat→Sx.Val}{v:Value}{qs:List Rat}
theorem RowG.rel(h:RowG w (Cv S B iv) v qs)(r:Rel H nx iv B w ρ w')(hS:∀g,S g→g<B):RowG w' (Cv S B iv) v qs:=h.keep fun _ hg=>Rel.same r hS hg
theorem RowG.past(h:RowG w (Cv S B iv) v qs)(r:Rel H nx iv B w ρ w')(hS:∀g,S g→g<B)(he:Ext w' w2)(hm:∀p,p∈iv→p∈iv'):RowG w2 (Cv S B iv') v qs:=
 ((h.rel r hS).keep fun g hg=>he.block g (Rel.old r hS g hg)).weak fun _ hg=>hg.mono hm
theorem RowG.old(h:RowG w2 (Nw (Cv S B iv) w' w2) v qs)(hB:B≤w'.heap.size):RowG w2 (Cv S B ((w'.heap.size,w2.heap.size)::iv)) v qs:=h.weak fun _ hg=>Nw.cv hg hB
end
section
variable{S S':Nat→Prop}{H:Hp}{nx:Nat}{iv iv':Iv}{B:Nat}{w w' w2:World}{ρ:Nat→Sx.Val}{v:Value}{M:List (List Rat)}
theorem MatG.rel(h:MatG w (Cv S B iv) v M)(r:Rel H nx iv B w ρ w')(hS:∀g,S g→g<B):MatG w' (Cv S B iv) v M:=h.keep fun _ hg=>Rel.same r hS hg
theorem MatG.past(h:MatG w (Cv S B iv) v M)(r:Rel H nx iv B w ρ w')(hS:∀g,S g→g<B)(he:Ext w' w2)(hm:∀p,p∈iv→p∈iv'):MatG w2 (Cv S B iv') v M:=
 ((h.rel r hS).keep fun g hg=>he.block g (Rel.old r hS g hg)).weak fun _ hg=>hg.mono hm
theorem MatG.got(h:MatG w2 (Nw (fun _=>False) w' w2) v M)(hB:B≤w'.heap.size)(hm:(w'.heap.size,w2.heap.size)∈iv):MatG w2 (Cv S B iv) v M:=h.weak fun _ hg=>hg.got hB hm
end
section
variable{S S':Nat→Prop}{H:Hp}{nx:Nat}{iv iv':Iv}{B:Nat}{w w' w2:World}{ρ:Nat→Sx.Val}{v:List Value}{M:List (List Rat)}
theorem RowsG.rel(h:RowsG w (Cv S B iv) v M)(r:Rel H nx iv B w ρ w')(hS:∀g,S g→g<B):RowsG w' (Cv S B iv) v M:=h.keep fun _ hg=>Rel.same r hS hg
theorem RowsG.past(h:RowsG w (Cv S B iv) v M)(r:Rel H nx iv B w ρ w')(hS:∀g,S g→g<B)(he:Ext w' w2)(hm:∀p,p∈iv→p∈iv'):RowsG w2 (Cv S B iv') v M:=
 ((h.rel r hS).keep fun g hg=>he.block g (Rel.old r hS g hg)).weak fun _ hg=>hg.mono hm
end
theorem matrixG_c{S:Nat→Prop}{w:World}{v:Value}{M:List (List (Int×Int))}(hS:Old S w)(h:RatMR w S v M)(hf:∀r∈M,Few r)(hn:∀r∈M,r.length≤1000000)(hR:M.length≤1000000):
  Con PG N.exact_matrix #[v] w (Ret w fun v' w2=>MatG w2 (Nw (fun _=>False) w w2) v' (valsM M)):=by
 replace h:=RatMR.arg h []
 obtain⟨a,c,rfl,hc,-⟩:=SlicesR.shape h
 refine in_exact_matrix (by simp) ?_
 conv=>whnf
 refine⟨M.length,M.length,rfl,rfl,Nat.le_refl _,by omega,by omega,?_⟩
 conv=>whnf
 refine⟨List Value×Iv×World,fun z=>⟨[(3,.o (.s 0 0 M.length M.length)),(9,.o (.v (.slice a M.length c))),(10,.o (.v (.int .i64 M.length))),(11,.o (.v (.int .i64 z.1.length)))],[(0,.arr T.row (z.1++List.replicate (M.length-z.1.length) (.slice none 0 0)))],1,z.2.1,z.2.2⟩,fun z=>M.length-z.1.length,
  fun z=>z.1.length≤M.length∧Bel w.heap.size w z.2.2∧RatMR z.2.2 (Cv S w.heap.size z.2.1) (.slice a M.length c) M∧RowsG z.2.2 (Cv (fun _=>False) w.heap.size z.2.1) z.1 (valsM M)∧∀u∈z.1,u.oneCell'=true,?_,?_⟩
 ·intro ρ w' r
  exact⟨([],[],w'),⟨by simp,r.bel,RatMR.rel h r hS,fun i u r h=>by simp at h,by simp⟩,Sub.gen [] r ⟨rfl,trivial⟩ ⟨rfl,rfl,rfl,rfl,trivial⟩ (by simp[ScH,Blk.scopd]) (by simp[ScE,SV.sc,At.sc]) (by rfl) (by simp)⟩
 clear h
 rintro⟨rv,iv,w1⟩ ⟨hi,hw,hX,hF,h1c⟩
 dsimp only at hi hw hX hF h1c ⊢
 conv=>whnf
 refine BrS.mk (fun h=>?_) (fun h=>?_)
 ·have h:rv.length<M.length:=by simpa using h
  obtain⟨x,hx⟩:∃x,M[rv.length]? =some x:=⟨_,List.getElem?_eq_getElem h⟩
  obtain⟨ad,u,rfl,hR1,hl1,hl2⟩:=SlicesR.load hX hx
  obtain⟨a2,c2,rfl⟩:=SlicesR.rowShape hR1
  have hxl:=hn x (List.mem_of_getElem? hx)
  conv=>whnf
  refine⟨ad,rfl,⟨by omega,by omega⟩,?_⟩
  conv=>whnf
  refine⟨.slice a2 x.length c2,fun ρ w' r=>?_,?_⟩
  ·have:=Rel.same r hS hl1
   rw[Int.toNat_natCast,cell_of_heap (w:=w1) (w2:=w') (by rw[addB];exact this)]
   exact hl2
  conv=>whnf
  refine callE_S (callE_con (Φ:=fun _ w' v w2=>RowX w2 (fun _=>False) w'.heap.size [(w'.heap.size,w2.heap.size)] v x.length (x.map ratioP)) (fun ρ w' r=>values_c (Rel.old r hS) (RatsR.rel hR1 r hS) (hf x (List.mem_of_getElem? hx)) hxl) ?_)
  rintro ρ wa v1 wb r he hb hO
  have hON:RowG wb (Cv (fun _=>False) w.heap.size ((wa.heap.size,wb.heap.size)::iv)) v1 (x.map ratioP):=(RowX.got (S:=fun _=>False) hO r.baseLe List.mem_cons_self).read
  replace hX:=RatMR.past (iv':=(wa.heap.size,wb.heap.size)::iv) hX r hS he fun x hx=>List.mem_cons_of_mem _ hx
  replace hF:=hF.past (iv':=(wa.heap.size,wb.heap.size)::iv) r (oldF w) he fun x hx=>List.mem_cons_of_mem _ hx
  replace hw:=hw.tr hb
  clear r he hb hO hR1 hl1 hl2
  generalize (wa.heap.size,wb.heap.size)::iv=iv2 at*
  obtain⟨a3,c3,rfl⟩:=hON.shape
  rw[List.length_map]at hON ⊢
  conv=>whnf
  refine⟨⟨by omega,by omega⟩,?_⟩
  conv=>whnf
  refine⟨by simp;omega,(rv++[.slice a3 x.length c3])++List.replicate (M.length-(rv.length+1)) (.slice none 0 0),?_,?_⟩
  ·have h5:M.length-rv.length=(M.length-(rv.length+1))+1:=by omega
   simp[h5,List.replicate_succ]
  conv=>whnf
  refine⟨((rv.length+1:Nat):Int),by rw[wrap64]<;>omega,?_⟩
  conv=>whnf
  intro ρ3 w3 r3
  have hl3:(rv++[Value.slice a3 x.length c3]).length=rv.length+1:=by simp
  refine⟨(rv++[.slice a3 x.length c3],iv2,w3),⟨by dsimp only;rw[hl3];exact h,hw.tr r3.bel,RatMR.rel hX r3 hS,?_,?_⟩,Sub.gen [] r3 ⟨by dsimp only;rw[hl3];rfl,trivial⟩ ⟨rfl,rfl,rfl,by dsimp only;rw[hl3];rfl,trivial⟩ (by simp[ScH,Blk.scopd]) (by simp[ScE,SV.sc,At.sc]) (by rfl) (fun lo hi h=>h),by dsimp only;rw[hl3];omega⟩
  ·intro i u y h1 h2
   refine RowG.rel ?_ r3 (oldF w)
   rcases Nat.lt_or_ge i rv.length with hi2|hi2
   ·rw[List.getElem?_append_left hi2]at h1
    exact hF i u y h1 h2
   ·have hi0:i=rv.length:=by have:=(List.getElem?_eq_some_iff.1 h1).1;simp at this;omega
    subst hi0
    rw[List.getElem?_append_right (Nat.le_refl _),Nat.sub_self]at h1
    simp only[valsM,List.getElem?_map,hx]at h2
    simp at h1 h2
    subst h1 h2
    exact hON
  ·intro u hu
   rcases List.mem_append.1 hu with hu|hu
   ·exact h1c u hu
   ·simp at hu;subst hu;rfl
 ·have h:rv.length=M.length:=by
   have:¬rv.length<M.length:=by simpa using h
   omega
  rw[h,Nat.sub_self,List.replicate_zero,List.append_nil]
  conv=>whnf
  intro ρe we re
  refine⟨_,rfl,hw.tr re.bel,?_⟩
  have hnil:=re.nn 0 _ rfl (by intros;simp) (by simp)
  have hlow:=re.low 0 _ rfl hnil
  have hs:=re.arrSeq (id:=0) (t:=T.row) (n:=M.length) (sz:=1) (cs:=rv) rfl (by omega) (by unfold maxLen;omega) h1c
  have hvl:(valsM M).length=M.length:=by simp[valsM]
  refine⟨rv,?_,by rw[hvl,h],fun i u x h1 h2=>((hF.rel re (oldF w)) i u x h1 h2).weak fun g hg=>Cv.nw hg re⟩
  rw[hvl]
  exact hs.weak fun g hg=>.inr (by subst hg;exact hlow)
theorem run_eql_nilslice(w:World)(t e:TypeId)(a:Option Addr)(n c n' c':Nat)(h:PG.underlying t=some (.slice e)):
  (binOp .eql t (.slice a n c) (.slice none n' c')).run PG w= .ok (.bool a.isNone) w:=by
 have:∀d,(Op.equalIn (d+1) t (.slice a n c) (.slice none n' c')).run PG w= .ok a.isNone w:=fun d=>by cases a<;>simp[Op.equalIn,run_underlying h]
 simp only[binOp]
 cases a<;>simp[Op.equal,Op.maxDepth,this 9999]
end Go.Ex

/- Package exact: CheckSolution. Printed by program. No condition but sizes. -/
namespace Go.Ex
open Go Go.Sx Go.Proofs

theorem few_rl{xs:List (Int×Int)}(h:Few xs):∀q∈xs.map ratioP,rl q≤10000000000:=fun q hq=>by
 obtain⟨x,hx,rfl⟩:=List.mem_map.1 hq
 have h1:=rl_ratio x.1 x.2
 have h2:=h x hx
 unfold ratioP
 omega
/-- a solution, by its values, is the one that is asked for, or a contradiction -/
def RightE(M:List (List Rat))(b:List Rat)(n:Nat)(z:Int)(X:List Rat)(K:List (List Rat))(P:List Rat):Prop:=
 (z=0∧P=[]∧(∀k,(reduceF (allF M b) n).2.length≤k→k<M.length→at2 (reduceF (allF M b) n).1 k n=0)∧
  X=xvecTo (reduceF (allF M b) n).1 (reduceF (allF M b) n).2 n (reduceF (allF M b) n).2.length∧K=kernelTo (reduceF (allF M b) n).1 (reduceF (allF M b) n).2 n n)∨
 (z=1∧X=[]∧K=[]∧P.length=M.length∧(∀q∈throughF P M n M.length,q=0)∧dotTo P b P.length=1)
/-- what solve hands back -/
def SolR(M:List (List Rat))(b:List Rat)(n:Nat)(w:World)(S:Nat→Prop)(v:Value):Prop:=
 (∃j vp,(reduceF (allF M b) n).2.length≤j∧j<M.length∧at2 (reduceF (allF M b) n).1 j n≠0∧v= .agg #[vp,.slice none 0 0,.slice none 0 0]∧∃a n c,vp= .slice (some a) n c)∨
 (∃vx vk,(∀k,(reduceF (allF M b) n).2.length≤k→k<M.length→at2 (reduceF (allF M b) n).1 k n=0)∧v= .agg #[.slice none 0 0,vx,vk]∧
  RowG w S vx (xvecTo (reduceF (allF M b) n).1 (reduceF (allF M b) n).2 n (reduceF (allF M b) n).2.length)∧MatG w S vk (kernelTo (reduceF (allF M b) n).1 (reduceF (allF M b) n).2 n n))
theorem SolR.weak{M:List (List Rat)}{b:List Rat}{n:Nat}{w:World}{S S':Nat→Prop}{v:Value}(h:SolR M b n w S v)(hk:∀g,S g→S' g):SolR M b n w S' v:=
 h.imp id fun⟨vx,vk,h1,h2,h3,h4⟩=>⟨vx,vk,h1,h2,h3.weak hk,h4.weak hk⟩
theorem errS_zero{M:List (List (Int×Int))}{b:List (Int×Int)}(h:errS M b=0):errM M=0∧b.length=M.length:=by
 unfold errS at h
 split at h
 ·rename_i h3;exact absurd h h3
 ·split at h
  ·cases h
  ·rename_i h3 h4;exact⟨by omega,by omega⟩
set_option maxRecDepth 4000 in
set_option maxHeartbeats 1000000 in
theorem checkSolution_c{S:Nat→Prop}{w:World}{v u vx vk vp:Value}{z:Int}{M K:List (List (Int×Int))}{b X P:List (Int×Int)}{h0' h1:Nat}(hS:Old S w)(h:RatMR w S v M)(hu:RatsR w S u b)(hx:RatsR w S vx X)(hk:RatMR w S vk K)(hp:RatsR w S vp P)
  (hf:errS M b=0→(∀r∈M,Few r)∧Few b∧Ht (allF (valsM M) (b.map ratioP)) h0'∧2≤h0'∧4^M.length*h0'≤500000000)
  (hf3:errS M b=0→Few X∧X.length≤1000000∧(∀r∈K,Few r)∧(∀r∈K,r.length≤1000000)∧K.length≤1000000∧
   (P.length=M.length→Few P∧(∀q∈P.map ratioP,rl q+1≤h1)∧Ht (valsM M) h1∧(∀q∈b.map ratioP,rl q+1≤h1)∧2≤h1∧2*h1*M.length≤1000000000)):
  Con PG N.exact_CheckSolution #[v,u,.agg #[.int .i64 z,vx,vk,vp]] w (Ret w fun v' _=>∃e:Nat,v'= .int .i64 e∧
   (errS M b=0→(RightE (valsM M) (b.map ratioP) (colsM M) z (X.map ratioP) (valsM K) (P.map ratioP)→e=0)∧(¬RightE (valsM M) (b.map ratioP) (colsM M) z (X.map ratioP) (valsM K) (P.map ratioP)→e=25))∧(errS M b≠0→e=errS M b)):=by
 replace h:=RatMR.arg h []
 replace hu:=RatsR.arg hu []
 replace hx:=RatsR.arg hx []
 replace hk:=RatMR.arg hk []
 replace hp:=RatsR.arg hp []
 have hw:Bel w.heap.size w w:=Bel.refl
 obtain⟨am,cm,rfl,hcm,-⟩:=SlicesR.shape h
 obtain⟨ab,cb,rfl,hcb,-⟩:=ListR.shape hu
 obtain⟨ax,cx,rfl,hcx,hmx⟩:=ListR.shape hx
 obtain⟨ak,ck,rfl,hck,hmk⟩:=SlicesR.shape hk
 obtain⟨ap,cp,rfl,hcp,hmp⟩:=ListR.shape hp
 refine in_exact_CheckSolution (by simp) ?_
 conv=>whnf
 refine callE_S (callE_con (Φ:=fun _ w' v w2=>v= .int .i64 ((errS M b:Nat):Int)) (fun ρ w' r=>checkSystem_c (Rel.old r hS) (RatMR.rel h r hS) (RatsR.rel hu r hS)) ?_)
 rintro ρ wa1 v1 wb1 r he hb rfl
 replace hw:=hw.tr hb
 replace h:=RatMR.past (iv':=(wa1.heap.size,wb1.heap.size)::[]) h r hS he fun x hx=>List.mem_cons_of_mem _ hx
 replace hu:=RatsR.past (iv':=(wa1.heap.size,wb1.heap.size)::[]) hu r hS he fun x hx=>List.mem_cons_of_mem _ hx
 replace hx:=RatsR.past (iv':=(wa1.heap.size,wb1.heap.size)::[]) hx r hS he fun x hx=>List.mem_cons_of_mem _ hx
 replace hk:=RatMR.past (iv':=(wa1.heap.size,wb1.heap.size)::[]) hk r hS he fun x hx=>List.mem_cons_of_mem _ hx
 replace hp:=RatsR.past (iv':=(wa1.heap.size,wb1.heap.size)::[]) hp r hS he fun x hx=>List.mem_cons_of_mem _ hx
 clear r he hb
 generalize (wa1.heap.size,wb1.heap.size)::[]=iv1 at*
 conv=>whnf
 refine BrS.mk (fun h0=>?_) (fun h0=>?_)
 ·have h0:errS M b≠0:=fun e=>by rw[e]at h0;simp at h0
  conv=>whnf
  intro ρe we re
  exact⟨_,rfl,hw.tr re.bel,_,rfl,fun h=>absurd h h0,fun _=>rfl⟩
 have h0:errS M b=0:=by
  have h4:((errS M b:Int)==0)=true:=by simpa using h0
  have:=eq_of_beq h4
  omega
 obtain⟨hf1,hf2,hht,h2,hbd⟩:=hf h0
 obtain⟨hE,hbl⟩:=errS_zero h0
 obtain⟨hrow,hRl,hcl⟩:=errM_zero hE
 have hvl:(valsM M).length=M.length:=by simp[valsM]
 conv=>whnf
 refine BrS.mk (fun hz=>?_) (fun hz=>?_)
 ·have hz:z=0:=by simpa using hz
  subst hz
  conv=>whnf
  refine callE_S (callE_con (Φ:=fun _ w' v w2=>SolR (valsM M) (b.map ratioP) (colsM M) w2 (Nw (fun _=>False) w' w2) v) (fun ρ w' r=>(solve_c (Rel.old r hS) (RatMR.rel h r hS) (RatsR.rel hu r hS) hf1 hf2 hrow hbl (by omega) (by omega) hht h2 hbd).mono fun e w3 he=>by
     obtain⟨v',e1,e2,A,pv,hA,hc⟩:=he
     refine⟨v',e1,e2,?_⟩
     unfold SolR
     rw[←hA,hvl]
     exact hc.imp (fun ⟨j,vp,a1,a2,a3,_,a5,a6,_⟩=>⟨j,vp,a1,a2,a3,a5,a6⟩) id) ?_)
  rintro ρ wa2 v2 wb2 r he hb hn
  replace hw:=hw.tr hb
  replace h:=RatMR.past (iv':=(wa2.heap.size,wb2.heap.size)::iv1) h r hS he fun x hx=>List.mem_cons_of_mem _ hx
  replace hu:=RatsR.past (iv':=(wa2.heap.size,wb2.heap.size)::iv1) hu r hS he fun x hx=>List.mem_cons_of_mem _ hx
  replace hx:=RatsR.past (iv':=(wa2.heap.size,wb2.heap.size)::iv1) hx r hS he fun x hx=>List.mem_cons_of_mem _ hx
  replace hk:=RatMR.past (iv':=(wa2.heap.size,wb2.heap.size)::iv1) hk r hS he fun x hx=>List.mem_cons_of_mem _ hx
  replace hp:=RatsR.past (iv':=(wa2.heap.size,wb2.heap.size)::iv1) hp r hS he fun x hx=>List.mem_cons_of_mem _ hx
  have hcase:=SolR.weak hn (S':=Cv (fun _=>False) w.heap.size ((wa2.heap.size,wb2.heap.size)::iv1)) fun g hg=>hg.got r.baseLe List.mem_cons_self
  clear r he hb hn
  generalize (wa2.heap.size,wb2.heap.size)::iv1=iv2 at*
  unfold SolR at hcase
  obtain⟨⟨A,pv⟩,hA⟩:∃X,X=reduceF (allF (valsM M) (b.map ratioP)) (colsM M):=⟨_,rfl⟩
  have hinv:=reduceF_inv (cols:=colsM M) hht h2
  rw[←hA]at hinv hcase
  obtain⟨hAl,hpl,hpc,hAh⟩:=hinv
  dsimp only at hAl hpl hpc hAh hcase
  rw[allF_length,List.length_map]at hAl hpl
  rw[hvl]at hcase
  have hAht:Ht A 500000000:=hAh.mono (Nat.le_trans (Nat.mul_le_mul_right _ (Nat.pow_le_pow_right (by decide) hpl)) hbd)
  rcases hcase with⟨j,vq,hj1,hj2,hj3,rfl,⟨aq,nq,cq,rfl⟩⟩|⟨vy,vl,hz,rfl,hy,hl⟩
  ·have hbad:¬RightE (valsM M) (b.map ratioP) (colsM M) 0 (X.map ratioP) (valsM K) (P.map ratioP):=by
    rintro(⟨_,_,h5,_⟩|⟨h5,_⟩)
    ·rw[←hA]at h5
     exact hj3 (h5 j hj1 (by rw[hvl];exact hj2))
    ·exact absurd h5 (by decide)
   conv=>whnf
   refine drawn_of_pi hτ hmix [.x 0,.x 1,.x 2,.x 3,.x 4,.x 5,.x 6,.x 7,.x 8,.x 9,.x 10,.x 11,.x 12,.x 13,.x 14,.x 15,.x 16,.x 17,.x 18,.x 19,.x 20,.x 21,.x 22,.x 23,.x 24,.x 25] (by kernel_rfl) (by kernel_rfl) ?_
   conv=>whnf
   refine⟨false,fun ρ w1 o1 o2=>by simp[eqGuard,SV.den,At.den,run_eql_nilslice w1 T.row T.fraction (some aq) nq cq 0 0 und_row],?_⟩
   conv=>whnf
   intro ρe we re
   exact⟨_,rfl,hw.tr re.bel,25,rfl,fun _=>⟨fun h=>absurd h hbad,fun _=>rfl⟩,fun h=>absurd h0 h⟩
  obtain⟨ay,cy,rfl⟩:=hy.shape
  obtain⟨al,cl,rfl⟩:=hl.shape
  have hxh:=xvecTo_ht hAht (by decide) pv (colsM M) pv.length
  have hkh:=kernelTo_ht hAht (by decide) pv (colsM M) (colsM M)
  have hright:(P=[]∧X.map ratioP=xvecTo A pv (colsM M) pv.length∧valsM K=kernelTo A pv (colsM M) (colsM M))↔RightE (valsM M) (b.map ratioP) (colsM M) 0 (X.map ratioP) (valsM K) (P.map ratioP):=by
   unfold RightE
   rw[←hA,List.map_eq_nil_iff]
   constructor
   ·rintro⟨h5,h6,h7⟩
    exact .inl ⟨rfl,h5,fun k h8 h9=>hz k h8 (by rw[hvl]at h9;exact h9),h6,h7⟩
   ·rintro(⟨_,h5,_,h6,h7⟩|⟨h5,_⟩)
    ·exact⟨h5,h6,h7⟩
    ·exact absurd h5 (by decide)
  conv=>whnf
  refine drawn_of_pi hτ hmix [.x 0,.x 1,.x 2,.x 3,.x 4,.x 5,.x 6,.x 7,.x 8,.x 9,.x 10,.x 11,.x 12,.x 13,.x 14,.x 15,.x 16,.x 17,.x 18,.x 19,.x 20,.x 21,.x 22,.x 23,.x 24,.x 25] (by kernel_rfl) (by kernel_rfl) ?_
  conv=>whnf
  refine⟨true,fun ρ w1 o1 o2=>by simp[eqGuard,SV.den,At.den,run_eql_nilslice w1 T.row T.fraction none 0 0 0 0 und_row],?_⟩
  conv=>whnf
  refine BrS.mk (fun hp0=>?_) (fun hp0=>?_)
  ·have hp0:P=[]:=List.eq_nil_of_length_eq_zero (by have:(P.length:Int)=0:=(by simpa using hp0);omega)
   conv=>whnf
   refine callE_con (Φ:=fun _ w' v w2=>RowX w2 (fun _=>False) w'.heap.size [(w'.heap.size,w2.heap.size)] v X.length (X.map ratioP)) (fun ρ w' r=>values_c (Rel.old r hS) (RatsR.rel hx r hS) (hf3 h0).1 (hf3 h0).2.1) ?_
   rintro ρ wa3 v3 wb3 r he hb hn
   replace hw:=hw.tr hb
   replace h:=RatMR.past (iv':=(wa3.heap.size,wb3.heap.size)::iv2) h r hS he fun x hx=>List.mem_cons_of_mem _ hx
   replace hu:=RatsR.past (iv':=(wa3.heap.size,wb3.heap.size)::iv2) hu r hS he fun x hx=>List.mem_cons_of_mem _ hx
   replace hx:=RatsR.past (iv':=(wa3.heap.size,wb3.heap.size)::iv2) hx r hS he fun x hx=>List.mem_cons_of_mem _ hx
   replace hk:=RatMR.past (iv':=(wa3.heap.size,wb3.heap.size)::iv2) hk r hS he fun x hx=>List.mem_cons_of_mem _ hx
   replace hp:=RatsR.past (iv':=(wa3.heap.size,wb3.heap.size)::iv2) hp r hS he fun x hx=>List.mem_cons_of_mem _ hx
   replace hy:=hy.past (iv':=(wa3.heap.size,wb3.heap.size)::iv2) r (oldF w) he fun x hx=>List.mem_cons_of_mem _ hx
   replace hl:=hl.past (iv':=(wa3.heap.size,wb3.heap.size)::iv2) r (oldF w) he fun x hx=>List.mem_cons_of_mem _ hx
   have hv:=(show RowG _ _ _ _ from(RowX.got (S:=fun _=>False) (B:=w.heap.size) hn r.baseLe (iv:=(wa3.heap.size,wb3.heap.size)::iv2) List.mem_cons_self).read)
   clear r he hb hn
   generalize (wa3.heap.size,wb3.heap.size)::iv2=iv3 at*
   obtain⟨av,cv,rfl⟩:=hv.shape
   rw[show (X.map ratioP).length=X.length from List.length_map ..]at hv ⊢
   conv=>whnf
   refine callE_con (Φ:=fun _ w' v w2=>v= .bool (decide (xvecTo A pv (colsM M) pv.length=X.map ratioP))) (fun ρ w' r=>rowSame_c (Rel.old r (oldF w)) (hy.rel r (oldF w)) (hv.rel r (oldF w)) (fun q hq=>by have:=hxh q hq;omega) (few_rl (hf3 h0).1)) ?_
   rintro ρ wa4 v4 wb4 r he hb rfl
   replace hw:=hw.tr hb
   replace h:=RatMR.past (iv':=(wa4.heap.size,wb4.heap.size)::iv3) h r hS he fun x hx=>List.mem_cons_of_mem _ hx
   replace hu:=RatsR.past (iv':=(wa4.heap.size,wb4.heap.size)::iv3) hu r hS he fun x hx=>List.mem_cons_of_mem _ hx
   replace hx:=RatsR.past (iv':=(wa4.heap.size,wb4.heap.size)::iv3) hx r hS he fun x hx=>List.mem_cons_of_mem _ hx
   replace hk:=RatMR.past (iv':=(wa4.heap.size,wb4.heap.size)::iv3) hk r hS he fun x hx=>List.mem_cons_of_mem _ hx
   replace hp:=RatsR.past (iv':=(wa4.heap.size,wb4.heap.size)::iv3) hp r hS he fun x hx=>List.mem_cons_of_mem _ hx
   clear hy
   replace hl:=hl.past (iv':=(wa4.heap.size,wb4.heap.size)::iv3) r (oldF w) he fun x hx=>List.mem_cons_of_mem _ hx
   clear hv
   clear r he hb
   generalize (wa4.heap.size,wb4.heap.size)::iv3=iv4 at*
   conv=>whnf
   refine BrS.mk (fun he1=>?_) (fun he1=>?_)
   ·have he1:xvecTo A pv (colsM M) pv.length=X.map ratioP:=by simpa using he1
    conv=>whnf
    refine callE_con (Φ:=fun _ w' v w2=>MatG w2 (Nw (fun _=>False) w' w2) v (valsM K)) (fun ρ w' r=>matrixG_c (Rel.old r hS) (RatMR.rel hk r hS) (hf3 h0).2.2.1 (hf3 h0).2.2.2.1 (hf3 h0).2.2.2.2.1) ?_
    rintro ρ wa5 v5 wb5 r he hb hn
    replace hw:=hw.tr hb
    replace h:=RatMR.past (iv':=(wa5.heap.size,wb5.heap.size)::iv4) h r hS he fun x hx=>List.mem_cons_of_mem _ hx
    replace hu:=RatsR.past (iv':=(wa5.heap.size,wb5.heap.size)::iv4) hu r hS he fun x hx=>List.mem_cons_of_mem _ hx
    replace hx:=RatsR.past (iv':=(wa5.heap.size,wb5.heap.size)::iv4) hx r hS he fun x hx=>List.mem_cons_of_mem _ hx
    replace hk:=RatMR.past (iv':=(wa5.heap.size,wb5.heap.size)::iv4) hk r hS he fun x hx=>List.mem_cons_of_mem _ hx
    replace hp:=RatsR.past (iv':=(wa5.heap.size,wb5.heap.size)::iv4) hp r hS he fun x hx=>List.mem_cons_of_mem _ hx
    replace hl:=hl.past (iv':=(wa5.heap.size,wb5.heap.size)::iv4) r (oldF w) he fun x hx=>List.mem_cons_of_mem _ hx
    have hg:=hn.got (S:=fun _=>False) r.baseLe (iv:=(wa5.heap.size,wb5.heap.size)::iv4) List.mem_cons_self
    clear r he hb hn
    generalize (wa5.heap.size,wb5.heap.size)::iv4=iv5 at*
    obtain⟨ag,cg,rfl⟩:=hg.shape
    conv=>whnf
    refine callE_con (Φ:=fun _ w' v w2=>v= .bool (decide (kernelTo A pv (colsM M) (colsM M)=valsM K))) (fun ρ w' r=>equalRows_c (Rel.old r (oldF w)) (hl.rel r (oldF w)) (hg.rel r (oldF w)) (fun x hx q hq=>by have:=(hkh x hx).2 q hq;omega) (fun x hx=>by obtain⟨y,hy,rfl⟩:=List.mem_map.1 hx;exact few_rl ((hf3 h0).2.2.1 y hy))) ?_
    rintro ρ wa6 v6 wb6 r he hb rfl
    replace hw:=hw.tr hb
    replace h:=RatMR.past (iv':=(wa6.heap.size,wb6.heap.size)::iv5) h r hS he fun x hx=>List.mem_cons_of_mem _ hx
    replace hu:=RatsR.past (iv':=(wa6.heap.size,wb6.heap.size)::iv5) hu r hS he fun x hx=>List.mem_cons_of_mem _ hx
    replace hx:=RatsR.past (iv':=(wa6.heap.size,wb6.heap.size)::iv5) hx r hS he fun x hx=>List.mem_cons_of_mem _ hx
    replace hk:=RatMR.past (iv':=(wa6.heap.size,wb6.heap.size)::iv5) hk r hS he fun x hx=>List.mem_cons_of_mem _ hx
    replace hp:=RatsR.past (iv':=(wa6.heap.size,wb6.heap.size)::iv5) hp r hS he fun x hx=>List.mem_cons_of_mem _ hx
    replace hl:=hl.past (iv':=(wa6.heap.size,wb6.heap.size)::iv5) r (oldF w) he fun x hx=>List.mem_cons_of_mem _ hx
    replace hg:=hg.past (iv':=(wa6.heap.size,wb6.heap.size)::iv5) r (oldF w) he fun x hx=>List.mem_cons_of_mem _ hx
    clear r he hb
    generalize (wa6.heap.size,wb6.heap.size)::iv5=iv6 at*
    conv=>whnf
    refine BrS.mk (fun he2=>?_) (fun he2=>?_)
    ·have he2:¬kernelTo A pv (colsM M) (colsM M)=valsM K:=by simpa using he2
     conv=>whnf
     intro ρe we re
     exact⟨_,rfl,hw.tr re.bel,25,rfl,fun _=>⟨fun h=>absurd h (fun h=>he2 (hright.2 h).2.2.symm),fun _=>rfl⟩,fun h=>absurd h0 h⟩
    have he2:kernelTo A pv (colsM M) (colsM M)=valsM K:=by simpa using he2
    conv=>whnf
    intro ρe we re
    exact⟨_,rfl,hw.tr re.bel,0,rfl,fun _=>⟨fun _=>rfl,fun h=>absurd (hright.1 ⟨hp0,he1.symm,he2.symm⟩) h⟩,fun h=>absurd h0 h⟩
   have he1:¬xvecTo A pv (colsM M) pv.length=X.map ratioP:=by simpa using he1
   conv=>whnf
   intro ρe we re
   exact⟨_,rfl,hw.tr re.bel,25,rfl,fun _=>⟨fun h=>absurd h (fun h=>he1 (hright.2 h).2.1.symm),fun _=>rfl⟩,fun h=>absurd h0 h⟩
  have hp0:P≠[]:=fun e=>by rw[e]at hp0;simp at hp0
  conv=>whnf
  intro ρe we re
  exact⟨_,rfl,hw.tr re.bel,25,rfl,fun _=>⟨fun h=>absurd h (fun h=>hp0 (hright.2 h).1),fun _=>rfl⟩,fun h=>absurd h0 h⟩
 have hz:z≠0:=by simpa using hz
 conv=>whnf
 refine BrS.mk (fun hz1=>?_) (fun hz1=>?_)
 ·have hz1:z=1:=by simpa using hz1
  subst hz1
  conv=>whnf
  have hright:(X=[]∧K=[]∧P.length=M.length∧(∀q∈throughF (P.map ratioP) (valsM M) (colsM M) (valsM M).length,q=0)∧dotTo (P.map ratioP) (b.map ratioP) (P.map ratioP).length=1)↔RightE (valsM M) (b.map ratioP) (colsM M) 1 (X.map ratioP) (valsM K) (P.map ratioP):=by
   unfold RightE
   rw[List.map_eq_nil_iff (l:=X),List.map_eq_nil_iff (l:=K),List.length_map,List.length_map]
   constructor
   ·rintro⟨h5,h6,h7,h8,h9⟩
    exact .inr ⟨rfl,h5,h6,h7,h8,h9⟩
   ·rintro(⟨h5,_⟩|⟨_,h5,h6,h7,h8,h9⟩)
    ·exact absurd h5 (by decide)
    ·exact⟨h5,h6,h7,h8,h9⟩
  refine BrS.mk (fun hx0=>?_) (fun hx0=>?_)
  ·have hx0:X=[]:=List.eq_nil_of_length_eq_zero (by have:(X.length:Int)=0:=(by simpa using hx0);omega)
   conv=>whnf
   refine BrS.mk (fun hk0=>?_) (fun hk0=>?_)
   ·have hk0:K=[]:=List.eq_nil_of_length_eq_zero (by have:(K.length:Int)=0:=(by simpa using hk0);omega)
    conv=>whnf
    refine BrS.mk (fun hp0=>?_) (fun hp0=>?_)
    ·have hp0:P.length=M.length:=by have:(P.length:Int)=M.length:=(by simpa using hp0);omega
     obtain⟨hfP,hqP,hqM,hqb,h12,h1b⟩:=(hf3 h0).2.2.2.2.2 hp0
     conv=>whnf
     refine callE_S (callE_con (Φ:=fun _ w' v w2=>RowX w2 (fun _=>False) w'.heap.size [(w'.heap.size,w2.heap.size)] v P.length (P.map ratioP)) (fun ρ w' r=>values_c (Rel.old r hS) (RatsR.rel hp r hS) hfP (by omega)) ?_)
     rintro ρ wa2 v2 wb2 r he hb hn
     replace hw:=hw.tr hb
     replace h:=RatMR.past (iv':=(wa2.heap.size,wb2.heap.size)::iv1) h r hS he fun x hx=>List.mem_cons_of_mem _ hx
     replace hu:=RatsR.past (iv':=(wa2.heap.size,wb2.heap.size)::iv1) hu r hS he fun x hx=>List.mem_cons_of_mem _ hx
     clear hx
     clear hk
     clear hp
     have hv:=(show RowG _ _ _ _ from(RowX.got (S:=fun _=>False) (B:=w.heap.size) hn r.baseLe (iv:=(wa2.heap.size,wb2.heap.size)::iv1) List.mem_cons_self).read)
     clear r he hb hn
     generalize (wa2.heap.size,wb2.heap.size)::iv1=iv2 at*
     obtain⟨av,cv,rfl⟩:=hv.shape
     rw[show (P.map ratioP).length=P.length from List.length_map ..]at hv ⊢
     conv=>whnf
     refine callE_S (callE_con (Φ:=fun _ w' v w2=>MatG w2 (Nw (fun _=>False) w' w2) v (valsM M)) (fun ρ w' r=>matrixG_c (Rel.old r hS) (RatMR.rel h r hS) hf1 (fun x hx=>by have:=hrow x hx;omega) (by omega)) ?_)
     rintro ρ wa3 v3 wb3 r he hb hn
     replace hw:=hw.tr hb
     replace h:=RatMR.past (iv':=(wa3.heap.size,wb3.heap.size)::iv2) h r hS he fun x hx=>List.mem_cons_of_mem _ hx
     replace hu:=RatsR.past (iv':=(wa3.heap.size,wb3.heap.size)::iv2) hu r hS he fun x hx=>List.mem_cons_of_mem _ hx
     replace hv:=hv.past (iv':=(wa3.heap.size,wb3.heap.size)::iv2) r (oldF w) he fun x hx=>List.mem_cons_of_mem _ hx
     have hg:=hn.got (S:=fun _=>False) r.baseLe (iv:=(wa3.heap.size,wb3.heap.size)::iv2) List.mem_cons_self
     clear r he hb hn
     generalize (wa3.heap.size,wb3.heap.size)::iv2=iv3 at*
     obtain⟨ag,cg,rfl⟩:=hg.shape
     conv=>whnf
     refine callE_S (callE_con (Φ:=fun _ w' v w2=>v= .int .i64 (colsM M)) (fun ρ w' r=>columns_c (Rel.old r hS) (RatMR.rel h r hS)) ?_)
     rintro ρ wa4 v4 wb4 r he hb rfl
     replace hw:=hw.tr hb
     clear h
     replace hu:=RatsR.past (iv':=(wa4.heap.size,wb4.heap.size)::iv3) hu r hS he fun x hx=>List.mem_cons_of_mem _ hx
     replace hv:=hv.past (iv':=(wa4.heap.size,wb4.heap.size)::iv3) r (oldF w) he fun x hx=>List.mem_cons_of_mem _ hx
     replace hg:=hg.past (iv':=(wa4.heap.size,wb4.heap.size)::iv3) r (oldF w) he fun x hx=>List.mem_cons_of_mem _ hx
     clear r he hb
     generalize (wa4.heap.size,wb4.heap.size)::iv3=iv4 at*
     conv=>whnf
     refine callE_S (callE_con (Φ:=fun _ w' v w2=>RowG w2 (Nw (Cv (fun _=>False) w.heap.size iv4) w' w2) v (throughF (P.map ratioP) (valsM M) (colsM M) (valsM M).length)) (fun ρ w' r=>through_c (Rel.old r (oldF w)) (hv.rel r (oldF w)) (hg.rel r (oldF w)) (by rw[List.length_map,hvl,hp0]) (fun x hx=>by obtain⟨y,hy,rfl⟩:=List.mem_map.1 hx;rw[List.length_map];exact hrow y hy) (by omega) hqP hqM h12 (by rw[hvl];exact h1b)) ?_)
     rintro ρ wa5 v5 wb5 r he hb hn
     replace hw:=hw.tr hb
     replace hu:=RatsR.past (iv':=(wa5.heap.size,wb5.heap.size)::iv4) hu r hS he fun x hx=>List.mem_cons_of_mem _ hx
     replace hv:=hv.past (iv':=(wa5.heap.size,wb5.heap.size)::iv4) r (oldF w) he fun x hx=>List.mem_cons_of_mem _ hx
     clear hg
     have ht:=hn.old r.baseLe
     clear r he hb hn
     generalize (wa5.heap.size,wb5.heap.size)::iv4=iv5 at*
     obtain⟨at_,ct,rfl⟩:=ht.shape
     conv=>whnf
     refine callE_S (callE_con (Φ:=fun _ w' v w2=>v= .bool (decide (∀q∈throughF (P.map ratioP) (valsM M) (colsM M) (valsM M).length,q=0))) (fun ρ w' r=>nought_c (Rel.old r (oldF w)) (ht.rel r (oldF w))) ?_)
     rintro ρ wa6 v6 wb6 r he hb rfl
     replace hw:=hw.tr hb
     replace hu:=RatsR.past (iv':=(wa6.heap.size,wb6.heap.size)::iv5) hu r hS he fun x hx=>List.mem_cons_of_mem _ hx
     replace hv:=hv.past (iv':=(wa6.heap.size,wb6.heap.size)::iv5) r (oldF w) he fun x hx=>List.mem_cons_of_mem _ hx
     clear ht
     clear r he hb
     generalize (wa6.heap.size,wb6.heap.size)::iv5=iv6 at*
     conv=>whnf
     refine BrS.mk (fun he1=>?_) (fun he1=>?_)
     ·have he1:∀q∈throughF (P.map ratioP) (valsM M) (colsM M) (valsM M).length,q=0:=by simpa using he1
      conv=>whnf
      refine callE_S (callE_con (Φ:=fun _ w' v w2=>RowX w2 (fun _=>False) w'.heap.size [(w'.heap.size,w2.heap.size)] v b.length (b.map ratioP)) (fun ρ w' r=>values_c (Rel.old r hS) (RatsR.rel hu r hS) hf2 (by omega)) ?_)
      rintro ρ wa7 v7 wb7 r he hb hn
      replace hw:=hw.tr hb
      clear hu
      replace hv:=hv.past (iv':=(wa7.heap.size,wb7.heap.size)::iv6) r (oldF w) he fun x hx=>List.mem_cons_of_mem _ hx
      have hb2:=(show RowG _ _ _ _ from(RowX.got (S:=fun _=>False) (B:=w.heap.size) hn r.baseLe (iv:=(wa7.heap.size,wb7.heap.size)::iv6) List.mem_cons_self).read)
      clear r he hb hn
      generalize (wa7.heap.size,wb7.heap.size)::iv6=iv7 at*
      obtain⟨ab2,cb2,rfl⟩:=hb2.shape
      rw[show (b.map ratioP).length=b.length from List.length_map ..]at hb2 ⊢
      conv=>whnf
      refine callE_S (callE_con (Φ:=fun _ w' v w2=>FracR w2 (Nw (fun _=>False) w' w2) v (dotTo (P.map ratioP) (b.map ratioP) (P.map ratioP).length)) (fun ρ w' r=>dot_c (Rel.old r (oldF w)) (hv.rel r (oldF w)) (hb2.rel r (oldF w)) (by rw[List.length_map,List.length_map];omega) hqP hqb h12 (by rw[List.length_map,hp0];omega)) ?_)
      rintro ρ wa8 v8 wb8 r he hb hn
      replace hw:=hw.tr hb
      clear hv
      clear hb2
      have hd:=hn.got (S:=fun _=>False) r.baseLe (iv:=(wa8.heap.size,wb8.heap.size)::iv7) List.mem_cons_self
      clear r he hb hn
      generalize (wa8.heap.size,wb8.heap.size)::iv7=iv8 at*
      obtain⟨s8_0,s8_1,s8_2,s8_3,s8_4,s8_5,s8_6,s8_7,rfl⟩:=hd.shape
      conv=>whnf
      refine callE_S (callE_con (Φ:=fun _ w' v w2=>FracR w2 (Nw (fun _=>False) w' w2) v ((1:Int):Rat)) (fun ρ w' r=>whole_c 1 w' (by decide) (by decide)) ?_)
      rintro ρ wa9 v9 wb9 r he hb hn
      replace hw:=hw.tr hb
      replace hd:=hd.past (iv':=(wa9.heap.size,wb9.heap.size)::iv8) r (oldF w) he fun x hx=>List.mem_cons_of_mem _ hx
      have ho:=hn.got (S:=fun _=>False) r.baseLe (iv:=(wa9.heap.size,wb9.heap.size)::iv8) List.mem_cons_self
      clear r he hb hn
      generalize (wa9.heap.size,wb9.heap.size)::iv8=iv9 at*
      obtain⟨s9_0,s9_1,s9_2,s9_3,s9_4,s9_5,s9_6,s9_7,rfl⟩:=ho.shape
      conv=>whnf
      have hdl:=rl_dotTo hqP hqb h12 (P.map ratioP).length
      rw[List.length_map,hp0]at hdl
      rw[List.length_map,hp0]at hd
      refine callE_S (callE_con (Φ:=fun _ w' v w2=>v= .int .i64 (rs (dotTo (P.map ratioP) (b.map ratioP) M.length-((1:Int):Rat)))) (fun ρ w' r=>fcmp_c (Rel.old r (oldF w)) (hd.rel r (oldF w)) (ho.rel r (oldF w)) (by omega) (by decide)) ?_)
      rintro ρ wa10 v10 wb10 r he hb rfl
      replace hw:=hw.tr hb
      replace hd:=hd.past (iv':=(wa10.heap.size,wb10.heap.size)::iv9) r (oldF w) he fun x hx=>List.mem_cons_of_mem _ hx
      replace ho:=ho.past (iv':=(wa10.heap.size,wb10.heap.size)::iv9) r (oldF w) he fun x hx=>List.mem_cons_of_mem _ hx
      clear r he hb
      generalize (wa10.heap.size,wb10.heap.size)::iv9=iv10 at*
      conv=>whnf
      refine BrS.mk (fun he2=>?_) (fun he2=>?_)
      ·have he2:dotTo (P.map ratioP) (b.map ratioP) M.length≠1:=fun e=>by
        rw[e]at he2
        rw[show rs (1-((1:Int):Rat))=0 from rs_eq.2 rfl]at he2
        exact absurd he2 (by decide)
       conv=>whnf
       intro ρe we re
       exact⟨_,rfl,hw.tr re.bel,25,rfl,fun _=>⟨fun h=>absurd h (fun h=>he2 (by have:=(hright.2 h).2.2.2.2;rw[List.length_map,hp0]at this;exact this)),fun _=>rfl⟩,fun h=>absurd h0 h⟩
      have he2:dotTo (P.map ratioP) (b.map ratioP) M.length=1:=by
       have h5:rs (dotTo (P.map ratioP) (b.map ratioP) M.length-((1:Int):Rat))=0:=by simpa using he2
       exact rs_eq.1 h5
      conv=>whnf
      intro ρe we re
      exact⟨_,rfl,hw.tr re.bel,0,rfl,fun _=>⟨fun _=>rfl,fun h=>absurd (hright.1 ⟨hx0,hk0,hp0,he1,by rw[List.length_map,hp0];exact he2⟩) h⟩,fun h=>absurd h0 h⟩
     have he1:¬ ∀q∈throughF (P.map ratioP) (valsM M) (colsM M) (valsM M).length,q=0:=by simpa using he1
     conv=>whnf
     intro ρe we re
     exact⟨_,rfl,hw.tr re.bel,25,rfl,fun _=>⟨fun h=>absurd h (fun h=>he1 (hright.2 h).2.2.2.1),fun _=>rfl⟩,fun h=>absurd h0 h⟩
    have hp0:P.length≠M.length:=fun e=>by rw[e]at hp0;simp at hp0
    conv=>whnf
    intro ρe we re
    exact⟨_,rfl,hw.tr re.bel,25,rfl,fun _=>⟨fun h=>absurd h (fun h=>hp0 (hright.2 h).2.2.1),fun _=>rfl⟩,fun h=>absurd h0 h⟩
   have hk0:K≠[]:=fun e=>by rw[e]at hk0;simp at hk0
   conv=>whnf
   intro ρe we re
   exact⟨_,rfl,hw.tr re.bel,25,rfl,fun _=>⟨fun h=>absurd h (fun h=>hk0 (hright.2 h).2.1),fun _=>rfl⟩,fun h=>absurd h0 h⟩
  have hx0:X≠[]:=fun e=>by rw[e]at hx0;simp at hx0
  conv=>whnf
  intro ρe we re
  exact⟨_,rfl,hw.tr re.bel,25,rfl,fun _=>⟨fun h=>absurd h (fun h=>hx0 (hright.2 h).1),fun _=>rfl⟩,fun h=>absurd h0 h⟩
 have hz1:z≠1:=by simpa using hz1
 conv=>whnf
 intro ρe we re
 exact⟨_,rfl,hw.tr re.bel,25,rfl,fun _=>⟨fun h=>absurd h (fun h=>h.elim (fun h=>hz h.1) fun h=>hz1 h.1),fun _=>rfl⟩,fun h=>absurd h0 h⟩
end Go.Ex

/- Regions that draw their order, by an order with branches; CheckSystem and Wider of the reference. Printed by program. No condition but sizes. -/
namespace Go.Ex
open Go Go.Sx Go.Proofs

inductive Tp where
 |nil
 |x (i:Nat) (t:Tp)
 |two (i:Nat) (t:Tp) (j:Nat) (u:Tp)
 |give (id:Nat) (t:Tp)
section
variable{P:Program}{τ:Tab}{ops:Array Oper}{B n nx:Nat}{l:Env}{H:Hp}{iv:Iv}{w w':World}{ρ:Nat→Sx.Val}{a:Act}
end
end Go.Ex

/- Elimination: prefixes of the columns, sums over a row, rows that are cleared. Plain. -/
namespace Go.Ex
theorem getD_take{r:List Rat}{w c:Nat}(h:c<w):(r.take w).getD c 0=r.getD c 0:=by
 simp only[List.getD,List.getElem?_take,if_pos h]
/-- the first columns -/
def tk(w:Nat)(M:List (List Rat)):List (List Rat):=M.map (·.take w)
theorem tk_length(w:Nat)(M:List (List Rat)):(tk w M).length=M.length:=List.length_map ..
theorem tk_getD(w:Nat)(M:List (List Rat))(i:Nat):(tk w M).getD i []=(M.getD i []).take w:=by
 unfold tk
 simp only[List.getD,List.getElem?_map]
 cases M[i]? <;>simp
theorem at2_tk{M:List (List Rat)}{w i c:Nat}(h:c<w):at2 (tk w M) i c=at2 M i c:=by
 unfold at2;rw[tk_getD,getD_take h]
theorem reduceF_length(M:List (List Rat))(cols:Nat):(reduceF M cols).1.length=M.length:=by
 have key:∀(l:List Nat) (s:List (List Rat)×List Nat),(l.foldl stepF s).1.length=s.1.length:=by
  intro l
  induction l with
  |nil=>exact fun s=>rfl
  |cons c l ih=>exact fun s=>by rw[List.foldl_cons,ih,stepF_length]
 exact key _ _
theorem findK_tk{M:List (List Rat)}{w c:Nat}(h:c<w):∀f k,findK (tk w M) c f k=findK M c f k
 |0,k=>rfl
 |f+1,k=>by unfold findK;rw[at2_tk h,findK_tk h f (k+1)]
theorem swapL_tk(w:Nat)(M:List (List Rat))(i j:Nat):swapL [] (tk w M) i j=tk w (swapL [] M i j):=by
 unfold swapL
 rw[tk_getD,tk_getD]
 unfold tk
 rw[List.map_set,List.map_set]
theorem scaled_tk{M:List (List Rat)}{w a c:Nat}(h:c<w):scaled (tk w M) a c=tk w (scaled M a c):=by
 unfold scaled
 rw[tk_getD,at2_tk h]
 unfold tk
 rw[List.map_set,List.map_take]
theorem clearTo_tk{M:List (List Rat)}{w a c i:Nat}(h:c<w):clearTo (tk w M) a c i=tk w (clearTo M a c i):=by
 refine List.ext_getElem? fun j=>?_
 have hP:=tk_getD w M a
 unfold clearTo
 rw[hP]
 unfold tk
 simp only[List.getElem?_mapIdx,List.getElem?_map]
 cases M[j]? with
 |none=>rfl
 |some r=>
  simp only[Option.map_some]
  by_cases hj:j<i∧j≠a
  ·rw[if_pos hj,if_pos hj]
   congr 1
   refine List.ext_getElem? fun k=>?_
   rw[List.getElem?_mapIdx,List.getElem?_take,List.getElem?_take,List.getElem?_mapIdx,getD_take h]
   by_cases hk:k<w
   ·rw[if_pos hk,if_pos hk]
    cases r[k]? with
    |none=>rfl
    |some q=>simp only[Option.map_some,addR,getD_take hk]
   ·rw[if_neg hk,if_neg hk];rfl
  ·rw[if_neg hj,if_neg hj]
theorem stepF_tk{s:List (List Rat)×List Nat}{w c:Nat}(h:c<w):stepF (tk w s.1,s.2) c=(tk w (stepF s c).1,(stepF s c).2):=by
 unfold stepF
 simp only[tk_length,findK_tk h]
 split
 ·split
  ·rfl
  ·rw[swapL_tk,scaled_tk h,clearTo_tk h,tk_length]
 ·rfl
/-- an elimination in the first columns is one of the first columns -/
theorem reduceF_tk{M:List (List Rat)}{w:Nat}:∀cols,cols≤w→reduceF (tk w M) cols=(tk w (reduceF M cols).1,(reduceF M cols).2)
 |0,_=>rfl
 |c+1,h=>by
  have ih:=reduceF_tk (M:=M) (w:=w) c (by omega)
  unfold reduceF at ih ⊢
  rw[List.range_succ,List.foldl_append,List.foldl_append,ih]
  exact stepF_tk (s:=(List.range c).foldl stepF (M,[])) (w:=w) (c:=c) (by omega)

/-- a sum over a row -/
def lin:List Rat→(Nat→Rat)→Rat
 |[],_=>0
 |a::r,φ=>a*φ 0+lin r fun j=>φ (j+1)
theorem lin_scale(k:Rat):∀(r:List Rat) (φ:Nat→Rat),lin (r.map (· *k)) φ=lin r φ*k
 |[],_=>(Rat.zero_mul k).symm
 |a::r,φ=>by
  show a*k*φ 0+lin (r.map (· *k)) _=(a*φ 0+lin r _)*k
  rw[lin_scale k r,Rat.add_mul,Rat.mul_assoc,Rat.mul_comm k,←Rat.mul_assoc]
theorem lin_add(p:Rat):∀(r s:List Rat) (φ:Nat→Rat),r.length=s.length→lin (r.mapIdx (addR p s)) φ=lin r φ+p*lin s φ
 |[],[],_,_=>by show(0:Rat)=0+p*0;rw[Rat.mul_zero,Rat.zero_add]
 |a::r,b::s,φ,h=>by
  rw[List.mapIdx_cons]
  show(a+p*b)*φ 0+lin (r.mapIdx (addR p s)) _=(a*φ 0+lin r _)+p*(b*φ 0+lin s _)
  rw[lin_add p r s _ (by simpa using h),Rat.add_mul,Rat.mul_add,Rat.mul_assoc]
  rw[Rat.add_assoc,Rat.add_assoc,←Rat.add_assoc (p*_),Rat.add_comm (p*_),Rat.add_assoc]
theorem lin_append:∀(r s:List Rat) (φ:Nat→Rat),lin (r++s) φ=lin r φ+lin s fun j=>φ (r.length+j)
 |[],s,φ=>by show _=0+_;rw[Rat.zero_add];simp
 |a::r,s,φ=>by
  show a*φ 0+lin (r++s) _=a*φ 0+lin r _+_
  rw[lin_append r s,Rat.add_assoc]
  have:(fun j=>φ (r.length+j+1))=fun j=>φ ((a::r).length+j):=funext fun j=>by rw[List.length_cons];congr 1;omega
  rw[this]
theorem lin_zero:∀(r:List Rat),lin r (fun _=>0)=0
 |[]=>rfl
 |a::r=>by show a*0+lin r _=0;rw[lin_zero r,Rat.mul_zero,Rat.zero_add]
theorem lin_congr{φ ψ:Nat→Rat}:∀(r:List Rat),(∀j,j<r.length→φ j=ψ j)→lin r φ=lin r ψ
 |[],_=>rfl
 |a::r,h=>by
  show a*φ 0+lin r _=a*ψ 0+lin r _
  rw[h 0 (by simp),lin_congr r fun j hj=>h (j+1) (by simpa using hj)]
theorem findK_zero{M:List (List Rat)}{c:Nat}:∀f k j,k≤j→j<findK M c f k→at2 M j c=0
 |0,k,j,h1,h2=>by simp only[findK]at h2;omega
 |f+1,k,j,h1,h2=>by
  unfold findK at h2
  split at h2
  ·rename_i h0
   rcases Nat.lt_or_ge k j with h|h
   ·exact findK_zero f (k+1) j h h2
   ·rw[show j=k by omega];exact h0
  ·omega
theorem stepF_cases{s:List (List Rat)×List Nat}(c:Nat)(hle:s.2.length≤s.1.length):(stepF s c=s∧∀j,s.2.length≤j→j<s.1.length→at2 s.1 j c=0)∨
  ∃k,s.2.length≤k∧k<s.1.length∧at2 s.1 k c≠0∧stepF s c=(clearTo (scaled (swapL [] s.1 s.2.length k) s.2.length c) s.2.length c s.1.length,s.2++[c]):=by
 have h1:=findK_le s.1 c (s.1.length-s.2.length) s.2.length
 by_cases hk:findK s.1 c (s.1.length-s.2.length) s.2.length=s.1.length
 ·exact .inl ⟨stepF_none (.inr hk),fun j hj hl=>findK_zero (s.1.length-s.2.length) s.2.length j hj (by omega)⟩
 ·exact .inr ⟨_,h1.1,by omega,findK_ne s.1 c _ _ (by omega),stepF_some h1.1 (by omega) (fun j h2 h3=>findK_zero _ _ j h2 h3) (findK_ne s.1 c _ _ (by omega))⟩
theorem getD_mem{M:List (List Rat)}{i:Nat}(h:i<M.length):M.getD i []∈M:=by
 rw[List.getD,List.getElem?_eq_getElem h];exact List.getElem_mem h
/-- what sums and multiples of rows keep, an elimination keeps -/
theorem stepF_closed{P:List Rat→Prop}(hs:∀r k,P r→P (r.map (· *k)))(ha:∀r s p,P r→P s→P (r.mapIdx (addR p s))){s:List (List Rat)×List Nat}{c:Nat}(hle:s.2.length≤s.1.length)(h:∀r∈s.1,P r):∀r∈(stepF s c).1,P r:=by
 rcases stepF_cases c hle with⟨e,-⟩|⟨k,h1,h2,-,e⟩
 ·rw[e];exact h
 rw[e]
 have hp:s.2.length<s.1.length:=by omega
 have k1:∀r∈swapL [] s.1 s.2.length k,P r:=fun r hr=>by
  unfold swapL at hr
  rcases List.mem_or_eq_of_mem_set hr with h3|h3
  ·rcases List.mem_or_eq_of_mem_set h3 with h3|h3
   ·exact h r h3
   ·rw[h3];exact h _ (getD_mem h2)
  ·rw[h3];exact h _ (getD_mem hp)
 have k2:∀r∈scaled (swapL [] s.1 s.2.length k) s.2.length c,P r:=fun r hr=>by
  unfold scaled at hr
  rcases List.mem_or_eq_of_mem_set hr with h3|h3
  ·exact k1 r h3
  ·rw[h3];exact hs _ _ (k1 _ (getD_mem (by rw[swapL_length];exact hp)))
 intro r hr
 dsimp only at hr
 obtain⟨j,hj⟩:=List.getElem?_of_mem hr
 unfold clearTo at hj
 rw[List.getElem?_mapIdx]at hj
 cases hx:(scaled (swapL [] s.1 s.2.length k) s.2.length c)[j]? with
 |none=>rw[hx]at hj;cases hj
 |some x=>
  rw[hx]at hj
  simp only[Option.map_some]at hj
  have hxm:=k2 x (List.mem_of_getElem? hx)
  injection hj with hj
  split at hj
  ·rw[←hj];exact ha _ _ _ hxm (k2 _ (getD_mem (by rw[scaled_length,swapL_length];exact hp)))
  ·rw[←hj];exact hxm
theorem reduceF_closed{P:List Rat→Prop}(hs:∀r k,P r→P (r.map (· *k)))(ha:∀r s p,P r→P s→P (r.mapIdx (addR p s))){M:List (List Rat)}(h:∀r∈M,P r)(cols:Nat):∀r∈(reduceF M cols).1,P r:=by
 have key:∀(l:List Nat) (s:List (List Rat)×List Nat),s.2.length≤s.1.length→(∀r∈s.1,P r)→∀r∈(l.foldl stepF s).1,P r:=by
  intro l
  induction l with
  |nil=>exact fun s _ h=>h
  |cons c l ih=>exact fun s h1 h2=>ih _ (stepF_le s c h1) (stepF_closed hs ha h1 h2)
 exact key _ _ (Nat.zero_le _) h
/-- a sum that is 0 in every row stays so -/
theorem reduceF_lin{M:List (List Rat)}{n:Nat}(hl:Len n M){φ:Nat→Rat}(h:∀r∈M,lin r φ=0)(cols:Nat):∀r∈(reduceF M cols).1,lin r φ=0:=fun r hr=>
 (reduceF_closed (P:=fun r=>r.length=n∧lin r φ=0) (fun r k ⟨h1,h2⟩=>⟨by simpa using h1,by rw[lin_scale,h2,Rat.zero_mul]⟩)
  (fun r s p ⟨h1,h2⟩ ⟨h3,h4⟩=>⟨by simpa using h1,by rw[lin_add p r s φ (by rw[h1,h3]),h2,h4,Rat.mul_zero,Rat.zero_add]⟩) (fun r hr=>⟨hl r hr,h r hr⟩) cols r hr).2

theorem getD_addR{p:Rat}{r s:List Rat}{c:Nat}(h:c<r.length):(r.mapIdx (addR p s)).getD c 0=r.getD c 0+p*s.getD c 0:=by
 simp only[List.getD,List.getElem?_mapIdx,List.getElem?_eq_getElem h]
 rfl
theorem getD_scale{r:List Rat}{k:Rat}{c:Nat}:(r.map (· *k)).getD c 0=r.getD c 0*k:=by
 simp only[List.getD,List.getElem?_map]
 cases r[c]? with
 |none=>exact(Rat.zero_mul k).symm
 |some q=>rfl
/-- a step, row by row -/
theorem stepF_rows{s:List (List Rat)×List Nat}{c k n:Nat}(hl:Len n s.1)(h1:s.2.length≤k)(h2:k<s.1.length)(h3:at2 s.1 k c≠0)(e:stepF s c=(clearTo (scaled (swapL [] s.1 s.2.length k) s.2.length c) s.2.length c s.1.length,s.2++[c])):
  (∀t,at2 (stepF s c).1 s.2.length t=at2 s.1 k t*(1 / at2 s.1 k c))∧
  ∀j,j<s.1.length→j≠s.2.length→∀t,t<n→at2 (stepF s c).1 j t=at2 s.1 (if j=k then s.2.length else j) t+ -(at2 s.1 (if j=k then s.2.length else j) c)*(at2 s.1 k t*(1 / at2 s.1 k c)):=by
 have hp:s.2.length<s.1.length:=by omega
 have hsw:at2 (swapL [] s.1 s.2.length k) s.2.length c=at2 s.1 k c:=at2_swap hp h2
 have hpiv:(scaled (swapL [] s.1 s.2.length k) s.2.length c).getD s.2.length []=(s.1.getD k []).map (· *(1 / at2 s.1 k c)):=by
  unfold scaled
  rw[hsw,List.getD,List.getElem?_set_self (by rw[swapL_length];exact hp)]
  simp only[Option.getD_some]
  congr 1
  rw[List.getD,List.getD,swapL_fst hp h2]
 have hrow:∀j,j<s.1.length→j≠s.2.length→(scaled (swapL [] s.1 s.2.length k) s.2.length c)[j]? =some (s.1.getD (if j=k then s.2.length else j) []):=fun j hj hne=>by
  unfold scaled
  rw[List.getElem?_set_ne (Ne.symm hne)]
  unfold swapL
  by_cases hjk:j=k
  ·subst hjk
   rw[List.getElem?_set_self (by simpa using hj),if_pos rfl]
  ·rw[List.getElem?_set_ne (Ne.symm hjk),List.getElem?_set_ne (Ne.symm hne),if_neg hjk,List.getD,List.getElem?_eq_getElem hj];rfl
 have hgp:(clearTo (scaled (swapL [] s.1 s.2.length k) s.2.length c) s.2.length c s.1.length).getD s.2.length []=(s.1.getD k []).map (· *(1 / at2 s.1 k c)):=by
  rw[←hpiv]
  simp only[List.getD,clearTo_at]
 rw[e]
 refine⟨fun t=>?_,fun j hj hne t ht=>?_⟩
 ·show((clearTo (scaled (swapL [] s.1 s.2.length k) s.2.length c) s.2.length c s.1.length).getD s.2.length []).getD t 0=_
  rw[hgp,getD_scale]
  rfl
 ·have hgj:(clearTo (scaled (swapL [] s.1 s.2.length k) s.2.length c) s.2.length c s.1.length).getD j []=(s.1.getD (if j=k then s.2.length else j) []).mapIdx (addR (-((s.1.getD (if j=k then s.2.length else j) []).getD c 0)) ((s.1.getD k []).map (· *(1 / at2 s.1 k c)))):=by
   simp only[List.getD,clearTo,List.getElem?_mapIdx,hrow j hj hne,Option.map_some,Option.getD_some]
   rw[if_pos ⟨hj,hne⟩]
   exact congrArg (fun P=>(s.1.getD (if j=k then s.2.length else j) []).mapIdx (addR (-((s.1.getD (if j=k then s.2.length else j) []).getD c 0)) P)) hpiv
  show((clearTo (scaled (swapL [] s.1 s.2.length k) s.2.length c) s.2.length c s.1.length).getD j []).getD t 0=_
  rw[hgj,getD_addR (by rw[hl.getD (by split<;>omega)];exact ht),getD_scale]
  rfl
theorem mul_inv1{x:Rat}(h:x≠0):x*(1 / x)=1:=by rw[Rat.div_def,Rat.one_mul,Rat.mul_inv_cancel x h]
/-- rows behind the pivots are 0 in the columns that have been looked at; the pivots' columns are those of a unit -/
def Red(n c:Nat)(s:List (List Rat)×List Nat):Prop:=Len n s.1∧s.2.length≤s.1.length∧(∀j t,s.2.length≤j→j<s.1.length→t<c→at2 s.1 j t=0)∧(∀p∈s.2,p<c)∧
 ∀i j,i<s.2.length→j<s.1.length→at2 s.1 j (s.2.getD i 0)=if j=i then 1 else 0
theorem Red.step{n c:Nat}{s:List (List Rat)×List Nat}(h:Red n c s)(hc:c<n):Red n (c+1) (stepF s c):=by
 obtain⟨hl,hle,hz,hpc,hu⟩:=h
 rcases stepF_cases c hle with⟨e,h0⟩|⟨k,h1,h2,h3,e⟩
 ·rw[e]
  refine⟨hl,hle,fun j t hj hjl ht=>?_,fun p hp=>by have:=hpc p hp;omega,hu⟩
  rcases Nat.lt_or_ge t c with h|h
  ·exact hz j t hj hjl h
  ·rw[show t=c by omega];exact h0 j hj hjl
 ·obtain⟨r1,r2⟩:=stepF_rows hl h1 h2 h3 e
  have hlen:(stepF s c).1.length=s.1.length:=stepF_length s c
  have e2:(stepF s c).2=s.2++[c]:=by rw[e]
  have e3:(stepF s c).2.length=s.2.length+1:=by rw[e2];simp
  have hone:∀j,j<s.1.length→j≠s.2.length→at2 (stepF s c).1 j c=0:=fun j hj hne=>by
   rw[r2 j hj hne c hc,mul_inv1 h3,Rat.mul_one,Rat.add_neg_cancel]
  refine⟨hl.step,by rw[e3,hlen];omega,fun j t hj hjl ht=>?_,fun p hp=>?_,fun i j hi hj=>?_⟩
  ·rw[e3]at hj
   rw[hlen]at hjl
   rcases Nat.lt_or_ge t c with h|h
   ·rw[r2 j hjl (by omega) t (by omega),hz k t h1 h2 h,hz (if j=k then s.2.length else j) t (by split<;>omega) (by split<;>omega) h,Rat.zero_mul,Rat.mul_zero,Rat.zero_add]
   ·rw[show t=c by omega];exact hone j hjl (by omega)
  ·rw[e2]at hp
   rcases List.mem_append.1 hp with hp|hp
   ·have:=hpc p hp;omega
   ·rw[List.mem_singleton.1 hp];omega
  ·rw[e3]at hi
   rw[hlen]at hj
   rcases Nat.lt_or_ge i s.2.length with h|h
   ·have hg:(stepF s c).2.getD i 0=s.2.getD i 0:=by rw[e2,List.getD,List.getElem?_append_left h,←List.getD]
    have hpm:s.2.getD i 0<c:=hpc _ (by rw[List.getD,List.getElem?_eq_getElem h];exact List.getElem_mem h)
    have hk0:at2 s.1 k (s.2.getD i 0)=0:=hz k _ h1 h2 hpm
    rw[hg]
    by_cases hjp:j=s.2.length
    ·rw[hjp,r1,hk0,Rat.zero_mul,if_neg (by omega)]
    ·rw[r2 j hj hjp _ (by omega),hk0,Rat.zero_mul,Rat.mul_zero,Rat.add_zero]
     by_cases hjk:j=k
     ·rw[if_pos hjk,hu i _ h (by omega),if_neg (by omega),if_neg (by omega)]
     ·rw[if_neg hjk,hu i j h hj]
   ·have hg:(stepF s c).2.getD i 0=c:=by rw[e2,List.getD,List.getElem?_append_right h,show i-s.2.length=0 by omega];rfl
    rw[hg]
    by_cases hjp:j=s.2.length
    ·rw[hjp,r1,mul_inv1 h3,if_pos (by omega)]
    ·rw[hone j hj hjp,if_neg (by omega)]
theorem reduceF_red{M:List (List Rat)}{n:Nat}(hl:Len n M):∀cols,cols≤n→Red n cols (reduceF M cols)
 |0,_=>⟨hl,Nat.zero_le _,fun _ _ _ _ h=>by omega,fun p hp=>(by cases hp),fun _ _ h=>(by cases h)⟩
 |c+1,h=>by
  have ih:=reduceF_red hl c (by omega)
  unfold reduceF at ih ⊢
  rw[List.range_succ,List.foldl_append]
  exact ih.step (by omega)
end Go.Ex

/- Elimination of a system: a contradiction is one, and the first columns alone give the same. Plain. -/
namespace Go.Ex
theorem dotTo_cons(a:Rat)(y z:List Rat):∀i,dotTo (a::y) z (i+1)=a*z.getD 0 0+dotTo y z.tail i
 |0=>by show 0+a*z.getD 0 0=_+0;rw[Rat.zero_add,Rat.add_zero]
 |i+1=>by
  have h:z.tail.getD i 0=z.getD (i+1) 0:=by cases z<;>rfl
  rw[dotTo,dotTo_cons a y z i,dotTo,Rat.add_assoc,h]
  rfl
theorem lin_dotTo:∀(y z:List Rat),lin y (fun t=>z.getD t 0)=dotTo y z y.length
 |[],z=>rfl
 |a::y,z=>by
  have h:(fun j=>z.getD (j+1) 0)=fun j=>z.tail.getD j 0:=funext fun j=>by cases z<;>rfl
  show a*z.getD 0 0+lin y (fun j=>z.getD (j+1) 0)=_
  rw[h,lin_dotTo y z.tail]
  exact(dotTo_cons a y z y.length).symm
theorem unitL_len(R i:Nat):(unitL R i).length=R:=by simp[unitL]
section
variable{M:List (List Rat)}{b:List Rat}{n:Nat}
theorem allF_len(hl:Len n M):Len (n+1+M.length) (allF M b):=fun r hr=>by
 obtain⟨i,hi⟩:=List.getElem?_of_mem hr
 unfold allF at hi
 rw[List.getElem?_mapIdx]at hi
 cases hx:M[i]? with
 |none=>rw[hx]at hi;cases hi
 |some x=>
  rw[hx]at hi
  injection hi with hi
  subst hi
  rw[List.length_append,List.length_cons,unitL_len,hl x (List.mem_of_getElem? hx)]
  omega
theorem allF_tk0(hl:Len n M):tk n (allF M b)=M:=by
 refine List.ext_getElem? fun i=>?_
 unfold tk allF
 rw[List.getElem?_map,List.getElem?_mapIdx]
 cases hx:M[i]? with
 |none=>rfl
 |some x=>
  have hy:=hl x (List.mem_of_getElem? hx)
  simp only[Option.map_some]
  congr 1
  rw[List.take_append,List.take_of_length_le (by omega),hy,Nat.sub_self,List.take_zero,List.append_nil]
/-- a system's elimination tells the one of the matrix -/
theorem reduceF_M(hl:Len n M):reduceF M n=(tk n (reduceF (allF M b) n).1,(reduceF (allF M b) n).2):=by
 have:=reduceF_tk (M:=allF M b) n (Nat.le_refl n)
 rw[allF_tk0 hl]at this
 exact this
end
theorem kernelTo_tk(A:List (List Rat))(pv:List Nat)(n:Nat):kernelTo (tk n A) pv n n=kernelTo A pv n n:=by
 unfold kernelTo
 refine List.map_congr_left fun c hc=>?_
 have hc:c<n:=List.mem_range.1 (List.mem_filter.1 hc).1
 unfold kvecTo
 simp only[at2_tk hc]
end Go.Ex

/- Wider of the reference. Printed by program. No condition but sizes. -/
namespace Go.Ex
open Go Go.Sx Go.Proofs

end Go.Ex

/- Basic of the reference: the basic solution of a system. Printed by program. No condition but sizes. -/
namespace Go.Ex
open Go Go.Sx Go.Proofs

end Go.Ex

/- Dot, Before and IsContradiction of the reference. Printed by program. No condition but sizes. -/
namespace Go.Ex
open Go Go.Sx Go.Proofs

theorem rDot_c{S:Nat→Prop}{w:World}{v u:Value}{xs ys:List Rat}{h:Nat}(hS:Old S w)(hx:RatsL w S v xs)(hy:RatsL w S u ys)(hl:xs.length=ys.length)(hqx:∀q∈xs,rl q+1≤h)(hqy:∀q∈ys,rl q+1≤h)(h2:2≤h)(hb:2*h*xs.length≤90000):
  Con PG N.ref01_Dot #[v,u] w (Ret w fun v' w2=>RatC w2 (Nw (fun _=>False) w w2) v' (dotTo xs ys xs.length)):=by
 have hw:Bel w.heap.size w w:=Bel.refl
 obtain⟨ax,cx,rfl,hcx,hmx⟩:=hx.shape
 obtain⟨ay,cy,rfl,hcy,-⟩:=hy.shape
 unfold maxLen at hmx
 refine in_ref01_Dot (by simp) ?_
 conv=>whnf
 refine callE_S (callE_con (Φ:=fun _ w' v w2=>RatC w2 (Nw (fun _=>False) w' w2) v (((0:Int):Rat))) (fun ρ w' r=>rWholeAll_c 0 w' (by decide) (by decide)) ?_)
 rintro ρ wa1 v1 wb1 r he hb hn
 replace hw:=hw.tr hb
 have hd:=hn.got (S:=fun _=>False) r.baseLe (iv:=(wa1.heap.size,wb1.heap.size)::[]) List.mem_cons_self
 clear r he hb hn
 generalize (wa1.heap.size,wb1.heap.size)::[]=iv1 at*
 obtain⟨s1_0,s1_1,s1_2,s1_3,s1_4,s1_5,s1_6,s1_7,rfl⟩:=hd.shape
 conv=>whnf
 rw[show ((0:Int):Rat)=dotTo xs ys 0 from rfl]at hd
 refine⟨Nat×(Bool×Bool)×(Option Addr×Option Addr)×(Nat×Nat×Nat×Nat)×World×Iv,fun z=>⟨[(0,.o (.v (.slice ax xs.length cx))),(1,.o (.v (.slice ay ys.length cy))),(4,.o (.p 0 0)),(5,.o (.p 1 0)),(6,.o (.v (.int .i64 ((z.1:Nat):Int))))],[(1,.box T.Rat [.v (.bool z.2.1.1),.v (.slice z.2.2.1.1 z.2.2.2.1.1 z.2.2.2.1.2.1),.v (.bool z.2.1.2),.v (.slice z.2.2.1.2 z.2.2.2.1.2.2.1 z.2.2.2.1.2.2.2)]),(0,.box T.Rat [.v (.bool false),.v (.slice none 0 0),.v (.bool false),.v (.slice none 0 0)])],2,z.2.2.2.2.2,z.2.2.2.2.1⟩,fun z=>xs.length-z.1,
  fun z=>z.1≤xs.length∧Bel w.heap.size w z.2.2.2.2.1∧RatC z.2.2.2.2.1 (Cv (fun _=>False) w.heap.size z.2.2.2.2.2) (.agg #[.bool z.2.1.1,.slice z.2.2.1.1 z.2.2.2.1.1 z.2.2.2.1.2.1,.bool z.2.1.2,.slice z.2.2.1.2 z.2.2.2.1.2.2.1 z.2.2.2.1.2.2.2]) (dotTo xs ys z.1),?_,?_⟩
 ·intro ρ w' r
  exact⟨(0,(s1_0,s1_4),(s1_1,s1_5),(s1_2,s1_3,s1_6,s1_7),w',iv1),⟨by simp,hw.tr r.bel,hd.rel r (oldF w)⟩,Sub.gen [] r ⟨rfl,rfl,trivial⟩ ⟨rfl,rfl,rfl,rfl,rfl,trivial⟩ (by simp[ScH,Blk.scopd,At.sc]) (by simp[ScE,SV.sc,At.sc]) (by rfl) (fun lo hi h=>h)⟩
 clear hw hd
 rintro⟨i,⟨p0,p4⟩,⟨p1,p5⟩,⟨p2,p3,p6,p7⟩,w1,iv⟩ ⟨hi,hw,hd⟩
 dsimp only at hi hw hd ⊢
 conv=>whnf
 refine BrS.mk (fun hib=>?_) (fun hib=>?_)
 ·have hib:i<xs.length:=by simpa using hib
  have hs:=rl_dotTo hqx hqy h2 i
  have hs2:2*h*i≤2*h*xs.length:=Nat.mul_le_mul_left _ hi
  have hs3:2*h*1≤2*h*xs.length:=Nat.mul_le_mul_left _ (by omega)
  obtain⟨x,hxi⟩:∃x,xs[i]? =some x:=⟨_,List.getElem?_eq_getElem hib⟩
  obtain⟨y,hyi⟩:∃x,ys[i]? =some x:=⟨_,List.getElem?_eq_getElem (by omega)⟩
  have hx3:=hqx x (List.mem_of_getElem? hxi)
  have hy3:=hqy y (List.mem_of_getElem? hyi)
  have hx2:xs.getD i 0=x:=by rw[List.getD,hxi];rfl
  have hy2:ys.getD i 0=y:=by rw[List.getD,hyi];rfl
  have hm:=rl_mul x y
  obtain⟨adx,csx,hax,hFx,-,hlx⟩:=ListR.load hx hxi
  obtain⟨ady,csy,hay,hFy,-,hly⟩:=ListR.load hy hyi
  obtain⟨f0,f1,f2,f3,f4,f5,f6,f7,rfl,hFx⟩:=hFx
  obtain⟨q0,q1,q2,q3,q4,q5,q6,q7,rfl,hFy⟩:=hFy
  conv=>whnf
  refine drawn_of_pi hτ hmix [.x 0,.x 1,.x 2,.x 3,.x 4,.x 5,.x 6,.x 7,.x 8,.x 9,.x 10,.x 11] (by kernel_rfl) (by kernel_rfl) ?_
  conv=>whnf
  refine⟨adx,hax,⟨by omega,by omega⟩,?_⟩
  conv=>whnf
  refine⟨[.bool f0,.slice f1 f2 f3,.bool f4,.slice f5 f6 f7],rfl,fun ρ w' r j u hu=>?_,?_⟩
  ·obtain⟨k1,k2⟩:=hlx j u hu
   rw[Int.toNat_natCast,cell_of_heap (w:=w) (w2:=w') (by rw[addB,addB];exact(hw.tr r.bel).block _ (hS _ k1))]
   exact k2
  conv=>whnf
  refine⟨ady,hay,⟨by omega,by omega⟩,?_⟩
  conv=>whnf
  refine⟨[.bool q0,.slice q1 q2 q3,.bool q4,.slice q5 q6 q7],rfl,fun ρ w' r j u hu=>?_,?_⟩
  ·obtain⟨k1,k2⟩:=hly j u hu
   rw[Int.toNat_natCast,cell_of_heap (w:=w) (w2:=w') (by rw[addB,addB];exact(hw.tr r.bel).block _ (hS _ k1))]
   exact k2
  conv=>whnf
  refine callE_con (Φ:=fun _ w' v w2=>RatC w2 (Nw (fun _=>False) w' w2) v (x*y)) (fun ρ w' r=>rMul_c (fun g hg=>by have:=hS g hg;have:=r.baseLe;omega) (hFx.keep fun g hg=>(hw.tr r.bel).block g (hS g hg)) (hFy.keep fun g hg=>(hw.tr r.bel).block g (hS g hg))) ?_
  rintro ρ wa2 v2 wb2 r he hb hn
  replace hw:=hw.tr hb
  replace hd:=hd.past (iv':=(wa2.heap.size,wb2.heap.size)::iv) r (oldF w) he fun x hx=>List.mem_cons_of_mem _ hx
  have hp:=hn.got (S:=fun _=>False) r.baseLe (iv:=(wa2.heap.size,wb2.heap.size)::iv) List.mem_cons_self
  clear r he hb hn
  generalize (wa2.heap.size,wb2.heap.size)::iv=iv2 at*
  obtain⟨s2_0,s2_1,s2_2,s2_3,s2_4,s2_5,s2_6,s2_7,rfl⟩:=hp.shape
  conv=>whnf
  refine callE_con (Φ:=fun _ w' v w2=>RatC w2 (Nw (fun _=>False) w' w2) v (dotTo xs ys i+x*y)) (fun ρ w' r=>rAdd_c (Rel.old r (oldF w)) ((hd.rel r (oldF w)).l (by omega)) ((hp.rel r (oldF w)).l (by omega))) ?_
  rintro ρ wa3 v3 wb3 r he hb hn
  replace hw:=hw.tr hb
  clear hd
  clear hp
  have hd2:=hn.got (S:=fun _=>False) r.baseLe (iv:=(wa3.heap.size,wb3.heap.size)::iv2) List.mem_cons_self
  clear r he hb hn
  generalize (wa3.heap.size,wb3.heap.size)::iv2=iv3 at*
  obtain⟨s3_0,s3_1,s3_2,s3_3,s3_4,s3_5,s3_6,s3_7,rfl⟩:=hd2.shape
  conv=>whnf
  rw[show dotTo xs ys i+x*y=dotTo xs ys (i+1) by rw[dotTo,hx2,hy2]]at hd2
  refine⟨((i+1:Nat):Int),by rw[wrap64]<;>omega,?_⟩
  conv=>whnf
  intro ρ3 w3 r3
  exact⟨(i+1,(s3_0,s3_4),(s3_1,s3_5),(s3_2,s3_3,s3_6,s3_7),w3,_),⟨hib,hw.tr r3.bel,hd2.rel r3 (oldF w)⟩,Sub.gen [] r3 ⟨rfl,rfl,trivial⟩ ⟨rfl,rfl,rfl,rfl,rfl,trivial⟩ (by simp[ScH,Blk.scopd,At.sc]) (by simp[ScE,SV.sc,At.sc]) (by rfl) (fun lo hi h=>h),by dsimp only;omega⟩
 have hib:i=xs.length:=Nat.le_antisymm hi (by simpa using hib)
 subst hib
 conv=>whnf
 intro ρe we re
 exact⟨_,rfl,hw.tr re.bel,hd.out re (oldF w)⟩
section
variable{S:Nat→Prop}{H:Hp}{nx:Nat}{iv iv':Iv}{B:Nat}{w w' w2:World}{ρ:Nat→Sx.Val}{css:List (List Value)}{qs:List Rat}
theorem Fc.rel(h:Fc w (Cv S B iv) css qs)(r:Rel H nx iv B w ρ w')(hS:∀g,S g→g<B):Fc w' (Cv S B iv) css qs:=h.keep fun _ hg=>Rel.same r hS hg
theorem Fc.past(h:Fc w (Cv S B iv) css qs)(r:Rel H nx iv B w ρ w')(hS:∀g,S g→g<B)(he:Ext w' w2)(hm:∀p,p∈iv→p∈iv'):Fc w2 (Cv S B iv') css qs:=
 ((h.rel r hS).keep fun g hg=>he.block g (Rel.old r hS g hg)).weak fun _ hg=>hg.mono hm
theorem Fc.push{cs:List Value}{q:Rat}(h:Fc w S css qs)(hc:Rat4C w S cs q):Fc w S (css++[cs]) (qs++[q]):=by
 refine⟨by simp[h.1],fun j x p h1 h2=>?_⟩
 rcases Nat.lt_or_ge j css.length with hi|hi
 ·rw[List.getElem?_append_left hi]at h1
  rw[List.getElem?_append_left (by rw[←h.1];exact hi)]at h2
  exact h.2 j x p h1 h2
 ·have hi0:j=css.length:=by have:=(List.getElem?_eq_some_iff.1 h1).1;simp at this;omega
  subst hi0
  rw[List.getElem?_append_right (Nat.le_refl _),Nat.sub_self]at h1
  rw[h.1,List.getElem?_append_right (Nat.le_refl _),Nat.sub_self]at h2
  simp at h1 h2
  subst h1 h2
  exact hc
end
end Go.Ex
