/- A part of the proof: texts X82 to L16. Each tells its conditions in its theorems. -/
import Derived.Test.YtmkjmkdmfamciaaGreatDoorP13
import Derived.Test.YtmkjmkdmfamciaaGreatDoorP14
/- Rows of package exact: EqualFunc of rows, nought, dot. Printed by program. No condition but sizes. -/
namespace Go.Ex
open Go Go.Sx Go.Proofs

theorem equalRows_c{S:Nat→Prop}{w:World}{v u:Value}{xs ys:List (List Rat)}(hS:Old S w)(hx:MatR w S v xs)(hy:MatR w S u ys)(hqx:∀x∈xs,∀q∈x,rl q≤10000000000)(hqy:∀x∈ys,∀q∈x,rl q≤10000000000):
  Con PG N.slices_EqualFunc_of_exact_row_of_exact_row_exact_row_exact_row_of #[v,u,fnV 117] w (Ret w fun v' _=>v'= .bool (decide (xs=ys))):=by
 have hw:Bel w.heap.size w w:=Bel.refl
 obtain⟨ax,cx,rfl,hcx,hmx⟩:=SlicesR.shape hx
 obtain⟨ay,cy,rfl,hcy,hmy⟩:=SlicesR.shape hy
 unfold maxLen at hmx hmy
 refine in_slices_EqualFunc_of_exact_row_of_exact_row_exact_row_exact_row_of (by simp) ?_
 conv=>whnf
 refine BrS.mk (fun hl=>?_) (fun hl=>?_)
 ·have hl:xs.length≠ys.length:=fun e=>by rw[e]at hl;simp at hl
  conv=>whnf
  intro ρe we re
  exact⟨_,rfl,hw.tr re.bel,by rw[decide_eq_false (fun e=>hl (by rw[e]))];rfl⟩
 have hl1:(xs.length:Int)=ys.length:=by simpa using hl
 have hl2:xs.length=ys.length:=by omega
 conv=>whnf
 refine⟨Nat×World×Iv,fun z=>⟨[(1,.o (.v (.slice ay ys.length cy))),(2,.o (.v (fnV 117))),(15,.o (.v (.slice ax xs.length cx))),(16,.o (.v (.int .i64 xs.length))),(17,.o (.v (.int .i64 ((z.1:Nat):Int))))],[],0,z.2.2,z.2.1⟩,fun z=>xs.length-z.1,
  fun z=>z.1≤xs.length∧Bel w.heap.size w z.2.1∧xs.take z.1=ys.take z.1,?_,?_⟩
 ·intro ρ w' r
  exact⟨(0,w',[]),⟨by simp,r.bel,by simp⟩,Sub.gen [] r trivial ⟨rfl,rfl,rfl,rfl,rfl,trivial⟩ (by simp[ScH]) (by simp[ScE,SV.sc,At.sc]) (by rfl) (by simp)⟩
 clear hw
 rintro⟨i,w1,iv⟩ ⟨hi,hw,ht⟩
 dsimp only at hi hw ht ⊢
 conv=>whnf
 refine BrS.mk (fun hib=>?_) (fun hib=>?_)
 ·have hib:i<xs.length:=by simpa using hib
  obtain⟨x,hxi⟩:∃x,xs[i]? =some x:=⟨_,List.getElem?_eq_getElem hib⟩
  obtain⟨y,hyi⟩:∃x,ys[i]? =some x:=⟨_,List.getElem?_eq_getElem (by omega)⟩
  obtain⟨adx,ux,rfl,hFx,hx1,hx2⟩:=SlicesR.load hx hxi
  obtain⟨ady,uy,rfl,hFy,hy1,hy2⟩:=SlicesR.load hy hyi
  obtain⟨aux,cux,rfl⟩:=SlicesR.rowOf hFx
  obtain⟨auy,cuy,rfl⟩:=SlicesR.rowOf hFy
  conv=>whnf
  refine⟨adx,rfl,⟨by omega,by omega⟩,?_⟩
  conv=>whnf
  refine⟨.slice aux x.length cux,fun ρ w' r=>?_,?_⟩
  ·rw[Int.toNat_natCast,cell_of_heap (w:=w) (w2:=w') (by rw[addB];exact(hw.tr r.bel).block _ (hS _ hx1))]
   exact hx2
  conv=>whnf
  refine⟨ady,rfl,⟨by omega,by omega⟩,?_⟩
  conv=>whnf
  refine⟨.slice auy y.length cuy,fun ρ w' r=>?_,?_⟩
  ·rw[Int.toNat_natCast,cell_of_heap (w:=w) (w2:=w') (by rw[addB];exact(hw.tr r.bel).block _ (hS _ hy1))]
   exact hy2
  conv=>whnf
  refine callE_S (callE_con (Φ:=fun _ w' v w2=>v= .bool (decide (x=y))) (fun ρ w' r=>rowSame_c (fun g hg=>by have:=hS g hg;have:=r.baseLe;omega) (hFx.keep fun g hg=>(hw.tr r.bel).block g (hS g (hg.elim id id))) (hFy.keep fun g hg=>(hw.tr r.bel).block g (hS g (hg.elim id id))) (hqx x (List.mem_of_getElem? hxi)) (hqy y (List.mem_of_getElem? hyi))) ?_)
  rintro ρ wa1 v1 wb1 r he hb rfl
  replace hw:=hw.tr hb
  clear r he hb
  generalize (wa1.heap.size,wb1.heap.size)::iv=iv1 at*
  conv=>whnf
  refine BrS.mk (fun he=>?_) (fun he=>?_)
  ·have he1:x≠y:=by simpa using he
   conv=>whnf
   intro ρe we re
   exact⟨_,rfl,hw.tr re.bel,by rw[decide_eq_false (fun e=>he1 (by subst e;rw[hxi]at hyi;injection hyi))];rfl⟩
  have he1:x=y:=by simpa using he
  have ht2:xs.take (i+1)=ys.take (i+1):=by rw[List.take_add_one,List.take_add_one,ht,hxi,hyi,he1]
  conv=>whnf
  refine⟨((i+1:Nat):Int),by rw[wrap64]<;>omega,?_⟩
  conv=>whnf
  intro ρ3 w3 r3
  exact⟨(i+1,w3,_),⟨hib,hw.tr r3.bel,ht2⟩,Sub.gen [] r3 trivial ⟨rfl,rfl,rfl,rfl,rfl,trivial⟩ (by simp[ScH]) (by simp[ScE,SV.sc,At.sc]) (by rfl) (fun lo hi h=>h),by dsimp only;omega⟩
 have hib:i=xs.length:=Nat.le_antisymm hi (by simpa using hib)
 rw[hib,List.take_length,hl2,List.take_length]at ht
 conv=>whnf
 intro ρe we re
 exact⟨_,rfl,hw.tr re.bel,by rw[decide_eq_true ht];rfl⟩
theorem indexNought_c{S:Nat→Prop}{w:World}{v:Value}{xs:List Rat}(hS:Old S w)(hx:RowR w S S v xs):
  Con PG N.slices_IndexFunc_of_exact_row_exact_fraction_of #[v,fnV 151] w (Ret w fun v' _=>∃z:Int,v'= .int .i64 z∧ -1≤z∧z≤9223372036854775807∧(0≤z↔∃x∈xs,x≠0)):=by
 have hw:Bel w.heap.size w w:=Bel.refl
 obtain⟨ax,cx,rfl,hcx,hmx⟩:=hx.shape
 unfold maxLen at hmx
 refine in_slices_IndexFunc_of_exact_row_exact_fraction_of (by simp) ?_
 conv=>whnf
 refine⟨Nat×World×Iv,fun z=>⟨[(0,.o (.v (.slice ax xs.length cx))),(1,.o (.v (fnV 151))),(7,.o (.v (.int .i64 xs.length))),(8,.o (.v (.int .i64 ((z.1:Nat):Int))))],[],0,z.2.2,z.2.1⟩,fun z=>xs.length-z.1,
  fun z=>z.1≤xs.length∧Bel w.heap.size w z.2.1∧∀j x,j<z.1→xs[j]? =some x→x=0,?_,?_⟩
 ·intro ρ w' r
  exact⟨(0,w',[]),⟨by simp,r.bel,by simp⟩,Sub.gen [] r trivial ⟨rfl,rfl,rfl,rfl,trivial⟩ (by simp[ScH]) (by simp[ScE,SV.sc,At.sc]) (by rfl) (by simp)⟩
 clear hw
 rintro⟨i,w1,iv⟩ ⟨hi,hw,ht⟩
 dsimp only at hi hw ht ⊢
 conv=>whnf
 refine BrS.mk (fun hib=>?_) (fun hib=>?_)
 ·have hib:i<xs.length:=by simpa using hib
  obtain⟨x,hxi⟩:∃x,xs[i]? =some x:=⟨_,List.getElem?_eq_getElem hib⟩
  obtain⟨adx,csx,hax,hFx,hlx⟩:=hx.load hxi
  obtain⟨p0,p1,p2,p3,p4,p5,p6,p7,rfl,hFx⟩:=hFx
  conv=>whnf
  refine⟨adx,hax,⟨by omega,by omega⟩,?_⟩
  conv=>whnf
  refine⟨[.bool p0,.slice p1 p2 p3,.bool p4,.slice p5 p6 p7],rfl,fun ρ w' r j u hu=>?_,?_⟩
  ·obtain⟨k1,k2⟩:=hlx j u hu
   rw[Int.toNat_natCast,cell_of_heap (w:=w) (w2:=w') (by rw[addB,addB];exact(hw.tr r.bel).block _ (hS _ k1))]
   exact k2
  conv=>whnf
  refine callE_S (callE_con (Φ:=fun _ w' v w2=>v= .bool (decide (x≠0))) (fun ρ w' r=>nought1_c (fun g hg=>by have:=hS g hg;have:=r.baseLe;omega) (hFx.keep fun g hg=>(hw.tr r.bel).block g (hS g hg))) ?_)
  rintro ρ wa1 v1 wb1 r he hb rfl
  replace hw:=hw.tr hb
  clear r he hb
  generalize (wa1.heap.size,wb1.heap.size)::iv=iv1 at*
  conv=>whnf
  refine BrS.mk (fun he=>?_) (fun he=>?_)
  ·have he1:x≠0:=by simpa using he
   conv=>whnf
   intro ρe we re
   exact⟨_,rfl,hw.tr re.bel,⟨_,rfl,by omega,by omega,iff_of_true (by omega) ⟨x,List.mem_of_getElem? hxi,he1⟩⟩⟩
  have he1:x=0:=by simpa using he
  conv=>whnf
  refine⟨((i+1:Nat):Int),by rw[wrap64]<;>omega,?_⟩
  conv=>whnf
  intro ρ3 w3 r3
  refine⟨(i+1,w3,_),⟨hib,hw.tr r3.bel,fun j y hj hy=>?_⟩,Sub.gen [] r3 trivial ⟨rfl,rfl,rfl,rfl,trivial⟩ (by simp[ScH]) (by simp[ScE,SV.sc,At.sc]) (by rfl) (fun lo hi h=>h),by dsimp only;omega⟩
  rcases Nat.lt_or_ge j i with h|h
  ·exact ht j y h hy
  obtain rfl:j=i:=by dsimp only at hj;omega
  rw[hxi]at hy
  injection hy with hy
  rw[←hy,he1]
 have hib:i=xs.length:=Nat.le_antisymm hi (by simpa using hib)
 conv=>whnf
 intro ρe we re
 exact⟨_,rfl,hw.tr re.bel,⟨_,rfl,by omega,by omega,iff_of_false (by omega) fun⟨x,hm,h0⟩=>by
   obtain⟨j,hj⟩:=List.getElem?_of_mem hm
   have hjl:j<xs.length:=(List.getElem?_eq_some_iff.1 hj).1
   exact h0 (ht j x (by omega) hj)⟩⟩
theorem containsNought_c{S:Nat→Prop}{w:World}{v:Value}{xs:List Rat}(hS:Old S w)(hx:RowR w S S v xs):
  Con PG N.slices_ContainsFunc_of_exact_row_exact_fraction_of #[v,fnV 151] w (Ret w fun v' _=>v'= .bool (decide (∃x∈xs,x≠0))):=by
 have hw:Bel w.heap.size w w:=Bel.refl
 have hx0:=hx
 obtain⟨ax,cx,rfl,hcx,-⟩:=hx0.shape
 refine in_slices_ContainsFunc_of_exact_row_exact_fraction_of (by simp) ?_
 conv=>whnf
 refine callE_S (callE_con (Φ:=fun _ w' v w2=>∃z:Int,v= .int .i64 z∧ -1≤z∧z≤9223372036854775807∧(0≤z↔∃x∈xs,x≠0)) (fun ρ w' r=>indexNought_c (fun g hg=>by have:=hS g hg;have:=r.baseLe;omega) (hx.keep fun g hg=>(hw.tr r.bel).block g (hS g (hg.elim id id)))) ?_)
 rintro ρ wa1 v1 wb1 r he hb ⟨z,rfl,hz1,hz2,hz⟩
 replace hw:=hw.tr hb
 clear r he hb
 generalize (wa1.heap.size,wb1.heap.size)::[]=iv1 at*
 conv=>whnf
 intro ρe we re
 exact⟨_,rfl,hw.tr re.bel,by rw[show decide (∃x∈xs,x≠0)=decide (z≥0)from Bool.eq_iff_iff.2 (by rw[decide_eq_true_eq,decide_eq_true_eq];exact hz.symm)];rfl⟩
theorem nought_c{S:Nat→Prop}{w:World}{v:Value}{xs:List Rat}(hS:Old S w)(hx:RowR w S S v xs):
  Con PG N.exact_row_nought #[v] w (Ret w fun v' _=>v'= .bool (decide (∀x∈xs,x=0))):=by
 have hw:Bel w.heap.size w w:=Bel.refl
 have hx0:=hx
 obtain⟨ax,cx,rfl,hcx,-⟩:=hx0.shape
 refine in_exact_row_nought (by simp) ?_
 conv=>whnf
 refine callE_S (callE_con (Φ:=fun _ w' v w2=>v= .bool (decide (∃x∈xs,x≠0))) (fun ρ w' r=>containsNought_c (fun g hg=>by have:=hS g hg;have:=r.baseLe;omega) (hx.keep fun g hg=>(hw.tr r.bel).block g (hS g (hg.elim id id)))) ?_)
 rintro ρ wa1 v1 wb1 r he hb rfl
 replace hw:=hw.tr hb
 clear r he hb
 generalize (wa1.heap.size,wb1.heap.size)::[]=iv1 at*
 conv=>whnf
 intro ρe we re
 exact⟨_,rfl,hw.tr re.bel,by rw[show decide (∀x∈xs,x=0)= !decide (∃x∈xs,x≠0)from Bool.eq_iff_iff.2 (by simp)];rfl⟩
/-- the sum of products so far -/
def dotTo(xs ys:List Rat):Nat→Rat
 |0=>0
 |i+1=>dotTo xs ys i+xs.getD i 0*ys.getD i 0
theorem rl_dotTo{xs ys:List Rat}{h:Nat}(hx:∀q∈xs,rl q+1≤h)(hy:∀q∈ys,rl q+1≤h)(h2:2≤h):∀i:Nat,rl (dotTo xs ys i)≤2*h*i+2
 |0=>by rw[dotTo];exact Nat.le_trans (by decide:rl 0≤2) (by omega)
 |i+1=>by
  have h3:=rl_dotTo hx hy h2 i
  have h4:=rl_add (dotTo xs ys i) (xs.getD i 0*ys.getD i 0)
  have h5:=rl_mul (xs.getD i 0) (ys.getD i 0)
  have h6:=rl_getD hx h2 i
  have h7:=rl_getD hy h2 i
  rw[dotTo,Nat.mul_add]
  omega
theorem dotTo_zero{xs ys:List Rat}{i:Nat}(h:xs.getD i 0=0∨ys.getD i 0=0):dotTo xs ys (i+1)=dotTo xs ys i:=by
 rw[dotTo]
 rcases h with h|h<;>rw[h]<;>simp only[Rat.zero_mul,Rat.mul_zero,Rat.add_zero]
theorem dot_c{S:Nat→Prop}{w:World}{v u:Value}{xs ys:List Rat}{h:Nat}(hS:Old S w)(hx:RowR w S S v xs)(hy:RowR w S S u ys)(hl:xs.length=ys.length)(hqx:∀q∈xs,rl q+1≤h)(hqy:∀q∈ys,rl q+1≤h)(h2:2≤h)(hb:2*h*xs.length≤2000000000):
  Con PG N.exact_row_dot #[v,u] w (Ret w fun v' w2=>FracR w2 (Nw (fun _=>False) w w2) v' (dotTo xs ys xs.length)):=by
 have hw:Bel w.heap.size w w:=Bel.refl
 obtain⟨ax,cx,rfl,hcx,hmx⟩:=hx.shape
 obtain⟨ay,cy,rfl,hcy,-⟩:=hy.shape
 unfold maxLen at hmx
 refine in_exact_row_dot (by simp) ?_
 conv=>whnf
 refine callE_S (callE_con (Φ:=fun _ w' v w2=>FracR w2 (Nw (fun _=>False) w' w2) v ((0:Int):Rat)) (fun ρ w' r=>whole_c 0 w' (by decide) (by decide)) ?_)
 rintro ρ wa1 v1 wb1 r he hb hn
 replace hw:=hw.tr hb
 have hd:=hn.got (S:=fun _=>False) r.baseLe (iv:=(wa1.heap.size,wb1.heap.size)::[]) List.mem_cons_self
 clear r he hb hn
 generalize (wa1.heap.size,wb1.heap.size)::[]=iv1 at*
 obtain⟨s1_0,s1_1,s1_2,s1_3,s1_4,s1_5,s1_6,s1_7,rfl⟩:=hd.shape
 conv=>whnf
 rw[show ((0:Int):Rat)=dotTo xs ys 0 from rfl]at hd
 refine⟨Nat×(Bool×Bool)×(Option Addr×Option Addr)×(Nat×Nat×Nat×Nat)×World×Iv,fun z=>⟨[(1,.o (.v (.slice ay ys.length cy))),(4,.o (.p 0 0)),(5,.o (.p 1 0)),(9,.o (.v (.slice ax xs.length cx))),(10,.o (.v (.int .i64 xs.length))),(11,.o (.v (.int .i64 ((z.1:Nat):Int))))],[(1,.box T.fraction [.v (.bool z.2.1.1),.v (.slice z.2.2.1.1 z.2.2.2.1.1 z.2.2.2.1.2.1),.v (.bool z.2.1.2),.v (.slice z.2.2.1.2 z.2.2.2.1.2.2.1 z.2.2.2.1.2.2.2)]),(0,.box T.fraction [.v (.bool false),.v (.slice none 0 0),.v (.bool false),.v (.slice none 0 0)])],2,z.2.2.2.2.2,z.2.2.2.2.1⟩,fun z=>xs.length-z.1,
  fun z=>z.1≤xs.length∧Bel w.heap.size w z.2.2.2.2.1∧FracR z.2.2.2.2.1 (Cv (fun _=>False) w.heap.size z.2.2.2.2.2) (.agg #[.bool z.2.1.1,.slice z.2.2.1.1 z.2.2.2.1.1 z.2.2.2.1.2.1,.bool z.2.1.2,.slice z.2.2.1.2 z.2.2.2.1.2.2.1 z.2.2.2.1.2.2.2]) (dotTo xs ys z.1),?_,?_⟩
 ·intro ρ w' r
  exact⟨(0,(s1_0,s1_4),(s1_1,s1_5),(s1_2,s1_3,s1_6,s1_7),w',iv1),⟨by simp,hw.tr r.bel,hd.rel r (oldF w)⟩,Sub.gen [] r ⟨rfl,rfl,trivial⟩ ⟨rfl,rfl,rfl,rfl,rfl,rfl,trivial⟩ (by simp[ScH,Blk.scopd,At.sc]) (by simp[ScE,SV.sc,At.sc]) (by rfl) (fun lo hi h=>h)⟩
 clear hw hd
 rintro⟨i,⟨p0,p4⟩,⟨p1,p5⟩,⟨p2,p3,p6,p7⟩,w1,iv⟩ ⟨hi,hw,hd⟩
 dsimp only at hi hw hd ⊢
 conv=>whnf
 refine BrS.mk (fun hib=>?_) (fun hib=>?_)
 ·have hib:i<xs.length:=by simpa using hib
  have hs:=rl_dotTo hqx hqy h2 i
  have hs2:2*h*i≤2*h*xs.length:=Nat.mul_le_mul_left _ hi
  have hs3:2*h*1≤2*h*xs.length:=Nat.mul_le_mul_left _ (by omega)
  obtain⟨x,hxi⟩:∃x,xs[i]? =some x:=⟨_,List.getElem?_eq_getElem hib⟩
  obtain⟨y,hyi⟩:∃x,ys[i]? =some x:=⟨_,List.getElem?_eq_getElem (by omega)⟩
  have hx3:=hqx x (List.mem_of_getElem? hxi)
  have hy3:=hqy y (List.mem_of_getElem? hyi)
  have hx2:xs.getD i 0=x:=by rw[List.getD,hxi];rfl
  have hy2:ys.getD i 0=y:=by rw[List.getD,hyi];rfl
  obtain⟨adx,csx,hax,hFx,hlx⟩:=hx.load hxi
  obtain⟨ady,csy,hay,hFy,hly⟩:=hy.load hyi
  obtain⟨f0,f1,f2,f3,f4,f5,f6,f7,rfl,hFx⟩:=hFx
  obtain⟨q0,q1,q2,q3,q4,q5,q6,q7,rfl,hFy⟩:=hFy
  conv=>whnf
  refine⟨adx,hax,⟨by omega,by omega⟩,?_⟩
  conv=>whnf
  refine⟨[.bool f0,.slice f1 f2 f3,.bool f4,.slice f5 f6 f7],rfl,fun ρ w' r j u hu=>?_,?_⟩
  ·obtain⟨k1,k2⟩:=hlx j u hu
   rw[Int.toNat_natCast,cell_of_heap (w:=w) (w2:=w') (by rw[addB,addB];exact(hw.tr r.bel).block _ (hS _ k1))]
   exact k2
  conv=>whnf
  refine callE_S (callE_con (Φ:=fun _ w' v w2=>v= .int .i64 (rs x)) (fun ρ w' r=>fsign_c (fun g hg=>by have:=hS g hg;have:=r.baseLe;omega) (hFx.keep fun g hg=>(hw.tr r.bel).block g (hS g hg))) ?_)
  rintro ρ wa2 v2 wb2 r he hb rfl
  replace hw:=hw.tr hb
  replace hd:=hd.past (iv':=(wa2.heap.size,wb2.heap.size)::iv) r (oldF w) he fun x hx=>List.mem_cons_of_mem _ hx
  clear r he hb
  generalize (wa2.heap.size,wb2.heap.size)::iv=iv2 at*
  conv=>whnf
  refine BrS.mk (fun h1=>?_) (fun h1=>?_)
  ·have h1:x≠0:=by simpa [rs_zero]using h1
   conv=>whnf
   refine⟨ady,hay,⟨by omega,by omega⟩,?_⟩
   conv=>whnf
   refine⟨[.bool q0,.slice q1 q2 q3,.bool q4,.slice q5 q6 q7],rfl,fun ρ w' r j u hu=>?_,?_⟩
   ·obtain⟨k1,k2⟩:=hly j u hu
    rw[Int.toNat_natCast,cell_of_heap (w:=w) (w2:=w') (by rw[addB,addB];exact(hw.tr r.bel).block _ (hS _ k1))]
    exact k2
   conv=>whnf
   refine callE_S (callE_con (Φ:=fun _ w' v w2=>v= .int .i64 (rs y)) (fun ρ w' r=>fsign_c (fun g hg=>by have:=hS g hg;have:=r.baseLe;omega) (hFy.keep fun g hg=>(hw.tr r.bel).block g (hS g hg))) ?_)
   rintro ρ wa3 v3 wb3 r he hb rfl
   replace hw:=hw.tr hb
   replace hd:=hd.past (iv':=(wa3.heap.size,wb3.heap.size)::iv2) r (oldF w) he fun x hx=>List.mem_cons_of_mem _ hx
   clear r he hb
   generalize (wa3.heap.size,wb3.heap.size)::iv2=iv3 at*
   conv=>whnf
   refine BrS.mk (fun h3=>?_) (fun h3=>?_)
   ·conv=>whnf
    refine drawn_of_pi hτ hmix [.x 0,.x 1,.x 2,.x 3,.x 4,.x 5,.x 6,.x 7,.x 8] (by kernel_rfl) (by kernel_rfl) ?_
    conv=>whnf
    refine⟨ady,hay,⟨by omega,by omega⟩,?_⟩
    conv=>whnf
    refine⟨[.bool q0,.slice q1 q2 q3,.bool q4,.slice q5 q6 q7],rfl,fun ρ w' r j u hu=>?_,?_⟩
    ·obtain⟨k1,k2⟩:=hly j u hu
     rw[Int.toNat_natCast,cell_of_heap (w:=w) (w2:=w') (by rw[addB,addB];exact(hw.tr r.bel).block _ (hS _ k1))]
     exact k2
    conv=>whnf
    have hm:=rl_mul x y
    have hm2:=rl_add (dotTo xs ys i) (x*y)
    refine callE_con (Φ:=fun _ w' v w2=>FracR w2 (Nw (fun _=>False) w' w2) v (x*y)) (fun ρ w' r=>ftimes_c (fun g hg=>by have:=hS g hg;have:=r.baseLe;omega) (hFx.keep fun g hg=>(hw.tr r.bel).block g (hS g hg)) (hFy.keep fun g hg=>(hw.tr r.bel).block g (hS g hg)) (by omega) (by omega)) ?_
    rintro ρ wa4 v4 wb4 r he hb hn
    replace hw:=hw.tr hb
    replace hd:=hd.past (iv':=(wa4.heap.size,wb4.heap.size)::iv3) r (oldF w) he fun x hx=>List.mem_cons_of_mem _ hx
    have hp:=hn.got (S:=fun _=>False) r.baseLe (iv:=(wa4.heap.size,wb4.heap.size)::iv3) List.mem_cons_self
    clear r he hb hn
    generalize (wa4.heap.size,wb4.heap.size)::iv3=iv4 at*
    obtain⟨s4_0,s4_1,s4_2,s4_3,s4_4,s4_5,s4_6,s4_7,rfl⟩:=hp.shape
    conv=>whnf
    refine callE_con (Φ:=fun _ w' v w2=>FracR w2 (Nw (fun _=>False) w' w2) v (dotTo xs ys i+x*y)) (fun ρ w' r=>fplus_c (Rel.old r (oldF w)) (hd.rel r (oldF w)) (hp.rel r (oldF w)) (by omega) (by omega)) ?_
    rintro ρ wa5 v5 wb5 r he hb hn
    replace hw:=hw.tr hb
    clear hd
    clear hp
    have hd2:=hn.got (S:=fun _=>False) r.baseLe (iv:=(wa5.heap.size,wb5.heap.size)::iv4) List.mem_cons_self
    clear r he hb hn
    generalize (wa5.heap.size,wb5.heap.size)::iv4=iv5 at*
    obtain⟨s5_0,s5_1,s5_2,s5_3,s5_4,s5_5,s5_6,s5_7,rfl⟩:=hd2.shape
    conv=>whnf
    rw[show dotTo xs ys i+x*y=dotTo xs ys (i+1) by rw[dotTo,hx2,hy2]]at hd2
    have hd:=hd2
    refine⟨((i+1:Nat):Int),by rw[wrap64]<;>omega,?_⟩
    conv=>whnf
    intro ρ3 w3 r3
    exact⟨(i+1,(s5_0,s5_4),(s5_1,s5_5),(s5_2,s5_3,s5_6,s5_7),w3,_),⟨hib,hw.tr r3.bel,hd.rel r3 (oldF w)⟩,Sub.gen [] r3 ⟨rfl,rfl,trivial⟩ ⟨rfl,rfl,rfl,rfl,rfl,rfl,trivial⟩ (by simp[ScH,Blk.scopd,At.sc]) (by simp[ScE,SV.sc,At.sc]) (by rfl) (fun lo hi h=>h),by dsimp only;omega⟩
   have h3:y=0:=by simpa [rs_zero]using h3
   conv=>whnf
   refine⟨((i+1:Nat):Int),by rw[wrap64]<;>omega,?_⟩
   conv=>whnf
   intro ρ3 w3 r3
   exact⟨(i+1,(p0,p4),(p1,p5),(p2,p3,p6,p7),w3,_),⟨hib,hw.tr r3.bel,by rw[dotTo_zero (.inr (hy2.trans h3))];exact hd.rel r3 (oldF w)⟩,Sub.gen [] r3 ⟨rfl,rfl,trivial⟩ ⟨rfl,rfl,rfl,rfl,rfl,rfl,trivial⟩ (by simp[ScH,Blk.scopd,At.sc]) (by simp[ScE,SV.sc,At.sc]) (by rfl) (fun lo hi h=>h),by dsimp only;omega⟩
  have h1:x=0:=by simpa [rs_zero]using h1
  conv=>whnf
  refine⟨((i+1:Nat):Int),by rw[wrap64]<;>omega,?_⟩
  conv=>whnf
  intro ρ3 w3 r3
  exact⟨(i+1,(p0,p4),(p1,p5),(p2,p3,p6,p7),w3,_),⟨hib,hw.tr r3.bel,by rw[dotTo_zero (.inl (hx2.trans h1))];exact hd.rel r3 (oldF w)⟩,Sub.gen [] r3 ⟨rfl,rfl,trivial⟩ ⟨rfl,rfl,rfl,rfl,rfl,rfl,trivial⟩ (by simp[ScH,Blk.scopd,At.sc]) (by simp[ScE,SV.sc,At.sc]) (by rfl) (fun lo hi h=>h),by dsimp only;omega⟩
 have hib:i=xs.length:=Nat.le_antisymm hi (by simpa using hib)
 subst hib
 conv=>whnf
 intro ρe we re
 exact⟨_,rfl,hw.tr re.bel,hd.out re (oldF w)⟩
end Go.Ex

/- through of package exact: the sums of the rows' multiples. Printed by program. No condition but sizes. -/
namespace Go.Ex
open Go Go.Sx Go.Proofs

def colOf(M:List (List Rat))(k:Nat):List Rat:=M.map (·.getD k 0)
/-- the sums over the first i rows, column by column -/
def throughF(ys:List Rat)(M:List (List Rat))(n i:Nat):List Rat:=(List.range n).map fun k=>dotTo ys (colOf M k) i
theorem throughF_zero(ys:List Rat)(M:List (List Rat))(n:Nat):throughF ys M n 0=List.replicate n 0:=by
 unfold throughF
 simp only[dotTo]
 rw[List.map_const',List.length_range]
theorem throughF_length(ys:List Rat)(M:List (List Rat))(n i:Nat):(throughF ys M n i).length=n:=by simp[throughF]
theorem throughF_succ{ys:List Rat}{M:List (List Rat)}{n i:Nat}{r:List Rat}(h:M[i]? =some r):(throughF ys M n i).mapIdx (addRow (ys.getD i 0) r)=throughF ys M n (i+1):=by
 refine List.ext_getElem? fun k=>?_
 unfold throughF
 rw[List.getElem?_mapIdx,List.getElem?_map,List.getElem?_map]
 rcases Nat.lt_or_ge k n with hk|hk
 ·rw[List.getElem?_range hk]
  simp only[Option.map_some,addRow,dotTo]
  rw[show (colOf M k).getD i 0=r.getD k 0 by rw[colOf,List.getD,List.getElem?_map,h];rfl]
 ·rw[List.getElem?_eq_none (by simpa using hk)];rfl
theorem rl_colOf{M:List (List Rat)}{h:Nat}(H:Ht M h)(h2:2≤h)(k:Nat):∀q∈colOf M k,rl q+1≤h:=fun q hq=>by
 obtain⟨r,hr,rfl⟩:=List.mem_map.1 hq
 exact rl_getD (H r hr) h2 k
theorem rl_throughF{ys:List Rat}{M:List (List Rat)}{h:Nat}(hy:∀q∈ys,rl q+1≤h)(H:Ht M h)(h2:2≤h)(n i:Nat):∀q∈throughF ys M n i,rl q≤2*h*i+2:=fun q hq=>by
 obtain⟨k,_,rfl⟩:=List.mem_map.1 hq
 exact rl_dotTo hy (rl_colOf H h2 k) h2 i
theorem through_c{S:Nat→Prop}{w:World}{v u:Value}{ys:List Rat}{M:List (List Rat)}{n h:Nat}(hS:Old S w)(hy:RowR w S S v ys)(hM:MatR w S u M)(hyl:ys.length=M.length)(hrow:∀r∈M,r.length=n)(hn:n≤1000000)
  (hqy:∀q∈ys,rl q+1≤h) (hqM:Ht M h) (h2:2≤h) (hb:2*h*M.length≤1000000000):
  Con PG N.exact_through #[v,u,.int .i64 n] w (Ret w fun v' w2=>RowR w2 (Nw S w w2) (Nw S w w2) v' (throughF ys M n M.length)):=by
 have hw:Bel w.heap.size w w:=Bel.refl
 obtain⟨ay,cy,rfl,hcy,-⟩:=hy.shape
 obtain⟨am,cm,rfl,hcm,hmm⟩:=SlicesR.shape hM
 unfold maxLen at hmm
 refine in_exact_through (by simp) ?_
 conv=>whnf
 refine callE_S (callE_con (Φ:=fun _ w' v w2=>RowX w2 (fun _=>False) w'.heap.size [(w'.heap.size,w2.heap.size)] v n (List.replicate n 0)) (fun ρ w' r=>zeros_c n w' hn) ?_)
 rintro ρ wa1 v1 wb1 r he hb hn1
 replace hw:=hw.tr hb
 have hX:=hn1.got (S:=S) (iv:=(wa1.heap.size,wb1.heap.size)::[]) r.baseLe List.mem_cons_self
 clear r he hb hn1
 generalize (wa1.heap.size,wb1.heap.size)::[]=iv1 at*
 obtain⟨ax,cx,rfl,-⟩:=hX.row.form
 rw[←throughF_zero ys M n]at hX
 conv=>whnf
 refine⟨Nat×World×Iv,fun z=>⟨[(0,.o (.v (.slice ay ys.length cy))),(7,.o (.v (.slice ax n cx))),(12,.o (.v (.slice am M.length cm))),(13,.o (.v (.int .i64 M.length))),(14,.o (.v (.int .i64 ((z.1:Nat):Int))))],[],0,z.2.2,z.2.1⟩,fun z=>M.length-z.1,
  fun z=>z.1≤M.length∧Bel w.heap.size w z.2.1∧RowX z.2.1 S w.heap.size z.2.2 (.slice ax n cx) n (throughF ys M n z.1),?_,?_⟩
 ·intro ρ w' r
  exact⟨(0,w',iv1),⟨by simp,hw.tr r.bel,hX.rel r hS⟩,Sub.gen [] r trivial ⟨rfl,rfl,rfl,rfl,rfl,trivial⟩ (by simp[ScH]) (by simp[ScE,SV.sc,At.sc]) (by rfl) (fun lo hi h=>h)⟩
 clear hw hX
 rintro⟨i,w1,iv⟩ ⟨hi,hw,hX⟩
 dsimp only at hi hw hX ⊢
 conv=>whnf
 refine BrS.mk (fun hib=>?_) (fun hib=>?_)
 ·have hib:i<M.length:=by simpa using hib
  have hs:=rl_throughF hqy hqM h2 n i
  have hs2:2*h*i≤2*h*M.length:=Nat.mul_le_mul_left _ hi
  have hs3:2*h*1≤2*h*M.length:=Nat.mul_le_mul_left _ (by omega)
  obtain⟨x,hxi⟩:∃x,M[i]? =some x:=⟨_,List.getElem?_eq_getElem hib⟩
  obtain⟨y,hyi⟩:∃x,ys[i]? =some x:=⟨_,List.getElem?_eq_getElem (by omega)⟩
  have hy2:ys.getD i 0=y:=by rw[List.getD,hyi];rfl
  have hxl:=hrow x (List.mem_of_getElem? hxi)
  obtain⟨adx,ux,rfl,hFx,hx1,hx2⟩:=SlicesR.load hM hxi
  obtain⟨aux,cux,rfl⟩:=SlicesR.rowOf hFx
  obtain⟨ady,csy,hay,hFy,hly⟩:=hy.load hyi
  obtain⟨q0,q1,q2,q3,q4,q5,q6,q7,rfl,hFy⟩:=hFy
  conv=>whnf
  refine⟨adx,rfl,⟨by omega,by omega⟩,?_⟩
  conv=>whnf
  refine⟨.slice aux x.length cux,fun ρ w' r=>?_,?_⟩
  ·rw[Int.toNat_natCast,cell_of_heap (w:=w) (w2:=w') (by rw[addB];exact(hw.tr r.bel).block _ (hS _ hx1))]
   exact hx2
  conv=>whnf
  refine⟨ady,hay,⟨by omega,by omega⟩,?_⟩
  conv=>whnf
  refine⟨[.bool q0,.slice q1 q2 q3,.bool q4,.slice q5 q6 q7],rfl,fun ρ w' r j u hu=>?_,?_⟩
  ·obtain⟨k1,k2⟩:=hly j u hu
   rw[Int.toNat_natCast,cell_of_heap (w:=w) (w2:=w') (by rw[addB,addB];exact(hw.tr r.bel).block _ (hS _ k1))]
   exact k2
  conv=>whnf
  have hnew:=hX.new
  have hnB:∀g,(Value.slice ax n cx).ownBlock=some g→w.heap.size≤g:=fun g hg=>by
   rcases hnew g hg with h4|⟨h4,_⟩
   ·exact h4.elim
   ·exact h4
  have hSn:∀g,S g→Cv S w.heap.size iv g∧(Value.slice ax n cx).ownBlock≠some g:=fun g hg=>⟨.inl hg,fun e=>by have:=hnB g e;have:=hS g hg;omega⟩
  refine⟨fun ρ w' r=>?_⟩
  have hkS:∀g,S g→w'.heap[g]? =w.heap[g]? :=fun g hg=>(hw.tr r.bel).block g (hS g hg)
  obtain⟨css,hr1,hr2,hr3⟩:=(hX.rel r hS).row
  refine(add_c (C:=S) (fun g hg=>by have:=hS g hg;have:=r.baseLe;omega) (fun g hg=>Rel.old r hS g hg.1) hr1 hr3 hr2 ((hFy.keep hkS).weak hSn) ((hFx.keep fun g hg=>hkS g (hg.elim id id)).weak (fun _ h=>h) hSn) hxl (fun g hg h=>h.2 hg) (fun g hg h=>(hSn g h).2 hg)
   (fun q hq=>by have:=hs q hq;omega) (fun q hq=>by have:=hqM x (List.mem_of_getElem? hxi) q hq;omega) (by have:=hqy y (List.mem_of_getElem? hyi);omega)).mono fun e w4 he=>?_
  obtain⟨rfl,hgr,css',hr4,hr5,hr6⟩:=he
  have hP2:RowW w4 (Nw (fun g=>Cv S w.heap.size iv g∧(Value.slice ax n cx).ownBlock≠some g) w' w4) (.slice ax n cx) n ((throughF ys M n i).mapIdx (addRow y x)):=⟨css',hr4,hr5,hr6⟩
  rw[←hy2,throughF_succ hxi]at hP2
  refine⟨.tuple #[],_,(w'.heap.size,w4.heap.size)::iv,rfl,r.rowedNew (fun g hg=>Rel.not r hS (hnew g hg |>.elim (fun h=>h.elim) .inr)) hgr,?_⟩
  have hX3:RowX w4 S w.heap.size ((w'.heap.size,w4.heap.size)::iv) (.slice ax n cx) n (throughF ys M n (i+1)):=
   ⟨hP2.weak fun g hg=>by
    rcases hg with hg|hg
    ·exact⟨hg.1.cons,hg.2⟩
    ·refine⟨.inr ⟨by have:=r.baseLe;omega,_,_,List.mem_cons_self,hg.1,hg.2⟩,fun e=>?_⟩
     have:=Rel.old r (oldF w) g (hnew g e)
     omega,fun g hg=>(hnew g hg).cons⟩
  have hw4:Bel w.heap.size w w4:=(hw.tr r.bel).tr (Bel.grown hgr hnB r.baseLe)
  clear hX hr1 hr3 hr4 hr6 hgr hP2 r hw hnew hnB hSn hkS
  generalize (w'.heap.size,w4.heap.size)::iv=iv2 at*
  conv=>whnf
  refine⟨((i+1:Nat):Int),by rw[wrap64]<;>omega,?_⟩
  conv=>whnf
  intro ρ3 w3 r3
  exact⟨(i+1,w3,_),⟨hib,hw4.tr r3.bel,hX3.rel r3 hS⟩,Sub.gen [] r3 trivial ⟨rfl,rfl,rfl,rfl,rfl,trivial⟩ (by simp[ScH]) (by simp[ScE,SV.sc,At.sc]) (by rfl) (fun lo hi h=>h),by dsimp only;omega⟩
 have hib:i=M.length:=Nat.le_antisymm hi (by simpa using hib)
 subst hib
 conv=>whnf
 intro ρe we re
 refine⟨_,rfl,hw.tr re.bel,?_⟩
 exact(hX.rel re hS).read.weak (fun g hg=>Cv.nw hg re) fun g hg=>Cv.nw hg re
end Go.Ex

/- Package exact: a matrix with rows of any lengths, and CheckSolution. Printed by program. No condition but sizes. -/
namespace Go.Ex
open Go Go.Sx Go.Proofs

def RowG(w:World)(S:Nat→Prop)(v:Value)(qs:List Rat):Prop:=RowR w S S v qs
def MatG(w:World)(S:Nat→Prop)(v:Value)(M:List (List Rat)):Prop:=MatR w S v M
theorem RowG.keep{S:Nat→Prop}{w w2:World}{v:Value}{qs:List Rat}(h:RowG w S v qs)(hk:∀g,S g→w2.heap[g]? =w.heap[g]?):RowG w2 S v qs:=RowR.keep h fun g hg=>hk g (hg.elim id id)
theorem RowG.weak{S S':Nat→Prop}{w:World}{v:Value}{qs:List Rat}(h:RowG w S v qs)(hk:∀g,S g→S' g):RowG w S' v qs:=RowR.weak h hk hk
theorem RowG.shape{S:Nat→Prop}{w:World}{v:Value}{qs:List Rat}(h:RowG w S v qs):∃a c,v= .slice a qs.length c:=by
 obtain⟨a,c,h,_⟩:=RowR.shape h
 exact⟨a,c,h⟩
theorem MatG.keep{S:Nat→Prop}{w w2:World}{v:Value}{M:List (List Rat)}(h:MatG w S v M)(hk:∀g,S g→w2.heap[g]? =w.heap[g]?):MatG w2 S v M:=MatR.keep h hk
theorem MatG.weak{S S':Nat→Prop}{w:World}{v:Value}{M:List (List Rat)}(h:MatG w S v M)(hk:∀g,S g→S' g):MatG w S' v M:=MatR.weak h hk
theorem MatG.shape{S:Nat→Prop}{w:World}{v:Value}{M:List (List Rat)}(h:MatG w S v M):∃a c,v= .slice a M.length c:=by
 obtain⟨a,c,h,_⟩:=SlicesR.shape (show MatR w S v M from h)
 exact⟨a,c,h⟩
/-- rows written so far -/
def RowsG(w:World)(S:Nat→Prop)(rv:List Value)(K:List (List Rat)):Prop:=∀(i:Nat) u r,rv[i]? =some u→K[i]? =some r→RowG w S u r
theorem RowsG.keep{S:Nat→Prop}{w w2:World}{v:List Value}{M:List (List Rat)}(h:RowsG w S v M)(hk:∀g,S g→w2.heap[g]? =w.heap[g]?):RowsG w2 S v M:=fun i u x h1 h2=>(h i u x h1 h2).keep hk
theorem RowsG.weak{S S':Nat→Prop}{w:World}{v:List Value}{M:List (List Rat)}(h:RowsG w S v M)(hk:∀g,S g→S' g):RowsG w S' v M:=fun i u x h1 h2=>(h i u x h1 h2).weak hk
section
variable{S S':Nat→Prop}{H:Hp}{nx:Nat}{iv iv':Iv}{B:Nat}{w w' w2:World}{ρ:Nat→Sx.Val}{v:Value}{qs:List Rat}
theorem RowG.rel(h:RowG w (Cv S B iv) v qs)(r:Rel H nx iv B w ρ w')(hS:∀g,S g→g<B):RowG w' (Cv S B iv) v qs:=h.keep fun _ hg=>Rel.same r hS hg
theorem RowG.past(h:RowG w (Cv S B iv) v qs)(r:Rel H nx iv B w ρ w')(hS:∀g,S g→g<B)(he:Ext w' w2)(hm:∀p,p∈iv→p∈iv'):RowG w2 (Cv S B iv') v qs:=
 ((h.rel r hS).keep fun g hg=>he.block g (Rel.old r hS g hg)).weak fun _ hg=>hg.mono hm
theorem RowG.old(h:RowG w2 (Nw (Cv S B iv) w' w2) v qs)(hB:B≤w'.heap.size):RowG w2 (Cv S B ((w'.heap.size,w2.heap.size)::iv)) v qs:=h.weak fun _ hg=>Nw.cv hg hB
end
section
variable{S S':Nat→Prop}{H:Hp}{nx:Nat}{iv iv':Iv}{B:Nat}{w w' w2:World}{ρ:Nat→Sx.Val}{v:Value}{M:List (List Rat)}
theorem MatG.rel(h:MatG w (Cv S B iv) v M)(r:Rel H nx iv B w ρ w')(hS:∀g,S g→g<B):MatG w' (Cv S B iv) v M:=h.keep fun _ hg=>Rel.same r hS hg
theorem MatG.past(h:MatG w (Cv S B iv) v M)(r:Rel H nx iv B w ρ w')(hS:∀g,S g→g<B)(he:Ext w' w2)(hm:∀p,p∈iv→p∈iv'):MatG w2 (Cv S B iv') v M:=
 ((h.rel r hS).keep fun g hg=>he.block g (Rel.old r hS g hg)).weak fun _ hg=>hg.mono hm
theorem MatG.got(h:MatG w2 (Nw (fun _=>False) w' w2) v M)(hB:B≤w'.heap.size)(hm:(w'.heap.size,w2.heap.size)∈iv):MatG w2 (Cv S B iv) v M:=h.weak fun _ hg=>hg.got hB hm
end
section
variable{S S':Nat→Prop}{H:Hp}{nx:Nat}{iv iv':Iv}{B:Nat}{w w' w2:World}{ρ:Nat→Sx.Val}{v:List Value}{M:List (List Rat)}
theorem RowsG.rel(h:RowsG w (Cv S B iv) v M)(r:Rel H nx iv B w ρ w')(hS:∀g,S g→g<B):RowsG w' (Cv S B iv) v M:=h.keep fun _ hg=>Rel.same r hS hg
theorem RowsG.past(h:RowsG w (Cv S B iv) v M)(r:Rel H nx iv B w ρ w')(hS:∀g,S g→g<B)(he:Ext w' w2)(hm:∀p,p∈iv→p∈iv'):RowsG w2 (Cv S B iv') v M:=
 ((h.rel r hS).keep fun g hg=>he.block g (Rel.old r hS g hg)).weak fun _ hg=>hg.mono hm
end
theorem matrixG_c{S:Nat→Prop}{w:World}{v:Value}{M:List (List (Int×Int))}(hS:Old S w)(h:RatMR w S v M)(hf:∀r∈M,Few r)(hn:∀r∈M,r.length≤1000000)(hR:M.length≤1000000):
  Con PG N.exact_matrix #[v] w (Ret w fun v' w2=>MatG w2 (Nw (fun _=>False) w w2) v' (valsM M)):=by
 replace h:=RatMR.arg h []
 obtain⟨a,c,rfl,hc,-⟩:=SlicesR.shape h
 refine in_exact_matrix (by simp) ?_
 conv=>whnf
 refine⟨M.length,M.length,rfl,rfl,Nat.le_refl _,by omega,by omega,?_⟩
 conv=>whnf
 refine⟨List Value×Iv×World,fun z=>⟨[(3,.o (.s 0 0 M.length M.length)),(9,.o (.v (.slice a M.length c))),(10,.o (.v (.int .i64 M.length))),(11,.o (.v (.int .i64 z.1.length)))],[(0,.arr T.row (z.1++List.replicate (M.length-z.1.length) (.slice none 0 0)))],1,z.2.1,z.2.2⟩,fun z=>M.length-z.1.length,
  fun z=>z.1.length≤M.length∧Bel w.heap.size w z.2.2∧RatMR z.2.2 (Cv S w.heap.size z.2.1) (.slice a M.length c) M∧RowsG z.2.2 (Cv (fun _=>False) w.heap.size z.2.1) z.1 (valsM M)∧∀u∈z.1,u.oneCell'=true,?_,?_⟩
 ·intro ρ w' r
  exact⟨([],[],w'),⟨by simp,r.bel,RatMR.rel h r hS,fun i u r h=>by simp at h,by simp⟩,Sub.gen [] r ⟨rfl,trivial⟩ ⟨rfl,rfl,rfl,rfl,trivial⟩ (by simp[ScH,Blk.scopd]) (by simp[ScE,SV.sc,At.sc]) (by rfl) (by simp)⟩
 clear h
 rintro⟨rv,iv,w1⟩ ⟨hi,hw,hX,hF,h1c⟩
 dsimp only at hi hw hX hF h1c ⊢
 conv=>whnf
 refine BrS.mk (fun h=>?_) (fun h=>?_)
 ·have h:rv.length<M.length:=by simpa using h
  obtain⟨x,hx⟩:∃x,M[rv.length]? =some x:=⟨_,List.getElem?_eq_getElem h⟩
  obtain⟨ad,u,rfl,hR1,hl1,hl2⟩:=SlicesR.load hX hx
  obtain⟨a2,c2,rfl⟩:=SlicesR.rowShape hR1
  have hxl:=hn x (List.mem_of_getElem? hx)
  conv=>whnf
  refine⟨ad,rfl,⟨by omega,by omega⟩,?_⟩
  conv=>whnf
  refine⟨.slice a2 x.length c2,fun ρ w' r=>?_,?_⟩
  ·have:=Rel.same r hS hl1
   rw[Int.toNat_natCast,cell_of_heap (w:=w1) (w2:=w') (by rw[addB];exact this)]
   exact hl2
  conv=>whnf
  refine callE_S (callE_con (Φ:=fun _ w' v w2=>RowX w2 (fun _=>False) w'.heap.size [(w'.heap.size,w2.heap.size)] v x.length (x.map ratioP)) (fun ρ w' r=>values_c (Rel.old r hS) (RatsR.rel hR1 r hS) (hf x (List.mem_of_getElem? hx)) hxl) ?_)
  rintro ρ wa v1 wb r he hb hO
  have hON:RowG wb (Cv (fun _=>False) w.heap.size ((wa.heap.size,wb.heap.size)::iv)) v1 (x.map ratioP):=(RowX.got (S:=fun _=>False) hO r.baseLe List.mem_cons_self).read
  replace hX:=RatMR.past (iv':=(wa.heap.size,wb.heap.size)::iv) hX r hS he fun x hx=>List.mem_cons_of_mem _ hx
  replace hF:=hF.past (iv':=(wa.heap.size,wb.heap.size)::iv) r (oldF w) he fun x hx=>List.mem_cons_of_mem _ hx
  replace hw:=hw.tr hb
  clear r he hb hO hR1 hl1 hl2
  generalize (wa.heap.size,wb.heap.size)::iv=iv2 at*
  obtain⟨a3,c3,rfl⟩:=hON.shape
  rw[List.length_map]at hON ⊢
  conv=>whnf
  refine⟨⟨by omega,by omega⟩,?_⟩
  conv=>whnf
  refine⟨by simp;omega,(rv++[.slice a3 x.length c3])++List.replicate (M.length-(rv.length+1)) (.slice none 0 0),?_,?_⟩
  ·have h5:M.length-rv.length=(M.length-(rv.length+1))+1:=by omega
   simp[h5,List.replicate_succ]
  conv=>whnf
  refine⟨((rv.length+1:Nat):Int),by rw[wrap64]<;>omega,?_⟩
  conv=>whnf
  intro ρ3 w3 r3
  have hl3:(rv++[Value.slice a3 x.length c3]).length=rv.length+1:=by simp
  refine⟨(rv++[.slice a3 x.length c3],iv2,w3),⟨by dsimp only;rw[hl3];exact h,hw.tr r3.bel,RatMR.rel hX r3 hS,?_,?_⟩,Sub.gen [] r3 ⟨by dsimp only;rw[hl3];rfl,trivial⟩ ⟨rfl,rfl,rfl,by dsimp only;rw[hl3];rfl,trivial⟩ (by simp[ScH,Blk.scopd]) (by simp[ScE,SV.sc,At.sc]) (by rfl) (fun lo hi h=>h),by dsimp only;rw[hl3];omega⟩
  ·intro i u y h1 h2
   refine RowG.rel ?_ r3 (oldF w)
   rcases Nat.lt_or_ge i rv.length with hi2|hi2
   ·rw[List.getElem?_append_left hi2]at h1
    exact hF i u y h1 h2
   ·have hi0:i=rv.length:=by have:=(List.getElem?_eq_some_iff.1 h1).1;simp at this;omega
    subst hi0
    rw[List.getElem?_append_right (Nat.le_refl _),Nat.sub_self]at h1
    simp only[valsM,List.getElem?_map,hx]at h2
    simp at h1 h2
    subst h1 h2
    exact hON
  ·intro u hu
   rcases List.mem_append.1 hu with hu|hu
   ·exact h1c u hu
   ·simp at hu;subst hu;rfl
 ·have h:rv.length=M.length:=by
   have:¬rv.length<M.length:=by simpa using h
   omega
  rw[h,Nat.sub_self,List.replicate_zero,List.append_nil]
  conv=>whnf
  intro ρe we re
  refine⟨_,rfl,hw.tr re.bel,?_⟩
  have hnil:=re.nn 0 _ rfl (by intros;simp) (by simp)
  have hlow:=re.low 0 _ rfl hnil
  have hs:=re.arrSeq (id:=0) (t:=T.row) (n:=M.length) (sz:=1) (cs:=rv) rfl (by omega) (by unfold maxLen;omega) h1c
  have hvl:(valsM M).length=M.length:=by simp[valsM]
  refine⟨rv,?_,by rw[hvl,h],fun i u x h1 h2=>((hF.rel re (oldF w)) i u x h1 h2).weak fun g hg=>Cv.nw hg re⟩
  rw[hvl]
  exact hs.weak fun g hg=>.inr (by subst hg;exact hlow)
theorem run_eql_nilslice(w:World)(t e:TypeId)(a:Option Addr)(n c n' c':Nat)(h:PG.underlying t=some (.slice e)):
  (binOp .eql t (.slice a n c) (.slice none n' c')).run PG w= .ok (.bool a.isNone) w:=by
 have:∀d,(Op.equalIn (d+1) t (.slice a n c) (.slice none n' c')).run PG w= .ok a.isNone w:=fun d=>by cases a<;>simp[Op.equalIn,run_underlying h]
 simp only[binOp]
 cases a<;>simp[Op.equal,Op.maxDepth,this 9999]
end Go.Ex

/- Package exact: CheckSolution. Printed by program. No condition but sizes. -/
namespace Go.Ex
open Go Go.Sx Go.Proofs

theorem few_rl{xs:List (Int×Int)}(h:Few xs):∀q∈xs.map ratioP,rl q≤10000000000:=fun q hq=>by
 obtain⟨x,hx,rfl⟩:=List.mem_map.1 hq
 have h1:=rl_ratio x.1 x.2
 have h2:=h x hx
 unfold ratioP
 omega
/-- a solution, by its values, is the one that is asked for, or a contradiction -/
def RightE(M:List (List Rat))(b:List Rat)(n:Nat)(z:Int)(X:List Rat)(K:List (List Rat))(P:List Rat):Prop:=
 (z=0∧P=[]∧(∀k,(reduceF (allF M b) n).2.length≤k→k<M.length→at2 (reduceF (allF M b) n).1 k n=0)∧
  X=xvecTo (reduceF (allF M b) n).1 (reduceF (allF M b) n).2 n (reduceF (allF M b) n).2.length∧K=kernelTo (reduceF (allF M b) n).1 (reduceF (allF M b) n).2 n n)∨
 (z=1∧X=[]∧K=[]∧P.length=M.length∧(∀q∈throughF P M n M.length,q=0)∧dotTo P b P.length=1)
/-- what solve hands back -/
def SolR(M:List (List Rat))(b:List Rat)(n:Nat)(w:World)(S:Nat→Prop)(v:Value):Prop:=
 (∃j vp,(reduceF (allF M b) n).2.length≤j∧j<M.length∧at2 (reduceF (allF M b) n).1 j n≠0∧v= .agg #[vp,.slice none 0 0,.slice none 0 0]∧∃a n c,vp= .slice (some a) n c)∨
 (∃vx vk,(∀k,(reduceF (allF M b) n).2.length≤k→k<M.length→at2 (reduceF (allF M b) n).1 k n=0)∧v= .agg #[.slice none 0 0,vx,vk]∧
  RowG w S vx (xvecTo (reduceF (allF M b) n).1 (reduceF (allF M b) n).2 n (reduceF (allF M b) n).2.length)∧MatG w S vk (kernelTo (reduceF (allF M b) n).1 (reduceF (allF M b) n).2 n n))
theorem SolR.weak{M:List (List Rat)}{b:List Rat}{n:Nat}{w:World}{S S':Nat→Prop}{v:Value}(h:SolR M b n w S v)(hk:∀g,S g→S' g):SolR M b n w S' v:=
 h.imp id fun⟨vx,vk,h1,h2,h3,h4⟩=>⟨vx,vk,h1,h2,h3.weak hk,h4.weak hk⟩
theorem errS_zero{M:List (List (Int×Int))}{b:List (Int×Int)}(h:errS M b=0):errM M=0∧b.length=M.length:=by
 unfold errS at h
 split at h
 ·rename_i h3;exact absurd h h3
 ·split at h
  ·cases h
  ·rename_i h3 h4;exact⟨by omega,by omega⟩
set_option maxRecDepth 4000 in
set_option maxHeartbeats 1000000 in
theorem checkSolution_c{S:Nat→Prop}{w:World}{v u vx vk vp:Value}{z:Int}{M K:List (List (Int×Int))}{b X P:List (Int×Int)}{h0' h1:Nat}(hS:Old S w)(h:RatMR w S v M)(hu:RatsR w S u b)(hx:RatsR w S vx X)(hk:RatMR w S vk K)(hp:RatsR w S vp P)
  (hf:errS M b=0→(∀r∈M,Few r)∧Few b∧Ht (allF (valsM M) (b.map ratioP)) h0'∧2≤h0'∧4^M.length*h0'≤500000000)
  (hf3:errS M b=0→Few X∧X.length≤1000000∧(∀r∈K,Few r)∧(∀r∈K,r.length≤1000000)∧K.length≤1000000∧
   (P.length=M.length→Few P∧(∀q∈P.map ratioP,rl q+1≤h1)∧Ht (valsM M) h1∧(∀q∈b.map ratioP,rl q+1≤h1)∧2≤h1∧2*h1*M.length≤1000000000)):
  Con PG N.exact_CheckSolution #[v,u,.agg #[.int .i64 z,vx,vk,vp]] w (Ret w fun v' _=>∃e:Nat,v'= .int .i64 e∧
   (errS M b=0→(RightE (valsM M) (b.map ratioP) (colsM M) z (X.map ratioP) (valsM K) (P.map ratioP)→e=0)∧(¬RightE (valsM M) (b.map ratioP) (colsM M) z (X.map ratioP) (valsM K) (P.map ratioP)→e=25))∧(errS M b≠0→e=errS M b)):=by
 replace h:=RatMR.arg h []
 replace hu:=RatsR.arg hu []
 replace hx:=RatsR.arg hx []
 replace hk:=RatMR.arg hk []
 replace hp:=RatsR.arg hp []
 have hw:Bel w.heap.size w w:=Bel.refl
 obtain⟨am,cm,rfl,hcm,-⟩:=SlicesR.shape h
 obtain⟨ab,cb,rfl,hcb,-⟩:=ListR.shape hu
 obtain⟨ax,cx,rfl,hcx,hmx⟩:=ListR.shape hx
 obtain⟨ak,ck,rfl,hck,hmk⟩:=SlicesR.shape hk
 obtain⟨ap,cp,rfl,hcp,hmp⟩:=ListR.shape hp
 refine in_exact_CheckSolution (by simp) ?_
 conv=>whnf
 refine callE_S (callE_con (Φ:=fun _ w' v w2=>v= .int .i64 ((errS M b:Nat):Int)) (fun ρ w' r=>checkSystem_c (Rel.old r hS) (RatMR.rel h r hS) (RatsR.rel hu r hS)) ?_)
 rintro ρ wa1 v1 wb1 r he hb rfl
 replace hw:=hw.tr hb
 replace h:=RatMR.past (iv':=(wa1.heap.size,wb1.heap.size)::[]) h r hS he fun x hx=>List.mem_cons_of_mem _ hx
 replace hu:=RatsR.past (iv':=(wa1.heap.size,wb1.heap.size)::[]) hu r hS he fun x hx=>List.mem_cons_of_mem _ hx
 replace hx:=RatsR.past (iv':=(wa1.heap.size,wb1.heap.size)::[]) hx r hS he fun x hx=>List.mem_cons_of_mem _ hx
 replace hk:=RatMR.past (iv':=(wa1.heap.size,wb1.heap.size)::[]) hk r hS he fun x hx=>List.mem_cons_of_mem _ hx
 replace hp:=RatsR.past (iv':=(wa1.heap.size,wb1.heap.size)::[]) hp r hS he fun x hx=>List.mem_cons_of_mem _ hx
 clear r he hb
 generalize (wa1.heap.size,wb1.heap.size)::[]=iv1 at*
 conv=>whnf
 refine BrS.mk (fun h0=>?_) (fun h0=>?_)
 ·have h0:errS M b≠0:=fun e=>by rw[e]at h0;simp at h0
  conv=>whnf
  intro ρe we re
  exact⟨_,rfl,hw.tr re.bel,_,rfl,fun h=>absurd h h0,fun _=>rfl⟩
 have h0:errS M b=0:=by
  have h4:((errS M b:Int)==0)=true:=by simpa using h0
  have:=eq_of_beq h4
  omega
 obtain⟨hf1,hf2,hht,h2,hbd⟩:=hf h0
 obtain⟨hE,hbl⟩:=errS_zero h0
 obtain⟨hrow,hRl,hcl⟩:=errM_zero hE
 have hvl:(valsM M).length=M.length:=by simp[valsM]
 conv=>whnf
 refine BrS.mk (fun hz=>?_) (fun hz=>?_)
 ·have hz:z=0:=by simpa using hz
  subst hz
  conv=>whnf
  refine callE_S (callE_con (Φ:=fun _ w' v w2=>SolR (valsM M) (b.map ratioP) (colsM M) w2 (Nw (fun _=>False) w' w2) v) (fun ρ w' r=>(solve_c (Rel.old r hS) (RatMR.rel h r hS) (RatsR.rel hu r hS) hf1 hf2 hrow hbl (by omega) (by omega) hht h2 hbd).mono fun e w3 he=>by
     obtain⟨v',e1,e2,A,pv,hA,hc⟩:=he
     refine⟨v',e1,e2,?_⟩
     unfold SolR
     rw[←hA,hvl]
     exact hc.imp (fun ⟨j,vp,a1,a2,a3,_,a5,a6,_⟩=>⟨j,vp,a1,a2,a3,a5,a6⟩) id) ?_)
  rintro ρ wa2 v2 wb2 r he hb hn
  replace hw:=hw.tr hb
  replace h:=RatMR.past (iv':=(wa2.heap.size,wb2.heap.size)::iv1) h r hS he fun x hx=>List.mem_cons_of_mem _ hx
  replace hu:=RatsR.past (iv':=(wa2.heap.size,wb2.heap.size)::iv1) hu r hS he fun x hx=>List.mem_cons_of_mem _ hx
  replace hx:=RatsR.past (iv':=(wa2.heap.size,wb2.heap.size)::iv1) hx r hS he fun x hx=>List.mem_cons_of_mem _ hx
  replace hk:=RatMR.past (iv':=(wa2.heap.size,wb2.heap.size)::iv1) hk r hS he fun x hx=>List.mem_cons_of_mem _ hx
  replace hp:=RatsR.past (iv':=(wa2.heap.size,wb2.heap.size)::iv1) hp r hS he fun x hx=>List.mem_cons_of_mem _ hx
  have hcase:=SolR.weak hn (S':=Cv (fun _=>False) w.heap.size ((wa2.heap.size,wb2.heap.size)::iv1)) fun g hg=>hg.got r.baseLe List.mem_cons_self
  clear r he hb hn
  generalize (wa2.heap.size,wb2.heap.size)::iv1=iv2 at*
  unfold SolR at hcase
  obtain⟨⟨A,pv⟩,hA⟩:∃X,X=reduceF (allF (valsM M) (b.map ratioP)) (colsM M):=⟨_,rfl⟩
  have hinv:=reduceF_inv (cols:=colsM M) hht h2
  rw[←hA]at hinv hcase
  obtain⟨hAl,hpl,hpc,hAh⟩:=hinv
  dsimp only at hAl hpl hpc hAh hcase
  rw[allF_length,List.length_map]at hAl hpl
  rw[hvl]at hcase
  have hAht:Ht A 500000000:=hAh.mono (Nat.le_trans (Nat.mul_le_mul_right _ (Nat.pow_le_pow_right (by decide) hpl)) hbd)
  rcases hcase with⟨j,vq,hj1,hj2,hj3,rfl,⟨aq,nq,cq,rfl⟩⟩|⟨vy,vl,hz,rfl,hy,hl⟩
  ·have hbad:¬RightE (valsM M) (b.map ratioP) (colsM M) 0 (X.map ratioP) (valsM K) (P.map ratioP):=by
    rintro(⟨_,_,h5,_⟩|⟨h5,_⟩)
    ·rw[←hA]at h5
     exact hj3 (h5 j hj1 (by rw[hvl];exact hj2))
    ·exact absurd h5 (by decide)
   conv=>whnf
   refine drawn_of_pi hτ hmix [.x 0,.x 1,.x 2,.x 3,.x 4,.x 5,.x 6,.x 7,.x 8,.x 9,.x 10,.x 11,.x 12,.x 13,.x 14,.x 15,.x 16,.x 17,.x 18,.x 19,.x 20,.x 21,.x 22,.x 23,.x 24,.x 25] (by kernel_rfl) (by kernel_rfl) ?_
   conv=>whnf
   refine⟨false,fun ρ w1 o1 o2=>by simp[eqGuard,SV.den,At.den,run_eql_nilslice w1 T.row T.fraction (some aq) nq cq 0 0 und_row],?_⟩
   conv=>whnf
   intro ρe we re
   exact⟨_,rfl,hw.tr re.bel,25,rfl,fun _=>⟨fun h=>absurd h hbad,fun _=>rfl⟩,fun h=>absurd h0 h⟩
  obtain⟨ay,cy,rfl⟩:=hy.shape
  obtain⟨al,cl,rfl⟩:=hl.shape
  have hxh:=xvecTo_ht hAht (by decide) pv (colsM M) pv.length
  have hkh:=kernelTo_ht hAht (by decide) pv (colsM M) (colsM M)
  have hright:(P=[]∧X.map ratioP=xvecTo A pv (colsM M) pv.length∧valsM K=kernelTo A pv (colsM M) (colsM M))↔RightE (valsM M) (b.map ratioP) (colsM M) 0 (X.map ratioP) (valsM K) (P.map ratioP):=by
   unfold RightE
   rw[←hA,List.map_eq_nil_iff]
   constructor
   ·rintro⟨h5,h6,h7⟩
    exact .inl ⟨rfl,h5,fun k h8 h9=>hz k h8 (by rw[hvl]at h9;exact h9),h6,h7⟩
   ·rintro(⟨_,h5,_,h6,h7⟩|⟨h5,_⟩)
    ·exact⟨h5,h6,h7⟩
    ·exact absurd h5 (by decide)
  conv=>whnf
  refine drawn_of_pi hτ hmix [.x 0,.x 1,.x 2,.x 3,.x 4,.x 5,.x 6,.x 7,.x 8,.x 9,.x 10,.x 11,.x 12,.x 13,.x 14,.x 15,.x 16,.x 17,.x 18,.x 19,.x 20,.x 21,.x 22,.x 23,.x 24,.x 25] (by kernel_rfl) (by kernel_rfl) ?_
  conv=>whnf
  refine⟨true,fun ρ w1 o1 o2=>by simp[eqGuard,SV.den,At.den,run_eql_nilslice w1 T.row T.fraction none 0 0 0 0 und_row],?_⟩
  conv=>whnf
  refine BrS.mk (fun hp0=>?_) (fun hp0=>?_)
  ·have hp0:P=[]:=List.eq_nil_of_length_eq_zero (by have:(P.length:Int)=0:=(by simpa using hp0);omega)
   conv=>whnf
   refine callE_con (Φ:=fun _ w' v w2=>RowX w2 (fun _=>False) w'.heap.size [(w'.heap.size,w2.heap.size)] v X.length (X.map ratioP)) (fun ρ w' r=>values_c (Rel.old r hS) (RatsR.rel hx r hS) (hf3 h0).1 (hf3 h0).2.1) ?_
   rintro ρ wa3 v3 wb3 r he hb hn
   replace hw:=hw.tr hb
   replace h:=RatMR.past (iv':=(wa3.heap.size,wb3.heap.size)::iv2) h r hS he fun x hx=>List.mem_cons_of_mem _ hx
   replace hu:=RatsR.past (iv':=(wa3.heap.size,wb3.heap.size)::iv2) hu r hS he fun x hx=>List.mem_cons_of_mem _ hx
   replace hx:=RatsR.past (iv':=(wa3.heap.size,wb3.heap.size)::iv2) hx r hS he fun x hx=>List.mem_cons_of_mem _ hx
   replace hk:=RatMR.past (iv':=(wa3.heap.size,wb3.heap.size)::iv2) hk r hS he fun x hx=>List.mem_cons_of_mem _ hx
   replace hp:=RatsR.past (iv':=(wa3.heap.size,wb3.heap.size)::iv2) hp r hS he fun x hx=>List.mem_cons_of_mem _ hx
   replace hy:=hy.past (iv':=(wa3.heap.size,wb3.heap.size)::iv2) r (oldF w) he fun x hx=>List.mem_cons_of_mem _ hx
   replace hl:=hl.past (iv':=(wa3.heap.size,wb3.heap.size)::iv2) r (oldF w) he fun x hx=>List.mem_cons_of_mem _ hx
   have hv:=(show RowG _ _ _ _ from(RowX.got (S:=fun _=>False) (B:=w.heap.size) hn r.baseLe (iv:=(wa3.heap.size,wb3.heap.size)::iv2) List.mem_cons_self).read)
   clear r he hb hn
   generalize (wa3.heap.size,wb3.heap.size)::iv2=iv3 at*
   obtain⟨av,cv,rfl⟩:=hv.shape
   rw[show (X.map ratioP).length=X.length from List.length_map ..]at hv ⊢
   conv=>whnf
   refine callE_con (Φ:=fun _ w' v w2=>v= .bool (decide (xvecTo A pv (colsM M) pv.length=X.map ratioP))) (fun ρ w' r=>rowSame_c (Rel.old r (oldF w)) (hy.rel r (oldF w)) (hv.rel r (oldF w)) (fun q hq=>by have:=hxh q hq;omega) (few_rl (hf3 h0).1)) ?_
   rintro ρ wa4 v4 wb4 r he hb rfl
   replace hw:=hw.tr hb
   replace h:=RatMR.past (iv':=(wa4.heap.size,wb4.heap.size)::iv3) h r hS he fun x hx=>List.mem_cons_of_mem _ hx
   replace hu:=RatsR.past (iv':=(wa4.heap.size,wb4.heap.size)::iv3) hu r hS he fun x hx=>List.mem_cons_of_mem _ hx
   replace hx:=RatsR.past (iv':=(wa4.heap.size,wb4.heap.size)::iv3) hx r hS he fun x hx=>List.mem_cons_of_mem _ hx
   replace hk:=RatMR.past (iv':=(wa4.heap.size,wb4.heap.size)::iv3) hk r hS he fun x hx=>List.mem_cons_of_mem _ hx
   replace hp:=RatsR.past (iv':=(wa4.heap.size,wb4.heap.size)::iv3) hp r hS he fun x hx=>List.mem_cons_of_mem _ hx
   clear hy
   replace hl:=hl.past (iv':=(wa4.heap.size,wb4.heap.size)::iv3) r (oldF w) he fun x hx=>List.mem_cons_of_mem _ hx
   clear hv
   clear r he hb
   generalize (wa4.heap.size,wb4.heap.size)::iv3=iv4 at*
   conv=>whnf
   refine BrS.mk (fun he1=>?_) (fun he1=>?_)
   ·have he1:xvecTo A pv (colsM M) pv.length=X.map ratioP:=by simpa using he1
    conv=>whnf
    refine callE_con (Φ:=fun _ w' v w2=>MatG w2 (Nw (fun _=>False) w' w2) v (valsM K)) (fun ρ w' r=>matrixG_c (Rel.old r hS) (RatMR.rel hk r hS) (hf3 h0).2.2.1 (hf3 h0).2.2.2.1 (hf3 h0).2.2.2.2.1) ?_
    rintro ρ wa5 v5 wb5 r he hb hn
    replace hw:=hw.tr hb
    replace h:=RatMR.past (iv':=(wa5.heap.size,wb5.heap.size)::iv4) h r hS he fun x hx=>List.mem_cons_of_mem _ hx
    replace hu:=RatsR.past (iv':=(wa5.heap.size,wb5.heap.size)::iv4) hu r hS he fun x hx=>List.mem_cons_of_mem _ hx
    replace hx:=RatsR.past (iv':=(wa5.heap.size,wb5.heap.size)::iv4) hx r hS he fun x hx=>List.mem_cons_of_mem _ hx
    replace hk:=RatMR.past (iv':=(wa5.heap.size,wb5.heap.size)::iv4) hk r hS he fun x hx=>List.mem_cons_of_mem _ hx
    replace hp:=RatsR.past (iv':=(wa5.heap.size,wb5.heap.size)::iv4) hp r hS he fun x hx=>List.mem_cons_of_mem _ hx
    replace hl:=hl.past (iv':=(wa5.heap.size,wb5.heap.size)::iv4) r (oldF w) he fun x hx=>List.mem_cons_of_mem _ hx
    have hg:=hn.got (S:=fun _=>False) r.baseLe (iv:=(wa5.heap.size,wb5.heap.size)::iv4) List.mem_cons_self
    clear r he hb hn
    generalize (wa5.heap.size,wb5.heap.size)::iv4=iv5 at*
    obtain⟨ag,cg,rfl⟩:=hg.shape
    conv=>whnf
    refine callE_con (Φ:=fun _ w' v w2=>v= .bool (decide (kernelTo A pv (colsM M) (colsM M)=valsM K))) (fun ρ w' r=>equalRows_c (Rel.old r (oldF w)) (hl.rel r (oldF w)) (hg.rel r (oldF w)) (fun x hx q hq=>by have:=(hkh x hx).2 q hq;omega) (fun x hx=>by obtain⟨y,hy,rfl⟩:=List.mem_map.1 hx;exact few_rl ((hf3 h0).2.2.1 y hy))) ?_
    rintro ρ wa6 v6 wb6 r he hb rfl
    replace hw:=hw.tr hb
    replace h:=RatMR.past (iv':=(wa6.heap.size,wb6.heap.size)::iv5) h r hS he fun x hx=>List.mem_cons_of_mem _ hx
    replace hu:=RatsR.past (iv':=(wa6.heap.size,wb6.heap.size)::iv5) hu r hS he fun x hx=>List.mem_cons_of_mem _ hx
    replace hx:=RatsR.past (iv':=(wa6.heap.size,wb6.heap.size)::iv5) hx r hS he fun x hx=>List.mem_cons_of_mem _ hx
    replace hk:=RatMR.past (iv':=(wa6.heap.size,wb6.heap.size)::iv5) hk r hS he fun x hx=>List.mem_cons_of_mem _ hx
    replace hp:=RatsR.past (iv':=(wa6.heap.size,wb6.heap.size)::iv5) hp r hS he fun x hx=>List.mem_cons_of_mem _ hx
    replace hl:=hl.past (iv':=(wa6.heap.size,wb6.heap.size)::iv5) r (oldF w) he fun x hx=>List.mem_cons_of_mem _ hx
    replace hg:=hg.past (iv':=(wa6.heap.size,wb6.heap.size)::iv5) r (oldF w) he fun x hx=>List.mem_cons_of_mem _ hx
    clear r he hb
    generalize (wa6.heap.size,wb6.heap.size)::iv5=iv6 at*
    conv=>whnf
    refine BrS.mk (fun he2=>?_) (fun he2=>?_)
    ·have he2:¬kernelTo A pv (colsM M) (colsM M)=valsM K:=by simpa using he2
     conv=>whnf
     intro ρe we re
     exact⟨_,rfl,hw.tr re.bel,25,rfl,fun _=>⟨fun h=>absurd h (fun h=>he2 (hright.2 h).2.2.symm),fun _=>rfl⟩,fun h=>absurd h0 h⟩
    have he2:kernelTo A pv (colsM M) (colsM M)=valsM K:=by simpa using he2
    conv=>whnf
    intro ρe we re
    exact⟨_,rfl,hw.tr re.bel,0,rfl,fun _=>⟨fun _=>rfl,fun h=>absurd (hright.1 ⟨hp0,he1.symm,he2.symm⟩) h⟩,fun h=>absurd h0 h⟩
   have he1:¬xvecTo A pv (colsM M) pv.length=X.map ratioP:=by simpa using he1
   conv=>whnf
   intro ρe we re
   exact⟨_,rfl,hw.tr re.bel,25,rfl,fun _=>⟨fun h=>absurd h (fun h=>he1 (hright.2 h).2.1.symm),fun _=>rfl⟩,fun h=>absurd h0 h⟩
  have hp0:P≠[]:=fun e=>by rw[e]at hp0;simp at hp0
  conv=>whnf
  intro ρe we re
  exact⟨_,rfl,hw.tr re.bel,25,rfl,fun _=>⟨fun h=>absurd h (fun h=>hp0 (hright.2 h).1),fun _=>rfl⟩,fun h=>absurd h0 h⟩
 have hz:z≠0:=by simpa using hz
 conv=>whnf
 refine BrS.mk (fun hz1=>?_) (fun hz1=>?_)
 ·have hz1:z=1:=by simpa using hz1
  subst hz1
  conv=>whnf
  have hright:(X=[]∧K=[]∧P.length=M.length∧(∀q∈throughF (P.map ratioP) (valsM M) (colsM M) (valsM M).length,q=0)∧dotTo (P.map ratioP) (b.map ratioP) (P.map ratioP).length=1)↔RightE (valsM M) (b.map ratioP) (colsM M) 1 (X.map ratioP) (valsM K) (P.map ratioP):=by
   unfold RightE
   rw[List.map_eq_nil_iff (l:=X),List.map_eq_nil_iff (l:=K),List.length_map,List.length_map]
   constructor
   ·rintro⟨h5,h6,h7,h8,h9⟩
    exact .inr ⟨rfl,h5,h6,h7,h8,h9⟩
   ·rintro(⟨h5,_⟩|⟨_,h5,h6,h7,h8,h9⟩)
    ·exact absurd h5 (by decide)
    ·exact⟨h5,h6,h7,h8,h9⟩
  refine BrS.mk (fun hx0=>?_) (fun hx0=>?_)
  ·have hx0:X=[]:=List.eq_nil_of_length_eq_zero (by have:(X.length:Int)=0:=(by simpa using hx0);omega)
   conv=>whnf
   refine BrS.mk (fun hk0=>?_) (fun hk0=>?_)
   ·have hk0:K=[]:=List.eq_nil_of_length_eq_zero (by have:(K.length:Int)=0:=(by simpa using hk0);omega)
    conv=>whnf
    refine BrS.mk (fun hp0=>?_) (fun hp0=>?_)
    ·have hp0:P.length=M.length:=by have:(P.length:Int)=M.length:=(by simpa using hp0);omega
     obtain⟨hfP,hqP,hqM,hqb,h12,h1b⟩:=(hf3 h0).2.2.2.2.2 hp0
     conv=>whnf
     refine callE_S (callE_con (Φ:=fun _ w' v w2=>RowX w2 (fun _=>False) w'.heap.size [(w'.heap.size,w2.heap.size)] v P.length (P.map ratioP)) (fun ρ w' r=>values_c (Rel.old r hS) (RatsR.rel hp r hS) hfP (by omega)) ?_)
     rintro ρ wa2 v2 wb2 r he hb hn
     replace hw:=hw.tr hb
     replace h:=RatMR.past (iv':=(wa2.heap.size,wb2.heap.size)::iv1) h r hS he fun x hx=>List.mem_cons_of_mem _ hx
     replace hu:=RatsR.past (iv':=(wa2.heap.size,wb2.heap.size)::iv1) hu r hS he fun x hx=>List.mem_cons_of_mem _ hx
     clear hx
     clear hk
     clear hp
     have hv:=(show RowG _ _ _ _ from(RowX.got (S:=fun _=>False) (B:=w.heap.size) hn r.baseLe (iv:=(wa2.heap.size,wb2.heap.size)::iv1) List.mem_cons_self).read)
     clear r he hb hn
     generalize (wa2.heap.size,wb2.heap.size)::iv1=iv2 at*
     obtain⟨av,cv,rfl⟩:=hv.shape
     rw[show (P.map ratioP).length=P.length from List.length_map ..]at hv ⊢
     conv=>whnf
     refine callE_S (callE_con (Φ:=fun _ w' v w2=>MatG w2 (Nw (fun _=>False) w' w2) v (valsM M)) (fun ρ w' r=>matrixG_c (Rel.old r hS) (RatMR.rel h r hS) hf1 (fun x hx=>by have:=hrow x hx;omega) (by omega)) ?_)
     rintro ρ wa3 v3 wb3 r he hb hn
     replace hw:=hw.tr hb
     replace h:=RatMR.past (iv':=(wa3.heap.size,wb3.heap.size)::iv2) h r hS he fun x hx=>List.mem_cons_of_mem _ hx
     replace hu:=RatsR.past (iv':=(wa3.heap.size,wb3.heap.size)::iv2) hu r hS he fun x hx=>List.mem_cons_of_mem _ hx
     replace hv:=hv.past (iv':=(wa3.heap.size,wb3.heap.size)::iv2) r (oldF w) he fun x hx=>List.mem_cons_of_mem _ hx
     have hg:=hn.got (S:=fun _=>False) r.baseLe (iv:=(wa3.heap.size,wb3.heap.size)::iv2) List.mem_cons_self
     clear r he hb hn
     generalize (wa3.heap.size,wb3.heap.size)::iv2=iv3 at*
     obtain⟨ag,cg,rfl⟩:=hg.shape
     conv=>whnf
     refine callE_S (callE_con (Φ:=fun _ w' v w2=>v= .int .i64 (colsM M)) (fun ρ w' r=>columns_c (Rel.old r hS) (RatMR.rel h r hS)) ?_)
     rintro ρ wa4 v4 wb4 r he hb rfl
     replace hw:=hw.tr hb
     clear h
     replace hu:=RatsR.past (iv':=(wa4.heap.size,wb4.heap.size)::iv3) hu r hS he fun x hx=>List.mem_cons_of_mem _ hx
     replace hv:=hv.past (iv':=(wa4.heap.size,wb4.heap.size)::iv3) r (oldF w) he fun x hx=>List.mem_cons_of_mem _ hx
     replace hg:=hg.past (iv':=(wa4.heap.size,wb4.heap.size)::iv3) r (oldF w) he fun x hx=>List.mem_cons_of_mem _ hx
     clear r he hb
     generalize (wa4.heap.size,wb4.heap.size)::iv3=iv4 at*
     conv=>whnf
     refine callE_S (callE_con (Φ:=fun _ w' v w2=>RowG w2 (Nw (Cv (fun _=>False) w.heap.size iv4) w' w2) v (throughF (P.map ratioP) (valsM M) (colsM M) (valsM M).length)) (fun ρ w' r=>through_c (Rel.old r (oldF w)) (hv.rel r (oldF w)) (hg.rel r (oldF w)) (by rw[List.length_map,hvl,hp0]) (fun x hx=>by obtain⟨y,hy,rfl⟩:=List.mem_map.1 hx;rw[List.length_map];exact hrow y hy) (by omega) hqP hqM h12 (by rw[hvl];exact h1b)) ?_)
     rintro ρ wa5 v5 wb5 r he hb hn
     replace hw:=hw.tr hb
     replace hu:=RatsR.past (iv':=(wa5.heap.size,wb5.heap.size)::iv4) hu r hS he fun x hx=>List.mem_cons_of_mem _ hx
     replace hv:=hv.past (iv':=(wa5.heap.size,wb5.heap.size)::iv4) r (oldF w) he fun x hx=>List.mem_cons_of_mem _ hx
     clear hg
     have ht:=hn.old r.baseLe
     clear r he hb hn
     generalize (wa5.heap.size,wb5.heap.size)::iv4=iv5 at*
     obtain⟨at_,ct,rfl⟩:=ht.shape
     conv=>whnf
     refine callE_S (callE_con (Φ:=fun _ w' v w2=>v= .bool (decide (∀q∈throughF (P.map ratioP) (valsM M) (colsM M) (valsM M).length,q=0))) (fun ρ w' r=>nought_c (Rel.old r (oldF w)) (ht.rel r (oldF w))) ?_)
     rintro ρ wa6 v6 wb6 r he hb rfl
     replace hw:=hw.tr hb
     replace hu:=RatsR.past (iv':=(wa6.heap.size,wb6.heap.size)::iv5) hu r hS he fun x hx=>List.mem_cons_of_mem _ hx
     replace hv:=hv.past (iv':=(wa6.heap.size,wb6.heap.size)::iv5) r (oldF w) he fun x hx=>List.mem_cons_of_mem _ hx
     clear ht
     clear r he hb
     generalize (wa6.heap.size,wb6.heap.size)::iv5=iv6 at*
     conv=>whnf
     refine BrS.mk (fun he1=>?_) (fun he1=>?_)
     ·have he1:∀q∈throughF (P.map ratioP) (valsM M) (colsM M) (valsM M).length,q=0:=by simpa using he1
      conv=>whnf
      refine callE_S (callE_con (Φ:=fun _ w' v w2=>RowX w2 (fun _=>False) w'.heap.size [(w'.heap.size,w2.heap.size)] v b.length (b.map ratioP)) (fun ρ w' r=>values_c (Rel.old r hS) (RatsR.rel hu r hS) hf2 (by omega)) ?_)
      rintro ρ wa7 v7 wb7 r he hb hn
      replace hw:=hw.tr hb
      clear hu
      replace hv:=hv.past (iv':=(wa7.heap.size,wb7.heap.size)::iv6) r (oldF w) he fun x hx=>List.mem_cons_of_mem _ hx
      have hb2:=(show RowG _ _ _ _ from(RowX.got (S:=fun _=>False) (B:=w.heap.size) hn r.baseLe (iv:=(wa7.heap.size,wb7.heap.size)::iv6) List.mem_cons_self).read)
      clear r he hb hn
      generalize (wa7.heap.size,wb7.heap.size)::iv6=iv7 at*
      obtain⟨ab2,cb2,rfl⟩:=hb2.shape
      rw[show (b.map ratioP).length=b.length from List.length_map ..]at hb2 ⊢
      conv=>whnf
      refine callE_S (callE_con (Φ:=fun _ w' v w2=>FracR w2 (Nw (fun _=>False) w' w2) v (dotTo (P.map ratioP) (b.map ratioP) (P.map ratioP).length)) (fun ρ w' r=>dot_c (Rel.old r (oldF w)) (hv.rel r (oldF w)) (hb2.rel r (oldF w)) (by rw[List.length_map,List.length_map];omega) hqP hqb h12 (by rw[List.length_map,hp0];omega)) ?_)
      rintro ρ wa8 v8 wb8 r he hb hn
      replace hw:=hw.tr hb
      clear hv
      clear hb2
      have hd:=hn.got (S:=fun _=>False) r.baseLe (iv:=(wa8.heap.size,wb8.heap.size)::iv7) List.mem_cons_self
      clear r he hb hn
      generalize (wa8.heap.size,wb8.heap.size)::iv7=iv8 at*
      obtain⟨s8_0,s8_1,s8_2,s8_3,s8_4,s8_5,s8_6,s8_7,rfl⟩:=hd.shape
      conv=>whnf
      refine callE_S (callE_con (Φ:=fun _ w' v w2=>FracR w2 (Nw (fun _=>False) w' w2) v ((1:Int):Rat)) (fun ρ w' r=>whole_c 1 w' (by decide) (by decide)) ?_)
      rintro ρ wa9 v9 wb9 r he hb hn
      replace hw:=hw.tr hb
      replace hd:=hd.past (iv':=(wa9.heap.size,wb9.heap.size)::iv8) r (oldF w) he fun x hx=>List.mem_cons_of_mem _ hx
      have ho:=hn.got (S:=fun _=>False) r.baseLe (iv:=(wa9.heap.size,wb9.heap.size)::iv8) List.mem_cons_self
      clear r he hb hn
      generalize (wa9.heap.size,wb9.heap.size)::iv8=iv9 at*
      obtain⟨s9_0,s9_1,s9_2,s9_3,s9_4,s9_5,s9_6,s9_7,rfl⟩:=ho.shape
      conv=>whnf
      have hdl:=rl_dotTo hqP hqb h12 (P.map ratioP).length
      rw[List.length_map,hp0]at hdl
      rw[List.length_map,hp0]at hd
      refine callE_S (callE_con (Φ:=fun _ w' v w2=>v= .int .i64 (rs (dotTo (P.map ratioP) (b.map ratioP) M.length-((1:Int):Rat)))) (fun ρ w' r=>fcmp_c (Rel.old r (oldF w)) (hd.rel r (oldF w)) (ho.rel r (oldF w)) (by omega) (by decide)) ?_)
      rintro ρ wa10 v10 wb10 r he hb rfl
      replace hw:=hw.tr hb
      replace hd:=hd.past (iv':=(wa10.heap.size,wb10.heap.size)::iv9) r (oldF w) he fun x hx=>List.mem_cons_of_mem _ hx
      replace ho:=ho.past (iv':=(wa10.heap.size,wb10.heap.size)::iv9) r (oldF w) he fun x hx=>List.mem_cons_of_mem _ hx
      clear r he hb
      generalize (wa10.heap.size,wb10.heap.size)::iv9=iv10 at*
      conv=>whnf
      refine BrS.mk (fun he2=>?_) (fun he2=>?_)
      ·have he2:dotTo (P.map ratioP) (b.map ratioP) M.length≠1:=fun e=>by
        rw[e]at he2
        rw[show rs (1-((1:Int):Rat))=0 from rs_eq.2 rfl]at he2
        exact absurd he2 (by decide)
       conv=>whnf
       intro ρe we re
       exact⟨_,rfl,hw.tr re.bel,25,rfl,fun _=>⟨fun h=>absurd h (fun h=>he2 (by have:=(hright.2 h).2.2.2.2;rw[List.length_map,hp0]at this;exact this)),fun _=>rfl⟩,fun h=>absurd h0 h⟩
      have he2:dotTo (P.map ratioP) (b.map ratioP) M.length=1:=by
       have h5:rs (dotTo (P.map ratioP) (b.map ratioP) M.length-((1:Int):Rat))=0:=by simpa using he2
       exact rs_eq.1 h5
      conv=>whnf
      intro ρe we re
      exact⟨_,rfl,hw.tr re.bel,0,rfl,fun _=>⟨fun _=>rfl,fun h=>absurd (hright.1 ⟨hx0,hk0,hp0,he1,by rw[List.length_map,hp0];exact he2⟩) h⟩,fun h=>absurd h0 h⟩
     have he1:¬ ∀q∈throughF (P.map ratioP) (valsM M) (colsM M) (valsM M).length,q=0:=by simpa using he1
     conv=>whnf
     intro ρe we re
     exact⟨_,rfl,hw.tr re.bel,25,rfl,fun _=>⟨fun h=>absurd h (fun h=>he1 (hright.2 h).2.2.2.1),fun _=>rfl⟩,fun h=>absurd h0 h⟩
    have hp0:P.length≠M.length:=fun e=>by rw[e]at hp0;simp at hp0
    conv=>whnf
    intro ρe we re
    exact⟨_,rfl,hw.tr re.bel,25,rfl,fun _=>⟨fun h=>absurd h (fun h=>hp0 (hright.2 h).2.2.1),fun _=>rfl⟩,fun h=>absurd h0 h⟩
   have hk0:K≠[]:=fun e=>by rw[e]at hk0;simp at hk0
   conv=>whnf
   intro ρe we re
   exact⟨_,rfl,hw.tr re.bel,25,rfl,fun _=>⟨fun h=>absurd h (fun h=>hk0 (hright.2 h).2.1),fun _=>rfl⟩,fun h=>absurd h0 h⟩
  have hx0:X≠[]:=fun e=>by rw[e]at hx0;simp at hx0
  conv=>whnf
  intro ρe we re
  exact⟨_,rfl,hw.tr re.bel,25,rfl,fun _=>⟨fun h=>absurd h (fun h=>hx0 (hright.2 h).1),fun _=>rfl⟩,fun h=>absurd h0 h⟩
 have hz1:z≠1:=by simpa using hz1
 conv=>whnf
 intro ρe we re
 exact⟨_,rfl,hw.tr re.bel,25,rfl,fun _=>⟨fun h=>absurd h (fun h=>h.elim (fun h=>hz h.1) fun h=>hz1 h.1),fun _=>rfl⟩,fun h=>absurd h0 h⟩
end Go.Ex

/- Regions that draw their order, by an order with branches; CheckSystem and Wider of the reference. Printed by program. No condition but sizes. -/
namespace Go.Ex
open Go Go.Sx Go.Proofs

inductive Tp where
 |nil
 |x (i:Nat) (t:Tp)
 |two (i:Nat) (t:Tp) (j:Nat) (u:Tp)
 |give (id:Nat) (t:Tp)
def chkTp(ops:Array Oper):Tp→Array Bool→Bool
 | .nil,lx=>(Region.ready .any ops lx).isEmpty
 | .x i t,lx=>match ops[i]? with
  |none=>false
  |some o=>(Region.ready .any ops lx).contains i&&((Region.ready .any ops lx).all (fun j=>Nat.beq j i)||isR o.op&&freeH ops lx [] i o)&&chkTp ops t (lx.setIfInBounds i true)
 | .two i t j u,lx=>match Region.ready .any ops lx with
  |[a,b]=>Nat.beq a i&&(Nat.beq b j&&(chkTp ops t (lx.setIfInBounds i true)&&chkTp ops u (lx.setIfInBounds j true)))
  |_=>false
 | .give _ t,lx=>chkTp ops t lx
def sxTp(P:Program)(τ:Tab)(B:Nat)(all:List Oper):Tp→Env→Hp→Nat→Iv→World→KT→Prop
 | .nil,l,H,nx,iv,w,K=>K l H nx iv w
 | .x i t,l,H,nx,iv,w,K=>nthK all i (fun o=>sxStep (!voidCall o) P τ B all o l H nx iv w (fun l' H' nx' iv' w'=>sxTp P τ B all t l' H' nx' iv' w' K))
 | .two i t j u,l,H,nx,iv,w,K=>nthK all i (fun o=>sxStep (!voidCall o) P τ B all o l H nx iv w (fun l' H' nx' iv' w'=>sxTp P τ B all t l' H' nx' iv' w' K))∧
   nthK all j (fun o=>sxStep (!voidCall o) P τ B all o l H nx iv w (fun l' H' nx' iv' w'=>sxTp P τ B all u l' H' nx' iv' w' K))
 | .give id t,l,H,nx,iv,w,K=>∃H' b,getH H id=some b∧b≠ .dead∧SubH H H'∧okH id H'=true∧∀ρ w',Rel H nx iv B w ρ w'→(ρ id).nil=false∧∃l',(∀u v,getE l' u=some v→v.sc nx∧∃v',getE l u=some v'∧v'.den ρ=v.den ρ)∧sxTp P τ B all t l' H' nx (((ρ id).g,(ρ id).g+1)::iv) w' K
section
variable{P:Program}{τ:Tab}{ops:Array Oper}{B n nx:Nat}{l:Env}{H:Hp}{iv:Iv}{w w':World}{ρ:Nat→Sx.Val}{a:Act}
theorem stepE(hτ:TabOK P τ)(hok:∀(j:Nat) o,ops[j]? =some o→∀d,o.dst=some d→d<n){i:Nat}{K:KT}{Q:Exit→Act→World→Prop}{next:Act→World→Prop}
  (h:nthK ops.toList i (fun o=>sxStep (!voidCall o) P τ B ops.toList o l H nx iv w K)) (sat:Sat n l H nx iv B w ρ a w')
  (hn:∀l' H' nx' iv' w2 ρ' a' w3,K l' H' nx' iv' w2→Sat n l' H' nx' iv' B w2 ρ' a' w3→next a' w3):
  wpOp P ops Q i (fun a' w2=>((∀o,ops[i]? =some o→hard o=false)→Ext w' w2)∧next a' w2) a w':=by
 obtain⟨o,ho,h1⟩:=nthK_spec h
 rw[Array.getElem?_toList]at ho
 have hd:=hok i o ho
 unfold sxStep at h1
 refine wpOp_wanted ho ?_
 rcases sxGuard_spec sat h1 with⟨hw,l1,h2,sat1⟩|⟨hw,l1,h2,sat1⟩
 ·refine .inl ⟨hw,?_⟩
  cases hR:isR o.op with
  |true=>
   obtain⟨v,hK,hvs,hrun⟩:=(sxOp_reader hτ h2 sat1 hR).resolve_right (fun hh=>by have:=hh.1;rw[voidCall_R hR]at this;cases this)
   obtain⟨l2,h3,sat2⟩:=setE_spec sat1 hK hd hvs
   exact wp_val (hrun w' (.inr sat1.rel)) ⟨fun _=>Ext.refl _,hn _ _ _ _ _ _ _ _ h3 sat2⟩
  |false=>
   cases hA:isA o.op with
   |true=>
    obtain⟨b,v,mk,obj,hK,hbd,hb,hv,hmk,hfit,hal⟩:=sxOp_alloc hτ h2 sat1 hA
    have hrel:Rel ((nx,b)::H) (nx+1) iv B w (upd ρ nx ⟨w'.heap.size,0,false⟩) (w'.alloc obj):=
     sat1.rel.push b _ rfl rfl rfl (by simp) (fun k hk=>heap_alloc_old _ _ hk) (fun _=>⟨Nat.le_refl _,by simp⟩) (hfit _ _ (heap_alloc_new _ _)) hb
    obtain⟨l2,h3,sat2⟩:=setE_spec (sat1.next hrel (Nat.le_succ _) (fun id hid=>upd_lt id hid)) hK hd hv
    rw[hmk]at sat2
    exact wp_val (v:=mk w'.heap.size) (w2:=w'.alloc obj) (hal w') ⟨fun _=>Ext.alloc _ _,hn _ _ _ _ _ _ _ _ h3 sat2⟩
   |false=>
    cases hH:hard o with
    |false=>
     rw[voidCall_soft hH]at h2
     refine sxOp_callE h2 sat1 hR hA hH fun v w2 hK he hs=>⟨fun _=>he,?_⟩
     obtain⟨l2,h3,sat2⟩:=setE_spec (v:=.o (.v v)) hs hK hd trivial
     exact hn _ _ _ _ _ _ _ _ h3 sat2
    |true=>
     refine sxOp_sound hτ h2 sat1 fun v H' nx' iv' w2 ρ' w3 hK sat2 hv=>⟨fun hs=>(by rw[hs o ho]at hH;cases hH),?_⟩
     obtain⟨l2,h3,sat3⟩:=setE_spec sat2 hK hd hv
     exact hn _ _ _ _ _ _ _ _ h3 sat3
 ·obtain⟨l2,h4,sat3⟩:=setE_spec sat1 h2 hd trivial
  exact .inr ⟨hw,fun _=>Ext.refl _,hn _ _ _ _ _ _ _ _ h4 sat3⟩
theorem tp_sound(hτ:TabOK P τ)(hok:∀(j:Nat) o,ops[j]? =some o→∀d,o.dst=some d→d<n)(hsel:∀(j:Nat) (o:Oper) cs b,ops[j]? =some o→o.op≠ .select cs b){K:KT}{Q0:Act→World→Prop}
  (hQ:∀l' H' nx' iv' w2 ρ' a' w3,K l' H' nx' iv' w2→Sat n l' H' nx' iv' B w2 ρ' a' w3→Q0 a' w3):
  ∀(t:Tp) (fuel:Nat) (la:Array Bool) (l:Env) (H:Hp) (nx:Nat) (iv:Iv) (w:World) (ρ:Nat→Sx.Val) (a:Act) (w':World),unl la≤fuel→la.size=ops.size→chkTp ops t la=true→sxTp P τ B ops.toList t l H nx iv w K→Sat n l H nx iv B w ρ a w'→wpAnyE P .any ops (QN Q0) fuel la a w'
 | .nil,fuel,la,l,H,nx,iv,w,ρ,a,w',_,_,hc,h,s=>by
  simp only[chkTp,List.isEmpty_iff]at hc
  exact wpAnyE_done hc ⟨rfl,hQ _ _ _ _ _ _ _ _ h s⟩ fuel
 | .x i t,fuel,la,l,H,nx,iv,w,ρ,a,w',hf,hz,hc,h,s=>by
  unfold chkTp at hc
  obtain⟨o,ho,h1⟩:=nthK_spec h
  rw[Array.getElem?_toList]at ho
  simp only[ho,Bool.and_eq_true,Bool.or_eq_true]at hc
  obtain⟨⟨c1,c2⟩,c3⟩:=hc
  have c1:i∈Region.ready .any ops la:=by simpa using c1
  obtain⟨hla,-⟩:=mem_ready'.1 c1
  have hun:=unl_set hla
  obtain⟨f,rfl⟩:∃f,fuel=f+1:=⟨fuel-1,by omega⟩
  have hz2:(la.setIfInBounds i true).size=ops.size:=by rw[Array.size_setIfInBounds,hz]
  rcases c2 with c2|⟨hR,c4⟩
  ·refine⟨fun h0=>(by rw[h0]at c1;cases c1),fun j hj=>?_⟩
   have hji:j=i:=beq_t (List.all_eq_true.1 c2 j hj)
   subst hji
   exact stepE hτ hok h s fun _ _ _ _ _ _ _ _ hk hs=>tp_sound hτ hok hsel hQ t f _ _ _ _ _ _ _ _ _ (by omega) hz2 c3 hk hs
  ·obtain⟨blk,hb1,hb2,hb3,hb4⟩:=freeH_spec c4 hz
   unfold sxStep at h1
   have hd:=hok i o ho
   rcases sxGuard_spec s h1 with⟨hw,l1,h2,sat1⟩|⟨hw,l1,h2,sat1⟩
   ·obtain⟨v,hK,hvs,hrun⟩:=(sxOp_reader hτ h2 sat1 hR).resolve_right (fun hh=>by have:=hh.1;rw[voidCall_R hR]at this;cases this)
    obtain⟨l2,h3,sat2⟩:=setE_spec sat1 hK hd hvs
    refine wpAnyE_first (pu:=isP o.op) (v:=v.den ρ) ho hsel (fun c a w hq=>absurd hq.1 (by simp)) blk hb1 f la a w' hb2 hb4 c1 (.inl ⟨hw,fun w3 he=>hrun w3 (he.imp id fun he=>sat1.rel.ext he)⟩) ?_
    exact tp_sound hτ hok hsel hQ t f _ _ _ _ _ _ _ _ _ (by omega) hz2 c3 h3 sat2
   ·obtain⟨l2,h3,sat2⟩:=setE_spec (v:=.o (.v undef)) sat1 h2 hd trivial
    refine wpAnyE_first (pu:=isP o.op) (v:=undef) ho hsel (fun c a w hq=>absurd hq.1 (by simp)) blk hb1 f la a w' hb2 hb4 c1 (.inr ⟨hw,rfl⟩) ?_
    exact tp_sound hτ hok hsel hQ t f _ _ _ _ _ _ _ _ _ (by omega) hz2 c3 h3 sat2
 | .two i t k u,fuel,la,l,H,nx,iv,w,ρ,a,w',hf,hz,hc,h,s=>by
  simp only[chkTp]at hc
  split at hc
  ·rename_i x y hr
   simp only[Bool.and_eq_true]at hc
   obtain⟨c1,c2,c3,c4⟩:=hc
   have hx:=Nat.eq_of_beq_eq_true c1
   have hy:=Nat.eq_of_beq_eq_true c2
   subst hx
   subst hy
   obtain⟨h1,h2⟩:=h
   have hm1:x∈Region.ready .any ops la:=by rw[hr];simp
   have hm2:y∈Region.ready .any ops la:=by rw[hr];simp
   have u1:=unl_set (mem_ready'.1 hm1).1
   have u2:=unl_set (mem_ready'.1 hm2).1
   obtain⟨f,rfl⟩:∃f,fuel=f+1:=⟨fuel-1,by omega⟩
   refine⟨fun h0=>(by rw[hr]at h0;cases h0),fun j hj=>?_⟩
   rw[hr,List.mem_cons,List.mem_singleton]at hj
   rcases hj with rfl|rfl
   ·exact stepE hτ hok h1 s fun _ _ _ _ _ _ _ _ hk hs=>tp_sound hτ hok hsel hQ t f _ _ _ _ _ _ _ _ _ (by omega) (by rw[Array.size_setIfInBounds,hz]) c3 hk hs
   ·exact stepE hτ hok h2 s fun _ _ _ _ _ _ _ _ hk hs=>tp_sound hτ hok hsel hQ u f _ _ _ _ _ _ _ _ _ (by omega) (by rw[Array.size_setIfInBounds,hz]) c4 hk hs
  ·cases hc
 | .give id t,fuel,la,l,H,nx,iv,w,ρ,a,w',hf,hz,hc,h,s=>by
  obtain⟨H',b,hid,hd,hs,ho,h⟩:=h
  obtain⟨hn,l',hl,h⟩:=h _ _ s.rel
  exact tp_sound hτ hok hsel hQ t fuel la l' H' nx _ w' ρ a w' hf hz hc h ⟨s.rel.free hid hd hn hs ho,s.size,s.defers,fun u v hv=>by obtain⟨-,v',h1,h2⟩:=hl u v hv;rw[←h2];exact s.env u v' h1,fun u v hv=>(hl u v hv).1⟩
/-- a region that draws its order, by an order of one's own with branches -/
theorem drawn_of_tp(hτ:TabOK P τ)(hm:P.follows .mixedOrders=true){K:KT}(t:Tp)(hs:Region.noSelect ops=true)(hc:chkTp ops t (Array.replicate ops.size false)=true)
  (h:sxTp P τ B ops.toList t l H nx iv w K):DrawnS P B ops l H nx iv w K:=by
 refine⟨fun n ρ a w' hok sat Q hQ id=>?_⟩
 refine wp_mono (Q':=Q) (c:=.region id ops true) (wp_region_any (Q:=QN (Q .normal)) hm (wpAny_of_E _ _ _ _ ?_)) (fun e a w hq=>by obtain⟨rfl,hq⟩:=hq;exact hq)
 refine tp_sound hτ (fun j o ho d hd=>?_) (Region.noSelect_spec hs) hQ t _ _ _ _ _ _ _ ρ _ _ ?_ (by simp) hc h ⟨sat.rel.drew,sat.size,sat.defers,sat.env,sat.sc⟩
 ·have:=List.all_eq_true.1 hok o (List.mem_of_getElem? (by rw[Array.getElem?_toList];exact ho))
  rw[hd]at this
  have h5:d+1≤n:=by simpa [Nat.blt]using this
  exact h5
 ·unfold unl
  refine Nat.le_trans List.countP_le_length ?_
  simp
end
theorem give_env{l tl:Env}{nx t id n:Nat}{ρ:Nat→Sx.Val}(hn:(ρ id).nil=false)(ht:getE l t=some (.o (.w id n)))(h1:SubE l tl)(h2:ScE nx tl):∀u v,getE ((t,.o (.v (.slice (some ⟨(ρ id).g,0,none⟩) n (ρ id).cap)))::tl) u=some v→v.sc nx∧∃v',getE l u=some v'∧v'.den ρ=v.den ρ:=fun u v hv=>by
 rw[getE_cons]at hv
 split at hv
 ·rename_i e
  subst e
  injection hv with hv
  subst hv
  exact⟨trivial,_,ht,by simp[SV.den,At.den,hn]⟩
 ·exact⟨h2.get u v hv,v,h1.get u v hv,rfl⟩
/-- a growing list of one's own, given up: it is held raw -/
theorem vecGive{H:Hp}{nx:Nat}{iv:Iv}{B:Nat}{w w':World}{ρ:Nat→Sx.Val}(r:Rel H nx iv B w ρ w'){id t m sz:Nat}{cs:List Value}(h:getH H id=some (.vec t sz cs))(hm:cs.length=m*sz)(hm1:m≤maxLen)(hs:0<sz)(h0:0<m)(h1:∀u∈cs,u.oneCell'=true):
  (ρ id).nil=false∧B≤(ρ id).g∧SeqR w' (fun g=>g=(ρ id).g) sz (.slice (some ⟨(ρ id).g,0,none⟩) m (ρ id).cap) cs m:=by
 rcases r.vec id t sz _ h with⟨hn,rfl⟩|⟨hn,spare,hb,hc,hcap⟩
 ·have:=Nat.mul_pos h0 hs
  simp at hm
  omega
 ·refine⟨hn,(r.low id _ h hn).1,hm1,hm,h1,some ⟨(ρ id).g,0,none⟩,(ρ id).cap,rfl,?_,fun j x hx=>⟨_,rfl,rfl,?_⟩⟩
  ·have h1:(cs++spare).length=cs.length+spare.length:=List.length_append
   have h2:m*sz≤(ρ id).cap*sz:=by omega
   exact Nat.le_of_mul_le_mul_right h2 hs
  ·rw[addr_add,cell_of hb,Nat.zero_add,List.getElem?_append_left (List.getElem?_eq_some_iff.1 hx).1]
   exact hx
theorem rCheckSystem_c{S:Nat→Prop}{w:World}{v u:Value}{M:List (List (Int×Int))}{b:List (Int×Int)}(hS:Old S w)(h:RatMR w S v M)(hu:RatsR w S u b):
  Con PG N.ref01_CheckSystem #[v,u] w (Ret w fun v' _=>v'= .int .i64 ((errS M b:Nat):Int)):=by
 replace h:=RatMR.arg h []
 obtain⟨a,c,rfl,hc,hm⟩:=SlicesR.shape h
 obtain⟨a2,c2,rfl,hc2,hm2⟩:=ListR.shape hu
 refine in_ref01_CheckSystem (by simp) ?_
 unfold errS
 conv=>whnf
 refine callE_S (callE_con (Φ:=fun _ _ v _=>v= .int .i64 (errM M)) (fun ρ w' r=>rCheckMatrix_c (Rel.old r hS) (RatMR.rel h r hS)) ?_)
 rintro ρ wa v1 wb r' he hw rfl
 clear r' he h
 conv=>whnf
 refine BrS.mk (fun h0=>?_) (fun h0=>?_)
 ·have h0:errM M≠0:=fun e=>by rw[e]at h0;simp at h0
  rw[if_pos h0]
  conv=>whnf
  intro ρe we re
  exact⟨_,rfl,hw.tr re.bel,rfl⟩
 ·have h0:errM M=0:=by
   have h4:((errM M:Int)==0)=true:=by simpa using h0
   have:=eq_of_beq h4
   omega
  rw[if_neg (by omega)]
  conv=>whnf
  refine BrS.mk (fun h1=>?_) (fun h1=>?_)
  ·have h1:b.length≠M.length:=fun e=>by rw[e]at h1;simp at h1
   rw[if_pos h1]
   conv=>whnf
   intro ρe we re
   exact⟨_,rfl,hw.tr re.bel,rfl⟩
  ·have h1:b.length=M.length:=by
    have h4:((b.length:Int)==(M.length:Int))=true:=by simpa using h1
    have:=eq_of_beq h4
    omega
   rw[if_neg (by omega)]
   conv=>whnf
   intro ρe we re
   exact⟨_,rfl,hw.tr re.bel,rfl⟩
end Go.Ex

/- Elimination: prefixes of the columns, sums over a row, rows that are cleared. Plain. -/
namespace Go.Ex
theorem getD_take{r:List Rat}{w c:Nat}(h:c<w):(r.take w).getD c 0=r.getD c 0:=by
 simp only[List.getD,List.getElem?_take,if_pos h]
/-- the first columns -/
def tk(w:Nat)(M:List (List Rat)):List (List Rat):=M.map (·.take w)
theorem tk_length(w:Nat)(M:List (List Rat)):(tk w M).length=M.length:=List.length_map ..
theorem tk_getD(w:Nat)(M:List (List Rat))(i:Nat):(tk w M).getD i []=(M.getD i []).take w:=by
 unfold tk
 simp only[List.getD,List.getElem?_map]
 cases M[i]? <;>simp
theorem at2_tk{M:List (List Rat)}{w i c:Nat}(h:c<w):at2 (tk w M) i c=at2 M i c:=by
 unfold at2;rw[tk_getD,getD_take h]
theorem findK_tk{M:List (List Rat)}{w c:Nat}(h:c<w):∀f k,findK (tk w M) c f k=findK M c f k
 |0,k=>rfl
 |f+1,k=>by unfold findK;rw[at2_tk h,findK_tk h f (k+1)]
theorem swapL_tk(w:Nat)(M:List (List Rat))(i j:Nat):swapL [] (tk w M) i j=tk w (swapL [] M i j):=by
 unfold swapL
 rw[tk_getD,tk_getD]
 unfold tk
 rw[List.map_set,List.map_set]
theorem scaled_tk{M:List (List Rat)}{w a c:Nat}(h:c<w):scaled (tk w M) a c=tk w (scaled M a c):=by
 unfold scaled
 rw[tk_getD,at2_tk h]
 unfold tk
 rw[List.map_set,List.map_take]
theorem clearTo_tk{M:List (List Rat)}{w a c i:Nat}(h:c<w):clearTo (tk w M) a c i=tk w (clearTo M a c i):=by
 refine List.ext_getElem? fun j=>?_
 have hP:=tk_getD w M a
 unfold clearTo
 rw[hP]
 unfold tk
 simp only[List.getElem?_mapIdx,List.getElem?_map]
 cases M[j]? with
 |none=>rfl
 |some r=>
  simp only[Option.map_some]
  by_cases hj:j<i∧j≠a
  ·rw[if_pos hj,if_pos hj]
   congr 1
   refine List.ext_getElem? fun k=>?_
   rw[List.getElem?_mapIdx,List.getElem?_take,List.getElem?_take,List.getElem?_mapIdx,getD_take h]
   by_cases hk:k<w
   ·rw[if_pos hk,if_pos hk]
    cases r[k]? with
    |none=>rfl
    |some q=>simp only[Option.map_some,addR,getD_take hk]
   ·rw[if_neg hk,if_neg hk];rfl
  ·rw[if_neg hj,if_neg hj]
theorem stepF_tk{s:List (List Rat)×List Nat}{w c:Nat}(h:c<w):stepF (tk w s.1,s.2) c=(tk w (stepF s c).1,(stepF s c).2):=by
 unfold stepF
 simp only[tk_length,findK_tk h]
 split
 ·split
  ·rfl
  ·rw[swapL_tk,scaled_tk h,clearTo_tk h,tk_length]
 ·rfl
/-- an elimination in the first columns is one of the first columns -/
theorem reduceF_tk{M:List (List Rat)}{w:Nat}:∀cols,cols≤w→reduceF (tk w M) cols=(tk w (reduceF M cols).1,(reduceF M cols).2)
 |0,_=>rfl
 |c+1,h=>by
  have ih:=reduceF_tk (M:=M) (w:=w) c (by omega)
  unfold reduceF at ih ⊢
  rw[List.range_succ,List.foldl_append,List.foldl_append,ih]
  exact stepF_tk (s:=(List.range c).foldl stepF (M,[])) (w:=w) (c:=c) (by omega)

end Go.Ex

/- Elimination of a system: a contradiction is one, and the first columns alone give the same. Plain. -/
namespace Go.Ex
section
variable{M:List (List Rat)}{b:List Rat}{n:Nat}
/-- the matrix with the right sides as a last column -/
def widerF(M:List (List Rat))(b:List Rat):List (List Rat):=M.mapIdx fun i r=>r++[b.getD i 0]
theorem widerF_len(hl:Len n M):Len (n+1) (widerF M b):=fun r hr=>by
 obtain⟨i,hi⟩:=List.getElem?_of_mem hr
 unfold widerF at hi
 rw[List.getElem?_mapIdx]at hi
 cases hx:M[i]? with
 |none=>rw[hx]at hi;cases hi
 |some x=>
  rw[hx]at hi
  injection hi with hi
  subst hi
  rw[List.length_append,hl x (List.mem_of_getElem? hx)]
  rfl
theorem widerF_length:(widerF M b).length=M.length:=by simp[widerF]
theorem allF_tk1(hl:Len n M):tk (n+1) (allF M b)=widerF M b:=by
 refine List.ext_getElem? fun i=>?_
 unfold tk allF widerF
 rw[List.getElem?_map,List.getElem?_mapIdx,List.getElem?_mapIdx]
 cases hx:M[i]? with
 |none=>rfl
 |some x=>
  have hy:=hl x (List.mem_of_getElem? hx)
  simp only[Option.map_some]
  congr 1
  rw[List.take_append,List.take_of_length_le (by omega),hy,Nat.add_sub_cancel_left]
  rfl
theorem allF_tk0(hl:Len n M):tk n (allF M b)=M:=by
 refine List.ext_getElem? fun i=>?_
 unfold tk allF
 rw[List.getElem?_map,List.getElem?_mapIdx]
 cases hx:M[i]? with
 |none=>rfl
 |some x=>
  have hy:=hl x (List.mem_of_getElem? hx)
  simp only[Option.map_some]
  congr 1
  rw[List.take_append,List.take_of_length_le (by omega),hy,Nat.sub_self,List.take_zero,List.append_nil]
/-- a system's elimination tells the one of the matrix -/
theorem reduceF_M(hl:Len n M):reduceF M n=(tk n (reduceF (allF M b) n).1,(reduceF (allF M b) n).2):=by
 have:=reduceF_tk (M:=allF M b) n (Nat.le_refl n)
 rw[allF_tk0 hl]at this
 exact this
theorem reduceF_wider(hl:Len n M):reduceF (widerF M b) n=(tk (n+1) (reduceF (allF M b) n).1,(reduceF (allF M b) n).2):=by
 have:=reduceF_tk (M:=allF M b) (w:=n+1) n (by omega)
 rw[allF_tk1 hl]at this
 exact this
end
theorem xvecTo_tk(A:List (List Rat))(pv:List Nat)(n i:Nat):xvecTo (tk (n+1) A) pv n i=xvecTo A pv n i:=by
 unfold xvecTo
 simp only[at2_tk (Nat.lt_succ_self n)]
theorem kernelTo_tk(A:List (List Rat))(pv:List Nat)(n:Nat):kernelTo (tk n A) pv n n=kernelTo A pv n n:=by
 unfold kernelTo
 refine List.map_congr_left fun c hc=>?_
 have hc:c<n:=List.mem_range.1 (List.mem_filter.1 hc).1
 unfold kvecTo
 simp only[at2_tk hc]
end Go.Ex
