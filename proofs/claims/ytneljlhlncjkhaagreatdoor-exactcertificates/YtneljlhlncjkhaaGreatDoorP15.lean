/- A part of the proof: texts X94 to X100. Each tells its conditions in its theorems. -/
import Derived.Test.YtneljlhlncjkhaaGreatDoorP14
/- Times of the reference, alone of the laws; Solve and CheckSolution for a right side that is a combination of the columns. Printed by program. No condition but sizes. -/
namespace Go.Ex
open Go Go.Sx Go.Proofs

theorem timesF_length(M:List (List Rat))(x:List Rat):(timesF M x).length=M.length:=List.length_map ..
theorem rl_timesF{M:List (List Rat)}{x:List Rat}{h n:Nat}(hM:Ht M h)(hx:∀q∈x,rl q+1≤h)(h2:2≤h)(hn:∀r∈M,r.length≤n):∀q∈timesF M x,rl q≤2*h*n+2:=fun q hq=>by
 obtain⟨r,hr,rfl⟩:=List.mem_map.1 hq
 have h3:=rl_dotTo (hM r hr) hx h2 r.length
 have:=Nat.mul_le_mul_left (2*h) (hn r hr)
 omega
theorem rTimes_c{S:Nat→Prop}{w:World}{v u:Value}{M:List (List Rat)}{x:List Rat}{h:Nat}(hS:Old S w)(hM:RatML w S v M)(hx:RatsL w S u x)(hrow:∀r∈M,r.length=x.length)(hqM:Ht M h)(hqx:∀q∈x,rl q+1≤h)(h2:2≤h)(hb:2*h*x.length≤90000)(hR:M.length≤1000000):
  Con PG N.ref01_Times #[v,u] w (Ret w fun v' w2=>RatsC w2 (Nw (fun _=>False) w w2) v' (timesF M x)):=by
 have hw:Bel w.heap.size w w:=Bel.refl
 obtain⟨am,cm,rfl,hcm,hmm⟩:=SlicesR.shape hM
 obtain⟨ax,cx,rfl,hcx,-⟩:=ListR.shape hx
 unfold maxLen at hmm
 refine in_ref01_Times (by simp) ?_
 conv=>whnf
 refine⟨Nat×List (List Value)×World×Iv,fun z=>⟨[(0,.o (.v (.slice am M.length cm))),(1,.o (.v (.slice ax x.length cx))),(5,.o (.w 0 z.2.1.length)),(6,.o (.v (.int .i64 ((z.1:Nat):Int))))],[(0,.vec T.Rat 4 z.2.1.flatten)],1,z.2.2.2,z.2.2.1⟩,fun z=>M.length-z.1,
  fun z=>z.1≤M.length∧Bel w.heap.size w z.2.2.1∧Fc z.2.2.1 (Cv (fun _=>False) w.heap.size z.2.2.2) z.2.1 ((timesF M x).take z.1),?_,?_⟩
 ·intro ρ w' r
  exact⟨(0,[],w',[]),⟨Nat.zero_le _,hw.tr r.bel,by simp[Fc]⟩,Sub.nil 5 T.Rat 4 rfl (by simp[ScE,SV.sc,At.sc,initE]) r fun ρ1 r1=>
   Sub.gen [] r1 ⟨rfl,trivial⟩ ⟨rfl,rfl,rfl,rfl,trivial⟩ (by simp[ScH,Blk.scopd]) (by simp[ScE,SV.sc,At.sc]) (by rfl) (fun lo hi h=>h)⟩
 clear hw
 rintro⟨i,css,w1,iv⟩ ⟨hi,hw,hC⟩
 dsimp only at hi hw hC ⊢
 have hcl:css.length=i:=by rw[hC.1,List.length_take,timesF_length];omega
 have hfl:=flat_len hC.len4
 conv=>whnf
 refine BrS.mk (fun hib=>?_) (fun hib=>?_)
 ·have hib:i<M.length:=by simpa using hib
  obtain⟨ra,hra⟩:∃r,M[i]? =some r:=⟨_,List.getElem?_eq_getElem hib⟩
  have hral:=hrow ra (List.mem_of_getElem? hra)
  obtain⟨adm,um,ham,hRm,km1,km2⟩:=SlicesR.load hM hra
  obtain⟨au,cu,rfl,hcu,-⟩:=ListR.shape hRm
  conv=>whnf
  refine⟨adm,ham,⟨by omega,by omega⟩,?_⟩
  conv=>whnf
  refine⟨.slice au ra.length cu,fun ρ w' r=>?_,?_⟩
  ·rw[Int.toNat_natCast,cell_of_heap (w:=w) (w2:=w') (by rw[addB];exact(hw.tr r.bel).block _ (hS _ km1))]
   exact km2
  conv=>whnf
  refine callE_S (callE_con (Φ:=fun _ w' v w2=>RatC w2 (Nw (fun _=>False) w' w2) v (dotTo ra x ra.length)) (fun ρ w' r=>rDot_c (fun g hg=>by have:=hS g hg;have:=r.baseLe;omega) (RatsL.keep hRm (fun g hg=>(hw.tr r.bel).block g (hS g hg))) (RatsL.keep hx (fun g hg=>(hw.tr r.bel).block g (hS g hg))) hral (hqM ra (List.mem_of_getElem? hra)) hqx h2 (by rw[hral];exact hb)) ?_)
  rintro ρ wa1 v1 wb1 r he hb hn
  replace hw:=hw.tr hb
  replace hC:=hC.past (iv':=(wa1.heap.size,wb1.heap.size)::iv) r (oldF w) he fun x hx=>List.mem_cons_of_mem _ hx
  have hd:=hn.got (S:=fun _=>False) r.baseLe (iv:=(wa1.heap.size,wb1.heap.size)::iv) List.mem_cons_self
  clear r he hb hn
  generalize (wa1.heap.size,wb1.heap.size)::iv=iv1 at*
  obtain⟨s1_0,s1_1,s1_2,s1_3,s1_4,s1_5,s1_6,s1_7,rfl⟩:=hd.shape
  conv=>whnf
  have hC2:Fc wb1 (Cv (fun _=>False) w.heap.size iv1) (css++[[.bool s1_0,.slice s1_1 s1_2 s1_3,.bool s1_4,.slice s1_5 s1_6 s1_7]]) ((timesF M x).take (i+1)):=by
   have e:(timesF M x)[i]? =some (dotTo ra x ra.length):=by rw[timesF,List.getElem?_map,hra];rfl
   rw[List.take_add_one,e]
   exact hC.push hd.fourC
  have hfl2:css.flatten++([.bool s1_0,.slice s1_1 s1_2 s1_3,.bool s1_4,.slice s1_5 s1_6 s1_7]:List Value)=(css++([[.bool s1_0,.slice s1_1 s1_2 s1_3,.bool s1_4,.slice s1_5 s1_6 s1_7]]:List (List Value))).flatten:=by simp
  clear hC hd
  refine .inl ?_
  conv=>whnf
  refine⟨by omega,by omega,by unfold maxLen;omega,?_⟩
  conv=>whnf
  refine⟨((i+1:Nat):Int),by rw[wrap64]<;>omega,?_⟩
  conv=>whnf
  intro ρ3 w3 r3
  exact⟨(i+1,css++[[.bool s1_0,.slice s1_1 s1_2 s1_3,.bool s1_4,.slice s1_5 s1_6 s1_7]],w3,_),⟨hib,hw.tr r3.bel,hC2.rel r3 (oldF w)⟩,Sub.gen [(0,2)] r3 ⟨by dsimp only;rw[←hfl2];rfl,trivial⟩ ⟨rfl,rfl,by dsimp only;rw[List.length_append,List.length_singleton];rfl,rfl,trivial⟩ (by simp[ScH,Blk.scopd]) (by simp[ScE,SV.sc,At.sc]) (by rfl) (fun lo hi h=>h),by dsimp only;omega⟩
 have hib:i=M.length:=Nat.le_antisymm hi (by simpa using hib)
 conv=>whnf
 intro ρe we re
 refine⟨_,rfl,hw.tr re.bel,?_⟩
 rw[List.take_of_length_le (by rw[timesF_length];omega)]at hC
 have h5:=re.vecSeq (id:=0) (sz:=4) (m:=css.length) rfl hfl (by unfold maxLen;omega) (by decide) hC.one
 have h6:=hC.rel re (oldF w)
 refine⟨css,?_,h6.1,h6.len4,fun j cs q k1 k2=>(h6.2 j cs q k1 k2).weak fun _ hg=>Cv.nw hg re⟩
 rw[←hC.1]
 exact h5.weak fun g hg=>.inr hg
section
variable{S:Nat→Prop}{w:World}{v u:Value}{M:List (List (Int×Int))}{x:List Rat}
end
end Go.Ex

/- Certificates of linear programs of the reference: CheckProgram, CheckOptimum. Printed by program. No condition but sizes. -/
namespace Go.Ex
open Go Go.Sx Go.Proofs

theorem timesF_get{M:List (List Rat)}{x r:List Rat}{i:Nat}(h:M[i]? =some r):(timesF M x).getD i 0=dotTo r x r.length:=by
 rw[List.getD,timesF,List.getElem?_map,h];rfl
theorem ge_times{M:List (List Rat)}{x b:List Rat}(hl:b.length=M.length):GeF b (timesF M x)↔∀(i:Nat) r,M[i]? =some r→dotTo r x r.length≤b.getD i 0:=
 ⟨fun h i r hr=>timesF_get (x:=x) hr▸h i (by have:=(List.getElem?_eq_some_iff.1 hr).1;omega),fun h i hi=>by
  have hr:M[i]? =some (M[i]'(by omega)):=List.getElem?_eq_getElem (by omega)
  rw[timesF_get hr];exact h i _ hr⟩
theorem rzeros_c(n:Nat)(w:World)(hn:n≤1000000):Con PG N.ref01_zeros #[.int .i64 n] w (Ret w fun v' w2=>RatsC w2 (Nw (fun _=>False) w w2) v' (nulls n)):=by
 have hw:Bel w.heap.size w w:=Bel.refl
 refine in_ref01_zeros (by simp) ?_
 conv=>whnf
 refine⟨Nat×List (List Value)×World×Iv,fun z=>⟨[(0,.o (.v (.int .i64 n))),(3,.o (.w 0 z.2.1.length)),(4,.o (.v (.int .i64 ((z.1:Nat):Int))))],[(0,.vec T.Rat 4 z.2.1.flatten)],1,z.2.2.2,z.2.2.1⟩,fun z=>n-z.1,
  fun z=>z.1≤n∧Bel w.heap.size w z.2.2.1∧Fc z.2.2.1 (Cv (fun _=>False) w.heap.size z.2.2.2) z.2.1 (nulls z.1),?_,?_⟩
 ·intro ρ w' r
  exact⟨(0,[],w',[]),⟨Nat.zero_le _,hw.tr r.bel,by simp[Fc]⟩,Sub.nil 3 T.Rat 4 rfl (by simp[ScE,SV.sc,At.sc,initE]) r fun ρ1 r1=>
   Sub.gen [] r1 ⟨rfl,trivial⟩ ⟨rfl,rfl,rfl,trivial⟩ (by simp[ScH,Blk.scopd]) (by simp[ScE,SV.sc,At.sc]) (by rfl) (fun lo hi h=>h)⟩
 clear hw
 rintro⟨i,css,w1,iv⟩ ⟨hi,hw,hC⟩
 dsimp only at hi hw hC ⊢
 have hcl:css.length=i:=by rw[hC.1,nulls_len]
 have hfl:=flat_len hC.len4
 conv=>whnf
 refine BrS.mk (fun hib=>?_) (fun hib=>?_)
 ·have hib:i<n:=by simpa using hib
  conv=>whnf
  refine callE_S (callE_con (Φ:=fun _ w' v w2=>RatC w2 (Nw (fun _=>False) w' w2) v ((0:Int):Rat)) (fun ρ w' r=>rWholeAll_c 0 w' (by decide) (by decide)) ?_)
  rintro ρ wa1 v1 wb1 r he hb hn
  replace hw:=hw.tr hb
  replace hC:=hC.past (iv':=(wa1.heap.size,wb1.heap.size)::iv) r (oldF w) he fun x hx=>List.mem_cons_of_mem _ hx
  have hd:=hn.got (S:=fun _=>False) r.baseLe (iv:=(wa1.heap.size,wb1.heap.size)::iv) List.mem_cons_self
  clear r he hb hn
  generalize (wa1.heap.size,wb1.heap.size)::iv=iv1 at*
  obtain⟨s1_0,s1_1,s1_2,s1_3,s1_4,s1_5,s1_6,s1_7,rfl⟩:=hd.shape
  conv=>whnf
  have hC2:Fc wb1 (Cv (fun _=>False) w.heap.size iv1) (css++[[.bool s1_0,.slice s1_1 s1_2 s1_3,.bool s1_4,.slice s1_5 s1_6 s1_7]]) (nulls (i+1)):=by
   rw[show nulls (i+1)=nulls i++[0]from List.replicate_succ']
   exact hC.push hd.fourC
  have hfl2:css.flatten++([.bool s1_0,.slice s1_1 s1_2 s1_3,.bool s1_4,.slice s1_5 s1_6 s1_7]:List Value)=(css++([[.bool s1_0,.slice s1_1 s1_2 s1_3,.bool s1_4,.slice s1_5 s1_6 s1_7]]:List (List Value))).flatten:=by simp
  clear hC hd
  refine .inl ?_
  conv=>whnf
  refine⟨by omega,by omega,by unfold maxLen;omega,?_⟩
  conv=>whnf
  refine⟨((i+1:Nat):Int),by rw[wrap64]<;>omega,?_⟩
  conv=>whnf
  intro ρ3 w3 r3
  exact⟨(i+1,css++[[.bool s1_0,.slice s1_1 s1_2 s1_3,.bool s1_4,.slice s1_5 s1_6 s1_7]],w3,_),⟨hib,hw.tr r3.bel,hC2.rel r3 (oldF w)⟩,Sub.gen [(0,2)] r3 ⟨by dsimp only;rw[←hfl2];rfl,trivial⟩ ⟨rfl,by dsimp only;rw[List.length_append,List.length_singleton];rfl,rfl,trivial⟩ (by simp[ScH,Blk.scopd,At.sc]) (by simp[ScE,SV.sc,At.sc]) (by rfl) (fun lo hi h=>h),by dsimp only;omega⟩
 have hib:i=n:=Nat.le_antisymm hi (by simpa using hib)
 subst hib
 conv=>whnf
 intro ρe we re
 refine⟨_,rfl,hw.tr re.bel,?_⟩
 have h5:=re.vecSeq (id:=0) (sz:=4) (m:=css.length) rfl hfl (by unfold maxLen;omega) (by decide) hC.one
 have h6:=hC.rel re (oldF w)
 refine⟨css,?_,h6.1,h6.len4,fun j cs q k1 k2=>(h6.2 j cs q k1 k2).weak fun _ hg=>Cv.nw hg re⟩
 rw[←hC.1]
 exact h5.weak fun g hg=>.inr hg
theorem rCheckProgram_c{S:Nat→Prop}{w:World}{vm vb vc:Value}{M:List (List (Int×Int))}{b c:List (Int×Int)}(hS:Old S w)(h:RatMR w S vm M)(hb:RatsR w S vb b)(hc:RatsR w S vc c):
  Con PG N.ref01_CheckProgram #[.agg #[vm,vb,vc]] w (Ret w fun v' _=>v'= .int .i64 (errP M b c)):=by
 have hw:Bel w.heap.size w w:=Bel.refl
 obtain⟨am,cm,rfl,hcm,hmm⟩:=SlicesR.shape h
 obtain⟨ab,cb,rfl,hcb,hmb⟩:=ListR.shape hb
 obtain⟨ac,cc,rfl,hcc,hmc⟩:=ListR.shape hc
 unfold maxLen at hmm hmb hmc
 refine in_ref01_CheckProgram (by simp) ?_
 conv=>whnf
 refine callE_S (callE_con (Φ:=fun _ w' v w2=>v= .int .i64 (errM M)) (fun ρ w' r=>rCheckMatrix_c (fun g hg=>by have:=hS g hg;have:=r.baseLe;omega) (RatMR.keep h (fun g hg=>(hw.tr r.bel).block g (hS g hg)))) ?_)
 rintro ρ wa1 v1 wb1 r he hb rfl
 replace hw:=hw.tr hb
 clear r he hb
 generalize (wa1.heap.size,wb1.heap.size)::[]=iv1 at*
 conv=>whnf
 refine BrS.mk (fun he=>?_) (fun he=>?_)
 ·have he:errM M≠0:=fun e=>by rw[e]at he;simp at he
  conv=>whnf
  intro ρe we re
  exact⟨_,rfl,hw.tr re.bel,by unfold errP;rw[if_pos he];rfl⟩
 have he:errM M=0:=by
  have h4:((errM M:Int)==0)=true:=by simpa using he
  have:=eq_of_beq h4
  omega
 conv=>whnf
 refine drawn_of_pi hτ hmix [.x 0,.x 1,.x 2,.x 3,.x 4,.x 5,.x 6,.x 7,.x 8,.x 9,.x 10,.x 11,.x 12,.x 13,.x 14,.x 15,.x 16,.x 17,.x 18,.x 19,.x 20,.x 21] (by kernel_rfl) (by kernel_rfl) ?_
 conv=>whnf
 refine BrS.mk (fun hl=>?_) (fun hl=>?_)
 ·have hl:b.length≠M.length:=fun e=>by rw[e]at hl;simp at hl
  conv=>whnf
  intro ρe we re
  exact⟨_,rfl,hw.tr re.bel,by unfold errP;rw[if_neg (by omega),if_pos (.inl hl)];rfl⟩
 have hl:b.length=M.length:=by
  have h4:((b.length:Int)==(M.length:Int))=true:=by simpa using hl
  have:=eq_of_beq h4
  omega
 conv=>whnf
 refine BrS.mk (fun h0=>?_) (fun h0=>?_)
 ·have h0:0<M.length:=by have:(0:Int)<M.length:=(by simpa using h0);omega
  conv=>whnf
  refine callE_con (Φ:=fun _ w' v w2=>v= .int .i64 (colsM M)) (fun ρ w' r=>rColumns_c (fun g hg=>by have:=hS g hg;have:=r.baseLe;omega) (RatMR.keep h (fun g hg=>(hw.tr r.bel).block g (hS g hg)))) ?_
  rintro ρ wa2 v2 wb2 r he hb rfl
  replace hw:=hw.tr hb
  clear r he hb
  generalize (wa2.heap.size,wb2.heap.size)::iv1=iv2 at*
  conv=>whnf
  refine BrS.mk (fun h1=>?_) (fun h1=>?_)
  ·have h1:c.length≠colsM M:=fun e=>by rw[e]at h1;simp at h1
   conv=>whnf
   intro ρe we re
   exact⟨_,rfl,hw.tr re.bel,by unfold errP;rw[if_neg (by omega),if_pos (.inr ⟨h0,h1⟩)];rfl⟩
  have h1:c.length=colsM M:=by
   have h4:((c.length:Int)==(colsM M:Int))=true:=by simpa using h1
   have:=eq_of_beq h4
   omega
  conv=>whnf
  refine BrS.mk (fun h6=>?_) (fun h6=>?_)
  ·have h6:60<c.length:=by have:(60:Int)<c.length:=(by simpa using h6);omega
   conv=>whnf
   intro ρe we re
   exact⟨_,rfl,hw.tr re.bel,by unfold errP;rw[if_neg (by omega),if_neg (by omega),if_pos h6];rfl⟩
  have h6:¬60<c.length:=by have:¬(60:Int)<c.length:=(by simpa using h6);omega
  conv=>whnf
  intro ρe we re
  exact⟨_,rfl,hw.tr re.bel,by unfold errP;rw[if_neg (by omega),if_neg (by omega),if_neg h6];rfl⟩
 have h0:¬0<M.length:=by have:¬(0:Int)<M.length:=(by simpa using h0);omega
 conv=>whnf
 refine BrS.mk (fun h6=>?_) (fun h6=>?_)
 ·have h6:60<c.length:=by have:(60:Int)<c.length:=(by simpa using h6);omega
  conv=>whnf
  intro ρe we re
  exact⟨_,rfl,hw.tr re.bel,by unfold errP;rw[if_neg (by omega),if_neg (by omega),if_pos h6];rfl⟩
 have h6:¬60<c.length:=by have:¬(60:Int)<c.length:=(by simpa using h6);omega
 conv=>whnf
 intro ρe we re
 exact⟨_,rfl,hw.tr re.bel,by unfold errP;rw[if_neg (by omega),if_neg (by omega),if_neg h6];rfl⟩
theorem rAtLeast_c{S:Nat→Prop}{w:World}{v u:Value}{xs ys:List Rat}(hS:Old S w)(hx:RatsL w S v xs)(hy:RatsL w S u ys):
  Con PG N.ref01_AtLeast #[v,u] w (Ret w fun v' _=>∃d,v'= .bool d∧(d=true→xs.length=ys.length∧GeF xs ys)∧(xs.length=ys.length∧GeF xs ys→d=true)):=by
 have hw:Bel w.heap.size w w:=Bel.refl
 obtain⟨ax,cx,rfl,hcx,hmx⟩:=ListR.shape hx
 obtain⟨ay,cy,rfl,hcy,-⟩:=ListR.shape hy
 unfold maxLen at hmx
 refine in_ref01_AtLeast (by simp) ?_
 conv=>whnf
 refine BrS.mk (fun h0=>?_) (fun h0=>?_)
 ·have h0:xs.length≠ys.length:=fun e=>by rw[e]at h0;simp at h0
  conv=>whnf
  intro ρe we re
  exact⟨_,rfl,hw.tr re.bel,false,rfl,fun h=>(by cases h),fun h=>absurd h.1 h0⟩
 have h0:xs.length=ys.length:=by
  have h4:((xs.length:Int)==(ys.length:Int))=true:=by simpa using h0
  have:=eq_of_beq h4
  omega
 conv=>whnf
 refine⟨Nat×World×Iv,fun z=>⟨[(0,.o (.v (.slice ax xs.length cx))),(1,.o (.v (.slice ay ys.length cy))),(5,.o (.v (.int .i64 ((z.1:Nat):Int))))],[],0,z.2.2,z.2.1⟩,fun z=>xs.length-z.1,
  fun z=>z.1≤xs.length∧Bel w.heap.size w z.2.1∧∀j,j<z.1→ys.getD j 0≤xs.getD j 0,?_,?_⟩
 ·intro ρ w' r
  exact⟨(0,w',[]),⟨Nat.zero_le _,hw.tr r.bel,fun j hj=>by dsimp only at hj;omega⟩,Sub.gen [] r trivial ⟨rfl,rfl,rfl,trivial⟩ (by simp[ScH]) (by simp[ScE,SV.sc,At.sc]) (by rfl) (fun lo hi h=>h)⟩
 clear hw
 rintro⟨i,w1,iv⟩ ⟨hi,hw,ht⟩
 dsimp only at hi hw ht ⊢
 conv=>whnf
 refine BrS.mk (fun hib=>?_) (fun hib=>?_)
 ·have hib:i<xs.length:=by simpa using hib
  obtain⟨x,hxi⟩:∃x,xs[i]? =some x:=⟨_,List.getElem?_eq_getElem hib⟩
  obtain⟨y,hyi⟩:∃x,ys[i]? =some x:=⟨_,List.getElem?_eq_getElem (by omega)⟩
  have hx2:xs.getD i 0=x:=by rw[List.getD,hxi];rfl
  have hy2:ys.getD i 0=y:=by rw[List.getD,hyi];rfl
  obtain⟨adx,csx,hax,hFx,-,hlx⟩:=ListR.load hx hxi
  obtain⟨ady,csy,hay,hFy,-,hly⟩:=ListR.load hy hyi
  obtain⟨f0,f1,f2,f3,f4,f5,f6,f7,rfl,hFx⟩:=hFx
  obtain⟨q0,q1,q2,q3,q4,q5,q6,q7,rfl,hFy⟩:=hFy
  conv=>whnf
  refine drawn_of_pi hτ hmix [.x 0,.x 1,.x 2,.x 3,.x 4,.x 5,.x 6,.x 7,.x 8,.x 9] (by kernel_rfl) (by kernel_rfl) ?_
  conv=>whnf
  refine⟨adx,hax,⟨by omega,by omega⟩,?_⟩
  conv=>whnf
  refine⟨[.bool f0,.slice f1 f2 f3,.bool f4,.slice f5 f6 f7],rfl,fun ρ w' r j u hu=>?_,?_⟩
  ·obtain⟨k1,k2⟩:=hlx j u hu
   rw[Int.toNat_natCast,cell_of_heap (w:=w) (w2:=w') (by rw[addB,addB];exact(hw.tr r.bel).block _ (hS _ k1))]
   exact k2
  conv=>whnf
  refine⟨ady,hay,⟨by omega,by omega⟩,?_⟩
  conv=>whnf
  refine⟨[.bool q0,.slice q1 q2 q3,.bool q4,.slice q5 q6 q7],rfl,fun ρ w' r j u hu=>?_,?_⟩
  ·obtain⟨k1,k2⟩:=hly j u hu
   rw[Int.toNat_natCast,cell_of_heap (w:=w) (w2:=w') (by rw[addB,addB];exact(hw.tr r.bel).block _ (hS _ k1))]
   exact k2
  conv=>whnf
  refine callE_con (Φ:=fun _ w' v w2=>v= .int .i64 (rs (x-y))) (fun ρ w' r=>rCmp_c (fun g hg=>by have:=hS g hg;have:=r.baseLe;omega) (hFx.keep (fun g hg=>(hw.tr r.bel).block g (hS g hg))) (hFy.keep (fun g hg=>(hw.tr r.bel).block g (hS g hg)))) ?_
  rintro ρ wa1 v1 wb1 r he hb rfl
  replace hw:=hw.tr hb
  clear r he hb
  generalize (wa1.heap.size,wb1.heap.size)::iv=iv1 at*
  conv=>whnf
  refine BrS.mk (fun hs=>?_) (fun hs=>?_)
  ·have hs:x<y:=rs_sub_neg.1 (by simpa using hs)
   conv=>whnf
   intro ρe we re
   exact⟨_,rfl,hw.tr re.bel,false,rfl,fun h=>(by cases h),fun h=>absurd hs (Rat.not_lt.2 (by have:=h.2 i hib;rwa [hx2,hy2]at this))⟩
  have hs:y≤x:=Rat.not_lt.1 fun h=>absurd (rs_sub_neg.2 h) (by simpa using hs)
  conv=>whnf
  refine⟨((i+1:Nat):Int),by rw[wrap64]<;>omega,?_⟩
  conv=>whnf
  intro ρ3 w3 r3
  refine⟨(i+1,w3,_),⟨hib,hw.tr r3.bel,fun j hj=>?_⟩,Sub.gen [] r3 trivial ⟨rfl,rfl,rfl,trivial⟩ (by simp[ScH]) (by simp[ScE,SV.sc,At.sc]) (by rfl) (fun lo hi h=>h),by dsimp only;omega⟩
  rcases Nat.lt_or_ge j i with h1|h1
  ·exact ht j h1
  ·obtain rfl:j=i:=by dsimp only at hj;omega
   rw[hx2,hy2];exact hs
 have hib:i=xs.length:=Nat.le_antisymm hi (by simpa using hib)
 conv=>whnf
 intro ρe we re
 exact⟨_,rfl,hw.tr re.bel,true,rfl,fun _=>⟨h0,fun j hj=>ht j (by omega)⟩,fun _=>rfl⟩
theorem rPossible_c{S:Nat→Prop}{w:World}{vm vx vb:Value}{M:List (List Rat)}{x b:List Rat}{a1 a2:Option Addr}{n1 c1 n c2 h:Nat}(hS:Old S w)(hM:RatML w S vm M)(hx:RatsL w S vx x)(hb:RatsL w S vb b)(hbl:b.length=M.length)(hrow:∀r∈M,r.length=n)
  (hqM:Ht M h) (hqx:∀q∈x,rl q+1≤h) (h2:2≤h) (hb2:2*h*n≤90000) (hR:M.length≤1000000) (hn:n≤1000000):
  Con PG N.ref01_Possible #[.agg #[vm,.slice a1 n1 c1,.slice a2 n c2],vx,vb] w (Ret w fun v' _=>∃d,v'= .bool d∧(d=true→PosF M n x b)∧(PosF M n x b→d=true)):=by
 have hw:Bel w.heap.size w w:=Bel.refl
 obtain⟨am,cm,rfl,hcm,hmm⟩:=SlicesR.shape hM
 obtain⟨ax,cx,rfl,hcx,hmx⟩:=ListR.shape hx
 obtain⟨ab,cb,rfl,hcb,-⟩:=ListR.shape hb
 unfold maxLen at hmm hmx
 refine in_ref01_Possible (by simp) ?_
 conv=>whnf
 refine BrS.mk (fun hl=>?_) (fun hl=>?_)
 ·have hl:x.length=n:=by
   have h4:((x.length:Int)==(n:Int))=true:=by simpa using hl
   have:=eq_of_beq h4
   omega
  have htl:=rl_timesF (n:=n) hqM hqx h2 fun r hr=>by rw[hrow r hr];exact Nat.le_refl _
  conv=>whnf
  refine callE_S (callE_con (Φ:=fun _ w' v w2=>RatsC w2 (Nw (fun _=>False) w' w2) v (nulls n)) (fun ρ w' r=>rzeros_c n w' (by omega)) ?_)
  rintro ρ wa1 v1 wb1 r he hb hn
  replace hw:=hw.tr hb
  have hz:=RatsC.got (S:=fun _=>False) hn r.baseLe (iv:=(wa1.heap.size,wb1.heap.size)::[]) List.mem_cons_self
  clear r he hb hn
  generalize (wa1.heap.size,wb1.heap.size)::[]=iv1 at*
  obtain⟨ahz,chz,rfl,-,-⟩:=ListR.shape hz
  rw[List.length_replicate]at hz ⊢
  conv=>whnf
  refine callE_S (callE_con (Φ:=fun _ w' v w2=>∃d,v= .bool d∧(d=true→x.length=(nulls n).length∧GeF x (nulls n))∧(x.length=(nulls n).length∧GeF x (nulls n)→d=true)) (fun ρ w' r=>rAtLeast_c (Rel.old r hS) (RatsL.weak (RatsL.keep hx (fun g hg=>(hw.tr r.bel).block g (hS g hg))) fun _ hg=>(.inl hg:Cv S w.heap.size _ _)) (RatsL.weak (RatsC.l (RatsC.rel hz r (oldF w)) (fun q hq=>by rw[List.eq_of_mem_replicate hq];decide)) fun _ hg=>(cvF hg:Cv S w.heap.size _ _))) ?_)
  rintro ρ wa2 v2 wb2 r he hb ⟨d,rfl,hd1,hd2⟩
  replace hw:=hw.tr hb
  clear hz
  clear r he hb
  generalize (wa2.heap.size,wb2.heap.size)::iv1=iv2 at*
  conv=>whnf
  cases d with
  |false=>
   have hge:¬(x.length=(nulls n).length∧GeF x (nulls n)):=fun h=>absurd (hd2 h) (by decide)
   clear hd1 hd2
   conv=>whnf
   intro ρe we re
   exact⟨_,rfl,hw.tr re.bel,false,rfl,fun h=>(by cases h),fun h=>absurd ⟨hl.trans (nulls_len _).symm,hl▸h.2.1⟩ hge⟩
  |true=>
   have hge:x.length=(nulls n).length∧GeF x (nulls n):=hd1 rfl
   clear hd1 hd2
   conv=>whnf
   refine callE_S (callE_con (Φ:=fun _ w' v w2=>RatsC w2 (Nw (fun _=>False) w' w2) v (timesF M x)) (fun ρ w' r=>rTimes_c (fun g hg=>by have:=hS g hg;have:=r.baseLe;omega) (RatML.keep hM (fun g hg=>(hw.tr r.bel).block g (hS g hg))) (RatsL.keep hx (fun g hg=>(hw.tr r.bel).block g (hS g hg))) (fun r hr=>(hrow r hr).trans hl.symm) hqM hqx h2 (by rw[hl];exact hb2) (by omega)) ?_)
   rintro ρ wa3 v3 wb3 r he hb hn
   replace hw:=hw.tr hb
   have hT:=RatsC.got (S:=fun _=>False) hn r.baseLe (iv:=(wa3.heap.size,wb3.heap.size)::iv2) List.mem_cons_self
   clear r he hb
   generalize (wa3.heap.size,wb3.heap.size)::iv2=iv3 at*
   clear hn
   obtain⟨aT,cT,rfl,-,-⟩:=ListR.shape hT
   rw[timesF_length]at hT ⊢
   conv=>whnf
   refine callE_S (callE_con (Φ:=fun _ w' v w2=>∃d,v= .bool d∧(d=true→b.length=(timesF M x).length∧GeF b (timesF M x))∧(b.length=(timesF M x).length∧GeF b (timesF M x)→d=true)) (fun ρ w' r=>rAtLeast_c (Rel.old r hS) (RatsL.weak (RatsL.keep hb (fun g hg=>(hw.tr r.bel).block g (hS g hg))) fun _ hg=>(.inl hg:Cv S w.heap.size _ _)) (RatsL.weak (RatsC.l (RatsC.rel hT r (oldF w)) (fun q hq=>by have:=htl q hq;omega)) fun _ hg=>(cvF hg:Cv S w.heap.size _ _))) ?_)
   rintro ρ wa4 v4 wb4 r he hb ⟨d,rfl,hd1,hd2⟩
   replace hw:=hw.tr hb
   clear hT
   clear r he hb
   generalize (wa4.heap.size,wb4.heap.size)::iv3=iv4 at*
   conv=>whnf
   cases d with
   |false=>
    have hgt:¬(b.length=(timesF M x).length∧GeF b (timesF M x)):=fun h=>absurd (hd2 h) (by decide)
    clear hd1 hd2
    conv=>whnf
    intro ρe we re
    exact⟨_,rfl,hw.tr re.bel,false,rfl,fun h=>(by cases h),fun h=>absurd ⟨hbl.trans (timesF_length ..).symm,(ge_times hbl).2 h.2.2⟩ hgt⟩
   |true=>
    have hgt:b.length=(timesF M x).length∧GeF b (timesF M x):=hd1 rfl
    clear hd1 hd2
    conv=>whnf
    intro ρe we re
    exact⟨_,rfl,hw.tr re.bel,true,rfl,fun _=>⟨hl,hl.symm▸hge.2,(ge_times hbl).1 hgt.2⟩,fun _=>rfl⟩
 have hl:x.length≠n:=fun e=>by rw[e]at hl;simp at hl
 conv=>whnf
 intro ρe we re
 exact⟨_,rfl,hw.tr re.bel,false,rfl,fun h=>(by cases h),fun h=>absurd h.1 hl⟩
end Go.Ex

/- CheckOptimum of the reference. Printed by program. No condition but sizes. -/
namespace Go.Ex
open Go Go.Sx Go.Proofs

set_option maxRecDepth 4000 in
set_option maxHeartbeats 1000000 in
theorem rCheckOptimum_c{S:Nat→Prop}{w:World}{vm vb vc vx vy vr:Value}{z:Int}{A:List (List Rat)}{bs cs xs ys rs':List Rat}{q:Rat}{g1 g5:Option Addr}{g2 g3 g6 g7 h:Nat}{g0 g4:Bool}(hS:Old S w)
  (hm:RatML w S vm A) (hB:RatsL w S vb bs) (hc:RatsL w S vc cs) (hx:RatsL w S vx xs) (hy:RatsL w S vy ys) (hr:RatsL w S vr rs') (hv:RatL w S (.agg #[.bool g0,.slice g1 g2 g3,.bool g4,.slice g5 g6 g7]) q) (hblA:bs.length=A.length) (hrowA:∀r∈A,r.length=cs.length)
  (h2:2≤h) (hqM:Ht A h) (hqb:∀q∈bs,rl q+1≤h) (hqc:∀q∈cs,rl q+1≤h) (hqX:∀q∈xs,rl q+1≤h) (hqY:∀q∈ys,rl q+1≤h) (hqR:∀q∈rs',rl q+1≤h) (hn1:2*h*cs.length≤90000) (hn2:2*h*A.length≤90000) (hM6:A.length≤1000000) (hc6:cs.length≤1000000) (hx6:xs.length≤1000000) (hr6:rs'.length≤1000000):
  Con PG N.ref01_CheckOptimum #[.agg #[vm,vb,vc],.agg #[.int .i64 z,vx,vy,vr,.bool g0,.slice g1 g2 g3,.bool g4,.slice g5 g6 g7]] w (Ret w fun v' _=>∃e:Nat,v'= .int .i64 e∧(RightO A bs cs z xs ys rs' q→e=0)∧(¬RightO A bs cs z xs ys rs' q→e=25)):=by
 have hw:Bel w.heap.size w w:=Bel.refl
 obtain⟨am,cm,rfl,hcm,hmm⟩:=SlicesR.shape hm
 obtain⟨ab,cb,rfl,hcb,hmb⟩:=ListR.shape hB
 obtain⟨ac,cc,rfl,hcc,hmc⟩:=ListR.shape hc
 obtain⟨ax,cx,rfl,hcx,hmx⟩:=ListR.shape hx
 obtain⟨ay,cy,rfl,hcy,hmy⟩:=ListR.shape hy
 obtain⟨ar,cr,rfl,hcr,hmr⟩:=ListR.shape hr
 unfold maxLen at hmm hmb hmc
 refine in_ref01_CheckOptimum (by simp) ?_
 conv=>whnf
 refine drawn_of_pi hτ hmix [.x 0,.x 1,.x 2,.x 3,.x 4,.x 5,.x 6,.x 7] (by kernel_rfl) (by kernel_rfl) ?_
 conv=>whnf
 refine BrS.mk (fun hz=>?_) (fun hz=>?_)
 ·have hz:z=0:=by simpa using hz
  subst hz
  have hright:(rs'=[]∧PosF A cs.length xs bs∧BndF A ys cs∧dotTo cs xs cs.length=q∧dotTo ys bs ys.length=q)↔RightO A bs cs 0 xs ys rs' q:=by
   unfold RightO
   constructor
   ·exact fun h=>.inl ⟨rfl,h⟩
   ·rintro(⟨-,h⟩|⟨h,-⟩|⟨h,-⟩)
    ·exact h
    ·exact absurd h (by decide)
    ·exact absurd h (by decide)
  conv=>whnf
  refine drawn_of_pi hτ hmix [.x 0,.x 1,.x 2,.x 3,.x 4,.x 5,.x 6,.x 7,.x 8,.x 9,.x 10,.x 11,.x 12,.x 13,.x 14,.x 15,.x 16,.x 17,.x 18,.x 19,.x 20,.x 21,.x 22,.x 23,.x 24,.x 26,.x 27,.x 25,.x 28,.x 29,.x 30,.x 31,.x 32,.x 33,.x 34,.x 36,.x 37,.x 35,.x 38,.x 39,.x 40,.x 41,.x 42,.x 43,.x 44,.x 45,.x 47,.x 48,.x 46,.x 49,.x 50,.x 51,.x 52] (by kernel_rfl) (by kernel_rfl) ?_
  conv=>whnf
  refine BrS.mk (fun hr0=>?_) (fun hr0=>?_)
  ·have hr0:rs'=[]:=List.eq_nil_of_length_eq_zero (by have:(rs'.length:Int)=0:=(by simpa using hr0);omega)
   conv=>whnf
   refine callE_con (Φ:=fun _ w' v w2=>∃d,v= .bool d∧(d=true→PosF A cs.length xs bs)∧(PosF A cs.length xs bs→d=true)) (fun ρ w' r=>rPossible_c (h:=h) (Rel.old r hS) (RatML.weak (RatML.keep hm (fun g hg=>(hw.tr r.bel).block g (hS g hg))) fun _ hg=>(.inl hg:Cv S w.heap.size _ _)) (RatsL.weak (RatsL.keep hx (fun g hg=>(hw.tr r.bel).block g (hS g hg))) fun _ hg=>(.inl hg:Cv S w.heap.size _ _)) (RatsL.weak (RatsL.keep hB (fun g hg=>(hw.tr r.bel).block g (hS g hg))) fun _ hg=>(.inl hg:Cv S w.heap.size _ _)) hblA hrowA hqM hqX h2 hn1 (by omega) (by omega)) ?_
   rintro ρ wa1 v1 wb1 r he hb ⟨d,rfl,hd1,hd2⟩
   replace hw:=hw.tr hb
   clear r he hb
   generalize (wa1.heap.size,wb1.heap.size)::[]=iv1 at*
   conv=>whnf
   cases d with
   |false=>
    have hpo:¬(PosF A cs.length xs bs):=fun h=>absurd (hd2 h) (by decide)
    clear hd1 hd2
    conv=>whnf
    conv=>whnf
    intro ρe we re
    exact⟨_,rfl,hw.tr re.bel,25,rfl,fun h=>absurd h (fun h=>hpo (hright.2 h).2.1),fun _=>rfl⟩
   |true=>
    have hpo:PosF A cs.length xs bs:=hd1 rfl
    clear hd1 hd2
    conv=>whnf
    refine callE_con (Φ:=fun _ w' v w2=>RatsC w2 (Nw (fun _=>False) w' w2) v (nulls A.length)) (fun ρ w' r=>rzeros_c A.length w' (by omega)) ?_
    rintro ρ wa2 v2 wb2 r he hb hn
    replace hw:=hw.tr hb
    have hz:=RatsC.got (S:=fun _=>False) hn r.baseLe (iv:=(wa2.heap.size,wb2.heap.size)::iv1) List.mem_cons_self
    clear r he hb hn
    generalize (wa2.heap.size,wb2.heap.size)::iv1=iv2 at*
    obtain⟨ahz,chz,rfl,-,-⟩:=ListR.shape hz
    rw[List.length_replicate]at hz ⊢
    conv=>whnf
    refine callE_con (Φ:=fun _ w' v w2=>∃d,v= .bool d∧(d=true→ys.length=(nulls A.length).length∧GeF ys (nulls A.length))∧(ys.length=(nulls A.length).length∧GeF ys (nulls A.length)→d=true)) (fun ρ w' r=>rAtLeast_c (Rel.old r hS) (RatsL.weak (RatsL.keep hy (fun g hg=>(hw.tr r.bel).block g (hS g hg))) fun _ hg=>(.inl hg:Cv S w.heap.size _ _)) (RatsL.weak (RatsC.l (RatsC.rel hz r (oldF w)) (fun q hq=>by rw[List.eq_of_mem_replicate hq];decide)) fun _ hg=>(cvF hg:Cv S w.heap.size _ _))) ?_
    rintro ρ wa3 v3 wb3 r he hb ⟨d,rfl,hd1,hd2⟩
    replace hw:=hw.tr hb
    clear hz
    clear r he hb
    generalize (wa3.heap.size,wb3.heap.size)::iv2=iv3 at*
    conv=>whnf
    cases d with
    |false=>
     have hge:¬(ys.length=(nulls A.length).length∧GeF ys (nulls A.length)):=fun h=>absurd (hd2 h) (by decide)
     clear hd1 hd2
     conv=>whnf
     conv=>whnf
     intro ρe we re
     exact⟨_,rfl,hw.tr re.bel,25,rfl,fun h=>absurd h (fun h=>hge (by have h:=(hright.2 h).2.2.1;exact⟨h.1.trans (nulls_len _).symm,h.1▸h.2.1⟩)),fun _=>rfl⟩
    |true=>
     have hge:ys.length=(nulls A.length).length∧GeF ys (nulls A.length):=hd1 rfl
     clear hd1 hd2
     conv=>whnf
     have hyl:ys.length=A.length:=hge.1.trans (nulls_len _)
     have hyg:GeF ys (nulls ys.length):=hyl.symm▸hge.2
     refine callE_con (Φ:=fun _ w' v w2=>RatsC w2 (Nw (fun _=>False) w' w2) v (throughF ys A cs.length A.length)) (fun ρ w' r=>rBefore_c (h:=h) (fun g hg=>by have:=hS g hg;have:=r.baseLe;omega) (RatsL.keep hy (fun g hg=>(hw.tr r.bel).block g (hS g hg))) (RatML.keep hm (fun g hg=>(hw.tr r.bel).block g (hS g hg))) hyl hrowA (by omega) hqY hqM h2 hn2) ?_
     rintro ρ wa4 v4 wb4 r he hb hn
     replace hw:=hw.tr hb
     have hT:=RatsC.got (S:=fun _=>False) hn r.baseLe (iv:=(wa4.heap.size,wb4.heap.size)::iv3) List.mem_cons_self
     clear r he hb
     generalize (wa4.heap.size,wb4.heap.size)::iv3=iv4 at*
     clear hn
     obtain⟨aT,cT,rfl,-,-⟩:=ListR.shape hT
     rw[throughF_length]at hT ⊢
     conv=>whnf
     refine callE_con (Φ:=fun _ w' v w2=>∃d,v= .bool d∧(d=true→(throughF ys A cs.length A.length).length=cs.length∧GeF (throughF ys A cs.length A.length) cs)∧((throughF ys A cs.length A.length).length=cs.length∧GeF (throughF ys A cs.length A.length) cs→d=true)) (fun ρ w' r=>rAtLeast_c (Rel.old r hS) (RatsL.weak (RatsC.l (RatsC.rel hT r (oldF w)) (fun q hq=>by have:=rl_throughF hqY hqM h2 cs.length A.length q hq;omega)) fun _ hg=>(cvF hg:Cv S w.heap.size _ _)) (RatsL.weak (RatsL.keep hc (fun g hg=>(hw.tr r.bel).block g (hS g hg))) fun _ hg=>(.inl hg:Cv S w.heap.size _ _))) ?_
     rintro ρ wa5 v5 wb5 r he hb ⟨d,rfl,hd1,hd2⟩
     replace hw:=hw.tr hb
     clear hT
     clear r he hb
     generalize (wa5.heap.size,wb5.heap.size)::iv4=iv5 at*
     conv=>whnf
     cases d with
     |false=>
      have hbo:¬((throughF ys A cs.length A.length).length=cs.length∧GeF (throughF ys A cs.length A.length) cs):=fun h=>absurd (hd2 h) (by decide)
      clear hd1 hd2
      conv=>whnf
      conv=>whnf
      intro ρe we re
      exact⟨_,rfl,hw.tr re.bel,25,rfl,fun h=>absurd h (fun h=>hbo ⟨throughF_length ..,(hright.2 h).2.2.1.2.2⟩),fun _=>rfl⟩
     |true=>
      have hbo:(throughF ys A cs.length A.length).length=cs.length∧GeF (throughF ys A cs.length A.length) cs:=hd1 rfl
      clear hd1 hd2
      conv=>whnf
      refine callE_con (Φ:=fun _ w' v w2=>RatC w2 (Nw (fun _=>False) w' w2) v (dotTo cs xs cs.length)) (fun ρ w' r=>rDot_c (h:=h) (fun g hg=>by have:=hS g hg;have:=r.baseLe;omega) (RatsL.keep hc (fun g hg=>(hw.tr r.bel).block g (hS g hg))) (RatsL.keep hx (fun g hg=>(hw.tr r.bel).block g (hS g hg))) hpo.1.symm hqc hqX h2 hn1) ?_
      rintro ρ wa6 v6 wb6 r he hb hn
      replace hw:=hw.tr hb
      have hd:=hn.got (S:=fun _=>False) r.baseLe (iv:=(wa6.heap.size,wb6.heap.size)::iv5) List.mem_cons_self
      clear r he hb hn
      generalize (wa6.heap.size,wb6.heap.size)::iv5=iv6 at*
      obtain⟨s6_0,s6_1,s6_2,s6_3,s6_4,s6_5,s6_6,s6_7,rfl⟩:=hd.shape
      conv=>whnf
      have hdl:=rl_dotTo hqc hqX h2 cs.length
      have hdm:=hn1
      refine callE_con (Φ:=fun _ w' v w2=>v= .int .i64 (rs (dotTo cs xs cs.length-q))) (fun ρ w' r=>rCmp_c (Rel.old r hS) (RatC.l (RatC.weak (RatC.rel hd r (oldF w)) fun _ hg=>(cvF hg:Cv S w.heap.size _ _)) (by omega)) (RatL.weak (RatL.keep hv (fun g hg=>(hw.tr r.bel).block g (hS g hg))) fun _ hg=>(.inl hg:Cv S w.heap.size _ _))) ?_
      rintro ρ wa7 v7 wb7 r he hb rfl
      replace hw:=hw.tr hb
      clear hd
      clear r he hb
      generalize (wa7.heap.size,wb7.heap.size)::iv6=iv7 at*
      conv=>whnf
      refine BrS.mk (fun he1=>?_) (fun he1=>?_)
      ·have he1:dotTo cs xs cs.length=q:=rs_eq.1 (by simpa using he1)
       conv=>whnf
       refine callE_con (Φ:=fun _ w' v w2=>RatC w2 (Nw (fun _=>False) w' w2) v (dotTo ys bs ys.length)) (fun ρ w' r=>rDot_c (h:=h) (fun g hg=>by have:=hS g hg;have:=r.baseLe;omega) (RatsL.keep hy (fun g hg=>(hw.tr r.bel).block g (hS g hg))) (RatsL.keep hB (fun g hg=>(hw.tr r.bel).block g (hS g hg))) (hyl.trans hblA.symm) hqY hqb h2 (show 2*h*ys.length≤90000 by rw[hyl];exact hn2)) ?_
       rintro ρ wa8 v8 wb8 r he hb hn
       replace hw:=hw.tr hb
       have hd:=hn.got (S:=fun _=>False) r.baseLe (iv:=(wa8.heap.size,wb8.heap.size)::iv7) List.mem_cons_self
       clear r he hb hn
       generalize (wa8.heap.size,wb8.heap.size)::iv7=iv8 at*
       obtain⟨s8_0,s8_1,s8_2,s8_3,s8_4,s8_5,s8_6,s8_7,rfl⟩:=hd.shape
       conv=>whnf
       have hdl:=rl_dotTo hqY hqb h2 ys.length
       have hdm:=(show 2*h*ys.length≤90000 by rw[hyl];exact hn2)
       refine callE_con (Φ:=fun _ w' v w2=>v= .int .i64 (rs (dotTo ys bs ys.length-q))) (fun ρ w' r=>rCmp_c (Rel.old r hS) (RatC.l (RatC.weak (RatC.rel hd r (oldF w)) fun _ hg=>(cvF hg:Cv S w.heap.size _ _)) (by omega)) (RatL.weak (RatL.keep hv (fun g hg=>(hw.tr r.bel).block g (hS g hg))) fun _ hg=>(.inl hg:Cv S w.heap.size _ _))) ?_
       rintro ρ wa9 v9 wb9 r he hb rfl
       replace hw:=hw.tr hb
       clear hd
       clear r he hb
       generalize (wa9.heap.size,wb9.heap.size)::iv8=iv9 at*
       conv=>whnf
       refine BrS.mk (fun he2=>?_) (fun he2=>?_)
       ·have he2:dotTo ys bs ys.length≠q:=fun e=>by rw[rs_eq.2 e]at he2;simp at he2
        conv=>whnf
        intro ρe we re
        exact⟨_,rfl,hw.tr re.bel,25,rfl,fun h=>absurd h (fun h=>he2 (hright.2 h).2.2.2.2),fun _=>rfl⟩
       have he2:dotTo ys bs ys.length=q:=rs_eq.1 (by simpa using he2)
       conv=>whnf
       intro ρe we re
       exact⟨_,rfl,hw.tr re.bel,0,rfl,fun _=>rfl,fun h=>absurd (hright.1 ⟨hr0,hpo,⟨hyl,hyg,hbo.2⟩,he1,he2⟩) h⟩
      have he1:dotTo cs xs cs.length≠q:=fun e=>by rw[rs_eq.2 e]at he1;simp at he1
      conv=>whnf
      intro ρe we re
      exact⟨_,rfl,hw.tr re.bel,25,rfl,fun h=>absurd h (fun h=>he1 (hright.2 h).2.2.2.1),fun _=>rfl⟩
  have hr0:rs'≠[]:=fun e=>by rw[e]at hr0;simp at hr0
  conv=>whnf
  intro ρe we re
  exact⟨_,rfl,hw.tr re.bel,25,rfl,fun h=>absurd h (fun h=>hr0 (hright.2 h).1),fun _=>rfl⟩
 have hz:z≠0:=by simpa using hz
 conv=>whnf
 refine BrS.mk (fun hz1=>?_) (fun hz1=>?_)
 ·have hz1:z=1:=by simpa using hz1
  subst hz1
  have hright:(xs=[]∧rs'=[]∧q=0∧BndF A ys (nulls cs.length)∧dotTo ys bs ys.length<0)↔RightO A bs cs 1 xs ys rs' q:=by
   unfold RightO
   constructor
   ·exact fun h=>.inr (.inl ⟨rfl,h⟩)
   ·rintro(⟨h,-⟩|⟨-,h⟩|⟨h,-⟩)
    ·exact absurd h (by decide)
    ·exact h
    ·exact absurd h (by decide)
  conv=>whnf
  refine drawn_of_pi hτ hmix [.x 0,.x 1,.x 2,.x 3,.x 4,.x 5,.x 6,.x 7,.x 8,.x 9,.x 10,.x 11,.x 12,.x 13,.x 14,.x 15,.x 16,.x 17,.x 18,.x 19,.x 20,.x 21,.x 22,.x 23,.x 24,.x 25,.x 26,.x 28,.x 27,.x 29,.x 30,.x 31,.x 32,.x 33,.x 34,.x 35,.x 36,.x 37,.x 38,.x 39,.x 40,.x 41] (by kernel_rfl) (by kernel_rfl) ?_
  conv=>whnf
  refine⟨((xs.length+rs'.length:Nat):Int),by rw[wrap64]<;>omega,?_⟩
  conv=>whnf
  refine BrS.mk (fun hx0=>?_) (fun hx0=>?_)
  ·have hx0:xs.length+rs'.length=0:=by have:((xs.length+rs'.length:Nat):Int)=0:=(by simpa using hx0);omega
   have hr0:rs'=[]:=List.eq_nil_of_length_eq_zero (by omega)
   replace hx0:xs=[]:=List.eq_nil_of_length_eq_zero (by omega)
   conv=>whnf
   refine callE_con (Φ:=fun _ w' v w2=>v= .int .i64 (rs q)) (fun ρ w' r=>rSignOfL_c (fun g hg=>by have:=hS g hg;have:=r.baseLe;omega) (RatL.keep hv (fun g hg=>(hw.tr r.bel).block g (hS g hg)))) ?_
   rintro ρ wa1 v1 wb1 r he hb rfl
   replace hw:=hw.tr hb
   clear r he hb
   generalize (wa1.heap.size,wb1.heap.size)::[]=iv1 at*
   conv=>whnf
   refine BrS.mk (fun hq0=>?_) (fun hq0=>?_)
   ·have hq0:q=0:=rs_zero.1 (by simpa using hq0)
    conv=>whnf
    refine callE_con (Φ:=fun _ w' v w2=>RatsC w2 (Nw (fun _=>False) w' w2) v (nulls A.length)) (fun ρ w' r=>rzeros_c A.length w' (by omega)) ?_
    rintro ρ wa2 v2 wb2 r he hb hn
    replace hw:=hw.tr hb
    have hz:=RatsC.got (S:=fun _=>False) hn r.baseLe (iv:=(wa2.heap.size,wb2.heap.size)::iv1) List.mem_cons_self
    clear r he hb hn
    generalize (wa2.heap.size,wb2.heap.size)::iv1=iv2 at*
    obtain⟨ahz,chz,rfl,-,-⟩:=ListR.shape hz
    rw[List.length_replicate]at hz ⊢
    conv=>whnf
    refine callE_con (Φ:=fun _ w' v w2=>∃d,v= .bool d∧(d=true→ys.length=(nulls A.length).length∧GeF ys (nulls A.length))∧(ys.length=(nulls A.length).length∧GeF ys (nulls A.length)→d=true)) (fun ρ w' r=>rAtLeast_c (Rel.old r hS) (RatsL.weak (RatsL.keep hy (fun g hg=>(hw.tr r.bel).block g (hS g hg))) fun _ hg=>(.inl hg:Cv S w.heap.size _ _)) (RatsL.weak (RatsC.l (RatsC.rel hz r (oldF w)) (fun q hq=>by rw[List.eq_of_mem_replicate hq];decide)) fun _ hg=>(cvF hg:Cv S w.heap.size _ _))) ?_
    rintro ρ wa3 v3 wb3 r he hb ⟨d,rfl,hd1,hd2⟩
    replace hw:=hw.tr hb
    clear hz
    clear r he hb
    generalize (wa3.heap.size,wb3.heap.size)::iv2=iv3 at*
    conv=>whnf
    cases d with
    |false=>
     have hge:¬(ys.length=(nulls A.length).length∧GeF ys (nulls A.length)):=fun h=>absurd (hd2 h) (by decide)
     clear hd1 hd2
     conv=>whnf
     conv=>whnf
     intro ρe we re
     exact⟨_,rfl,hw.tr re.bel,25,rfl,fun h=>absurd h (fun h=>hge (by have h:=(hright.2 h).2.2.2.1;exact⟨h.1.trans (nulls_len _).symm,h.1▸h.2.1⟩)),fun _=>rfl⟩
    |true=>
     have hge:ys.length=(nulls A.length).length∧GeF ys (nulls A.length):=hd1 rfl
     clear hd1 hd2
     conv=>whnf
     have hyl:ys.length=A.length:=hge.1.trans (nulls_len _)
     have hyg:GeF ys (nulls ys.length):=hyl.symm▸hge.2
     refine callE_con (Φ:=fun _ w' v w2=>RatsC w2 (Nw (fun _=>False) w' w2) v (throughF ys A cs.length A.length)) (fun ρ w' r=>rBefore_c (h:=h) (fun g hg=>by have:=hS g hg;have:=r.baseLe;omega) (RatsL.keep hy (fun g hg=>(hw.tr r.bel).block g (hS g hg))) (RatML.keep hm (fun g hg=>(hw.tr r.bel).block g (hS g hg))) hyl hrowA (by omega) hqY hqM h2 hn2) ?_
     rintro ρ wa4 v4 wb4 r he hb hn
     replace hw:=hw.tr hb
     have hT:=RatsC.got (S:=fun _=>False) hn r.baseLe (iv:=(wa4.heap.size,wb4.heap.size)::iv3) List.mem_cons_self
     clear r he hb
     generalize (wa4.heap.size,wb4.heap.size)::iv3=iv4 at*
     clear hn
     obtain⟨aT,cT,rfl,-,-⟩:=ListR.shape hT
     rw[throughF_length]at hT ⊢
     conv=>whnf
     refine callE_con (Φ:=fun _ w' v w2=>RatsC w2 (Nw (fun _=>False) w' w2) v (nulls cs.length)) (fun ρ w' r=>rzeros_c cs.length w' (by omega)) ?_
     rintro ρ wa5 v5 wb5 r he hb hn
     replace hw:=hw.tr hb
     replace hT:=RatsC.past (iv':=(wa5.heap.size,wb5.heap.size)::iv4) hT r (oldF w) he fun x hx=>List.mem_cons_of_mem _ hx
     have hz:=RatsC.got (S:=fun _=>False) hn r.baseLe (iv:=(wa5.heap.size,wb5.heap.size)::iv4) List.mem_cons_self
     clear r he hb hn
     generalize (wa5.heap.size,wb5.heap.size)::iv4=iv5 at*
     obtain⟨ahz,chz,rfl,-,-⟩:=ListR.shape hz
     rw[List.length_replicate]at hz ⊢
     conv=>whnf
     refine callE_con (Φ:=fun _ w' v w2=>∃d,v= .bool d∧(d=true→(throughF ys A cs.length A.length).length=(nulls cs.length).length∧GeF (throughF ys A cs.length A.length) (nulls cs.length))∧((throughF ys A cs.length A.length).length=(nulls cs.length).length∧GeF (throughF ys A cs.length A.length) (nulls cs.length)→d=true)) (fun ρ w' r=>rAtLeast_c (Rel.old r hS) (RatsL.weak (RatsC.l (RatsC.rel hT r (oldF w)) (fun q hq=>by have:=rl_throughF hqY hqM h2 cs.length A.length q hq;omega)) fun _ hg=>(cvF hg:Cv S w.heap.size _ _)) (RatsL.weak (RatsC.l (RatsC.rel hz r (oldF w)) (fun q hq=>by rw[List.eq_of_mem_replicate hq];decide)) fun _ hg=>(cvF hg:Cv S w.heap.size _ _))) ?_
     rintro ρ wa6 v6 wb6 r he hb ⟨d,rfl,hd1,hd2⟩
     replace hw:=hw.tr hb
     clear hT
     clear hz
     clear r he hb
     generalize (wa6.heap.size,wb6.heap.size)::iv5=iv6 at*
     conv=>whnf
     cases d with
     |false=>
      have hbo:¬((throughF ys A cs.length A.length).length=(nulls cs.length).length∧GeF (throughF ys A cs.length A.length) (nulls cs.length)):=fun h=>absurd (hd2 h) (by decide)
      clear hd1 hd2
      conv=>whnf
      conv=>whnf
      intro ρe we re
      exact⟨_,rfl,hw.tr re.bel,25,rfl,fun h=>absurd h (fun h=>hbo ⟨(throughF_length ..).trans (nulls_len _).symm,by have h:=(hright.2 h).2.2.2.1.2.2;rw[nulls_len]at h;exact h⟩),fun _=>rfl⟩
     |true=>
      have hbo:(throughF ys A cs.length A.length).length=(nulls cs.length).length∧GeF (throughF ys A cs.length A.length) (nulls cs.length):=hd1 rfl
      clear hd1 hd2
      conv=>whnf
      refine callE_con (Φ:=fun _ w' v w2=>RatC w2 (Nw (fun _=>False) w' w2) v (dotTo ys bs ys.length)) (fun ρ w' r=>rDot_c (h:=h) (fun g hg=>by have:=hS g hg;have:=r.baseLe;omega) (RatsL.keep hy (fun g hg=>(hw.tr r.bel).block g (hS g hg))) (RatsL.keep hB (fun g hg=>(hw.tr r.bel).block g (hS g hg))) (hyl.trans hblA.symm) hqY hqb h2 (show 2*h*ys.length≤90000 by rw[hyl];exact hn2)) ?_
      rintro ρ wa7 v7 wb7 r he hb hn
      replace hw:=hw.tr hb
      have hd:=hn.got (S:=fun _=>False) r.baseLe (iv:=(wa7.heap.size,wb7.heap.size)::iv6) List.mem_cons_self
      clear r he hb hn
      generalize (wa7.heap.size,wb7.heap.size)::iv6=iv7 at*
      obtain⟨s7_0,s7_1,s7_2,s7_3,s7_4,s7_5,s7_6,s7_7,rfl⟩:=hd.shape
      conv=>whnf
      have hdl:=rl_dotTo hqY hqb h2 ys.length
      have hdm:=(show 2*h*ys.length≤90000 by rw[hyl];exact hn2)
      refine callE_con (Φ:=fun _ w' v w2=>v= .int .i64 (rs (dotTo ys bs ys.length))) (fun ρ w' r=>rSignOf_c (Rel.old r (oldF w)) (hd.rel r (oldF w))) ?_
      rintro ρ wa8 v8 wb8 r he hb rfl
      replace hw:=hw.tr hb
      clear hd
      clear r he hb
      generalize (wa8.heap.size,wb8.heap.size)::iv7=iv8 at*
      conv=>whnf
      refine BrS.mk (fun he2=>?_) (fun he2=>?_)
      ·have he2:¬dotTo ys bs ys.length<0:=fun e=>absurd (rs_neg_iff.2 e) (by simpa using he2)
       conv=>whnf
       intro ρe we re
       exact⟨_,rfl,hw.tr re.bel,25,rfl,fun h=>absurd h (fun h=>he2 (hright.2 h).2.2.2.2),fun _=>rfl⟩
      have he2:dotTo ys bs ys.length<0:=rs_neg_iff.1 (by simpa using he2)
      conv=>whnf
      intro ρe we re
      exact⟨_,rfl,hw.tr re.bel,0,rfl,fun _=>rfl,fun h=>absurd (hright.1 ⟨hx0,hr0,hq0,⟨hyl,hyg,by rw[nulls_len];exact hbo.2⟩,he2⟩) h⟩
   have hq0:q≠0:=fun e=>by rw[rs_zero.2 e]at hq0;simp at hq0
   conv=>whnf
   intro ρe we re
   exact⟨_,rfl,hw.tr re.bel,25,rfl,fun h=>absurd h (fun h=>hq0 (hright.2 h).2.2.1),fun _=>rfl⟩
  have hx0:¬(xs=[]∧rs'=[]):=fun⟨e1,e2⟩=>by rw[e1,e2]at hx0;simp at hx0
  conv=>whnf
  intro ρe we re
  exact⟨_,rfl,hw.tr re.bel,25,rfl,fun h=>absurd h (fun h=>hx0 ⟨(hright.2 h).1,(hright.2 h).2.1⟩),fun _=>rfl⟩
 have hz1:z≠1:=by simpa using hz1
 conv=>whnf
 refine BrS.mk (fun hz2=>?_) (fun hz2=>?_)
 ·have hz2:z=2:=by simpa using hz2
  subst hz2
  have hright:(ys=[]∧q=0∧PosF A cs.length xs bs∧PosF A cs.length rs' (nulls bs.length)∧0<dotTo cs rs' cs.length)↔RightO A bs cs 2 xs ys rs' q:=by
   unfold RightO
   constructor
   ·exact fun h=>.inr (.inr ⟨rfl,h⟩)
   ·rintro(⟨h,-⟩|⟨h,-⟩|⟨-,h⟩)
    ·exact absurd h (by decide)
    ·exact absurd h (by decide)
    ·exact h
  rw[hblA]at hright
  conv=>whnf
  refine drawn_of_pi hτ hmix [.x 0,.x 1,.x 2,.x 3,.x 4,.x 5,.x 6,.x 7,.x 8,.x 9,.x 10,.x 11,.x 12,.x 13,.x 14,.x 15,.x 16,.x 17,.x 18,.x 19,.x 20,.x 21,.x 22,.x 23,.x 24,.x 25,.x 26,.x 27,.x 28,.x 29,.x 30,.x 31,.x 32,.x 33,.x 34,.x 35] (by kernel_rfl) (by kernel_rfl) ?_
  conv=>whnf
  refine BrS.mk (fun hy0=>?_) (fun hy0=>?_)
  ·have hy0:ys=[]:=List.eq_nil_of_length_eq_zero (by have:(ys.length:Int)=0:=(by simpa using hy0);omega)
   conv=>whnf
   refine callE_con (Φ:=fun _ w' v w2=>v= .int .i64 (rs q)) (fun ρ w' r=>rSignOfL_c (fun g hg=>by have:=hS g hg;have:=r.baseLe;omega) (RatL.keep hv (fun g hg=>(hw.tr r.bel).block g (hS g hg)))) ?_
   rintro ρ wa1 v1 wb1 r he hb rfl
   replace hw:=hw.tr hb
   clear r he hb
   generalize (wa1.heap.size,wb1.heap.size)::[]=iv1 at*
   conv=>whnf
   refine BrS.mk (fun hq0=>?_) (fun hq0=>?_)
   ·have hq0:q=0:=rs_zero.1 (by simpa using hq0)
    conv=>whnf
    refine callE_con (Φ:=fun _ w' v w2=>∃d,v= .bool d∧(d=true→PosF A cs.length xs bs)∧(PosF A cs.length xs bs→d=true)) (fun ρ w' r=>rPossible_c (h:=h) (Rel.old r hS) (RatML.weak (RatML.keep hm (fun g hg=>(hw.tr r.bel).block g (hS g hg))) fun _ hg=>(.inl hg:Cv S w.heap.size _ _)) (RatsL.weak (RatsL.keep hx (fun g hg=>(hw.tr r.bel).block g (hS g hg))) fun _ hg=>(.inl hg:Cv S w.heap.size _ _)) (RatsL.weak (RatsL.keep hB (fun g hg=>(hw.tr r.bel).block g (hS g hg))) fun _ hg=>(.inl hg:Cv S w.heap.size _ _)) hblA hrowA hqM hqX h2 hn1 (by omega) (by omega)) ?_
    rintro ρ wa2 v2 wb2 r he hb ⟨d,rfl,hd1,hd2⟩
    replace hw:=hw.tr hb
    clear r he hb
    generalize (wa2.heap.size,wb2.heap.size)::iv1=iv2 at*
    conv=>whnf
    cases d with
    |false=>
     have hpo:¬(PosF A cs.length xs bs):=fun h=>absurd (hd2 h) (by decide)
     clear hd1 hd2
     conv=>whnf
     conv=>whnf
     intro ρe we re
     exact⟨_,rfl,hw.tr re.bel,25,rfl,fun h=>absurd h (fun h=>hpo (hright.2 h).2.2.1),fun _=>rfl⟩
    |true=>
     have hpo:PosF A cs.length xs bs:=hd1 rfl
     clear hd1 hd2
     conv=>whnf
     refine callE_con (Φ:=fun _ w' v w2=>RatsC w2 (Nw (fun _=>False) w' w2) v (nulls A.length)) (fun ρ w' r=>rzeros_c A.length w' (by omega)) ?_
     rintro ρ wa3 v3 wb3 r he hb hn
     replace hw:=hw.tr hb
     have hz:=RatsC.got (S:=fun _=>False) hn r.baseLe (iv:=(wa3.heap.size,wb3.heap.size)::iv2) List.mem_cons_self
     clear r he hb hn
     generalize (wa3.heap.size,wb3.heap.size)::iv2=iv3 at*
     obtain⟨ahz,chz,rfl,-,-⟩:=ListR.shape hz
     rw[List.length_replicate]at hz ⊢
     conv=>whnf
     refine callE_con (Φ:=fun _ w' v w2=>∃d,v= .bool d∧(d=true→PosF A cs.length rs' (nulls A.length))∧(PosF A cs.length rs' (nulls A.length)→d=true)) (fun ρ w' r=>rPossible_c (h:=h) (Rel.old r hS) (RatML.weak (RatML.keep hm (fun g hg=>(hw.tr r.bel).block g (hS g hg))) fun _ hg=>(.inl hg:Cv S w.heap.size _ _)) (RatsL.weak (RatsL.keep hr (fun g hg=>(hw.tr r.bel).block g (hS g hg))) fun _ hg=>(.inl hg:Cv S w.heap.size _ _)) (show RatsL _ _ (Value.slice ahz A.length chz) _ from(RatsL.weak (RatsC.l (RatsC.rel hz r (oldF w)) (fun q hq=>by rw[List.eq_of_mem_replicate hq];decide)) fun _ hg=>(cvF hg:Cv S w.heap.size _ _))) (nulls_len _) hrowA hqM hqR h2 hn1 (by omega) (by omega)) ?_
     rintro ρ wa4 v4 wb4 r he hb ⟨d,rfl,hd1,hd2⟩
     replace hw:=hw.tr hb
     clear hz
     clear r he hb
     generalize (wa4.heap.size,wb4.heap.size)::iv3=iv4 at*
     conv=>whnf
     cases d with
     |false=>
      have hro:¬(PosF A cs.length rs' (nulls A.length)):=fun h=>absurd (hd2 h) (by decide)
      clear hd1 hd2
      conv=>whnf
      conv=>whnf
      intro ρe we re
      exact⟨_,rfl,hw.tr re.bel,25,rfl,fun h=>absurd h (fun h=>hro (hright.2 h).2.2.2.1),fun _=>rfl⟩
     |true=>
      have hro:PosF A cs.length rs' (nulls A.length):=hd1 rfl
      clear hd1 hd2
      conv=>whnf
      refine callE_con (Φ:=fun _ w' v w2=>RatC w2 (Nw (fun _=>False) w' w2) v (dotTo cs rs' cs.length)) (fun ρ w' r=>rDot_c (h:=h) (fun g hg=>by have:=hS g hg;have:=r.baseLe;omega) (RatsL.keep hc (fun g hg=>(hw.tr r.bel).block g (hS g hg))) (RatsL.keep hr (fun g hg=>(hw.tr r.bel).block g (hS g hg))) hro.1.symm hqc hqR h2 hn1) ?_
      rintro ρ wa5 v5 wb5 r he hb hn
      replace hw:=hw.tr hb
      have hd:=hn.got (S:=fun _=>False) r.baseLe (iv:=(wa5.heap.size,wb5.heap.size)::iv4) List.mem_cons_self
      clear r he hb hn
      generalize (wa5.heap.size,wb5.heap.size)::iv4=iv5 at*
      obtain⟨s5_0,s5_1,s5_2,s5_3,s5_4,s5_5,s5_6,s5_7,rfl⟩:=hd.shape
      conv=>whnf
      have hdl:=rl_dotTo hqc hqR h2 cs.length
      have hdm:=hn1
      refine callE_con (Φ:=fun _ w' v w2=>v= .int .i64 (rs (dotTo cs rs' cs.length))) (fun ρ w' r=>rSignOf_c (Rel.old r (oldF w)) (hd.rel r (oldF w))) ?_
      rintro ρ wa6 v6 wb6 r he hb rfl
      replace hw:=hw.tr hb
      clear hd
      clear r he hb
      generalize (wa6.heap.size,wb6.heap.size)::iv5=iv6 at*
      conv=>whnf
      refine BrS.mk (fun he2=>?_) (fun he2=>?_)
      ·have he2:¬0<dotTo cs rs' cs.length:=fun e=>absurd (rs_pos_iff.2 e) (by simpa using he2)
       conv=>whnf
       intro ρe we re
       exact⟨_,rfl,hw.tr re.bel,25,rfl,fun h=>absurd h (fun h=>he2 (hright.2 h).2.2.2.2),fun _=>rfl⟩
      have he2:0<dotTo cs rs' cs.length:=rs_pos_iff.1 (by simpa using he2)
      conv=>whnf
      intro ρe we re
      exact⟨_,rfl,hw.tr re.bel,0,rfl,fun _=>rfl,fun h=>absurd (hright.1 ⟨hy0,hq0,hpo,hro,he2⟩) h⟩
   have hq0:q≠0:=fun e=>by rw[rs_zero.2 e]at hq0;simp at hq0
   conv=>whnf
   intro ρe we re
   exact⟨_,rfl,hw.tr re.bel,25,rfl,fun h=>absurd h (fun h=>hq0 (hright.2 h).2.1),fun _=>rfl⟩
  have hy0:ys≠[]:=fun e=>by rw[e]at hy0;simp at hy0
  conv=>whnf
  intro ρe we re
  exact⟨_,rfl,hw.tr re.bel,25,rfl,fun h=>absurd h (fun h=>hy0 (hright.2 h).1),fun _=>rfl⟩
 have hz2:z≠2:=by simpa using hz2
 conv=>whnf
 intro ρe we re
 exact⟨_,rfl,hw.tr re.bel,25,rfl,fun h=>absurd h (fun h=>h.elim (fun h=>hz h.1) fun h=>h.elim (fun h=>hz1 h.1) fun h=>hz2 h.1),fun _=>rfl⟩
end Go.Ex

/- The law ExactAccepts. Printed by program. No condition but sizes. -/
namespace Go.Ex
open Go Go.Sx Go.Proofs

/-- Small and brief, called in a later world -/
theorem smallW_c{S:Nat→Prop}{w w':World}{v:Value}{M:List (List (Int×Int))}(hS:Old S w')(hk:∀g,S g→w'.heap[g]? =w.heap[g]?)(h:RatMR w S v M):
  Con PG N.law01_Small #[v] w' (Ret w' fun v' _=>∃d,v'= .bool d∧(d=true→SmallM w S v M)):=
 (smallM_c hS (RatMR.keep h hk)).mono fun _ _ ⟨v2,e1,e2,d,e3,e4⟩=>⟨v2,e1,e2,d,e3,fun hd=>(e4 hd).keep fun g hg=>(hk g hg).symm⟩
theorem briefW_c{S:Nat→Prop}{w w':World}{v:Value}{b:List (Int×Int)}(hS:Old S w')(hk:∀g,S g→w'.heap[g]? =w.heap[g]?)(h:RatsR w S v b):
  Con PG N.law01_brief #[v] w' (Ret w' fun v' _=>∃d,v'= .bool d∧(d=true→SmallB w S v b)):=by
 obtain⟨ks,hks,hbr⟩:=RatsR.brief h
 exact(brief_c hS (hks.keep hk)).mono fun _ _ ⟨v2,e1,e2,e3⟩=>⟨v2,e1,e2,_,e3,fun hd=>hbr (of_decide_eq_true hd)⟩
section
variable{S:Nat→Prop}{w:World}{v u vx vk vp:Value}{z:Int}{M K:List (List (Int×Int))}{b X P:List (Int×Int)}
end
end Go.Ex

/- The law ExactCertificates. Printed by program. No condition but sizes. -/
namespace Go.Ex
open Go Go.Sx Go.Proofs

theorem RatR.shortN{S:Nat→Prop}{w:World}{b1 b2:Bool}{a1 a2:Option Addr}{n1 n2 c1 c2:Nat}{a b:Int}(h:RatR w S (.agg #[.bool b1,.slice a1 n1 c1,.bool b2,.slice a2 n2 c2]) a b)(k1:n1≤3)(k2:n2≤3):
  ln a.natAbs≤3∧ln b.natAbs≤3:=by
 obtain⟨b1,l1,b2,l2,e,h1,h2⟩:=h
 simp only[Value.agg.injEq,Array.mk.injEq,List.cons.injEq,Value.bool.injEq,and_true]at e
 obtain⟨rfl,rfl,rfl,rfl⟩:=e
 exact⟨(h1.short k1).ln,(h2.short k2).ln⟩
/-- a program that the laws are told for -/
def LightP(w:World)(S:Nat→Prop)(vm vb vc:Value)(M:List (List (Int×Int)))(b c:List (Int×Int)):Prop:=
 SmallM w S vm M∧(errP M b c=0→M.length≤4∧c.length≤3∧SmallB w S vb b∧SmallB w S vc c)
theorem light_c{S:Nat→Prop}{w:World}{vm vb vc:Value}{M:List (List (Int×Int))}{b c:List (Int×Int)}(hS:Old S w)(hm:RatMR w S vm M)(hB:RatsR w S vb b)(hc:RatsR w S vc c):
  Con PG N.law01_Light #[.agg #[vm,vb,vc]] w (Ret w fun v' _=>∃d,v'= .bool d∧(d=true→LightP w S vm vb vc M b c)):=by
 have hw:Bel w.heap.size w w:=Bel.refl
 obtain⟨am,cm,rfl,hcm,hmm⟩:=SlicesR.shape hm
 obtain⟨ab,cb,rfl,hcb,hmb⟩:=ListR.shape hB
 obtain⟨ac,cc,rfl,hcc,hmc⟩:=ListR.shape hc
 unfold maxLen at hmm hmb hmc
 refine in_law01_Light (by simp) ?_
 conv=>whnf
 refine callE_S (callE_con (Φ:=fun _ w' v w2=>∃d,v= .bool d∧(d=true→SmallM w S (.slice am M.length cm) M)) (fun ρ w' r=>smallW_c (fun g hg=>by have:=hS g hg;have:=r.baseLe;omega) (fun g hg=>(hw.tr r.bel).block g (hS g hg)) hm) ?_)
 rintro ρ wa1 v1 wb1 r he hb ⟨d,rfl,hd⟩
 replace hw:=hw.tr hb
 clear r he hb
 generalize (wa1.heap.size,wb1.heap.size)::[]=iv1 at*
 conv=>whnf
 cases d with
 |false=>
  conv=>whnf
  intro ρe we re
  exact⟨_,rfl,hw.tr re.bel,false,rfl,fun h=>(by cases h)⟩
 |true=>
  have hM:=hd rfl
  clear hd
  conv=>whnf
  refine BrS.mk (fun hb70=>?_) (fun hb70=>?_)
  ·conv=>whnf
   intro ρe we re
   exact⟨_,rfl,hw.tr re.bel,false,rfl,fun h=>(by cases h)⟩
  have hb70:=of_decide_eq_false hb70
  conv=>whnf
  refine BrS.mk (fun hc70=>?_) (fun hc70=>?_)
  ·conv=>whnf
   intro ρe we re
   exact⟨_,rfl,hw.tr re.bel,false,rfl,fun h=>(by cases h)⟩
  have hc70:=of_decide_eq_false hc70
  conv=>whnf
  refine BrS.mk (fun h5b=>?_) (fun h5b=>?_)
  ·conv=>whnf
   refine callE_S (callE_con (Φ:=fun _ w' v w2=>∃d,v= .bool d∧(d=true→SmallB w S (.slice ab b.length cb) b)) (fun ρ w' r=>briefW_c (fun g hg=>by have:=hS g hg;have:=r.baseLe;omega) (fun g hg=>(hw.tr r.bel).block g (hS g hg)) hB) ?_)
   rintro ρ wa2 v2 wb2 r he hb ⟨d,rfl,hd⟩
   replace hw:=hw.tr hb
   clear r he hb
   generalize (wa2.heap.size,wb2.heap.size)::iv1=iv2 at*
   conv=>whnf
   cases d with
   |false=>
    conv=>whnf
    intro ρe we re
    exact⟨_,rfl,hw.tr re.bel,false,rfl,fun h=>(by cases h)⟩
   |true=>
    have hBs:=hd rfl
    clear hd
    conv=>whnf
    refine BrS.mk (fun h5c=>?_) (fun h5c=>?_)
    ·conv=>whnf
     refine callE_S (callE_con (Φ:=fun _ w' v w2=>∃d,v= .bool d∧(d=true→SmallB w S (.slice ac c.length cc) c)) (fun ρ w' r=>briefW_c (fun g hg=>by have:=hS g hg;have:=r.baseLe;omega) (fun g hg=>(hw.tr r.bel).block g (hS g hg)) hc) ?_)
     rintro ρ wa3 v3 wb3 r he hb ⟨d,rfl,hd⟩
     replace hw:=hw.tr hb
     clear r he hb
     generalize (wa3.heap.size,wb3.heap.size)::iv2=iv3 at*
     conv=>whnf
     cases d with
     |false=>
      conv=>whnf
      intro ρe we re
      exact⟨_,rfl,hw.tr re.bel,false,rfl,fun h=>(by cases h)⟩
     |true=>
      have hC:=hd rfl
      clear hd
      conv=>whnf
      refine callE_S (callE_con (Φ:=fun _ w' v w2=>v= .int .i64 (errP M b c)) (fun ρ w' r=>rCheckProgram_c (fun g hg=>by have:=hS g hg;have:=r.baseLe;omega) (RatMR.keep hm (fun g hg=>(hw.tr r.bel).block g (hS g hg))) (RatsR.keep hB (fun g hg=>(hw.tr r.bel).block g (hS g hg))) (RatsR.keep hc (fun g hg=>(hw.tr r.bel).block g (hS g hg)))) ?_)
      rintro ρ wa4 v4 wb4 r he hb rfl
      replace hw:=hw.tr hb
      clear r he hb
      generalize (wa4.heap.size,wb4.heap.size)::iv3=iv4 at*
      conv=>whnf
      refine BrS.mk (fun he=>?_) (fun he=>?_)
      ·have he:errP M b c≠0:=fun e=>by rw[e]at he;simp at he
       conv=>whnf
       intro ρe we re
       exact⟨_,rfl,hw.tr re.bel,true,rfl,fun _=>⟨hM,fun e=>absurd e he⟩⟩
      conv=>whnf
      refine BrS.mk (fun h4=>?_) (fun h4=>?_)
      ·have h4:M.length≤4:=by have:(M.length:Int)≤4:=(by simpa using h4);omega
       conv=>whnf
       conv=>whnf
       intro ρe we re
       exact⟨_,rfl,hw.tr re.bel,_,rfl,fun h3=>⟨hM,fun e=>⟨h4,(by have:(c.length:Int)≤3:=of_decide_eq_true h3;omega),hBs,hC⟩⟩⟩
      conv=>whnf
      intro ρe we re
      exact⟨_,rfl,hw.tr re.bel,false,rfl,fun h=>(by cases h)⟩
    have h5c:¬c.length≤5:=fun h=>of_decide_eq_false h5c (by omega)
    conv=>whnf
    refine callE_S (callE_con (Φ:=fun _ w' v w2=>v= .int .i64 (errP M b c)) (fun ρ w' r=>rCheckProgram_c (fun g hg=>by have:=hS g hg;have:=r.baseLe;omega) (RatMR.keep hm (fun g hg=>(hw.tr r.bel).block g (hS g hg))) (RatsR.keep hB (fun g hg=>(hw.tr r.bel).block g (hS g hg))) (RatsR.keep hc (fun g hg=>(hw.tr r.bel).block g (hS g hg)))) ?_)
    rintro ρ wa3 v3 wb3 r he hb rfl
    replace hw:=hw.tr hb
    clear r he hb
    generalize (wa3.heap.size,wb3.heap.size)::iv2=iv3 at*
    conv=>whnf
    refine BrS.mk (fun he=>?_) (fun he=>?_)
    ·have he:errP M b c≠0:=fun e=>by rw[e]at he;simp at he
     conv=>whnf
     intro ρe we re
     exact⟨_,rfl,hw.tr re.bel,true,rfl,fun _=>⟨hM,fun e=>absurd e he⟩⟩
    conv=>whnf
    refine BrS.mk (fun h4=>?_) (fun h4=>?_)
    ·have h4:M.length≤4:=by have:(M.length:Int)≤4:=(by simpa using h4);omega
     conv=>whnf
     conv=>whnf
     intro ρe we re
     exact⟨_,rfl,hw.tr re.bel,_,rfl,fun h3=>⟨hM,fun e=>⟨h4,(by have:(c.length:Int)≤3:=of_decide_eq_true h3;omega),hBs,absurd (show c.length≤5 by have:(c.length:Int)≤3:=of_decide_eq_true h3;omega) h5c⟩⟩⟩
    conv=>whnf
    intro ρe we re
    exact⟨_,rfl,hw.tr re.bel,false,rfl,fun h=>(by cases h)⟩
  have h5b:¬b.length≤5:=fun h=>of_decide_eq_false h5b (by omega)
  conv=>whnf
  refine BrS.mk (fun h5c=>?_) (fun h5c=>?_)
  ·conv=>whnf
   refine callE_S (callE_con (Φ:=fun _ w' v w2=>∃d,v= .bool d∧(d=true→SmallB w S (.slice ac c.length cc) c)) (fun ρ w' r=>briefW_c (fun g hg=>by have:=hS g hg;have:=r.baseLe;omega) (fun g hg=>(hw.tr r.bel).block g (hS g hg)) hc) ?_)
   rintro ρ wa2 v2 wb2 r he hb ⟨d,rfl,hd⟩
   replace hw:=hw.tr hb
   clear r he hb
   generalize (wa2.heap.size,wb2.heap.size)::iv1=iv2 at*
   conv=>whnf
   cases d with
   |false=>
    conv=>whnf
    intro ρe we re
    exact⟨_,rfl,hw.tr re.bel,false,rfl,fun h=>(by cases h)⟩
   |true=>
    have hC:=hd rfl
    clear hd
    conv=>whnf
    refine callE_S (callE_con (Φ:=fun _ w' v w2=>v= .int .i64 (errP M b c)) (fun ρ w' r=>rCheckProgram_c (fun g hg=>by have:=hS g hg;have:=r.baseLe;omega) (RatMR.keep hm (fun g hg=>(hw.tr r.bel).block g (hS g hg))) (RatsR.keep hB (fun g hg=>(hw.tr r.bel).block g (hS g hg))) (RatsR.keep hc (fun g hg=>(hw.tr r.bel).block g (hS g hg)))) ?_)
    rintro ρ wa3 v3 wb3 r he hb rfl
    replace hw:=hw.tr hb
    clear r he hb
    generalize (wa3.heap.size,wb3.heap.size)::iv2=iv3 at*
    conv=>whnf
    refine BrS.mk (fun he=>?_) (fun he=>?_)
    ·have he:errP M b c≠0:=fun e=>by rw[e]at he;simp at he
     conv=>whnf
     intro ρe we re
     exact⟨_,rfl,hw.tr re.bel,true,rfl,fun _=>⟨hM,fun e=>absurd e he⟩⟩
    conv=>whnf
    refine BrS.mk (fun h4=>?_) (fun h4=>?_)
    ·have h4:M.length≤4:=by have:(M.length:Int)≤4:=(by simpa using h4);omega
     conv=>whnf
     conv=>whnf
     intro ρe we re
     exact⟨_,rfl,hw.tr re.bel,_,rfl,fun h3=>⟨hM,fun e=>⟨h4,(by have:(c.length:Int)≤3:=of_decide_eq_true h3;omega),absurd (show b.length≤5 by have:=(errP_zero e).2.1;omega) h5b,hC⟩⟩⟩
    conv=>whnf
    intro ρe we re
    exact⟨_,rfl,hw.tr re.bel,false,rfl,fun h=>(by cases h)⟩
  have h5c:¬c.length≤5:=fun h=>of_decide_eq_false h5c (by omega)
  conv=>whnf
  refine callE_S (callE_con (Φ:=fun _ w' v w2=>v= .int .i64 (errP M b c)) (fun ρ w' r=>rCheckProgram_c (fun g hg=>by have:=hS g hg;have:=r.baseLe;omega) (RatMR.keep hm (fun g hg=>(hw.tr r.bel).block g (hS g hg))) (RatsR.keep hB (fun g hg=>(hw.tr r.bel).block g (hS g hg))) (RatsR.keep hc (fun g hg=>(hw.tr r.bel).block g (hS g hg)))) ?_)
  rintro ρ wa2 v2 wb2 r he hb rfl
  replace hw:=hw.tr hb
  clear r he hb
  generalize (wa2.heap.size,wb2.heap.size)::iv1=iv2 at*
  conv=>whnf
  refine BrS.mk (fun he=>?_) (fun he=>?_)
  ·have he:errP M b c≠0:=fun e=>by rw[e]at he;simp at he
   conv=>whnf
   intro ρe we re
   exact⟨_,rfl,hw.tr re.bel,true,rfl,fun _=>⟨hM,fun e=>absurd e he⟩⟩
  conv=>whnf
  refine BrS.mk (fun h4=>?_) (fun h4=>?_)
  ·have h4:M.length≤4:=by have:(M.length:Int)≤4:=(by simpa using h4);omega
   conv=>whnf
   conv=>whnf
   intro ρe we re
   exact⟨_,rfl,hw.tr re.bel,_,rfl,fun h3=>⟨hM,fun e=>⟨h4,(by have:(c.length:Int)≤3:=of_decide_eq_true h3;omega),absurd (show b.length≤5 by have:=(errP_zero e).2.1;omega) h5b,absurd (show c.length≤5 by have:(c.length:Int)≤3:=of_decide_eq_true h3;omega) h5c⟩⟩⟩
  conv=>whnf
  intro ρe we re
  exact⟨_,rfl,hw.tr re.bel,false,rfl,fun h=>(by cases h)⟩
theorem lightW_c{S:Nat→Prop}{w w':World}{vm vb vc:Value}{M:List (List (Int×Int))}{b c:List (Int×Int)}(hS:Old S w')(hk:∀g,S g→w'.heap[g]? =w.heap[g]?)(hm:RatMR w S vm M)(hB:RatsR w S vb b)(hc:RatsR w S vc c):
  Con PG N.law01_Light #[.agg #[vm,vb,vc]] w' (Ret w' fun v' _=>∃d,v'= .bool d∧(d=true→LightP w S vm vb vc M b c)):=
 (light_c hS (RatMR.keep hm hk) (RatsR.keep hB hk) (RatsR.keep hc hk)).mono fun _ _ ⟨v2,e1,e2,d,e3,e4⟩=>⟨v2,e1,e2,d,e3,fun hd=>⟨(e4 hd).1.keep fun g hg=>(hk g hg).symm,fun e=>
  have h:=(e4 hd).2 e
  ⟨h.1,h.2.1,h.2.2.1.keep fun g hg=>(hk g hg).symm,h.2.2.2.keep fun g hg=>(hk g hg).symm⟩⟩⟩
theorem exactCertificates_c{S:Nat→Prop}{w:World}{vm vb vc vx vy vr:Value}{z p1 p2:Int}{M:List (List (Int×Int))}{b c X Y R:List (Int×Int)}{g1 g5:Option Addr}{g2 g3 g6 g7:Nat}{g0 g4:Bool}(hS:Old S w)
  (hm:RatMR w S vm M) (hB:RatsR w S vb b) (hc:RatsR w S vc c) (hx:RatsR w S vx X) (hy:RatsR w S vy Y) (hr:RatsR w S vr R) (hv:RatR w S (.agg #[.bool g0,.slice g1 g2 g3,.bool g4,.slice g5 g6 g7]) p1 p2):
  Con PG N.law01_ExactCertificates #[.agg #[vm,vb,vc],.agg #[.int .i64 z,vx,vy,vr,.bool g0,.slice g1 g2 g3,.bool g4,.slice g5 g6 g7]] w (Ret w fun v' _=>v'= .bool true):=by
 have hw:Bel w.heap.size w w:=Bel.refl
 obtain⟨am,cm,rfl,hcm,hmm⟩:=SlicesR.shape hm
 obtain⟨ab,cb,rfl,hcb,hmb⟩:=ListR.shape hB
 obtain⟨ac,cc,rfl,hcc,hmc⟩:=ListR.shape hc
 obtain⟨ax,cx,rfl,hcx,hmx⟩:=ListR.shape hx
 obtain⟨ay,cy,rfl,hcy,hmy⟩:=ListR.shape hy
 obtain⟨ar,cr,rfl,hcr,hmr⟩:=ListR.shape hr
 unfold maxLen at hmm hmb hmc hmx hmy hmr
 refine in_law01_ExactCertificates (by simp) ?_
 conv=>whnf
 refine callE_S (callE_con (Φ:=fun _ w' v w2=>∃d,v= .bool d∧(d=true→LightP w S (.slice am M.length cm) (.slice ab b.length cb) (.slice ac c.length cc) M b c)) (fun ρ w' r=>lightW_c (fun g hg=>by have:=hS g hg;have:=r.baseLe;omega) (fun g hg=>(hw.tr r.bel).block g (hS g hg)) hm hB hc) ?_)
 rintro ρ wa1 v1 wb1 r he hb ⟨d,rfl,hd⟩
 replace hw:=hw.tr hb
 clear r he hb
 generalize (wa1.heap.size,wb1.heap.size)::[]=iv1 at*
 conv=>whnf
 cases d with
 |false=>
  conv=>whnf
  refine callE_S (callE_con (Φ:=fun _ w' v w2=>v= .bool true) (fun ρ w' r=>awake_c w') ?_)
  rintro ρ wa2 v2 wb2 r he hb rfl
  replace hw:=hw.tr hb
  clear r he hb
  generalize (wa2.heap.size,wb2.heap.size)::iv1=iv2 at*
  conv=>whnf
  intro ρe we re
  exact⟨_,rfl,hw.tr re.bel,rfl⟩
 |true=>
  have hL:=hd rfl
  clear hd
  conv=>whnf
  refine BrS.mk (fun hX8=>?_) (fun hX8=>?_)
  ·conv=>whnf
   refine callE_S (callE_con (Φ:=fun _ w' v w2=>v= .bool true) (fun ρ w' r=>awake_c w') ?_)
   rintro ρ wa2 v2 wb2 r he hb rfl
   replace hw:=hw.tr hb
   clear r he hb
   generalize (wa2.heap.size,wb2.heap.size)::iv1=iv2 at*
   conv=>whnf
   intro ρe we re
   exact⟨_,rfl,hw.tr re.bel,rfl⟩
  have hX8:=of_decide_eq_false hX8
  conv=>whnf
  refine BrS.mk (fun hY8=>?_) (fun hY8=>?_)
  ·conv=>whnf
   refine callE_S (callE_con (Φ:=fun _ w' v w2=>v= .bool true) (fun ρ w' r=>awake_c w') ?_)
   rintro ρ wa2 v2 wb2 r he hb rfl
   replace hw:=hw.tr hb
   clear r he hb
   generalize (wa2.heap.size,wb2.heap.size)::iv1=iv2 at*
   conv=>whnf
   intro ρe we re
   exact⟨_,rfl,hw.tr re.bel,rfl⟩
  have hY8:=of_decide_eq_false hY8
  conv=>whnf
  refine BrS.mk (fun hR8=>?_) (fun hR8=>?_)
  ·conv=>whnf
   refine callE_S (callE_con (Φ:=fun _ w' v w2=>v= .bool true) (fun ρ w' r=>awake_c w') ?_)
   rintro ρ wa2 v2 wb2 r he hb rfl
   replace hw:=hw.tr hb
   clear r he hb
   generalize (wa2.heap.size,wb2.heap.size)::iv1=iv2 at*
   conv=>whnf
   intro ρe we re
   exact⟨_,rfl,hw.tr re.bel,rfl⟩
  have hR8:=of_decide_eq_false hR8
  conv=>whnf
  refine callE_S (callE_con (Φ:=fun _ w' v w2=>∃d,v= .bool d∧(d=true→SmallB w S (.slice ax X.length cx) X)) (fun ρ w' r=>briefW_c (fun g hg=>by have:=hS g hg;have:=r.baseLe;omega) (fun g hg=>(hw.tr r.bel).block g (hS g hg)) hx) ?_)
  rintro ρ wa2 v2 wb2 r he hb ⟨d,rfl,hd⟩
  replace hw:=hw.tr hb
  clear r he hb
  generalize (wa2.heap.size,wb2.heap.size)::iv1=iv2 at*
  conv=>whnf
  cases d with
  |false=>
   conv=>whnf
   refine callE_S (callE_con (Φ:=fun _ w' v w2=>v= .bool true) (fun ρ w' r=>awake_c w') ?_)
   rintro ρ wa3 v3 wb3 r he hb rfl
   replace hw:=hw.tr hb
   clear r he hb
   generalize (wa3.heap.size,wb3.heap.size)::iv2=iv3 at*
   conv=>whnf
   intro ρe we re
   exact⟨_,rfl,hw.tr re.bel,rfl⟩
  |true=>
   have hXs:=hd rfl
   clear hd
   conv=>whnf
   refine callE_S (callE_con (Φ:=fun _ w' v w2=>∃d,v= .bool d∧(d=true→SmallB w S (.slice ay Y.length cy) Y)) (fun ρ w' r=>briefW_c (fun g hg=>by have:=hS g hg;have:=r.baseLe;omega) (fun g hg=>(hw.tr r.bel).block g (hS g hg)) hy) ?_)
   rintro ρ wa3 v3 wb3 r he hb ⟨d,rfl,hd⟩
   replace hw:=hw.tr hb
   clear r he hb
   generalize (wa3.heap.size,wb3.heap.size)::iv2=iv3 at*
   conv=>whnf
   cases d with
   |false=>
    conv=>whnf
    refine callE_S (callE_con (Φ:=fun _ w' v w2=>v= .bool true) (fun ρ w' r=>awake_c w') ?_)
    rintro ρ wa4 v4 wb4 r he hb rfl
    replace hw:=hw.tr hb
    clear r he hb
    generalize (wa4.heap.size,wb4.heap.size)::iv3=iv4 at*
    conv=>whnf
    intro ρe we re
    exact⟨_,rfl,hw.tr re.bel,rfl⟩
   |true=>
    have hYs:=hd rfl
    clear hd
    conv=>whnf
    refine callE_S (callE_con (Φ:=fun _ w' v w2=>∃d,v= .bool d∧(d=true→SmallB w S (.slice ar R.length cr) R)) (fun ρ w' r=>briefW_c (fun g hg=>by have:=hS g hg;have:=r.baseLe;omega) (fun g hg=>(hw.tr r.bel).block g (hS g hg)) hr) ?_)
    rintro ρ wa4 v4 wb4 r he hb ⟨d,rfl,hd⟩
    replace hw:=hw.tr hb
    clear r he hb
    generalize (wa4.heap.size,wb4.heap.size)::iv3=iv4 at*
    conv=>whnf
    cases d with
    |false=>
     conv=>whnf
     refine callE_S (callE_con (Φ:=fun _ w' v w2=>v= .bool true) (fun ρ w' r=>awake_c w') ?_)
     rintro ρ wa5 v5 wb5 r he hb rfl
     replace hw:=hw.tr hb
     clear r he hb
     generalize (wa5.heap.size,wb5.heap.size)::iv4=iv5 at*
     conv=>whnf
     intro ρe we re
     exact⟨_,rfl,hw.tr re.bel,rfl⟩
    |true=>
     have hRs:=hd rfl
     clear hd
     conv=>whnf
     refine callE_S (callE_con (Φ:=fun _ w' v w2=>∃d,v= .bool d∧(d=true→(g2≤3∧g6≤3))) (fun ρ w' r=>?_) ?_)
     ·have hb:=r.boxSeq (id:=2) (sz:=4) (n:=1) rfl rfl (by decide) (by intro u hu;simp at hu;rcases hu with rfl|rfl|rfl|rfl<;>rfl)
      refine(brief_c (S:=fun g=>g<w'.heap.size) (ks:=[((g0,g1,g2,g3),(g4,g5,g6,g7))]) (fun g hg=>hg) (hb.weak fun g hg=>by rw[hg];exact Rel.lt r rfl)).mono fun _ w2 ⟨v2,e1,e2,e3⟩=>⟨v2,e1,e2,_,e3,fun h=>?_⟩
      have h:=of_decide_eq_true h
      exact h ((g0,g1,g2,g3),(g4,g5,g6,g7)) (by simp)
     rintro ρ wa5 v5 wb5 r he hb ⟨d,rfl,hd⟩
     replace hw:=hw.tr hb
     clear r he hb
     generalize (wa5.heap.size,wb5.heap.size)::iv4=iv5 at*
     conv=>whnf
     cases d with
     |false=>
      conv=>whnf
      refine callE_S (callE_con (Φ:=fun _ w' v w2=>v= .bool true) (fun ρ w' r=>awake_c w') ?_)
      rintro ρ wa6 v6 wb6 r he hb rfl
      replace hw:=hw.tr hb
      clear r he hb
      generalize (wa6.heap.size,wb6.heap.size)::iv5=iv6 at*
      conv=>whnf
      intro ρe we re
      exact⟨_,rfl,hw.tr re.bel,rfl⟩
     |true=>
      have hg:=hd rfl
      clear hd
      conv=>whnf
      obtain⟨hq,hq3⟩:=hv.shortL hg.1 hg.2
      obtain⟨hv1,hv2⟩:=hv.shortN hg.1 hg.2
      obtain⟨hM,hL⟩:=hL
      conv=>whnf
      refine callE_S (callE_con (Φ:=fun _ w' v w2=>∃e:Nat,v= .int .i64 e∧(errP M b c=0→(RightO (valsM M) (b.map ratioP) (c.map ratioP) z (X.map ratioP) (Y.map ratioP) (R.map ratioP) (ratio p1 p2)→e=0)∧(¬RightO (valsM M) (b.map ratioP) (c.map ratioP) z (X.map ratioP) (Y.map ratioP) (R.map ratioP) (ratio p1 p2)→e=25))∧(errP M b c≠0→e=errP M b c)) (fun ρ w' r=>checkOptimum_c (h:=4) (fun g hg=>by have:=hS g hg;have:=r.baseLe;omega) (RatMR.keep hm (fun g hg=>(hw.tr r.bel).block g (hS g hg))) (RatsR.keep hB (fun g hg=>(hw.tr r.bel).block g (hS g hg))) (RatsR.keep hc (fun g hg=>(hw.tr r.bel).block g (hS g hg))) (RatsR.keep hx (fun g hg=>(hw.tr r.bel).block g (hS g hg))) (RatsR.keep hy (fun g hg=>(hw.tr r.bel).block g (hS g hg))) (RatsR.keep hr (fun g hg=>(hw.tr r.bel).block g (hS g hg))) (hv.keep (fun g hg=>(hw.tr r.bel).block g (hS g hg))) (by decide) (by decide) fun e=>by
        obtain⟨k1,k2,k3,k4⟩:=hL e
        obtain⟨e1,e2,e3,e4,e5⟩:=errP_zero e
        obtain⟨m1,m2,m3,m4,-⟩:=hM.sizes e1
        exact⟨⟨hM.2.2.2.2,k3.2.2,k4.2.2,hXs.2.2,hYs.2.2,hRs.2.2,by omega,by omega⟩,m4,fun q hq=>by have:=k3.2.1 q hq;omega,fun q hq=>by have:=k4.2.1 q hq;omega,fun q hq=>by have:=hXs.2.1 q hq;omega,fun q hq=>by have:=hYs.2.1 q hq;omega,fun q hq=>by have:=hRs.2.1 q hq;omega,by omega,by omega,by omega,by omega⟩) ?_)
      rintro ρ wa6 v6 wb6 r he hb ⟨e1,rfl,he1,he2⟩
      replace hw:=hw.tr hb
      clear r he hb
      generalize (wa6.heap.size,wb6.heap.size)::iv5=iv6 at*
      conv=>whnf
      refine callE_S (callE_con (Φ:=fun _ w' v w2=>v= .int .i64 ((errP M b c:Nat):Int)) (fun ρ w' r=>rCheckProgram_c (fun g hg=>by have:=hS g hg;have:=r.baseLe;omega) (RatMR.keep hm (fun g hg=>(hw.tr r.bel).block g (hS g hg))) (RatsR.keep hB (fun g hg=>(hw.tr r.bel).block g (hS g hg))) (RatsR.keep hc (fun g hg=>(hw.tr r.bel).block g (hS g hg)))) ?_)
      rintro ρ wa7 v7 wb7 r he hb rfl
      replace hw:=hw.tr hb
      clear r he hb
      generalize (wa7.heap.size,wb7.heap.size)::iv6=iv7 at*
      conv=>whnf
      refine BrS.mk (fun he=>?_) (fun he=>?_)
      ·have he:errP M b c≠0:=fun e=>by rw[e]at he;simp at he
       rw[he2 he]
       conv=>whnf
       refine BrS.mk (fun _=>?_) (fun hne=>by simp at hne)
       conv=>whnf
       refine callE_S (callE_con (Φ:=fun _ w' v w2=>v= .bool true) (fun ρ w' r=>awake_c w') ?_)
       rintro ρ wa8 v8 wb8 r he hb rfl
       replace hw:=hw.tr hb
       clear r he hb
       generalize (wa8.heap.size,wb8.heap.size)::iv7=iv8 at*
       conv=>whnf
       intro ρe we re
       exact⟨_,rfl,hw.tr re.bel,rfl⟩
      have he:errP M b c=0:=by
       have h4:((errP M b c:Int)==0)=true:=by simpa using he
       have:=eq_of_beq h4
       omega
      obtain⟨k1,k2,k3,k4⟩:=hL he
      obtain⟨e1',e2',e3',e4',e5'⟩:=errP_zero he
      obtain⟨m1,m2,m3,m4,-⟩:=hM.sizes e1'
      conv=>whnf
      refine callE_S (callE_con (Φ:=fun _ w' v w2=>∃e:Nat,v= .int .i64 e∧(RightO (valsM M) (b.map ratioP) (c.map ratioP) z (X.map ratioP) (Y.map ratioP) (R.map ratioP) (ratio p1 p2)→e=0)∧(¬RightO (valsM M) (b.map ratioP) (c.map ratioP) z (X.map ratioP) (Y.map ratioP) (R.map ratioP) (ratio p1 p2)→e=25)) (fun ρ w' r=>rCheckOptimum_c (h:=4) (fun g hg=>by have:=hS g hg;have:=r.baseLe;omega) (RatML.keep hM.2.2.1 (fun g hg=>(hw.tr r.bel).block g (hS g hg))) (RatsL.keep k3.1 (fun g hg=>(hw.tr r.bel).block g (hS g hg))) (RatsL.keep k4.1 (fun g hg=>(hw.tr r.bel).block g (hS g hg))) (RatsL.keep hXs.1 (fun g hg=>(hw.tr r.bel).block g (hS g hg))) (RatsL.keep hYs.1 (fun g hg=>(hw.tr r.bel).block g (hS g hg))) (RatsL.keep hRs.1 (fun g hg=>(hw.tr r.bel).block g (hS g hg))) (hq.keep (fun g hg=>(hw.tr r.bel).block g (hS g hg))) (by rw[List.length_map,valsM_len];exact e2') (fun r hr=>by
         obtain⟨x,hx,rfl⟩:=List.mem_map.1 hr
         rw[List.length_map,List.length_map];exact e5' x hx) (by decide) m4 (fun q hq=>by have:=k3.2.1 q hq;omega) (fun q hq=>by have:=k4.2.1 q hq;omega) (fun q hq=>by have:=hXs.2.1 q hq;omega) (fun q hq=>by have:=hYs.2.1 q hq;omega) (fun q hq=>by have:=hRs.2.1 q hq;omega) (by rw[List.length_map];omega) (by rw[valsM_len];omega) (by rw[valsM_len];omega) (by rw[List.length_map];omega) (by rw[List.length_map];omega) (by rw[List.length_map];omega)) ?_)
      rintro ρ wa8 v8 wb8 r he hb ⟨e2,rfl,he3,he4⟩
      replace hw:=hw.tr hb
      clear r he hb
      generalize (wa8.heap.size,wb8.heap.size)::iv7=iv8 at*
      have hee:e2=e1:=by
       by_cases hr:RightO (valsM M) (b.map ratioP) (c.map ratioP) z (X.map ratioP) (Y.map ratioP) (R.map ratioP) (ratio p1 p2)
       ·rw[(he1 he).1 hr,he3 hr]
       ·rw[(he1 he).2 hr,he4 hr]
      subst hee
      conv=>whnf
      refine BrS.mk (fun _=>?_) (fun hne=>by simp at hne)
      conv=>whnf
      refine callE_S (callE_con (Φ:=fun _ w' v w2=>v= .bool true) (fun ρ w' r=>awake_c w') ?_)
      rintro ρ wa9 v9 wb9 r he hb rfl
      replace hw:=hw.tr hb
      clear r he hb
      generalize (wa9.heap.size,wb9.heap.size)::iv8=iv9 at*
      conv=>whnf
      intro ρe we re
      exact⟨_,rfl,hw.tr re.bel,rfl⟩
end Go.Ex
