/- A part of the proof: texts X136 to X141. Each tells its conditions in its theorems. -/
import Derived.Test.YtkdcaknoaeicdaaGreatP2
import Derived.Test.YtkdcaknoaeicdaaGreatP8
import Derived.Test.YtkdcaknoaeicdaaGreatP10
/- The kernel basis of package statics. Printed by program. No condition but sizes. -/
namespace Go.Ex
open Go Go.Sx Go.Proofs

/-- for each column, whether it is one of the first pivots -/
def pivB(pv:List Nat)(n i:Nat):List Value:=(List.range n).map fun c=>.bool (decide (c∈pv.take i))
theorem pivB_zero(pv:List Nat)(n:Nat):pivB pv n 0=List.replicate n (.bool false):=by
 refine List.ext_getElem? fun j=>?_
 rw[pivB,List.getElem?_map,List.getElem?_replicate]
 by_cases h:j<n
 ·rw[List.getElem?_range h,if_pos h];rfl
 ·rw[List.getElem?_eq_none (by simp;omega),if_neg h];rfl
theorem pivB_at{pv:List Nat}{n i c:Nat}(h:c<n):(pivB pv n i)[c]? =some (.bool (decide (c∈pv.take i))):=by
 rw[pivB,List.getElem?_map,List.getElem?_range h];rfl
theorem pivB_succ{pv:List Nat}{n i p:Nat}(hp:pv[i]? =some p):(pivB pv n i).set p (.bool true)=pivB pv n (i+1):=by
 refine List.ext_getElem? fun j=>?_
 by_cases hj:j<n
 ·rw[pivB_at hj,List.take_add_one,hp]
  by_cases hpj:p=j
  ·subst hpj
   rw[List.getElem?_set_self (by simp[pivB];exact hj)]
   simp
  ·rw[List.getElem?_set_ne hpj,pivB_at hj]
   have:j≠p:=fun e=>hpj e.symm
   simp[this]
 ·rw[List.getElem?_eq_none (by simp[pivB];omega),List.getElem?_eq_none (by simp[pivB];omega)]
theorem RowXc.at{S:Nat→Prop}{B n:Nat}{iv:Iv}{w:World}{qs:List Rat}{ax:Option Addr}{cx:Nat}(h:RowXc w S B iv (.slice ax n cx) n qs)(h0:0<n):∃g,ax=some ⟨g,0,none⟩:=by
 obtain⟨css,h1,h2,h3⟩:=h.row
 rcases h1.2 with⟨_,h0⟩|⟨g,cap,cur,e,_⟩
 ·omega
 ·injection e with e
  exact⟨g,e⟩
set_option maxHeartbeats 2000000 in
theorem sKernel_c{C S:Nat→Prop}{w:World}{v:Value}{M:List (List Rat)}{n h:Nat}(hC:Old C w)(hS:Old S w)(hM:MatC w C S v M)(hlen:Len n M)(hn0:0<n)(hn:n≤1000)(hR:M.length≤1000)(hB:RedB M n h)(hAb:Ht (reduceS M n).1 h)(hh:3*h≤90000):
  Con PG N.statics_table_kernel #[.agg #[v,.int .i64 n]] w (Ret w fun v' w2=>RatMC w2 (Nw (fun _=>False) w w2) v' (kernelS M n)):=by
 have hw:Bel w.heap.size w w:=Bel.refl
 obtain⟨am,cm,rfl,hcm,hmm⟩:=MatC.shape hM
 unfold maxLen at hmm
 obtain⟨f1,f2,f3,f4,f5⟩:=reduceS_facts n hlen
 refine in_statics_table_kernel (by simp) ?_
 conv=>whnf
 unfold kernelS
 generalize hA:(reduceS M n).1=A at*
 generalize hP:(reduceS M n).2.1=pv at*
 refine callE_S (callE_con (Φ:=fun _ w' v w2=>∃vr vp vf,v= .agg #[vr,.int .i64 n,vp,vf]∧RatMC w2 (Nw S w' w2) vr A∧IntsR w2 (Nw (fun _=>False) w' w2) vp pv∧IntsR w2 (Nw (fun _=>False) w' w2) vf (reduceS M n).2.2) (fun ρ w' r=>by
  rw[←hA,←hP]
  obtain⟨rv,m1,m2,m3⟩:=hM
  exact sReduce_c (C:=C) (S:=S) (fun g hg=>by have:=hC g hg;have:=r.baseLe;omega) (fun g hg=>by have:=hS g hg;have:=r.baseLe;omega) ⟨rv,m1.keep fun g hg=>(hw.tr r.bel).block g (hC g hg),m2,fun i u x h1 h2=>RatsC.keep (m3 i u x h1 h2) fun g hg=>(hw.tr r.bel).block g (hS g hg)⟩ hlen hn0 hn hR (Nat.le_refl _) hB hh) ?_)
 rintro ρ wa1 v1 wb1 r he hb1 ⟨vr,vp,vf,rfl,k1,k2,k3⟩
 replace hw:=hw.tr hb1
 have hR:=RatMC.old (RatMC.weak k1 fun g hg=>hg.imp (fun h=>(Or.inl h:Cv S w.heap.size [] g)) id) r.baseLe
 have hV:=IntsR.got (S:=fun _=>False) k2 r.baseLe (iv:=(wa1.heap.size,wb1.heap.size)::[]) List.mem_cons_self
 have hX:=IntsR.got (S:=fun _=>False) k3 r.baseLe (iv:=(wa1.heap.size,wb1.heap.size)::[]) List.mem_cons_self
 clear r he hb1 k1 k2 k3
 generalize (wa1.heap.size,wb1.heap.size)::[]=iv1 at*
 obtain⟨ar,cr,rfl,hcr,hmr⟩:=SlicesR.shape hR
 obtain⟨ap,cp,rfl,hcp,hmp⟩:=IntsR.shape hV
 obtain⟨af,cf,rfl,-,-⟩:=IntsR.shape hX
 clear hX
 conv=>whnf
 refine⟨n,n,rfl,rfl,Nat.le_refl _,by omega,by omega,?_⟩
 conv=>whnf
 refine⟨Nat×World×Iv,fun z=>⟨[(1,.o (.p 0 0)),(3,.o (.p 1 0)),(4,.o (.s 2 0 n n)),(20,.o (.v (.slice ap pv.length cp))),(21,.o (.v (.int .i64 pv.length))),(22,.o (.v (.int .i64 ((z.1:Nat):Int))))],[(2,.arr T.bool (pivB pv n z.1)),(1,.box T.s_echelon [.v (.slice ar A.length cr),.v (.int .i64 n),.v (.slice ap pv.length cp),.v (.slice af (reduceS M n).2.2.length cf)]),(0,.box T.s_table [.v (.slice am M.length cm),.v (.int .i64 n)])],3,z.2.2,z.2.1⟩,fun z=>pv.length-z.1,
  fun z=>z.1≤pv.length∧Bel w.heap.size w z.2.1∧RatMC z.2.1 (Cv S w.heap.size z.2.2) (.slice ar A.length cr) A∧IntsR z.2.1 (Cv (fun _=>False) w.heap.size z.2.2) (.slice ap pv.length cp) pv,?_,?_⟩
 ·intro ρ w' r3
  exact⟨(0,w',_),⟨Nat.zero_le _,hw.tr r3.bel,RatMC.rel hR r3 hS,IntsR.rel hV r3 (oldF w)⟩,Sub.gen [] r3 ⟨by dsimp only;rw[pivB_zero];rfl,rfl,rfl,trivial⟩ ⟨rfl,rfl,rfl,rfl,rfl,rfl,trivial⟩ (by simp[ScH,Blk.scopd,At.sc]) (by simp[ScE,SV.sc,At.sc]) (by rfl) (fun lo hi h=>h)⟩
 clear hw hR hV
 rintro⟨i,w1,iv⟩ ⟨hi,hw,hR,hV⟩
 dsimp only at hi hw hR hV ⊢
 conv=>whnf
 refine BrS.mk (fun hib=>?_) (fun hib=>?_)
 ·have hib:i<pv.length:=by simpa using hib
  obtain⟨p,hp⟩:∃p,pv[i]? =some p:=⟨_,List.getElem?_eq_getElem hib⟩
  have hpc:=f4 p (List.mem_of_getElem? hp)
  obtain⟨adp,hap,kp1,kp2⟩:=hV.at hp
  conv=>whnf
  refine⟨adp,hap,⟨by omega,by omega⟩,?_⟩
  conv=>whnf
  refine⟨.int .i64 (p:Int),fun ρ w' r=>?_,?_⟩
  ·rw[Int.toNat_natCast,cell_of_heap (w:=w1) (w2:=w') (by rw[addB];exact Rel.same r (oldF w) kp1)]
   exact kp2
  conv=>whnf
  refine⟨⟨by omega,by omega⟩,?_⟩
  conv=>whnf
  refine⟨by simp[pivB];omega,pivB pv n (i+1),?_,?_⟩
  ·rw[Int.toNat_natCast,Nat.mul_one,Nat.zero_add,←pivB_succ hp]
   exact set_take_drop (by simp[pivB];omega)
  conv=>whnf
  refine⟨((i+1:Nat):Int),by rw[wrap64]<;>omega,?_⟩
  conv=>whnf
  intro ρ3 w3 r3
  exact⟨(i+1,w3,_),⟨hib,hw.tr r3.bel,RatMC.rel hR r3 hS,IntsR.rel hV r3 (oldF w)⟩,Sub.gen [] r3 ⟨rfl,rfl,rfl,trivial⟩ ⟨rfl,rfl,rfl,rfl,rfl,rfl,trivial⟩ (by simp[ScH,Blk.scopd,At.sc]) (by simp[ScE,SV.sc,At.sc]) (by rfl) (fun lo hi h=>h),by dsimp only;omega⟩
 have hib:i=pv.length:=Nat.le_antisymm hi (by simpa using hib)
 subst hib
 conv=>whnf
 refine⟨Nat×List Value×World×Iv,fun z=>⟨[(32,.o (.v (.int .i64 ((z.1:Nat):Int)))),(7,.o (.w 3 z.2.1.length)),(1,.o (.p 0 0)),(3,.o (.p 1 0)),(4,.o (.s 2 0 n n)),(31,.o (.v (.int .i64 n)))],[(2,.arr T.bool (pivB pv n pv.length)),(3,.vec T.LRat 1 z.2.1),(1,.box T.s_echelon [.v (.slice ar A.length cr),.v (.int .i64 n),.v (.slice ap pv.length cp),.v (.slice af (reduceS M n).2.2.length cf)]),(0,.box T.s_table [.v (.slice am M.length cm),.v (.int .i64 n)])],4,z.2.2.2,z.2.2.1⟩,fun z=>n-z.1,
  fun z=>z.1≤n∧Bel w.heap.size w z.2.2.1∧RatMC z.2.2.1 (Cv S w.heap.size z.2.2.2) (.slice ar A.length cr) A∧IntsR z.2.2.1 (Cv (fun _=>False) w.heap.size z.2.2.2) (.slice ap pv.length cp) pv∧RowsC z.2.2.1 (Cv (fun _=>False) w.heap.size z.2.2.2) z.2.1 (kernelTo A pv n z.1),?_,?_⟩
 ·intro ρ w' r
  exact⟨(0,[],w',_),⟨Nat.zero_le _,hw.tr r.bel,RatMC.rel hR r hS,IntsR.rel hV r (oldF w),by simp[RowsC,kernelTo]⟩,Sub.nil 7 T.LRat 1 rfl (by simp[ScE,SV.sc,At.sc]) r fun ρ1 r1=>Sub.gen [] r1 ⟨rfl,rfl,rfl,rfl,trivial⟩ ⟨rfl,rfl,rfl,rfl,rfl,rfl,trivial⟩ (by simp[ScH,Blk.scopd,At.sc]) (by simp[ScE,SV.sc,At.sc]) (by rfl) (fun lo hi h=>h)⟩
 clear hw hR hV
 rintro⟨c,rv,w1,iv⟩ ⟨hc,hw,hR,hV,hK⟩
 dsimp only at hc hw hR hV hK ⊢
 have hrl:rv.length=(kernelTo A pv n c).length:=hK.1
 have hrc:=kernelTo_le A pv n c
 conv=>whnf
 refine BrS.mk (fun hcb=>?_) (fun hcb=>?_)
 ·have hcb:c<n:=by simpa using hcb
  conv=>whnf
  refine⟨⟨by omega,by omega⟩,?_⟩
  conv=>whnf
  refine⟨.bool (decide (c∈pv)),by rw[Int.toNat_natCast,Nat.mul_one,Nat.zero_add,pivB_at hcb,List.take_length],?_⟩
  conv=>whnf
  refine BrS.mk (fun hm=>?_) (fun hm=>?_)
  ·have hm:c∈pv:=by simpa using hm
   conv=>whnf
   refine⟨((c+1:Nat):Int),by rw[wrap64]<;>omega,?_⟩
   conv=>whnf
   intro ρ3 w3 r3
   exact⟨(c+1,rv,w3,_),⟨hcb,hw.tr r3.bel,RatMC.rel hR r3 hS,IntsR.rel hV r3 (oldF w),by dsimp only;rw[kernelTo_in hm];exact hK.rel r3 (oldF w)⟩,Sub.gen [] r3 ⟨rfl,rfl,rfl,rfl,trivial⟩ ⟨rfl,rfl,rfl,rfl,rfl,rfl,trivial⟩ (by simp[ScH,Blk.scopd,At.sc]) (by simp[ScE,SV.sc,At.sc]) (by rfl) (fun lo hi h=>h),by dsimp only;omega⟩
  have hm:c∉pv:=by simpa using hm
  conv=>whnf
  refine callE_S (callE_con (Φ:=fun _ w' v w2=>RowXc w2 (fun _=>False) w'.heap.size [(w'.heap.size,w2.heap.size)] v n (List.replicate n 0)) (fun ρ w' r=>sZeros_c n w' (by omega)) ?_)
  rintro ρ wa2 v2 wb2 r he hb1 hn2
  replace hw:=hw.tr hb1
  replace hR:=RatMC.weak (S':=Bs S w.heap.size ((wa2.heap.size,wb2.heap.size)::iv) v2) (RatMC.keep (RatMC.rel hR r hS) fun g hg=>he.block g (Rel.old r hS g hg)) fun g hg=>Bs.of r hS (fun x hx=>List.mem_cons_of_mem _ hx) hn2 hg
  replace hV:=IntsR.weak (S':=Bs (fun _=>False) w.heap.size ((wa2.heap.size,wb2.heap.size)::iv) v2) (IntsR.keep (IntsR.rel hV r (oldF w)) fun g hg=>he.block g (Rel.old r (oldF w) g hg)) fun g hg=>Bs.of r (oldF w) (fun x hx=>List.mem_cons_of_mem _ hx) hn2 hg
  replace hK:=RowsC.weak (S':=Bs (fun _=>False) w.heap.size ((wa2.heap.size,wb2.heap.size)::iv) v2) (RowsC.keep (RowsC.rel hK r (oldF w)) fun g hg=>he.block g (Rel.old r (oldF w) g hg)) fun g hg=>Bs.of r (oldF w) (fun x hx=>List.mem_cons_of_mem _ hx) hn2 hg
  have hX:=hn2.got (S:=fun _=>False) r.baseLe (iv:=(wa2.heap.size,wb2.heap.size)::iv) List.mem_cons_self
  clear r he hb1 hn2
  generalize (wa2.heap.size,wb2.heap.size)::iv=iv2 at*
  obtain⟨ax,cx,rfl,hcx⟩:=hX.row.form
  obtain⟨gx,rfl⟩:=hX.at hn0
  conv=>whnf
  refine callE_S (callE_con (Φ:=fun _ w' v w2=>RatC w2 (Nw (fun _=>False) w' w2) v ((1:Int):Rat)) (fun ρ w' r=>sWhole_c 1 w' (by decide) (by decide)) ?_)
  rintro ρ wa3 v3 wb3 r he hb1 hn2
  replace hw:=hw.tr hb1
  replace hR:=RatMC.weak (S':=Bs S w.heap.size ((wa3.heap.size,wb3.heap.size)::iv2) (.slice (some ⟨gx,0,none⟩) n cx)) (RatMC.keep (RatMC.keep hR (Bs.same r hS)) fun g hg=>he.block g (Rel.old r hS g hg.1)) fun g hg=>Bs.mono (fun x hx=>List.mem_cons_of_mem _ hx) hg
  replace hV:=IntsR.weak (S':=Bs (fun _=>False) w.heap.size ((wa3.heap.size,wb3.heap.size)::iv2) (.slice (some ⟨gx,0,none⟩) n cx)) (IntsR.keep (IntsR.keep hV (Bs.same r (oldF w))) fun g hg=>he.block g (Rel.old r (oldF w) g hg.1)) fun g hg=>Bs.mono (fun x hx=>List.mem_cons_of_mem _ hx) hg
  replace hK:=RowsC.weak (S':=Bs (fun _=>False) w.heap.size ((wa3.heap.size,wb3.heap.size)::iv2) (.slice (some ⟨gx,0,none⟩) n cx)) (RowsC.keep (RowsC.keep hK (Bs.same r (oldF w))) fun g hg=>he.block g (Rel.old r (oldF w) g hg.1)) fun g hg=>Bs.mono (fun x hx=>List.mem_cons_of_mem _ hx) hg
  have hd:=(hn2.weak (S':=Bs (fun _=>False) w.heap.size ((wa3.heap.size,wb3.heap.size)::iv2) (.slice (some ⟨gx,0,none⟩) n cx)) fun g hg=>hg.elim (fun h=>h.elim) fun h=>⟨.inr ⟨by have:=r.baseLe;omega,_,_,List.mem_cons_self,h.1,h.2⟩,fun e=>by have:=Rel.old r (oldF w) g (hX.new g e);omega⟩)
  replace hX:=hX.past (iv':=(wa3.heap.size,wb3.heap.size)::iv2) r (oldF w) he fun x hx=>List.mem_cons_of_mem _ hx
  clear r he hb1 hn2
  generalize (wa3.heap.size,wb3.heap.size)::iv2=iv3 at*
  obtain⟨s3_0,s3_1,s3_2,s3_3,s3_4,s3_5,s3_6,s3_7,rfl⟩:=hd.shape
  conv=>whnf
  refine⟨⟨gx,0,none⟩,rfl,⟨by omega,by omega⟩,?_⟩
  conv=>whnf
  intro ρ w' r
  obtain⟨g,hg,h1,h2,h3,h4,h5⟩:=(hX.rel r (oldF w)).store (j:=c) hcb (hd.keep (Bs.same r (oldF w))) r (oldF w)
  injection hg with hg
  injection hg with hg
  subst hg
  refine⟨h1,h2,h3,fun w5 hw5=>?_⟩
  obtain⟨k1,k2,k3⟩:=h5 w5 hw5
  have hw2:Bel w.heap.size w w5:=(hw.tr r.bel).tr (Bel.grown k2 (fun g e=>by injection e with e;subst e;exact h4.elim (fun h=>h.elim) fun h=>h.1) r.baseLe)
  have hR2:=RatMC.keep hR (Bs.kept r hS k2 fun g e=>e)
  have hV2:=IntsR.keep hV (Bs.kept r (oldF w) k2 fun g e=>e)
  have hK2:=RowsC.keep hK (Bs.kept r (oldF w) k2 fun g e=>e)
  have hnext:(List.replicate n (0:Rat)).set c ((1:Int):Rat)=kvecTo A pv n c 0:=rfl
  rw[hnext]at k1
  clear hX hR hV hK hw h1 h2 h3 h4 h5 hw5 k2 k3 r hd
  conv=>whnf
  refine⟨Nat×World×Iv,fun z=>⟨[(49,.o (.v (.int .i64 ((z.1:Nat):Int)))),(8,.o (.v (.int .i64 ((c:Nat):Int)))),(9,.o (.v (.slice (some ⟨gx,0,none⟩) n cx))),(32,.o (.v (.int .i64 ((c:Nat):Int)))),(47,.o (.v (.slice ap pv.length cp))),(48,.o (.v (.int .i64 pv.length))),(7,.o (.w 3 rv.length)),(1,.o (.p 0 0)),(3,.o (.p 1 0)),(4,.o (.s 2 0 n n)),(31,.o (.v (.int .i64 n)))],[(2,.arr T.bool (pivB pv n pv.length)),(3,.vec T.LRat 1 rv),(1,.box T.s_echelon [.v (.slice ar A.length cr),.v (.int .i64 n),.v (.slice ap pv.length cp),.v (.slice af (reduceS M n).2.2.length cf)]),(0,.box T.s_table [.v (.slice am M.length cm),.v (.int .i64 n)])],4,z.2.2,z.2.1⟩,fun z=>pv.length-z.1,
   fun z=>z.1≤pv.length∧Bel w.heap.size w z.2.1∧RatMC z.2.1 (Bs S w.heap.size z.2.2 (.slice (some ⟨gx,0,none⟩) n cx)) (.slice ar A.length cr) A∧IntsR z.2.1 (Bs (fun _=>False) w.heap.size z.2.2 (.slice (some ⟨gx,0,none⟩) n cx)) (.slice ap pv.length cp) pv∧RowsC z.2.1 (Bs (fun _=>False) w.heap.size z.2.2 (.slice (some ⟨gx,0,none⟩) n cx)) rv (kernelTo A pv n c)∧RowXc z.2.1 (fun _=>False) w.heap.size z.2.2 (.slice (some ⟨gx,0,none⟩) n cx) n (kvecTo A pv n c z.1),?_,?_⟩
  ·intro ρ w' r3
   exact⟨(0,w',_),⟨Nat.zero_le _,hw2.tr r3.bel,RatMC.keep hR2 (Bs.same r3 hS),IntsR.keep hV2 (Bs.same r3 (oldF w)),RowsC.keep hK2 (Bs.same r3 (oldF w)),k1.rel r3 (oldF w)⟩,Sub.gen [] r3 ⟨rfl,rfl,rfl,rfl,trivial⟩ ⟨rfl,rfl,rfl,rfl,rfl,rfl,rfl,rfl,rfl,rfl,rfl,trivial⟩ (by simp[ScH,Blk.scopd,At.sc]) (by simp[ScE,SV.sc,At.sc]) (by rfl) (fun lo hi h=>h)⟩
  clear hw2 hR2 hV2 hK2 k1
  rintro⟨k,w3,iv⟩ ⟨hk,hw,hR,hV,hK,hX⟩
  dsimp only at hk hw hR hV hK hX ⊢
  conv=>whnf
  refine BrS.mk (fun hkb=>?_) (fun hkb=>?_)
  ·have hkb:k<pv.length:=by simpa using hkb
   obtain⟨p,hp⟩:∃p,pv[k]? =some p:=⟨_,List.getElem?_eq_getElem hkb⟩
   have hpc:=f4 p (List.mem_of_getElem? hp)
   obtain⟨adp,hap,kp1,kp2⟩:=hV.at hp
   obtain⟨x,hx⟩:∃x,A[k]? =some x:=⟨_,List.getElem?_eq_getElem (by omega)⟩
   have hxl:=f3 x (List.mem_of_getElem? hx)
   obtain⟨q,hq⟩:∃q,x[c]? =some q:=⟨_,List.getElem?_eq_getElem (by omega)⟩
   have hat:at2 A k c=q:=by simp[at2,List.getD,hx,hq]
   have hql:=hAb x (List.mem_of_getElem? hx) q (List.mem_of_getElem? hq)
   obtain⟨adm,um,ham,hRm,km1,km2⟩:=SlicesR.load hR hx
   obtain⟨a0,c0,rfl,hc0,-⟩:=ListR.shape hRm
   obtain⟨adq,cs,haq,hF,_,hl⟩:=ListR.load hRm hq
   obtain⟨g0,g1,g2,g3,g4,g5,g6,g7,rfl,hF⟩:=hF
   conv=>whnf
   refine⟨adp,hap,⟨by omega,by omega⟩,?_⟩
   conv=>whnf
   refine⟨.int .i64 (p:Int),fun ρ w' r=>?_,?_⟩
   ·rw[Int.toNat_natCast,cell_of_heap (w:=w3) (w2:=w') (by rw[addB];exact Rel.same r (oldF w) kp1.1)]
    exact kp2
   conv=>whnf
   refine⟨adm,ham,⟨by omega,by omega⟩,?_⟩
   conv=>whnf
   refine⟨.slice a0 x.length c0,fun ρ w' r=>?_,?_⟩
   ·rw[Int.toNat_natCast,cell_of_heap (w:=w3) (w2:=w') (by rw[addB];exact Rel.same r hS km1.1)]
    exact km2
   conv=>whnf
   refine⟨adq,haq,⟨by omega,by omega⟩,?_⟩
   conv=>whnf
   refine⟨[.bool g0,.slice g1 g2 g3,.bool g4,.slice g5 g6 g7],rfl,fun ρ w' r j u hu=>?_,?_⟩
   ·obtain⟨k1,k2⟩:=hl j u hu
    rw[Int.toNat_natCast,cell_of_heap (w:=w3) (w2:=w') (by rw[addB,addB];exact Rel.same r hS k1.1)]
    exact k2
   conv=>whnf
   refine callE_S (callE_con (Φ:=fun _ w' v w2=>RatC w2 (Nw (fun _=>False) w' w2) v (-q)) (fun ρ w' r=>sNeg_c (S:=Bs S w.heap.size iv (.slice (some ⟨gx,0,none⟩) n cx)) (fun g hg=>Rel.old r hS g hg.1) ((hF.keep (Bs.same r hS)).l (by omega))) ?_)
   rintro ρ wa4 v4 wb4 r he hb1 hn2
   clear hF hl
   replace hw:=hw.tr hb1
   replace hR:=RatMC.weak (S':=Bs S w.heap.size ((wa4.heap.size,wb4.heap.size)::iv) (.slice (some ⟨gx,0,none⟩) n cx)) (RatMC.keep (RatMC.keep hR (Bs.same r hS)) fun g hg=>he.block g (Rel.old r hS g hg.1)) fun g hg=>Bs.mono (fun x hx=>List.mem_cons_of_mem _ hx) hg
   replace hV:=IntsR.weak (S':=Bs (fun _=>False) w.heap.size ((wa4.heap.size,wb4.heap.size)::iv) (.slice (some ⟨gx,0,none⟩) n cx)) (IntsR.keep (IntsR.keep hV (Bs.same r (oldF w))) fun g hg=>he.block g (Rel.old r (oldF w) g hg.1)) fun g hg=>Bs.mono (fun x hx=>List.mem_cons_of_mem _ hx) hg
   replace hK:=RowsC.weak (S':=Bs (fun _=>False) w.heap.size ((wa4.heap.size,wb4.heap.size)::iv) (.slice (some ⟨gx,0,none⟩) n cx)) (RowsC.keep (RowsC.keep hK (Bs.same r (oldF w))) fun g hg=>he.block g (Rel.old r (oldF w) g hg.1)) fun g hg=>Bs.mono (fun x hx=>List.mem_cons_of_mem _ hx) hg
   have hd:=(hn2.weak (S':=Bs (fun _=>False) w.heap.size ((wa4.heap.size,wb4.heap.size)::iv) (.slice (some ⟨gx,0,none⟩) n cx)) fun g hg=>hg.elim (fun h=>h.elim) fun h=>⟨.inr ⟨by have:=r.baseLe;omega,_,_,List.mem_cons_self,h.1,h.2⟩,fun e=>by have:=Rel.old r (oldF w) g (hX.new g e);omega⟩)
   replace hX:=hX.past (iv':=(wa4.heap.size,wb4.heap.size)::iv) r (oldF w) he fun x hx=>List.mem_cons_of_mem _ hx
   clear r he hb1 hn2
   generalize (wa4.heap.size,wb4.heap.size)::iv=iv4 at*
   obtain⟨s4_0,s4_1,s4_2,s4_3,s4_4,s4_5,s4_6,s4_7,rfl⟩:=hd.shape
   conv=>whnf
   refine⟨⟨gx,0,none⟩,rfl,⟨by omega,by omega⟩,?_⟩
   conv=>whnf
   intro ρ w' r
   obtain⟨g,hg,h1,h2,h3,h4,h5⟩:=(hX.rel r (oldF w)).store (j:=p) (by omega) (hd.keep (Bs.same r (oldF w))) r (oldF w)
   injection hg with hg
   injection hg with hg
   subst hg
   refine⟨h1,h2,h3,fun w5 hw5=>?_⟩
   obtain⟨k1,k2,k3⟩:=h5 w5 hw5
   have hw2:Bel w.heap.size w w5:=(hw.tr r.bel).tr (Bel.grown k2 (fun g e=>by injection e with e;subst e;exact h4.elim (fun h=>h.elim) fun h=>h.1) r.baseLe)
   have hR2:=RatMC.keep hR (Bs.kept r hS k2 fun g e=>e)
   have hV2:=IntsR.keep hV (Bs.kept r (oldF w) k2 fun g e=>e)
   have hK2:=RowsC.keep hK (Bs.kept r (oldF w) k2 fun g e=>e)
   have hnext:(kvecTo A pv n c k).set p (-q)=kvecTo A pv n c (k+1):=by rw[kvecTo_succ,hat,List.getD,hp];rfl
   rw[hnext]at k1
   clear hX hR hV hK hw h1 h2 h3 h4 h5 hw5 k2 k3 r hd
   conv=>whnf
   refine⟨((k+1:Nat):Int),by rw[wrap64]<;>omega,?_⟩
   conv=>whnf
   intro ρ3 w6 r3
   exact⟨(k+1,w6,_),⟨hkb,hw2.tr r3.bel,RatMC.keep hR2 (Bs.same r3 hS),IntsR.keep hV2 (Bs.same r3 (oldF w)),RowsC.keep hK2 (Bs.same r3 (oldF w)),k1.rel r3 (oldF w)⟩,Sub.gen [] r3 ⟨rfl,rfl,rfl,rfl,trivial⟩ ⟨rfl,rfl,rfl,rfl,rfl,rfl,rfl,rfl,rfl,rfl,rfl,trivial⟩ (by simp[ScH,Blk.scopd,At.sc]) (by simp[ScE,SV.sc,At.sc]) (by rfl) (fun lo hi h=>h),by dsimp only;omega⟩
  have hkb:k=pv.length:=Nat.le_antisymm hk (by simpa using hkb)
  rw[hkb]at hX
  replace hR:=RatMC.weak hR fun g hg=>hg.1
  replace hV:=IntsR.weak hV fun g hg=>hg.1
  replace hK:=(RowsC.weak hK fun g hg=>hg.1).push (u:=(.slice (some ⟨gx,0,none⟩) n cx)) (x:=kvecTo A pv n c pv.length) rfl (by have:=hX.c;exact this)
  rw[←kernelTo_out hm]at hK
  clear hX
  conv=>whnf
  refine .inl ?_
  conv=>whnf
  refine⟨by simp,by omega,by unfold maxLen;omega,?_⟩
  conv=>whnf
  refine⟨((c+1:Nat):Int),by rw[wrap64]<;>omega,?_⟩
  conv=>whnf
  intro ρ3 w3 r3
  exact⟨(c+1,rv++[(.slice (some ⟨gx,0,none⟩) n cx)],w3,_),⟨hcb,hw.tr r3.bel,RatMC.rel hR r3 hS,IntsR.rel hV r3 (oldF w),hK.rel r3 (oldF w)⟩,Sub.gen [(3,5)] r3 ⟨rfl,rfl,rfl,rfl,trivial⟩ ⟨rfl,by dsimp only;rw[List.length_append,List.length_singleton];rfl,rfl,rfl,rfl,rfl,trivial⟩ (by simp[ScH,Blk.scopd,At.sc]) (by simp[ScE,SV.sc,At.sc]) (by rfl) (fun lo hi h=>h),by dsimp only;omega⟩
 have hcb:c=n:=Nat.le_antisymm hc (by simpa using hcb)
 subst hcb
 conv=>whnf
 intro ρe we re
 refine⟨_,rfl,hw.tr re.bel,rv,?_,hK.1,fun i u x k1 k2=>RatsC.weak (RatsC.rel (hK.2.2 i u x k1 k2) re (oldF w)) fun g hg=>Cv.nw hg re⟩
 rw[←hK.1]
 exact(re.vecSeq (id:=3) (sz:=1) (m:=rv.length) rfl (by simp) (by unfold maxLen;omega) (by decide) hK.2.1).weak fun g hg=>.inr hg
end Go.Ex

/- Rows made by package statics and filled raw; the transposed matrix. Printed by program. No condition but sizes. -/
namespace Go.Ex
open Go Go.Sx Go.Proofs

/-- a row that is held raw and filled from the left -/
structure FillX(w:World)(S:Nat→Prop)(B:Nat)(iv:Iv)(v:Value)(n i:Nat)(qs:List Rat):Prop where
 row:∃css,w.ownsRow 0 T.Rat 4 v n css.flatten∧FillC w (Bs S B iv v) n i css qs
 new:∀g,v.ownBlock=some g→Cv (fun _=>False) B iv g
section
variable{S S':Nat→Prop}{H:Hp}{nx n i:Nat}{iv iv':Iv}{B:Nat}{w w' w2:World}{ρ:Nat→Sx.Val}{v:Value}{qs:List Rat}
theorem FillX.keep(h:FillX w S B iv v n i qs)(hk:∀g,Cv S B iv g→w2.heap[g]? =w.heap[g]?):FillX w2 S B iv v n i qs:=by
 obtain⟨⟨css,h1,h2⟩,h3⟩:=h
 exact⟨⟨css,ownsRow.keep h1 fun g hg=>hk g (cvF (h3 g hg)),h2.keep fun g hg=>hk g hg.1⟩,h3⟩
theorem FillX.rel(h:FillX w S B iv v n i qs)(r:Rel H nx iv B w ρ w')(hS:∀g,S g→g<B):FillX w' S B iv v n i qs:=h.keep fun _ hg=>Rel.same r hS hg
theorem FillX.mono(h:FillX w S B iv v n i qs)(hm:∀p,p∈iv→p∈iv'):FillX w S B iv' v n i qs:=by
 obtain⟨⟨css,h1,h2⟩,h3⟩:=h
 exact⟨⟨css,h1,h2.weak fun g hg=>hg.mono hm⟩,fun g hg=>(h3 g hg).mono hm⟩
theorem FillX.past(h:FillX w S B iv v n i qs)(r:Rel H nx iv B w ρ w')(hS:∀g,S g→g<B)(he:Ext w' w2)(hm:∀p,p∈iv→p∈iv'):FillX w2 S B iv' v n i qs:=
 ((h.rel r hS).keep fun g hg=>he.block g (Rel.old r hS g hg)).mono hm
/-- an array of one's own, given up -/
theorem FillX.give(r:Rel H nx iv B w ρ w'){id:Nat}(h:getH H id=some (.arr T.Rat (List.replicate n [Value.bool false,.slice none 0 0,.bool false,.slice none 0 0]).flatten))(hn:n≤maxLen)(qs:List Rat):
  FillX w' S B (((ρ id).g,(ρ id).g+1)::iv) (.slice (some ⟨(ρ id).g,0,none⟩) n n) n 0 qs:=by
 have hnil:=(r.fits h).1
 have h4:∀cs∈List.replicate n [Value.bool false,.slice none 0 0,.bool false,.slice none 0 0],cs.length=4:=fun cs hc=>by rw[List.eq_of_mem_replicate hc];rfl
 have hf:=flat_len h4
 rw[List.length_replicate]at hf
 refine⟨⟨List.replicate n [.bool false,.slice none 0 0,.bool false,.slice none 0 0],⟨hf,.inr ⟨(ρ id).g,n,_,rfl,Nat.zero_le _,r.arr id _ _ h,Nat.le_refl _,hn,by simp,by rw[←hf];exact List.take_length⟩⟩,FillC.start w' _ n qs⟩,fun g hg=>?_⟩
 injection hg with hg
 have hg:(ρ id).g=g:=hg
 subst hg
 exact .inr ⟨(r.low id _ h hnil).1,_,_,List.mem_cons_self,Nat.le_refl _,Nat.lt_succ_self _⟩
theorem FillX.store{a a1 a2:Option Addr}{c j n1 c1 n2 c2:Nat}{b b2:Bool}{q:Rat}(h:FillX w S B iv (.slice a n c) n j qs)(hj:j<n)(hq:qs[j]? =some q)(hf:RatC w (Bs S B iv (.slice a n c)) (.agg #[.bool b,.slice a1 n1 c1,.bool b2,.slice a2 n2 c2]) q)
  (r:Rel H nx iv B w ρ w') (hS:∀g,S g→g<B):
  ∃g,a=some ⟨g,0,none⟩∧((⟨g,0,none⟩:Addr).add ((j:Int).toNat*4)).spot=none∧
   (∀k,k<4→(w'.cell? (((⟨g,0,none⟩:Addr).add ((j:Int).toNat*4)).add k)).isSome=true∧w'.frozen? (((⟨g,0,none⟩:Addr).add ((j:Int).toNat*4)).add k)=false)∧
   (∀id b,getH H id=some b→(ρ id).nil=false→(ρ id).g≠((⟨g,0,none⟩:Addr).add ((j:Int).toNat*4)).block)∧
   ∀w2,w2=setCells w' ((⟨g,0,none⟩:Addr).add ((j:Int).toNat*4)) [.bool b,.slice a1 n1 c1,.bool b2,.slice a2 n2 c2]→FillX w2 S B iv (.slice a n c) n (j+1) qs∧w'.grownBy w2 (some g)∧Bel B w' w2∧Rel H nx iv B w2 ρ w2:=by
 obtain⟨⟨css,h1,h2⟩,h3⟩:=h.rel r hS
 have hf:=hf.keep (Bs.same r hS)
 obtain⟨g,rfl,hok,hst,hgr,hsz⟩:=storeRow (nv:=[.bool b,.slice a1 n1 c1,.bool b2,.slice a2 n2 c2]) h1 rfl hj rfl (by decide)
 have had:(⟨g,0,none⟩:Addr).add ((j:Int).toNat*4)=⟨g,j*4,none⟩:=by rw[Int.toNat_natCast,addr_add,Nat.zero_add]
 have hnot:=Rel.not r (oldF' B) (h3 g rfl)
 refine⟨g,rfl,by rw[had],fun k hk=>by rw[had];exact hok k hk,fun id b hb hn=>by rw[had];exact hnot id b hb hn,fun w2 hw2=>?_⟩
 rw[had]at hw2
 subst hw2
 have hset:=flat_set (cs:=[.bool b,.slice a1 n1 c1,.bool b2,.slice a2 n2 c2]) h2.four (show j<css.length by rw[h2.len];exact hj)
 rw[hset]at hst
 have hkeep:∀x,Bs S B iv (.slice (some ⟨g,0,none⟩) n c) x→(setCells w' ⟨g,j*4,none⟩ [.bool b,.slice a1 n1 c1,.bool b2,.slice a2 n2 c2]).heap[x]? =w'.heap[x]? :=fun x hx=>
  hgr.block x (Rel.old r hS x hx.1) fun e=>hx.2 e.symm
 refine⟨⟨⟨_,hst,(h2.keep hkeep).next hj hq (hf.keep hkeep)⟩,h3⟩,hgr,Bel.grown hgr (fun x e=>by injection e with e;subst e;exact(h3 g rfl).elim (fun h=>h.elim) fun h=>h.1) r.baseLe,r.rowed hnot hgr⟩
theorem FillX.done(h:FillX w S B iv v n n qs)(hl:qs.length=n):RowXc w S B iv v n qs:=by
 obtain⟨⟨css,h1,h2⟩,h3⟩:=h
 exact⟨⟨css,h1,h2.len,by rw[h2.len,hl],fun j cs q k1 k2=>h2.at_ j cs q (by rw[←hl];exact(List.getElem?_eq_some_iff.1 k2).1) k1 k2⟩,h3⟩
end
theorem transF_length(M:List (List Rat))(n:Nat):(transF M n).length=n:=by simp[transF]
theorem transF_at{M:List (List Rat)}{n k:Nat}(h:k<n):(transF M n)[k]? =some (M.map fun r=>r.getD k 0):=by rw[transF,List.getElem?_map,List.getElem?_range h];rfl
set_option maxHeartbeats 1000000 in
theorem sTransposed_c{C S:Nat→Prop}{w:World}{v:Value}{M:List (List Rat)}{n:Nat}(hC:Old C w)(hS:Old S w)(hM:MatC w C S v M)(hlen:Len n M)(hn:n≤1000)(hR:M.length≤1000):
  Con PG N.statics_table_transposed #[.agg #[v,.int .i64 n]] w (Ret w fun v' w2=>∃vr,v'= .agg #[vr,.int .i64 M.length]∧RatMC w2 (Nw S w w2) vr (transF M n)):=by
 have hw:Bel w.heap.size w w:=Bel.refl
 obtain⟨am,cm,rfl,hcm,hmm⟩:=MatC.shape hM
 unfold maxLen at hmm
 refine in_statics_table_transposed (by simp) ?_
 conv=>whnf
 refine⟨Nat×List Value×World×Iv,fun z=>⟨[(13,.o (.v (.int .i64 ((z.1:Nat):Int)))),(1,.o (.p 0 0)),(2,.o (.p 1 0)),(3,.o (.p 2 0)),(12,.o (.v (.int .i64 n)))],[(2,.box T.s_table [.w 3 z.2.1.length,.v (.int .i64 M.length)]),(3,.vec T.LRat 1 z.2.1),(1,.box T.s_table [.v (.slice none 0 0),.v (.int .i64 0)]),(0,.box T.s_table [.v (.slice am M.length cm),.v (.int .i64 n)])],4,z.2.2.2,z.2.2.1⟩,fun z=>n-z.1,
  fun z=>z.1≤n∧Bel w.heap.size w z.2.2.1∧RowsC z.2.2.1 (Cv S w.heap.size z.2.2.2) z.2.1 ((transF M n).take z.1),?_,?_⟩
 ·intro ρ w' r
  exact⟨(0,[],w',[]),⟨Nat.zero_le _,hw.tr r.bel,by simp[RowsC]⟩,Sub.nilB 2 0 T.LRat 1 rfl rfl (by simp[ScE,SV.sc,At.sc,initE]) r fun ρ1 r1=>Sub.gen [] r1 ⟨rfl,rfl,rfl,rfl,trivial⟩ ⟨rfl,rfl,rfl,rfl,rfl,trivial⟩ (by simp[ScH,Blk.scopd,At.sc]) (by simp[ScE,SV.sc,At.sc]) (by rfl) (fun lo hi h=>h)⟩
 clear hw
 rintro⟨k,rv,w1,iv⟩ ⟨hk,hw,hK⟩
 dsimp only at hk hw hK ⊢
 have hrl:rv.length=k:=by rw[hK.1,List.length_take,transF_length];omega
 conv=>whnf
 refine BrS.mk (fun hkb=>?_) (fun hkb=>?_)
 ·have hkb:k<n:=by simpa using hkb
  have htk:=transF_at (M:=M) hkb
  have hnext:(transF M n).take (k+1)=(transF M n).take k++[M.map fun r=>r.getD k 0]:=by rw[List.take_add_one,htk];rfl
  conv=>whnf
  refine⟨M.length,M.length,rfl,rfl,Nat.le_refl _,by omega,by omega,?_⟩
  conv=>whnf
  refine⟨Nat×Nat×World×Iv,fun z=>⟨[(5,.o (.v (.slice (some ⟨z.2.1,0,none⟩) M.length M.length))),(4,.o (.v (.int .i64 ((k:Nat):Int)))),(13,.o (.v (.int .i64 ((k:Nat):Int)))),(22,.o (.v (.int .i64 M.length))),(23,.o (.v (.int .i64 ((z.1:Nat):Int)))),(1,.o (.p 0 0)),(2,.o (.p 1 0)),(3,.o (.p 2 0)),(12,.o (.v (.int .i64 n)))],[(2,.box T.s_table [.w 3 rv.length,.v (.int .i64 M.length)]),(3,.vec T.LRat 1 rv),(1,.box T.s_table [.v (.slice none 0 0),.v (.int .i64 0)]),(0,.box T.s_table [.v (.slice am M.length cm),.v (.int .i64 n)])],5,z.2.2.2,z.2.2.1⟩,fun z=>M.length-z.1,
   fun z=>z.1≤M.length∧Bel w.heap.size w z.2.2.1∧RowsC z.2.2.1 (Bs S w.heap.size z.2.2.2 (.slice (some ⟨z.2.1,0,none⟩) M.length M.length)) rv ((transF M n).take k)∧FillX z.2.2.1 S w.heap.size z.2.2.2 (.slice (some ⟨z.2.1,0,none⟩) M.length M.length) M.length z.1 (M.map fun r=>r.getD k 0),?_,?_⟩
  ·intro ρ w' r
   have hf:=FillX.give (S:=S) (n:=M.length) r (id:=4) rfl (by unfold maxLen;omega) (M.map fun r=>r.getD k 0)
   exact⟨(0,(ρ 4).g,w',((ρ 4).g,(ρ 4).g+1)::iv),⟨Nat.zero_le _,hw.tr r.bel,RowsC.weak (hK.rel r hS) fun g hg=>⟨hg.mono fun p hp=>List.mem_cons_of_mem _ hp,fun e=>Rel.not r hS hg 4 _ rfl (r.fits (id:=4) rfl).1 (by injection e)⟩,hf⟩,
    Sub.give r (id:=4) (t:=5) rfl rfl ⟨rfl,rfl,rfl,rfl,trivial⟩ rfl ⟨rfl,rfl,rfl,rfl,rfl,rfl,rfl,rfl,trivial⟩ (by simp[ScE,SV.sc,At.sc])⟩
  clear hw hK
  rintro⟨i,gx,w2,iv⟩ ⟨hi,hw,hK,hX⟩
  dsimp only at hi hw hK hX ⊢
  conv=>whnf
  refine BrS.mk (fun hib=>?_) (fun hib=>?_)
  ·have hib:i<M.length:=by simpa using hib
   obtain⟨x,hx⟩:∃r,M[i]? =some r:=⟨_,List.getElem?_eq_getElem hib⟩
   have hxl:=hlen x (List.mem_of_getElem? hx)
   obtain⟨q,hq⟩:∃q,x[k]? =some q:=⟨_,List.getElem?_eq_getElem (by omega)⟩
   have hqd:x.getD k 0=q:=by rw[List.getD,hq];rfl
   obtain⟨adm,um,ham,hRm,km1,km2⟩:=MatC.load hM hx
   obtain⟨a0,c0,rfl,hc0,-⟩:=ListR.shape hRm
   obtain⟨adq,cs,haq,hF,_,hl⟩:=ListR.load hRm hq
   obtain⟨g0,g1,g2,g3,g4,g5,g6,g7,rfl,hF⟩:=hF
   conv=>whnf
   refine⟨adm,ham,⟨by omega,by omega⟩,?_⟩
   conv=>whnf
   refine⟨.slice a0 x.length c0,fun ρ w' r=>?_,?_⟩
   ·rw[Int.toNat_natCast,cell_of_heap (w:=w) (w2:=w') (by rw[addB];exact(hw.tr r.bel).block _ (hC _ km1))]
    exact km2
   conv=>whnf
   refine⟨adq,haq,⟨by omega,by omega⟩,?_⟩
   conv=>whnf
   refine⟨[.bool g0,.slice g1 g2 g3,.bool g4,.slice g5 g6 g7],rfl,fun ρ w' r j u hu=>?_,?_⟩
   ·obtain⟨k1,k2⟩:=hl j u hu
    rw[Int.toNat_natCast,cell_of_heap (w:=w) (w2:=w') (by rw[addB,addB];exact(hw.tr r.bel).block _ (hS _ k1))]
    exact k2
   conv=>whnf
   refine⟨⟨gx,0,none⟩,rfl,⟨by omega,by omega⟩,?_⟩
   conv=>whnf
   intro ρ w' r
   have hF2:RatC w2 (Bs S w.heap.size iv (.slice (some ⟨gx,0,none⟩) M.length M.length)) (.agg #[.bool g0,.slice g1 g2 g3,.bool g4,.slice g5 g6 g7]) q:=(hF.keep fun g hg=>hw.block g (hS g hg)).weak fun g hg=>⟨.inl hg,fun e=>by
    have h1:=hS g hg
    rcases hX.new g e with h2|⟨h2,_⟩
    ·exact h2
    ·omega⟩
   obtain⟨g,hg,h1,h2,h3,h4⟩:=hX.store (j:=i) hib (by rw[List.getElem?_map,hx,←hqd];rfl) hF2 r hS
   injection hg with hg
   injection hg with hg
   subst hg
   refine⟨h1,h2,h3,fun w5 hw5=>?_⟩
   obtain⟨k1,k2,k3,k4⟩:=h4 w5 hw5
   have hw2:=(hw.tr r.bel).tr k3
   have hK2:=RowsC.keep hK (Bs.kept r hS k2 fun g e=>e)
   clear hX hK hw h1 h2 h3 h4 hw5 k2 k3 k4 r hF hF2 hl
   conv=>whnf
   refine⟨((i+1:Nat):Int),by rw[wrap64]<;>omega,?_⟩
   conv=>whnf
   intro ρ3 w6 r3
   exact⟨(i+1,gx,w6,_),⟨hib,hw2.tr r3.bel,RowsC.keep hK2 (Bs.same r3 hS),k1.rel r3 hS⟩,Sub.gen [] r3 ⟨rfl,rfl,rfl,rfl,trivial⟩ ⟨rfl,rfl,rfl,rfl,rfl,rfl,rfl,rfl,rfl,trivial⟩ (by simp[ScH,Blk.scopd,At.sc]) (by simp[ScE,SV.sc,At.sc]) (by rfl) (fun lo hi h=>h),by dsimp only;omega⟩
  have hib:i=M.length:=Nat.le_antisymm hi (by simpa using hib)
  rw[hib]at hX
  have hX2:=(hX.done (by simp)).c
  replace hK:=(RowsC.weak hK fun g hg=>hg.1).push (u:=(.slice (some ⟨gx,0,none⟩) M.length M.length)) (x:=M.map fun r=>r.getD k 0) rfl hX2
  rw[←hnext]at hK
  clear hX hX2
  conv=>whnf
  refine .inl ?_
  conv=>whnf
  refine⟨by simp,by omega,by unfold maxLen;omega,?_⟩
  conv=>whnf
  refine⟨((k+1:Nat):Int),by rw[wrap64]<;>omega,?_⟩
  conv=>whnf
  intro ρ3 w3 r3
  exact⟨(k+1,rv++[(.slice (some ⟨gx,0,none⟩) M.length M.length)],w3,_),⟨hkb,hw.tr r3.bel,hK.rel r3 hS⟩,Sub.gen [(3,6)] r3 ⟨by dsimp only;rw[List.length_append,List.length_singleton];rfl,rfl,rfl,rfl,trivial⟩ ⟨rfl,rfl,rfl,rfl,rfl,trivial⟩ (by simp[ScH,Blk.scopd,At.sc]) (by simp[ScE,SV.sc,At.sc]) (by rfl) (fun lo hi h=>h),by dsimp only;omega⟩
 have hkb:k=n:=Nat.le_antisymm hk (by simpa using hkb)
 rw[List.take_of_length_le (by rw[transF_length];omega)]at hK
 conv=>whnf
 intro ρe we re
 refine⟨_,rfl,hw.tr re.bel,_,rfl,rv,?_,hK.1,fun i u x k1 k2=>RatsC.weak (RatsC.rel (hK.2.2 i u x k1 k2) re hS) fun g hg=>Cv.nw hg re⟩
 rw[←hK.1]
 exact(re.vecSeq (id:=3) (sz:=1) (m:=rv.length) rfl (by simp) (by unfold maxLen;omega) (by decide) hK.2.1).weak fun g hg=>.inr hg
end Go.Ex

/- Frames and loads: how they lie in memory. No condition. -/
namespace Go.Ex
open Go Go.Sx Go.Proofs

theorem flatk_len{k:Nat}{css:List (List Value)}(h:∀cs∈css,cs.length=k):css.flatten.length=css.length*k:=by
 induction css with
 |nil=>simp
 |cons c r ih=>rw[List.flatten_cons,List.length_append,h c List.mem_cons_self,ih fun x hx=>h x (List.mem_cons_of_mem _ hx),List.length_cons,Nat.succ_mul];omega
theorem flatk_get{k:Nat}{css:List (List Value)}(h:∀cs∈css,cs.length=k){j:Nat}{cs:List Value}(hj:css[j]? =some cs)(i:Nat)(u:Value)(hu:cs[i]? =some u):css.flatten[j*k+i]? =some u:=by
 induction css generalizing j with
 |nil=>cases hj
 |cons c r ih=>
  have hc:=h c List.mem_cons_self
  have hi:=(List.getElem?_eq_some_iff.1 hu).1
  cases j with
  |zero=>
   injection hj with hj
   subst hj
   rw[List.flatten_cons,Nat.zero_mul,Nat.zero_add,List.getElem?_append_left hi]
   exact hu
  |succ j=>
   rw[List.flatten_cons,List.getElem?_append_right (by rw[hc,Nat.succ_mul];omega),hc,show(j+1)*k+i-k=j*k+i by rw[Nat.succ_mul];omega]
   exact ih (fun x hx=>h x (List.mem_cons_of_mem _ hx)) hj
/-- a list of structs of k cells -/
def ListK{α:Type}(k:Nat)(P:World→(Nat→Prop)→List Value→α→Prop)(w:World)(S:Nat→Prop)(v:Value)(xs:List α):Prop:=
 ∃css:List (List Value),SeqR w S k v css.flatten xs.length∧css.length=xs.length∧(∀cs∈css,cs.length=k)∧∀(j:Nat) cs x,css[j]? =some cs→xs[j]? =some x→P w S cs x
section
variable{α:Type}{k:Nat}{P:World→(Nat→Prop)→List Value→α→Prop}{w w2:World}{S S':Nat→Prop}{v:Value}{xs:List α}
theorem ListK.keep(hP:∀cs x,P w S cs x→P w2 S cs x)(h:ListK k P w S v xs)(hk:∀g,S g→w2.heap[g]? =w.heap[g]?):ListK k P w2 S v xs:=by
 obtain⟨css,h1,h2,h3,h4⟩:=h;exact⟨css,h1.keep hk,h2,h3,fun j cs x k1 k2=>hP cs x (h4 j cs x k1 k2)⟩
theorem ListK.weak(hP:∀cs x,P w S cs x→P w S' cs x)(h:ListK k P w S v xs)(hk:∀g,S g→S' g):ListK k P w S' v xs:=by
 obtain⟨css,h1,h2,h3,h4⟩:=h;exact⟨css,h1.weak hk,h2,h3,fun j cs x k1 k2=>hP cs x (h4 j cs x k1 k2)⟩
theorem ListK.shape(h:ListK k P w S v xs):∃a c,v= .slice a xs.length c∧xs.length≤c∧xs.length≤maxLen:=by
 obtain⟨css,⟨h0,_,_,a,c,h1,h2,_⟩,_⟩:=h
 exact⟨a,c,h1,h2,h0⟩
theorem ListK.load{a:Option Addr}{m c j:Nat}{x:α}(hk:0<k)(h:ListK k P w S (.slice a m c) xs)(hq:xs[j]? =some x):
  ∃ad cs,a=some ad∧P w S cs x∧cs.length=k∧∀i u,cs[i]? =some u→S ad.block∧w.cell? ((ad.add (j*k)).add i)=some u:=by
 obtain⟨css,⟨h0,h1,h2,a',c',e,h3,h4⟩,hl,hl4,hf⟩:=h
 injection e with e1 e2 e3
 subst e1
 obtain⟨cs,hcs⟩:∃cs,css[j]? =some cs:=⟨_,List.getElem?_eq_getElem (by rw[hl];exact(List.getElem?_eq_some_iff.1 hq).1)⟩
 have hl:=hl4 cs (List.mem_of_getElem? hcs)
 obtain⟨ad,k1,k2,k3⟩:=h4 (j*k+0) _ (flatk_get hl4 hcs 0 _ (List.getElem?_eq_getElem (show 0<cs.length by omega)))
 refine⟨ad,cs,k1,hf j cs x hcs hq,hl,fun i u hu=>?_⟩
 obtain⟨ad2,m1,m2,m3⟩:=h4 (j*k+i) u (flatk_get hl4 hcs i u hu)
 rw[k1]at m1
 injection m1 with m1
 subst m1
 refine⟨m2,?_⟩
 rw[←m3]
 have:(ad.add (j*k)).add i=ad.add (j*k+i):=by
  unfold Addr.add
  split<;>split<;>simp_all<;>omega
 rw[this]
end
def NodeP(_w:World)(_S:Nat→Prop)(cs:List Value)(p:Int×Int×Int):Prop:=cs=[.int .i64 p.1,.int .i64 p.2.1,.int .i64 p.2.2]
def LoadP(_w:World)(_S:Nat→Prop)(cs:List Value)(p:Ld):Prop:=cs=[.int .i64 p.1,.int .i64 p.2.1,.int .i64 p.2.2.1,.int .i64 p.2.2.2]
/-- two numbers and a fraction -/
def TwoP(w:World)(S:Nat→Prop)(cs:List Value)(p:Int×Int×Rat):Prop:=∃b a n c b2 a2 n2 c2,cs=[.int .i64 p.1,.int .i64 p.2.1,.bool b,.slice a n c,.bool b2,.slice a2 n2 c2]∧RatL w S (.agg #[.bool b,.slice a n c,.bool b2,.slice a2 n2 c2]) p.2.2
theorem TwoP.keep{w w2:World}{S:Nat→Prop}{cs:List Value}{p:Int×Int×Rat}(h:TwoP w S cs p)(hk:∀g,S g→w2.heap[g]? =w.heap[g]?):TwoP w2 S cs p:=by
 obtain⟨b,a,n,c,b2,a2,n2,c2,h1,h2⟩:=h;exact⟨b,a,n,c,b2,a2,n2,c2,h1,h2.keep hk⟩
theorem TwoP.weak{w:World}{S S':Nat→Prop}{cs:List Value}{p:Int×Int×Rat}(h:TwoP w S cs p)(hk:∀g,S g→S' g):TwoP w S' cs p:=by
 obtain⟨b,a,n,c,b2,a2,n2,c2,h1,h2⟩:=h;exact⟨b,a,n,c,b2,a2,n2,c2,h1,h2.weak hk⟩
abbrev NodesR:=ListK 3 NodeP
abbrev LoadsR:=ListK 4 LoadP
abbrev TwosR:=ListK 6 TwoP
structure FrameR(w:World)(S:Nat→Prop)(vn vb vs:Value)(f:Frm):Prop where
 nodes:NodesR w S vn f.nodes
 bars:TwosR w S vb f.bars
 sups:TwosR w S vs f.sups
section
variable{S S':Nat→Prop}{H:Hp}{nx:Nat}{iv iv':Iv}{B:Nat}{w w' w2:World}{ρ:Nat→Sx.Val}{v vn vb vs:Value}{f:Frm}{l:List Ld}
theorem LoadsR.keep(h:LoadsR w S v l)(hk:∀g,S g→w2.heap[g]? =w.heap[g]?):LoadsR w2 S v l:=ListK.keep (w:=w) (fun _ _ h=>h) h hk
theorem LoadsR.weak(h:LoadsR w S v l)(hk:∀g,S g→S' g):LoadsR w S' v l:=ListK.weak (S:=S) (fun _ _ h=>h) h hk
theorem FrameR.keep(h:FrameR w S vn vb vs f)(hk:∀g,S g→w2.heap[g]? =w.heap[g]?):FrameR w2 S vn vb vs f:=
 ⟨ListK.keep (w:=w) (fun _ _ h=>h) h.nodes hk,ListK.keep (fun _ _ h=>h.keep hk) h.bars hk,ListK.keep (fun _ _ h=>h.keep hk) h.sups hk⟩
theorem FrameR.weak(h:FrameR w S vn vb vs f)(hk:∀g,S g→S' g):FrameR w S' vn vb vs f:=
 ⟨ListK.weak (S:=S) (fun _ _ h=>h) h.nodes hk,ListK.weak (fun _ _ h=>h.weak hk) h.bars hk,ListK.weak (fun _ _ h=>h.weak hk) h.sups hk⟩
theorem FrameR.rel(h:FrameR w (Cv S B iv) vn vb vs f)(r:Rel H nx iv B w ρ w')(hS:∀g,S g→g<B):FrameR w' (Cv S B iv) vn vb vs f:=h.keep fun _ hg=>Rel.same r hS hg
theorem FrameR.shape(h:FrameR w S vn vb vs f):∃an cn ab cb aq cs,vn= .slice an f.nodes.length cn∧vb= .slice ab f.bars.length cb∧vs= .slice aq f.sups.length cs∧f.nodes.length≤maxLen∧f.bars.length≤maxLen∧f.sups.length≤maxLen:=by
 obtain⟨an,cn,h1,_,h2⟩:=h.nodes.shape
 obtain⟨ab,cb,h3,_,h4⟩:=h.bars.shape
 obtain⟨aq,cs,h5,_,h6⟩:=h.sups.shape
 exact⟨an,cn,ab,cb,aq,cs,h1,h3,h5,h2,h4,h6⟩
end
end Go.Ex

/- Rows of ints that are held raw and written; the way along a bar. Printed by program. No condition but sizes. -/
namespace Go.Ex
open Go Go.Sx Go.Proofs

/-- an element of an array value of ints -/
theorem opS_indexT{P:Program}{τ:Tab}{B nx:Nat}{l:Env}{H:Hp}{iv:Iv}{w:World}(hτ:TabOK P τ){dst:Option Tmp}{t ty len e sz by_:Nat}{ag:Bool}{ze ze2:List Value}{ik ik2:IntKind}{b2 tag2 al2 e0:Nat}{fs fs2:List (Nat×Nat)}{x i:Operand}{pos:String}{after:Array Edge}{guard:Option (Nat×Bool)}{K:SV→Hp→Nat→Iv→World→Prop}{vx:SV}{cs:Array Value}{k:IntKind}{m:Int}{u:Value}
  (ht:τ t=some ⟨sz,ag,by_,ze,6,ik,e,len,fs⟩) (hte:τ e=some ⟨1,false,b2,ze2,tag2,ik2,e0,al2,fs2⟩) (hx:ev l x=some vx) (hxd:∀ρ,vx.den ρ= .agg cs) (hi:ev l i=some (.o (.v (.int k m)))) (hm:0≤m∧m<len) (hc:cs[m.toNat]? =some u)
  (hK:∀ρ w',Rel H nx iv B w ρ w'→K (.o (.v u)) H nx iv w'):OpS P B ⟨dst,.index t x i,ty,pos,after,guard⟩ l H nx iv w K:=by
 have hto:=(hτ t _ ht).i6 rfl
 have hteo:=hτ e _ hte
 refine opS_indexA hto (fun w=>hteo.sizeOf w) (fun w j v hv=>?_) hx hxd hi hm hc hK
 simp[part,hteo.isAgg,hv]
/-- rows of ints -/
structure ZRws(w:World)(B:Nat)(iv:Iv)(rv:List Value)(n:Nat)(M:List (List Int)):Prop where
 len:rv.length=M.length
 wid:∀l∈M,l.length=n
 row:∀(i:Nat) v l,rv[i]? =some v→M[i]? =some l→w.ownsRow 0 T.int 1 v n (l.map fun z=>.int .i64 z)
 dis:∀(i j:Nat) a b g,rv[i]? =some a→rv[j]? =some b→a.ownBlock=some g→b.ownBlock=some g→i=j
 new:∀g,Ob rv g→Cv (fun _=>False) B iv g
section
variable{H:Hp}{nx n:Nat}{iv iv':Iv}{B:Nat}{w w' w2:World}{ρ:Nat→Sx.Val}{rv:List Value}{M:List (List Int)}
theorem ZRws.nil:ZRws w B iv [] n []:=⟨rfl,fun l h=>(by cases h),fun i v l h=>(by cases h),fun i j a b g h=>(by cases h),fun g ⟨v,hv,_⟩=>by cases hv⟩
theorem ZRws.keep(h:ZRws w B iv rv n M)(hk:∀g,Cv (fun _=>False) B iv g→w2.heap[g]? =w.heap[g]?):ZRws w2 B iv rv n M:=
 ⟨h.len,h.wid,fun i v l h1 h2=>ownsRow.keep (h.row i v l h1 h2) fun g hg=>hk g (h.new g ⟨v,List.mem_of_getElem? h1,hg⟩),h.dis,h.new⟩
theorem ZRws.rel(h:ZRws w B iv rv n M)(r:Rel H nx iv B w ρ w'):ZRws w' B iv rv n M:=h.keep fun _ hg=>Rel.same r (oldF' B) hg
theorem ZRws.mono(h:ZRws w B iv rv n M)(hm:∀p,p∈iv→p∈iv'):ZRws w B iv' rv n M:=⟨h.len,h.wid,h.row,h.dis,fun g hg=>(h.new g hg).mono hm⟩
theorem ZRws.past(h:ZRws w B iv rv n M)(r:Rel H nx iv B w ρ w')(he:Ext w' w2)(hm:∀p,p∈iv→p∈iv'):ZRws w2 B iv' rv n M:=
 ((h.rel r).keep fun g hg=>he.block g (Rel.old r (oldF' B) g hg)).mono hm
theorem ZRws.form(hM:ZRws w B iv rv n M){i:Nat}{v:Value}(hv:rv[i]? =some v):∃a c,v= .slice a n c:=by
 obtain⟨l,hl⟩:∃l,M[i]? =some l:=⟨_,List.getElem?_eq_getElem (by rw[←hM.len];exact(List.getElem?_eq_some_iff.1 hv).1)⟩
 obtain⟨a,c,h,_⟩:=row_form (hM.row i v l hv hl)
 exact⟨a,c,h⟩
theorem ZRws.one(hM:ZRws w B iv rv n M):∀u∈rv,u.oneCell'=true:=fun u hu=>by
 obtain⟨i,hi⟩:=List.getElem?_of_mem hu
 obtain⟨a,c,rfl⟩:=hM.form hi
 rfl
theorem ZRws.load(hM:ZRws w B iv rv n M){i k:Nat}{a:Option Addr}{c:Nat}{l:List Int}{z:Int}(hv:rv[i]? =some (.slice a n c))(hl:M[i]? =some l)(hk:l[k]? =some z):
  ∃ad,a=some ad∧Cv (fun _=>False) B iv ad.block∧w.cell? (ad.add (k*1))=some (.int .i64 z):=by
 have h:=hM.row i _ l hv hl
 have hlen:=hM.wid l (List.mem_of_getElem? hl)
 rcases h.2 with⟨_,h0⟩|⟨g,cap,cur,e,_⟩
 ·have:=(List.getElem?_eq_some_iff.1 hk).1;omega
 ·injection e with e
  refine⟨⟨g,0,none⟩,e,hM.new g ⟨_,List.mem_of_getElem? hv,by rw[e];rfl⟩,?_⟩
  have:=h.cells (g:=g) (by rw[e];rfl) k (.int .i64 z) (by rw[List.getElem?_map,hk];rfl)
  rw[Nat.mul_one]
  exact this
theorem ZRws.store(hM:ZRws w B iv rv n M)(r:Rel H nx iv B w ρ w'){i k:Nat}{a:Option Addr}{c:Nat}{l:List Int}{z:Int}(hv:rv[i]? =some (.slice a n c))(hl:M[i]? =some l)(hk:k<n):
  ∃g,a=some ⟨g,0,none⟩∧((⟨g,0,none⟩:Addr).add ((k:Int).toNat*1)).spot=none∧
   (∀j,j<1→(w'.cell? (((⟨g,0,none⟩:Addr).add ((k:Int).toNat*1)).add j)).isSome=true∧w'.frozen? (((⟨g,0,none⟩:Addr).add ((k:Int).toNat*1)).add j)=false)∧
   (∀id b,getH H id=some b→(ρ id).nil=false→(ρ id).g≠((⟨g,0,none⟩:Addr).add ((k:Int).toNat*1)).block)∧
   ∀w2,w2=setCells w' ((⟨g,0,none⟩:Addr).add ((k:Int).toNat*1)) [.int .i64 z]→ZRws w2 B iv rv n (M.set i (l.set k z))∧Bel B w' w2∧Rel H nx iv B w2 ρ w2∧w'.grownBy w2 (some g)∧Ob rv g:=by
 have hMr:=hM.rel r
 have h1:=hMr.row i _ l hv hl
 have hlen:=hM.wid l (List.mem_of_getElem? hl)
 obtain⟨g,rfl,hok,hst,hgr,hsz⟩:=storeRow (nv:=[.int .i64 z]) h1 rfl hk rfl (by decide)
 have hob:Ob rv g:=⟨_,List.mem_of_getElem? hv,rfl⟩
 have had:(⟨g,0,none⟩:Addr).add ((k:Int).toNat*1)=⟨g,k*1,none⟩:=by rw[Int.toNat_natCast,addr_add,Nat.zero_add]
 have hnot:=Rel.not r (oldF' B) (hM.new g hob)
 refine⟨g,rfl,by rw[had],fun j hj=>by rw[had];exact hok j hj,fun id b hb hn=>by rw[had];exact hnot id b hb hn,fun w2 hw2=>?_⟩
 rw[had]at hw2
 subst hw2
 refine⟨⟨by rw[List.length_set];exact hM.len,fun x hx=>?_,fun j v l2 h3 h4=>?_,hM.dis,hM.new⟩,Bel.grown hgr (fun x e=>by injection e with e;subst e;exact(hM.new g hob).elim (fun h=>h.elim) fun h=>h.1) r.baseLe,r.rowed hnot hgr,hgr,hob⟩
 ·rcases List.mem_or_eq_of_mem_set hx with hx|rfl
  ·exact hM.wid x hx
  ·rw[List.length_set];exact hlen
 ·by_cases hij:i=j
  ·subst hij
   rw[hv]at h3
   injection h3 with h3
   subst h3
   rw[List.getElem?_set_self (by rw[←hM.len];exact(List.getElem?_eq_some_iff.1 hv).1)]at h4
   injection h4 with h4
   subst h4
   rw[List.map_set,←set_take_drop (by rw[List.length_map];omega)]
   simp only[Nat.mul_one]at hst ⊢
   exact hst
  ·rw[List.getElem?_set_ne hij]at h4
   refine ownsRow.keep (hMr.row j v l2 h3 h4) fun x hx=>hgr.block x ?_ fun e=>?_
   ·exact Rel.old r (oldF' B) x (hM.new x ⟨v,List.mem_of_getElem? h3,hx⟩)
   ·injection e with e
    exact hij (hM.dis i j _ v x hv h3 (by rw[←e];rfl) hx)
theorem ZRws.push(hM:ZRws w B iv rv n M){gx:Nat}{l:List Int}(hgx:∀g,Cv (fun _=>False) B iv g→g≠gx)(hBx:B≤gx)(hl:l.length=n)(hrow:w.ownsRow 0 T.int 1 (.slice (some ⟨gx,0,none⟩) n n) n (l.map fun z=>.int .i64 z)):
  ZRws w B ((gx,gx+1)::iv) (rv++[.slice (some ⟨gx,0,none⟩) n n]) n (M++[l]):=by
 have hob:∀g,Ob rv g→g≠gx:=fun g hg=>hgx g (hM.new g hg)
 have key:∀(k:Nat) v,(rv++[Value.slice (some ⟨gx,0,none⟩) n n])[k]? =some v→(k<rv.length∧rv[k]? =some v)∨(k=rv.length∧v= .slice (some ⟨gx,0,none⟩) n n):=fun k v hk=>by
  rcases Nat.lt_or_ge k rv.length with hi|hi
  ·rw[List.getElem?_append_left hi]at hk
   exact .inl ⟨hi,hk⟩
  ·have hi0:k=rv.length:=by have:=(List.getElem?_eq_some_iff.1 hk).1;simp at this;omega
   rw[hi0,List.getElem?_append_right (Nat.le_refl _),Nat.sub_self]at hk
   simp at hk
   exact .inr ⟨hi0,hk.symm⟩
 refine⟨by simp[hM.len],fun x hx=>?_,fun i v x h1 h2=>?_,fun i j a b g h1 h2 h3 h4=>?_,fun g hg=>?_⟩
 ·rcases List.mem_append.1 hx with hx|hx
  ·exact hM.wid x hx
  ·rw[List.mem_singleton.1 hx];exact hl
 ·rcases key i v h1 with⟨hi,k1⟩|⟨e1,rfl⟩
  ·rw[List.getElem?_append_left (by rw[←hM.len];exact hi)]at h2
   exact hM.row i v x k1 h2
  ·rw[e1,hM.len,List.getElem?_append_right (Nat.le_refl _),Nat.sub_self]at h2
   simp at h2
   subst h2
   exact hrow
 ·rcases key i a h1 with⟨_,k1⟩|⟨e1,rfl⟩<;>rcases key j b h2 with⟨_,k2⟩|⟨e2,rfl⟩
  ·exact hM.dis i j a b g k1 k2 h3 h4
  ·injection h4 with h4
   exact absurd h4.symm (hob g ⟨a,List.mem_of_getElem? k1,h3⟩)
  ·injection h3 with h3
   exact absurd h3.symm (hob g ⟨b,List.mem_of_getElem? k2,h4⟩)
  ·rw[e1,e2]
 ·rcases Ob.append.1 hg with h|h
  ·exact(hM.new g h).mono fun p hp=>List.mem_cons_of_mem _ hp
  ·injection h with h
   have h:gx=g:=h
   subst h
   exact .inr ⟨hBx,_,_,List.mem_cons_self,Nat.le_refl _,Nat.lt_succ_self _⟩
end
/-- lists of ints, and of such -/
def ZsR(w:World)(S:Nat→Prop)(v:Value)(l:List Int):Prop:=SeqR w S 1 v (l.map fun z=>.int .i64 z) l.length
abbrev ZMR:=SlicesR ZsR
theorem ZsR.keep{w w2:World}{S:Nat→Prop}{v:Value}{l:List Int}(h:ZsR w S v l)(hk:∀g,S g→w2.heap[g]? =w.heap[g]?):ZsR w2 S v l:=SeqR.keep h hk
theorem ZsR.weak{w:World}{S S':Nat→Prop}{v:Value}{l:List Int}(h:ZsR w S v l)(hk:∀g,S g→S' g):ZsR w S' v l:=SeqR.weak h hk
theorem ZMR.keep{w w2:World}{S:Nat→Prop}{v:Value}{M:List (List Int)}(h:ZMR w S v M)(hk:∀g,S g→w2.heap[g]? =w.heap[g]?):ZMR w2 S v M:=by
 obtain⟨rv,h1,h2,h3⟩:=h;exact⟨rv,h1.keep hk,h2,fun i u x k1 k2=>(h3 i u x k1 k2).keep hk⟩
theorem ZMR.weak{w:World}{S S':Nat→Prop}{v:Value}{M:List (List Int)}(h:ZMR w S v M)(hk:∀g,S g→S' g):ZMR w S' v M:=by
 obtain⟨rv,h1,h2,h3⟩:=h;exact⟨rv,h1.weak hk,h2,fun i u x k1 k2=>(h3 i u x k1 k2).weak hk⟩
theorem ZsR.at{w:World}{S:Nat→Prop}{a:Option Addr}{m c j:Nat}{l:List Int}{z:Int}(h:ZsR w S (.slice a m c) l)(hj:l[j]? =some z):∃ad,a=some ad∧S ad.block∧w.cell? (ad.add (j*1))=some (.int .i64 z):=by
 obtain⟨h0,h1,h2,a',c',e,h3,h4⟩:=h
 injection e with e1 e2 e3
 subst e1
 obtain⟨ad,k1,k2,k3⟩:=h4 j (.int .i64 z) (by rw[List.getElem?_map,hj];rfl)
 exact⟨ad,k1,k2,by rw[Nat.mul_one];exact k3⟩
theorem ZsR.shape{w:World}{S:Nat→Prop}{v:Value}{l:List Int}(h:ZsR w S v l):∃a c,v= .slice a l.length c∧l.length≤c∧l.length≤maxLen:=by
 obtain⟨h0,h1,h2,a,c,e,h3,h4⟩:=h
 exact⟨a,c,e,h3,h0⟩
/-- what a frame must be for its matrix: coordinates, and nodes of bars and supports -/
structure FrmOk(f:Frm):Prop where
 co:∀p∈f.nodes,(-1000000≤p.1∧p.1≤1000000)∧(-1000000≤p.2.1∧p.2.1≤1000000)∧(-1000000≤p.2.2∧p.2.2≤1000000)
 bar:∀b∈f.bars,(0≤b.1∧b.1<f.nodes.length)∧(0≤b.2.1∧b.2.1<f.nodes.length)
 sup:∀s∈f.sups,(0≤s.1∧s.1<f.nodes.length)∧(0≤s.2.1∧s.2.1≤2)
 n:f.nodes.length≤20
 b:f.bars.length≤60
 s:f.sups.length≤60
theorem FrmOk.node{f:Frm}(h:FrmOk f){i:Int}(h0:0≤i)(h1:i<f.nodes.length):∃k:Nat,∃p,i=k∧k<f.nodes.length∧f.nodes[k]? =some p∧f.node i=p∧(-1000000≤p.1∧p.1≤1000000)∧(-1000000≤p.2.1∧p.2.1≤1000000)∧(-1000000≤p.2.2∧p.2.2≤1000000):=by
 obtain⟨k,rfl⟩:=Int.eq_ofNat_of_zero_le h0
 have hk:k<f.nodes.length:=by omega
 refine⟨k,f.nodes[k],rfl,hk,List.getElem?_eq_getElem hk,?_,h.co _ (List.getElem_mem hk)⟩
 rw[Frm.node,Int.toNat_natCast,List.getD,List.getElem?_eq_getElem hk]
 rfl
theorem sDifference_c{S:Nat→Prop}{w:World}{vn vb vs:Value}{f:Frm}{a b:Int}{b3 b6:Bool}{a4 a7:Option Addr}{n4 c4 n7 c7:Nat}(hS:Old S w)(hn:NodesR w S vn f.nodes)(hok:FrmOk f)(hA:0≤a∧a<f.nodes.length)(hB:0≤b∧b<f.nodes.length):
  Con PG N.statics_difference #[.agg #[vn,vb,vs],.agg #[.int .i64 a,.int .i64 b,.bool b3,.slice a4 n4 c4,.bool b6,.slice a7 n7 c7]] w (Ret w fun v' _=>v'= .agg #[.int .i64 ((f.node b).1-(f.node a).1),.int .i64 ((f.node b).2.1-(f.node a).2.1),.int .i64 ((f.node b).2.2-(f.node a).2.2)]):=by
 have hw:Bel w.heap.size w w:=Bel.refl
 obtain⟨an,cn,rfl,hcn,hmn⟩:=hn.shape
 unfold maxLen at hmn
 obtain⟨ka,pa,ea,hka,hpa,hna,⟨_,_⟩,⟨_,_⟩,⟨_,_⟩⟩:=hok.node hA.1 hA.2
 obtain⟨kb,pb,eb,hkb,hpb,hnb,⟨_,_⟩,⟨_,_⟩,⟨_,_⟩⟩:=hok.node hB.1 hB.2
 obtain⟨ada,csa,haa,hPa,-,hla⟩:=hn.load (by decide) hpa
 obtain⟨adb,csb,hab,hPb,-,hlb⟩:=hn.load (by decide) hpb
 have hPa:csa=[.int .i64 pa.1,.int .i64 pa.2.1,.int .i64 pa.2.2]:=hPa
 have hPb:csb=[.int .i64 pb.1,.int .i64 pb.2.1,.int .i64 pb.2.2]:=hPb
 subst hPa hPb
 rw[hna,hnb]
 subst ea eb
 refine in_statics_difference (by simp) ?_
 conv=>whnf
 refine drawn_of_tg hτ hmix (.x 0 (.x 2 (.x 6 (.x 8 (.ld 1 49200 (.ld 3 49200 (.x 4 (.ld 5 49152 (.ld 7 35840 (.ld 9 35840 (.x 10 (.ld 11 32768 (.two 12 (.x 13 (.x 14 (.x 15 .nil))) 13 (.x 12 (.x 14 (.x 15 .nil)))))))))))))))) (by kernel_rfl) (by kernel_rfl) ?_
 conv=>whnf
 refine⟨ada,haa,⟨by omega,by omega⟩,?_⟩
 conv=>whnf
 refine⟨[.int .i64 pa.1,.int .i64 pa.2.1,.int .i64 pa.2.2],rfl,fun ρ w' r j u hu=>?_,?_⟩
 ·obtain⟨k1,k2⟩:=hla j u hu
  rw[Int.toNat_natCast,cell_of_heap (w:=w) (w2:=w') (by rw[addB,addB];exact(hw.tr r.bel).block _ (hS _ k1))]
  exact k2
 conv=>whnf
 refine⟨adb,hab,⟨by omega,by omega⟩,?_⟩
 conv=>whnf
 refine⟨[.int .i64 pb.1,.int .i64 pb.2.1,.int .i64 pb.2.2],rfl,fun ρ w' r j u hu=>?_,?_⟩
 ·obtain⟨k1,k2⟩:=hlb j u hu
  rw[Int.toNat_natCast,cell_of_heap (w:=w) (w2:=w') (by rw[addB,addB];exact(hw.tr r.bel).block _ (hS _ k1))]
  exact k2
 conv=>whnf
 refine⟨?_,?_⟩
 ·conv=>whnf
  refine⟨[.int .i64 pb.1,.int .i64 pb.2.1,.int .i64 pb.2.2],rfl,fun ρ w' r j u hu=>?_,?_⟩
  ·obtain⟨k1,k2⟩:=hlb j u hu
   rw[Int.toNat_natCast,cell_of_heap (w:=w) (w2:=w') (by rw[addB,addB];exact(hw.tr r.bel).block _ (hS _ k1))]
   exact k2
  conv=>whnf
  refine⟨rfl,?_⟩
  conv=>whnf
  refine⟨rfl,?_⟩
  conv=>whnf
  refine⟨rfl,?_⟩
  conv=>whnf
  refine⟨[.int .i64 pa.1,.int .i64 pa.2.1,.int .i64 pa.2.2],rfl,fun ρ w' r j u hu=>?_,?_⟩
  ·obtain⟨k1,k2⟩:=hla j u hu
   rw[Int.toNat_natCast,cell_of_heap (w:=w) (w2:=w') (by rw[addB,addB];exact(hw.tr r.bel).block _ (hS _ k1))]
   exact k2
  conv=>whnf
  refine⟨rfl,?_⟩
  conv=>whnf
  refine⟨rfl,?_⟩
  conv=>whnf
  refine⟨rfl,?_⟩
  conv=>whnf
  refine⟨[.int .i64 pb.1,.int .i64 pb.2.1,.int .i64 pb.2.2],rfl,fun ρ w' r j u hu=>?_,?_⟩
  ·obtain⟨k1,k2⟩:=hlb j u hu
   rw[Int.toNat_natCast,cell_of_heap (w:=w) (w2:=w') (by rw[addB,addB];exact(hw.tr r.bel).block _ (hS _ k1))]
   exact k2
  conv=>whnf
  refine⟨rfl,?_⟩
  conv=>whnf
  refine⟨rfl,?_⟩
  conv=>whnf
  refine⟨rfl,?_⟩
  conv=>whnf
  refine⟨[.int .i64 pa.1,.int .i64 pa.2.1,.int .i64 pa.2.2],rfl,fun ρ w' r j u hu=>?_,?_⟩
  ·obtain⟨k1,k2⟩:=hla j u hu
   rw[Int.toNat_natCast,cell_of_heap (w:=w) (w2:=w') (by rw[addB,addB];exact(hw.tr r.bel).block _ (hS _ k1))]
   exact k2
  conv=>whnf
  refine⟨rfl,?_⟩
  conv=>whnf
  refine⟨rfl,?_⟩
  conv=>whnf
  refine⟨rfl,?_⟩
  conv=>whnf
  refine⟨[.int .i64 pb.1,.int .i64 pb.2.1,.int .i64 pb.2.2],rfl,fun ρ w' r j u hu=>?_,?_⟩
  ·obtain⟨k1,k2⟩:=hlb j u hu
   rw[Int.toNat_natCast,cell_of_heap (w:=w) (w2:=w') (by rw[addB,addB];exact(hw.tr r.bel).block _ (hS _ k1))]
   exact k2
  conv=>whnf
  refine⟨rfl,?_⟩
  conv=>whnf
  refine⟨rfl,?_⟩
  conv=>whnf
  refine⟨rfl,?_⟩
  conv=>whnf
  refine⟨pb.1-pa.1,by rw[wrap64]<;>omega,?_⟩
  conv=>whnf
  refine⟨pb.2.1-pa.2.1,by rw[wrap64]<;>omega,?_⟩
  conv=>whnf
  refine⟨pb.2.2-pa.2.2,by rw[wrap64]<;>omega,?_⟩
  conv=>whnf
  intro ρe we re
  exact⟨_,rfl,hw.tr re.bel,rfl⟩
 ·conv=>whnf
  refine⟨[.int .i64 pb.1,.int .i64 pb.2.1,.int .i64 pb.2.2],rfl,fun ρ w' r j u hu=>?_,?_⟩
  ·obtain⟨k1,k2⟩:=hlb j u hu
   rw[Int.toNat_natCast,cell_of_heap (w:=w) (w2:=w') (by rw[addB,addB];exact(hw.tr r.bel).block _ (hS _ k1))]
   exact k2
  conv=>whnf
  refine⟨rfl,?_⟩
  conv=>whnf
  refine⟨rfl,?_⟩
  conv=>whnf
  refine⟨rfl,?_⟩
  conv=>whnf
  refine⟨[.int .i64 pa.1,.int .i64 pa.2.1,.int .i64 pa.2.2],rfl,fun ρ w' r j u hu=>?_,?_⟩
  ·obtain⟨k1,k2⟩:=hla j u hu
   rw[Int.toNat_natCast,cell_of_heap (w:=w) (w2:=w') (by rw[addB,addB];exact(hw.tr r.bel).block _ (hS _ k1))]
   exact k2
  conv=>whnf
  refine⟨rfl,?_⟩
  conv=>whnf
  refine⟨rfl,?_⟩
  conv=>whnf
  refine⟨rfl,?_⟩
  conv=>whnf
  refine⟨[.int .i64 pb.1,.int .i64 pb.2.1,.int .i64 pb.2.2],rfl,fun ρ w' r j u hu=>?_,?_⟩
  ·obtain⟨k1,k2⟩:=hlb j u hu
   rw[Int.toNat_natCast,cell_of_heap (w:=w) (w2:=w') (by rw[addB,addB];exact(hw.tr r.bel).block _ (hS _ k1))]
   exact k2
  conv=>whnf
  refine⟨rfl,?_⟩
  conv=>whnf
  refine⟨rfl,?_⟩
  conv=>whnf
  refine⟨rfl,?_⟩
  conv=>whnf
  refine⟨[.int .i64 pa.1,.int .i64 pa.2.1,.int .i64 pa.2.2],rfl,fun ρ w' r j u hu=>?_,?_⟩
  ·obtain⟨k1,k2⟩:=hla j u hu
   rw[Int.toNat_natCast,cell_of_heap (w:=w) (w2:=w') (by rw[addB,addB];exact(hw.tr r.bel).block _ (hS _ k1))]
   exact k2
  conv=>whnf
  refine⟨rfl,?_⟩
  conv=>whnf
  refine⟨rfl,?_⟩
  conv=>whnf
  refine⟨rfl,?_⟩
  conv=>whnf
  refine⟨[.int .i64 pb.1,.int .i64 pb.2.1,.int .i64 pb.2.2],rfl,fun ρ w' r j u hu=>?_,?_⟩
  ·obtain⟨k1,k2⟩:=hlb j u hu
   rw[Int.toNat_natCast,cell_of_heap (w:=w) (w2:=w') (by rw[addB,addB];exact(hw.tr r.bel).block _ (hS _ k1))]
   exact k2
  conv=>whnf
  refine⟨rfl,?_⟩
  conv=>whnf
  refine⟨rfl,?_⟩
  conv=>whnf
  refine⟨rfl,?_⟩
  conv=>whnf
  refine⟨pb.1-pa.1,by rw[wrap64]<;>omega,?_⟩
  conv=>whnf
  refine⟨pb.2.1-pa.2.1,by rw[wrap64]<;>omega,?_⟩
  conv=>whnf
  refine⟨pb.2.2-pa.2.2,by rw[wrap64]<;>omega,?_⟩
  conv=>whnf
  intro ρe we re
  exact⟨_,rfl,hw.tr re.bel,rfl⟩
end Go.Ex

/- The matrix of a frame. Printed by program. No condition but sizes. -/
namespace Go.Ex
open Go Go.Sx Go.Proofs

theorem fill_app{α:Type}{rv:List α}{a b:α}{i m:Nat}(hl:rv.length=i)(h:i<m):(rv++List.replicate (m-i) b).take i++[a]++(rv++List.replicate (m-i) b).drop (i+1)=(rv++[a])++List.replicate (m-(i+1)) b:=by
 rw[List.take_left' hl,List.drop_append,hl,List.drop_of_length_le (by omega),List.nil_append,List.drop_replicate]
 congr 2
 omega
end Go.Ex
namespace Go.Sx
open Go Go.Ex Go.Proofs
theorem Rel.arrSeqM{H:Hp}{nx:Nat}{iv:Iv}{B:Nat}{w w':World}{ρ:Nat→Sx.Val}(r:Rel H nx iv B w ρ w'){id t m sz:Nat}{cs:List Value}(h:getH H id=some (.arr t cs))(hm:cs.length=m*sz)(hm1:m≤maxLen)(h1:∀u∈cs,u.oneCell'=true):
  SeqR w' (fun g=>B≤g∧g<w'.heap.size) sz (.slice (some ⟨(ρ id).g,0,none⟩) m m) cs m:=by
 have hl:=r.low id _ h (r.fits h).1
 refine⟨hm1,hm,h1,_,m,rfl,Nat.le_refl _,fun j u hu=>⟨_,rfl,hl,?_⟩⟩
 rw[addr_add,cell_of (r.arr id _ _ h),Nat.zero_add]
 exact hu
end Go.Sx
namespace Go.Ex
open Go Go.Sx Go.Proofs
theorem addAt_len{M:List (List Int)}{r c:Nat}{d:Int}:(addAt M r c d).length=M.length:=List.length_set ..
theorem putAt_len{M:List (List Int)}{r c:Nat}{d:Int}:(putAt M r c d).length=M.length:=List.length_set ..
/-- entries are small -/
def ZBd(M:List (List Int))(t:Int):Prop:=∀l∈M,∀z∈l,-t≤z∧z≤t
theorem ZBd.set{M:List (List Int)}{t t2:Int}{r c:Nat}{l:List Int}{z:Int}(h:ZBd M t)(ht:t≤t2)(hl:M[r]? =some l)(hz: -t2≤z∧z≤t2):ZBd (M.set r (l.set c z)) t2:=fun x hx y hy=>by
 rcases List.mem_or_eq_of_mem_set hx with hx|rfl
 ·have:=h x hx y hy;omega
 ·rcases List.mem_or_eq_of_mem_set hy with hy|rfl
  ·have:=h l (List.mem_of_getElem? hl) y hy;omega
  ·exact hz
theorem bars_len(f:Frm):∀i,(barsTo f i).length=3*f.nodes.length
 |0=>List.length_replicate ..
 |i+1=>by
  have h:=bars_len f i
  have key:∀k,(barTo f (barsTo f i) i k).length=3*f.nodes.length:=fun k=>by
   induction k with
   |zero=>exact h
   |succ k ih=>rw[barTo,addAt_len,addAt_len];exact ih
  exact key 3
theorem sups_len(f:Frm):∀i,(supsTo f i).length=3*f.nodes.length
 |0=>bars_len f _
 |i+1=>by rw[supsTo,putAt_len];exact sups_len f i
theorem bar_succ{f:Frm}{M:List (List Int)}{i k ka kb:Nat}{b:Int×Int×Rat}{d za zb:Int}{la lb:List Int}(hb:f.bars[i]? =some b)(ea:b.1=ka)(eb:b.2.1=kb)(hd:(barD f b).getD k 0=d)
  (hla:(barTo f M i k)[3*ka+k]? =some la) (hza:la[i]? =some za) (hlb:((barTo f M i k).set (3*ka+k) (la.set i (za+d)))[3*kb+k]? =some lb) (hzb:lb[i]? =some zb):
  ((barTo f M i k).set (3*ka+k) (la.set i (za+d))).set (3*kb+k) (lb.set i (zb-d))=barTo f M i (k+1):=by
 have h1:f.bars.getD i (0,0,0)=b:=by rw[List.getD,hb];rfl
 have e1:(3*b.1+(k:Int)).toNat=3*ka+k:=by rw[ea];omega
 have e2:(3*b.2.1+(k:Int)).toNat=3*kb+k:=by rw[eb];omega
 have ha:addAt (barTo f M i k) (3*ka+k) i d=(barTo f M i k).set (3*ka+k) (la.set i (za+d)):=by
  rw[addAt,show(barTo f M i k).getD (3*ka+k) []=la by rw[List.getD,hla];rfl,show la.getD i 0=za by rw[List.getD,hza];rfl]
 rw[barTo]
 simp only[h1,hd,e1,e2,ha]
 rw[addAt,show((barTo f M i k).set (3*ka+k) (la.set i (za+d))).getD (3*kb+k) []=lb by rw[List.getD,hlb];rfl,show lb.getD i 0=zb by rw[List.getD,hzb];rfl,Int.sub_eq_add_neg]
theorem sup_succ{f:Frm}{i ks:Nat}{s:Int×Int×Rat}{l:List Int}(hs:f.sups[i]? =some s)(es:3*s.1+s.2.1=ks)(hl:(supsTo f i)[ks]? =some l):(supsTo f i).set ks (l.set (f.bars.length+i) 1)=supsTo f (i+1):=by
 rw[supsTo,putAt]
 simp only[show f.sups.getD i (0,0,0)=s by rw[List.getD,hs];rfl,es,Int.toNat_natCast,show(supsTo f i).getD ks []=l by rw[List.getD,hl];rfl]
set_option maxHeartbeats 2000000 in
theorem sMatrix_c{S:Nat→Prop}{w:World}{vn vb vs:Value}{f:Frm}(hS:Old S w)(hf:FrameR w S vn vb vs f)(hok:FrmOk f):
  Con PG N.statics_matrix #[.agg #[vn,vb,vs]] w (Ret w fun v' w2=>ZMR w2 (Nw (fun _=>False) w w2) v' (matF f)∧ZBd (matF f) 800000000∧(∀l∈matF f,l.length=f.cols)∧(matF f).length=3*f.nodes.length):=by
 have hw:Bel w.heap.size w w:=Bel.refl
 obtain⟨an,cn,ab,cb,aq,cq,rfl,rfl,rfl,hmn,hmb,hms⟩:=hf.shape
 obtain⟨hn20,hb60,hs60⟩:=And.intro hok.n (And.intro hok.b hok.s)
 refine in_statics_matrix (by simp) ?_
 conv=>whnf
 refine⟨((3*f.nodes.length:Nat):Int),by rw[wrap64]<;>omega,?_⟩
 conv=>whnf
 obtain⟨m,hm⟩:∃m,3*f.nodes.length=m:=⟨_,rfl⟩
 rw[hm]
 refine⟨m,m,rfl,rfl,Nat.le_refl _,by omega,by omega,?_⟩
 conv=>whnf
 refine⟨Nat×List Value×World×Iv,fun z=>⟨[(1,.o (.p 0 0)),(3,.o (.s 1 0 m m)),(17,.o (.v (.int .i64 m))),(18,.o (.v (.int .i64 ((z.1:Nat):Int))))],[(1,.arr T.Lint (z.2.1++List.replicate (m-z.1) (.slice none 0 0))),(0,.box T.Frame [.v (.slice an f.nodes.length cn),.v (.slice ab f.bars.length cb),.v (.slice aq f.sups.length cq)])],2,z.2.2.2,z.2.2.1⟩,fun z=>m-z.1,
  fun z=>z.1≤m∧z.2.1.length=z.1∧Bel w.heap.size w z.2.2.1∧ZRws z.2.2.1 w.heap.size z.2.2.2 z.2.1 f.cols (List.replicate z.1 (List.replicate f.cols 0)),?_,?_⟩
 ·intro ρ w' r3
  exact⟨(0,[],w',[]),⟨Nat.zero_le _,rfl,hw.tr r3.bel,ZRws.nil⟩,Sub.gen [] r3 ⟨rfl,rfl,trivial⟩ ⟨rfl,rfl,rfl,rfl,trivial⟩ (by simp[ScH,Blk.scopd,At.sc]) (by simp[ScE,SV.sc,At.sc,initE]) (by rfl) (fun lo hi h=>h)⟩
 clear hw
 rintro⟨i,rv,w1,iv⟩ ⟨hi,hrl,hw,hE⟩
 dsimp only at hi hrl hw hE ⊢
 conv=>whnf
 refine BrS.mk (fun hib=>?_) (fun hib=>?_)
 ·have hib:i<m:=by simpa using hib
  conv=>whnf
  refine⟨((f.cols:Nat):Int),by rw[wrap64]<;>first|rfl|omega,?_⟩
  conv=>whnf
  refine⟨f.cols,f.cols,rfl,rfl,Nat.le_refl _,by unfold Frm.cols;omega,by unfold Frm.cols;omega,?_⟩
  conv=>whnf
  refine⟨⟨by omega,by omega⟩,?_⟩
  conv=>whnf
  refine opG_store hτ (id:=1) (id2:=2) (tH:=[(1,.arr T.Lint (rv++List.replicate (m-i) (.slice none 0 0))),(0,.box T.Frame [.v (.slice an f.nodes.length cn),.v (.slice ab f.bars.length cb),.v (.slice aq f.sups.length cq)])]) rfl rfl (by decide) rfl ⟨rfl,rfl,trivial⟩ rfl (fun ρ w' r=>?_)
  have hn:=(r.fits (id:=2) rfl).1
  have hrow:w'.ownsRow 0 T.int 1 (.slice (some ⟨(ρ 2).g,0,none⟩) f.cols f.cols) f.cols ((List.replicate f.cols (0:Int)).map fun z=>.int .i64 z):=
   ⟨by simp,.inr ⟨(ρ 2).g,f.cols,(List.replicate f.cols (Value.int .i64 0)).toArray,rfl,Nat.zero_le _,r.arr 2 _ _ rfl,Nat.le_refl _,by unfold Frm.cols maxLen;omega,by simp,by simp⟩⟩
  have hE2:=(hE.rel r).push (gx:=(ρ 2).g) (l:=List.replicate f.cols 0) (fun g hg e=>Rel.not r (oldF' _) hg 2 _ rfl hn e.symm) (r.low 2 _ rfl hn).1 (by simp) hrow
  rw[←List.replicate_succ']at hE2
  have hw2:=hw.tr r.bel
  clear hE hw r hrow hn
  generalize (ρ 2).g=gx at*
  generalize (gx,gx+1)::iv=iv2 at*
  conv=>whnf
  refine⟨by simp[hrl];omega,(rv++[.slice (some ⟨gx,0,none⟩) f.cols f.cols])++List.replicate (m-(i+1)) (.slice none 0 0),?_,?_⟩
  ·rw[Int.toNat_natCast,Nat.mul_one,Nat.zero_add]
   exact fill_app hrl hib
  conv=>whnf
  refine⟨((i+1:Nat):Int),by rw[wrap64]<;>omega,?_⟩
  conv=>whnf
  intro ρ3 w3 r3
  exact⟨(i+1,rv++[.slice (some ⟨gx,0,none⟩) f.cols f.cols],w3,_),⟨hib,by simp[hrl],hw2.tr r3.bel,hE2.rel r3⟩,Sub.gen [] r3 ⟨rfl,rfl,trivial⟩ ⟨rfl,rfl,rfl,rfl,trivial⟩ (by simp[ScH,Blk.scopd,At.sc]) (by simp[ScE,SV.sc,At.sc,initE]) (by rfl) (fun lo hi h=>h),by dsimp only;omega⟩
 have hib:i=m:=Nat.le_antisymm hi (by simpa using hib)
 subst hib
 have hE0:ZRws w1 w.heap.size iv rv f.cols (barsTo f 0):=by rw[barsTo,hm];exact hE
 have hbd0:ZBd (barsTo f 0) 0:=fun l hl z hz=>by
  rw[barsTo]at hl
  rw[List.eq_of_mem_replicate hl]at hz
  rw[List.eq_of_mem_replicate hz]
  exact⟨Int.le_refl _,Int.le_refl _⟩
 clear hE
 conv=>whnf
 refine⟨Nat×World×Iv,fun z=>⟨[(1,.o (.p 0 0)),(3,.o (.s 1 0 i i)),(34,.o (.v (.slice ab f.bars.length cb))),(35,.o (.v (.int .i64 f.bars.length))),(36,.o (.v (.int .i64 ((z.1:Nat):Int))))],[(1,.arr T.Lint rv),(0,.box T.Frame [.v (.slice an f.nodes.length cn),.v (.slice ab f.bars.length cb),.v (.slice aq f.sups.length cq)])],2,z.2.2,z.2.1⟩,fun z=>f.bars.length-z.1,
  fun z=>z.1≤f.bars.length∧Bel w.heap.size w z.2.1∧ZRws z.2.1 w.heap.size z.2.2 rv f.cols (barsTo f z.1)∧ZBd (barsTo f z.1) (12000000*z.1),?_,?_⟩
 ·intro ρ w' r3
  exact⟨(0,w',_),⟨Nat.zero_le _,hw.tr r3.bel,hE0.rel r3,hbd0⟩,Sub.gen [] r3 ⟨by simp;rfl,rfl,trivial⟩ ⟨rfl,rfl,rfl,rfl,rfl,trivial⟩ (by simp[ScH,Blk.scopd,At.sc]) (by simp[ScE,SV.sc,At.sc,initE]) (by rfl) (fun lo hi h=>h)⟩
 clear hw hE0 hbd0 hi
 rintro⟨j,w2,iv⟩ ⟨hj,hw,hE,hbd⟩
 dsimp only at hj hw hE hbd ⊢
 conv=>whnf
 refine BrS.mk (fun hjb=>?_) (fun hjb=>?_)
 ·have hjb:j<f.bars.length:=by simpa using hjb
  obtain⟨b,hb⟩:∃b,f.bars[j]? =some b:=⟨_,List.getElem?_eq_getElem hjb⟩
  obtain⟨hA,hB⟩:=hok.bar b (List.mem_of_getElem? hb)
  obtain⟨ka,pa,ea,hka,-,hna,⟨_,_⟩,⟨_,_⟩,⟨_,_⟩⟩:=hok.node hA.1 hA.2
  obtain⟨kb,pb,eb,hkb,-,hnb,⟨_,_⟩,⟨_,_⟩,⟨_,_⟩⟩:=hok.node hB.1 hB.2
  obtain⟨adb,cs,hab,hF,-,hlb⟩:=hf.bars.load (by decide) hb
  obtain⟨g0,g1,g2,g3,g4,g5,g6,g7,rfl,hF⟩:=hF
  conv=>whnf
  refine⟨adb,hab,⟨by omega,by omega⟩,?_⟩
  conv=>whnf
  refine⟨[.int .i64 b.1,.int .i64 b.2.1,.bool g0,.slice g1 g2 g3,.bool g4,.slice g5 g6 g7],rfl,fun ρ w' r j u hu=>?_,?_⟩
  ·obtain⟨k1,k2⟩:=hlb j u hu
   rw[Int.toNat_natCast,cell_of_heap (w:=w) (w2:=w') (by rw[addB,addB];exact(hw.tr r.bel).block _ (hS _ k1))]
   exact k2
  conv=>whnf
  refine callE_S (callE_con (Φ:=fun _ w' v w2=>v= .agg #[.int .i64 ((f.node b.2.1).1-(f.node b.1).1),.int .i64 ((f.node b.2.1).2.1-(f.node b.1).2.1),.int .i64 ((f.node b.2.1).2.2-(f.node b.1).2.2)]) (fun ρ w' r=>sDifference_c (S:=S) (fun g hg=>by have:=hS g hg;have:=r.baseLe;omega) (hf.keep fun g hg=>(hw.tr r.bel).block g (hS g hg)).nodes hok hA hB) ?_)
  rintro ρ wa1 v1 wb1 r he hb1 rfl
  replace hw:=hw.tr hb1
  replace hE:=hE.past (iv':=(wa1.heap.size,wb1.heap.size)::iv) r he fun x hx=>List.mem_cons_of_mem _ hx
  clear r he hb1 hF hlb
  generalize (wa1.heap.size,wb1.heap.size)::iv=iv1 at*
  rw[hna,hnb]
  have hbD:barD f b=[pb.1-pa.1,pb.2.1-pa.2.1,pb.2.2-pa.2.2]:=by rw[barD,hna,hnb]
  conv=>whnf
  refine⟨Nat×World×Iv,fun z=>⟨[(1,.o (.p 0 0)),(3,.o (.s 1 0 i i)),(5,.o (.v (.int .i64 ((j:Nat):Int)))),(6,.o (.p 2 0)),(43,.o (.v (.agg #[.int .i64 (pb.1-pa.1),.int .i64 (pb.2.1-pa.2.1),.int .i64 (pb.2.2-pa.2.2)]))),(34,.o (.v (.slice ab f.bars.length cb))),(35,.o (.v (.int .i64 f.bars.length))),(36,.o (.v (.int .i64 ((j:Nat):Int)))),(44,.o (.v (.int .i64 ((z.1:Nat):Int))))],[(2,.box T.Bar [.v (.int .i64 b.1),.v (.int .i64 b.2.1),.v (.bool g0),.v (.slice g1 g2 g3),.v (.bool g4),.v (.slice g5 g6 g7)]),(1,.arr T.Lint rv),(0,.box T.Frame [.v (.slice an f.nodes.length cn),.v (.slice ab f.bars.length cb),.v (.slice aq f.sups.length cq)])],3,z.2.2,z.2.1⟩,fun z=>3-z.1,
   fun z=>z.1≤3∧Bel w.heap.size w z.2.1∧ZRws z.2.1 w.heap.size z.2.2 rv f.cols (barTo f (barsTo f j) j z.1)∧ZBd (barTo f (barsTo f j) j z.1) (12000000*j+4000000*z.1),?_,?_⟩
  ·intro ρ w' r3
   exact⟨(0,w',_),⟨Nat.zero_le _,hw.tr r3.bel,hE.rel r3,hbd⟩,Sub.gen [] r3 ⟨rfl,rfl,rfl,trivial⟩ ⟨rfl,rfl,rfl,rfl,rfl,rfl,rfl,rfl,rfl,trivial⟩ (by simp[ScH,Blk.scopd,At.sc]) (by simp[ScE,SV.sc,At.sc,initE]) (by rfl) (fun lo hi h=>h)⟩
  clear hw hE hbd
  rintro⟨k,w3,iv⟩ ⟨hk,hw,hE,hbd⟩
  dsimp only at hk hw hE hbd ⊢
  conv=>whnf
  refine BrS.mk (fun hkb=>?_) (fun hkb=>?_)
  ·have hkb:k<3:=by have:=of_decide_eq_true hkb;omega
   obtain⟨d,hd⟩:∃d,(barD f b).getD k 0=d:=⟨_,rfl⟩
   have hdb: -2000000≤d∧d≤2000000:=by
    rw[←hd,hbD]
    rcases(show k=0∨k=1∨k=2 by omega)with rfl|rfl|rfl<;>simp[List.getD]<;>omega
   have hMl:(barTo f (barsTo f j) j k).length=3*f.nodes.length:=by rw[←hE.len];have:=hE.len;omega
   have hcols:f.cols=f.bars.length+f.sups.length:=rfl
   refine opS_indexT hτ rfl rfl rfl (fun _=>rfl) rfl ⟨by omega,by omega⟩ (u:=.int .i64 d) ?_ (fun ρ w4 r=>?_)
   ·rw[←hd,hbD,Int.toNat_natCast]
    rcases(show k=0∨k=1∨k=2 by omega)with rfl|rfl|rfl<;>rfl
   replace hw:=hw.tr r.bel
   replace hE:=hE.rel r
   clear r
   conv=>whnf
   obtain⟨la,hla⟩:∃l,(barTo f (barsTo f j) j k)[3*ka+k]? =some l:=⟨_,List.getElem?_eq_getElem (by first|omega|(rw [List.length_set];omega))⟩
   have hlaw:=hE.wid la (List.mem_of_getElem? hla)
   obtain⟨za,hza⟩:∃z,la[j]? =some z:=⟨_,List.getElem?_eq_getElem (by omega)⟩
   have hzab:=hbd la (List.mem_of_getElem? hla) za (List.mem_of_getElem? hza)
   obtain⟨va,hva⟩:∃v,rv[3*ka+k]? =some v:=⟨_,List.getElem?_eq_getElem (by have:=(List.getElem?_eq_some_iff.1 hla).1;rw[hE.len];exact this)⟩
   obtain⟨aa5,ca5,rfl⟩:=hE.form hva
   obtain⟨ada5,haa5,hxa1,hxa2⟩:=hE.load hva hla hza
   conv=>whnf
   refine⟨((3*ka:Nat):Int),by rw[ea,wrap64]<;>omega,?_⟩
   conv=>whnf
   refine⟨((3*ka+k:Nat):Int),by rw[wrap64]<;>omega,?_⟩
   conv=>whnf
   refine⟨⟨by omega,by omega⟩,?_⟩
   conv=>whnf
   refine⟨.slice aa5 f.cols ca5,by rw[Int.toNat_natCast,Nat.mul_one,Nat.zero_add];exact hva,?_⟩
   conv=>whnf
   refine⟨ada5,haa5,⟨by omega,by omega⟩,?_⟩
   conv=>whnf
   refine⟨.int .i64 za,fun ρ w' r=>?_,?_⟩
   ·rw[Int.toNat_natCast,cell_of_heap (w:=w4) (w2:=w') (by rw[addB];exact Rel.same r (oldF' _) hxa1)]
    exact hxa2
   conv=>whnf
   refine⟨za+d,by rw[wrap64]<;>omega,?_⟩
   conv=>whnf
   refine⟨ada5,haa5,⟨by omega,by omega⟩,?_⟩
   conv=>whnf
   intro ρ w' r
   obtain⟨g,hg,h1,h2,h3,h4⟩:=hE.store r (z:=za+d) hva hla (show j<f.cols by omega)
   rw[haa5]at hg
   injection hg with hg
   subst hg
   refine⟨h1,h2,h3,fun w5 hw5=>?_⟩
   obtain⟨k1,k2,k3,-,-⟩:=h4 w5 hw5
   replace hw:=(hw.tr r.bel).tr k2
   replace hbd:=hbd.set (r:=3*ka+k) (c:=j) (z:=za+d) (t2:=12000000*j+4000000*k+2000000) (by omega) hla (by omega)
   replace hE:=k1
   clear h1 h2 h3 h4 hw5 k1 k2 k3 r hxa1 hxa2 haa5
   obtain⟨lb,hlb⟩:∃l,((barTo f (barsTo f j) j k).set (3*ka+k) (la.set j (za+d)))[3*kb+k]? =some l:=⟨_,List.getElem?_eq_getElem (by first|omega|(rw [List.length_set];omega))⟩
   have hlbw:=hE.wid lb (List.mem_of_getElem? hlb)
   obtain⟨zb,hzb⟩:∃z,lb[j]? =some z:=⟨_,List.getElem?_eq_getElem (by omega)⟩
   have hzbb:=hbd lb (List.mem_of_getElem? hlb) zb (List.mem_of_getElem? hzb)
   obtain⟨vb,hvb⟩:∃v,rv[3*kb+k]? =some v:=⟨_,List.getElem?_eq_getElem (by have:=(List.getElem?_eq_some_iff.1 hlb).1;rw[hE.len];exact this)⟩
   obtain⟨ab5,cb5,rfl⟩:=hE.form hvb
   obtain⟨adb5,hab5,hxb1,hxb2⟩:=hE.load hvb hlb hzb
   conv=>whnf
   refine⟨((3*kb:Nat):Int),by rw[eb,wrap64]<;>omega,?_⟩
   conv=>whnf
   refine⟨((3*kb+k:Nat):Int),by rw[wrap64]<;>omega,?_⟩
   conv=>whnf
   refine⟨⟨by omega,by omega⟩,?_⟩
   conv=>whnf
   refine⟨.slice ab5 f.cols cb5,by rw[Int.toNat_natCast,Nat.mul_one,Nat.zero_add];exact hvb,?_⟩
   conv=>whnf
   refine⟨adb5,hab5,⟨by omega,by omega⟩,?_⟩
   conv=>whnf
   refine⟨.int .i64 zb,fun ρ w' r=>?_,?_⟩
   ·rw[Int.toNat_natCast,cell_of_heap (w:=w5) (w2:=w') (by rw[addB];exact Rel.same r (oldF' _) hxb1)]
    exact hxb2
   conv=>whnf
   refine⟨zb-d,by rw[wrap64]<;>omega,?_⟩
   conv=>whnf
   refine⟨adb5,hab5,⟨by omega,by omega⟩,?_⟩
   conv=>whnf
   intro ρ w' r
   obtain⟨g,hg,h1,h2,h3,h4⟩:=hE.store r (z:=zb-d) hvb hlb (show j<f.cols by omega)
   rw[hab5]at hg
   injection hg with hg
   subst hg
   refine⟨h1,h2,h3,fun w5 hw5=>?_⟩
   obtain⟨k1,k2,k3,-,-⟩:=h4 w5 hw5
   replace hw:=(hw.tr r.bel).tr k2
   replace hbd:=hbd.set (r:=3*kb+k) (c:=j) (z:=zb-d) (t2:=12000000*j+4000000*(k+1:Nat)) (by omega) hlb (by omega)
   replace hE:=k1
   clear h1 h2 h3 h4 hw5 k1 k2 k3 r hxb1 hxb2 hab5
   rw[bar_succ hb ea eb hd hla hza hlb hzb]at hE hbd
   conv=>whnf
   refine⟨((k+1:Nat):Int),by rw[wrap64]<;>omega,?_⟩
   conv=>whnf
   intro ρ3 w6 r3
   exact⟨(k+1,w6,_),⟨hkb,hw.tr r3.bel,hE.rel r3,hbd⟩,Sub.gen [] r3 ⟨rfl,rfl,rfl,trivial⟩ ⟨rfl,rfl,rfl,rfl,rfl,rfl,rfl,rfl,rfl,trivial⟩ (by simp[ScH,Blk.scopd,At.sc]) (by simp[ScE,SV.sc,At.sc,initE]) (by rfl) (fun lo hi h=>h),by dsimp only;omega⟩
  have hkb:k=3:=by have:=of_decide_eq_false hkb;omega
  subst hkb
  conv=>whnf
  refine⟨((j+1:Nat):Int),by rw[wrap64]<;>omega,?_⟩
  conv=>whnf
  intro ρ3 w6 r3
  exact⟨(j+1,w6,_),⟨hjb,hw.tr r3.bel,hE.rel r3,fun l hl z hz=>by have:=hbd l hl z hz;dsimp only;omega⟩,Sub.gen [] r3 ⟨rfl,rfl,trivial⟩ ⟨rfl,rfl,rfl,rfl,rfl,trivial⟩ (by simp[ScH,Blk.scopd,At.sc]) (by simp[ScE,SV.sc,At.sc,initE]) (by rfl) (fun lo hi h=>h),by dsimp only;omega⟩
 have hjb:j=f.bars.length:=Nat.le_antisymm hj (by simpa using hjb)
 subst hjb
 conv=>whnf
 refine⟨Nat×World×Iv,fun z=>⟨[(1,.o (.p 0 0)),(3,.o (.s 1 0 i i)),(79,.o (.v (.slice aq f.sups.length cq))),(80,.o (.v (.int .i64 f.sups.length))),(81,.o (.v (.int .i64 ((z.1:Nat):Int))))],[(1,.arr T.Lint rv),(0,.box T.Frame [.v (.slice an f.nodes.length cn),.v (.slice ab f.bars.length cb),.v (.slice aq f.sups.length cq)])],2,z.2.2,z.2.1⟩,fun z=>f.sups.length-z.1,
  fun z=>z.1≤f.sups.length∧Bel w.heap.size w z.2.1∧ZRws z.2.1 w.heap.size z.2.2 rv f.cols (supsTo f z.1)∧ZBd (supsTo f z.1) 800000000,?_,?_⟩
 ·intro ρ w' r3
  exact⟨(0,w',_),⟨Nat.zero_le _,hw.tr r3.bel,hE.rel r3,fun l hl z hz=>by have:=hbd l hl z hz;omega⟩,Sub.gen [] r3 ⟨rfl,rfl,trivial⟩ ⟨rfl,rfl,rfl,rfl,rfl,trivial⟩ (by simp[ScH,Blk.scopd,At.sc]) (by simp[ScE,SV.sc,At.sc,initE]) (by rfl) (fun lo hi h=>h)⟩
 clear hw hE hbd hj
 rintro⟨j,w2,iv⟩ ⟨hj,hw,hE,hbd⟩
 dsimp only at hj hw hE hbd ⊢
 conv=>whnf
 refine BrS.mk (fun hjb=>?_) (fun hjb=>?_)
 ·have hjb:j<f.sups.length:=by simpa using hjb
  obtain⟨s,hs⟩:∃b,f.sups[j]? =some b:=⟨_,List.getElem?_eq_getElem hjb⟩
  obtain⟨hA,hB⟩:=hok.sup s (List.mem_of_getElem? hs)
  obtain⟨ks,hks⟩:=Int.eq_ofNat_of_zero_le (show 0≤3*s.1+s.2.1 by omega)
  have hcols:f.cols=f.bars.length+f.sups.length:=rfl
  have hMl:=sups_len f j
  obtain⟨l,hl⟩:∃l,(supsTo f j)[ks]? =some l:=⟨_,List.getElem?_eq_getElem (by omega)⟩
  have hlw:=hE.wid l (List.mem_of_getElem? hl)
  obtain⟨v,hv⟩:∃v,rv[ks]? =some v:=⟨_,List.getElem?_eq_getElem (by rw[hE.len];omega)⟩
  obtain⟨a5,c5,rfl⟩:=hE.form hv
  obtain⟨z0,hz0⟩:∃z,l[f.bars.length+j]? =some z:=⟨_,List.getElem?_eq_getElem (by omega)⟩
  obtain⟨ad5,ha5,-,-⟩:=hE.load hv hl hz0
  obtain⟨adb,cs,hab,hF,-,hlb⟩:=hf.sups.load (by decide) hs
  obtain⟨g0,g1,g2,g3,g4,g5,g6,g7,rfl,hF⟩:=hF
  conv=>whnf
  refine⟨adb,hab,⟨by omega,by omega⟩,?_⟩
  conv=>whnf
  refine⟨[.int .i64 s.1,.int .i64 s.2.1,.bool g0,.slice g1 g2 g3,.bool g4,.slice g5 g6 g7],rfl,fun ρ w' r j u hu=>?_,?_⟩
  ·obtain⟨k1,k2⟩:=hlb j u hu
   rw[Int.toNat_natCast,cell_of_heap (w:=w) (w2:=w') (by rw[addB,addB];exact(hw.tr r.bel).block _ (hS _ k1))]
   exact k2
  conv=>whnf
  refine drawn_of_pi hτ hmix [.x 0,.x 1,.x 2,.x 3,.x 4,.x 5,.x 6,.x 7,.x 8,.x 9,.x 10,.x 11,.x 12,.x 13,.x 14,.x 15] (by kernel_rfl) (by kernel_rfl) ?_
  conv=>whnf
  refine⟨3*s.1,by rw[wrap64]<;>omega,?_⟩
  conv=>whnf
  refine⟨((ks:Nat):Int),by rw[wrap64]<;>omega,?_⟩
  conv=>whnf
  refine⟨⟨by omega,by omega⟩,?_⟩
  conv=>whnf
  refine⟨.slice a5 f.cols c5,by rw[Int.toNat_natCast,Nat.mul_one,Nat.zero_add];exact hv,?_⟩
  conv=>whnf
  refine⟨((f.bars.length+j:Nat):Int),by rw[wrap64]<;>omega,?_⟩
  conv=>whnf
  refine⟨ad5,ha5,⟨by omega,by omega⟩,?_⟩
  conv=>whnf
  intro ρ w' r
  obtain⟨g,hg,h1,h2,h3,h4⟩:=hE.store r (z:=1) hv hl (show f.bars.length+j<f.cols by omega)
  rw[ha5]at hg
  injection hg with hg
  subst hg
  refine⟨h1,h2,h3,fun w5 hw5=>?_⟩
  obtain⟨k1,k2,k3,-,-⟩:=h4 w5 hw5
  replace hw:=(hw.tr r.bel).tr k2
  have hbd2:=hbd.set (r:=ks) (c:=f.bars.length+j) (z:=1) (t2:=800000000) (by omega) hl (by omega)
  rw[sup_succ hs hks hl]at k1 hbd2
  clear h1 h2 h3 h4 hw5 k2 k3 r hE
  conv=>whnf
  refine⟨((j+1:Nat):Int),by rw[wrap64]<;>omega,?_⟩
  conv=>whnf
  intro ρ3 w6 r3
  exact⟨(j+1,w6,_),⟨hjb,hw.tr r3.bel,k1.rel r3,hbd2⟩,Sub.gen [] r3 ⟨rfl,rfl,trivial⟩ ⟨rfl,rfl,rfl,rfl,rfl,trivial⟩ (by simp[ScH,Blk.scopd,At.sc]) (by simp[ScE,SV.sc,At.sc,initE]) (by rfl) (fun lo hi h=>h),by dsimp only;omega⟩
 have hjb:j=f.sups.length:=Nat.le_antisymm hj (by simpa using hjb)
 subst hjb
 conv=>whnf
 intro ρe we re
 have hE2:=hE.rel re
 have hMl:=sups_len f f.sups.length
 have hrl2:=hE.len
 refine⟨_,rfl,hw.tr re.bel,⟨rv,?_,hE.len,fun i u x k1 k2=>?_⟩,hbd,hE.wid,by rw[←hm];exact hMl⟩
 ·rw[show (matF f).length=rv.length from hE.len.symm]
  have h5:=re.arrSeqM (id:=1) (sz:=1) (m:=rv.length) rfl (by simp) (by unfold maxLen;omega) hE.one
  rw[show (i:Nat)=rv.length by omega]
  exact h5.weak fun g hg=>.inr hg
 ·obtain⟨a,c,rfl⟩:=hE.form k1
  have hxl:=hE.wid x (List.mem_of_getElem? k2)
  refine⟨by rw[hxl];unfold Frm.cols maxLen;omega,by simp,fun v hv=>by obtain⟨z,_,rfl⟩:=List.mem_map.1 hv;rfl,a,c,by rw[hxl],?_,fun t v hv=>?_⟩
  ·rw[hxl];obtain⟨a2,c2,e,h⟩:=row_form (hE.row i _ x k1 k2);injection e with e1 e2 e3;omega
  ·rw[List.getElem?_map]at hv
   cases ht:x[t]? with
   |none=>rw[ht]at hv;cases hv
   |some z=>
    rw[ht]at hv
    simp only[Option.map_some,Option.some.injEq]at hv
    subst hv
    obtain⟨ad,h1,h2,h3⟩:=hE2.load k1 k2 ht
    exact⟨ad,h1,Cv.nw h2 re,by rw[Nat.mul_one]at h3;exact h3⟩
end Go.Ex

/- The matrix of a frame, with fractions. Printed by program. No condition but sizes. -/
namespace Go.Ex
open Go Go.Sx Go.Proofs

theorem tabF_length(f:Frm):(tabF f).length=3*f.nodes.length:=by rw[tabF,List.length_map];exact sups_len f _
theorem rl_smallZ{z:Int}(h1: -2000000000≤z)(h2:z≤2000000000):rl (z:Rat)≤1:=by
 have e1:((z:Rat)).num=z:=rfl
 have e2:((z:Rat)).den=1:=rfl
 rw[rl,e1,e2]
 have a1:ln z.natAbs≤1:=ln_le.2 (by rw[wt_two];omega)
 have a2:ln 1≤1:=by decide
 omega
set_option maxHeartbeats 1000000 in
theorem sTableOf_c{S:Nat→Prop}{w:World}{vn vb vs:Value}{f:Frm}(hS:Old S w)(hf:FrameR w S vn vb vs f)(hok:FrmOk f):
  Con PG N.statics_tableOf #[.agg #[vn,vb,vs]] w (Ret w fun v' w2=>(∃vr,v'= .agg #[vr,.int .i64 f.cols]∧RatMC w2 (Nw (fun _=>False) w w2) vr (tabF f))∧Len f.cols (tabF f)∧Ht (tabF f) 2):=by
 have hw:Bel w.heap.size w w:=Bel.refl
 obtain⟨an,cn,ab,cb,aq,cq,rfl,rfl,rfl,hmn,hmb,hms⟩:=hf.shape
 obtain⟨hn20,hb60,hs60⟩:=And.intro hok.n (And.intro hok.b hok.s)
 have hcols:f.cols=f.bars.length+f.sups.length:=rfl
 refine in_statics_tableOf (by simp) ?_
 conv=>whnf
 refine⟨((f.cols:Nat):Int),by rw[wrap64]<;>first|rfl|omega,?_⟩
 conv=>whnf
 refine callE_S (callE_con (Φ:=fun _ w' v w2=>ZMR w2 (Nw (fun _=>False) w' w2) v (matF f)∧ZBd (matF f) 800000000∧(∀l∈matF f,l.length=f.cols)∧(matF f).length=3*f.nodes.length) (fun ρ w' r=>sMatrix_c (S:=S) (fun g hg=>by have:=hS g hg;have:=r.baseLe;omega) (hf.keep fun g hg=>(hw.tr r.bel).block g (hS g hg)) hok) ?_)
 rintro ρ wa1 v1 wb1 r he hb1 ⟨k1,hbd,hwid,hml⟩
 replace hw:=hw.tr hb1
 have hM:=ZMR.weak k1 fun g hg=>hg.got (B:=w.heap.size) (S:=fun _=>False) r.baseLe (iv:=(wa1.heap.size,wb1.heap.size)::[]) List.mem_cons_self
 clear r he hb1 k1
 generalize (wa1.heap.size,wb1.heap.size)::[]=iv1 at*
 obtain⟨am,cm,rfl,hcm,hmm⟩:=SlicesR.shape hM
 unfold maxLen at hmm
 conv=>whnf
 refine⟨Nat×List Value×World×Iv,fun z=>⟨[(20,.o (.v (.int .i64 ((z.1:Nat):Int)))),(2,.o (.p 1 0)),(3,.o (.p 2 0)),(18,.o (.v (.slice am (matF f).length cm))),(19,.o (.v (.int .i64 (matF f).length)))],[(2,.box T.s_table [.w 3 z.2.1.length,.v (.int .i64 ((f.cols:Nat):Int))]),(3,.vec T.LRat 1 z.2.1),(1,.box T.s_table [.v (.slice none 0 0),.v (.int .i64 0)])],4,z.2.2.2,z.2.2.1⟩,fun z=>(matF f).length-z.1,
  fun z=>z.1≤(matF f).length∧Bel w.heap.size w z.2.2.1∧ZMR z.2.2.1 (Cv (fun _=>False) w.heap.size z.2.2.2) (.slice am (matF f).length cm) (matF f)∧RowsC z.2.2.1 (Cv (fun _=>False) w.heap.size z.2.2.2) z.2.1 ((tabF f).take z.1),?_,?_⟩
 ·intro ρ w' r
  exact⟨(0,[],w',_),⟨Nat.zero_le _,hw.tr r.bel,hM.keep fun g hg=>Rel.same r (oldF w) hg,by simp[RowsC]⟩,Sub.nilB 2 0 T.LRat 1 rfl rfl (by simp[ScE,SV.sc,At.sc,initE]) r fun ρ1 r1=>Sub.gen [] r1 ⟨rfl,rfl,rfl,trivial⟩ ⟨rfl,rfl,rfl,rfl,rfl,trivial⟩ (by simp[ScH,Blk.scopd,At.sc]) (by simp[ScE,SV.sc,At.sc]) (by rfl) (fun lo hi h=>h)⟩
 clear hw hM
 rintro⟨k,rv,w1,iv⟩ ⟨hk,hw,hM,hK⟩
 dsimp only at hk hw hM hK ⊢
 have hrl:rv.length=k:=by rw[hK.1,List.length_take,tabF,List.length_map];omega
 conv=>whnf
 refine BrS.mk (fun hkb=>?_) (fun hkb=>?_)
 ·have hkb:k<(matF f).length:=by simpa using hkb
  obtain⟨l,hl⟩:∃l,(matF f)[k]? =some l:=⟨_,List.getElem?_eq_getElem hkb⟩
  have hlw:=hwid l (List.mem_of_getElem? hl)
  have hnext:(tabF f).take (k+1)=(tabF f).take k++[wholesF l]:=by rw[List.take_add_one,show(tabF f)[k]? =some (wholesF l) by rw[tabF,List.getElem?_map,hl];rfl];rfl
  obtain⟨adm,um,ham,hLm,km1,km2⟩:=SlicesR.load hM hl
  obtain⟨a0,c0,rfl,hc0,-⟩:=ZsR.shape hLm
  conv=>whnf
  refine⟨adm,ham,⟨by omega,by omega⟩,?_⟩
  conv=>whnf
  refine⟨.slice a0 l.length c0,fun ρ w' r=>?_,?_⟩
  ·rw[Int.toNat_natCast,cell_of_heap (w:=w1) (w2:=w') (by rw[addB];exact Rel.same r (oldF w) km1)]
   exact km2
  conv=>whnf
  refine⟨l.length,l.length,rfl,rfl,Nat.le_refl _,by omega,by omega,?_⟩
  conv=>whnf
  refine⟨Nat×Nat×World×Iv,fun z=>⟨[(6,.o (.v (.slice (some ⟨z.2.1,0,none⟩) l.length l.length))),(5,.o (.v (.slice a0 l.length c0))),(27,.o (.v (.slice a0 l.length c0))),(28,.o (.v (.int .i64 l.length))),(29,.o (.v (.int .i64 ((z.1:Nat):Int)))),(20,.o (.v (.int .i64 ((k:Nat):Int)))),(2,.o (.p 1 0)),(3,.o (.p 2 0)),(18,.o (.v (.slice am (matF f).length cm))),(19,.o (.v (.int .i64 (matF f).length)))],[(2,.box T.s_table [.w 3 rv.length,.v (.int .i64 ((f.cols:Nat):Int))]),(3,.vec T.LRat 1 rv),(1,.box T.s_table [.v (.slice none 0 0),.v (.int .i64 0)])],5,z.2.2.2,z.2.2.1⟩,fun z=>l.length-z.1,
   fun z=>z.1≤l.length∧Bel w.heap.size w z.2.2.1∧ZMR z.2.2.1 (Bs (fun _=>False) w.heap.size z.2.2.2 (.slice (some ⟨z.2.1,0,none⟩) l.length l.length)) (.slice am (matF f).length cm) (matF f)∧ZsR z.2.2.1 (Bs (fun _=>False) w.heap.size z.2.2.2 (.slice (some ⟨z.2.1,0,none⟩) l.length l.length)) (.slice a0 l.length c0) l∧RowsC z.2.2.1 (Bs (fun _=>False) w.heap.size z.2.2.2 (.slice (some ⟨z.2.1,0,none⟩) l.length l.length)) rv ((tabF f).take k)∧FillX z.2.2.1 (fun _=>False) w.heap.size z.2.2.2 (.slice (some ⟨z.2.1,0,none⟩) l.length l.length) l.length z.1 (wholesF l),?_,?_⟩
  ·intro ρ w' r
   have hf:=FillX.give (S:=fun _=>False) (n:=l.length) r (id:=4) rfl (by unfold maxLen;omega) (wholesF l)
   have hbs:∀g,Cv (fun _=>False) w.heap.size iv g→Bs (fun _=>False) w.heap.size (((ρ 4).g,(ρ 4).g+1)::iv) (.slice (some ⟨(ρ 4).g,0,none⟩) l.length l.length) g:=fun g hg=>⟨hg.mono fun p hp=>List.mem_cons_of_mem _ hp,fun e=>Rel.not r (oldF w) hg 4 _ rfl (r.fits (id:=4) rfl).1 (by injection e)⟩
   exact⟨(0,(ρ 4).g,w',((ρ 4).g,(ρ 4).g+1)::iv),⟨Nat.zero_le _,hw.tr r.bel,(hM.keep fun g hg=>Rel.same r (oldF w) hg).weak hbs,(hLm.keep fun g hg=>Rel.same r (oldF w) hg).weak hbs,RowsC.weak (hK.rel r (oldF w)) hbs,hf⟩,
    Sub.give r (id:=4) (t:=6) rfl rfl ⟨rfl,rfl,rfl,trivial⟩ rfl ⟨rfl,rfl,rfl,rfl,rfl,rfl,rfl,rfl,rfl,trivial⟩ (by simp[ScE,SV.sc,At.sc])⟩
  clear hw hM hK hLm
  rintro⟨i,gx,w2,iv⟩ ⟨hi,hw,hM,hLm,hK,hX⟩
  dsimp only at hi hw hM hLm hK hX ⊢
  conv=>whnf
  refine BrS.mk (fun hib=>?_) (fun hib=>?_)
  ·have hib:i<l.length:=by simpa using hib
   obtain⟨z,hz⟩:∃z,l[i]? =some z:=⟨_,List.getElem?_eq_getElem hib⟩
   have hzb:=hbd l (List.mem_of_getElem? hl) z (List.mem_of_getElem? hz)
   obtain⟨adz,haz,kz1,kz2⟩:=hLm.at hz
   conv=>whnf
   refine⟨adz,haz,⟨by omega,by omega⟩,?_⟩
   conv=>whnf
   refine⟨.int .i64 z,fun ρ w' r=>?_,?_⟩
   ·rw[Int.toNat_natCast,cell_of_heap (w:=w2) (w2:=w') (by rw[addB];exact Rel.same r (oldF w) kz1.1)]
    exact kz2
   conv=>whnf
   refine callE_S (callE_con (Φ:=fun _ w' v w2=>RatC w2 (Nw (fun _=>False) w' w2) v (z:Rat)) (fun ρ w' r=>sWhole_c z w' (by omega) (by omega)) ?_)
   rintro ρ wa3 v3 wb3 r he hb1 hn2
   replace hw:=hw.tr hb1
   have hbs:∀g,Bs (fun _=>False) w.heap.size iv (.slice (some ⟨gx,0,none⟩) l.length l.length) g→Bs (fun _=>False) w.heap.size ((wa3.heap.size,wb3.heap.size)::iv) (.slice (some ⟨gx,0,none⟩) l.length l.length) g:=fun g hg=>Bs.mono (fun x hx=>List.mem_cons_of_mem _ hx) hg
   have hbk:∀g,Bs (fun _=>False) w.heap.size iv (.slice (some ⟨gx,0,none⟩) l.length l.length) g→wb3.heap[g]? =w2.heap[g]? :=fun g hg=>(he.block g (Rel.old r (oldF w) g hg.1)).trans (Bs.same r (oldF w) g hg)
   replace hM:=(hM.keep hbk).weak hbs
   replace hLm:=(hLm.keep hbk).weak hbs
   replace hK:=RowsC.weak (RowsC.keep hK hbk) hbs
   have hd:=hn2.weak (S':=Bs (fun _=>False) w.heap.size ((wa3.heap.size,wb3.heap.size)::iv) (.slice (some ⟨gx,0,none⟩) l.length l.length)) fun g hg=>hg.elim (fun h=>h.elim) fun h=>⟨.inr ⟨by have:=r.baseLe;omega,_,_,List.mem_cons_self,h.1,h.2⟩,fun e=>by have:=Rel.old r (oldF w) g (hX.new g e);omega⟩
   replace hX:=hX.past (iv':=(wa3.heap.size,wb3.heap.size)::iv) r (oldF w) he fun x hx=>List.mem_cons_of_mem _ hx
   clear r he hb1 hn2 hbs hbk
   generalize (wa3.heap.size,wb3.heap.size)::iv=iv3 at*
   obtain⟨s3_0,s3_1,s3_2,s3_3,s3_4,s3_5,s3_6,s3_7,rfl⟩:=hd.shape
   conv=>whnf
   refine⟨⟨gx,0,none⟩,rfl,⟨by omega,by omega⟩,?_⟩
   conv=>whnf
   intro ρ w' r
   obtain⟨g,hg,h1,h2,h3,h4⟩:=hX.store (j:=i) hib (by rw[wholesF,List.getElem?_map,hz];rfl) hd r (oldF w)
   injection hg with hg
   injection hg with hg
   subst hg
   refine⟨h1,h2,h3,fun w5 hw5=>?_⟩
   obtain⟨k1,k2,k3,k4⟩:=h4 w5 hw5
   have hw2:=(hw.tr r.bel).tr k3
   have hkk:=Bs.kept (v:=(.slice (some ⟨gx,0,none⟩) l.length l.length)) r (oldF w) k2 fun g e=>e
   have hM2:=hM.keep hkk
   have hLm2:=hLm.keep hkk
   have hK2:=RowsC.keep hK hkk
   clear hX hK hM hLm hw h1 h2 h3 h4 hw5 k2 k3 k4 r hd hkk
   conv=>whnf
   refine⟨((i+1:Nat):Int),by rw[wrap64]<;>omega,?_⟩
   conv=>whnf
   intro ρ3 w6 r3
   exact⟨(i+1,gx,w6,_),⟨hib,hw2.tr r3.bel,hM2.keep (Bs.same r3 (oldF w)),hLm2.keep (Bs.same r3 (oldF w)),RowsC.keep hK2 (Bs.same r3 (oldF w)),k1.rel r3 (oldF w)⟩,Sub.gen [] r3 ⟨rfl,rfl,rfl,trivial⟩ ⟨rfl,rfl,rfl,rfl,rfl,rfl,rfl,rfl,rfl,rfl,trivial⟩ (by simp[ScH,Blk.scopd,At.sc]) (by simp[ScE,SV.sc,At.sc]) (by rfl) (fun lo hi h=>h),by dsimp only;omega⟩
  have hib:i=l.length:=Nat.le_antisymm hi (by simpa using hib)
  rw[hib]at hX
  have hX2:=(hX.done (by simp[wholesF])).c
  replace hK:=(RowsC.weak hK fun g hg=>hg.1).push (u:=(.slice (some ⟨gx,0,none⟩) l.length l.length)) (x:=wholesF l) rfl (by rw[show l.length=(wholesF l).length by simp[wholesF]]at hX2 ⊢;exact hX2)
  rw[←hnext]at hK
  replace hM:=hM.weak fun g hg=>hg.1
  clear hX hX2 hLm
  conv=>whnf
  refine .inl ?_
  conv=>whnf
  refine⟨by simp,by omega,by unfold maxLen;omega,?_⟩
  conv=>whnf
  refine⟨((k+1:Nat):Int),by rw[wrap64]<;>omega,?_⟩
  conv=>whnf
  intro ρ3 w3 r3
  exact⟨(k+1,rv++[(.slice (some ⟨gx,0,none⟩) l.length l.length)],w3,_),⟨hkb,hw.tr r3.bel,hM.keep fun g hg=>Rel.same r3 (oldF w) hg,hK.rel r3 (oldF w)⟩,Sub.gen [(3,6)] r3 ⟨by dsimp only;rw[List.length_append,List.length_singleton];rfl,rfl,rfl,trivial⟩ ⟨rfl,rfl,rfl,rfl,rfl,trivial⟩ (by simp[ScH,Blk.scopd,At.sc]) (by simp[ScE,SV.sc,At.sc]) (by rfl) (fun lo hi h=>h),by dsimp only;omega⟩
 have hkb:k=(matF f).length:=Nat.le_antisymm hk (by simpa using hkb)
 rw[List.take_of_length_le (by rw[tabF,List.length_map];omega)]at hK
 conv=>whnf
 intro ρe we re
 refine⟨_,rfl,hw.tr re.bel,⟨_,rfl,rv,?_,hK.1,fun i u x k1 k2=>RatsC.weak (RatsC.rel (hK.2.2 i u x k1 k2) re (oldF w)) fun g hg=>Cv.nw hg re⟩,fun x hx=>?_,fun x hx q hq=>?_⟩
 ·rw[←hK.1]
  exact(re.vecSeq (id:=3) (sz:=1) (m:=rv.length) rfl (by simp) (by unfold maxLen;omega) (by decide) hK.2.1).weak fun g hg=>.inr hg
 ·obtain⟨l,hl,rfl⟩:=List.mem_map.1 hx
  rw[wholesF,List.length_map]
  exact hwid l hl
 ·obtain⟨l,hl,rfl⟩:=List.mem_map.1 hx
  obtain⟨z,hz,rfl⟩:=List.mem_map.1 hq
  have:=hbd l hl z hz
  have:=rl_smallZ (z:=z) (by omega) (by omega)
  omega
end Go.Ex
