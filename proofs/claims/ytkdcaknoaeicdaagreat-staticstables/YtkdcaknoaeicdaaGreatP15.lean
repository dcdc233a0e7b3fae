/- A part of the proof: texts X153 to X155. Each tells its conditions in its theorems. -/
import Derived.Test.YtkdcaknoaeicdaaGreatP14
/- A table's check and value. Printed by program. No condition but sizes. -/
namespace Go.Ex
open Go Go.Sx Go.Proofs

theorem rs_le_iff{p q:Rat}:rs (p-q)≤0↔p≤q:=by
 rw[←Int.not_lt,rs_sub_pos,Rat.not_lt]
theorem rs_ge_iff{p q:Rat}:0≤rs (p-q)↔q≤p:=by
 rw[←Int.not_lt,rs_sub_neg,Rat.not_lt]
theorem sCheckTable_c{S:Nat→Prop}{w:World}{a:Option Addr}{c:Nat}{l:List (Rat×Rat)}(hS:Old S w)(hm:l.length≤maxLen)(hl:l.length≤100→StepsL w S (.slice a l.length c) l):Con PG N.statics_checkTable #[.slice a l.length c] w (Ret w fun v' _=>v'= .int .i64 (errT l)):=by
 have hw:Bel w.heap.size w w:=Bel.refl
 unfold maxLen at hm
 refine in_statics_checkTable (by simp) ?_
 conv=>whnf
 refine BrS.mk (fun h0=>?_) (fun h0=>?_)
 ·have h0:l.length=0:=by have h0:=eq_of_beq h0;omega
  conv=>whnf
  intro ρe we re
  exact⟨_,rfl,hw.tr re.bel,by show Value.int .i64 _=_;rw[errT,if_pos h0]⟩
 have h0:l.length≠0:=by intro h;simp[h]at h0
 conv=>whnf
 refine BrS.mk (fun h1=>?_) (fun h1=>?_)
 ·have h1:=of_decide_eq_true h1
  conv=>whnf
  intro ρe we re
  exact⟨_,rfl,hw.tr re.bel,by show Value.int .i64 _=_;rw[errT,if_neg h0,if_pos (by omega)]⟩
 have h1:=of_decide_eq_false h1
 replace hl:=hl (by omega)
 conv=>whnf
 refine⟨Nat×World×Iv,fun z=>⟨[(0,.o (.v (.slice a l.length c))),(3,.o (.v (.int .i64 ((z.1:Nat):Int))))],[],0,z.2.2,z.2.1⟩,fun z=>l.length-z.1,
  fun z=>(1≤z.1∧z.1≤l.length)∧Bel w.heap.size w z.2.1∧errT l=firstE stpE (l.take z.1) (l.drop z.1),?_,?_⟩
 ·intro ρ w' r3
  exact⟨(1,w',[]),⟨⟨Nat.le_refl _,by omega⟩,hw.tr r3.bel,by rw[errT,if_neg h0,if_neg (by omega)]⟩,Sub.gen [] r3 trivial ⟨rfl,rfl,trivial⟩ (by simp[ScH,Blk.scopd,At.sc]) (by simp[ScE,SV.sc,At.sc,initE]) (by rfl) (fun lo hi h=>h)⟩
 clear hw
 rintro⟨i,w1,iv⟩ ⟨⟨hi1,hi⟩,hw,hE⟩
 dsimp only at hi1 hi hw hE ⊢
 conv=>whnf
 refine BrS.mk (fun hib=>?_) (fun hib=>?_)
 ·have hib:i<l.length:=by simpa using hib
  obtain⟨q,hq⟩:∃q,l[i]? =some q:=⟨_,List.getElem?_eq_getElem hib⟩
  obtain⟨m,hm1⟩:∃m,i=m+1:=⟨i-1,by omega⟩
  obtain⟨p,hp⟩:∃p,l[m]? =some p:=⟨_,List.getElem?_eq_getElem (by omega)⟩
  have hse:stpE (l.take i) q=if q.1≤p.1 then 10 else 0:=by rw[hm1];exact stpE_at hp q
  obtain⟨adx,csx,hax,hFx,-,hlx⟩:=hl.load (by decide) hq
  obtain⟨b0x,a0x,n0x,c0x,b1x,a1x,n1x,c1x,b2x,a2x,n2x,c2x,b3x,a3x,n3x,c3x,rfl,hAx,hVx⟩:=hFx
  obtain⟨ady,csy,hay,hFy,-,hly⟩:=hl.load (by decide) hp
  obtain⟨b0y,a0y,n0y,c0y,b1y,a1y,n1y,c1y,b2y,a2y,n2y,c2y,b3y,a3y,n3y,c3y,rfl,hAy,hVy⟩:=hFy
  conv=>whnf
  refine drawn_of_pi hτ hmix [.x 0,.x 1,.x 2,.x 3,.x 4,.x 5,.x 6,.x 7,.x 8,.x 9,.x 10,.x 11,.x 12] (by kernel_rfl) (by kernel_rfl) ?_
  conv=>whnf
  refine⟨adx,hax,⟨by omega,by omega⟩,?_⟩
  conv=>whnf
  refine⟨[.bool b0x,.slice a0x n0x c0x,.bool b1x,.slice a1x n1x c1x],rfl,fun ρ w' r j u hu=>?_,?_⟩
  ·have hj4:=(List.getElem?_eq_some_iff.1 hu).1
   obtain⟨k1,k2⟩:=hlx (0+j) u (by rcases j with _|_|_|_|j<;>first|exact hu|(have:j+4<4:=hj4;omega))
   rw[cell_of_heap (w:=w) (w2:=w') (by simp only[addB];exact(hw.tr r.bel).block _ (hS _ k1))]
   simp only[Int.toNat_natCast,Int.toNat_zero,Nat.zero_mul,addA]at k2 ⊢
   first|exact k2|(rw [←k2];congr 2;omega)
  conv=>whnf
  refine⟨(m:Int),by rw[wrap64]<;>omega,?_⟩
  conv=>whnf
  refine⟨ady,hay,⟨by omega,by omega⟩,?_⟩
  conv=>whnf
  refine⟨[.bool b0y,.slice a0y n0y c0y,.bool b1y,.slice a1y n1y c1y],rfl,fun ρ w' r j u hu=>?_,?_⟩
  ·have hj4:=(List.getElem?_eq_some_iff.1 hu).1
   obtain⟨k1,k2⟩:=hly (0+j) u (by rcases j with _|_|_|_|j<;>first|exact hu|(have:j+4<4:=hj4;omega))
   rw[cell_of_heap (w:=w) (w2:=w') (by simp only[addB];exact(hw.tr r.bel).block _ (hS _ k1))]
   simp only[Int.toNat_natCast,Int.toNat_zero,Nat.zero_mul,addA]at k2 ⊢
   first|exact k2|(rw [←k2];congr 2;omega)
  conv=>whnf
  refine callE_con (Φ:=fun _ w' v w2=>v= .int .i64 (rs (q.1-p.1))) (fun ρ w' r=>vCmp_c (fun g hg=>by have:=hS g hg;have:=r.baseLe;omega) (hAx.1.v.keep fun g hg=>(hw.tr r.bel).block g (hS g hg)) (hAy.1.v.keep fun g hg=>(hw.tr r.bel).block g (hS g hg))) ?_
  rintro ρ wa1 v1 wb1 r he hb rfl
  replace hw:=hw.tr hb
  clear r he hb
  generalize (wa1.heap.size,wb1.heap.size)::iv=iv1 at*
  obtain⟨cf,hcf⟩:∃c,rs (q.1-p.1)=c:=⟨_,rfl⟩
  rw[hcf]
  conv=>whnf
  refine BrS.mk (fun hd=>?_) (fun hd=>?_)
  ·have hd:q.1≤p.1:=by have:=of_decide_eq_true hd;rw[←rs_le_iff];omega
   conv=>whnf
   intro ρe we re
   exact⟨_,rfl,hw.tr re.bel,by show Value.int .i64 _=_;rw[hE,firstE_ret hq (by rw[hse,if_pos hd]) (by decide)]⟩
  have hd:¬q.1≤p.1:=by have:=of_decide_eq_false hd;rw[←rs_le_iff];omega
  rw[firstE_step hq (by rw[hse,if_neg hd])]at hE
  conv=>whnf
  refine⟨((i+1:Nat):Int),by rw[wrap64]<;>omega,?_⟩
  conv=>whnf
  intro ρ3 w6 r3
  exact⟨(i+1,w6,_),⟨⟨by dsimp only;omega,hib⟩,hw.tr r3.bel,hE⟩,Sub.gen [] r3 trivial ⟨rfl,rfl,trivial⟩ (by simp[ScH,Blk.scopd,At.sc]) (by simp[ScE,SV.sc,At.sc,initE]) (by rfl) (fun lo hi h=>h),by dsimp only;omega⟩
 have hib:i=l.length:=Nat.le_antisymm hi (by simpa using hib)
 rw[firstE_end (by omega)]at hE
 conv=>whnf
 intro ρe we re
 exact⟨_,rfl,hw.tr re.bel,by show Value.int .i64 _=_;rw[hE]⟩
set_option maxHeartbeats 1000000 in
theorem sValue_c{S:Nat→Prop}{w:World}{v u:Value}{l:List (Rat×Rat)}{x:Rat}(hS:Old S w)(hl:StepsL w S v l)(hx:RatL w S u x)(hxs:rl x≤3)(h0:l≠[]):Con PG N.statics_value #[v,u] w (Ret w fun v' w2=>RatC w2 (Nw (fun _=>False) w w2) v' (valF x l)):=by
 have hw:Bel w.heap.size w w:=Bel.refl
 obtain⟨a,c,rfl,hc,hm⟩:=hl.shape
 unfold maxLen at hm
 obtain⟨x0,x1,x2,x3,x4,x5,x6,x7,rfl⟩:=hx.shape
 have h1:0<l.length:=by cases l with|nil=>exact absurd rfl h0|cons _ _=>simp
 obtain⟨q0,hq0⟩:∃q,l[0]? =some q:=⟨_,List.getElem?_eq_getElem h1⟩
 obtain⟨adz,csz,haz,hFz,-,hlz⟩:=hl.load (by decide) hq0
 obtain⟨b0z,a0z,n0z,c0z,b1z,a1z,n1z,c1z,b2z,a2z,n2z,c2z,b3z,a3z,n3z,c3z,rfl,hAz,hVz⟩:=hFz
 refine in_statics_value (by simp) ?_
 conv=>whnf
 refine drawn_of_pi hτ hmix [.x 0,.x 1,.x 2,.x 3,.x 4,.x 5,.x 6] (by kernel_rfl) (by kernel_rfl) ?_
 conv=>whnf
 refine⟨adz,haz,⟨by omega,by omega⟩,?_⟩
 conv=>whnf
 refine⟨[.bool b0z,.slice a0z n0z c0z,.bool b1z,.slice a1z n1z c1z],rfl,fun ρ w' r j u hu=>?_,?_⟩
 ·have hj4:=(List.getElem?_eq_some_iff.1 hu).1
  obtain⟨k1,k2⟩:=hlz (0+j) u (by rcases j with _|_|_|_|j<;>first|exact hu|(have:j+4<4:=hj4;omega))
  rw[cell_of_heap (w:=w) (w2:=w') (by simp only[addB];exact(hw.tr r.bel).block _ (hS _ k1))]
  simp only[Int.toNat_natCast,Int.toNat_zero,Nat.zero_mul,addA]at k2 ⊢
  first|exact k2|(rw [←k2];congr 2;omega)
 conv=>whnf
 refine callE_con (Φ:=fun _ w' v w2=>v= .int .i64 (rs (x-q0.1))) (fun ρ w' r=>vCmp_c (fun g hg=>by have:=hS g hg;have:=r.baseLe;omega) (hx.v.keep fun g hg=>(hw.tr r.bel).block g (hS g hg)) (hAz.1.v.keep fun g hg=>(hw.tr r.bel).block g (hS g hg))) ?_
 rintro ρ wa1 v1 wb1 r he hb rfl
 replace hw:=hw.tr hb
 clear r he hb
 generalize (wa1.heap.size,wb1.heap.size)::[]=iv1 at*
 obtain⟨cf,hcf⟩:∃c,rs (x-q0.1)=c:=⟨_,rfl⟩
 rw[hcf]
 conv=>whnf
 refine BrS.mk (fun hd=>?_) (fun hd=>?_)
 ·have hd:x≤q0.1:=by have:=of_decide_eq_true hd;rw[←rs_le_iff];omega
  have hv:=valF_first hq0 hd
  conv=>whnf
  refine⟨adz,haz,⟨by omega,by omega⟩,?_⟩
  conv=>whnf
  refine⟨[.bool b2z,.slice a2z n2z c2z,.bool b3z,.slice a3z n3z c3z],rfl,fun ρ w' r j u hu=>?_,?_⟩
  ·have hj4:=(List.getElem?_eq_some_iff.1 hu).1
   obtain⟨k1,k2⟩:=hlz (4+j) u (by rcases j with _|_|_|_|j<;>first|exact hu|(have:j+4<4:=hj4;omega))
   rw[cell_of_heap (w:=w) (w2:=w') (by simp only[addB];exact(hw.tr r.bel).block _ (hS _ k1))]
   simp only[Int.toNat_natCast,Int.toNat_zero,Nat.zero_mul,addA]at k2 ⊢
   first|exact k2|(rw [←k2];congr 2;omega)
  conv=>whnf
  refine callE_S (callE_con (Φ:=fun _ w' v w2=>RatC w2 (Nw (fun _=>False) w' w2) v (q0.2)) (fun ρ w' r=>vNormal_c (fun g hg=>by have:=hS g hg;have:=r.baseLe;omega) (hVz.1.v.keep fun g hg=>(hw.tr r.bel).block g (hS g hg))) ?_)
  rintro ρ wa2 v2 wb2 r he hb hn
  replace hw:=hw.tr hb
  have hn9:=hn.got (S:=fun _=>False) r.baseLe (iv:=(wa2.heap.size,wb2.heap.size)::iv1) List.mem_cons_self
  clear r he hb hn
  generalize (wa2.heap.size,wb2.heap.size)::iv1=iv2 at*
  obtain⟨s2_0,s2_1,s2_2,s2_3,s2_4,s2_5,s2_6,s2_7,rfl⟩:=hn9.shape
  conv=>whnf
  intro ρe we re
  exact⟨_,rfl,hw.tr re.bel,by rw[hv];exact hn9.out re (oldF w)⟩
 have hd:¬x≤q0.1:=by have:=of_decide_eq_false hd;rw[←rs_le_iff];omega
 have hv:=valF_rest hq0 hd
 conv=>whnf
 refine⟨Nat×World×Iv,fun z=>⟨[(0,.o (.v (.slice a l.length c))),(3,.o (.p 0 0)),(4,.o (.p 1 0)),(5,.o (.v (.int .i64 ((z.1:Nat):Int))))],[(1,.box T.Rat [.v (.bool false),.v (.slice none 0 0),.v (.bool false),.v (.slice none 0 0)]),(0,.box T.Rat [.v (.bool x0),.v (.slice x1 x2 x3),.v (.bool x4),.v (.slice x5 x6 x7)])],2,z.2.2,z.2.1⟩,fun z=>l.length-z.1,
  fun z=>(1≤z.1∧z.1≤l.length)∧Bel w.heap.size w z.2.1∧∀p,l[z.1-1]? =some p→p.1<x∧valF x l=interpF x p (l.drop z.1),?_,?_⟩
 ·intro ρ w' r3
  exact⟨(1,w',_),⟨⟨Nat.le_refl _,h1⟩,hw.tr r3.bel,fun p hp=>by dsimp only at hp ⊢;rw[Nat.sub_self,hq0]at hp;injection hp with hp;subst hp;exact⟨Rat.not_le.1 hd,hv⟩⟩,Sub.gen [] r3 ⟨rfl,rfl,trivial⟩ ⟨rfl,rfl,rfl,rfl,trivial⟩ (by simp[ScH,Blk.scopd,At.sc]) (by simp[ScE,SV.sc,At.sc,initE]) (by rfl) (fun lo hi h=>h)⟩
 clear hw
 rintro⟨i,w1,iv⟩ ⟨⟨hi1,hi⟩,hw,hE⟩
 dsimp only at hi1 hi hw hE ⊢
 obtain⟨m,hm1⟩:∃m,i=m+1:=⟨i-1,by omega⟩
 obtain⟨p,hp⟩:∃p,l[m]? =some p:=⟨_,List.getElem?_eq_getElem (by omega)⟩
 obtain⟨hpx,hE⟩:=hE p (by rw[hm1,Nat.add_sub_cancel];exact hp)
 conv=>whnf
 refine BrS.mk (fun hib=>?_) (fun hib=>?_)
 ·have hib:i<l.length:=by simpa using hib
  obtain⟨q,hq⟩:∃q,l[i]? =some q:=⟨_,List.getElem?_eq_getElem hib⟩
  obtain⟨adx,csx,hax,hFx,-,hlx⟩:=hl.load (by decide) hq
  obtain⟨b0x,a0x,n0x,c0x,b1x,a1x,n1x,c1x,b2x,a2x,n2x,c2x,b3x,a3x,n3x,c3x,rfl,hAx,hVx⟩:=hFx
  obtain⟨ady,csy,hay,hFy,-,hly⟩:=hl.load (by decide) hp
  obtain⟨b0y,a0y,n0y,c0y,b1y,a1y,n1y,c1y,b2y,a2y,n2y,c2y,b3y,a3y,n3y,c3y,rfl,hAy,hVy⟩:=hFy
  conv=>whnf
  refine drawn_of_pi hτ hmix [.x 0,.x 1,.x 2,.x 3,.x 4,.x 5,.x 6,.x 7] (by kernel_rfl) (by kernel_rfl) ?_
  conv=>whnf
  refine⟨adx,hax,⟨by omega,by omega⟩,?_⟩
  conv=>whnf
  refine⟨[.bool b0x,.slice a0x n0x c0x,.bool b1x,.slice a1x n1x c1x],rfl,fun ρ w' r j u hu=>?_,?_⟩
  ·have hj4:=(List.getElem?_eq_some_iff.1 hu).1
   obtain⟨k1,k2⟩:=hlx (0+j) u (by rcases j with _|_|_|_|j<;>first|exact hu|(have:j+4<4:=hj4;omega))
   rw[cell_of_heap (w:=w) (w2:=w') (by simp only[addB];exact(hw.tr r.bel).block _ (hS _ k1))]
   simp only[Int.toNat_natCast,Int.toNat_zero,Nat.zero_mul,addA]at k2 ⊢
   first|exact k2|(rw [←k2];congr 2;omega)
  conv=>whnf
  refine callE_con (Φ:=fun _ w' v w2=>v= .int .i64 (rs (x-q.1))) (fun ρ w' r=>vCmp_c (fun g hg=>by have:=hS g hg;have:=r.baseLe;omega) (hx.v.keep fun g hg=>(hw.tr r.bel).block g (hS g hg)) (hAx.1.v.keep fun g hg=>(hw.tr r.bel).block g (hS g hg))) ?_
  rintro ρ wa11 v11 wb11 r he hb rfl
  replace hw:=hw.tr hb
  clear r he hb
  generalize (wa11.heap.size,wb11.heap.size)::iv=iv11 at*
  obtain⟨cf,hcf⟩:∃c,rs (x-q.1)=c:=⟨_,rfl⟩
  rw[hcf]
  conv=>whnf
  refine BrS.mk (fun hd2=>?_) (fun hd2=>?_)
  ·have hd2:x≤q.1:=by have:=of_decide_eq_true hd2;rw[←rs_le_iff];omega
   rw[interpF_hit hq hd2]at hE
   have hne:q.1-p.1≠0:=by intro h;grind
   have g1:=rl_sub x p.1
   have g2:=rl_sub q.1 p.1
   have g3:=rl_div (x-p.1) hne
   have g4:=rl_sub q.2 p.2
   have g5:=rl_mul ((x-p.1) / (q.1-p.1)) (q.2-p.2)
   have g6:=hAx.2
   have g7:=hAy.2
   have g8:=hVx.2
   have g9:=hVy.2
   conv=>whnf
   refine drawn_of_tg hτ hmix (.x 0 (.x 1 (.x 2 (.x 3 (.x 5 (.x 6 (.x 7 (.ld 4 6144 (.ld 8 4096 (.two 9 (.x 10 (.x 11 (.x 12 .nil))) 10 (.x 9 (.x 11 (.x 12 .nil))))))))))))) (by kernel_rfl) (by kernel_rfl) ?_
   conv=>whnf
   refine⟨(m:Int),by rw[wrap64]<;>omega,?_⟩
   conv=>whnf
   refine⟨ady,hay,⟨by omega,by omega⟩,?_⟩
   conv=>whnf
   refine⟨adx,hax,⟨by omega,by omega⟩,?_⟩
   conv=>whnf
   refine⟨[.bool b0y,.slice a0y n0y c0y,.bool b1y,.slice a1y n1y c1y,.bool b2y,.slice a2y n2y c2y,.bool b3y,.slice a3y n3y c3y],rfl,fun ρ w' r j u hu=>?_,?_⟩
   ·have hj4:=(List.getElem?_eq_some_iff.1 hu).1
    obtain⟨k1,k2⟩:=hly (0+j) u (by rcases j with _|_|_|_|_|_|_|_|j<;>first|exact hu|(have:j+8<8:=hj4;omega))
    rw[cell_of_heap (w:=w) (w2:=w') (by simp only[addB];exact(hw.tr r.bel).block _ (hS _ k1))]
    simp only[Int.toNat_natCast,Int.toNat_zero,Nat.zero_mul,addA]at k2 ⊢
    first|exact k2|(rw [←k2];congr 2;omega)
   conv=>whnf
   refine⟨[.bool b0x,.slice a0x n0x c0x,.bool b1x,.slice a1x n1x c1x,.bool b2x,.slice a2x n2x c2x,.bool b3x,.slice a3x n3x c3x],rfl,fun ρ w' r j u hu=>?_,?_⟩
   ·have hj4:=(List.getElem?_eq_some_iff.1 hu).1
    obtain⟨k1,k2⟩:=hlx (0+j) u (by rcases j with _|_|_|_|_|_|_|_|j<;>first|exact hu|(have:j+8<8:=hj4;omega))
    rw[cell_of_heap (w:=w) (w2:=w') (by simp only[addB];exact(hw.tr r.bel).block _ (hS _ k1))]
    simp only[Int.toNat_natCast,Int.toNat_zero,Nat.zero_mul,addA]at k2 ⊢
    first|exact k2|(rw [←k2];congr 2;omega)
   conv=>whnf
   refine⟨?_,?_⟩
   ·conv=>whnf
    refine⟨[.bool b0x,.slice a0x n0x c0x,.bool b1x,.slice a1x n1x c1x,.bool b2x,.slice a2x n2x c2x,.bool b3x,.slice a3x n3x c3x],rfl,fun ρ w' r j u hu=>?_,?_⟩
    ·have hj4:=(List.getElem?_eq_some_iff.1 hu).1
     obtain⟨k1,k2⟩:=hlx (0+j) u (by rcases j with _|_|_|_|_|_|_|_|j<;>first|exact hu|(have:j+8<8:=hj4;omega))
     rw[cell_of_heap (w:=w) (w2:=w') (by simp only[addB];exact(hw.tr r.bel).block _ (hS _ k1))]
     simp only[Int.toNat_natCast,Int.toNat_zero,Nat.zero_mul,addA]at k2 ⊢
     first|exact k2|(rw [←k2];congr 2;omega)
    conv=>whnf
    refine⟨rfl,?_⟩
    conv=>whnf
    refine⟨[.bool b0y,.slice a0y n0y c0y,.bool b1y,.slice a1y n1y c1y,.bool b2y,.slice a2y n2y c2y,.bool b3y,.slice a3y n3y c3y],rfl,fun ρ w' r j u hu=>?_,?_⟩
    ·have hj4:=(List.getElem?_eq_some_iff.1 hu).1
     obtain⟨k1,k2⟩:=hly (0+j) u (by rcases j with _|_|_|_|_|_|_|_|j<;>first|exact hu|(have:j+8<8:=hj4;omega))
     rw[cell_of_heap (w:=w) (w2:=w') (by simp only[addB];exact(hw.tr r.bel).block _ (hS _ k1))]
     simp only[Int.toNat_natCast,Int.toNat_zero,Nat.zero_mul,addA]at k2 ⊢
     first|exact k2|(rw [←k2];congr 2;omega)
    conv=>whnf
    refine⟨rfl,?_⟩
    conv=>whnf
    refine⟨[.bool b0x,.slice a0x n0x c0x,.bool b1x,.slice a1x n1x c1x,.bool b2x,.slice a2x n2x c2x,.bool b3x,.slice a3x n3x c3x],rfl,fun ρ w' r j u hu=>?_,?_⟩
    ·have hj4:=(List.getElem?_eq_some_iff.1 hu).1
     obtain⟨k1,k2⟩:=hlx (0+j) u (by rcases j with _|_|_|_|_|_|_|_|j<;>first|exact hu|(have:j+8<8:=hj4;omega))
     rw[cell_of_heap (w:=w) (w2:=w') (by simp only[addB];exact(hw.tr r.bel).block _ (hS _ k1))]
     simp only[Int.toNat_natCast,Int.toNat_zero,Nat.zero_mul,addA]at k2 ⊢
     first|exact k2|(rw [←k2];congr 2;omega)
    conv=>whnf
    refine⟨rfl,?_⟩
    conv=>whnf
    refine⟨[.bool b0y,.slice a0y n0y c0y,.bool b1y,.slice a1y n1y c1y,.bool b2y,.slice a2y n2y c2y,.bool b3y,.slice a3y n3y c3y],rfl,fun ρ w' r j u hu=>?_,?_⟩
    ·have hj4:=(List.getElem?_eq_some_iff.1 hu).1
     obtain⟨k1,k2⟩:=hly (0+j) u (by rcases j with _|_|_|_|_|_|_|_|j<;>first|exact hu|(have:j+8<8:=hj4;omega))
     rw[cell_of_heap (w:=w) (w2:=w') (by simp only[addB];exact(hw.tr r.bel).block _ (hS _ k1))]
     simp only[Int.toNat_natCast,Int.toNat_zero,Nat.zero_mul,addA]at k2 ⊢
     first|exact k2|(rw [←k2];congr 2;omega)
    conv=>whnf
    refine⟨rfl,?_⟩
    conv=>whnf
    refine⟨[.bool b0x,.slice a0x n0x c0x,.bool b1x,.slice a1x n1x c1x,.bool b2x,.slice a2x n2x c2x,.bool b3x,.slice a3x n3x c3x],rfl,fun ρ w' r j u hu=>?_,?_⟩
    ·have hj4:=(List.getElem?_eq_some_iff.1 hu).1
     obtain⟨k1,k2⟩:=hlx (0+j) u (by rcases j with _|_|_|_|_|_|_|_|j<;>first|exact hu|(have:j+8<8:=hj4;omega))
     rw[cell_of_heap (w:=w) (w2:=w') (by simp only[addB];exact(hw.tr r.bel).block _ (hS _ k1))]
     simp only[Int.toNat_natCast,Int.toNat_zero,Nat.zero_mul,addA]at k2 ⊢
     first|exact k2|(rw [←k2];congr 2;omega)
    conv=>whnf
    refine⟨rfl,?_⟩
    conv=>whnf
    refine drawn_of_pi hτ hmix [.x 0,.x 1,.x 2,.x 4,.x 5,.x 6,.x 7,.p 10,.x 3,.x 8,.x 9,.x 10,.x 11] (by kernel_rfl) (by kernel_rfl) ?_
    conv=>whnf
    refine callE_con (Φ:=fun _ w' v w2=>RatC w2 (Nw (fun _=>False) w' w2) v (x-p.1)) (fun ρ w' r=>vSub_c (fun g hg=>by have:=hS g hg;have:=r.baseLe;omega) (hx.v.keep fun g hg=>(hw.tr r.bel).block g (hS g hg)) (hAy.1.v.keep fun g hg=>(hw.tr r.bel).block g (hS g hg))) ?_
    rintro ρ wa12 v12 wb12 r he hb hn
    replace hw:=hw.tr hb
    have hr1:=hn.got (S:=fun _=>False) r.baseLe (iv:=(wa12.heap.size,wb12.heap.size)::iv11) List.mem_cons_self
    clear r he hb hn
    generalize (wa12.heap.size,wb12.heap.size)::iv11=iv12 at*
    obtain⟨s12_0,s12_1,s12_2,s12_3,s12_4,s12_5,s12_6,s12_7,rfl⟩:=hr1.shape
    conv=>whnf
    refine callE_con (Φ:=fun _ w' v w2=>RatC w2 (Nw (fun _=>False) w' w2) v (q.1-p.1)) (fun ρ w' r=>vSub_c (fun g hg=>by have:=hS g hg;have:=r.baseLe;omega) (hAx.1.v.keep fun g hg=>(hw.tr r.bel).block g (hS g hg)) (hAy.1.v.keep fun g hg=>(hw.tr r.bel).block g (hS g hg))) ?_
    rintro ρ wa13 v13 wb13 r he hb hn
    replace hw:=hw.tr hb
    replace hr1:=hr1.past (iv':=(wa13.heap.size,wb13.heap.size)::iv12) r (oldF w) he fun x hx=>List.mem_cons_of_mem _ hx
    have hr2:=hn.got (S:=fun _=>False) r.baseLe (iv:=(wa13.heap.size,wb13.heap.size)::iv12) List.mem_cons_self
    clear r he hb hn
    generalize (wa13.heap.size,wb13.heap.size)::iv12=iv13 at*
    obtain⟨s13_0,s13_1,s13_2,s13_3,s13_4,s13_5,s13_6,s13_7,rfl⟩:=hr2.shape
    conv=>whnf
    refine callE_con (Φ:=fun _ w' v w2=>RatC w2 (Nw (fun _=>False) w' w2) v ((x-p.1) / (q.1-p.1))) (fun ρ w' r=>sQuo_c (Rel.old r (oldF w)) ((hr1.rel r (oldF w)).l (by omega)) ((hr2.rel r (oldF w)).l (by omega)) hne) ?_
    rintro ρ wa14 v14 wb14 r he hb hn
    replace hw:=hw.tr hb
    clear hr1
    clear hr2
    have hr3:=hn.got (S:=fun _=>False) r.baseLe (iv:=(wa14.heap.size,wb14.heap.size)::iv13) List.mem_cons_self
    clear r he hb hn
    generalize (wa14.heap.size,wb14.heap.size)::iv13=iv14 at*
    obtain⟨s14_0,s14_1,s14_2,s14_3,s14_4,s14_5,s14_6,s14_7,rfl⟩:=hr3.shape
    conv=>whnf
    refine drawn_of_pi hτ hmix [.x 0,.x 1,.x 2,.x 3,.x 4,.x 5,.x 6,.x 7,.x 8,.x 9,.x 10] (by kernel_rfl) (by kernel_rfl) ?_
    conv=>whnf
    refine callE_con (Φ:=fun _ w' v w2=>RatC w2 (Nw (fun _=>False) w' w2) v (q.2-p.2)) (fun ρ w' r=>vSub_c (fun g hg=>by have:=hS g hg;have:=r.baseLe;omega) (hVx.1.v.keep fun g hg=>(hw.tr r.bel).block g (hS g hg)) (hVy.1.v.keep fun g hg=>(hw.tr r.bel).block g (hS g hg))) ?_
    rintro ρ wa15 v15 wb15 r he hb hn
    replace hw:=hw.tr hb
    replace hr3:=hr3.past (iv':=(wa15.heap.size,wb15.heap.size)::iv14) r (oldF w) he fun x hx=>List.mem_cons_of_mem _ hx
    have hr4:=hn.got (S:=fun _=>False) r.baseLe (iv:=(wa15.heap.size,wb15.heap.size)::iv14) List.mem_cons_self
    clear r he hb hn
    generalize (wa15.heap.size,wb15.heap.size)::iv14=iv15 at*
    obtain⟨s15_0,s15_1,s15_2,s15_3,s15_4,s15_5,s15_6,s15_7,rfl⟩:=hr4.shape
    conv=>whnf
    refine callE_con (Φ:=fun _ w' v w2=>RatC w2 (Nw (fun _=>False) w' w2) v ((x-p.1) / (q.1-p.1)*(q.2-p.2))) (fun ρ w' r=>vMul_c (Rel.old r (oldF w)) ((hr3.rel r (oldF w)).v (by omega)) ((hr4.rel r (oldF w)).v (by omega))) ?_
    rintro ρ wa16 v16 wb16 r he hb hn
    replace hw:=hw.tr hb
    clear hr3
    clear hr4
    have hr5:=hn.got (S:=fun _=>False) r.baseLe (iv:=(wa16.heap.size,wb16.heap.size)::iv15) List.mem_cons_self
    clear r he hb hn
    generalize (wa16.heap.size,wb16.heap.size)::iv15=iv16 at*
    obtain⟨s16_0,s16_1,s16_2,s16_3,s16_4,s16_5,s16_6,s16_7,rfl⟩:=hr5.shape
    conv=>whnf
    refine callE_con (Φ:=fun _ w' v w2=>RatC w2 (Nw (fun _=>False) w' w2) v (p.2+(x-p.1) / (q.1-p.1)*(q.2-p.2))) (fun ρ w' r=>vAdd_c (S:=fun g=>S g∨Cv (fun _=>False) w.heap.size iv16 g) (fun g hg=>hg.elim (fun hg=>by have:=hS g hg;have:=r.baseLe;omega) (Rel.old r (oldF w) g)) (RatV.weak (hVy.1.v.keep fun g hg=>(hw.tr r.bel).block g (hS g hg)) fun g hg=>.inl hg) (((hr5.rel r (oldF w)).v (by omega)).weak fun g hg=>.inr hg)) ?_
    rintro ρ wa17 v17 wb17 r he hb hn
    replace hw:=hw.tr hb
    clear hr5
    have hn9:=hn.got (S:=fun _=>False) r.baseLe (iv:=(wa17.heap.size,wb17.heap.size)::iv16) List.mem_cons_self
    clear r he hb hn
    generalize (wa17.heap.size,wb17.heap.size)::iv16=iv17 at*
    obtain⟨s17_0,s17_1,s17_2,s17_3,s17_4,s17_5,s17_6,s17_7,rfl⟩:=hn9.shape
    conv=>whnf
    intro ρe we re
    exact⟨_,rfl,hw.tr re.bel,by rw[hE];exact hn9.out re (oldF w)⟩
   ·conv=>whnf
    refine⟨[.bool b0x,.slice a0x n0x c0x,.bool b1x,.slice a1x n1x c1x,.bool b2x,.slice a2x n2x c2x,.bool b3x,.slice a3x n3x c3x],rfl,fun ρ w' r j u hu=>?_,?_⟩
    ·have hj4:=(List.getElem?_eq_some_iff.1 hu).1
     obtain⟨k1,k2⟩:=hlx (0+j) u (by rcases j with _|_|_|_|_|_|_|_|j<;>first|exact hu|(have:j+8<8:=hj4;omega))
     rw[cell_of_heap (w:=w) (w2:=w') (by simp only[addB];exact(hw.tr r.bel).block _ (hS _ k1))]
     simp only[Int.toNat_natCast,Int.toNat_zero,Nat.zero_mul,addA]at k2 ⊢
     first|exact k2|(rw [←k2];congr 2;omega)
    conv=>whnf
    refine⟨rfl,?_⟩
    conv=>whnf
    refine⟨[.bool b0y,.slice a0y n0y c0y,.bool b1y,.slice a1y n1y c1y,.bool b2y,.slice a2y n2y c2y,.bool b3y,.slice a3y n3y c3y],rfl,fun ρ w' r j u hu=>?_,?_⟩
    ·have hj4:=(List.getElem?_eq_some_iff.1 hu).1
     obtain⟨k1,k2⟩:=hly (0+j) u (by rcases j with _|_|_|_|_|_|_|_|j<;>first|exact hu|(have:j+8<8:=hj4;omega))
     rw[cell_of_heap (w:=w) (w2:=w') (by simp only[addB];exact(hw.tr r.bel).block _ (hS _ k1))]
     simp only[Int.toNat_natCast,Int.toNat_zero,Nat.zero_mul,addA]at k2 ⊢
     first|exact k2|(rw [←k2];congr 2;omega)
    conv=>whnf
    refine⟨rfl,?_⟩
    conv=>whnf
    refine⟨[.bool b0x,.slice a0x n0x c0x,.bool b1x,.slice a1x n1x c1x,.bool b2x,.slice a2x n2x c2x,.bool b3x,.slice a3x n3x c3x],rfl,fun ρ w' r j u hu=>?_,?_⟩
    ·have hj4:=(List.getElem?_eq_some_iff.1 hu).1
     obtain⟨k1,k2⟩:=hlx (0+j) u (by rcases j with _|_|_|_|_|_|_|_|j<;>first|exact hu|(have:j+8<8:=hj4;omega))
     rw[cell_of_heap (w:=w) (w2:=w') (by simp only[addB];exact(hw.tr r.bel).block _ (hS _ k1))]
     simp only[Int.toNat_natCast,Int.toNat_zero,Nat.zero_mul,addA]at k2 ⊢
     first|exact k2|(rw [←k2];congr 2;omega)
    conv=>whnf
    refine⟨rfl,?_⟩
    conv=>whnf
    refine⟨[.bool b0y,.slice a0y n0y c0y,.bool b1y,.slice a1y n1y c1y,.bool b2y,.slice a2y n2y c2y,.bool b3y,.slice a3y n3y c3y],rfl,fun ρ w' r j u hu=>?_,?_⟩
    ·have hj4:=(List.getElem?_eq_some_iff.1 hu).1
     obtain⟨k1,k2⟩:=hly (0+j) u (by rcases j with _|_|_|_|_|_|_|_|j<;>first|exact hu|(have:j+8<8:=hj4;omega))
     rw[cell_of_heap (w:=w) (w2:=w') (by simp only[addB];exact(hw.tr r.bel).block _ (hS _ k1))]
     simp only[Int.toNat_natCast,Int.toNat_zero,Nat.zero_mul,addA]at k2 ⊢
     first|exact k2|(rw [←k2];congr 2;omega)
    conv=>whnf
    refine⟨rfl,?_⟩
    conv=>whnf
    refine⟨[.bool b0x,.slice a0x n0x c0x,.bool b1x,.slice a1x n1x c1x,.bool b2x,.slice a2x n2x c2x,.bool b3x,.slice a3x n3x c3x],rfl,fun ρ w' r j u hu=>?_,?_⟩
    ·have hj4:=(List.getElem?_eq_some_iff.1 hu).1
     obtain⟨k1,k2⟩:=hlx (0+j) u (by rcases j with _|_|_|_|_|_|_|_|j<;>first|exact hu|(have:j+8<8:=hj4;omega))
     rw[cell_of_heap (w:=w) (w2:=w') (by simp only[addB];exact(hw.tr r.bel).block _ (hS _ k1))]
     simp only[Int.toNat_natCast,Int.toNat_zero,Nat.zero_mul,addA]at k2 ⊢
     first|exact k2|(rw [←k2];congr 2;omega)
    conv=>whnf
    refine⟨rfl,?_⟩
    conv=>whnf
    refine drawn_of_pi hτ hmix [.x 0,.x 1,.x 2,.x 4,.x 5,.x 6,.x 7,.p 10,.x 3,.x 8,.x 9,.x 10,.x 11] (by kernel_rfl) (by kernel_rfl) ?_
    conv=>whnf
    refine callE_con (Φ:=fun _ w' v w2=>RatC w2 (Nw (fun _=>False) w' w2) v (x-p.1)) (fun ρ w' r=>vSub_c (fun g hg=>by have:=hS g hg;have:=r.baseLe;omega) (hx.v.keep fun g hg=>(hw.tr r.bel).block g (hS g hg)) (hAy.1.v.keep fun g hg=>(hw.tr r.bel).block g (hS g hg))) ?_
    rintro ρ wa12 v12 wb12 r he hb hn
    replace hw:=hw.tr hb
    have hr1:=hn.got (S:=fun _=>False) r.baseLe (iv:=(wa12.heap.size,wb12.heap.size)::iv11) List.mem_cons_self
    clear r he hb hn
    generalize (wa12.heap.size,wb12.heap.size)::iv11=iv12 at*
    obtain⟨s12_0,s12_1,s12_2,s12_3,s12_4,s12_5,s12_6,s12_7,rfl⟩:=hr1.shape
    conv=>whnf
    refine callE_con (Φ:=fun _ w' v w2=>RatC w2 (Nw (fun _=>False) w' w2) v (q.1-p.1)) (fun ρ w' r=>vSub_c (fun g hg=>by have:=hS g hg;have:=r.baseLe;omega) (hAx.1.v.keep fun g hg=>(hw.tr r.bel).block g (hS g hg)) (hAy.1.v.keep fun g hg=>(hw.tr r.bel).block g (hS g hg))) ?_
    rintro ρ wa13 v13 wb13 r he hb hn
    replace hw:=hw.tr hb
    replace hr1:=hr1.past (iv':=(wa13.heap.size,wb13.heap.size)::iv12) r (oldF w) he fun x hx=>List.mem_cons_of_mem _ hx
    have hr2:=hn.got (S:=fun _=>False) r.baseLe (iv:=(wa13.heap.size,wb13.heap.size)::iv12) List.mem_cons_self
    clear r he hb hn
    generalize (wa13.heap.size,wb13.heap.size)::iv12=iv13 at*
    obtain⟨s13_0,s13_1,s13_2,s13_3,s13_4,s13_5,s13_6,s13_7,rfl⟩:=hr2.shape
    conv=>whnf
    refine callE_con (Φ:=fun _ w' v w2=>RatC w2 (Nw (fun _=>False) w' w2) v ((x-p.1) / (q.1-p.1))) (fun ρ w' r=>sQuo_c (Rel.old r (oldF w)) ((hr1.rel r (oldF w)).l (by omega)) ((hr2.rel r (oldF w)).l (by omega)) hne) ?_
    rintro ρ wa14 v14 wb14 r he hb hn
    replace hw:=hw.tr hb
    clear hr1
    clear hr2
    have hr3:=hn.got (S:=fun _=>False) r.baseLe (iv:=(wa14.heap.size,wb14.heap.size)::iv13) List.mem_cons_self
    clear r he hb hn
    generalize (wa14.heap.size,wb14.heap.size)::iv13=iv14 at*
    obtain⟨s14_0,s14_1,s14_2,s14_3,s14_4,s14_5,s14_6,s14_7,rfl⟩:=hr3.shape
    conv=>whnf
    refine drawn_of_pi hτ hmix [.x 0,.x 1,.x 2,.x 3,.x 4,.x 5,.x 6,.x 7,.x 8,.x 9,.x 10] (by kernel_rfl) (by kernel_rfl) ?_
    conv=>whnf
    refine callE_con (Φ:=fun _ w' v w2=>RatC w2 (Nw (fun _=>False) w' w2) v (q.2-p.2)) (fun ρ w' r=>vSub_c (fun g hg=>by have:=hS g hg;have:=r.baseLe;omega) (hVx.1.v.keep fun g hg=>(hw.tr r.bel).block g (hS g hg)) (hVy.1.v.keep fun g hg=>(hw.tr r.bel).block g (hS g hg))) ?_
    rintro ρ wa15 v15 wb15 r he hb hn
    replace hw:=hw.tr hb
    replace hr3:=hr3.past (iv':=(wa15.heap.size,wb15.heap.size)::iv14) r (oldF w) he fun x hx=>List.mem_cons_of_mem _ hx
    have hr4:=hn.got (S:=fun _=>False) r.baseLe (iv:=(wa15.heap.size,wb15.heap.size)::iv14) List.mem_cons_self
    clear r he hb hn
    generalize (wa15.heap.size,wb15.heap.size)::iv14=iv15 at*
    obtain⟨s15_0,s15_1,s15_2,s15_3,s15_4,s15_5,s15_6,s15_7,rfl⟩:=hr4.shape
    conv=>whnf
    refine callE_con (Φ:=fun _ w' v w2=>RatC w2 (Nw (fun _=>False) w' w2) v ((x-p.1) / (q.1-p.1)*(q.2-p.2))) (fun ρ w' r=>vMul_c (Rel.old r (oldF w)) ((hr3.rel r (oldF w)).v (by omega)) ((hr4.rel r (oldF w)).v (by omega))) ?_
    rintro ρ wa16 v16 wb16 r he hb hn
    replace hw:=hw.tr hb
    clear hr3
    clear hr4
    have hr5:=hn.got (S:=fun _=>False) r.baseLe (iv:=(wa16.heap.size,wb16.heap.size)::iv15) List.mem_cons_self
    clear r he hb hn
    generalize (wa16.heap.size,wb16.heap.size)::iv15=iv16 at*
    obtain⟨s16_0,s16_1,s16_2,s16_3,s16_4,s16_5,s16_6,s16_7,rfl⟩:=hr5.shape
    conv=>whnf
    refine callE_con (Φ:=fun _ w' v w2=>RatC w2 (Nw (fun _=>False) w' w2) v (p.2+(x-p.1) / (q.1-p.1)*(q.2-p.2))) (fun ρ w' r=>vAdd_c (S:=fun g=>S g∨Cv (fun _=>False) w.heap.size iv16 g) (fun g hg=>hg.elim (fun hg=>by have:=hS g hg;have:=r.baseLe;omega) (Rel.old r (oldF w) g)) (RatV.weak (hVy.1.v.keep fun g hg=>(hw.tr r.bel).block g (hS g hg)) fun g hg=>.inl hg) (((hr5.rel r (oldF w)).v (by omega)).weak fun g hg=>.inr hg)) ?_
    rintro ρ wa17 v17 wb17 r he hb hn
    replace hw:=hw.tr hb
    clear hr5
    have hn9:=hn.got (S:=fun _=>False) r.baseLe (iv:=(wa17.heap.size,wb17.heap.size)::iv16) List.mem_cons_self
    clear r he hb hn
    generalize (wa17.heap.size,wb17.heap.size)::iv16=iv17 at*
    obtain⟨s17_0,s17_1,s17_2,s17_3,s17_4,s17_5,s17_6,s17_7,rfl⟩:=hn9.shape
    conv=>whnf
    intro ρe we re
    exact⟨_,rfl,hw.tr re.bel,by rw[hE];exact hn9.out re (oldF w)⟩
  ·have hd2:¬x≤q.1:=by have:=of_decide_eq_false hd2;rw[←rs_le_iff];omega
   rw[interpF_miss hq hd2]at hE
   conv=>whnf
   refine⟨((i+1:Nat):Int),by rw[wrap64]<;>omega,?_⟩
   conv=>whnf
   intro ρ3 w6 r3
   exact⟨(i+1,w6,_),⟨⟨by dsimp only;omega,hib⟩,hw.tr r3.bel,fun p2 hp2=>by dsimp only at hp2 ⊢;rw[Nat.add_sub_cancel,hq]at hp2;injection hp2 with hp2;subst hp2;exact⟨Rat.not_le.1 hd2,hE⟩⟩,Sub.gen [] r3 ⟨rfl,rfl,trivial⟩ ⟨rfl,rfl,rfl,rfl,trivial⟩ (by simp[ScH,Blk.scopd,At.sc]) (by simp[ScE,SV.sc,At.sc,initE]) (by rfl) (fun lo hi h=>h),by dsimp only;omega⟩
 have hib:i=l.length:=Nat.le_antisymm hi (by simpa using hib)
 rw[hib,interpF_end]at hE
 obtain⟨ady,csy,hay,hFy,-,hly⟩:=hl.load (by decide) hp
 obtain⟨b0y,a0y,n0y,c0y,b1y,a1y,n1y,c1y,b2y,a2y,n2y,c2y,b3y,a3y,n3y,c3y,rfl,hAy,hVy⟩:=hFy
 conv=>whnf
 refine⟨(m:Int),by rw[wrap64]<;>omega,?_⟩
 conv=>whnf
 refine⟨ady,hay,⟨by omega,by omega⟩,?_⟩
 conv=>whnf
 refine⟨[.bool b2y,.slice a2y n2y c2y,.bool b3y,.slice a3y n3y c3y],rfl,fun ρ w' r j u hu=>?_,?_⟩
 ·have hj4:=(List.getElem?_eq_some_iff.1 hu).1
  obtain⟨k1,k2⟩:=hly (4+j) u (by rcases j with _|_|_|_|j<;>first|exact hu|(have:j+4<4:=hj4;omega))
  rw[cell_of_heap (w:=w) (w2:=w') (by simp only[addB];exact(hw.tr r.bel).block _ (hS _ k1))]
  simp only[Int.toNat_natCast,Int.toNat_zero,Nat.zero_mul,addA]at k2 ⊢
  first|exact k2|(rw [←k2];congr 2;omega)
 conv=>whnf
 refine callE_S (callE_con (Φ:=fun _ w' v w2=>RatC w2 (Nw (fun _=>False) w' w2) v (p.2)) (fun ρ w' r=>vNormal_c (fun g hg=>by have:=hS g hg;have:=r.baseLe;omega) (hVy.1.v.keep fun g hg=>(hw.tr r.bel).block g (hS g hg))) ?_)
 rintro ρ wa41 v41 wb41 r he hb hn
 replace hw:=hw.tr hb
 have hn9:=hn.got (S:=fun _=>False) r.baseLe (iv:=(wa41.heap.size,wb41.heap.size)::iv) List.mem_cons_self
 clear r he hb hn
 generalize (wa41.heap.size,wb41.heap.size)::iv=iv41 at*
 obtain⟨s41_0,s41_1,s41_2,s41_3,s41_4,s41_5,s41_6,s41_7,rfl⟩:=hn9.shape
 conv=>whnf
 intro ρe we re
 exact⟨_,rfl,hw.tr re.bel,by rw[hE];exact hn9.out re (oldF w)⟩
theorem errT_zero{l:List (Rat×Rat)}(h:errT l=0):l≠[]∧l.length≤100:=by
 unfold errT at h
 split at h<;>rename_i h1
 ·cases h
 ·split at h<;>rename_i h2
  ·cases h
  ·exact⟨fun e=>h1 (by rw[e];rfl),by omega⟩
theorem sInterpolate_c{S:Nat→Prop}{w:World}{u:Value}{a:Option Addr}{c:Nat}{l:List (Rat×Rat)}{x:Rat}(hS:Old S w)(hm:l.length≤maxLen)(hl:l.length≤100→StepsL w S (.slice a l.length c) l)(hx:RatL w S u x)(hxs:rl x≤3):
  Con PG N.statics_Interpolate #[.slice a l.length c,u] w (Ret w fun v' w2=>(errT l≠0∧v'= .tuple #[.agg #[.bool false,.slice none 0 0,.bool false,.slice none 0 0],.int .i64 (errT l)])∨(errT l=0∧∃r,v'= .tuple #[r,.int .i64 0]∧RatC w2 (Nw (fun _=>False) w w2) r (valF x l))):=by
 have hw:Bel w.heap.size w w:=Bel.refl
 obtain⟨x0,x1,x2,x3,x4,x5,x6,x7,rfl⟩:=hx.shape
 refine in_statics_Interpolate (by simp) ?_
 conv=>whnf
 refine callE_S (callE_con (Φ:=fun _ w' v w2=>v= .int .i64 (errT l)) (fun ρ w' r=>sCheckTable_c (S:=S) (fun g hg=>by have:=hS g hg;have:=r.baseLe;omega) hm (fun hle=>StepsL.keep (hl hle) fun g hg=>(hw.tr r.bel).block g (hS g hg))) ?_)
 rintro ρ wa1 v1 wb1 r he hb rfl
 replace hw:=hw.tr hb
 clear r he hb
 generalize (wa1.heap.size,wb1.heap.size)::[]=iv1 at*
 obtain⟨e,he⟩:∃e,errT l=e:=⟨_,rfl⟩
 rw[he]
 conv=>whnf
 refine BrS.mk (fun hd=>?_) (fun hd=>?_)
 ·have hd:e≠0:=by simpa using hd
  conv=>whnf
  intro ρe we re
  exact⟨_,rfl,hw.tr re.bel,.inl ⟨hd,rfl⟩⟩
 have hd:e=0:=by simpa using hd
 subst hd
 obtain⟨e1,e2⟩:=errT_zero he
 conv=>whnf
 refine callE_S (callE_con (Φ:=fun _ w' v w2=>RatC w2 (Nw (fun _=>False) w' w2) v (valF x l)) (fun ρ w' r=>sValue_c (fun g hg=>by have:=hS g hg;have:=r.baseLe;omega) (StepsL.keep (hl e2) fun g hg=>(hw.tr r.bel).block g (hS g hg)) (hx.keep fun g hg=>(hw.tr r.bel).block g (hS g hg)) hxs e1) ?_)
 rintro ρ wa2 v2 wb2 r he hb hn
 replace hw:=hw.tr hb
 have hn9:=hn.got (S:=fun _=>False) r.baseLe (iv:=(wa2.heap.size,wb2.heap.size)::iv1) List.mem_cons_self
 clear r he hb hn
 generalize (wa2.heap.size,wb2.heap.size)::iv1=iv2 at*
 obtain⟨s2_0,s2_1,s2_2,s2_3,s2_4,s2_5,s2_6,s2_7,rfl⟩:=hn9.shape
 conv=>whnf
 intro ρe we re
 exact⟨_,rfl,hw.tr re.bel,.inr ⟨rfl,_,rfl,hn9.out re (oldF w)⟩⟩
end Go.Ex

/- The reference's check and value of a table. Printed by program. No condition but sizes. -/
namespace Go.Ex
open Go Go.Sx Go.Proofs

theorem rCheckTable_c{S:Nat→Prop}{w:World}{a:Option Addr}{c:Nat}{l:List (Rat×Rat)}(hS:Old S w)(hm:l.length≤maxLen)(hl:l.length≤100→StepsL w S (.slice a l.length c) l):Con PG N.ref05_CheckTable #[.slice a l.length c] w (Ret w fun v' _=>v'= .int .i64 (errT l)):=by
 have hw:Bel w.heap.size w w:=Bel.refl
 unfold maxLen at hm
 refine in_ref05_CheckTable (by simp) ?_
 conv=>whnf
 refine BrS.mk (fun h0=>?_) (fun h0=>?_)
 ·have h0:l.length=0:=by have h0:=eq_of_beq h0;omega
  conv=>whnf
  intro ρe we re
  exact⟨_,rfl,hw.tr re.bel,by show Value.int .i64 _=_;rw[errT,if_pos h0]⟩
 have h0:l.length≠0:=by intro h;simp[h]at h0
 conv=>whnf
 refine BrS.mk (fun h1=>?_) (fun h1=>?_)
 ·have h1:=of_decide_eq_true h1
  conv=>whnf
  intro ρe we re
  exact⟨_,rfl,hw.tr re.bel,by show Value.int .i64 _=_;rw[errT,if_neg h0,if_pos (by omega)]⟩
 have h1:=of_decide_eq_false h1
 replace hl:=hl (by omega)
 conv=>whnf
 refine⟨Nat×World×Iv,fun z=>⟨[(0,.o (.v (.slice a l.length c))),(3,.o (.v (.int .i64 ((z.1:Nat):Int))))],[],0,z.2.2,z.2.1⟩,fun z=>l.length-z.1,
  fun z=>(1≤z.1∧z.1≤l.length)∧Bel w.heap.size w z.2.1∧errT l=firstE stpE (l.take z.1) (l.drop z.1),?_,?_⟩
 ·intro ρ w' r3
  exact⟨(1,w',[]),⟨⟨Nat.le_refl _,by omega⟩,hw.tr r3.bel,by rw[errT,if_neg h0,if_neg (by omega)]⟩,Sub.gen [] r3 trivial ⟨rfl,rfl,trivial⟩ (by simp[ScH,Blk.scopd,At.sc]) (by simp[ScE,SV.sc,At.sc,initE]) (by rfl) (fun lo hi h=>h)⟩
 clear hw
 rintro⟨i,w1,iv⟩ ⟨⟨hi1,hi⟩,hw,hE⟩
 dsimp only at hi1 hi hw hE ⊢
 conv=>whnf
 refine BrS.mk (fun hib=>?_) (fun hib=>?_)
 ·have hib:i<l.length:=by simpa using hib
  obtain⟨q,hq⟩:∃q,l[i]? =some q:=⟨_,List.getElem?_eq_getElem hib⟩
  obtain⟨m,hm1⟩:∃m,i=m+1:=⟨i-1,by omega⟩
  obtain⟨p,hp⟩:∃p,l[m]? =some p:=⟨_,List.getElem?_eq_getElem (by omega)⟩
  have hse:stpE (l.take i) q=if q.1≤p.1 then 10 else 0:=by rw[hm1];exact stpE_at hp q
  obtain⟨adx,csx,hax,hFx,-,hlx⟩:=hl.load (by decide) hq
  obtain⟨b0x,a0x,n0x,c0x,b1x,a1x,n1x,c1x,b2x,a2x,n2x,c2x,b3x,a3x,n3x,c3x,rfl,hAx,hVx⟩:=hFx
  obtain⟨ady,csy,hay,hFy,-,hly⟩:=hl.load (by decide) hp
  obtain⟨b0y,a0y,n0y,c0y,b1y,a1y,n1y,c1y,b2y,a2y,n2y,c2y,b3y,a3y,n3y,c3y,rfl,hAy,hVy⟩:=hFy
  conv=>whnf
  refine drawn_of_pi hτ hmix [.x 0,.x 1,.x 2,.x 3,.x 4,.x 5,.x 6,.x 7,.x 8,.x 9,.x 10,.x 11,.x 12] (by kernel_rfl) (by kernel_rfl) ?_
  conv=>whnf
  refine⟨adx,hax,⟨by omega,by omega⟩,?_⟩
  conv=>whnf
  refine⟨[.bool b0x,.slice a0x n0x c0x,.bool b1x,.slice a1x n1x c1x],rfl,fun ρ w' r j u hu=>?_,?_⟩
  ·have hj4:=(List.getElem?_eq_some_iff.1 hu).1
   obtain⟨k1,k2⟩:=hlx (0+j) u (by rcases j with _|_|_|_|j<;>first|exact hu|(have:j+4<4:=hj4;omega))
   rw[cell_of_heap (w:=w) (w2:=w') (by simp only[addB];exact(hw.tr r.bel).block _ (hS _ k1))]
   simp only[Int.toNat_natCast,Int.toNat_zero,Nat.zero_mul,addA]at k2 ⊢
   first|exact k2|(rw [←k2];congr 2;omega)
  conv=>whnf
  refine⟨(m:Int),by rw[wrap64]<;>omega,?_⟩
  conv=>whnf
  refine⟨ady,hay,⟨by omega,by omega⟩,?_⟩
  conv=>whnf
  refine⟨[.bool b0y,.slice a0y n0y c0y,.bool b1y,.slice a1y n1y c1y],rfl,fun ρ w' r j u hu=>?_,?_⟩
  ·have hj4:=(List.getElem?_eq_some_iff.1 hu).1
   obtain⟨k1,k2⟩:=hly (0+j) u (by rcases j with _|_|_|_|j<;>first|exact hu|(have:j+4<4:=hj4;omega))
   rw[cell_of_heap (w:=w) (w2:=w') (by simp only[addB];exact(hw.tr r.bel).block _ (hS _ k1))]
   simp only[Int.toNat_natCast,Int.toNat_zero,Nat.zero_mul,addA]at k2 ⊢
   first|exact k2|(rw [←k2];congr 2;omega)
  conv=>whnf
  refine callE_con (Φ:=fun _ w' v w2=>v= .int .i64 (rs (q.1-p.1))) (fun ρ w' r=>rCmp_c (fun g hg=>by have:=hS g hg;have:=r.baseLe;omega) (hAx.1.keep fun g hg=>(hw.tr r.bel).block g (hS g hg)) (hAy.1.keep fun g hg=>(hw.tr r.bel).block g (hS g hg))) ?_
  rintro ρ wa1 v1 wb1 r he hb rfl
  replace hw:=hw.tr hb
  clear r he hb
  generalize (wa1.heap.size,wb1.heap.size)::iv=iv1 at*
  obtain⟨cf,hcf⟩:∃c,rs (q.1-p.1)=c:=⟨_,rfl⟩
  rw[hcf]
  conv=>whnf
  refine BrS.mk (fun hd=>?_) (fun hd=>?_)
  ·have hd:q.1≤p.1:=by have:=of_decide_eq_true hd;rw[←rs_le_iff];omega
   conv=>whnf
   intro ρe we re
   exact⟨_,rfl,hw.tr re.bel,by show Value.int .i64 _=_;rw[hE,firstE_ret hq (by rw[hse,if_pos hd]) (by decide)]⟩
  have hd:¬q.1≤p.1:=by have:=of_decide_eq_false hd;rw[←rs_le_iff];omega
  rw[firstE_step hq (by rw[hse,if_neg hd])]at hE
  conv=>whnf
  refine⟨((i+1:Nat):Int),by rw[wrap64]<;>omega,?_⟩
  conv=>whnf
  intro ρ3 w6 r3
  exact⟨(i+1,w6,_),⟨⟨by dsimp only;omega,hib⟩,hw.tr r3.bel,hE⟩,Sub.gen [] r3 trivial ⟨rfl,rfl,trivial⟩ (by simp[ScH,Blk.scopd,At.sc]) (by simp[ScE,SV.sc,At.sc,initE]) (by rfl) (fun lo hi h=>h),by dsimp only;omega⟩
 have hib:i=l.length:=Nat.le_antisymm hi (by simpa using hib)
 rw[firstE_end (by omega)]at hE
 conv=>whnf
 intro ρe we re
 exact⟨_,rfl,hw.tr re.bel,by show Value.int .i64 _=_;rw[hE]⟩
set_option maxHeartbeats 1000000 in
theorem rInterpolate_c{S:Nat→Prop}{w:World}{v u:Value}{l:List (Rat×Rat)}{x:Rat}(hS:Old S w)(hl:StepsL w S v l)(hx:RatL w S u x)(hxs:rl x≤3)(h0:l≠[]):Con PG N.ref05_Interpolate #[v,u] w (Ret w fun v' w2=>RatC w2 (Nw (fun _=>False) w w2) v' (valF x l)):=by
 have hw:Bel w.heap.size w w:=Bel.refl
 obtain⟨a,c,rfl,hc,hm⟩:=hl.shape
 unfold maxLen at hm
 obtain⟨x0,x1,x2,x3,x4,x5,x6,x7,rfl⟩:=hx.shape
 have h1:0<l.length:=by cases l with|nil=>exact absurd rfl h0|cons _ _=>simp
 obtain⟨q0,hq0⟩:∃q,l[0]? =some q:=⟨_,List.getElem?_eq_getElem h1⟩
 obtain⟨adz,csz,haz,hFz,-,hlz⟩:=hl.load (by decide) hq0
 obtain⟨b0z,a0z,n0z,c0z,b1z,a1z,n1z,c1z,b2z,a2z,n2z,c2z,b3z,a3z,n3z,c3z,rfl,hAz,hVz⟩:=hFz
 refine in_ref05_Interpolate (by simp) ?_
 conv=>whnf
 refine drawn_of_pi hτ hmix [.x 0,.x 1,.x 2,.x 3,.x 4,.x 5,.x 6] (by kernel_rfl) (by kernel_rfl) ?_
 conv=>whnf
 refine⟨adz,haz,⟨by omega,by omega⟩,?_⟩
 conv=>whnf
 refine⟨[.bool b0z,.slice a0z n0z c0z,.bool b1z,.slice a1z n1z c1z],rfl,fun ρ w' r j u hu=>?_,?_⟩
 ·have hj4:=(List.getElem?_eq_some_iff.1 hu).1
  obtain⟨k1,k2⟩:=hlz (0+j) u (by rcases j with _|_|_|_|j<;>first|exact hu|(have:j+4<4:=hj4;omega))
  rw[cell_of_heap (w:=w) (w2:=w') (by simp only[addB];exact(hw.tr r.bel).block _ (hS _ k1))]
  simp only[Int.toNat_natCast,Int.toNat_zero,Nat.zero_mul,addA]at k2 ⊢
  first|exact k2|(rw [←k2];congr 2;omega)
 conv=>whnf
 refine callE_con (Φ:=fun _ w' v w2=>v= .int .i64 (rs (x-q0.1))) (fun ρ w' r=>rCmp_c (fun g hg=>by have:=hS g hg;have:=r.baseLe;omega) (hx.keep fun g hg=>(hw.tr r.bel).block g (hS g hg)) (hAz.1.keep fun g hg=>(hw.tr r.bel).block g (hS g hg))) ?_
 rintro ρ wa1 v1 wb1 r he hb rfl
 replace hw:=hw.tr hb
 clear r he hb
 generalize (wa1.heap.size,wb1.heap.size)::[]=iv1 at*
 obtain⟨cf,hcf⟩:∃c,rs (x-q0.1)=c:=⟨_,rfl⟩
 rw[hcf]
 conv=>whnf
 refine BrS.mk (fun hd=>?_) (fun hd=>?_)
 ·have hd:x≤q0.1:=by have:=of_decide_eq_true hd;rw[←rs_le_iff];omega
  have hv:=valF_first hq0 hd
  conv=>whnf
  refine⟨adz,haz,⟨by omega,by omega⟩,?_⟩
  conv=>whnf
  refine⟨[.bool b2z,.slice a2z n2z c2z,.bool b3z,.slice a3z n3z c3z],rfl,fun ρ w' r j u hu=>?_,?_⟩
  ·have hj4:=(List.getElem?_eq_some_iff.1 hu).1
   obtain⟨k1,k2⟩:=hlz (4+j) u (by rcases j with _|_|_|_|j<;>first|exact hu|(have:j+4<4:=hj4;omega))
   rw[cell_of_heap (w:=w) (w2:=w') (by simp only[addB];exact(hw.tr r.bel).block _ (hS _ k1))]
   simp only[Int.toNat_natCast,Int.toNat_zero,Nat.zero_mul,addA]at k2 ⊢
   first|exact k2|(rw [←k2];congr 2;omega)
  conv=>whnf
  refine callE_S (callE_con (Φ:=fun _ w' v w2=>RatC w2 (Nw (fun _=>False) w' w2) v (q0.2)) (fun ρ w' r=>rNormal_c (fun g hg=>by have:=hS g hg;have:=r.baseLe;omega) (hVz.1.keep fun g hg=>(hw.tr r.bel).block g (hS g hg))) ?_)
  rintro ρ wa2 v2 wb2 r he hb hn
  replace hw:=hw.tr hb
  have hn9:=hn.got (S:=fun _=>False) r.baseLe (iv:=(wa2.heap.size,wb2.heap.size)::iv1) List.mem_cons_self
  clear r he hb hn
  generalize (wa2.heap.size,wb2.heap.size)::iv1=iv2 at*
  obtain⟨s2_0,s2_1,s2_2,s2_3,s2_4,s2_5,s2_6,s2_7,rfl⟩:=hn9.shape
  conv=>whnf
  intro ρe we re
  exact⟨_,rfl,hw.tr re.bel,by rw[hv];exact hn9.out re (oldF w)⟩
 have hd:¬x≤q0.1:=by have:=of_decide_eq_false hd;rw[←rs_le_iff];omega
 have hv:=valF_rest hq0 hd
 conv=>whnf
 refine⟨Nat×World×Iv,fun z=>⟨[(0,.o (.v (.slice a l.length c))),(3,.o (.p 0 0)),(4,.o (.p 1 0)),(5,.o (.v (.int .i64 ((z.1:Nat):Int))))],[(1,.box T.Rat [.v (.bool false),.v (.slice none 0 0),.v (.bool false),.v (.slice none 0 0)]),(0,.box T.Rat [.v (.bool x0),.v (.slice x1 x2 x3),.v (.bool x4),.v (.slice x5 x6 x7)])],2,z.2.2,z.2.1⟩,fun z=>l.length-z.1,
  fun z=>(1≤z.1∧z.1≤l.length)∧Bel w.heap.size w z.2.1∧∀p,l[z.1-1]? =some p→p.1<x∧valF x l=interpF x p (l.drop z.1),?_,?_⟩
 ·intro ρ w' r3
  exact⟨(1,w',_),⟨⟨Nat.le_refl _,h1⟩,hw.tr r3.bel,fun p hp=>by dsimp only at hp ⊢;rw[Nat.sub_self,hq0]at hp;injection hp with hp;subst hp;exact⟨Rat.not_le.1 hd,hv⟩⟩,Sub.gen [] r3 ⟨rfl,rfl,trivial⟩ ⟨rfl,rfl,rfl,rfl,trivial⟩ (by simp[ScH,Blk.scopd,At.sc]) (by simp[ScE,SV.sc,At.sc,initE]) (by rfl) (fun lo hi h=>h)⟩
 clear hw
 rintro⟨i,w1,iv⟩ ⟨⟨hi1,hi⟩,hw,hE⟩
 dsimp only at hi1 hi hw hE ⊢
 obtain⟨m,hm1⟩:∃m,i=m+1:=⟨i-1,by omega⟩
 obtain⟨p,hp⟩:∃p,l[m]? =some p:=⟨_,List.getElem?_eq_getElem (by omega)⟩
 obtain⟨hpx,hE⟩:=hE p (by rw[hm1,Nat.add_sub_cancel];exact hp)
 conv=>whnf
 refine BrS.mk (fun hib=>?_) (fun hib=>?_)
 ·have hib:i<l.length:=by simpa using hib
  obtain⟨q,hq⟩:∃q,l[i]? =some q:=⟨_,List.getElem?_eq_getElem hib⟩
  obtain⟨adx,csx,hax,hFx,-,hlx⟩:=hl.load (by decide) hq
  obtain⟨b0x,a0x,n0x,c0x,b1x,a1x,n1x,c1x,b2x,a2x,n2x,c2x,b3x,a3x,n3x,c3x,rfl,hAx,hVx⟩:=hFx
  obtain⟨ady,csy,hay,hFy,-,hly⟩:=hl.load (by decide) hp
  obtain⟨b0y,a0y,n0y,c0y,b1y,a1y,n1y,c1y,b2y,a2y,n2y,c2y,b3y,a3y,n3y,c3y,rfl,hAy,hVy⟩:=hFy
  conv=>whnf
  refine drawn_of_pi hτ hmix [.x 0,.x 1,.x 2,.x 3,.x 4,.x 5,.x 6,.x 7] (by kernel_rfl) (by kernel_rfl) ?_
  conv=>whnf
  refine⟨adx,hax,⟨by omega,by omega⟩,?_⟩
  conv=>whnf
  refine⟨[.bool b0x,.slice a0x n0x c0x,.bool b1x,.slice a1x n1x c1x],rfl,fun ρ w' r j u hu=>?_,?_⟩
  ·have hj4:=(List.getElem?_eq_some_iff.1 hu).1
   obtain⟨k1,k2⟩:=hlx (0+j) u (by rcases j with _|_|_|_|j<;>first|exact hu|(have:j+4<4:=hj4;omega))
   rw[cell_of_heap (w:=w) (w2:=w') (by simp only[addB];exact(hw.tr r.bel).block _ (hS _ k1))]
   simp only[Int.toNat_natCast,Int.toNat_zero,Nat.zero_mul,addA]at k2 ⊢
   first|exact k2|(rw [←k2];congr 2;omega)
  conv=>whnf
  refine callE_con (Φ:=fun _ w' v w2=>v= .int .i64 (rs (x-q.1))) (fun ρ w' r=>rCmp_c (fun g hg=>by have:=hS g hg;have:=r.baseLe;omega) (hx.keep fun g hg=>(hw.tr r.bel).block g (hS g hg)) (hAx.1.keep fun g hg=>(hw.tr r.bel).block g (hS g hg))) ?_
  rintro ρ wa11 v11 wb11 r he hb rfl
  replace hw:=hw.tr hb
  clear r he hb
  generalize (wa11.heap.size,wb11.heap.size)::iv=iv11 at*
  obtain⟨cf,hcf⟩:∃c,rs (x-q.1)=c:=⟨_,rfl⟩
  rw[hcf]
  conv=>whnf
  refine BrS.mk (fun hd2=>?_) (fun hd2=>?_)
  ·have hd2:x≤q.1:=by have:=of_decide_eq_true hd2;rw[←rs_le_iff];omega
   rw[interpF_hit hq hd2]at hE
   have hne:q.1-p.1≠0:=by intro h;grind
   have g1:=rl_sub x p.1
   have g2:=rl_sub q.1 p.1
   have g3:=rl_div (x-p.1) hne
   have g4:=rl_sub q.2 p.2
   have g5:=rl_mul ((x-p.1) / (q.1-p.1)) (q.2-p.2)
   have g6:=hAx.2
   have g7:=hAy.2
   have g8:=hVx.2
   have g9:=hVy.2
   conv=>whnf
   refine drawn_of_pi hτ hmix [.x 0,.x 1,.x 2,.x 3,.x 4,.x 5,.x 6,.x 8,.x 9,.x 10,.x 11,.x 12,.x 13,.x 14,.x 15,.x 16,.x 17,.x 18,.p 24,.x 7,.x 19,.x 20,.x 21,.x 22,.x 23,.x 24,.x 25,.x 26] (by kernel_rfl) (by kernel_rfl) ?_
   conv=>whnf
   refine⟨(m:Int),by rw[wrap64]<;>omega,?_⟩
   conv=>whnf
   refine⟨ady,hay,⟨by omega,by omega⟩,?_⟩
   conv=>whnf
   refine⟨[.bool b0y,.slice a0y n0y c0y,.bool b1y,.slice a1y n1y c1y],rfl,fun ρ w' r j u hu=>?_,?_⟩
   ·have hj4:=(List.getElem?_eq_some_iff.1 hu).1
    obtain⟨k1,k2⟩:=hly (0+j) u (by rcases j with _|_|_|_|j<;>first|exact hu|(have:j+4<4:=hj4;omega))
    rw[cell_of_heap (w:=w) (w2:=w') (by simp only[addB];exact(hw.tr r.bel).block _ (hS _ k1))]
    simp only[Int.toNat_natCast,Int.toNat_zero,Nat.zero_mul,addA]at k2 ⊢
    first|exact k2|(rw [←k2];congr 2;omega)
   conv=>whnf
   refine⟨adx,hax,⟨by omega,by omega⟩,?_⟩
   conv=>whnf
   refine⟨[.bool b0x,.slice a0x n0x c0x,.bool b1x,.slice a1x n1x c1x],rfl,fun ρ w' r j u hu=>?_,?_⟩
   ·have hj4:=(List.getElem?_eq_some_iff.1 hu).1
    obtain⟨k1,k2⟩:=hlx (0+j) u (by rcases j with _|_|_|_|j<;>first|exact hu|(have:j+4<4:=hj4;omega))
    rw[cell_of_heap (w:=w) (w2:=w') (by simp only[addB];exact(hw.tr r.bel).block _ (hS _ k1))]
    simp only[Int.toNat_natCast,Int.toNat_zero,Nat.zero_mul,addA]at k2 ⊢
    first|exact k2|(rw [←k2];congr 2;omega)
   conv=>whnf
   refine⟨(m:Int),by rw[wrap64]<;>omega,?_⟩
   conv=>whnf
   refine⟨ady,hay,⟨by omega,by omega⟩,?_⟩
   conv=>whnf
   refine⟨[.bool b0y,.slice a0y n0y c0y,.bool b1y,.slice a1y n1y c1y],rfl,fun ρ w' r j u hu=>?_,?_⟩
   ·have hj4:=(List.getElem?_eq_some_iff.1 hu).1
    obtain⟨k1,k2⟩:=hly (0+j) u (by rcases j with _|_|_|_|j<;>first|exact hu|(have:j+4<4:=hj4;omega))
    rw[cell_of_heap (w:=w) (w2:=w') (by simp only[addB];exact(hw.tr r.bel).block _ (hS _ k1))]
    simp only[Int.toNat_natCast,Int.toNat_zero,Nat.zero_mul,addA]at k2 ⊢
    first|exact k2|(rw [←k2];congr 2;omega)
   conv=>whnf
   refine callE_con (Φ:=fun _ w' v w2=>RatC w2 (Nw (fun _=>False) w' w2) v (x-p.1)) (fun ρ w' r=>rSub_c (fun g hg=>by have:=hS g hg;have:=r.baseLe;omega) (hx.keep fun g hg=>(hw.tr r.bel).block g (hS g hg)) (hAy.1.keep fun g hg=>(hw.tr r.bel).block g (hS g hg))) ?_
   rintro ρ wa12 v12 wb12 r he hb hn
   replace hw:=hw.tr hb
   have hr1:=hn.got (S:=fun _=>False) r.baseLe (iv:=(wa12.heap.size,wb12.heap.size)::iv11) List.mem_cons_self
   clear r he hb hn
   generalize (wa12.heap.size,wb12.heap.size)::iv11=iv12 at*
   obtain⟨s12_0,s12_1,s12_2,s12_3,s12_4,s12_5,s12_6,s12_7,rfl⟩:=hr1.shape
   conv=>whnf
   refine callE_con (Φ:=fun _ w' v w2=>RatC w2 (Nw (fun _=>False) w' w2) v (q.1-p.1)) (fun ρ w' r=>rSub_c (fun g hg=>by have:=hS g hg;have:=r.baseLe;omega) (hAx.1.keep fun g hg=>(hw.tr r.bel).block g (hS g hg)) (hAy.1.keep fun g hg=>(hw.tr r.bel).block g (hS g hg))) ?_
   rintro ρ wa13 v13 wb13 r he hb hn
   replace hw:=hw.tr hb
   replace hr1:=hr1.past (iv':=(wa13.heap.size,wb13.heap.size)::iv12) r (oldF w) he fun x hx=>List.mem_cons_of_mem _ hx
   have hr2:=hn.got (S:=fun _=>False) r.baseLe (iv:=(wa13.heap.size,wb13.heap.size)::iv12) List.mem_cons_self
   clear r he hb hn
   generalize (wa13.heap.size,wb13.heap.size)::iv12=iv13 at*
   obtain⟨s13_0,s13_1,s13_2,s13_3,s13_4,s13_5,s13_6,s13_7,rfl⟩:=hr2.shape
   conv=>whnf
   refine callE_con (Φ:=fun _ w' v w2=>∃r,v= .tuple #[r,.int .i64 0]∧RatC w2 (Nw (fun _=>False) w' w2) r ((x-p.1) / (q.1-p.1))) (fun ρ w' r=>(rQuo_c (Rel.old r (oldF w)) ((hr1.rel r (oldF w)).l (by omega)) ((hr2.rel r (oldF w)).l (by omega))).mono fun _ _ ⟨v2,e1,e2,e3⟩=>⟨v2,e1,e2,e3.elim (fun h=>absurd h.1 hne) fun h=>h.2⟩) ?_
   rintro ρ wa14 v14 wb14 r he hb ⟨pt,rfl,hn⟩
   replace hw:=hw.tr hb
   clear hr1
   clear hr2
   have hr3:=hn.got (S:=fun _=>False) r.baseLe (iv:=(wa14.heap.size,wb14.heap.size)::iv13) List.mem_cons_self
   clear r he hb
   generalize (wa14.heap.size,wb14.heap.size)::iv13=iv14 at*
   obtain⟨s14_0a,s14_0b,s14_0c,s14_0d,s14_0e,s14_0f,s14_0g,s14_0h,rfl⟩:=hr3.shape
   clear hn
   conv=>whnf
   refine drawn_of_pi hτ hmix [.x 0,.x 1,.x 2,.x 3,.x 4,.x 5,.x 6,.x 7,.x 8,.x 9,.x 10,.x 11,.x 12,.x 13,.x 14,.x 15,.x 16,.x 17,.x 18,.x 19,.x 20,.x 21] (by kernel_rfl) (by kernel_rfl) ?_
   conv=>whnf
   refine⟨(m:Int),by rw[wrap64]<;>omega,?_⟩
   conv=>whnf
   refine⟨ady,hay,⟨by omega,by omega⟩,?_⟩
   conv=>whnf
   refine⟨[.bool b2y,.slice a2y n2y c2y,.bool b3y,.slice a3y n3y c3y],rfl,fun ρ w' r j u hu=>?_,?_⟩
   ·have hj4:=(List.getElem?_eq_some_iff.1 hu).1
    obtain⟨k1,k2⟩:=hly (4+j) u (by rcases j with _|_|_|_|j<;>first|exact hu|(have:j+4<4:=hj4;omega))
    rw[cell_of_heap (w:=w) (w2:=w') (by simp only[addB];exact(hw.tr r.bel).block _ (hS _ k1))]
    simp only[Int.toNat_natCast,Int.toNat_zero,Nat.zero_mul,addA]at k2 ⊢
    first|exact k2|(rw [←k2];congr 2;omega)
   conv=>whnf
   refine⟨adx,hax,⟨by omega,by omega⟩,?_⟩
   conv=>whnf
   refine⟨[.bool b2x,.slice a2x n2x c2x,.bool b3x,.slice a3x n3x c3x],rfl,fun ρ w' r j u hu=>?_,?_⟩
   ·have hj4:=(List.getElem?_eq_some_iff.1 hu).1
    obtain⟨k1,k2⟩:=hlx (4+j) u (by rcases j with _|_|_|_|j<;>first|exact hu|(have:j+4<4:=hj4;omega))
    rw[cell_of_heap (w:=w) (w2:=w') (by simp only[addB];exact(hw.tr r.bel).block _ (hS _ k1))]
    simp only[Int.toNat_natCast,Int.toNat_zero,Nat.zero_mul,addA]at k2 ⊢
    first|exact k2|(rw [←k2];congr 2;omega)
   conv=>whnf
   refine⟨(m:Int),by rw[wrap64]<;>omega,?_⟩
   conv=>whnf
   refine⟨ady,hay,⟨by omega,by omega⟩,?_⟩
   conv=>whnf
   refine⟨[.bool b2y,.slice a2y n2y c2y,.bool b3y,.slice a3y n3y c3y],rfl,fun ρ w' r j u hu=>?_,?_⟩
   ·have hj4:=(List.getElem?_eq_some_iff.1 hu).1
    obtain⟨k1,k2⟩:=hly (4+j) u (by rcases j with _|_|_|_|j<;>first|exact hu|(have:j+4<4:=hj4;omega))
    rw[cell_of_heap (w:=w) (w2:=w') (by simp only[addB];exact(hw.tr r.bel).block _ (hS _ k1))]
    simp only[Int.toNat_natCast,Int.toNat_zero,Nat.zero_mul,addA]at k2 ⊢
    first|exact k2|(rw [←k2];congr 2;omega)
   conv=>whnf
   refine callE_con (Φ:=fun _ w' v w2=>RatC w2 (Nw (fun _=>False) w' w2) v (q.2-p.2)) (fun ρ w' r=>rSub_c (fun g hg=>by have:=hS g hg;have:=r.baseLe;omega) (hVx.1.keep fun g hg=>(hw.tr r.bel).block g (hS g hg)) (hVy.1.keep fun g hg=>(hw.tr r.bel).block g (hS g hg))) ?_
   rintro ρ wa15 v15 wb15 r he hb hn
   replace hw:=hw.tr hb
   replace hr3:=hr3.past (iv':=(wa15.heap.size,wb15.heap.size)::iv14) r (oldF w) he fun x hx=>List.mem_cons_of_mem _ hx
   have hr4:=hn.got (S:=fun _=>False) r.baseLe (iv:=(wa15.heap.size,wb15.heap.size)::iv14) List.mem_cons_self
   clear r he hb hn
   generalize (wa15.heap.size,wb15.heap.size)::iv14=iv15 at*
   obtain⟨s15_0,s15_1,s15_2,s15_3,s15_4,s15_5,s15_6,s15_7,rfl⟩:=hr4.shape
   conv=>whnf
   refine callE_con (Φ:=fun _ w' v w2=>RatC w2 (Nw (fun _=>False) w' w2) v ((x-p.1) / (q.1-p.1)*(q.2-p.2))) (fun ρ w' r=>rMul_c (Rel.old r (oldF w)) ((hr3.rel r (oldF w)).l (by omega)) ((hr4.rel r (oldF w)).l (by omega))) ?_
   rintro ρ wa16 v16 wb16 r he hb hn
   replace hw:=hw.tr hb
   clear hr3
   clear hr4
   have hr5:=hn.got (S:=fun _=>False) r.baseLe (iv:=(wa16.heap.size,wb16.heap.size)::iv15) List.mem_cons_self
   clear r he hb hn
   generalize (wa16.heap.size,wb16.heap.size)::iv15=iv16 at*
   obtain⟨s16_0,s16_1,s16_2,s16_3,s16_4,s16_5,s16_6,s16_7,rfl⟩:=hr5.shape
   conv=>whnf
   refine callE_con (Φ:=fun _ w' v w2=>RatC w2 (Nw (fun _=>False) w' w2) v (p.2+(x-p.1) / (q.1-p.1)*(q.2-p.2))) (fun ρ w' r=>rAdd_c (S:=fun g=>S g∨Cv (fun _=>False) w.heap.size iv16 g) (fun g hg=>hg.elim (fun hg=>by have:=hS g hg;have:=r.baseLe;omega) (Rel.old r (oldF w) g)) (RatL.weak (hVy.1.keep fun g hg=>(hw.tr r.bel).block g (hS g hg)) fun g hg=>.inl hg) (((hr5.rel r (oldF w)).l (by omega)).weak fun g hg=>.inr hg)) ?_
   rintro ρ wa17 v17 wb17 r he hb hn
   replace hw:=hw.tr hb
   clear hr5
   have hn9:=hn.got (S:=fun _=>False) r.baseLe (iv:=(wa17.heap.size,wb17.heap.size)::iv16) List.mem_cons_self
   clear r he hb hn
   generalize (wa17.heap.size,wb17.heap.size)::iv16=iv17 at*
   obtain⟨s17_0,s17_1,s17_2,s17_3,s17_4,s17_5,s17_6,s17_7,rfl⟩:=hn9.shape
   conv=>whnf
   intro ρe we re
   exact⟨_,rfl,hw.tr re.bel,by rw[hE];exact hn9.out re (oldF w)⟩
  ·have hd2:¬x≤q.1:=by have:=of_decide_eq_false hd2;rw[←rs_le_iff];omega
   rw[interpF_miss hq hd2]at hE
   conv=>whnf
   refine⟨((i+1:Nat):Int),by rw[wrap64]<;>omega,?_⟩
   conv=>whnf
   intro ρ3 w6 r3
   exact⟨(i+1,w6,_),⟨⟨by dsimp only;omega,hib⟩,hw.tr r3.bel,fun p2 hp2=>by dsimp only at hp2 ⊢;rw[Nat.add_sub_cancel,hq]at hp2;injection hp2 with hp2;subst hp2;exact⟨Rat.not_le.1 hd2,hE⟩⟩,Sub.gen [] r3 ⟨rfl,rfl,trivial⟩ ⟨rfl,rfl,rfl,rfl,trivial⟩ (by simp[ScH,Blk.scopd,At.sc]) (by simp[ScE,SV.sc,At.sc,initE]) (by rfl) (fun lo hi h=>h),by dsimp only;omega⟩
 have hib:i=l.length:=Nat.le_antisymm hi (by simpa using hib)
 rw[hib,interpF_end]at hE
 obtain⟨ady,csy,hay,hFy,-,hly⟩:=hl.load (by decide) hp
 obtain⟨b0y,a0y,n0y,c0y,b1y,a1y,n1y,c1y,b2y,a2y,n2y,c2y,b3y,a3y,n3y,c3y,rfl,hAy,hVy⟩:=hFy
 conv=>whnf
 refine⟨(m:Int),by rw[wrap64]<;>omega,?_⟩
 conv=>whnf
 refine⟨ady,hay,⟨by omega,by omega⟩,?_⟩
 conv=>whnf
 refine⟨[.bool b2y,.slice a2y n2y c2y,.bool b3y,.slice a3y n3y c3y],rfl,fun ρ w' r j u hu=>?_,?_⟩
 ·have hj4:=(List.getElem?_eq_some_iff.1 hu).1
  obtain⟨k1,k2⟩:=hly (4+j) u (by rcases j with _|_|_|_|j<;>first|exact hu|(have:j+4<4:=hj4;omega))
  rw[cell_of_heap (w:=w) (w2:=w') (by simp only[addB];exact(hw.tr r.bel).block _ (hS _ k1))]
  simp only[Int.toNat_natCast,Int.toNat_zero,Nat.zero_mul,addA]at k2 ⊢
  first|exact k2|(rw [←k2];congr 2;omega)
 conv=>whnf
 refine callE_S (callE_con (Φ:=fun _ w' v w2=>RatC w2 (Nw (fun _=>False) w' w2) v (p.2)) (fun ρ w' r=>rNormal_c (fun g hg=>by have:=hS g hg;have:=r.baseLe;omega) (hVy.1.keep fun g hg=>(hw.tr r.bel).block g (hS g hg))) ?_)
 rintro ρ wa41 v41 wb41 r he hb hn
 replace hw:=hw.tr hb
 have hn9:=hn.got (S:=fun _=>False) r.baseLe (iv:=(wa41.heap.size,wb41.heap.size)::iv) List.mem_cons_self
 clear r he hb hn
 generalize (wa41.heap.size,wb41.heap.size)::iv=iv41 at*
 obtain⟨s41_0,s41_1,s41_2,s41_3,s41_4,s41_5,s41_6,s41_7,rfl⟩:=hn9.shape
 conv=>whnf
 intro ρe we re
 exact⟨_,rfl,hw.tr re.bel,by rw[hE];exact hn9.out re (oldF w)⟩
end Go.Ex

/- StaticsTables of the laws of chapter 5. Printed by program. No condition. -/
namespace Go.Ex
open Go Go.Sx Go.Proofs

theorem StepsL.small{w:World}{S:Nat→Prop}{v:Value}{l:List (Rat×Rat)}(h:StepsL w S v l):∀q∈l,rl q.1≤3∧rl q.2≤3:=fun q hq=>by
 obtain⟨j,hj⟩:=List.getElem?_of_mem hq
 obtain⟨css,h1,h2,h3,h4⟩:=h
 obtain⟨cs,hcs⟩:∃cs,css[j]? =some cs:=⟨_,List.getElem?_eq_getElem (by rw[h2];exact(List.getElem?_eq_some_iff.1 hj).1)⟩
 obtain⟨_,_,_,_,_,_,_,_,_,_,_,_,_,_,_,_,_,k1,k2⟩:=h4 j cs q hcs hj
 exact⟨k1.2,k2.2⟩
theorem interpF_rl{x:Rat}(hx:rl x≤3):∀(r:List (Rat×Rat)) (a:Rat×Rat),a.1<x→(∀q∈a::r,rl q.1≤3∧rl q.2≤3)→rl (interpF x a r)≤100
 |[],a,_,h=>by have:=(h a List.mem_cons_self).2;rw[interpF];omega
 |b::r,a,hax,h=>by
  rw[interpF]
  split<;>rename_i hb
  ·have hne:b.1-a.1≠0:=by intro e;grind
   have h1:=h a List.mem_cons_self
   have h2:=h b (List.mem_cons_of_mem _ List.mem_cons_self)
   have g1:=rl_sub x a.1
   have g2:=rl_sub b.1 a.1
   have g3:=rl_div (x-a.1) hne
   have g4:=rl_sub b.2 a.2
   have g5:=rl_mul ((x-a.1) / (b.1-a.1)) (b.2-a.2)
   have g6:=rl_add a.2 ((x-a.1) / (b.1-a.1)*(b.2-a.2))
   omega
  ·exact interpF_rl hx r b (Rat.not_le.1 hb) fun q hq=>h q (List.mem_cons_of_mem _ hq)
theorem valF_rl{x:Rat}{l:List (Rat×Rat)}(hx:rl x≤3)(h:∀q∈l,rl q.1≤3∧rl q.2≤3)(h0:l≠[]):rl (valF x l)≤100:=by
 cases l with
 |nil=>exact absurd rfl h0
 |cons a r=>
  rw[valF]
  split<;>rename_i hb
  ·have:=(h a List.mem_cons_self).2;omega
  ·exact interpF_rl hx r a (Rat.not_le.1 hb) h
theorem StepW.keep{w w2:World}{S:Nat→Prop}{cs:List Value}{p:(Int×Int)×(Int×Int)}(h:StepW w S cs p)(hk:∀g,S g→w2.heap[g]? =w.heap[g]?):StepW w2 S cs p:=by
 obtain⟨b0,a0,n0,c0,b1,a1,n1,c1,b2,a2,n2,c2,b3,a3,n3,c3,h1,h2,h3⟩:=h
 exact⟨b0,a0,n0,c0,b1,a1,n1,c1,b2,a2,n2,c2,b3,a3,n3,c3,h1,h2.keep hk,h3.keep hk⟩
theorem steps_c'{S:Nat→Prop}{w w1 w':World}{H:Hp}{nx:Nat}{iv:Iv}{ρ:Nat→Sx.Val}{v:Value}{xs:List ((Int×Int)×(Int×Int))}(hS:Old S w)(hw:Bel w.heap.size w w1)(r:Rel H nx iv w.heap.size w1 ρ w')(hq:StepsW w S v xs):
  Con PG N.law05_steps #[v] w' (Ret w' fun v' _=>∃d,v'= .bool d∧(d=true→(xs.length≤6∨100<xs.length)∧(xs.length≤6→StepsL w S v (xs.map stepV)))):=
 have hk:∀g,S g→w'.heap[g]? =w.heap[g]? :=fun g hg=>(hw.tr r.bel).block g (hS g hg)
 (steps_c (S:=S) (fun g hg=>by have:=hS g hg;have:=r.baseLe;omega) (ListK.keep (P:=StepW) (fun cs p h=>StepW.keep h hk) hq hk)).mono fun _ _ ⟨v2,e1,e2,d,e3,e4⟩=>⟨v2,e1,e2,d,e3,fun h=>⟨(e4 h).1,fun h6=>StepsL.keep ((e4 h).2 h6) fun g hg=>(hk g hg).symm⟩⟩
set_option maxHeartbeats 1000000 in
theorem staticsTables_c{S:Nat→Prop}{w:World}{v:Value}{xs:List ((Int×Int)×(Int×Int))}{x0 x4:Bool}{x1 x5:Option Addr}{x2 x3 x6 x7:Nat}{p1 p2:Int}(hS:Old S w)(hq:StepsW w S v xs)(hx:RatR w S (.agg #[.bool x0,.slice x1 x2 x3,.bool x4,.slice x5 x6 x7]) p1 p2):
  Con PG N.law05_StaticsTables #[v,.agg #[.bool x0,.slice x1 x2 x3,.bool x4,.slice x5 x6 x7]] w (Ret w fun v' _=>v'= .bool true):=by
 have hw:Bel w.heap.size w w:=Bel.refl
 obtain⟨a,c,rfl,hc,hm⟩:=hq.shape
 refine in_law05_StaticsTables (by simp) ?_
 conv=>whnf
 refine callE_S (callE_con (Φ:=fun _ w' v w2=>∃d,v= .bool d∧(d=true→(xs.length≤6∨100<xs.length)∧(xs.length≤6→StepsL w S (.slice a xs.length c) (xs.map stepV)))) (fun ρ w' r=>steps_c' (S:=S) hS hw r hq) ?_)
 rintro ρ wa1 v1 wb1 r he hb ⟨d1,rfl,hz1⟩
 replace hw:=hw.tr hb
 clear r he hb
 generalize (wa1.heap.size,wb1.heap.size)::[]=iv1 at*
 cases d1
 ·conv=>whnf
  refine callE_S (callE_con (Φ:=fun _ w' v w2=>v= .bool true) (fun ρ w' r=>awake5_c w') ?_)
  rintro ρ wa2 v2 wb2 r he hb rfl
  replace hw:=hw.tr hb
  clear r he hb
  generalize (wa2.heap.size,wb2.heap.size)::iv1=iv2 at*
  conv=>whnf
  intro ρe we re
  exact⟨_,rfl,hw.tr re.bel,rfl⟩
 obtain⟨hlen,hst⟩:=hz1 rfl
 clear hz1
 conv=>whnf
 refine callE_S (callE_con (Φ:=fun _ w' v w2=>∃d,v= .bool d∧(d=true→Few3 [.bool x0,.slice x1 x2 x3,.bool x4,.slice x5 x6 x7])) (fun ρ w' r=>(brief_c (S:=fun g=>g=(ρ 1).g) (css:=[[.bool x0,.slice x1 x2 x3,.bool x4,.slice x5 x6 x7]]) (fun g hg=>by subst hg;exact Rel.lt r (id:=1) rfl) (r.boxSeq (id:=1) (sz:=4) (n:=1) rfl rfl (by decide) (by repeat' first|refine List.forall_mem_cons.2 ⟨rfl,?_⟩|exact fun u hu=>absurd hu List.not_mem_nil)) (fun cs hc=>by rw[List.mem_singleton.1 hc];exact⟨_,_,_,_,_,_,_,_,rfl⟩)).mono fun _ _ ⟨v2,e1,e2,d,e3,e4⟩=>⟨v2,e1,e2,d,e3,fun h=>(e4 h).2 _ List.mem_cons_self⟩) ?_)
 rintro ρ wa2 v2 wb2 r he hb ⟨d2,rfl,hz2⟩
 replace hw:=hw.tr hb
 clear r he hb
 generalize (wa2.heap.size,wb2.heap.size)::iv1=iv2 at*
 cases d2
 ·conv=>whnf
  refine callE_S (callE_con (Φ:=fun _ w' v w2=>v= .bool true) (fun ρ w' r=>awake5_c w') ?_)
  rintro ρ wa3 v3 wb3 r he hb rfl
  replace hw:=hw.tr hb
  clear r he hb
  generalize (wa3.heap.size,wb3.heap.size)::iv2=iv3 at*
  conv=>whnf
  intro ρe we re
  exact⟨_,rfl,hw.tr re.bel,rfl⟩
 obtain⟨hX,hxs⟩:=hx.l3 (hz2 rfl)
 clear hz2
 obtain⟨l,hl⟩:∃l,xs.map stepV=l:=⟨_,rfl⟩
 obtain⟨x,hxv⟩:∃x,ratio p1 p2=x:=⟨_,rfl⟩
 rw[hl]at hst
 rw[hxv]at hX hxs
 have hll:xs.length=l.length:=by rw[←hl,List.length_map]
 rw[hll]at hm hst hlen ⊢
 replace hst:l.length≤100→StepsL w S (.slice a l.length c) l:=fun h=>hst (by omega)
 clear hq hx hl hxv hll hc
 have hm2:l.length≤maxLen:=hm
 unfold maxLen at hm2
 conv=>whnf
 refine callE_S (callE_con (Φ:=fun _ w' v w2=>(errT l≠0∧v= .tuple #[ratNil,.int .i64 (errT l)])∨(errT l=0∧∃r,v= .tuple #[r,.int .i64 0]∧RatC w2 (Nw (fun _=>False) w' w2) r (valF x l))) (fun ρ w' r=>sInterpolate_c (S:=S) (fun g hg=>by have:=hS g hg;have:=r.baseLe;omega) hm (fun hle=>StepsL.keep (hst hle) fun g hg=>(hw.tr r.bel).block g (hS g hg)) (hX.keep fun g hg=>(hw.tr r.bel).block g (hS g hg)) hxs) ?_)
 rintro ρ wa3 v3 wb3 r he hb (⟨hne,rfl⟩|⟨h0,vr,rfl,hn⟩)
 ·replace hw:=hw.tr hb
  clear r he hb
  generalize (wa3.heap.size,wb3.heap.size)::iv2=iv3 at*
  conv=>whnf
  refine callE_S (callE_con (Φ:=fun _ w' v w2=>v= .int .i64 (errT l)) (fun ρ w' r=>rCheckTable_c (S:=S) (fun g hg=>by have:=hS g hg;have:=r.baseLe;omega) hm (fun hle=>StepsL.keep (hst hle) fun g hg=>(hw.tr r.bel).block g (hS g hg))) ?_)
  rintro ρ wa3 v3 wb3 r he hb rfl
  replace hw:=hw.tr hb
  clear r he hb
  generalize (wa3.heap.size,wb3.heap.size)::iv3=iv3 at*
  obtain⟨e,he⟩:∃e,errT l=e:=⟨_,rfl⟩
  rw[he]at hne ⊢
  conv=>whnf
  refine BrS.mk (fun _=>?_) (fun hd=>absurd (by simpa using hd) hne)
  conv=>whnf
  refine BrS.mk (fun _=>?_) (fun hd=>by simp at hd)
  conv=>whnf
  refine callE_S (callE_con (Φ:=fun _ w' v w2=>v= .bool true) (fun ρ w' r=>(sameD_c (S:=fun _=>False) (oldF w') (RatD.nil w' _) (RatD.nil w' _)).mono fun _ _ ⟨v2,e1,e2,e3⟩=>⟨v2,e1,e2,by rw[e3];rfl⟩) ?_)
  rintro ρ wa4 v4 wb4 r he hb rfl
  replace hw:=hw.tr hb
  clear r he hb
  generalize (wa4.heap.size,wb4.heap.size)::iv3=iv4 at*
  conv=>whnf
  refine callE_S (callE_con (Φ:=fun _ w' v w2=>v= .bool true) (fun ρ w' r=>awake5_c w') ?_)
  rintro ρ wa5 v5 wb5 r he hb rfl
  replace hw:=hw.tr hb
  clear r he hb
  generalize (wa5.heap.size,wb5.heap.size)::iv4=iv5 at*
  conv=>whnf
  intro ρe we re
  exact⟨_,rfl,hw.tr re.bel,rfl⟩
 replace hw:=hw.tr hb
 have hd:=hn.got (S:=fun _=>False) r.baseLe (iv:=(wa3.heap.size,wb3.heap.size)::iv2) List.mem_cons_self
 clear r he hb hn
 generalize (wa3.heap.size,wb3.heap.size)::iv2=iv3 at*
 obtain⟨v0,v1,v2,v3,v4,v5,v6,v7,rfl⟩:=hd.shape
 conv=>whnf
 refine callE_S (callE_con (Φ:=fun _ w' v w2=>v= .int .i64 0) (fun ρ w' r=>(rCheckTable_c (S:=S) (fun g hg=>by have:=hS g hg;have:=r.baseLe;omega) hm (fun hle=>StepsL.keep (hst hle) fun g hg=>(hw.tr r.bel).block g (hS g hg))).mono fun _ _ ⟨v2,e1,e2,e3⟩=>⟨v2,e1,e2,by rw[e3,h0]⟩) ?_)
 rintro ρ wa3 v3 wb3 r he hb rfl
 replace hw:=hw.tr hb
 replace hd:=hd.past (iv':=(wa3.heap.size,wb3.heap.size)::iv3) r (oldF w) he fun x hx=>List.mem_cons_of_mem _ hx
 clear r he hb
 generalize (wa3.heap.size,wb3.heap.size)::iv3=iv3 at*
 obtain⟨hne,h100⟩:=errT_zero h0
 have hl:=hst h100
 obtain⟨⟨pa,hpa,hva⟩,pb,hpb,hvb⟩:=valF_between x hne
 have hvs:rl (valF x l)≤100:=valF_rl hxs (StepsL.small hl) hne
 clear hst
 conv=>whnf
 refine⟨Nat×(Bool×Bool)×World×Iv,fun z=>⟨[(0,.o (.v (.slice a l.length c))),(3,.o (.p 0 0)),(5,.o (.p 2 0)),(6,.o (.v (.int .i64 0))),(8,.o (.v (.bool z.2.1.1))),(9,.o (.v (.bool z.2.1.2))),(10,.o (.v (.int .i64 ((z.1:Nat):Int))))],[(2,.box T.Rat [.v (.bool v0),.v (.slice v1 v2 v3),.v (.bool v4),.v (.slice v5 v6 v7)]),(0,.box T.Rat [.v (.bool x0),.v (.slice x1 x2 x3),.v (.bool x4),.v (.slice x5 x6 x7)])],3,z.2.2.2,z.2.2.1⟩,fun z=>l.length-z.1,
  fun z=>z.1≤l.length∧Bel w.heap.size w z.2.2.1∧RatC z.2.2.1 (Cv (fun _=>False) w.heap.size z.2.2.2) (.agg #[.bool v0,.slice v1 v2 v3,.bool v4,.slice v5 v6 v7]) (valF x l)∧(∀j q,j<z.1→l[j]? =some q→(valF x l≤q.2→z.2.1.1=true)∧(q.2≤valF x l→z.2.1.2=true)),?_,?_⟩
 ·intro ρ w' r3
  exact⟨(0,(false,false),w',_),⟨Nat.zero_le _,hw.tr r3.bel,hd.rel r3 (oldF w),fun j q hj=>absurd hj (Nat.not_lt_zero j)⟩,Sub.gen [] r3 ⟨rfl,rfl,trivial⟩ ⟨rfl,rfl,rfl,rfl,rfl,rfl,rfl,trivial⟩ (by simp[ScH,Blk.scopd,At.sc]) (by simp[ScE,SV.sc,At.sc,initE]) (by rfl) (fun lo hi h=>h)⟩
 clear hw hd
 rintro⟨i,⟨ab,be⟩,w5,iv⟩ ⟨hi,hw,hd,hE⟩
 dsimp only at hi hw hd hE ⊢
 conv=>whnf
 refine BrS.mk (fun hib=>?_) (fun hib=>?_)
 ·have hib:i<l.length:=by simpa using hib
  obtain⟨q,hq⟩:∃q,l[i]? =some q:=⟨_,List.getElem?_eq_getElem hib⟩
  obtain⟨adq,csq,haq,hFq,-,hlq⟩:=hl.load (by decide) hq
  obtain⟨b0q,a0q,n0q,c0q,b1q,a1q,n1q,c1q,b2q,a2q,n2q,c2q,b3q,a3q,n3q,c3q,rfl,hAq,hVq⟩:=hFq
  cases ab<;>cases be
  ·conv=>whnf
   refine drawn_of_pi hτ hmix [.x 0,.x 1,.x 2,.x 3,.x 4,.x 5,.x 6,.x 7,.x 11,.x 8,.x 9,.x 10,.x 12,.x 13,.x 14,.x 15,.x 16,.x 17,.x 18,.x 19,.x 20,.x 21,.x 22,.x 23] (by kernel_rfl) (by kernel_rfl) ?_
   conv=>whnf
   refine⟨adq,haq,⟨by omega,by omega⟩,?_⟩
   conv=>whnf
   refine⟨[.bool b2q,.slice a2q n2q c2q,.bool b3q,.slice a3q n3q c3q],rfl,fun ρ w' r j u hu=>?_,?_⟩
   ·have hj4:=(List.getElem?_eq_some_iff.1 hu).1
    obtain⟨k1,k2⟩:=hlq (4+j) u (by rcases j with _|_|_|_|j<;>first|exact hu|(have:j+4<4:=hj4;omega))
    rw[cell_of_heap (w:=w) (w2:=w') (by simp only[addB];exact(hw.tr r.bel).block _ (hS _ k1))]
    simp only[Int.toNat_natCast,Int.toNat_zero,Nat.zero_mul,addA]at k2 ⊢
    first|exact k2|(rw [←k2];congr 2;omega)
   conv=>whnf
   refine callE_con (Φ:=fun _ w' v w2=>v= .int .i64 (rs (q.2-valF x l))) (fun ρ w' r=>rCmp_c (S:=fun g=>S g∨Cv (fun _=>False) w.heap.size iv g) (fun g hg=>hg.elim (fun hg=>by have:=hS g hg;have:=r.baseLe;omega) (Rel.old r (oldF w) g)) (RatL.weak (hVq.1.keep fun g hg=>(hw.tr r.bel).block g (hS g hg)) fun g hg=>.inl hg) (((hd.rel r (oldF w)).l (by omega)).weak fun g hg=>.inr hg)) ?_
   rintro ρ wa21 v21 wb21 r he hb rfl
   replace hw:=hw.tr hb
   replace hd:=hd.past (iv':=(wa21.heap.size,wb21.heap.size)::iv) r (oldF w) he fun x hx=>List.mem_cons_of_mem _ hx
   clear r he hb
   generalize (wa21.heap.size,wb21.heap.size)::iv=iv21 at*
   obtain⟨cf1,hcf1⟩:∃c,rs (q.2-valF x l)=c:=⟨_,rfl⟩
   rw[hcf1]
   conv=>whnf
   refine⟨adq,haq,⟨by omega,by omega⟩,?_⟩
   conv=>whnf
   refine⟨[.bool b2q,.slice a2q n2q c2q,.bool b3q,.slice a3q n3q c3q],rfl,fun ρ w' r j u hu=>?_,?_⟩
   ·have hj4:=(List.getElem?_eq_some_iff.1 hu).1
    obtain⟨k1,k2⟩:=hlq (4+j) u (by rcases j with _|_|_|_|j<;>first|exact hu|(have:j+4<4:=hj4;omega))
    rw[cell_of_heap (w:=w) (w2:=w') (by simp only[addB];exact(hw.tr r.bel).block _ (hS _ k1))]
    simp only[Int.toNat_natCast,Int.toNat_zero,Nat.zero_mul,addA]at k2 ⊢
    first|exact k2|(rw [←k2];congr 2;omega)
   conv=>whnf
   refine callE_con (Φ:=fun _ w' v w2=>v= .int .i64 (rs (q.2-valF x l))) (fun ρ w' r=>rCmp_c (S:=fun g=>S g∨Cv (fun _=>False) w.heap.size iv21 g) (fun g hg=>hg.elim (fun hg=>by have:=hS g hg;have:=r.baseLe;omega) (Rel.old r (oldF w) g)) (RatL.weak (hVq.1.keep fun g hg=>(hw.tr r.bel).block g (hS g hg)) fun g hg=>.inl hg) (((hd.rel r (oldF w)).l (by omega)).weak fun g hg=>.inr hg)) ?_
   rintro ρ wa22 v22 wb22 r he hb rfl
   replace hw:=hw.tr hb
   replace hd:=hd.past (iv':=(wa22.heap.size,wb22.heap.size)::iv21) r (oldF w) he fun x hx=>List.mem_cons_of_mem _ hx
   clear r he hb
   generalize (wa22.heap.size,wb22.heap.size)::iv21=iv22 at*
   obtain⟨cf2,hcf2⟩:∃c,rs (q.2-valF x l)=c:=⟨_,rfl⟩
   rw[hcf2]
   conv=>whnf
   refine⟨((i+1:Nat):Int),by rw[wrap64]<;>omega,?_⟩
   conv=>whnf
   have hE2:∀j p,j<i+1→l[j]? =some p→(valF x l≤p.2→(decide (cf1≥0))=true)∧(p.2≤valF x l→(decide (cf2≤0))=true):=fun j p hj hp=>by
    rcases Nat.lt_or_ge j i with h|h
    ·have hh:=hE j p h hp
     exact⟨fun h=>absurd (hh.1 h) (by decide),fun h=>absurd (hh.2 h) (by decide)⟩
    ·have:j=i:=by omega
     subst this
     rw[hq]at hp
     injection hp with hp
     subst hp
     exact⟨fun h=>decide_eq_true (by rw[←hcf1];exact rs_ge_iff.2 h),fun h=>decide_eq_true (by rw[←hcf2];exact rs_le_iff.2 h)⟩
   intro ρ3 w6 r3
   exact⟨(i+1,((decide (cf1≥0)),(decide (cf2≤0))),w6,_),⟨hib,hw.tr r3.bel,hd.rel r3 (oldF w),hE2⟩,Sub.gen [] r3 ⟨rfl,rfl,trivial⟩ ⟨rfl,rfl,rfl,rfl,rfl,rfl,rfl,trivial⟩ (by simp[ScH,Blk.scopd,At.sc]) (by simp[ScE,SV.sc,At.sc,initE]) (by rfl) (fun lo hi h=>h),by dsimp only;omega⟩
  ·conv=>whnf
   refine drawn_of_pi hτ hmix [.x 0,.x 1,.x 2,.x 3,.x 4,.x 5,.x 6,.x 7,.x 11,.x 8,.x 9,.x 10,.x 12,.x 13,.x 14,.x 15,.x 16,.x 17,.x 18,.x 19,.x 20,.x 21,.x 22,.x 23] (by kernel_rfl) (by kernel_rfl) ?_
   conv=>whnf
   refine⟨adq,haq,⟨by omega,by omega⟩,?_⟩
   conv=>whnf
   refine⟨[.bool b2q,.slice a2q n2q c2q,.bool b3q,.slice a3q n3q c3q],rfl,fun ρ w' r j u hu=>?_,?_⟩
   ·have hj4:=(List.getElem?_eq_some_iff.1 hu).1
    obtain⟨k1,k2⟩:=hlq (4+j) u (by rcases j with _|_|_|_|j<;>first|exact hu|(have:j+4<4:=hj4;omega))
    rw[cell_of_heap (w:=w) (w2:=w') (by simp only[addB];exact(hw.tr r.bel).block _ (hS _ k1))]
    simp only[Int.toNat_natCast,Int.toNat_zero,Nat.zero_mul,addA]at k2 ⊢
    first|exact k2|(rw [←k2];congr 2;omega)
   conv=>whnf
   refine callE_con (Φ:=fun _ w' v w2=>v= .int .i64 (rs (q.2-valF x l))) (fun ρ w' r=>rCmp_c (S:=fun g=>S g∨Cv (fun _=>False) w.heap.size iv g) (fun g hg=>hg.elim (fun hg=>by have:=hS g hg;have:=r.baseLe;omega) (Rel.old r (oldF w) g)) (RatL.weak (hVq.1.keep fun g hg=>(hw.tr r.bel).block g (hS g hg)) fun g hg=>.inl hg) (((hd.rel r (oldF w)).l (by omega)).weak fun g hg=>.inr hg)) ?_
   rintro ρ wa21 v21 wb21 r he hb rfl
   replace hw:=hw.tr hb
   replace hd:=hd.past (iv':=(wa21.heap.size,wb21.heap.size)::iv) r (oldF w) he fun x hx=>List.mem_cons_of_mem _ hx
   clear r he hb
   generalize (wa21.heap.size,wb21.heap.size)::iv=iv21 at*
   obtain⟨cf1,hcf1⟩:∃c,rs (q.2-valF x l)=c:=⟨_,rfl⟩
   rw[hcf1]
   conv=>whnf
   refine⟨((i+1:Nat):Int),by rw[wrap64]<;>omega,?_⟩
   conv=>whnf
   have hE2:∀j p,j<i+1→l[j]? =some p→(valF x l≤p.2→(decide (cf1≥0))=true)∧(p.2≤valF x l→true=true):=fun j p hj hp=>by
    rcases Nat.lt_or_ge j i with h|h
    ·have hh:=hE j p h hp
     exact⟨fun h=>absurd (hh.1 h) (by decide),fun h=>rfl⟩
    ·have:j=i:=by omega
     subst this
     rw[hq]at hp
     injection hp with hp
     subst hp
     exact⟨fun h=>decide_eq_true (by rw[←hcf1];exact rs_ge_iff.2 h),fun h=>rfl⟩
   intro ρ3 w6 r3
   exact⟨(i+1,((decide (cf1≥0)),true),w6,_),⟨hib,hw.tr r3.bel,hd.rel r3 (oldF w),hE2⟩,Sub.gen [] r3 ⟨rfl,rfl,trivial⟩ ⟨rfl,rfl,rfl,rfl,rfl,rfl,rfl,trivial⟩ (by simp[ScH,Blk.scopd,At.sc]) (by simp[ScE,SV.sc,At.sc,initE]) (by rfl) (fun lo hi h=>h),by dsimp only;omega⟩
  ·conv=>whnf
   refine drawn_of_pi hτ hmix [.x 0,.x 1,.x 2,.x 3,.x 4,.x 5,.x 6,.x 7,.x 11,.x 8,.x 9,.x 10,.x 12,.x 13,.x 14,.x 15,.x 16,.x 17,.x 18,.x 19,.x 20,.x 21,.x 22,.x 23] (by kernel_rfl) (by kernel_rfl) ?_
   conv=>whnf
   refine⟨adq,haq,⟨by omega,by omega⟩,?_⟩
   conv=>whnf
   refine⟨[.bool b2q,.slice a2q n2q c2q,.bool b3q,.slice a3q n3q c3q],rfl,fun ρ w' r j u hu=>?_,?_⟩
   ·have hj4:=(List.getElem?_eq_some_iff.1 hu).1
    obtain⟨k1,k2⟩:=hlq (4+j) u (by rcases j with _|_|_|_|j<;>first|exact hu|(have:j+4<4:=hj4;omega))
    rw[cell_of_heap (w:=w) (w2:=w') (by simp only[addB];exact(hw.tr r.bel).block _ (hS _ k1))]
    simp only[Int.toNat_natCast,Int.toNat_zero,Nat.zero_mul,addA]at k2 ⊢
    first|exact k2|(rw [←k2];congr 2;omega)
   conv=>whnf
   refine callE_con (Φ:=fun _ w' v w2=>v= .int .i64 (rs (q.2-valF x l))) (fun ρ w' r=>rCmp_c (S:=fun g=>S g∨Cv (fun _=>False) w.heap.size iv g) (fun g hg=>hg.elim (fun hg=>by have:=hS g hg;have:=r.baseLe;omega) (Rel.old r (oldF w) g)) (RatL.weak (hVq.1.keep fun g hg=>(hw.tr r.bel).block g (hS g hg)) fun g hg=>.inl hg) (((hd.rel r (oldF w)).l (by omega)).weak fun g hg=>.inr hg)) ?_
   rintro ρ wa21 v21 wb21 r he hb rfl
   replace hw:=hw.tr hb
   replace hd:=hd.past (iv':=(wa21.heap.size,wb21.heap.size)::iv) r (oldF w) he fun x hx=>List.mem_cons_of_mem _ hx
   clear r he hb
   generalize (wa21.heap.size,wb21.heap.size)::iv=iv21 at*
   obtain⟨cf2,hcf2⟩:∃c,rs (q.2-valF x l)=c:=⟨_,rfl⟩
   rw[hcf2]
   conv=>whnf
   refine⟨((i+1:Nat):Int),by rw[wrap64]<;>omega,?_⟩
   conv=>whnf
   have hE2:∀j p,j<i+1→l[j]? =some p→(valF x l≤p.2→true=true)∧(p.2≤valF x l→(decide (cf2≤0))=true):=fun j p hj hp=>by
    rcases Nat.lt_or_ge j i with h|h
    ·have hh:=hE j p h hp
     exact⟨fun h=>rfl,fun h=>absurd (hh.2 h) (by decide)⟩
    ·have:j=i:=by omega
     subst this
     rw[hq]at hp
     injection hp with hp
     subst hp
     exact⟨fun h=>rfl,fun h=>decide_eq_true (by rw[←hcf2];exact rs_le_iff.2 h)⟩
   intro ρ3 w6 r3
   exact⟨(i+1,(true,(decide (cf2≤0))),w6,_),⟨hib,hw.tr r3.bel,hd.rel r3 (oldF w),hE2⟩,Sub.gen [] r3 ⟨rfl,rfl,trivial⟩ ⟨rfl,rfl,rfl,rfl,rfl,rfl,rfl,trivial⟩ (by simp[ScH,Blk.scopd,At.sc]) (by simp[ScE,SV.sc,At.sc,initE]) (by rfl) (fun lo hi h=>h),by dsimp only;omega⟩
  ·conv=>whnf
   refine drawn_of_pi hτ hmix [.x 0,.x 1,.x 2,.x 3,.x 4,.x 5,.x 6,.x 7,.x 11,.x 8,.x 9,.x 10,.x 12,.x 13,.x 14,.x 15,.x 16,.x 17,.x 18,.x 19,.x 20,.x 21,.x 22,.x 23] (by kernel_rfl) (by kernel_rfl) ?_
   conv=>whnf
   refine⟨((i+1:Nat):Int),by rw[wrap64]<;>omega,?_⟩
   conv=>whnf
   have hE2:∀j p,j<i+1→l[j]? =some p→(valF x l≤p.2→true=true)∧(p.2≤valF x l→true=true):=fun j p hj hp=>by
    rcases Nat.lt_or_ge j i with h|h
    ·have hh:=hE j p h hp
     exact⟨fun h=>rfl,fun h=>rfl⟩
    ·have:j=i:=by omega
     subst this
     rw[hq]at hp
     injection hp with hp
     subst hp
     exact⟨fun h=>rfl,fun h=>rfl⟩
   intro ρ3 w6 r3
   exact⟨(i+1,(true,true),w6,_),⟨hib,hw.tr r3.bel,hd.rel r3 (oldF w),hE2⟩,Sub.gen [] r3 ⟨rfl,rfl,trivial⟩ ⟨rfl,rfl,rfl,rfl,rfl,rfl,rfl,trivial⟩ (by simp[ScH,Blk.scopd,At.sc]) (by simp[ScE,SV.sc,At.sc,initE]) (by rfl) (fun lo hi h=>h),by dsimp only;omega⟩
 have hib:i=l.length:=Nat.le_antisymm hi (by simpa using hib)
 subst hib
 obtain⟨ja,hja⟩:=List.getElem?_of_mem hpa
 obtain⟨jb,hjb⟩:=List.getElem?_of_mem hpb
 have hab:ab=true:=(hE ja pa (List.getElem?_eq_some_iff.1 hja).1 hja).1 hva
 have hbe:be=true:=(hE jb pb (List.getElem?_eq_some_iff.1 hjb).1 hjb).2 hvb
 subst hab hbe
 conv=>whnf
 refine drawn_of_pi hτ hmix [.x 0,.x 1,.x 2,.x 3,.x 4,.x 5,.x 6,.x 7,.x 8,.x 9,.x 10,.x 11,.x 12,.x 13,.x 14,.x 15,.x 16,.x 17,.x 18] (by kernel_rfl) (by kernel_rfl) ?_
 conv=>whnf
 refine callE_con (Φ:=fun _ w' v w2=>RatC w2 (Nw (fun _=>False) w' w2) v (valF x l)) (fun ρ w' r=>rInterpolate_c (S:=S) (fun g hg=>by have:=hS g hg;have:=r.baseLe;omega) (StepsL.keep hl fun g hg=>(hw.tr r.bel).block g (hS g hg)) (hX.keep fun g hg=>(hw.tr r.bel).block g (hS g hg)) hxs hne) ?_
 rintro ρ wa31 v31 wb31 r he hb hn
 replace hw:=hw.tr hb
 replace hd:=hd.past (iv':=(wa31.heap.size,wb31.heap.size)::iv) r (oldF w) he fun x hx=>List.mem_cons_of_mem _ hx
 have hr:=hn.got (S:=fun _=>False) r.baseLe (iv:=(wa31.heap.size,wb31.heap.size)::iv) List.mem_cons_self
 clear r he hb hn
 generalize (wa31.heap.size,wb31.heap.size)::iv=iv31 at*
 obtain⟨s31_0,s31_1,s31_2,s31_3,s31_4,s31_5,s31_6,s31_7,rfl⟩:=hr.shape
 conv=>whnf
 refine callE_con (Φ:=fun _ w' v w2=>v= .bool true) (fun ρ w' r=>(same_c (S:=Cv (fun _=>False) w.heap.size iv31) (Rel.old r (oldF w)) (hd.rel r (oldF w)) (hr.rel r (oldF w))).mono fun _ _ ⟨v2,e1,e2,e3⟩=>⟨v2,e1,e2,by rw[e3];exact congrArg _ (decide_eq_true rfl)⟩) ?_
 rintro ρ wa32 v32 wb32 r he hb rfl
 replace hw:=hw.tr hb
 clear hd
 clear hr
 clear r he hb
 generalize (wa32.heap.size,wb32.heap.size)::iv31=iv32 at*
 conv=>whnf
 refine callE_con (Φ:=fun _ w' v w2=>v= .bool true) (fun ρ w' r=>awake5_c w') ?_
 rintro ρ wa33 v33 wb33 r he hb rfl
 replace hw:=hw.tr hb
 clear r he hb
 generalize (wa33.heap.size,wb33.heap.size)::iv32=iv33 at*
 conv=>whnf
 intro ρe we re
 exact⟨_,rfl,hw.tr re.bel,rfl⟩
end Go.Ex
