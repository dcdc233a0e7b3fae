/- A part of the proof: texts X154 to X160. Each tells its conditions in its theorems. -/
import Derived.Test.YtkdcaknoaeicdaaGreatP13
import Derived.Test.YtkdcaknoaeicdaaGreatP14
/- The reference's check and value of a table. Printed by program. No condition but sizes. -/
namespace Go.Ex
open Go Go.Sx Go.Proofs

theorem rCheckTable_c{S:Nat→Prop}{w:World}{a:Option Addr}{c:Nat}{l:List (Rat×Rat)}(hS:Old S w)(hm:l.length≤maxLen)(hl:l.length≤100→StepsL w S (.slice a l.length c) l):Con PG N.ref05_CheckTable #[.slice a l.length c] w (Ret w fun v' _=>v'= .int .i64 (errT l)):=by
 have hw:Bel w.heap.size w w:=Bel.refl
 unfold maxLen at hm
 refine in_ref05_CheckTable (by simp) ?_
 conv=>whnf
 refine BrS.mk (fun h0=>?_) (fun h0=>?_)
 ·have h0:l.length=0:=by have h0:=eq_of_beq h0;omega
  conv=>whnf
  intro ρe we re
  exact⟨_,rfl,hw.tr re.bel,by show Value.int .i64 _=_;rw[errT,if_pos h0]⟩
 have h0:l.length≠0:=by intro h;simp[h]at h0
 conv=>whnf
 refine BrS.mk (fun h1=>?_) (fun h1=>?_)
 ·have h1:=of_decide_eq_true h1
  conv=>whnf
  intro ρe we re
  exact⟨_,rfl,hw.tr re.bel,by show Value.int .i64 _=_;rw[errT,if_neg h0,if_pos (by omega)]⟩
 have h1:=of_decide_eq_false h1
 replace hl:=hl (by omega)
 conv=>whnf
 refine⟨Nat×World×Iv,fun z=>⟨[(0,.o (.v (.slice a l.length c))),(3,.o (.v (.int .i64 ((z.1:Nat):Int))))],[],0,z.2.2,z.2.1⟩,fun z=>l.length-z.1,
  fun z=>(1≤z.1∧z.1≤l.length)∧Bel w.heap.size w z.2.1∧errT l=firstE stpE (l.take z.1) (l.drop z.1),?_,?_⟩
 ·intro ρ w' r3
  exact⟨(1,w',[]),⟨⟨Nat.le_refl _,by omega⟩,hw.tr r3.bel,by rw[errT,if_neg h0,if_neg (by omega)]⟩,Sub.gen [] r3 trivial ⟨rfl,rfl,trivial⟩ (by simp[ScH,Blk.scopd,At.sc]) (by simp[ScE,SV.sc,At.sc,initE]) (by rfl) (fun lo hi h=>h)⟩
 clear hw
 rintro⟨i,w1,iv⟩ ⟨⟨hi1,hi⟩,hw,hE⟩
 dsimp only at hi1 hi hw hE ⊢
 conv=>whnf
 refine BrS.mk (fun hib=>?_) (fun hib=>?_)
 ·have hib:i<l.length:=by simpa using hib
  obtain⟨q,hq⟩:∃q,l[i]? =some q:=⟨_,List.getElem?_eq_getElem hib⟩
  obtain⟨m,hm1⟩:∃m,i=m+1:=⟨i-1,by omega⟩
  obtain⟨p,hp⟩:∃p,l[m]? =some p:=⟨_,List.getElem?_eq_getElem (by omega)⟩
  have hse:stpE (l.take i) q=if q.1≤p.1 then 10 else 0:=by rw[hm1];exact stpE_at hp q
  obtain⟨adx,csx,hax,hFx,-,hlx⟩:=hl.load (by decide) hq
  obtain⟨b0x,a0x,n0x,c0x,b1x,a1x,n1x,c1x,b2x,a2x,n2x,c2x,b3x,a3x,n3x,c3x,rfl,hAx,hVx⟩:=hFx
  obtain⟨ady,csy,hay,hFy,-,hly⟩:=hl.load (by decide) hp
  obtain⟨b0y,a0y,n0y,c0y,b1y,a1y,n1y,c1y,b2y,a2y,n2y,c2y,b3y,a3y,n3y,c3y,rfl,hAy,hVy⟩:=hFy
  conv=>whnf
  refine drawn_of_pi hτ hmix [.x 0,.x 1,.x 2,.x 3,.x 4,.x 5,.x 6,.x 7,.x 8,.x 9,.x 10,.x 11,.x 12] (by kernel_rfl) (by kernel_rfl) ?_
  conv=>whnf
  refine⟨adx,hax,⟨by omega,by omega⟩,?_⟩
  conv=>whnf
  refine⟨[.bool b0x,.slice a0x n0x c0x,.bool b1x,.slice a1x n1x c1x],rfl,fun ρ w' r j u hu=>?_,?_⟩
  ·have hj4:=(List.getElem?_eq_some_iff.1 hu).1
   obtain⟨k1,k2⟩:=hlx (0+j) u (by rcases j with _|_|_|_|j<;>first|exact hu|(have:j+4<4:=hj4;omega))
   rw[cell_of_heap (w:=w) (w2:=w') (by simp only[addB];exact(hw.tr r.bel).block _ (hS _ k1))]
   simp only[Int.toNat_natCast,Int.toNat_zero,Nat.zero_mul,addA]at k2 ⊢
   first|exact k2|(rw [←k2];congr 2;omega)
  conv=>whnf
  refine⟨(m:Int),by rw[wrap64]<;>omega,?_⟩
  conv=>whnf
  refine⟨ady,hay,⟨by omega,by omega⟩,?_⟩
  conv=>whnf
  refine⟨[.bool b0y,.slice a0y n0y c0y,.bool b1y,.slice a1y n1y c1y],rfl,fun ρ w' r j u hu=>?_,?_⟩
  ·have hj4:=(List.getElem?_eq_some_iff.1 hu).1
   obtain⟨k1,k2⟩:=hly (0+j) u (by rcases j with _|_|_|_|j<;>first|exact hu|(have:j+4<4:=hj4;omega))
   rw[cell_of_heap (w:=w) (w2:=w') (by simp only[addB];exact(hw.tr r.bel).block _ (hS _ k1))]
   simp only[Int.toNat_natCast,Int.toNat_zero,Nat.zero_mul,addA]at k2 ⊢
   first|exact k2|(rw [←k2];congr 2;omega)
  conv=>whnf
  refine cE hw (Φ:=fun _ w' v w2=>v= .int .i64 (rs (q.1-p.1))) (fun ρ w' r=>rCmp_c (fun g hg=>by have:=hS g hg;have:=r.baseLe;omega) (hAx.1.keep fun g hg=>(hw.tr r.bel).block g (hS g hg)) (hAy.1.keep fun g hg=>(hw.tr r.bel).block g (hS g hg))) ?_
  rintro ρ wa1 v1 wb1 iv1 r he hw h_ rfl
  clear r
  obtain⟨cf,hcf⟩:∃c,rs (q.1-p.1)=c:=⟨_,rfl⟩
  rw[hcf]
  conv=>whnf
  refine BrS.mk (fun hd=>?_) (fun hd=>?_)
  ·have hd:q.1≤p.1:=by have:=of_decide_eq_true hd;rw[←rs_le_iff];omega
   conv=>whnf
   intro ρe we re
   exact⟨_,rfl,hw.tr re.bel,by show Value.int .i64 _=_;rw[hE,firstE_ret hq (by rw[hse,if_pos hd]) (by decide)]⟩
  have hd:¬q.1≤p.1:=by have:=of_decide_eq_false hd;rw[←rs_le_iff];omega
  rw[firstE_step hq (by rw[hse,if_neg hd])]at hE
  conv=>whnf
  refine⟨((i+1:Nat):Int),by rw[wrap64]<;>omega,?_⟩
  conv=>whnf
  intro ρ3 w6 r3
  exact⟨(i+1,w6,_),⟨⟨by dsimp only;omega,hib⟩,hw.tr r3.bel,hE⟩,Sub.gen [] r3 trivial ⟨rfl,rfl,trivial⟩ (by simp[ScH,Blk.scopd,At.sc]) (by simp[ScE,SV.sc,At.sc,initE]) (by rfl) (fun lo hi h=>h),by dsimp only;omega⟩
 have hib:i=l.length:=Nat.le_antisymm hi (by simpa using hib)
 rw[firstE_end (by omega)]at hE
 conv=>whnf
 intro ρe we re
 exact⟨_,rfl,hw.tr re.bel,by show Value.int .i64 _=_;rw[hE]⟩
set_option maxHeartbeats 1000000 in
theorem rInterpolate_c{S:Nat→Prop}{w:World}{v u:Value}{l:List (Rat×Rat)}{x:Rat}(hS:Old S w)(hl:StepsL w S v l)(hx:RatL w S u x)(hxs:rl x≤3)(h0:l≠[]):Con PG N.ref05_Interpolate #[v,u] w (Ret w fun v' w2=>RatC w2 (Nw (fun _=>False) w w2) v' (valF x l)):=by
 have hw:Bel w.heap.size w w:=Bel.refl
 obtain⟨a,c,rfl,hc,hm⟩:=hl.shape
 unfold maxLen at hm
 obtain⟨x0,x1,x2,x3,x4,x5,x6,x7,rfl⟩:=hx.shape
 have h1:0<l.length:=by cases l with|nil=>exact absurd rfl h0|cons _ _=>simp
 obtain⟨q0,hq0⟩:∃q,l[0]? =some q:=⟨_,List.getElem?_eq_getElem h1⟩
 obtain⟨adz,csz,haz,hFz,-,hlz⟩:=hl.load (by decide) hq0
 obtain⟨b0z,a0z,n0z,c0z,b1z,a1z,n1z,c1z,b2z,a2z,n2z,c2z,b3z,a3z,n3z,c3z,rfl,hAz,hVz⟩:=hFz
 refine in_ref05_Interpolate (by simp) ?_
 conv=>whnf
 refine drawn_of_pi hτ hmix [.x 0,.x 1,.x 2,.x 3,.x 4,.x 5,.x 6] (by kernel_rfl) (by kernel_rfl) ?_
 conv=>whnf
 refine⟨adz,haz,⟨by omega,by omega⟩,?_⟩
 conv=>whnf
 refine⟨[.bool b0z,.slice a0z n0z c0z,.bool b1z,.slice a1z n1z c1z],rfl,fun ρ w' r j u hu=>?_,?_⟩
 ·have hj4:=(List.getElem?_eq_some_iff.1 hu).1
  obtain⟨k1,k2⟩:=hlz (0+j) u (by rcases j with _|_|_|_|j<;>first|exact hu|(have:j+4<4:=hj4;omega))
  rw[cell_of_heap (w:=w) (w2:=w') (by simp only[addB];exact(hw.tr r.bel).block _ (hS _ k1))]
  simp only[Int.toNat_natCast,Int.toNat_zero,Nat.zero_mul,addA]at k2 ⊢
  first|exact k2|(rw [←k2];congr 2;omega)
 conv=>whnf
 refine cE hw (Φ:=fun _ w' v w2=>v= .int .i64 (rs (x-q0.1))) (fun ρ w' r=>rCmp_c (fun g hg=>by have:=hS g hg;have:=r.baseLe;omega) (hx.keep fun g hg=>(hw.tr r.bel).block g (hS g hg)) (hAz.1.keep fun g hg=>(hw.tr r.bel).block g (hS g hg))) ?_
 rintro ρ wa1 v1 wb1 iv1 r he hw h_ rfl
 clear r
 obtain⟨cf,hcf⟩:∃c,rs (x-q0.1)=c:=⟨_,rfl⟩
 rw[hcf]
 conv=>whnf
 refine BrS.mk (fun hd=>?_) (fun hd=>?_)
 ·have hd:x≤q0.1:=by have:=of_decide_eq_true hd;rw[←rs_le_iff];omega
  have hv:=valF_first hq0 hd
  conv=>whnf
  refine⟨adz,haz,⟨by omega,by omega⟩,?_⟩
  conv=>whnf
  refine⟨[.bool b2z,.slice a2z n2z c2z,.bool b3z,.slice a3z n3z c3z],rfl,fun ρ w' r j u hu=>?_,?_⟩
  ·have hj4:=(List.getElem?_eq_some_iff.1 hu).1
   obtain⟨k1,k2⟩:=hlz (4+j) u (by rcases j with _|_|_|_|j<;>first|exact hu|(have:j+4<4:=hj4;omega))
   rw[cell_of_heap (w:=w) (w2:=w') (by simp only[addB];exact(hw.tr r.bel).block _ (hS _ k1))]
   simp only[Int.toNat_natCast,Int.toNat_zero,Nat.zero_mul,addA]at k2 ⊢
   first|exact k2|(rw [←k2];congr 2;omega)
  conv=>whnf
  refine callE_S (cE hw (Φ:=fun _ w' v w2=>RatC w2 (Nw (fun _=>False) w' w2) v (q0.2)) (fun ρ w' r=>rNormal_c (fun g hg=>by have:=hS g hg;have:=r.baseLe;omega) (hVz.1.keep fun g hg=>(hw.tr r.bel).block g (hS g hg))) ?_)
  rintro ρ wa2 v2 wb2 iv2 r he hw h_ hn
  have hn9:=hn.got (S:=fun _=>False) r.baseLe (mN h_)
  clear r
  obtain⟨s2_0,s2_1,s2_2,s2_3,s2_4,s2_5,s2_6,s2_7,rfl⟩:=hn9.shape
  conv=>whnf
  intro ρe we re
  exact⟨_,rfl,hw.tr re.bel,by rw[hv];exact hn9.out re (oldF w)⟩
 have hd:¬x≤q0.1:=by have:=of_decide_eq_false hd;rw[←rs_le_iff];omega
 have hv:=valF_rest hq0 hd
 conv=>whnf
 refine⟨Nat×World×Iv,fun z=>⟨[(0,.o (.v (.slice a l.length c))),(3,.o (.p 0 0)),(4,.o (.p 1 0)),(5,.o (.v (.int .i64 ((z.1:Nat):Int))))],[(1,.box T.Rat [.v (.bool false),.v (.slice none 0 0),.v (.bool false),.v (.slice none 0 0)]),(0,.box T.Rat [.v (.bool x0),.v (.slice x1 x2 x3),.v (.bool x4),.v (.slice x5 x6 x7)])],2,z.2.2,z.2.1⟩,fun z=>l.length-z.1,
  fun z=>(1≤z.1∧z.1≤l.length)∧Bel w.heap.size w z.2.1∧∀p,l[z.1-1]? =some p→p.1<x∧valF x l=interpF x p (l.drop z.1),?_,?_⟩
 ·intro ρ w' r3
  exact⟨(1,w',_),⟨⟨Nat.le_refl _,h1⟩,hw.tr r3.bel,fun p hp=>by dsimp only at hp ⊢;rw[Nat.sub_self,hq0]at hp;injection hp with hp;subst hp;exact⟨Rat.not_le.1 hd,hv⟩⟩,Sub.gen [] r3 ⟨rfl,rfl,trivial⟩ ⟨rfl,rfl,rfl,rfl,trivial⟩ (by simp[ScH,Blk.scopd,At.sc]) (by simp[ScE,SV.sc,At.sc,initE]) (by rfl) (fun lo hi h=>h)⟩
 clear hw
 rintro⟨i,w1,iv⟩ ⟨⟨hi1,hi⟩,hw,hE⟩
 dsimp only at hi1 hi hw hE ⊢
 obtain⟨m,hm1⟩:∃m,i=m+1:=⟨i-1,by omega⟩
 obtain⟨p,hp⟩:∃p,l[m]? =some p:=⟨_,List.getElem?_eq_getElem (by omega)⟩
 obtain⟨hpx,hE⟩:=hE p (by rw[hm1,Nat.add_sub_cancel];exact hp)
 conv=>whnf
 refine BrS.mk (fun hib=>?_) (fun hib=>?_)
 ·have hib:i<l.length:=by simpa using hib
  obtain⟨q,hq⟩:∃q,l[i]? =some q:=⟨_,List.getElem?_eq_getElem hib⟩
  obtain⟨adx,csx,hax,hFx,-,hlx⟩:=hl.load (by decide) hq
  obtain⟨b0x,a0x,n0x,c0x,b1x,a1x,n1x,c1x,b2x,a2x,n2x,c2x,b3x,a3x,n3x,c3x,rfl,hAx,hVx⟩:=hFx
  obtain⟨ady,csy,hay,hFy,-,hly⟩:=hl.load (by decide) hp
  obtain⟨b0y,a0y,n0y,c0y,b1y,a1y,n1y,c1y,b2y,a2y,n2y,c2y,b3y,a3y,n3y,c3y,rfl,hAy,hVy⟩:=hFy
  conv=>whnf
  refine drawn_of_pi hτ hmix [.x 0,.x 1,.x 2,.x 3,.x 4,.x 5,.x 6,.x 7] (by kernel_rfl) (by kernel_rfl) ?_
  conv=>whnf
  refine⟨adx,hax,⟨by omega,by omega⟩,?_⟩
  conv=>whnf
  refine⟨[.bool b0x,.slice a0x n0x c0x,.bool b1x,.slice a1x n1x c1x],rfl,fun ρ w' r j u hu=>?_,?_⟩
  ·have hj4:=(List.getElem?_eq_some_iff.1 hu).1
   obtain⟨k1,k2⟩:=hlx (0+j) u (by rcases j with _|_|_|_|j<;>first|exact hu|(have:j+4<4:=hj4;omega))
   rw[cell_of_heap (w:=w) (w2:=w') (by simp only[addB];exact(hw.tr r.bel).block _ (hS _ k1))]
   simp only[Int.toNat_natCast,Int.toNat_zero,Nat.zero_mul,addA]at k2 ⊢
   first|exact k2|(rw [←k2];congr 2;omega)
  conv=>whnf
  refine cE hw (Φ:=fun _ w' v w2=>v= .int .i64 (rs (x-q.1))) (fun ρ w' r=>rCmp_c (fun g hg=>by have:=hS g hg;have:=r.baseLe;omega) (hx.keep fun g hg=>(hw.tr r.bel).block g (hS g hg)) (hAx.1.keep fun g hg=>(hw.tr r.bel).block g (hS g hg))) ?_
  rintro ρ wa11 v11 wb11 iv11 r he hw h_ rfl
  clear r
  obtain⟨cf,hcf⟩:∃c,rs (x-q.1)=c:=⟨_,rfl⟩
  rw[hcf]
  conv=>whnf
  refine BrS.mk (fun hd2=>?_) (fun hd2=>?_)
  ·have hd2:x≤q.1:=by have:=of_decide_eq_true hd2;rw[←rs_le_iff];omega
   rw[interpF_hit hq hd2]at hE
   have hne:q.1-p.1≠0:=by intro h;grind
   have g1:=rl_sub x p.1
   have g2:=rl_sub q.1 p.1
   have g3:=rl_div (x-p.1) hne
   have g4:=rl_sub q.2 p.2
   have g5:=rl_mul ((x-p.1) / (q.1-p.1)) (q.2-p.2)
   have g6:=hAx.2
   have g7:=hAy.2
   have g8:=hVx.2
   have g9:=hVy.2
   conv=>whnf
   refine drawn_of_pi hτ hmix [.x 0,.x 1,.x 2,.x 3,.x 4,.x 5,.x 6,.x 8,.x 9,.x 10,.x 11,.x 12,.x 13,.x 14,.x 15,.x 16,.x 17,.x 18,.p 24,.x 7,.x 19,.x 20,.x 21,.x 22,.x 23,.x 24,.x 25,.x 26] (by kernel_rfl) (by kernel_rfl) ?_
   conv=>whnf
   refine⟨(m:Int),by rw[wrap64]<;>omega,?_⟩
   conv=>whnf
   refine⟨ady,hay,⟨by omega,by omega⟩,?_⟩
   conv=>whnf
   refine⟨[.bool b0y,.slice a0y n0y c0y,.bool b1y,.slice a1y n1y c1y],rfl,fun ρ w' r j u hu=>?_,?_⟩
   ·have hj4:=(List.getElem?_eq_some_iff.1 hu).1
    obtain⟨k1,k2⟩:=hly (0+j) u (by rcases j with _|_|_|_|j<;>first|exact hu|(have:j+4<4:=hj4;omega))
    rw[cell_of_heap (w:=w) (w2:=w') (by simp only[addB];exact(hw.tr r.bel).block _ (hS _ k1))]
    simp only[Int.toNat_natCast,Int.toNat_zero,Nat.zero_mul,addA]at k2 ⊢
    first|exact k2|(rw [←k2];congr 2;omega)
   conv=>whnf
   refine⟨adx,hax,⟨by omega,by omega⟩,?_⟩
   conv=>whnf
   refine⟨[.bool b0x,.slice a0x n0x c0x,.bool b1x,.slice a1x n1x c1x],rfl,fun ρ w' r j u hu=>?_,?_⟩
   ·have hj4:=(List.getElem?_eq_some_iff.1 hu).1
    obtain⟨k1,k2⟩:=hlx (0+j) u (by rcases j with _|_|_|_|j<;>first|exact hu|(have:j+4<4:=hj4;omega))
    rw[cell_of_heap (w:=w) (w2:=w') (by simp only[addB];exact(hw.tr r.bel).block _ (hS _ k1))]
    simp only[Int.toNat_natCast,Int.toNat_zero,Nat.zero_mul,addA]at k2 ⊢
    first|exact k2|(rw [←k2];congr 2;omega)
   conv=>whnf
   refine⟨(m:Int),by rw[wrap64]<;>omega,?_⟩
   conv=>whnf
   refine⟨ady,hay,⟨by omega,by omega⟩,?_⟩
   conv=>whnf
   refine⟨[.bool b0y,.slice a0y n0y c0y,.bool b1y,.slice a1y n1y c1y],rfl,fun ρ w' r j u hu=>?_,?_⟩
   ·have hj4:=(List.getElem?_eq_some_iff.1 hu).1
    obtain⟨k1,k2⟩:=hly (0+j) u (by rcases j with _|_|_|_|j<;>first|exact hu|(have:j+4<4:=hj4;omega))
    rw[cell_of_heap (w:=w) (w2:=w') (by simp only[addB];exact(hw.tr r.bel).block _ (hS _ k1))]
    simp only[Int.toNat_natCast,Int.toNat_zero,Nat.zero_mul,addA]at k2 ⊢
    first|exact k2|(rw [←k2];congr 2;omega)
   conv=>whnf
   refine cE hw (Φ:=fun _ w' v w2=>RatC w2 (Nw (fun _=>False) w' w2) v (x-p.1)) (fun ρ w' r=>rSub_c (fun g hg=>by have:=hS g hg;have:=r.baseLe;omega) (hx.keep fun g hg=>(hw.tr r.bel).block g (hS g hg)) (hAy.1.keep fun g hg=>(hw.tr r.bel).block g (hS g hg))) ?_
   rintro ρ wa12 v12 wb12 iv12 r he hw h_ hn
   have hr1:=hn.got (S:=fun _=>False) r.baseLe (mN h_)
   clear r
   obtain⟨s12_0,s12_1,s12_2,s12_3,s12_4,s12_5,s12_6,s12_7,rfl⟩:=hr1.shape
   conv=>whnf
   refine cE hw (Φ:=fun _ w' v w2=>RatC w2 (Nw (fun _=>False) w' w2) v (q.1-p.1)) (fun ρ w' r=>rSub_c (fun g hg=>by have:=hS g hg;have:=r.baseLe;omega) (hAx.1.keep fun g hg=>(hw.tr r.bel).block g (hS g hg)) (hAy.1.keep fun g hg=>(hw.tr r.bel).block g (hS g hg))) ?_
   rintro ρ wa13 v13 wb13 iv13 r he hw h_ hn
   replace hr1:=hr1.past r (oldF w) he (mC h_)
   have hr2:=hn.got (S:=fun _=>False) r.baseLe (mN h_)
   clear r
   obtain⟨s13_0,s13_1,s13_2,s13_3,s13_4,s13_5,s13_6,s13_7,rfl⟩:=hr2.shape
   conv=>whnf
   refine cE hw (Φ:=fun _ w' v w2=>∃r,v= .tuple #[r,.int .i64 0]∧RatC w2 (Nw (fun _=>False) w' w2) r ((x-p.1) / (q.1-p.1))) (fun ρ w' r=>(rQuo_c (Rel.old r (oldF w)) ((hr1.rel r (oldF w)).l (by omega)) ((hr2.rel r (oldF w)).l (by omega))).mono fun _ _ ⟨v2,e1,e2,e3⟩=>⟨v2,e1,e2,e3.elim (fun h=>absurd h.1 hne) fun h=>h.2⟩) ?_
   rintro ρ wa14 v14 wb14 iv14 r he hw h_ ⟨pt,rfl,hn⟩
   clear hr1
   clear hr2
   have hr3:=hn.got (S:=fun _=>False) r.baseLe (mN h_)
   clear r
   obtain⟨s14_0a,s14_0b,s14_0c,s14_0d,s14_0e,s14_0f,s14_0g,s14_0h,rfl⟩:=hr3.shape
   clear hn
   conv=>whnf
   refine drawn_of_pi hτ hmix [.x 0,.x 1,.x 2,.x 3,.x 4,.x 5,.x 6,.x 7,.x 8,.x 9,.x 10,.x 11,.x 12,.x 13,.x 14,.x 15,.x 16,.x 17,.x 18,.x 19,.x 20,.x 21] (by kernel_rfl) (by kernel_rfl) ?_
   conv=>whnf
   refine⟨(m:Int),by rw[wrap64]<;>omega,?_⟩
   conv=>whnf
   refine⟨ady,hay,⟨by omega,by omega⟩,?_⟩
   conv=>whnf
   refine⟨[.bool b2y,.slice a2y n2y c2y,.bool b3y,.slice a3y n3y c3y],rfl,fun ρ w' r j u hu=>?_,?_⟩
   ·have hj4:=(List.getElem?_eq_some_iff.1 hu).1
    obtain⟨k1,k2⟩:=hly (4+j) u (by rcases j with _|_|_|_|j<;>first|exact hu|(have:j+4<4:=hj4;omega))
    rw[cell_of_heap (w:=w) (w2:=w') (by simp only[addB];exact(hw.tr r.bel).block _ (hS _ k1))]
    simp only[Int.toNat_natCast,Int.toNat_zero,Nat.zero_mul,addA]at k2 ⊢
    first|exact k2|(rw [←k2];congr 2;omega)
   conv=>whnf
   refine⟨adx,hax,⟨by omega,by omega⟩,?_⟩
   conv=>whnf
   refine⟨[.bool b2x,.slice a2x n2x c2x,.bool b3x,.slice a3x n3x c3x],rfl,fun ρ w' r j u hu=>?_,?_⟩
   ·have hj4:=(List.getElem?_eq_some_iff.1 hu).1
    obtain⟨k1,k2⟩:=hlx (4+j) u (by rcases j with _|_|_|_|j<;>first|exact hu|(have:j+4<4:=hj4;omega))
    rw[cell_of_heap (w:=w) (w2:=w') (by simp only[addB];exact(hw.tr r.bel).block _ (hS _ k1))]
    simp only[Int.toNat_natCast,Int.toNat_zero,Nat.zero_mul,addA]at k2 ⊢
    first|exact k2|(rw [←k2];congr 2;omega)
   conv=>whnf
   refine⟨(m:Int),by rw[wrap64]<;>omega,?_⟩
   conv=>whnf
   refine⟨ady,hay,⟨by omega,by omega⟩,?_⟩
   conv=>whnf
   refine⟨[.bool b2y,.slice a2y n2y c2y,.bool b3y,.slice a3y n3y c3y],rfl,fun ρ w' r j u hu=>?_,?_⟩
   ·have hj4:=(List.getElem?_eq_some_iff.1 hu).1
    obtain⟨k1,k2⟩:=hly (4+j) u (by rcases j with _|_|_|_|j<;>first|exact hu|(have:j+4<4:=hj4;omega))
    rw[cell_of_heap (w:=w) (w2:=w') (by simp only[addB];exact(hw.tr r.bel).block _ (hS _ k1))]
    simp only[Int.toNat_natCast,Int.toNat_zero,Nat.zero_mul,addA]at k2 ⊢
    first|exact k2|(rw [←k2];congr 2;omega)
   conv=>whnf
   refine cE hw (Φ:=fun _ w' v w2=>RatC w2 (Nw (fun _=>False) w' w2) v (q.2-p.2)) (fun ρ w' r=>rSub_c (fun g hg=>by have:=hS g hg;have:=r.baseLe;omega) (hVx.1.keep fun g hg=>(hw.tr r.bel).block g (hS g hg)) (hVy.1.keep fun g hg=>(hw.tr r.bel).block g (hS g hg))) ?_
   rintro ρ wa15 v15 wb15 iv15 r he hw h_ hn
   replace hr3:=hr3.past r (oldF w) he (mC h_)
   have hr4:=hn.got (S:=fun _=>False) r.baseLe (mN h_)
   clear r
   obtain⟨s15_0,s15_1,s15_2,s15_3,s15_4,s15_5,s15_6,s15_7,rfl⟩:=hr4.shape
   conv=>whnf
   refine cE hw (Φ:=fun _ w' v w2=>RatC w2 (Nw (fun _=>False) w' w2) v ((x-p.1) / (q.1-p.1)*(q.2-p.2))) (fun ρ w' r=>rMul_c (Rel.old r (oldF w)) ((hr3.rel r (oldF w)).l (by omega)) ((hr4.rel r (oldF w)).l (by omega))) ?_
   rintro ρ wa16 v16 wb16 iv16 r he hw h_ hn
   clear hr3
   clear hr4
   have hr5:=hn.got (S:=fun _=>False) r.baseLe (mN h_)
   clear r
   obtain⟨s16_0,s16_1,s16_2,s16_3,s16_4,s16_5,s16_6,s16_7,rfl⟩:=hr5.shape
   conv=>whnf
   refine cE hw (Φ:=fun _ w' v w2=>RatC w2 (Nw (fun _=>False) w' w2) v (p.2+(x-p.1) / (q.1-p.1)*(q.2-p.2))) (fun ρ w' r=>rAdd_c (S:=fun g=>S g∨Cv (fun _=>False) w.heap.size iv16 g) (fun g hg=>hg.elim (fun hg=>by have:=hS g hg;have:=r.baseLe;omega) (Rel.old r (oldF w) g)) (RatL.weak (hVy.1.keep fun g hg=>(hw.tr r.bel).block g (hS g hg)) fun g hg=>.inl hg) (((hr5.rel r (oldF w)).l (by omega)).weak fun g hg=>.inr hg)) ?_
   rintro ρ wa17 v17 wb17 iv17 r he hw h_ hn
   clear hr5
   have hn9:=hn.got (S:=fun _=>False) r.baseLe (mN h_)
   clear r
   obtain⟨s17_0,s17_1,s17_2,s17_3,s17_4,s17_5,s17_6,s17_7,rfl⟩:=hn9.shape
   conv=>whnf
   intro ρe we re
   exact⟨_,rfl,hw.tr re.bel,by rw[hE];exact hn9.out re (oldF w)⟩
  ·have hd2:¬x≤q.1:=by have:=of_decide_eq_false hd2;rw[←rs_le_iff];omega
   rw[interpF_miss hq hd2]at hE
   conv=>whnf
   refine⟨((i+1:Nat):Int),by rw[wrap64]<;>omega,?_⟩
   conv=>whnf
   intro ρ3 w6 r3
   exact⟨(i+1,w6,_),⟨⟨by dsimp only;omega,hib⟩,hw.tr r3.bel,fun p2 hp2=>by dsimp only at hp2 ⊢;rw[Nat.add_sub_cancel,hq]at hp2;injection hp2 with hp2;subst hp2;exact⟨Rat.not_le.1 hd2,hE⟩⟩,Sub.gen [] r3 ⟨rfl,rfl,trivial⟩ ⟨rfl,rfl,rfl,rfl,trivial⟩ (by simp[ScH,Blk.scopd,At.sc]) (by simp[ScE,SV.sc,At.sc,initE]) (by rfl) (fun lo hi h=>h),by dsimp only;omega⟩
 have hib:i=l.length:=Nat.le_antisymm hi (by simpa using hib)
 rw[hib,interpF_end]at hE
 obtain⟨ady,csy,hay,hFy,-,hly⟩:=hl.load (by decide) hp
 obtain⟨b0y,a0y,n0y,c0y,b1y,a1y,n1y,c1y,b2y,a2y,n2y,c2y,b3y,a3y,n3y,c3y,rfl,hAy,hVy⟩:=hFy
 conv=>whnf
 refine⟨(m:Int),by rw[wrap64]<;>omega,?_⟩
 conv=>whnf
 refine⟨ady,hay,⟨by omega,by omega⟩,?_⟩
 conv=>whnf
 refine⟨[.bool b2y,.slice a2y n2y c2y,.bool b3y,.slice a3y n3y c3y],rfl,fun ρ w' r j u hu=>?_,?_⟩
 ·have hj4:=(List.getElem?_eq_some_iff.1 hu).1
  obtain⟨k1,k2⟩:=hly (4+j) u (by rcases j with _|_|_|_|j<;>first|exact hu|(have:j+4<4:=hj4;omega))
  rw[cell_of_heap (w:=w) (w2:=w') (by simp only[addB];exact(hw.tr r.bel).block _ (hS _ k1))]
  simp only[Int.toNat_natCast,Int.toNat_zero,Nat.zero_mul,addA]at k2 ⊢
  first|exact k2|(rw [←k2];congr 2;omega)
 conv=>whnf
 refine callE_S (cE hw (Φ:=fun _ w' v w2=>RatC w2 (Nw (fun _=>False) w' w2) v (p.2)) (fun ρ w' r=>rNormal_c (fun g hg=>by have:=hS g hg;have:=r.baseLe;omega) (hVy.1.keep fun g hg=>(hw.tr r.bel).block g (hS g hg))) ?_)
 rintro ρ wa41 v41 wb41 iv41 r he hw h_ hn
 have hn9:=hn.got (S:=fun _=>False) r.baseLe (mN h_)
 clear r
 obtain⟨s41_0,s41_1,s41_2,s41_3,s41_4,s41_5,s41_6,s41_7,rfl⟩:=hn9.shape
 conv=>whnf
 intro ρe we re
 exact⟨_,rfl,hw.tr re.bel,by rw[hE];exact hn9.out re (oldF w)⟩
end Go.Ex

/- StaticsTables of the laws of chapter 5. Printed by program. No condition. -/
namespace Go.Ex
open Go Go.Sx Go.Proofs

theorem StepsL.small{w:World}{S:Nat→Prop}{v:Value}{l:List (Rat×Rat)}(h:StepsL w S v l):∀q∈l,rl q.1≤3∧rl q.2≤3:=fun q hq=>by
 obtain⟨j,hj⟩:=List.getElem?_of_mem hq
 obtain⟨css,h1,h2,h3,h4⟩:=h
 obtain⟨cs,hcs⟩:∃cs,css[j]? =some cs:=⟨_,List.getElem?_eq_getElem (by rw[h2];exact(List.getElem?_eq_some_iff.1 hj).1)⟩
 obtain⟨_,_,_,_,_,_,_,_,_,_,_,_,_,_,_,_,_,k1,k2⟩:=h4 j cs q hcs hj
 exact⟨k1.2,k2.2⟩
theorem interpF_rl{x:Rat}(hx:rl x≤3):∀(r:List (Rat×Rat)) (a:Rat×Rat),a.1<x→(∀q∈a::r,rl q.1≤3∧rl q.2≤3)→rl (interpF x a r)≤100
 |[],a,_,h=>by have:=(h a List.mem_cons_self).2;rw[interpF];omega
 |b::r,a,hax,h=>by
  rw[interpF]
  split<;>rename_i hb
  ·have hne:b.1-a.1≠0:=by intro e;grind
   have h1:=h a List.mem_cons_self
   have h2:=h b (List.mem_cons_of_mem _ List.mem_cons_self)
   have g1:=rl_sub x a.1
   have g2:=rl_sub b.1 a.1
   have g3:=rl_div (x-a.1) hne
   have g4:=rl_sub b.2 a.2
   have g5:=rl_mul ((x-a.1) / (b.1-a.1)) (b.2-a.2)
   have g6:=rl_add a.2 ((x-a.1) / (b.1-a.1)*(b.2-a.2))
   omega
  ·exact interpF_rl hx r b (Rat.not_le.1 hb) fun q hq=>h q (List.mem_cons_of_mem _ hq)
theorem valF_rl{x:Rat}{l:List (Rat×Rat)}(hx:rl x≤3)(h:∀q∈l,rl q.1≤3∧rl q.2≤3)(h0:l≠[]):rl (valF x l)≤100:=by
 cases l with
 |nil=>exact absurd rfl h0
 |cons a r=>
  rw[valF]
  split<;>rename_i hb
  ·have:=(h a List.mem_cons_self).2;omega
  ·exact interpF_rl hx r a (Rat.not_le.1 hb) h
theorem StepW.keep{w w2:World}{S:Nat→Prop}{cs:List Value}{p:(Int×Int)×(Int×Int)}(h:StepW w S cs p)(hk:∀g,S g→w2.heap[g]? =w.heap[g]?):StepW w2 S cs p:=by
 obtain⟨b0,a0,n0,c0,b1,a1,n1,c1,b2,a2,n2,c2,b3,a3,n3,c3,h1,h2,h3⟩:=h
 exact⟨b0,a0,n0,c0,b1,a1,n1,c1,b2,a2,n2,c2,b3,a3,n3,c3,h1,h2.keep hk,h3.keep hk⟩
theorem steps_c'{S:Nat→Prop}{w w1 w':World}{H:Hp}{nx:Nat}{iv:Iv}{ρ:Nat→Sx.Val}{v:Value}{xs:List ((Int×Int)×(Int×Int))}(hS:Old S w)(hw:Bel w.heap.size w w1)(r:Rel H nx iv w.heap.size w1 ρ w')(hq:StepsW w S v xs):
  Con PG N.law05_steps #[v] w' (Ret w' fun v' _=>∃d,v'= .bool d∧(d=true→(xs.length≤6∨100<xs.length)∧(xs.length≤6→StepsL w S v (xs.map stepV)))):=
 have hk:∀g,S g→w'.heap[g]? =w.heap[g]? :=fun g hg=>(hw.tr r.bel).block g (hS g hg)
 (steps_c (S:=S) (fun g hg=>by have:=hS g hg;have:=r.baseLe;omega) (ListK.keep (P:=StepW) (fun cs p h=>StepW.keep h hk) hq hk)).mono fun _ _ ⟨v2,e1,e2,d,e3,e4⟩=>⟨v2,e1,e2,d,e3,fun h=>⟨(e4 h).1,fun h6=>StepsL.keep ((e4 h).2 h6) fun g hg=>(hk g hg).symm⟩⟩
end Go.Ex

/- The reference's check of a frame and of loads. Printed by program. No condition but sizes. -/
namespace Go.Ex
open Go Go.Sx Go.Proofs

theorem barK_eq(c b:Int×Int×Rat):barK c=barK b↔(c.1=b.1∧c.2.1=b.2.1)∨(c.1=b.2.1∧c.2.1=b.1):=by
 unfold barK
 rw[Prod.mk.injEq]
 omega
theorem supK_eq(c b:Int×Int×Rat):supK c=supK b↔c.1=b.1∧c.2.1=b.2.1:=by
 unfold supK
 rw[Prod.mk.injEq]
section
variable{α β:Type}{L:List α}{K:α→β}{x:β}
theorem key_step{k:Nat}{c:α}(hc:L[k]? =some c)(h:K c≠x)(hE:x∈L.map K↔x∈(L.drop k).map K):x∈L.map K↔x∈(L.drop (k+1)).map K:=by
 rw[hE,List.drop_eq_getElem_cons (List.getElem?_eq_some_iff.1 hc).1,(List.getElem?_eq_some_iff.1 hc).2,List.map_cons,List.mem_cons,or_iff_right fun e=>h e.symm]
theorem key_hit{k:Nat}{c:α}(hc:L[k]? =some c)(h:K c=x):x∈L.map K:=List.mem_map.2 ⟨c,List.mem_of_getElem? hc,h⟩
theorem key_end{k:Nat}(hk:L.length≤k)(hE:x∈L.map K↔x∈(L.drop k).map K):x∉L.map K:=fun h=>by
 have:=hE.1 h
 rw[List.drop_eq_nil_of_le hk]at this
 cases this
end
theorem rIsNode_c(n:Int)(an ab aq:Option Addr)(ln cn nb cb nq cq:Nat)(w:World):Con PG N.ref05_isNode #[.agg #[.slice an ln cn,.slice ab nb cb,.slice aq nq cq],.int .i64 n] w (Ret w fun v' _=>∃d,v'= .bool d∧(d=true↔hasN ln n)):=by
 have hw:Bel w.heap.size w w:=Bel.refl
 refine in_ref05_isNode (by simp) ?_
 conv=>whnf
 refine BrS.mk (fun h1=>?_) (fun h1=>?_)
 ·conv=>whnf
  intro ρe we re
  have h1:=of_decide_eq_true h1
  exact⟨_,rfl,hw.tr re.bel,_,rfl,by rw[decide_eq_true_iff];exact⟨fun h=>⟨h1,h⟩,fun h=>h.2⟩⟩
 ·conv=>whnf
  intro ρe we re
  have h1:=of_decide_eq_false h1
  exact⟨_,rfl,hw.tr re.bel,_,rfl,(fun h=>by cases h),fun h=>absurd h.1 h1⟩
theorem within_c(n lo hi:Int)(w:World):Con PG N.base_Within #[.int .i64 n,.int .i64 lo,.int .i64 hi] w (Ret w fun v' _=>∃d,v'= .bool d∧(d=true↔lo≤n∧n≤hi)):=by
 have hw:Bel w.heap.size w w:=Bel.refl
 refine in_base_Within (by simp) ?_
 conv=>whnf
 refine BrS.mk (fun h1=>?_) (fun h1=>?_)
 ·conv=>whnf
  intro ρe we re
  have h1:=of_decide_eq_true h1
  exact⟨_,rfl,hw.tr re.bel,_,rfl,by rw[decide_eq_true_iff];exact⟨fun h=>⟨h1,h⟩,fun h=>h.2⟩⟩
 ·conv=>whnf
  intro ρe we re
  have h1:=of_decide_eq_false h1
  exact⟨_,rfl,hw.tr re.bel,_,rfl,(fun h=>by cases h),fun h=>absurd h.1 h1⟩
theorem rSignOfF_c{S:Nat→Prop}{w:World}{v:Value}{q:Rat}(hS:Old S w)(hp:RatL w S v q):Con PG N.ref01_SignOf #[v] w (Ret w fun v' _=>v'= .int .i64 (rs q)):=by
 obtain⟨a,b,h1,rfl,_,_⟩:=hp.v
 exact rSignOfR_c hS h1
set_option maxHeartbeats 2000000 in
theorem rCheck_c{S:Nat→Prop}{w:World}{vn vb vs:Value}{f:Frm}(hS:Old S w)(hf:FrameR w S vn vb vs f):Con PG N.ref05_Check #[.agg #[vn,vb,vs]] w (Ret w fun v' _=>v'= .int .i64 (errF f)):=by
 have hw:Bel w.heap.size w w:=Bel.refl
 obtain⟨an,cn,ab,cb,aq,cq,rfl,rfl,rfl,hmn,hmb,hms⟩:=hf.shape
 refine in_ref05_Check (by simp) ?_
 conv=>whnf
 refine BrS.mk (fun h0=>?_) (fun h0=>?_)
 ·have h0:=of_decide_eq_true h0
  conv=>whnf
  intro ρe we re
  exact⟨_,rfl,hw.tr re.bel,by show Value.int .i64 _=_;rw[errF,if_pos (by omega)]⟩
 have h0:=of_decide_eq_false h0
 conv=>whnf
 refine BrS.mk (fun h1=>?_) (fun h1=>?_)
 ·have h1:=of_decide_eq_true h1
  conv=>whnf
  intro ρe we re
  exact⟨_,rfl,hw.tr re.bel,by show Value.int .i64 _=_;rw[errF,if_pos (by omega)]⟩
 have h1:=of_decide_eq_false h1
 conv=>whnf
 refine BrS.mk (fun h2=>?_) (fun h2=>?_)
 ·have h2:=of_decide_eq_true h2
  conv=>whnf
  intro ρe we re
  exact⟨_,rfl,hw.tr re.bel,by show Value.int .i64 _=_;rw[errF,if_pos (by omega)]⟩
 have h2:=of_decide_eq_false h2
 conv=>whnf
 refine⟨Nat×World×Iv,fun z=>⟨[(1,.o (.p 0 0)),(3,.o (.v (.int .i64 ((z.1:Nat):Int))))],[(0,.box T.Frame [.v (.slice an f.nodes.length cn),.v (.slice ab f.bars.length cb),.v (.slice aq f.sups.length cq)])],1,z.2.2,z.2.1⟩,fun z=>f.nodes.length-z.1,
  fun z=>z.1≤f.nodes.length∧Bel w.heap.size w z.2.1∧firstE nodeE [] f.nodes=firstE nodeE (f.nodes.take z.1) (f.nodes.drop z.1),?_,?_⟩
 ·intro ρ w' r3
  exact⟨(0,w',_),⟨Nat.zero_le _,hw.tr r3.bel,rfl⟩,Sub.gen [] r3 ⟨rfl,trivial⟩ ⟨rfl,rfl,trivial⟩ (by simp[ScH,Blk.scopd,At.sc]) (by simp[ScE,SV.sc,At.sc,initE]) (by rfl) (fun lo hi h=>h)⟩
 clear hw
 rintro⟨i,w1,iv⟩ ⟨hi,hw,hE⟩
 dsimp only at hi hw hE ⊢
 conv=>whnf
 refine BrS.mk (fun hib=>?_) (fun hib=>?_)
 ·have hib:i<f.nodes.length:=by simpa using hib
  obtain⟨b,hx⟩:∃b,f.nodes[i]? =some b:=⟨_,List.getElem?_eq_getElem hib⟩
  have hLl:(f.nodes.take i).length=i:=by rw[List.length_take];omega
  obtain⟨adb,cs,hab,hF,-,hlb⟩:=hf.nodes.load (by decide) hx
  have hF:cs=[.int .i64 b.1,.int .i64 b.2.1,.int .i64 b.2.2]:=hF
  subst hF
  conv=>whnf
  refine⟨adb,hab,⟨by omega,by omega⟩,?_⟩
  conv=>whnf
  refine⟨[.int .i64 b.1,.int .i64 b.2.1,.int .i64 b.2.2],rfl,fun ρ w' r j u hu=>?_,?_⟩
  ·obtain⟨k1,k2⟩:=hlb j u hu
   rw[Int.toNat_natCast,cell_of_heap (w:=w) (w2:=w') (by rw[addB,addB];exact(hw.tr r.bel).block _ (hS _ k1))]
   exact k2
  conv=>whnf
  refine callE_S (cE hw (Φ:=fun _ w' v w2=>∃d,v= .bool d∧(d=true↔inB b.1)) (fun ρ w' r=>within_c _ _ _ w') ?_)
  rintro ρ wa1 v1 wb1 iv1 r he hw h_ ⟨d0,rfl,hz0⟩
  clear r
  cases d0
  ·have hz0:¬inB b.1:=fun h=>by have:=hz0.2 h;cases this
   conv=>whnf
   intro ρe we re
   exact⟨_,rfl,hw.tr re.bel,by show Value.int .i64 _=_;rw[errF,if_neg (by omega),if_pos (by rw[hE,firstE_ret hx (show nodeE (f.nodes.take i) b=2 by rw[nodeE,if_neg (fun h=>hz0 h.1)]) (by decide)];decide),hE,firstE_ret hx (show nodeE (f.nodes.take i) b=2 by rw[nodeE,if_neg (fun h=>hz0 h.1)]) (by decide)]⟩
  replace hz0:=hz0.1 rfl
  conv=>whnf
  refine callE_S (cE hw (Φ:=fun _ w' v w2=>∃d,v= .bool d∧(d=true↔inB b.2.1)) (fun ρ w' r=>within_c _ _ _ w') ?_)
  rintro ρ wa2 v2 wb2 iv2 r he hw h_ ⟨d1,rfl,hz1⟩
  clear r
  cases d1
  ·have hz1:¬inB b.2.1:=fun h=>by have:=hz1.2 h;cases this
   conv=>whnf
   intro ρe we re
   exact⟨_,rfl,hw.tr re.bel,by show Value.int .i64 _=_;rw[errF,if_neg (by omega),if_pos (by rw[hE,firstE_ret hx (show nodeE (f.nodes.take i) b=2 by rw[nodeE,if_neg (fun h=>hz1 h.2.1)]) (by decide)];decide),hE,firstE_ret hx (show nodeE (f.nodes.take i) b=2 by rw[nodeE,if_neg (fun h=>hz1 h.2.1)]) (by decide)]⟩
  replace hz1:=hz1.1 rfl
  conv=>whnf
  refine callE_S (cE hw (Φ:=fun _ w' v w2=>∃d,v= .bool d∧(d=true↔inB b.2.2)) (fun ρ w' r=>within_c _ _ _ w') ?_)
  rintro ρ wa3 v3 wb3 iv3 r he hw h_ ⟨d2,rfl,hz2⟩
  clear r
  cases d2
  ·have hz2:¬inB b.2.2:=fun h=>by have:=hz2.2 h;cases this
   conv=>whnf
   intro ρe we re
   exact⟨_,rfl,hw.tr re.bel,by show Value.int .i64 _=_;rw[errF,if_neg (by omega),if_pos (by rw[hE,firstE_ret hx (show nodeE (f.nodes.take i) b=2 by rw[nodeE,if_neg (fun h=>hz2 h.2.2)]) (by decide)];decide),hE,firstE_ret hx (show nodeE (f.nodes.take i) b=2 by rw[nodeE,if_neg (fun h=>hz2 h.2.2)]) (by decide)]⟩
  replace hz2:=hz2.1 rfl
  conv=>whnf
  refine⟨Nat×World,fun z=>⟨[(1,.o (.p 0 0)),(3,.o (.v (.int .i64 ((i:Nat):Int)))),(4,.o (.p 1 0)),(5,.o (.v (.int .i64 ((z.1:Nat):Int))))],[(1,.box T.Node [.v (.int .i64 b.1),.v (.int .i64 b.2.1),.v (.int .i64 b.2.2)]),(0,.box T.Frame [.v (.slice an f.nodes.length cn),.v (.slice ab f.bars.length cb),.v (.slice aq f.sups.length cq)])],2,iv3,z.2⟩,fun z=>i-z.1,
   fun z=>z.1≤i∧Bel w.heap.size w z.2∧(b∈(f.nodes.take i).map id↔b∈((f.nodes.take i).drop z.1).map id),?_,?_⟩
  ·intro ρ w' r3
   exact⟨(0,w'),⟨Nat.zero_le _,hw.tr r3.bel,Iff.rfl⟩,Sub.gen [] r3 ⟨rfl,rfl,trivial⟩ ⟨rfl,rfl,rfl,rfl,trivial⟩ (by simp[ScH,Blk.scopd,At.sc]) (by simp[ScE,SV.sc,At.sc,initE]) (by rfl) (fun lo hi h=>h)⟩
  clear hw
  rintro⟨k,w2⟩ ⟨hk,hw,hK⟩
  dsimp only at hk hw hK ⊢
  conv=>whnf
  refine BrS.mk (fun hkb=>?_) (fun hkb=>?_)
  ·have hkb:k<i:=by have:=of_decide_eq_true hkb;omega
   obtain⟨c,hc⟩:∃c,f.nodes[k]? =some c:=⟨_,List.getElem?_eq_getElem (by omega)⟩
   have hcL:(f.nodes.take i)[k]? =some c:=by rw[List.getElem?_take_of_lt hkb];exact hc
   obtain⟨adc,cs2,hac,hF2,-,hlc⟩:=hf.nodes.load (by decide) hc
   have hF2:cs2=[.int .i64 c.1,.int .i64 c.2.1,.int .i64 c.2.2]:=hF2
   subst hF2
   conv=>whnf
   refine drawn_of_pi hτ hmix [.x 0,.x 1,.x 2,.x 3,.x 4,.x 5,.x 6] (by kernel_rfl) (by kernel_rfl) ?_
   conv=>whnf
   refine⟨adc,hac,⟨by omega,by omega⟩,?_⟩
   conv=>whnf
   refine⟨[.int .i64 c.1,.int .i64 c.2.1,.int .i64 c.2.2],rfl,fun ρ w' r j u hu=>?_,?_⟩
   ·obtain⟨k1,k2⟩:=hlc j u hu
    rw[Int.toNat_natCast,cell_of_heap (w:=w) (w2:=w') (by rw[addB,addB];exact(hw.tr r.bel).block _ (hS _ k1))]
    exact k2
   conv=>whnf
   refine⟨decide (c=b),fun ρ w o1 o2=>node_eql c b w o1 o2,?_⟩
   conv=>whnf
   refine BrS.mk (fun hd=>?_) (fun hd=>?_)
   ·have hd:c=b:=of_decide_eq_true hd
    have hin:b∈f.nodes.take i:=by have:=key_hit (K:=id) hcL hd;rwa [List.map_id]at this
    conv=>whnf
    intro ρe we re
    exact⟨_,rfl,hw.tr re.bel,by show Value.int .i64 _=_;rw[errF,if_neg (by omega),if_pos (by rw[hE,firstE_ret hx (show nodeE (f.nodes.take i) b=12 by rw[nodeE,if_pos ⟨hz0,hz1,hz2⟩,if_pos hin]) (by decide)];decide),hE,firstE_ret hx (show nodeE (f.nodes.take i) b=12 by rw[nodeE,if_pos ⟨hz0,hz1,hz2⟩,if_pos hin]) (by decide)]⟩
   have hd:c≠b:=of_decide_eq_false hd
   have hK2:=key_step (K:=id) hcL hd hK
   conv=>whnf
   refine⟨((k+1:Nat):Int),by rw[wrap64]<;>omega,?_⟩
   conv=>whnf
   intro ρ3 w6 r3
   exact⟨(k+1,w6),⟨hkb,hw.tr r3.bel,hK2⟩,Sub.gen [] r3 ⟨rfl,rfl,trivial⟩ ⟨rfl,rfl,rfl,rfl,trivial⟩ (by simp[ScH,Blk.scopd,At.sc]) (by simp[ScE,SV.sc,At.sc,initE]) (by rfl) (fun lo hi h=>h),by dsimp only;omega⟩
  have hkb:k=i:=by have:=of_decide_eq_false hkb;omega
  have hdup:=key_end (by rw[hLl];omega) hK
  rw[List.map_id]at hdup
  conv=>whnf
  rw[firstE_step hx (nodeE_zero.2 ⟨⟨hz0,hz1,hz2⟩,hdup⟩)]at hE
  conv=>whnf
  refine⟨((i+1:Nat):Int),by rw[wrap64]<;>omega,?_⟩
  conv=>whnf
  intro ρ3 w6 r3
  exact⟨(i+1,w6,_),⟨hib,hw.tr r3.bel,hE⟩,Sub.gen [] r3 ⟨rfl,trivial⟩ ⟨rfl,rfl,trivial⟩ (by simp[ScH,Blk.scopd,At.sc]) (by simp[ScE,SV.sc,At.sc,initE]) (by rfl) (fun lo hi h=>h),by dsimp only;omega⟩
 have hib:i=f.nodes.length:=Nat.le_antisymm hi (by simpa using hib)
 rw[firstE_end (by omega)]at hE
 clear hib hi
 conv=>whnf
 refine⟨Nat×World×Iv,fun z=>⟨[(1,.o (.p 0 0)),(6,.o (.v (.int .i64 ((z.1:Nat):Int))))],[(0,.box T.Frame [.v (.slice an f.nodes.length cn),.v (.slice ab f.bars.length cb),.v (.slice aq f.sups.length cq)])],1,z.2.2,z.2.1⟩,fun z=>f.bars.length-z.1,
  fun z=>z.1≤f.bars.length∧Bel w.heap.size w z.2.1∧firstE (barE f.nodes.length) [] f.bars=firstE (barE f.nodes.length) (f.bars.take z.1) (f.bars.drop z.1),?_,?_⟩
 ·intro ρ w' r3
  exact⟨(0,w',_),⟨Nat.zero_le _,hw.tr r3.bel,rfl⟩,Sub.gen [] r3 ⟨rfl,trivial⟩ ⟨rfl,rfl,trivial⟩ (by simp[ScH,Blk.scopd,At.sc]) (by simp[ScE,SV.sc,At.sc,initE]) (by rfl) (fun lo hi h=>h)⟩
 clear hw
 rintro⟨i,w1,iv⟩ ⟨hi,hw,hE2⟩
 dsimp only at hi hw hE2 ⊢
 conv=>whnf
 refine BrS.mk (fun hib=>?_) (fun hib=>?_)
 ·have hib:i<f.bars.length:=by simpa using hib
  obtain⟨b,hx⟩:∃b,f.bars[i]? =some b:=⟨_,List.getElem?_eq_getElem hib⟩
  have hLl:(f.bars.take i).length=i:=by rw[List.length_take];omega
  obtain⟨adb,cs,hab,hF,-,hlb⟩:=hf.bars.load (by decide) hx
  obtain⟨g0,g1,g2,g3,g4,g5,g6,g7,rfl,hF⟩:=hF
  conv=>whnf
  refine⟨adb,hab,⟨by omega,by omega⟩,?_⟩
  conv=>whnf
  refine⟨[.int .i64 b.1,.int .i64 b.2.1,.bool g0,.slice g1 g2 g3,.bool g4,.slice g5 g6 g7],rfl,fun ρ w' r j u hu=>?_,?_⟩
  ·obtain⟨k1,k2⟩:=hlb j u hu
   rw[Int.toNat_natCast,cell_of_heap (w:=w) (w2:=w') (by rw[addB,addB];exact(hw.tr r.bel).block _ (hS _ k1))]
   exact k2
  conv=>whnf
  refine callE_S (cE hw (Φ:=fun _ w' v w2=>∃d,v= .bool d∧(d=true↔hasN f.nodes.length b.1)) (fun ρ w' r=>rIsNode_c _ _ _ _ _ _ _ _ _ _ w') ?_)
  rintro ρ wa1 v1 wb1 iv1 r he hw h_ ⟨d0,rfl,hz0⟩
  clear r
  cases d0
  ·have hz0:¬hasN f.nodes.length b.1:=fun h=>by have:=hz0.2 h;cases this
   conv=>whnf
   intro ρe we re
   exact⟨_,rfl,hw.tr re.bel,by show Value.int .i64 _=_;rw[errF,if_neg (by omega),if_neg (by rw[hE];decide),if_pos (by rw[hE2,firstE_ret hx (show barE f.nodes.length (f.bars.take i) b=6 by rw[barE,if_neg (fun h=>hz0 h.1)]) (by decide)];decide),hE2,firstE_ret hx (show barE f.nodes.length (f.bars.take i) b=6 by rw[barE,if_neg (fun h=>hz0 h.1)]) (by decide)]⟩
  replace hz0:=hz0.1 rfl
  conv=>whnf
  refine callE_S (cE hw (Φ:=fun _ w' v w2=>∃d,v= .bool d∧(d=true↔hasN f.nodes.length b.2.1)) (fun ρ w' r=>rIsNode_c _ _ _ _ _ _ _ _ _ _ w') ?_)
  rintro ρ wa2 v2 wb2 iv2 r he hw h_ ⟨d1,rfl,hz1⟩
  clear r
  cases d1
  ·have hz1:¬hasN f.nodes.length b.2.1:=fun h=>by have:=hz1.2 h;cases this
   conv=>whnf
   intro ρe we re
   exact⟨_,rfl,hw.tr re.bel,by show Value.int .i64 _=_;rw[errF,if_neg (by omega),if_neg (by rw[hE];decide),if_pos (by rw[hE2,firstE_ret hx (show barE f.nodes.length (f.bars.take i) b=6 by rw[barE,if_neg (fun h=>hz1 h.2)]) (by decide)];decide),hE2,firstE_ret hx (show barE f.nodes.length (f.bars.take i) b=6 by rw[barE,if_neg (fun h=>hz1 h.2)]) (by decide)]⟩
  replace hz1:=hz1.1 rfl
  conv=>whnf
  refine BrS.mk (fun hab2=>?_) (fun hab2=>?_)
  ·have hab2:b.1=b.2.1:=by simpa using hab2
   conv=>whnf
   intro ρe we re
   exact⟨_,rfl,hw.tr re.bel,by show Value.int .i64 _=_;rw[errF,if_neg (by omega),if_neg (by rw[hE];decide),if_pos (by rw[hE2,firstE_ret hx (show barE f.nodes.length (f.bars.take i) b=3 by rw[barE,if_pos ⟨hz0,hz1⟩,if_pos hab2]) (by decide)];decide),hE2,firstE_ret hx (show barE f.nodes.length (f.bars.take i) b=3 by rw[barE,if_pos ⟨hz0,hz1⟩,if_pos hab2]) (by decide)]⟩
  have hab2:b.1≠b.2.1:=by simpa using hab2
  conv=>whnf
  refine⟨Nat×World,fun z=>⟨[(1,.o (.p 0 0)),(6,.o (.v (.int .i64 ((i:Nat):Int)))),(7,.o (.p 1 0)),(8,.o (.v (.int .i64 ((z.1:Nat):Int))))],[(1,.box T.Bar [.v (.int .i64 b.1),.v (.int .i64 b.2.1),.v (.bool g0),.v (.slice g1 g2 g3),.v (.bool g4),.v (.slice g5 g6 g7)]),(0,.box T.Frame [.v (.slice an f.nodes.length cn),.v (.slice ab f.bars.length cb),.v (.slice aq f.sups.length cq)])],2,iv2,z.2⟩,fun z=>i-z.1,
   fun z=>z.1≤i∧Bel w.heap.size w z.2∧(barK b∈(f.bars.take i).map barK↔barK b∈((f.bars.take i).drop z.1).map barK),?_,?_⟩
  ·intro ρ w' r3
   exact⟨(0,w'),⟨Nat.zero_le _,hw.tr r3.bel,Iff.rfl⟩,Sub.gen [] r3 ⟨rfl,rfl,trivial⟩ ⟨rfl,rfl,rfl,rfl,trivial⟩ (by simp[ScH,Blk.scopd,At.sc]) (by simp[ScE,SV.sc,At.sc,initE]) (by rfl) (fun lo hi h=>h)⟩
  clear hw
  rintro⟨k,w2⟩ ⟨hk,hw,hK⟩
  dsimp only at hk hw hK ⊢
  conv=>whnf
  refine BrS.mk (fun hkb=>?_) (fun hkb=>?_)
  ·have hkb:k<i:=by have:=of_decide_eq_true hkb;omega
   obtain⟨c,hc⟩:∃c,f.bars[k]? =some c:=⟨_,List.getElem?_eq_getElem (by omega)⟩
   have hcL:(f.bars.take i)[k]? =some c:=by rw[List.getElem?_take_of_lt hkb];exact hc
   obtain⟨adc,cs2,hac,hF2,-,hlc⟩:=hf.bars.load (by decide) hc
   obtain⟨q0,q1,q2,q3,q4,q5,q6,q7,rfl,-⟩:=hF2
   conv=>whnf
   refine⟨adc,hac,⟨by omega,by omega⟩,?_⟩
   conv=>whnf
   refine⟨[.int .i64 c.1,.int .i64 c.2.1,.bool q0,.slice q1 q2 q3,.bool q4,.slice q5 q6 q7],rfl,fun ρ w' r j u hu=>?_,?_⟩
   ·obtain⟨k1,k2⟩:=hlc j u hu
    rw[Int.toNat_natCast,cell_of_heap (w:=w) (w2:=w') (by rw[addB,addB];exact(hw.tr r.bel).block _ (hS _ k1))]
    exact k2
   conv=>whnf
   refine BrS.mk (fun e1=>?_) (fun e1=>?_)
   ·have e1:(c.1=b.1):=by simpa using e1
    conv=>whnf
    refine BrS.mk (fun e2=>?_) (fun e2=>?_)
    ·have e2:(c.2.1=b.2.1):=by simpa using e2
     have hin:=key_hit (K:=barK) hcL (show barK c=barK b by rw[barK_eq];omega)
     conv=>whnf
     intro ρe we re
     exact⟨_,rfl,hw.tr re.bel,by show Value.int .i64 _=_;rw[errF,if_neg (by omega),if_neg (by rw[hE];decide),if_pos (by rw[hE2,firstE_ret hx (show barE f.nodes.length (f.bars.take i) b=5 by rw[barE,if_pos ⟨hz0,hz1⟩,if_neg hab2,if_pos hin]) (by decide)];decide),hE2,firstE_ret hx (show barE f.nodes.length (f.bars.take i) b=5 by rw[barE,if_pos ⟨hz0,hz1⟩,if_neg hab2,if_pos hin]) (by decide)]⟩
    ·have e2:¬(c.2.1=b.2.1):=by simpa using e2
     conv=>whnf
     refine BrS.mk (fun e3=>?_) (fun e3=>?_)
     ·have e3:(c.1=b.2.1):=by simpa using e3
      conv=>whnf
      refine BrS.mk (fun e4=>?_) (fun e4=>?_)
      ·have e4:(c.2.1=b.1):=by simpa using e4
       have hin:=key_hit (K:=barK) hcL (show barK c=barK b by rw[barK_eq];omega)
       conv=>whnf
       intro ρe we re
       exact⟨_,rfl,hw.tr re.bel,by show Value.int .i64 _=_;rw[errF,if_neg (by omega),if_neg (by rw[hE];decide),if_pos (by rw[hE2,firstE_ret hx (show barE f.nodes.length (f.bars.take i) b=5 by rw[barE,if_pos ⟨hz0,hz1⟩,if_neg hab2,if_pos hin]) (by decide)];decide),hE2,firstE_ret hx (show barE f.nodes.length (f.bars.take i) b=5 by rw[barE,if_pos ⟨hz0,hz1⟩,if_neg hab2,if_pos hin]) (by decide)]⟩
      ·have e4:¬(c.2.1=b.1):=by simpa using e4
       have hK2:=key_step (K:=barK) hcL (show barK c≠barK b by rw[Ne,barK_eq];omega) hK
       conv=>whnf
       refine⟨((k+1:Nat):Int),by rw[wrap64]<;>omega,?_⟩
       conv=>whnf
       intro ρ3 w6 r3
       exact⟨(k+1,w6),⟨hkb,hw.tr r3.bel,hK2⟩,Sub.gen [] r3 ⟨rfl,rfl,trivial⟩ ⟨rfl,rfl,rfl,rfl,trivial⟩ (by simp[ScH,Blk.scopd,At.sc]) (by simp[ScE,SV.sc,At.sc,initE]) (by rfl) (fun lo hi h=>h),by dsimp only;omega⟩
     ·have e3:¬(c.1=b.2.1):=by simpa using e3
      have hK2:=key_step (K:=barK) hcL (show barK c≠barK b by rw[Ne,barK_eq];omega) hK
      conv=>whnf
      refine⟨((k+1:Nat):Int),by rw[wrap64]<;>omega,?_⟩
      conv=>whnf
      intro ρ3 w6 r3
      exact⟨(k+1,w6),⟨hkb,hw.tr r3.bel,hK2⟩,Sub.gen [] r3 ⟨rfl,rfl,trivial⟩ ⟨rfl,rfl,rfl,rfl,trivial⟩ (by simp[ScH,Blk.scopd,At.sc]) (by simp[ScE,SV.sc,At.sc,initE]) (by rfl) (fun lo hi h=>h),by dsimp only;omega⟩
   ·have e1:¬(c.1=b.1):=by simpa using e1
    conv=>whnf
    refine BrS.mk (fun e3=>?_) (fun e3=>?_)
    ·have e3:(c.1=b.2.1):=by simpa using e3
     conv=>whnf
     refine BrS.mk (fun e4=>?_) (fun e4=>?_)
     ·have e4:(c.2.1=b.1):=by simpa using e4
      have hin:=key_hit (K:=barK) hcL (show barK c=barK b by rw[barK_eq];omega)
      conv=>whnf
      intro ρe we re
      exact⟨_,rfl,hw.tr re.bel,by show Value.int .i64 _=_;rw[errF,if_neg (by omega),if_neg (by rw[hE];decide),if_pos (by rw[hE2,firstE_ret hx (show barE f.nodes.length (f.bars.take i) b=5 by rw[barE,if_pos ⟨hz0,hz1⟩,if_neg hab2,if_pos hin]) (by decide)];decide),hE2,firstE_ret hx (show barE f.nodes.length (f.bars.take i) b=5 by rw[barE,if_pos ⟨hz0,hz1⟩,if_neg hab2,if_pos hin]) (by decide)]⟩
     ·have e4:¬(c.2.1=b.1):=by simpa using e4
      have hK2:=key_step (K:=barK) hcL (show barK c≠barK b by rw[Ne,barK_eq];omega) hK
      conv=>whnf
      refine⟨((k+1:Nat):Int),by rw[wrap64]<;>omega,?_⟩
      conv=>whnf
      intro ρ3 w6 r3
      exact⟨(k+1,w6),⟨hkb,hw.tr r3.bel,hK2⟩,Sub.gen [] r3 ⟨rfl,rfl,trivial⟩ ⟨rfl,rfl,rfl,rfl,trivial⟩ (by simp[ScH,Blk.scopd,At.sc]) (by simp[ScE,SV.sc,At.sc,initE]) (by rfl) (fun lo hi h=>h),by dsimp only;omega⟩
    ·have e3:¬(c.1=b.2.1):=by simpa using e3
     have hK2:=key_step (K:=barK) hcL (show barK c≠barK b by rw[Ne,barK_eq];omega) hK
     conv=>whnf
     refine⟨((k+1:Nat):Int),by rw[wrap64]<;>omega,?_⟩
     conv=>whnf
     intro ρ3 w6 r3
     exact⟨(k+1,w6),⟨hkb,hw.tr r3.bel,hK2⟩,Sub.gen [] r3 ⟨rfl,rfl,trivial⟩ ⟨rfl,rfl,rfl,rfl,trivial⟩ (by simp[ScH,Blk.scopd,At.sc]) (by simp[ScE,SV.sc,At.sc,initE]) (by rfl) (fun lo hi h=>h),by dsimp only;omega⟩
  have hkb:k=i:=by have:=of_decide_eq_false hkb;omega
  have hdup:=key_end (by rw[hLl];omega) hK
  conv=>whnf
  refine callE_S (cE hw (Φ:=fun _ w' v w2=>v= .int .i64 (rs b.2.2)) (fun ρ w' r=>(rSignOfF_c (fun g hg=>by have:=hS g hg;have:=r.baseLe;omega) (hF.keep fun g hg=>(hw.tr r.bel).block g (hS g hg)))) ?_)
  rintro ρ wa3 v3 wb3 iv3 r he hw h_ rfl
  clear r
  obtain⟨cf,hcf⟩:∃c,rs b.2.2=c:=⟨_,rfl⟩
  rw[hcf]
  conv=>whnf
  refine BrS.mk (fun hd2=>?_) (fun hd2=>?_)
  ·have hd2:b.2.2≤0:=by have:=of_decide_eq_true hd2;rw[←Rat.not_lt,←rs_pos_iff];omega
   conv=>whnf
   intro ρe we re
   exact⟨_,rfl,hw.tr re.bel,by show Value.int .i64 _=_;rw[errF,if_neg (by omega),if_neg (by rw[hE];decide),if_pos (by rw[hE2,firstE_ret hx (show barE f.nodes.length (f.bars.take i) b=2 by rw[barE,if_pos ⟨hz0,hz1⟩,if_neg hab2,if_neg hdup,if_pos hd2]) (by decide)];decide),hE2,firstE_ret hx (show barE f.nodes.length (f.bars.take i) b=2 by rw[barE,if_pos ⟨hz0,hz1⟩,if_neg hab2,if_neg hdup,if_pos hd2]) (by decide)]⟩
  have hd2:0<b.2.2:=by have:=of_decide_eq_false hd2;rw[←rs_pos_iff];omega
  rw[firstE_step hx (barE_zero.2 ⟨⟨hz0,hz1⟩,hab2,hdup,hd2⟩)]at hE2
  conv=>whnf
  refine⟨((i+1:Nat):Int),by rw[wrap64]<;>omega,?_⟩
  conv=>whnf
  intro ρ3 w6 r3
  exact⟨(i+1,w6,_),⟨hib,hw.tr r3.bel,hE2⟩,Sub.gen [] r3 ⟨rfl,trivial⟩ ⟨rfl,rfl,trivial⟩ (by simp[ScH,Blk.scopd,At.sc]) (by simp[ScE,SV.sc,At.sc,initE]) (by rfl) (fun lo hi h=>h),by dsimp only;omega⟩
 have hib:i=f.bars.length:=Nat.le_antisymm hi (by simpa using hib)
 rw[firstE_end (by omega)]at hE2
 clear hib hi
 conv=>whnf
 refine⟨Nat×World×Iv,fun z=>⟨[(1,.o (.p 0 0)),(10,.o (.v (.int .i64 ((z.1:Nat):Int))))],[(0,.box T.Frame [.v (.slice an f.nodes.length cn),.v (.slice ab f.bars.length cb),.v (.slice aq f.sups.length cq)])],1,z.2.2,z.2.1⟩,fun z=>f.sups.length-z.1,
  fun z=>z.1≤f.sups.length∧Bel w.heap.size w z.2.1∧firstE (supE f.nodes.length) [] f.sups=firstE (supE f.nodes.length) (f.sups.take z.1) (f.sups.drop z.1),?_,?_⟩
 ·intro ρ w' r3
  exact⟨(0,w',_),⟨Nat.zero_le _,hw.tr r3.bel,rfl⟩,Sub.gen [] r3 ⟨rfl,trivial⟩ ⟨rfl,rfl,trivial⟩ (by simp[ScH,Blk.scopd,At.sc]) (by simp[ScE,SV.sc,At.sc,initE]) (by rfl) (fun lo hi h=>h)⟩
 clear hw
 rintro⟨i,w1,iv⟩ ⟨hi,hw,hE3⟩
 dsimp only at hi hw hE3 ⊢
 conv=>whnf
 refine BrS.mk (fun hib=>?_) (fun hib=>?_)
 ·have hib:i<f.sups.length:=by simpa using hib
  obtain⟨b,hx⟩:∃b,f.sups[i]? =some b:=⟨_,List.getElem?_eq_getElem hib⟩
  have hLl:(f.sups.take i).length=i:=by rw[List.length_take];omega
  obtain⟨adb,cs,hab,hF,-,hlb⟩:=hf.sups.load (by decide) hx
  obtain⟨g0,g1,g2,g3,g4,g5,g6,g7,rfl,hF⟩:=hF
  conv=>whnf
  refine⟨adb,hab,⟨by omega,by omega⟩,?_⟩
  conv=>whnf
  refine⟨[.int .i64 b.1,.int .i64 b.2.1,.bool g0,.slice g1 g2 g3,.bool g4,.slice g5 g6 g7],rfl,fun ρ w' r j u hu=>?_,?_⟩
  ·obtain⟨k1,k2⟩:=hlb j u hu
   rw[Int.toNat_natCast,cell_of_heap (w:=w) (w2:=w') (by rw[addB,addB];exact(hw.tr r.bel).block _ (hS _ k1))]
   exact k2
  conv=>whnf
  refine callE_S (cE hw (Φ:=fun _ w' v w2=>∃d,v= .bool d∧(d=true↔hasN f.nodes.length b.1)) (fun ρ w' r=>rIsNode_c _ _ _ _ _ _ _ _ _ _ w') ?_)
  rintro ρ wa1 v1 wb1 iv1 r he hw h_ ⟨d0,rfl,hz0⟩
  clear r
  cases d0
  ·have hz0:¬hasN f.nodes.length b.1:=fun h=>by have:=hz0.2 h;cases this
   conv=>whnf
   intro ρe we re
   exact⟨_,rfl,hw.tr re.bel,by show Value.int .i64 _=_;rw[errF,if_neg (by omega),if_neg (by rw[hE];decide),if_neg (by rw[hE2];decide),hE3,firstE_ret hx (show supE f.nodes.length (f.sups.take i) b=6 by rw[supE,if_neg hz0]) (by decide)]⟩
  replace hz0:=hz0.1 rfl
  conv=>whnf
  refine callE_S (cE hw (Φ:=fun _ w' v w2=>∃d,v= .bool d∧(d=true↔0≤b.2.1∧b.2.1≤2)) (fun ρ w' r=>within_c _ _ _ w') ?_)
  rintro ρ wa2 v2 wb2 iv2 r he hw h_ ⟨d1,rfl,hax⟩
  clear r
  cases d1
  ·have hax:¬(0≤b.2.1∧b.2.1≤2):=fun h=>by have:=hax.2 h;cases this
   conv=>whnf
   intro ρe we re
   exact⟨_,rfl,hw.tr re.bel,by show Value.int .i64 _=_;rw[errF,if_neg (by omega),if_neg (by rw[hE];decide),if_neg (by rw[hE2];decide),hE3,firstE_ret hx (show supE f.nodes.length (f.sups.take i) b=2 by rw[supE,if_pos hz0,if_neg hax]) (by decide)]⟩
  replace hax:=hax.1 rfl
  conv=>whnf
  refine⟨Nat×World,fun z=>⟨[(1,.o (.p 0 0)),(10,.o (.v (.int .i64 ((i:Nat):Int)))),(11,.o (.p 1 0)),(12,.o (.v (.int .i64 ((z.1:Nat):Int))))],[(1,.box T.Support [.v (.int .i64 b.1),.v (.int .i64 b.2.1),.v (.bool g0),.v (.slice g1 g2 g3),.v (.bool g4),.v (.slice g5 g6 g7)]),(0,.box T.Frame [.v (.slice an f.nodes.length cn),.v (.slice ab f.bars.length cb),.v (.slice aq f.sups.length cq)])],2,iv2,z.2⟩,fun z=>i-z.1,
   fun z=>z.1≤i∧Bel w.heap.size w z.2∧(supK b∈(f.sups.take i).map supK↔supK b∈((f.sups.take i).drop z.1).map supK),?_,?_⟩
  ·intro ρ w' r3
   exact⟨(0,w'),⟨Nat.zero_le _,hw.tr r3.bel,Iff.rfl⟩,Sub.gen [] r3 ⟨rfl,rfl,trivial⟩ ⟨rfl,rfl,rfl,rfl,trivial⟩ (by simp[ScH,Blk.scopd,At.sc]) (by simp[ScE,SV.sc,At.sc,initE]) (by rfl) (fun lo hi h=>h)⟩
  clear hw
  rintro⟨k,w2⟩ ⟨hk,hw,hK⟩
  dsimp only at hk hw hK ⊢
  conv=>whnf
  refine BrS.mk (fun hkb=>?_) (fun hkb=>?_)
  ·have hkb:k<i:=by have:=of_decide_eq_true hkb;omega
   obtain⟨c,hc⟩:∃c,f.sups[k]? =some c:=⟨_,List.getElem?_eq_getElem (by omega)⟩
   have hcL:(f.sups.take i)[k]? =some c:=by rw[List.getElem?_take_of_lt hkb];exact hc
   obtain⟨adc,cs2,hac,hF2,-,hlc⟩:=hf.sups.load (by decide) hc
   obtain⟨q0,q1,q2,q3,q4,q5,q6,q7,rfl,-⟩:=hF2
   conv=>whnf
   refine drawn_of_pi hτ hmix [.x 0,.x 1,.x 2,.x 3,.x 4,.x 5,.x 6,.x 7,.x 8,.x 9,.x 10,.x 11,.x 12,.x 13,.x 14,.x 15,.x 16,.x 17,.x 18,.x 19] (by kernel_rfl) (by kernel_rfl) ?_
   conv=>whnf
   refine⟨adc,hac,⟨by omega,by omega⟩,?_⟩
   conv=>whnf
   refine⟨.int .i64 c.1,fun ρ w' r=>?_,?_⟩
   ·obtain⟨k1,k2⟩:=hlc 0 _ rfl
    rw[cell_of_heap (w:=w) (w2:=w') (by simp only[addB];exact(hw.tr r.bel).block _ (hS _ k1))]
    simp only[Int.toNat_natCast,addA]at k2 ⊢
    exact k2
   conv=>whnf
   refine BrS.mk (fun e1=>?_) (fun e1=>?_)
   ·have e1:(c.1=b.1):=by simpa using e1
    conv=>whnf
    refine⟨adc,hac,⟨by omega,by omega⟩,?_⟩
    conv=>whnf
    refine⟨.int .i64 c.2.1,fun ρ w' r=>?_,?_⟩
    ·obtain⟨k1,k2⟩:=hlc 1 _ rfl
     rw[cell_of_heap (w:=w) (w2:=w') (by simp only[addB];exact(hw.tr r.bel).block _ (hS _ k1))]
     simp only[Int.toNat_natCast,addA]at k2 ⊢
     exact k2
    conv=>whnf
    refine BrS.mk (fun e2=>?_) (fun e2=>?_)
    ·have e2:(c.2.1=b.2.1):=by simpa using e2
     have hin:=key_hit (K:=supK) hcL (show supK c=supK b by rw[supK_eq];omega)
     conv=>whnf
     intro ρe we re
     exact⟨_,rfl,hw.tr re.bel,by show Value.int .i64 _=_;rw[errF,if_neg (by omega),if_neg (by rw[hE];decide),if_neg (by rw[hE2];decide),hE3,firstE_ret hx (show supE f.nodes.length (f.sups.take i) b=5 by rw[supE,if_pos hz0,if_pos hax,if_pos hin]) (by decide)]⟩
    ·have e2:¬(c.2.1=b.2.1):=by simpa using e2
     have hK2:=key_step (K:=supK) hcL (show supK c≠supK b by rw[Ne,supK_eq];omega) hK
     conv=>whnf
     refine⟨((k+1:Nat):Int),by rw[wrap64]<;>omega,?_⟩
     conv=>whnf
     intro ρ3 w6 r3
     exact⟨(k+1,w6),⟨hkb,hw.tr r3.bel,hK2⟩,Sub.gen [] r3 ⟨rfl,rfl,trivial⟩ ⟨rfl,rfl,rfl,rfl,trivial⟩ (by simp[ScH,Blk.scopd,At.sc]) (by simp[ScE,SV.sc,At.sc,initE]) (by rfl) (fun lo hi h=>h),by dsimp only;omega⟩
   ·have e1:¬(c.1=b.1):=by simpa using e1
    have hK2:=key_step (K:=supK) hcL (show supK c≠supK b by rw[Ne,supK_eq];omega) hK
    conv=>whnf
    refine⟨((k+1:Nat):Int),by rw[wrap64]<;>omega,?_⟩
    conv=>whnf
    intro ρ3 w6 r3
    exact⟨(k+1,w6),⟨hkb,hw.tr r3.bel,hK2⟩,Sub.gen [] r3 ⟨rfl,rfl,trivial⟩ ⟨rfl,rfl,rfl,rfl,trivial⟩ (by simp[ScH,Blk.scopd,At.sc]) (by simp[ScE,SV.sc,At.sc,initE]) (by rfl) (fun lo hi h=>h),by dsimp only;omega⟩
  have hkb:k=i:=by have:=of_decide_eq_false hkb;omega
  have hdup:=key_end (by rw[hLl];omega) hK
  conv=>whnf
  refine callE_S (cE hw (Φ:=fun _ w' v w2=>v= .int .i64 (rs b.2.2)) (fun ρ w' r=>(rSignOfF_c (fun g hg=>by have:=hS g hg;have:=r.baseLe;omega) (hF.keep fun g hg=>(hw.tr r.bel).block g (hS g hg)))) ?_)
  rintro ρ wa3 v3 wb3 iv3 r he hw h_ rfl
  clear r
  obtain⟨cf,hcf⟩:∃c,rs b.2.2=c:=⟨_,rfl⟩
  rw[hcf]
  conv=>whnf
  refine BrS.mk (fun hd2=>?_) (fun hd2=>?_)
  ·have hd2:b.2.2<0:=by have:=of_decide_eq_true hd2;rw[←rs_neg_iff];omega
   conv=>whnf
   intro ρe we re
   exact⟨_,rfl,hw.tr re.bel,by show Value.int .i64 _=_;rw[errF,if_neg (by omega),if_neg (by rw[hE];decide),if_neg (by rw[hE2];decide),hE3,firstE_ret hx (show supE f.nodes.length (f.sups.take i) b=2 by rw[supE,if_pos hz0,if_pos hax,if_neg hdup,if_pos hd2]) (by decide)]⟩
  have hd2:0≤b.2.2:=by have:=of_decide_eq_false hd2;rw[←Rat.not_lt,←rs_neg_iff];omega
  rw[firstE_step hx (supE_zero.2 ⟨hz0,hax,hdup,hd2⟩)]at hE3
  conv=>whnf
  refine⟨((i+1:Nat):Int),by rw[wrap64]<;>omega,?_⟩
  conv=>whnf
  intro ρ3 w6 r3
  exact⟨(i+1,w6,_),⟨hib,hw.tr r3.bel,hE3⟩,Sub.gen [] r3 ⟨rfl,trivial⟩ ⟨rfl,rfl,trivial⟩ (by simp[ScH,Blk.scopd,At.sc]) (by simp[ScE,SV.sc,At.sc,initE]) (by rfl) (fun lo hi h=>h),by dsimp only;omega⟩
 have hib:i=f.sups.length:=Nat.le_antisymm hi (by simpa using hib)
 rw[firstE_end (by omega)]at hE3
 conv=>whnf
 intro ρe we re
 exact⟨_,rfl,hw.tr re.bel,by show Value.int .i64 _=_;rw[errF,if_neg (by omega),if_neg (by rw[hE];decide),if_neg (by rw[hE2];decide),hE3]⟩
end Go.Ex

/- The laws' guards: small frames, short limits. Printed by program. No condition but sizes. -/
namespace Go.Ex
open Go Go.Sx Go.Proofs

def rq(p:Int×Int):Rat:=ratio p.1 p.2
/-- a frame as it is handed in: its flexibilities are raw -/
structure FrmW where
 nodes:List (Int×Int×Int)
 bars:List (Int×Int×(Int×Int))
 sups:List (Int×Int×(Int×Int))
def twoV(p:Int×Int×(Int×Int)):Int×Int×Rat:=(p.1,p.2.1,rq p.2.2)
def FrmW.val(f:FrmW):Frm:=⟨f.nodes,f.bars.map twoV,f.sups.map twoV⟩
def TwoW(w:World)(S:Nat→Prop)(cs:List Value)(p:Int×Int×(Int×Int)):Prop:=∃b a n c b2 a2 n2 c2,cs=[.int .i64 p.1,.int .i64 p.2.1,.bool b,.slice a n c,.bool b2,.slice a2 n2 c2]∧RatR w S (.agg #[.bool b,.slice a n c,.bool b2,.slice a2 n2 c2]) p.2.2.1 p.2.2.2
structure FrameW(w:World)(S:Nat→Prop)(vn vb vs:Value)(f:FrmW):Prop where
 nodes:NodesR w S vn f.nodes
 bars:ListK 6 TwoW w S vb f.bars
 sups:ListK 6 TwoW w S vs f.sups
theorem TwoW.keep{w w2:World}{S:Nat→Prop}{cs:List Value}{p:Int×Int×(Int×Int)}(h:TwoW w S cs p)(hk:∀g,S g→w2.heap[g]? =w.heap[g]?):TwoW w2 S cs p:=by
 obtain⟨b,a,n,c,b2,a2,n2,c2,h1,h2⟩:=h;exact⟨b,a,n,c,b2,a2,n2,c2,h1,h2.keep hk⟩
theorem FrameW.keep{w w2:World}{S:Nat→Prop}{vn vb vs:Value}{f:FrmW}(h:FrameW w S vn vb vs f)(hk:∀g,S g→w2.heap[g]? =w.heap[g]?):FrameW w2 S vn vb vs f:=
 ⟨ListK.keep (w:=w) (fun _ _ h=>h) h.nodes hk,ListK.keep (fun _ _ h=>h.keep hk) h.bars hk,ListK.keep (fun _ _ h=>h.keep hk) h.sups hk⟩
theorem TwoW.few{w:World}{S:Nat→Prop}{cs:List Value}{p:Int×Int×(Int×Int)}(h:TwoW w S cs p)(hf:Few3 (cs.drop 2)):TwoP w S cs (twoV p)∧rl (twoV p).2.2≤3:=by
 obtain⟨b,a,n,c,b2,a2,n2,c2,rfl,h2⟩:=h
 obtain⟨h3,h4⟩:=h2.l3 hf
 exact⟨⟨b,a,n,c,b2,a2,n2,c2,rfl,h3⟩,h4⟩
/-- lists of k cells, their cells known -/
theorem ListK.cells{α:Type}{k:Nat}{P:World→(Nat→Prop)→List Value→α→Prop}{w:World}{S:Nat→Prop}{v:Value}{xs:List α}(h:ListK k P w S v xs):
  ∃css:List (List Value),css.length=xs.length∧ListK k (fun w S cs (y:List Value×α)=>cs=y.1∧P w S cs y.2) w S v (css.zip xs)∧(∀(j:Nat) cs x,css[j]? =some cs→xs[j]? =some x→P w S cs x)∧
   ∀{β:Type} (Q:World→(Nat→Prop)→List Value→β→Prop) (ys:List β),ys.length=xs.length→(∀(j:Nat) cs y,css[j]? =some cs→ys[j]? =some y→Q w S cs y)→ListK k Q w S v ys:=by
 obtain⟨css,h1,h2,h3,h4⟩:=h
 have hz:(css.zip xs).length=xs.length:=by rw[List.length_zip,h2,Nat.min_self]
 refine⟨css,h2,⟨css,by rw[hz];exact h1,by rw[hz,h2],h3,fun j cs y k1 k2=>?_⟩,h4,fun Q ys hl hQ=>⟨css,by rw[hl];exact h1,by rw[hl,h2],h3,hQ⟩⟩
 rw[List.getElem?_zip_eq_some]at k2
 rw[k1]at k2
 exact⟨by injection k2.1,h4 j cs _ k1 k2.2⟩
theorem TwosL.of{w:World}{S:Nat→Prop}{v:Value}{xs:List (Int×Int×(Int×Int))}{css:List (List Value)}(h4:∀(j:Nat) cs x,css[j]? =some cs→xs[j]? =some x→TwoW w S cs x)
  (hQ:∀{β:Type} (Q:World→(Nat→Prop)→List Value→β→Prop) (ys:List β),ys.length=xs.length→(∀(j:Nat) cs y,css[j]? =some cs→ys[j]? =some y→Q w S cs y)→ListK 6 Q w S v ys)
  (hl:css.length=xs.length) (hf:∀j cs,j<xs.length→css[j]? =some cs→Few3 (cs.drop 2)):TwosR w S v (xs.map twoV)∧∀b∈xs.map twoV,rl b.2.2≤3:=by
 refine⟨hQ TwoP _ (List.length_map ..) fun j cs y k1 k2=>?_,fun b hb=>?_⟩
 ·rw[List.getElem?_map]at k2
  obtain⟨p,hp,rfl⟩:=Option.map_eq_some_iff.1 k2
  exact((h4 j cs p k1 hp).few (hf j cs (List.getElem?_eq_some_iff.1 hp).1 k1)).1
 ·obtain⟨p,hp,rfl⟩:=List.mem_map.1 hb
  obtain⟨j,hj⟩:=List.getElem?_of_mem hp
  have hjl:=(List.getElem?_eq_some_iff.1 hj).1
  have hc:css[j]? =some css[j]:=List.getElem?_eq_getElem (by omega)
  exact((h4 j _ p hc hj).few (hf j _ hjl hc)).2
set_option maxHeartbeats 1000000 in
theorem small5_c{S:Nat→Prop}{w:World}{vn vb vs:Value}{f:FrmW}(hS:Old S w)(hf:FrameW w S vn vb vs f):Con PG N.law05_Small #[.agg #[vn,vb,vs]] w (Ret w fun v' _=>∃d,v'= .bool d∧
  (d=true→FrameR w S vn vb vs f.val∧(∀b∈f.val.bars,rl b.2.2≤3)∧(∀b∈f.val.sups,rl b.2.2≤3)∧(errF f.val≠0∨f.val.nodes.length≤4∧f.val.bars.length≤6))):=by
 have hw:Bel w.heap.size w w:=Bel.refl
 obtain⟨an,cn,rfl,hcn,hmn⟩:=hf.nodes.shape
 obtain⟨bcs,hbl,hbz,hb4,hbQ⟩:=hf.bars.cells
 obtain⟨qcs,hql,hqz,hq4,hqQ⟩:=hf.sups.cells
 obtain⟨ab,cb,rfl,hcb,hmb⟩:=hf.bars.shape
 obtain⟨aq,cq,rfl,hcq,hms⟩:=hf.sups.shape
 refine in_law05_Small (by simp) ?_
 conv=>whnf
 refine BrS.mk (fun h0=>?_) (fun h0=>?_)
 ·conv=>whnf
  intro ρe we re
  exact⟨_,rfl,hw.tr re.bel,_,rfl,fun h=>by cases h⟩
 have h0:=of_decide_eq_false h0
 conv=>whnf
 refine BrS.mk (fun h1=>?_) (fun h1=>?_)
 ·conv=>whnf
  intro ρe we re
  exact⟨_,rfl,hw.tr re.bel,_,rfl,fun h=>by cases h⟩
 have h1:=of_decide_eq_false h1
 conv=>whnf
 refine BrS.mk (fun h2=>?_) (fun h2=>?_)
 ·conv=>whnf
  intro ρe we re
  exact⟨_,rfl,hw.tr re.bel,_,rfl,fun h=>by cases h⟩
 have h2:=of_decide_eq_false h2
 conv=>whnf
 refine⟨Nat×World×Iv,fun z=>⟨[(1,.o (.p 0 0)),(3,.o (.v (.int .i64 ((z.1:Nat):Int))))],[(0,.box T.Frame [.v (.slice an f.nodes.length cn),.v (.slice ab f.bars.length cb),.v (.slice aq f.sups.length cq)])],1,z.2.2,z.2.1⟩,fun z=>f.bars.length-z.1,
  fun z=>z.1≤f.bars.length∧Bel w.heap.size w z.2.1∧∀(j:Nat) (cs:List Value),j<z.1→bcs[j]? =some cs→Few3 (cs.drop 2),?_,?_⟩
 ·intro ρ w' r3
  exact⟨(0,w',_),⟨Nat.zero_le _,hw.tr r3.bel,fun j cs hj=>absurd hj (Nat.not_lt_zero j)⟩,Sub.gen [] r3 ⟨rfl,trivial⟩ ⟨rfl,rfl,trivial⟩ (by simp[ScH,Blk.scopd,At.sc]) (by simp[ScE,SV.sc,At.sc,initE]) (by rfl) (fun lo hi h=>h)⟩
 clear hw
 rintro⟨i,w1,iv⟩ ⟨hi,hw,hB⟩
 dsimp only at hi hw hB ⊢
 conv=>whnf
 refine BrS.mk (fun hib=>?_) (fun hib=>?_)
 ·have hib:i<f.bars.length:=by simpa using hib
  obtain⟨cs,hcs⟩:∃cs,bcs[i]? =some cs:=⟨_,List.getElem?_eq_getElem (by omega)⟩
  obtain⟨p,hp⟩:∃p,f.bars[i]? =some p:=⟨_,List.getElem?_eq_getElem hib⟩
  obtain⟨g0,g1,g2,g3,g4,g5,g6,g7,rfl,-⟩:=hb4 i cs p hcs hp
  obtain⟨adx,cs2,hax,⟨he2,-⟩,-,hat⟩:=hbz.load (by decide) (show (bcs.zip f.bars)[i]? =some (_,p) by rw[List.getElem?_zip_eq_some];exact⟨hcs,hp⟩)
  have he2:cs2=[.int .i64 p.1,.int .i64 p.2.1,.bool g0,.slice g1 g2 g3,.bool g4,.slice g5 g6 g7]:=he2
  subst he2
  conv=>whnf
  refine⟨adx,hax,⟨by omega,by omega⟩,?_⟩
  conv=>whnf
  refine⟨[.bool g0,.slice g1 g2 g3,.bool g4,.slice g5 g6 g7],rfl,fun ρ w' r j u hu=>?_,?_⟩
  ·have hj4:=(List.getElem?_eq_some_iff.1 hu).1
   obtain⟨k1,k2⟩:=hat (2+j) u (by rcases j with _|_|_|_|j<;>first|exact hu|(have:j+4<4:=hj4;omega))
   rw[cell_of_heap (w:=w) (w2:=w') (by simp only[addB];exact(hw.tr r.bel).block _ (hS _ k1))]
   simp only[Int.toNat_natCast,addA]at k2 ⊢
   first|exact k2|(rw [←k2];congr 2;omega)
  conv=>whnf
  refine callE_S (cE hw (Φ:=fun _ w' v w2=>∃d,v= .bool d∧(d=true→Few3 [.bool g0,.slice g1 g2 g3,.bool g4,.slice g5 g6 g7])) (fun ρ w' r=>(brief_c (S:=fun g=>g=(ρ 1).g) (css:=[[.bool g0,.slice g1 g2 g3,.bool g4,.slice g5 g6 g7]]) (fun g hg=>by subst hg;exact Rel.lt r (id:=1) rfl) (r.boxSeq (id:=1) (sz:=4) (n:=1) rfl rfl (by decide) (by repeat' first|refine List.forall_mem_cons.2 ⟨rfl,?_⟩|exact fun u hu=>absurd hu List.not_mem_nil)) (fun cs hc=>by rw[List.mem_singleton.1 hc];exact⟨_,_,_,_,_,_,_,_,rfl⟩)).mono fun _ _ ⟨v2,e1,e2,d,e3,e4⟩=>⟨v2,e1,e2,d,e3,fun h=>(e4 h).2 _ List.mem_cons_self⟩) ?_)
  rintro ρ wa1 v1 wb1 iv1 r he hw h_ ⟨d2,rfl,hz2⟩
  clear r
  cases d2
  ·conv=>whnf
   intro ρe we re
   exact⟨_,rfl,hw.tr re.bel,_,rfl,fun h=>by cases h⟩
  have hE2:∀j cs,j<i+1→bcs[j]? =some cs→Few3 (cs.drop 2):=fun j cs hj hc=>by
   rcases Nat.lt_or_ge j i with h|h
   ·exact hB j cs h hc
   ·have:j=i:=by omega
    subst this
    rw[hcs]at hc
    injection hc with hc
    subst hc
    exact hz2 rfl
  conv=>whnf
  refine⟨((i+1:Nat):Int),by rw[wrap64]<;>omega,?_⟩
  conv=>whnf
  intro ρ3 w6 r3
  exact⟨(i+1,w6,_),⟨hib,hw.tr r3.bel,hE2⟩,Sub.gen [] r3 ⟨rfl,trivial⟩ ⟨rfl,rfl,trivial⟩ (by simp[ScH,Blk.scopd,At.sc]) (by simp[ScE,SV.sc,At.sc,initE]) (by rfl) (fun lo hi h=>h),by dsimp only;omega⟩
 have hib:i=f.bars.length:=Nat.le_antisymm hi (by simpa using hib)
 subst hib
 clear hi
 conv=>whnf
 refine⟨Nat×World×Iv,fun z=>⟨[(1,.o (.p 0 0)),(4,.o (.v (.int .i64 ((z.1:Nat):Int))))],[(0,.box T.Frame [.v (.slice an f.nodes.length cn),.v (.slice ab f.bars.length cb),.v (.slice aq f.sups.length cq)])],1,z.2.2,z.2.1⟩,fun z=>f.sups.length-z.1,
  fun z=>z.1≤f.sups.length∧Bel w.heap.size w z.2.1∧∀(j:Nat) (cs:List Value),j<z.1→qcs[j]? =some cs→Few3 (cs.drop 2),?_,?_⟩
 ·intro ρ w' r3
  exact⟨(0,w',_),⟨Nat.zero_le _,hw.tr r3.bel,fun j cs hj=>absurd hj (Nat.not_lt_zero j)⟩,Sub.gen [] r3 ⟨rfl,trivial⟩ ⟨rfl,rfl,trivial⟩ (by simp[ScH,Blk.scopd,At.sc]) (by simp[ScE,SV.sc,At.sc,initE]) (by rfl) (fun lo hi h=>h)⟩
 clear hw
 rintro⟨i,w1,iv⟩ ⟨hi,hw,hQ⟩
 dsimp only at hi hw hQ ⊢
 conv=>whnf
 refine BrS.mk (fun hib=>?_) (fun hib=>?_)
 ·have hib:i<f.sups.length:=by simpa using hib
  obtain⟨cs,hcs⟩:∃cs,qcs[i]? =some cs:=⟨_,List.getElem?_eq_getElem (by omega)⟩
  obtain⟨p,hp⟩:∃p,f.sups[i]? =some p:=⟨_,List.getElem?_eq_getElem hib⟩
  obtain⟨g0,g1,g2,g3,g4,g5,g6,g7,rfl,-⟩:=hq4 i cs p hcs hp
  obtain⟨adx,cs2,hax,⟨he2,-⟩,-,hat⟩:=hqz.load (by decide) (show (qcs.zip f.sups)[i]? =some (_,p) by rw[List.getElem?_zip_eq_some];exact⟨hcs,hp⟩)
  have he2:cs2=[.int .i64 p.1,.int .i64 p.2.1,.bool g0,.slice g1 g2 g3,.bool g4,.slice g5 g6 g7]:=he2
  subst he2
  conv=>whnf
  refine⟨adx,hax,⟨by omega,by omega⟩,?_⟩
  conv=>whnf
  refine⟨[.bool g0,.slice g1 g2 g3,.bool g4,.slice g5 g6 g7],rfl,fun ρ w' r j u hu=>?_,?_⟩
  ·have hj4:=(List.getElem?_eq_some_iff.1 hu).1
   obtain⟨k1,k2⟩:=hat (2+j) u (by rcases j with _|_|_|_|j<;>first|exact hu|(have:j+4<4:=hj4;omega))
   rw[cell_of_heap (w:=w) (w2:=w') (by simp only[addB];exact(hw.tr r.bel).block _ (hS _ k1))]
   simp only[Int.toNat_natCast,addA]at k2 ⊢
   first|exact k2|(rw [←k2];congr 2;omega)
  conv=>whnf
  refine callE_S (cE hw (Φ:=fun _ w' v w2=>∃d,v= .bool d∧(d=true→Few3 [.bool g0,.slice g1 g2 g3,.bool g4,.slice g5 g6 g7])) (fun ρ w' r=>(brief_c (S:=fun g=>g=(ρ 1).g) (css:=[[.bool g0,.slice g1 g2 g3,.bool g4,.slice g5 g6 g7]]) (fun g hg=>by subst hg;exact Rel.lt r (id:=1) rfl) (r.boxSeq (id:=1) (sz:=4) (n:=1) rfl rfl (by decide) (by repeat' first|refine List.forall_mem_cons.2 ⟨rfl,?_⟩|exact fun u hu=>absurd hu List.not_mem_nil)) (fun cs hc=>by rw[List.mem_singleton.1 hc];exact⟨_,_,_,_,_,_,_,_,rfl⟩)).mono fun _ _ ⟨v2,e1,e2,d,e3,e4⟩=>⟨v2,e1,e2,d,e3,fun h=>(e4 h).2 _ List.mem_cons_self⟩) ?_)
  rintro ρ wa1 v1 wb1 iv1 r he hw h_ ⟨d2,rfl,hz2⟩
  clear r
  cases d2
  ·conv=>whnf
   intro ρe we re
   exact⟨_,rfl,hw.tr re.bel,_,rfl,fun h=>by cases h⟩
  have hE2:∀j cs,j<i+1→qcs[j]? =some cs→Few3 (cs.drop 2):=fun j cs hj hc=>by
   rcases Nat.lt_or_ge j i with h|h
   ·exact hQ j cs h hc
   ·have:j=i:=by omega
    subst this
    rw[hcs]at hc
    injection hc with hc
    subst hc
    exact hz2 rfl
  conv=>whnf
  refine⟨((i+1:Nat):Int),by rw[wrap64]<;>omega,?_⟩
  conv=>whnf
  intro ρ3 w6 r3
  exact⟨(i+1,w6,_),⟨hib,hw.tr r3.bel,hE2⟩,Sub.gen [] r3 ⟨rfl,trivial⟩ ⟨rfl,rfl,trivial⟩ (by simp[ScH,Blk.scopd,At.sc]) (by simp[ScE,SV.sc,At.sc,initE]) (by rfl) (fun lo hi h=>h),by dsimp only;omega⟩
 have hib:i=f.sups.length:=Nat.le_antisymm hi (by simpa using hib)
 subst hib
 clear hi
 obtain⟨kb,kb2⟩:=TwosL.of hb4 hbQ hbl hB
 obtain⟨kq,kq2⟩:=TwosL.of hq4 hqQ hql hQ
 have hR:FrameR w S (.slice an f.nodes.length cn) (.slice ab f.bars.length cb) (.slice aq f.sups.length cq) f.val:=⟨hf.nodes,kb,kq⟩
 conv=>whnf
 refine callE_S (cE hw (Φ:=fun _ w' v w2=>v= .int .i64 (errF f.val)) (fun ρ w' r=>rCheck_c (fun g hg=>by have:=hS g hg;have:=r.baseLe;omega) (hR.keep fun g hg=>(hw.tr r.bel).block g (hS g hg))) ?_)
 rintro ρ wa1 v1 wb1 iv1 r he hw h_ rfl
 clear r
 obtain⟨e,he⟩:∃e,errF f.val=e:=⟨_,rfl⟩
 rw[he]
 conv=>whnf
 refine BrS.mk (fun hd=>?_) (fun hd=>?_)
 ·have hd:e≠0:=by simpa using hd
  conv=>whnf
  intro ρe we re
  exact⟨_,rfl,hw.tr re.bel,_,rfl,fun _=>⟨hR,kb2,kq2,.inl hd⟩⟩
 have hd:e=0:=by simpa using hd
 conv=>whnf
 refine BrS.mk (fun h4=>?_) (fun h4=>?_)
 ·have h4:=of_decide_eq_true h4
  conv=>whnf
  intro ρe we re
  exact⟨_,rfl,hw.tr re.bel,_,rfl,fun h=>⟨hR,kb2,kq2,.inr ⟨by show f.nodes.length≤4;omega,by show(f.bars.map twoV).length≤6;rw[List.length_map];have:=of_decide_eq_true h;omega⟩⟩⟩
 conv=>whnf
 intro ρe we re
 exact⟨_,rfl,hw.tr re.bel,_,rfl,fun h=>by cases h⟩
end Go.Ex

/- Limits of bars and forces beyond them. Printed by program. No condition but sizes. -/
namespace Go.Ex
open Go Go.Sx Go.Proofs

section
variable{xs:List Rat}{l:List (Rat×Rat)}{i:Nat}{x:Rat}{r:Rat×Rat}
end
end Go.Ex

/- StaticsStrong of the laws of chapter 5. Printed by program. No condition. -/
namespace Go.Ex
open Go Go.Sx Go.Proofs

section
variable{S:Nat→Prop}{w w1 w':World}{H:Hp}{nx:Nat}{iv:Iv}{ρ:Nat→Sx.Val}
theorem small5_c'{vn vb vs:Value}{f:FrmW}(hS:Old S w)(hw:Bel w.heap.size w w1)(r:Rel H nx iv w.heap.size w1 ρ w')(hf:FrameW w S vn vb vs f):Con PG N.law05_Small #[.agg #[vn,vb,vs]] w' (Ret w' fun v' _=>∃d,v'= .bool d∧
  (d=true→FrameR w S vn vb vs f.val∧(∀b∈f.val.bars,rl b.2.2≤3)∧(∀b∈f.val.sups,rl b.2.2≤3)∧(errF f.val≠0∨f.val.nodes.length≤4∧f.val.bars.length≤6))):=
 have hk:∀g,S g→w'.heap[g]? =w.heap[g]? :=fun g hg=>(hw.tr r.bel).block g (hS g hg)
 (small5_c (S:=S) (fun g hg=>by have:=hS g hg;have:=r.baseLe;omega) (hf.keep hk)).mono fun _ _ ⟨v2,e1,e2,d,e3,e4⟩=>⟨v2,e1,e2,d,e3,fun h=>⟨(e4 h).1.keep fun g hg=>(hk g hg).symm,(e4 h).2⟩⟩
end
end Go.Ex

/- Limits of force densities: square roots, and a search by bits. No condition. -/
namespace Go.Ex
def isqTo(n:Nat):Nat→Nat
 |0=>0
 |k+1=>if(k+1)*(k+1)≤n then k+1 else isqTo n k
/-- the integer square root -/
def isq(n:Nat):Nat:=isqTo n n
theorem isqTo_spec(n:Nat):∀k,n<(k+1)*(k+1)→isqTo n k*isqTo n k≤n∧n<(isqTo n k+1)*(isqTo n k+1)
 |0,h=>⟨Nat.zero_le _,h⟩
 |k+1,h=>by
  rw[isqTo]
  split<;>rename_i h2
  ·exact⟨h2,h⟩
  ·exact isqTo_spec n k (by omega)
theorem isq_spec(n:Nat):isq n*isq n≤n∧n<(isq n+1)*(isq n+1):=by
 refine isqTo_spec n n ?_
 have:(n+1)*1≤(n+1)*(n+1):=Nat.mul_le_mul_left _ (by omega)
 omega
theorem isq_one{r n:Nat}(h1:r*r≤n)(h2:n<(r+1)*(r+1)):isq n=r:=sq_one (isq_spec n).1 (isq_spec n).2 h1 h2
def limN(sq st:Nat):Nat:=isq (st*st*1000*1000 / sq)
def limF(sq st:Nat):Rat:=Rat.divInt (limN sq st) 1000
theorem limN_spec{sq st:Nat}(h0:0<sq):limN sq st*limN sq st*sq≤1000*st*(1000*st)∧1000*st*(1000*st)<(limN sq st+1)*(limN sq st+1)*sq:=by
 obtain⟨h1,h2⟩:=isq_spec (st*st*1000*1000 / sq)
 have e:1000*st*(1000*st)=st*st*1000*1000:=by
  rw[Nat.mul_mul_mul_comm,Nat.mul_comm (1000*1000) (st*st),←Nat.mul_assoc]
 rw[e]
 unfold limN
 refine⟨(Nat.le_div_iff_mul_le h0).1 h1,(Nat.div_lt_iff_lt_mul h0).1 h2⟩
theorem limN_one{sq st r:Nat}(h0:0<sq)(h1:r*r*sq≤1000*st*(1000*st))(h2:1000*st*(1000*st)<(r+1)*(r+1)*sq):limN sq st=r:=by
 have e:1000*st*(1000*st)=st*st*1000*1000:=by
  rw[Nat.mul_mul_mul_comm,Nat.mul_comm (1000*1000) (st*st),←Nat.mul_assoc]
 rw[e]at h1 h2
 exact isq_one ((Nat.le_div_iff_mul_le h0).2 h1) ((Nat.div_lt_iff_lt_mul h0).2 h2)
theorem limN_le{sq st:Nat}(h0:0<sq)(hst:st≤1000000):limN sq st≤1000000000:=by
 have h1:=(limN_spec (st:=st) h0).1
 rcases Nat.lt_or_ge 1000000000 (limN sq st)with h|h
 ·have h2:1000000001*1000000001≤limN sq st*limN sq st:=Nat.mul_le_mul h h
  have h3:limN sq st*limN sq st*1≤limN sq st*limN sq st*sq:=Nat.mul_le_mul_left _ h0
  have h4:1000*st*(1000*st)≤1000000000*1000000000:=Nat.mul_le_mul (by omega) (by omega)
  omega
 ·exact h
/-- what Limit answers: the limit and an error -/
def limOk(sq st:Int):Prop:=(1≤sq∧sq≤20000000000000)∧0≤st∧st≤1000000
end Go.Ex

/- The limit of a force density. Printed by program. No condition but sizes. -/
namespace Go.Ex
open Go Go.Sx Go.Proofs

theorem sLimitAll_c(sq st:Int)(w:World):Con PG N.statics_Limit #[.int .i64 sq,.int .i64 st] w (Ret w fun v' w2=>(¬limOk sq st∧v'= .tuple #[ratNil,.int .i64 2])∨(limOk sq st∧∃r,v'= .tuple #[r,.int .i64 0]∧RatC w2 (Nw (fun _=>False) w w2) r (limF sq.toNat st.toNat))):=by
 have hw:Bel w.heap.size w w:=Bel.refl
 refine in_statics_Limit (by simp) ?_
 conv=>whnf
 refine BrS.mk (fun k1=>?_) (fun k1=>?_)
 ·have k1:=of_decide_eq_true k1
  conv=>whnf
  intro ρe we re
  exact⟨_,rfl,hw.tr re.bel,.inl ⟨fun h=>by unfold limOk at h;omega,rfl⟩⟩
 have k1:=of_decide_eq_false k1
 conv=>whnf
 refine BrS.mk (fun k2=>?_) (fun k2=>?_)
 ·have k2:=of_decide_eq_true k2
  conv=>whnf
  intro ρe we re
  exact⟨_,rfl,hw.tr re.bel,.inl ⟨fun h=>by unfold limOk at h;omega,rfl⟩⟩
 have k2:=of_decide_eq_false k2
 conv=>whnf
 refine callE_S (cE hw (Φ:=fun _ w' v w2=>∃d,v= .bool d∧(d=true↔0≤st∧st≤1000000)) (fun ρ w' r=>sGood_c st w') ?_)
 rintro ρ wa1 v1 wb1 iv1 r he hw h_ ⟨d1,rfl,hz1⟩
 clear r
 cases d1
 ·have hz1:¬(0≤st∧st≤1000000):=fun h=>by have:=hz1.2 h;cases this
  conv=>whnf
  intro ρe we re
  exact⟨_,rfl,hw.tr re.bel,.inl ⟨fun h=>hz1 h.2,rfl⟩⟩
 have hz1:=hz1.1 rfl
 obtain⟨sqn,rfl⟩:=Int.eq_ofNat_of_zero_le (show 0≤sq by omega)
 obtain⟨stn,rfl⟩:=Int.eq_ofNat_of_zero_le hz1.1
 conv=>whnf
 refine callE_S (cE hw (Φ:=fun _ w' v w2=>RatC w2 (Nw (fun _=>False) w' w2) v (limF sqn stn)) (fun ρ w' r=>(sLimit_c sqn stn w' (by omega) (by omega)).mono fun _ _ ⟨v2,e1,e2,rt,e4,e5,e6⟩=>⟨v2,e1,e2,by rw[limF,limN,isq_one e4 e5];exact e6⟩) ?_)
 rintro ρ wa2 v2 wb2 iv2 r he hw h_ hn
 have hd:=hn.got (S:=fun _=>False) r.baseLe (mN h_)
 clear r
 obtain⟨s2_0,s2_1,s2_2,s2_3,s2_4,s2_5,s2_6,s2_7,rfl⟩:=hd.shape
 conv=>whnf
 intro ρe we re
 exact⟨_,rfl,hw.tr re.bel,.inr ⟨⟨by omega,by omega⟩,_,rfl,hd.out re (oldF w)⟩⟩
theorem ln_small2{n:Nat}(h:n<9223372036854775807):ln n≤2:=by have:=ln_small (n:=(n:Int)) (by omega) (by omega);rwa [Int.natAbs_natCast]at this
theorem ln_one31{n:Nat}(h:n≤2147483648):ln n≤1:=ln_le.2 (by show n<4294967296^1;omega)
set_option maxHeartbeats 1000000 in
theorem rLimitAll_c(sq st:Int)(w:World):Con PG N.ref05_Limit #[.int .i64 sq,.int .i64 st] w (Ret w fun v' w2=>(¬limOk sq st∧v'= .tuple #[ratNil,.int .i64 2])∨(limOk sq st∧∃r,v'= .tuple #[r,.int .i64 0]∧RatC w2 (Nw (fun _=>False) w w2) r (limF sq.toNat st.toNat))):=by
 have hw:Bel w.heap.size w w:=Bel.refl
 refine in_ref05_Limit (by simp) ?_
 conv=>whnf
 refine callE_S (cE hw (Φ:=fun _ w' v w2=>∃d,v= .bool d∧(d=true↔1≤sq∧sq≤20000000000000)) (fun ρ w' r=>within_c _ _ _ w') ?_)
 rintro ρ wa1 v1 wb1 iv1 r he hw h_ ⟨d0,rfl,hz0⟩
 clear r
 cases d0
 ·have hz0:¬(1≤sq∧sq≤20000000000000):=fun h=>by have:=hz0.2 h;cases this
  conv=>whnf
  intro ρe we re
  exact⟨_,rfl,hw.tr re.bel,.inl ⟨fun h=>hz0 h.1,rfl⟩⟩
 have hz0:=hz0.1 rfl
 conv=>whnf
 refine callE_S (cE hw (Φ:=fun _ w' v w2=>∃d,v= .bool d∧(d=true↔0≤st∧st≤1000000)) (fun ρ w' r=>within_c _ _ _ w') ?_)
 rintro ρ wa2 v2 wb2 iv2 r he hw h_ ⟨d1,rfl,hz1⟩
 clear r
 cases d1
 ·have hz1:¬(0≤st∧st≤1000000):=fun h=>by have:=hz1.2 h;cases this
  conv=>whnf
  intro ρe we re
  exact⟨_,rfl,hw.tr re.bel,.inl ⟨fun h=>hz1 h.2,rfl⟩⟩
 have hz1:=hz1.1 rfl
 obtain⟨sqn,rfl⟩:=Int.eq_ofNat_of_zero_le (show 0≤sq by omega)
 obtain⟨stn,rfl⟩:=Int.eq_ofNat_of_zero_le hz1.1
 have hsp:=limN_spec (sq:=sqn) (st:=stn) (by omega)
 obtain⟨M,hM⟩:∃M,1000*stn*(1000*stn)=M:=⟨_,rfl⟩
 have hMb:M≤1000000000*1000000000:=by rw[←hM];exact Nat.mul_le_mul (by omega) (by omega)
 conv=>whnf
 refine⟨((1000*stn:Nat):Int),by rw[wrap64]<;>omega,?_⟩
 conv=>whnf
 refine callE_S (cE hw (Φ:=fun _ w' v w2=>IntC w2 (Nw (fun _=>False) w' w2) v ((1000*stn:Nat):Int)) (fun ρ w' r=>rOf_c _ w' (by omega) (by omega)) ?_)
 rintro ρ wa3 v3 wb3 iv3 r he hw h_ hn
 have ho1:=hn.got (S:=fun _=>False) r.baseLe (mN h_)
 clear r
 obtain⟨s3_0,s3_1,s3_2,s3_3,rfl⟩:=ho1.shape
 conv=>whnf
 refine⟨((1000*stn:Nat):Int),by rw[wrap64]<;>omega,?_⟩
 conv=>whnf
 refine callE_S (cE hw (Φ:=fun _ w' v w2=>IntC w2 (Nw (fun _=>False) w' w2) v ((1000*stn:Nat):Int)) (fun ρ w' r=>rOf_c _ w' (by omega) (by omega)) ?_)
 rintro ρ wa4 v4 wb4 iv4 r he hw h_ hn
 replace ho1:=ho1.past r (oldF w) he (mC h_)
 have ho2:=hn.got (S:=fun _=>False) r.baseLe (mN h_)
 clear r
 obtain⟨s4_0,s4_1,s4_2,s4_3,rfl⟩:=ho2.shape
 conv=>whnf
 refine callE_S (cE hw (Φ:=fun _ w' v w2=>IntC w2 (Nw (fun _=>False) w' w2) v (M:Int)) (fun ρ w' r=>(rProd_c (k:=2) (l:=2) (Rel.old r (oldF w)) ((ho1.rel r (oldF w)).l (ln_small (by omega) (by omega))) ((ho2.rel r (oldF w)).l (ln_small (by omega) (by omega))) (by decide) (by decide)).mono fun _ _ ⟨v2,e1,e2,e3⟩=>⟨v2,e1,e2,by rw[←hM];exact_mod_cast e3⟩) ?_)
 rintro ρ wa5 v5 wb5 iv5 r he hw h_ hn
 clear ho1
 clear ho2
 have hm:=hn.got (S:=fun _=>False) r.baseLe (mN h_)
 clear r
 obtain⟨s5_0,s5_1,s5_2,s5_3,rfl⟩:=hm.shape
 conv=>whnf
 have h31:((2^31 / 2:Nat):Int)=1073741824:=by decide
 refine⟨Nat×Nat×World×Iv,fun z=>⟨[(0,.o (.v (.int .i64 sqn))),(4,.o (.p 0 0)),(6,.o (.p 1 0)),(7,.o (.v (.int .i64 ((z.1:Nat):Int)))),(8,.o (.v (.int .i64 ((2^z.2.1 / 2:Nat):Int))))],[(1,.box T.Int [.v (.bool s5_0),.v (.slice s5_1 s5_2 s5_3)]),(0,.box T.Rat [.v (.bool false),.v (.slice none 0 0),.v (.bool false),.v (.slice none 0 0)])],2,z.2.2.2,z.2.2.1⟩,fun z=>z.2.1,
  fun z=>Bel w.heap.size w z.2.2.1∧IntC z.2.2.1 (Cv (fun _=>False) w.heap.size z.2.2.2) (.agg #[.bool s5_0,.slice s5_1 s5_2 s5_3]) (M:Int)∧z.1*z.1*sqn≤M∧M<(z.1+2^z.2.1)*(z.1+2^z.2.1)*sqn∧z.1+2^z.2.1≤2147483648,?_,?_⟩
 ·intro ρ w' r3
  refine⟨(0,31,w',_),⟨hw.tr r3.bel,hm.rel r3 (oldF w),by simp,?_,(show 0+2^31≤2147483648 by decide)⟩,Sub.gen [] r3 ⟨rfl,rfl,trivial⟩ ⟨rfl,rfl,rfl,rfl,by dsimp only;rw[h31];rfl,trivial⟩ (by simp[ScH,Blk.scopd,At.sc]) (by simp[ScE,SV.sc,At.sc,initE]) (by rfl) (fun lo hi h=>h)⟩
  have h1:2147483648*2147483648*1≤2147483648*2147483648*sqn:=Nat.mul_le_mul_left _ (by omega)
  show M<(0+2147483648)*(0+2147483648)*sqn
  omega
 clear hw hm
 rintro⟨k,c,w1,iv⟩ ⟨hw,hm,hlo,hup,hk⟩
 dsimp only at hw hm hlo hup hk ⊢
 conv=>whnf
 refine BrS.mk (fun hib=>?_) (fun hib=>?_)
 ·have hib:0<2^c / 2:=by have:=of_decide_eq_true hib;omega
  cases c with
  |zero=>exact absurd hib (by decide)
  |succ c=>
   have hpow:2^(c+1) / 2=2^c:=by rw[Nat.pow_succ];omega
   have hp2:2^(c+1)=2^c+2^c:=by rw[Nat.pow_succ];omega
   rw[hpow]
   rw[hp2]at hup hk
   obtain⟨n,hn⟩:∃n,k+2^c=n:=⟨_,rfl⟩
   have hup2:k+(2^c+2^c)=n+2^c:=by omega
   rw[hup2]at hup hk
   have hn31:n≤2147483648:=by omega
   have hnn:n*n≤2147483648*2147483648:=Nat.mul_le_mul hn31 hn31
   conv=>whnf
   refine⟨((n:Nat):Int),by rw[wrap64]<;>omega,?_⟩
   conv=>whnf
   refine callE_S (cE hw (Φ:=fun _ w' v w2=>IntC w2 (Nw (fun _=>False) w' w2) v (n:Int)) (fun ρ w' r=>rOf_c _ w' (by omega) (by omega)) ?_)
   rintro ρ wa11 v11 wb11 iv11 r he hw h_ hn
   replace hm:=hm.past r (oldF w) he (mC h_)
   have hn1:=hn.got (S:=fun _=>False) r.baseLe (mN h_)
   clear r hn
   obtain⟨s11_0,s11_1,s11_2,s11_3,rfl⟩:=hn1.shape
   conv=>whnf
   refine drawn_of_pi hτ hmix [.x 0,.x 1,.x 3,.x 6,.x 2,.x 4,.x 5,.x 7,.x 8] (by kernel_rfl) (by kernel_rfl) ?_
   conv=>whnf
   refine cE hw (Φ:=fun _ w' v w2=>IntC w2 (Nw (fun _=>False) w' w2) v ((n*n:Nat):Int)) (fun ρ w' r=>(rProd_c (k:=2) (l:=2) (Rel.old r (oldF w)) ((hn1.rel r (oldF w)).l (ln_small (by omega) (by omega))) ((hn1.rel r (oldF w)).l (ln_small (by omega) (by omega))) (by decide) (by decide)).mono fun _ _ ⟨v2,e1,e2,e3⟩=>⟨v2,e1,e2,by exact_mod_cast e3⟩) ?_
   rintro ρ wa12 v12 wb12 iv12 r he hw h_ hn
   replace hm:=hm.past r (oldF w) he (mC h_)
   clear hn1
   have hn2:=hn.got (S:=fun _=>False) r.baseLe (mN h_)
   clear r hn
   obtain⟨s12_0,s12_1,s12_2,s12_3,rfl⟩:=hn2.shape
   conv=>whnf
   refine cE hw (Φ:=fun _ w' v w2=>IntC w2 (Nw (fun _=>False) w' w2) v (sqn:Int)) (fun ρ w' r=>rOf_c _ w' (by omega) (by omega)) ?_
   rintro ρ wa13 v13 wb13 iv13 r he hw h_ hn
   replace hm:=hm.past r (oldF w) he (mC h_)
   replace hn2:=hn2.past r (oldF w) he (mC h_)
   have hn3:=hn.got (S:=fun _=>False) r.baseLe (mN h_)
   clear r hn
   obtain⟨s13_0,s13_1,s13_2,s13_3,rfl⟩:=hn3.shape
   conv=>whnf
   refine cE hw (Φ:=fun _ w' v w2=>IntC w2 (Nw (fun _=>False) w' w2) v ((n*n*sqn:Nat):Int)) (fun ρ w' r=>(rProd_c (k:=2) (l:=2) (Rel.old r (oldF w)) ((hn2.rel r (oldF w)).l (ln_small (by omega) (by omega))) ((hn3.rel r (oldF w)).l (ln_small (by omega) (by omega))) (by decide) (by decide)).mono fun _ _ ⟨v2,e1,e2,e3⟩=>⟨v2,e1,e2,by exact_mod_cast e3⟩) ?_
   rintro ρ wa14 v14 wb14 iv14 r he hw h_ hn
   replace hm:=hm.past r (oldF w) he (mC h_)
   clear hn2
   clear hn3
   have hn4:=hn.got (S:=fun _=>False) r.baseLe (mN h_)
   clear r hn
   obtain⟨s14_0,s14_1,s14_2,s14_3,rfl⟩:=hn4.shape
   conv=>whnf
   refine cE hw (Φ:=fun _ w' v w2=>v= .int .i64 (((n*n*sqn:Nat):Int)-M).sign) (fun ρ w' r=>rCmpInt_c (k:=4) (l:=2) (Rel.old r (oldF w)) ((hn4.rel r (oldF w)).l (by have h1:=ln_mul (n*n) sqn;have h2:=ln_mul n n;have h3:=ln_one31 hn31;have h4:ln sqn≤2:=ln_small2 (by omega);show ln (n*n*sqn)≤4;omega)) ((hm.rel r (oldF w)).l (ln_small (by omega) (by omega))) (by decide) (by decide)) ?_
   rintro ρ wa15 v15 wb15 iv15 r he hw h_ rfl
   replace hm:=hm.past r (oldF w) he (mC h_)
   clear hn4
   clear r
   obtain⟨q,hq⟩:∃q,n*n*sqn=q:=⟨_,rfl⟩
   rw[hq]
   obtain⟨sg,hsg⟩:∃s,((q:Int)-M).sign=s:=⟨_,rfl⟩
   rw[hsg]
   conv=>whnf
   refine BrS.mk (fun hd=>?_) (fun hd=>?_)
   ·have hd:q≤M:=by
     have h1:=of_decide_eq_true hd
     rw[←hsg,←Int.not_lt,Int.sign_pos_iff]at h1
     omega
    have hlo2:n*n*sqn≤M:=by omega
    conv=>whnf
    refine⟨((n:Nat):Int),by rw[wrap64]<;>omega,?_⟩
    conv=>whnf
    refine⟨by decide,((2^c / 2:Nat):Int),by rw[show ((2^c:Nat):Int).tdiv 2=((2^c / 2:Nat):Int)from rfl,wrap64]<;>omega,?_⟩
    conv=>whnf
    intro ρ3 w6 r3
    exact⟨(n,c,w6,_),⟨hw.tr r3.bel,hm.rel r3 (oldF w),hlo2,hup,by dsimp only;omega⟩,Sub.gen [] r3 ⟨rfl,rfl,trivial⟩ ⟨rfl,rfl,rfl,rfl,rfl,trivial⟩ (by simp[ScH,Blk.scopd,At.sc]) (by simp[ScE,SV.sc,At.sc,initE]) (by rfl) (fun lo hi h=>h),by dsimp only;omega⟩
   ·have hd:M<q:=by
     have h1:=of_decide_eq_false hd
     rw[←hsg,←Int.not_lt,Int.sign_pos_iff]at h1
     omega
    have hup3:M<(k+2^c)*(k+2^c)*sqn:=by rw[hn,hq];exact hd
    conv=>whnf
    refine⟨by decide,((2^c / 2:Nat):Int),by rw[show ((2^c:Nat):Int).tdiv 2=((2^c / 2:Nat):Int)from rfl,wrap64]<;>omega,?_⟩
    conv=>whnf
    intro ρ3 w6 r3
    exact⟨(k,c,w6,_),⟨hw.tr r3.bel,hm.rel r3 (oldF w),hlo,hup3,by dsimp only;omega⟩,Sub.gen [] r3 ⟨rfl,rfl,trivial⟩ ⟨rfl,rfl,rfl,rfl,rfl,trivial⟩ (by simp[ScH,Blk.scopd,At.sc]) (by simp[ScE,SV.sc,At.sc,initE]) (by rfl) (fun lo hi h=>h),by dsimp only;omega⟩
 have hib:¬0<2^c / 2:=by have:=of_decide_eq_false hib;omega
 cases c with
 |succ c=>exact absurd (show 0<2^(c+1) / 2 by have:=Nat.one_le_two_pow (n:=c);rw[Nat.pow_succ];omega) hib
 |zero=>
  have hlim:limN sqn stn=k:=limN_one (by omega) (by rw[hM];exact hlo) (by rw[hM];exact hup)
  have hkb:k≤2147483648:=by omega
  clear hm
  conv=>whnf
  refine callE_S (cE hw (Φ:=fun _ w' v w2=>IntC w2 (Nw (fun _=>False) w' w2) v (k:Int)) (fun ρ w' r=>rOf_c _ w' (by omega) (by omega)) ?_)
  rintro ρ wa41 v41 wb41 iv41 r he hw h_ hn
  have hk1:=hn.got (S:=fun _=>False) r.baseLe (mN h_)
  clear r hn
  obtain⟨s41_0,s41_1,s41_2,s41_3,rfl⟩:=hk1.shape
  conv=>whnf
  refine callE_S (cE hw (Φ:=fun _ w' v w2=>IntC w2 (Nw (fun _=>False) w' w2) v 1000) (fun ρ w' r=>rOf_c _ w' (by decide) (by decide)) ?_)
  rintro ρ wa42 v42 wb42 iv42 r he hw h_ hn
  replace hk1:=hk1.past r (oldF w) he (mC h_)
  have hk2:=hn.got (S:=fun _=>False) r.baseLe (mN h_)
  clear r hn
  obtain⟨s42_0,s42_1,s42_2,s42_3,rfl⟩:=hk2.shape
  conv=>whnf
  refine callE_S (cE hw (Φ:=fun _ w' v w2=>RatC w2 (Nw (fun _=>False) w' w2) v (Rat.divInt k 1000)) (fun ρ w' r=>rOver_c (k:=2) (l:=2) (Rel.old r (oldF w)) ((hk1.rel r (oldF w)).l (ln_small (by omega) (by omega))) ((hk2.rel r (oldF w)).l (ln_small (by decide) (by decide))) (by decide) (by decide) (by decide)) ?_)
  rintro ρ wa43 v43 wb43 iv43 r he hw h_ hn
  clear hk1
  clear hk2
  have hd:=hn.got (S:=fun _=>False) r.baseLe (mN h_)
  clear r hn
  obtain⟨s43_0,s43_1,s43_2,s43_3,s43_4,s43_5,s43_6,s43_7,rfl⟩:=hd.shape
  conv=>whnf
  intro ρe we re
  exact⟨_,rfl,hw.tr re.bel,.inr ⟨⟨hz0,hz1⟩,_,rfl,by rw[limF,Int.toNat_natCast,Int.toNat_natCast,hlim];exact hd.out re (oldF w)⟩⟩
end Go.Ex
