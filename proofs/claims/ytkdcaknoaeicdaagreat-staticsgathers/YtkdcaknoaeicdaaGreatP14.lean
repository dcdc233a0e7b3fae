/- A part of the proof: texts X165 to X166. Each tells its conditions in its theorems. -/
import Derived.Test.YtkdcaknoaeicdaaGreatP13
/- Loads gathered by the reference; StaticsGathers of the laws of chapter 5. Printed by program. No condition but sizes. -/
namespace Go.Ex
open Go Go.Sx Go.Proofs

theorem rWithin_c(x:Ld)(w:World):Con PG N.ref05_within #[loadV x] w (Ret w fun v' _=>∃d,v'= .bool d∧(d=true↔inB3 x.2)):=by
 have hw:Bel w.heap.size w w:=Bel.refl
 obtain⟨x0,x1,x2,x3⟩:=x
 refine in_ref05_within (by simp) ?_
 conv=>whnf
 refine callE_S (cE hw (Φ:=fun _ w' v w2=>∃d,v= .bool d∧(d=true↔ -1000000≤x1∧x1≤1000000)) (fun ρ w' r=>within_c _ _ _ w') ?_)
 rintro ρ wa1 v1 wb1 iv1 r he hw h_ ⟨d0,rfl,hz0⟩
 clear r
 cases d0
 ·have hz0:¬inB x1:=fun h=>by have:=hz0.2 h;cases this
  conv=>whnf
  intro ρe we re
  exact⟨_,rfl,hw.tr re.bel,_,rfl,(fun h=>by cases h),fun h=>absurd h.1 hz0⟩
 replace hz0:inB x1:=hz0.1 rfl
 conv=>whnf
 refine callE_S (cE hw (Φ:=fun _ w' v w2=>∃d,v= .bool d∧(d=true↔ -1000000≤x2∧x2≤1000000)) (fun ρ w' r=>within_c _ _ _ w') ?_)
 rintro ρ wa2 v2 wb2 iv2 r he hw h_ ⟨d1,rfl,hz1⟩
 clear r
 cases d1
 ·have hz1:¬inB x2:=fun h=>by have:=hz1.2 h;cases this
  conv=>whnf
  intro ρe we re
  exact⟨_,rfl,hw.tr re.bel,_,rfl,(fun h=>by cases h),fun h=>absurd h.2.1 hz1⟩
 replace hz1:inB x2:=hz1.1 rfl
 conv=>whnf
 refine callE_S (cE hw (Φ:=fun _ w' v w2=>∃d,v= .bool d∧(d=true↔ -1000000≤x3∧x3≤1000000)) (fun ρ w' r=>within_c _ _ _ w') ?_)
 rintro ρ wa3 v3 wb3 iv3 r he hw h_ ⟨d2,rfl,hz2⟩
 clear r
 cases d2
 ·have hz2:¬inB x3:=fun h=>by have:=hz2.2 h;cases this
  conv=>whnf
  intro ρe we re
  exact⟨_,rfl,hw.tr re.bel,_,rfl,(fun h=>by cases h),fun h=>absurd h.2.2 hz2⟩
 replace hz2:inB x3:=hz2.1 rfl
 conv=>whnf
 intro ρe we re
 exact⟨_,rfl,hw.tr re.bel,_,rfl,fun _=>⟨hz0,hz1,hz2⟩,fun _=>rfl⟩
set_option maxHeartbeats 2000000 in
theorem rGather_c{S:Nat→Prop}{w:World}{v u:Value}{cs:List (List Ld)}{fs:List Int}{e0:Int}(hS:Old S w)(hC:CasesR w S v cs)(hF:ZsR w S u fs)(he0:e0=errG cs fs):
  Con PG N.ref05_Gather #[v,u] w (Ret w fun v' w2=>(e0≠0∧v'= .tuple #[.slice none 0 0,.int .i64 e0])∨(e0=0∧∃vr,v'= .tuple #[vr,.int .i64 0]∧LoadsR w2 (Nw (fun _=>False) w w2) vr (gathTo (outTo cs fs cs.length) 20))):=by
 have hw:Bel w.heap.size w w:=Bel.refl
 obtain⟨ac,cc,rfl,-,hmc⟩:=SlicesR.shape hC
 obtain⟨af,cf,rfl,-,hmf⟩:=hF.shape
 unfold maxLen at hmc hmf
 refine in_ref05_Gather (by simp) ?_
 conv=>whnf
 refine BrS.mk (fun h1=>?_) (fun h1=>?_)
 ·have h1:=of_decide_eq_true h1
  have hge:errG cs fs=8:=by rw[errG,if_pos (by omega)]
  conv=>whnf
  intro ρe we re
  exact⟨_,rfl,hw.tr re.bel,.inl ⟨by rw[he0,hge];decide,by rw[he0,hge];rfl⟩⟩
 have h1:=of_decide_eq_false h1
 have h16:¬16<cs.length:=by omega
 conv=>whnf
 refine BrS.mk (fun h2=>?_) (fun h2=>?_)
 ·have h2:fs.length≠cs.length:=by intro h;rw[h]at h2;simp at h2
  have hge:errG cs fs=11:=by rw[errG,if_neg h16,if_pos h2]
  conv=>whnf
  intro ρe we re
  exact⟨_,rfl,hw.tr re.bel,.inl ⟨by rw[he0,hge];decide,by rw[he0,hge];rfl⟩⟩
 have h2:=(show (fs.length:Int)=(cs.length:Int)from(by simpa using h2))
 have hlen:fs.length=cs.length:=by omega
 have hlen2:¬fs.length≠cs.length:=fun h=>h hlen
 conv=>whnf
 refine⟨Nat×World×Iv,fun z=>⟨[(0,.o (.v (.slice ac cs.length cc))),(1,.o (.v (.slice af fs.length cf))),(6,.o (.v (.int .i64 ((z.1:Nat):Int))))],[],0,z.2.2,z.2.1⟩,fun z=>fs.length-z.1,
  fun z=>z.1≤fs.length∧Bel w.heap.size w z.2.1∧firstE (fun _=>faE) [] fs=firstE (fun _=>faE) (fs.take z.1) (fs.drop z.1),?_,?_⟩
 ·intro ρ w' r3
  exact⟨(0,w',[]),⟨Nat.zero_le _,hw.tr r3.bel,rfl⟩,Sub.gen [] r3 trivial ⟨rfl,rfl,rfl,trivial⟩ (by simp[ScH,Blk.scopd,At.sc]) (by simp[ScE,SV.sc,At.sc,initE]) (by rfl) (fun lo hi h=>h)⟩
 clear hw
 rintro⟨i,w1,iv⟩ ⟨hi,hw,hE⟩
 dsimp only at hi hw hE ⊢
 conv=>whnf
 refine BrS.mk (fun hib=>?_) (fun hib=>?_)
 ·have hib:i<fs.length:=by simpa using hib
  obtain⟨x,hx⟩:∃x,fs[i]? =some x:=⟨_,List.getElem?_eq_getElem hib⟩
  obtain⟨adx,hax,hSx,hlx⟩:=ZsR.at hF hx
  conv=>whnf
  refine⟨adx,hax,⟨by omega,by omega⟩,?_⟩
  conv=>whnf
  refine⟨.int .i64 x,fun ρ w' r=>?_,?_⟩
  ·rw[Int.toNat_natCast,cell_of_heap (w:=w) (w2:=w') (by rw[addB];exact(hw.tr r.bel).block _ (hS _ hSx))]
   exact hlx
  conv=>whnf
  refine callE_S (cE hw (Φ:=fun _ w' v w2=>∃d,v= .bool d∧(d=true↔ -100≤x∧x≤100)) (fun ρ w' r=>within_c _ _ _ w') ?_)
  rintro ρ wa1 v1 wb1 iv1 r he hw h_ ⟨d1,rfl,hz1⟩
  clear r
  cases d1
  ·have hz1:¬(-100≤x∧x≤100):=fun h=>by have:=hz1.2 h;cases this
   have hf2:firstE (fun _=>faE) [] fs≠0:=by rw[hE,firstE_ret hx (show faE x=2 by rw[faE,if_neg hz1]) (by decide)];decide
   have hge:errG cs fs=2:=by rw[errG,if_neg h16,if_neg hlen2,if_pos hf2]
   conv=>whnf
   intro ρe we re
   exact⟨_,rfl,hw.tr re.bel,.inl ⟨by rw[he0,hge];decide,by rw[he0,hge];rfl⟩⟩
  have hz1:=hz1.1 rfl
  rw[firstE_step hx (show faE x=0 by rw[faE,if_pos hz1])]at hE
  conv=>whnf
  refine⟨((i+1:Nat):Int),by rw[wrap64]<;>omega,?_⟩
  conv=>whnf
  intro ρ3 w6 r3
  exact⟨(i+1,w6,_),⟨hib,hw.tr r3.bel,hE⟩,Sub.gen [] r3 trivial ⟨rfl,rfl,rfl,trivial⟩ (by simp[ScH,Blk.scopd,At.sc]) (by simp[ScE,SV.sc,At.sc,initE]) (by rfl) (fun lo hi h=>h),by dsimp only;omega⟩
 have hib:i=fs.length:=Nat.le_antisymm hi (by simpa using hib)
 rw[firstE_end (by omega)]at hE
 have hfac:∀(k:Nat) x,fs[k]? =some x→ -100≤x∧x≤100:=fun k x hk=>by
  have h:=firstE_zero hE k x hk
  unfold faE at h
  split at h<;>rename_i h2
  ·exact h2
  ·cases h
 have hf0:¬firstE (fun _=>faE) [] fs≠0:=fun h=>h hE
 clear hib hi hE
 conv=>whnf
 refine⟨Nat×World×Iv,fun z=>⟨[(0,.o (.v (.slice ac cs.length cc))),(1,.o (.v (.slice af fs.length cf))),(7,.o (.v (.int .i64 ((z.1:Nat):Int))))],[],0,z.2.2,z.2.1⟩,fun z=>cs.length-z.1,
  fun z=>z.1≤cs.length∧Bel w.heap.size w z.2.1∧firstE (fun _=>errL 20) [] cs=firstE (fun _=>errL 20) (cs.take z.1) (cs.drop z.1),?_,?_⟩
 ·intro ρ w' r3
  exact⟨(0,w',_),⟨Nat.zero_le _,hw.tr r3.bel,rfl⟩,Sub.gen [] r3 trivial ⟨rfl,rfl,rfl,trivial⟩ (by simp[ScH,Blk.scopd,At.sc]) (by simp[ScE,SV.sc,At.sc,initE]) (by rfl) (fun lo hi h=>h)⟩
 clear hw
 rintro⟨i,w1,iv⟩ ⟨hi,hw,hE⟩
 dsimp only at hi hw hE ⊢
 conv=>whnf
 refine BrS.mk (fun hib=>?_) (fun hib=>?_)
 ·have hib:i<cs.length:=by simpa using hib
  obtain⟨l,hl⟩:∃x,cs[i]? =some x:=⟨_,List.getElem?_eq_getElem hib⟩
  obtain⟨adm,um,ham,hRm,km1,km2⟩:=SlicesR.load hC hl
  obtain⟨al,cl,rfl,-,hml⟩:=hRm.shape
  conv=>whnf
  refine⟨adm,ham,⟨by omega,by omega⟩,?_⟩
  conv=>whnf
  refine⟨.slice al l.length cl,fun ρ w' r=>?_,?_⟩
  ·rw[Int.toNat_natCast,cell_of_heap (w:=w) (w2:=w') (by rw[addB];exact(hw.tr r.bel).block _ (hS _ km1))]
   exact km2
  conv=>whnf
  refine BrS.mk (fun h200=>?_) (fun h200=>?_)
  ·have h200:200<l.length:=by have:=of_decide_eq_true h200;omega
   have hel:errL 20 l=8:=by rw[errL,if_pos h200]
   have hc2:firstE (fun _=>errL 20) [] cs=8:=by rw[hE];exact firstE_ret hl hel (by decide)
   have hge:errG cs fs=8:=by rw[errG,if_neg h16,if_neg hlen2,if_neg hf0,if_pos (by rw[hc2];decide),hc2]
   conv=>whnf
   intro ρe we re
   exact⟨_,rfl,hw.tr re.bel,.inl ⟨by rw[he0,hge];decide,by rw[he0,hge];rfl⟩⟩
  have h200:¬200<l.length:=by have:=of_decide_eq_false h200;omega
  conv=>whnf
  refine⟨Nat×World×Iv,fun z=>⟨[(0,.o (.v (.slice ac cs.length cc))),(1,.o (.v (.slice af fs.length cf))),(7,.o (.v (.int .i64 ((i:Nat):Int)))),(8,.o (.v (.int .i64 ((z.1:Nat):Int))))],[],0,z.2.2,z.2.1⟩,fun z=>l.length-z.1,
   fun z=>z.1≤l.length∧Bel w.heap.size w z.2.1∧errL 20 l=firstE (fun _=>loadE 20) (l.take z.1) (l.drop z.1),?_,?_⟩
  ·intro ρ w' r3
   exact⟨(0,w',_),⟨Nat.zero_le _,hw.tr r3.bel,by rw[errL,if_neg h200];rfl⟩,Sub.gen [] r3 trivial ⟨rfl,rfl,rfl,rfl,trivial⟩ (by simp[ScH,Blk.scopd,At.sc]) (by simp[ScE,SV.sc,At.sc,initE]) (by rfl) (fun lo hi h=>h)⟩
  clear hw
  rintro⟨k,w3,iv⟩ ⟨hk,hw,hE2⟩
  dsimp only at hk hw hE2 ⊢
  conv=>whnf
  refine⟨adm,ham,⟨by omega,by omega⟩,?_⟩
  conv=>whnf
  refine⟨.slice al l.length cl,fun ρ w' r=>?_,?_⟩
  ·rw[Int.toNat_natCast,cell_of_heap (w:=w) (w2:=w') (by rw[addB];exact(hw.tr r.bel).block _ (hS _ km1))]
   exact km2
  conv=>whnf
  refine BrS.mk (fun hkb=>?_) (fun hkb=>?_)
  ·have hkb:k<l.length:=by simpa using hkb
   obtain⟨x,hx⟩:∃x,l[k]? =some x:=⟨_,List.getElem?_eq_getElem hkb⟩
   obtain⟨adx,csx,hax,hP,-,hlx⟩:=hRm.load (by decide) hx
   have hP:csx=[.int .i64 x.1,.int .i64 x.2.1,.int .i64 x.2.2.1,.int .i64 x.2.2.2]:=hP
   subst hP
   conv=>whnf
   refine⟨adm,ham,⟨by omega,by omega⟩,?_⟩
   conv=>whnf
   refine⟨.slice al l.length cl,fun ρ w' r=>?_,?_⟩
   ·rw[Int.toNat_natCast,cell_of_heap (w:=w) (w2:=w') (by rw[addB];exact(hw.tr r.bel).block _ (hS _ km1))]
    exact km2
   conv=>whnf
   refine⟨adx,hax,⟨by omega,by omega⟩,?_⟩
   conv=>whnf
   refine⟨.int .i64 x.1,fun ρ w' r=>?_,?_⟩
   ·obtain⟨k1,k2⟩:=hlx 0 _ rfl
    rw[cell_of_heap (w:=w) (w2:=w') (by simp only[addB];exact(hw.tr r.bel).block _ (hS _ k1))]
    simp only[Int.toNat_natCast,addA]at k2 ⊢
    exact k2
   conv=>whnf
   refine callE_S (cE hw (Φ:=fun _ w' v w2=>∃d,v= .bool d∧(d=true↔0≤x.1∧x.1≤19)) (fun ρ w' r=>within_c _ _ _ w') ?_)
   rintro ρ wa1 v1 wb1 iv1 r he hw h_ ⟨d1,rfl,hz1⟩
   clear r
   cases d1
   ·have hz1:¬hasN 20 x.1:=fun h=>by have:=hz1.2 ⟨h.1,by have:=h.2;omega⟩;cases this
    have hel:errL 20 l=6:=by rw[hE2];exact firstE_ret hx (show loadE 20 x=6 by rw[loadE,if_neg hz1]) (by decide)
    have hc2:firstE (fun _=>errL 20) [] cs=6:=by rw[hE];exact firstE_ret hl hel (by decide)
    have hge:errG cs fs=6:=by rw[errG,if_neg h16,if_neg hlen2,if_neg hf0,if_pos (by rw[hc2];decide),hc2]
    conv=>whnf
    intro ρe we re
    exact⟨_,rfl,hw.tr re.bel,.inl ⟨by rw[he0,hge];decide,by rw[he0,hge];rfl⟩⟩
   have hz1:hasN 20 x.1:=⟨(hz1.1 rfl).1,by have:=(hz1.1 rfl).2;omega⟩
   conv=>whnf
   refine⟨adm,ham,⟨by omega,by omega⟩,?_⟩
   conv=>whnf
   refine⟨.slice al l.length cl,fun ρ w' r=>?_,?_⟩
   ·rw[Int.toNat_natCast,cell_of_heap (w:=w) (w2:=w') (by rw[addB];exact(hw.tr r.bel).block _ (hS _ km1))]
    exact km2
   conv=>whnf
   refine⟨adx,hax,⟨by omega,by omega⟩,?_⟩
   conv=>whnf
   refine⟨[.int .i64 x.1,.int .i64 x.2.1,.int .i64 x.2.2.1,.int .i64 x.2.2.2],rfl,fun ρ w' r j u hu=>?_,?_⟩
   ·obtain⟨k1,k2⟩:=hlx j u hu
    rw[Int.toNat_natCast,cell_of_heap (w:=w) (w2:=w') (by rw[addB,addB];exact(hw.tr r.bel).block _ (hS _ k1))]
    exact k2
   conv=>whnf
   refine callE_S (cE hw (Φ:=fun _ w' v w2=>∃d,v= .bool d∧(d=true↔inB3 x.2)) (fun ρ w' r=>rWithin_c x w') ?_)
   rintro ρ wa2 v2 wb2 iv2 r he hw h_ ⟨d2,rfl,hz2⟩
   clear r
   cases d2
   ·have hz2:¬inB3 x.2:=fun h=>by have:=hz2.2 h;cases this
    have hel:errL 20 l=2:=by rw[hE2];exact firstE_ret hx (show loadE 20 x=2 by rw[loadE,if_pos hz1];exact if_neg hz2) (by decide)
    have hc2:firstE (fun _=>errL 20) [] cs=2:=by rw[hE];exact firstE_ret hl hel (by decide)
    have hge:errG cs fs=2:=by rw[errG,if_neg h16,if_neg hlen2,if_neg hf0,if_pos (by rw[hc2];decide),hc2]
    conv=>whnf
    intro ρe we re
    exact⟨_,rfl,hw.tr re.bel,.inl ⟨by rw[he0,hge];decide,by rw[he0,hge];rfl⟩⟩
   have hz2:inB3 x.2:=hz2.1 rfl
   rw[firstE_step hx (show loadE 20 x=0 by rw[loadE,if_pos hz1];exact if_pos hz2)]at hE2
   conv=>whnf
   refine⟨((k+1:Nat):Int),by rw[wrap64]<;>omega,?_⟩
   conv=>whnf
   intro ρ3 w6 r3
   exact⟨(k+1,w6,_),⟨hkb,hw.tr r3.bel,hE2⟩,Sub.gen [] r3 trivial ⟨rfl,rfl,rfl,rfl,trivial⟩ (by simp[ScH,Blk.scopd,At.sc]) (by simp[ScE,SV.sc,At.sc,initE]) (by rfl) (fun lo hi h=>h),by dsimp only;omega⟩
  have hkb:k=l.length:=Nat.le_antisymm hk (by simpa using hkb)
  rw[firstE_end (by omega)]at hE2
  rw[firstE_step (e:=fun _=>errL 20) hl hE2]at hE
  conv=>whnf
  refine⟨((i+1:Nat):Int),by rw[wrap64]<;>omega,?_⟩
  conv=>whnf
  intro ρ3 w6 r3
  exact⟨(i+1,w6,_),⟨hib,hw.tr r3.bel,hE⟩,Sub.gen [] r3 trivial ⟨rfl,rfl,rfl,trivial⟩ (by simp[ScH,Blk.scopd,At.sc]) (by simp[ScE,SV.sc,At.sc,initE]) (by rfl) (fun lo hi h=>h),by dsimp only;omega⟩
 have hib:i=cs.length:=Nat.le_antisymm hi (by simpa using hib)
 rw[firstE_end (by omega)]at hE
 have hcas:∀(k:Nat) l,cs[k]? =some l→LdsOk 20 l:=fun k l hk=>errL_ok (firstE_zero hE k l hk)
 have hc0:¬firstE (fun _=>errL 20) [] cs≠0:=fun h=>h hE
 clear hib hi hE
 obtain⟨s,hs⟩:∃s,outTo cs fs cs.length=s:=⟨_,rfl⟩
 rw[hs]
 conv=>whnf
 refine⟨Nat×List (List Value)×World×Iv,fun z=>⟨[(0,.o (.v (.slice ac cs.length cc))),(1,.o (.v (.slice af fs.length cf))),(9,.o (.w 0 z.2.1.length)),(10,.o (.v (.int .i64 ((z.1:Nat):Int))))],[(0,.vec T.Load 4 z.2.1.flatten)],1,z.2.2.2,z.2.2.1⟩,fun z=>20-z.1,
  fun z=>z.1≤20∧Bel w.heap.size w z.2.2.1∧GrowK 4 LoadP z.2.2.1 S z.2.1 (gathTo s z.1)∧firstE (fun _=>suE s) [] (List.range 20)=firstE (fun _=>suE s) ((List.range 20).take z.1) ((List.range 20).drop z.1),?_,?_⟩
 ·intro ρ w' r
  exact⟨(0,[],w',_),⟨Nat.zero_le _,hw.tr r.bel,GrowK.nil,rfl⟩,Sub.nil 9 T.Load 4 rfl (by simp[ScE,SV.sc,At.sc,initE]) r fun ρ1 r1=>Sub.gen [] r1 ⟨rfl,trivial⟩ ⟨rfl,rfl,rfl,rfl,trivial⟩ (by simp[ScH,Blk.scopd,At.sc]) (by simp[ScE,SV.sc,At.sc,initE]) (by rfl) (fun lo hi h=>h)⟩
 clear hw
 rintro⟨n,css,w4,iv⟩ ⟨hi,hw,hG,hE⟩
 dsimp only at hi hw hG hE ⊢
 have hfl:=flatk_len hG.wid
 have hcl:css.length≤n:=by rw[hG.len];exact gathTo_len s n
 conv=>whnf
 refine BrS.mk (fun hib=>?_) (fun hib=>?_)
 ·have hnib:n<20:=by have:=of_decide_eq_true hib;omega
  have hr:(List.range 20)[n]? =some n:=List.getElem?_range hnib
  conv=>whnf
  refine⟨Nat×World,fun z=>⟨[(0,.o (.v (.slice ac cs.length cc))),(1,.o (.v (.slice af fs.length cf))),(9,.o (.w 0 css.length)),(10,.o (.v (.int .i64 ((n:Nat):Int)))),(11,.o (.p 1 0)),(12,.o (.v (.int .i64 ((z.1:Nat):Int))))],[(1,.box T.Load [.v (.int .i64 (n:Int)),.v (.int .i64 (outTo cs fs z.1 n).1),.v (.int .i64 (outTo cs fs z.1 n).2.1),.v (.int .i64 (outTo cs fs z.1 n).2.2)]),(0,.vec T.Load 4 css.flatten)],2,iv,z.2⟩,fun z=>cs.length-z.1,
   fun z=>z.1≤cs.length∧Bel w.heap.size w z.2∧Sbd (outTo cs fs z.1) (20000000000*z.1),?_,?_⟩
  ·intro ρ w' r3
   exact⟨(0,w'),⟨Nat.zero_le _,hw.tr r3.bel,fun n=>by simp[outTo]⟩,Sub.gen [] r3 ⟨rfl,rfl,trivial⟩ ⟨rfl,rfl,rfl,rfl,rfl,rfl,trivial⟩ (by simp[ScH,Blk.scopd,At.sc]) (by simp[ScE,SV.sc,At.sc,initE]) (by rfl) (fun lo hi h=>h)⟩
  clear hw
  rintro⟨c,w5⟩ ⟨hi,hw,hB⟩
  dsimp only at hi hw hB ⊢
  conv=>whnf
  refine BrS.mk (fun hib=>?_) (fun hib=>?_)
  ·have hib:c<cs.length:=by simpa using hib
   obtain⟨l,hl⟩:∃x,cs[c]? =some x:=⟨_,List.getElem?_eq_getElem hib⟩
   obtain⟨fa,hfa⟩:∃x,fs[c]? =some x:=⟨_,List.getElem?_eq_getElem (by omega)⟩
   have hfb:=hfac c fa hfa
   have hok:=hcas c l hl
   have hl200:=hok.len
   obtain⟨adf,haf,hSf,hlf⟩:=ZsR.at hF hfa
   have hnx:outTo cs fs (c+1)=inTo (outTo cs fs c) fa l l.length:=by rw[outTo,show cs.getD c []=l by rw[List.getD,hl];rfl,show fs.getD c 0=fa by rw[List.getD,hfa];rfl]
   obtain⟨adm,um,ham,hRm,km1,km2⟩:=SlicesR.load hC hl
   obtain⟨al,cl,rfl,-,hml⟩:=hRm.shape
   conv=>whnf
   refine⟨Nat×World,fun z=>⟨[(0,.o (.v (.slice ac cs.length cc))),(1,.o (.v (.slice af fs.length cf))),(9,.o (.w 0 css.length)),(10,.o (.v (.int .i64 ((n:Nat):Int)))),(11,.o (.p 1 0)),(12,.o (.v (.int .i64 ((c:Nat):Int)))),(13,.o (.v (.int .i64 ((z.1:Nat):Int))))],[(1,.box T.Load [.v (.int .i64 (n:Int)),.v (.int .i64 (inTo (outTo cs fs c) fa l z.1 n).1),.v (.int .i64 (inTo (outTo cs fs c) fa l z.1 n).2.1),.v (.int .i64 (inTo (outTo cs fs c) fa l z.1 n).2.2)]),(0,.vec T.Load 4 css.flatten)],2,iv,z.2⟩,fun z=>l.length-z.1,
    fun z=>z.1≤l.length∧Bel w.heap.size w z.2∧Sbd (inTo (outTo cs fs c) fa l z.1) (20000000000*c+100000000*z.1),?_,?_⟩
   ·intro ρ w' r3
    exact⟨(0,w'),⟨Nat.zero_le _,hw.tr r3.bel,by simpa [inTo]using hB⟩,Sub.gen [] r3 ⟨rfl,rfl,trivial⟩ ⟨rfl,rfl,rfl,rfl,rfl,rfl,rfl,trivial⟩ (by simp[ScH,Blk.scopd,At.sc]) (by simp[ScE,SV.sc,At.sc,initE]) (by rfl) (fun lo hi h=>h)⟩
   clear hw hB
   rintro⟨k,w3⟩ ⟨hk,hw,hB⟩
   dsimp only at hk hw hB ⊢
   conv=>whnf
   refine⟨adm,ham,⟨by omega,by omega⟩,?_⟩
   conv=>whnf
   refine⟨.slice al l.length cl,fun ρ w' r=>?_,?_⟩
   ·rw[Int.toNat_natCast,cell_of_heap (w:=w) (w2:=w') (by rw[addB];exact(hw.tr r.bel).block _ (hS _ km1))]
    exact km2
   conv=>whnf
   refine BrS.mk (fun hkb=>?_) (fun hkb=>?_)
   ·have hkb:k<l.length:=by simpa using hkb
    obtain⟨x,hx⟩:∃x,l[k]? =some x:=⟨_,List.getElem?_eq_getElem hkb⟩
    obtain⟨hn0,hxb⟩:=hok.ld x (List.mem_of_getElem? hx)
    obtain⟨adx,csx,hax,hP,-,hlx⟩:=hRm.load (by decide) hx
    have hP:csx=[.int .i64 x.1,.int .i64 x.2.1,.int .i64 x.2.2.1,.int .i64 x.2.2.2]:=hP
    subst hP
    have hnk:inTo (outTo cs fs c) fa l (k+1)=addL (inTo (outTo cs fs c) fa l k) fa x:=by rw[inTo,show l.getD k (0,0,0,0)=x by rw[List.getD,hx];rfl]
    have hB2:=hB.add (x:=x) hfb hxb
    obtain⟨t,ht⟩:∃t,inTo (outTo cs fs c) fa l k=t:=⟨_,rfl⟩
    rw[ht]at hB hB2 hnk ⊢
    have hbn:=hB n
    obtain⟨t0,ht0⟩:∃a,(t n).1=a:=⟨_,rfl⟩
    obtain⟨t1,ht1⟩:∃a,(t n).2.1=a:=⟨_,rfl⟩
    obtain⟨t2,ht2⟩:∃a,(t n).2.2=a:=⟨_,rfl⟩
    have htn:t n=(t0,t1,t2):=by rw[←ht0,←ht1,←ht2]
    rw[ht0,ht1,ht2]at hbn ⊢
    obtain⟨⟨q1,q2⟩,⟨q3,q4⟩,q5,q6⟩:=hxb
    have m1:=mul_bd hfb.1 hfb.2 q1 q2
    have m2:=mul_bd hfb.1 hfb.2 q3 q4
    have m3:=mul_bd hfb.1 hfb.2 q5 q6
    conv=>whnf
    refine⟨adm,ham,⟨by omega,by omega⟩,?_⟩
    conv=>whnf
    refine⟨.slice al l.length cl,fun ρ w' r=>?_,?_⟩
    ·rw[Int.toNat_natCast,cell_of_heap (w:=w) (w2:=w') (by rw[addB];exact(hw.tr r.bel).block _ (hS _ km1))]
     exact km2
    conv=>whnf
    refine⟨adx,hax,⟨by omega,by omega⟩,?_⟩
    conv=>whnf
    refine⟨[.int .i64 x.1,.int .i64 x.2.1,.int .i64 x.2.2.1,.int .i64 x.2.2.2],rfl,fun ρ w' r j u hu=>?_,?_⟩
    ·obtain⟨k1,k2⟩:=hlx j u hu
     rw[Int.toNat_natCast,cell_of_heap (w:=w) (w2:=w') (by rw[addB,addB];exact(hw.tr r.bel).block _ (hS _ k1))]
     exact k2
    conv=>whnf
    refine BrS.mk (fun he=>?_) (fun he=>?_)
    ·have he:x.1=(n:Int):=by simpa using he
     have hadd:addL t fa x n=(t0+fa*x.2.1,t1+fa*x.2.2.1,t2+fa*x.2.2.2):=by rw[addL,if_pos he.symm,htn]
     conv=>whnf
     refine drawn_of_tg hτ hmix (.x 0 (.x 2 (.x 3 (.x 4 (.x 6 (.x 10 (.x 12 (.x 13 (.x 14 (.x 16 (.x 20 (.x 22 (.x 23 (.x 24 (.x 26 (.ld 1 67645735424 (.ld 5 67645735680 (.ld 7 67645735680 (.x 8 (.x 9 (.ld 11 67646259200 (.ld 15 64425295872 (.ld 17 64425295872 (.x 18 (.x 19 (.ld 21 68182605824 (.x 30 (.ld 25 52344913920 (.ld 27 52344913920 (.x 28 (.x 29 (.x 31 (.x 32 (.x 33 (.x 34 (.x 35 .nil)))))))))))))))))))))))))))))))))))) (by kernel_rfl) (by kernel_rfl) ?_
     conv=>whnf
     refine⟨adf,haf,⟨by omega,by omega⟩,?_⟩
     conv=>whnf
     refine⟨adf,haf,⟨by omega,by omega⟩,?_⟩
     conv=>whnf
     refine⟨adf,haf,⟨by omega,by omega⟩,?_⟩
     conv=>whnf
     refine⟨.int .i64 fa,fun ρ w' r=>?_,?_⟩
     ·rw[Int.toNat_natCast,cell_of_heap (w:=w) (w2:=w') (by rw[addB];exact(hw.tr r.bel).block _ (hS _ hSf))]
      exact hlf
     conv=>whnf
     refine⟨fa*x.2.1,by rw[wrap64]<;>omega,?_⟩
     conv=>whnf
     refine⟨t0+fa*x.2.1,by rw[wrap64]<;>omega,?_⟩
     conv=>whnf
     refine⟨.int .i64 fa,fun ρ w' r=>?_,?_⟩
     ·rw[Int.toNat_natCast,cell_of_heap (w:=w) (w2:=w') (by rw[addB];exact(hw.tr r.bel).block _ (hS _ hSf))]
      exact hlf
     conv=>whnf
     refine⟨fa*x.2.2.1,by rw[wrap64]<;>omega,?_⟩
     conv=>whnf
     refine⟨t1+fa*x.2.2.1,by rw[wrap64]<;>omega,?_⟩
     conv=>whnf
     refine⟨.int .i64 fa,fun ρ w' r=>?_,?_⟩
     ·rw[Int.toNat_natCast,cell_of_heap (w:=w) (w2:=w') (by rw[addB];exact(hw.tr r.bel).block _ (hS _ hSf))]
      exact hlf
     conv=>whnf
     refine⟨fa*x.2.2.2,by rw[wrap64]<;>omega,?_⟩
     conv=>whnf
     refine⟨t2+fa*x.2.2.2,by rw[wrap64]<;>omega,?_⟩
     conv=>whnf
     refine⟨rfl,?_⟩
     conv=>whnf
     refine⟨.int .i64 fa,fun ρ w' r=>?_,?_⟩
     ·rw[Int.toNat_natCast,cell_of_heap (w:=w) (w2:=w') (by rw[addB];exact(hw.tr r.bel).block _ (hS _ hSf))]
      exact hlf
     conv=>whnf
     refine⟨rfl,?_⟩
     conv=>whnf
     refine⟨rfl,?_⟩
     conv=>whnf
     refine⟨.int .i64 fa,fun ρ w' r=>?_,?_⟩
     ·rw[Int.toNat_natCast,cell_of_heap (w:=w) (w2:=w') (by rw[addB];exact(hw.tr r.bel).block _ (hS _ hSf))]
      exact hlf
     conv=>whnf
     refine⟨rfl,?_⟩
     conv=>whnf
     refine⟨rfl,?_⟩
     conv=>whnf
     refine⟨.int .i64 fa,fun ρ w' r=>?_,?_⟩
     ·rw[Int.toNat_natCast,cell_of_heap (w:=w) (w2:=w') (by rw[addB];exact(hw.tr r.bel).block _ (hS _ hSf))]
      exact hlf
     conv=>whnf
     refine⟨rfl,?_⟩
     conv=>whnf
     refine⟨((k+1:Nat):Int),by rw[wrap64]<;>omega,?_⟩
     conv=>whnf
     intro ρ3 w6 r3
     exact⟨(k+1,w6),⟨hkb,hw.tr r3.bel,by dsimp only;rw[hnk];exact fun n=>by have:=hB2 n;omega⟩,Sub.gen [] r3 ⟨by dsimp only;rw[hnk,hadd];rfl,rfl,trivial⟩ ⟨rfl,rfl,rfl,rfl,rfl,rfl,rfl,trivial⟩ (by simp[ScH,Blk.scopd,At.sc]) (by simp[ScE,SV.sc,At.sc,initE]) (by rfl) (fun lo hi h=>h),by dsimp only;omega⟩
    have he:¬((n:Int)=x.1):=fun h=>by rw[h]at he;simp at he
    have hadd:addL t fa x n=(t0,t1,t2):=by rw[addL,if_neg he,htn]
    conv=>whnf
    refine⟨((k+1:Nat):Int),by rw[wrap64]<;>omega,?_⟩
    conv=>whnf
    intro ρ3 w6 r3
    exact⟨(k+1,w6),⟨hkb,hw.tr r3.bel,by dsimp only;rw[hnk];exact fun n=>by have:=hB2 n;omega⟩,Sub.gen [] r3 ⟨by dsimp only;rw[hnk,hadd];rfl,rfl,trivial⟩ ⟨rfl,rfl,rfl,rfl,rfl,rfl,rfl,trivial⟩ (by simp[ScH,Blk.scopd,At.sc]) (by simp[ScE,SV.sc,At.sc,initE]) (by rfl) (fun lo hi h=>h),by dsimp only;omega⟩
   have hkb:k=l.length:=Nat.le_antisymm hk (by simpa using hkb)
   subst hkb
   rw[←hnx]at hB ⊢
   conv=>whnf
   refine⟨((c+1:Nat):Int),by rw[wrap64]<;>omega,?_⟩
   conv=>whnf
   intro ρ3 w6 r3
   exact⟨(c+1,w6),⟨hib,hw.tr r3.bel,fun n=>by have:=hB n;dsimp only;omega⟩,Sub.gen [] r3 ⟨rfl,rfl,trivial⟩ ⟨rfl,rfl,rfl,rfl,rfl,rfl,trivial⟩ (by simp[ScH,Blk.scopd,At.sc]) (by simp[ScE,SV.sc,At.sc,initE]) (by rfl) (fun lo hi h=>h),by dsimp only;omega⟩
  have hib:c=cs.length:=Nat.le_antisymm hi (by simpa using hib)
  subst hib
  rw[hs]at hB ⊢
  obtain⟨a0,ha0⟩:∃a,(s n).1=a:=⟨_,rfl⟩
  obtain⟨a1,ha1⟩:∃a,(s n).2.1=a:=⟨_,rfl⟩
  obtain⟨a2,ha2⟩:∃a,(s n).2.2=a:=⟨_,rfl⟩
  have hsn:s n=(a0,a1,a2):=by rw[←ha0,←ha1,←ha2]
  rw[ha0,ha1,ha2]
  conv=>whnf
  refine callE_S (cE hw (Φ:=fun _ w' v w2=>∃d,v= .bool d∧(d=true↔inB3 (a0,a1,a2))) (fun ρ w' r=>rWithin_c ((n:Int),a0,a1,a2) w') ?_)
  rintro ρ wa1 v1 wb1 iv1 r he hw h_ ⟨d1,rfl,hz1⟩
  clear r he
  cases d1
  ·have hz1:¬inB3 (a0,a1,a2):=fun h=>by have:=hz1.2 h;cases this
   have hs2:firstE (fun _=>suE s) [] (List.range 20)=8:=by rw[hE];exact firstE_ret hr (show suE s n=8 by rw[suE,hsn,if_neg hz1]) (by decide)
   have hge:errG cs fs=8:=by rw[errG,if_neg h16,if_neg hlen2,if_neg hf0,if_neg hc0,hs,hs2]
   conv=>whnf
   intro ρe we re
   exact⟨_,rfl,hw.tr re.bel,.inl ⟨by rw[he0,hge];decide,by rw[he0,hge];rfl⟩⟩
  have hz1:inB3 (a0,a1,a2):=hz1.1 rfl
  rw[firstE_step hr (show suE s n=0 by rw[suE,hsn,if_pos hz1])]at hE
  conv=>whnf
  refine BrS.mk (fun hd0=>?_) (fun hd0=>?_)
  ·have hd0:a0≠0:=by simpa using hd0
   conv=>whnf
   have hd:¬(s n=(0,0,0)):=fun h=>by
    rw[hsn]at h
    injection h with h1 h2
    injection h2 with h2 h3
    first|exact hd0 h1|exact hd0 h2|exact hd0 h3
   have hnx:gathTo s (n+1)=gathTo s n++[((n:Int),a0,a1,a2)]:=by rw[gathTo,if_neg hd,hsn]
   have hG2:=hG.push (cs:=[.int .i64 (n:Int),.int .i64 a0,.int .i64 a1,.int .i64 a2]) (q:=((n:Int),a0,a1,a2)) rfl rfl
   rw[←hnx]at hG2
   have hfl2:css.flatten++([.int .i64 (n:Int),.int .i64 a0,.int .i64 a1,.int .i64 a2]:List Value)=(css++([[.int .i64 (n:Int),.int .i64 a0,.int .i64 a1,.int .i64 a2]]:List (List Value))).flatten:=by simp
   conv=>whnf
   refine .inl ?_
   conv=>whnf
   refine⟨by omega,by omega,by unfold maxLen;omega,?_⟩
   conv=>whnf
   refine⟨((n+1:Nat):Int),by rw[wrap64]<;>omega,?_⟩
   conv=>whnf
   intro ρ3 w6 r3
   exact⟨(n+1,css++([[.int .i64 (n:Int),.int .i64 a0,.int .i64 a1,.int .i64 a2]]:List (List Value)),w6,_),⟨hnib,hw.tr r3.bel,GrowK.map (P:=LoadP) (P':=LoadP) (w2:=w6) (S':=S) hG2 fun _ _ h=>h,hE⟩,Sub.gen [(0,3)] r3 ⟨by dsimp only;rw[←hfl2];rfl,trivial⟩ ⟨rfl,rfl,by dsimp only;rw[List.length_append,List.length_singleton];rfl,rfl,trivial⟩ (by simp[ScH,Blk.scopd,At.sc]) (by simp[ScE,SV.sc,At.sc,initE]) (by rfl) (fun lo hi h=>h),by dsimp only;omega⟩
  have k0:a0=0:=by simpa using hd0
  conv=>whnf
  refine BrS.mk (fun hd0=>?_) (fun hd0=>?_)
  ·have hd0:a1≠0:=by simpa using hd0
   conv=>whnf
   have hd:¬(s n=(0,0,0)):=fun h=>by
    rw[hsn]at h
    injection h with h1 h2
    injection h2 with h2 h3
    first|exact hd0 h1|exact hd0 h2|exact hd0 h3
   have hnx:gathTo s (n+1)=gathTo s n++[((n:Int),a0,a1,a2)]:=by rw[gathTo,if_neg hd,hsn]
   have hG2:=hG.push (cs:=[.int .i64 (n:Int),.int .i64 a0,.int .i64 a1,.int .i64 a2]) (q:=((n:Int),a0,a1,a2)) rfl rfl
   rw[←hnx]at hG2
   have hfl2:css.flatten++([.int .i64 (n:Int),.int .i64 a0,.int .i64 a1,.int .i64 a2]:List Value)=(css++([[.int .i64 (n:Int),.int .i64 a0,.int .i64 a1,.int .i64 a2]]:List (List Value))).flatten:=by simp
   conv=>whnf
   refine .inl ?_
   conv=>whnf
   refine⟨by omega,by omega,by unfold maxLen;omega,?_⟩
   conv=>whnf
   refine⟨((n+1:Nat):Int),by rw[wrap64]<;>omega,?_⟩
   conv=>whnf
   intro ρ3 w6 r3
   exact⟨(n+1,css++([[.int .i64 (n:Int),.int .i64 a0,.int .i64 a1,.int .i64 a2]]:List (List Value)),w6,_),⟨hnib,hw.tr r3.bel,GrowK.map (P:=LoadP) (P':=LoadP) (w2:=w6) (S':=S) hG2 fun _ _ h=>h,hE⟩,Sub.gen [(0,3)] r3 ⟨by dsimp only;rw[←hfl2];rfl,trivial⟩ ⟨rfl,rfl,by dsimp only;rw[List.length_append,List.length_singleton];rfl,rfl,trivial⟩ (by simp[ScH,Blk.scopd,At.sc]) (by simp[ScE,SV.sc,At.sc,initE]) (by rfl) (fun lo hi h=>h),by dsimp only;omega⟩
  have k1:a1=0:=by simpa using hd0
  conv=>whnf
  refine BrS.mk (fun hd0=>?_) (fun hd0=>?_)
  ·have hd0:a2≠0:=by simpa using hd0
   have hd:¬(s n=(0,0,0)):=fun h=>by
    rw[hsn]at h
    injection h with h1 h2
    injection h2 with h2 h3
    first|exact hd0 h1|exact hd0 h2|exact hd0 h3
   have hnx:gathTo s (n+1)=gathTo s n++[((n:Int),a0,a1,a2)]:=by rw[gathTo,if_neg hd,hsn]
   have hG2:=hG.push (cs:=[.int .i64 (n:Int),.int .i64 a0,.int .i64 a1,.int .i64 a2]) (q:=((n:Int),a0,a1,a2)) rfl rfl
   rw[←hnx]at hG2
   have hfl2:css.flatten++([.int .i64 (n:Int),.int .i64 a0,.int .i64 a1,.int .i64 a2]:List Value)=(css++([[.int .i64 (n:Int),.int .i64 a0,.int .i64 a1,.int .i64 a2]]:List (List Value))).flatten:=by simp
   conv=>whnf
   refine .inl ?_
   conv=>whnf
   refine⟨by omega,by omega,by unfold maxLen;omega,?_⟩
   conv=>whnf
   refine⟨((n+1:Nat):Int),by rw[wrap64]<;>omega,?_⟩
   conv=>whnf
   intro ρ3 w6 r3
   exact⟨(n+1,css++([[.int .i64 (n:Int),.int .i64 a0,.int .i64 a1,.int .i64 a2]]:List (List Value)),w6,_),⟨hnib,hw.tr r3.bel,GrowK.map (P:=LoadP) (P':=LoadP) (w2:=w6) (S':=S) hG2 fun _ _ h=>h,hE⟩,Sub.gen [(0,3)] r3 ⟨by dsimp only;rw[←hfl2];rfl,trivial⟩ ⟨rfl,rfl,by dsimp only;rw[List.length_append,List.length_singleton];rfl,rfl,trivial⟩ (by simp[ScH,Blk.scopd,At.sc]) (by simp[ScE,SV.sc,At.sc,initE]) (by rfl) (fun lo hi h=>h),by dsimp only;omega⟩
  have k2:a2=0:=by simpa using hd0
  conv=>whnf
  have hd:s n=(0,0,0):=by rw[hsn,k0,k1,k2]
  have hnx:gathTo s (n+1)=gathTo s n:=by rw[gathTo,if_pos hd]
  rw[←hnx]at hG
  conv=>whnf
  refine⟨((n+1:Nat):Int),by rw[wrap64]<;>omega,?_⟩
  conv=>whnf
  intro ρ3 w6 r3
  exact⟨(n+1,css,w6,_),⟨hnib,hw.tr r3.bel,GrowK.map (P:=LoadP) (P':=LoadP) (w2:=w6) (S':=S) hG fun _ _ h=>h,hE⟩,Sub.gen [] r3 ⟨rfl,trivial⟩ ⟨rfl,rfl,rfl,rfl,trivial⟩ (by simp[ScH,Blk.scopd,At.sc]) (by simp[ScE,SV.sc,At.sc,initE]) (by rfl) (fun lo hi h=>h),by dsimp only;omega⟩
 have hib:n=20:=by have:=of_decide_eq_false hib;omega
 subst hib
 rw[firstE_end (by simp)]at hE
 have hge:errG cs fs=0:=by rw[errG,if_neg h16,if_neg hlen2,if_neg hf0,if_neg hc0,hs,hE]
 conv=>whnf
 intro ρe we re
 have h5:=re.vecSeq (id:=0) (sz:=4) (m:=css.length) rfl hfl (by unfold maxLen;omega) (by decide) (hG.one fun cs q h=>LoadP.one h)
 exact⟨_,rfl,hw.tr re.bel,.inr ⟨by rw[he0,hge],_,rfl,GrowK.list (hG.map fun cs q h=>h) (h5.weak fun g hg=>.inr hg)⟩⟩
theorem sameLoads_c{S:Nat→Prop}{w:World}{v u:Value}{l:List Ld}(hS:Old S w)(hx:LoadsR w S v l)(hy:LoadsR w S u l):Con PG N.ref05_SameLoads #[v,u] w (Ret w fun v' _=>v'= .bool true):=by
 have hw:Bel w.heap.size w w:=Bel.refl
 obtain⟨a,c,rfl,-,hm⟩:=hx.shape
 obtain⟨a2,c2,rfl,-,-⟩:=hy.shape
 unfold maxLen at hm
 refine in_ref05_SameLoads (by simp) ?_
 conv=>whnf
 refine BrS.mk (fun hd=>by simp at hd) (fun _=>?_)
 conv=>whnf
 refine⟨Nat×World×Iv,fun z=>⟨[(0,.o (.v (.slice a l.length c))),(1,.o (.v (.slice a2 l.length c2))),(5,.o (.v (.int .i64 ((z.1:Nat):Int))))],[],0,z.2.2,z.2.1⟩,fun z=>l.length-z.1,
  fun z=>z.1≤l.length∧Bel w.heap.size w z.2.1,?_,?_⟩
 ·intro ρ w' r3
  exact⟨(0,w',_),⟨Nat.zero_le _,hw.tr r3.bel⟩,Sub.gen [] r3 trivial ⟨rfl,rfl,rfl,trivial⟩ (by simp[ScH,Blk.scopd,At.sc]) (by simp[ScE,SV.sc,At.sc,initE]) (by rfl) (fun lo hi h=>h)⟩
 clear hw
 rintro⟨i,w1,iv⟩ ⟨hi,hw⟩
 dsimp only at hi hw ⊢
 conv=>whnf
 refine BrS.mk (fun hib=>?_) (fun hib=>?_)
 ·have hib:i<l.length:=by simpa using hib
  obtain⟨x,hq⟩:∃q,l[i]? =some q:=⟨_,List.getElem?_eq_getElem hib⟩
  obtain⟨ad,csx,hax,hP,-,hl1⟩:=hx.load (by decide) hq
  obtain⟨ad2,csy,hay,hQ,-,hl2⟩:=hy.load (by decide) hq
  have hP:csx=[.int .i64 x.1,.int .i64 x.2.1,.int .i64 x.2.2.1,.int .i64 x.2.2.2]:=hP
  have hQ:csy=[.int .i64 x.1,.int .i64 x.2.1,.int .i64 x.2.2.1,.int .i64 x.2.2.2]:=hQ
  subst hP hQ
  conv=>whnf
  refine drawn_of_pi hτ hmix [.x 0,.x 1,.x 2,.x 3,.x 4,.x 5,.x 6,.x 7,.x 8] (by kernel_rfl) (by kernel_rfl) ?_
  conv=>whnf
  refine⟨ad,hax,⟨by omega,by omega⟩,?_⟩
  conv=>whnf
  refine⟨[.int .i64 x.1,.int .i64 x.2.1,.int .i64 x.2.2.1,.int .i64 x.2.2.2],rfl,fun ρ w' r j u hu=>?_,?_⟩
  ·obtain⟨k1,k2⟩:=hl1 j u hu
   rw[Int.toNat_natCast,cell_of_heap (w:=w) (w2:=w') (by rw[addB,addB];exact(hw.tr r.bel).block _ (hS _ k1))]
   exact k2
  conv=>whnf
  refine⟨ad2,hay,⟨by omega,by omega⟩,?_⟩
  conv=>whnf
  refine⟨[.int .i64 x.1,.int .i64 x.2.1,.int .i64 x.2.2.1,.int .i64 x.2.2.2],rfl,fun ρ w' r j u hu=>?_,?_⟩
  ·obtain⟨k1,k2⟩:=hl2 j u hu
   rw[Int.toNat_natCast,cell_of_heap (w:=w) (w2:=w') (by rw[addB,addB];exact(hw.tr r.bel).block _ (hS _ k1))]
   exact k2
  conv=>whnf
  refine⟨!decide (x=x),fun ρ w o1 o2=>load_neq x x w o1 o2,?_⟩
  conv=>whnf
  refine BrS.mk (fun hd=>absurd hd (by simp)) (fun _=>?_)
  conv=>whnf
  refine⟨((i+1:Nat):Int),by rw[wrap64]<;>omega,?_⟩
  conv=>whnf
  intro ρ3 w6 r3
  exact⟨(i+1,w6,_),⟨hib,hw.tr r3.bel⟩,Sub.gen [] r3 trivial ⟨rfl,rfl,rfl,trivial⟩ (by simp[ScH,Blk.scopd,At.sc]) (by simp[ScE,SV.sc,At.sc,initE]) (by rfl) (fun lo hi h=>h),by dsimp only;omega⟩
 conv=>whnf
 intro ρe we re
 exact⟨_,rfl,hw.tr re.bel,rfl⟩
end Go.Ex

/- StaticsGathers of the laws of chapter 5. Printed by program. No condition. -/
namespace Go.Ex
open Go Go.Sx Go.Proofs

theorem CasesR.keep{w w2:World}{S:Nat→Prop}{v:Value}{cs:List (List Ld)}(h:CasesR w S v cs)(hk:∀g,S g→w2.heap[g]? =w.heap[g]?):CasesR w2 S v cs:=by
 obtain⟨rv,h1,h2,h3⟩:=h;exact⟨rv,h1.keep hk,h2,fun i u x k1 k2=>LoadsR.keep (h3 i u x k1 k2) hk⟩
theorem LoadsR.nilR{w:World}{S:Nat→Prop}:LoadsR w S (.slice none 0 0) []:=⟨[],⟨Nat.zero_le _,rfl,by simp,none,0,rfl,Nat.le_refl _,fun j u h=>by cases h⟩,rfl,by simp,fun j cs x h=>by cases h⟩
section
variable{S S':Nat→Prop}{H:Hp}{nx:Nat}{iv iv':Iv}{B:Nat}{w w' w2:World}{ρ:Nat→Sx.Val}{v:Value}{l:List Ld}
theorem LoadsR.rel(h:LoadsR w (Cv S B iv) v l)(r:Rel H nx iv B w ρ w')(hS:∀g,S g→g<B):LoadsR w' (Cv S B iv) v l:=LoadsR.keep h fun _ hg=>Rel.same r hS hg
theorem LoadsR.past(h:LoadsR w (Cv S B iv) v l)(r:Rel H nx iv B w ρ w')(hS:∀g,S g→g<B)(he:Ext w' w2)(hm:∀p,p∈iv→p∈iv'):LoadsR w2 (Cv S B iv') v l:=
 LoadsR.weak ((LoadsR.rel h r hS).keep fun g hg=>he.block g (Rel.old r hS g hg)) fun _ hg=>hg.mono hm
theorem LoadsR.got(h:LoadsR w2 (Nw (fun _=>False) w' w2) v l)(hB:B≤w'.heap.size)(hm:(w'.heap.size,w2.heap.size)∈iv):LoadsR w2 (Cv S B iv) v l:=LoadsR.weak h fun _ hg=>hg.got hB hm
end
set_option maxHeartbeats 1000000 in
theorem staticsGathers_c{S:Nat→Prop}{w:World}{v u:Value}{cs:List (List Ld)}{fs:List Int}(hS:Old S w)(hC:CasesR w S v cs)(hF:ZsR w S u fs):
  Con PG N.law05_StaticsGathers #[v,u] w (Ret w fun v' _=>v'= .bool true):=by
 have hw:Bel w.heap.size w w:=Bel.refl
 obtain⟨ac,cc,rfl,-,hmc⟩:=SlicesR.shape hC
 obtain⟨af,cf,rfl,-,hmf⟩:=hF.shape
 unfold maxLen at hmc hmf
 refine in_law05_StaticsGathers (by simp) ?_
 conv=>whnf
 refine BrS.mk (fun h0=>?_) (fun h0=>?_)
 ·conv=>whnf
  refine callE_S (cE hw (Φ:=fun _ w' v w2=>v= .bool true) (fun ρ w' r=>awake5_c w') ?_)
  rintro ρ wa1 v1 wb1 iv1 r he hw h_ rfl
  clear r
  conv=>whnf
  intro ρe we re
  exact⟨_,rfl,hw.tr re.bel,rfl⟩
 have h0:=of_decide_eq_false h0
 conv=>whnf
 refine BrS.mk (fun h1=>?_) (fun h1=>?_)
 ·conv=>whnf
  refine callE_S (cE hw (Φ:=fun _ w' v w2=>v= .bool true) (fun ρ w' r=>awake5_c w') ?_)
  rintro ρ wa1 v1 wb1 iv1 r he hw h_ rfl
  clear r
  conv=>whnf
  intro ρe we re
  exact⟨_,rfl,hw.tr re.bel,rfl⟩
 have h1:=of_decide_eq_false h1
 conv=>whnf
 refine⟨Nat×World×Iv,fun z=>⟨[(0,.o (.v (.slice ac cs.length cc))),(1,.o (.v (.slice af fs.length cf))),(5,.o (.v (.int .i64 ((z.1:Nat):Int))))],[],0,z.2.2,z.2.1⟩,fun z=>cs.length-z.1,
  fun z=>z.1≤cs.length∧Bel w.heap.size w z.2.1,?_,?_⟩
 ·intro ρ w' r3
  exact⟨(0,w',_),⟨Nat.zero_le _,hw.tr r3.bel⟩,Sub.gen [] r3 trivial ⟨rfl,rfl,rfl,trivial⟩ (by simp[ScH,Blk.scopd,At.sc]) (by simp[ScE,SV.sc,At.sc,initE]) (by rfl) (fun lo hi h=>h)⟩
 clear hw
 rintro⟨i,w1,iv⟩ ⟨hi,hw⟩
 dsimp only at hi hw ⊢
 conv=>whnf
 refine BrS.mk (fun hib=>?_) (fun hib=>?_)
 ·have hib:i<cs.length:=by simpa using hib
  obtain⟨l,hl⟩:∃x,cs[i]? =some x:=⟨_,List.getElem?_eq_getElem hib⟩
  obtain⟨adm,um,ham,hRm,km1,km2⟩:=SlicesR.load hC hl
  obtain⟨al,cl,rfl,-,hml⟩:=hRm.shape
  conv=>whnf
  refine⟨adm,ham,⟨by omega,by omega⟩,?_⟩
  conv=>whnf
  refine⟨.slice al l.length cl,fun ρ w' r=>?_,?_⟩
  ·rw[Int.toNat_natCast,cell_of_heap (w:=w) (w2:=w') (by rw[addB];exact(hw.tr r.bel).block _ (hS _ km1))]
   exact km2
  conv=>whnf
  refine BrS.mk (fun hd=>?_) (fun hd=>?_)
  ·conv=>whnf
   refine callE_S (cE hw (Φ:=fun _ w' v w2=>v= .bool true) (fun ρ w' r=>awake5_c w') ?_)
   rintro ρ wa1 v1 wb1 iv1 r he hw h_ rfl
   clear r
   conv=>whnf
   intro ρe we re
   exact⟨_,rfl,hw.tr re.bel,rfl⟩
  conv=>whnf
  refine⟨((i+1:Nat):Int),by rw[wrap64]<;>omega,?_⟩
  conv=>whnf
  intro ρ3 w6 r3
  exact⟨(i+1,w6,_),⟨hib,hw.tr r3.bel⟩,Sub.gen [] r3 trivial ⟨rfl,rfl,rfl,trivial⟩ (by simp[ScH,Blk.scopd,At.sc]) (by simp[ScE,SV.sc,At.sc,initE]) (by rfl) (fun lo hi h=>h),by dsimp only;omega⟩
 conv=>whnf
 obtain⟨e0,he0⟩:∃e,e=errG cs fs:=⟨_,rfl⟩
 refine callE_S (callE_con (Φ:=fun _ w' v w2=>(e0≠0∧v= .tuple #[.slice none 0 0,.int .i64 e0])∨(e0=0∧∃vr,v= .tuple #[vr,.int .i64 0]∧LoadsR w2 (Nw (fun _=>False) w' w2) vr (gathTo (outTo cs fs cs.length) 20))) (fun ρ w' r=>sGather_c (S:=S) (fun g hg=>by have:=hS g hg;have:=r.baseLe;omega) (CasesR.keep hC fun g hg=>(hw.tr r.bel).block g (hS g hg)) (ZsR.keep hF fun g hg=>(hw.tr r.bel).block g (hS g hg)) he0) ?_)
 rintro ρ wa1 v1 wb1 r he hb (⟨hne,rfl⟩|⟨h0,vr,rfl,hn⟩)
 ·replace hw:=hw.tr hb
  clear r he hb
  generalize (wa1.heap.size,wb1.heap.size)::iv=iv1 at*
  conv=>whnf
  refine callE_S (cE hw (Φ:=fun _ w' v w2=>v= .tuple #[.slice none 0 0,.int .i64 e0]) (fun ρ w' r=>(rGather_c (S:=S) (fun g hg=>by have:=hS g hg;have:=r.baseLe;omega) (CasesR.keep hC fun g hg=>(hw.tr r.bel).block g (hS g hg)) (ZsR.keep hF fun g hg=>(hw.tr r.bel).block g (hS g hg)) he0).mono fun _ _ ⟨v2,e1,e2,e3⟩=>⟨v2,e1,e2,e3.elim (fun h=>h.2) fun h=>absurd h.1 hne⟩) ?_)
  rintro ρ wa2 v2 wb2 iv2 r he hw h_ rfl
  clear r he
  conv=>whnf
  refine BrS.mk (fun _=>?_) (fun hd=>by simp at hd)
  conv=>whnf
  refine callE_S (cE hw (Φ:=fun _ w' v w2=>v= .bool true) (fun ρ w' r=>sameLoads_c (S:=fun _=>False) (oldF w') LoadsR.nilR LoadsR.nilR) ?_)
  rintro ρ wa3 v3 wb3 iv3 r he hw h_ rfl
  clear r he
  conv=>whnf
  refine callE_S (cE hw (Φ:=fun _ w' v w2=>v= .bool true) (fun ρ w' r=>awake5_c w') ?_)
  rintro ρ wa4 v4 wb4 iv4 r he hw h_ rfl
  clear r he
  conv=>whnf
  intro ρe we re
  exact⟨_,rfl,hw.tr re.bel,rfl⟩
 replace hw:=hw.tr hb
 have hd:=LoadsR.got (S:=fun _=>False) hn r.baseLe (iv:=(wa1.heap.size,wb1.heap.size)::iv) List.mem_cons_self
 clear r he hb hn
 generalize (wa1.heap.size,wb1.heap.size)::iv=iv1 at*
 obtain⟨s0,s1,rfl,-,-⟩:=hd.shape
 conv=>whnf
 refine callE_S (cE hw (Φ:=fun _ w' v w2=>∃vr,v= .tuple #[vr,.int .i64 0]∧LoadsR w2 (Nw (fun _=>False) w' w2) vr (gathTo (outTo cs fs cs.length) 20)) (fun ρ w' r=>(rGather_c (S:=S) (fun g hg=>by have:=hS g hg;have:=r.baseLe;omega) (CasesR.keep hC fun g hg=>(hw.tr r.bel).block g (hS g hg)) (ZsR.keep hF fun g hg=>(hw.tr r.bel).block g (hS g hg)) he0).mono fun _ _ ⟨v2,e1,e2,e3⟩=>⟨v2,e1,e2,e3.elim (fun h=>absurd h0 h.1) fun h=>h.2⟩) ?_)
 rintro ρ wa2 v2 wb2 iv2 r he hw h_ ⟨vq,rfl,hn⟩
 replace hd:=LoadsR.past hd r (oldF w) he (mC h_)
 have hr:=LoadsR.got (S:=fun _=>False) hn r.baseLe (mN h_)
 clear r he
 clear hn
 obtain⟨s2,s3,rfl,-,-⟩:=hr.shape
 conv=>whnf
 refine callE_S (cE hw (Φ:=fun _ w' v w2=>v= .bool true) (fun ρ w' r=>sameLoads_c (S:=Cv (fun _=>False) w.heap.size iv2) (Rel.old r (oldF w)) (LoadsR.rel hd r (oldF w)) (LoadsR.rel hr r (oldF w))) ?_)
 rintro ρ wa3 v3 wb3 iv3 r he hw h_ rfl
 clear hd
 clear hr
 clear r he
 conv=>whnf
 refine callE_S (cE hw (Φ:=fun _ w' v w2=>v= .bool true) (fun ρ w' r=>awake5_c w') ?_)
 rintro ρ wa4 v4 wb4 iv4 r he hw h_ rfl
 clear r he
 conv=>whnf
 intro ρe we re
 exact⟨_,rfl,hw.tr re.bel,rfl⟩
end Go.Ex
