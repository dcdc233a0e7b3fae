/- A part of the proof: texts X109 to X109. Each tells its conditions in its theorems. -/
import Derived.Test.YtneljlhlncjkhaaGreatDoorP15
/- The law ExactDefinite. Printed by program. No condition but sizes. -/
namespace Go.Ex
open Go Go.Sx Go.Proofs

theorem rl_prodR{f:Nat→Rat}{b:Nat}:∀n,(∀k,k<n→rl (f k)≤b)→rl (prodR f n)≤b*n+1
 |0,_=>by show rl 1≤_;exact Nat.le_trans (by decide:rl 1≤1) (Nat.le_add_left ..)
 |n+1,h=>by
  have h1:=rl_prodR n fun k hk=>h k (by omega)
  have h2:=h n (by omega)
  have h3:=rl_mul (prodR f n) (f n)
  show rl (prodR f n*f n)≤_
  rw[Nat.mul_add]
  omega
theorem gramF_ht{M:List (List Rat)}{h n:Nat}(H:Ht M h)(h2:2≤h)(hn:∀r∈M,r.length≤n):Ht (gramF M) (2*h*n+3):=fun r hr q hq=>by
 obtain⟨a,ha,rfl⟩:=List.mem_map.1 hr
 obtain⟨b,hb,rfl⟩:=List.mem_map.1 hq
 have h3:=rl_dotTo (H a ha) (H b hb) h2 a.length
 have:=Nat.mul_le_mul_left (2*h) (hn a ha)
 omega
theorem errQ_len{β:Type}{M:List (List (Int×Int))}{K:List (List β)}{n:Nat}(hM:∀r∈M,r.length=n)(hK:∀r∈K,r.length=n)(hn:M.length=n)(hk:K.length=n)(h:errQ M=0):errQ K=0:=by
 have hc:colsM K=colsM M:=by
  cases M with
  |nil=>cases K with
   |nil=>rfl
   |cons r t=>simp at hn hk;omega
  |cons a s=>cases K with
   |nil=>simp at hn hk;omega
   |cons r t=>exact(hK r List.mem_cons_self).trans (hM a List.mem_cons_self).symm
 obtain⟨h1,h2⟩:=errQ_zero h
 obtain⟨h3,h4,h5⟩:=errM_zero h1
 have h6:errM K=0:=by
  unfold errM
  rw[if_pos (fun r hr=>by
   rw[hK r hr,hc]
   cases M with
   |nil=>simp at hn;have:=List.length_pos_of_mem hr;omega
   |cons a s=>exact(hM a List.mem_cons_self).symm),if_neg (by omega)]
 unfold errQ
 rw[if_neg (by omega),if_neg (by omega)]
end Go.Ex
namespace Go.Sx
open Go Go.Ex Go.Proofs
/-- a growing list of one's own, given up at a loop -/
theorem Sub.giveV{B:Nat}{l tl:Env}{nx:Nat}{H tH:Hp}{iv:Iv}{w w':World}{ρ:Nat→Sx.Val}{id t n sz:Nat}{e:TypeId}{cs:List Value}(r:Rel H nx iv B w ρ w')(hid:getH H id=some (.vec e sz cs))(hn:(ρ id).nil=false)(ht:getE l t=some (.o (.w id n)))
  (hs:SubH H tH) (ho:okH id tH=true) (h1:SubE l tl) (h2:ScE nx tl):
  Sub B l nx ρ w' ⟨(t,.o (.v (.slice (some ⟨(ρ id).g,0,none⟩) n (ρ id).cap)))::tl,tH,nx,((ρ id).g,(ρ id).g+1)::iv,w'⟩:=
 ⟨ρ,r.free hid (by simp) hn hs ho,fun u v hv=>give_env hn ht h1 h2 u v hv⟩
end Go.Sx
namespace Go.Ex
open Go Go.Sx Go.Proofs
theorem Fc.give{H:Hp}{nx:Nat}{iv:Iv}{B:Nat}{w w':World}{ρ:Nat→Sx.Val}(r:Rel H nx iv B w ρ w'){id m:Nat}{css:List (List Value)}{qs:List Rat}(h:getH H id=some (.vec T.Rat 4 css.flatten))(hl:css.length=m)(h0:0<m)(hm:m≤maxLen)(hF:Fc w' (Cv (fun _=>False) B iv) css qs):
  (ρ id).nil=false∧RatsC w' (Cv (fun _=>False) B (((ρ id).g,(ρ id).g+1)::iv)) (.slice (some ⟨(ρ id).g,0,none⟩) m (ρ id).cap) qs:=by
 have hfl:=flat_len hF.len4
 obtain⟨h1,h2,h3⟩:=vecGive r (m:=m) (sz:=4) h (by rw[hfl,hl]) hm (by decide) h0 hF.one
 refine⟨h1,css,?_,hF.1,hF.len4,fun j cs q k1 k2=>(hF.2 j cs q k1 k2).weak fun _ hg=>hg.mono fun p hp=>List.mem_cons_of_mem _ hp⟩
 rw[←hF.1,hl]
 exact h3.weak fun g hg=>.inr ⟨by omega,_,_,List.mem_cons_self,by omega,by omega⟩
theorem gramDef_c{w:World}{v:Value}{rv:List Value}{M:List (List Rat)}(hn:M.length≤5)(hrow:∀r∈M,r.length=M.length)(H:Ht M 4)(hq:errQ ((gramF M).map pairs)=0)(h1:SeqR w (fun g=>g<w.heap.size) 1 v rv M.length)(h2:RowsC w (fun g=>g<w.heap.size) rv (gramF M)):
  Con PG N.exact_Definite #[v] w (Ret w fun v' _=>∃d,v'= .tuple #[.bool d,.int .i64 0]∧(d=true→DefF (gramF M))∧(DefF (gramF M)→d=true)):=by
 have hm:RatMC w (fun g=>g<w.heap.size) v (gramF M):=⟨rv,by rw[gramF_length];exact h1,h2.1,h2.2.2⟩
 have hht:=gramF_ht H (by decide) fun r hr=>by rw[hrow r hr];exact hn
 refine(pubDefinite_c (h0:=43) (fun g hg=>hg) hm.pairs (fun _=>⟨fun r hr=>?_,by rw[pairsM];exact hht,by decide,?_⟩) (by decide)).mono fun e w3 ⟨v2,x1,x2,x3⟩=>⟨v2,x1,x2,by
  have:=(x3.resolve_left fun k=>k.1 hq).2
  rwa [pairsM]at this⟩
 ·obtain⟨x,hx,rfl⟩:=List.mem_map.1 hr
  exact few_pairs fun q hq=>by have:=hht x hx q hq;omega
 ·rw[List.length_map,gramF_length]
  exact Nat.le_trans (Nat.mul_le_mul_right 43 (Nat.pow_le_pow_right (by decide) hn)) (by decide)
set_option maxHeartbeats 1000000 in
theorem exactDefinite_c{S:Nat→Prop}{w:World}{v u:Value}{M:List (List (Int×Int))}{X:List (Int×Int)}(hS:Old S w)(h:RatMR w S v M)(hx:RatsR w S u X):
  Con PG N.law01_ExactDefinite #[v,u] w (Ret w fun v' _=>v'= .bool true):=by
 have hw:Bel w.heap.size w w:=Bel.refl
 obtain⟨am,cm,rfl,hcm,hmm⟩:=SlicesR.shape h
 obtain⟨ax,cx,rfl,hcx,hmx⟩:=ListR.shape hx
 unfold maxLen at hmm hmx
 refine in_law01_ExactDefinite (by simp) ?_
 conv=>whnf
 refine callE_S (callE_con (Φ:=fun _ w' v w2=>∃d,v= .bool d∧(d=true→SmallM w S (.slice am M.length cm) M)) (fun ρ w' r=>smallW_c (fun g hg=>by have:=hS g hg;have:=r.baseLe;omega) (fun g hg=>(hw.tr r.bel).block g (hS g hg)) h) ?_)
 rintro ρ wa1 v1 wb1 r he hb ⟨d,rfl,hd⟩
 replace hw:=hw.tr hb
 clear r he hb
 generalize (wa1.heap.size,wb1.heap.size)::[]=iv1 at*
 conv=>whnf
 cases d with
 |false=>
  conv=>whnf
  refine callE_S (callE_con (Φ:=fun _ w' v w2=>v= .bool true) (fun ρ w' r=>awake_c w') ?_)
  rintro ρ wa2 v2 wb2 r he hb rfl
  replace hw:=hw.tr hb
  clear r he hb
  generalize (wa2.heap.size,wb2.heap.size)::iv1=iv2 at*
  conv=>whnf
  intro ρe we re
  exact⟨_,rfl,hw.tr re.bel,rfl⟩
 |true=>
  have hM:=hd rfl
  clear hd
  conv=>whnf
  refine callE_S (callE_con (Φ:=fun _ w' v w2=>v= .int .i64 (errQ M)) (fun ρ w' r=>rCheckSquare_c (fun g hg=>by have:=hS g hg;have:=r.baseLe;omega) (RatMR.keep h (fun g hg=>(hw.tr r.bel).block g (hS g hg)))) ?_)
  rintro ρ wa2 v2 wb2 r he hb rfl
  replace hw:=hw.tr hb
  clear r he hb
  generalize (wa2.heap.size,wb2.heap.size)::iv1=iv2 at*
  conv=>whnf
  refine BrS.mk (fun he=>?_) (fun he=>?_)
  ·conv=>whnf
   refine callE_S (callE_con (Φ:=fun _ w' v w2=>v= .bool true) (fun ρ w' r=>awake_c w') ?_)
   rintro ρ wa3 v3 wb3 r he hb rfl
   replace hw:=hw.tr hb
   clear r he hb
   generalize (wa3.heap.size,wb3.heap.size)::iv2=iv3 at*
   conv=>whnf
   intro ρe we re
   exact⟨_,rfl,hw.tr re.bel,rfl⟩
  have he:errQ M=0:=by
   have h4:(((errQ M:Nat):Int)==(0:Int))=true:=by simpa using he
   have:=eq_of_beq h4
   omega
  conv=>whnf
  refine BrS.mk (fun hXl=>?_) (fun hXl=>?_)
  ·conv=>whnf
   refine callE_S (callE_con (Φ:=fun _ w' v w2=>v= .bool true) (fun ρ w' r=>awake_c w') ?_)
   rintro ρ wa3 v3 wb3 r he hb rfl
   replace hw:=hw.tr hb
   clear r he hb
   generalize (wa3.heap.size,wb3.heap.size)::iv2=iv3 at*
   conv=>whnf
   intro ρe we re
   exact⟨_,rfl,hw.tr re.bel,rfl⟩
  have hXl:X.length=M.length:=by
   have h4:(((X.length:Nat):Int)==((M.length:Nat):Int))=true:=by simpa using hXl
   have:=eq_of_beq h4
   omega
  conv=>whnf
  refine callE_S (callE_con (Φ:=fun _ w' v w2=>∃d,v= .bool d∧(d=true→SmallB w S (.slice ax X.length cx) X)) (fun ρ w' r=>briefW_c (fun g hg=>by have:=hS g hg;have:=r.baseLe;omega) (fun g hg=>(hw.tr r.bel).block g (hS g hg)) hx) ?_)
  rintro ρ wa3 v3 wb3 r he hb ⟨d,rfl,hd⟩
  replace hw:=hw.tr hb
  clear r he hb
  generalize (wa3.heap.size,wb3.heap.size)::iv2=iv3 at*
  conv=>whnf
  cases d with
  |false=>
   conv=>whnf
   refine callE_S (callE_con (Φ:=fun _ w' v w2=>v= .bool true) (fun ρ w' r=>awake_c w') ?_)
   rintro ρ wa4 v4 wb4 r he hb rfl
   replace hw:=hw.tr hb
   clear r he hb
   generalize (wa4.heap.size,wb4.heap.size)::iv3=iv4 at*
   conv=>whnf
   intro ρe we re
   exact⟨_,rfl,hw.tr re.bel,rfl⟩
  |true=>
   have hXs:=hd rfl
   clear hd
   conv=>whnf
   obtain⟨hxL,hxq,-⟩:=hXs
   have hxl:(X.map ratioP).length=M.length:=by rw[List.length_map];exact hXl
   obtain⟨hE,hsq⟩:=errQ_zero he
   obtain⟨k1,z5,k3,z2,-⟩:=hM.sizes hE
   have z1:=hM.2.2.2.2
   have z4:4^M.length*4≤500000000:=Nat.le_trans (Nat.mul_le_mul_right 4 (Nat.pow_le_pow_right (by decide) z5)) (by decide)
   have hdb:detB 4 M.length≤3000:=Nat.le_trans (detB_mono z5) (by decide)
   have hML:=hM.2.2.1
   have hVl:(valsM M).length=M.length:=by simp[valsM]
   have hrow:∀r∈valsM M,r.length=M.length:=fun r hr=>by
    obtain⟨x,hx,rfl⟩:=List.mem_map.1 hr
    rw[List.length_map,k1 x hx,hsq]
   have hrowV:Len (valsM M).length (valsM M):=fun r hr=>by rw[hrow r hr,hVl]
   have hcv:colsM M=M.length:=hsq
   rw[hXl]at hcx hxL hx ⊢
   generalize X.map ratioP=x at*
   obtain⟨V,hV⟩:∃V,V=valsM M:=⟨_,rfl⟩
   clear hmx
   refine callE_S (callE_con (Φ:=fun _ w' v w2=>∃d,v= .tuple #[.bool d,.int .i64 0]∧(d=true→DefF (valsM M))∧(DefF (valsM M)→d=true)) (fun ρ w' r=>(pubDefinite_c (h0:=4) (fun g hg=>by have:=hS g hg;have:=r.baseLe;omega) (RatMR.keep h (fun g hg=>(hw.tr r.bel).block g (hS g hg))) (fun _=>⟨z1,z2,by decide,z4⟩) (by decide)).mono fun e w3 ⟨v2,x1,x2,x3⟩=>⟨v2,x1,x2,(x3.resolve_left fun k=>k.1 he).2⟩) ?_)
   rintro ρ wa4 v4 wb4 r he hb ⟨d1,rfl,hd1,hd2⟩
   replace hw:=hw.tr hb
   clear r he hb
   generalize (wa4.heap.size,wb4.heap.size)::iv3=iv4 at*
   conv=>whnf
   refine callE_S (callE_con (Φ:=fun _ w' v w2=>∃l,v= .tuple #[l,.int .i64 0]∧RatsC w2 (Nw (fun _=>False) w' w2) l (minorsF (valsM M))) (fun ρ w' r=>(pubMinors_c (h0:=4) (fun g hg=>by have:=hS g hg;have:=r.baseLe;omega) (RatMR.keep h (fun g hg=>(hw.tr r.bel).block g (hS g hg))) (fun _=>⟨z1,z2,by decide,z4,by omega⟩)).mono fun e w3 ⟨v2,x1,x2,x3⟩=>⟨v2,x1,x2,(x3.resolve_left fun k=>k.1 he).2⟩) ?_)
   rintro ρ wa5 v5 wb5 r he hb ⟨l,rfl,hn⟩
   replace hw:=hw.tr hb
   have hl:=RatsC.got (S:=fun _=>False) hn r.baseLe (iv:=(wa5.heap.size,wb5.heap.size)::iv4) List.mem_cons_self
   clear r he hb
   generalize (wa5.heap.size,wb5.heap.size)::iv4=iv5 at*
   clear hn
   obtain⟨al,cl,rfl,-,-⟩:=ListR.shape hl
   rw[minorsF_length,hVl]at hl ⊢
   conv=>whnf
   refine BrS.mk (fun hne=>by simp at hne) (fun _=>?_)
   conv=>whnf
   refine callE_S (callE_con (Φ:=fun _ w' v w2=>RatC w2 (Nw (fun _=>False) w' w2) v (((1:Int):Rat))) (fun ρ w' r=>pubWhole_c 1 w' (by decide) (by decide)) ?_)
   rintro ρ wa6 v6 wb6 r he hb hn
   replace hw:=hw.tr hb
   replace hl:=RatsC.past (iv':=(wa6.heap.size,wb6.heap.size)::iv5) hl r (oldF w) he fun x hx=>List.mem_cons_of_mem _ hx
   have hd:=hn.got (S:=fun _=>False) r.baseLe (iv:=(wa6.heap.size,wb6.heap.size)::iv5) List.mem_cons_self
   clear r he hb hn
   generalize (wa6.heap.size,wb6.heap.size)::iv5=iv6 at*
   obtain⟨s6_0,s6_1,s6_2,s6_3,s6_4,s6_5,s6_6,s6_7,rfl⟩:=hd.shape
   conv=>whnf
   rw[show ((1:Int):Rat)=(prodR (fun j=>at2 (valsM M) j j) 0) by rfl]at hd
   refine⟨Nat×Bool×((Bool×Bool)×(Option Addr×Option Addr)×(Nat×Nat×Nat×Nat))×World×Iv,fun z=>⟨[(0,.o (.v (.slice am M.length cm))),(1,.o (.v (.slice ax M.length cx))),(5,.o (.v (.bool d1))),(7,.o (.v (.slice al M.length cl))),(9,.o (.v (.bool z.2.1))),(10,.o (.p 0 0)),(11,.o (.v (.int .i64 ((z.1:Nat):Int))))],[(0,.box T.Rat [.v (.bool z.2.2.1.1.1),.v (.slice z.2.2.1.2.1.1 z.2.2.1.2.2.1 z.2.2.1.2.2.2.1),.v (.bool z.2.2.1.1.2),.v (.slice z.2.2.1.2.1.2 z.2.2.1.2.2.2.2.1 z.2.2.1.2.2.2.2.2)])],1,z.2.2.2.2,z.2.2.2.1⟩,fun z=>M.length-z.1,
    fun z=>z.1≤M.length∧Bel w.heap.size w z.2.2.2.1∧RatsC z.2.2.2.1 (Cv (fun _=>False) w.heap.size z.2.2.2.2) (.slice al M.length cl) (minorsF (valsM M))∧RatC z.2.2.2.1 (Cv (fun _=>False) w.heap.size z.2.2.2.2) (.agg #[.bool z.2.2.1.1.1,.slice z.2.2.1.2.1.1 z.2.2.1.2.2.1 z.2.2.1.2.2.2.1,.bool z.2.2.1.1.2,.slice z.2.2.1.2.1.2 z.2.2.1.2.2.2.2.1 z.2.2.1.2.2.2.2.2]) (prodR (fun j=>at2 (valsM M) j j) z.1)∧(z.2.1=false→∃j,j<M.length∧x.getD j 0≠0),?_,?_⟩
   ·intro ρ w' r
    exact⟨(0,true,((s6_0,s6_4),(s6_1,s6_5),(s6_2,s6_3,s6_6,s6_7)),w',iv6),⟨Nat.zero_le _,hw.tr r.bel,RatsC.rel hl r (oldF w),hd.rel r (oldF w),fun e=>by cases e⟩,Sub.gen [] r ⟨rfl,trivial⟩ ⟨rfl,rfl,rfl,rfl,rfl,rfl,rfl,trivial⟩ (by simp[ScH,Blk.scopd,At.sc]) (by simp[ScE,SV.sc,At.sc]) (by rfl) (fun lo hi h=>h)⟩
   clear hw hl hd
   rintro⟨i,b,⟨⟨p0,p4⟩,⟨p1,p5⟩,⟨p2,p3,p6,p7⟩⟩,w1,iv⟩ ⟨hi,hw,hl,hd,hz⟩
   dsimp only at hi hw hl hd hz ⊢
   conv=>whnf
   refine BrS.mk (fun hib=>?_) (fun hib=>?_)
   ·have hib:i<M.length:=by simpa using hib
    conv=>whnf
    refine BrS.mk (fun hb0=>?_) (fun hb0=>?_)
    ·obtain⟨qx,hqx⟩:∃q,x[i]? =some q:=⟨_,List.getElem?_eq_getElem (by omega)⟩
     have hxd:x.getD i 0=qx:=by rw[List.getD,hqx];rfl
     obtain⟨adx,csx,hax,hFx,_,hlx⟩:=ListR.load hxL hqx
     obtain⟨f0,f1,f2,f3,f4,f5,f6,f7,rfl,hFx⟩:=hFx
     conv=>whnf
     refine⟨adx,hax,⟨by omega,by omega⟩,?_⟩
     conv=>whnf
     refine⟨[.bool f0,.slice f1 f2 f3,.bool f4,.slice f5 f6 f7],rfl,fun ρ w' r j u hu=>?_,?_⟩
     ·obtain⟨k1,k2⟩:=hlx j u hu
      rw[Int.toNat_natCast,cell_of_heap (w:=w) (w2:=w') (by rw[addB,addB];exact(hw.tr r.bel).block _ (hS _ k1))]
      exact k2
     conv=>whnf
     refine callE_S (callE_con (Φ:=fun _ w' v w2=>v= .int .i64 (rs qx)) (fun ρ w' r=>rSignOfL_c (fun g hg=>by have:=hS g hg;have:=r.baseLe;omega) (hFx.keep (fun g hg=>(hw.tr r.bel).block g (hS g hg)))) ?_)
     rintro ρ wa7 v7 wb7 r he hb rfl
     replace hw:=hw.tr hb
     replace hl:=RatsC.past (iv':=(wa7.heap.size,wb7.heap.size)::iv) hl r (oldF w) he fun x hx=>List.mem_cons_of_mem _ hx
     replace hd:=hd.past (iv':=(wa7.heap.size,wb7.heap.size)::iv) r (oldF w) he fun x hx=>List.mem_cons_of_mem _ hx
     clear r he hb
     generalize (wa7.heap.size,wb7.heap.size)::iv=iv7 at*
     conv=>whnf
     clear hFx hlx
     obtain⟨re,hre⟩:∃r,(valsM M)[i]? =some r:=⟨_,List.getElem?_eq_getElem (by omega)⟩
     have hle:=hrow re (List.mem_of_getElem? hre)
     obtain⟨qe,hqe⟩:∃q,re[i]? =some q:=⟨_,List.getElem?_eq_getElem (by omega)⟩
     have hee:at2 (valsM M) i i=qe:=by unfold at2;simp[List.getD,hre,hqe]
     obtain⟨ade,ue,hae,hRe,k1e,k2e⟩:=SlicesR.load hML hre
     obtain⟨aue,cue,rfl,-,-⟩:=ListR.shape hRe
     obtain⟨aee,cse,haee,hFe,-,hlee⟩:=ListR.load hRe hqe
     obtain⟨e0,e1,e2,e3,e4,e5,e6,e7,rfl,hFe⟩:=hFe
     have hqel:=z2.at hre qe (List.mem_of_getElem? hqe)
     have hpl:=rl_prodR (f:=fun j=>at2 (valsM M) j j) (b:=4) i fun k _=>Nat.le_of_lt (at2_ht' z2 (by decide) k k)
     have hpl2:=rl_prodR (f:=fun j=>at2 (valsM M) j j) (b:=4) (i+1) fun k _=>Nat.le_of_lt (at2_ht' z2 (by decide) k k)
     refine drawn_of_pi hτ hmix [.x 0,.x 1,.x 2,.x 3,.x 4,.x 5,.x 6,.x 7,.x 8,.x 9] (by kernel_rfl) (by kernel_rfl) ?_
     conv=>whnf
     refine⟨ade,hae,⟨by omega,by omega⟩,?_⟩
     conv=>whnf
     refine⟨.slice aue re.length cue,fun ρ w' r=>?_,?_⟩
     ·rw[Int.toNat_natCast,cell_of_heap (w:=w) (w2:=w') (by rw[addB];exact(hw.tr r.bel).block _<|hS _<|k1e)]
      exact k2e
     conv=>whnf
     refine⟨aee,haee,⟨by omega,by omega⟩,?_⟩
     conv=>whnf
     refine⟨[.bool e0,.slice e1 e2 e3,.bool e4,.slice e5 e6 e7],rfl,fun ρ w' r j u hu=>?_,?_⟩
     ·obtain⟨z1,z2⟩:=hlee j u hu
      rw[Int.toNat_natCast,cell_of_heap (w:=w) (w2:=w') (by rw[addB,addB];exact(hw.tr r.bel).block _<|hS _<|z1)]
      exact z2
     conv=>whnf
     refine callE_con (Φ:=fun _ w' v w2=>RatC w2 (Nw (fun _=>False) w' w2) v ((prodR (fun j=>at2 (valsM M) j j) i)*qe)) (fun ρ w' r=>vMul_c (Rel.old r hS) (RatV.weak (RatC.v (hd.rel r (oldF w)) (by omega)) fun _ hg=>(cvF hg:Cv S w.heap.size _ _)) (RatV.weak (RatL.v (hFe.keep (fun g hg=>(hw.tr r.bel).block g (hS g hg)))) fun _ hg=>(.inl hg:Cv S w.heap.size _ _))) ?_
     rintro ρ wa8 v8 wb8 r he hb hn
     replace hw:=hw.tr hb
     replace hl:=RatsC.past (iv':=(wa8.heap.size,wb8.heap.size)::iv7) hl r (oldF w) he fun x hx=>List.mem_cons_of_mem _ hx
     clear hd
     have hd3:=hn.got (S:=fun _=>False) r.baseLe (iv:=(wa8.heap.size,wb8.heap.size)::iv7) List.mem_cons_self
     clear r he hb hn
     generalize (wa8.heap.size,wb8.heap.size)::iv7=iv8 at*
     obtain⟨s8_0,s8_1,s8_2,s8_3,s8_4,s8_5,s8_6,s8_7,rfl⟩:=hd3.shape
     conv=>whnf
     rw[show (prodR (fun j=>at2 (valsM M) j j) i)*qe=(prodR (fun j=>at2 (valsM M) j j) (i+1)) by rw[prodR,hee]]at hd3
     clear hRe hFe hlee k1e k2e
     obtain⟨q,hq⟩:∃q,(minorsF (valsM M))[i]? =some q:=⟨_,List.getElem?_eq_getElem (by rw[minorsF_length];omega)⟩
     have hqs:q=subD (valsM M) 0 (i+1):=by rw[minorsF_get (by omega)]at hq;injection hq with hq;exact hq.symm
     have hql:=rl_minorsF z2 (by decide) q (List.mem_of_getElem? hq)
     rw[hVl]at hql
     obtain⟨adl,csl,hal,hFl,_,hll⟩:=ListR.load hl hq
     obtain⟨g0,g1,g2,g3,g4,g5,g6,g7,rfl,hFl⟩:=hFl
     refine drawn_of_pi hτ hmix [.x 0,.x 1,.x 2,.x 3,.x 4,.x 5,.x 6,.x 7,.x 8,.x 9] (by kernel_rfl) (by kernel_rfl) ?_
     conv=>whnf
     refine BrS.mk (fun h1=>?_) (fun h1=>?_)
     ·conv=>whnf
      refine⟨adl,hal,⟨by omega,by omega⟩,?_⟩
      conv=>whnf
      refine⟨[.bool g0,.slice g1 g2 g3,.bool g4,.slice g5 g6 g7],rfl,fun ρ w' r j u hu=>?_,?_⟩
      ·obtain⟨z1,z2⟩:=hll j u hu
       rw[Int.toNat_natCast,cell_of_heap (w:=wb8) (w2:=w') (by rw[addB,addB];exact Rel.same r (oldF w) z1)]
       exact z2
      conv=>whnf
      refine callE_con (Φ:=fun _ w' v w2=>v= .int .i64 (rs ((prodR (fun j=>at2 (valsM M) j j) (i+1))-q))) (fun ρ w' r=>vCmp_c (Rel.old r (oldF w)) (RatC.v (hd3.rel r (oldF w)) (by omega)) (RatC.v (hFl.rel r (oldF w)) (by omega))) ?_
      rintro ρ wa9 v9 wb9 r he hb rfl
      replace hw:=hw.tr hb
      replace hl:=RatsC.past (iv':=(wa9.heap.size,wb9.heap.size)::iv8) hl r (oldF w) he fun x hx=>List.mem_cons_of_mem _ hx
      replace hd3:=hd3.past (iv':=(wa9.heap.size,wb9.heap.size)::iv8) r (oldF w) he fun x hx=>List.mem_cons_of_mem _ hx
      clear r he hb
      generalize (wa9.heap.size,wb9.heap.size)::iv8=iv9 at*
      conv=>whnf
      clear hFl hll
      refine BrS.mk (fun hc=>?_) (fun hc=>?_)
      ·have hc:=rs_sub_neg.1 (of_decide_eq_true hc)
       have h3:=(hd1 h1).prod (k:=i) (by omega)
       rw[←hqs]at h3
       exact absurd hc (Rat.not_lt.2 h3)
      conv=>whnf
      refine⟨((i+1:Nat):Int),by rw[wrap64]<;>omega,?_⟩
      conv=>whnf
      intro ρ3 w3 r3
      exact⟨(i+1,_,((s8_0,s8_4),(s8_1,s8_5),(s8_2,s8_3,s8_6,s8_7)),w3,_),⟨hib,hw.tr r3.bel,RatsC.rel hl r3 (oldF w),hd3.rel r3 (oldF w),fun e=>⟨i,hib,fun e2=>by rw[hxd]at e2;dsimp only at e;rw[e2]at e;exact absurd e (by decide)⟩⟩,Sub.gen [] r3 ⟨rfl,trivial⟩ ⟨rfl,rfl,rfl,rfl,rfl,rfl,rfl,trivial⟩ (by simp[ScH,Blk.scopd,At.sc]) (by simp[ScE,SV.sc,At.sc]) (by rfl) (fun lo hi h=>h),by dsimp only;omega⟩
     conv=>whnf
     refine⟨((i+1:Nat):Int),by rw[wrap64]<;>omega,?_⟩
     conv=>whnf
     intro ρ3 w3 r3
     exact⟨(i+1,_,((s8_0,s8_4),(s8_1,s8_5),(s8_2,s8_3,s8_6,s8_7)),w3,_),⟨hib,hw.tr r3.bel,RatsC.rel hl r3 (oldF w),hd3.rel r3 (oldF w),fun e=>⟨i,hib,fun e2=>by rw[hxd]at e2;dsimp only at e;rw[e2]at e;exact absurd e (by decide)⟩⟩,Sub.gen [] r3 ⟨rfl,trivial⟩ ⟨rfl,rfl,rfl,rfl,rfl,rfl,rfl,trivial⟩ (by simp[ScH,Blk.scopd,At.sc]) (by simp[ScE,SV.sc,At.sc]) (by rfl) (fun lo hi h=>h),by dsimp only;omega⟩
    conv=>whnf
    obtain⟨re,hre⟩:∃r,(valsM M)[i]? =some r:=⟨_,List.getElem?_eq_getElem (by omega)⟩
    have hle:=hrow re (List.mem_of_getElem? hre)
    obtain⟨qe,hqe⟩:∃q,re[i]? =some q:=⟨_,List.getElem?_eq_getElem (by omega)⟩
    have hee:at2 (valsM M) i i=qe:=by unfold at2;simp[List.getD,hre,hqe]
    obtain⟨ade,ue,hae,hRe,k1e,k2e⟩:=SlicesR.load hML hre
    obtain⟨aue,cue,rfl,-,-⟩:=ListR.shape hRe
    obtain⟨aee,cse,haee,hFe,-,hlee⟩:=ListR.load hRe hqe
    obtain⟨e0,e1,e2,e3,e4,e5,e6,e7,rfl,hFe⟩:=hFe
    have hqel:=z2.at hre qe (List.mem_of_getElem? hqe)
    have hpl:=rl_prodR (f:=fun j=>at2 (valsM M) j j) (b:=4) i fun k _=>Nat.le_of_lt (at2_ht' z2 (by decide) k k)
    have hpl2:=rl_prodR (f:=fun j=>at2 (valsM M) j j) (b:=4) (i+1) fun k _=>Nat.le_of_lt (at2_ht' z2 (by decide) k k)
    refine drawn_of_pi hτ hmix [.x 0,.x 1,.x 2,.x 3,.x 4,.x 5,.x 6,.x 7,.x 8,.x 9] (by kernel_rfl) (by kernel_rfl) ?_
    conv=>whnf
    refine⟨ade,hae,⟨by omega,by omega⟩,?_⟩
    conv=>whnf
    refine⟨.slice aue re.length cue,fun ρ w' r=>?_,?_⟩
    ·rw[Int.toNat_natCast,cell_of_heap (w:=w) (w2:=w') (by rw[addB];exact(hw.tr r.bel).block _<|hS _<|k1e)]
     exact k2e
    conv=>whnf
    refine⟨aee,haee,⟨by omega,by omega⟩,?_⟩
    conv=>whnf
    refine⟨[.bool e0,.slice e1 e2 e3,.bool e4,.slice e5 e6 e7],rfl,fun ρ w' r j u hu=>?_,?_⟩
    ·obtain⟨z1,z2⟩:=hlee j u hu
     rw[Int.toNat_natCast,cell_of_heap (w:=w) (w2:=w') (by rw[addB,addB];exact(hw.tr r.bel).block _<|hS _<|z1)]
     exact z2
    conv=>whnf
    refine callE_con (Φ:=fun _ w' v w2=>RatC w2 (Nw (fun _=>False) w' w2) v ((prodR (fun j=>at2 (valsM M) j j) i)*qe)) (fun ρ w' r=>vMul_c (Rel.old r hS) (RatV.weak (RatC.v (hd.rel r (oldF w)) (by omega)) fun _ hg=>(cvF hg:Cv S w.heap.size _ _)) (RatV.weak (RatL.v (hFe.keep (fun g hg=>(hw.tr r.bel).block g (hS g hg)))) fun _ hg=>(.inl hg:Cv S w.heap.size _ _))) ?_
    rintro ρ wa21 v21 wb21 r he hb hn
    replace hw:=hw.tr hb
    replace hl:=RatsC.past (iv':=(wa21.heap.size,wb21.heap.size)::iv) hl r (oldF w) he fun x hx=>List.mem_cons_of_mem _ hx
    clear hd
    have hd3:=hn.got (S:=fun _=>False) r.baseLe (iv:=(wa21.heap.size,wb21.heap.size)::iv) List.mem_cons_self
    clear r he hb hn
    generalize (wa21.heap.size,wb21.heap.size)::iv=iv21 at*
    obtain⟨s21_0,s21_1,s21_2,s21_3,s21_4,s21_5,s21_6,s21_7,rfl⟩:=hd3.shape
    conv=>whnf
    rw[show (prodR (fun j=>at2 (valsM M) j j) i)*qe=(prodR (fun j=>at2 (valsM M) j j) (i+1)) by rw[prodR,hee]]at hd3
    clear hRe hFe hlee k1e k2e
    obtain⟨q,hq⟩:∃q,(minorsF (valsM M))[i]? =some q:=⟨_,List.getElem?_eq_getElem (by rw[minorsF_length];omega)⟩
    have hqs:q=subD (valsM M) 0 (i+1):=by rw[minorsF_get (by omega)]at hq;injection hq with hq;exact hq.symm
    have hql:=rl_minorsF z2 (by decide) q (List.mem_of_getElem? hq)
    rw[hVl]at hql
    obtain⟨adl,csl,hal,hFl,_,hll⟩:=ListR.load hl hq
    obtain⟨g0,g1,g2,g3,g4,g5,g6,g7,rfl,hFl⟩:=hFl
    refine drawn_of_pi hτ hmix [.x 0,.x 1,.x 2,.x 3,.x 4,.x 5,.x 6,.x 7,.x 8,.x 9] (by kernel_rfl) (by kernel_rfl) ?_
    conv=>whnf
    refine BrS.mk (fun h1=>?_) (fun h1=>?_)
    ·conv=>whnf
     refine⟨adl,hal,⟨by omega,by omega⟩,?_⟩
     conv=>whnf
     refine⟨[.bool g0,.slice g1 g2 g3,.bool g4,.slice g5 g6 g7],rfl,fun ρ w' r j u hu=>?_,?_⟩
     ·obtain⟨z1,z2⟩:=hll j u hu
      rw[Int.toNat_natCast,cell_of_heap (w:=wb21) (w2:=w') (by rw[addB,addB];exact Rel.same r (oldF w) z1)]
      exact z2
     conv=>whnf
     refine callE_con (Φ:=fun _ w' v w2=>v= .int .i64 (rs ((prodR (fun j=>at2 (valsM M) j j) (i+1))-q))) (fun ρ w' r=>vCmp_c (Rel.old r (oldF w)) (RatC.v (hd3.rel r (oldF w)) (by omega)) (RatC.v (hFl.rel r (oldF w)) (by omega))) ?_
     rintro ρ wa22 v22 wb22 r he hb rfl
     replace hw:=hw.tr hb
     replace hl:=RatsC.past (iv':=(wa22.heap.size,wb22.heap.size)::iv21) hl r (oldF w) he fun x hx=>List.mem_cons_of_mem _ hx
     replace hd3:=hd3.past (iv':=(wa22.heap.size,wb22.heap.size)::iv21) r (oldF w) he fun x hx=>List.mem_cons_of_mem _ hx
     clear r he hb
     generalize (wa22.heap.size,wb22.heap.size)::iv21=iv22 at*
     conv=>whnf
     clear hFl hll
     refine BrS.mk (fun hc=>?_) (fun hc=>?_)
     ·have hc:=rs_sub_neg.1 (of_decide_eq_true hc)
      have h3:=(hd1 h1).prod (k:=i) (by omega)
      rw[←hqs]at h3
      exact absurd hc (Rat.not_lt.2 h3)
     conv=>whnf
     refine⟨((i+1:Nat):Int),by rw[wrap64]<;>omega,?_⟩
     conv=>whnf
     intro ρ3 w3 r3
     exact⟨(i+1,false,((s21_0,s21_4),(s21_1,s21_5),(s21_2,s21_3,s21_6,s21_7)),w3,_),⟨hib,hw.tr r3.bel,RatsC.rel hl r3 (oldF w),hd3.rel r3 (oldF w),fun _=>hz (by first|rfl|exact hb0)⟩,Sub.gen [] r3 ⟨rfl,trivial⟩ ⟨rfl,rfl,rfl,rfl,rfl,rfl,rfl,trivial⟩ (by simp[ScH,Blk.scopd,At.sc]) (by simp[ScE,SV.sc,At.sc]) (by rfl) (fun lo hi h=>h),by dsimp only;omega⟩
    conv=>whnf
    refine⟨((i+1:Nat):Int),by rw[wrap64]<;>omega,?_⟩
    conv=>whnf
    intro ρ3 w3 r3
    exact⟨(i+1,false,((s21_0,s21_4),(s21_1,s21_5),(s21_2,s21_3,s21_6,s21_7)),w3,_),⟨hib,hw.tr r3.bel,RatsC.rel hl r3 (oldF w),hd3.rel r3 (oldF w),fun _=>hz (by first|rfl|exact hb0)⟩,Sub.gen [] r3 ⟨rfl,trivial⟩ ⟨rfl,rfl,rfl,rfl,rfl,rfl,rfl,trivial⟩ (by simp[ScH,Blk.scopd,At.sc]) (by simp[ScE,SV.sc,At.sc]) (by rfl) (fun lo hi h=>h),by dsimp only;omega⟩
   have hib:i=M.length:=Nat.le_antisymm hi (by simpa using hib)
   clear hl hd
   conv=>whnf
   conv=>whnf
   refine BrS.mk (fun h1=>?_) (fun h1=>?_)
   ·conv=>whnf
    refine BrS.mk (fun hb0=>?_) (fun hb0=>?_)
    ·obtain⟨j,hj,hxj⟩:=hz (by simpa using hb0)
     have hform:=(hd1 h1).form (x:=x) hrowV ⟨j,by omega,hxj⟩
     have hTl:(timesF (valsM M) x).length=M.length:=by rw[timesF_length,hVl]
     have hTq:=rl_timesF (x:=x) (n:=5) z2 (fun q hq=>by have:=hxq q hq;omega) (by decide) (fun r hr=>by rw[hrow r hr];exact z5)
     conv=>whnf
     refine callE_S (callE_con (Φ:=fun _ w' v w2=>RatsC w2 (Nw (fun _=>False) w' w2) v (timesF (valsM M) x)) (fun ρ w' r=>rTimes_c (h:=4) (fun g hg=>by have:=hS g hg;have:=r.baseLe;omega) (RatML.keep hM.2.2.1 (fun g hg=>(hw.tr r.bel).block g (hS g hg))) (RatsL.keep hxL (fun g hg=>(hw.tr r.bel).block g (hS g hg))) (fun r hr=>(hrow r hr).trans hxl.symm) z2 (fun q hq=>by have:=hxq q hq;omega) (by decide) (by omega) (by omega)) ?_)
     rintro ρ wa7 v7 wb7 r he hb k1
     replace hw:=hw.tr hb
     have hbv:=RatsC.got (S:=fun _=>False) k1 r.baseLe (iv:=(wa7.heap.size,wb7.heap.size)::iv) List.mem_cons_self
     clear r he hb
     generalize (wa7.heap.size,wb7.heap.size)::iv=iv7 at*
     clear k1
     obtain⟨ab,cb,rfl,hcb,-⟩:=ListR.shape hbv
     rw[hTl]at hcb hbv ⊢
     conv=>whnf
     refine callE_S (callE_con (Φ:=fun _ w' v w2=>RatC w2 (Nw (fun _=>False) w' w2) v (dotTo x (timesF (valsM M) x) x.length)) (fun ρ w' r=>rDot_c (h:=43) (Rel.old r hS) (RatsL.weak (RatsL.keep hxL (fun g hg=>(hw.tr r.bel).block g (hS g hg))) fun _ hg=>(.inl hg:Cv S w.heap.size _ _)) (RatsC.l (RatsC.weak (RatsC.rel hbv r (oldF w)) fun _ hg=>(cvF hg:Cv S w.heap.size _ _)) fun q hq=>by have:=hTq q hq;omega) (hxl.trans hTl.symm) (fun q hq=>by have:=hxq q hq;omega) (fun q hq=>by have:=hTq q hq;omega) (by decide) (by omega)) ?_)
     rintro ρ wa8 v8 wb8 r he hb hn
     replace hw:=hw.tr hb
     clear hbv
     have hd:=hn.got (S:=fun _=>False) r.baseLe (iv:=(wa8.heap.size,wb8.heap.size)::iv7) List.mem_cons_self
     clear r he hb hn
     generalize (wa8.heap.size,wb8.heap.size)::iv7=iv8 at*
     obtain⟨s8_0,s8_1,s8_2,s8_3,s8_4,s8_5,s8_6,s8_7,rfl⟩:=hd.shape
     conv=>whnf
     rw[hxl,←hVl]at hd
     refine callE_S (callE_con (Φ:=fun _ w' v w2=>v= .int .i64 (rs (dotTo x (timesF (valsM M) x) (valsM M).length))) (fun ρ w' r=>rSignOf_c (Rel.old r (oldF w)) (hd.rel r (oldF w))) ?_)
     rintro ρ wa9 v9 wb9 r he hb rfl
     replace hw:=hw.tr hb
     clear hd
     clear r he hb
     generalize (wa9.heap.size,wb9.heap.size)::iv8=iv9 at*
     conv=>whnf
     refine BrS.mk (fun hc=>?_) (fun hc=>?_)
     ·have h4:=rs_pos_iff.2 hform
      have h5:rs (dotTo x (timesF (valsM M) x) (valsM M).length)≤0:=of_decide_eq_true hc
      omega
     conv=>whnf
     refine⟨Nat×List Value×World×Iv,fun z=>⟨[(0,.o (.v (.slice am M.length cm))),(12,.o (.w 1 z.2.1.length)),(13,.o (.v (.int .i64 ((z.1:Nat):Int))))],[(1,.vec T.LRat 1 z.2.1)],2,z.2.2.2,z.2.2.1⟩,fun z=>M.length-z.1,
      fun z=>z.1≤M.length∧Bel w.heap.size w z.2.2.1∧RowsC z.2.2.1 (Cv (fun _=>False) w.heap.size z.2.2.2) z.2.1 ((gramF (valsM M)).take z.1),?_,?_⟩
     ·intro ρ w' r
      exact⟨(0,[],w',_),⟨Nat.zero_le _,hw.tr r.bel,by simp[RowsC]⟩,Sub.nil 12 T.LRat 1 rfl (by simp[ScE,SV.sc,At.sc,initE]) r fun ρ1 r1=>
       Sub.gen [] r1 ⟨rfl,trivial⟩ ⟨rfl,rfl,rfl,trivial⟩ (by simp[ScH,Blk.scopd,At.sc]) (by simp[ScE,SV.sc,At.sc]) (by rfl) (fun lo hi h=>h)⟩
     clear hw
     rintro⟨i,rv,w1,iv⟩ ⟨hi,hw,hK⟩
     dsimp only at hi hw hK ⊢
     have hrl:rv.length=i:=by rw[hK.1,List.length_take,gramF_length];omega
     conv=>whnf
     refine BrS.mk (fun hib=>?_) (fun hib=>?_)
     ·have hib:i<M.length:=by simpa using hib
      obtain⟨ri,hri⟩:∃r,(valsM M)[i]? =some r:=⟨_,List.getElem?_eq_getElem (by omega)⟩
      have hli:=hrow ri (List.mem_of_getElem? hri)
      obtain⟨grow,hgrow⟩:∃g,g=(valsM M).map fun s=>dotTo ri s ri.length:=⟨_,rfl⟩
      have hgl:grow.length=M.length:=by rw[hgrow,List.length_map,hVl]
      have hgr:(gramF (valsM M)).take (i+1)=(gramF (valsM M)).take i++[grow]:=by
       rw[List.take_add_one,show(gramF (valsM M))[i]? =some grow by rw[gramF,List.getElem?_map,hri,hgrow];rfl]
       rfl
      conv=>whnf
      refine⟨(Nat×List (List Value)×World×Iv) ⊕ ((Nat×Nat×Nat×Nat)×World×Iv),fun z=>match z with
        | .inl z=>⟨[(0,.o (.v (.slice am M.length cm))),(12,.o (.w 1 rv.length)),(13,.o (.v (.int .i64 ((i:Nat):Int)))),(14,.o (.w 2 z.2.1.length)),(15,.o (.v (.int .i64 ((z.1:Nat):Int))))],[(2,.vec T.Rat 4 z.2.1.flatten),(1,.vec T.LRat 1 rv)],3,z.2.2.2,z.2.2.1⟩
        | .inr z=>⟨[(14,.o (.v (.slice (some ⟨z.1.1,0,none⟩) z.1.2.2.1 z.1.2.1))),(0,.o (.v (.slice am M.length cm))),(12,.o (.w 1 rv.length)),(13,.o (.v (.int .i64 ((i:Nat):Int)))),(15,.o (.v (.int .i64 ((z.1.2.2.2:Nat):Int))))],[(1,.vec T.LRat 1 rv)],5,z.2.2,z.2.1⟩,fun z=>match z with
        | .inl z=>M.length-z.1
        | .inr _=>0,
       fun z=>match z with
        | .inl z=>z.1<M.length∧Bel w.heap.size w z.2.2.1∧RowsC z.2.2.1 (Cv (fun _=>False) w.heap.size z.2.2.2) rv ((gramF (valsM M)).take i)∧Fc z.2.2.1 (Cv (fun _=>False) w.heap.size z.2.2.2) z.2.1 (grow.take z.1)
        | .inr z=>z.1.2.2.1=M.length∧z.1.2.2.2=M.length∧Bel w.heap.size w z.2.1∧RowsC z.2.1 (Cv (fun _=>False) w.heap.size z.2.2) rv ((gramF (valsM M)).take i)∧RatsC z.2.1 (Cv (fun _=>False) w.heap.size z.2.2) (.slice (some ⟨z.1.1,0,none⟩) z.1.2.2.1 z.1.2.1) grow,?_,?_⟩
      ·intro ρ w' r
       exact⟨.inl (0,[],w',_),⟨by dsimp only;omega,hw.tr r.bel,hK.rel r (oldF w),by simp[Fc]⟩,Sub.nil 14 T.Rat 4 rfl (by simp[ScE,SV.sc,At.sc,initE]) r fun ρ1 r1=>
        Sub.gen [] r1 ⟨rfl,rfl,trivial⟩ ⟨rfl,rfl,rfl,rfl,rfl,trivial⟩ (by simp[ScH,Blk.scopd,At.sc]) (by simp[ScE,SV.sc,At.sc]) (by rfl) (fun lo hi h=>h)⟩
      clear hw hK
      rintro(⟨k,css,w1,iv⟩|⟨⟨gx,cx2,m,k⟩,w1,iv⟩) hz3
      ·obtain⟨hk,hw,hK,hC⟩:=hz3
       dsimp only at hk hw hK hC ⊢
       have hcl:css.length=k:=by rw[hC.1,List.length_take];omega
       have hfl:=flat_len hC.len4
       conv=>whnf
       refine BrS.mk (fun _=>?_) (fun hkb=>absurd hk (by simpa using hkb))
       conv=>whnf
       obtain⟨rk,hrk⟩:∃r,(valsM M)[k]? =some r:=⟨_,List.getElem?_eq_getElem (by omega)⟩
       have hlk:=hrow rk (List.mem_of_getElem? hrk)
       obtain⟨adi,ui,hai,hRi,k1i,k2i⟩:=SlicesR.load hML hri
       obtain⟨aui,cui,rfl,hcui,-⟩:=ListR.shape hRi
       obtain⟨adk,uk,hak,hRk,k1k,k2k⟩:=SlicesR.load hML hrk
       obtain⟨auk,cuk,rfl,hcuk,-⟩:=ListR.shape hRk
       refine drawn_of_pi hτ hmix [.x 0,.x 1,.x 2,.x 3,.x 4,.x 5,.x 6,.x 7,.x 8,.x 9,.x 10,.x 11,.x 12] (by kernel_rfl) (by kernel_rfl) ?_
       conv=>whnf
       refine⟨adi,hai,⟨by omega,by omega⟩,?_⟩
       conv=>whnf
       refine⟨.slice aui ri.length cui,fun ρ w' r=>?_,?_⟩
       ·rw[Int.toNat_natCast,cell_of_heap (w:=w) (w2:=w') (by rw[addB];exact(hw.tr r.bel).block _ (hS _ k1i))]
        exact k2i
       conv=>whnf
       refine⟨adk,hak,⟨by omega,by omega⟩,?_⟩
       conv=>whnf
       refine⟨.slice auk rk.length cuk,fun ρ w' r=>?_,?_⟩
       ·rw[Int.toNat_natCast,cell_of_heap (w:=w) (w2:=w') (by rw[addB];exact(hw.tr r.bel).block _ (hS _ k1k))]
        exact k2k
       conv=>whnf
       refine callE_con (Φ:=fun _ w' v w2=>RatC w2 (Nw (fun _=>False) w' w2) v (dotTo ri rk ri.length)) (fun ρ w' r=>rDot_c (fun g hg=>by have:=hS g hg;have:=r.baseLe;omega) (RatsL.keep hRi (fun g hg=>(hw.tr r.bel).block g (hS g hg))) (RatsL.keep hRk (fun g hg=>(hw.tr r.bel).block g (hS g hg))) (hli.trans hlk.symm) (z2.at hri) (z2.at hrk) (by decide) (by omega)) ?_
       rintro ρ wa61 v61 wb61 r he hb hn
       replace hw:=hw.tr hb
       replace hK:=hK.past (iv':=(wa61.heap.size,wb61.heap.size)::iv) r (oldF w) he fun x hx=>List.mem_cons_of_mem _ hx
       replace hC:=hC.past (iv':=(wa61.heap.size,wb61.heap.size)::iv) r (oldF w) he fun x hx=>List.mem_cons_of_mem _ hx
       have hd:=hn.got (S:=fun _=>False) r.baseLe (iv:=(wa61.heap.size,wb61.heap.size)::iv) List.mem_cons_self
       clear r he hb hn
       generalize (wa61.heap.size,wb61.heap.size)::iv=iv61 at*
       obtain⟨s61_0,s61_1,s61_2,s61_3,s61_4,s61_5,s61_6,s61_7,rfl⟩:=hd.shape
       conv=>whnf
       have hC2:Fc wb61 (Cv (fun _=>False) w.heap.size iv61) (css++[[.bool s61_0,.slice s61_1 s61_2 s61_3,.bool s61_4,.slice s61_5 s61_6 s61_7]]) (grow.take (k+1)):=by
        rw[List.take_add_one,show grow[k]? =some (dotTo ri rk ri.length) by rw[hgrow,List.getElem?_map,hrk];rfl]
        exact hC.push hd.fourC
       have hfl2:css.flatten++([.bool s61_0,.slice s61_1 s61_2 s61_3,.bool s61_4,.slice s61_5 s61_6 s61_7]:List Value)=(css++([[.bool s61_0,.slice s61_1 s61_2 s61_3,.bool s61_4,.slice s61_5 s61_6 s61_7]]:List (List Value))).flatten:=by simp
       clear hC hd hRi hRk k1i k2i k1k k2k
       refine .inl ?_
       conv=>whnf
       refine⟨by omega,by omega,by unfold maxLen;omega,?_⟩
       conv=>whnf
       refine⟨((k+1:Nat):Int),by rw[wrap64]<;>omega,?_⟩
       conv=>whnf
       intro ρ3 w3 r3
       by_cases hk2:k+1<M.length
       ·exact⟨.inl (k+1,css++[[.bool s61_0,.slice s61_1 s61_2 s61_3,.bool s61_4,.slice s61_5 s61_6 s61_7]],w3,_),⟨hk2,hw.tr r3.bel,hK.rel r3 (oldF w),hC2.rel r3 (oldF w)⟩,Sub.gen [(2,4)] r3 ⟨by dsimp only;rw[←hfl2];rfl,rfl,trivial⟩ ⟨rfl,rfl,rfl,by dsimp only;rw[List.length_append,List.length_singleton];rfl,rfl,trivial⟩ (by simp[ScH,Blk.scopd,At.sc]) (by simp[ScE,SV.sc,At.sc]) (by rfl) (fun lo hi h=>h),by dsimp only;omega⟩
       ·obtain⟨hn,hR⟩:=Fc.give r3 (id:=4) (m:=css.length+1) (css:=css++([[.bool s61_0,.slice s61_1 s61_2 s61_3,.bool s61_4,.slice s61_5 s61_6 s61_7]]:List (List Value))) (by rw[←hfl2];rfl) (by simp) (by omega) (by unfold maxLen;omega) (hC2.rel r3 (oldF w))
        rw[List.take_of_length_le (by omega)]at hR
        exact⟨.inr (((ρ3 4).g,(ρ3 4).cap,css.length+1,k+1),w3,((ρ3 4).g,(ρ3 4).g+1)::_),⟨by dsimp only;omega,by dsimp only;omega,hw.tr r3.bel,(hK.rel r3 (oldF w)).weak fun _ hg=>hg.mono fun p hp=>List.mem_cons_of_mem _ hp,hR⟩,
         Sub.giveV r3 (id:=4) (t:=14) (cs:=(css++([[.bool s61_0,.slice s61_1 s61_2 s61_3,.bool s61_4,.slice s61_5 s61_6 s61_7]]:List (List Value))).flatten) (by rw[←hfl2];rfl) hn rfl ⟨rfl,trivial⟩ rfl ⟨rfl,rfl,rfl,rfl,trivial⟩ (by simp[ScE,SV.sc,At.sc]),by dsimp only;omega⟩
      obtain⟨hm1,hm2,hw,hK,hR⟩:=hz3
      dsimp only at hm1 hm2 hw hK hR ⊢
      subst hm1 hm2
      conv=>whnf
      refine BrS.mk (fun hkb=>absurd (of_decide_eq_true hkb) (by omega)) (fun _=>?_)
      conv=>whnf
      have hK2:=hK.push rfl hR
      rw[←hgr]at hK2
      clear hK hR
      refine .inl ?_
      conv=>whnf
      refine⟨by omega,by omega,by unfold maxLen;omega,?_⟩
      conv=>whnf
      refine⟨((i+1:Nat):Int),by rw[wrap64]<;>omega,?_⟩
      conv=>whnf
      intro ρ3 w3 r3
      exact⟨(i+1,rv++[.slice (some ⟨gx,0,none⟩) M.length cx2],w3,_),⟨hib,hw.tr r3.bel,hK2.rel r3 (oldF w)⟩,Sub.gen [(1,6)] r3 ⟨rfl,trivial⟩ ⟨rfl,by dsimp only;rw[List.length_append,List.length_singleton];rfl,rfl,trivial⟩ (by simp[ScH,Blk.scopd,At.sc]) (by simp[ScE,SV.sc,At.sc]) (by rfl) (fun lo hi h=>h),by dsimp only;omega⟩
     have hib:i=M.length:=Nat.le_antisymm hi (by simpa using hib)
     rw[hib,List.take_of_length_le (by rw[gramF_length];omega)]at hK
     conv=>whnf
     refine callE_S (callE_con (Φ:=fun _ w' v w2=>∃d,v= .tuple #[.bool d,.int .i64 0]∧(d=true→DefF (gramF (valsM M)))∧(DefF (gramF (valsM M))→d=true)) (fun ρ w' r=>?_) ?_)
     ·have h5:=r.vecSeq (id:=1) (sz:=1) (m:=rv.length) rfl (by simp) (by unfold maxLen;omega) (by decide) hK.2.1
      have hKr:=hK.rel r (oldF w)
      exact gramDef_c (rv:=rv) (by rw[hVl];exact z5) (by rw[hVl];exact hrow) z2 (errQ_len (n:=M.length) (fun r hr=>(k1 r hr).trans hsq) (fun r hr=>by obtain⟨y,hy,rfl⟩:=List.mem_map.1 hr;rw[pairs_len,←hVl];exact gramF_len _ y hy) rfl (by rw[List.length_map,gramF_length,hVl]) he) (by rw[hVl,←hib,←hrl];exact h5.weak fun g hg=>hg.2) ⟨hKr.1,hKr.2.1,fun i u x k1 k2=>RatsC.weak (hKr.2.2 i u x k1 k2) fun g hg=>Rel.old r (oldF w) g hg⟩
     rintro ρ wa71 v71 wb71 r he hb ⟨d2,rfl,hd3,hd4⟩
     replace hw:=hw.tr hb
     clear r he hb
     generalize (wa71.heap.size,wb71.heap.size)::iv=iv71 at*
     clear hK hrl
     conv=>whnf
     refine callE_S (callE_con (Φ:=fun _ w' v w2=>v= .tuple #[.int .i64 (reduceF (valsM M) (colsM M)).2.length,.int .i64 0]) (fun ρ w' r=>RankOk_c (fun g hg=>by have:=hS g hg;have:=r.baseLe;omega) (RatMR.keep h (fun g hg=>(hw.tr r.bel).block g (hS g hg))) (hM.keep (fun g hg=>(hw.tr r.bel).block g (hS g hg))) hE) ?_)
     rintro ρ wa72 v72 wb72 r he hb rfl
     replace hw:=hw.tr hb
     clear r he hb
     generalize (wa72.heap.size,wb72.heap.size)::iv71=iv72 at*
     conv=>whnf
     have hg:=gram_rank hrowV
     rw[hVl]at hg
     rw[hcv]
     generalize hrk:(reduceF (valsM M) M.length).2.length=rk at*
     conv=>whnf
     refine BrS.mk (fun _=>?_) (fun hne=>?_)
     ·conv=>whnf
      refine callE_S (callE_con (Φ:=fun _ w' v w2=>v= .bool true) (fun ρ w' r=>awake_c w') ?_)
      rintro ρ wa73 v73 wb73 r he hb rfl
      replace hw:=hw.tr hb
      clear r he hb
      generalize (wa73.heap.size,wb73.heap.size)::iv72=iv73 at*
      conv=>whnf
      intro ρe we re
      exact⟨_,rfl,hw.tr re.bel,rfl⟩
     exfalso
     cases d2 with
     |true=>have:=hg.1 (hd3 rfl);subst this;simp at hne
     |false=>
      refine absurd (hd4 (hg.2 ?_)) (by decide)
      have h4:(rk:Int)=(M.length:Int):=by simpa using hne
      omega
    conv=>whnf
    refine⟨Nat×List Value×World×Iv,fun z=>⟨[(0,.o (.v (.slice am M.length cm))),(12,.o (.w 1 z.2.1.length)),(13,.o (.v (.int .i64 ((z.1:Nat):Int))))],[(1,.vec T.LRat 1 z.2.1)],2,z.2.2.2,z.2.2.1⟩,fun z=>M.length-z.1,
     fun z=>z.1≤M.length∧Bel w.heap.size w z.2.2.1∧RowsC z.2.2.1 (Cv (fun _=>False) w.heap.size z.2.2.2) z.2.1 ((gramF (valsM M)).take z.1),?_,?_⟩
    ·intro ρ w' r
     exact⟨(0,[],w',_),⟨Nat.zero_le _,hw.tr r.bel,by simp[RowsC]⟩,Sub.nil 12 T.LRat 1 rfl (by simp[ScE,SV.sc,At.sc,initE]) r fun ρ1 r1=>
      Sub.gen [] r1 ⟨rfl,trivial⟩ ⟨rfl,rfl,rfl,trivial⟩ (by simp[ScH,Blk.scopd,At.sc]) (by simp[ScE,SV.sc,At.sc]) (by rfl) (fun lo hi h=>h)⟩
    clear hw
    rintro⟨i,rv,w1,iv⟩ ⟨hi,hw,hK⟩
    dsimp only at hi hw hK ⊢
    have hrl:rv.length=i:=by rw[hK.1,List.length_take,gramF_length];omega
    conv=>whnf
    refine BrS.mk (fun hib=>?_) (fun hib=>?_)
    ·have hib:i<M.length:=by simpa using hib
     obtain⟨ri,hri⟩:∃r,(valsM M)[i]? =some r:=⟨_,List.getElem?_eq_getElem (by omega)⟩
     have hli:=hrow ri (List.mem_of_getElem? hri)
     obtain⟨grow,hgrow⟩:∃g,g=(valsM M).map fun s=>dotTo ri s ri.length:=⟨_,rfl⟩
     have hgl:grow.length=M.length:=by rw[hgrow,List.length_map,hVl]
     have hgr:(gramF (valsM M)).take (i+1)=(gramF (valsM M)).take i++[grow]:=by
      rw[List.take_add_one,show(gramF (valsM M))[i]? =some grow by rw[gramF,List.getElem?_map,hri,hgrow];rfl]
      rfl
     conv=>whnf
     refine⟨(Nat×List (List Value)×World×Iv) ⊕ ((Nat×Nat×Nat×Nat)×World×Iv),fun z=>match z with
       | .inl z=>⟨[(0,.o (.v (.slice am M.length cm))),(12,.o (.w 1 rv.length)),(13,.o (.v (.int .i64 ((i:Nat):Int)))),(14,.o (.w 2 z.2.1.length)),(15,.o (.v (.int .i64 ((z.1:Nat):Int))))],[(2,.vec T.Rat 4 z.2.1.flatten),(1,.vec T.LRat 1 rv)],3,z.2.2.2,z.2.2.1⟩
       | .inr z=>⟨[(14,.o (.v (.slice (some ⟨z.1.1,0,none⟩) z.1.2.2.1 z.1.2.1))),(0,.o (.v (.slice am M.length cm))),(12,.o (.w 1 rv.length)),(13,.o (.v (.int .i64 ((i:Nat):Int)))),(15,.o (.v (.int .i64 ((z.1.2.2.2:Nat):Int))))],[(1,.vec T.LRat 1 rv)],5,z.2.2,z.2.1⟩,fun z=>match z with
       | .inl z=>M.length-z.1
       | .inr _=>0,
      fun z=>match z with
       | .inl z=>z.1<M.length∧Bel w.heap.size w z.2.2.1∧RowsC z.2.2.1 (Cv (fun _=>False) w.heap.size z.2.2.2) rv ((gramF (valsM M)).take i)∧Fc z.2.2.1 (Cv (fun _=>False) w.heap.size z.2.2.2) z.2.1 (grow.take z.1)
       | .inr z=>z.1.2.2.1=M.length∧z.1.2.2.2=M.length∧Bel w.heap.size w z.2.1∧RowsC z.2.1 (Cv (fun _=>False) w.heap.size z.2.2) rv ((gramF (valsM M)).take i)∧RatsC z.2.1 (Cv (fun _=>False) w.heap.size z.2.2) (.slice (some ⟨z.1.1,0,none⟩) z.1.2.2.1 z.1.2.1) grow,?_,?_⟩
     ·intro ρ w' r
      exact⟨.inl (0,[],w',_),⟨by dsimp only;omega,hw.tr r.bel,hK.rel r (oldF w),by simp[Fc]⟩,Sub.nil 14 T.Rat 4 rfl (by simp[ScE,SV.sc,At.sc,initE]) r fun ρ1 r1=>
       Sub.gen [] r1 ⟨rfl,rfl,trivial⟩ ⟨rfl,rfl,rfl,rfl,rfl,trivial⟩ (by simp[ScH,Blk.scopd,At.sc]) (by simp[ScE,SV.sc,At.sc]) (by rfl) (fun lo hi h=>h)⟩
     clear hw hK
     rintro(⟨k,css,w1,iv⟩|⟨⟨gx,cx2,m,k⟩,w1,iv⟩) hz3
     ·obtain⟨hk,hw,hK,hC⟩:=hz3
      dsimp only at hk hw hK hC ⊢
      have hcl:css.length=k:=by rw[hC.1,List.length_take];omega
      have hfl:=flat_len hC.len4
      conv=>whnf
      refine BrS.mk (fun _=>?_) (fun hkb=>absurd hk (by simpa using hkb))
      conv=>whnf
      obtain⟨rk,hrk⟩:∃r,(valsM M)[k]? =some r:=⟨_,List.getElem?_eq_getElem (by omega)⟩
      have hlk:=hrow rk (List.mem_of_getElem? hrk)
      obtain⟨adi,ui,hai,hRi,k1i,k2i⟩:=SlicesR.load hML hri
      obtain⟨aui,cui,rfl,hcui,-⟩:=ListR.shape hRi
      obtain⟨adk,uk,hak,hRk,k1k,k2k⟩:=SlicesR.load hML hrk
      obtain⟨auk,cuk,rfl,hcuk,-⟩:=ListR.shape hRk
      refine drawn_of_pi hτ hmix [.x 0,.x 1,.x 2,.x 3,.x 4,.x 5,.x 6,.x 7,.x 8,.x 9,.x 10,.x 11,.x 12] (by kernel_rfl) (by kernel_rfl) ?_
      conv=>whnf
      refine⟨adi,hai,⟨by omega,by omega⟩,?_⟩
      conv=>whnf
      refine⟨.slice aui ri.length cui,fun ρ w' r=>?_,?_⟩
      ·rw[Int.toNat_natCast,cell_of_heap (w:=w) (w2:=w') (by rw[addB];exact(hw.tr r.bel).block _ (hS _ k1i))]
       exact k2i
      conv=>whnf
      refine⟨adk,hak,⟨by omega,by omega⟩,?_⟩
      conv=>whnf
      refine⟨.slice auk rk.length cuk,fun ρ w' r=>?_,?_⟩
      ·rw[Int.toNat_natCast,cell_of_heap (w:=w) (w2:=w') (by rw[addB];exact(hw.tr r.bel).block _ (hS _ k1k))]
       exact k2k
      conv=>whnf
      refine callE_con (Φ:=fun _ w' v w2=>RatC w2 (Nw (fun _=>False) w' w2) v (dotTo ri rk ri.length)) (fun ρ w' r=>rDot_c (fun g hg=>by have:=hS g hg;have:=r.baseLe;omega) (RatsL.keep hRi (fun g hg=>(hw.tr r.bel).block g (hS g hg))) (RatsL.keep hRk (fun g hg=>(hw.tr r.bel).block g (hS g hg))) (hli.trans hlk.symm) (z2.at hri) (z2.at hrk) (by decide) (by omega)) ?_
      rintro ρ wa41 v41 wb41 r he hb hn
      replace hw:=hw.tr hb
      replace hK:=hK.past (iv':=(wa41.heap.size,wb41.heap.size)::iv) r (oldF w) he fun x hx=>List.mem_cons_of_mem _ hx
      replace hC:=hC.past (iv':=(wa41.heap.size,wb41.heap.size)::iv) r (oldF w) he fun x hx=>List.mem_cons_of_mem _ hx
      have hd:=hn.got (S:=fun _=>False) r.baseLe (iv:=(wa41.heap.size,wb41.heap.size)::iv) List.mem_cons_self
      clear r he hb hn
      generalize (wa41.heap.size,wb41.heap.size)::iv=iv41 at*
      obtain⟨s41_0,s41_1,s41_2,s41_3,s41_4,s41_5,s41_6,s41_7,rfl⟩:=hd.shape
      conv=>whnf
      have hC2:Fc wb41 (Cv (fun _=>False) w.heap.size iv41) (css++[[.bool s41_0,.slice s41_1 s41_2 s41_3,.bool s41_4,.slice s41_5 s41_6 s41_7]]) (grow.take (k+1)):=by
       rw[List.take_add_one,show grow[k]? =some (dotTo ri rk ri.length) by rw[hgrow,List.getElem?_map,hrk];rfl]
       exact hC.push hd.fourC
      have hfl2:css.flatten++([.bool s41_0,.slice s41_1 s41_2 s41_3,.bool s41_4,.slice s41_5 s41_6 s41_7]:List Value)=(css++([[.bool s41_0,.slice s41_1 s41_2 s41_3,.bool s41_4,.slice s41_5 s41_6 s41_7]]:List (List Value))).flatten:=by simp
      clear hC hd hRi hRk k1i k2i k1k k2k
      refine .inl ?_
      conv=>whnf
      refine⟨by omega,by omega,by unfold maxLen;omega,?_⟩
      conv=>whnf
      refine⟨((k+1:Nat):Int),by rw[wrap64]<;>omega,?_⟩
      conv=>whnf
      intro ρ3 w3 r3
      by_cases hk2:k+1<M.length
      ·exact⟨.inl (k+1,css++[[.bool s41_0,.slice s41_1 s41_2 s41_3,.bool s41_4,.slice s41_5 s41_6 s41_7]],w3,_),⟨hk2,hw.tr r3.bel,hK.rel r3 (oldF w),hC2.rel r3 (oldF w)⟩,Sub.gen [(2,4)] r3 ⟨by dsimp only;rw[←hfl2];rfl,rfl,trivial⟩ ⟨rfl,rfl,rfl,by dsimp only;rw[List.length_append,List.length_singleton];rfl,rfl,trivial⟩ (by simp[ScH,Blk.scopd,At.sc]) (by simp[ScE,SV.sc,At.sc]) (by rfl) (fun lo hi h=>h),by dsimp only;omega⟩
      ·obtain⟨hn,hR⟩:=Fc.give r3 (id:=4) (m:=css.length+1) (css:=css++([[.bool s41_0,.slice s41_1 s41_2 s41_3,.bool s41_4,.slice s41_5 s41_6 s41_7]]:List (List Value))) (by rw[←hfl2];rfl) (by simp) (by omega) (by unfold maxLen;omega) (hC2.rel r3 (oldF w))
       rw[List.take_of_length_le (by omega)]at hR
       exact⟨.inr (((ρ3 4).g,(ρ3 4).cap,css.length+1,k+1),w3,((ρ3 4).g,(ρ3 4).g+1)::_),⟨by dsimp only;omega,by dsimp only;omega,hw.tr r3.bel,(hK.rel r3 (oldF w)).weak fun _ hg=>hg.mono fun p hp=>List.mem_cons_of_mem _ hp,hR⟩,
        Sub.giveV r3 (id:=4) (t:=14) (cs:=(css++([[.bool s41_0,.slice s41_1 s41_2 s41_3,.bool s41_4,.slice s41_5 s41_6 s41_7]]:List (List Value))).flatten) (by rw[←hfl2];rfl) hn rfl ⟨rfl,trivial⟩ rfl ⟨rfl,rfl,rfl,rfl,trivial⟩ (by simp[ScE,SV.sc,At.sc]),by dsimp only;omega⟩
     obtain⟨hm1,hm2,hw,hK,hR⟩:=hz3
     dsimp only at hm1 hm2 hw hK hR ⊢
     subst hm1 hm2
     conv=>whnf
     refine BrS.mk (fun hkb=>absurd (of_decide_eq_true hkb) (by omega)) (fun _=>?_)
     conv=>whnf
     have hK2:=hK.push rfl hR
     rw[←hgr]at hK2
     clear hK hR
     refine .inl ?_
     conv=>whnf
     refine⟨by omega,by omega,by unfold maxLen;omega,?_⟩
     conv=>whnf
     refine⟨((i+1:Nat):Int),by rw[wrap64]<;>omega,?_⟩
     conv=>whnf
     intro ρ3 w3 r3
     exact⟨(i+1,rv++[.slice (some ⟨gx,0,none⟩) M.length cx2],w3,_),⟨hib,hw.tr r3.bel,hK2.rel r3 (oldF w)⟩,Sub.gen [(1,6)] r3 ⟨rfl,trivial⟩ ⟨rfl,by dsimp only;rw[List.length_append,List.length_singleton];rfl,rfl,trivial⟩ (by simp[ScH,Blk.scopd,At.sc]) (by simp[ScE,SV.sc,At.sc]) (by rfl) (fun lo hi h=>h),by dsimp only;omega⟩
    have hib:i=M.length:=Nat.le_antisymm hi (by simpa using hib)
    rw[hib,List.take_of_length_le (by rw[gramF_length];omega)]at hK
    conv=>whnf
    refine callE_S (callE_con (Φ:=fun _ w' v w2=>∃d,v= .tuple #[.bool d,.int .i64 0]∧(d=true→DefF (gramF (valsM M)))∧(DefF (gramF (valsM M))→d=true)) (fun ρ w' r=>?_) ?_)
    ·have h5:=r.vecSeq (id:=1) (sz:=1) (m:=rv.length) rfl (by simp) (by unfold maxLen;omega) (by decide) hK.2.1
     have hKr:=hK.rel r (oldF w)
     exact gramDef_c (rv:=rv) (by rw[hVl];exact z5) (by rw[hVl];exact hrow) z2 (errQ_len (n:=M.length) (fun r hr=>(k1 r hr).trans hsq) (fun r hr=>by obtain⟨y,hy,rfl⟩:=List.mem_map.1 hr;rw[pairs_len,←hVl];exact gramF_len _ y hy) rfl (by rw[List.length_map,gramF_length,hVl]) he) (by rw[hVl,←hib,←hrl];exact h5.weak fun g hg=>hg.2) ⟨hKr.1,hKr.2.1,fun i u x k1 k2=>RatsC.weak (hKr.2.2 i u x k1 k2) fun g hg=>Rel.old r (oldF w) g hg⟩
    rintro ρ wa51 v51 wb51 r he hb ⟨d2,rfl,hd3,hd4⟩
    replace hw:=hw.tr hb
    clear r he hb
    generalize (wa51.heap.size,wb51.heap.size)::iv=iv51 at*
    clear hK hrl
    conv=>whnf
    refine callE_S (callE_con (Φ:=fun _ w' v w2=>v= .tuple #[.int .i64 (reduceF (valsM M) (colsM M)).2.length,.int .i64 0]) (fun ρ w' r=>RankOk_c (fun g hg=>by have:=hS g hg;have:=r.baseLe;omega) (RatMR.keep h (fun g hg=>(hw.tr r.bel).block g (hS g hg))) (hM.keep (fun g hg=>(hw.tr r.bel).block g (hS g hg))) hE) ?_)
    rintro ρ wa52 v52 wb52 r he hb rfl
    replace hw:=hw.tr hb
    clear r he hb
    generalize (wa52.heap.size,wb52.heap.size)::iv51=iv52 at*
    conv=>whnf
    have hg:=gram_rank hrowV
    rw[hVl]at hg
    rw[hcv]
    generalize hrk:(reduceF (valsM M) M.length).2.length=rk at*
    conv=>whnf
    refine BrS.mk (fun _=>?_) (fun hne=>?_)
    ·conv=>whnf
     refine callE_S (callE_con (Φ:=fun _ w' v w2=>v= .bool true) (fun ρ w' r=>awake_c w') ?_)
     rintro ρ wa53 v53 wb53 r he hb rfl
     replace hw:=hw.tr hb
     clear r he hb
     generalize (wa53.heap.size,wb53.heap.size)::iv52=iv53 at*
     conv=>whnf
     intro ρe we re
     exact⟨_,rfl,hw.tr re.bel,rfl⟩
    exfalso
    cases d2 with
    |true=>have:=hg.1 (hd3 rfl);subst this;simp at hne
    |false=>
     refine absurd (hd4 (hg.2 ?_)) (by decide)
     have h4:(rk:Int)=(M.length:Int):=by simpa using hne
     omega
   conv=>whnf
   refine⟨Nat×List Value×World×Iv,fun z=>⟨[(0,.o (.v (.slice am M.length cm))),(12,.o (.w 1 z.2.1.length)),(13,.o (.v (.int .i64 ((z.1:Nat):Int))))],[(1,.vec T.LRat 1 z.2.1)],2,z.2.2.2,z.2.2.1⟩,fun z=>M.length-z.1,
    fun z=>z.1≤M.length∧Bel w.heap.size w z.2.2.1∧RowsC z.2.2.1 (Cv (fun _=>False) w.heap.size z.2.2.2) z.2.1 ((gramF (valsM M)).take z.1),?_,?_⟩
   ·intro ρ w' r
    exact⟨(0,[],w',_),⟨Nat.zero_le _,hw.tr r.bel,by simp[RowsC]⟩,Sub.nil 12 T.LRat 1 rfl (by simp[ScE,SV.sc,At.sc,initE]) r fun ρ1 r1=>
     Sub.gen [] r1 ⟨rfl,trivial⟩ ⟨rfl,rfl,rfl,trivial⟩ (by simp[ScH,Blk.scopd,At.sc]) (by simp[ScE,SV.sc,At.sc]) (by rfl) (fun lo hi h=>h)⟩
   clear hw
   rintro⟨i,rv,w1,iv⟩ ⟨hi,hw,hK⟩
   dsimp only at hi hw hK ⊢
   have hrl:rv.length=i:=by rw[hK.1,List.length_take,gramF_length];omega
   conv=>whnf
   refine BrS.mk (fun hib=>?_) (fun hib=>?_)
   ·have hib:i<M.length:=by simpa using hib
    obtain⟨ri,hri⟩:∃r,(valsM M)[i]? =some r:=⟨_,List.getElem?_eq_getElem (by omega)⟩
    have hli:=hrow ri (List.mem_of_getElem? hri)
    obtain⟨grow,hgrow⟩:∃g,g=(valsM M).map fun s=>dotTo ri s ri.length:=⟨_,rfl⟩
    have hgl:grow.length=M.length:=by rw[hgrow,List.length_map,hVl]
    have hgr:(gramF (valsM M)).take (i+1)=(gramF (valsM M)).take i++[grow]:=by
     rw[List.take_add_one,show(gramF (valsM M))[i]? =some grow by rw[gramF,List.getElem?_map,hri,hgrow];rfl]
     rfl
    conv=>whnf
    refine⟨(Nat×List (List Value)×World×Iv) ⊕ ((Nat×Nat×Nat×Nat)×World×Iv),fun z=>match z with
      | .inl z=>⟨[(0,.o (.v (.slice am M.length cm))),(12,.o (.w 1 rv.length)),(13,.o (.v (.int .i64 ((i:Nat):Int)))),(14,.o (.w 2 z.2.1.length)),(15,.o (.v (.int .i64 ((z.1:Nat):Int))))],[(2,.vec T.Rat 4 z.2.1.flatten),(1,.vec T.LRat 1 rv)],3,z.2.2.2,z.2.2.1⟩
      | .inr z=>⟨[(14,.o (.v (.slice (some ⟨z.1.1,0,none⟩) z.1.2.2.1 z.1.2.1))),(0,.o (.v (.slice am M.length cm))),(12,.o (.w 1 rv.length)),(13,.o (.v (.int .i64 ((i:Nat):Int)))),(15,.o (.v (.int .i64 ((z.1.2.2.2:Nat):Int))))],[(1,.vec T.LRat 1 rv)],5,z.2.2,z.2.1⟩,fun z=>match z with
      | .inl z=>M.length-z.1
      | .inr _=>0,
     fun z=>match z with
      | .inl z=>z.1<M.length∧Bel w.heap.size w z.2.2.1∧RowsC z.2.2.1 (Cv (fun _=>False) w.heap.size z.2.2.2) rv ((gramF (valsM M)).take i)∧Fc z.2.2.1 (Cv (fun _=>False) w.heap.size z.2.2.2) z.2.1 (grow.take z.1)
      | .inr z=>z.1.2.2.1=M.length∧z.1.2.2.2=M.length∧Bel w.heap.size w z.2.1∧RowsC z.2.1 (Cv (fun _=>False) w.heap.size z.2.2) rv ((gramF (valsM M)).take i)∧RatsC z.2.1 (Cv (fun _=>False) w.heap.size z.2.2) (.slice (some ⟨z.1.1,0,none⟩) z.1.2.2.1 z.1.2.1) grow,?_,?_⟩
    ·intro ρ w' r
     exact⟨.inl (0,[],w',_),⟨by dsimp only;omega,hw.tr r.bel,hK.rel r (oldF w),by simp[Fc]⟩,Sub.nil 14 T.Rat 4 rfl (by simp[ScE,SV.sc,At.sc,initE]) r fun ρ1 r1=>
      Sub.gen [] r1 ⟨rfl,rfl,trivial⟩ ⟨rfl,rfl,rfl,rfl,rfl,trivial⟩ (by simp[ScH,Blk.scopd,At.sc]) (by simp[ScE,SV.sc,At.sc]) (by rfl) (fun lo hi h=>h)⟩
    clear hw hK
    rintro(⟨k,css,w1,iv⟩|⟨⟨gx,cx2,m,k⟩,w1,iv⟩) hz3
    ·obtain⟨hk,hw,hK,hC⟩:=hz3
     dsimp only at hk hw hK hC ⊢
     have hcl:css.length=k:=by rw[hC.1,List.length_take];omega
     have hfl:=flat_len hC.len4
     conv=>whnf
     refine BrS.mk (fun _=>?_) (fun hkb=>absurd hk (by simpa using hkb))
     conv=>whnf
     obtain⟨rk,hrk⟩:∃r,(valsM M)[k]? =some r:=⟨_,List.getElem?_eq_getElem (by omega)⟩
     have hlk:=hrow rk (List.mem_of_getElem? hrk)
     obtain⟨adi,ui,hai,hRi,k1i,k2i⟩:=SlicesR.load hML hri
     obtain⟨aui,cui,rfl,hcui,-⟩:=ListR.shape hRi
     obtain⟨adk,uk,hak,hRk,k1k,k2k⟩:=SlicesR.load hML hrk
     obtain⟨auk,cuk,rfl,hcuk,-⟩:=ListR.shape hRk
     refine drawn_of_pi hτ hmix [.x 0,.x 1,.x 2,.x 3,.x 4,.x 5,.x 6,.x 7,.x 8,.x 9,.x 10,.x 11,.x 12] (by kernel_rfl) (by kernel_rfl) ?_
     conv=>whnf
     refine⟨adi,hai,⟨by omega,by omega⟩,?_⟩
     conv=>whnf
     refine⟨.slice aui ri.length cui,fun ρ w' r=>?_,?_⟩
     ·rw[Int.toNat_natCast,cell_of_heap (w:=w) (w2:=w') (by rw[addB];exact(hw.tr r.bel).block _ (hS _ k1i))]
      exact k2i
     conv=>whnf
     refine⟨adk,hak,⟨by omega,by omega⟩,?_⟩
     conv=>whnf
     refine⟨.slice auk rk.length cuk,fun ρ w' r=>?_,?_⟩
     ·rw[Int.toNat_natCast,cell_of_heap (w:=w) (w2:=w') (by rw[addB];exact(hw.tr r.bel).block _ (hS _ k1k))]
      exact k2k
     conv=>whnf
     refine callE_con (Φ:=fun _ w' v w2=>RatC w2 (Nw (fun _=>False) w' w2) v (dotTo ri rk ri.length)) (fun ρ w' r=>rDot_c (fun g hg=>by have:=hS g hg;have:=r.baseLe;omega) (RatsL.keep hRi (fun g hg=>(hw.tr r.bel).block g (hS g hg))) (RatsL.keep hRk (fun g hg=>(hw.tr r.bel).block g (hS g hg))) (hli.trans hlk.symm) (z2.at hri) (z2.at hrk) (by decide) (by omega)) ?_
     rintro ρ wa41 v41 wb41 r he hb hn
     replace hw:=hw.tr hb
     replace hK:=hK.past (iv':=(wa41.heap.size,wb41.heap.size)::iv) r (oldF w) he fun x hx=>List.mem_cons_of_mem _ hx
     replace hC:=hC.past (iv':=(wa41.heap.size,wb41.heap.size)::iv) r (oldF w) he fun x hx=>List.mem_cons_of_mem _ hx
     have hd:=hn.got (S:=fun _=>False) r.baseLe (iv:=(wa41.heap.size,wb41.heap.size)::iv) List.mem_cons_self
     clear r he hb hn
     generalize (wa41.heap.size,wb41.heap.size)::iv=iv41 at*
     obtain⟨s41_0,s41_1,s41_2,s41_3,s41_4,s41_5,s41_6,s41_7,rfl⟩:=hd.shape
     conv=>whnf
     have hC2:Fc wb41 (Cv (fun _=>False) w.heap.size iv41) (css++[[.bool s41_0,.slice s41_1 s41_2 s41_3,.bool s41_4,.slice s41_5 s41_6 s41_7]]) (grow.take (k+1)):=by
      rw[List.take_add_one,show grow[k]? =some (dotTo ri rk ri.length) by rw[hgrow,List.getElem?_map,hrk];rfl]
      exact hC.push hd.fourC
     have hfl2:css.flatten++([.bool s41_0,.slice s41_1 s41_2 s41_3,.bool s41_4,.slice s41_5 s41_6 s41_7]:List Value)=(css++([[.bool s41_0,.slice s41_1 s41_2 s41_3,.bool s41_4,.slice s41_5 s41_6 s41_7]]:List (List Value))).flatten:=by simp
     clear hC hd hRi hRk k1i k2i k1k k2k
     refine .inl ?_
     conv=>whnf
     refine⟨by omega,by omega,by unfold maxLen;omega,?_⟩
     conv=>whnf
     refine⟨((k+1:Nat):Int),by rw[wrap64]<;>omega,?_⟩
     conv=>whnf
     intro ρ3 w3 r3
     by_cases hk2:k+1<M.length
     ·exact⟨.inl (k+1,css++[[.bool s41_0,.slice s41_1 s41_2 s41_3,.bool s41_4,.slice s41_5 s41_6 s41_7]],w3,_),⟨hk2,hw.tr r3.bel,hK.rel r3 (oldF w),hC2.rel r3 (oldF w)⟩,Sub.gen [(2,4)] r3 ⟨by dsimp only;rw[←hfl2];rfl,rfl,trivial⟩ ⟨rfl,rfl,rfl,by dsimp only;rw[List.length_append,List.length_singleton];rfl,rfl,trivial⟩ (by simp[ScH,Blk.scopd,At.sc]) (by simp[ScE,SV.sc,At.sc]) (by rfl) (fun lo hi h=>h),by dsimp only;omega⟩
     ·obtain⟨hn,hR⟩:=Fc.give r3 (id:=4) (m:=css.length+1) (css:=css++([[.bool s41_0,.slice s41_1 s41_2 s41_3,.bool s41_4,.slice s41_5 s41_6 s41_7]]:List (List Value))) (by rw[←hfl2];rfl) (by simp) (by omega) (by unfold maxLen;omega) (hC2.rel r3 (oldF w))
      rw[List.take_of_length_le (by omega)]at hR
      exact⟨.inr (((ρ3 4).g,(ρ3 4).cap,css.length+1,k+1),w3,((ρ3 4).g,(ρ3 4).g+1)::_),⟨by dsimp only;omega,by dsimp only;omega,hw.tr r3.bel,(hK.rel r3 (oldF w)).weak fun _ hg=>hg.mono fun p hp=>List.mem_cons_of_mem _ hp,hR⟩,
       Sub.giveV r3 (id:=4) (t:=14) (cs:=(css++([[.bool s41_0,.slice s41_1 s41_2 s41_3,.bool s41_4,.slice s41_5 s41_6 s41_7]]:List (List Value))).flatten) (by rw[←hfl2];rfl) hn rfl ⟨rfl,trivial⟩ rfl ⟨rfl,rfl,rfl,rfl,trivial⟩ (by simp[ScE,SV.sc,At.sc]),by dsimp only;omega⟩
    obtain⟨hm1,hm2,hw,hK,hR⟩:=hz3
    dsimp only at hm1 hm2 hw hK hR ⊢
    subst hm1 hm2
    conv=>whnf
    refine BrS.mk (fun hkb=>absurd (of_decide_eq_true hkb) (by omega)) (fun _=>?_)
    conv=>whnf
    have hK2:=hK.push rfl hR
    rw[←hgr]at hK2
    clear hK hR
    refine .inl ?_
    conv=>whnf
    refine⟨by omega,by omega,by unfold maxLen;omega,?_⟩
    conv=>whnf
    refine⟨((i+1:Nat):Int),by rw[wrap64]<;>omega,?_⟩
    conv=>whnf
    intro ρ3 w3 r3
    exact⟨(i+1,rv++[.slice (some ⟨gx,0,none⟩) M.length cx2],w3,_),⟨hib,hw.tr r3.bel,hK2.rel r3 (oldF w)⟩,Sub.gen [(1,6)] r3 ⟨rfl,trivial⟩ ⟨rfl,by dsimp only;rw[List.length_append,List.length_singleton];rfl,rfl,trivial⟩ (by simp[ScH,Blk.scopd,At.sc]) (by simp[ScE,SV.sc,At.sc]) (by rfl) (fun lo hi h=>h),by dsimp only;omega⟩
   have hib:i=M.length:=Nat.le_antisymm hi (by simpa using hib)
   rw[hib,List.take_of_length_le (by rw[gramF_length];omega)]at hK
   conv=>whnf
   refine callE_S (callE_con (Φ:=fun _ w' v w2=>∃d,v= .tuple #[.bool d,.int .i64 0]∧(d=true→DefF (gramF (valsM M)))∧(DefF (gramF (valsM M))→d=true)) (fun ρ w' r=>?_) ?_)
   ·have h5:=r.vecSeq (id:=1) (sz:=1) (m:=rv.length) rfl (by simp) (by unfold maxLen;omega) (by decide) hK.2.1
    have hKr:=hK.rel r (oldF w)
    exact gramDef_c (rv:=rv) (by rw[hVl];exact z5) (by rw[hVl];exact hrow) z2 (errQ_len (n:=M.length) (fun r hr=>(k1 r hr).trans hsq) (fun r hr=>by obtain⟨y,hy,rfl⟩:=List.mem_map.1 hr;rw[pairs_len,←hVl];exact gramF_len _ y hy) rfl (by rw[List.length_map,gramF_length,hVl]) he) (by rw[hVl,←hib,←hrl];exact h5.weak fun g hg=>hg.2) ⟨hKr.1,hKr.2.1,fun i u x k1 k2=>RatsC.weak (hKr.2.2 i u x k1 k2) fun g hg=>Rel.old r (oldF w) g hg⟩
   rintro ρ wa51 v51 wb51 r he hb ⟨d2,rfl,hd3,hd4⟩
   replace hw:=hw.tr hb
   clear r he hb
   generalize (wa51.heap.size,wb51.heap.size)::iv=iv51 at*
   clear hK hrl
   conv=>whnf
   refine callE_S (callE_con (Φ:=fun _ w' v w2=>v= .tuple #[.int .i64 (reduceF (valsM M) (colsM M)).2.length,.int .i64 0]) (fun ρ w' r=>RankOk_c (fun g hg=>by have:=hS g hg;have:=r.baseLe;omega) (RatMR.keep h (fun g hg=>(hw.tr r.bel).block g (hS g hg))) (hM.keep (fun g hg=>(hw.tr r.bel).block g (hS g hg))) hE) ?_)
   rintro ρ wa52 v52 wb52 r he hb rfl
   replace hw:=hw.tr hb
   clear r he hb
   generalize (wa52.heap.size,wb52.heap.size)::iv51=iv52 at*
   conv=>whnf
   have hg:=gram_rank hrowV
   rw[hVl]at hg
   rw[hcv]
   generalize hrk:(reduceF (valsM M) M.length).2.length=rk at*
   conv=>whnf
   refine BrS.mk (fun _=>?_) (fun hne=>?_)
   ·conv=>whnf
    refine callE_S (callE_con (Φ:=fun _ w' v w2=>v= .bool true) (fun ρ w' r=>awake_c w') ?_)
    rintro ρ wa53 v53 wb53 r he hb rfl
    replace hw:=hw.tr hb
    clear r he hb
    generalize (wa53.heap.size,wb53.heap.size)::iv52=iv53 at*
    conv=>whnf
    intro ρe we re
    exact⟨_,rfl,hw.tr re.bel,rfl⟩
   exfalso
   cases d2 with
   |true=>have:=hg.1 (hd3 rfl);subst this;simp at hne
   |false=>
    refine absurd (hd4 (hg.2 ?_)) (by decide)
    have h4:(rk:Int)=(M.length:Int):=by simpa using hne
    omega
end Go.Ex
