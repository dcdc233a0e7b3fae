/- A part of the proof: texts X163 to X163. Each tells its conditions in its theorems. -/
import Derived.Test.YtkdcaknoaeicdaaGreatP16
/- StaticsLimits of the laws of chapter 5. Printed by program. No condition. -/
namespace Go.Ex
open Go Go.Sx Go.Proofs

theorem limF_mul(sq st:Nat):limF sq st*1000=(limN sq st:Rat):=by
 rw[limF,Rat.divInt_eq_div]
 have:((1000:Int):Rat)≠0:=by decide
 rw[show (1000:Rat)=((1000:Int):Rat)from rfl,Rat.div_mul_cancel this]
 rfl
theorem limF_lo{sq st:Nat}(h0:0<sq):limF sq st*limF sq st*(sq:Rat)≤(st:Rat)*(st:Rat):=by
 have h1:=(limN_spec (st:=st) h0).1
 have h2:=limF_mul sq st
 have h3:(limN sq st:Rat)*(limN sq st:Rat)*(sq:Rat)≤1000*(st:Rat)*(1000*(st:Rat)):=by exact_mod_cast h1
 rw[←h2]at h3
 grind
theorem limF_hi{sq st:Nat}(h0:0<sq):(st:Rat)*(st:Rat)<(limF sq st+Rat.divInt 1 1000)*(limF sq st+Rat.divInt 1 1000)*(sq:Rat):=by
 have h1:=(limN_spec (st:=st) h0).2
 have h2:=limF_mul sq st
 have h4:Rat.divInt 1 1000*1000=1:=by decide +kernel
 have h3:1000*(st:Rat)*(1000*(st:Rat))<((limN sq st:Rat)+1)*((limN sq st:Rat)+1)*(sq:Rat):=by exact_mod_cast h1
 rw[←h2]at h3
 generalize Rat.divInt 1 1000=d at*
 generalize limF sq st=x at*
 have h5:(x*1000+1)*(x*1000+1)*(sq:Rat)=(x+d)*(x+d)*(sq:Rat)*1000000:=by grind
 rw[h5]at h3
 grind
theorem sameRanges_c{S:Nat→Prop}{w:World}{v u:Value}{l:List (Rat×Rat)}(hS:Old S w)(hx:RngsC w S v l)(hy:RngsC w S u l):Con PG N.law05_sameRanges #[v,u] w (Ret w fun v' _=>v'= .bool true):=by
 have hw:Bel w.heap.size w w:=Bel.refl
 obtain⟨a,c,rfl,-,hm⟩:=hx.shape
 obtain⟨a2,c2,rfl,-,-⟩:=hy.shape
 unfold maxLen at hm
 refine in_law05_sameRanges (by simp) ?_
 conv=>whnf
 refine BrS.mk (fun hd=>by simp at hd) (fun _=>?_)
 conv=>whnf
 refine⟨Nat×World×Iv,fun z=>⟨[(0,.o (.v (.slice a l.length c))),(1,.o (.v (.slice a2 l.length c2))),(5,.o (.v (.int .i64 ((z.1:Nat):Int))))],[],0,z.2.2,z.2.1⟩,fun z=>l.length-z.1,
  fun z=>z.1≤l.length∧Bel w.heap.size w z.2.1,?_,?_⟩
 ·intro ρ w' r3
  exact⟨(0,w',_),⟨Nat.zero_le _,hw.tr r3.bel⟩,Sub.gen [] r3 trivial ⟨rfl,rfl,rfl,trivial⟩ (by simp[ScH,Blk.scopd,At.sc]) (by simp[ScE,SV.sc,At.sc,initE]) (by rfl) (fun lo hi h=>h)⟩
 clear hw
 rintro⟨i,w1,iv⟩ ⟨hi,hw⟩
 dsimp only at hi hw ⊢
 conv=>whnf
 refine BrS.mk (fun hib=>?_) (fun hib=>?_)
 ·have hib:i<l.length:=by simpa using hib
  obtain⟨q,hq⟩:∃q,l[i]? =some q:=⟨_,List.getElem?_eq_getElem hib⟩
  obtain⟨adp,csp,hap,hFp,-,hlp⟩:=hx.load (by decide) hq
  obtain⟨b0p,a0p,n0p,c0p,b1p,a1p,n1p,c1p,b2p,a2p,n2p,c2p,b3p,a3p,n3p,c3p,rfl,hAp,hVp⟩:=hFp
  obtain⟨adr,csr,har,hFr,-,hlr⟩:=hy.load (by decide) hq
  obtain⟨b0r,a0r,n0r,c0r,b1r,a1r,n1r,c1r,b2r,a2r,n2r,c2r,b3r,a3r,n3r,c3r,rfl,hAr,hVr⟩:=hFr
  conv=>whnf
  refine drawn_of_pi hτ hmix [.x 0,.x 1,.x 2,.x 3,.x 4,.x 5,.x 6,.x 7,.x 8,.x 9,.x 10,.x 11,.x 12,.x 13,.x 14,.x 15,.x 16,.x 17,.x 18,.x 19,.x 20,.x 21,.x 22,.x 23,.x 24,.x 25] (by kernel_rfl) (by kernel_rfl) ?_
  conv=>whnf
  refine⟨adp,hap,⟨by omega,by omega⟩,?_⟩
  conv=>whnf
  refine⟨[.bool b0p,.slice a0p n0p c0p,.bool b1p,.slice a1p n1p c1p],rfl,fun ρ w' r j u hu=>?_,?_⟩
  ·have hj4:=(List.getElem?_eq_some_iff.1 hu).1
   obtain⟨k1,k2⟩:=hlp (0+j) u (by rcases j with _|_|_|_|j<;>first|exact hu|(have:j+4<4:=hj4;omega))
   rw[cell_of_heap (w:=w) (w2:=w') (by simp only[addB];exact(hw.tr r.bel).block _ (hS _ k1))]
   simp only[Int.toNat_natCast,Int.toNat_zero,Nat.zero_mul,addA]at k2 ⊢
   first|exact k2|(rw [←k2];congr 2;omega)
  conv=>whnf
  refine⟨adr,har,⟨by omega,by omega⟩,?_⟩
  conv=>whnf
  refine⟨[.bool b0r,.slice a0r n0r c0r,.bool b1r,.slice a1r n1r c1r],rfl,fun ρ w' r j u hu=>?_,?_⟩
  ·have hj4:=(List.getElem?_eq_some_iff.1 hu).1
   obtain⟨k1,k2⟩:=hlr (0+j) u (by rcases j with _|_|_|_|j<;>first|exact hu|(have:j+4<4:=hj4;omega))
   rw[cell_of_heap (w:=w) (w2:=w') (by simp only[addB];exact(hw.tr r.bel).block _ (hS _ k1))]
   simp only[Int.toNat_natCast,Int.toNat_zero,Nat.zero_mul,addA]at k2 ⊢
   first|exact k2|(rw [←k2];congr 2;omega)
  conv=>whnf
  refine cE hw (Φ:=fun _ w' v w2=>v= .bool true) (fun ρ w' r=>(same_c (fun g hg=>by have:=hS g hg;have:=r.baseLe;omega) (hAp.keep fun g hg=>(hw.tr r.bel).block g (hS g hg)) (hAr.keep fun g hg=>(hw.tr r.bel).block g (hS g hg))).mono fun _ _ ⟨v2,e1,e2,e3⟩=>⟨v2,e1,e2,by rw[e3];exact congrArg _ (decide_eq_true rfl)⟩) ?_
  rintro ρ wa1 v1 wb1 iv1 r he hw h_ rfl
  clear r
  conv=>whnf
  refine⟨adp,hap,⟨by omega,by omega⟩,?_⟩
  conv=>whnf
  refine⟨[.bool b2p,.slice a2p n2p c2p,.bool b3p,.slice a3p n3p c3p],rfl,fun ρ w' r j u hu=>?_,?_⟩
  ·have hj4:=(List.getElem?_eq_some_iff.1 hu).1
   obtain⟨k1,k2⟩:=hlp (4+j) u (by rcases j with _|_|_|_|j<;>first|exact hu|(have:j+4<4:=hj4;omega))
   rw[cell_of_heap (w:=w) (w2:=w') (by simp only[addB];exact(hw.tr r.bel).block _ (hS _ k1))]
   simp only[Int.toNat_natCast,Int.toNat_zero,Nat.zero_mul,addA]at k2 ⊢
   first|exact k2|(rw [←k2];congr 2;omega)
  conv=>whnf
  refine⟨adr,har,⟨by omega,by omega⟩,?_⟩
  conv=>whnf
  refine⟨[.bool b2r,.slice a2r n2r c2r,.bool b3r,.slice a3r n3r c3r],rfl,fun ρ w' r j u hu=>?_,?_⟩
  ·have hj4:=(List.getElem?_eq_some_iff.1 hu).1
   obtain⟨k1,k2⟩:=hlr (4+j) u (by rcases j with _|_|_|_|j<;>first|exact hu|(have:j+4<4:=hj4;omega))
   rw[cell_of_heap (w:=w) (w2:=w') (by simp only[addB];exact(hw.tr r.bel).block _ (hS _ k1))]
   simp only[Int.toNat_natCast,Int.toNat_zero,Nat.zero_mul,addA]at k2 ⊢
   first|exact k2|(rw [←k2];congr 2;omega)
  conv=>whnf
  refine cE hw (Φ:=fun _ w' v w2=>v= .bool true) (fun ρ w' r=>(same_c (fun g hg=>by have:=hS g hg;have:=r.baseLe;omega) (hVp.keep fun g hg=>(hw.tr r.bel).block g (hS g hg)) (hVr.keep fun g hg=>(hw.tr r.bel).block g (hS g hg))).mono fun _ _ ⟨v2,e1,e2,e3⟩=>⟨v2,e1,e2,by rw[e3];exact congrArg _ (decide_eq_true rfl)⟩) ?_
  rintro ρ wa2 v2 wb2 iv2 r he hw h_ rfl
  clear r
  conv=>whnf
  refine⟨((i+1:Nat):Int),by rw[wrap64]<;>omega,?_⟩
  conv=>whnf
  intro ρ3 w6 r3
  exact⟨(i+1,w6,_),⟨hib,hw.tr r3.bel⟩,Sub.gen [] r3 trivial ⟨rfl,rfl,rfl,trivial⟩ (by simp[ScH,Blk.scopd,At.sc]) (by simp[ScE,SV.sc,At.sc,initE]) (by rfl) (fun lo hi h=>h),by dsimp only;omega⟩
 conv=>whnf
 intro ρe we re
 exact⟨_,rfl,hw.tr re.bel,rfl⟩
theorem RngsC.keep{w w2:World}{S:Nat→Prop}{v:Value}{l:List (Rat×Rat)}(h:RngsC w S v l)(hk:∀g,S g→w2.heap[g]? =w.heap[g]?):RngsC w2 S v l:=ListK.keep (fun _ _ h=>h.keep hk) h hk
theorem RngsC.weak{w:World}{S S':Nat→Prop}{v:Value}{l:List (Rat×Rat)}(h:RngsC w S v l)(hk:∀g,S g→S' g):RngsC w S' v l:=ListK.weak (fun _ _ h=>h.weak hk) h hk
section
variable{S S':Nat→Prop}{H:Hp}{nx:Nat}{iv iv':Iv}{B:Nat}{w w' w2:World}{ρ:Nat→Sx.Val}{v:Value}{l:List (Rat×Rat)}
theorem RngsC.rel(h:RngsC w (Cv S B iv) v l)(r:Rel H nx iv B w ρ w')(hS:∀g,S g→g<B):RngsC w' (Cv S B iv) v l:=RngsC.keep h fun _ hg=>Rel.same r hS hg
theorem RngsC.past(h:RngsC w (Cv S B iv) v l)(r:Rel H nx iv B w ρ w')(hS:∀g,S g→g<B)(he:Ext w' w2)(hm:∀p,p∈iv→p∈iv'):RngsC w2 (Cv S B iv') v l:=
 RngsC.weak (RngsC.keep (RngsC.rel h r hS) fun g hg=>he.block g (Rel.old r hS g hg)) fun _ hg=>hg.mono hm
theorem RngsC.got(h:RngsC w2 (Nw (fun _=>False) w' w2) v l)(hB:B≤w'.heap.size)(hm:(w'.heap.size,w2.heap.size)∈iv):RngsC w2 (Cv S B iv) v l:=RngsC.weak h fun _ hg=>hg.got hB hm
end
theorem RngsC.nilC{w:World}{S:Nat→Prop}:RngsC w S (.slice none 0 0) []:=⟨[],⟨Nat.zero_le _,rfl,by simp,none,0,rfl,Nat.le_refl _,fun j u h=>by cases h⟩,rfl,by simp,fun j cs x h=>by cases h⟩
theorem limCast{sq stn:Nat}{s:Int}{w:World}{S:Nat→Prop}{v:Value}(h:s=(stn:Int))(hp:∃r,v= .tuple #[r,.int .i64 0]∧RatC w S r (limF (sq:Int).toNat s.toNat)):∃r,v= .tuple #[r,.int .i64 0]∧RatC w S r (limF sq stn):=by
 subst h
 exact hp
set_option maxHeartbeats 4000000 in
theorem staticsLimits_c{S:Nat→Prop}{w:World}{vn vb vs u v:Value}{f:FrmW}{st:List Int}{ls:List ((Int×Int)×(Int×Int))}{sq:Int}(hS:Old S w)(hF:FrameW w S vn vb vs f)(hs:ZsR w S u st)(hl:StepsW w S v ls)(hsq1: -9223372036854775808≤sq)(hsq2:sq≤9223372036854775807):
  Con PG N.law05_StaticsLimits #[.agg #[vn,vb,vs],.agg #[u,v],.int .i64 sq] w (Ret w fun v' _=>v'= .bool true):=by
 have hw:Bel w.heap.size w w:=Bel.refl
 obtain⟨an,cn,rfl,-,-⟩:=hF.nodes.shape
 obtain⟨ab,cb,rfl,-,-⟩:=hF.bars.shape
 obtain⟨aq,cq,rfl,-,-⟩:=hF.sups.shape
 obtain⟨as_,cs,rfl,-,hmst⟩:=hs.shape
 obtain⟨a,c,rfl,hc,hm⟩:=hl.shape
 unfold maxLen at hmst
 refine in_law05_StaticsLimits (by simp) ?_
 conv=>whnf
 refine callE_S (cE hw (Φ:=fun _ w' v w2=>∃d,v= .bool d∧(d=true→FrameR w S (.slice an f.nodes.length cn) (.slice ab f.bars.length cb) (.slice aq f.sups.length cq) f.val∧(∀b∈f.val.bars,rl b.2.2≤3)∧(∀b∈f.val.sups,rl b.2.2≤3)∧(errF f.val≠0∨f.val.nodes.length≤4∧f.val.bars.length≤6))) (fun ρ w' r=>small5_c' hS hw r hF) ?_)
 rintro ρ wa1 v1 wb1 iv1 r he hw h_ ⟨d1,rfl,hz1⟩
 clear r
 cases d1
 ·conv=>whnf
  refine callE_S (cE hw (Φ:=fun _ w' v w2=>v= .bool true) (fun ρ w' r=>awake5_c w') ?_)
  rintro ρ wa2 v2 wb2 iv2 r he hw h_ rfl
  clear r
  conv=>whnf
  intro ρe we re
  exact⟨_,rfl,hw.tr re.bel,rfl⟩
 have hz1:=hz1 rfl
 conv=>whnf
 refine BrS.mk (fun h70=>?_) (fun h70=>?_)
 ·conv=>whnf
  refine callE_S (cE hw (Φ:=fun _ w' v w2=>v= .bool true) (fun ρ w' r=>awake5_c w') ?_)
  rintro ρ wa2 v2 wb2 iv2 r he hw h_ rfl
  clear r
  conv=>whnf
  intro ρe we re
  exact⟨_,rfl,hw.tr re.bel,rfl⟩
 have h70:=of_decide_eq_false h70
 conv=>whnf
 refine callE_S (cE hw (Φ:=fun _ w' v w2=>∃d,v= .bool d∧(d=true→(ls.length≤6∨100<ls.length)∧(ls.length≤6→StepsL w S (.slice a ls.length c) (ls.map stepV)))) (fun ρ w' r=>steps_c' (S:=S) hS hw r hl) ?_)
 rintro ρ wa2 v2 wb2 iv2 r he hw h_ ⟨d3,rfl,hz3⟩
 clear r
 cases d3
 ·conv=>whnf
  refine callE_S (cE hw (Φ:=fun _ w' v w2=>v= .bool true) (fun ρ w' r=>awake5_c w') ?_)
  rintro ρ wa3 v3 wb3 iv3 r he hw h_ rfl
  clear r
  conv=>whnf
  intro ρe we re
  exact⟨_,rfl,hw.tr re.bel,rfl⟩
 have hz3:=hz3 rfl
 obtain⟨hR,-,-,hsm⟩:=hz1
 obtain⟨hlen,hst⟩:=hz3
 obtain⟨fv,hfv⟩:∃fv,f.val=fv:=⟨_,rfl⟩
 obtain⟨t,htv⟩:∃l,ls.map stepV=l:=⟨_,rfl⟩
 rw[hfv]at hR hsm
 rw[htv]at hst
 have hll:ls.length=t.length:=by rw[←htv,List.length_map]
 rw[hll]at hm hst hlen ⊢
 replace hst:t.length≤100→StepsL w S (.slice a t.length c) t:=fun h=>hst (by omega)
 clear hF hl hfv htv hll hc
 conv=>whnf
 refine BrS.mk (fun hpos=>?_) (fun hpos=>?_)
 ·have hpos:0<st.length:=by have:=of_decide_eq_true hpos;omega
  obtain⟨x,hx⟩:∃x,st[0]? =some x:=⟨_,List.getElem?_eq_getElem hpos⟩
  obtain⟨adx,hax,hSx,hlx⟩:=ZsR.at hs hx
  conv=>whnf
  refine⟨adx,hax,⟨by omega,by omega⟩,?_⟩
  conv=>whnf
  refine⟨.int .i64 x,fun ρ w' r=>?_,?_⟩
  ·rw[cell_of_heap (w:=w) (w2:=w') (by simp only[addB];exact(hw.tr r.bel).block _ (hS _ hSx))]
   exact hlx
  by_cases hL:limOk sq (x)
  ·obtain⟨⟨q1,q2⟩,q3,q4⟩:=hL
   obtain⟨sqn,rfl⟩:=Int.eq_ofNat_of_zero_le (show 0≤sq by omega)
   obtain⟨stn,hstn⟩:=Int.eq_ofNat_of_zero_le q3
   have hst6:stn≤1000000:=by omega
   have hsq6:0<sqn:=by omega
   have hlo:=limF_lo (st:=stn) hsq6
   have hhi:=limF_hi (st:=stn) hsq6
   have hrl1:rl (limF sqn stn)≤1:=rl_limF hsq6 hst6
   have hrl2:rl ((sqn:Int):Rat)≤2:=rl_int2 (by omega)
   have hrl3:rl ((stn:Int):Rat)≤2:=rl_int2 (by omega)
   conv=>whnf
   rw[hstn]
   conv=>whnf
   refine callE_S (cE hw (Φ:=fun _ w' v w2=>∃r,v= .tuple #[r,.int .i64 0]∧RatC w2 (Nw (fun _=>False) w' w2) r (limF sqn stn)) (fun ρ w' r=>(sLimitAll_c sqn (stn:Int) w').mono fun _ _ ⟨v2,e1,e2,e3⟩=>⟨v2,e1,e2,e3.elim (fun h=>absurd ⟨⟨by omega,by omega⟩,by omega,by omega⟩ h.1) fun h=>limCast rfl h.2⟩) ?_)
   rintro ρ wa3 v3 wb3 iv3 r he hw h_ ⟨qhx1,rfl,hn⟩
   have hx1:=hn.got (S:=fun _=>False) r.baseLe (mN h_)
   clear r
   obtain⟨s3_0a,s3_0b,s3_0c,s3_0d,s3_0e,s3_0f,s3_0g,s3_0h,rfl⟩:=hx1.shape
   clear hn
   conv=>whnf
   refine callE_S (cE hw (Φ:=fun _ w' v w2=>∃r,v= .tuple #[r,.int .i64 0]∧RatC w2 (Nw (fun _=>False) w' w2) r (limF sqn stn)) (fun ρ w' r=>(rLimitAll_c sqn (stn:Int) w').mono fun _ _ ⟨v2,e1,e2,e3⟩=>⟨v2,e1,e2,e3.elim (fun h=>absurd ⟨⟨by omega,by omega⟩,by omega,by omega⟩ h.1) fun h=>limCast rfl h.2⟩) ?_)
   rintro ρ wa4 v4 wb4 iv4 r he hw h_ ⟨qhx2,rfl,hn⟩
   replace hx1:=hx1.past r (oldF w) he (mC h_)
   have hx2:=hn.got (S:=fun _=>False) r.baseLe (mN h_)
   clear r
   obtain⟨s4_0a,s4_0b,s4_0c,s4_0d,s4_0e,s4_0f,s4_0g,s4_0h,rfl⟩:=hx2.shape
   clear hn
   conv=>whnf
   refine callE_S (cE hw (Φ:=fun _ w' v w2=>v= .bool true) (fun ρ w' r=>(same_c (S:=Cv (fun _=>False) w.heap.size iv4) (Rel.old r (oldF w)) (hx1.rel r (oldF w)) (hx2.rel r (oldF w))).mono fun _ _ ⟨v2,e1,e2,e3⟩=>⟨v2,e1,e2,by rw[e3];exact congrArg _ (decide_eq_true rfl)⟩) ?_)
   rintro ρ wa5 v5 wb5 iv5 r he hw h_ rfl
   replace hx1:=hx1.past r (oldF w) he (mC h_)
   clear hx2
   clear r
   conv=>whnf
   refine callE_S (cE hw (Φ:=fun _ w' v w2=>RatC w2 (Nw (fun _=>False) w' w2) v (((stn:Int):Rat))) (fun ρ w' r=>rWholeAll_c stn w' (by omega) (by omega)) ?_)
   rintro ρ wa6 v6 wb6 iv6 r he hw h_ hn
   replace hx1:=hx1.past r (oldF w) he (mC h_)
   have hs1:=hn.got (S:=fun _=>False) r.baseLe (mN h_)
   clear r
   obtain⟨s6_0,s6_1,s6_2,s6_3,s6_4,s6_5,s6_6,s6_7,rfl⟩:=hs1.shape
   conv=>whnf
   refine callE_S (cE hw (Φ:=fun _ w' v w2=>RatC w2 (Nw (fun _=>False) w' w2) v (((stn:Int):Rat))) (fun ρ w' r=>rWholeAll_c stn w' (by omega) (by omega)) ?_)
   rintro ρ wa7 v7 wb7 iv7 r he hw h_ hn
   replace hx1:=hx1.past r (oldF w) he (mC h_)
   replace hs1:=hs1.past r (oldF w) he (mC h_)
   have hs2:=hn.got (S:=fun _=>False) r.baseLe (mN h_)
   clear r
   obtain⟨s7_0,s7_1,s7_2,s7_3,s7_4,s7_5,s7_6,s7_7,rfl⟩:=hs2.shape
   conv=>whnf
   refine callE_S (cE hw (Φ:=fun _ w' v w2=>RatC w2 (Nw (fun _=>False) w' w2) v (((stn:Int):Rat)*((stn:Int):Rat))) (fun ρ w' r=>rMul_c (Rel.old r (oldF w)) ((hs1.rel r (oldF w)).l (by omega)) ((hs2.rel r (oldF w)).l (by omega))) ?_)
   rintro ρ wa8 v8 wb8 iv8 r he hw h_ hn
   replace hx1:=hx1.past r (oldF w) he (mC h_)
   clear hs1
   clear hs2
   have hss:=hn.got (S:=fun _=>False) r.baseLe (mN h_)
   clear r
   obtain⟨s8_0,s8_1,s8_2,s8_3,s8_4,s8_5,s8_6,s8_7,rfl⟩:=hss.shape
   conv=>whnf
   refine drawn_of_pi hτ hmix [.x 0,.p 5,.x 1,.x 2,.x 3,.x 4,.x 5,.x 6] (by kernel_rfl) (by kernel_rfl) ?_
   conv=>whnf
   refine cE hw (Φ:=fun _ w' v w2=>IntC w2 (Nw (fun _=>False) w' w2) v 1) (fun ρ w' r=>rOf_c _ w' (by decide) (by decide)) ?_
   rintro ρ wa9 v9 wb9 iv9 r he hw h_ hn
   replace hx1:=hx1.past r (oldF w) he (mC h_)
   replace hss:=hss.past r (oldF w) he (mC h_)
   have ho1:=hn.got (S:=fun _=>False) r.baseLe (mN h_)
   clear r
   obtain⟨s9_0,s9_1,s9_2,s9_3,rfl⟩:=ho1.shape
   conv=>whnf
   refine cE hw (Φ:=fun _ w' v w2=>IntC w2 (Nw (fun _=>False) w' w2) v 1000) (fun ρ w' r=>rOf_c _ w' (by decide) (by decide)) ?_
   rintro ρ wa10 v10 wb10 iv10 r he hw h_ hn
   replace hx1:=hx1.past r (oldF w) he (mC h_)
   replace hss:=hss.past r (oldF w) he (mC h_)
   replace ho1:=ho1.past r (oldF w) he (mC h_)
   have ho2:=hn.got (S:=fun _=>False) r.baseLe (mN h_)
   clear r
   obtain⟨s10_0,s10_1,s10_2,s10_3,rfl⟩:=ho2.shape
   conv=>whnf
   refine cE hw (Φ:=fun _ w' v w2=>RatC w2 (Nw (fun _=>False) w' w2) v (Rat.divInt 1 1000)) (fun ρ w' r=>rOver_c (k:=2) (l:=2) (Rel.old r (oldF w)) ((ho1.rel r (oldF w)).l (ln_small (by decide) (by decide))) ((ho2.rel r (oldF w)).l (ln_small (by decide) (by decide))) (by decide) (by decide) (by decide)) ?_
   rintro ρ wa11 v11 wb11 iv11 r he hw h_ hn
   replace hx1:=hx1.past r (oldF w) he (mC h_)
   replace hss:=hss.past r (oldF w) he (mC h_)
   clear ho1
   clear ho2
   have hth:=hn.got (S:=fun _=>False) r.baseLe (mN h_)
   clear r
   obtain⟨s11_0,s11_1,s11_2,s11_3,s11_4,s11_5,s11_6,s11_7,rfl⟩:=hth.shape
   conv=>whnf
   refine cE hw (Φ:=fun _ w' v w2=>RatC w2 (Nw (fun _=>False) w' w2) v (limF sqn stn+Rat.divInt 1 1000)) (fun ρ w' r=>rAdd_c (Rel.old r (oldF w)) ((hx1.rel r (oldF w)).l (by omega)) ((hth.rel r (oldF w)).l (by decide))) ?_
   rintro ρ wa12 v12 wb12 iv12 r he hw h_ hn
   replace hx1:=hx1.past r (oldF w) he (mC h_)
   replace hss:=hss.past r (oldF w) he (mC h_)
   clear hth
   have hmo:=hn.got (S:=fun _=>False) r.baseLe (mN h_)
   clear r
   obtain⟨s12_0,s12_1,s12_2,s12_3,s12_4,s12_5,s12_6,s12_7,rfl⟩:=hmo.shape
   conv=>whnf
   have hrl4:=rl_add (limF sqn stn) (Rat.divInt 1 1000)
   have hrl5:rl (Rat.divInt 1 1000)≤1:=by decide
   have hrl6:=rl_mul (limF sqn stn) (limF sqn stn)
   have hrl7:=rl_mul (limF sqn stn*limF sqn stn) ((sqn:Int):Rat)
   have hrl8:=rl_mul ((stn:Int):Rat) ((stn:Int):Rat)
   have hrl9:=rl_mul (limF sqn stn+Rat.divInt 1 1000) (limF sqn stn+Rat.divInt 1 1000)
   have hrl0:=rl_mul ((limF sqn stn+Rat.divInt 1 1000)*(limF sqn stn+Rat.divInt 1 1000)) ((sqn:Int):Rat)
   refine drawn_of_pi hτ hmix [.x 0,.x 1,.x 3,.x 6,.x 2,.x 4,.x 5,.x 7,.x 8,.x 9,.x 10,.x 11,.x 13,.x 16,.x 12,.x 14,.x 15,.x 17,.x 18,.x 19] (by kernel_rfl) (by kernel_rfl) ?_
   conv=>whnf
   refine cE hw (Φ:=fun _ w' v w2=>RatC w2 (Nw (fun _=>False) w' w2) v (limF sqn stn*limF sqn stn)) (fun ρ w' r=>rMul_c (Rel.old r (oldF w)) ((hx1.rel r (oldF w)).l (by omega)) ((hx1.rel r (oldF w)).l (by omega))) ?_
   rintro ρ wa13 v13 wb13 iv13 r he hw h_ hn
   clear hx1
   replace hss:=hss.past r (oldF w) he (mC h_)
   replace hmo:=hmo.past r (oldF w) he (mC h_)
   have hp1:=hn.got (S:=fun _=>False) r.baseLe (mN h_)
   clear r
   obtain⟨s13_0,s13_1,s13_2,s13_3,s13_4,s13_5,s13_6,s13_7,rfl⟩:=hp1.shape
   conv=>whnf
   refine cE hw (Φ:=fun _ w' v w2=>RatC w2 (Nw (fun _=>False) w' w2) v (((sqn:Int):Rat))) (fun ρ w' r=>rWholeAll_c sqn w' (by omega) (by omega)) ?_
   rintro ρ wa14 v14 wb14 iv14 r he hw h_ hn
   replace hss:=hss.past r (oldF w) he (mC h_)
   replace hmo:=hmo.past r (oldF w) he (mC h_)
   replace hp1:=hp1.past r (oldF w) he (mC h_)
   have hp2:=hn.got (S:=fun _=>False) r.baseLe (mN h_)
   clear r
   obtain⟨s14_0,s14_1,s14_2,s14_3,s14_4,s14_5,s14_6,s14_7,rfl⟩:=hp2.shape
   conv=>whnf
   refine cE hw (Φ:=fun _ w' v w2=>RatC w2 (Nw (fun _=>False) w' w2) v (limF sqn stn*limF sqn stn*((sqn:Int):Rat))) (fun ρ w' r=>rMul_c (Rel.old r (oldF w)) ((hp1.rel r (oldF w)).l (by omega)) ((hp2.rel r (oldF w)).l (by omega))) ?_
   rintro ρ wa15 v15 wb15 iv15 r he hw h_ hn
   replace hss:=hss.past r (oldF w) he (mC h_)
   replace hmo:=hmo.past r (oldF w) he (mC h_)
   clear hp1
   clear hp2
   have hp3:=hn.got (S:=fun _=>False) r.baseLe (mN h_)
   clear r
   obtain⟨s15_0,s15_1,s15_2,s15_3,s15_4,s15_5,s15_6,s15_7,rfl⟩:=hp3.shape
   conv=>whnf
   refine cE hw (Φ:=fun _ w' v w2=>v= .int .i64 (rs (limF sqn stn*limF sqn stn*((sqn:Int):Rat)-((stn:Int):Rat)*((stn:Int):Rat)))) (fun ρ w' r=>rCmp_c (Rel.old r (oldF w)) ((hp3.rel r (oldF w)).l (by omega)) ((hss.rel r (oldF w)).l (by omega))) ?_
   rintro ρ wa16 v16 wb16 iv16 r he hw h_ rfl
   replace hss:=hss.past r (oldF w) he (mC h_)
   replace hmo:=hmo.past r (oldF w) he (mC h_)
   clear hp3
   clear r
   obtain⟨cl,hcl⟩:∃c,rs (limF sqn stn*limF sqn stn*((sqn:Int):Rat)-((stn:Int):Rat)*((stn:Int):Rat))=c:=⟨_,rfl⟩
   rw[hcl]
   conv=>whnf
   have hcl2:¬0<cl:=by rw[←hcl,rs_sub_pos,Rat.not_lt];exact hlo
   refine BrS.mk (fun hd=>absurd (of_decide_eq_true hd) hcl2) (fun _=>?_)
   conv=>whnf
   refine cE hw (Φ:=fun _ w' v w2=>RatC w2 (Nw (fun _=>False) w' w2) v ((limF sqn stn+Rat.divInt 1 1000)*(limF sqn stn+Rat.divInt 1 1000))) (fun ρ w' r=>rMul_c (Rel.old r (oldF w)) ((hmo.rel r (oldF w)).l (by omega)) ((hmo.rel r (oldF w)).l (by omega))) ?_
   rintro ρ wa17 v17 wb17 iv17 r he hw h_ hn
   replace hss:=hss.past r (oldF w) he (mC h_)
   clear hmo
   have hp1:=hn.got (S:=fun _=>False) r.baseLe (mN h_)
   clear r
   obtain⟨s17_0,s17_1,s17_2,s17_3,s17_4,s17_5,s17_6,s17_7,rfl⟩:=hp1.shape
   conv=>whnf
   refine cE hw (Φ:=fun _ w' v w2=>RatC w2 (Nw (fun _=>False) w' w2) v (((sqn:Int):Rat))) (fun ρ w' r=>rWholeAll_c sqn w' (by omega) (by omega)) ?_
   rintro ρ wa18 v18 wb18 iv18 r he hw h_ hn
   replace hss:=hss.past r (oldF w) he (mC h_)
   replace hp1:=hp1.past r (oldF w) he (mC h_)
   have hp2:=hn.got (S:=fun _=>False) r.baseLe (mN h_)
   clear r
   obtain⟨s18_0,s18_1,s18_2,s18_3,s18_4,s18_5,s18_6,s18_7,rfl⟩:=hp2.shape
   conv=>whnf
   refine cE hw (Φ:=fun _ w' v w2=>RatC w2 (Nw (fun _=>False) w' w2) v ((limF sqn stn+Rat.divInt 1 1000)*(limF sqn stn+Rat.divInt 1 1000)*((sqn:Int):Rat))) (fun ρ w' r=>rMul_c (Rel.old r (oldF w)) ((hp1.rel r (oldF w)).l (by omega)) ((hp2.rel r (oldF w)).l (by omega))) ?_
   rintro ρ wa19 v19 wb19 iv19 r he hw h_ hn
   replace hss:=hss.past r (oldF w) he (mC h_)
   clear hp1
   clear hp2
   have hp3:=hn.got (S:=fun _=>False) r.baseLe (mN h_)
   clear r
   obtain⟨s19_0,s19_1,s19_2,s19_3,s19_4,s19_5,s19_6,s19_7,rfl⟩:=hp3.shape
   conv=>whnf
   refine cE hw (Φ:=fun _ w' v w2=>v= .int .i64 (rs ((limF sqn stn+Rat.divInt 1 1000)*(limF sqn stn+Rat.divInt 1 1000)*((sqn:Int):Rat)-((stn:Int):Rat)*((stn:Int):Rat)))) (fun ρ w' r=>rCmp_c (Rel.old r (oldF w)) ((hp3.rel r (oldF w)).l (by omega)) ((hss.rel r (oldF w)).l (by omega))) ?_
   rintro ρ wa20 v20 wb20 iv20 r he hw h_ rfl
   replace hss:=hss.past r (oldF w) he (mC h_)
   clear hp3
   clear r
   obtain⟨ch,hch⟩:∃c,rs ((limF sqn stn+Rat.divInt 1 1000)*(limF sqn stn+Rat.divInt 1 1000)*((sqn:Int):Rat)-((stn:Int):Rat)*((stn:Int):Rat))=c:=⟨_,rfl⟩
   rw[hch]
   conv=>whnf
   have hch2:¬ch≤0:=by rw[←hch,rs_le_iff,Rat.not_le];exact hhi
   clear hss
   refine BrS.mk (fun hd=>absurd (of_decide_eq_true hd) hch2) (fun _=>?_)
   by_cases h1:errF fv=0
   ·obtain⟨e2,he2⟩:∃e,errLim fv.bars.length st t=e:=⟨_,rfl⟩
    by_cases h2:e2=0
    ·subst h2
     conv=>whnf
     refine callE_S (cE hw (Φ:=fun _ w' v w2=>∃vr,v= .tuple #[vr,.int .i64 0]∧RngsC w2 (Nw (fun _=>False) w' w2) vr (rngTo fv st t fv.bars.length)) (fun ρ w' r=>(sLimits_c (S:=S) (e0:=0) (fun g hg=>by have:=hS g hg;have:=r.baseLe;omega) (hR.keep fun g hg=>(hw.tr r.bel).block g (hS g hg)) (ZsR.keep hs fun g hg=>(hw.tr r.bel).block g (hS g hg)) hm (fun hle=>StepsL.keep (hst hle) fun g hg=>(hw.tr r.bel).block g (hS g hg)) (by rw[if_neg (by rw[h1];decide),he2])).mono fun _ _ ⟨v2,e1,e2,e3⟩=>⟨v2,e1,e2,e3.elim (fun h=>absurd rfl h.1) fun h=>h.2⟩) ?_)
     rintro ρ wa21 v21 wb21 iv21 r he hw h_ ⟨vr1,rfl,hn⟩
     have hr1:=RngsC.got (S:=fun _=>False) hn r.baseLe (mN h_)
     clear r
     clear hn
     obtain⟨ar1,cr1,rfl,-,-⟩:=ListK.shape hr1
     conv=>whnf
     refine callE_S (cE hw (Φ:=fun _ w' v w2=>v= .int .i64 0) (fun ρ w' r=>(rCheck_c (fun g hg=>by have:=hS g hg;have:=r.baseLe;omega) (hR.keep fun g hg=>(hw.tr r.bel).block g (hS g hg))).mono fun _ _ ⟨v2,e1,e2,e3⟩=>⟨v2,e1,e2,by rw[e3,h1]⟩) ?_)
     rintro ρ wa22 v22 wb22 iv22 r he hw h_ rfl
     replace hr1:=RngsC.past hr1 r (oldF w) he (mC h_)
     clear r
     conv=>whnf
     refine callE_S (cE hw (Φ:=fun _ w' v w2=>∃vr,v= .tuple #[vr,.int .i64 0]∧RngsC w2 (Nw (fun _=>False) w' w2) vr (rngTo fv st t fv.bars.length)) (fun ρ w' r=>(rLimits_c (S:=S) (e0:=0) (fun g hg=>by have:=hS g hg;have:=r.baseLe;omega) (hR.keep fun g hg=>(hw.tr r.bel).block g (hS g hg)) h1 (ZsR.keep hs fun g hg=>(hw.tr r.bel).block g (hS g hg)) hm (fun hle=>StepsL.keep (hst hle) fun g hg=>(hw.tr r.bel).block g (hS g hg)) he2.symm).mono fun _ _ ⟨v2,e1,e2,e3⟩=>⟨v2,e1,e2,e3.elim (fun h=>absurd rfl h.1) fun h=>h.2⟩) ?_)
     rintro ρ wa23 v23 wb23 iv23 r he hw h_ ⟨vr2,rfl,hn⟩
     replace hr1:=RngsC.past hr1 r (oldF w) he (mC h_)
     have hr2:=RngsC.got (S:=fun _=>False) hn r.baseLe (mN h_)
     clear r
     clear hn
     obtain⟨ar2,cr2,rfl,-,-⟩:=ListK.shape hr2
     conv=>whnf
     refine callE_S (cE hw (Φ:=fun _ w' v w2=>v= .bool true) (fun ρ w' r=>sameRanges_c (S:=Cv (fun _=>False) w.heap.size iv23) (Rel.old r (oldF w)) (RngsC.rel hr1 r (oldF w)) (RngsC.rel hr2 r (oldF w))) ?_)
     rintro ρ wa24 v24 wb24 iv24 r he hw h_ rfl
     clear hr1
     clear hr2
     clear r
     conv=>whnf
     refine callE_S (cE hw (Φ:=fun _ w' v w2=>v= .bool true) (fun ρ w' r=>awake5_c w') ?_)
     rintro ρ wa25 v25 wb25 iv25 r he hw h_ rfl
     clear r
     conv=>whnf
     intro ρe we re
     exact⟨_,rfl,hw.tr re.bel,rfl⟩
    conv=>whnf
    refine callE_S (cE hw (Φ:=fun _ w' v w2=>v= .tuple #[.slice none 0 0,.int .i64 e2]) (fun ρ w' r=>(sLimits_c (S:=S) (e0:=e2) (fun g hg=>by have:=hS g hg;have:=r.baseLe;omega) (hR.keep fun g hg=>(hw.tr r.bel).block g (hS g hg)) (ZsR.keep hs fun g hg=>(hw.tr r.bel).block g (hS g hg)) hm (fun hle=>StepsL.keep (hst hle) fun g hg=>(hw.tr r.bel).block g (hS g hg)) (by rw[if_neg (by rw[h1];decide),he2])).mono fun _ _ ⟨v2,e1,e2,e3⟩=>⟨v2,e1,e2,e3.elim (fun h=>h.2) fun h=>absurd h.1 h2⟩) ?_)
    rintro ρ wa21 v21 wb21 iv21 r he hw h_ rfl
    clear r
    conv=>whnf
    refine callE_S (cE hw (Φ:=fun _ w' v w2=>v= .int .i64 0) (fun ρ w' r=>(rCheck_c (fun g hg=>by have:=hS g hg;have:=r.baseLe;omega) (hR.keep fun g hg=>(hw.tr r.bel).block g (hS g hg))).mono fun _ _ ⟨v2,e1,e2,e3⟩=>⟨v2,e1,e2,by rw[e3,h1]⟩) ?_)
    rintro ρ wa22 v22 wb22 iv22 r he hw h_ rfl
    clear r
    conv=>whnf
    refine callE_S (cE hw (Φ:=fun _ w' v w2=>v= .tuple #[.slice none 0 0,.int .i64 e2]) (fun ρ w' r=>(rLimits_c (S:=S) (e0:=e2) (fun g hg=>by have:=hS g hg;have:=r.baseLe;omega) (hR.keep fun g hg=>(hw.tr r.bel).block g (hS g hg)) h1 (ZsR.keep hs fun g hg=>(hw.tr r.bel).block g (hS g hg)) hm (fun hle=>StepsL.keep (hst hle) fun g hg=>(hw.tr r.bel).block g (hS g hg)) he2.symm).mono fun _ _ ⟨v2,e1,e2,e3⟩=>⟨v2,e1,e2,e3.elim (fun h=>h.2) fun h=>absurd h.1 h2⟩) ?_)
    rintro ρ wa23 v23 wb23 iv23 r he hw h_ rfl
    clear r
    conv=>whnf
    refine callE_S (cE hw (Φ:=fun _ w' v w2=>v= .bool true) (fun ρ w' r=>sameRanges_c (S:=fun _=>False) (l:=[]) (oldF w') RngsC.nilC RngsC.nilC) ?_)
    rintro ρ wa24 v24 wb24 iv24 r he hw h_ rfl
    clear r
    conv=>whnf
    refine BrS.mk (fun _=>?_) (fun hd=>by simp at hd)
    conv=>whnf
    refine BrS.mk (fun hd=>absurd (by simpa using hd) h2) (fun _=>?_)
    conv=>whnf
    refine callE_S (cE hw (Φ:=fun _ w' v w2=>v= .bool true) (fun ρ w' r=>awake5_c w') ?_)
    rintro ρ wa25 v25 wb25 iv25 r he hw h_ rfl
    clear r
    conv=>whnf
    intro ρe we re
    exact⟨_,rfl,hw.tr re.bel,rfl⟩
   obtain⟨e2,he2⟩:∃e,errF fv=e:=⟨_,rfl⟩
   have h2:e2≠0:=by rw[←he2];exact h1
   conv=>whnf
   refine callE_S (cE hw (Φ:=fun _ w' v w2=>v= .tuple #[.slice none 0 0,.int .i64 e2]) (fun ρ w' r=>(sLimits_c (S:=S) (e0:=e2) (fun g hg=>by have:=hS g hg;have:=r.baseLe;omega) (hR.keep fun g hg=>(hw.tr r.bel).block g (hS g hg)) (ZsR.keep hs fun g hg=>(hw.tr r.bel).block g (hS g hg)) hm (fun hle=>StepsL.keep (hst hle) fun g hg=>(hw.tr r.bel).block g (hS g hg)) (by rw[if_pos h1,he2])).mono fun _ _ ⟨v2,e1,e2,e3⟩=>⟨v2,e1,e2,e3.elim (fun h=>h.2) fun h=>absurd h.1 h2⟩) ?_)
   rintro ρ wa21 v21 wb21 iv21 r he hw h_ rfl
   clear r
   conv=>whnf
   refine callE_S (cE hw (Φ:=fun _ w' v w2=>v= .int .i64 e2) (fun ρ w' r=>(rCheck_c (fun g hg=>by have:=hS g hg;have:=r.baseLe;omega) (hR.keep fun g hg=>(hw.tr r.bel).block g (hS g hg))).mono fun _ _ ⟨v2,e1,e2,e3⟩=>⟨v2,e1,e2,by rw[e3,he2]⟩) ?_)
   rintro ρ wa22 v22 wb22 iv22 r he hw h_ rfl
   clear r
   conv=>whnf
   refine BrS.mk (fun hd=>absurd (by simpa using hd) h2) (fun _=>?_)
   conv=>whnf
   refine BrS.mk (fun _=>?_) (fun hd=>by simp at hd)
   conv=>whnf
   refine BrS.mk (fun hd=>absurd (by simpa using hd) h2) (fun _=>?_)
   conv=>whnf
   refine callE_S (cE hw (Φ:=fun _ w' v w2=>v= .bool true) (fun ρ w' r=>awake5_c w') ?_)
   rintro ρ wa23 v23 wb23 iv23 r he hw h_ rfl
   clear r
   conv=>whnf
   intro ρe we re
   exact⟨_,rfl,hw.tr re.bel,rfl⟩
  conv=>whnf
  refine callE_S (cE hw (Φ:=fun _ w' v w2=>v= .tuple #[ratNil,.int .i64 2]) (fun ρ w' r=>(sLimitAll_c sq (x) w').mono fun _ _ ⟨v2,e1,e2,e3⟩=>⟨v2,e1,e2,e3.elim (fun h=>h.2) fun h=>absurd h.1 hL⟩) ?_)
  rintro ρ wa3 v3 wb3 iv3 r he hw h_ rfl
  clear r
  conv=>whnf
  refine callE_S (cE hw (Φ:=fun _ w' v w2=>v= .tuple #[ratNil,.int .i64 2]) (fun ρ w' r=>(rLimitAll_c sq (x) w').mono fun _ _ ⟨v2,e1,e2,e3⟩=>⟨v2,e1,e2,e3.elim (fun h=>h.2) fun h=>absurd h.1 hL⟩) ?_)
  rintro ρ wa4 v4 wb4 iv4 r he hw h_ rfl
  clear r
  conv=>whnf
  refine callE_S (cE hw (Φ:=fun _ w' v w2=>v= .bool true) (fun ρ w' r=>(sameD_c (S:=fun _=>False) (oldF w') (RatD.nil w' _) (RatD.nil w' _)).mono fun _ _ ⟨v2,e1,e2,e3⟩=>⟨v2,e1,e2,by rw[e3];rfl⟩) ?_)
  rintro ρ wa5 v5 wb5 iv5 r he hw h_ rfl
  clear r
  by_cases h1:errF fv=0
  ·obtain⟨e2,he2⟩:∃e,errLim fv.bars.length st t=e:=⟨_,rfl⟩
   by_cases h2:e2=0
   ·subst h2
    conv=>whnf
    refine callE_S (cE hw (Φ:=fun _ w' v w2=>∃vr,v= .tuple #[vr,.int .i64 0]∧RngsC w2 (Nw (fun _=>False) w' w2) vr (rngTo fv st t fv.bars.length)) (fun ρ w' r=>(sLimits_c (S:=S) (e0:=0) (fun g hg=>by have:=hS g hg;have:=r.baseLe;omega) (hR.keep fun g hg=>(hw.tr r.bel).block g (hS g hg)) (ZsR.keep hs fun g hg=>(hw.tr r.bel).block g (hS g hg)) hm (fun hle=>StepsL.keep (hst hle) fun g hg=>(hw.tr r.bel).block g (hS g hg)) (by rw[if_neg (by rw[h1];decide),he2])).mono fun _ _ ⟨v2,e1,e2,e3⟩=>⟨v2,e1,e2,e3.elim (fun h=>absurd rfl h.1) fun h=>h.2⟩) ?_)
    rintro ρ wa6 v6 wb6 iv6 r he hw h_ ⟨vr1,rfl,hn⟩
    have hr1:=RngsC.got (S:=fun _=>False) hn r.baseLe (mN h_)
    clear r
    clear hn
    obtain⟨ar1,cr1,rfl,-,-⟩:=ListK.shape hr1
    conv=>whnf
    refine callE_S (cE hw (Φ:=fun _ w' v w2=>v= .int .i64 0) (fun ρ w' r=>(rCheck_c (fun g hg=>by have:=hS g hg;have:=r.baseLe;omega) (hR.keep fun g hg=>(hw.tr r.bel).block g (hS g hg))).mono fun _ _ ⟨v2,e1,e2,e3⟩=>⟨v2,e1,e2,by rw[e3,h1]⟩) ?_)
    rintro ρ wa7 v7 wb7 iv7 r he hw h_ rfl
    replace hr1:=RngsC.past hr1 r (oldF w) he (mC h_)
    clear r
    conv=>whnf
    refine callE_S (cE hw (Φ:=fun _ w' v w2=>∃vr,v= .tuple #[vr,.int .i64 0]∧RngsC w2 (Nw (fun _=>False) w' w2) vr (rngTo fv st t fv.bars.length)) (fun ρ w' r=>(rLimits_c (S:=S) (e0:=0) (fun g hg=>by have:=hS g hg;have:=r.baseLe;omega) (hR.keep fun g hg=>(hw.tr r.bel).block g (hS g hg)) h1 (ZsR.keep hs fun g hg=>(hw.tr r.bel).block g (hS g hg)) hm (fun hle=>StepsL.keep (hst hle) fun g hg=>(hw.tr r.bel).block g (hS g hg)) he2.symm).mono fun _ _ ⟨v2,e1,e2,e3⟩=>⟨v2,e1,e2,e3.elim (fun h=>absurd rfl h.1) fun h=>h.2⟩) ?_)
    rintro ρ wa8 v8 wb8 iv8 r he hw h_ ⟨vr2,rfl,hn⟩
    replace hr1:=RngsC.past hr1 r (oldF w) he (mC h_)
    have hr2:=RngsC.got (S:=fun _=>False) hn r.baseLe (mN h_)
    clear r
    clear hn
    obtain⟨ar2,cr2,rfl,-,-⟩:=ListK.shape hr2
    conv=>whnf
    refine callE_S (cE hw (Φ:=fun _ w' v w2=>v= .bool true) (fun ρ w' r=>sameRanges_c (S:=Cv (fun _=>False) w.heap.size iv8) (Rel.old r (oldF w)) (RngsC.rel hr1 r (oldF w)) (RngsC.rel hr2 r (oldF w))) ?_)
    rintro ρ wa9 v9 wb9 iv9 r he hw h_ rfl
    clear hr1
    clear hr2
    clear r
    conv=>whnf
    refine callE_S (cE hw (Φ:=fun _ w' v w2=>v= .bool true) (fun ρ w' r=>awake5_c w') ?_)
    rintro ρ wa10 v10 wb10 iv10 r he hw h_ rfl
    clear r
    conv=>whnf
    intro ρe we re
    exact⟨_,rfl,hw.tr re.bel,rfl⟩
   conv=>whnf
   refine callE_S (cE hw (Φ:=fun _ w' v w2=>v= .tuple #[.slice none 0 0,.int .i64 e2]) (fun ρ w' r=>(sLimits_c (S:=S) (e0:=e2) (fun g hg=>by have:=hS g hg;have:=r.baseLe;omega) (hR.keep fun g hg=>(hw.tr r.bel).block g (hS g hg)) (ZsR.keep hs fun g hg=>(hw.tr r.bel).block g (hS g hg)) hm (fun hle=>StepsL.keep (hst hle) fun g hg=>(hw.tr r.bel).block g (hS g hg)) (by rw[if_neg (by rw[h1];decide),he2])).mono fun _ _ ⟨v2,e1,e2,e3⟩=>⟨v2,e1,e2,e3.elim (fun h=>h.2) fun h=>absurd h.1 h2⟩) ?_)
   rintro ρ wa6 v6 wb6 iv6 r he hw h_ rfl
   clear r
   conv=>whnf
   refine callE_S (cE hw (Φ:=fun _ w' v w2=>v= .int .i64 0) (fun ρ w' r=>(rCheck_c (fun g hg=>by have:=hS g hg;have:=r.baseLe;omega) (hR.keep fun g hg=>(hw.tr r.bel).block g (hS g hg))).mono fun _ _ ⟨v2,e1,e2,e3⟩=>⟨v2,e1,e2,by rw[e3,h1]⟩) ?_)
   rintro ρ wa7 v7 wb7 iv7 r he hw h_ rfl
   clear r
   conv=>whnf
   refine callE_S (cE hw (Φ:=fun _ w' v w2=>v= .tuple #[.slice none 0 0,.int .i64 e2]) (fun ρ w' r=>(rLimits_c (S:=S) (e0:=e2) (fun g hg=>by have:=hS g hg;have:=r.baseLe;omega) (hR.keep fun g hg=>(hw.tr r.bel).block g (hS g hg)) h1 (ZsR.keep hs fun g hg=>(hw.tr r.bel).block g (hS g hg)) hm (fun hle=>StepsL.keep (hst hle) fun g hg=>(hw.tr r.bel).block g (hS g hg)) he2.symm).mono fun _ _ ⟨v2,e1,e2,e3⟩=>⟨v2,e1,e2,e3.elim (fun h=>h.2) fun h=>absurd h.1 h2⟩) ?_)
   rintro ρ wa8 v8 wb8 iv8 r he hw h_ rfl
   clear r
   conv=>whnf
   refine callE_S (cE hw (Φ:=fun _ w' v w2=>v= .bool true) (fun ρ w' r=>sameRanges_c (S:=fun _=>False) (l:=[]) (oldF w') RngsC.nilC RngsC.nilC) ?_)
   rintro ρ wa9 v9 wb9 iv9 r he hw h_ rfl
   clear r
   conv=>whnf
   refine BrS.mk (fun _=>?_) (fun hd=>by simp at hd)
   conv=>whnf
   refine BrS.mk (fun hd=>absurd (by simpa using hd) h2) (fun _=>?_)
   conv=>whnf
   refine callE_S (cE hw (Φ:=fun _ w' v w2=>v= .bool true) (fun ρ w' r=>awake5_c w') ?_)
   rintro ρ wa10 v10 wb10 iv10 r he hw h_ rfl
   clear r
   conv=>whnf
   intro ρe we re
   exact⟨_,rfl,hw.tr re.bel,rfl⟩
  obtain⟨e2,he2⟩:∃e,errF fv=e:=⟨_,rfl⟩
  have h2:e2≠0:=by rw[←he2];exact h1
  conv=>whnf
  refine callE_S (cE hw (Φ:=fun _ w' v w2=>v= .tuple #[.slice none 0 0,.int .i64 e2]) (fun ρ w' r=>(sLimits_c (S:=S) (e0:=e2) (fun g hg=>by have:=hS g hg;have:=r.baseLe;omega) (hR.keep fun g hg=>(hw.tr r.bel).block g (hS g hg)) (ZsR.keep hs fun g hg=>(hw.tr r.bel).block g (hS g hg)) hm (fun hle=>StepsL.keep (hst hle) fun g hg=>(hw.tr r.bel).block g (hS g hg)) (by rw[if_pos h1,he2])).mono fun _ _ ⟨v2,e1,e2,e3⟩=>⟨v2,e1,e2,e3.elim (fun h=>h.2) fun h=>absurd h.1 h2⟩) ?_)
  rintro ρ wa6 v6 wb6 iv6 r he hw h_ rfl
  clear r
  conv=>whnf
  refine callE_S (cE hw (Φ:=fun _ w' v w2=>v= .int .i64 e2) (fun ρ w' r=>(rCheck_c (fun g hg=>by have:=hS g hg;have:=r.baseLe;omega) (hR.keep fun g hg=>(hw.tr r.bel).block g (hS g hg))).mono fun _ _ ⟨v2,e1,e2,e3⟩=>⟨v2,e1,e2,by rw[e3,he2]⟩) ?_)
  rintro ρ wa7 v7 wb7 iv7 r he hw h_ rfl
  clear r
  conv=>whnf
  refine BrS.mk (fun hd=>absurd (by simpa using hd) h2) (fun _=>?_)
  conv=>whnf
  refine BrS.mk (fun _=>?_) (fun hd=>by simp at hd)
  conv=>whnf
  refine BrS.mk (fun hd=>absurd (by simpa using hd) h2) (fun _=>?_)
  conv=>whnf
  refine callE_S (cE hw (Φ:=fun _ w' v w2=>v= .bool true) (fun ρ w' r=>awake5_c w') ?_)
  rintro ρ wa8 v8 wb8 iv8 r he hw h_ rfl
  clear r
  conv=>whnf
  intro ρe we re
  exact⟨_,rfl,hw.tr re.bel,rfl⟩
 by_cases hL:limOk sq (10)
 ·obtain⟨⟨q1,q2⟩,q3,q4⟩:=hL
  obtain⟨sqn,rfl⟩:=Int.eq_ofNat_of_zero_le (show 0≤sq by omega)
  obtain⟨stn,hstn⟩:=Int.eq_ofNat_of_zero_le q3
  have hst6:stn≤1000000:=by omega
  have hsq6:0<sqn:=by omega
  have hlo:=limF_lo (st:=stn) hsq6
  have hhi:=limF_hi (st:=stn) hsq6
  have hrl1:rl (limF sqn stn)≤1:=rl_limF hsq6 hst6
  have hrl2:rl ((sqn:Int):Rat)≤2:=rl_int2 (by omega)
  have hrl3:rl ((stn:Int):Rat)≤2:=rl_int2 (by omega)
  conv=>whnf
  refine callE_S (cE hw (Φ:=fun _ w' v w2=>∃r,v= .tuple #[r,.int .i64 0]∧RatC w2 (Nw (fun _=>False) w' w2) r (limF sqn stn)) (fun ρ w' r=>(sLimitAll_c sqn 10 w').mono fun _ _ ⟨v2,e1,e2,e3⟩=>⟨v2,e1,e2,e3.elim (fun h=>absurd ⟨⟨by omega,by omega⟩,by omega,by omega⟩ h.1) fun h=>limCast hstn h.2⟩) ?_)
  rintro ρ wa3 v3 wb3 iv3 r he hw h_ ⟨qhx1,rfl,hn⟩
  have hx1:=hn.got (S:=fun _=>False) r.baseLe (mN h_)
  clear r
  obtain⟨s3_0a,s3_0b,s3_0c,s3_0d,s3_0e,s3_0f,s3_0g,s3_0h,rfl⟩:=hx1.shape
  clear hn
  conv=>whnf
  refine callE_S (cE hw (Φ:=fun _ w' v w2=>∃r,v= .tuple #[r,.int .i64 0]∧RatC w2 (Nw (fun _=>False) w' w2) r (limF sqn stn)) (fun ρ w' r=>(rLimitAll_c sqn 10 w').mono fun _ _ ⟨v2,e1,e2,e3⟩=>⟨v2,e1,e2,e3.elim (fun h=>absurd ⟨⟨by omega,by omega⟩,by omega,by omega⟩ h.1) fun h=>limCast hstn h.2⟩) ?_)
  rintro ρ wa4 v4 wb4 iv4 r he hw h_ ⟨qhx2,rfl,hn⟩
  replace hx1:=hx1.past r (oldF w) he (mC h_)
  have hx2:=hn.got (S:=fun _=>False) r.baseLe (mN h_)
  clear r
  obtain⟨s4_0a,s4_0b,s4_0c,s4_0d,s4_0e,s4_0f,s4_0g,s4_0h,rfl⟩:=hx2.shape
  clear hn
  conv=>whnf
  refine callE_S (cE hw (Φ:=fun _ w' v w2=>v= .bool true) (fun ρ w' r=>(same_c (S:=Cv (fun _=>False) w.heap.size iv4) (Rel.old r (oldF w)) (hx1.rel r (oldF w)) (hx2.rel r (oldF w))).mono fun _ _ ⟨v2,e1,e2,e3⟩=>⟨v2,e1,e2,by rw[e3];exact congrArg _ (decide_eq_true rfl)⟩) ?_)
  rintro ρ wa5 v5 wb5 iv5 r he hw h_ rfl
  replace hx1:=hx1.past r (oldF w) he (mC h_)
  clear hx2
  clear r
  conv=>whnf
  refine callE_S (cE hw (Φ:=fun _ w' v w2=>RatC w2 (Nw (fun _=>False) w' w2) v (((stn:Int):Rat))) (fun ρ w' r=>hstn▸rWholeAll_c 10 w' (by omega) (by omega)) ?_)
  rintro ρ wa6 v6 wb6 iv6 r he hw h_ hn
  replace hx1:=hx1.past r (oldF w) he (mC h_)
  have hs1:=hn.got (S:=fun _=>False) r.baseLe (mN h_)
  clear r
  obtain⟨s6_0,s6_1,s6_2,s6_3,s6_4,s6_5,s6_6,s6_7,rfl⟩:=hs1.shape
  conv=>whnf
  refine callE_S (cE hw (Φ:=fun _ w' v w2=>RatC w2 (Nw (fun _=>False) w' w2) v (((stn:Int):Rat))) (fun ρ w' r=>hstn▸rWholeAll_c 10 w' (by omega) (by omega)) ?_)
  rintro ρ wa7 v7 wb7 iv7 r he hw h_ hn
  replace hx1:=hx1.past r (oldF w) he (mC h_)
  replace hs1:=hs1.past r (oldF w) he (mC h_)
  have hs2:=hn.got (S:=fun _=>False) r.baseLe (mN h_)
  clear r
  obtain⟨s7_0,s7_1,s7_2,s7_3,s7_4,s7_5,s7_6,s7_7,rfl⟩:=hs2.shape
  conv=>whnf
  refine callE_S (cE hw (Φ:=fun _ w' v w2=>RatC w2 (Nw (fun _=>False) w' w2) v (((stn:Int):Rat)*((stn:Int):Rat))) (fun ρ w' r=>rMul_c (Rel.old r (oldF w)) ((hs1.rel r (oldF w)).l (by omega)) ((hs2.rel r (oldF w)).l (by omega))) ?_)
  rintro ρ wa8 v8 wb8 iv8 r he hw h_ hn
  replace hx1:=hx1.past r (oldF w) he (mC h_)
  clear hs1
  clear hs2
  have hss:=hn.got (S:=fun _=>False) r.baseLe (mN h_)
  clear r
  obtain⟨s8_0,s8_1,s8_2,s8_3,s8_4,s8_5,s8_6,s8_7,rfl⟩:=hss.shape
  conv=>whnf
  refine drawn_of_pi hτ hmix [.x 0,.p 5,.x 1,.x 2,.x 3,.x 4,.x 5,.x 6] (by kernel_rfl) (by kernel_rfl) ?_
  conv=>whnf
  refine cE hw (Φ:=fun _ w' v w2=>IntC w2 (Nw (fun _=>False) w' w2) v 1) (fun ρ w' r=>rOf_c _ w' (by decide) (by decide)) ?_
  rintro ρ wa9 v9 wb9 iv9 r he hw h_ hn
  replace hx1:=hx1.past r (oldF w) he (mC h_)
  replace hss:=hss.past r (oldF w) he (mC h_)
  have ho1:=hn.got (S:=fun _=>False) r.baseLe (mN h_)
  clear r
  obtain⟨s9_0,s9_1,s9_2,s9_3,rfl⟩:=ho1.shape
  conv=>whnf
  refine cE hw (Φ:=fun _ w' v w2=>IntC w2 (Nw (fun _=>False) w' w2) v 1000) (fun ρ w' r=>rOf_c _ w' (by decide) (by decide)) ?_
  rintro ρ wa10 v10 wb10 iv10 r he hw h_ hn
  replace hx1:=hx1.past r (oldF w) he (mC h_)
  replace hss:=hss.past r (oldF w) he (mC h_)
  replace ho1:=ho1.past r (oldF w) he (mC h_)
  have ho2:=hn.got (S:=fun _=>False) r.baseLe (mN h_)
  clear r
  obtain⟨s10_0,s10_1,s10_2,s10_3,rfl⟩:=ho2.shape
  conv=>whnf
  refine cE hw (Φ:=fun _ w' v w2=>RatC w2 (Nw (fun _=>False) w' w2) v (Rat.divInt 1 1000)) (fun ρ w' r=>rOver_c (k:=2) (l:=2) (Rel.old r (oldF w)) ((ho1.rel r (oldF w)).l (ln_small (by decide) (by decide))) ((ho2.rel r (oldF w)).l (ln_small (by decide) (by decide))) (by decide) (by decide) (by decide)) ?_
  rintro ρ wa11 v11 wb11 iv11 r he hw h_ hn
  replace hx1:=hx1.past r (oldF w) he (mC h_)
  replace hss:=hss.past r (oldF w) he (mC h_)
  clear ho1
  clear ho2
  have hth:=hn.got (S:=fun _=>False) r.baseLe (mN h_)
  clear r
  obtain⟨s11_0,s11_1,s11_2,s11_3,s11_4,s11_5,s11_6,s11_7,rfl⟩:=hth.shape
  conv=>whnf
  refine cE hw (Φ:=fun _ w' v w2=>RatC w2 (Nw (fun _=>False) w' w2) v (limF sqn stn+Rat.divInt 1 1000)) (fun ρ w' r=>rAdd_c (Rel.old r (oldF w)) ((hx1.rel r (oldF w)).l (by omega)) ((hth.rel r (oldF w)).l (by decide))) ?_
  rintro ρ wa12 v12 wb12 iv12 r he hw h_ hn
  replace hx1:=hx1.past r (oldF w) he (mC h_)
  replace hss:=hss.past r (oldF w) he (mC h_)
  clear hth
  have hmo:=hn.got (S:=fun _=>False) r.baseLe (mN h_)
  clear r
  obtain⟨s12_0,s12_1,s12_2,s12_3,s12_4,s12_5,s12_6,s12_7,rfl⟩:=hmo.shape
  conv=>whnf
  have hrl4:=rl_add (limF sqn stn) (Rat.divInt 1 1000)
  have hrl5:rl (Rat.divInt 1 1000)≤1:=by decide
  have hrl6:=rl_mul (limF sqn stn) (limF sqn stn)
  have hrl7:=rl_mul (limF sqn stn*limF sqn stn) ((sqn:Int):Rat)
  have hrl8:=rl_mul ((stn:Int):Rat) ((stn:Int):Rat)
  have hrl9:=rl_mul (limF sqn stn+Rat.divInt 1 1000) (limF sqn stn+Rat.divInt 1 1000)
  have hrl0:=rl_mul ((limF sqn stn+Rat.divInt 1 1000)*(limF sqn stn+Rat.divInt 1 1000)) ((sqn:Int):Rat)
  refine drawn_of_pi hτ hmix [.x 0,.x 1,.x 3,.x 6,.x 2,.x 4,.x 5,.x 7,.x 8,.x 9,.x 10,.x 11,.x 13,.x 16,.x 12,.x 14,.x 15,.x 17,.x 18,.x 19] (by kernel_rfl) (by kernel_rfl) ?_
  conv=>whnf
  refine cE hw (Φ:=fun _ w' v w2=>RatC w2 (Nw (fun _=>False) w' w2) v (limF sqn stn*limF sqn stn)) (fun ρ w' r=>rMul_c (Rel.old r (oldF w)) ((hx1.rel r (oldF w)).l (by omega)) ((hx1.rel r (oldF w)).l (by omega))) ?_
  rintro ρ wa13 v13 wb13 iv13 r he hw h_ hn
  clear hx1
  replace hss:=hss.past r (oldF w) he (mC h_)
  replace hmo:=hmo.past r (oldF w) he (mC h_)
  have hp1:=hn.got (S:=fun _=>False) r.baseLe (mN h_)
  clear r
  obtain⟨s13_0,s13_1,s13_2,s13_3,s13_4,s13_5,s13_6,s13_7,rfl⟩:=hp1.shape
  conv=>whnf
  refine cE hw (Φ:=fun _ w' v w2=>RatC w2 (Nw (fun _=>False) w' w2) v (((sqn:Int):Rat))) (fun ρ w' r=>rWholeAll_c sqn w' (by omega) (by omega)) ?_
  rintro ρ wa14 v14 wb14 iv14 r he hw h_ hn
  replace hss:=hss.past r (oldF w) he (mC h_)
  replace hmo:=hmo.past r (oldF w) he (mC h_)
  replace hp1:=hp1.past r (oldF w) he (mC h_)
  have hp2:=hn.got (S:=fun _=>False) r.baseLe (mN h_)
  clear r
  obtain⟨s14_0,s14_1,s14_2,s14_3,s14_4,s14_5,s14_6,s14_7,rfl⟩:=hp2.shape
  conv=>whnf
  refine cE hw (Φ:=fun _ w' v w2=>RatC w2 (Nw (fun _=>False) w' w2) v (limF sqn stn*limF sqn stn*((sqn:Int):Rat))) (fun ρ w' r=>rMul_c (Rel.old r (oldF w)) ((hp1.rel r (oldF w)).l (by omega)) ((hp2.rel r (oldF w)).l (by omega))) ?_
  rintro ρ wa15 v15 wb15 iv15 r he hw h_ hn
  replace hss:=hss.past r (oldF w) he (mC h_)
  replace hmo:=hmo.past r (oldF w) he (mC h_)
  clear hp1
  clear hp2
  have hp3:=hn.got (S:=fun _=>False) r.baseLe (mN h_)
  clear r
  obtain⟨s15_0,s15_1,s15_2,s15_3,s15_4,s15_5,s15_6,s15_7,rfl⟩:=hp3.shape
  conv=>whnf
  refine cE hw (Φ:=fun _ w' v w2=>v= .int .i64 (rs (limF sqn stn*limF sqn stn*((sqn:Int):Rat)-((stn:Int):Rat)*((stn:Int):Rat)))) (fun ρ w' r=>rCmp_c (Rel.old r (oldF w)) ((hp3.rel r (oldF w)).l (by omega)) ((hss.rel r (oldF w)).l (by omega))) ?_
  rintro ρ wa16 v16 wb16 iv16 r he hw h_ rfl
  replace hss:=hss.past r (oldF w) he (mC h_)
  replace hmo:=hmo.past r (oldF w) he (mC h_)
  clear hp3
  clear r
  obtain⟨cl,hcl⟩:∃c,rs (limF sqn stn*limF sqn stn*((sqn:Int):Rat)-((stn:Int):Rat)*((stn:Int):Rat))=c:=⟨_,rfl⟩
  rw[hcl]
  conv=>whnf
  have hcl2:¬0<cl:=by rw[←hcl,rs_sub_pos,Rat.not_lt];exact hlo
  refine BrS.mk (fun hd=>absurd (of_decide_eq_true hd) hcl2) (fun _=>?_)
  conv=>whnf
  refine cE hw (Φ:=fun _ w' v w2=>RatC w2 (Nw (fun _=>False) w' w2) v ((limF sqn stn+Rat.divInt 1 1000)*(limF sqn stn+Rat.divInt 1 1000))) (fun ρ w' r=>rMul_c (Rel.old r (oldF w)) ((hmo.rel r (oldF w)).l (by omega)) ((hmo.rel r (oldF w)).l (by omega))) ?_
  rintro ρ wa17 v17 wb17 iv17 r he hw h_ hn
  replace hss:=hss.past r (oldF w) he (mC h_)
  clear hmo
  have hp1:=hn.got (S:=fun _=>False) r.baseLe (mN h_)
  clear r
  obtain⟨s17_0,s17_1,s17_2,s17_3,s17_4,s17_5,s17_6,s17_7,rfl⟩:=hp1.shape
  conv=>whnf
  refine cE hw (Φ:=fun _ w' v w2=>RatC w2 (Nw (fun _=>False) w' w2) v (((sqn:Int):Rat))) (fun ρ w' r=>rWholeAll_c sqn w' (by omega) (by omega)) ?_
  rintro ρ wa18 v18 wb18 iv18 r he hw h_ hn
  replace hss:=hss.past r (oldF w) he (mC h_)
  replace hp1:=hp1.past r (oldF w) he (mC h_)
  have hp2:=hn.got (S:=fun _=>False) r.baseLe (mN h_)
  clear r
  obtain⟨s18_0,s18_1,s18_2,s18_3,s18_4,s18_5,s18_6,s18_7,rfl⟩:=hp2.shape
  conv=>whnf
  refine cE hw (Φ:=fun _ w' v w2=>RatC w2 (Nw (fun _=>False) w' w2) v ((limF sqn stn+Rat.divInt 1 1000)*(limF sqn stn+Rat.divInt 1 1000)*((sqn:Int):Rat))) (fun ρ w' r=>rMul_c (Rel.old r (oldF w)) ((hp1.rel r (oldF w)).l (by omega)) ((hp2.rel r (oldF w)).l (by omega))) ?_
  rintro ρ wa19 v19 wb19 iv19 r he hw h_ hn
  replace hss:=hss.past r (oldF w) he (mC h_)
  clear hp1
  clear hp2
  have hp3:=hn.got (S:=fun _=>False) r.baseLe (mN h_)
  clear r
  obtain⟨s19_0,s19_1,s19_2,s19_3,s19_4,s19_5,s19_6,s19_7,rfl⟩:=hp3.shape
  conv=>whnf
  refine cE hw (Φ:=fun _ w' v w2=>v= .int .i64 (rs ((limF sqn stn+Rat.divInt 1 1000)*(limF sqn stn+Rat.divInt 1 1000)*((sqn:Int):Rat)-((stn:Int):Rat)*((stn:Int):Rat)))) (fun ρ w' r=>rCmp_c (Rel.old r (oldF w)) ((hp3.rel r (oldF w)).l (by omega)) ((hss.rel r (oldF w)).l (by omega))) ?_
  rintro ρ wa20 v20 wb20 iv20 r he hw h_ rfl
  replace hss:=hss.past r (oldF w) he (mC h_)
  clear hp3
  clear r
  obtain⟨ch,hch⟩:∃c,rs ((limF sqn stn+Rat.divInt 1 1000)*(limF sqn stn+Rat.divInt 1 1000)*((sqn:Int):Rat)-((stn:Int):Rat)*((stn:Int):Rat))=c:=⟨_,rfl⟩
  rw[hch]
  conv=>whnf
  have hch2:¬ch≤0:=by rw[←hch,rs_le_iff,Rat.not_le];exact hhi
  clear hss
  refine BrS.mk (fun hd=>absurd (of_decide_eq_true hd) hch2) (fun _=>?_)
  by_cases h1:errF fv=0
  ·obtain⟨e2,he2⟩:∃e,errLim fv.bars.length st t=e:=⟨_,rfl⟩
   by_cases h2:e2=0
   ·subst h2
    conv=>whnf
    refine callE_S (cE hw (Φ:=fun _ w' v w2=>∃vr,v= .tuple #[vr,.int .i64 0]∧RngsC w2 (Nw (fun _=>False) w' w2) vr (rngTo fv st t fv.bars.length)) (fun ρ w' r=>(sLimits_c (S:=S) (e0:=0) (fun g hg=>by have:=hS g hg;have:=r.baseLe;omega) (hR.keep fun g hg=>(hw.tr r.bel).block g (hS g hg)) (ZsR.keep hs fun g hg=>(hw.tr r.bel).block g (hS g hg)) hm (fun hle=>StepsL.keep (hst hle) fun g hg=>(hw.tr r.bel).block g (hS g hg)) (by rw[if_neg (by rw[h1];decide),he2])).mono fun _ _ ⟨v2,e1,e2,e3⟩=>⟨v2,e1,e2,e3.elim (fun h=>absurd rfl h.1) fun h=>h.2⟩) ?_)
    rintro ρ wa21 v21 wb21 iv21 r he hw h_ ⟨vr1,rfl,hn⟩
    have hr1:=RngsC.got (S:=fun _=>False) hn r.baseLe (mN h_)
    clear r
    clear hn
    obtain⟨ar1,cr1,rfl,-,-⟩:=ListK.shape hr1
    conv=>whnf
    refine callE_S (cE hw (Φ:=fun _ w' v w2=>v= .int .i64 0) (fun ρ w' r=>(rCheck_c (fun g hg=>by have:=hS g hg;have:=r.baseLe;omega) (hR.keep fun g hg=>(hw.tr r.bel).block g (hS g hg))).mono fun _ _ ⟨v2,e1,e2,e3⟩=>⟨v2,e1,e2,by rw[e3,h1]⟩) ?_)
    rintro ρ wa22 v22 wb22 iv22 r he hw h_ rfl
    replace hr1:=RngsC.past hr1 r (oldF w) he (mC h_)
    clear r
    conv=>whnf
    refine callE_S (cE hw (Φ:=fun _ w' v w2=>∃vr,v= .tuple #[vr,.int .i64 0]∧RngsC w2 (Nw (fun _=>False) w' w2) vr (rngTo fv st t fv.bars.length)) (fun ρ w' r=>(rLimits_c (S:=S) (e0:=0) (fun g hg=>by have:=hS g hg;have:=r.baseLe;omega) (hR.keep fun g hg=>(hw.tr r.bel).block g (hS g hg)) h1 (ZsR.keep hs fun g hg=>(hw.tr r.bel).block g (hS g hg)) hm (fun hle=>StepsL.keep (hst hle) fun g hg=>(hw.tr r.bel).block g (hS g hg)) he2.symm).mono fun _ _ ⟨v2,e1,e2,e3⟩=>⟨v2,e1,e2,e3.elim (fun h=>absurd rfl h.1) fun h=>h.2⟩) ?_)
    rintro ρ wa23 v23 wb23 iv23 r he hw h_ ⟨vr2,rfl,hn⟩
    replace hr1:=RngsC.past hr1 r (oldF w) he (mC h_)
    have hr2:=RngsC.got (S:=fun _=>False) hn r.baseLe (mN h_)
    clear r
    clear hn
    obtain⟨ar2,cr2,rfl,-,-⟩:=ListK.shape hr2
    conv=>whnf
    refine callE_S (cE hw (Φ:=fun _ w' v w2=>v= .bool true) (fun ρ w' r=>sameRanges_c (S:=Cv (fun _=>False) w.heap.size iv23) (Rel.old r (oldF w)) (RngsC.rel hr1 r (oldF w)) (RngsC.rel hr2 r (oldF w))) ?_)
    rintro ρ wa24 v24 wb24 iv24 r he hw h_ rfl
    clear hr1
    clear hr2
    clear r
    conv=>whnf
    refine callE_S (cE hw (Φ:=fun _ w' v w2=>v= .bool true) (fun ρ w' r=>awake5_c w') ?_)
    rintro ρ wa25 v25 wb25 iv25 r he hw h_ rfl
    clear r
    conv=>whnf
    intro ρe we re
    exact⟨_,rfl,hw.tr re.bel,rfl⟩
   conv=>whnf
   refine callE_S (cE hw (Φ:=fun _ w' v w2=>v= .tuple #[.slice none 0 0,.int .i64 e2]) (fun ρ w' r=>(sLimits_c (S:=S) (e0:=e2) (fun g hg=>by have:=hS g hg;have:=r.baseLe;omega) (hR.keep fun g hg=>(hw.tr r.bel).block g (hS g hg)) (ZsR.keep hs fun g hg=>(hw.tr r.bel).block g (hS g hg)) hm (fun hle=>StepsL.keep (hst hle) fun g hg=>(hw.tr r.bel).block g (hS g hg)) (by rw[if_neg (by rw[h1];decide),he2])).mono fun _ _ ⟨v2,e1,e2,e3⟩=>⟨v2,e1,e2,e3.elim (fun h=>h.2) fun h=>absurd h.1 h2⟩) ?_)
   rintro ρ wa21 v21 wb21 iv21 r he hw h_ rfl
   clear r
   conv=>whnf
   refine callE_S (cE hw (Φ:=fun _ w' v w2=>v= .int .i64 0) (fun ρ w' r=>(rCheck_c (fun g hg=>by have:=hS g hg;have:=r.baseLe;omega) (hR.keep fun g hg=>(hw.tr r.bel).block g (hS g hg))).mono fun _ _ ⟨v2,e1,e2,e3⟩=>⟨v2,e1,e2,by rw[e3,h1]⟩) ?_)
   rintro ρ wa22 v22 wb22 iv22 r he hw h_ rfl
   clear r
   conv=>whnf
   refine callE_S (cE hw (Φ:=fun _ w' v w2=>v= .tuple #[.slice none 0 0,.int .i64 e2]) (fun ρ w' r=>(rLimits_c (S:=S) (e0:=e2) (fun g hg=>by have:=hS g hg;have:=r.baseLe;omega) (hR.keep fun g hg=>(hw.tr r.bel).block g (hS g hg)) h1 (ZsR.keep hs fun g hg=>(hw.tr r.bel).block g (hS g hg)) hm (fun hle=>StepsL.keep (hst hle) fun g hg=>(hw.tr r.bel).block g (hS g hg)) he2.symm).mono fun _ _ ⟨v2,e1,e2,e3⟩=>⟨v2,e1,e2,e3.elim (fun h=>h.2) fun h=>absurd h.1 h2⟩) ?_)
   rintro ρ wa23 v23 wb23 iv23 r he hw h_ rfl
   clear r
   conv=>whnf
   refine callE_S (cE hw (Φ:=fun _ w' v w2=>v= .bool true) (fun ρ w' r=>sameRanges_c (S:=fun _=>False) (l:=[]) (oldF w') RngsC.nilC RngsC.nilC) ?_)
   rintro ρ wa24 v24 wb24 iv24 r he hw h_ rfl
   clear r
   conv=>whnf
   refine BrS.mk (fun _=>?_) (fun hd=>by simp at hd)
   conv=>whnf
   refine BrS.mk (fun hd=>absurd (by simpa using hd) h2) (fun _=>?_)
   conv=>whnf
   refine callE_S (cE hw (Φ:=fun _ w' v w2=>v= .bool true) (fun ρ w' r=>awake5_c w') ?_)
   rintro ρ wa25 v25 wb25 iv25 r he hw h_ rfl
   clear r
   conv=>whnf
   intro ρe we re
   exact⟨_,rfl,hw.tr re.bel,rfl⟩
  obtain⟨e2,he2⟩:∃e,errF fv=e:=⟨_,rfl⟩
  have h2:e2≠0:=by rw[←he2];exact h1
  conv=>whnf
  refine callE_S (cE hw (Φ:=fun _ w' v w2=>v= .tuple #[.slice none 0 0,.int .i64 e2]) (fun ρ w' r=>(sLimits_c (S:=S) (e0:=e2) (fun g hg=>by have:=hS g hg;have:=r.baseLe;omega) (hR.keep fun g hg=>(hw.tr r.bel).block g (hS g hg)) (ZsR.keep hs fun g hg=>(hw.tr r.bel).block g (hS g hg)) hm (fun hle=>StepsL.keep (hst hle) fun g hg=>(hw.tr r.bel).block g (hS g hg)) (by rw[if_pos h1,he2])).mono fun _ _ ⟨v2,e1,e2,e3⟩=>⟨v2,e1,e2,e3.elim (fun h=>h.2) fun h=>absurd h.1 h2⟩) ?_)
  rintro ρ wa21 v21 wb21 iv21 r he hw h_ rfl
  clear r
  conv=>whnf
  refine callE_S (cE hw (Φ:=fun _ w' v w2=>v= .int .i64 e2) (fun ρ w' r=>(rCheck_c (fun g hg=>by have:=hS g hg;have:=r.baseLe;omega) (hR.keep fun g hg=>(hw.tr r.bel).block g (hS g hg))).mono fun _ _ ⟨v2,e1,e2,e3⟩=>⟨v2,e1,e2,by rw[e3,he2]⟩) ?_)
  rintro ρ wa22 v22 wb22 iv22 r he hw h_ rfl
  clear r
  conv=>whnf
  refine BrS.mk (fun hd=>absurd (by simpa using hd) h2) (fun _=>?_)
  conv=>whnf
  refine BrS.mk (fun _=>?_) (fun hd=>by simp at hd)
  conv=>whnf
  refine BrS.mk (fun hd=>absurd (by simpa using hd) h2) (fun _=>?_)
  conv=>whnf
  refine callE_S (cE hw (Φ:=fun _ w' v w2=>v= .bool true) (fun ρ w' r=>awake5_c w') ?_)
  rintro ρ wa23 v23 wb23 iv23 r he hw h_ rfl
  clear r
  conv=>whnf
  intro ρe we re
  exact⟨_,rfl,hw.tr re.bel,rfl⟩
 conv=>whnf
 refine callE_S (cE hw (Φ:=fun _ w' v w2=>v= .tuple #[ratNil,.int .i64 2]) (fun ρ w' r=>(sLimitAll_c sq (10) w').mono fun _ _ ⟨v2,e1,e2,e3⟩=>⟨v2,e1,e2,e3.elim (fun h=>h.2) fun h=>absurd h.1 hL⟩) ?_)
 rintro ρ wa3 v3 wb3 iv3 r he hw h_ rfl
 clear r
 conv=>whnf
 refine callE_S (cE hw (Φ:=fun _ w' v w2=>v= .tuple #[ratNil,.int .i64 2]) (fun ρ w' r=>(rLimitAll_c sq (10) w').mono fun _ _ ⟨v2,e1,e2,e3⟩=>⟨v2,e1,e2,e3.elim (fun h=>h.2) fun h=>absurd h.1 hL⟩) ?_)
 rintro ρ wa4 v4 wb4 iv4 r he hw h_ rfl
 clear r
 conv=>whnf
 refine callE_S (cE hw (Φ:=fun _ w' v w2=>v= .bool true) (fun ρ w' r=>(sameD_c (S:=fun _=>False) (oldF w') (RatD.nil w' _) (RatD.nil w' _)).mono fun _ _ ⟨v2,e1,e2,e3⟩=>⟨v2,e1,e2,by rw[e3];rfl⟩) ?_)
 rintro ρ wa5 v5 wb5 iv5 r he hw h_ rfl
 clear r
 by_cases h1:errF fv=0
 ·obtain⟨e2,he2⟩:∃e,errLim fv.bars.length st t=e:=⟨_,rfl⟩
  by_cases h2:e2=0
  ·subst h2
   conv=>whnf
   refine callE_S (cE hw (Φ:=fun _ w' v w2=>∃vr,v= .tuple #[vr,.int .i64 0]∧RngsC w2 (Nw (fun _=>False) w' w2) vr (rngTo fv st t fv.bars.length)) (fun ρ w' r=>(sLimits_c (S:=S) (e0:=0) (fun g hg=>by have:=hS g hg;have:=r.baseLe;omega) (hR.keep fun g hg=>(hw.tr r.bel).block g (hS g hg)) (ZsR.keep hs fun g hg=>(hw.tr r.bel).block g (hS g hg)) hm (fun hle=>StepsL.keep (hst hle) fun g hg=>(hw.tr r.bel).block g (hS g hg)) (by rw[if_neg (by rw[h1];decide),he2])).mono fun _ _ ⟨v2,e1,e2,e3⟩=>⟨v2,e1,e2,e3.elim (fun h=>absurd rfl h.1) fun h=>h.2⟩) ?_)
   rintro ρ wa6 v6 wb6 iv6 r he hw h_ ⟨vr1,rfl,hn⟩
   have hr1:=RngsC.got (S:=fun _=>False) hn r.baseLe (mN h_)
   clear r
   clear hn
   obtain⟨ar1,cr1,rfl,-,-⟩:=ListK.shape hr1
   conv=>whnf
   refine callE_S (cE hw (Φ:=fun _ w' v w2=>v= .int .i64 0) (fun ρ w' r=>(rCheck_c (fun g hg=>by have:=hS g hg;have:=r.baseLe;omega) (hR.keep fun g hg=>(hw.tr r.bel).block g (hS g hg))).mono fun _ _ ⟨v2,e1,e2,e3⟩=>⟨v2,e1,e2,by rw[e3,h1]⟩) ?_)
   rintro ρ wa7 v7 wb7 iv7 r he hw h_ rfl
   replace hr1:=RngsC.past hr1 r (oldF w) he (mC h_)
   clear r
   conv=>whnf
   refine callE_S (cE hw (Φ:=fun _ w' v w2=>∃vr,v= .tuple #[vr,.int .i64 0]∧RngsC w2 (Nw (fun _=>False) w' w2) vr (rngTo fv st t fv.bars.length)) (fun ρ w' r=>(rLimits_c (S:=S) (e0:=0) (fun g hg=>by have:=hS g hg;have:=r.baseLe;omega) (hR.keep fun g hg=>(hw.tr r.bel).block g (hS g hg)) h1 (ZsR.keep hs fun g hg=>(hw.tr r.bel).block g (hS g hg)) hm (fun hle=>StepsL.keep (hst hle) fun g hg=>(hw.tr r.bel).block g (hS g hg)) he2.symm).mono fun _ _ ⟨v2,e1,e2,e3⟩=>⟨v2,e1,e2,e3.elim (fun h=>absurd rfl h.1) fun h=>h.2⟩) ?_)
   rintro ρ wa8 v8 wb8 iv8 r he hw h_ ⟨vr2,rfl,hn⟩
   replace hr1:=RngsC.past hr1 r (oldF w) he (mC h_)
   have hr2:=RngsC.got (S:=fun _=>False) hn r.baseLe (mN h_)
   clear r
   clear hn
   obtain⟨ar2,cr2,rfl,-,-⟩:=ListK.shape hr2
   conv=>whnf
   refine callE_S (cE hw (Φ:=fun _ w' v w2=>v= .bool true) (fun ρ w' r=>sameRanges_c (S:=Cv (fun _=>False) w.heap.size iv8) (Rel.old r (oldF w)) (RngsC.rel hr1 r (oldF w)) (RngsC.rel hr2 r (oldF w))) ?_)
   rintro ρ wa9 v9 wb9 iv9 r he hw h_ rfl
   clear hr1
   clear hr2
   clear r
   conv=>whnf
   refine callE_S (cE hw (Φ:=fun _ w' v w2=>v= .bool true) (fun ρ w' r=>awake5_c w') ?_)
   rintro ρ wa10 v10 wb10 iv10 r he hw h_ rfl
   clear r
   conv=>whnf
   intro ρe we re
   exact⟨_,rfl,hw.tr re.bel,rfl⟩
  conv=>whnf
  refine callE_S (cE hw (Φ:=fun _ w' v w2=>v= .tuple #[.slice none 0 0,.int .i64 e2]) (fun ρ w' r=>(sLimits_c (S:=S) (e0:=e2) (fun g hg=>by have:=hS g hg;have:=r.baseLe;omega) (hR.keep fun g hg=>(hw.tr r.bel).block g (hS g hg)) (ZsR.keep hs fun g hg=>(hw.tr r.bel).block g (hS g hg)) hm (fun hle=>StepsL.keep (hst hle) fun g hg=>(hw.tr r.bel).block g (hS g hg)) (by rw[if_neg (by rw[h1];decide),he2])).mono fun _ _ ⟨v2,e1,e2,e3⟩=>⟨v2,e1,e2,e3.elim (fun h=>h.2) fun h=>absurd h.1 h2⟩) ?_)
  rintro ρ wa6 v6 wb6 iv6 r he hw h_ rfl
  clear r
  conv=>whnf
  refine callE_S (cE hw (Φ:=fun _ w' v w2=>v= .int .i64 0) (fun ρ w' r=>(rCheck_c (fun g hg=>by have:=hS g hg;have:=r.baseLe;omega) (hR.keep fun g hg=>(hw.tr r.bel).block g (hS g hg))).mono fun _ _ ⟨v2,e1,e2,e3⟩=>⟨v2,e1,e2,by rw[e3,h1]⟩) ?_)
  rintro ρ wa7 v7 wb7 iv7 r he hw h_ rfl
  clear r
  conv=>whnf
  refine callE_S (cE hw (Φ:=fun _ w' v w2=>v= .tuple #[.slice none 0 0,.int .i64 e2]) (fun ρ w' r=>(rLimits_c (S:=S) (e0:=e2) (fun g hg=>by have:=hS g hg;have:=r.baseLe;omega) (hR.keep fun g hg=>(hw.tr r.bel).block g (hS g hg)) h1 (ZsR.keep hs fun g hg=>(hw.tr r.bel).block g (hS g hg)) hm (fun hle=>StepsL.keep (hst hle) fun g hg=>(hw.tr r.bel).block g (hS g hg)) he2.symm).mono fun _ _ ⟨v2,e1,e2,e3⟩=>⟨v2,e1,e2,e3.elim (fun h=>h.2) fun h=>absurd h.1 h2⟩) ?_)
  rintro ρ wa8 v8 wb8 iv8 r he hw h_ rfl
  clear r
  conv=>whnf
  refine callE_S (cE hw (Φ:=fun _ w' v w2=>v= .bool true) (fun ρ w' r=>sameRanges_c (S:=fun _=>False) (l:=[]) (oldF w') RngsC.nilC RngsC.nilC) ?_)
  rintro ρ wa9 v9 wb9 iv9 r he hw h_ rfl
  clear r
  conv=>whnf
  refine BrS.mk (fun _=>?_) (fun hd=>by simp at hd)
  conv=>whnf
  refine BrS.mk (fun hd=>absurd (by simpa using hd) h2) (fun _=>?_)
  conv=>whnf
  refine callE_S (cE hw (Φ:=fun _ w' v w2=>v= .bool true) (fun ρ w' r=>awake5_c w') ?_)
  rintro ρ wa10 v10 wb10 iv10 r he hw h_ rfl
  clear r
  conv=>whnf
  intro ρe we re
  exact⟨_,rfl,hw.tr re.bel,rfl⟩
 obtain⟨e2,he2⟩:∃e,errF fv=e:=⟨_,rfl⟩
 have h2:e2≠0:=by rw[←he2];exact h1
 conv=>whnf
 refine callE_S (cE hw (Φ:=fun _ w' v w2=>v= .tuple #[.slice none 0 0,.int .i64 e2]) (fun ρ w' r=>(sLimits_c (S:=S) (e0:=e2) (fun g hg=>by have:=hS g hg;have:=r.baseLe;omega) (hR.keep fun g hg=>(hw.tr r.bel).block g (hS g hg)) (ZsR.keep hs fun g hg=>(hw.tr r.bel).block g (hS g hg)) hm (fun hle=>StepsL.keep (hst hle) fun g hg=>(hw.tr r.bel).block g (hS g hg)) (by rw[if_pos h1,he2])).mono fun _ _ ⟨v2,e1,e2,e3⟩=>⟨v2,e1,e2,e3.elim (fun h=>h.2) fun h=>absurd h.1 h2⟩) ?_)
 rintro ρ wa6 v6 wb6 iv6 r he hw h_ rfl
 clear r
 conv=>whnf
 refine callE_S (cE hw (Φ:=fun _ w' v w2=>v= .int .i64 e2) (fun ρ w' r=>(rCheck_c (fun g hg=>by have:=hS g hg;have:=r.baseLe;omega) (hR.keep fun g hg=>(hw.tr r.bel).block g (hS g hg))).mono fun _ _ ⟨v2,e1,e2,e3⟩=>⟨v2,e1,e2,by rw[e3,he2]⟩) ?_)
 rintro ρ wa7 v7 wb7 iv7 r he hw h_ rfl
 clear r
 conv=>whnf
 refine BrS.mk (fun hd=>absurd (by simpa using hd) h2) (fun _=>?_)
 conv=>whnf
 refine BrS.mk (fun _=>?_) (fun hd=>by simp at hd)
 conv=>whnf
 refine BrS.mk (fun hd=>absurd (by simpa using hd) h2) (fun _=>?_)
 conv=>whnf
 refine callE_S (cE hw (Φ:=fun _ w' v w2=>v= .bool true) (fun ρ w' r=>awake5_c w') ?_)
 rintro ρ wa8 v8 wb8 iv8 r he hw h_ rfl
 clear r
 conv=>whnf
 intro ρe we re
 exact⟨_,rfl,hw.tr re.bel,rfl⟩
end Go.Ex
