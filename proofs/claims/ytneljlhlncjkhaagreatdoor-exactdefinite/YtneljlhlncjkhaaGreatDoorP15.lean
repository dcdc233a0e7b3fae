/- A part of the proof: texts X103 to X94. Each tells its conditions in its theorems. -/
import Derived.Test.YtneljlhlncjkhaaGreatDoorP11
import Derived.Test.YtneljlhlncjkhaaGreatDoorP13
import Derived.Test.YtneljlhlncjkhaaGreatDoorP14
/- Leading minors of package exact. Printed by program. No condition but sizes. -/
namespace Go.Ex
open Go Go.Sx Go.Proofs

end Go.Ex
namespace Go.Sx
open Go Go.Ex Go.Proofs
theorem Sub.trans{B nx:Nat}{l:Env}{ρ:Nat→Sx.Val}{w':World}{t t2:LoopI}(h:Sub B l nx ρ w' t)(k:∀ρ1,Rel t.H t.nx t.iv B t.w ρ1 w'→Sub B t.l t.nx ρ1 w' t2):Sub B l nx ρ w' t2:=by
 obtain⟨ρ1,r1,e1⟩:=h
 obtain⟨ρ2,r2,e2⟩:=k ρ1 r1
 exact⟨ρ2,r2,fun u v hv=>by
  obtain⟨s,v1,g1,d1⟩:=e2 u v hv
  obtain⟨_,v0,g0,d0⟩:=e1 u v1 g1
  exact⟨s,v0,g0,d0.trans d1⟩⟩
end Go.Sx
namespace Go.Ex
open Go Go.Sx Go.Proofs
section
variable{S:Nat→Prop}{H:Hp}{nx gm R:Nat}{iv iv':Iv}{B:Nat}{w w' w2:World}{ρ:Nat→Sx.Val}{rv:List Value}{css:List (List Value)}{qs:List Rat}
theorem Fr.relL(h:Fr w (Lm' S B iv gm R rv) css qs)(r:Rel H nx iv B w ρ w')(hS:∀g,S g→g<B):Fr w' (Lm' S B iv gm R rv) css qs:=h.keep fun _ hg=>Rel.same r hS hg.1
theorem Fr.pastL(h:Fr w (Lm' S B iv gm R rv) css qs)(r:Rel H nx iv B w ρ w')(hS:∀g,S g→g<B)(he:Ext w' w2)(hm:∀p,p∈iv→p∈iv'):Fr w2 (Lm' S B iv' gm R rv) css qs:=
 ((h.relL r hS).keep fun g hg=>he.block g (Rel.old r hS g hg.1)).weak fun _ hg=>⟨hg.1.mono hm,hg.2⟩
theorem Fr.push(h:Fr w S css qs){cs:List Value}{q:Rat}(hq:Frac4 w S cs q):Fr w S (css++[cs]) (qs++[q]):=by
 refine⟨by simp[h.1],fun j c x h1 h2=>?_⟩
 rcases Nat.lt_or_ge j css.length with hj|hj
 ·rw[List.getElem?_append_left hj]at h1
  rw[List.getElem?_append_left (by rw[←h.1];exact hj)]at h2
  exact h.2 j c x h1 h2
 ·rw[List.getElem?_append_right hj]at h1
  rw[List.getElem?_append_right (by rw[←h.1];exact hj),←h.1]at h2
  have:j-css.length=0:=by have:=(List.getElem?_eq_some_iff.1 h1).1;simp at this;omega
  rw[this]at h1 h2
  injection h1 with h1;injection h2 with h2
  subst h1 h2
  exact hq
end
theorem minors_c{S:Nat→Prop}{w:World}{vm:Value}{M:List (List Rat)}{h:Nat}(hS0:Old S w)(hM0:MatR w S vm M)(hrow:∀r∈M,r.length=M.length)(hR:M.length≤1000)(hht:Ht M h)(h2:2≤h)(hbd:4^M.length*h≤500000000):
  Con PG N.exact_minors #[vm] w (Ret w fun v' w2=>RowG w2 (Nw (fun _=>False) w w2) v' (minorsF M)):=by
 have hw:Bel w.heap.size w w:=Bel.refl
 have hS:=hS0
 obtain⟨am,cm,rfl,hcm,hmm⟩:=SlicesR.shape hM0
 obtain⟨R,hRe⟩:∃R,R=M.length:=⟨_,rfl⟩
 rw[←hRe]at hcm hmm hrow hR hbd hM0 ⊢
 unfold maxLen at hmm
 refine in_exact_minors (by simp) ?_
 conv=>whnf
 refine⟨R,R,rfl,rfl,Nat.le_refl _,by omega,by omega,?_⟩
 conv=>whnf
 refine⟨List Value×World×Iv,fun z=>⟨[(0,.o (.v (.slice am R cm))),(3,.o (.v (.slice none 0 0))),(4,.o (.s 0 0 R R)),(14,.o (.v (.int .i64 R))),(15,.o (.v (.int .i64 (z.1.length:Nat))))],[(0,.arr T.row (z.1++List.replicate (R-z.1.length) (.slice none 0 0)))],1,z.2.2,z.2.1⟩,fun z=>R-z.1.length,
  fun z=>z.1.length≤R∧Bel w.heap.size w z.2.1∧RowsX z.2.1 S w.heap.size z.2.2 z.1 R (M.take z.1.length)∧(∀u∈z.1,u.oneCell'=true),?_,?_⟩
 ·intro ρ w' r
  exact⟨([],w',[]),⟨Nat.zero_le _,hw.tr r.bel,by simpa using RowsX.nil _ _ _ _ _,by simp⟩,Sub.gen [] r ⟨rfl,trivial⟩ ⟨rfl,rfl,rfl,rfl,rfl,trivial⟩ (by simp[ScH,Blk.scopd,At.sc]) (by simp[ScE,SV.sc,At.sc]) (by rfl) (fun lo hi h=>h)⟩
 clear hw
 rintro⟨rv,w1,iv⟩ ⟨hi,hw,hF,h1c⟩
 dsimp only at hi hw hF h1c ⊢
 conv=>whnf
 refine BrS.mk (fun hib=>?_) (fun hib=>?_)
 ·have hib:rv.length<R:=by simpa using hib
  obtain⟨ra,hra⟩:∃r,M[rv.length]? =some r:=⟨_,List.getElem?_eq_getElem (by omega)⟩
  have hral:=hrow ra (List.mem_of_getElem? hra)
  obtain⟨adx,ux,rfl,hFx,hx1,hx2⟩:=SlicesR.load hM0 hra
  obtain⟨aux,cux,rfl,hcux,-⟩:=hFx.shape
  conv=>whnf
  refine⟨adx,rfl,⟨by omega,by omega⟩,?_⟩
  conv=>whnf
  refine⟨.slice aux ra.length cux,fun ρ w' r=>?_,?_⟩
  ·rw[Int.toNat_natCast,cell_of_heap (w:=w) (w2:=w') (by rw[addB];exact(hw.tr r.bel).block _ (hS _ hx1))]
   exact hx2
  conv=>whnf
  refine callE_S (callE_con (Φ:=fun _ w' v w2=>RowW w2 S v R ra∧∀g,v.ownBlock=some g→w'.heap.size≤g∧g<w2.heap.size) (fun ρ w' r=>?_) ?_)
  ·have:=cloneR_c (w:=w') (fun g hg=>by have:=hS g hg;have:=r.baseLe;omega) (fun g hg=>by have:=hS g hg;have:=r.baseLe;omega) (hFx.keep fun g hg=>(hw.tr r.bel).block g (hS g (hg.elim id id))) (by omega) (by omega)
   rw[hral]at this ⊢
   exact this
  rintro ρ wa1 v1 wb1 r he hb ⟨hn1,hn2⟩
  have hF2:=hF.snoc r hS he (hn1.weak fun g hg=>⟨.inl hg,fun e=>by have:=hS g hg;have:=hn2 g e;have:=r.baseLe;omega,fun⟨u,hu,e⟩=>(hF.new u hu g e).elim (fun h=>h.elim) fun h=>by have:=hS g hg;omega⟩) hn2
  rw[show M.take rv.length++[ra]=M.take (rv.length+1) by rw[List.take_add_one,hra];rfl]at hF2
  replace hw:=hw.tr hb
  obtain⟨a3,c3,rfl,-⟩:=hn1.form
  clear r he hb hn1 hn2 hF
  generalize (wa1.heap.size,wb1.heap.size)::iv=iv1 at*
  conv=>whnf
  refine⟨⟨by omega,by omega⟩,?_⟩
  conv=>whnf
  refine⟨by simp;omega,(rv++[.slice a3 R c3])++List.replicate (R-(rv.length+1)) (.slice none 0 0),?_,?_⟩
  ·have h5:R-rv.length=(R-(rv.length+1))+1:=by omega
   simp[h5,List.replicate_succ]
  conv=>whnf
  refine⟨((rv.length+1:Nat):Int),by rw[wrap64]<;>omega,?_⟩
  conv=>whnf
  intro ρ3 w3 r3
  have hl3:(rv++[Value.slice a3 R c3]).length=rv.length+1:=by simp
  refine⟨(rv++[.slice a3 R c3],w3,iv1),⟨by dsimp only;rw[hl3];exact hib,hw.tr r3.bel,by dsimp only;rw[hl3];exact hF2.rel r3 hS,fun u hu=>?_⟩,Sub.gen [] r3 ⟨by dsimp only;rw[hl3];rfl,trivial⟩ ⟨rfl,rfl,rfl,rfl,by dsimp only;rw[hl3];rfl,trivial⟩ (by simp[ScH,Blk.scopd,At.sc]) (by simp[ScE,SV.sc,At.sc]) (by rfl) (fun lo hi h=>h),by dsimp only;rw[hl3];omega⟩
  rcases List.mem_append.1 hu with hu|hu
  ·exact h1c u hu
  ·simp at hu;subst hu;rfl
 have hib:rv.length=R:=Nat.le_antisymm hi (by simpa using hib)
 rw[hib,List.take_of_length_le (by omega)]at hF
 rw[hib,Nat.sub_self,List.replicate_zero,List.append_nil]
 conv=>whnf
 refine callE_S (callE_con (Φ:=fun _ w' v w2=>FracR w2 (Nw (fun _=>False) w' w2) v ((1:Int):Rat)) (fun ρ w' r=>whole_c 1 w' (by decide) (by decide)) ?_)
 rintro ρ wa1 v1 wb1 r he hb hn
 replace hw:=hw.tr hb
 have hO:=hn.lim (rv:=rv) r fun u hu g hg=>hF.new u hu g hg
 replace hF:RowsX wb1 S w.heap.size ((wa1.heap.size,wb1.heap.size)::iv) rv R M:=hF.past r hS he fun x hx=>List.mem_cons_of_mem _ hx
 clear r he hb hn
 generalize (wa1.heap.size,wb1.heap.size)::iv=iv1 at*
 obtain⟨s1_0,s1_1,s1_2,s1_3,s1_4,s1_5,s1_6,s1_7,rfl⟩:=hO.shape
 rw[show ((1:Int):Rat)=1 by decide]at hO
 conv=>whnf
 refine⟨Nat×(Nat×List Value×List (List Rat)×Rat)×List (List Value)×((Bool×Bool)×(Option Addr×Option Addr)×(Nat×Nat×Nat×Nat))×World×Iv,fun z=>⟨[(4,.o (.v (.slice (some ⟨z.2.1.1,0,none⟩) R R))),(3,.o (.w 2 z.2.2.1.length)),(0,.o (.v (.slice am R cm))),(6,.o (.p 1 0)),(29,.o (.v (.int .i64 R))),(30,.o (.v (.int .i64 ((z.1:Nat):Int))))],[(2,.vec T.fraction 4 z.2.2.1.flatten),(1,.box T.fraction [.v (.bool z.2.2.2.1.1.1),.v (.slice z.2.2.2.1.2.1.1 z.2.2.2.1.2.2.1 z.2.2.2.1.2.2.2.1),.v (.bool z.2.2.2.1.1.2),.v (.slice z.2.2.2.1.2.1.2 z.2.2.2.1.2.2.2.2.1 z.2.2.2.1.2.2.2.2.2)])],3,z.2.2.2.2.2,z.2.2.2.2.1⟩,fun z=>R-z.1,
  fun z=>z.1≤R∧Bel w.heap.size w z.2.2.2.2.1∧MatO z.2.2.2.2.1 S w.heap.size z.2.2.2.2.2 z.2.1.1 R R z.2.1.2.1 z.2.1.2.2.1∧FracR z.2.2.2.2.1 (Lm' (fun _=>False) w.heap.size z.2.2.2.2.2 z.2.1.1 R z.2.1.2.1) (.agg #[.bool z.2.2.2.1.1.1,.slice z.2.2.2.1.2.1.1 z.2.2.2.1.2.2.1 z.2.2.2.1.2.2.2.1,.bool z.2.2.2.1.1.2,.slice z.2.2.2.1.2.1.2 z.2.2.2.1.2.2.2.2.1 z.2.2.2.1.2.2.2.2.2]) z.2.1.2.2.2∧Fr z.2.2.2.2.1 (Lm' (fun _=>False) w.heap.size z.2.2.2.2.2 z.2.1.1 R z.2.1.2.1) z.2.2.1 ((minorsF M).take z.1)∧Len R z.2.1.2.2.1∧Ht z.2.1.2.2.1 (4^z.1*h)∧rl z.2.1.2.2.2≤4^z.1*h∧∀k,z.1≤k→k≤R→z.2.1.2.2.2*subD z.2.1.2.2.1 z.1 k=subD M 0 k,?_,?_⟩
 ·intro ρ w' r
  have hnil:=r.nn 0 _ rfl (by intros;simp) (by simp)
  have hG:=hF.give r hS (id:=0) rfl hnil (by unfold maxLen;omega) h1c
  rw[hib]at hG
  refine⟨(0,((ρ 0).g,rv,M,1),[],((s1_0,s1_4),(s1_1,s1_5),(s1_2,s1_3,s1_6,s1_7)),w',((ρ 0).g,(ρ 0).g+1)::iv1),⟨Nat.zero_le _,hw.tr r.bel,hG,(hO.keep fun g hg=>Rel.same r (oldF w) hg.1).weak fun g hg=>⟨hg.1.mono fun p hp=>List.mem_cons_of_mem _ hp,fun hm=>?_⟩,by simp[Fr],hrow,by rw[Nat.pow_zero,Nat.one_mul];exact hht,by rw[rl_one,Nat.pow_zero];omega,fun k _ _=>Rat.one_mul _⟩,
   Sub.trans (Sub.give (tl:=[(3,.o (.v (.slice none 0 0))),(0,.o (.v (.slice am R cm))),(6,.o (.p 1 0)),(29,.o (.v (.int .i64 R))),(30,.o (.v (.int .i64 ((0:Nat):Int))))]) (tH:=[(1,.box T.fraction [.v (.bool s1_0),.v (.slice s1_1 s1_2 s1_3),.v (.bool s1_4),.v (.slice s1_5 s1_6 s1_7)])]) r (id:=0) (t:=4) rfl rfl ⟨rfl,trivial⟩ rfl ⟨rfl,rfl,rfl,rfl,rfl,trivial⟩ (by simp[ScE,SV.sc,At.sc])) fun ρ1 r1=>
    Sub.nil 3 T.fraction 4 rfl (by simp[ScE,SV.sc,At.sc]) r1 fun ρ2 r2=>Sub.gen [] r2 ⟨rfl,rfl,trivial⟩ ⟨rfl,rfl,rfl,rfl,rfl,rfl,trivial⟩ (by simp[ScH,Blk.scopd,At.sc]) (by simp[ScE,SV.sc,At.sc]) (by rfl) (fun lo hi h=>h)⟩
  rcases hm with hm|⟨u,hu,hm⟩
  ·injection hm with hm
   exact Rel.not r (oldF w) hg.1 0 _ rfl hnil hm
  ·exact hg.2 ⟨u,hu,hm⟩
 clear hw hF hO hib hi h1c
 rintro⟨c,⟨gm,rv1,M1,q0⟩,css,⟨⟨p0,p4⟩,⟨p1,p5⟩,⟨p2,p3,p6,p7⟩⟩,w1,iv⟩ ⟨hc,hw,hM,hO,hC,hlen,hht1,hql,hD⟩
 dsimp only at hc hw hM hO hC hlen hht1 hql hD ⊢
 have hfl:=flat_len hC.len4
 have hmf:=minorsF_length M
 have hcl:css.length=c:=by rw[hC.1,List.length_take];omega
 rw[hcl]at hfl
 conv=>whnf
 refine BrS.mk (fun hcb=>?_) (fun hcb=>?_)
 ·have hcb:c<R:=by simpa using hcb
  have hHb:4^(c+1)*h≤500000000:=Nat.le_trans (Nat.mul_le_mul_right _ (Nat.pow_le_pow_right (by decide) hcb)) hbd
  have hpow:4^(c+1)*h=4*(4^c*h):=by rw[Nat.pow_succ,Nat.mul_comm (4^c) 4,Nat.mul_assoc]
  have hH2:2≤4^c*h:=Nat.le_trans h2 (Nat.le_mul_of_pos_left _ (Nat.pow_pos (by decide)))
  rw[hpow]at hHb
  obtain⟨hh,hhe⟩:∃x,x=4^c*h:=⟨_,rfl⟩
  rw[←hhe]at hht1 hql hH2 hHb hpow
  have hM1l:=hM.len
  obtain⟨gk,cd,qd,d1,d2,d3,d4,d5,d6,d7,d8,hEd,hgd⟩:=hM.elemR (k:=c) (c:=c) (by omega) (by omega)
  conv=>whnf
  refine⟨⟨gm,0,none⟩,rfl,⟨by omega,by omega⟩,?_⟩
  conv=>whnf
  refine⟨_,fun ρ w' r=>hM.cell r (.inl (by rw[addB];rfl)) hEd.outer,?_⟩
  conv=>whnf
  refine⟨⟨gk,0,none⟩,rfl,⟨by omega,by omega⟩,?_⟩
  conv=>whnf
  refine⟨[.bool d1,.slice d2 d3 d4,.bool d5,.slice d6 d7 d8],rfl,fun ρ w' r j x hx=>hM.cell r (by rw[addB,addB];exact hgd) (hEd.cells j x hx),?_⟩
  conv=>whnf
  have hqd:=hEd.at_
  refine callE_S (callE_con (Φ:=fun _ w' v w2=>v= .int .i64 (rs qd)) (fun ρ w' r=>fsign_c (Lm'.old r hS) (hEd.frac.relL r hS)) ?_)
  rintro ρ wa11 v11 wb11 r he hb rfl
  replace hw:=hw.tr hb
  replace hM:=MatO.past (iv':=(wa11.heap.size,wb11.heap.size)::iv) hM r hS he fun x hx=>List.mem_cons_of_mem _ hx
  replace hO:=FracR.pastL (iv':=(wa11.heap.size,wb11.heap.size)::iv) hO r (oldF w) he fun x hx=>List.mem_cons_of_mem _ hx
  replace hC:=Fr.pastL (iv':=(wa11.heap.size,wb11.heap.size)::iv) hC r (oldF w) he fun x hx=>List.mem_cons_of_mem _ hx
  clear r he hb
  generalize (wa11.heap.size,wb11.heap.size)::iv=iv11 at*
  clear hEd hgd
  conv=>whnf
  refine BrS.mk (fun hs=>?_) (fun hs=>?_)
  ·clear hs hqd
   conv=>whnf
   refine⟨((c+1:Nat):Int),by rw[wrap64]<;>omega,?_⟩
   conv=>whnf
   refine⟨Nat×List (List Value)×World×Iv,fun z=>⟨[(3,.o (.w 2 z.2.1.length)),(0,.o (.v (.slice am R cm))),(8,.o (.v (.int .i64 ((z.1:Nat):Int))))],[(2,.vec T.fraction 4 z.2.1.flatten)],3,z.2.2.2,z.2.2.1⟩,fun z=>R+1-z.1,
    fun z=>c<z.1∧z.1≤R+1∧Bel w.heap.size w z.2.2.1∧Fr z.2.2.1 (Cv (fun _=>False) w.heap.size z.2.2.2) z.2.1 ((minorsF M).take (z.1-1)),?_,?_⟩
   ·intro ρ w' r
    exact⟨(c+1,css,w',_),⟨Nat.lt_succ_self _,by dsimp only;omega,hw.tr r.bel,by dsimp only;rw[Nat.add_sub_cancel];exact(Fr.relL hC r (oldF w)).weak fun g hg=>hg.1⟩,Sub.gen [] r ⟨rfl,trivial⟩ ⟨rfl,rfl,rfl,trivial⟩ (by simp[ScH,Blk.scopd,At.sc]) (by simp[ScE,SV.sc,At.sc]) (by rfl) (fun lo hi h=>h)⟩
   clear hw hM hO hC hfl hcl
   rintro⟨k,css,w2,iv⟩ ⟨hck,hk,hw,hC⟩
   dsimp only at hck hk hw hC ⊢
   have hfl:=flat_len hC.len4
   have hcl:css.length=k-1:=by rw[hC.1,List.length_take];omega
   conv=>whnf
   refine BrS.mk (fun hkb=>?_) (fun hkb=>?_)
   ·have hkb:k≤R:=by have:(k:Int)≤R:=(by simpa using hkb);omega
    conv=>whnf
    refine callE_S (callE_con (Φ:=fun _ w' v w2=>FracR w2 (Nw (fun _=>False) w' w2) v (subD M 0 k)) (fun ρ w' r=>det_c (h:=h) (fun g hg=>by have:=hS g hg;have:=r.baseLe;omega) (MatG.keep hM0 (fun g hg=>(hw.tr r.bel).block g (hS g hg))) hrow hkb (by omega) (by omega) hht h2 (Nat.le_trans (Nat.mul_le_mul_right _ (Nat.pow_le_pow_right (by decide) hkb)) hbd)) ?_)
    rintro ρ wa21 v21 wb21 r he hb hn
    replace hw:=hw.tr hb
    replace hC:=hC.past (iv':=(wa21.heap.size,wb21.heap.size)::iv) r (oldF w) he fun x hx=>List.mem_cons_of_mem _ hx
    have hd:=hn.got (S:=fun _=>False) r.baseLe (iv:=(wa21.heap.size,wb21.heap.size)::iv) List.mem_cons_self
    clear r he hb hn
    generalize (wa21.heap.size,wb21.heap.size)::iv=iv21 at*
    obtain⟨s21_0,s21_1,s21_2,s21_3,s21_4,s21_5,s21_6,s21_7,rfl⟩:=hd.shape
    conv=>whnf
    have hC2:Fr wb21 (Cv (fun _=>False) w.heap.size iv21) (css++[[.bool s21_0,.slice s21_1 s21_2 s21_3,.bool s21_4,.slice s21_5 s21_6 s21_7]]) ((minorsF M).take k):=by
     obtain⟨d,rfl⟩:∃d,k=d+1:=⟨k-1,by omega⟩
     rw[List.take_add_one,minorsF_get (by omega)]
     exact hC.push hd.four
    have hfl2:css.flatten++([.bool s21_0,.slice s21_1 s21_2 s21_3,.bool s21_4,.slice s21_5 s21_6 s21_7]:List Value)=(css++([[.bool s21_0,.slice s21_1 s21_2 s21_3,.bool s21_4,.slice s21_5 s21_6 s21_7]]:List (List Value))).flatten:=by simp
    clear hC hd
    refine .inl ?_
    conv=>whnf
    refine⟨by omega,by omega,by unfold maxLen;omega,?_⟩
    conv=>whnf
    refine⟨((k+1:Nat):Int),by rw[wrap64]<;>omega,?_⟩
    conv=>whnf
    intro ρ3 w3 r3
    exact⟨(k+1,css++[[.bool s21_0,.slice s21_1 s21_2 s21_3,.bool s21_4,.slice s21_5 s21_6 s21_7]],w3,_),⟨by dsimp only;omega,by dsimp only;omega,hw.tr r3.bel,by dsimp only;rw[Nat.add_sub_cancel];exact hC2.rel r3 (oldF w)⟩,Sub.gen [(2,4)] r3 ⟨by dsimp only;rw[←hfl2];rfl,trivial⟩ ⟨by dsimp only;rw[List.length_append,List.length_singleton];rfl,rfl,rfl,trivial⟩ (by simp[ScH,Blk.scopd,At.sc]) (by simp[ScE,SV.sc,At.sc]) (by rfl) (fun lo hi h=>h),by dsimp only;omega⟩
   have hkb:k=R+1:=by have:¬(k:Int)≤R:=(by simpa using hkb);omega
   conv=>whnf
   intro ρe we re
   refine⟨_,rfl,hw.tr re.bel,?_⟩
   have h5:=re.vecSeq (id:=2) (sz:=4) (m:=css.length) rfl hfl (by unfold maxLen;omega) (by decide) hC.one
   have h6:=hC.rel re (oldF w)
   rw[List.take_of_length_le (by omega)]at h6
   refine⟨css,?_,h6.weak fun _ hg=>Cv.nw hg re⟩
   rw[←h6.1]
   exact h5.weak fun g hg=>.inr hg
  have h0:at2 M1 c c≠0:=fun e=>by rw[←hqd,rs_zero.2 e]at hs;simp at hs
  clear hs hqd
  conv=>whnf
  obtain⟨gf,cf,qf,f1,f2,f3,f4,f5,f6,f7,f8,hEf,hgf⟩:=hM.elemR (k:=c) (c:=c) (by omega) (by omega)
  have hqf:qf=at2 M1 c c:=hEf.at_.symm
  have hlf:=at2_ht' hht1 hH2 c c
  rw[←hqf]at hlf h0
  have hlm:=rl_mul q0 qf
  conv=>whnf
  refine drawn_of_pi hτ hmix [.x 0,.x 1,.x 2,.x 3,.x 4,.x 5,.x 6,.x 7,.x 8,.x 9] (by kernel_rfl) (by kernel_rfl) ?_
  conv=>whnf
  refine⟨⟨gm,0,none⟩,rfl,⟨by omega,by omega⟩,?_⟩
  conv=>whnf
  refine⟨_,fun ρ w' r=>hM.cell r (.inl (by rw[addB];rfl)) hEf.outer,?_⟩
  conv=>whnf
  refine⟨⟨gf,0,none⟩,rfl,⟨by omega,by omega⟩,?_⟩
  conv=>whnf
  refine⟨[.bool f1,.slice f2 f3 f4,.bool f5,.slice f6 f7 f8],rfl,fun ρ w' r j x hx=>hM.cell r (by rw[addB,addB];exact hgf) (hEf.cells j x hx),?_⟩
  conv=>whnf
  refine callE_con (Φ:=fun _ w' v w2=>FracR w2 (Nw (fun _=>False) w' w2) v (q0*qf)) (fun ρ w' r=>ftimes_c (Lm'.old r hS) (FracR.weak (hO.relL r (oldF w)) fun _ hg=>(⟨cvF hg.1,hg.2⟩:Lm' S _ _ _ _ _ _)) (hEf.frac.relL r hS) (by omega) (by omega)) ?_
  rintro ρ wa12 v12 wb12 r he hb hn
  replace hw:=hw.tr hb
  have hO9:=hn.beside (S0:=fun _=>False) hM r
  replace hM:=MatO.past (iv':=(wa12.heap.size,wb12.heap.size)::iv11) hM r hS he fun x hx=>List.mem_cons_of_mem _ hx
  replace hC:=Fr.pastL (iv':=(wa12.heap.size,wb12.heap.size)::iv11) hC r (oldF w) he fun x hx=>List.mem_cons_of_mem _ hx
  clear r he hb hn
  generalize (wa12.heap.size,wb12.heap.size)::iv11=iv12 at*
  clear hEf hgf hO
  have hO:=hO9
  clear hO9
  obtain⟨s12_0,s12_1,s12_2,s12_3,s12_4,s12_5,s12_6,s12_7,rfl⟩:=hO.shape
  conv=>whnf
  have hval:q0*qf=subD M 0 (c+1):=by
   rw[←hD (c+1) (by omega) (by omega),subD_elim (M:=M1) hlen (n:=c+1) (by omega) (by omega) (by omega) (hqf▸h0) (Nat.le_refl _),subD_done,Rat.mul_one,hqf]
  obtain⟨css2,hcss⟩:∃x,x=css++[[.bool s12_0,.slice s12_1 s12_2 s12_3,.bool s12_4,.slice s12_5 s12_6 s12_7]]:=⟨_,rfl⟩
  have hC2:=hC.push hO.four
  rw[←hcss,hval,show(minorsF M).take c++[subD M 0 (c+1)]=(minorsF M).take (c+1) by rw[List.take_add_one,minorsF_get (by omega)];rfl]at hC2
  have hfl2:css.flatten++([.bool s12_0,.slice s12_1 s12_2 s12_3,.bool s12_4,.slice s12_5 s12_6 s12_7]:List Value)=css2.flatten:=by rw[hcss];simp
  have hcl2:css2.length=css.length+1:=by rw[hcss];simp
  clear hC
  have hC:=hC2
  clear hC2
  refine .inl ?_
  conv=>whnf
  refine⟨by omega,by omega,by unfold maxLen;omega,?_⟩
  conv=>whnf
  refine⟨((c+1:Nat):Int),by rw[wrap64]<;>omega,?_⟩
  conv=>whnf
  have hht:=hht1
  rw[hqf]at h0
  refine⟨Nat×World×Iv,fun z=>⟨[(4,.o (.v (.slice (some ⟨gm,0,none⟩) R R))),(3,.o (.w 2 css2.length)),(0,.o (.v (.slice am R cm))),(6,.o (.p 1 0)),(29,.o (.v (.int .i64 R))),(30,.o (.v (.int .i64 ((c:Nat):Int)))),(7,.o (.v (.int .i64 ((c:Nat):Int)))),(9,.o (.v (.int .i64 ((z.1:Nat):Int))))],[(2,.vec T.fraction 4 css2.flatten),(1,.box T.fraction [.v (.bool s12_0),.v (.slice s12_1 s12_2 s12_3),.v (.bool s12_4),.v (.slice s12_5 s12_6 s12_7)])],3,z.2.2,z.2.1⟩,fun z=>R-z.1,
   fun z=>c<z.1∧z.1≤R∧Bel w.heap.size w z.2.1∧MatO z.2.1 S w.heap.size z.2.2 gm R R rv1 (elimTo M1 c z.1)∧FracR z.2.1 (Lm' (fun _=>False) w.heap.size z.2.2 gm R rv1) (.agg #[.bool s12_0,.slice s12_1 s12_2 s12_3,.bool s12_4,.slice s12_5 s12_6 s12_7]) (q0*qf)∧Fr z.2.1 (Lm' (fun _=>False) w.heap.size z.2.2 gm R rv1) css2 ((minorsF M).take (c+1)),?_,?_⟩
  ·intro ρ w' r
   exact⟨(c+1,w',_),⟨Nat.lt_succ_self _,by dsimp only;omega,hw.tr r.bel,by rw[elimTo_start _ _ _ (Nat.le_refl _)];exact hM.rel r hS,hO.relL r (oldF w),Fr.relL hC r (oldF w)⟩,
    Sub.gen [(2,4)] r ⟨by rw[←hfl2];rfl,rfl,trivial⟩ ⟨rfl,by rw[hcl2];rfl,rfl,rfl,rfl,rfl,rfl,rfl,trivial⟩ (by simp[ScH,Blk.scopd,At.sc]) (by simp[ScE,SV.sc,At.sc]) (by rfl) (fun lo hi h=>h)⟩
  clear hw hM hO hC
  rintro⟨i,w7,iv⟩ ⟨hci,hi,hw,hM,hO,hC⟩
  dsimp only at hci hi hw hM hO hC ⊢
  conv=>whnf
  refine BrS.mk (fun hib=>?_) (fun hib=>?_)
  ·have hib:i<R:=by simpa using hib
   obtain⟨ri,hri⟩:∃r,M1[i]? =some r:=⟨_,List.getElem?_eq_getElem (by omega)⟩
   obtain⟨rc,hrc⟩:∃r,M1[c]? =some r:=⟨_,List.getElem?_eq_getElem (by omega)⟩
   have hri2:(elimTo M1 c i)[i]? =some ri:=by rw[elimTo_at _ _ _ _ (.inr (Nat.le_refl _))];exact hri
   have hrc2:(elimTo M1 c i)[c]? =some rc:=by rw[elimTo_at _ _ _ _ (.inl (Nat.le_refl _))];exact hrc
   obtain⟨gi,cd,qd,d1,d2,d3,d4,d5,d6,d7,d8,hEd,hgd⟩:=hM.elemR (k:=i) (c:=c) (by omega) (by omega)
   obtain⟨gc,ce,qe,e1,e2,e3,e4,e5,e6,e7,e8,hEe,hge⟩:=hM.elemR (k:=c) (c:=c) (by omega) (by omega)
   have hqd:qd=ri.getD c 0:=by
    rw[←hEd.at_];unfold at2
    rw[show (elimTo M1 c i).getD i []=ri by simp only[List.getD,hri2,Option.getD_some]]
   have hqe:qe=at2 M1 c c:=by rw[←hEe.at_,elimTo_at2' (.inl (Nat.le_refl _))]
   have hdi:=hht.at hri
   have hdc:=hht.at hrc
   have hl1:=rl_getD hdi (by omega) c
   have hl2:=at2_ht' hht (by omega) c c
   rw[←hqd]at hl1
   rw[←hqe]at hl2
   have hqe0:qe≠0:=hqe▸h0
   have hl3:=rl_div qd hqe0
   have hl4:=rl_neg (qd / qe)
   have hvd:=hEd.rv
   have hve:=hEe.rv
   conv=>whnf
   refine drawn_of_pi hτ hmix [.x 0,.x 1,.x 2,.x 3,.x 4,.x 5,.x 6,.x 7,.x 8,.x 9,.x 10,.x 11,.x 12,.x 13,.x 14,.x 15,.x 16,.x 17,.x 20,.x 21,.x 22,.x 23,.x 18,.x 19,.x 24] (by kernel_rfl) (by kernel_rfl) ?_
   conv=>whnf
   refine⟨⟨gm,0,none⟩,rfl,⟨by omega,by omega⟩,?_⟩
   conv=>whnf
   refine⟨_,fun ρ w' r=>hM.cell r (.inl (by rw[addB];rfl)) hEd.outer,?_⟩
   conv=>whnf
   refine⟨⟨gm,0,none⟩,rfl,⟨by omega,by omega⟩,?_⟩
   conv=>whnf
   refine⟨_,fun ρ w' r=>hM.cell r (.inl (by rw[addB];rfl)) hEd.outer,?_⟩
   conv=>whnf
   refine⟨⟨gi,0,none⟩,rfl,⟨by omega,by omega⟩,?_⟩
   conv=>whnf
   refine⟨[.bool d1,.slice d2 d3 d4,.bool d5,.slice d6 d7 d8],rfl,fun ρ w' r j x hx=>hM.cell r (by rw[addB,addB];exact hgd) (hEd.cells j x hx),?_⟩
   conv=>whnf
   refine⟨⟨gm,0,none⟩,rfl,⟨by omega,by omega⟩,?_⟩
   conv=>whnf
   refine⟨_,fun ρ w' r=>hM.cell r (.inl (by rw[addB];rfl)) hEe.outer,?_⟩
   conv=>whnf
   refine⟨⟨gc,0,none⟩,rfl,⟨by omega,by omega⟩,?_⟩
   conv=>whnf
   refine⟨[.bool e1,.slice e2 e3 e4,.bool e5,.slice e6 e7 e8],rfl,fun ρ w' r j x hx=>hM.cell r (by rw[addB,addB];exact hge) (hEe.cells j x hx),?_⟩
   conv=>whnf
   refine⟨⟨gm,0,none⟩,rfl,⟨by omega,by omega⟩,?_⟩
   conv=>whnf
   refine⟨_,fun ρ w' r=>hM.cell r (.inl (by rw[addB];rfl)) hEe.outer,?_⟩
   conv=>whnf
   refine callE_con (Φ:=fun _ w' v w2=>FracR w2 (Nw (fun _=>False) w' w2) v (qd / qe)) (fun ρ w' r=>fby_c (Lm'.old r hS) (hEd.frac.relL r hS) (hEe.frac.relL r hS) (by omega) (by omega) hqe0) ?_
   rintro ρ wa13 v13 wb13 r he hb hn
   replace hw:=hw.tr hb
   have hB:=hn.beside (S0:=S) hM r
   replace hM:=MatO.past (iv':=(wa13.heap.size,wb13.heap.size)::iv) hM r hS he fun x hx=>List.mem_cons_of_mem _ hx
   replace hO:=FracR.pastL (iv':=(wa13.heap.size,wb13.heap.size)::iv) hO r (oldF w) he fun x hx=>List.mem_cons_of_mem _ hx
   replace hC:=Fr.pastL (iv':=(wa13.heap.size,wb13.heap.size)::iv) hC r (oldF w) he fun x hx=>List.mem_cons_of_mem _ hx
   clear r he hb hn
   generalize (wa13.heap.size,wb13.heap.size)::iv=iv13 at*
   clear hEd hEe hgd hge
   obtain⟨s13_0,s13_1,s13_2,s13_3,s13_4,s13_5,s13_6,s13_7,rfl⟩:=hB.shape
   conv=>whnf
   refine callE_con (Φ:=fun _ w' v w2=>FracR w2 (Nw (Lm' S w.heap.size iv13 gm R rv1) w' w2) v (-(qd / qe))) (fun ρ w' r=>fminus_c (Lm'.old r hS) (hB.relL r hS)) ?_
   rintro ρ wa14 v14 wb14 r he hb hn
   replace hw:=hw.tr hb
   have hB2:=hn.besideL hM r
   replace hM:=MatO.past (iv':=(wa14.heap.size,wb14.heap.size)::iv13) hM r hS he fun x hx=>List.mem_cons_of_mem _ hx
   replace hO:=FracR.pastL (iv':=(wa14.heap.size,wb14.heap.size)::iv13) hO r (oldF w) he fun x hx=>List.mem_cons_of_mem _ hx
   replace hC:=Fr.pastL (iv':=(wa14.heap.size,wb14.heap.size)::iv13) hC r (oldF w) he fun x hx=>List.mem_cons_of_mem _ hx
   clear r he hb hn
   generalize (wa14.heap.size,wb14.heap.size)::iv13=iv14 at*
   clear hB
   obtain⟨s14_0,s14_1,s14_2,s14_3,s14_4,s14_5,s14_6,s14_7,rfl⟩:=hB2.shape
   conv=>whnf
   refine⟨fun ρ w' r=>?_⟩
   refine(hM.add_c r hS (by unfold maxLen;omega) (Nat.ne_of_gt hci) hvd hve hri2 hrc2 hB2 (fun q hq=>by have:=hdi q hq;omega) (fun q hq=>by have:=hdc q hq;omega) (by omega)).mono fun e w8 he=>?_
   obtain⟨rfl,hgr,hmi,hM2⟩:=he
   have hw2:=(hw.tr r.bel).tr (hM.bel r hgr hmi)
   have hO2:=hO.keep (Lm'.grown r (oldF w) hgr hmi)
   replace hO2:=hO2.weak (S':=Lm' (fun _=>False) w.heap.size ((w'.heap.size,w8.heap.size)::iv14) gm R rv1) fun _ hg=>⟨hg.1.mono fun p hp=>List.mem_cons_of_mem _ hp,hg.2⟩
   have hC2:=(hC.keep (Lm'.grown r (oldF w) hgr hmi)).weak (S':=Lm' (fun _=>False) w.heap.size ((w'.heap.size,w8.heap.size)::iv14) gm R rv1) fun _ hg=>⟨hg.1.mono fun p hp=>List.mem_cons_of_mem _ hp,hg.2⟩
   refine⟨.tuple #[],_,(w'.heap.size,w8.heap.size)::iv14,rfl,r.rowedNew (fun x hx=>Rel.not r (oldF' _) (hM.blk x (hmi x hx))) hgr,?_⟩
   rw[hqd,hqe,show rc=M1.getD c [] by rw[List.getD,hrc];rfl,elimTo_succ hri hci]at hM2
   clear hM hO hw hgr hmi r hB2 hC
   generalize (w'.heap.size,w8.heap.size)::iv14=iv9 at*
   conv=>whnf
   refine⟨((i+1:Nat):Int),by rw[wrap64]<;>omega,?_⟩
   conv=>whnf
   intro ρ3 w3 r3
   exact⟨(i+1,w3,_),⟨by dsimp only;omega,hib,hw2.tr r3.bel,hM2.rel r3 hS,hO2.relL r3 (oldF w),Fr.relL hC2 r3 (oldF w)⟩,
    Sub.gen [] r3 ⟨rfl,rfl,trivial⟩ ⟨rfl,rfl,rfl,rfl,rfl,rfl,rfl,rfl,trivial⟩ (by simp[ScH,Blk.scopd,At.sc]) (by simp[ScE,SV.sc,At.sc]) (by rfl) (fun lo hi h=>h),by dsimp only;omega⟩
  have hib:i=R:=Nat.le_antisymm hi (by simpa using hib)
  rw[hib]at hM
  conv=>whnf
  refine⟨((c+1:Nat):Int),by rw[wrap64]<;>omega,?_⟩
  conv=>whnf
  intro ρ3 w3 r3
  refine⟨(c+1,(gm,rv1,elimTo M1 c R,q0*qf),css2,((s12_0,s12_4),(s12_1,s12_5),(s12_2,s12_3,s12_6,s12_7)),w3,_),⟨hcb,hw.tr r3.bel,hM.rel r3 hS,hO.relL r3 (oldF w),Fr.relL hC r3 (oldF w),elimTo_len hlen,by dsimp only;rw[hpow];exact hht.elim hH2 h0,by dsimp only;rw[hpow];omega,fun k h3 h4=>?_⟩,Sub.gen [] r3 ⟨rfl,rfl,trivial⟩ ⟨rfl,rfl,rfl,rfl,rfl,rfl,trivial⟩ (by simp[ScH,Blk.scopd,At.sc]) (by simp[ScE,SV.sc,At.sc]) (by rfl) (fun lo hi h=>h),by dsimp only;omega⟩
  dsimp only at h3 ⊢
  rw[←hD k (by omega) h4,subD_elim (M:=M1) hlen h4 (by omega) h3 h0 h4,hqf,Rat.mul_assoc]
 have hcb:c=R:=Nat.le_antisymm hc (by simpa using hcb)
 replace hC:=hC.weak (S':=Cv (fun _=>False) w.heap.size iv) fun g hg=>hg.1
 rw[←hcl]at hfl
 conv=>whnf
 intro ρe we re
 refine⟨_,rfl,hw.tr re.bel,?_⟩
 have h5:=re.vecSeq (id:=2) (sz:=4) (m:=css.length) rfl hfl (by unfold maxLen;omega) (by decide) hC.one
 have h6:=hC.rel re (oldF w)
 rw[List.take_of_length_le (by omega)]at h6
 refine⟨css,?_,h6.weak fun _ hg=>Cv.nw hg re⟩
 rw[←h6.1]
 exact h5.weak fun g hg=>.inr hg
end Go.Ex

/- Package exact: CheckSolution. Printed by program. No condition but sizes. -/
namespace Go.Ex
open Go Go.Sx Go.Proofs

end Go.Ex

/- Regions that draw their order, by an order with branches; CheckSystem and Wider of the reference. Printed by program. No condition but sizes. -/
namespace Go.Ex
open Go Go.Sx Go.Proofs

inductive Tp where
 |nil
 |x (i:Nat) (t:Tp)
 |two (i:Nat) (t:Tp) (j:Nat) (u:Tp)
 |give (id:Nat) (t:Tp)
section
variable{P:Program}{τ:Tab}{ops:Array Oper}{B n nx:Nat}{l:Env}{H:Hp}{iv:Iv}{w w':World}{ρ:Nat→Sx.Val}{a:Act}
end
theorem give_env{l tl:Env}{nx t id n:Nat}{ρ:Nat→Sx.Val}(hn:(ρ id).nil=false)(ht:getE l t=some (.o (.w id n)))(h1:SubE l tl)(h2:ScE nx tl):∀u v,getE ((t,.o (.v (.slice (some ⟨(ρ id).g,0,none⟩) n (ρ id).cap)))::tl) u=some v→v.sc nx∧∃v',getE l u=some v'∧v'.den ρ=v.den ρ:=fun u v hv=>by
 rw[getE_cons]at hv
 split at hv
 ·rename_i e
  subst e
  injection hv with hv
  subst hv
  exact⟨trivial,_,ht,by simp[SV.den,At.den,hn]⟩
 ·exact⟨h2.get u v hv,v,h1.get u v hv,rfl⟩
/-- a growing list of one's own, given up: it is held raw -/
theorem vecGive{H:Hp}{nx:Nat}{iv:Iv}{B:Nat}{w w':World}{ρ:Nat→Sx.Val}(r:Rel H nx iv B w ρ w'){id t m sz:Nat}{cs:List Value}(h:getH H id=some (.vec t sz cs))(hm:cs.length=m*sz)(hm1:m≤maxLen)(hs:0<sz)(h0:0<m)(h1:∀u∈cs,u.oneCell'=true):
  (ρ id).nil=false∧B≤(ρ id).g∧SeqR w' (fun g=>g=(ρ id).g) sz (.slice (some ⟨(ρ id).g,0,none⟩) m (ρ id).cap) cs m:=by
 rcases r.vec id t sz _ h with⟨hn,rfl⟩|⟨hn,spare,hb,hc,hcap⟩
 ·have:=Nat.mul_pos h0 hs
  simp at hm
  omega
 ·refine⟨hn,(r.low id _ h hn).1,hm1,hm,h1,some ⟨(ρ id).g,0,none⟩,(ρ id).cap,rfl,?_,fun j x hx=>⟨_,rfl,rfl,?_⟩⟩
  ·have h1:(cs++spare).length=cs.length+spare.length:=List.length_append
   have h2:m*sz≤(ρ id).cap*sz:=by omega
   exact Nat.le_of_mul_le_mul_right h2 hs
  ·rw[addr_add,cell_of hb,Nat.zero_add,List.getElem?_append_left (List.getElem?_eq_some_iff.1 hx).1]
   exact hx
end Go.Ex

/- Elimination of a system: a contradiction is one, and the first columns alone give the same. Plain. -/
namespace Go.Ex
section
variable{M:List (List Rat)}{b:List Rat}{n:Nat}
end
end Go.Ex

/- Wider of the reference. Printed by program. No condition but sizes. -/
namespace Go.Ex
open Go Go.Sx Go.Proofs

end Go.Ex

/- Det of the reference, by the first row. Printed by program. No condition but sizes. -/
namespace Go.Ex
open Go Go.Sx Go.Proofs

section
variable{S:Nat→Prop}{H:Hp}{nx:Nat}{iv0:Iv}{B:Nat}{w w' w2:World}{ρ:Nat→Sx.Val}{v:Value}{xs:List Rat}
end
/-- how long a determinant is -/
def detB(h:Nat):Nat→Nat
 |0=>2
 |n+1=>(n+1)*(h+detB h n+2)+2
theorem detB_le(h n:Nat):h+detB h n+4≤detB h (n+1):=by
 show _≤(n+1)*(h+detB h n+2)+2
 have:=Nat.mul_le_mul_right (h+detB h n+2) (show 1≤n+1 by omega)
 omega
theorem rl_sumR{f:Nat→Rat}{b:Nat}:∀n,(∀k,k<n→rl (f k)≤b)→rl (sumR f n)≤n*(b+1)+2
 |0,_=>by show rl 0≤_;exact Nat.le_trans (by decide:rl 0≤2) (Nat.le_add_left ..)
 |n+1,h=>by
  have h1:=rl_sumR n fun k hk=>h k (by omega)
  have h2:=h n (by omega)
  have h3:=rl_add (sumR f n) (f n)
  show rl (sumR f n+f n)≤_
  rw[Nat.add_mul,Nat.one_mul]
  omega
theorem rl_sgd(k:Nat)(x:Rat):rl (sgd k*x)=rl x:=by
 unfold sgd
 split
 ·rw[show (-1:Rat)*x= -x by grind,rl_neg]
 ·rw[Rat.one_mul]
theorem rl_detF{h:Nat}(h2:2≤h):∀(n:Nat) (m:Mx),(∀i j,i<n→j<n→rl (m i j)+1≤h)→rl (detF n m)≤detB h n
 |0,_,_=>by show rl 1≤2;decide
 |n+1,m,H=>by
  unfold detF detB
  refine Nat.le_trans (rl_sumR (b:=h+detB h n) _ fun k hk=>?_) ?_
  ·have h3:=rl_detF h2 n (fun i j=>m (i+1) (skip k j)) fun i j hi hj=>H _ _ (by omega) (skip_lt hj)
   have h4:=H 0 k (by omega) hk
   have h5:=rl_mul (m 0 k) (detF n fun i j=>m (i+1) (skip k j))
   rw[rl_sgd]
   omega
  ·exact Nat.add_le_add_right (Nat.mul_le_mul_left _ (by omega)) 2
theorem detB_mono{h:Nat}{n m:Nat}(hm:n≤m):detB h n≤detB h m:=by
 induction hm with
 |refl=>exact Nat.le_refl _
 | @step m _ ih=>exact Nat.le_trans ih (by have:=detB_le h m;show detB h m≤detB h (m+1);omega)
end Go.Ex

/- Certificates of linear programs of package exact: CheckOptimum. Printed by program. No condition but sizes. -/
namespace Go.Ex
open Go Go.Sx Go.Proofs

theorem rs_neg_iff{q:Rat}:rs q<0↔q<0:=by rw[rs,Int.sign_neg_iff,←Int.not_le,Rat.num_nonneg,Rat.not_le]
theorem rs_pos_iff{q:Rat}:0<rs q↔0<q:=by
 have h:=rs_neg_iff (q:= -q)
 rw[rs_neg]at h
 constructor
 ·intro k;have:=h.1 (by omega);grind
 ·intro k;have:=h.2 (by grind);omega
theorem rs_sub_neg{p q:Rat}:rs (p-q)<0↔p<q:=by rw[rs_neg_iff];constructor<;>intro h<;>grind
end Go.Ex

/- CheckOptimum of package exact. Printed by program. No condition but sizes. -/
namespace Go.Ex
open Go Go.Sx Go.Proofs

end Go.Ex

/- Minors and Definite, of package exact and of the reference. Printed by program. No condition but sizes. -/
namespace Go.Ex
open Go Go.Sx Go.Proofs

theorem subD_at2(M:List (List Rat))(n:Nat):subD M 0 n=detF n (at2 M):=by
 unfold subD
 rw[Nat.sub_zero]
 exact detF_congr fun i j _ _=>by rw[Nat.zero_add,Nat.zero_add]
/-- the error of a matrix that has to be square -/
def errQ{α:Type}(M:List (List α)):Nat:=if errM M≠0 then errM M else if colsM M≠M.length then 11 else 0
theorem errQ_zero{α:Type}{M:List (List α)}(h:errQ M=0):errM M=0∧colsM M=M.length:=by
 unfold errQ at h
 split at h
 ·rename_i h3;exact absurd h h3
 ·split at h
  ·cases h
  ·rename_i h3 h4;exact⟨by omega,by omega⟩
/-- symmetric, with positive leading minors -/
def DefF(M:List (List Rat)):Prop:=(∀i k,i<M.length→k<i→at2 M i k=at2 M k i)∧∀q∈minorsF M,0<q
theorem rl_minorsF{M:List (List Rat)}{h:Nat}(H:Ht M h)(h2:2≤h):∀q∈minorsF M,rl q≤detB h M.length:=fun q hq=>by
 obtain⟨k,hk,rfl⟩:=List.mem_map.1 hq
 rw[subD_at2]
 exact Nat.le_trans (rl_detF h2 (k+1) _ fun i j _ _=>at2_ht' H h2 _ _) (detB_mono (List.mem_range.1 hk))
theorem xCheckSquare_c{S:Nat→Prop}{w:World}{v:Value}{M:List (List (Int×Int))}(hS:Old S w)(h:RatMR w S v M):Con PG N.exact_checkSquare #[v] w (Ret w fun v' _=>v'= .int .i64 (errQ M)):=by
 have hw:Bel w.heap.size w w:=Bel.refl
 obtain⟨am,cm,rfl,hcm,hmm⟩:=SlicesR.shape h
 unfold maxLen at hmm
 refine in_exact_checkSquare (by simp) ?_
 conv=>whnf
 refine callE_S (callE_con (Φ:=fun _ w' v w2=>v= .int .i64 (errM M)) (fun ρ w' r=>checkMatrix_c (fun g hg=>by have:=hS g hg;have:=r.baseLe;omega) (RatMR.keep h (fun g hg=>(hw.tr r.bel).block g (hS g hg)))) ?_)
 rintro ρ wa1 v1 wb1 r he hb rfl
 replace hw:=hw.tr hb
 clear r he hb
 generalize (wa1.heap.size,wb1.heap.size)::[]=iv1 at*
 conv=>whnf
 refine BrS.mk (fun he=>?_) (fun he=>?_)
 ·have he:errM M≠0:=fun e=>by rw[e]at he;simp at he
  conv=>whnf
  intro ρe we re
  exact⟨_,rfl,hw.tr re.bel,by unfold errQ;rw[if_pos he];rfl⟩
 have he:(errM M:Nat)=0:=by
  have h4:(((errM M:Nat):Int)==(0:Int))=true:=by simpa using he
  have:=eq_of_beq h4
  omega
 conv=>whnf
 refine callE_S (callE_con (Φ:=fun _ w' v w2=>v= .int .i64 (colsM M)) (fun ρ w' r=>columns_c (fun g hg=>by have:=hS g hg;have:=r.baseLe;omega) (RatMR.keep h (fun g hg=>(hw.tr r.bel).block g (hS g hg)))) ?_)
 rintro ρ wa2 v2 wb2 r he hb rfl
 replace hw:=hw.tr hb
 clear r he hb
 generalize (wa2.heap.size,wb2.heap.size)::iv1=iv2 at*
 conv=>whnf
 refine BrS.mk (fun hl=>?_) (fun hl=>?_)
 ·have hl:colsM M≠M.length:=fun e=>by rw[e]at hl;simp at hl
  conv=>whnf
  intro ρe we re
  exact⟨_,rfl,hw.tr re.bel,by unfold errQ;rw[if_neg (by omega),if_pos hl];rfl⟩
 have hl:(colsM M:Nat)=(M.length:Nat):=by
  have h4:(((colsM M:Nat):Int)==((M.length:Nat):Int))=true:=by simpa using hl
  have:=eq_of_beq h4
  omega
 conv=>whnf
 intro ρe we re
 exact⟨_,rfl,hw.tr re.bel,by unfold errQ;rw[if_neg (by omega),if_neg (by omega)];rfl⟩
theorem rCheckSquare_c{S:Nat→Prop}{w:World}{v:Value}{M:List (List (Int×Int))}(hS:Old S w)(h:RatMR w S v M):Con PG N.ref01_CheckSquare #[v] w (Ret w fun v' _=>v'= .int .i64 (errQ M)):=by
 have hw:Bel w.heap.size w w:=Bel.refl
 obtain⟨am,cm,rfl,hcm,hmm⟩:=SlicesR.shape h
 unfold maxLen at hmm
 refine in_ref01_CheckSquare (by simp) ?_
 conv=>whnf
 refine callE_S (callE_con (Φ:=fun _ w' v w2=>v= .int .i64 (errM M)) (fun ρ w' r=>rCheckMatrix_c (fun g hg=>by have:=hS g hg;have:=r.baseLe;omega) (RatMR.keep h (fun g hg=>(hw.tr r.bel).block g (hS g hg)))) ?_)
 rintro ρ wa1 v1 wb1 r he hb rfl
 replace hw:=hw.tr hb
 clear r he hb
 generalize (wa1.heap.size,wb1.heap.size)::[]=iv1 at*
 conv=>whnf
 refine BrS.mk (fun he=>?_) (fun he=>?_)
 ·have he:errM M≠0:=fun e=>by rw[e]at he;simp at he
  conv=>whnf
  intro ρe we re
  exact⟨_,rfl,hw.tr re.bel,by unfold errQ;rw[if_pos he];rfl⟩
 have he:(errM M:Nat)=0:=by
  have h4:(((errM M:Nat):Int)==(0:Int))=true:=by simpa using he
  have:=eq_of_beq h4
  omega
 conv=>whnf
 refine callE_S (callE_con (Φ:=fun _ w' v w2=>v= .int .i64 (colsM M)) (fun ρ w' r=>rColumns_c (fun g hg=>by have:=hS g hg;have:=r.baseLe;omega) (RatMR.keep h (fun g hg=>(hw.tr r.bel).block g (hS g hg)))) ?_)
 rintro ρ wa2 v2 wb2 r he hb rfl
 replace hw:=hw.tr hb
 clear r he hb
 generalize (wa2.heap.size,wb2.heap.size)::iv1=iv2 at*
 conv=>whnf
 refine BrS.mk (fun hl=>?_) (fun hl=>?_)
 ·have hl:colsM M≠M.length:=fun e=>by rw[e]at hl;simp at hl
  conv=>whnf
  intro ρe we re
  exact⟨_,rfl,hw.tr re.bel,by unfold errQ;rw[if_neg (by omega),if_pos hl];rfl⟩
 have hl:(colsM M:Nat)=(M.length:Nat):=by
  have h4:(((colsM M:Nat):Int)==((M.length:Nat):Int))=true:=by simpa using hl
  have:=eq_of_beq h4
  omega
 conv=>whnf
 intro ρe we re
 exact⟨_,rfl,hw.tr re.bel,by unfold errQ;rw[if_neg (by omega),if_neg (by omega)];rfl⟩
theorem neg1_c{S:Nat→Prop}{w:World}{v:Value}{f:Rat}(hS:Old S w)(hf:FracR w S v f):
  Con PG N.exact_Definite_1 #[v] w (Ret w fun v' _=>v'= .bool (decide (f≤0))):=by
 have hw:Bel w.heap.size w w:=Bel.refl
 obtain⟨b1,a1,n1,c1,b2,a2,n2,c2,rfl⟩:=hf.shape
 refine in_exact_Definite_1 (by simp) ?_
 conv=>whnf
 refine callE_S (callE_con (Φ:=fun _ w' v w2=>v= .int .i64 (rs f)) (fun ρ w' r=>fsign_c (fun g hg=>by have:=hS g hg;have:=r.baseLe;omega) (hf.keep fun g hg=>(hw.tr r.bel).block g (hS g hg))) ?_)
 rintro ρ wa1 v1 wb1 r he hb rfl
 replace hw:=hw.tr hb
 clear r he hb
 generalize (wa1.heap.size,wb1.heap.size)::[]=iv1 at*
 conv=>whnf
 intro ρe we re
 exact⟨_,rfl,hw.tr re.bel,by rw[show decide (f≤0)=decide (rs f≤0)from Bool.eq_iff_iff.2 (by rw[decide_eq_true_eq,decide_eq_true_eq,←Rat.not_lt,←Int.not_lt,rs_pos_iff])];rfl⟩
theorem indexNeg_c{S:Nat→Prop}{w:World}{v:Value}{xs:List Rat}(hS:Old S w)(hx:RowR w S S v xs):
  Con PG N.slices_IndexFunc_of_exact_row_exact_fraction_of #[v,fnV N.exact_Definite_1] w (Ret w fun v' _=>∃z:Int,v'= .int .i64 z∧ -1≤z∧z≤9223372036854775807∧(0≤z↔∃x∈xs,x≤0)):=by
 have hw:Bel w.heap.size w w:=Bel.refl
 obtain⟨ax,cx,rfl,hcx,hmx⟩:=hx.shape
 unfold maxLen at hmx
 refine in_slices_IndexFunc_of_exact_row_exact_fraction_of (by simp) ?_
 conv=>whnf
 refine⟨Nat×World×Iv,fun z=>⟨[(0,.o (.v (.slice ax xs.length cx))),(1,.o (.v (fnV N.exact_Definite_1))),(7,.o (.v (.int .i64 xs.length))),(8,.o (.v (.int .i64 ((z.1:Nat):Int))))],[],0,z.2.2,z.2.1⟩,fun z=>xs.length-z.1,
  fun z=>z.1≤xs.length∧Bel w.heap.size w z.2.1∧∀j x,j<z.1→xs[j]? =some x→¬x≤0,?_,?_⟩
 ·intro ρ w' r
  exact⟨(0,w',[]),⟨by simp,r.bel,by simp⟩,Sub.gen [] r trivial ⟨rfl,rfl,rfl,rfl,trivial⟩ (by simp[ScH]) (by simp[ScE,SV.sc,At.sc]) (by rfl) (by simp)⟩
 clear hw
 rintro⟨i,w1,iv⟩ ⟨hi,hw,ht⟩
 dsimp only at hi hw ht ⊢
 conv=>whnf
 refine BrS.mk (fun hib=>?_) (fun hib=>?_)
 ·have hib:i<xs.length:=by simpa using hib
  obtain⟨x,hxi⟩:∃x,xs[i]? =some x:=⟨_,List.getElem?_eq_getElem hib⟩
  obtain⟨adx,csx,hax,hFx,hlx⟩:=hx.load hxi
  obtain⟨p0,p1,p2,p3,p4,p5,p6,p7,rfl,hFx⟩:=hFx
  conv=>whnf
  refine⟨adx,hax,⟨by omega,by omega⟩,?_⟩
  conv=>whnf
  refine⟨[.bool p0,.slice p1 p2 p3,.bool p4,.slice p5 p6 p7],rfl,fun ρ w' r j u hu=>?_,?_⟩
  ·obtain⟨k1,k2⟩:=hlx j u hu
   rw[Int.toNat_natCast,cell_of_heap (w:=w) (w2:=w') (by rw[addB,addB];exact(hw.tr r.bel).block _ (hS _ k1))]
   exact k2
  conv=>whnf
  refine callE_S (callE_con (Φ:=fun _ w' v w2=>v= .bool (decide (x≤0))) (fun ρ w' r=>neg1_c (fun g hg=>by have:=hS g hg;have:=r.baseLe;omega) (hFx.keep fun g hg=>(hw.tr r.bel).block g (hS g hg))) ?_)
  rintro ρ wa1 v1 wb1 r he hb rfl
  replace hw:=hw.tr hb
  clear r he hb
  generalize (wa1.heap.size,wb1.heap.size)::iv=iv1 at*
  conv=>whnf
  refine BrS.mk (fun he=>?_) (fun he=>?_)
  ·have he1:x≤0:=of_decide_eq_true he
   conv=>whnf
   intro ρe we re
   exact⟨_,rfl,hw.tr re.bel,⟨_,rfl,by omega,by omega,iff_of_true (by omega) ⟨x,List.mem_of_getElem? hxi,he1⟩⟩⟩
  have he1:¬x≤0:=of_decide_eq_false he
  conv=>whnf
  refine⟨((i+1:Nat):Int),by rw[wrap64]<;>omega,?_⟩
  conv=>whnf
  intro ρ3 w3 r3
  refine⟨(i+1,w3,_),⟨hib,hw.tr r3.bel,fun j y hj hy=>?_⟩,Sub.gen [] r3 trivial ⟨rfl,rfl,rfl,rfl,trivial⟩ (by simp[ScH]) (by simp[ScE,SV.sc,At.sc]) (by rfl) (fun lo hi h=>h),by dsimp only;omega⟩
  rcases Nat.lt_or_ge j i with h|h
  ·exact ht j y h hy
  obtain rfl:j=i:=by dsimp only at hj;omega
  rw[hxi]at hy
  injection hy with hy
  rw[←hy];exact he1
 have hib:i=xs.length:=Nat.le_antisymm hi (by simpa using hib)
 conv=>whnf
 intro ρe we re
 exact⟨_,rfl,hw.tr re.bel,⟨_,rfl,by omega,by omega,iff_of_false (by omega) fun⟨x,hm,h0⟩=>by
   obtain⟨j,hj⟩:=List.getElem?_of_mem hm
   have hjl:j<xs.length:=(List.getElem?_eq_some_iff.1 hj).1
   exact ht j x (by omega) hj h0⟩⟩
theorem containsNeg_c{S:Nat→Prop}{w:World}{v:Value}{xs:List Rat}(hS:Old S w)(hx:RowR w S S v xs):
  Con PG N.slices_ContainsFunc_of_exact_row_exact_fraction_of #[v,fnV N.exact_Definite_1] w (Ret w fun v' _=>v'= .bool (decide (∃x∈xs,x≤0))):=by
 have hw:Bel w.heap.size w w:=Bel.refl
 have hx0:=hx
 obtain⟨ax,cx,rfl,hcx,-⟩:=hx0.shape
 refine in_slices_ContainsFunc_of_exact_row_exact_fraction_of (by simp) ?_
 conv=>whnf
 refine callE_S (callE_con (Φ:=fun _ w' v w2=>∃z:Int,v= .int .i64 z∧ -1≤z∧z≤9223372036854775807∧(0≤z↔∃x∈xs,x≤0)) (fun ρ w' r=>indexNeg_c (fun g hg=>by have:=hS g hg;have:=r.baseLe;omega) (hx.keep fun g hg=>(hw.tr r.bel).block g (hS g (hg.elim id id)))) ?_)
 rintro ρ wa1 v1 wb1 r he hb ⟨z,rfl,hz1,hz2,hz⟩
 replace hw:=hw.tr hb
 clear r he hb
 generalize (wa1.heap.size,wb1.heap.size)::[]=iv1 at*
 conv=>whnf
 intro ρe we re
 exact⟨_,rfl,hw.tr re.bel,by rw[show decide (∃x∈xs,x≤0)=decide (z≥0)from Bool.eq_iff_iff.2 (by rw[decide_eq_true_eq,decide_eq_true_eq];exact hz.symm)];rfl⟩
theorem pubMinors_c{S:Nat→Prop}{w:World}{v:Value}{M:List (List (Int×Int))}{h0:Nat}(hS:Old S w)(h:RatMR w S v M)(hf:errQ M=0→(∀r∈M,Few r)∧Ht (valsM M) h0∧2≤h0∧4^M.length*h0≤500000000∧detB h0 M.length≤1000000000):
  Con PG N.exact_Minors #[v] w (Ret w fun v' w2=>(errQ M≠0∧v'= .tuple #[.slice none 0 0,.int .i64 (errQ M)])∨(errQ M=0∧∃l,v'= .tuple #[l,.int .i64 0]∧RatsC w2 (Nw (fun _=>False) w w2) l (minorsF (valsM M)))):=by
 have hw:Bel w.heap.size w w:=Bel.refl
 obtain⟨am,cm,rfl,hcm,hmm⟩:=SlicesR.shape h
 refine in_exact_Minors (by simp) ?_
 conv=>whnf
 refine callE_S (callE_con (Φ:=fun _ w' v w2=>v= .int .i64 ((errQ M:Nat):Int)) (fun ρ w' r=>xCheckSquare_c (fun g hg=>by have:=hS g hg;have:=r.baseLe;omega) (RatMR.keep h (fun g hg=>(hw.tr r.bel).block g (hS g hg)))) ?_)
 rintro ρ wa1 v1 wb1 r he hb rfl
 replace hw:=hw.tr hb
 clear r he hb
 generalize (wa1.heap.size,wb1.heap.size)::[]=iv1 at*
 conv=>whnf
 refine BrS.mk (fun he=>?_) (fun he=>?_)
 ·have he:errQ M≠0:=fun e=>by rw[e]at he;simp at he
  conv=>whnf
  intro ρe we re
  exact⟨_,rfl,hw.tr re.bel,.inl ⟨he,rfl⟩⟩
 have he:(errQ M:Nat)=0:=by
  have h4:(((errQ M:Nat):Int)==(0:Int))=true:=by simpa using he
  have:=eq_of_beq h4
  omega
 obtain⟨hfM,hht,h2,hbd,hB⟩:=hf he
 obtain⟨hE,hsq⟩:=errQ_zero he
 obtain⟨hrow,hRl,hcl⟩:=errM_zero hE
 have hAl:(valsM M).length=M.length:=by simp[valsM]
 have hrowA:∀r∈valsM M,r.length=(valsM M).length:=fun r hr=>by
  obtain⟨x,hx,rfl⟩:=List.mem_map.1 hr
  rw[List.length_map,hAl,hrow x hx,hsq]
 conv=>whnf
 refine callE_S (callE_con (Φ:=fun _ w' v w2=>MatG w2 (Nw (fun _=>False) w' w2) v (valsM M)) (fun ρ w' r=>matrixG_c (fun g hg=>by have:=hS g hg;have:=r.baseLe;omega) (RatMR.keep h (fun g hg=>(hw.tr r.bel).block g (hS g hg))) hfM (fun r hr=>by rw[hrow r hr];omega) (by omega)) ?_)
 rintro ρ wa2 v2 wb2 r he hb hn
 replace hw:=hw.tr hb
 have gA:=hn.got (S:=fun _=>False) r.baseLe (iv:=(wa2.heap.size,wb2.heap.size)::iv1) List.mem_cons_self
 clear r he hb hn
 generalize (wa2.heap.size,wb2.heap.size)::iv1=iv2 at*
 obtain⟨aA,cA,rfl⟩:=gA.shape
 conv=>whnf
 refine callE_S (callE_con (Φ:=fun _ w' v w2=>RowG w2 (Nw (fun _=>False) w' w2) v (minorsF (valsM M))) (fun ρ w' r=>minors_c (h:=h0) (Rel.old r (oldF w)) (gA.rel r (oldF w)) hrowA (by omega) hht h2 (by rw[hAl];exact hbd)) ?_)
 rintro ρ wa3 v3 wb3 r he hb hn
 replace hw:=hw.tr hb
 clear gA
 have gm:=hn.got (S:=fun _=>False) r.baseLe (iv:=(wa3.heap.size,wb3.heap.size)::iv2) List.mem_cons_self
 clear r he hb hn
 generalize (wa3.heap.size,wb3.heap.size)::iv2=iv3 at*
 obtain⟨ag,cg,rfl⟩:=gm.shape
 conv=>whnf
 refine callE_S (callE_con (Φ:=fun _ w' v w2=>RatsC w2 (Nw (fun _=>False) w' w2) v (minorsF (valsM M))) (fun ρ w' r=>rowGive_c (Rel.old r (oldF w)) (gm.rel r (oldF w)) (by rw[minorsF_length];omega) (fun q hq=>by have:=rl_minorsF hht h2 q hq;rw[hAl]at this;omega)) ?_)
 rintro ρ wa4 v4 wb4 r he hb hn
 replace hw:=hw.tr hb
 clear gm
 have hR:=RatsC.got (S:=fun _=>False) hn r.baseLe (iv:=(wa4.heap.size,wb4.heap.size)::iv3) List.mem_cons_self
 clear r he hb
 generalize (wa4.heap.size,wb4.heap.size)::iv3=iv4 at*
 clear hn
 obtain⟨a1,c1,rfl,-,-⟩:=ListR.shape hR
 conv=>whnf
 intro ρe we re
 exact⟨_,rfl,hw.tr re.bel,.inr ⟨he,_,rfl,RatsC.out hR re (oldF w)⟩⟩
theorem pubDefinite_c{S:Nat→Prop}{w:World}{v:Value}{M:List (List (Int×Int))}{h0:Nat}(hS:Old S w)(h:RatMR w S v M)(hf:errQ M=0→(∀r∈M,Few r)∧Ht (valsM M) h0∧2≤h0∧4^M.length*h0≤500000000)(h0b:h0≤1000000000):
  Con PG N.exact_Definite #[v] w (Ret w fun v' _=>(errQ M≠0∧v'= .tuple #[.bool false,.int .i64 (errQ M)])∨(errQ M=0∧∃d,v'= .tuple #[.bool d,.int .i64 0]∧(d=true→DefF (valsM M))∧(DefF (valsM M)→d=true))):=by
 have hw:Bel w.heap.size w w:=Bel.refl
 obtain⟨am,cm,rfl,hcm,hmm⟩:=SlicesR.shape h
 refine in_exact_Definite (by simp) ?_
 conv=>whnf
 refine callE_S (callE_con (Φ:=fun _ w' v w2=>v= .int .i64 ((errQ M:Nat):Int)) (fun ρ w' r=>xCheckSquare_c (fun g hg=>by have:=hS g hg;have:=r.baseLe;omega) (RatMR.keep h (fun g hg=>(hw.tr r.bel).block g (hS g hg)))) ?_)
 rintro ρ wa1 v1 wb1 r he hb rfl
 replace hw:=hw.tr hb
 clear r he hb
 generalize (wa1.heap.size,wb1.heap.size)::[]=iv1 at*
 conv=>whnf
 refine BrS.mk (fun he=>?_) (fun he=>?_)
 ·have he:errQ M≠0:=fun e=>by rw[e]at he;simp at he
  conv=>whnf
  intro ρe we re
  exact⟨_,rfl,hw.tr re.bel,.inl ⟨he,rfl⟩⟩
 have he:(errQ M:Nat)=0:=by
  have h4:(((errQ M:Nat):Int)==(0:Int))=true:=by simpa using he
  have:=eq_of_beq h4
  omega
 obtain⟨hfM,hht,h2,hbd⟩:=hf he
 obtain⟨hE,hsq⟩:=errQ_zero he
 obtain⟨hrow,hRl,hcl⟩:=errM_zero hE
 have hAl:(valsM M).length=M.length:=by simp[valsM]
 have hrowA:∀r∈valsM M,r.length=(valsM M).length:=fun r hr=>by
  obtain⟨x,hx,rfl⟩:=List.mem_map.1 hr
  rw[List.length_map,hAl,hrow x hx,hsq]
 conv=>whnf
 refine callE_S (callE_con (Φ:=fun _ w' v w2=>MatG w2 (Nw (fun _=>False) w' w2) v (valsM M)) (fun ρ w' r=>matrixG_c (fun g hg=>by have:=hS g hg;have:=r.baseLe;omega) (RatMR.keep h (fun g hg=>(hw.tr r.bel).block g (hS g hg))) hfM (fun r hr=>by rw[hrow r hr];omega) (by omega)) ?_)
 rintro ρ wa2 v2 wb2 r he hb hn
 replace hw:=hw.tr hb
 have gA:=hn.got (S:=fun _=>False) r.baseLe (iv:=(wa2.heap.size,wb2.heap.size)::iv1) List.mem_cons_self
 clear r he hb hn
 generalize (wa2.heap.size,wb2.heap.size)::iv1=iv2 at*
 obtain⟨aA,cA,rfl⟩:=gA.shape
 rw[hAl]at gA hrowA ⊢
 clear hf h hfM
 generalize valsM M=A at*
 generalize M.length=R at*
 conv=>whnf
 refine⟨Nat×World×Iv,fun z=>⟨[(5,.o (.v (.slice aA R cA))),(16,.o (.v (.int .i64 R))),(17,.o (.v (.int .i64 ((z.1:Nat):Int))))],[],0,z.2.2,z.2.1⟩,fun z=>R-z.1,
  fun z=>z.1≤R∧Bel w.heap.size w z.2.1∧MatG z.2.1 (Cv (fun _=>False) w.heap.size z.2.2) (.slice aA R cA) A∧∀i k,i<z.1→k<i→at2 A i k=at2 A k i,?_,?_⟩
 ·intro ρ w' r
  exact⟨(0,w',_),⟨Nat.zero_le _,hw.tr r.bel,gA.rel r (oldF w),fun i k hi=>by dsimp only at hi;omega⟩,Sub.gen [] r trivial ⟨rfl,rfl,rfl,trivial⟩ (by simp[ScH]) (by simp[ScE,SV.sc,At.sc]) (by rfl) (fun lo hi h=>h)⟩
 clear hw gA
 rintro⟨i,w1,iv⟩ ⟨hi,hw,gA,hs⟩
 dsimp only at hi hw gA hs ⊢
 conv=>whnf
 refine BrS.mk (fun hib=>?_) (fun hib=>?_)
 ·have hib:i<R:=by simpa using hib
  conv=>whnf
  refine⟨Nat×World×Iv,fun z=>⟨[(5,.o (.v (.slice aA R cA))),(16,.o (.v (.int .i64 R))),(17,.o (.v (.int .i64 ((i:Nat):Int)))),(6,.o (.v (.int .i64 ((i:Nat):Int)))),(20,.o (.v (.int .i64 ((i:Nat):Int)))),(21,.o (.v (.int .i64 ((z.1:Nat):Int))))],[],0,z.2.2,z.2.1⟩,fun z=>i-z.1,
   fun z=>z.1≤i∧Bel w.heap.size w z.2.1∧MatG z.2.1 (Cv (fun _=>False) w.heap.size z.2.2) (.slice aA R cA) A∧∀k,k<z.1→at2 A i k=at2 A k i,?_,?_⟩
  ·intro ρ w' r
   exact⟨(0,w',_),⟨Nat.zero_le _,hw.tr r.bel,gA.rel r (oldF w),fun k hk=>by dsimp only at hk;omega⟩,Sub.gen [] r trivial ⟨rfl,rfl,rfl,rfl,rfl,rfl,trivial⟩ (by simp[ScH]) (by simp[ScE,SV.sc,At.sc]) (by rfl) (fun lo hi h=>h)⟩
  clear hw gA
  rintro⟨k,w1,iv⟩ ⟨hk,hw,gA,ht⟩
  dsimp only at hk hw gA ht ⊢
  conv=>whnf
  refine BrS.mk (fun hkb=>?_) (fun hkb=>?_)
  ·have hkb:k<i:=by simpa using hkb
   obtain⟨rd,hrd⟩:∃r,A[i]? =some r:=⟨_,List.getElem?_eq_getElem (by omega)⟩
   have hld:=hrowA rd (List.mem_of_getElem? hrd)
   obtain⟨qd,hqd⟩:∃q,rd[k]? =some q:=⟨_,List.getElem?_eq_getElem (by omega)⟩
   have hed:at2 A i k=qd:=by unfold at2;simp[List.getD,hrd,hqd]
   obtain⟨add,ud,had,hRd,k1d,k2d⟩:=SlicesR.load (show MatR _ _ _ _ from gA) hrd
   obtain⟨aud,cud,rfl⟩:=SlicesR.rowOf hRd
   obtain⟨aed,csd,haed,hFd,hled⟩:=hRd.load hqd
   obtain⟨d0,d1,d2,d3,d4,d5,d6,d7,rfl,hFd⟩:=hFd
   obtain⟨re,hre⟩:∃r,A[k]? =some r:=⟨_,List.getElem?_eq_getElem (by omega)⟩
   have hle:=hrowA re (List.mem_of_getElem? hre)
   obtain⟨qe,hqe⟩:∃q,re[i]? =some q:=⟨_,List.getElem?_eq_getElem (by omega)⟩
   have hee:at2 A k i=qe:=by unfold at2;simp[List.getD,hre,hqe]
   obtain⟨ade,ue,hae,hRe,k1e,k2e⟩:=SlicesR.load (show MatR _ _ _ _ from gA) hre
   obtain⟨aue,cue,rfl⟩:=SlicesR.rowOf hRe
   obtain⟨aee,cse,haee,hFe,hlee⟩:=hRe.load hqe
   obtain⟨e0,e1,e2,e3,e4,e5,e6,e7,rfl,hFe⟩:=hFe
   have hqd2:=hht.at hrd qd (List.mem_of_getElem? hqd)
   have hqe2:=hht.at hre qe (List.mem_of_getElem? hqe)
   conv=>whnf
   refine drawn_of_pi hτ hmix [.x 0,.x 1,.x 2,.x 3,.x 4,.x 5,.x 6,.x 7,.x 8,.x 9,.x 10,.x 11,.x 12,.x 13,.x 14,.x 15] (by kernel_rfl) (by kernel_rfl) ?_
   conv=>whnf
   refine⟨add,had,⟨by omega,by omega⟩,?_⟩
   conv=>whnf
   refine⟨.slice aud rd.length cud,fun ρ w' r=>?_,?_⟩
   ·rw[Int.toNat_natCast,cell_of_heap (w:=w1) (w2:=w') (by rw[addB];exact Rel.same r (oldF w) k1d)]
    exact k2d
   conv=>whnf
   refine⟨aed,haed,⟨by omega,by omega⟩,?_⟩
   conv=>whnf
   refine⟨[.bool d0,.slice d1 d2 d3,.bool d4,.slice d5 d6 d7],rfl,fun ρ w' r j u hu=>?_,?_⟩
   ·obtain⟨z1,z2⟩:=hled j u hu
    rw[Int.toNat_natCast,cell_of_heap (w:=w1) (w2:=w') (by rw[addB,addB];exact Rel.same r (oldF w) z1)]
    exact z2
   conv=>whnf
   refine⟨ade,hae,⟨by omega,by omega⟩,?_⟩
   conv=>whnf
   refine⟨.slice aue re.length cue,fun ρ w' r=>?_,?_⟩
   ·rw[Int.toNat_natCast,cell_of_heap (w:=w1) (w2:=w') (by rw[addB];exact Rel.same r (oldF w) k1e)]
    exact k2e
   conv=>whnf
   refine⟨aee,haee,⟨by omega,by omega⟩,?_⟩
   conv=>whnf
   refine⟨[.bool e0,.slice e1 e2 e3,.bool e4,.slice e5 e6 e7],rfl,fun ρ w' r j u hu=>?_,?_⟩
   ·obtain⟨z1,z2⟩:=hlee j u hu
    rw[Int.toNat_natCast,cell_of_heap (w:=w1) (w2:=w') (by rw[addB,addB];exact Rel.same r (oldF w) z1)]
    exact z2
   conv=>whnf
   refine callE_con (Φ:=fun _ w' v w2=>v= .int .i64 (rs (qd-qe))) (fun ρ w' r=>fcmp_c (Rel.old r (oldF w)) (hFd.rel r (oldF w)) (hFe.rel r (oldF w)) (by have:=h0b;omega) (by have:=h0b;omega)) ?_
   rintro ρ wa11 v11 wb11 r he hb rfl
   replace hw:=hw.tr hb
   replace gA:=gA.past (iv':=(wa11.heap.size,wb11.heap.size)::iv) r (oldF w) he fun x hx=>List.mem_cons_of_mem _ hx
   clear r he hb
   generalize (wa11.heap.size,wb11.heap.size)::iv=iv11 at*
   conv=>whnf
   clear hRd hRe hFd hFe hled hlee k1d k1e k2d k2e
   refine BrS.mk (fun hc=>?_) (fun hc=>?_)
   ·have hc:qd≠qe:=fun e=>by rw[rs_eq.2 e]at hc;simp at hc
    conv=>whnf
    intro ρe we re
    exact⟨_,rfl,hw.tr re.bel,.inr ⟨he,false,rfl,fun h=>(by cases h),fun h=>absurd (by rw[←hed,←hee];exact h.1 i k (by omega) hkb) hc⟩⟩
   have hc:qd=qe:=rs_eq.1 (by simpa using hc)
   conv=>whnf
   refine⟨((k+1:Nat):Int),by rw[wrap64]<;>omega,?_⟩
   conv=>whnf
   intro ρ3 w3 r3
   refine⟨(k+1,w3,_),⟨hkb,hw.tr r3.bel,gA.rel r3 (oldF w),fun j hj=>?_⟩,Sub.gen [] r3 trivial ⟨rfl,rfl,rfl,rfl,rfl,rfl,trivial⟩ (by simp[ScH]) (by simp[ScE,SV.sc,At.sc]) (by rfl) (fun lo hi h=>h),by dsimp only;omega⟩
   rcases Nat.lt_or_ge j k with h1|h1
   ·exact ht j h1
   ·rw[show j=k by dsimp only at hj;omega,hed,hee,hc]
  have hkb:k=i:=Nat.le_antisymm hk (by simpa using hkb)
  conv=>whnf
  refine⟨((i+1:Nat):Int),by rw[wrap64]<;>omega,?_⟩
  conv=>whnf
  intro ρ3 w3 r3
  refine⟨(i+1,w3,_),⟨hib,hw.tr r3.bel,gA.rel r3 (oldF w),fun i2 k2 h1 h2=>?_⟩,Sub.gen [] r3 trivial ⟨rfl,rfl,rfl,trivial⟩ (by simp[ScH]) (by simp[ScE,SV.sc,At.sc]) (by rfl) (fun lo hi h=>h),by dsimp only;omega⟩
  rcases Nat.lt_or_ge i2 i with h3|h3
  ·exact hs i2 k2 h3 h2
  ·obtain rfl:i2=i:=by dsimp only at h1;omega
   exact ht k2 (by omega)
 have hib:i=R:=Nat.le_antisymm hi (by simpa using hib)
 subst hib
 conv=>whnf
 refine callE_S (callE_con (Φ:=fun _ w' v w2=>RowG w2 (Nw (fun _=>False) w' w2) v (minorsF A)) (fun ρ w' r=>minors_c (h:=h0) (Rel.old r (oldF w)) (gA.rel r (oldF w)) (fun r hr=>(hrowA r hr).trans hAl.symm) (by omega) hht h2 (by rw[hAl];exact hbd)) ?_)
 rintro ρ wa21 v21 wb21 r he hb hn
 replace hw:=hw.tr hb
 clear gA
 have gm:=hn.got (S:=fun _=>False) r.baseLe (iv:=(wa21.heap.size,wb21.heap.size)::iv) List.mem_cons_self
 clear r he hb hn
 generalize (wa21.heap.size,wb21.heap.size)::iv=iv21 at*
 obtain⟨ag,cg,rfl⟩:=gm.shape
 conv=>whnf
 refine callE_S (callE_con (Φ:=fun _ w' v w2=>v= .bool (decide (∃x∈minorsF A,x≤0))) (fun ρ w' r=>containsNeg_c (Rel.old r (oldF w)) (gm.rel r (oldF w))) ?_)
 rintro ρ wa22 v22 wb22 r he hb rfl
 replace hw:=hw.tr hb
 clear gm
 clear r he hb
 generalize (wa22.heap.size,wb22.heap.size)::iv21=iv22 at*
 conv=>whnf
 intro ρe we re
 exact⟨_,rfl,hw.tr re.bel,.inr ⟨he,_,rfl,fun h=>⟨fun i k hi hk=>hs i k (by omega) hk,fun q hq=>Rat.not_le.1 fun h0=>by rw[decide_eq_true (⟨q,hq,h0⟩:∃x∈minorsF A,x≤0)]at h;cases h⟩,fun h=>by rw[decide_eq_false (fun ⟨q,hq,h0⟩=>absurd (h.2 q hq) (Rat.not_lt.2 h0):¬ ∃x∈minorsF A,x≤0)];rfl⟩⟩
end Go.Ex

/- Sums over rows: solutions of a system differ by sums of the kernel basis; a system whose right side is a combination of the columns has no contradiction. Plain. -/
namespace Go.Ex
def sumL:List Nat→(Nat→Rat)→Rat
 |[],_=>0
 |t::l,g=>g t+sumL l g
def timesF(M:List (List Rat))(x:List Rat):List Rat:=M.map fun r=>dotTo r x r.length
section
variable{M:List (List Rat)}{x:List Rat}{n:Nat}
end
/-- the difference of two solutions, told by the kernel basis -/
structure Diff(A:List (List Rat))(pv:List Nat)(n:Nat)(x:List Rat):Prop where
 up:pv.Pairwise (· < ·)
 lt:∀p∈pv,p<n
 le:pv.length≤A.length
 unit:∀i j,i<pv.length→j<A.length→at2 A j (pv.getD i 0)=if j=i then 1 else 0
 sum:∀j,j<A.length→sumL (List.range n) (fun t=>at2 A j t*x.getD t 0)=at2 A j n
section
variable{A:List (List Rat)}{pv:List Nat}{n:Nat}{x:List Rat}
end
end Go.Ex

/- Definite matrices: rows are independent just if the rank is full, just if the matrix of their products is definite. Plain. -/
namespace Go.Ex
theorem sumR_fub(f:Nat→Nat→Rat)(m:Nat):∀n,sumR (fun i=>sumR (f i) m) n=sumR (fun j=>sumR (fun i=>f i j) n) m
 |0=>(sumR_zero m).symm
 |n+1=>by
  show sumR (fun i=>sumR (f i) m) n+sumR (f n) m=sumR (fun j=>sumR (fun i=>f i j) n+f n j) m
  rw[sumR_add,sumR_fub f m n]
theorem dotTo_sumR(x y:List Rat):∀n,dotTo x y n=sumR (fun t=>x.getD t 0*y.getD t 0) n
 |0=>rfl
 |n+1=>by rw[dotTo,dotTo_sumR x y n];rfl
theorem sumR_nonneg{f:Nat→Rat}:∀{n:Nat},(∀k,k<n→0≤f k)→0≤sumR f n
 |0,_=>Rat.le_refl
 |n+1,h=>by
  have h1:=sumR_nonneg (n:=n) fun k hk=>h k (by omega)
  have h2:=h n (by omega)
  show 0≤sumR f n+f n
  grind
theorem sumR_nonpos{f:Nat→Rat}:∀{n:Nat},(∀k,k<n→0≤f k)→sumR f n≤0→∀k,k<n→f k=0
 |0,_,_,k,hk=>by omega
 |n+1,h,h0,k,hk=>by
  have h1:=sumR_nonneg (n:=n) fun k hk=>h k (by omega)
  have h2:=h n (by omega)
  have h3:sumR f n+f n≤0:=h0
  rcases Nat.lt_or_ge k n with h4|h4
  ·exact sumR_nonpos (fun k hk=>h k (by omega)) (by grind) k h4
  ·rw[show k=n by omega];grind
/-- rows of w elements are independent -/
def Ind(m:Mx)(n w:Nat):Prop:=∀x:Nat→Rat,(∀t,t<w→sumR (fun i=>x i*m i t) n=0)→∀i,i<n→x i=0
def colS(m:Mx)(x:Nat→Rat)(n t:Nat):Rat:=sumR (fun i=>x i*m i t) n
theorem qf_gram(m:Mx)(x:Nat→Rat)(n w:Nat):qf (fun i k=>sumR (fun t=>m i t*m k t) w) x n=sumR (fun t=>colS m x n t*colS m x n t) w:=by
 unfold qf
 have e:∀i,i<n→x i*sumR (fun j=>sumR (fun t=>m i t*m j t) w*x j) n=sumR (fun t=>x i*m i t*colS m x n t) w:=fun i _=>by
  rw[←sumR_mul,sumR_congr (g:=fun j=>sumR (fun t=>x i*m i t*(x j*m j t)) w) fun j _=>by rw[←sumR_mulr,←sumR_mul];exact sumR_congr fun t _=>by grind,sumR_fub]
  exact sumR_congr fun t _=>by rw[sumR_mul];rfl
 rw[sumR_congr e,sumR_fub]
 exact sumR_congr fun t _=>by rw[sumR_mulr];rfl
theorem qp_ind{m:Mx}{n w:Nat}:Qp (fun i k=>sumR (fun t=>m i t*m k t) w) n↔Ind m n w:=by
 constructor
 ·intro h x hx i hi
  refine Decidable.byContradiction fun hne=>?_
  have h1:=h x ⟨i,hi,hne⟩
  rw[qf_gram,sumR_congr (g:=fun _=>0) fun t ht=>by rw[show colS m x n t=0 from hx t ht,Rat.mul_zero],sumR_zero]at h1
  exact absurd h1 (by decide)
 ·intro h x ⟨i,hi,hne⟩
  rw[qf_gram]
  refine Decidable.byContradiction fun h1=>hne (h x (fun t ht=>?_) i hi)
  have h2:=sumR_nonpos (f:=fun t=>colS m x n t*colS m x n t) (fun k _=>sq_nonneg _) (by grind) t ht
  exact(Rat.mul_eq_zero.1 h2).elim id id
theorem sumR_swp(f:Nat→Rat){n a b:Nat}(ha:a<n)(hb:b<n):sumR (fun i=>f (swp a b i)) n=sumR f n:=by
 have h1:sumR (fun i=>(if i=a then f b-f a else 0)+(if i=b then f a-f b else 0)) n=0:=by
  rw[sumR_add,sumR_one ha fun k _ hne=>if_neg hne,sumR_one hb fun k _ hne=>if_neg hne,if_pos rfl,if_pos rfl]
  grind
 have h2:sumR (fun i=>f (swp a b i)) n-sumR f n=0:=by
  rw[←sumR_sub,←h1]
  refine sumR_congr fun k _=>?_
  unfold swp
  by_cases h3:k=a
  ·subst h3
   rw[if_pos rfl,if_pos rfl]
   by_cases h4:k=b
   ·subst h4;rw[if_pos rfl];grind
   ·rw[if_neg h4];grind
  ·rw[if_neg h3,if_neg h3]
   by_cases h4:k=b
   ·subst h4;rw[if_pos rfl,if_pos rfl];grind
   ·rw[if_neg h4,if_neg h4];grind
 grind
theorem swp_swp(a b i:Nat):swp a b (swp a b i)=i:=by
 unfold swp
 by_cases h1:i=a
 ·rw[if_pos h1]
  by_cases h2:b=a
  ·rw[if_pos h2];omega
  ·rw[if_neg h2,if_pos rfl];omega
 ·rw[if_neg h1]
  by_cases h2:i=b
  ·rw[if_pos h2,if_pos rfl];omega
  ·rw[if_neg h2,if_neg h1,if_neg h2]
theorem swp_lt{a b i n:Nat}(ha:a<n)(hb:b<n)(hi:i<n):swp a b i<n:=by unfold swp;split<;>(try split)<;>omega
theorem Ind.swp{m:Mx}{n w a b:Nat}(h:Ind m n w)(ha:a<n)(hb:b<n):Ind (fun i t=>m (swp a b i) t) n w:=fun x hx i hi=>by
 have h1:=h (fun i=>x (Go.Ex.swp a b i)) (fun t ht=>by
  rw[←hx t ht,←sumR_swp (fun i=>x i*m (Go.Ex.swp a b i) t) ha hb]
  exact sumR_congr fun k _=>by simp only[swp_swp]) (Go.Ex.swp a b i) (swp_lt ha hb hi)
 simp only[swp_swp]at h1
 exact h1
section
variable{m m':Mx}{n w p:Nat}{κ:Rat}{q:Nat→Rat}
def skipS(p:Nat)(q x:Nat→Rat)(n:Nat):Rat:=sumR (fun j=>if j=p then 0 else x j*q j) n
theorem mix_sum(hp:p<n)(h1:∀t,t<w→m' p t=κ*m p t)(h2:∀j t,j<n→j≠p→t<w→m' j t=m j t+q j*m' p t)(x:Nat→Rat){t:Nat}(ht:t<w):
  sumR (fun j=>x j*m' j t) n=sumR (fun j=>(if j=p then κ*(x p+skipS p q x n)else x j)*m j t) n:=by
 have h3:sumR (fun j=>x j*m' j t) n-sumR (fun j=>(if j=p then κ*(x p+skipS p q x n)else x j)*m j t) n=0:=by
  rw[←sumR_sub]
  have h4:∀j,j<n→x j*m' j t-(if j=p then κ*(x p+skipS p q x n)else x j)*m j t=(if j=p then 0 else x j*q j)*(κ*m p t)+(if j=p then -(skipS p q x n*(κ*m p t))else 0):=fun j hj=>by
   by_cases h5:j=p
   ·subst h5
    rw[if_pos rfl,if_pos rfl,if_pos rfl,h1 t ht]
    grind
   ·rw[if_neg h5,if_neg h5,if_neg h5,h2 j t hj h5 ht,h1 t ht]
    grind
  rw[sumR_congr h4,sumR_add,sumR_mulr,sumR_one hp fun k _ hne=>if_neg hne,if_pos rfl]
  unfold skipS
  grind
 grind
theorem Ind.mix(hi:Ind m n w)(hκ:κ≠0)(hp:p<n)(h1:∀t,t<w→m' p t=κ*m p t)(h2:∀j t,j<n→j≠p→t<w→m' j t=m j t+q j*m' p t):Ind m' n w:=fun x hx=>by
 have h3:=hi _ fun t ht=>(mix_sum hp h1 h2 x ht).symm.trans (hx t ht)
 have h4:∀j,j<n→j≠p→x j=0:=fun j hj hne=>by have:=h3 j hj;rwa [if_neg hne]at this
 have h5:skipS p q x n=0:=by
  unfold skipS
  rw[sumR_congr (g:=fun _=>0) fun j hj=>?_,sumR_zero]
  by_cases h6:j=p
  ·rw[if_pos h6]
  ·rw[if_neg h6,h4 j hj h6,Rat.zero_mul]
 have h6:=h3 p hp
 rw[if_pos rfl,h5,Rat.add_zero]at h6
 intro i hi
 by_cases h7:i=p
 ·rw[h7];exact(Rat.mul_eq_zero.1 h6).resolve_left hκ
 ·exact h4 i hi h7
theorem Ind.unmix(hi:Ind m' n w)(hκ:κ≠0)(hp:p<n)(h1:∀t,t<w→m' p t=κ*m p t)(h2:∀j t,j<n→j≠p→t<w→m' j t=m j t+q j*m' p t):Ind m n w:=fun y hy=>by
 have hk:κ*κ⁻¹=1:=Rat.mul_inv_cancel _ hκ
 have h3:=hi (fun j=>if j=p then y p*κ⁻¹-skipS p q y n else y j) fun t ht=>by
  rw[mix_sum hp h1 h2 _ ht,←hy t ht]
  refine sumR_congr fun j hj=>?_
  have h5:skipS p q (fun j=>if j=p then y p*κ⁻¹-skipS p q y n else y j) n=skipS p q y n:=by
   unfold skipS
   refine sumR_congr fun i _=>?_
   by_cases h6:i=p
   ·rw[if_pos h6,if_pos h6]
   ·rw[if_neg h6,if_neg h6];simp only[if_neg h6]
  rw[h5,if_pos rfl]
  by_cases h6:j=p
  ·rw[if_pos h6,h6];grind
  ·rw[if_neg h6,if_neg h6]
 have h4:∀j,j<n→j≠p→y j=0:=fun j hj hne=>by have:=h3 j hj;rwa [if_neg hne]at this
 have h5:skipS p q y n=0:=by
  unfold skipS
  rw[sumR_congr (g:=fun _=>0) fun j hj=>?_,sumR_zero]
  by_cases h6:j=p
  ·rw[if_pos h6]
  ·rw[if_neg h6,h4 j hj h6,Rat.zero_mul]
 have h6:=h3 p hp
 rw[if_pos rfl,h5]at h6
 intro i hi
 by_cases h7:i=p
 ·rw[h7];grind
 ·exact h4 i hi h7
end
theorem Ind.congr{m m':Mx}{n w:Nat}(h:Ind m n w)(e:∀i t,i<n→t<w→m' i t=m i t):Ind m' n w:=fun x hx=>h x fun t ht=>by
 rw[←hx t ht]
 exact sumR_congr fun i hi=>by rw[e i t hi ht]
theorem step_ind{s:List (List Rat)×List Nat}{c w:Nat}(hl:Len w s.1)(hle:s.2.length≤s.1.length):Ind (at2 (stepF s c).1) s.1.length w↔Ind (at2 s.1) s.1.length w:=by
 rcases stepF_cases c hle with⟨e,-⟩|⟨k,h1,h2,h3,e⟩
 ·rw[e]
 ·obtain⟨r1,r2⟩:=stepF_rows hl h1 h2 h3 e
  have hp:s.2.length<s.1.length:=by omega
  have hs:swp s.2.length k s.2.length=k:=by unfold swp;rw[if_pos rfl]
  have hκ:(1 / at2 s.1 k c)≠0:=fun e=>by have:=mul_inv1 h3;rw[e,Rat.mul_zero]at this;exact absurd this (by decide)
  have q1:∀t,t<w→at2 (stepF s c).1 s.2.length t=(1 / at2 s.1 k c)*(fun i t=>at2 s.1 (swp s.2.length k i) t) s.2.length t:=fun t _=>by
   simp only[hs]
   rw[r1,Rat.mul_comm]
  have q2:∀j t,j<s.1.length→j≠s.2.length→t<w→at2 (stepF s c).1 j t=(fun i t=>at2 s.1 (swp s.2.length k i) t) j t+(fun j=> -(at2 s.1 (swp s.2.length k j) c)) j*at2 (stepF s c).1 s.2.length t:=fun j t hj hne ht=>by
   rw[r2 j hj hne t ht,r1]
   have:swp s.2.length k j=if j=k then s.2.length else j:=by unfold swp;rw[if_neg hne]
   simp only[this]
  constructor
  ·intro h
   have h4:=(Ind.unmix h hκ hp q1 q2).swp hp h2
   exact h4.congr fun i t _ _=>by simp only[swp_swp]
  ·intro h
   exact Ind.mix (h.swp hp h2) hκ hp q1 q2
theorem reduceF_ind{M:List (List Rat)}{w:Nat}(hl:Len w M):∀cols,cols≤w→(Ind (at2 (reduceF M cols).1) M.length w↔Ind (at2 M) M.length w)
 |0,_=>Iff.rfl
 |c+1,h=>by
  have ih:=reduceF_ind hl c (by omega)
  have hr:=reduceF_red hl c (by omega)
  have h1:=reduceF_length M c
  rw[←ih]
  have h2:=step_ind (c:=c) hr.1 hr.2.1
  rw[h1]at h2
  rw[←h2]
  unfold reduceF
  rw[List.range_succ,List.foldl_append]
  exact Iff.rfl
/-- rows of a square matrix are independent just if the rank is full -/
theorem ind_rank{M:List (List Rat)}(hl:Len M.length M):Ind (at2 M) M.length M.length↔(reduceF M M.length).2.length=M.length:=by
 rw[←reduceF_ind hl M.length (Nat.le_refl _)]
 obtain⟨-,hle,hz,hpc,hu⟩:=reduceF_red hl M.length (Nat.le_refl _)
 rw[reduceF_length]at hle hz hu
 constructor
 ·intro h
  refine Decidable.byContradiction fun hne=>?_
  have h1:=h (fun i=>if i=M.length-1 then 1 else 0) (fun t ht=>by
   rw[sumR_one (i:=M.length-1) (by omega) fun k _ hk=>by simp only[if_neg hk,Rat.zero_mul],hz _ t (by omega) (by omega) ht,Rat.mul_zero]) (M.length-1) (by omega)
  rw[if_pos rfl]at h1
  exact absurd h1 (by decide)
 ·intro e x hx i hi
  have h1:=hx ((reduceF M M.length).2.getD i 0) (hpc _ (by rw[List.getD,List.getElem?_eq_getElem (by omega)];exact List.getElem_mem _))
  rw[sumR_one hi fun k hk hne=>by rw[hu i k (by omega) hk,if_neg hne,Rat.mul_zero],hu i i (by omega) hi,if_pos rfl,Rat.mul_one]at h1
  exact h1
/-- the products of the rows -/
def gramF(M:List (List Rat)):List (List Rat):=M.map fun r=>M.map fun s=>dotTo r s r.length
theorem gramF_length(M:List (List Rat)):(gramF M).length=M.length:=List.length_map ..
theorem gramF_len(M:List (List Rat)):Len M.length (gramF M):=fun r hr=>by
 obtain⟨a,_,rfl⟩:=List.mem_map.1 hr
 exact List.length_map ..
theorem gramF_at{M:List (List Rat)}{n i k:Nat}(hl:Len n M)(hi:i<M.length)(hk:k<M.length):at2 (gramF M) i k=sumR (fun t=>at2 M i t*at2 M k t) n:=by
 have h1:(M[i]).length=n:=hl _ (List.getElem_mem hi)
 unfold at2 gramF
 simp only[List.getD,List.getElem?_map,List.getElem?_eq_getElem hi,List.getElem?_eq_getElem hk,Option.map_some,Option.getD_some]
 rw[dotTo_sumR,h1]
 rfl
theorem defF_iff(M:List (List Rat)):DefF M↔Sy (at2 M) M.length∧Po (at2 M) M.length:=by
 constructor
 ·intro⟨h1,h2⟩
  refine⟨fun i j hi hj=>?_,fun k hk=>?_⟩
  ·rcases Nat.lt_trichotomy j i with h|h|h
   ·exact h1 i j hi h
   ·rw[h]
   ·exact(h1 j i hj h).symm
  ·have:=h2 _ (List.mem_of_getElem? (minorsF_get hk))
   rwa [subD_at2]at this
 ·intro⟨h1,h2⟩
  refine⟨fun i k hi hk=>h1 i k hi (by omega),fun q hq=>?_⟩
  obtain⟨k,hk⟩:=List.getElem?_of_mem hq
  have hl:=(List.getElem?_eq_some_iff.1 hk).1
  rw[minorsF_length]at hl
  rw[minorsF_get hl]at hk
  injection hk with hk
  rw[←hk,subD_at2]
  exact h2 k hl
theorem qf_congr{m m':Mx}{x:Nat→Rat}{n:Nat}(h:∀i j,i<n→j<n→m i j=m' i j):qf m x n=qf m' x n:=sumR_congr fun i hi=>by rw[sumR_congr fun j hj=>by rw[h i j hi hj]]
/-- the products of the rows are definite just if the rank is full -/
theorem gram_rank{M:List (List Rat)}(hl:Len M.length M):DefF (gramF M)↔(reduceF M M.length).2.length=M.length:=by
 rw[defF_iff,gramF_length,←ind_rank hl,←qp_ind]
 have hs:Sy (at2 (gramF M)) M.length:=fun i j hi hj=>by
  rw[gramF_at hl hi hj,gramF_at hl hj hi]
  exact sumR_congr fun t _=>Rat.mul_comm ..
 have hc:Qp (at2 (gramF M)) M.length↔Qp (fun i k=>sumR (fun t=>at2 M i t*at2 M k t) M.length) M.length:=by
  constructor<;>intro h x hx<;>have h1:=h x hx
  ·rwa [qf_congr fun i j hi hj=>gramF_at hl hi hj]at h1
  ·rwa [←qf_congr fun i j hi hj=>gramF_at hl hi hj]at h1
 rw[←hc]
 exact⟨fun h=>po_q _ _ hs h.2,fun h=>⟨hs,q_po _ _ hs h⟩⟩
theorem getD_timesF{M:List (List Rat)}{x:List Rat}{i:Nat}(hi:i<M.length):(timesF M x).getD i 0=dotTo (M.getD i []) x (M.getD i []).length:=by
 unfold timesF
 simp only[List.getD,List.getElem?_map,List.getElem?_eq_getElem hi,Option.map_some,Option.getD_some]
theorem dot_times{M:List (List Rat)}{x:List Rat}(hl:Len M.length M):dotTo x (timesF M x) M.length=qf (at2 M) (fun i=>x.getD i 0) M.length:=by
 rw[dotTo_sumR]
 refine sumR_congr fun i hi=>?_
 rw[getD_timesF hi,hl.getD hi,dotTo_sumR]
 rfl
theorem DefF.form{M:List (List Rat)}{x:List Rat}(h:DefF M)(hl:Len M.length M)(hx:∃i,i<M.length∧x.getD i 0≠0):0<dotTo x (timesF M x) M.length:=by
 rw[dot_times hl]
 obtain⟨h1,h2⟩:=(defF_iff M).1 h
 exact po_q _ _ h1 h2 _ hx
theorem DefF.prod{M:List (List Rat)}{k:Nat}(h:DefF M)(hk:k<M.length):subD M 0 (k+1)≤prodR (fun j=>at2 M j j) (k+1):=by
 obtain⟨h1,h2⟩:=(defF_iff M).1 h
 rw[subD_at2]
 exact hadamard _ _ (fun i j hi hj=>h1 i j (by omega) (by omega)) (fun i hi=>h2 i (by omega))
end Go.Ex

/- Basic of the reference: the basic solution of a system. Printed by program. No condition but sizes. -/
namespace Go.Ex
open Go Go.Sx Go.Proofs

end Go.Ex

/- Dot, Before and IsContradiction of the reference. Printed by program. No condition but sizes. -/
namespace Go.Ex
open Go Go.Sx Go.Proofs

theorem rDot_c{S:Nat→Prop}{w:World}{v u:Value}{xs ys:List Rat}{h:Nat}(hS:Old S w)(hx:RatsL w S v xs)(hy:RatsL w S u ys)(hl:xs.length=ys.length)(hqx:∀q∈xs,rl q+1≤h)(hqy:∀q∈ys,rl q+1≤h)(h2:2≤h)(hb:2*h*xs.length≤90000):
  Con PG N.ref01_Dot #[v,u] w (Ret w fun v' w2=>RatC w2 (Nw (fun _=>False) w w2) v' (dotTo xs ys xs.length)):=by
 have hw:Bel w.heap.size w w:=Bel.refl
 obtain⟨ax,cx,rfl,hcx,hmx⟩:=hx.shape
 obtain⟨ay,cy,rfl,hcy,-⟩:=hy.shape
 unfold maxLen at hmx
 refine in_ref01_Dot (by simp) ?_
 conv=>whnf
 refine callE_S (callE_con (Φ:=fun _ w' v w2=>RatC w2 (Nw (fun _=>False) w' w2) v (((0:Int):Rat))) (fun ρ w' r=>rWholeAll_c 0 w' (by decide) (by decide)) ?_)
 rintro ρ wa1 v1 wb1 r he hb hn
 replace hw:=hw.tr hb
 have hd:=hn.got (S:=fun _=>False) r.baseLe (iv:=(wa1.heap.size,wb1.heap.size)::[]) List.mem_cons_self
 clear r he hb hn
 generalize (wa1.heap.size,wb1.heap.size)::[]=iv1 at*
 obtain⟨s1_0,s1_1,s1_2,s1_3,s1_4,s1_5,s1_6,s1_7,rfl⟩:=hd.shape
 conv=>whnf
 rw[show ((0:Int):Rat)=dotTo xs ys 0 from rfl]at hd
 refine⟨Nat×(Bool×Bool)×(Option Addr×Option Addr)×(Nat×Nat×Nat×Nat)×World×Iv,fun z=>⟨[(0,.o (.v (.slice ax xs.length cx))),(1,.o (.v (.slice ay ys.length cy))),(4,.o (.p 0 0)),(5,.o (.p 1 0)),(6,.o (.v (.int .i64 ((z.1:Nat):Int))))],[(1,.box T.Rat [.v (.bool z.2.1.1),.v (.slice z.2.2.1.1 z.2.2.2.1.1 z.2.2.2.1.2.1),.v (.bool z.2.1.2),.v (.slice z.2.2.1.2 z.2.2.2.1.2.2.1 z.2.2.2.1.2.2.2)]),(0,.box T.Rat [.v (.bool false),.v (.slice none 0 0),.v (.bool false),.v (.slice none 0 0)])],2,z.2.2.2.2.2,z.2.2.2.2.1⟩,fun z=>xs.length-z.1,
  fun z=>z.1≤xs.length∧Bel w.heap.size w z.2.2.2.2.1∧RatC z.2.2.2.2.1 (Cv (fun _=>False) w.heap.size z.2.2.2.2.2) (.agg #[.bool z.2.1.1,.slice z.2.2.1.1 z.2.2.2.1.1 z.2.2.2.1.2.1,.bool z.2.1.2,.slice z.2.2.1.2 z.2.2.2.1.2.2.1 z.2.2.2.1.2.2.2]) (dotTo xs ys z.1),?_,?_⟩
 ·intro ρ w' r
  exact⟨(0,(s1_0,s1_4),(s1_1,s1_5),(s1_2,s1_3,s1_6,s1_7),w',iv1),⟨by simp,hw.tr r.bel,hd.rel r (oldF w)⟩,Sub.gen [] r ⟨rfl,rfl,trivial⟩ ⟨rfl,rfl,rfl,rfl,rfl,trivial⟩ (by simp[ScH,Blk.scopd,At.sc]) (by simp[ScE,SV.sc,At.sc]) (by rfl) (fun lo hi h=>h)⟩
 clear hw hd
 rintro⟨i,⟨p0,p4⟩,⟨p1,p5⟩,⟨p2,p3,p6,p7⟩,w1,iv⟩ ⟨hi,hw,hd⟩
 dsimp only at hi hw hd ⊢
 conv=>whnf
 refine BrS.mk (fun hib=>?_) (fun hib=>?_)
 ·have hib:i<xs.length:=by simpa using hib
  have hs:=rl_dotTo hqx hqy h2 i
  have hs2:2*h*i≤2*h*xs.length:=Nat.mul_le_mul_left _ hi
  have hs3:2*h*1≤2*h*xs.length:=Nat.mul_le_mul_left _ (by omega)
  obtain⟨x,hxi⟩:∃x,xs[i]? =some x:=⟨_,List.getElem?_eq_getElem hib⟩
  obtain⟨y,hyi⟩:∃x,ys[i]? =some x:=⟨_,List.getElem?_eq_getElem (by omega)⟩
  have hx3:=hqx x (List.mem_of_getElem? hxi)
  have hy3:=hqy y (List.mem_of_getElem? hyi)
  have hx2:xs.getD i 0=x:=by rw[List.getD,hxi];rfl
  have hy2:ys.getD i 0=y:=by rw[List.getD,hyi];rfl
  have hm:=rl_mul x y
  obtain⟨adx,csx,hax,hFx,-,hlx⟩:=ListR.load hx hxi
  obtain⟨ady,csy,hay,hFy,-,hly⟩:=ListR.load hy hyi
  obtain⟨f0,f1,f2,f3,f4,f5,f6,f7,rfl,hFx⟩:=hFx
  obtain⟨q0,q1,q2,q3,q4,q5,q6,q7,rfl,hFy⟩:=hFy
  conv=>whnf
  refine drawn_of_pi hτ hmix [.x 0,.x 1,.x 2,.x 3,.x 4,.x 5,.x 6,.x 7,.x 8,.x 9,.x 10,.x 11] (by kernel_rfl) (by kernel_rfl) ?_
  conv=>whnf
  refine⟨adx,hax,⟨by omega,by omega⟩,?_⟩
  conv=>whnf
  refine⟨[.bool f0,.slice f1 f2 f3,.bool f4,.slice f5 f6 f7],rfl,fun ρ w' r j u hu=>?_,?_⟩
  ·obtain⟨k1,k2⟩:=hlx j u hu
   rw[Int.toNat_natCast,cell_of_heap (w:=w) (w2:=w') (by rw[addB,addB];exact(hw.tr r.bel).block _ (hS _ k1))]
   exact k2
  conv=>whnf
  refine⟨ady,hay,⟨by omega,by omega⟩,?_⟩
  conv=>whnf
  refine⟨[.bool q0,.slice q1 q2 q3,.bool q4,.slice q5 q6 q7],rfl,fun ρ w' r j u hu=>?_,?_⟩
  ·obtain⟨k1,k2⟩:=hly j u hu
   rw[Int.toNat_natCast,cell_of_heap (w:=w) (w2:=w') (by rw[addB,addB];exact(hw.tr r.bel).block _ (hS _ k1))]
   exact k2
  conv=>whnf
  refine callE_con (Φ:=fun _ w' v w2=>RatC w2 (Nw (fun _=>False) w' w2) v (x*y)) (fun ρ w' r=>rMul_c (fun g hg=>by have:=hS g hg;have:=r.baseLe;omega) (hFx.keep fun g hg=>(hw.tr r.bel).block g (hS g hg)) (hFy.keep fun g hg=>(hw.tr r.bel).block g (hS g hg))) ?_
  rintro ρ wa2 v2 wb2 r he hb hn
  replace hw:=hw.tr hb
  replace hd:=hd.past (iv':=(wa2.heap.size,wb2.heap.size)::iv) r (oldF w) he fun x hx=>List.mem_cons_of_mem _ hx
  have hp:=hn.got (S:=fun _=>False) r.baseLe (iv:=(wa2.heap.size,wb2.heap.size)::iv) List.mem_cons_self
  clear r he hb hn
  generalize (wa2.heap.size,wb2.heap.size)::iv=iv2 at*
  obtain⟨s2_0,s2_1,s2_2,s2_3,s2_4,s2_5,s2_6,s2_7,rfl⟩:=hp.shape
  conv=>whnf
  refine callE_con (Φ:=fun _ w' v w2=>RatC w2 (Nw (fun _=>False) w' w2) v (dotTo xs ys i+x*y)) (fun ρ w' r=>rAdd_c (Rel.old r (oldF w)) ((hd.rel r (oldF w)).l (by omega)) ((hp.rel r (oldF w)).l (by omega))) ?_
  rintro ρ wa3 v3 wb3 r he hb hn
  replace hw:=hw.tr hb
  clear hd
  clear hp
  have hd2:=hn.got (S:=fun _=>False) r.baseLe (iv:=(wa3.heap.size,wb3.heap.size)::iv2) List.mem_cons_self
  clear r he hb hn
  generalize (wa3.heap.size,wb3.heap.size)::iv2=iv3 at*
  obtain⟨s3_0,s3_1,s3_2,s3_3,s3_4,s3_5,s3_6,s3_7,rfl⟩:=hd2.shape
  conv=>whnf
  rw[show dotTo xs ys i+x*y=dotTo xs ys (i+1) by rw[dotTo,hx2,hy2]]at hd2
  refine⟨((i+1:Nat):Int),by rw[wrap64]<;>omega,?_⟩
  conv=>whnf
  intro ρ3 w3 r3
  exact⟨(i+1,(s3_0,s3_4),(s3_1,s3_5),(s3_2,s3_3,s3_6,s3_7),w3,_),⟨hib,hw.tr r3.bel,hd2.rel r3 (oldF w)⟩,Sub.gen [] r3 ⟨rfl,rfl,trivial⟩ ⟨rfl,rfl,rfl,rfl,rfl,trivial⟩ (by simp[ScH,Blk.scopd,At.sc]) (by simp[ScE,SV.sc,At.sc]) (by rfl) (fun lo hi h=>h),by dsimp only;omega⟩
 have hib:i=xs.length:=Nat.le_antisymm hi (by simpa using hib)
 subst hib
 conv=>whnf
 intro ρe we re
 exact⟨_,rfl,hw.tr re.bel,hd.out re (oldF w)⟩
section
variable{S:Nat→Prop}{H:Hp}{nx:Nat}{iv iv':Iv}{B:Nat}{w w' w2:World}{ρ:Nat→Sx.Val}{css:List (List Value)}{qs:List Rat}
theorem Fc.rel(h:Fc w (Cv S B iv) css qs)(r:Rel H nx iv B w ρ w')(hS:∀g,S g→g<B):Fc w' (Cv S B iv) css qs:=h.keep fun _ hg=>Rel.same r hS hg
theorem Fc.past(h:Fc w (Cv S B iv) css qs)(r:Rel H nx iv B w ρ w')(hS:∀g,S g→g<B)(he:Ext w' w2)(hm:∀p,p∈iv→p∈iv'):Fc w2 (Cv S B iv') css qs:=
 ((h.rel r hS).keep fun g hg=>he.block g (Rel.old r hS g hg)).weak fun _ hg=>hg.mono hm
theorem Fc.push{cs:List Value}{q:Rat}(h:Fc w S css qs)(hc:Rat4C w S cs q):Fc w S (css++[cs]) (qs++[q]):=by
 refine⟨by simp[h.1],fun j x p h1 h2=>?_⟩
 rcases Nat.lt_or_ge j css.length with hi|hi
 ·rw[List.getElem?_append_left hi]at h1
  rw[List.getElem?_append_left (by rw[←h.1];exact hi)]at h2
  exact h.2 j x p h1 h2
 ·have hi0:j=css.length:=by have:=(List.getElem?_eq_some_iff.1 h1).1;simp at this;omega
  subst hi0
  rw[List.getElem?_append_right (Nat.le_refl _),Nat.sub_self]at h1
  rw[h.1,List.getElem?_append_right (Nat.le_refl _),Nat.sub_self]at h2
  simp at h1 h2
  subst h1 h2
  exact hc
end
end Go.Ex

/- Solve, CheckSolution, Basic and IsContradiction at the sizes of the laws. Printed by program. No condition but sizes. -/
namespace Go.Ex
open Go Go.Sx Go.Proofs

/-- a list that the laws are told for -/
def SmallB(w:World)(S:Nat→Prop)(v:Value)(b:List (Int×Int)):Prop:=RatsL w S v (b.map ratioP)∧(∀q∈b.map ratioP,rl q≤3)∧Few b
section
variable{S S':Nat→Prop}{H:Hp}{nx:Nat}{iv iv':Iv}{B:Nat}{w w' w2:World}{ρ:Nat→Sx.Val}{v:Value}{b:List (Int×Int)}
end

/-- numerators and denominators -/
def pairs(qs:List Rat):List (Int×Int):=qs.map fun q=>(q.num,(q.den:Int))
theorem pairs_len(qs:List Rat):(pairs qs).length=qs.length:=List.length_map ..
theorem pairs_ratio(qs:List Rat):(pairs qs).map ratioP=qs:=by
 unfold pairs
 rw[List.map_map]
 exact(List.map_congr_left fun q _=>ratio_self q).trans (List.map_id qs)
theorem pairsM(K:List (List Rat)):valsM (K.map pairs)=K:=by
 unfold valsM
 rw[List.map_map]
 exact(List.map_congr_left fun q _=>pairs_ratio q).trans (List.map_id K)
theorem RatsC.pairs{S:Nat→Prop}{w:World}{v:Value}{qs:List Rat}(h:RatsC w S v qs):RatsR w S v (pairs qs):=by
 obtain⟨css,h1,h2,h3,h4⟩:=h
 refine⟨css,by unfold Go.Ex.pairs;rw[List.length_map];exact h1,by unfold Go.Ex.pairs;rw[List.length_map];exact h2,h3,fun j cs x k1 k2=>?_⟩
 unfold Go.Ex.pairs at k2
 rw[List.getElem?_map]at k2
 obtain⟨q,hq,rfl⟩:=Option.map_eq_some_iff.1 k2
 obtain⟨b,a,n,c,b2,a2,n2,c2,rfl,hr⟩:=h4 j cs q k1 hq
 exact hr.four
theorem RatMC.pairs{S:Nat→Prop}{w:World}{v:Value}{K:List (List Rat)}(h:RatMC w S v K):RatMR w S v (K.map pairs):=by
 obtain⟨rv,h1,h2,h3⟩:=h
 refine⟨rv,by rw[List.length_map];exact h1,by rw[List.length_map];exact h2,fun i u x k1 k2=>?_⟩
 rw[List.getElem?_map]at k2
 obtain⟨q,hq,rfl⟩:=Option.map_eq_some_iff.1 k2
 exact(h3 i u q k1 hq).pairs
theorem few_pairs{qs:List Rat}(h:∀q∈qs,rl q≤10000000000):Few (pairs qs):=fun x hx=>by
 obtain⟨q,hq,rfl⟩:=List.mem_map.1 hx
 exact⟨Nat.le_trans (rl_num q) (h q hq),Nat.le_trans (rl_den' q) (h q hq)⟩
section
variable{S:Nat→Prop}{w:World}{v u:Value}{M:List (List (Int×Int))}{b:List (Int×Int)}
end
end Go.Ex

/- CheckSolution of the reference, at the sizes of the laws. Printed by program. No condition but sizes. -/
namespace Go.Ex
open Go Go.Sx Go.Proofs

end Go.Ex

/- The law ExactAccepts. Printed by program. No condition but sizes. -/
namespace Go.Ex
open Go Go.Sx Go.Proofs

/-- Small and brief, called in a later world -/
theorem smallW_c{S:Nat→Prop}{w w':World}{v:Value}{M:List (List (Int×Int))}(hS:Old S w')(hk:∀g,S g→w'.heap[g]? =w.heap[g]?)(h:RatMR w S v M):
  Con PG N.law01_Small #[v] w' (Ret w' fun v' _=>∃d,v'= .bool d∧(d=true→SmallM w S v M)):=
 (smallM_c hS (RatMR.keep h hk)).mono fun _ _ ⟨v2,e1,e2,d,e3,e4⟩=>⟨v2,e1,e2,d,e3,fun hd=>(e4 hd).keep fun g hg=>(hk g hg).symm⟩
theorem briefW_c{S:Nat→Prop}{w w':World}{v:Value}{b:List (Int×Int)}(hS:Old S w')(hk:∀g,S g→w'.heap[g]? =w.heap[g]?)(h:RatsR w S v b):
  Con PG N.law01_brief #[v] w' (Ret w' fun v' _=>∃d,v'= .bool d∧(d=true→SmallB w S v b)):=by
 obtain⟨ks,hks,hbr⟩:=RatsR.brief h
 exact(brief_c hS (hks.keep hk)).mono fun _ _ ⟨v2,e1,e2,e3⟩=>⟨v2,e1,e2,_,e3,fun hd=>hbr (of_decide_eq_true hd)⟩
section
variable{S:Nat→Prop}{w:World}{v u vx vk vp:Value}{z:Int}{M K:List (List (Int×Int))}{b X P:List (Int×Int)}
end
end Go.Ex

/- Times of the reference, alone of the laws; Solve and CheckSolution for a right side that is a combination of the columns. Printed by program. No condition but sizes. -/
namespace Go.Ex
open Go Go.Sx Go.Proofs

theorem timesF_length(M:List (List Rat))(x:List Rat):(timesF M x).length=M.length:=List.length_map ..
theorem rl_timesF{M:List (List Rat)}{x:List Rat}{h n:Nat}(hM:Ht M h)(hx:∀q∈x,rl q+1≤h)(h2:2≤h)(hn:∀r∈M,r.length≤n):∀q∈timesF M x,rl q≤2*h*n+2:=fun q hq=>by
 obtain⟨r,hr,rfl⟩:=List.mem_map.1 hq
 have h3:=rl_dotTo (hM r hr) hx h2 r.length
 have:=Nat.mul_le_mul_left (2*h) (hn r hr)
 omega
theorem rTimes_c{S:Nat→Prop}{w:World}{v u:Value}{M:List (List Rat)}{x:List Rat}{h:Nat}(hS:Old S w)(hM:RatML w S v M)(hx:RatsL w S u x)(hrow:∀r∈M,r.length=x.length)(hqM:Ht M h)(hqx:∀q∈x,rl q+1≤h)(h2:2≤h)(hb:2*h*x.length≤90000)(hR:M.length≤1000000):
  Con PG N.ref01_Times #[v,u] w (Ret w fun v' w2=>RatsC w2 (Nw (fun _=>False) w w2) v' (timesF M x)):=by
 have hw:Bel w.heap.size w w:=Bel.refl
 obtain⟨am,cm,rfl,hcm,hmm⟩:=SlicesR.shape hM
 obtain⟨ax,cx,rfl,hcx,-⟩:=ListR.shape hx
 unfold maxLen at hmm
 refine in_ref01_Times (by simp) ?_
 conv=>whnf
 refine⟨Nat×List (List Value)×World×Iv,fun z=>⟨[(0,.o (.v (.slice am M.length cm))),(1,.o (.v (.slice ax x.length cx))),(5,.o (.w 0 z.2.1.length)),(6,.o (.v (.int .i64 ((z.1:Nat):Int))))],[(0,.vec T.Rat 4 z.2.1.flatten)],1,z.2.2.2,z.2.2.1⟩,fun z=>M.length-z.1,
  fun z=>z.1≤M.length∧Bel w.heap.size w z.2.2.1∧Fc z.2.2.1 (Cv (fun _=>False) w.heap.size z.2.2.2) z.2.1 ((timesF M x).take z.1),?_,?_⟩
 ·intro ρ w' r
  exact⟨(0,[],w',[]),⟨Nat.zero_le _,hw.tr r.bel,by simp[Fc]⟩,Sub.nil 5 T.Rat 4 rfl (by simp[ScE,SV.sc,At.sc,initE]) r fun ρ1 r1=>
   Sub.gen [] r1 ⟨rfl,trivial⟩ ⟨rfl,rfl,rfl,rfl,trivial⟩ (by simp[ScH,Blk.scopd]) (by simp[ScE,SV.sc,At.sc]) (by rfl) (fun lo hi h=>h)⟩
 clear hw
 rintro⟨i,css,w1,iv⟩ ⟨hi,hw,hC⟩
 dsimp only at hi hw hC ⊢
 have hcl:css.length=i:=by rw[hC.1,List.length_take,timesF_length];omega
 have hfl:=flat_len hC.len4
 conv=>whnf
 refine BrS.mk (fun hib=>?_) (fun hib=>?_)
 ·have hib:i<M.length:=by simpa using hib
  obtain⟨ra,hra⟩:∃r,M[i]? =some r:=⟨_,List.getElem?_eq_getElem hib⟩
  have hral:=hrow ra (List.mem_of_getElem? hra)
  obtain⟨adm,um,ham,hRm,km1,km2⟩:=SlicesR.load hM hra
  obtain⟨au,cu,rfl,hcu,-⟩:=ListR.shape hRm
  conv=>whnf
  refine⟨adm,ham,⟨by omega,by omega⟩,?_⟩
  conv=>whnf
  refine⟨.slice au ra.length cu,fun ρ w' r=>?_,?_⟩
  ·rw[Int.toNat_natCast,cell_of_heap (w:=w) (w2:=w') (by rw[addB];exact(hw.tr r.bel).block _ (hS _ km1))]
   exact km2
  conv=>whnf
  refine callE_S (callE_con (Φ:=fun _ w' v w2=>RatC w2 (Nw (fun _=>False) w' w2) v (dotTo ra x ra.length)) (fun ρ w' r=>rDot_c (fun g hg=>by have:=hS g hg;have:=r.baseLe;omega) (RatsL.keep hRm (fun g hg=>(hw.tr r.bel).block g (hS g hg))) (RatsL.keep hx (fun g hg=>(hw.tr r.bel).block g (hS g hg))) hral (hqM ra (List.mem_of_getElem? hra)) hqx h2 (by rw[hral];exact hb)) ?_)
  rintro ρ wa1 v1 wb1 r he hb hn
  replace hw:=hw.tr hb
  replace hC:=hC.past (iv':=(wa1.heap.size,wb1.heap.size)::iv) r (oldF w) he fun x hx=>List.mem_cons_of_mem _ hx
  have hd:=hn.got (S:=fun _=>False) r.baseLe (iv:=(wa1.heap.size,wb1.heap.size)::iv) List.mem_cons_self
  clear r he hb hn
  generalize (wa1.heap.size,wb1.heap.size)::iv=iv1 at*
  obtain⟨s1_0,s1_1,s1_2,s1_3,s1_4,s1_5,s1_6,s1_7,rfl⟩:=hd.shape
  conv=>whnf
  have hC2:Fc wb1 (Cv (fun _=>False) w.heap.size iv1) (css++[[.bool s1_0,.slice s1_1 s1_2 s1_3,.bool s1_4,.slice s1_5 s1_6 s1_7]]) ((timesF M x).take (i+1)):=by
   have e:(timesF M x)[i]? =some (dotTo ra x ra.length):=by rw[timesF,List.getElem?_map,hra];rfl
   rw[List.take_add_one,e]
   exact hC.push hd.fourC
  have hfl2:css.flatten++([.bool s1_0,.slice s1_1 s1_2 s1_3,.bool s1_4,.slice s1_5 s1_6 s1_7]:List Value)=(css++([[.bool s1_0,.slice s1_1 s1_2 s1_3,.bool s1_4,.slice s1_5 s1_6 s1_7]]:List (List Value))).flatten:=by simp
  clear hC hd
  refine .inl ?_
  conv=>whnf
  refine⟨by omega,by omega,by unfold maxLen;omega,?_⟩
  conv=>whnf
  refine⟨((i+1:Nat):Int),by rw[wrap64]<;>omega,?_⟩
  conv=>whnf
  intro ρ3 w3 r3
  exact⟨(i+1,css++[[.bool s1_0,.slice s1_1 s1_2 s1_3,.bool s1_4,.slice s1_5 s1_6 s1_7]],w3,_),⟨hib,hw.tr r3.bel,hC2.rel r3 (oldF w)⟩,Sub.gen [(0,2)] r3 ⟨by dsimp only;rw[←hfl2];rfl,trivial⟩ ⟨rfl,rfl,by dsimp only;rw[List.length_append,List.length_singleton];rfl,rfl,trivial⟩ (by simp[ScH,Blk.scopd]) (by simp[ScE,SV.sc,At.sc]) (by rfl) (fun lo hi h=>h),by dsimp only;omega⟩
 have hib:i=M.length:=Nat.le_antisymm hi (by simpa using hib)
 conv=>whnf
 intro ρe we re
 refine⟨_,rfl,hw.tr re.bel,?_⟩
 rw[List.take_of_length_le (by rw[timesF_length];omega)]at hC
 have h5:=re.vecSeq (id:=0) (sz:=4) (m:=css.length) rfl hfl (by unfold maxLen;omega) (by decide) hC.one
 have h6:=hC.rel re (oldF w)
 refine⟨css,?_,h6.1,h6.len4,fun j cs q k1 k2=>(h6.2 j cs q k1 k2).weak fun _ hg=>Cv.nw hg re⟩
 rw[←hC.1]
 exact h5.weak fun g hg=>.inr hg
section
variable{S:Nat→Prop}{w:World}{v u:Value}{M:List (List (Int×Int))}{x:List Rat}
end
end Go.Ex
