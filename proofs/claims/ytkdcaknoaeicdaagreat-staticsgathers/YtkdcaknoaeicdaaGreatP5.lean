/- A part of the proof: texts X21 to X45. Each tells its conditions in its theorems. -/
import Derived.Test.YtkdcaknoaeicdaaGreatP2
import Derived.Test.YtkdcaknoaeicdaaGreatP3
import Derived.Test.YtkdcaknoaeicdaaGreatP4
/- Fractions of package exact: reading, over, value, give. Printed by program. No condition. -/
namespace Go.Ex
open Go Go.Sx Go.Proofs

theorem NatR.old{S:Nat→Prop}{B:Nat}{iv:Iv}{w' w2:World}{v:Value}{n:Nat}(h:NatR w2 (Nw (Cv S B iv) w' w2) v n)(hB:B≤w'.heap.size):NatR w2 (Cv S B ((w'.heap.size,w2.heap.size)::iv)) v n:=h.weak fun _ hg=>Nw.cv hg hB
/-- a fraction of package exact -/
def FracR(w:World)(S:Nat→Prop)(v:Value)(q:Rat):Prop:=∃nv dv,v= .agg #[.bool (decide (q.num<0)),nv,.bool false,dv]∧NatR w S nv q.num.natAbs∧NatR w S dv q.den
theorem FracR.keep{S:Nat→Prop}{w w2:World}{v:Value}{q:Rat}(h:FracR w S v q)(hk:∀g,S g→w2.heap[g]? =w.heap[g]?):FracR w2 S v q:=by
 obtain⟨n,d,h1,h2,h3⟩:=h;exact⟨n,d,h1,h2.keep hk,h3.keep hk⟩
theorem FracR.weak{S S':Nat→Prop}{w:World}{v:Value}{q:Rat}(h:FracR w S v q)(hk:∀g,S g→S' g):FracR w S' v q:=by
 obtain⟨n,d,h1,h2,h3⟩:=h;exact⟨n,d,h1,h2.weak hk,h3.weak hk⟩
theorem FracR.shape{S:Nat→Prop}{w:World}{v:Value}{q:Rat}(h:FracR w S v q):∃b a n c b2 a2 n2 c2,v= .agg #[.bool b,.slice a n c,.bool b2,.slice a2 n2 c2]:=by
 obtain⟨n,d,h1,h2,h3⟩:=h
 obtain⟨a,n,c,rfl⟩:=h2.shape
 obtain⟨a2,n2,c2,rfl⟩:=h3.shape
 exact⟨_,a,n,c,_,a2,n2,c2,h1⟩
/-- .. its parts -/
theorem FracR.num{S:Nat→Prop}{w:World}{b b2:Bool}{nv dv:Value}{q:Rat}(h:FracR w S (.agg #[.bool b,nv,.bool b2,dv]) q):NumR w S (.agg #[.bool b,nv]) q.num:=by
 obtain⟨n,d,h1,h2,h3⟩:=h
 simp at h1
 obtain⟨rfl,rfl,rfl,rfl⟩:=h1
 exact⟨_,rfl,h2⟩
theorem FracR.den{S:Nat→Prop}{w:World}{b b2:Bool}{nv dv:Value}{q:Rat}(h:FracR w S (.agg #[.bool b,nv,.bool b2,dv]) q):NumR w S (.agg #[.bool b2,dv]) (q.den:Int):=by
 obtain⟨n,d,h1,h2,h3⟩:=h
 simp at h1
 obtain⟨rfl,rfl,rfl,rfl⟩:=h1
 exact⟨_,by rw[decide_eq_false (by omega)],h3⟩
theorem FracR.of{S:Nat→Prop}{w:World}{b b2:Bool}{nv dv:Value}{q:Rat}(h:NumR w S (.agg #[.bool b,nv]) q.num)(k:NumR w S (.agg #[.bool b2,dv]) (q.den:Int)):FracR w S (.agg #[.bool b,nv,.bool b2,dv]) q:=by
 obtain⟨n,h1,h2⟩:=h
 obtain⟨d,h3,h4⟩:=k
 simp at h1 h3
 obtain⟨rfl,rfl⟩:=h1
 obtain⟨rfl,rfl⟩:=h3
 refine⟨_,_,?_,h2,h4⟩
 rw[decide_eq_false (show ¬((q.den:Int)<0) by omega)]
section
variable{S S':Nat→Prop}{H:Hp}{nx:Nat}{iv iv':Iv}{B:Nat}{w w' w2:World}{ρ:Nat→Sx.Val}{v:Value}{q:Rat}
theorem FracR.rel(h:FracR w (Cv S B iv) v q)(r:Rel H nx iv B w ρ w')(hS:∀g,S g→g<B):FracR w' (Cv S B iv) v q:=h.keep fun _ hg=>Rel.same r hS hg
theorem FracR.past(h:FracR w (Cv S B iv) v q)(r:Rel H nx iv B w ρ w')(hS:∀g,S g→g<B)(he:Ext w' w2)(hm:∀p,p∈iv→p∈iv'):FracR w2 (Cv S B iv') v q:=
 ((h.rel r hS).keep fun g hg=>he.block g (Rel.old r hS g hg)).weak fun _ hg=>hg.mono hm
theorem FracR.got(h:FracR w2 (Nw (fun _=>False) w' w2) v q)(hB:B≤w'.heap.size)(hm:(w'.heap.size,w2.heap.size)∈iv):FracR w2 (Cv S B iv) v q:=h.weak fun _ hg=>hg.got hB hm
theorem FracR.old(h:FracR w2 (Nw (Cv S B iv) w' w2) v q)(hB:B≤w'.heap.size):FracR w2 (Cv S B ((w'.heap.size,w2.heap.size)::iv)) v q:=h.weak fun _ hg=>Nw.cv hg hB
theorem FracR.out{w0 w1:World}(h:FracR w1 (Cv S w0.heap.size iv) v q)(r:Rel H nx iv w0.heap.size w1 ρ w')(hS:Old S w0):FracR w' (Nw S w0 w') v q:=
 (h.rel r hS).weak fun _ hg=>Cv.nw hg r
end

theorem NumR.nat{S:Nat→Prop}{w:World}{b:Bool}{nv:Value}{z:Int}(h:NumR w S (.agg #[.bool b,nv]) z):b=decide (z<0)∧NatR w S nv z.natAbs:=by
 obtain⟨n,h1,h2⟩:=h
 simp at h1
 obtain⟨rfl,rfl⟩:=h1
 exact⟨rfl,h2⟩

theorem over_c{S:Nat→Prop}{w:World}{v u:Value}{x y:Int}(hS:Old S w)(hx:NumR w S v x)(hy:NumR w S u y)(hy0:y≠0)(hlx:ln x.natAbs≤100000000000)(hly:ln y.natAbs≤100000000000):
  Con PG N.exact_over #[v,u] w (Ret w fun v' w2=>FracR w2 (Nw (fun _=>False) w w2) v' (Rat.divInt x y)):=by
 have hw:Bel w.heap.size w w:=Bel.refl
 replace hx:=hx.weak (S':=Cv S w.heap.size []) fun _ h=>.inl h
 replace hy:=hy.weak (S':=Cv S w.heap.size []) fun _ h=>.inl h
 obtain⟨bx,ax,lx,cx,rfl⟩:=hx.shape
 obtain⟨b2,ay,ly,cy,rfl⟩:=hy.shape
 have hb2:=hy.nat.1
 refine in_exact_over (by simp) ?_
 conv=>whnf
 cases b2
 ·have hyp:0<y:=by have:=of_decide_eq_false hb2.symm;omega
  have hq:Rat.divInt x y=Rat.divInt x y:=rfl
  conv=>whnf
  have hbA:=hx.nat.1
  refine callE_S (cE hw (Φ:=fun _ w' v w2=>v= .int .i64 (x).sign) (fun ρ w' r=>sign_c (hx.rel r hS)) ?_)
  rintro ρ wa1 v1 wb1 iv1 r he hw h_ rfl
  replace hx:=hx.past r hS he (mC h_)
  replace hy:=hy.past r hS he (mC h_)
  clear r
  conv=>whnf
  refine BrS.mk (fun h=>?_) (fun h=>?_)
  ·have h:x=0:=Int.sign_eq_zero_iff_zero.1 (eq_of_beq h)
   conv=>whnf
   refine callE_S (cE hw (Φ:=fun _ w' v w2=>NumR w2 (Nw (fun _=>False) w' w2) v 1) (fun ρ w' r=>small_c 1 w' (by decide) (by decide)) ?_)
   rintro ρ wa2 v2 wb2 iv2 r he hw h_ hn
   clear hx
   clear hy
   have hO:=hn.got (S:=fun _=>False) r.baseLe (mN h_)
   clear r
   obtain⟨s2_0,s2_1,s2_2,s2_3,rfl⟩:=hO.shape
   conv=>whnf
   have e0:Rat.divInt x y=0:=by rw[hq,h,rat_zero]
   intro ρe we re
   exact⟨_,rfl,hw.tr re.bel,by rw[e0];exact FracR.of ⟨_,rfl,NatR.nil _ _⟩ (hO.out re (oldF w))⟩
  ·have h:x≠0:=fun e=>by rw[e]at h;exact absurd h (by decide)
   obtain⟨g1,g2,g3⟩:=rat_over hyp h
   have hg0:0<Nat.gcd (x).natAbs (y).natAbs:=Nat.gcd_pos_of_pos_right _ (by omega)
   have hAn:=hx.nat.2
   have hBn:=hy.nat.2
   conv=>whnf
   refine callE_S (callE_con (Φ:=fun _ w' v w2=>NatR w2 (Nw (Cv S w.heap.size iv1) w' w2) v (Nat.gcd (x).natAbs (y).natAbs)) (fun ρ w' r=>common_c (Rel.old r hS) (hAn.rel r hS) (hBn.rel r hS) (by omega) (by omega)) ?_)
   rintro ρ wa2 v2 wb2 r he hb hn
   replace hw:=hw.tr hb
   clear hx
   clear hy
   replace hAn:=hAn.past (iv':=(wa2.heap.size,wb2.heap.size)::iv1) r hS he fun x hx=>List.mem_cons_of_mem _ hx
   replace hBn:=hBn.past (iv':=(wa2.heap.size,wb2.heap.size)::iv1) r hS he fun x hx=>List.mem_cons_of_mem _ hx
   have hG:=hn.old r.baseLe
   clear r he hb hn
   generalize (wa2.heap.size,wb2.heap.size)::iv1=iv2 at*
   obtain⟨s2_0,s2_1,s2_2,rfl⟩:=hG.shape
   conv=>whnf
   refine callE_S (callE_con (Φ:=fun _ w' v w2=>∃q r,v= .tuple #[q,r]∧NatR w2 (Nw (fun _=>False) w' w2) q ((x).natAbs / Nat.gcd (x).natAbs (y).natAbs)∧NatR w2 (Nw (Cv S w.heap.size iv2) w' w2) r ((x).natAbs % Nat.gcd (x).natAbs (y).natAbs)) (fun ρ w' r=>divide_c (Rel.old r hS) (hAn.rel r hS) (hG.rel r hS) hg0 (by omega)) ?_)
   rintro ρ wa3 v3 wb3 r he hb ⟨qvp,rvp,rfl,hq1,hr1⟩
   replace hw:=hw.tr hb
   clear hAn
   replace hBn:=hBn.past (iv':=(wa3.heap.size,wb3.heap.size)::iv2) r hS he fun x hx=>List.mem_cons_of_mem _ hx
   replace hG:=hG.past (iv':=(wa3.heap.size,wb3.heap.size)::iv2) r hS he fun x hx=>List.mem_cons_of_mem _ hx
   have hP:=hq1.got (S:=fun _=>False) r.baseLe (iv:=(wa3.heap.size,wb3.heap.size)::iv2) List.mem_cons_self
   have hPr:=hr1.old r.baseLe
   clear r he hb
   generalize (wa3.heap.size,wb3.heap.size)::iv2=iv3 at*
   obtain⟨s3_0a,s3_0b,s3_0c,rfl⟩:=hP.shape
   obtain⟨s3_1a,s3_1b,s3_1c,rfl⟩:=hPr.shape
   conv=>whnf
   clear hPr
   refine callE_S (callE_con (Φ:=fun _ w' v w2=>∃q r,v= .tuple #[q,r]∧NatR w2 (Nw (fun _=>False) w' w2) q ((y).natAbs / Nat.gcd (x).natAbs (y).natAbs)∧NatR w2 (Nw (Cv S w.heap.size iv3) w' w2) r ((y).natAbs % Nat.gcd (x).natAbs (y).natAbs)) (fun ρ w' r=>divide_c (Rel.old r hS) (hBn.rel r hS) (hG.rel r hS) hg0 (by omega)) ?_)
   rintro ρ wa4 v4 wb4 r he hb ⟨qvq,rvq,rfl,hq1,hr1⟩
   replace hw:=hw.tr hb
   clear hBn
   clear hG
   replace hP:=hP.past (iv':=(wa4.heap.size,wb4.heap.size)::iv3) r (oldF w) he fun x hx=>List.mem_cons_of_mem _ hx
   have hQ:=hq1.got (S:=fun _=>False) r.baseLe (iv:=(wa4.heap.size,wb4.heap.size)::iv3) List.mem_cons_self
   have hQr:=hr1.old r.baseLe
   clear r he hb
   generalize (wa4.heap.size,wb4.heap.size)::iv3=iv4 at*
   obtain⟨s4_0a,s4_0b,s4_0c,rfl⟩:=hQ.shape
   obtain⟨s4_1a,s4_1b,s4_1c,rfl⟩:=hQr.shape
   conv=>whnf
   intro ρe we re
   exact⟨_,rfl,hw.tr re.bel,by rw[hq];exact FracR.of ⟨_,by rw[g3,←hbA],by rw[g1];exact hP.out re (oldF w)⟩ ⟨_,by rw[decide_eq_false (by omega)],by rw[g2];exact hQ.out re (oldF w)⟩⟩
 ·have hyp:0< -y:=by have:=of_decide_eq_true hb2.symm;omega
  have hq:Rat.divInt x y=Rat.divInt (-x) (-y):=(Rat.neg_divInt_neg _ _).symm
  have nx:=Int.natAbs_neg x
  have ny:=Int.natAbs_neg y
  have hlx2:ln (-x).natAbs≤100000000000:=by rw[nx];exact hlx
  have hly2:ln (-y).natAbs≤100000000000:=by rw[ny];exact hly
  conv=>whnf
  refine drawn_of_pi hτ hmix [.x 0,.x 2,.x 1,.x 3,.x 4,.x 5] (by kernel_rfl) (by kernel_rfl) ?_
  conv=>whnf
  refine callE_con (Φ:=fun _ w' v w2=>NumR w2 (Nw (Cv S w.heap.size []) w' w2) v (-x)) (fun ρ w' r=>numMinus_c (Rel.old r hS) (hx.rel r hS)) ?_
  rintro ρ wa1 v1 wb1 r he hb hn
  replace hw:=hw.tr hb
  clear hx
  replace hy:=hy.past (iv':=(wa1.heap.size,wb1.heap.size)::[]) r hS he fun x hx=>List.mem_cons_of_mem _ hx
  have hA:=hn.old r.baseLe
  clear r he hb hn
  generalize (wa1.heap.size,wb1.heap.size)::[]=iv1 at*
  obtain⟨s1_0,s1_1,s1_2,s1_3,rfl⟩:=hA.shape
  conv=>whnf
  refine callE_con (Φ:=fun _ w' v w2=>NumR w2 (Nw (Cv S w.heap.size iv1) w' w2) v (-y)) (fun ρ w' r=>numMinus_c (Rel.old r hS) (hy.rel r hS)) ?_
  rintro ρ wa2 v2 wb2 r he hb hn
  replace hw:=hw.tr hb
  clear hy
  replace hA:=hA.past (iv':=(wa2.heap.size,wb2.heap.size)::iv1) r hS he fun x hx=>List.mem_cons_of_mem _ hx
  have hB:=hn.old r.baseLe
  clear r he hb hn
  generalize (wa2.heap.size,wb2.heap.size)::iv1=iv2 at*
  obtain⟨s2_0,s2_1,s2_2,s2_3,rfl⟩:=hB.shape
  conv=>whnf
  have hbA:=hA.nat.1
  refine callE_S (cE hw (Φ:=fun _ w' v w2=>v= .int .i64 (-x).sign) (fun ρ w' r=>sign_c (hA.rel r hS)) ?_)
  rintro ρ wa3 v3 wb3 iv3 r he hw h_ rfl
  replace hA:=hA.past r hS he (mC h_)
  replace hB:=hB.past r hS he (mC h_)
  clear r he
  conv=>whnf
  refine BrS.mk (fun h=>?_) (fun h=>?_)
  ·have h: -x=0:=Int.sign_eq_zero_iff_zero.1 (eq_of_beq h)
   conv=>whnf
   refine callE_S (cE hw (Φ:=fun _ w' v w2=>NumR w2 (Nw (fun _=>False) w' w2) v 1) (fun ρ w' r=>small_c 1 w' (by decide) (by decide)) ?_)
   rintro ρ wa4 v4 wb4 iv4 r he hw h_ hn
   clear hA
   clear hB
   have hO:=hn.got (S:=fun _=>False) r.baseLe (mN h_)
   clear r he hn
   obtain⟨s4_0,s4_1,s4_2,s4_3,rfl⟩:=hO.shape
   conv=>whnf
   have e0:Rat.divInt x y=0:=by rw[hq,h,rat_zero]
   intro ρe we re
   exact⟨_,rfl,hw.tr re.bel,by rw[e0];exact FracR.of ⟨_,rfl,NatR.nil _ _⟩ (hO.out re (oldF w))⟩
  ·have h: -x≠0:=fun e=>by rw[e]at h;exact absurd h (by decide)
   obtain⟨g1,g2,g3⟩:=rat_over hyp h
   have hg0:0<Nat.gcd (-x).natAbs (-y).natAbs:=Nat.gcd_pos_of_pos_right _ (by omega)
   have hAn:=hA.nat.2
   have hBn:=hB.nat.2
   conv=>whnf
   refine callE_S (callE_con (Φ:=fun _ w' v w2=>NatR w2 (Nw (Cv S w.heap.size iv3) w' w2) v (Nat.gcd (-x).natAbs (-y).natAbs)) (fun ρ w' r=>common_c (Rel.old r hS) (hAn.rel r hS) (hBn.rel r hS) (by omega) (by omega)) ?_)
   rintro ρ wa4 v4 wb4 r he hb hn
   replace hw:=hw.tr hb
   clear hA
   clear hB
   replace hAn:=hAn.past (iv':=(wa4.heap.size,wb4.heap.size)::iv3) r hS he fun x hx=>List.mem_cons_of_mem _ hx
   replace hBn:=hBn.past (iv':=(wa4.heap.size,wb4.heap.size)::iv3) r hS he fun x hx=>List.mem_cons_of_mem _ hx
   have hG:=hn.old r.baseLe
   clear r he hb hn
   generalize (wa4.heap.size,wb4.heap.size)::iv3=iv4 at*
   obtain⟨s4_0,s4_1,s4_2,rfl⟩:=hG.shape
   conv=>whnf
   refine callE_S (callE_con (Φ:=fun _ w' v w2=>∃q r,v= .tuple #[q,r]∧NatR w2 (Nw (fun _=>False) w' w2) q ((-x).natAbs / Nat.gcd (-x).natAbs (-y).natAbs)∧NatR w2 (Nw (Cv S w.heap.size iv4) w' w2) r ((-x).natAbs % Nat.gcd (-x).natAbs (-y).natAbs)) (fun ρ w' r=>divide_c (Rel.old r hS) (hAn.rel r hS) (hG.rel r hS) hg0 (by omega)) ?_)
   rintro ρ wa5 v5 wb5 r he hb ⟨qvp,rvp,rfl,hq1,hr1⟩
   replace hw:=hw.tr hb
   clear hAn
   replace hBn:=hBn.past (iv':=(wa5.heap.size,wb5.heap.size)::iv4) r hS he fun x hx=>List.mem_cons_of_mem _ hx
   replace hG:=hG.past (iv':=(wa5.heap.size,wb5.heap.size)::iv4) r hS he fun x hx=>List.mem_cons_of_mem _ hx
   have hP:=hq1.got (S:=fun _=>False) r.baseLe (iv:=(wa5.heap.size,wb5.heap.size)::iv4) List.mem_cons_self
   have hPr:=hr1.old r.baseLe
   clear r he hb
   generalize (wa5.heap.size,wb5.heap.size)::iv4=iv5 at*
   obtain⟨s5_0a,s5_0b,s5_0c,rfl⟩:=hP.shape
   obtain⟨s5_1a,s5_1b,s5_1c,rfl⟩:=hPr.shape
   conv=>whnf
   clear hPr
   refine callE_S (callE_con (Φ:=fun _ w' v w2=>∃q r,v= .tuple #[q,r]∧NatR w2 (Nw (fun _=>False) w' w2) q ((-y).natAbs / Nat.gcd (-x).natAbs (-y).natAbs)∧NatR w2 (Nw (Cv S w.heap.size iv5) w' w2) r ((-y).natAbs % Nat.gcd (-x).natAbs (-y).natAbs)) (fun ρ w' r=>divide_c (Rel.old r hS) (hBn.rel r hS) (hG.rel r hS) hg0 (by omega)) ?_)
   rintro ρ wa6 v6 wb6 r he hb ⟨qvq,rvq,rfl,hq1,hr1⟩
   replace hw:=hw.tr hb
   clear hBn
   clear hG
   replace hP:=hP.past (iv':=(wa6.heap.size,wb6.heap.size)::iv5) r (oldF w) he fun x hx=>List.mem_cons_of_mem _ hx
   have hQ:=hq1.got (S:=fun _=>False) r.baseLe (iv:=(wa6.heap.size,wb6.heap.size)::iv5) List.mem_cons_self
   have hQr:=hr1.old r.baseLe
   clear r he hb
   generalize (wa6.heap.size,wb6.heap.size)::iv5=iv6 at*
   obtain⟨s6_0a,s6_0b,s6_0c,rfl⟩:=hQ.shape
   obtain⟨s6_1a,s6_1b,s6_1c,rfl⟩:=hQr.shape
   conv=>whnf
   intro ρe we re
   exact⟨_,rfl,hw.tr re.bel,by rw[hq];exact FracR.of ⟨_,by rw[g3,←hbA],by rw[g1];exact hP.out re (oldF w)⟩ ⟨_,by rw[decide_eq_false (by omega)],by rw[g2];exact hQ.out re (oldF w)⟩⟩

end Go.Ex

/- Sizes and signs of fractions. No condition. -/
namespace Go.Ex
open Go Go.Sx

/-- limbs of the longer part -/
def rl(q:Rat):Nat:=max (ln q.num.natAbs) (ln q.den)
theorem rl_num(q:Rat):ln q.num.natAbs≤rl q:=Nat.le_max_left _ _
theorem rl_den'(q:Rat):ln ((q.den:Int)).natAbs≤rl q:=Nat.le_max_right _ _
theorem rl_divInt{a b:Int}(hb:b≠0):rl (Rat.divInt a b)≤max (ln a.natAbs) (ln b.natAbs):=by
 have h1:ln (Rat.divInt a b).num.natAbs≤ln a.natAbs:=by
  rw[Rat.num_divInt]
  refine ln_mono (Nat.le_trans (Int.natAbs_ediv_le_natAbs _ _) ?_)
  rw[Int.natAbs_mul,Int.natAbs_sign_of_ne_zero hb,Nat.one_mul]
  exact Nat.le_refl _
 have h2:ln (Rat.divInt a b).den≤ln b.natAbs:=by
  rw[Rat.den_divInt,if_neg hb]
  exact ln_div_le
 unfold rl
 omega
theorem ln_add_int(x y:Int):ln (x+y).natAbs≤max (ln x.natAbs) (ln y.natAbs)+1:=by
 have h1:=ln_add x.natAbs y.natAbs
 have h2:=ln_mono (show (x+y).natAbs≤x.natAbs+y.natAbs by omega)
 omega
theorem den_ne(q:Rat):(q.den:Int)≠0:=by have:=q.den_pos;omega
theorem rat_add(f g:Rat):f+g=Rat.divInt (f.num*g.den+g.num*f.den) (f.den*g.den):=by
 rw[←Rat.divInt_add_divInt _ _ (den_ne f) (den_ne g),Rat.num_divInt_den,Rat.num_divInt_den]
theorem rat_mul(f g:Rat):f*g=Rat.divInt (f.num*g.num) (f.den*g.den):=by
 rw[←Rat.divInt_mul_divInt,Rat.num_divInt_den,Rat.num_divInt_den]
theorem rat_div(f g:Rat):f / g=Rat.divInt (f.num*g.den) (f.den*g.num):=by
 rw[←Rat.divInt_mul_divInt,Rat.num_divInt_den,←Rat.inv_def,←Rat.div_def]
theorem mul_ne{a b:Int}(ha:a≠0)(hb:b≠0):a*b≠0:=Int.mul_ne_zero ha hb
theorem rl_add(f g:Rat):rl (f+g)≤rl f+rl g+1:=by
 have h:=rl_divInt (a:=f.num*g.den+g.num*f.den) (mul_ne (den_ne f) (den_ne g))
 rw[←rat_add]at h
 have h1:=ln_add_int (f.num*g.den) (g.num*f.den)
 have h2:=ln_mul_abs f.num g.den
 have h3:=ln_mul_abs g.num f.den
 have h4:=ln_mul_abs f.den g.den
 have:=rl_num f;have:=rl_num g;have:=rl_den' f;have:=rl_den' g
 omega
theorem rl_mul(f g:Rat):rl (f*g)≤rl f+rl g:=by
 have h:=rl_divInt (a:=f.num*g.num) (mul_ne (den_ne f) (den_ne g))
 rw[←rat_mul]at h
 have h2:=ln_mul_abs f.num g.num
 have h4:=ln_mul_abs f.den g.den
 have:=rl_num f;have:=rl_num g;have:=rl_den' f;have:=rl_den' g
 omega
theorem rl_div(f:Rat){g:Rat}(hg:g≠0):rl (f / g)≤rl f+rl g:=by
 have h:=rl_divInt (a:=f.num*g.den) (mul_ne (den_ne f) (fun e=>hg (Rat.num_eq_zero.1 e)))
 rw[←rat_div]at h
 have h2:=ln_mul_abs f.num g.den
 have h4:=ln_mul_abs f.den g.num
 have:=rl_num f;have:=rl_num g;have:=rl_den' f;have:=rl_den' g
 omega
theorem rl_neg(f:Rat):rl (-f)=rl f:=by unfold rl;rw[Rat.neg_num,Rat.neg_den,Int.natAbs_neg]
theorem rl_sub(f g:Rat):rl (f-g)≤rl f+rl g+1:=by
 rw[Rat.sub_eq_add_neg];have:=rl_add f (-g);rw[rl_neg]at this;exact this
/-- the sign of a fraction -/
def rs(q:Rat):Int:=q.num.sign
theorem sign_div{a b:Int}(hb:0<b):(Rat.divInt a b).num.sign=a.sign:=by
 by_cases ha:a=0
 ·subst ha;rw[rat_zero];rfl
 ·obtain⟨h1,-,h3⟩:=rat_over hb ha
  have h3:=decide_eq_decide.1 h3
  have h0:(Rat.divInt a b).num≠0:=fun e=>by
   have h4:=Nat.div_pos (Nat.le_of_dvd (by omega) (Nat.gcd_dvd_left a.natAbs b.natAbs)) (Nat.gcd_pos_of_pos_right a.natAbs (n:=b.natAbs) (by omega))
   omega
  rcases Int.lt_or_gt_of_ne ha with h|h
  ·rw[Int.sign_eq_neg_one_of_neg h,Int.sign_eq_neg_one_of_neg (h3.2 h)]
  ·rw[Int.sign_eq_one_of_pos h,Int.sign_eq_one_of_pos (by omega)]
theorem rat_cmp(f g:Rat):(f.num*g.den-g.num*f.den).sign=rs (f-g):=by
 rw[rs,Rat.sub_eq_add_neg,rat_add,sign_div (Int.mul_pos (by have:=f.den_pos;omega) (by rw[Rat.neg_den];have:=g.den_pos;omega)),Rat.neg_num,Rat.neg_den,Int.neg_mul,←Int.sub_eq_add_neg]
/-- what a fraction stands for, as it is written: a / b, and a when b is 0 -/
def ratio(a b:Int):Rat:=if b=0 then Rat.divInt a 1 else Rat.divInt a b
theorem rl_ratio(a b:Int):rl (ratio a b)≤max (ln a.natAbs) (max 1 (ln b.natAbs)):=by
 unfold ratio
 split
 ·have:=rl_divInt (a:=a) (b:=1) (by decide)
  have h1:ln (1:Int).natAbs=1:=by decide
  rw[h1]at this
  omega
 ·rename_i h
  have:=rl_divInt (a:=a) h
  omega
end Go.Ex

/- Fractions of package exact: arithmetic. Printed by program. No condition. -/
namespace Go.Ex
open Go Go.Sx Go.Proofs

/-- a fraction of the api: numerator and denominator, as they stand -/
def RatR(w:World)(S:Nat→Prop)(v:Value)(a b:Int):Prop:=∃b1 l1 b2 l2,v= .agg #[.bool b1,l1,.bool b2,l2]∧IntR w S (.agg #[.bool b1,l1]) a∧IntR w S (.agg #[.bool b2,l2]) b
theorem RatR.keep{S:Nat→Prop}{w w2:World}{v:Value}{a b:Int}(h:RatR w S v a b)(hk:∀g,S g→w2.heap[g]? =w.heap[g]?):RatR w2 S v a b:=by
 obtain⟨b1,l1,b2,l2,h1,h2,h3⟩:=h;exact⟨b1,l1,b2,l2,h1,h2.keep hk,h3.keep hk⟩
theorem RatR.weak{S S':Nat→Prop}{w:World}{v:Value}{a b:Int}(h:RatR w S v a b)(hk:∀g,S g→S' g):RatR w S' v a b:=by
 obtain⟨b1,l1,b2,l2,h1,h2,h3⟩:=h;exact⟨b1,l1,b2,l2,h1,h2.weak hk,h3.weak hk⟩
theorem RatR.shape{S:Nat→Prop}{w:World}{v:Value}{x y:Int}(h:RatR w S v x y):∃b a n c b2 a2 n2 c2,v= .agg #[.bool b,.slice a n c,.bool b2,.slice a2 n2 c2]:=by
 obtain⟨b1,l1,b2,l2,h1,h2,h3⟩:=h
 obtain⟨_,a,n,c,h4⟩:=h2.shape
 obtain⟨_,a2,n2,c2,h5⟩:=h3.shape
 simp at h4 h5
 obtain⟨rfl,rfl⟩:=h4
 obtain⟨rfl,rfl⟩:=h5
 exact⟨_,a,n,c,_,a2,n2,c2,h1⟩
theorem RatR.num{S:Nat→Prop}{w:World}{b b2:Bool}{nv dv:Value}{x y:Int}(h:RatR w S (.agg #[.bool b,nv,.bool b2,dv]) x y):IntR w S (.agg #[.bool b,nv]) x:=by
 obtain⟨b1,l1,b2,l2,h1,h2,h3⟩:=h
 simp at h1
 obtain⟨rfl,rfl,rfl,rfl⟩:=h1
 exact h2
theorem RatR.den{S:Nat→Prop}{w:World}{b b2:Bool}{nv dv:Value}{x y:Int}(h:RatR w S (.agg #[.bool b,nv,.bool b2,dv]) x y):IntR w S (.agg #[.bool b2,dv]) y:=by
 obtain⟨b1,l1,b2,l2,h1,h2,h3⟩:=h
 simp at h1
 obtain⟨rfl,rfl,rfl,rfl⟩:=h1
 exact h3
section
variable{S S':Nat→Prop}{H:Hp}{nx:Nat}{iv iv':Iv}{B:Nat}{w w' w2:World}{ρ:Nat→Sx.Val}{v:Value}{x y:Int}
theorem RatR.rel(h:RatR w (Cv S B iv) v x y)(r:Rel H nx iv B w ρ w')(hS:∀g,S g→g<B):RatR w' (Cv S B iv) v x y:=h.keep fun _ hg=>Rel.same r hS hg
theorem RatR.past(h:RatR w (Cv S B iv) v x y)(r:Rel H nx iv B w ρ w')(hS:∀g,S g→g<B)(he:Ext w' w2)(hm:∀p,p∈iv→p∈iv'):RatR w2 (Cv S B iv') v x y:=
 ((h.rel r hS).keep fun g hg=>he.block g (Rel.old r hS g hg)).weak fun _ hg=>hg.mono hm
end

/-- .. in normal form -/
def RatC(w:World)(S:Nat→Prop)(v:Value)(q:Rat):Prop:=∃b1 l1 b2 l2,v= .agg #[.bool b1,l1,.bool b2,l2]∧IntC w S (.agg #[.bool b1,l1]) q.num∧IntC w S (.agg #[.bool b2,l2]) q.den
theorem RatC.keep{S:Nat→Prop}{w w2:World}{v:Value}{q:Rat}(h:RatC w S v q)(hk:∀g,S g→w2.heap[g]? =w.heap[g]?):RatC w2 S v q:=by
 obtain⟨b1,l1,b2,l2,h1,h2,h3⟩:=h;exact⟨b1,l1,b2,l2,h1,h2.keep hk,h3.keep hk⟩
theorem RatC.weak{S S':Nat→Prop}{w:World}{v:Value}{q:Rat}(h:RatC w S v q)(hk:∀g,S g→S' g):RatC w S' v q:=by
 obtain⟨b1,l1,b2,l2,h1,h2,h3⟩:=h;exact⟨b1,l1,b2,l2,h1,h2.weak hk,h3.weak hk⟩
theorem RatC.r{S:Nat→Prop}{w:World}{v:Value}{q:Rat}(h:RatC w S v q):RatR w S v q.num q.den:=by
 obtain⟨b1,l1,b2,l2,h1,h2,h3⟩:=h;exact⟨b1,l1,b2,l2,h1,h2.r,h3.r⟩
theorem RatC.shape{S:Nat→Prop}{w:World}{v:Value}{q:Rat}(h:RatC w S v q):∃b a n c b2 a2 n2 c2,v= .agg #[.bool b,.slice a n c,.bool b2,.slice a2 n2 c2]:=h.r.shape
theorem RatC.num{S:Nat→Prop}{w:World}{b b2:Bool}{nv dv:Value}{q:Rat}(h:RatC w S (.agg #[.bool b,nv,.bool b2,dv]) q):IntC w S (.agg #[.bool b,nv]) q.num:=by
 obtain⟨b1,l1,b2,l2,h1,h2,h3⟩:=h
 simp at h1
 obtain⟨rfl,rfl,rfl,rfl⟩:=h1
 exact h2
theorem RatC.den{S:Nat→Prop}{w:World}{b b2:Bool}{nv dv:Value}{q:Rat}(h:RatC w S (.agg #[.bool b,nv,.bool b2,dv]) q):IntC w S (.agg #[.bool b2,dv]) q.den:=by
 obtain⟨b1,l1,b2,l2,h1,h2,h3⟩:=h
 simp at h1
 obtain⟨rfl,rfl,rfl,rfl⟩:=h1
 exact h3
theorem RatC.of{S:Nat→Prop}{w:World}{b b2:Bool}{nv dv:Value}{q:Rat}(h:IntC w S (.agg #[.bool b,nv]) q.num)(k:IntC w S (.agg #[.bool b2,dv]) q.den):RatC w S (.agg #[.bool b,nv,.bool b2,dv]) q:=⟨_,_,_,_,rfl,h,k⟩
section
variable{S S':Nat→Prop}{H:Hp}{nx:Nat}{iv iv':Iv}{B:Nat}{w w' w2:World}{ρ:Nat→Sx.Val}{v:Value}{q:Rat}
theorem RatC.rel(h:RatC w (Cv S B iv) v q)(r:Rel H nx iv B w ρ w')(hS:∀g,S g→g<B):RatC w' (Cv S B iv) v q:=h.keep fun _ hg=>Rel.same r hS hg
theorem RatC.past(h:RatC w (Cv S B iv) v q)(r:Rel H nx iv B w ρ w')(hS:∀g,S g→g<B)(he:Ext w' w2)(hm:∀p,p∈iv→p∈iv'):RatC w2 (Cv S B iv') v q:=
 ((h.rel r hS).keep fun g hg=>he.block g (Rel.old r hS g hg)).weak fun _ hg=>hg.mono hm
theorem RatC.got(h:RatC w2 (Nw (fun _=>False) w' w2) v q)(hB:B≤w'.heap.size)(hm:(w'.heap.size,w2.heap.size)∈iv):RatC w2 (Cv S B iv) v q:=h.weak fun _ hg=>hg.got hB hm
theorem RatC.out{w0 w1:World}(h:RatC w1 (Cv S w0.heap.size iv) v q)(r:Rel H nx iv w0.heap.size w1 ρ w')(hS:Old S w0):RatC w' (Nw S w0 w') v q:=
 (h.rel r hS).weak fun _ hg=>Cv.nw hg r
end

theorem fsign_c{S:Nat→Prop}{w:World}{v:Value}{f:Rat}(hS:Old S w)(hf:FracR w S v f):
  Con PG N.exact_fraction_sign #[v] w (Ret w fun v' _w2=>v'= .int .i64 (rs f)):=by
 have hw:Bel w.heap.size w w:=Bel.refl
 replace hf:=hf.weak (S':=Cv S w.heap.size []) fun _ h=>.inl h
 obtain⟨b1,a1,n1,c1,b2,a2,n2,c2,rfl⟩:=hf.shape
 have hfn:=hf.num
 have hfd:=hf.den
 clear hf
 refine in_exact_fraction_sign (by simp) ?_
 conv=>whnf
 refine callE_S (cE hw (Φ:=fun _ w' v w2=>v= .int .i64 (rs f)) (fun ρ w' r=>sign_c (hfn.rel r hS)) ?_)
 rintro ρ wa1 v1 wb1 iv1 r he hw h_ rfl
 clear hfn
 clear hfd
 clear r
 conv=>whnf
 intro ρe we re
 exact⟨_,rfl,hw.tr re.bel,rfl⟩

theorem fminus_c{S:Nat→Prop}{w:World}{v:Value}{f:Rat}(hS:Old S w)(hf:FracR w S v f):
  Con PG N.exact_fraction_minus #[v] w (Ret w fun v' w2=>FracR w2 (Nw S w w2) v' (-f)):=by
 have hw:Bel w.heap.size w w:=Bel.refl
 replace hf:=hf.weak (S':=Cv S w.heap.size []) fun _ h=>.inl h
 obtain⟨b1,a1,n1,c1,b2,a2,n2,c2,rfl⟩:=hf.shape
 have hfn:=hf.num
 have hfd:=hf.den
 clear hf
 refine in_exact_fraction_minus (by simp) ?_
 conv=>whnf
 refine drawn_of_pi hτ hmix [.x 0,.x 1,.x 3,.x 4,.x 2,.x 5,.x 6] (by kernel_rfl) (by kernel_rfl) ?_
 conv=>whnf
 refine callE_con (Φ:=fun _ w' v w2=>NumR w2 (Nw (Cv S w.heap.size []) w' w2) v (-f.num)) (fun ρ w' r=>numMinus_c (Rel.old r hS) (hfn.rel r hS)) ?_
 rintro ρ wa1 v1 wb1 r he hb hn
 replace hw:=hw.tr hb
 clear hfn
 replace hfd:=hfd.past (iv':=(wa1.heap.size,wb1.heap.size)::[]) r hS he fun x hx=>List.mem_cons_of_mem _ hx
 have hM:=hn.old r.baseLe
 clear r he hb hn
 generalize (wa1.heap.size,wb1.heap.size)::[]=iv1 at*
 obtain⟨s1_0,s1_1,s1_2,s1_3,rfl⟩:=hM.shape
 conv=>whnf
 intro ρe we re
 exact⟨_,rfl,hw.tr re.bel,FracR.of (by rw[Rat.neg_num];exact hM.out re hS) (by rw[Rat.neg_den];exact hfd.out re hS)⟩

theorem ftimes_c{S:Nat→Prop}{w:World}{v u:Value}{f g:Rat}(hS:Old S w)(hf:FracR w S v f)(hg:FracR w S u g)(hlf:rl f≤10000000000)(hlg:rl g≤10000000000):
  Con PG N.exact_fraction_times #[v,u] w (Ret w fun v' w2=>FracR w2 (Nw (fun _=>False) w w2) v' (f*g)):=by
 have hw:Bel w.heap.size w w:=Bel.refl
 have l1:=rl_num f
 have l2:=rl_den' f
 have l3:=rl_num g
 have l4:=rl_den' g
 have m0:=ln_mul_abs f.num g.num
 have m1:=ln_mul_abs f.den g.den
 replace hf:=hf.weak (S':=Cv S w.heap.size []) fun _ h=>.inl h
 replace hg:=hg.weak (S':=Cv S w.heap.size []) fun _ h=>.inl h
 obtain⟨b1,a1,n1,c1,b2,a2,n2,c2,rfl⟩:=hf.shape
 obtain⟨b3,a3,n3,c3,b4,a4,n4,c4,rfl⟩:=hg.shape
 have hfn:=hf.num
 have hfd:=hf.den
 clear hf
 have hgn:=hg.num
 have hgd:=hg.den
 clear hg
 refine in_exact_fraction_times (by simp) ?_
 conv=>whnf
 refine drawn_of_pi hτ hmix [.x 0,.x 1,.x 2,.x 3,.x 5,.x 6,.x 7,.x 8,.x 4,.x 9,.x 10,.x 11] (by kernel_rfl) (by kernel_rfl) ?_
 conv=>whnf
 refine cE hw (Φ:=fun _ w' v w2=>NumR w2 (Nw (fun _=>False) w' w2) v (f.num*g.num)) (fun ρ w' r=>numTimes_c (Rel.old r hS) (hfn.rel r hS) (hgn.rel r hS) (by omega) (by omega)) ?_
 rintro ρ wa1 v1 wb1 iv1 r he hw h_ hn
 clear hfn
 replace hfd:=hfd.past r hS he (mC h_)
 clear hgn
 replace hgd:=hgd.past r hS he (mC h_)
 have hA:=hn.got (S:=fun _=>False) r.baseLe (mN h_)
 clear r
 obtain⟨s1_0,s1_1,s1_2,s1_3,rfl⟩:=hA.shape
 conv=>whnf
 refine cE hw (Φ:=fun _ w' v w2=>NumR w2 (Nw (fun _=>False) w' w2) v ((f.den:Int)*(g.den:Int))) (fun ρ w' r=>numTimes_c (Rel.old r hS) (hfd.rel r hS) (hgd.rel r hS) (by omega) (by omega)) ?_
 rintro ρ wa2 v2 wb2 iv2 r he hw h_ hn
 clear hfd
 clear hgd
 replace hA:=hA.past r (oldF w) he (mC h_)
 have hB:=hn.got (S:=fun _=>False) r.baseLe (mN h_)
 clear r
 obtain⟨s2_0,s2_1,s2_2,s2_3,rfl⟩:=hB.shape
 conv=>whnf
 refine cE hw (Φ:=fun _ w' v w2=>FracR w2 (Nw (fun _=>False) w' w2) v (f*g)) (fun ρ w' r=>(rat_mul f g)▸over_c (Rel.old r (oldF w)) (hA.rel r (oldF w)) (hB.rel r (oldF w)) (mul_ne (den_ne f) (den_ne g)) (by omega) (by omega)) ?_
 rintro ρ wa3 v3 wb3 iv3 r he hw h_ hn
 clear hA
 clear hB
 have hC:=hn.got (S:=fun _=>False) r.baseLe (mN h_)
 clear r
 obtain⟨s3_0,s3_1,s3_2,s3_3,s3_4,s3_5,s3_6,s3_7,rfl⟩:=hC.shape
 conv=>whnf
 intro ρe we re
 exact⟨_,rfl,hw.tr re.bel,hC.out re (oldF w)⟩

theorem fby_c{S:Nat→Prop}{w:World}{v u:Value}{f g:Rat}(hS:Old S w)(hf:FracR w S v f)(hg:FracR w S u g)(hlf:rl f≤10000000000)(hlg:rl g≤10000000000)(hg0:g≠0):
  Con PG N.exact_fraction_by #[v,u] w (Ret w fun v' w2=>FracR w2 (Nw (fun _=>False) w w2) v' (f / g)):=by
 have hw:Bel w.heap.size w w:=Bel.refl
 have l1:=rl_num f
 have l2:=rl_den' f
 have l3:=rl_num g
 have l4:=rl_den' g
 have m0:=ln_mul_abs f.num g.den
 have m1:=ln_mul_abs f.den g.num
 replace hf:=hf.weak (S':=Cv S w.heap.size []) fun _ h=>.inl h
 replace hg:=hg.weak (S':=Cv S w.heap.size []) fun _ h=>.inl h
 obtain⟨b1,a1,n1,c1,b2,a2,n2,c2,rfl⟩:=hf.shape
 obtain⟨b3,a3,n3,c3,b4,a4,n4,c4,rfl⟩:=hg.shape
 have hfn:=hf.num
 have hfd:=hf.den
 clear hf
 have hgn:=hg.num
 have hgd:=hg.den
 clear hg
 refine in_exact_fraction_by (by simp) ?_
 conv=>whnf
 refine drawn_of_pi hτ hmix [.x 0,.x 1,.x 2,.x 3,.x 5,.x 6,.x 7,.x 8,.x 4,.x 9,.x 10,.x 11] (by kernel_rfl) (by kernel_rfl) ?_
 conv=>whnf
 refine cE hw (Φ:=fun _ w' v w2=>NumR w2 (Nw (fun _=>False) w' w2) v (f.num*(g.den:Int))) (fun ρ w' r=>numTimes_c (Rel.old r hS) (hfn.rel r hS) (hgd.rel r hS) (by omega) (by omega)) ?_
 rintro ρ wa1 v1 wb1 iv1 r he hw h_ hn
 clear hfn
 replace hfd:=hfd.past r hS he (mC h_)
 replace hgn:=hgn.past r hS he (mC h_)
 clear hgd
 have hA:=hn.got (S:=fun _=>False) r.baseLe (mN h_)
 clear r
 obtain⟨s1_0,s1_1,s1_2,s1_3,rfl⟩:=hA.shape
 conv=>whnf
 refine cE hw (Φ:=fun _ w' v w2=>NumR w2 (Nw (fun _=>False) w' w2) v ((f.den:Int)*g.num)) (fun ρ w' r=>numTimes_c (Rel.old r hS) (hfd.rel r hS) (hgn.rel r hS) (by omega) (by omega)) ?_
 rintro ρ wa2 v2 wb2 iv2 r he hw h_ hn
 clear hfd
 clear hgn
 replace hA:=hA.past r (oldF w) he (mC h_)
 have hB:=hn.got (S:=fun _=>False) r.baseLe (mN h_)
 clear r
 obtain⟨s2_0,s2_1,s2_2,s2_3,rfl⟩:=hB.shape
 conv=>whnf
 refine cE hw (Φ:=fun _ w' v w2=>FracR w2 (Nw (fun _=>False) w' w2) v (f / g)) (fun ρ w' r=>(rat_div f g)▸over_c (Rel.old r (oldF w)) (hA.rel r (oldF w)) (hB.rel r (oldF w)) (mul_ne (den_ne f) (fun e=>hg0 (Rat.num_eq_zero.1 e))) (by omega) (by omega)) ?_
 rintro ρ wa3 v3 wb3 iv3 r he hw h_ hn
 clear hA
 clear hB
 have hC:=hn.got (S:=fun _=>False) r.baseLe (mN h_)
 clear r
 obtain⟨s3_0,s3_1,s3_2,s3_3,s3_4,s3_5,s3_6,s3_7,rfl⟩:=hC.shape
 conv=>whnf
 intro ρe we re
 exact⟨_,rfl,hw.tr re.bel,hC.out re (oldF w)⟩

theorem fplus_c{S:Nat→Prop}{w:World}{v u:Value}{f g:Rat}(hS:Old S w)(hf:FracR w S v f)(hg:FracR w S u g)(hlf:rl f≤10000000000)(hlg:rl g≤10000000000):
  Con PG N.exact_fraction_plus #[v,u] w (Ret w fun v' w2=>FracR w2 (Nw (fun _=>False) w w2) v' (f+g)):=by
 have hw:Bel w.heap.size w w:=Bel.refl
 have l1:=rl_num f
 have l2:=rl_den' f
 have l3:=rl_num g
 have l4:=rl_den' g
 have m0:=ln_mul_abs f.num g.den
 have m1:=ln_mul_abs g.num f.den
 have m2:=ln_mul_abs f.den g.den
 have m4:=ln_add_int (f.num*g.den) (g.num*f.den)
 replace hf:=hf.weak (S':=Cv S w.heap.size []) fun _ h=>.inl h
 replace hg:=hg.weak (S':=Cv S w.heap.size []) fun _ h=>.inl h
 obtain⟨b1,a1,n1,c1,b2,a2,n2,c2,rfl⟩:=hf.shape
 obtain⟨b3,a3,n3,c3,b4,a4,n4,c4,rfl⟩:=hg.shape
 have hfn:=hf.num
 have hfd:=hf.den
 clear hf
 have hgn:=hg.num
 have hgd:=hg.den
 clear hg
 refine in_exact_fraction_plus (by simp) ?_
 conv=>whnf
 refine drawn_of_pi hτ hmix [.x 0,.x 1,.x 2,.x 3,.x 5,.x 6,.x 7,.x 8,.x 11,.x 12,.x 13,.x 14,.x 4,.x 9,.x 10,.x 15,.x 16,.x 17] (by kernel_rfl) (by kernel_rfl) ?_
 conv=>whnf
 refine cE hw (Φ:=fun _ w' v w2=>NumR w2 (Nw (fun _=>False) w' w2) v (f.num*(g.den:Int))) (fun ρ w' r=>numTimes_c (Rel.old r hS) (hfn.rel r hS) (hgd.rel r hS) (by omega) (by omega)) ?_
 rintro ρ wa1 v1 wb1 iv1 r he hw h_ hn
 clear hfn
 replace hfd:=hfd.past r hS he (mC h_)
 replace hgn:=hgn.past r hS he (mC h_)
 replace hgd:=hgd.past r hS he (mC h_)
 have hA:=hn.got (S:=fun _=>False) r.baseLe (mN h_)
 clear r
 obtain⟨s1_0,s1_1,s1_2,s1_3,rfl⟩:=hA.shape
 conv=>whnf
 refine cE hw (Φ:=fun _ w' v w2=>NumR w2 (Nw (fun _=>False) w' w2) v (g.num*(f.den:Int))) (fun ρ w' r=>numTimes_c (Rel.old r hS) (hgn.rel r hS) (hfd.rel r hS) (by omega) (by omega)) ?_
 rintro ρ wa2 v2 wb2 iv2 r he hw h_ hn
 replace hfd:=hfd.past r hS he (mC h_)
 clear hgn
 replace hgd:=hgd.past r hS he (mC h_)
 replace hA:=hA.past r (oldF w) he (mC h_)
 have hB:=hn.got (S:=fun _=>False) r.baseLe (mN h_)
 clear r
 obtain⟨s2_0,s2_1,s2_2,s2_3,rfl⟩:=hB.shape
 conv=>whnf
 refine cE hw (Φ:=fun _ w' v w2=>NumR w2 (Nw (fun _=>False) w' w2) v (f.num*(g.den:Int)+g.num*(f.den:Int))) (fun ρ w' r=>numPlus_c (Rel.old r (oldF w)) (hA.rel r (oldF w)) (hB.rel r (oldF w)) (by omega) (by omega)) ?_
 rintro ρ wa3 v3 wb3 iv3 r he hw h_ hn
 replace hfd:=hfd.past r hS he (mC h_)
 replace hgd:=hgd.past r hS he (mC h_)
 clear hA
 clear hB
 have hD:=hn.got (S:=fun _=>False) r.baseLe (mN h_)
 clear r
 obtain⟨s3_0,s3_1,s3_2,s3_3,rfl⟩:=hD.shape
 conv=>whnf
 refine cE hw (Φ:=fun _ w' v w2=>NumR w2 (Nw (fun _=>False) w' w2) v ((f.den:Int)*(g.den:Int))) (fun ρ w' r=>numTimes_c (Rel.old r hS) (hfd.rel r hS) (hgd.rel r hS) (by omega) (by omega)) ?_
 rintro ρ wa4 v4 wb4 iv4 r he hw h_ hn
 clear hfd
 clear hgd
 replace hD:=hD.past r (oldF w) he (mC h_)
 have hE:=hn.got (S:=fun _=>False) r.baseLe (mN h_)
 clear r
 obtain⟨s4_0,s4_1,s4_2,s4_3,rfl⟩:=hE.shape
 conv=>whnf
 refine cE hw (Φ:=fun _ w' v w2=>FracR w2 (Nw (fun _=>False) w' w2) v (f+g)) (fun ρ w' r=>(rat_add f g)▸over_c (Rel.old r (oldF w)) (hD.rel r (oldF w)) (hE.rel r (oldF w)) (mul_ne (den_ne f) (den_ne g)) (by omega) (by omega)) ?_
 rintro ρ wa5 v5 wb5 iv5 r he hw h_ hn
 clear hD
 clear hE
 have hC:=hn.got (S:=fun _=>False) r.baseLe (mN h_)
 clear r
 obtain⟨s5_0,s5_1,s5_2,s5_3,s5_4,s5_5,s5_6,s5_7,rfl⟩:=hC.shape
 conv=>whnf
 intro ρe we re
 exact⟨_,rfl,hw.tr re.bel,hC.out re (oldF w)⟩

theorem fgive_c{S:Nat→Prop}{w:World}{v:Value}{f:Rat}(hS:Old S w)(hf:FracR w S v f)(hlf:rl f≤100000000000):
  Con PG N.exact_fraction_give #[v] w (Ret w fun v' w2=>RatC w2 (Nw (fun _=>False) w w2) v' f):=by
 have hw:Bel w.heap.size w w:=Bel.refl
 have l1:=rl_num f
 have l2:=rl_den' f
 replace hf:=hf.weak (S':=Cv S w.heap.size []) fun _ h=>.inl h
 obtain⟨b1,a1,n1,c1,b2,a2,n2,c2,rfl⟩:=hf.shape
 have hfn:=hf.num
 have hfd:=hf.den
 clear hf
 refine in_exact_fraction_give (by simp) ?_
 conv=>whnf
 refine drawn_of_pi hτ hmix [.x 0,.x 1,.x 3,.x 4,.x 2,.x 5,.x 6,.x 7] (by kernel_rfl) (by kernel_rfl) ?_
 conv=>whnf
 refine cE hw (Φ:=fun _ w' v w2=>IntC w2 (Nw (fun _=>False) w' w2) v f.num) (fun ρ w' r=>give_c (Rel.old r hS) (hfn.rel r hS) (by omega)) ?_
 rintro ρ wa1 v1 wb1 iv1 r he hw h_ hn
 clear hfn
 replace hfd:=hfd.past r hS he (mC h_)
 have hA:=hn.got (S:=fun _=>False) r.baseLe (mN h_)
 clear r
 obtain⟨s1_0,s1_1,s1_2,s1_3,rfl⟩:=hA.shape
 conv=>whnf
 refine cE hw (Φ:=fun _ w' v w2=>IntC w2 (Nw (fun _=>False) w' w2) v (f.den:Int)) (fun ρ w' r=>give_c (Rel.old r hS) (hfd.rel r hS) (by omega)) ?_
 rintro ρ wa2 v2 wb2 iv2 r he hw h_ hn
 clear hfd
 replace hA:=hA.past r (oldF w) he (mC h_)
 have hB:=hn.got (S:=fun _=>False) r.baseLe (mN h_)
 clear r
 obtain⟨s2_0,s2_1,s2_2,s2_3,rfl⟩:=hB.shape
 conv=>whnf
 intro ρe we re
 exact⟨_,rfl,hw.tr re.bel,RatC.of (hA.out re (oldF w)) (hB.out re (oldF w))⟩

theorem whole_c(n:Int)(w:World)(h1: -9223372036854775808≤n)(h2:n≤9223372036854775807):
  Con PG N.exact_whole #[.int .i64 n] w (Ret w fun v' w2=>FracR w2 (Nw (fun _=>False) w w2) v' (n:Rat)):=by
 have hw:Bel w.heap.size w w:=Bel.refl
 refine in_exact_whole (by simp) ?_
 conv=>whnf
 refine callE_S (cE hw (Φ:=fun _ w' v w2=>NumR w2 (Nw (fun _=>False) w' w2) v n) (fun ρ w' r=>small_c n w' h1 h2) ?_)
 rintro ρ wa1 v1 wb1 iv1 r he hw h_ hn
 have hA:=hn.got (S:=fun _=>False) r.baseLe (mN h_)
 clear r
 obtain⟨s1_0,s1_1,s1_2,s1_3,rfl⟩:=hA.shape
 conv=>whnf
 refine callE_S (cE hw (Φ:=fun _ w' v w2=>NumR w2 (Nw (fun _=>False) w' w2) v 1) (fun ρ w' r=>small_c 1 w' (by decide) (by decide)) ?_)
 rintro ρ wa2 v2 wb2 iv2 r he hw h_ hn
 replace hA:=hA.past r (oldF w) he (mC h_)
 have hB:=hn.got (S:=fun _=>False) r.baseLe (mN h_)
 clear r
 obtain⟨s2_0,s2_1,s2_2,s2_3,rfl⟩:=hB.shape
 conv=>whnf
 intro ρe we re
 exact⟨_,rfl,hw.tr re.bel,FracR.of (by rw[Rat.num_intCast];exact hA.out re (oldF w)) (by rw[Rat.den_intCast];exact hB.out re (oldF w))⟩

theorem value_c{S:Nat→Prop}{w:World}{v:Value}{x y:Int}(hS:Old S w)(hx:RatR w S v x y)(hlx:ln x.natAbs≤100000000000)(hly:ln y.natAbs≤100000000000):
  Con PG N.exact_value #[v] w (Ret w fun v' w2=>FracR w2 (Nw (fun _=>False) w w2) v' (ratio x y)):=by
 have hw:Bel w.heap.size w w:=Bel.refl
 replace hx:=hx.weak (S':=Cv S w.heap.size []) fun _ h=>.inl h
 obtain⟨b1,a1,n1,c1,b2,a2,n2,c2,rfl⟩:=hx.shape
 have hn:=hx.num
 have hd:=hx.den
 clear hx
 have hxn:=hn
 have hxd:=hd
 clear hn hd
 refine in_exact_value (by simp) ?_
 conv=>whnf
 refine callE_S (callE_con (Φ:=fun _ w' v w2=>NumR w2 (Nw (Cv S w.heap.size []) w' w2) v y) (fun ρ w' r=>ofR_c (Rel.old r hS) (hxd.rel r hS)) ?_)
 rintro ρ wa1 v1 wb1 r he hb hn
 replace hw:=hw.tr hb
 replace hxn:=hxn.past (iv':=(wa1.heap.size,wb1.heap.size)::[]) r hS he fun x hx=>List.mem_cons_of_mem _ hx
 clear hxd
 have hD:=hn.old r.baseLe
 clear r he hb hn
 generalize (wa1.heap.size,wb1.heap.size)::[]=iv1 at*
 obtain⟨s1_0,s1_1,s1_2,s1_3,rfl⟩:=hD.shape
 conv=>whnf
 refine callE_S (cE hw (Φ:=fun _ w' v w2=>v= .int .i64 y.sign) (fun ρ w' r=>sign_c (hD.rel r hS)) ?_)
 rintro ρ wa2 v2 wb2 iv2 r he hw h_ rfl
 replace hxn:=hxn.past r hS he (mC h_)
 replace hD:=hD.past r hS he (mC h_)
 clear r he
 conv=>whnf
 refine BrS.mk (fun h=>?_) (fun h=>?_)
 ·have h:y=0:=Int.sign_eq_zero_iff_zero.1 (eq_of_beq h)
  have e0:ratio x y=Rat.divInt x 1:=if_pos h
  conv=>whnf
  refine callE_S (cE hw (Φ:=fun _ w' v w2=>NumR w2 (Nw (fun _=>False) w' w2) v 1) (fun ρ w' r=>small_c 1 w' (by decide) (by decide)) ?_)
  rintro ρ wa3 v3 wb3 iv3 r he hw h_ hn
  replace hxn:=hxn.past r hS he (mC h_)
  clear hD
  have hO:=hn.got (S:=fun _=>False) r.baseLe (mN h_)
  clear r he hn
  obtain⟨s3_0,s3_1,s3_2,s3_3,rfl⟩:=hO.shape
  conv=>whnf
  have l1:ln (1:Int).natAbs=1:=by decide
  refine drawn_of_pi hτ hmix [.x 0,.x 1,.x 3,.x 2,.x 4,.x 5] (by kernel_rfl) (by kernel_rfl) ?_
  conv=>whnf
  refine callE_con (Φ:=fun _ w' v w2=>NumR w2 (Nw (Cv S w.heap.size iv3) w' w2) v x) (fun ρ w' r=>ofR_c (Rel.old r hS) (hxn.rel r hS)) ?_
  rintro ρ wa4 v4 wb4 r he hb hn
  replace hw:=hw.tr hb
  clear hxn
  replace hO:=hO.past (iv':=(wa4.heap.size,wb4.heap.size)::iv3) r (oldF w) he fun x hx=>List.mem_cons_of_mem _ hx
  have hN:=hn.old r.baseLe
  clear r he hb hn
  generalize (wa4.heap.size,wb4.heap.size)::iv3=iv4 at*
  obtain⟨s4_0,s4_1,s4_2,s4_3,rfl⟩:=hN.shape
  conv=>whnf
  refine cE hw (Φ:=fun _ w' v w2=>FracR w2 (Nw (fun _=>False) w' w2) v (ratio x y)) (fun ρ w' r=>e0.symm▸over_c (Rel.old r hS) (hN.rel r hS) ((hO.rel r (oldF w)).weak fun g hg=>hg.elim (fun k=>k.elim) .inr) (by decide) (by omega) (by omega)) ?_
  rintro ρ wa5 v5 wb5 iv5 r he hw h_ hn
  clear hO
  clear hN
  have hC:=hn.got (S:=fun _=>False) r.baseLe (mN h_)
  clear r he hn
  obtain⟨s5_0,s5_1,s5_2,s5_3,s5_4,s5_5,s5_6,s5_7,rfl⟩:=hC.shape
  conv=>whnf
  intro ρe we re
  exact⟨_,rfl,hw.tr re.bel,hC.out re (oldF w)⟩
 ·have h:y≠0:=fun e=>by rw[e]at h;exact absurd h (by decide)
  have e0:ratio x y=Rat.divInt x y:=if_neg h
  conv=>whnf
  refine drawn_of_pi hτ hmix [.x 0,.x 1,.x 3,.x 2,.x 4,.x 5] (by kernel_rfl) (by kernel_rfl) ?_
  conv=>whnf
  refine callE_con (Φ:=fun _ w' v w2=>NumR w2 (Nw (Cv S w.heap.size iv2) w' w2) v x) (fun ρ w' r=>ofR_c (Rel.old r hS) (hxn.rel r hS)) ?_
  rintro ρ wa3 v3 wb3 r he hb hn
  replace hw:=hw.tr hb
  clear hxn
  replace hD:=hD.past (iv':=(wa3.heap.size,wb3.heap.size)::iv2) r hS he fun x hx=>List.mem_cons_of_mem _ hx
  have hN:=hn.old r.baseLe
  clear r he hb hn
  generalize (wa3.heap.size,wb3.heap.size)::iv2=iv3 at*
  obtain⟨s3_0,s3_1,s3_2,s3_3,rfl⟩:=hN.shape
  conv=>whnf
  refine cE hw (Φ:=fun _ w' v w2=>FracR w2 (Nw (fun _=>False) w' w2) v (ratio x y)) (fun ρ w' r=>e0.symm▸over_c (Rel.old r hS) (hN.rel r hS) (hD.rel r hS) h (by omega) (by omega)) ?_
  rintro ρ wa4 v4 wb4 iv4 r he hw h_ hn
  clear hD
  clear hN
  have hC:=hn.got (S:=fun _=>False) r.baseLe (mN h_)
  clear r he hn
  obtain⟨s4_0,s4_1,s4_2,s4_3,s4_4,s4_5,s4_6,s4_7,rfl⟩:=hC.shape
  conv=>whnf
  intro ρe we re
  exact⟨_,rfl,hw.tr re.bel,hC.out re (oldF w)⟩

end Go.Ex

/- Rows of a call's own, held raw; readings of lists; Grow and Concat. No condition. -/
namespace Go.Ex
open Go Go.Sx Go.Proofs

/-- what is kept of a row that is held raw: its block -/
def rowIv(v:Value):Iv:=match v.ownBlock with
 |some g=>[(g,g+1)]
 |none=>[]
theorem rowIv_mem{v:Value}{lo hi:Nat}:(lo,hi)∈rowIv v↔v.ownBlock=some lo∧hi=lo+1:=by
 unfold rowIv
 cases h:v.ownBlock with
 |none=>simp
 |some g=>simp;omega
def Cvr(iv:Iv)(v:Value):Prop:=∀b,v.ownBlock=some b→∃lo hi,(lo,hi)∈iv∧lo≤b∧b<hi
section
variable{S:Nat→Prop}{H:Hp}{nx:Nat}{iv iv':Iv}{B e sz m:Nat}{w w' w2:World}{ρ:Nat→Sx.Val}{v v':Value}{xs:List Value}
theorem Cvr.not(h:Cvr iv v)(r:Rel H nx iv B w ρ w'){b:Nat}(hb:v.ownBlock=some b):∀id c,getH H id=some c→(ρ id).nil=false→(ρ id).g≠b:=fun id c hc hn he=>by
 obtain⟨lo,hi,h1,h2,h3⟩:=h b hb
 exact r.prot lo hi h1 id c hc hn (by omega)
theorem rowKeep(h:w.ownsRow B e sz v m xs)(hc:Cvr iv v)(r:Rel H nx iv B w ρ w'):w'.ownsRow B e sz v m xs:=
 ownsRow.keep h fun b hb=>r.frm b (ownsRow.low h b hb).2 fun id c hc' hn he=>hc.not r hb id c hc' hn he
theorem Cvr.row(v:Value):Cvr (rowIv v) v:=fun b hb=>⟨b,b+1,rowIv_mem.2 ⟨hb,rfl⟩,by omega,by omega⟩
theorem Cvr.mono(h:Cvr iv v)(k:∀p,p∈iv→p∈iv'):Cvr iv' v:=fun b hb=>by
 obtain⟨lo,hi,h1,h2⟩:=h b hb
 exact⟨lo,hi,k _ h1,h2⟩
theorem row_form(h:w.ownsRow B e sz v m xs):∃a c,v= .slice a m c∧m≤c:=by
 rcases h.2 with⟨rfl,rfl⟩|⟨g,cap,cur,rfl,_,_,h1,_⟩
 ·exact⟨none,0,rfl,Nat.le_refl _⟩
 ·exact⟨_,cap,rfl,h1⟩
end
/-- a list of values is read: n elements of sz cells -/
structure SeqR(w:World)(S:Nat→Prop)(sz:Nat)(v:Value)(xs:List Value)(n:Nat):Prop where
 le:n≤maxLen
 len:xs.length=n*sz
 one:∀u∈xs,u.oneCell'=true
 sl:∃a c,v= .slice a n c∧n≤c∧∀(j:Nat) u,xs[j]? =some u→∃ad,a=some ad∧S ad.block∧w.cell? (ad.add j)=some u
theorem SeqR.keep{S:Nat→Prop}{w w2:World}{sz:Nat}{v:Value}{xs:List Value}{n:Nat}(h:SeqR w S sz v xs n)(hk:∀g,S g→w2.heap[g]? =w.heap[g]?):SeqR w2 S sz v xs n:=by
 obtain⟨h0,h1,h2,a,c,h3,h4,h5⟩:=h
 refine⟨h0,h1,h2,a,c,h3,h4,fun j u hu=>?_⟩
 obtain⟨ad,k1,k2,k3⟩:=h5 j u hu
 exact⟨ad,k1,k2,by rw[cell_of_heap (hk _ (by rw[addB];exact k2))];exact k3⟩
theorem SeqR.weak{S S':Nat→Prop}{w:World}{sz:Nat}{v:Value}{xs:List Value}{n:Nat}(h:SeqR w S sz v xs n)(hk:∀g,S g→S' g):SeqR w S' sz v xs n:=by
 obtain⟨h0,h1,h2,a,c,h3,h4,h5⟩:=h
 refine⟨h0,h1,h2,a,c,h3,h4,fun j u hu=>?_⟩
 obtain⟨ad,k1,k2,k3⟩:=h5 j u hu
 exact⟨ad,k1,hk _ k2,k3⟩
section
variable{S S':Nat→Prop}{H:Hp}{nx:Nat}{iv iv':Iv}{B:Nat}{w w' w2:World}{ρ:Nat→Sx.Val}{v:Value}{sz n:Nat}{xs:List Value}
end
end Go.Ex

/- The square root of a natural number. No condition. -/
namespace Go.Ex
open Go Go.Sx Go.Proofs

end Go.Ex
namespace Go.Sx
open Go Go.Ex Go.Proofs
/-- a list in a box of one's own -/
theorem Rel.boxSeq{H:Hp}{nx:Nat}{iv:Iv}{B:Nat}{w w':World}{ρ:Nat→Sx.Val}(r:Rel H nx iv B w ρ w'){id t sz n:Nat}{cs:List At}(h:getH H id=some (.box t cs))(hl:cs.length=n*sz)(hn:n≤maxLen)(h1:∀u∈cs,(u.den ρ).oneCell'=true):
  SeqR w' (fun g=>g=(ρ id).g) sz (.slice (some ⟨(ρ id).g,0,none⟩) n n) (cs.map (At.den ρ)) n:=by
 refine⟨hn,by simpa using hl,fun u hu=>?_,_,_,rfl,Nat.le_refl _,fun j u hu=>⟨_,rfl,rfl,?_⟩⟩
 ·obtain⟨x,hx,rfl⟩:=List.mem_map.1 hu
  exact h1 x hx
 ·have h0:(⟨(ρ id).g,0,none⟩:Addr).add j=⟨(ρ id).g,j,none⟩:=by
   cases j with
   |zero=>rfl
   |succ j=>simp[Addr.add]
  rw[h0,cell_of (r.box id t _ h)]
  exact hu
end Go.Sx
namespace Go.Ex
open Go Go.Sx Go.Proofs
theorem wrapI64n{n:Nat}(h:n≤9223372036854775807):IntKind.i64.wrap (n:Int)=n:=by rw[wrap64]<;>omega
theorem quoI64n{t b:Nat}(h:t≤9223372036854775807):IntKind.i64.wrap ((t:Int).tdiv (b:Int))=((t / b:Nat):Int):=by
 have h1:=Nat.div_le_self t b
 rw[Int.tdiv_eq_ediv_of_nonneg (by omega),←Int.natCast_ediv]
 exact wrapI64n (by omega)
end Go.Ex

/- The square root of a natural number: Newton's steps. No condition. -/
namespace Go.Ex
open Go Go.Sx Go.Proofs

end Go.Ex

/- RootBelow of package exact. Printed by program. No condition. -/
namespace Go.Ex
open Go Go.Sx Go.Proofs

/-- a fraction of the api that is nothing -/
def ratNil:Value:=.agg #[.bool false,.slice none 0 0,.bool false,.slice none 0 0]
theorem ln_small{n:Int}(h1: -9223372036854775808≤n)(h2:n≤9223372036854775807):ln n.natAbs≤2:=ln_le.2 (by show n.natAbs<4294967296^2;omega)
end Go.Ex

/- TrimLeft of zeros; Join of at most one. No condition. -/
namespace Go.Ex
open Go Go.Sx Go.Proofs

end Go.Ex

/- The digits of a natural number below 10^9. Condition: the number is below 10^9. -/
namespace Go.Ex
open Go Go.Sx Go.Proofs

end Go.Ex
namespace Go.Sx
open Go Go.Ex Go.Proofs
/-- a growing list of one's own -/
theorem Rel.vecSeq{H:Hp}{nx:Nat}{iv:Iv}{B:Nat}{w w':World}{ρ:Nat→Sx.Val}(r:Rel H nx iv B w ρ w'){id t m sz:Nat}{cs:List Value}(h:getH H id=some (.vec t sz cs))(hm:cs.length=m*sz)(hm1:m≤maxLen)(hs:0<sz)(h1:∀u∈cs,u.oneCell'=true):
  SeqR w' (fun g=>B≤g∧g<w'.heap.size) sz ((At.w id m).den ρ) cs m:=by
 rcases r.vec id t sz _ h with⟨hn,rfl⟩|⟨hn,spare,hb,hc,hcap⟩
 ·have hm0:m=0:=by
   rcases Nat.eq_zero_or_pos m with h|h
   ·exact h
   ·have:=Nat.mul_pos h hs;simp at hm;omega
  subst hm0
  refine⟨hm1,by simp,by simp,none,0,by simp[At.den,hn],Nat.le_refl _,by simp⟩
 ·refine⟨hm1,hm,h1,some ⟨(ρ id).g,0,none⟩,(ρ id).cap,by simp[At.den,hn],?_,fun j x hx=>⟨_,rfl,r.low id _ h hn,?_⟩⟩
  ·have h1:(cs++spare).length=cs.length+spare.length:=List.length_append
   have h2:m*sz≤(ρ id).cap*sz:=by omega
   exact Nat.le_of_mul_le_mul_right h2 hs
  ·rw[addr_add,cell_of hb,Nat.zero_add,List.getElem?_append_left (List.getElem?_eq_some_iff.1 hx).1]
   exact hx
end Go.Sx
namespace Go.Ex
open Go Go.Sx Go.Proofs

end Go.Ex

/- The text of a fraction whose parts are below 10^9. Printed by program. Condition: they are. -/
namespace Go.Ex
open Go Go.Sx Go.Proofs

def signed:Bool→ByteArray→ByteArray
 |true,s=>⟨#[45]⟩++s
 |false,s=>s
end Go.Ex

/- Rows of fractions; scale. No condition. -/
namespace Go.Ex
open Go Go.Sx Go.Proofs

/-- the four cells of a fraction -/
def Frac4(w:World)(S:Nat→Prop)(cs:List Value)(q:Rat):Prop:=∃b a n c b2 a2 n2 c2,cs=[.bool b,.slice a n c,.bool b2,.slice a2 n2 c2]∧FracR w S (.agg #[.bool b,.slice a n c,.bool b2,.slice a2 n2 c2]) q
/-- .. of a row -/
def Fr(w:World)(S:Nat→Prop)(css:List (List Value))(qs:List Rat):Prop:=css.length=qs.length∧∀(j:Nat) cs q,css[j]? =some cs→qs[j]? =some q→Frac4 w S cs q
section
variable{S S':Nat→Prop}{w w2:World}{cs:List Value}{css:List (List Value)}{q:Rat}{qs:List Rat}
end
section
variable{S S':Nat→Prop}{H:Hp}{nx:Nat}{iv iv':Iv}{B:Nat}{w w' w2:World}{ρ:Nat→Sx.Val}{css:List (List Value)}{qs:List Rat}
end
theorem flat_len:∀{css:List (List Value)},(∀cs∈css,cs.length=4)→css.flatten.length=css.length*4
 |[],_=>rfl
 |c::r,h=>by
  rw[List.flatten_cons,List.length_append,flat_len (fun cs hc=>h cs (List.mem_cons_of_mem _ hc)),h c List.mem_cons_self,List.length_cons]
  omega
theorem flat_get:∀{css:List (List Value)} {j:Nat} {cs:List Value},(∀cs∈css,cs.length=4)→css[j]? =some cs→∀k u,cs[k]? =some u→css.flatten[j*4+k]? =some u
 |[],j,cs,_,hj,_,_,_=>by simp at hj
 |c::r,0,cs,h,hj,k,u,hu=>by
  simp at hj
  subst hj
  rw[List.flatten_cons,List.getElem?_append_left (by have:=(List.getElem?_eq_some_iff.1 hu).1;omega)]
  simpa using hu
 |c::r,j+1,cs,h,hj,k,u,hu=>by
  have hc:=h c List.mem_cons_self
  rw[List.flatten_cons,List.getElem?_append_right (by omega),hc,show(j+1)*4+k-4=j*4+k by omega]
  exact flat_get (fun cs hc=>h cs (List.mem_cons_of_mem _ hc)) (by simpa using hj) k u hu
theorem flat_set:∀{css:List (List Value)} {j:Nat} {cs:List Value},(∀cs∈css,cs.length=4)→j<css.length→css.flatten.take (j*4)++cs++css.flatten.drop (j*4+4)=(css.set j cs).flatten
 |[],j,cs,_,hj=>by simp at hj
 |c::r,0,cs,h,_=>by
  have hc:=h c List.mem_cons_self
  simp[List.flatten_cons,hc]
 |c::r,j+1,cs,h,hj=>by
  have hc:=h c List.mem_cons_self
  rw[List.flatten_cons,show(j+1)*4=c.length+j*4 by omega,List.take_length_add_append,show c.length+j*4+4=c.length+(j*4+4) by omega,List.drop_length_add_append,List.set_cons_succ,List.flatten_cons,
   ←flat_set (fun cs hc=>h cs (List.mem_cons_of_mem _ hc)) (by simpa using hj),List.append_assoc,List.append_assoc,List.append_assoc]
/-- blocks that are none of one's own -/
abbrev Out(B:Nat)(iv:Iv):Nat→Prop:=Cv (fun g=>g<B) B iv
theorem rowRel{H:Hp}{nx:Nat}{iv:Iv}{B Bc e sz m:Nat}{w w':World}{ρ:Nat→Sx.Val}{v:Value}{xs:List Value}(h:w.ownsRow Bc e sz v m xs)(hc:∀g,v.ownBlock=some g→Out B iv g)(r:Rel H nx iv B w ρ w'):w'.ownsRow Bc e sz v m xs:=
 ownsRow.keep h fun b hb=>Rel.same r (fun _ h=>h) (hc b hb)
theorem grownBy_bel2{w w1 w2:World}{row:Option Nat}(h:w.grownBy w1 row)(k:Bel w.heap.size w1 w2):w.grownBy w2 row:=
 ⟨k.os.trans h.os,k.tape.trans h.tape,k.output.trans h.output,Nat.le_trans h.size k.size,fun b hb hn=>(k.block b hb).trans (h.block b hb hn)⟩
end Go.Ex

/- Rows of fractions: adding a multiple of another row. No condition. -/
namespace Go.Ex
open Go Go.Sx Go.Proofs

def uptoI(i:Nat)(f:Nat→Rat→Rat)(qs:List Rat):List Rat:=qs.mapIdx fun j q=>if j<i then f j q else q
theorem uptoI_zero(f:Nat→Rat→Rat)(qs:List Rat):uptoI 0 f qs=qs:=by
 apply List.ext_getElem?
 intro j
 simp[uptoI]
theorem uptoI_all(f:Nat→Rat→Rat)(qs:List Rat):uptoI qs.length f qs=qs.mapIdx f:=by
 apply List.ext_getElem?
 intro j
 simp only[uptoI,List.getElem?_mapIdx]
 cases h:qs[j]? with
 |none=>rfl
 |some q=>simp[(List.getElem?_eq_some_iff.1 h).1]
theorem uptoI_succ{f:Nat→Rat→Rat}{qs:List Rat}{i:Nat}{q:Rat}(h:qs[i]? =some q):(uptoI i f qs).set i (f i q)=uptoI (i+1) f qs:=by
 apply List.ext_getElem?
 intro j
 have hi:=(List.getElem?_eq_some_iff.1 h).1
 by_cases hij:i=j
 ·subst hij
  rw[List.getElem?_set_self (by simp[uptoI];exact hi)]
  simp[uptoI,List.getElem?_mapIdx,h]
 ·rw[List.getElem?_set_ne hij]
  simp only[uptoI,List.getElem?_mapIdx]
  have:(j<i)↔(j<i+1):=by omega
  simp[this]
theorem uptoI_same{f:Nat→Rat→Rat}{qs:List Rat}{i:Nat}{q:Rat}(h:qs[i]? =some q)(hf:f i q=q):uptoI i f qs=uptoI (i+1) f qs:=by
 rw[←uptoI_succ h,hf]
 apply List.ext_getElem?
 intro j
 have hi:=(List.getElem?_eq_some_iff.1 h).1
 by_cases hij:i=j
 ·subst hij
  rw[List.getElem?_set_self (by simp[uptoI];exact hi)]
  simp[uptoI,List.getElem?_mapIdx,h]
 ·rw[List.getElem?_set_ne hij]
theorem uptoI_at{f:Nat→Rat→Rat}{qs:List Rat}{i:Nat}{q:Rat}(h:qs[i]? =some q):(uptoI i f qs)[i]? =some q:=by
 simp only[uptoI,List.getElem?_mapIdx,h]
 simp
section
variable{C C' S S':Nat→Prop}{H:Hp}{nx:Nat}{iv iv':Iv}{B:Nat}{w w' w2:World}{ρ:Nat→Sx.Val}{v:Value}{qs:List Rat}
end
end Go.Ex

/- Elimination, as plain lists of fractions. No condition. -/
namespace Go.Ex

def at2(M:List (List Rat))(i c:Nat):Rat:=(M.getD i []).getD c 0
def addR(p:Rat)(ps:List Rat)(j:Nat)(q:Rat):Rat:=q+p*ps.getD j 0
def scaled(M:List (List Rat))(at_ c:Nat):List (List Rat):=M.set at_ ((M.getD at_ []).map (· *(1 / at2 M at_ c)))
/-- sizes: all entries -/
def Ht(M:List (List Rat))(h:Nat):Prop:=∀r∈M,∀q∈r,rl q+1≤h
end Go.Ex

/- What elimination keeps. No condition. -/
namespace Go.Ex
def Len(n:Nat)(M:List (List Rat)):Prop:=∀r∈M,r.length=n
end Go.Ex

/- Matrices of fractions in memory. No condition. -/
namespace Go.Ex
open Go Go.Sx Go.Proofs

/-- a matrix: its rows lie apart; their limbs lie in S -/
structure MatW(w:World)(S:Nat→Prop)(vm:Value)(rv:List Value)(n:Nat)(M:List (List Rat)):Prop where
 out:w.ownsRow 0 T.row 1 vm rv.length rv
 len:rv.length=M.length
 row:∀(i:Nat) v qs,rv[i]? =some v→M[i]? =some qs→∃css,w.ownsRow 0 T.fraction 4 v n css.flatten∧css.length=n∧Fr w S css qs
 dis:∀(i j:Nat) a b g,rv[i]? =some a→rv[j]? =some b→a.ownBlock=some g→b.ownBlock=some g→i=j
 offm:∀v∈rv,∀g,v.ownBlock=some g→vm.ownBlock≠some g
/-- the blocks of a matrix -/
def Mb(vm:Value)(rv:List Value)(g:Nat):Prop:=vm.ownBlock=some g∨∃v∈rv,v.ownBlock=some g
/-- all but some blocks is as it was -/
structure Kept(w w2:World)(X:Nat→Prop):Prop where
 os:w2.os=w.os
 tape:w2.tape=w.tape
 output:w2.output=w.output
 size:w.heap.size≤w2.heap.size
 block:∀k,k<w.heap.size→¬X k→w2.heap[k]? =w.heap[k]?
section
variable{S S' X:Nat→Prop}{H:Hp}{nx n:Nat}{iv iv':Iv}{B:Nat}{w w' w2 w3:World}{ρ:Nat→Sx.Val}{vm:Value}{rv:List Value}{M:List (List Rat)}
end
end Go.Ex
namespace Go.Sx
open Go Go.Ex Go.Proofs
/-- the very world becomes the named one, when a row that is held raw was written and new blocks were made -/
theorem Rel.rowedNew{H:Hp}{nx:Nat}{iv:Iv}{B:Nat}{w w' w2:World}{ρ:Nat→Sx.Val}{row:Option Nat}(r:Rel H nx iv B w ρ w')(hne:∀g,row=some g→∀id b,getH H id=some b→(ρ id).nil=false→(ρ id).g≠g)(h:w'.grownBy w2 row):Rel H nx ((w'.heap.size,w2.heap.size)::iv) B w2 ρ w2:=
 r.moved h.size (fun id b hb hn=>h.block _ (r.low id b hb hn).2 fun e=>hne _ e.symm id b hb hn rfl) fun lo hi hm=>by
  rcases List.mem_cons.1 hm with e|hm
  ·injection e with e1 e2
   subst e1 e2
   exact⟨Nat.le_refl _,fun id b hb hn=>by have:=(r.low id b hb hn).2;omega⟩
  ·exact⟨by have:=r.ivs lo hi hm;have:=r.size;have:=h.size;omega,fun id b hb hn=>r.prot lo hi hm id b hb hn⟩
end Go.Sx
namespace Go.Ex
open Go Go.Sx Go.Proofs
end Go.Ex

/- Elimination in memory. No condition but sizes. -/
namespace Go.Ex
open Go Go.Sx Go.Proofs

end Go.Ex
namespace Go.Sx
open Go Go.Ex Go.Proofs
theorem Sub.nil{B nx:Nat}{l:Env}{H:Hp}{iv:Iv}{w w':World}{ρ:Nat→Sx.Val}{t:LoopI}(u e sz:Nat)(h9:getE l u=some (.o (.v (.slice none 0 0))))(hsc:ScE nx l)(r:Rel H nx iv B w ρ w')
  (h:∀ρ1,Rel ((nx,.vec e sz [])::H) (nx+1) iv B w ρ1 w'→Sx.Sub B ((u,.o (.w nx 0))::l) (nx+1) ρ1 w' t):Sx.Sub B l nx ρ w' t:=by
 have r1:=r.push (.vec e sz []) ⟨0,0,true⟩ (w2:=w') rfl rfl rfl (Nat.le_refl _) (fun _ _=>rfl) (fun h=>by cases h) (.inl ⟨rfl,rfl⟩) trivial
 obtain⟨ρ',h1,h2⟩:=h _ r1
 refine⟨ρ',h1,fun x v hv=>?_⟩
 obtain⟨h3,v0,h4,h5⟩:=h2 x v hv
 refine⟨h3,?_⟩
 rw[getE_cons]at h4
 split at h4
 ·rename_i e;subst e
  injection h4 with h4
  subst h4
  refine⟨_,h9,?_⟩
  rw[←h5]
  simp[SV.den,At.den,upd_same]
 ·refine⟨v0,h4,?_⟩
  rw[←h5]
  exact SV.den_congr (fun id hid=>upd_lt id hid) (hsc.get _ _ h4)
end Go.Sx
namespace Go.Ex
open Go Go.Sx Go.Proofs

/-- an element of a matrix -/
structure ElemW(w:World)(S:Nat→Prop)(rv:List Value)(n:Nat)(M:List (List Rat))(gm k c g ck:Nat)(q:Rat)(d1:Bool)(e1:Option Addr)(m1 k1:Nat)(d2:Bool)(e2:Option Addr)(m2 k2:Nat):Prop where
 rv:rv[k]? =some (.slice (some ⟨g,0,none⟩) n ck)
 at_:at2 M k c=q
 frac:FracR w S (.agg #[.bool d1,.slice e1 m1 k1,.bool d2,.slice e2 m2 k2]) q
 outer:w.cell? (Addr.add ⟨gm,0,none⟩ (k*1))=some (.slice (some ⟨g,0,none⟩) n ck)
 cells:∀j u,[Value.bool d1,.slice e1 m1 k1,.bool d2,.slice e2 m2 k2][j]? =some u→w.cell? ((Addr.add ⟨g,0,none⟩ (c*4)).add j)=some u
theorem set_one{α:Type}{xs:List α}{j:Nat}{v:α}(h:j<xs.length):xs.take (j*1)++[v]++xs.drop (j*1+1)=xs.set j v:=by
 rw[Nat.mul_one,List.set_eq_take_append_cons_drop,if_pos h]
 simp
end Go.Ex

/- Rows of fractions of a call's own, held raw; lists of fractions of the api; matrices that are only read. No condition. -/
namespace Go.Ex
open Go Go.Sx Go.Proofs

/-- a row that may be written: its limbs lie in S -/
def RowW(w:World)(S:Nat→Prop)(v:Value)(n:Nat)(qs:List Rat):Prop:=∃css,w.ownsRow 0 T.fraction 4 v n css.flatten∧css.length=n∧Fr w S css qs
section
variable{S S' C:Nat→Prop}{H:Hp}{nx n:Nat}{iv iv':Iv}{B:Nat}{w w' w2:World}{ρ:Nat→Sx.Val}{v:Value}{qs:List Rat}
/-- a row of a call's own making, which the caller may write: its block is new, its limbs lie elsewhere -/
structure RowX(w:World)(S:Nat→Prop)(B:Nat)(iv:Iv)(v:Value)(n:Nat)(qs:List Rat):Prop where
 row:RowW w (fun g=>Cv S B iv g∧v.ownBlock≠some g) v n qs
 new:∀g,v.ownBlock=some g→Cv (fun _=>False) B iv g
/-- a list of four-celled elements is read -/
def ListR{α:Type}(P:World→(Nat→Prop)→List Value→α→Prop)(w:World)(S:Nat→Prop)(v:Value)(xs:List α):Prop:=
 ∃css:List (List Value),SeqR w S 4 v css.flatten xs.length∧css.length=xs.length∧(∀cs∈css,cs.length=4)∧∀(j:Nat) cs x,css[j]? =some cs→xs[j]? =some x→P w S cs x
theorem ListR.shape{α:Type}{P:World→(Nat→Prop)→List Value→α→Prop}{xs:List α}(h:ListR P w S v xs):∃a c,v= .slice a xs.length c∧xs.length≤c∧xs.length≤maxLen:=by
 obtain⟨css,⟨h0,_,_,a,c,h1,h2,_⟩,_⟩:=h
 exact⟨a,c,h1,h2,h0⟩
theorem ListR.load{α:Type}{P:World→(Nat→Prop)→List Value→α→Prop}{xs:List α}{a:Option Addr}{m c j:Nat}{x:α}(h:ListR P w S (.slice a m c) xs)(hq:xs[j]? =some x):
  ∃ad cs,a=some ad∧P w S cs x∧cs.length=4∧∀k u,cs[k]? =some u→S ad.block∧w.cell? ((ad.add (j*4)).add k)=some u:=by
 obtain⟨css,⟨h0,h1,h2,a',c',e,h3,h4⟩,hl,hl4,hf⟩:=h
 injection e with e1 e2 e3
 subst e1
 obtain⟨cs,hcs⟩:∃cs,css[j]? =some cs:=⟨_,List.getElem?_eq_getElem (by rw[hl];exact(List.getElem?_eq_some_iff.1 hq).1)⟩
 have hF:=hf j cs x hcs hq
 have hlc:=hl4 cs (List.mem_of_getElem? hcs)
 obtain⟨ad,k1,k2,k3⟩:=h4 (j*4+0) _ (flat_get hl4 hcs 0 _ (List.getElem?_eq_getElem (show 0<cs.length by omega)))
 refine⟨ad,cs,k1,hF,hlc,fun k u hu=>?_⟩
 obtain⟨ad2,m1,m2,m3⟩:=h4 (j*4+k) u (flat_get hl4 hcs k u hu)
 rw[k1]at m1
 injection m1 with m1
 subst m1
 refine⟨m2,?_⟩
 rw[←m3]
 have:(ad.add (j*4)).add k=ad.add (j*4+k):=by
  unfold Addr.add
  split<;>split<;>simp_all<;>omega
 rw[this]
/-- a list of slices is read -/
def SlicesR{α:Type}(P:World→(Nat→Prop)→Value→α→Prop)(w:World)(S:Nat→Prop)(v:Value)(M:List α):Prop:=
 ∃rv,SeqR w S 1 v rv M.length∧rv.length=M.length∧∀(i:Nat) u x,rv[i]? =some u→M[i]? =some x→P w S u x
theorem SlicesR.shape{α:Type}{P:World→(Nat→Prop)→Value→α→Prop}{xs:List α}(h:SlicesR P w S v xs):∃a c,v= .slice a xs.length c∧xs.length≤c∧xs.length≤maxLen:=by
 obtain⟨rv,⟨h0,_,_,a,c,h1,h2,_⟩,_⟩:=h
 exact⟨a,c,h1,h2,h0⟩
theorem SlicesR.load{α:Type}{P:World→(Nat→Prop)→Value→α→Prop}{xs:List α}{a:Option Addr}{m c j:Nat}{x:α}(h:SlicesR P w S (.slice a m c) xs)(hq:xs[j]? =some x):
  ∃ad u,a=some ad∧P w S u x∧S ad.block∧w.cell? (ad.add (j*1))=some u:=by
 obtain⟨rv,⟨h0,h1,h2,a',c',e,h3,h4⟩,hl,hf⟩:=h
 injection e with e1 e2 e3
 subst e1
 obtain⟨u,hu⟩:∃u,rv[j]? =some u:=⟨_,List.getElem?_eq_getElem (by rw[hl];exact(List.getElem?_eq_some_iff.1 hq).1)⟩
 obtain⟨ad,k1,k2,k3⟩:=h4 j u hu
 exact⟨ad,u,k1,hf j u x hu hq,k2,by rw[Nat.mul_one];exact k3⟩
end
section
variable{S S':Nat→Prop}{H:Hp}{nx:Nat}{iv iv':Iv}{B:Nat}{w w' w2:World}{ρ:Nat→Sx.Val}{v:Value}{xs:List (Int×Int)}
end
section
variable{S S':Nat→Prop}{H:Hp}{nx:Nat}{iv iv':Iv}{B:Nat}{w w' w2:World}{ρ:Nat→Sx.Val}{v:Value}{M:List (List (Int×Int))}
end
section
variable{S S':Nat→Prop}{H:Hp}{nx:Nat}{iv iv':Iv}{B:Nat}{w w' w2:World}{ρ:Nat→Sx.Val}{v:Value}{M:List (List Rat)}
end
end Go.Ex

/- Columns, the error of a matrix, zeros, values. No condition but sizes. -/
namespace Go.Ex
open Go Go.Sx Go.Proofs

end Go.Ex

/- Zeros, values: rows of fractions that are made. No condition but sizes. -/
namespace Go.Ex
open Go Go.Sx Go.Proofs

/-- the cells of a fraction that is not set -/
def f0:List Value:=[.bool false,.slice none 0 0,.bool false,.slice none 0 0]
/-- a row that is being filled -/
structure Fill(w:World)(S:Nat→Prop)(n i:Nat)(css:List (List Value))(qs:List Rat):Prop where
 len:css.length=n
 four:∀cs∈css,cs.length=4
 one:∀cs∈css,∀u∈cs,u.oneCell'=true
 at_:∀(j:Nat) cs q,j<i→css[j]? =some cs→qs[j]? =some q→Frac4 w S cs q
section
variable{S S':Nat→Prop}{H:Hp}{nx n i:Nat}{iv iv':Iv}{B:Nat}{w w1 w' w2:World}{ρ:Nat→Sx.Val}{css:List (List Value)}{qs:List Rat}
end
end Go.Ex

/- Values of a list, of a matrix. No condition but sizes. -/
namespace Go.Ex
open Go Go.Sx Go.Proofs

end Go.Ex

/- Rows that are made one by one; matrix. No condition but sizes. -/
namespace Go.Ex
open Go Go.Sx Go.Proofs

/-- rows of one's own making: their blocks are new and apart, their limbs lie elsewhere -/
structure RowsX(w:World)(S:Nat→Prop)(B:Nat)(iv:Iv)(rv:List Value)(n:Nat)(M:List (List Rat)):Prop where
 len:rv.length=M.length
 row:∀(i:Nat) v qs,rv[i]? =some v→M[i]? =some qs→RowW w (fun g=>Cv S B iv g∧¬ ∃u∈rv,u.ownBlock=some g) v n qs
 dis:∀(i j:Nat) a b g,rv[i]? =some a→rv[j]? =some b→a.ownBlock=some g→b.ownBlock=some g→i=j
 new:∀v∈rv,∀g,v.ownBlock=some g→Cv (fun _=>False) B iv g
theorem oldF'(B:Nat):∀g,(fun _:Nat=>False) g→g<B:=fun _ h=>h.elim
theorem cvF{S:Nat→Prop}{B:Nat}{iv:Iv}{g:Nat}(h:Cv (fun _=>False) B iv g):Cv S B iv g:=h.elim (fun h=>h.elim) .inr
section
variable{S S':Nat→Prop}{H:Hp}{nx n i:Nat}{iv iv':Iv}{B:Nat}{w w1 w' w2:World}{ρ:Nat→Sx.Val}{rv:List Value}{M:List (List Rat)}
/-- a matrix of a call's own making -/
structure MatX(w:World)(S:Nat→Prop)(B:Nat)(iv:Iv)(vm:Value)(n:Nat)(M:List (List Rat)):Prop where
 ex:∃rv,MatW w (fun g=>Cv S B iv g∧¬Mb vm rv g) vm rv n M∧∀g,Mb vm rv g→Cv (fun _=>False) B iv g
end
end Go.Ex

/- Concat of rows; Clone of a row; looking for an integer. Printed by program. No condition but sizes. -/
namespace Go.Ex
open Go Go.Sx Go.Proofs
/-- integers in a list are read -/
def IntsR(w:World)(S:Nat→Prop)(v:Value)(ps:List Nat):Prop:=SeqR w S 1 v (ps.map fun c:Nat=>.int .i64 (c:Int)) ps.length
theorem IntsR.keep{S:Nat→Prop}{w w2:World}{v:Value}{ps:List Nat}(h:IntsR w S v ps)(hk:∀g,S g→w2.heap[g]? =w.heap[g]?):IntsR w2 S v ps:=SeqR.keep h hk
theorem IntsR.weak{S S':Nat→Prop}{w:World}{v:Value}{ps:List Nat}(h:IntsR w S v ps)(hk:∀g,S g→S' g):IntsR w S' v ps:=SeqR.weak h hk
section
variable{S S':Nat→Prop}{H:Hp}{nx:Nat}{iv iv':Iv}{B:Nat}{w w' w2:World}{ρ:Nat→Sx.Val}{v:Value}{ps:List Nat}
theorem IntsR.rel(h:IntsR w (Cv S B iv) v ps)(r:Rel H nx iv B w ρ w')(hS:∀g,S g→g<B):IntsR w' (Cv S B iv) v ps:=IntsR.keep h fun _ hg=>Rel.same r hS hg
theorem IntsR.got(h:IntsR w2 (Nw (fun _=>False) w' w2) v ps)(hB:B≤w'.heap.size)(hm:(w'.heap.size,w2.heap.size)∈iv):IntsR w2 (Cv S B iv) v ps:=IntsR.weak h fun _ hg=>hg.got hB hm
end

end Go.Ex

/- Writing into a row that is held raw; the kernel basis. No condition but sizes. -/
namespace Go.Ex
open Go Go.Sx Go.Proofs

section
variable{S S':Nat→Prop}{H:Hp}{nx n:Nat}{iv iv':Iv}{B:Nat}{w w' w2:World}{ρ:Nat→Sx.Val}{v:Value}{qs:List Rat}
end
/-- the kernel vector of a free column, when so many pivots are set -/
def kvecTo(A:List (List Rat))(pv:List Nat)(cols c i:Nat):List Rat:=(List.range i).foldl (fun x i=>x.set (pv.getD i 0) (-(at2 A i c))) ((List.replicate cols 0).set c 1)
def kernelTo(A:List (List Rat))(pv:List Nat)(cols c:Nat):List (List Rat):=((List.range c).filter fun c=>decide (c∉pv)).map fun c=>kvecTo A pv cols c pv.length
theorem kvecTo_succ(A:List (List Rat))(pv:List Nat)(cols c i:Nat):kvecTo A pv cols c (i+1)=(kvecTo A pv cols c i).set (pv.getD i 0) (-(at2 A i c)):=by
 rw[kvecTo,List.range_succ,List.foldl_append];rfl
theorem kernelTo_in{A:List (List Rat)}{pv:List Nat}{cols c:Nat}(h:c∈pv):kernelTo A pv cols (c+1)=kernelTo A pv cols c:=by
 rw[kernelTo,List.range_succ,List.filter_append]
 simp[h,kernelTo]
theorem kernelTo_out{A:List (List Rat)}{pv:List Nat}{cols c:Nat}(h:c∉pv):kernelTo A pv cols (c+1)=kernelTo A pv cols c++[kvecTo A pv cols c pv.length]:=by
 rw[kernelTo,List.range_succ,List.filter_append]
 simp[h,kernelTo]
end Go.Ex

/- Clone of a row; what solve needs. No condition but sizes. -/
namespace Go.Ex
open Go Go.Sx Go.Proofs

end Go.Ex

/- Solving a system in memory. No condition but sizes. -/
namespace Go.Ex
open Go Go.Sx Go.Proofs

def xvecTo(A:List (List Rat))(pv:List Nat)(cols i:Nat):List Rat:=(List.range i).foldl (fun x i=>x.set (pv.getD i 0) (at2 A i cols)) (List.replicate cols 0)
theorem xvecTo_succ(A:List (List Rat))(pv:List Nat)(cols i:Nat):xvecTo A pv cols (i+1)=(xvecTo A pv cols i).set (pv.getD i 0) (at2 A i cols):=by
 rw[xvecTo,List.range_succ,List.foldl_append];rfl
/-- a row that is being written, beside rows that are done -/
structure UnitW(w:World)(B:Nat)(iv:Iv)(rv:List Value)(v:Value)(n:Nat)(qs:List Rat):Prop where
 row:RowW w (fun g=>(Cv (fun _=>False) B iv g∧¬ ∃u∈rv,u.ownBlock=some g)∧v.ownBlock≠some g) v n qs
 blk:∀g,v.ownBlock=some g→Cv (fun _=>False) B iv g
section
variable{H:Hp}{nx n:Nat}{iv iv':Iv}{B:Nat}{w w' w2:World}{ρ:Nat→Sx.Val}{v:Value}{qs:List Rat}{rv:List Value}
end
end Go.Ex

/- Giving rows and matrices back in normal form. No condition but sizes. -/
namespace Go.Ex
open Go Go.Sx Go.Proofs

/-- the four cells of a fraction of the api in normal form -/
def Rat4C(w:World)(S:Nat→Prop)(cs:List Value)(q:Rat):Prop:=∃b a n c b2 a2 n2 c2,cs=[.bool b,.slice a n c,.bool b2,.slice a2 n2 c2]∧RatC w S (.agg #[.bool b,.slice a n c,.bool b2,.slice a2 n2 c2]) q
abbrev RatsC:=ListR Rat4C
abbrev RatMC:=SlicesR RatsC
section
variable{S S':Nat→Prop}{H:Hp}{nx:Nat}{iv iv':Iv}{B:Nat}{w w' w2:World}{ρ:Nat→Sx.Val}{v:Value}{qs:List Rat}{cs:List Value}{q:Rat}
theorem Rat4C.keep(h:Rat4C w S cs q)(hk:∀g,S g→w2.heap[g]? =w.heap[g]?):Rat4C w2 S cs q:=by
 obtain⟨b,a,n,c,b2,a2,n2,c2,h1,h2⟩:=h;exact⟨b,a,n,c,b2,a2,n2,c2,h1,h2.keep hk⟩
theorem Rat4C.weak(h:Rat4C w S cs q)(hk:∀g,S g→S' g):Rat4C w S' cs q:=by
 obtain⟨b,a,n,c,b2,a2,n2,c2,h1,h2⟩:=h;exact⟨b,a,n,c,b2,a2,n2,c2,h1,h2.weak hk⟩
theorem RatsC.keep(h:RatsC w S v qs)(hk:∀g,S g→w2.heap[g]? =w.heap[g]?):RatsC w2 S v qs:=by
 obtain⟨css,h1,h2,h3,h4⟩:=h;exact⟨css,h1.keep hk,h2,h3,fun j cs x k1 k2=>(h4 j cs x k1 k2).keep hk⟩
theorem RatsC.weak(h:RatsC w S v qs)(hk:∀g,S g→S' g):RatsC w S' v qs:=by
 obtain⟨css,h1,h2,h3,h4⟩:=h;exact⟨css,h1.weak hk,h2,h3,fun j cs x k1 k2=>(h4 j cs x k1 k2).weak hk⟩
theorem RatMC.keep{M:List (List Rat)}(h:RatMC w S v M)(hk:∀g,S g→w2.heap[g]? =w.heap[g]?):RatMC w2 S v M:=by
 obtain⟨rv,h1,h2,h3⟩:=h;exact⟨rv,h1.keep hk,h2,fun i u x k1 k2=>RatsC.keep (h3 i u x k1 k2) hk⟩
theorem RatMC.weak{M:List (List Rat)}(h:RatMC w S v M)(hk:∀g,S g→S' g):RatMC w S' v M:=by
 obtain⟨rv,h1,h2,h3⟩:=h;exact⟨rv,h1.weak hk,h2,fun i u x k1 k2=>RatsC.weak (h3 i u x k1 k2) hk⟩
end
section
variable{S S':Nat→Prop}{H:Hp}{nx:Nat}{iv iv':Iv}{B:Nat}{w w' w2:World}{ρ:Nat→Sx.Val}{v:Value}{qs:List Rat}
theorem RatsC.rel(h:RatsC w (Cv S B iv) v qs)(r:Rel H nx iv B w ρ w')(hS:∀g,S g→g<B):RatsC w' (Cv S B iv) v qs:=RatsC.keep h fun _ hg=>Rel.same r hS hg
theorem RatsC.past(h:RatsC w (Cv S B iv) v qs)(r:Rel H nx iv B w ρ w')(hS:∀g,S g→g<B)(he:Ext w' w2)(hm:∀p,p∈iv→p∈iv'):RatsC w2 (Cv S B iv') v qs:=
 RatsC.weak (RatsC.keep (RatsC.rel h r hS) fun g hg=>he.block g (Rel.old r hS g hg)) fun _ hg=>hg.mono hm
theorem RatsC.got(h:RatsC w2 (Nw (fun _=>False) w' w2) v qs)(hB:B≤w'.heap.size)(hm:(w'.heap.size,w2.heap.size)∈iv):RatsC w2 (Cv S B iv) v qs:=RatsC.weak h fun _ hg=>hg.got hB hm
theorem RatsC.out{w0 w1:World}(h:RatsC w1 (Cv S w0.heap.size iv) v qs)(r:Rel H nx iv w0.heap.size w1 ρ w')(hS:Old S w0):RatsC w' (Nw S w0 w') v qs:=
 RatsC.weak (RatsC.rel h r hS) fun _ hg=>Cv.nw hg r
end
section
variable{S S':Nat→Prop}{H:Hp}{nx:Nat}{iv iv':Iv}{B:Nat}{w w' w2:World}{ρ:Nat→Sx.Val}{v:Value}{M:List (List Rat)}
theorem RatMC.rel(h:RatMC w (Cv S B iv) v M)(r:Rel H nx iv B w ρ w')(hS:∀g,S g→g<B):RatMC w' (Cv S B iv) v M:=RatMC.keep h fun _ hg=>Rel.same r hS hg
theorem RatMC.past(h:RatMC w (Cv S B iv) v M)(r:Rel H nx iv B w ρ w')(hS:∀g,S g→g<B)(he:Ext w' w2)(hm:∀p,p∈iv→p∈iv'):RatMC w2 (Cv S B iv') v M:=
 RatMC.weak (RatMC.keep (RatMC.rel h r hS) fun g hg=>he.block g (Rel.old r hS g hg)) fun _ hg=>hg.mono hm
theorem RatMC.got(h:RatMC w2 (Nw (fun _=>False) w' w2) v M)(hB:B≤w'.heap.size)(hm:(w'.heap.size,w2.heap.size)∈iv):RatMC w2 (Cv S B iv) v M:=RatMC.weak h fun _ hg=>hg.got hB hm
theorem RatMC.old(h:RatMC w2 (Nw (Cv S B iv) w' w2) v M)(hB:B≤w'.heap.size):RatMC w2 (Cv S B ((w'.heap.size,w2.heap.size)::iv)) v M:=RatMC.weak h fun _ hg=>Nw.cv hg hB
end
end Go.Ex

/- Solve of package exact. No condition but sizes. -/
namespace Go.Ex
open Go Go.Sx Go.Proofs

theorem kernelTo_le(A:List (List Rat))(pv:List Nat)(cols c:Nat):(kernelTo A pv cols c).length≤c:=by
 unfold kernelTo
 rw[List.length_map]
 exact Nat.le_trans (List.length_filter_le _ _) (by simp)
end Go.Ex

/- Columns of 16 bits: carrying, spreading, packing. No condition. -/
namespace Go.Ex

/-- the value of columns -/
def colval:List Int→Int
 |[]=>0
 |c::r=>c+65536*colval r
def up(k:Nat):Int:=65536^k
theorem up_succ(k:Nat):up (k+1)=65536*up k:=by rw[up,Int.pow_succ,Int.mul_comm];rfl
theorem up_pos(k:Nat):0<up k:=Int.pow_pos (by decide)
theorem colval_append(a b:List Int):colval (a++b)=colval a+up a.length*colval b:=by
 induction a with
 |nil=>simp[colval,up]
 |cons c r ih=>rw[List.cons_append,colval,ih,colval,List.length_cons,up_succ,Int.mul_add,←Int.mul_assoc];omega
theorem colval_neg(a:List Int):colval (a.map (- ·))= -colval a:=by
 induction a with
 |nil=>rfl
 |cons c r ih=>rw[List.map_cons,colval,ih,colval];omega
/-- digits: from 0 to 65535 -/
def Dg(l:List Nat):Prop:=∀d∈l,d<65536
def dval(l:List Nat):Int:=colval (l.map fun d:Nat=>(d:Int))
theorem dval_bound{l:List Nat}(h:Dg l):0≤dval l∧dval l<up l.length:=by
 induction l with
 |nil=>exact⟨Int.le_refl _,by decide⟩
 |cons d r ih=>
  have h1:=ih fun x hx=>h x (List.mem_cons_of_mem _ hx)
  have h2:=h d List.mem_cons_self
  have e:dval (d::r)=(d:Int)+65536*dval r:=rfl
  rw[e,List.length_cons,up_succ]
  omega
/-- what is too much or too little is carried on -/
def carryTo:List Int→Int→List Nat×Int
 |[],k=>([],k)
 |c::r,k=>(((c+k) % 65536).toNat::(carryTo r ((c+k) / 65536)).1,(carryTo r ((c+k) / 65536)).2)
theorem carryTo_spec:∀(cs:List Int) (k:Int),colval cs+k=dval (carryTo cs k).1+up cs.length*(carryTo cs k).2∧Dg (carryTo cs k).1∧(carryTo cs k).1.length=cs.length
 |[],k=>⟨by simp[colval,carryTo,dval,up],by simp[carryTo,Dg],rfl⟩
 |c::r,k=>by
  obtain⟨h1,h2,h3⟩:=carryTo_spec r ((c+k) / 65536)
  have h4:0≤(c+k) % 65536:=Int.emod_nonneg _ (by decide)
  have h5:(c+k) % 65536<65536:=Int.emod_lt_of_pos _ (by decide)
  have h6:=Int.mul_ediv_add_emod (c+k) 65536
  refine⟨?_,fun d hd=>?_,by simp[carryTo,h3]⟩
  ·have e:dval (carryTo (c::r) k).1=(((c+k) % 65536).toNat:Int)+65536*dval (carryTo r ((c+k) / 65536)).1:=rfl
   have e2:(carryTo (c::r) k).2=(carryTo r ((c+k) / 65536)).2:=rfl
   rw[e,e2,colval,List.length_cons,up_succ,Int.mul_assoc]
   omega
  ·have e:(carryTo (c::r) k).1=((c+k) % 65536).toNat::(carryTo r ((c+k) / 65536)).1:=rfl
   rw[e]at hd
   rcases List.mem_cons.1 hd with rfl|hd
   ·omega
   ·exact h2 d hd
theorem carryTo_snoc(cs:List Int)(c k:Int):carryTo (cs++[c]) k=((carryTo cs k).1++[((c+(carryTo cs k).2) % 65536).toNat],(c+(carryTo cs k).2) / 65536):=by
 induction cs generalizing k with
 |nil=>rfl
 |cons d r ih=>simp only[List.cons_append,carryTo,ih]
theorem carryTo_small:∀(cs:List Int) (k:Int),(∀c∈cs,-1152921504606846976≤c∧c≤1152921504606846976)→ -1152921504606846976≤k→k≤1152921504606846976→ -1152921504606846976≤(carryTo cs k).2∧(carryTo cs k).2≤1152921504606846976
 |[],k,_,h1,h2=>⟨h1,h2⟩
 |c::r,k,h,h1,h2=>by
  have hc:=h c List.mem_cons_self
  exact carryTo_small r _ (fun x hx=>h x (List.mem_cons_of_mem _ hx)) (by omega) (by omega)
/-- a number that is not negative, in columns -/
def spreadN(n:Nat):List Nat:=if h:n=0 then []else n % 65536::spreadN (n / 65536)
termination_by n
decreasing_by omega
theorem spreadN_zero:spreadN 0=[]:=by rw[spreadN];rfl
theorem spreadN_pos{n:Nat}(h:0<n):spreadN n=n % 65536::spreadN (n / 65536):=by
 rw[spreadN,dif_neg (by omega)]
theorem spreadN_spec(n:Nat):dval (spreadN n)=n∧Dg (spreadN n):=by
 induction n using Nat.strongRecOn with
 |_ n ih=>
  rcases Nat.eq_zero_or_pos n with h|h
  ·subst h;rw[spreadN_zero];exact⟨rfl,by simp[Dg]⟩
  ·rw[spreadN_pos h]
   obtain⟨h1,h2⟩:=ih (n / 65536) (by omega)
   refine⟨?_,fun d hd=>?_⟩
   ·have e:dval (n % 65536::spreadN (n / 65536))=((n % 65536:Nat):Int)+65536*dval (spreadN (n / 65536)):=rfl
    rw[e,h1]
    omega
   ·rcases List.mem_cons.1 hd with rfl|hd
    ·omega
    ·exact h2 d hd
theorem spreadN_len{n:Nat}:∀{k:Nat},n<65536^k→(spreadN n).length≤k
 |0,h=>by
  have:n=0:=by simp at h;exact h
  subst this
  rw[spreadN_zero];simp
 |k+1,h=>by
  rcases Nat.eq_zero_or_pos n with h0|h0
  ·subst h0;rw[spreadN_zero];simp
  ·rw[spreadN_pos h0,List.length_cons]
   have:=spreadN_len (n:=n / 65536) (k:=k) (by rw[Nat.pow_succ]at h;exact Nat.div_lt_of_lt_mul (by rw[Nat.mul_comm];exact h))
   omega
/-- limbs out of columns -/
def packN:List Nat→List Nat
 |[]=>[]
 |[a]=>[a]
 |a::b::r=>(a+65536*b)::packN r
theorem packN_spec:∀(l:List Nat),Dg l→(val (packN l):Int)=dval l∧Lm (packN l)∧(packN l).length=(l.length+1) / 2
 |[],_=>⟨rfl,by simp[packN,Lm],rfl⟩
 |[a],h=>by
  have:=h a (by simp)
  exact⟨by simp[packN,val,dval,colval],fun x hx=>by simp[packN]at hx;omega,by simp[packN]⟩
 |a::b::r,h=>by
  obtain⟨h1,h2,h3⟩:=packN_spec r fun x hx=>h x (List.mem_cons_of_mem _ (List.mem_cons_of_mem _ hx))
  have ha:=h a (by simp)
  have hb:=h b (by simp)
  refine⟨?_,fun x hx=>?_,?_⟩
  ·have e:dval (a::b::r)=(a:Int)+65536*((b:Int)+65536*dval r):=rfl
   rw[e,←h1,packN,val]
   simp only[Int.natCast_add,Int.natCast_mul]
   omega
  ·rw[packN]at hx
   rcases List.mem_cons.1 hx with rfl|hx
   ·omega
   ·exact h2 x hx
  ·rw[packN,List.length_cons,h3]
   simp only[List.length_cons]
   omega
/-- so many limbs out of columns -/
def pk(ds:List Nat)(k:Nat):List Nat:=(List.range k).map fun i=>ds.getD (2*i) 0+65536*ds.getD (2*i+1) 0
theorem pk_succ(ds:List Nat)(k:Nat):pk ds (k+1)=pk ds k++[ds.getD (2*k) 0+65536*ds.getD (2*k+1) 0]:=by simp[pk,List.range_succ]
theorem pk_length(ds:List Nat)(k:Nat):(pk ds k).length=k:=by simp[pk]
theorem pk_all:∀(ds:List Nat),pk ds ((ds.length+1) / 2)=packN ds
 |[]=>rfl
 |[a]=>by simp[pk,packN,List.range_succ]
 |a::b::r=>by
  have ih:=pk_all r
  have e:((a::b::r).length+1) / 2=(r.length+1) / 2+1:=by simp only[List.length_cons];omega
  rw[e,packN,←ih,pk,List.range_succ_eq_map,List.map_cons,List.map_map,pk]
  congr 1
theorem pk_lm{ds:List Nat}(h:Dg ds)(k:Nat):Lm (pk ds k):=fun x hx=>by
 obtain⟨i,_,rfl⟩:=List.mem_map.1 hx
 have key:∀j,ds.getD j 0<65536:=fun j=>by
  rw[List.getD]
  cases hj:ds[j]? with
  |none=>simp
  |some d=>simp;exact h d (List.mem_of_getElem? hj)
 have h1:=key (2*i)
 have h2:=key (2*i+1)
 omega
end Go.Ex

/- The reference's columns: spread, carried, packed. No condition but sizes. -/
namespace Go.Ex
open Go Go.Sx Go.Proofs

/-- columns are read -/
def ColsR(w:World)(S:Nat→Prop)(v:Value)(cs:List Int):Prop:=SeqR w S 1 v (cs.map (Value.int .i64)) cs.length
theorem ColsR.keep{S:Nat→Prop}{w w2:World}{v:Value}{cs:List Int}(h:ColsR w S v cs)(hk:∀g,S g→w2.heap[g]? =w.heap[g]?):ColsR w2 S v cs:=SeqR.keep h hk
theorem ColsR.weak{S S':Nat→Prop}{w:World}{v:Value}{cs:List Int}(h:ColsR w S v cs)(hk:∀g,S g→S' g):ColsR w S' v cs:=SeqR.weak h hk
theorem ColsR.load{S:Nat→Prop}{w:World}{a:Option Addr}{n c j:Nat}{cs:List Int}{x:Int}(h:ColsR w S (.slice a n c) cs)(hx:cs[j]? =some x):∃ad,a=some ad∧S ad.block∧w.cell? (ad.add (j*1))=some (.int .i64 x):=by
 obtain⟨_,_,_,a',c',e,_,h4⟩:=h
 injection e with e1 e2 e3
 subst e1
 obtain⟨ad,k1,k2,k3⟩:=h4 j (.int .i64 x) (by rw[List.getElem?_map,hx];rfl)
 exact⟨ad,k1,k2,by rw[Nat.mul_one];exact k3⟩
theorem ColsR.shape{S:Nat→Prop}{w:World}{v:Value}{cs:List Int}(h:ColsR w S v cs):∃a c,v= .slice a cs.length c∧cs.length≤c:=by
 obtain⟨_,_,_,a',c',e,h3,_⟩:=h
 exact⟨a',c',e,h3⟩
/-- digits as columns -/
def dcols(ds:List Nat):List Int:=ds.map fun d:Nat=>(d:Int)
theorem dcols_length(ds:List Nat):(dcols ds).length=ds.length:=by simp[dcols]
end Go.Ex
namespace Go.Sx
open Go Go.Ex Go.Proofs
/-- a growing list of one's own, as a row that is held raw -/
theorem Rel.vecRow{H:Hp}{nx:Nat}{iv:Iv}{B:Nat}{w w':World}{ρ:Nat→Sx.Val}(r:Rel H nx iv B w ρ w'){id t m sz:Nat}{cs:List Value}(h:getH H id=some (.vec t sz cs))(hm:cs.length=m*sz)(hs:0<sz):
  w'.ownsRow B t sz ((At.w id m).den ρ) m cs:=by
 rcases r.vec id t sz _ h with⟨hn,rfl⟩|⟨hn,spare,hb,hc,hcap⟩
 ·have hm0:m=0:=by
   rcases Nat.eq_zero_or_pos m with h|h
   ·exact h
   ·have:=Nat.mul_pos h hs;simp at hm;omega
  subst hm0
  have:(At.w id 0).den ρ= .slice none 0 0:=by simp[At.den,hn]
  rw[this]
  exact World.ownsRow_nil _ _ _ _
 ·have hv:(At.w id m).den ρ= .slice (some ⟨(ρ id).g,0,none⟩) m (ρ id).cap:=by simp[At.den,hn]
  have h1:(cs++spare).length=cs.length+spare.length:=List.length_append
  rw[hv]
  refine⟨hm,.inr ⟨(ρ id).g,(ρ id).cap,_,rfl,(r.low id _ h hn).1,hb,?_,hcap,by simpa using hc,?_⟩⟩
  ·have h2:m*sz≤(ρ id).cap*sz:=by omega
   exact Nat.le_of_mul_le_mul_right h2 hs
  ·rw[←hm];simp
end Go.Sx
namespace Go.Ex
open Go Go.Sx Go.Proofs

theorem spread_c(n:Nat)(w:World)(hn:n≤9223372036854775807):Con PG N.ref01_spread #[.int .i64 n] w (Ret w fun v w2=>ColsR w2 (Nw (fun _=>False) w w2) v (dcols (spreadN n))):=by
 refine in_ref01_spread (by simp) ?_
 conv=>whnf
 refine⟨Nat×List Nat×World,fun z=>⟨[(0,.o (.v (.int .i64 z.1))),(3,.o (.w 0 z.2.1.length))],[(0,.vec T.int 1 ((dcols z.2.1).map (Value.int .i64)))],1,[],z.2.2⟩,fun z=>z.1,
  fun z=>Bel w.heap.size w z.2.2∧z.1≤n∧z.2.1.length≤n-z.1∧z.2.1++spreadN z.1=spreadN n,?_,?_⟩
 ·intro ρ w' r
  exact⟨(n,[],w'),⟨r.bel,Nat.le_refl _,by simp,by simp⟩,Sub.nil 3 T.int 1 rfl (by simp[ScE,SV.sc,At.sc,initE]) r fun ρ1 r1=>
   Sub.gen [] r1 ⟨rfl,trivial⟩ ⟨rfl,rfl,trivial⟩ (by simp[ScH,Blk.scopd]) (by simp[ScE,SV.sc,At.sc]) (by rfl) (by simp)⟩
 rintro⟨k,ds,w1⟩ ⟨hw,hk,hl,hs⟩
 dsimp only at hw hk hl hs ⊢
 have hdl:=dcols_length ds
 conv=>whnf
 refine BrS.mk (fun h=>?_) (fun h=>?_)
 ·have h:0<k:=by
   have:(k:Int)>0:=of_decide_eq_true h
   omega
  conv=>whnf
  refine⟨by decide,((k % 65536:Nat):Int),rem64n k 65536,?_⟩
  conv=>whnf
  refine .inl ?_
  conv=>whnf
  refine⟨by simp[hdl],?_,by have h1:=congrArg List.length hs;rw[List.length_append]at h1;have h2:=spreadN_len (n:=n) (k:=4) (by omega);unfold maxLen;omega,?_⟩
  ·have h1:=congrArg List.length hs
   rw[List.length_append]at h1
   have h2:=spreadN_len (n:=n) (k:=4) (by omega)
   omega
  conv=>whnf
  refine⟨by decide,((k / 65536:Nat):Int),quoI64n (by omega),?_⟩
  conv=>whnf
  intro ρ3 w3 r3
  have hl5:(ds++[k % 65536]).length=ds.length+1:=by simp
  have hm5:(dcols (ds++[k % 65536])).map (Value.int .i64)=(dcols ds).map (Value.int .i64)++[.int .i64 ((k % 65536:Nat):Int)]:=by simp[dcols]
  refine⟨(k / 65536,ds++[k % 65536],w3),⟨hw.tr r3.bel,by dsimp only;omega,by dsimp only;rw[hl5];omega,?_⟩,
   Sub.gen [(0,2)] r3 ⟨by rw[hm5];rfl,trivial⟩ ⟨rfl,by dsimp only;rw[hl5];rfl,trivial⟩ (by simp[ScH,Blk.scopd]) (by simp[ScE,SV.sc,At.sc]) (by rfl) (fun lo hi h=>h),by dsimp only;omega⟩
  dsimp only
  rw[←hs,spreadN_pos h]
  simp
 ·have h:k=0:=by
   have:¬(k:Int)>0:=of_decide_eq_false h
   omega
  subst h
  rw[spreadN_zero,List.append_nil]at hs
  subst hs
  conv=>whnf
  intro ρe we re
  refine⟨_,rfl,hw.tr re.bel,?_⟩
  have:=re.vecSeq (id:=0) (sz:=1) (m:=(spreadN n).length) rfl (by simp[hdl]) (by have h2:=spreadN_len (n:=n) (k:=4) (by omega);unfold maxLen;omega) (by decide) (by intro u hu;simp at hu;obtain⟨_,_,rfl⟩:=hu;rfl)
  unfold ColsR
  rw[hdl]
  exact this.weak fun g hg=>.inr hg
end Go.Ex
