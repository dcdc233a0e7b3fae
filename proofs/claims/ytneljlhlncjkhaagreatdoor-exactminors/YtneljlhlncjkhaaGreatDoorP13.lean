/- A part of the proof: texts X63 to L15. Each tells its conditions in its theorems. -/
import Derived.Test.YtneljlhlncjkhaaGreatDoorP7
import Derived.Test.YtneljlhlncjkhaaGreatDoorP11
import Derived.Test.YtneljlhlncjkhaaGreatDoorP12
/- The reference's fractions: quick, Normal, Add, Neg, Sub, Mul, SignOf, Quo, Cmp, Floor, Whole, Ratio. Printed by program. No condition but sizes. -/
namespace Go.Ex
open Go Go.Sx Go.Proofs

/-- a fraction of the api by its value; its parts have few limbs -/
def RatL(w:World)(S:Nat→Prop)(v:Value)(q:Rat):Prop:=∃b1 l1 b2 l2 a b,v= .agg #[.bool b1,l1,.bool b2,l2]∧IntL w S (.agg #[.bool b1,l1]) 100000 a∧IntL w S (.agg #[.bool b2,l2]) 100000 b∧ratio a b=q
theorem RatL.keep{S:Nat→Prop}{w w2:World}{v:Value}{q:Rat}(h:RatL w S v q)(hk:∀g,S g→w2.heap[g]? =w.heap[g]?):RatL w2 S v q:=by
 obtain⟨b1,l1,b2,l2,a,b,h1,h2,h3,h4⟩:=h;exact⟨b1,l1,b2,l2,a,b,h1,h2.keep hk,h3.keep hk,h4⟩
theorem RatL.weak{S S':Nat→Prop}{w:World}{v:Value}{q:Rat}(h:RatL w S v q)(hk:∀g,S g→S' g):RatL w S' v q:=by
 obtain⟨b1,l1,b2,l2,a,b,h1,h2,h3,h4⟩:=h;exact⟨b1,l1,b2,l2,a,b,h1,h2.weak hk,h3.weak hk,h4⟩
theorem RatL.v{S:Nat→Prop}{w:World}{v:Value}{q:Rat}(h:RatL w S v q):RatV w S v q:=by
 obtain⟨b1,l1,b2,l2,a,b,rfl,h2,h3,h4⟩:=h;exact⟨a,b,⟨b1,l1,b2,l2,rfl,h2.r,h3.r⟩,h4,h2.ln,h3.ln⟩
theorem RatL.shape{S:Nat→Prop}{w:World}{v:Value}{q:Rat}(h:RatL w S v q):∃b a n c b2 a2 n2 c2,v= .agg #[.bool b,.slice a n c,.bool b2,.slice a2 n2 c2]:=h.v.shape
theorem RatL.rl{S:Nat→Prop}{w:World}{v:Value}{q:Rat}(h:RatL w S v q):rl q≤100000:=by
 obtain⟨b1,l1,b2,l2,a,b,rfl,h2,h3,rfl⟩:=h
 have:=rl_ratio a b
 have:=h2.ln
 have:=h3.ln
 omega
theorem RatC.l{S:Nat→Prop}{w:World}{v:Value}{q:Rat}(h:RatC w S v q)(hl:rl q≤100000):RatL w S v q:=by
 obtain⟨b1,l1,b2,l2,h1,h2,h3⟩:=h
 exact⟨b1,l1,b2,l2,_,_,h1,h2.l (Nat.le_trans (rl_num q) hl),h3.l (Nat.le_trans (rl_den' q) hl),ratio_self q⟩
theorem rs_ratio(a b:Int):rs (ratio a b)=if b.sign<0 then -a.sign else a.sign:=by
 have sb:=sign_cases b
 rw[ratio]
 split
 ·rw[if_neg (by omega),rs,sign_div (by decide)]
 ·split
  ·rw[show Rat.divInt a b=Rat.divInt (-a) (-b)from(Rat.neg_divInt_neg a b).symm,rs,sign_div (by omega),Int.sign_neg]
  ·rw[rs,sign_div (by omega)]
theorem divInt_sq{a c:Int}:(a.natAbs<1073741824)→(c.natAbs<1073741824)→(a*c).natAbs≤1152921502459363329:=fun h1 h2=>by
 rw[Int.natAbs_mul]
 exact Nat.mul_le_mul (show a.natAbs≤1073741823 by omega) (show c.natAbs≤1073741823 by omega)
section
variable{S S':Nat→Prop}{H:Hp}{nx:Nat}{iv iv':Iv}{B:Nat}{w w' w2:World}{ρ:Nat→Sx.Val}{v:Value}{q:Rat}
theorem RatL.rel(h:RatL w (Cv S B iv) v q)(r:Rel H nx iv B w ρ w')(hS:∀g,S g→g<B):RatL w' (Cv S B iv) v q:=h.keep fun _ hg=>Rel.same r hS hg
theorem RatL.past(h:RatL w (Cv S B iv) v q)(r:Rel H nx iv B w ρ w')(hS:∀g,S g→g<B)(he:Ext w' w2)(hm:∀p,p∈iv→p∈iv'):RatL w2 (Cv S B iv') v q:=
 ((h.rel r hS).keep fun g hg=>he.block g (Rel.old r hS g hg)).weak fun _ hg=>hg.mono hm
end

theorem rSignOfR_c{S:Nat→Prop}{w:World}{v:Value}{a b:Int}(hS:Old S w)(hp:RatR w S v a b):
  Con PG N.ref01_SignOf #[v] w (Ret w fun v' _=>v'= .int .i64 (rs (ratio a b))):=by
 have hw:Bel w.heap.size w w:=Bel.refl
 obtain⟨b1,l1,b2,l2,rfl,ha,hb'⟩:=hp
 obtain⟨_,a1,n1,c1,e1⟩:=ha.shape
 obtain⟨_,a2,n2,c2,e2⟩:=hb'.shape
 simp only[Value.agg.injEq,Array.mk.injEq,List.cons.injEq,and_true]at e1 e2
 obtain⟨_,rfl⟩:=e1
 obtain⟨_,rfl⟩:=e2
 replace ha:=ha.weak (S':=Cv S w.heap.size []) fun _ h=>.inl h
 replace hb':=hb'.weak (S':=Cv S w.heap.size []) fun _ h=>.inl h
 have hr:=rs_ratio a b
 have sa:=sign_cases a
 refine in_ref01_SignOf (by simp) ?_
 conv=>whnf
 refine callE_S (callE_con (Φ:=fun _ w' v w2=>v= .int .i64 b.sign) (fun ρ w' r=>rSign_c (Rel.old r hS) (hb'.rel r hS)) ?_)
 rintro ρ wa1 v1 wb1 r he hb rfl
 replace hw:=hw.tr hb
 replace ha:=ha.past (iv':=(wa1.heap.size,wb1.heap.size)::[]) r hS he fun x hx=>List.mem_cons_of_mem _ hx
 clear hb'
 clear r he hb
 generalize (wa1.heap.size,wb1.heap.size)::[]=iv1 at*
 conv=>whnf
 refine BrS.mk (fun h=>?_) (fun h=>?_)
 ·have h:=of_decide_eq_true h
  rw[if_pos h]at hr
  conv=>whnf
  refine callE_S (callE_con (Φ:=fun _ w' v w2=>v= .int .i64 a.sign) (fun ρ w' r=>rSign_c (Rel.old r hS) (ha.rel r hS)) ?_)
  rintro ρ wa2 v2 wb2 r he hb rfl
  replace hw:=hw.tr hb
  clear ha
  clear r he hb
  generalize (wa2.heap.size,wb2.heap.size)::iv1=iv2 at*
  conv=>whnf
  refine⟨-a.sign,by rw[wrap64]<;>omega,?_⟩
  conv=>whnf
  intro ρe we re
  exact⟨_,rfl,hw.tr re.bel,by rw[hr];rfl⟩
 have h:=of_decide_eq_false h
 rw[if_neg h]at hr
 conv=>whnf
 refine callE_S (callE_con (Φ:=fun _ w' v w2=>v= .int .i64 a.sign) (fun ρ w' r=>rSign_c (Rel.old r hS) (ha.rel r hS)) ?_)
 rintro ρ wa2 v2 wb2 r he hb rfl
 replace hw:=hw.tr hb
 clear ha
 clear r he hb
 generalize (wa2.heap.size,wb2.heap.size)::iv1=iv2 at*
 conv=>whnf
 intro ρe we re
 exact⟨_,rfl,hw.tr re.bel,by rw[hr];rfl⟩

theorem rSignOf_c{S:Nat→Prop}{w:World}{v:Value}{p:Rat}(hS:Old S w)(hp:RatC w S v p):Con PG N.ref01_SignOf #[v] w (Ret w fun v' _=>v'= .int .i64 (rs p)):=by
 have:=rSignOfR_c hS hp.r
 rw[ratio_self]at this
 exact this
theorem rNormal_c{S:Nat→Prop}{w:World}{v:Value}{p:Rat}(hS:Old S w)(hp:RatL w S v p):
  Con PG N.ref01_Normal #[v] w (Ret w fun v' w2=>RatC w2 (Nw (fun _=>False) w w2) v' p):=by
 have hw:Bel w.heap.size w w:=Bel.refl
 obtain⟨b1,l1,b2,l2,a,b,rfl,ha,hb',rfl⟩:=hp
 obtain⟨_,a1,n1,c1,e1⟩:=ha.shape
 obtain⟨_,a2,n2,c2,e2⟩:=hb'.shape
 simp only[Value.agg.injEq,Array.mk.injEq,List.cons.injEq,and_true]at e1 e2
 obtain⟨_,rfl⟩:=e1
 obtain⟨_,rfl⟩:=e2
 replace ha:=ha.weak (S':=Cv S w.heap.size []) fun _ h=>.inl h
 replace hb':=hb'.weak (S':=Cv S w.heap.size []) fun _ h=>.inl h
 have sb:=sign_cases b
 refine in_ref01_Normal (by simp) ?_
 conv=>whnf
 refine callE_S (callE_con (Φ:=fun _ w' v w2=>v= .int .i64 b.sign) (fun ρ w' r=>rSign_c (Rel.old r hS) (hb'.rel r hS).r) ?_)
 rintro ρ wa1 v1 wb1 r he hb rfl
 replace hw:=hw.tr hb
 replace ha:=ha.past (iv':=(wa1.heap.size,wb1.heap.size)::[]) r hS he fun x hx=>List.mem_cons_of_mem _ hx
 replace hb':=hb'.past (iv':=(wa1.heap.size,wb1.heap.size)::[]) r hS he fun x hx=>List.mem_cons_of_mem _ hx
 clear r he hb
 generalize (wa1.heap.size,wb1.heap.size)::[]=iv1 at*
 conv=>whnf
 refine BrS.mk (fun h=>?_) (fun h=>?_)
 ·have h:b.sign=0:=by simpa using h
  obtain rfl:b=0:=by omega
  rw[show ratio a 0=Rat.divInt a 1 from if_pos rfl]
  conv=>whnf
  refine drawn_of_pi hτ hmix [.x 0,.x 1,.x 2,.x 3,.x 4] (by kernel_rfl) (by kernel_rfl) ?_
  conv=>whnf
  refine callE_con (Φ:=fun _ w' v w2=>IntC w2 (Nw (fun _=>False) w' w2) v (1)) (fun ρ w' r=>rOf_c _ w' (by decide) (by decide)) ?_
  rintro ρ wa2 v2 wb2 r he hb hn
  replace hw:=hw.tr hb
  replace ha:=ha.past (iv':=(wa2.heap.size,wb2.heap.size)::iv1) r hS he fun x hx=>List.mem_cons_of_mem _ hx
  replace hb':=hb'.past (iv':=(wa2.heap.size,wb2.heap.size)::iv1) r hS he fun x hx=>List.mem_cons_of_mem _ hx
  have h1:=hn.got (S:=fun _=>False) r.baseLe (iv:=(wa2.heap.size,wb2.heap.size)::iv1) List.mem_cons_self
  clear r he hb hn
  generalize (wa2.heap.size,wb2.heap.size)::iv1=iv2 at*
  obtain⟨s2_0,s2_1,s2_2,s2_3,rfl⟩:=h1.shape
  conv=>whnf
  refine callE_con (Φ:=fun _ w' v w2=>RatC w2 (Nw (fun _=>False) w' w2) v (Rat.divInt a 1)) (fun ρ w' r=>rOver_c (Rel.old r hS) (ha.rel r hS) (((h1.rel r (oldF w)).l (k:=1) (by decide)).weak fun g hg=>Cv.false hg) (by omega) (by omega) (by decide)) ?_
  rintro ρ wa3 v3 wb3 r he hb hn
  replace hw:=hw.tr hb
  replace ha:=ha.past (iv':=(wa3.heap.size,wb3.heap.size)::iv2) r hS he fun x hx=>List.mem_cons_of_mem _ hx
  replace hb':=hb'.past (iv':=(wa3.heap.size,wb3.heap.size)::iv2) r hS he fun x hx=>List.mem_cons_of_mem _ hx
  replace h1:=h1.past (iv':=(wa3.heap.size,wb3.heap.size)::iv2) r (oldF w) he fun x hx=>List.mem_cons_of_mem _ hx
  have hR:=hn.got (S:=fun _=>False) r.baseLe (iv:=(wa3.heap.size,wb3.heap.size)::iv2) List.mem_cons_self
  clear r he hb hn
  generalize (wa3.heap.size,wb3.heap.size)::iv2=iv3 at*
  obtain⟨s3_0,s3_1,s3_2,s3_3,s3_4,s3_5,s3_6,s3_7,rfl⟩:=hR.shape
  conv=>whnf
  intro ρe we re
  exact⟨_,rfl,hw.tr re.bel,hR.out re (oldF w)⟩
 have h:b.sign≠0:=by simpa using h
 have hb0:b≠0:=by omega
 rw[show ratio a b=Rat.divInt a b from if_neg hb0]
 conv=>whnf
 refine callE_S (callE_con (Φ:=fun _ w' v w2=>RatC w2 (Nw (fun _=>False) w' w2) v (Rat.divInt a b)) (fun ρ w' r=>rOver_c (Rel.old r hS) (ha.rel r hS) (hb'.rel r hS) (by omega) (by omega) hb0) ?_)
 rintro ρ wa2 v2 wb2 r he hb hn
 replace hw:=hw.tr hb
 replace ha:=ha.past (iv':=(wa2.heap.size,wb2.heap.size)::iv1) r hS he fun x hx=>List.mem_cons_of_mem _ hx
 replace hb':=hb'.past (iv':=(wa2.heap.size,wb2.heap.size)::iv1) r hS he fun x hx=>List.mem_cons_of_mem _ hx
 have hR:=hn.got (S:=fun _=>False) r.baseLe (iv:=(wa2.heap.size,wb2.heap.size)::iv1) List.mem_cons_self
 clear r he hb hn
 generalize (wa2.heap.size,wb2.heap.size)::iv1=iv2 at*
 obtain⟨s2_0,s2_1,s2_2,s2_3,s2_4,s2_5,s2_6,s2_7,rfl⟩:=hR.shape
 conv=>whnf
 intro ρe we re
 exact⟨_,rfl,hw.tr re.bel,hR.out re (oldF w)⟩

theorem quick_c{S:Nat→Prop}{w:World}{v:Value}{p:Rat}(hS:Old S w)(hp:RatL w S v p):
  Con PG N.ref01_quick #[v] w (Ret w fun v' _=>∃n d ok,v'= .tuple #[.int .i64 n,.int .i64 d,.bool ok]∧(ok=true→d≠0∧n.natAbs<1073741824∧d.natAbs<1073741824∧Rat.divInt n d=p)):=by
 have hw:Bel w.heap.size w w:=Bel.refl
 obtain⟨b1,l1,b2,l2,a,b,rfl,ha,hb',rfl⟩:=hp
 obtain⟨_,a1,n1,c1,e1⟩:=ha.shape
 obtain⟨_,a2,n2,c2,e2⟩:=hb'.shape
 simp only[Value.agg.injEq,Array.mk.injEq,List.cons.injEq,and_true]at e1 e2
 obtain⟨_,rfl⟩:=e1
 obtain⟨_,rfl⟩:=e2
 replace ha:=ha.weak (S':=Cv S w.heap.size []) fun _ h=>.inl h
 replace hb':=hb'.weak (S':=Cv S w.heap.size []) fun _ h=>.inl h
 refine in_ref01_quick (by simp) ?_
 conv=>whnf
 refine callE_S (callE_con (Φ:=fun _ w' v w2=>∃n p,v= .tuple #[.int .i64 n,.bool p]∧(p=true→n=a∧a.natAbs<1073741824)) (fun ρ w' r=>(rshort_c (Rel.old r hS) (ha.rel r hS).r).mono fun e w2 ⟨v2,e1,e2,e3⟩=>⟨v2,e1,e2,by
   rw[e3,shortV]
   split
   ·exact⟨_,_,rfl,fun _=>⟨rfl,‹_›⟩⟩
   ·exact⟨_,_,rfl,fun h=>by cases h⟩⟩) ?_)
 rintro ρ wa1 v1 wb1 r he hb ⟨na,pa,rfl,qa⟩
 replace hw:=hw.tr hb
 replace ha:=ha.past (iv':=(wa1.heap.size,wb1.heap.size)::[]) r hS he fun x hx=>List.mem_cons_of_mem _ hx
 replace hb':=hb'.past (iv':=(wa1.heap.size,wb1.heap.size)::[]) r hS he fun x hx=>List.mem_cons_of_mem _ hx
 clear r he hb
 generalize (wa1.heap.size,wb1.heap.size)::[]=iv1 at*
 conv=>whnf
 refine callE_S (callE_con (Φ:=fun _ w' v w2=>∃n p,v= .tuple #[.int .i64 n,.bool p]∧(p=true→n=b∧b.natAbs<1073741824)) (fun ρ w' r=>(rshort_c (Rel.old r hS) (hb'.rel r hS).r).mono fun e w2 ⟨v2,e1,e2,e3⟩=>⟨v2,e1,e2,by
   rw[e3,shortV]
   split
   ·exact⟨_,_,rfl,fun _=>⟨rfl,‹_›⟩⟩
   ·exact⟨_,_,rfl,fun h=>by cases h⟩⟩) ?_)
 rintro ρ wa2 v2 wb2 r he hb ⟨nb,pb,rfl,qb⟩
 replace hw:=hw.tr hb
 replace ha:=ha.past (iv':=(wa2.heap.size,wb2.heap.size)::iv1) r hS he fun x hx=>List.mem_cons_of_mem _ hx
 replace hb':=hb'.past (iv':=(wa2.heap.size,wb2.heap.size)::iv1) r hS he fun x hx=>List.mem_cons_of_mem _ hx
 clear r he hb
 generalize (wa2.heap.size,wb2.heap.size)::iv1=iv2 at*
 conv=>whnf
 refine BrS.mk (fun h=>?_) (fun h=>?_)
 ·have h:nb=0:=by simpa using h
  conv=>whnf
  refine BrS.mk (fun h1=>?_) (fun h1=>?_)
  ·conv=>whnf
   intro ρe we re
   exact⟨_,rfl,hw.tr re.bel,⟨na,1,pb,rfl,fun h2=>by
     obtain⟨rfl,hx⟩:=qa h1
     obtain⟨rfl,hy⟩:=qb h2
     rw[h]
     exact⟨by decide,hx,by decide,(if_pos rfl).symm⟩⟩⟩
  conv=>whnf
  intro ρe we re
  exact⟨_,rfl,hw.tr re.bel,⟨na,1,false,rfl,fun h2=>by cases h2⟩⟩
 have h:nb≠0:=by simpa using h
 conv=>whnf
 refine BrS.mk (fun h1=>?_) (fun h1=>?_)
 ·conv=>whnf
  intro ρe we re
  exact⟨_,rfl,hw.tr re.bel,⟨na,nb,pb,rfl,fun h2=>by
    obtain⟨rfl,hx⟩:=qa h1
    obtain⟨rfl,hy⟩:=qb h2
    exact⟨h,hx,hy,(if_neg h).symm⟩⟩⟩
 conv=>whnf
 intro ρe we re
 exact⟨_,rfl,hw.tr re.bel,⟨na,nb,false,rfl,fun h2=>by cases h2⟩⟩

theorem rAdd_c{S:Nat→Prop}{w:World}{v u:Value}{p q:Rat}(hS:Old S w)(hp:RatL w S v p)(hq:RatL w S u q):
  Con PG N.ref01_Add #[v,u] w (Ret w fun v' w2=>RatC w2 (Nw (fun _=>False) w w2) v' (p+q)):=by
 have hw:Bel w.heap.size w w:=Bel.refl
 replace hp:=hp.weak (S':=Cv S w.heap.size []) fun _ h=>.inl h
 replace hq:=hq.weak (S':=Cv S w.heap.size []) fun _ h=>.inl h
 obtain⟨b1,a1,n1,c1,b2,a2,n2,c2,rfl⟩:=hp.shape
 obtain⟨b3,a3,n3,c3,b4,a4,n4,c4,rfl⟩:=hq.shape
 refine in_ref01_Add (by simp) ?_
 conv=>whnf
 have r1:=hp.rl
 have r2:=hq.rl
 have u1:=rl_num p
 have u2:=rl_den' p
 have u3:=rl_num q
 have u4:=rl_den' q
 refine callE_S (callE_con (Φ:=fun _ w' v w2=>∃n d ok,v= .tuple #[.int .i64 n,.int .i64 d,.bool ok]∧(ok=true→d≠0∧n.natAbs<1073741824∧d.natAbs<1073741824∧Rat.divInt n d=p)) (fun ρ w' r=>quick_c (Rel.old r hS) (hp.rel r hS)) ?_)
 rintro ρ wa1 v1 wb1 r he hb ⟨a,b,k1,rfl,g1⟩
 replace hw:=hw.tr hb
 replace hp:=hp.past (iv':=(wa1.heap.size,wb1.heap.size)::[]) r hS he fun x hx=>List.mem_cons_of_mem _ hx
 replace hq:=hq.past (iv':=(wa1.heap.size,wb1.heap.size)::[]) r hS he fun x hx=>List.mem_cons_of_mem _ hx
 clear r he hb
 generalize (wa1.heap.size,wb1.heap.size)::[]=iv1 at*
 conv=>whnf
 refine callE_S (callE_con (Φ:=fun _ w' v w2=>∃n d ok,v= .tuple #[.int .i64 n,.int .i64 d,.bool ok]∧(ok=true→d≠0∧n.natAbs<1073741824∧d.natAbs<1073741824∧Rat.divInt n d=q)) (fun ρ w' r=>quick_c (Rel.old r hS) (hq.rel r hS)) ?_)
 rintro ρ wa2 v2 wb2 r he hb ⟨c,d,k2,rfl,g2⟩
 replace hw:=hw.tr hb
 replace hp:=hp.past (iv':=(wa2.heap.size,wb2.heap.size)::iv1) r hS he fun x hx=>List.mem_cons_of_mem _ hx
 replace hq:=hq.past (iv':=(wa2.heap.size,wb2.heap.size)::iv1) r hS he fun x hx=>List.mem_cons_of_mem _ hx
 clear r he hb
 generalize (wa2.heap.size,wb2.heap.size)::iv1=iv2 at*
 conv=>whnf
 refine BrS.mk (fun h1=>?_) (fun h1=>?_)
 ·conv=>whnf
  refine BrS.mk (fun h2=>?_) (fun h2=>?_)
  ·obtain⟨g3,g4,g5,g6⟩:=g1 h1
   obtain⟨g7,g8,g9,g10⟩:=g2 h2
   have i1:=divInt_sq g4 g9
   have i2:=divInt_sq g8 g5
   have i3:=divInt_sq g5 g9
   have i4:=divInt_sq g4 g8
   clear hp hq
   conv=>whnf
   refine⟨a*d,by rw[wrap64]<;>omega,?_⟩
   conv=>whnf
   refine⟨c*b,by rw[wrap64]<;>omega,?_⟩
   conv=>whnf
   refine⟨a*d+c*b,by rw[wrap64]<;>omega,?_⟩
   conv=>whnf
   refine⟨b*d,by rw[wrap64]<;>omega,?_⟩
   conv=>whnf
   have e:=Rat.divInt_add_divInt a c g3 g7
   rw[g6,g10]at e
   refine callE_S (callE_con (Φ:=fun _ w' v w2=>RatC w2 (Nw (fun _=>False) w' w2) v (p+q)) (fun ρ w' r=>e▸rlowest_c (a*d+c*b) (b*d) w' (by omega) (by omega) (mul_ne g3 g7)) ?_)
   rintro ρ wa3 v3 wb3 r he hb hn
   replace hw:=hw.tr hb
   have hR:=hn.got (S:=fun _=>False) r.baseLe (iv:=(wa3.heap.size,wb3.heap.size)::iv2) List.mem_cons_self
   clear r he hb hn
   generalize (wa3.heap.size,wb3.heap.size)::iv2=iv3 at*
   obtain⟨s3_0,s3_1,s3_2,s3_3,s3_4,s3_5,s3_6,s3_7,rfl⟩:=hR.shape
   conv=>whnf
   intro ρe we re
   exact⟨_,rfl,hw.tr re.bel,hR.out re (oldF w)⟩
  conv=>whnf
  refine drawn_of_pi hτ hmix [.x 0,.x 2,.x 1,.x 3,.x 4,.x 5] (by kernel_rfl) (by kernel_rfl) ?_
  conv=>whnf
  refine callE_con (Φ:=fun _ w' v w2=>RatC w2 (Nw (fun _=>False) w' w2) v (p)) (fun ρ w' r=>rNormal_c (Rel.old r hS) (hp.rel r hS)) ?_
  rintro ρ wa3 v3 wb3 r he hb hn
  replace hw:=hw.tr hb
  clear hp
  replace hq:=hq.past (iv':=(wa3.heap.size,wb3.heap.size)::iv2) r hS he fun x hx=>List.mem_cons_of_mem _ hx
  have hX:=hn.got (S:=fun _=>False) r.baseLe (iv:=(wa3.heap.size,wb3.heap.size)::iv2) List.mem_cons_self
  clear r he hb hn
  generalize (wa3.heap.size,wb3.heap.size)::iv2=iv3 at*
  obtain⟨s3_0,s3_1,s3_2,s3_3,s3_4,s3_5,s3_6,s3_7,rfl⟩:=hX.shape
  conv=>whnf
  refine callE_con (Φ:=fun _ w' v w2=>RatC w2 (Nw (fun _=>False) w' w2) v (q)) (fun ρ w' r=>rNormal_c (Rel.old r hS) (hq.rel r hS)) ?_
  rintro ρ wa4 v4 wb4 r he hb hn
  replace hw:=hw.tr hb
  clear hq
  replace hX:=hX.past (iv':=(wa4.heap.size,wb4.heap.size)::iv3) r (oldF w) he fun x hx=>List.mem_cons_of_mem _ hx
  have hY:=hn.got (S:=fun _=>False) r.baseLe (iv:=(wa4.heap.size,wb4.heap.size)::iv3) List.mem_cons_self
  clear r he hb hn
  generalize (wa4.heap.size,wb4.heap.size)::iv3=iv4 at*
  obtain⟨s4_0,s4_1,s4_2,s4_3,s4_4,s4_5,s4_6,s4_7,rfl⟩:=hY.shape
  conv=>whnf
  have hXn:=hX.num
  have hXd:=hX.den
  clear hX
  have hYn:=hY.num
  have hYd:=hY.den
  clear hY
  have m0:=ln_mul_abs p.num q.den
  have m1:=ln_mul_abs q.num p.den
  have m2:=ln_mul_abs (p.den:Int) q.den
  have m3:=ln_add_int (p.num*q.den) (q.num*p.den)
  have m4:=ln_mul_abs p.num q.num
  refine drawn_of_pi hτ hmix [.x 0,.x 1,.x 2,.x 3,.x 5,.x 6,.x 7,.x 8,.x 11,.x 12,.x 13,.x 14,.x 4,.x 9,.x 10,.x 15,.x 16,.x 17] (by kernel_rfl) (by kernel_rfl) ?_
  conv=>whnf
  refine callE_con (Φ:=fun _ w' v w2=>IntC w2 (Nw (fun _=>False) w' w2) v (p.num*(q.den:Int))) (fun ρ w' r=>rProd_c (Rel.old r (oldF w)) ((hXn.rel r (oldF w)).l (k:=100000) (by omega)) ((hYd.rel r (oldF w)).l (k:=100000) (by omega)) (by omega) (by omega)) ?_
  rintro ρ wa5 v5 wb5 r he hb hn
  replace hw:=hw.tr hb
  replace hXn:=hXn.past (iv':=(wa5.heap.size,wb5.heap.size)::iv4) r (oldF w) he fun x hx=>List.mem_cons_of_mem _ hx
  replace hXd:=hXd.past (iv':=(wa5.heap.size,wb5.heap.size)::iv4) r (oldF w) he fun x hx=>List.mem_cons_of_mem _ hx
  replace hYn:=hYn.past (iv':=(wa5.heap.size,wb5.heap.size)::iv4) r (oldF w) he fun x hx=>List.mem_cons_of_mem _ hx
  replace hYd:=hYd.past (iv':=(wa5.heap.size,wb5.heap.size)::iv4) r (oldF w) he fun x hx=>List.mem_cons_of_mem _ hx
  have hA:=hn.got (S:=fun _=>False) r.baseLe (iv:=(wa5.heap.size,wb5.heap.size)::iv4) List.mem_cons_self
  clear r he hb hn
  generalize (wa5.heap.size,wb5.heap.size)::iv4=iv5 at*
  obtain⟨s5_0,s5_1,s5_2,s5_3,rfl⟩:=hA.shape
  conv=>whnf
  refine callE_con (Φ:=fun _ w' v w2=>IntC w2 (Nw (fun _=>False) w' w2) v (q.num*(p.den:Int))) (fun ρ w' r=>rProd_c (Rel.old r (oldF w)) ((hYn.rel r (oldF w)).l (k:=100000) (by omega)) ((hXd.rel r (oldF w)).l (k:=100000) (by omega)) (by omega) (by omega)) ?_
  rintro ρ wa6 v6 wb6 r he hb hn
  replace hw:=hw.tr hb
  replace hXn:=hXn.past (iv':=(wa6.heap.size,wb6.heap.size)::iv5) r (oldF w) he fun x hx=>List.mem_cons_of_mem _ hx
  replace hXd:=hXd.past (iv':=(wa6.heap.size,wb6.heap.size)::iv5) r (oldF w) he fun x hx=>List.mem_cons_of_mem _ hx
  replace hYn:=hYn.past (iv':=(wa6.heap.size,wb6.heap.size)::iv5) r (oldF w) he fun x hx=>List.mem_cons_of_mem _ hx
  replace hYd:=hYd.past (iv':=(wa6.heap.size,wb6.heap.size)::iv5) r (oldF w) he fun x hx=>List.mem_cons_of_mem _ hx
  replace hA:=hA.past (iv':=(wa6.heap.size,wb6.heap.size)::iv5) r (oldF w) he fun x hx=>List.mem_cons_of_mem _ hx
  have hB:=hn.got (S:=fun _=>False) r.baseLe (iv:=(wa6.heap.size,wb6.heap.size)::iv5) List.mem_cons_self
  clear r he hb hn
  generalize (wa6.heap.size,wb6.heap.size)::iv5=iv6 at*
  obtain⟨s6_0,s6_1,s6_2,s6_3,rfl⟩:=hB.shape
  conv=>whnf
  refine callE_con (Φ:=fun _ w' v w2=>IntC w2 (Nw (fun _=>False) w' w2) v (p.num*(q.den:Int)+q.num*(p.den:Int))) (fun ρ w' r=>rSum_c (Rel.old r (oldF w)) ((hA.rel r (oldF w)).l (k:=200000) (by omega)) ((hB.rel r (oldF w)).l (k:=200000) (by omega)) (by omega) (by omega)) ?_
  rintro ρ wa7 v7 wb7 r he hb hn
  replace hw:=hw.tr hb
  replace hXn:=hXn.past (iv':=(wa7.heap.size,wb7.heap.size)::iv6) r (oldF w) he fun x hx=>List.mem_cons_of_mem _ hx
  replace hXd:=hXd.past (iv':=(wa7.heap.size,wb7.heap.size)::iv6) r (oldF w) he fun x hx=>List.mem_cons_of_mem _ hx
  replace hYn:=hYn.past (iv':=(wa7.heap.size,wb7.heap.size)::iv6) r (oldF w) he fun x hx=>List.mem_cons_of_mem _ hx
  replace hYd:=hYd.past (iv':=(wa7.heap.size,wb7.heap.size)::iv6) r (oldF w) he fun x hx=>List.mem_cons_of_mem _ hx
  clear hA
  clear hB
  have hN:=hn.got (S:=fun _=>False) r.baseLe (iv:=(wa7.heap.size,wb7.heap.size)::iv6) List.mem_cons_self
  clear r he hb hn
  generalize (wa7.heap.size,wb7.heap.size)::iv6=iv7 at*
  obtain⟨s7_0,s7_1,s7_2,s7_3,rfl⟩:=hN.shape
  conv=>whnf
  refine callE_con (Φ:=fun _ w' v w2=>IntC w2 (Nw (fun _=>False) w' w2) v ((p.den:Int)*(q.den:Int))) (fun ρ w' r=>rProd_c (Rel.old r (oldF w)) ((hXd.rel r (oldF w)).l (k:=100000) (by omega)) ((hYd.rel r (oldF w)).l (k:=100000) (by omega)) (by omega) (by omega)) ?_
  rintro ρ wa8 v8 wb8 r he hb hn
  replace hw:=hw.tr hb
  replace hXn:=hXn.past (iv':=(wa8.heap.size,wb8.heap.size)::iv7) r (oldF w) he fun x hx=>List.mem_cons_of_mem _ hx
  replace hXd:=hXd.past (iv':=(wa8.heap.size,wb8.heap.size)::iv7) r (oldF w) he fun x hx=>List.mem_cons_of_mem _ hx
  replace hYn:=hYn.past (iv':=(wa8.heap.size,wb8.heap.size)::iv7) r (oldF w) he fun x hx=>List.mem_cons_of_mem _ hx
  replace hYd:=hYd.past (iv':=(wa8.heap.size,wb8.heap.size)::iv7) r (oldF w) he fun x hx=>List.mem_cons_of_mem _ hx
  replace hN:=hN.past (iv':=(wa8.heap.size,wb8.heap.size)::iv7) r (oldF w) he fun x hx=>List.mem_cons_of_mem _ hx
  have hD:=hn.got (S:=fun _=>False) r.baseLe (iv:=(wa8.heap.size,wb8.heap.size)::iv7) List.mem_cons_self
  clear r he hb hn
  generalize (wa8.heap.size,wb8.heap.size)::iv7=iv8 at*
  obtain⟨s8_0,s8_1,s8_2,s8_3,rfl⟩:=hD.shape
  conv=>whnf
  refine callE_con (Φ:=fun _ w' v w2=>RatC w2 (Nw (fun _=>False) w' w2) v (p+q)) (fun ρ w' r=>(rat_add p q)▸rOver_c (Rel.old r (oldF w)) ((hN.rel r (oldF w)).l (k:=200001) (by omega)) ((hD.rel r (oldF w)).l (k:=200001) (by omega)) (by omega) (by omega) (mul_ne (den_ne p) (den_ne q))) ?_
  rintro ρ wa9 v9 wb9 r he hb hn
  replace hw:=hw.tr hb
  clear hXn
  clear hXd
  clear hYn
  clear hYd
  clear hN
  clear hD
  have hR:=hn.got (S:=fun _=>False) r.baseLe (iv:=(wa9.heap.size,wb9.heap.size)::iv8) List.mem_cons_self
  clear r he hb hn
  generalize (wa9.heap.size,wb9.heap.size)::iv8=iv9 at*
  obtain⟨s9_0,s9_1,s9_2,s9_3,s9_4,s9_5,s9_6,s9_7,rfl⟩:=hR.shape
  conv=>whnf
  intro ρe we re
  exact⟨_,rfl,hw.tr re.bel,hR.out re (oldF w)⟩
 conv=>whnf
 refine drawn_of_pi hτ hmix [.x 0,.x 2,.x 1,.x 3,.x 4,.x 5] (by kernel_rfl) (by kernel_rfl) ?_
 conv=>whnf
 refine callE_con (Φ:=fun _ w' v w2=>RatC w2 (Nw (fun _=>False) w' w2) v (p)) (fun ρ w' r=>rNormal_c (Rel.old r hS) (hp.rel r hS)) ?_
 rintro ρ wa3 v3 wb3 r he hb hn
 replace hw:=hw.tr hb
 clear hp
 replace hq:=hq.past (iv':=(wa3.heap.size,wb3.heap.size)::iv2) r hS he fun x hx=>List.mem_cons_of_mem _ hx
 have hX:=hn.got (S:=fun _=>False) r.baseLe (iv:=(wa3.heap.size,wb3.heap.size)::iv2) List.mem_cons_self
 clear r he hb hn
 generalize (wa3.heap.size,wb3.heap.size)::iv2=iv3 at*
 obtain⟨s3_0,s3_1,s3_2,s3_3,s3_4,s3_5,s3_6,s3_7,rfl⟩:=hX.shape
 conv=>whnf
 refine callE_con (Φ:=fun _ w' v w2=>RatC w2 (Nw (fun _=>False) w' w2) v (q)) (fun ρ w' r=>rNormal_c (Rel.old r hS) (hq.rel r hS)) ?_
 rintro ρ wa4 v4 wb4 r he hb hn
 replace hw:=hw.tr hb
 clear hq
 replace hX:=hX.past (iv':=(wa4.heap.size,wb4.heap.size)::iv3) r (oldF w) he fun x hx=>List.mem_cons_of_mem _ hx
 have hY:=hn.got (S:=fun _=>False) r.baseLe (iv:=(wa4.heap.size,wb4.heap.size)::iv3) List.mem_cons_self
 clear r he hb hn
 generalize (wa4.heap.size,wb4.heap.size)::iv3=iv4 at*
 obtain⟨s4_0,s4_1,s4_2,s4_3,s4_4,s4_5,s4_6,s4_7,rfl⟩:=hY.shape
 conv=>whnf
 have hXn:=hX.num
 have hXd:=hX.den
 clear hX
 have hYn:=hY.num
 have hYd:=hY.den
 clear hY
 have m0:=ln_mul_abs p.num q.den
 have m1:=ln_mul_abs q.num p.den
 have m2:=ln_mul_abs (p.den:Int) q.den
 have m3:=ln_add_int (p.num*q.den) (q.num*p.den)
 have m4:=ln_mul_abs p.num q.num
 refine drawn_of_pi hτ hmix [.x 0,.x 1,.x 2,.x 3,.x 5,.x 6,.x 7,.x 8,.x 11,.x 12,.x 13,.x 14,.x 4,.x 9,.x 10,.x 15,.x 16,.x 17] (by kernel_rfl) (by kernel_rfl) ?_
 conv=>whnf
 refine callE_con (Φ:=fun _ w' v w2=>IntC w2 (Nw (fun _=>False) w' w2) v (p.num*(q.den:Int))) (fun ρ w' r=>rProd_c (Rel.old r (oldF w)) ((hXn.rel r (oldF w)).l (k:=100000) (by omega)) ((hYd.rel r (oldF w)).l (k:=100000) (by omega)) (by omega) (by omega)) ?_
 rintro ρ wa5 v5 wb5 r he hb hn
 replace hw:=hw.tr hb
 replace hXn:=hXn.past (iv':=(wa5.heap.size,wb5.heap.size)::iv4) r (oldF w) he fun x hx=>List.mem_cons_of_mem _ hx
 replace hXd:=hXd.past (iv':=(wa5.heap.size,wb5.heap.size)::iv4) r (oldF w) he fun x hx=>List.mem_cons_of_mem _ hx
 replace hYn:=hYn.past (iv':=(wa5.heap.size,wb5.heap.size)::iv4) r (oldF w) he fun x hx=>List.mem_cons_of_mem _ hx
 replace hYd:=hYd.past (iv':=(wa5.heap.size,wb5.heap.size)::iv4) r (oldF w) he fun x hx=>List.mem_cons_of_mem _ hx
 have hA:=hn.got (S:=fun _=>False) r.baseLe (iv:=(wa5.heap.size,wb5.heap.size)::iv4) List.mem_cons_self
 clear r he hb hn
 generalize (wa5.heap.size,wb5.heap.size)::iv4=iv5 at*
 obtain⟨s5_0,s5_1,s5_2,s5_3,rfl⟩:=hA.shape
 conv=>whnf
 refine callE_con (Φ:=fun _ w' v w2=>IntC w2 (Nw (fun _=>False) w' w2) v (q.num*(p.den:Int))) (fun ρ w' r=>rProd_c (Rel.old r (oldF w)) ((hYn.rel r (oldF w)).l (k:=100000) (by omega)) ((hXd.rel r (oldF w)).l (k:=100000) (by omega)) (by omega) (by omega)) ?_
 rintro ρ wa6 v6 wb6 r he hb hn
 replace hw:=hw.tr hb
 replace hXn:=hXn.past (iv':=(wa6.heap.size,wb6.heap.size)::iv5) r (oldF w) he fun x hx=>List.mem_cons_of_mem _ hx
 replace hXd:=hXd.past (iv':=(wa6.heap.size,wb6.heap.size)::iv5) r (oldF w) he fun x hx=>List.mem_cons_of_mem _ hx
 replace hYn:=hYn.past (iv':=(wa6.heap.size,wb6.heap.size)::iv5) r (oldF w) he fun x hx=>List.mem_cons_of_mem _ hx
 replace hYd:=hYd.past (iv':=(wa6.heap.size,wb6.heap.size)::iv5) r (oldF w) he fun x hx=>List.mem_cons_of_mem _ hx
 replace hA:=hA.past (iv':=(wa6.heap.size,wb6.heap.size)::iv5) r (oldF w) he fun x hx=>List.mem_cons_of_mem _ hx
 have hB:=hn.got (S:=fun _=>False) r.baseLe (iv:=(wa6.heap.size,wb6.heap.size)::iv5) List.mem_cons_self
 clear r he hb hn
 generalize (wa6.heap.size,wb6.heap.size)::iv5=iv6 at*
 obtain⟨s6_0,s6_1,s6_2,s6_3,rfl⟩:=hB.shape
 conv=>whnf
 refine callE_con (Φ:=fun _ w' v w2=>IntC w2 (Nw (fun _=>False) w' w2) v (p.num*(q.den:Int)+q.num*(p.den:Int))) (fun ρ w' r=>rSum_c (Rel.old r (oldF w)) ((hA.rel r (oldF w)).l (k:=200000) (by omega)) ((hB.rel r (oldF w)).l (k:=200000) (by omega)) (by omega) (by omega)) ?_
 rintro ρ wa7 v7 wb7 r he hb hn
 replace hw:=hw.tr hb
 replace hXn:=hXn.past (iv':=(wa7.heap.size,wb7.heap.size)::iv6) r (oldF w) he fun x hx=>List.mem_cons_of_mem _ hx
 replace hXd:=hXd.past (iv':=(wa7.heap.size,wb7.heap.size)::iv6) r (oldF w) he fun x hx=>List.mem_cons_of_mem _ hx
 replace hYn:=hYn.past (iv':=(wa7.heap.size,wb7.heap.size)::iv6) r (oldF w) he fun x hx=>List.mem_cons_of_mem _ hx
 replace hYd:=hYd.past (iv':=(wa7.heap.size,wb7.heap.size)::iv6) r (oldF w) he fun x hx=>List.mem_cons_of_mem _ hx
 clear hA
 clear hB
 have hN:=hn.got (S:=fun _=>False) r.baseLe (iv:=(wa7.heap.size,wb7.heap.size)::iv6) List.mem_cons_self
 clear r he hb hn
 generalize (wa7.heap.size,wb7.heap.size)::iv6=iv7 at*
 obtain⟨s7_0,s7_1,s7_2,s7_3,rfl⟩:=hN.shape
 conv=>whnf
 refine callE_con (Φ:=fun _ w' v w2=>IntC w2 (Nw (fun _=>False) w' w2) v ((p.den:Int)*(q.den:Int))) (fun ρ w' r=>rProd_c (Rel.old r (oldF w)) ((hXd.rel r (oldF w)).l (k:=100000) (by omega)) ((hYd.rel r (oldF w)).l (k:=100000) (by omega)) (by omega) (by omega)) ?_
 rintro ρ wa8 v8 wb8 r he hb hn
 replace hw:=hw.tr hb
 replace hXn:=hXn.past (iv':=(wa8.heap.size,wb8.heap.size)::iv7) r (oldF w) he fun x hx=>List.mem_cons_of_mem _ hx
 replace hXd:=hXd.past (iv':=(wa8.heap.size,wb8.heap.size)::iv7) r (oldF w) he fun x hx=>List.mem_cons_of_mem _ hx
 replace hYn:=hYn.past (iv':=(wa8.heap.size,wb8.heap.size)::iv7) r (oldF w) he fun x hx=>List.mem_cons_of_mem _ hx
 replace hYd:=hYd.past (iv':=(wa8.heap.size,wb8.heap.size)::iv7) r (oldF w) he fun x hx=>List.mem_cons_of_mem _ hx
 replace hN:=hN.past (iv':=(wa8.heap.size,wb8.heap.size)::iv7) r (oldF w) he fun x hx=>List.mem_cons_of_mem _ hx
 have hD:=hn.got (S:=fun _=>False) r.baseLe (iv:=(wa8.heap.size,wb8.heap.size)::iv7) List.mem_cons_self
 clear r he hb hn
 generalize (wa8.heap.size,wb8.heap.size)::iv7=iv8 at*
 obtain⟨s8_0,s8_1,s8_2,s8_3,rfl⟩:=hD.shape
 conv=>whnf
 refine callE_con (Φ:=fun _ w' v w2=>RatC w2 (Nw (fun _=>False) w' w2) v (p+q)) (fun ρ w' r=>(rat_add p q)▸rOver_c (Rel.old r (oldF w)) ((hN.rel r (oldF w)).l (k:=200001) (by omega)) ((hD.rel r (oldF w)).l (k:=200001) (by omega)) (by omega) (by omega) (mul_ne (den_ne p) (den_ne q))) ?_
 rintro ρ wa9 v9 wb9 r he hb hn
 replace hw:=hw.tr hb
 clear hXn
 clear hXd
 clear hYn
 clear hYd
 clear hN
 clear hD
 have hR:=hn.got (S:=fun _=>False) r.baseLe (iv:=(wa9.heap.size,wb9.heap.size)::iv8) List.mem_cons_self
 clear r he hb hn
 generalize (wa9.heap.size,wb9.heap.size)::iv8=iv9 at*
 obtain⟨s9_0,s9_1,s9_2,s9_3,s9_4,s9_5,s9_6,s9_7,rfl⟩:=hR.shape
 conv=>whnf
 intro ρe we re
 exact⟨_,rfl,hw.tr re.bel,hR.out re (oldF w)⟩

theorem rMul_c{S:Nat→Prop}{w:World}{v u:Value}{p q:Rat}(hS:Old S w)(hp:RatL w S v p)(hq:RatL w S u q):
  Con PG N.ref01_Mul #[v,u] w (Ret w fun v' w2=>RatC w2 (Nw (fun _=>False) w w2) v' (p*q)):=by
 have hw:Bel w.heap.size w w:=Bel.refl
 replace hp:=hp.weak (S':=Cv S w.heap.size []) fun _ h=>.inl h
 replace hq:=hq.weak (S':=Cv S w.heap.size []) fun _ h=>.inl h
 obtain⟨b1,a1,n1,c1,b2,a2,n2,c2,rfl⟩:=hp.shape
 obtain⟨b3,a3,n3,c3,b4,a4,n4,c4,rfl⟩:=hq.shape
 refine in_ref01_Mul (by simp) ?_
 conv=>whnf
 have r1:=hp.rl
 have r2:=hq.rl
 have u1:=rl_num p
 have u2:=rl_den' p
 have u3:=rl_num q
 have u4:=rl_den' q
 refine callE_S (callE_con (Φ:=fun _ w' v w2=>∃n d ok,v= .tuple #[.int .i64 n,.int .i64 d,.bool ok]∧(ok=true→d≠0∧n.natAbs<1073741824∧d.natAbs<1073741824∧Rat.divInt n d=p)) (fun ρ w' r=>quick_c (Rel.old r hS) (hp.rel r hS)) ?_)
 rintro ρ wa1 v1 wb1 r he hb ⟨a,b,k1,rfl,g1⟩
 replace hw:=hw.tr hb
 replace hp:=hp.past (iv':=(wa1.heap.size,wb1.heap.size)::[]) r hS he fun x hx=>List.mem_cons_of_mem _ hx
 replace hq:=hq.past (iv':=(wa1.heap.size,wb1.heap.size)::[]) r hS he fun x hx=>List.mem_cons_of_mem _ hx
 clear r he hb
 generalize (wa1.heap.size,wb1.heap.size)::[]=iv1 at*
 conv=>whnf
 refine callE_S (callE_con (Φ:=fun _ w' v w2=>∃n d ok,v= .tuple #[.int .i64 n,.int .i64 d,.bool ok]∧(ok=true→d≠0∧n.natAbs<1073741824∧d.natAbs<1073741824∧Rat.divInt n d=q)) (fun ρ w' r=>quick_c (Rel.old r hS) (hq.rel r hS)) ?_)
 rintro ρ wa2 v2 wb2 r he hb ⟨c,d,k2,rfl,g2⟩
 replace hw:=hw.tr hb
 replace hp:=hp.past (iv':=(wa2.heap.size,wb2.heap.size)::iv1) r hS he fun x hx=>List.mem_cons_of_mem _ hx
 replace hq:=hq.past (iv':=(wa2.heap.size,wb2.heap.size)::iv1) r hS he fun x hx=>List.mem_cons_of_mem _ hx
 clear r he hb
 generalize (wa2.heap.size,wb2.heap.size)::iv1=iv2 at*
 conv=>whnf
 refine BrS.mk (fun h1=>?_) (fun h1=>?_)
 ·conv=>whnf
  refine BrS.mk (fun h2=>?_) (fun h2=>?_)
  ·obtain⟨g3,g4,g5,g6⟩:=g1 h1
   obtain⟨g7,g8,g9,g10⟩:=g2 h2
   have i1:=divInt_sq g4 g9
   have i2:=divInt_sq g8 g5
   have i3:=divInt_sq g5 g9
   have i4:=divInt_sq g4 g8
   clear hp hq
   conv=>whnf
   refine⟨a*c,by rw[wrap64]<;>omega,?_⟩
   conv=>whnf
   refine⟨b*d,by rw[wrap64]<;>omega,?_⟩
   conv=>whnf
   have e:=Rat.divInt_mul_divInt a c (d₁:=b) (d₂:=d)
   rw[g6,g10]at e
   refine callE_S (callE_con (Φ:=fun _ w' v w2=>RatC w2 (Nw (fun _=>False) w' w2) v (p*q)) (fun ρ w' r=>e▸rlowest_c (a*c) (b*d) w' (by omega) (by omega) (mul_ne g3 g7)) ?_)
   rintro ρ wa3 v3 wb3 r he hb hn
   replace hw:=hw.tr hb
   have hR:=hn.got (S:=fun _=>False) r.baseLe (iv:=(wa3.heap.size,wb3.heap.size)::iv2) List.mem_cons_self
   clear r he hb hn
   generalize (wa3.heap.size,wb3.heap.size)::iv2=iv3 at*
   obtain⟨s3_0,s3_1,s3_2,s3_3,s3_4,s3_5,s3_6,s3_7,rfl⟩:=hR.shape
   conv=>whnf
   intro ρe we re
   exact⟨_,rfl,hw.tr re.bel,hR.out re (oldF w)⟩
  conv=>whnf
  refine drawn_of_pi hτ hmix [.x 0,.x 2,.x 1,.x 3,.x 4,.x 5] (by kernel_rfl) (by kernel_rfl) ?_
  conv=>whnf
  refine callE_con (Φ:=fun _ w' v w2=>RatC w2 (Nw (fun _=>False) w' w2) v (p)) (fun ρ w' r=>rNormal_c (Rel.old r hS) (hp.rel r hS)) ?_
  rintro ρ wa3 v3 wb3 r he hb hn
  replace hw:=hw.tr hb
  clear hp
  replace hq:=hq.past (iv':=(wa3.heap.size,wb3.heap.size)::iv2) r hS he fun x hx=>List.mem_cons_of_mem _ hx
  have hX:=hn.got (S:=fun _=>False) r.baseLe (iv:=(wa3.heap.size,wb3.heap.size)::iv2) List.mem_cons_self
  clear r he hb hn
  generalize (wa3.heap.size,wb3.heap.size)::iv2=iv3 at*
  obtain⟨s3_0,s3_1,s3_2,s3_3,s3_4,s3_5,s3_6,s3_7,rfl⟩:=hX.shape
  conv=>whnf
  refine callE_con (Φ:=fun _ w' v w2=>RatC w2 (Nw (fun _=>False) w' w2) v (q)) (fun ρ w' r=>rNormal_c (Rel.old r hS) (hq.rel r hS)) ?_
  rintro ρ wa4 v4 wb4 r he hb hn
  replace hw:=hw.tr hb
  clear hq
  replace hX:=hX.past (iv':=(wa4.heap.size,wb4.heap.size)::iv3) r (oldF w) he fun x hx=>List.mem_cons_of_mem _ hx
  have hY:=hn.got (S:=fun _=>False) r.baseLe (iv:=(wa4.heap.size,wb4.heap.size)::iv3) List.mem_cons_self
  clear r he hb hn
  generalize (wa4.heap.size,wb4.heap.size)::iv3=iv4 at*
  obtain⟨s4_0,s4_1,s4_2,s4_3,s4_4,s4_5,s4_6,s4_7,rfl⟩:=hY.shape
  conv=>whnf
  have hXn:=hX.num
  have hXd:=hX.den
  clear hX
  have hYn:=hY.num
  have hYd:=hY.den
  clear hY
  have m0:=ln_mul_abs p.num q.den
  have m1:=ln_mul_abs q.num p.den
  have m2:=ln_mul_abs (p.den:Int) q.den
  have m3:=ln_add_int (p.num*q.den) (q.num*p.den)
  have m4:=ln_mul_abs p.num q.num
  refine drawn_of_pi hτ hmix [.x 0,.x 1,.x 2,.x 3,.x 5,.x 6,.x 7,.x 8,.x 4,.x 9,.x 10,.x 11] (by kernel_rfl) (by kernel_rfl) ?_
  conv=>whnf
  refine callE_con (Φ:=fun _ w' v w2=>IntC w2 (Nw (fun _=>False) w' w2) v (p.num*q.num)) (fun ρ w' r=>rProd_c (Rel.old r (oldF w)) ((hXn.rel r (oldF w)).l (k:=100000) (by omega)) ((hYn.rel r (oldF w)).l (k:=100000) (by omega)) (by omega) (by omega)) ?_
  rintro ρ wa5 v5 wb5 r he hb hn
  replace hw:=hw.tr hb
  replace hXn:=hXn.past (iv':=(wa5.heap.size,wb5.heap.size)::iv4) r (oldF w) he fun x hx=>List.mem_cons_of_mem _ hx
  replace hXd:=hXd.past (iv':=(wa5.heap.size,wb5.heap.size)::iv4) r (oldF w) he fun x hx=>List.mem_cons_of_mem _ hx
  replace hYn:=hYn.past (iv':=(wa5.heap.size,wb5.heap.size)::iv4) r (oldF w) he fun x hx=>List.mem_cons_of_mem _ hx
  replace hYd:=hYd.past (iv':=(wa5.heap.size,wb5.heap.size)::iv4) r (oldF w) he fun x hx=>List.mem_cons_of_mem _ hx
  have hN:=hn.got (S:=fun _=>False) r.baseLe (iv:=(wa5.heap.size,wb5.heap.size)::iv4) List.mem_cons_self
  clear r he hb hn
  generalize (wa5.heap.size,wb5.heap.size)::iv4=iv5 at*
  obtain⟨s5_0,s5_1,s5_2,s5_3,rfl⟩:=hN.shape
  conv=>whnf
  refine callE_con (Φ:=fun _ w' v w2=>IntC w2 (Nw (fun _=>False) w' w2) v ((p.den:Int)*(q.den:Int))) (fun ρ w' r=>rProd_c (Rel.old r (oldF w)) ((hXd.rel r (oldF w)).l (k:=100000) (by omega)) ((hYd.rel r (oldF w)).l (k:=100000) (by omega)) (by omega) (by omega)) ?_
  rintro ρ wa6 v6 wb6 r he hb hn
  replace hw:=hw.tr hb
  replace hXn:=hXn.past (iv':=(wa6.heap.size,wb6.heap.size)::iv5) r (oldF w) he fun x hx=>List.mem_cons_of_mem _ hx
  replace hXd:=hXd.past (iv':=(wa6.heap.size,wb6.heap.size)::iv5) r (oldF w) he fun x hx=>List.mem_cons_of_mem _ hx
  replace hYn:=hYn.past (iv':=(wa6.heap.size,wb6.heap.size)::iv5) r (oldF w) he fun x hx=>List.mem_cons_of_mem _ hx
  replace hYd:=hYd.past (iv':=(wa6.heap.size,wb6.heap.size)::iv5) r (oldF w) he fun x hx=>List.mem_cons_of_mem _ hx
  replace hN:=hN.past (iv':=(wa6.heap.size,wb6.heap.size)::iv5) r (oldF w) he fun x hx=>List.mem_cons_of_mem _ hx
  have hD:=hn.got (S:=fun _=>False) r.baseLe (iv:=(wa6.heap.size,wb6.heap.size)::iv5) List.mem_cons_self
  clear r he hb hn
  generalize (wa6.heap.size,wb6.heap.size)::iv5=iv6 at*
  obtain⟨s6_0,s6_1,s6_2,s6_3,rfl⟩:=hD.shape
  conv=>whnf
  refine callE_con (Φ:=fun _ w' v w2=>RatC w2 (Nw (fun _=>False) w' w2) v (p*q)) (fun ρ w' r=>(rat_mul p q)▸rOver_c (Rel.old r (oldF w)) ((hN.rel r (oldF w)).l (k:=200001) (by omega)) ((hD.rel r (oldF w)).l (k:=200001) (by omega)) (by omega) (by omega) (mul_ne (den_ne p) (den_ne q))) ?_
  rintro ρ wa7 v7 wb7 r he hb hn
  replace hw:=hw.tr hb
  clear hXn
  clear hXd
  clear hYn
  clear hYd
  clear hN
  clear hD
  have hR:=hn.got (S:=fun _=>False) r.baseLe (iv:=(wa7.heap.size,wb7.heap.size)::iv6) List.mem_cons_self
  clear r he hb hn
  generalize (wa7.heap.size,wb7.heap.size)::iv6=iv7 at*
  obtain⟨s7_0,s7_1,s7_2,s7_3,s7_4,s7_5,s7_6,s7_7,rfl⟩:=hR.shape
  conv=>whnf
  intro ρe we re
  exact⟨_,rfl,hw.tr re.bel,hR.out re (oldF w)⟩
 conv=>whnf
 refine drawn_of_pi hτ hmix [.x 0,.x 2,.x 1,.x 3,.x 4,.x 5] (by kernel_rfl) (by kernel_rfl) ?_
 conv=>whnf
 refine callE_con (Φ:=fun _ w' v w2=>RatC w2 (Nw (fun _=>False) w' w2) v (p)) (fun ρ w' r=>rNormal_c (Rel.old r hS) (hp.rel r hS)) ?_
 rintro ρ wa3 v3 wb3 r he hb hn
 replace hw:=hw.tr hb
 clear hp
 replace hq:=hq.past (iv':=(wa3.heap.size,wb3.heap.size)::iv2) r hS he fun x hx=>List.mem_cons_of_mem _ hx
 have hX:=hn.got (S:=fun _=>False) r.baseLe (iv:=(wa3.heap.size,wb3.heap.size)::iv2) List.mem_cons_self
 clear r he hb hn
 generalize (wa3.heap.size,wb3.heap.size)::iv2=iv3 at*
 obtain⟨s3_0,s3_1,s3_2,s3_3,s3_4,s3_5,s3_6,s3_7,rfl⟩:=hX.shape
 conv=>whnf
 refine callE_con (Φ:=fun _ w' v w2=>RatC w2 (Nw (fun _=>False) w' w2) v (q)) (fun ρ w' r=>rNormal_c (Rel.old r hS) (hq.rel r hS)) ?_
 rintro ρ wa4 v4 wb4 r he hb hn
 replace hw:=hw.tr hb
 clear hq
 replace hX:=hX.past (iv':=(wa4.heap.size,wb4.heap.size)::iv3) r (oldF w) he fun x hx=>List.mem_cons_of_mem _ hx
 have hY:=hn.got (S:=fun _=>False) r.baseLe (iv:=(wa4.heap.size,wb4.heap.size)::iv3) List.mem_cons_self
 clear r he hb hn
 generalize (wa4.heap.size,wb4.heap.size)::iv3=iv4 at*
 obtain⟨s4_0,s4_1,s4_2,s4_3,s4_4,s4_5,s4_6,s4_7,rfl⟩:=hY.shape
 conv=>whnf
 have hXn:=hX.num
 have hXd:=hX.den
 clear hX
 have hYn:=hY.num
 have hYd:=hY.den
 clear hY
 have m0:=ln_mul_abs p.num q.den
 have m1:=ln_mul_abs q.num p.den
 have m2:=ln_mul_abs (p.den:Int) q.den
 have m3:=ln_add_int (p.num*q.den) (q.num*p.den)
 have m4:=ln_mul_abs p.num q.num
 refine drawn_of_pi hτ hmix [.x 0,.x 1,.x 2,.x 3,.x 5,.x 6,.x 7,.x 8,.x 4,.x 9,.x 10,.x 11] (by kernel_rfl) (by kernel_rfl) ?_
 conv=>whnf
 refine callE_con (Φ:=fun _ w' v w2=>IntC w2 (Nw (fun _=>False) w' w2) v (p.num*q.num)) (fun ρ w' r=>rProd_c (Rel.old r (oldF w)) ((hXn.rel r (oldF w)).l (k:=100000) (by omega)) ((hYn.rel r (oldF w)).l (k:=100000) (by omega)) (by omega) (by omega)) ?_
 rintro ρ wa5 v5 wb5 r he hb hn
 replace hw:=hw.tr hb
 replace hXn:=hXn.past (iv':=(wa5.heap.size,wb5.heap.size)::iv4) r (oldF w) he fun x hx=>List.mem_cons_of_mem _ hx
 replace hXd:=hXd.past (iv':=(wa5.heap.size,wb5.heap.size)::iv4) r (oldF w) he fun x hx=>List.mem_cons_of_mem _ hx
 replace hYn:=hYn.past (iv':=(wa5.heap.size,wb5.heap.size)::iv4) r (oldF w) he fun x hx=>List.mem_cons_of_mem _ hx
 replace hYd:=hYd.past (iv':=(wa5.heap.size,wb5.heap.size)::iv4) r (oldF w) he fun x hx=>List.mem_cons_of_mem _ hx
 have hN:=hn.got (S:=fun _=>False) r.baseLe (iv:=(wa5.heap.size,wb5.heap.size)::iv4) List.mem_cons_self
 clear r he hb hn
 generalize (wa5.heap.size,wb5.heap.size)::iv4=iv5 at*
 obtain⟨s5_0,s5_1,s5_2,s5_3,rfl⟩:=hN.shape
 conv=>whnf
 refine callE_con (Φ:=fun _ w' v w2=>IntC w2 (Nw (fun _=>False) w' w2) v ((p.den:Int)*(q.den:Int))) (fun ρ w' r=>rProd_c (Rel.old r (oldF w)) ((hXd.rel r (oldF w)).l (k:=100000) (by omega)) ((hYd.rel r (oldF w)).l (k:=100000) (by omega)) (by omega) (by omega)) ?_
 rintro ρ wa6 v6 wb6 r he hb hn
 replace hw:=hw.tr hb
 replace hXn:=hXn.past (iv':=(wa6.heap.size,wb6.heap.size)::iv5) r (oldF w) he fun x hx=>List.mem_cons_of_mem _ hx
 replace hXd:=hXd.past (iv':=(wa6.heap.size,wb6.heap.size)::iv5) r (oldF w) he fun x hx=>List.mem_cons_of_mem _ hx
 replace hYn:=hYn.past (iv':=(wa6.heap.size,wb6.heap.size)::iv5) r (oldF w) he fun x hx=>List.mem_cons_of_mem _ hx
 replace hYd:=hYd.past (iv':=(wa6.heap.size,wb6.heap.size)::iv5) r (oldF w) he fun x hx=>List.mem_cons_of_mem _ hx
 replace hN:=hN.past (iv':=(wa6.heap.size,wb6.heap.size)::iv5) r (oldF w) he fun x hx=>List.mem_cons_of_mem _ hx
 have hD:=hn.got (S:=fun _=>False) r.baseLe (iv:=(wa6.heap.size,wb6.heap.size)::iv5) List.mem_cons_self
 clear r he hb hn
 generalize (wa6.heap.size,wb6.heap.size)::iv5=iv6 at*
 obtain⟨s6_0,s6_1,s6_2,s6_3,rfl⟩:=hD.shape
 conv=>whnf
 refine callE_con (Φ:=fun _ w' v w2=>RatC w2 (Nw (fun _=>False) w' w2) v (p*q)) (fun ρ w' r=>(rat_mul p q)▸rOver_c (Rel.old r (oldF w)) ((hN.rel r (oldF w)).l (k:=200001) (by omega)) ((hD.rel r (oldF w)).l (k:=200001) (by omega)) (by omega) (by omega) (mul_ne (den_ne p) (den_ne q))) ?_
 rintro ρ wa7 v7 wb7 r he hb hn
 replace hw:=hw.tr hb
 clear hXn
 clear hXd
 clear hYn
 clear hYd
 clear hN
 clear hD
 have hR:=hn.got (S:=fun _=>False) r.baseLe (iv:=(wa7.heap.size,wb7.heap.size)::iv6) List.mem_cons_self
 clear r he hb hn
 generalize (wa7.heap.size,wb7.heap.size)::iv6=iv7 at*
 obtain⟨s7_0,s7_1,s7_2,s7_3,s7_4,s7_5,s7_6,s7_7,rfl⟩:=hR.shape
 conv=>whnf
 intro ρe we re
 exact⟨_,rfl,hw.tr re.bel,hR.out re (oldF w)⟩

theorem rNeg_c{S:Nat→Prop}{w:World}{v:Value}{p:Rat}(hS:Old S w)(hp:RatL w S v p):
  Con PG N.ref01_Neg #[v] w (Ret w fun v' w2=>RatC w2 (Nw (fun _=>False) w w2) v' (-p)):=by
 have hw:Bel w.heap.size w w:=Bel.refl
 replace hp:=hp.weak (S':=Cv S w.heap.size []) fun _ h=>.inl h
 obtain⟨b1,a1,n1,c1,b2,a2,n2,c2,rfl⟩:=hp.shape
 refine in_ref01_Neg (by simp) ?_
 conv=>whnf
 have r1:=hp.rl
 have u1:=rl_num p
 have u2:=rl_den' p
 refine callE_S (callE_con (Φ:=fun _ w' v w2=>RatC w2 (Nw (fun _=>False) w' w2) v (p)) (fun ρ w' r=>rNormal_c (Rel.old r hS) (hp.rel r hS)) ?_)
 rintro ρ wa1 v1 wb1 r he hb hn
 replace hw:=hw.tr hb
 clear hp
 have hX:=hn.got (S:=fun _=>False) r.baseLe (iv:=(wa1.heap.size,wb1.heap.size)::[]) List.mem_cons_self
 clear r he hb hn
 generalize (wa1.heap.size,wb1.heap.size)::[]=iv1 at*
 obtain⟨s1_0,s1_1,s1_2,s1_3,s1_4,s1_5,s1_6,s1_7,rfl⟩:=hX.shape
 conv=>whnf
 have hXn:=hX.num
 have hXd:=hX.den
 clear hX
 refine drawn_of_pi hτ hmix [.x 0,.x 1,.x 3,.x 4,.x 2,.x 5,.x 6] (by kernel_rfl) (by kernel_rfl) ?_
 conv=>whnf
 refine callE_con (Φ:=fun _ w' v w2=>IntC w2 (Nw (fun _=>False) w' w2) v (-p.num)) (fun ρ w' r=>rMinus_c (Rel.old r (oldF w)) ((hXn.rel r (oldF w)).l (k:=100000) (by omega)) (by omega)) ?_
 rintro ρ wa2 v2 wb2 r he hb hn
 replace hw:=hw.tr hb
 clear hXn
 replace hXd:=hXd.past (iv':=(wa2.heap.size,wb2.heap.size)::iv1) r (oldF w) he fun x hx=>List.mem_cons_of_mem _ hx
 have hN:=hn.got (S:=fun _=>False) r.baseLe (iv:=(wa2.heap.size,wb2.heap.size)::iv1) List.mem_cons_self
 clear r he hb hn
 generalize (wa2.heap.size,wb2.heap.size)::iv1=iv2 at*
 obtain⟨s2_0,s2_1,s2_2,s2_3,rfl⟩:=hN.shape
 conv=>whnf
 refine callE_con (Φ:=fun _ w' v w2=>RatC w2 (Nw (fun _=>False) w' w2) v (-p)) (fun ρ w' r=>show Con _ _ _ _ (Ret _ fun v w2=>RatC w2 _ v (-p))from(show Rat.divInt (-p.num) p.den= -p by rw[←Rat.neg_divInt,Rat.num_divInt_den])▸rOver_c (Rel.old r (oldF w)) ((hN.rel r (oldF w)).l (k:=100000) (by rw[Int.natAbs_neg];omega)) ((hXd.rel r (oldF w)).l (k:=100000) (by omega)) (by omega) (by omega) (den_ne p)) ?_
 rintro ρ wa3 v3 wb3 r he hb hn
 replace hw:=hw.tr hb
 clear hXd
 clear hN
 have hR:=hn.got (S:=fun _=>False) r.baseLe (iv:=(wa3.heap.size,wb3.heap.size)::iv2) List.mem_cons_self
 clear r he hb hn
 generalize (wa3.heap.size,wb3.heap.size)::iv2=iv3 at*
 obtain⟨s3_0,s3_1,s3_2,s3_3,s3_4,s3_5,s3_6,s3_7,rfl⟩:=hR.shape
 conv=>whnf
 intro ρe we re
 exact⟨_,rfl,hw.tr re.bel,hR.out re (oldF w)⟩

theorem rSub_c{S:Nat→Prop}{w:World}{v u:Value}{p q:Rat}(hS:Old S w)(hp:RatL w S v p)(hq:RatL w S u q):
  Con PG N.ref01_Sub #[v,u] w (Ret w fun v' w2=>RatC w2 (Nw (fun _=>False) w w2) v' (p-q)):=by
 have hw:Bel w.heap.size w w:=Bel.refl
 replace hp:=hp.weak (S':=Cv S w.heap.size []) fun _ h=>.inl h
 replace hq:=hq.weak (S':=Cv S w.heap.size []) fun _ h=>.inl h
 obtain⟨b1,a1,n1,c1,b2,a2,n2,c2,rfl⟩:=hp.shape
 obtain⟨b3,a3,n3,c3,b4,a4,n4,c4,rfl⟩:=hq.shape
 refine in_ref01_Sub (by simp) ?_
 conv=>whnf
 have r1:=hp.rl
 have r2:=hq.rl
 have u1:=rl_neg q
 refine drawn_of_pi hτ hmix [.x 0,.x 1,.x 2,.x 3,.x 4] (by kernel_rfl) (by kernel_rfl) ?_
 conv=>whnf
 refine callE_con (Φ:=fun _ w' v w2=>RatC w2 (Nw (fun _=>False) w' w2) v (-q)) (fun ρ w' r=>rNeg_c (Rel.old r hS) (hq.rel r hS)) ?_
 rintro ρ wa1 v1 wb1 r he hb hn
 replace hw:=hw.tr hb
 replace hp:=hp.past (iv':=(wa1.heap.size,wb1.heap.size)::[]) r hS he fun x hx=>List.mem_cons_of_mem _ hx
 clear hq
 have hN:=hn.got (S:=fun _=>False) r.baseLe (iv:=(wa1.heap.size,wb1.heap.size)::[]) List.mem_cons_self
 clear r he hb hn
 generalize (wa1.heap.size,wb1.heap.size)::[]=iv1 at*
 obtain⟨s1_0,s1_1,s1_2,s1_3,s1_4,s1_5,s1_6,s1_7,rfl⟩:=hN.shape
 conv=>whnf
 refine callE_con (Φ:=fun _ w' v w2=>RatC w2 (Nw (fun _=>False) w' w2) v (p-q)) (fun ρ w' r=>(Rat.sub_eq_add_neg p q)▸rAdd_c (Rel.old r hS) (hp.rel r hS) (((hN.rel r (oldF w)).l (by omega)).weak fun g hg=>Cv.false hg)) ?_
 rintro ρ wa2 v2 wb2 r he hb hn
 replace hw:=hw.tr hb
 clear hp
 clear hN
 have hR:=hn.got (S:=fun _=>False) r.baseLe (iv:=(wa2.heap.size,wb2.heap.size)::iv1) List.mem_cons_self
 clear r he hb hn
 generalize (wa2.heap.size,wb2.heap.size)::iv1=iv2 at*
 obtain⟨s2_0,s2_1,s2_2,s2_3,s2_4,s2_5,s2_6,s2_7,rfl⟩:=hR.shape
 conv=>whnf
 intro ρe we re
 exact⟨_,rfl,hw.tr re.bel,hR.out re (oldF w)⟩

theorem rCmp_c{S:Nat→Prop}{w:World}{v u:Value}{p q:Rat}(hS:Old S w)(hp:RatL w S v p)(hq:RatL w S u q):
  Con PG N.ref01_Cmp #[v,u] w (Ret w fun v' _=>v'= .int .i64 (rs (p-q))):=by
 have hw:Bel w.heap.size w w:=Bel.refl
 replace hp:=hp.weak (S':=Cv S w.heap.size []) fun _ h=>.inl h
 replace hq:=hq.weak (S':=Cv S w.heap.size []) fun _ h=>.inl h
 obtain⟨b1,a1,n1,c1,b2,a2,n2,c2,rfl⟩:=hp.shape
 obtain⟨b3,a3,n3,c3,b4,a4,n4,c4,rfl⟩:=hq.shape
 refine in_ref01_Cmp (by simp) ?_
 conv=>whnf
 refine callE_S (callE_con (Φ:=fun _ w' v w2=>RatC w2 (Nw (fun _=>False) w' w2) v (p-q)) (fun ρ w' r=>rSub_c (Rel.old r hS) (hp.rel r hS) (hq.rel r hS)) ?_)
 rintro ρ wa1 v1 wb1 r he hb hn
 replace hw:=hw.tr hb
 clear hp
 clear hq
 have hR:=hn.got (S:=fun _=>False) r.baseLe (iv:=(wa1.heap.size,wb1.heap.size)::[]) List.mem_cons_self
 clear r he hb hn
 generalize (wa1.heap.size,wb1.heap.size)::[]=iv1 at*
 obtain⟨s1_0,s1_1,s1_2,s1_3,s1_4,s1_5,s1_6,s1_7,rfl⟩:=hR.shape
 conv=>whnf
 refine callE_S (callE_con (Φ:=fun _ w' v w2=>v= .int .i64 (rs (p-q))) (fun ρ w' r=>rSignOf_c (Rel.old r (oldF w)) (hR.rel r (oldF w))) ?_)
 rintro ρ wa2 v2 wb2 r he hb rfl
 replace hw:=hw.tr hb
 clear hR
 clear r he hb
 generalize (wa2.heap.size,wb2.heap.size)::iv1=iv2 at*
 conv=>whnf
 intro ρe we re
 exact⟨_,rfl,hw.tr re.bel,rfl⟩

theorem rWholeAll_c(n:Int)(w:World)(h1n: -9223372036854775808≤n)(h2n:n≤9223372036854775807):
  Con PG N.ref01_Whole #[.int .i64 n] w (Ret w fun v' w2=>RatC w2 (Nw (fun _=>False) w w2) v' (n:Rat)):=by
 have hw:Bel w.heap.size w w:=Bel.refl
 have ha:=ln_small h1n h2n
 refine in_ref01_Whole (by simp) ?_
 conv=>whnf
 refine callE_S (callE_con (Φ:=fun _ w' v w2=>IntC w2 (Nw (fun _=>False) w' w2) v (n)) (fun ρ w' r=>rOf_c n w' h1n h2n) ?_)
 rintro ρ wa1 v1 wb1 r he hb hn
 replace hw:=hw.tr hb
 have hA:=hn.got (S:=fun _=>False) r.baseLe (iv:=(wa1.heap.size,wb1.heap.size)::[]) List.mem_cons_self
 clear r he hb hn
 generalize (wa1.heap.size,wb1.heap.size)::[]=iv1 at*
 obtain⟨s1_0,s1_1,s1_2,s1_3,rfl⟩:=hA.shape
 conv=>whnf
 refine callE_S (callE_con (Φ:=fun _ w' v w2=>IntC w2 (Nw (fun _=>False) w' w2) v (1)) (fun ρ w' r=>rOf_c 1 w' (by decide) (by decide)) ?_)
 rintro ρ wa2 v2 wb2 r he hb hn
 replace hw:=hw.tr hb
 replace hA:=hA.past (iv':=(wa2.heap.size,wb2.heap.size)::iv1) r (oldF w) he fun x hx=>List.mem_cons_of_mem _ hx
 have hB:=hn.got (S:=fun _=>False) r.baseLe (iv:=(wa2.heap.size,wb2.heap.size)::iv1) List.mem_cons_self
 clear r he hb hn
 generalize (wa2.heap.size,wb2.heap.size)::iv1=iv2 at*
 obtain⟨s2_0,s2_1,s2_2,s2_3,rfl⟩:=hB.shape
 conv=>whnf
 refine callE_S (callE_con (Φ:=fun _ w' v w2=>RatC w2 (Nw (fun _=>False) w' w2) v ((n:Rat))) (fun ρ w' r=>(divInt_one n)▸rOver_c (Rel.old r (oldF w)) ((hA.rel r (oldF w)).l (k:=2) (by omega)) ((hB.rel r (oldF w)).l (k:=2) (by decide)) (by omega) (by omega) (by decide)) ?_)
 rintro ρ wa3 v3 wb3 r he hb hn
 replace hw:=hw.tr hb
 clear hA
 clear hB
 have hR:=hn.got (S:=fun _=>False) r.baseLe (iv:=(wa3.heap.size,wb3.heap.size)::iv2) List.mem_cons_self
 clear r he hb hn
 generalize (wa3.heap.size,wb3.heap.size)::iv2=iv3 at*
 obtain⟨s3_0,s3_1,s3_2,s3_3,s3_4,s3_5,s3_6,s3_7,rfl⟩:=hR.shape
 conv=>whnf
 intro ρe we re
 exact⟨_,rfl,hw.tr re.bel,hR.out re (oldF w)⟩

end Go.Ex

/- ExactFractions of the laws of chapter 1. Printed by program. No condition. -/
namespace Go.Ex
open Go Go.Sx Go.Proofs

section
variable{S S':Nat→Prop}{H:Hp}{nx:Nat}{iv iv':Iv}{B:Nat}{w w' w2:World}{ρ:Nat→Sx.Val}{v:Value}{a:Int}{b:Int}
end

theorem IntR.short{S:Nat→Prop}{w:World}{b:Bool}{a:Option Addr}{n c k:Nat}{z:Int}(h:IntR w S (.agg #[.bool b,.slice a n c]) z)(hk:n≤k):IntL w S (.agg #[.bool b,.slice a n c]) k z:=by
 obtain⟨b2,ls,⟨lv,e1,h3⟩,h2⟩:=h
 obtain⟨a2,c2,e2,_⟩:=h3.sl
 subst e2
 simp only[Value.agg.injEq,Array.mk.injEq,List.cons.injEq,Value.bool.injEq,Value.slice.injEq,and_true]at e1
 obtain⟨rfl,rfl,e3,rfl⟩:=e1
 exact⟨_,ls,⟨_,by rw[e3],h3⟩,h2,by omega⟩
theorem RatR.shortL{S:Nat→Prop}{w:World}{b1 b2:Bool}{a1 a2:Option Addr}{n1 n2 c1 c2:Nat}{a b:Int}(h:RatR w S (.agg #[.bool b1,.slice a1 n1 c1,.bool b2,.slice a2 n2 c2]) a b)(k1:n1≤3)(k2:n2≤3):
  RatL w S (.agg #[.bool b1,.slice a1 n1 c1,.bool b2,.slice a2 n2 c2]) (ratio a b)∧rl (ratio a b)≤3:=by
 obtain⟨b1,l1,b2,l2,e,h1,h2⟩:=h
 simp only[Value.agg.injEq,Array.mk.injEq,List.cons.injEq,Value.bool.injEq,and_true]at e
 obtain⟨rfl,rfl,rfl,rfl⟩:=e
 have i1:=h1.short k1
 have i2:=h2.short k2
 have q1:=i1.ln
 have q2:=i2.ln
 have q3:=rl_ratio a b
 exact⟨⟨_,_,_,_,a,b,rfl,i1.up (by omega),i2.up (by omega),rfl⟩,by omega⟩
end Go.Ex

/- Lists and matrices of fractions by their values; Small of the laws of chapter 1. Printed by program. No condition but sizes. -/
namespace Go.Ex
open Go Go.Sx Go.Proofs

/-- the four cells of a fraction of the api, by its value -/
def Rat4L(w:World)(S:Nat→Prop)(cs:List Value)(q:Rat):Prop:=∃b a n c b2 a2 n2 c2,cs=[.bool b,.slice a n c,.bool b2,.slice a2 n2 c2]∧RatL w S (.agg #[.bool b,.slice a n c,.bool b2,.slice a2 n2 c2]) q
abbrev RatsL:=ListR Rat4L
abbrev RatML:=SlicesR RatsL
section
variable{S S':Nat→Prop}{H:Hp}{nx:Nat}{iv iv':Iv}{B:Nat}{w w' w2:World}{ρ:Nat→Sx.Val}{v:Value}{qs:List Rat}{cs:List Value}{q:Rat}
theorem Rat4L.keep(h:Rat4L w S cs q)(hk:∀g,S g→w2.heap[g]? =w.heap[g]?):Rat4L w2 S cs q:=by
 obtain⟨b,a,n,c,b2,a2,n2,c2,h1,h2⟩:=h;exact⟨b,a,n,c,b2,a2,n2,c2,h1,h2.keep hk⟩
theorem Rat4L.weak(h:Rat4L w S cs q)(hk:∀g,S g→S' g):Rat4L w S' cs q:=by
 obtain⟨b,a,n,c,b2,a2,n2,c2,h1,h2⟩:=h;exact⟨b,a,n,c,b2,a2,n2,c2,h1,h2.weak hk⟩
theorem RatsL.keep(h:RatsL w S v qs)(hk:∀g,S g→w2.heap[g]? =w.heap[g]?):RatsL w2 S v qs:=by
 obtain⟨css,h1,h2,h3,h4⟩:=h;exact⟨css,h1.keep hk,h2,h3,fun j cs x k1 k2=>(h4 j cs x k1 k2).keep hk⟩
theorem RatsL.weak(h:RatsL w S v qs)(hk:∀g,S g→S' g):RatsL w S' v qs:=by
 obtain⟨css,h1,h2,h3,h4⟩:=h;exact⟨css,h1.weak hk,h2,h3,fun j cs x k1 k2=>(h4 j cs x k1 k2).weak hk⟩
theorem RatML.keep{M:List (List Rat)}(h:RatML w S v M)(hk:∀g,S g→w2.heap[g]? =w.heap[g]?):RatML w2 S v M:=by
 obtain⟨rv,h1,h2,h3⟩:=h;exact⟨rv,h1.keep hk,h2,fun i u x k1 k2=>RatsL.keep (h3 i u x k1 k2) hk⟩
end
section
variable{S S':Nat→Prop}{H:Hp}{nx:Nat}{iv iv':Iv}{B:Nat}{w w' w2:World}{ρ:Nat→Sx.Val}{v:Value}{qs:List Rat}
theorem RatsL.rel(h:RatsL w (Cv S B iv) v qs)(r:Rel H nx iv B w ρ w')(hS:∀g,S g→g<B):RatsL w' (Cv S B iv) v qs:=RatsL.keep h fun _ hg=>Rel.same r hS hg
end
section
variable{S S':Nat→Prop}{H:Hp}{nx:Nat}{iv iv':Iv}{B:Nat}{w w' w2:World}{ρ:Nat→Sx.Val}{v:Value}{M:List (List Rat)}
end

def headOf:List Value→Head×Head
 |[.bool b,.slice a n c,.bool b2,.slice a2 n2 c2]=>((b,a,n,c),(b2,a2,n2,c2))
 |_=>((false,none,0,0),(false,none,0,0))
theorem rheads_flat{css:List (List Value)}(h:∀cs∈css,∃b a n c b2 a2 n2 c2,cs=[.bool b,.slice a n c,.bool b2,.slice a2 n2 c2]):rheads (css.map headOf)=css.flatten:=by
 induction css with
 |nil=>rfl
 |cons cs r ih=>
  obtain⟨b,a,n,c,b2,a2,n2,c2,rfl⟩:=h cs List.mem_cons_self
  rw[List.map_cons,List.flatten_cons,←ih fun x hx=>h x (List.mem_cons_of_mem _ hx)]
  rfl
/-- a list of fractions, as brief reads it -/
theorem RatsR.brief{S:Nat→Prop}{w:World}{v:Value}{xs:List (Int×Int)}(h:RatsR w S v xs):
  ∃ks:List (Head×Head),SeqR w S 4 v (rheads ks) ks.length∧((∀k∈ks,k.1.2.2.1≤3∧k.2.2.2.1≤3)→RatsL w S v (xs.map ratioP)∧(∀q∈xs.map ratioP,rl q≤3)∧Few xs):=by
 obtain⟨css,h1,h2,h3,h4⟩:=h
 have hform:∀(j:Nat) cs,css[j]? =some cs→∃x,xs[j]? =some x∧Rat4 w S cs x:=fun j cs hj=>by
  obtain⟨x,hx⟩:∃x,xs[j]? =some x:=⟨_,List.getElem?_eq_getElem (by rw[←h2];exact(List.getElem?_eq_some_iff.1 hj).1)⟩
  exact⟨x,hx,h4 j cs x hj hx⟩
 have hf:∀cs∈css,∃b a n c b2 a2 n2 c2,cs=[Value.bool b,.slice a n c,.bool b2,.slice a2 n2 c2]:=fun cs hc=>by
  obtain⟨j,hj,rfl⟩:=List.mem_iff_getElem.1 hc
  obtain⟨x,_,b,a,n,c,b2,a2,n2,c2,e,_⟩:=hform j _ (List.getElem?_eq_getElem hj)
  exact⟨b,a,n,c,b2,a2,n2,c2,e⟩
 refine⟨css.map headOf,by rw[rheads_flat hf,List.length_map,h2];exact h1,fun hk=>?_⟩
 have key:∀(j:Nat) cs x,css[j]? =some cs→xs[j]? =some x→Rat4L w S cs (ratioP x)∧rl (ratioP x)≤3∧ln x.1.natAbs≤10000000000∧ln x.2.natAbs≤10000000000:=fun j cs x k1 k2=>by
  obtain⟨b,a,n,c,b2,a2,n2,c2,rfl,hr⟩:=h4 j cs x k1 k2
  have:=hk _ (List.mem_map.2 ⟨_,List.mem_of_getElem? k1,rfl⟩)
  obtain⟨r1,r2⟩:=hr.shortL this.1 this.2
  obtain⟨_,_,_,_,e,i1,i2⟩:=hr
  simp only[Value.agg.injEq,Array.mk.injEq,List.cons.injEq,Value.bool.injEq,and_true]at e
  obtain⟨rfl,rfl,rfl,rfl⟩:=e
  have l1:=(i1.short this.1).ln
  have l2:=(i2.short this.2).ln
  exact⟨⟨b,a,n,c,b2,a2,n2,c2,rfl,r1⟩,r2,by omega,by omega⟩
 refine⟨⟨css,by rw[List.length_map];exact h1,by rw[List.length_map];exact h2,h3,fun j cs q k1 k2=>?_⟩,fun q hq=>?_,fun x hx=>?_⟩
 ·rw[List.getElem?_map]at k2
  obtain⟨x,hx,rfl⟩:=Option.map_eq_some_iff.1 k2
  exact(key j cs x k1 hx).1
 ·obtain⟨x,hx,rfl⟩:=List.mem_map.1 hq
  obtain⟨j,hj,rfl⟩:=List.mem_iff_getElem.1 hx
  exact(key j _ _ (List.getElem?_eq_getElem (by rw[h2];exact hj)) (List.getElem?_eq_getElem hj)).2.1
 ·obtain⟨j,hj,rfl⟩:=List.mem_iff_getElem.1 hx
  exact(key j _ _ (List.getElem?_eq_getElem (by rw[h2];exact hj)) (List.getElem?_eq_getElem hj)).2.2
def Sized(n:Nat):Prop:=n≤5∨60<n∧n≤65
/-- a matrix that the laws are told for -/
def SmallM(w:World)(S:Nat→Prop)(v:Value)(M:List (List (Int×Int))):Prop:=Sized M.length∧(∀r∈M,Sized r.length)∧RatML w S v (valsM M)∧(∀r∈valsM M,∀q∈r,rl q≤3)∧∀r∈M,Few r
theorem smallM_c{S:Nat→Prop}{w:World}{v:Value}{M:List (List (Int×Int))}(hS:Old S w)(h:RatMR w S v M):
  Con PG N.law01_Small #[v] w (Ret w fun v' _=>∃d,v'= .bool d∧(d=true→SmallM w S v M)):=by
 have hw:Bel w.heap.size w w:=Bel.refl
 obtain⟨rv,⟨h0,hl0,h1,a,c,rfl,hc,hcell⟩,hl,hrow⟩:=h
 unfold maxLen at h0
 refine in_law01_Small (by simp) ?_
 conv=>whnf
 refine BrS.mk (fun h5=>?_) (fun h5=>?_)
 ·have h5:=of_decide_eq_true h5
  conv=>whnf
  refine BrS.mk (fun h60=>?_) (fun h60=>?_)
  ·have h60:=of_decide_eq_true h60
   conv=>whnf
   intro ρe we re
   exact⟨_,rfl,hw.tr re.bel,⟨false,rfl,fun h=>by cases h⟩⟩
  have h60:=of_decide_eq_false h60
  conv=>whnf
  refine BrS.mk (fun h65=>?_) (fun h65=>?_)
  ·have h65:=of_decide_eq_true h65
   conv=>whnf
   intro ρe we re
   exact⟨_,rfl,hw.tr re.bel,⟨false,rfl,fun h=>by cases h⟩⟩
  have h65:=of_decide_eq_false h65
  conv=>whnf
  refine⟨Nat×World×Iv,fun z=>⟨[(0,.o (.v (.slice a M.length c))),(3,.o (.v (.int .i64 ((z.1:Nat):Int))))],[],0,z.2.2,z.2.1⟩,fun z=>M.length-z.1,
   fun z=>z.1≤M.length∧Bel w.heap.size w z.2.1∧∀(j:Nat) r u,j<z.1→M[j]? =some r→rv[j]? =some u→Sized r.length∧RatsL w S u (r.map ratioP)∧(∀q∈r.map ratioP,rl q≤3)∧Few r,?_,?_⟩
  ·intro ρ w' r
   exact⟨(0,w',[]),⟨by simp,hw.tr r.bel,fun j r u hj=>by dsimp only at hj;omega⟩,Sub.gen [] r trivial ⟨rfl,rfl,trivial⟩ (by simp[ScH]) (by simp[ScE,SV.sc,At.sc]) (by rfl) (by simp)⟩
  clear hw
  rintro⟨i,w1,iv⟩ ⟨hi,hw,ht⟩
  dsimp only at hi hw ht ⊢
  conv=>whnf
  refine BrS.mk (fun hib=>?_) (fun hib=>?_)
  ·have hib:i<M.length:=by simpa using hib
   obtain⟨r0,hr0⟩:∃r,M[i]? =some r:=⟨_,List.getElem?_eq_getElem hib⟩
   obtain⟨u,hu⟩:∃u,rv[i]? =some u:=⟨_,List.getElem?_eq_getElem (by omega)⟩
   have hR:=hrow i u r0 hu hr0
   obtain⟨ad,ha0,q1,q2⟩:=hcell i u hu
   obtain⟨au,cu,rfl,hcu,-⟩:=ListR.shape hR
   have hld:∀{H nx iv ρ w'},Rel H nx iv w.heap.size w1 ρ w'→w'.cell? (ad.add ((i:Int).toNat*1))=some (.slice au r0.length cu):=fun r=>by
    rw[Int.toNat_natCast,Nat.mul_one];exact cellS hS hw r q1 q2
   conv=>whnf
   refine⟨ad,ha0,⟨by omega,by omega⟩,?_⟩
   conv=>whnf
   refine⟨.slice au r0.length cu,fun ρ w' r=>hld r,?_⟩
   conv=>whnf
   refine BrS.mk (fun h5=>?_) (fun h5=>?_)
   ·have h5:=of_decide_eq_true h5
    conv=>whnf
    refine⟨ad,ha0,⟨by omega,by omega⟩,?_⟩
    conv=>whnf
    refine⟨.slice au r0.length cu,fun ρ w' r=>hld r,?_⟩
    conv=>whnf
    refine BrS.mk (fun h60=>?_) (fun h60=>?_)
    ·have h60:=of_decide_eq_true h60
     conv=>whnf
     intro ρe we re
     exact⟨_,rfl,hw.tr re.bel,⟨false,rfl,fun h=>by cases h⟩⟩
    have h60:=of_decide_eq_false h60
    conv=>whnf
    refine⟨ad,ha0,⟨by omega,by omega⟩,?_⟩
    conv=>whnf
    refine⟨.slice au r0.length cu,fun ρ w' r=>hld r,?_⟩
    conv=>whnf
    refine BrS.mk (fun h65=>?_) (fun h65=>?_)
    ·have h65:=of_decide_eq_true h65
     conv=>whnf
     intro ρe we re
     exact⟨_,rfl,hw.tr re.bel,⟨false,rfl,fun h=>by cases h⟩⟩
    have h65:=of_decide_eq_false h65
    conv=>whnf
    refine⟨ad,ha0,⟨by omega,by omega⟩,?_⟩
    conv=>whnf
    refine⟨.slice au r0.length cu,fun ρ w' r=>hld r,?_⟩
    conv=>whnf
    obtain⟨ks,hks,hbr⟩:=RatsR.brief hR
    refine callE_S (callE_con (Φ:=fun _ w' v w2=>v= .bool (decide (∀k∈ks,k.1.2.2.1≤3∧k.2.2.2.1≤3))) (fun ρ w' r=>brief_c (fun g hg=>by have:=hS g hg;have:=r.baseLe;omega) (hks.keep fun g hg=>(hw.tr r.bel).block g (hS g hg))) ?_)
    rintro ρ wa1 v1 wb1 r he hb rfl
    replace hw:=hw.tr hb
    clear r he hb
    generalize (wa1.heap.size,wb1.heap.size)::iv=iv1 at*
    conv=>whnf
    clear hld
    refine BrS.mk (fun hb0=>?_) (fun hb0=>?_)
    ·conv=>whnf
     intro ρe we re
     exact⟨_,rfl,hw.tr re.bel,⟨false,rfl,fun h=>by cases h⟩⟩
    have hb1:=of_decide_eq_true (show decide (∀k∈ks,k.1.2.2.1≤3∧k.2.2.2.1≤3)=true by simpa using hb0)
    conv=>whnf
    refine⟨((i+1:Nat):Int),by rw[wrap64]<;>omega,?_⟩
    conv=>whnf
    intro ρ3 w3 r3
    refine⟨(i+1,w3,_),⟨by dsimp only;omega,hw.tr r3.bel,fun j r u hj k1 k2=>?_⟩,Sub.gen [] r3 trivial ⟨rfl,rfl,trivial⟩ (by simp[ScH]) (by simp[ScE,SV.sc,At.sc]) (by rfl) (fun lo hi h=>h),by dsimp only;omega⟩
    rcases Nat.lt_or_ge j i with hj2|hj2
    ·exact ht j r u hj2 k1 k2
    ·obtain rfl:j=i:=by dsimp only at hj;omega
     rw[hr0]at k1
     rw[hu]at k2
     injection k1 with k1
     injection k2 with k2
     subst k1 k2
     exact⟨by unfold Sized;omega,hbr hb1⟩
   have h5:=of_decide_eq_false h5
   conv=>whnf
   refine⟨ad,ha0,⟨by omega,by omega⟩,?_⟩
   conv=>whnf
   refine⟨.slice au r0.length cu,fun ρ w' r=>hld r,?_⟩
   conv=>whnf
   refine BrS.mk (fun h65=>?_) (fun h65=>?_)
   ·have h65:=of_decide_eq_true h65
    conv=>whnf
    intro ρe we re
    exact⟨_,rfl,hw.tr re.bel,⟨false,rfl,fun h=>by cases h⟩⟩
   have h65:=of_decide_eq_false h65
   conv=>whnf
   refine⟨ad,ha0,⟨by omega,by omega⟩,?_⟩
   conv=>whnf
   refine⟨.slice au r0.length cu,fun ρ w' r=>hld r,?_⟩
   conv=>whnf
   obtain⟨ks,hks,hbr⟩:=RatsR.brief hR
   refine callE_S (callE_con (Φ:=fun _ w' v w2=>v= .bool (decide (∀k∈ks,k.1.2.2.1≤3∧k.2.2.2.1≤3))) (fun ρ w' r=>brief_c (fun g hg=>by have:=hS g hg;have:=r.baseLe;omega) (hks.keep fun g hg=>(hw.tr r.bel).block g (hS g hg))) ?_)
   rintro ρ wa1 v1 wb1 r he hb rfl
   replace hw:=hw.tr hb
   clear r he hb
   generalize (wa1.heap.size,wb1.heap.size)::iv=iv1 at*
   conv=>whnf
   clear hld
   refine BrS.mk (fun hb0=>?_) (fun hb0=>?_)
   ·conv=>whnf
    intro ρe we re
    exact⟨_,rfl,hw.tr re.bel,⟨false,rfl,fun h=>by cases h⟩⟩
   have hb1:=of_decide_eq_true (show decide (∀k∈ks,k.1.2.2.1≤3∧k.2.2.2.1≤3)=true by simpa using hb0)
   conv=>whnf
   refine⟨((i+1:Nat):Int),by rw[wrap64]<;>omega,?_⟩
   conv=>whnf
   intro ρ3 w3 r3
   refine⟨(i+1,w3,_),⟨by dsimp only;omega,hw.tr r3.bel,fun j r u hj k1 k2=>?_⟩,Sub.gen [] r3 trivial ⟨rfl,rfl,trivial⟩ (by simp[ScH]) (by simp[ScE,SV.sc,At.sc]) (by rfl) (fun lo hi h=>h),by dsimp only;omega⟩
   rcases Nat.lt_or_ge j i with hj2|hj2
   ·exact ht j r u hj2 k1 k2
   ·obtain rfl:j=i:=by dsimp only at hj;omega
    rw[hr0]at k1
    rw[hu]at k2
    injection k1 with k1
    injection k2 with k2
    subst k1 k2
    exact⟨by unfold Sized;omega,hbr hb1⟩
  have hib:i=M.length:=by
   have:¬i<M.length:=by simpa using hib
   omega
  subst hib
  conv=>whnf
  have hgood:SmallM w S (.slice a M.length c) M:=by
   refine⟨by unfold Sized;omega,fun r hr=>?_,⟨rv,?_,by rw[hl];simp[valsM],fun j u q k1 k2=>?_⟩,fun r hr q hq=>?_,fun r hr=>?_⟩
   ·obtain⟨j,hj,rfl⟩:=List.mem_iff_getElem.1 hr
    exact(ht j _ _ hj (List.getElem?_eq_getElem hj) (List.getElem?_eq_getElem (by rw[hl];exact hj))).1
   ·rw[show (valsM M).length=M.length by simp[valsM]]
    exact⟨by unfold maxLen;omega,hl0,h1,a,c,rfl,hc,hcell⟩
   ·rw[valsM,List.getElem?_map]at k2
    obtain⟨x,hx,rfl⟩:=Option.map_eq_some_iff.1 k2
    exact(ht j x u (List.getElem?_eq_some_iff.1 hx).1 hx k1).2.1
   ·rw[valsM]at hr
    obtain⟨x,hx,rfl⟩:=List.mem_map.1 hr
    obtain⟨j,hj,rfl⟩:=List.mem_iff_getElem.1 hx
    exact(ht j _ _ hj (List.getElem?_eq_getElem hj) (List.getElem?_eq_getElem (by rw[hl];exact hj))).2.2.1 q hq
   ·obtain⟨j,hj,rfl⟩:=List.mem_iff_getElem.1 hr
    exact(ht j _ _ hj (List.getElem?_eq_getElem hj) (List.getElem?_eq_getElem (by rw[hl];exact hj))).2.2.2
  intro ρe we re
  exact⟨_,rfl,hw.tr re.bel,⟨true,rfl,fun _=>hgood⟩⟩
 have h5:=of_decide_eq_false h5
 conv=>whnf
 refine BrS.mk (fun h65=>?_) (fun h65=>?_)
 ·have h65:=of_decide_eq_true h65
  conv=>whnf
  intro ρe we re
  exact⟨_,rfl,hw.tr re.bel,⟨false,rfl,fun h=>by cases h⟩⟩
 have h65:=of_decide_eq_false h65
 conv=>whnf
 refine⟨Nat×World×Iv,fun z=>⟨[(0,.o (.v (.slice a M.length c))),(3,.o (.v (.int .i64 ((z.1:Nat):Int))))],[],0,z.2.2,z.2.1⟩,fun z=>M.length-z.1,
  fun z=>z.1≤M.length∧Bel w.heap.size w z.2.1∧∀(j:Nat) r u,j<z.1→M[j]? =some r→rv[j]? =some u→Sized r.length∧RatsL w S u (r.map ratioP)∧(∀q∈r.map ratioP,rl q≤3)∧Few r,?_,?_⟩
 ·intro ρ w' r
  exact⟨(0,w',[]),⟨by simp,hw.tr r.bel,fun j r u hj=>by dsimp only at hj;omega⟩,Sub.gen [] r trivial ⟨rfl,rfl,trivial⟩ (by simp[ScH]) (by simp[ScE,SV.sc,At.sc]) (by rfl) (by simp)⟩
 clear hw
 rintro⟨i,w1,iv⟩ ⟨hi,hw,ht⟩
 dsimp only at hi hw ht ⊢
 conv=>whnf
 refine BrS.mk (fun hib=>?_) (fun hib=>?_)
 ·have hib:i<M.length:=by simpa using hib
  obtain⟨r0,hr0⟩:∃r,M[i]? =some r:=⟨_,List.getElem?_eq_getElem hib⟩
  obtain⟨u,hu⟩:∃u,rv[i]? =some u:=⟨_,List.getElem?_eq_getElem (by omega)⟩
  have hR:=hrow i u r0 hu hr0
  obtain⟨ad,ha0,q1,q2⟩:=hcell i u hu
  obtain⟨au,cu,rfl,hcu,-⟩:=ListR.shape hR
  have hld:∀{H nx iv ρ w'},Rel H nx iv w.heap.size w1 ρ w'→w'.cell? (ad.add ((i:Int).toNat*1))=some (.slice au r0.length cu):=fun r=>by
   rw[Int.toNat_natCast,Nat.mul_one];exact cellS hS hw r q1 q2
  conv=>whnf
  refine⟨ad,ha0,⟨by omega,by omega⟩,?_⟩
  conv=>whnf
  refine⟨.slice au r0.length cu,fun ρ w' r=>hld r,?_⟩
  conv=>whnf
  refine BrS.mk (fun h5=>?_) (fun h5=>?_)
  ·have h5:=of_decide_eq_true h5
   conv=>whnf
   refine⟨ad,ha0,⟨by omega,by omega⟩,?_⟩
   conv=>whnf
   refine⟨.slice au r0.length cu,fun ρ w' r=>hld r,?_⟩
   conv=>whnf
   refine BrS.mk (fun h60=>?_) (fun h60=>?_)
   ·have h60:=of_decide_eq_true h60
    conv=>whnf
    intro ρe we re
    exact⟨_,rfl,hw.tr re.bel,⟨false,rfl,fun h=>by cases h⟩⟩
   have h60:=of_decide_eq_false h60
   conv=>whnf
   refine⟨ad,ha0,⟨by omega,by omega⟩,?_⟩
   conv=>whnf
   refine⟨.slice au r0.length cu,fun ρ w' r=>hld r,?_⟩
   conv=>whnf
   refine BrS.mk (fun h65=>?_) (fun h65=>?_)
   ·have h65:=of_decide_eq_true h65
    conv=>whnf
    intro ρe we re
    exact⟨_,rfl,hw.tr re.bel,⟨false,rfl,fun h=>by cases h⟩⟩
   have h65:=of_decide_eq_false h65
   conv=>whnf
   refine⟨ad,ha0,⟨by omega,by omega⟩,?_⟩
   conv=>whnf
   refine⟨.slice au r0.length cu,fun ρ w' r=>hld r,?_⟩
   conv=>whnf
   obtain⟨ks,hks,hbr⟩:=RatsR.brief hR
   refine callE_S (callE_con (Φ:=fun _ w' v w2=>v= .bool (decide (∀k∈ks,k.1.2.2.1≤3∧k.2.2.2.1≤3))) (fun ρ w' r=>brief_c (fun g hg=>by have:=hS g hg;have:=r.baseLe;omega) (hks.keep fun g hg=>(hw.tr r.bel).block g (hS g hg))) ?_)
   rintro ρ wa1 v1 wb1 r he hb rfl
   replace hw:=hw.tr hb
   clear r he hb
   generalize (wa1.heap.size,wb1.heap.size)::iv=iv1 at*
   conv=>whnf
   clear hld
   refine BrS.mk (fun hb0=>?_) (fun hb0=>?_)
   ·conv=>whnf
    intro ρe we re
    exact⟨_,rfl,hw.tr re.bel,⟨false,rfl,fun h=>by cases h⟩⟩
   have hb1:=of_decide_eq_true (show decide (∀k∈ks,k.1.2.2.1≤3∧k.2.2.2.1≤3)=true by simpa using hb0)
   conv=>whnf
   refine⟨((i+1:Nat):Int),by rw[wrap64]<;>omega,?_⟩
   conv=>whnf
   intro ρ3 w3 r3
   refine⟨(i+1,w3,_),⟨by dsimp only;omega,hw.tr r3.bel,fun j r u hj k1 k2=>?_⟩,Sub.gen [] r3 trivial ⟨rfl,rfl,trivial⟩ (by simp[ScH]) (by simp[ScE,SV.sc,At.sc]) (by rfl) (fun lo hi h=>h),by dsimp only;omega⟩
   rcases Nat.lt_or_ge j i with hj2|hj2
   ·exact ht j r u hj2 k1 k2
   ·obtain rfl:j=i:=by dsimp only at hj;omega
    rw[hr0]at k1
    rw[hu]at k2
    injection k1 with k1
    injection k2 with k2
    subst k1 k2
    exact⟨by unfold Sized;omega,hbr hb1⟩
  have h5:=of_decide_eq_false h5
  conv=>whnf
  refine⟨ad,ha0,⟨by omega,by omega⟩,?_⟩
  conv=>whnf
  refine⟨.slice au r0.length cu,fun ρ w' r=>hld r,?_⟩
  conv=>whnf
  refine BrS.mk (fun h65=>?_) (fun h65=>?_)
  ·have h65:=of_decide_eq_true h65
   conv=>whnf
   intro ρe we re
   exact⟨_,rfl,hw.tr re.bel,⟨false,rfl,fun h=>by cases h⟩⟩
  have h65:=of_decide_eq_false h65
  conv=>whnf
  refine⟨ad,ha0,⟨by omega,by omega⟩,?_⟩
  conv=>whnf
  refine⟨.slice au r0.length cu,fun ρ w' r=>hld r,?_⟩
  conv=>whnf
  obtain⟨ks,hks,hbr⟩:=RatsR.brief hR
  refine callE_S (callE_con (Φ:=fun _ w' v w2=>v= .bool (decide (∀k∈ks,k.1.2.2.1≤3∧k.2.2.2.1≤3))) (fun ρ w' r=>brief_c (fun g hg=>by have:=hS g hg;have:=r.baseLe;omega) (hks.keep fun g hg=>(hw.tr r.bel).block g (hS g hg))) ?_)
  rintro ρ wa1 v1 wb1 r he hb rfl
  replace hw:=hw.tr hb
  clear r he hb
  generalize (wa1.heap.size,wb1.heap.size)::iv=iv1 at*
  conv=>whnf
  clear hld
  refine BrS.mk (fun hb0=>?_) (fun hb0=>?_)
  ·conv=>whnf
   intro ρe we re
   exact⟨_,rfl,hw.tr re.bel,⟨false,rfl,fun h=>by cases h⟩⟩
  have hb1:=of_decide_eq_true (show decide (∀k∈ks,k.1.2.2.1≤3∧k.2.2.2.1≤3)=true by simpa using hb0)
  conv=>whnf
  refine⟨((i+1:Nat):Int),by rw[wrap64]<;>omega,?_⟩
  conv=>whnf
  intro ρ3 w3 r3
  refine⟨(i+1,w3,_),⟨by dsimp only;omega,hw.tr r3.bel,fun j r u hj k1 k2=>?_⟩,Sub.gen [] r3 trivial ⟨rfl,rfl,trivial⟩ (by simp[ScH]) (by simp[ScE,SV.sc,At.sc]) (by rfl) (fun lo hi h=>h),by dsimp only;omega⟩
  rcases Nat.lt_or_ge j i with hj2|hj2
  ·exact ht j r u hj2 k1 k2
  ·obtain rfl:j=i:=by dsimp only at hj;omega
   rw[hr0]at k1
   rw[hu]at k2
   injection k1 with k1
   injection k2 with k2
   subst k1 k2
   exact⟨by unfold Sized;omega,hbr hb1⟩
 have hib:i=M.length:=by
  have:¬i<M.length:=by simpa using hib
  omega
 subst hib
 conv=>whnf
 have hgood:SmallM w S (.slice a M.length c) M:=by
  refine⟨by unfold Sized;omega,fun r hr=>?_,⟨rv,?_,by rw[hl];simp[valsM],fun j u q k1 k2=>?_⟩,fun r hr q hq=>?_,fun r hr=>?_⟩
  ·obtain⟨j,hj,rfl⟩:=List.mem_iff_getElem.1 hr
   exact(ht j _ _ hj (List.getElem?_eq_getElem hj) (List.getElem?_eq_getElem (by rw[hl];exact hj))).1
  ·rw[show (valsM M).length=M.length by simp[valsM]]
   exact⟨by unfold maxLen;omega,hl0,h1,a,c,rfl,hc,hcell⟩
  ·rw[valsM,List.getElem?_map]at k2
   obtain⟨x,hx,rfl⟩:=Option.map_eq_some_iff.1 k2
   exact(ht j x u (List.getElem?_eq_some_iff.1 hx).1 hx k1).2.1
  ·rw[valsM]at hr
   obtain⟨x,hx,rfl⟩:=List.mem_map.1 hr
   obtain⟨j,hj,rfl⟩:=List.mem_iff_getElem.1 hx
   exact(ht j _ _ hj (List.getElem?_eq_getElem hj) (List.getElem?_eq_getElem (by rw[hl];exact hj))).2.2.1 q hq
  ·obtain⟨j,hj,rfl⟩:=List.mem_iff_getElem.1 hr
   exact(ht j _ _ hj (List.getElem?_eq_getElem hj) (List.getElem?_eq_getElem (by rw[hl];exact hj))).2.2.2
 intro ρe we re
 exact⟨_,rfl,hw.tr re.bel,⟨true,rfl,fun _=>hgood⟩⟩
end Go.Ex

/- Plus of the reference. Printed by program. No condition but sizes. -/
namespace Go.Ex
open Go Go.Sx Go.Proofs

section
variable{S S':Nat→Prop}{H:Hp}{nx:Nat}{iv iv':Iv}{B:Nat}{w w' w2:World}{ρ:Nat→Sx.Val}{css:List (List Value)}{qs:List Rat}
end
end Go.Ex

/- Elimination: steps of the reference. Plain. -/
namespace Go.Ex
end Go.Ex

/- Echelon of the reference. Printed by program. No condition but sizes. -/
namespace Go.Ex
open Go Go.Sx Go.Proofs

/-- rows of a matrix of one's own -/
def RowsV(w:World)(S:Nat→Prop)(rv:List Value)(M:List (List Rat)):Prop:=rv.length=M.length∧(∀u∈rv,u.oneCell'=true)∧∀(i:Nat) u r,rv[i]? =some u→M[i]? =some r→RatsL w S u r
section
variable{S S':Nat→Prop}{H:Hp}{nx:Nat}{iv iv':Iv}{B:Nat}{w w' w2:World}{ρ:Nat→Sx.Val}{rv:List Value}{M:List (List Rat)}
theorem RowsV.rel(h:RowsV w (Cv S B iv) rv M)(r:Rel H nx iv B w ρ w')(hS:∀g,S g→g<B):RowsV w' (Cv S B iv) rv M:=⟨h.1,h.2.1,fun i u x h1 h2=>RatsL.rel (h.2.2 i u x h1 h2) r hS⟩
end
end Go.Ex

/- Columns and CheckMatrix of the reference; Rank and Kernel of package exact. Printed by program. No condition but sizes. -/
namespace Go.Ex
open Go Go.Sx Go.Proofs

theorem rColumns_c{S:Nat→Prop}{w:World}{v:Value}{M:List (List (Int×Int))}(hS:Old S w)(h:RatMR w S v M):Con PG N.ref01_Columns #[v] w (Ret w fun v' _=>v'= .int .i64 (colsM M)):=by
 have hn:=h
 obtain⟨a,c,rfl,hc,hm⟩:=SlicesR.shape h
 refine in_ref01_Columns (by simp) ?_
 cases M with
 |nil=>
  conv=>whnf
  intro ρe we re
  exact⟨_,rfl,re.bel,rfl⟩
 |cons r t=>
  obtain⟨ad,u,rfl,hu,h1,h2⟩:=SlicesR.load h (j:=0) (x:=r) rfl
  obtain⟨a2,c2,rfl⟩:=SlicesR.rowShape hu
  conv=>whnf
  refine⟨ad,rfl,⟨by omega,by simp⟩,?_⟩
  conv=>whnf
  refine⟨.slice a2 r.length c2,fun ρ w' r'=>by simpa using cellS hS Bel.refl r' h1 (by simpa using h2),?_⟩
  conv=>whnf
  intro ρe we re
  exact⟨_,rfl,re.bel,rfl⟩
theorem colsM_get{α:Type}{M:List (List α)}{r:List α}(h:M[0]? =some r):colsM M=r.length:=by
 cases M with
 |nil=>cases h
 |cons x t=>injection h with h;rw[←h];rfl
theorem rCheckMatrix_c{S:Nat→Prop}{w:World}{v:Value}{M:List (List (Int×Int))}(hS:Old S w)(h:RatMR w S v M):Con PG N.ref01_CheckMatrix #[v] w (Ret w fun v' _=>v'= .int .i64 (errM M)):=by
 have hw:Bel w.heap.size w w:=Bel.refl
 obtain⟨a,c,rfl,hc,hm⟩:=SlicesR.shape h
 unfold maxLen at hm
 refine in_ref01_CheckMatrix (by simp) ?_
 conv=>whnf
 refine⟨Nat×World,fun z=>⟨[(0,.o (.v (.slice a M.length c))),(3,.o (.v (.int .i64 ((z.1:Nat):Int))))],[],0,[],z.2⟩,fun z=>M.length-z.1,
  fun z=>z.1≤M.length∧Bel w.heap.size w z.2∧∀(j:Nat) r,j<z.1→M[j]? =some r→r.length=colsM M,?_,?_⟩
 ·intro ρ w' r
  exact⟨(0,w'),⟨by simp,r.bel,fun j r hj=>by dsimp only at hj;omega⟩,Sub.gen [] r trivial ⟨rfl,rfl,trivial⟩ (by simp[ScH]) (by simp[ScE,SV.sc,At.sc]) (by rfl) (by simp)⟩
 clear hw
 rintro⟨i,w1⟩ ⟨hi,hw,hrow⟩
 dsimp only at hi hw hrow ⊢
 conv=>whnf
 refine BrS.mk (fun hib=>?_) (fun hib=>?_)
 ·have hib:i<M.length:=by simpa using hib
  obtain⟨r,hr⟩:∃r,M[i]? =some r:=⟨_,List.getElem?_eq_getElem hib⟩
  obtain⟨r0,hr0⟩:∃r,M[0]? =some r:=⟨_,List.getElem?_eq_getElem (by omega)⟩
  have hc0:=colsM_get hr0
  obtain⟨ad,u,ha,hu,h1,h2⟩:=SlicesR.load h hr
  obtain⟨ad2,u2,ha2,hu2,h3,h4⟩:=SlicesR.load h hr0
  obtain⟨a2,c2,rfl⟩:=SlicesR.rowShape hu
  obtain⟨a3,c3,rfl⟩:=SlicesR.rowShape hu2
  conv=>whnf
  refine drawn_of_pi hτ hmix [.x 0,.x 1,.x 2,.x 3,.x 4,.x 5,.x 6,.x 7,.x 8,.x 9] (by kernel_rfl) (by kernel_rfl) ?_
  conv=>whnf
  refine⟨ad,ha,⟨by omega,by omega⟩,?_⟩
  conv=>whnf
  refine⟨.slice a2 r.length c2,fun ρ w' r'=>by rw[Int.toNat_natCast];exact cellS hS hw r' h1 h2,?_⟩
  conv=>whnf
  refine⟨ad2,ha2,⟨by omega,by omega⟩,?_⟩
  conv=>whnf
  refine⟨.slice a3 r0.length c3,fun ρ w' r'=>cellS hS hw r' h3 h4,?_⟩
  conv=>whnf
  refine BrS.mk (fun hne=>?_) (fun hne=>?_)
  ·have hne:r.length≠colsM M:=fun e=>by rw[hc0]at e;rw[e]at hne;simp at hne
   conv=>whnf
   intro ρe we re
   exact⟨_,rfl,hw.tr re.bel,by rw[errM,if_neg (fun hall=>hne (hall r (List.mem_of_getElem? hr)))];rfl⟩
  have heq:r.length=colsM M:=by
   have h5:((r.length:Int)==(r0.length:Int))=true:=by simpa using hne
   have:=eq_of_beq h5
   omega
  conv=>whnf
  refine⟨((i+1:Nat):Int),by rw[wrap64]<;>omega,?_⟩
  conv=>whnf
  intro ρ3 w3 r3
  refine⟨(i+1,w3),⟨hib,hw.tr r3.bel,fun j r' hj hr'=>?_⟩,Sub.gen [] r3 trivial ⟨rfl,rfl,trivial⟩ (by simp[ScH]) (by simp[ScE,SV.sc,At.sc]) (by rfl) (fun lo hi h=>h),by dsimp only;omega⟩
  by_cases hji:j=i
  ·subst hji;rw[hr]at hr';injection hr' with hr';rw[←hr'];exact heq
  ·exact hrow j r' (by dsimp only at hj;omega) hr'
 have hib:i=M.length:=Nat.le_antisymm hi (by simpa using hib)
 have hall:∀r∈M,r.length=colsM M:=fun r hr=>by
  obtain⟨j,hj⟩:=List.getElem?_of_mem hr
  exact hrow j r (by rw[hib];exact(List.getElem?_eq_some_iff.1 hj).1) hj
 have herr:errM M=if 60<M.length∨60<colsM M then 8 else 0:=by rw[errM,if_pos hall]
 replace h:=RatMR.keep h fun g hg=>hw.block g (hS g hg)
 replace h:=RatMR.weak (S':=Cv S w.heap.size []) h fun _ h=>.inl h
 conv=>whnf
 refine BrS.mk (fun h1=>?_) (fun h1=>?_)
 ·have h1:60<M.length:=by have:=of_decide_eq_true h1;omega
  conv=>whnf
  intro ρe we re
  exact⟨_,rfl,hw.tr re.bel,by rw[herr,if_pos (.inl h1)];rfl⟩
 have h1:¬60<M.length:=by have:=of_decide_eq_false h1;omega
 conv=>whnf
 refine callE_S (callE_con (Φ:=fun _ _ v _=>v= .int .i64 (colsM M)) (fun ρ w' r=>rColumns_c (Rel.old r hS) (RatMR.rel h r hS)) ?_)
 rintro ρ wa v1 wb r' he hb rfl
 replace hw:=hw.tr hb
 clear r' he hb h
 conv=>whnf
 refine BrS.mk (fun h2=>?_) (fun h2=>?_)
 ·have h2:60<colsM M:=by have:=of_decide_eq_true h2;omega
  conv=>whnf
  intro ρe we re
  exact⟨_,rfl,hw.tr re.bel,by rw[herr,if_pos (.inr h2)];rfl⟩
 have h2:¬60<colsM M:=by have:=of_decide_eq_false h2;omega
 conv=>whnf
 intro ρe we re
 exact⟨_,rfl,hw.tr re.bel,by rw[herr,if_neg (by omega)];rfl⟩
theorem errM_zero{M:List (List (Int×Int))}(h:errM M=0):(∀r∈M,r.length=colsM M)∧M.length≤60∧colsM M≤60:=by
 unfold errM at h
 split at h
 ·split at h
  ·cases h
  ·exact⟨‹_›,by omega,by omega⟩
 ·cases h
end Go.Ex

/- Rows of api fractions in normal form that are held raw, and written. No condition but sizes. -/
namespace Go.Ex
open Go Go.Sx Go.Proofs

theorem Rat4C.len{S:Nat→Prop}{w:World}{cs:List Value}{q:Rat}(h:Rat4C w S cs q):cs.length=4:=by obtain⟨_,_,_,_,_,_,_,_,rfl,_⟩:=h;rfl
def Fc(w:World)(S:Nat→Prop)(css:List (List Value))(qs:List Rat):Prop:=css.length=qs.length∧∀(j:Nat) cs q,css[j]? =some cs→qs[j]? =some q→Rat4C w S cs q
section
variable{S S':Nat→Prop}{w w2:World}{cs:List Value}{css:List (List Value)}{q:Rat}{qs:List Rat}
theorem Fc.keep(h:Fc w S css qs)(hk:∀g,S g→w2.heap[g]? =w.heap[g]?):Fc w2 S css qs:=⟨h.1,fun j cs q h1 h2=>(h.2 j cs q h1 h2).keep hk⟩
theorem Fc.weak(h:Fc w S css qs)(hk:∀g,S g→S' g):Fc w S' css qs:=⟨h.1,fun j cs q h1 h2=>(h.2 j cs q h1 h2).weak hk⟩
theorem Fc.len4(h:Fc w S css qs):∀cs∈css,cs.length=4:=fun cs hc=>by
 obtain⟨j,hj⟩:=List.getElem?_of_mem hc
 have hl:=(List.getElem?_eq_some_iff.1 hj).1
 exact(h.2 j cs _ hj (List.getElem?_eq_getElem (by rw[←h.1];exact hl))).len
theorem Fc.one(h:Fc w S css qs):∀u∈css.flatten,u.oneCell'=true:=fun u hu=>by
 obtain⟨cs,hc,hu⟩:=List.mem_flatten.1 hu
 obtain⟨j,hj⟩:=List.getElem?_of_mem hc
 have hl:=(List.getElem?_eq_some_iff.1 hj).1
 obtain⟨_,_,_,_,_,_,_,_,rfl,_⟩:=h.2 j cs _ hj (List.getElem?_eq_getElem (by rw[←h.1];exact hl))
 simp at hu
 rcases hu with rfl|rfl|rfl|rfl<;>rfl
end
section
variable{C C' S S':Nat→Prop}{H:Hp}{nx:Nat}{iv iv':Iv}{B:Nat}{w w' w2:World}{ρ:Nat→Sx.Val}{v:Value}{qs:List Rat}
end
/-- a row that may be written: its limbs lie in S -/
def RowWc(w:World)(S:Nat→Prop)(v:Value)(n:Nat)(qs:List Rat):Prop:=∃css,w.ownsRow 0 T.Rat 4 v n css.flatten∧css.length=n∧Fc w S css qs
section
variable{S S' C:Nat→Prop}{H:Hp}{nx n:Nat}{iv iv':Iv}{B:Nat}{w w' w2:World}{ρ:Nat→Sx.Val}{v:Value}{qs:List Rat}
/-- a row of a call's own making, which the caller may write: its block is new, its limbs lie elsewhere -/
structure RowXc(w:World)(S:Nat→Prop)(B:Nat)(iv:Iv)(v:Value)(n:Nat)(qs:List Rat):Prop where
 row:RowWc w (fun g=>Cv S B iv g∧v.ownBlock≠some g) v n qs
 new:∀g,v.ownBlock=some g→Cv (fun _=>False) B iv g
end
section
variable{S S':Nat→Prop}{H:Hp}{nx n:Nat}{iv iv':Iv}{B:Nat}{w w' w2:World}{ρ:Nat→Sx.Val}{v:Value}{qs:List Rat}
end
end Go.Ex
namespace Go.Sx
open Go Go.Ex Go.Proofs
/-- an array of one's own, given up at a loop: it is held raw there -/
theorem Sub.give{B:Nat}{l tl:Env}{nx:Nat}{H tH:Hp}{iv:Iv}{w w':World}{ρ:Nat→Sx.Val}{id t n c:Nat}{e:TypeId}{cs:List Value}(r:Rel H nx iv B w ρ w')(hid:getH H id=some (.arr e cs))(ht:getE l t=some (.o (.s id 0 n c)))
  (hs:SubH H tH) (ho:okH id tH=true) (h1:SubE l tl) (h2:ScE nx tl):
  Sub B l nx ρ w' ⟨(t,.o (.v (.slice (some ⟨(ρ id).g,0,none⟩) n c)))::tl,tH,nx,((ρ id).g,(ρ id).g+1)::iv,w'⟩:=by
 refine⟨ρ,r.free hid (by simp) (r.fits hid).1 hs ho,fun u v hv=>?_⟩
 rw[getE_cons]at hv
 split at hv
 ·rename_i e
  subst e
  injection hv with hv
  subst hv
  exact⟨trivial,_,ht,rfl⟩
 ·exact⟨h2.get u v hv,v,h1.get u v hv,rfl⟩
end Go.Sx
namespace Go.Ex
open Go Go.Sx Go.Proofs
end Go.Ex

/- has, Rank and Kernel of the reference. Printed by program. No condition but sizes. -/
namespace Go.Ex
open Go Go.Sx Go.Proofs

section
variable{S S':Nat→Prop}{H:Hp}{nx:Nat}{iv iv':Iv}{B:Nat}{w w' w2:World}{ρ:Nat→Sx.Val}{rv:List Value}{K:List (List Rat)}
end
end Go.Ex

/- The pivots of an elimination. Plain. -/
namespace Go.Ex
end Go.Ex

/- ExactRanks of the laws of chapter 1. Printed by program. No condition. -/
namespace Go.Ex
open Go Go.Sx Go.Proofs

theorem SmallM.keep{S:Nat→Prop}{w w2:World}{v:Value}{M:List (List (Int×Int))}(h:SmallM w S v M)(hk:∀g,S g→w2.heap[g]? =w.heap[g]?):SmallM w2 S v M:=⟨h.1,h.2.1,RatML.keep h.2.2.1 hk,h.2.2.2⟩
section
variable{S S':Nat→Prop}{H:Hp}{nx:Nat}{iv iv':Iv}{B:Nat}{w w' w2:World}{ρ:Nat→Sx.Val}{v:Value}{M:List (List (Int×Int))}
end
/-- sizes of a matrix that the laws are told for -/
theorem SmallM.sizes{S:Nat→Prop}{w:World}{v:Value}{M:List (List (Int×Int))}(h:SmallM w S v M)(he:errM M=0):
  (∀r∈M,r.length=colsM M)∧M.length≤5∧colsM M≤5∧Ht (valsM M) 4∧4^(valsM M).length*4≤4096:=by
 obtain⟨h1,h2,h3⟩:=errM_zero he
 have h4:M.length≤5:=by have:=h.1;unfold Sized at this;omega
 refine⟨h1,h4,?_,fun r hr q hq=>?_,?_⟩
 ·cases M with
  |nil=>exact Nat.zero_le _
  |cons r t=>
   have:=h.2.1 r List.mem_cons_self
   have h5:colsM (r::t)=r.length:=rfl
   unfold Sized at this
   omega
 ·have:=h.2.2.2.1 r hr q hq
  omega
 ·have h5:(valsM M).length≤5:=by simp[valsM];exact h4
  exact Nat.le_trans (Nat.mul_le_mul_right 4 (Nat.pow_le_pow_right (by decide) h5)) (by decide)
end Go.Ex

/- Rows of package exact: same, nought, dot. Printed by program. No condition but sizes. -/
namespace Go.Ex
open Go Go.Sx Go.Proofs

theorem rat_back81(x y:Rat):x-y+y=x:=by rw[Rat.sub_eq_add_neg,Rat.add_assoc,Rat.neg_add_cancel,Rat.add_zero]
theorem sub_zero_iff(p q:Rat):p-q=0↔p=q:=by
 constructor
 ·intro h
  have:=congrArg (· +q) h
  simpa [rat_back81,Rat.zero_add]using this
 ·intro h;rw[h,Rat.sub_self]
theorem rs_eq{p q:Rat}:rs (p-q)=0↔p=q:=by rw[rs_zero,sub_zero_iff]
def fnV(g:Nat):Value:=.func (.func g) #[] #[]
end Go.Ex

/- Rows of package exact: EqualFunc of rows, nought, dot. Printed by program. No condition but sizes. -/
namespace Go.Ex
open Go Go.Sx Go.Proofs

end Go.Ex

/- through of package exact: the sums of the rows' multiples. Printed by program. No condition but sizes. -/
namespace Go.Ex
open Go Go.Sx Go.Proofs

end Go.Ex

/- Package exact: a matrix with rows of any lengths, and CheckSolution. Printed by program. No condition but sizes. -/
namespace Go.Ex
open Go Go.Sx Go.Proofs

def RowG(w:World)(S:Nat→Prop)(v:Value)(qs:List Rat):Prop:=RowR w S S v qs
def MatG(w:World)(S:Nat→Prop)(v:Value)(M:List (List Rat)):Prop:=MatR w S v M
theorem RowG.keep{S:Nat→Prop}{w w2:World}{v:Value}{qs:List Rat}(h:RowG w S v qs)(hk:∀g,S g→w2.heap[g]? =w.heap[g]?):RowG w2 S v qs:=RowR.keep h fun g hg=>hk g (hg.elim id id)
theorem RowG.weak{S S':Nat→Prop}{w:World}{v:Value}{qs:List Rat}(h:RowG w S v qs)(hk:∀g,S g→S' g):RowG w S' v qs:=RowR.weak h hk hk
theorem RowG.shape{S:Nat→Prop}{w:World}{v:Value}{qs:List Rat}(h:RowG w S v qs):∃a c,v= .slice a qs.length c:=by
 obtain⟨a,c,h,_⟩:=RowR.shape h
 exact⟨a,c,h⟩
theorem MatG.keep{S:Nat→Prop}{w w2:World}{v:Value}{M:List (List Rat)}(h:MatG w S v M)(hk:∀g,S g→w2.heap[g]? =w.heap[g]?):MatG w2 S v M:=MatR.keep h hk
theorem MatG.weak{S S':Nat→Prop}{w:World}{v:Value}{M:List (List Rat)}(h:MatG w S v M)(hk:∀g,S g→S' g):MatG w S' v M:=MatR.weak h hk
theorem MatG.shape{S:Nat→Prop}{w:World}{v:Value}{M:List (List Rat)}(h:MatG w S v M):∃a c,v= .slice a M.length c:=by
 obtain⟨a,c,h,_⟩:=SlicesR.shape (show MatR w S v M from h)
 exact⟨a,c,h⟩
/-- rows written so far -/
def RowsG(w:World)(S:Nat→Prop)(rv:List Value)(K:List (List Rat)):Prop:=∀(i:Nat) u r,rv[i]? =some u→K[i]? =some r→RowG w S u r
theorem RowsG.keep{S:Nat→Prop}{w w2:World}{v:List Value}{M:List (List Rat)}(h:RowsG w S v M)(hk:∀g,S g→w2.heap[g]? =w.heap[g]?):RowsG w2 S v M:=fun i u x h1 h2=>(h i u x h1 h2).keep hk
theorem RowsG.weak{S S':Nat→Prop}{w:World}{v:List Value}{M:List (List Rat)}(h:RowsG w S v M)(hk:∀g,S g→S' g):RowsG w S' v M:=fun i u x h1 h2=>(h i u x h1 h2).weak hk
section
variable{S S':Nat→Prop}{H:Hp}{nx:Nat}{iv iv':Iv}{B:Nat}{w w' w2:World}{ρ:Nat→Sx.Val}{v:Value}{qs:List Rat}
theorem RowG.rel(h:RowG w (Cv S B iv) v qs)(r:Rel H nx iv B w ρ w')(hS:∀g,S g→g<B):RowG w' (Cv S B iv) v qs:=h.keep fun _ hg=>Rel.same r hS hg
theorem RowG.got(h:RowG w2 (Nw (fun _=>False) w' w2) v qs)(hB:B≤w'.heap.size)(hm:(w'.heap.size,w2.heap.size)∈iv):RowG w2 (Cv S B iv) v qs:=h.weak fun _ hg=>hg.got hB hm
end
section
variable{S S':Nat→Prop}{H:Hp}{nx:Nat}{iv iv':Iv}{B:Nat}{w w' w2:World}{ρ:Nat→Sx.Val}{v:Value}{M:List (List Rat)}
theorem MatG.rel(h:MatG w (Cv S B iv) v M)(r:Rel H nx iv B w ρ w')(hS:∀g,S g→g<B):MatG w' (Cv S B iv) v M:=h.keep fun _ hg=>Rel.same r hS hg
theorem MatG.past(h:MatG w (Cv S B iv) v M)(r:Rel H nx iv B w ρ w')(hS:∀g,S g→g<B)(he:Ext w' w2)(hm:∀p,p∈iv→p∈iv'):MatG w2 (Cv S B iv') v M:=
 ((h.rel r hS).keep fun g hg=>he.block g (Rel.old r hS g hg)).weak fun _ hg=>hg.mono hm
theorem MatG.got(h:MatG w2 (Nw (fun _=>False) w' w2) v M)(hB:B≤w'.heap.size)(hm:(w'.heap.size,w2.heap.size)∈iv):MatG w2 (Cv S B iv) v M:=h.weak fun _ hg=>hg.got hB hm
end
section
variable{S S':Nat→Prop}{H:Hp}{nx:Nat}{iv iv':Iv}{B:Nat}{w w' w2:World}{ρ:Nat→Sx.Val}{v:List Value}{M:List (List Rat)}
theorem RowsG.rel(h:RowsG w (Cv S B iv) v M)(r:Rel H nx iv B w ρ w')(hS:∀g,S g→g<B):RowsG w' (Cv S B iv) v M:=h.keep fun _ hg=>Rel.same r hS hg
theorem RowsG.past(h:RowsG w (Cv S B iv) v M)(r:Rel H nx iv B w ρ w')(hS:∀g,S g→g<B)(he:Ext w' w2)(hm:∀p,p∈iv→p∈iv'):RowsG w2 (Cv S B iv') v M:=
 ((h.rel r hS).keep fun g hg=>he.block g (Rel.old r hS g hg)).weak fun _ hg=>hg.mono hm
end
theorem matrixG_c{S:Nat→Prop}{w:World}{v:Value}{M:List (List (Int×Int))}(hS:Old S w)(h:RatMR w S v M)(hf:∀r∈M,Few r)(hn:∀r∈M,r.length≤1000000)(hR:M.length≤1000000):
  Con PG N.exact_matrix #[v] w (Ret w fun v' w2=>MatG w2 (Nw (fun _=>False) w w2) v' (valsM M)):=by
 replace h:=RatMR.arg h []
 obtain⟨a,c,rfl,hc,-⟩:=SlicesR.shape h
 refine in_exact_matrix (by simp) ?_
 conv=>whnf
 refine⟨M.length,M.length,rfl,rfl,Nat.le_refl _,by omega,by omega,?_⟩
 conv=>whnf
 refine⟨List Value×Iv×World,fun z=>⟨[(3,.o (.s 0 0 M.length M.length)),(9,.o (.v (.slice a M.length c))),(10,.o (.v (.int .i64 M.length))),(11,.o (.v (.int .i64 z.1.length)))],[(0,.arr T.row (z.1++List.replicate (M.length-z.1.length) (.slice none 0 0)))],1,z.2.1,z.2.2⟩,fun z=>M.length-z.1.length,
  fun z=>z.1.length≤M.length∧Bel w.heap.size w z.2.2∧RatMR z.2.2 (Cv S w.heap.size z.2.1) (.slice a M.length c) M∧RowsG z.2.2 (Cv (fun _=>False) w.heap.size z.2.1) z.1 (valsM M)∧∀u∈z.1,u.oneCell'=true,?_,?_⟩
 ·intro ρ w' r
  exact⟨([],[],w'),⟨by simp,r.bel,RatMR.rel h r hS,fun i u r h=>by simp at h,by simp⟩,Sub.gen [] r ⟨rfl,trivial⟩ ⟨rfl,rfl,rfl,rfl,trivial⟩ (by simp[ScH,Blk.scopd]) (by simp[ScE,SV.sc,At.sc]) (by rfl) (by simp)⟩
 clear h
 rintro⟨rv,iv,w1⟩ ⟨hi,hw,hX,hF,h1c⟩
 dsimp only at hi hw hX hF h1c ⊢
 conv=>whnf
 refine BrS.mk (fun h=>?_) (fun h=>?_)
 ·have h:rv.length<M.length:=by simpa using h
  obtain⟨x,hx⟩:∃x,M[rv.length]? =some x:=⟨_,List.getElem?_eq_getElem h⟩
  obtain⟨ad,u,rfl,hR1,hl1,hl2⟩:=SlicesR.load hX hx
  obtain⟨a2,c2,rfl⟩:=SlicesR.rowShape hR1
  have hxl:=hn x (List.mem_of_getElem? hx)
  conv=>whnf
  refine⟨ad,rfl,⟨by omega,by omega⟩,?_⟩
  conv=>whnf
  refine⟨.slice a2 x.length c2,fun ρ w' r=>?_,?_⟩
  ·have:=Rel.same r hS hl1
   rw[Int.toNat_natCast,cell_of_heap (w:=w1) (w2:=w') (by rw[addB];exact this)]
   exact hl2
  conv=>whnf
  refine callE_S (callE_con (Φ:=fun _ w' v w2=>RowX w2 (fun _=>False) w'.heap.size [(w'.heap.size,w2.heap.size)] v x.length (x.map ratioP)) (fun ρ w' r=>values_c (Rel.old r hS) (RatsR.rel hR1 r hS) (hf x (List.mem_of_getElem? hx)) hxl) ?_)
  rintro ρ wa v1 wb r he hb hO
  have hON:RowG wb (Cv (fun _=>False) w.heap.size ((wa.heap.size,wb.heap.size)::iv)) v1 (x.map ratioP):=(RowX.got (S:=fun _=>False) hO r.baseLe List.mem_cons_self).read
  replace hX:=RatMR.past (iv':=(wa.heap.size,wb.heap.size)::iv) hX r hS he fun x hx=>List.mem_cons_of_mem _ hx
  replace hF:=hF.past (iv':=(wa.heap.size,wb.heap.size)::iv) r (oldF w) he fun x hx=>List.mem_cons_of_mem _ hx
  replace hw:=hw.tr hb
  clear r he hb hO hR1 hl1 hl2
  generalize (wa.heap.size,wb.heap.size)::iv=iv2 at*
  obtain⟨a3,c3,rfl⟩:=hON.shape
  rw[List.length_map]at hON ⊢
  conv=>whnf
  refine⟨⟨by omega,by omega⟩,?_⟩
  conv=>whnf
  refine⟨by simp;omega,(rv++[.slice a3 x.length c3])++List.replicate (M.length-(rv.length+1)) (.slice none 0 0),?_,?_⟩
  ·have h5:M.length-rv.length=(M.length-(rv.length+1))+1:=by omega
   simp[h5,List.replicate_succ]
  conv=>whnf
  refine⟨((rv.length+1:Nat):Int),by rw[wrap64]<;>omega,?_⟩
  conv=>whnf
  intro ρ3 w3 r3
  have hl3:(rv++[Value.slice a3 x.length c3]).length=rv.length+1:=by simp
  refine⟨(rv++[.slice a3 x.length c3],iv2,w3),⟨by dsimp only;rw[hl3];exact h,hw.tr r3.bel,RatMR.rel hX r3 hS,?_,?_⟩,Sub.gen [] r3 ⟨by dsimp only;rw[hl3];rfl,trivial⟩ ⟨rfl,rfl,rfl,by dsimp only;rw[hl3];rfl,trivial⟩ (by simp[ScH,Blk.scopd]) (by simp[ScE,SV.sc,At.sc]) (by rfl) (fun lo hi h=>h),by dsimp only;rw[hl3];omega⟩
  ·intro i u y h1 h2
   refine RowG.rel ?_ r3 (oldF w)
   rcases Nat.lt_or_ge i rv.length with hi2|hi2
   ·rw[List.getElem?_append_left hi2]at h1
    exact hF i u y h1 h2
   ·have hi0:i=rv.length:=by have:=(List.getElem?_eq_some_iff.1 h1).1;simp at this;omega
    subst hi0
    rw[List.getElem?_append_right (Nat.le_refl _),Nat.sub_self]at h1
    simp only[valsM,List.getElem?_map,hx]at h2
    simp at h1 h2
    subst h1 h2
    exact hON
  ·intro u hu
   rcases List.mem_append.1 hu with hu|hu
   ·exact h1c u hu
   ·simp at hu;subst hu;rfl
 ·have h:rv.length=M.length:=by
   have:¬rv.length<M.length:=by simpa using h
   omega
  rw[h,Nat.sub_self,List.replicate_zero,List.append_nil]
  conv=>whnf
  intro ρe we re
  refine⟨_,rfl,hw.tr re.bel,?_⟩
  have hnil:=re.nn 0 _ rfl (by intros;simp) (by simp)
  have hlow:=re.low 0 _ rfl hnil
  have hs:=re.arrSeq (id:=0) (t:=T.row) (n:=M.length) (sz:=1) (cs:=rv) rfl (by omega) (by unfold maxLen;omega) h1c
  have hvl:(valsM M).length=M.length:=by simp[valsM]
  refine⟨rv,?_,by rw[hvl,h],fun i u x h1 h2=>((hF.rel re (oldF w)) i u x h1 h2).weak fun g hg=>Cv.nw hg re⟩
  rw[hvl]
  exact hs.weak fun g hg=>.inr (by subst hg;exact hlow)
theorem run_eql_nilslice(w:World)(t e:TypeId)(a:Option Addr)(n c n' c':Nat)(h:PG.underlying t=some (.slice e)):
  (binOp .eql t (.slice a n c) (.slice none n' c')).run PG w= .ok (.bool a.isNone) w:=by
 have:∀d,(Op.equalIn (d+1) t (.slice a n c) (.slice none n' c')).run PG w= .ok a.isNone w:=fun d=>by cases a<;>simp[Op.equalIn,run_underlying h]
 simp only[binOp]
 cases a<;>simp[Op.equal,Op.maxDepth,this 9999]
end Go.Ex

/- Elimination: prefixes of the columns, sums over a row, rows that are cleared. Plain. -/
namespace Go.Ex
theorem getD_take{r:List Rat}{w c:Nat}(h:c<w):(r.take w).getD c 0=r.getD c 0:=by
 simp only[List.getD,List.getElem?_take,if_pos h]
/-- the first columns -/
def tk(w:Nat)(M:List (List Rat)):List (List Rat):=M.map (·.take w)
theorem tk_length(w:Nat)(M:List (List Rat)):(tk w M).length=M.length:=List.length_map ..
theorem tk_getD(w:Nat)(M:List (List Rat))(i:Nat):(tk w M).getD i []=(M.getD i []).take w:=by
 unfold tk
 simp only[List.getD,List.getElem?_map]
 cases M[i]? <;>simp
theorem at2_tk{M:List (List Rat)}{w i c:Nat}(h:c<w):at2 (tk w M) i c=at2 M i c:=by
 unfold at2;rw[tk_getD,getD_take h]
theorem getD_mem{M:List (List Rat)}{i:Nat}(h:i<M.length):M.getD i []∈M:=by
 rw[List.getD,List.getElem?_eq_getElem h];exact List.getElem_mem h
end Go.Ex
