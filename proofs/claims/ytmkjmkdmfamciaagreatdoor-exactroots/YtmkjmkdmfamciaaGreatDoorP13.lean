/- A part of the proof: texts X63 to X70. Each tells its conditions in its theorems. -/
import Derived.Test.YtmkjmkdmfamciaaGreatDoorP11
import Derived.Test.YtmkjmkdmfamciaaGreatDoorP12
/- The reference's fractions: quick, Normal, Add, Neg, Sub, Mul, SignOf, Quo, Cmp, Floor, Whole, Ratio. Printed by program. No condition but sizes. -/
namespace Go.Ex
open Go Go.Sx Go.Proofs

/-- a fraction of the api by its value; its parts have few limbs -/
def RatL (w : World) (S : Nat → Prop) (v : Value) (q : Rat) : Prop := ∃ b1 l1 b2 l2 a b, v = .agg #[.bool b1, l1, .bool b2, l2] ∧ IntL w S (.agg #[.bool b1, l1]) 100000 a ∧ IntL w S (.agg #[.bool b2, l2]) 100000 b ∧ ratio a b = q
theorem RatL.keep {S : Nat → Prop} {w w2 : World} {v : Value} {q : Rat} (h : RatL w S v q) (hk : ∀ g, S g → w2.heap[g]? = w.heap[g]?) : RatL w2 S v q := by
  obtain ⟨b1, l1, b2, l2, a, b, h1, h2, h3, h4⟩ := h; exact ⟨b1, l1, b2, l2, a, b, h1, h2.keep hk, h3.keep hk, h4⟩
theorem RatL.weak {S S' : Nat → Prop} {w : World} {v : Value} {q : Rat} (h : RatL w S v q) (hk : ∀ g, S g → S' g) : RatL w S' v q := by
  obtain ⟨b1, l1, b2, l2, a, b, h1, h2, h3, h4⟩ := h; exact ⟨b1, l1, b2, l2, a, b, h1, h2.weak hk, h3.weak hk, h4⟩
theorem RatL.r {S : Nat → Prop} {w : World} {v : Value} {q : Rat} (h : RatL w S v q) : ∃ a b, RatR w S v a b ∧ ratio a b = q := by
  obtain ⟨b1, l1, b2, l2, a, b, rfl, h2, h3, h4⟩ := h; exact ⟨a, b, ⟨b1, l1, b2, l2, rfl, h2.r, h3.r⟩, h4⟩
theorem RatL.v {S : Nat → Prop} {w : World} {v : Value} {q : Rat} (h : RatL w S v q) : RatV w S v q := by
  obtain ⟨b1, l1, b2, l2, a, b, rfl, h2, h3, h4⟩ := h; exact ⟨a, b, ⟨b1, l1, b2, l2, rfl, h2.r, h3.r⟩, h4, h2.ln, h3.ln⟩
theorem RatL.shape {S : Nat → Prop} {w : World} {v : Value} {q : Rat} (h : RatL w S v q) : ∃ b a n c b2 a2 n2 c2, v = .agg #[.bool b, .slice a n c, .bool b2, .slice a2 n2 c2] := h.v.shape
theorem RatL.rl {S : Nat → Prop} {w : World} {v : Value} {q : Rat} (h : RatL w S v q) : rl q ≤ 100000 := by
  obtain ⟨b1, l1, b2, l2, a, b, rfl, h2, h3, rfl⟩ := h
  have := rl_ratio a b
  have := h2.ln
  have := h3.ln
  omega
theorem RatC.l {S : Nat → Prop} {w : World} {v : Value} {q : Rat} (h : RatC w S v q) (hl : rl q ≤ 100000) : RatL w S v q := by
  obtain ⟨b1, l1, b2, l2, h1, h2, h3⟩ := h
  exact ⟨b1, l1, b2, l2, _, _, h1, h2.l (Nat.le_trans (rl_num q) hl), h3.l (Nat.le_trans (rl_den' q) hl), ratio_self q⟩
theorem rs_ratio (a b : Int) : rs (ratio a b) = if b.sign < 0 then -a.sign else a.sign := by
  have sb := sign_cases b
  rw [ratio]
  split
  · rw [if_neg (by omega), rs, sign_div (by decide)]
  · split
    · rw [show Rat.divInt a b = Rat.divInt (-a) (-b) from (Rat.neg_divInt_neg a b).symm, rs, sign_div (by omega), Int.sign_neg]
    · rw [rs, sign_div (by omega)]
theorem divInt_sq {a c : Int} : (a.natAbs < 1073741824) → (c.natAbs < 1073741824) → (a * c).natAbs ≤ 1152921502459363329 := fun h1 h2 => by
  rw [Int.natAbs_mul]
  exact Nat.mul_le_mul (show a.natAbs ≤ 1073741823 by omega) (show c.natAbs ≤ 1073741823 by omega)
section
variable {S S' : Nat → Prop} {H : Hp} {nx : Nat} {iv iv' : Iv} {B : Nat} {w w' w2 : World} {ρ : Nat → Sx.Val} {v : Value} {q : Rat}
theorem RatL.rel (h : RatL w (Cv S B iv) v q) (r : Rel H nx iv B w ρ w') (hS : ∀ g, S g → g < B) : RatL w' (Cv S B iv) v q := h.keep fun _ hg => Rel.same r hS hg
theorem RatL.past (h : RatL w (Cv S B iv) v q) (r : Rel H nx iv B w ρ w') (hS : ∀ g, S g → g < B) (he : Ext w' w2) (hm : ∀ p, p ∈ iv → p ∈ iv') : RatL w2 (Cv S B iv') v q :=
  ((h.rel r hS).keep fun g hg => he.block g (Rel.old r hS g hg)).weak fun _ hg => hg.mono hm
theorem RatL.got (h : RatL w2 (Nw (fun _ => False) w' w2) v q) (hB : B ≤ w'.heap.size) (hm : (w'.heap.size, w2.heap.size) ∈ iv) : RatL w2 (Cv S B iv) v q := h.weak fun _ hg => hg.got hB hm
theorem RatL.old (h : RatL w2 (Nw (Cv S B iv) w' w2) v q) (hB : B ≤ w'.heap.size) : RatL w2 (Cv S B ((w'.heap.size, w2.heap.size) :: iv)) v q := h.weak fun _ hg => Nw.cv hg hB
theorem RatL.out {w0 w1 : World} (h : RatL w1 (Cv S w0.heap.size iv) v q) (r : Rel H nx iv w0.heap.size w1 ρ w') (hS : Old S w0) : RatL w' (Nw S w0 w') v q :=
  (h.rel r hS).weak fun _ hg => Cv.nw hg r
theorem RatL.arg (h : RatL w S v q) (iv : Iv) : RatL w (Cv S w.heap.size iv) v q := h.weak fun _ h => .inl h
end

theorem rSignOfR_c {S : Nat → Prop} {w : World} {v : Value} {a b : Int} (hS : Old S w) (hp : RatR w S v a b) :
    Con PG N.ref01_SignOf #[v] w (Ret w fun v' _ => v' = .int .i64 (rs (ratio a b))) := by
  have hw : Bel w.heap.size w w := Bel.refl
  obtain ⟨b1, l1, b2, l2, rfl, ha, hb'⟩ := hp
  obtain ⟨_, a1, n1, c1, e1⟩ := ha.shape
  obtain ⟨_, a2, n2, c2, e2⟩ := hb'.shape
  simp only [Value.agg.injEq, Array.mk.injEq, List.cons.injEq, and_true] at e1 e2
  obtain ⟨_, rfl⟩ := e1
  obtain ⟨_, rfl⟩ := e2
  replace ha := ha.weak (S' := Cv S w.heap.size []) fun _ h => .inl h
  replace hb' := hb'.weak (S' := Cv S w.heap.size []) fun _ h => .inl h
  have hr := rs_ratio a b
  have sa := sign_cases a
  refine in_ref01_SignOf (by simp) ?_
  conv => whnf
  refine callE_S (callE_con (Φ := fun _ w' v w2 => v = .int .i64 b.sign) (fun ρ w' r => rSign_c (Rel.old r hS) (hb'.rel r hS)) ?_)
  rintro ρ wa1 v1 wb1 r he hb rfl
  replace hw := hw.tr hb
  replace ha := ha.past (iv' := (wa1.heap.size, wb1.heap.size) :: []) r hS he fun x hx => List.mem_cons_of_mem _ hx
  clear hb'
  clear r he hb
  generalize (wa1.heap.size, wb1.heap.size) :: [] = iv1 at *
  conv => whnf
  refine BrS.mk (fun h => ?_) (fun h => ?_)
  · have h := of_decide_eq_true h
    rw [if_pos h] at hr
    conv => whnf
    refine callE_S (callE_con (Φ := fun _ w' v w2 => v = .int .i64 a.sign) (fun ρ w' r => rSign_c (Rel.old r hS) (ha.rel r hS)) ?_)
    rintro ρ wa2 v2 wb2 r he hb rfl
    replace hw := hw.tr hb
    clear ha
    clear r he hb
    generalize (wa2.heap.size, wb2.heap.size) :: iv1 = iv2 at *
    conv => whnf
    refine ⟨-a.sign, by rw [wrap64] <;> omega, ?_⟩
    conv => whnf
    intro ρe we re
    exact ⟨_, rfl, hw.tr re.bel, by rw [hr]; rfl⟩
  have h := of_decide_eq_false h
  rw [if_neg h] at hr
  conv => whnf
  refine callE_S (callE_con (Φ := fun _ w' v w2 => v = .int .i64 a.sign) (fun ρ w' r => rSign_c (Rel.old r hS) (ha.rel r hS)) ?_)
  rintro ρ wa2 v2 wb2 r he hb rfl
  replace hw := hw.tr hb
  clear ha
  clear r he hb
  generalize (wa2.heap.size, wb2.heap.size) :: iv1 = iv2 at *
  conv => whnf
  intro ρe we re
  exact ⟨_, rfl, hw.tr re.bel, by rw [hr]; rfl⟩

theorem rSignOf_c {S : Nat → Prop} {w : World} {v : Value} {p : Rat} (hS : Old S w) (hp : RatC w S v p) : Con PG N.ref01_SignOf #[v] w (Ret w fun v' _ => v' = .int .i64 (rs p)) := by
  have := rSignOfR_c hS hp.r
  rw [ratio_self] at this
  exact this
theorem rSignOfL_c {S : Nat → Prop} {w : World} {v : Value} {p : Rat} (hS : Old S w) (hp : RatL w S v p) : Con PG N.ref01_SignOf #[v] w (Ret w fun v' _ => v' = .int .i64 (rs p)) := by
  obtain ⟨a, b, h1, rfl⟩ := hp.r
  exact rSignOfR_c hS h1
theorem rNormal_c {S : Nat → Prop} {w : World} {v : Value} {p : Rat} (hS : Old S w) (hp : RatL w S v p) :
    Con PG N.ref01_Normal #[v] w (Ret w fun v' w2 => RatC w2 (Nw (fun _ => False) w w2) v' p) := by
  have hw : Bel w.heap.size w w := Bel.refl
  obtain ⟨b1, l1, b2, l2, a, b, rfl, ha, hb', rfl⟩ := hp
  obtain ⟨_, a1, n1, c1, e1⟩ := ha.shape
  obtain ⟨_, a2, n2, c2, e2⟩ := hb'.shape
  simp only [Value.agg.injEq, Array.mk.injEq, List.cons.injEq, and_true] at e1 e2
  obtain ⟨_, rfl⟩ := e1
  obtain ⟨_, rfl⟩ := e2
  replace ha := ha.weak (S' := Cv S w.heap.size []) fun _ h => .inl h
  replace hb' := hb'.weak (S' := Cv S w.heap.size []) fun _ h => .inl h
  have sb := sign_cases b
  refine in_ref01_Normal (by simp) ?_
  conv => whnf
  refine callE_S (callE_con (Φ := fun _ w' v w2 => v = .int .i64 b.sign) (fun ρ w' r => rSign_c (Rel.old r hS) (hb'.rel r hS).r) ?_)
  rintro ρ wa1 v1 wb1 r he hb rfl
  replace hw := hw.tr hb
  replace ha := ha.past (iv' := (wa1.heap.size, wb1.heap.size) :: []) r hS he fun x hx => List.mem_cons_of_mem _ hx
  replace hb' := hb'.past (iv' := (wa1.heap.size, wb1.heap.size) :: []) r hS he fun x hx => List.mem_cons_of_mem _ hx
  clear r he hb
  generalize (wa1.heap.size, wb1.heap.size) :: [] = iv1 at *
  conv => whnf
  refine BrS.mk (fun h => ?_) (fun h => ?_)
  · have h : b.sign = 0 := by simpa using h
    obtain rfl : b = 0 := by omega
    rw [show ratio a 0 = Rat.divInt a 1 from if_pos rfl]
    conv => whnf
    refine drawn_of_pi hτ hmix [.x 0, .x 1, .x 2, .x 3, .x 4] (by kernel_rfl) (by kernel_rfl) ?_
    conv => whnf
    refine callE_con (Φ := fun _ w' v w2 => IntC w2 (Nw (fun _ => False) w' w2) v (1)) (fun ρ w' r => rOf_c _ w' (by decide) (by decide)) ?_
    rintro ρ wa2 v2 wb2 r he hb hn
    replace hw := hw.tr hb
    replace ha := ha.past (iv' := (wa2.heap.size, wb2.heap.size) :: iv1) r hS he fun x hx => List.mem_cons_of_mem _ hx
    replace hb' := hb'.past (iv' := (wa2.heap.size, wb2.heap.size) :: iv1) r hS he fun x hx => List.mem_cons_of_mem _ hx
    have h1 := hn.got (S := fun _ => False) r.baseLe (iv := (wa2.heap.size, wb2.heap.size) :: iv1) List.mem_cons_self
    clear r he hb hn
    generalize (wa2.heap.size, wb2.heap.size) :: iv1 = iv2 at *
    obtain ⟨s2_0, s2_1, s2_2, s2_3, rfl⟩ := h1.shape
    conv => whnf
    refine callE_con (Φ := fun _ w' v w2 => RatC w2 (Nw (fun _ => False) w' w2) v (Rat.divInt a 1)) (fun ρ w' r => rOver_c (Rel.old r hS) (ha.rel r hS) (((h1.rel r (oldF w)).l (k := 1) (by decide)).weak fun g hg => Cv.false hg) (by omega) (by omega) (by decide)) ?_
    rintro ρ wa3 v3 wb3 r he hb hn
    replace hw := hw.tr hb
    replace ha := ha.past (iv' := (wa3.heap.size, wb3.heap.size) :: iv2) r hS he fun x hx => List.mem_cons_of_mem _ hx
    replace hb' := hb'.past (iv' := (wa3.heap.size, wb3.heap.size) :: iv2) r hS he fun x hx => List.mem_cons_of_mem _ hx
    replace h1 := h1.past (iv' := (wa3.heap.size, wb3.heap.size) :: iv2) r (oldF w) he fun x hx => List.mem_cons_of_mem _ hx
    have hR := hn.got (S := fun _ => False) r.baseLe (iv := (wa3.heap.size, wb3.heap.size) :: iv2) List.mem_cons_self
    clear r he hb hn
    generalize (wa3.heap.size, wb3.heap.size) :: iv2 = iv3 at *
    obtain ⟨s3_0, s3_1, s3_2, s3_3, s3_4, s3_5, s3_6, s3_7, rfl⟩ := hR.shape
    conv => whnf
    intro ρe we re
    exact ⟨_, rfl, hw.tr re.bel, hR.out re (oldF w)⟩
  have h : b.sign ≠ 0 := by simpa using h
  have hb0 : b ≠ 0 := by omega
  rw [show ratio a b = Rat.divInt a b from if_neg hb0]
  conv => whnf
  refine callE_S (callE_con (Φ := fun _ w' v w2 => RatC w2 (Nw (fun _ => False) w' w2) v (Rat.divInt a b)) (fun ρ w' r => rOver_c (Rel.old r hS) (ha.rel r hS) (hb'.rel r hS) (by omega) (by omega) hb0) ?_)
  rintro ρ wa2 v2 wb2 r he hb hn
  replace hw := hw.tr hb
  replace ha := ha.past (iv' := (wa2.heap.size, wb2.heap.size) :: iv1) r hS he fun x hx => List.mem_cons_of_mem _ hx
  replace hb' := hb'.past (iv' := (wa2.heap.size, wb2.heap.size) :: iv1) r hS he fun x hx => List.mem_cons_of_mem _ hx
  have hR := hn.got (S := fun _ => False) r.baseLe (iv := (wa2.heap.size, wb2.heap.size) :: iv1) List.mem_cons_self
  clear r he hb hn
  generalize (wa2.heap.size, wb2.heap.size) :: iv1 = iv2 at *
  obtain ⟨s2_0, s2_1, s2_2, s2_3, s2_4, s2_5, s2_6, s2_7, rfl⟩ := hR.shape
  conv => whnf
  intro ρe we re
  exact ⟨_, rfl, hw.tr re.bel, hR.out re (oldF w)⟩

theorem quick_c {S : Nat → Prop} {w : World} {v : Value} {p : Rat} (hS : Old S w) (hp : RatL w S v p) :
    Con PG N.ref01_quick #[v] w (Ret w fun v' _ => ∃ n d ok, v' = .tuple #[.int .i64 n, .int .i64 d, .bool ok] ∧ (ok = true → d ≠ 0 ∧ n.natAbs < 1073741824 ∧ d.natAbs < 1073741824 ∧ Rat.divInt n d = p)) := by
  have hw : Bel w.heap.size w w := Bel.refl
  obtain ⟨b1, l1, b2, l2, a, b, rfl, ha, hb', rfl⟩ := hp
  obtain ⟨_, a1, n1, c1, e1⟩ := ha.shape
  obtain ⟨_, a2, n2, c2, e2⟩ := hb'.shape
  simp only [Value.agg.injEq, Array.mk.injEq, List.cons.injEq, and_true] at e1 e2
  obtain ⟨_, rfl⟩ := e1
  obtain ⟨_, rfl⟩ := e2
  replace ha := ha.weak (S' := Cv S w.heap.size []) fun _ h => .inl h
  replace hb' := hb'.weak (S' := Cv S w.heap.size []) fun _ h => .inl h
  refine in_ref01_quick (by simp) ?_
  conv => whnf
  refine callE_S (callE_con (Φ := fun _ w' v w2 => ∃ n p, v = .tuple #[.int .i64 n, .bool p] ∧ (p = true → n = a ∧ a.natAbs < 1073741824)) (fun ρ w' r => (rshort_c (Rel.old r hS) (ha.rel r hS).r).mono fun e w2 ⟨v2, e1, e2, e3⟩ => ⟨v2, e1, e2, by
      rw [e3, shortV]
      split
      · exact ⟨_, _, rfl, fun _ => ⟨rfl, ‹_›⟩⟩
      · exact ⟨_, _, rfl, fun h => by cases h⟩⟩) ?_)
  rintro ρ wa1 v1 wb1 r he hb ⟨na, pa, rfl, qa⟩
  replace hw := hw.tr hb
  replace ha := ha.past (iv' := (wa1.heap.size, wb1.heap.size) :: []) r hS he fun x hx => List.mem_cons_of_mem _ hx
  replace hb' := hb'.past (iv' := (wa1.heap.size, wb1.heap.size) :: []) r hS he fun x hx => List.mem_cons_of_mem _ hx
  clear r he hb
  generalize (wa1.heap.size, wb1.heap.size) :: [] = iv1 at *
  conv => whnf
  refine callE_S (callE_con (Φ := fun _ w' v w2 => ∃ n p, v = .tuple #[.int .i64 n, .bool p] ∧ (p = true → n = b ∧ b.natAbs < 1073741824)) (fun ρ w' r => (rshort_c (Rel.old r hS) (hb'.rel r hS).r).mono fun e w2 ⟨v2, e1, e2, e3⟩ => ⟨v2, e1, e2, by
      rw [e3, shortV]
      split
      · exact ⟨_, _, rfl, fun _ => ⟨rfl, ‹_›⟩⟩
      · exact ⟨_, _, rfl, fun h => by cases h⟩⟩) ?_)
  rintro ρ wa2 v2 wb2 r he hb ⟨nb, pb, rfl, qb⟩
  replace hw := hw.tr hb
  replace ha := ha.past (iv' := (wa2.heap.size, wb2.heap.size) :: iv1) r hS he fun x hx => List.mem_cons_of_mem _ hx
  replace hb' := hb'.past (iv' := (wa2.heap.size, wb2.heap.size) :: iv1) r hS he fun x hx => List.mem_cons_of_mem _ hx
  clear r he hb
  generalize (wa2.heap.size, wb2.heap.size) :: iv1 = iv2 at *
  conv => whnf
  refine BrS.mk (fun h => ?_) (fun h => ?_)
  · have h : nb = 0 := by simpa using h
    conv => whnf
    refine BrS.mk (fun h1 => ?_) (fun h1 => ?_)
    · conv => whnf
      intro ρe we re
      exact ⟨_, rfl, hw.tr re.bel, ⟨na, 1, pb, rfl, fun h2 => by
          obtain ⟨rfl, hx⟩ := qa h1
          obtain ⟨rfl, hy⟩ := qb h2
          rw [h]
          exact ⟨by decide, hx, by decide, (if_pos rfl).symm⟩⟩⟩
    conv => whnf
    intro ρe we re
    exact ⟨_, rfl, hw.tr re.bel, ⟨na, 1, false, rfl, fun h2 => by cases h2⟩⟩
  have h : nb ≠ 0 := by simpa using h
  conv => whnf
  refine BrS.mk (fun h1 => ?_) (fun h1 => ?_)
  · conv => whnf
    intro ρe we re
    exact ⟨_, rfl, hw.tr re.bel, ⟨na, nb, pb, rfl, fun h2 => by
        obtain ⟨rfl, hx⟩ := qa h1
        obtain ⟨rfl, hy⟩ := qb h2
        exact ⟨h, hx, hy, (if_neg h).symm⟩⟩⟩
  conv => whnf
  intro ρe we re
  exact ⟨_, rfl, hw.tr re.bel, ⟨na, nb, false, rfl, fun h2 => by cases h2⟩⟩

theorem rAdd_c {S : Nat → Prop} {w : World} {v u : Value} {p q : Rat} (hS : Old S w) (hp : RatL w S v p) (hq : RatL w S u q) :
    Con PG N.ref01_Add #[v, u] w (Ret w fun v' w2 => RatC w2 (Nw (fun _ => False) w w2) v' (p + q)) := by
  have hw : Bel w.heap.size w w := Bel.refl
  replace hp := hp.weak (S' := Cv S w.heap.size []) fun _ h => .inl h
  replace hq := hq.weak (S' := Cv S w.heap.size []) fun _ h => .inl h
  obtain ⟨b1, a1, n1, c1, b2, a2, n2, c2, rfl⟩ := hp.shape
  obtain ⟨b3, a3, n3, c3, b4, a4, n4, c4, rfl⟩ := hq.shape
  refine in_ref01_Add (by simp) ?_
  conv => whnf
  have r1 := hp.rl
  have r2 := hq.rl
  have u1 := rl_num p
  have u2 := rl_den' p
  have u3 := rl_num q
  have u4 := rl_den' q
  refine callE_S (callE_con (Φ := fun _ w' v w2 => ∃ n d ok, v = .tuple #[.int .i64 n, .int .i64 d, .bool ok] ∧ (ok = true → d ≠ 0 ∧ n.natAbs < 1073741824 ∧ d.natAbs < 1073741824 ∧ Rat.divInt n d = p)) (fun ρ w' r => quick_c (Rel.old r hS) (hp.rel r hS)) ?_)
  rintro ρ wa1 v1 wb1 r he hb ⟨a, b, k1, rfl, g1⟩
  replace hw := hw.tr hb
  replace hp := hp.past (iv' := (wa1.heap.size, wb1.heap.size) :: []) r hS he fun x hx => List.mem_cons_of_mem _ hx
  replace hq := hq.past (iv' := (wa1.heap.size, wb1.heap.size) :: []) r hS he fun x hx => List.mem_cons_of_mem _ hx
  clear r he hb
  generalize (wa1.heap.size, wb1.heap.size) :: [] = iv1 at *
  conv => whnf
  refine callE_S (callE_con (Φ := fun _ w' v w2 => ∃ n d ok, v = .tuple #[.int .i64 n, .int .i64 d, .bool ok] ∧ (ok = true → d ≠ 0 ∧ n.natAbs < 1073741824 ∧ d.natAbs < 1073741824 ∧ Rat.divInt n d = q)) (fun ρ w' r => quick_c (Rel.old r hS) (hq.rel r hS)) ?_)
  rintro ρ wa2 v2 wb2 r he hb ⟨c, d, k2, rfl, g2⟩
  replace hw := hw.tr hb
  replace hp := hp.past (iv' := (wa2.heap.size, wb2.heap.size) :: iv1) r hS he fun x hx => List.mem_cons_of_mem _ hx
  replace hq := hq.past (iv' := (wa2.heap.size, wb2.heap.size) :: iv1) r hS he fun x hx => List.mem_cons_of_mem _ hx
  clear r he hb
  generalize (wa2.heap.size, wb2.heap.size) :: iv1 = iv2 at *
  conv => whnf
  refine BrS.mk (fun h1 => ?_) (fun h1 => ?_)
  · conv => whnf
    refine BrS.mk (fun h2 => ?_) (fun h2 => ?_)
    · obtain ⟨g3, g4, g5, g6⟩ := g1 h1
      obtain ⟨g7, g8, g9, g10⟩ := g2 h2
      have i1 := divInt_sq g4 g9
      have i2 := divInt_sq g8 g5
      have i3 := divInt_sq g5 g9
      have i4 := divInt_sq g4 g8
      clear hp hq
      conv => whnf
      refine ⟨a * d, by rw [wrap64] <;> omega, ?_⟩
      conv => whnf
      refine ⟨c * b, by rw [wrap64] <;> omega, ?_⟩
      conv => whnf
      refine ⟨a * d + c * b, by rw [wrap64] <;> omega, ?_⟩
      conv => whnf
      refine ⟨b * d, by rw [wrap64] <;> omega, ?_⟩
      conv => whnf
      have e := Rat.divInt_add_divInt a c g3 g7
      rw [g6, g10] at e
      refine callE_S (callE_con (Φ := fun _ w' v w2 => RatC w2 (Nw (fun _ => False) w' w2) v (p + q)) (fun ρ w' r => e ▸ rlowest_c (a * d + c * b) (b * d) w' (by omega) (by omega) (mul_ne g3 g7)) ?_)
      rintro ρ wa3 v3 wb3 r he hb hn
      replace hw := hw.tr hb
      have hR := hn.got (S := fun _ => False) r.baseLe (iv := (wa3.heap.size, wb3.heap.size) :: iv2) List.mem_cons_self
      clear r he hb hn
      generalize (wa3.heap.size, wb3.heap.size) :: iv2 = iv3 at *
      obtain ⟨s3_0, s3_1, s3_2, s3_3, s3_4, s3_5, s3_6, s3_7, rfl⟩ := hR.shape
      conv => whnf
      intro ρe we re
      exact ⟨_, rfl, hw.tr re.bel, hR.out re (oldF w)⟩
    conv => whnf
    refine drawn_of_pi hτ hmix [.x 0, .x 2, .x 1, .x 3, .x 4, .x 5] (by kernel_rfl) (by kernel_rfl) ?_
    conv => whnf
    refine callE_con (Φ := fun _ w' v w2 => RatC w2 (Nw (fun _ => False) w' w2) v (p)) (fun ρ w' r => rNormal_c (Rel.old r hS) (hp.rel r hS)) ?_
    rintro ρ wa3 v3 wb3 r he hb hn
    replace hw := hw.tr hb
    clear hp
    replace hq := hq.past (iv' := (wa3.heap.size, wb3.heap.size) :: iv2) r hS he fun x hx => List.mem_cons_of_mem _ hx
    have hX := hn.got (S := fun _ => False) r.baseLe (iv := (wa3.heap.size, wb3.heap.size) :: iv2) List.mem_cons_self
    clear r he hb hn
    generalize (wa3.heap.size, wb3.heap.size) :: iv2 = iv3 at *
    obtain ⟨s3_0, s3_1, s3_2, s3_3, s3_4, s3_5, s3_6, s3_7, rfl⟩ := hX.shape
    conv => whnf
    refine callE_con (Φ := fun _ w' v w2 => RatC w2 (Nw (fun _ => False) w' w2) v (q)) (fun ρ w' r => rNormal_c (Rel.old r hS) (hq.rel r hS)) ?_
    rintro ρ wa4 v4 wb4 r he hb hn
    replace hw := hw.tr hb
    clear hq
    replace hX := hX.past (iv' := (wa4.heap.size, wb4.heap.size) :: iv3) r (oldF w) he fun x hx => List.mem_cons_of_mem _ hx
    have hY := hn.got (S := fun _ => False) r.baseLe (iv := (wa4.heap.size, wb4.heap.size) :: iv3) List.mem_cons_self
    clear r he hb hn
    generalize (wa4.heap.size, wb4.heap.size) :: iv3 = iv4 at *
    obtain ⟨s4_0, s4_1, s4_2, s4_3, s4_4, s4_5, s4_6, s4_7, rfl⟩ := hY.shape
    conv => whnf
    have hXn := hX.num
    have hXd := hX.den
    clear hX
    have hYn := hY.num
    have hYd := hY.den
    clear hY
    have m0 := ln_mul_abs p.num q.den
    have m1 := ln_mul_abs q.num p.den
    have m2 := ln_mul_abs (p.den : Int) q.den
    have m3 := ln_add_int (p.num * q.den) (q.num * p.den)
    have m4 := ln_mul_abs p.num q.num
    refine drawn_of_pi hτ hmix [.x 0, .x 1, .x 2, .x 3, .x 5, .x 6, .x 7, .x 8, .x 11, .x 12, .x 13, .x 14, .x 4, .x 9, .x 10, .x 15, .x 16, .x 17] (by kernel_rfl) (by kernel_rfl) ?_
    conv => whnf
    refine callE_con (Φ := fun _ w' v w2 => IntC w2 (Nw (fun _ => False) w' w2) v (p.num * (q.den : Int))) (fun ρ w' r => rProd_c (Rel.old r (oldF w)) ((hXn.rel r (oldF w)).l (k := 100000) (by omega)) ((hYd.rel r (oldF w)).l (k := 100000) (by omega)) (by omega) (by omega)) ?_
    rintro ρ wa5 v5 wb5 r he hb hn
    replace hw := hw.tr hb
    replace hXn := hXn.past (iv' := (wa5.heap.size, wb5.heap.size) :: iv4) r (oldF w) he fun x hx => List.mem_cons_of_mem _ hx
    replace hXd := hXd.past (iv' := (wa5.heap.size, wb5.heap.size) :: iv4) r (oldF w) he fun x hx => List.mem_cons_of_mem _ hx
    replace hYn := hYn.past (iv' := (wa5.heap.size, wb5.heap.size) :: iv4) r (oldF w) he fun x hx => List.mem_cons_of_mem _ hx
    replace hYd := hYd.past (iv' := (wa5.heap.size, wb5.heap.size) :: iv4) r (oldF w) he fun x hx => List.mem_cons_of_mem _ hx
    have hA := hn.got (S := fun _ => False) r.baseLe (iv := (wa5.heap.size, wb5.heap.size) :: iv4) List.mem_cons_self
    clear r he hb hn
    generalize (wa5.heap.size, wb5.heap.size) :: iv4 = iv5 at *
    obtain ⟨s5_0, s5_1, s5_2, s5_3, rfl⟩ := hA.shape
    conv => whnf
    refine callE_con (Φ := fun _ w' v w2 => IntC w2 (Nw (fun _ => False) w' w2) v (q.num * (p.den : Int))) (fun ρ w' r => rProd_c (Rel.old r (oldF w)) ((hYn.rel r (oldF w)).l (k := 100000) (by omega)) ((hXd.rel r (oldF w)).l (k := 100000) (by omega)) (by omega) (by omega)) ?_
    rintro ρ wa6 v6 wb6 r he hb hn
    replace hw := hw.tr hb
    replace hXn := hXn.past (iv' := (wa6.heap.size, wb6.heap.size) :: iv5) r (oldF w) he fun x hx => List.mem_cons_of_mem _ hx
    replace hXd := hXd.past (iv' := (wa6.heap.size, wb6.heap.size) :: iv5) r (oldF w) he fun x hx => List.mem_cons_of_mem _ hx
    replace hYn := hYn.past (iv' := (wa6.heap.size, wb6.heap.size) :: iv5) r (oldF w) he fun x hx => List.mem_cons_of_mem _ hx
    replace hYd := hYd.past (iv' := (wa6.heap.size, wb6.heap.size) :: iv5) r (oldF w) he fun x hx => List.mem_cons_of_mem _ hx
    replace hA := hA.past (iv' := (wa6.heap.size, wb6.heap.size) :: iv5) r (oldF w) he fun x hx => List.mem_cons_of_mem _ hx
    have hB := hn.got (S := fun _ => False) r.baseLe (iv := (wa6.heap.size, wb6.heap.size) :: iv5) List.mem_cons_self
    clear r he hb hn
    generalize (wa6.heap.size, wb6.heap.size) :: iv5 = iv6 at *
    obtain ⟨s6_0, s6_1, s6_2, s6_3, rfl⟩ := hB.shape
    conv => whnf
    refine callE_con (Φ := fun _ w' v w2 => IntC w2 (Nw (fun _ => False) w' w2) v (p.num * (q.den : Int) + q.num * (p.den : Int))) (fun ρ w' r => rSum_c (Rel.old r (oldF w)) ((hA.rel r (oldF w)).l (k := 200000) (by omega)) ((hB.rel r (oldF w)).l (k := 200000) (by omega)) (by omega) (by omega)) ?_
    rintro ρ wa7 v7 wb7 r he hb hn
    replace hw := hw.tr hb
    replace hXn := hXn.past (iv' := (wa7.heap.size, wb7.heap.size) :: iv6) r (oldF w) he fun x hx => List.mem_cons_of_mem _ hx
    replace hXd := hXd.past (iv' := (wa7.heap.size, wb7.heap.size) :: iv6) r (oldF w) he fun x hx => List.mem_cons_of_mem _ hx
    replace hYn := hYn.past (iv' := (wa7.heap.size, wb7.heap.size) :: iv6) r (oldF w) he fun x hx => List.mem_cons_of_mem _ hx
    replace hYd := hYd.past (iv' := (wa7.heap.size, wb7.heap.size) :: iv6) r (oldF w) he fun x hx => List.mem_cons_of_mem _ hx
    clear hA
    clear hB
    have hN := hn.got (S := fun _ => False) r.baseLe (iv := (wa7.heap.size, wb7.heap.size) :: iv6) List.mem_cons_self
    clear r he hb hn
    generalize (wa7.heap.size, wb7.heap.size) :: iv6 = iv7 at *
    obtain ⟨s7_0, s7_1, s7_2, s7_3, rfl⟩ := hN.shape
    conv => whnf
    refine callE_con (Φ := fun _ w' v w2 => IntC w2 (Nw (fun _ => False) w' w2) v ((p.den : Int) * (q.den : Int))) (fun ρ w' r => rProd_c (Rel.old r (oldF w)) ((hXd.rel r (oldF w)).l (k := 100000) (by omega)) ((hYd.rel r (oldF w)).l (k := 100000) (by omega)) (by omega) (by omega)) ?_
    rintro ρ wa8 v8 wb8 r he hb hn
    replace hw := hw.tr hb
    replace hXn := hXn.past (iv' := (wa8.heap.size, wb8.heap.size) :: iv7) r (oldF w) he fun x hx => List.mem_cons_of_mem _ hx
    replace hXd := hXd.past (iv' := (wa8.heap.size, wb8.heap.size) :: iv7) r (oldF w) he fun x hx => List.mem_cons_of_mem _ hx
    replace hYn := hYn.past (iv' := (wa8.heap.size, wb8.heap.size) :: iv7) r (oldF w) he fun x hx => List.mem_cons_of_mem _ hx
    replace hYd := hYd.past (iv' := (wa8.heap.size, wb8.heap.size) :: iv7) r (oldF w) he fun x hx => List.mem_cons_of_mem _ hx
    replace hN := hN.past (iv' := (wa8.heap.size, wb8.heap.size) :: iv7) r (oldF w) he fun x hx => List.mem_cons_of_mem _ hx
    have hD := hn.got (S := fun _ => False) r.baseLe (iv := (wa8.heap.size, wb8.heap.size) :: iv7) List.mem_cons_self
    clear r he hb hn
    generalize (wa8.heap.size, wb8.heap.size) :: iv7 = iv8 at *
    obtain ⟨s8_0, s8_1, s8_2, s8_3, rfl⟩ := hD.shape
    conv => whnf
    refine callE_con (Φ := fun _ w' v w2 => RatC w2 (Nw (fun _ => False) w' w2) v (p + q)) (fun ρ w' r => (rat_add p q) ▸ rOver_c (Rel.old r (oldF w)) ((hN.rel r (oldF w)).l (k := 200001) (by omega)) ((hD.rel r (oldF w)).l (k := 200001) (by omega)) (by omega) (by omega) (mul_ne (den_ne p) (den_ne q))) ?_
    rintro ρ wa9 v9 wb9 r he hb hn
    replace hw := hw.tr hb
    clear hXn
    clear hXd
    clear hYn
    clear hYd
    clear hN
    clear hD
    have hR := hn.got (S := fun _ => False) r.baseLe (iv := (wa9.heap.size, wb9.heap.size) :: iv8) List.mem_cons_self
    clear r he hb hn
    generalize (wa9.heap.size, wb9.heap.size) :: iv8 = iv9 at *
    obtain ⟨s9_0, s9_1, s9_2, s9_3, s9_4, s9_5, s9_6, s9_7, rfl⟩ := hR.shape
    conv => whnf
    intro ρe we re
    exact ⟨_, rfl, hw.tr re.bel, hR.out re (oldF w)⟩
  conv => whnf
  refine drawn_of_pi hτ hmix [.x 0, .x 2, .x 1, .x 3, .x 4, .x 5] (by kernel_rfl) (by kernel_rfl) ?_
  conv => whnf
  refine callE_con (Φ := fun _ w' v w2 => RatC w2 (Nw (fun _ => False) w' w2) v (p)) (fun ρ w' r => rNormal_c (Rel.old r hS) (hp.rel r hS)) ?_
  rintro ρ wa3 v3 wb3 r he hb hn
  replace hw := hw.tr hb
  clear hp
  replace hq := hq.past (iv' := (wa3.heap.size, wb3.heap.size) :: iv2) r hS he fun x hx => List.mem_cons_of_mem _ hx
  have hX := hn.got (S := fun _ => False) r.baseLe (iv := (wa3.heap.size, wb3.heap.size) :: iv2) List.mem_cons_self
  clear r he hb hn
  generalize (wa3.heap.size, wb3.heap.size) :: iv2 = iv3 at *
  obtain ⟨s3_0, s3_1, s3_2, s3_3, s3_4, s3_5, s3_6, s3_7, rfl⟩ := hX.shape
  conv => whnf
  refine callE_con (Φ := fun _ w' v w2 => RatC w2 (Nw (fun _ => False) w' w2) v (q)) (fun ρ w' r => rNormal_c (Rel.old r hS) (hq.rel r hS)) ?_
  rintro ρ wa4 v4 wb4 r he hb hn
  replace hw := hw.tr hb
  clear hq
  replace hX := hX.past (iv' := (wa4.heap.size, wb4.heap.size) :: iv3) r (oldF w) he fun x hx => List.mem_cons_of_mem _ hx
  have hY := hn.got (S := fun _ => False) r.baseLe (iv := (wa4.heap.size, wb4.heap.size) :: iv3) List.mem_cons_self
  clear r he hb hn
  generalize (wa4.heap.size, wb4.heap.size) :: iv3 = iv4 at *
  obtain ⟨s4_0, s4_1, s4_2, s4_3, s4_4, s4_5, s4_6, s4_7, rfl⟩ := hY.shape
  conv => whnf
  have hXn := hX.num
  have hXd := hX.den
  clear hX
  have hYn := hY.num
  have hYd := hY.den
  clear hY
  have m0 := ln_mul_abs p.num q.den
  have m1 := ln_mul_abs q.num p.den
  have m2 := ln_mul_abs (p.den : Int) q.den
  have m3 := ln_add_int (p.num * q.den) (q.num * p.den)
  have m4 := ln_mul_abs p.num q.num
  refine drawn_of_pi hτ hmix [.x 0, .x 1, .x 2, .x 3, .x 5, .x 6, .x 7, .x 8, .x 11, .x 12, .x 13, .x 14, .x 4, .x 9, .x 10, .x 15, .x 16, .x 17] (by kernel_rfl) (by kernel_rfl) ?_
  conv => whnf
  refine callE_con (Φ := fun _ w' v w2 => IntC w2 (Nw (fun _ => False) w' w2) v (p.num * (q.den : Int))) (fun ρ w' r => rProd_c (Rel.old r (oldF w)) ((hXn.rel r (oldF w)).l (k := 100000) (by omega)) ((hYd.rel r (oldF w)).l (k := 100000) (by omega)) (by omega) (by omega)) ?_
  rintro ρ wa5 v5 wb5 r he hb hn
  replace hw := hw.tr hb
  replace hXn := hXn.past (iv' := (wa5.heap.size, wb5.heap.size) :: iv4) r (oldF w) he fun x hx => List.mem_cons_of_mem _ hx
  replace hXd := hXd.past (iv' := (wa5.heap.size, wb5.heap.size) :: iv4) r (oldF w) he fun x hx => List.mem_cons_of_mem _ hx
  replace hYn := hYn.past (iv' := (wa5.heap.size, wb5.heap.size) :: iv4) r (oldF w) he fun x hx => List.mem_cons_of_mem _ hx
  replace hYd := hYd.past (iv' := (wa5.heap.size, wb5.heap.size) :: iv4) r (oldF w) he fun x hx => List.mem_cons_of_mem _ hx
  have hA := hn.got (S := fun _ => False) r.baseLe (iv := (wa5.heap.size, wb5.heap.size) :: iv4) List.mem_cons_self
  clear r he hb hn
  generalize (wa5.heap.size, wb5.heap.size) :: iv4 = iv5 at *
  obtain ⟨s5_0, s5_1, s5_2, s5_3, rfl⟩ := hA.shape
  conv => whnf
  refine callE_con (Φ := fun _ w' v w2 => IntC w2 (Nw (fun _ => False) w' w2) v (q.num * (p.den : Int))) (fun ρ w' r => rProd_c (Rel.old r (oldF w)) ((hYn.rel r (oldF w)).l (k := 100000) (by omega)) ((hXd.rel r (oldF w)).l (k := 100000) (by omega)) (by omega) (by omega)) ?_
  rintro ρ wa6 v6 wb6 r he hb hn
  replace hw := hw.tr hb
  replace hXn := hXn.past (iv' := (wa6.heap.size, wb6.heap.size) :: iv5) r (oldF w) he fun x hx => List.mem_cons_of_mem _ hx
  replace hXd := hXd.past (iv' := (wa6.heap.size, wb6.heap.size) :: iv5) r (oldF w) he fun x hx => List.mem_cons_of_mem _ hx
  replace hYn := hYn.past (iv' := (wa6.heap.size, wb6.heap.size) :: iv5) r (oldF w) he fun x hx => List.mem_cons_of_mem _ hx
  replace hYd := hYd.past (iv' := (wa6.heap.size, wb6.heap.size) :: iv5) r (oldF w) he fun x hx => List.mem_cons_of_mem _ hx
  replace hA := hA.past (iv' := (wa6.heap.size, wb6.heap.size) :: iv5) r (oldF w) he fun x hx => List.mem_cons_of_mem _ hx
  have hB := hn.got (S := fun _ => False) r.baseLe (iv := (wa6.heap.size, wb6.heap.size) :: iv5) List.mem_cons_self
  clear r he hb hn
  generalize (wa6.heap.size, wb6.heap.size) :: iv5 = iv6 at *
  obtain ⟨s6_0, s6_1, s6_2, s6_3, rfl⟩ := hB.shape
  conv => whnf
  refine callE_con (Φ := fun _ w' v w2 => IntC w2 (Nw (fun _ => False) w' w2) v (p.num * (q.den : Int) + q.num * (p.den : Int))) (fun ρ w' r => rSum_c (Rel.old r (oldF w)) ((hA.rel r (oldF w)).l (k := 200000) (by omega)) ((hB.rel r (oldF w)).l (k := 200000) (by omega)) (by omega) (by omega)) ?_
  rintro ρ wa7 v7 wb7 r he hb hn
  replace hw := hw.tr hb
  replace hXn := hXn.past (iv' := (wa7.heap.size, wb7.heap.size) :: iv6) r (oldF w) he fun x hx => List.mem_cons_of_mem _ hx
  replace hXd := hXd.past (iv' := (wa7.heap.size, wb7.heap.size) :: iv6) r (oldF w) he fun x hx => List.mem_cons_of_mem _ hx
  replace hYn := hYn.past (iv' := (wa7.heap.size, wb7.heap.size) :: iv6) r (oldF w) he fun x hx => List.mem_cons_of_mem _ hx
  replace hYd := hYd.past (iv' := (wa7.heap.size, wb7.heap.size) :: iv6) r (oldF w) he fun x hx => List.mem_cons_of_mem _ hx
  clear hA
  clear hB
  have hN := hn.got (S := fun _ => False) r.baseLe (iv := (wa7.heap.size, wb7.heap.size) :: iv6) List.mem_cons_self
  clear r he hb hn
  generalize (wa7.heap.size, wb7.heap.size) :: iv6 = iv7 at *
  obtain ⟨s7_0, s7_1, s7_2, s7_3, rfl⟩ := hN.shape
  conv => whnf
  refine callE_con (Φ := fun _ w' v w2 => IntC w2 (Nw (fun _ => False) w' w2) v ((p.den : Int) * (q.den : Int))) (fun ρ w' r => rProd_c (Rel.old r (oldF w)) ((hXd.rel r (oldF w)).l (k := 100000) (by omega)) ((hYd.rel r (oldF w)).l (k := 100000) (by omega)) (by omega) (by omega)) ?_
  rintro ρ wa8 v8 wb8 r he hb hn
  replace hw := hw.tr hb
  replace hXn := hXn.past (iv' := (wa8.heap.size, wb8.heap.size) :: iv7) r (oldF w) he fun x hx => List.mem_cons_of_mem _ hx
  replace hXd := hXd.past (iv' := (wa8.heap.size, wb8.heap.size) :: iv7) r (oldF w) he fun x hx => List.mem_cons_of_mem _ hx
  replace hYn := hYn.past (iv' := (wa8.heap.size, wb8.heap.size) :: iv7) r (oldF w) he fun x hx => List.mem_cons_of_mem _ hx
  replace hYd := hYd.past (iv' := (wa8.heap.size, wb8.heap.size) :: iv7) r (oldF w) he fun x hx => List.mem_cons_of_mem _ hx
  replace hN := hN.past (iv' := (wa8.heap.size, wb8.heap.size) :: iv7) r (oldF w) he fun x hx => List.mem_cons_of_mem _ hx
  have hD := hn.got (S := fun _ => False) r.baseLe (iv := (wa8.heap.size, wb8.heap.size) :: iv7) List.mem_cons_self
  clear r he hb hn
  generalize (wa8.heap.size, wb8.heap.size) :: iv7 = iv8 at *
  obtain ⟨s8_0, s8_1, s8_2, s8_3, rfl⟩ := hD.shape
  conv => whnf
  refine callE_con (Φ := fun _ w' v w2 => RatC w2 (Nw (fun _ => False) w' w2) v (p + q)) (fun ρ w' r => (rat_add p q) ▸ rOver_c (Rel.old r (oldF w)) ((hN.rel r (oldF w)).l (k := 200001) (by omega)) ((hD.rel r (oldF w)).l (k := 200001) (by omega)) (by omega) (by omega) (mul_ne (den_ne p) (den_ne q))) ?_
  rintro ρ wa9 v9 wb9 r he hb hn
  replace hw := hw.tr hb
  clear hXn
  clear hXd
  clear hYn
  clear hYd
  clear hN
  clear hD
  have hR := hn.got (S := fun _ => False) r.baseLe (iv := (wa9.heap.size, wb9.heap.size) :: iv8) List.mem_cons_self
  clear r he hb hn
  generalize (wa9.heap.size, wb9.heap.size) :: iv8 = iv9 at *
  obtain ⟨s9_0, s9_1, s9_2, s9_3, s9_4, s9_5, s9_6, s9_7, rfl⟩ := hR.shape
  conv => whnf
  intro ρe we re
  exact ⟨_, rfl, hw.tr re.bel, hR.out re (oldF w)⟩

theorem rMul_c {S : Nat → Prop} {w : World} {v u : Value} {p q : Rat} (hS : Old S w) (hp : RatL w S v p) (hq : RatL w S u q) :
    Con PG N.ref01_Mul #[v, u] w (Ret w fun v' w2 => RatC w2 (Nw (fun _ => False) w w2) v' (p * q)) := by
  have hw : Bel w.heap.size w w := Bel.refl
  replace hp := hp.weak (S' := Cv S w.heap.size []) fun _ h => .inl h
  replace hq := hq.weak (S' := Cv S w.heap.size []) fun _ h => .inl h
  obtain ⟨b1, a1, n1, c1, b2, a2, n2, c2, rfl⟩ := hp.shape
  obtain ⟨b3, a3, n3, c3, b4, a4, n4, c4, rfl⟩ := hq.shape
  refine in_ref01_Mul (by simp) ?_
  conv => whnf
  have r1 := hp.rl
  have r2 := hq.rl
  have u1 := rl_num p
  have u2 := rl_den' p
  have u3 := rl_num q
  have u4 := rl_den' q
  refine callE_S (callE_con (Φ := fun _ w' v w2 => ∃ n d ok, v = .tuple #[.int .i64 n, .int .i64 d, .bool ok] ∧ (ok = true → d ≠ 0 ∧ n.natAbs < 1073741824 ∧ d.natAbs < 1073741824 ∧ Rat.divInt n d = p)) (fun ρ w' r => quick_c (Rel.old r hS) (hp.rel r hS)) ?_)
  rintro ρ wa1 v1 wb1 r he hb ⟨a, b, k1, rfl, g1⟩
  replace hw := hw.tr hb
  replace hp := hp.past (iv' := (wa1.heap.size, wb1.heap.size) :: []) r hS he fun x hx => List.mem_cons_of_mem _ hx
  replace hq := hq.past (iv' := (wa1.heap.size, wb1.heap.size) :: []) r hS he fun x hx => List.mem_cons_of_mem _ hx
  clear r he hb
  generalize (wa1.heap.size, wb1.heap.size) :: [] = iv1 at *
  conv => whnf
  refine callE_S (callE_con (Φ := fun _ w' v w2 => ∃ n d ok, v = .tuple #[.int .i64 n, .int .i64 d, .bool ok] ∧ (ok = true → d ≠ 0 ∧ n.natAbs < 1073741824 ∧ d.natAbs < 1073741824 ∧ Rat.divInt n d = q)) (fun ρ w' r => quick_c (Rel.old r hS) (hq.rel r hS)) ?_)
  rintro ρ wa2 v2 wb2 r he hb ⟨c, d, k2, rfl, g2⟩
  replace hw := hw.tr hb
  replace hp := hp.past (iv' := (wa2.heap.size, wb2.heap.size) :: iv1) r hS he fun x hx => List.mem_cons_of_mem _ hx
  replace hq := hq.past (iv' := (wa2.heap.size, wb2.heap.size) :: iv1) r hS he fun x hx => List.mem_cons_of_mem _ hx
  clear r he hb
  generalize (wa2.heap.size, wb2.heap.size) :: iv1 = iv2 at *
  conv => whnf
  refine BrS.mk (fun h1 => ?_) (fun h1 => ?_)
  · conv => whnf
    refine BrS.mk (fun h2 => ?_) (fun h2 => ?_)
    · obtain ⟨g3, g4, g5, g6⟩ := g1 h1
      obtain ⟨g7, g8, g9, g10⟩ := g2 h2
      have i1 := divInt_sq g4 g9
      have i2 := divInt_sq g8 g5
      have i3 := divInt_sq g5 g9
      have i4 := divInt_sq g4 g8
      clear hp hq
      conv => whnf
      refine ⟨a * c, by rw [wrap64] <;> omega, ?_⟩
      conv => whnf
      refine ⟨b * d, by rw [wrap64] <;> omega, ?_⟩
      conv => whnf
      have e := Rat.divInt_mul_divInt a c (d₁ := b) (d₂ := d)
      rw [g6, g10] at e
      refine callE_S (callE_con (Φ := fun _ w' v w2 => RatC w2 (Nw (fun _ => False) w' w2) v (p * q)) (fun ρ w' r => e ▸ rlowest_c (a * c) (b * d) w' (by omega) (by omega) (mul_ne g3 g7)) ?_)
      rintro ρ wa3 v3 wb3 r he hb hn
      replace hw := hw.tr hb
      have hR := hn.got (S := fun _ => False) r.baseLe (iv := (wa3.heap.size, wb3.heap.size) :: iv2) List.mem_cons_self
      clear r he hb hn
      generalize (wa3.heap.size, wb3.heap.size) :: iv2 = iv3 at *
      obtain ⟨s3_0, s3_1, s3_2, s3_3, s3_4, s3_5, s3_6, s3_7, rfl⟩ := hR.shape
      conv => whnf
      intro ρe we re
      exact ⟨_, rfl, hw.tr re.bel, hR.out re (oldF w)⟩
    conv => whnf
    refine drawn_of_pi hτ hmix [.x 0, .x 2, .x 1, .x 3, .x 4, .x 5] (by kernel_rfl) (by kernel_rfl) ?_
    conv => whnf
    refine callE_con (Φ := fun _ w' v w2 => RatC w2 (Nw (fun _ => False) w' w2) v (p)) (fun ρ w' r => rNormal_c (Rel.old r hS) (hp.rel r hS)) ?_
    rintro ρ wa3 v3 wb3 r he hb hn
    replace hw := hw.tr hb
    clear hp
    replace hq := hq.past (iv' := (wa3.heap.size, wb3.heap.size) :: iv2) r hS he fun x hx => List.mem_cons_of_mem _ hx
    have hX := hn.got (S := fun _ => False) r.baseLe (iv := (wa3.heap.size, wb3.heap.size) :: iv2) List.mem_cons_self
    clear r he hb hn
    generalize (wa3.heap.size, wb3.heap.size) :: iv2 = iv3 at *
    obtain ⟨s3_0, s3_1, s3_2, s3_3, s3_4, s3_5, s3_6, s3_7, rfl⟩ := hX.shape
    conv => whnf
    refine callE_con (Φ := fun _ w' v w2 => RatC w2 (Nw (fun _ => False) w' w2) v (q)) (fun ρ w' r => rNormal_c (Rel.old r hS) (hq.rel r hS)) ?_
    rintro ρ wa4 v4 wb4 r he hb hn
    replace hw := hw.tr hb
    clear hq
    replace hX := hX.past (iv' := (wa4.heap.size, wb4.heap.size) :: iv3) r (oldF w) he fun x hx => List.mem_cons_of_mem _ hx
    have hY := hn.got (S := fun _ => False) r.baseLe (iv := (wa4.heap.size, wb4.heap.size) :: iv3) List.mem_cons_self
    clear r he hb hn
    generalize (wa4.heap.size, wb4.heap.size) :: iv3 = iv4 at *
    obtain ⟨s4_0, s4_1, s4_2, s4_3, s4_4, s4_5, s4_6, s4_7, rfl⟩ := hY.shape
    conv => whnf
    have hXn := hX.num
    have hXd := hX.den
    clear hX
    have hYn := hY.num
    have hYd := hY.den
    clear hY
    have m0 := ln_mul_abs p.num q.den
    have m1 := ln_mul_abs q.num p.den
    have m2 := ln_mul_abs (p.den : Int) q.den
    have m3 := ln_add_int (p.num * q.den) (q.num * p.den)
    have m4 := ln_mul_abs p.num q.num
    refine drawn_of_pi hτ hmix [.x 0, .x 1, .x 2, .x 3, .x 5, .x 6, .x 7, .x 8, .x 4, .x 9, .x 10, .x 11] (by kernel_rfl) (by kernel_rfl) ?_
    conv => whnf
    refine callE_con (Φ := fun _ w' v w2 => IntC w2 (Nw (fun _ => False) w' w2) v (p.num * q.num)) (fun ρ w' r => rProd_c (Rel.old r (oldF w)) ((hXn.rel r (oldF w)).l (k := 100000) (by omega)) ((hYn.rel r (oldF w)).l (k := 100000) (by omega)) (by omega) (by omega)) ?_
    rintro ρ wa5 v5 wb5 r he hb hn
    replace hw := hw.tr hb
    replace hXn := hXn.past (iv' := (wa5.heap.size, wb5.heap.size) :: iv4) r (oldF w) he fun x hx => List.mem_cons_of_mem _ hx
    replace hXd := hXd.past (iv' := (wa5.heap.size, wb5.heap.size) :: iv4) r (oldF w) he fun x hx => List.mem_cons_of_mem _ hx
    replace hYn := hYn.past (iv' := (wa5.heap.size, wb5.heap.size) :: iv4) r (oldF w) he fun x hx => List.mem_cons_of_mem _ hx
    replace hYd := hYd.past (iv' := (wa5.heap.size, wb5.heap.size) :: iv4) r (oldF w) he fun x hx => List.mem_cons_of_mem _ hx
    have hN := hn.got (S := fun _ => False) r.baseLe (iv := (wa5.heap.size, wb5.heap.size) :: iv4) List.mem_cons_self
    clear r he hb hn
    generalize (wa5.heap.size, wb5.heap.size) :: iv4 = iv5 at *
    obtain ⟨s5_0, s5_1, s5_2, s5_3, rfl⟩ := hN.shape
    conv => whnf
    refine callE_con (Φ := fun _ w' v w2 => IntC w2 (Nw (fun _ => False) w' w2) v ((p.den : Int) * (q.den : Int))) (fun ρ w' r => rProd_c (Rel.old r (oldF w)) ((hXd.rel r (oldF w)).l (k := 100000) (by omega)) ((hYd.rel r (oldF w)).l (k := 100000) (by omega)) (by omega) (by omega)) ?_
    rintro ρ wa6 v6 wb6 r he hb hn
    replace hw := hw.tr hb
    replace hXn := hXn.past (iv' := (wa6.heap.size, wb6.heap.size) :: iv5) r (oldF w) he fun x hx => List.mem_cons_of_mem _ hx
    replace hXd := hXd.past (iv' := (wa6.heap.size, wb6.heap.size) :: iv5) r (oldF w) he fun x hx => List.mem_cons_of_mem _ hx
    replace hYn := hYn.past (iv' := (wa6.heap.size, wb6.heap.size) :: iv5) r (oldF w) he fun x hx => List.mem_cons_of_mem _ hx
    replace hYd := hYd.past (iv' := (wa6.heap.size, wb6.heap.size) :: iv5) r (oldF w) he fun x hx => List.mem_cons_of_mem _ hx
    replace hN := hN.past (iv' := (wa6.heap.size, wb6.heap.size) :: iv5) r (oldF w) he fun x hx => List.mem_cons_of_mem _ hx
    have hD := hn.got (S := fun _ => False) r.baseLe (iv := (wa6.heap.size, wb6.heap.size) :: iv5) List.mem_cons_self
    clear r he hb hn
    generalize (wa6.heap.size, wb6.heap.size) :: iv5 = iv6 at *
    obtain ⟨s6_0, s6_1, s6_2, s6_3, rfl⟩ := hD.shape
    conv => whnf
    refine callE_con (Φ := fun _ w' v w2 => RatC w2 (Nw (fun _ => False) w' w2) v (p * q)) (fun ρ w' r => (rat_mul p q) ▸ rOver_c (Rel.old r (oldF w)) ((hN.rel r (oldF w)).l (k := 200001) (by omega)) ((hD.rel r (oldF w)).l (k := 200001) (by omega)) (by omega) (by omega) (mul_ne (den_ne p) (den_ne q))) ?_
    rintro ρ wa7 v7 wb7 r he hb hn
    replace hw := hw.tr hb
    clear hXn
    clear hXd
    clear hYn
    clear hYd
    clear hN
    clear hD
    have hR := hn.got (S := fun _ => False) r.baseLe (iv := (wa7.heap.size, wb7.heap.size) :: iv6) List.mem_cons_self
    clear r he hb hn
    generalize (wa7.heap.size, wb7.heap.size) :: iv6 = iv7 at *
    obtain ⟨s7_0, s7_1, s7_2, s7_3, s7_4, s7_5, s7_6, s7_7, rfl⟩ := hR.shape
    conv => whnf
    intro ρe we re
    exact ⟨_, rfl, hw.tr re.bel, hR.out re (oldF w)⟩
  conv => whnf
  refine drawn_of_pi hτ hmix [.x 0, .x 2, .x 1, .x 3, .x 4, .x 5] (by kernel_rfl) (by kernel_rfl) ?_
  conv => whnf
  refine callE_con (Φ := fun _ w' v w2 => RatC w2 (Nw (fun _ => False) w' w2) v (p)) (fun ρ w' r => rNormal_c (Rel.old r hS) (hp.rel r hS)) ?_
  rintro ρ wa3 v3 wb3 r he hb hn
  replace hw := hw.tr hb
  clear hp
  replace hq := hq.past (iv' := (wa3.heap.size, wb3.heap.size) :: iv2) r hS he fun x hx => List.mem_cons_of_mem _ hx
  have hX := hn.got (S := fun _ => False) r.baseLe (iv := (wa3.heap.size, wb3.heap.size) :: iv2) List.mem_cons_self
  clear r he hb hn
  generalize (wa3.heap.size, wb3.heap.size) :: iv2 = iv3 at *
  obtain ⟨s3_0, s3_1, s3_2, s3_3, s3_4, s3_5, s3_6, s3_7, rfl⟩ := hX.shape
  conv => whnf
  refine callE_con (Φ := fun _ w' v w2 => RatC w2 (Nw (fun _ => False) w' w2) v (q)) (fun ρ w' r => rNormal_c (Rel.old r hS) (hq.rel r hS)) ?_
  rintro ρ wa4 v4 wb4 r he hb hn
  replace hw := hw.tr hb
  clear hq
  replace hX := hX.past (iv' := (wa4.heap.size, wb4.heap.size) :: iv3) r (oldF w) he fun x hx => List.mem_cons_of_mem _ hx
  have hY := hn.got (S := fun _ => False) r.baseLe (iv := (wa4.heap.size, wb4.heap.size) :: iv3) List.mem_cons_self
  clear r he hb hn
  generalize (wa4.heap.size, wb4.heap.size) :: iv3 = iv4 at *
  obtain ⟨s4_0, s4_1, s4_2, s4_3, s4_4, s4_5, s4_6, s4_7, rfl⟩ := hY.shape
  conv => whnf
  have hXn := hX.num
  have hXd := hX.den
  clear hX
  have hYn := hY.num
  have hYd := hY.den
  clear hY
  have m0 := ln_mul_abs p.num q.den
  have m1 := ln_mul_abs q.num p.den
  have m2 := ln_mul_abs (p.den : Int) q.den
  have m3 := ln_add_int (p.num * q.den) (q.num * p.den)
  have m4 := ln_mul_abs p.num q.num
  refine drawn_of_pi hτ hmix [.x 0, .x 1, .x 2, .x 3, .x 5, .x 6, .x 7, .x 8, .x 4, .x 9, .x 10, .x 11] (by kernel_rfl) (by kernel_rfl) ?_
  conv => whnf
  refine callE_con (Φ := fun _ w' v w2 => IntC w2 (Nw (fun _ => False) w' w2) v (p.num * q.num)) (fun ρ w' r => rProd_c (Rel.old r (oldF w)) ((hXn.rel r (oldF w)).l (k := 100000) (by omega)) ((hYn.rel r (oldF w)).l (k := 100000) (by omega)) (by omega) (by omega)) ?_
  rintro ρ wa5 v5 wb5 r he hb hn
  replace hw := hw.tr hb
  replace hXn := hXn.past (iv' := (wa5.heap.size, wb5.heap.size) :: iv4) r (oldF w) he fun x hx => List.mem_cons_of_mem _ hx
  replace hXd := hXd.past (iv' := (wa5.heap.size, wb5.heap.size) :: iv4) r (oldF w) he fun x hx => List.mem_cons_of_mem _ hx
  replace hYn := hYn.past (iv' := (wa5.heap.size, wb5.heap.size) :: iv4) r (oldF w) he fun x hx => List.mem_cons_of_mem _ hx
  replace hYd := hYd.past (iv' := (wa5.heap.size, wb5.heap.size) :: iv4) r (oldF w) he fun x hx => List.mem_cons_of_mem _ hx
  have hN := hn.got (S := fun _ => False) r.baseLe (iv := (wa5.heap.size, wb5.heap.size) :: iv4) List.mem_cons_self
  clear r he hb hn
  generalize (wa5.heap.size, wb5.heap.size) :: iv4 = iv5 at *
  obtain ⟨s5_0, s5_1, s5_2, s5_3, rfl⟩ := hN.shape
  conv => whnf
  refine callE_con (Φ := fun _ w' v w2 => IntC w2 (Nw (fun _ => False) w' w2) v ((p.den : Int) * (q.den : Int))) (fun ρ w' r => rProd_c (Rel.old r (oldF w)) ((hXd.rel r (oldF w)).l (k := 100000) (by omega)) ((hYd.rel r (oldF w)).l (k := 100000) (by omega)) (by omega) (by omega)) ?_
  rintro ρ wa6 v6 wb6 r he hb hn
  replace hw := hw.tr hb
  replace hXn := hXn.past (iv' := (wa6.heap.size, wb6.heap.size) :: iv5) r (oldF w) he fun x hx => List.mem_cons_of_mem _ hx
  replace hXd := hXd.past (iv' := (wa6.heap.size, wb6.heap.size) :: iv5) r (oldF w) he fun x hx => List.mem_cons_of_mem _ hx
  replace hYn := hYn.past (iv' := (wa6.heap.size, wb6.heap.size) :: iv5) r (oldF w) he fun x hx => List.mem_cons_of_mem _ hx
  replace hYd := hYd.past (iv' := (wa6.heap.size, wb6.heap.size) :: iv5) r (oldF w) he fun x hx => List.mem_cons_of_mem _ hx
  replace hN := hN.past (iv' := (wa6.heap.size, wb6.heap.size) :: iv5) r (oldF w) he fun x hx => List.mem_cons_of_mem _ hx
  have hD := hn.got (S := fun _ => False) r.baseLe (iv := (wa6.heap.size, wb6.heap.size) :: iv5) List.mem_cons_self
  clear r he hb hn
  generalize (wa6.heap.size, wb6.heap.size) :: iv5 = iv6 at *
  obtain ⟨s6_0, s6_1, s6_2, s6_3, rfl⟩ := hD.shape
  conv => whnf
  refine callE_con (Φ := fun _ w' v w2 => RatC w2 (Nw (fun _ => False) w' w2) v (p * q)) (fun ρ w' r => (rat_mul p q) ▸ rOver_c (Rel.old r (oldF w)) ((hN.rel r (oldF w)).l (k := 200001) (by omega)) ((hD.rel r (oldF w)).l (k := 200001) (by omega)) (by omega) (by omega) (mul_ne (den_ne p) (den_ne q))) ?_
  rintro ρ wa7 v7 wb7 r he hb hn
  replace hw := hw.tr hb
  clear hXn
  clear hXd
  clear hYn
  clear hYd
  clear hN
  clear hD
  have hR := hn.got (S := fun _ => False) r.baseLe (iv := (wa7.heap.size, wb7.heap.size) :: iv6) List.mem_cons_self
  clear r he hb hn
  generalize (wa7.heap.size, wb7.heap.size) :: iv6 = iv7 at *
  obtain ⟨s7_0, s7_1, s7_2, s7_3, s7_4, s7_5, s7_6, s7_7, rfl⟩ := hR.shape
  conv => whnf
  intro ρe we re
  exact ⟨_, rfl, hw.tr re.bel, hR.out re (oldF w)⟩

theorem rNeg_c {S : Nat → Prop} {w : World} {v : Value} {p : Rat} (hS : Old S w) (hp : RatL w S v p) :
    Con PG N.ref01_Neg #[v] w (Ret w fun v' w2 => RatC w2 (Nw (fun _ => False) w w2) v' (-p)) := by
  have hw : Bel w.heap.size w w := Bel.refl
  replace hp := hp.weak (S' := Cv S w.heap.size []) fun _ h => .inl h
  obtain ⟨b1, a1, n1, c1, b2, a2, n2, c2, rfl⟩ := hp.shape
  refine in_ref01_Neg (by simp) ?_
  conv => whnf
  have r1 := hp.rl
  have u1 := rl_num p
  have u2 := rl_den' p
  refine callE_S (callE_con (Φ := fun _ w' v w2 => RatC w2 (Nw (fun _ => False) w' w2) v (p)) (fun ρ w' r => rNormal_c (Rel.old r hS) (hp.rel r hS)) ?_)
  rintro ρ wa1 v1 wb1 r he hb hn
  replace hw := hw.tr hb
  clear hp
  have hX := hn.got (S := fun _ => False) r.baseLe (iv := (wa1.heap.size, wb1.heap.size) :: []) List.mem_cons_self
  clear r he hb hn
  generalize (wa1.heap.size, wb1.heap.size) :: [] = iv1 at *
  obtain ⟨s1_0, s1_1, s1_2, s1_3, s1_4, s1_5, s1_6, s1_7, rfl⟩ := hX.shape
  conv => whnf
  have hXn := hX.num
  have hXd := hX.den
  clear hX
  refine drawn_of_pi hτ hmix [.x 0, .x 1, .x 3, .x 4, .x 2, .x 5, .x 6] (by kernel_rfl) (by kernel_rfl) ?_
  conv => whnf
  refine callE_con (Φ := fun _ w' v w2 => IntC w2 (Nw (fun _ => False) w' w2) v (-p.num)) (fun ρ w' r => rMinus_c (Rel.old r (oldF w)) ((hXn.rel r (oldF w)).l (k := 100000) (by omega)) (by omega)) ?_
  rintro ρ wa2 v2 wb2 r he hb hn
  replace hw := hw.tr hb
  clear hXn
  replace hXd := hXd.past (iv' := (wa2.heap.size, wb2.heap.size) :: iv1) r (oldF w) he fun x hx => List.mem_cons_of_mem _ hx
  have hN := hn.got (S := fun _ => False) r.baseLe (iv := (wa2.heap.size, wb2.heap.size) :: iv1) List.mem_cons_self
  clear r he hb hn
  generalize (wa2.heap.size, wb2.heap.size) :: iv1 = iv2 at *
  obtain ⟨s2_0, s2_1, s2_2, s2_3, rfl⟩ := hN.shape
  conv => whnf
  refine callE_con (Φ := fun _ w' v w2 => RatC w2 (Nw (fun _ => False) w' w2) v (-p)) (fun ρ w' r => show Con _ _ _ _ (Ret _ fun v w2 => RatC w2 _ v (-p)) from (show Rat.divInt (-p.num) p.den = -p by rw [← Rat.neg_divInt, Rat.num_divInt_den]) ▸ rOver_c (Rel.old r (oldF w)) ((hN.rel r (oldF w)).l (k := 100000) (by rw [Int.natAbs_neg]; omega)) ((hXd.rel r (oldF w)).l (k := 100000) (by omega)) (by omega) (by omega) (den_ne p)) ?_
  rintro ρ wa3 v3 wb3 r he hb hn
  replace hw := hw.tr hb
  clear hXd
  clear hN
  have hR := hn.got (S := fun _ => False) r.baseLe (iv := (wa3.heap.size, wb3.heap.size) :: iv2) List.mem_cons_self
  clear r he hb hn
  generalize (wa3.heap.size, wb3.heap.size) :: iv2 = iv3 at *
  obtain ⟨s3_0, s3_1, s3_2, s3_3, s3_4, s3_5, s3_6, s3_7, rfl⟩ := hR.shape
  conv => whnf
  intro ρe we re
  exact ⟨_, rfl, hw.tr re.bel, hR.out re (oldF w)⟩

theorem rSub_c {S : Nat → Prop} {w : World} {v u : Value} {p q : Rat} (hS : Old S w) (hp : RatL w S v p) (hq : RatL w S u q) :
    Con PG N.ref01_Sub #[v, u] w (Ret w fun v' w2 => RatC w2 (Nw (fun _ => False) w w2) v' (p - q)) := by
  have hw : Bel w.heap.size w w := Bel.refl
  replace hp := hp.weak (S' := Cv S w.heap.size []) fun _ h => .inl h
  replace hq := hq.weak (S' := Cv S w.heap.size []) fun _ h => .inl h
  obtain ⟨b1, a1, n1, c1, b2, a2, n2, c2, rfl⟩ := hp.shape
  obtain ⟨b3, a3, n3, c3, b4, a4, n4, c4, rfl⟩ := hq.shape
  refine in_ref01_Sub (by simp) ?_
  conv => whnf
  have r1 := hp.rl
  have r2 := hq.rl
  have u1 := rl_neg q
  refine drawn_of_pi hτ hmix [.x 0, .x 1, .x 2, .x 3, .x 4] (by kernel_rfl) (by kernel_rfl) ?_
  conv => whnf
  refine callE_con (Φ := fun _ w' v w2 => RatC w2 (Nw (fun _ => False) w' w2) v (-q)) (fun ρ w' r => rNeg_c (Rel.old r hS) (hq.rel r hS)) ?_
  rintro ρ wa1 v1 wb1 r he hb hn
  replace hw := hw.tr hb
  replace hp := hp.past (iv' := (wa1.heap.size, wb1.heap.size) :: []) r hS he fun x hx => List.mem_cons_of_mem _ hx
  clear hq
  have hN := hn.got (S := fun _ => False) r.baseLe (iv := (wa1.heap.size, wb1.heap.size) :: []) List.mem_cons_self
  clear r he hb hn
  generalize (wa1.heap.size, wb1.heap.size) :: [] = iv1 at *
  obtain ⟨s1_0, s1_1, s1_2, s1_3, s1_4, s1_5, s1_6, s1_7, rfl⟩ := hN.shape
  conv => whnf
  refine callE_con (Φ := fun _ w' v w2 => RatC w2 (Nw (fun _ => False) w' w2) v (p - q)) (fun ρ w' r => (Rat.sub_eq_add_neg p q) ▸ rAdd_c (Rel.old r hS) (hp.rel r hS) (((hN.rel r (oldF w)).l (by omega)).weak fun g hg => Cv.false hg)) ?_
  rintro ρ wa2 v2 wb2 r he hb hn
  replace hw := hw.tr hb
  clear hp
  clear hN
  have hR := hn.got (S := fun _ => False) r.baseLe (iv := (wa2.heap.size, wb2.heap.size) :: iv1) List.mem_cons_self
  clear r he hb hn
  generalize (wa2.heap.size, wb2.heap.size) :: iv1 = iv2 at *
  obtain ⟨s2_0, s2_1, s2_2, s2_3, s2_4, s2_5, s2_6, s2_7, rfl⟩ := hR.shape
  conv => whnf
  intro ρe we re
  exact ⟨_, rfl, hw.tr re.bel, hR.out re (oldF w)⟩

theorem rCmp_c {S : Nat → Prop} {w : World} {v u : Value} {p q : Rat} (hS : Old S w) (hp : RatL w S v p) (hq : RatL w S u q) :
    Con PG N.ref01_Cmp #[v, u] w (Ret w fun v' _ => v' = .int .i64 (rs (p - q))) := by
  have hw : Bel w.heap.size w w := Bel.refl
  replace hp := hp.weak (S' := Cv S w.heap.size []) fun _ h => .inl h
  replace hq := hq.weak (S' := Cv S w.heap.size []) fun _ h => .inl h
  obtain ⟨b1, a1, n1, c1, b2, a2, n2, c2, rfl⟩ := hp.shape
  obtain ⟨b3, a3, n3, c3, b4, a4, n4, c4, rfl⟩ := hq.shape
  refine in_ref01_Cmp (by simp) ?_
  conv => whnf
  refine callE_S (callE_con (Φ := fun _ w' v w2 => RatC w2 (Nw (fun _ => False) w' w2) v (p - q)) (fun ρ w' r => rSub_c (Rel.old r hS) (hp.rel r hS) (hq.rel r hS)) ?_)
  rintro ρ wa1 v1 wb1 r he hb hn
  replace hw := hw.tr hb
  clear hp
  clear hq
  have hR := hn.got (S := fun _ => False) r.baseLe (iv := (wa1.heap.size, wb1.heap.size) :: []) List.mem_cons_self
  clear r he hb hn
  generalize (wa1.heap.size, wb1.heap.size) :: [] = iv1 at *
  obtain ⟨s1_0, s1_1, s1_2, s1_3, s1_4, s1_5, s1_6, s1_7, rfl⟩ := hR.shape
  conv => whnf
  refine callE_S (callE_con (Φ := fun _ w' v w2 => v = .int .i64 (rs (p - q))) (fun ρ w' r => rSignOf_c (Rel.old r (oldF w)) (hR.rel r (oldF w))) ?_)
  rintro ρ wa2 v2 wb2 r he hb rfl
  replace hw := hw.tr hb
  clear hR
  clear r he hb
  generalize (wa2.heap.size, wb2.heap.size) :: iv1 = iv2 at *
  conv => whnf
  intro ρe we re
  exact ⟨_, rfl, hw.tr re.bel, rfl⟩

theorem rQuo_c {S : Nat → Prop} {w : World} {v u : Value} {p q : Rat} (hS : Old S w) (hp : RatL w S v p) (hq : RatL w S u q) :
    Con PG N.ref01_Quo #[v, u] w (Ret w fun v' w2 => (q = 0 ∧ v' = .tuple #[ratNil, .int .i64 9]) ∨ (q ≠ 0 ∧ ∃ r, v' = .tuple #[r, .int .i64 0] ∧ RatC w2 (Nw (fun _ => False) w w2) r (p / q))) := by
  have hw : Bel w.heap.size w w := Bel.refl
  replace hp := hp.weak (S' := Cv S w.heap.size []) fun _ h => .inl h
  replace hq := hq.weak (S' := Cv S w.heap.size []) fun _ h => .inl h
  obtain ⟨b1, a1, n1, c1, b2, a2, n2, c2, rfl⟩ := hp.shape
  obtain ⟨b3, a3, n3, c3, b4, a4, n4, c4, rfl⟩ := hq.shape
  refine in_ref01_Quo (by simp) ?_
  conv => whnf
  have r1 := hp.rl
  have r2 := hq.rl
  have u1 := rl_num p
  have u2 := rl_den' p
  have u3 := rl_num q
  have u4 := rl_den' q
  have m0 := ln_mul_abs p.num q.den
  have m1 := ln_mul_abs (p.den : Int) q.num
  refine drawn_of_pi hτ hmix [.x 0, .x 2, .x 1, .x 3, .x 4, .x 5] (by kernel_rfl) (by kernel_rfl) ?_
  conv => whnf
  refine callE_con (Φ := fun _ w' v w2 => RatC w2 (Nw (fun _ => False) w' w2) v (p)) (fun ρ w' r => rNormal_c (Rel.old r hS) (hp.rel r hS)) ?_
  rintro ρ wa1 v1 wb1 r he hb hn
  replace hw := hw.tr hb
  clear hp
  replace hq := hq.past (iv' := (wa1.heap.size, wb1.heap.size) :: []) r hS he fun x hx => List.mem_cons_of_mem _ hx
  have hX := hn.got (S := fun _ => False) r.baseLe (iv := (wa1.heap.size, wb1.heap.size) :: []) List.mem_cons_self
  clear r he hb hn
  generalize (wa1.heap.size, wb1.heap.size) :: [] = iv1 at *
  obtain ⟨s1_0, s1_1, s1_2, s1_3, s1_4, s1_5, s1_6, s1_7, rfl⟩ := hX.shape
  conv => whnf
  refine callE_con (Φ := fun _ w' v w2 => RatC w2 (Nw (fun _ => False) w' w2) v (q)) (fun ρ w' r => rNormal_c (Rel.old r hS) (hq.rel r hS)) ?_
  rintro ρ wa2 v2 wb2 r he hb hn
  replace hw := hw.tr hb
  clear hq
  replace hX := hX.past (iv' := (wa2.heap.size, wb2.heap.size) :: iv1) r (oldF w) he fun x hx => List.mem_cons_of_mem _ hx
  have hY := hn.got (S := fun _ => False) r.baseLe (iv := (wa2.heap.size, wb2.heap.size) :: iv1) List.mem_cons_self
  clear r he hb hn
  generalize (wa2.heap.size, wb2.heap.size) :: iv1 = iv2 at *
  obtain ⟨s2_0, s2_1, s2_2, s2_3, s2_4, s2_5, s2_6, s2_7, rfl⟩ := hY.shape
  conv => whnf
  refine callE_S (callE_con (Φ := fun _ w' v w2 => v = .int .i64 (rs q)) (fun ρ w' r => rSignOf_c (Rel.old r (oldF w)) (hY.rel r (oldF w))) ?_)
  rintro ρ wa3 v3 wb3 r he hb rfl
  replace hw := hw.tr hb
  replace hX := hX.past (iv' := (wa3.heap.size, wb3.heap.size) :: iv2) r (oldF w) he fun x hx => List.mem_cons_of_mem _ hx
  replace hY := hY.past (iv' := (wa3.heap.size, wb3.heap.size) :: iv2) r (oldF w) he fun x hx => List.mem_cons_of_mem _ hx
  clear r he hb
  generalize (wa3.heap.size, wb3.heap.size) :: iv2 = iv3 at *
  conv => whnf
  refine BrS.mk (fun h => ?_) (fun h => ?_)
  · have h : rs q = 0 := by simpa using h
    conv => whnf
    intro ρe we re
    exact ⟨_, rfl, hw.tr re.bel, .inl ⟨rs_zero.1 h, rfl⟩⟩
  have h : q ≠ 0 := fun e => by rw [e] at h; exact absurd h (by decide)
  have hqn : q.num ≠ 0 := fun e => h (Rat.num_eq_zero.1 e)
  conv => whnf
  have hXn := hX.num
  have hXd := hX.den
  clear hX
  have hYn := hY.num
  have hYd := hY.den
  clear hY
  refine drawn_of_pi hτ hmix [.x 0, .x 1, .x 2, .x 3, .x 5, .x 6, .x 7, .x 8, .x 4, .x 9, .x 10, .x 11, .x 12] (by kernel_rfl) (by kernel_rfl) ?_
  conv => whnf
  refine callE_con (Φ := fun _ w' v w2 => IntC w2 (Nw (fun _ => False) w' w2) v (p.num * (q.den : Int))) (fun ρ w' r => rProd_c (Rel.old r (oldF w)) ((hXn.rel r (oldF w)).l (k := 100000) (by omega)) ((hYd.rel r (oldF w)).l (k := 100000) (by omega)) (by omega) (by omega)) ?_
  rintro ρ wa4 v4 wb4 r he hb hn
  replace hw := hw.tr hb
  clear hXn
  replace hXd := hXd.past (iv' := (wa4.heap.size, wb4.heap.size) :: iv3) r (oldF w) he fun x hx => List.mem_cons_of_mem _ hx
  replace hYn := hYn.past (iv' := (wa4.heap.size, wb4.heap.size) :: iv3) r (oldF w) he fun x hx => List.mem_cons_of_mem _ hx
  clear hYd
  have hN := hn.got (S := fun _ => False) r.baseLe (iv := (wa4.heap.size, wb4.heap.size) :: iv3) List.mem_cons_self
  clear r he hb hn
  generalize (wa4.heap.size, wb4.heap.size) :: iv3 = iv4 at *
  obtain ⟨s4_0, s4_1, s4_2, s4_3, rfl⟩ := hN.shape
  conv => whnf
  refine callE_con (Φ := fun _ w' v w2 => IntC w2 (Nw (fun _ => False) w' w2) v ((p.den : Int) * q.num)) (fun ρ w' r => rProd_c (Rel.old r (oldF w)) ((hXd.rel r (oldF w)).l (k := 100000) (by omega)) ((hYn.rel r (oldF w)).l (k := 100000) (by omega)) (by omega) (by omega)) ?_
  rintro ρ wa5 v5 wb5 r he hb hn
  replace hw := hw.tr hb
  clear hXd
  clear hYn
  replace hN := hN.past (iv' := (wa5.heap.size, wb5.heap.size) :: iv4) r (oldF w) he fun x hx => List.mem_cons_of_mem _ hx
  have hD := hn.got (S := fun _ => False) r.baseLe (iv := (wa5.heap.size, wb5.heap.size) :: iv4) List.mem_cons_self
  clear r he hb hn
  generalize (wa5.heap.size, wb5.heap.size) :: iv4 = iv5 at *
  obtain ⟨s5_0, s5_1, s5_2, s5_3, rfl⟩ := hD.shape
  conv => whnf
  refine callE_con (Φ := fun _ w' v w2 => RatC w2 (Nw (fun _ => False) w' w2) v (p / q)) (fun ρ w' r => (rat_div p q) ▸ rOver_c (Rel.old r (oldF w)) ((hN.rel r (oldF w)).l (k := 200001) (by omega)) ((hD.rel r (oldF w)).l (k := 200001) (by omega)) (by omega) (by omega) (mul_ne (den_ne p) hqn)) ?_
  rintro ρ wa6 v6 wb6 r he hb hn
  replace hw := hw.tr hb
  clear hN
  clear hD
  have hR := hn.got (S := fun _ => False) r.baseLe (iv := (wa6.heap.size, wb6.heap.size) :: iv5) List.mem_cons_self
  clear r he hb hn
  generalize (wa6.heap.size, wb6.heap.size) :: iv5 = iv6 at *
  obtain ⟨s6_0, s6_1, s6_2, s6_3, s6_4, s6_5, s6_6, s6_7, rfl⟩ := hR.shape
  conv => whnf
  intro ρe we re
  exact ⟨_, rfl, hw.tr re.bel, .inr ⟨h, _, rfl, hR.out re (oldF w)⟩⟩

theorem rFloor_c {S : Nat → Prop} {w : World} {v : Value} {p : Rat} (hS : Old S w) (hp : RatL w S v p) :
    Con PG N.ref01_Floor #[v] w (Ret w fun v' w2 => IntC w2 (Nw (fun _ => False) w w2) v' (p.num / p.den)) := by
  have hw : Bel w.heap.size w w := Bel.refl
  replace hp := hp.weak (S' := Cv S w.heap.size []) fun _ h => .inl h
  obtain ⟨b1, a1, n1, c1, b2, a2, n2, c2, rfl⟩ := hp.shape
  refine in_ref01_Floor (by simp) ?_
  conv => whnf
  have r1 := hp.rl
  have u1 := rl_num p
  have u2 := rl_den' p
  refine callE_S (callE_con (Φ := fun _ w' v w2 => RatC w2 (Nw (fun _ => False) w' w2) v (p)) (fun ρ w' r => rNormal_c (Rel.old r hS) (hp.rel r hS)) ?_)
  rintro ρ wa1 v1 wb1 r he hb hn
  replace hw := hw.tr hb
  clear hp
  have hX := hn.got (S := fun _ => False) r.baseLe (iv := (wa1.heap.size, wb1.heap.size) :: []) List.mem_cons_self
  clear r he hb hn
  generalize (wa1.heap.size, wb1.heap.size) :: [] = iv1 at *
  obtain ⟨s1_0, s1_1, s1_2, s1_3, s1_4, s1_5, s1_6, s1_7, rfl⟩ := hX.shape
  conv => whnf
  have hXn := hX.num
  have hXd := hX.den
  clear hX
  refine callE_S (callE_con (Φ := fun _ w' v w2 => ∃ q r, v = .tuple #[q, r, .int .i64 0] ∧ IntC w2 (Nw (fun _ => False) w' w2) q (p.num / p.den) ∧ IntC w2 (Nw (fun _ => False) w' w2) r (p.num % p.den)) (fun ρ w' r => rDivNon_c (Rel.old r (oldF w)) ((hXn.rel r (oldF w)).l (k := 100000) (by omega)) ((hXd.rel r (oldF w)).l (k := 100000) (by omega)) (by omega) (by omega) (den_ne p)) ?_)
  rintro ρ wa2 v2 wb2 r he hb ⟨q, rr, rfl, k1, k2⟩
  replace hw := hw.tr hb
  clear hXn
  clear hXd
  have hq := k1.got (S := fun _ => False) r.baseLe (iv := (wa2.heap.size, wb2.heap.size) :: iv1) List.mem_cons_self
  have hr := k2.got (S := fun _ => False) r.baseLe (iv := (wa2.heap.size, wb2.heap.size) :: iv1) List.mem_cons_self
  clear r he hb
  generalize (wa2.heap.size, wb2.heap.size) :: iv1 = iv2 at *
  obtain ⟨s2_0a, s2_0b, s2_0c, s2_0d, rfl⟩ := hq.shape
  obtain ⟨s2_1a, s2_1b, s2_1c, s2_1d, rfl⟩ := hr.shape
  clear k1 k2 hr
  conv => whnf
  intro ρe we re
  exact ⟨_, rfl, hw.tr re.bel, hq.out re (oldF w)⟩

theorem rWholeAll_c (n : Int) (w : World) (h1n : -9223372036854775808 ≤ n) (h2n : n ≤ 9223372036854775807) :
    Con PG N.ref01_Whole #[.int .i64 n] w (Ret w fun v' w2 => RatC w2 (Nw (fun _ => False) w w2) v' (n : Rat)) := by
  have hw : Bel w.heap.size w w := Bel.refl
  have ha := ln_small h1n h2n
  refine in_ref01_Whole (by simp) ?_
  conv => whnf
  refine callE_S (callE_con (Φ := fun _ w' v w2 => IntC w2 (Nw (fun _ => False) w' w2) v (n)) (fun ρ w' r => rOf_c n w' h1n h2n) ?_)
  rintro ρ wa1 v1 wb1 r he hb hn
  replace hw := hw.tr hb
  have hA := hn.got (S := fun _ => False) r.baseLe (iv := (wa1.heap.size, wb1.heap.size) :: []) List.mem_cons_self
  clear r he hb hn
  generalize (wa1.heap.size, wb1.heap.size) :: [] = iv1 at *
  obtain ⟨s1_0, s1_1, s1_2, s1_3, rfl⟩ := hA.shape
  conv => whnf
  refine callE_S (callE_con (Φ := fun _ w' v w2 => IntC w2 (Nw (fun _ => False) w' w2) v (1)) (fun ρ w' r => rOf_c 1 w' (by decide) (by decide)) ?_)
  rintro ρ wa2 v2 wb2 r he hb hn
  replace hw := hw.tr hb
  replace hA := hA.past (iv' := (wa2.heap.size, wb2.heap.size) :: iv1) r (oldF w) he fun x hx => List.mem_cons_of_mem _ hx
  have hB := hn.got (S := fun _ => False) r.baseLe (iv := (wa2.heap.size, wb2.heap.size) :: iv1) List.mem_cons_self
  clear r he hb hn
  generalize (wa2.heap.size, wb2.heap.size) :: iv1 = iv2 at *
  obtain ⟨s2_0, s2_1, s2_2, s2_3, rfl⟩ := hB.shape
  conv => whnf
  refine callE_S (callE_con (Φ := fun _ w' v w2 => RatC w2 (Nw (fun _ => False) w' w2) v ((n : Rat))) (fun ρ w' r => (divInt_one n) ▸ rOver_c (Rel.old r (oldF w)) ((hA.rel r (oldF w)).l (k := 2) (by omega)) ((hB.rel r (oldF w)).l (k := 2) (by decide)) (by omega) (by omega) (by decide)) ?_)
  rintro ρ wa3 v3 wb3 r he hb hn
  replace hw := hw.tr hb
  clear hA
  clear hB
  have hR := hn.got (S := fun _ => False) r.baseLe (iv := (wa3.heap.size, wb3.heap.size) :: iv2) List.mem_cons_self
  clear r he hb hn
  generalize (wa3.heap.size, wb3.heap.size) :: iv2 = iv3 at *
  obtain ⟨s3_0, s3_1, s3_2, s3_3, s3_4, s3_5, s3_6, s3_7, rfl⟩ := hR.shape
  conv => whnf
  intro ρe we re
  exact ⟨_, rfl, hw.tr re.bel, hR.out re (oldF w)⟩

theorem rRatio_c (a b : Int) (w : World) (h1a : -9223372036854775808 ≤ a) (h2a : a ≤ 9223372036854775807) (h1b : -9223372036854775808 ≤ b) (h2b : b ≤ 9223372036854775807) :
    Con PG N.ref01_Ratio #[.int .i64 a, .int .i64 b] w (Ret w fun v' w2 => (b = 0 ∧ v' = .tuple #[ratNil, .int .i64 9]) ∨ (b ≠ 0 ∧ ∃ q, v' = .tuple #[q, .int .i64 0] ∧ RatC w2 (Nw (fun _ => False) w w2) q (Rat.divInt a b))) := by
  have hw : Bel w.heap.size w w := Bel.refl
  have ha := ln_small h1a h2a
  have hb' := ln_small h1b h2b
  refine in_ref01_Ratio (by simp) ?_
  conv => whnf
  refine BrS.mk (fun h => ?_) (fun h => ?_)
  · have h : b = 0 := by simpa using h
    conv => whnf
    intro ρe we re
    exact ⟨_, rfl, hw.tr re.bel, .inl ⟨h, rfl⟩⟩
  have h : b ≠ 0 := by simpa using h
  conv => whnf
  refine callE_S (callE_con (Φ := fun _ w' v w2 => IntC w2 (Nw (fun _ => False) w' w2) v (a)) (fun ρ w' r => rOf_c a w' h1a h2a) ?_)
  rintro ρ wa1 v1 wb1 r he hb hn
  replace hw := hw.tr hb
  have hA := hn.got (S := fun _ => False) r.baseLe (iv := (wa1.heap.size, wb1.heap.size) :: []) List.mem_cons_self
  clear r he hb hn
  generalize (wa1.heap.size, wb1.heap.size) :: [] = iv1 at *
  obtain ⟨s1_0, s1_1, s1_2, s1_3, rfl⟩ := hA.shape
  conv => whnf
  refine callE_S (callE_con (Φ := fun _ w' v w2 => IntC w2 (Nw (fun _ => False) w' w2) v (b)) (fun ρ w' r => rOf_c b w' h1b h2b) ?_)
  rintro ρ wa2 v2 wb2 r he hb hn
  replace hw := hw.tr hb
  replace hA := hA.past (iv' := (wa2.heap.size, wb2.heap.size) :: iv1) r (oldF w) he fun x hx => List.mem_cons_of_mem _ hx
  have hB := hn.got (S := fun _ => False) r.baseLe (iv := (wa2.heap.size, wb2.heap.size) :: iv1) List.mem_cons_self
  clear r he hb hn
  generalize (wa2.heap.size, wb2.heap.size) :: iv1 = iv2 at *
  obtain ⟨s2_0, s2_1, s2_2, s2_3, rfl⟩ := hB.shape
  conv => whnf
  refine callE_S (callE_con (Φ := fun _ w' v w2 => RatC w2 (Nw (fun _ => False) w' w2) v (Rat.divInt a b)) (fun ρ w' r => rOver_c (Rel.old r (oldF w)) ((hA.rel r (oldF w)).l (k := 2) (by omega)) ((hB.rel r (oldF w)).l (k := 2) (by omega)) (by omega) (by omega) h) ?_)
  rintro ρ wa3 v3 wb3 r he hb hn
  replace hw := hw.tr hb
  clear hA
  clear hB
  have hR := hn.got (S := fun _ => False) r.baseLe (iv := (wa3.heap.size, wb3.heap.size) :: iv2) List.mem_cons_self
  clear r he hb hn
  generalize (wa3.heap.size, wb3.heap.size) :: iv2 = iv3 at *
  obtain ⟨s3_0, s3_1, s3_2, s3_3, s3_4, s3_5, s3_6, s3_7, rfl⟩ := hR.shape
  conv => whnf
  intro ρe we re
  exact ⟨_, rfl, hw.tr re.bel, .inr ⟨h, _, rfl, hR.out re (oldF w)⟩⟩

end Go.Ex

/- ExactFractions of the laws of chapter 1. Printed by program. No condition. -/
namespace Go.Ex
open Go Go.Sx Go.Proofs

/-- two integers in normal form: a fraction as it stands -/
def RatD (w : World) (S : Nat → Prop) (v : Value) (a b : Int) : Prop := ∃ b1 l1 b2 l2, v = .agg #[.bool b1, l1, .bool b2, l2] ∧ IntC w S (.agg #[.bool b1, l1]) a ∧ IntC w S (.agg #[.bool b2, l2]) b
theorem RatD.keep {S : Nat → Prop} {w w2 : World} {v : Value} {a b : Int} (h : RatD w S v a b) (hk : ∀ g, S g → w2.heap[g]? = w.heap[g]?) : RatD w2 S v a b := by
  obtain ⟨b1, l1, b2, l2, h1, h2, h3⟩ := h; exact ⟨b1, l1, b2, l2, h1, h2.keep hk, h3.keep hk⟩
theorem RatD.weak {S S' : Nat → Prop} {w : World} {v : Value} {a b : Int} (h : RatD w S v a b) (hk : ∀ g, S g → S' g) : RatD w S' v a b := by
  obtain ⟨b1, l1, b2, l2, h1, h2, h3⟩ := h; exact ⟨b1, l1, b2, l2, h1, h2.weak hk, h3.weak hk⟩
theorem RatD.shape {S : Nat → Prop} {w : World} {v : Value} {x y : Int} (h : RatD w S v x y) : ∃ b a n c b2 a2 n2 c2, v = .agg #[.bool b, .slice a n c, .bool b2, .slice a2 n2 c2] := by
  obtain ⟨b1, l1, b2, l2, h1, h2, h3⟩ := h; exact RatR.shape ⟨b1, l1, b2, l2, h1, h2.r, h3.r⟩
theorem RatC.d {S : Nat → Prop} {w : World} {v : Value} {q : Rat} (h : RatC w S v q) : RatD w S v q.num q.den := h
theorem RatD.nil (w : World) (S : Nat → Prop) : RatD w S ratNil 0 0 := ⟨_, _, _, _, rfl, IntC.nil w S, IntC.nil w S⟩
section
variable {S S' : Nat → Prop} {H : Hp} {nx : Nat} {iv iv' : Iv} {B : Nat} {w w' w2 : World} {ρ : Nat → Sx.Val} {v : Value} {a : Int} {b : Int}
theorem RatD.rel (h : RatD w (Cv S B iv) v a b) (r : Rel H nx iv B w ρ w') (hS : ∀ g, S g → g < B) : RatD w' (Cv S B iv) v a b := h.keep fun _ hg => Rel.same r hS hg
theorem RatD.past (h : RatD w (Cv S B iv) v a b) (r : Rel H nx iv B w ρ w') (hS : ∀ g, S g → g < B) (he : Ext w' w2) (hm : ∀ p, p ∈ iv → p ∈ iv') : RatD w2 (Cv S B iv') v a b :=
  ((h.rel r hS).keep fun g hg => he.block g (Rel.old r hS g hg)).weak fun _ hg => hg.mono hm
theorem RatD.got (h : RatD w2 (Nw (fun _ => False) w' w2) v a b) (hB : B ≤ w'.heap.size) (hm : (w'.heap.size, w2.heap.size) ∈ iv) : RatD w2 (Cv S B iv) v a b := h.weak fun _ hg => hg.got hB hm
theorem RatD.old (h : RatD w2 (Nw (Cv S B iv) w' w2) v a b) (hB : B ≤ w'.heap.size) : RatD w2 (Cv S B ((w'.heap.size, w2.heap.size) :: iv)) v a b := h.weak fun _ hg => Nw.cv hg hB
theorem RatD.out {w0 w1 : World} (h : RatD w1 (Cv S w0.heap.size iv) v a b) (r : Rel H nx iv w0.heap.size w1 ρ w') (hS : Old S w0) : RatD w' (Nw S w0 w') v a b :=
  (h.rel r hS).weak fun _ hg => Cv.nw hg r
theorem RatD.arg (h : RatD w S v a b) (iv : Iv) : RatD w (Cv S w.heap.size iv) v a b := h.weak fun _ h => .inl h
end

theorem IntR.short {S : Nat → Prop} {w : World} {b : Bool} {a : Option Addr} {n c k : Nat} {z : Int} (h : IntR w S (.agg #[.bool b, .slice a n c]) z) (hk : n ≤ k) : IntL w S (.agg #[.bool b, .slice a n c]) k z := by
  obtain ⟨b2, ls, ⟨lv, e1, h3⟩, h2⟩ := h
  obtain ⟨a2, c2, e2, _⟩ := h3.sl
  subst e2
  simp only [Value.agg.injEq, Array.mk.injEq, List.cons.injEq, Value.bool.injEq, Value.slice.injEq, and_true] at e1
  obtain ⟨rfl, rfl, e3, rfl⟩ := e1
  exact ⟨_, ls, ⟨_, by rw [e3], h3⟩, h2, by omega⟩
theorem RatR.shortL {S : Nat → Prop} {w : World} {b1 b2 : Bool} {a1 a2 : Option Addr} {n1 n2 c1 c2 : Nat} {a b : Int} (h : RatR w S (.agg #[.bool b1, .slice a1 n1 c1, .bool b2, .slice a2 n2 c2]) a b) (k1 : n1 ≤ 3) (k2 : n2 ≤ 3) :
    RatL w S (.agg #[.bool b1, .slice a1 n1 c1, .bool b2, .slice a2 n2 c2]) (ratio a b) ∧ rl (ratio a b) ≤ 3 := by
  obtain ⟨b1, l1, b2, l2, e, h1, h2⟩ := h
  simp only [Value.agg.injEq, Array.mk.injEq, List.cons.injEq, Value.bool.injEq, and_true] at e
  obtain ⟨rfl, rfl, rfl, rfl⟩ := e
  have i1 := h1.short k1
  have i2 := h2.short k2
  have q1 := i1.ln
  have q2 := i2.ln
  have q3 := rl_ratio a b
  exact ⟨⟨_, _, _, _, a, b, rfl, i1.up (by omega), i2.up (by omega), rfl⟩, by omega⟩
theorem sameD_c {S : Nat → Prop} {w : World} {v u : Value} {a b c d : Int} (hS : Old S w) (hx : RatD w S v a b) (hy : RatD w S u c d) :
    Con PG N.ref01_Same #[v, u] w (Ret w fun v' _ => v' = .bool (decide (a = c ∧ b = d))) := by
  have hw : Bel w.heap.size w w := Bel.refl
  obtain ⟨b1, l1, b2, l2, rfl, ha, hb'⟩ := hx
  obtain ⟨b3, l3, b4, l4, rfl, hc, hd⟩ := hy
  obtain ⟨_, a1, n1, c1, e1⟩ := ha.shape
  simp only [Value.agg.injEq, Array.mk.injEq, List.cons.injEq, and_true] at e1
  obtain ⟨_, rfl⟩ := e1
  obtain ⟨_, a2, n2, c2, e2⟩ := hb'.shape
  simp only [Value.agg.injEq, Array.mk.injEq, List.cons.injEq, and_true] at e2
  obtain ⟨_, rfl⟩ := e2
  obtain ⟨_, a3, n3, c3, e3⟩ := hc.shape
  simp only [Value.agg.injEq, Array.mk.injEq, List.cons.injEq, and_true] at e3
  obtain ⟨_, rfl⟩ := e3
  obtain ⟨_, a4, n4, c4, e4⟩ := hd.shape
  simp only [Value.agg.injEq, Array.mk.injEq, List.cons.injEq, and_true] at e4
  obtain ⟨_, rfl⟩ := e4
  replace ha := ha.weak (S' := Cv S w.heap.size []) fun _ h => .inl h
  replace hb' := hb'.weak (S' := Cv S w.heap.size []) fun _ h => .inl h
  replace hc := hc.weak (S' := Cv S w.heap.size []) fun _ h => .inl h
  replace hd := hd.weak (S' := Cv S w.heap.size []) fun _ h => .inl h
  refine in_ref01_Same (by simp) ?_
  conv => whnf
  refine callE_S (callE_con (Φ := fun _ w' v w2 => v = .bool (decide (a = c))) (fun ρ w' r => sameInt_c (Rel.old r hS) (ha.rel r hS) (hc.rel r hS)) ?_)
  rintro ρ wa1 v1 wb1 r he hb rfl
  replace hw := hw.tr hb
  clear ha
  replace hb' := hb'.past (iv' := (wa1.heap.size, wb1.heap.size) :: []) r hS he fun x hx => List.mem_cons_of_mem _ hx
  clear hc
  replace hd := hd.past (iv' := (wa1.heap.size, wb1.heap.size) :: []) r hS he fun x hx => List.mem_cons_of_mem _ hx
  clear r he hb
  generalize (wa1.heap.size, wb1.heap.size) :: [] = iv1 at *
  conv => whnf
  refine BrS.mk (fun h => ?_) (fun h => ?_)
  · have h := of_decide_eq_true h
    conv => whnf
    refine callE_S (callE_con (Φ := fun _ w' v w2 => v = .bool (decide (b = d))) (fun ρ w' r => sameInt_c (Rel.old r hS) (hb'.rel r hS) (hd.rel r hS)) ?_)
    rintro ρ wa2 v2 wb2 r he hb rfl
    replace hw := hw.tr hb
    clear hb'
    clear hd
    clear r he hb
    generalize (wa2.heap.size, wb2.heap.size) :: iv1 = iv2 at *
    conv => whnf
    intro ρe we re
    exact ⟨_, rfl, hw.tr re.bel, by rw [show decide (a = c ∧ b = d) = decide (b = d) by simp [h]]; rfl⟩
  have h := of_decide_eq_false h
  conv => whnf
  intro ρe we re
  exact ⟨_, rfl, hw.tr re.bel, by rw [decide_eq_false (fun e => h e.1)]; rfl⟩
/-- numerator, denominator and error of a quotient of machine integers -/
def ratioT (a b : Int) : Int × Int × Int := if b = 0 then (0, 0, 9) else ((Rat.divInt a b).num, (Rat.divInt a b).den, 0)
def quoT (p q : Rat) : Int × Int × Int := if q = 0 then (0, 0, 9) else ((p / q).num, (p / q).den, 0)
theorem pairV {w2 : World} {S : Nat → Prop} {v : Value} {c : Prop} {q : Rat} {t : Int × Int × Int} (h : (c ∧ v = .tuple #[ratNil, .int .i64 9]) ∨ (¬ c ∧ ∃ r, v = .tuple #[r, .int .i64 0] ∧ RatC w2 S r q)) (ht : (c → t = (0, 0, 9)) ∧ (¬ c → t = (q.num, (q.den : Int), 0))) :
    ∃ r, v = .tuple #[r, .int .i64 t.2.2] ∧ RatD w2 S r t.1 t.2.1 := by
  rcases h with ⟨h1, rfl⟩ | ⟨h1, r, rfl, h2⟩
  · rw [ht.1 h1]; exact ⟨_, rfl, RatD.nil _ _⟩
  · rw [ht.2 h1]; exact ⟨_, rfl, h2.d⟩
theorem pubRatioT_c (a b : Int) (w : World) (h1a : -9223372036854775808 ≤ a) (h2a : a ≤ 9223372036854775807) (h1b : -9223372036854775808 ≤ b) (h2b : b ≤ 9223372036854775807) : Con PG N.exact_Ratio #[.int .i64 a, .int .i64 b] w (Ret w fun v' w2 => ∃ r, v' = .tuple #[r, .int .i64 (ratioT a b).2.2] ∧ RatD w2 (Nw (fun _ => False) w w2) r (ratioT a b).1 (ratioT a b).2.1) :=
  (pubRatio_c a b w h1a h2a h1b h2b).mono fun _ _ ⟨v2, e1, e2, e3⟩ => ⟨v2, e1, e2, pairV e3 ⟨fun h => if_pos h, fun h => if_neg h⟩⟩
theorem rRatioT_c (a b : Int) (w : World) (h1a : -9223372036854775808 ≤ a) (h2a : a ≤ 9223372036854775807) (h1b : -9223372036854775808 ≤ b) (h2b : b ≤ 9223372036854775807) : Con PG N.ref01_Ratio #[.int .i64 a, .int .i64 b] w (Ret w fun v' w2 => ∃ r, v' = .tuple #[r, .int .i64 (ratioT a b).2.2] ∧ RatD w2 (Nw (fun _ => False) w w2) r (ratioT a b).1 (ratioT a b).2.1) :=
  (rRatio_c a b w h1a h2a h1b h2b).mono fun _ _ ⟨v2, e1, e2, e3⟩ => ⟨v2, e1, e2, pairV e3 ⟨fun h => if_pos h, fun h => if_neg h⟩⟩
theorem pubQuoT_c {S : Nat → Prop} {w : World} {v u : Value} {p q : Rat} (hS : Old S w) (hp : RatV w S v p) (hq : RatV w S u q) : Con PG N.exact_Quo #[v, u] w (Ret w fun v' w2 => ∃ r, v' = .tuple #[r, .int .i64 (quoT p q).2.2] ∧ RatD w2 (Nw (fun _ => False) w w2) r (quoT p q).1 (quoT p q).2.1) :=
  (vQuo_c hS hp hq).mono fun _ _ ⟨v2, e1, e2, e3⟩ => ⟨v2, e1, e2, pairV e3 ⟨fun h => if_pos h, fun h => if_neg h⟩⟩
theorem rQuoT_c {S : Nat → Prop} {w : World} {v u : Value} {p q : Rat} (hS : Old S w) (hp : RatL w S v p) (hq : RatL w S u q) : Con PG N.ref01_Quo #[v, u] w (Ret w fun v' w2 => ∃ r, v' = .tuple #[r, .int .i64 (quoT p q).2.2] ∧ RatD w2 (Nw (fun _ => False) w w2) r (quoT p q).1 (quoT p q).2.1) :=
  (rQuo_c hS hp hq).mono fun _ _ ⟨v2, e1, e2, e3⟩ => ⟨v2, e1, e2, pairV e3 ⟨fun h => if_pos h, fun h => if_neg h⟩⟩
end Go.Ex

/- CmpRoots of package exact and of the reference. Printed by program. No condition but sizes. -/
namespace Go.Ex
open Go Go.Sx Go.Proofs

/-- the square of f root(m), with the sign of f -/
def sqs (f : Rat) (m : Int) : Rat := if rs f < 0 then -(f * f * (m : Rat)) else f * f * (m : Rat)
theorem rl_sqs {f : Rat} {m : Int} {k : Nat} (h : rl f ≤ k) (h1 : -9223372036854775808 ≤ m) (h2 : m ≤ 9223372036854775807) : rl (sqs f m) ≤ 2 * k + 2 := by
  have e1 := rl_mul f f
  have e2 := rl_mul (f * f) (m : Rat)
  have e3 := rl_whole h1 h2
  rw [sqs]
  split
  · rw [rl_neg]; omega
  · omega
theorem sqs_c {S : Nat → Prop} {w : World} {v : Value} {f : Rat} {m : Int} (hS : Old S w) (hf : FracR w S v f) (hl : rl f ≤ 1000000) (h1 : -9223372036854775808 ≤ m) (h2 : m ≤ 9223372036854775807) :
    Con PG N.exact_CmpRoots_1 #[v, .int .i64 m] w (Ret w fun v' w2 => FracR w2 (Nw (fun _ => False) w w2) v' (sqs f m)) := by
  have hw : Bel w.heap.size w w := Bel.refl
  have r1 := rl_mul f f
  have r2 := rl_mul (f * f) (m : Rat)
  have r3 := rl_whole h1 h2
  replace hf := hf.weak (S' := Cv S w.heap.size []) fun _ h => .inl h
  obtain ⟨b1, a1, n1, c1, b2, a2, n2, c2, rfl⟩ := hf.shape
  refine in_exact_CmpRoots_1 (by simp) ?_
  conv => whnf
  refine callE_S (callE_con (Φ := fun _ w' v w2 => FracR w2 (Nw (fun _ => False) w' w2) v (f * f)) (fun ρ w' r => ftimes_c (Rel.old r hS) (hf.rel r hS) (hf.rel r hS) (by omega) (by omega)) ?_)
  rintro ρ wa1 v1 wb1 r he hb hn
  replace hw := hw.tr hb
  replace hf := hf.past (iv' := (wa1.heap.size, wb1.heap.size) :: []) r hS he fun x hx => List.mem_cons_of_mem _ hx
  have hff := hn.got (S := fun _ => False) r.baseLe (iv := (wa1.heap.size, wb1.heap.size) :: []) List.mem_cons_self
  clear r he hb hn
  generalize (wa1.heap.size, wb1.heap.size) :: [] = iv1 at *
  obtain ⟨s1_0, s1_1, s1_2, s1_3, s1_4, s1_5, s1_6, s1_7, rfl⟩ := hff.shape
  conv => whnf
  refine callE_S (callE_con (Φ := fun _ w' v w2 => FracR w2 (Nw (fun _ => False) w' w2) v ((m : Rat))) (fun ρ w' r => whole_c m w' h1 h2) ?_)
  rintro ρ wa2 v2 wb2 r he hb hn
  replace hw := hw.tr hb
  replace hf := hf.past (iv' := (wa2.heap.size, wb2.heap.size) :: iv1) r hS he fun x hx => List.mem_cons_of_mem _ hx
  replace hff := hff.past (iv' := (wa2.heap.size, wb2.heap.size) :: iv1) r (oldF w) he fun x hx => List.mem_cons_of_mem _ hx
  have hm := hn.got (S := fun _ => False) r.baseLe (iv := (wa2.heap.size, wb2.heap.size) :: iv1) List.mem_cons_self
  clear r he hb hn
  generalize (wa2.heap.size, wb2.heap.size) :: iv1 = iv2 at *
  obtain ⟨s2_0, s2_1, s2_2, s2_3, s2_4, s2_5, s2_6, s2_7, rfl⟩ := hm.shape
  conv => whnf
  refine callE_S (callE_con (Φ := fun _ w' v w2 => FracR w2 (Nw (fun _ => False) w' w2) v (f * f * (m : Rat))) (fun ρ w' r => ftimes_c (Rel.old r (oldF w)) (hff.rel r (oldF w)) (hm.rel r (oldF w)) (by omega) (by omega)) ?_)
  rintro ρ wa3 v3 wb3 r he hb hn
  replace hw := hw.tr hb
  replace hf := hf.past (iv' := (wa3.heap.size, wb3.heap.size) :: iv2) r hS he fun x hx => List.mem_cons_of_mem _ hx
  clear hff
  clear hm
  have hp := hn.got (S := fun _ => False) r.baseLe (iv := (wa3.heap.size, wb3.heap.size) :: iv2) List.mem_cons_self
  clear r he hb hn
  generalize (wa3.heap.size, wb3.heap.size) :: iv2 = iv3 at *
  obtain ⟨s3_0, s3_1, s3_2, s3_3, s3_4, s3_5, s3_6, s3_7, rfl⟩ := hp.shape
  conv => whnf
  refine callE_S (callE_con (Φ := fun _ w' v w2 => v = .int .i64 (rs f)) (fun ρ w' r => fsign_c (Rel.old r hS) (hf.rel r hS)) ?_)
  rintro ρ wa4 v4 wb4 r he hb rfl
  replace hw := hw.tr hb
  clear hf
  replace hp := hp.past (iv' := (wa4.heap.size, wb4.heap.size) :: iv3) r (oldF w) he fun x hx => List.mem_cons_of_mem _ hx
  clear r he hb
  generalize (wa4.heap.size, wb4.heap.size) :: iv3 = iv4 at *
  conv => whnf
  refine BrS.mk (fun h => ?_) (fun h => ?_)
  · have h := of_decide_eq_true h
    have e : sqs f m = -(f * f * (m : Rat)) := if_pos h
    conv => whnf
    refine callE_S (callE_con (Φ := fun _ w' v w2 => FracR w2 (Nw (Cv (fun _ => False) w.heap.size iv4) w' w2) v (-(f * f * (m : Rat)))) (fun ρ w' r => fminus_c (Rel.old r (oldF w)) (hp.rel r (oldF w))) ?_)
    rintro ρ wa5 v5 wb5 r he hb hn
    replace hw := hw.tr hb
    clear hp
    have hM := hn.old r.baseLe
    clear r he hb hn
    generalize (wa5.heap.size, wb5.heap.size) :: iv4 = iv5 at *
    obtain ⟨s5_0, s5_1, s5_2, s5_3, s5_4, s5_5, s5_6, s5_7, rfl⟩ := hM.shape
    conv => whnf
    intro ρe we re
    exact ⟨_, rfl, hw.tr re.bel, by rw [e]; exact hM.out re (oldF w)⟩
  have h := of_decide_eq_false h
  have e : sqs f m = f * f * (m : Rat) := if_neg h
  conv => whnf
  intro ρe we re
  exact ⟨_, rfl, hw.tr re.bel, by rw [e]; exact hp.out re (oldF w)⟩
theorem pubCmpRoots_c {S : Nat → Prop} {w : World} {v u : Value} {p q : Rat} {m n : Int} (hS : Old S w) (hp : RatV w S v p) (hq : RatV w S u q) (hm1 : -9223372036854775808 ≤ m) (hm2 : m ≤ 9223372036854775807) (hn1 : -9223372036854775808 ≤ n) (hn2 : n ≤ 9223372036854775807) :
    Con PG N.exact_CmpRoots #[v, .int .i64 m, u, .int .i64 n] w (Ret w fun v' _ => (m < 0 ∨ n < 0) ∧ v' = .tuple #[.int .i64 0, .int .i64 2] ∨ ¬ (m < 0 ∨ n < 0) ∧ v' = .tuple #[.int .i64 (rs (sqs p m - sqs q n)), .int .i64 0]) := by
  have hw : Bel w.heap.size w w := Bel.refl
  obtain ⟨x1, x2, hp, rfl, hl1, hl2⟩ := hp
  obtain ⟨y1, y2, hq, rfl, hl3, hl4⟩ := hq
  have r1 := rl_ratio x1 x2
  have r2 := rl_ratio y1 y2
  have r3 := rl_sqs (show rl (ratio x1 x2) ≤ 100000 by omega) hm1 hm2
  have r4 := rl_sqs (show rl (ratio y1 y2) ≤ 100000 by omega) hn1 hn2
  replace hp := hp.weak (S' := Cv S w.heap.size []) fun _ h => .inl h
  replace hq := hq.weak (S' := Cv S w.heap.size []) fun _ h => .inl h
  obtain ⟨b1, a1, n1, c1, b2, a2, n2, c2, rfl⟩ := hp.shape
  obtain ⟨b3, a3, n3, c3, b4, a4, n4, c4, rfl⟩ := hq.shape
  refine in_exact_CmpRoots (by simp) ?_
  conv => whnf
  refine BrS.mk (fun hm0 => ?_) (fun hm0 => ?_)
  · have hm0 := of_decide_eq_true hm0
    conv => whnf
    intro ρe we re
    exact ⟨_, rfl, hw.tr re.bel, .inl ⟨by omega, rfl⟩⟩
  have hm0 := of_decide_eq_false hm0
  conv => whnf
  refine BrS.mk (fun hn0 => ?_) (fun hn0 => ?_)
  · have hn0 := of_decide_eq_true hn0
    conv => whnf
    intro ρe we re
    exact ⟨_, rfl, hw.tr re.bel, .inl ⟨by omega, rfl⟩⟩
  have hn0 := of_decide_eq_false hn0
  conv => whnf
  refine drawn_of_pi hτ hmix [.x 0, .x 1, .x 3, .x 5, .x 6, .x 8, .x 2, .x 4, .x 7, .x 9, .x 10, .x 11, .x 12] (by kernel_rfl) (by kernel_rfl) ?_
  conv => whnf
  refine callE_con (Φ := fun _ w' v w2 => FracR w2 (Nw (fun _ => False) w' w2) v (ratio x1 x2)) (fun ρ w' r => value_c (Rel.old r hS) (hp.rel r hS) (by omega) (by omega)) ?_
  rintro ρ wa1 v1 wb1 r he hb hn
  replace hw := hw.tr hb
  clear hp
  replace hq := hq.past (iv' := (wa1.heap.size, wb1.heap.size) :: []) r hS he fun x hx => List.mem_cons_of_mem _ hx
  have hX := hn.got (S := fun _ => False) r.baseLe (iv := (wa1.heap.size, wb1.heap.size) :: []) List.mem_cons_self
  clear r he hb hn
  generalize (wa1.heap.size, wb1.heap.size) :: [] = iv1 at *
  obtain ⟨s1_0, s1_1, s1_2, s1_3, s1_4, s1_5, s1_6, s1_7, rfl⟩ := hX.shape
  conv => whnf
  refine callE_con (Φ := fun _ w' v w2 => FracR w2 (Nw (fun _ => False) w' w2) v (sqs (ratio x1 x2) m)) (fun ρ w' r => sqs_c (Rel.old r (oldF w)) (hX.rel r (oldF w)) (by omega) hm1 hm2) ?_
  rintro ρ wa2 v2 wb2 r he hb hn
  replace hw := hw.tr hb
  replace hq := hq.past (iv' := (wa2.heap.size, wb2.heap.size) :: iv1) r hS he fun x hx => List.mem_cons_of_mem _ hx
  clear hX
  have hA := hn.got (S := fun _ => False) r.baseLe (iv := (wa2.heap.size, wb2.heap.size) :: iv1) List.mem_cons_self
  clear r he hb hn
  generalize (wa2.heap.size, wb2.heap.size) :: iv1 = iv2 at *
  obtain ⟨s2_0, s2_1, s2_2, s2_3, s2_4, s2_5, s2_6, s2_7, rfl⟩ := hA.shape
  conv => whnf
  refine callE_con (Φ := fun _ w' v w2 => FracR w2 (Nw (fun _ => False) w' w2) v (ratio y1 y2)) (fun ρ w' r => value_c (Rel.old r hS) (hq.rel r hS) (by omega) (by omega)) ?_
  rintro ρ wa3 v3 wb3 r he hb hn
  replace hw := hw.tr hb
  clear hq
  replace hA := hA.past (iv' := (wa3.heap.size, wb3.heap.size) :: iv2) r (oldF w) he fun x hx => List.mem_cons_of_mem _ hx
  have hY := hn.got (S := fun _ => False) r.baseLe (iv := (wa3.heap.size, wb3.heap.size) :: iv2) List.mem_cons_self
  clear r he hb hn
  generalize (wa3.heap.size, wb3.heap.size) :: iv2 = iv3 at *
  obtain ⟨s3_0, s3_1, s3_2, s3_3, s3_4, s3_5, s3_6, s3_7, rfl⟩ := hY.shape
  conv => whnf
  refine callE_con (Φ := fun _ w' v w2 => FracR w2 (Nw (fun _ => False) w' w2) v (sqs (ratio y1 y2) n)) (fun ρ w' r => sqs_c (Rel.old r (oldF w)) (hY.rel r (oldF w)) (by omega) hn1 hn2) ?_
  rintro ρ wa4 v4 wb4 r he hb hn
  replace hw := hw.tr hb
  replace hA := hA.past (iv' := (wa4.heap.size, wb4.heap.size) :: iv3) r (oldF w) he fun x hx => List.mem_cons_of_mem _ hx
  clear hY
  have hB := hn.got (S := fun _ => False) r.baseLe (iv := (wa4.heap.size, wb4.heap.size) :: iv3) List.mem_cons_self
  clear r he hb hn
  generalize (wa4.heap.size, wb4.heap.size) :: iv3 = iv4 at *
  obtain ⟨s4_0, s4_1, s4_2, s4_3, s4_4, s4_5, s4_6, s4_7, rfl⟩ := hB.shape
  conv => whnf
  refine callE_con (Φ := fun _ w' v w2 => v = .int .i64 (rs (sqs (ratio x1 x2) m - sqs (ratio y1 y2) n))) (fun ρ w' r => fcmp_c (Rel.old r (oldF w)) (hA.rel r (oldF w)) (hB.rel r (oldF w)) (by omega) (by omega)) ?_
  rintro ρ wa5 v5 wb5 r he hb rfl
  replace hw := hw.tr hb
  clear hA
  clear hB
  clear r he hb
  generalize (wa5.heap.size, wb5.heap.size) :: iv4 = iv5 at *
  conv => whnf
  intro ρe we re
  exact ⟨_, rfl, hw.tr re.bel, .inr ⟨by omega, rfl⟩⟩
theorem rCmpRoots_c {S : Nat → Prop} {w : World} {v u : Value} {p q : Rat} {m n : Int} (hS : Old S w) (hp : RatL w S v p) (hq : RatL w S u q) (hlp : rl p ≤ 1000) (hlq : rl q ≤ 1000) (hm1 : -9223372036854775808 ≤ m) (hm2 : m ≤ 9223372036854775807) (hn1 : -9223372036854775808 ≤ n) (hn2 : n ≤ 9223372036854775807) :
    Con PG N.ref01_CmpRoots #[v, .int .i64 m, u, .int .i64 n] w (Ret w fun v' _ => (m < 0 ∨ n < 0) ∧ v' = .tuple #[.int .i64 0, .int .i64 2] ∨ ¬ (m < 0 ∨ n < 0) ∧ v' = .tuple #[.int .i64 (rs (sqs p m - sqs q n)), .int .i64 0]) := by
  have hw : Bel w.heap.size w w := Bel.refl
  have r1 := rl_mul p p
  have r2 := rl_mul (p * p) (m : Rat)
  have r3 := rl_whole hm1 hm2
  have r4 := rl_mul q q
  have r5 := rl_mul (q * q) (n : Rat)
  have r6 := rl_whole hn1 hn2
  have r7 := rl_neg (p * p * (m : Rat))
  have r8 := rl_neg (q * q * (n : Rat))
  replace hp := hp.weak (S' := Cv S w.heap.size []) fun _ h => .inl h
  replace hq := hq.weak (S' := Cv S w.heap.size []) fun _ h => .inl h
  obtain ⟨b1, a1, n1, c1, b2, a2, n2, c2, rfl⟩ := hp.shape
  obtain ⟨b3, a3, n3, c3, b4, a4, n4, c4, rfl⟩ := hq.shape
  refine in_ref01_CmpRoots (by simp) ?_
  conv => whnf
  refine BrS.mk (fun hm0 => ?_) (fun hm0 => ?_)
  · have hm0 := of_decide_eq_true hm0
    conv => whnf
    intro ρe we re
    exact ⟨_, rfl, hw.tr re.bel, .inl ⟨by omega, rfl⟩⟩
  have hm0 := of_decide_eq_false hm0
  conv => whnf
  refine BrS.mk (fun hn0 => ?_) (fun hn0 => ?_)
  · have hn0 := of_decide_eq_true hn0
    conv => whnf
    intro ρe we re
    exact ⟨_, rfl, hw.tr re.bel, .inl ⟨by omega, rfl⟩⟩
  have hn0 := of_decide_eq_false hn0
  conv => whnf
  refine drawn_of_pi hτ hmix [.x 0, .x 1, .x 3, .x 6, .x 7, .x 9, .p 12, .p 13, .x 2, .x 4, .x 5, .x 8, .x 10, .x 11, .x 12, .x 13, .x 14, .x 15] (by kernel_rfl) (by kernel_rfl) ?_
  conv => whnf
  refine callE_con (Φ := fun _ w' v w2 => RatC w2 (Nw (fun _ => False) w' w2) v (p * p)) (fun ρ w' r => rMul_c (Rel.old r hS) (hp.rel r hS) (hp.rel r hS)) ?_
  rintro ρ wa1 v1 wb1 r he hb hn
  replace hw := hw.tr hb
  replace hp := hp.past (iv' := (wa1.heap.size, wb1.heap.size) :: []) r hS he fun x hx => List.mem_cons_of_mem _ hx
  replace hq := hq.past (iv' := (wa1.heap.size, wb1.heap.size) :: []) r hS he fun x hx => List.mem_cons_of_mem _ hx
  have hs := hn.got (S := fun _ => False) r.baseLe (iv := (wa1.heap.size, wb1.heap.size) :: []) List.mem_cons_self
  clear r he hb hn
  generalize (wa1.heap.size, wb1.heap.size) :: [] = iv1 at *
  obtain ⟨s1_0, s1_1, s1_2, s1_3, s1_4, s1_5, s1_6, s1_7, rfl⟩ := hs.shape
  conv => whnf
  refine callE_con (Φ := fun _ w' v w2 => RatC w2 (Nw (fun _ => False) w' w2) v ((m : Rat))) (fun ρ w' r => rWholeAll_c m w' hm1 hm2) ?_
  rintro ρ wa2 v2 wb2 r he hb hn
  replace hw := hw.tr hb
  replace hp := hp.past (iv' := (wa2.heap.size, wb2.heap.size) :: iv1) r hS he fun x hx => List.mem_cons_of_mem _ hx
  replace hq := hq.past (iv' := (wa2.heap.size, wb2.heap.size) :: iv1) r hS he fun x hx => List.mem_cons_of_mem _ hx
  replace hs := hs.past (iv' := (wa2.heap.size, wb2.heap.size) :: iv1) r (oldF w) he fun x hx => List.mem_cons_of_mem _ hx
  have hk := hn.got (S := fun _ => False) r.baseLe (iv := (wa2.heap.size, wb2.heap.size) :: iv1) List.mem_cons_self
  clear r he hb hn
  generalize (wa2.heap.size, wb2.heap.size) :: iv1 = iv2 at *
  obtain ⟨s2_0, s2_1, s2_2, s2_3, s2_4, s2_5, s2_6, s2_7, rfl⟩ := hk.shape
  conv => whnf
  refine callE_con (Φ := fun _ w' v w2 => RatC w2 (Nw (fun _ => False) w' w2) v (p * p * (m : Rat))) (fun ρ w' r => rMul_c (Rel.old r (oldF w)) ((hs.rel r (oldF w)).l (by omega)) ((hk.rel r (oldF w)).l (by omega))) ?_
  rintro ρ wa3 v3 wb3 r he hb hn
  replace hw := hw.tr hb
  replace hp := hp.past (iv' := (wa3.heap.size, wb3.heap.size) :: iv2) r hS he fun x hx => List.mem_cons_of_mem _ hx
  replace hq := hq.past (iv' := (wa3.heap.size, wb3.heap.size) :: iv2) r hS he fun x hx => List.mem_cons_of_mem _ hx
  clear hs
  clear hk
  have hA := hn.got (S := fun _ => False) r.baseLe (iv := (wa3.heap.size, wb3.heap.size) :: iv2) List.mem_cons_self
  clear r he hb hn
  generalize (wa3.heap.size, wb3.heap.size) :: iv2 = iv3 at *
  obtain ⟨s3_0, s3_1, s3_2, s3_3, s3_4, s3_5, s3_6, s3_7, rfl⟩ := hA.shape
  conv => whnf
  refine callE_con (Φ := fun _ w' v w2 => RatC w2 (Nw (fun _ => False) w' w2) v (q * q)) (fun ρ w' r => rMul_c (Rel.old r hS) (hq.rel r hS) (hq.rel r hS)) ?_
  rintro ρ wa4 v4 wb4 r he hb hn
  replace hw := hw.tr hb
  replace hp := hp.past (iv' := (wa4.heap.size, wb4.heap.size) :: iv3) r hS he fun x hx => List.mem_cons_of_mem _ hx
  replace hq := hq.past (iv' := (wa4.heap.size, wb4.heap.size) :: iv3) r hS he fun x hx => List.mem_cons_of_mem _ hx
  replace hA := hA.past (iv' := (wa4.heap.size, wb4.heap.size) :: iv3) r (oldF w) he fun x hx => List.mem_cons_of_mem _ hx
  have hs := hn.got (S := fun _ => False) r.baseLe (iv := (wa4.heap.size, wb4.heap.size) :: iv3) List.mem_cons_self
  clear r he hb hn
  generalize (wa4.heap.size, wb4.heap.size) :: iv3 = iv4 at *
  obtain ⟨s4_0, s4_1, s4_2, s4_3, s4_4, s4_5, s4_6, s4_7, rfl⟩ := hs.shape
  conv => whnf
  refine callE_con (Φ := fun _ w' v w2 => RatC w2 (Nw (fun _ => False) w' w2) v ((n : Rat))) (fun ρ w' r => rWholeAll_c n w' hn1 hn2) ?_
  rintro ρ wa5 v5 wb5 r he hb hn
  replace hw := hw.tr hb
  replace hp := hp.past (iv' := (wa5.heap.size, wb5.heap.size) :: iv4) r hS he fun x hx => List.mem_cons_of_mem _ hx
  replace hq := hq.past (iv' := (wa5.heap.size, wb5.heap.size) :: iv4) r hS he fun x hx => List.mem_cons_of_mem _ hx
  replace hA := hA.past (iv' := (wa5.heap.size, wb5.heap.size) :: iv4) r (oldF w) he fun x hx => List.mem_cons_of_mem _ hx
  replace hs := hs.past (iv' := (wa5.heap.size, wb5.heap.size) :: iv4) r (oldF w) he fun x hx => List.mem_cons_of_mem _ hx
  have hk := hn.got (S := fun _ => False) r.baseLe (iv := (wa5.heap.size, wb5.heap.size) :: iv4) List.mem_cons_self
  clear r he hb hn
  generalize (wa5.heap.size, wb5.heap.size) :: iv4 = iv5 at *
  obtain ⟨s5_0, s5_1, s5_2, s5_3, s5_4, s5_5, s5_6, s5_7, rfl⟩ := hk.shape
  conv => whnf
  refine callE_con (Φ := fun _ w' v w2 => RatC w2 (Nw (fun _ => False) w' w2) v (q * q * (n : Rat))) (fun ρ w' r => rMul_c (Rel.old r (oldF w)) ((hs.rel r (oldF w)).l (by omega)) ((hk.rel r (oldF w)).l (by omega))) ?_
  rintro ρ wa6 v6 wb6 r he hb hn
  replace hw := hw.tr hb
  replace hp := hp.past (iv' := (wa6.heap.size, wb6.heap.size) :: iv5) r hS he fun x hx => List.mem_cons_of_mem _ hx
  replace hq := hq.past (iv' := (wa6.heap.size, wb6.heap.size) :: iv5) r hS he fun x hx => List.mem_cons_of_mem _ hx
  replace hA := hA.past (iv' := (wa6.heap.size, wb6.heap.size) :: iv5) r (oldF w) he fun x hx => List.mem_cons_of_mem _ hx
  clear hs
  clear hk
  have hB := hn.got (S := fun _ => False) r.baseLe (iv := (wa6.heap.size, wb6.heap.size) :: iv5) List.mem_cons_self
  clear r he hb hn
  generalize (wa6.heap.size, wb6.heap.size) :: iv5 = iv6 at *
  obtain ⟨s6_0, s6_1, s6_2, s6_3, s6_4, s6_5, s6_6, s6_7, rfl⟩ := hB.shape
  conv => whnf
  refine callE_S (callE_con (Φ := fun _ w' v w2 => v = .int .i64 (rs p)) (fun ρ w' r => rSignOfL_c (Rel.old r hS) (hp.rel r hS)) ?_)
  rintro ρ wa7 v7 wb7 r he hb rfl
  replace hw := hw.tr hb
  clear hp
  replace hq := hq.past (iv' := (wa7.heap.size, wb7.heap.size) :: iv6) r hS he fun x hx => List.mem_cons_of_mem _ hx
  replace hA := hA.past (iv' := (wa7.heap.size, wb7.heap.size) :: iv6) r (oldF w) he fun x hx => List.mem_cons_of_mem _ hx
  replace hB := hB.past (iv' := (wa7.heap.size, wb7.heap.size) :: iv6) r (oldF w) he fun x hx => List.mem_cons_of_mem _ hx
  clear r he hb
  generalize (wa7.heap.size, wb7.heap.size) :: iv6 = iv7 at *
  conv => whnf
  refine BrS.mk (fun h => ?_) (fun h => ?_)
  · have h := of_decide_eq_true h
    have eA : sqs p m = -(p * p * (m : Rat)) := if_pos h
    conv => whnf
    refine callE_S (callE_con (Φ := fun _ w' v w2 => RatC w2 (Nw (fun _ => False) w' w2) v (-(p * p * (m : Rat)))) (fun ρ w' r => rNeg_c (Rel.old r (oldF w)) ((hA.rel r (oldF w)).l (by omega))) ?_)
    rintro ρ wa8 v8 wb8 r he hb hn
    replace hw := hw.tr hb
    replace hq := hq.past (iv' := (wa8.heap.size, wb8.heap.size) :: iv7) r hS he fun x hx => List.mem_cons_of_mem _ hx
    clear hA
    replace hB := hB.past (iv' := (wa8.heap.size, wb8.heap.size) :: iv7) r (oldF w) he fun x hx => List.mem_cons_of_mem _ hx
    have hNA := hn.got (S := fun _ => False) r.baseLe (iv := (wa8.heap.size, wb8.heap.size) :: iv7) List.mem_cons_self
    clear r he hb hn
    generalize (wa8.heap.size, wb8.heap.size) :: iv7 = iv8 at *
    obtain ⟨s8_0, s8_1, s8_2, s8_3, s8_4, s8_5, s8_6, s8_7, rfl⟩ := hNA.shape
    conv => whnf
    refine callE_S (callE_con (Φ := fun _ w' v w2 => v = .int .i64 (rs q)) (fun ρ w' r => rSignOfL_c (Rel.old r hS) (hq.rel r hS)) ?_)
    rintro ρ wa9 v9 wb9 r he hb rfl
    replace hw := hw.tr hb
    clear hq
    replace hB := hB.past (iv' := (wa9.heap.size, wb9.heap.size) :: iv8) r (oldF w) he fun x hx => List.mem_cons_of_mem _ hx
    replace hNA := hNA.past (iv' := (wa9.heap.size, wb9.heap.size) :: iv8) r (oldF w) he fun x hx => List.mem_cons_of_mem _ hx
    clear r he hb
    generalize (wa9.heap.size, wb9.heap.size) :: iv8 = iv9 at *
    conv => whnf
    refine BrS.mk (fun h => ?_) (fun h => ?_)
    · have h := of_decide_eq_true h
      have eB : sqs q n = -(q * q * (n : Rat)) := if_pos h
      conv => whnf
      refine callE_S (callE_con (Φ := fun _ w' v w2 => RatC w2 (Nw (fun _ => False) w' w2) v (-(q * q * (n : Rat)))) (fun ρ w' r => rNeg_c (Rel.old r (oldF w)) ((hB.rel r (oldF w)).l (by omega))) ?_)
      rintro ρ wa10 v10 wb10 r he hb hn
      replace hw := hw.tr hb
      clear hB
      replace hNA := hNA.past (iv' := (wa10.heap.size, wb10.heap.size) :: iv9) r (oldF w) he fun x hx => List.mem_cons_of_mem _ hx
      have hNB := hn.got (S := fun _ => False) r.baseLe (iv := (wa10.heap.size, wb10.heap.size) :: iv9) List.mem_cons_self
      clear r he hb hn
      generalize (wa10.heap.size, wb10.heap.size) :: iv9 = iv10 at *
      obtain ⟨s10_0, s10_1, s10_2, s10_3, s10_4, s10_5, s10_6, s10_7, rfl⟩ := hNB.shape
      conv => whnf
      refine callE_S (callE_con (Φ := fun _ w' v w2 => v = .int .i64 (rs (-(p * p * (m : Rat)) - (-(q * q * (n : Rat)))))) (fun ρ w' r => rCmp_c (Rel.old r (oldF w)) ((hNA.rel r (oldF w)).l (by omega)) ((hNB.rel r (oldF w)).l (by omega))) ?_)
      rintro ρ wa11 v11 wb11 r he hb rfl
      replace hw := hw.tr hb
      clear hNA
      clear hNB
      clear r he hb
      generalize (wa11.heap.size, wb11.heap.size) :: iv10 = iv11 at *
      conv => whnf
      intro ρe we re
      exact ⟨_, rfl, hw.tr re.bel, .inr ⟨by omega, by rw [eA, eB]; rfl⟩⟩
    have h := of_decide_eq_false h
    have eB : sqs q n = q * q * (n : Rat) := if_neg h
    conv => whnf
    refine callE_S (callE_con (Φ := fun _ w' v w2 => v = .int .i64 (rs (-(p * p * (m : Rat)) - (q * q * (n : Rat))))) (fun ρ w' r => rCmp_c (Rel.old r (oldF w)) ((hNA.rel r (oldF w)).l (by omega)) ((hB.rel r (oldF w)).l (by omega))) ?_)
    rintro ρ wa10 v10 wb10 r he hb rfl
    replace hw := hw.tr hb
    clear hB
    clear hNA
    clear r he hb
    generalize (wa10.heap.size, wb10.heap.size) :: iv9 = iv10 at *
    conv => whnf
    intro ρe we re
    exact ⟨_, rfl, hw.tr re.bel, .inr ⟨by omega, by rw [eA, eB]; rfl⟩⟩
  have h := of_decide_eq_false h
  have eA : sqs p m = p * p * (m : Rat) := if_neg h
  conv => whnf
  refine callE_S (callE_con (Φ := fun _ w' v w2 => v = .int .i64 (rs q)) (fun ρ w' r => rSignOfL_c (Rel.old r hS) (hq.rel r hS)) ?_)
  rintro ρ wa8 v8 wb8 r he hb rfl
  replace hw := hw.tr hb
  clear hq
  replace hA := hA.past (iv' := (wa8.heap.size, wb8.heap.size) :: iv7) r (oldF w) he fun x hx => List.mem_cons_of_mem _ hx
  replace hB := hB.past (iv' := (wa8.heap.size, wb8.heap.size) :: iv7) r (oldF w) he fun x hx => List.mem_cons_of_mem _ hx
  clear r he hb
  generalize (wa8.heap.size, wb8.heap.size) :: iv7 = iv8 at *
  conv => whnf
  refine BrS.mk (fun h => ?_) (fun h => ?_)
  · have h := of_decide_eq_true h
    have eB : sqs q n = -(q * q * (n : Rat)) := if_pos h
    conv => whnf
    refine callE_S (callE_con (Φ := fun _ w' v w2 => RatC w2 (Nw (fun _ => False) w' w2) v (-(q * q * (n : Rat)))) (fun ρ w' r => rNeg_c (Rel.old r (oldF w)) ((hB.rel r (oldF w)).l (by omega))) ?_)
    rintro ρ wa9 v9 wb9 r he hb hn
    replace hw := hw.tr hb
    replace hA := hA.past (iv' := (wa9.heap.size, wb9.heap.size) :: iv8) r (oldF w) he fun x hx => List.mem_cons_of_mem _ hx
    clear hB
    have hNB := hn.got (S := fun _ => False) r.baseLe (iv := (wa9.heap.size, wb9.heap.size) :: iv8) List.mem_cons_self
    clear r he hb hn
    generalize (wa9.heap.size, wb9.heap.size) :: iv8 = iv9 at *
    obtain ⟨s9_0, s9_1, s9_2, s9_3, s9_4, s9_5, s9_6, s9_7, rfl⟩ := hNB.shape
    conv => whnf
    refine callE_S (callE_con (Φ := fun _ w' v w2 => v = .int .i64 (rs (p * p * (m : Rat) - (-(q * q * (n : Rat)))))) (fun ρ w' r => rCmp_c (Rel.old r (oldF w)) ((hA.rel r (oldF w)).l (by omega)) ((hNB.rel r (oldF w)).l (by omega))) ?_)
    rintro ρ wa10 v10 wb10 r he hb rfl
    replace hw := hw.tr hb
    clear hA
    clear hNB
    clear r he hb
    generalize (wa10.heap.size, wb10.heap.size) :: iv9 = iv10 at *
    conv => whnf
    intro ρe we re
    exact ⟨_, rfl, hw.tr re.bel, .inr ⟨by omega, by rw [eA, eB]; rfl⟩⟩
  have h := of_decide_eq_false h
  have eB : sqs q n = q * q * (n : Rat) := if_neg h
  conv => whnf
  refine callE_S (callE_con (Φ := fun _ w' v w2 => v = .int .i64 (rs (p * p * (m : Rat) - (q * q * (n : Rat))))) (fun ρ w' r => rCmp_c (Rel.old r (oldF w)) ((hA.rel r (oldF w)).l (by omega)) ((hB.rel r (oldF w)).l (by omega))) ?_)
  rintro ρ wa9 v9 wb9 r he hb rfl
  replace hw := hw.tr hb
  clear hA
  clear hB
  clear r he hb
  generalize (wa9.heap.size, wb9.heap.size) :: iv8 = iv9 at *
  conv => whnf
  intro ρe we re
  exact ⟨_, rfl, hw.tr re.bel, .inr ⟨by omega, by rw [eA, eB]; rfl⟩⟩
end Go.Ex
