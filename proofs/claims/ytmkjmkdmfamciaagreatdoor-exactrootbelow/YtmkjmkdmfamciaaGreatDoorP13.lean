/- A part of the proof: texts X63 to X65. Each tells its conditions in its theorems. -/
import Derived.Test.YtmkjmkdmfamciaaGreatDoorP6
import Derived.Test.YtmkjmkdmfamciaaGreatDoorP11
import Derived.Test.YtmkjmkdmfamciaaGreatDoorP12
/- The reference's fractions: quick, Normal, Add, Neg, Sub, Mul, SignOf, Quo, Cmp, Floor, Whole, Ratio. Printed by program. No condition but sizes. -/
namespace Go.Ex
open Go Go.Sx Go.Proofs

/-- a fraction of the api by its value; its parts have few limbs -/
def RatL (w : World) (S : Nat → Prop) (v : Value) (q : Rat) : Prop := ∃ b1 l1 b2 l2 a b, v = .agg #[.bool b1, l1, .bool b2, l2] ∧ IntL w S (.agg #[.bool b1, l1]) 100000 a ∧ IntL w S (.agg #[.bool b2, l2]) 100000 b ∧ ratio a b = q
theorem RatL.keep {S : Nat → Prop} {w w2 : World} {v : Value} {q : Rat} (h : RatL w S v q) (hk : ∀ g, S g → w2.heap[g]? = w.heap[g]?) : RatL w2 S v q := by
  obtain ⟨b1, l1, b2, l2, a, b, h1, h2, h3, h4⟩ := h; exact ⟨b1, l1, b2, l2, a, b, h1, h2.keep hk, h3.keep hk, h4⟩
theorem RatL.weak {S S' : Nat → Prop} {w : World} {v : Value} {q : Rat} (h : RatL w S v q) (hk : ∀ g, S g → S' g) : RatL w S' v q := by
  obtain ⟨b1, l1, b2, l2, a, b, h1, h2, h3, h4⟩ := h; exact ⟨b1, l1, b2, l2, a, b, h1, h2.weak hk, h3.weak hk, h4⟩
theorem RatL.r {S : Nat → Prop} {w : World} {v : Value} {q : Rat} (h : RatL w S v q) : ∃ a b, RatR w S v a b ∧ ratio a b = q := by
  obtain ⟨b1, l1, b2, l2, a, b, rfl, h2, h3, h4⟩ := h; exact ⟨a, b, ⟨b1, l1, b2, l2, rfl, h2.r, h3.r⟩, h4⟩
theorem RatL.v {S : Nat → Prop} {w : World} {v : Value} {q : Rat} (h : RatL w S v q) : RatV w S v q := by
  obtain ⟨b1, l1, b2, l2, a, b, rfl, h2, h3, h4⟩ := h; exact ⟨a, b, ⟨b1, l1, b2, l2, rfl, h2.r, h3.r⟩, h4, h2.ln, h3.ln⟩
theorem RatL.shape {S : Nat → Prop} {w : World} {v : Value} {q : Rat} (h : RatL w S v q) : ∃ b a n c b2 a2 n2 c2, v = .agg #[.bool b, .slice a n c, .bool b2, .slice a2 n2 c2] := h.v.shape
theorem RatL.rl {S : Nat → Prop} {w : World} {v : Value} {q : Rat} (h : RatL w S v q) : rl q ≤ 100000 := by
  obtain ⟨b1, l1, b2, l2, a, b, rfl, h2, h3, rfl⟩ := h
  have := rl_ratio a b
  have := h2.ln
  have := h3.ln
  omega
theorem RatC.l {S : Nat → Prop} {w : World} {v : Value} {q : Rat} (h : RatC w S v q) (hl : rl q ≤ 100000) : RatL w S v q := by
  obtain ⟨b1, l1, b2, l2, h1, h2, h3⟩ := h
  exact ⟨b1, l1, b2, l2, _, _, h1, h2.l (Nat.le_trans (rl_num q) hl), h3.l (Nat.le_trans (rl_den' q) hl), ratio_self q⟩
theorem rs_ratio (a b : Int) : rs (ratio a b) = if b.sign < 0 then -a.sign else a.sign := by
  have sb := sign_cases b
  rw [ratio]
  split
  · rw [if_neg (by omega), rs, sign_div (by decide)]
  · split
    · rw [show Rat.divInt a b = Rat.divInt (-a) (-b) from (Rat.neg_divInt_neg a b).symm, rs, sign_div (by omega), Int.sign_neg]
    · rw [rs, sign_div (by omega)]
theorem divInt_sq {a c : Int} : (a.natAbs < 1073741824) → (c.natAbs < 1073741824) → (a * c).natAbs ≤ 1152921502459363329 := fun h1 h2 => by
  rw [Int.natAbs_mul]
  exact Nat.mul_le_mul (show a.natAbs ≤ 1073741823 by omega) (show c.natAbs ≤ 1073741823 by omega)
section
variable {S S' : Nat → Prop} {H : Hp} {nx : Nat} {iv iv' : Iv} {B : Nat} {w w' w2 : World} {ρ : Nat → Sx.Val} {v : Value} {q : Rat}
theorem RatL.rel (h : RatL w (Cv S B iv) v q) (r : Rel H nx iv B w ρ w') (hS : ∀ g, S g → g < B) : RatL w' (Cv S B iv) v q := h.keep fun _ hg => Rel.same r hS hg
theorem RatL.past (h : RatL w (Cv S B iv) v q) (r : Rel H nx iv B w ρ w') (hS : ∀ g, S g → g < B) (he : Ext w' w2) (hm : ∀ p, p ∈ iv → p ∈ iv') : RatL w2 (Cv S B iv') v q :=
  ((h.rel r hS).keep fun g hg => he.block g (Rel.old r hS g hg)).weak fun _ hg => hg.mono hm
theorem RatL.got (h : RatL w2 (Nw (fun _ => False) w' w2) v q) (hB : B ≤ w'.heap.size) (hm : (w'.heap.size, w2.heap.size) ∈ iv) : RatL w2 (Cv S B iv) v q := h.weak fun _ hg => hg.got hB hm
theorem RatL.old (h : RatL w2 (Nw (Cv S B iv) w' w2) v q) (hB : B ≤ w'.heap.size) : RatL w2 (Cv S B ((w'.heap.size, w2.heap.size) :: iv)) v q := h.weak fun _ hg => Nw.cv hg hB
theorem RatL.out {w0 w1 : World} (h : RatL w1 (Cv S w0.heap.size iv) v q) (r : Rel H nx iv w0.heap.size w1 ρ w') (hS : Old S w0) : RatL w' (Nw S w0 w') v q :=
  (h.rel r hS).weak fun _ hg => Cv.nw hg r
theorem RatL.arg (h : RatL w S v q) (iv : Iv) : RatL w (Cv S w.heap.size iv) v q := h.weak fun _ h => .inl h
end

theorem rSignOfR_c {S : Nat → Prop} {w : World} {v : Value} {a b : Int} (hS : Old S w) (hp : RatR w S v a b) :
    Con PG N.ref01_SignOf #[v] w (Ret w fun v' _ => v' = .int .i64 (rs (ratio a b))) := by
  have hw : Bel w.heap.size w w := Bel.refl
  obtain ⟨b1, l1, b2, l2, rfl, ha, hb'⟩ := hp
  obtain ⟨_, a1, n1, c1, e1⟩ := ha.shape
  obtain ⟨_, a2, n2, c2, e2⟩ := hb'.shape
  simp only [Value.agg.injEq, Array.mk.injEq, List.cons.injEq, and_true] at e1 e2
  obtain ⟨_, rfl⟩ := e1
  obtain ⟨_, rfl⟩ := e2
  replace ha := ha.weak (S' := Cv S w.heap.size []) fun _ h => .inl h
  replace hb' := hb'.weak (S' := Cv S w.heap.size []) fun _ h => .inl h
  have hr := rs_ratio a b
  have sa := sign_cases a
  refine in_ref01_SignOf (by simp) ?_
  conv => whnf
  refine callE_S (callE_con (Φ := fun _ w' v w2 => v = .int .i64 b.sign) (fun ρ w' r => rSign_c (Rel.old r hS) (hb'.rel r hS)) ?_)
  rintro ρ wa1 v1 wb1 r he hb rfl
  replace hw := hw.tr hb
  replace ha := ha.past (iv' := (wa1.heap.size, wb1.heap.size) :: []) r hS he fun x hx => List.mem_cons_of_mem _ hx
  clear hb'
  clear r he hb
  generalize (wa1.heap.size, wb1.heap.size) :: [] = iv1 at *
  conv => whnf
  refine BrS.mk (fun h => ?_) (fun h => ?_)
  · have h := of_decide_eq_true h
    rw [if_pos h] at hr
    conv => whnf
    refine callE_S (callE_con (Φ := fun _ w' v w2 => v = .int .i64 a.sign) (fun ρ w' r => rSign_c (Rel.old r hS) (ha.rel r hS)) ?_)
    rintro ρ wa2 v2 wb2 r he hb rfl
    replace hw := hw.tr hb
    clear ha
    clear r he hb
    generalize (wa2.heap.size, wb2.heap.size) :: iv1 = iv2 at *
    conv => whnf
    refine ⟨-a.sign, by rw [wrap64] <;> omega, ?_⟩
    conv => whnf
    intro ρe we re
    exact ⟨_, rfl, hw.tr re.bel, by rw [hr]; rfl⟩
  have h := of_decide_eq_false h
  rw [if_neg h] at hr
  conv => whnf
  refine callE_S (callE_con (Φ := fun _ w' v w2 => v = .int .i64 a.sign) (fun ρ w' r => rSign_c (Rel.old r hS) (ha.rel r hS)) ?_)
  rintro ρ wa2 v2 wb2 r he hb rfl
  replace hw := hw.tr hb
  clear ha
  clear r he hb
  generalize (wa2.heap.size, wb2.heap.size) :: iv1 = iv2 at *
  conv => whnf
  intro ρe we re
  exact ⟨_, rfl, hw.tr re.bel, by rw [hr]; rfl⟩

theorem rSignOf_c {S : Nat → Prop} {w : World} {v : Value} {p : Rat} (hS : Old S w) (hp : RatC w S v p) : Con PG N.ref01_SignOf #[v] w (Ret w fun v' _ => v' = .int .i64 (rs p)) := by
  have := rSignOfR_c hS hp.r
  rw [ratio_self] at this
  exact this
theorem rSignOfL_c {S : Nat → Prop} {w : World} {v : Value} {p : Rat} (hS : Old S w) (hp : RatL w S v p) : Con PG N.ref01_SignOf #[v] w (Ret w fun v' _ => v' = .int .i64 (rs p)) := by
  obtain ⟨a, b, h1, rfl⟩ := hp.r
  exact rSignOfR_c hS h1
theorem rNormal_c {S : Nat → Prop} {w : World} {v : Value} {p : Rat} (hS : Old S w) (hp : RatL w S v p) :
    Con PG N.ref01_Normal #[v] w (Ret w fun v' w2 => RatC w2 (Nw (fun _ => False) w w2) v' p) := by
  have hw : Bel w.heap.size w w := Bel.refl
  obtain ⟨b1, l1, b2, l2, a, b, rfl, ha, hb', rfl⟩ := hp
  obtain ⟨_, a1, n1, c1, e1⟩ := ha.shape
  obtain ⟨_, a2, n2, c2, e2⟩ := hb'.shape
  simp only [Value.agg.injEq, Array.mk.injEq, List.cons.injEq, and_true] at e1 e2
  obtain ⟨_, rfl⟩ := e1
  obtain ⟨_, rfl⟩ := e2
  replace ha := ha.weak (S' := Cv S w.heap.size []) fun _ h => .inl h
  replace hb' := hb'.weak (S' := Cv S w.heap.size []) fun _ h => .inl h
  have sb := sign_cases b
  refine in_ref01_Normal (by simp) ?_
  conv => whnf
  refine callE_S (callE_con (Φ := fun _ w' v w2 => v = .int .i64 b.sign) (fun ρ w' r => rSign_c (Rel.old r hS) (hb'.rel r hS).r) ?_)
  rintro ρ wa1 v1 wb1 r he hb rfl
  replace hw := hw.tr hb
  replace ha := ha.past (iv' := (wa1.heap.size, wb1.heap.size) :: []) r hS he fun x hx => List.mem_cons_of_mem _ hx
  replace hb' := hb'.past (iv' := (wa1.heap.size, wb1.heap.size) :: []) r hS he fun x hx => List.mem_cons_of_mem _ hx
  clear r he hb
  generalize (wa1.heap.size, wb1.heap.size) :: [] = iv1 at *
  conv => whnf
  refine BrS.mk (fun h => ?_) (fun h => ?_)
  · have h : b.sign = 0 := by simpa using h
    obtain rfl : b = 0 := by omega
    rw [show ratio a 0 = Rat.divInt a 1 from if_pos rfl]
    conv => whnf
    refine drawn_of_pi hτ hmix [.x 0, .x 1, .x 2, .x 3, .x 4] (by kernel_rfl) (by kernel_rfl) ?_
    conv => whnf
    refine callE_con (Φ := fun _ w' v w2 => IntC w2 (Nw (fun _ => False) w' w2) v (1)) (fun ρ w' r => rOf_c _ w' (by decide) (by decide)) ?_
    rintro ρ wa2 v2 wb2 r he hb hn
    replace hw := hw.tr hb
    replace ha := ha.past (iv' := (wa2.heap.size, wb2.heap.size) :: iv1) r hS he fun x hx => List.mem_cons_of_mem _ hx
    replace hb' := hb'.past (iv' := (wa2.heap.size, wb2.heap.size) :: iv1) r hS he fun x hx => List.mem_cons_of_mem _ hx
    have h1 := hn.got (S := fun _ => False) r.baseLe (iv := (wa2.heap.size, wb2.heap.size) :: iv1) List.mem_cons_self
    clear r he hb hn
    generalize (wa2.heap.size, wb2.heap.size) :: iv1 = iv2 at *
    obtain ⟨s2_0, s2_1, s2_2, s2_3, rfl⟩ := h1.shape
    conv => whnf
    refine callE_con (Φ := fun _ w' v w2 => RatC w2 (Nw (fun _ => False) w' w2) v (Rat.divInt a 1)) (fun ρ w' r => rOver_c (Rel.old r hS) (ha.rel r hS) (((h1.rel r (oldF w)).l (k := 1) (by decide)).weak fun g hg => Cv.false hg) (by omega) (by omega) (by decide)) ?_
    rintro ρ wa3 v3 wb3 r he hb hn
    replace hw := hw.tr hb
    replace ha := ha.past (iv' := (wa3.heap.size, wb3.heap.size) :: iv2) r hS he fun x hx => List.mem_cons_of_mem _ hx
    replace hb' := hb'.past (iv' := (wa3.heap.size, wb3.heap.size) :: iv2) r hS he fun x hx => List.mem_cons_of_mem _ hx
    replace h1 := h1.past (iv' := (wa3.heap.size, wb3.heap.size) :: iv2) r (oldF w) he fun x hx => List.mem_cons_of_mem _ hx
    have hR := hn.got (S := fun _ => False) r.baseLe (iv := (wa3.heap.size, wb3.heap.size) :: iv2) List.mem_cons_self
    clear r he hb hn
    generalize (wa3.heap.size, wb3.heap.size) :: iv2 = iv3 at *
    obtain ⟨s3_0, s3_1, s3_2, s3_3, s3_4, s3_5, s3_6, s3_7, rfl⟩ := hR.shape
    conv => whnf
    intro ρe we re
    exact ⟨_, rfl, hw.tr re.bel, hR.out re (oldF w)⟩
  have h : b.sign ≠ 0 := by simpa using h
  have hb0 : b ≠ 0 := by omega
  rw [show ratio a b = Rat.divInt a b from if_neg hb0]
  conv => whnf
  refine callE_S (callE_con (Φ := fun _ w' v w2 => RatC w2 (Nw (fun _ => False) w' w2) v (Rat.divInt a b)) (fun ρ w' r => rOver_c (Rel.old r hS) (ha.rel r hS) (hb'.rel r hS) (by omega) (by omega) hb0) ?_)
  rintro ρ wa2 v2 wb2 r he hb hn
  replace hw := hw.tr hb
  replace ha := ha.past (iv' := (wa2.heap.size, wb2.heap.size) :: iv1) r hS he fun x hx => List.mem_cons_of_mem _ hx
  replace hb' := hb'.past (iv' := (wa2.heap.size, wb2.heap.size) :: iv1) r hS he fun x hx => List.mem_cons_of_mem _ hx
  have hR := hn.got (S := fun _ => False) r.baseLe (iv := (wa2.heap.size, wb2.heap.size) :: iv1) List.mem_cons_self
  clear r he hb hn
  generalize (wa2.heap.size, wb2.heap.size) :: iv1 = iv2 at *
  obtain ⟨s2_0, s2_1, s2_2, s2_3, s2_4, s2_5, s2_6, s2_7, rfl⟩ := hR.shape
  conv => whnf
  intro ρe we re
  exact ⟨_, rfl, hw.tr re.bel, hR.out re (oldF w)⟩

theorem quick_c {S : Nat → Prop} {w : World} {v : Value} {p : Rat} (hS : Old S w) (hp : RatL w S v p) :
    Con PG N.ref01_quick #[v] w (Ret w fun v' _ => ∃ n d ok, v' = .tuple #[.int .i64 n, .int .i64 d, .bool ok] ∧ (ok = true → d ≠ 0 ∧ n.natAbs < 1073741824 ∧ d.natAbs < 1073741824 ∧ Rat.divInt n d = p)) := by
  have hw : Bel w.heap.size w w := Bel.refl
  obtain ⟨b1, l1, b2, l2, a, b, rfl, ha, hb', rfl⟩ := hp
  obtain ⟨_, a1, n1, c1, e1⟩ := ha.shape
  obtain ⟨_, a2, n2, c2, e2⟩ := hb'.shape
  simp only [Value.agg.injEq, Array.mk.injEq, List.cons.injEq, and_true] at e1 e2
  obtain ⟨_, rfl⟩ := e1
  obtain ⟨_, rfl⟩ := e2
  replace ha := ha.weak (S' := Cv S w.heap.size []) fun _ h => .inl h
  replace hb' := hb'.weak (S' := Cv S w.heap.size []) fun _ h => .inl h
  refine in_ref01_quick (by simp) ?_
  conv => whnf
  refine callE_S (callE_con (Φ := fun _ w' v w2 => ∃ n p, v = .tuple #[.int .i64 n, .bool p] ∧ (p = true → n = a ∧ a.natAbs < 1073741824)) (fun ρ w' r => (rshort_c (Rel.old r hS) (ha.rel r hS).r).mono fun e w2 ⟨v2, e1, e2, e3⟩ => ⟨v2, e1, e2, by
      rw [e3, shortV]
      split
      · exact ⟨_, _, rfl, fun _ => ⟨rfl, ‹_›⟩⟩
      · exact ⟨_, _, rfl, fun h => by cases h⟩⟩) ?_)
  rintro ρ wa1 v1 wb1 r he hb ⟨na, pa, rfl, qa⟩
  replace hw := hw.tr hb
  replace ha := ha.past (iv' := (wa1.heap.size, wb1.heap.size) :: []) r hS he fun x hx => List.mem_cons_of_mem _ hx
  replace hb' := hb'.past (iv' := (wa1.heap.size, wb1.heap.size) :: []) r hS he fun x hx => List.mem_cons_of_mem _ hx
  clear r he hb
  generalize (wa1.heap.size, wb1.heap.size) :: [] = iv1 at *
  conv => whnf
  refine callE_S (callE_con (Φ := fun _ w' v w2 => ∃ n p, v = .tuple #[.int .i64 n, .bool p] ∧ (p = true → n = b ∧ b.natAbs < 1073741824)) (fun ρ w' r => (rshort_c (Rel.old r hS) (hb'.rel r hS).r).mono fun e w2 ⟨v2, e1, e2, e3⟩ => ⟨v2, e1, e2, by
      rw [e3, shortV]
      split
      · exact ⟨_, _, rfl, fun _ => ⟨rfl, ‹_›⟩⟩
      · exact ⟨_, _, rfl, fun h => by cases h⟩⟩) ?_)
  rintro ρ wa2 v2 wb2 r he hb ⟨nb, pb, rfl, qb⟩
  replace hw := hw.tr hb
  replace ha := ha.past (iv' := (wa2.heap.size, wb2.heap.size) :: iv1) r hS he fun x hx => List.mem_cons_of_mem _ hx
  replace hb' := hb'.past (iv' := (wa2.heap.size, wb2.heap.size) :: iv1) r hS he fun x hx => List.mem_cons_of_mem _ hx
  clear r he hb
  generalize (wa2.heap.size, wb2.heap.size) :: iv1 = iv2 at *
  conv => whnf
  refine BrS.mk (fun h => ?_) (fun h => ?_)
  · have h : nb = 0 := by simpa using h
    conv => whnf
    refine BrS.mk (fun h1 => ?_) (fun h1 => ?_)
    · conv => whnf
      intro ρe we re
      exact ⟨_, rfl, hw.tr re.bel, ⟨na, 1, pb, rfl, fun h2 => by
          obtain ⟨rfl, hx⟩ := qa h1
          obtain ⟨rfl, hy⟩ := qb h2
          rw [h]
          exact ⟨by decide, hx, by decide, (if_pos rfl).symm⟩⟩⟩
    conv => whnf
    intro ρe we re
    exact ⟨_, rfl, hw.tr re.bel, ⟨na, 1, false, rfl, fun h2 => by cases h2⟩⟩
  have h : nb ≠ 0 := by simpa using h
  conv => whnf
  refine BrS.mk (fun h1 => ?_) (fun h1 => ?_)
  · conv => whnf
    intro ρe we re
    exact ⟨_, rfl, hw.tr re.bel, ⟨na, nb, pb, rfl, fun h2 => by
        obtain ⟨rfl, hx⟩ := qa h1
        obtain ⟨rfl, hy⟩ := qb h2
        exact ⟨h, hx, hy, (if_neg h).symm⟩⟩⟩
  conv => whnf
  intro ρe we re
  exact ⟨_, rfl, hw.tr re.bel, ⟨na, nb, false, rfl, fun h2 => by cases h2⟩⟩

theorem rAdd_c {S : Nat → Prop} {w : World} {v u : Value} {p q : Rat} (hS : Old S w) (hp : RatL w S v p) (hq : RatL w S u q) :
    Con PG N.ref01_Add #[v, u] w (Ret w fun v' w2 => RatC w2 (Nw (fun _ => False) w w2) v' (p + q)) := by
  have hw : Bel w.heap.size w w := Bel.refl
  replace hp := hp.weak (S' := Cv S w.heap.size []) fun _ h => .inl h
  replace hq := hq.weak (S' := Cv S w.heap.size []) fun _ h => .inl h
  obtain ⟨b1, a1, n1, c1, b2, a2, n2, c2, rfl⟩ := hp.shape
  obtain ⟨b3, a3, n3, c3, b4, a4, n4, c4, rfl⟩ := hq.shape
  refine in_ref01_Add (by simp) ?_
  conv => whnf
  have r1 := hp.rl
  have r2 := hq.rl
  have u1 := rl_num p
  have u2 := rl_den' p
  have u3 := rl_num q
  have u4 := rl_den' q
  refine callE_S (callE_con (Φ := fun _ w' v w2 => ∃ n d ok, v = .tuple #[.int .i64 n, .int .i64 d, .bool ok] ∧ (ok = true → d ≠ 0 ∧ n.natAbs < 1073741824 ∧ d.natAbs < 1073741824 ∧ Rat.divInt n d = p)) (fun ρ w' r => quick_c (Rel.old r hS) (hp.rel r hS)) ?_)
  rintro ρ wa1 v1 wb1 r he hb ⟨a, b, k1, rfl, g1⟩
  replace hw := hw.tr hb
  replace hp := hp.past (iv' := (wa1.heap.size, wb1.heap.size) :: []) r hS he fun x hx => List.mem_cons_of_mem _ hx
  replace hq := hq.past (iv' := (wa1.heap.size, wb1.heap.size) :: []) r hS he fun x hx => List.mem_cons_of_mem _ hx
  clear r he hb
  generalize (wa1.heap.size, wb1.heap.size) :: [] = iv1 at *
  conv => whnf
  refine callE_S (callE_con (Φ := fun _ w' v w2 => ∃ n d ok, v = .tuple #[.int .i64 n, .int .i64 d, .bool ok] ∧ (ok = true → d ≠ 0 ∧ n.natAbs < 1073741824 ∧ d.natAbs < 1073741824 ∧ Rat.divInt n d = q)) (fun ρ w' r => quick_c (Rel.old r hS) (hq.rel r hS)) ?_)
  rintro ρ wa2 v2 wb2 r he hb ⟨c, d, k2, rfl, g2⟩
  replace hw := hw.tr hb
  replace hp := hp.past (iv' := (wa2.heap.size, wb2.heap.size) :: iv1) r hS he fun x hx => List.mem_cons_of_mem _ hx
  replace hq := hq.past (iv' := (wa2.heap.size, wb2.heap.size) :: iv1) r hS he fun x hx => List.mem_cons_of_mem _ hx
  clear r he hb
  generalize (wa2.heap.size, wb2.heap.size) :: iv1 = iv2 at *
  conv => whnf
  refine BrS.mk (fun h1 => ?_) (fun h1 => ?_)
  · conv => whnf
    refine BrS.mk (fun h2 => ?_) (fun h2 => ?_)
    · obtain ⟨g3, g4, g5, g6⟩ := g1 h1
      obtain ⟨g7, g8, g9, g10⟩ := g2 h2
      have i1 := divInt_sq g4 g9
      have i2 := divInt_sq g8 g5
      have i3 := divInt_sq g5 g9
      have i4 := divInt_sq g4 g8
      clear hp hq
      conv => whnf
      refine ⟨a * d, by rw [wrap64] <;> omega, ?_⟩
      conv => whnf
      refine ⟨c * b, by rw [wrap64] <;> omega, ?_⟩
      conv => whnf
      refine ⟨a * d + c * b, by rw [wrap64] <;> omega, ?_⟩
      conv => whnf
      refine ⟨b * d, by rw [wrap64] <;> omega, ?_⟩
      conv => whnf
      have e := Rat.divInt_add_divInt a c g3 g7
      rw [g6, g10] at e
      refine callE_S (callE_con (Φ := fun _ w' v w2 => RatC w2 (Nw (fun _ => False) w' w2) v (p + q)) (fun ρ w' r => e ▸ rlowest_c (a * d + c * b) (b * d) w' (by omega) (by omega) (mul_ne g3 g7)) ?_)
      rintro ρ wa3 v3 wb3 r he hb hn
      replace hw := hw.tr hb
      have hR := hn.got (S := fun _ => False) r.baseLe (iv := (wa3.heap.size, wb3.heap.size) :: iv2) List.mem_cons_self
      clear r he hb hn
      generalize (wa3.heap.size, wb3.heap.size) :: iv2 = iv3 at *
      obtain ⟨s3_0, s3_1, s3_2, s3_3, s3_4, s3_5, s3_6, s3_7, rfl⟩ := hR.shape
      conv => whnf
      intro ρe we re
      exact ⟨_, rfl, hw.tr re.bel, hR.out re (oldF w)⟩
    conv => whnf
    refine drawn_of_pi hτ hmix [.x 0, .x 2, .x 1, .x 3, .x 4, .x 5] (by kernel_rfl) (by kernel_rfl) ?_
    conv => whnf
    refine callE_con (Φ := fun _ w' v w2 => RatC w2 (Nw (fun _ => False) w' w2) v (p)) (fun ρ w' r => rNormal_c (Rel.old r hS) (hp.rel r hS)) ?_
    rintro ρ wa3 v3 wb3 r he hb hn
    replace hw := hw.tr hb
    clear hp
    replace hq := hq.past (iv' := (wa3.heap.size, wb3.heap.size) :: iv2) r hS he fun x hx => List.mem_cons_of_mem _ hx
    have hX := hn.got (S := fun _ => False) r.baseLe (iv := (wa3.heap.size, wb3.heap.size) :: iv2) List.mem_cons_self
    clear r he hb hn
    generalize (wa3.heap.size, wb3.heap.size) :: iv2 = iv3 at *
    obtain ⟨s3_0, s3_1, s3_2, s3_3, s3_4, s3_5, s3_6, s3_7, rfl⟩ := hX.shape
    conv => whnf
    refine callE_con (Φ := fun _ w' v w2 => RatC w2 (Nw (fun _ => False) w' w2) v (q)) (fun ρ w' r => rNormal_c (Rel.old r hS) (hq.rel r hS)) ?_
    rintro ρ wa4 v4 wb4 r he hb hn
    replace hw := hw.tr hb
    clear hq
    replace hX := hX.past (iv' := (wa4.heap.size, wb4.heap.size) :: iv3) r (oldF w) he fun x hx => List.mem_cons_of_mem _ hx
    have hY := hn.got (S := fun _ => False) r.baseLe (iv := (wa4.heap.size, wb4.heap.size) :: iv3) List.mem_cons_self
    clear r he hb hn
    generalize (wa4.heap.size, wb4.heap.size) :: iv3 = iv4 at *
    obtain ⟨s4_0, s4_1, s4_2, s4_3, s4_4, s4_5, s4_6, s4_7, rfl⟩ := hY.shape
    conv => whnf
    have hXn := hX.num
    have hXd := hX.den
    clear hX
    have hYn := hY.num
    have hYd := hY.den
    clear hY
    have m0 := ln_mul_abs p.num q.den
    have m1 := ln_mul_abs q.num p.den
    have m2 := ln_mul_abs (p.den : Int) q.den
    have m3 := ln_add_int (p.num * q.den) (q.num * p.den)
    have m4 := ln_mul_abs p.num q.num
    refine drawn_of_pi hτ hmix [.x 0, .x 1, .x 2, .x 3, .x 5, .x 6, .x 7, .x 8, .x 11, .x 12, .x 13, .x 14, .x 4, .x 9, .x 10, .x 15, .x 16, .x 17] (by kernel_rfl) (by kernel_rfl) ?_
    conv => whnf
    refine callE_con (Φ := fun _ w' v w2 => IntC w2 (Nw (fun _ => False) w' w2) v (p.num * (q.den : Int))) (fun ρ w' r => rProd_c (Rel.old r (oldF w)) ((hXn.rel r (oldF w)).l (k := 100000) (by omega)) ((hYd.rel r (oldF w)).l (k := 100000) (by omega)) (by omega) (by omega)) ?_
    rintro ρ wa5 v5 wb5 r he hb hn
    replace hw := hw.tr hb
    replace hXn := hXn.past (iv' := (wa5.heap.size, wb5.heap.size) :: iv4) r (oldF w) he fun x hx => List.mem_cons_of_mem _ hx
    replace hXd := hXd.past (iv' := (wa5.heap.size, wb5.heap.size) :: iv4) r (oldF w) he fun x hx => List.mem_cons_of_mem _ hx
    replace hYn := hYn.past (iv' := (wa5.heap.size, wb5.heap.size) :: iv4) r (oldF w) he fun x hx => List.mem_cons_of_mem _ hx
    replace hYd := hYd.past (iv' := (wa5.heap.size, wb5.heap.size) :: iv4) r (oldF w) he fun x hx => List.mem_cons_of_mem _ hx
    have hA := hn.got (S := fun _ => False) r.baseLe (iv := (wa5.heap.size, wb5.heap.size) :: iv4) List.mem_cons_self
    clear r he hb hn
    generalize (wa5.heap.size, wb5.heap.size) :: iv4 = iv5 at *
    obtain ⟨s5_0, s5_1, s5_2, s5_3, rfl⟩ := hA.shape
    conv => whnf
    refine callE_con (Φ := fun _ w' v w2 => IntC w2 (Nw (fun _ => False) w' w2) v (q.num * (p.den : Int))) (fun ρ w' r => rProd_c (Rel.old r (oldF w)) ((hYn.rel r (oldF w)).l (k := 100000) (by omega)) ((hXd.rel r (oldF w)).l (k := 100000) (by omega)) (by omega) (by omega)) ?_
    rintro ρ wa6 v6 wb6 r he hb hn
    replace hw := hw.tr hb
    replace hXn := hXn.past (iv' := (wa6.heap.size, wb6.heap.size) :: iv5) r (oldF w) he fun x hx => List.mem_cons_of_mem _ hx
    replace hXd := hXd.past (iv' := (wa6.heap.size, wb6.heap.size) :: iv5) r (oldF w) he fun x hx => List.mem_cons_of_mem _ hx
    replace hYn := hYn.past (iv' := (wa6.heap.size, wb6.heap.size) :: iv5) r (oldF w) he fun x hx => List.mem_cons_of_mem _ hx
    replace hYd := hYd.past (iv' := (wa6.heap.size, wb6.heap.size) :: iv5) r (oldF w) he fun x hx => List.mem_cons_of_mem _ hx
    replace hA := hA.past (iv' := (wa6.heap.size, wb6.heap.size) :: iv5) r (oldF w) he fun x hx => List.mem_cons_of_mem _ hx
    have hB := hn.got (S := fun _ => False) r.baseLe (iv := (wa6.heap.size, wb6.heap.size) :: iv5) List.mem_cons_self
    clear r he hb hn
    generalize (wa6.heap.size, wb6.heap.size) :: iv5 = iv6 at *
    obtain ⟨s6_0, s6_1, s6_2, s6_3, rfl⟩ := hB.shape
    conv => whnf
    refine callE_con (Φ := fun _ w' v w2 => IntC w2 (Nw (fun _ => False) w' w2) v (p.num * (q.den : Int) + q.num * (p.den : Int))) (fun ρ w' r => rSum_c (Rel.old r (oldF w)) ((hA.rel r (oldF w)).l (k := 200000) (by omega)) ((hB.rel r (oldF w)).l (k := 200000) (by omega)) (by omega) (by omega)) ?_
    rintro ρ wa7 v7 wb7 r he hb hn
    replace hw := hw.tr hb
    replace hXn := hXn.past (iv' := (wa7.heap.size, wb7.heap.size) :: iv6) r (oldF w) he fun x hx => List.mem_cons_of_mem _ hx
    replace hXd := hXd.past (iv' := (wa7.heap.size, wb7.heap.size) :: iv6) r (oldF w) he fun x hx => List.mem_cons_of_mem _ hx
    replace hYn := hYn.past (iv' := (wa7.heap.size, wb7.heap.size) :: iv6) r (oldF w) he fun x hx => List.mem_cons_of_mem _ hx
    replace hYd := hYd.past (iv' := (wa7.heap.size, wb7.heap.size) :: iv6) r (oldF w) he fun x hx => List.mem_cons_of_mem _ hx
    clear hA
    clear hB
    have hN := hn.got (S := fun _ => False) r.baseLe (iv := (wa7.heap.size, wb7.heap.size) :: iv6) List.mem_cons_self
    clear r he hb hn
    generalize (wa7.heap.size, wb7.heap.size) :: iv6 = iv7 at *
    obtain ⟨s7_0, s7_1, s7_2, s7_3, rfl⟩ := hN.shape
    conv => whnf
    refine callE_con (Φ := fun _ w' v w2 => IntC w2 (Nw (fun _ => False) w' w2) v ((p.den : Int) * (q.den : Int))) (fun ρ w' r => rProd_c (Rel.old r (oldF w)) ((hXd.rel r (oldF w)).l (k := 100000) (by omega)) ((hYd.rel r (oldF w)).l (k := 100000) (by omega)) (by omega) (by omega)) ?_
    rintro ρ wa8 v8 wb8 r he hb hn
    replace hw := hw.tr hb
    replace hXn := hXn.past (iv' := (wa8.heap.size, wb8.heap.size) :: iv7) r (oldF w) he fun x hx => List.mem_cons_of_mem _ hx
    replace hXd := hXd.past (iv' := (wa8.heap.size, wb8.heap.size) :: iv7) r (oldF w) he fun x hx => List.mem_cons_of_mem _ hx
    replace hYn := hYn.past (iv' := (wa8.heap.size, wb8.heap.size) :: iv7) r (oldF w) he fun x hx => List.mem_cons_of_mem _ hx
    replace hYd := hYd.past (iv' := (wa8.heap.size, wb8.heap.size) :: iv7) r (oldF w) he fun x hx => List.mem_cons_of_mem _ hx
    replace hN := hN.past (iv' := (wa8.heap.size, wb8.heap.size) :: iv7) r (oldF w) he fun x hx => List.mem_cons_of_mem _ hx
    have hD := hn.got (S := fun _ => False) r.baseLe (iv := (wa8.heap.size, wb8.heap.size) :: iv7) List.mem_cons_self
    clear r he hb hn
    generalize (wa8.heap.size, wb8.heap.size) :: iv7 = iv8 at *
    obtain ⟨s8_0, s8_1, s8_2, s8_3, rfl⟩ := hD.shape
    conv => whnf
    refine callE_con (Φ := fun _ w' v w2 => RatC w2 (Nw (fun _ => False) w' w2) v (p + q)) (fun ρ w' r => (rat_add p q) ▸ rOver_c (Rel.old r (oldF w)) ((hN.rel r (oldF w)).l (k := 200001) (by omega)) ((hD.rel r (oldF w)).l (k := 200001) (by omega)) (by omega) (by omega) (mul_ne (den_ne p) (den_ne q))) ?_
    rintro ρ wa9 v9 wb9 r he hb hn
    replace hw := hw.tr hb
    clear hXn
    clear hXd
    clear hYn
    clear hYd
    clear hN
    clear hD
    have hR := hn.got (S := fun _ => False) r.baseLe (iv := (wa9.heap.size, wb9.heap.size) :: iv8) List.mem_cons_self
    clear r he hb hn
    generalize (wa9.heap.size, wb9.heap.size) :: iv8 = iv9 at *
    obtain ⟨s9_0, s9_1, s9_2, s9_3, s9_4, s9_5, s9_6, s9_7, rfl⟩ := hR.shape
    conv => whnf
    intro ρe we re
    exact ⟨_, rfl, hw.tr re.bel, hR.out re (oldF w)⟩
  conv => whnf
  refine drawn_of_pi hτ hmix [.x 0, .x 2, .x 1, .x 3, .x 4, .x 5] (by kernel_rfl) (by kernel_rfl) ?_
  conv => whnf
  refine callE_con (Φ := fun _ w' v w2 => RatC w2 (Nw (fun _ => False) w' w2) v (p)) (fun ρ w' r => rNormal_c (Rel.old r hS) (hp.rel r hS)) ?_
  rintro ρ wa3 v3 wb3 r he hb hn
  replace hw := hw.tr hb
  clear hp
  replace hq := hq.past (iv' := (wa3.heap.size, wb3.heap.size) :: iv2) r hS he fun x hx => List.mem_cons_of_mem _ hx
  have hX := hn.got (S := fun _ => False) r.baseLe (iv := (wa3.heap.size, wb3.heap.size) :: iv2) List.mem_cons_self
  clear r he hb hn
  generalize (wa3.heap.size, wb3.heap.size) :: iv2 = iv3 at *
  obtain ⟨s3_0, s3_1, s3_2, s3_3, s3_4, s3_5, s3_6, s3_7, rfl⟩ := hX.shape
  conv => whnf
  refine callE_con (Φ := fun _ w' v w2 => RatC w2 (Nw (fun _ => False) w' w2) v (q)) (fun ρ w' r => rNormal_c (Rel.old r hS) (hq.rel r hS)) ?_
  rintro ρ wa4 v4 wb4 r he hb hn
  replace hw := hw.tr hb
  clear hq
  replace hX := hX.past (iv' := (wa4.heap.size, wb4.heap.size) :: iv3) r (oldF w) he fun x hx => List.mem_cons_of_mem _ hx
  have hY := hn.got (S := fun _ => False) r.baseLe (iv := (wa4.heap.size, wb4.heap.size) :: iv3) List.mem_cons_self
  clear r he hb hn
  generalize (wa4.heap.size, wb4.heap.size) :: iv3 = iv4 at *
  obtain ⟨s4_0, s4_1, s4_2, s4_3, s4_4, s4_5, s4_6, s4_7, rfl⟩ := hY.shape
  conv => whnf
  have hXn := hX.num
  have hXd := hX.den
  clear hX
  have hYn := hY.num
  have hYd := hY.den
  clear hY
  have m0 := ln_mul_abs p.num q.den
  have m1 := ln_mul_abs q.num p.den
  have m2 := ln_mul_abs (p.den : Int) q.den
  have m3 := ln_add_int (p.num * q.den) (q.num * p.den)
  have m4 := ln_mul_abs p.num q.num
  refine drawn_of_pi hτ hmix [.x 0, .x 1, .x 2, .x 3, .x 5, .x 6, .x 7, .x 8, .x 11, .x 12, .x 13, .x 14, .x 4, .x 9, .x 10, .x 15, .x 16, .x 17] (by kernel_rfl) (by kernel_rfl) ?_
  conv => whnf
  refine callE_con (Φ := fun _ w' v w2 => IntC w2 (Nw (fun _ => False) w' w2) v (p.num * (q.den : Int))) (fun ρ w' r => rProd_c (Rel.old r (oldF w)) ((hXn.rel r (oldF w)).l (k := 100000) (by omega)) ((hYd.rel r (oldF w)).l (k := 100000) (by omega)) (by omega) (by omega)) ?_
  rintro ρ wa5 v5 wb5 r he hb hn
  replace hw := hw.tr hb
  replace hXn := hXn.past (iv' := (wa5.heap.size, wb5.heap.size) :: iv4) r (oldF w) he fun x hx => List.mem_cons_of_mem _ hx
  replace hXd := hXd.past (iv' := (wa5.heap.size, wb5.heap.size) :: iv4) r (oldF w) he fun x hx => List.mem_cons_of_mem _ hx
  replace hYn := hYn.past (iv' := (wa5.heap.size, wb5.heap.size) :: iv4) r (oldF w) he fun x hx => List.mem_cons_of_mem _ hx
  replace hYd := hYd.past (iv' := (wa5.heap.size, wb5.heap.size) :: iv4) r (oldF w) he fun x hx => List.mem_cons_of_mem _ hx
  have hA := hn.got (S := fun _ => False) r.baseLe (iv := (wa5.heap.size, wb5.heap.size) :: iv4) List.mem_cons_self
  clear r he hb hn
  generalize (wa5.heap.size, wb5.heap.size) :: iv4 = iv5 at *
  obtain ⟨s5_0, s5_1, s5_2, s5_3, rfl⟩ := hA.shape
  conv => whnf
  refine callE_con (Φ := fun _ w' v w2 => IntC w2 (Nw (fun _ => False) w' w2) v (q.num * (p.den : Int))) (fun ρ w' r => rProd_c (Rel.old r (oldF w)) ((hYn.rel r (oldF w)).l (k := 100000) (by omega)) ((hXd.rel r (oldF w)).l (k := 100000) (by omega)) (by omega) (by omega)) ?_
  rintro ρ wa6 v6 wb6 r he hb hn
  replace hw := hw.tr hb
  replace hXn := hXn.past (iv' := (wa6.heap.size, wb6.heap.size) :: iv5) r (oldF w) he fun x hx => List.mem_cons_of_mem _ hx
  replace hXd := hXd.past (iv' := (wa6.heap.size, wb6.heap.size) :: iv5) r (oldF w) he fun x hx => List.mem_cons_of_mem _ hx
  replace hYn := hYn.past (iv' := (wa6.heap.size, wb6.heap.size) :: iv5) r (oldF w) he fun x hx => List.mem_cons_of_mem _ hx
  replace hYd := hYd.past (iv' := (wa6.heap.size, wb6.heap.size) :: iv5) r (oldF w) he fun x hx => List.mem_cons_of_mem _ hx
  replace hA := hA.past (iv' := (wa6.heap.size, wb6.heap.size) :: iv5) r (oldF w) he fun x hx => List.mem_cons_of_mem _ hx
  have hB := hn.got (S := fun _ => False) r.baseLe (iv := (wa6.heap.size, wb6.heap.size) :: iv5) List.mem_cons_self
  clear r he hb hn
  generalize (wa6.heap.size, wb6.heap.size) :: iv5 = iv6 at *
  obtain ⟨s6_0, s6_1, s6_2, s6_3, rfl⟩ := hB.shape
  conv => whnf
  refine callE_con (Φ := fun _ w' v w2 => IntC w2 (Nw (fun _ => False) w' w2) v (p.num * (q.den : Int) + q.num * (p.den : Int))) (fun ρ w' r => rSum_c (Rel.old r (oldF w)) ((hA.rel r (oldF w)).l (k := 200000) (by omega)) ((hB.rel r (oldF w)).l (k := 200000) (by omega)) (by omega) (by omega)) ?_
  rintro ρ wa7 v7 wb7 r he hb hn
  replace hw := hw.tr hb
  replace hXn := hXn.past (iv' := (wa7.heap.size, wb7.heap.size) :: iv6) r (oldF w) he fun x hx => List.mem_cons_of_mem _ hx
  replace hXd := hXd.past (iv' := (wa7.heap.size, wb7.heap.size) :: iv6) r (oldF w) he fun x hx => List.mem_cons_of_mem _ hx
  replace hYn := hYn.past (iv' := (wa7.heap.size, wb7.heap.size) :: iv6) r (oldF w) he fun x hx => List.mem_cons_of_mem _ hx
  replace hYd := hYd.past (iv' := (wa7.heap.size, wb7.heap.size) :: iv6) r (oldF w) he fun x hx => List.mem_cons_of_mem _ hx
  clear hA
  clear hB
  have hN := hn.got (S := fun _ => False) r.baseLe (iv := (wa7.heap.size, wb7.heap.size) :: iv6) List.mem_cons_self
  clear r he hb hn
  generalize (wa7.heap.size, wb7.heap.size) :: iv6 = iv7 at *
  obtain ⟨s7_0, s7_1, s7_2, s7_3, rfl⟩ := hN.shape
  conv => whnf
  refine callE_con (Φ := fun _ w' v w2 => IntC w2 (Nw (fun _ => False) w' w2) v ((p.den : Int) * (q.den : Int))) (fun ρ w' r => rProd_c (Rel.old r (oldF w)) ((hXd.rel r (oldF w)).l (k := 100000) (by omega)) ((hYd.rel r (oldF w)).l (k := 100000) (by omega)) (by omega) (by omega)) ?_
  rintro ρ wa8 v8 wb8 r he hb hn
  replace hw := hw.tr hb
  replace hXn := hXn.past (iv' := (wa8.heap.size, wb8.heap.size) :: iv7) r (oldF w) he fun x hx => List.mem_cons_of_mem _ hx
  replace hXd := hXd.past (iv' := (wa8.heap.size, wb8.heap.size) :: iv7) r (oldF w) he fun x hx => List.mem_cons_of_mem _ hx
  replace hYn := hYn.past (iv' := (wa8.heap.size, wb8.heap.size) :: iv7) r (oldF w) he fun x hx => List.mem_cons_of_mem _ hx
  replace hYd := hYd.past (iv' := (wa8.heap.size, wb8.heap.size) :: iv7) r (oldF w) he fun x hx => List.mem_cons_of_mem _ hx
  replace hN := hN.past (iv' := (wa8.heap.size, wb8.heap.size) :: iv7) r (oldF w) he fun x hx => List.mem_cons_of_mem _ hx
  have hD := hn.got (S := fun _ => False) r.baseLe (iv := (wa8.heap.size, wb8.heap.size) :: iv7) List.mem_cons_self
  clear r he hb hn
  generalize (wa8.heap.size, wb8.heap.size) :: iv7 = iv8 at *
  obtain ⟨s8_0, s8_1, s8_2, s8_3, rfl⟩ := hD.shape
  conv => whnf
  refine callE_con (Φ := fun _ w' v w2 => RatC w2 (Nw (fun _ => False) w' w2) v (p + q)) (fun ρ w' r => (rat_add p q) ▸ rOver_c (Rel.old r (oldF w)) ((hN.rel r (oldF w)).l (k := 200001) (by omega)) ((hD.rel r (oldF w)).l (k := 200001) (by omega)) (by omega) (by omega) (mul_ne (den_ne p) (den_ne q))) ?_
  rintro ρ wa9 v9 wb9 r he hb hn
  replace hw := hw.tr hb
  clear hXn
  clear hXd
  clear hYn
  clear hYd
  clear hN
  clear hD
  have hR := hn.got (S := fun _ => False) r.baseLe (iv := (wa9.heap.size, wb9.heap.size) :: iv8) List.mem_cons_self
  clear r he hb hn
  generalize (wa9.heap.size, wb9.heap.size) :: iv8 = iv9 at *
  obtain ⟨s9_0, s9_1, s9_2, s9_3, s9_4, s9_5, s9_6, s9_7, rfl⟩ := hR.shape
  conv => whnf
  intro ρe we re
  exact ⟨_, rfl, hw.tr re.bel, hR.out re (oldF w)⟩

theorem rMul_c {S : Nat → Prop} {w : World} {v u : Value} {p q : Rat} (hS : Old S w) (hp : RatL w S v p) (hq : RatL w S u q) :
    Con PG N.ref01_Mul #[v, u] w (Ret w fun v' w2 => RatC w2 (Nw (fun _ => False) w w2) v' (p * q)) := by
  have hw : Bel w.heap.size w w := Bel.refl
  replace hp := hp.weak (S' := Cv S w.heap.size []) fun _ h => .inl h
  replace hq := hq.weak (S' := Cv S w.heap.size []) fun _ h => .inl h
  obtain ⟨b1, a1, n1, c1, b2, a2, n2, c2, rfl⟩ := hp.shape
  obtain ⟨b3, a3, n3, c3, b4, a4, n4, c4, rfl⟩ := hq.shape
  refine in_ref01_Mul (by simp) ?_
  conv => whnf
  have r1 := hp.rl
  have r2 := hq.rl
  have u1 := rl_num p
  have u2 := rl_den' p
  have u3 := rl_num q
  have u4 := rl_den' q
  refine callE_S (callE_con (Φ := fun _ w' v w2 => ∃ n d ok, v = .tuple #[.int .i64 n, .int .i64 d, .bool ok] ∧ (ok = true → d ≠ 0 ∧ n.natAbs < 1073741824 ∧ d.natAbs < 1073741824 ∧ Rat.divInt n d = p)) (fun ρ w' r => quick_c (Rel.old r hS) (hp.rel r hS)) ?_)
  rintro ρ wa1 v1 wb1 r he hb ⟨a, b, k1, rfl, g1⟩
  replace hw := hw.tr hb
  replace hp := hp.past (iv' := (wa1.heap.size, wb1.heap.size) :: []) r hS he fun x hx => List.mem_cons_of_mem _ hx
  replace hq := hq.past (iv' := (wa1.heap.size, wb1.heap.size) :: []) r hS he fun x hx => List.mem_cons_of_mem _ hx
  clear r he hb
  generalize (wa1.heap.size, wb1.heap.size) :: [] = iv1 at *
  conv => whnf
  refine callE_S (callE_con (Φ := fun _ w' v w2 => ∃ n d ok, v = .tuple #[.int .i64 n, .int .i64 d, .bool ok] ∧ (ok = true → d ≠ 0 ∧ n.natAbs < 1073741824 ∧ d.natAbs < 1073741824 ∧ Rat.divInt n d = q)) (fun ρ w' r => quick_c (Rel.old r hS) (hq.rel r hS)) ?_)
  rintro ρ wa2 v2 wb2 r he hb ⟨c, d, k2, rfl, g2⟩
  replace hw := hw.tr hb
  replace hp := hp.past (iv' := (wa2.heap.size, wb2.heap.size) :: iv1) r hS he fun x hx => List.mem_cons_of_mem _ hx
  replace hq := hq.past (iv' := (wa2.heap.size, wb2.heap.size) :: iv1) r hS he fun x hx => List.mem_cons_of_mem _ hx
  clear r he hb
  generalize (wa2.heap.size, wb2.heap.size) :: iv1 = iv2 at *
  conv => whnf
  refine BrS.mk (fun h1 => ?_) (fun h1 => ?_)
  · conv => whnf
    refine BrS.mk (fun h2 => ?_) (fun h2 => ?_)
    · obtain ⟨g3, g4, g5, g6⟩ := g1 h1
      obtain ⟨g7, g8, g9, g10⟩ := g2 h2
      have i1 := divInt_sq g4 g9
      have i2 := divInt_sq g8 g5
      have i3 := divInt_sq g5 g9
      have i4 := divInt_sq g4 g8
      clear hp hq
      conv => whnf
      refine ⟨a * c, by rw [wrap64] <;> omega, ?_⟩
      conv => whnf
      refine ⟨b * d, by rw [wrap64] <;> omega, ?_⟩
      conv => whnf
      have e := Rat.divInt_mul_divInt a c (d₁ := b) (d₂ := d)
      rw [g6, g10] at e
      refine callE_S (callE_con (Φ := fun _ w' v w2 => RatC w2 (Nw (fun _ => False) w' w2) v (p * q)) (fun ρ w' r => e ▸ rlowest_c (a * c) (b * d) w' (by omega) (by omega) (mul_ne g3 g7)) ?_)
      rintro ρ wa3 v3 wb3 r he hb hn
      replace hw := hw.tr hb
      have hR := hn.got (S := fun _ => False) r.baseLe (iv := (wa3.heap.size, wb3.heap.size) :: iv2) List.mem_cons_self
      clear r he hb hn
      generalize (wa3.heap.size, wb3.heap.size) :: iv2 = iv3 at *
      obtain ⟨s3_0, s3_1, s3_2, s3_3, s3_4, s3_5, s3_6, s3_7, rfl⟩ := hR.shape
      conv => whnf
      intro ρe we re
      exact ⟨_, rfl, hw.tr re.bel, hR.out re (oldF w)⟩
    conv => whnf
    refine drawn_of_pi hτ hmix [.x 0, .x 2, .x 1, .x 3, .x 4, .x 5] (by kernel_rfl) (by kernel_rfl) ?_
    conv => whnf
    refine callE_con (Φ := fun _ w' v w2 => RatC w2 (Nw (fun _ => False) w' w2) v (p)) (fun ρ w' r => rNormal_c (Rel.old r hS) (hp.rel r hS)) ?_
    rintro ρ wa3 v3 wb3 r he hb hn
    replace hw := hw.tr hb
    clear hp
    replace hq := hq.past (iv' := (wa3.heap.size, wb3.heap.size) :: iv2) r hS he fun x hx => List.mem_cons_of_mem _ hx
    have hX := hn.got (S := fun _ => False) r.baseLe (iv := (wa3.heap.size, wb3.heap.size) :: iv2) List.mem_cons_self
    clear r he hb hn
    generalize (wa3.heap.size, wb3.heap.size) :: iv2 = iv3 at *
    obtain ⟨s3_0, s3_1, s3_2, s3_3, s3_4, s3_5, s3_6, s3_7, rfl⟩ := hX.shape
    conv => whnf
    refine callE_con (Φ := fun _ w' v w2 => RatC w2 (Nw (fun _ => False) w' w2) v (q)) (fun ρ w' r => rNormal_c (Rel.old r hS) (hq.rel r hS)) ?_
    rintro ρ wa4 v4 wb4 r he hb hn
    replace hw := hw.tr hb
    clear hq
    replace hX := hX.past (iv' := (wa4.heap.size, wb4.heap.size) :: iv3) r (oldF w) he fun x hx => List.mem_cons_of_mem _ hx
    have hY := hn.got (S := fun _ => False) r.baseLe (iv := (wa4.heap.size, wb4.heap.size) :: iv3) List.mem_cons_self
    clear r he hb hn
    generalize (wa4.heap.size, wb4.heap.size) :: iv3 = iv4 at *
    obtain ⟨s4_0, s4_1, s4_2, s4_3, s4_4, s4_5, s4_6, s4_7, rfl⟩ := hY.shape
    conv => whnf
    have hXn := hX.num
    have hXd := hX.den
    clear hX
    have hYn := hY.num
    have hYd := hY.den
    clear hY
    have m0 := ln_mul_abs p.num q.den
    have m1 := ln_mul_abs q.num p.den
    have m2 := ln_mul_abs (p.den : Int) q.den
    have m3 := ln_add_int (p.num * q.den) (q.num * p.den)
    have m4 := ln_mul_abs p.num q.num
    refine drawn_of_pi hτ hmix [.x 0, .x 1, .x 2, .x 3, .x 5, .x 6, .x 7, .x 8, .x 4, .x 9, .x 10, .x 11] (by kernel_rfl) (by kernel_rfl) ?_
    conv => whnf
    refine callE_con (Φ := fun _ w' v w2 => IntC w2 (Nw (fun _ => False) w' w2) v (p.num * q.num)) (fun ρ w' r => rProd_c (Rel.old r (oldF w)) ((hXn.rel r (oldF w)).l (k := 100000) (by omega)) ((hYn.rel r (oldF w)).l (k := 100000) (by omega)) (by omega) (by omega)) ?_
    rintro ρ wa5 v5 wb5 r he hb hn
    replace hw := hw.tr hb
    replace hXn := hXn.past (iv' := (wa5.heap.size, wb5.heap.size) :: iv4) r (oldF w) he fun x hx => List.mem_cons_of_mem _ hx
    replace hXd := hXd.past (iv' := (wa5.heap.size, wb5.heap.size) :: iv4) r (oldF w) he fun x hx => List.mem_cons_of_mem _ hx
    replace hYn := hYn.past (iv' := (wa5.heap.size, wb5.heap.size) :: iv4) r (oldF w) he fun x hx => List.mem_cons_of_mem _ hx
    replace hYd := hYd.past (iv' := (wa5.heap.size, wb5.heap.size) :: iv4) r (oldF w) he fun x hx => List.mem_cons_of_mem _ hx
    have hN := hn.got (S := fun _ => False) r.baseLe (iv := (wa5.heap.size, wb5.heap.size) :: iv4) List.mem_cons_self
    clear r he hb hn
    generalize (wa5.heap.size, wb5.heap.size) :: iv4 = iv5 at *
    obtain ⟨s5_0, s5_1, s5_2, s5_3, rfl⟩ := hN.shape
    conv => whnf
    refine callE_con (Φ := fun _ w' v w2 => IntC w2 (Nw (fun _ => False) w' w2) v ((p.den : Int) * (q.den : Int))) (fun ρ w' r => rProd_c (Rel.old r (oldF w)) ((hXd.rel r (oldF w)).l (k := 100000) (by omega)) ((hYd.rel r (oldF w)).l (k := 100000) (by omega)) (by omega) (by omega)) ?_
    rintro ρ wa6 v6 wb6 r he hb hn
    replace hw := hw.tr hb
    replace hXn := hXn.past (iv' := (wa6.heap.size, wb6.heap.size) :: iv5) r (oldF w) he fun x hx => List.mem_cons_of_mem _ hx
    replace hXd := hXd.past (iv' := (wa6.heap.size, wb6.heap.size) :: iv5) r (oldF w) he fun x hx => List.mem_cons_of_mem _ hx
    replace hYn := hYn.past (iv' := (wa6.heap.size, wb6.heap.size) :: iv5) r (oldF w) he fun x hx => List.mem_cons_of_mem _ hx
    replace hYd := hYd.past (iv' := (wa6.heap.size, wb6.heap.size) :: iv5) r (oldF w) he fun x hx => List.mem_cons_of_mem _ hx
    replace hN := hN.past (iv' := (wa6.heap.size, wb6.heap.size) :: iv5) r (oldF w) he fun x hx => List.mem_cons_of_mem _ hx
    have hD := hn.got (S := fun _ => False) r.baseLe (iv := (wa6.heap.size, wb6.heap.size) :: iv5) List.mem_cons_self
    clear r he hb hn
    generalize (wa6.heap.size, wb6.heap.size) :: iv5 = iv6 at *
    obtain ⟨s6_0, s6_1, s6_2, s6_3, rfl⟩ := hD.shape
    conv => whnf
    refine callE_con (Φ := fun _ w' v w2 => RatC w2 (Nw (fun _ => False) w' w2) v (p * q)) (fun ρ w' r => (rat_mul p q) ▸ rOver_c (Rel.old r (oldF w)) ((hN.rel r (oldF w)).l (k := 200001) (by omega)) ((hD.rel r (oldF w)).l (k := 200001) (by omega)) (by omega) (by omega) (mul_ne (den_ne p) (den_ne q))) ?_
    rintro ρ wa7 v7 wb7 r he hb hn
    replace hw := hw.tr hb
    clear hXn
    clear hXd
    clear hYn
    clear hYd
    clear hN
    clear hD
    have hR := hn.got (S := fun _ => False) r.baseLe (iv := (wa7.heap.size, wb7.heap.size) :: iv6) List.mem_cons_self
    clear r he hb hn
    generalize (wa7.heap.size, wb7.heap.size) :: iv6 = iv7 at *
    obtain ⟨s7_0, s7_1, s7_2, s7_3, s7_4, s7_5, s7_6, s7_7, rfl⟩ := hR.shape
    conv => whnf
    intro ρe we re
    exact ⟨_, rfl, hw.tr re.bel, hR.out re (oldF w)⟩
  conv => whnf
  refine drawn_of_pi hτ hmix [.x 0, .x 2, .x 1, .x 3, .x 4, .x 5] (by kernel_rfl) (by kernel_rfl) ?_
  conv => whnf
  refine callE_con (Φ := fun _ w' v w2 => RatC w2 (Nw (fun _ => False) w' w2) v (p)) (fun ρ w' r => rNormal_c (Rel.old r hS) (hp.rel r hS)) ?_
  rintro ρ wa3 v3 wb3 r he hb hn
  replace hw := hw.tr hb
  clear hp
  replace hq := hq.past (iv' := (wa3.heap.size, wb3.heap.size) :: iv2) r hS he fun x hx => List.mem_cons_of_mem _ hx
  have hX := hn.got (S := fun _ => False) r.baseLe (iv := (wa3.heap.size, wb3.heap.size) :: iv2) List.mem_cons_self
  clear r he hb hn
  generalize (wa3.heap.size, wb3.heap.size) :: iv2 = iv3 at *
  obtain ⟨s3_0, s3_1, s3_2, s3_3, s3_4, s3_5, s3_6, s3_7, rfl⟩ := hX.shape
  conv => whnf
  refine callE_con (Φ := fun _ w' v w2 => RatC w2 (Nw (fun _ => False) w' w2) v (q)) (fun ρ w' r => rNormal_c (Rel.old r hS) (hq.rel r hS)) ?_
  rintro ρ wa4 v4 wb4 r he hb hn
  replace hw := hw.tr hb
  clear hq
  replace hX := hX.past (iv' := (wa4.heap.size, wb4.heap.size) :: iv3) r (oldF w) he fun x hx => List.mem_cons_of_mem _ hx
  have hY := hn.got (S := fun _ => False) r.baseLe (iv := (wa4.heap.size, wb4.heap.size) :: iv3) List.mem_cons_self
  clear r he hb hn
  generalize (wa4.heap.size, wb4.heap.size) :: iv3 = iv4 at *
  obtain ⟨s4_0, s4_1, s4_2, s4_3, s4_4, s4_5, s4_6, s4_7, rfl⟩ := hY.shape
  conv => whnf
  have hXn := hX.num
  have hXd := hX.den
  clear hX
  have hYn := hY.num
  have hYd := hY.den
  clear hY
  have m0 := ln_mul_abs p.num q.den
  have m1 := ln_mul_abs q.num p.den
  have m2 := ln_mul_abs (p.den : Int) q.den
  have m3 := ln_add_int (p.num * q.den) (q.num * p.den)
  have m4 := ln_mul_abs p.num q.num
  refine drawn_of_pi hτ hmix [.x 0, .x 1, .x 2, .x 3, .x 5, .x 6, .x 7, .x 8, .x 4, .x 9, .x 10, .x 11] (by kernel_rfl) (by kernel_rfl) ?_
  conv => whnf
  refine callE_con (Φ := fun _ w' v w2 => IntC w2 (Nw (fun _ => False) w' w2) v (p.num * q.num)) (fun ρ w' r => rProd_c (Rel.old r (oldF w)) ((hXn.rel r (oldF w)).l (k := 100000) (by omega)) ((hYn.rel r (oldF w)).l (k := 100000) (by omega)) (by omega) (by omega)) ?_
  rintro ρ wa5 v5 wb5 r he hb hn
  replace hw := hw.tr hb
  replace hXn := hXn.past (iv' := (wa5.heap.size, wb5.heap.size) :: iv4) r (oldF w) he fun x hx => List.mem_cons_of_mem _ hx
  replace hXd := hXd.past (iv' := (wa5.heap.size, wb5.heap.size) :: iv4) r (oldF w) he fun x hx => List.mem_cons_of_mem _ hx
  replace hYn := hYn.past (iv' := (wa5.heap.size, wb5.heap.size) :: iv4) r (oldF w) he fun x hx => List.mem_cons_of_mem _ hx
  replace hYd := hYd.past (iv' := (wa5.heap.size, wb5.heap.size) :: iv4) r (oldF w) he fun x hx => List.mem_cons_of_mem _ hx
  have hN := hn.got (S := fun _ => False) r.baseLe (iv := (wa5.heap.size, wb5.heap.size) :: iv4) List.mem_cons_self
  clear r he hb hn
  generalize (wa5.heap.size, wb5.heap.size) :: iv4 = iv5 at *
  obtain ⟨s5_0, s5_1, s5_2, s5_3, rfl⟩ := hN.shape
  conv => whnf
  refine callE_con (Φ := fun _ w' v w2 => IntC w2 (Nw (fun _ => False) w' w2) v ((p.den : Int) * (q.den : Int))) (fun ρ w' r => rProd_c (Rel.old r (oldF w)) ((hXd.rel r (oldF w)).l (k := 100000) (by omega)) ((hYd.rel r (oldF w)).l (k := 100000) (by omega)) (by omega) (by omega)) ?_
  rintro ρ wa6 v6 wb6 r he hb hn
  replace hw := hw.tr hb
  replace hXn := hXn.past (iv' := (wa6.heap.size, wb6.heap.size) :: iv5) r (oldF w) he fun x hx => List.mem_cons_of_mem _ hx
  replace hXd := hXd.past (iv' := (wa6.heap.size, wb6.heap.size) :: iv5) r (oldF w) he fun x hx => List.mem_cons_of_mem _ hx
  replace hYn := hYn.past (iv' := (wa6.heap.size, wb6.heap.size) :: iv5) r (oldF w) he fun x hx => List.mem_cons_of_mem _ hx
  replace hYd := hYd.past (iv' := (wa6.heap.size, wb6.heap.size) :: iv5) r (oldF w) he fun x hx => List.mem_cons_of_mem _ hx
  replace hN := hN.past (iv' := (wa6.heap.size, wb6.heap.size) :: iv5) r (oldF w) he fun x hx => List.mem_cons_of_mem _ hx
  have hD := hn.got (S := fun _ => False) r.baseLe (iv := (wa6.heap.size, wb6.heap.size) :: iv5) List.mem_cons_self
  clear r he hb hn
  generalize (wa6.heap.size, wb6.heap.size) :: iv5 = iv6 at *
  obtain ⟨s6_0, s6_1, s6_2, s6_3, rfl⟩ := hD.shape
  conv => whnf
  refine callE_con (Φ := fun _ w' v w2 => RatC w2 (Nw (fun _ => False) w' w2) v (p * q)) (fun ρ w' r => (rat_mul p q) ▸ rOver_c (Rel.old r (oldF w)) ((hN.rel r (oldF w)).l (k := 200001) (by omega)) ((hD.rel r (oldF w)).l (k := 200001) (by omega)) (by omega) (by omega) (mul_ne (den_ne p) (den_ne q))) ?_
  rintro ρ wa7 v7 wb7 r he hb hn
  replace hw := hw.tr hb
  clear hXn
  clear hXd
  clear hYn
  clear hYd
  clear hN
  clear hD
  have hR := hn.got (S := fun _ => False) r.baseLe (iv := (wa7.heap.size, wb7.heap.size) :: iv6) List.mem_cons_self
  clear r he hb hn
  generalize (wa7.heap.size, wb7.heap.size) :: iv6 = iv7 at *
  obtain ⟨s7_0, s7_1, s7_2, s7_3, s7_4, s7_5, s7_6, s7_7, rfl⟩ := hR.shape
  conv => whnf
  intro ρe we re
  exact ⟨_, rfl, hw.tr re.bel, hR.out re (oldF w)⟩

theorem rNeg_c {S : Nat → Prop} {w : World} {v : Value} {p : Rat} (hS : Old S w) (hp : RatL w S v p) :
    Con PG N.ref01_Neg #[v] w (Ret w fun v' w2 => RatC w2 (Nw (fun _ => False) w w2) v' (-p)) := by
  have hw : Bel w.heap.size w w := Bel.refl
  replace hp := hp.weak (S' := Cv S w.heap.size []) fun _ h => .inl h
  obtain ⟨b1, a1, n1, c1, b2, a2, n2, c2, rfl⟩ := hp.shape
  refine in_ref01_Neg (by simp) ?_
  conv => whnf
  have r1 := hp.rl
  have u1 := rl_num p
  have u2 := rl_den' p
  refine callE_S (callE_con (Φ := fun _ w' v w2 => RatC w2 (Nw (fun _ => False) w' w2) v (p)) (fun ρ w' r => rNormal_c (Rel.old r hS) (hp.rel r hS)) ?_)
  rintro ρ wa1 v1 wb1 r he hb hn
  replace hw := hw.tr hb
  clear hp
  have hX := hn.got (S := fun _ => False) r.baseLe (iv := (wa1.heap.size, wb1.heap.size) :: []) List.mem_cons_self
  clear r he hb hn
  generalize (wa1.heap.size, wb1.heap.size) :: [] = iv1 at *
  obtain ⟨s1_0, s1_1, s1_2, s1_3, s1_4, s1_5, s1_6, s1_7, rfl⟩ := hX.shape
  conv => whnf
  have hXn := hX.num
  have hXd := hX.den
  clear hX
  refine drawn_of_pi hτ hmix [.x 0, .x 1, .x 3, .x 4, .x 2, .x 5, .x 6] (by kernel_rfl) (by kernel_rfl) ?_
  conv => whnf
  refine callE_con (Φ := fun _ w' v w2 => IntC w2 (Nw (fun _ => False) w' w2) v (-p.num)) (fun ρ w' r => rMinus_c (Rel.old r (oldF w)) ((hXn.rel r (oldF w)).l (k := 100000) (by omega)) (by omega)) ?_
  rintro ρ wa2 v2 wb2 r he hb hn
  replace hw := hw.tr hb
  clear hXn
  replace hXd := hXd.past (iv' := (wa2.heap.size, wb2.heap.size) :: iv1) r (oldF w) he fun x hx => List.mem_cons_of_mem _ hx
  have hN := hn.got (S := fun _ => False) r.baseLe (iv := (wa2.heap.size, wb2.heap.size) :: iv1) List.mem_cons_self
  clear r he hb hn
  generalize (wa2.heap.size, wb2.heap.size) :: iv1 = iv2 at *
  obtain ⟨s2_0, s2_1, s2_2, s2_3, rfl⟩ := hN.shape
  conv => whnf
  refine callE_con (Φ := fun _ w' v w2 => RatC w2 (Nw (fun _ => False) w' w2) v (-p)) (fun ρ w' r => show Con _ _ _ _ (Ret _ fun v w2 => RatC w2 _ v (-p)) from (show Rat.divInt (-p.num) p.den = -p by rw [← Rat.neg_divInt, Rat.num_divInt_den]) ▸ rOver_c (Rel.old r (oldF w)) ((hN.rel r (oldF w)).l (k := 100000) (by rw [Int.natAbs_neg]; omega)) ((hXd.rel r (oldF w)).l (k := 100000) (by omega)) (by omega) (by omega) (den_ne p)) ?_
  rintro ρ wa3 v3 wb3 r he hb hn
  replace hw := hw.tr hb
  clear hXd
  clear hN
  have hR := hn.got (S := fun _ => False) r.baseLe (iv := (wa3.heap.size, wb3.heap.size) :: iv2) List.mem_cons_self
  clear r he hb hn
  generalize (wa3.heap.size, wb3.heap.size) :: iv2 = iv3 at *
  obtain ⟨s3_0, s3_1, s3_2, s3_3, s3_4, s3_5, s3_6, s3_7, rfl⟩ := hR.shape
  conv => whnf
  intro ρe we re
  exact ⟨_, rfl, hw.tr re.bel, hR.out re (oldF w)⟩

theorem rSub_c {S : Nat → Prop} {w : World} {v u : Value} {p q : Rat} (hS : Old S w) (hp : RatL w S v p) (hq : RatL w S u q) :
    Con PG N.ref01_Sub #[v, u] w (Ret w fun v' w2 => RatC w2 (Nw (fun _ => False) w w2) v' (p - q)) := by
  have hw : Bel w.heap.size w w := Bel.refl
  replace hp := hp.weak (S' := Cv S w.heap.size []) fun _ h => .inl h
  replace hq := hq.weak (S' := Cv S w.heap.size []) fun _ h => .inl h
  obtain ⟨b1, a1, n1, c1, b2, a2, n2, c2, rfl⟩ := hp.shape
  obtain ⟨b3, a3, n3, c3, b4, a4, n4, c4, rfl⟩ := hq.shape
  refine in_ref01_Sub (by simp) ?_
  conv => whnf
  have r1 := hp.rl
  have r2 := hq.rl
  have u1 := rl_neg q
  refine drawn_of_pi hτ hmix [.x 0, .x 1, .x 2, .x 3, .x 4] (by kernel_rfl) (by kernel_rfl) ?_
  conv => whnf
  refine callE_con (Φ := fun _ w' v w2 => RatC w2 (Nw (fun _ => False) w' w2) v (-q)) (fun ρ w' r => rNeg_c (Rel.old r hS) (hq.rel r hS)) ?_
  rintro ρ wa1 v1 wb1 r he hb hn
  replace hw := hw.tr hb
  replace hp := hp.past (iv' := (wa1.heap.size, wb1.heap.size) :: []) r hS he fun x hx => List.mem_cons_of_mem _ hx
  clear hq
  have hN := hn.got (S := fun _ => False) r.baseLe (iv := (wa1.heap.size, wb1.heap.size) :: []) List.mem_cons_self
  clear r he hb hn
  generalize (wa1.heap.size, wb1.heap.size) :: [] = iv1 at *
  obtain ⟨s1_0, s1_1, s1_2, s1_3, s1_4, s1_5, s1_6, s1_7, rfl⟩ := hN.shape
  conv => whnf
  refine callE_con (Φ := fun _ w' v w2 => RatC w2 (Nw (fun _ => False) w' w2) v (p - q)) (fun ρ w' r => (Rat.sub_eq_add_neg p q) ▸ rAdd_c (Rel.old r hS) (hp.rel r hS) (((hN.rel r (oldF w)).l (by omega)).weak fun g hg => Cv.false hg)) ?_
  rintro ρ wa2 v2 wb2 r he hb hn
  replace hw := hw.tr hb
  clear hp
  clear hN
  have hR := hn.got (S := fun _ => False) r.baseLe (iv := (wa2.heap.size, wb2.heap.size) :: iv1) List.mem_cons_self
  clear r he hb hn
  generalize (wa2.heap.size, wb2.heap.size) :: iv1 = iv2 at *
  obtain ⟨s2_0, s2_1, s2_2, s2_3, s2_4, s2_5, s2_6, s2_7, rfl⟩ := hR.shape
  conv => whnf
  intro ρe we re
  exact ⟨_, rfl, hw.tr re.bel, hR.out re (oldF w)⟩

theorem rCmp_c {S : Nat → Prop} {w : World} {v u : Value} {p q : Rat} (hS : Old S w) (hp : RatL w S v p) (hq : RatL w S u q) :
    Con PG N.ref01_Cmp #[v, u] w (Ret w fun v' _ => v' = .int .i64 (rs (p - q))) := by
  have hw : Bel w.heap.size w w := Bel.refl
  replace hp := hp.weak (S' := Cv S w.heap.size []) fun _ h => .inl h
  replace hq := hq.weak (S' := Cv S w.heap.size []) fun _ h => .inl h
  obtain ⟨b1, a1, n1, c1, b2, a2, n2, c2, rfl⟩ := hp.shape
  obtain ⟨b3, a3, n3, c3, b4, a4, n4, c4, rfl⟩ := hq.shape
  refine in_ref01_Cmp (by simp) ?_
  conv => whnf
  refine callE_S (callE_con (Φ := fun _ w' v w2 => RatC w2 (Nw (fun _ => False) w' w2) v (p - q)) (fun ρ w' r => rSub_c (Rel.old r hS) (hp.rel r hS) (hq.rel r hS)) ?_)
  rintro ρ wa1 v1 wb1 r he hb hn
  replace hw := hw.tr hb
  clear hp
  clear hq
  have hR := hn.got (S := fun _ => False) r.baseLe (iv := (wa1.heap.size, wb1.heap.size) :: []) List.mem_cons_self
  clear r he hb hn
  generalize (wa1.heap.size, wb1.heap.size) :: [] = iv1 at *
  obtain ⟨s1_0, s1_1, s1_2, s1_3, s1_4, s1_5, s1_6, s1_7, rfl⟩ := hR.shape
  conv => whnf
  refine callE_S (callE_con (Φ := fun _ w' v w2 => v = .int .i64 (rs (p - q))) (fun ρ w' r => rSignOf_c (Rel.old r (oldF w)) (hR.rel r (oldF w))) ?_)
  rintro ρ wa2 v2 wb2 r he hb rfl
  replace hw := hw.tr hb
  clear hR
  clear r he hb
  generalize (wa2.heap.size, wb2.heap.size) :: iv1 = iv2 at *
  conv => whnf
  intro ρe we re
  exact ⟨_, rfl, hw.tr re.bel, rfl⟩

theorem rQuo_c {S : Nat → Prop} {w : World} {v u : Value} {p q : Rat} (hS : Old S w) (hp : RatL w S v p) (hq : RatL w S u q) :
    Con PG N.ref01_Quo #[v, u] w (Ret w fun v' w2 => (q = 0 ∧ v' = .tuple #[ratNil, .int .i64 9]) ∨ (q ≠ 0 ∧ ∃ r, v' = .tuple #[r, .int .i64 0] ∧ RatC w2 (Nw (fun _ => False) w w2) r (p / q))) := by
  have hw : Bel w.heap.size w w := Bel.refl
  replace hp := hp.weak (S' := Cv S w.heap.size []) fun _ h => .inl h
  replace hq := hq.weak (S' := Cv S w.heap.size []) fun _ h => .inl h
  obtain ⟨b1, a1, n1, c1, b2, a2, n2, c2, rfl⟩ := hp.shape
  obtain ⟨b3, a3, n3, c3, b4, a4, n4, c4, rfl⟩ := hq.shape
  refine in_ref01_Quo (by simp) ?_
  conv => whnf
  have r1 := hp.rl
  have r2 := hq.rl
  have u1 := rl_num p
  have u2 := rl_den' p
  have u3 := rl_num q
  have u4 := rl_den' q
  have m0 := ln_mul_abs p.num q.den
  have m1 := ln_mul_abs (p.den : Int) q.num
  refine drawn_of_pi hτ hmix [.x 0, .x 2, .x 1, .x 3, .x 4, .x 5] (by kernel_rfl) (by kernel_rfl) ?_
  conv => whnf
  refine callE_con (Φ := fun _ w' v w2 => RatC w2 (Nw (fun _ => False) w' w2) v (p)) (fun ρ w' r => rNormal_c (Rel.old r hS) (hp.rel r hS)) ?_
  rintro ρ wa1 v1 wb1 r he hb hn
  replace hw := hw.tr hb
  clear hp
  replace hq := hq.past (iv' := (wa1.heap.size, wb1.heap.size) :: []) r hS he fun x hx => List.mem_cons_of_mem _ hx
  have hX := hn.got (S := fun _ => False) r.baseLe (iv := (wa1.heap.size, wb1.heap.size) :: []) List.mem_cons_self
  clear r he hb hn
  generalize (wa1.heap.size, wb1.heap.size) :: [] = iv1 at *
  obtain ⟨s1_0, s1_1, s1_2, s1_3, s1_4, s1_5, s1_6, s1_7, rfl⟩ := hX.shape
  conv => whnf
  refine callE_con (Φ := fun _ w' v w2 => RatC w2 (Nw (fun _ => False) w' w2) v (q)) (fun ρ w' r => rNormal_c (Rel.old r hS) (hq.rel r hS)) ?_
  rintro ρ wa2 v2 wb2 r he hb hn
  replace hw := hw.tr hb
  clear hq
  replace hX := hX.past (iv' := (wa2.heap.size, wb2.heap.size) :: iv1) r (oldF w) he fun x hx => List.mem_cons_of_mem _ hx
  have hY := hn.got (S := fun _ => False) r.baseLe (iv := (wa2.heap.size, wb2.heap.size) :: iv1) List.mem_cons_self
  clear r he hb hn
  generalize (wa2.heap.size, wb2.heap.size) :: iv1 = iv2 at *
  obtain ⟨s2_0, s2_1, s2_2, s2_3, s2_4, s2_5, s2_6, s2_7, rfl⟩ := hY.shape
  conv => whnf
  refine callE_S (callE_con (Φ := fun _ w' v w2 => v = .int .i64 (rs q)) (fun ρ w' r => rSignOf_c (Rel.old r (oldF w)) (hY.rel r (oldF w))) ?_)
  rintro ρ wa3 v3 wb3 r he hb rfl
  replace hw := hw.tr hb
  replace hX := hX.past (iv' := (wa3.heap.size, wb3.heap.size) :: iv2) r (oldF w) he fun x hx => List.mem_cons_of_mem _ hx
  replace hY := hY.past (iv' := (wa3.heap.size, wb3.heap.size) :: iv2) r (oldF w) he fun x hx => List.mem_cons_of_mem _ hx
  clear r he hb
  generalize (wa3.heap.size, wb3.heap.size) :: iv2 = iv3 at *
  conv => whnf
  refine BrS.mk (fun h => ?_) (fun h => ?_)
  · have h : rs q = 0 := by simpa using h
    conv => whnf
    intro ρe we re
    exact ⟨_, rfl, hw.tr re.bel, .inl ⟨rs_zero.1 h, rfl⟩⟩
  have h : q ≠ 0 := fun e => by rw [e] at h; exact absurd h (by decide)
  have hqn : q.num ≠ 0 := fun e => h (Rat.num_eq_zero.1 e)
  conv => whnf
  have hXn := hX.num
  have hXd := hX.den
  clear hX
  have hYn := hY.num
  have hYd := hY.den
  clear hY
  refine drawn_of_pi hτ hmix [.x 0, .x 1, .x 2, .x 3, .x 5, .x 6, .x 7, .x 8, .x 4, .x 9, .x 10, .x 11, .x 12] (by kernel_rfl) (by kernel_rfl) ?_
  conv => whnf
  refine callE_con (Φ := fun _ w' v w2 => IntC w2 (Nw (fun _ => False) w' w2) v (p.num * (q.den : Int))) (fun ρ w' r => rProd_c (Rel.old r (oldF w)) ((hXn.rel r (oldF w)).l (k := 100000) (by omega)) ((hYd.rel r (oldF w)).l (k := 100000) (by omega)) (by omega) (by omega)) ?_
  rintro ρ wa4 v4 wb4 r he hb hn
  replace hw := hw.tr hb
  clear hXn
  replace hXd := hXd.past (iv' := (wa4.heap.size, wb4.heap.size) :: iv3) r (oldF w) he fun x hx => List.mem_cons_of_mem _ hx
  replace hYn := hYn.past (iv' := (wa4.heap.size, wb4.heap.size) :: iv3) r (oldF w) he fun x hx => List.mem_cons_of_mem _ hx
  clear hYd
  have hN := hn.got (S := fun _ => False) r.baseLe (iv := (wa4.heap.size, wb4.heap.size) :: iv3) List.mem_cons_self
  clear r he hb hn
  generalize (wa4.heap.size, wb4.heap.size) :: iv3 = iv4 at *
  obtain ⟨s4_0, s4_1, s4_2, s4_3, rfl⟩ := hN.shape
  conv => whnf
  refine callE_con (Φ := fun _ w' v w2 => IntC w2 (Nw (fun _ => False) w' w2) v ((p.den : Int) * q.num)) (fun ρ w' r => rProd_c (Rel.old r (oldF w)) ((hXd.rel r (oldF w)).l (k := 100000) (by omega)) ((hYn.rel r (oldF w)).l (k := 100000) (by omega)) (by omega) (by omega)) ?_
  rintro ρ wa5 v5 wb5 r he hb hn
  replace hw := hw.tr hb
  clear hXd
  clear hYn
  replace hN := hN.past (iv' := (wa5.heap.size, wb5.heap.size) :: iv4) r (oldF w) he fun x hx => List.mem_cons_of_mem _ hx
  have hD := hn.got (S := fun _ => False) r.baseLe (iv := (wa5.heap.size, wb5.heap.size) :: iv4) List.mem_cons_self
  clear r he hb hn
  generalize (wa5.heap.size, wb5.heap.size) :: iv4 = iv5 at *
  obtain ⟨s5_0, s5_1, s5_2, s5_3, rfl⟩ := hD.shape
  conv => whnf
  refine callE_con (Φ := fun _ w' v w2 => RatC w2 (Nw (fun _ => False) w' w2) v (p / q)) (fun ρ w' r => (rat_div p q) ▸ rOver_c (Rel.old r (oldF w)) ((hN.rel r (oldF w)).l (k := 200001) (by omega)) ((hD.rel r (oldF w)).l (k := 200001) (by omega)) (by omega) (by omega) (mul_ne (den_ne p) hqn)) ?_
  rintro ρ wa6 v6 wb6 r he hb hn
  replace hw := hw.tr hb
  clear hN
  clear hD
  have hR := hn.got (S := fun _ => False) r.baseLe (iv := (wa6.heap.size, wb6.heap.size) :: iv5) List.mem_cons_self
  clear r he hb hn
  generalize (wa6.heap.size, wb6.heap.size) :: iv5 = iv6 at *
  obtain ⟨s6_0, s6_1, s6_2, s6_3, s6_4, s6_5, s6_6, s6_7, rfl⟩ := hR.shape
  conv => whnf
  intro ρe we re
  exact ⟨_, rfl, hw.tr re.bel, .inr ⟨h, _, rfl, hR.out re (oldF w)⟩⟩

theorem rFloor_c {S : Nat → Prop} {w : World} {v : Value} {p : Rat} (hS : Old S w) (hp : RatL w S v p) :
    Con PG N.ref01_Floor #[v] w (Ret w fun v' w2 => IntC w2 (Nw (fun _ => False) w w2) v' (p.num / p.den)) := by
  have hw : Bel w.heap.size w w := Bel.refl
  replace hp := hp.weak (S' := Cv S w.heap.size []) fun _ h => .inl h
  obtain ⟨b1, a1, n1, c1, b2, a2, n2, c2, rfl⟩ := hp.shape
  refine in_ref01_Floor (by simp) ?_
  conv => whnf
  have r1 := hp.rl
  have u1 := rl_num p
  have u2 := rl_den' p
  refine callE_S (callE_con (Φ := fun _ w' v w2 => RatC w2 (Nw (fun _ => False) w' w2) v (p)) (fun ρ w' r => rNormal_c (Rel.old r hS) (hp.rel r hS)) ?_)
  rintro ρ wa1 v1 wb1 r he hb hn
  replace hw := hw.tr hb
  clear hp
  have hX := hn.got (S := fun _ => False) r.baseLe (iv := (wa1.heap.size, wb1.heap.size) :: []) List.mem_cons_self
  clear r he hb hn
  generalize (wa1.heap.size, wb1.heap.size) :: [] = iv1 at *
  obtain ⟨s1_0, s1_1, s1_2, s1_3, s1_4, s1_5, s1_6, s1_7, rfl⟩ := hX.shape
  conv => whnf
  have hXn := hX.num
  have hXd := hX.den
  clear hX
  refine callE_S (callE_con (Φ := fun _ w' v w2 => ∃ q r, v = .tuple #[q, r, .int .i64 0] ∧ IntC w2 (Nw (fun _ => False) w' w2) q (p.num / p.den) ∧ IntC w2 (Nw (fun _ => False) w' w2) r (p.num % p.den)) (fun ρ w' r => rDivNon_c (Rel.old r (oldF w)) ((hXn.rel r (oldF w)).l (k := 100000) (by omega)) ((hXd.rel r (oldF w)).l (k := 100000) (by omega)) (by omega) (by omega) (den_ne p)) ?_)
  rintro ρ wa2 v2 wb2 r he hb ⟨q, rr, rfl, k1, k2⟩
  replace hw := hw.tr hb
  clear hXn
  clear hXd
  have hq := k1.got (S := fun _ => False) r.baseLe (iv := (wa2.heap.size, wb2.heap.size) :: iv1) List.mem_cons_self
  have hr := k2.got (S := fun _ => False) r.baseLe (iv := (wa2.heap.size, wb2.heap.size) :: iv1) List.mem_cons_self
  clear r he hb
  generalize (wa2.heap.size, wb2.heap.size) :: iv1 = iv2 at *
  obtain ⟨s2_0a, s2_0b, s2_0c, s2_0d, rfl⟩ := hq.shape
  obtain ⟨s2_1a, s2_1b, s2_1c, s2_1d, rfl⟩ := hr.shape
  clear k1 k2 hr
  conv => whnf
  intro ρe we re
  exact ⟨_, rfl, hw.tr re.bel, hq.out re (oldF w)⟩

theorem rWholeAll_c (n : Int) (w : World) (h1n : -9223372036854775808 ≤ n) (h2n : n ≤ 9223372036854775807) :
    Con PG N.ref01_Whole #[.int .i64 n] w (Ret w fun v' w2 => RatC w2 (Nw (fun _ => False) w w2) v' (n : Rat)) := by
  have hw : Bel w.heap.size w w := Bel.refl
  have ha := ln_small h1n h2n
  refine in_ref01_Whole (by simp) ?_
  conv => whnf
  refine callE_S (callE_con (Φ := fun _ w' v w2 => IntC w2 (Nw (fun _ => False) w' w2) v (n)) (fun ρ w' r => rOf_c n w' h1n h2n) ?_)
  rintro ρ wa1 v1 wb1 r he hb hn
  replace hw := hw.tr hb
  have hA := hn.got (S := fun _ => False) r.baseLe (iv := (wa1.heap.size, wb1.heap.size) :: []) List.mem_cons_self
  clear r he hb hn
  generalize (wa1.heap.size, wb1.heap.size) :: [] = iv1 at *
  obtain ⟨s1_0, s1_1, s1_2, s1_3, rfl⟩ := hA.shape
  conv => whnf
  refine callE_S (callE_con (Φ := fun _ w' v w2 => IntC w2 (Nw (fun _ => False) w' w2) v (1)) (fun ρ w' r => rOf_c 1 w' (by decide) (by decide)) ?_)
  rintro ρ wa2 v2 wb2 r he hb hn
  replace hw := hw.tr hb
  replace hA := hA.past (iv' := (wa2.heap.size, wb2.heap.size) :: iv1) r (oldF w) he fun x hx => List.mem_cons_of_mem _ hx
  have hB := hn.got (S := fun _ => False) r.baseLe (iv := (wa2.heap.size, wb2.heap.size) :: iv1) List.mem_cons_self
  clear r he hb hn
  generalize (wa2.heap.size, wb2.heap.size) :: iv1 = iv2 at *
  obtain ⟨s2_0, s2_1, s2_2, s2_3, rfl⟩ := hB.shape
  conv => whnf
  refine callE_S (callE_con (Φ := fun _ w' v w2 => RatC w2 (Nw (fun _ => False) w' w2) v ((n : Rat))) (fun ρ w' r => (divInt_one n) ▸ rOver_c (Rel.old r (oldF w)) ((hA.rel r (oldF w)).l (k := 2) (by omega)) ((hB.rel r (oldF w)).l (k := 2) (by decide)) (by omega) (by omega) (by decide)) ?_)
  rintro ρ wa3 v3 wb3 r he hb hn
  replace hw := hw.tr hb
  clear hA
  clear hB
  have hR := hn.got (S := fun _ => False) r.baseLe (iv := (wa3.heap.size, wb3.heap.size) :: iv2) List.mem_cons_self
  clear r he hb hn
  generalize (wa3.heap.size, wb3.heap.size) :: iv2 = iv3 at *
  obtain ⟨s3_0, s3_1, s3_2, s3_3, s3_4, s3_5, s3_6, s3_7, rfl⟩ := hR.shape
  conv => whnf
  intro ρe we re
  exact ⟨_, rfl, hw.tr re.bel, hR.out re (oldF w)⟩

theorem rRatio_c (a b : Int) (w : World) (h1a : -9223372036854775808 ≤ a) (h2a : a ≤ 9223372036854775807) (h1b : -9223372036854775808 ≤ b) (h2b : b ≤ 9223372036854775807) :
    Con PG N.ref01_Ratio #[.int .i64 a, .int .i64 b] w (Ret w fun v' w2 => (b = 0 ∧ v' = .tuple #[ratNil, .int .i64 9]) ∨ (b ≠ 0 ∧ ∃ q, v' = .tuple #[q, .int .i64 0] ∧ RatC w2 (Nw (fun _ => False) w w2) q (Rat.divInt a b))) := by
  have hw : Bel w.heap.size w w := Bel.refl
  have ha := ln_small h1a h2a
  have hb' := ln_small h1b h2b
  refine in_ref01_Ratio (by simp) ?_
  conv => whnf
  refine BrS.mk (fun h => ?_) (fun h => ?_)
  · have h : b = 0 := by simpa using h
    conv => whnf
    intro ρe we re
    exact ⟨_, rfl, hw.tr re.bel, .inl ⟨h, rfl⟩⟩
  have h : b ≠ 0 := by simpa using h
  conv => whnf
  refine callE_S (callE_con (Φ := fun _ w' v w2 => IntC w2 (Nw (fun _ => False) w' w2) v (a)) (fun ρ w' r => rOf_c a w' h1a h2a) ?_)
  rintro ρ wa1 v1 wb1 r he hb hn
  replace hw := hw.tr hb
  have hA := hn.got (S := fun _ => False) r.baseLe (iv := (wa1.heap.size, wb1.heap.size) :: []) List.mem_cons_self
  clear r he hb hn
  generalize (wa1.heap.size, wb1.heap.size) :: [] = iv1 at *
  obtain ⟨s1_0, s1_1, s1_2, s1_3, rfl⟩ := hA.shape
  conv => whnf
  refine callE_S (callE_con (Φ := fun _ w' v w2 => IntC w2 (Nw (fun _ => False) w' w2) v (b)) (fun ρ w' r => rOf_c b w' h1b h2b) ?_)
  rintro ρ wa2 v2 wb2 r he hb hn
  replace hw := hw.tr hb
  replace hA := hA.past (iv' := (wa2.heap.size, wb2.heap.size) :: iv1) r (oldF w) he fun x hx => List.mem_cons_of_mem _ hx
  have hB := hn.got (S := fun _ => False) r.baseLe (iv := (wa2.heap.size, wb2.heap.size) :: iv1) List.mem_cons_self
  clear r he hb hn
  generalize (wa2.heap.size, wb2.heap.size) :: iv1 = iv2 at *
  obtain ⟨s2_0, s2_1, s2_2, s2_3, rfl⟩ := hB.shape
  conv => whnf
  refine callE_S (callE_con (Φ := fun _ w' v w2 => RatC w2 (Nw (fun _ => False) w' w2) v (Rat.divInt a b)) (fun ρ w' r => rOver_c (Rel.old r (oldF w)) ((hA.rel r (oldF w)).l (k := 2) (by omega)) ((hB.rel r (oldF w)).l (k := 2) (by omega)) (by omega) (by omega) h) ?_)
  rintro ρ wa3 v3 wb3 r he hb hn
  replace hw := hw.tr hb
  clear hA
  clear hB
  have hR := hn.got (S := fun _ => False) r.baseLe (iv := (wa3.heap.size, wb3.heap.size) :: iv2) List.mem_cons_self
  clear r he hb hn
  generalize (wa3.heap.size, wb3.heap.size) :: iv2 = iv3 at *
  obtain ⟨s3_0, s3_1, s3_2, s3_3, s3_4, s3_5, s3_6, s3_7, rfl⟩ := hR.shape
  conv => whnf
  intro ρe we re
  exact ⟨_, rfl, hw.tr re.bel, .inr ⟨h, _, rfl, hR.out re (oldF w)⟩⟩

end Go.Ex

/- The reference's RootBelow. Printed by program. No condition but sizes. -/
namespace Go.Ex
open Go Go.Sx Go.Proofs

theorem root_size {n den : Int} (hn1 : 0 ≤ n) (hn2 : n ≤ 9223372036854775807) (hd1 : 1 ≤ den) (hd2 : den ≤ 1000000) : ∃ N : Nat, N = (n * den * den).natAbs ∧ (N : Int) = n * (den * den) ∧ N < (0 + 2 ^ 53) * (0 + 2 ^ 53) := by
  obtain ⟨a, rfl⟩ : ∃ a : Nat, n = a := ⟨n.toNat, by omega⟩
  obtain ⟨b, rfl⟩ : ∃ b : Nat, den = b := ⟨den.toNat, by omega⟩
  have e : ((a : Int) * b * b).natAbs = a * (b * b) := by rw [Int.mul_assoc, ← Int.natCast_mul, ← Int.natCast_mul, Int.natAbs_natCast]
  refine ⟨_, e.symm, by rw [Int.natCast_mul, Int.natCast_mul], ?_⟩
  have h := Nat.mul_le_mul (show a ≤ 9223372036854775807 by omega) (Nat.mul_le_mul (show b ≤ 1000000 by omega) (show b ≤ 1000000 by omega))
  exact Nat.lt_of_le_of_lt h (by decide)
theorem rRootBelow_c (n den : Int) (w : World) (hn1 : -9223372036854775808 ≤ n) (hn2 : n ≤ 9223372036854775807) (hd1 : -9223372036854775808 ≤ den) (hd2 : den ≤ 9223372036854775807) :
    Con PG N.ref01_RootBelow #[.int .i64 n, .int .i64 den] w (Ret w fun v' w2 => ((n < 0 ∨ den < 1 ∨ 1000000 < den) ∧ v' = .tuple #[ratNil, .int .i64 2]) ∨
      (¬ (n < 0 ∨ den < 1 ∨ 1000000 < den) ∧ ∃ r q, IsRoot (n * den * den).natAbs r ∧ v' = .tuple #[q, .int .i64 0] ∧ RatC w2 (Nw (fun _ => False) w w2) q (Rat.divInt r den))) := by
  have hw : Bel w.heap.size w w := Bel.refl
  refine in_ref01_RootBelow (by simp) ?_
  conv => whnf
  refine BrS.mk (fun h1 => ?_) (fun h1 => ?_)
  · have h1 := of_decide_eq_true h1
    conv => whnf
    intro ρe we re
    exact ⟨_, rfl, hw.tr re.bel, .inl ⟨by omega, rfl⟩⟩
  have h1 := of_decide_eq_false h1
  conv => whnf
  refine BrS.mk (fun h2 => ?_) (fun h2 => ?_)
  · have h2 := of_decide_eq_true h2
    conv => whnf
    intro ρe we re
    exact ⟨_, rfl, hw.tr re.bel, .inl ⟨by omega, rfl⟩⟩
  have h2 := of_decide_eq_false h2
  conv => whnf
  refine BrS.mk (fun h3 => ?_) (fun h3 => ?_)
  · have h3 := of_decide_eq_true h3
    conv => whnf
    intro ρe we re
    exact ⟨_, rfl, hw.tr re.bel, .inl ⟨by omega, rfl⟩⟩
  have h3 := of_decide_eq_false h3
  conv => whnf
  have hln := ln_small hn1 hn2
  have hld : ln den.natAbs ≤ 1 := ln_le.2 (by show den.natAbs < 4294967296 ^ 1; omega)
  have m1 := ln_mul_abs den den
  have m2 := ln_mul_abs n (den * den)
  obtain ⟨N, hN, hN2, hN3⟩ := root_size (n := n) (den := den) (by omega) hn2 (by omega) (by omega)
  refine callE_S (callE_con (Φ := fun _ w' v w2 => IntC w2 (Nw (fun _ => False) w' w2) v (n)) (fun ρ w' r => rOf_c n w' hn1 hn2) ?_)
  rintro ρ wa1 v1 wb1 r he hb hn
  replace hw := hw.tr hb
  have h_n := hn.got (S := fun _ => False) r.baseLe (iv := (wa1.heap.size, wb1.heap.size) :: []) List.mem_cons_self
  clear r he hb hn
  generalize (wa1.heap.size, wb1.heap.size) :: [] = iv1 at *
  obtain ⟨s1_0, s1_1, s1_2, s1_3, rfl⟩ := h_n.shape
  conv => whnf
  refine callE_S (callE_con (Φ := fun _ w' v w2 => IntC w2 (Nw (fun _ => False) w' w2) v (den)) (fun ρ w' r => rOf_c den w' (by omega) (by omega)) ?_)
  rintro ρ wa2 v2 wb2 r he hb hn
  replace hw := hw.tr hb
  replace h_n := h_n.past (iv' := (wa2.heap.size, wb2.heap.size) :: iv1) r (oldF w) he fun x hx => List.mem_cons_of_mem _ hx
  have h_a := hn.got (S := fun _ => False) r.baseLe (iv := (wa2.heap.size, wb2.heap.size) :: iv1) List.mem_cons_self
  clear r he hb hn
  generalize (wa2.heap.size, wb2.heap.size) :: iv1 = iv2 at *
  obtain ⟨s2_0, s2_1, s2_2, s2_3, rfl⟩ := h_a.shape
  conv => whnf
  refine callE_S (callE_con (Φ := fun _ w' v w2 => IntC w2 (Nw (fun _ => False) w' w2) v (den)) (fun ρ w' r => rOf_c den w' (by omega) (by omega)) ?_)
  rintro ρ wa3 v3 wb3 r he hb hn
  replace hw := hw.tr hb
  replace h_n := h_n.past (iv' := (wa3.heap.size, wb3.heap.size) :: iv2) r (oldF w) he fun x hx => List.mem_cons_of_mem _ hx
  replace h_a := h_a.past (iv' := (wa3.heap.size, wb3.heap.size) :: iv2) r (oldF w) he fun x hx => List.mem_cons_of_mem _ hx
  have h_b := hn.got (S := fun _ => False) r.baseLe (iv := (wa3.heap.size, wb3.heap.size) :: iv2) List.mem_cons_self
  clear r he hb hn
  generalize (wa3.heap.size, wb3.heap.size) :: iv2 = iv3 at *
  obtain ⟨s3_0, s3_1, s3_2, s3_3, rfl⟩ := h_b.shape
  conv => whnf
  refine callE_S (callE_con (Φ := fun _ w' v w2 => IntC w2 (Nw (fun _ => False) w' w2) v (den * den)) (fun ρ w' r => rProd_c (Rel.old r (oldF w)) ((h_a.rel r (oldF w)).l (k := 2) (by omega)) ((h_b.rel r (oldF w)).l (k := 2) (by omega)) (by omega) (by omega)) ?_)
  rintro ρ wa4 v4 wb4 r he hb hn
  replace hw := hw.tr hb
  replace h_n := h_n.past (iv' := (wa4.heap.size, wb4.heap.size) :: iv3) r (oldF w) he fun x hx => List.mem_cons_of_mem _ hx
  clear h_a
  clear h_b
  have h_d := hn.got (S := fun _ => False) r.baseLe (iv := (wa4.heap.size, wb4.heap.size) :: iv3) List.mem_cons_self
  clear r he hb hn
  generalize (wa4.heap.size, wb4.heap.size) :: iv3 = iv4 at *
  obtain ⟨s4_0, s4_1, s4_2, s4_3, rfl⟩ := h_d.shape
  conv => whnf
  refine callE_S (callE_con (Φ := fun _ w' v w2 => IntC w2 (Nw (fun _ => False) w' w2) v (n * (den * den))) (fun ρ w' r => rProd_c (Rel.old r (oldF w)) ((h_n.rel r (oldF w)).l (k := 2) (by omega)) ((h_d.rel r (oldF w)).l (k := 2) (by omega)) (by omega) (by omega)) ?_)
  rintro ρ wa5 v5 wb5 r he hb hn
  replace hw := hw.tr hb
  clear h_n
  clear h_d
  have hs := hn.got (S := fun _ => False) r.baseLe (iv := (wa5.heap.size, wb5.heap.size) :: iv4) List.mem_cons_self
  clear r he hb hn
  generalize (wa5.heap.size, wb5.heap.size) :: iv4 = iv5 at *
  obtain ⟨s5_0, s5_1, s5_2, s5_3, rfl⟩ := hs.shape
  conv => whnf
  rw [← hN2] at hs m2
  clear hN2
  refine ⟨Nat × Nat × (Bool × Option Addr × Nat × Nat) × World × Iv, fun z => ⟨[(0, .o (.v (.int .i64 n))), (1, .o (.v (.int .i64 den))), (4, .o (.p 0 0)), (5, .o (.v (.int .i64 0))), (6, .o (.p 1 0)), (7, .o (.p 2 0)), (8, .o (.v (.int .i64 ((z.1 : Int) - 1))))], [(2, .box T.Int [.v (.bool z.2.2.1.1), .v (.slice z.2.2.1.2.1 z.2.2.1.2.2.1 z.2.2.1.2.2.2)]), (1, .box T.Int [.v (.bool s5_0), .v (.slice s5_1 s5_2 s5_3)]), (0, .box T.Rat [.v (.bool false), .v (.slice none 0 0), .v (.bool false), .v (.slice none 0 0)])], 3, z.2.2.2.2, z.2.2.2.1⟩, fun z => z.1,
    fun z => z.1 ≤ 53 ∧ z.2.1 + 2 ^ z.1 ≤ 9007199254740992 ∧ z.2.1 * z.2.1 ≤ N ∧ N < (z.2.1 + 2 ^ z.1) * (z.2.1 + 2 ^ z.1) ∧ Bel w.heap.size w z.2.2.2.1 ∧ IntC z.2.2.2.1 (Cv (fun _ => False) w.heap.size z.2.2.2.2) (.agg #[.bool s5_0, .slice s5_1 s5_2 s5_3]) (N : Int) ∧ IntC z.2.2.2.1 (Cv (fun _ => False) w.heap.size z.2.2.2.2) (.agg #[.bool z.2.2.1.1, .slice z.2.2.1.2.1 z.2.2.1.2.2.1 z.2.2.1.2.2.2]) (z.2.1 : Int), ?_, ?_⟩
  · intro ρ w' r
    exact ⟨(53, 0, (false, none, 0, 0), w', iv5), ⟨by show 53 ≤ 53; decide, by show 0 + 2 ^ 53 ≤ 9007199254740992; decide, by show 0 * 0 ≤ N; omega, by show N < (0 + 2 ^ 53) * (0 + 2 ^ 53); exact hN3, hw.tr r.bel, hs.rel r (oldF w), IntC.nil _ _⟩,
      Sub.gen [] r ⟨rfl, rfl, rfl, trivial⟩ ⟨rfl, rfl, rfl, rfl, rfl, rfl, rfl, trivial⟩ (by simp [ScH, Blk.scopd, At.sc]) (by simp [ScE, SV.sc, At.sc]) (by rfl) (fun lo hi h => h)⟩
  clear hw hs
  rintro ⟨e, k, ⟨bk, ak, nk, ck⟩, w1, iv⟩ ⟨he0, hk1, hk2, hk3, hw, hs, hk⟩
  dsimp only at he0 hk1 hk2 hk3 hw hs hk ⊢
  conv => whnf
  refine BrS.mk (fun hib => ?_) (fun hib => ?_)
  · obtain ⟨f, rfl⟩ : ∃ f, e = f + 1 := ⟨e - 1, by have : (e : Int) - 1 ≥ 0 := of_decide_eq_true hib; omega⟩
    rw [show ((f + 1 : Nat) : Int) - 1 = (f : Int) by omega]
    have e1 : 2 ^ (f + 1) = 2 * 2 ^ f := by rw [Nat.pow_succ]; omega
    rw [e1] at hk1 hk3
    have hp0 := Nat.two_pow_pos f
    have hp1 := hk1
    conv => whnf
    refine drawn_of_pi hτ hmix [.x 0, .x 1, .x 2, .p 5, .x 3, .x 4, .x 5, .x 6] (by kernel_rfl) (by kernel_rfl) ?_
    conv => whnf
    refine ⟨by omega, ((2 ^ f : Nat) : Int), by rw [Int.toNat_natCast, show min f IntKind.i64.bits = f from Nat.min_eq_left (by show f ≤ 64; omega), Int.one_mul, show (2 : Int) ^ f = ((2 ^ f : Nat) : Int) by rw [Int.natCast_pow]; rfl, wrap64] <;> omega, ?_⟩
    conv => whnf
    generalize hp : 2 ^ f = p at *
    have hlk : ln ((k : Nat) : Int).natAbs ≤ 2 := ln_le.2 (by show _ < 4294967296 ^ 2; omega)
    have hlp : ln ((p : Nat) : Int).natAbs ≤ 2 := ln_le.2 (by show _ < 4294967296 ^ 2; omega)
    have hlz : ln ((k + p : Nat) : Int).natAbs ≤ 2 := ln_le.2 (by show _ < 4294967296 ^ 2; omega)
    have m3 := ln_mul_abs ((k + p : Nat) : Int) ((k + p : Nat) : Int)
    refine callE_con (Φ := fun _ w' v w2 => IntC w2 (Nw (fun _ => False) w' w2) v (((p : Nat) : Int))) (fun ρ w' r => rOf_c _ w' (by omega) (by omega)) ?_
    rintro ρ wa6 v6 wb6 r he hb hn
    replace hw := hw.tr hb
    replace hs := hs.past (iv' := (wa6.heap.size, wb6.heap.size) :: iv) r (oldF w) he fun x hx => List.mem_cons_of_mem _ hx
    replace hk := hk.past (iv' := (wa6.heap.size, wb6.heap.size) :: iv) r (oldF w) he fun x hx => List.mem_cons_of_mem _ hx
    have hp2 := hn.got (S := fun _ => False) r.baseLe (iv := (wa6.heap.size, wb6.heap.size) :: iv) List.mem_cons_self
    clear r he hb hn
    generalize (wa6.heap.size, wb6.heap.size) :: iv = iv6 at *
    obtain ⟨s6_0, s6_1, s6_2, s6_3, rfl⟩ := hp2.shape
    conv => whnf
    refine callE_con (Φ := fun _ w' v w2 => IntC w2 (Nw (fun _ => False) w' w2) v (((k + p : Nat) : Int))) (fun ρ w' r => (Int.natCast_add k p) ▸ rSum_c (Rel.old r (oldF w)) ((hk.rel r (oldF w)).l (k := 2) (by omega)) ((hp2.rel r (oldF w)).l (k := 2) (by omega)) (by omega) (by omega)) ?_
    rintro ρ wa7 v7 wb7 r he hb hn
    replace hw := hw.tr hb
    replace hs := hs.past (iv' := (wa7.heap.size, wb7.heap.size) :: iv6) r (oldF w) he fun x hx => List.mem_cons_of_mem _ hx
    replace hk := hk.past (iv' := (wa7.heap.size, wb7.heap.size) :: iv6) r (oldF w) he fun x hx => List.mem_cons_of_mem _ hx
    clear hp2
    have hz := hn.got (S := fun _ => False) r.baseLe (iv := (wa7.heap.size, wb7.heap.size) :: iv6) List.mem_cons_self
    clear r he hb hn
    generalize (wa7.heap.size, wb7.heap.size) :: iv6 = iv7 at *
    obtain ⟨s7_0, s7_1, s7_2, s7_3, rfl⟩ := hz.shape
    conv => whnf
    refine drawn_of_pi hτ hmix [.x 0, .x 1, .x 3, .x 2, .x 4, .x 5] (by kernel_rfl) (by kernel_rfl) ?_
    conv => whnf
    refine callE_con (Φ := fun _ w' v w2 => IntC w2 (Nw (fun _ => False) w' w2) v (((k + p : Nat) : Int) * ((k + p : Nat) : Int))) (fun ρ w' r => rProd_c (Rel.old r (oldF w)) ((hz.rel r (oldF w)).l (k := 2) (by omega)) ((hz.rel r (oldF w)).l (k := 2) (by omega)) (by omega) (by omega)) ?_
    rintro ρ wa8 v8 wb8 r he hb hn
    replace hw := hw.tr hb
    replace hs := hs.past (iv' := (wa8.heap.size, wb8.heap.size) :: iv7) r (oldF w) he fun x hx => List.mem_cons_of_mem _ hx
    replace hk := hk.past (iv' := (wa8.heap.size, wb8.heap.size) :: iv7) r (oldF w) he fun x hx => List.mem_cons_of_mem _ hx
    replace hz := hz.past (iv' := (wa8.heap.size, wb8.heap.size) :: iv7) r (oldF w) he fun x hx => List.mem_cons_of_mem _ hx
    have hzz := hn.got (S := fun _ => False) r.baseLe (iv := (wa8.heap.size, wb8.heap.size) :: iv7) List.mem_cons_self
    clear r he hb hn
    generalize (wa8.heap.size, wb8.heap.size) :: iv7 = iv8 at *
    obtain ⟨s8_0, s8_1, s8_2, s8_3, rfl⟩ := hzz.shape
    conv => whnf
    refine callE_con (Φ := fun _ w' v w2 => v = .int .i64 (((k + p : Nat) : Int) * ((k + p : Nat) : Int) - (N : Int)).sign) (fun ρ w' r => rCmpInt_c (Rel.old r (oldF w)) ((hzz.rel r (oldF w)).l (k := 4) (by omega)) ((hs.rel r (oldF w)).l (k := 4) (by omega)) (by omega) (by omega)) ?_
    rintro ρ wa9 v9 wb9 r he hb rfl
    replace hw := hw.tr hb
    replace hs := hs.past (iv' := (wa9.heap.size, wb9.heap.size) :: iv8) r (oldF w) he fun x hx => List.mem_cons_of_mem _ hx
    replace hk := hk.past (iv' := (wa9.heap.size, wb9.heap.size) :: iv8) r (oldF w) he fun x hx => List.mem_cons_of_mem _ hx
    replace hz := hz.past (iv' := (wa9.heap.size, wb9.heap.size) :: iv8) r (oldF w) he fun x hx => List.mem_cons_of_mem _ hx
    clear hzz
    clear r he hb
    generalize (wa9.heap.size, wb9.heap.size) :: iv8 = iv9 at *
    conv => whnf
    have hs2 := sign_cases (((k + p : Nat) : Int) * ((k + p : Nat) : Int) - (N : Int))
    have hcast : ((k + p : Nat) : Int) * ((k + p : Nat) : Int) = (((k + p) * (k + p) : Nat) : Int) := by rw [Int.natCast_mul]
    rw [hcast] at hs2 ⊢
    refine BrS.mk (fun hle => ?_) (fun hle => ?_)
    · have hle := of_decide_eq_true hle
      have hle2 : (k + p) * (k + p) ≤ N := by omega
      conv => whnf
      refine ⟨(f : Int) - 1, by rw [wrap64] <;> omega, ?_⟩
      conv => whnf
      intro ρ3 w3 r3
      exact ⟨(f, k + p, (s7_0, s7_1, s7_2, s7_3), w3, _), ⟨by dsimp only; omega, by dsimp only; rw [hp]; omega, hle2, by dsimp only; rw [hp, show k + p + p = k + 2 * p by omega]; exact hk3, hw.tr r3.bel, hs.rel r3 (oldF w), hz.rel r3 (oldF w)⟩, Sub.gen [] r3 ⟨rfl, rfl, rfl, trivial⟩ ⟨rfl, rfl, rfl, rfl, rfl, rfl, rfl, trivial⟩ (by simp [ScH, Blk.scopd, At.sc]) (by simp [ScE, SV.sc, At.sc]) (by rfl) (fun lo hi h => h), by dsimp only; omega⟩
    have hle := of_decide_eq_false hle
    have hle2 : N < (k + p) * (k + p) := by omega
    conv => whnf
    refine ⟨(f : Int) - 1, by rw [wrap64] <;> omega, ?_⟩
    conv => whnf
    intro ρ3 w3 r3
    exact ⟨(f, k, (bk, ak, nk, ck), w3, _), ⟨by dsimp only; omega, by dsimp only; rw [hp]; omega, hk2, by dsimp only; rw [hp]; exact hle2, hw.tr r3.bel, hs.rel r3 (oldF w), hk.rel r3 (oldF w)⟩, Sub.gen [] r3 ⟨rfl, rfl, rfl, trivial⟩ ⟨rfl, rfl, rfl, rfl, rfl, rfl, rfl, trivial⟩ (by simp [ScH, Blk.scopd, At.sc]) (by simp [ScE, SV.sc, At.sc]) (by rfl) (fun lo hi h => h), by dsimp only; omega⟩
  obtain rfl : e = 0 := by have : ¬ (e : Int) - 1 ≥ 0 := of_decide_eq_false hib; omega
  have hk4 : N < (k + 1) * (k + 1) := hk3
  have hlk : ln ((k : Nat) : Int).natAbs ≤ 2 := ln_le.2 (by show _ < 4294967296 ^ 2; omega)
  clear hk3 hs
  conv => whnf
  refine drawn_of_pi hτ hmix [.x 0, .x 1, .x 2, .x 3, .x 4, .x 5] (by kernel_rfl) (by kernel_rfl) ?_
  conv => whnf
  refine callE_con (Φ := fun _ w' v w2 => IntC w2 (Nw (fun _ => False) w' w2) v (den)) (fun ρ w' r => rOf_c den w' (by omega) (by omega)) ?_
  rintro ρ wa6 v6 wb6 r he hb hn
  replace hw := hw.tr hb
  replace hk := hk.past (iv' := (wa6.heap.size, wb6.heap.size) :: iv) r (oldF w) he fun x hx => List.mem_cons_of_mem _ hx
  have hd := hn.got (S := fun _ => False) r.baseLe (iv := (wa6.heap.size, wb6.heap.size) :: iv) List.mem_cons_self
  clear r he hb hn
  generalize (wa6.heap.size, wb6.heap.size) :: iv = iv6 at *
  obtain ⟨s6_0, s6_1, s6_2, s6_3, rfl⟩ := hd.shape
  conv => whnf
  refine callE_con (Φ := fun _ w' v w2 => RatC w2 (Nw (fun _ => False) w' w2) v (Rat.divInt (k : Int) den)) (fun ρ w' r => rOver_c (Rel.old r (oldF w)) ((hk.rel r (oldF w)).l (k := 2) (by omega)) ((hd.rel r (oldF w)).l (k := 2) (by omega)) (by omega) (by omega) (by omega)) ?_
  rintro ρ wa7 v7 wb7 r he hb hn
  replace hw := hw.tr hb
  clear hk
  clear hd
  have hR := hn.got (S := fun _ => False) r.baseLe (iv := (wa7.heap.size, wb7.heap.size) :: iv6) List.mem_cons_self
  clear r he hb hn
  generalize (wa7.heap.size, wb7.heap.size) :: iv6 = iv7 at *
  obtain ⟨s7_0, s7_1, s7_2, s7_3, s7_4, s7_5, s7_6, s7_7, rfl⟩ := hR.shape
  conv => whnf
  intro ρe we re
  exact ⟨_, rfl, hw.tr re.bel, .inr ⟨by omega, k, _, by rw [← hN]; exact ⟨hk2, hk4⟩, rfl, hR.out re (oldF w)⟩⟩
end Go.Ex

/- Roots from below: the plain laws. -/
namespace Go.Ex
theorem root_same {N r s : Nat} (h : IsRoot N r) (k : IsRoot N s) : r = s := by
  have key : ∀ a b : Nat, IsRoot N a → IsRoot N b → a ≤ b := fun a b h k => by
    apply Decidable.byContradiction
    intro hn
    have h1 := Nat.mul_le_mul (show b + 1 ≤ a by omega) (show b + 1 ≤ a by omega)
    have := h.1
    have := k.2
    omega
  exact Nat.le_antisymm (key _ _ h k) (key _ _ k h)
theorem int_divInt (n : Int) : (n : Rat) = Rat.divInt n 1 := by
  have := Rat.num_divInt_den (n : Rat)
  rw [Rat.num_intCast, Rat.den_intCast] at this
  exact this.symm
theorem sq_sub {a den n : Int} (hd : 0 < den) : rs (Rat.divInt a den * Rat.divInt a den - (n : Rat)) = (a * a - n * (den * den)).sign := by
  have h1 : den * den ≠ 0 := Int.mul_ne_zero (by omega) (by omega)
  rw [Rat.divInt_mul_divInt, int_divInt, Rat.divInt_sub_divInt _ _ h1 (by decide), rs, sign_div (by rw [Int.mul_one]; exact Int.mul_pos hd hd), Int.mul_one]
theorem root_law {n den : Int} {r : Nat} (hd : 1 ≤ den) (hn : 0 ≤ n) (h : IsRoot (n * den * den).natAbs r) :
    rs (Rat.divInt r den * Rat.divInt r den - (n : Rat)) ≤ 0 ∧ rs ((Rat.divInt r den + Rat.divInt 1 den) * (Rat.divInt r den + Rat.divInt 1 den) - (n : Rat)) = 1 ∧ ((Rat.divInt r den * (den : Rat)).den : Int) = 1 := by
  have hN : ((n * den * den).natAbs : Int) = n * (den * den) := by
    rw [Int.natAbs_of_nonneg (Int.mul_nonneg (Int.mul_nonneg hn (by omega)) (by omega)), Int.mul_assoc]
  have h1 : (r : Int) * r ≤ n * (den * den) := by rw [← hN, ← Int.natCast_mul]; exact Int.ofNat_le.2 h.1
  have h2 : n * (den * den) < ((r : Int) + 1) * (r + 1) := by
    rw [← hN, show ((r : Int) + 1) = ((r + 1 : Nat) : Int) by omega, ← Int.natCast_mul]
    exact Int.ofNat_lt.2 h.2
  refine ⟨?_, ?_, ?_⟩
  · rw [sq_sub (by omega)]; exact sign_le (by omega)
  · have e : Rat.divInt r den + Rat.divInt 1 den = Rat.divInt ((r : Int) + 1) den := by
      rw [Rat.divInt_add_divInt _ _ (by omega) (by omega), ← Int.add_mul, Rat.divInt_mul_right (by omega)]
    rw [e, sq_sub (by omega)]
    exact Int.sign_eq_one_of_pos (by omega)
  · rw [int_divInt den, Rat.divInt_mul_divInt, Int.mul_comm (r : Int) den, Rat.divInt_mul_left (by omega), ← int_divInt, Rat.den_intCast]
    rfl
end Go.Ex

/- ExactRootBelow of the laws of chapter 1. Printed by program. No condition. -/
namespace Go.Ex
open Go Go.Sx Go.Proofs

theorem sameNil_c (w : World) : Con PG N.ref01_Same #[ratNil, ratNil] w (Ret w fun v' _ => v' = .bool true) := by
  have hw : Bel w.heap.size w w := Bel.refl
  unfold ratNil
  refine in_ref01_Same (by simp) ?_
  conv => whnf
  refine callE_S (callE_con (Φ := fun _ w' v w2 => v = .bool true) (fun ρ w' r => sameInt_c (oldF w') (IntC.nil w' _) (IntC.nil w' _)) ?_)
  rintro ρ wa1 v1 wb1 r he hb rfl
  replace hw := hw.tr hb
  clear r he hb
  generalize (wa1.heap.size, wb1.heap.size) :: [] = iv1 at *
  conv => whnf
  refine callE_S (callE_con (Φ := fun _ w' v w2 => v = .bool true) (fun ρ w' r => sameInt_c (oldF w') (IntC.nil w' _) (IntC.nil w' _)) ?_)
  rintro ρ wa2 v2 wb2 r he hb rfl
  replace hw := hw.tr hb
  clear r he hb
  generalize (wa2.heap.size, wb2.heap.size) :: iv1 = iv2 at *
  conv => whnf
  intro ρe we re
  exact ⟨_, rfl, hw.tr re.bel, rfl⟩
theorem pubRootBad_c (n den : Int) (w : World) (hn1 : -9223372036854775808 ≤ n) (hn2 : n ≤ 9223372036854775807) (hd1 : -9223372036854775808 ≤ den) (hd2 : den ≤ 9223372036854775807) (h : n < 0 ∨ den < 1 ∨ 1000000 < den) : Con PG N.exact_RootBelow #[.int .i64 n, .int .i64 den] w (Ret w fun v' _ => v' = .tuple #[ratNil, .int .i64 2]) :=
  (pubRootBelow_c n den w hn1 hn2 hd1 hd2).mono fun _ _ ⟨v2, e1, e2, e3⟩ => ⟨v2, e1, e2, e3.elim (fun h => h.2) fun k => absurd h k.1⟩
theorem pubRootOk_c (n den : Int) (w : World) (hn1 : -9223372036854775808 ≤ n) (hn2 : n ≤ 9223372036854775807) (hd1 : -9223372036854775808 ≤ den) (hd2 : den ≤ 9223372036854775807) (h : ¬ (n < 0 ∨ den < 1 ∨ 1000000 < den)) : Con PG N.exact_RootBelow #[.int .i64 n, .int .i64 den] w (Ret w fun v' w2 => ∃ r q, IsRoot (n * den * den).natAbs r ∧ v' = .tuple #[q, .int .i64 0] ∧ RatC w2 (Nw (fun _ => False) w w2) q (Rat.divInt r den)) :=
  (pubRootBelow_c n den w hn1 hn2 hd1 hd2).mono fun _ _ ⟨v2, e1, e2, e3⟩ => ⟨v2, e1, e2, e3.elim (fun k => absurd k.1 h) fun h => h.2⟩
theorem rRootBad_c (n den : Int) (w : World) (hn1 : -9223372036854775808 ≤ n) (hn2 : n ≤ 9223372036854775807) (hd1 : -9223372036854775808 ≤ den) (hd2 : den ≤ 9223372036854775807) (h : n < 0 ∨ den < 1 ∨ 1000000 < den) : Con PG N.ref01_RootBelow #[.int .i64 n, .int .i64 den] w (Ret w fun v' _ => v' = .tuple #[ratNil, .int .i64 2]) :=
  (rRootBelow_c n den w hn1 hn2 hd1 hd2).mono fun _ _ ⟨v2, e1, e2, e3⟩ => ⟨v2, e1, e2, e3.elim (fun h => h.2) fun k => absurd h k.1⟩
theorem rRootOk_c (n den : Int) (w : World) (hn1 : -9223372036854775808 ≤ n) (hn2 : n ≤ 9223372036854775807) (hd1 : -9223372036854775808 ≤ den) (hd2 : den ≤ 9223372036854775807) (h : ¬ (n < 0 ∨ den < 1 ∨ 1000000 < den)) : Con PG N.ref01_RootBelow #[.int .i64 n, .int .i64 den] w (Ret w fun v' w2 => ∃ r q, IsRoot (n * den * den).natAbs r ∧ v' = .tuple #[q, .int .i64 0] ∧ RatC w2 (Nw (fun _ => False) w w2) q (Rat.divInt r den)) :=
  (rRootBelow_c n den w hn1 hn2 hd1 hd2).mono fun _ _ ⟨v2, e1, e2, e3⟩ => ⟨v2, e1, e2, e3.elim (fun k => absurd k.1 h) fun h => h.2⟩
theorem ratioNon_c (a b : Int) (w : World) (h1a : -9223372036854775808 ≤ a) (h2a : a ≤ 9223372036854775807) (h1b : -9223372036854775808 ≤ b) (h2b : b ≤ 9223372036854775807) (h : b ≠ 0) : Con PG N.exact_Ratio #[.int .i64 a, .int .i64 b] w (Ret w fun v' w2 => ∃ q, v' = .tuple #[q, .int .i64 0] ∧ RatC w2 (Nw (fun _ => False) w w2) q (Rat.divInt a b)) :=
  (pubRatio_c a b w h1a h2a h1b h2b).mono fun _ _ ⟨v2, e1, e2, e3⟩ => ⟨v2, e1, e2, e3.elim (fun k => absurd k.1 h) fun h => h.2⟩
theorem exactRootBelow_c (n den : Int) (w : World) (hn1 : -9223372036854775808 ≤ n) (hn2 : n ≤ 9223372036854775807) (hd1 : -9223372036854775808 ≤ den) (hd2 : den ≤ 9223372036854775807) :
    Con PG N.law01_ExactRootBelow #[.int .i64 n, .int .i64 den] w (Ret w fun v' _ => v' = .bool true) := by
  have hw : Bel w.heap.size w w := Bel.refl
  by_cases hbad : n < 0 ∨ den < 1 ∨ 1000000 < den
  · refine in_law01_ExactRootBelow (by simp) ?_
    conv => whnf
    refine callE_S (callE_con (Φ := fun _ w' v w2 => v = .tuple #[ratNil, .int .i64 2]) (fun ρ w' r => pubRootBad_c n den w' hn1 hn2 hd1 hd2 hbad) ?_)
    rintro ρ wa1 v1 wb1 r he hb rfl
    replace hw := hw.tr hb
    clear r he hb
    generalize (wa1.heap.size, wb1.heap.size) :: [] = iv1 at *
    conv => whnf
    refine callE_S (callE_con (Φ := fun _ w' v w2 => v = .tuple #[ratNil, .int .i64 2]) (fun ρ w' r => rRootBad_c n den w' hn1 hn2 hd1 hd2 hbad) ?_)
    rintro ρ wa2 v2 wb2 r he hb rfl
    replace hw := hw.tr hb
    clear r he hb
    generalize (wa2.heap.size, wb2.heap.size) :: iv1 = iv2 at *
    conv => whnf
    refine callE_S (callE_con (Φ := fun _ w' v w2 => v = .bool true) (fun ρ w' r => sameNil_c w') ?_)
    rintro ρ wa3 v3 wb3 r he hb rfl
    replace hw := hw.tr hb
    clear r he hb
    generalize (wa3.heap.size, wb3.heap.size) :: iv2 = iv3 at *
    conv => whnf
    refine callE_S (callE_con (Φ := fun _ w' v w2 => v = .bool true) (fun ρ w' r => awake_c w') ?_)
    rintro ρ wa4 v4 wb4 r he hb rfl
    replace hw := hw.tr hb
    clear r he hb
    generalize (wa4.heap.size, wb4.heap.size) :: iv3 = iv4 at *
    conv => whnf
    intro ρe we re
    exact ⟨_, rfl, hw.tr re.bel, rfl⟩
  refine in_law01_ExactRootBelow (by simp) ?_
  conv => whnf
  refine callE_S (callE_con (Φ := fun _ w' v w2 => ∃ r q, IsRoot (n * den * den).natAbs r ∧ v = .tuple #[q, .int .i64 0] ∧ RatC w2 (Nw (fun _ => False) w' w2) q (Rat.divInt r den)) (fun ρ w' r => pubRootOk_c n den w' hn1 hn2 hd1 hd2 hbad) ?_)
  rintro ρ wa1 v1 wb1 r he hb ⟨m, q, hroot, rfl, k1⟩
  replace hw := hw.tr hb
  have hx := k1.got (S := fun _ => False) r.baseLe (iv := (wa1.heap.size, wb1.heap.size) :: []) List.mem_cons_self
  clear r he hb
  generalize (wa1.heap.size, wb1.heap.size) :: [] = iv1 at *
  obtain ⟨s1_0a, s1_0b, s1_0c, s1_0d, s1_0e, s1_0f, s1_0g, s1_0h, rfl⟩ := hx.shape
  clear k1
  conv => whnf
  refine callE_S (callE_con (Φ := fun _ w' v w2 => ∃ q, v = .tuple #[q, .int .i64 0] ∧ RatC w2 (Nw (fun _ => False) w' w2) q (Rat.divInt m den)) (fun ρ w' r => (rRootOk_c n den w' hn1 hn2 hd1 hd2 hbad).mono fun _ _ ⟨v2, e1, e2, m2, q, e3, e4, e5⟩ => ⟨v2, e1, e2, q, e4, root_same e3 hroot ▸ e5⟩) ?_)
  rintro ρ wa2 v2 wb2 r he hb ⟨q, rfl, k1⟩
  replace hw := hw.tr hb
  replace hx := hx.past (iv' := (wa2.heap.size, wb2.heap.size) :: iv1) r (oldF w) he fun x hx => List.mem_cons_of_mem _ hx
  have hy := k1.got (S := fun _ => False) r.baseLe (iv := (wa2.heap.size, wb2.heap.size) :: iv1) List.mem_cons_self
  clear r he hb
  generalize (wa2.heap.size, wb2.heap.size) :: iv1 = iv2 at *
  obtain ⟨s2_0a, s2_0b, s2_0c, s2_0d, s2_0e, s2_0f, s2_0g, s2_0h, rfl⟩ := hy.shape
  clear k1
  obtain ⟨f1, f2, f3⟩ := root_law (by omega) (by omega) hroot
  have g1 : rl (Rat.divInt m den) ≤ 20 := by
    refine Nat.le_trans (rl_divInt (by omega)) ?_
    have hln := ln_small hn1 hn2
    have hld : ln den.natAbs ≤ 1 := ln_le.2 (by show den.natAbs < 4294967296 ^ 1; omega)
    have m1 := ln_mul_abs n den
    have m2 := ln_mul_abs (n * den) den
    have m3 := ln_sq hroot
    rw [Int.natAbs_natCast]
    omega
  have g2 : rl (Rat.divInt 1 den) ≤ 20 := by
    refine Nat.le_trans (rl_divInt (by omega)) ?_
    have hld : ln den.natAbs ≤ 1 := ln_le.2 (by show den.natAbs < 4294967296 ^ 1; omega)
    have : ln (1 : Int).natAbs = 1 := by decide
    omega
  clear hroot
  generalize Rat.divInt m den = x at *
  have g3 := rl_whole hd1 hd2
  have g4 := rl_whole hn1 hn2
  have g5 := rl_mul x (den : Rat)
  have g6 := rl_mul x x
  generalize hst : Rat.divInt 1 den = st at *
  have g7 := rl_add x st
  have g8 := rl_mul (x + st) (x + st)
  conv => whnf
  refine callE_S (callE_con (Φ := fun _ w' v w2 => v = .bool true) (fun ρ w' r => ?_) ?_)
  · have h := same_c (Rel.old r (oldF w)) (hx.rel r (oldF w)) (hy.rel r (oldF w))
    rw [decide_eq_true rfl] at h
    exact h
  rintro ρ wa3 v3 wb3 r he hb rfl
  replace hw := hw.tr hb
  replace hx := hx.past (iv' := (wa3.heap.size, wb3.heap.size) :: iv2) r (oldF w) he fun x hx => List.mem_cons_of_mem _ hx
  clear hy
  clear r he hb
  generalize (wa3.heap.size, wb3.heap.size) :: iv2 = iv3 at *
  conv => whnf
  refine callE_S (callE_con (Φ := fun _ w' v w2 => ∃ q, v = .tuple #[q, .int .i64 0] ∧ RatC w2 (Nw (fun _ => False) w' w2) q st) (fun ρ w' r => hst ▸ ratioNon_c 1 den w' (by decide) (by decide) hd1 hd2 (by omega)) ?_)
  rintro ρ wa4 v4 wb4 r he hb ⟨q, rfl, k1⟩
  replace hw := hw.tr hb
  replace hx := hx.past (iv' := (wa4.heap.size, wb4.heap.size) :: iv3) r (oldF w) he fun x hx => List.mem_cons_of_mem _ hx
  have hs := k1.got (S := fun _ => False) r.baseLe (iv := (wa4.heap.size, wb4.heap.size) :: iv3) List.mem_cons_self
  clear r he hb
  generalize (wa4.heap.size, wb4.heap.size) :: iv3 = iv4 at *
  obtain ⟨s4_0a, s4_0b, s4_0c, s4_0d, s4_0e, s4_0f, s4_0g, s4_0h, rfl⟩ := hs.shape
  clear k1
  conv => whnf
  refine callE_S (callE_con (Φ := fun _ w' v w2 => RatC w2 (Nw (fun _ => False) w' w2) v (x + st)) (fun ρ w' r => vAdd_c (Rel.old r (oldF w)) ((hx.rel r (oldF w)).v (by omega)) ((hs.rel r (oldF w)).v (by omega))) ?_)
  rintro ρ wa5 v5 wb5 r he hb hn
  replace hw := hw.tr hb
  replace hx := hx.past (iv' := (wa5.heap.size, wb5.heap.size) :: iv4) r (oldF w) he fun x hx => List.mem_cons_of_mem _ hx
  clear hs
  have hm := hn.got (S := fun _ => False) r.baseLe (iv := (wa5.heap.size, wb5.heap.size) :: iv4) List.mem_cons_self
  clear r he hb hn
  generalize (wa5.heap.size, wb5.heap.size) :: iv4 = iv5 at *
  obtain ⟨s5_0, s5_1, s5_2, s5_3, s5_4, s5_5, s5_6, s5_7, rfl⟩ := hm.shape
  conv => whnf
  refine drawn_of_pi hτ hmix [.x 0, .x 1, .p 4, .x 2, .x 3, .x 4, .x 5] (by kernel_rfl) (by kernel_rfl) ?_
  conv => whnf
  refine callE_con (Φ := fun _ w' v w2 => RatC w2 (Nw (fun _ => False) w' w2) v ((den : Rat))) (fun ρ w' r => pubWhole_c den w' hd1 hd2) ?_
  rintro ρ wa6 v6 wb6 r he hb hn
  replace hw := hw.tr hb
  replace hx := hx.past (iv' := (wa6.heap.size, wb6.heap.size) :: iv5) r (oldF w) he fun x hx => List.mem_cons_of_mem _ hx
  replace hm := hm.past (iv' := (wa6.heap.size, wb6.heap.size) :: iv5) r (oldF w) he fun x hx => List.mem_cons_of_mem _ hx
  have hd := hn.got (S := fun _ => False) r.baseLe (iv := (wa6.heap.size, wb6.heap.size) :: iv5) List.mem_cons_self
  clear r he hb hn
  generalize (wa6.heap.size, wb6.heap.size) :: iv5 = iv6 at *
  obtain ⟨s6_0, s6_1, s6_2, s6_3, s6_4, s6_5, s6_6, s6_7, rfl⟩ := hd.shape
  conv => whnf
  refine callE_con (Φ := fun _ w' v w2 => RatC w2 (Nw (fun _ => False) w' w2) v (x * (den : Rat))) (fun ρ w' r => vMul_c (Rel.old r (oldF w)) ((hx.rel r (oldF w)).v (by omega)) ((hd.rel r (oldF w)).v (by omega))) ?_
  rintro ρ wa7 v7 wb7 r he hb hn
  replace hw := hw.tr hb
  replace hx := hx.past (iv' := (wa7.heap.size, wb7.heap.size) :: iv6) r (oldF w) he fun x hx => List.mem_cons_of_mem _ hx
  replace hm := hm.past (iv' := (wa7.heap.size, wb7.heap.size) :: iv6) r (oldF w) he fun x hx => List.mem_cons_of_mem _ hx
  clear hd
  have hz := hn.got (S := fun _ => False) r.baseLe (iv := (wa7.heap.size, wb7.heap.size) :: iv6) List.mem_cons_self
  clear r he hb hn
  generalize (wa7.heap.size, wb7.heap.size) :: iv6 = iv7 at *
  obtain ⟨s7_0, s7_1, s7_2, s7_3, s7_4, s7_5, s7_6, s7_7, rfl⟩ := hz.shape
  conv => whnf
  refine drawn_of_pi hτ hmix [.x 0, .x 1, .x 2, .x 3, .x 4, .x 6, .x 5, .x 7, .x 8, .x 9, .x 10, .x 11, .x 12, .x 13, .x 15, .x 14, .x 16, .x 17, .x 18, .x 19, .x 20, .x 21, .x 22, .x 23, .x 24, .x 25, .x 26, .x 27, .x 28, .x 29] (by kernel_rfl) (by kernel_rfl) ?_
  conv => whnf
  refine callE_con (Φ := fun _ w' v w2 => RatC w2 (Nw (fun _ => False) w' w2) v (x * x)) (fun ρ w' r => vMul_c (Rel.old r (oldF w)) ((hx.rel r (oldF w)).v (by omega)) ((hx.rel r (oldF w)).v (by omega))) ?_
  rintro ρ wa8 v8 wb8 r he hb hn
  replace hw := hw.tr hb
  clear hx
  replace hm := hm.past (iv' := (wa8.heap.size, wb8.heap.size) :: iv7) r (oldF w) he fun x hx => List.mem_cons_of_mem _ hx
  replace hz := hz.past (iv' := (wa8.heap.size, wb8.heap.size) :: iv7) r (oldF w) he fun x hx => List.mem_cons_of_mem _ hx
  have hxx := hn.got (S := fun _ => False) r.baseLe (iv := (wa8.heap.size, wb8.heap.size) :: iv7) List.mem_cons_self
  clear r he hb hn
  generalize (wa8.heap.size, wb8.heap.size) :: iv7 = iv8 at *
  obtain ⟨s8_0, s8_1, s8_2, s8_3, s8_4, s8_5, s8_6, s8_7, rfl⟩ := hxx.shape
  conv => whnf
  refine callE_con (Φ := fun _ w' v w2 => RatC w2 (Nw (fun _ => False) w' w2) v ((n : Rat))) (fun ρ w' r => pubWhole_c n w' hn1 hn2) ?_
  rintro ρ wa9 v9 wb9 r he hb hn
  replace hw := hw.tr hb
  replace hm := hm.past (iv' := (wa9.heap.size, wb9.heap.size) :: iv8) r (oldF w) he fun x hx => List.mem_cons_of_mem _ hx
  replace hz := hz.past (iv' := (wa9.heap.size, wb9.heap.size) :: iv8) r (oldF w) he fun x hx => List.mem_cons_of_mem _ hx
  replace hxx := hxx.past (iv' := (wa9.heap.size, wb9.heap.size) :: iv8) r (oldF w) he fun x hx => List.mem_cons_of_mem _ hx
  have h_n := hn.got (S := fun _ => False) r.baseLe (iv := (wa9.heap.size, wb9.heap.size) :: iv8) List.mem_cons_self
  clear r he hb hn
  generalize (wa9.heap.size, wb9.heap.size) :: iv8 = iv9 at *
  obtain ⟨s9_0, s9_1, s9_2, s9_3, s9_4, s9_5, s9_6, s9_7, rfl⟩ := h_n.shape
  conv => whnf
  refine callE_con (Φ := fun _ w' v w2 => v = .int .i64 (rs (x * x - (n : Rat)))) (fun ρ w' r => vCmp_c (Rel.old r (oldF w)) ((hxx.rel r (oldF w)).v (by omega)) ((h_n.rel r (oldF w)).v (by omega))) ?_
  rintro ρ wa10 v10 wb10 r he hb rfl
  replace hw := hw.tr hb
  replace hm := hm.past (iv' := (wa10.heap.size, wb10.heap.size) :: iv9) r (oldF w) he fun x hx => List.mem_cons_of_mem _ hx
  replace hz := hz.past (iv' := (wa10.heap.size, wb10.heap.size) :: iv9) r (oldF w) he fun x hx => List.mem_cons_of_mem _ hx
  clear hxx
  clear h_n
  clear r he hb
  generalize (wa10.heap.size, wb10.heap.size) :: iv9 = iv10 at *
  conv => whnf
  refine BrS.mk (fun _ => ?_) (fun hne => absurd f1 (of_decide_eq_false hne))
  conv => whnf
  refine callE_con (Φ := fun _ w' v w2 => RatC w2 (Nw (fun _ => False) w' w2) v ((x + st) * (x + st))) (fun ρ w' r => vMul_c (Rel.old r (oldF w)) ((hm.rel r (oldF w)).v (by omega)) ((hm.rel r (oldF w)).v (by omega))) ?_
  rintro ρ wa11 v11 wb11 r he hb hn
  replace hw := hw.tr hb
  clear hm
  replace hz := hz.past (iv' := (wa11.heap.size, wb11.heap.size) :: iv10) r (oldF w) he fun x hx => List.mem_cons_of_mem _ hx
  have hmm := hn.got (S := fun _ => False) r.baseLe (iv := (wa11.heap.size, wb11.heap.size) :: iv10) List.mem_cons_self
  clear r he hb hn
  generalize (wa11.heap.size, wb11.heap.size) :: iv10 = iv11 at *
  obtain ⟨s11_0, s11_1, s11_2, s11_3, s11_4, s11_5, s11_6, s11_7, rfl⟩ := hmm.shape
  conv => whnf
  refine callE_con (Φ := fun _ w' v w2 => RatC w2 (Nw (fun _ => False) w' w2) v ((n : Rat))) (fun ρ w' r => pubWhole_c n w' hn1 hn2) ?_
  rintro ρ wa12 v12 wb12 r he hb hn
  replace hw := hw.tr hb
  replace hz := hz.past (iv' := (wa12.heap.size, wb12.heap.size) :: iv11) r (oldF w) he fun x hx => List.mem_cons_of_mem _ hx
  replace hmm := hmm.past (iv' := (wa12.heap.size, wb12.heap.size) :: iv11) r (oldF w) he fun x hx => List.mem_cons_of_mem _ hx
  have h_n := hn.got (S := fun _ => False) r.baseLe (iv := (wa12.heap.size, wb12.heap.size) :: iv11) List.mem_cons_self
  clear r he hb hn
  generalize (wa12.heap.size, wb12.heap.size) :: iv11 = iv12 at *
  obtain ⟨s12_0, s12_1, s12_2, s12_3, s12_4, s12_5, s12_6, s12_7, rfl⟩ := h_n.shape
  conv => whnf
  refine callE_con (Φ := fun _ w' v w2 => v = .int .i64 1) (fun ρ w' r => f2 ▸ vCmp_c (Rel.old r (oldF w)) ((hmm.rel r (oldF w)).v (by omega)) ((h_n.rel r (oldF w)).v (by omega))) ?_
  rintro ρ wa13 v13 wb13 r he hb rfl
  replace hw := hw.tr hb
  replace hz := hz.past (iv' := (wa13.heap.size, wb13.heap.size) :: iv12) r (oldF w) he fun x hx => List.mem_cons_of_mem _ hx
  clear hmm
  clear h_n
  clear r he hb
  generalize (wa13.heap.size, wb13.heap.size) :: iv12 = iv13 at *
  conv => whnf
  have hzd := hz.den
  clear hz
  rw [f3] at hzd
  refine callE_con (Φ := fun _ w' v w2 => IntC w2 (Nw (fun _ => False) w' w2) v (1)) (fun ρ w' r => rOf_c 1 w' (by decide) (by decide)) ?_
  rintro ρ wa14 v14 wb14 r he hb hn
  replace hw := hw.tr hb
  replace hzd := hzd.past (iv' := (wa14.heap.size, wb14.heap.size) :: iv13) r (oldF w) he fun x hx => List.mem_cons_of_mem _ hx
  have h1 := hn.got (S := fun _ => False) r.baseLe (iv := (wa14.heap.size, wb14.heap.size) :: iv13) List.mem_cons_self
  clear r he hb hn
  generalize (wa14.heap.size, wb14.heap.size) :: iv13 = iv14 at *
  obtain ⟨s14_0, s14_1, s14_2, s14_3, rfl⟩ := h1.shape
  conv => whnf
  refine callE_con (Φ := fun _ w' v w2 => v = .bool true) (fun ρ w' r => sameInt_c (Rel.old r (oldF w)) (hzd.rel r (oldF w)) (h1.rel r (oldF w))) ?_
  rintro ρ wa15 v15 wb15 r he hb rfl
  replace hw := hw.tr hb
  clear hzd
  clear h1
  clear r he hb
  generalize (wa15.heap.size, wb15.heap.size) :: iv14 = iv15 at *
  conv => whnf
  refine callE_con (Φ := fun _ w' v w2 => v = .bool true) (fun ρ w' r => awake_c w') ?_
  rintro ρ wa16 v16 wb16 r he hb rfl
  replace hw := hw.tr hb
  clear r he hb
  generalize (wa16.heap.size, wb16.heap.size) :: iv15 = iv16 at *
  conv => whnf
  intro ρe we re
  exact ⟨_, rfl, hw.tr re.bel, rfl⟩
end Go.Ex
