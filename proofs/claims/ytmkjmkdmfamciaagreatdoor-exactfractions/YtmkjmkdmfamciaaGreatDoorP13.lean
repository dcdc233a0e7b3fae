/- A part of the proof: texts X63 to X71. Each tells its conditions in its theorems. -/
import Derived.Test.YtmkjmkdmfamciaaGreatDoorP11
import Derived.Test.YtmkjmkdmfamciaaGreatDoorP12
/- The reference's fractions: quick, Normal, Add, Neg, Sub, Mul, SignOf, Quo, Cmp, Floor, Whole, Ratio. Printed by program. No condition but sizes. -/
namespace Go.Ex
open Go Go.Sx Go.Proofs

/-- a fraction of the api by its value; its parts have few limbs -/
def RatL (w : World) (S : Nat → Prop) (v : Value) (q : Rat) : Prop := ∃ b1 l1 b2 l2 a b, v = .agg #[.bool b1, l1, .bool b2, l2] ∧ IntL w S (.agg #[.bool b1, l1]) 100000 a ∧ IntL w S (.agg #[.bool b2, l2]) 100000 b ∧ ratio a b = q
theorem RatL.keep {S : Nat → Prop} {w w2 : World} {v : Value} {q : Rat} (h : RatL w S v q) (hk : ∀ g, S g → w2.heap[g]? = w.heap[g]?) : RatL w2 S v q := by
  obtain ⟨b1, l1, b2, l2, a, b, h1, h2, h3, h4⟩ := h; exact ⟨b1, l1, b2, l2, a, b, h1, h2.keep hk, h3.keep hk, h4⟩
theorem RatL.weak {S S' : Nat → Prop} {w : World} {v : Value} {q : Rat} (h : RatL w S v q) (hk : ∀ g, S g → S' g) : RatL w S' v q := by
  obtain ⟨b1, l1, b2, l2, a, b, h1, h2, h3, h4⟩ := h; exact ⟨b1, l1, b2, l2, a, b, h1, h2.weak hk, h3.weak hk, h4⟩
theorem RatL.r {S : Nat → Prop} {w : World} {v : Value} {q : Rat} (h : RatL w S v q) : ∃ a b, RatR w S v a b ∧ ratio a b = q := by
  obtain ⟨b1, l1, b2, l2, a, b, rfl, h2, h3, h4⟩ := h; exact ⟨a, b, ⟨b1, l1, b2, l2, rfl, h2.r, h3.r⟩, h4⟩
theorem RatL.v {S : Nat → Prop} {w : World} {v : Value} {q : Rat} (h : RatL w S v q) : RatV w S v q := by
  obtain ⟨b1, l1, b2, l2, a, b, rfl, h2, h3, h4⟩ := h; exact ⟨a, b, ⟨b1, l1, b2, l2, rfl, h2.r, h3.r⟩, h4, h2.ln, h3.ln⟩
theorem RatL.shape {S : Nat → Prop} {w : World} {v : Value} {q : Rat} (h : RatL w S v q) : ∃ b a n c b2 a2 n2 c2, v = .agg #[.bool b, .slice a n c, .bool b2, .slice a2 n2 c2] := h.v.shape
theorem RatL.rl {S : Nat → Prop} {w : World} {v : Value} {q : Rat} (h : RatL w S v q) : rl q ≤ 100000 := by
  obtain ⟨b1, l1, b2, l2, a, b, rfl, h2, h3, rfl⟩ := h
  have := rl_ratio a b
  have := h2.ln
  have := h3.ln
  omega
theorem RatC.l {S : Nat → Prop} {w : World} {v : Value} {q : Rat} (h : RatC w S v q) (hl : rl q ≤ 100000) : RatL w S v q := by
  obtain ⟨b1, l1, b2, l2, h1, h2, h3⟩ := h
  exact ⟨b1, l1, b2, l2, _, _, h1, h2.l (Nat.le_trans (rl_num q) hl), h3.l (Nat.le_trans (rl_den' q) hl), ratio_self q⟩
theorem rs_ratio (a b : Int) : rs (ratio a b) = if b.sign < 0 then -a.sign else a.sign := by
  have sb := sign_cases b
  rw [ratio]
  split
  · rw [if_neg (by omega), rs, sign_div (by decide)]
  · split
    · rw [show Rat.divInt a b = Rat.divInt (-a) (-b) from (Rat.neg_divInt_neg a b).symm, rs, sign_div (by omega), Int.sign_neg]
    · rw [rs, sign_div (by omega)]
theorem divInt_sq {a c : Int} : (a.natAbs < 1073741824) → (c.natAbs < 1073741824) → (a * c).natAbs ≤ 1152921502459363329 := fun h1 h2 => by
  rw [Int.natAbs_mul]
  exact Nat.mul_le_mul (show a.natAbs ≤ 1073741823 by omega) (show c.natAbs ≤ 1073741823 by omega)
section
variable {S S' : Nat → Prop} {H : Hp} {nx : Nat} {iv iv' : Iv} {B : Nat} {w w' w2 : World} {ρ : Nat → Sx.Val} {v : Value} {q : Rat}
theorem RatL.rel (h : RatL w (Cv S B iv) v q) (r : Rel H nx iv B w ρ w') (hS : ∀ g, S g → g < B) : RatL w' (Cv S B iv) v q := h.keep fun _ hg => Rel.same r hS hg
theorem RatL.past (h : RatL w (Cv S B iv) v q) (r : Rel H nx iv B w ρ w') (hS : ∀ g, S g → g < B) (he : Ext w' w2) (hm : ∀ p, p ∈ iv → p ∈ iv') : RatL w2 (Cv S B iv') v q :=
  ((h.rel r hS).keep fun g hg => he.block g (Rel.old r hS g hg)).weak fun _ hg => hg.mono hm
theorem RatL.got (h : RatL w2 (Nw (fun _ => False) w' w2) v q) (hB : B ≤ w'.heap.size) (hm : (w'.heap.size, w2.heap.size) ∈ iv) : RatL w2 (Cv S B iv) v q := h.weak fun _ hg => hg.got hB hm
theorem RatL.old (h : RatL w2 (Nw (Cv S B iv) w' w2) v q) (hB : B ≤ w'.heap.size) : RatL w2 (Cv S B ((w'.heap.size, w2.heap.size) :: iv)) v q := h.weak fun _ hg => Nw.cv hg hB
theorem RatL.out {w0 w1 : World} (h : RatL w1 (Cv S w0.heap.size iv) v q) (r : Rel H nx iv w0.heap.size w1 ρ w') (hS : Old S w0) : RatL w' (Nw S w0 w') v q :=
  (h.rel r hS).weak fun _ hg => Cv.nw hg r
theorem RatL.arg (h : RatL w S v q) (iv : Iv) : RatL w (Cv S w.heap.size iv) v q := h.weak fun _ h => .inl h
end

theorem rSignOfR_c {S : Nat → Prop} {w : World} {v : Value} {a b : Int} (hS : Old S w) (hp : RatR w S v a b) :
    Con PG N.ref01_SignOf #[v] w (Ret w fun v' _ => v' = .int .i64 (rs (ratio a b))) := by
  have hw : Bel w.heap.size w w := Bel.refl
  obtain ⟨b1, l1, b2, l2, rfl, ha, hb'⟩ := hp
  obtain ⟨_, a1, n1, c1, e1⟩ := ha.shape
  obtain ⟨_, a2, n2, c2, e2⟩ := hb'.shape
  simp only [Value.agg.injEq, Array.mk.injEq, List.cons.injEq, and_true] at e1 e2
  obtain ⟨_, rfl⟩ := e1
  obtain ⟨_, rfl⟩ := e2
  replace ha := ha.weak (S' := Cv S w.heap.size []) fun _ h => .inl h
  replace hb' := hb'.weak (S' := Cv S w.heap.size []) fun _ h => .inl h
  have hr := rs_ratio a b
  have sa := sign_cases a
  refine in_ref01_SignOf (by simp) ?_
  conv => whnf
  refine callE_S (callE_con (Φ := fun _ w' v w2 => v = .int .i64 b.sign) (fun ρ w' r => rSign_c (Rel.old r hS) (hb'.rel r hS)) ?_)
  rintro ρ wa1 v1 wb1 r he hb rfl
  replace hw := hw.tr hb
  replace ha := ha.past (iv' := (wa1.heap.size, wb1.heap.size) :: []) r hS he fun x hx => List.mem_cons_of_mem _ hx
  clear hb'
  clear r he hb
  generalize (wa1.heap.size, wb1.heap.size) :: [] = iv1 at *
  conv => whnf
  refine BrS.mk (fun h => ?_) (fun h => ?_)
  · have h := of_decide_eq_true h
    rw [if_pos h] at hr
    conv => whnf
    refine callE_S (callE_con (Φ := fun _ w' v w2 => v = .int .i64 a.sign) (fun ρ w' r => rSign_c (Rel.old r hS) (ha.rel r hS)) ?_)
    rintro ρ wa2 v2 wb2 r he hb rfl
    replace hw := hw.tr hb
    clear ha
    clear r he hb
    generalize (wa2.heap.size, wb2.heap.size) :: iv1 = iv2 at *
    conv => whnf
    refine ⟨-a.sign, by rw [wrap64] <;> omega, ?_⟩
    conv => whnf
    intro ρe we re
    exact ⟨_, rfl, hw.tr re.bel, by rw [hr]; rfl⟩
  have h := of_decide_eq_false h
  rw [if_neg h] at hr
  conv => whnf
  refine callE_S (callE_con (Φ := fun _ w' v w2 => v = .int .i64 a.sign) (fun ρ w' r => rSign_c (Rel.old r hS) (ha.rel r hS)) ?_)
  rintro ρ wa2 v2 wb2 r he hb rfl
  replace hw := hw.tr hb
  clear ha
  clear r he hb
  generalize (wa2.heap.size, wb2.heap.size) :: iv1 = iv2 at *
  conv => whnf
  intro ρe we re
  exact ⟨_, rfl, hw.tr re.bel, by rw [hr]; rfl⟩

theorem rSignOf_c {S : Nat → Prop} {w : World} {v : Value} {p : Rat} (hS : Old S w) (hp : RatC w S v p) : Con PG N.ref01_SignOf #[v] w (Ret w fun v' _ => v' = .int .i64 (rs p)) := by
  have := rSignOfR_c hS hp.r
  rw [ratio_self] at this
  exact this
theorem rSignOfL_c {S : Nat → Prop} {w : World} {v : Value} {p : Rat} (hS : Old S w) (hp : RatL w S v p) : Con PG N.ref01_SignOf #[v] w (Ret w fun v' _ => v' = .int .i64 (rs p)) := by
  obtain ⟨a, b, h1, rfl⟩ := hp.r
  exact rSignOfR_c hS h1
theorem rNormal_c {S : Nat → Prop} {w : World} {v : Value} {p : Rat} (hS : Old S w) (hp : RatL w S v p) :
    Con PG N.ref01_Normal #[v] w (Ret w fun v' w2 => RatC w2 (Nw (fun _ => False) w w2) v' p) := by
  have hw : Bel w.heap.size w w := Bel.refl
  obtain ⟨b1, l1, b2, l2, a, b, rfl, ha, hb', rfl⟩ := hp
  obtain ⟨_, a1, n1, c1, e1⟩ := ha.shape
  obtain ⟨_, a2, n2, c2, e2⟩ := hb'.shape
  simp only [Value.agg.injEq, Array.mk.injEq, List.cons.injEq, and_true] at e1 e2
  obtain ⟨_, rfl⟩ := e1
  obtain ⟨_, rfl⟩ := e2
  replace ha := ha.weak (S' := Cv S w.heap.size []) fun _ h => .inl h
  replace hb' := hb'.weak (S' := Cv S w.heap.size []) fun _ h => .inl h
  have sb := sign_cases b
  refine in_ref01_Normal (by simp) ?_
  conv => whnf
  refine callE_S (callE_con (Φ := fun _ w' v w2 => v = .int .i64 b.sign) (fun ρ w' r => rSign_c (Rel.old r hS) (hb'.rel r hS).r) ?_)
  rintro ρ wa1 v1 wb1 r he hb rfl
  replace hw := hw.tr hb
  replace ha := ha.past (iv' := (wa1.heap.size, wb1.heap.size) :: []) r hS he fun x hx => List.mem_cons_of_mem _ hx
  replace hb' := hb'.past (iv' := (wa1.heap.size, wb1.heap.size) :: []) r hS he fun x hx => List.mem_cons_of_mem _ hx
  clear r he hb
  generalize (wa1.heap.size, wb1.heap.size) :: [] = iv1 at *
  conv => whnf
  refine BrS.mk (fun h => ?_) (fun h => ?_)
  · have h : b.sign = 0 := by simpa using h
    obtain rfl : b = 0 := by omega
    rw [show ratio a 0 = Rat.divInt a 1 from if_pos rfl]
    conv => whnf
    refine drawn_of_pi hτ hmix [.x 0, .x 1, .x 2, .x 3, .x 4] (by kernel_rfl) (by kernel_rfl) ?_
    conv => whnf
    refine callE_con (Φ := fun _ w' v w2 => IntC w2 (Nw (fun _ => False) w' w2) v (1)) (fun ρ w' r => rOf_c _ w' (by decide) (by decide)) ?_
    rintro ρ wa2 v2 wb2 r he hb hn
    replace hw := hw.tr hb
    replace ha := ha.past (iv' := (wa2.heap.size, wb2.heap.size) :: iv1) r hS he fun x hx => List.mem_cons_of_mem _ hx
    replace hb' := hb'.past (iv' := (wa2.heap.size, wb2.heap.size) :: iv1) r hS he fun x hx => List.mem_cons_of_mem _ hx
    have h1 := hn.got (S := fun _ => False) r.baseLe (iv := (wa2.heap.size, wb2.heap.size) :: iv1) List.mem_cons_self
    clear r he hb hn
    generalize (wa2.heap.size, wb2.heap.size) :: iv1 = iv2 at *
    obtain ⟨s2_0, s2_1, s2_2, s2_3, rfl⟩ := h1.shape
    conv => whnf
    refine callE_con (Φ := fun _ w' v w2 => RatC w2 (Nw (fun _ => False) w' w2) v (Rat.divInt a 1)) (fun ρ w' r => rOver_c (Rel.old r hS) (ha.rel r hS) (((h1.rel r (oldF w)).l (k := 1) (by decide)).weak fun g hg => Cv.false hg) (by omega) (by omega) (by decide)) ?_
    rintro ρ wa3 v3 wb3 r he hb hn
    replace hw := hw.tr hb
    replace ha := ha.past (iv' := (wa3.heap.size, wb3.heap.size) :: iv2) r hS he fun x hx => List.mem_cons_of_mem _ hx
    replace hb' := hb'.past (iv' := (wa3.heap.size, wb3.heap.size) :: iv2) r hS he fun x hx => List.mem_cons_of_mem _ hx
    replace h1 := h1.past (iv' := (wa3.heap.size, wb3.heap.size) :: iv2) r (oldF w) he fun x hx => List.mem_cons_of_mem _ hx
    have hR := hn.got (S := fun _ => False) r.baseLe (iv := (wa3.heap.size, wb3.heap.size) :: iv2) List.mem_cons_self
    clear r he hb hn
    generalize (wa3.heap.size, wb3.heap.size) :: iv2 = iv3 at *
    obtain ⟨s3_0, s3_1, s3_2, s3_3, s3_4, s3_5, s3_6, s3_7, rfl⟩ := hR.shape
    conv => whnf
    intro ρe we re
    exact ⟨_, rfl, hw.tr re.bel, hR.out re (oldF w)⟩
  have h : b.sign ≠ 0 := by simpa using h
  have hb0 : b ≠ 0 := by omega
  rw [show ratio a b = Rat.divInt a b from if_neg hb0]
  conv => whnf
  refine callE_S (callE_con (Φ := fun _ w' v w2 => RatC w2 (Nw (fun _ => False) w' w2) v (Rat.divInt a b)) (fun ρ w' r => rOver_c (Rel.old r hS) (ha.rel r hS) (hb'.rel r hS) (by omega) (by omega) hb0) ?_)
  rintro ρ wa2 v2 wb2 r he hb hn
  replace hw := hw.tr hb
  replace ha := ha.past (iv' := (wa2.heap.size, wb2.heap.size) :: iv1) r hS he fun x hx => List.mem_cons_of_mem _ hx
  replace hb' := hb'.past (iv' := (wa2.heap.size, wb2.heap.size) :: iv1) r hS he fun x hx => List.mem_cons_of_mem _ hx
  have hR := hn.got (S := fun _ => False) r.baseLe (iv := (wa2.heap.size, wb2.heap.size) :: iv1) List.mem_cons_self
  clear r he hb hn
  generalize (wa2.heap.size, wb2.heap.size) :: iv1 = iv2 at *
  obtain ⟨s2_0, s2_1, s2_2, s2_3, s2_4, s2_5, s2_6, s2_7, rfl⟩ := hR.shape
  conv => whnf
  intro ρe we re
  exact ⟨_, rfl, hw.tr re.bel, hR.out re (oldF w)⟩

theorem quick_c {S : Nat → Prop} {w : World} {v : Value} {p : Rat} (hS : Old S w) (hp : RatL w S v p) :
    Con PG N.ref01_quick #[v] w (Ret w fun v' _ => ∃ n d ok, v' = .tuple #[.int .i64 n, .int .i64 d, .bool ok] ∧ (ok = true → d ≠ 0 ∧ n.natAbs < 1073741824 ∧ d.natAbs < 1073741824 ∧ Rat.divInt n d = p)) := by
  have hw : Bel w.heap.size w w := Bel.refl
  obtain ⟨b1, l1, b2, l2, a, b, rfl, ha, hb', rfl⟩ := hp
  obtain ⟨_, a1, n1, c1, e1⟩ := ha.shape
  obtain ⟨_, a2, n2, c2, e2⟩ := hb'.shape
  simp only [Value.agg.injEq, Array.mk.injEq, List.cons.injEq, and_true] at e1 e2
  obtain ⟨_, rfl⟩ := e1
  obtain ⟨_, rfl⟩ := e2
  replace ha := ha.weak (S' := Cv S w.heap.size []) fun _ h => .inl h
  replace hb' := hb'.weak (S' := Cv S w.heap.size []) fun _ h => .inl h
  refine in_ref01_quick (by simp) ?_
  conv => whnf
  refine callE_S (callE_con (Φ := fun _ w' v w2 => ∃ n p, v = .tuple #[.int .i64 n, .bool p] ∧ (p = true → n = a ∧ a.natAbs < 1073741824)) (fun ρ w' r => (rshort_c (Rel.old r hS) (ha.rel r hS).r).mono fun e w2 ⟨v2, e1, e2, e3⟩ => ⟨v2, e1, e2, by
      rw [e3, shortV]
      split
      · exact ⟨_, _, rfl, fun _ => ⟨rfl, ‹_›⟩⟩
      · exact ⟨_, _, rfl, fun h => by cases h⟩⟩) ?_)
  rintro ρ wa1 v1 wb1 r he hb ⟨na, pa, rfl, qa⟩
  replace hw := hw.tr hb
  replace ha := ha.past (iv' := (wa1.heap.size, wb1.heap.size) :: []) r hS he fun x hx => List.mem_cons_of_mem _ hx
  replace hb' := hb'.past (iv' := (wa1.heap.size, wb1.heap.size) :: []) r hS he fun x hx => List.mem_cons_of_mem _ hx
  clear r he hb
  generalize (wa1.heap.size, wb1.heap.size) :: [] = iv1 at *
  conv => whnf
  refine callE_S (callE_con (Φ := fun _ w' v w2 => ∃ n p, v = .tuple #[.int .i64 n, .bool p] ∧ (p = true → n = b ∧ b.natAbs < 1073741824)) (fun ρ w' r => (rshort_c (Rel.old r hS) (hb'.rel r hS).r).mono fun e w2 ⟨v2, e1, e2, e3⟩ => ⟨v2, e1, e2, by
      rw [e3, shortV]
      split
      · exact ⟨_, _, rfl, fun _ => ⟨rfl, ‹_›⟩⟩
      · exact ⟨_, _, rfl, fun h => by cases h⟩⟩) ?_)
  rintro ρ wa2 v2 wb2 r he hb ⟨nb, pb, rfl, qb⟩
  replace hw := hw.tr hb
  replace ha := ha.past (iv' := (wa2.heap.size, wb2.heap.size) :: iv1) r hS he fun x hx => List.mem_cons_of_mem _ hx
  replace hb' := hb'.past (iv' := (wa2.heap.size, wb2.heap.size) :: iv1) r hS he fun x hx => List.mem_cons_of_mem _ hx
  clear r he hb
  generalize (wa2.heap.size, wb2.heap.size) :: iv1 = iv2 at *
  conv => whnf
  refine BrS.mk (fun h => ?_) (fun h => ?_)
  · have h : nb = 0 := by simpa using h
    conv => whnf
    refine BrS.mk (fun h1 => ?_) (fun h1 => ?_)
    · conv => whnf
      intro ρe we re
      exact ⟨_, rfl, hw.tr re.bel, ⟨na, 1, pb, rfl, fun h2 => by
          obtain ⟨rfl, hx⟩ := qa h1
          obtain ⟨rfl, hy⟩ := qb h2
          rw [h]
          exact ⟨by decide, hx, by decide, (if_pos rfl).symm⟩⟩⟩
    conv => whnf
    intro ρe we re
    exact ⟨_, rfl, hw.tr re.bel, ⟨na, 1, false, rfl, fun h2 => by cases h2⟩⟩
  have h : nb ≠ 0 := by simpa using h
  conv => whnf
  refine BrS.mk (fun h1 => ?_) (fun h1 => ?_)
  · conv => whnf
    intro ρe we re
    exact ⟨_, rfl, hw.tr re.bel, ⟨na, nb, pb, rfl, fun h2 => by
        obtain ⟨rfl, hx⟩ := qa h1
        obtain ⟨rfl, hy⟩ := qb h2
        exact ⟨h, hx, hy, (if_neg h).symm⟩⟩⟩
  conv => whnf
  intro ρe we re
  exact ⟨_, rfl, hw.tr re.bel, ⟨na, nb, false, rfl, fun h2 => by cases h2⟩⟩

theorem rAdd_c {S : Nat → Prop} {w : World} {v u : Value} {p q : Rat} (hS : Old S w) (hp : RatL w S v p) (hq : RatL w S u q) :
    Con PG N.ref01_Add #[v, u] w (Ret w fun v' w2 => RatC w2 (Nw (fun _ => False) w w2) v' (p + q)) := by
  have hw : Bel w.heap.size w w := Bel.refl
  replace hp := hp.weak (S' := Cv S w.heap.size []) fun _ h => .inl h
  replace hq := hq.weak (S' := Cv S w.heap.size []) fun _ h => .inl h
  obtain ⟨b1, a1, n1, c1, b2, a2, n2, c2, rfl⟩ := hp.shape
  obtain ⟨b3, a3, n3, c3, b4, a4, n4, c4, rfl⟩ := hq.shape
  refine in_ref01_Add (by simp) ?_
  conv => whnf
  have r1 := hp.rl
  have r2 := hq.rl
  have u1 := rl_num p
  have u2 := rl_den' p
  have u3 := rl_num q
  have u4 := rl_den' q
  refine callE_S (callE_con (Φ := fun _ w' v w2 => ∃ n d ok, v = .tuple #[.int .i64 n, .int .i64 d, .bool ok] ∧ (ok = true → d ≠ 0 ∧ n.natAbs < 1073741824 ∧ d.natAbs < 1073741824 ∧ Rat.divInt n d = p)) (fun ρ w' r => quick_c (Rel.old r hS) (hp.rel r hS)) ?_)
  rintro ρ wa1 v1 wb1 r he hb ⟨a, b, k1, rfl, g1⟩
  replace hw := hw.tr hb
  replace hp := hp.past (iv' := (wa1.heap.size, wb1.heap.size) :: []) r hS he fun x hx => List.mem_cons_of_mem _ hx
  replace hq := hq.past (iv' := (wa1.heap.size, wb1.heap.size) :: []) r hS he fun x hx => List.mem_cons_of_mem _ hx
  clear r he hb
  generalize (wa1.heap.size, wb1.heap.size) :: [] = iv1 at *
  conv => whnf
  refine callE_S (callE_con (Φ := fun _ w' v w2 => ∃ n d ok, v = .tuple #[.int .i64 n, .int .i64 d, .bool ok] ∧ (ok = true → d ≠ 0 ∧ n.natAbs < 1073741824 ∧ d.natAbs < 1073741824 ∧ Rat.divInt n d = q)) (fun ρ w' r => quick_c (Rel.old r hS) (hq.rel r hS)) ?_)
  rintro ρ wa2 v2 wb2 r he hb ⟨c, d, k2, rfl, g2⟩
  replace hw := hw.tr hb
  replace hp := hp.past (iv' := (wa2.heap.size, wb2.heap.size) :: iv1) r hS he fun x hx => List.mem_cons_of_mem _ hx
  replace hq := hq.past (iv' := (wa2.heap.size, wb2.heap.size) :: iv1) r hS he fun x hx => List.mem_cons_of_mem _ hx
  clear r he hb
  generalize (wa2.heap.size, wb2.heap.size) :: iv1 = iv2 at *
  conv => whnf
  refine BrS.mk (fun h1 => ?_) (fun h1 => ?_)
  · conv => whnf
    refine BrS.mk (fun h2 => ?_) (fun h2 => ?_)
    · obtain ⟨g3, g4, g5, g6⟩ := g1 h1
      obtain ⟨g7, g8, g9, g10⟩ := g2 h2
      have i1 := divInt_sq g4 g9
      have i2 := divInt_sq g8 g5
      have i3 := divInt_sq g5 g9
      have i4 := divInt_sq g4 g8
      clear hp hq
      conv => whnf
      refine ⟨a * d, by rw [wrap64] <;> omega, ?_⟩
      conv => whnf
      refine ⟨c * b, by rw [wrap64] <;> omega, ?_⟩
      conv => whnf
      refine ⟨a * d + c * b, by rw [wrap64] <;> omega, ?_⟩
      conv => whnf
      refine ⟨b * d, by rw [wrap64] <;> omega, ?_⟩
      conv => whnf
      have e := Rat.divInt_add_divInt a c g3 g7
      rw [g6, g10] at e
      refine callE_S (callE_con (Φ := fun _ w' v w2 => RatC w2 (Nw (fun _ => False) w' w2) v (p + q)) (fun ρ w' r => e ▸ rlowest_c (a * d + c * b) (b * d) w' (by omega) (by omega) (mul_ne g3 g7)) ?_)
      rintro ρ wa3 v3 wb3 r he hb hn
      replace hw := hw.tr hb
      have hR := hn.got (S := fun _ => False) r.baseLe (iv := (wa3.heap.size, wb3.heap.size) :: iv2) List.mem_cons_self
      clear r he hb hn
      generalize (wa3.heap.size, wb3.heap.size) :: iv2 = iv3 at *
      obtain ⟨s3_0, s3_1, s3_2, s3_3, s3_4, s3_5, s3_6, s3_7, rfl⟩ := hR.shape
      conv => whnf
      intro ρe we re
      exact ⟨_, rfl, hw.tr re.bel, hR.out re (oldF w)⟩
    conv => whnf
    refine drawn_of_pi hτ hmix [.x 0, .x 2, .x 1, .x 3, .x 4, .x 5] (by kernel_rfl) (by kernel_rfl) ?_
    conv => whnf
    refine callE_con (Φ := fun _ w' v w2 => RatC w2 (Nw (fun _ => False) w' w2) v (p)) (fun ρ w' r => rNormal_c (Rel.old r hS) (hp.rel r hS)) ?_
    rintro ρ wa3 v3 wb3 r he hb hn
    replace hw := hw.tr hb
    clear hp
    replace hq := hq.past (iv' := (wa3.heap.size, wb3.heap.size) :: iv2) r hS he fun x hx => List.mem_cons_of_mem _ hx
    have hX := hn.got (S := fun _ => False) r.baseLe (iv := (wa3.heap.size, wb3.heap.size) :: iv2) List.mem_cons_self
    clear r he hb hn
    generalize (wa3.heap.size, wb3.heap.size) :: iv2 = iv3 at *
    obtain ⟨s3_0, s3_1, s3_2, s3_3, s3_4, s3_5, s3_6, s3_7, rfl⟩ := hX.shape
    conv => whnf
    refine callE_con (Φ := fun _ w' v w2 => RatC w2 (Nw (fun _ => False) w' w2) v (q)) (fun ρ w' r => rNormal_c (Rel.old r hS) (hq.rel r hS)) ?_
    rintro ρ wa4 v4 wb4 r he hb hn
    replace hw := hw.tr hb
    clear hq
    replace hX := hX.past (iv' := (wa4.heap.size, wb4.heap.size) :: iv3) r (oldF w) he fun x hx => List.mem_cons_of_mem _ hx
    have hY := hn.got (S := fun _ => False) r.baseLe (iv := (wa4.heap.size, wb4.heap.size) :: iv3) List.mem_cons_self
    clear r he hb hn
    generalize (wa4.heap.size, wb4.heap.size) :: iv3 = iv4 at *
    obtain ⟨s4_0, s4_1, s4_2, s4_3, s4_4, s4_5, s4_6, s4_7, rfl⟩ := hY.shape
    conv => whnf
    have hXn := hX.num
    have hXd := hX.den
    clear hX
    have hYn := hY.num
    have hYd := hY.den
    clear hY
    have m0 := ln_mul_abs p.num q.den
    have m1 := ln_mul_abs q.num p.den
    have m2 := ln_mul_abs (p.den : Int) q.den
    have m3 := ln_add_int (p.num * q.den) (q.num * p.den)
    have m4 := ln_mul_abs p.num q.num
    refine drawn_of_pi hτ hmix [.x 0, .x 1, .x 2, .x 3, .x 5, .x 6, .x 7, .x 8, .x 11, .x 12, .x 13, .x 14, .x 4, .x 9, .x 10, .x 15, .x 16, .x 17] (by kernel_rfl) (by kernel_rfl) ?_
    conv => whnf
    refine callE_con (Φ := fun _ w' v w2 => IntC w2 (Nw (fun _ => False) w' w2) v (p.num * (q.den : Int))) (fun ρ w' r => rProd_c (Rel.old r (oldF w)) ((hXn.rel r (oldF w)).l (k := 100000) (by omega)) ((hYd.rel r (oldF w)).l (k := 100000) (by omega)) (by omega) (by omega)) ?_
    rintro ρ wa5 v5 wb5 r he hb hn
    replace hw := hw.tr hb
    replace hXn := hXn.past (iv' := (wa5.heap.size, wb5.heap.size) :: iv4) r (oldF w) he fun x hx => List.mem_cons_of_mem _ hx
    replace hXd := hXd.past (iv' := (wa5.heap.size, wb5.heap.size) :: iv4) r (oldF w) he fun x hx => List.mem_cons_of_mem _ hx
    replace hYn := hYn.past (iv' := (wa5.heap.size, wb5.heap.size) :: iv4) r (oldF w) he fun x hx => List.mem_cons_of_mem _ hx
    replace hYd := hYd.past (iv' := (wa5.heap.size, wb5.heap.size) :: iv4) r (oldF w) he fun x hx => List.mem_cons_of_mem _ hx
    have hA := hn.got (S := fun _ => False) r.baseLe (iv := (wa5.heap.size, wb5.heap.size) :: iv4) List.mem_cons_self
    clear r he hb hn
    generalize (wa5.heap.size, wb5.heap.size) :: iv4 = iv5 at *
    obtain ⟨s5_0, s5_1, s5_2, s5_3, rfl⟩ := hA.shape
    conv => whnf
    refine callE_con (Φ := fun _ w' v w2 => IntC w2 (Nw (fun _ => False) w' w2) v (q.num * (p.den : Int))) (fun ρ w' r => rProd_c (Rel.old r (oldF w)) ((hYn.rel r (oldF w)).l (k := 100000) (by omega)) ((hXd.rel r (oldF w)).l (k := 100000) (by omega)) (by omega) (by omega)) ?_
    rintro ρ wa6 v6 wb6 r he hb hn
    replace hw := hw.tr hb
    replace hXn := hXn.past (iv' := (wa6.heap.size, wb6.heap.size) :: iv5) r (oldF w) he fun x hx => List.mem_cons_of_mem _ hx
    replace hXd := hXd.past (iv' := (wa6.heap.size, wb6.heap.size) :: iv5) r (oldF w) he fun x hx => List.mem_cons_of_mem _ hx
    replace hYn := hYn.past (iv' := (wa6.heap.size, wb6.heap.size) :: iv5) r (oldF w) he fun x hx => List.mem_cons_of_mem _ hx
    replace hYd := hYd.past (iv' := (wa6.heap.size, wb6.heap.size) :: iv5) r (oldF w) he fun x hx => List.mem_cons_of_mem _ hx
    replace hA := hA.past (iv' := (wa6.heap.size, wb6.heap.size) :: iv5) r (oldF w) he fun x hx => List.mem_cons_of_mem _ hx
    have hB := hn.got (S := fun _ => False) r.baseLe (iv := (wa6.heap.size, wb6.heap.size) :: iv5) List.mem_cons_self
    clear r he hb hn
    generalize (wa6.heap.size, wb6.heap.size) :: iv5 = iv6 at *
    obtain ⟨s6_0, s6_1, s6_2, s6_3, rfl⟩ := hB.shape
    conv => whnf
    refine callE_con (Φ := fun _ w' v w2 => IntC w2 (Nw (fun _ => False) w' w2) v (p.num * (q.den : Int) + q.num * (p.den : Int))) (fun ρ w' r => rSum_c (Rel.old r (oldF w)) ((hA.rel r (oldF w)).l (k := 200000) (by omega)) ((hB.rel r (oldF w)).l (k := 200000) (by omega)) (by omega) (by omega)) ?_
    rintro ρ wa7 v7 wb7 r he hb hn
    replace hw := hw.tr hb
    replace hXn := hXn.past (iv' := (wa7.heap.size, wb7.heap.size) :: iv6) r (oldF w) he fun x hx => List.mem_cons_of_mem _ hx
    replace hXd := hXd.past (iv' := (wa7.heap.size, wb7.heap.size) :: iv6) r (oldF w) he fun x hx => List.mem_cons_of_mem _ hx
    replace hYn := hYn.past (iv' := (wa7.heap.size, wb7.heap.size) :: iv6) r (oldF w) he fun x hx => List.mem_cons_of_mem _ hx
    replace hYd := hYd.past (iv' := (wa7.heap.size, wb7.heap.size) :: iv6) r (oldF w) he fun x hx => List.mem_cons_of_mem _ hx
    clear hA
    clear hB
    have hN := hn.got (S := fun _ => False) r.baseLe (iv := (wa7.heap.size, wb7.heap.size) :: iv6) List.mem_cons_self
    clear r he hb hn
    generalize (wa7.heap.size, wb7.heap.size) :: iv6 = iv7 at *
    obtain ⟨s7_0, s7_1, s7_2, s7_3, rfl⟩ := hN.shape
    conv => whnf
    refine callE_con (Φ := fun _ w' v w2 => IntC w2 (Nw (fun _ => False) w' w2) v ((p.den : Int) * (q.den : Int))) (fun ρ w' r => rProd_c (Rel.old r (oldF w)) ((hXd.rel r (oldF w)).l (k := 100000) (by omega)) ((hYd.rel r (oldF w)).l (k := 100000) (by omega)) (by omega) (by omega)) ?_
    rintro ρ wa8 v8 wb8 r he hb hn
    replace hw := hw.tr hb
    replace hXn := hXn.past (iv' := (wa8.heap.size, wb8.heap.size) :: iv7) r (oldF w) he fun x hx => List.mem_cons_of_mem _ hx
    replace hXd := hXd.past (iv' := (wa8.heap.size, wb8.heap.size) :: iv7) r (oldF w) he fun x hx => List.mem_cons_of_mem _ hx
    replace hYn := hYn.past (iv' := (wa8.heap.size, wb8.heap.size) :: iv7) r (oldF w) he fun x hx => List.mem_cons_of_mem _ hx
    replace hYd := hYd.past (iv' := (wa8.heap.size, wb8.heap.size) :: iv7) r (oldF w) he fun x hx => List.mem_cons_of_mem _ hx
    replace hN := hN.past (iv' := (wa8.heap.size, wb8.heap.size) :: iv7) r (oldF w) he fun x hx => List.mem_cons_of_mem _ hx
    have hD := hn.got (S := fun _ => False) r.baseLe (iv := (wa8.heap.size, wb8.heap.size) :: iv7) List.mem_cons_self
    clear r he hb hn
    generalize (wa8.heap.size, wb8.heap.size) :: iv7 = iv8 at *
    obtain ⟨s8_0, s8_1, s8_2, s8_3, rfl⟩ := hD.shape
    conv => whnf
    refine callE_con (Φ := fun _ w' v w2 => RatC w2 (Nw (fun _ => False) w' w2) v (p + q)) (fun ρ w' r => (rat_add p q) ▸ rOver_c (Rel.old r (oldF w)) ((hN.rel r (oldF w)).l (k := 200001) (by omega)) ((hD.rel r (oldF w)).l (k := 200001) (by omega)) (by omega) (by omega) (mul_ne (den_ne p) (den_ne q))) ?_
    rintro ρ wa9 v9 wb9 r he hb hn
    replace hw := hw.tr hb
    clear hXn
    clear hXd
    clear hYn
    clear hYd
    clear hN
    clear hD
    have hR := hn.got (S := fun _ => False) r.baseLe (iv := (wa9.heap.size, wb9.heap.size) :: iv8) List.mem_cons_self
    clear r he hb hn
    generalize (wa9.heap.size, wb9.heap.size) :: iv8 = iv9 at *
    obtain ⟨s9_0, s9_1, s9_2, s9_3, s9_4, s9_5, s9_6, s9_7, rfl⟩ := hR.shape
    conv => whnf
    intro ρe we re
    exact ⟨_, rfl, hw.tr re.bel, hR.out re (oldF w)⟩
  conv => whnf
  refine drawn_of_pi hτ hmix [.x 0, .x 2, .x 1, .x 3, .x 4, .x 5] (by kernel_rfl) (by kernel_rfl) ?_
  conv => whnf
  refine callE_con (Φ := fun _ w' v w2 => RatC w2 (Nw (fun _ => False) w' w2) v (p)) (fun ρ w' r => rNormal_c (Rel.old r hS) (hp.rel r hS)) ?_
  rintro ρ wa3 v3 wb3 r he hb hn
  replace hw := hw.tr hb
  clear hp
  replace hq := hq.past (iv' := (wa3.heap.size, wb3.heap.size) :: iv2) r hS he fun x hx => List.mem_cons_of_mem _ hx
  have hX := hn.got (S := fun _ => False) r.baseLe (iv := (wa3.heap.size, wb3.heap.size) :: iv2) List.mem_cons_self
  clear r he hb hn
  generalize (wa3.heap.size, wb3.heap.size) :: iv2 = iv3 at *
  obtain ⟨s3_0, s3_1, s3_2, s3_3, s3_4, s3_5, s3_6, s3_7, rfl⟩ := hX.shape
  conv => whnf
  refine callE_con (Φ := fun _ w' v w2 => RatC w2 (Nw (fun _ => False) w' w2) v (q)) (fun ρ w' r => rNormal_c (Rel.old r hS) (hq.rel r hS)) ?_
  rintro ρ wa4 v4 wb4 r he hb hn
  replace hw := hw.tr hb
  clear hq
  replace hX := hX.past (iv' := (wa4.heap.size, wb4.heap.size) :: iv3) r (oldF w) he fun x hx => List.mem_cons_of_mem _ hx
  have hY := hn.got (S := fun _ => False) r.baseLe (iv := (wa4.heap.size, wb4.heap.size) :: iv3) List.mem_cons_self
  clear r he hb hn
  generalize (wa4.heap.size, wb4.heap.size) :: iv3 = iv4 at *
  obtain ⟨s4_0, s4_1, s4_2, s4_3, s4_4, s4_5, s4_6, s4_7, rfl⟩ := hY.shape
  conv => whnf
  have hXn := hX.num
  have hXd := hX.den
  clear hX
  have hYn := hY.num
  have hYd := hY.den
  clear hY
  have m0 := ln_mul_abs p.num q.den
  have m1 := ln_mul_abs q.num p.den
  have m2 := ln_mul_abs (p.den : Int) q.den
  have m3 := ln_add_int (p.num * q.den) (q.num * p.den)
  have m4 := ln_mul_abs p.num q.num
  refine drawn_of_pi hτ hmix [.x 0, .x 1, .x 2, .x 3, .x 5, .x 6, .x 7, .x 8, .x 11, .x 12, .x 13, .x 14, .x 4, .x 9, .x 10, .x 15, .x 16, .x 17] (by kernel_rfl) (by kernel_rfl) ?_
  conv => whnf
  refine callE_con (Φ := fun _ w' v w2 => IntC w2 (Nw (fun _ => False) w' w2) v (p.num * (q.den : Int))) (fun ρ w' r => rProd_c (Rel.old r (oldF w)) ((hXn.rel r (oldF w)).l (k := 100000) (by omega)) ((hYd.rel r (oldF w)).l (k := 100000) (by omega)) (by omega) (by omega)) ?_
  rintro ρ wa5 v5 wb5 r he hb hn
  replace hw := hw.tr hb
  replace hXn := hXn.past (iv' := (wa5.heap.size, wb5.heap.size) :: iv4) r (oldF w) he fun x hx => List.mem_cons_of_mem _ hx
  replace hXd := hXd.past (iv' := (wa5.heap.size, wb5.heap.size) :: iv4) r (oldF w) he fun x hx => List.mem_cons_of_mem _ hx
  replace hYn := hYn.past (iv' := (wa5.heap.size, wb5.heap.size) :: iv4) r (oldF w) he fun x hx => List.mem_cons_of_mem _ hx
  replace hYd := hYd.past (iv' := (wa5.heap.size, wb5.heap.size) :: iv4) r (oldF w) he fun x hx => List.mem_cons_of_mem _ hx
  have hA := hn.got (S := fun _ => False) r.baseLe (iv := (wa5.heap.size, wb5.heap.size) :: iv4) List.mem_cons_self
  clear r he hb hn
  generalize (wa5.heap.size, wb5.heap.size) :: iv4 = iv5 at *
  obtain ⟨s5_0, s5_1, s5_2, s5_3, rfl⟩ := hA.shape
  conv => whnf
  refine callE_con (Φ := fun _ w' v w2 => IntC w2 (Nw (fun _ => False) w' w2) v (q.num * (p.den : Int))) (fun ρ w' r => rProd_c (Rel.old r (oldF w)) ((hYn.rel r (oldF w)).l (k := 100000) (by omega)) ((hXd.rel r (oldF w)).l (k := 100000) (by omega)) (by omega) (by omega)) ?_
  rintro ρ wa6 v6 wb6 r he hb hn
  replace hw := hw.tr hb
  replace hXn := hXn.past (iv' := (wa6.heap.size, wb6.heap.size) :: iv5) r (oldF w) he fun x hx => List.mem_cons_of_mem _ hx
  replace hXd := hXd.past (iv' := (wa6.heap.size, wb6.heap.size) :: iv5) r (oldF w) he fun x hx => List.mem_cons_of_mem _ hx
  replace hYn := hYn.past (iv' := (wa6.heap.size, wb6.heap.size) :: iv5) r (oldF w) he fun x hx => List.mem_cons_of_mem _ hx
  replace hYd := hYd.past (iv' := (wa6.heap.size, wb6.heap.size) :: iv5) r (oldF w) he fun x hx => List.mem_cons_of_mem _ hx
  replace hA := hA.past (iv' := (wa6.heap.size, wb6.heap.size) :: iv5) r (oldF w) he fun x hx => List.mem_cons_of_mem _ hx
  have hB := hn.got (S := fun _ => False) r.baseLe (iv := (wa6.heap.size, wb6.heap.size) :: iv5) List.mem_cons_self
  clear r he hb hn
  generalize (wa6.heap.size, wb6.heap.size) :: iv5 = iv6 at *
  obtain ⟨s6_0, s6_1, s6_2, s6_3, rfl⟩ := hB.shape
  conv => whnf
  refine callE_con (Φ := fun _ w' v w2 => IntC w2 (Nw (fun _ => False) w' w2) v (p.num * (q.den : Int) + q.num * (p.den : Int))) (fun ρ w' r => rSum_c (Rel.old r (oldF w)) ((hA.rel r (oldF w)).l (k := 200000) (by omega)) ((hB.rel r (oldF w)).l (k := 200000) (by omega)) (by omega) (by omega)) ?_
  rintro ρ wa7 v7 wb7 r he hb hn
  replace hw := hw.tr hb
  replace hXn := hXn.past (iv' := (wa7.heap.size, wb7.heap.size) :: iv6) r (oldF w) he fun x hx => List.mem_cons_of_mem _ hx
  replace hXd := hXd.past (iv' := (wa7.heap.size, wb7.heap.size) :: iv6) r (oldF w) he fun x hx => List.mem_cons_of_mem _ hx
  replace hYn := hYn.past (iv' := (wa7.heap.size, wb7.heap.size) :: iv6) r (oldF w) he fun x hx => List.mem_cons_of_mem _ hx
  replace hYd := hYd.past (iv' := (wa7.heap.size, wb7.heap.size) :: iv6) r (oldF w) he fun x hx => List.mem_cons_of_mem _ hx
  clear hA
  clear hB
  have hN := hn.got (S := fun _ => False) r.baseLe (iv := (wa7.heap.size, wb7.heap.size) :: iv6) List.mem_cons_self
  clear r he hb hn
  generalize (wa7.heap.size, wb7.heap.size) :: iv6 = iv7 at *
  obtain ⟨s7_0, s7_1, s7_2, s7_3, rfl⟩ := hN.shape
  conv => whnf
  refine callE_con (Φ := fun _ w' v w2 => IntC w2 (Nw (fun _ => False) w' w2) v ((p.den : Int) * (q.den : Int))) (fun ρ w' r => rProd_c (Rel.old r (oldF w)) ((hXd.rel r (oldF w)).l (k := 100000) (by omega)) ((hYd.rel r (oldF w)).l (k := 100000) (by omega)) (by omega) (by omega)) ?_
  rintro ρ wa8 v8 wb8 r he hb hn
  replace hw := hw.tr hb
  replace hXn := hXn.past (iv' := (wa8.heap.size, wb8.heap.size) :: iv7) r (oldF w) he fun x hx => List.mem_cons_of_mem _ hx
  replace hXd := hXd.past (iv' := (wa8.heap.size, wb8.heap.size) :: iv7) r (oldF w) he fun x hx => List.mem_cons_of_mem _ hx
  replace hYn := hYn.past (iv' := (wa8.heap.size, wb8.heap.size) :: iv7) r (oldF w) he fun x hx => List.mem_cons_of_mem _ hx
  replace hYd := hYd.past (iv' := (wa8.heap.size, wb8.heap.size) :: iv7) r (oldF w) he fun x hx => List.mem_cons_of_mem _ hx
  replace hN := hN.past (iv' := (wa8.heap.size, wb8.heap.size) :: iv7) r (oldF w) he fun x hx => List.mem_cons_of_mem _ hx
  have hD := hn.got (S := fun _ => False) r.baseLe (iv := (wa8.heap.size, wb8.heap.size) :: iv7) List.mem_cons_self
  clear r he hb hn
  generalize (wa8.heap.size, wb8.heap.size) :: iv7 = iv8 at *
  obtain ⟨s8_0, s8_1, s8_2, s8_3, rfl⟩ := hD.shape
  conv => whnf
  refine callE_con (Φ := fun _ w' v w2 => RatC w2 (Nw (fun _ => False) w' w2) v (p + q)) (fun ρ w' r => (rat_add p q) ▸ rOver_c (Rel.old r (oldF w)) ((hN.rel r (oldF w)).l (k := 200001) (by omega)) ((hD.rel r (oldF w)).l (k := 200001) (by omega)) (by omega) (by omega) (mul_ne (den_ne p) (den_ne q))) ?_
  rintro ρ wa9 v9 wb9 r he hb hn
  replace hw := hw.tr hb
  clear hXn
  clear hXd
  clear hYn
  clear hYd
  clear hN
  clear hD
  have hR := hn.got (S := fun _ => False) r.baseLe (iv := (wa9.heap.size, wb9.heap.size) :: iv8) List.mem_cons_self
  clear r he hb hn
  generalize (wa9.heap.size, wb9.heap.size) :: iv8 = iv9 at *
  obtain ⟨s9_0, s9_1, s9_2, s9_3, s9_4, s9_5, s9_6, s9_7, rfl⟩ := hR.shape
  conv => whnf
  intro ρe we re
  exact ⟨_, rfl, hw.tr re.bel, hR.out re (oldF w)⟩

theorem rMul_c {S : Nat → Prop} {w : World} {v u : Value} {p q : Rat} (hS : Old S w) (hp : RatL w S v p) (hq : RatL w S u q) :
    Con PG N.ref01_Mul #[v, u] w (Ret w fun v' w2 => RatC w2 (Nw (fun _ => False) w w2) v' (p * q)) := by
  have hw : Bel w.heap.size w w := Bel.refl
  replace hp := hp.weak (S' := Cv S w.heap.size []) fun _ h => .inl h
  replace hq := hq.weak (S' := Cv S w.heap.size []) fun _ h => .inl h
  obtain ⟨b1, a1, n1, c1, b2, a2, n2, c2, rfl⟩ := hp.shape
  obtain ⟨b3, a3, n3, c3, b4, a4, n4, c4, rfl⟩ := hq.shape
  refine in_ref01_Mul (by simp) ?_
  conv => whnf
  have r1 := hp.rl
  have r2 := hq.rl
  have u1 := rl_num p
  have u2 := rl_den' p
  have u3 := rl_num q
  have u4 := rl_den' q
  refine callE_S (callE_con (Φ := fun _ w' v w2 => ∃ n d ok, v = .tuple #[.int .i64 n, .int .i64 d, .bool ok] ∧ (ok = true → d ≠ 0 ∧ n.natAbs < 1073741824 ∧ d.natAbs < 1073741824 ∧ Rat.divInt n d = p)) (fun ρ w' r => quick_c (Rel.old r hS) (hp.rel r hS)) ?_)
  rintro ρ wa1 v1 wb1 r he hb ⟨a, b, k1, rfl, g1⟩
  replace hw := hw.tr hb
  replace hp := hp.past (iv' := (wa1.heap.size, wb1.heap.size) :: []) r hS he fun x hx => List.mem_cons_of_mem _ hx
  replace hq := hq.past (iv' := (wa1.heap.size, wb1.heap.size) :: []) r hS he fun x hx => List.mem_cons_of_mem _ hx
  clear r he hb
  generalize (wa1.heap.size, wb1.heap.size) :: [] = iv1 at *
  conv => whnf
  refine callE_S (callE_con (Φ := fun _ w' v w2 => ∃ n d ok, v = .tuple #[.int .i64 n, .int .i64 d, .bool ok] ∧ (ok = true → d ≠ 0 ∧ n.natAbs < 1073741824 ∧ d.natAbs < 1073741824 ∧ Rat.divInt n d = q)) (fun ρ w' r => quick_c (Rel.old r hS) (hq.rel r hS)) ?_)
  rintro ρ wa2 v2 wb2 r he hb ⟨c, d, k2, rfl, g2⟩
  replace hw := hw.tr hb
  replace hp := hp.past (iv' := (wa2.heap.size, wb2.heap.size) :: iv1) r hS he fun x hx => List.mem_cons_of_mem _ hx
  replace hq := hq.past (iv' := (wa2.heap.size, wb2.heap.size) :: iv1) r hS he fun x hx => List.mem_cons_of_mem _ hx
  clear r he hb
  generalize (wa2.heap.size, wb2.heap.size) :: iv1 = iv2 at *
  conv => whnf
  refine BrS.mk (fun h1 => ?_) (fun h1 => ?_)
  · conv => whnf
    refine BrS.mk (fun h2 => ?_) (fun h2 => ?_)
    · obtain ⟨g3, g4, g5, g6⟩ := g1 h1
      obtain ⟨g7, g8, g9, g10⟩ := g2 h2
      have i1 := divInt_sq g4 g9
      have i2 := divInt_sq g8 g5
      have i3 := divInt_sq g5 g9
      have i4 := divInt_sq g4 g8
      clear hp hq
      conv => whnf
      refine ⟨a * c, by rw [wrap64] <;> omega, ?_⟩
      conv => whnf
      refine ⟨b * d, by rw [wrap64] <;> omega, ?_⟩
      conv => whnf
      have e := Rat.divInt_mul_divInt a c (d₁ := b) (d₂ := d)
      rw [g6, g10] at e
      refine callE_S (callE_con (Φ := fun _ w' v w2 => RatC w2 (Nw (fun _ => False) w' w2) v (p * q)) (fun ρ w' r => e ▸ rlowest_c (a * c) (b * d) w' (by omega) (by omega) (mul_ne g3 g7)) ?_)
      rintro ρ wa3 v3 wb3 r he hb hn
      replace hw := hw.tr hb
      have hR := hn.got (S := fun _ => False) r.baseLe (iv := (wa3.heap.size, wb3.heap.size) :: iv2) List.mem_cons_self
      clear r he hb hn
      generalize (wa3.heap.size, wb3.heap.size) :: iv2 = iv3 at *
      obtain ⟨s3_0, s3_1, s3_2, s3_3, s3_4, s3_5, s3_6, s3_7, rfl⟩ := hR.shape
      conv => whnf
      intro ρe we re
      exact ⟨_, rfl, hw.tr re.bel, hR.out re (oldF w)⟩
    conv => whnf
    refine drawn_of_pi hτ hmix [.x 0, .x 2, .x 1, .x 3, .x 4, .x 5] (by kernel_rfl) (by kernel_rfl) ?_
    conv => whnf
    refine callE_con (Φ := fun _ w' v w2 => RatC w2 (Nw (fun _ => False) w' w2) v (p)) (fun ρ w' r => rNormal_c (Rel.old r hS) (hp.rel r hS)) ?_
    rintro ρ wa3 v3 wb3 r he hb hn
    replace hw := hw.tr hb
    clear hp
    replace hq := hq.past (iv' := (wa3.heap.size, wb3.heap.size) :: iv2) r hS he fun x hx => List.mem_cons_of_mem _ hx
    have hX := hn.got (S := fun _ => False) r.baseLe (iv := (wa3.heap.size, wb3.heap.size) :: iv2) List.mem_cons_self
    clear r he hb hn
    generalize (wa3.heap.size, wb3.heap.size) :: iv2 = iv3 at *
    obtain ⟨s3_0, s3_1, s3_2, s3_3, s3_4, s3_5, s3_6, s3_7, rfl⟩ := hX.shape
    conv => whnf
    refine callE_con (Φ := fun _ w' v w2 => RatC w2 (Nw (fun _ => False) w' w2) v (q)) (fun ρ w' r => rNormal_c (Rel.old r hS) (hq.rel r hS)) ?_
    rintro ρ wa4 v4 wb4 r he hb hn
    replace hw := hw.tr hb
    clear hq
    replace hX := hX.past (iv' := (wa4.heap.size, wb4.heap.size) :: iv3) r (oldF w) he fun x hx => List.mem_cons_of_mem _ hx
    have hY := hn.got (S := fun _ => False) r.baseLe (iv := (wa4.heap.size, wb4.heap.size) :: iv3) List.mem_cons_self
    clear r he hb hn
    generalize (wa4.heap.size, wb4.heap.size) :: iv3 = iv4 at *
    obtain ⟨s4_0, s4_1, s4_2, s4_3, s4_4, s4_5, s4_6, s4_7, rfl⟩ := hY.shape
    conv => whnf
    have hXn := hX.num
    have hXd := hX.den
    clear hX
    have hYn := hY.num
    have hYd := hY.den
    clear hY
    have m0 := ln_mul_abs p.num q.den
    have m1 := ln_mul_abs q.num p.den
    have m2 := ln_mul_abs (p.den : Int) q.den
    have m3 := ln_add_int (p.num * q.den) (q.num * p.den)
    have m4 := ln_mul_abs p.num q.num
    refine drawn_of_pi hτ hmix [.x 0, .x 1, .x 2, .x 3, .x 5, .x 6, .x 7, .x 8, .x 4, .x 9, .x 10, .x 11] (by kernel_rfl) (by kernel_rfl) ?_
    conv => whnf
    refine callE_con (Φ := fun _ w' v w2 => IntC w2 (Nw (fun _ => False) w' w2) v (p.num * q.num)) (fun ρ w' r => rProd_c (Rel.old r (oldF w)) ((hXn.rel r (oldF w)).l (k := 100000) (by omega)) ((hYn.rel r (oldF w)).l (k := 100000) (by omega)) (by omega) (by omega)) ?_
    rintro ρ wa5 v5 wb5 r he hb hn
    replace hw := hw.tr hb
    replace hXn := hXn.past (iv' := (wa5.heap.size, wb5.heap.size) :: iv4) r (oldF w) he fun x hx => List.mem_cons_of_mem _ hx
    replace hXd := hXd.past (iv' := (wa5.heap.size, wb5.heap.size) :: iv4) r (oldF w) he fun x hx => List.mem_cons_of_mem _ hx
    replace hYn := hYn.past (iv' := (wa5.heap.size, wb5.heap.size) :: iv4) r (oldF w) he fun x hx => List.mem_cons_of_mem _ hx
    replace hYd := hYd.past (iv' := (wa5.heap.size, wb5.heap.size) :: iv4) r (oldF w) he fun x hx => List.mem_cons_of_mem _ hx
    have hN := hn.got (S := fun _ => False) r.baseLe (iv := (wa5.heap.size, wb5.heap.size) :: iv4) List.mem_cons_self
    clear r he hb hn
    generalize (wa5.heap.size, wb5.heap.size) :: iv4 = iv5 at *
    obtain ⟨s5_0, s5_1, s5_2, s5_3, rfl⟩ := hN.shape
    conv => whnf
    refine callE_con (Φ := fun _ w' v w2 => IntC w2 (Nw (fun _ => False) w' w2) v ((p.den : Int) * (q.den : Int))) (fun ρ w' r => rProd_c (Rel.old r (oldF w)) ((hXd.rel r (oldF w)).l (k := 100000) (by omega)) ((hYd.rel r (oldF w)).l (k := 100000) (by omega)) (by omega) (by omega)) ?_
    rintro ρ wa6 v6 wb6 r he hb hn
    replace hw := hw.tr hb
    replace hXn := hXn.past (iv' := (wa6.heap.size, wb6.heap.size) :: iv5) r (oldF w) he fun x hx => List.mem_cons_of_mem _ hx
    replace hXd := hXd.past (iv' := (wa6.heap.size, wb6.heap.size) :: iv5) r (oldF w) he fun x hx => List.mem_cons_of_mem _ hx
    replace hYn := hYn.past (iv' := (wa6.heap.size, wb6.heap.size) :: iv5) r (oldF w) he fun x hx => List.mem_cons_of_mem _ hx
    replace hYd := hYd.past (iv' := (wa6.heap.size, wb6.heap.size) :: iv5) r (oldF w) he fun x hx => List.mem_cons_of_mem _ hx
    replace hN := hN.past (iv' := (wa6.heap.size, wb6.heap.size) :: iv5) r (oldF w) he fun x hx => List.mem_cons_of_mem _ hx
    have hD := hn.got (S := fun _ => False) r.baseLe (iv := (wa6.heap.size, wb6.heap.size) :: iv5) List.mem_cons_self
    clear r he hb hn
    generalize (wa6.heap.size, wb6.heap.size) :: iv5 = iv6 at *
    obtain ⟨s6_0, s6_1, s6_2, s6_3, rfl⟩ := hD.shape
    conv => whnf
    refine callE_con (Φ := fun _ w' v w2 => RatC w2 (Nw (fun _ => False) w' w2) v (p * q)) (fun ρ w' r => (rat_mul p q) ▸ rOver_c (Rel.old r (oldF w)) ((hN.rel r (oldF w)).l (k := 200001) (by omega)) ((hD.rel r (oldF w)).l (k := 200001) (by omega)) (by omega) (by omega) (mul_ne (den_ne p) (den_ne q))) ?_
    rintro ρ wa7 v7 wb7 r he hb hn
    replace hw := hw.tr hb
    clear hXn
    clear hXd
    clear hYn
    clear hYd
    clear hN
    clear hD
    have hR := hn.got (S := fun _ => False) r.baseLe (iv := (wa7.heap.size, wb7.heap.size) :: iv6) List.mem_cons_self
    clear r he hb hn
    generalize (wa7.heap.size, wb7.heap.size) :: iv6 = iv7 at *
    obtain ⟨s7_0, s7_1, s7_2, s7_3, s7_4, s7_5, s7_6, s7_7, rfl⟩ := hR.shape
    conv => whnf
    intro ρe we re
    exact ⟨_, rfl, hw.tr re.bel, hR.out re (oldF w)⟩
  conv => whnf
  refine drawn_of_pi hτ hmix [.x 0, .x 2, .x 1, .x 3, .x 4, .x 5] (by kernel_rfl) (by kernel_rfl) ?_
  conv => whnf
  refine callE_con (Φ := fun _ w' v w2 => RatC w2 (Nw (fun _ => False) w' w2) v (p)) (fun ρ w' r => rNormal_c (Rel.old r hS) (hp.rel r hS)) ?_
  rintro ρ wa3 v3 wb3 r he hb hn
  replace hw := hw.tr hb
  clear hp
  replace hq := hq.past (iv' := (wa3.heap.size, wb3.heap.size) :: iv2) r hS he fun x hx => List.mem_cons_of_mem _ hx
  have hX := hn.got (S := fun _ => False) r.baseLe (iv := (wa3.heap.size, wb3.heap.size) :: iv2) List.mem_cons_self
  clear r he hb hn
  generalize (wa3.heap.size, wb3.heap.size) :: iv2 = iv3 at *
  obtain ⟨s3_0, s3_1, s3_2, s3_3, s3_4, s3_5, s3_6, s3_7, rfl⟩ := hX.shape
  conv => whnf
  refine callE_con (Φ := fun _ w' v w2 => RatC w2 (Nw (fun _ => False) w' w2) v (q)) (fun ρ w' r => rNormal_c (Rel.old r hS) (hq.rel r hS)) ?_
  rintro ρ wa4 v4 wb4 r he hb hn
  replace hw := hw.tr hb
  clear hq
  replace hX := hX.past (iv' := (wa4.heap.size, wb4.heap.size) :: iv3) r (oldF w) he fun x hx => List.mem_cons_of_mem _ hx
  have hY := hn.got (S := fun _ => False) r.baseLe (iv := (wa4.heap.size, wb4.heap.size) :: iv3) List.mem_cons_self
  clear r he hb hn
  generalize (wa4.heap.size, wb4.heap.size) :: iv3 = iv4 at *
  obtain ⟨s4_0, s4_1, s4_2, s4_3, s4_4, s4_5, s4_6, s4_7, rfl⟩ := hY.shape
  conv => whnf
  have hXn := hX.num
  have hXd := hX.den
  clear hX
  have hYn := hY.num
  have hYd := hY.den
  clear hY
  have m0 := ln_mul_abs p.num q.den
  have m1 := ln_mul_abs q.num p.den
  have m2 := ln_mul_abs (p.den : Int) q.den
  have m3 := ln_add_int (p.num * q.den) (q.num * p.den)
  have m4 := ln_mul_abs p.num q.num
  refine drawn_of_pi hτ hmix [.x 0, .x 1, .x 2, .x 3, .x 5, .x 6, .x 7, .x 8, .x 4, .x 9, .x 10, .x 11] (by kernel_rfl) (by kernel_rfl) ?_
  conv => whnf
  refine callE_con (Φ := fun _ w' v w2 => IntC w2 (Nw (fun _ => False) w' w2) v (p.num * q.num)) (fun ρ w' r => rProd_c (Rel.old r (oldF w)) ((hXn.rel r (oldF w)).l (k := 100000) (by omega)) ((hYn.rel r (oldF w)).l (k := 100000) (by omega)) (by omega) (by omega)) ?_
  rintro ρ wa5 v5 wb5 r he hb hn
  replace hw := hw.tr hb
  replace hXn := hXn.past (iv' := (wa5.heap.size, wb5.heap.size) :: iv4) r (oldF w) he fun x hx => List.mem_cons_of_mem _ hx
  replace hXd := hXd.past (iv' := (wa5.heap.size, wb5.heap.size) :: iv4) r (oldF w) he fun x hx => List.mem_cons_of_mem _ hx
  replace hYn := hYn.past (iv' := (wa5.heap.size, wb5.heap.size) :: iv4) r (oldF w) he fun x hx => List.mem_cons_of_mem _ hx
  replace hYd := hYd.past (iv' := (wa5.heap.size, wb5.heap.size) :: iv4) r (oldF w) he fun x hx => List.mem_cons_of_mem _ hx
  have hN := hn.got (S := fun _ => False) r.baseLe (iv := (wa5.heap.size, wb5.heap.size) :: iv4) List.mem_cons_self
  clear r he hb hn
  generalize (wa5.heap.size, wb5.heap.size) :: iv4 = iv5 at *
  obtain ⟨s5_0, s5_1, s5_2, s5_3, rfl⟩ := hN.shape
  conv => whnf
  refine callE_con (Φ := fun _ w' v w2 => IntC w2 (Nw (fun _ => False) w' w2) v ((p.den : Int) * (q.den : Int))) (fun ρ w' r => rProd_c (Rel.old r (oldF w)) ((hXd.rel r (oldF w)).l (k := 100000) (by omega)) ((hYd.rel r (oldF w)).l (k := 100000) (by omega)) (by omega) (by omega)) ?_
  rintro ρ wa6 v6 wb6 r he hb hn
  replace hw := hw.tr hb
  replace hXn := hXn.past (iv' := (wa6.heap.size, wb6.heap.size) :: iv5) r (oldF w) he fun x hx => List.mem_cons_of_mem _ hx
  replace hXd := hXd.past (iv' := (wa6.heap.size, wb6.heap.size) :: iv5) r (oldF w) he fun x hx => List.mem_cons_of_mem _ hx
  replace hYn := hYn.past (iv' := (wa6.heap.size, wb6.heap.size) :: iv5) r (oldF w) he fun x hx => List.mem_cons_of_mem _ hx
  replace hYd := hYd.past (iv' := (wa6.heap.size, wb6.heap.size) :: iv5) r (oldF w) he fun x hx => List.mem_cons_of_mem _ hx
  replace hN := hN.past (iv' := (wa6.heap.size, wb6.heap.size) :: iv5) r (oldF w) he fun x hx => List.mem_cons_of_mem _ hx
  have hD := hn.got (S := fun _ => False) r.baseLe (iv := (wa6.heap.size, wb6.heap.size) :: iv5) List.mem_cons_self
  clear r he hb hn
  generalize (wa6.heap.size, wb6.heap.size) :: iv5 = iv6 at *
  obtain ⟨s6_0, s6_1, s6_2, s6_3, rfl⟩ := hD.shape
  conv => whnf
  refine callE_con (Φ := fun _ w' v w2 => RatC w2 (Nw (fun _ => False) w' w2) v (p * q)) (fun ρ w' r => (rat_mul p q) ▸ rOver_c (Rel.old r (oldF w)) ((hN.rel r (oldF w)).l (k := 200001) (by omega)) ((hD.rel r (oldF w)).l (k := 200001) (by omega)) (by omega) (by omega) (mul_ne (den_ne p) (den_ne q))) ?_
  rintro ρ wa7 v7 wb7 r he hb hn
  replace hw := hw.tr hb
  clear hXn
  clear hXd
  clear hYn
  clear hYd
  clear hN
  clear hD
  have hR := hn.got (S := fun _ => False) r.baseLe (iv := (wa7.heap.size, wb7.heap.size) :: iv6) List.mem_cons_self
  clear r he hb hn
  generalize (wa7.heap.size, wb7.heap.size) :: iv6 = iv7 at *
  obtain ⟨s7_0, s7_1, s7_2, s7_3, s7_4, s7_5, s7_6, s7_7, rfl⟩ := hR.shape
  conv => whnf
  intro ρe we re
  exact ⟨_, rfl, hw.tr re.bel, hR.out re (oldF w)⟩

theorem rNeg_c {S : Nat → Prop} {w : World} {v : Value} {p : Rat} (hS : Old S w) (hp : RatL w S v p) :
    Con PG N.ref01_Neg #[v] w (Ret w fun v' w2 => RatC w2 (Nw (fun _ => False) w w2) v' (-p)) := by
  have hw : Bel w.heap.size w w := Bel.refl
  replace hp := hp.weak (S' := Cv S w.heap.size []) fun _ h => .inl h
  obtain ⟨b1, a1, n1, c1, b2, a2, n2, c2, rfl⟩ := hp.shape
  refine in_ref01_Neg (by simp) ?_
  conv => whnf
  have r1 := hp.rl
  have u1 := rl_num p
  have u2 := rl_den' p
  refine callE_S (callE_con (Φ := fun _ w' v w2 => RatC w2 (Nw (fun _ => False) w' w2) v (p)) (fun ρ w' r => rNormal_c (Rel.old r hS) (hp.rel r hS)) ?_)
  rintro ρ wa1 v1 wb1 r he hb hn
  replace hw := hw.tr hb
  clear hp
  have hX := hn.got (S := fun _ => False) r.baseLe (iv := (wa1.heap.size, wb1.heap.size) :: []) List.mem_cons_self
  clear r he hb hn
  generalize (wa1.heap.size, wb1.heap.size) :: [] = iv1 at *
  obtain ⟨s1_0, s1_1, s1_2, s1_3, s1_4, s1_5, s1_6, s1_7, rfl⟩ := hX.shape
  conv => whnf
  have hXn := hX.num
  have hXd := hX.den
  clear hX
  refine drawn_of_pi hτ hmix [.x 0, .x 1, .x 3, .x 4, .x 2, .x 5, .x 6] (by kernel_rfl) (by kernel_rfl) ?_
  conv => whnf
  refine callE_con (Φ := fun _ w' v w2 => IntC w2 (Nw (fun _ => False) w' w2) v (-p.num)) (fun ρ w' r => rMinus_c (Rel.old r (oldF w)) ((hXn.rel r (oldF w)).l (k := 100000) (by omega)) (by omega)) ?_
  rintro ρ wa2 v2 wb2 r he hb hn
  replace hw := hw.tr hb
  clear hXn
  replace hXd := hXd.past (iv' := (wa2.heap.size, wb2.heap.size) :: iv1) r (oldF w) he fun x hx => List.mem_cons_of_mem _ hx
  have hN := hn.got (S := fun _ => False) r.baseLe (iv := (wa2.heap.size, wb2.heap.size) :: iv1) List.mem_cons_self
  clear r he hb hn
  generalize (wa2.heap.size, wb2.heap.size) :: iv1 = iv2 at *
  obtain ⟨s2_0, s2_1, s2_2, s2_3, rfl⟩ := hN.shape
  conv => whnf
  refine callE_con (Φ := fun _ w' v w2 => RatC w2 (Nw (fun _ => False) w' w2) v (-p)) (fun ρ w' r => show Con _ _ _ _ (Ret _ fun v w2 => RatC w2 _ v (-p)) from (show Rat.divInt (-p.num) p.den = -p by rw [← Rat.neg_divInt, Rat.num_divInt_den]) ▸ rOver_c (Rel.old r (oldF w)) ((hN.rel r (oldF w)).l (k := 100000) (by rw [Int.natAbs_neg]; omega)) ((hXd.rel r (oldF w)).l (k := 100000) (by omega)) (by omega) (by omega) (den_ne p)) ?_
  rintro ρ wa3 v3 wb3 r he hb hn
  replace hw := hw.tr hb
  clear hXd
  clear hN
  have hR := hn.got (S := fun _ => False) r.baseLe (iv := (wa3.heap.size, wb3.heap.size) :: iv2) List.mem_cons_self
  clear r he hb hn
  generalize (wa3.heap.size, wb3.heap.size) :: iv2 = iv3 at *
  obtain ⟨s3_0, s3_1, s3_2, s3_3, s3_4, s3_5, s3_6, s3_7, rfl⟩ := hR.shape
  conv => whnf
  intro ρe we re
  exact ⟨_, rfl, hw.tr re.bel, hR.out re (oldF w)⟩

theorem rSub_c {S : Nat → Prop} {w : World} {v u : Value} {p q : Rat} (hS : Old S w) (hp : RatL w S v p) (hq : RatL w S u q) :
    Con PG N.ref01_Sub #[v, u] w (Ret w fun v' w2 => RatC w2 (Nw (fun _ => False) w w2) v' (p - q)) := by
  have hw : Bel w.heap.size w w := Bel.refl
  replace hp := hp.weak (S' := Cv S w.heap.size []) fun _ h => .inl h
  replace hq := hq.weak (S' := Cv S w.heap.size []) fun _ h => .inl h
  obtain ⟨b1, a1, n1, c1, b2, a2, n2, c2, rfl⟩ := hp.shape
  obtain ⟨b3, a3, n3, c3, b4, a4, n4, c4, rfl⟩ := hq.shape
  refine in_ref01_Sub (by simp) ?_
  conv => whnf
  have r1 := hp.rl
  have r2 := hq.rl
  have u1 := rl_neg q
  refine drawn_of_pi hτ hmix [.x 0, .x 1, .x 2, .x 3, .x 4] (by kernel_rfl) (by kernel_rfl) ?_
  conv => whnf
  refine callE_con (Φ := fun _ w' v w2 => RatC w2 (Nw (fun _ => False) w' w2) v (-q)) (fun ρ w' r => rNeg_c (Rel.old r hS) (hq.rel r hS)) ?_
  rintro ρ wa1 v1 wb1 r he hb hn
  replace hw := hw.tr hb
  replace hp := hp.past (iv' := (wa1.heap.size, wb1.heap.size) :: []) r hS he fun x hx => List.mem_cons_of_mem _ hx
  clear hq
  have hN := hn.got (S := fun _ => False) r.baseLe (iv := (wa1.heap.size, wb1.heap.size) :: []) List.mem_cons_self
  clear r he hb hn
  generalize (wa1.heap.size, wb1.heap.size) :: [] = iv1 at *
  obtain ⟨s1_0, s1_1, s1_2, s1_3, s1_4, s1_5, s1_6, s1_7, rfl⟩ := hN.shape
  conv => whnf
  refine callE_con (Φ := fun _ w' v w2 => RatC w2 (Nw (fun _ => False) w' w2) v (p - q)) (fun ρ w' r => (Rat.sub_eq_add_neg p q) ▸ rAdd_c (Rel.old r hS) (hp.rel r hS) (((hN.rel r (oldF w)).l (by omega)).weak fun g hg => Cv.false hg)) ?_
  rintro ρ wa2 v2 wb2 r he hb hn
  replace hw := hw.tr hb
  clear hp
  clear hN
  have hR := hn.got (S := fun _ => False) r.baseLe (iv := (wa2.heap.size, wb2.heap.size) :: iv1) List.mem_cons_self
  clear r he hb hn
  generalize (wa2.heap.size, wb2.heap.size) :: iv1 = iv2 at *
  obtain ⟨s2_0, s2_1, s2_2, s2_3, s2_4, s2_5, s2_6, s2_7, rfl⟩ := hR.shape
  conv => whnf
  intro ρe we re
  exact ⟨_, rfl, hw.tr re.bel, hR.out re (oldF w)⟩

theorem rCmp_c {S : Nat → Prop} {w : World} {v u : Value} {p q : Rat} (hS : Old S w) (hp : RatL w S v p) (hq : RatL w S u q) :
    Con PG N.ref01_Cmp #[v, u] w (Ret w fun v' _ => v' = .int .i64 (rs (p - q))) := by
  have hw : Bel w.heap.size w w := Bel.refl
  replace hp := hp.weak (S' := Cv S w.heap.size []) fun _ h => .inl h
  replace hq := hq.weak (S' := Cv S w.heap.size []) fun _ h => .inl h
  obtain ⟨b1, a1, n1, c1, b2, a2, n2, c2, rfl⟩ := hp.shape
  obtain ⟨b3, a3, n3, c3, b4, a4, n4, c4, rfl⟩ := hq.shape
  refine in_ref01_Cmp (by simp) ?_
  conv => whnf
  refine callE_S (callE_con (Φ := fun _ w' v w2 => RatC w2 (Nw (fun _ => False) w' w2) v (p - q)) (fun ρ w' r => rSub_c (Rel.old r hS) (hp.rel r hS) (hq.rel r hS)) ?_)
  rintro ρ wa1 v1 wb1 r he hb hn
  replace hw := hw.tr hb
  clear hp
  clear hq
  have hR := hn.got (S := fun _ => False) r.baseLe (iv := (wa1.heap.size, wb1.heap.size) :: []) List.mem_cons_self
  clear r he hb hn
  generalize (wa1.heap.size, wb1.heap.size) :: [] = iv1 at *
  obtain ⟨s1_0, s1_1, s1_2, s1_3, s1_4, s1_5, s1_6, s1_7, rfl⟩ := hR.shape
  conv => whnf
  refine callE_S (callE_con (Φ := fun _ w' v w2 => v = .int .i64 (rs (p - q))) (fun ρ w' r => rSignOf_c (Rel.old r (oldF w)) (hR.rel r (oldF w))) ?_)
  rintro ρ wa2 v2 wb2 r he hb rfl
  replace hw := hw.tr hb
  clear hR
  clear r he hb
  generalize (wa2.heap.size, wb2.heap.size) :: iv1 = iv2 at *
  conv => whnf
  intro ρe we re
  exact ⟨_, rfl, hw.tr re.bel, rfl⟩

theorem rQuo_c {S : Nat → Prop} {w : World} {v u : Value} {p q : Rat} (hS : Old S w) (hp : RatL w S v p) (hq : RatL w S u q) :
    Con PG N.ref01_Quo #[v, u] w (Ret w fun v' w2 => (q = 0 ∧ v' = .tuple #[ratNil, .int .i64 9]) ∨ (q ≠ 0 ∧ ∃ r, v' = .tuple #[r, .int .i64 0] ∧ RatC w2 (Nw (fun _ => False) w w2) r (p / q))) := by
  have hw : Bel w.heap.size w w := Bel.refl
  replace hp := hp.weak (S' := Cv S w.heap.size []) fun _ h => .inl h
  replace hq := hq.weak (S' := Cv S w.heap.size []) fun _ h => .inl h
  obtain ⟨b1, a1, n1, c1, b2, a2, n2, c2, rfl⟩ := hp.shape
  obtain ⟨b3, a3, n3, c3, b4, a4, n4, c4, rfl⟩ := hq.shape
  refine in_ref01_Quo (by simp) ?_
  conv => whnf
  have r1 := hp.rl
  have r2 := hq.rl
  have u1 := rl_num p
  have u2 := rl_den' p
  have u3 := rl_num q
  have u4 := rl_den' q
  have m0 := ln_mul_abs p.num q.den
  have m1 := ln_mul_abs (p.den : Int) q.num
  refine drawn_of_pi hτ hmix [.x 0, .x 2, .x 1, .x 3, .x 4, .x 5] (by kernel_rfl) (by kernel_rfl) ?_
  conv => whnf
  refine callE_con (Φ := fun _ w' v w2 => RatC w2 (Nw (fun _ => False) w' w2) v (p)) (fun ρ w' r => rNormal_c (Rel.old r hS) (hp.rel r hS)) ?_
  rintro ρ wa1 v1 wb1 r he hb hn
  replace hw := hw.tr hb
  clear hp
  replace hq := hq.past (iv' := (wa1.heap.size, wb1.heap.size) :: []) r hS he fun x hx => List.mem_cons_of_mem _ hx
  have hX := hn.got (S := fun _ => False) r.baseLe (iv := (wa1.heap.size, wb1.heap.size) :: []) List.mem_cons_self
  clear r he hb hn
  generalize (wa1.heap.size, wb1.heap.size) :: [] = iv1 at *
  obtain ⟨s1_0, s1_1, s1_2, s1_3, s1_4, s1_5, s1_6, s1_7, rfl⟩ := hX.shape
  conv => whnf
  refine callE_con (Φ := fun _ w' v w2 => RatC w2 (Nw (fun _ => False) w' w2) v (q)) (fun ρ w' r => rNormal_c (Rel.old r hS) (hq.rel r hS)) ?_
  rintro ρ wa2 v2 wb2 r he hb hn
  replace hw := hw.tr hb
  clear hq
  replace hX := hX.past (iv' := (wa2.heap.size, wb2.heap.size) :: iv1) r (oldF w) he fun x hx => List.mem_cons_of_mem _ hx
  have hY := hn.got (S := fun _ => False) r.baseLe (iv := (wa2.heap.size, wb2.heap.size) :: iv1) List.mem_cons_self
  clear r he hb hn
  generalize (wa2.heap.size, wb2.heap.size) :: iv1 = iv2 at *
  obtain ⟨s2_0, s2_1, s2_2, s2_3, s2_4, s2_5, s2_6, s2_7, rfl⟩ := hY.shape
  conv => whnf
  refine callE_S (callE_con (Φ := fun _ w' v w2 => v = .int .i64 (rs q)) (fun ρ w' r => rSignOf_c (Rel.old r (oldF w)) (hY.rel r (oldF w))) ?_)
  rintro ρ wa3 v3 wb3 r he hb rfl
  replace hw := hw.tr hb
  replace hX := hX.past (iv' := (wa3.heap.size, wb3.heap.size) :: iv2) r (oldF w) he fun x hx => List.mem_cons_of_mem _ hx
  replace hY := hY.past (iv' := (wa3.heap.size, wb3.heap.size) :: iv2) r (oldF w) he fun x hx => List.mem_cons_of_mem _ hx
  clear r he hb
  generalize (wa3.heap.size, wb3.heap.size) :: iv2 = iv3 at *
  conv => whnf
  refine BrS.mk (fun h => ?_) (fun h => ?_)
  · have h : rs q = 0 := by simpa using h
    conv => whnf
    intro ρe we re
    exact ⟨_, rfl, hw.tr re.bel, .inl ⟨rs_zero.1 h, rfl⟩⟩
  have h : q ≠ 0 := fun e => by rw [e] at h; exact absurd h (by decide)
  have hqn : q.num ≠ 0 := fun e => h (Rat.num_eq_zero.1 e)
  conv => whnf
  have hXn := hX.num
  have hXd := hX.den
  clear hX
  have hYn := hY.num
  have hYd := hY.den
  clear hY
  refine drawn_of_pi hτ hmix [.x 0, .x 1, .x 2, .x 3, .x 5, .x 6, .x 7, .x 8, .x 4, .x 9, .x 10, .x 11, .x 12] (by kernel_rfl) (by kernel_rfl) ?_
  conv => whnf
  refine callE_con (Φ := fun _ w' v w2 => IntC w2 (Nw (fun _ => False) w' w2) v (p.num * (q.den : Int))) (fun ρ w' r => rProd_c (Rel.old r (oldF w)) ((hXn.rel r (oldF w)).l (k := 100000) (by omega)) ((hYd.rel r (oldF w)).l (k := 100000) (by omega)) (by omega) (by omega)) ?_
  rintro ρ wa4 v4 wb4 r he hb hn
  replace hw := hw.tr hb
  clear hXn
  replace hXd := hXd.past (iv' := (wa4.heap.size, wb4.heap.size) :: iv3) r (oldF w) he fun x hx => List.mem_cons_of_mem _ hx
  replace hYn := hYn.past (iv' := (wa4.heap.size, wb4.heap.size) :: iv3) r (oldF w) he fun x hx => List.mem_cons_of_mem _ hx
  clear hYd
  have hN := hn.got (S := fun _ => False) r.baseLe (iv := (wa4.heap.size, wb4.heap.size) :: iv3) List.mem_cons_self
  clear r he hb hn
  generalize (wa4.heap.size, wb4.heap.size) :: iv3 = iv4 at *
  obtain ⟨s4_0, s4_1, s4_2, s4_3, rfl⟩ := hN.shape
  conv => whnf
  refine callE_con (Φ := fun _ w' v w2 => IntC w2 (Nw (fun _ => False) w' w2) v ((p.den : Int) * q.num)) (fun ρ w' r => rProd_c (Rel.old r (oldF w)) ((hXd.rel r (oldF w)).l (k := 100000) (by omega)) ((hYn.rel r (oldF w)).l (k := 100000) (by omega)) (by omega) (by omega)) ?_
  rintro ρ wa5 v5 wb5 r he hb hn
  replace hw := hw.tr hb
  clear hXd
  clear hYn
  replace hN := hN.past (iv' := (wa5.heap.size, wb5.heap.size) :: iv4) r (oldF w) he fun x hx => List.mem_cons_of_mem _ hx
  have hD := hn.got (S := fun _ => False) r.baseLe (iv := (wa5.heap.size, wb5.heap.size) :: iv4) List.mem_cons_self
  clear r he hb hn
  generalize (wa5.heap.size, wb5.heap.size) :: iv4 = iv5 at *
  obtain ⟨s5_0, s5_1, s5_2, s5_3, rfl⟩ := hD.shape
  conv => whnf
  refine callE_con (Φ := fun _ w' v w2 => RatC w2 (Nw (fun _ => False) w' w2) v (p / q)) (fun ρ w' r => (rat_div p q) ▸ rOver_c (Rel.old r (oldF w)) ((hN.rel r (oldF w)).l (k := 200001) (by omega)) ((hD.rel r (oldF w)).l (k := 200001) (by omega)) (by omega) (by omega) (mul_ne (den_ne p) hqn)) ?_
  rintro ρ wa6 v6 wb6 r he hb hn
  replace hw := hw.tr hb
  clear hN
  clear hD
  have hR := hn.got (S := fun _ => False) r.baseLe (iv := (wa6.heap.size, wb6.heap.size) :: iv5) List.mem_cons_self
  clear r he hb hn
  generalize (wa6.heap.size, wb6.heap.size) :: iv5 = iv6 at *
  obtain ⟨s6_0, s6_1, s6_2, s6_3, s6_4, s6_5, s6_6, s6_7, rfl⟩ := hR.shape
  conv => whnf
  intro ρe we re
  exact ⟨_, rfl, hw.tr re.bel, .inr ⟨h, _, rfl, hR.out re (oldF w)⟩⟩

theorem rFloor_c {S : Nat → Prop} {w : World} {v : Value} {p : Rat} (hS : Old S w) (hp : RatL w S v p) :
    Con PG N.ref01_Floor #[v] w (Ret w fun v' w2 => IntC w2 (Nw (fun _ => False) w w2) v' (p.num / p.den)) := by
  have hw : Bel w.heap.size w w := Bel.refl
  replace hp := hp.weak (S' := Cv S w.heap.size []) fun _ h => .inl h
  obtain ⟨b1, a1, n1, c1, b2, a2, n2, c2, rfl⟩ := hp.shape
  refine in_ref01_Floor (by simp) ?_
  conv => whnf
  have r1 := hp.rl
  have u1 := rl_num p
  have u2 := rl_den' p
  refine callE_S (callE_con (Φ := fun _ w' v w2 => RatC w2 (Nw (fun _ => False) w' w2) v (p)) (fun ρ w' r => rNormal_c (Rel.old r hS) (hp.rel r hS)) ?_)
  rintro ρ wa1 v1 wb1 r he hb hn
  replace hw := hw.tr hb
  clear hp
  have hX := hn.got (S := fun _ => False) r.baseLe (iv := (wa1.heap.size, wb1.heap.size) :: []) List.mem_cons_self
  clear r he hb hn
  generalize (wa1.heap.size, wb1.heap.size) :: [] = iv1 at *
  obtain ⟨s1_0, s1_1, s1_2, s1_3, s1_4, s1_5, s1_6, s1_7, rfl⟩ := hX.shape
  conv => whnf
  have hXn := hX.num
  have hXd := hX.den
  clear hX
  refine callE_S (callE_con (Φ := fun _ w' v w2 => ∃ q r, v = .tuple #[q, r, .int .i64 0] ∧ IntC w2 (Nw (fun _ => False) w' w2) q (p.num / p.den) ∧ IntC w2 (Nw (fun _ => False) w' w2) r (p.num % p.den)) (fun ρ w' r => rDivNon_c (Rel.old r (oldF w)) ((hXn.rel r (oldF w)).l (k := 100000) (by omega)) ((hXd.rel r (oldF w)).l (k := 100000) (by omega)) (by omega) (by omega) (den_ne p)) ?_)
  rintro ρ wa2 v2 wb2 r he hb ⟨q, rr, rfl, k1, k2⟩
  replace hw := hw.tr hb
  clear hXn
  clear hXd
  have hq := k1.got (S := fun _ => False) r.baseLe (iv := (wa2.heap.size, wb2.heap.size) :: iv1) List.mem_cons_self
  have hr := k2.got (S := fun _ => False) r.baseLe (iv := (wa2.heap.size, wb2.heap.size) :: iv1) List.mem_cons_self
  clear r he hb
  generalize (wa2.heap.size, wb2.heap.size) :: iv1 = iv2 at *
  obtain ⟨s2_0a, s2_0b, s2_0c, s2_0d, rfl⟩ := hq.shape
  obtain ⟨s2_1a, s2_1b, s2_1c, s2_1d, rfl⟩ := hr.shape
  clear k1 k2 hr
  conv => whnf
  intro ρe we re
  exact ⟨_, rfl, hw.tr re.bel, hq.out re (oldF w)⟩

theorem rWholeAll_c (n : Int) (w : World) (h1n : -9223372036854775808 ≤ n) (h2n : n ≤ 9223372036854775807) :
    Con PG N.ref01_Whole #[.int .i64 n] w (Ret w fun v' w2 => RatC w2 (Nw (fun _ => False) w w2) v' (n : Rat)) := by
  have hw : Bel w.heap.size w w := Bel.refl
  have ha := ln_small h1n h2n
  refine in_ref01_Whole (by simp) ?_
  conv => whnf
  refine callE_S (callE_con (Φ := fun _ w' v w2 => IntC w2 (Nw (fun _ => False) w' w2) v (n)) (fun ρ w' r => rOf_c n w' h1n h2n) ?_)
  rintro ρ wa1 v1 wb1 r he hb hn
  replace hw := hw.tr hb
  have hA := hn.got (S := fun _ => False) r.baseLe (iv := (wa1.heap.size, wb1.heap.size) :: []) List.mem_cons_self
  clear r he hb hn
  generalize (wa1.heap.size, wb1.heap.size) :: [] = iv1 at *
  obtain ⟨s1_0, s1_1, s1_2, s1_3, rfl⟩ := hA.shape
  conv => whnf
  refine callE_S (callE_con (Φ := fun _ w' v w2 => IntC w2 (Nw (fun _ => False) w' w2) v (1)) (fun ρ w' r => rOf_c 1 w' (by decide) (by decide)) ?_)
  rintro ρ wa2 v2 wb2 r he hb hn
  replace hw := hw.tr hb
  replace hA := hA.past (iv' := (wa2.heap.size, wb2.heap.size) :: iv1) r (oldF w) he fun x hx => List.mem_cons_of_mem _ hx
  have hB := hn.got (S := fun _ => False) r.baseLe (iv := (wa2.heap.size, wb2.heap.size) :: iv1) List.mem_cons_self
  clear r he hb hn
  generalize (wa2.heap.size, wb2.heap.size) :: iv1 = iv2 at *
  obtain ⟨s2_0, s2_1, s2_2, s2_3, rfl⟩ := hB.shape
  conv => whnf
  refine callE_S (callE_con (Φ := fun _ w' v w2 => RatC w2 (Nw (fun _ => False) w' w2) v ((n : Rat))) (fun ρ w' r => (divInt_one n) ▸ rOver_c (Rel.old r (oldF w)) ((hA.rel r (oldF w)).l (k := 2) (by omega)) ((hB.rel r (oldF w)).l (k := 2) (by decide)) (by omega) (by omega) (by decide)) ?_)
  rintro ρ wa3 v3 wb3 r he hb hn
  replace hw := hw.tr hb
  clear hA
  clear hB
  have hR := hn.got (S := fun _ => False) r.baseLe (iv := (wa3.heap.size, wb3.heap.size) :: iv2) List.mem_cons_self
  clear r he hb hn
  generalize (wa3.heap.size, wb3.heap.size) :: iv2 = iv3 at *
  obtain ⟨s3_0, s3_1, s3_2, s3_3, s3_4, s3_5, s3_6, s3_7, rfl⟩ := hR.shape
  conv => whnf
  intro ρe we re
  exact ⟨_, rfl, hw.tr re.bel, hR.out re (oldF w)⟩

theorem rRatio_c (a b : Int) (w : World) (h1a : -9223372036854775808 ≤ a) (h2a : a ≤ 9223372036854775807) (h1b : -9223372036854775808 ≤ b) (h2b : b ≤ 9223372036854775807) :
    Con PG N.ref01_Ratio #[.int .i64 a, .int .i64 b] w (Ret w fun v' w2 => (b = 0 ∧ v' = .tuple #[ratNil, .int .i64 9]) ∨ (b ≠ 0 ∧ ∃ q, v' = .tuple #[q, .int .i64 0] ∧ RatC w2 (Nw (fun _ => False) w w2) q (Rat.divInt a b))) := by
  have hw : Bel w.heap.size w w := Bel.refl
  have ha := ln_small h1a h2a
  have hb' := ln_small h1b h2b
  refine in_ref01_Ratio (by simp) ?_
  conv => whnf
  refine BrS.mk (fun h => ?_) (fun h => ?_)
  · have h : b = 0 := by simpa using h
    conv => whnf
    intro ρe we re
    exact ⟨_, rfl, hw.tr re.bel, .inl ⟨h, rfl⟩⟩
  have h : b ≠ 0 := by simpa using h
  conv => whnf
  refine callE_S (callE_con (Φ := fun _ w' v w2 => IntC w2 (Nw (fun _ => False) w' w2) v (a)) (fun ρ w' r => rOf_c a w' h1a h2a) ?_)
  rintro ρ wa1 v1 wb1 r he hb hn
  replace hw := hw.tr hb
  have hA := hn.got (S := fun _ => False) r.baseLe (iv := (wa1.heap.size, wb1.heap.size) :: []) List.mem_cons_self
  clear r he hb hn
  generalize (wa1.heap.size, wb1.heap.size) :: [] = iv1 at *
  obtain ⟨s1_0, s1_1, s1_2, s1_3, rfl⟩ := hA.shape
  conv => whnf
  refine callE_S (callE_con (Φ := fun _ w' v w2 => IntC w2 (Nw (fun _ => False) w' w2) v (b)) (fun ρ w' r => rOf_c b w' h1b h2b) ?_)
  rintro ρ wa2 v2 wb2 r he hb hn
  replace hw := hw.tr hb
  replace hA := hA.past (iv' := (wa2.heap.size, wb2.heap.size) :: iv1) r (oldF w) he fun x hx => List.mem_cons_of_mem _ hx
  have hB := hn.got (S := fun _ => False) r.baseLe (iv := (wa2.heap.size, wb2.heap.size) :: iv1) List.mem_cons_self
  clear r he hb hn
  generalize (wa2.heap.size, wb2.heap.size) :: iv1 = iv2 at *
  obtain ⟨s2_0, s2_1, s2_2, s2_3, rfl⟩ := hB.shape
  conv => whnf
  refine callE_S (callE_con (Φ := fun _ w' v w2 => RatC w2 (Nw (fun _ => False) w' w2) v (Rat.divInt a b)) (fun ρ w' r => rOver_c (Rel.old r (oldF w)) ((hA.rel r (oldF w)).l (k := 2) (by omega)) ((hB.rel r (oldF w)).l (k := 2) (by omega)) (by omega) (by omega) h) ?_)
  rintro ρ wa3 v3 wb3 r he hb hn
  replace hw := hw.tr hb
  clear hA
  clear hB
  have hR := hn.got (S := fun _ => False) r.baseLe (iv := (wa3.heap.size, wb3.heap.size) :: iv2) List.mem_cons_self
  clear r he hb hn
  generalize (wa3.heap.size, wb3.heap.size) :: iv2 = iv3 at *
  obtain ⟨s3_0, s3_1, s3_2, s3_3, s3_4, s3_5, s3_6, s3_7, rfl⟩ := hR.shape
  conv => whnf
  intro ρe we re
  exact ⟨_, rfl, hw.tr re.bel, .inr ⟨h, _, rfl, hR.out re (oldF w)⟩⟩

end Go.Ex

/- ExactFractions of the laws of chapter 1. Printed by program. No condition. -/
namespace Go.Ex
open Go Go.Sx Go.Proofs

/-- two integers in normal form: a fraction as it stands -/
def RatD (w : World) (S : Nat → Prop) (v : Value) (a b : Int) : Prop := ∃ b1 l1 b2 l2, v = .agg #[.bool b1, l1, .bool b2, l2] ∧ IntC w S (.agg #[.bool b1, l1]) a ∧ IntC w S (.agg #[.bool b2, l2]) b
theorem RatD.keep {S : Nat → Prop} {w w2 : World} {v : Value} {a b : Int} (h : RatD w S v a b) (hk : ∀ g, S g → w2.heap[g]? = w.heap[g]?) : RatD w2 S v a b := by
  obtain ⟨b1, l1, b2, l2, h1, h2, h3⟩ := h; exact ⟨b1, l1, b2, l2, h1, h2.keep hk, h3.keep hk⟩
theorem RatD.weak {S S' : Nat → Prop} {w : World} {v : Value} {a b : Int} (h : RatD w S v a b) (hk : ∀ g, S g → S' g) : RatD w S' v a b := by
  obtain ⟨b1, l1, b2, l2, h1, h2, h3⟩ := h; exact ⟨b1, l1, b2, l2, h1, h2.weak hk, h3.weak hk⟩
theorem RatD.shape {S : Nat → Prop} {w : World} {v : Value} {x y : Int} (h : RatD w S v x y) : ∃ b a n c b2 a2 n2 c2, v = .agg #[.bool b, .slice a n c, .bool b2, .slice a2 n2 c2] := by
  obtain ⟨b1, l1, b2, l2, h1, h2, h3⟩ := h; exact RatR.shape ⟨b1, l1, b2, l2, h1, h2.r, h3.r⟩
theorem RatC.d {S : Nat → Prop} {w : World} {v : Value} {q : Rat} (h : RatC w S v q) : RatD w S v q.num q.den := h
theorem RatD.nil (w : World) (S : Nat → Prop) : RatD w S ratNil 0 0 := ⟨_, _, _, _, rfl, IntC.nil w S, IntC.nil w S⟩
section
variable {S S' : Nat → Prop} {H : Hp} {nx : Nat} {iv iv' : Iv} {B : Nat} {w w' w2 : World} {ρ : Nat → Sx.Val} {v : Value} {a : Int} {b : Int}
theorem RatD.rel (h : RatD w (Cv S B iv) v a b) (r : Rel H nx iv B w ρ w') (hS : ∀ g, S g → g < B) : RatD w' (Cv S B iv) v a b := h.keep fun _ hg => Rel.same r hS hg
theorem RatD.past (h : RatD w (Cv S B iv) v a b) (r : Rel H nx iv B w ρ w') (hS : ∀ g, S g → g < B) (he : Ext w' w2) (hm : ∀ p, p ∈ iv → p ∈ iv') : RatD w2 (Cv S B iv') v a b :=
  ((h.rel r hS).keep fun g hg => he.block g (Rel.old r hS g hg)).weak fun _ hg => hg.mono hm
theorem RatD.got (h : RatD w2 (Nw (fun _ => False) w' w2) v a b) (hB : B ≤ w'.heap.size) (hm : (w'.heap.size, w2.heap.size) ∈ iv) : RatD w2 (Cv S B iv) v a b := h.weak fun _ hg => hg.got hB hm
theorem RatD.old (h : RatD w2 (Nw (Cv S B iv) w' w2) v a b) (hB : B ≤ w'.heap.size) : RatD w2 (Cv S B ((w'.heap.size, w2.heap.size) :: iv)) v a b := h.weak fun _ hg => Nw.cv hg hB
theorem RatD.out {w0 w1 : World} (h : RatD w1 (Cv S w0.heap.size iv) v a b) (r : Rel H nx iv w0.heap.size w1 ρ w') (hS : Old S w0) : RatD w' (Nw S w0 w') v a b :=
  (h.rel r hS).weak fun _ hg => Cv.nw hg r
theorem RatD.arg (h : RatD w S v a b) (iv : Iv) : RatD w (Cv S w.heap.size iv) v a b := h.weak fun _ h => .inl h
end

theorem IntR.short {S : Nat → Prop} {w : World} {b : Bool} {a : Option Addr} {n c k : Nat} {z : Int} (h : IntR w S (.agg #[.bool b, .slice a n c]) z) (hk : n ≤ k) : IntL w S (.agg #[.bool b, .slice a n c]) k z := by
  obtain ⟨b2, ls, ⟨lv, e1, h3⟩, h2⟩ := h
  obtain ⟨a2, c2, e2, _⟩ := h3.sl
  subst e2
  simp only [Value.agg.injEq, Array.mk.injEq, List.cons.injEq, Value.bool.injEq, Value.slice.injEq, and_true] at e1
  obtain ⟨rfl, rfl, e3, rfl⟩ := e1
  exact ⟨_, ls, ⟨_, by rw [e3], h3⟩, h2, by omega⟩
theorem RatR.shortL {S : Nat → Prop} {w : World} {b1 b2 : Bool} {a1 a2 : Option Addr} {n1 n2 c1 c2 : Nat} {a b : Int} (h : RatR w S (.agg #[.bool b1, .slice a1 n1 c1, .bool b2, .slice a2 n2 c2]) a b) (k1 : n1 ≤ 3) (k2 : n2 ≤ 3) :
    RatL w S (.agg #[.bool b1, .slice a1 n1 c1, .bool b2, .slice a2 n2 c2]) (ratio a b) ∧ rl (ratio a b) ≤ 3 := by
  obtain ⟨b1, l1, b2, l2, e, h1, h2⟩ := h
  simp only [Value.agg.injEq, Array.mk.injEq, List.cons.injEq, Value.bool.injEq, and_true] at e
  obtain ⟨rfl, rfl, rfl, rfl⟩ := e
  have i1 := h1.short k1
  have i2 := h2.short k2
  have q1 := i1.ln
  have q2 := i2.ln
  have q3 := rl_ratio a b
  exact ⟨⟨_, _, _, _, a, b, rfl, i1.up (by omega), i2.up (by omega), rfl⟩, by omega⟩
theorem sameD_c {S : Nat → Prop} {w : World} {v u : Value} {a b c d : Int} (hS : Old S w) (hx : RatD w S v a b) (hy : RatD w S u c d) :
    Con PG N.ref01_Same #[v, u] w (Ret w fun v' _ => v' = .bool (decide (a = c ∧ b = d))) := by
  have hw : Bel w.heap.size w w := Bel.refl
  obtain ⟨b1, l1, b2, l2, rfl, ha, hb'⟩ := hx
  obtain ⟨b3, l3, b4, l4, rfl, hc, hd⟩ := hy
  obtain ⟨_, a1, n1, c1, e1⟩ := ha.shape
  simp only [Value.agg.injEq, Array.mk.injEq, List.cons.injEq, and_true] at e1
  obtain ⟨_, rfl⟩ := e1
  obtain ⟨_, a2, n2, c2, e2⟩ := hb'.shape
  simp only [Value.agg.injEq, Array.mk.injEq, List.cons.injEq, and_true] at e2
  obtain ⟨_, rfl⟩ := e2
  obtain ⟨_, a3, n3, c3, e3⟩ := hc.shape
  simp only [Value.agg.injEq, Array.mk.injEq, List.cons.injEq, and_true] at e3
  obtain ⟨_, rfl⟩ := e3
  obtain ⟨_, a4, n4, c4, e4⟩ := hd.shape
  simp only [Value.agg.injEq, Array.mk.injEq, List.cons.injEq, and_true] at e4
  obtain ⟨_, rfl⟩ := e4
  replace ha := ha.weak (S' := Cv S w.heap.size []) fun _ h => .inl h
  replace hb' := hb'.weak (S' := Cv S w.heap.size []) fun _ h => .inl h
  replace hc := hc.weak (S' := Cv S w.heap.size []) fun _ h => .inl h
  replace hd := hd.weak (S' := Cv S w.heap.size []) fun _ h => .inl h
  refine in_ref01_Same (by simp) ?_
  conv => whnf
  refine callE_S (callE_con (Φ := fun _ w' v w2 => v = .bool (decide (a = c))) (fun ρ w' r => sameInt_c (Rel.old r hS) (ha.rel r hS) (hc.rel r hS)) ?_)
  rintro ρ wa1 v1 wb1 r he hb rfl
  replace hw := hw.tr hb
  clear ha
  replace hb' := hb'.past (iv' := (wa1.heap.size, wb1.heap.size) :: []) r hS he fun x hx => List.mem_cons_of_mem _ hx
  clear hc
  replace hd := hd.past (iv' := (wa1.heap.size, wb1.heap.size) :: []) r hS he fun x hx => List.mem_cons_of_mem _ hx
  clear r he hb
  generalize (wa1.heap.size, wb1.heap.size) :: [] = iv1 at *
  conv => whnf
  refine BrS.mk (fun h => ?_) (fun h => ?_)
  · have h := of_decide_eq_true h
    conv => whnf
    refine callE_S (callE_con (Φ := fun _ w' v w2 => v = .bool (decide (b = d))) (fun ρ w' r => sameInt_c (Rel.old r hS) (hb'.rel r hS) (hd.rel r hS)) ?_)
    rintro ρ wa2 v2 wb2 r he hb rfl
    replace hw := hw.tr hb
    clear hb'
    clear hd
    clear r he hb
    generalize (wa2.heap.size, wb2.heap.size) :: iv1 = iv2 at *
    conv => whnf
    intro ρe we re
    exact ⟨_, rfl, hw.tr re.bel, by rw [show decide (a = c ∧ b = d) = decide (b = d) by simp [h]]; rfl⟩
  have h := of_decide_eq_false h
  conv => whnf
  intro ρe we re
  exact ⟨_, rfl, hw.tr re.bel, by rw [decide_eq_false (fun e => h e.1)]; rfl⟩
/-- numerator, denominator and error of a quotient of machine integers -/
def ratioT (a b : Int) : Int × Int × Int := if b = 0 then (0, 0, 9) else ((Rat.divInt a b).num, (Rat.divInt a b).den, 0)
def quoT (p q : Rat) : Int × Int × Int := if q = 0 then (0, 0, 9) else ((p / q).num, (p / q).den, 0)
theorem pairV {w2 : World} {S : Nat → Prop} {v : Value} {c : Prop} {q : Rat} {t : Int × Int × Int} (h : (c ∧ v = .tuple #[ratNil, .int .i64 9]) ∨ (¬ c ∧ ∃ r, v = .tuple #[r, .int .i64 0] ∧ RatC w2 S r q)) (ht : (c → t = (0, 0, 9)) ∧ (¬ c → t = (q.num, (q.den : Int), 0))) :
    ∃ r, v = .tuple #[r, .int .i64 t.2.2] ∧ RatD w2 S r t.1 t.2.1 := by
  rcases h with ⟨h1, rfl⟩ | ⟨h1, r, rfl, h2⟩
  · rw [ht.1 h1]; exact ⟨_, rfl, RatD.nil _ _⟩
  · rw [ht.2 h1]; exact ⟨_, rfl, h2.d⟩
theorem pubRatioT_c (a b : Int) (w : World) (h1a : -9223372036854775808 ≤ a) (h2a : a ≤ 9223372036854775807) (h1b : -9223372036854775808 ≤ b) (h2b : b ≤ 9223372036854775807) : Con PG N.exact_Ratio #[.int .i64 a, .int .i64 b] w (Ret w fun v' w2 => ∃ r, v' = .tuple #[r, .int .i64 (ratioT a b).2.2] ∧ RatD w2 (Nw (fun _ => False) w w2) r (ratioT a b).1 (ratioT a b).2.1) :=
  (pubRatio_c a b w h1a h2a h1b h2b).mono fun _ _ ⟨v2, e1, e2, e3⟩ => ⟨v2, e1, e2, pairV e3 ⟨fun h => if_pos h, fun h => if_neg h⟩⟩
theorem rRatioT_c (a b : Int) (w : World) (h1a : -9223372036854775808 ≤ a) (h2a : a ≤ 9223372036854775807) (h1b : -9223372036854775808 ≤ b) (h2b : b ≤ 9223372036854775807) : Con PG N.ref01_Ratio #[.int .i64 a, .int .i64 b] w (Ret w fun v' w2 => ∃ r, v' = .tuple #[r, .int .i64 (ratioT a b).2.2] ∧ RatD w2 (Nw (fun _ => False) w w2) r (ratioT a b).1 (ratioT a b).2.1) :=
  (rRatio_c a b w h1a h2a h1b h2b).mono fun _ _ ⟨v2, e1, e2, e3⟩ => ⟨v2, e1, e2, pairV e3 ⟨fun h => if_pos h, fun h => if_neg h⟩⟩
theorem pubQuoT_c {S : Nat → Prop} {w : World} {v u : Value} {p q : Rat} (hS : Old S w) (hp : RatV w S v p) (hq : RatV w S u q) : Con PG N.exact_Quo #[v, u] w (Ret w fun v' w2 => ∃ r, v' = .tuple #[r, .int .i64 (quoT p q).2.2] ∧ RatD w2 (Nw (fun _ => False) w w2) r (quoT p q).1 (quoT p q).2.1) :=
  (vQuo_c hS hp hq).mono fun _ _ ⟨v2, e1, e2, e3⟩ => ⟨v2, e1, e2, pairV e3 ⟨fun h => if_pos h, fun h => if_neg h⟩⟩
theorem rQuoT_c {S : Nat → Prop} {w : World} {v u : Value} {p q : Rat} (hS : Old S w) (hp : RatL w S v p) (hq : RatL w S u q) : Con PG N.ref01_Quo #[v, u] w (Ret w fun v' w2 => ∃ r, v' = .tuple #[r, .int .i64 (quoT p q).2.2] ∧ RatD w2 (Nw (fun _ => False) w w2) r (quoT p q).1 (quoT p q).2.1) :=
  (rQuo_c hS hp hq).mono fun _ _ ⟨v2, e1, e2, e3⟩ => ⟨v2, e1, e2, pairV e3 ⟨fun h => if_pos h, fun h => if_neg h⟩⟩
end Go.Ex

/- ExactFractions of the laws of chapter 1. Printed by program. No condition. -/
namespace Go.Ex
open Go Go.Sx Go.Proofs

set_option maxRecDepth 4000 in
theorem exactFractions_c {S : Nat → Prop} {w : World} {v u : Value} {xa xb ya yb n m : Int} (hS : Old S w) (hx : RatR w S v xa xb) (hy : RatR w S u ya yb) (hn1 : -9223372036854775808 ≤ n) (hn2 : n ≤ 9223372036854775807) (hm1 : -9223372036854775808 ≤ m) (hm2 : m ≤ 9223372036854775807) :
    Con PG N.law01_ExactFractions #[v, u, .agg #[.int .i64 n, .int .i64 m]] w (Ret w fun v' _ => v' = .bool true) := by
  have hw : Bel w.heap.size w w := Bel.refl
  obtain ⟨b01, a01, n01, c01, b02, a02, n02, c02, rfl⟩ := hx.shape
  obtain ⟨b11, a11, n11, c11, b12, a12, n12, c12, rfl⟩ := hy.shape
  refine in_law01_ExactFractions (by simp) ?_
  replace hx := hx.weak (S' := Cv S w.heap.size []) fun _ h => .inl h
  replace hy := hy.weak (S' := Cv S w.heap.size []) fun _ h => .inl h
  conv => whnf
  refine callE_S (callE_con (Φ := fun _ w' v w2 => ∃ d, v = .bool d ∧ (d = true → (n01 ≤ 3 ∧ n02 ≤ 3) ∧ (n11 ≤ 3 ∧ n12 ≤ 3))) (fun ρ w' r => ?_) ?_)
  · have hb := r.boxSeq (id := 3) (sz := 4) (n := 2) rfl rfl (by decide) (by intro u hu; simp at hu; rcases hu with rfl | rfl | rfl | rfl | rfl | rfl | rfl | rfl <;> rfl)
    refine (brief_c (S := fun g => g < w'.heap.size) (ks := [((b01, a01, n01, c01), (b02, a02, n02, c02)), ((b11, a11, n11, c11), (b12, a12, n12, c12))]) (fun g hg => hg) (hb.weak fun g hg => by rw [hg]; exact Rel.lt r rfl)).mono fun _ w2 ⟨v2, e1, e2, e3⟩ => ⟨v2, e1, e2, _, e3, fun h => ?_⟩
    have h := of_decide_eq_true h
    exact ⟨h ((b01, a01, n01, c01), (b02, a02, n02, c02)) (by simp), h ((b11, a11, n11, c11), (b12, a12, n12, c12)) (by simp)⟩
  rintro ρ wa1 v1 wb1 r he hb ⟨d, rfl, hd⟩
  replace hw := hw.tr hb
  replace hx := hx.past (iv' := (wa1.heap.size, wb1.heap.size) :: []) r hS he fun x hx => List.mem_cons_of_mem _ hx
  replace hy := hy.past (iv' := (wa1.heap.size, wb1.heap.size) :: []) r hS he fun x hx => List.mem_cons_of_mem _ hx
  clear r he hb
  generalize (wa1.heap.size, wb1.heap.size) :: [] = iv1 at *
  conv => whnf
  cases d with
  | false =>
    conv => whnf
    refine callE_S (callE_con (Φ := fun _ w' v w2 => v = .bool true) (fun ρ w' r => awake_c w') ?_)
    rintro ρ wa2 v2 wb2 r he hb rfl
    replace hw := hw.tr hb
    replace hx := hx.past (iv' := (wa2.heap.size, wb2.heap.size) :: iv1) r hS he fun x hx => List.mem_cons_of_mem _ hx
    replace hy := hy.past (iv' := (wa2.heap.size, wb2.heap.size) :: iv1) r hS he fun x hx => List.mem_cons_of_mem _ hx
    clear r he hb
    generalize (wa2.heap.size, wb2.heap.size) :: iv1 = iv2 at *
    conv => whnf
    intro ρe we re
    exact ⟨_, rfl, hw.tr re.bel, rfl⟩
  | true =>
    obtain ⟨⟨g01, g02⟩, ⟨g11, g12⟩⟩ := hd rfl
    clear hd
    obtain ⟨hx, r0⟩ := hx.shortL g01 g02
    clear g01 g02
    generalize ratio xa xb = x at hx r0
    obtain ⟨hy, r1⟩ := hy.shortL g11 g12
    clear g11 g12
    generalize ratio ya yb = y at hy r1
    have f1 := rl_add x y
    have f2 := rl_sub x y
    have f3 := rl_mul x y
    conv => whnf
    refine ⟨by decide, ?_⟩
    conv => whnf
    refine ⟨by decide, ?_⟩
    conv => whnf
    refine callE_S (callE_con (Φ := fun _ w' v w2 => ∃ r, v = .tuple #[r, .int .i64 (ratioT n m).2.2] ∧ RatD w2 (Nw (fun _ => False) w' w2) r (ratioT n m).1 (ratioT n m).2.1) (fun ρ w' r => pubRatioT_c n m w' hn1 hn2 hm1 hm2) ?_)
    rintro ρ wa2 v2 wb2 r he hb ⟨q, rfl, k1⟩
    replace hw := hw.tr hb
    replace hx := hx.past (iv' := (wa2.heap.size, wb2.heap.size) :: iv1) r hS he fun x hx => List.mem_cons_of_mem _ hx
    replace hy := hy.past (iv' := (wa2.heap.size, wb2.heap.size) :: iv1) r hS he fun x hx => List.mem_cons_of_mem _ hx
    have ha := k1.got (S := fun _ => False) r.baseLe (iv := (wa2.heap.size, wb2.heap.size) :: iv1) List.mem_cons_self
    clear r he hb
    generalize (wa2.heap.size, wb2.heap.size) :: iv1 = iv2 at *
    obtain ⟨s2_0a, s2_0b, s2_0c, s2_0d, s2_0e, s2_0f, s2_0g, s2_0h, rfl⟩ := ha.shape
    clear k1
    conv => whnf
    refine ⟨by decide, ?_⟩
    conv => whnf
    refine ⟨by decide, ?_⟩
    conv => whnf
    refine callE_S (callE_con (Φ := fun _ w' v w2 => ∃ r, v = .tuple #[r, .int .i64 (ratioT n m).2.2] ∧ RatD w2 (Nw (fun _ => False) w' w2) r (ratioT n m).1 (ratioT n m).2.1) (fun ρ w' r => rRatioT_c n m w' hn1 hn2 hm1 hm2) ?_)
    rintro ρ wa3 v3 wb3 r he hb ⟨q, rfl, k1⟩
    replace hw := hw.tr hb
    replace hx := hx.past (iv' := (wa3.heap.size, wb3.heap.size) :: iv2) r hS he fun x hx => List.mem_cons_of_mem _ hx
    replace hy := hy.past (iv' := (wa3.heap.size, wb3.heap.size) :: iv2) r hS he fun x hx => List.mem_cons_of_mem _ hx
    replace ha := ha.past (iv' := (wa3.heap.size, wb3.heap.size) :: iv2) r (oldF w) he fun x hx => List.mem_cons_of_mem _ hx
    have hc := k1.got (S := fun _ => False) r.baseLe (iv := (wa3.heap.size, wb3.heap.size) :: iv2) List.mem_cons_self
    clear r he hb
    generalize (wa3.heap.size, wb3.heap.size) :: iv2 = iv3 at *
    obtain ⟨s3_0a, s3_0b, s3_0c, s3_0d, s3_0e, s3_0f, s3_0g, s3_0h, rfl⟩ := hc.shape
    clear k1
    conv => whnf
    refine drawn_of_pi hτ hmix [.x 0, .x 1, .x 3, .x 4, .x 2, .x 5, .x 6, .x 7, .x 8, .x 9, .x 10, .x 11, .x 12, .x 13, .x 14, .x 15, .x 16, .x 17, .x 18, .x 19, .x 20, .x 22, .x 21, .x 23, .x 24, .x 25, .x 26, .x 27, .x 28, .x 29, .x 31, .x 32, .x 30, .x 33, .x 34, .x 35, .x 36, .x 37, .x 38, .x 39, .x 41, .x 42, .x 40, .x 43, .x 44, .x 45, .x 46, .x 47, .x 48, .x 49, .x 51, .x 52, .x 50, .x 53, .x 54, .x 55, .x 56] (by kernel_rfl) (by kernel_rfl) ?_
    conv => whnf
    refine ⟨by decide, ?_⟩
    conv => whnf
    refine ⟨by decide, ?_⟩
    conv => whnf
    refine callE_con (Φ := fun _ w' v w2 => RatC w2 (Nw (fun _ => False) w' w2) v ((n : Rat))) (fun ρ w' r => pubWhole_c n w' hn1 hn2) ?_
    rintro ρ wa4 v4 wb4 r he hb hn
    replace hw := hw.tr hb
    replace hx := hx.past (iv' := (wa4.heap.size, wb4.heap.size) :: iv3) r hS he fun x hx => List.mem_cons_of_mem _ hx
    replace hy := hy.past (iv' := (wa4.heap.size, wb4.heap.size) :: iv3) r hS he fun x hx => List.mem_cons_of_mem _ hx
    replace ha := ha.past (iv' := (wa4.heap.size, wb4.heap.size) :: iv3) r (oldF w) he fun x hx => List.mem_cons_of_mem _ hx
    replace hc := hc.past (iv' := (wa4.heap.size, wb4.heap.size) :: iv3) r (oldF w) he fun x hx => List.mem_cons_of_mem _ hx
    have h1 := hn.got (S := fun _ => False) r.baseLe (iv := (wa4.heap.size, wb4.heap.size) :: iv3) List.mem_cons_self
    clear r he hb hn
    generalize (wa4.heap.size, wb4.heap.size) :: iv3 = iv4 at *
    obtain ⟨s4_0, s4_1, s4_2, s4_3, s4_4, s4_5, s4_6, s4_7, rfl⟩ := h1.shape
    conv => whnf
    refine callE_con (Φ := fun _ w' v w2 => RatC w2 (Nw (fun _ => False) w' w2) v ((n : Rat))) (fun ρ w' r => rWholeAll_c n w' hn1 hn2) ?_
    rintro ρ wa5 v5 wb5 r he hb hn
    replace hw := hw.tr hb
    replace hx := hx.past (iv' := (wa5.heap.size, wb5.heap.size) :: iv4) r hS he fun x hx => List.mem_cons_of_mem _ hx
    replace hy := hy.past (iv' := (wa5.heap.size, wb5.heap.size) :: iv4) r hS he fun x hx => List.mem_cons_of_mem _ hx
    replace ha := ha.past (iv' := (wa5.heap.size, wb5.heap.size) :: iv4) r (oldF w) he fun x hx => List.mem_cons_of_mem _ hx
    replace hc := hc.past (iv' := (wa5.heap.size, wb5.heap.size) :: iv4) r (oldF w) he fun x hx => List.mem_cons_of_mem _ hx
    replace h1 := h1.past (iv' := (wa5.heap.size, wb5.heap.size) :: iv4) r (oldF w) he fun x hx => List.mem_cons_of_mem _ hx
    have h2 := hn.got (S := fun _ => False) r.baseLe (iv := (wa5.heap.size, wb5.heap.size) :: iv4) List.mem_cons_self
    clear r he hb hn
    generalize (wa5.heap.size, wb5.heap.size) :: iv4 = iv5 at *
    obtain ⟨s5_0, s5_1, s5_2, s5_3, s5_4, s5_5, s5_6, s5_7, rfl⟩ := h2.shape
    conv => whnf
    refine callE_con (Φ := fun _ w' v w2 => v = .bool true) (fun ρ w' r => ?_) ?_
    · have h := same_c (Rel.old r (oldF w)) (h1.rel r (oldF w)) (h2.rel r (oldF w))
      rw [decide_eq_true rfl] at h
      exact h
    rintro ρ wa6 v6 wb6 r he hb rfl
    replace hw := hw.tr hb
    replace hx := hx.past (iv' := (wa6.heap.size, wb6.heap.size) :: iv5) r hS he fun x hx => List.mem_cons_of_mem _ hx
    replace hy := hy.past (iv' := (wa6.heap.size, wb6.heap.size) :: iv5) r hS he fun x hx => List.mem_cons_of_mem _ hx
    replace ha := ha.past (iv' := (wa6.heap.size, wb6.heap.size) :: iv5) r (oldF w) he fun x hx => List.mem_cons_of_mem _ hx
    replace hc := hc.past (iv' := (wa6.heap.size, wb6.heap.size) :: iv5) r (oldF w) he fun x hx => List.mem_cons_of_mem _ hx
    clear h1
    clear h2
    clear r he hb
    generalize (wa6.heap.size, wb6.heap.size) :: iv5 = iv6 at *
    conv => whnf
    refine callE_con (Φ := fun _ w' v w2 => v = .bool true) (fun ρ w' r => ?_) ?_
    · have h := sameD_c (Rel.old r (oldF w)) (ha.rel r (oldF w)) (hc.rel r (oldF w))
      rw [decide_eq_true ⟨rfl, rfl⟩] at h
      exact h
    rintro ρ wa7 v7 wb7 r he hb rfl
    replace hw := hw.tr hb
    replace hx := hx.past (iv' := (wa7.heap.size, wb7.heap.size) :: iv6) r hS he fun x hx => List.mem_cons_of_mem _ hx
    replace hy := hy.past (iv' := (wa7.heap.size, wb7.heap.size) :: iv6) r hS he fun x hx => List.mem_cons_of_mem _ hx
    clear ha
    clear hc
    clear r he hb
    generalize (wa7.heap.size, wb7.heap.size) :: iv6 = iv7 at *
    conv => whnf
    refine BrS.mk (fun hne => by simp at hne) (fun _ => ?_)
    conv => whnf
    refine callE_con (Φ := fun _ w' v w2 => RatC w2 (Nw (fun _ => False) w' w2) v (x)) (fun ρ w' r => vNormal_c (Rel.old r hS) (hx.rel r hS).v) ?_
    rintro ρ wa8 v8 wb8 r he hb hn
    replace hw := hw.tr hb
    replace hx := hx.past (iv' := (wa8.heap.size, wb8.heap.size) :: iv7) r hS he fun x hx => List.mem_cons_of_mem _ hx
    replace hy := hy.past (iv' := (wa8.heap.size, wb8.heap.size) :: iv7) r hS he fun x hx => List.mem_cons_of_mem _ hx
    have h1 := hn.got (S := fun _ => False) r.baseLe (iv := (wa8.heap.size, wb8.heap.size) :: iv7) List.mem_cons_self
    clear r he hb hn
    generalize (wa8.heap.size, wb8.heap.size) :: iv7 = iv8 at *
    obtain ⟨s8_0, s8_1, s8_2, s8_3, s8_4, s8_5, s8_6, s8_7, rfl⟩ := h1.shape
    conv => whnf
    refine callE_con (Φ := fun _ w' v w2 => RatC w2 (Nw (fun _ => False) w' w2) v (x)) (fun ρ w' r => rNormal_c (Rel.old r hS) (hx.rel r hS)) ?_
    rintro ρ wa9 v9 wb9 r he hb hn
    replace hw := hw.tr hb
    replace hx := hx.past (iv' := (wa9.heap.size, wb9.heap.size) :: iv8) r hS he fun x hx => List.mem_cons_of_mem _ hx
    replace hy := hy.past (iv' := (wa9.heap.size, wb9.heap.size) :: iv8) r hS he fun x hx => List.mem_cons_of_mem _ hx
    replace h1 := h1.past (iv' := (wa9.heap.size, wb9.heap.size) :: iv8) r (oldF w) he fun x hx => List.mem_cons_of_mem _ hx
    have h2 := hn.got (S := fun _ => False) r.baseLe (iv := (wa9.heap.size, wb9.heap.size) :: iv8) List.mem_cons_self
    clear r he hb hn
    generalize (wa9.heap.size, wb9.heap.size) :: iv8 = iv9 at *
    obtain ⟨s9_0, s9_1, s9_2, s9_3, s9_4, s9_5, s9_6, s9_7, rfl⟩ := h2.shape
    conv => whnf
    refine callE_con (Φ := fun _ w' v w2 => v = .bool true) (fun ρ w' r => ?_) ?_
    · have h := same_c (Rel.old r (oldF w)) (h1.rel r (oldF w)) (h2.rel r (oldF w))
      rw [decide_eq_true rfl] at h
      exact h
    rintro ρ wa10 v10 wb10 r he hb rfl
    replace hw := hw.tr hb
    replace hx := hx.past (iv' := (wa10.heap.size, wb10.heap.size) :: iv9) r hS he fun x hx => List.mem_cons_of_mem _ hx
    replace hy := hy.past (iv' := (wa10.heap.size, wb10.heap.size) :: iv9) r hS he fun x hx => List.mem_cons_of_mem _ hx
    clear h1
    clear h2
    clear r he hb
    generalize (wa10.heap.size, wb10.heap.size) :: iv9 = iv10 at *
    conv => whnf
    refine callE_con (Φ := fun _ w' v w2 => RatC w2 (Nw (fun _ => False) w' w2) v (x + y)) (fun ρ w' r => vAdd_c (Rel.old r hS) (hx.rel r hS).v (hy.rel r hS).v) ?_
    rintro ρ wa11 v11 wb11 r he hb hn
    replace hw := hw.tr hb
    replace hx := hx.past (iv' := (wa11.heap.size, wb11.heap.size) :: iv10) r hS he fun x hx => List.mem_cons_of_mem _ hx
    replace hy := hy.past (iv' := (wa11.heap.size, wb11.heap.size) :: iv10) r hS he fun x hx => List.mem_cons_of_mem _ hx
    have h1 := hn.got (S := fun _ => False) r.baseLe (iv := (wa11.heap.size, wb11.heap.size) :: iv10) List.mem_cons_self
    clear r he hb hn
    generalize (wa11.heap.size, wb11.heap.size) :: iv10 = iv11 at *
    obtain ⟨s11_0, s11_1, s11_2, s11_3, s11_4, s11_5, s11_6, s11_7, rfl⟩ := h1.shape
    conv => whnf
    refine callE_con (Φ := fun _ w' v w2 => RatC w2 (Nw (fun _ => False) w' w2) v (x + y)) (fun ρ w' r => rAdd_c (Rel.old r hS) (hx.rel r hS) (hy.rel r hS)) ?_
    rintro ρ wa12 v12 wb12 r he hb hn
    replace hw := hw.tr hb
    replace hx := hx.past (iv' := (wa12.heap.size, wb12.heap.size) :: iv11) r hS he fun x hx => List.mem_cons_of_mem _ hx
    replace hy := hy.past (iv' := (wa12.heap.size, wb12.heap.size) :: iv11) r hS he fun x hx => List.mem_cons_of_mem _ hx
    replace h1 := h1.past (iv' := (wa12.heap.size, wb12.heap.size) :: iv11) r (oldF w) he fun x hx => List.mem_cons_of_mem _ hx
    have h2 := hn.got (S := fun _ => False) r.baseLe (iv := (wa12.heap.size, wb12.heap.size) :: iv11) List.mem_cons_self
    clear r he hb hn
    generalize (wa12.heap.size, wb12.heap.size) :: iv11 = iv12 at *
    obtain ⟨s12_0, s12_1, s12_2, s12_3, s12_4, s12_5, s12_6, s12_7, rfl⟩ := h2.shape
    conv => whnf
    refine callE_con (Φ := fun _ w' v w2 => v = .bool true) (fun ρ w' r => ?_) ?_
    · have h := same_c (Rel.old r (oldF w)) (h1.rel r (oldF w)) (h2.rel r (oldF w))
      rw [decide_eq_true rfl] at h
      exact h
    rintro ρ wa13 v13 wb13 r he hb rfl
    replace hw := hw.tr hb
    replace hx := hx.past (iv' := (wa13.heap.size, wb13.heap.size) :: iv12) r hS he fun x hx => List.mem_cons_of_mem _ hx
    replace hy := hy.past (iv' := (wa13.heap.size, wb13.heap.size) :: iv12) r hS he fun x hx => List.mem_cons_of_mem _ hx
    clear h1
    clear h2
    clear r he hb
    generalize (wa13.heap.size, wb13.heap.size) :: iv12 = iv13 at *
    conv => whnf
    refine callE_con (Φ := fun _ w' v w2 => RatC w2 (Nw (fun _ => False) w' w2) v (x - y)) (fun ρ w' r => vSub_c (Rel.old r hS) (hx.rel r hS).v (hy.rel r hS).v) ?_
    rintro ρ wa14 v14 wb14 r he hb hn
    replace hw := hw.tr hb
    replace hx := hx.past (iv' := (wa14.heap.size, wb14.heap.size) :: iv13) r hS he fun x hx => List.mem_cons_of_mem _ hx
    replace hy := hy.past (iv' := (wa14.heap.size, wb14.heap.size) :: iv13) r hS he fun x hx => List.mem_cons_of_mem _ hx
    have h1 := hn.got (S := fun _ => False) r.baseLe (iv := (wa14.heap.size, wb14.heap.size) :: iv13) List.mem_cons_self
    clear r he hb hn
    generalize (wa14.heap.size, wb14.heap.size) :: iv13 = iv14 at *
    obtain ⟨s14_0, s14_1, s14_2, s14_3, s14_4, s14_5, s14_6, s14_7, rfl⟩ := h1.shape
    conv => whnf
    refine callE_con (Φ := fun _ w' v w2 => RatC w2 (Nw (fun _ => False) w' w2) v (x - y)) (fun ρ w' r => rSub_c (Rel.old r hS) (hx.rel r hS) (hy.rel r hS)) ?_
    rintro ρ wa15 v15 wb15 r he hb hn
    replace hw := hw.tr hb
    replace hx := hx.past (iv' := (wa15.heap.size, wb15.heap.size) :: iv14) r hS he fun x hx => List.mem_cons_of_mem _ hx
    replace hy := hy.past (iv' := (wa15.heap.size, wb15.heap.size) :: iv14) r hS he fun x hx => List.mem_cons_of_mem _ hx
    replace h1 := h1.past (iv' := (wa15.heap.size, wb15.heap.size) :: iv14) r (oldF w) he fun x hx => List.mem_cons_of_mem _ hx
    have h2 := hn.got (S := fun _ => False) r.baseLe (iv := (wa15.heap.size, wb15.heap.size) :: iv14) List.mem_cons_self
    clear r he hb hn
    generalize (wa15.heap.size, wb15.heap.size) :: iv14 = iv15 at *
    obtain ⟨s15_0, s15_1, s15_2, s15_3, s15_4, s15_5, s15_6, s15_7, rfl⟩ := h2.shape
    conv => whnf
    refine callE_con (Φ := fun _ w' v w2 => v = .bool true) (fun ρ w' r => ?_) ?_
    · have h := same_c (Rel.old r (oldF w)) (h1.rel r (oldF w)) (h2.rel r (oldF w))
      rw [decide_eq_true rfl] at h
      exact h
    rintro ρ wa16 v16 wb16 r he hb rfl
    replace hw := hw.tr hb
    replace hx := hx.past (iv' := (wa16.heap.size, wb16.heap.size) :: iv15) r hS he fun x hx => List.mem_cons_of_mem _ hx
    replace hy := hy.past (iv' := (wa16.heap.size, wb16.heap.size) :: iv15) r hS he fun x hx => List.mem_cons_of_mem _ hx
    clear h1
    clear h2
    clear r he hb
    generalize (wa16.heap.size, wb16.heap.size) :: iv15 = iv16 at *
    conv => whnf
    refine callE_con (Φ := fun _ w' v w2 => RatC w2 (Nw (fun _ => False) w' w2) v (x * y)) (fun ρ w' r => vMul_c (Rel.old r hS) (hx.rel r hS).v (hy.rel r hS).v) ?_
    rintro ρ wa17 v17 wb17 r he hb hn
    replace hw := hw.tr hb
    replace hx := hx.past (iv' := (wa17.heap.size, wb17.heap.size) :: iv16) r hS he fun x hx => List.mem_cons_of_mem _ hx
    replace hy := hy.past (iv' := (wa17.heap.size, wb17.heap.size) :: iv16) r hS he fun x hx => List.mem_cons_of_mem _ hx
    have h1 := hn.got (S := fun _ => False) r.baseLe (iv := (wa17.heap.size, wb17.heap.size) :: iv16) List.mem_cons_self
    clear r he hb hn
    generalize (wa17.heap.size, wb17.heap.size) :: iv16 = iv17 at *
    obtain ⟨s17_0, s17_1, s17_2, s17_3, s17_4, s17_5, s17_6, s17_7, rfl⟩ := h1.shape
    conv => whnf
    refine callE_con (Φ := fun _ w' v w2 => RatC w2 (Nw (fun _ => False) w' w2) v (x * y)) (fun ρ w' r => rMul_c (Rel.old r hS) (hx.rel r hS) (hy.rel r hS)) ?_
    rintro ρ wa18 v18 wb18 r he hb hn
    replace hw := hw.tr hb
    replace hx := hx.past (iv' := (wa18.heap.size, wb18.heap.size) :: iv17) r hS he fun x hx => List.mem_cons_of_mem _ hx
    replace hy := hy.past (iv' := (wa18.heap.size, wb18.heap.size) :: iv17) r hS he fun x hx => List.mem_cons_of_mem _ hx
    replace h1 := h1.past (iv' := (wa18.heap.size, wb18.heap.size) :: iv17) r (oldF w) he fun x hx => List.mem_cons_of_mem _ hx
    have h2 := hn.got (S := fun _ => False) r.baseLe (iv := (wa18.heap.size, wb18.heap.size) :: iv17) List.mem_cons_self
    clear r he hb hn
    generalize (wa18.heap.size, wb18.heap.size) :: iv17 = iv18 at *
    obtain ⟨s18_0, s18_1, s18_2, s18_3, s18_4, s18_5, s18_6, s18_7, rfl⟩ := h2.shape
    conv => whnf
    refine callE_con (Φ := fun _ w' v w2 => v = .bool true) (fun ρ w' r => ?_) ?_
    · have h := same_c (Rel.old r (oldF w)) (h1.rel r (oldF w)) (h2.rel r (oldF w))
      rw [decide_eq_true rfl] at h
      exact h
    rintro ρ wa19 v19 wb19 r he hb rfl
    replace hw := hw.tr hb
    replace hx := hx.past (iv' := (wa19.heap.size, wb19.heap.size) :: iv18) r hS he fun x hx => List.mem_cons_of_mem _ hx
    replace hy := hy.past (iv' := (wa19.heap.size, wb19.heap.size) :: iv18) r hS he fun x hx => List.mem_cons_of_mem _ hx
    clear h1
    clear h2
    clear r he hb
    generalize (wa19.heap.size, wb19.heap.size) :: iv18 = iv19 at *
    conv => whnf
    refine callE_S (callE_con (Φ := fun _ w' v w2 => ∃ r, v = .tuple #[r, .int .i64 (quoT x y).2.2] ∧ RatD w2 (Nw (fun _ => False) w' w2) r (quoT x y).1 (quoT x y).2.1) (fun ρ w' r => pubQuoT_c (Rel.old r hS) (hx.rel r hS).v (hy.rel r hS).v) ?_)
    rintro ρ wa20 v20 wb20 r he hb ⟨q, rfl, k1⟩
    replace hw := hw.tr hb
    replace hx := hx.past (iv' := (wa20.heap.size, wb20.heap.size) :: iv19) r hS he fun x hx => List.mem_cons_of_mem _ hx
    replace hy := hy.past (iv' := (wa20.heap.size, wb20.heap.size) :: iv19) r hS he fun x hx => List.mem_cons_of_mem _ hx
    have ha := k1.got (S := fun _ => False) r.baseLe (iv := (wa20.heap.size, wb20.heap.size) :: iv19) List.mem_cons_self
    clear r he hb
    generalize (wa20.heap.size, wb20.heap.size) :: iv19 = iv20 at *
    obtain ⟨s20_0a, s20_0b, s20_0c, s20_0d, s20_0e, s20_0f, s20_0g, s20_0h, rfl⟩ := ha.shape
    clear k1
    conv => whnf
    refine callE_S (callE_con (Φ := fun _ w' v w2 => ∃ r, v = .tuple #[r, .int .i64 (quoT x y).2.2] ∧ RatD w2 (Nw (fun _ => False) w' w2) r (quoT x y).1 (quoT x y).2.1) (fun ρ w' r => rQuoT_c (Rel.old r hS) (hx.rel r hS) (hy.rel r hS)) ?_)
    rintro ρ wa21 v21 wb21 r he hb ⟨q, rfl, k1⟩
    replace hw := hw.tr hb
    replace hx := hx.past (iv' := (wa21.heap.size, wb21.heap.size) :: iv20) r hS he fun x hx => List.mem_cons_of_mem _ hx
    replace hy := hy.past (iv' := (wa21.heap.size, wb21.heap.size) :: iv20) r hS he fun x hx => List.mem_cons_of_mem _ hx
    replace ha := ha.past (iv' := (wa21.heap.size, wb21.heap.size) :: iv20) r (oldF w) he fun x hx => List.mem_cons_of_mem _ hx
    have hc := k1.got (S := fun _ => False) r.baseLe (iv := (wa21.heap.size, wb21.heap.size) :: iv20) List.mem_cons_self
    clear r he hb
    generalize (wa21.heap.size, wb21.heap.size) :: iv20 = iv21 at *
    obtain ⟨s21_0a, s21_0b, s21_0c, s21_0d, s21_0e, s21_0f, s21_0g, s21_0h, rfl⟩ := hc.shape
    clear k1
    conv => whnf
    refine drawn_of_pi hτ hmix [.x 0, .x 1, .x 2, .x 3, .x 4, .x 5, .x 6, .x 7, .x 8, .x 9, .x 10, .x 12, .x 13, .x 11, .x 14, .x 15, .x 16, .x 17, .x 18, .x 20, .x 19, .x 21, .x 22, .x 23, .x 24, .x 25, .x 26, .x 27] (by kernel_rfl) (by kernel_rfl) ?_
    conv => whnf
    refine callE_con (Φ := fun _ w' v w2 => v = .bool true) (fun ρ w' r => ?_) ?_
    · have h := sameD_c (Rel.old r (oldF w)) (ha.rel r (oldF w)) (hc.rel r (oldF w))
      rw [decide_eq_true ⟨rfl, rfl⟩] at h
      exact h
    rintro ρ wa22 v22 wb22 r he hb rfl
    replace hw := hw.tr hb
    replace hx := hx.past (iv' := (wa22.heap.size, wb22.heap.size) :: iv21) r hS he fun x hx => List.mem_cons_of_mem _ hx
    replace hy := hy.past (iv' := (wa22.heap.size, wb22.heap.size) :: iv21) r hS he fun x hx => List.mem_cons_of_mem _ hx
    clear ha
    clear hc
    clear r he hb
    generalize (wa22.heap.size, wb22.heap.size) :: iv21 = iv22 at *
    conv => whnf
    refine BrS.mk (fun _ => ?_) (fun hne => by simp at hne)
    conv => whnf
    refine callE_con (Φ := fun _ w' v w2 => v = .int .i64 (rs (x - y))) (fun ρ w' r => vCmp_c (Rel.old r hS) (hx.rel r hS).v (hy.rel r hS).v) ?_
    rintro ρ wa23 v23 wb23 r he hb rfl
    replace hw := hw.tr hb
    replace hx := hx.past (iv' := (wa23.heap.size, wb23.heap.size) :: iv22) r hS he fun x hx => List.mem_cons_of_mem _ hx
    replace hy := hy.past (iv' := (wa23.heap.size, wb23.heap.size) :: iv22) r hS he fun x hx => List.mem_cons_of_mem _ hx
    clear r he hb
    generalize (wa23.heap.size, wb23.heap.size) :: iv22 = iv23 at *
    conv => whnf
    refine callE_con (Φ := fun _ w' v w2 => v = .int .i64 (rs (x - y))) (fun ρ w' r => rCmp_c (Rel.old r hS) (hx.rel r hS) (hy.rel r hS)) ?_
    rintro ρ wa24 v24 wb24 r he hb rfl
    replace hw := hw.tr hb
    replace hx := hx.past (iv' := (wa24.heap.size, wb24.heap.size) :: iv23) r hS he fun x hx => List.mem_cons_of_mem _ hx
    replace hy := hy.past (iv' := (wa24.heap.size, wb24.heap.size) :: iv23) r hS he fun x hx => List.mem_cons_of_mem _ hx
    clear r he hb
    generalize (wa24.heap.size, wb24.heap.size) :: iv23 = iv24 at *
    conv => whnf
    refine BrS.mk (fun _ => ?_) (fun hne => by simp at hne)
    conv => whnf
    refine callE_con (Φ := fun _ w' v w2 => IntC w2 (Nw (fun _ => False) w' w2) v (x.num / x.den)) (fun ρ w' r => vFloor_c (Rel.old r hS) (hx.rel r hS).v) ?_
    rintro ρ wa25 v25 wb25 r he hb hn
    replace hw := hw.tr hb
    replace hx := hx.past (iv' := (wa25.heap.size, wb25.heap.size) :: iv24) r hS he fun x hx => List.mem_cons_of_mem _ hx
    replace hy := hy.past (iv' := (wa25.heap.size, wb25.heap.size) :: iv24) r hS he fun x hx => List.mem_cons_of_mem _ hx
    have h1 := hn.got (S := fun _ => False) r.baseLe (iv := (wa25.heap.size, wb25.heap.size) :: iv24) List.mem_cons_self
    clear r he hb hn
    generalize (wa25.heap.size, wb25.heap.size) :: iv24 = iv25 at *
    obtain ⟨s25_0, s25_1, s25_2, s25_3, rfl⟩ := h1.shape
    conv => whnf
    refine callE_con (Φ := fun _ w' v w2 => IntC w2 (Nw (fun _ => False) w' w2) v (x.num / x.den)) (fun ρ w' r => rFloor_c (Rel.old r hS) (hx.rel r hS)) ?_
    rintro ρ wa26 v26 wb26 r he hb hn
    replace hw := hw.tr hb
    replace hx := hx.past (iv' := (wa26.heap.size, wb26.heap.size) :: iv25) r hS he fun x hx => List.mem_cons_of_mem _ hx
    replace hy := hy.past (iv' := (wa26.heap.size, wb26.heap.size) :: iv25) r hS he fun x hx => List.mem_cons_of_mem _ hx
    replace h1 := h1.past (iv' := (wa26.heap.size, wb26.heap.size) :: iv25) r (oldF w) he fun x hx => List.mem_cons_of_mem _ hx
    have h2 := hn.got (S := fun _ => False) r.baseLe (iv := (wa26.heap.size, wb26.heap.size) :: iv25) List.mem_cons_self
    clear r he hb hn
    generalize (wa26.heap.size, wb26.heap.size) :: iv25 = iv26 at *
    obtain ⟨s26_0, s26_1, s26_2, s26_3, rfl⟩ := h2.shape
    conv => whnf
    refine callE_con (Φ := fun _ w' v w2 => v = .bool true) (fun ρ w' r => ?_) ?_
    · have h := sameInt_c (Rel.old r (oldF w)) (h1.rel r (oldF w)) (h2.rel r (oldF w))
      rw [decide_eq_true rfl] at h
      exact h
    rintro ρ wa27 v27 wb27 r he hb rfl
    replace hw := hw.tr hb
    clear hx
    clear hy
    clear h1
    clear h2
    clear r he hb
    generalize (wa27.heap.size, wb27.heap.size) :: iv26 = iv27 at *
    conv => whnf
    refine callE_con (Φ := fun _ w' v w2 => v = .bool true) (fun ρ w' r => awake_c w') ?_
    rintro ρ wa28 v28 wb28 r he hb rfl
    replace hw := hw.tr hb
    clear r he hb
    generalize (wa28.heap.size, wb28.heap.size) :: iv27 = iv28 at *
    conv => whnf
    intro ρe we re
    exact ⟨_, rfl, hw.tr re.bel, rfl⟩
end Go.Ex
