/- A part of the proof: texts L3 to L5. Each tells its conditions in its theorems. -/
import Derived.Test.YtmkjmkdmfamciaaGreatDoorP4
/- Long division by limbs, told of numbers. No condition. -/
namespace Go.Ex

theorem norm_spec {ms : List Nat} {t dt : Nat} (hlm : Lm ms) (hl : ms.length = t + 1) (hdt : ms[t]? = some dt) (h0 : 0 < dt) : 32 - blen dt < 32 ∧ ln (val ms * 2 ^ (32 - blen dt)) = t + 1 := by
  have hb0 : 0 < blen dt := by
    rcases Nat.eq_zero_or_pos (blen dt) with h | h
    · have := blen_le.1 (Nat.le_of_eq h)
      simp at this
      omega
    · exact h
  have hb32 : blen dt ≤ 32 := blen_le.2 (hlm.at hdt)
  have hlt := blen_le.1 (Nat.le_refl (blen dt))
  have hv : val ms = val (ms.take t) + wt t * dt := by rw [← val_take_succ hdt, List.take_of_length_le (by omega)]
  have hlow := val_lt (hlm.take t)
  have hltk : (ms.take t).length = t := by simp; omega
  rw [hltk] at hlow
  have hw := wt_pos t
  refine ⟨by omega, Nat.le_antisymm ?_ ?_⟩
  · rw [ln_le]
    have h1 : val ms < wt t * 2 ^ blen dt := by
      have : wt t * (dt + 1) ≤ wt t * 2 ^ blen dt := Nat.mul_le_mul_left _ hlt
      rw [Nat.mul_add] at this
      omega
    have h2 := Nat.mul_lt_mul_of_pos_right h1 (Nat.two_pow_pos (32 - blen dt))
    rw [Nat.mul_assoc, ← Nat.pow_add, Nat.add_sub_cancel' hb32] at h2
    rw [wt_succ, Nat.mul_comm 4294967296]
    exact h2
  · refine Nat.lt_of_not_le fun h => ?_
    have h1 := ln_le.1 h
    have h2 : val ms * 1 ≤ val ms * 2 ^ (32 - blen dt) := Nat.mul_le_mul_left _ (Nat.two_pow_pos _)
    have h3 : wt t * 1 ≤ wt t * dt := Nat.mul_le_mul_left _ h0
    omega

theorem div_part {rs : List Nat} {D N k : Nat} (hlm : Lm rs) (hDN : D < wt N) (hk : k + N + 1 ≤ rs.length) (h : val rs < wt (k + 1) * D) :
    val (rs.drop (k + N + 1)) = 0 ∧ val (rs.drop k) = val ((rs.drop k).take (N + 1)) ∧ val ((rs.drop k).take (N + 1)) < 4294967296 * D := by
  obtain ⟨x, hx⟩ : ∃ q, rs[k]? = some q := ⟨_, List.getElem?_eq_getElem (by omega)⟩
  have hx32 := hlm.at hx
  have h1 := val_take_drop rs (k + 1) (by omega)
  have h2 : val (rs.drop (k + 1)) < D := Nat.lt_of_mul_lt_mul_left (a := wt (k + 1)) (by omega)
  have h3 := val_take_drop (rs.drop (k + 1)) N (by simp; omega)
  rw [List.drop_drop, show k + 1 + N = k + N + 1 by omega] at h3
  have h4 : val (rs.drop (k + N + 1)) = 0 := by
    rcases Nat.eq_zero_or_pos (val (rs.drop (k + N + 1))) with h | h
    · exact h
    · have := Nat.mul_le_mul_left (wt N) h
      omega
  have h5 := val_take_drop (rs.drop k) (N + 1) (by simp; omega)
  rw [List.drop_drop, show k + (N + 1) = k + N + 1 by omega, h4, Nat.mul_zero, Nat.add_zero] at h5
  have h6 := val_drop hx
  exact ⟨h4, h5, by omega⟩

theorem div_step {rs rs' out : List Nat} {D N k P V : Nat} (hD : 0 < D) (hlm : Lm rs) (hlen : rs'.length = rs.length) (hDN : D < wt N) (hk : k + N + 1 ≤ rs.length) (h : val rs < wt (k + 1) * D) (hV : V = wt (k + 1) * (D * val (out.drop (k + 1))) + val rs)
    (hP : val ((rs.drop k).take (N + 1)) = P) (h1 : rs'.take k = rs.take k) (h2 : rs'.drop (k + N + 1) = rs.drop (k + N + 1)) (h3 : val ((rs'.drop k).take (N + 1)) = P % D) (ho : k < out.length) :
    val rs' < wt k * D ∧ V = wt k * (D * val ((out.set k (P / D)).drop k)) + val rs' := by
  obtain ⟨a1, a2, a3⟩ := div_part hlm hDN hk h
  have b1 := val_take_drop rs k (by omega)
  have b2 := val_take_drop rs' k (by omega)
  have b3 := val_take_drop (rs'.drop k) (N + 1) (by simp; omega)
  rw [List.drop_drop, show k + (N + 1) = k + N + 1 by omega, h2, a1, Nat.mul_zero, Nat.add_zero, h3] at b3
  rw [h1, b3] at b2
  rw [a2, hP] at b1
  have b4 := val_lt (hlm.take k)
  have b5 : (rs.take k).length = k := by simp; omega
  rw [b5] at b4
  have b6 := Nat.mod_lt P hD
  have b7 : (out.set k (P / D))[k]? = some (P / D) := by rw [List.getElem?_set_self ho]
  have b8 := Nat.div_add_mod P D
  refine ⟨?_, ?_⟩
  · have : wt k * (P % D + 1) ≤ wt k * D := Nat.mul_le_mul_left _ b6
    rw [Nat.mul_add] at this
    omega
  · rw [val_drop b7, List.drop_set_of_lt (show k < k + 1 by omega), hV, b1, b2, wt_succ]
    generalize val (out.drop (k + 1)) = o
    have c1 : wt k * P = wt k * (D * (P / D)) + wt k * (P % D) := by rw [← Nat.mul_add, b8]
    have c2 : 4294967296 * wt k * (D * o) = wt k * (D * (4294967296 * o)) := by
      rw [Nat.mul_comm 4294967296, Nat.mul_assoc, Nat.mul_left_comm 4294967296]
    rw [c1, c2, Nat.mul_add D, Nat.mul_add (wt k)]
    omega

/-- the start: the shifted number is less than the shifted divisor, times the weight -/
theorem div_start {n m b : Nat} (hm : 0 < m) (hnm : m ≤ n) : n * 2 ^ b < wt (ln n + 1 - ln m) * (m * 2 ^ b) := by
  have h1 := lt_wt_ln n
  have h2 := ln_mono hnm
  have h3 : wt (ln m - 1) ≤ m := by
    refine Nat.le_of_not_lt fun h => ?_
    have := ln_le.2 h
    have h4 : 0 < ln m := by
      rcases Nat.eq_zero_or_pos (ln m) with h | h
      · have := ln_le.1 (Nat.le_of_eq h); rw [wt_zero] at this; omega
      · exact h
    omega
  have h4 : 0 < ln m := by
    rcases Nat.eq_zero_or_pos (ln m) with h | h
    · have := ln_le.1 (Nat.le_of_eq h); rw [wt_zero] at this; omega
    · exact h
  have h5 : wt (ln n) ≤ wt (ln n + 1 - ln m) * m := by
    rw [show ln n = (ln n + 1 - ln m) + (ln m - 1) by omega, wt_add, show (ln n + 1 - ln m) + (ln m - 1) + 1 - ln m = ln n + 1 - ln m by omega]
    exact Nat.mul_le_mul_left _ h3
  rw [← Nat.mul_assoc]
  exact Nat.mul_lt_mul_of_pos_right (Nat.lt_of_lt_of_le h1 h5) (Nat.two_pow_pos b)
theorem div_end {n m b o r : Nat} (hm : 0 < m) (h1 : n * 2 ^ b = m * 2 ^ b * o + r) (h2 : r < m * 2 ^ b) : o = n / m ∧ r / 2 ^ b = n % m := by
  have hp := Nat.two_pow_pos b
  have h3 : n * 2 ^ b / (m * 2 ^ b) = o := by rw [h1, Nat.mul_add_div (Nat.mul_pos hm hp), Nat.div_eq_of_lt h2, Nat.add_zero]
  have h4 : n * 2 ^ b % (m * 2 ^ b) = r := by rw [h1, Nat.mul_add_mod, Nat.mod_eq_of_lt h2]
  rw [Nat.mul_div_mul_right _ _ hp] at h3
  rw [Nat.mul_mod_mul_right] at h4
  exact ⟨h3.symm, by rw [← h4, Nat.mul_div_cancel _ hp]⟩
end Go.Ex

/- The division of natural numbers of package exact. No condition. -/
namespace Go.Ex
open Go Go.Sx Go.Proofs

theorem fullRow {w : World} {g : Nat} {rs : List Nat} (hg : w.heap[g]? = some (.cells (U rs).toArray T.uint32 (0, 0))) (hlm : Lm rs) (hl : rs.length ≤ 1000000000000) :
    Limbs w (fun x => x = g) (.slice (some ⟨g, 0, none⟩) rs.length rs.length) rs := by
  have := rowPart (k := 0) (m := rs.length) (c := rs.length) hg hlm (by omega) (Nat.le_refl _) hl
  rwa [List.drop_zero, List.take_length] at this

theorem divide_c {S : Nat → Prop} {w : World} {v u : Value} {n m : Nat} (hS : Old S w) (hn : NatR w S v n) (hm : NatR w S u m) (hm0 : 0 < m) (hln : ln n ≤ 100000000000) :
    Con PG N.exact_nat_divide #[v, u] w (Ret w fun v' w2 => ∃ q r, v' = .tuple #[q, r] ∧ NatR w2 (Nw (fun _ => False) w w2) q (n / m) ∧ NatR w2 (Nw S w w2) r (n % m)) := by
  have hnN := hn
  have hmN := hm
  obtain ⟨x, rfl, hp1, hp2⟩ := hn.la
  obtain ⟨y, rfl, hq1, hq2⟩ := hm.la
  have hxl := length_ln x.lm hp2
  have hyl := length_ln y.lm hq2
  rw [hp1] at hxl
  rw [hq1] at hyl
  refine in_exact_nat_divide (by simp) ?_
  conv => whnf
  refine callE_S (callE_con (Φ := fun _ _ v _ => v = .int .i64 (cmpN n m)) (fun ρ w' r => cmp_c (S := S) (fun g hg => by have := hS g hg; have := r.bel.size; omega) (hnN.keep fun g hg => r.bel.block g (hS g hg)) (hmN.keep fun g hg => r.bel.block g (hS g hg))) ?_)
  rintro ρ w1 v1 w2 r he hw rfl
  clear r he
  conv => whnf
  refine BrS.mk (fun h => ?_) (fun h => ?_)
  · have h : n < m := by
      have := of_decide_eq_true h
      unfold cmpN at this
      split at this
      · assumption
      · split at this <;> omega
    conv => whnf
    intro ρ3 w3 r3
    refine ⟨_, rfl, hw.tr r3.bel, _, _, rfl, ?_, ?_⟩
    · rw [Nat.div_eq_of_lt h]; exact NatR.nil _ _
    · rw [Nat.mod_eq_of_lt h]
      exact (hnN.keep fun g hg => (hw.tr r3.bel).block g (hS g hg)).weak fun g hg => .inl hg
  have h : m ≤ n := by
    have := of_decide_eq_false h
    unfold cmpN at this
    split at this
    · omega
    · omega
  have hlmn := ln_mono h
  conv => whnf
  refine BrS.mk (fun h1 => ?_) (fun h1 => ?_)
  · have h1 : y.ls.length = 1 := by have := eq_of_beq h1; omega
    obtain ⟨b, hyb⟩ := List.length_eq_one_iff.1 h1
    have hb : y.ls[0]? = some b := by rw [hyb]; rfl
    have hb32 := y.lm.at hb
    have hmb : m = b := by rw [← hq1, hyb]; simp [val]
    subst hmb
    obtain ⟨ad, had, hload⟩ := y.load hS hw hb
    conv => whnf
    refine ⟨ad, had, ⟨by omega, by omega⟩, ?_⟩
    conv => whnf
    refine ⟨.int .u32 m, hload _ _ _, ?_⟩
    conv => whnf
    refine callE_S (callE_con (Φ := fun _ w' v w2 => ∃ q, v = .tuple #[q, .int .u32 ((val x.ls % m : Nat) : Int)] ∧ NatR w2 (Nw (fun _ => False) w' w2) q (val x.ls / m)) (fun ρ w' r => ?_) ?_)
    · refine short_c (S := S) (fun g hg => by have := hS g hg; have := (hw.tr r.bel).size; omega) ⟨x.lm, x.le, _, _, rfl, x.cap, fun j u hu => ?_⟩ (by omega) hm0 hb32
      obtain ⟨ad, e1, e2, e3⟩ := x.cell j u hu
      exact ⟨ad, e1, e2, cellS hS hw r e2 e3⟩
    rintro ρ w3 v3 w4 r he hb4 ⟨q, rfl, hq⟩
    replace hw := hw.tr hb4
    have hqN := hq.got (S := fun _ => False) r.baseLe (iv := (w3.heap.size, w4.heap.size) :: [(w1.heap.size, w2.heap.size)]) List.mem_cons_self
    rw [hp1] at hqN
    rw [hp1]
    clear r he hb4 hq
    generalize (w3.heap.size, w4.heap.size) :: [(w1.heap.size, w2.heap.size)] = iv at *
    have hml : n % m < m := Nat.mod_lt _ hm0
    generalize n % m = rem at *
    conv => whnf
    refine callE_free (Φ := fun ρ _ v w2 => Limbs w2 (fun g => g = (ρ 0).g) v (trimL [rem])) (H' := []) 0 rfl (by simp) trivial rfl (fun ρ w' r => r.nn 0 _ rfl (by intros; simp) (by simp)) (fun ρ w' r => ?_) ?_
    · have hL := r.boxLimbs (id := 0) (ls := [rem]) rfl (by intro x hx; simp at hx; omega) (by simp)
      exact trimmed_c (fun g hg => by rw [hg]; exact (r.low 0 _ rfl (r.nn 0 _ rfl (by intros; simp) (by simp))).2) hL
    rintro ρ w5 v5 w6 r he hb6 hL
    have hlow := r.low 0 _ rfl (r.nn 0 _ rfl (by intros; simp) (by simp))
    have hs := he.size
    replace hw := hw.tr hb6
    replace hqN := hqN.past (iv' := ((ρ 0).g, (ρ 0).g + 1) :: (w5.heap.size, w6.heap.size) :: iv) r (fun g h => h.elim) he fun x hx => by simp [hx]
    generalize (ρ 0).g = g0 at *
    have hrN : NatR w6 (Cv (fun _ => False) w.heap.size ((g0, g0 + 1) :: (w5.heap.size, w6.heap.size) :: iv)) v5 rem := by
      have := hL.trimmed
      simp only [val, Nat.mul_zero, Nat.add_zero] at this
      exact this.weak fun k hk => .inr ⟨by omega, g0, g0 + 1, by simp, by omega, by omega⟩
    clear hL r he hb6 hs hlow
    generalize (g0, g0 + 1) :: (w5.heap.size, w6.heap.size) :: iv = iv2 at *
    conv => whnf
    intro ρ3 w7 r3
    exact ⟨_, rfl, hw.tr r3.bel, _, _, rfl, (hqN.rel r3 fun g h => h.elim).weak fun g hg => Cv.nw hg r3, ((hrN.rel r3 fun g h => h.elim).weak fun g hg => Cv.nw hg r3).weak fun g hg => hg.elim (fun h => h.elim) .inr⟩
  · have h1 : y.ls.length ≠ 1 := fun e => by rw [e] at h1; simp at h1
    have hm1 : 0 < ln m := by
      rcases Nat.eq_zero_or_pos (ln m) with h | h
      · have := ln_le.1 (Nat.le_of_eq h); rw [wt_zero] at this; omega
      · exact h
    obtain ⟨t, ht⟩ : ∃ t, y.ls.length = t + 1 := ⟨y.ls.length - 1, by omega⟩
    obtain ⟨dt, hdt⟩ : ∃ q, y.ls[t]? = some q := ⟨_, List.getElem?_eq_getElem (by omega)⟩
    have hdt0 : 0 < dt := by
      have := hq2 dt (by rw [List.getLast?_eq_getElem?, ht]; exact hdt)
      omega
    have hdt32 := y.lm.at hdt
    obtain ⟨hby, hlnD⟩ := norm_spec y.lm ht hdt hdt0
    rw [hq1] at hlnD
    obtain ⟨ad, had, hload⟩ := y.load hS hw hdt
    conv => whnf
    refine ⟨(t : Int), by rw [wrap64] <;> omega, ?_⟩
    conv => whnf
    refine ⟨ad, had, ⟨by omega, by omega⟩, ?_⟩
    conv => whnf
    refine ⟨.int .u32 dt, hload _ _ _, ?_⟩
    conv => whnf
    refine callE_S (callE_con (Φ := fun _ _ v _ => v = .int .i64 ((32 - blen dt : Nat) : Int)) (fun ρ w' r => lz32_c dt w' hdt32) ?_)
    rintro ρ w3 v3 w4 r he hb4 rfl
    replace hw := hw.tr hb4
    clear r he hb4
    generalize hbyd : 32 - blen dt = b at *
    conv => whnf
    refine ⟨(b : Int), wrapU64n (by omega), ?_⟩
    conv => whnf
    refine callE_S (callE_con (Φ := fun _ w' v w2 => ∃ out, Fresh w' w2 v out ∧ out.length = y.ls.length + 1 ∧ val out = val y.ls * 2 ^ b) (fun ρ w' r => ?_) ?_)
    · refine shifted_c (S := S) (fun g hg => by have := hS g hg; have := (hw.tr r.bel).size; omega) ⟨y.lm, y.le, _, _, rfl, y.cap, fun j u hu => ?_⟩ (by omega) hby
      obtain ⟨ad, e1, e2, e3⟩ := y.cell j u hu
      exact ⟨ad, e1, e2, cellS hS hw r e2 e3⟩
    rintro ρ w5 v5 w6 r he hb6 ⟨dl, ⟨gd, rfl, hgd1, hgd2, hgd3⟩, hdl, hdv⟩
    replace hw := hw.tr hb6
    rw [hq1] at hdv
    have hB5 : w.heap.size ≤ w5.heap.size := r.baseLe
    have hcd : Cv (fun _ => False) w.heap.size ((w5.heap.size, w6.heap.size) :: [(w3.heap.size, w4.heap.size), (w1.heap.size, w2.heap.size)]) gd := .inr ⟨by omega, _, _, List.mem_cons_self, hgd1, heap_lt hgd2⟩
    clear r he hb6
    generalize (w5.heap.size, w6.heap.size) :: [(w3.heap.size, w4.heap.size), (w1.heap.size, w2.heap.size)] = iv at *
    have hF : ∀ g : Nat, (fun _ : Nat => False) g → g < w.heap.size := fun g h => h.elim
    conv => whnf
    refine callE_S (callE_con (Φ := fun _ _ v w2 => Limbs w2 (fun x => x = gd) v (trimL dl)) (fun ρ w' r => trimmed_c (fun g hg => by rw [hg]; exact Rel.old r hF gd hcd) (fullRow (by rw [Rel.same r hF hcd]; exact hgd2) hgd3 (by omega))) ?_)
    rintro ρ w7 v6 w8 r he hb8 hL
    replace hw := hw.tr hb8
    have hgd8 : gd < w8.heap.size := by have := Rel.old r hF gd hcd; have := he.size; omega
    replace hcd := hcd.mono (iv' := (w7.heap.size, w8.heap.size) :: iv) fun p hp => List.mem_cons_of_mem _ hp
    have hdN := hL.trimmed
    rw [hdv] at hdN
    clear hL r he hb8 hgd2 hgd3 hdv
    generalize (w7.heap.size, w8.heap.size) :: iv = iv at *
    obtain ⟨dp, rfl, hd1, hd2⟩ := hdN.la
    have hdpl := length_ln dp.lm hd2
    rw [hd1, hlnD] at hdpl
    generalize hDd : m * 2 ^ b = D at *
    have hD0 : 0 < D := by rw [← hDd]; exact Nat.mul_pos hm0 (Nat.two_pow_pos b)
    conv => whnf
    refine callE_S (callE_con (Φ := fun _ w' v w2 => ∃ out, Fresh w' w2 v out ∧ out.length = x.ls.length + 1 ∧ val out = val x.ls * 2 ^ b) (fun ρ w' r => ?_) ?_)
    · refine shifted_c (S := S) (fun g hg => by have := hS g hg; have := (hw.tr r.bel).size; omega) ⟨x.lm, x.le, _, _, rfl, x.cap, fun j u hu => ?_⟩ (by omega) hby
      obtain ⟨ad, e1, e2, e3⟩ := x.cell j u hu
      exact ⟨ad, e1, e2, cellS hS hw r e2 e3⟩
    rintro ρ w9 v9 w10 r he hb10 ⟨rs0, ⟨gr, rfl, hgr1, hgr2, hgr3⟩, hrl, hrv⟩
    replace hw := hw.tr hb10
    rw [hp1] at hrv
    have hB9 : w.heap.size ≤ w9.heap.size := r.baseLe
    have hcr : Cv (fun _ => False) w.heap.size ((w9.heap.size, w10.heap.size) :: iv) gr := .inr ⟨by omega, _, _, List.mem_cons_self, hgr1, heap_lt hgr2⟩
    have hne : gr ≠ gd := by have := r.size; omega
    replace hdN : NatR w10 (fun x => x = gd) (.slice dp.a dp.ls.length dp.c) D := hdN.keep fun x hx => by
      rw [hx, he.block gd (Rel.old r hF gd hcd), Rel.same r hF hcd]
    have hgd10 : gd < w10.heap.size := by have := Rel.old r hF gd hcd; have := he.size; omega
    replace hcd := hcd.mono (iv' := (w9.heap.size, w10.heap.size) :: iv) fun p hp => List.mem_cons_of_mem _ hp
    clear r he hb10
    generalize (w9.heap.size, w10.heap.size) :: iv = iv at *
    have hgrB : w.heap.size ≤ gr := by omega
    clear hgd1 hB5 hgd8 hgr1 hB9
    conv => whnf
    obtain ⟨L, hL⟩ : ∃ L, rs0.length = t + 1 + L := ⟨rs0.length - (t + 1), by omega⟩
    refine ⟨(L : Int), by rw [wrap64] <;> omega, ?_⟩
    conv => whnf
    refine ⟨L, L, rfl, rfl, Nat.le_refl _, by omega, by omega, ?_⟩
    conv => whnf
    refine ⟨(L : Int) - 1, by rw [wrap64] <;> omega, ?_⟩
    conv => whnf
    refine ⟨Nat × List Nat × List Nat × World, fun z => ⟨[(8, .o (.v (.int .u64 b))), (9, .o (.v (.slice dp.a dp.ls.length dp.c))), (10, .o (.v (.slice (some ⟨gr, 0, none⟩) rs0.length rs0.length))), (11, .o (.s 0 0 L L)), (12, .o (.v (.int .i64 ((z.1 : Int) - 1))))],
        [(0, .arr T.uint32 (U z.2.1))], 1, iv, z.2.2.2⟩, fun z => z.1,
      fun z => z.1 ≤ L ∧ Bel w.heap.size w z.2.2.2 ∧ z.2.1.length = L ∧ z.2.2.1.length = rs0.length ∧ Lm z.2.1 ∧ Lm z.2.2.1 ∧ z.2.2.2.heap[gr]? = some (.cells (U z.2.2.1).toArray T.uint32 (0, 0)) ∧ NatR z.2.2.2 (fun x => x = gd) (.slice dp.a dp.ls.length dp.c) D ∧
        gd < z.2.2.2.heap.size ∧ val z.2.2.1 < wt z.1 * D ∧ n * 2 ^ b = wt z.1 * (D * val (z.2.1.drop z.1)) + val z.2.2.1, ?_, ?_⟩
    · intro ρ w' r
      rw [U_zero] at r
      refine ⟨(L, List.replicate L 0, rs0, w'), ⟨Nat.le_refl _, hw.tr r.bel, by simp, rfl, Lm.replicate _, hgr3, ?_, ?_, ?_, ?_, ?_⟩, Sub.gen [] r ⟨rfl, trivial⟩ ⟨rfl, rfl, rfl, rfl, rfl, trivial⟩ (by simp [ScH, Blk.scopd]) (by simp [ScE, SV.sc, At.sc]) (by rfl) (by simp)⟩
      · dsimp only; rw [Rel.same r hF hcr]; exact hgr2
      · exact hdN.keep fun x hx => by rw [hx]; exact Rel.same r hF hcd
      · exact Rel.old r hF gd hcd
      · dsimp only
        have := div_start (b := b) hm0 h
        rw [hDd, ← hyl, ht, ← hxl, show x.ls.length + 1 - (t + 1) = L by omega] at this
        rw [hrv]; exact this
      · dsimp only; rw [hrv]; simp [val]
    · rintro ⟨k, out, rs, w11⟩ ⟨hk, hw, hol, hrl2, hlo, hlr, hgr, hdN, hgd, hi1, hi2⟩
      dsimp only at hk hw hol hrl2 hlo hlr hgr hdN hgd hi1 hi2 ⊢
      conv => whnf
      refine BrS.mk (fun h9 => ?_) (fun h9 => ?_)
      · have h9 : (k : Int) - 1 ≥ 0 := of_decide_eq_true h9
        obtain ⟨k, rfl⟩ : ∃ q, k = q + 1 := ⟨k - 1, by omega⟩
        rw [show ((k + 1 : Nat) : Int) - 1 = (k : Int) by omega]
        have hDN : D < wt (t + 1) := ln_le.1 (Nat.le_of_eq hlnD)
        obtain ⟨a1, a2, a3⟩ := div_part (N := t + 1) hlr hDN (by omega) hi1
        have hdig := fun (w' : World) => @digit_c (fun x => x = gd) w' (.slice dp.a dp.ls.length dp.c) D gr k rs
        rw [hlnD] at hdig
        simp only [hrl2] at hdig
        generalize hP : val ((rs.drop k).take (t + 1 + 1)) = P at *
        have hQ32 : P / D < 4294967296 := (Nat.div_lt_iff_lt_mul hD0).2 (by rw [Nat.mul_comm] at a3; omega)
        conv => whnf
        refine ⟨fun ρ w' r => (hdig w' (fun g hg => by rw [hg]; exact Rel.old r hF gd hcd) hne (hdN.keep fun x hx => by rw [hx]; exact Rel.same r hF hcd) hD0 (by rw [Rel.same r hF hcr]; exact hgr) hlr (by omega) (by omega) a3).mono fun e w12 he => ?_⟩
        obtain ⟨rfl, hgb, rs', e1, e2, e3, e4, e5, e6⟩ := he
        refine ⟨_, _, _, rfl, r.rowed (fun id b hb hn => Rel.not r hF hcr id b hb hn) hgb, ?_⟩
        obtain ⟨hi1', hi2'⟩ := div_step (N := t + 1) hD0 hlr (e1.trans hrl2.symm) hDN (by omega) hi1 hi2 hP e3 e4 e5 (by omega)
        have hw12 : Bel w.heap.size w w12 := (hw.tr r.bel).tr (Bel.grown hgb (fun g hg => by injection hg with hg; omega) r.baseLe)
        have hdN12 : NatR w12 (fun x => x = gd) (.slice dp.a dp.ls.length dp.c) D := hdN.keep fun x hx => by
          rw [hx, hgb.block gd (Rel.old r hF gd hcd) (fun e => hne (Option.some.inj e).symm), Rel.same r hF hcd]
        have hgd12 : gd < w12.heap.size := by have := Rel.old r hF gd hcd; have := hgb.size; omega
        clear r hgb
        generalize P / D = Q at *
        conv => whnf
        refine ⟨⟨by omega, by omega⟩, ?_⟩
        conv => whnf
        refine ⟨by rw [U_len]; omega, U (out.set k Q), U_store out k _ (by omega) (by simp), ?_⟩
        conv => whnf
        refine ⟨(k : Int) - 1, by rw [wrap64] <;> omega, ?_⟩
        conv => whnf
        intro ρ3 w3 r3
        refine ⟨(k, out.set k Q, rs', w3), ⟨by dsimp only; omega, hw12.tr r3.bel, by simp [hol], e1.trans rfl, hlo.set hQ32, e2, ?_, ?_, ?_, hi1', hi2'⟩,
          Sub.gen [] r3 ⟨rfl, trivial⟩ ⟨rfl, rfl, rfl, rfl, rfl, trivial⟩ (by simp [ScH, Blk.scopd]) (by simp [ScE, SV.sc, At.sc]) (by rfl) (by simp), by dsimp only; omega⟩
        · dsimp only; rw [Rel.same r3 hF hcr]; exact e6
        · exact hdN12.keep fun x hx => by rw [hx]; exact Rel.same r3 hF hcd
        · exact Rel.old r3 hF gd hcd
      · have hk0 : k = 0 := by have : ¬ (k : Int) - 1 ≥ 0 := of_decide_eq_false h9
                               omega
        subst hk0
        rw [wt_zero, Nat.one_mul, List.drop_zero] at hi2
        rw [wt_zero, Nat.one_mul] at hi1
        rw [← hDd] at hi1 hi2
        obtain ⟨hq, hrem⟩ := div_end hm0 hi2 hi1
        have hfr : ∀ w' : World, w'.heap[gr]? = some (.cells (U rs).toArray T.uint32 (0, 0)) → Limbs w' (fun x => x = gr) (.slice (some ⟨gr, 0, none⟩) rs0.length rs0.length) rs := fun w' hh => by
          have := fullRow hh hlr (by omega)
          rwa [hrl2] at this
        conv => whnf
        refine callE_free (Φ := fun ρ _ v w2 => Limbs w2 (fun g => g = (ρ 0).g) v (trimL out)) (H' := []) 0 rfl (by simp) trivial rfl (fun ρ w' r => r.nn 0 _ rfl (by intros; simp) (by simp)) (fun ρ w' r => ?_) ?_
        · have hL := r.ownLimbs (id := 0) rfl hlo (by omega)
          rw [hol] at hL
          exact trimmed_c (fun g hg => by rw [hg]; exact (r.low 0 _ rfl (r.nn 0 _ rfl (by intros; simp) (by simp))).2) hL
        rintro ρ w13 v13 w14 r he hb14 hL
        replace hw := hw.tr hb14
        have hlow := r.low 0 _ rfl (r.nn 0 _ rfl (by intros; simp) (by simp))
        have hs := he.size
        have hgr14 : w14.heap[gr]? = some (.cells (U rs).toArray T.uint32 (0, 0)) := by rw [he.block gr (Rel.old r hF gr hcr), Rel.same r hF hcr]; exact hgr
        replace hcr := hcr.mono (iv' := ((ρ 0).g, (ρ 0).g + 1) :: (w13.heap.size, w14.heap.size) :: iv) fun p hp => by simp [hp]
        have hqN : NatR w14 (Cv (fun _ => False) w.heap.size (((ρ 0).g, (ρ 0).g + 1) :: (w13.heap.size, w14.heap.size) :: iv)) v13 (n / m) := by
          have := hL.trimmed
          rw [hq] at this
          exact this.weak fun k hk => .inr ⟨by omega, _, _, List.mem_cons_self, by omega, by omega⟩
        clear hL r he hb14 hlow hs
        generalize ((ρ 0).g, (ρ 0).g + 1) :: (w13.heap.size, w14.heap.size) :: iv = iv3 at *
        conv => whnf
        refine callE_S (callE_con (Φ := fun _ _ v w2 => Limbs w2 (fun x => x = gr) v (trimL rs)) (fun ρ w' r => trimmed_c (fun g hg => by rw [hg]; exact Rel.old r hF gr hcr) (hfr w' (by rw [Rel.same r hF hcr]; exact hgr14))) ?_)
        rintro ρ w15 v15 w16 r he hb16 hL
        replace hw := hw.tr hb16
        replace hqN := hqN.past (iv' := (w15.heap.size, w16.heap.size) :: iv3) r hF he fun x hx => List.mem_cons_of_mem _ hx
        replace hL := hL.weak (S' := Cv (fun _ => False) w.heap.size ((w15.heap.size, w16.heap.size) :: iv3)) fun g hg => by rw [hg]; exact hcr.cons
        clear r he hb16
        generalize (w15.heap.size, w16.heap.size) :: iv3 = iv4 at *
        have htl : (trimL rs).length ≤ rs.length := by
          obtain ⟨_, _, k, _, hk⟩ := trimL_spec rs
          rw [hk]; simp
          omega
        conv => whnf
        refine callE_S (callE_con (Φ := fun _ w' v w2 => NatR w2 (Nw (fun _ => False) w' w2) v (val (trimL rs) / 2 ^ b)) (fun ρ w' r => back_c (Rel.old r hF) (Limbs.rel hL r hF) (by omega) hby) ?_)
        rintro ρ w17 v17 w18 r he hb18 hr
        replace hw := hw.tr hb18
        rw [(trimL_spec rs).1, hrem] at hr
        have hrN := hr.got (S := fun _ => False) r.baseLe (iv := (w17.heap.size, w18.heap.size) :: iv4) List.mem_cons_self
        replace hqN := hqN.past (iv' := (w17.heap.size, w18.heap.size) :: iv4) r hF he fun x hx => List.mem_cons_of_mem _ hx
        clear r he hb18 hr hL
        generalize (w17.heap.size, w18.heap.size) :: iv4 = iv5 at *
        conv => whnf
        intro ρ3 w19 r3
        exact ⟨_, rfl, hw.tr r3.bel, _, _, rfl, (hqN.rel r3 hF).weak fun g hg => Cv.nw hg r3, ((hrN.rel r3 hF).weak fun g hg => Cv.nw hg r3).weak fun g hg => hg.elim (fun h => h.elim) .inr⟩
end Go.Ex

/- The greatest common divisor of package exact. No condition. -/
namespace Go.Ex
open Go Go.Sx Go.Proofs

theorem common_c {S : Nat → Prop} {w : World} {v u : Value} {n m : Nat} (hS : Old S w) (hn : NatR w S v n) (hm : NatR w S u m) (hln : ln n ≤ 100000000000) (hlm : ln m ≤ 100000000000) :
    Con PG N.exact_common #[v, u] w (Ret w fun v' w2 => NatR w2 (Nw S w w2) v' (Nat.gcd n m)) := by
  refine in_exact_common (by simp) ?_
  conv => whnf
  refine ⟨(Value × Nat) × (Value × Nat) × Iv × World, fun z => ⟨[(0, .o (.v z.1.1)), (1, .o (.v z.2.1.1))], [], 0, z.2.2.1, z.2.2.2⟩, fun z => z.2.1.2,
    fun z => Bel w.heap.size w z.2.2.2 ∧ NatR z.2.2.2 (Cv S w.heap.size z.2.2.1) z.1.1 z.1.2 ∧ NatR z.2.2.2 (Cv S w.heap.size z.2.2.1) z.2.1.1 z.2.1.2 ∧ ln z.1.2 ≤ 100000000000 ∧ ln z.2.1.2 ≤ 100000000000 ∧ Nat.gcd z.1.2 z.2.1.2 = Nat.gcd n m, ?_, ?_⟩
  · intro ρ w' r
    exact ⟨((v, n), (u, m), [], w'), ⟨r.bel, (hn.keep fun g hg => r.bel.block g (hS g hg)).weak fun _ hg => .inl hg, (hm.keep fun g hg => r.bel.block g (hS g hg)).weak fun _ hg => .inl hg, hln, hlm, rfl⟩,
      Sub.gen [] r trivial ⟨rfl, rfl, trivial⟩ trivial (by simp [ScE, SV.sc, At.sc]) (by rfl) (by simp)⟩
  · rintro ⟨⟨vx, x⟩, ⟨vy, y⟩, iv, w1⟩ ⟨hw, hx, hy, hlx, hly, hg⟩
    dsimp only at hw hx hy hlx hly hg ⊢
    have hyN := hy
    obtain ⟨p, rfl, hp1, hp2⟩ := hy.la
    have hpl := length_ln p.lm hp2
    rw [hp1] at hpl
    conv => whnf
    refine BrS.mk (fun h => ?_) (fun h => ?_)
    · have h : 0 < p.ls.length := by have : (p.ls.length : Int) > 0 := of_decide_eq_true h
                                     omega
      have hy0 : 0 < y := by
        rcases Nat.eq_zero_or_pos y with h0 | h0
        · rw [h0] at hpl; rw [ln_zero] at hpl; omega
        · exact h0
      conv => whnf
      refine callE_S (callE_con (Φ := fun _ w' v w2 => ∃ q r, v = .tuple #[q, r] ∧ NatR w2 (Nw (fun _ => False) w' w2) q (x / y) ∧ NatR w2 (Nw (Cv S w.heap.size iv) w' w2) r (x % y)) (fun ρ w' r => divide_c (Rel.old r hS) (hx.rel r hS) (hyN.rel r hS) hy0 hlx) ?_)
      rintro ρ w3 v3 w4 r he hb4 ⟨q, rm, rfl, -, hr⟩
      replace hw := hw.tr hb4
      have hrN : NatR w4 (Cv S w.heap.size ((w3.heap.size, w4.heap.size) :: iv)) rm (x % y) := hr.weak fun g hg => Nw.cv hg r.baseLe
      have hyN := hyN.past (iv' := (w3.heap.size, w4.heap.size) :: iv) r hS he fun x hx => List.mem_cons_of_mem _ hx
      clear r he hb4 hr hx hy
      generalize (w3.heap.size, w4.heap.size) :: iv = iv2 at *
      conv => whnf
      intro ρ5 w5 r5
      refine ⟨((_, y), (rm, x % y), iv2, w5), ⟨hw.tr r5.bel, hyN.rel r5 hS, hrN.rel r5 hS, hly, Nat.le_trans (ln_mono (Nat.le_of_lt (Nat.mod_lt x hy0))) hly, ?_⟩,
        Sub.gen [] r5 trivial ⟨rfl, rfl, trivial⟩ trivial (by simp [ScE, SV.sc, At.sc]) (by rfl) (by simp), Nat.mod_lt x hy0⟩
      dsimp only
      rw [← hg, Nat.gcd_comm x y, Nat.gcd_rec y x, Nat.gcd_comm]
    · have h : p.ls.length = 0 := by have : ¬ (p.ls.length : Int) > 0 := of_decide_eq_false h
                                     omega
      have hy0 : y = 0 := by
        have := lt_wt_ln y
        rw [← hpl, h, wt_zero] at this
        omega
      rw [hy0, Nat.gcd_zero_right] at hg
      conv => whnf
      intro ρ5 w5 r5
      exact ⟨_, rfl, hw.tr r5.bel, by rw [← hg]; exact (hx.rel r5 hS).weak fun g hg => Cv.nw hg r5⟩
end Go.Ex

/- Integers of package exact: reading, sign, sum, product. No condition. -/
namespace Go.Ex
open Go Go.Sx Go.Proofs

/-- a number with a sign -/
def sg (neg : Bool) (n : Nat) : Int := if neg then -(n : Int) else n
theorem sg_t (n : Nat) : sg true n = -(n : Int) := rfl
theorem sg_f (n : Nat) : sg false n = n := rfl
theorem sg_abs (b : Bool) (n : Nat) : (sg b n).natAbs = n := by cases b <;> simp [sg]
/-- an integer of the api, as it stands -/
def IntV (w : World) (S : Nat → Prop) (v : Value) (neg : Bool) (ls : List Nat) : Prop := ∃ lv, v = .agg #[.bool neg, lv] ∧ Limbs w S lv ls
/-- an integer of package exact -/
def NumR (w : World) (S : Nat → Prop) (v : Value) (z : Int) : Prop := ∃ nv, v = .agg #[.bool (decide (z < 0)), nv] ∧ NatR w S nv z.natAbs
section
variable {S S' : Nat → Prop} {H : Hp} {nx : Nat} {iv iv' : Iv} {B : Nat} {w w' w2 : World} {ρ : Nat → Sx.Val} {v : Value} {z : Int}
theorem NumR.keep (h : NumR w S v z) (hk : ∀ g, S g → w2.heap[g]? = w.heap[g]?) : NumR w2 S v z := by
  obtain ⟨nv, h1, h2⟩ := h; exact ⟨nv, h1, h2.keep hk⟩
theorem NumR.weak (h : NumR w S v z) (hk : ∀ g, S g → S' g) : NumR w S' v z := by
  obtain ⟨nv, h1, h2⟩ := h; exact ⟨nv, h1, h2.weak hk⟩
theorem NumR.rel (h : NumR w (Cv S B iv) v z) (r : Rel H nx iv B w ρ w') (hS : ∀ g, S g → g < B) : NumR w' (Cv S B iv) v z := h.keep fun _ hg => Rel.same r hS hg
theorem NumR.past (h : NumR w (Cv S B iv) v z) (r : Rel H nx iv B w ρ w') (hS : ∀ g, S g → g < B) (he : Ext w' w2) (hm : ∀ p, p ∈ iv → p ∈ iv') : NumR w2 (Cv S B iv') v z := by
  obtain ⟨nv, h1, h2⟩ := h; exact ⟨nv, h1, h2.past r hS he hm⟩
theorem NumR.got (h : NumR w2 (Nw (fun _ => False) w' w2) v z) (hB : B ≤ w'.heap.size) (hm : (w'.heap.size, w2.heap.size) ∈ iv) : NumR w2 (Cv S B iv) v z := h.weak fun _ hg => hg.got hB hm
end
theorem ln_pos {n k : Nat} (h : k = ln n) : 0 < k ↔ 0 < n := by
  have h1 := @ln_le n 0
  rw [wt_zero] at h1
  omega

theorem Limbs.shape {S : Nat → Prop} {w : World} {v : Value} {ls : List Nat} (h : Limbs w S v ls) : ∃ a n c, v = .slice a n c := by
  obtain ⟨a, c, h, _⟩ := h.sl
  exact ⟨a, _, c, h⟩
theorem NatR.shape {S : Nat → Prop} {w : World} {v : Value} {n : Nat} (h : NatR w S v n) : ∃ a n c, v = .slice a n c := by
  obtain ⟨_, h, _⟩ := h
  exact h.shape
theorem Limbs.arg {S : Nat → Prop} {w : World} {v : Value} {ls : List Nat} (h : Limbs w S v ls) (iv : Iv) : Limbs w (Cv S w.heap.size iv) v ls := h.weak fun _ h => .inl h
theorem NatR.arg {S : Nat → Prop} {w : World} {v : Value} {n : Nat} (h : NatR w S v n) (iv : Iv) : NatR w (Cv S w.heap.size iv) v n := h.weak fun _ h => .inl h
theorem NatR.out {S : Nat → Prop} {H : Hp} {nx : Nat} {iv : Iv} {w w1 w' : World} {ρ : Nat → Sx.Val} {v : Value} {n : Nat} (h : NatR w1 (Cv S w.heap.size iv) v n) (r : Rel H nx iv w.heap.size w1 ρ w') (hS : Old S w) : NatR w' (Nw S w w') v n :=
  (h.rel r hS).weak fun _ hg => Cv.nw hg r
theorem NumR.out {S : Nat → Prop} {H : Hp} {nx : Nat} {iv : Iv} {w w1 w' : World} {ρ : Nat → Sx.Val} {v : Value} {z : Int} (h : NumR w1 (Cv S w.heap.size iv) v z) (r : Rel H nx iv w.heap.size w1 ρ w') (hS : Old S w) : NumR w' (Nw S w w') v z :=
  (h.rel r hS).weak fun _ hg => Cv.nw hg r
theorem neg_pos {n k : Nat} (h : k = ln n) : decide ((k : Int) > 0) = decide (-(n : Int) < 0) := by
  have := ln_pos h
  exact decide_eq_decide.2 (by omega)
theorem oldF (w : World) : Old (fun _ => False) w := fun _ h => h.elim

theorem of_c {S : Nat → Prop} {w : World} {v : Value} {neg : Bool} {ls : List Nat} (hS : Old S w) (h : IntV w S v neg ls) :
    Con PG N.exact_of #[v] w (Ret w fun v' w2 => NumR w2 (Nw S w w2) v' (sg neg (val ls))) := by
  obtain ⟨lv, rfl, hl⟩ := h
  replace hl := hl.arg []
  refine in_exact_of (by simp) ?_
  conv => whnf
  refine callE_S (callE_con (Φ := fun _ _ v w2 => Limbs w2 (Cv S w.heap.size []) v (trimL ls)) (fun ρ w' r => trimmed_c (Rel.old r hS) (Limbs.rel hl r hS)) ?_)
  rintro ρ w1 v1 w2 r he hw hL
  have hN := hL.trimmed.weak (S' := Cv S w.heap.size [(w1.heap.size, w2.heap.size)]) fun _ hg => hg.cons
  clear r he hL hl
  have hN2 := hN
  obtain ⟨p, rfl, hp1, hp2⟩ := hN.la
  have hpl := length_ln p.lm hp2
  rw [hp1] at hpl
  cases neg
  · conv => whnf
    intro ρ3 w3 r3
    exact ⟨_, rfl, hw.tr r3.bel, _, rfl, by rw [sg_abs]; exact hN2.out r3 hS⟩
  · conv => whnf
    intro ρ3 w3 r3
    exact ⟨_, rfl, hw.tr r3.bel, _, by rw [sg_t, ← neg_pos hpl]; rfl, by rw [sg_abs]; exact hN2.out r3 hS⟩

/-- what give hands back: the normal form, in new memory -/
theorem give_c {S : Nat → Prop} {w : World} {v : Value} {z : Int} (hS : Old S w) (h : NumR w S v z) (hln : ln z.natAbs ≤ 100000000000) :
    Con PG N.exact_number_give #[v] w (Ret w fun v' w2 => ∃ ls, IntV w2 (Nw (fun _ => False) w w2) v' (decide (z < 0)) ls ∧ Nz ls ∧ val ls = z.natAbs) := by
  obtain ⟨nv, rfl, hn⟩ := h
  obtain ⟨ls, hl, hz, hv⟩ := hn
  replace hl := hl.arg []
  refine in_exact_number_give (by simp) ?_
  conv => whnf
  refine callE_S (callE_con (Φ := fun _ _ v w2 => Limbs w2 (Cv S w.heap.size []) v (trimL ls)) (fun ρ w' r => trimmed_c (Rel.old r hS) (Limbs.rel hl r hS)) ?_)
  rintro ρ w1 v1 w2 r he hw hL
  rw [trimL_of_nz hz] at hL
  have hpl := length_ln hl.lm hz
  rw [hv] at hpl
  replace hL := hL.weak (S' := Cv S w.heap.size [(w1.heap.size, w2.heap.size)]) fun _ hg => hg.cons
  clear r he hl
  have hL2 := hL
  obtain ⟨p, rfl, hp⟩ := hL.la
  have hpz : (p.ls.length : Int) > 0 ↔ z ≠ 0 := by
    have h1 := ln_pos hpl
    rw [hp]
    omega
  subst hp
  generalize hb : decide (z < 0) = b
  cases b
  all_goals
    conv => whnf
    refine callE_S (callE_con (Φ := fun _ w' v w2 => Limbs w2 (Nw (fun _ => False) w' w2) v p.ls) (fun ρ w' r => clone_c (Rel.old r hS) (Limbs.rel hL2 r hS) (by omega)) ?_)
    rintro ρ w3 v3 w4 r he hb4 hc
    replace hw := hw.tr hb4
    have hcL := hc.got (S := fun _ => False) r.baseLe (iv := (w3.heap.size, w4.heap.size) :: [(w1.heap.size, w2.heap.size)]) List.mem_cons_self
    clear r he hb4 hc hL hL2
    obtain ⟨a3, n3, c3, rfl⟩ := hcL.shape
    conv => whnf
    intro ρ5 w5 r5
    refine ⟨_, rfl, hw.tr r5.bel, p.ls, ⟨_, ?_, (Limbs.rel hcL r5 (oldF w)).weak fun _ hg => Cv.nw hg r5⟩, hz, hv⟩
  · rfl
  · have : decide ((p.ls.length : Int) > 0) = true := decide_eq_true (hpz.2 (by have := of_decide_eq_true hb; omega))
    rw [← this]
    rfl

theorem sign_c {S : Nat → Prop} {w : World} {v : Value} {z : Int} (h : NumR w S v z) : Con PG N.exact_number_sign #[v] w (Ret w fun v' _ => v' = .int .i64 z.sign) := by
  obtain ⟨nv, rfl, hn⟩ := h
  obtain ⟨p, rfl, hp1, hp2⟩ := hn.la
  have hpl := length_ln p.lm hp2
  rw [hp1] at hpl
  have hpz := ln_pos hpl
  generalize hb : decide (z < 0) = b
  refine in_exact_number_sign (by simp) ?_
  conv => whnf
  refine BrS.mk (fun h => ?_) (fun h => ?_)
  · have h : p.ls.length = 0 := by have := eq_of_beq h; omega
    have hz : z = 0 := by omega
    subst hz
    conv => whnf
    intro ρ w2 r
    exact ⟨_, rfl, r.bel, rfl⟩
  · have h : p.ls.length ≠ 0 := fun e => by rw [e] at h; simp at h
    have hz : z ≠ 0 := by omega
    cases b
    · have := of_decide_eq_false hb
      conv => whnf
      intro ρ w2 r
      exact ⟨_, rfl, r.bel, by rw [Int.sign_eq_one_of_pos (by omega)]; rfl⟩
    · have := of_decide_eq_true hb
      conv => whnf
      intro ρ w2 r
      exact ⟨_, rfl, r.bel, by rw [Int.sign_eq_neg_one_of_neg (by omega)]; rfl⟩

theorem numMinus_c {S : Nat → Prop} {w : World} {v : Value} {z : Int} (hS : Old S w) (h : NumR w S v z) : Con PG N.exact_number_minus #[v] w (Ret w fun v' w2 => NumR w2 (Nw S w w2) v' (-z)) := by
  obtain ⟨nv, rfl, hn⟩ := h
  have hn2 := hn.arg []
  obtain ⟨p, rfl, hp1, hp2⟩ := hn.la
  have hpl := length_ln p.lm hp2
  rw [hp1] at hpl
  have hpz := ln_pos hpl
  have hab : (-z).natAbs = z.natAbs := Int.natAbs_neg z
  generalize hb : decide (z < 0) = b
  refine in_exact_number_minus (by simp) ?_
  cases b
  · have := of_decide_eq_false hb
    have hd : decide ((p.ls.length : Int) > 0) = decide (-z < 0) := decide_eq_decide.2 (by omega)
    conv => whnf
    intro ρ w2 r
    exact ⟨_, rfl, r.bel, _, by rw [← hd]; rfl, by rw [hab]; exact hn2.out r hS⟩
  · have := of_decide_eq_true hb
    have hd : decide (-z < 0) = false := decide_eq_false (by omega)
    conv => whnf
    intro ρ w2 r
    exact ⟨_, rfl, r.bel, _, by rw [hd]; rfl, by rw [hab]; exact hn2.out r hS⟩
end Go.Ex

/- Integers of package exact: sum, product, comparison. No condition. -/
namespace Go.Ex
open Go Go.Sx Go.Proofs

/-- the shape of an integer -/
theorem NumR.num {S : Nat → Prop} {w : World} {v : Value} {z : Int} (h : NumR w S v z) : ∃ a n c, v = .agg #[.bool (decide (z < 0)), .slice a n c] ∧ NatR w S (.slice a n c) z.natAbs := by
  obtain ⟨nv, h1, h2⟩ := h
  obtain ⟨a, n, c, rfl⟩ := h2.shape
  exact ⟨a, n, c, h1, h2⟩

theorem numPlus_c {S : Nat → Prop} {w : World} {v u : Value} {x y : Int} (hS : Old S w) (hx : NumR w S v x) (hy : NumR w S u y) (hlx : ln x.natAbs ≤ 100000000000) (hly : ln y.natAbs ≤ 100000000000) :
    Con PG N.exact_number_plus #[v, u] w (Ret w fun v' w2 => NumR w2 (Nw (fun _ => False) w w2) v' (x + y)) := by
  obtain ⟨nx, rfl, hxn⟩ := hx
  obtain ⟨ny, rfl, hyn⟩ := hy
  obtain ⟨ax, lx, cx, rfl⟩ := hxn.shape
  obtain ⟨ay, ly, cy, rfl⟩ := hyn.shape
  replace hxn := hxn.arg []
  replace hyn := hyn.arg []
  generalize hbx : decide (x < 0) = bx
  generalize hby : decide (y < 0) = b2
  refine in_exact_number_plus (by simp) ?_
  have hsame : bx = b2 → (x + y).natAbs = x.natAbs + y.natAbs ∧ decide (x + y < 0) = bx := fun e => by
    cases bx <;> subst e
    · have h1 := of_decide_eq_false hbx
      have h2 := of_decide_eq_false hby
      exact ⟨by omega, decide_eq_false (by omega)⟩
    · have h1 := of_decide_eq_true hbx
      have h2 := of_decide_eq_true hby
      exact ⟨by omega, decide_eq_true (by omega)⟩
  have hdiff : bx ≠ b2 → y.natAbs ≤ x.natAbs → (x + y).natAbs = x.natAbs - y.natAbs ∧ (decide (x + y < 0) = (bx && decide (x.natAbs - y.natAbs ≠ 0))) := fun e h => by
    cases bx
    · have h1 := of_decide_eq_false hbx
      cases b2
      · exact absurd rfl e
      have h2 := of_decide_eq_true hby
      exact ⟨by omega, by rw [Bool.false_and]; exact decide_eq_false (by omega)⟩
    · have h1 := of_decide_eq_true hbx
      cases b2
      · have h2 := of_decide_eq_false hby
        exact ⟨by omega, by rw [Bool.true_and]; exact decide_eq_decide.2 (by omega)⟩
      · exact absurd rfl e
  have hdiff2 : bx ≠ b2 → x.natAbs < y.natAbs → (x + y).natAbs = y.natAbs - x.natAbs ∧ decide (x + y < 0) = b2 := fun e h => by
    cases bx
    · have h1 := of_decide_eq_false hbx
      cases b2
      · exact absurd rfl e
      have h2 := of_decide_eq_true hby
      exact ⟨by omega, decide_eq_true (by omega)⟩
    · have h1 := of_decide_eq_true hbx
      cases b2
      · have h2 := of_decide_eq_false hby
        exact ⟨by omega, decide_eq_false (by omega)⟩
      · exact absurd rfl e
  by_cases hbb : bx = b2
  · obtain ⟨h1, h2⟩ := hsame hbb
    subst hbb
    clear hsame hdiff hdiff2
    cases bx
    all_goals
      conv => whnf
      refine drawn_of_pi hτ hmix [.x 0, .x 1, .x 2, .x 3, .x 4, .x 5, .x 6, .x 7, .x 8] (by kernel_rfl) (by kernel_rfl) ?_
      conv => whnf
      refine callE_con (Φ := fun _ w' v w2 => NatR w2 (Nw (fun _ => False) w' w2) v (x.natAbs + y.natAbs)) (fun ρ w' r => plus_c (Rel.old r hS) (hxn.rel r hS) (hyn.rel r hS) (by omega) (by omega)) ?_
      rintro ρ w3 v3 w4 r he hw hn
      have hN := hn.got (S := fun _ => False) r.baseLe (iv := (w3.heap.size, w4.heap.size) :: []) List.mem_cons_self
      clear r he hn hxn hyn
      obtain ⟨a3, n3, c3, rfl⟩ := hN.shape
      conv => whnf
      intro ρ5 w5 r5
      exact ⟨_, rfl, hw.tr r5.bel, _, by rw [h2]; rfl, by rw [h1]; exact hN.out r5 (oldF w)⟩
  · replace hdiff := hdiff hbb
    replace hdiff2 := hdiff2 hbb
    clear hsame
    have hcmp : ∀ d : Int, d = cmpN x.natAbs y.natAbs → (0 ≤ d ↔ y.natAbs ≤ x.natAbs) := fun d e => by
      rw [e]; unfold cmpN
      split
      · omega
      · split <;> omega
    cases bx <;> cases b2 <;> first | exact absurd rfl hbb | skip
    all_goals
      conv => whnf
      refine callE_S (callE_con (Φ := fun _ _ v _ => v = .int .i64 (cmpN x.natAbs y.natAbs)) (fun ρ w' r => cmp_c (Rel.old r hS) (hxn.rel r hS) (hyn.rel r hS)) ?_)
      rintro ρ w1 v1 w2 r he hw rfl
      replace hxn := hxn.past (iv' := [(w1.heap.size, w2.heap.size)]) r hS he fun x hx => List.mem_cons_of_mem _ hx
      replace hyn := hyn.past (iv' := [(w1.heap.size, w2.heap.size)]) r hS he fun x hx => List.mem_cons_of_mem _ hx
      clear r he
      conv => whnf
      refine BrS.mk (fun h => ?_) (fun h => ?_)
      · have h := (hcmp _ rfl).1 (of_decide_eq_true h)
        obtain ⟨h1, h2⟩ := hdiff h
        conv => whnf
        refine callE_S (callE_con (Φ := fun _ w' v w2 => NatR w2 (Nw (fun _ => False) w' w2) v (x.natAbs - y.natAbs)) (fun ρ w' r => minus_c (Rel.old r hS) (hxn.rel r hS) (hyn.rel r hS) h (by omega)) ?_)
        rintro ρ w3 v3 w4 r he hb4 hn
        replace hw := hw.tr hb4
        have hN := hn.got (S := fun _ => False) r.baseLe (iv := (w3.heap.size, w4.heap.size) :: [(w1.heap.size, w2.heap.size)]) List.mem_cons_self
        clear r he hn hxn hyn hb4
        have hN2 := hN
        obtain ⟨p, rfl, hp1, hp2⟩ := hN.la
        have hpl := length_ln p.lm hp2
        rw [hp1] at hpl
        have hpz := ln_pos hpl
        have hd : decide ((p.ls.length : Int) > 0) = decide (x.natAbs - y.natAbs ≠ 0) := decide_eq_decide.2 (by omega)
        conv => whnf
        intro ρ5 w5 r5
        exact ⟨_, rfl, hw.tr r5.bel, _, by rw [h2, ← hd]; rfl, by rw [h1]; exact hN2.out r5 (oldF w)⟩
      · have h : x.natAbs < y.natAbs := by
          have h0 := of_decide_eq_false h
          have := hcmp _ rfl
          omega
        obtain ⟨h1, h2⟩ := hdiff2 h
        conv => whnf
        refine drawn_of_pi hτ hmix [.x 0, .x 1, .x 2, .x 3, .x 4, .x 5, .x 6, .x 7, .x 8] (by kernel_rfl) (by kernel_rfl) ?_
        conv => whnf
        refine callE_con (Φ := fun _ w' v w2 => NatR w2 (Nw (fun _ => False) w' w2) v (y.natAbs - x.natAbs)) (fun ρ w' r => minus_c (Rel.old r hS) (hyn.rel r hS) (hxn.rel r hS) (by omega) (by omega)) ?_
        rintro ρ w3 v3 w4 r he hb4 hn
        replace hw := hw.tr hb4
        have hN := hn.got (S := fun _ => False) r.baseLe (iv := (w3.heap.size, w4.heap.size) :: [(w1.heap.size, w2.heap.size)]) List.mem_cons_self
        clear r he hn hxn hyn hb4
        obtain ⟨a3, n3, c3, rfl⟩ := hN.shape
        conv => whnf
        intro ρ5 w5 r5
        exact ⟨_, rfl, hw.tr r5.bel, _, by rw [h2]; rfl, by rw [h1]; exact hN.out r5 (oldF w)⟩

theorem numTimes_c {S : Nat → Prop} {w : World} {v u : Value} {x y : Int} (hS : Old S w) (hx : NumR w S v x) (hy : NumR w S u y) (hlx : ln x.natAbs ≤ 100000000000) (hly : ln y.natAbs ≤ 100000000000) :
    Con PG N.exact_number_times #[v, u] w (Ret w fun v' w2 => NumR w2 (Nw (fun _ => False) w w2) v' (x * y)) := by
  obtain ⟨nx, rfl, hxn⟩ := hx
  obtain ⟨ny, rfl, hyn⟩ := hy
  obtain ⟨ax, lx, cx, rfl⟩ := hxn.shape
  obtain ⟨ay, ly, cy, rfl⟩ := hyn.shape
  replace hxn := hxn.arg []
  replace hyn := hyn.arg []
  have hab := Int.natAbs_mul x y
  have hneg : decide (x * y < 0) = ((decide (x < 0) != decide (y < 0)) && decide (x.natAbs * y.natAbs ≠ 0)) := by
    by_cases h0 : x * y = 0
    · rw [← hab, h0]; simp
    · have hx0 : x ≠ 0 := fun e => h0 (by rw [e, Int.zero_mul])
      have hy0 : y ≠ 0 := fun e => h0 (by rw [e, Int.mul_zero])
      rw [← hab, decide_eq_true (show (x * y).natAbs ≠ 0 by omega), Bool.and_true]
      by_cases h1 : x < 0 <;> by_cases h2 : y < 0
      · rw [decide_eq_true h1, decide_eq_true h2]; exact decide_eq_false (by have := Int.mul_pos_of_neg_of_neg h1 h2; omega)
      · rw [decide_eq_true h1, decide_eq_false h2]; exact decide_eq_true (Int.mul_neg_of_neg_of_pos h1 (by omega))
      · rw [decide_eq_false h1, decide_eq_true h2]; exact decide_eq_true (Int.mul_neg_of_pos_of_neg (by omega) h2)
      · rw [decide_eq_false h1, decide_eq_false h2]; exact decide_eq_false (by have := Int.mul_nonneg (show 0 ≤ x by omega) (show 0 ≤ y by omega); omega)
  generalize decide (x < 0) = bx at *
  generalize decide (y < 0) = b2 at *
  refine in_exact_number_times (by simp) ?_
  conv => whnf
  refine callE_S (callE_con (Φ := fun _ w' v w2 => NatR w2 (Nw (fun _ => False) w' w2) v (x.natAbs * y.natAbs)) (fun ρ w' r => times_c (Rel.old r hS) (hxn.rel r hS) (hyn.rel r hS) (by omega) (by omega)) ?_)
  rintro ρ w3 v3 w4 r he hw hn
  have hN := hn.got (S := fun _ => False) r.baseLe (iv := (w3.heap.size, w4.heap.size) :: []) List.mem_cons_self
  clear r he hn hxn hyn
  have hN2 := hN
  obtain ⟨p, rfl, hp1, hp2⟩ := hN.la
  have hpl := length_ln p.lm hp2
  rw [hp1] at hpl
  have hpz := ln_pos hpl
  have hd : decide ((p.ls.length : Int) > 0) = decide (x.natAbs * y.natAbs ≠ 0) := decide_eq_decide.2 (by omega)
  cases bx <;> cases b2
  all_goals
    conv => whnf
    intro ρ5 w5 r5
    exact ⟨_, rfl, hw.tr r5.bel, _, by rw [hneg, ← hd]; rfl, by rw [hab]; exact hN2.out r5 (oldF w)⟩

theorem numCmp_c {S : Nat → Prop} {w : World} {v u : Value} {x y : Int} (hS : Old S w) (hx : NumR w S v x) (hy : NumR w S u y) (hlx : ln x.natAbs ≤ 100000000000) (hly : ln y.natAbs ≤ 100000000000) :
    Con PG N.exact_number_cmp #[v, u] w (Ret w fun v' _ => v' = .int .i64 (x - y).sign) := by
  have hxN : NumR w (Cv S w.heap.size []) v x := hx.weak fun _ h => .inl h
  have hyN : NumR w (Cv S w.heap.size []) u y := hy.weak fun _ h => .inl h
  obtain ⟨nx, rfl, hxn⟩ := hx
  obtain ⟨ny, rfl, hyn⟩ := hy
  obtain ⟨ax, lx, cx, rfl⟩ := hxn.shape
  obtain ⟨ay, ly, cy, rfl⟩ := hyn.shape
  refine in_exact_number_cmp (by simp) ?_
  conv => whnf
  refine drawn_of_pi hτ hmix [.x 0, .x 1, .x 2, .x 3, .x 4, .x 5] (by kernel_rfl) (by kernel_rfl) ?_
  conv => whnf
  refine callE_con (Φ := fun _ w' v w2 => NumR w2 (Nw (Cv S w.heap.size []) w' w2) v (-y)) (fun ρ w' r => numMinus_c (Rel.old r hS) (hyN.rel r hS)) ?_
  rintro ρ w1 v1 w2 r he hw hm
  have hmN : NumR w2 (Cv S w.heap.size [(w1.heap.size, w2.heap.size)]) v1 (-y) := hm.weak fun _ hg => Nw.cv hg r.baseLe
  replace hxN := hxN.past (iv' := [(w1.heap.size, w2.heap.size)]) r hS he fun x hx => List.mem_cons_of_mem _ hx
  clear r he hm hyN
  generalize [(w1.heap.size, w2.heap.size)] = iv at *
  have hmN2 := hmN
  obtain ⟨am, lm, cm, rfl, -⟩ := hmN.num
  conv => whnf
  refine callE_con (Φ := fun _ w' v w2 => NumR w2 (Nw (fun _ => False) w' w2) v (x + -y)) (fun ρ w' r => numPlus_c (Rel.old r hS) (hxN.rel r hS) (hmN2.rel r hS) hlx (by rw [Int.natAbs_neg]; exact hly)) ?_
  rintro ρ w3 v3 w4 r he hb4 hp
  replace hw := hw.tr hb4
  have hpN := hp.got (S := S) r.baseLe (iv := (w3.heap.size, w4.heap.size) :: iv) List.mem_cons_self
  clear r he hp hxN hmN hmN2 hb4
  have hpN2 := hpN
  obtain ⟨ap, lp, cp, rfl, -⟩ := hpN.num
  conv => whnf
  refine callE_con (Φ := fun _ _ v _ => v = .int .i64 (x - y).sign) (fun ρ w' r => sign_c (hpN2.rel r hS)) ?_
  rintro ρ w5 v5 w6 r he hb6 rfl
  replace hw := hw.tr hb6
  clear r he hb6
  conv => whnf
  intro ρ7 w7 r7
  exact ⟨_, rfl, hw.tr r7.bel, rfl⟩
end Go.Ex

/- Integers of package exact: division, machine integers. No condition. -/
namespace Go.Ex
open Go Go.Sx Go.Proofs

theorem int_divmod {x y : Int} (_hy : y ≠ 0) {q r : Nat} (hr : r < y.natAbs) (h : (if x < 0 then x + (q * y.natAbs : Nat) = r else x = (q * y.natAbs : Nat) + r)) :
    x / y = sg (decide (x < 0) != decide (y < 0)) q ∧ x % y = r := by
  have key : ∀ b : Int, 0 < b → b = y.natAbs → x / b = (if x < 0 then -(q : Int) else q) ∧ x % b = r := fun b hb e => by
    rw [Int.ediv_emod_unique hb]
    rw [Int.natCast_mul] at h
    rw [← e] at h
    split at h
    · rename_i hx
      rw [if_pos hx, Int.mul_neg, Int.mul_comm b]
      omega
    · rename_i hx
      rw [if_neg hx, Int.mul_comm b]
      omega
  by_cases h2 : y < 0
  · obtain ⟨k1, k2⟩ := key (-y) (by omega) (by omega)
    rw [Int.ediv_neg] at k1
    rw [Int.emod_neg] at k2
    refine ⟨?_, k2⟩
    rw [decide_eq_true h2]
    split at k1
    · rename_i hx
      rw [decide_eq_true hx]
      show x / y = (q : Int)
      omega
    · rename_i hx
      rw [decide_eq_false hx]
      show x / y = -(q : Int)
      omega
  · obtain ⟨k1, k2⟩ := key y (by omega) (by omega)
    refine ⟨?_, k2⟩
    rw [decide_eq_false h2, k1]
    split
    · rename_i hx
      rw [decide_eq_true hx]; rfl
    · rename_i hx
      rw [decide_eq_false hx]; rfl

theorem sg_neg {b : Bool} {n k : Nat} (h : k = ln n) : (b && decide ((k : Int) > 0)) = decide (sg b n < 0) := by
  have hp := ln_pos h
  cases b
  · rw [Bool.false_and]; exact (decide_eq_false (by simp [sg])).symm
  · rw [Bool.true_and, sg_t]; exact decide_eq_decide.2 (by omega)

theorem numDivide_c {S : Nat → Prop} {w : World} {v u : Value} {x y : Int} (hS : Old S w) (hx : NumR w S v x) (hy : NumR w S u y) (hy0 : y ≠ 0) (hlx : ln x.natAbs ≤ 100000000000) (hly : ln y.natAbs ≤ 100000000000) :
    Con PG N.exact_number_divide #[v, u] w (Ret w fun v' w2 => ∃ q r, v' = .tuple #[q, r] ∧ NumR w2 (Nw (fun _ => False) w w2) q (x / y) ∧ NumR w2 (Nw S w w2) r (x % y)) := by
  obtain ⟨ax, lx, cx, rfl, hxn⟩ := hx.num
  obtain ⟨ay, ly, cy, rfl, hyn⟩ := hy.num
  replace hxn := hxn.arg []
  replace hyn := hyn.arg []
  have hyp : 0 < y.natAbs := by omega
  have hdm := @int_divmod x y hy0
  generalize hbx : decide (x < 0) = bx at *
  generalize hby : decide (y < 0) = b2 at *
  refine in_exact_number_divide (by simp) ?_
  conv => whnf
  refine callE_S (callE_con (Φ := fun _ w' v w2 => ∃ q r, v = .tuple #[q, r] ∧ NatR w2 (Nw (fun _ => False) w' w2) q (x.natAbs / y.natAbs) ∧ NatR w2 (Nw (Cv S w.heap.size []) w' w2) r (x.natAbs % y.natAbs)) (fun ρ w' r => divide_c (Rel.old r hS) (hxn.rel r hS) (hyn.rel r hS) hyp hlx) ?_)
  rintro ρ w1 v1 w2 r he hw ⟨q, rm, rfl, hq, hrm⟩
  have hqN := hq.got (S := fun _ => False) r.baseLe (iv := [(w1.heap.size, w2.heap.size)]) List.mem_cons_self
  have hrN : NatR w2 (Cv S w.heap.size [(w1.heap.size, w2.heap.size)]) rm (x.natAbs % y.natAbs) := hrm.weak fun g hg => Nw.cv hg r.baseLe
  replace hyn := hyn.past (iv' := [(w1.heap.size, w2.heap.size)]) r hS he fun x hx => List.mem_cons_of_mem _ hx
  clear r he hq hrm hxn
  generalize [(w1.heap.size, w2.heap.size)] = iv at *
  have hdam := Nat.div_add_mod x.natAbs y.natAbs
  have hrl := Nat.mod_lt x.natAbs hyp
  have hql := Nat.div_le_self x.natAbs y.natAbs
  generalize x.natAbs / y.natAbs = q0 at *
  generalize x.natAbs % y.natAbs = r0 at *
  have hlq := ln_mono hql
  have hqN2 := hqN
  have hrN2 := hrN
  obtain ⟨pq, rfl, hpq1, hpq2⟩ := hqN.la
  obtain ⟨pr, rfl, hpr1, hpr2⟩ := hrN.la
  have hpql := length_ln pq.lm hpq2
  rw [hpq1] at hpql
  have hprl := length_ln pr.lm hpr2
  rw [hpr1] at hprl
  have hrz := ln_pos hprl
  -- the end, with what is then in q and r
  cases bx
  · have h2 := of_decide_eq_false hbx
    obtain ⟨d1, d2⟩ := hdm hrl (q := q0) (by rw [if_neg h2, Nat.mul_comm]; omega)
    have hd : (b2 && decide ((pq.ls.length : Int) > 0)) = decide (x / y < 0) := by rw [d1, Bool.false_bne]; exact sg_neg hpql
    have e1 : NatR w2 (Cv (fun _ => False) w.heap.size iv) (.slice pq.a pq.ls.length pq.c) (x / y).natAbs := by rw [d1, sg_abs]; exact hqN2
    have e2 : NatR w2 (Cv S w.heap.size iv) (.slice pr.a pr.ls.length pr.c) (x % y).natAbs := by rw [d2]; exact hrN2
    have e3 : decide (x % y < 0) = false := decide_eq_false (by omega)
    cases b2
    all_goals
      conv => whnf
      intro ρ5 w5 r5
      exact ⟨_, rfl, hw.tr r5.bel, _, _, rfl, ⟨_, by rw [← hd]; rfl, e1.out r5 (oldF w)⟩, _, by rw [e3]; rfl, e2.out r5 hS⟩
  · have h2 := of_decide_eq_true hbx
    conv => whnf
    refine BrS.mk (fun h => ?_) (fun h => ?_)
    · have h : 0 < r0 := by have : (pr.ls.length : Int) > 0 := of_decide_eq_true h
                            omega
      obtain ⟨d1, d2⟩ := hdm (q := q0 + 1) (r := y.natAbs - r0) (by omega) (by
        rw [if_pos h2, Nat.add_mul, Nat.mul_comm q0, Nat.one_mul]
        omega)
      have hlq1 := ln_add q0 1
      have hl1 : ln 1 = 1 := by rfl
      conv => whnf
      refine drawn_of_pi hτ hmix [.x 0, .x 3, .x 4, .x 5, .x 1, .x 2, .x 6, .x 7, .x 8] (by kernel_rfl) (by kernel_rfl) ?_
      conv => whnf
      refine callE_con (Φ := fun _ w' v w2 => NatR w2 (Nw (fun _ => False) w' w2) v (q0 + 1)) (fun ρ w' r => ?_) ?_
      · have hL := (r.boxLimbs (id := 4) (ls := [1]) rfl (by intro x hx; simp at hx; omega) (by simp)).nat (by intro x hx; simp at hx; omega)
        have hlow := r.low 4 _ rfl (r.nn 4 _ rfl (by intros; simp) (by simp))
        refine plus_c (S := fun g => Cv (fun _ => False) w.heap.size iv g ∨ g = (ρ 4).g) (fun g hg => hg.elim (fun hg => Rel.old r (oldF w) g hg) fun hg => by omega) ((hqN2.rel r (oldF w)).weak fun _ hg => .inl hg) (hL.weak fun _ hg => .inr hg) (by omega) (by rw [hl1]; omega)
      rintro ρ w3 v3 w4 r he hb4 hp
      replace hw := hw.tr hb4
      have hpN := hp.got (S := fun _ => False) r.baseLe (iv := (w3.heap.size, w4.heap.size) :: iv) List.mem_cons_self
      replace hyn := hyn.past (iv' := (w3.heap.size, w4.heap.size) :: iv) r hS he fun x hx => List.mem_cons_of_mem _ hx
      have hrN3 := hrN2.past (iv' := (w3.heap.size, w4.heap.size) :: iv) r hS he fun x hx => List.mem_cons_of_mem _ hx
      clear r he hp hb4 hqN hqN2 hrN hrN2
      generalize (w3.heap.size, w4.heap.size) :: iv = iv2 at *
      have hpN2 := hpN
      obtain ⟨pp, rfl, hpp1, hpp2⟩ := hpN.la
      have hppl := length_ln pp.lm hpp2
      rw [hpp1] at hppl
      conv => whnf
      refine callE_con (Φ := fun _ w' v w2 => NatR w2 (Nw (fun _ => False) w' w2) v (y.natAbs - r0)) (fun ρ w' r => minus_c (Rel.old r hS) (hyn.rel r hS) (hrN3.rel r hS) (by omega) (by omega)) ?_
      rintro ρ w5 v5 w6 r he hb6 hm
      replace hw := hw.tr hb6
      have hmN := hm.got (S := fun _ => False) r.baseLe (iv := (w5.heap.size, w6.heap.size) :: iv2) List.mem_cons_self
      replace hpN2 := hpN2.past (iv' := (w5.heap.size, w6.heap.size) :: iv2) r (oldF w) he fun x hx => List.mem_cons_of_mem _ hx
      clear r he hm hb6 hpN hrN3 hyn
      generalize (w5.heap.size, w6.heap.size) :: iv2 = iv3 at *
      obtain ⟨am, lm, cm, rfl⟩ := hmN.shape
      have hd : (!b2 && decide ((pp.ls.length : Int) > 0)) = decide (x / y < 0) := by rw [d1, Bool.true_bne]; exact sg_neg hppl
      have e1 : NatR w6 (Cv (fun _ => False) w.heap.size iv3) (.slice pp.a pp.ls.length pp.c) (x / y).natAbs := by rw [d1, sg_abs]; exact hpN2
      have e2 : NatR w6 (Cv (fun _ => False) w.heap.size iv3) (.slice am lm cm) (x % y).natAbs := by rw [d2]; exact hmN
      have e3 : decide (x % y < 0) = false := decide_eq_false (by omega)
      cases b2
      all_goals
        conv => whnf
        intro ρ5 w5 r5
        exact ⟨_, rfl, hw.tr r5.bel, _, _, rfl, ⟨_, by rw [← hd]; rfl, e1.out r5 (oldF w)⟩, _, by rw [e3]; rfl, (e2.out r5 (oldF w)).weak fun g hg => hg.elim (fun h => h.elim) .inr⟩
    · have h : r0 = 0 := by have : ¬ (pr.ls.length : Int) > 0 := of_decide_eq_false h
                            omega
      subst h
      obtain ⟨d1, d2⟩ := hdm hrl (q := q0) (by rw [if_pos h2, Nat.mul_comm]; omega)
      have hd : (!b2 && decide ((pq.ls.length : Int) > 0)) = decide (x / y < 0) := by rw [d1, Bool.true_bne]; exact sg_neg hpql
      have e1 : NatR w2 (Cv (fun _ => False) w.heap.size iv) (.slice pq.a pq.ls.length pq.c) (x / y).natAbs := by rw [d1, sg_abs]; exact hqN2
      have e2 : NatR w2 (Cv S w.heap.size iv) (.slice pr.a pr.ls.length pr.c) (x % y).natAbs := by rw [d2]; exact hrN2
      have e3 : decide (x % y < 0) = false := decide_eq_false (by omega)
      cases b2
      all_goals
        conv => whnf
        intro ρ5 w5 r5
        exact ⟨_, rfl, hw.tr r5.bel, _, _, rfl, ⟨_, by rw [← hd]; rfl, e1.out r5 (oldF w)⟩, _, by rw [e3]; rfl, e2.out r5 hS⟩
end Go.Ex

/- Machine integers as integers of package exact. No condition. -/
namespace Go.Ex
open Go Go.Sx Go.Proofs

theorem small_c (n : Int) (w : World) (h1 : -9223372036854775808 ≤ n) (h2 : n ≤ 9223372036854775807) :
    Con PG N.exact_small #[.int .i64 n] w (Ret w fun v' w2 => NumR w2 (Nw (fun _ => False) w w2) v' n) := by
  have key : ∀ (m : Nat), m = n.natAbs → m < 18446744073709551616 ∧ val [m % 4294967296, m / 4294967296] = n.natAbs ∧ m / 4294967296 < 4294967296 := fun m e => by
    refine ⟨by omega, ?_, by omega⟩
    simp only [val]
    omega
  refine in_exact_small (by simp) ?_
  conv => whnf
  refine ⟨if n < 0 then n + 18446744073709551616 else n, by show n % 18446744073709551616 = _; split <;> omega, ?_⟩
  conv => whnf
  refine BrS.mk (fun h => ?_) (fun h => ?_)
  · have h := of_decide_eq_true h
    rw [if_pos h]
    obtain ⟨m, hm⟩ : ∃ m, m = n.natAbs := ⟨_, rfl⟩
    obtain ⟨k1, k2, k3⟩ := key m hm
    conv => whnf
    refine ⟨(m : Int), by show (0 - (n + 18446744073709551616)) % 18446744073709551616 = _; omega, ?_⟩
    conv => whnf
    refine ⟨((m % 4294967296 : Nat) : Int), wrapU32n m, ?_⟩
    conv => whnf
    refine ⟨by decide, ((m / 2 ^ 32 : Nat) : Int), fdiv_shr 32 (by decide), ?_⟩
    conv => whnf
    refine ⟨((m / 4294967296 : Nat) : Int), by rw [wrapU32n, Nat.mod_eq_of_lt (by omega)], ?_⟩
    conv => whnf
    refine callE_free (Φ := fun ρ _ v w2 => Limbs w2 (fun g => g = (ρ 1).g) v (trimL [m % 4294967296, m / 4294967296])) (H' := [(0, .box T.number [.v (.bool false), .v (.slice none 0 0)])]) 1 rfl (by simp) ⟨rfl, trivial⟩ rfl (fun ρ w' r => r.nn 1 _ rfl (by intros; simp) (by simp)) (fun ρ w' r => ?_) ?_
    · have hL := r.boxLimbs (id := 1) (ls := [m % 4294967296, m / 4294967296]) rfl (by intro x hx; simp at hx; omega) (by simp)
      exact trimmed_c (fun g hg => by rw [hg]; exact (r.low 1 _ rfl (r.nn 1 _ rfl (by intros; simp) (by simp))).2) hL
    rintro ρ w1 v1 w2 r he hw hL
    have hlow := r.low 1 _ rfl (r.nn 1 _ rfl (by intros; simp) (by simp))
    have hs := he.size
    generalize (ρ 1).g = g0 at *
    have hN : NatR w2 (Cv (fun _ => False) w.heap.size [(g0, g0 + 1), (w1.heap.size, w2.heap.size)]) v1 n.natAbs := by
      have := hL.trimmed
      rw [k2] at this
      exact this.weak fun k hk => .inr ⟨by omega, g0, g0 + 1, by simp, by omega, by omega⟩
    clear hL r he hlow hs
    generalize [(g0, g0 + 1), (w1.heap.size, w2.heap.size)] = iv at *
    obtain ⟨a3, n3, c3, rfl⟩ := hN.shape
    conv => whnf
    intro ρ5 w5 r5
    exact ⟨_, rfl, hw.tr r5.bel, _, rfl, hN.out r5 (oldF w)⟩
  · have h := of_decide_eq_false h
    rw [if_neg h]
    obtain ⟨m, hm⟩ : ∃ m, m = n.natAbs := ⟨_, rfl⟩
    obtain ⟨k1, k2, k3⟩ := key m hm
    have hmn : n = (m : Int) := by omega
    conv => whnf
    refine ⟨((m % 4294967296 : Nat) : Int), by rw [hmn]; exact wrapU32n m, ?_⟩
    conv => whnf
    refine ⟨by decide, ((m / 2 ^ 32 : Nat) : Int), by rw [hmn]; exact fdiv_shr 32 (by decide), ?_⟩
    conv => whnf
    refine ⟨((m / 4294967296 : Nat) : Int), by rw [wrapU32n, Nat.mod_eq_of_lt (by omega)], ?_⟩
    conv => whnf
    refine callE_free (Φ := fun ρ _ v w2 => Limbs w2 (fun g => g = (ρ 1).g) v (trimL [m % 4294967296, m / 4294967296])) (H' := [(0, .box T.number [.v (.bool false), .v (.slice none 0 0)])]) 1 rfl (by simp) ⟨rfl, trivial⟩ rfl (fun ρ w' r => r.nn 1 _ rfl (by intros; simp) (by simp)) (fun ρ w' r => ?_) ?_
    · have hL := r.boxLimbs (id := 1) (ls := [m % 4294967296, m / 4294967296]) rfl (by intro x hx; simp at hx; omega) (by simp)
      exact trimmed_c (fun g hg => by rw [hg]; exact (r.low 1 _ rfl (r.nn 1 _ rfl (by intros; simp) (by simp))).2) hL
    rintro ρ w1 v1 w2 r he hw hL
    have hlow := r.low 1 _ rfl (r.nn 1 _ rfl (by intros; simp) (by simp))
    have hs := he.size
    generalize (ρ 1).g = g0 at *
    have hN : NatR w2 (Cv (fun _ => False) w.heap.size [(g0, g0 + 1), (w1.heap.size, w2.heap.size)]) v1 n.natAbs := by
      have := hL.trimmed
      rw [k2] at this
      exact this.weak fun k hk => .inr ⟨by omega, g0, g0 + 1, by simp, by omega, by omega⟩
    clear hL r he hlow hs
    generalize [(g0, g0 + 1), (w1.heap.size, w2.heap.size)] = iv at *
    obtain ⟨a3, n3, c3, rfl⟩ := hN.shape
    conv => whnf
    intro ρ5 w5 r5
    exact ⟨_, rfl, hw.tr r5.bel, _, rfl, hN.out r5 (oldF w)⟩
end Go.Ex

/- The integers that package exact exports. No condition. -/
namespace Go.Ex
open Go Go.Sx Go.Proofs

/-- an integer of the api with its value -/
def IntR (w : World) (S : Nat → Prop) (v : Value) (z : Int) : Prop := ∃ neg ls, IntV w S v neg ls ∧ sg neg (val ls) = z
/-- .. in normal form -/
def IntC (w : World) (S : Nat → Prop) (v : Value) (z : Int) : Prop := ∃ ls, IntV w S v (decide (z < 0)) ls ∧ Nz ls ∧ val ls = z.natAbs
theorem sg_natAbs (z : Int) : sg (decide (z < 0)) z.natAbs = z := by
  by_cases h : z < 0
  · rw [decide_eq_true h, sg_t]; omega
  · rw [decide_eq_false h, sg_f]; omega
theorem IntC.r {w : World} {S : Nat → Prop} {v : Value} {z : Int} (h : IntC w S v z) : IntR w S v z := by
  obtain ⟨ls, h1, h2, h3⟩ := h
  exact ⟨_, ls, h1, by rw [h3, sg_natAbs]⟩
section
variable {S S' : Nat → Prop} {H : Hp} {nx : Nat} {iv iv' : Iv} {B : Nat} {w w' w2 : World} {ρ : Nat → Sx.Val} {v : Value} {z : Int} {neg : Bool} {ls : List Nat}
theorem IntV.keep (h : IntV w S v neg ls) (hk : ∀ g, S g → w2.heap[g]? = w.heap[g]?) : IntV w2 S v neg ls := by
  obtain ⟨lv, h1, h2⟩ := h; exact ⟨lv, h1, h2.keep hk⟩
theorem IntV.weak (h : IntV w S v neg ls) (hk : ∀ g, S g → S' g) : IntV w S' v neg ls := by
  obtain ⟨lv, h1, h2⟩ := h; exact ⟨lv, h1, h2.weak hk⟩
theorem IntR.keep (h : IntR w S v z) (hk : ∀ g, S g → w2.heap[g]? = w.heap[g]?) : IntR w2 S v z := by
  obtain ⟨n, l, h1, h2⟩ := h; exact ⟨n, l, h1.keep hk, h2⟩
theorem IntR.weak (h : IntR w S v z) (hk : ∀ g, S g → S' g) : IntR w S' v z := by
  obtain ⟨n, l, h1, h2⟩ := h; exact ⟨n, l, h1.weak hk, h2⟩
theorem IntC.keep (h : IntC w S v z) (hk : ∀ g, S g → w2.heap[g]? = w.heap[g]?) : IntC w2 S v z := by
  obtain ⟨l, h1, h2⟩ := h; exact ⟨l, h1.keep hk, h2⟩
theorem IntC.weak (h : IntC w S v z) (hk : ∀ g, S g → S' g) : IntC w S' v z := by
  obtain ⟨l, h1, h2⟩ := h; exact ⟨l, h1.weak hk, h2⟩
theorem IntR.rel (h : IntR w (Cv S B iv) v z) (r : Rel H nx iv B w ρ w') (hS : ∀ g, S g → g < B) : IntR w' (Cv S B iv) v z := h.keep fun _ hg => Rel.same r hS hg
theorem IntC.rel (h : IntC w (Cv S B iv) v z) (r : Rel H nx iv B w ρ w') (hS : ∀ g, S g → g < B) : IntC w' (Cv S B iv) v z := h.keep fun _ hg => Rel.same r hS hg
theorem IntR.past (h : IntR w (Cv S B iv) v z) (r : Rel H nx iv B w ρ w') (hS : ∀ g, S g → g < B) (he : Ext w' w2) (hm : ∀ p, p ∈ iv → p ∈ iv') : IntR w2 (Cv S B iv') v z :=
  ((h.rel r hS).keep fun g hg => he.block g (Rel.old r hS g hg)).weak fun _ hg => hg.mono hm
theorem IntC.past (h : IntC w (Cv S B iv) v z) (r : Rel H nx iv B w ρ w') (hS : ∀ g, S g → g < B) (he : Ext w' w2) (hm : ∀ p, p ∈ iv → p ∈ iv') : IntC w2 (Cv S B iv') v z :=
  ((h.rel r hS).keep fun g hg => he.block g (Rel.old r hS g hg)).weak fun _ hg => hg.mono hm
theorem IntC.got (h : IntC w2 (Nw (fun _ => False) w' w2) v z) (hB : B ≤ w'.heap.size) (hm : (w'.heap.size, w2.heap.size) ∈ iv) : IntC w2 (Cv S B iv) v z := h.weak fun _ hg => hg.got hB hm
theorem IntR.shape (h : IntR w S v z) : ∃ b a n c, v = .agg #[.bool b, .slice a n c] := by
  obtain ⟨b, l, ⟨lv, h1, h2⟩, _⟩ := h
  obtain ⟨a, n, c, rfl⟩ := h2.shape
  exact ⟨b, a, n, c, h1⟩
theorem NumR.old (h : NumR w2 (Nw (Cv S B iv) w' w2) v z) (hB : B ≤ w'.heap.size) : NumR w2 (Cv S B ((w'.heap.size, w2.heap.size) :: iv)) v z := h.weak fun _ hg => Nw.cv hg hB
end
theorem IntC.out {S : Nat → Prop} {H : Hp} {nx : Nat} {iv : Iv} {w w1 w' : World} {ρ : Nat → Sx.Val} {v : Value} {z : Int} (h : IntC w1 (Cv S w.heap.size iv) v z) (r : Rel H nx iv w.heap.size w1 ρ w') (hS : Old S w) : IntC w' (Nw S w w') v z :=
  (h.rel r hS).weak fun _ hg => Cv.nw hg r
theorem ofR_c {S : Nat → Prop} {w : World} {v : Value} {z : Int} (hS : Old S w) (h : IntR w S v z) : Con PG N.exact_of #[v] w (Ret w fun v' w2 => NumR w2 (Nw S w w2) v' z) := by
  obtain ⟨n, l, h1, rfl⟩ := h
  exact of_c hS h1

theorem pubOf_c (n : Int) (w : World) (h1 : -9223372036854775808 ≤ n) (h2 : n ≤ 9223372036854775807) :
    Con PG N.exact_Of #[.int .i64 n] w (Ret w fun v' w2 => IntC w2 (Nw (fun _ => False) w w2) v' n) := by
  have hln : ln n.natAbs ≤ 2 := ln_le.2 (by show n.natAbs < 4294967296 ^ 2; omega)
  refine in_exact_Of (by simp) ?_
  conv => whnf
  refine callE_S (callE_con (Φ := fun _ w' v w2 => NumR w2 (Nw (fun _ => False) w' w2) v n) (fun ρ w' r => small_c n w' h1 h2) ?_)
  rintro ρ w1 v1 w2 r he hw hn
  have hN := hn.got (S := fun _ => False) r.baseLe (iv := [(w1.heap.size, w2.heap.size)]) List.mem_cons_self
  clear r he hn
  generalize [(w1.heap.size, w2.heap.size)] = iv at *
  have hN2 := hN
  obtain ⟨a1, l1, c1, rfl, -⟩ := hN.num
  conv => whnf
  refine callE_S (callE_con (Φ := fun _ w' v w2 => IntC w2 (Nw (fun _ => False) w' w2) v n) (fun ρ w' r => give_c (Rel.old r (oldF w)) (hN2.rel r (oldF w)) (by omega)) ?_)
  rintro ρ w3 v3 w4 r he hb4 hc
  replace hw := hw.tr hb4
  have hC := hc.got (S := fun _ => False) r.baseLe (iv := (w3.heap.size, w4.heap.size) :: iv) List.mem_cons_self
  clear r he hc hb4 hN hN2
  generalize (w3.heap.size, w4.heap.size) :: iv = iv2 at *
  have hC2 := hC
  obtain ⟨b5, a5, l5, c5, rfl⟩ := hC.r.shape
  conv => whnf
  intro ρ5 w5 r5
  exact ⟨_, rfl, hw.tr r5.bel, hC2.out r5 (oldF w)⟩

theorem pubSum_c {S : Nat → Prop} {w : World} {v u : Value} {x y : Int} (hS : Old S w) (hx : IntR w S v x) (hy : IntR w S u y) (hlx : ln x.natAbs ≤ 10000000000) (hly : ln y.natAbs ≤ 10000000000) :
    Con PG N.exact_Sum #[v, u] w (Ret w fun v' w2 => IntC w2 (Nw (fun _ => False) w w2) v' (x + y)) := by
  have hlz : ln (x + y).natAbs ≤ 100000000000 := by
    have h1 := ln_add x.natAbs y.natAbs
    have h2 := ln_mono (show (x + y).natAbs ≤ x.natAbs + y.natAbs by omega)
    omega
  replace hx : IntR w (Cv S w.heap.size []) v x := hx.weak fun _ h => .inl h
  replace hy : IntR w (Cv S w.heap.size []) u y := hy.weak fun _ h => .inl h
  obtain ⟨bx, ax, lx, cx, rfl⟩ := hx.shape
  obtain ⟨b2, ay, ly, cy, rfl⟩ := hy.shape
  refine in_exact_Sum (by simp) ?_
  conv => whnf
  refine drawn_of_pi hτ hmix [.x 0, .x 2, .x 1, .x 3, .x 4, .x 5, .x 6] (by kernel_rfl) (by kernel_rfl) ?_
  conv => whnf
  refine callE_con (Φ := fun _ w' v w2 => NumR w2 (Nw (Cv S w.heap.size []) w' w2) v x) (fun ρ w' r => ofR_c (Rel.old r hS) (hx.rel r hS)) ?_
  rintro ρ w1 v1 w2 r he hw hn
  have hX := hn.old r.baseLe
  replace hy := hy.past (iv' := [(w1.heap.size, w2.heap.size)]) r hS he fun x hx => List.mem_cons_of_mem _ hx
  clear r he hn hx
  generalize [(w1.heap.size, w2.heap.size)] = iv at *
  have hX2 := hX
  obtain ⟨a1, l1, c1, rfl, -⟩ := hX.num
  conv => whnf
  refine callE_con (Φ := fun _ w' v w2 => NumR w2 (Nw (Cv S w.heap.size iv) w' w2) v y) (fun ρ w' r => ofR_c (Rel.old r hS) (hy.rel r hS)) ?_
  rintro ρ w3 v3 w4 r he hb4 hn
  replace hw := hw.tr hb4
  have hY := hn.old r.baseLe
  replace hX2 := hX2.past (iv' := (w3.heap.size, w4.heap.size) :: iv) r hS he fun x hx => List.mem_cons_of_mem _ hx
  clear r he hn hy hX hb4
  generalize (w3.heap.size, w4.heap.size) :: iv = iv2 at *
  have hY2 := hY
  obtain ⟨a3, l3, c3, rfl, -⟩ := hY.num
  conv => whnf
  refine callE_con (Φ := fun _ w' v w2 => NumR w2 (Nw (fun _ => False) w' w2) v (x + y)) (fun ρ w' r => numPlus_c (Rel.old r hS) (hX2.rel r hS) (hY2.rel r hS) (by omega) (by omega)) ?_
  rintro ρ w5 v5 w6 r he hb6 hn
  replace hw := hw.tr hb6
  have hP := hn.got (S := fun _ => False) r.baseLe (iv := (w5.heap.size, w6.heap.size) :: iv2) List.mem_cons_self
  clear r he hn hX2 hY hY2 hb6
  generalize (w5.heap.size, w6.heap.size) :: iv2 = iv3 at *
  have hP2 := hP
  obtain ⟨a5, l5, c5, rfl, -⟩ := hP.num
  conv => whnf
  refine callE_con (Φ := fun _ w' v w2 => IntC w2 (Nw (fun _ => False) w' w2) v (x + y)) (fun ρ w' r => give_c (Rel.old r (oldF w)) (hP2.rel r (oldF w)) hlz) ?_
  rintro ρ w7 v7 w8 r he hb8 hc
  replace hw := hw.tr hb8
  have hC := hc.got (S := fun _ => False) r.baseLe (iv := (w7.heap.size, w8.heap.size) :: iv3) List.mem_cons_self
  clear r he hc hb8 hP hP2
  generalize (w7.heap.size, w8.heap.size) :: iv3 = iv4 at *
  have hC2 := hC
  obtain ⟨b9, a9, l9, c9, rfl⟩ := hC.r.shape
  conv => whnf
  intro ρ9 w9 r9
  exact ⟨_, rfl, hw.tr r9.bel, hC2.out r9 (oldF w)⟩
end Go.Ex

/- The integers that package exact exports: difference, product, comparison, division. Printed by program. No condition. -/
namespace Go.Ex
open Go Go.Sx Go.Proofs

theorem NumR.shape {S : Nat → Prop} {w : World} {v : Value} {z : Int} (h : NumR w S v z) : ∃ b a n c, v = .agg #[.bool b, .slice a n c] := by
  obtain ⟨a, n, c, h1, _⟩ := h.num
  exact ⟨_, a, n, c, h1⟩
theorem IntC.shape {S : Nat → Prop} {w : World} {v : Value} {z : Int} (h : IntC w S v z) : ∃ b a n c, v = .agg #[.bool b, .slice a n c] := h.r.shape
theorem ln_sub_abs (x y : Int) : ln (x - y).natAbs ≤ max (ln x.natAbs) (ln y.natAbs) + 1 := by
  have h1 := ln_add x.natAbs y.natAbs
  have h2 := ln_mono (show (x - y).natAbs ≤ x.natAbs + y.natAbs by omega)
  omega
theorem ln_mul_abs (x y : Int) : ln (x * y).natAbs ≤ ln x.natAbs + ln y.natAbs := by
  rw [Int.natAbs_mul]; exact ln_mul _ _

theorem pubDiff_c {S : Nat → Prop} {w : World} {v u : Value} {x y : Int} (hS : Old S w) (hx : IntR w S v x) (hy : IntR w S u y) (hlx : ln x.natAbs ≤ 10000000000) (hly : ln y.natAbs ≤ 10000000000) :
    Con PG N.exact_Diff #[v, u] w (Ret w fun v' w2 => IntC w2 (Nw (fun _ => False) w w2) v' (x - y)) := by
  have hlz := ln_sub_abs x y
  have hw : Bel w.heap.size w w := Bel.refl
  replace hx := hx.weak (S' := Cv S w.heap.size []) fun _ h => .inl h
  replace hy := hy.weak (S' := Cv S w.heap.size []) fun _ h => .inl h
  obtain ⟨bx, ax, lx, cx, rfl⟩ := hx.shape
  obtain ⟨b2, ay, ly, cy, rfl⟩ := hy.shape
  refine in_exact_Diff (by simp) ?_
  conv => whnf
  refine drawn_of_pi hτ hmix [.x 0, .x 2, .x 1, .x 3, .x 4, .x 5, .x 6, .x 7] (by kernel_rfl) (by kernel_rfl) ?_
  conv => whnf
  refine callE_con (Φ := fun _ w' v w2 => NumR w2 (Nw (Cv S w.heap.size []) w' w2) v x) (fun ρ w' r => ofR_c (Rel.old r hS) (hx.rel r hS)) ?_
  rintro ρ wa1 v1 wb1 r he hb hn
  replace hw := hw.tr hb
  clear hx
  replace hy := hy.past (iv' := (wa1.heap.size, wb1.heap.size) :: []) r hS he fun x hx => List.mem_cons_of_mem _ hx
  have hX := hn.old r.baseLe
  clear r he hb hn
  generalize (wa1.heap.size, wb1.heap.size) :: [] = iv1 at *
  obtain ⟨s1_0, s1_1, s1_2, s1_3, rfl⟩ := hX.shape
  conv => whnf
  refine callE_con (Φ := fun _ w' v w2 => NumR w2 (Nw (Cv S w.heap.size iv1) w' w2) v y) (fun ρ w' r => ofR_c (Rel.old r hS) (hy.rel r hS)) ?_
  rintro ρ wa2 v2 wb2 r he hb hn
  replace hw := hw.tr hb
  clear hy
  replace hX := hX.past (iv' := (wa2.heap.size, wb2.heap.size) :: iv1) r hS he fun x hx => List.mem_cons_of_mem _ hx
  have hY := hn.old r.baseLe
  clear r he hb hn
  generalize (wa2.heap.size, wb2.heap.size) :: iv1 = iv2 at *
  obtain ⟨s2_0, s2_1, s2_2, s2_3, rfl⟩ := hY.shape
  conv => whnf
  refine callE_con (Φ := fun _ w' v w2 => NumR w2 (Nw (Cv S w.heap.size iv2) w' w2) v (-y)) (fun ρ w' r => numMinus_c (Rel.old r hS) (hY.rel r hS)) ?_
  rintro ρ wa3 v3 wb3 r he hb hn
  replace hw := hw.tr hb
  replace hX := hX.past (iv' := (wa3.heap.size, wb3.heap.size) :: iv2) r hS he fun x hx => List.mem_cons_of_mem _ hx
  clear hY
  have hM := hn.old r.baseLe
  clear r he hb hn
  generalize (wa3.heap.size, wb3.heap.size) :: iv2 = iv3 at *
  obtain ⟨s3_0, s3_1, s3_2, s3_3, rfl⟩ := hM.shape
  conv => whnf
  refine callE_con (Φ := fun _ w' v w2 => NumR w2 (Nw (fun _ => False) w' w2) v (x - y)) (fun ρ w' r => numPlus_c (Rel.old r hS) (hX.rel r hS) (hM.rel r hS) (by omega) (by rw [Int.natAbs_neg]; omega)) ?_
  rintro ρ wa4 v4 wb4 r he hb hn
  replace hw := hw.tr hb
  clear hX
  clear hM
  have hP := hn.got (S := fun _ => False) r.baseLe (iv := (wa4.heap.size, wb4.heap.size) :: iv3) List.mem_cons_self
  clear r he hb hn
  generalize (wa4.heap.size, wb4.heap.size) :: iv3 = iv4 at *
  obtain ⟨s4_0, s4_1, s4_2, s4_3, rfl⟩ := hP.shape
  conv => whnf
  refine callE_con (Φ := fun _ w' v w2 => IntC w2 (Nw (fun _ => False) w' w2) v (x - y)) (fun ρ w' r => give_c (Rel.old r (oldF w)) (hP.rel r (oldF w)) (by omega)) ?_
  rintro ρ wa5 v5 wb5 r he hb hn
  replace hw := hw.tr hb
  clear hP
  have hC := hn.got (S := fun _ => False) r.baseLe (iv := (wa5.heap.size, wb5.heap.size) :: iv4) List.mem_cons_self
  clear r he hb hn
  generalize (wa5.heap.size, wb5.heap.size) :: iv4 = iv5 at *
  obtain ⟨s5_0, s5_1, s5_2, s5_3, rfl⟩ := hC.shape
  conv => whnf
  intro ρe we re
  exact ⟨_, rfl, hw.tr re.bel, hC.out re (oldF w)⟩

theorem pubProd_c {S : Nat → Prop} {w : World} {v u : Value} {x y : Int} (hS : Old S w) (hx : IntR w S v x) (hy : IntR w S u y) (hlx : ln x.natAbs ≤ 10000000000) (hly : ln y.natAbs ≤ 10000000000) :
    Con PG N.exact_Prod #[v, u] w (Ret w fun v' w2 => IntC w2 (Nw (fun _ => False) w w2) v' (x * y)) := by
  have hlz := ln_mul_abs x y
  have hw : Bel w.heap.size w w := Bel.refl
  replace hx := hx.weak (S' := Cv S w.heap.size []) fun _ h => .inl h
  replace hy := hy.weak (S' := Cv S w.heap.size []) fun _ h => .inl h
  obtain ⟨bx, ax, lx, cx, rfl⟩ := hx.shape
  obtain ⟨b2, ay, ly, cy, rfl⟩ := hy.shape
  refine in_exact_Prod (by simp) ?_
  conv => whnf
  refine drawn_of_pi hτ hmix [.x 0, .x 2, .x 1, .x 3, .x 4, .x 5, .x 6] (by kernel_rfl) (by kernel_rfl) ?_
  conv => whnf
  refine callE_con (Φ := fun _ w' v w2 => NumR w2 (Nw (Cv S w.heap.size []) w' w2) v x) (fun ρ w' r => ofR_c (Rel.old r hS) (hx.rel r hS)) ?_
  rintro ρ wa1 v1 wb1 r he hb hn
  replace hw := hw.tr hb
  clear hx
  replace hy := hy.past (iv' := (wa1.heap.size, wb1.heap.size) :: []) r hS he fun x hx => List.mem_cons_of_mem _ hx
  have hX := hn.old r.baseLe
  clear r he hb hn
  generalize (wa1.heap.size, wb1.heap.size) :: [] = iv1 at *
  obtain ⟨s1_0, s1_1, s1_2, s1_3, rfl⟩ := hX.shape
  conv => whnf
  refine callE_con (Φ := fun _ w' v w2 => NumR w2 (Nw (Cv S w.heap.size iv1) w' w2) v y) (fun ρ w' r => ofR_c (Rel.old r hS) (hy.rel r hS)) ?_
  rintro ρ wa2 v2 wb2 r he hb hn
  replace hw := hw.tr hb
  clear hy
  replace hX := hX.past (iv' := (wa2.heap.size, wb2.heap.size) :: iv1) r hS he fun x hx => List.mem_cons_of_mem _ hx
  have hY := hn.old r.baseLe
  clear r he hb hn
  generalize (wa2.heap.size, wb2.heap.size) :: iv1 = iv2 at *
  obtain ⟨s2_0, s2_1, s2_2, s2_3, rfl⟩ := hY.shape
  conv => whnf
  refine callE_con (Φ := fun _ w' v w2 => NumR w2 (Nw (fun _ => False) w' w2) v (x * y)) (fun ρ w' r => numTimes_c (Rel.old r hS) (hX.rel r hS) (hY.rel r hS) (by omega) (by omega)) ?_
  rintro ρ wa3 v3 wb3 r he hb hn
  replace hw := hw.tr hb
  clear hX
  clear hY
  have hP := hn.got (S := fun _ => False) r.baseLe (iv := (wa3.heap.size, wb3.heap.size) :: iv2) List.mem_cons_self
  clear r he hb hn
  generalize (wa3.heap.size, wb3.heap.size) :: iv2 = iv3 at *
  obtain ⟨s3_0, s3_1, s3_2, s3_3, rfl⟩ := hP.shape
  conv => whnf
  refine callE_con (Φ := fun _ w' v w2 => IntC w2 (Nw (fun _ => False) w' w2) v (x * y)) (fun ρ w' r => give_c (Rel.old r (oldF w)) (hP.rel r (oldF w)) (by omega)) ?_
  rintro ρ wa4 v4 wb4 r he hb hn
  replace hw := hw.tr hb
  clear hP
  have hC := hn.got (S := fun _ => False) r.baseLe (iv := (wa4.heap.size, wb4.heap.size) :: iv3) List.mem_cons_self
  clear r he hb hn
  generalize (wa4.heap.size, wb4.heap.size) :: iv3 = iv4 at *
  obtain ⟨s4_0, s4_1, s4_2, s4_3, rfl⟩ := hC.shape
  conv => whnf
  intro ρe we re
  exact ⟨_, rfl, hw.tr re.bel, hC.out re (oldF w)⟩

theorem pubCmpInt_c {S : Nat → Prop} {w : World} {v u : Value} {x y : Int} (hS : Old S w) (hx : IntR w S v x) (hy : IntR w S u y) (hlx : ln x.natAbs ≤ 10000000000) (hly : ln y.natAbs ≤ 10000000000) :
    Con PG N.exact_CmpInt #[v, u] w (Ret w fun v' _ => v' = .int .i64 (x - y).sign) := by
  have hw : Bel w.heap.size w w := Bel.refl
  replace hx := hx.weak (S' := Cv S w.heap.size []) fun _ h => .inl h
  replace hy := hy.weak (S' := Cv S w.heap.size []) fun _ h => .inl h
  obtain ⟨bx, ax, lx, cx, rfl⟩ := hx.shape
  obtain ⟨b2, ay, ly, cy, rfl⟩ := hy.shape
  refine in_exact_CmpInt (by simp) ?_
  conv => whnf
  refine drawn_of_pi hτ hmix [.x 0, .x 2, .x 1, .x 3, .x 4, .x 5] (by kernel_rfl) (by kernel_rfl) ?_
  conv => whnf
  refine callE_con (Φ := fun _ w' v w2 => NumR w2 (Nw (Cv S w.heap.size []) w' w2) v x) (fun ρ w' r => ofR_c (Rel.old r hS) (hx.rel r hS)) ?_
  rintro ρ wa1 v1 wb1 r he hb hn
  replace hw := hw.tr hb
  clear hx
  replace hy := hy.past (iv' := (wa1.heap.size, wb1.heap.size) :: []) r hS he fun x hx => List.mem_cons_of_mem _ hx
  have hX := hn.old r.baseLe
  clear r he hb hn
  generalize (wa1.heap.size, wb1.heap.size) :: [] = iv1 at *
  obtain ⟨s1_0, s1_1, s1_2, s1_3, rfl⟩ := hX.shape
  conv => whnf
  refine callE_con (Φ := fun _ w' v w2 => NumR w2 (Nw (Cv S w.heap.size iv1) w' w2) v y) (fun ρ w' r => ofR_c (Rel.old r hS) (hy.rel r hS)) ?_
  rintro ρ wa2 v2 wb2 r he hb hn
  replace hw := hw.tr hb
  clear hy
  replace hX := hX.past (iv' := (wa2.heap.size, wb2.heap.size) :: iv1) r hS he fun x hx => List.mem_cons_of_mem _ hx
  have hY := hn.old r.baseLe
  clear r he hb hn
  generalize (wa2.heap.size, wb2.heap.size) :: iv1 = iv2 at *
  obtain ⟨s2_0, s2_1, s2_2, s2_3, rfl⟩ := hY.shape
  conv => whnf
  refine callE_con (Φ := fun _ w' v w2 => v = .int .i64 (x - y).sign) (fun ρ w' r => numCmp_c (Rel.old r hS) (hX.rel r hS) (hY.rel r hS) (by omega) (by omega)) ?_
  rintro ρ wa3 v3 wb3 r he hb rfl
  replace hw := hw.tr hb
  clear hX
  clear hY
  clear r he hb
  generalize (wa3.heap.size, wb3.heap.size) :: iv2 = iv3 at *
  conv => whnf
  intro ρe we re
  exact ⟨_, rfl, hw.tr re.bel, rfl⟩

theorem pubDivide_c {S : Nat → Prop} {w : World} {v u : Value} {x y : Int} (hS : Old S w) (hx : IntR w S v x) (hy : IntR w S u y) (hlx : ln x.natAbs ≤ 10000000000) (hly : ln y.natAbs ≤ 10000000000) :
    Con PG N.exact_Divide #[v, u] w (Ret w fun v' w2 => (y = 0 ∧ v' = .tuple #[.agg #[.bool false, .slice none 0 0], .agg #[.bool false, .slice none 0 0], .int .i64 9]) ∨
      (y ≠ 0 ∧ ∃ q r, v' = .tuple #[q, r, .int .i64 0] ∧ IntC w2 (Nw (fun _ => False) w w2) q (x / y) ∧ IntC w2 (Nw (fun _ => False) w w2) r (x % y))) := by
  have hlq := ln_mono (show (x / y).natAbs ≤ x.natAbs from Int.natAbs_ediv_le_natAbs x y)
  have hw : Bel w.heap.size w w := Bel.refl
  replace hx := hx.weak (S' := Cv S w.heap.size []) fun _ h => .inl h
  replace hy := hy.weak (S' := Cv S w.heap.size []) fun _ h => .inl h
  obtain ⟨bx, ax, lx, cx, rfl⟩ := hx.shape
  obtain ⟨b2, ay, ly, cy, rfl⟩ := hy.shape
  refine in_exact_Divide (by simp) ?_
  conv => whnf
  refine callE_S (callE_con (Φ := fun _ w' v w2 => NumR w2 (Nw (Cv S w.heap.size []) w' w2) v y) (fun ρ w' r => ofR_c (Rel.old r hS) (hy.rel r hS)) ?_)
  rintro ρ wa1 v1 wb1 r he hb hn
  replace hw := hw.tr hb
  replace hx := hx.past (iv' := (wa1.heap.size, wb1.heap.size) :: []) r hS he fun x hx => List.mem_cons_of_mem _ hx
  clear hy
  have hY := hn.old r.baseLe
  clear r he hb hn
  generalize (wa1.heap.size, wb1.heap.size) :: [] = iv1 at *
  obtain ⟨s1_0, s1_1, s1_2, s1_3, rfl⟩ := hY.shape
  conv => whnf
  refine callE_S (callE_con (Φ := fun _ w' v w2 => v = .int .i64 y.sign) (fun ρ w' r => sign_c (hY.rel r hS)) ?_)
  rintro ρ wa2 v2 wb2 r he hb rfl
  replace hw := hw.tr hb
  replace hx := hx.past (iv' := (wa2.heap.size, wb2.heap.size) :: iv1) r hS he fun x hx => List.mem_cons_of_mem _ hx
  replace hY := hY.past (iv' := (wa2.heap.size, wb2.heap.size) :: iv1) r hS he fun x hx => List.mem_cons_of_mem _ hx
  clear r he hb
  generalize (wa2.heap.size, wb2.heap.size) :: iv1 = iv2 at *
  conv => whnf
  refine BrS.mk (fun h => ?_) (fun h => ?_)
  · have h : y = 0 := Int.sign_eq_zero_iff_zero.1 (eq_of_beq h)
    conv => whnf
    intro ρe we re
    exact ⟨_, rfl, hw.tr re.bel, .inl ⟨h, rfl⟩⟩
  · have h : y ≠ 0 := fun e => by rw [e] at h; exact absurd h (by decide)
    have hlr := ln_mono (show (x % y).natAbs ≤ y.natAbs by have := Int.emod_nonneg x h; have := Int.emod_lt x h; omega)
    conv => whnf
    refine drawn_of_pi hτ hmix [.x 0, .x 2, .p 7, .p 8, .x 1, .x 3, .x 4, .x 5, .x 6, .x 7, .x 8, .x 9, .x 10] (by kernel_rfl) (by kernel_rfl) ?_
    conv => whnf
    refine callE_con (Φ := fun _ w' v w2 => NumR w2 (Nw (Cv S w.heap.size iv2) w' w2) v x) (fun ρ w' r => ofR_c (Rel.old r hS) (hx.rel r hS)) ?_
    rintro ρ wa3 v3 wb3 r he hb hn
    replace hw := hw.tr hb
    clear hx
    replace hY := hY.past (iv' := (wa3.heap.size, wb3.heap.size) :: iv2) r hS he fun x hx => List.mem_cons_of_mem _ hx
    have hX := hn.old r.baseLe
    clear r he hb hn
    generalize (wa3.heap.size, wb3.heap.size) :: iv2 = iv3 at *
    obtain ⟨s3_0, s3_1, s3_2, s3_3, rfl⟩ := hX.shape
    conv => whnf
    refine callE_con (Φ := fun _ w' v w2 => ∃ q r, v = .tuple #[q, r] ∧ NumR w2 (Nw (fun _ => False) w' w2) q (x / y) ∧ NumR w2 (Nw (Cv S w.heap.size iv3) w' w2) r (x % y)) (fun ρ w' r => numDivide_c (Rel.old r hS) (hX.rel r hS) (hY.rel r hS) h (by omega) (by omega)) ?_
    rintro ρ wa4 v4 wb4 r he hb ⟨qv, rv, rfl, hq1, hr1⟩
    replace hw := hw.tr hb
    clear hY
    clear hX
    have hQ := hq1.got (S := fun _ => False) r.baseLe (iv := (wa4.heap.size, wb4.heap.size) :: iv3) List.mem_cons_self
    have hR := hr1.old r.baseLe
    clear r he hb
    generalize (wa4.heap.size, wb4.heap.size) :: iv3 = iv4 at *
    obtain ⟨s4_0a, s4_0b, s4_0c, s4_0d, rfl⟩ := hQ.shape
    obtain ⟨s4_1a, s4_1b, s4_1c, s4_1d, rfl⟩ := hR.shape
    conv => whnf
    refine drawn_of_pi hτ hmix [.x 0, .x 2, .x 1, .x 3, .x 4, .x 5, .x 6] (by kernel_rfl) (by kernel_rfl) ?_
    conv => whnf
    refine callE_con (Φ := fun _ w' v w2 => IntC w2 (Nw (fun _ => False) w' w2) v (x / y)) (fun ρ w' r => give_c (Rel.old r (oldF w)) (hQ.rel r (oldF w)) (by omega)) ?_
    rintro ρ wa5 v5 wb5 r he hb hn
    replace hw := hw.tr hb
    clear hQ
    replace hR := hR.past (iv' := (wa5.heap.size, wb5.heap.size) :: iv4) r hS he fun x hx => List.mem_cons_of_mem _ hx
    have hC := hn.got (S := fun _ => False) r.baseLe (iv := (wa5.heap.size, wb5.heap.size) :: iv4) List.mem_cons_self
    clear r he hb hn
    generalize (wa5.heap.size, wb5.heap.size) :: iv4 = iv5 at *
    obtain ⟨s5_0, s5_1, s5_2, s5_3, rfl⟩ := hC.shape
    conv => whnf
    refine callE_con (Φ := fun _ w' v w2 => IntC w2 (Nw (fun _ => False) w' w2) v (x % y)) (fun ρ w' r => give_c (Rel.old r hS) (hR.rel r hS) (by omega)) ?_
    rintro ρ wa6 v6 wb6 r he hb hn
    replace hw := hw.tr hb
    clear hR
    replace hC := hC.past (iv' := (wa6.heap.size, wb6.heap.size) :: iv5) r (oldF w) he fun x hx => List.mem_cons_of_mem _ hx
    have hD := hn.got (S := fun _ => False) r.baseLe (iv := (wa6.heap.size, wb6.heap.size) :: iv5) List.mem_cons_self
    clear r he hb hn
    generalize (wa6.heap.size, wb6.heap.size) :: iv5 = iv6 at *
    obtain ⟨s6_0, s6_1, s6_2, s6_3, rfl⟩ := hD.shape
    conv => whnf
    intro ρe we re
    exact ⟨_, rfl, hw.tr re.bel, .inr ⟨h, _, _, rfl, hC.out re (oldF w), hD.out re (oldF w)⟩⟩

end Go.Ex

/- Fractions as Go keeps them: numerator and denominator in lowest terms. No condition. -/
namespace Go.Ex
open Go Go.Sx

theorem rat_over {x y : Int} (hy : 0 < y) (hx : x ≠ 0) :
    (Rat.divInt x y).num.natAbs = x.natAbs / Nat.gcd x.natAbs y.natAbs ∧ (Rat.divInt x y).den = y.natAbs / Nat.gcd x.natAbs y.natAbs ∧ decide ((Rat.divInt x y).num < 0) = decide (x < 0) := by
  have hg : 0 < Nat.gcd x.natAbs y.natAbs := Nat.gcd_pos_of_pos_right _ (by omega)
  have hs : y.sign = 1 := Int.sign_eq_one_of_pos hy
  have hc : (y.gcd x : Int) = (Nat.gcd x.natAbs y.natAbs : Nat) := by rw [Int.gcd_comm]; rfl
  have hdx : ((Nat.gcd x.natAbs y.natAbs : Nat) : Int) ∣ x := by
    rw [← Int.natAbs_dvd_natAbs]; exact Nat.gcd_dvd_left _ _
  have h1 : (Rat.divInt x y).num = x / ((Nat.gcd x.natAbs y.natAbs : Nat) : Int) := by
    rw [Rat.num_divInt, hs, Int.one_mul, hc]
  have hgi : 0 < ((Nat.gcd x.natAbs y.natAbs : Nat) : Int) := by omega
  refine ⟨?_, ?_, ?_⟩
  · rw [h1, Int.natAbs_ediv_of_dvd hdx]; rfl
  · rw [Rat.den_divInt, if_neg (by omega)]
    have : y.gcd x = Nat.gcd x.natAbs y.natAbs := by rw [Int.gcd_comm]; rfl
    rw [this]
  · rw [h1]
    obtain ⟨k, hk⟩ := hdx
    refine decide_eq_decide.2 ?_
    have : x / ((Nat.gcd x.natAbs y.natAbs : Nat) : Int) = k := by
      conv => lhs; lhs; rw [hk]
      exact Int.mul_ediv_cancel_left _ (by omega)
    rw [this]
    generalize ((Nat.gcd x.natAbs y.natAbs : Nat) : Int) = g at *
    subst hk
    constructor
    · intro h; exact Int.mul_neg_of_pos_of_neg hgi h
    · intro h
      have h0 : ¬ 0 ≤ k := fun hh => by have := Int.mul_nonneg (show 0 ≤ g by omega) hh; omega
      omega
theorem ln_div_le {a b : Nat} : ln (a / b) ≤ ln a := ln_mono (Nat.div_le_self a b)
theorem rat_zero (y : Int) : Rat.divInt 0 y = 0 := Rat.zero_divInt y
end Go.Ex

/- Fractions of package exact: reading, over, value, give. Printed by program. No condition. -/
namespace Go.Ex
open Go Go.Sx Go.Proofs

theorem NatR.old {S : Nat → Prop} {B : Nat} {iv : Iv} {w' w2 : World} {v : Value} {n : Nat} (h : NatR w2 (Nw (Cv S B iv) w' w2) v n) (hB : B ≤ w'.heap.size) : NatR w2 (Cv S B ((w'.heap.size, w2.heap.size) :: iv)) v n := h.weak fun _ hg => Nw.cv hg hB
/-- a fraction of package exact -/
def FracR (w : World) (S : Nat → Prop) (v : Value) (q : Rat) : Prop := ∃ nv dv, v = .agg #[.bool (decide (q.num < 0)), nv, .bool false, dv] ∧ NatR w S nv q.num.natAbs ∧ NatR w S dv q.den
theorem FracR.keep {S : Nat → Prop} {w w2 : World} {v : Value} {q : Rat} (h : FracR w S v q) (hk : ∀ g, S g → w2.heap[g]? = w.heap[g]?) : FracR w2 S v q := by
  obtain ⟨n, d, h1, h2, h3⟩ := h; exact ⟨n, d, h1, h2.keep hk, h3.keep hk⟩
theorem FracR.weak {S S' : Nat → Prop} {w : World} {v : Value} {q : Rat} (h : FracR w S v q) (hk : ∀ g, S g → S' g) : FracR w S' v q := by
  obtain ⟨n, d, h1, h2, h3⟩ := h; exact ⟨n, d, h1, h2.weak hk, h3.weak hk⟩
theorem FracR.shape {S : Nat → Prop} {w : World} {v : Value} {q : Rat} (h : FracR w S v q) : ∃ b a n c b2 a2 n2 c2, v = .agg #[.bool b, .slice a n c, .bool b2, .slice a2 n2 c2] := by
  obtain ⟨n, d, h1, h2, h3⟩ := h
  obtain ⟨a, n, c, rfl⟩ := h2.shape
  obtain ⟨a2, n2, c2, rfl⟩ := h3.shape
  exact ⟨_, a, n, c, _, a2, n2, c2, h1⟩
/-- .. its parts -/
theorem FracR.num {S : Nat → Prop} {w : World} {b b2 : Bool} {nv dv : Value} {q : Rat} (h : FracR w S (.agg #[.bool b, nv, .bool b2, dv]) q) : NumR w S (.agg #[.bool b, nv]) q.num := by
  obtain ⟨n, d, h1, h2, h3⟩ := h
  simp at h1
  obtain ⟨rfl, rfl, rfl, rfl⟩ := h1
  exact ⟨_, rfl, h2⟩
theorem FracR.den {S : Nat → Prop} {w : World} {b b2 : Bool} {nv dv : Value} {q : Rat} (h : FracR w S (.agg #[.bool b, nv, .bool b2, dv]) q) : NumR w S (.agg #[.bool b2, dv]) (q.den : Int) := by
  obtain ⟨n, d, h1, h2, h3⟩ := h
  simp at h1
  obtain ⟨rfl, rfl, rfl, rfl⟩ := h1
  exact ⟨_, by rw [decide_eq_false (by omega)], h3⟩
theorem FracR.of {S : Nat → Prop} {w : World} {b b2 : Bool} {nv dv : Value} {q : Rat} (h : NumR w S (.agg #[.bool b, nv]) q.num) (k : NumR w S (.agg #[.bool b2, dv]) (q.den : Int)) : FracR w S (.agg #[.bool b, nv, .bool b2, dv]) q := by
  obtain ⟨n, h1, h2⟩ := h
  obtain ⟨d, h3, h4⟩ := k
  simp at h1 h3
  obtain ⟨rfl, rfl⟩ := h1
  obtain ⟨rfl, rfl⟩ := h3
  refine ⟨_, _, ?_, h2, h4⟩
  rw [decide_eq_false (show ¬ ((q.den : Int) < 0) by omega)]
section
variable {S S' : Nat → Prop} {H : Hp} {nx : Nat} {iv iv' : Iv} {B : Nat} {w w' w2 : World} {ρ : Nat → Sx.Val} {v : Value} {q : Rat}
theorem FracR.rel (h : FracR w (Cv S B iv) v q) (r : Rel H nx iv B w ρ w') (hS : ∀ g, S g → g < B) : FracR w' (Cv S B iv) v q := h.keep fun _ hg => Rel.same r hS hg
theorem FracR.past (h : FracR w (Cv S B iv) v q) (r : Rel H nx iv B w ρ w') (hS : ∀ g, S g → g < B) (he : Ext w' w2) (hm : ∀ p, p ∈ iv → p ∈ iv') : FracR w2 (Cv S B iv') v q :=
  ((h.rel r hS).keep fun g hg => he.block g (Rel.old r hS g hg)).weak fun _ hg => hg.mono hm
theorem FracR.got (h : FracR w2 (Nw (fun _ => False) w' w2) v q) (hB : B ≤ w'.heap.size) (hm : (w'.heap.size, w2.heap.size) ∈ iv) : FracR w2 (Cv S B iv) v q := h.weak fun _ hg => hg.got hB hm
theorem FracR.old (h : FracR w2 (Nw (Cv S B iv) w' w2) v q) (hB : B ≤ w'.heap.size) : FracR w2 (Cv S B ((w'.heap.size, w2.heap.size) :: iv)) v q := h.weak fun _ hg => Nw.cv hg hB
theorem FracR.out {w0 w1 : World} (h : FracR w1 (Cv S w0.heap.size iv) v q) (r : Rel H nx iv w0.heap.size w1 ρ w') (hS : Old S w0) : FracR w' (Nw S w0 w') v q :=
  (h.rel r hS).weak fun _ hg => Cv.nw hg r
theorem FracR.arg (h : FracR w S v q) (iv : Iv) : FracR w (Cv S w.heap.size iv) v q := h.weak fun _ h => .inl h
end

theorem NumR.nat {S : Nat → Prop} {w : World} {b : Bool} {nv : Value} {z : Int} (h : NumR w S (.agg #[.bool b, nv]) z) : b = decide (z < 0) ∧ NatR w S nv z.natAbs := by
  obtain ⟨n, h1, h2⟩ := h
  simp at h1
  obtain ⟨rfl, rfl⟩ := h1
  exact ⟨rfl, h2⟩

theorem over_c {S : Nat → Prop} {w : World} {v u : Value} {x y : Int} (hS : Old S w) (hx : NumR w S v x) (hy : NumR w S u y) (hy0 : y ≠ 0) (hlx : ln x.natAbs ≤ 100000000000) (hly : ln y.natAbs ≤ 100000000000) :
    Con PG N.exact_over #[v, u] w (Ret w fun v' w2 => FracR w2 (Nw (fun _ => False) w w2) v' (Rat.divInt x y)) := by
  have hw : Bel w.heap.size w w := Bel.refl
  replace hx := hx.weak (S' := Cv S w.heap.size []) fun _ h => .inl h
  replace hy := hy.weak (S' := Cv S w.heap.size []) fun _ h => .inl h
  obtain ⟨bx, ax, lx, cx, rfl⟩ := hx.shape
  obtain ⟨b2, ay, ly, cy, rfl⟩ := hy.shape
  have hb2 := hy.nat.1
  refine in_exact_over (by simp) ?_
  conv => whnf
  cases b2
  · have hyp : 0 < y := by have := of_decide_eq_false hb2.symm; omega
    have hq : Rat.divInt x y = Rat.divInt x y := rfl
    conv => whnf
    have hbA := hx.nat.1
    refine callE_S (callE_con (Φ := fun _ w' v w2 => v = .int .i64 (x).sign) (fun ρ w' r => sign_c (hx.rel r hS)) ?_)
    rintro ρ wa1 v1 wb1 r he hb rfl
    replace hw := hw.tr hb
    replace hx := hx.past (iv' := (wa1.heap.size, wb1.heap.size) :: []) r hS he fun x hx => List.mem_cons_of_mem _ hx
    replace hy := hy.past (iv' := (wa1.heap.size, wb1.heap.size) :: []) r hS he fun x hx => List.mem_cons_of_mem _ hx
    clear r he hb
    generalize (wa1.heap.size, wb1.heap.size) :: [] = iv1 at *
    conv => whnf
    refine BrS.mk (fun h => ?_) (fun h => ?_)
    · have h : x = 0 := Int.sign_eq_zero_iff_zero.1 (eq_of_beq h)
      conv => whnf
      refine callE_S (callE_con (Φ := fun _ w' v w2 => NumR w2 (Nw (fun _ => False) w' w2) v 1) (fun ρ w' r => small_c 1 w' (by decide) (by decide)) ?_)
      rintro ρ wa2 v2 wb2 r he hb hn
      replace hw := hw.tr hb
      clear hx
      clear hy
      have hO := hn.got (S := fun _ => False) r.baseLe (iv := (wa2.heap.size, wb2.heap.size) :: iv1) List.mem_cons_self
      clear r he hb hn
      generalize (wa2.heap.size, wb2.heap.size) :: iv1 = iv2 at *
      obtain ⟨s2_0, s2_1, s2_2, s2_3, rfl⟩ := hO.shape
      conv => whnf
      have e0 : Rat.divInt x y = 0 := by rw [hq, h, rat_zero]
      intro ρe we re
      exact ⟨_, rfl, hw.tr re.bel, by rw [e0]; exact FracR.of ⟨_, rfl, NatR.nil _ _⟩ (hO.out re (oldF w))⟩
    · have h : x ≠ 0 := fun e => by rw [e] at h; exact absurd h (by decide)
      obtain ⟨g1, g2, g3⟩ := rat_over hyp h
      have hg0 : 0 < Nat.gcd (x).natAbs (y).natAbs := Nat.gcd_pos_of_pos_right _ (by omega)
      have hAn := hx.nat.2
      have hBn := hy.nat.2
      conv => whnf
      refine callE_S (callE_con (Φ := fun _ w' v w2 => NatR w2 (Nw (Cv S w.heap.size iv1) w' w2) v (Nat.gcd (x).natAbs (y).natAbs)) (fun ρ w' r => common_c (Rel.old r hS) (hAn.rel r hS) (hBn.rel r hS) (by omega) (by omega)) ?_)
      rintro ρ wa2 v2 wb2 r he hb hn
      replace hw := hw.tr hb
      clear hx
      clear hy
      replace hAn := hAn.past (iv' := (wa2.heap.size, wb2.heap.size) :: iv1) r hS he fun x hx => List.mem_cons_of_mem _ hx
      replace hBn := hBn.past (iv' := (wa2.heap.size, wb2.heap.size) :: iv1) r hS he fun x hx => List.mem_cons_of_mem _ hx
      have hG := hn.old r.baseLe
      clear r he hb hn
      generalize (wa2.heap.size, wb2.heap.size) :: iv1 = iv2 at *
      obtain ⟨s2_0, s2_1, s2_2, rfl⟩ := hG.shape
      conv => whnf
      refine callE_S (callE_con (Φ := fun _ w' v w2 => ∃ q r, v = .tuple #[q, r] ∧ NatR w2 (Nw (fun _ => False) w' w2) q ((x).natAbs / Nat.gcd (x).natAbs (y).natAbs) ∧ NatR w2 (Nw (Cv S w.heap.size iv2) w' w2) r ((x).natAbs % Nat.gcd (x).natAbs (y).natAbs)) (fun ρ w' r => divide_c (Rel.old r hS) (hAn.rel r hS) (hG.rel r hS) hg0 (by omega)) ?_)
      rintro ρ wa3 v3 wb3 r he hb ⟨qvp, rvp, rfl, hq1, hr1⟩
      replace hw := hw.tr hb
      clear hAn
      replace hBn := hBn.past (iv' := (wa3.heap.size, wb3.heap.size) :: iv2) r hS he fun x hx => List.mem_cons_of_mem _ hx
      replace hG := hG.past (iv' := (wa3.heap.size, wb3.heap.size) :: iv2) r hS he fun x hx => List.mem_cons_of_mem _ hx
      have hP := hq1.got (S := fun _ => False) r.baseLe (iv := (wa3.heap.size, wb3.heap.size) :: iv2) List.mem_cons_self
      have hPr := hr1.old r.baseLe
      clear r he hb
      generalize (wa3.heap.size, wb3.heap.size) :: iv2 = iv3 at *
      obtain ⟨s3_0a, s3_0b, s3_0c, rfl⟩ := hP.shape
      obtain ⟨s3_1a, s3_1b, s3_1c, rfl⟩ := hPr.shape
      conv => whnf
      clear hPr
      refine callE_S (callE_con (Φ := fun _ w' v w2 => ∃ q r, v = .tuple #[q, r] ∧ NatR w2 (Nw (fun _ => False) w' w2) q ((y).natAbs / Nat.gcd (x).natAbs (y).natAbs) ∧ NatR w2 (Nw (Cv S w.heap.size iv3) w' w2) r ((y).natAbs % Nat.gcd (x).natAbs (y).natAbs)) (fun ρ w' r => divide_c (Rel.old r hS) (hBn.rel r hS) (hG.rel r hS) hg0 (by omega)) ?_)
      rintro ρ wa4 v4 wb4 r he hb ⟨qvq, rvq, rfl, hq1, hr1⟩
      replace hw := hw.tr hb
      clear hBn
      clear hG
      replace hP := hP.past (iv' := (wa4.heap.size, wb4.heap.size) :: iv3) r (oldF w) he fun x hx => List.mem_cons_of_mem _ hx
      have hQ := hq1.got (S := fun _ => False) r.baseLe (iv := (wa4.heap.size, wb4.heap.size) :: iv3) List.mem_cons_self
      have hQr := hr1.old r.baseLe
      clear r he hb
      generalize (wa4.heap.size, wb4.heap.size) :: iv3 = iv4 at *
      obtain ⟨s4_0a, s4_0b, s4_0c, rfl⟩ := hQ.shape
      obtain ⟨s4_1a, s4_1b, s4_1c, rfl⟩ := hQr.shape
      conv => whnf
      intro ρe we re
      exact ⟨_, rfl, hw.tr re.bel, by rw [hq]; exact FracR.of ⟨_, by rw [g3, ← hbA], by rw [g1]; exact hP.out re (oldF w)⟩ ⟨_, by rw [decide_eq_false (by omega)], by rw [g2]; exact hQ.out re (oldF w)⟩⟩
  · have hyp : 0 < -y := by have := of_decide_eq_true hb2.symm; omega
    have hq : Rat.divInt x y = Rat.divInt (-x) (-y) := (Rat.neg_divInt_neg _ _).symm
    have nx := Int.natAbs_neg x
    have ny := Int.natAbs_neg y
    have hlx2 : ln (-x).natAbs ≤ 100000000000 := by rw [nx]; exact hlx
    have hly2 : ln (-y).natAbs ≤ 100000000000 := by rw [ny]; exact hly
    conv => whnf
    refine drawn_of_pi hτ hmix [.x 0, .x 2, .x 1, .x 3, .x 4, .x 5] (by kernel_rfl) (by kernel_rfl) ?_
    conv => whnf
    refine callE_con (Φ := fun _ w' v w2 => NumR w2 (Nw (Cv S w.heap.size []) w' w2) v (-x)) (fun ρ w' r => numMinus_c (Rel.old r hS) (hx.rel r hS)) ?_
    rintro ρ wa1 v1 wb1 r he hb hn
    replace hw := hw.tr hb
    clear hx
    replace hy := hy.past (iv' := (wa1.heap.size, wb1.heap.size) :: []) r hS he fun x hx => List.mem_cons_of_mem _ hx
    have hA := hn.old r.baseLe
    clear r he hb hn
    generalize (wa1.heap.size, wb1.heap.size) :: [] = iv1 at *
    obtain ⟨s1_0, s1_1, s1_2, s1_3, rfl⟩ := hA.shape
    conv => whnf
    refine callE_con (Φ := fun _ w' v w2 => NumR w2 (Nw (Cv S w.heap.size iv1) w' w2) v (-y)) (fun ρ w' r => numMinus_c (Rel.old r hS) (hy.rel r hS)) ?_
    rintro ρ wa2 v2 wb2 r he hb hn
    replace hw := hw.tr hb
    clear hy
    replace hA := hA.past (iv' := (wa2.heap.size, wb2.heap.size) :: iv1) r hS he fun x hx => List.mem_cons_of_mem _ hx
    have hB := hn.old r.baseLe
    clear r he hb hn
    generalize (wa2.heap.size, wb2.heap.size) :: iv1 = iv2 at *
    obtain ⟨s2_0, s2_1, s2_2, s2_3, rfl⟩ := hB.shape
    conv => whnf
    have hbA := hA.nat.1
    refine callE_S (callE_con (Φ := fun _ w' v w2 => v = .int .i64 (-x).sign) (fun ρ w' r => sign_c (hA.rel r hS)) ?_)
    rintro ρ wa3 v3 wb3 r he hb rfl
    replace hw := hw.tr hb
    replace hA := hA.past (iv' := (wa3.heap.size, wb3.heap.size) :: iv2) r hS he fun x hx => List.mem_cons_of_mem _ hx
    replace hB := hB.past (iv' := (wa3.heap.size, wb3.heap.size) :: iv2) r hS he fun x hx => List.mem_cons_of_mem _ hx
    clear r he hb
    generalize (wa3.heap.size, wb3.heap.size) :: iv2 = iv3 at *
    conv => whnf
    refine BrS.mk (fun h => ?_) (fun h => ?_)
    · have h : -x = 0 := Int.sign_eq_zero_iff_zero.1 (eq_of_beq h)
      conv => whnf
      refine callE_S (callE_con (Φ := fun _ w' v w2 => NumR w2 (Nw (fun _ => False) w' w2) v 1) (fun ρ w' r => small_c 1 w' (by decide) (by decide)) ?_)
      rintro ρ wa4 v4 wb4 r he hb hn
      replace hw := hw.tr hb
      clear hA
      clear hB
      have hO := hn.got (S := fun _ => False) r.baseLe (iv := (wa4.heap.size, wb4.heap.size) :: iv3) List.mem_cons_self
      clear r he hb hn
      generalize (wa4.heap.size, wb4.heap.size) :: iv3 = iv4 at *
      obtain ⟨s4_0, s4_1, s4_2, s4_3, rfl⟩ := hO.shape
      conv => whnf
      have e0 : Rat.divInt x y = 0 := by rw [hq, h, rat_zero]
      intro ρe we re
      exact ⟨_, rfl, hw.tr re.bel, by rw [e0]; exact FracR.of ⟨_, rfl, NatR.nil _ _⟩ (hO.out re (oldF w))⟩
    · have h : -x ≠ 0 := fun e => by rw [e] at h; exact absurd h (by decide)
      obtain ⟨g1, g2, g3⟩ := rat_over hyp h
      have hg0 : 0 < Nat.gcd (-x).natAbs (-y).natAbs := Nat.gcd_pos_of_pos_right _ (by omega)
      have hAn := hA.nat.2
      have hBn := hB.nat.2
      conv => whnf
      refine callE_S (callE_con (Φ := fun _ w' v w2 => NatR w2 (Nw (Cv S w.heap.size iv3) w' w2) v (Nat.gcd (-x).natAbs (-y).natAbs)) (fun ρ w' r => common_c (Rel.old r hS) (hAn.rel r hS) (hBn.rel r hS) (by omega) (by omega)) ?_)
      rintro ρ wa4 v4 wb4 r he hb hn
      replace hw := hw.tr hb
      clear hA
      clear hB
      replace hAn := hAn.past (iv' := (wa4.heap.size, wb4.heap.size) :: iv3) r hS he fun x hx => List.mem_cons_of_mem _ hx
      replace hBn := hBn.past (iv' := (wa4.heap.size, wb4.heap.size) :: iv3) r hS he fun x hx => List.mem_cons_of_mem _ hx
      have hG := hn.old r.baseLe
      clear r he hb hn
      generalize (wa4.heap.size, wb4.heap.size) :: iv3 = iv4 at *
      obtain ⟨s4_0, s4_1, s4_2, rfl⟩ := hG.shape
      conv => whnf
      refine callE_S (callE_con (Φ := fun _ w' v w2 => ∃ q r, v = .tuple #[q, r] ∧ NatR w2 (Nw (fun _ => False) w' w2) q ((-x).natAbs / Nat.gcd (-x).natAbs (-y).natAbs) ∧ NatR w2 (Nw (Cv S w.heap.size iv4) w' w2) r ((-x).natAbs % Nat.gcd (-x).natAbs (-y).natAbs)) (fun ρ w' r => divide_c (Rel.old r hS) (hAn.rel r hS) (hG.rel r hS) hg0 (by omega)) ?_)
      rintro ρ wa5 v5 wb5 r he hb ⟨qvp, rvp, rfl, hq1, hr1⟩
      replace hw := hw.tr hb
      clear hAn
      replace hBn := hBn.past (iv' := (wa5.heap.size, wb5.heap.size) :: iv4) r hS he fun x hx => List.mem_cons_of_mem _ hx
      replace hG := hG.past (iv' := (wa5.heap.size, wb5.heap.size) :: iv4) r hS he fun x hx => List.mem_cons_of_mem _ hx
      have hP := hq1.got (S := fun _ => False) r.baseLe (iv := (wa5.heap.size, wb5.heap.size) :: iv4) List.mem_cons_self
      have hPr := hr1.old r.baseLe
      clear r he hb
      generalize (wa5.heap.size, wb5.heap.size) :: iv4 = iv5 at *
      obtain ⟨s5_0a, s5_0b, s5_0c, rfl⟩ := hP.shape
      obtain ⟨s5_1a, s5_1b, s5_1c, rfl⟩ := hPr.shape
      conv => whnf
      clear hPr
      refine callE_S (callE_con (Φ := fun _ w' v w2 => ∃ q r, v = .tuple #[q, r] ∧ NatR w2 (Nw (fun _ => False) w' w2) q ((-y).natAbs / Nat.gcd (-x).natAbs (-y).natAbs) ∧ NatR w2 (Nw (Cv S w.heap.size iv5) w' w2) r ((-y).natAbs % Nat.gcd (-x).natAbs (-y).natAbs)) (fun ρ w' r => divide_c (Rel.old r hS) (hBn.rel r hS) (hG.rel r hS) hg0 (by omega)) ?_)
      rintro ρ wa6 v6 wb6 r he hb ⟨qvq, rvq, rfl, hq1, hr1⟩
      replace hw := hw.tr hb
      clear hBn
      clear hG
      replace hP := hP.past (iv' := (wa6.heap.size, wb6.heap.size) :: iv5) r (oldF w) he fun x hx => List.mem_cons_of_mem _ hx
      have hQ := hq1.got (S := fun _ => False) r.baseLe (iv := (wa6.heap.size, wb6.heap.size) :: iv5) List.mem_cons_self
      have hQr := hr1.old r.baseLe
      clear r he hb
      generalize (wa6.heap.size, wb6.heap.size) :: iv5 = iv6 at *
      obtain ⟨s6_0a, s6_0b, s6_0c, rfl⟩ := hQ.shape
      obtain ⟨s6_1a, s6_1b, s6_1c, rfl⟩ := hQr.shape
      conv => whnf
      intro ρe we re
      exact ⟨_, rfl, hw.tr re.bel, by rw [hq]; exact FracR.of ⟨_, by rw [g3, ← hbA], by rw [g1]; exact hP.out re (oldF w)⟩ ⟨_, by rw [decide_eq_false (by omega)], by rw [g2]; exact hQ.out re (oldF w)⟩⟩

end Go.Ex

/- Sizes and signs of fractions. No condition. -/
namespace Go.Ex
open Go Go.Sx

/-- limbs of the longer part -/
def rl (q : Rat) : Nat := max (ln q.num.natAbs) (ln q.den)
theorem rl_num (q : Rat) : ln q.num.natAbs ≤ rl q := Nat.le_max_left _ _
theorem rl_den (q : Rat) : ln q.den ≤ rl q := Nat.le_max_right _ _
theorem rl_den' (q : Rat) : ln ((q.den : Int)).natAbs ≤ rl q := Nat.le_max_right _ _
theorem ln_one : ln 1 = 1 := by decide
theorem rl_divInt {a b : Int} (hb : b ≠ 0) : rl (Rat.divInt a b) ≤ max (ln a.natAbs) (ln b.natAbs) := by
  have h1 : ln (Rat.divInt a b).num.natAbs ≤ ln a.natAbs := by
    rw [Rat.num_divInt]
    refine ln_mono (Nat.le_trans (Int.natAbs_ediv_le_natAbs _ _) ?_)
    rw [Int.natAbs_mul, Int.natAbs_sign_of_ne_zero hb, Nat.one_mul]
    exact Nat.le_refl _
  have h2 : ln (Rat.divInt a b).den ≤ ln b.natAbs := by
    rw [Rat.den_divInt, if_neg hb]
    exact ln_div_le
  unfold rl
  omega
theorem ln_add_int (x y : Int) : ln (x + y).natAbs ≤ max (ln x.natAbs) (ln y.natAbs) + 1 := by
  have h1 := ln_add x.natAbs y.natAbs
  have h2 := ln_mono (show (x + y).natAbs ≤ x.natAbs + y.natAbs by omega)
  omega
theorem den_ne (q : Rat) : (q.den : Int) ≠ 0 := by have := q.den_pos; omega
theorem rat_add (f g : Rat) : f + g = Rat.divInt (f.num * g.den + g.num * f.den) (f.den * g.den) := by
  rw [← Rat.divInt_add_divInt _ _ (den_ne f) (den_ne g), Rat.num_divInt_den, Rat.num_divInt_den]
theorem rat_mul (f g : Rat) : f * g = Rat.divInt (f.num * g.num) (f.den * g.den) := by
  rw [← Rat.divInt_mul_divInt, Rat.num_divInt_den, Rat.num_divInt_den]
theorem rat_div (f g : Rat) : f / g = Rat.divInt (f.num * g.den) (f.den * g.num) := by
  rw [← Rat.divInt_mul_divInt, Rat.num_divInt_den, ← Rat.inv_def, ← Rat.div_def]
theorem mul_ne {a b : Int} (ha : a ≠ 0) (hb : b ≠ 0) : a * b ≠ 0 := Int.mul_ne_zero ha hb
theorem rl_add (f g : Rat) : rl (f + g) ≤ rl f + rl g + 1 := by
  have h := rl_divInt (a := f.num * g.den + g.num * f.den) (mul_ne (den_ne f) (den_ne g))
  rw [← rat_add] at h
  have h1 := ln_add_int (f.num * g.den) (g.num * f.den)
  have h2 := ln_mul_abs f.num g.den
  have h3 := ln_mul_abs g.num f.den
  have h4 := ln_mul_abs f.den g.den
  have := rl_num f; have := rl_num g; have := rl_den' f; have := rl_den' g
  omega
theorem rl_mul (f g : Rat) : rl (f * g) ≤ rl f + rl g := by
  have h := rl_divInt (a := f.num * g.num) (mul_ne (den_ne f) (den_ne g))
  rw [← rat_mul] at h
  have h2 := ln_mul_abs f.num g.num
  have h4 := ln_mul_abs f.den g.den
  have := rl_num f; have := rl_num g; have := rl_den' f; have := rl_den' g
  omega
theorem rl_div (f : Rat) {g : Rat} (hg : g ≠ 0) : rl (f / g) ≤ rl f + rl g := by
  have h := rl_divInt (a := f.num * g.den) (mul_ne (den_ne f) (fun e => hg (Rat.num_eq_zero.1 e)))
  rw [← rat_div] at h
  have h2 := ln_mul_abs f.num g.den
  have h4 := ln_mul_abs f.den g.num
  have := rl_num f; have := rl_num g; have := rl_den' f; have := rl_den' g
  omega
theorem rl_neg (f : Rat) : rl (-f) = rl f := by unfold rl; rw [Rat.neg_num, Rat.neg_den, Int.natAbs_neg]
theorem rl_sub (f g : Rat) : rl (f - g) ≤ rl f + rl g + 1 := by
  rw [Rat.sub_eq_add_neg]; have := rl_add f (-g); rw [rl_neg] at this; exact this
/-- the sign of a fraction -/
def rs (q : Rat) : Int := q.num.sign
theorem sign_div {a b : Int} (hb : 0 < b) : (Rat.divInt a b).num.sign = a.sign := by
  by_cases ha : a = 0
  · subst ha; rw [rat_zero]; rfl
  · obtain ⟨h1, -, h3⟩ := rat_over hb ha
    have h3 := decide_eq_decide.1 h3
    have h0 : (Rat.divInt a b).num ≠ 0 := fun e => by
      have h4 := Nat.div_pos (Nat.le_of_dvd (by omega) (Nat.gcd_dvd_left a.natAbs b.natAbs)) (Nat.gcd_pos_of_pos_right a.natAbs (n := b.natAbs) (by omega))
      omega
    rcases Int.lt_or_gt_of_ne ha with h | h
    · rw [Int.sign_eq_neg_one_of_neg h, Int.sign_eq_neg_one_of_neg (h3.2 h)]
    · rw [Int.sign_eq_one_of_pos h, Int.sign_eq_one_of_pos (by omega)]
theorem rat_cmp (f g : Rat) : (f.num * g.den - g.num * f.den).sign = rs (f - g) := by
  rw [rs, Rat.sub_eq_add_neg, rat_add, sign_div (Int.mul_pos (by have := f.den_pos; omega) (by rw [Rat.neg_den]; have := g.den_pos; omega)), Rat.neg_num, Rat.neg_den, Int.neg_mul, ← Int.sub_eq_add_neg]
/-- what a fraction stands for, as it is written: a / b, and a when b is 0 -/
def ratio (a b : Int) : Rat := if b = 0 then Rat.divInt a 1 else Rat.divInt a b
theorem rl_ratio (a b : Int) : rl (ratio a b) ≤ max (ln a.natAbs) (max 1 (ln b.natAbs)) := by
  unfold ratio
  split
  · have := rl_divInt (a := a) (b := 1) (by decide)
    have h1 : ln (1 : Int).natAbs = 1 := by decide
    rw [h1] at this
    omega
  · rename_i h
    have := rl_divInt (a := a) h
    omega
theorem ratio_canon (q : Rat) : ratio q.num q.den = q := by
  rw [ratio, if_neg (den_ne q), Rat.num_divInt_den]
end Go.Ex
