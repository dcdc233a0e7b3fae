/- A part of the proof: texts X51 to X52. Each tells its conditions in its theorems. -/
import Derived.Test.YtifbdehkpmcgoaaGreatDoorP10
/- The examples that each law of chapter 1 begins with. Printed by program. No condition. -/
namespace Go.Ex
open Go Go.Sx Go.Proofs

def awM : List (List (Int × Int)) := [[(1, 1), (2, 1)], [(2, 1), (4, 1)]]
def awB : List (Int × Int) := [(3, 1), (6, 1)]
theorem aw_err : errS awM awB = 0 := by decide +kernel
theorem aw_red : reduceF (allF (valsM awM) (awB.map ratioP)) (colsM awM) = ([[1, 2, 3, 1, 0], [0, 0, 0, -2, 1]], [0]) := by decide +kernel
theorem aw_few : (∀ r ∈ awM, Few r) ∧ Few awB := by unfold Few; decide +kernel
theorem aw_ht : Ht (allF (valsM awM) (awB.map ratioP)) 2 := by unfold Ht; decide +kernel
theorem aw_x : xvecTo [[1, 2, 3, 1, 0], [0, 0, 0, -2, 1]] [0] 2 1 = [3, 0] := by decide +kernel
theorem aw_k : kernelTo [[1, 2, 3, 1, 0], [0, 0, 0, -2, 1]] [0] 2 2 = [[-2, 1]] := by decide +kernel
theorem aw_root {r : Nat} (h : IsRoot (2 * 100 * 100 : Int).natAbs r) : r = 141 := by
  have h1 := h.1
  have h2 := h.2
  have e : (2 * 100 * 100 : Int).natAbs = 20000 := by decide
  rw [e] at h1 h2
  rcases Nat.lt_trichotomy r 141 with h3 | h3 | h3
  · have := Nat.mul_le_mul (show r + 1 ≤ 141 by omega) (show r + 1 ≤ 141 by omega)
    omega
  · exact h3
  · have := Nat.mul_le_mul (show 142 ≤ r by omega) (show 142 ≤ r by omega)
    omega
theorem aw_txt : txt (ratio (Rat.divInt 141 100).num (Rat.divInt 141 100).den) = ⟨#[49, 52, 49, 47, 49, 48, 48]⟩ := by decide +kernel
theorem ln_c {z : Int} (h : z.natAbs < 4294967296) : ln z.natAbs ≤ 10000000000 := Nat.le_trans (ln_le.2 (show z.natAbs < 4294967296 ^ 1 by omega)) (by decide)
theorem aw_divide {S : Nat → Prop} {w : World} {v u : Value} (hS : Old S w) (hx : IntR w S v (-7)) (hy : IntR w S u 2) :
    Con PG N.exact_Divide #[v, u] w (Ret w fun v' w2 => ∃ q r, v' = .tuple #[q, r, .int .i64 0] ∧ IntC w2 (Nw (fun _ => False) w w2) q (-4) ∧ IntC w2 (Nw (fun _ => False) w w2) r 1) :=
  (pubDivide_c hS hx hy (ln_c (by decide)) (ln_c (by decide))).mono fun _ w2 ⟨v2, e1, e2, e3⟩ => ⟨v2, e1, e2, e3.elim (fun h => absurd h.1 (by decide)) fun h => h.2⟩
theorem aw_below (w : World) :
    Con PG N.exact_RootBelow #[.int .i64 2, .int .i64 100] w (Ret w fun v' w2 => ∃ q, v' = .tuple #[q, .int .i64 0] ∧ RatC w2 (Nw (fun _ => False) w w2) q (Rat.divInt 141 100)) :=
  (pubRootBelow_c 2 100 w (by decide) (by decide) (by decide) (by decide)).mono fun _ w2 ⟨v2, e1, e2, e3⟩ => ⟨v2, e1, e2, e3.elim (fun h => absurd h.1 (by decide)) fun ⟨_, r, q, h1, h2, h3⟩ => ⟨q, h2, by
    rw [aw_root h1] at h3
    exact h3⟩⟩
theorem aw_solve {S : Nat → Prop} {w : World} {v u : Value} (hS : Old S w) (h : RatMR w S v awM) (hu : RatsR w S u awB) :
    Con PG N.exact_Solve #[v, u] w (Ret w fun v' w2 => ∃ vx vk, v' = .tuple #[.agg #[.int .i64 0, vx, vk, .slice none 0 0], .int .i64 0] ∧ RatsC w2 (Nw (fun _ => False) w w2) vx [3, 0] ∧ RatMC w2 (Nw (fun _ => False) w w2) vk [[-2, 1]]) :=
  (pubSolve_c (h0 := 2) hS h hu fun _ => ⟨aw_few.1, aw_few.2, aw_ht, by decide, by decide⟩).mono fun _ w2 ⟨v2, e1, e2, e3⟩ => ⟨v2, e1, e2, by
    rcases e3 with h | ⟨_, s, rfl, A, pv, hA, h⟩
    · exact absurd aw_err h.1
    · rw [aw_red] at hA
      injection hA with hA hp
      subst hA hp
      rcases h with ⟨j, vp, h1, h2, h3, _⟩ | ⟨vx, vk, _, rfl, h2, h3⟩
      · have : j = 1 := by have : j < 2 := h2
                           have : 1 ≤ j := h1
                           omega
        subst this
        exact absurd (show at2 [[1, 2, 3, 1, 0], [0, 0, 0, -2, 1]] 1 2 = 0 by decide +kernel) h3
      · refine ⟨vx, vk, rfl, ?_, ?_⟩
        · have := aw_x
          rw [← this]
          exact h2
        · have := aw_k
          rw [← this]
          exact h3⟩
theorem aw_format {S : Nat → Prop} {w : World} {v : Value} (hS : Old S w) (h : RatC w S v (Rat.divInt 141 100)) :
    Con PG N.exact_Format #[v] w (Ret w fun v' _ => v' = .string ⟨#[49, 52, 49, 47, 49, 48, 48]⟩) := by
  have := pubFormat_c hS h.r (ln_c (by decide +kernel)) (ln_c (by decide +kernel)) (by decide +kernel) (by decide +kernel)
  rw [aw_txt] at this
  exact this
end Go.Ex
namespace Go.Sx
open Go Go.Ex Go.Proofs
theorem Rel.box2 {α : Type} {P : World → (Nat → Prop) → List Value → α → Prop} {S' : Nat → Prop} {H : Hp} {nx : Nat} {iv : Iv} {B : Nat} {w w' : World} {ρ : Nat → Sx.Val} (r : Rel H nx iv B w ρ w') {id t : Nat} {u0 u1 u2 u3 u4 u5 u6 u7 : Value} {x y : α}
    (h : getH H id = some (.box t [.v u0, .v u1, .v u2, .v u3, .v u4, .v u5, .v u6, .v u7])) (h1 : ∀ u ∈ [u0, u1, u2, u3, u4, u5, u6, u7], u.oneCell' = true) (p1 : P w' S' [u0, u1, u2, u3] x) (p2 : P w' S' [u4, u5, u6, u7] y) (hg : S' (ρ id).g) :
    ListR P w' S' (.slice (some ⟨(ρ id).g, 0, none⟩) 2 2) [x, y] :=
  ⟨[[u0, u1, u2, u3], [u4, u5, u6, u7]], (r.boxSeq (sz := 4) (n := 2) h rfl (by simp [maxLen]) (fun u hu => by
    simp only [List.mem_cons, List.not_mem_nil, or_false] at hu
    rcases hu with rfl | rfl | rfl | rfl | rfl | rfl | rfl | rfl <;> exact h1 _ (by simp [At.den]))).weak (fun g hg' => by rw [hg']; exact hg), rfl, by simp, fun j cs z k1 k2 => by
    match j with
    | 0 => simp at k1 k2; subst k1 k2; exact p1
    | 1 => simp at k1 k2; subst k1 k2; exact p2
    | j + 2 => simp at k1⟩
end Go.Sx
namespace Go.Ex
open Go Go.Sx Go.Proofs
theorem RatC.four {S : Nat → Prop} {w : World} {b b2 : Bool} {a a2 : Option Addr} {n c n2 c2 : Nat} {q : Rat} (h : RatC w S (.agg #[.bool b, .slice a n c, .bool b2, .slice a2 n2 c2]) q) : Rat4 w S [.bool b, .slice a n c, .bool b2, .slice a2 n2 c2] (q.num, (q.den : Int)) :=
  ⟨b, a, n, c, b2, a2, n2, c2, rfl, h.r⟩
theorem RatC.fourC {S : Nat → Prop} {w : World} {b b2 : Bool} {a a2 : Option Addr} {n c n2 c2 : Nat} {q : Rat} (h : RatC w S (.agg #[.bool b, .slice a n c, .bool b2, .slice a2 n2 c2]) q) : Rat4C w S [.bool b, .slice a n c, .bool b2, .slice a2 n2 c2] q :=
  ⟨b, a, n, c, b2, a2, n2, c2, rfl, h⟩
theorem Rel.lt {H : Hp} {nx : Nat} {iv : Iv} {B : Nat} {w w' : World} {ρ : Nat → Sx.Val} (r : Rel H nx iv B w ρ w') {id t : Nat} {cs : List At} (h : getH H id = some (.box t cs)) : (ρ id).g < w'.heap.size := (r.low id _ h (r.nn id _ h (by intros; simp) (by simp))).2
theorem awake_c (w : World) : Con PG N.law01_awake #[] w (Ret w fun v' _ => v' = .bool true) := by
  have hw : Bel w.heap.size w w := Bel.refl
  refine in_law01_awake (by simp) ?_
  conv => whnf
  refine callE_S (callE_con (Φ := fun _ w' v w2 => IntC w2 (Nw (fun _ => False) w' w2) v (-7)) (fun ρ w' r => pubOf_c _ w' (by decide) (by decide)) ?_)
  rintro ρ wa1 v1 wb1 r he hb hn
  replace hw := hw.tr hb
  have hA := hn.got (S := fun _ => False) r.baseLe (iv := (wa1.heap.size, wb1.heap.size) :: []) List.mem_cons_self
  clear r he hb hn
  generalize (wa1.heap.size, wb1.heap.size) :: [] = iv1 at *
  obtain ⟨s1_0, s1_1, s1_2, s1_3, rfl⟩ := hA.shape
  conv => whnf
  refine callE_S (callE_con (Φ := fun _ w' v w2 => IntC w2 (Nw (fun _ => False) w' w2) v 2) (fun ρ w' r => pubOf_c _ w' (by decide) (by decide)) ?_)
  rintro ρ wa2 v2 wb2 r he hb hn
  replace hw := hw.tr hb
  replace hA := hA.past (iv' := (wa2.heap.size, wb2.heap.size) :: iv1) r (oldF w) he fun x hx => List.mem_cons_of_mem _ hx
  have hB := hn.got (S := fun _ => False) r.baseLe (iv := (wa2.heap.size, wb2.heap.size) :: iv1) List.mem_cons_self
  clear r he hb hn
  generalize (wa2.heap.size, wb2.heap.size) :: iv1 = iv2 at *
  obtain ⟨s2_0, s2_1, s2_2, s2_3, rfl⟩ := hB.shape
  conv => whnf
  refine callE_S (callE_con (Φ := fun _ w' v w2 => ∃ q r, v = .tuple #[q, r, .int .i64 0] ∧ IntC w2 (Nw (fun _ => False) w' w2) q (-4) ∧ IntC w2 (Nw (fun _ => False) w' w2) r 1) (fun ρ w' r => aw_divide (Rel.old r (oldF w)) (hA.rel r (oldF w)).r (hB.rel r (oldF w)).r) ?_)
  rintro ρ wa3 v3 wb3 r he hb ⟨q, rr, rfl, k1, k2⟩
  replace hw := hw.tr hb
  clear hA
  clear hB
  have hq := k1.got (S := fun _ => False) r.baseLe (iv := (wa3.heap.size, wb3.heap.size) :: iv2) List.mem_cons_self
  have hr := k2.got (S := fun _ => False) r.baseLe (iv := (wa3.heap.size, wb3.heap.size) :: iv2) List.mem_cons_self
  clear r he hb
  generalize (wa3.heap.size, wb3.heap.size) :: iv2 = iv3 at *
  obtain ⟨s3_0a, s3_0b, s3_0c, s3_0d, rfl⟩ := hq.shape
  obtain ⟨s3_1a, s3_1b, s3_1c, s3_1d, rfl⟩ := hr.shape
  conv => whnf
  refine callE_S (callE_con (Φ := fun _ w' v w2 => ∃ q, v = .tuple #[q, .int .i64 0] ∧ RatC w2 (Nw (fun _ => False) w' w2) q (Rat.divInt 141 100)) (fun ρ w' r => aw_below w') ?_)
  rintro ρ wa4 v4 wb4 r he hb ⟨f, rfl, k1⟩
  replace hw := hw.tr hb
  replace hq := hq.past (iv' := (wa4.heap.size, wb4.heap.size) :: iv3) r (oldF w) he fun x hx => List.mem_cons_of_mem _ hx
  replace hr := hr.past (iv' := (wa4.heap.size, wb4.heap.size) :: iv3) r (oldF w) he fun x hx => List.mem_cons_of_mem _ hx
  have hf := k1.got (S := fun _ => False) r.baseLe (iv := (wa4.heap.size, wb4.heap.size) :: iv3) List.mem_cons_self
  clear r he hb
  generalize (wa4.heap.size, wb4.heap.size) :: iv3 = iv4 at *
  obtain ⟨s4_0a, s4_0b, s4_0c, s4_0d, s4_0e, s4_0f, s4_0g, s4_0h, rfl⟩ := hf.shape
  conv => whnf
  refine callE_S (callE_con (Φ := fun _ w' v w2 => RatC w2 (Nw (fun _ => False) w' w2) v ((1 : Int) : Rat)) (fun ρ w' r => rWhole_c 1 w' (by decide)) ?_)
  rintro ρ wa5 v5 wb5 r he hb hn
  replace hw := hw.tr hb
  replace hq := hq.past (iv' := (wa5.heap.size, wb5.heap.size) :: iv4) r (oldF w) he fun x hx => List.mem_cons_of_mem _ hx
  replace hr := hr.past (iv' := (wa5.heap.size, wb5.heap.size) :: iv4) r (oldF w) he fun x hx => List.mem_cons_of_mem _ hx
  replace hf := hf.past (iv' := (wa5.heap.size, wb5.heap.size) :: iv4) r (oldF w) he fun x hx => List.mem_cons_of_mem _ hx
  have hx0 := hn.got (S := fun _ => False) r.baseLe (iv := (wa5.heap.size, wb5.heap.size) :: iv4) List.mem_cons_self
  clear r he hb hn
  generalize (wa5.heap.size, wb5.heap.size) :: iv4 = iv5 at *
  obtain ⟨s5_0, s5_1, s5_2, s5_3, s5_4, s5_5, s5_6, s5_7, rfl⟩ := hx0.shape
  conv => whnf
  refine callE_S (callE_con (Φ := fun _ w' v w2 => RatC w2 (Nw (fun _ => False) w' w2) v ((2 : Int) : Rat)) (fun ρ w' r => rWhole_c 2 w' (by decide)) ?_)
  rintro ρ wa6 v6 wb6 r he hb hn
  replace hw := hw.tr hb
  replace hq := hq.past (iv' := (wa6.heap.size, wb6.heap.size) :: iv5) r (oldF w) he fun x hx => List.mem_cons_of_mem _ hx
  replace hr := hr.past (iv' := (wa6.heap.size, wb6.heap.size) :: iv5) r (oldF w) he fun x hx => List.mem_cons_of_mem _ hx
  replace hf := hf.past (iv' := (wa6.heap.size, wb6.heap.size) :: iv5) r (oldF w) he fun x hx => List.mem_cons_of_mem _ hx
  replace hx0 := hx0.past (iv' := (wa6.heap.size, wb6.heap.size) :: iv5) r (oldF w) he fun x hx => List.mem_cons_of_mem _ hx
  have hx1 := hn.got (S := fun _ => False) r.baseLe (iv := (wa6.heap.size, wb6.heap.size) :: iv5) List.mem_cons_self
  clear r he hb hn
  generalize (wa6.heap.size, wb6.heap.size) :: iv5 = iv6 at *
  obtain ⟨s6_0, s6_1, s6_2, s6_3, s6_4, s6_5, s6_6, s6_7, rfl⟩ := hx1.shape
  conv => whnf
  refine callE_S (callE_con (Φ := fun _ w' v w2 => RatC w2 (Nw (fun _ => False) w' w2) v ((2 : Int) : Rat)) (fun ρ w' r => rWhole_c 2 w' (by decide)) ?_)
  rintro ρ wa7 v7 wb7 r he hb hn
  replace hw := hw.tr hb
  replace hq := hq.past (iv' := (wa7.heap.size, wb7.heap.size) :: iv6) r (oldF w) he fun x hx => List.mem_cons_of_mem _ hx
  replace hr := hr.past (iv' := (wa7.heap.size, wb7.heap.size) :: iv6) r (oldF w) he fun x hx => List.mem_cons_of_mem _ hx
  replace hf := hf.past (iv' := (wa7.heap.size, wb7.heap.size) :: iv6) r (oldF w) he fun x hx => List.mem_cons_of_mem _ hx
  replace hx0 := hx0.past (iv' := (wa7.heap.size, wb7.heap.size) :: iv6) r (oldF w) he fun x hx => List.mem_cons_of_mem _ hx
  replace hx1 := hx1.past (iv' := (wa7.heap.size, wb7.heap.size) :: iv6) r (oldF w) he fun x hx => List.mem_cons_of_mem _ hx
  have hx2 := hn.got (S := fun _ => False) r.baseLe (iv := (wa7.heap.size, wb7.heap.size) :: iv6) List.mem_cons_self
  clear r he hb hn
  generalize (wa7.heap.size, wb7.heap.size) :: iv6 = iv7 at *
  obtain ⟨s7_0, s7_1, s7_2, s7_3, s7_4, s7_5, s7_6, s7_7, rfl⟩ := hx2.shape
  conv => whnf
  refine callE_S (callE_con (Φ := fun _ w' v w2 => RatC w2 (Nw (fun _ => False) w' w2) v ((4 : Int) : Rat)) (fun ρ w' r => rWhole_c 4 w' (by decide)) ?_)
  rintro ρ wa8 v8 wb8 r he hb hn
  replace hw := hw.tr hb
  replace hq := hq.past (iv' := (wa8.heap.size, wb8.heap.size) :: iv7) r (oldF w) he fun x hx => List.mem_cons_of_mem _ hx
  replace hr := hr.past (iv' := (wa8.heap.size, wb8.heap.size) :: iv7) r (oldF w) he fun x hx => List.mem_cons_of_mem _ hx
  replace hf := hf.past (iv' := (wa8.heap.size, wb8.heap.size) :: iv7) r (oldF w) he fun x hx => List.mem_cons_of_mem _ hx
  replace hx0 := hx0.past (iv' := (wa8.heap.size, wb8.heap.size) :: iv7) r (oldF w) he fun x hx => List.mem_cons_of_mem _ hx
  replace hx1 := hx1.past (iv' := (wa8.heap.size, wb8.heap.size) :: iv7) r (oldF w) he fun x hx => List.mem_cons_of_mem _ hx
  replace hx2 := hx2.past (iv' := (wa8.heap.size, wb8.heap.size) :: iv7) r (oldF w) he fun x hx => List.mem_cons_of_mem _ hx
  have hx3 := hn.got (S := fun _ => False) r.baseLe (iv := (wa8.heap.size, wb8.heap.size) :: iv7) List.mem_cons_self
  clear r he hb hn
  generalize (wa8.heap.size, wb8.heap.size) :: iv7 = iv8 at *
  obtain ⟨s8_0, s8_1, s8_2, s8_3, s8_4, s8_5, s8_6, s8_7, rfl⟩ := hx3.shape
  conv => whnf
  refine callE_S (callE_con (Φ := fun _ w' v w2 => RatC w2 (Nw (fun _ => False) w' w2) v ((3 : Int) : Rat)) (fun ρ w' r => rWhole_c 3 w' (by decide)) ?_)
  rintro ρ wa9 v9 wb9 r he hb hn
  replace hw := hw.tr hb
  replace hq := hq.past (iv' := (wa9.heap.size, wb9.heap.size) :: iv8) r (oldF w) he fun x hx => List.mem_cons_of_mem _ hx
  replace hr := hr.past (iv' := (wa9.heap.size, wb9.heap.size) :: iv8) r (oldF w) he fun x hx => List.mem_cons_of_mem _ hx
  replace hf := hf.past (iv' := (wa9.heap.size, wb9.heap.size) :: iv8) r (oldF w) he fun x hx => List.mem_cons_of_mem _ hx
  replace hx0 := hx0.past (iv' := (wa9.heap.size, wb9.heap.size) :: iv8) r (oldF w) he fun x hx => List.mem_cons_of_mem _ hx
  replace hx1 := hx1.past (iv' := (wa9.heap.size, wb9.heap.size) :: iv8) r (oldF w) he fun x hx => List.mem_cons_of_mem _ hx
  replace hx2 := hx2.past (iv' := (wa9.heap.size, wb9.heap.size) :: iv8) r (oldF w) he fun x hx => List.mem_cons_of_mem _ hx
  replace hx3 := hx3.past (iv' := (wa9.heap.size, wb9.heap.size) :: iv8) r (oldF w) he fun x hx => List.mem_cons_of_mem _ hx
  have hx4 := hn.got (S := fun _ => False) r.baseLe (iv := (wa9.heap.size, wb9.heap.size) :: iv8) List.mem_cons_self
  clear r he hb hn
  generalize (wa9.heap.size, wb9.heap.size) :: iv8 = iv9 at *
  obtain ⟨s9_0, s9_1, s9_2, s9_3, s9_4, s9_5, s9_6, s9_7, rfl⟩ := hx4.shape
  conv => whnf
  refine callE_S (callE_con (Φ := fun _ w' v w2 => RatC w2 (Nw (fun _ => False) w' w2) v ((6 : Int) : Rat)) (fun ρ w' r => rWhole_c 6 w' (by decide)) ?_)
  rintro ρ wa10 v10 wb10 r he hb hn
  replace hw := hw.tr hb
  replace hq := hq.past (iv' := (wa10.heap.size, wb10.heap.size) :: iv9) r (oldF w) he fun x hx => List.mem_cons_of_mem _ hx
  replace hr := hr.past (iv' := (wa10.heap.size, wb10.heap.size) :: iv9) r (oldF w) he fun x hx => List.mem_cons_of_mem _ hx
  replace hf := hf.past (iv' := (wa10.heap.size, wb10.heap.size) :: iv9) r (oldF w) he fun x hx => List.mem_cons_of_mem _ hx
  replace hx0 := hx0.past (iv' := (wa10.heap.size, wb10.heap.size) :: iv9) r (oldF w) he fun x hx => List.mem_cons_of_mem _ hx
  replace hx1 := hx1.past (iv' := (wa10.heap.size, wb10.heap.size) :: iv9) r (oldF w) he fun x hx => List.mem_cons_of_mem _ hx
  replace hx2 := hx2.past (iv' := (wa10.heap.size, wb10.heap.size) :: iv9) r (oldF w) he fun x hx => List.mem_cons_of_mem _ hx
  replace hx3 := hx3.past (iv' := (wa10.heap.size, wb10.heap.size) :: iv9) r (oldF w) he fun x hx => List.mem_cons_of_mem _ hx
  replace hx4 := hx4.past (iv' := (wa10.heap.size, wb10.heap.size) :: iv9) r (oldF w) he fun x hx => List.mem_cons_of_mem _ hx
  have hx5 := hn.got (S := fun _ => False) r.baseLe (iv := (wa10.heap.size, wb10.heap.size) :: iv9) List.mem_cons_self
  clear r he hb hn
  generalize (wa10.heap.size, wb10.heap.size) :: iv9 = iv10 at *
  obtain ⟨s10_0, s10_1, s10_2, s10_3, s10_4, s10_5, s10_6, s10_7, rfl⟩ := hx5.shape
  conv => whnf
  refine callE_S (callE_con (Φ := fun _ w' v w2 => ∃ vx vk, v = .tuple #[.agg #[.int .i64 0, vx, vk, .slice none 0 0], .int .i64 0] ∧ RatsC w2 (Nw (fun _ => False) w' w2) vx [3, 0] ∧ RatMC w2 (Nw (fun _ => False) w' w2) vk [[-2, 1]]) (fun ρ w' r => ?_) ?_)
  · have f0 := (hx0.rel r (oldF w)).four.weak (S' := fun g => g < w'.heap.size) fun g hg => Rel.old r (oldF w) g hg
    have f1 := (hx1.rel r (oldF w)).four.weak (S' := fun g => g < w'.heap.size) fun g hg => Rel.old r (oldF w) g hg
    have f2 := (hx2.rel r (oldF w)).four.weak (S' := fun g => g < w'.heap.size) fun g hg => Rel.old r (oldF w) g hg
    have f3 := (hx3.rel r (oldF w)).four.weak (S' := fun g => g < w'.heap.size) fun g hg => Rel.old r (oldF w) g hg
    have f4 := (hx4.rel r (oldF w)).four.weak (S' := fun g => g < w'.heap.size) fun g hg => Rel.old r (oldF w) g hg
    have f5 := (hx5.rel r (oldF w)).four.weak (S' := fun g => g < w'.heap.size) fun g hg => Rel.old r (oldF w) g hg
    have r0 := r.box2 (id := 3) rfl (by simp [Value.oneCell']) f0 f1 (Rel.lt r rfl)
    have r1 := r.box2 (id := 4) rfl (by simp [Value.oneCell']) f2 f3 (Rel.lt r rfl)
    have r2 := r.box2 (id := 6) rfl (by simp [Value.oneCell']) f4 f5 (Rel.lt r rfl)
    refine aw_solve (S := fun g => g < w'.heap.size) (fun g hg => hg) ?_ r2
    refine ⟨[.slice (some ⟨(ρ 3).g, 0, none⟩) 2 2, .slice (some ⟨(ρ 4).g, 0, none⟩) 2 2], (r.boxSeq (id := 5) (sz := 1) (n := 2) rfl rfl (by simp [maxLen, awM]) (fun u hu => by simp at hu; rcases hu with rfl | rfl <;> rfl)).weak (fun g hg => by rw [hg]; exact Rel.lt r rfl), rfl, fun i u x k1 k2 => ?_⟩
    match i with
    | 0 => simp [awM] at k1 k2; subst k1 k2; exact r0
    | 1 => simp [awM] at k1 k2; subst k1 k2; exact r1
    | i + 2 => simp [awM] at k1
  rintro ρ wa11 v11 wb11 r he hb ⟨vx, vk, rfl, k1, k2⟩
  replace hw := hw.tr hb
  replace hq := hq.past (iv' := (wa11.heap.size, wb11.heap.size) :: iv10) r (oldF w) he fun x hx => List.mem_cons_of_mem _ hx
  replace hr := hr.past (iv' := (wa11.heap.size, wb11.heap.size) :: iv10) r (oldF w) he fun x hx => List.mem_cons_of_mem _ hx
  replace hf := hf.past (iv' := (wa11.heap.size, wb11.heap.size) :: iv10) r (oldF w) he fun x hx => List.mem_cons_of_mem _ hx
  clear hx0
  clear hx1
  clear hx2
  clear hx3
  clear hx4
  clear hx5
  have hsx := RatsC.got (S := fun _ => False) k1 r.baseLe (iv := (wa11.heap.size, wb11.heap.size) :: iv10) List.mem_cons_self
  have hsk := RatMC.got (S := fun _ => False) k2 r.baseLe (iv := (wa11.heap.size, wb11.heap.size) :: iv10) List.mem_cons_self
  clear r he hb
  generalize (wa11.heap.size, wb11.heap.size) :: iv10 = iv11 at *
  clear k1 k2
  obtain ⟨sx_a, sx_c, rfl, -⟩ := ListR.shape hsx
  obtain ⟨sk_a, sk_c, rfl, -⟩ := SlicesR.shape hsk
  conv => whnf
  refine drawn_of_pi hτ hmix [.x 0, .x 1, .x 2, .x 3, .x 4, .x 5, .x 6, .x 7, .x 8, .x 9, .x 10, .x 11, .x 12, .x 13, .x 14, .x 15, .x 16, .x 17, .x 18, .x 19, .x 20, .x 21, .x 22, .x 23, .x 24, .x 25, .x 26] (by kernel_rfl) (by kernel_rfl) ?_
  conv => whnf
  refine callE_con (Φ := fun _ w' v w2 => IntC w2 (Nw (fun _ => False) w' w2) v (-4)) (fun ρ w' r => rOf_c _ w' (by decide) (by decide)) ?_
  rintro ρ wa12 v12 wb12 r he hb hn
  replace hw := hw.tr hb
  replace hq := hq.past (iv' := (wa12.heap.size, wb12.heap.size) :: iv11) r (oldF w) he fun x hx => List.mem_cons_of_mem _ hx
  replace hr := hr.past (iv' := (wa12.heap.size, wb12.heap.size) :: iv11) r (oldF w) he fun x hx => List.mem_cons_of_mem _ hx
  replace hf := hf.past (iv' := (wa12.heap.size, wb12.heap.size) :: iv11) r (oldF w) he fun x hx => List.mem_cons_of_mem _ hx
  replace hsx := RatsC.past (iv' := (wa12.heap.size, wb12.heap.size) :: iv11) hsx r (oldF w) he fun x hx => List.mem_cons_of_mem _ hx
  replace hsk := RatMC.past (iv' := (wa12.heap.size, wb12.heap.size) :: iv11) hsk r (oldF w) he fun x hx => List.mem_cons_of_mem _ hx
  have h4 := hn.got (S := fun _ => False) r.baseLe (iv := (wa12.heap.size, wb12.heap.size) :: iv11) List.mem_cons_self
  clear r he hb hn
  generalize (wa12.heap.size, wb12.heap.size) :: iv11 = iv12 at *
  obtain ⟨s12_0, s12_1, s12_2, s12_3, rfl⟩ := h4.shape
  conv => whnf
  refine callE_con (Φ := fun _ w' v w2 => v = .bool true) (fun ρ w' r => sameInt_c (Rel.old r (oldF w)) (hq.rel r (oldF w)) (h4.rel r (oldF w))) ?_
  rintro ρ wa13 v13 wb13 r he hb rfl
  replace hw := hw.tr hb
  clear hq
  replace hr := hr.past (iv' := (wa13.heap.size, wb13.heap.size) :: iv12) r (oldF w) he fun x hx => List.mem_cons_of_mem _ hx
  replace hf := hf.past (iv' := (wa13.heap.size, wb13.heap.size) :: iv12) r (oldF w) he fun x hx => List.mem_cons_of_mem _ hx
  replace hsx := RatsC.past (iv' := (wa13.heap.size, wb13.heap.size) :: iv12) hsx r (oldF w) he fun x hx => List.mem_cons_of_mem _ hx
  replace hsk := RatMC.past (iv' := (wa13.heap.size, wb13.heap.size) :: iv12) hsk r (oldF w) he fun x hx => List.mem_cons_of_mem _ hx
  clear h4
  clear r he hb
  generalize (wa13.heap.size, wb13.heap.size) :: iv12 = iv13 at *
  conv => whnf
  refine callE_con (Φ := fun _ w' v w2 => IntC w2 (Nw (fun _ => False) w' w2) v 1) (fun ρ w' r => rOf_c _ w' (by decide) (by decide)) ?_
  rintro ρ wa14 v14 wb14 r he hb hn
  replace hw := hw.tr hb
  replace hr := hr.past (iv' := (wa14.heap.size, wb14.heap.size) :: iv13) r (oldF w) he fun x hx => List.mem_cons_of_mem _ hx
  replace hf := hf.past (iv' := (wa14.heap.size, wb14.heap.size) :: iv13) r (oldF w) he fun x hx => List.mem_cons_of_mem _ hx
  replace hsx := RatsC.past (iv' := (wa14.heap.size, wb14.heap.size) :: iv13) hsx r (oldF w) he fun x hx => List.mem_cons_of_mem _ hx
  replace hsk := RatMC.past (iv' := (wa14.heap.size, wb14.heap.size) :: iv13) hsk r (oldF w) he fun x hx => List.mem_cons_of_mem _ hx
  have h1 := hn.got (S := fun _ => False) r.baseLe (iv := (wa14.heap.size, wb14.heap.size) :: iv13) List.mem_cons_self
  clear r he hb hn
  generalize (wa14.heap.size, wb14.heap.size) :: iv13 = iv14 at *
  obtain ⟨s14_0, s14_1, s14_2, s14_3, rfl⟩ := h1.shape
  conv => whnf
  refine callE_con (Φ := fun _ w' v w2 => v = .bool true) (fun ρ w' r => sameInt_c (Rel.old r (oldF w)) (hr.rel r (oldF w)) (h1.rel r (oldF w))) ?_
  rintro ρ wa15 v15 wb15 r he hb rfl
  replace hw := hw.tr hb
  clear hr
  replace hf := hf.past (iv' := (wa15.heap.size, wb15.heap.size) :: iv14) r (oldF w) he fun x hx => List.mem_cons_of_mem _ hx
  replace hsx := RatsC.past (iv' := (wa15.heap.size, wb15.heap.size) :: iv14) hsx r (oldF w) he fun x hx => List.mem_cons_of_mem _ hx
  replace hsk := RatMC.past (iv' := (wa15.heap.size, wb15.heap.size) :: iv14) hsk r (oldF w) he fun x hx => List.mem_cons_of_mem _ hx
  clear h1
  clear r he hb
  generalize (wa15.heap.size, wb15.heap.size) :: iv14 = iv15 at *
  conv => whnf
  refine callE_con (Φ := fun _ w' v w2 => v = .string ⟨#[49, 52, 49, 47, 49, 48, 48]⟩) (fun ρ w' r => aw_format (Rel.old r (oldF w)) (hf.rel r (oldF w))) ?_
  rintro ρ wa16 v16 wb16 r he hb rfl
  replace hw := hw.tr hb
  clear hf
  replace hsx := RatsC.past (iv' := (wa16.heap.size, wb16.heap.size) :: iv15) hsx r (oldF w) he fun x hx => List.mem_cons_of_mem _ hx
  replace hsk := RatMC.past (iv' := (wa16.heap.size, wb16.heap.size) :: iv15) hsk r (oldF w) he fun x hx => List.mem_cons_of_mem _ hx
  clear r he hb
  generalize (wa16.heap.size, wb16.heap.size) :: iv15 = iv16 at *
  conv => whnf
  refine drawn_of_pi hτ hmix [.x 0, .x 1, .x 2, .x 3, .x 4, .x 5, .x 6, .x 7, .x 8, .x 9, .x 10, .x 11, .x 12, .x 13, .x 14, .x 15, .x 16, .x 17, .x 18, .x 19, .x 20] (by kernel_rfl) (by kernel_rfl) ?_
  conv => whnf
  refine callE_con (Φ := fun _ w' v w2 => RatC w2 (Nw (fun _ => False) w' w2) v ((3 : Int) : Rat)) (fun ρ w' r => rWhole_c 3 w' (by decide)) ?_
  rintro ρ wa17 v17 wb17 r he hb hn
  replace hw := hw.tr hb
  replace hsx := RatsC.past (iv' := (wa17.heap.size, wb17.heap.size) :: iv16) hsx r (oldF w) he fun x hx => List.mem_cons_of_mem _ hx
  replace hsk := RatMC.past (iv' := (wa17.heap.size, wb17.heap.size) :: iv16) hsk r (oldF w) he fun x hx => List.mem_cons_of_mem _ hx
  have hx0 := hn.got (S := fun _ => False) r.baseLe (iv := (wa17.heap.size, wb17.heap.size) :: iv16) List.mem_cons_self
  clear r he hb hn
  generalize (wa17.heap.size, wb17.heap.size) :: iv16 = iv17 at *
  obtain ⟨s17_0, s17_1, s17_2, s17_3, s17_4, s17_5, s17_6, s17_7, rfl⟩ := hx0.shape
  conv => whnf
  refine callE_con (Φ := fun _ w' v w2 => RatC w2 (Nw (fun _ => False) w' w2) v ((0 : Int) : Rat)) (fun ρ w' r => rWhole_c 0 w' (by decide)) ?_
  rintro ρ wa18 v18 wb18 r he hb hn
  replace hw := hw.tr hb
  replace hsx := RatsC.past (iv' := (wa18.heap.size, wb18.heap.size) :: iv17) hsx r (oldF w) he fun x hx => List.mem_cons_of_mem _ hx
  replace hsk := RatMC.past (iv' := (wa18.heap.size, wb18.heap.size) :: iv17) hsk r (oldF w) he fun x hx => List.mem_cons_of_mem _ hx
  replace hx0 := hx0.past (iv' := (wa18.heap.size, wb18.heap.size) :: iv17) r (oldF w) he fun x hx => List.mem_cons_of_mem _ hx
  have hx1 := hn.got (S := fun _ => False) r.baseLe (iv := (wa18.heap.size, wb18.heap.size) :: iv17) List.mem_cons_self
  clear r he hb hn
  generalize (wa18.heap.size, wb18.heap.size) :: iv17 = iv18 at *
  obtain ⟨s18_0, s18_1, s18_2, s18_3, s18_4, s18_5, s18_6, s18_7, rfl⟩ := hx1.shape
  conv => whnf
  refine callE_con (Φ := fun _ w' v w2 => v = .bool true) (fun ρ w' r => ?_) ?_
  · have f0 := (hx0.rel r (oldF w)).fourC.weak (S' := fun g => g < w'.heap.size) fun g hg => Rel.old r (oldF w) g hg
    have f1 := (hx1.rel r (oldF w)).fourC.weak (S' := fun g => g < w'.heap.size) fun g hg => Rel.old r (oldF w) g hg
    have r0 := r.box2 (id := 8) rfl (by simp [Value.oneCell']) f0 f1 (Rel.lt r rfl)
    exact sameList_c (xs := [3, 0]) (ys := [3, 0]) (fun g hg => hg) (RatsC.weak (RatsC.rel hsx r (oldF w)) fun g hg => Rel.old r (oldF w) g hg) r0
  rintro ρ wa19 v19 wb19 r he hb rfl
  replace hw := hw.tr hb
  clear hsx
  replace hsk := RatMC.past (iv' := (wa19.heap.size, wb19.heap.size) :: iv18) hsk r (oldF w) he fun x hx => List.mem_cons_of_mem _ hx
  clear hx0
  clear hx1
  clear r he hb
  generalize (wa19.heap.size, wb19.heap.size) :: iv18 = iv19 at *
  conv => whnf
  refine callE_con (Φ := fun _ w' v w2 => RatC w2 (Nw (fun _ => False) w' w2) v ((-2 : Int) : Rat)) (fun ρ w' r => rWhole_c (-2) w' (by decide)) ?_
  rintro ρ wa20 v20 wb20 r he hb hn
  replace hw := hw.tr hb
  replace hsk := RatMC.past (iv' := (wa20.heap.size, wb20.heap.size) :: iv19) hsk r (oldF w) he fun x hx => List.mem_cons_of_mem _ hx
  have hx0 := hn.got (S := fun _ => False) r.baseLe (iv := (wa20.heap.size, wb20.heap.size) :: iv19) List.mem_cons_self
  clear r he hb hn
  generalize (wa20.heap.size, wb20.heap.size) :: iv19 = iv20 at *
  obtain ⟨s20_0, s20_1, s20_2, s20_3, s20_4, s20_5, s20_6, s20_7, rfl⟩ := hx0.shape
  conv => whnf
  refine callE_con (Φ := fun _ w' v w2 => RatC w2 (Nw (fun _ => False) w' w2) v ((1 : Int) : Rat)) (fun ρ w' r => rWhole_c 1 w' (by decide)) ?_
  rintro ρ wa21 v21 wb21 r he hb hn
  replace hw := hw.tr hb
  replace hsk := RatMC.past (iv' := (wa21.heap.size, wb21.heap.size) :: iv20) hsk r (oldF w) he fun x hx => List.mem_cons_of_mem _ hx
  replace hx0 := hx0.past (iv' := (wa21.heap.size, wb21.heap.size) :: iv20) r (oldF w) he fun x hx => List.mem_cons_of_mem _ hx
  have hx1 := hn.got (S := fun _ => False) r.baseLe (iv := (wa21.heap.size, wb21.heap.size) :: iv20) List.mem_cons_self
  clear r he hb hn
  generalize (wa21.heap.size, wb21.heap.size) :: iv20 = iv21 at *
  obtain ⟨s21_0, s21_1, s21_2, s21_3, s21_4, s21_5, s21_6, s21_7, rfl⟩ := hx1.shape
  conv => whnf
  refine callE_con (Φ := fun _ w' v w2 => v = .bool true) (fun ρ w' r => ?_) ?_
  · have f0 := (hx0.rel r (oldF w)).fourC.weak (S' := fun g => g < w'.heap.size) fun g hg => Rel.old r (oldF w) g hg
    have f1 := (hx1.rel r (oldF w)).fourC.weak (S' := fun g => g < w'.heap.size) fun g hg => Rel.old r (oldF w) g hg
    have r0 := r.box2 (id := 9) rfl (by simp [Value.oneCell']) f0 f1 (Rel.lt r rfl)
    refine sameLists_c (xs := [[-2, 1]]) (ys := [[-2, 1]]) (fun g hg => hg) (RatMC.weak (RatMC.rel hsk r (oldF w)) fun g hg => Rel.old r (oldF w) g hg) ?_
    refine ⟨[.slice (some ⟨(ρ 9).g, 0, none⟩) 2 2], (r.boxSeq (id := 10) (sz := 1) (n := 1) rfl rfl (by simp [maxLen]) (fun u hu => by simp at hu; subst hu; rfl)).weak (fun g hg => by rw [hg]; exact Rel.lt r rfl), rfl, fun i u x k1 k2 => ?_⟩
    match i with
    | 0 => simp at k1 k2; subst k1 k2; exact r0
    | i + 1 => simp at k1
  rintro ρ wa22 v22 wb22 r he hb rfl
  replace hw := hw.tr hb
  clear hsk
  clear hx0
  clear hx1
  clear r he hb
  generalize (wa22.heap.size, wb22.heap.size) :: iv21 = iv22 at *
  conv => whnf
  intro ρe we re
  exact ⟨_, rfl, hw.tr re.bel, rfl⟩
end Go.Ex

/- ExactRing of the laws of chapter 1. Printed by program. No condition. -/
namespace Go.Ex
open Go Go.Sx Go.Proofs

theorem ln_emod {x y : Int} (hy : y ≠ 0) : ln (x % y).natAbs ≤ ln y.natAbs := by
  have h1 := Int.emod_nonneg x hy
  have h2 := Int.emod_lt x hy
  exact ln_mono (by omega)
theorem ln_ediv (x y : Int) : ln (x / y).natAbs ≤ ln x.natAbs := ln_mono (Int.natAbs_ediv_le_natAbs x y)
theorem ln_limbs {ls : List Nat} {k : Nat} (h : Lm ls) (hl : ls.length ≤ k) : ln (val ls) ≤ k := ln_le.2 (Nat.lt_of_lt_of_le (val_lt h) (wt_le hl))
theorem sign_range (z : Int) : -1 ≤ z.sign ∧ z.sign ≤ 1 := by
  rcases Int.lt_trichotomy z 0 with h | h | h
  · rw [Int.sign_eq_neg_one_of_neg h]; decide
  · rw [h]; decide
  · rw [Int.sign_eq_one_of_pos h]; decide
theorem divZero_c {S : Nat → Prop} {w : World} {v u : Value} {x y : Int} (hS : Old S w) (hx : IntR w S v x) (hy : IntR w S u y) (hlx : ln x.natAbs ≤ 10000000000) (hy0 : y = 0) :
    Con PG N.exact_Divide #[v, u] w (Ret w fun v' _ => v' = .tuple #[.agg #[.bool false, .slice none 0 0], .agg #[.bool false, .slice none 0 0], .int .i64 9]) :=
  (pubDivide_c hS hx hy hlx (by subst hy0; decide)).mono fun _ w2 ⟨v2, e1, e2, e3⟩ => ⟨v2, e1, e2, e3.elim (fun h => h.2) fun h => absurd hy0 h.1⟩
theorem divNon_c {S : Nat → Prop} {w : World} {v u : Value} {x y : Int} (hS : Old S w) (hx : IntR w S v x) (hy : IntR w S u y) (hlx : ln x.natAbs ≤ 10000000000) (hly : ln y.natAbs ≤ 10000000000) (hy0 : y ≠ 0) :
    Con PG N.exact_Divide #[v, u] w (Ret w fun v' w2 => ∃ q r, v' = .tuple #[q, r, .int .i64 0] ∧ IntC w2 (Nw (fun _ => False) w w2) q (x / y) ∧ IntC w2 (Nw (fun _ => False) w w2) r (x % y)) :=
  (pubDivide_c hS hx hy hlx hly).mono fun _ w2 ⟨v2, e1, e2, e3⟩ => ⟨v2, e1, e2, e3.elim (fun h => absurd h.1 hy0) fun h => h.2⟩
theorem Cv.false {S : Nat → Prop} {B : Nat} {iv : Iv} {g : Nat} (h : Cv (fun _ => False) B iv g) : Cv S B iv g := h.elim (fun h => h.elim) .inr
theorem exactRing_c {S : Nat → Prop} {w : World} {v u t : Value} {x y z : Int} (hS : Old S w) (hx : IntR w S v x) (hy : IntR w S u y) (hz : IntR w S t z) :
    Con PG N.law01_ExactRing #[v, u, t] w (Ret w fun v' _ => v' = .bool true) := by
  have hw : Bel w.heap.size w w := Bel.refl
  obtain ⟨bx, ax, lx, cx, rfl, hLx, hzx⟩ := hx.limbs
  obtain ⟨b2, ay, ly, cy, rfl, hLy, hzy⟩ := hy.limbs
  obtain ⟨bz, az, lz, cz, rfl, hLz, hzz⟩ := hz.limbs
  refine in_law01_ExactRing (by simp) ?_
  replace hx := hx.weak (S' := Cv S w.heap.size []) fun _ h => .inl h
  replace hy := hy.weak (S' := Cv S w.heap.size []) fun _ h => .inl h
  replace hz := hz.weak (S' := Cv S w.heap.size []) fun _ h => .inl h
  conv => whnf
  refine callE_S (callE_con (Φ := fun _ w' v w2 => ∃ d, v = .bool d ∧ (d = true → lx.length ≤ 5 ∧ ly.length ≤ 5 ∧ lz.length ≤ 5)) (fun ρ w' r => ?_) ?_)
  · have hb := r.boxSeq (id := 3) (sz := 2) (n := 3) rfl rfl (by decide) (by intro u hu; simp at hu; rcases hu with rfl | rfl | rfl | rfl | rfl | rfl <;> rfl)
    refine (shortL_c (S := fun g => g < w'.heap.size) (ks := [(bx, ax, lx.length, cx), (b2, ay, ly.length, cy), (bz, az, lz.length, cz)]) (fun g hg => hg) (hb.weak fun g hg => by rw [hg]; exact Rel.lt r rfl)).mono fun _ w2 ⟨v2, e1, e2, e3⟩ => ⟨v2, e1, e2, _, e3, fun h => ?_⟩
    have h := of_decide_eq_true h
    exact ⟨h (bx, ax, lx.length, cx) (by simp), h (b2, ay, ly.length, cy) (by simp), h (bz, az, lz.length, cz) (by simp)⟩
  rintro ρ wa1 v1 wb1 r he hb ⟨d, rfl, hd⟩
  replace hw := hw.tr hb
  replace hx := hx.past (iv' := (wa1.heap.size, wb1.heap.size) :: []) r hS he fun x hx => List.mem_cons_of_mem _ hx
  replace hy := hy.past (iv' := (wa1.heap.size, wb1.heap.size) :: []) r hS he fun x hx => List.mem_cons_of_mem _ hx
  replace hz := hz.past (iv' := (wa1.heap.size, wb1.heap.size) :: []) r hS he fun x hx => List.mem_cons_of_mem _ hx
  clear r he hb
  generalize (wa1.heap.size, wb1.heap.size) :: [] = iv1 at *
  conv => whnf
  cases d with
  | false =>
    conv => whnf
    refine callE_S (callE_con (Φ := fun _ w' v w2 => v = .bool true) (fun ρ w' r => awake_c w') ?_)
    rintro ρ wa2 v2 wb2 r he hb rfl
    replace hw := hw.tr hb
    replace hx := hx.past (iv' := (wa2.heap.size, wb2.heap.size) :: iv1) r hS he fun x hx => List.mem_cons_of_mem _ hx
    replace hy := hy.past (iv' := (wa2.heap.size, wb2.heap.size) :: iv1) r hS he fun x hx => List.mem_cons_of_mem _ hx
    replace hz := hz.past (iv' := (wa2.heap.size, wb2.heap.size) :: iv1) r hS he fun x hx => List.mem_cons_of_mem _ hx
    clear r he hb
    generalize (wa2.heap.size, wb2.heap.size) :: iv1 = iv2 at *
    conv => whnf
    intro ρe we re
    exact ⟨_, rfl, hw.tr re.bel, rfl⟩
  | true =>
    obtain ⟨l1, l2, l3⟩ := hd rfl
    clear hd
    have hlx : ln x.natAbs ≤ 5 := by rw [← hzx, sg_abs]; exact ln_limbs hLx.lm l1
    have hly : ln y.natAbs ≤ 5 := by rw [← hzy, sg_abs]; exact ln_limbs hLy.lm l2
    have hlz : ln z.natAbs ≤ 5 := by rw [← hzz, sg_abs]; exact ln_limbs hLz.lm l3
    clear hLx hLy hLz hzx hzy hzz l1 l2 l3
    have b1 := ln_add_int y z
    have b2' := ln_mul_abs x (y + z)
    have b3 := ln_mul_abs x y
    have b4 := ln_mul_abs x z
    have b5 := ln_add_int (x * y) (x * z)
    have b6 := ln_mul_abs (x * y) z
    have b7 := ln_mul_abs y z
    have b8 := ln_mul_abs x (y * z)
    have b9 := ln_add_int x y
    have b10 := ln_add_int y x
    have b11 := ln_sub_abs x y
    have b12 := ln_add_int (x - y) y
    have b13 := ln_add_int x z
    have b14 := sign_range (x - y)
    conv => whnf
    refine drawn_of_pi hτ hmix [.x 0, .x 1, .x 2, .x 5, .x 6, .x 8, .x 9, .x 3, .x 4, .x 7, .x 10, .x 11, .x 12, .x 13, .x 14, .x 15, .x 16, .x 18, .x 20, .x 21, .x 22, .x 17, .x 19, .x 23, .x 24, .x 25, .x 26, .x 27, .x 28, .x 29, .x 30, .x 32, .x 33, .x 31, .x 34, .x 35, .x 36, .x 37, .x 38, .x 39, .x 40, .x 42, .x 44, .x 41, .x 43, .x 45, .x 46, .x 47] (by kernel_rfl) (by kernel_rfl) ?_
    conv => whnf
    refine callE_con (Φ := fun _ w' v w2 => IntC w2 (Nw (fun _ => False) w' w2) v (y + z)) (fun ρ w' r => pubSum_c (Rel.old r hS) (hy.rel r hS) (hz.rel r hS) (by omega) (by omega)) ?_
    rintro ρ wa2 v2 wb2 r he hb hn
    replace hw := hw.tr hb
    replace hx := hx.past (iv' := (wa2.heap.size, wb2.heap.size) :: iv1) r hS he fun x hx => List.mem_cons_of_mem _ hx
    replace hy := hy.past (iv' := (wa2.heap.size, wb2.heap.size) :: iv1) r hS he fun x hx => List.mem_cons_of_mem _ hx
    replace hz := hz.past (iv' := (wa2.heap.size, wb2.heap.size) :: iv1) r hS he fun x hx => List.mem_cons_of_mem _ hx
    have h3 := hn.got (S := fun _ => False) r.baseLe (iv := (wa2.heap.size, wb2.heap.size) :: iv1) List.mem_cons_self
    clear r he hb hn
    generalize (wa2.heap.size, wb2.heap.size) :: iv1 = iv2 at *
    obtain ⟨s2_0, s2_1, s2_2, s2_3, rfl⟩ := h3.shape
    conv => whnf
    refine callE_con (Φ := fun _ w' v w2 => IntC w2 (Nw (fun _ => False) w' w2) v (x * (y + z))) (fun ρ w' r => pubProd_c (Rel.old r hS) (hx.rel r hS) ((h3.rel r (oldF w)).r.weak fun g hg => Cv.false hg) (by omega) (by omega)) ?_
    rintro ρ wa3 v3 wb3 r he hb hn
    replace hw := hw.tr hb
    replace hx := hx.past (iv' := (wa3.heap.size, wb3.heap.size) :: iv2) r hS he fun x hx => List.mem_cons_of_mem _ hx
    replace hy := hy.past (iv' := (wa3.heap.size, wb3.heap.size) :: iv2) r hS he fun x hx => List.mem_cons_of_mem _ hx
    replace hz := hz.past (iv' := (wa3.heap.size, wb3.heap.size) :: iv2) r hS he fun x hx => List.mem_cons_of_mem _ hx
    clear h3
    have h4 := hn.got (S := fun _ => False) r.baseLe (iv := (wa3.heap.size, wb3.heap.size) :: iv2) List.mem_cons_self
    clear r he hb hn
    generalize (wa3.heap.size, wb3.heap.size) :: iv2 = iv3 at *
    obtain ⟨s3_0, s3_1, s3_2, s3_3, rfl⟩ := h4.shape
    conv => whnf
    refine callE_con (Φ := fun _ w' v w2 => IntC w2 (Nw (fun _ => False) w' w2) v (x * y)) (fun ρ w' r => pubProd_c (Rel.old r hS) (hx.rel r hS) (hy.rel r hS) (by omega) (by omega)) ?_
    rintro ρ wa4 v4 wb4 r he hb hn
    replace hw := hw.tr hb
    replace hx := hx.past (iv' := (wa4.heap.size, wb4.heap.size) :: iv3) r hS he fun x hx => List.mem_cons_of_mem _ hx
    replace hy := hy.past (iv' := (wa4.heap.size, wb4.heap.size) :: iv3) r hS he fun x hx => List.mem_cons_of_mem _ hx
    replace hz := hz.past (iv' := (wa4.heap.size, wb4.heap.size) :: iv3) r hS he fun x hx => List.mem_cons_of_mem _ hx
    replace h4 := h4.past (iv' := (wa4.heap.size, wb4.heap.size) :: iv3) r (oldF w) he fun x hx => List.mem_cons_of_mem _ hx
    have h7 := hn.got (S := fun _ => False) r.baseLe (iv := (wa4.heap.size, wb4.heap.size) :: iv3) List.mem_cons_self
    clear r he hb hn
    generalize (wa4.heap.size, wb4.heap.size) :: iv3 = iv4 at *
    obtain ⟨s4_0, s4_1, s4_2, s4_3, rfl⟩ := h7.shape
    conv => whnf
    refine callE_con (Φ := fun _ w' v w2 => IntC w2 (Nw (fun _ => False) w' w2) v (x * z)) (fun ρ w' r => pubProd_c (Rel.old r hS) (hx.rel r hS) (hz.rel r hS) (by omega) (by omega)) ?_
    rintro ρ wa5 v5 wb5 r he hb hn
    replace hw := hw.tr hb
    replace hx := hx.past (iv' := (wa5.heap.size, wb5.heap.size) :: iv4) r hS he fun x hx => List.mem_cons_of_mem _ hx
    replace hy := hy.past (iv' := (wa5.heap.size, wb5.heap.size) :: iv4) r hS he fun x hx => List.mem_cons_of_mem _ hx
    replace hz := hz.past (iv' := (wa5.heap.size, wb5.heap.size) :: iv4) r hS he fun x hx => List.mem_cons_of_mem _ hx
    replace h4 := h4.past (iv' := (wa5.heap.size, wb5.heap.size) :: iv4) r (oldF w) he fun x hx => List.mem_cons_of_mem _ hx
    replace h7 := h7.past (iv' := (wa5.heap.size, wb5.heap.size) :: iv4) r (oldF w) he fun x hx => List.mem_cons_of_mem _ hx
    have h10 := hn.got (S := fun _ => False) r.baseLe (iv := (wa5.heap.size, wb5.heap.size) :: iv4) List.mem_cons_self
    clear r he hb hn
    generalize (wa5.heap.size, wb5.heap.size) :: iv4 = iv5 at *
    obtain ⟨s5_0, s5_1, s5_2, s5_3, rfl⟩ := h10.shape
    conv => whnf
    refine callE_con (Φ := fun _ w' v w2 => IntC w2 (Nw (fun _ => False) w' w2) v (x * y + x * z)) (fun ρ w' r => pubSum_c (Rel.old r (oldF w)) (h7.rel r (oldF w)).r (h10.rel r (oldF w)).r (by omega) (by omega)) ?_
    rintro ρ wa6 v6 wb6 r he hb hn
    replace hw := hw.tr hb
    replace hx := hx.past (iv' := (wa6.heap.size, wb6.heap.size) :: iv5) r hS he fun x hx => List.mem_cons_of_mem _ hx
    replace hy := hy.past (iv' := (wa6.heap.size, wb6.heap.size) :: iv5) r hS he fun x hx => List.mem_cons_of_mem _ hx
    replace hz := hz.past (iv' := (wa6.heap.size, wb6.heap.size) :: iv5) r hS he fun x hx => List.mem_cons_of_mem _ hx
    replace h4 := h4.past (iv' := (wa6.heap.size, wb6.heap.size) :: iv5) r (oldF w) he fun x hx => List.mem_cons_of_mem _ hx
    clear h7
    clear h10
    have h11 := hn.got (S := fun _ => False) r.baseLe (iv := (wa6.heap.size, wb6.heap.size) :: iv5) List.mem_cons_self
    clear r he hb hn
    generalize (wa6.heap.size, wb6.heap.size) :: iv5 = iv6 at *
    obtain ⟨s6_0, s6_1, s6_2, s6_3, rfl⟩ := h11.shape
    conv => whnf
    refine callE_con (Φ := fun _ w' v w2 => v = .bool true) (fun ρ w' r => ?_) ?_
    · have h := sameInt_c (Rel.old r (oldF w)) (h4.rel r (oldF w)) (h11.rel r (oldF w))
      rw [decide_eq_true (Int.mul_add x y z)] at h
      exact h
    rintro ρ wa7 v7 wb7 r he hb rfl
    replace hw := hw.tr hb
    replace hx := hx.past (iv' := (wa7.heap.size, wb7.heap.size) :: iv6) r hS he fun x hx => List.mem_cons_of_mem _ hx
    replace hy := hy.past (iv' := (wa7.heap.size, wb7.heap.size) :: iv6) r hS he fun x hx => List.mem_cons_of_mem _ hx
    replace hz := hz.past (iv' := (wa7.heap.size, wb7.heap.size) :: iv6) r hS he fun x hx => List.mem_cons_of_mem _ hx
    clear h4
    clear h11
    clear r he hb
    generalize (wa7.heap.size, wb7.heap.size) :: iv6 = iv7 at *
    conv => whnf
    refine callE_con (Φ := fun _ w' v w2 => IntC w2 (Nw (fun _ => False) w' w2) v (x * y)) (fun ρ w' r => pubProd_c (Rel.old r hS) (hx.rel r hS) (hy.rel r hS) (by omega) (by omega)) ?_
    rintro ρ wa8 v8 wb8 r he hb hn
    replace hw := hw.tr hb
    replace hx := hx.past (iv' := (wa8.heap.size, wb8.heap.size) :: iv7) r hS he fun x hx => List.mem_cons_of_mem _ hx
    replace hy := hy.past (iv' := (wa8.heap.size, wb8.heap.size) :: iv7) r hS he fun x hx => List.mem_cons_of_mem _ hx
    replace hz := hz.past (iv' := (wa8.heap.size, wb8.heap.size) :: iv7) r hS he fun x hx => List.mem_cons_of_mem _ hx
    have h17 := hn.got (S := fun _ => False) r.baseLe (iv := (wa8.heap.size, wb8.heap.size) :: iv7) List.mem_cons_self
    clear r he hb hn
    generalize (wa8.heap.size, wb8.heap.size) :: iv7 = iv8 at *
    obtain ⟨s8_0, s8_1, s8_2, s8_3, rfl⟩ := h17.shape
    conv => whnf
    refine callE_con (Φ := fun _ w' v w2 => IntC w2 (Nw (fun _ => False) w' w2) v (x * y * z)) (fun ρ w' r => pubProd_c (Rel.old r hS) ((h17.rel r (oldF w)).r.weak fun g hg => Cv.false hg) (hz.rel r hS) (by omega) (by omega)) ?_
    rintro ρ wa9 v9 wb9 r he hb hn
    replace hw := hw.tr hb
    replace hx := hx.past (iv' := (wa9.heap.size, wb9.heap.size) :: iv8) r hS he fun x hx => List.mem_cons_of_mem _ hx
    replace hy := hy.past (iv' := (wa9.heap.size, wb9.heap.size) :: iv8) r hS he fun x hx => List.mem_cons_of_mem _ hx
    replace hz := hz.past (iv' := (wa9.heap.size, wb9.heap.size) :: iv8) r hS he fun x hx => List.mem_cons_of_mem _ hx
    clear h17
    have h19 := hn.got (S := fun _ => False) r.baseLe (iv := (wa9.heap.size, wb9.heap.size) :: iv8) List.mem_cons_self
    clear r he hb hn
    generalize (wa9.heap.size, wb9.heap.size) :: iv8 = iv9 at *
    obtain ⟨s9_0, s9_1, s9_2, s9_3, rfl⟩ := h19.shape
    conv => whnf
    refine callE_con (Φ := fun _ w' v w2 => IntC w2 (Nw (fun _ => False) w' w2) v (y * z)) (fun ρ w' r => pubProd_c (Rel.old r hS) (hy.rel r hS) (hz.rel r hS) (by omega) (by omega)) ?_
    rintro ρ wa10 v10 wb10 r he hb hn
    replace hw := hw.tr hb
    replace hx := hx.past (iv' := (wa10.heap.size, wb10.heap.size) :: iv9) r hS he fun x hx => List.mem_cons_of_mem _ hx
    replace hy := hy.past (iv' := (wa10.heap.size, wb10.heap.size) :: iv9) r hS he fun x hx => List.mem_cons_of_mem _ hx
    replace hz := hz.past (iv' := (wa10.heap.size, wb10.heap.size) :: iv9) r hS he fun x hx => List.mem_cons_of_mem _ hx
    replace h19 := h19.past (iv' := (wa10.heap.size, wb10.heap.size) :: iv9) r (oldF w) he fun x hx => List.mem_cons_of_mem _ hx
    have h23 := hn.got (S := fun _ => False) r.baseLe (iv := (wa10.heap.size, wb10.heap.size) :: iv9) List.mem_cons_self
    clear r he hb hn
    generalize (wa10.heap.size, wb10.heap.size) :: iv9 = iv10 at *
    obtain ⟨s10_0, s10_1, s10_2, s10_3, rfl⟩ := h23.shape
    conv => whnf
    refine callE_con (Φ := fun _ w' v w2 => IntC w2 (Nw (fun _ => False) w' w2) v (x * (y * z))) (fun ρ w' r => pubProd_c (Rel.old r hS) (hx.rel r hS) ((h23.rel r (oldF w)).r.weak fun g hg => Cv.false hg) (by omega) (by omega)) ?_
    rintro ρ wa11 v11 wb11 r he hb hn
    replace hw := hw.tr hb
    replace hx := hx.past (iv' := (wa11.heap.size, wb11.heap.size) :: iv10) r hS he fun x hx => List.mem_cons_of_mem _ hx
    replace hy := hy.past (iv' := (wa11.heap.size, wb11.heap.size) :: iv10) r hS he fun x hx => List.mem_cons_of_mem _ hx
    replace hz := hz.past (iv' := (wa11.heap.size, wb11.heap.size) :: iv10) r hS he fun x hx => List.mem_cons_of_mem _ hx
    replace h19 := h19.past (iv' := (wa11.heap.size, wb11.heap.size) :: iv10) r (oldF w) he fun x hx => List.mem_cons_of_mem _ hx
    clear h23
    have h24 := hn.got (S := fun _ => False) r.baseLe (iv := (wa11.heap.size, wb11.heap.size) :: iv10) List.mem_cons_self
    clear r he hb hn
    generalize (wa11.heap.size, wb11.heap.size) :: iv10 = iv11 at *
    obtain ⟨s11_0, s11_1, s11_2, s11_3, rfl⟩ := h24.shape
    conv => whnf
    refine callE_con (Φ := fun _ w' v w2 => v = .bool true) (fun ρ w' r => ?_) ?_
    · have h := sameInt_c (Rel.old r (oldF w)) (h19.rel r (oldF w)) (h24.rel r (oldF w))
      rw [decide_eq_true (Int.mul_assoc x y z)] at h
      exact h
    rintro ρ wa12 v12 wb12 r he hb rfl
    replace hw := hw.tr hb
    replace hx := hx.past (iv' := (wa12.heap.size, wb12.heap.size) :: iv11) r hS he fun x hx => List.mem_cons_of_mem _ hx
    replace hy := hy.past (iv' := (wa12.heap.size, wb12.heap.size) :: iv11) r hS he fun x hx => List.mem_cons_of_mem _ hx
    replace hz := hz.past (iv' := (wa12.heap.size, wb12.heap.size) :: iv11) r hS he fun x hx => List.mem_cons_of_mem _ hx
    clear h19
    clear h24
    clear r he hb
    generalize (wa12.heap.size, wb12.heap.size) :: iv11 = iv12 at *
    conv => whnf
    refine callE_con (Φ := fun _ w' v w2 => IntC w2 (Nw (fun _ => False) w' w2) v (x + y)) (fun ρ w' r => pubSum_c (Rel.old r hS) (hx.rel r hS) (hy.rel r hS) (by omega) (by omega)) ?_
    rintro ρ wa13 v13 wb13 r he hb hn
    replace hw := hw.tr hb
    replace hx := hx.past (iv' := (wa13.heap.size, wb13.heap.size) :: iv12) r hS he fun x hx => List.mem_cons_of_mem _ hx
    replace hy := hy.past (iv' := (wa13.heap.size, wb13.heap.size) :: iv12) r hS he fun x hx => List.mem_cons_of_mem _ hx
    replace hz := hz.past (iv' := (wa13.heap.size, wb13.heap.size) :: iv12) r hS he fun x hx => List.mem_cons_of_mem _ hx
    have h31 := hn.got (S := fun _ => False) r.baseLe (iv := (wa13.heap.size, wb13.heap.size) :: iv12) List.mem_cons_self
    clear r he hb hn
    generalize (wa13.heap.size, wb13.heap.size) :: iv12 = iv13 at *
    obtain ⟨s13_0, s13_1, s13_2, s13_3, rfl⟩ := h31.shape
    conv => whnf
    refine callE_con (Φ := fun _ w' v w2 => IntC w2 (Nw (fun _ => False) w' w2) v (y + x)) (fun ρ w' r => pubSum_c (Rel.old r hS) (hy.rel r hS) (hx.rel r hS) (by omega) (by omega)) ?_
    rintro ρ wa14 v14 wb14 r he hb hn
    replace hw := hw.tr hb
    replace hx := hx.past (iv' := (wa14.heap.size, wb14.heap.size) :: iv13) r hS he fun x hx => List.mem_cons_of_mem _ hx
    replace hy := hy.past (iv' := (wa14.heap.size, wb14.heap.size) :: iv13) r hS he fun x hx => List.mem_cons_of_mem _ hx
    replace hz := hz.past (iv' := (wa14.heap.size, wb14.heap.size) :: iv13) r hS he fun x hx => List.mem_cons_of_mem _ hx
    replace h31 := h31.past (iv' := (wa14.heap.size, wb14.heap.size) :: iv13) r (oldF w) he fun x hx => List.mem_cons_of_mem _ hx
    have h34 := hn.got (S := fun _ => False) r.baseLe (iv := (wa14.heap.size, wb14.heap.size) :: iv13) List.mem_cons_self
    clear r he hb hn
    generalize (wa14.heap.size, wb14.heap.size) :: iv13 = iv14 at *
    obtain ⟨s14_0, s14_1, s14_2, s14_3, rfl⟩ := h34.shape
    conv => whnf
    refine callE_con (Φ := fun _ w' v w2 => v = .bool true) (fun ρ w' r => ?_) ?_
    · have h := sameInt_c (Rel.old r (oldF w)) (h31.rel r (oldF w)) (h34.rel r (oldF w))
      rw [decide_eq_true (Int.add_comm x y)] at h
      exact h
    rintro ρ wa15 v15 wb15 r he hb rfl
    replace hw := hw.tr hb
    replace hx := hx.past (iv' := (wa15.heap.size, wb15.heap.size) :: iv14) r hS he fun x hx => List.mem_cons_of_mem _ hx
    replace hy := hy.past (iv' := (wa15.heap.size, wb15.heap.size) :: iv14) r hS he fun x hx => List.mem_cons_of_mem _ hx
    replace hz := hz.past (iv' := (wa15.heap.size, wb15.heap.size) :: iv14) r hS he fun x hx => List.mem_cons_of_mem _ hx
    clear h31
    clear h34
    clear r he hb
    generalize (wa15.heap.size, wb15.heap.size) :: iv14 = iv15 at *
    conv => whnf
    refine callE_con (Φ := fun _ w' v w2 => IntC w2 (Nw (fun _ => False) w' w2) v (x - y)) (fun ρ w' r => pubDiff_c (Rel.old r hS) (hx.rel r hS) (hy.rel r hS) (by omega) (by omega)) ?_
    rintro ρ wa16 v16 wb16 r he hb hn
    replace hw := hw.tr hb
    replace hx := hx.past (iv' := (wa16.heap.size, wb16.heap.size) :: iv15) r hS he fun x hx => List.mem_cons_of_mem _ hx
    replace hy := hy.past (iv' := (wa16.heap.size, wb16.heap.size) :: iv15) r hS he fun x hx => List.mem_cons_of_mem _ hx
    replace hz := hz.past (iv' := (wa16.heap.size, wb16.heap.size) :: iv15) r hS he fun x hx => List.mem_cons_of_mem _ hx
    have h41 := hn.got (S := fun _ => False) r.baseLe (iv := (wa16.heap.size, wb16.heap.size) :: iv15) List.mem_cons_self
    clear r he hb hn
    generalize (wa16.heap.size, wb16.heap.size) :: iv15 = iv16 at *
    obtain ⟨s16_0, s16_1, s16_2, s16_3, rfl⟩ := h41.shape
    conv => whnf
    refine callE_con (Φ := fun _ w' v w2 => IntC w2 (Nw (fun _ => False) w' w2) v (x - y + y)) (fun ρ w' r => pubSum_c (Rel.old r hS) ((h41.rel r (oldF w)).r.weak fun g hg => Cv.false hg) (hy.rel r hS) (by omega) (by omega)) ?_
    rintro ρ wa17 v17 wb17 r he hb hn
    replace hw := hw.tr hb
    replace hx := hx.past (iv' := (wa17.heap.size, wb17.heap.size) :: iv16) r hS he fun x hx => List.mem_cons_of_mem _ hx
    replace hy := hy.past (iv' := (wa17.heap.size, wb17.heap.size) :: iv16) r hS he fun x hx => List.mem_cons_of_mem _ hx
    replace hz := hz.past (iv' := (wa17.heap.size, wb17.heap.size) :: iv16) r hS he fun x hx => List.mem_cons_of_mem _ hx
    clear h41
    have h43 := hn.got (S := fun _ => False) r.baseLe (iv := (wa17.heap.size, wb17.heap.size) :: iv16) List.mem_cons_self
    clear r he hb hn
    generalize (wa17.heap.size, wb17.heap.size) :: iv16 = iv17 at *
    obtain ⟨s17_0, s17_1, s17_2, s17_3, rfl⟩ := h43.shape
    conv => whnf
    refine callE_con (Φ := fun _ w' v w2 => v = .int .i64 0) (fun ρ w' r => ?_) ?_
    · have h := pubCmpInt_c (Rel.old r hS) ((h43.rel r (oldF w)).r.weak fun g hg => Cv.false hg) (hx.rel r hS) (by omega) (by omega)
      rw [show (x - y + y - x).sign = 0 from by rw [show x - y + y - x = 0 by omega]; rfl] at h
      exact h
    rintro ρ wa18 v18 wb18 r he hb rfl
    replace hw := hw.tr hb
    replace hx := hx.past (iv' := (wa18.heap.size, wb18.heap.size) :: iv17) r hS he fun x hx => List.mem_cons_of_mem _ hx
    replace hy := hy.past (iv' := (wa18.heap.size, wb18.heap.size) :: iv17) r hS he fun x hx => List.mem_cons_of_mem _ hx
    replace hz := hz.past (iv' := (wa18.heap.size, wb18.heap.size) :: iv17) r hS he fun x hx => List.mem_cons_of_mem _ hx
    clear h43
    clear r he hb
    generalize (wa18.heap.size, wb18.heap.size) :: iv17 = iv18 at *
    conv => whnf
    refine drawn_of_pi hτ hmix [.x 0, .x 1, .x 3, .x 4, .x 7, .x 8, .x 2, .x 5, .x 6, .x 9, .x 10, .x 11, .x 12, .x 13, .x 15, .x 16, .x 14, .x 17, .x 18, .x 19, .x 20] (by kernel_rfl) (by kernel_rfl) ?_
    conv => whnf
    refine callE_con (Φ := fun _ w' v w2 => IntC w2 (Nw (fun _ => False) w' w2) v (x + z)) (fun ρ w' r => pubSum_c (Rel.old r hS) (hx.rel r hS) (hz.rel r hS) (by omega) (by omega)) ?_
    rintro ρ wa19 v19 wb19 r he hb hn
    replace hw := hw.tr hb
    replace hx := hx.past (iv' := (wa19.heap.size, wb19.heap.size) :: iv18) r hS he fun x hx => List.mem_cons_of_mem _ hx
    replace hy := hy.past (iv' := (wa19.heap.size, wb19.heap.size) :: iv18) r hS he fun x hx => List.mem_cons_of_mem _ hx
    replace hz := hz.past (iv' := (wa19.heap.size, wb19.heap.size) :: iv18) r hS he fun x hx => List.mem_cons_of_mem _ hx
    have h2 := hn.got (S := fun _ => False) r.baseLe (iv := (wa19.heap.size, wb19.heap.size) :: iv18) List.mem_cons_self
    clear r he hb hn
    generalize (wa19.heap.size, wb19.heap.size) :: iv18 = iv19 at *
    obtain ⟨s19_0, s19_1, s19_2, s19_3, rfl⟩ := h2.shape
    conv => whnf
    refine callE_con (Φ := fun _ w' v w2 => IntC w2 (Nw (fun _ => False) w' w2) v (y + z)) (fun ρ w' r => pubSum_c (Rel.old r hS) (hy.rel r hS) (hz.rel r hS) (by omega) (by omega)) ?_
    rintro ρ wa20 v20 wb20 r he hb hn
    replace hw := hw.tr hb
    replace hx := hx.past (iv' := (wa20.heap.size, wb20.heap.size) :: iv19) r hS he fun x hx => List.mem_cons_of_mem _ hx
    replace hy := hy.past (iv' := (wa20.heap.size, wb20.heap.size) :: iv19) r hS he fun x hx => List.mem_cons_of_mem _ hx
    replace hz := hz.past (iv' := (wa20.heap.size, wb20.heap.size) :: iv19) r hS he fun x hx => List.mem_cons_of_mem _ hx
    replace h2 := h2.past (iv' := (wa20.heap.size, wb20.heap.size) :: iv19) r (oldF w) he fun x hx => List.mem_cons_of_mem _ hx
    have h5 := hn.got (S := fun _ => False) r.baseLe (iv := (wa20.heap.size, wb20.heap.size) :: iv19) List.mem_cons_self
    clear r he hb hn
    generalize (wa20.heap.size, wb20.heap.size) :: iv19 = iv20 at *
    obtain ⟨s20_0, s20_1, s20_2, s20_3, rfl⟩ := h5.shape
    conv => whnf
    refine callE_con (Φ := fun _ w' v w2 => v = .int .i64 (x - y).sign) (fun ρ w' r => ?_) ?_
    · have h := pubCmpInt_c (Rel.old r (oldF w)) (h2.rel r (oldF w)).r (h5.rel r (oldF w)).r (by omega) (by omega)
      rw [show (x + z - (y + z)).sign = (x - y).sign from by rw [show x + z - (y + z) = x - y by omega]] at h
      exact h
    rintro ρ wa21 v21 wb21 r he hb rfl
    replace hw := hw.tr hb
    replace hx := hx.past (iv' := (wa21.heap.size, wb21.heap.size) :: iv20) r hS he fun x hx => List.mem_cons_of_mem _ hx
    replace hy := hy.past (iv' := (wa21.heap.size, wb21.heap.size) :: iv20) r hS he fun x hx => List.mem_cons_of_mem _ hx
    replace hz := hz.past (iv' := (wa21.heap.size, wb21.heap.size) :: iv20) r hS he fun x hx => List.mem_cons_of_mem _ hx
    clear h2
    clear h5
    clear r he hb
    generalize (wa21.heap.size, wb21.heap.size) :: iv20 = iv21 at *
    conv => whnf
    refine callE_con (Φ := fun _ w' v w2 => v = .int .i64 (x - y).sign) (fun ρ w' r => ?_) ?_
    · have h := pubCmpInt_c (Rel.old r hS) (hx.rel r hS) (hy.rel r hS) (by omega) (by omega)
      rw [show (x - y).sign = (x - y).sign from rfl] at h
      exact h
    rintro ρ wa22 v22 wb22 r he hb rfl
    replace hw := hw.tr hb
    replace hx := hx.past (iv' := (wa22.heap.size, wb22.heap.size) :: iv21) r hS he fun x hx => List.mem_cons_of_mem _ hx
    replace hy := hy.past (iv' := (wa22.heap.size, wb22.heap.size) :: iv21) r hS he fun x hx => List.mem_cons_of_mem _ hx
    replace hz := hz.past (iv' := (wa22.heap.size, wb22.heap.size) :: iv21) r hS he fun x hx => List.mem_cons_of_mem _ hx
    clear r he hb
    generalize (wa22.heap.size, wb22.heap.size) :: iv21 = iv22 at *
    conv => whnf
    refine BrS.mk (fun hne => by simp at hne) (fun _ => ?_)
    conv => whnf
    refine callE_con (Φ := fun _ w' v w2 => v = .int .i64 (x - y).sign) (fun ρ w' r => ?_) ?_
    · have h := pubCmpInt_c (Rel.old r hS) (hx.rel r hS) (hy.rel r hS) (by omega) (by omega)
      rw [show (x - y).sign = (x - y).sign from rfl] at h
      exact h
    rintro ρ wa23 v23 wb23 r he hb rfl
    replace hw := hw.tr hb
    replace hx := hx.past (iv' := (wa23.heap.size, wb23.heap.size) :: iv22) r hS he fun x hx => List.mem_cons_of_mem _ hx
    replace hy := hy.past (iv' := (wa23.heap.size, wb23.heap.size) :: iv22) r hS he fun x hx => List.mem_cons_of_mem _ hx
    replace hz := hz.past (iv' := (wa23.heap.size, wb23.heap.size) :: iv22) r hS he fun x hx => List.mem_cons_of_mem _ hx
    clear r he hb
    generalize (wa23.heap.size, wb23.heap.size) :: iv22 = iv23 at *
    conv => whnf
    refine callE_con (Φ := fun _ w' v w2 => v = .int .i64 (-(x - y).sign)) (fun ρ w' r => ?_) ?_
    · have h := pubCmpInt_c (Rel.old r hS) (hy.rel r hS) (hx.rel r hS) (by omega) (by omega)
      rw [show (y - x).sign = (-(x - y).sign) from by rw [show y - x = -(x - y) by omega, Int.sign_neg]] at h
      exact h
    rintro ρ wa24 v24 wb24 r he hb rfl
    replace hw := hw.tr hb
    replace hx := hx.past (iv' := (wa24.heap.size, wb24.heap.size) :: iv23) r hS he fun x hx => List.mem_cons_of_mem _ hx
    replace hy := hy.past (iv' := (wa24.heap.size, wb24.heap.size) :: iv23) r hS he fun x hx => List.mem_cons_of_mem _ hx
    replace hz := hz.past (iv' := (wa24.heap.size, wb24.heap.size) :: iv23) r hS he fun x hx => List.mem_cons_of_mem _ hx
    clear r he hb
    generalize (wa24.heap.size, wb24.heap.size) :: iv23 = iv24 at *
    conv => whnf
    refine ⟨(x - y).sign, by rw [wrap64] <;> omega, ?_⟩
    conv => whnf
    refine BrS.mk (fun hne => by simp at hne) (fun _ => ?_)
    conv => whnf
    refine callE_S (callE_con (Φ := fun _ w' v w2 => IntC w2 (Nw (fun _ => False) w' w2) v (0)) (fun ρ w' r => pubOf_c 0 w' (by decide) (by decide)) ?_)
    rintro ρ wa25 v25 wb25 r he hb hn
    replace hw := hw.tr hb
    replace hx := hx.past (iv' := (wa25.heap.size, wb25.heap.size) :: iv24) r hS he fun x hx => List.mem_cons_of_mem _ hx
    replace hy := hy.past (iv' := (wa25.heap.size, wb25.heap.size) :: iv24) r hS he fun x hx => List.mem_cons_of_mem _ hx
    replace hz := hz.past (iv' := (wa25.heap.size, wb25.heap.size) :: iv24) r hS he fun x hx => List.mem_cons_of_mem _ hx
    have h0 := hn.got (S := fun _ => False) r.baseLe (iv := (wa25.heap.size, wb25.heap.size) :: iv24) List.mem_cons_self
    clear r he hb hn
    generalize (wa25.heap.size, wb25.heap.size) :: iv24 = iv25 at *
    obtain ⟨s25_0, s25_1, s25_2, s25_3, rfl⟩ := h0.shape
    conv => whnf
    have c6 : ln (0 : Int).natAbs = 0 := by decide
    rcases Int.lt_trichotomy y 0 with hy0 | hy0 | hy0
    · have c1 := ln_ediv x y
      have c2 := ln_emod (x := x) (y := y) (by omega)
      have c3 := ln_mul_abs (x / y) y
      have c4 := ln_add_int (x / y * y) (x % y)
      have c5 := ln_sub_abs 0 y
      have c7 := Int.emod_nonneg x (show y ≠ 0 by omega)
      have c8 := Int.emod_lt x (show y ≠ 0 by omega)
      refine callE_S (callE_con (Φ := fun _ w' v w2 => ∃ q r, v = .tuple #[q, r, .int .i64 0] ∧ IntC w2 (Nw (fun _ => False) w' w2) q (x / y) ∧ IntC w2 (Nw (fun _ => False) w' w2) r (x % y)) (fun ρ w' r => divNon_c (Rel.old r hS) (hx.rel r hS) (hy.rel r hS) (by omega) (by omega) (by omega)) ?_)
      rintro ρ wa26 v26 wb26 r he hb ⟨q, rr, rfl, k1, k2⟩
      replace hw := hw.tr hb
      replace hx := hx.past (iv' := (wa26.heap.size, wb26.heap.size) :: iv25) r hS he fun x hx => List.mem_cons_of_mem _ hx
      replace hy := hy.past (iv' := (wa26.heap.size, wb26.heap.size) :: iv25) r hS he fun x hx => List.mem_cons_of_mem _ hx
      replace hz := hz.past (iv' := (wa26.heap.size, wb26.heap.size) :: iv25) r hS he fun x hx => List.mem_cons_of_mem _ hx
      replace h0 := h0.past (iv' := (wa26.heap.size, wb26.heap.size) :: iv25) r (oldF w) he fun x hx => List.mem_cons_of_mem _ hx
      have hq := k1.got (S := fun _ => False) r.baseLe (iv := (wa26.heap.size, wb26.heap.size) :: iv25) List.mem_cons_self
      have hr := k2.got (S := fun _ => False) r.baseLe (iv := (wa26.heap.size, wb26.heap.size) :: iv25) List.mem_cons_self
      clear r he hb
      generalize (wa26.heap.size, wb26.heap.size) :: iv25 = iv26 at *
      obtain ⟨s26_0a, s26_0b, s26_0c, s26_0d, rfl⟩ := hq.shape
      obtain ⟨s26_1a, s26_1b, s26_1c, s26_1d, rfl⟩ := hr.shape
      conv => whnf
      clear k1 k2
      refine callE_S (callE_con (Φ := fun _ w' v w2 => v = .int .i64 (-1)) (fun ρ w' r => ?_) ?_)
      · have h := pubCmpInt_c (Rel.old r hS) (hy.rel r hS) ((h0.rel r (oldF w)).r.weak fun g hg => Cv.false hg) (by omega) (by omega)
        rw [show (y - 0).sign = (-1) from by rw [Int.sub_zero, Int.sign_eq_neg_one_of_neg hy0]] at h
        exact h
      rintro ρ wa27 v27 wb27 r he hb rfl
      replace hw := hw.tr hb
      replace hx := hx.past (iv' := (wa27.heap.size, wb27.heap.size) :: iv26) r hS he fun x hx => List.mem_cons_of_mem _ hx
      replace hy := hy.past (iv' := (wa27.heap.size, wb27.heap.size) :: iv26) r hS he fun x hx => List.mem_cons_of_mem _ hx
      replace hz := hz.past (iv' := (wa27.heap.size, wb27.heap.size) :: iv26) r hS he fun x hx => List.mem_cons_of_mem _ hx
      replace h0 := h0.past (iv' := (wa27.heap.size, wb27.heap.size) :: iv26) r (oldF w) he fun x hx => List.mem_cons_of_mem _ hx
      replace hq := hq.past (iv' := (wa27.heap.size, wb27.heap.size) :: iv26) r (oldF w) he fun x hx => List.mem_cons_of_mem _ hx
      replace hr := hr.past (iv' := (wa27.heap.size, wb27.heap.size) :: iv26) r (oldF w) he fun x hx => List.mem_cons_of_mem _ hx
      clear r he hb
      generalize (wa27.heap.size, wb27.heap.size) :: iv26 = iv27 at *
      conv => whnf
      refine callE_S (callE_con (Φ := fun _ w' v w2 => v = .int .i64 (-1)) (fun ρ w' r => ?_) ?_)
      · have h := pubCmpInt_c (Rel.old r hS) (hy.rel r hS) ((h0.rel r (oldF w)).r.weak fun g hg => Cv.false hg) (by omega) (by omega)
        rw [show (y - 0).sign = (-1) from by rw [Int.sub_zero, Int.sign_eq_neg_one_of_neg hy0]] at h
        exact h
      rintro ρ wa28 v28 wb28 r he hb rfl
      replace hw := hw.tr hb
      replace hx := hx.past (iv' := (wa28.heap.size, wb28.heap.size) :: iv27) r hS he fun x hx => List.mem_cons_of_mem _ hx
      replace hy := hy.past (iv' := (wa28.heap.size, wb28.heap.size) :: iv27) r hS he fun x hx => List.mem_cons_of_mem _ hx
      replace hz := hz.past (iv' := (wa28.heap.size, wb28.heap.size) :: iv27) r hS he fun x hx => List.mem_cons_of_mem _ hx
      replace h0 := h0.past (iv' := (wa28.heap.size, wb28.heap.size) :: iv27) r (oldF w) he fun x hx => List.mem_cons_of_mem _ hx
      replace hq := hq.past (iv' := (wa28.heap.size, wb28.heap.size) :: iv27) r (oldF w) he fun x hx => List.mem_cons_of_mem _ hx
      replace hr := hr.past (iv' := (wa28.heap.size, wb28.heap.size) :: iv27) r (oldF w) he fun x hx => List.mem_cons_of_mem _ hx
      clear r he hb
      generalize (wa28.heap.size, wb28.heap.size) :: iv27 = iv28 at *
      conv => whnf
      refine callE_S (callE_con (Φ := fun _ w' v w2 => IntC w2 (Nw (fun _ => False) w' w2) v (0 - y)) (fun ρ w' r => pubDiff_c (Rel.old r hS) ((h0.rel r (oldF w)).r.weak fun g hg => Cv.false hg) (hy.rel r hS) (by omega) (by omega)) ?_)
      rintro ρ wa29 v29 wb29 r he hb hn
      replace hw := hw.tr hb
      replace hx := hx.past (iv' := (wa29.heap.size, wb29.heap.size) :: iv28) r hS he fun x hx => List.mem_cons_of_mem _ hx
      replace hy := hy.past (iv' := (wa29.heap.size, wb29.heap.size) :: iv28) r hS he fun x hx => List.mem_cons_of_mem _ hx
      replace hz := hz.past (iv' := (wa29.heap.size, wb29.heap.size) :: iv28) r hS he fun x hx => List.mem_cons_of_mem _ hx
      replace h0 := h0.past (iv' := (wa29.heap.size, wb29.heap.size) :: iv28) r (oldF w) he fun x hx => List.mem_cons_of_mem _ hx
      replace hq := hq.past (iv' := (wa29.heap.size, wb29.heap.size) :: iv28) r (oldF w) he fun x hx => List.mem_cons_of_mem _ hx
      replace hr := hr.past (iv' := (wa29.heap.size, wb29.heap.size) :: iv28) r (oldF w) he fun x hx => List.mem_cons_of_mem _ hx
      have hs := hn.got (S := fun _ => False) r.baseLe (iv := (wa29.heap.size, wb29.heap.size) :: iv28) List.mem_cons_self
      clear r he hb hn
      generalize (wa29.heap.size, wb29.heap.size) :: iv28 = iv29 at *
      obtain ⟨s29_0, s29_1, s29_2, s29_3, rfl⟩ := hs.shape
      conv => whnf
      refine drawn_of_pi hτ hmix [.x 0, .x 1, .x 2, .x 3, .x 4, .x 6, .x 8, .x 5, .x 7, .x 9, .x 10, .x 11, .x 12, .x 13, .x 14, .x 15, .x 16, .x 17, .x 18, .x 19, .x 20, .x 21, .x 22, .x 23, .x 24, .x 25, .x 26, .x 27] (by kernel_rfl) (by kernel_rfl) ?_
      conv => whnf
      refine callE_con (Φ := fun _ w' v w2 => IntC w2 (Nw (fun _ => False) w' w2) v (x / y * y)) (fun ρ w' r => pubProd_c (Rel.old r hS) ((hq.rel r (oldF w)).r.weak fun g hg => Cv.false hg) (hy.rel r hS) (by omega) (by omega)) ?_
      rintro ρ wa30 v30 wb30 r he hb hn
      replace hw := hw.tr hb
      replace hx := hx.past (iv' := (wa30.heap.size, wb30.heap.size) :: iv29) r hS he fun x hx => List.mem_cons_of_mem _ hx
      replace hy := hy.past (iv' := (wa30.heap.size, wb30.heap.size) :: iv29) r hS he fun x hx => List.mem_cons_of_mem _ hx
      replace hz := hz.past (iv' := (wa30.heap.size, wb30.heap.size) :: iv29) r hS he fun x hx => List.mem_cons_of_mem _ hx
      replace h0 := h0.past (iv' := (wa30.heap.size, wb30.heap.size) :: iv29) r (oldF w) he fun x hx => List.mem_cons_of_mem _ hx
      replace hq := hq.past (iv' := (wa30.heap.size, wb30.heap.size) :: iv29) r (oldF w) he fun x hx => List.mem_cons_of_mem _ hx
      replace hr := hr.past (iv' := (wa30.heap.size, wb30.heap.size) :: iv29) r (oldF w) he fun x hx => List.mem_cons_of_mem _ hx
      replace hs := hs.past (iv' := (wa30.heap.size, wb30.heap.size) :: iv29) r (oldF w) he fun x hx => List.mem_cons_of_mem _ hx
      have hp := hn.got (S := fun _ => False) r.baseLe (iv := (wa30.heap.size, wb30.heap.size) :: iv29) List.mem_cons_self
      clear r he hb hn
      generalize (wa30.heap.size, wb30.heap.size) :: iv29 = iv30 at *
      obtain ⟨s30_0, s30_1, s30_2, s30_3, rfl⟩ := hp.shape
      conv => whnf
      refine callE_con (Φ := fun _ w' v w2 => IntC w2 (Nw (fun _ => False) w' w2) v (x / y * y + x % y)) (fun ρ w' r => pubSum_c (Rel.old r (oldF w)) (hp.rel r (oldF w)).r (hr.rel r (oldF w)).r (by omega) (by omega)) ?_
      rintro ρ wa31 v31 wb31 r he hb hn
      replace hw := hw.tr hb
      replace hx := hx.past (iv' := (wa31.heap.size, wb31.heap.size) :: iv30) r hS he fun x hx => List.mem_cons_of_mem _ hx
      replace hy := hy.past (iv' := (wa31.heap.size, wb31.heap.size) :: iv30) r hS he fun x hx => List.mem_cons_of_mem _ hx
      replace hz := hz.past (iv' := (wa31.heap.size, wb31.heap.size) :: iv30) r hS he fun x hx => List.mem_cons_of_mem _ hx
      replace h0 := h0.past (iv' := (wa31.heap.size, wb31.heap.size) :: iv30) r (oldF w) he fun x hx => List.mem_cons_of_mem _ hx
      replace hq := hq.past (iv' := (wa31.heap.size, wb31.heap.size) :: iv30) r (oldF w) he fun x hx => List.mem_cons_of_mem _ hx
      replace hr := hr.past (iv' := (wa31.heap.size, wb31.heap.size) :: iv30) r (oldF w) he fun x hx => List.mem_cons_of_mem _ hx
      replace hs := hs.past (iv' := (wa31.heap.size, wb31.heap.size) :: iv30) r (oldF w) he fun x hx => List.mem_cons_of_mem _ hx
      clear hp
      have ht := hn.got (S := fun _ => False) r.baseLe (iv := (wa31.heap.size, wb31.heap.size) :: iv30) List.mem_cons_self
      clear r he hb hn
      generalize (wa31.heap.size, wb31.heap.size) :: iv30 = iv31 at *
      obtain ⟨s31_0, s31_1, s31_2, s31_3, rfl⟩ := ht.shape
      conv => whnf
      refine callE_con (Φ := fun _ w' v w2 => v = .int .i64 0) (fun ρ w' r => ?_) ?_
      · have h := pubCmpInt_c (Rel.old r hS) ((ht.rel r (oldF w)).r.weak fun g hg => Cv.false hg) (hx.rel r hS) (by omega) (by omega)
        rw [show (x / y * y + x % y - x).sign = 0 from by rw [Int.mul_comm, Int.mul_ediv_add_emod, Int.sub_self]; rfl] at h
        exact h
      rintro ρ wa32 v32 wb32 r he hb rfl
      replace hw := hw.tr hb
      replace hx := hx.past (iv' := (wa32.heap.size, wb32.heap.size) :: iv31) r hS he fun x hx => List.mem_cons_of_mem _ hx
      replace hy := hy.past (iv' := (wa32.heap.size, wb32.heap.size) :: iv31) r hS he fun x hx => List.mem_cons_of_mem _ hx
      replace hz := hz.past (iv' := (wa32.heap.size, wb32.heap.size) :: iv31) r hS he fun x hx => List.mem_cons_of_mem _ hx
      replace h0 := h0.past (iv' := (wa32.heap.size, wb32.heap.size) :: iv31) r (oldF w) he fun x hx => List.mem_cons_of_mem _ hx
      replace hq := hq.past (iv' := (wa32.heap.size, wb32.heap.size) :: iv31) r (oldF w) he fun x hx => List.mem_cons_of_mem _ hx
      replace hr := hr.past (iv' := (wa32.heap.size, wb32.heap.size) :: iv31) r (oldF w) he fun x hx => List.mem_cons_of_mem _ hx
      replace hs := hs.past (iv' := (wa32.heap.size, wb32.heap.size) :: iv31) r (oldF w) he fun x hx => List.mem_cons_of_mem _ hx
      clear ht
      clear r he hb
      generalize (wa32.heap.size, wb32.heap.size) :: iv31 = iv32 at *
      conv => whnf
      refine callE_con (Φ := fun _ w' v w2 => v = .int .i64 (x % y).sign) (fun ρ w' r => ?_) ?_
      · have h := pubCmpInt_c (Rel.old r (oldF w)) (hr.rel r (oldF w)).r (h0.rel r (oldF w)).r (by omega) (by omega)
        rw [show (x % y - 0).sign = (x % y).sign from by rw [Int.sub_zero]] at h
        exact h
      rintro ρ wa33 v33 wb33 r he hb rfl
      replace hw := hw.tr hb
      replace hx := hx.past (iv' := (wa33.heap.size, wb33.heap.size) :: iv32) r hS he fun x hx => List.mem_cons_of_mem _ hx
      replace hy := hy.past (iv' := (wa33.heap.size, wb33.heap.size) :: iv32) r hS he fun x hx => List.mem_cons_of_mem _ hx
      replace hz := hz.past (iv' := (wa33.heap.size, wb33.heap.size) :: iv32) r hS he fun x hx => List.mem_cons_of_mem _ hx
      replace h0 := h0.past (iv' := (wa33.heap.size, wb33.heap.size) :: iv32) r (oldF w) he fun x hx => List.mem_cons_of_mem _ hx
      replace hq := hq.past (iv' := (wa33.heap.size, wb33.heap.size) :: iv32) r (oldF w) he fun x hx => List.mem_cons_of_mem _ hx
      replace hr := hr.past (iv' := (wa33.heap.size, wb33.heap.size) :: iv32) r (oldF w) he fun x hx => List.mem_cons_of_mem _ hx
      replace hs := hs.past (iv' := (wa33.heap.size, wb33.heap.size) :: iv32) r (oldF w) he fun x hx => List.mem_cons_of_mem _ hx
      clear r he hb
      generalize (wa33.heap.size, wb33.heap.size) :: iv32 = iv33 at *
      conv => whnf
      refine BrS.mk (fun _ => ?_) (fun hne => absurd (of_decide_eq_false hne) (by rcases Int.lt_or_le 0 (x % y) with h | h; rw [Int.sign_eq_one_of_pos h]; decide; rw [show x % y = 0 by omega]; decide))
      conv => whnf
      refine callE_con (Φ := fun _ w' v w2 => v = .int .i64 (-1)) (fun ρ w' r => ?_) ?_
      · have h := pubCmpInt_c (Rel.old r (oldF w)) (hr.rel r (oldF w)).r (hs.rel r (oldF w)).r (by omega) (by omega)
        rw [show (x % y - (0 - y)).sign = (-1) from by rw [Int.sign_eq_neg_one_of_neg (by omega)]] at h
        exact h
      rintro ρ wa34 v34 wb34 r he hb rfl
      replace hw := hw.tr hb
      replace hx := hx.past (iv' := (wa34.heap.size, wb34.heap.size) :: iv33) r hS he fun x hx => List.mem_cons_of_mem _ hx
      replace hy := hy.past (iv' := (wa34.heap.size, wb34.heap.size) :: iv33) r hS he fun x hx => List.mem_cons_of_mem _ hx
      replace hz := hz.past (iv' := (wa34.heap.size, wb34.heap.size) :: iv33) r hS he fun x hx => List.mem_cons_of_mem _ hx
      replace h0 := h0.past (iv' := (wa34.heap.size, wb34.heap.size) :: iv33) r (oldF w) he fun x hx => List.mem_cons_of_mem _ hx
      replace hq := hq.past (iv' := (wa34.heap.size, wb34.heap.size) :: iv33) r (oldF w) he fun x hx => List.mem_cons_of_mem _ hx
      replace hr := hr.past (iv' := (wa34.heap.size, wb34.heap.size) :: iv33) r (oldF w) he fun x hx => List.mem_cons_of_mem _ hx
      replace hs := hs.past (iv' := (wa34.heap.size, wb34.heap.size) :: iv33) r (oldF w) he fun x hx => List.mem_cons_of_mem _ hx
      clear r he hb
      generalize (wa34.heap.size, wb34.heap.size) :: iv33 = iv34 at *
      conv => whnf
      refine callE_con (Φ := fun _ w' v w2 => v = .bool true) (fun ρ w' r => awake_c w') ?_
      rintro ρ wa35 v35 wb35 r he hb rfl
      replace hw := hw.tr hb
      replace hx := hx.past (iv' := (wa35.heap.size, wb35.heap.size) :: iv34) r hS he fun x hx => List.mem_cons_of_mem _ hx
      replace hy := hy.past (iv' := (wa35.heap.size, wb35.heap.size) :: iv34) r hS he fun x hx => List.mem_cons_of_mem _ hx
      replace hz := hz.past (iv' := (wa35.heap.size, wb35.heap.size) :: iv34) r hS he fun x hx => List.mem_cons_of_mem _ hx
      replace h0 := h0.past (iv' := (wa35.heap.size, wb35.heap.size) :: iv34) r (oldF w) he fun x hx => List.mem_cons_of_mem _ hx
      replace hq := hq.past (iv' := (wa35.heap.size, wb35.heap.size) :: iv34) r (oldF w) he fun x hx => List.mem_cons_of_mem _ hx
      replace hr := hr.past (iv' := (wa35.heap.size, wb35.heap.size) :: iv34) r (oldF w) he fun x hx => List.mem_cons_of_mem _ hx
      replace hs := hs.past (iv' := (wa35.heap.size, wb35.heap.size) :: iv34) r (oldF w) he fun x hx => List.mem_cons_of_mem _ hx
      clear r he hb
      generalize (wa35.heap.size, wb35.heap.size) :: iv34 = iv35 at *
      conv => whnf
      intro ρe we re
      exact ⟨_, rfl, hw.tr re.bel, rfl⟩
    · refine callE_S (callE_con (Φ := fun _ w' v w2 => v = .tuple #[.agg #[.bool false, .slice none 0 0], .agg #[.bool false, .slice none 0 0], .int .i64 9]) (fun ρ w' r => divZero_c (Rel.old r hS) (hx.rel r hS) (hy.rel r hS) (by omega) hy0) ?_)
      rintro ρ wa26 v26 wb26 r he hb rfl
      replace hw := hw.tr hb
      replace hx := hx.past (iv' := (wa26.heap.size, wb26.heap.size) :: iv25) r hS he fun x hx => List.mem_cons_of_mem _ hx
      replace hy := hy.past (iv' := (wa26.heap.size, wb26.heap.size) :: iv25) r hS he fun x hx => List.mem_cons_of_mem _ hx
      replace hz := hz.past (iv' := (wa26.heap.size, wb26.heap.size) :: iv25) r hS he fun x hx => List.mem_cons_of_mem _ hx
      replace h0 := h0.past (iv' := (wa26.heap.size, wb26.heap.size) :: iv25) r (oldF w) he fun x hx => List.mem_cons_of_mem _ hx
      clear r he hb
      generalize (wa26.heap.size, wb26.heap.size) :: iv25 = iv26 at *
      conv => whnf
      refine callE_S (callE_con (Φ := fun _ w' v w2 => v = .int .i64 0) (fun ρ w' r => ?_) ?_)
      · have h := pubCmpInt_c (Rel.old r hS) (hy.rel r hS) ((h0.rel r (oldF w)).r.weak fun g hg => Cv.false hg) (by omega) (by omega)
        rw [show (y - 0).sign = 0 from by rw [hy0]; rfl] at h
        exact h
      rintro ρ wa27 v27 wb27 r he hb rfl
      replace hw := hw.tr hb
      replace hx := hx.past (iv' := (wa27.heap.size, wb27.heap.size) :: iv26) r hS he fun x hx => List.mem_cons_of_mem _ hx
      replace hy := hy.past (iv' := (wa27.heap.size, wb27.heap.size) :: iv26) r hS he fun x hx => List.mem_cons_of_mem _ hx
      replace hz := hz.past (iv' := (wa27.heap.size, wb27.heap.size) :: iv26) r hS he fun x hx => List.mem_cons_of_mem _ hx
      replace h0 := h0.past (iv' := (wa27.heap.size, wb27.heap.size) :: iv26) r (oldF w) he fun x hx => List.mem_cons_of_mem _ hx
      clear r he hb
      generalize (wa27.heap.size, wb27.heap.size) :: iv26 = iv27 at *
      conv => whnf
      refine callE_S (callE_con (Φ := fun _ w' v w2 => v = .bool true) (fun ρ w' r => awake_c w') ?_)
      rintro ρ wa28 v28 wb28 r he hb rfl
      replace hw := hw.tr hb
      replace hx := hx.past (iv' := (wa28.heap.size, wb28.heap.size) :: iv27) r hS he fun x hx => List.mem_cons_of_mem _ hx
      replace hy := hy.past (iv' := (wa28.heap.size, wb28.heap.size) :: iv27) r hS he fun x hx => List.mem_cons_of_mem _ hx
      replace hz := hz.past (iv' := (wa28.heap.size, wb28.heap.size) :: iv27) r hS he fun x hx => List.mem_cons_of_mem _ hx
      replace h0 := h0.past (iv' := (wa28.heap.size, wb28.heap.size) :: iv27) r (oldF w) he fun x hx => List.mem_cons_of_mem _ hx
      clear r he hb
      generalize (wa28.heap.size, wb28.heap.size) :: iv27 = iv28 at *
      conv => whnf
      intro ρe we re
      exact ⟨_, rfl, hw.tr re.bel, rfl⟩
    · have c1 := ln_ediv x y
      have c2 := ln_emod (x := x) (y := y) (by omega)
      have c3 := ln_mul_abs (x / y) y
      have c4 := ln_add_int (x / y * y) (x % y)
      have c5 := ln_sub_abs 0 y
      have c7 := Int.emod_nonneg x (show y ≠ 0 by omega)
      have c8 := Int.emod_lt x (show y ≠ 0 by omega)
      refine callE_S (callE_con (Φ := fun _ w' v w2 => ∃ q r, v = .tuple #[q, r, .int .i64 0] ∧ IntC w2 (Nw (fun _ => False) w' w2) q (x / y) ∧ IntC w2 (Nw (fun _ => False) w' w2) r (x % y)) (fun ρ w' r => divNon_c (Rel.old r hS) (hx.rel r hS) (hy.rel r hS) (by omega) (by omega) (by omega)) ?_)
      rintro ρ wa26 v26 wb26 r he hb ⟨q, rr, rfl, k1, k2⟩
      replace hw := hw.tr hb
      replace hx := hx.past (iv' := (wa26.heap.size, wb26.heap.size) :: iv25) r hS he fun x hx => List.mem_cons_of_mem _ hx
      replace hy := hy.past (iv' := (wa26.heap.size, wb26.heap.size) :: iv25) r hS he fun x hx => List.mem_cons_of_mem _ hx
      replace hz := hz.past (iv' := (wa26.heap.size, wb26.heap.size) :: iv25) r hS he fun x hx => List.mem_cons_of_mem _ hx
      replace h0 := h0.past (iv' := (wa26.heap.size, wb26.heap.size) :: iv25) r (oldF w) he fun x hx => List.mem_cons_of_mem _ hx
      have hq := k1.got (S := fun _ => False) r.baseLe (iv := (wa26.heap.size, wb26.heap.size) :: iv25) List.mem_cons_self
      have hr := k2.got (S := fun _ => False) r.baseLe (iv := (wa26.heap.size, wb26.heap.size) :: iv25) List.mem_cons_self
      clear r he hb
      generalize (wa26.heap.size, wb26.heap.size) :: iv25 = iv26 at *
      obtain ⟨s26_0a, s26_0b, s26_0c, s26_0d, rfl⟩ := hq.shape
      obtain ⟨s26_1a, s26_1b, s26_1c, s26_1d, rfl⟩ := hr.shape
      conv => whnf
      clear k1 k2
      refine callE_S (callE_con (Φ := fun _ w' v w2 => v = .int .i64 1) (fun ρ w' r => ?_) ?_)
      · have h := pubCmpInt_c (Rel.old r hS) (hy.rel r hS) ((h0.rel r (oldF w)).r.weak fun g hg => Cv.false hg) (by omega) (by omega)
        rw [show (y - 0).sign = 1 from by rw [Int.sub_zero, Int.sign_eq_one_of_pos hy0]] at h
        exact h
      rintro ρ wa27 v27 wb27 r he hb rfl
      replace hw := hw.tr hb
      replace hx := hx.past (iv' := (wa27.heap.size, wb27.heap.size) :: iv26) r hS he fun x hx => List.mem_cons_of_mem _ hx
      replace hy := hy.past (iv' := (wa27.heap.size, wb27.heap.size) :: iv26) r hS he fun x hx => List.mem_cons_of_mem _ hx
      replace hz := hz.past (iv' := (wa27.heap.size, wb27.heap.size) :: iv26) r hS he fun x hx => List.mem_cons_of_mem _ hx
      replace h0 := h0.past (iv' := (wa27.heap.size, wb27.heap.size) :: iv26) r (oldF w) he fun x hx => List.mem_cons_of_mem _ hx
      replace hq := hq.past (iv' := (wa27.heap.size, wb27.heap.size) :: iv26) r (oldF w) he fun x hx => List.mem_cons_of_mem _ hx
      replace hr := hr.past (iv' := (wa27.heap.size, wb27.heap.size) :: iv26) r (oldF w) he fun x hx => List.mem_cons_of_mem _ hx
      clear r he hb
      generalize (wa27.heap.size, wb27.heap.size) :: iv26 = iv27 at *
      conv => whnf
      refine callE_S (callE_con (Φ := fun _ w' v w2 => v = .int .i64 1) (fun ρ w' r => ?_) ?_)
      · have h := pubCmpInt_c (Rel.old r hS) (hy.rel r hS) ((h0.rel r (oldF w)).r.weak fun g hg => Cv.false hg) (by omega) (by omega)
        rw [show (y - 0).sign = 1 from by rw [Int.sub_zero, Int.sign_eq_one_of_pos hy0]] at h
        exact h
      rintro ρ wa28 v28 wb28 r he hb rfl
      replace hw := hw.tr hb
      replace hx := hx.past (iv' := (wa28.heap.size, wb28.heap.size) :: iv27) r hS he fun x hx => List.mem_cons_of_mem _ hx
      replace hy := hy.past (iv' := (wa28.heap.size, wb28.heap.size) :: iv27) r hS he fun x hx => List.mem_cons_of_mem _ hx
      replace hz := hz.past (iv' := (wa28.heap.size, wb28.heap.size) :: iv27) r hS he fun x hx => List.mem_cons_of_mem _ hx
      replace h0 := h0.past (iv' := (wa28.heap.size, wb28.heap.size) :: iv27) r (oldF w) he fun x hx => List.mem_cons_of_mem _ hx
      replace hq := hq.past (iv' := (wa28.heap.size, wb28.heap.size) :: iv27) r (oldF w) he fun x hx => List.mem_cons_of_mem _ hx
      replace hr := hr.past (iv' := (wa28.heap.size, wb28.heap.size) :: iv27) r (oldF w) he fun x hx => List.mem_cons_of_mem _ hx
      clear r he hb
      generalize (wa28.heap.size, wb28.heap.size) :: iv27 = iv28 at *
      conv => whnf
      refine drawn_of_pi hτ hmix [.x 0, .x 1, .x 2, .x 3, .x 4, .x 6, .x 8, .x 5, .x 7, .x 9, .x 10, .x 11, .x 12, .x 13, .x 14, .x 15, .x 16, .x 17, .x 18, .x 19, .x 20, .x 21, .x 22, .x 23, .x 24, .x 25, .x 26, .x 27] (by kernel_rfl) (by kernel_rfl) ?_
      conv => whnf
      refine callE_con (Φ := fun _ w' v w2 => IntC w2 (Nw (fun _ => False) w' w2) v (x / y * y)) (fun ρ w' r => pubProd_c (Rel.old r hS) ((hq.rel r (oldF w)).r.weak fun g hg => Cv.false hg) (hy.rel r hS) (by omega) (by omega)) ?_
      rintro ρ wa29 v29 wb29 r he hb hn
      replace hw := hw.tr hb
      replace hx := hx.past (iv' := (wa29.heap.size, wb29.heap.size) :: iv28) r hS he fun x hx => List.mem_cons_of_mem _ hx
      replace hy := hy.past (iv' := (wa29.heap.size, wb29.heap.size) :: iv28) r hS he fun x hx => List.mem_cons_of_mem _ hx
      replace hz := hz.past (iv' := (wa29.heap.size, wb29.heap.size) :: iv28) r hS he fun x hx => List.mem_cons_of_mem _ hx
      replace h0 := h0.past (iv' := (wa29.heap.size, wb29.heap.size) :: iv28) r (oldF w) he fun x hx => List.mem_cons_of_mem _ hx
      replace hq := hq.past (iv' := (wa29.heap.size, wb29.heap.size) :: iv28) r (oldF w) he fun x hx => List.mem_cons_of_mem _ hx
      replace hr := hr.past (iv' := (wa29.heap.size, wb29.heap.size) :: iv28) r (oldF w) he fun x hx => List.mem_cons_of_mem _ hx
      have hp := hn.got (S := fun _ => False) r.baseLe (iv := (wa29.heap.size, wb29.heap.size) :: iv28) List.mem_cons_self
      clear r he hb hn
      generalize (wa29.heap.size, wb29.heap.size) :: iv28 = iv29 at *
      obtain ⟨s29_0, s29_1, s29_2, s29_3, rfl⟩ := hp.shape
      conv => whnf
      refine callE_con (Φ := fun _ w' v w2 => IntC w2 (Nw (fun _ => False) w' w2) v (x / y * y + x % y)) (fun ρ w' r => pubSum_c (Rel.old r (oldF w)) (hp.rel r (oldF w)).r (hr.rel r (oldF w)).r (by omega) (by omega)) ?_
      rintro ρ wa30 v30 wb30 r he hb hn
      replace hw := hw.tr hb
      replace hx := hx.past (iv' := (wa30.heap.size, wb30.heap.size) :: iv29) r hS he fun x hx => List.mem_cons_of_mem _ hx
      replace hy := hy.past (iv' := (wa30.heap.size, wb30.heap.size) :: iv29) r hS he fun x hx => List.mem_cons_of_mem _ hx
      replace hz := hz.past (iv' := (wa30.heap.size, wb30.heap.size) :: iv29) r hS he fun x hx => List.mem_cons_of_mem _ hx
      replace h0 := h0.past (iv' := (wa30.heap.size, wb30.heap.size) :: iv29) r (oldF w) he fun x hx => List.mem_cons_of_mem _ hx
      replace hq := hq.past (iv' := (wa30.heap.size, wb30.heap.size) :: iv29) r (oldF w) he fun x hx => List.mem_cons_of_mem _ hx
      replace hr := hr.past (iv' := (wa30.heap.size, wb30.heap.size) :: iv29) r (oldF w) he fun x hx => List.mem_cons_of_mem _ hx
      clear hp
      have ht := hn.got (S := fun _ => False) r.baseLe (iv := (wa30.heap.size, wb30.heap.size) :: iv29) List.mem_cons_self
      clear r he hb hn
      generalize (wa30.heap.size, wb30.heap.size) :: iv29 = iv30 at *
      obtain ⟨s30_0, s30_1, s30_2, s30_3, rfl⟩ := ht.shape
      conv => whnf
      refine callE_con (Φ := fun _ w' v w2 => v = .int .i64 0) (fun ρ w' r => ?_) ?_
      · have h := pubCmpInt_c (Rel.old r hS) ((ht.rel r (oldF w)).r.weak fun g hg => Cv.false hg) (hx.rel r hS) (by omega) (by omega)
        rw [show (x / y * y + x % y - x).sign = 0 from by rw [Int.mul_comm, Int.mul_ediv_add_emod, Int.sub_self]; rfl] at h
        exact h
      rintro ρ wa31 v31 wb31 r he hb rfl
      replace hw := hw.tr hb
      replace hx := hx.past (iv' := (wa31.heap.size, wb31.heap.size) :: iv30) r hS he fun x hx => List.mem_cons_of_mem _ hx
      replace hy := hy.past (iv' := (wa31.heap.size, wb31.heap.size) :: iv30) r hS he fun x hx => List.mem_cons_of_mem _ hx
      replace hz := hz.past (iv' := (wa31.heap.size, wb31.heap.size) :: iv30) r hS he fun x hx => List.mem_cons_of_mem _ hx
      replace h0 := h0.past (iv' := (wa31.heap.size, wb31.heap.size) :: iv30) r (oldF w) he fun x hx => List.mem_cons_of_mem _ hx
      replace hq := hq.past (iv' := (wa31.heap.size, wb31.heap.size) :: iv30) r (oldF w) he fun x hx => List.mem_cons_of_mem _ hx
      replace hr := hr.past (iv' := (wa31.heap.size, wb31.heap.size) :: iv30) r (oldF w) he fun x hx => List.mem_cons_of_mem _ hx
      clear ht
      clear r he hb
      generalize (wa31.heap.size, wb31.heap.size) :: iv30 = iv31 at *
      conv => whnf
      refine callE_con (Φ := fun _ w' v w2 => v = .int .i64 (x % y).sign) (fun ρ w' r => ?_) ?_
      · have h := pubCmpInt_c (Rel.old r (oldF w)) (hr.rel r (oldF w)).r (h0.rel r (oldF w)).r (by omega) (by omega)
        rw [show (x % y - 0).sign = (x % y).sign from by rw [Int.sub_zero]] at h
        exact h
      rintro ρ wa32 v32 wb32 r he hb rfl
      replace hw := hw.tr hb
      replace hx := hx.past (iv' := (wa32.heap.size, wb32.heap.size) :: iv31) r hS he fun x hx => List.mem_cons_of_mem _ hx
      replace hy := hy.past (iv' := (wa32.heap.size, wb32.heap.size) :: iv31) r hS he fun x hx => List.mem_cons_of_mem _ hx
      replace hz := hz.past (iv' := (wa32.heap.size, wb32.heap.size) :: iv31) r hS he fun x hx => List.mem_cons_of_mem _ hx
      replace h0 := h0.past (iv' := (wa32.heap.size, wb32.heap.size) :: iv31) r (oldF w) he fun x hx => List.mem_cons_of_mem _ hx
      replace hq := hq.past (iv' := (wa32.heap.size, wb32.heap.size) :: iv31) r (oldF w) he fun x hx => List.mem_cons_of_mem _ hx
      replace hr := hr.past (iv' := (wa32.heap.size, wb32.heap.size) :: iv31) r (oldF w) he fun x hx => List.mem_cons_of_mem _ hx
      clear r he hb
      generalize (wa32.heap.size, wb32.heap.size) :: iv31 = iv32 at *
      conv => whnf
      refine BrS.mk (fun _ => ?_) (fun hne => absurd (of_decide_eq_false hne) (by rcases Int.lt_or_le 0 (x % y) with h | h; rw [Int.sign_eq_one_of_pos h]; decide; rw [show x % y = 0 by omega]; decide))
      conv => whnf
      refine callE_con (Φ := fun _ w' v w2 => v = .int .i64 (-1)) (fun ρ w' r => ?_) ?_
      · have h := pubCmpInt_c (Rel.old r hS) ((hr.rel r (oldF w)).r.weak fun g hg => Cv.false hg) (hy.rel r hS) (by omega) (by omega)
        rw [show (x % y - y).sign = (-1) from by rw [Int.sign_eq_neg_one_of_neg (by omega)]] at h
        exact h
      rintro ρ wa33 v33 wb33 r he hb rfl
      replace hw := hw.tr hb
      replace hx := hx.past (iv' := (wa33.heap.size, wb33.heap.size) :: iv32) r hS he fun x hx => List.mem_cons_of_mem _ hx
      replace hy := hy.past (iv' := (wa33.heap.size, wb33.heap.size) :: iv32) r hS he fun x hx => List.mem_cons_of_mem _ hx
      replace hz := hz.past (iv' := (wa33.heap.size, wb33.heap.size) :: iv32) r hS he fun x hx => List.mem_cons_of_mem _ hx
      replace h0 := h0.past (iv' := (wa33.heap.size, wb33.heap.size) :: iv32) r (oldF w) he fun x hx => List.mem_cons_of_mem _ hx
      replace hq := hq.past (iv' := (wa33.heap.size, wb33.heap.size) :: iv32) r (oldF w) he fun x hx => List.mem_cons_of_mem _ hx
      replace hr := hr.past (iv' := (wa33.heap.size, wb33.heap.size) :: iv32) r (oldF w) he fun x hx => List.mem_cons_of_mem _ hx
      clear r he hb
      generalize (wa33.heap.size, wb33.heap.size) :: iv32 = iv33 at *
      conv => whnf
      refine callE_con (Φ := fun _ w' v w2 => v = .bool true) (fun ρ w' r => awake_c w') ?_
      rintro ρ wa34 v34 wb34 r he hb rfl
      replace hw := hw.tr hb
      replace hx := hx.past (iv' := (wa34.heap.size, wb34.heap.size) :: iv33) r hS he fun x hx => List.mem_cons_of_mem _ hx
      replace hy := hy.past (iv' := (wa34.heap.size, wb34.heap.size) :: iv33) r hS he fun x hx => List.mem_cons_of_mem _ hx
      replace hz := hz.past (iv' := (wa34.heap.size, wb34.heap.size) :: iv33) r hS he fun x hx => List.mem_cons_of_mem _ hx
      replace h0 := h0.past (iv' := (wa34.heap.size, wb34.heap.size) :: iv33) r (oldF w) he fun x hx => List.mem_cons_of_mem _ hx
      replace hq := hq.past (iv' := (wa34.heap.size, wb34.heap.size) :: iv33) r (oldF w) he fun x hx => List.mem_cons_of_mem _ hx
      replace hr := hr.past (iv' := (wa34.heap.size, wb34.heap.size) :: iv33) r (oldF w) he fun x hx => List.mem_cons_of_mem _ hx
      clear r he hb
      generalize (wa34.heap.size, wb34.heap.size) :: iv33 = iv34 at *
      conv => whnf
      intro ρe we re
      exact ⟨_, rfl, hw.tr re.bel, rfl⟩
end Go.Ex
