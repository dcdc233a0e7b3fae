/- A part of the proof of TopFewestHandlings: contracts of functions of package erection, part 28. Their conditions stand in the theorems. -/
import Derived.Test.YtbkpmaflldbfeaaEr27
namespace Go.Er
open Go Go.Sx Go.Proofs

def planT (a1 a2 a3 : Option Addr) : List Tk := [⟨⟨#[98, 97, 115, 101]⟩, ⟨#[114, 105, 103, 103, 101, 114]⟩, -1, 0, 3, none, 0, 0, []⟩, ⟨⟨#[112, 111, 115, 116]⟩, ⟨#[114, 105, 103, 103, 101, 114]⟩, -1, 0, 10, a1, 1, 1, [0]⟩,
  ⟨⟨#[114, 97, 105, 108]⟩, ⟨#[114, 105, 103, 103, 101, 114]⟩, -1, 1, 5, a2, 1, 1, [0]⟩, ⟨⟨#[100, 101, 99, 107]⟩, ⟨#[114, 105, 103, 103, 101, 114]⟩, -1, 0, 6, a3, 2, 2, [1, 2]⟩]
def PlanB (lo : Nat) (v : Value) (w : World) : Prop := ∃ ad a1 a2 a3, v = .slice (some ad) 4 4 ∧
  ∀ w2 : World, (∀ k, lo ≤ k → k < w.heap.size → w2.heap[k]? = w.heap[k]?) → w.heap.size ≤ w2.heap.size → TasksB w2 w2.heap.size (some ad) 4 (planT a1 a2 a3)

theorem plan_box {w : World} {g e : Nat} {cs : List Value} {xs : List Value} {i : Nat} {x : Value} (h : w.heap[g]? = some (.cells cs.toArray e (0, 0))) (hg : g < w.heap.size) (he : cs = xs) (hx : xs[i]? = some x) : CellB w w.heap.size ⟨g, i, none⟩ x := by
  subst he
  exact ⟨hg, by rw [cell_of h]; exact hx⟩
theorem plan_c (w : World) : Con Try.prog 11 #[] w (Ret w fun v w2 => PlanB w.heap.size v w2) := by
  refine ⟨ent11, calls_f Try.func11 (by rfl) (by simp) (by rfl) ?_⟩
  conv => whnf
  intro ρ w' r
  refine ⟨_, rfl, r.bel, ⟨(ρ 3).g, 0, none⟩, some ⟨(ρ 0).g, 0, none⟩, some ⟨(ρ 1).g, 0, none⟩, some ⟨(ρ 2).g, 0, none⟩, rfl, fun w2 hk2 hs2 => ?_⟩
  have l3 := r.low 3 _ rfl (r.nn 3 _ rfl (by intros; simp) (by simp))
  have l0 := r.low 0 _ rfl (r.nn 0 _ rfl (by intros; simp) (by simp))
  have l1 := r.low 1 _ rfl (r.nn 1 _ rfl (by intros; simp) (by simp))
  have l2 := r.low 2 _ rfl (r.nn 2 _ rfl (by intros; simp) (by simp))
  refine ⟨rfl, by decide, fun j t hj => ⟨_, rfl, fun k x hx => ?_⟩, fun j t hj => ?_⟩
  · have hk6 := (List.getElem?_eq_some_iff.1 hx).1
    have h6 : t.cells.length = 6 := rfl
    have hf : (flat (planT (some ⟨(ρ 0).g, 0, none⟩) (some ⟨(ρ 1).g, 0, none⟩) (some ⟨(ρ 2).g, 0, none⟩)))[j * 6 + k]? = some x := by
      rw [flat_get, show (j * 6 + k) / 6 = j by omega, show (j * 6 + k) % 6 = k by omega, hj]
      exact hx
    rw [Addr.add_add, add_zero_addr]
    exact plan_box ((hk2 _ l3.1 l3.2).trans (r.box 3 38 _ rfl)) (by omega) rfl hf
  · have h0 := (hk2 _ l0.1 l0.2).trans (r.box 0 3 _ rfl)
    have h1 := (hk2 _ l1.1 l1.2).trans (r.box 1 3 _ rfl)
    have h2 := (hk2 _ l2.1 l2.2).trans (r.box 2 3 _ rfl)
    have g0 : (ρ 0).g < w2.heap.size := by omega
    have g1 : (ρ 1).g < w2.heap.size := by omega
    have g2 : (ρ 2).g < w2.heap.size := by omega
    rcases j with _ | _ | _ | _ | j
    · injection hj with hj; subst hj
      exact ⟨rfl, by decide, by simp⟩
    · injection hj with hj; subst hj
      exact ⟨rfl, (by show (1 : Nat) ≤ 9223372036854775807; omega), fun j x hx => ⟨_, rfl, by rw [add_zero_addr]; exact plan_box h0 g0 (xs := [.int .i64 0]) rfl (by
        rcases j with _ | j
        · injection hx with hx; subst hx; rfl
        · simp at hx)⟩⟩
    · injection hj with hj; subst hj
      exact ⟨rfl, (by show (1 : Nat) ≤ 9223372036854775807; omega), fun j x hx => ⟨_, rfl, by rw [add_zero_addr]; exact plan_box h1 g1 (xs := [.int .i64 0]) rfl (by
        rcases j with _ | j
        · injection hx with hx; subst hx; rfl
        · simp at hx)⟩⟩
    · injection hj with hj; subst hj
      exact ⟨rfl, (by show (2 : Nat) ≤ 9223372036854775807; omega), fun j x hx => ⟨_, rfl, by rw [add_zero_addr]; exact plan_box h2 g2 (xs := [.int .i64 1, .int .i64 2]) rfl (by
        rcases j with _ | _ | j
        · injection hx with hx; subst hx; rfl
        · injection hx with hx; subst hx; rfl
        · simp at hx)⟩⟩
    · simp [planT] at hj

theorem plan_check (a1 a2 a3 : Option Addr) : checkF (planT a1 a2 a3) = 0 := by
  have h1 : checkGo (planT a1 a2 a3).length (planT a1 a2 a3) [] = 0 := by rfl
  rw [checkF, if_pos h1, if_pos]
  refine ⟨[0, 1, 2, 3], ⟨by decide, fun x hx => ?_⟩, rfl, fun i x hx k hk => ?_⟩
  · simp [planT] at hx ⊢
    omega
  · rcases i with _ | _ | _ | _ | i <;> simp at hx <;> subst hx <;> simp [needsOf, planT] at hk ⊢ <;> omega
theorem plan_ord (a1 a2 a3 : Option Addr) : ordF (planT a1 a2 a3) = 2 := by kernel_rfl
theorem plan_dis (a1 a2 a3 : Option Addr) : acceptF (turnF (planT a1 a2 a3)) [3, 1, 2, 0] = (-1, 0) := by kernel_rfl
theorem plan_sml (a1 a2 a3 : Option Addr) : Sml (planT a1 a2 a3) := ⟨by show (4 : Nat) ≤ 8; omega, fun t ht => by
  simp [planT] at ht
  rcases ht with rfl | rfl | rfl | rfl <;> simp⟩

theorem ordered_c (w : World) : Con Try.prog 4 #[] w (Ret w fun v _ => v = .bool true) := by
  refine ⟨ent4, calls_f Try.func4 (by rfl) (by simp) (by rfl) ?_⟩
  conv => whnf
  refine callE_S (callE_con (Φ := fun _ w' v w2 => PlanB w'.heap.size v w2) (fun ρ w' r => plan_c w') ?_)
  rintro ρ w' v w2 r he hb ⟨ad, a1, a2, a3, rfl, hP⟩
  conv => whnf
  refine callE_S (callE_con (Φ := fun _ _ v _ => OrdB (planT a1 a2 a3) v) (fun ρ w3 r3 => orders_c _ _ _ (planT a1 a2 a3) w3 (hP w3 (fun k _ hk => r3.nilBy.block k hk (by simp)) r3.size) (plan_sml a1 a2 a3)) ?_)
  rintro ρ3 w3 v w4 r3 he3 hb3 ⟨m, rfl, hm⟩
  obtain rfl := (hm (plan_check a1 a2 a3)).trans (plan_ord a1 a2 a3)
  rw [plan_check]
  replace hb := hb.tr hb3
  clear hm hP he r3 he3 hb3
  conv => whnf
  refine callE_S (callE_con (Φ := fun _ w' v w2 => PlanB w'.heap.size v w2) (fun ρ w' r => plan_c w') ?_)
  rintro ρ5 w5 v w6 r5 he5 hb5 ⟨ad, a1, a2, a3, rfl, hP⟩
  replace hb := hb.tr hb5
  conv => whnf
  refine callE_S (callE_con (Φ := fun _ _ v _ => v = .tuple #[.int .i64 (disF (planT a1 a2 a3) [3, 1, 2, 0]).1, .int .i64 (disF (planT a1 a2 a3) [3, 1, 2, 0]).2]) (fun ρ w7 r7 => ?_) ?_)
  · refine dismantles_c ad (some ⟨(ρ 0).g, 0, none⟩) 4 4 4 4 (planT a1 a2 a3) [3, 1, 2, 0] w7 (hP w7 (fun k h1 h2 => r7.frm k h2 fun id b hb hn he => r7.prot w5.heap.size w6.heap.size (by simp) id b hb hn (by omega)) r7.size) ⟨rfl, by decide, fun j x hx => ⟨_, rfl, ?_⟩⟩ (plan_sml a1 a2 a3) (by decide)
    rw [add_zero_addr]
    exact plan_box (xs := [3, 1, 2, 0].map (Value.int .i64)) (r7.box 0 3 _ rfl) (r7.low 0 _ rfl (r7.nn 0 _ rfl (by intros; simp) (by simp))).2 rfl (by rw [List.getElem?_map, hx]; rfl)
  · have hd : disF (planT a1 a2 a3) [3, 1, 2, 0] = (-1, 0) := by rw [disF, if_pos (plan_check a1 a2 a3), plan_dis]
    rw [hd]
    rintro ρ7 w7 v w8 r7 he7 hb7 rfl
    conv => whnf
    intro ρ9 w9 r9
    exact ⟨_, rfl, (hb.tr hb7).tr r9.bel, rfl⟩
end Go.Er
