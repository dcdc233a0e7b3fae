/- A part of the proof of TopFewestHandlings: contracts of functions of package erection, part 15. Their conditions stand in the theorems. -/
import Derived.Test.YtbkpmaflldbfeaaEr14
namespace Go.Er
open Go Go.Sx Go.Proofs

structure Okay (ts : List Tk) : Prop where
  rng : InRange ts
  topo : ∃ l, Topo ts l
  place : ∀ t ∈ ts, 0 ≤ t.place ∧ t.place ≤ 999
theorem checkF_zero {ts : List Tk} (h : checkF ts = 0) : Okay ts := by
  unfold checkF at h
  split at h
  · rename_i h1
    split at h
    · rename_i h2
      refine ⟨fun t ht k hk => ?_, h2, fun t ht => (checkGo_zero h1 t ht).2⟩
      exact (listedF_zero (checkGo_zero h1 t ht).1).1 k hk
    · cases h
  · rename_i h1; exact absurd h h1

/-- the answer of a sort behind a check: an order, or the check's error -/
def OrderB (ts : List Tk) (lo : Nat) (v : Value) (w : World) : Prop := ∃ a n c out, v = .tuple #[.slice a n c, .int .i64 (checkF ts)] ∧ (checkF ts = 0 → IntsI w lo w.heap.size a n out ∧ Topo ts out)

theorem order_c (a : Option Addr) (n c : Nat) (ts : List Tk) (w : World) (hT : TasksB w w.heap.size a n ts) (hS : Sml ts) :
    Con Try.prog 17 #[.slice a n c] w (Ret w fun v w2 => OrderB ts w.heap.size v w2) := by
  refine ⟨ent17, calls_f Try.func17 (by rfl) (by simp) (by rfl) ?_⟩
  conv => whnf
  refine callE_S (callE_con (Φ := fun _ _ v _ => v = .int .i64 (checkF ts)) (fun ρ w' r => check_c a n c ts w' (hT.up r.bel r.size) hS) ?_)
  rintro ρ w' v w2 r he hb rfl
  conv => whnf
  refine BrS.mk (fun h1 => ?_) (fun h1 => ?_)
  · have h1 : checkF ts ≠ 0 := by simpa using h1
    conv => whnf
    intro ρ w3 r
    exact ⟨_, rfl, hb.tr r.bel, none, 0, 0, [], rfl, fun h => absurd h h1⟩
  · have h1 : checkF ts = 0 := by simpa using h1
    have hO := checkF_zero h1
    conv => whnf
    refine callE_S (callE_con (Φ := fun _ w' v w2 => SortedB ts w'.heap.size v w2) (fun ρ w' r => sorted_c a n c ts w' (hT.up (hb.tr r.bel) (by have := r.size; have := hb.size; omega)) hS hO.rng) ?_)
    rintro ρ3 w3 v w4 r3 he3 hb3 ⟨a', n', c', out, e, rfl, hc⟩
    have hb4 := hb.tr hb3
    rcases hc with ⟨rfl, h2, h3⟩ | ⟨rfl, h3⟩
    · conv => whnf
      intro ρ w5 r
      exact ⟨_, rfl, hb4.tr r.bel, a', n', c', out, by rw [h1]; rfl, fun _ => ⟨h2.re (fun k _ hk => r.nilBy.block k hk (by simp)) (by have := hb.size; have := r3.size; omega) r.size, h3⟩⟩
    · obtain ⟨l, hl⟩ := hO.topo
      exact absurd hl (h3 l)

noncomputable def accF (ts : List Tk) (order : List Int) : Int × Int := if checkF ts = 0 then acceptF ts order else (0, checkF ts)
theorem acc_c (a a2 : Option Addr) (n c n2 c2 : Nat) (ts : List Tk) (order : List Int) (w : World) (hT : TasksB w w.heap.size a n ts) (hO : IntsB w w.heap.size a2 n2 order) (hS : Sml ts) :
    Con Try.prog 9 #[.slice a n c, .slice a2 n2 c2] w (Ret w fun v _ => v = .tuple #[.int .i64 (accF ts order).1, .int .i64 (accF ts order).2]) := by
  refine ⟨ent9, calls_f Try.func9 (by rfl) (by simp) (by rfl) ?_⟩
  conv => whnf
  refine callE_S (callE_con (Φ := fun _ _ v _ => v = .int .i64 (checkF ts)) (fun ρ w' r => check_c a n c ts w' (hT.up r.bel r.size) hS) ?_)
  rintro ρ w' v w2 r he hb rfl
  conv => whnf
  refine BrS.mk (fun h1 => ?_) (fun h1 => ?_)
  · have h1 : checkF ts ≠ 0 := by simpa using h1
    conv => whnf
    intro ρ w3 r
    exact ⟨_, rfl, hb.tr r.bel, by rw [accF, if_neg h1]; rfl⟩
  · have h1 : checkF ts = 0 := by simpa using h1
    have hO2 := checkF_zero h1
    conv => whnf
    refine callE_S (callE_con (Φ := fun _ _ v _ => v = .tuple #[.int .i64 (acceptF ts order).1, .int .i64 (acceptF ts order).2]) (fun ρ w' r => by
      have hs := r.size
      have hs2 := hb.size
      exact accept_c a a2 n c n2 c2 ts order w' (hT.up (hb.tr r.bel) (by omega)) (hO.up (hb.tr r.bel) (by omega)) hO2.rng (by have := hT.len; have := hS.1; omega)) ?_)
    rintro ρ3 w3 v w4 r3 he3 hb3 rfl
    conv => whnf
    intro ρ w5 r
    exact ⟨_, rfl, (hb.tr hb3).tr r.bel, by rw [accF, if_pos h1]; rfl⟩

end Go.Er
