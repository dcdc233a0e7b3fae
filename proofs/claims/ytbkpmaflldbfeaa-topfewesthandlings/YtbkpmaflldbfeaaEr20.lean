/- A part of the proof of TopFewestHandlings: contracts of functions of package erection, part 20. Their conditions stand in the theorems. -/
import Derived.Test.YtbkpmaflldbfeaaEr19
namespace Go.Er
open Go Go.Sx Go.Proofs

theorem acceptGo_congr {ts rs : List Tk} (h : ts.map Tk.needs = rs.map Tk.needs) : ∀ (os : List Int) (i : Nat) (bs : List Bool), acceptGo ts os i bs = acceptGo rs os i bs
  | [], i, bs => by
    have : ts.length = rs.length := by have := congrArg List.length h; simpa using this
    rw [acceptGo, acceptGo, this]
  | x :: r, i, bs => by
    have h1 : ts.length = rs.length := by have := congrArg List.length h; simpa using this
    have h2 : (ts[x.toNat]?).map Tk.needs = (rs[x.toNat]?).map Tk.needs := by rw [← List.getElem?_map, ← List.getElem?_map, h]
    rw [acceptGo, acceptGo, h1, h2, acceptGo_congr h r]
theorem acceptF_congr {ts rs : List Tk} (h : ts.map Tk.needs = rs.map Tk.needs) (os : List Int) : acceptF ts os = acceptF rs os := by
  unfold acceptF
  rw [acceptGo_congr h, show ts.length = rs.length by have := congrArg List.length h; simpa using this]
/-- a plan turned around, of which only the needs are told -/
def turnF (ts : List Tk) : List Tk := (usersF ts).map fun u => { (default : Tk) with needs := u }
noncomputable def disF (ts : List Tk) (order : List Int) : Int × Int := if checkF ts = 0 then acceptF (turnF ts) order else (0, checkF ts)
theorem addAll_len (i : Int) : ∀ (l : List Int) (us : List (List Int)), (addAll i l us).length = us.length
  | [], _ => rfl
  | k :: r, us => by rw [addAll, addAll_len i r]; simp
theorem usersGo_len : ∀ (r : List Tk) (i : Nat) (us : List (List Int)), (usersGo r i us).length = us.length
  | [], _, _ => rfl
  | t :: r, i, us => by rw [usersGo, usersGo_len r, addAll_len]
theorem usersF_len (ts : List Tk) : (usersF ts).length = ts.length := by rw [usersF, usersGo_len]; simp

theorem dismantles_c (ad : Addr) (a2 : Option Addr) (n c n2 c2 : Nat) (ts : List Tk) (order : List Int) (w : World) (hT : TasksB w w.heap.size (some ad) n ts) (hO : IntsB w w.heap.size a2 n2 order) (hS : Sml ts) (h0 : 0 < n) :
    Con Try.prog 12 #[.slice (some ad) n c, .slice a2 n2 c2] w (Ret w fun v _ => v = .tuple #[.int .i64 (disF ts order).1, .int .i64 (disF ts order).2]) := by
  refine ⟨ent12, calls_f Try.func12 (by rfl) (by simp) (by rfl) ?_⟩
  conv => whnf
  refine callE_S (callE_con (Φ := fun _ _ v w2 => RevB ts v w2) (fun ρ w' r => reverse_c ad n c ts w' (hT.up r.bel r.size) hS h0) ?_)
  rintro ρ w' v w2 r he hb ⟨x, rfl, hx⟩
  conv => whnf
  refine BrS.mk (fun h1 => ?_) (fun h1 => ?_)
  · have h1 : checkF ts ≠ 0 := by simpa using h1
    conv => whnf
    intro ρ w3 r
    exact ⟨_, rfl, hb.tr r.bel, by rw [disF, if_neg h1]; rfl⟩
  have h1 : checkF ts = 0 := by simpa using h1
  have hO2 := checkF_zero h1
  obtain ⟨g, cap, rts, rfl, hT2, hrn⟩ := hx h1
  have hN : ∀ t ∈ rts, ∀ k ∈ t.needs, 0 ≤ k ∧ k < rts.length := fun t ht k hk => by
    have hl : rts.length = ts.length := by have := congrArg List.length hrn; rw [usersF_len] at this; simpa using this
    obtain ⟨j, hj⟩ := List.mem_iff_getElem?.1 ht
    have hjl := (List.getElem?_eq_some_iff.1 hj).1
    obtain ⟨u, hu, _, hr⟩ := usersF_count hO2.rng (j := j) (by omega)
    have : (rts.map Tk.needs)[j]? = some t.needs := by rw [List.getElem?_map, hj]; rfl
    rw [hrn, hu] at this
    injection this with this
    rw [hl]
    exact hr k (this ▸ hk)
  conv => whnf
  refine callE_S (callE_con (Φ := fun _ _ v _ => v = .tuple #[.int .i64 (acceptF rts order).1, .int .i64 (acceptF rts order).2]) (fun ρ w' r' => by
    have hs := r.size
    have hs3 := he.size
    have hs2 := r'.size
    exact accept_c _ a2 _ _ n2 c2 rts order w' (hT2.up (Bel.grown r'.nilBy (by simp) (Nat.le_refl _)) r'.size) (hO.up (hb.tr r'.bel) (by omega)) hN (by have := hS.1; omega)) ?_)
  rintro ρ3 w3 v w4 r3 he3 hb3 rfl
  conv => whnf
  intro ρ w5 r
  refine ⟨_, rfl, (hb.tr hb3).tr r.bel, ?_⟩
  rw [disF, if_pos h1, ← acceptF_congr (ts := rts) (rs := turnF ts) (by rw [hrn, turnF, List.map_map]; exact (List.map_id _).symm)]
  rfl
end Go.Er
