/- A part of the proof of TopFewestHandlings: contracts of functions of package erection, part 3. Their conditions stand in the theorems. -/
import Derived.Test.YtbkpmaflldbfeaaEr2
namespace Go.Er
open Go Go.Sx Go.Proofs

theorem IntsB.up {w w2 : World} {B B2 : Nat} {a : Option Addr} {n : Nat} {xs : List Int} (h : IntsB w B a n xs) (k : Bel B w w2) (hB : B ≤ B2) : IntsB w2 B2 a n xs :=
  ⟨h.len, h.le, fun j x hx => by obtain ⟨ad, h1, h2⟩ := h.cell j x hx; exact ⟨ad, h1, by have := h2.1; omega, (h2.bel k).2⟩⟩
end Go.Er
namespace Go.Sx
open Go Go.Er Go.Proofs
theorem CellB.up {w w2 : World} {B B2 : Nat} {a : Addr} {x : Value} (h : CellB w B a x) (k : Bel B w w2) (hB : B ≤ B2) : CellB w2 B2 a x := ⟨by have := h.1; omega, (h.bel k).2⟩
end Go.Sx
namespace Go.Er
open Go Go.Sx Go.Proofs

end Go.Er
namespace Go.Sx
open Go Go.Er Go.Proofs
/-- a box of one's own, seen from a call -/
theorem Rel.cellBox {H : Hp} {nx : Nat} {iv : Iv} {B : Nat} {w w' : World} {ρ : Nat → Val} (r : Rel H nx iv B w ρ w') {id t : Nat} {cs : List At} (h : getH H id = some (.box t cs)) {i : Nat} {x : At} (hx : cs[i]? = some x) :
    CellB w' w'.heap.size ⟨(ρ id).g, i, none⟩ (x.den ρ) := by
  have h1 := r.box id t cs h
  refine ⟨(r.low id _ h (r.nn id _ h (by intros; simp) (by simp))).2, ?_⟩
  have h1 : w'.heap[(ρ id).g]? = some (.cells (cs.map (At.den ρ)).toArray t (0, 0)) := h1
  rw [cell_of h1]
  simp [hx]
end Go.Sx
namespace Go.Er
open Go Go.Sx Go.Proofs
end Go.Er
namespace Go.Sx
open Go Go.Er Go.Proofs
theorem Rel.cellArr {H : Hp} {nx : Nat} {iv : Iv} {B : Nat} {w w' : World} {ρ : Nat → Val} (r : Rel H nx iv B w ρ w') {id t : Nat} {cs : List Value} (h : getH H id = some (.arr t cs)) {i : Nat} {x : Value} (hx : cs[i]? = some x) :
    CellB w' w'.heap.size ⟨(ρ id).g, i, none⟩ x := by
  have h1 := r.arr id t cs h
  refine ⟨(r.low id _ h (r.nn id _ h (by intros; simp) (by simp))).2, ?_⟩
  rw [cell_of h1]; exact hx
end Go.Sx
namespace Go.Er
open Go Go.Sx Go.Proofs

theorem listed1_c (x m : Int) (ad : Addr) (w : World) (hc : CellB w w.heap.size ad (.int .i64 m)) (h0 : 0 ≤ m) (h1 : m ≤ 9223372036854775807) :
    Con Try.prog 31 #[.int .i64 x, .pointer (some ad)] w (Ret w fun v _ => v = .bool (!(decide (0 ≤ x) && decide (x ≤ m - 1)))) := by
  refine ⟨ent31, calls_f Try.func31 (by rfl) (by simp) (by rfl) ?_⟩
  conv => whnf
  refine ⟨_, hc.rel, ?_⟩
  conv => whnf
  refine ⟨m - 1, by rw [wrap64] <;> omega, ?_⟩
  conv => whnf
  refine callE_S (callE_con (Φ := fun _ _ v _ => v = .bool (decide (0 ≤ x) && decide (x ≤ m - 1))) (fun ρ w' r => within_c x 0 (m - 1) w') ?_)
  rintro ρ w' v w2 r he hb rfl
  conv => whnf
  intro ρ' w3 r'
  exact ⟨_, rfl, hb.tr r'.bel, rfl⟩

def outB (m : Int) (x : Int) : Bool := !(decide (0 ≤ x) && decide (x ≤ m - 1))
def listedF (xs : List Int) (m : Int) : Int := match xs.any (outB m) with
  | true => 6
  | false => match risingB xs with
    | true => 0
    | false => 10

theorem listed_c (a : Option Addr) (n c : Nat) (xs : List Int) (m : Int) (w : World) (hI : IntsB w w.heap.size a n xs) (h0 : 0 ≤ m) (h1 : m ≤ 9223372036854775807) :
    Con Try.prog 24 #[.slice a n c, .int .i64 m] w (Ret w fun v _ => v = .int .i64 (listedF xs m)) := by
  refine ⟨ent24, calls_f Try.func24 (by rfl) (by simp) (by rfl) ?_⟩
  conv => whnf
  refine callE_S (callE_con (Φ := fun _ _ v _ => v = .bool (xs.any (outB m))) (fun ρ w' r => ?_) ?_)
  · refine containsFunc_c a n c xs 31 #[.pointer (some ⟨(ρ 0).g, 0, none⟩)] (outB m) w' (hI.up r.bel r.size) (fun x hx w1 hw => ?_)
    have hcell := r.cellBox (id := 0) (i := 0) rfl rfl
    exact listed1_c x m _ w1 (hcell.up hw hw.size) h0 h1
  · rintro ρ w' v w2 r he hb rfl
    conv => whnf
    refine BrS.mk (fun h => ?_) (fun h => ?_)
    · conv => whnf
      intro ρ' w3 r'
      refine ⟨_, rfl, hb.tr r'.bel, ?_⟩
      simp only [listedF, h]
      rfl
    · conv => whnf
      refine callE_S (callE_con (Φ := fun _ _ v _ => v = .bool (risingB xs)) (fun ρ w' r' => rising_c a n c xs w' (hI.up (hb.tr r'.bel) (by have := r.size; have := he.size; have := r'.size; omega))) ?_)
      rintro ρ3 w3 v w4 r3 he3 hb3 rfl
      conv => whnf
      refine BrS.mk (fun h2 => ?_) (fun h2 => ?_)
      · conv => whnf
        intro ρ' w3 r'
        refine ⟨_, rfl, (hb.tr hb3).tr r'.bel, ?_⟩
        have h2 : risingB xs = false := by simpa using h2
        simp only [listedF, h, h2]
        rfl
      · conv => whnf
        intro ρ' w3 r'
        refine ⟨_, rfl, (hb.tr hb3).tr r'.bel, ?_⟩
        have h2 : risingB xs = true := by simpa using h2
        simp only [listedF, h, h2]
        rfl

/-! ### plans -/
structure Tk where
  name : ByteArray
  trade : ByteArray
  member : Int
  place : Int
  minutes : Int
  na : Option Addr
  nn : Nat
  nc : Nat
  needs : List Int
def Tk.cells (t : Tk) : List Value := [.string t.name, .string t.trade, .int .i64 t.member, .int .i64 t.place, .int .i64 t.minutes, .slice t.na t.nn t.nc]
structure TasksB (w : World) (B : Nat) (a : Option Addr) (n : Nat) (ts : List Tk) : Prop where
  len : n = ts.length
  le : n ≤ 9223372036854775807
  cell : ∀ (j : Nat) (t : Tk), ts[j]? = some t → ∃ ad, a = some ad ∧ ∀ k x, t.cells[k]? = some x → CellB w B ((ad.add (j * 6)).add k) x
  needs : ∀ (j : Nat) (t : Tk), ts[j]? = some t → IntsB w B t.na t.nn t.needs
theorem TasksB.up {w w2 : World} {B B2 : Nat} {a : Option Addr} {n : Nat} {ts : List Tk} (h : TasksB w B a n ts) (k : Bel B w w2) (hB : B ≤ B2) : TasksB w2 B2 a n ts :=
  ⟨h.len, h.le, fun j t ht => by obtain ⟨ad, h1, h2⟩ := h.cell j t ht; exact ⟨ad, h1, fun i x hx => (h2 i x hx).up k hB⟩, fun j t ht => (h.needs j t ht).up k hB⟩
end Go.Er
