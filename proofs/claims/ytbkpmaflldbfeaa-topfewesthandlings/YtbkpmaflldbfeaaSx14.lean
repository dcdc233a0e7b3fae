/- What a walk uses: readings of what was there, calls by contract, loops. -/
import Derived.Test.YtbkpmaflldbfeaaSx13
namespace Go.Sx
open Go

theorem Con.mono {P : Program} {g : Nat} {args : Array Value} {w : World} {R R' : Ending → World → Prop} (h : Con P g args w R) (k : ∀ e w2, R e w2 → R' e w2) : Con P g args w R' :=
  ⟨h.e, Calls.mono h.c k⟩

/-- what was there is as it was -/
abbrev Bel (B : Nat) (w w2 : World) : Prop := RowKit.Below B w w2
theorem Bel.refl {B : Nat} {w : World} : Bel B w w := RowKit.Below.refl _ _
theorem Rel.bel {H : Hp} {nx : Nat} {iv : Iv} {B : Nat} {w w' : World} {ρ : Nat → Val} (r : Rel H nx iv B w ρ w') : Bel B w w' :=
  ⟨r.os, r.tape, r.output, r.size, fun k hk => r.frm k (by have := r.base; omega) (fun id b h hn he => by have := (r.low id b h hn).1; omega)⟩
theorem Bel.tr {B : Nat} {a b c : World} (h : Bel B a b) (k : Bel B b c) : Bel B a c := RowKit.Below.trans h k
theorem Ext.bel {B : Nat} {a b : World} (h : Ext a b) (hB : B ≤ a.heap.size) : Bel B a b := RowKit.Below.mono h hB

end Go.Sx
namespace Go.RowKit
open Go Go.Sx
theorem Below.tr {B : Nat} {a b c : World} (h : RowKit.Below B a b) (k : RowKit.Below B b c) : RowKit.Below B a c := RowKit.Below.trans h k
end Go.RowKit
namespace Go.Sx
open Go
end Go.Sx
namespace Go.RowKit
open Go Go.Sx
theorem Below.bel {B : Nat} {a b : World} (h : RowKit.Below a.heap.size a b) (hB : B ≤ a.heap.size) : RowKit.Below B a b := RowKit.Below.mono h hB
end Go.RowKit
namespace Go.Sx
open Go
theorem cell_of_heap {w w2 : World} {a : Addr} (h : w2.heap[a.block]? = w.heap[a.block]?) : w2.cell? a = w.cell? a := by
  unfold World.cell?
  rw [h]
theorem Bel.cell {B : Nat} {w w2 : World} (h : Bel B w w2) {a : Addr} (ha : a.block < B) : w2.cell? a = w.cell? a := cell_of_heap (h.block _ ha)

/-- a cell of the caller's, below B -/
def CellB (w : World) (B : Nat) (a : Addr) (x : Value) : Prop := a.block < B ∧ w.cell? a = some x
theorem CellB.bel {B : Nat} {w w2 : World} {a : Addr} {x : Value} (h : CellB w B a x) (k : Bel B w w2) : CellB w2 B a x := ⟨h.1, by rw [k.cell h.1]; exact h.2⟩
theorem CellB.rel {H : Hp} {nx : Nat} {iv : Iv} {B : Nat} {w : World} {a : Addr} {x : Value} (h : CellB w B a x) : ∀ (ρ : Nat → Val) w', Rel H nx iv B w ρ w' → w'.cell? a = some x :=
  fun _ _ r => (h.bel r.bel).2

theorem callE_of {P : Program} {B g : Nat} {args : (Nat → Val) → Array Value} {H : Hp} {nx : Nat} {iv : Iv} {w : World} {K : SV → Hp → Iv → World → Prop}
    (h : ∀ ρ w', Rel H nx iv B w ρ w' → Con P g (args ρ) w' (fun e w2 => ∃ v, e = .returned v ∧ Ext w' w2 ∧ K (.o (.v v)) H ((w'.heap.size, w2.heap.size) :: iv) w2)) : CallE P B g args H nx iv w K := ⟨h⟩

/-- a loop's state is met -/
def SubE (l : Env) : Env → Prop
  | [] => True
  | (u, v) :: r => getE l u = some v ∧ SubE l r
theorem SubE.get {l : Env} : ∀ {t : Env}, SubE l t → ∀ u v, getE t u = some v → getE l u = some v
  | [], _, u, v, h => by cases h
  | (u0, v0) :: r, h, u, v, hg => by
    rw [getE_cons] at hg
    split at hg
    · rename_i e; subst e; injection hg with hg; subst hg; exact h.1
    · exact SubE.get h.2 u v hg
def ScE (n : Nat) : Env → Prop
  | [] => True
  | (_, v) :: r => v.sc n ∧ ScE n r
theorem ScE.get {n : Nat} : ∀ {t : Env}, ScE n t → ∀ u v, getE t u = some v → v.sc n
  | [], _, u, v, h => by cases h
  | (u0, v0) :: r, h, u, v, hg => by
    rw [getE_cons] at hg
    split at hg
    · injection hg with hg; subst hg; exact h.1
    · exact ScE.get h.2 u v hg
theorem Sub.of {B : Nat} {l tl : Env} {nx : Nat} {H : Hp} {iv : Iv} {w w' : World} {ρ : Nat → Val} (r : Rel H nx iv B w ρ w') (h1 : SubE l tl) (h2 : ScE nx tl) : Sub B l nx ρ w' ⟨tl, H, nx, iv, w⟩ :=
  ⟨ρ, r, fun u v hv => ⟨h2.get u v hv, v, h1.get u v hv, rfl⟩⟩
theorem Sub.here {B : Nat} {l tl : Env} {nx : Nat} {H : Hp} {iv : Iv} {w w' : World} {ρ : Nat → Val} (r : Rel H nx iv B w ρ w') (h1 : SubE l tl) (h2 : ScE nx tl) : Sub B l nx ρ w' ⟨tl, H, nx, iv, w'⟩ :=
  ⟨ρ, r.here, fun u v hv => ⟨h2.get u v hv, v, h1.get u v hv, rfl⟩⟩

theorem Rel.noIv {H : Hp} {nx : Nat} {iv : Iv} {B : Nat} {w w' : World} {ρ : Nat → Val} (r : Rel H nx iv B w ρ w') : Rel H nx [] B w ρ w' :=
  Rel.mk' r.os r.tape r.output r.size r.base (by simp) r.keys (fun id b h => r.fits h) (fun id b h => r.scopd h) r.inj r.low r.frm (by simp)
theorem Sub.reset {B : Nat} {l tl : Env} {nx : Nat} {H : Hp} {iv : Iv} {w w' : World} {ρ : Nat → Val} (r : Rel H nx iv B w ρ w') (h1 : SubE l tl) (h2 : ScE nx tl) : Sub B l nx ρ w' ⟨tl, H, nx, [], w'⟩ :=
  ⟨ρ, r.here.noIv, fun u v hv => ⟨h2.get u v hv, v, h1.get u v hv, rfl⟩⟩
/-- what a call that leaves all that was there hands back -/
def Ret (w : World) (Φ : Value → World → Prop) (e : Ending) (w2 : World) : Prop := ∃ v, e = .returned v ∧ Ext w w2 ∧ Φ v w2
theorem callE_con {P : Program} {B g : Nat} {args : (Nat → Val) → Array Value} {H : Hp} {nx : Nat} {iv : Iv} {w : World} {K : SV → Hp → Iv → World → Prop} {Φ : (Nat → Val) → World → Value → World → Prop}
    (h : ∀ ρ w', Rel H nx iv B w ρ w' → Con P g (args ρ) w' (Ret w' (Φ ρ w'))) (hK : ∀ ρ w' v w2, Rel H nx iv B w ρ w' → Ext w' w2 → Bel B w w2 → Φ ρ w' v w2 → K (.o (.v v)) H ((w'.heap.size, w2.heap.size) :: iv) w2) : CallE P B g args H nx iv w K :=
  ⟨fun ρ w' r => (h ρ w' r).mono fun e w2 ⟨v, h1, h2, h3⟩ => ⟨v, h1, h2, hK ρ w' v w2 r h2 (r.bel.tr (h2.bel (by have := r.base; have := r.size; omega))) h3⟩⟩

/-! ### integers -/
theorem wrap64 {n : Int} (h1 : -9223372036854775808 ≤ n) (h2 : n ≤ 9223372036854775807) : IntKind.wrap .i64 n = n := by
  have e1 : (2 : Int) ^ 64 = 18446744073709551616 := by decide
  have e2 : (2 : Int) ^ (64 - 1) = 9223372036854775808 := by decide
  simp only [IntKind.wrap, IntKind.bits, IntKind.signed, e1, e2]
  by_cases h : n % 18446744073709551616 ≥ 9223372036854775808
  · rw [if_pos (by simp [h])]; omega
  · rw [if_neg (by simp [h])]; omega
theorem wrapU64 {n : Int} (h1 : 0 ≤ n) (h2 : n < 18446744073709551616) : IntKind.wrap .u64 n = n := by
  have e1 : (2 : Int) ^ 64 = 18446744073709551616 := by decide
  simp only [IntKind.wrap, IntKind.bits, IntKind.signed, e1, Bool.false_and, Bool.false_eq_true, if_false]
  omega
theorem wrapU32 {n : Int} (h1 : 0 ≤ n) (h2 : n < 4294967296) : IntKind.wrap .u32 n = n := by
  have e1 : (2 : Int) ^ 32 = 4294967296 := by decide
  simp only [IntKind.wrap, IntKind.bits, IntKind.signed, e1, Bool.false_and, Bool.false_eq_true, if_false]
  omega
end Go.Sx
