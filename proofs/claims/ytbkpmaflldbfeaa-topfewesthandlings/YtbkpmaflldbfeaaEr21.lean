/- A part of the proof of TopFewestHandlings: contracts of functions of package erection, part 21. Their conditions stand in the theorems. -/
import Derived.Test.YtbkpmaflldbfeaaEr20
namespace Go.Er
open Go Go.Sx Go.Proofs

theorem ofInt_nat (x : Nat) : BitVec.ofInt 64 (x : Int) = BitVec.ofNat 64 x := by
  apply BitVec.eq_of_toNat_eq
  simp
theorem and64 {x y : Nat} (hx : x < 2 ^ 64) (hy : y < 2 ^ 64) : (BitVec.ofInt IntKind.u64.bits x &&& BitVec.ofInt IntKind.u64.bits y).toNat = x &&& y := by
  show (BitVec.ofInt 64 x &&& BitVec.ofInt 64 y).toNat = x &&& y
  rw [ofInt_nat, ofInt_nat, BitVec.toNat_and, BitVec.toNat_ofNat, BitVec.toNat_ofNat, Nat.mod_eq_of_lt hx, Nat.mod_eq_of_lt hy]
theorem or64 {x y : Nat} (hx : x < 2 ^ 64) (hy : y < 2 ^ 64) : (BitVec.ofInt IntKind.u64.bits x ||| BitVec.ofInt IntKind.u64.bits y).toNat = x ||| y := by
  show (BitVec.ofInt 64 x ||| BitVec.ofInt 64 y).toNat = x ||| y
  rw [ofInt_nat, ofInt_nat, BitVec.toNat_or, BitVec.toNat_ofNat, BitVec.toNat_ofNat, Nat.mod_eq_of_lt hx, Nat.mod_eq_of_lt hy]
theorem andNot64 {x y : Nat} (hx : x < 2 ^ 64) (hy : y < 2 ^ 64) : (BitVec.ofInt IntKind.u64.bits x &&& ~~~BitVec.ofInt IntKind.u64.bits y).toNat < 2 ^ 64 ∧
    ((BitVec.ofInt IntKind.u64.bits x &&& ~~~BitVec.ofInt IntKind.u64.bits y).toNat = 0 ↔ ∀ j, x.testBit j = true → y.testBit j = true) := by
  refine ⟨BitVec.isLt _, ?_⟩
  show (BitVec.ofInt 64 x &&& ~~~BitVec.ofInt 64 y).toNat = 0 ↔ _
  rw [ofInt_nat, ofInt_nat]
  constructor
  · intro h j hj
    have h1 : (BitVec.ofNat 64 x &&& ~~~BitVec.ofNat 64 y) = 0#64 := BitVec.eq_of_toNat_eq (by simpa using h)
    have hj64 : j < 64 := by
      apply Decidable.byContradiction
      intro hn
      rw [Nat.testBit_lt_two_pow (Nat.lt_of_lt_of_le hx (Nat.pow_le_pow_right (by decide) (by omega)))] at hj
      cases hj
    have h2 := congrArg (fun b => b.getLsbD j) h1
    simp only [BitVec.getLsbD_and, BitVec.getLsbD_not, BitVec.getLsbD_ofNat, hj64, hj, decide_true, Bool.true_and, BitVec.getLsbD_zero] at h2
    simpa using h2
  · intro h
    have : (BitVec.ofNat 64 x &&& ~~~BitVec.ofNat 64 y) = 0#64 := by
      apply BitVec.eq_of_getLsbD_eq
      intro j hj
      simp only [BitVec.getLsbD_and, BitVec.getLsbD_not, BitVec.getLsbD_ofNat, hj, decide_true, Bool.true_and, BitVec.getLsbD_zero]
      have := h j
      cases hx : x.testBit j <;> simp_all
    rw [this]
    rfl
theorem shl64 {k : Nat} (hk : k < 63) : IntKind.u64.wrap (1 * 2 ^ min (k : Int).toNat IntKind.u64.bits) = ((2 ^ k : Nat) : Int) := by
  have h1 : min (k : Int).toNat IntKind.u64.bits = k := by show min (k : Int).toNat 64 = k; omega
  rw [h1]
  have h2 : (2 : Nat) ^ k < 2 ^ 63 := Nat.pow_lt_pow_right (by decide) hk
  have h3 : ((1 : Int) * 2 ^ k) = ((2 ^ k : Nat) : Int) := by simp
  rw [h3]
  generalize (2 : Nat) ^ k = p at h2
  rw [wrapU64 (by omega) (by omega)]
theorem shr64 {x k : Nat} (hk : k < 63) : ((x : Int)).fdiv (2 ^ min (k : Int).toNat IntKind.u64.bits) = ((x >>> k : Nat) : Int) := by
  have h1 : min (k : Int).toNat IntKind.u64.bits = k := by show min (k : Int).toNat 64 = k; omega
  rw [h1, Int.fdiv_eq_ediv_of_nonneg _ (by exact Int.le_of_lt (Int.pow_pos (by decide))), Nat.shiftRight_eq_div_pow]
  simp

structure U64B (w : World) (B : Nat) (a : Option Addr) (n : Nat) (xs : List Nat) : Prop where
  len : n = xs.length
  cell : ∀ (j : Nat) x, xs[j]? = some x → ∃ ad, a = some ad ∧ CellB w B (ad.add j) (.int .u64 x)
theorem U64B.up {w w2 : World} {B B2 : Nat} {a : Option Addr} {n : Nat} {xs : List Nat} (h : U64B w B a n xs) (k : Bel B w w2) (hB : B ≤ B2) : U64B w2 B2 a n xs :=
  ⟨h.len, fun j x hx => by obtain ⟨ad, h1, h2⟩ := h.cell j x hx; exact ⟨ad, h1, h2.up k hB⟩⟩

theorem full_c (a b : Option Addr) (n c m cb : Nat) (w : World) (hn : n ≤ 8) :
    Con Try.prog 14 #[.agg #[.slice a n c, .slice b m cb]] w (Ret w fun v _ => v = .int .u64 ((2 ^ n - 1 : Nat) : Int)) := by
  refine ⟨ent14, calls_f Try.func14 (by rfl) (by simp) (by rfl) ?_⟩
  have h1 : 1 ≤ 2 ^ n := Nat.one_le_two_pow
  have h2 : 2 ^ n ≤ 2 ^ 8 := Nat.pow_le_pow_right (by decide) hn
  conv => whnf
  refine ⟨by omega, ((2 ^ n : Nat) : Int), shl64 (by omega), ?_⟩
  conv => whnf
  refine ⟨((2 ^ n - 1 : Nat) : Int), by rw [wrapU64] <;> omega, ?_⟩
  conv => whnf
  intro ρ w3 r
  exact ⟨_, rfl, r.bel, rfl⟩

theorem can_c (a b : Option Addr) (n c m cb : Nat) (bits : List Nat) (x y : Nat) (k : Nat) (w : World) (hU : U64B w w.heap.size b m bits) (hx : x < 256) (hy : bits[k]? = some y) (hy2 : y < 256) (hk : k < 8) :
    Con Try.prog 15 #[.agg #[.slice a n c, .slice b m cb], .int .u64 x, .int .i64 k] w (Ret w fun v _ => v = .bool (!x.testBit k && (List.range 8).all fun j => !y.testBit j || x.testBit j)) := by
  refine ⟨ent15, calls_f Try.func15 (by rfl) (by simp) (by rfl) ?_⟩
  have hkm : k < m := by have := (List.getElem?_eq_some_iff.1 hy).1; have := hU.len; omega
  conv => whnf
  refine ⟨by omega, ((x >>> k : Nat) : Int), shr64 (by omega), ?_⟩
  conv => whnf
  have hxk : x >>> k < 256 := by rw [Nat.shiftRight_eq_div_pow]; exact Nat.lt_of_le_of_lt (Nat.div_le_self _ _) hx
  refine ⟨((x >>> k &&& 1 : Nat) : Int), ?_, ?_⟩
  · have := and64 (x := x >>> k) (y := 1) (by omega) (by omega)
    rw [show (1 : Int) = ((1 : Nat) : Int) from rfl, this, wrapU64] <;> have := Nat.and_le_right (n := x >>> k) (m := 1) <;> omega
  conv => whnf
  have hbit : x >>> k &&& 1 = 0 ↔ x.testBit k = false := by
    rw [Nat.testBit, Nat.and_comm]
    simp
  refine BrS.mk (fun h => ?_) (fun h => ?_)
  · have h : x.testBit k = false := by
      have : ((x >>> k &&& 1 : Nat) : Int) = 0 := eq_of_beq h
      exact hbit.1 (by omega)
    rw [h, Bool.not_false, Bool.true_and]
    obtain ⟨ad, ha, hc⟩ := hU.cell _ _ hy
    conv => whnf
    refine ⟨ad, ha, ⟨by omega, by omega⟩, ?_⟩
    conv => whnf
    refine ⟨_, by simpa using hc.rel, ?_⟩
    conv => whnf
    obtain ⟨h1, h2⟩ := andNot64 (x := y) (y := x) (by omega) (by omega)
    generalize (BitVec.ofInt IntKind.u64.bits y &&& ~~~BitVec.ofInt IntKind.u64.bits x).toNat = z at h1 h2
    refine ⟨(z : Int), by rw [wrapU64] <;> omega, ?_⟩
    conv => whnf
    intro ρ w3 r
    refine ⟨_, rfl, r.bel, ?_⟩
    have : ((z : Int) == 0) = (List.range 8).all fun j => !y.testBit j || x.testBit j := by
      rw [Bool.eq_iff_iff, beq_iff_eq, List.all_eq_true]
      rw [show ((z : Int) = 0 ↔ z = 0) by omega, h2]
      constructor
      · intro h j _
        have := h j
        cases hy : y.testBit j <;> simp_all
      · intro h j hj
        have hj8 : j < 8 := by
          apply Decidable.byContradiction
          intro hn
          rw [Nat.testBit_lt_two_pow (Nat.lt_of_lt_of_le (m := 2 ^ 8) (by omega) (Nat.pow_le_pow_right (by decide) (by omega)))] at hj
          cases hj
        have := h j (List.mem_range.2 hj8)
        simp_all
    rw [← this]
    rfl
  · have h : x.testBit k = true := by
      have : ¬ ((x >>> k &&& 1 : Nat) : Int) = 0 := by simpa using h
      cases hb : x.testBit k
      · exact absurd (hbit.2 hb) (by omega)
      · rfl
    rw [h, Bool.not_true, Bool.false_and]
    conv => whnf
    intro ρ w3 r
    exact ⟨_, rfl, r.bel, rfl⟩
end Go.Er
