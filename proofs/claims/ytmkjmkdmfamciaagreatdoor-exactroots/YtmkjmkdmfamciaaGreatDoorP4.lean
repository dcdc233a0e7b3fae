/- A part of the proof: texts X2 to X12. Each tells its conditions in its theorems. -/
import Derived.Test.YtmkjmkdmfamciaaGreatDoorP3
/- Carries and borrows; comparison, sum and difference of natural numbers of package exact. No condition. -/
namespace Go.Ex
open Go Go.Sx Go.Proofs

theorem wrapU64n {n : Nat} (h : n < 18446744073709551616) : IntKind.u64.wrap (n : Int) = (n : Int) := wrapU64 (by omega) (by omega)
theorem wrapU32n (n : Nat) : IntKind.u32.wrap (n : Int) = ((n % 4294967296 : Nat) : Int) := by
  show ((n : Int) % 4294967296) = _
  omega
theorem ofInt32 (x : Nat) : BitVec.ofInt 32 (x : Int) = BitVec.ofNat 32 x := by
  apply BitVec.eq_of_toNat_eq
  simp
theorem and_lt32 {y : Nat} (x : Nat) (hy : y < 4294967296) : x &&& y < 4294967296 := Nat.lt_of_le_of_lt Nat.and_le_right hy
theorem xor_lt32 {x y : Nat} (hx : x < 4294967296) (hy : y < 4294967296) : x ^^^ y < 4294967296 := Nat.xor_lt_two_pow (n := 32) hx hy
theorem or_lt32 {x y : Nat} (hx : x < 4294967296) (hy : y < 4294967296) : x ||| y < 4294967296 := Nat.or_lt_two_pow (n := 32) hx hy
theorem and32 {x y : Nat} (hx : x < 4294967296) (hy : y < 4294967296) : IntKind.u32.wrap ((BitVec.ofInt IntKind.u32.bits x &&& BitVec.ofInt IntKind.u32.bits y).toNat : Int) = ((x &&& y : Nat) : Int) := by
  show IntKind.u32.wrap ((BitVec.ofInt 32 x &&& BitVec.ofInt 32 y).toNat : Int) = _
  rw [ofInt32, ofInt32, BitVec.toNat_and, BitVec.toNat_ofNat, BitVec.toNat_ofNat, Nat.mod_eq_of_lt hx, Nat.mod_eq_of_lt hy, wrapU32n, Nat.mod_eq_of_lt (and_lt32 x hy)]
theorem or32 {x y : Nat} (hx : x < 4294967296) (hy : y < 4294967296) : IntKind.u32.wrap ((BitVec.ofInt IntKind.u32.bits x ||| BitVec.ofInt IntKind.u32.bits y).toNat : Int) = ((x ||| y : Nat) : Int) := by
  show IntKind.u32.wrap ((BitVec.ofInt 32 x ||| BitVec.ofInt 32 y).toNat : Int) = _
  rw [ofInt32, ofInt32, BitVec.toNat_or, BitVec.toNat_ofNat, BitVec.toNat_ofNat, Nat.mod_eq_of_lt hx, Nat.mod_eq_of_lt hy, wrapU32n, Nat.mod_eq_of_lt (or_lt32 hx hy)]
theorem xor32 {x y : Nat} (hx : x < 4294967296) (hy : y < 4294967296) : IntKind.u32.wrap ((BitVec.ofInt IntKind.u32.bits x ^^^ BitVec.ofInt IntKind.u32.bits y).toNat : Int) = ((x ^^^ y : Nat) : Int) := by
  show IntKind.u32.wrap ((BitVec.ofInt 32 x ^^^ BitVec.ofInt 32 y).toNat : Int) = _
  rw [ofInt32, ofInt32, BitVec.toNat_xor, BitVec.toNat_ofNat, BitVec.toNat_ofNat, Nat.mod_eq_of_lt hx, Nat.mod_eq_of_lt hy, wrapU32n, Nat.mod_eq_of_lt (xor_lt32 hx hy)]
theorem not32 {x : Nat} (hx : x < 4294967296) : IntKind.u32.wrap ((BitVec.ofInt IntKind.u32.bits (if IntKind.u32.signed = true then -1 else IntKind.u32.max) ^^^ BitVec.ofInt IntKind.u32.bits x).toNat : Int) = ((4294967295 ^^^ x : Nat) : Int) :=
  xor32 (x := 4294967295) (by decide) hx
theorem fdiv_shr {x : Nat} (k : Nat) (hk : k ≤ 63) : (x : Int).fdiv (2 ^ min (Int.toNat (k : Int)) IntKind.u64.bits) = ((x / 2 ^ k : Nat) : Int) := by
  have h1 : min (Int.toNat (k : Int)) IntKind.u64.bits = k := by show min (Int.toNat (k : Int)) 64 = k; omega
  rw [h1, Int.fdiv_eq_ediv_of_nonneg _ (by exact Int.le_of_lt (Int.pow_pos (by decide)))]
  simp
theorem fdiv_shr32 {x : Nat} (k : Nat) (hk : k ≤ 31) : (x : Int).fdiv (2 ^ min (Int.toNat (k : Int)) IntKind.u32.bits) = ((x / 2 ^ k : Nat) : Int) := by
  have h1 : min (Int.toNat (k : Int)) IntKind.u32.bits = k := by show min (Int.toNat (k : Int)) 32 = k; omega
  rw [h1, Int.fdiv_eq_ediv_of_nonneg _ (by exact Int.le_of_lt (Int.pow_pos (by decide)))]
  simp
theorem tb31 {z : Nat} (h : z < 4294967296) : z.testBit 31 = decide (2147483648 ≤ z) := by
  rw [Nat.testBit_eq_decide_div_mod_eq]
  apply decide_eq_decide.2
  show z / 2147483648 % 2 = 1 ↔ _
  omega
theorem borrow {x y c d : Nat} (hx : x < 4294967296) (hy : y < 4294967296) (hc : c ≤ 1) (hd : (x + 4294967296 - (y + c)) % 4294967296 = d) :
    (((4294967295 ^^^ x) &&& y) ||| ((4294967295 ^^^ (x ^^^ y)) &&& d)) / 2 ^ 31 = if x < y + c then 1 else 0 := by
  have hd2 : d < 4294967296 := by omega
  have hz := or_lt32 (and_lt32 (4294967295 ^^^ x) hy) (and_lt32 (4294967295 ^^^ (x ^^^ y)) hd2)
  have ht := tb31 hz
  have hm : Nat.testBit 4294967295 31 = true := by decide
  rw [Nat.testBit_or, Nat.testBit_and, Nat.testBit_and, Nat.testBit_xor, Nat.testBit_xor, Nat.testBit_xor, hm, tb31 hx, tb31 hy, tb31 hd2] at ht
  generalize (((4294967295 ^^^ x) &&& y) ||| ((4294967295 ^^^ (x ^^^ y)) &&& d)) = z at hz ht
  show z / 2147483648 = _
  by_cases h1 : 2147483648 ≤ x <;> by_cases h2 : 2147483648 ≤ y <;> by_cases h3 : 2147483648 ≤ d <;> simp [h1, h2, h3] at ht <;> split <;> omega
theorem add32_c (x y c : Nat) (w : World) (hx : x < 4294967296) (hy : y < 4294967296) (hc : c < 4294967296) :
    Con PG N.bits_Add32 #[.int .u32 x, .int .u32 y, .int .u32 c] w (Ret w fun v _ => v = .tuple #[.int .u32 ((x + y + c) % 4294967296 : Nat), .int .u32 ((x + y + c) / 4294967296 : Nat)]) := by
  refine in_bits_Add32 (by simp) ?_
  conv => whnf
  refine ⟨(x : Int), wrapU64n (by omega), ?_⟩
  conv => whnf
  refine ⟨(y : Int), wrapU64n (by omega), ?_⟩
  conv => whnf
  refine ⟨((x + y : Nat) : Int), by rw [wrapU64] <;> omega, ?_⟩
  conv => whnf
  refine ⟨(c : Int), wrapU64n (by omega), ?_⟩
  conv => whnf
  refine ⟨((x + y + c : Nat) : Int), by rw [wrapU64] <;> omega, ?_⟩
  conv => whnf
  refine ⟨(((x + y + c) % 4294967296 : Nat) : Int), wrapU32n _, ?_⟩
  conv => whnf
  refine ⟨by decide, (((x + y + c) / 4294967296 : Nat) : Int), ?_, ?_⟩
  · exact fdiv_shr 32 (by decide)
  conv => whnf
  refine ⟨(((x + y + c) / 4294967296 : Nat) : Int), by rw [wrapU32n]; omega, ?_⟩
  conv => whnf
  intro ρ w3 r
  exact ⟨_, rfl, r.bel, rfl⟩
theorem sub32_c (x y c : Nat) (w : World) (hx : x < 4294967296) (hy : y < 4294967296) (hc : c ≤ 1) :
    Con PG N.bits_Sub32 #[.int .u32 x, .int .u32 y, .int .u32 c] w (Ret w fun v _ => v = .tuple #[.int .u32 ((x + 4294967296 - (y + c)) % 4294967296 : Nat), .int .u32 ((if x < y + c then 1 else 0 : Nat) : Int)]) := by
  refine in_bits_Sub32 (by simp) ?_
  conv => whnf
  refine ⟨((x + 4294967296 - y) % 4294967296 : Nat), ?_, ?_⟩
  · show ((x : Int) - y) % 4294967296 = _
    omega
  conv => whnf
  refine ⟨((x + 4294967296 - (y + c)) % 4294967296 : Nat), ?_, ?_⟩
  · show ((((x + 4294967296 - y) % 4294967296 : Nat) : Int) - c) % 4294967296 = _
    omega
  conv => whnf
  have h6 : (x + 4294967296 - (y + c)) % 4294967296 < 4294967296 := Nat.mod_lt _ (by decide)
  generalize hd : (x + 4294967296 - (y + c)) % 4294967296 = d at h6
  refine ⟨((4294967295 ^^^ x : Nat) : Int), not32 hx, ?_⟩
  conv => whnf
  refine ⟨(((4294967295 ^^^ x) &&& y : Nat) : Int), and32 (xor_lt32 (by decide) hx) hy, ?_⟩
  conv => whnf
  refine ⟨((x ^^^ y : Nat) : Int), xor32 hx hy, ?_⟩
  conv => whnf
  refine ⟨((4294967295 ^^^ (x ^^^ y) : Nat) : Int), not32 (xor_lt32 hx hy), ?_⟩
  conv => whnf
  refine ⟨(((4294967295 ^^^ (x ^^^ y)) &&& d : Nat) : Int), and32 (xor_lt32 (by decide) (xor_lt32 hx hy)) h6, ?_⟩
  conv => whnf
  refine ⟨((((4294967295 ^^^ x) &&& y) ||| ((4294967295 ^^^ (x ^^^ y)) &&& d) : Nat) : Int), or32 (and_lt32 _ hy) (and_lt32 _ h6), ?_⟩
  conv => whnf
  refine ⟨by decide, ((if x < y + c then 1 else 0 : Nat) : Int), ?_, ?_⟩
  · rw [← borrow hx hy hc hd]
    exact fdiv_shr32 31 (by decide)
  conv => whnf
  intro ρ w3 r
  exact ⟨_, rfl, r.bel, rfl⟩
end Go.Ex

/- Comparison, sum and difference of natural numbers of package exact. No condition. -/
namespace Go.Ex
open Go Go.Sx Go.Proofs

def cmpN (n m : Nat) : Int := if n < m then -1 else if m < n then 1 else 0
theorem lt_at {a b : List Nat} {i x y : Nat} (ha : Lm a) (hl : a.length = b.length) (hx : a[i]? = some x) (hy : b[i]? = some y) (h : a.drop (i + 1) = b.drop (i + 1)) (hlt : x < y) : val a < val b := by
  have hi := (List.getElem?_eq_some_iff.1 hx).1
  have h1 := val_take_drop a i (by omega)
  have h2 := val_take_drop b i (by omega)
  rw [val_drop hx] at h1
  rw [val_drop hy, ← h] at h2
  have h3 := val_lt (ha.take i)
  rw [List.length_take, Nat.min_eq_left (by omega)] at h3
  generalize val (a.drop (i + 1)) = q at h1 h2
  have h4 : wt i * (x + 4294967296 * q + 1) ≤ wt i * (y + 4294967296 * q) := Nat.mul_le_mul_left _ (by omega)
  rw [Nat.mul_add, Nat.mul_one] at h4
  omega

theorem cmp_c {S : Nat → Prop} {w : World} {v u : Value} {n m : Nat} (hS : Old S w) (hn : NatR w S v n) (hm : NatR w S u m) : Con PG N.exact_nat_cmp #[v, u] w (Ret w fun v' _ => v' = .int .i64 (cmpN n m)) := by
  obtain ⟨ls, h1, nz1, rfl⟩ := hn
  obtain ⟨ms, h2, nz2, rfl⟩ := hm
  obtain ⟨a, c, rfl, _, ha⟩ := h1.sl
  obtain ⟨b, e, rfl, _, hb⟩ := h2.sl
  have hle1 := h1.le
  have hle2 := h2.le
  have lm1 := h1.lm
  have lm2 := h2.lm
  refine in_exact_nat_cmp (by simp) ?_
  conv => whnf
  refine BrS.mk (fun h => ?_) (fun h => ?_)
  · have h : ls.length ≠ ms.length := by intro e; rw [e] at h; simp at h
    conv => whnf
    refine BrS.mk (fun h3 => ?_) (fun h3 => ?_)
    · have h3 : ls.length < ms.length := by simpa using h3
      conv => whnf
      intro ρ w2 r
      exact ⟨_, rfl, r.bel, by rw [cmpN, if_pos (val_lt_of_length lm1 nz2 h3)]; rfl⟩
    · have h3 : ms.length < ls.length := by have : ¬ ls.length < ms.length := by simpa using h3
                                            omega
      have h4 := val_lt_of_length lm2 nz1 h3
      conv => whnf
      intro ρ w2 r
      exact ⟨_, rfl, r.bel, by rw [cmpN, if_neg (by omega), if_pos h4]; rfl⟩
  · have h : ls.length = ms.length := by have : (ls.length : Int) = ms.length := by simpa using h
                                         omega
    conv => whnf
    refine ⟨(ls.length : Int) - 1, by rw [wrap64] <;> omega, ?_⟩
    conv => whnf
    refine ⟨Nat × World, fun x => ⟨[(0, .o (.v (.slice a ls.length c))), (1, .o (.v (.slice b ms.length e))), (5, .o (.v (.int .i64 ((x.1 : Int) - 1))))], [], 0, [], x.2⟩, fun x => x.1,
      fun x => x.1 ≤ ls.length ∧ Bel w.heap.size w x.2 ∧ ls.drop x.1 = ms.drop x.1, ?_, ?_⟩
    · intro ρ w' r
      exact ⟨(ls.length, w'), ⟨Nat.le_refl _, r.bel, by rw [List.drop_length, h, List.drop_length]⟩, Sub.reset r ⟨rfl, rfl, rfl, trivial⟩ ⟨trivial, trivial, trivial, trivial⟩⟩
    · rintro ⟨k, w1⟩ ⟨hk, hw, hd⟩
      dsimp only at hk hw hd ⊢
      conv => whnf
      refine BrS.mk (fun h3 => ?_) (fun h3 => ?_)
      · have h3 : (k : Int) - 1 ≥ 0 := of_decide_eq_true h3
        obtain ⟨k, rfl⟩ : ∃ q, k = q + 1 := ⟨k - 1, by omega⟩
        rw [show ((k + 1 : Nat) : Int) - 1 = (k : Int) by omega]
        obtain ⟨x, hx⟩ : ∃ x, ls[k]? = some x := ⟨_, List.getElem?_eq_getElem (by omega)⟩
        obtain ⟨y, hy⟩ : ∃ x, ms[k]? = some x := ⟨_, List.getElem?_eq_getElem (by omega)⟩
        obtain ⟨ad, had, hs, hc1⟩ := ha k x hx
        obtain ⟨ad2, had2, hs2, hc2⟩ := hb k y hy
        have hlx : ∀ ρ w', Rel [] 0 [] w.heap.size w1 ρ w' → w'.cell? (ad.add ((k : Int).toNat * 1)) = some (.int .u32 x) := fun ρ w' r => by
          rw [Int.toNat_natCast, Nat.mul_one]; exact cellS hS hw r hs hc1
        have hly : ∀ ρ w', Rel [] 0 [] w.heap.size w1 ρ w' → w'.cell? (ad2.add ((k : Int).toNat * 1)) = some (.int .u32 y) := fun ρ w' r => by
          rw [Int.toNat_natCast, Nat.mul_one]; exact cellS hS hw r hs2 hc2
        conv => whnf
        refine drawn_of_pi hτ hmix [.x 0, .x 1, .x 2, .x 3, .x 4, .x 5, .x 6, .x 7, .x 8, .x 9] (by kernel_rfl) (by kernel_rfl) ?_
        conv => whnf
        refine ⟨ad, had, ⟨by omega, by omega⟩, ?_⟩
        conv => whnf
        refine ⟨_, hlx, ?_⟩
        conv => whnf
        refine ⟨ad2, had2, ⟨by omega, by omega⟩, ?_⟩
        conv => whnf
        refine ⟨_, hly, ?_⟩
        conv => whnf
        refine BrS.mk (fun h4 => ?_) (fun h4 => ?_)
        · have h4 : x < y := by simpa using h4
          conv => whnf
          intro ρ w2 r
          exact ⟨_, rfl, hw.tr r.bel, by rw [cmpN, if_pos (lt_at lm1 h hx hy hd h4)]; rfl⟩
        · have h4 : ¬ x < y := by simpa using h4
          conv => whnf
          refine drawn_of_pi hτ hmix [.x 0, .x 1, .x 2, .x 3, .x 4, .x 5, .x 6, .x 7, .x 8, .x 9] (by kernel_rfl) (by kernel_rfl) ?_
          conv => whnf
          refine ⟨ad, had, ⟨by omega, by omega⟩, ?_⟩
          conv => whnf
          refine ⟨_, hlx, ?_⟩
          conv => whnf
          refine ⟨ad2, had2, ⟨by omega, by omega⟩, ?_⟩
          conv => whnf
          refine ⟨_, hly, ?_⟩
          conv => whnf
          refine BrS.mk (fun h5 => ?_) (fun h5 => ?_)
          · have h5 : y < x := by simpa using h5
            have h6 := lt_at lm2 h.symm hy hx hd.symm h5
            conv => whnf
            intro ρ w2 r
            exact ⟨_, rfl, hw.tr r.bel, by rw [cmpN, if_neg (by omega), if_pos h6]; rfl⟩
          · have h5 : ¬ y < x := by simpa using h5
            have hxy : x = y := by omega
            subst hxy
            conv => whnf
            refine ⟨(k : Int) - 1, by rw [wrap64] <;> omega, ?_⟩
            conv => whnf
            intro ρ w2 r
            have hd2 : ls.drop k = ms.drop k := by
              obtain ⟨q1, e1⟩ := List.getElem?_eq_some_iff.1 hx
              obtain ⟨q2, e2⟩ := List.getElem?_eq_some_iff.1 hy
              rw [List.drop_eq_getElem_cons q1, List.drop_eq_getElem_cons q2, e1, e2, hd]
            exact ⟨(k, w2), ⟨by dsimp only; omega, hw.tr r.bel, hd2⟩, Sub.reset r ⟨rfl, rfl, rfl, trivial⟩ ⟨trivial, trivial, trivial, trivial⟩, by simp⟩
      · have hk0 : k = 0 := by have : ¬ (k : Int) - 1 ≥ 0 := of_decide_eq_false h3
                               omega
        subst hk0
        have he : ls = ms := by simpa using hd
        conv => whnf
        intro ρ w2 r
        exact ⟨_, rfl, hw.tr r.bel, by rw [he, cmpN, if_neg (by omega), if_neg (by omega)]; rfl⟩
end Go.Ex

/- Sum of natural numbers of package exact. No condition. -/
namespace Go.Ex
open Go Go.Sx Go.Proofs

end Go.Ex
namespace Go.Sx
open Go Go.Ex Go.Proofs
/-- an argument: limbs of what was there -/
theorem Rel.nilBy {nx : Nat} {iv : Iv} {B : Nat} {w w' : World} {ρ : Nat → Sx.Val} (r : Rel [] nx iv B w ρ w') : w.grownBy w' none :=
  ⟨r.os, r.tape, r.output, r.size, fun k hk _ => r.frm k hk (fun id b h => by cases h)⟩
end Go.Sx
namespace Go.Ex
open Go Go.Sx Go.Proofs
structure LA (S : Nat → Prop) (w : World) where
  a : Option Addr
  c : Nat
  ls : List Nat
  lm : Lm ls
  le : ls.length ≤ 9223372036854775807
  cap : ls.length ≤ c
  cell : ∀ (j : Nat) x, ls[j]? = some x → ∃ ad, a = some ad ∧ S ad.block ∧ w.cell? (ad.add j) = some (.int .u32 x)
theorem Limbs.la {S : Nat → Prop} {w : World} {v : Value} {ls : List Nat} (h : Limbs w S v ls) : ∃ p : LA S w, v = .slice p.a p.ls.length p.c ∧ p.ls = ls := by
  obtain ⟨a, c, h1, h2, h3⟩ := h.sl
  exact ⟨⟨a, c, ls, h.lm, h.le, h2, h3⟩, h1, rfl⟩
theorem NatR.la {S : Nat → Prop} {w : World} {v : Value} {n : Nat} (h : NatR w S v n) : ∃ p : LA S w, v = .slice p.a p.ls.length p.c ∧ val p.ls = n ∧ Nz p.ls := by
  obtain ⟨ls, h1, h2, h3⟩ := h
  obtain ⟨p, h4, h5⟩ := h1.la
  exact ⟨p, h4, by rw [h5]; exact h3, by rw [h5]; exact h2⟩
/-- a limb of an argument is read -/
theorem LA.load {S : Nat → Prop} {w w1 : World} (p : LA S w) (hS : Old S w) (hw : Bel w.heap.size w w1) {k x : Nat} (hx : p.ls[k]? = some x) :
    ∃ ad, p.a = some ad ∧ ∀ (H : Hp) (nx : Nat) (iv : Iv) (ρ : Nat → Sx.Val) w', Rel H nx iv w.heap.size w1 ρ w' → w'.cell? (ad.add ((k : Int).toNat * 1)) = some (.int .u32 x) := by
  obtain ⟨ad, h1, h2, h3⟩ := p.cell k x hx
  refine ⟨ad, h1, fun H nx iv ρ w' r => ?_⟩
  rw [Int.toNat_natCast, Nat.mul_one]
  exact cellS hS hw r h2 h3

def U (l : List Nat) : List Value := l.map fun (x : Nat) => .int .u32 (x : Int)
theorem U_len (l : List Nat) : (U l).length = l.length := by simp [U]
theorem U_get {l : List Nat} {k x : Nat} (h : l[k]? = some x) : (U l)[k]? = some (.int .u32 x) := by simp [U, h]
theorem U_set (l : List Nat) (k x : Nat) (h : k < l.length) : (U l).take k ++ [.int .u32 x] ++ (U l).drop (k + 1) = U (l.set k x) := by
  have h1 : k < (U l).length := by rw [U_len]; exact h
  have : (U l).set k (.int .u32 x) = U (l.set k x) := by simp [U, List.map_set]
  rw [← this, List.set_eq_take_append_cons_drop, if_pos h1]; simp
theorem U_store (l : List Nat) (k x : Nat) (h : k < l.length) {e : Nat} (he : e = k) : (U l).take e ++ [.int .u32 (x : Int)] ++ (U l).drop (e + 1) = U (l.set k x) := by
  subst he; exact U_set l e x h
theorem U_zero (n : Nat) : List.replicate n (Value.int .u32 0) = U (List.replicate n 0) := by simp [U]
end Go.Ex
namespace Go.Sx
open Go Go.Ex Go.Proofs
/-- a list of one's own that a call is handed: its limbs are read there -/
theorem Rel.ownLimbs {H : Hp} {nx : Nat} {iv : Iv} {B : Nat} {w w' : World} {ρ : Nat → Sx.Val} (r : Rel H nx iv B w ρ w') {id t : Nat} {ls : List Nat} (h : getH H id = some (.arr t (U ls))) (hlm : Lm ls) (hle : ls.length ≤ 9223372036854775807) :
    Limbs w' (fun g => g = (ρ id).g) (.slice (some ⟨(ρ id).g, 0, none⟩) ls.length ls.length) ls := by
  refine ⟨hlm, hle, _, _, rfl, Nat.le_refl _, fun j x hx => ⟨_, rfl, rfl, ?_⟩⟩
  have h0 : (⟨(ρ id).g, 0, none⟩ : Addr).add j = ⟨(ρ id).g, j, none⟩ := by
    cases j with
    | zero => rfl
    | succ j => simp [Addr.add]
  rw [h0, cell_of (r.arr id t _ h)]
  exact U_get hx
end Go.Sx
namespace Go.Ex
open Go Go.Sx Go.Proofs

theorem plus_step {out ls ms : List Nat} {i x o d : Nat} (hx : ls[i]? = some x) (ho : ms.getD i 0 = o) (hd : out[i]? = some d) {carry : Nat} (h : val (out.take i) + wt i * carry = val (ls.take i) + val (ms.take i)) :
    val ((out.set i ((x + o + carry) % 4294967296)).take (i + 1)) + wt (i + 1) * ((x + o + carry) / 4294967296) = val (ls.take (i + 1)) + val (ms.take (i + 1)) := by
  have hi := (List.getElem?_eq_some_iff.1 hd).1
  have h1 : (out.set i ((x + o + carry) % 4294967296))[i]? = some ((x + o + carry) % 4294967296) := by rw [List.getElem?_set_self hi]
  rw [val_take_succ h1, List.take_set_of_le (Nat.le_refl _), val_take_succ hx, wt_succ]
  have h2 : val (ms.take (i + 1)) = val (ms.take i) + wt i * o := by
    cases hm : ms[i]? with
    | some y =>
      have : y = o := by rw [← ho]; simp [List.getD, hm]
      rw [val_take_succ hm, this]
    | none =>
      have : o = 0 := by rw [← ho]; simp [List.getD, hm]
      rw [this, List.take_add_one, hm]
      simp
  rw [h2]
  have h3 := Nat.div_add_mod (x + o + carry) 4294967296
  generalize (x + o + carry) / 4294967296 = q at h3 ⊢
  generalize (x + o + carry) % 4294967296 = r at h3 ⊢
  have h4 : wt i * (4294967296 * q + r) = wt i * (x + o + carry) := by rw [h3]
  rw [Nat.mul_add, Nat.mul_add, Nat.mul_add, ← Nat.mul_assoc, Nat.mul_comm (wt i) 4294967296] at h4
  omega

theorem plus_c {S : Nat → Prop} {w : World} {v u : Value} {n m : Nat} (hS : Old S w) (hn : NatR w S v n) (hm : NatR w S u m) (hln : ln n ≤ 1000000000000) (hlm : ln m ≤ 1000000000000) :
    Con PG N.exact_nat_plus #[v, u] w (Ret w fun v' w2 => NatR w2 (Nw (fun _ => False) w w2) v' (n + m)) := by
  obtain ⟨p, rfl, hp1, hp2⟩ := hn.la
  obtain ⟨q, rfl, hq1, hq2⟩ := hm.la
  have hpl := length_ln p.lm hp2
  have hql := length_ln q.lm hq2
  rw [hp1] at hpl
  rw [hq1] at hql
  have hsum : n + m = val p.ls + val q.ls := by rw [hp1, hq1]
  rw [hsum]
  refine in_exact_nat_plus (by simp) ?_
  conv => whnf
  refine BrS.mk (fun h => ?_) (fun h => ?_)
  case' refine_1 =>
    have h : p.ls.length < q.ls.length := by simpa using h
    have hpx : p.ls.length ≤ q.ls.length := by omega
    have hx12 : q.ls.length ≤ 1000000000000 := by omega
    rw [Nat.add_comm]
    clear hp1 hp2 hq1 hq2 hpl hql hsum hn hm h
    generalize hgx : q = x at *
    generalize hgy : p = y at *
    clear hgx hgy p q
  case' refine_2 =>
    have h : ¬ p.ls.length < q.ls.length := by simpa using h
    have hpx : q.ls.length ≤ p.ls.length := by omega
    have hx12 : p.ls.length ≤ 1000000000000 := by omega
    clear hp1 hp2 hq1 hq2 hpl hql hsum hn hm h
    generalize hgx : p = x at *
    generalize hgy : q = y at *
    clear hgx hgy p q
  all_goals
    conv => whnf
    refine ⟨((x.ls.length + 1 : Nat) : Int), by rw [wrap64] <;> omega, ?_⟩
    conv => whnf
    refine ⟨x.ls.length + 1, x.ls.length + 1, rfl, rfl, Nat.le_refl _, by omega, by omega, ?_⟩
    conv => whnf
    refine ⟨Nat × List Nat × Nat × World, fun z => ⟨[(0, .o (.v (.slice x.a x.ls.length x.c))), (1, .o (.v (.slice y.a y.ls.length y.c))), (5, .o (.s 0 0 (x.ls.length + 1) (x.ls.length + 1))), (6, .o (.v (.int .u32 z.2.2.1))), (21, .o (.v (.int .i64 x.ls.length))), (22, .o (.v (.int .i64 z.1)))],
        [(0, .arr T.uint32 (U z.2.1))], 1, [], z.2.2.2⟩, fun z => x.ls.length - z.1,
      fun z => z.1 ≤ x.ls.length ∧ Bel w.heap.size w z.2.2.2 ∧ z.2.1.length = x.ls.length + 1 ∧ Lm z.2.1 ∧ z.2.2.1 < 2 ∧ val (z.2.1.take z.1) + wt z.1 * z.2.2.1 = val (x.ls.take z.1) + val (y.ls.take z.1), ?_, ?_⟩
    · intro ρ w' r
      rw [U_zero] at r
      exact ⟨(0, List.replicate (x.ls.length + 1) 0, 0, w'), ⟨by simp, r.bel, by simp, Lm.replicate _, by simp, by simp [val]⟩, Sub.gen [] r ⟨rfl, trivial⟩ ⟨rfl, rfl, rfl, rfl, rfl, rfl, trivial⟩ (by simp [ScH, Blk.scopd]) (by simp [ScE, SV.sc, At.sc]) (by rfl) (by simp)⟩
    · rintro ⟨i, out, carry, w1⟩ ⟨hi, hw, hol, hlm1, hc, hv⟩
      dsimp only at hi hw hol hlm1 hc hv ⊢
      conv => whnf
      refine BrS.mk (fun h => ?_) (fun h => ?_)
      · have h : i < x.ls.length := by simpa using h
        obtain ⟨xi, hxi⟩ : ∃ k, x.ls[i]? = some k := ⟨_, List.getElem?_eq_getElem h⟩
        obtain ⟨d, hd⟩ : ∃ k, out[i]? = some k := ⟨_, List.getElem?_eq_getElem (by omega)⟩
        obtain ⟨ad, had, hload⟩ := x.load hS hw hxi
        have hx32 := x.lm.at hxi
        conv => whnf
        refine BrS.mk (fun h2 => ?_) (fun h2 => ?_)
        · have h2 : i < y.ls.length := by simpa using h2
          obtain ⟨o, ho⟩ : ∃ k, y.ls[i]? = some k := ⟨_, List.getElem?_eq_getElem h2⟩
          obtain ⟨ad2, had2, hload2⟩ := y.load hS hw ho
          have ho32 := y.lm.at ho
          have hget : y.ls.getD i 0 = o := by simp [List.getD, ho]
          conv => whnf
          refine ⟨ad2, had2, ⟨by omega, by omega⟩, ?_⟩
          conv => whnf
          refine ⟨.int .u32 o, hload2 _ _ _, ?_⟩
          conv => whnf
          refine ⟨ad, had, ⟨by omega, by omega⟩, ?_⟩
          conv => whnf
          refine ⟨.int .u32 xi, hload _ _ _, ?_⟩
          conv => whnf
          refine callE_S (callE_con (Φ := fun _ _ v _ => v = .tuple #[.int .u32 ((xi + o + carry) % 4294967296 : Nat), .int .u32 ((xi + o + carry) / 4294967296 : Nat)]) (fun ρ w' r => add32_c xi o carry w' hx32 ho32 (by omega)) ?_)
          rintro ρ w' v w2 r he hb rfl
          replace hw := hw.tr hb
          have hstep := plus_step hxi hget hd hv
          have hc2 : (xi + o + carry) / 4294967296 < 2 := by omega
          clear r he hb
          conv => whnf
          refine ⟨⟨by omega, by omega⟩, ?_⟩
          conv => whnf
          refine ⟨by rw [U_len]; omega, U (out.set i ((xi + o + carry) % 4294967296)), U_store out i _ (by omega) (by simp), ?_⟩
          conv => whnf
          refine ⟨((i + 1 : Nat) : Int), by rw [wrap64] <;> omega, ?_⟩
          conv => whnf
          intro ρ3 w3 r3
          exact ⟨(i + 1, out.set i ((xi + o + carry) % 4294967296), (xi + o + carry) / 4294967296, w3), ⟨by dsimp only; omega, hw.tr r3.bel, by simp [hol], hlm1.set (Nat.mod_lt _ (by decide)), hc2, hstep⟩,
            Sub.gen [] r3 ⟨rfl, trivial⟩ ⟨rfl, rfl, rfl, rfl, rfl, rfl, trivial⟩ (by simp [ScH, Blk.scopd]) (by simp [ScE, SV.sc, At.sc]) (by rfl) (by simp), by dsimp only; omega⟩
        · have h2 : ¬ i < y.ls.length := by simpa using h2
          have hget : y.ls.getD i 0 = 0 := by simp [List.getD, List.getElem?_eq_none (show y.ls.length ≤ i by omega)]
          conv => whnf
          refine ⟨ad, had, ⟨by omega, by omega⟩, ?_⟩
          conv => whnf
          refine ⟨.int .u32 xi, hload _ _ _, ?_⟩
          conv => whnf
          refine callE_S (callE_con (Φ := fun _ _ v _ => v = .tuple #[.int .u32 ((xi + 0 + carry) % 4294967296 : Nat), .int .u32 ((xi + 0 + carry) / 4294967296 : Nat)]) (fun ρ w' r => add32_c xi 0 carry w' hx32 (by decide) (by omega)) ?_)
          rintro ρ w' v w2 r he hb rfl
          replace hw := hw.tr hb
          have hstep := plus_step hxi hget hd hv
          have hc2 : (xi + 0 + carry) / 4294967296 < 2 := by omega
          clear r he hb
          conv => whnf
          refine ⟨⟨by omega, by omega⟩, ?_⟩
          conv => whnf
          refine ⟨by rw [U_len]; omega, U (out.set i ((xi + 0 + carry) % 4294967296)), U_store out i _ (by omega) (by simp), ?_⟩
          conv => whnf
          refine ⟨((i + 1 : Nat) : Int), by rw [wrap64] <;> omega, ?_⟩
          conv => whnf
          intro ρ3 w3 r3
          exact ⟨(i + 1, out.set i ((xi + 0 + carry) % 4294967296), (xi + 0 + carry) / 4294967296, w3), ⟨by dsimp only; omega, hw.tr r3.bel, by simp [hol], hlm1.set (Nat.mod_lt _ (by decide)), hc2, hstep⟩,
            Sub.gen [] r3 ⟨rfl, trivial⟩ ⟨rfl, rfl, rfl, rfl, rfl, rfl, trivial⟩ (by simp [ScH, Blk.scopd]) (by simp [ScE, SV.sc, At.sc]) (by rfl) (by simp), by dsimp only; omega⟩
      · have hin : i = x.ls.length := by have : ¬ i < x.ls.length := by simpa using h
                                         omega
        subst hin
        obtain ⟨d, hd⟩ : ∃ k, out[x.ls.length]? = some k := ⟨_, List.getElem?_eq_getElem (by omega)⟩
        have hfin : val (out.set x.ls.length carry) = val x.ls + val y.ls := by
          have h1 : (out.set x.ls.length carry)[x.ls.length]? = some carry := by rw [List.getElem?_set_self (by omega)]
          have h2 := val_take_succ h1
          rw [List.take_of_length_le (by simp; omega), List.take_set_of_le (Nat.le_refl _)] at h2
          rw [List.take_length, List.take_of_length_le hpx] at hv
          omega
        have hlm2 : Lm (out.set x.ls.length carry) := hlm1.set (by omega)
        conv => whnf
        refine ⟨⟨by omega, by omega⟩, ?_⟩
        conv => whnf
        refine ⟨by rw [U_len]; omega, U (out.set x.ls.length carry), U_store out x.ls.length carry (by omega) (by simp), ?_⟩
        generalize hgo : out.set x.ls.length carry = fin at hfin hlm2
        have hfl : fin.length = x.ls.length + 1 := by rw [← hgo]; simp [hol]
        conv => whnf
        refine callE_free (Φ := fun ρ _ v w2 => Limbs w2 (fun g => g = (ρ 0).g) v (trimL fin)) (H' := []) 0 rfl (by simp) trivial rfl (fun ρ w' r => r.nn 0 _ rfl (by intros; simp) (by simp)) (fun ρ w' r => ?_) ?_
        · have hL := r.ownLimbs (id := 0) rfl hlm2 (by omega)
          rw [hfl] at hL
          exact trimmed_c (fun g hg => by rw [hg]; exact (r.low 0 _ rfl (r.nn 0 _ rfl (by intros; simp) (by simp))).2) hL
        rintro ρ w' v w2 r he hb hL
        replace hw := hw.tr hb
        have hlow := r.low 0 _ rfl (r.nn 0 _ rfl (by intros; simp) (by simp))
        generalize (ρ 0).g = g at *
        have hs := he.size
        clear r he hb
        conv => whnf
        intro ρ3 w3 r3
        refine ⟨_, rfl, hw.tr r3.bel, trimL fin, ?_, (trimL_spec fin).2.1, ?_⟩
        · refine (hL.keep fun k hk => ?_).weak fun k hk => .inr ?_
          · rw [hk]
            exact r3.nilBy.block g (by omega) (by simp)
          · rw [hk]
            have := r3.size
            omega
        · rw [(trimL_spec fin).1, hfin]
end Go.Ex

/- Difference of natural numbers of package exact. No condition. -/
namespace Go.Ex
open Go Go.Sx Go.Proofs

theorem take_getD {ms : List Nat} {i o : Nat} (ho : ms.getD i 0 = o) : val (ms.take (i + 1)) = val (ms.take i) + wt i * o := by
  cases hm : ms[i]? with
  | some y =>
    have : y = o := by rw [← ho]; simp [List.getD, hm]
    rw [val_take_succ hm, this]
  | none =>
    have : o = 0 := by rw [← ho]; simp [List.getD, hm]
    rw [this, List.take_add_one, hm]
    simp
theorem minus_step {out ls ms : List Nat} {i x o d e : Nat} (hx : ls[i]? = some x) (ho : ms.getD i 0 = o) (hd : out[i]? = some d) {b b' : Nat} (h : val (out.take i) + val (ms.take i) = val (ls.take i) + wt i * b) (he : e + (o + b) = x + 4294967296 * b') :
    val ((out.set i e).take (i + 1)) + val (ms.take (i + 1)) = val (ls.take (i + 1)) + wt (i + 1) * b' := by
  have hi := (List.getElem?_eq_some_iff.1 hd).1
  have h1 : (out.set i e)[i]? = some e := by rw [List.getElem?_set_self hi]
  rw [val_take_succ h1, List.take_set_of_le (Nat.le_refl _), val_take_succ hx, take_getD ho, wt_succ]
  have h4 : wt i * (e + (o + b)) = wt i * (x + 4294967296 * b') := by rw [he]
  rw [Nat.mul_add, Nat.mul_add, Nat.mul_add, ← Nat.mul_assoc, Nat.mul_comm (wt i) 4294967296] at h4
  omega

theorem minus_c {S : Nat → Prop} {w : World} {v u : Value} {n m : Nat} (hS : Old S w) (hn : NatR w S v n) (hm : NatR w S u m) (hle : m ≤ n) (hln : ln n ≤ 1000000000000) :
    Con PG N.exact_nat_minus #[v, u] w (Ret w fun v' w2 => NatR w2 (Nw (fun _ => False) w w2) v' (n - m)) := by
  obtain ⟨x, rfl, hp1, hp2⟩ := hn.la
  obtain ⟨y, rfl, hq1, hq2⟩ := hm.la
  have hpl := length_ln x.lm hp2
  rw [hp1] at hpl
  have hyx : y.ls.length ≤ x.ls.length := by
    rw [length_ln x.lm hp2, length_ln y.lm hq2, hp1, hq1]
    exact ln_mono hle
  refine in_exact_nat_minus (by simp) ?_
  conv => whnf
  refine ⟨x.ls.length, x.ls.length, rfl, rfl, Nat.le_refl _, by omega, by omega, ?_⟩
  conv => whnf
  refine ⟨Nat × List Nat × Nat × World, fun z => ⟨[(0, .o (.v (.slice x.a x.ls.length x.c))), (1, .o (.v (.slice y.a y.ls.length y.c))), (5, .o (.s 0 0 x.ls.length x.ls.length)), (6, .o (.v (.int .u32 z.2.2.1))), (13, .o (.v (.int .i64 x.ls.length))), (14, .o (.v (.int .i64 z.1)))],
      [(0, .arr T.uint32 (U z.2.1))], 1, [], z.2.2.2⟩, fun z => x.ls.length - z.1,
    fun z => z.1 ≤ x.ls.length ∧ Bel w.heap.size w z.2.2.2 ∧ z.2.1.length = x.ls.length ∧ Lm z.2.1 ∧ z.2.2.1 < 2 ∧ val (z.2.1.take z.1) + val (y.ls.take z.1) = val (x.ls.take z.1) + wt z.1 * z.2.2.1, ?_, ?_⟩
  · intro ρ w' r
    rw [U_zero] at r
    exact ⟨(0, List.replicate x.ls.length 0, 0, w'), ⟨by simp, r.bel, by simp, Lm.replicate _, by simp, by simp [val]⟩, Sub.gen [] r ⟨rfl, trivial⟩ ⟨rfl, rfl, rfl, rfl, rfl, rfl, trivial⟩ (by simp [ScH, Blk.scopd]) (by simp [ScE, SV.sc, At.sc]) (by rfl) (by simp)⟩
  · rintro ⟨i, out, b, w1⟩ ⟨hi, hw, hol, hlm1, hc, hv⟩
    dsimp only at hi hw hol hlm1 hc hv ⊢
    conv => whnf
    refine BrS.mk (fun h => ?_) (fun h => ?_)
    · have h : i < x.ls.length := by simpa using h
      obtain ⟨xi, hxi⟩ : ∃ k, x.ls[i]? = some k := ⟨_, List.getElem?_eq_getElem h⟩
      obtain ⟨d, hd⟩ : ∃ k, out[i]? = some k := ⟨_, List.getElem?_eq_getElem (by omega)⟩
      obtain ⟨ad, had, hload⟩ := x.load hS hw hxi
      have hx32 := x.lm.at hxi
      conv => whnf
      refine BrS.mk (fun h2 => ?_) (fun h2 => ?_)
      · have h2 : i < y.ls.length := by simpa using h2
        obtain ⟨o, ho⟩ : ∃ k, y.ls[i]? = some k := ⟨_, List.getElem?_eq_getElem h2⟩
        obtain ⟨ad2, had2, hload2⟩ := y.load hS hw ho
        have ho32 := y.lm.at ho
        have hget : y.ls.getD i 0 = o := by simp [List.getD, ho]
        conv => whnf
        refine ⟨ad2, had2, ⟨by omega, by omega⟩, ?_⟩
        conv => whnf
        refine ⟨.int .u32 o, hload2 _ _ _, ?_⟩
        conv => whnf
        refine ⟨ad, had, ⟨by omega, by omega⟩, ?_⟩
        conv => whnf
        refine ⟨.int .u32 xi, hload _ _ _, ?_⟩
        conv => whnf
        refine callE_S (callE_con (Φ := fun _ _ v _ => v = .tuple #[.int .u32 ((xi + 4294967296 - (o + b)) % 4294967296 : Nat), .int .u32 ((if xi < o + b then 1 else 0 : Nat) : Int)]) (fun ρ w' r => sub32_c xi o b w' hx32 ho32 (by omega)) ?_)
        rintro ρ w' v w2 r he hb rfl
        replace hw := hw.tr hb
        have hst : (xi + 4294967296 - (o + b)) % 4294967296 + (o + b) = xi + 4294967296 * (if xi < o + b then 1 else 0) := by split <;> omega
        have hlt : (xi + 4294967296 - (o + b)) % 4294967296 < 4294967296 := Nat.mod_lt _ (by decide)
        have hb2 : (if xi < o + b then 1 else 0 : Nat) < 2 := by split <;> omega
        generalize (xi + 4294967296 - (o + b)) % 4294967296 = e at hst hlt
        generalize (if xi < o + b then 1 else 0 : Nat) = b' at hst hb2
        have hstep := minus_step hxi hget hd hv hst
        clear r he hb
        conv => whnf
        refine ⟨⟨by omega, by omega⟩, ?_⟩
        conv => whnf
        refine ⟨by rw [U_len]; omega, U (out.set i e), U_store out i _ (by omega) (by simp), ?_⟩
        conv => whnf
        refine ⟨((i + 1 : Nat) : Int), by rw [wrap64] <;> omega, ?_⟩
        conv => whnf
        intro ρ3 w3 r3
        exact ⟨(i + 1, out.set i e, b', w3), ⟨by dsimp only; omega, hw.tr r3.bel, by simp [hol], hlm1.set hlt, hb2, hstep⟩,
          Sub.gen [] r3 ⟨rfl, trivial⟩ ⟨rfl, rfl, rfl, rfl, rfl, rfl, trivial⟩ (by simp [ScH, Blk.scopd]) (by simp [ScE, SV.sc, At.sc]) (by rfl) (by simp), by dsimp only; omega⟩
      · have h2 : ¬ i < y.ls.length := by simpa using h2
        have hget : y.ls.getD i 0 = 0 := by simp [List.getD, List.getElem?_eq_none (show y.ls.length ≤ i by omega)]
        conv => whnf
        refine ⟨ad, had, ⟨by omega, by omega⟩, ?_⟩
        conv => whnf
        refine ⟨.int .u32 xi, hload _ _ _, ?_⟩
        conv => whnf
        refine callE_S (callE_con (Φ := fun _ _ v _ => v = .tuple #[.int .u32 ((xi + 4294967296 - (0 + b)) % 4294967296 : Nat), .int .u32 ((if xi < 0 + b then 1 else 0 : Nat) : Int)]) (fun ρ w' r => sub32_c xi 0 b w' hx32 (by decide) (by omega)) ?_)
        rintro ρ w' v w2 r he hb rfl
        replace hw := hw.tr hb
        have hst : (xi + 4294967296 - (0 + b)) % 4294967296 + (0 + b) = xi + 4294967296 * (if xi < 0 + b then 1 else 0) := by split <;> omega
        have hlt : (xi + 4294967296 - (0 + b)) % 4294967296 < 4294967296 := Nat.mod_lt _ (by decide)
        have hb2 : (if xi < 0 + b then 1 else 0 : Nat) < 2 := by split <;> omega
        generalize (xi + 4294967296 - (0 + b)) % 4294967296 = e at hst hlt
        generalize (if xi < 0 + b then 1 else 0 : Nat) = b' at hst hb2
        have hstep := minus_step hxi hget hd hv hst
        clear r he hb
        conv => whnf
        refine ⟨⟨by omega, by omega⟩, ?_⟩
        conv => whnf
        refine ⟨by rw [U_len]; omega, U (out.set i e), U_store out i _ (by omega) (by simp), ?_⟩
        conv => whnf
        refine ⟨((i + 1 : Nat) : Int), by rw [wrap64] <;> omega, ?_⟩
        conv => whnf
        intro ρ3 w3 r3
        exact ⟨(i + 1, out.set i e, b', w3), ⟨by dsimp only; omega, hw.tr r3.bel, by simp [hol], hlm1.set hlt, hb2, hstep⟩,
          Sub.gen [] r3 ⟨rfl, trivial⟩ ⟨rfl, rfl, rfl, rfl, rfl, rfl, trivial⟩ (by simp [ScH, Blk.scopd]) (by simp [ScE, SV.sc, At.sc]) (by rfl) (by simp), by dsimp only; omega⟩
    · have hin : i = x.ls.length := by have : ¬ i < x.ls.length := by simpa using h
                                       omega
      subst hin
      have hfin : val out = n - m := by
        rw [List.take_of_length_le (by omega), List.take_of_length_le hyx, List.take_length, hp1, hq1] at hv
        have h1 := val_lt hlm1
        rw [hol] at h1
        have : b = 0 ∨ b = 1 := by omega
        rcases this with rfl | rfl
        · omega
        · omega
      conv => whnf
      refine callE_free (Φ := fun ρ _ v w2 => Limbs w2 (fun g => g = (ρ 0).g) v (trimL out)) (H' := []) 0 rfl (by simp) trivial rfl (fun ρ w' r => r.nn 0 _ rfl (by intros; simp) (by simp)) (fun ρ w' r => ?_) ?_
      · have hL := r.ownLimbs (id := 0) rfl hlm1 (by omega)
        rw [hol] at hL
        exact trimmed_c (fun g hg => by rw [hg]; exact (r.low 0 _ rfl (r.nn 0 _ rfl (by intros; simp) (by simp))).2) hL
      rintro ρ w' v w2 r he hb hL
      replace hw := hw.tr hb
      have hlow := r.low 0 _ rfl (r.nn 0 _ rfl (by intros; simp) (by simp))
      generalize (ρ 0).g = g at *
      have hs := he.size
      clear r he hb
      conv => whnf
      intro ρ3 w3 r3
      refine ⟨_, rfl, hw.tr r3.bel, trimL out, ?_, (trimL_spec out).2.1, ?_⟩
      · refine (hL.keep fun k hk => ?_).weak fun k hk => .inr ?_
        · rw [hk]
          exact r3.nilBy.block g (by omega) (by simp)
        · rw [hk]
          have := r3.size
          omega
      · rw [(trimL_spec out).1, hfin]
end Go.Ex

/- Product of natural numbers of package exact. No condition. -/
namespace Go.Ex
open Go Go.Sx Go.Proofs

theorem times_step {out : List Nat} {p o t c a : Nat} (ho : out[p]? = some o) {V : Nat} (h : val out + wt p * c = V) (ht : t = a + o + c) :
    val (out.set p (t % 4294967296)) + wt (p + 1) * (t / 4294967296) = V + wt p * a := by
  have h1 := val_set (x := t % 4294967296) ho
  rw [wt_succ]
  have h3 := Nat.div_add_mod t 4294967296
  generalize t / 4294967296 = q at h3 ⊢
  generalize t % 4294967296 = r at h3 h1 ⊢
  have h4 : wt p * (4294967296 * q + r) = wt p * (a + o + c) := by rw [h3, ht]
  rw [Nat.mul_add, Nat.mul_add, Nat.mul_add, ← Nat.mul_assoc, Nat.mul_comm (wt p) 4294967296] at h4
  omega
/-- zeros from a place on -/
def Zf (out : List Nat) (p : Nat) : Prop := ∀ (j : Nat) z, p ≤ j → out[j]? = some z → z = 0
theorem Zf.set {out : List Nat} {p k x : Nat} (h : Zf out p) (hk : k < p) : Zf (out.set k x) p := fun j z hj hz => by
  rw [List.getElem?_set_ne (by omega)] at hz
  exact h j z hj hz
theorem mul_lt64 {a b : Nat} (ha : a < 4294967296) (hb : b < 4294967296) : a * b ≤ 18446744065119617025 := by
  have : a * b ≤ 4294967295 * 4294967295 := Nat.mul_le_mul (by omega) (by omega)
  omega

theorem times_c {S : Nat → Prop} {w : World} {v u : Value} {n m : Nat} (hS : Old S w) (hn : NatR w S v n) (hm : NatR w S u m) (hln : ln n ≤ 1000000000000) (hlm : ln m ≤ 1000000000000) :
    Con PG N.exact_nat_times #[v, u] w (Ret w fun v' w2 => NatR w2 (Nw (fun _ => False) w w2) v' (n * m)) := by
  obtain ⟨x, rfl, hp1, hp2⟩ := hn.la
  obtain ⟨y, rfl, hq1, hq2⟩ := hm.la
  have hpl := length_ln x.lm hp2
  rw [hp1] at hpl
  have hql := length_ln y.lm hq2
  rw [hq1] at hql
  refine in_exact_nat_times (by simp) ?_
  conv => whnf
  obtain ⟨L, hL⟩ : ∃ L, L = x.ls.length + y.ls.length := ⟨_, rfl⟩
  refine ⟨(L : Int), by rw [wrap64] <;> omega, ?_⟩
  conv => whnf
  refine ⟨L, L, rfl, rfl, Nat.le_refl _, by omega, by omega, ?_⟩
  conv => whnf
  refine ⟨Nat × List Nat × World, fun z => ⟨[(1, .o (.v (.slice y.a y.ls.length y.c))), (5, .o (.s 0 0 L L)), (18, .o (.v (.slice x.a x.ls.length x.c))), (19, .o (.v (.int .i64 x.ls.length))), (20, .o (.v (.int .i64 z.1)))],
      [(0, .arr T.uint32 (U z.2.1))], 1, [], z.2.2⟩, fun z => x.ls.length - z.1,
    fun z => z.1 ≤ x.ls.length ∧ Bel w.heap.size w z.2.2 ∧ z.2.1.length = L ∧ Lm z.2.1 ∧ val z.2.1 = val (x.ls.take z.1) * m ∧ Zf z.2.1 (z.1 + y.ls.length), ?_, ?_⟩
  · intro ρ w' r
    rw [U_zero] at r
    exact ⟨(0, List.replicate L 0, w'), ⟨by simp, r.bel, by simp, Lm.replicate _, by simp [val, val_replicate], fun j z _ hz => by simp only [List.getElem?_replicate] at hz; split at hz <;> simp_all⟩, Sub.gen [] r ⟨rfl, trivial⟩ ⟨rfl, rfl, rfl, rfl, rfl, trivial⟩ (by simp [ScH, Blk.scopd]) (by simp [ScE, SV.sc, At.sc]) (by rfl) (by simp)⟩
  · rintro ⟨i, out, w1⟩ ⟨hi, hw, hol, hlm1, hv, hz⟩
    dsimp only at hi hw hol hlm1 hv hz ⊢
    conv => whnf
    refine BrS.mk (fun h => ?_) (fun h => ?_)
    · have h : i < x.ls.length := by simpa using h
      obtain ⟨xi, hxi⟩ : ∃ k, x.ls[i]? = some k := ⟨_, List.getElem?_eq_getElem h⟩
      obtain ⟨ad, had, hload⟩ := x.load hS hw hxi
      have hx32 := x.lm.at hxi
      conv => whnf
      refine ⟨ad, had, ⟨by omega, by omega⟩, ?_⟩
      conv => whnf
      refine ⟨.int .u32 xi, hload _ _ _, ?_⟩
      conv => whnf
      refine ⟨Nat × List Nat × Nat × World, fun z => ⟨[(1, .o (.v (.slice y.a y.ls.length y.c))), (5, .o (.s 0 0 L L)), (18, .o (.v (.slice x.a x.ls.length x.c))), (19, .o (.v (.int .i64 x.ls.length))), (20, .o (.v (.int .i64 i))),
          (6, .o (.v (.int .i64 i))), (7, .o (.v (.int .u32 xi))), (8, .o (.v (.int .u64 z.2.2.1))), (25, .o (.v (.slice y.a y.ls.length y.c))), (26, .o (.v (.int .i64 y.ls.length))), (27, .o (.v (.int .i64 z.1)))],
          [(0, .arr T.uint32 (U z.2.1))], 1, [], z.2.2.2⟩, fun z => y.ls.length - z.1,
        fun z => z.1 ≤ y.ls.length ∧ Bel w.heap.size w z.2.2.2 ∧ z.2.1.length = L ∧ Lm z.2.1 ∧ z.2.2.1 < 4294967296 ∧ val z.2.1 + wt (i + z.1) * z.2.2.1 = val (x.ls.take i) * m + wt i * xi * val (y.ls.take z.1) ∧ Zf z.2.1 (i + y.ls.length), ?_, ?_⟩
      · intro ρ w' r
        exact ⟨(0, out, 0, w'), ⟨by simp, hw.tr r.bel, hol, hlm1, by simp, by simp [val, hv], hz⟩, Sub.gen [] r ⟨rfl, trivial⟩ ⟨rfl, rfl, rfl, rfl, rfl, rfl, rfl, rfl, rfl, rfl, rfl, trivial⟩ (by simp [ScH, Blk.scopd]) (by simp [ScE, SV.sc, At.sc]) (by rfl) (by simp)⟩
      · rintro ⟨k, out, c, w1⟩ ⟨hk, hw, hol, hlm1, hc, hv, hz⟩
        dsimp only at hk hw hol hlm1 hc hv hz ⊢
        conv => whnf
        refine BrS.mk (fun h2 => ?_) (fun h2 => ?_)
        · have h2 : k < y.ls.length := by simpa using h2
          obtain ⟨yk, hyk⟩ : ∃ q, y.ls[k]? = some q := ⟨_, List.getElem?_eq_getElem h2⟩
          obtain ⟨ad2, had2, hload2⟩ := y.load hS hw hyk
          have hy32 := y.lm.at hyk
          obtain ⟨o, ho⟩ : ∃ q, out[i + k]? = some q := ⟨_, List.getElem?_eq_getElem (by omega)⟩
          have ho32 := hlm1.at ho
          have hm64 := mul_lt64 hx32 hy32
          conv => whnf
          refine ⟨ad2, had2, ⟨by omega, by omega⟩, ?_⟩
          conv => whnf
          refine ⟨.int .u32 yk, hload2 _ _ _, ?_⟩
          conv => whnf
          refine ⟨(xi : Int), wrapU64n (by omega), ?_⟩
          conv => whnf
          refine ⟨(yk : Int), wrapU64n (by omega), ?_⟩
          conv => whnf
          refine ⟨((xi * yk : Nat) : Int), by rw [← Int.natCast_mul]; exact wrapU64n (by omega), ?_⟩
          conv => whnf
          refine ⟨((i + k : Nat) : Int), by rw [wrap64] <;> omega, ?_⟩
          conv => whnf
          refine ⟨⟨by omega, by omega⟩, ?_⟩
          conv => whnf
          refine ⟨.int .u32 o, by rw [Int.toNat_natCast, Nat.zero_add, Nat.mul_one]; exact U_get ho, ?_⟩
          conv => whnf
          refine ⟨(o : Int), wrapU64n (by omega), ?_⟩
          conv => whnf
          refine ⟨((xi * yk + o : Nat) : Int), by rw [← Int.natCast_add]; exact wrapU64n (by omega), ?_⟩
          conv => whnf
          obtain ⟨t, ht⟩ : ∃ t, t = xi * yk + o + c := ⟨_, rfl⟩
          refine ⟨(t : Int), by rw [← Int.natCast_add, ← ht]; exact wrapU64n (by omega), ?_⟩
          conv => whnf
          refine ⟨((i + k : Nat) : Int), by rw [wrap64] <;> omega, ?_⟩
          conv => whnf
          refine ⟨((t % 4294967296 : Nat) : Int), wrapU32n _, ?_⟩
          conv => whnf
          refine ⟨by decide, ((t / 4294967296 : Nat) : Int), fdiv_shr 32 (by decide), ?_⟩
          conv => whnf
          refine ⟨⟨by omega, by omega⟩, ?_⟩
          conv => whnf
          refine ⟨by rw [U_len]; omega, U (out.set (i + k) (t % 4294967296)), U_store out (i + k) _ (by omega) (by simp only [Int.toNat_natCast]; omega), ?_⟩
          conv => whnf
          refine ⟨((k + 1 : Nat) : Int), by rw [wrap64] <;> omega, ?_⟩
          conv => whnf
          intro ρ3 w3 r3
          refine ⟨(k + 1, out.set (i + k) (t % 4294967296), t / 4294967296, w3), ⟨by dsimp only; omega, hw.tr r3.bel, by simp [hol], hlm1.set (Nat.mod_lt _ (by decide)), by dsimp only; omega, ?_, hz.set (by omega)⟩,
            Sub.gen [] r3 ⟨rfl, trivial⟩ ⟨rfl, rfl, rfl, rfl, rfl, rfl, rfl, rfl, rfl, rfl, rfl, trivial⟩ (by simp [ScH, Blk.scopd]) (by simp [ScE, SV.sc, At.sc]) (by rfl) (by simp), by dsimp only; omega⟩
          have h5 := times_step (a := xi * yk) ho hv ht
          dsimp only
          rw [show i + (k + 1) = i + k + 1 by omega, h5, val_take_succ hyk, wt_add, Nat.mul_add, Nat.add_assoc]
          congr 2
          simp only [Nat.mul_assoc, Nat.mul_left_comm, Nat.mul_comm]
        · have hkn : k = y.ls.length := by have : ¬ k < y.ls.length := by simpa using h2
                                           omega
          subst hkn
          obtain ⟨o, ho⟩ : ∃ q, out[i + y.ls.length]? = some q := ⟨_, List.getElem?_eq_getElem (by omega)⟩
          have ho0 := hz _ _ (Nat.le_refl _) ho
          subst ho0
          conv => whnf
          refine ⟨((i + y.ls.length : Nat) : Int), by rw [wrap64] <;> omega, ?_⟩
          conv => whnf
          refine ⟨(c : Int), by rw [wrapU32n, Nat.mod_eq_of_lt hc], ?_⟩
          conv => whnf
          refine ⟨⟨by omega, by omega⟩, ?_⟩
          conv => whnf
          refine ⟨by rw [U_len]; omega, U (out.set (i + y.ls.length) c), U_store out (i + y.ls.length) _ (by omega) (by simp only [Int.toNat_natCast]; omega), ?_⟩
          conv => whnf
          refine ⟨((i + 1 : Nat) : Int), by rw [wrap64] <;> omega, ?_⟩
          conv => whnf
          intro ρ3 w3 r3
          refine ⟨(i + 1, out.set (i + y.ls.length) c, w3), ⟨by dsimp only; omega, hw.tr r3.bel, by simp [hol], hlm1.set hc, ?_, ?_⟩,
            Sub.gen [] r3 ⟨rfl, trivial⟩ ⟨rfl, rfl, rfl, rfl, rfl, trivial⟩ (by simp [ScH, Blk.scopd]) (by simp [ScE, SV.sc, At.sc]) (by rfl) (by simp), by dsimp only; omega⟩
          · have h5 := val_set (x := c) ho
            dsimp only
            rw [List.take_length, hq1] at hv
            rw [val_take_succ hxi, Nat.add_mul]
            omega
          · intro j z hj hjz
            dsimp only at hj
            rw [List.getElem?_set_ne (by omega)] at hjz
            exact hz j z (by omega) hjz
    · have hin : i = x.ls.length := by have : ¬ i < x.ls.length := by simpa using h
                                       omega
      subst hin
      have hfin : val out = n * m := by rw [hv, List.take_length, hp1]
      conv => whnf
      refine callE_free (Φ := fun ρ _ v w2 => Limbs w2 (fun g => g = (ρ 0).g) v (trimL out)) (H' := []) 0 rfl (by simp) trivial rfl (fun ρ w' r => r.nn 0 _ rfl (by intros; simp) (by simp)) (fun ρ w' r => ?_) ?_
      · have hL := r.ownLimbs (id := 0) rfl hlm1 (by omega)
        rw [hol] at hL
        exact trimmed_c (fun g hg => by rw [hg]; exact (r.low 0 _ rfl (r.nn 0 _ rfl (by intros; simp) (by simp))).2) hL
      rintro ρ w' v w2 r he hb hL
      replace hw := hw.tr hb
      have hlow := r.low 0 _ rfl (r.nn 0 _ rfl (by intros; simp) (by simp))
      generalize (ρ 0).g = g at *
      have hs := he.size
      clear r he hb
      conv => whnf
      intro ρ3 w3 r3
      refine ⟨_, rfl, hw.tr r3.bel, trimL out, ?_, (trimL_spec out).2.1, ?_⟩
      · refine (hL.keep fun k hk => ?_).weak fun k hk => .inr ?_
        · rw [hk]
          exact r3.nilBy.block g (by omega) (by simp)
        · rw [hk]
          have := r3.size
          omega
      · rw [(trimL_spec out).1, hfin]
end Go.Ex

/- Shifts and the division by one limb of package exact. No condition. -/
namespace Go.Ex
open Go Go.Sx Go.Proofs

theorem or_add {o q k : Nat} (ho : o < 2 ^ k) : o ||| 2 ^ k * q = o + 2 ^ k * q := by
  rw [Nat.or_comm, ← Nat.two_pow_add_eq_or_of_lt ho, Nat.add_comm]
theorem or64u {x y : Nat} (hx : x < 18446744073709551616) (hy : y < 18446744073709551616) : IntKind.u64.wrap ((BitVec.ofInt IntKind.u64.bits x ||| BitVec.ofInt IntKind.u64.bits y).toNat : Int) = ((x ||| y : Nat) : Int) := by
  have e : ∀ z : Nat, BitVec.ofInt 64 (z : Int) = BitVec.ofNat 64 z := fun z => by
    apply BitVec.eq_of_toNat_eq
    simp
  show IntKind.u64.wrap ((BitVec.ofInt 64 x ||| BitVec.ofInt 64 y).toNat : Int) = _
  rw [e, e, BitVec.toNat_or, BitVec.toNat_ofNat, BitVec.toNat_ofNat, Nat.mod_eq_of_lt hx, Nat.mod_eq_of_lt hy]
  exact wrapU64n (Nat.or_lt_two_pow (n := 64) hx hy)
theorem shl64n {a k : Nat} (hk : k ≤ 63) (h : a * 2 ^ k < 18446744073709551616) : IntKind.u64.wrap ((a : Int) * 2 ^ min ((k : Int)).toNat IntKind.u64.bits) = ((a * 2 ^ k : Nat) : Int) := by
  have h1 : min ((k : Int)).toNat IntKind.u64.bits = k := by show min ((k : Int)).toNat 64 = k; omega
  rw [h1, show (a : Int) * 2 ^ k = ((a * 2 ^ k : Nat) : Int) by simp]
  exact wrapU64n h

theorem shift_step {out ls : List Nat} {i a o b : Nat} (ha : ls[i]? = some a) (ho : out[i]? = some o) (hz : out[i + 1]? = some 0) (hv : val out = val (ls.take i) * 2 ^ b) :
    val ((out.set i (o + a * 2 ^ b % 4294967296)).set (i + 1) (a * 2 ^ b / 4294967296)) = val (ls.take (i + 1)) * 2 ^ b := by
  have h1 := val_set (x := o + a * 2 ^ b % 4294967296) ho
  have h2 : (out.set i (o + a * 2 ^ b % 4294967296))[i + 1]? = some 0 := by rw [List.getElem?_set_ne (by omega)]; exact hz
  have h3 := val_set (x := a * 2 ^ b / 4294967296) h2
  rw [val_take_succ ha, Nat.add_mul, Nat.mul_assoc]
  rw [wt_succ] at h3
  generalize a * 2 ^ b = t at *
  have h4 := Nat.div_add_mod t 4294967296
  generalize t / 4294967296 = q at *
  generalize t % 4294967296 = r at *
  have h5 : wt i * (o + r) = wt i * o + wt i * r := Nat.mul_add _ _ _
  have h6 : 4294967296 * wt i * q = wt i * (4294967296 * q) := by rw [Nat.mul_comm 4294967296 (wt i), Nat.mul_assoc]
  rw [← h4, Nat.mul_add]
  omega

/-- a list of limbs in a new block of its own -/
def Fresh (w w2 : World) (v : Value) (ls : List Nat) : Prop := ∃ g, v = .slice (some ⟨g, 0, none⟩) ls.length ls.length ∧ w.heap.size ≤ g ∧ w2.heap[g]? = some (.cells (U ls).toArray T.uint32 (0, 0)) ∧ Lm ls

theorem shifted_c {S : Nat → Prop} {w : World} {v : Value} {ls : List Nat} {b : Nat} (hS : Old S w) (h : Limbs w S v ls) (hl : ls.length ≤ 1000000000000) (hb : b < 32) :
    Con PG N.exact_nat_shifted #[v, .int .u64 b] w (Ret w fun v' w2 => ∃ out, Fresh w w2 v' out ∧ out.length = ls.length + 1 ∧ val out = val ls * 2 ^ b) := by
  obtain ⟨x, rfl, rfl⟩ := h.la
  refine in_exact_nat_shifted (by simp) ?_
  have hp32 : 2 ^ b ≤ 2 ^ 31 := Nat.pow_le_pow_right (by decide) (by omega)
  conv => whnf
  refine ⟨((x.ls.length + 1 : Nat) : Int), by rw [wrap64] <;> omega, ?_⟩
  conv => whnf
  refine ⟨x.ls.length + 1, x.ls.length + 1, rfl, rfl, Nat.le_refl _, by omega, by omega, ?_⟩
  conv => whnf
  refine ⟨Nat × List Nat × World, fun z => ⟨[(1, .o (.v (.int .u64 b))), (5, .o (.s 0 0 (x.ls.length + 1) (x.ls.length + 1))), (13, .o (.v (.slice x.a x.ls.length x.c))), (14, .o (.v (.int .i64 x.ls.length))), (15, .o (.v (.int .i64 z.1)))],
      [(0, .arr T.uint32 (U z.2.1))], 1, [], z.2.2⟩, fun z => x.ls.length - z.1,
    fun z => z.1 ≤ x.ls.length ∧ Bel w.heap.size w z.2.2 ∧ z.2.1.length = x.ls.length + 1 ∧ Lm z.2.1 ∧ val z.2.1 = val (x.ls.take z.1) * 2 ^ b ∧ Zf z.2.1 (z.1 + 1) ∧ (∀ o, z.2.1[z.1]? = some o → o < 2 ^ b), ?_, ?_⟩
  · intro ρ w' r
    rw [U_zero] at r
    refine ⟨(0, List.replicate (x.ls.length + 1) 0, w'), ⟨by simp, r.bel, by simp, Lm.replicate _, by simp [val, val_replicate], fun j z _ hz => ?_, fun o ho => ?_⟩, Sub.gen [] r ⟨rfl, trivial⟩ ⟨rfl, rfl, rfl, rfl, rfl, trivial⟩ (by simp [ScH, Blk.scopd]) (by simp [ScE, SV.sc, At.sc]) (by rfl) (by simp)⟩
    · simp only [List.getElem?_replicate] at hz; split at hz <;> simp_all
    · simp only [List.getElem?_replicate] at ho
      split at ho
      · injection ho with ho; subst ho; exact Nat.two_pow_pos _
      · cases ho
  · rintro ⟨i, out, w1⟩ ⟨hi, hw, hol, hlm1, hv, hz, hlow⟩
    dsimp only at hi hw hol hlm1 hv hz hlow ⊢
    conv => whnf
    refine BrS.mk (fun h => ?_) (fun h => ?_)
    · have h : i < x.ls.length := by simpa using h
      obtain ⟨a, hxi⟩ : ∃ k, x.ls[i]? = some k := ⟨_, List.getElem?_eq_getElem h⟩
      obtain ⟨ad, had, hload⟩ := x.load hS hw hxi
      have hx32 := x.lm.at hxi
      obtain ⟨o, ho⟩ : ∃ q, out[i]? = some q := ⟨_, List.getElem?_eq_getElem (by omega)⟩
      obtain ⟨o1, ho1⟩ : ∃ q, out[i + 1]? = some q := ⟨_, List.getElem?_eq_getElem (by omega)⟩
      have e0 := hz _ _ (Nat.le_refl _) ho1
      subst e0
      have hlo := hlow o ho
      have hstep := shift_step hxi ho ho1 hv
      have hab : a * 2 ^ b ≤ 4294967295 * 2 ^ 31 := Nat.mul_le_mul (by omega) hp32
      have hhi : a * 2 ^ b / 4294967296 < 2 ^ b := by
        rw [Nat.div_lt_iff_lt_mul (by decide), Nat.mul_comm (2 ^ b)]
        exact Nat.mul_lt_mul_of_pos_right hx32 (Nat.two_pow_pos b)
      have hor : o ||| a * 2 ^ b % 4294967296 = o + a * 2 ^ b % 4294967296 := by
        have : a * 2 ^ b % 4294967296 = 2 ^ b * (a % 2 ^ (32 - b)) := by
          rw [show (4294967296 : Nat) = 2 ^ (32 - b) * 2 ^ b by rw [← Nat.pow_add, Nat.sub_add_cancel (by omega)], Nat.mul_mod_mul_right, Nat.mul_comm]
        rw [this]
        exact or_add hlo
      have hsm : o + a * 2 ^ b % 4294967296 < 4294967296 := by
        rw [← hor]
        exact or_lt32 (by omega) (Nat.mod_lt _ (by decide))
      conv => whnf
      refine ⟨ad, had, ⟨by omega, by omega⟩, ?_⟩
      conv => whnf
      refine ⟨.int .u32 a, hload _ _ _, ?_⟩
      conv => whnf
      refine ⟨(a : Int), wrapU64n (by omega), ?_⟩
      conv => whnf
      refine ⟨by omega, ((a * 2 ^ b : Nat) : Int), shl64n (by omega) (by omega), ?_⟩
      generalize ht : a * 2 ^ b = t at *
      conv => whnf
      refine ⟨⟨by omega, by omega⟩, ?_⟩
      conv => whnf
      refine ⟨.int .u32 o, by rw [Int.toNat_natCast, Nat.zero_add, Nat.mul_one]; exact U_get ho, ?_⟩
      conv => whnf
      refine ⟨((t % 4294967296 : Nat) : Int), wrapU32n _, ?_⟩
      conv => whnf
      refine ⟨((o + t % 4294967296 : Nat) : Int), by rw [← hor]; exact or32 (by omega) (Nat.mod_lt _ (by decide)), ?_⟩
      conv => whnf
      refine ⟨⟨by omega, by omega⟩, ?_⟩
      conv => whnf
      refine ⟨by rw [U_len]; omega, U (out.set i (o + t % 4294967296)), U_store out i _ (by omega) (by simp), ?_⟩
      conv => whnf
      refine ⟨((i + 1 : Nat) : Int), by rw [wrap64] <;> omega, ?_⟩
      conv => whnf
      refine ⟨by decide, ((t / 4294967296 : Nat) : Int), fdiv_shr 32 (by decide), ?_⟩
      conv => whnf
      refine ⟨((t / 4294967296 : Nat) : Int), by rw [wrapU32n]; omega, ?_⟩
      conv => whnf
      refine ⟨⟨by omega, by omega⟩, ?_⟩
      conv => whnf
      refine ⟨by rw [U_len]; simp; omega, U ((out.set i (o + t % 4294967296)).set (i + 1) (t / 4294967296)), U_store _ (i + 1) _ (by simp; omega) (by simp only [Int.toNat_natCast]; omega), ?_⟩
      conv => whnf
      refine ⟨((i + 1 : Nat) : Int), by rw [wrap64] <;> omega, ?_⟩
      conv => whnf
      intro ρ3 w3 r3
      refine ⟨(i + 1, (out.set i (o + t % 4294967296)).set (i + 1) (t / 4294967296), w3), ⟨by dsimp only; omega, hw.tr r3.bel, by simp [hol], (hlm1.set hsm).set (by omega), hstep, fun j z hj hjz => ?_, fun o2 ho2 => ?_⟩,
        Sub.gen [] r3 ⟨rfl, trivial⟩ ⟨rfl, rfl, rfl, rfl, rfl, trivial⟩ (by simp [ScH, Blk.scopd]) (by simp [ScE, SV.sc, At.sc]) (by rfl) (by simp), by dsimp only; omega⟩
      · dsimp only at hj
        rw [List.getElem?_set_ne (by omega), List.getElem?_set_ne (by omega)] at hjz
        exact hz j z (by omega) hjz
      · rw [List.getElem?_set_self (by simp; omega)] at ho2
        injection ho2 with ho2
        omega
    · have hin : i = x.ls.length := by have : ¬ i < x.ls.length := by simpa using h
                                       omega
      subst hin
      rw [List.take_length] at hv
      conv => whnf
      intro ρ3 w3 r3
      refine ⟨_, rfl, hw.tr r3.bel, out, ⟨(ρ3 0).g, by rw [hol]; rfl, (r3.low 0 _ rfl (r3.nn 0 _ rfl (by intros; simp) (by simp))).1, r3.arr 0 _ _ rfl, hlm1⟩, hol, hv⟩
end Go.Ex

/- Shift back and the division by one limb of package exact. No condition. -/
namespace Go.Ex
open Go Go.Sx Go.Proofs

theorem back_step {out ls : List Nat} {i a d t b q : Nat} (ha32 : a < 4294967296) (ha : ls[i]? = some a) (hd : out[i]? = some d) (hb : b ≤ 32) (ht : t = a + 4294967296 * ls.getD (i + 1) 0) (hq : q = t / 2 ^ b % 4294967296) {V : Nat} (hv : val (out.take i) + wt i * (val (ls.drop i) / 2 ^ b) = V) :
    val ((out.set i q).take (i + 1)) + wt (i + 1) * (val (ls.drop (i + 1)) / 2 ^ b) = V := by
  have hi := (List.getElem?_eq_some_iff.1 hd).1
  have h1 : (out.set i q)[i]? = some q := by rw [List.getElem?_set_self hi]
  rw [val_take_succ h1, List.take_set_of_le (Nat.le_refl _), wt_succ, ← hv]
  have hN := val_drop ha
  have h2 : val (ls.drop i) / 2 ^ b = q + 4294967296 * (val (ls.drop (i + 1)) / 2 ^ b) := by
    have e1 : val (ls.drop i) / 2 ^ b / 4294967296 = val (ls.drop (i + 1)) / 2 ^ b := by
      rw [Nat.div_div_eq_div_mul, Nat.mul_comm, ← Nat.div_div_eq_div_mul]
      congr 1
      omega
    have e2 : val (ls.drop i) / 2 ^ b % 4294967296 = q := by
      have h3 : ∃ z, val (ls.drop i) = t + 2 ^ b * (4294967296 * z) := by
        cases hx : ls[i + 1]? with
        | some y =>
          have := val_drop hx
          refine ⟨2 ^ (32 - b) * val (ls.drop (i + 1 + 1)), ?_⟩
          have h4 : 2 ^ b * (4294967296 * (2 ^ (32 - b) * val (ls.drop (i + 1 + 1)))) = 18446744073709551616 * val (ls.drop (i + 1 + 1)) := by
            rw [Nat.mul_left_comm, ← Nat.mul_assoc (2 ^ b), ← Nat.pow_add, Nat.add_sub_cancel' hb, ← Nat.mul_assoc]
          rw [h4, hN, this, ht, List.getD, hx]
          simp only [Option.getD_some]
          omega
        | none =>
          refine ⟨0, ?_⟩
          have h5 : ls.length ≤ i + 1 := List.getElem?_eq_none_iff.1 hx
          rw [hN, List.drop_of_length_le h5, ht, List.getD, hx]
          simp [val]
      obtain ⟨z, hz⟩ := h3
      rw [hz, Nat.add_mul_div_left _ _ (Nat.two_pow_pos b), Nat.add_mul_mod_self_left, hq]
    have := Nat.div_add_mod (val (ls.drop i) / 2 ^ b) 4294967296
    rw [e1, e2] at this
    omega
  rw [h2, Nat.mul_add, Nat.mul_comm 4294967296 (wt i), Nat.mul_assoc]
  omega

theorem back_c {S : Nat → Prop} {w : World} {v : Value} {ls : List Nat} {b : Nat} (hS : Old S w) (h : Limbs w S v ls) (hl : ls.length ≤ 1000000000000) (hb : b < 32) :
    Con PG N.exact_nat_back #[v, .int .u64 b] w (Ret w fun v' w2 => NatR w2 (Nw (fun _ => False) w w2) v' (val ls / 2 ^ b)) := by
  obtain ⟨x, rfl, rfl⟩ := h.la
  refine in_exact_nat_back (by simp) ?_
  conv => whnf
  refine ⟨x.ls.length, x.ls.length, rfl, rfl, Nat.le_refl _, by omega, by omega, ?_⟩
  conv => whnf
  refine ⟨Nat × List Nat × World, fun z => ⟨[(0, .o (.v (.slice x.a x.ls.length x.c))), (1, .o (.v (.int .u64 b))), (5, .o (.s 0 0 x.ls.length x.ls.length)), (12, .o (.v (.int .i64 x.ls.length))), (13, .o (.v (.int .i64 z.1)))],
      [(0, .arr T.uint32 (U z.2.1))], 1, [], z.2.2⟩, fun z => x.ls.length - z.1,
    fun z => z.1 ≤ x.ls.length ∧ Bel w.heap.size w z.2.2 ∧ z.2.1.length = x.ls.length ∧ Lm z.2.1 ∧ val (z.2.1.take z.1) + wt z.1 * (val (x.ls.drop z.1) / 2 ^ b) = val x.ls / 2 ^ b, ?_, ?_⟩
  · intro ρ w' r
    rw [U_zero] at r
    exact ⟨(0, List.replicate x.ls.length 0, w'), ⟨by simp, r.bel, by simp, Lm.replicate _, by simp [val, wt_zero]⟩, Sub.gen [] r ⟨rfl, trivial⟩ ⟨rfl, rfl, rfl, rfl, rfl, trivial⟩ (by simp [ScH, Blk.scopd]) (by simp [ScE, SV.sc, At.sc]) (by rfl) (by simp)⟩
  · rintro ⟨i, out, w1⟩ ⟨hi, hw, hol, hlm1, hv⟩
    dsimp only at hi hw hol hlm1 hv ⊢
    conv => whnf
    refine BrS.mk (fun h => ?_) (fun h => ?_)
    · have h : i < x.ls.length := by simpa using h
      obtain ⟨a, hxi⟩ : ∃ k, x.ls[i]? = some k := ⟨_, List.getElem?_eq_getElem h⟩
      obtain ⟨ad, had, hload⟩ := x.load hS hw hxi
      have hx32 := x.lm.at hxi
      obtain ⟨d, hd⟩ : ∃ q, out[i]? = some q := ⟨_, List.getElem?_eq_getElem (by omega)⟩
      conv => whnf
      refine ⟨ad, had, ⟨by omega, by omega⟩, ?_⟩
      conv => whnf
      refine ⟨.int .u32 a, hload _ _ _, ?_⟩
      conv => whnf
      refine ⟨(a : Int), wrapU64n (by omega), ?_⟩
      conv => whnf
      refine ⟨((i + 1 : Nat) : Int), by rw [wrap64] <;> omega, ?_⟩
      conv => whnf
      refine BrS.mk (fun h2 => ?_) (fun h2 => ?_)
      · have h2 : i + 1 < x.ls.length := by have : ((i + 1 : Nat) : Int) < x.ls.length := of_decide_eq_true h2
                                            omega
        obtain ⟨y, hy⟩ : ∃ k, x.ls[i + 1]? = some k := ⟨_, List.getElem?_eq_getElem h2⟩
        obtain ⟨ad2, had2, hload2⟩ := x.load hS hw hy
        have hy32 := x.lm.at hy
        have hgd : x.ls.getD (i + 1) 0 = y := by simp [List.getD, hy]
        have hor : a ||| y * 2 ^ 32 = a + 4294967296 * y := by
          rw [Nat.mul_comm]; exact or_add (k := 32) hx32
        conv => whnf
        refine ⟨((i + 1 : Nat) : Int), by rw [wrap64] <;> omega, ?_⟩
        conv => whnf
        refine ⟨ad2, had2, ⟨by omega, by omega⟩, ?_⟩
        conv => whnf
        refine ⟨.int .u32 y, hload2 _ _ _, ?_⟩
        conv => whnf
        refine ⟨(y : Int), wrapU64n (by omega), ?_⟩
        conv => whnf
        refine ⟨by decide, ((y * 2 ^ 32 : Nat) : Int), shl64n (k := 32) (by decide) (by omega), ?_⟩
        conv => whnf
        refine ⟨((a + 4294967296 * y : Nat) : Int), by rw [or64u (by omega) (by omega), hor], ?_⟩
        conv => whnf
        refine ⟨by omega, (((a + 4294967296 * y) / 2 ^ b : Nat) : Int), fdiv_shr b (by omega), ?_⟩
        conv => whnf
        refine ⟨(((a + 4294967296 * y) / 2 ^ b % 4294967296 : Nat) : Int), wrapU32n _, ?_⟩
        have hstep := back_step (t := a + 4294967296 * y) hx32 hxi hd (by omega) (by rw [hgd]) rfl hv
        generalize hq : (a + 4294967296 * y) / 2 ^ b % 4294967296 = q at *
        have hq32 : q < 4294967296 := by rw [← hq]; exact Nat.mod_lt _ (by decide)
        conv => whnf
        refine ⟨⟨by omega, by omega⟩, ?_⟩
        conv => whnf
        refine ⟨by rw [U_len]; omega, U (out.set i q), U_store out i _ (by omega) (by simp), ?_⟩
        conv => whnf
        refine ⟨((i + 1 : Nat) : Int), by rw [wrap64] <;> omega, ?_⟩
        conv => whnf
        intro ρ3 w3 r3
        exact ⟨(i + 1, out.set i q, w3), ⟨by dsimp only; omega, hw.tr r3.bel, by simp [hol], hlm1.set hq32, hstep⟩,
          Sub.gen [] r3 ⟨rfl, trivial⟩ ⟨rfl, rfl, rfl, rfl, rfl, trivial⟩ (by simp [ScH, Blk.scopd]) (by simp [ScE, SV.sc, At.sc]) (by rfl) (by simp), by dsimp only; omega⟩
      · have h2 : ¬ i + 1 < x.ls.length := by have : ¬ ((i + 1 : Nat) : Int) < x.ls.length := of_decide_eq_false h2
                                              omega
        have hgd : x.ls.getD (i + 1) 0 = 0 := by simp [List.getD, List.getElem?_eq_none (show x.ls.length ≤ i + 1 by omega)]
        conv => whnf
        refine ⟨by omega, ((a / 2 ^ b : Nat) : Int), fdiv_shr b (by omega), ?_⟩
        conv => whnf
        refine ⟨((a / 2 ^ b % 4294967296 : Nat) : Int), wrapU32n _, ?_⟩
        have hstep := back_step (t := a) hx32 hxi hd (by omega) (by rw [hgd]; omega) rfl hv
        generalize hq : a / 2 ^ b % 4294967296 = q at *
        have hq32 : q < 4294967296 := by rw [← hq]; exact Nat.mod_lt _ (by decide)
        conv => whnf
        refine ⟨⟨by omega, by omega⟩, ?_⟩
        conv => whnf
        refine ⟨by rw [U_len]; omega, U (out.set i q), U_store out i _ (by omega) (by simp), ?_⟩
        conv => whnf
        refine ⟨((i + 1 : Nat) : Int), by rw [wrap64] <;> omega, ?_⟩
        conv => whnf
        intro ρ3 w3 r3
        exact ⟨(i + 1, out.set i q, w3), ⟨by dsimp only; omega, hw.tr r3.bel, by simp [hol], hlm1.set hq32, hstep⟩,
          Sub.gen [] r3 ⟨rfl, trivial⟩ ⟨rfl, rfl, rfl, rfl, rfl, trivial⟩ (by simp [ScH, Blk.scopd]) (by simp [ScE, SV.sc, At.sc]) (by rfl) (by simp), by dsimp only; omega⟩
    · have hin : i = x.ls.length := by have : ¬ i < x.ls.length := by simpa using h
                                       omega
      subst hin
      have hfin : val out = val x.ls / 2 ^ b := by
        rw [List.drop_length, List.take_of_length_le (by omega)] at hv
        simpa [val] using hv
      conv => whnf
      refine callE_free (Φ := fun ρ _ v w2 => Limbs w2 (fun g => g = (ρ 0).g) v (trimL out)) (H' := []) 0 rfl (by simp) trivial rfl (fun ρ w' r => r.nn 0 _ rfl (by intros; simp) (by simp)) (fun ρ w' r => ?_) ?_
      · have hL := r.ownLimbs (id := 0) rfl hlm1 (by omega)
        rw [hol] at hL
        exact trimmed_c (fun g hg => by rw [hg]; exact (r.low 0 _ rfl (r.nn 0 _ rfl (by intros; simp) (by simp))).2) hL
      rintro ρ w' v w2 r he hb hL
      replace hw := hw.tr hb
      have hlow := r.low 0 _ rfl (r.nn 0 _ rfl (by intros; simp) (by simp))
      generalize (ρ 0).g = g at *
      have hs := he.size
      clear r he hb
      conv => whnf
      intro ρ3 w3 r3
      refine ⟨_, rfl, hw.tr r3.bel, trimL out, ?_, (trimL_spec out).2.1, ?_⟩
      · refine (hL.keep fun k hk => ?_).weak fun k hk => .inr ?_
        · rw [hk]
          exact r3.nilBy.block g (by omega) (by simp)
        · rw [hk]
          have := r3.size
          omega
      · rw [(trimL_spec out).1, hfin]
end Go.Ex

/- The division by one limb of package exact. No condition. -/
namespace Go.Ex
open Go Go.Sx Go.Proofs

theorem short_step {out ls : List Nat} {k by_ rest x d t : Nat} (hx : ls[k]? = some x) (hd : out[k]? = some d) (ht : t = rest * 4294967296 + x)
    (hv : val (ls.drop (k + 1)) = by_ * val (out.drop (k + 1)) + rest) : val (ls.drop k) = by_ * val ((out.set k (t / by_)).drop k) + t % by_ := by
  have hi := (List.getElem?_eq_some_iff.1 hd).1
  have h1 : (out.set k (t / by_))[k]? = some (t / by_) := by rw [List.getElem?_set_self hi]
  rw [val_drop h1, List.drop_set_of_lt (show k < k + 1 by omega), val_drop hx, hv, Nat.mul_add, Nat.mul_add]
  have h2 := Nat.div_add_mod t by_
  rw [Nat.mul_left_comm by_]
  omega

theorem quo64n {t b : Nat} (h : t < 18446744073709551616) : IntKind.u64.wrap ((t : Int).tdiv (b : Int)) = ((t / b : Nat) : Int) := by
  have h1 := Nat.div_le_self t b
  rw [Int.tdiv_eq_ediv_of_nonneg (by omega), ← Int.natCast_ediv]
  exact wrapU64n (by omega)
theorem rem64n (t b : Nat) : (t : Int).tmod (b : Int) = ((t % b : Nat) : Int) := by
  rw [Int.tmod_eq_emod_of_nonneg (by omega), ← Int.natCast_emod]

theorem short_c {S : Nat → Prop} {w : World} {v : Value} {ls : List Nat} {b : Nat} (hS : Old S w) (h : Limbs w S v ls) (hl : ls.length ≤ 1000000000000) (hb : 0 < b) (hb2 : b < 4294967296) :
    Con PG N.exact_nat_short #[v, .int .u32 b] w (Ret w fun v' w2 => ∃ q, v' = .tuple #[q, .int .u32 ((val ls % b : Nat) : Int)] ∧ NatR w2 (Nw (fun _ => False) w w2) q (val ls / b)) := by
  obtain ⟨x, rfl, rfl⟩ := h.la
  refine in_exact_nat_short (by simp) ?_
  conv => whnf
  refine ⟨x.ls.length, x.ls.length, rfl, rfl, Nat.le_refl _, by omega, by omega, ?_⟩
  conv => whnf
  refine ⟨(x.ls.length : Int) - 1, by rw [wrap64] <;> omega, ?_⟩
  conv => whnf
  refine ⟨Nat × Nat × List Nat × World, fun z => ⟨[(0, .o (.v (.slice x.a x.ls.length x.c))), (1, .o (.v (.int .u32 b))), (4, .o (.v (.slice none 0 0))), (5, .o (.v (.int .u32 0))), (6, .o (.s 0 0 x.ls.length x.ls.length)), (7, .o (.v (.int .u64 z.2.1))), (8, .o (.v (.int .i64 ((z.1 : Int) - 1))))],
      [(0, .arr T.uint32 (U z.2.2.1))], 1, [], z.2.2.2⟩, fun z => z.1,
    fun z => z.1 ≤ x.ls.length ∧ Bel w.heap.size w z.2.2.2 ∧ z.2.2.1.length = x.ls.length ∧ Lm z.2.2.1 ∧ z.2.1 < b ∧ val (x.ls.drop z.1) = b * val (z.2.2.1.drop z.1) + z.2.1, ?_, ?_⟩
  · intro ρ w' r
    rw [U_zero] at r
    exact ⟨(x.ls.length, 0, List.replicate x.ls.length 0, w'), ⟨by simp, r.bel, by simp, Lm.replicate _, by simpa using hb, by simp [val]⟩, Sub.gen [] r ⟨rfl, trivial⟩ ⟨rfl, rfl, rfl, rfl, rfl, rfl, rfl, trivial⟩ (by simp [ScH, Blk.scopd]) (by simp [ScE, SV.sc, At.sc]) (by rfl) (by simp)⟩
  · rintro ⟨k, rest, out, w1⟩ ⟨hi, hw, hol, hlm1, hr, hv⟩
    dsimp only at hi hw hol hlm1 hr hv ⊢
    conv => whnf
    refine BrS.mk (fun h => ?_) (fun h => ?_)
    · have h : (k : Int) - 1 ≥ 0 := of_decide_eq_true h
      obtain ⟨k, rfl⟩ : ∃ q, k = q + 1 := ⟨k - 1, by omega⟩
      rw [show ((k + 1 : Nat) : Int) - 1 = (k : Int) by omega]
      obtain ⟨a, hxi⟩ : ∃ q, x.ls[k]? = some q := ⟨_, List.getElem?_eq_getElem (by omega)⟩
      obtain ⟨ad, had, hload⟩ := x.load hS hw hxi
      have hx32 := x.lm.at hxi
      obtain ⟨d, hd⟩ : ∃ q, out[k]? = some q := ⟨_, List.getElem?_eq_getElem (by omega)⟩
      conv => whnf
      refine ⟨by decide, ((rest * 2 ^ 32 : Nat) : Int), shl64n (k := 32) (by decide) (by omega), ?_⟩
      conv => whnf
      refine ⟨ad, had, ⟨by omega, by omega⟩, ?_⟩
      conv => whnf
      refine ⟨.int .u32 a, hload _ _ _, ?_⟩
      conv => whnf
      refine ⟨(a : Int), wrapU64n (by omega), ?_⟩
      conv => whnf
      have hor : rest * 2 ^ 32 ||| a = rest * 4294967296 + a := by
        rw [Nat.or_comm, Nat.mul_comm, or_add (k := 32) hx32]; omega
      refine ⟨((rest * 4294967296 + a : Nat) : Int), by rw [or64u (by omega) (by omega), hor], ?_⟩
      conv => whnf
      generalize ht : rest * 4294967296 + a = t
      have ht64 : t < 18446744073709551616 := by omega
      refine drawn_of_pi hτ hmix [.x 0, .x 1, .x 2, .x 3, .x 4, .x 5, .x 6, .x 7, .x 8, .x 9, .x 10, .x 11, .x 12, .x 13] (by kernel_rfl) (by kernel_rfl) ?_
      conv => whnf
      refine ⟨(b : Int), wrapU64n (by omega), ?_⟩
      conv => whnf
      refine ⟨by omega, ((t / b : Nat) : Int), quo64n ht64, ?_⟩
      have hq : t / b < 4294967296 := by
        rw [Nat.div_lt_iff_lt_mul hb]
        have := Nat.mul_le_mul_right 4294967296 hr
        rw [Nat.succ_eq_add_one, Nat.add_mul] at this
        omega
      have hm : t % b < b := Nat.mod_lt _ hb
      have hstep := short_step hxi hd ht.symm hv
      have hw32 : IntKind.u32.wrap ((t / b : Nat) : Int) = ((t / b : Nat) : Int) := by rw [wrapU32n, Nat.mod_eq_of_lt hq]
      have hrem := rem64n t b
      generalize t / b = q at *
      generalize t % b = m at *
      conv => whnf
      refine ⟨(q : Int), hw32, ?_⟩
      conv => whnf
      refine ⟨(b : Int), wrapU64n (by omega), ?_⟩
      conv => whnf
      refine ⟨by omega, (m : Int), hrem, ?_⟩
      conv => whnf
      refine ⟨⟨by omega, by omega⟩, ?_⟩
      conv => whnf
      refine ⟨by rw [U_len]; omega, U (out.set k q), U_store out k _ (by omega) (by simp), ?_⟩
      conv => whnf
      refine ⟨(k : Int) - 1, by rw [wrap64] <;> omega, ?_⟩
      conv => whnf
      intro ρ3 w3 r3
      exact ⟨(k, m, out.set k q, w3), ⟨by dsimp only; omega, hw.tr r3.bel, by simp [hol], hlm1.set hq, hm, hstep⟩,
        Sub.gen [] r3 ⟨rfl, trivial⟩ ⟨rfl, rfl, rfl, rfl, rfl, rfl, rfl, trivial⟩ (by simp [ScH, Blk.scopd]) (by simp [ScE, SV.sc, At.sc]) (by rfl) (by simp), by dsimp only; omega⟩
    · have hk0 : k = 0 := by have : ¬ (k : Int) - 1 ≥ 0 := of_decide_eq_false h
                             omega
      subst hk0
      rw [List.drop_zero, List.drop_zero] at hv
      have hdm : val x.ls / b = val out ∧ val x.ls % b = rest := by
        rw [hv]
        exact ⟨by rw [Nat.mul_add_div hb, Nat.div_eq_of_lt hr, Nat.add_zero], by rw [Nat.mul_add_mod, Nat.mod_eq_of_lt hr]⟩
      rw [hdm.1, hdm.2]
      conv => whnf
      refine callE_free (Φ := fun ρ _ v w2 => Limbs w2 (fun g => g = (ρ 0).g) v (trimL out)) (H' := []) 0 rfl (by simp) trivial rfl (fun ρ w' r => r.nn 0 _ rfl (by intros; simp) (by simp)) (fun ρ w' r => ?_) ?_
      · have hL := r.ownLimbs (id := 0) rfl hlm1 (by omega)
        rw [hol] at hL
        exact trimmed_c (fun g hg => by rw [hg]; exact (r.low 0 _ rfl (r.nn 0 _ rfl (by intros; simp) (by simp))).2) hL
      rintro ρ w' v w2 r he hb hL
      replace hw := hw.tr hb
      have hlow := r.low 0 _ rfl (r.nn 0 _ rfl (by intros; simp) (by simp))
      generalize (ρ 0).g = g at *
      have hs := he.size
      clear r he hb
      conv => whnf
      refine ⟨(rest : Int), by rw [wrapU32n, Nat.mod_eq_of_lt (by omega)], ?_⟩
      conv => whnf
      intro ρ3 w3 r3
      refine ⟨_, rfl, hw.tr r3.bel, v, rfl, trimL out, ?_, (trimL_spec out).2.1, (trimL_spec out).1⟩
      refine (hL.keep fun k hk => ?_).weak fun k hk => .inr ?_
      · rw [hk]
        exact r3.nilBy.block g (by omega) (by simp)
      · rw [hk]
        have := r3.size
        omega
end Go.Ex

/- Bits of a limb; clones. No condition. -/
namespace Go.Ex
open Go Go.Sx Go.Proofs

def blen (n : Nat) : Nat := if n = 0 then 0 else n.log2 + 1
theorem log2_div {x k : Nat} (h : 2 ^ k ≤ x) : x.log2 = (x / 2 ^ k).log2 + k := by
  have hp := Nat.two_pow_pos k
  have hy : x / 2 ^ k ≠ 0 := by have := Nat.div_pos h hp; omega
  have h1 := Nat.log2_self_le hy
  have h2 := @Nat.lt_log2_self (x / 2 ^ k)
  rw [Nat.log2_eq_iff (by omega)]
  refine ⟨?_, ?_⟩
  · rw [Nat.pow_add]; exact (Nat.le_div_iff_mul_le hp).1 h1
  · rw [show (x / 2 ^ k).log2 + k + 1 = (x / 2 ^ k).log2 + 1 + k by omega, Nat.pow_add]; exact (Nat.div_lt_iff_lt_mul hp).1 h2
theorem blen_div {x k : Nat} (h : 2 ^ k ≤ x) : blen x = k + blen (x / 2 ^ k) := by
  have hp := Nat.two_pow_pos k
  have hy : x / 2 ^ k ≠ 0 := by have := Nat.div_pos h hp; omega
  rw [blen, blen, if_neg hy, if_neg (by omega), log2_div h]
  omega
theorem wrapU8n {n : Nat} (h : n < 256) : IntKind.u8.wrap (n : Int) = (n : Int) := by
  show ((n : Int) % 256) = _
  omega
theorem blen_u8 {n : Nat} (h : n < 256) : (UInt8.ofNat (blen n)).toNat = blen n := by
  have : ∀ n, n < 256 → (UInt8.ofNat (blen n)).toNat = blen n := by decide +kernel
  exact this n h

theorem len32_tail {x : Nat} (h : x < 256) : blen x ≤ 8 := by
  have : ∀ n, n < 256 → blen n ≤ 8 := by decide +kernel
  exact this x h

theorem tab_c (n : Nat) (h : n < 256) : (⟨#[0, 1, 2, 2, 3, 3, 3, 3, 4, 4, 4, 4, 4, 4, 4, 4, 5, 5, 5, 5, 5, 5, 5, 5, 5, 5, 5, 5, 5, 5, 5, 5, 6, 6, 6, 6, 6, 6, 6, 6, 6, 6, 6, 6, 6, 6, 6, 6, 6, 6, 6, 6, 6, 6, 6, 6, 6, 6, 6, 6, 6, 6, 6, 6, 7, 7, 7, 7, 7, 7, 7, 7, 7, 7, 7, 7, 7, 7, 7, 7, 7, 7, 7, 7, 7, 7, 7, 7, 7, 7, 7, 7, 7, 7, 7, 7, 7, 7, 7, 7, 7, 7, 7, 7, 7, 7, 7, 7, 7, 7, 7, 7, 7, 7, 7, 7, 7, 7, 7, 7, 7, 7, 7, 7, 7, 7, 7, 7, 8, 8, 8, 8, 8, 8, 8, 8, 8, 8, 8, 8, 8, 8, 8, 8, 8, 8, 8, 8, 8, 8, 8, 8, 8, 8, 8, 8, 8, 8, 8, 8, 8, 8, 8, 8, 8, 8, 8, 8, 8, 8, 8, 8, 8, 8, 8, 8, 8, 8, 8, 8, 8, 8, 8, 8, 8, 8, 8, 8, 8, 8, 8, 8, 8, 8, 8, 8, 8, 8, 8, 8, 8, 8, 8, 8, 8, 8, 8, 8, 8, 8, 8, 8, 8, 8, 8, 8, 8, 8, 8, 8, 8, 8, 8, 8, 8, 8, 8, 8, 8, 8, 8, 8, 8, 8, 8, 8, 8, 8, 8, 8, 8, 8, 8, 8, 8, 8, 8, 8, 8, 8, 8, 8, 8, 8, 8, 8]⟩ : ByteArray)[((n : Nat) : Int).toNat]? = some (UInt8.ofNat (blen n)) := by
  have : ∀ n, n < 256 → (⟨#[0, 1, 2, 2, 3, 3, 3, 3, 4, 4, 4, 4, 4, 4, 4, 4, 5, 5, 5, 5, 5, 5, 5, 5, 5, 5, 5, 5, 5, 5, 5, 5, 6, 6, 6, 6, 6, 6, 6, 6, 6, 6, 6, 6, 6, 6, 6, 6, 6, 6, 6, 6, 6, 6, 6, 6, 6, 6, 6, 6, 6, 6, 6, 6, 7, 7, 7, 7, 7, 7, 7, 7, 7, 7, 7, 7, 7, 7, 7, 7, 7, 7, 7, 7, 7, 7, 7, 7, 7, 7, 7, 7, 7, 7, 7, 7, 7, 7, 7, 7, 7, 7, 7, 7, 7, 7, 7, 7, 7, 7, 7, 7, 7, 7, 7, 7, 7, 7, 7, 7, 7, 7, 7, 7, 7, 7, 7, 7, 8, 8, 8, 8, 8, 8, 8, 8, 8, 8, 8, 8, 8, 8, 8, 8, 8, 8, 8, 8, 8, 8, 8, 8, 8, 8, 8, 8, 8, 8, 8, 8, 8, 8, 8, 8, 8, 8, 8, 8, 8, 8, 8, 8, 8, 8, 8, 8, 8, 8, 8, 8, 8, 8, 8, 8, 8, 8, 8, 8, 8, 8, 8, 8, 8, 8, 8, 8, 8, 8, 8, 8, 8, 8, 8, 8, 8, 8, 8, 8, 8, 8, 8, 8, 8, 8, 8, 8, 8, 8, 8, 8, 8, 8, 8, 8, 8, 8, 8, 8, 8, 8, 8, 8, 8, 8, 8, 8, 8, 8, 8, 8, 8, 8, 8, 8, 8, 8, 8, 8, 8, 8, 8, 8, 8, 8, 8, 8]⟩ : ByteArray)[n]? = some (UInt8.ofNat (blen n)) := by decide +kernel
  exact this n h

theorem len32_c (x : Nat) (w : World) (hx : x < 4294967296) : Con PG N.bits_Len32 #[.int .u32 x] w (Ret w fun v _ => v = .int .i64 (blen x)) := by
  refine in_bits_Len32 (by simp) ?_
  conv => whnf
  refine BrS.mk (fun h => ?_) (fun h => ?_)
  · have h : 65536 ≤ x := by have := of_decide_eq_true h; omega
    conv => whnf
    refine ⟨by decide, ((x / 2 ^ 16 : Nat) : Int), fdiv_shr32 16 (by decide), ?_⟩
    have hb := blen_div (k := 16) h
    have hy : x / 2 ^ 16 < 65536 := by omega
    rw [hb]
    generalize x / 2 ^ 16 = y at *
    conv => whnf
    refine BrS.mk (fun h2 => ?_) (fun h2 => ?_)
    · have h2 : 256 ≤ y := by have := of_decide_eq_true h2; omega
      conv => whnf
      refine ⟨by decide, ((y / 2 ^ 8 : Nat) : Int), fdiv_shr32 8 (by decide), ?_⟩
      have hb2 := blen_div (k := 8) h2
      have hz : y / 2 ^ 8 < 256 := by omega
      rw [hb2]
      generalize y / 2 ^ 8 = z at *
      conv => whnf
      refine ⟨24, by decide, ?_⟩
      conv => whnf
      refine ⟨(z : Int), wrapU8n hz, ?_⟩
      conv => whnf
      refine opS_index (b := UInt8.ofNat (blen z)) ((hτ _ _ rfl).i3 rfl) rfl rfl (by omega) (tab_c z hz) (fun ρ1 w1 r1 => ?_)
      rw [blen_u8 hz]
      have ht := len32_tail hz
      conv => whnf
      refine ⟨(blen z : Int), by rw [wrap64] <;> omega, ?_⟩
      conv => whnf
      refine ⟨((24 + blen z : Nat) : Int), by rw [wrap64] <;> omega, ?_⟩
      conv => whnf
      intro ρ3 w3 r3
      exact ⟨_, rfl, r1.bel.tr r3.bel, by rw [← Nat.add_assoc]; rfl⟩
    · have hy : y < 256 := by have := of_decide_eq_false h2; omega
      conv => whnf
      refine ⟨(y : Int), wrapU8n hy, ?_⟩
      conv => whnf
      refine opS_index (b := UInt8.ofNat (blen y)) ((hτ _ _ rfl).i3 rfl) rfl rfl (by omega) (tab_c y hy) (fun ρ1 w1 r1 => ?_)
      rw [blen_u8 hy]
      have ht := len32_tail hy
      conv => whnf
      refine ⟨(blen y : Int), by rw [wrap64] <;> omega, ?_⟩
      conv => whnf
      refine ⟨((16 + blen y : Nat) : Int), by rw [wrap64] <;> omega, ?_⟩
      conv => whnf
      intro ρ3 w3 r3
      exact ⟨_, rfl, r1.bel.tr r3.bel, by rfl⟩
  · have h : x < 65536 := by have := of_decide_eq_false h; omega
    conv => whnf
    refine BrS.mk (fun h2 => ?_) (fun h2 => ?_)
    · have h2 : 256 ≤ x := by have := of_decide_eq_true h2; omega
      conv => whnf
      refine ⟨by decide, ((x / 2 ^ 8 : Nat) : Int), fdiv_shr32 8 (by decide), ?_⟩
      have hb2 := blen_div (k := 8) h2
      have hz : x / 2 ^ 8 < 256 := by omega
      rw [hb2]
      generalize x / 2 ^ 8 = z at *
      conv => whnf
      refine ⟨8, by decide, ?_⟩
      conv => whnf
      refine ⟨(z : Int), wrapU8n hz, ?_⟩
      conv => whnf
      refine opS_index (b := UInt8.ofNat (blen z)) ((hτ _ _ rfl).i3 rfl) rfl rfl (by omega) (tab_c z hz) (fun ρ1 w1 r1 => ?_)
      rw [blen_u8 hz]
      have ht := len32_tail hz
      conv => whnf
      refine ⟨(blen z : Int), by rw [wrap64] <;> omega, ?_⟩
      conv => whnf
      refine ⟨((8 + blen z : Nat) : Int), by rw [wrap64] <;> omega, ?_⟩
      conv => whnf
      intro ρ3 w3 r3
      exact ⟨_, rfl, r1.bel.tr r3.bel, by rfl⟩
    · have hx : x < 256 := by have := of_decide_eq_false h2; omega
      conv => whnf
      refine ⟨(x : Int), wrapU8n hx, ?_⟩
      conv => whnf
      refine opS_index (b := UInt8.ofNat (blen x)) ((hτ _ _ rfl).i3 rfl) rfl rfl (by omega) (tab_c x hx) (fun ρ1 w1 r1 => ?_)
      rw [blen_u8 hx]
      have ht := len32_tail hx
      conv => whnf
      refine ⟨(blen x : Int), by rw [wrap64] <;> omega, ?_⟩
      conv => whnf
      refine ⟨((0 + blen x : Nat) : Int), by rw [wrap64] <;> omega, ?_⟩
      conv => whnf
      intro ρ3 w3 r3
      exact ⟨_, rfl, r1.bel.tr r3.bel, by rw [Nat.zero_add]; rfl⟩

theorem blen_le {x k : Nat} : blen x ≤ k ↔ x < 2 ^ k := by
  unfold blen
  by_cases h : x = 0
  · rw [if_pos h, h]
    exact ⟨fun _ => Nat.two_pow_pos k, fun _ => Nat.zero_le _⟩
  · rw [if_neg h]
    constructor
    · intro h1
      exact (Nat.log2_lt h).1 (by omega)
    · intro h1
      have := (Nat.log2_lt h).2 h1
      omega
theorem lz32_c (x : Nat) (w : World) (hx : x < 4294967296) : Con PG N.bits_LeadingZeros32 #[.int .u32 x] w (Ret w fun v _ => v = .int .i64 ((32 - blen x : Nat) : Int)) := by
  refine in_bits_LeadingZeros32 (by simp) ?_
  conv => whnf
  refine callE_S (callE_con (Φ := fun _ _ v _ => v = .int .i64 (blen x)) (fun ρ w' r => len32_c x w' hx) ?_)
  rintro ρ w' v w2 r he hb rfl
  have h32 : blen x ≤ 32 := blen_le.2 hx
  conv => whnf
  refine ⟨((32 - blen x : Nat) : Int), by rw [wrap64] <;> omega, ?_⟩
  conv => whnf
  intro ρ3 w3 r3
  exact ⟨_, rfl, hb.tr r3.bel, rfl⟩

end Go.Ex
namespace Go.Sx
open Go Go.Ex Go.Proofs
/-- a growing list of one's own, seen as limbs -/
theorem Rel.vecLimbs {H : Hp} {nx : Nat} {iv : Iv} {B : Nat} {w w' : World} {ρ : Nat → Sx.Val} (r : Rel H nx iv B w ρ w') {id t m : Nat} {ls : List Nat} (h : getH H id = some (.vec t 1 (U ls))) (hm : m = ls.length) (hlm : Lm ls) (hle : ls.length ≤ 9223372036854775807) :
    Limbs w' (fun g => B ≤ g ∧ g < w'.heap.size) ((At.w id m).den ρ) ls := by
  subst hm
  rcases r.vec id t 1 _ h with ⟨hn, hu⟩ | ⟨hn, spare, hb, hc, hcap⟩
  · have hl : ls = [] := by cases ls with
      | nil => rfl
      | cons a b => simp [U] at hu
    subst hl
    have : (At.w id ([] : List Nat).length).den ρ = .slice none 0 0 := by simp [At.den, hn]
    rw [this]
    exact Limbs.nil _ _
  · refine ⟨hlm, hle, some ⟨(ρ id).g, 0, none⟩, (ρ id).cap, by simp [At.den, hn], ?_, fun j x hx => ⟨_, rfl, r.low id _ h hn, ?_⟩⟩
    · have h1 : (U ls ++ spare).length = ls.length + spare.length := by rw [List.length_append, U_len]
      omega
    · rw [addr_add, cell_of hb, Nat.zero_add, List.getElem?_append_left (by rw [U_len]; exact (List.getElem?_eq_some_iff.1 hx).1)]
      exact U_get hx
end Go.Sx
namespace Go.Ex
open Go Go.Sx Go.Proofs

theorem und_nat : PG.underlying T.nat = some (.slice T.uint32) := by
  have h := (hτ T.nat _ rfl).i4 rfl
  exact h

theorem clone_c {S : Nat → Prop} {w : World} {v : Value} {ls : List Nat} (hS : Old S w) (h : Limbs w S v ls) (hl : ls.length ≤ 1000000000000) :
    Con PG N.slices_Clone_of_exact_nat_uint32_of #[v] w (Ret w fun v' w2 => Limbs w2 (Nw (fun _ => False) w w2) v' ls) := by
  obtain ⟨x, rfl, rfl⟩ := h.la
  refine in_slices_Clone_of_exact_nat_uint32_of (by simp) ?_
  conv => whnf
  refine ⟨x.a.isNone, fun ρ w1 o1 o2 => by simp [eqGuard, SV.den, At.den, run_eql_nilslice (P := PG) w1 T.nat T.uint32 x.a x.ls.length x.c 0 0 und_nat], ?_⟩
  conv => whnf
  refine BrS.mk (fun h => ?_) (fun h => ?_)
  · conv => whnf
    intro ρ3 w3 r3
    have hn : x.ls = [] := by
      cases hx : x.ls with
      | nil => rfl
      | cons u r =>
        obtain ⟨ad, h1, _⟩ := x.cell 0 u (by rw [hx]; rfl)
        rw [h1] at h
        simp at h
    exact ⟨_, rfl, r3.bel, by rw [hn]; exact Limbs.nil _ _⟩
  · conv => whnf
    refine .inl ?_
    conv => whnf
    refine ⟨U x.ls, by rw [U_len, Nat.mul_one], fun u hu => by simp only [U, List.mem_map] at hu; obtain ⟨n, _, rfl⟩ := hu; rfl, fun ρ w1 r h0 => ?_, ?_⟩
    · obtain ⟨u, hu⟩ : ∃ q, x.ls[0]? = some q := ⟨_, List.getElem?_eq_getElem h0⟩
      obtain ⟨ad, had, _⟩ := x.cell 0 u hu
      refine ⟨ad, had, fun j u hu => ?_⟩
      simp only [U, List.getElem?_map, Option.map_eq_some_iff] at hu
      obtain ⟨n, hn, rfl⟩ := hu
      obtain ⟨ad2, had2, hs, hc⟩ := x.cell j n hn
      rw [had] at had2
      injection had2 with had2
      subst had2
      exact cellS hS Bel.refl r hs hc
    conv => whnf
    refine ⟨rfl, by omega, by unfold maxLen; omega, ?_⟩
    conv => whnf
    intro ρ3 w3 r3
    exact ⟨_, rfl, r3.bel, (r3.vecLimbs (id := 1) rfl (Nat.zero_add _) x.lm x.le).weak fun g hg => .inr hg⟩
end Go.Ex

/- The step of the division of package exact: a multiple is taken away. No condition. -/
namespace Go.Ex
open Go Go.Sx Go.Proofs

end Go.Ex
namespace Go.Sx
open Go Go.Ex Go.Proofs
theorem Rel.baseLe {H : Hp} {nx : Nat} {iv : Iv} {B : Nat} {w w' : World} {ρ : Nat → Sx.Val} (r : Rel H nx iv B w ρ w') : B ≤ w'.heap.size := by have := r.base; have := r.size; omega
end Go.Sx
namespace Go.Ex
open Go Go.Sx Go.Proofs
end Go.Ex
namespace Go.Sx
open Go Go.Ex Go.Proofs
/-- a list in a box of one's own that a call is handed -/
theorem Rel.boxLimbs {H : Hp} {nx : Nat} {iv : Iv} {B : Nat} {w w' : World} {ρ : Nat → Sx.Val} {ls : List Nat} (r : Rel H nx iv B w ρ w') {id t : Nat} (h : getH H id = some (.box t ((U ls).map At.v))) (hlm : Lm ls) (hle : ls.length ≤ 9223372036854775807) :
    Limbs w' (fun g => g = (ρ id).g) (.slice (some ⟨(ρ id).g, 0, none⟩) ls.length ls.length) ls := by
  refine ⟨hlm, hle, _, _, rfl, Nat.le_refl _, fun j x hx => ⟨_, rfl, rfl, ?_⟩⟩
  have h0 : (⟨(ρ id).g, 0, none⟩ : Addr).add j = ⟨(ρ id).g, j, none⟩ := by
    cases j with
    | zero => rfl
    | succ j => simp [Addr.add]
  rw [h0, cell_of (r.box id t _ h), map_v_den]
  exact U_get hx
end Go.Sx
namespace Go.Ex
open Go Go.Sx Go.Proofs
section
variable {S : Nat → Prop} {H : Hp} {nx : Nat} {iv iv' : Iv} {B : Nat} {w w' w2 : World} {ρ : Nat → Sx.Val} {v : Value} {n : Nat} {ls : List Nat}
/-- what a call hands back, held by the caller -/
theorem Nw.got {g : Nat} (h : Nw (fun _ => False) w' w2 g) (hB : B ≤ w'.heap.size) (hm : (w'.heap.size, w2.heap.size) ∈ iv) : Cv S B iv g := by
  rcases h with h | h
  · cases h
  · exact .inr ⟨by omega, _, _, hm, h.1, h.2⟩
theorem NatR.got (h : NatR w2 (Nw (fun _ => False) w' w2) v n) (hB : B ≤ w'.heap.size) (hm : (w'.heap.size, w2.heap.size) ∈ iv) : NatR w2 (Cv S B iv) v n := h.weak fun _ hg => hg.got hB hm
theorem Limbs.got (h : Limbs w2 (Nw (fun _ => False) w' w2) v ls) (hB : B ≤ w'.heap.size) (hm : (w'.heap.size, w2.heap.size) ∈ iv) : Limbs w2 (Cv S B iv) v ls := h.weak fun _ hg => hg.got hB hm
/-- what is held, seen in a call -/
theorem NatR.rel (h : NatR w (Cv S B iv) v n) (r : Rel H nx iv B w ρ w') (hS : ∀ g, S g → g < B) : NatR w' (Cv S B iv) v n := h.keep fun _ hg => Rel.same r hS hg
/-- .. and behind it -/
theorem NatR.past (h : NatR w (Cv S B iv) v n) (r : Rel H nx iv B w ρ w') (hS : ∀ g, S g → g < B) (he : Ext w' w2) (hm : ∀ p, p ∈ iv → p ∈ iv') : NatR w2 (Cv S B iv') v n :=
  ((h.rel r hS).keep fun g hg => he.block g (Rel.old r hS g hg)).weak fun _ hg => hg.mono hm
theorem Limbs.past (h : Limbs w (Cv S B iv) v ls) (r : Rel H nx iv B w ρ w') (hS : ∀ g, S g → g < B) (he : Ext w' w2) (hm : ∀ p, p ∈ iv → p ∈ iv') : Limbs w2 (Cv S B iv') v ls :=
  ((h.rel r hS).keep fun g hg => he.block g (Rel.old r hS g hg)).weak fun _ hg => hg.mono hm
theorem Limbs.nat (h : Limbs w S v ls) (hz : Nz ls) : NatR w S v (val ls) := ⟨ls, h, hz, rfl⟩
theorem Limbs.trimmed (h : Limbs w S v (trimL ls)) : NatR w S v (val ls) := ⟨_, h, (trimL_spec ls).2.1, (trimL_spec ls).1⟩
end

/-- a part of a row -/
theorem rowPart {w : World} {g k m c : Nat} {rs : List Nat} (hg : w.heap[g]? = some (.cells (U rs).toArray T.uint32 (0, 0))) (hlm : Lm rs) (h : k + m ≤ rs.length) (hc : m ≤ c) (hl : rs.length ≤ 1000000000000) :
    Limbs w (fun x => x = g) (.slice (some ⟨g, k, none⟩) m c) ((rs.drop k).take m) := by
  have hlen : ((rs.drop k).take m).length = m := by simp; omega
  refine ⟨(hlm.drop k).take m, by omega, some ⟨g, k, none⟩, c, by rw [hlen], by omega, fun j x hx => ⟨_, rfl, rfl, ?_⟩⟩
  have hj : j < m := by have := (List.getElem?_eq_some_iff.1 hx).1; omega
  rw [List.getElem?_take_of_lt hj, List.getElem?_drop] at hx
  rw [addr_add, cell_of hg]
  exact U_get hx
theorem sliceAd {g k c : Nat} (h : k < c) : (if (c : Int) = (k : Int) then some (⟨g, 0, none⟩ : Addr) else (some (⟨g, 0, none⟩ : Addr)).map fun x => x.add ((k : Int).toNat * 1)) = some ⟨g, k, none⟩ := by
  rw [if_neg (by omega), Option.map_some, Int.toNat_natCast, Nat.mul_one, addr_add, Nat.zero_add]
theorem grownBy_trans {a b c : World} {row : Option Nat} (h : a.grownBy b row) (k : b.grownBy c row) : a.grownBy c row :=
  ⟨k.os.trans h.os, k.tape.trans h.tape, k.output.trans h.output, Nat.le_trans h.size k.size, fun j hj hne => (k.block j (by have := h.size; omega) hne).trans (h.block j hj hne)⟩
theorem grownBy_bel {a b : World} {row : Option Nat} (h : Bel a.heap.size a b) : a.grownBy b row := ⟨h.os, h.tape, h.output, h.size, fun j hj _ => h.block j hj⟩
theorem U_clear (rs : List Nat) (k m : Nat) : (U rs).take k ++ List.replicate m (Value.int .u32 0) ++ (U rs).drop (k + m) = U (rs.take k ++ List.replicate m 0 ++ rs.drop (k + m)) := by
  simp [U]
theorem U_copy (rs ds : List Nat) (k : Nat) : (U rs).take k ++ U ds ++ (U rs).drop (k + (U ds).length) = U (rs.take k ++ ds ++ rs.drop (k + ds.length)) := by
  simp [U]
/-- what is left is written over what was there -/
theorem over_part {rs ds : List Nat} {k m : Nat} (hk : k + m ≤ rs.length) (hd : ds.length ≤ m) {r1 r2 : List Nat} (h1 : r1 = rs.take k ++ List.replicate m 0 ++ rs.drop (k + m)) (h2 : r2 = r1.take k ++ ds ++ r1.drop (k + ds.length)) :
    r2 = rs.take k ++ (ds ++ List.replicate (m - ds.length) 0) ++ rs.drop (k + m) := by
  have hkl : (rs.take k).length = k := by simp; omega
  have h3 : r1.take k = rs.take k := by rw [h1, List.append_assoc, List.take_append_of_le_length (by omega), List.take_of_length_le (by omega)]
  have h4 : r1.drop (k + ds.length) = List.replicate (m - ds.length) 0 ++ rs.drop (k + m) := by
    rw [h1, List.append_assoc, List.drop_append, hkl, List.drop_of_length_le (by omega), List.nil_append, Nat.add_sub_cancel_left, List.drop_append_of_le_length (by simpa using hd), List.drop_replicate]
  rw [h2, h3, h4]
  simp
theorem over_spec {rs ds r2 : List Nat} {k m : Nat} (hk : k + m ≤ rs.length) (hd : ds.length ≤ m) (hlm : Lm rs) (hld : Lm ds) (h : r2 = rs.take k ++ (ds ++ List.replicate (m - ds.length) 0) ++ rs.drop (k + m)) :
    r2.length = rs.length ∧ Lm r2 ∧ r2.take k = rs.take k ∧ r2.drop (k + m) = rs.drop (k + m) ∧ val ((r2.drop k).take m) = val ds := by
  have hkl : (rs.take k).length = k := by simp; omega
  have hdl : (ds ++ List.replicate (m - ds.length) 0).length = m := by simp; omega
  have hd1 : r2.drop k = (ds ++ List.replicate (m - ds.length) 0) ++ rs.drop (k + m) := by
    rw [h, List.append_assoc, List.drop_append, hkl, List.drop_of_length_le (by omega), List.nil_append, Nat.sub_self, List.drop_zero]
  refine ⟨by rw [h, List.length_append, List.length_append, hkl, hdl]; simp; omega, ?_, ?_, ?_, ?_⟩
  · rw [h]; exact ((hlm.take k).append (hld.append (Lm.replicate _))).append (hlm.drop _)
  · rw [h, List.append_assoc, List.take_append_of_le_length (by omega), List.take_of_length_le (by omega)]
  · rw [← List.drop_drop, hd1, List.drop_append, hdl, List.drop_of_length_le (by omega), List.nil_append, Nat.sub_self, List.drop_zero]
  · rw [hd1, List.take_append_of_le_length (by omega), List.take_of_length_le (by omega), val_append, val_replicate]
    simp

theorem take_c {S : Nat → Prop} {w : World} {vd : Value} {D g k q : Nat} {rs : List Nat} (hS : Old S w) (hgS : ¬ S g) (hd : NatR w S vd D) (hg : w.heap[g]? = some (.cells (U rs).toArray T.uint32 (0, 0))) (hlm : Lm rs)
    (hk : k + ln D + 1 ≤ rs.length) (hl : rs.length ≤ 1000000000000) (hq : q < 4294967296) :
    Con PG N.exact_nat_take #[.slice (some ⟨g, 0, none⟩) rs.length rs.length, vd, .int .i64 k, .int .u64 q] w (fun e w2 =>
      (val ((rs.drop k).take (ln D + 1)) < q * D ∧ e = .returned (.bool false) ∧ Bel w.heap.size w w2) ∨
      (q * D ≤ val ((rs.drop k).take (ln D + 1)) ∧ e = .returned (.bool true) ∧ w.grownBy w2 (some g) ∧ ∃ rs', rs'.length = rs.length ∧ Lm rs' ∧ rs'.take k = rs.take k ∧ rs'.drop (k + ln D + 1) = rs.drop (k + ln D + 1) ∧
        val ((rs'.drop k).take (ln D + 1)) = val ((rs.drop k).take (ln D + 1)) - q * D ∧ w2.heap[g]? = some (.cells (U rs').toArray T.uint32 (0, 0)))) := by
  have hgB := heap_lt hg
  have hnD := hd
  obtain ⟨p, rfl, hp1, hp2⟩ := hd.la
  have hpl := length_ln p.lm hp2
  rw [hp1] at hpl
  generalize hn : ln D = n at *
  have hSB := hS
  refine in_exact_nat_take (by simp) ?_
  conv => whnf
  refine ⟨(q : Int), by rw [wrapU32n, Nat.mod_eq_of_lt hq], ?_⟩
  conv => whnf
  refine callE_free (Φ := fun ρ _ v w2 => Limbs w2 (fun g => g = (ρ 0).g) v (trimL [q])) (H' := []) 0 rfl (by simp) trivial rfl (fun ρ w' r => r.nn 0 _ rfl (by intros; simp) (by simp)) (fun ρ w' r => ?_) ?_
  · have hL := r.boxLimbs (id := 0) (ls := [q]) rfl (by intro x hx; simp at hx; omega) (by simp)
    exact trimmed_c (fun g hg => by rw [hg]; exact (r.low 0 _ rfl (r.nn 0 _ rfl (by intros; simp) (by simp))).2) hL
  rintro ρ w1 v1 w2 r he hw hL
  have hlow := r.low 0 _ rfl (r.nn 0 _ rfl (by intros; simp) (by simp))
  have hs := he.size
  generalize (ρ 0).g = g0 at *
  have hqN : NatR w2 (Cv S w.heap.size [(g0, g0 + 1), (w1.heap.size, w2.heap.size)]) v1 q := by
    have := hL.trimmed
    simp only [val, Nat.mul_zero, Nat.add_zero] at this
    exact this.weak fun k hk => .inr ⟨by omega, g0, g0 + 1, by simp, by omega, by omega⟩
  have hdN : NatR w2 (Cv S w.heap.size [(g0, g0 + 1), (w1.heap.size, w2.heap.size)]) (.slice p.a p.ls.length p.c) D :=
    (hnD.keep fun g hg => hw.block g (hS g hg)).weak fun _ hg => .inl hg
  clear hL r he
  generalize [(g0, g0 + 1), (w1.heap.size, w2.heap.size)] = iv at *
  conv => whnf
  refine callE_S (callE_con (Φ := fun _ w' v w2 => NatR w2 (Nw (fun _ => False) w' w2) v (q * D)) (fun ρ w' r => times_c (Rel.old r hS) (hqN.rel r hS) (hdN.rel r hS) (Nat.le_trans (ln_le.2 (show q < wt 1 from hq)) (by decide)) (by omega)) ?_)
  rintro ρ w3 v2 w4 r he hb hm
  replace hw := hw.tr hb
  have hmN := hm.got (S := S) r.baseLe (iv := (w3.heap.size, w4.heap.size) :: iv) List.mem_cons_self
  clear hqN hdN hm r he hb hs hlow
  generalize (w3.heap.size, w4.heap.size) :: iv = iv at *
  conv => whnf
  refine ⟨((k + n : Nat) : Int), by rw [wrap64] <;> omega, ?_⟩
  conv => whnf
  refine ⟨((k + n + 1 : Nat) : Int), by rw [wrap64] <;> omega, ?_⟩
  conv => whnf
  refine ⟨⟨by omega, by omega, by omega⟩, some ⟨g, k, none⟩, n + 1, rs.length - k, sliceAd (by omega), by omega, by omega, ?_⟩
  conv => whnf
  have hplen : ((rs.drop k).take (n + 1)).length = n + 1 := by simp; omega
  have hplm : Lm ((rs.drop k).take (n + 1)) := (hlm.drop k).take _
  generalize hpart : (rs.drop k).take (n + 1) = part at *
  refine callE_S (callE_con (Φ := fun _ w' v w2 => Limbs w2 (Nw (fun _ => False) w' w2) v part) (fun ρ w' r => ?_) ?_)
  · have h1 := rowPart (k := k) (m := n + 1) (c := rs.length - k) (w := w') (by rw [(hw.tr r.bel).block g hgB]; exact hg) hlm (by omega) (by omega) hl
    rw [hpart] at h1
    exact clone_c (fun x hx => by rw [hx]; have := (hw.tr r.bel).size; omega) h1 (by omega)
  rintro ρ w5 v3 w6 r he hb hL
  replace hw := hw.tr hb
  have hpL := hL.got (S := S) r.baseLe (iv := (w5.heap.size, w6.heap.size) :: iv) List.mem_cons_self
  replace hmN := hmN.past (iv' := (w5.heap.size, w6.heap.size) :: iv) r hS he fun x hx => List.mem_cons_of_mem _ hx
  clear hL r he hb
  generalize (w5.heap.size, w6.heap.size) :: iv = iv at *
  conv => whnf
  refine callE_S (callE_con (Φ := fun _ w' v w2 => Limbs w2 (Cv S w.heap.size iv) v (trimL part)) (fun ρ w' r => trimmed_c (Rel.old r hS) (Limbs.rel hpL r hS)) ?_)
  rintro ρ w7 v4 w8 r he hb hL
  replace hw := hw.tr hb
  have hpN := hL.trimmed.weak (S' := Cv S w.heap.size ((w7.heap.size, w8.heap.size) :: iv)) fun _ hg => hg.cons
  replace hmN := hmN.past (iv' := (w7.heap.size, w8.heap.size) :: iv) r hS he fun x hx => List.mem_cons_of_mem _ hx
  clear hL r he hb hpL
  generalize (w7.heap.size, w8.heap.size) :: iv = iv at *
  conv => whnf
  refine callE_S (callE_con (Φ := fun _ _ v _ => v = .int .i64 (cmpN (val part) (q * D))) (fun ρ w' r => cmp_c (Rel.old r hS) (hpN.rel r hS) (hmN.rel r hS)) ?_)
  rintro ρ w9 v5 w10 r he hb rfl
  replace hw := hw.tr hb
  replace hpN := hpN.past (iv' := (w9.heap.size, w10.heap.size) :: iv) r hS he fun x hx => List.mem_cons_of_mem _ hx
  replace hmN := hmN.past (iv' := (w9.heap.size, w10.heap.size) :: iv) r hS he fun x hx => List.mem_cons_of_mem _ hx
  clear r he hb
  generalize (w9.heap.size, w10.heap.size) :: iv = iv at *
  conv => whnf
  refine BrS.mk (fun h => ?_) (fun h => ?_)
  · have h : val part < q * D := by
      have := of_decide_eq_true h
      unfold cmpN at this
      split at this
      · assumption
      · split at this <;> omega
    conv => whnf
    intro ρ3 w3 r3
    exact .inl ⟨h, rfl, hw.tr r3.bel⟩
  have h : q * D ≤ val part := by
    have := of_decide_eq_false h
    unfold cmpN at this
    split at this
    · omega
    · omega
  conv => whnf
  have hPl : ln (val part) ≤ n + 1 := by rw [ln_le, ← hplen]; exact val_lt hplm
  refine callE_S (callE_con (Φ := fun _ w' v w2 => NatR w2 (Nw (fun _ => False) w' w2) v (val part - q * D)) (fun ρ w' r => minus_c (Rel.old r hS) (hpN.rel r hS) (hmN.rel r hS) h (by omega)) ?_)
  rintro ρ w11 v6 w12 r he hb hm
  replace hw := hw.tr hb
  have hrN := hm.got (S := S) r.baseLe (iv := (w11.heap.size, w12.heap.size) :: iv) List.mem_cons_self
  clear hpN hmN hm r he hb
  generalize (w11.heap.size, w12.heap.size) :: iv = iv at *
  conv => whnf
  refine ⟨((k + n : Nat) : Int), by rw [wrap64] <;> omega, ?_⟩
  conv => whnf
  refine ⟨((k + n + 1 : Nat) : Int), by rw [wrap64] <;> omega, ?_⟩
  conv => whnf
  refine ⟨⟨by omega, by omega, by omega⟩, some ⟨g, k, none⟩, n + 1, rs.length - k, sliceAd (by omega), by omega, by omega, ?_⟩
  conv => whnf
  refine opS_clear hτ (cs := U rs) (by rfl) (by rfl) (by rfl) (by omega) (fun ρ w' r => ⟨by rw [(hw.tr r.bel).block g hgB]; exact hg, fun id b hb => by cases hb⟩) (by rw [U_len]; omega) (fun ρ w13 w14 r hh hgr hsz => ?_)
  rw [U_clear] at hh
  have hgw : w.grownBy w14 (some g) := grownBy_trans (grownBy_bel (hw.tr r.bel)) hgr
  replace hrN : NatR w14 (Cv S w.heap.size iv) v6 (val part - q * D) := (hrN.rel r hS).keep fun x hx => hgr.block x (Rel.old r hS x hx) fun e => by
    injection e with e
    subst e
    rcases hx with hx | hx
    · exact hgS hx
    · omega
  clear r hgr hsz hw
  obtain ⟨rl, rfl, hr1, hr2⟩ := hrN.la
  have hrl := length_ln rl.lm hr2
  rw [hr1] at hrl
  have hrn : rl.ls.length ≤ n + 1 := by rw [hrl]; exact Nat.le_trans (ln_mono (Nat.sub_le _ _)) hPl
  generalize hr1d : rs.take k ++ List.replicate (n + 1) 0 ++ rs.drop (k + (n + 1)) = r1 at *
  conv => whnf
  refine ⟨⟨by omega, by omega, by omega⟩, some ⟨g, k, none⟩, rs.length - k, rs.length - k, sliceAd (by omega), by omega, by omega, ?_⟩
  conv => whnf
  have hr1l : r1.length = rs.length := by rw [← hr1d]; simp; omega
  have hw14 : w.heap.size ≤ w14.heap.size := hgw.size
  refine opS_copy hτ (tg := T.uint32) (cs := U r1) (ds := U rl.ls) (by rfl) (by rfl) (by rfl) (by rfl) (fun ρ w' r => ⟨?_, fun id b hb => by cases hb⟩) (fun ρ w' r => ⟨rl.a, rl.c, by rw [U_len]; rfl, fun j u hu => ?_⟩) (by rw [U_len]; omega) (by rw [U_len, U_len]; omega)
    (fun u hu => by simp only [U, List.mem_map] at hu; obtain ⟨n, _, rfl⟩ := hu; rfl) (fun ρ w15 w16 r hh2 hgr hsz => ?_)
  · rw [r.nilBy.block g (by omega) (by simp)]; exact hh
  · simp only [U, List.getElem?_map, Option.map_eq_some_iff] at hu
    obtain ⟨m, hm, rfl⟩ := hu
    obtain ⟨ad, h1, h2, h3⟩ := rl.cell j m hm
    exact ⟨ad, h1, (cell_of_heap (w := w14) (a := ad.add j) (by rw [addB]; exact Rel.same r hS h2)).trans h3⟩
  rw [U_copy] at hh2
  have hgw2 : w.grownBy w16 (some g) := grownBy_trans (grownBy_trans hgw (by have := r.nilBy; exact ⟨this.os, this.tape, this.output, this.size, fun j hj _ => this.block j hj (by simp)⟩)) hgr
  obtain ⟨o1, o2, o3, o4, o5⟩ := over_spec (rs := rs) (ds := rl.ls) (k := k) (m := n + 1) (by omega) hrn hlm rl.lm (over_part (by omega) hrn hr1d.symm rfl)
  generalize r1.take k ++ rl.ls ++ r1.drop (k + rl.ls.length) = r2 at *
  clear r hgr
  conv => whnf
  intro ρ3 w17 r3
  refine .inr ⟨h, rfl, grownBy_trans hgw2 (by have := r3.nilBy; exact ⟨this.os, this.tape, this.output, this.size, fun j hj _ => this.block j hj (by simp)⟩), r2, o1, o2, o3, o4, by rw [o5, hr1], ?_⟩
  rw [r3.nilBy.block g (by have := hgw2.size; omega) (by simp)]
  exact hh2
end Go.Ex

/- A digit of the division of package exact. No condition. -/
namespace Go.Ex
open Go Go.Sx Go.Proofs

end Go.Ex
namespace Go.Sx
open Go Go.Ex Go.Proofs
theorem Rel.nilTo {nx : Nat} {iv : Iv} {B : Nat} {w w' w2 : World} {ρ : Nat → Sx.Val} (r : Rel [] nx iv B w ρ w') (h : w'.heap.size ≤ w2.heap.size) : Rel [] nx [] B w2 ρ w2 :=
  r.moved h (fun id b h => by cases h) fun lo hi h => by cases h
end Go.Sx
namespace Go.Ex
open Go Go.Sx Go.Proofs
/-- the guess is not too small -/
theorem guess_ge {P D low high dlow dtop W : Nat} (hP : P = low + W * high) (hD : D = dlow + W * dtop) (hlow : low < W) (hdt : 0 < dtop) (hPD : P < 4294967296 * D) : P / D ≤ min (high / dtop) 4294967295 := by
  have hW : 0 < W := by omega
  have hD0 : 0 < D := by have := Nat.mul_pos hW hdt; omega
  have h1 : P / D < 4294967296 := (Nat.div_lt_iff_lt_mul hD0).2 (by rw [Nat.mul_comm] at hPD; omega)
  have h2 : P / D ≤ high / dtop := by
    rw [Nat.le_div_iff_mul_le hdt]
    have h3 := Nat.div_mul_le_self P D
    generalize P / D = Q at *
    have h4 : W * (Q * dtop) ≤ Q * D := by
      rw [hD, Nat.mul_left_comm, Nat.mul_add]
      omega
    have h5 : W * (Q * dtop) < W * (high + 1) := by
      rw [Nat.mul_add]
      omega
    have := Nat.lt_of_mul_lt_mul_left h5
    omega
  omega

theorem rowLoad {H : Hp} {nx : Nat} {iv : Iv} {w w1 w' : World} {ρ : Nat → Sx.Val} {g i x : Nat} {rs : List Nat} (hg : w.heap[g]? = some (.cells (U rs).toArray T.uint32 (0, 0))) (hw : Bel w.heap.size w w1) (r : Rel H nx iv w.heap.size w1 ρ w') (hx : rs[i]? = some x) :
    w'.cell? ((⟨g, 0, none⟩ : Addr).add ((i : Int).toNat * 1)) = some (.int .u32 x) := by
  rw [Int.toNat_natCast, Nat.mul_one, addr_add, Nat.zero_add, cell_of (by rw [(hw.tr r.bel).block g (heap_lt hg)]; exact hg)]
  exact U_get hx

theorem digit_c {S : Nat → Prop} {w : World} {vd : Value} {D g k : Nat} {rs : List Nat} (hS : Old S w) (hgS : ¬ S g) (hd : NatR w S vd D) (hD : 0 < D) (hg : w.heap[g]? = some (.cells (U rs).toArray T.uint32 (0, 0))) (hlm : Lm rs)
    (hk : k + ln D + 1 ≤ rs.length) (hl : rs.length ≤ 1000000000000) (hPD : val ((rs.drop k).take (ln D + 1)) < 4294967296 * D) :
    Con PG N.exact_nat_digit #[.slice (some ⟨g, 0, none⟩) rs.length rs.length, vd, .int .i64 k] w (fun e w2 =>
      e = .returned (.int .u32 ((val ((rs.drop k).take (ln D + 1)) / D : Nat) : Int)) ∧ w.grownBy w2 (some g) ∧ ∃ rs', rs'.length = rs.length ∧ Lm rs' ∧ rs'.take k = rs.take k ∧ rs'.drop (k + ln D + 1) = rs.drop (k + ln D + 1) ∧
        val ((rs'.drop k).take (ln D + 1)) = val ((rs.drop k).take (ln D + 1)) % D ∧ w2.heap[g]? = some (.cells (U rs').toArray T.uint32 (0, 0))) := by
  have hgB := heap_lt hg
  have hnD := hd
  obtain ⟨p, rfl, hp1, hp2⟩ := hd.la
  have hpl := length_ln p.lm hp2
  rw [hp1] at hpl
  have htake := fun (w' : World) (q : Nat) => @take_c S w' (.slice p.a p.ls.length p.c) D g k q rs
  generalize hn : ln D = n at *
  obtain ⟨t, rfl⟩ : ∃ t, n = t + 1 := by
    cases n with
    | zero =>
      have : D < wt 0 := ln_le.1 (by omega)
      rw [wt_zero] at this
      omega
    | succ t => exact ⟨t, rfl⟩
  obtain ⟨dt, hdt⟩ : ∃ q, p.ls[t]? = some q := ⟨_, List.getElem?_eq_getElem (by omega)⟩
  have hdt0 : 0 < dt := by
    have := hp2 dt (by rw [List.getLast?_eq_getElem?, hpl]; exact hdt)
    omega
  obtain ⟨a, ha⟩ : ∃ q, rs[k + t + 1]? = some q := ⟨_, List.getElem?_eq_getElem (by omega)⟩
  obtain ⟨b, hb⟩ : ∃ q, rs[k + t]? = some q := ⟨_, List.getElem?_eq_getElem (by omega)⟩
  have ha32 := hlm.at ha
  have hb32 := hlm.at hb
  have hdt32 := p.lm.at hdt
  generalize hP : val ((rs.drop k).take (t + 1 + 1)) = P at *
  have hguess : P / D ≤ min ((a * 4294967296 + b) / dt) 4294967295 := by
    refine guess_ge (low := val ((rs.drop k).take t)) (W := wt t) (dlow := val (p.ls.take t)) ?_ ?_ ?_ hdt0 hPD
    · rw [← hP, val_take_succ (x := a) (by rw [List.getElem?_drop]; exact ha), val_take_succ (x := b) (by rw [List.getElem?_drop]; exact hb), wt_succ, Nat.mul_add, Nat.mul_comm 4294967296 (wt t), Nat.mul_assoc, Nat.mul_comm a]
      omega
    · rw [← hp1, ← val_take_succ hdt, List.take_of_length_le (by omega)]
    · have h1 := val_lt ((hlm.drop k).take t)
      have : ((rs.drop k).take t).length = t := by simp; omega
      rwa [this] at h1
  refine in_exact_nat_digit (by simp) ?_
  conv => whnf
  refine ⟨(t : Int), by rw [wrap64] <;> omega, ?_⟩
  conv => whnf
  refine drawn_of_pi hτ hmix [.x 0, .x 1, .x 2, .x 3, .x 4, .x 5, .x 6, .x 7, .x 8, .x 9, .x 10, .x 11, .x 12, .x 13, .x 14, .x 15, .x 16, .x 17] (by kernel_rfl) (by kernel_rfl) ?_
  conv => whnf
  refine ⟨((k + t : Nat) : Int), by rw [wrap64] <;> omega, ?_⟩
  conv => whnf
  refine ⟨((k + t + 1 : Nat) : Int), by rw [wrap64] <;> omega, ?_⟩
  conv => whnf
  refine ⟨_, rfl, ⟨by omega, by omega⟩, ?_⟩
  conv => whnf
  refine ⟨.int .u32 a, fun ρ w' r => rowLoad hg Bel.refl r ha, ?_⟩
  conv => whnf
  refine ⟨(a : Int), wrapU64n (by omega), ?_⟩
  conv => whnf
  refine ⟨by decide, ((a * 2 ^ 32 : Nat) : Int), shl64n (k := 32) (by decide) (by omega), ?_⟩
  conv => whnf
  refine ⟨((k + t : Nat) : Int), by rw [wrap64] <;> omega, ?_⟩
  conv => whnf
  refine ⟨_, rfl, ⟨by omega, by omega⟩, ?_⟩
  conv => whnf
  refine ⟨.int .u32 b, fun ρ w' r => rowLoad hg Bel.refl r hb, ?_⟩
  conv => whnf
  refine ⟨(b : Int), wrapU64n (by omega), ?_⟩
  conv => whnf
  have hor : a * 2 ^ 32 ||| b = a * 4294967296 + b := by
    rw [Nat.or_comm, Nat.mul_comm, or_add (k := 32) hb32]; omega
  refine ⟨((a * 4294967296 + b : Nat) : Int), by rw [or64u (by omega) (by omega), hor], ?_⟩
  conv => whnf
  have hh64 : a * 4294967296 + b < 18446744073709551616 := by omega
  generalize a * 4294967296 + b = high at *
  obtain ⟨ad, had, hload⟩ := p.load hS (Bel.refl (w := w)) hdt
  refine ⟨ad, had, ⟨by omega, by omega⟩, ?_⟩
  conv => whnf
  refine ⟨.int .u32 dt, hload _ _ _, ?_⟩
  conv => whnf
  refine ⟨(dt : Int), wrapU64n (by omega), ?_⟩
  conv => whnf
  refine ⟨by omega, ((high / dt : Nat) : Int), quo64n hh64, ?_⟩
  conv => whnf
  rw [show min ((high / dt : Nat) : Int) 4294967295 = ((min (high / dt) 4294967295 : Nat) : Int) by omega]
  have hm32 : min (high / dt) 4294967295 ≤ 4294967295 := Nat.min_le_right _ _
  generalize min (high / dt) 4294967295 = q0 at *
  have hQD := Nat.div_mul_le_self P D
  have hQl : ∀ q, q * D ≤ P → P / D ≤ q → q = P / D := fun q h1 h2 => Nat.le_antisymm ((Nat.le_div_iff_mul_le hD).2 h1) h2
  have hmod : P % D = P - P / D * D := by have := Nat.div_add_mod P D; rw [Nat.mul_comm] at this; omega
  refine ⟨Nat × World, fun z => ⟨[(0, .o (.v (.slice (some ⟨g, 0, none⟩) rs.length rs.length))), (1, .o (.v (.slice p.a p.ls.length p.c))), (2, .o (.v (.int .i64 k))), (9, .o (.v (.int .u64 z.1)))], [], 0, [], z.2⟩, fun z => z.1,
    fun z => Bel w.heap.size w z.2 ∧ P / D ≤ z.1 ∧ z.1 ≤ 4294967295, ?_, ?_⟩
  · intro ρ w' r
    exact ⟨(q0, w'), ⟨r.bel, hguess, hm32⟩, Sub.reset r ⟨rfl, rfl, rfl, rfl, trivial⟩ ⟨trivial, trivial, trivial, trivial, trivial⟩⟩
  · rintro ⟨q, w1⟩ ⟨hw, hq1, hq2⟩
    dsimp only at hw hq1 hq2 ⊢
    conv => whnf
    refine ⟨fun ρ w2 r => (htake w2 q (fun x hx => by have := hS x hx; have := (hw.tr r.bel).size; omega) hgS (hnD.keep fun x hx => (hw.tr r.bel).block x (hS x hx)) (by rw [(hw.tr r.bel).block g hgB]; exact hg) hlm hk hl (by omega)).mono fun e w3 he => ?_⟩
    rcases he with ⟨h, rfl, hb3⟩ | ⟨h, rfl, hgr, rs', e1, e2, e3, e4, e5, e6⟩
    · have hw3 : Bel w.heap.size w w3 := (hw.tr r.bel).tr (hb3.bel r.baseLe)
      refine ⟨.bool false, [], [], rfl, r.nilTo hb3.size, ?_⟩
      have hq3 : P / D < q := by
        refine Nat.lt_of_le_of_ne hq1 fun e => ?_
        rw [e] at hQD
        omega
      have hq4 : 0 < q := Nat.lt_of_le_of_lt (Nat.zero_le _) hq3
      have hq5 : P / D ≤ q - 1 := Nat.le_sub_one_of_lt hq3
      clear r
      conv => whnf
      refine ⟨((q - 1 : Nat) : Int), by rw [wrapU64] <;> omega, ?_⟩
      conv => whnf
      intro ρ4 w4 r4
      exact ⟨(q - 1, w4), ⟨hw3.tr r4.bel, hq5, by dsimp only; omega⟩, Sub.reset r4 ⟨rfl, rfl, rfl, rfl, trivial⟩ ⟨trivial, trivial, trivial, trivial, trivial⟩, by dsimp only; omega⟩
    · have hgw : w.grownBy w3 (some g) := grownBy_trans (grownBy_bel (hw.tr r.bel)) hgr
      refine ⟨.bool true, [], [], rfl, r.nilTo hgr.size, ?_⟩
      have hq := hQl q h hq1
      subst hq
      clear r
      conv => whnf
      refine ⟨((P / D : Nat) : Int), by rw [wrapU32n, Nat.mod_eq_of_lt (by omega)], ?_⟩
      conv => whnf
      intro ρ4 w4 r4
      refine ⟨rfl, grownBy_trans hgw (by have := r4.nilBy; exact ⟨this.os, this.tape, this.output, this.size, fun j hj _ => this.block j hj (by simp)⟩), rs', e1, e2, e3, e4, by rw [e5, hmod], ?_⟩
      rw [r4.nilBy.block g (by have := hgw.size; omega) (by simp)]
      exact e6
end Go.Ex
