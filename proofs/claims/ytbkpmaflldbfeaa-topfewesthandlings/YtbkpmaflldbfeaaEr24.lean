/- A part of the proof of TopFewestHandlings: contracts of functions of package erection, part 24. Their conditions stand in the theorems. -/
import Derived.Test.YtbkpmaflldbfeaaEr23
namespace Go.Er
open Go Go.Sx Go.Proofs

/-- what is told of the world in the midst of a call: the interval s1..s2 is as it was -/
structure Amid (w w2 wi : World) (s1 s2 : Nat) : Prop where
  bel : Bel w.heap.size w wi
  us : ∀ k, s1 ≤ k → k < s2 → wi.heap[k]? = w2.heap[k]?
  le : s2 ≤ wi.heap.size
theorem Amid.rel {w w2 wi w3 : World} {s1 s2 : Nat} (h : Amid w w2 wi s1 s2) {H : Hp} {nx : Nat} {iv : Iv} {ρ : Nat → Val} (r : Rel H nx iv w.heap.size wi ρ w3) (hm : (s1, s2) ∈ iv) : Amid w w2 w3 s1 s2 :=
  ⟨h.bel.tr r.bel, fun k h1 h2 => (r.frm k (by have := h.le; omega) fun id b hb hn he => r.prot s1 s2 hm id b hb hn (by omega)).trans (h.us k h1 h2), by have := h.le; have := r.size; omega⟩
theorem Amid.call {w w2 w3 w4 : World} {s1 s2 : Nat} (h : Amid w w2 w3 s1 s2) (he : Ext w3 w4) : Amid w w2 w4 s1 s2 :=
  ⟨h.bel.tr (Ext.bel he h.bel.size), fun k h1 h2 => (he.block k (by have := h.le; omega)).trans (h.us k h1 h2), by have := h.le; have := he.size; omega⟩
theorem Amid.bits {w w2 wi : World} {s1 s2 : Nat} (h : Amid w w2 wi s1 s2) {b : Option Addr} {n : Nat} {xs : List Nat} (hU : U64I w2 s1 s2 b n xs) : U64B wi wi.heap.size b n xs := hU.keep h.us h.le
theorem Amid.tasks {w w2 wi : World} {s1 s2 : Nat} (h : Amid w w2 wi s1 s2) {a : Option Addr} {n : Nat} {ts : List Tk} (hT : TasksB w w.heap.size a n ts) : TasksB wi wi.heap.size a n ts := hT.up h.bel h.bel.size

/-- the row of a set in the table -/
def RowOk (ts : List Tk) (rest : List Int) (x m : Nat) : Prop := ∀ last : Nat, last < m → ∃ R, rest[x * ts.length + last]? = some R ∧ Vl ts x last R
def tab (ts : List Tk) (rest : List Int) (x q : Nat) : Int := rest.getD ((x ||| 2 ^ q) * ts.length + q) 0
theorem row_tab {ts : List Tk} {rest : List Int} {x m : Nat} (h : ∀ y, m ≤ y → y < 2 ^ ts.length → RowOk ts rest y ts.length) (hx : x + 1 = m) (hlt : x < 2 ^ ts.length) {q : Nat} (hq : q < ts.length) (hc : canF ts x q = true) :
    rest[(x ||| 2 ^ q) * ts.length + q]? = some (tab ts rest x q) ∧ Vl ts (x ||| 2 ^ q) q (tab ts rest x q) := by
  have hb : x.testBit q = false := by
    rw [canF, Bool.and_eq_true] at hc
    simpa using hc.1
  have h1 := or_gt hb
  have h2 := or_lt hlt hq
  obtain ⟨R, h3, h4⟩ := h _ (by omega) h2 q hq
  have : tab ts rest x q = R := by simp [tab, h3]
  rw [this]
  exact ⟨h3, h4⟩
theorem row_all {ts : List Tk} {rest : List Int} {x : Nat} (h : ∀ y, 0 ≤ y → y < 2 ^ ts.length → RowOk ts rest y ts.length) {q : Nat} (hq : q < ts.length) (hc : canF ts x q = true) (hlt : x < 2 ^ ts.length) :
    rest[(x ||| 2 ^ q) * ts.length + q]? = some (tab ts rest x q) ∧ Vl ts (x ||| 2 ^ q) q (tab ts rest x q) :=
  row_tab (m := x + 1) (fun y _ h2 => h y (by omega) h2) rfl hlt hq hc
theorem row_ne {n x y a b : Nat} (ha : a < n) (hb : b < n) (h : x * n + a = y * n + b) : x = y ∧ a = b := by
  have h1 : (x * n + a) / n = x := by rw [Nat.mul_comm, Nat.mul_add_div (by omega), Nat.div_eq_of_lt ha]; rfl
  have h2 : (y * n + b) / n = y := by rw [Nat.mul_comm, Nat.mul_add_div (by omega), Nat.div_eq_of_lt hb]; rfl
  have : x = y := by rw [← h1, ← h2, h]
  subst this
  exact ⟨rfl, by omega⟩
theorem RowOk.set {ts : List Tk} {rest : List Int} {x y m l : Nat} {R : Int} (h : RowOk ts rest y m) (hl : l < ts.length) (hm : m ≤ ts.length) (hne : x ≠ y ∨ m ≤ l) : RowOk ts (rest.set (x * ts.length + l) R) y m := by
  intro last hlast
  obtain ⟨R0, h1, h2⟩ := h last hlast
  refine ⟨R0, ?_, h2⟩
  rw [List.getElem?_set_ne]
  · exact h1
  · intro e
    have := row_ne hl (by omega) e
    omega
theorem RowOk.add {ts : List Tk} {rest : List Int} {x l : Nat} {R : Int} (h : RowOk ts rest x l) (hl : l < ts.length) (hx : x * ts.length + l < rest.length) (hR : Vl ts x l R) : RowOk ts (rest.set (x * ts.length + l) R) x (l + 1) := by
  intro last hlast
  by_cases e : last = l
  · subst e
    exact ⟨R, by rw [List.getElem?_set_self hx], hR⟩
  · exact h.set (x := x) (R := R) hl (by omega) (.inr (Nat.le_refl _)) last (by omega)

theorem row_lt {n p y l : Nat} (hy : y < p) (hl : l < n) : y * n + l < p * n := by
  have : (y + 1) * n ≤ p * n := Nat.mul_le_mul_right n hy
  rw [Nat.add_mul] at this
  omega
theorem bitsAt_lt {ts : List Tk} (hN : InRange ts) (k : Nat) : bitsAt ts k < 2 ^ ts.length := by
  unfold bitsAt
  cases h : ts[k]? with
  | none => simp [Nat.two_pow_pos]
  | some t =>
    have := bitsGo_lt t.needs 0 (hN t (List.mem_of_getElem? h)) (Nat.two_pow_pos _)
    rw [bitsGo_eq, Nat.zero_or] at this
    exact this
theorem bits_get {ts : List Tk} {k : Nat} (hk : k < ts.length) : (ts.map fun t => bitsF t.needs)[k]? = some (bitsAt ts k) := by
  rw [List.getElem?_map, bitsAt, List.getElem?_eq_getElem hk]
  rfl
theorem shl64i {k : Nat} (hk : k < 62) : IntKind.i64.wrap (1 * 2 ^ min (k : Int).toNat IntKind.i64.bits) = ((2 ^ k : Nat) : Int) := by
  have h1 : min (k : Int).toNat IntKind.i64.bits = k := by show min (k : Int).toNat 64 = k; omega
  rw [h1]
  have h2 : (2 : Nat) ^ k < 2 ^ 62 := Nat.pow_lt_pow_right (by decide) hk
  have h3 : ((1 : Int) * 2 ^ k) = ((2 ^ k : Nat) : Int) := by simp
  rw [h3]
  generalize (2 : Nat) ^ k = p at h2
  rw [wrap64 (by omega) (by omega)]
theorem or64i {x y : Nat} (hx : x < 2 ^ 62) (hy : y < 2 ^ 62) : IntKind.i64.wrap ((BitVec.ofInt IntKind.i64.bits x ||| BitVec.ofInt IntKind.i64.bits y).toNat : Int) = ((x ||| y : Nat) : Int) := by
  have h1 := or64 (x := x) (y := y) (by omega) (by omega)
  have h2 : x ||| y < 2 ^ 62 := Nat.or_lt_two_pow hx hy
  have h3 : (BitVec.ofInt IntKind.i64.bits x ||| BitVec.ofInt IntKind.i64.bits y).toNat = x ||| y := h1
  rw [h3, wrap64 (by omega) (by omega)]
def FewB (ts : List Tk) (lo : Nat) (v : Value) (w : World) : Prop := ∃ a n c out sum, v = .tuple #[.slice a n c, .int .i64 sum, .int .i64 (checkF ts)] ∧ (checkF ts = 0 → IntsI w lo w.heap.size a n out ∧ First ts out sum)

theorem fewest_c (a : Option Addr) (n c : Nat) (ts : List Tk) (w : World) (hT : TasksB w w.heap.size a n ts) (hS : Sml ts) :
    Con Try.prog 7 #[.slice a n c] w (Ret w fun v w2 => FewB ts w.heap.size v w2) := by
  obtain rfl : n = ts.length := hT.len
  have hn8 := hS.1
  refine ⟨ent7, calls_f Try.func7 (by rfl) (by simp) (by rfl) ?_⟩
  conv => whnf
  refine callE_S (callE_con (Φ := fun _ w' v w2 => SmallB ts a c w'.heap.size v w2) (fun ρ w' r => small_c a _ c ts w' (hT.up r.bel r.size) hS) ?_)
  rintro ρ w' v w2 r he hb ⟨a', n', c', b, m, cb, rfl, hx⟩
  conv => whnf
  refine BrS.mk (fun h1 => ?_) (fun h1 => ?_)
  · have h1 : checkF ts ≠ 0 := by simpa using h1
    conv => whnf
    intro ρ w3 r
    exact ⟨_, rfl, hb.tr r.bel, _, _, _, [], _, rfl, fun h => absurd h h1⟩
  have h1 : checkF ts = 0 := by simpa using h1
  obtain ⟨rfl, rfl, rfl, rfl, hU⟩ := hx h1
  have hO := checkF_zero h1
  have hA : Amid w w2 w2 w'.heap.size w2.heap.size := ⟨hb, fun _ _ _ => rfl, Nat.le_refl _⟩
  generalize w'.heap.size = s1 at *
  generalize hs2 : w2.heap.size = s2 at *
  clear hx he r
  conv => whnf
  refine callE_S (callE_con (Φ := fun _ _ v _ => v = .int .u64 ((2 ^ ts.length - 1 : Nat) : Int)) (fun ρ w' r => full_c _ b ts.length _ ts.length cb w' hn8) ?_)
  rintro ρ w' v w3 r he hb rfl
  replace hA := (hA.rel r (by simp)).call he
  clear r he hb
  have hp1 : 1 ≤ 2 ^ ts.length := Nat.one_le_two_pow
  have hp2 : 2 ^ ts.length ≤ 2 ^ 8 := Nat.pow_le_pow_right (by decide) hn8
  conv => whnf
  refine ⟨((2 ^ ts.length - 1 : Nat) : Int), by rw [wrap64] <;> omega, ?_⟩
  conv => whnf
  refine ⟨((2 ^ ts.length : Nat) : Int), by rw [wrap64] <;> omega, ?_⟩
  conv => whnf
  obtain ⟨N, hN⟩ : ∃ N, N = 2 ^ ts.length * max ts.length 1 := ⟨_, rfl⟩
  have hN1 : N ≤ 2 ^ 8 * 8 := by rw [hN]; exact Nat.mul_le_mul hp2 (by omega)
  have hN2 : 2 ^ ts.length * ts.length ≤ N := by rw [hN]; exact Nat.mul_le_mul (Nat.le_refl _) (by omega)
  refine ⟨(N : Int), by rw [show ((2 ^ ts.length : Nat) : Int) * max (ts.length : Int) 1 = (N : Int) by rw [hN, Int.natCast_mul]; congr 1; omega, wrap64] <;> omega, ?_⟩
  conv => whnf
  refine ⟨N, N, rfl, rfl, Nat.le_refl _, by omega, by omega, ?_⟩
  conv => whnf
  refine callE_S (callE_con (Φ := fun _ _ v _ => v = .int .u64 ((2 ^ ts.length - 1 : Nat) : Int)) (fun ρ w' r => full_c _ b ts.length _ ts.length cb w' hn8) ?_)
  rintro ρ w' v w4 r he hb rfl
  replace hA := (hA.rel r (by simp)).call he
  clear r he hb
  conv => whnf
  refine ⟨((2 ^ ts.length - 1 : Nat) : Int), by rw [wrap64] <;> omega, ?_⟩
  conv => whnf
  refine ⟨((2 ^ ts.length - 1 : Nat) : Int) - 1, by rw [wrap64] <;> omega, ?_⟩
  conv => whnf
  refine ⟨Nat × List Int × World, fun x => ⟨[(5, .o (.p 0 0)), (7, .o (.v (.int .i64 ts.length))), (8, .o (.s 1 0 N N)), (9, .o (.v (.int .i64 ((x.1 : Int) - 1))))],
      [(1, .arr 3 (x.2.1.map (Value.int .i64))), (0, .box 41 [.v (.slice a' ts.length c'), .v (.slice b ts.length cb)])], 2, [(s1, s2)], x.2.2⟩, fun x => x.1,
    fun x => x.1 + 1 ≤ 2 ^ ts.length ∧ Amid w w2 x.2.2 s1 s2 ∧ x.2.1.length = N ∧ ∀ y, x.1 ≤ y → y < 2 ^ ts.length → RowOk ts x.2.1 y ts.length, ?_, ?_⟩
  · intro ρ w' r
    rw [show List.replicate N (Value.int IntKind.i64 0) = (List.replicate N (0 : Int)).map (Value.int .i64) by simp] at r
    refine ⟨(2 ^ ts.length - 1, List.replicate N 0, w'), ⟨by simp; omega, hA.rel r (by simp), by simp, fun y h2 h3 last hl => ⟨0, ?_, ?_⟩⟩, Sub.gen [] r ⟨rfl, rfl, trivial⟩ ⟨rfl, rfl, rfl, rfl, trivial⟩ (by simp [ScH, Blk.scopd, At.sc]) (by simp [ScE, SV.sc, At.sc]) (by rfl) (by simp)⟩
    · have := row_lt h3 hl
      simp only [List.getElem?_replicate]
      rw [if_pos (by omega)]
    · have : y = 2 ^ ts.length - 1 := by dsimp only at h2; omega
      rw [this]
      exact val_full ts last
  · rintro ⟨m, rest, wi⟩ ⟨hm, hA, hrl, hrow⟩
    dsimp only at hm hA hrl hrow ⊢
    conv => whnf
    refine BrS.mk (fun h => ?_) (fun h => ?_)
    · have h : (m : Int) - 1 ≥ 0 := of_decide_eq_true h
      obtain ⟨m, rfl⟩ : ∃ q, m = q + 1 := ⟨m - 1, by omega⟩
      rw [show ((m + 1 : Nat) : Int) - 1 = (m : Int) by omega]
      conv => whnf
      refine ⟨Nat × List Int × World, fun x => ⟨[(5, .o (.p 0 0)), (7, .o (.v (.int .i64 ts.length))), (8, .o (.s 1 0 N N)), (9, .o (.v (.int .i64 m))), (47, .o (.v (.int .i64 ts.length))), (48, .o (.v (.int .i64 x.1)))],
          [(1, .arr 3 (x.2.1.map (Value.int .i64))), (0, .box 41 [.v (.slice a' ts.length c'), .v (.slice b ts.length cb)])], 2, [(s1, s2)], x.2.2⟩, fun x => ts.length - x.1,
        fun x => x.1 ≤ ts.length ∧ Amid w w2 x.2.2 s1 s2 ∧ x.2.1.length = N ∧ (∀ y, m + 1 ≤ y → y < 2 ^ ts.length → RowOk ts x.2.1 y ts.length) ∧ RowOk ts x.2.1 m x.1, ?_, ?_⟩
      · intro ρ w' r
        exact ⟨(0, rest, w'), ⟨by simp, hA.rel r (by simp), hrl, hrow, fun last hl => by dsimp only at hl; omega⟩, Sub.gen [] r ⟨rfl, rfl, trivial⟩ ⟨rfl, rfl, rfl, rfl, rfl, rfl, trivial⟩ (by simp [ScH, Blk.scopd, At.sc]) (by simp [ScE, SV.sc, At.sc]) (by rfl) (by simp)⟩
      · rintro ⟨l, rest, wi⟩ ⟨hl, hA, hrl, hrow, hrm⟩
        dsimp only at hl hA hrl hrow hrm ⊢
        conv => whnf
        refine BrS.mk (fun h => ?_) (fun h => ?_)
        · have h : l < ts.length := by simpa using h
          conv => whnf
          refine ⟨Nat × Int × World, fun x => ⟨[(5, .o (.p 0 0)), (7, .o (.v (.int .i64 ts.length))), (8, .o (.s 1 0 N N)), (9, .o (.v (.int .i64 m))), (47, .o (.v (.int .i64 ts.length))), (48, .o (.v (.int .i64 l))), (10, .o (.v (.int .i64 l))),
              (11, .o (.v (.int .i64 x.2.1))), (51, .o (.v (.int .i64 ts.length))), (52, .o (.v (.int .i64 x.1)))],
              [(1, .arr 3 (rest.map (Value.int .i64))), (0, .box 41 [.v (.slice a' ts.length c'), .v (.slice b ts.length cb)])], 2, [(s1, s2)], x.2.2⟩, fun x => ts.length - x.1,
            fun x => x.1 ≤ ts.length ∧ Amid w w2 x.2.2 s1 s2 ∧ Least ts (tab ts rest m) m l x.1 x.2.1, ?_, ?_⟩
          · intro ρ w' r
            exact ⟨(0, 1048576, w'), ⟨by simp, hA.rel r (by simp), Least.start ts _ m l⟩, Sub.gen [] r ⟨rfl, rfl, trivial⟩ ⟨rfl, rfl, rfl, rfl, rfl, rfl, rfl, rfl, rfl, rfl, trivial⟩ (by simp [ScH, Blk.scopd, At.sc]) (by simp [ScE, SV.sc, At.sc]) (by rfl) (by simp)⟩
          · rintro ⟨k, best, wi⟩ ⟨hk, hA, hL⟩
            dsimp only at hk hA hL ⊢
            conv => whnf
            refine BrS.mk (fun h => ?_) (fun h => ?_)
            · have h : k < ts.length := by simpa using h
              have hk8 : k < ts.length := by omega
              conv => whnf
              refine ⟨(m : Int), by rw [wrapU64] <;> omega, ?_⟩
              conv => whnf
              refine callE_S (callE_con (Φ := fun _ _ v _ => v = .bool (canF ts m k)) (fun ρ w' r => can_c _ b _ _ _ cb _ m (bitsAt ts k) k w' ((hA.rel r (by simp)).bits hU) (by omega) (bits_get hk8) (by have := bitsAt_lt hO.rng k; omega) (by omega)) ?_)
              rintro ρ w' v w3 r he hb rfl
              replace hA := (hA.rel r (by simp)).call he
              clear r he hb
              conv => whnf
              refine BrS.mk (fun hc => ?_) (fun hc => ?_)
              · obtain ⟨hget, hval⟩ := row_tab hrow rfl (by omega) hk8 hc
                have hk2 : 2 ^ k < 2 ^ 62 := Nat.pow_lt_pow_right (by decide) (by omega)
                have hor := or_lt (n := ts.length) (x := m) (k := k) (by omega) hk8
                have hidx := row_lt hor hk8
                have hmul : (m ||| 2 ^ k) * ts.length ≤ 2 ^ 8 * 8 := Nat.mul_le_mul (by omega) hn8
                have hmvr := mv_range ts l k
                have hlo := hL.lo
                have hhi := hL.hi
                have hvl := hval.lo
                have hvh := hval.hi
                conv => whnf
                refine drawn_of_pi hτ hmix [.x 0, .x 1, .x 2, .x 3, .x 5, .x 6, .x 7, .x 8, .x 9, .x 10, .x 11, .x 12, .x 13, .x 14, .x 15, .x 4, .x 16, .x 17, .x 18] (by kernel_rfl) (by kernel_rfl) ?_
                conv => whnf
                refine ⟨by omega, ((2 ^ k : Nat) : Int), shl64i (by omega), ?_⟩
                conv => whnf
                refine ⟨((m ||| 2 ^ k : Nat) : Int), or64i (by omega) (by omega), ?_⟩
                conv => whnf
                refine ⟨(((m ||| 2 ^ k) * ts.length : Nat) : Int), by rw [← Int.natCast_mul, wrap64] <;> omega, ?_⟩
                conv => whnf
                obtain ⟨ix, hix⟩ : ∃ ix : Nat, ix = (m ||| 2 ^ k) * ts.length + k := ⟨_, rfl⟩
                rw [← hix] at hget
                refine ⟨(ix : Int), by rw [wrap64] <;> omega, ?_⟩
                conv => whnf
                refine ⟨⟨by omega, by omega⟩, ?_⟩
                conv => whnf
                refine ⟨.int .i64 (tab ts rest m k), by rw [List.getElem?_map]; simpa using hget, ?_⟩
                conv => whnf
                refine callE_con (Φ := fun _ _ v _ => v = .int .i64 (mv ts l k)) (fun ρ w' r => moves_c _ b _ _ _ cb ts l k w' ((hA.rel r (by simp)).tasks hT) (.inr ⟨by omega, by omega⟩) (by omega)) ?_
                rintro ρ w' v w3 r he hb rfl
                replace hA := (hA.rel r (by simp)).call he
                clear r he hb
                conv => whnf
                refine ⟨mv ts l k + tab ts rest m k, by rw [wrap64] <;> omega, ?_⟩
                conv => whnf
                refine ⟨(k + 1 : Nat), by rw [wrap64] <;> omega, ?_⟩
                conv => whnf
                intro ρ3 w3 r3
                exact ⟨(k + 1, min best (mv ts l k + tab ts rest m k), w3), ⟨by simp; omega, hA.rel r3 (by simp), hL.take hc hvl⟩, Sub.gen [] r3 ⟨rfl, rfl, trivial⟩ ⟨rfl, rfl, rfl, rfl, rfl, rfl, rfl, rfl, rfl, rfl, trivial⟩ (by simp [ScH, Blk.scopd, At.sc]) (by simp [ScE, SV.sc, At.sc]) (by rfl) (by simp), by simp; omega⟩
              · conv => whnf
                refine ⟨(k + 1 : Nat), by rw [wrap64] <;> omega, ?_⟩
                conv => whnf
                intro ρ3 w3 r3
                exact ⟨(k + 1, best, w3), ⟨by simp; omega, hA.rel r3 (by simp), hL.skip hc⟩, Sub.gen [] r3 ⟨rfl, rfl, trivial⟩ ⟨rfl, rfl, rfl, rfl, rfl, rfl, rfl, rfl, rfl, rfl, trivial⟩ (by simp [ScH, Blk.scopd, At.sc]) (by simp [ScE, SV.sc, At.sc]) (by rfl) (by simp), by simp; omega⟩
            · have hin : k = ts.length := by have : ¬ k < ts.length := by simpa using h
                                             omega
              subst hin
              have hval := hL.val (by omega) (fun q hq hc => (row_tab hrow rfl (by omega) hq hc).2)
              have hidx := row_lt (show m < 2 ^ ts.length by omega) (show l < ts.length by omega)
              have hmul : m * ts.length ≤ 2 ^ 8 * 8 := Nat.mul_le_mul (by omega) hn8
              conv => whnf
              refine ⟨((m * ts.length : Nat) : Int), by rw [← Int.natCast_mul, wrap64] <;> omega, ?_⟩
              conv => whnf
              obtain ⟨ix, hix⟩ : ∃ ix : Nat, ix = m * ts.length + l := ⟨_, rfl⟩
              refine ⟨(ix : Int), by rw [wrap64] <;> omega, ?_⟩
              conv => whnf
              refine ⟨⟨by omega, by omega⟩, ?_⟩
              conv => whnf
              refine ⟨by simp [hrl]; omega, (rest.set (m * ts.length + l) best).map (Value.int .i64), ?_, ?_⟩
              · rw [← hix]
                have := splice_one (rest.map (Value.int .i64)) ix (.int .i64 best) (by simp [hrl]; omega)
                simpa [List.map_set] using this
              conv => whnf
              refine ⟨(l + 1 : Nat), by rw [wrap64] <;> omega, ?_⟩
              conv => whnf
              intro ρ3 w3 r3
              exact ⟨(l + 1, rest.set (m * ts.length + l) best, w3), ⟨by simp; omega, hA.rel r3 (by simp), by simp [hrl], fun y h2 h3 => (hrow y h2 h3).set (by omega) (Nat.le_refl _) (.inl (by omega)), hrm.add (by omega) (by omega) hval⟩,
                Sub.gen [] r3 ⟨rfl, rfl, trivial⟩ ⟨rfl, rfl, rfl, rfl, rfl, rfl, trivial⟩ (by simp [ScH, Blk.scopd, At.sc]) (by simp [ScE, SV.sc, At.sc]) (by rfl) (by simp), by simp; omega⟩
        · have hin : l = ts.length := by have : ¬ l < ts.length := by simpa using h
                                         omega
          subst hin
          conv => whnf
          refine ⟨(m : Int) - 1, by rw [wrap64] <;> omega, ?_⟩
          conv => whnf
          intro ρ3 w3 r3
          exact ⟨(m, rest, w3), ⟨by simp; omega, hA.rel r3 (by simp), hrl, fun y h2 h3 => by
              by_cases e : y = m
              · rw [e]; exact hrm
              · exact hrow y (by dsimp only at h2; omega) h3⟩,
            Sub.gen [] r3 ⟨rfl, rfl, trivial⟩ ⟨rfl, rfl, rfl, rfl, trivial⟩ (by simp [ScH, Blk.scopd, At.sc]) (by simp [ScE, SV.sc, At.sc]) (by rfl) (by simp), by simp⟩
    · have hm0 : m = 0 := by have : ¬ (m : Int) - 1 ≥ 0 := of_decide_eq_false h
                             omega
      subst hm0
      obtain ⟨V, r0, hr0, hrV, hV⟩ := best_exists hO.rng hn8 hO.topo
      conv => whnf
      refine ⟨List Int × Nat × Int × Int × World, fun x => ⟨[(5, .o (.p 0 0)), (7, .o (.v (.int .i64 ts.length))), (8, .o (.s 1 0 N N)), (13, .o (.w 2 x.1.length)), (14, .o (.v (.int .i64 x.2.2.2.1))), (15, .o (.v (.int .u64 x.2.1))), (16, .o (.v (.int .i64 x.2.2.1))),
          (88, .o (.v (.int .i64 ts.length))), (89, .o (.v (.int .i64 x.1.length)))],
          [(2, .vec 3 1 (x.1.map (Value.int .i64))), (1, .arr 3 (rest.map (Value.int .i64))), (0, .box 41 [.v (.slice a' ts.length c'), .v (.slice b ts.length cb)])], 3, [(s1, s2)], x.2.2.2.2⟩, fun x => ts.length - x.1.length,
        fun x => x.1.length ≤ ts.length ∧ Amid w w2 x.2.2.2.2 s1 s2 ∧ Greedy ts V x.1 x.2.1 x.2.2.1 x.2.2.2.1 ∧ (x.2.2.1 = -1 ∨ 0 ≤ x.2.2.1 ∧ x.2.2.1 < ts.length) ∧ 0 ≤ x.2.2.2.1 ∧ x.2.2.2.1 ≤ x.1.length, ?_, ?_⟩
      · intro ρ3 w3 r3
        refine ⟨([], 0, -1, 0, w3), ⟨by simp, hA.rel r3 (by simp), Greedy.start hr0 hrV, .inl rfl, by simp, by simp⟩, Sub.nil 13 3 1 rfl (by simp [ScE, SV.sc, At.sc]) r3 fun ρ1 r1 => ?_⟩
        exact Sub.gen [] r1 ⟨rfl, rfl, rfl, trivial⟩ ⟨rfl, rfl, rfl, rfl, rfl, rfl, rfl, rfl, rfl, trivial⟩ (by simp [ScH, Blk.scopd, At.sc]) (by simp [ScE, SV.sc, At.sc]) (by rfl) (by simp)
      · rintro ⟨out, x, last, sum, wi⟩ ⟨hol, hA, hG, hlast, hs0, hs1'⟩
        dsimp only at hol hA hG hlast hs0 hs1' ⊢
        have hx8 := hG.lt
        conv => whnf
        refine BrS.mk (fun h => ?_) (fun h => ?_)
        · have h : out.length < ts.length := by simpa using h
          conv => whnf
          refine ⟨Nat × Int × Int × World, fun y => ⟨[(5, .o (.p 0 0)), (7, .o (.v (.int .i64 ts.length))), (8, .o (.s 1 0 N N)), (13, .o (.w 2 out.length)), (14, .o (.v (.int .i64 sum))), (15, .o (.v (.int .u64 x))), (16, .o (.v (.int .i64 last))),
              (88, .o (.v (.int .i64 ts.length))), (89, .o (.v (.int .i64 out.length))), (17, .o (.v (.int .i64 y.2.1))), (18, .o (.v (.int .i64 y.2.2.1))), (91, .o (.v (.int .i64 ts.length))), (92, .o (.v (.int .i64 y.1)))],
              [(2, .vec 3 1 (out.map (Value.int .i64))), (1, .arr 3 (rest.map (Value.int .i64))), (0, .box 41 [.v (.slice a' ts.length c'), .v (.slice b ts.length cb)])], 3, [(s1, s2)], y.2.2.2⟩, fun y => ts.length - y.1,
            fun y => y.1 ≤ ts.length ∧ Amid w w2 y.2.2.2 s1 s2 ∧ Pick ts (tab ts rest x) x last y.1 y.2.1 y.2.2.1, ?_, ?_⟩
          · intro ρ3 w3 r3
            exact ⟨(0, -1, 1048576, w3), ⟨by simp, hA.rel r3 (by simp), Pick.start ts _ x last _⟩, Sub.gen [] r3 ⟨rfl, rfl, rfl, trivial⟩ ⟨rfl, rfl, rfl, rfl, rfl, rfl, rfl, rfl, rfl, rfl, rfl, rfl, rfl, trivial⟩ (by simp [ScH, Blk.scopd, At.sc]) (by simp [ScE, SV.sc, At.sc]) (by rfl) (by simp)⟩
          · rintro ⟨k, next, best, wi⟩ ⟨hk, hA, hP⟩
            dsimp only at hk hA hP ⊢
            conv => whnf
            refine BrS.mk (fun h => ?_) (fun h => ?_)
            · have h : k < ts.length := by simpa using h
              conv => whnf
              refine callE_S (callE_con (Φ := fun _ _ v _ => v = .bool (canF ts x k)) (fun ρ w' r => can_c _ b _ _ _ cb _ x (bitsAt ts k) k w' ((hA.rel r (by simp)).bits hU) (by omega) (bits_get h) (by have := bitsAt_lt hO.rng k; omega) (by omega)) ?_)
              rintro ρ w' v w3 r he hb rfl
              replace hA := (hA.rel r (by simp)).call he
              clear r he hb
              conv => whnf
              refine BrS.mk (fun hc => ?_) (fun hc => ?_)
              · have hc : canF ts x k = false := by simpa using hc
                conv => whnf
                refine ⟨(k + 1 : Nat), by rw [wrap64] <;> omega, ?_⟩
                conv => whnf
                intro ρ3 w3 r3
                exact ⟨(k + 1, next, best, w3), ⟨by simp; omega, hA.rel r3 (by simp), hP.skip hc⟩, Sub.gen [] r3 ⟨rfl, rfl, rfl, trivial⟩ ⟨rfl, rfl, rfl, rfl, rfl, rfl, rfl, rfl, rfl, rfl, rfl, rfl, rfl, trivial⟩ (by simp [ScH, Blk.scopd, At.sc]) (by simp [ScE, SV.sc, At.sc]) (by rfl) (by simp), by simp; omega⟩
              · have hc : canF ts x k = true := by simpa using hc
                obtain ⟨hget, hval⟩ := row_all hrow h hc hx8
                have hk2 : 2 ^ k < 2 ^ 62 := Nat.pow_lt_pow_right (by decide) (by omega)
                have hor := or_lt (n := ts.length) (x := x) (k := k) (by omega) h
                have hidx := row_lt hor h
                have hmul : (x ||| 2 ^ k) * ts.length ≤ 2 ^ 8 * 8 := Nat.mul_le_mul (by omega) hn8
                have hmvr := mv_range ts last k
                have hvl := hval.lo
                have hvh := hval.hi
                conv => whnf
                refine drawn_of_pi hτ hmix [.x 0, .x 1, .x 2, .x 4, .x 5, .x 6, .x 7, .x 8, .x 9, .x 10, .x 11, .x 12, .x 13, .x 14, .x 15, .x 3, .x 16, .x 17] (by kernel_rfl) (by kernel_rfl) ?_
                conv => whnf
                refine ⟨by omega, ((2 ^ k : Nat) : Int), shl64 (by omega), ?_⟩
                conv => whnf
                refine ⟨((x ||| 2 ^ k : Nat) : Int), by rw [or64 (by omega) (by omega), wrapU64] <;> omega, ?_⟩
                conv => whnf
                refine ⟨((x ||| 2 ^ k : Nat) : Int), by rw [wrap64] <;> omega, ?_⟩
                conv => whnf
                refine ⟨(((x ||| 2 ^ k) * ts.length : Nat) : Int), by rw [← Int.natCast_mul, wrap64] <;> omega, ?_⟩
                conv => whnf
                obtain ⟨ix, hix⟩ : ∃ ix : Nat, ix = (x ||| 2 ^ k) * ts.length + k := ⟨_, rfl⟩
                rw [← hix] at hget
                refine ⟨(ix : Int), by rw [wrap64] <;> omega, ?_⟩
                conv => whnf
                refine ⟨⟨by omega, by omega⟩, ?_⟩
                conv => whnf
                refine ⟨.int .i64 (tab ts rest x k), by rw [List.getElem?_map]; simpa using hget, ?_⟩
                conv => whnf
                refine callE_con (Φ := fun _ _ v _ => v = .int .i64 (mv ts last k)) (fun ρ w' r => moves_c _ b _ _ _ cb ts last k w' ((hA.rel r (by simp)).tasks hT) hlast (by omega)) ?_
                rintro ρ w' v w3 r he hb rfl
                replace hA := (hA.rel r (by simp)).call he
                clear r he hb
                conv => whnf
                refine ⟨mv ts last k + tab ts rest x k, by rw [wrap64] <;> omega, ?_⟩
                conv => whnf
                refine BrS.mk (fun hn => ?_) (fun hn => ?_)
                · have hn : next < 0 := of_decide_eq_true hn
                  conv => whnf
                  refine ⟨(k + 1 : Nat), by rw [wrap64] <;> omega, ?_⟩
                  conv => whnf
                  intro ρ3 w3 r3
                  exact ⟨(k + 1, k, mv ts last k + tab ts rest x k, w3), ⟨by simp; omega, hA.rel r3 (by simp), hP.take hc (.inl hn)⟩, Sub.gen [] r3 ⟨rfl, rfl, rfl, trivial⟩ ⟨rfl, rfl, rfl, rfl, rfl, rfl, rfl, rfl, rfl, rfl, rfl, rfl, rfl, trivial⟩ (by simp [ScH, Blk.scopd, At.sc]) (by simp [ScE, SV.sc, At.sc]) (by rfl) (by simp), by simp; omega⟩
                · have hn : ¬ next < 0 := of_decide_eq_false hn
                  conv => whnf
                  refine BrS.mk (fun hl => ?_) (fun hl => ?_)
                  · have hl : mv ts last k + tab ts rest x k < best := of_decide_eq_true hl
                    conv => whnf
                    refine ⟨(k + 1 : Nat), by rw [wrap64] <;> omega, ?_⟩
                    conv => whnf
                    intro ρ3 w3 r3
                    exact ⟨(k + 1, k, mv ts last k + tab ts rest x k, w3), ⟨by simp; omega, hA.rel r3 (by simp), hP.take hc (.inr hl)⟩, Sub.gen [] r3 ⟨rfl, rfl, rfl, trivial⟩ ⟨rfl, rfl, rfl, rfl, rfl, rfl, rfl, rfl, rfl, rfl, rfl, rfl, rfl, trivial⟩ (by simp [ScH, Blk.scopd, At.sc]) (by simp [ScE, SV.sc, At.sc]) (by rfl) (by simp), by simp; omega⟩
                  · have hl : ¬ mv ts last k + tab ts rest x k < best := of_decide_eq_false hl
                    conv => whnf
                    refine ⟨(k + 1 : Nat), by rw [wrap64] <;> omega, ?_⟩
                    conv => whnf
                    intro ρ3 w3 r3
                    exact ⟨(k + 1, next, best, w3), ⟨by simp; omega, hA.rel r3 (by simp), hP.leave (fun hh => hh.elim hn hl)⟩, Sub.gen [] r3 ⟨rfl, rfl, rfl, trivial⟩ ⟨rfl, rfl, rfl, rfl, rfl, rfl, rfl, rfl, rfl, rfl, rfl, rfl, rfl, trivial⟩ (by simp [ScH, Blk.scopd, At.sc]) (by simp [ScE, SV.sc, At.sc]) (by rfl) (by simp), by simp; omega⟩
            · have hin : k = ts.length := by have : ¬ k < ts.length := by simpa using h
                                             omega
              subst hin
              obtain ⟨q, rfl, hq, hG2⟩ := hG.step hO.rng hn8 (by assumption) hV hP (fun q hq hc => (row_all hrow hq hc hx8).2)
              have hmvr := mv_range ts last q
              have hq2 : 2 ^ q < 2 ^ 62 := Nat.pow_lt_pow_right (by decide) (by omega)
              conv => whnf
              refine callE_S (callE_con (Φ := fun _ _ v _ => v = .int .i64 (mv ts last q)) (fun ρ w' r => moves_c _ b _ _ _ cb ts last q w' ((hA.rel r (by simp)).tasks hT) hlast (by omega)) ?_)
              rintro ρ w' v w3 r he hb rfl
              replace hA := (hA.rel r (by simp)).call he
              clear r he hb
              conv => whnf
              refine ⟨sum + mv ts last q, by rw [wrap64] <;> omega, ?_⟩
              conv => whnf
              refine ⟨by omega, ((2 ^ q : Nat) : Int), shl64 (by omega), ?_⟩
              conv => whnf
              refine ⟨((x ||| 2 ^ q : Nat) : Int), by rw [or64 (by omega) (by omega), wrapU64] <;> (have hz := hG2.lt; generalize x ||| 2 ^ q = z at hz ⊢; omega), ?_⟩
              conv => whnf
              refine .inl ?_
              conv => whnf
              refine ⟨by simp, by omega, by unfold maxLen; omega, ?_⟩
              conv => whnf
              refine ⟨((out.length + 1 : Nat) : Int), by rw [wrap64] <;> omega, ?_⟩
              conv => whnf
              intro ρ3 w3 r3
              refine ⟨(out ++ [(q : Int)], x ||| 2 ^ q, (q : Int), sum + mv ts last q, w3), ⟨by simp; omega, hA.rel r3 (by simp), hG2, .inr ⟨by dsimp only; omega, by dsimp only; omega⟩, by dsimp only; omega, by simp; omega⟩, ?_, by simp; omega⟩
              dsimp only
              rw [List.length_append, List.map_append]
              exact Sub.gen [(2, 4)] r3 ⟨rfl, rfl, rfl, trivial⟩ ⟨rfl, rfl, rfl, rfl, rfl, rfl, rfl, rfl, rfl, trivial⟩ (by simp [ScH, Blk.scopd, At.sc]) (by simp [ScE, SV.sc, At.sc]) (by rfl) (by simp)
        · have hol2 : out.length = ts.length := by have : ¬ out.length < ts.length := by simpa using h
                                                   omega
          have hF := hG.done hO.rng hn8 hol2 hV
          conv => whnf
          intro ρ5 w5 r5
          obtain ⟨ao, co, hao, hoI⟩ := vecInts r5 (id := 2) (xs := out) rfl (by omega)
          refine ⟨_, rfl, hA.bel.tr r5.bel, ao, out.length, co, out, sum, ?_, fun _ => ⟨hoI, hF⟩⟩
          rw [h1, ← hao]
          rfl
end Go.Er
