/- A part of the proof of TopFewestHandlings: contracts of functions of package erection, part 23. Their conditions stand in the theorems. -/
import Derived.Test.YtbkpmaflldbfeaaEr22
namespace Go.Er
open Go Go.Sx Go.Proofs

def bitsAt (ts : List Tk) (k : Nat) : Nat := ((ts[k]?).map fun t => bitsF t.needs).getD 0
def canF (ts : List Tk) (x k : Nat) : Bool := !x.testBit k && (List.range 8).all fun j => !(bitsAt ts k).testBit j || x.testBit j
/-- an order goes on from a set of tasks to the whole -/
inductive Compl (ts : List Tk) : Nat → List Int → Prop
  | nil : Compl ts (2 ^ ts.length - 1) []
  | cons {x k : Nat} {r : List Int} : k < ts.length → canF ts x k = true → Compl ts (x ||| 2 ^ k) r → Compl ts x ((k : Int) :: r)
structure Vl (ts : List Tk) (x : Nat) (last R : Int) : Prop where
  lo : 0 ≤ R
  hi : R ≤ 1048576
  low : ∀ os, Compl ts x os → R ≤ cost ts last os
  att : R = 1048576 ∨ ∃ os, Compl ts x os ∧ cost ts last os = R

theorem canF_iff {ts : List Tk} (hN : InRange ts) (h8 : ts.length ≤ 8) {x k : Nat} (hk : k < ts.length) : canF ts x k = true ↔ x.testBit k = false ∧ ∀ q ∈ needsOf ts k, x.testBit q.toNat = true := by
  obtain ⟨t, ht⟩ : ∃ t, ts[k]? = some t := ⟨_, List.getElem?_eq_getElem hk⟩
  have hb : bitsAt ts k = bitsF t.needs := by simp [bitsAt, ht]
  have hn : needsOf ts k = t.needs := by simp [needsOf, ht]
  have hr := hN t (List.mem_of_getElem? ht)
  rw [canF, Bool.and_eq_true, hb, hn, List.all_eq_true]
  have hx : (!x.testBit k) = true ↔ x.testBit k = false := by simp
  rw [hx]
  refine and_congr Iff.rfl ⟨fun h q hq => ?_, fun h j hj => ?_⟩
  · have := hr q hq
    have h1 := h q.toNat (List.mem_range.2 (by omega))
    have h2 : (bitsF t.needs).testBit q.toNat = true := (bitsF_test _ _ (fun k hk => (hr k hk).1)).2 (by rw [Int.toNat_of_nonneg this.1]; exact hq)
    rw [h2] at h1
    simpa using h1
  · cases hb : (bitsF t.needs).testBit j with
    | false => rfl
    | true =>
      have h2 := (bitsF_test _ _ (fun k hk => (hr k hk).1)).1 hb
      have := h _ h2
      simpa using this
theorem or_lt {n x k : Nat} (hx : x < 2 ^ n) (hk : k < n) : x ||| 2 ^ k < 2 ^ n := Nat.or_lt_two_pow hx (Nat.pow_lt_pow_right (by decide) hk)
theorem or_gt {x k : Nat} (h : x.testBit k = false) : x < x ||| 2 ^ k := by
  have h1 : x ≤ x ||| 2 ^ k := Nat.left_le_or
  have h2 : x ≠ x ||| 2 ^ k := fun e => by
    have := congrArg (fun y => y.testBit k) e
    simp [h, Nat.testBit_or, Nat.testBit_two_pow] at this
  omega
/-- the tasks of a set -/
def Tells (x : Nat) (p : List Int) : Prop := ∀ j : Nat, x.testBit j = true ↔ (j : Int) ∈ p
theorem Tells.add {x : Nat} {p : List Int} (h : Tells x p) (k : Nat) : Tells (x ||| 2 ^ k) (p ++ [(k : Int)]) := by
  intro j
  rw [Nat.testBit_or, Bool.or_eq_true, h j, Nat.testBit_two_pow, decide_eq_true_eq, List.mem_append, List.mem_singleton]
  constructor
  · rintro (h1 | h1)
    · exact .inl h1
    · exact .inr (by omega)
  · rintro (h1 | h1)
    · exact .inl h1
    · exact .inr (by omega)
theorem Tells.zero : Tells 0 [] := by intro j; simp

theorem compl_of_topo {ts : List Tk} (hN : InRange ts) (h8 : ts.length ≤ 8) : ∀ (r p : List Int) (x : Nat), Tells x p → x < 2 ^ ts.length → Topo ts (p ++ r) → Compl ts x r
  | [], p, x, hx, hlt, h => by
    rw [List.append_nil] at h
    have : x = 2 ^ ts.length - 1 := by
      apply Nat.eq_of_testBit_eq
      intro j
      rw [Nat.testBit_two_pow_sub_one]
      by_cases hj : j < ts.length
      · rw [decide_eq_true hj]
        exact (hx j).2 (h.1.full h.2.1 j (by omega) (by omega))
      · rw [decide_eq_false hj]
        exact Nat.testBit_lt_two_pow (Nat.lt_of_lt_of_le hlt (Nat.pow_le_pow_right (by decide) (by omega)))
    rw [this]
    exact .nil
  | k :: r, p, x, hx, hlt, h => by
    have hk := h.1.2 k (by simp)
    obtain ⟨k, rfl⟩ := Int.eq_ofNat_of_zero_le hk.1
    have hkl : k < ts.length := by omega
    have hnd := h.1.1
    refine .cons hkl ?_ (compl_of_topo hN h8 r (p ++ [(k : Int)]) _ (hx.add k) (or_lt hlt hkl) (by simpa using h))
    rw [canF_iff hN h8 hkl]
    constructor
    · cases hb : x.testBit k with
      | false => rfl
      | true =>
        exfalso
        have h1 := (hx k).1 hb
        rw [List.nodup_append] at hnd
        exact hnd.2.2 _ h1 _ (by simp) rfl
    · intro q hq
      have h1 := h.2.2 p.length (k : Int) (by simp) q hq
      rw [List.take_left] at h1
      have hq0 := (h.1.2 q (by simp [h1])).1
      exact (hx q.toNat).2 (by rw [Int.toNat_of_nonneg hq0]; exact h1)
theorem topo_of_compl {ts : List Tk} (hN : InRange ts) (h8 : ts.length ≤ 8) {x : Nat} {r : List Int} (h : Compl ts x r) : ∀ p, Tells x p → Rng ts p → Tpl ts p → Topo ts (p ++ r) := by
  induction h with
  | nil =>
    intro p hx hr ht
    rw [List.append_nil]
    refine ⟨hr, ?_, ht⟩
    have h1 : (List.range ts.length).map (fun k : Nat => (k : Int)) ⊆ p := fun y hy => by
      obtain ⟨k, hk, rfl⟩ := List.mem_map.1 hy
      rw [← hx k, Nat.testBit_two_pow_sub_one]
      simpa using hk
    have h2 := List.Nodup.length_le_of_subset (l₁ := (List.range ts.length).map (fun k : Nat => (k : Int))) (by
      refine List.Pairwise.map _ (fun a b hab => ?_) List.nodup_range
      intro e; exact hab (by omega)) h1
    have h3 := hr.length_le
    simp at h2
    omega
  | @cons x k r hk hc h ih =>
    intro p hx hr ht
    rw [canF_iff hN h8 hk] at hc
    have hnot : (k : Int) ∉ p := fun hm => by rw [(hx k).2 hm] at hc; cases hc.1
    have := ih (p ++ [(k : Int)]) (hx.add k) ⟨?_, fun y hy => ?_⟩ (fun i y hy q hq => ?_)
    · simpa using this
    · rw [List.nodup_append]
      exact ⟨hr.1, by simp, fun a ha b hb e => by simp at hb; subst hb; exact hnot (e ▸ ha)⟩
    · rcases List.mem_append.1 hy with hy | hy
      · exact hr.2 y hy
      · simp at hy; subst hy; omega
    · by_cases hi : i < p.length
      · rw [List.getElem?_append_left hi] at hy
        rw [List.take_append_of_le_length (by omega)]
        exact ht i y hy q hq
      · have hl := (List.getElem?_eq_some_iff.1 hy).1
        simp at hl
        have hi : i = p.length := by omega
        subst hi
        simp at hy
        subst hy
        rw [List.take_left]
        obtain ⟨t, htk⟩ : ∃ t, ts[k]? = some t := ⟨_, List.getElem?_eq_getElem hk⟩
        have hn : needsOf ts k = t.needs := by simp [needsOf, htk]
        have hq0 := (hN t (List.mem_of_getElem? htk) q (hn ▸ hq)).1
        have := (hx q.toNat).1 (hc.2 q hq)
        rwa [Int.toNat_of_nonneg hq0] at this
theorem compl_topo {ts : List Tk} (hN : InRange ts) (h8 : ts.length ≤ 8) (os : List Int) : Compl ts 0 os ↔ Topo ts os :=
  ⟨fun h => by simpa using topo_of_compl hN h8 h [] Tells.zero ⟨List.nodup_nil, by simp⟩ (fun i x hx => by simp at hx), fun h => compl_of_topo hN h8 os [] 0 Tells.zero (Nat.two_pow_pos _) h⟩
theorem compl_full {ts : List Tk} {os : List Int} (h : Compl ts (2 ^ ts.length - 1) os) : os = [] := by
  cases h with
  | nil => rfl
  | @cons _ k r hk hc h =>
    exfalso
    rw [canF, Nat.testBit_two_pow_sub_one, decide_eq_true hk] at hc
    simp at hc
theorem val_full (ts : List Tk) (last : Int) : Vl ts (2 ^ ts.length - 1) last 0 :=
  ⟨by omega, by omega, fun os h => by rw [compl_full h]; simp [cost], .inr ⟨[], .nil, rfl⟩⟩
theorem compl_len {ts : List Tk} (hN : InRange ts) (h8 : ts.length ≤ 8) {os : List Int} (h : Compl ts 0 os) : os.length = ts.length := ((compl_topo hN h8 os).1 h).2.1

/-- in the midst of the least over the tasks that may come next -/
structure Least (ts : List Tk) (f : Nat → Int) (x : Nat) (last : Int) (m : Nat) (best : Int) : Prop where
  lo : 0 ≤ best
  hi : best ≤ 1048576
  low : ∀ q, q < m → canF ts x q = true → best ≤ mv ts last q + f q
  att : best = 1048576 ∨ ∃ q, q < m ∧ canF ts x q = true ∧ best = mv ts last q + f q
theorem Least.start (ts : List Tk) (f : Nat → Int) (x : Nat) (last : Int) : Least ts f x last 0 1048576 := ⟨by omega, by omega, fun q h => by omega, .inl rfl⟩
theorem Least.skip {ts : List Tk} {f : Nat → Int} {x : Nat} {last best : Int} {m : Nat} (h : Least ts f x last m best) (hc : canF ts x m = false) : Least ts f x last (m + 1) best :=
  ⟨h.lo, h.hi, fun q hq hcq => by
    by_cases e : q = m
    · subst e; rw [hc] at hcq; cases hcq
    · exact h.low q (by omega) hcq, h.att.imp id fun ⟨q, h1, h2⟩ => ⟨q, by omega, h2⟩⟩
theorem Least.take {ts : List Tk} {f : Nat → Int} {x : Nat} {last best : Int} {m : Nat} (h : Least ts f x last m best) (hc : canF ts x m = true) (h0 : 0 ≤ f m) :
    Least ts f x last (m + 1) (min best (mv ts last m + f m)) := by
  have := mv_range ts last m
  have hlo := h.lo
  have hhi := h.hi
  refine ⟨by omega, by omega, fun q hq hcq => ?_, ?_⟩
  · by_cases e : q = m
    · subst e; omega
    · have := h.low q (by omega) hcq; omega
  · by_cases hle : best ≤ mv ts last m + f m
    · rw [Int.min_eq_left hle]
      exact h.att.imp id fun ⟨q, h1, h2⟩ => ⟨q, by omega, h2⟩
    · rw [Int.min_eq_right (by omega)]
      exact .inr ⟨m, by omega, hc, rfl⟩
theorem Least.val {ts : List Tk} {f : Nat → Int} {x : Nat} {last best : Int} (h : Least ts f x last ts.length best) (hx : x ≠ 2 ^ ts.length - 1) (hf : ∀ q, q < ts.length → canF ts x q = true → Vl ts (x ||| 2 ^ q) q (f q)) : Vl ts x last best := by
  refine ⟨h.lo, h.hi, fun os ho => ?_, ?_⟩
  · cases ho with
    | nil => exact absurd rfl hx
    | @cons _ k r hk hc ho =>
      have h1 := h.low k hk hc
      have h2 := (hf k hk hc).low r ho
      simp only [cost]
      omega
  · rcases h.att with h1 | ⟨q, hq, hc, rfl⟩
    · exact .inl h1
    · rcases (hf q hq hc).att with h2 | ⟨os, ho, hco⟩
      · have := mv_range ts last q
        have := h.hi
        exact .inl (by omega)
      · exact .inr ⟨_, .cons hq hc ho, by simp only [cost]; omega⟩

/-- the choice of the next task -/
structure Pick (ts : List Tk) (f : Nat → Int) (x : Nat) (last : Int) (m : Nat) (next best : Int) : Prop where
  h : (next = -1 ∧ ∀ q, q < m → canF ts x q = false) ∨ ∃ q0 : Nat, next = q0 ∧ q0 < m ∧ canF ts x q0 = true ∧ best = mv ts last q0 + f q0 ∧ ∀ q, q < m → canF ts x q = true → best ≤ mv ts last q + f q ∧ (mv ts last q + f q = best → q0 ≤ q)
theorem Pick.start (ts : List Tk) (f : Nat → Int) (x : Nat) (last b : Int) : Pick ts f x last 0 (-1) b := ⟨.inl ⟨rfl, fun q h => by omega⟩⟩
theorem Pick.skip {ts : List Tk} {f : Nat → Int} {x : Nat} {last next best : Int} {m : Nat} (h : Pick ts f x last m next best) (hc : canF ts x m = false) : Pick ts f x last (m + 1) next best := by
  rcases h.h with ⟨h1, h2⟩ | ⟨q0, h1, h2, h3, h4, h5⟩
  · exact ⟨.inl ⟨h1, fun q hq => by
      by_cases e : q = m
      · subst e; exact hc
      · exact h2 q (by omega)⟩⟩
  · exact ⟨.inr ⟨q0, h1, by omega, h3, h4, fun q hq hcq => by
      by_cases e : q = m
      · subst e; rw [hc] at hcq; cases hcq
      · exact h5 q (by omega) hcq⟩⟩
theorem Pick.take {ts : List Tk} {f : Nat → Int} {x : Nat} {last next best : Int} {m : Nat} (h : Pick ts f x last m next best) (hc : canF ts x m = true) (hb : next < 0 ∨ mv ts last m + f m < best) :
    Pick ts f x last (m + 1) m (mv ts last m + f m) := by
  refine ⟨.inr ⟨m, rfl, by omega, hc, rfl, fun q hq hcq => ?_⟩⟩
  by_cases e : q = m
  · subst e; exact ⟨Int.le_refl _, fun _ => Nat.le_refl _⟩
  · rcases h.h with ⟨h1, h2⟩ | ⟨q0, h1, h2, h3, h4, h5⟩
    · rw [h2 q (by omega)] at hcq; cases hcq
    · have := h5 q (by omega) hcq
      exact ⟨by omega, fun e => by omega⟩
theorem Pick.leave {ts : List Tk} {f : Nat → Int} {x : Nat} {last next best : Int} {m : Nat} (h : Pick ts f x last m next best) (hb : ¬ (next < 0 ∨ mv ts last m + f m < best)) : Pick ts f x last (m + 1) next best := by
  rcases h.h with ⟨h1, h2⟩ | ⟨q0, h1, h2, h3, h4, h5⟩
  · exact absurd (.inl (by omega)) hb
  · refine ⟨.inr ⟨q0, h1, by omega, h3, h4, fun q hq hcq => ?_⟩⟩
    by_cases e : q = m
    · subst e; exact ⟨by omega, fun _ => by omega⟩
    · exact h5 q (by omega) hcq

/-- os is after o where they first differ -/
def After (os o : List Int) : Prop := ∃ (j : Nat) (a b : Int), os.take j = o.take j ∧ os[j]? = some a ∧ o[j]? = some b ∧ b < a
/-- what has been chosen so far is the first of the best -/
structure Greedy (ts : List Tk) (V : Int) (out : List Int) (x : Nat) (last sum : Int) : Prop where
  lt : x < 2 ^ ts.length
  on : ∀ r, Compl ts x r → Compl ts 0 (out ++ r) ∧ cost ts (-1) (out ++ r) = sum + cost ts last r
  ex : ∃ r, Compl ts x r ∧ sum + cost ts last r = V
  lex : ∀ os, Compl ts 0 os → cost ts (-1) os = V → (∃ r, os = out ++ r ∧ Compl ts x r) ∨ After os out
theorem After.grow {os o : List Int} (h : After os o) (p : List Int) : After os (o ++ p) := by
  obtain ⟨j, a, b, h1, h2, h3, h4⟩ := h
  have hl := (List.getElem?_eq_some_iff.1 h3).1
  exact ⟨j, a, b, by rw [List.take_append_of_le_length (by omega)]; exact h1, h2, by rw [List.getElem?_append_left hl]; exact h3, h4⟩
theorem Greedy.start {ts : List Tk} {V : Int} {r : List Int} (h : Compl ts 0 r) (hV : cost ts (-1) r = V) : Greedy ts V [] 0 (-1) 0 :=
  ⟨Nat.two_pow_pos _, fun r h => ⟨h, by simp⟩, ⟨r, h, by omega⟩, fun os h _ => .inl ⟨os, rfl, h⟩⟩
theorem Greedy.step {ts : List Tk} {V : Int} {out : List Int} {x : Nat} {last sum next best : Int} {f : Nat → Int} (h : Greedy ts V out x last sum) (hN : InRange ts) (h8 : ts.length ≤ 8) (hl : out.length < ts.length)
    (hV : ∀ os, Compl ts 0 os → V ≤ cost ts (-1) os) (hp : Pick ts f x last ts.length next best) (hf : ∀ q, q < ts.length → canF ts x q = true → Vl ts (x ||| 2 ^ q) q (f q)) :
    ∃ q0 : Nat, next = q0 ∧ q0 < ts.length ∧ Greedy ts V (out ++ [next]) (x ||| 2 ^ q0) next (sum + mv ts last next) := by
  obtain ⟨r, hr, hrV⟩ := h.ex
  have hlen := compl_len hN h8 (h.on r hr).1
  cases hr with
  | nil => simp at hlen; omega
  | @cons _ q r hq hc hr =>
    rcases hp.h with ⟨_, h2⟩ | ⟨q0, rfl, h2, h3, rfl, h5⟩
    · rw [h2 q hq] at hc; cases hc
    · have hcq := (hf q hq hc).low r hr
      have hbq := (h5 q hq hc).1
      simp only [cost] at hrV
      have hcr := cost_range ts r q
      simp only [List.length_append, List.length_cons] at hlen
      have hmq := mv_range ts last q
      have hm0 := mv_range ts last q0
      have hv0 := hf q0 h2 h3
      obtain ⟨os, hos, hco⟩ : ∃ os, Compl ts (x ||| 2 ^ q0) os ∧ cost ts q0 os = f q0 := by
        rcases hv0.att with h6 | h6
        · omega
        · exact h6
      have hon := h.on _ (.cons h2 h3 hos)
      have hVo := hV _ hon.1
      rw [hon.2] at hVo
      simp only [cost] at hVo
      refine ⟨q0, rfl, h2, or_lt h.lt h2, fun r2 hr2 => ?_, ⟨os, hos, by omega⟩, fun os2 ho2 hc2 => ?_⟩
      · have := h.on _ (.cons h2 h3 hr2)
        rw [List.append_assoc]
        refine ⟨this.1, ?_⟩
        rw [List.singleton_append, this.2]
        simp only [cost]
        omega
      · rcases h.lex os2 ho2 hc2 with ⟨r2, rfl, hr2⟩ | ha
        · have hlen2 := compl_len hN h8 ho2
          have hcost2 := (h.on r2 hr2).2
          cases hr2 with
          | nil => simp at hlen2; omega
          | @cons _ q2 r2 hq2 hc3 hr2 =>
            have h6 := (hf q2 hq2 hc3).low r2 hr2
            have h7 := h5 q2 hq2 hc3
            simp only [cost] at hcost2
            have hle := h7.2 (by omega)
            by_cases e : q2 = q0
            · subst e
              exact .inl ⟨r2, by simp, hr2⟩
            · exact .inr ⟨out.length, q2, q0, by simp, by simp, by simp, by omega⟩
        · exact .inr (ha.grow _)
/-- the first of the best orders, with its handlings -/
structure First (ts : List Tk) (out : List Int) (sum : Int) : Prop where
  topo : Topo ts out
  le : ∀ os, Topo ts os → sum ≤ cost ts (-1) os
  lex : ∀ os, Topo ts os → cost ts (-1) os = sum → os = out ∨ After os out
theorem Greedy.done {ts : List Tk} {V : Int} {out : List Int} {x : Nat} {last sum : Int} (h : Greedy ts V out x last sum) (hN : InRange ts) (h8 : ts.length ≤ 8) (hl : out.length = ts.length) (hV : ∀ os, Compl ts 0 os → V ≤ cost ts (-1) os) : First ts out sum := by
  obtain ⟨r, hr, hrV⟩ := h.ex
  have hon := h.on r hr
  have hlen := compl_len hN h8 hon.1
  have : r = [] := List.eq_nil_of_length_eq_zero (by simp at hlen; omega)
  subst this
  simp only [cost] at hrV
  have hs : sum = V := by omega
  subst hs
  rw [List.append_nil] at hon
  refine ⟨(compl_topo hN h8 out).1 hon.1, fun os ho => hV os ((compl_topo hN h8 os).2 ho), fun os ho hc => ?_⟩
  rcases h.lex os ((compl_topo hN h8 os).2 ho) hc with ⟨r2, rfl, hr2⟩ | ha
  · have h2 := compl_len hN h8 ((compl_topo hN h8 _).2 ho)
    have : r2 = [] := List.eq_nil_of_length_eq_zero (by simp at h2; omega)
    subst this
    exact .inl (by simp)
  · exact .inr ha
theorem best_exists {ts : List Tk} (hN : InRange ts) (h8 : ts.length ≤ 8) (h : ∃ l, Topo ts l) : ∃ V r, Compl ts 0 r ∧ cost ts (-1) r = V ∧ ∀ os, Compl ts 0 os → V ≤ cost ts (-1) os := by
  obtain ⟨l, hl⟩ := h
  have key : ∀ (m : Nat) (r : List Int), Compl ts 0 r → cost ts (-1) r ≤ m → ∃ V r, Compl ts 0 r ∧ cost ts (-1) r = V ∧ ∀ os, Compl ts 0 os → V ≤ cost ts (-1) os := by
    intro m
    induction m with
    | zero => exact fun r hr hm => ⟨_, r, hr, rfl, fun os _ => by have := (cost_range ts os (-1)).1; omega⟩
    | succ m ih =>
      intro r hr hm
      by_cases hex : ∃ os, Compl ts 0 os ∧ cost ts (-1) os ≤ m
      · obtain ⟨os, h1, h2⟩ := hex
        exact ih os h1 h2
      · exact ⟨_, r, hr, rfl, fun os ho => by
          have : ¬ cost ts (-1) os ≤ m := fun h => hex ⟨os, ho, h⟩
          omega⟩
  have hc := (compl_topo hN h8 l).2 hl
  exact key (cost ts (-1) l).toNat l hc (by have := (cost_range ts l (-1)).1; omega)
end Go.Er
