/- The executor is sound, first part: its helpers, and how the relation to the world is kept. -/
import Derived.Test.YtbkpmaflldbfeaaSx2
namespace Go.Sx
open Go

/-- What the program says of a type is what the table says. -/
structure TOK (P : Program) (t : Nat) (i : TI) : Prop where
  info : ∃ inf z, P.info? t = some inf ∧ inf.size = i.size ∧ inf.bytes = i.bytes ∧ inf.zero = some z ∧ z.cells.toList = i.zero
  zlen : i.zero.length = i.size
  zone : ∀ x ∈ i.zero, x.oneCell' = true
  agg : ∃ d, P.underlying t = some d ∧ (match d with | .struct _ | .array _ _ => true | _ => false) = i.agg
  i1 : i.tag = 1 → P.underlying t = some (.int i.ik)
  i2 : i.tag = 2 → P.underlying t = some .bool
  i3 : i.tag = 3 → P.underlying t = some .string
  i4 : i.tag = 4 → P.underlying t = some (.slice i.elem)
  i5 : i.tag = 5 → ∃ fs, P.underlying t = some (.struct fs) ∧ fs.toList.map (fun f => (f.offset, f.type)) = i.fields ∧ ∀ f ∈ fs.toList, (P.info? f.type).isSome = true
  i6 : i.tag = 6 → P.underlying t = some (.array i.alen i.elem)
def TabOK (P : Program) (τ : Tab) : Prop := ∀ t i, τ t = some i → TOK P t i

theorem beq_t {a b : Nat} (h : Nat.beq a b = true) : a = b := Nat.eq_of_beq_eq_true h

/-! ### the helpers -/
theorem valsK_spec : ∀ {xs : List Value} {k : List At → Prop}, valsK xs k → k (xs.map At.v)
  | [], _, h => h
  | x :: r, k, h => by
    have := valsK_spec (xs := r) (k := fun r' => k (.v x :: r')) h
    simpa using this
theorem dropK_spec : ∀ {cs : List At} {n : Nat} {k : List At → Prop}, dropK cs n k → k (cs.drop n) ∧ n ≤ cs.length
  | cs, 0, k, h => by cases cs <;> exact ⟨by simpa [dropK] using h, by simp⟩
  | [], n + 1, k, h => by simp [dropK] at h
  | x :: t, n + 1, k, h => by
    have := dropK_spec (cs := t) (n := n) (k := k) h
    exact ⟨by simpa using this.1, by simp; omega⟩
theorem takeK_spec : ∀ {cs : List At} {n : Nat} {k : List At → Prop}, takeK cs n k → k (cs.take n) ∧ n ≤ cs.length
  | cs, 0, k, h => by cases cs <;> exact ⟨by simpa [takeK] using h, by simp⟩
  | [], n + 1, k, h => by simp [takeK] at h
  | x :: t, n + 1, k, h => by
    have := takeK_spec (cs := t) (n := n) (k := fun r => k (x :: r)) h
    exact ⟨by simpa using this.1, by simp; omega⟩
theorem overK_spec : ∀ {cs new : List At} {k : List At → Prop}, overK cs new k → k (new ++ cs.drop new.length) ∧ new.length ≤ cs.length
  | cs, [], k, h => by cases cs <;> exact ⟨by simpa [overK] using h, by simp⟩
  | [], x :: r, k, h => by simp [overK] at h
  | _ :: t, x :: r, k, h => by
    have := overK_spec (cs := t) (new := r) (k := fun t' => k (x :: t')) h
    exact ⟨by simpa using this.1, by simp; omega⟩
theorem spliceK_spec : ∀ {cs : List At} {off : Nat} {new : List At} {k : List At → Prop}, spliceK cs off new k →
    k (cs.take off ++ new ++ cs.drop (off + new.length)) ∧ off + new.length ≤ cs.length
  | cs, 0, new, k, h => by
    have h' : overK cs new k := by cases cs <;> simpa [spliceK] using h
    have := overK_spec h'
    exact ⟨by simpa using this.1, by omega⟩
  | [], n + 1, new, k, h => by simp [spliceK] at h
  | x :: t, n + 1, new, k, h => by
    have := spliceK_spec (cs := t) (off := n) (new := new) (k := fun t' => k (x :: t')) h
    refine ⟨?_, by simp; omega⟩
    have h2 := this.1
    rw [show n + 1 + new.length = (n + new.length) + 1 by omega]
    simpa using h2
theorem one_den {x : At} (h : x.one = true) (ρ : Nat → Val) : (x.den ρ).oneCell' = true := by
  cases x with
  | v y => cases y <;> simp_all [At.one, At.den, Value.oneCell']
  | w id n => simp only [At.den]; split <;> rfl
  | _ => rfl
theorem onesK_spec : ∀ {cs : List At} {k : Prop}, onesK cs k → k ∧ ∀ c ∈ cs, At.one c = true
  | [], k, h => ⟨h, by simp⟩
  | x :: r, k, h => by
    unfold onesK at h
    split at h
    · rename_i hx
      have := onesK_spec h
      exact ⟨this.1, by simp [hx]; exact this.2⟩
    · exact h.elim
theorem rawK_spec : ∀ {cs : List At} {k : List Value → Prop}, rawK cs k → ∃ vs, k vs ∧ cs = vs.map At.v ∧ ∀ v ∈ vs, v.oneCell' = true
  | [], k, h => ⟨[], h, rfl, by simp⟩
  | .v x :: r, k, h => by
    unfold rawK at h
    split at h
    · rename_i hx
      obtain ⟨vs, h1, h2, h3⟩ := rawK_spec h
      exact ⟨x :: vs, h1, by simp [h2], by simp; exact ⟨one_den hx (fun _ => ⟨0, 0, false⟩), h3⟩⟩
    · exact h.elim
  | .p _ _ :: _, k, h => by simp [rawK] at h
  | .s _ _ _ _ :: _, k, h => by simp [rawK] at h
  | .w _ _ :: _, k, h => by simp [rawK] at h
  | .fn _ _ :: _, k, h => by simp [rawK] at h
theorem cellsK_spec {x : SV} {k : List At → Prop} (h : cellsK x k) : ∃ cs, k cs ∧ (∀ ρ, (x.den ρ).cells = (cs.map (At.den ρ)).toArray) ∧ (∀ n, x.sc n → ∀ c ∈ cs, c.sc n) := by
  cases x with
  | a cs => exact ⟨cs, h, fun ρ => rfl, fun n hn => hn⟩
  | o y =>
    cases y with
    | v z =>
      cases z with
      | agg arr =>
        obtain ⟨l⟩ := arr
        refine ⟨_, valsK_spec h, fun ρ => ?_, fun n _ c hc => ?_⟩
        · simp [SV.den, At.den, Value.cells, Function.comp_def]
        · simp at hc; obtain ⟨v, _, rfl⟩ := hc; trivial
      | tuple arr => simp [cellsK] at h
      | _ => exact ⟨_, h, fun ρ => rfl, fun n _ c hc => by simp at hc; subst hc; trivial⟩
    | w id n => exact ⟨_, h, fun ρ => by simp only [SV.den, At.den, List.map]; split <;> rfl, fun n hn c hc => by simp at hc; subst hc; exact hn⟩
    | _ => exact ⟨_, h, fun ρ => rfl, fun n hn c hc => by simp at hc; subst hc; exact hn⟩

theorem getH_cons (t : Nat) (b : Blk) (r : Hp) (u : Nat) : getH ((t, b) :: r) u = if t = u then some b else getH r u := by
  show (match Nat.beq t u with | true => some b | false => getH r u) = _
  split
  · rename_i h; rw [if_pos (beq_t h)]
  · rename_i h; rw [if_neg (fun e => by subst e; rw [Nat.beq_refl] at h; cases h)]
theorem getE_cons (t : Nat) (b : SV) (r : Env) (u : Nat) : getE ((t, b) :: r) u = if t = u then some b else getE r u := by
  show (match Nat.beq t u with | true => some b | false => getE r u) = _
  split
  · rename_i h; rw [if_pos (beq_t h)]
  · rename_i h; rw [if_neg (fun e => by subst e; rw [Nat.beq_refl] at h; cases h)]
theorem setH_spec : ∀ {H : Hp} {id : Nat} {b : Blk} {k : Hp → Prop}, setH H id b k → ∃ H', k H' ∧ (∀ j, getH H' j = if j = id then some b else getH H j) ∧ (getH H id).isSome = true
  | [], id, b, k, h => by simp [setH] at h
  | (t, v) :: r, id, b, k, h => by
    unfold setH at h
    split at h
    · rename_i ht
      have := beq_t ht
      subst this
      refine ⟨_, h, fun j => ?_, by simp [getH_cons]⟩
      simp only [getH_cons]
      by_cases e : t = j
      · simp [e]
      · simp [e, Ne.symm e]
    · rename_i ht
      have hne : t ≠ id := fun e => by subst e; rw [Nat.beq_refl] at ht; cases ht
      obtain ⟨H', h1, h2, h3⟩ := setH_spec h
      refine ⟨_, h1, fun j => ?_, by simp [getH_cons, hne, h3]⟩
      simp only [getH_cons, h2]
      by_cases e : t = j
      · subst e; simp [hne]
      · simp [e]
theorem killK_spec : ∀ {H : Hp} {id : Nat} {k : Hp → Prop}, killK H id k → ∃ H', k H' ∧ (∀ j, getH H' j = if j = id then some .dead else getH H j) ∧ (getH H id).isSome = true
  | [], id, k, h => by simp [killK] at h
  | (t, v) :: r, id, k, h => by
    unfold killK at h
    split at h
    · rename_i ht
      have := beq_t ht
      subst this
      refine ⟨_, h, fun j => ?_, by simp [getH_cons]⟩
      simp only [getH_cons]
      by_cases e : t = j
      · simp [e]
      · simp [e, Ne.symm e]
    · rename_i ht
      have hne : t ≠ id := fun e => by subst e; rw [Nat.beq_refl] at ht; cases ht
      obtain ⟨H', h1, h2, h3⟩ := killK_spec h
      refine ⟨_, h1, fun j => ?_, by simp [getH_cons, hne, h3]⟩
      simp only [getH_cons, h2]
      by_cases e : t = j
      · subst e; simp [hne]
      · simp [e]

/-! ### what depends on the numbering -/
theorem At.den_congr {x : At} {n : Nat} {ρ ρ' : Nat → Val} (h : ∀ id, id < n → ρ id = ρ' id) (hx : x.sc n) : x.den ρ = x.den ρ' := by
  cases x with
  | v y => rfl
  | p id off => simp only [At.den, h id hx]
  | s id off len cap => simp only [At.den, h id hx]
  | w id len => simp only [At.den, h id hx]
  | fn f caps =>
    simp only [At.den]
    congr 2
    exact List.map_congr_left fun id hid => by rw [h id (hx id hid)]
theorem SV.den_congr {x : SV} {n : Nat} {ρ ρ' : Nat → Val} (h : ∀ id, id < n → ρ id = ρ' id) (hx : x.sc n) : x.den ρ = x.den ρ' := by
  cases x with
  | o y => exact At.den_congr h hx
  | a cs =>
    simp only [SV.den]
    congr 2
    exact List.map_congr_left fun c hc => At.den_congr h (hx c hc)
theorem At.sc_mono {x : At} {n m : Nat} (h : n ≤ m) (hx : x.sc n) : x.sc m := by
  cases x with
  | v y => trivial
  | fn f caps => intro id hid; have := hx id hid; omega
  | _ => simp only [At.sc] at *; omega
theorem SV.sc_mono {x : SV} {n m : Nat} (h : n ≤ m) (hx : x.sc n) : x.sc m := by
  cases x with
  | o y => exact At.sc_mono h hx
  | a cs => exact fun c hc => At.sc_mono h (hx c hc)

/-- the world has drawn -/
theorem Rel.drew {H : Hp} {nx : Nat} {iv : Iv} {B : Nat} {w w' : World} {ρ : Nat → Val} (r : Rel H nx iv B w ρ w') : Rel H nx iv B w ρ w'.drew :=
  ⟨r.os, r.tape, r.output, r.size, r.base, r.ivs, r.keys, r.box, r.arr, r.vec, r.inj, r.low, r.frm, r.prot, r.scH, r.nn⟩

/-- the number of a new block is put into the numbering -/
def upd (ρ : Nat → Val) (nx : Nat) (v : Val) : Nat → Val := fun j => if j = nx then v else ρ j
theorem upd_lt {ρ : Nat → Val} {nx : Nat} {v : Val} : ∀ id, id < nx → ρ id = upd ρ nx v id := fun id h => by simp [upd, Nat.ne_of_lt h]
@[simp] theorem upd_same {ρ : Nat → Val} {nx : Nat} {v : Val} : upd ρ nx v nx = v := by simp [upd]

/-- What a block is to hold. -/
def Blk.fits (b : Blk) (ρ : Nat → Val) (v : Val) (w : World) : Prop :=
  match b with
  | .box t cs => v.nil = false ∧ w.heap[v.g]? = some (.cells (cs.map (At.den ρ)).toArray t (0, 0))
  | .arr t cs => v.nil = false ∧ w.heap[v.g]? = some (.cells cs.toArray t (0, 0))
  | .vec t size cs => (v.nil = true ∧ cs = []) ∨ (v.nil = false ∧ ∃ spare : List Value, w.heap[v.g]? = some (.cells (cs ++ spare).toArray t (0, 0)) ∧ (cs ++ spare).length = v.cap * size ∧ v.cap ≤ maxLen)
  | .dead => True
def Blk.scopd (b : Blk) (n : Nat) : Prop := match b with
  | .box _ cs => ∀ x ∈ cs, At.sc n x
  | _ => True

theorem Rel.fits {H : Hp} {nx : Nat} {iv : Iv} {B : Nat} {w w' : World} {ρ : Nat → Val} (r : Rel H nx iv B w ρ w') {id : Nat} {b : Blk} (h : getH H id = some b) : b.fits ρ (ρ id) w' := by
  cases b with
  | box t cs => exact ⟨r.nn id _ h (by intros; simp) (by simp), r.box id t cs h⟩
  | arr t cs => exact ⟨r.nn id _ h (by intros; simp) (by simp), r.arr id t cs h⟩
  | vec t size cs => exact r.vec id t size cs h
  | dead => trivial

/-- The relation out of what each block holds. -/
theorem Rel.mk' {H : Hp} {nx : Nat} {iv : Iv} {B : Nat} {w w' : World} {ρ : Nat → Val} (os : w'.os = w.os) (tape : w'.tape = w.tape) (output : w'.output = w.output)
    (size : w.heap.size ≤ w'.heap.size) (base : B ≤ w.heap.size) (ivs : ∀ lo hi, (lo, hi) ∈ iv → hi ≤ w.heap.size) (keys : ∀ id b, getH H id = some b → id < nx)
    (fits : ∀ id b, getH H id = some b → b.fits ρ (ρ id) w') (scH : ∀ id b, getH H id = some b → b.scopd nx)
    (inj : ∀ id id' b b', getH H id = some b → getH H id' = some b' → b ≠ .dead → b' ≠ .dead → (ρ id).nil = false → (ρ id').nil = false → (ρ id).g = (ρ id').g → id = id')
    (low : ∀ id b, getH H id = some b → (ρ id).nil = false → B ≤ (ρ id).g ∧ (ρ id).g < w'.heap.size)
    (frm : ∀ k, k < w.heap.size → (∀ id b, getH H id = some b → (ρ id).nil = false → (ρ id).g ≠ k) → w'.heap[k]? = w.heap[k]?)
    (prot : ∀ lo hi, (lo, hi) ∈ iv → ∀ id b, getH H id = some b → (ρ id).nil = false → ¬ (lo ≤ (ρ id).g ∧ (ρ id).g < hi)) : Rel H nx iv B w ρ w' where
  os := os
  tape := tape
  output := output
  size := size
  base := base
  ivs := ivs
  keys := keys
  box := fun id t cs h => (fits id _ h).2
  arr := fun id t cs h => (fits id _ h).2
  vec := fun id t size cs h => fits id _ h
  inj := inj
  low := low
  frm := frm
  prot := prot
  scH := fun id t cs h => scH id _ h
  nn := fun id b h h1 h2 => by
    have := fits id b h
    cases b with
    | box t cs => exact this.1
    | arr t cs => exact this.1
    | vec t size cs => exact absurd rfl (h1 t size cs)
    | dead => exact absurd rfl h2

theorem Blk.fits_keep {b : Blk} {ρ ρ' : Nat → Val} {v : Val} {w w' : World} {n : Nat} (h : b.fits ρ v w) (hρ : ∀ id, id < n → ρ id = ρ' id) (hs : b.scopd n)
    (hw : v.nil = false → b ≠ .dead → w'.heap[v.g]? = w.heap[v.g]?) : b.fits ρ' v w' := by
  cases b with
  | box t cs =>
    obtain ⟨h1, h2⟩ := h
    refine ⟨h1, ?_⟩
    rw [hw h1 (by simp), h2, List.map_congr_left fun c hc => At.den_congr hρ (hs c hc)]
  | arr t cs => exact ⟨h.1, by rw [hw h.1 (by simp)]; exact h.2⟩
  | vec t size cs =>
    rcases h with h | ⟨h1, spare, h2, h3⟩
    · exact .inl h
    · exact .inr ⟨h1, spare, by rw [hw h1 (by simp)]; exact h2, h3⟩
  | dead => trivial
theorem Blk.scopd_mono {b : Blk} {n m : Nat} (h : n ≤ m) (hb : b.scopd n) : b.scopd m := by
  cases b with
  | box t cs => exact fun c hc => At.sc_mono h (hb c hc)
  | _ => trivial
theorem Rel.scopd {H : Hp} {nx : Nat} {iv : Iv} {B : Nat} {w w' : World} {ρ : Nat → Val} (r : Rel H nx iv B w ρ w') {id : Nat} {b : Blk} (h : getH H id = some b) : b.scopd nx := by
  cases b with
  | box t cs => exact r.scH id t cs h
  | _ => trivial

/-- A new local number, for a block that lies behind all that were there. -/
theorem Rel.push {H : Hp} {nx : Nat} {iv : Iv} {B : Nat} {w w' w2 : World} {ρ : Nat → Val} (r : Rel H nx iv B w ρ w') (b : Blk) (v : Val)
    (os : w2.os = w'.os) (tape : w2.tape = w'.tape) (output : w2.output = w'.output) (size : w'.heap.size ≤ w2.heap.size) (old : ∀ k, k < w'.heap.size → w2.heap[k]? = w'.heap[k]?)
    (hv : v.nil = false → w'.heap.size ≤ v.g ∧ v.g < w2.heap.size) (hb : b.fits ρ v w2) (hs : b.scopd nx) : Rel ((nx, b) :: H) (nx + 1) iv B w (upd ρ nx v) w2 := by
  have hlt : ∀ id b, getH H id = some b → id ≠ nx := fun id b h => Nat.ne_of_lt (r.keys id b h)
  have hup : ∀ id b, getH H id = some b → upd ρ nx v id = ρ id := fun id b h => by simp [upd, hlt id b h]
  refine Rel.mk' (os.trans r.os) (tape.trans r.tape) (output.trans r.output) (Nat.le_trans r.size size) r.base r.ivs ?_ ?_ ?_ ?_ ?_ ?_ ?_
  · intro id b' h
    rw [getH_cons] at h
    split at h
    · omega
    · have := r.keys id b' h; omega
  · intro id b' h
    rw [getH_cons] at h
    split at h
    · rename_i e; subst e; injection h with h; subst h
      rw [upd_same]
      exact Blk.fits_keep hb upd_lt hs (fun _ _ => rfl)
    · rw [hup id b' h]
      exact Blk.fits_keep (r.fits h) upd_lt (r.scopd h) (fun h1 _ => old _ (r.low id b' h h1).2)
  · intro id b' h
    rw [getH_cons] at h
    split at h
    · injection h with h; subst h; exact Blk.scopd_mono (by omega) hs
    · exact Blk.scopd_mono (by omega) (r.scopd h)
  · intro id id' b1 b2 h1 h2 d1 d2 n1 n2 e
    rw [getH_cons] at h1 h2
    split at h1 <;> split at h2
    · omega
    · rename_i e1 e2; subst e1
      rw [upd_same] at e n1; rw [hup id' b2 h2] at e n2
      have := (r.low id' b2 h2 n2).2
      have := (hv n1).1
      omega
    · rename_i e1 e2; subst e2
      rw [upd_same] at e n2; rw [hup id b1 h1] at e n1
      have := (r.low id b1 h1 n1).2
      have := (hv n2).1
      omega
    · rw [hup id b1 h1] at e n1; rw [hup id' b2 h2] at e n2
      exact r.inj id id' b1 b2 h1 h2 d1 d2 n1 n2 e
  · intro id b' h n1
    rw [getH_cons] at h
    split at h
    · rename_i e; subst e; rw [upd_same] at n1 ⊢
      have := hv n1; have := r.base; have := r.size; omega
    · rw [hup id b' h] at n1 ⊢
      have := r.low id b' h n1; omega
  · intro k hk hne
    rw [old k (by have := r.size; omega)]
    refine r.frm k hk fun id b' h n1 => ?_
    have := hne id b' (by rw [getH_cons, if_neg (Ne.symm (hlt id b' h))]; exact h) (by rw [hup id b' h]; exact n1)
    rwa [hup id b' h] at this
  · intro lo hi hm id b' h n1
    rw [getH_cons] at h
    split at h
    · rename_i e; subst e; rw [upd_same] at n1 ⊢
      have := hv n1; have := r.ivs lo hi hm; have := r.size; omega
    · rw [hup id b' h] at n1 ⊢
      exact r.prot lo hi hm id b' h n1

/-- A block of the call's own is written. -/
theorem Rel.store {H H' : Hp} {nx : Nat} {iv : Iv} {B : Nat} {w w' w2 : World} {ρ : Nat → Val} (r : Rel H nx iv B w ρ w') {id : Nat} {b b' : Blk} (hid : getH H id = some b) (hd : b ≠ .dead) (hn : (ρ id).nil = false)
    (hH : ∀ j, getH H' j = if j = id then some b' else getH H j)
    (os : w2.os = w'.os) (tape : w2.tape = w'.tape) (output : w2.output = w'.output) (size : w2.heap.size = w'.heap.size) (old : ∀ k, k ≠ (ρ id).g → w2.heap[k]? = w'.heap[k]?)
    (hb : b'.fits ρ (ρ id) w2) (hs : b'.scopd nx) : Rel H' nx iv B w ρ w2 := by
  have key : ∀ j c, getH H' j = some c → ∃ c', getH H j = some c' := fun j c h => by
    rw [hH] at h
    split at h
    · rename_i e; subst e; exact ⟨b, hid⟩
    · exact ⟨c, h⟩
  refine Rel.mk' (os.trans r.os) (tape.trans r.tape) (output.trans r.output) (by rw [size]; exact r.size) r.base r.ivs ?_ ?_ ?_ ?_ ?_ ?_ ?_
  · intro j c h; obtain ⟨c', h'⟩ := key j c h; exact r.keys j c' h'
  · intro j c h
    rw [hH] at h
    split at h
    · rename_i e; subst e; injection h with h; subst h; exact hb
    · rename_i e
      refine Blk.fits_keep (r.fits h) (fun _ _ => rfl) (r.scopd h) (fun h1 h2 => old _ fun e2 => e ?_)
      exact r.inj j id c b h hid h2 hd h1 hn e2
  · intro j c h
    rw [hH] at h
    split at h
    · injection h with h; subst h; exact hs
    · exact r.scopd h
  · intro j j' c c' h1 h2 d1 d2 n1 n2 e
    rw [hH] at h1 h2
    have l1 : ∃ c1, getH H j = some c1 ∧ c1 ≠ .dead := by
      split at h1
      · rename_i e1; subst e1; exact ⟨b, hid, hd⟩
      · exact ⟨c, h1, d1⟩
    have l2 : ∃ c1, getH H j' = some c1 ∧ c1 ≠ .dead := by
      split at h2
      · rename_i e1; subst e1; exact ⟨b, hid, hd⟩
      · exact ⟨c', h2, d2⟩
    obtain ⟨c1, g1, g2⟩ := l1
    obtain ⟨c2, g3, g4⟩ := l2
    exact r.inj j j' c1 c2 g1 g3 g2 g4 n1 n2 e
  · intro j c h n1; obtain ⟨c', h'⟩ := key j c h; rw [size]; exact r.low j c' h' n1
  · intro k hk hne
    have hkg : k ≠ (ρ id).g := fun e => hne id b' (by rw [hH]; simp) hn e.symm
    rw [old k hkg]
    refine r.frm k hk fun j c h n1 => ?_
    by_cases e : j = id
    · subst e; exact Ne.symm hkg
    · exact hne j c (by rw [hH, if_neg e]; exact h) n1
  · intro lo hi hm j c h n1; obtain ⟨c', h'⟩ := key j c h; exact r.prot lo hi hm j c' h' n1

/-- A growing slice is appended to: its old number is dead, the new one stands for the old block, or for a new one. -/
theorem Rel.regrow {H H1 : Hp} {nx : Nat} {iv : Iv} {B : Nat} {w w' w2 : World} {ρ : Nat → Val} (r : Rel H nx iv B w ρ w') {id : Nat} {b0 : Blk} (hid : getH H id = some b0) (hd : b0 ≠ .dead)
    (hH : ∀ j, getH H1 j = if j = id then some .dead else getH H j) (b : Blk) (v : Val)
    (os : w2.os = w'.os) (tape : w2.tape = w'.tape) (output : w2.output = w'.output) (size : w'.heap.size ≤ w2.heap.size)
    (old : ∀ k, k < w'.heap.size → ((ρ id).nil = false → k ≠ (ρ id).g) → w2.heap[k]? = w'.heap[k]?)
    (hv : v.nil = false → (w'.heap.size ≤ v.g ∧ v.g < w2.heap.size) ∨ ((ρ id).nil = false ∧ v.g = (ρ id).g)) (hb : b.fits ρ v w2) (hs : b.scopd nx) : Rel ((nx, b) :: H1) (nx + 1) iv B w (upd ρ nx v) w2 := by
  have key : ∀ j c, getH H1 j = some c → ∃ c', getH H j = some c' ∧ (c ≠ .dead → c' = c ∧ j ≠ id) := fun j c h => by
    rw [hH] at h
    split at h
    · rename_i e; subst e; injection h with h; exact ⟨b0, hid, fun h2 => absurd h.symm h2⟩
    · rename_i e; exact ⟨c, h, fun _ => ⟨rfl, e⟩⟩
  have hlt : ∀ j c, getH H1 j = some c → j ≠ nx := fun j c h => by obtain ⟨c', h', _⟩ := key j c h; exact Nat.ne_of_lt (r.keys j c' h')
  have hup : ∀ j c, getH H1 j = some c → upd ρ nx v j = ρ j := fun j c h => by simp [upd, hlt j c h]
  have hidlt := r.keys id b0 hid
  have hvlow : v.nil = false → B ≤ v.g ∧ v.g < w2.heap.size := fun hn => by
    rcases hv hn with h | ⟨h1, h2⟩
    · have := r.base; have := r.size; omega
    · have := r.low id b0 hid h1; omega
  refine Rel.mk' (os.trans r.os) (tape.trans r.tape) (output.trans r.output) (Nat.le_trans r.size size) r.base r.ivs ?_ ?_ ?_ ?_ ?_ ?_ ?_
  · intro j b' h
    rw [getH_cons] at h
    split at h
    · omega
    · obtain ⟨c', h', _⟩ := key j b' h; have := r.keys j c' h'; omega
  · intro j b' h
    rw [getH_cons] at h
    split at h
    · rename_i e; subst e; injection h with h; subst h
      rw [upd_same]
      exact Blk.fits_keep hb upd_lt hs (fun _ _ => rfl)
    · rw [hup j b' h]
      by_cases hdead : b' = .dead
      · subst hdead; trivial
      · obtain ⟨c', h', h2⟩ := key j b' h
        obtain ⟨rfl, hne⟩ := h2 hdead
        exact Blk.fits_keep (r.fits h') upd_lt (r.scopd h') (fun h1 _ => old _ (r.low j c' h' h1).2 fun h3 e => hne (r.inj j id c' b0 h' hid hdead hd h1 h3 e))
  · intro j b' h
    rw [getH_cons] at h
    split at h
    · injection h with h; subst h; exact Blk.scopd_mono (by omega) hs
    · by_cases hdead : b' = .dead
      · subst hdead; trivial
      · obtain ⟨c', h', h2⟩ := key j b' h
        obtain ⟨rfl, hne⟩ := h2 hdead
        exact Blk.scopd_mono (by omega) (r.scopd h')
  · have cross : ∀ j c, getH H1 j = some c → c ≠ .dead → (ρ j).nil = false → v.nil = false → v.g ≠ (ρ j).g := fun j c h dd nj nv e => by
      obtain ⟨c', h', h2⟩ := key j c h
      obtain ⟨rfl, hne⟩ := h2 dd
      rcases hv nv with h3 | ⟨h3, h4⟩
      · have := (r.low j c' h' nj).2; omega
      · exact hne (r.inj j id c' b0 h' hid dd hd nj h3 (by omega))
    intro j j' b1 b2 h1 h2 d1 d2 n1 n2 e
    rw [getH_cons] at h1 h2
    split at h1 <;> split at h2
    · omega
    · rename_i e1 e2; subst e1
      rw [upd_same] at e n1; rw [hup j' b2 h2] at e n2
      exact absurd e (cross j' b2 h2 d2 n2 n1)
    · rename_i e1 e2; subst e2
      rw [upd_same] at e n2; rw [hup j b1 h1] at e n1
      exact absurd e.symm (cross j b1 h1 d1 n1 n2)
    · rw [hup j b1 h1] at e n1; rw [hup j' b2 h2] at e n2
      obtain ⟨c1, g1, k1⟩ := key j b1 h1
      obtain ⟨c2, g2, k2⟩ := key j' b2 h2
      obtain ⟨rfl, _⟩ := k1 d1
      obtain ⟨rfl, _⟩ := k2 d2
      exact r.inj j j' c1 c2 g1 g2 d1 d2 n1 n2 e
  · intro j b' h n1
    rw [getH_cons] at h
    split at h
    · rename_i e; subst e; rw [upd_same] at n1 ⊢
      exact hvlow n1
    · rw [hup j b' h] at n1 ⊢
      obtain ⟨c', h', _⟩ := key j b' h
      have := r.low j c' h' n1; omega
  · intro k hk hne
    have hkey : ∀ j c, getH H j = some c → (ρ j).nil = false → (ρ j).g ≠ k := fun j c h nj => by
      have hj : getH H1 j = some (if j = id then .dead else c) := by rw [hH]; split <;> simp [h]
      have := hne j _ (by rw [getH_cons, if_neg (Ne.symm (hlt j _ hj))]; exact hj) (by rw [hup j _ hj]; exact nj)
      rwa [hup j _ hj] at this
    rw [old k (by have := r.size; omega) (fun h e => hkey id b0 hid h e.symm)]
    exact r.frm k hk hkey
  · intro lo hi hm j b' h n1
    rw [getH_cons] at h
    split at h
    · rename_i e; subst e; rw [upd_same] at n1 ⊢
      rcases hv n1 with h3 | ⟨h3, h4⟩
      · have := r.ivs lo hi hm; have := r.size; omega
      · rw [h4]; exact r.prot lo hi hm id b0 hid h3
    · rw [hup j b' h] at n1 ⊢
      obtain ⟨c', h', _⟩ := key j b' h
      exact r.prot lo hi hm j c' h' n1

end Go.Sx
