/- A part of the proof of TopFewestHandlings: contracts of functions of package erection, part 19. Their conditions stand in the theorems. -/
import Derived.Test.YtbkpmaflldbfeaaEr18
namespace Go.Er
open Go Go.Sx Go.Proofs

theorem flat_set {rows : List Tk} {i : Nat} {t t' : Tk} {v : Value} (h : rows[i]? = some t) (ht : t'.cells = t.cells.set 5 v) : (flat rows).set (i * 6 + 5) v = flat (rows.set i t') := by
  have hlt := (List.getElem?_eq_some_iff.1 h).1
  apply List.ext_getElem?
  intro j
  rw [flat_get]
  by_cases hj : i * 6 + 5 = j
  · subst hj
    rw [List.getElem?_set_self (by rw [flat_len]; omega), show (i * 6 + 5) / 6 = i by omega, show (i * 6 + 5) % 6 = 5 by omega, List.getElem?_set_self hlt, Option.bind_some, ht]
    rfl
  · rw [List.getElem?_set_ne hj, flat_get]
    by_cases hi : i = j / 6
    · have h5 : j % 6 ≠ 5 := by omega
      rw [← hi, List.getElem?_set_self hlt, h, Option.bind_some, Option.bind_some, ht, List.getElem?_set_ne (by omega)]
    · rw [List.getElem?_set_ne hi]
theorem mix_set {α : Type} {fin ts : List α} {i : Nat} {x : α} (hl : fin.length = ts.length) (h : fin[i]? = some x) : (fin.take i ++ ts.drop i).set i x = fin.take (i + 1) ++ ts.drop (i + 1) := by
  have hlt := (List.getElem?_eq_some_iff.1 h).1
  apply List.ext_getElem?
  intro j
  by_cases hj : i = j
  · subst hj
    rw [List.getElem?_set_self (by simp; omega), List.getElem?_append_left (by simp; omega), List.getElem?_take_of_lt (by omega), h]
  · rw [List.getElem?_set_ne hj]
    by_cases h1 : j < i
    · rw [List.getElem?_append_left (by simp; omega), List.getElem?_append_left (by simp; omega), List.getElem?_take_of_lt h1, List.getElem?_take_of_lt (by omega)]
    · rw [List.getElem?_append_right (by simp; omega), List.getElem?_append_right (by simp; omega), List.getElem?_drop, List.getElem?_drop]
      simp only [List.length_take]
      congr 1
      omega
theorem choose_list {α : Type} [Inhabited α] (n : Nat) (p : Nat → α → Prop) (h : ∀ j, j < n → ∃ x, p j x) : ∃ l : List α, l.length = n ∧ ∀ (j : Nat) x, l[j]? = some x → p j x := by
  induction n with
  | zero => exact ⟨[], rfl, by simp⟩
  | succ n ih =>
    obtain ⟨l, hl, hp⟩ := ih (fun j hj => h j (by omega))
    obtain ⟨x, hx⟩ := h n (by omega)
    refine ⟨l ++ [x], by simp [hl], fun j y hy => ?_⟩
    by_cases hj : j < n
    · rw [List.getElem?_append_left (by omega)] at hy
      exact hp j y hy
    · rw [List.getElem?_append_right (by omega)] at hy
      have : j - l.length = 0 := by
        have := (List.getElem?_eq_some_iff.1 hy).1
        simp at this; omega
      rw [this] at hy
      simp at hy
      subst hy
      have : j = n := by omega
      subst this
      exact hx

/-- the row of a task that is turned around -/
def Tk.turn (t : Tk) (a : Option Addr) (c : Nat) (u : List Int) : Tk := { t with na := a, nn := u.length, nc := c, needs := u }
/-- the plan turned around, as a call hands it back -/
def RevB (ts : List Tk) (v : Value) (w : World) : Prop := ∃ x, v = .tuple #[x, .int .i64 (checkF ts)] ∧
  (checkF ts = 0 → ∃ g cap rts, x = .slice (some ⟨g, 0, none⟩) ts.length cap ∧ TasksB w w.heap.size (some ⟨g, 0, none⟩) ts.length rts ∧ rts.map Tk.needs = usersF ts)
instance : Inhabited Tk := ⟨⟨⟨#[]⟩, ⟨#[]⟩, 0, 0, 0, none, 0, 0, []⟩⟩

theorem reverse_c (ad : Addr) (n c : Nat) (ts : List Tk) (w : World) (hT : TasksB w w.heap.size (some ad) n ts) (hS : Sml ts) (h0 : 0 < n) :
    Con Try.prog 20 #[.slice (some ad) n c] w (Ret w fun v w2 => RevB ts v w2) := by
  have hlen := hT.len
  have hn8 := hS.1
  refine ⟨ent20, calls_f Try.func20 (by rfl) (by simp) (by rfl) ?_⟩
  conv => whnf
  refine callE_S (callE_con (Φ := fun _ _ v _ => v = .int .i64 (checkF ts)) (fun ρ w' r => check_c _ n c ts w' (hT.up r.bel r.size) hS) ?_)
  rintro ρ w' v w2 r he hb rfl
  conv => whnf
  refine BrS.mk (fun h1 => ?_) (fun h1 => ?_)
  · have h1 : checkF ts ≠ 0 := by simpa using h1
    conv => whnf
    intro ρ w3 r
    exact ⟨_, rfl, hb.tr r.bel, _, rfl, fun h => absurd h h1⟩
  have h1 : checkF ts = 0 := by simpa using h1
  have hO := checkF_zero h1
  conv => whnf
  refine callE_S (callE_con (Φ := fun _ w' v w2 => ∃ g cap cur, v = .slice (some ⟨g, 0, none⟩) n cap ∧ OwnB w2 w'.heap.size g n cap cur ts) (fun ρ w' r => clone_c ad n c ts w' (hT.up (hb.tr r.bel) (by have := r.size; have := hb.size; omega)) (by omega) h0) ?_)
  rintro ρ3 w3 v w4 r3 he3 hb3 ⟨g, cap, cur, rfl, hown⟩
  have hw := hb.tr hb3
  have hg4 : g < w4.heap.size := (Array.getElem?_eq_some_iff.1 hown.row).1
  have hgB : w.heap.size ≤ g := by have := hown.low; have := r3.size; have := hb.size; omega
  conv => whnf
  refine callE_S (callE_con (Φ := fun _ w' v w2 => UsersB w2 w'.heap.size w2.heap.size v (usersF ts) ∧ (usersF ts).length = ts.length ∧ ∀ u ∈ usersF ts, u.length ≤ 240) (fun ρ w' r => users_c _ n c ts w' (hT.up (hw.tr r.bel) (by have := r.size; have := hw.size; omega)) hS hO.rng) ?_)
  rintro ρ5 w5 v w6 r5 he5 hb5 ⟨⟨gu, rfl, hgu1, hgu2, hrows⟩, hul, _⟩
  have hw6 := hw.tr hb5
  have hown6 : w6.heap[g]? = some (.cells cur.toArray 38 (0, 0)) := by
    rw [he5.block g (by have := r5.size; omega), r5.frm g hg4 fun id b hb hn he => by cases hb]
    exact hown.row
  have hs12 := he5.size
  have hs5 := r5.size
  have hs6 := he5.size
  generalize hs1 : w5.heap.size = s1 at *
  generalize hs2 : w6.heap.size = s2 at *
  obtain ⟨fin, hfl, hfin⟩ := choose_list n (fun j t' => ∃ t u a cc, ts[j]? = some t ∧ (usersF ts)[j]? = some u ∧ t' = t.turn a cc u ∧ CellB w6 s2 ⟨gu, j, none⟩ (.slice a u.length cc) ∧ IntsI w6 s1 s2 a u.length u) (fun j hj => by
    obtain ⟨t, ht⟩ : ∃ t, ts[j]? = some t := ⟨_, List.getElem?_eq_getElem (by omega)⟩
    obtain ⟨u, hu⟩ : ∃ u, (usersF ts)[j]? = some u := ⟨_, List.getElem?_eq_getElem (by omega)⟩
    obtain ⟨a, cc, h1, h2⟩ := hrows j u hu
    exact ⟨_, t, u, a, cc, ht, hu, rfl, h1, h2⟩)
  rw [hul, ← hlen]
  conv => whnf
  refine ⟨Nat × List Value × World, fun x => ⟨[(5, .o (.v (.slice (some ⟨g, 0, none⟩) n cap))), (16, .o (.v (.slice (some ⟨gu, 0, none⟩) n n))), (17, .o (.v (.int .i64 n))), (18, .o (.v (.int .i64 x.1)))],
    [], 0, [(g, g + 1), (s1, s2)], x.2.2⟩, fun x => n - x.1,
    fun x => x.1 ≤ n ∧ Bel w.heap.size w x.2.2 ∧ OwnB x.2.2 w.heap.size g n cap x.2.1 (fin.take x.1 ++ ts.drop x.1) ∧ (∀ k, s1 ≤ k → k < s2 → x.2.2.heap[k]? = w6.heap[k]?) ∧ s2 ≤ x.2.2.heap.size, ?_, ?_⟩
  · intro ρ w' r
    have hg3 := hown.low
    refine ⟨(0, cur, w'), ⟨by simp, hw6.tr r.bel, ⟨hgB, by simpa using hlen, ?_, by simpa using hown.take, hown.size⟩, fun k h2 h3 => ?_, by have := r.size; dsimp only; omega⟩,
      Sub.gen2 [] r trivial ⟨rfl, rfl, rfl, rfl, trivial⟩ (by simp [ScH]) (by simp [ScE, SV.sc, At.sc]) (by rfl) ?_⟩
    · rw [r.frm g (by omega) fun id b hb hn he => by cases hb]
      exact hown6
    · exact r.frm k (by omega) fun id b hb hn he => by cases hb
    · intro lo hi hm
      rcases List.mem_cons.1 hm with hm | hm
      · injection hm with h2 h3
        subst h2; subst h3
        exact ⟨_, _, List.mem_cons_of_mem _ (List.mem_cons_self), hg3, by omega⟩
      · exact ⟨lo, hi, by simp at hm ⊢; exact .inl hm, Nat.le_refl _, Nat.le_refl _⟩
  · rintro ⟨i, cur, wi⟩ ⟨hi, hw, hown, hus, hs2w⟩
    dsimp only at hi hw hown hus hs2w ⊢
    have hgi : g < wi.heap.size := (Array.getElem?_eq_some_iff.1 hown.row).1
    conv => whnf
    refine BrS.mk (fun h => ?_) (fun h => ?_)
    · have h : i < n := by simpa using h
      obtain ⟨t', ht'⟩ : ∃ t', fin[i]? = some t' := ⟨_, List.getElem?_eq_getElem (by omega)⟩
      obtain ⟨t, u, a, cc, ht, hu, rfl, hcell, hints⟩ := hfin i _ ht'
      have hrowt : (fin.take i ++ ts.drop i)[i]? = some t := by
        rw [List.getElem?_append_right (by simp; omega), List.getElem?_drop]
        simp only [List.length_take]
        rw [show i + (i - min i fin.length) = i by omega]
        exact ht
      conv => whnf
      refine ⟨_, rfl, ⟨by omega, by omega⟩, ?_⟩
      conv => whnf
      refine ⟨.slice a u.length cc, fun ρ w' r => ?_, ?_⟩
      · rw [Int.toNat_natCast, Nat.mul_one, add_zero_addr, cell_of_heap (w := w6)]
        · exact hcell.2
        · rw [r.frm gu (by omega) fun id b hb hn he => by cases hb]
          exact hus gu hgu1 hgu2
      conv => whnf
      refine ⟨_, rfl, ⟨by omega, by omega⟩, ?_⟩
      conv => whnf
      intro ρ w' r
      have hrow' : w'.heap[g]? = some (.cells cur.toArray 38 (0, 0)) := by rw [r.frm g hgi fun id b hb hn he => by cases hb]; exact hown.row
      have e6 : ((⟨g, 0, none⟩ : Addr).add ((i : Int).toNat * 6)).add 5 = ⟨g, i * 6 + 5, none⟩ := by rw [Int.toNat_natCast, Addr.add_add, add_zero_addr]
      rw [e6]
      have hsz := hown.size
      refine ⟨rfl, (mayStore hrow' (by omega)).2, fun id c hc => (by cases hc), fun w7 hw7 => ?_⟩
      obtain ⟨ht1, ht2, ht3⟩ := store1 (off := i * 6 + 5) (v := .slice a u.length cc) hrow'
      rw [← hw7] at ht1 ht2 ht3
      clear hw7
      have hw7 : Bel w.heap.size w w7 := (hw.tr r.bel).tr (Bel.grown ht2 (fun k hk => by injection hk with hk; omega) (by have := r.size; have := hw.size; omega))
      have hus7 : ∀ k, s1 ≤ k → k < s2 → w7.heap[k]? = w6.heap[k]? := fun k h2 h3 => by
        rw [ht2.block k (by have := r.size; omega) (fun e => by injection e with e; omega), r.frm k (by omega) fun id b hb hn he => by cases hb]
        exact hus k h2 h3
      have hown7 : OwnB w7 w.heap.size g n cap (cur.set (i * 6 + 5) (.slice a u.length cc)) (fin.take (i + 1) ++ ts.drop (i + 1)) := by
        refine ⟨hown.low, by simp; omega, ht1, ?_, by simpa using hown.size⟩
        rw [← mix_set (by omega) ht', ← flat_set (v := .slice a u.length cc) hrowt rfl, ← hown.take, List.take_set]
      have hsz7 := ht2.size
      have hszr := r.size
      clear ht1 ht2 hrow' r
      conv => whnf
      refine ⟨(i + 1 : Nat), by rw [wrap64] <;> omega, ?_⟩
      conv => whnf
      intro ρ3 w3 r3
      refine ⟨(i + 1, _, w3), ⟨by simp; omega, hw7.tr r3.bel, ⟨hown7.low, hown7.len, ?_, hown7.take, hown7.size⟩, fun k h2 h3 => ?_, by have := r3.size; dsimp only; omega⟩,
        Sub.gen [] r3 trivial ⟨rfl, rfl, rfl, rfl, trivial⟩ (by simp [ScH]) (by simp [ScE, SV.sc, At.sc]) (by rfl) (by simp), by simp; omega⟩
      · rw [r3.frm g (by omega) fun id b hb hn he => by cases hb]
        exact hown7.row
      · rw [r3.frm k (by omega) fun id b hb hn he => by cases hb]
        exact hus7 k h2 h3
    · have hin : i = n := by have : ¬ i < n := by simpa using h
                             omega
      subst hin
      have hfin2 : fin.take i ++ ts.drop i = fin := by
        rw [List.take_of_length_le (by omega), List.drop_of_length_le (by omega), List.append_nil]
      rw [hfin2] at hown
      conv => whnf
      intro ρ3 w3 r3
      have hrow3 : w3.heap[g]? = some (.cells cur.toArray 38 (0, 0)) := by rw [r3.frm g hgi fun id b hb hn he => by cases hb]; exact hown.row
      have hsz3 := r3.size
      refine ⟨_, rfl, hw.tr r3.bel, .slice (some ⟨g, 0, none⟩) i cap, by rw [h1]; rfl, fun _ => ⟨g, cap, fin, by rw [hlen], ⟨by omega, by omega, fun j t hj => ⟨_, rfl, fun k x hx => ⟨?_, ?_⟩⟩, fun j t hj => ?_⟩, ?_⟩⟩
      · rw [add_block, add_block]; show g < _; omega
      · rw [Addr.add_add, add_zero_addr, cell_of hrow3]
        have h6 : t.cells.length = 6 := rfl
        have hk6 := (List.getElem?_eq_some_iff.1 hx).1
        have hjl := (List.getElem?_eq_some_iff.1 hj).1
        have : (flat fin)[j * 6 + k]? = some x := by
          rw [flat_get, show (j * 6 + k) / 6 = j by omega, show (j * 6 + k) % 6 = k by omega, hj]
          exact hx
        rw [← hown.take, List.getElem?_take_of_lt (by omega)] at this
        exact this
      · obtain ⟨t0, u, a, cc, _, hu, rfl, _, hints⟩ := hfin j t hj
        refine (hints.keep (w2 := w3) fun k h2 h3 => ?_).b.up Bel.refl (by omega)
        rw [r3.frm k (by omega) fun id b hb hn he => by cases hb]
        exact hus k h2 h3
      · apply List.ext_getElem?
        intro j
        rw [List.getElem?_map]
        by_cases hj : j < i
        · obtain ⟨t', ht'⟩ : ∃ t', fin[j]? = some t' := ⟨_, List.getElem?_eq_getElem (by omega)⟩
          obtain ⟨t0, u, a, cc, _, hu, rfl, _, _⟩ := hfin j _ ht'
          rw [ht', hu]
          rfl
        · rw [List.getElem?_eq_none (by omega), List.getElem?_eq_none (by omega)]
          rfl
end Go.Er
