/- A part of the proof of TopFewestHandlings: contracts of functions of package erection, part 12. Their conditions stand in the theorems. -/
import Derived.Test.YtbkpmaflldbfeaaEr11
namespace Go.Er
open Go Go.Sx Go.Proofs

theorem rowKeep {H : Hp} {nx : Nat} {iv : Iv} {B e sz m : Nat} {w w' : World} {ρ : Nat → Val} {v : Value} {xs : List Value} (h : w.ownsRow B e sz v m xs) (hc : Cov iv v) (r : Rel H nx iv B w ρ w') : w'.ownsRow B e sz v m xs :=
  ownsRow.keep h fun b hb => r.frm b (ownsRow.low h b hb).2 fun id c hc' hn he => hc.not r hb id c hc' hn he
theorem covRow (v : Value) : Cov (rowIv [v]) v := fun b hb => ⟨b, b + 1, rowIv_mem.2 ⟨v, List.mem_singleton.2 rfl, hb, rfl⟩, by omega, by omega⟩
/-- what covers a row covers its interval -/
theorem Cov.iv {iv : Iv} {v : Value} (h : Cov iv v) : ∀ lo hi, (lo, hi) ∈ rowIv [v] → ∃ lo' hi', (lo', hi') ∈ iv ∧ lo' ≤ lo ∧ hi ≤ hi' := fun lo hi hm => by
  obtain ⟨x, hx, hb, rfl⟩ := rowIv_mem.1 hm
  simp at hx; subst hx
  obtain ⟨lo', hi', h1, h2, h3⟩ := h lo hb
  exact ⟨lo', hi', h1, h2, by omega⟩
theorem covNew {iv : Iv} {v v' : Value} {a b : Nat} (h : Cov iv v) (hv : ∀ k, v'.ownBlock = some k → v.ownBlock = some k ∨ (a ≤ k ∧ k < b)) : Cov ((a, b) :: iv) v' := fun k hk => by
  rcases hv k hk with h1 | h1
  · obtain ⟨lo, hi, h2, h3⟩ := h k h1
    exact ⟨lo, hi, by simp [h2], h3⟩
  · exact ⟨a, b, by simp, h1⟩

structure S2 (w0 wi : World) (s1 s2 : Nat) (Q : World → Prop) (v : Value) (rs : List Int) : Prop where
  bel : Bel w0.heap.size w0 wi
  row : wi.ownsRow w0.heap.size 3 1 v rs.length (rs.map (Value.int .i64))
  us : Q wi
  kp : ∀ w w2 : World, Q w → (∀ k, s1 ≤ k → k < s2 → w2.heap[k]? = w.heap[k]?) → Q w2
  off : ∀ b, v.ownBlock = some b → b < s1 ∨ s2 ≤ b
  le : s2 ≤ wi.heap.size
theorem S2.rel {w0 wi w3 : World} {s1 s2 : Nat} {Q : World → Prop} {v : Value} {rs : List Int} (h : S2 w0 wi s1 s2 Q v rs) {H : Hp} {nx : Nat} {iv : Iv} {ρ : Nat → Val} (r : Rel H nx iv w0.heap.size wi ρ w3) (hi : (s1, s2) ∈ iv) (hc : Cov iv v) : S2 w0 w3 s1 s2 Q v rs :=
  ⟨h.bel.tr r.bel, rowKeep h.row hc r, h.kp _ _ h.us (fun k h1 h2 => r.frm k (by have := h.le; omega) (fun id b hb hn he => r.prot s1 s2 hi id b hb hn (by omega))), h.kp, h.off, by have := h.le; have := r.size; omega⟩
theorem S2.weak {w0 wi : World} {s1 s2 : Nat} {Q Q' : World → Prop} {v : Value} {rs : List Int} (h : S2 w0 wi s1 s2 Q v rs) (hq : Q' wi) (kp : ∀ w w2 : World, Q' w → (∀ k, s1 ≤ k → k < s2 → w2.heap[k]? = w.heap[k]?) → Q' w2) : S2 w0 wi s1 s2 Q' v rs :=
  ⟨h.bel, h.row, hq, kp, h.off, h.le⟩
theorem S2.heap {w0 wi w' w2 : World} {s1 s2 : Nat} {Q : World → Prop} {v v' : Value} {rs ys : List Int} (h : S2 w0 wi s1 s2 Q v rs) {H : Hp} {nx : Nat} {iv : Iv} {ρ : Nat → Val} (r : Rel H nx iv w0.heap.size wi ρ w') (hi : (s1, s2) ∈ iv) (hc : Cov iv v)
    (hrow' : w2.ownsRow w0.heap.size 3 1 v' ys.length (ys.map (Value.int .i64))) (hv' : ∀ b, v'.ownBlock = some b → v.ownBlock = some b ∨ (w'.heap.size ≤ b ∧ b < w2.heap.size)) (hsz : w'.heap.size ≤ w2.heap.size)
    (hfr : ∀ k, k < w'.heap.size → (∀ id b, getH H id = some b → (ρ id).nil = false → (ρ id).g ≠ k) → some k ≠ v.ownBlock → w2.heap[k]? = w'.heap[k]?) {g : Nat} (hbes : Beside w' w2 g v.ownBlock) : S2 w0 w2 s1 s2 Q v' ys := by
  have h1 := h.rel r hi hc
  refine ⟨h1.bel.tr ⟨hbes.os, hbes.tape, hbes.output, hbes.size, fun k hk => hfr k (by have := h1.bel.size; omega) (fun id b hb hn => by have := (r.low id b hb hn).1; omega) (fun e => by have := (ownsRow.low h.row k e.symm).1; omega)⟩, hrow', h.kp _ _ h1.us (fun k h2 h3 => hfr k (by have := h1.le; omega) (fun id b hb hn he => r.prot s1 s2 hi id b hb hn (by omega)) (fun e => by have := h.off k e.symm; omega)), h.kp, fun b hb => ?_, by have := h1.le; omega⟩
  rcases hv' b hb with h4 | h4
  · exact h.off b h4
  · have := h1.le; exact .inr (by omega)
theorem vecInts {H : Hp} {nx : Nat} {iv : Iv} {B : Nat} {w w' : World} {ρ : Nat → Val} (r : Rel H nx iv B w ρ w') {id : Nat} {xs : List Int} (h : getH H id = some (.vec 3 1 (xs.map (Value.int .i64)))) (hl : xs.length ≤ 140737488355328) :
    ∃ a c, (At.w id xs.length).den ρ = .slice a xs.length c ∧ IntsI w' B w'.heap.size a xs.length xs := by
  rcases r.vec id 3 1 _ h with ⟨hn, h0⟩ | ⟨hn, spare, hb, hs, hm⟩
  · have : xs = [] := by simpa using h0
    subst this
    exact ⟨none, 0, by simp [At.den, hn], rfl, by simp, by simp⟩
  · refine ⟨some ⟨(ρ id).g, 0, none⟩, (ρ id).cap, by simp [At.den, hn], rfl, hl, fun j x hx => ⟨_, rfl, (r.low id _ h hn).1, ?_⟩⟩
    rw [add_zero_addr]
    refine ⟨(r.low id _ h hn).2, ?_⟩
    rw [cell_of hb, List.getElem?_append_left (by simp; exact (List.getElem?_eq_some_iff.1 hx).1)]
    simp [hx]
theorem Sub.nil {B nx : Nat} {l : Env} {H : Hp} {iv : Iv} {w w' : World} {ρ : Nat → Val} {t : LoopI} (u e sz : Nat) (h9 : getE l u = some (.o (.v (.slice none 0 0)))) (hsc : ScE nx l) (r : Rel H nx iv B w ρ w')
    (h : ∀ ρ1, Rel ((nx, .vec e sz []) :: H) (nx + 1) iv B w ρ1 w' → Sx.Sub B ((u, .o (.w nx 0)) :: l) (nx + 1) ρ1 w' t) : Sx.Sub B l nx ρ w' t := by
  have r1 := r.push (.vec e sz []) ⟨0, 0, true⟩ (w2 := w') rfl rfl rfl (Nat.le_refl _) (fun _ _ => rfl) (fun h => by cases h) (.inl ⟨rfl, rfl⟩) trivial
  obtain ⟨ρ', h1, h2⟩ := h _ r1
  refine ⟨ρ', h1, fun x v hv => ?_⟩
  obtain ⟨h3, v0, h4, h5⟩ := h2 x v hv
  refine ⟨h3, ?_⟩
  rw [getE_cons] at h4
  split at h4
  · rename_i e; subst e
    injection h4 with h4
    subst h4
    refine ⟨_, h9, ?_⟩
    rw [← h5]
    simp [SV.den, At.den]
  · refine ⟨v0, h4, ?_⟩
    rw [← h5]
    exact SV.den_congr (fun id hid => upd_lt id hid) (hsc.get x v0 h4)
theorem cnt_nil (needs : List Int) : cnt [] needs = needs.length := by
  unfold cnt
  rw [List.countP_eq_length.2]
  intro a _
  simp

/-- what was there stays, and what is told of it is told with wider bounds -/
theorem IntsI.re {w w2 : World} {lo lo2 hi hi2 : Nat} {a : Option Addr} {n : Nat} {xs : List Int} (h : IntsI w lo hi a n xs) (hk : ∀ k, lo ≤ k → k < hi → w2.heap[k]? = w.heap[k]?) (h1 : lo2 ≤ lo) (h2 : hi ≤ hi2) : IntsI w2 lo2 hi2 a n xs :=
  ⟨h.len, h.le, fun j x hx => by
    obtain ⟨ad, h3, h4, h5⟩ := (h.keep hk).cell j x hx
    exact ⟨ad, h3, by omega, by have := h5.1; omega, h5.2⟩⟩
def SortedB (ts : List Tk) (lo : Nat) (v : Value) (w : World) : Prop := ∃ a n c out e, v = .tuple #[.slice a n c, .int .i64 e] ∧
  ((e = 0 ∧ IntsI w lo w.heap.size a n out ∧ Topo ts out) ∨ (e = 24 ∧ ∀ l, ¬ Topo ts l))

theorem sorted_c (a : Option Addr) (n c : Nat) (ts : List Tk) (w : World) (hT : TasksB w w.heap.size a n ts) (hS : Sml ts) (hN : InRange ts) :
    Con Try.prog 21 #[.slice a n c] w (Ret w fun v w2 => SortedB ts w.heap.size v w2) := by
  have hle := hT.le
  have hlen := hT.len
  have hn8 := hS.1
  refine ⟨ent21, calls_f Try.func21 (by rfl) (by simp) (by rfl) ?_⟩
  conv => whnf
  refine ⟨n, n, rfl, rfl, Nat.le_refl _, by omega, by omega, ?_⟩
  conv => whnf
  refine ⟨Nat × List Int × Value × List Int × World, fun x => ⟨[(0, .o (.v (.slice a n c))), (4, .o (.p 0 0)), (5, .o (.s 1 0 n n)), (16, .o (.v (.slice a n c))), (17, .o (.v (.int .i64 n))), (18, .o (.v (.int .i64 x.1)))],
      [(1, .arr 3 (x.2.1.map (Value.int .i64))), (0, .box 62 [.v x.2.2.1])], 2, rowIv [x.2.2.1], x.2.2.2.2⟩, fun x => n - x.1,
    fun x => x.1 ≤ n ∧ Bel w.heap.size w x.2.2.2.2 ∧ x.2.1.length = n ∧ x.2.2.2.2.ownsRow w.heap.size 3 1 x.2.2.1 x.2.2.2.1.length (x.2.2.2.1.map (Value.int .i64)) ∧
      (∀ (k : Nat) y, x.2.1[k]? = some y → k < x.1 → y = (needsOf ts k).length) ∧ Rng ts x.2.2.2.1 ∧ (∀ k : Int, k ∈ x.2.2.2.1 ↔ 0 ≤ k ∧ k < x.1 ∧ needsOf ts k = []), ?_, ?_⟩
  · intro ρ w' r
    rw [show List.replicate n (Value.int IntKind.i64 0) = (List.replicate n (0 : Int)).map (Value.int .i64) by simp] at r
    refine ⟨(0, List.replicate n 0, .slice none 0 0, [], w'), ⟨by simp, r.bel, by simp, World.ownsRow_nil _ _ _ _, by simp, ⟨List.nodup_nil, by simp⟩, fun k => ?_⟩, Sub.gen [] r ⟨rfl, rfl, trivial⟩ ⟨rfl, rfl, rfl, rfl, rfl, rfl, trivial⟩ ?_ (by simp [ScE, SV.sc, At.sc]) (by rfl) ?_⟩
    · simp; omega
    · exact ⟨⟨by omega, trivial⟩, ⟨by omega, fun x hx => by simp at hx; subst hx; trivial⟩, trivial⟩
    · intro lo hi h
      obtain ⟨x, hx, hb, _⟩ := rowIv_mem.1 h
      simp at hx; subst hx; cases hb
  · rintro ⟨i, op, v, rs, wi⟩ ⟨hi, hw, hol, hrow, hop, hrng, hmem⟩
    dsimp only at hi hw hol hrow hop hrng hmem ⊢
    conv => whnf
    refine BrS.mk (fun h => ?_) (fun h => ?_)
    · have h : i < n := by simpa using h
      obtain ⟨t, ht⟩ : ∃ t, ts[i]? = some t := ⟨_, List.getElem?_eq_getElem (by omega)⟩
      obtain ⟨ad, ha, hload⟩ := hT.load hw ht
      have hnn := hT.needs i t ht
      have hnl := hnn.len
      have hno : needsOf ts i = t.needs := by simp [needsOf, ht]
      conv => whnf
      refine ⟨ad, ha, ⟨by omega, by omega⟩, ?_⟩
      conv => whnf
      refine ⟨t.cells, rfl, by simpa using hload _ _ _, ?_⟩
      conv => whnf
      refine ⟨⟨by omega, by omega⟩, ?_⟩
      conv => whnf
      refine ⟨by simp [hol]; omega, (op.set i (t.nn : Int)).map (Value.int .i64), ?_, ?_⟩
      · have := splice_one (op.map (Value.int .i64)) i (.int .i64 t.nn) (by simp [hol]; omega)
        simpa [List.map_set] using this
      conv => whnf
      refine ⟨⟨by omega, by omega⟩, ?_⟩
      conv => whnf
      refine ⟨.int .i64 t.nn, by simp [hol, h], ?_⟩
      have hop' : ∀ (k : Nat) y, (op.set i (t.nn : Int))[k]? = some y → k < i + 1 → y = (needsOf ts k).length := fun k y hy hk => by
        by_cases hik : i = k
        · subst hik
          rw [List.getElem?_set_self (by omega)] at hy
          injection hy with hy
          rw [hno]; omega
        · rw [List.getElem?_set_ne hik] at hy
          exact hop k y hy (by omega)
      conv => whnf
      refine BrS.mk (fun h1 => ?_) (fun h1 => ?_)
      · have h1 : t.nn = 0 := by simpa using h1
        have hempty : needsOf ts i = [] := by rw [hno]; exact List.eq_nil_of_length_eq_zero (by omega)
        have hni : (i : Int) ∉ rs := fun hm => by have := (hmem i).1 hm; omega
        have hrl := hrng.length_le
        conv => whnf
        refine callS_heap (id0 := 0) (v := v) (Φ := fun val ys => val = .tuple #[] ∧ ys.Perm ((i : Int) :: rs)) rfl (covRow v) (fun ρ w' r hb hne => ?_) ?_
        · refine (push_c (ρ 0).g w.heap.size v rs i w' ⟨hb, rowKeep hrow (covRow v) r, hne, (r.low 0 _ rfl (r.nn 0 _ rfl (by intros; simp) (by simp))).1⟩ (by omega)).mono fun e w2 he => ?_
          obtain ⟨rfl, ys, h2, h3⟩ := he
          exact ⟨_, ys, rfl, h2, rfl, h3⟩
        · rintro ρ w' w2 val ys v' r hrow' hv' hsz hfr hbes ⟨rfl, hperm⟩
          conv => whnf
          refine ⟨(i + 1 : Nat), by rw [wrap64] <;> omega, ?_⟩
          conv => whnf
          intro ρ3 w3 r3
          have hcov : Cov ((w'.heap.size, w2.heap.size) :: rowIv [v]) v' := covNew (covRow v) hv'
          have hb2 : Bel w.heap.size w w2 := (hw.tr r.bel).tr ⟨hbes.os, hbes.tape, hbes.output, hbes.size, fun k hk => hfr k (by have := r.size; have := hw.size; omega) (fun id b hb hn => by have := (r.low id b hb hn).1; omega) (fun e => by have := (ownsRow.low hrow k e.symm).1; omega)⟩
          refine ⟨(i + 1, op.set i (t.nn : Int), v', ys, w3), ⟨by simp; omega, hb2.tr r3.bel, by simp [hol], rowKeep hrow' hcov r3, hop', ?_, fun k => ?_⟩,
            Sub.gen2 [] r3 ⟨rfl, rfl, trivial⟩ ⟨rfl, rfl, rfl, rfl, rfl, rfl, trivial⟩ ⟨⟨by omega, trivial⟩, ⟨by omega, fun x hx => by simp at hx; subst hx; trivial⟩, trivial⟩ (by simp [ScE, SV.sc, At.sc]) (by rfl) hcov.iv, by simp; omega⟩
          · refine Rng.perm (l := (i : Int) :: rs) ⟨List.nodup_cons.2 ⟨hni, hrng.1⟩, fun x hx => ?_⟩ hperm.symm
            rcases List.mem_cons.1 hx with rfl | hx
            · omega
            · exact hrng.2 x hx
          · dsimp only
            rw [hperm.mem_iff, List.mem_cons, hmem]
            constructor
            · rintro (rfl | ⟨h2, h3, h4⟩)
              · exact ⟨by omega, by omega, hempty⟩
              · exact ⟨h2, by omega, h4⟩
            · rintro ⟨h2, h3, h4⟩
              by_cases hki : k = i
              · exact .inl hki
              · exact .inr ⟨h2, by omega, h4⟩
      · have h1 : t.nn ≠ 0 := by simpa using h1
        conv => whnf
        refine ⟨(i + 1 : Nat), by rw [wrap64] <;> omega, ?_⟩
        conv => whnf
        intro ρ3 w3 r3
        refine ⟨(i + 1, op.set i (t.nn : Int), v, rs, w3), ⟨by simp; omega, hw.tr r3.bel, by simp [hol], rowKeep hrow (covRow v) r3, hop', hrng, fun k => ?_⟩,
          Sub.gen [] r3 ⟨rfl, rfl, trivial⟩ ⟨rfl, rfl, rfl, rfl, rfl, rfl, trivial⟩ ⟨⟨by omega, trivial⟩, ⟨by omega, fun x hx => by simp at hx; subst hx; trivial⟩, trivial⟩ (by simp [ScE, SV.sc, At.sc]) (by rfl) (fun lo hi h => h), by simp; omega⟩
        dsimp only
        rw [hmem]
        constructor
        · rintro ⟨h2, h3, h4⟩; exact ⟨h2, by omega, h4⟩
        · rintro ⟨h2, h3, h4⟩
          refine ⟨h2, ?_, h4⟩
          apply Decidable.byContradiction
          intro hn
          have hki : k = (i : Int) := by omega
          subst hki
          rw [hno] at h4
          rw [h4] at hnl
          exact h1 hnl
    · have hin : i = n := by have : ¬ i < n := by simpa using h
                             omega
      subst hin
      conv => whnf
      refine callE_S (callE_con (Φ := fun _ w' v w2 => UsersB w2 w'.heap.size w2.heap.size v (usersF ts) ∧ (usersF ts).length = ts.length ∧ ∀ u ∈ usersF ts, u.length ≤ 240) (fun ρ w' r => users_c a i c ts w' (hT.up (hw.tr r.bel) (by have := r.size; have := hw.size; omega)) hS hN) ?_)
      rintro ρ w' vby w2 r he hb ⟨hU, hUl, hU240⟩
      obtain ⟨gu, rfl⟩ : ∃ gu, vby = .slice (some ⟨gu, 0, none⟩) i i := by
        obtain ⟨gu, h1, _⟩ := hU
        exact ⟨gu, by rw [h1, hUl, hlen]⟩
      generalize hs1 : w'.heap.size = s1 at hU
      generalize hs2 : w2.heap.size = s2 at hU
      have hS0 : S2 w w2 s1 s2 (fun w => UsersB w s1 s2 (.slice (some ⟨gu, 0, none⟩) i i) (usersF ts)) v rs :=
        ⟨hw.tr hb, ownsRow.keep (rowKeep hrow (covRow v) r) (fun b hb => he.block b (by have := (ownsRow.low hrow b hb).2; have := r.size; omega)), hU, fun w w2 h hk => h.keep hk, fun b hb => .inl (by have := (ownsRow.low hrow b hb).2; have := r.size; omega), by omega⟩
      have hM0 : Mid ts [] rs op [] := by
        refine ⟨hrng, by omega, fun k y hy => ?_, fun k y hy => ?_, fun i x hx => by simp at hx, by simp⟩
        · have := hop k y hy (by have := (List.getElem?_eq_some_iff.1 hy).1; omega)
          rw [this, cnt_nil]; simp
        · have h1 := hop k y hy (by have := (List.getElem?_eq_some_iff.1 hy).1; omega)
          have h2 := (List.getElem?_eq_some_iff.1 hy).1
          rw [List.nil_append, hmem, h1]
          constructor
          · rintro ⟨_, _, h3⟩; rw [h3]; rfl
          · intro h3
            exact ⟨by omega, by omega, List.eq_nil_of_length_eq_zero (by omega)⟩
      conv => whnf
      refine ⟨List Int × Value × List Int × List Int × World, fun x => ⟨[(0, .o (.v (.slice a i c))), (4, .o (.p 0 0)), (5, .o (.s 1 0 i i)), (8, .o (.v (.slice (some ⟨gu, 0, none⟩) i i))), (9, .o (.w 3 x.2.2.2.1.length))],
          [(3, .vec 3 1 (x.2.2.2.1.map (Value.int .i64))), (1, .arr 3 (x.1.map (Value.int .i64))), (0, .box 62 [.v x.2.1])], 4, (s1, s2) :: rowIv [x.2.1], x.2.2.2.2⟩, fun x => i - x.2.2.2.1.length,
        fun x => S2 w x.2.2.2.2 s1 s2 (fun w => UsersB w s1 s2 (.slice (some ⟨gu, 0, none⟩) i i) (usersF ts)) x.2.1 x.2.2.1 ∧ Mid ts x.2.2.2.1 x.2.2.1 x.1 [], ?_, ?_⟩
      · intro ρ3 w3 r3
        refine ⟨(op, v, rs, [], w3), ⟨hS0.rel r3 (by simp) ((covRow v).more (fun lo hi h => by simp [h])), hM0⟩, Sub.nil 9 3 1 rfl (by simp [ScE, SV.sc, At.sc]) r3 fun ρ1 r1 => ?_⟩
        refine Sub.gen [(3, 2)] r1 ⟨rfl, rfl, rfl, trivial⟩ ⟨rfl, rfl, rfl, rfl, rfl, trivial⟩ ⟨⟨by omega, trivial⟩, ⟨by omega, trivial⟩, ⟨by omega, fun x hx => by simp at hx; subst hx; trivial⟩, trivial⟩ (by simp [ScE, SV.sc, At.sc]) (by rfl) (fun lo hi h => h)
      · rintro ⟨op, v, rs, os, wi⟩ ⟨hS2, hM⟩
        dsimp only at hS2 hM ⊢
        obtain ⟨va, vc, rfl⟩ := row_form hS2.row
        have hrl := hM.rng.length_le
        conv => whnf
        refine BrS.mk (fun h => ?_) (fun h => ?_)
        · have h : 0 < rs.length := by simpa using h
          have hcov : Cov ((s1, s2) :: rowIv [Value.slice va rs.length vc]) (.slice va rs.length vc) := (covRow _).more (fun lo hi h => by simp [h])
          conv => whnf
          refine callS_heap (id0 := 0) (v := .slice va rs.length vc) (Φ := fun val ys => ∃ x, val = .int .i64 x ∧ (x :: ys).Perm rs) rfl hcov (fun ρ w' r hb hne => ?_) ?_
          · refine (pop_c (ρ 0).g w.heap.size _ rs w' ⟨hb, (hS2.rel r (by simp) hcov).row, hne, (r.low 0 _ rfl (r.nn 0 _ rfl (by intros; simp) (by simp))).1⟩ (by simp at hrl; omega) (by intro e; rw [e] at h; simp at h)).mono fun e w2 he => ?_
            obtain ⟨x, ys, rfl, h2, h3⟩ := he
            exact ⟨_, ys, rfl, h2, x, rfl, h3⟩
          · rintro ρ w' w3 val ys v' r hrow' hv' hsz hfr hbes ⟨x, rfl, hperm⟩
            have hS3 := hS2.heap r (by simp) hcov hrow' hv' hsz hfr hbes
            have hcov' : Cov ((w'.heap.size, w3.heap.size) :: (s1, s2) :: rowIv [Value.slice va rs.length vc]) v' := covNew hcov hv'
            have hxr : 0 ≤ x ∧ x < ts.length := hM.rng.2 x (by rw [List.mem_append]; exact .inr (hperm.mem_iff.1 (by simp)))
            obtain ⟨x, rfl⟩ := Int.eq_ofNat_of_zero_le hxr.1
            have hxi : x < i := by omega
            obtain ⟨byx, hbyx, hbyc, hbyr⟩ := usersF_count hN (j := x) (by omega)
            have hM2 := hM.pop hperm hbyc hbyr
            have hol2 := hM2.rng.length_le
            conv => whnf
            refine .inl ?_
            conv => whnf
            refine ⟨by simp, by simp at hrl; omega, by unfold maxLen; simp at hrl; omega, ?_⟩
            conv => whnf
            refine ⟨_, rfl, ⟨by omega, by omega⟩, ?_⟩
            conv => whnf
            have hus3 : UsersB w3 s1 s2 (.slice (some ⟨gu, 0, none⟩) i i) (usersF ts) := hS3.us
            obtain ⟨gu', hgu1, hgu2, hgu3, hgu4⟩ := hS3.us
            injection hgu1 with hgu1
            injection hgu1 with hgu1
            injection hgu1 with hgu1
            subst hgu1
            obtain ⟨ba, bc, hbcell, hbI⟩ := hgu4 x byx hbyx
            refine ⟨.slice ba byx.length bc, fun ρ4 w4 r4 => ?_, ?_⟩
            · rw [show ((⟨gu, 0, none⟩ : Addr).add ((x : Int).toNat * 1)) = ⟨gu, x, none⟩ by rw [Int.toNat_natCast, Nat.mul_one, add_zero_addr]]
              rw [cell_of_heap (w := w3)]
              · exact hbcell.2
              · exact r4.frm gu (by have := hS3.le; omega) (fun id b hb hn he => r4.prot s1 s2 (by simp) id b hb hn (by omega))
            have hbI2 : ∀ (j : Nat) q, byx[j]? = some q → ∃ ad, ba = some ad ∧ s1 ≤ ad.block ∧ ad.block < s2 := fun j q hq => by
              obtain ⟨ad, h1, h2, h3⟩ := hbI.cell j q hq
              exact ⟨ad, h1, h2, by have := h3.1; rw [add_block] at this; exact this⟩
            have hbyl : byx.length ≤ 1000 := by have := hU240 byx (List.mem_of_getElem? hbyx); omega
            conv => whnf
            refine ⟨Nat × List Int × Value × List Int × World, fun z => ⟨[(0, .o (.v (.slice a i c))), (4, .o (.p 0 0)), (5, .o (.s 1 0 i i)), (8, .o (.v (.slice (some ⟨gu, 0, none⟩) i i))), (9, .o (.w 3 (os.length + 1))), (50, .o (.v (.slice ba byx.length bc))), (51, .o (.v (.int .i64 byx.length))), (52, .o (.v (.int .i64 z.1)))],
                [(3, .vec 3 1 (os.map (Value.int .i64) ++ [.int .i64 x])), (1, .arr 3 (z.2.1.map (Value.int .i64))), (0, .box 62 [.v z.2.2.1])], 4, (s1, s2) :: rowIv [z.2.2.1], z.2.2.2.2⟩, fun z => byx.length - z.1,
              fun z => z.1 ≤ byx.length ∧ S2 w z.2.2.2.2 s1 s2 (fun w => UsersB w s1 s2 (.slice (some ⟨gu, 0, none⟩) i i) (usersF ts) ∧ IntsI w s1 s2 ba byx.length byx) z.2.2.1 z.2.2.2.1 ∧ Mid ts (os ++ [(x : Int)]) z.2.2.2.1 z.2.1 (byx.drop z.1), ?_, ?_⟩
            · intro ρ5 w5 r5
              refine ⟨(0, op, v', ys, w5), ⟨by simp, (hS3.weak ⟨hus3, hbI⟩ (fun w w2 h hk => ⟨h.1.keep hk, h.2.keep hk⟩)).rel r5 (by simp) hcov', hM2⟩, ?_⟩
              exact Sub.gen2 [(3, 5)] r5 ⟨rfl, rfl, rfl, trivial⟩ ⟨rfl, rfl, rfl, rfl, rfl, rfl, rfl, rfl, trivial⟩ ⟨⟨by omega, trivial⟩, ⟨by omega, trivial⟩, ⟨by omega, fun x hx => by simp at hx; subst hx; trivial⟩, trivial⟩ (by simp [ScE, SV.sc, At.sc]) (by rfl)
                (fun lo hi hm => by
                  rcases List.mem_cons.1 hm with hm | hm
                  · exact ⟨lo, hi, by rw [hm]; simp, Nat.le_refl _, Nat.le_refl _⟩
                  · exact hcov'.iv lo hi hm)
            · clear hM hM2 hrow hop hrng hmem hS2 hS3 hM0 hS0 hfr hbes hrow' hv' hcov' hcov hperm
              rintro ⟨j, op, v, rs, wj⟩ ⟨hj, hS2, hM⟩
              dsimp only at hj hS2 hM ⊢
              have hrl2 := hM.rng.length_le
              have hcov : Cov ((s1, s2) :: rowIv [v]) v := (covRow _).more (fun lo hi h => by simp [h])
              conv => whnf
              refine BrS.mk (fun h => ?_) (fun h => ?_)
              · have h : j < byx.length := by simpa using h
                obtain ⟨k, hk⟩ : ∃ k, byx[j]? = some k := ⟨_, List.getElem?_eq_getElem h⟩
                have hkr := hbyr k (List.mem_of_getElem? hk)
                obtain ⟨k, rfl⟩ := Int.eq_ofNat_of_zero_le hkr.1
                have hki : k < i := by omega
                have hdrop : byx.drop j = (k : Int) :: byx.drop (j + 1) := by
                  rw [List.drop_eq_getElem_cons h]
                  rw [List.getElem?_eq_getElem h] at hk
                  injection hk with hk
                  rw [hk]
                rw [hdrop] at hM
                have hopl := hM.len
                obtain ⟨y, hy⟩ : ∃ y, op[k]? = some y := ⟨_, List.getElem?_eq_getElem (by omega)⟩
                obtain ⟨hy1, hy2, hne0, heq0⟩ := hM.tell hy
                have hyb : y ≤ 10000 := by
                  have h1 : cnt (os ++ [(x : Int)]) (needsOf ts (k : Int)) ≤ (needsOf ts (k : Int)).length := List.countP_le_length
                  have h2 : (needsOf ts (k : Int)).length ≤ 30 := by
                    obtain ⟨t, ht⟩ : ∃ t, ts[k]? = some t := ⟨_, List.getElem?_eq_getElem (by omega)⟩
                    have : needsOf ts (k : Int) = t.needs := by simp [needsOf, ht]
                    rw [this]
                    exact hS.2 t (List.mem_of_getElem? ht)
                  have h3 : (byx.drop (j + 1)).length ≤ byx.length := by simp
                  have h4 : byx.length ≤ 1000 := hbyl
                  omega
                obtain ⟨adk, hadk, hadl, hadh⟩ := hbI2 j _ hk
                conv => whnf
                refine ⟨adk, hadk, ⟨by omega, by omega⟩, ?_⟩
                conv => whnf
                refine ⟨.int .i64 k, ?_, ?_⟩
                · intro ρ4 w4 r4
                  obtain ⟨ad4, h41, h42, h43⟩ := (hS2.rel r4 (by simp) hcov).us.2.cell j _ hk
                  rw [hadk] at h41; injection h41 with h41; subst h41
                  simpa using h43.2
                conv => whnf
                refine ⟨⟨by omega, by omega⟩, ?_⟩
                conv => whnf
                refine ⟨.int .i64 y, by simp [hy], ?_⟩
                conv => whnf
                refine ⟨y - 1, by rw [wrap64] <;> omega, ?_⟩
                conv => whnf
                refine ⟨⟨by omega, by omega⟩, ?_⟩
                conv => whnf
                refine ⟨by simp; omega, (op.set k (y - 1)).map (Value.int .i64), ?_, ?_⟩
                · have := splice_one (op.map (Value.int .i64)) k (.int .i64 (y - 1)) (by simp; omega)
                  simpa [List.map_set] using this
                conv => whnf
                refine ⟨⟨by omega, by omega⟩, ?_⟩
                conv => whnf
                refine ⟨.int .i64 (y - 1), by rw [List.getElem?_map]; simp only [Int.toNat_natCast, Nat.zero_add, Nat.mul_one]; rw [List.getElem?_set_self (by omega)]; rfl, ?_⟩
                conv => whnf
                refine BrS.mk (fun h0 => ?_) (fun h0 => ?_)
                · have h0 : y - 1 = 0 := by simpa using h0
                  conv => whnf
                  refine callS_heap (id0 := 0) (v := v) (Φ := fun val ys => val = .tuple #[] ∧ ys.Perm ((k : Int) :: rs)) rfl hcov (fun ρ w' r hb hne => ?_) ?_
                  · refine (push_c (ρ 0).g w.heap.size v rs k w' ⟨hb, (hS2.rel r (by simp) hcov).row, hne, (r.low 0 _ rfl (r.nn 0 _ rfl (by intros; simp) (by simp))).1⟩ (by simp at hrl2; omega)).mono fun e w2 he => ?_
                    obtain ⟨rfl, ys, h2, h3⟩ := he
                    exact ⟨_, ys, rfl, h2, rfl, h3⟩
                  · rintro ρ w' w3 val ys v' r hrow' hv' hsz hfr hbes ⟨rfl, hperm⟩
                    have hS3 := hS2.heap r (by simp) hcov hrow' hv' hsz hfr hbes
                    have hcov' : Cov ((w'.heap.size, w3.heap.size) :: (s1, s2) :: rowIv [v]) v' := covNew hcov hv'
                    conv => whnf
                    refine ⟨(j + 1 : Nat), by rw [wrap64] <;> omega, ?_⟩
                    conv => whnf
                    intro ρ5 w5 r5
                    refine ⟨(j + 1, op.set k (y - 1), v', ys, w5), ⟨by simp; omega, hS3.rel r5 (by simp) hcov', heq0 ys h0 hperm⟩,
                      Sub.gen2 [] r5 ⟨rfl, rfl, rfl, trivial⟩ ⟨rfl, rfl, rfl, rfl, rfl, rfl, rfl, rfl, trivial⟩ ⟨⟨by omega, trivial⟩, ⟨by omega, trivial⟩, ⟨by omega, fun x hx => by simp at hx; subst hx; trivial⟩, trivial⟩ (by simp [ScE, SV.sc, At.sc]) (by rfl)
                        (fun lo hi hm => by
                          rcases List.mem_cons.1 hm with hm | hm
                          · exact ⟨lo, hi, by rw [hm]; simp, Nat.le_refl _, Nat.le_refl _⟩
                          · exact hcov'.iv lo hi hm), by simp; omega⟩
                · have h0 : y - 1 ≠ 0 := by simpa using h0
                  conv => whnf
                  refine ⟨(j + 1 : Nat), by rw [wrap64] <;> omega, ?_⟩
                  conv => whnf
                  intro ρ5 w5 r5
                  exact ⟨(j + 1, op.set k (y - 1), v, rs, w5), ⟨by simp; omega, hS2.rel r5 (by simp) hcov, hne0 h0⟩,
                      Sub.gen [] r5 ⟨rfl, rfl, rfl, trivial⟩ ⟨rfl, rfl, rfl, rfl, rfl, rfl, rfl, rfl, trivial⟩ ⟨⟨by omega, trivial⟩, ⟨by omega, trivial⟩, ⟨by omega, fun x hx => by simp at hx; subst hx; trivial⟩, trivial⟩ (by simp [ScE, SV.sc, At.sc]) (by rfl) (fun lo hi hm => hm), by simp; omega⟩
              · have hjn : j = byx.length := by have : ¬ j < byx.length := by simpa using h
                                                omega
                rw [hjn, List.drop_length] at hM
                conv => whnf
                intro ρ5 w5 r5
                refine ⟨(op, v, rs, os ++ [(x : Int)], w5), ⟨(hS2.rel r5 (by simp) hcov).weak (hS2.rel r5 (by simp) hcov).us.1 (fun w w2 h hk => h.keep hk), hM⟩, ?_, ?_⟩
                · dsimp only
                  rw [List.length_append, List.map_append]
                  exact Sub.gen [] r5 ⟨rfl, rfl, rfl, trivial⟩ ⟨rfl, rfl, rfl, rfl, rfl, trivial⟩ ⟨⟨by omega, trivial⟩, ⟨by omega, trivial⟩, ⟨by omega, fun x hx => by simp at hx; subst hx; trivial⟩, trivial⟩ (by simp [ScE, SV.sc, At.sc]) (by rfl) (fun lo hi hm => hm)
                · simp at hrl2
                  simp
                  omega
        · have h : rs = [] := by
            have : ¬ 0 < rs.length := by simpa using h
            exact List.eq_nil_of_length_eq_zero (by omega)
          subst h
          obtain ⟨hd1, hd2⟩ := hM.done
          have hol3 : os.length ≤ ts.length := by simpa using hrl
          conv => whnf
          refine ⟨by simp, ?_⟩
          conv => whnf
          refine BrS.mk (fun h => ?_) (fun h => ?_)
          · have h : os.length < i := by simpa using h
            conv => whnf
            intro ρ5 w5 r5
            exact ⟨_, rfl, hS2.bel.tr r5.bel, none, 0, 0, [], 24, rfl, .inr ⟨rfl, hd2 (by omega)⟩⟩
          · have h : ¬ os.length < i := by simpa using h
            conv => whnf
            intro ρ5 w5 r5
            obtain ⟨oa, oc, hden, hI⟩ := vecInts r5 (id := 3) (xs := os) rfl (by omega)
            refine ⟨_, rfl, hS2.bel.tr r5.bel, oa, os.length, oc, os, 0, ?_, .inl ⟨rfl, hI, hd1 (by omega)⟩⟩
            rw [← hden]
            rfl
end Go.Er
