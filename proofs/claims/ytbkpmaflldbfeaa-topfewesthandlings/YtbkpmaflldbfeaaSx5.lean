/- The executor is sound, third part: the other operations. -/
import Derived.Test.YtbkpmaflldbfeaaSx4
namespace Go.Sx
open Go

theorem foldl_over (new : List Value) : ∀ (k off : Nat) (cs : Array Value), off + k + new.length ≤ cs.size →
    ((new.zipIdx k).foldl (fun cs (c, j) => cs.setIfInBounds (off + j) c) cs).toList = cs.toList.take (off + k) ++ new ++ cs.toList.drop (off + k + new.length) := by
  induction new with
  | nil => intro k off cs _; simp
  | cons x r ih =>
    intro k off cs h
    simp only [List.length_cons] at h
    rw [List.zipIdx_cons, List.foldl_cons, ih (k + 1) off _ (by simp; omega)]
    have h2 := list_seg_step cs.toList (off + k) x r (by simp; omega)
    simp only [Array.toList_setIfInBounds, List.length_cons] at h2 ⊢
    rw [show off + (k + 1) = off + k + 1 by omega]
    exact h2

theorem fill_cons {place : Nat → Option (Nat × Nat)} {cells : Array Value} {i off size : Nat} {v : Value} {rest : List (Nat × Value)} {new : List Value} (hp : place i = some (off, size))
    (hv : v.cells = new.toArray) (hl : new.length = size) (hfit : off + new.length ≤ cells.size) :
    Instr.fill place cells ((i, v) :: rest) = Instr.fill place (cells.toList.take off ++ new ++ cells.toList.drop (off + new.length)).toArray rest := by
  have h := foldl_over new 0 off cells (by omega)
  have e : (v.cells.zipIdx.foldl (fun cs (x : Value × Nat) => cs.setIfInBounds (off + x.2) x.1) cells) = (cells.toList.take off ++ new ++ cells.toList.drop (off + new.length)).toArray := by
    rw [hv, ← Array.foldl_toList]
    apply Array.ext'
    simpa using h
  conv => lhs; unfold Instr.fill
  simp only [hp, hv, List.size_toArray, hl]
  rw [if_neg (by simp; omega)]
  rw [hv] at e
  rw [← hl, ← e]

section
variable {P : Program} {τ : Tab} {B n nx : Nat} {l : Env} {H : Hp} {iv : Iv} {w w' : World} {ρ : Nat → Val} {a : Act}

theorem partsK_spec (sat : Sat n l H nx iv B w ρ a w') {place : Nat → (Nat → Nat → Prop) → Prop} {placeF : Nat → Option (Nat × Nat)}
    (hp : ∀ i k, place i k → ∃ off size, k off size ∧ placeF i = some (off, size)) : ∀ {parts : List (Nat × Operand)} {cs : List At} {k : List At → Prop},
    partsK l place parts cs k → (∀ c ∈ cs, At.sc nx c) → ∃ cs', k cs' ∧ (∀ c ∈ cs', At.sc nx c) ∧ cs'.length = cs.length ∧
      Instr.fill placeF (cs.map (At.den ρ)).toArray (parts.map fun p => (p.1, a.eval p.2)) = some (cs'.map (At.den ρ)).toArray
  | [], cs, k, h, hs => ⟨cs, h, hs, rfl, by simp [Instr.fill]⟩
  | (i, x) :: r, cs, k, h, hs => by
    unfold partsK at h
    obtain ⟨off, size, h1, hpl⟩ := hp i _ h
    obtain ⟨v, h2, hv, hvs⟩ := wEv_spec sat h1
    obtain ⟨new, h3, hcells, hsc⟩ := cellsK_spec h2
    split at h3
    · rename_i hlen
      have hlen := beq_t hlen
      obtain ⟨h4, hfit⟩ := spliceK_spec h3
      obtain ⟨cs', h5, h6, h7, h8⟩ := partsK_spec sat hp h4 (by
        intro c hc
        simp only [List.mem_append] at hc
        rcases hc with (hc | hc) | hc
        · exact hs c (List.mem_of_mem_take hc)
        · exact hsc nx hvs c hc
        · exact hs c (List.mem_of_mem_drop hc))
      refine ⟨cs', h5, h6, by rw [h7]; simp; omega, ?_⟩
      have hc := hcells ρ
      rw [List.map_cons, fill_cons (new := new.map (At.den ρ)) hpl (by show (a.eval x).cells = _; rw [hv]; exact hc) (by simpa using hlen) (by simpa using hfit), ← h8]
      simp [List.map_drop, List.map_take]
    · exact h3.elim

theorem fieldOff_spec (hτ : TabOK P τ) {fs : List (Nat × Nat)} {f : Nat} {k : Nat → Nat → Bool → Prop} (h : fieldOff τ fs f k) :
    ∃ off ft fi, k off fi.size fi.agg ∧ fs[f]? = some (off, ft) ∧ TOK P ft fi ∧ fi.size ≠ 0 := by
  unfold fieldOff at h
  split at h
  · rename_i off ft hf
    rw [nthF_spec] at hf
    split at h
    · rename_i sz ag by_ ze tag ik e al fs' hti
      split at h
      · exact h.elim
      · rename_i hsz
        exact ⟨off, ft, _, h, hf, hτ ft _ hti, fun e => by simp at e; subst e; simp at hsz⟩
    · exact h.elim
  · exact h.elim

theorem fields_get {t : Nat} {i : TI} (h : TOK P t i) (h5 : i.tag = 5) {f off ft : Nat} (hf : i.fields[f]? = some (off, ft)) :
    ∃ fs fd, P.underlying t = some (.struct fs) ∧ fs[f]? = some fd ∧ fd.offset = off ∧ fd.type = ft := by
  obtain ⟨fs, h1, h2, _⟩ := h.i5 h5
  rw [← h2] at hf
  simp only [List.getElem?_map, Option.map_eq_some_iff] at hf
  obtain ⟨fd, hfd, he⟩ := hf
  injection he with e1 e2
  exact ⟨fs, fd, h1, by simpa using hfd, e1, e2⟩

theorem run_fieldAt {t : Nat} {i : TI} (h : TOK P t i) (h5 : i.tag = 5) {f off ft : Nat} {fi : TI} (hf : i.fields[f]? = some (off, ft)) (hfi : TOK P ft fi) (hsz : fi.size ≠ 0) (ad : Addr) (w : World) :
    (Instr.fieldAt t (.pointer (some ad)) f).run P w = .ok (.pointer (some (ad.add off))) w := by
  obtain ⟨fs, fd, h1, h2, rfl, rfl⟩ := fields_get h h5 hf
  simp [Instr.fieldAt, run_underlying h1, h2, Instr.sureAddr, fieldPlace, hfi.sizeOf, hsz]

theorem ptrAddK_spec {x : SV} {m : Nat} {K : SV → Prop} (h : ptrAddK x m K) (hx : x.sc nx) : ∃ r ad, K r ∧ r.sc nx ∧ x.den ρ = .pointer (some ad) ∧ r.den ρ = .pointer (some (ad.add m)) := by
  unfold ptrAddK at h
  split at h
  · rename_i id off
    exact ⟨_, ⟨(ρ id).g, off, none⟩, h, hx, rfl, by simp [SV.den, At.den, addr_add]⟩
  · rename_i ad
    exact ⟨_, ad, h, trivial, rfl, rfl⟩
  · exact h.elim

theorem vecK_spec (rel : Rel H nx iv B w ρ w') {id m : Nat} {K : Prop} (h : vecK H id m K) : K ∧ ((ρ id).nil = true → m = 0) := by
  unfold vecK at h
  split at h
  · rename_i t sz cs hH
    split at h
    · exact h.elim
    · rename_i k
      refine ⟨h.2, fun hn => ?_⟩
      have h1 := h.1
      rcases rel.vec id t (k + 1) cs hH with ⟨_, rfl⟩ | ⟨h2, _⟩
      · have h4 : m * (k + 1) = 0 := by simpa using h1.symm
        rcases Nat.mul_eq_zero.1 h4 with h5 | h5
        · exact h5
        · omega
      · rw [hn] at h2; cases h2
  · exact h.elim

theorem lenK_spec (hτ : TabOK P τ) {t ty : Nat} {x : SV} {K : Int → Prop} (h : lenK τ H t x K) (rel : Rel H nx iv B w ρ w') :
    ∃ r, K r ∧ ∀ w', (Builtin.len_ #[t] ty #[x.den ρ]).run P w' = .ok (.int .i64 r) w' := by
  unfold lenK at h
  split at h
  · exact h.elim
  rename_i sz ag by_ ze tag ik e al fs hti
  have ht := hτ t _ hti
  split at h
  · rename_i htag
    have hu := ht.i4 (beq_t htag)
    split at h
    · exact ⟨_, h, fun w' => by simp [Builtin.len_, run_underlying hu, SV.den, At.den, goInt]⟩
    · exact ⟨_, h, fun w' => by simp [Builtin.len_, run_underlying hu, SV.den, At.den, goInt]⟩
    · rename_i id m
      have h1 := vecK_spec rel h
      refine ⟨_, h1.1, fun w' => ?_⟩
      cases hn : (ρ id).nil
      · simp [Builtin.len_, run_underlying hu, SV.den, At.den, goInt, hn]
      · have := h1.2 hn
        subst this
        simp [Builtin.len_, run_underlying hu, SV.den, At.den, goInt, hn]
    · exact h.elim
  · split at h
    · rename_i htag
      have hu := ht.i3 (beq_t htag)
      split at h
      · exact ⟨_, h, fun w' => by simp [Builtin.len_, run_underlying hu, SV.den, At.den, goInt]⟩
      · exact h.elim
    · split at h
      · rename_i htag
        have hu := ht.i6 (beq_t htag)
        exact ⟨_, h, fun w' => by simp [Builtin.len_, run_underlying hu, goInt]⟩
      · exact h.elim

theorem indexK_spec (hτ : TabOK P τ) {t : Nat} {x i : SV} {K : SV → Prop} (h : indexK τ H t x i K) (hx : x.sc nx) (rel : Rel H nx iv B w ρ w') :
    ∃ r, K r ∧ r.sc nx ∧ ∀ w', (Instr.indexAt t (x.den ρ) (i.den ρ)).run P w' = .ok (r.den ρ) w' := by
  unfold indexK at h
  split at h
  · rename_i kd i
    split at h
    · rename_i sz ag by_ ze tag ik e al fs hti
      have ht := hτ t _ hti
      split at h
      · rename_i sz' ag' by' ze' tag' ik' e' al' fs' hte
        have hte := hτ e _ hte
        split at h
        · rename_i htag
          have hu := ht.i4 (beq_t htag)
          simp only at hu
          split at h
          · rename_i id off m c
            obtain ⟨hb, h⟩ := h
            exact ⟨_, h, hx, fun w' => by simp [Instr.indexAt, run_underlying hu, asIntOf, SV.den, At.den, hb, hte.sizeOf, addr_add]⟩
          · rename_i id m
            obtain ⟨⟨hb, h1⟩, h2⟩ := vecK_spec rel h
            refine ⟨_, h1, hx, fun w' => ?_⟩
            cases hn : (ρ id).nil
            · simp [Instr.indexAt, run_underlying hu, asIntOf, SV.den, At.den, hb, hte.sizeOf, addr_add, hn]
            · have := h2 hn
              omega
          · rename_i a0 m c
            obtain ⟨ad, rfl, hb, h⟩ := h
            exact ⟨_, h, trivial, fun w' => by simp [Instr.indexAt, run_underlying hu, asIntOf, SV.den, At.den, hb, hte.sizeOf]⟩
          · exact h.elim
        · split at h
          · rename_i htag
            have hu := ht.i6 (beq_t htag)
            simp only at hu
            obtain ⟨hb, h⟩ := h
            obtain ⟨r, ad, h1, h2, h3, h4⟩ := ptrAddK_spec (ρ := ρ) h hx
            refine ⟨r, h1, h2, fun w' => ?_⟩
            rw [h3, h4]
            simp [Instr.indexAt, run_underlying hu, asIntOf, SV.den, At.den, Instr.sureAddr, hb, hte.sizeOf]
          · exact h.elim
      · exact h.elim
    · exact h.elim
  · exact h.elim

theorem loK_spec (sat : Sat n l H nx iv B w ρ a w') {x : Option Operand} {d : Int} {K : Int → Prop} (h : loK l x d K) : ∃ i, K i ∧ ((x = none ∧ i = d) ∨ ∃ o k, x = some o ∧ a.eval o = .int k i) := by
  unfold loK at h
  split at h
  · exact ⟨d, h, .inl ⟨rfl, rfl⟩⟩
  · obtain ⟨v, h1, h2, h3⟩ := wEv_spec sat h
    clear h3
    split at h1
    · rename_i k i
      exact ⟨i, h1, .inr ⟨_, k, rfl, h2⟩⟩
    · exact h1.elim

theorem run_bounds {len cap : Nat} {lo hi : Option Operand} {i j : Int} (hlo : (lo = none ∧ i = 0) ∨ ∃ o k, lo = some o ∧ a.eval o = .int k i) (hhi : (hi = none ∧ j = len) ∨ ∃ o k, hi = some o ∧ a.eval o = .int k j)
    (h0 : 0 ≤ i) (h1 : i ≤ j) (h2 : j ≤ cap) : (Instr.sliceBounds true len cap (lo.map a.eval) (hi.map a.eval) none).run P w' = .ok (i.toNat, j.toNat, cap) w' := by
  rcases hlo with ⟨rfl, rfl⟩ | ⟨o, k, rfl, ho⟩ <;> rcases hhi with ⟨rfl, rfl⟩ | ⟨o', k', rfl, ho'⟩
  · simp [Instr.sliceBounds]
  · have h1' : 0 ≤ j := by omega
    simp [Instr.sliceBounds, Instr.sliceBound, ho', asIntOf, h1', h2]
  · have : i ≤ (len : Int) := h1
    simp [Instr.sliceBounds, Instr.sliceBound, ho, asIntOf, h0, this]
  · have h1' : 0 ≤ j := by omega
    have h3 : i ≤ ((j.toNat : Nat) : Int) := by omega
    have h3' : i ≤ max j 0 := by omega
    simp [Instr.sliceBounds, Instr.sliceBound, ho, ho', asIntOf, h1', h2, h0, h3']

theorem sliceK_spec (hτ : TabOK P τ) (sat : Sat n l H nx iv B w ρ a w') {t : Nat} {x : SV} {lo hi : Option Operand} {K : SV → Prop} (h : sliceK τ t x l lo hi K) (hx : x.sc nx) :
    ∃ r, K r ∧ r.sc nx ∧ ∀ w', (Instr.sliceAt t (x.den ρ) (lo.map a.eval) (hi.map a.eval) none).run P w' = .ok (r.den ρ) w' := by
  unfold sliceK at h
  split at h
  · rename_i sz ag by_ ze tag ik e al fs hti
    have ht := hτ t _ hti
    split at h
    · rename_i htag
      have hu := ht.i4 (beq_t htag)
      simp only at hu
      split at h
      · rename_i sz' ag' by' ze' tag' ik' e' al' fs' hte
        have hte := hτ e _ hte
        split at h
        · rename_i id off m c
          obtain ⟨i, h1, hlo⟩ := loK_spec sat h
          obtain ⟨j, h2, hhi⟩ := loK_spec sat h1
          obtain ⟨⟨b0, b1, b2⟩, off', n', c', e1, rfl, rfl, h3⟩ := h2
          refine ⟨_, h3, hx, fun w' => ?_⟩
          have hb := run_bounds (P := P) (w' := w') hlo hhi b0 b1 b2
          subst e1
          simp [Instr.sliceAt, Instr.slice, run_underlying hu, SV.den, At.den, hb, hte.sizeOf]
          by_cases hc : c = i.toNat
          · rw [if_pos hc, if_pos (by omega)]
          · rw [if_neg hc, if_neg (by omega)]
            simp [addr_add]
        · rename_i ad m c
          obtain ⟨i, h1, hlo⟩ := loK_spec sat h
          obtain ⟨j, h2, hhi⟩ := loK_spec sat h1
          obtain ⟨⟨b0, b1, b2⟩, off', n', c', e1, rfl, rfl, h3⟩ := h2
          refine ⟨_, h3, trivial, fun w' => ?_⟩
          have hb := run_bounds (P := P) (w' := w') hlo hhi b0 b1 b2
          subst e1
          simp [Instr.sliceAt, Instr.slice, run_underlying hu, SV.den, At.den, hb, hte.sizeOf]
          by_cases hc : c = i.toNat
          · rw [if_pos hc, if_pos (by omega)]
          · rw [if_neg hc, if_neg (by omega)]
        · exact h.elim
      · exact h.elim
    · exact h.elim
  · exact h.elim
end
end Go.Sx
