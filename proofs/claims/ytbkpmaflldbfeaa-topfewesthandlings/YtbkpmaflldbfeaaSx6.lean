/- The executor is sound, fourth part: make, append, comparisons, calls; the theorem on one operation. -/
import Derived.Test.YtbkpmaflldbfeaaSx5
namespace Go.Sx
open Go

section
variable {P : Program} {τ : Tab} {B n nx : Nat} {l : Env} {H : Hp} {iv : Iv} {w w' : World} {ρ : Nat → Val} {a : Act}

theorem made_one (z : Value) (c : Nat) : (madeCells #[z] c) = (List.replicate c z).toArray := by
  unfold madeCells
  apply Array.ext'
  simp [List.map_const', Nat.mod_one]
theorem made_many (zs : List Value) (c : Nat) : (madeCells zs.toArray (c * zs.length)) = ((List.replicate c zs).flatten).toArray := by
  unfold madeCells
  apply Array.ext'
  simp only [Array.toList_map, Array.toList_range, List.size_toArray]
  induction c with
  | zero => simp
  | succ c ih =>
    rw [Nat.succ_mul, List.range_add, List.map_append, ih, List.replicate_succ', List.flatten_append]
    simp only [List.flatten_cons, List.flatten_nil, List.append_nil, List.map_map]
    congr 1
    apply List.ext_getElem
    · simp
    · intro i h1 h2
      simp at h1
      simp [Nat.mod_eq_of_lt h1, h1]

theorem makeK_spec (hτ : TabOK P τ) (sat : Sat n l H nx iv B w ρ a w') {t : Nat} {x y : SV} {K : SV → Hp → Nat → Prop} (h : makeK τ t x y H nx K) :
    ∃ r H' nx' ρ' w2, K r H' nx' ∧ Rel H' nx' iv B w ρ' w2 ∧ r.sc nx' ∧ nx ≤ nx' ∧ (∀ id, id < nx → ρ id = ρ' id) ∧ (Instr.makeSlice t (x.den ρ) (y.den ρ)).run P w' = .ok (r.den ρ') w2 := by
  unfold makeK at h
  split at h
  · rename_i k1 a1 k2 b1
    split at h
    · rename_i sz ag by_ ze tag ik e al fs hti
      have ht := hτ t _ hti
      split at h
      · rename_i htag
        have hu := ht.i4 (beq_t htag)
        simp only at hu
        split at h
        · rename_i sz' ag' by' ze' tag' ik' e' al' fs' hte
          have hte := hτ e _ hte
          obtain ⟨inf, z, hi, hsz, hby, hz, hzc⟩ := hte.info
          simp only at hsz hby hzc
          obtain ⟨m, c, rfl, rfl, hmc, hbytes, h63, h⟩ := h
          have hb' : (inf.bytes : Int) * (c : Int) ≤ 281474976710656 := by
            rw [hby]
            have hb2 : ((by' * c : Nat) : Int) ≤ 281474976710656 := by omega
            rwa [Int.natCast_mul] at hb2
          have hrun := run_make (P := P) w' t e inf z hu hi hz k1 k2 (m : Int) (c : Int) (by omega) (by omega) hb' (by omega)
          simp only [Int.toNat_natCast] at hrun
          have fin : ∀ cs : List Value, cs.toArray = madeCells z.cells (c * inf.size) → newK (.arr e cs) H nx (fun H' nx' => K (.o (.s nx 0 m c)) H' nx') →
              ∃ r H' nx' ρ' w2, K r H' nx' ∧ Rel H' nx' iv B w ρ' w2 ∧ r.sc nx' ∧ nx ≤ nx' ∧ (∀ id, id < nx → ρ id = ρ' id) ∧ (Instr.makeSlice t (.int k1 m) (.int k2 c)).run P w' = .ok (r.den ρ') w2 := by
            intro cs hcs hK
            refine ⟨_, _, _, upd ρ nx ⟨w'.heap.size, 0, false⟩, w'.alloc (.cells cs.toArray e), hK, ?_, ?_, by omega, upd_lt, ?_⟩
            · refine sat.rel.push (.arr e cs) _ rfl rfl rfl (by simp) (fun k hk => heap_alloc_old _ _ hk) (fun _ => ⟨Nat.le_refl _, by simp⟩) ⟨rfl, heap_alloc_new _ _⟩ trivial
            · simp [SV.sc, At.sc]
            · rw [hrun, ← hcs]; simp [SV.den, At.den]
          have hzl := hte.zlen
          simp only at hzl
          have hzarr : z.cells = ze'.toArray := by apply Array.ext'; simpa using hzc
          split at h
          · rename_i z0
            refine fin _ ?_ h
            have : inf.size = 1 := by rw [hsz, ← hzl]; rfl
            rw [this, Nat.mul_one, hzarr, made_one]
          · refine fin _ ?_ h
            rw [hsz, ← hzl, hzarr]
            rcases Nat.eq_zero_or_pos ze'.length with h0 | h0
            · have : ze' = [] := List.eq_nil_of_length_eq_zero h0
              subst this
              simp [madeCells]
            · rw [made_many]
        · exact h.elim
      · exact h.elim
    · exact h.elim
  · exact h.elim

theorem newsK_spec (sat : Sat n l H nx iv B w ρ a w') {size : Nat} {x : SV} {K : Nat → List Value → Prop} (hpos : 0 < size) (h : newsK B H nx iv w size x K) :
    ∃ m c ad news, K m news ∧ x.den ρ = .slice ad m c ∧ news.length = m * size ∧ (∀ u ∈ news, u.oneCell' = true) ∧
      ((ad = none ∧ m = 0) ∨ ∃ ad', ad = some ad' ∧ ∀ j u, news[j]? = some u → w'.cell? (ad'.add j) = some u) := by
  have rel := sat.rel
  unfold newsK at h
  split at h
  · rename_i id off m c
    split at h
    · rename_i bt cs hH
      obtain ⟨h1, hd⟩ := dropK_spec h
      obtain ⟨h2, ht⟩ := takeK_spec h1
      obtain ⟨vs, h3, hvs, hv1⟩ := rawK_spec h2
      refine ⟨m, c, _, vs, h3, rfl, ?_, hv1, .inr ⟨_, rfl, fun j u hu => ?_⟩⟩
      · have := congrArg List.length hvs
        simp at this ht
        omega
      · rw [addr_add, cell_of (rel.box id bt cs hH)]
        have e : (vs.map At.v)[j]? = some (.v u) := by simp [hu]
        rw [← hvs] at e
        simp only [List.getElem?_take, List.getElem?_drop] at e
        split at e
        · simp [e, At.den]
        · simp at e
    · rename_i bt cs hH
      obtain ⟨vs, h1, h2, h3, h4⟩ := h
      refine ⟨m, c, _, vs, h4, rfl, h2, h3, .inr ⟨_, rfl, fun j u hu => ?_⟩⟩
      rw [addr_add, cell_of (rel.arr id bt cs hH)]
      rw [← h1] at hu
      simp only [List.getElem?_take, List.getElem?_drop] at hu
      split at hu
      · exact hu
      · simp at hu
    · exact h.elim
  · rename_i ad m c
    obtain ⟨vs, h1, h2, h3, h4⟩ := h
    refine ⟨m, c, ad, vs, h4, rfl, h1, h2, ?_⟩
    rcases Nat.eq_zero_or_pos m with h0 | h0
    · subst h0
      have : vs = [] := List.eq_nil_of_length_eq_zero (by simpa using h1)
      subst this
      cases ad with
      | none => exact .inl ⟨rfl, rfl⟩
      | some ad => exact .inr ⟨ad, rfl, fun j u hu => by simp at hu⟩
    · exact .inr (h3 ρ w' rel h0)
  · rename_i id m
    split at h
    · rename_i bt sz cs hH
      obtain ⟨h1, h2, h3⟩ := h
      rcases rel.vec id bt sz cs hH with ⟨hn, rfl⟩ | ⟨hn, spare, hb, _⟩
      · have h0 : m = 0 := by
          have h4 : m * size = 0 := by simpa using h1.symm
          rcases Nat.mul_eq_zero.1 h4 with h5 | h5 <;> omega
        subst h0
        exact ⟨0, 0, none, [], h3, by simp [SV.den, At.den, hn], by simp, by simp, .inl ⟨rfl, rfl⟩⟩
      · refine ⟨m, (ρ id).cap, _, cs, h3, by simp only [SV.den, At.den, hn]; rfl, h1, h2, .inr ⟨_, rfl, fun j u hu => ?_⟩⟩
        rw [addr_add, cell_of hb, Nat.zero_add, List.getElem?_append_left (List.getElem?_eq_some_iff.1 hu).1]
        exact hu
    · exact h.elim
  · exact h.elim

theorem run_append_of_nil' (w : World) (base : Nat) (t ty e : TypeId) (i : TypeInfo) (size : Nat) (ht : P.underlying t = some (.slice e)) (hi : P.info? e = some i)
    (v : Value) (m : Nat) (xs : List Value) (hown : w.ownsRow base e size v m xs) (c : Nat) : (Builtin.append_ #[t, t] ty #[v, .slice none 0 c]).run P w = .ok v w := by
  rcases hown.2 with ⟨rfl, rfl⟩ | ⟨g, cap, cur, rfl, _, _, hnc, _⟩
  · simp [Builtin.append_, run_underlying ht, sizeOf, typeInfo, hi, Builtin.lenOf, Builtin.firstCells]
  · simp [Builtin.append_, run_underlying ht, sizeOf, typeInfo, hi, Builtin.lenOf, Builtin.firstCells, hnc, storeCells]

theorem ownsRow_val {w : World} {e size m : Nat} {v : Value} {xs : List Value} {base : Nat} (h : w.ownsRow base e size v m xs) :
    ∃ val : Val, (At.w 0 m).den (fun _ => val) = v ∧ (Blk.vec e size xs).fits (fun _ => val) val w ∧ (val.nil = false → v.ownBlock = some val.g ∧ val.g < w.heap.size) ∧ (val.nil = true → v.ownBlock = none) := by
  rcases h.2 with ⟨rfl, rfl⟩ | ⟨g, cap, cur, rfl, _, hb, hnc, hcap, hcur, htake⟩
  · have : xs = [] := List.eq_nil_of_length_eq_zero (by simpa using h.1)
    exact ⟨⟨0, 0, true⟩, rfl, .inl ⟨rfl, this⟩, (fun h => by cases h), fun _ => rfl⟩
  · refine ⟨⟨g, cap, false⟩, rfl, .inr ⟨rfl, cur.toList.drop (m * size), ?_, ?_, hcap⟩, fun _ => ⟨rfl, (Array.getElem?_eq_some_iff.1 hb).1⟩, (fun h => by cases h)⟩
    · rw [← htake, List.take_append_drop]; simpa using hb
    · rw [← htake, List.take_append_drop]; simpa using hcur

theorem vec_owns (rel : Rel H nx iv B w ρ w') {id m e sz : Nat} {cs : List Value} (hH : getH H id = some (.vec e sz cs)) (hl : cs.length = m * sz) (hpos : 0 < sz) :
    w'.ownsRow B e sz ((At.w id m).den ρ) m cs := by
  rcases rel.vec id e sz cs hH with ⟨hn, rfl⟩ | ⟨hn, spare, hb, hsl, hcap⟩
  · have h0 : m = 0 := by
      have h4 : m * sz = 0 := by simpa using hl.symm
      rcases Nat.mul_eq_zero.1 h4 with h5 | h5 <;> omega
    subst h0
    simp only [At.den, hn]
    exact World.ownsRow_nil _ _ _ _
  · refine ⟨hl, .inr ⟨(ρ id).g, (ρ id).cap, _, by simp only [At.den, hn], (rel.low id _ hH hn).1, hb, ?_, hcap, by simpa using hsl, by simp [← hl]⟩⟩
    have h1 : m * sz ≤ (ρ id).cap * sz := by rw [← hsl, ← hl]; simp
    exact Nat.le_of_mul_le_mul_right h1 hpos

theorem appendK_spec (hτ : TabOK P τ) (sat : Sat n l H nx iv B w ρ a w') {t ty : Nat} {x y : SV} {K : SV → Hp → Nat → Prop} (h : appendK τ B t x y H nx iv w K) :
    ∃ r H' nx' ρ' w2, K r H' nx' ∧ Rel H' nx' iv B w ρ' w2 ∧ r.sc nx' ∧ nx ≤ nx' ∧ (∀ id, id < nx → ρ id = ρ' id) ∧ (Builtin.append_ #[t, t] ty #[x.den ρ, y.den ρ]).run P w' = .ok (r.den ρ') w2 := by
  have rel := sat.rel
  unfold appendK at h
  split at h
  · exact h.elim
  rename_i sz ag by_ ze tag ik e al fs hti
  have ht := hτ t _ hti
  split at h
  · rename_i htag
    have hu := ht.i4 (beq_t htag)
    simp only at hu
    split at h
    · rename_i sz' ag' by' ze' tag' ik' e' al' fs' hte
      have hte := hτ e _ hte
      split at h
      · exact h.elim
      · rename_i z0 zr
        obtain ⟨inf, z, hi, hsz, hby, hz, hzc⟩ := hte.info
        have hzl := hte.zlen
        simp only at hsz hby hzc hzl
        have hpos : 0 < sz' := by rw [← hzl]; simp
        have hzs : z.cells.size = sz' := by rw [← hzl, ← hzc]; simp
        have h0 := newsK_spec sat hpos h
        clear h
        obtain ⟨m, c, ad, news, h, hy, hnl, hn1, hsrc⟩ := h0
        have happ : ∀ (v : Value) (k : Nat) (xs : List Value), w'.ownsRow B e sz' v k xs → (k + m) * by' ≤ 140737488355328 → k + m ≤ maxLen →
            ∃ v' w2, (Builtin.append_ #[t, t] ty #[v, y.den ρ]).run P w' = .ok v' w2 ∧ w2.ownsRow B e sz' v' (k + m) (xs ++ news) ∧ w'.grownBy w2 v.ownBlock ∧ (v'.ownBlock = v.ownBlock ∨ v'.ownBlock = some w'.heap.size) := by
          intro v k xs hown hb hml
          rw [hy]
          rcases hsrc with ⟨rfl, rfl⟩ | ⟨ad', rfl, hcells⟩
          · have : news = [] := List.eq_nil_of_length_eq_zero (by simpa using hnl)
            subst this
            exact ⟨v, w', run_append_of_nil' w' B t ty e inf sz' hu hi v k xs hown c, by simpa using hown, ⟨rfl, rfl, rfl, Nat.le_refl _, fun _ _ _ => rfl⟩, .inl rfl⟩
          · obtain ⟨v', w2, h1, h2, h3, _, h5⟩ := run_append_own_at (P := P) w' B t ty e inf z sz' by' hu hi hz hsz hby hzs hpos v k xs hown ad' m c news hnl hcells hn1 hml hb (by have := rel.base; have := rel.size; omega)
            exact ⟨v', w2, h1, h2, h3, h5⟩
        split at h
        · obtain ⟨hb, hml, hK⟩ := h
          obtain ⟨v', w2, h1, h2, h3, h5⟩ := happ (.slice none 0 0) 0 [] (World.ownsRow_nil _ _ _ _) (by simpa using hb) (by simpa using hml)
          simp only [Nat.zero_add, List.nil_append] at h2
          obtain ⟨val, hv1, hv2, hv3, hv4⟩ := ownsRow_val h2
          refine ⟨_, _, _, upd ρ nx val, w2, hK, ?_, by simp [SV.sc, At.sc], by omega, upd_lt, ?_⟩
          · refine rel.push (.vec e sz' news) val h3.os h3.tape h3.output h3.size (fun k hk => h3.block k hk (by simp [Value.ownBlock])) (fun hn => ?_) (by simpa [Blk.fits] using hv2) trivial
            have := hv3 hn
            rcases h5 with h6 | h6
            · rw [this.1] at h6; simp [Value.ownBlock] at h6
            · rw [this.1] at h6; injection h6 with h6; exact ⟨by omega, this.2⟩
          · rw [show SV.den ρ (.o (.v (.slice none 0 0))) = .slice none 0 0 from rfl, h1, ← hv1]
            simp [SV.den, At.den]
        · rename_i id k
          split at h
          · rename_i e1 sz1 cs hH
            split at h
            · rename_i he1
              have he1 := beq_t he1
              subst he1
              split at h
              · rename_i hs1
                have hs1 := beq_t hs1
                subst hs1
                obtain ⟨hl, hb, hml, h⟩ := h
                obtain ⟨H1, hK, hH1, _⟩ := killK_spec h
                obtain ⟨v', w2, h1, h2, h3, h5⟩ := happ _ k cs (vec_owns rel hH hl hpos) hb hml
                obtain ⟨val, hv1, hv2, hv3, hv4⟩ := ownsRow_val h2
                have hob : (ρ id).nil = false → ((At.w id k).den ρ).ownBlock = some (ρ id).g := fun hn => by simp [At.den, hn, Value.ownBlock]
                have hob' : (ρ id).nil = true → ((At.w id k).den ρ).ownBlock = none := fun hn => by simp [At.den, hn, Value.ownBlock]
                refine ⟨_, _, _, upd ρ nx val, w2, hK, ?_, by simp [SV.sc, At.sc], by omega, upd_lt, ?_⟩
                · refine rel.regrow hH (by simp) hH1 (.vec e1 sz1 (cs ++ news)) val h3.os h3.tape h3.output h3.size (fun j hj hne => ?_) (fun hn => ?_) (by simpa [Blk.fits] using hv2) trivial
                  · refine h3.block j hj fun e => ?_
                    cases hnil : (ρ id).nil
                    · rw [hob hnil] at e; injection e with e; exact hne hnil e
                    · rw [hob' hnil] at e; cases e
                  · have := hv3 hn
                    rcases h5 with h6 | h6
                    · rw [this.1] at h6
                      cases hnil : (ρ id).nil
                      · rw [hob hnil] at h6; injection h6 with h6; exact .inr ⟨rfl, h6⟩
                      · rw [hob' hnil] at h6; cases h6
                    · rw [this.1] at h6; injection h6 with h6; exact .inl ⟨by omega, this.2⟩
                · rw [show SV.den ρ (.o (.w id k)) = (At.w id k).den ρ from rfl, h1, ← hv1]
                  simp [SV.den, At.den]
              · exact h.elim
            · exact h.elim
          · exact h.elim
        · exact h.elim
    · exact h.elim
  · exact h.elim
end
end Go.Sx
