/- The order of the executor is as good as any that the tape picks. -/
import Derived.Test.YtbkpmaflldbfeaaSx10
namespace Go.Sx
open Go

theorem beq_f {a b : Nat} : Nat.beq a b = false ↔ a ≠ b := ⟨fun h e => (by subst e; rw [Nat.beq_refl] at h; cases h), fun h => by
  cases hb : Nat.beq a b with
  | false => rfl
  | true => exact absurd (beq_t hb) h⟩
section
variable {P : Program} {τ : Tab} {ops : Array Oper} {B n nx : Nat} {l : Env} {H : Hp} {iv : Iv} {w w' : World} {ρ : Nat → Val} {a : Act}

/-- what the tape's order has done, beside the executor's: lx the executor's list, la the tape's; Pd what was looked at; E what of it is made, and where -/
structure Sim (P : Program) (ops : Array Oper) (n B : Nat) (Pd : List Nat) (E : List (Nat × Nat)) (lx la : Array Bool) (l : Env) (H : Hp) (nx : Nat) (iv : Iv) (w : World) (ρ : Nat → Val) (a : Act) (w' : World) : Prop where
  sat : Sat n l H nx iv B w ρ a w'
  szx : lx.size = ops.size
  sza : la.size = ops.size
  la : ∀ j, la[j]? = some true ↔ lx[j]? = some true ∨ ∃ g, (j, g) ∈ E
  epd : ∀ j g, (j, g) ∈ E → j ∈ Pd
  pd : ∀ j ∈ Pd, lx[j]? = some false ∧ ∃ o d mk obj, ops[j]? = some o ∧ isA o.op = true ∧ o.guard = none ∧ (o.dst = some d ∧ d ∉ o.looksAt ops) ∧ AL P o a mk obj ∧ getE l d = none ∧
    ∀ g, (j, g) ∈ E → a.tmps[d]? = some (mk g) ∧ w'.heap[g]? = some obj
  eg : ∀ j g, (j, g) ∈ E → B ≤ g ∧ (∀ id b, getH H id = some b → (ρ id).nil = false → (ρ id).g ≠ g) ∧ ∀ lo hi, (lo, hi) ∈ iv → ¬ (lo ≤ g ∧ g < hi)
  inj : ∀ j g j', (j, g) ∈ E → (j', g) ∈ E → j = j'
  ap : ∀ j ∈ Pd, ∀ j' ∈ Pd, j ≠ j' → ∀ o o', ops[j]? = some o → ops[j']? = some o' → o.apart ops o' = true

theorem getE_del {l l' : Env} {u : Nat} (h : ∀ t v, getE l' t = some v → t ≠ u ∧ getE l t = some v) {d : Nat} (hd : getE l d = none) : getE l' d = none := by
  cases hg : getE l' d with
  | none => rfl
  | some v => have := (h d v hg).2; rw [hd] at this; cases this

theorem Oper.apart_put {o oj : Oper} (ha : o.apart ops oj = true) (hs : ∀ cs b, oj.op ≠ .select cs b) {mk : Nat → Value} {obj : Obj} {u : Value} (h : AL P oj a mk obj) : AL P oj (a.put o.dst u) mk obj := by
  intro w
  rw [execOp_put (ops := ops) oj hs a o.dst u (Go.Oper.apart_spec ha).1]
  exact h w

theorem put_get {d : Option Tmp} {u v : Value} {t : Nat} (hne : d ≠ some t) (h : a.tmps[t]? = some v) : (a.put d u).tmps[t]? = some v := by
  cases d with
  | none => exact h
  | some d =>
    have : d ≠ t := fun e => hne (by rw [e])
    simpa [Act.put, Array.getElem?_setIfInBounds_ne this] using h

theorem heap_lt {w : World} {g : Nat} {obj : Obj} (h : w.heap[g]? = some obj) : g < w.heap.size := (Array.getElem?_eq_some_iff.1 h).1
theorem Ext.alloc (w : World) (obj : Obj) : Ext w (w.alloc obj) :=
  ⟨rfl, rfl, rfl, by simp, fun k hk => heap_alloc_old _ _ hk⟩

variable {Pd : List Nat} {E : List (Nat × Nat)} {lx la : Array Bool}

/-- an operation that the executor has taken, and the tape too -/
theorem Sim.step (s : Sim P ops n B Pd E lx la l H nx iv w ρ a w') (hsel : ∀ (j : Nat) (o : Oper) cs b, ops[j]? = some o → o.op ≠ .select cs b) {i : Nat} {o : Oper} (hi : ops[i]? = some o) (hiE : ∀ g, (i, g) ∉ E)
    (hap : ∀ j ∈ Pd, j ≠ i → ∀ oj, ops[j]? = some oj → o.apart ops oj = true)
    {l' : Env} {H' : Hp} {nx' : Nat} {iv' : Iv} {w2 : World} {ρ' : Nat → Val} {u : Value} {w3 : World} (sat' : Sat n l' H' nx' iv' B w2 ρ' (a.put o.dst u) w3)
    (hl : ∀ j ∈ Pd, j ≠ i → ∀ d, getE l d = none → o.dst ≠ some d → getE l' d = none) (hext : ∀ j ∈ Pd, j ≠ i → Ext w' w3)
    (heg : ∀ g, g < w'.heap.size → (∀ id b, getH H id = some b → (ρ id).nil = false → (ρ id).g ≠ g) → (∀ lo hi, (lo, hi) ∈ iv → ¬ (lo ≤ g ∧ g < hi)) → (∃ j ∈ Pd, j ≠ i) →
      (∀ id b, getH H' id = some b → (ρ' id).nil = false → (ρ' id).g ≠ g) ∧ (∀ lo hi, (lo, hi) ∈ iv' → ¬ (lo ≤ g ∧ g < hi))) :
    Sim P ops n B (Pd.filter fun j => !Nat.beq j i) E (lx.setIfInBounds i true) (la.setIfInBounds i true) l' H' nx' iv' w2 ρ' (a.put o.dst u) w3 := by
  have memf : ∀ j, j ∈ (Pd.filter fun j => !Nat.beq j i) ↔ j ∈ Pd ∧ j ≠ i := fun j => by
    simp only [List.mem_filter, Bool.not_eq_true', beq_f]
  have hEi : ∀ j g, (j, g) ∈ E → j ≠ i := fun j g h e => hiE g (e ▸ h)
  refine ⟨sat', by simp [s.szx], by simp [s.sza], fun j => ?_, fun j g h => (memf j).2 ⟨s.epd j g h, hEi j g h⟩, fun j hj => ?_, fun j g h => ?_, s.inj, fun j hj j' hj' => s.ap j ((memf j).1 hj).1 j' ((memf j').1 hj').1⟩
  · rw [set_true, set_true, s.la, s.sza, s.szx]
    constructor
    · rintro ((h | h) | h)
      · exact .inl (.inl h)
      · exact .inr h
      · exact .inl (.inr h)
    · rintro ((h | h) | h)
      · exact .inl (.inl h)
      · exact .inr h
      · exact .inl (.inr h)
  · obtain ⟨hj, hji⟩ := (memf j).1 hj
    obtain ⟨h0, oj, d, mk, obj, h1, h2, h3, ⟨h4, hself⟩, h5, h6, h7⟩ := s.pd j hj
    have hapj := hap j hj hji oj h1
    have hne : o.dst ≠ some d := fun e => (Go.Oper.apart_spec hapj).2.1 d e h4
    refine ⟨?_, oj, d, mk, obj, h1, h2, h3, ⟨h4, hself⟩, Oper.apart_put hapj (fun cs b => hsel j oj cs b h1) h5, hl j hj hji d h6 hne, fun g hg => ⟨put_get hne (h7 g hg).1, ?_⟩⟩
    · rw [Array.getElem?_setIfInBounds_ne (Ne.symm hji)]; exact h0
    · rw [(hext j hj hji).block g (heap_lt (h7 g hg).2)]; exact (h7 g hg).2
  · have hj := s.epd j g h
    obtain ⟨h0, oj, d, mk, obj, h1, h2, h3, ⟨h4, hself⟩, h5, h6, h7⟩ := s.pd j hj
    obtain ⟨e1, e2, e3⟩ := s.eg j g h
    exact ⟨e1, heg g (heap_lt (h7 g h).2) e2 e3 ⟨j, hj, hEi j g h⟩⟩

/-- the tape makes a block early -/
theorem Sim.early (s : Sim P ops n B Pd E lx la l H nx iv w ρ a w') (hok : ∀ (j : Nat) o, ops[j]? = some o → ∀ d, o.dst = some d → d < n)
    (hsel : ∀ (j : Nat) (o : Oper) cs b, ops[j]? = some o → o.op ≠ .select cs b) {j : Nat} (hj : j ∈ Pd) (hun : la[j]? = some false) {Q : Exit → Act → World → Prop} {K : Act → World → Prop}
    (h : ∀ E' a2 w2, Ext w' w2 → Sim P ops n B Pd E' lx (la.setIfInBounds j true) l H nx iv w ρ a2 w2 → K a2 w2) : wpOp P ops Q j K a w' := by
  obtain ⟨h0, o, d, mk, obj, h1, h2, h3, ⟨h4, hself⟩, h5, h6, h7⟩ := s.pd j hj
  have hw : Region.wanted o (yielded ops a.tmps) = true := by simp [Region.wanted, h3]
  unfold wpOp
  simp only [h1, hw, if_true]
  refine .inl ?_
  unfold Oper.wp
  rw [h5 w']
  simp only [Oper.upon]
  have hd := hok j o h1 d h4
  have hnE : ∀ g, (j, g) ∉ E := fun g hg => by
    have := (s.la j).2 (.inr ⟨g, hg⟩)
    rw [hun] at this; cases this
  refine h ((j, w'.heap.size) :: E) _ _ (Ext.alloc _ _) ⟨?_, s.szx, by simp [s.sza], fun k => ?_, fun k g hk => ?_, fun k hk => ?_, fun k g hk => ?_, fun k g k' hk hk' => ?_, s.ap⟩
  · refine ⟨s.sat.rel.ext (Ext.alloc _ _), ?_, ?_, fun t v hv => ?_, s.sat.sc⟩
    · rw [h4]; simp [Act.put, s.sat.size]
    · rw [h4]; exact s.sat.defers
    · refine put_get (fun e => ?_) (s.sat.env t v hv)
      rw [h4] at e; injection e with e; subst e; rw [h6] at hv; cases hv
  · rw [set_true, s.la]
    have hlt : j < la.size := (Array.getElem?_eq_some_iff.1 hun).1
    constructor
    · rintro ((h | ⟨g, h⟩) | ⟨rfl, _⟩)
      · exact .inl h
      · exact .inr ⟨g, by simp [h]⟩
      · exact .inr ⟨_, List.mem_cons_self ..⟩
    · rintro (h | ⟨g, h⟩)
      · exact .inl (.inl h)
      · rcases List.mem_cons.1 h with h | h
        · injection h with e1 e2; exact .inr ⟨e1, by rw [e1]; exact hlt⟩
        · exact .inl (.inr ⟨g, h⟩)
  · rcases List.mem_cons.1 hk with hk | hk
    · injection hk with e1 e2; rw [e1]; exact hj
    · exact s.epd k g hk
  · obtain ⟨g0, ok, dk, mkk, objk, g1, g2, g3, ⟨g4, gself⟩, g5, g6, g7⟩ := s.pd k hk
    by_cases hkj : k = j
    · subst hkj
      rw [h1] at g1; injection g1 with g1; subst g1
      rw [h4] at g4; injection g4 with g4; subst g4
      refine ⟨g0, o, d, mk, obj, h1, h2, h3, ⟨h4, hself⟩, ?_, h6, fun g hg => ?_⟩
      · intro ww
        rw [execOp_put (ops := ops) o (fun cs b => hsel k o cs b h1) a o.dst _ (fun d' hd' => by rw [h4] at hd'; injection hd' with hd'; subst hd'; exact hself)]
        exact h5 ww
      · rcases List.mem_cons.1 hg with hg | hg
        · injection hg with e1 e2; subst e2
          refine ⟨?_, heap_alloc_new _ _⟩
          rw [h4]; simp [Act.put, s.sat.size, hd]
        · exact absurd hg (hnE g)
    · have hap := s.ap j hj k hk (Ne.symm hkj) o ok h1 g1
      have hne : o.dst ≠ some dk := fun e => (Go.Oper.apart_spec hap).2.1 dk e g4
      refine ⟨g0, ok, dk, mkk, objk, g1, g2, g3, ⟨g4, gself⟩, Oper.apart_put hap (fun cs b => hsel k ok cs b g1) g5, g6, fun g hg => ?_⟩
      rcases List.mem_cons.1 hg with hg | hg
      · injection hg with e1 e2; exact absurd e1 hkj
      · refine ⟨put_get hne (g7 g hg).1, ?_⟩
        rw [heap_alloc_old _ _ (heap_lt (g7 g hg).2)]; exact (g7 g hg).2
  · rcases List.mem_cons.1 hk with hk | hk
    · injection hk with e1 e2; subst e2
      refine ⟨Nat.le_trans s.sat.rel.base s.sat.rel.size, fun id b hb hn he => ?_, fun lo hi hm hc => ?_⟩
      · have := (s.sat.rel.low id b hb hn).2; omega
      · have := s.sat.rel.ivs lo hi hm; have := s.sat.rel.size; omega
    · exact s.eg k g hk
  · have old : ∀ k' g', (k', g') ∈ E → g' < w'.heap.size := fun k' g' h => by
      obtain ⟨_, _, _, _, _, _, _, _, _, _, _, h7⟩ := s.pd k' (s.epd k' g' h)
      exact heap_lt (h7 g' h).2
    rcases List.mem_cons.1 hk with hk | hk <;> rcases List.mem_cons.1 hk' with hk' | hk'
    · injection hk with e1 e2; injection hk' with e3 e4; rw [e1, e3]
    · injection hk with e1 e2; have := old _ _ hk'; omega
    · injection hk' with e1 e2; have := old _ _ hk; omega
    · exact s.inj k g k' hk hk'

/-- the executor makes a block that the tape has made -/
theorem Sim.adopt (s : Sim P ops n B Pd E lx la l H nx iv w ρ a w') {i g : Nat} {o : Oper} (hi : ops[i]? = some o) (hg : (i, g) ∈ E) {b : Blk} {v : SV} {mk : Nat → Value} {obj : Obj}
    (hb : b.scopd nx) (hv : v.sc (nx + 1)) (hmk : ∀ g, v.den (upd ρ nx ⟨g, 0, false⟩) = mk g) (hfit : ∀ g w2, w2.heap[g]? = some obj → b.fits ρ ⟨g, 0, false⟩ w2) (hal : AL P o a mk obj)
    {K : Env → Prop} (hK : setE o.dst v l K) (hok : ∀ d, o.dst = some d → d < n) (hap : ∀ j ∈ Pd, j ≠ i → ∀ oj, ops[j]? = some oj → o.apart ops oj = true) :
    ∃ l', K l' ∧ Sim P ops n B (Pd.filter fun j => !Nat.beq j i) (E.filter fun e => !Nat.beq e.1 i) (lx.setIfInBounds i true) la l' ((nx, b) :: H) (nx + 1) iv w (upd ρ nx ⟨g, 0, false⟩) a w' := by
  obtain ⟨h0, o', d, mk', obj', h1, h2, h3, ⟨h4, hself⟩, h5, h6, h7⟩ := s.pd i (s.epd i g hg)
  rw [hi] at h1; injection h1 with h1; subst h1
  obtain ⟨rfl, rfl⟩ := hal.uniq h5
  obtain ⟨ht, hh⟩ := h7 g hg
  obtain ⟨e1, e2, e3⟩ := s.eg i g hg
  have memf : ∀ j, j ∈ (Pd.filter fun j => !Nat.beq j i) ↔ j ∈ Pd ∧ j ≠ i := fun j => by
    simp only [List.mem_filter, Bool.not_eq_true', beq_f]
  have memE : ∀ j k, (j, k) ∈ (E.filter fun e => !Nat.beq e.1 i) ↔ (j, k) ∈ E ∧ j ≠ i := fun j k => by
    simp only [List.mem_filter, Bool.not_eq_true', beq_f]
  have hup : ∀ id b, getH H id = some b → upd ρ nx ⟨g, 0, false⟩ id = ρ id := fun id b h => (upd_lt id (s.sat.rel.keys id b h)).symm
  have r := s.sat.rel
  have hrel : Rel ((nx, b) :: H) (nx + 1) iv B w (upd ρ nx ⟨g, 0, false⟩) w' := by
    refine Rel.mk' r.os r.tape r.output r.size r.base r.ivs ?_ ?_ ?_ ?_ ?_ ?_ ?_
    · intro id b' h
      rw [getH_cons] at h
      split at h
      · omega
      · have := r.keys id b' h; omega
    · intro id b' h
      rw [getH_cons] at h
      split at h
      · rename_i e; subst e; injection h with h; subst h
        rw [upd_same]
        exact Blk.fits_keep (hfit g w' hh) (fun id hid => upd_lt id hid) hb (fun _ _ => rfl)
      · rw [hup id b' h]
        exact Blk.fits_keep (r.fits h) (fun id hid => upd_lt id hid) (r.scopd h) (fun _ _ => rfl)
    · intro id b' h
      rw [getH_cons] at h
      split at h
      · injection h with h; subst h; exact Blk.scopd_mono (Nat.le_succ _) hb
      · exact Blk.scopd_mono (Nat.le_succ _) (r.scopd h)
    · intro id id' c c' h h' hd hd' hn hn' he
      rw [getH_cons] at h h'
      split at h <;> split at h'
      · rename_i x y; rw [← x, ← y]
      · rename_i x y; subst x
        rw [upd_same, hup _ _ h'] at he
        rw [hup _ _ h'] at hn'
        exact absurd he.symm (e2 _ _ h' hn')
      · rename_i x y; subst y
        rw [upd_same, hup _ _ h] at he
        rw [hup _ _ h] at hn
        exact absurd he (e2 _ _ h hn)
      · rw [hup _ _ h, hup _ _ h'] at he
        rw [hup _ _ h] at hn
        rw [hup _ _ h'] at hn'
        exact r.inj id id' c c' h h' hd hd' hn hn' he
    · intro id c h hn
      rw [getH_cons] at h
      split at h
      · rename_i e; subst e; rw [upd_same]; exact ⟨e1, heap_lt hh⟩
      · rw [hup _ _ h] at hn ⊢; exact r.low id c h hn
    · intro k hk hne
      refine r.frm k hk fun id c h hn => ?_
      have hlt := r.keys id c h
      have := hne id c (by rw [getH_cons, if_neg (by omega)]; exact h) (by rw [hup _ _ h]; exact hn)
      rwa [hup _ _ h] at this
    · intro lo hi hm id c h hn
      rw [getH_cons] at h
      split at h
      · rename_i e; subst e; rw [upd_same]; exact e3 lo hi hm
      · rw [hup _ _ h] at hn ⊢; exact r.prot lo hi hm id c h hn
  have sat1 : Sat n l ((nx, b) :: H) (nx + 1) iv B w (upd ρ nx ⟨g, 0, false⟩) a w' := s.sat.next hrel (Nat.le_succ _) (fun id hid => upd_lt id hid)
  rw [h4] at hK
  refine ⟨_, hK, ?_⟩
  have sat2 : Sat n ((d, v) :: l) ((nx, b) :: H) (nx + 1) iv B w (upd ρ nx ⟨g, 0, false⟩) a w' := by
    refine ⟨sat1.rel, sat1.size, sat1.defers, fun t u hu => ?_, fun t u hu => ?_⟩
    · rw [getE_cons] at hu
      split at hu
      · rename_i e; subst e; injection hu with hu; subst hu; rw [hmk]; exact ht
      · exact sat1.env t u hu
    · rw [getE_cons] at hu
      split at hu
      · injection hu with hu; subst hu; exact hv
      · exact sat1.sc t u hu
  have hli : i < lx.size := (Array.getElem?_eq_some_iff.1 h0).1
  refine ⟨sat2, by simp [s.szx], s.sza, fun j => ?_, fun j k h => ?_, fun j hj => ?_, fun j k h => ?_, fun j k j' h h' => s.inj j k j' ((memE j k).1 h).1 ((memE j' k).1 h').1, fun j hj j' hj' => s.ap j ((memf j).1 hj).1 j' ((memf j').1 hj').1⟩
  · rw [s.la, set_true]
    constructor
    · rintro (h | ⟨k, h⟩)
      · exact .inl (.inl h)
      · by_cases hji : j = i
        · exact .inl (.inr ⟨hji, hji ▸ hli⟩)
        · exact .inr ⟨k, (memE j k).2 ⟨h, hji⟩⟩
    · rintro ((h | ⟨rfl, h⟩) | ⟨k, h⟩)
      · exact .inl h
      · exact .inr ⟨g, hg⟩
      · exact .inr ⟨k, ((memE j k).1 h).1⟩
  · exact (memf j).2 ⟨s.epd j k ((memE j k).1 h).1, ((memE j k).1 h).2⟩
  · obtain ⟨hj, hji⟩ := (memf j).1 hj
    obtain ⟨g0, oj, dj, mkj, objj, g1, g2, g3, ⟨g4, gself⟩, g5, g6, g7⟩ := s.pd j hj
    have hne : d ≠ dj := fun e => (Go.Oper.apart_spec (hap j hj hji oj g1)).2.1 d h4 (by rw [g4, e])
    refine ⟨by rw [Array.getElem?_setIfInBounds_ne (Ne.symm hji)]; exact g0, oj, dj, mkj, objj, g1, g2, g3, ⟨g4, gself⟩, g5, ?_, fun k hk => g7 k ((memE j k).1 hk).1⟩
    rw [getE_cons, if_neg hne]; exact g6
  · obtain ⟨h, hji⟩ := (memE j k).1 h
    obtain ⟨k1, k2, k3⟩ := s.eg j k h
    refine ⟨k1, fun id c hc hn => ?_, k3⟩
    rw [getH_cons] at hc
    split at hc
    · rename_i e; subst e; rw [upd_same]
      intro e; simp only at e; subst e; exact hji (s.inj j _ i h hg)
    · rw [hup _ _ hc] at hn ⊢; exact k2 id c hc hn
end
end Go.Sx
