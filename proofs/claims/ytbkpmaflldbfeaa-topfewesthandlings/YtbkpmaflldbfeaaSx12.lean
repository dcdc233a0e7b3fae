/- A region that draws its order: what is owed. -/
import Derived.Test.YtbkpmaflldbfeaaSx11
namespace Go.Sx
open Go

section
variable {P : Program} {τ : Tab} {ops : Array Oper} {B n nx : Nat} {l : Env} {H : Hp} {iv : Iv} {w w' : World} {ρ : Nat → Val} {a : Act}
variable {Pd : List Nat} {E : List (Nat × Nat)} {lx la : Array Bool} {Q : Exit → Act → World → Prop} {md : Region.Mode}

theorem wpAnyE_done (hr : Region.ready md ops la = []) (h : Q .normal a w) : ∀ fuel, wpAnyE P md ops Q fuel la a w
  | 0 => ⟨hr, h⟩
  | _ + 1 => ⟨fun _ => h, by rw [hr]; simp⟩

/-- a call that leaves all that was there -/
theorem callE_spec (sat : Sat n l H nx iv B w ρ a w') {g : Nat} {args : (Nat → Val) → Array Value} {K : SV → Hp → Iv → World → Prop} {o : Oper} {next : Act → World → Prop}
    (h : CallE P B g args H nx iv w K) (hop : (execOp a.eval o).run P w' = (callFunc g (args ρ)).run P w')
    (hn : ∀ v w2, K (.o (.v v)) H ((w'.heap.size, w2.heap.size) :: iv) w2 → Ext w' w2 → Sat n l H nx ((w'.heap.size, w2.heap.size) :: iv) B w2 ρ a w2 → next (a.put o.dst v) w2) : o.wp P a w' next Q := by
  have hc := h.h ρ w' sat.rel
  unfold Oper.wp
  rw [hop, hc.e.h]
  refine Calls.mono hc.c fun e w2 he => ?_
  obtain ⟨v, rfl, hext, hK⟩ := he
  refine hn v w2 hK hext ?_
  have r := (sat.rel.ext hext).here
  refine sat.next (ρ' := ρ) ?_ (Nat.le_refl _) (fun _ _ => rfl)
  refine Rel.mk' r.os r.tape r.output r.size r.base ?_ r.keys (fun id b hb => r.fits hb) (fun id b hb => r.scopd hb) r.inj r.low r.frm ?_
  · intro lo hi hm
    rcases List.mem_cons.1 hm with hm | hm
    · injection hm with h1 h2; omega
    · exact r.ivs lo hi hm
  · intro lo hi hm id b hb hnil
    rcases List.mem_cons.1 hm with hm | hm
    · injection hm with h1 h2
      have := (sat.rel.low id b hb hnil).2
      omega
    · exact r.prot lo hi hm id b hb hnil

/-- a soft call, in a region that draws -/
theorem sxOp_callE {o : Oper} {K : SV → Hp → Nat → Iv → World → Prop} (h : sxOp true P τ B o l H nx iv w K) (sat : Sat n l H nx iv B w ρ a w') (hr : isR o.op = false) (ha : isA o.op = false) (hh : hard o = false)
    {next : Act → World → Prop} (hn : ∀ v w2, K (.o (.v v)) H nx ((w'.heap.size, w2.heap.size) :: iv) w2 → Ext w' w2 → Sat n l H nx ((w'.heap.size, w2.heap.size) :: iv) B w2 ρ a w2 → next (a.put o.dst v) w2) : o.wp P a w' next Q := by
  obtain ⟨dst, op, ty, pos, after, guard⟩ := o
  simp only at hr ha
  have : ∃ f args x, op = .call ⟨.value f, args, x⟩ := by
    simp only [hard, hr, ha, Bool.or_self, Bool.false_or, Bool.not_eq_false'] at hh
    split at hh
    · exact ⟨_, _, _, rfl⟩
    · cases hh
  obtain ⟨f, ⟨args⟩, x, rfl⟩ := this
  simp only [sxOp] at h
  obtain ⟨vf, h1, hf, hfs⟩ := wEv_spec sat h
  obtain ⟨vs, h2, hvs, hss⟩ := wEvs_spec sat h1
  have hargs : (args.toArray).map a.eval = densOf ρ vs := by
    apply Array.ext'
    simp [densOf, hvs]
  split at h2
  · rename_i g first caps
    refine callE_spec sat h2 ?_ (fun v w2 hK he hs => hn v w2 hK he hs)
    simp [execOp, resolve, hf, SV.den, At.den, Deferred.ofValue, invoke, hargs]
  · rename_i g ids
    refine callE_spec sat h2 ?_ (fun v w2 hK he hs => hn v w2 hK he hs)
    simp [execOp, resolve, hf, SV.den, At.den, Deferred.ofValue, invoke, hargs]
  · exact h2.elim

def QN (Q0 : Act → World → Prop) : Exit → Act → World → Prop := fun e a w => e = .normal ∧ Q0 a w

theorem guard_spec (sat : Sat n l H nx iv B w ρ a w') {o : Oper} {yes no : Env → Prop} (h : sxGuard ops.toList o.guard l yes no) (hg : o.guard = none ∨ Pd = []) :
    (Region.wanted o (yielded ops a.tmps) = true ∧ ∃ l', yes l' ∧ Sat n l' H nx iv B w ρ a w' ∧ (Pd ≠ [] → l' = l)) ∨
    (Region.wanted o (yielded ops a.tmps) = false ∧ Pd = [] ∧ ∃ l', no l' ∧ Sat n l' H nx iv B w ρ a w') := by
  by_cases hgn : o.guard = none
  · rw [hgn] at h
    exact .inl ⟨by simp [Region.wanted, hgn], l, h, sat, fun _ => rfl⟩
  · have hPd := hg.resolve_left hgn
    rcases sxGuard_spec sat h with ⟨h1, l', h2, h3⟩ | ⟨h1, l', h2, h3⟩
    · exact .inl ⟨h1, l', h2, h3, fun hne => absurd hPd hne⟩
    · exact .inr ⟨h1, hPd, l', h2, h3⟩

theorem setE_none {d : Option Tmp} {v : SV} {l : Env} {k : Env → Prop} (h : setE d v l k) : ∃ l', k l' ∧ ∀ t, getE l t = none → d ≠ some t → getE l' t = none := by
  unfold setE at h
  split at h
  · rename_i d
    exact ⟨_, h, fun t ht hd => by rw [getE_cons, if_neg (fun e => hd (by rw [e]))]; exact ht⟩
  · exact ⟨l, h, fun t ht _ => ht⟩

theorem setE_step (sat : Sat n l H nx iv B w ρ a w') {d : Option Tmp} {v : SV} {k : Env → Prop} (h : setE d v l k) (hd : ∀ t, d = some t → t < n) (hv : v.sc nx) :
    ∃ l', k l' ∧ Sat n l' H nx iv B w ρ (a.put d (v.den ρ)) w' ∧ ∀ t, getE l t = none → d ≠ some t → getE l' t = none := by
  unfold setE at h
  split at h
  · rename_i t
    exact ⟨_, h, sat.put (hd t rfl) hv, fun u hu hne => by rw [getE_cons, if_neg (fun e => hne (by rw [e]))]; exact hu⟩
  · exact ⟨l, h, sat, fun t ht _ => ht⟩

theorem wpOp_wanted {Q : Exit → Act → World → Prop} {K : Act → World → Prop} {i : Nat} {o : Oper} (hi : ops[i]? = some o)
    (h : (Region.wanted o (yielded ops a.tmps) = true ∧ o.wp P a w' K Q) ∨ (Region.wanted o (yielded ops a.tmps) = false ∧ K (a.put o.dst undef) w')) : wpOp P ops Q i K a w' := by
  unfold wpOp
  simp only [hi]
  rcases h with ⟨h1, h2⟩ | ⟨h1, h2⟩
  · rw [if_pos h1]; exact .inl h2
  · rw [if_neg (by simp [h1])]; exact h2

theorem pi_sound (hτ : TabOK P τ) (hok : ∀ (j : Nat) o, ops[j]? = some o → ∀ d, o.dst = some d → d < n) (hsel : ∀ (j : Nat) (o : Oper) cs b, ops[j]? = some o → o.op ≠ .select cs b)
    {K : KT} {Q0 : Act → World → Prop} (hQ : ∀ l' H' nx' iv' w2 ρ' a' w3, K l' H' nx' iv' w2 → Sat n l' H' nx' iv' B w2 ρ' a' w3 → Q0 a' w3) :
    ∀ (m fuel : Nat) (π : List It) (lx la : Array Bool) (Pd : List Nat) (E : List (Nat × Nat)) (l : Env) (H : Hp) (nx : Nat) (iv : Iv) (w : World) (ρ : Nat → Val) (a : Act) (w' : World),
      fuel + π.length = m → unl la ≤ fuel → chkPi ops π lx Pd = true → sxPi P τ B ops.toList π l H nx iv w K → Sim P ops n B Pd E lx la l H nx iv w ρ a w' → wpAnyE P .any ops (QN Q0) fuel la a w' := by
  intro m
  induction m using Nat.strongRecOn with
  | _ m ih =>
  intro fuel π lx la Pd E l H nx iv w ρ a w' hm hfuel hc h s
  match π with
  | [] =>
    simp only [chkPi, Bool.and_eq_true, List.isEmpty_iff] at hc
    obtain ⟨hr, rfl⟩ := hc
    refine wpAnyE_done ?_ ⟨rfl, hQ _ _ _ _ _ _ _ _ h s.sat⟩ fuel
    refine List.eq_nil_iff_forall_not_mem.2 fun j hj => ?_
    obtain ⟨h1, o, h2, h3⟩ := mem_ready'.1 hj
    have : j ∈ Region.ready .any ops lx := by
      refine mem_ready'.2 ⟨?_, o, h2, fun e he hb => ?_⟩
      · have hlt : j < lx.size := by rw [s.szx, ← s.sza]; exact (Array.getElem?_eq_some_iff.1 h1).1
        rw [Array.getElem?_eq_getElem hlt]
        cases hb : lx[j] with
        | false => rfl
        | true =>
          have := (s.la j).2 (.inl (by rw [Array.getElem?_eq_getElem hlt, hb]))
          rw [h1] at this; cases this
      · rcases (s.la e.on).1 (h3 e he hb) with h4 | ⟨g, h4⟩
        · exact h4
        · exact absurd (s.epd _ _ h4) (by simp)
    rw [hr] at this
    cases this
  | .p i :: r =>
    obtain ⟨o, ho, h1⟩ := nthK_spec h
    rw [Array.getElem?_toList] at ho
    simp only [chkPi, ho, Bool.and_eq_true] at hc
    obtain ⟨⟨⟨⟨⟨⟨c1, c2⟩, c3⟩, c4⟩, c5⟩, c6⟩, c7⟩ := hc
    cases hd : o.dst with
    | none => rw [hd] at c3; cases c3
    | some d =>
    rw [hd] at c3
    obtain ⟨b, v, mk, obj, hK, -, -, -, -, -, hal⟩ := sxOp_alloc hτ h1 s.sat c1
    rw [hd] at hK
    obtain ⟨l', hl, hl1, hl2⟩ := delEK_spec hK
    have hmem : ∀ j ∈ Pd, j ≠ i := fun j hj => by
      have := List.all_eq_true.1 c5 j hj
      simpa only [Bool.not_eq_true', beq_f] using this
    have c6' : ∀ j ∈ Pd, ∀ oj, ops[j]? = some oj → o.apart ops oj = true ∧ oj.apart ops o = true := fun j hj oj hoj => by
      have := List.all_eq_true.1 c6 j hj
      simpa only [apAt, hoj, Bool.and_eq_true] using this
    have hlxi : lx[i]? = some false := by
      have : lx.getD i true = false := by simpa using c4
      rw [Array.getD_eq_getD_getElem?] at this
      cases hx : lx[i]? with
      | none => rw [hx] at this; cases this
      | some b => rw [hx] at this; simp at this; rw [this]
    refine ih (fuel + r.length) (by simp only [List.length_cons] at hm; omega) fuel r lx la (i :: Pd) E l' H nx iv w ρ a w' rfl hfuel c7 hl ?_
    refine ⟨⟨s.sat.rel, s.sat.size, s.sat.defers, fun t v hv => s.sat.env t v (hl2 t v hv).2, fun t v hv => s.sat.sc t v (hl2 t v hv).2⟩, s.szx, s.sza, s.la, fun j g hg => List.mem_cons_of_mem _ (s.epd j g hg), fun j hj => ?_, s.eg, s.inj, fun j hj j' hj' hne oj oj' h3 h4 => ?_⟩
    · rcases List.mem_cons.1 hj with rfl | hj
      · refine ⟨hlxi, o, d, mk, obj, ho, c1, by simpa using c2, ⟨hd, by simpa using c3⟩, hal, hl1, fun g hg => absurd (s.epd _ _ hg) (fun hmm => hmem _ hmm rfl)⟩
      · obtain ⟨h0, oj, dj, mkj, objj, g1, g2, g3, g4, g5, g6, g7⟩ := s.pd j hj
        exact ⟨h0, oj, dj, mkj, objj, g1, g2, g3, g4, g5, getE_del hl2 g6, g7⟩
    · rcases List.mem_cons.1 hj with e1 | k1 <;> rcases List.mem_cons.1 hj' with e2 | k2
      · exact absurd (e1.trans e2.symm) hne
      · rw [e1, ho] at h3; injection h3 with h3; subst h3; exact (c6' j' k2 oj' h4).1
      · rw [e2, ho] at h4; injection h4 with h4; subst h4; exact (c6' j k1 oj h3).2
      · exact s.ap j k1 j' k2 hne oj oj' h3 h4
  | .x i :: r =>
    obtain ⟨o, ho, h1⟩ := nthK_spec h
    unfold sxStep at h1
    rw [Array.getElem?_toList] at ho
    simp only [chkPi, ho, Bool.and_eq_true] at hc
    obtain ⟨⟨⟨⟨c1, c2⟩, c3⟩, c4⟩, c5⟩ := hc
    have c2 : i ∈ Region.ready .any ops lx := by simpa using c2
    have c1 : o.guard = none ∨ Pd = [] := by simpa using c1
    have hap : ∀ j ∈ Pd, j ≠ i → ∀ oj, ops[j]? = some oj → o.apart ops oj = true := fun j hj hji oj hoj => by
      have := List.all_eq_true.1 c3 j hj
      simpa only [apAt, hoj, Bool.or_eq_true, beq_f.2 hji, Bool.false_eq_true, false_or] using this
    obtain ⟨hlx, o', ho', hwait⟩ := mem_ready'.1 c2
    rw [ho] at ho'; injection ho' with ho'; subst ho'
    simp only [List.length_cons] at hm
    have hdn := hok i o ho
    by_cases hE : ∃ g, (i, g) ∈ E
    · -- made already
      obtain ⟨g, hg⟩ := hE
      obtain ⟨h0, o', d, mk', obj', g1, g2, g3, g4, g5, g6, g7⟩ := s.pd i (s.epd i g hg)
      rw [ho] at g1; injection g1 with g1; subst g1
      rw [g3] at h1
      have h1 : sxOp true P τ B o l H nx iv w fun v H' nx' iv' w' => setE o.dst v l fun l' => sxPi P τ B ops.toList r l' H' nx' iv' w' K := h1
      obtain ⟨b, v, mk, obj, hK, hbd, hb, hv, hmk, hfit, hal⟩ := sxOp_alloc hτ h1 s.sat g2
      obtain ⟨l', hl, s'⟩ := s.adopt ho hg hb hv hmk hfit hal hK hdn hap
      exact ih (fuel + r.length) (by omega) fuel r _ _ _ _ _ _ _ _ _ _ _ _ rfl hfuel c5 hl s'
    · have hiE : ∀ g, (i, g) ∉ E := fun g hg => hE ⟨g, hg⟩
      have hla : la[i]? = some false := by
        have hlt : i < la.size := by rw [s.sza, ← s.szx]; exact (Array.getElem?_eq_some_iff.1 hlx).1
        rw [Array.getElem?_eq_getElem hlt]
        cases hb : la[i] with
        | false => rfl
        | true =>
          rcases (s.la i).1 (by rw [Array.getElem?_eq_getElem hlt, hb]) with h2 | h2
          · rw [hlx] at h2; cases h2
          · exact absurd h2 hE
      have hready : i ∈ Region.ready .any ops la := mem_ready'.2 ⟨hla, o, ho, fun e he hb => (s.la e.on).2 (.inl (hwait e he hb))⟩
      have hun := unl_set hla
      obtain ⟨f, rfl⟩ : ∃ f, fuel = f + 1 := ⟨fuel - 1, by omega⟩
      cases hR : isR o.op with
      | true =>
        rw [hR] at c4
        -- a reader
        obtain ⟨blk, hb1, hb2, hb3, hb4⟩ := freeH_spec c4 s.szx
        have hbl : ∀ j, blk j → la.getD j false = false := fun j hj => by
          cases hl : la.getD j false with
          | false => rfl
          | true =>
            have hl : la[j]? = some true := by
              rw [Array.getD_eq_getD_getElem?] at hl
              cases hx : la[j]? with
              | none => rw [hx] at hl; cases hl
              | some b => rw [hx] at hl; simp at hl; rw [hl]
            rcases (s.la j).1 hl with h4 | ⟨g, h4⟩
            · have := hb2 j hj
              rw [Array.getD_eq_getD_getElem?, h4] at this; cases this
            · exact absurd hj (hb3 j (s.epd j g h4))
        have hfree : ∀ j oj, ops[j]? = some oj → j ≠ i → la.getD j true = false → ¬ blk j → o.apart ops oj = true ∧ (isP o.op = true ∨ hard oj = false) := by
          intro j oj hoj hji hlj hno
          have hjl : lx.getD j true = false := by
            rw [Array.getD_eq_getD_getElem?] at hlj ⊢
            cases hx : lx[j]? with
            | none =>
              have : la[j]? = none := by
                rw [Array.getElem?_eq_none_iff] at hx ⊢; rw [s.sza, ← s.szx]; exact hx
              rw [this] at hlj; cases hlj
            | some b =>
              cases b with
              | false => rfl
              | true => rw [(s.la j).2 (.inl hx)] at hlj; cases hlj
          exact hb4 j oj hoj hji hjl hno
        rcases guard_spec s.sat h1 c1 with ⟨hw, l1, h2, sat1, hl1⟩ | ⟨hw, hPd, l1, h2, sat1⟩
        · obtain ⟨v, hK, hvs, hrun⟩ := (sxOp_reader hτ h2 sat1 hR).resolve_right (fun hh => by cases hh.1)
          obtain ⟨l2, h3, sat2, hl2⟩ := setE_step sat1 hK hdn hvs
          refine wpAnyE_first (pu := isP o.op) (v := v.den ρ) ho hsel (fun c a w hq => ?_) blk hb1 f la a w' hbl hfree hready (.inl ⟨hw, fun w3 he => hrun w3 (he.imp id fun he => sat1.rel.ext he)⟩) ?_
          · exact absurd hq.1 (by simp)
          · refine ih (f + r.length) (by omega) f r _ _ _ _ _ _ _ _ _ _ _ _ rfl (by omega) c5 h3 (s.step hsel ho hiE hap sat2 ?_ (fun _ _ _ => Ext.refl _) (fun g _ hg1 hg2 _ => ⟨hg1, hg2⟩))
            intro j hj hji d hd hne
            have hl1 := hl1 (by intro e; rw [e] at hj; cases hj)
            subst hl1
            exact hl2 d hd hne
        · obtain ⟨l2, h3, sat2, hl2⟩ := setE_step (v := .o (.v undef)) sat1 h2 hdn trivial
          refine wpAnyE_first (pu := isP o.op) (v := undef) ho hsel (fun c a w hq => ?_) blk hb1 f la a w' hbl hfree hready (.inr ⟨hw, rfl⟩) ?_
          · exact absurd hq.1 (by simp)
          · refine ih (f + r.length) (by omega) f r _ _ _ _ _ _ _ _ _ _ _ _ rfl (by omega) c5 h3 (s.step hsel ho hiE hap sat2 ?_ (fun _ _ _ => Ext.refl _) (fun g _ hg1 hg2 _ => ⟨hg1, hg2⟩))
            intro j hj
            rw [hPd] at hj; cases hj
      | false =>
        rw [hR] at c4
        simp only [Bool.and_eq_true] at c4
        obtain ⟨c4, c6⟩ := c4
        have hpick : ∀ j ∈ Region.ready .any ops la, j = i ∨ (j ≠ i ∧ j ∈ Pd) := by
          intro j hj
          by_cases hji : j = i
          · exact .inl hji
          · refine .inr ⟨hji, ?_⟩
            apply Decidable.byContradiction
            intro hjP
            obtain ⟨k1, oj, k2, k3⟩ := mem_ready'.1 hj
            have : j ∈ Region.ready .any ops (lst lx (Pd.filter fun j => !Nat.beq j i)) := by
              refine mem_ready'.2 ⟨?_, oj, k2, fun e he hb => ?_⟩
              · have hlt : j < (lst lx (Pd.filter fun j => !Nat.beq j i)).size := by rw [lst_size, s.szx, ← s.sza]; exact (Array.getElem?_eq_some_iff.1 k1).1
                rw [Array.getElem?_eq_getElem hlt]
                cases hb : (lst lx (Pd.filter fun j => !Nat.beq j i))[j] with
                | false => rfl
                | true =>
                  rcases (lst_true _ lx j).1 (by rw [Array.getElem?_eq_getElem hlt, hb]) with h4 | ⟨h4, _⟩
                  · have := (s.la j).2 (.inl h4); rw [k1] at this; cases this
                  · exact absurd (List.mem_filter.1 h4).1 hjP
              · rw [lst_true]
                rcases (s.la e.on).1 (k3 e he hb) with h4 | ⟨g, h4⟩
                · exact .inl h4
                · refine .inr ⟨List.mem_filter.2 ⟨s.epd _ _ h4, ?_⟩, ?_⟩
                  · simp only [Bool.not_eq_true', beq_f]
                    intro e2; rw [e2] at h4; exact hiE g h4
                  · have := (s.pd _ (s.epd _ _ h4)).1
                    exact (Array.getElem?_eq_some_iff.1 this).1
            have := List.all_eq_true.1 c6 j this
            exact hji (beq_t this)
        refine ⟨fun he => (by rw [he] at hready; cases hready), fun j hj => ?_⟩
        have hlj := (mem_ready'.1 hj).1
        have hunj := unl_set hlj
        rcases hpick j hj with rfl | ⟨hji, hjP⟩
        · -- the executor's own pick
          refine wpOp_wanted ho ?_
          rcases guard_spec s.sat h1 c1 with ⟨hw, l1, h2, sat1, hl1⟩ | ⟨hw, hPd, l1, h2, sat1⟩
          · refine .inl ⟨hw, ?_⟩
            have hl1' : ∀ k ∈ Pd, k ≠ j → ∀ (l2 : Env), (∀ t, getE l1 t = none → o.dst ≠ some t → getE l2 t = none) → ∀ d, getE l d = none → o.dst ≠ some d → getE l2 d = none := by
              intro k hk _ l2 hl2 d hd hne
              have hl1 := hl1 (by intro e; rw [e] at hk; cases hk)
              subst hl1
              exact hl2 d hd hne
            cases hA : isA o.op with
            | true =>
              obtain ⟨b, v, mk, obj, hK, hbd, hb, hv, hmk, hfit, hal⟩ := sxOp_alloc hτ h2 sat1 hA
              have hrel : Rel ((nx, b) :: H) (nx + 1) iv B w (upd ρ nx ⟨w'.heap.size, 0, false⟩) (w'.alloc obj) :=
                sat1.rel.push b _ rfl rfl rfl (by simp) (fun k hk => heap_alloc_old _ _ hk) (fun _ => ⟨Nat.le_refl _, by simp⟩) (hfit _ _ (heap_alloc_new _ _)) hb
              obtain ⟨l2, h3, sat2, hl2⟩ := setE_step (sat1.next hrel (Nat.le_succ _) (fun id hid => upd_lt id hid)) hK hdn hv
              rw [hmk] at sat2
              refine wp_val (v := mk w'.heap.size) (w2 := w'.alloc obj) (hal w') ⟨fun _ => Ext.alloc _ _, ?_⟩
              refine ih (f + r.length) (by omega) f r _ _ _ _ _ _ _ _ _ _ _ _ rfl (by omega) c5 h3 (s.step hsel ho hiE hap sat2 (fun k hk hkj => hl1' k hk hkj l2 hl2) (fun _ _ _ => Ext.alloc _ _) (fun g hg hg1 hg2 _ => ⟨fun id c hc hn he => ?_, hg2⟩))
              rw [getH_cons] at hc
              split at hc
              · rename_i e; subst e; rw [upd_same] at he; simp only at he; omega
              · have hup : upd ρ nx ⟨w'.heap.size, 0, false⟩ id = ρ id := (upd_lt id (s.sat.rel.keys id c hc)).symm
                rw [hup] at hn he; exact hg1 id c hc hn he
            | false =>
              cases hH : hard o with
              | false =>
                refine sxOp_callE h2 sat1 hR hA hH fun v w2 hK he hs => ⟨fun _ => he, ?_⟩
                obtain ⟨l2, h3, sat2, hl2⟩ := setE_step (v := .o (.v v)) hs hK hdn trivial
                refine ih (f + r.length) (by omega) f r _ _ _ _ _ _ _ _ _ _ _ _ rfl (by omega) c5 h3 (s.step hsel ho hiE hap sat2 (fun k hk hkj => hl1' k hk hkj l2 hl2) (fun _ _ _ => he) (fun g hg hg1 hg2 _ => ⟨hg1, fun lo hi hm hc => ?_⟩))
                rcases List.mem_cons.1 hm with hm | hm
                · injection hm with e1 e2; omega
                · exact hg2 lo hi hm hc
              | true =>
                have hPd : Pd = [] := by rw [hH] at c4; simpa using c4
                subst hPd
                refine sxOp_sound hτ h2 sat1 fun v H' nx' iv' w2 ρ' w3 hK sat2 hv => ⟨fun hs => (by rw [hs o ho] at hH; cases hH), ?_⟩
                obtain ⟨l2, h3, sat3, hl2⟩ := setE_step sat2 hK hdn hv
                exact ih (f + r.length) (by omega) f r _ _ _ _ _ _ _ _ _ _ _ _ rfl (by omega) c5 h3 (s.step hsel ho hiE hap sat3 (fun k hk => by cases hk) (fun k hk => by cases hk) (fun g _ _ _ hk => by obtain ⟨k, hk, _⟩ := hk; cases hk))
          · refine .inr ⟨hw, fun _ => Ext.refl _, ?_⟩
            subst hPd
            obtain ⟨l2, h3, sat2, hl2⟩ := setE_step (v := .o (.v undef)) sat1 h2 hdn trivial
            exact ih (f + r.length) (by omega) f r _ _ _ _ _ _ _ _ _ _ _ _ rfl (by omega) c5 h3 (s.step hsel ho hiE hap sat2 (fun k hk => by cases hk) (fun k hk => by cases hk) (fun g _ _ _ hk => by obtain ⟨k, hk, _⟩ := hk; cases hk))
        · -- a block that is made early
          refine s.early hok hsel hjP hlj fun E' a2 w2 he s' => ⟨fun _ => he, ?_⟩
          exact ih (f + (r.length + 1)) (by omega) f (.x i :: r) lx _ Pd E' l H nx iv w ρ a2 w2 rfl (by omega) (by simp only [chkPi, ho, Bool.and_eq_true]; exact ⟨⟨⟨⟨by simpa using c1, by simpa using c2⟩, c3⟩, by rw [hR]; simp only [Bool.and_eq_true]; exact ⟨c4, c6⟩⟩, c5⟩) h s'

/-- a region that draws its order, by an order of one's own -/
theorem drawn_of_pi (hτ : TabOK P τ) (hm : P.follows .mixedOrders = true) {K : KT} (π : List It) (hs : Region.noSelect ops = true) (hc : chkPi ops π (Array.replicate ops.size false) [] = true)
    (h : sxPi P τ B ops.toList π l H nx iv w K) : DrawnS P B ops l H nx iv w K := by
  refine ⟨fun n ρ a w' hok sat Q hQ id => ?_⟩
  refine wp_mono (Q' := Q) (c := .region id ops true) (wp_region_any (Q := QN (Q .normal)) hm (wpAny_of_E _ _ _ _ ?_)) (fun e a w hq => by obtain ⟨rfl, hq⟩ := hq; exact hq)
  refine pi_sound hτ (fun j o ho d hd => ?_) (Region.noSelect_spec hs) hQ _ _ π _ _ [] [] l H nx iv w ρ a _ rfl ?_ hc h ?_
  · have := List.all_eq_true.1 hok o (List.mem_of_getElem? (by rw [Array.getElem?_toList]; exact ho))
    rw [hd] at this
    have h5 : d + 1 ≤ n := by simpa [Nat.blt] using this
    exact h5
  · unfold unl
    refine Nat.le_trans List.countP_le_length ?_
    simp
  · refine ⟨⟨sat.rel.drew, sat.size, sat.defers, sat.env, sat.sc⟩, by simp, by simp, fun j => by simp, fun j g h => (by cases h), fun j h => (by cases h), fun j g h => (by cases h), fun j g j' h => (by cases h), fun j h => (by cases h)⟩
end
end Go.Sx
