/- The executor is sound, seventh part: a region that draws its order. -/
import Derived.Test.YtbkpmaflldbfeaaSx8
import Derived.OrdersHeld
namespace Go.Sx
open Go

/-! ### Readers first: the orders' law with 'nothing that was there has changed' in the place of a fixed condition -/
section
variable {P : Program} {ops : Array Oper} {Q : Exit → Act → World → Prop} {md : Region.Mode}

def YieldsE (P : Program) (ops : Array Oper) (pu : Bool) (o : Oper) (v : Value) (a : Act) (w : World) : Prop :=
  (Region.wanted o (yielded ops a.tmps) = true ∧ ∀ w2, (pu = true ∨ Ext w w2) → (execOp a.eval o).run P w2 = .ok (.value v) w2) ∨
  (Region.wanted o (yielded ops a.tmps) = false ∧ v = undef)

theorem Ext.refl (w : World) : Ext w w := RowKit.Below.refl _ _
theorem Ext.trans {a b c : World} (h : Ext a b) (k : Ext b c) : Ext a c := RowKit.Below.trans h (k.mono h.size)

theorem YieldsE.wpOp {pu : Bool} {i : Nat} {o : Oper} {v : Value} {a : Act} {w : World} (hi : ops[i]? = some o) (hy : YieldsE P ops pu o v a w)
    {K : Act → World → Prop} (h : K (a.put o.dst v) w) : wpOp P ops Q i K a w := by
  unfold Go.wpOp
  simp only [hi]
  rcases hy with ⟨hw, hv⟩ | ⟨hw, rfl⟩
  · simp only [hw, if_true, Oper.wp, hv w (.inr (Ext.refl w)), Oper.upon]; exact .inl h
  · simp only [hw, Bool.false_eq_true, if_false]; exact h
theorem YieldsE.of_same {pu : Bool} {o : Oper} {v : Value} {a a' : Act} {w : World} (hy : YieldsE P ops pu o v a w) (he : execOp a'.eval o = execOp a.eval o)
    (hw : Region.wanted o (yielded ops a'.tmps) = Region.wanted o (yielded ops a.tmps)) : YieldsE P ops pu o v a' w := by
  unfold YieldsE at *
  rw [he, hw]
  exact hy
theorem YieldsE.ext {pu : Bool} {o : Oper} {v : Value} {a : Act} {w w2 : World} (hy : YieldsE P ops pu o v a w) (e : pu = true ∨ Ext w w2) : YieldsE P ops pu o v a w2 :=
  hy.imp (fun ⟨h1, h2⟩ => ⟨h1, fun w3 h3 => h2 w3 (by
    rcases h3 with h3 | h3
    · exact .inl h3
    · exact e.imp id (fun e => e.trans h3))⟩) id

theorem wpOp_putE {pu : Bool} {j : Nat} {oi oj : Oper} {v : Value} {w0 : World} (hj : ops[j]? = some oj) (hap : oi.apart ops oj = true)
    (hsi : ∀ cs b, oi.op ≠ .select cs b) (hsj : ∀ cs b, oj.op ≠ .select cs b)
    (hQ : ∀ c a w, Q (.panic c) (a.put oi.dst v) w → Q (.panic c) a w) {K : Act → World → Prop} {a : Act} {w : World}
    (hy : YieldsE P ops pu oi v a w0) (h : wpOp P ops Q j K (a.put oi.dst v) w) :
    wpOp P ops Q j (fun a' w' => YieldsE P ops pu oi v a' w0 ∧ K (a'.put oi.dst v) w') a w := by
  obtain ⟨h1, h2, h3⟩ := Oper.apart_spec hap
  have keep : ∀ (a : Act), YieldsE P ops pu oi v a w0 → ∀ u, YieldsE P ops pu oi v (a.put oj.dst u) w0 := fun a hy u =>
    hy.of_same (execOp_put oi hsi a oj.dst u h3) (wanted_put oi a oj.dst u h3)
  have keepD : ∀ d, YieldsE P ops pu oi v { a with defers := d :: a.defers } w0 := fun d => hy.of_same rfl rfl
  unfold wpOp at *
  simp only [hj] at *
  rw [wanted_put oj a oi.dst v h1] at h
  split
  · rename_i hw
    simp only [hw, if_true] at h
    rcases h with h | ⟨hasks, hlets⟩
    case inr => exact .inr ⟨by unfold Oper.asks at *; rw [execOp_put oj hsj a oi.dst v h1] at hasks; exact hasks, hlets⟩
    refine .inl ?_
    unfold Oper.wp at *
    rw [execOp_put oj hsj a oi.dst v h1] at h
    generalize (execOp a.eval oj).run P w = r at *
    cases r with
    | ok n w' =>
      cases n <;> simp only [Oper.upon] at h ⊢
      case value u => exact ⟨keep a hy u, by rw [← Act.put_comm a v u h2]; exact h⟩
      case skip => exact ⟨keep a hy _, by rw [← Act.put_comm a v undef h2]; exact h⟩
      case defer d =>
        refine ⟨keep _ (keepD d) _, ?_⟩
        rw [← Act.put_comm _ v undef h2, ← Act.put_defers]
        exact h
      case enter f args =>
        refine Calls.mono h fun e w'' he => ?_
        cases e with
        | returned u => exact ⟨keep a hy u, by rw [← Act.put_comm a v u h2]; exact he⟩
        | panicked c => exact hQ _ _ _ he
        | outgrown => exact he
      case row row args => exact Rows.mono h fun u w'' he => ⟨keep a hy u, by rw [← Act.put_comm a v u h2]; exact he⟩
    | halt x w' =>
      cases x <;> simp only [Oper.upon] at h ⊢
      case panic u => exact hQ _ _ _ h
  · rename_i hw
    simp only [hw] at h
    exact ⟨keep a hy _, by rw [← Act.put_comm a v undef h2]; exact h⟩

/-- an operation that may write what was there -/
def hard (o : Oper) : Bool := !(isR o.op || isA o.op || (match o.op with
  | .call ⟨.value _, _, _⟩ => true
  | _ => false))

/-- Whatever order is picked from here on; what is not hard leaves all that was there. -/
def wpAnyE (P : Program) (md : Region.Mode) (ops : Array Oper) (Q : Exit → Act → World → Prop) : Nat → Array Bool → Act → World → Prop
  | 0, listed, a, w => Region.ready md ops listed = [] ∧ Q .normal a w
  | fuel + 1, listed, a, w =>
    (Region.ready md ops listed = [] → Q .normal a w) ∧
    ∀ i ∈ Region.ready md ops listed, wpOp P ops Q i (fun a' w' => ((∀ o, ops[i]? = some o → hard o = false) → Ext w w') ∧ wpAnyE P md ops Q fuel (listed.setIfInBounds i true) a' w') a w

theorem wpAny_of_E : ∀ (fuel : Nat) (listed : Array Bool) (a : Act) (w : World), wpAnyE P md ops Q fuel listed a w → wpAny P md ops Q fuel listed a w
  | 0, _, _, _, h => h
  | fuel + 1, _, _, _, h => ⟨h.1, fun i hi => wpOp_mono (fun a' w' h' => wpAny_of_E fuel _ a' w' h'.2) (h.2 i hi)⟩

theorem wpAnyE_first {pu : Bool} {i : Nat} {oi : Oper} {v : Value} (hi : ops[i]? = some oi) (hsel : ∀ (j : Nat) (o : Oper) cs b, ops[j]? = some o → o.op ≠ .select cs b)
    (hQ : ∀ c a w, Q (.panic c) (a.put oi.dst v) w → Q (.panic c) a w) (blk : Nat → Prop) (hblk : ∀ j, blk j → ∃ oj e, ops[j]? = some oj ∧ e ∈ oj.after ∧ Region.binds md e = true ∧ (e.on = i ∨ blk e.on)) :
    ∀ (fuel : Nat) (listed : Array Bool) (a : Act) (w : World), (∀ j, blk j → listed.getD j false = false) →
      (∀ j oj, ops[j]? = some oj → j ≠ i → listed.getD j true = false → ¬ blk j → oi.apart ops oj = true ∧ (pu = true ∨ hard oj = false)) →
      i ∈ Region.ready md ops listed → YieldsE P ops pu oi v a w →
      wpAnyE P md ops Q fuel (listed.setIfInBounds i true) (a.put oi.dst v) w → wpAnyE P md ops Q (fuel + 1) listed a w := by
  intro fuel
  induction fuel with
  | zero =>
    intro listed a w _ _ hr hy H
    refine ⟨fun h => (by rw [h] at hr; cases hr), fun j hj => ?_⟩
    by_cases hji : j = i
    · subst hji; exact hy.wpOp hi ⟨fun _ => Ext.refl w, H⟩
    · have := ready_mono hj hji
      rw [H.1] at this
      cases this
  | succ fuel ih =>
    intro listed a w hbl hfree hr hy H
    refine ⟨fun h => (by rw [h] at hr; cases hr), fun j hj => ?_⟩
    by_cases hji : j = i
    · subst hji; exact hy.wpOp hi ⟨fun _ => Ext.refl w, H⟩
    · have h1 := H.2 j (ready_mono hj hji)
      obtain ⟨hjun, oj, hoj, hall⟩ := mem_ready.1 hj
      have hnot : ¬ blk j := fun hb => by
        obtain ⟨oj', e, ho', he, hbi, hor⟩ := hblk j hb
        rw [hoj] at ho'; injection ho' with ho'; subst ho'
        have h1 := hall e he hbi
        rcases hor with heq | hb2
        · have h0 := (mem_ready.1 hr).1
          rw [heq] at h1
          rcases Nat.lt_or_ge i listed.size with h' | h'
          · simp [h'] at h0 h1; rw [h0] at h1; cases h1
          · simp [Array.getElem?_eq_none h'] at h1
        · rw [hbl _ hb2] at h1; cases h1
      have hfj := hfree j oj hoj hji hjun hnot
      have h2 := wpOp_putE hoj hfj.1 (fun cs b => hsel i oi cs b hi) (fun cs b => hsel j oj cs b hoj) hQ hy h1
      have hbl' : ∀ k, blk k → (listed.setIfInBounds j true).getD k false = false := fun k hk => by
        rw [getD_set_ne false (fun e => (by subst e; exact hnot hk))]; exact hbl k hk
      have hfree' : ∀ k ok, ops[k]? = some ok → k ≠ i → (listed.setIfInBounds j true).getD k true = false →
          ¬ blk k → oi.apart ops ok = true ∧ (pu = true ∨ hard ok = false) := fun k ok hk hki hun hno => by
        refine hfree k ok hk hki ?_ hno
        by_cases hjk : j = k
        · subst hjk; exact hjun
        · rw [getD_set_ne true hjk] at hun; exact hun
      refine wpOp_mono (fun a' w' h3 => ?_) h2
      have hext : hard oj = false → Ext w w' := fun hf => h3.2.1 (fun o ho => by rw [hoj] at ho; injection ho with ho; subst ho; exact hf)
      refine ⟨fun hh => hext (hh oj hoj), ih (listed.setIfInBounds j true) a' w' hbl' hfree' (ready_mono hr (Ne.symm hji)) (h3.1.ext (hfj.2.imp id hext)) ?_⟩
      rw [Array.setIfInBounds_comm _ _ hji]
      exact h3.2.2
end

/-! ### An operation that only makes a block -/
section
variable {P : Program} {τ : Tab} {B n nx : Nat} {l : Env} {H : Hp} {iv : Iv} {w w' : World} {ρ : Nat → Val} {a : Act}

/-- whatever the world, the operation makes the block obj and hands back mk of its number -/
def AL (P : Program) (o : Oper) (a : Act) (mk : Nat → Value) (obj : Obj) : Prop :=
  ∀ w : World, (execOp a.eval o).run P w = .ok (.value (mk w.heap.size)) (w.alloc obj)

theorem AL.uniq {o : Oper} {mk mk' : Nat → Value} {obj obj' : Obj} (h : AL P o a mk obj) (h' : AL P o a mk' obj') : obj = obj' ∧ mk = mk' := by
  have key : ∀ w : World, mk w.heap.size = mk' w.heap.size ∧ w.alloc obj = w.alloc obj' := fun w => by
    have := (h w).symm.trans (h' w)
    injection this with h1 h2
    injection h1 with h1
    exact ⟨h1, h2⟩
  refine ⟨?_, funext fun g => ?_⟩
  · have := (key default).2
    have h2 := congrArg (fun w : World => w.heap[(default : World).heap.size]?) this
    simp only [heap_alloc_new] at h2
    injection h2
  · have := (key { (default : World) with heap := Array.replicate g default }).1
    simpa using this

theorem sxOp_alloc (hτ : TabOK P τ) {dr : Bool} {o : Oper} {K : SV → Hp → Nat → Iv → World → Prop} (h : sxOp dr P τ B o l H nx iv w K) (sat : Sat n l H nx iv B w ρ a w') (hk : isA o.op = true) :
    ∃ b v mk obj, K v ((nx, b) :: H) (nx + 1) iv w ∧ b ≠ .dead ∧ b.scopd nx ∧ v.sc (nx + 1) ∧ (∀ g, v.den (upd ρ nx ⟨g, 0, false⟩) = mk g) ∧ (∀ g w2, w2.heap[g]? = some obj → b.fits ρ ⟨g, 0, false⟩ w2) ∧ AL P o a mk obj := by
  obtain ⟨dst, op, ty, pos, after, guard⟩ := o
  unfold sxOp at h
  split at h <;> first | (exact False.elim h) | (rename_i hop; simp only at hop; subst hop)
  all_goals first | (exact absurd hk Bool.false_ne_true) | skip
  -- alloc
  · rename_i t
    split at h
    · rename_i sz ag by_ ze tag ik e al fs hti
      have hK := valsK_spec h
      refine ⟨_, _, fun g => .pointer (some ⟨g, 0, none⟩), .cells ze.toArray t, hK, by simp, (fun c hc => by obtain ⟨v, _, rfl⟩ := List.mem_map.1 hc; trivial), by simp [SV.sc, At.sc], fun g => by simp [SV.den, At.den], fun g w2 hg => ⟨rfl, by rw [map_v_den]; exact hg⟩, fun w => ?_⟩
      obtain ⟨z, hz1, hz2⟩ := (hτ t _ hti).zeroV w
      simp only at hz2
      have hzz : z.cells = ze.toArray := by apply Array.ext'; simpa using hz2
      simp [execOp, Instr.alloc, hz1, newVar, newRow, hzz]
    · exact h.elim
  -- box
  · rename_i t x
    obtain ⟨v, h1, hv, hs⟩ := wEv_spec sat h
    obtain ⟨cs, hK, hcells, hsc⟩ := cellsK_spec h1
    refine ⟨_, _, fun g => .pointer (some ⟨g, 0, none⟩), .cells (cs.map (At.den ρ)).toArray t, hK, by simp, hsc nx hs, by simp [SV.sc, At.sc], fun g => by simp [SV.den, At.den], fun g w2 hg => ⟨rfl, hg⟩, fun w => ?_⟩
    simp [execOp, Instr.box, hv, newVar, newRow, hcells ρ]
  -- buildSlice
  · rename_i t m parts
    split at h
    · rename_i sz ag by_ ze tag ik e al fs hti
      have ht := hτ t _ hti
      split at h
      · rename_i htag
        have hu := ht.i4 (beq_t htag)
        simp only at hu
        split at h
        · rename_i sz' ag' by' ze' tag' ik' e' al' fs' hte
          have hte := hτ e _ hte
          obtain ⟨inf, z, hi, hsz, hby, hz, hzc⟩ := hte.info
          have hzl := hte.zlen
          simp only at hsz hby hzc hzl
          split at h
          · rename_i hle
            have hle := Nat.le_of_ble_eq_true hle
            have h0 := valsK_spec h
            obtain ⟨cs', hK, hcs, hlen, hfill⟩ := partsK_spec sat (placeF := fun i => some (i * inf.size, inf.size)) (fun i k hk => ⟨i * sz', sz', hk, by rw [hsz]⟩) h0
              (fun c hc => by obtain ⟨v, _, rfl⟩ := List.mem_map.1 hc; trivial)
            rw [map_v_den] at hfill
            have hzarr : z.cells = ze'.toArray := by apply Array.ext'; simpa using hzc
            have hmade : ((List.replicate m ze').flatten).toArray = madeCells z.cells (m * inf.size) := by
              rw [hzarr, hsz, ← hzl]
              exact (made_many ze' m).symm
            refine ⟨_, _, fun g => .slice (some ⟨g, 0, none⟩) m m, .cells (cs'.map (At.den ρ)).toArray e, hK, by simp, hcs, by simp [SV.sc, At.sc], fun g => by simp [SV.den, At.den], fun g w2 hg => ⟨rfl, hg⟩, fun w => ?_⟩
            simp only [execOp]
            refine run_v ?_
            rw [hmade] at hfill
            by_cases hpos : m * inf.size = 0
            · have hfill' : Instr.fill (fun i => some (i * inf.size, inf.size)) (madeCells z.cells 0) (parts.toList.map fun p => (p.1, a.eval p.2)) = some (cs'.map (At.den ρ)).toArray := by rw [hpos] at hfill; exact hfill
              have e0 : madeCells z.cells 0 = #[] := by simp [madeCells]
              rw [e0] at hfill'
              have er : Array.range 0 = #[] := rfl
              simp [Instr.buildSlice, run_underlying hu, sizeOf, typeInfo, zeroValue, hi, hz, hpos, newRow, hfill', er]
            · exact run_buildSlice w t e m _ _ inf z hu hi hz (by rw [hsz]; omega) hpos (by rw [← hfill]; simp [madeCells])
          · exact h.elim
        · exact h.elim
      · exact h.elim
    · exact h.elim
  -- makeSlice
  · rename_i t x y
    obtain ⟨v, h1, hv, hvs⟩ := wEv_spec sat h
    obtain ⟨u, h2, hu, hus⟩ := wEv_spec sat h1
    clear hvs hus
    unfold makeK at h2
    split at h2
    · rename_i k1 a1 k2 b1
      split at h2
      · rename_i sz ag by_ ze tag ik e al fs hti
        have ht := hτ t _ hti
        split at h2
        · rename_i htag
          have hut := ht.i4 (beq_t htag)
          simp only at hut
          split at h2
          · rename_i sz' ag' by' ze' tag' ik' e' al' fs' hte
            have hte := hτ e _ hte
            obtain ⟨inf, z, hi, hsz, hby, hz, hzc⟩ := hte.info
            simp only at hsz hby hzc
            obtain ⟨m, c, rfl, rfl, hmc, hbytes, h63, h3⟩ := h2
            have hb' : (inf.bytes : Int) * (c : Int) ≤ 281474976710656 := by
              rw [hby]
              have hb2 : ((by' * c : Nat) : Int) ≤ 281474976710656 := by omega
              rwa [Int.natCast_mul] at hb2
            have hrun := fun w : World => run_make (P := P) w t e inf z hut hi hz k1 k2 (m : Int) (c : Int) (by omega) (by omega) hb' (by omega)
            simp only [Int.toNat_natCast] at hrun
            have hzl := hte.zlen
            simp only at hzl
            have hzarr : z.cells = ze'.toArray := by apply Array.ext'; simpa using hzc
            have fin : ∀ cs : List Value, cs.toArray = madeCells z.cells (c * inf.size) → newK (.arr e cs) H nx (fun H' nx' => K (.o (.s nx 0 m c)) H' nx' iv w) →
                ∃ b v mk obj, K v ((nx, b) :: H) (nx + 1) iv w ∧ b ≠ .dead ∧ b.scopd nx ∧ v.sc (nx + 1) ∧ (∀ g, v.den (upd ρ nx ⟨g, 0, false⟩) = mk g) ∧ (∀ g w2, w2.heap[g]? = some obj → b.fits ρ ⟨g, 0, false⟩ w2) ∧
                  AL P ⟨dst, .makeSlice t x y, ty, pos, after, guard⟩ a mk obj := by
              intro cs hcs hK
              refine ⟨_, _, fun g => .slice (some ⟨g, 0, none⟩) m c, .cells cs.toArray e, hK, by simp, trivial, by simp [SV.sc, At.sc], fun g => by simp [SV.den, At.den], fun g w2 hg => ⟨rfl, hg⟩, fun w => ?_⟩
              simp only [execOp, hv, hu]
              refine run_v ?_
              rw [show SV.den ρ (.o (.v (.int k1 m))) = .int k1 m from rfl, show SV.den ρ (.o (.v (.int k2 c))) = .int k2 c from rfl, hrun w, hcs]
            split at h3
            · rename_i z0
              refine fin _ ?_ h3
              have : inf.size = 1 := by rw [hsz, ← hzl]; rfl
              rw [this, Nat.mul_one, hzarr, made_one]
            · refine fin _ ?_ h3
              rw [hsz, ← hzl, hzarr, made_many]
          · exact h2.elim
        · exact h2.elim
      · exact h2.elim
    · exact h2.elim
end
end Go.Sx
