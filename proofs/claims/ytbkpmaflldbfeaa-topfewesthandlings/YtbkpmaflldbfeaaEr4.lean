/- A part of the proof of TopFewestHandlings: contracts of functions of package erection, part 4. Their conditions stand in the theorems. -/
import Derived.Test.YtbkpmaflldbfeaaEr3
namespace Go.Er
open Go Go.Sx Go.Proofs

theorem add_zero_addr (g j : Nat) : (⟨g, 0, none⟩ : Addr).add j = ⟨g, j, none⟩ := by
  cases j with
  | zero => rfl
  | succ j => simp [Addr.add]
theorem splice_one {α : Type} (l : List α) (k : Nat) (v : α) (h : k < l.length) : l.take k ++ [v] ++ l.drop (k + 1) = l.set k v := by
  rw [List.set_eq_take_append_cons_drop, if_pos h]; simp

def inF (bs : List Bool) (x : Int) : Bool := bs.getD x.toNat false

theorem accept1_c (k : Nat) (ad g : Addr) (m c : Nat) (bs : List Bool) (w : World) (hc : CellB w w.heap.size ad (.slice (some g) m c)) (hm : m = bs.length) (hb : ∀ (j : Nat) b, bs[j]? = some b → CellB w w.heap.size (g.add j) (.bool b)) (hk : k < m) :
    Con Try.prog 26 #[.int .i64 k, .pointer (some ad)] w (Ret w fun v _ => v = .bool (!inF bs k)) := by
  refine ⟨ent26, calls_f Try.func26 (by rfl) (by simp) (by rfl) ?_⟩
  obtain ⟨b, hb1⟩ : ∃ b, bs[k]? = some b := ⟨_, List.getElem?_eq_getElem (by omega)⟩
  conv => whnf
  refine ⟨_, hc.rel, ?_⟩
  conv => whnf
  refine ⟨g, rfl, ⟨by omega, by omega⟩, ?_⟩
  conv => whnf
  refine ⟨_, by simpa using (hb k b hb1).rel, ?_⟩
  conv => whnf
  intro ρ w' r
  refine ⟨_, rfl, r.bel, ?_⟩
  have : inF bs k = b := by simp [inF, hb1]
  rw [this]
  rfl

def acceptGo (ts : List Tk) : List Int → Nat → List Bool → Int × Int
  | [], i, _ => if i < ts.length then ((i : Int), 11) else (-1, 0)
  | x :: r, i, bs => match outB ts.length x with
    | true => ((i : Int), 6)
    | false => match inF bs x with
      | true => ((i : Int), 5)
      | false => match ((ts[x.toNat]?).map Tk.needs).getD [] |>.any (fun k => !inF bs k) with
        | true => ((i : Int), 10)
        | false => acceptGo ts r (i + 1) (bs.set x.toNat true)
def acceptF (ts : List Tk) (order : List Int) : Int × Int := acceptGo ts order 0 (List.replicate ts.length false)

theorem accept_c (a a2 : Option Addr) (n c n2 c2 : Nat) (ts : List Tk) (order : List Int) (w : World) (hT : TasksB w w.heap.size a n ts) (hO : IntsB w w.heap.size a2 n2 order)
    (hN : ∀ t ∈ ts, ∀ k ∈ t.needs, 0 ≤ k ∧ k < ts.length) (hn47 : n ≤ 140737488355328) :
    Con Try.prog 19 #[.slice a n c, .slice a2 n2 c2] w (Ret w fun v _ => v = .tuple #[.int .i64 (acceptF ts order).1, .int .i64 (acceptF ts order).2]) := by
  have hle := hT.le
  have hlen := hT.len
  have hle2 := hO.le
  refine ⟨ent19, calls_f Try.func19 (by rfl) (by simp) (by rfl) ?_⟩
  conv => whnf
  refine ⟨n, n, rfl, rfl, Nat.le_refl _, by omega, by omega, ?_⟩
  conv => whnf
  rw [show List.replicate n (Value.bool false) = (List.replicate n false).map Value.bool by simp]
  refine ⟨Nat × List Bool × World, fun x => ⟨[(0, .o (.v (.slice a n c))), (1, .o (.v (.slice a2 n2 c2))), (6, .o (.p 1 0)), (12, .o (.v (.slice a2 n2 c2))), (13, .o (.v (.int .i64 n2))), (14, .o (.v (.int .i64 x.1)))],
      [(1, .box 57 [.s 0 0 n n]), (0, .arr 4 (x.2.1.map Value.bool))], 2, [], x.2.2⟩, fun x => n2 - x.1,
    fun x => x.1 ≤ n2 ∧ Bel w.heap.size w x.2.2 ∧ x.2.1.length = n ∧ acceptF ts order = acceptGo ts (order.drop x.1) x.1 x.2.1, ?_, ?_⟩
  · intro ρ w' r
    exact ⟨(0, List.replicate n false, w'), ⟨by simp, r.bel, by simp, by simp [acceptF, hlen]⟩, Sub.reset r ⟨rfl, rfl, rfl, rfl, rfl, rfl, trivial⟩ ⟨trivial, trivial, by simp [SV.sc, At.sc], trivial, trivial, trivial, trivial⟩⟩
  · rintro ⟨i, bs, w1⟩ ⟨hi, hw, hbs, hacc⟩
    dsimp only at hi hw hbs hacc ⊢
    conv => whnf
    refine BrS.mk (fun h => ?_) (fun h => ?_)
    · have h : i < n2 := by simpa using h
      obtain ⟨x, hx1⟩ : ∃ x, order[i]? = some x := ⟨_, List.getElem?_eq_getElem (by rw [← hO.len]; omega)⟩
      obtain ⟨ad, ha, hc1⟩ := hO.cell _ _ hx1
      have hdrop : order.drop i = x :: order.drop (i + 1) := by
        have hlt : i < order.length := by rw [← hO.len]; omega
        rw [List.drop_eq_getElem_cons hlt]
        rw [List.getElem?_eq_getElem hlt] at hx1
        injection hx1 with hx1
        rw [hx1]
      conv => whnf
      refine ⟨ad, ha, ⟨by omega, by omega⟩, ?_⟩
      conv => whnf
      refine ⟨_, (by simpa using (hc1.bel hw).rel), ?_⟩
      conv => whnf
      refine ⟨(n : Int) - 1, by rw [wrap64] <;> omega, ?_⟩
      conv => whnf
      refine callE_S (callE_con (Φ := fun _ _ v _ => v = .bool (decide (0 ≤ x) && decide (x ≤ (n : Int) - 1))) (fun ρ w' r => within_c x 0 _ w') ?_)
      rintro ρ w' v w2 r he hb rfl
      conv => whnf
      refine BrS.mk (fun h1 => ?_) (fun h1 => ?_)
      · conv => whnf
        intro ρ' w3 r'
        refine ⟨_, rfl, (hw.tr hb).tr r'.bel, ?_⟩
        have : outB ts.length x = true := by rw [← hlen]; exact h1
        rw [hacc, hdrop, acceptGo, this]
        rfl
      · have h1' : outB ts.length x = false := by rw [← hlen]; exact h1
        have hr : 0 ≤ x ∧ x ≤ (n : Int) - 1 := by simpa using h1
        obtain ⟨k, rfl⟩ := Int.eq_ofNat_of_zero_le hr.1
        have hk : k < n := by omega
        obtain ⟨b, hb1⟩ : ∃ b, bs[k]? = some b := ⟨_, List.getElem?_eq_getElem (by omega)⟩
        conv => whnf
        refine ⟨⟨by omega, by omega⟩, ?_⟩
        conv => whnf
        refine ⟨.bool b, by simp [hb1], ?_⟩
        cases b with
        | true =>
          have hin : inF bs (k : Int) = true := by simp [inF, hb1]
          conv => whnf
          intro ρ' w3 r'
          refine ⟨_, rfl, (hw.tr hb).tr r'.bel, ?_⟩
          rw [hacc, hdrop, acceptGo, h1']
          simp only [hin]
          rfl
        | false =>
          have hin : inF bs (k : Int) = false := by simp [inF, hb1]
          obtain ⟨t, ht⟩ : ∃ t, ts[k]? = some t := ⟨_, List.getElem?_eq_getElem (by omega)⟩
          obtain ⟨at', hat, hct⟩ := hT.cell k t ht
          have hnn := hT.needs k t ht
          have htn : ((ts[(k : Int).toNat]?).map Tk.needs).getD [] = t.needs := by simp [ht]
          conv => whnf
          refine ⟨at', hat, ⟨by omega, by omega⟩, ?_⟩
          conv => whnf
          refine ⟨_, ((hct 5 _ rfl).bel (hw.tr hb)).rel, ?_⟩
          conv => whnf
          refine callE_S (callE_con (Φ := fun _ _ v _ => v = .bool (t.needs.any fun k => !inF bs k)) (fun ρ2 w3 r2 => ?_) ?_)
          · refine containsFunc_c t.na t.nn t.nc t.needs 26 #[.pointer (some ⟨(ρ2 1).g, 0, none⟩)] (fun k => !inF bs k) w3 (hnn.up ((hw.tr hb).tr r2.bel) (by have := r2.size; have := hb.size; have := hw.size; omega)) (fun y hy w4 hw4 => ?_)
            obtain ⟨hy0, hy1⟩ := hN t (List.mem_of_getElem? ht) y hy
            obtain ⟨y, rfl⟩ := Int.eq_ofNat_of_zero_le hy0
            have hcell := r2.cellBox (id := 1) (i := 0) rfl rfl
            refine accept1_c y _ ⟨(ρ2 0).g, 0, none⟩ n n bs w4 (hcell.up hw4 hw4.size) hbs.symm (fun j b hj => ?_) (by omega)
            have hcell2 := r2.cellArr (id := 0) (i := j) (x := .bool b) rfl (by simp [hj])
            rw [add_zero_addr]
            exact hcell2.up hw4 hw4.size
          · rintro ρ2 w3 v w4 r2 he2 hb2 rfl
            conv => whnf
            refine BrS.mk (fun h3 => ?_) (fun h3 => ?_)
            · conv => whnf
              intro ρ' w5 r'
              refine ⟨_, rfl, ((hw.tr hb).tr hb2).tr r'.bel, ?_⟩
              rw [hacc, hdrop, acceptGo, h1']
              simp only [hin, htn, h3]
              rfl
            · conv => whnf
              refine ⟨⟨by omega, by omega⟩, ?_⟩
              conv => whnf
              refine ⟨by simp [hbs]; omega, (bs.set k true).map Value.bool, ?_, ?_⟩
              · have := splice_one (bs.map Value.bool) k (.bool true) (by simp [hbs]; omega)
                simpa [List.map_set] using this
              conv => whnf
              refine ⟨(i + 1 : Nat), by rw [wrap64] <;> omega, ?_⟩
              conv => whnf
              intro ρ' w5 r'
              refine ⟨(i + 1, bs.set k true, w5), ⟨by simp; omega, ((hw.tr hb).tr hb2).tr r'.bel, by simp [hbs], ?_⟩, Sub.reset r' ⟨rfl, rfl, rfl, rfl, rfl, rfl, trivial⟩ ⟨trivial, trivial, by simp [SV.sc, At.sc], trivial, trivial, trivial, trivial⟩, by simp; omega⟩
              rw [hacc, hdrop, acceptGo, h1']
              simp only [hin, htn, h3]
              rfl
    · have hin : i = n2 := by have : ¬ i < n2 := by simpa using h
                              omega
      have hdrop : order.drop i = [] := by rw [List.drop_eq_nil_iff, ← hO.len]; omega
      rw [hdrop] at hacc
      simp only [acceptGo] at hacc
      conv => whnf
      refine BrS.mk (fun h2 => ?_) (fun h2 => ?_)
      · conv => whnf
        intro ρ' w3 r'
        refine ⟨_, rfl, hw.tr r'.bel, ?_⟩
        have : n2 < n := by simpa using h2
        rw [hacc, if_pos (by omega), hin]
        rfl
      · conv => whnf
        intro ρ' w3 r'
        refine ⟨_, rfl, hw.tr r'.bel, ?_⟩
        have : ¬ n2 < n := by simpa using h2
        rw [hacc, if_neg (by omega)]
        rfl
end Go.Er
