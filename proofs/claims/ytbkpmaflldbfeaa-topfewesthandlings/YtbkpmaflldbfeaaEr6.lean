/- A part of the proof of TopFewestHandlings: contracts of functions of package erection, part 6. Their conditions stand in the theorems. -/
import Derived.Test.YtbkpmaflldbfeaaEr5
namespace Go.Er
open Go Go.Sx Go.Proofs

def Sml (ts : List Tk) : Prop := ts.length ≤ 8 ∧ ∀ t ∈ ts, t.needs.length ≤ 30
def InRange (ts : List Tk) : Prop := ∀ t ∈ ts, ∀ k ∈ t.needs, 0 ≤ k ∧ k < ts.length

/-- a row of what was there is read whole -/
theorem TasksB.load {w w1 : World} {B : Nat} {a : Option Addr} {n : Nat} {ts : List Tk} (h : TasksB w B a n ts) (k : Bel B w w1) {j : Nat} {t : Tk} (ht : ts[j]? = some t) :
    ∃ ad, a = some ad ∧ ∀ (H : Hp) (nx : Nat) (iv : Iv) (ρ : Nat → Val) w', Rel H nx iv B w1 ρ w' → ∀ i x, t.cells[i]? = some x → w'.cell? ((ad.add (j * 6)).add i) = some x := by
  obtain ⟨ad, h1, h2⟩ := h.cell j t ht
  exact ⟨ad, h1, fun H nx iv ρ w' r i x hx => ((h2 i x hx).bel k).rel ρ w' r⟩

end Go.Er
namespace Go.Sx
open Go Go.Er Go.Proofs
theorem Rel.boxNews {H : Hp} {nx : Nat} {iv : Iv} {B : Nat} {w w' : World} {ρ : Nat → Val} (r : Rel H nx iv B w ρ w') {id t : Nat} {news : List Value} (h : getH H id = some (.box t (news.map At.v))) :
    ∀ (j : Nat) x, news[j]? = some x → w'.cell? ((⟨(ρ id).g, 0, none⟩ : Addr).add j) = some x := by
  intro j x hx
  rw [add_zero_addr]
  exact (r.cellBox h (i := j) (x := .v x) (by simp [hx])).2
end Go.Sx
namespace Go.Er
open Go Go.Sx Go.Proofs
theorem rowIv_grow {H : Hp} {nx : Nat} {B : Nat} {w w' w2 : World} {ρ : Nat → Val} {rv : List Value} {us : List (List Int)} (hR : RowsI w B rv us) (r : Rel H nx (rowIv rv) B w ρ w') {k : Nat} {v v' : Value} (hv : v ∈ rv) (hsz : w'.heap.size ≤ w2.heap.size)
    (hob : ∀ g, v'.ownBlock = some g → g < w2.heap.size ∧ (v.ownBlock = some g ∨ g = w'.heap.size)) {lo hi : Nat} (hm : (lo, hi) ∈ rowIv (rv.set k v')) :
    hi ≤ w2.heap.size ∧ ∀ id b, getH H id = some b → (ρ id).nil = false → ¬ (lo ≤ (ρ id).g ∧ (ρ id).g < hi) := by
  obtain ⟨x, hx, hg, rfl⟩ := rowIv_mem.1 hm
  rcases List.mem_or_eq_of_mem_set hx with hx | rfl
  · have := hR.size hx hg
    have := r.size
    exact ⟨by omega, fun id b hb hn he => rowIv_not r hx hg id b hb hn (by omega)⟩
  · obtain ⟨h1, h2⟩ := hob _ hg
    refine ⟨by omega, fun id b hb hn he => ?_⟩
    rcases h2 with h2 | h2
    · exact rowIv_not r hv h2 id b hb hn (by omega)
    · have := (r.low id b hb hn).2
      omega

theorem row_form {w : World} {B e sz m : Nat} {v : Value} {xs : List Value} (h : w.ownsRow B e sz v m xs) : ∃ a c, v = .slice a m c := by
  rcases h.2 with ⟨rfl, rfl⟩ | ⟨g, cap, cur, rfl, _⟩
  · exact ⟨none, 0, rfl⟩
  · exact ⟨_, _, rfl⟩

theorem users_c (a : Option Addr) (n c : Nat) (ts : List Tk) (w : World) (hT : TasksB w w.heap.size a n ts) (hS : Sml ts) (hN : InRange ts) :
    Con Try.prog 28 #[.slice a n c] w (Ret w fun v w2 => UsersB w2 w.heap.size w2.heap.size v (usersF ts) ∧ (usersF ts).length = ts.length ∧ ∀ u ∈ usersF ts, u.length ≤ 240) := by
  have hle := hT.le
  have hlen := hT.len
  have hn8 := hS.1
  refine ⟨ent28, calls_f Try.func28 (by rfl) (by simp) (by rfl) ?_⟩
  conv => whnf
  refine ⟨n, n, rfl, rfl, Nat.le_refl _, by omega, by omega, ?_⟩
  conv => whnf
  refine ⟨Nat × List Value × List (List Int) × World, fun x => ⟨[(3, .o (.s 0 0 n n)), (11, .o (.v (.slice a n c))), (12, .o (.v (.int .i64 n))), (13, .o (.v (.int .i64 x.1)))],
      [(0, .arr 23 x.2.1)], 1, rowIv x.2.1, x.2.2.2⟩, fun x => n - x.1,
    fun x => x.1 ≤ n ∧ Bel w.heap.size w x.2.2.2 ∧ x.2.2.1.length = n ∧ RowsI x.2.2.2 w.heap.size x.2.1 x.2.2.1 ∧ (∀ u ∈ x.2.2.1, u.length ≤ 30 * x.1) ∧ usersF ts = usersGo (ts.drop x.1) x.1 x.2.2.1, ?_, ?_⟩
  · intro ρ w' r
    have hiv : rowIv (List.replicate n (Value.slice none 0 0)) = [] := by
      unfold rowIv
      rw [List.filterMap_eq_nil_iff]
      intro v hv
      rw [List.mem_replicate] at hv
      rw [hv.2]; rfl
    refine ⟨(0, List.replicate n (Value.slice none 0 0), List.replicate n [], w'), ⟨by simp, r.bel, by simp, ⟨by simp, fun j v u hv hu => ?_, fun j j' v v' g hv hv' hg => ?_⟩, by simp, by simp [usersF, hlen]⟩,
      Sub.gen [] r ⟨rfl, trivial⟩ ⟨rfl, rfl, rfl, rfl, trivial⟩ (by simp [ScH, Blk.scopd]) (by simp [ScE, SV.sc, At.sc]) (by rfl) (by rw [hiv]; simp)⟩
    · simp only [List.getElem?_replicate] at hv hu
      split at hv
      · rename_i hj
        rw [if_pos hj] at hu
        injection hv with hv; injection hu with hu; subst hv; subst hu
        exact World.ownsRow_nil _ _ _ _
      · cases hv
    · simp only [List.getElem?_replicate] at hv
      split at hv
      · injection hv with hv; subst hv; cases hg
      · cases hv
  · rintro ⟨i, rv, us, w1⟩ ⟨hi, hw, hus, hR, hbd, hF⟩
    dsimp only at hi hw hus hR hbd hF ⊢
    conv => whnf
    refine BrS.mk (fun h => ?_) (fun h => ?_)
    · have h : i < n := by simpa using h
      obtain ⟨t, ht⟩ : ∃ t, ts[i]? = some t := ⟨_, List.getElem?_eq_getElem (by omega)⟩
      obtain ⟨ad, ha, hload⟩ := hT.load hw ht
      have hmem := List.mem_of_getElem? ht
      have hnn := hT.needs i t ht
      have hnl := hS.2 t hmem
      have hdrop : ts.drop i = t :: ts.drop (i + 1) := by
        have hlt : i < ts.length := by omega
        rw [List.drop_eq_getElem_cons hlt]
        rw [List.getElem?_eq_getElem hlt] at ht
        injection ht with ht
        rw [ht]
      rw [hdrop, usersGo] at hF
      conv => whnf
      refine ⟨ad, ha, ⟨by omega, by omega⟩, ?_⟩
      conv => whnf
      refine ⟨t.cells, rfl, by simpa using hload _ _ _, ?_⟩
      conv => whnf
      refine ⟨Nat × List Value × List (List Int) × World, fun x => ⟨[(3, .o (.s 0 0 n n)), (11, .o (.v (.slice a n c))), (12, .o (.v (.int .i64 n))), (13, .o (.v (.int .i64 i))), (4, .o (.v (.int .i64 i))),
          (19, .o (.v (.slice t.na t.nn t.nc))), (20, .o (.v (.int .i64 t.nn))), (21, .o (.v (.int .i64 x.1)))],
          [(0, .arr 23 x.2.1)], 1, rowIv x.2.1, x.2.2.2⟩, fun x => t.nn - x.1,
        fun x => x.1 ≤ t.nn ∧ Bel w.heap.size w x.2.2.2 ∧ x.2.2.1.length = n ∧ RowsI x.2.2.2 w.heap.size x.2.1 x.2.2.1 ∧ (∀ u ∈ x.2.2.1, u.length ≤ 30 * i + x.1) ∧
          usersF ts = usersGo (ts.drop (i + 1)) (i + 1) (addAll i (t.needs.drop x.1) x.2.2.1), ?_, ?_⟩
      · intro ρ w' r
        exact ⟨(0, rv, us, w'), ⟨by simp, hw.tr r.bel, hus, hR.rel r, by simpa using hbd, by simpa using hF⟩,
          Sub.gen [] r ⟨rfl, trivial⟩ ⟨rfl, rfl, rfl, rfl, rfl, rfl, rfl, rfl, trivial⟩ (by simp [ScH, Blk.scopd]) (by simp [ScE, SV.sc, At.sc]) (by rfl) (by simp)⟩
      · rintro ⟨j, rv, us, w1⟩ ⟨hj, hw, hus, hR, hbd, hF⟩
        dsimp only at hj hw hus hR hbd hF ⊢
        conv => whnf
        refine BrS.mk (fun h => ?_) (fun h => ?_)
        · have h : j < t.nn := by simpa using h
          have hnlen := hnn.len
          obtain ⟨k, hk⟩ : ∃ k, t.needs[j]? = some k := ⟨_, List.getElem?_eq_getElem (by omega)⟩
          obtain ⟨ad2, ha2, hc2⟩ := hnn.cell _ _ hk
          obtain ⟨hk0, hk1⟩ := hN t hmem k (List.mem_of_getElem? hk)
          obtain ⟨k, rfl⟩ := Int.eq_ofNat_of_zero_le hk0
          have hkn : k < n := by omega
          have hdrop2 : t.needs.drop j = (k : Int) :: t.needs.drop (j + 1) := by
            have hlt : j < t.needs.length := by omega
            rw [List.drop_eq_getElem_cons hlt]
            rw [List.getElem?_eq_getElem hlt] at hk
            injection hk with hk
            rw [hk]
          rw [hdrop2, addAll] at hF
          obtain ⟨v, hv⟩ : ∃ v, rv[k]? = some v := ⟨_, List.getElem?_eq_getElem (by rw [hR.len]; omega)⟩
          obtain ⟨u, hu⟩ : ∃ u, us[k]? = some u := ⟨_, List.getElem?_eq_getElem (by omega)⟩
          have hul := hbd u (List.mem_of_getElem? hu)
          conv => whnf
          refine ⟨ad2, ha2, ⟨by omega, by omega⟩, ?_⟩
          conv => whnf
          refine ⟨_, (by simpa using (hc2.bel hw).rel), ?_⟩
          conv => whnf
          refine ⟨⟨by omega, by omega⟩, ?_⟩
          conv => whnf
          refine ⟨v, by simpa using hv, ?_⟩
          conv => whnf
          refine .inr (opS_append hτ (Nat.le_refl _) (xs := u.map (Value.int .i64)) (news := [.int .i64 (i : Int)]) (m := u.length) (k := 1) (by rfl) (by rfl) (by decide) (by rfl) (by rfl) (fun ρ w' r => ⟨(hR.rel r).own k v u hv hu, fun g hg => rowIv_not r (List.mem_of_getElem? hv) hg⟩) (by rfl) (by simp [Value.oneCell']) (by unfold maxLen; omega) (by omega)
            (fun ρ w' r => .inr ⟨_, _, rfl, fun j x hx => ?_⟩) (fun v' w2 => rowIv (rv.set k v')) (fun ρ w' v' w2 r hsz hob lo hi' hm => ?_) (fun ρ w' v' w2 r h1 h2 h3 => ?_))
          · exact r.boxNews (id := 1) rfl j x hx
          · exact rowIv_grow hR r (List.mem_of_getElem? hv) hsz hob hm
          · obtain ⟨a3, c3, rfl⟩ := row_form h1
            have hR2 := (hR.rel r).grow hv hu h1 h2 h3
            have hb2 : Bel w.heap.size w w2 := (hw.tr r.bel).tr (Bel.grown h2 (fun g hg => (hR.size (List.mem_of_getElem? hv) hg).1) (by have := r.size; have := hw.size; omega))
            have hrvl : rv.length = n := by rw [hR.len]; exact hus
            conv => whnf
            refine ⟨⟨by omega, by omega⟩, ?_⟩
            conv => whnf
            refine ⟨by simp [hrvl]; omega, rv.set k (.slice a3 (u.length + 1) c3), by simpa using splice_one rv k _ (by omega), ?_⟩
            conv => whnf
            refine ⟨(j + 1 : Nat), by rw [wrap64] <;> omega, ?_⟩
            conv => whnf
            intro ρ3 w3 r3
            refine ⟨(j + 1, rv.set k (.slice a3 (u.length + 1) c3), us.modify k (fun u => u ++ [(i : Int)]), w3), ⟨by simp; omega, hb2.tr r3.bel, by simp [hus], hR2.rel r3, fun u' hu' => ?_, by simpa using hF⟩,
              Sub.gen [] r3 ⟨rfl, trivial⟩ ⟨rfl, rfl, rfl, rfl, rfl, rfl, rfl, rfl, trivial⟩ (by simp [ScH, Blk.scopd]) (by simp [ScE, SV.sc, At.sc]) (by rfl) (by simp), by simp; omega⟩
            obtain ⟨q, hq⟩ := List.mem_iff_getElem?.1 hu'
            simp only [List.getElem?_modify] at hq
            by_cases hkq : k = q
            · subst hkq
              rw [hu] at hq
              simp at hq
              subst hq
              simp
              omega
            · have hq : us[q]? = some u' := by simpa [hkq] using hq
              have := hbd u' (List.mem_of_getElem? hq)
              simp
              omega
        · have hjn : j = t.nn := by have : ¬ j < t.nn := by simpa using h
                                    omega
          have hnlen := hnn.len
          have hd : t.needs.drop j = [] := by rw [List.drop_eq_nil_iff]; omega
          rw [hd, addAll] at hF
          conv => whnf
          refine ⟨(i + 1 : Nat), by rw [wrap64] <;> omega, ?_⟩
          conv => whnf
          intro ρ3 w3 r3
          exact ⟨(i + 1, rv, us, w3), ⟨by simp; omega, hw.tr r3.bel, hus, hR.rel r3, fun u' hu' => by have := hbd u' hu'; simp; omega, hF⟩,
              Sub.gen [] r3 ⟨rfl, trivial⟩ ⟨rfl, rfl, rfl, rfl, trivial⟩ (by simp [ScH, Blk.scopd]) (by simp [ScE, SV.sc, At.sc]) (by rfl) (by simp), by simp; omega⟩
    · have hin : i = n := by have : ¬ i < n := by simpa using h
                             omega
      have hd : ts.drop i = [] := by rw [List.drop_eq_nil_iff]; omega
      rw [hd, usersGo] at hF
      conv => whnf
      intro ρ3 w3 r3
      have hR3 := hR.rel r3
      have hrvl : rv.length = n := by rw [hR.len]; exact hus
      refine ⟨_, rfl, hw.tr r3.bel, ⟨(ρ3 0).g, ?_, ?_, ?_, fun j u hu => ?_⟩, by rw [hF]; omega, fun u hu => by rw [hF] at hu; have := hbd u hu; omega⟩
      · rw [hF, hus]; rfl
      · exact (r3.low 0 _ rfl (r3.nn 0 _ rfl (by intros; simp) (by simp))).1
      · exact (r3.low 0 _ rfl (r3.nn 0 _ rfl (by intros; simp) (by simp))).2
      · rw [hF] at hu
        obtain ⟨v, hv⟩ : ∃ v, rv[j]? = some v := ⟨_, List.getElem?_eq_getElem (by rw [hR.len]; exact (List.getElem?_eq_some_iff.1 hu).1)⟩
        obtain ⟨b, c', rfl, hI⟩ := IntsI.ofRow (hR3.own j v u hv hu) (by have := hbd u (List.mem_of_getElem? hu); omega)
        exact ⟨b, c', r3.cellArr (id := 0) rfl hv, hI⟩
end Go.Er
