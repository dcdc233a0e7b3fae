/- A part of the proof of TopFewestHandlings: contracts of functions of package erection, part 14. Their conditions stand in the theorems. -/
import Derived.Test.YtbkpmaflldbfeaaEr13
import Derived.MapKept
namespace Go.Er
open Go Go.Sx Go.Proofs

/-- a map that holds just the names that were seen -/
structure MapB (w : World) (g : Nat) (seen : List ByteArray) : Prop where
  h : ∃ es clock, w.heap[g]? = some (.map es clock) ∧ (∀ x ∈ es.toList, MapKept.IsKey .string x.key ∧ x.val = .bool true) ∧ ∀ s, (∃ x ∈ es.toList, x.key = .string s) ↔ s ∈ seen
theorem MapB.keep {w w2 : World} {g : Nat} {seen : List ByteArray} (h : MapB w g seen) (hk : w2.heap[g]? = w.heap[g]?) : MapB w2 g seen := by
  obtain ⟨es, clock, h1, h2⟩ := h.h
  exact ⟨es, clock, hk.trans h1, h2⟩
theorem MapB.lt {w : World} {g : Nat} {seen : List ByteArray} (h : MapB w g seen) : g < w.heap.size := by
  obtain ⟨es, clock, h1, h2⟩ := h.h
  exact (Array.getElem?_eq_some_iff.1 h1).1
theorem MapB.rel {H : Hp} {nx B : Nat} {iv : Iv} {w w' : World} {ρ : Nat → Val} {g : Nat} {seen : List ByteArray} (h : MapB w g seen) (r : Rel H nx iv B w ρ w') (hm : (g, g + 1) ∈ iv) : MapB w' g seen :=
  h.keep (r.frm g h.lt fun id c hc hn he => r.prot g (g + 1) hm id c hc hn (by omega))
theorem MapB.ext {w w2 : World} {g : Nat} {seen : List ByteArray} (h : MapB w g seen) (he : Ext w w2) : MapB w2 g seen := h.keep (he.block g h.lt)
theorem MapB.new (w : World) : MapB (w.alloc (.map #[] 0)) w.heap.size [] := ⟨#[], 0, (MapKept.heap_alloc w _).1, by simp, by simp⟩
def seenB (s : ByteArray) (seen : List ByteArray) : Bool := seen.any (fun x => decide (x.data.toList = s.data.toList))
theorem seenB_iff {s : ByteArray} {seen : List ByteArray} : seenB s seen = true ↔ s ∈ seen := by
  unfold seenB
  rw [List.any_eq_true]
  constructor
  · rintro ⟨x, hx, he⟩
    have he := of_decide_eq_true he
    obtain ⟨⟨l⟩⟩ := x
    obtain ⟨⟨m⟩⟩ := s
    have he : l = m := he
    subst he
    exact hx
  · exact fun h => ⟨s, h, by simp⟩
theorem run_makeMap_none {P : Program} {w : World} {t : Nat} : (Instr.makeMap t none).run P w = .ok (.map (some w.heap.size)) (w.alloc (.map #[] 0)) := by
  simp [Instr.makeMap, Result.andThen]
theorem run_lookup_map {P : Program} {w : World} {mty kt et g : Nat} {seen : List ByteArray} (s : ByteArray) (hm : P.underlying mty = some (.map kt et)) (hd : P.underlying kt = some .string)
    (hz : (zeroValue et).run P w = .ok (.bool false) w) (h : MapB w g seen) : (Instr.lookup mty (.map (some g)) (.string s) false).run P w = .ok (.bool (seenB s seen)) w := by
  obtain ⟨es, clock, h1, h2, h3⟩ := h.h
  rcases MapKept.findNow_spec (d := .string) (k := .string s) trivial es.toList 0 (fun x hx => (h2 x hx).1) with ⟨h4, h5⟩ | ⟨j, e, h4, h5, h6⟩
  · have : s ∉ seen := fun hs => by obtain ⟨x, hx, hk⟩ := (h3 s).2 hs; exact h5 x hx hk
    have : seenB s seen = false := by rw [Bool.eq_false_iff, Ne, seenB_iff]; exact this
    simp [Instr.lookup, run_underlying hm, MapKept.run_getObj_map h1, MapKept.run_checkKey hd (k := .string s) trivial, MapKept.run_findKey hd h4, Result.andThen, hz, this]
  · have hmem := List.mem_of_getElem? h5
    have : s ∈ seen := (h3 s).1 ⟨e, hmem, h6⟩
    have : seenB s seen = true := seenB_iff.2 this
    simp [Instr.lookup, run_underlying hm, MapKept.run_getObj_map h1, MapKept.run_checkKey hd (k := .string s) trivial, MapKept.run_findKey hd h4, Result.andThen, (h2 e hmem).2, this]
theorem run_update_map {P : Program} {w : World} {mty kt et g : Nat} {seen : List ByteArray} (s : ByteArray) (hm : P.underlying mty = some (.map kt et)) (hd : P.underlying kt = some .string)
    (h : MapB w g seen) (hs : s ∉ seen) : ∃ o, (Instr.mapUpdate mty (.map (some g)) (.string s) (.bool true)).run P w = .ok () { w with heap := w.heap.setIfInBounds g o } ∧ MapB { w with heap := w.heap.setIfInBounds g o } g (s :: seen) := by
  obtain ⟨es, clock, h1, h2, h3⟩ := h.h
  rcases MapKept.findNow_spec (d := .string) (k := .string s) trivial es.toList 0 (fun x hx => (h2 x hx).1) with ⟨h4, h5⟩ | ⟨j, e, h4, h5, h6⟩
  · refine ⟨.map (es.push { key := .string s, val := .bool true, born := clock }) (clock + 1), ?_, es.push { key := .string s, val := .bool true, born := clock }, clock + 1, (MapKept.heap_set h1).1, fun x hx => ?_, fun s' => ?_⟩
    · simp [Instr.mapUpdate, run_underlying hm, MapKept.run_getObj_map h1, MapKept.run_checkKey hd (k := .string s) trivial, MapKept.run_findKey hd h4, MapKept.run_setObj_map _ h1, Result.andThen]
    · simp only [Array.toList_push, List.mem_append, List.mem_singleton] at hx
      rcases hx with hx | rfl
      · exact h2 x hx
      · exact ⟨trivial, rfl⟩
    · rw [Array.toList_push]
      constructor
      · rintro ⟨x, hx, hk⟩
        rcases List.mem_append.1 hx with hx | hx
        · exact List.mem_cons_of_mem _ ((h3 s').1 ⟨x, hx, hk⟩)
        · rw [List.mem_singleton] at hx
          subst hx
          injection hk with hk
          rw [hk]; simp
      · intro hs'
        rcases List.mem_cons.1 hs' with rfl | h
        · exact ⟨_, List.mem_append_right _ (List.mem_singleton.2 rfl), rfl⟩
        · obtain ⟨x, hx, hk⟩ := (h3 s').2 h
          exact ⟨x, List.mem_append_left _ hx, hk⟩
  · exact absurd ((h3 s).1 ⟨e, List.mem_of_getElem? h5, h6⟩) hs

def inB (lo hi x : Int) : Bool := decide (lo ≤ x) && decide (x ≤ hi)
def checkGo (n : Nat) : List Tk → List ByteArray → Int
  | [], _ => 0
  | t :: r, seen => match nameF t.name && nameF t.trade with
    | false => 4
    | true => match seenB t.name seen with
      | true => 5
      | false => match inB (-1) 3999 t.member && (inB 0 999 t.place && inB 0 10000 t.minutes) with
        | false => 2
        | true => match decide (listedF t.needs n = 0) with
          | true => checkGo n r (t.name :: seen)
          | false => listedF t.needs n
open Classical in
noncomputable def checkF (ts : List Tk) : Int := if checkGo ts.length ts [] = 0 then (if ∃ l, Topo ts l then 0 else 24) else checkGo ts.length ts []

theorem listedF_zero {xs : List Int} {m : Nat} (h : listedF xs m = 0) : (∀ k ∈ xs, 0 ≤ k ∧ k < m) ∧ risingB xs = true := by
  unfold listedF at h
  split at h
  · cases h
  · rename_i h1
    split at h
    · rename_i h2
      refine ⟨fun k hk => ?_, h2⟩
      have := List.any_eq_false.1 h1 k hk
      simp [outB] at this
      omega
    · cases h
theorem checkGo_zero {n : Nat} : ∀ {ts : List Tk} {seen : List ByteArray}, checkGo n ts seen = 0 → ∀ t ∈ ts, listedF t.needs n = 0 ∧ 0 ≤ t.place ∧ t.place ≤ 999
  | [], _, _, t, ht => by cases ht
  | t :: r, seen, h, u, hu => by
    unfold checkGo at h
    split at h
    · cases h
    · split at h
      · cases h
      · split at h
        · cases h
        · rename_i h1
          split at h
          · rename_i h2
            rcases List.mem_cons.1 hu with rfl | hu
            · have : inB 0 999 u.place = true := by simp at h1; exact h1.2.1
              simp [inB] at this
              exact ⟨of_decide_eq_true h2, this⟩
            · exact checkGo_zero h u hu
          · rename_i h2
            exact absurd h (of_decide_eq_false h2)

theorem check_c (a : Option Addr) (n c : Nat) (ts : List Tk) (w : World) (hT : TasksB w w.heap.size a n ts) (hS : Sml ts) :
    Con Try.prog 18 #[.slice a n c] w (Ret w fun v _ => v = .int .i64 (checkF ts)) := by
  have hle := hT.le
  have hlen := hT.len
  have hn8 := hS.1
  refine ⟨ent18, calls_f Try.func18 (by rfl) (by simp) (by rfl) ?_⟩
  conv => whnf
  refine BrS.mk (fun h => ?_) (fun h => ?_)
  · exfalso
    have : (n : Int) > 4000 := of_decide_eq_true h
    omega
  · conv => whnf
    refine ⟨fun ρ w' e r hev => ?_⟩
    refine ⟨.map (some w'.heap.size), w'.alloc (.map #[] 0), [(w'.heap.size, w'.heap.size + 1)], .inl (by simp [execOp, run_makeMap_none]), r.moved (by simp) (fun id b hb hn => (MapKept.heap_alloc w' _).2 _ (r.low id b hb hn).2) (fun lo hi hm => ?_), ?_⟩
    · simp at hm
      obtain ⟨rfl, rfl⟩ := hm
      exact ⟨by simp, fun id b hb hn he => by have := (r.low id b hb hn).2; omega⟩
    have hM0 := MapB.new w'
    have hbel0 : Bel w.heap.size w (w'.alloc (.map #[] 0)) := r.bel.tr ⟨rfl, rfl, rfl, by simp, fun k hk => (MapKept.heap_alloc w' _).2 k (by have := r.size; omega)⟩
    have hg0 := r.size
    generalize w'.alloc (.map #[] 0) = w1 at *
    generalize w'.heap.size = g at *
    clear hev
    conv => whnf
    refine ⟨Nat × List ByteArray × World, fun x => ⟨[(0, .o (.v (.slice a n c))), (3, .o (.v (.map (some g)))), (13, .o (.v (.slice a n c))), (14, .o (.v (.int .i64 n))), (15, .o (.v (.int .i64 x.1)))],
      [], 0, [(g, g + 1)], x.2.2⟩, fun x => n - x.1,
      fun x => x.1 ≤ n ∧ Bel w.heap.size w x.2.2 ∧ MapB x.2.2 g x.2.1 ∧ checkGo n ts [] = checkGo n (ts.drop x.1) x.2.1, ?_, ?_⟩
    · intro ρ w' r
      exact ⟨(0, [], w'), ⟨by simp, hbel0.tr r.bel, hM0.keep (r.nilBy.block _ hM0.lt (by simp)), by simp⟩,
        Sub.gen [] r trivial ⟨rfl, rfl, rfl, rfl, rfl, trivial⟩ (by simp [ScH]) (by simp [ScE, SV.sc, At.sc]) (by rfl) (by simp)⟩
    · rintro ⟨i, seen, w1⟩ ⟨hi, hw, hM, hF⟩
      dsimp only at hi hw hM hF ⊢
      conv => whnf
      refine BrS.mk (fun h => ?_) (fun h => ?_)
      · have h : i < n := by simpa using h
        obtain ⟨t, ht⟩ : ∃ t, ts[i]? = some t := ⟨_, List.getElem?_eq_getElem (by omega)⟩
        obtain ⟨ad, ha, hload⟩ := hT.load hw ht
        have hmem := List.mem_of_getElem? ht
        have hnn := hT.needs i t ht
        have hdrop : ts.drop i = t :: ts.drop (i + 1) := by
          have hlt : i < ts.length := by omega
          rw [List.drop_eq_getElem_cons hlt]
          rw [List.getElem?_eq_getElem hlt] at ht
          injection ht with ht
          rw [ht]
        rw [hdrop, checkGo] at hF
        conv => whnf
        refine ⟨ad, ha, ⟨by omega, by omega⟩, ?_⟩
        conv => whnf
        refine ⟨t.cells, rfl, by simpa using hload _ _ _, ?_⟩
        conv => whnf
        refine callE_S (callE_con (Φ := fun _ _ v _ => v = .bool (nameF t.name)) (fun ρ w' r => isName_c t.name w') ?_)
        rintro ρ w' v w2 r he hb rfl
        conv => whnf
        refine BrS.mk (fun h1 => ?_) (fun h1 => ?_)
        · have h1 : nameF t.name = false := by simpa using h1
          rw [h1, Bool.false_and] at hF
          conv => whnf
          intro ρ w3 r
          exact ⟨_, rfl, (hw.tr hb).tr r.bel, by rw [checkF, hlen.symm, hF]; rfl⟩
        · have h1 : nameF t.name = true := by simpa using h1
          have hM := (hM.rel r (by simp)).ext he
          rw [h1, Bool.true_and] at hF
          replace hw := hw.tr hb
          clear hb he r h1
          conv => whnf
          refine callE_S (callE_con (Φ := fun _ _ v _ => v = .bool (nameF t.trade)) (fun ρ w' r => isName_c t.trade w') ?_)
          rintro ρ w' v w3 r he hb rfl
          conv => whnf
          refine BrS.mk (fun h1 => ?_) (fun h1 => ?_)
          · have h1 : nameF t.trade = false := by simpa using h1
            rw [h1] at hF
            conv => whnf
            intro ρ w3 r
            exact ⟨_, rfl, (hw.tr hb).tr r.bel, by rw [checkF, hlen.symm, hF]; rfl⟩
          · have h1 : nameF t.trade = true := by simpa using h1
            have hM := (hM.rel r (by simp)).ext he
            rw [h1] at hF
            replace hw := hw.tr hb
            clear hb he r h1
            conv => whnf
            refine ⟨fun ρ w' e r hev => ?_⟩
            have e1 : e (.tmp 31) = .map (some g) := hev (.tmp 31) _ rfl
            have e2 : e (.tmp 33) = .string t.name := hev (.tmp 33) _ rfl
            have hrun := run_lookup_map (P := Try.prog) (mty := 53) (kt := 9) (et := 4) t.name (by rfl) (by rfl) (by rfl) (hM.rel r (by simp))
            refine ⟨.bool (seenB t.name seen), w', [(g, g + 1)], .inl (by simp [execOp, e1, e2, hrun]), r.moved (Nat.le_refl _) (fun _ _ _ _ => rfl) (fun lo hi hm => ?_), ?_⟩
            · simp at hm
              obtain ⟨rfl, rfl⟩ := hm
              have := (hM.rel r (by simp)).lt
              exact ⟨by omega, fun id b hb hn => r.prot lo (lo + 1) (by simp) id b hb hn⟩
            replace hM := hM.rel r (by simp)
            replace hw := hw.tr r.bel
            clear hrun e1 e2 hev r h1
            dsimp only at hF
            conv => whnf
            refine BrS.mk (fun h1 => ?_) (fun h1 => ?_)
            · rw [h1] at hF
              conv => whnf
              intro ρ w3 r
              exact ⟨_, rfl, hw.tr r.bel, by rw [checkF, hlen.symm, hF]; rfl⟩
            · rw [h1] at hF
              have hnot : t.name ∉ seen := fun hs => by rw [← seenB_iff, h1] at hs; cases hs
              dsimp only at hF
              conv => whnf
              refine callE_S (callE_con (Φ := fun _ _ v _ => v = .bool (inB (-1) 3999 t.member)) (fun ρ w' r => within_c t.member (-1) 3999 w') ?_)
              rintro ρ w' v w3 r he hb rfl
              replace hM := (hM.rel r (by simp)).ext he
              replace hw := hw.tr hb
              clear hb he r
              conv => whnf
              refine BrS.mk (fun h1 => ?_) (fun h1 => ?_)
              · have h1 : inB (-1) 3999 t.member = false := by simpa using h1
                rw [h1] at hF
                conv => whnf
                intro ρ w3 r
                exact ⟨_, rfl, hw.tr r.bel, by rw [checkF, hlen.symm, hF]; rfl⟩
              have h1 : inB (-1) 3999 t.member = true := by simpa using h1
              rw [h1, Bool.true_and] at hF
              conv => whnf
              refine callE_S (callE_con (Φ := fun _ _ v _ => v = .bool (inB 0 999 t.place)) (fun ρ w' r => within_c t.place 0 999 w') ?_)
              rintro ρ w' v w3 r he hb rfl
              replace hM := (hM.rel r (by simp)).ext he
              replace hw := hw.tr hb
              clear hb he r
              conv => whnf
              refine BrS.mk (fun h1 => ?_) (fun h1 => ?_)
              · have h1 : inB 0 999 t.place = false := by simpa using h1
                rw [h1] at hF
                conv => whnf
                intro ρ w3 r
                exact ⟨_, rfl, hw.tr r.bel, by rw [checkF, hlen.symm, hF]; rfl⟩
              have h1 : inB 0 999 t.place = true := by simpa using h1
              rw [h1, Bool.true_and] at hF
              conv => whnf
              refine callE_S (callE_con (Φ := fun _ _ v _ => v = .bool (inB 0 10000 t.minutes)) (fun ρ w' r => within_c t.minutes 0 10000 w') ?_)
              rintro ρ w' v w3 r he hb rfl
              replace hM := (hM.rel r (by simp)).ext he
              replace hw := hw.tr hb
              clear hb he r
              conv => whnf
              refine BrS.mk (fun h1 => ?_) (fun h1 => ?_)
              · have h1 : inB 0 10000 t.minutes = false := by simpa using h1
                rw [h1] at hF
                conv => whnf
                intro ρ w3 r
                exact ⟨_, rfl, hw.tr r.bel, by rw [checkF, hlen.symm, hF]; rfl⟩
              have h1 : inB 0 10000 t.minutes = true := by simpa using h1
              rw [h1] at hF
              dsimp only at hF
              conv => whnf
              refine callE_S (callE_con (Φ := fun _ _ v _ => v = .int .i64 (listedF t.needs n)) (fun ρ w' r => listed_c t.na t.nn t.nc t.needs n w' (hnn.up (hw.tr r.bel) (by have := r.size; have := hw.size; omega)) (by omega) (by omega)) ?_)
              rintro ρ w' v w3 r he hb rfl
              replace hM := (hM.rel r (by simp)).ext he
              replace hw := hw.tr hb
              clear hb he r
              conv => whnf
              refine BrS.mk (fun h1 => ?_) (fun h1 => ?_)
              · have h1 : decide (listedF t.needs n = 0) = false := by simpa using h1
                rw [h1] at hF
                conv => whnf
                intro ρ w3 r
                exact ⟨_, rfl, hw.tr r.bel, by rw [checkF, hlen.symm, hF, if_neg (of_decide_eq_false h1)]; rfl⟩
              have h1 : decide (listedF t.needs n = 0) = true := by simpa using h1
              rw [h1] at hF
              dsimp only at hF
              conv => whnf
              refine ⟨fun ρ w' e r hev => ?_⟩
              have e1 : e (.tmp 60) = .map (some g) := hev (.tmp 60) _ rfl
              have e2 : e (.tmp 62) = .string t.name := hev (.tmp 62) _ rfl
              have e3 : e (.const (.bool true)) = .bool true := hev (.const (.bool true)) _ rfl
              obtain ⟨o, hrun, hM2⟩ := run_update_map (P := Try.prog) (mty := 53) (kt := 9) (et := 4) t.name (by rfl) (by rfl) (hM.rel r (by simp)) hnot
              have hgl := (hM.rel r (by simp)).lt
              have hset := fun k (hk : k ≠ g) => show (w'.heap.setIfInBounds g o)[k]? = w'.heap[k]? from by simp [Ne.symm hk]
              have hown : ∀ id b, getH _ id = some b → (ρ id).nil = false → ¬ (g ≤ (ρ id).g ∧ (ρ id).g < g + 1) := fun id b hb hn => r.prot g (g + 1) (by simp) id b hb hn
              refine ⟨undef, { w' with heap := w'.heap.setIfInBounds g o }, [(g, g + 1)], .inr ⟨by simp [execOp, e1, e2, e3, hrun, Result.andThen], rfl⟩, r.moved (by simp) (fun id b hb hn => hset _ (fun he => hown id b hb hn (by omega))) (fun lo hi hm => ?_), ?_⟩
              · simp at hm
                obtain ⟨rfl, rfl⟩ := hm
                exact ⟨by simp; omega, hown⟩
              replace hw : Bel w.heap.size w { w' with heap := w'.heap.setIfInBounds g o } := (hw.tr r.bel).tr ⟨rfl, rfl, rfl, by simp, fun k hk => hset k (by omega)⟩
              clear hown hset hrun e1 e2 e3 hev
              generalize ({ w' with heap := w'.heap.setIfInBounds g o } : World) = w4 at *
              clear r
              conv => whnf
              refine ⟨(i + 1 : Nat), by rw [wrap64] <;> omega, ?_⟩
              conv => whnf
              intro ρ3 w3 r3
              exact ⟨(i + 1, t.name :: seen, w3), ⟨by simp; omega, hw.tr r3.bel, hM2.rel r3 (by simp), hF⟩,
                Sub.gen [] r3 trivial ⟨rfl, rfl, rfl, rfl, rfl, trivial⟩ (by simp [ScH]) (by simp [ScE, SV.sc, At.sc]) (by rfl) (by simp), by simp; omega⟩
      · have hin : i = n := by have : ¬ i < n := by simpa using h
                               omega
        have hd : ts.drop i = [] := by rw [List.drop_eq_nil_iff]; omega
        rw [hd, checkGo] at hF
        have hN : InRange ts := fun t ht k hk => by
          have := ((listedF_zero (checkGo_zero hF t ht).1).1 k hk)
          omega
        conv => whnf
        refine callE_S (callE_con (Φ := fun _ w' v w2 => SortedB ts w'.heap.size v w2) (fun ρ w' r => sorted_c a n c ts w' (hT.up (hw.tr r.bel) (by have := r.size; have := hw.size; omega)) hS hN) ?_)
        rintro ρ w' v w3 r he hb hSo
        obtain ⟨a', n', c', out, e, rfl, hc⟩ := hSo
        conv => whnf
        refine BrS.mk (fun h1 => ?_) (fun h1 => ?_)
        · have h1 : e ≠ 0 := by simpa using h1
          conv => whnf
          intro ρ w3 r
          refine ⟨_, rfl, (hw.tr hb).tr r.bel, ?_⟩
          rcases hc with ⟨h0, _⟩ | ⟨h2, h3⟩
          · exact absurd h0 h1
          · rw [checkF, hlen.symm, if_pos hF, if_neg (fun ⟨l, hl⟩ => h3 l hl), h2]; rfl
        · have h1 : e = 0 := by simpa using h1
          conv => whnf
          intro ρ w3 r
          refine ⟨_, rfl, (hw.tr hb).tr r.bel, ?_⟩
          rcases hc with ⟨_, _, h3⟩ | ⟨h2, _⟩
          · rw [checkF, hlen.symm, if_pos hF, if_pos ⟨_, h3⟩]; rfl
          · rw [h1] at h2; cases h2
end Go.Er
