/- A part of the proof of TopFewestHandlings: contracts of functions of package erection, part 13. Their conditions stand in the theorems. -/
import Derived.Test.YtbkpmaflldbfeaaEr12
import Derived.Laws.IdiomStrings
namespace Go.Er
open Go Go.Sx Go.Proofs

def byteOk (i : Nat) (c : UInt8) : Bool :=
  (decide ((c.toNat : Int) ≥ 97) && decide ((c.toNat : Int) ≤ 122)) || ((decide ((c.toNat : Int) ≥ 65) && decide ((c.toNat : Int) ≤ 90)) ||
    (decide (i > 0) && (((c.toNat : Int) == 45) || (decide ((c.toNat : Int) ≥ 48) && decide ((c.toNat : Int) ≤ 57)))))
def bytesOk : List UInt8 → Nat → Bool
  | [], _ => true
  | c :: r, i => byteOk i c && bytesOk r (i + 1)
def nameF (s : ByteArray) : Bool := (decide (1 ≤ s.size) && decide (s.size ≤ 12)) && bytesOk s.data.toList 0

theorem isName_c (s : ByteArray) (w : World) : Con Try.prog 22 #[.string s] w (Ret w fun v _ => v = .bool (nameF s)) := by
  refine ⟨ent22, calls_f Try.func22 (by rfl) (by simp) (by rfl) ?_⟩
  conv => whnf
  refine BrS.mk (fun h => ?_) (fun h => ?_)
  · conv => whnf
    intro ρ w' r
    refine ⟨_, rfl, r.bel, ?_⟩
    have h : s.size < 1 := by have : (s.size : Int) < 1 := of_decide_eq_true h
                              omega
    have : nameF s = false := by
      unfold nameF
      rw [show (decide (1 ≤ s.size) && decide (s.size ≤ 12)) = false from by rw [Bool.and_eq_false_iff, decide_eq_false_iff_not, decide_eq_false_iff_not]; omega]
      rfl
    rw [this]
    rfl
  · have h1 : 1 ≤ s.size := by have : ¬ (s.size : Int) < 1 := of_decide_eq_false h
                               omega
    conv => whnf
    refine BrS.mk (fun h => ?_) (fun h => ?_)
    · conv => whnf
      intro ρ w' r
      refine ⟨_, rfl, r.bel, ?_⟩
      have h : s.size > 12 := by have : (s.size : Int) > 12 := of_decide_eq_true h
                                 omega
      have : nameF s = false := by
        unfold nameF
        rw [show (decide (1 ≤ s.size) && decide (s.size ≤ 12)) = false from by rw [Bool.and_eq_false_iff, decide_eq_false_iff_not, decide_eq_false_iff_not]; omega]
        rfl
      rw [this]
      rfl
    · have h2 : s.size ≤ 12 := by have : ¬ (s.size : Int) > 12 := of_decide_eq_false h
                                  omega
      conv => whnf
      refine ⟨fun ρ w' e r hev => ?_⟩
      have e1 : e (.tmp 13) = .string s := hev (.tmp 13) _ rfl
      have hrun := run_bytes_of_string (P := Try.prog) w' 9 65 5 s (by rfl) (by rfl) (by rfl)
      generalize hcap : grownCap w' s.size 0 5 = cap at hrun
      generalize hw2 : (w'.drew.alloc (.cells (bytesRow s cap) 5 ((bytesRow s cap).size, (bytesRow s cap).size + 1))) = w2 at hrun
      have hsz : w2.heap.size = w'.heap.size + 1 := by rw [← hw2]; simp
      have hold : ∀ k, k < w'.heap.size → w2.heap[k]? = w'.heap[k]? := fun k hk => by rw [← hw2]; exact heap_alloc_old w'.drew _ hk
      have hnew : w2.heap[w'.heap.size]? = some (.cells (bytesRow s cap) 5 ((bytesRow s cap).size, (bytesRow s cap).size + 1)) := by rw [← hw2]; exact heap_alloc_new w'.drew _
      have hbel : Bel w.heap.size w w2 := r.bel.tr ⟨by rw [← hw2]; rfl, by rw [← hw2]; rfl, by rw [← hw2]; rfl, by omega, fun k hk => hold k (by have := r.size; omega)⟩
      refine ⟨.slice (some ⟨w'.heap.size, 0, none⟩) s.size cap, w2, [(w'.heap.size, w'.heap.size + 1)], .inl ?_, r.moved (by omega) (fun id b hb hn => hold _ (r.low id b hb hn).2) (fun lo hi hm => ?_), ?_⟩
      · simp [execOp, e1, hrun]
      · simp at hm
        obtain ⟨rfl, rfl⟩ := hm
        exact ⟨by omega, fun id b hb hn he => by have := (r.low id b hb hn).2; omega⟩
      generalize w'.heap.size = g at *
      clear hold hrun hsz hw2 hev e1 r
      have hF : nameF s = bytesOk s.data.toList 0 := by
        unfold nameF
        rw [show (decide (1 ≤ s.size) && decide (s.size ≤ 12)) = true from by simp only [Bool.and_eq_true, decide_eq_true_eq]; omega]
        rfl
      have hsl : s.data.toList.length = s.size := by rw [Array.length_toList]; rfl
      have hg2 : g < w2.heap.size := (Array.getElem?_eq_some_iff.1 hnew).1
      have hcellg : ∀ (j : Nat) (c : UInt8), s.data.toList[j]? = some c → w2.cell? ⟨g, j, none⟩ = some (.int .u8 (c.toNat : Int)) := fun j c hc => by
        have hlt := (List.getElem?_eq_some_iff.1 hc)
        obtain ⟨hj, hc⟩ := hlt
        have hj' : j < s.data.size := by simpa using hj
        unfold World.cell?
        rw [hnew]
        simp only [Option.isSome_none, Bool.false_eq_true, if_false]
        rw [bytesRow_at s cap j hj', ← hc]
        simp
      clear hnew
      conv => whnf
      refine ⟨Nat × World, fun x => ⟨[(14, .o (.v (.slice (some ⟨g, 0, none⟩) s.size cap))), (15, .o (.v (.int .i64 s.size))), (16, .o (.v (.int .i64 x.1)))], [], 0, [], x.2⟩, fun x => s.size - x.1,
        fun x => x.1 ≤ s.size ∧ Bel w.heap.size w x.2 ∧ w2.grownBy x.2 none ∧ nameF s = bytesOk (s.data.toList.drop x.1) x.1, ?_, ?_⟩
      · intro ρ3 w3 r3
        exact ⟨(0, w3), ⟨by simp, hbel.tr r3.bel, r3.nilBy, by simpa using hF⟩, Sub.reset r3 ⟨rfl, rfl, rfl, trivial⟩ ⟨trivial, trivial, trivial, trivial⟩⟩
      · rintro ⟨i, wi⟩ ⟨hi, hw, hgr, hn⟩
        dsimp only at hi hw hgr hn ⊢
        conv => whnf
        refine BrS.mk (fun h => ?_) (fun h => ?_)
        · have h : i < s.size := by simpa using h
          obtain ⟨c, hc⟩ : ∃ c, s.data.toList[i]? = some c := ⟨_, List.getElem?_eq_getElem (by omega)⟩
          have hdrop : s.data.toList.drop i = c :: s.data.toList.drop (i + 1) := by
            have hlt : i < s.data.toList.length := by omega
            rw [List.drop_eq_getElem_cons hlt]
            rw [List.getElem?_eq_getElem hlt] at hc
            injection hc with hc
            rw [hc]
          rw [hdrop, bytesOk] at hn
          have hload : ∀ (nx : Nat) (iv : Iv) ρ w', Rel [] nx iv w.heap.size wi ρ w' → w'.cell? ((⟨g, 0, none⟩ : Addr).add i) = some (.int .u8 (c.toNat : Int)) := fun nx iv ρ w' r => by
            rw [add_zero_addr, cell_of_heap (w := w2)]
            · exact hcellg i c hc
            · exact (r.nilBy.block g (by have := hgr.size; omega) (by simp)).trans (hgr.block g hg2 (by simp))
          have hnext : ∀ (l : Env) nx iv ρ3 w3, Rel [] nx iv w.heap.size wi ρ3 w3 → byteOk i c = true → (fun x : Nat × World => x.1 ≤ s.size ∧ Bel w.heap.size w x.2 ∧ w2.grownBy x.2 none ∧ nameF s = bytesOk (s.data.toList.drop x.1) x.1) (i + 1, w3) := fun l nx iv ρ3 w3 r3 hb => by
            rw [hb, Bool.true_and] at hn
            exact ⟨by simp; omega, hw.tr r3.bel, grownBy_trans hgr r3.nilBy, hn⟩
          have hstop : byteOk i c = false → nameF s = false := fun hb => by rw [hn, hb]; rfl
          clear hn hdrop hcellg
          have hsz12 : i ≤ 12 := by omega
          conv => whnf
          refine ⟨_, rfl, ⟨by omega, by omega⟩, ?_⟩
          conv => whnf
          refine ⟨_, by simpa using hload 0 [], ?_⟩
          conv => whnf
          iterate 10 all_goals first
            | (intro ρ3 w3 r3
               refine ⟨_, rfl, hw.tr r3.bel, ?_⟩
               rw [hstop (by simp_all [byteOk] <;> omega)]
               rfl)
            | (refine ⟨(i + 1 : Nat), by rw [wrap64] <;> omega, ?_⟩
               conv => whnf
               intro ρ3 w3 r3
               refine ⟨(i + 1, w3), hnext [] _ _ ρ3 w3 r3 (by simp_all [byteOk] <;> omega), Sub.reset r3 ⟨rfl, rfl, rfl, trivial⟩ ⟨trivial, trivial, trivial, trivial⟩, by simp; omega⟩)
            | ((refine BrS.mk (fun hb => ?_) (fun hb => ?_)) <;> conv => whnf)
        · have hin : i = s.size := by have : ¬ i < s.size := by simpa using h
                                      omega
          have hd : s.data.toList.drop i = [] := by rw [List.drop_eq_nil_iff]; omega
          rw [hd] at hn
          conv => whnf
          intro ρ3 w3 r3
          refine ⟨_, rfl, hw.tr r3.bel, ?_⟩
          rw [hn]
          rfl
end Go.Er
