/- A part of the proof of TopFewestHandlings: contracts of functions of package erection, part 9. Their conditions stand in the theorems. -/
import Derived.Test.YtbkpmaflldbfeaaEr8
namespace Go.Er
open Go Go.Sx Go.Proofs

def replH : Hp → Nat → Blk → Hp
  | [], _, _ => []
  | (t, b) :: r, u, c => match Nat.beq t u with
    | true => (t, c) :: replH r u c
    | false => (t, b) :: replH r u c
theorem getH_repl : ∀ (H : Hp) (u : Nat) (c : Blk) (j : Nat), getH (replH H u c) j = if j = u then (getH H j).map (fun _ => c) else getH H j
  | [], u, c, j => by simp [replH, getH]
  | (t, b) :: r, u, c, j => by
    unfold replH
    split
    · rename_i h
      have h := beq_t h
      subst h
      rw [getH_cons, getH_cons, getH_repl]
      by_cases hj : t = j
      · subst hj; simp
      · simp [hj, Ne.symm hj]
    · rename_i h
      have hne : t ≠ u := fun e => by subst e; rw [Nat.beq_refl] at h; cases h
      rw [getH_cons, getH_cons, getH_repl]
      by_cases hj : t = j
      · subst hj; simp [hne]
      · simp [hj]

/-- what is held raw lies in an interval that is told -/
def Cov (iv : Iv) (v : Value) : Prop := ∀ b, v.ownBlock = some b → ∃ lo hi, (lo, hi) ∈ iv ∧ lo ≤ b ∧ b < hi
theorem Cov.not {H : Hp} {nx : Nat} {iv : Iv} {B : Nat} {w w' : World} {ρ : Nat → Val} {v : Value} (h : Cov iv v) (r : Rel H nx iv B w ρ w') {b : Nat} (hb : v.ownBlock = some b) :
    ∀ id c, getH H id = some c → (ρ id).nil = false → (ρ id).g ≠ b := fun id c hc hn he => by
  obtain ⟨lo, hi, h1, h2, h3⟩ := h b hb
  exact r.prot lo hi h1 id c hc hn (by omega)
theorem Cov.more {iv iv' : Iv} {v : Value} (h : Cov iv v) (hs : ∀ lo hi, (lo, hi) ∈ iv → (lo, hi) ∈ iv') : Cov iv' v := fun b hb => by
  obtain ⟨lo, hi, h1, h2⟩ := h b hb
  exact ⟨lo, hi, hs lo hi h1, h2⟩

/-- a call that changes a heap in a box of one's own -/
theorem callS_heap {B f : Nat} {args : (Nat → Val) → Array Value} {H : Hp} {nx : Nat} {iv : Iv} {w : World} {K : SV → Hp → Iv → World → Prop} {id0 : Nat} {v : Value} {Φ : Value → List Int → Prop}
    (hbox : getH H id0 = some (.box 62 [.v v])) (hcov : Cov iv v)
    (hcon : ∀ ρ w', Rel H nx iv B w ρ w' → w'.heap[(ρ id0).g]? = some (.cells #[v] 62 (0, 0)) → v.ownBlock ≠ some (ρ id0).g → Con Try.prog f (args ρ) w' (fun e w2 => ∃ val ys, e = .returned val ∧ HeapTo w' w2 B (ρ id0).g v ys ∧ Φ val ys))
    (hK : ∀ ρ w' w2 val ys v', Rel H nx iv B w ρ w' → w2.ownsRow B 3 1 v' ys.length (ys.map (Value.int .i64)) → (∀ b, v'.ownBlock = some b → v.ownBlock = some b ∨ (w'.heap.size ≤ b ∧ b < w2.heap.size)) → w'.heap.size ≤ w2.heap.size →
      (∀ k, k < w'.heap.size → (∀ id b, getH H id = some b → (ρ id).nil = false → (ρ id).g ≠ k) → some k ≠ v.ownBlock → w2.heap[k]? = w'.heap[k]?) → Beside w' w2 (ρ id0).g v.ownBlock → Φ val ys →
      K (.o (.v val)) (replH H id0 (.box 62 [.v v'])) ((w'.heap.size, w2.heap.size) :: iv) w2) : CallS Try.prog B f args H nx iv w K := by
  refine ⟨fun ρ w' r => ?_⟩
  have hb0 : w'.heap[(ρ id0).g]? = some (.cells #[v] 62 (0, 0)) := r.box id0 62 [.v v] hbox
  have hn0 : (ρ id0).nil = false := r.nn id0 _ hbox (by intros; simp) (by simp)
  refine (hcon ρ w' r hb0 (fun e => hcov.not r e id0 _ hbox hn0 rfl)).mono fun e w2 he => ?_
  obtain ⟨val, ys, rfl, ht, hΦ⟩ := he
  obtain ⟨v', hat, hv'⟩ := ht.to
  have hsz := ht.size
  have hlow := ownsRow.low hat.row
  have hrep : ∀ id b, getH (replH H id0 (.box 62 [.v v'])) id = some b → (id = id0 ∧ b = .box 62 [.v v']) ∨ (id ≠ id0 ∧ getH H id = some b) := fun id b h => by
    rw [getH_repl] at h
    split at h
    · rename_i e
      subst e
      rw [hbox] at h
      simp at h
      exact .inl ⟨rfl, h.symm⟩
    · rename_i e
      exact .inr ⟨e, h⟩
  have hex : ∀ id b, getH (replH H id0 (.box 62 [.v v'])) id = some b → ∃ c, getH H id = some c ∧ (b ≠ .dead → c ≠ .dead) := fun id b h => by
    rcases hrep id b h with ⟨rfl, rfl⟩ | ⟨_, h⟩
    · exact ⟨_, hbox, by simp⟩
    · exact ⟨b, h, fun h => h⟩
  refine ⟨val, _, rfl, hsz, ?_, fun id => ?_, hK ρ w' w2 val ys v' r hat.row (fun b hb => (hv' b hb).imp id fun h => ⟨h, (hlow b hb).2⟩) hsz (fun k hk hne hr => ht.block k hk (fun e => hne id0 _ hbox hn0 e.symm) hr) ⟨ht.os, ht.tape, ht.output, ht.size, ht.block⟩ hΦ⟩
  · refine Rel.mk' rfl rfl rfl (Nat.le_refl _) (by have := r.base; have := r.size; omega) (fun lo hi h => by have := r.ivs lo hi h; have := r.size; omega) (fun id b h => by obtain ⟨c, h1, _⟩ := hex id b h; exact r.keys id c h1) ?_ ?_ ?_ ?_ (fun _ _ _ => rfl) ?_
    · intro id b h
      rcases hrep id b h with ⟨rfl, rfl⟩ | ⟨hne, h⟩
      · exact ⟨hn0, hat.box⟩
      · by_cases hd : b = .dead
        · subst hd; trivial
        · refine Blk.fits_keep (r.fits h) (fun _ _ => rfl) (r.scopd h) (fun hn _ => ht.block _ (r.low id b h hn).2 (fun e => hne (r.inj id id0 _ _ h hbox hd (by simp) hn hn0 e)) (fun e => hcov.not r e.symm id b h hn rfl))
    · intro id b h
      rcases hrep id b h with ⟨rfl, rfl⟩ | ⟨hne, h⟩
      · intro x hx; simp at hx; subst hx; trivial
      · exact r.scopd h
    · intro id id' b b' h h' hd hd' hn hn' he
      obtain ⟨c, h1, h2⟩ := hex id b h
      obtain ⟨c', h3, h4⟩ := hex id' b' h'
      exact r.inj id id' c c' h1 h3 (h2 hd) (h4 hd') hn hn' he
    · intro id b h hn
      obtain ⟨c, h1, _⟩ := hex id b h
      have := r.low id c h1 hn
      omega
    · intro lo hi hm id b h hn
      obtain ⟨c, h1, _⟩ := hex id b h
      exact r.prot lo hi hm id c h1 hn
  · rw [getH_repl]
    split
    · rename_i e; subst e; simp [hbox]
    · rfl

end Go.Er
namespace Go.Sx
open Go Go.Er Go.Proofs
theorem Sub.gen2 {B : Nat} {l tl : Env} {nx nx' : Nat} {H tH : Hp} {iv iv' : Iv} {w w' : World} {ρ : Nat → Val} (m : List (Nat × Nat)) (r : Rel H nx iv B w ρ w')
    (hH : SubHR (renL m) H tH) (hE : SubER (renL m) l tl) (hsH : ScH nx' tH) (hsE : ScE nx' tl) (hi : injB (renL m) tH = true) (hiv : ∀ lo hi, (lo, hi) ∈ iv' → ∃ lo' hi', (lo', hi') ∈ iv ∧ lo' ≤ lo ∧ hi ≤ hi') : Sub B l nx ρ w' ⟨tl, tH, nx', iv', w'⟩ := by
  have r2 : Rel H nx iv' B w' ρ w' := Rel.mk' rfl rfl rfl (Nat.le_refl _) (by have := r.base; have := r.size; omega) (fun lo hi h => by
      obtain ⟨lo', hi', h1, h2, h3⟩ := hiv lo hi h
      have := r.ivs lo' hi' h1; have := r.size; omega) r.keys (fun id b h => r.fits h) (fun id b h => r.scopd h) r.inj r.low (fun _ _ _ => rfl) (fun lo hi h id b hb hn he => by
      obtain ⟨lo', hi', h1, h2, h3⟩ := hiv lo hi h
      exact r.prot lo' hi' h1 id b hb hn (by omega))
  exact Sub.gen m r2 hH hE hsH hsE hi (fun lo hi h => h)
end Go.Sx
namespace Go.Er
open Go Go.Sx Go.Proofs
end Go.Er
