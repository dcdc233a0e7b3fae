/- Rows that are held raw: appending to them. -/
import Derived.Test.YtbkpmaflldbfeaaSx14
namespace Go.Sx
open Go

section
variable {P : Program} {τ : Tab} {B nx : Nat} {l : Env} {H : Hp} {iv : Iv} {w w' w2 : World} {ρ : Nat → Val}

/-- the very world becomes the named one; one's own blocks are as they were -/
theorem Rel.moved {iv2 : Iv} (r : Rel H nx iv B w ρ w') (hsz : w'.heap.size ≤ w2.heap.size) (hsame : ∀ id b, getH H id = some b → (ρ id).nil = false → w2.heap[(ρ id).g]? = w'.heap[(ρ id).g]?)
    (hiv : ∀ lo hi, (lo, hi) ∈ iv2 → hi ≤ w2.heap.size ∧ ∀ id b, getH H id = some b → (ρ id).nil = false → ¬ (lo ≤ (ρ id).g ∧ (ρ id).g < hi)) : Rel H nx iv2 B w2 ρ w2 :=
  Rel.mk' rfl rfl rfl (Nat.le_refl _) (by have := r.base; have := r.size; omega) (fun lo hi h => (hiv lo hi h).1) r.keys
    (fun id b h => Blk.fits_keep (r.fits h) (fun _ _ => rfl) (r.scopd h) (fun hn _ => hsame id b h hn)) (fun id b h => r.scopd h) r.inj
    (fun id b h hn => by have := r.low id b h hn; omega) (fun _ _ _ => rfl) (fun lo hi h => (hiv lo hi h).2)

/-- a row that is held raw grows -/
theorem opS_append (hτ : TabOK P τ) {Bc : Nat} (hBc : Bc ≤ B) {dst : Option Tmp} {x y : Operand} {t ty e sz by_ k m : Nat} {ag ag' : Bool} {ze ze' : List Value} {bt : Nat} {pos : String} {after : Array Edge} {guard : Option (Nat × Bool)} {ik ik' : IntKind} {sz0 e' al al' tag' : Nat} {fs fs' : List (Nat × Nat)}
    {v : Value} {vy : SV} {xs news : List Value} {K : SV → Hp → Nat → Iv → World → Prop}
    (ht : τ t = some ⟨sz0, ag, bt, ze, 4, ik, e, al, fs⟩) (hte : τ e = some ⟨sz, ag', by_, ze', tag', ik', e', al', fs'⟩) (hpos : 0 < sz) (hx : ev l x = some (.o (.v v))) (hy : ev l y = some vy)
    (hown : ∀ ρ w', Rel H nx iv B w ρ w' → w'.ownsRow Bc e sz v m xs ∧ ∀ g, v.ownBlock = some g → ∀ id b, getH H id = some b → (ρ id).nil = false → (ρ id).g ≠ g)
    (hnl : news.length = k * sz) (hn1 : ∀ u ∈ news, u.oneCell' = true) (hml : m + k ≤ maxLen) (hb : (m + k) * by_ ≤ 140737488355328)
    (src : ∀ ρ w', Rel H nx iv B w ρ w' → (∃ c, vy.den ρ = .slice none 0 c ∧ k = 0) ∨ ∃ ad c, vy.den ρ = .slice (some ad) k c ∧ ∀ (j : Nat) u, news[j]? = some u → w'.cell? (ad.add j) = some u)
    (iv2 : Value → World → Iv)
    (hiv : ∀ ρ w' v' w2, Rel H nx iv B w ρ w' → w'.heap.size ≤ w2.heap.size → (∀ g, v'.ownBlock = some g → g < w2.heap.size ∧ (v.ownBlock = some g ∨ g = w'.heap.size)) → ∀ lo hi, (lo, hi) ∈ iv2 v' w2 → hi ≤ w2.heap.size ∧ ∀ id b, getH H id = some b → (ρ id).nil = false → ¬ (lo ≤ (ρ id).g ∧ (ρ id).g < hi))
    (hK : ∀ ρ w' v' w2, Rel H nx iv B w ρ w' → w2.ownsRow Bc e sz v' (m + k) (xs ++ news) → w'.grownBy w2 v.ownBlock → (v'.ownBlock = v.ownBlock ∨ v'.ownBlock = some w'.heap.size) → K (.o (.v v')) H nx (iv2 v' w2) w2) :
    OpS P B ⟨dst, .call ⟨.builtin .append, ⟨[x, y]⟩, ⟨[t, t]⟩⟩, ty, pos, after, guard⟩ l H nx iv w K := by
  refine ⟨fun ρ w' ev' r hev => ?_⟩
  have hto := hτ t _ ht
  have hu := hto.i4 rfl
  simp only at hu
  have hteo := hτ e _ hte
  obtain ⟨inf, z, hi, hsz, hby, hz, hzc⟩ := hteo.info
  have hzl := hteo.zlen
  simp only at hsz hby hzc hzl
  have hzs : z.cells.size = sz := by rw [← hzl, ← hzc]; simp
  obtain ⟨hrow, hne⟩ := hown ρ w' r
  have key : ∃ v' w2, (Builtin.append_ #[t, t] ty #[v, vy.den ρ]).run P w' = .ok v' w2 ∧ w2.ownsRow Bc e sz v' (m + k) (xs ++ news) ∧ w'.grownBy w2 v.ownBlock ∧ (v'.ownBlock = v.ownBlock ∨ v'.ownBlock = some w'.heap.size) := by
    rcases src ρ w' r with ⟨c, hv, rfl⟩ | ⟨ad, c, hv, hcells⟩
    · have : news = [] := List.eq_nil_of_length_eq_zero (by simpa using hnl)
      subst this
      rw [hv]
      exact ⟨v, w', run_append_of_nil' w' Bc t ty e inf sz hu hi v m xs hrow c, by simpa using hrow, ⟨rfl, rfl, rfl, Nat.le_refl _, fun _ _ _ => rfl⟩, .inl rfl⟩
    · rw [hv]
      obtain ⟨v', w2, h1, h2, h3, _, h5⟩ := run_append_own_at (P := P) w' Bc t ty e inf z sz by_ hu hi hz hsz hby hzs hpos v m xs hrow ad k c news hnl hcells hn1 hml hb (by have := r.base; have := r.size; omega)
      exact ⟨v', w2, h1, h2, h3, h5⟩
  obtain ⟨v', w2, h1, h2, h3, h4⟩ := key
  have e1 := hev x _ hx
  have e2 := hev y _ hy
  have hob : ∀ g, v'.ownBlock = some g → g < w2.heap.size ∧ (v.ownBlock = some g ∨ g = w'.heap.size) := fun g hg => by
    refine ⟨?_, ?_⟩
    · rcases h2.2 with ⟨rfl, _⟩ | ⟨g', cap, cur, rfl, _, hc, _⟩
      · cases hg
      · simp only [Value.ownBlock, Option.some.injEq] at hg
        subst hg
        exact (Array.getElem?_eq_some_iff.1 hc).1
    · rcases h4 with h4 | h4
      · exact .inl (h4 ▸ hg)
      · rw [h4] at hg; injection hg with hg; exact .inr hg.symm
  refine ⟨v', w2, iv2 v' w2, .inl ?_, r.moved h3.size (fun id b h hn => h3.block _ (r.low id b h hn).2 (fun e => hne _ e.symm id b h hn rfl)) (hiv ρ w' v' w2 r h3.size hob), hK ρ w' v' w2 r h2 h3 h4⟩
  have e1 : ev' x = v := e1
  generalize vy.den ρ = yy at *
  simp [execOp, resolve, invoke, builtin, e1, e2, h1]

theorem Bel.grown {B0 : Nat} {row : Option Nat} (h : w'.grownBy w2 row) (hr : ∀ g, row = some g → B0 ≤ g) (hB : B0 ≤ w'.heap.size) : Bel B0 w' w2 :=
  ⟨h.os, h.tape, h.output, h.size, fun k hk => h.block k (by omega) (fun e => by have := hr k e.symm; omega)⟩
theorem ownsRow.low {e sz m : Nat} {v : Value} {xs : List Value} (h : w.ownsRow B e sz v m xs) : ∀ g, v.ownBlock = some g → B ≤ g ∧ g < w.heap.size := by
  intro g hg
  rcases h.2 with ⟨rfl, _⟩ | ⟨g', cap, cur, rfl, hb, hc, _⟩
  · cases hg
  · simp only [Value.ownBlock, Option.some.injEq] at hg
    subst hg
    exact ⟨hb, (Array.getElem?_eq_some_iff.1 hc).1⟩
/-- a row is as it was where its block is -/
theorem ownsRow.keep {e sz m : Nat} {v : Value} {xs : List Value} (h : w.ownsRow B e sz v m xs) (hk : ∀ g, v.ownBlock = some g → w2.heap[g]? = w.heap[g]?) : w2.ownsRow B e sz v m xs := by
  refine ⟨h.1, ?_⟩
  rcases h.2 with h1 | ⟨g', cap, cur, rfl, hb, hc, h2⟩
  · exact .inl h1
  · exact .inr ⟨g', cap, cur, rfl, hb, by rw [hk g' rfl]; exact hc, h2⟩
end
end Go.Sx
