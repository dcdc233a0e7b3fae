/- A loop's state by other numbers. -/
import Derived.Test.YtbkpmaflldbfeaaSx15
namespace Go.Sx
open Go

def At.ren (f : Nat → Nat) : At → At
  | .v x => .v x
  | .p id off => .p (f id) off
  | .s id off len cap => .s (f id) off len cap
  | .w id len => .w (f id) len
  | .fn g caps => .fn g (caps.map f)
def SV.ren (f : Nat → Nat) : SV → SV
  | .o x => .o (x.ren f)
  | .a cs => .a (cs.map (At.ren f))
def Blk.ren (f : Nat → Nat) : Blk → Blk
  | .box t cs => .box t (cs.map (At.ren f))
  | .arr t cs => .arr t cs
  | .vec t size cs => .vec t size cs
  | .dead => .dead
theorem At.den_ren (f : Nat → Nat) (ρ : Nat → Val) (x : At) : (x.ren f).den ρ = x.den (fun i => ρ (f i)) := by
  cases x <;> simp [At.ren, At.den]
theorem SV.den_ren (f : Nat → Nat) (ρ : Nat → Val) (x : SV) : (x.ren f).den ρ = x.den (fun i => ρ (f i)) := by
  cases x with
  | o x => exact At.den_ren f ρ x
  | a cs =>
    have : At.den ρ ∘ At.ren f = At.den (fun i => ρ (f i)) := funext fun x => At.den_ren f ρ x
    simp [SV.ren, SV.den, this]

def renL : List (Nat × Nat) → Nat → Nat
  | [], n => n
  | (a, b) :: r, n => match Nat.beq a n with
    | true => b
    | false => renL r n
def SubER (f : Nat → Nat) (l : Env) : Env → Prop
  | [] => True
  | (u, v) :: r => getE l u = some (v.ren f) ∧ SubER f l r
def SubHR (f : Nat → Nat) (H : Hp) : Hp → Prop
  | [] => True
  | (u, b) :: r => getH H (f u) = some (b.ren f) ∧ SubHR f H r
def ScH (n : Nat) : Hp → Prop
  | [] => True
  | (u, b) :: r => (u < n ∧ b.scopd n) ∧ ScH n r
/-- the keys have different images -/
def injB (f : Nat → Nat) : Hp → Bool
  | [] => true
  | (u, _) :: r => r.all (fun p => Nat.beq p.1 u || !Nat.beq (f p.1) (f u)) && injB f r

theorem SubER.get {f : Nat → Nat} {l : Env} : ∀ {t : Env}, SubER f l t → ∀ u v, getE t u = some v → getE l u = some (v.ren f)
  | [], _, u, v, h => by cases h
  | (u0, v0) :: r, h, u, v, hg => by
    rw [getE_cons] at hg
    split at hg
    · rename_i e; subst e; injection hg with hg; subst hg; exact h.1
    · exact SubER.get h.2 u v hg
theorem SubHR.get {f : Nat → Nat} {l : Hp} : ∀ {t : Hp}, SubHR f l t → ∀ u v, getH t u = some v → getH l (f u) = some (v.ren f)
  | [], _, u, v, h => by cases h
  | (u0, v0) :: r, h, u, v, hg => by
    rw [getH_cons] at hg
    split at hg
    · rename_i e; subst e; injection hg with hg; subst hg; exact h.1
    · exact SubHR.get h.2 u v hg
theorem ScH.get {n : Nat} : ∀ {t : Hp}, ScH n t → ∀ u b, getH t u = some b → u < n ∧ b.scopd n
  | [], _, u, v, h => by cases h
  | (u0, v0) :: r, h, u, v, hg => by
    rw [getH_cons] at hg
    split at hg
    · rename_i e; subst e; injection hg with hg; subst hg; exact h.1
    · exact ScH.get h.2 u v hg
theorem getH_mem : ∀ {t : Hp} {u : Nat} {b : Blk}, getH t u = some b → ∃ p ∈ t, p.1 = u
  | [], u, b, h => by cases h
  | (u0, v0) :: r, u, b, h => by
    rw [getH_cons] at h
    split at h
    · rename_i e; exact ⟨_, List.mem_cons_self .., e⟩
    · obtain ⟨p, h1, h2⟩ := getH_mem h; exact ⟨p, List.mem_cons_of_mem _ h1, h2⟩
theorem injB_spec {f : Nat → Nat} : ∀ {t : Hp}, injB f t = true → ∀ u v b c, getH t u = some b → getH t v = some c → f u = f v → u = v
  | [], _, u, v, b, c, h, _, _ => by cases h
  | (u0, v0) :: r, hi, u, v, b, c, hu, hv, he => by
    simp only [injB, Bool.and_eq_true] at hi
    have key : ∀ {w : Nat} {d : Blk}, getH r w = some d → f w = f u0 → w = u0 := fun {w d} hw hf => by
      obtain ⟨p, hp, rfl⟩ := getH_mem hw
      have := List.all_eq_true.1 hi.1 p hp
      simp only [Bool.or_eq_true, Bool.not_eq_true'] at this
      rcases this with h | h
      · exact beq_t h
      · rw [hf, Nat.beq_refl] at h; cases h
    rw [getH_cons] at hu hv
    split at hu <;> split at hv
    · rename_i x y; rw [← x, ← y]
    · rename_i x y; subst x; exact (key hv he.symm).symm
    · rename_i x y; subst y; exact key hu he
    · exact injB_spec hi.2 u v b c hu hv he

theorem Sub.gen {B : Nat} {l tl : Env} {nx nx' : Nat} {H tH : Hp} {iv iv' : Iv} {w w' : World} {ρ : Nat → Val} (m : List (Nat × Nat)) (r : Rel H nx iv B w ρ w')
    (hH : SubHR (renL m) H tH) (hE : SubER (renL m) l tl) (hsH : ScH nx' tH) (hsE : ScE nx' tl) (hi : injB (renL m) tH = true) (hiv : ∀ lo hi, (lo, hi) ∈ iv' → (lo, hi) ∈ iv) : Sub B l nx ρ w' ⟨tl, tH, nx', iv', w'⟩ := by
  refine ⟨fun i => ρ (renL m i), (?_ : Rel tH nx' iv' B w' (fun i => ρ (renL m i)) w'), fun u v hv => ⟨hsE.get u v hv, _, hE.get u v hv, SV.den_ren _ _ _⟩⟩
  refine Rel.mk' rfl rfl rfl (Nat.le_refl _) (by have := r.base; have := r.size; omega) (fun lo hi h => by have := r.ivs lo hi (hiv lo hi h); have := r.size; omega) (fun id b h => (hsH.get id b h).1) ?_ (fun id b h => (hsH.get id b h).2) ?_ ?_ (fun _ _ _ => rfl) ?_
  · intro id b h
    have h1 := r.fits (hH.get id b h)
    have hr : At.den ρ ∘ At.ren (renL m) = At.den (fun i => ρ (renL m i)) := funext fun x => At.den_ren _ ρ x
    cases b with
    | box t cs => simpa [Blk.ren, Blk.fits, hr] using h1
    | arr t cs => exact h1
    | vec t size cs => exact h1
    | dead => trivial
  · intro id id' b b' h h' hd hd' hn hn' he
    refine injB_spec hi id id' b b' h h' (r.inj _ _ _ _ (hH.get id b h) (hH.get id' b' h') ?_ ?_ hn hn' he)
    · cases b <;> first | (exact absurd rfl hd) | simp [Blk.ren]
    · cases b' <;> first | (exact absurd rfl hd') | simp [Blk.ren]
  · intro id b h hn
    exact r.low _ _ (hH.get id b h) hn
  · intro lo hi' h id b hb hn
    exact r.prot lo hi' (hiv lo hi' h) _ _ (hH.get id b hb) hn
end Go.Sx
