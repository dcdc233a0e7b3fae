/- The executor is sound, sixth part: a region in its order, a piece of code, a function. -/
import Derived.Test.YtbkpmaflldbfeaaSx7
namespace Go.Sx
open Go

def Ex.to : Ex → Exit
  | .normal => .normal
  | .exit id => .exit id
  | .ret => .ret

/-- every slot that is written is one of the frame's -/
def opOk (n : Nat) (o : Oper) : Bool := match o.dst with
  | some d => Nat.blt d n
  | none => true
def codeOk (n : Nat) : Code → Bool
  | .region _ ops _ => ops.toList.all (opOk n)
  | .seq a b => codeOk n a && codeOk n b
  | .cond _ a b => codeOk n a && codeOk n b
  | .block _ c => codeOk n c
  | .loop c => codeOk n c
  | _ => true

section
variable {P : Program} {τ : Tab} {B n nx : Nat} {l : Env} {H : Hp} {iv : Iv} {w w' : World} {ρ : Nat → Val} {a : Act}

theorem Sat.put (sat : Sat n l H nx iv B w ρ a w') {d : Nat} (hd : d < n) {v : SV} (hv : v.sc nx) : Sat n ((d, v) :: l) H nx iv B w ρ (a.put (some d) (v.den ρ)) w' := by
  refine ⟨sat.rel, by simp [Act.put, sat.size], sat.defers, fun t u h => ?_, fun t u h => ?_⟩
  · rw [getE_cons] at h
    split at h
    · rename_i e; subst e; injection h with h; subst h
      simp [Act.put, sat.size, hd]
    · rename_i e
      have := sat.env t u h
      simpa [Act.put, Array.getElem?_setIfInBounds_ne e] using this
  · rw [getE_cons] at h
    split at h
    · injection h with h; subst h; exact hv
    · exact sat.sc t u h

theorem setE_spec (sat : Sat n l H nx iv B w ρ a w') {d : Option Tmp} {v : SV} {k : Env → Prop} (h : setE d v l k) (hd : ∀ t, d = some t → t < n) (hv : v.sc nx) :
    ∃ l', k l' ∧ Sat n l' H nx iv B w ρ (a.put d (v.den ρ)) w' := by
  unfold setE at h
  split at h
  · rename_i t
    exact ⟨_, h, sat.put (hd t rfl) hv⟩
  · exact ⟨l, h, sat⟩

theorem dstOf_spec : ∀ {all : List Oper} {j : Nat}, dstOf all j = (all[j]?).bind (·.dst)
  | [], j => by simp [dstOf]
  | o :: r, 0 => by simp [dstOf]
  | o :: r, j + 1 => by simp [dstOf, dstOf_spec (all := r)]

theorem Sat.know (sat : Sat n l H nx iv B w ρ a w') {d : Nat} {v : SV} (hd : a.tmps[d]? = some (v.den ρ)) (hv : v.sc nx) : Sat n ((d, v) :: l) H nx iv B w ρ a w' := by
  refine ⟨sat.rel, sat.size, sat.defers, fun t u h => ?_, fun t u h => ?_⟩
  · rw [getE_cons] at h
    split at h
    · rename_i e; subst e; injection h with h; subst h; exact hd
    · exact sat.env t u h
  · rw [getE_cons] at h
    split at h
    · injection h with h; subst h; exact hv
    · exact sat.sc t u h

theorem sxGuard_spec (sat : Sat n l H nx iv B w ρ a w') {all : List Oper} {o : Oper} {yes no : Env → Prop} (h : sxGuard all o.guard l yes no) :
    (Region.wanted o (yielded all.toArray a.tmps) = true ∧ ∃ l', yes l' ∧ Sat n l' H nx iv B w ρ a w') ∨ (Region.wanted o (yielded all.toArray a.tmps) = false ∧ ∃ l', no l' ∧ Sat n l' H nx iv B w ρ a w') := by
  unfold sxGuard at h
  split at h
  · rename_i hg
    exact .inl ⟨by simp [Region.wanted, hg], l, h, sat⟩
  · rename_i j want hg
    have hy : Region.wanted o (yielded all.toArray a.tmps) = (yielded all.toArray a.tmps j == some want) := by simp [Region.wanted, hg]
    split at h
    · rename_i hd
      rw [dstOf_spec] at hd
      exact .inr ⟨by rw [hy]; simp [yielded, hd], l, h, sat⟩
    · rename_i d hd
      rw [dstOf_spec] at hd
      split at h
      · rename_i b hb
        have ht := sat.env d _ hb
        have hyb : yielded all.toArray a.tmps j = some b := by simp [yielded, hd, ht, SV.den, At.den]
        have hkt : b = true → Sat n ((d, .o (.v (.bool true))) :: l) H nx iv B w ρ a w' := fun e => sat.know (by rw [ht, e]) trivial
        have hkf : b = false → Sat n ((d, .o (.v (.bool false))) :: l) H nx iv B w ρ a w' := fun e => sat.know (by rw [ht, e]) trivial
        split at h
        · cases hbb : b
          · exact .inr ⟨by rw [hy, hyb, hbb]; rfl, _, h.f hbb, hkf hbb⟩
          · exact .inl ⟨by rw [hy, hyb, hbb]; rfl, _, h.t hbb, hkt hbb⟩
        · cases hbb : b
          · exact .inl ⟨by rw [hy, hyb, hbb]; rfl, _, h.f hbb, hkf hbb⟩
          · exact .inr ⟨by rw [hy, hyb, hbb]; rfl, _, h.t hbb, hkt hbb⟩
      · rename_i vs hb
        have ht := sat.env d _ hb
        exact .inr ⟨by rw [hy]; simp [yielded, hd, ht, SV.den, At.den], l, h, sat⟩
      · exact h.elim

theorem sxOps_sound (hτ : TabOK P τ) {all : List Oper} {K : KT} {Q : Exit → Act → World → Prop}
    (hQ : ∀ l' H' nx' iv' w2 ρ' a' w3, K l' H' nx' iv' w2 → Sat n l' H' nx' iv' B w2 ρ' a' w3 → Q .normal a' w3) :
    ∀ (rest : List Oper) (l : Env) (H : Hp) (nx : Nat) (iv : Iv) (w : World) (ρ : Nat → Val) (a : Act) (w' : World), rest.all (opOk n) = true → sxOps P τ B all rest l H nx iv w K → Sat n l H nx iv B w ρ a w' →
      wpList P all.toArray Q rest a w'
  | [], l, H, nx, iv, w, ρ, a, w', _, h, sat => wpList_nil (hQ _ _ _ _ _ _ _ _ h sat)
  | o :: r, l, H, nx, iv, w, ρ, a, w', hok, h, sat => by
    simp only [List.all_cons, Bool.and_eq_true] at hok
    have hd : ∀ t, o.dst = some t → t < n := fun t ht => by
      have := hok.1
      simp only [opOk, ht] at this
      have h5 : t + 1 ≤ n := by simpa [Nat.blt] using this
      exact h5
    refine wpList_step fun Kc hKc => ?_
    unfold sxOps sxStep at h
    rcases sxGuard_spec sat h with ⟨hw, l1, h1, sat1⟩ | ⟨hw, l1, h1, sat1⟩
    · rw [if_pos hw]
      refine sxOp_sound hτ h1 sat1 fun v H' nx' iv' w2 ρ' w3 h2 sat2 hv => ?_
      obtain ⟨l2, h3, sat3⟩ := setE_spec sat2 h2 hd hv
      exact hKc _ _ (sxOps_sound hτ hQ r _ _ _ _ _ _ _ _ hok.2 h3 sat3)
    · rw [if_neg (by simp [hw])]
      obtain ⟨l2, h3, sat3⟩ := setE_spec sat1 h1 hd trivial
      exact hKc _ _ (sxOps_sound hτ hQ r _ _ _ _ _ _ _ _ hok.2 h3 sat3)

theorem Sub.sat {t : LoopI} (h : Sub B l nx ρ w' t) (sat : Sat n l H nx iv B w ρ a w') : ∃ ρ', Sat n t.l t.H t.nx t.iv B t.w ρ' a w' := by
  obtain ⟨ρ', h1, h2⟩ := h
  refine ⟨ρ', h1, sat.size, sat.defers, fun u v hv => ?_, fun u v hv => (h2 u v hv).1⟩
  obtain ⟨_, v0, h3, h4⟩ := h2 u v hv
  rw [sat.env u v0 h3, h4]

theorem sxCode_sound (hτ : TabOK P τ) : ∀ (c : Code) (l : Env) (H : Hp) (nx : Nat) (iv : Iv) (w : World) (Q' : Ex → KT), sxCode P τ B c l H nx iv w Q' → codeOk n c = true →
    ∀ (ρ : Nat → Val) (a : Act) (w' : World), Sat n l H nx iv B w ρ a w' → ∀ Q : Exit → Act → World → Prop, (∀ e l' H' nx' iv' w2 ρ' a' w3, Q' e l' H' nx' iv' w2 → Sat n l' H' nx' iv' B w2 ρ' a' w3 → Q e.to a' w3) → c.wp P Q a w'
  | .skip, l, H, nx, iv, w, Q', h, _, ρ, a, w', sat, Q, hQ => wp_skip (hQ .normal _ _ _ _ _ _ _ _ h sat)
  | .region id ops false, l, H, nx, iv, w, Q', h, hok, ρ, a, w', sat, Q, hQ => by
    obtain ⟨ol⟩ := ops
    exact wp_region_lit (sxOps_sound hτ (fun l' H' nx' iv' w2 ρ' a' w3 hk hs => hQ .normal _ _ _ _ _ _ _ _ hk hs) ol _ _ _ _ _ _ _ _ hok h sat)
  | .region id ops true, l, H, nx, iv, w, Q', h, hok, ρ, a, w', sat, Q, hQ =>
    DrawnS.h h n ρ a w' hok sat Q (fun l' H' nx' iv' w2 ρ' a' w3 hk hs => hQ .normal _ _ _ _ _ _ _ _ hk hs) id
  | .seq c d, l, H, nx, iv, w, Q', h, hok, ρ, a, w', sat, Q, hQ => by
    simp only [codeOk, Bool.and_eq_true] at hok
    refine wp_seq (sxCode_sound hτ c _ _ _ _ _ _ h hok.1 ρ a w' sat _ fun e l' H' nx' iv' w2 ρ' a' w3 hk hs => ?_)
    cases e with
    | normal => exact sxCode_sound hτ d _ _ _ _ _ _ hk hok.2 ρ' a' w3 hs Q hQ
    | exit id => exact hQ (.exit id) _ _ _ _ _ _ _ _ hk hs
    | ret => exact hQ .ret _ _ _ _ _ _ _ _ hk hs
  | .cond x c d, l, H, nx, iv, w, Q', h, hok, ρ, a, w', sat, Q, hQ => by
    simp only [codeOk, Bool.and_eq_true] at hok
    obtain ⟨v, h1, hv, hvs⟩ := wEv_spec sat h
    clear hvs
    split at h1
    · rename_i t
      refine wp_cond_split (t := t) (by rw [hv]; rfl) (fun ht => ?_) (fun ht => ?_)
      · exact sxCode_sound hτ c _ _ _ _ _ _ (h1.t ht) hok.1 ρ a w' sat Q hQ
      · exact sxCode_sound hτ d _ _ _ _ _ _ (h1.f ht) hok.2 ρ a w' sat Q hQ
    · exact h1.elim
  | .block id c, l, H, nx, iv, w, Q', h, hok, ρ, a, w', sat, Q, hQ => by
    refine wp_block (sxCode_sound hτ c _ _ _ _ _ _ h hok ρ a w' sat _ fun e l' H' nx' iv' w2 ρ' a' w3 hk hs => ?_)
    cases e with
    | normal => exact hQ .normal _ _ _ _ _ _ _ _ hk hs
    | exit id' =>
      simp only [Ex.to, Exit.inBlock]
      simp only at hk
      split at hk
      · rename_i he; rw [if_pos (beq_t he)]; exact hQ .normal _ _ _ _ _ _ _ _ hk hs
      · rename_i he
        rw [if_neg (fun e => by subst e; rw [Nat.beq_refl] at he; cases he)]
        exact hQ (.exit id') _ _ _ _ _ _ _ _ hk hs
    | ret => exact hQ .ret _ _ _ _ _ _ _ _ hk hs
  | .loop c, l, H, nx, iv, w, Q', h, hok, ρ, a, w', sat, Q, hQ => by
    obtain ⟨α, st, μ, I, h0, hr⟩ := h
    intro b k cs
    have key : ∀ m x ρ a w', μ x = m → I x → Sat n (st x).l (st x).H (st x).nx (st x).iv B (st x).w ρ a w' →
        ∃ e a' w2, Q e a' w2 ∧ Arrives P (lone (b.at a (.code c :: .inLoop c :: k)) cs w') b k cs e a' w2 := by
      intro m
      induction m using Nat.strongRecOn with
      | _ m ih =>
        intro x ρ a w' hm hI hs
        have hc := sxCode_sound hτ c _ _ _ _ _ _ (hr x hI) hok ρ a w' hs
          (fun e a2 w2 => match e with
            | .normal => ∃ y ρ2, I y ∧ Sat n (st y).l (st y).H (st y).nx (st y).iv B (st y).w ρ2 a2 w2 ∧ μ y < μ x
            | e => Q e a2 w2) (fun e l' H' nx' iv' w2 ρ' a' w3 hk hs' => by
              cases e with
              | normal =>
                obtain ⟨y, hIy, hy, hlt⟩ := hk ρ' w3 hs'.rel
                obtain ⟨ρ2, hs2⟩ := hy.sat hs'
                exact ⟨y, ρ2, hIy, hs2, hlt⟩
              | exit id => exact hQ (.exit id) _ _ _ _ _ _ _ _ hk hs'
              | ret => exact hQ .ret _ _ _ _ _ _ _ _ hk hs')
        obtain ⟨e, a₁, w₁, hq, harr⟩ := hc b (.inLoop c :: k) cs
        cases e with
        | normal =>
          obtain ⟨y, ρ2, hIy, hs2, hlt⟩ := hq
          obtain ⟨e₂, a₂, w₂, hq₂, harr₂⟩ := ih (μ y) (hm ▸ hlt) y ρ2 a₁ w₁ rfl hIy hs2
          exact ⟨e₂, a₂, w₂, hq₂, .of_steps (Steps.trans harr (.one step_inLoop)) harr₂⟩
        | exit id => exact ⟨_, a₁, w₁, hq, .pass (x := .inLoop c) rfl (fun _ _ => .inl (by simp)) harr⟩
        | goto l => exact ⟨_, a₁, w₁, hq, .pass (x := .inLoop c) rfl (fun _ _ => .inl (by simp)) harr⟩
        | ret => exact ⟨_, a₁, w₁, hq, .pass (x := .inLoop c) rfl (fun _ _ => .inl (by simp)) harr⟩
        | panic ch => exact ⟨_, a₁, w₁, hq, .pass (x := .inLoop c) rfl (fun _ _ => .inl (by simp)) harr⟩
        | outgrown => exact ⟨_, a₁, w₁, hq, .pass (x := .inLoop c) rfl (fun _ _ => .inl (by simp)) harr⟩
    obtain ⟨x, hIx, hx⟩ := h0 ρ w' sat.rel
    obtain ⟨ρ2, hs2⟩ := hx.sat sat
    obtain ⟨e, a', w2, hq, harr⟩ := key _ x ρ2 a w' rfl hIx hs2
    exact ⟨e, a', w2, hq, .of_steps (.one step_loop) harr⟩
  | .exit id, l, H, nx, iv, w, Q', h, _, ρ, a, w', sat, Q, hQ => wp_exit (hQ (.exit id) _ _ _ _ _ _ _ _ h sat)
  | .ret, l, H, nx, iv, w, Q', h, _, ρ, a, w', sat, Q, hQ => wp_ret (hQ .ret _ _ _ _ _ _ _ _ h sat)
  | .rangeFunc _ _ _ _, l, H, nx, iv, w, Q', h, _, ρ, a, w', sat, Q, hQ => h.elim
  | .scope _, l, H, nx, iv, w, Q', h, _, ρ, a, w', sat, Q, hQ => h.elim
  | .label _, l, H, nx, iv, w, Q', h, _, ρ, a, w', sat, Q, hQ => h.elim
  | .goto _, l, H, nx, iv, w, Q', h, _, ρ, a, w', sat, Q, hQ => h.elim
  | .refuse _, l, H, nx, iv, w, Q', h, _, ρ, a, w', sat, Q, hQ => h.elim

/-! ### a function -/
def initE : Nat → List Value → Env
  | _, [] => []
  | k, v :: r => (k, .o (.v v)) :: initE (k + 1) r
theorem initE_spec : ∀ (vs : List Value) (k t : Nat) (v : SV), getE (initE k vs) t = some v → k ≤ t ∧ ∃ x, v = .o (.v x) ∧ vs[t - k]? = some x
  | [], k, t, v, h => by simp [initE, getE] at h
  | x :: r, k, t, v, h => by
    rw [initE, getE_cons] at h
    split at h
    · rename_i e; subst e; injection h with h; subst h; exact ⟨Nat.le_refl _, x, rfl, by simp⟩
    · obtain ⟨h1, y, h2, h3⟩ := initE_spec r (k + 1) t v h
      refine ⟨by omega, y, h2, ?_⟩
      rw [show t - k = (t - (k + 1)) + 1 by omega]
      simpa using h3

def resK (τ : Tab) (B : Nat) (l : Env) (H : Hp) (nx : Nat) (iv : Iv) (w : World) : List ResultVar → (List SV → Prop) → Prop
  | [], k => k []
  | .tmp t :: r, k => match getE l t with
    | some v => resK τ B l H nx iv w r (fun vs => k (v :: vs))
    | none => False
  | .cell t ty :: r, k => match getE l t with
    | some v => loadK τ B ty v H nx iv w (fun u => resK τ B l H nx iv w r (fun vs => k (u :: vs)))
    | none => False

def doneK (B : Nat) (H : Hp) (nx : Nat) (iv : Iv) (w : World) (R : Ending → World → Prop) : List SV → Prop
  | [v] => ∀ ρ w', Rel H nx iv B w ρ w' → R (.returned (v.den ρ)) w'
  | vs => ∀ ρ w', Rel H nx iv B w ρ w' → R (.returned (.tuple (densOf ρ vs))) w'

def retK (τ : Tab) (B : Nat) (rs : List ResultVar) (R : Ending → World → Prop) : Ex → KT
  | .exit _, _, _, _, _, _ => False
  | .normal, l, H, nx, iv, w => resK τ B l H nx iv w rs (doneK B H nx iv w R)
  | .ret, l, H, nx, iv, w => resK τ B l H nx iv w rs (doneK B H nx iv w R)

def resF (tmps : Array Value) : ResultVar → Sem Value
  | .tmp t => pure (tmps.getD t undef)
  | .cell c t => do loadVar t (← asAddr (tmps.getD c undef))
theorem resK_spec (hτ : TabOK P τ) (sat : Sat n l H nx iv B w ρ a w') : ∀ {rs : List ResultVar} {k : List SV → Prop}, resK τ B l H nx iv w rs k →
    ∃ vs, k vs ∧ (rs.mapM (resF a.tmps)).run P w' = .ok (vs.map (SV.den ρ)) w'
  | [], k, h => ⟨[], h, by simp⟩
  | .tmp t :: r, k, h => by
    unfold resK at h
    split at h
    · rename_i v hv
      obtain ⟨vs, h1, h2⟩ := resK_spec hτ sat h
      have := sat.env t v hv
      exact ⟨v :: vs, h1, by rw [List.mapM_cons, Sem.run_bind]; simp [resF, this, h2]⟩
    · exact h.elim
  | .cell t ty :: r, k, h => by
    unfold resK at h
    split at h
    · rename_i v hv
      obtain ⟨u, h1, hu, hrun0⟩ := loadK_spec hτ sat.rel (sat.sc t v hv) h
      have hrun := hrun0 w' sat.rel
      clear hrun0
      obtain ⟨vs, h2, h3⟩ := resK_spec hτ sat h1
      have htm := sat.env t v hv
      refine ⟨u :: vs, h2, ?_⟩
      have : (do loadVar ty (← asAddr (v.den ρ)) : Sem Value).run P w' = .ok (u.den ρ) w' := by
        revert hrun
        generalize v.den ρ = x
        intro hrun
        cases x with
        | pointer ad =>
          cases ad with
          | some ad => simpa [asAddr, Instr.loadAt, Instr.sureAddr] using hrun
          | none => simp [Instr.loadAt, Instr.sureAddr] at hrun
        | _ => simp [Instr.loadAt, Instr.sureAddr] at hrun
      have h4 : (resF a.tmps (.cell t ty)).run P w' = .ok (u.den ρ) w' := by
        have e : a.tmps.getD t undef = v.den ρ := by simp [htm]
        show (do loadVar ty (← asAddr (a.tmps.getD t undef)) : Sem Value).run P w' = _
        rw [e]; exact this
      rw [List.mapM_cons, Sem.run_bind, h4]
      simp [h3]
    · exact h.elim

theorem calls_of_sx (hτ : TabOK P τ) {f : FuncId} {fn : Func} {c : Code} {args : Array Value} {w : World} {R : Ending → World → Prop} (hf : P.funcs[f]? = some fn) (hb : fn.body = some c)
    (hn : args.size ≤ fn.ntmps) (hok : codeOk fn.ntmps c = true) (h : sxCode P τ w.heap.size c (initE 0 args.toList) [] 0 [] w (retK τ w.heap.size fn.results.toList R)) : Calls P f args w R := by
  refine calls_of_wp hf hb ?_
  have sat : Sat fn.ntmps (initE 0 args.toList) [] 0 [] w.heap.size w (fun _ => ⟨0, 0, true⟩) { tmps := args ++ Array.replicate (fn.ntmps - args.size) undef, defers := [] } w := by
    refine ⟨Rel.mk' rfl rfl rfl (Nat.le_refl _) (Nat.le_refl _) (by simp) (by simp [getH]) (by simp [getH]) (by simp [getH]) (by simp [getH]) (by simp [getH]) (fun _ _ _ => rfl) (by simp), by simp; omega, rfl, fun t v hv => ?_, fun t v hv => ?_⟩
    · obtain ⟨_, x, rfl, hx⟩ := initE_spec _ 0 t v hv
      simp only [Nat.sub_zero, Array.getElem?_toList] at hx
      rw [Array.getElem?_append_left (Array.getElem?_eq_some_iff.1 hx).1, hx]
      rfl
    · obtain ⟨_, x, rfl, hx⟩ := initE_spec _ 0 t v hv
      trivial
  refine sxCode_sound hτ c _ _ _ _ _ _ h hok _ _ _ sat _ fun e l' H' nx' iv' w2 ρ' a' w3 hk hs => ?_
  have fin : resK τ w.heap.size l' H' nx' iv' w2 fn.results.toList (doneK w.heap.size H' nx' iv' w2 R) → a'.defers = [] ∧ ∃ v, (results fn a'.tmps).run P w3 = .ok v w3 ∧ R (.returned v) w3 := by
    intro hk
    obtain ⟨vs, h1, h2⟩ := resK_spec hτ hs hk
    refine ⟨hs.defers, if hsz : (vs.map (SV.den ρ')).toArray.size = 1 then (vs.map (SV.den ρ')).toArray[0] else .tuple (vs.map (SV.den ρ')).toArray, ?_, ?_⟩
    · have e : (fn.results.mapM (resF a'.tmps)).run P w3 = .ok (vs.map (SV.den ρ')).toArray w3 := by
        rw [Array.mapM_eq_mapM_toList]
        simp only [Sem.run_map, h2, Result.andThen_ok]
      show (do let vs ← fn.results.mapM (resF a'.tmps); pure (if h : vs.size = 1 then vs[0] else .tuple vs) : Sem Value).run P w3 = _
      rw [Sem.run_bind, e]
      simp only [Result.andThen_ok, Sem.run_pure]
    · match vs, h1 with
      | [v], h1 => simpa using h1 ρ' w3 hs.rel
      | [], h1 => simpa [densOf] using h1 ρ' w3 hs.rel
      | v1 :: v2 :: r, h1 => simpa [densOf] using h1 ρ' w3 hs.rel
  cases e with
  | normal => exact fin hk
  | exit id => exact hk.elim
  | ret => exact fin hk
end
end Go.Sx
