/- The executor is sound, fifth part: one operation, a region, a piece of code, a function. -/
import Derived.Test.YtbkpmaflldbfeaaSx6
namespace Go.Sx
open Go

section
variable {P : Program} {τ : Tab} {B n nx : Nat} {l : Env} {H : Hp} {iv : Iv} {w w' : World} {ρ : Nat → Val} {a : Act}

theorem kindEq_spec {k k' : IntKind} (h : kindEq k k' = true) : k = k' := by
  cases k <;> cases k' <;> first | rfl | (simp [kindEq] at h)

theorem run_eqGuard_int (op : BinOp) (t : TypeId) (x y : Operand) (k k' : IntKind) (i j : Int) (w : World) : (eqGuard op t x y (.int k i) (.int k' j)).run P w = .ok () w := by
  unfold eqGuard; cases op <;> simp
theorem run_eqGuard_bool (op : BinOp) (t : TypeId) (x y : Operand) (i j : Bool) (w : World) : (eqGuard op t x y (.bool i) (.bool j)).run P w = .ok () w := by
  unfold eqGuard; cases op <;> simp
theorem run_eqGuard_string (op : BinOp) (t : TypeId) (x y : Operand) (i j : ByteArray) (w : World) : (eqGuard op t x y (.string i) (.string j)).run P w = .ok () w := by
  unfold eqGuard; cases op <;> simp

theorem intK_spec {op : BinOp} {k : IntKind} {i j : Int} {t : TypeId} {K : Value → Prop} (h : intK op k i j K) (k' : IntKind) (hk : (op = .shl ∨ op = .shr) ∨ k = k') :
    ∃ r, K r ∧ ∀ w : World, (binOp op t (.int k i) (.int k' j)).run P w = .ok r w := by
  have hkk : op ≠ .shl → op ≠ .shr → k = k' := fun h1 h2 => by rcases hk with (h3 | h3) | h3 <;> simp_all
  cases op <;> simp only [intK] at h
  case shl => obtain ⟨h0, r, h1, h2⟩ := h; refine ⟨_, h2, fun w => ?_⟩; subst h1; simp [binOp, Op.shift, show ¬ j < 0 by omega]
  case shr => obtain ⟨h0, r, h1, h2⟩ := h; refine ⟨_, h2, fun w => ?_⟩; subst h1; simp [binOp, Op.shift, show ¬ j < 0 by omega]
  all_goals (obtain rfl := hkk (by simp) (by simp))
  case quo => obtain ⟨h0, r, h1, h2⟩ := h; refine ⟨_, h2, fun w => ?_⟩; subst h1; simp [binOp, Op.intDiv, h0]
  case rem => obtain ⟨h0, r, h1, h2⟩ := h; refine ⟨_, h2, fun w => ?_⟩; subst h1; simp [binOp, Op.intDiv, h0]
  case eql => exact ⟨_, h, fun w => by simp [binOp, Op.intCmp]⟩
  case neq => exact ⟨_, h, fun w => by simp [binOp, Op.intCmp]⟩
  case lss => exact ⟨_, h, fun w => by simp [binOp, Op.intCmp]⟩
  case leq => exact ⟨_, h, fun w => by simp [binOp, Op.intCmp]⟩
  case gtr => exact ⟨_, h, fun w => by simp [binOp, Op.intCmp]⟩
  case geq => exact ⟨_, h, fun w => by simp [binOp, Op.intCmp]⟩
  case add => obtain ⟨r, h1, h2⟩ := h; refine ⟨_, h2, fun w => ?_⟩; subst h1; simp [binOp, Op.intArith]
  case sub => obtain ⟨r, h1, h2⟩ := h; refine ⟨_, h2, fun w => ?_⟩; subst h1; simp [binOp, Op.intArith]
  case mul => obtain ⟨r, h1, h2⟩ := h; refine ⟨_, h2, fun w => ?_⟩; subst h1; simp [binOp, Op.intArith]
  case and => obtain ⟨r, h1, h2⟩ := h; refine ⟨_, h2, fun w => ?_⟩; subst h1; simp [binOp, Op.intBits]
  case or => obtain ⟨r, h1, h2⟩ := h; refine ⟨_, h2, fun w => ?_⟩; subst h1; simp [binOp, Op.intBits]
  case andNot => obtain ⟨r, h1, h2⟩ := h; refine ⟨_, h2, fun w => ?_⟩; subst h1; simp [binOp, Op.intBits]
  case xor => obtain ⟨r, h1, h2⟩ := h; refine ⟨_, h2, fun w => ?_⟩; subst h1; simp [binOp, Op.intBits]

theorem run_equalIn_bool {t : TypeId} (hu : P.underlying t = some .bool) (d : Nat) (i j : Bool) (w : World) : (Op.equalIn (d + 1) t (.bool i) (.bool j)).run P w = .ok (i == j) w := by
  simp [Op.equalIn, run_underlying hu]
theorem run_eq_bool {t : TypeId} (hu : P.underlying t = some .bool) (i j : Bool) (w : World) : (Op.equal t (.bool i) (.bool j)).run P w = .ok (i == j) w := run_equalIn_bool hu 9999 i j w
theorem run_binOp_bool {t : TypeId} (hu : P.underlying t = some .bool) (i j : Bool) (w : World) : (binOp .eql t (.bool i) (.bool j)).run P w = .ok (.bool (i == j)) w := by
  show (do pure (.bool (← Op.equal t (.bool i) (.bool j))) : Sem Value).run P w = _
  rw [Sem.run_bind, run_eq_bool hu]
  rfl
theorem run_binOp_nbool {t : TypeId} (hu : P.underlying t = some .bool) (i j : Bool) (w : World) : (binOp .neq t (.bool i) (.bool j)).run P w = .ok (.bool (!(i == j))) w := by
  show (do pure (.bool (!(← Op.equal t (.bool i) (.bool j)))) : Sem Value).run P w = _
  rw [Sem.run_bind, run_eq_bool hu]
  rfl
theorem binK_spec (hτ : TabOK P τ) {op : BinOp} {t : Nat} {x y : SV} {K : SV → Prop} (h : binK P τ op t x y K) (o1 o2 : Operand) :
    ∃ r, K r ∧ r.sc nx ∧ ∀ w' : World, (do eqGuard op t o1 o2 (x.den ρ) (y.den ρ); binOp op t (x.den ρ) (y.den ρ)).run P w' = .ok (r.den ρ) w' := by
  unfold binK at h
  split at h
  · rename_i k i k' j
    have fin : ∀ hk : (op = .shl ∨ op = .shr) ∨ k = k', intK op k i j (fun r => K (.o (.v r))) → ∃ r, K r ∧ r.sc nx ∧ ∀ w' : World, (do eqGuard op t o1 o2 (SV.den ρ (.o (.v (.int k i)))) (SV.den ρ (.o (.v (.int k' j)))); binOp op t (SV.den ρ (.o (.v (.int k i)))) (SV.den ρ (.o (.v (.int k' j))))).run P w' = .ok (r.den ρ) w' := by
      intro hk h
      obtain ⟨r, h1, h2⟩ := intK_spec (P := P) (t := t) h k' hk
      refine ⟨_, h1, trivial, fun w' => ?_⟩
      simp only [SV.den, At.den, Sem.run_bind, run_eqGuard_int, Result.andThen_ok, h2]
    split at h
    · exact fin (.inl (.inl rfl)) h
    · exact fin (.inl (.inr rfl)) h
    · split at h
      · rename_i hk; exact fin (.inr (kindEq_spec hk)) h
      · exact h.elim
  · rename_i i j
    split at h
    · rename_i ti hti
      split at h
      · rename_i htag
        have hu := (hτ t _ hti).i2 (beq_t htag)
        split at h
        · refine ⟨_, h, trivial, fun w' => ?_⟩
          simp only [SV.den, At.den, Sem.run_bind, run_eqGuard_bool, Result.andThen_ok, run_binOp_bool hu]
        · refine ⟨_, h, trivial, fun w' => ?_⟩
          simp only [SV.den, At.den, Sem.run_bind, run_eqGuard_bool, Result.andThen_ok, run_binOp_nbool hu]
        · exact h.elim
      · exact h.elim
    · exact h.elim
  · rename_i i j
    split at h
    · refine ⟨_, h, trivial, fun w' => ?_⟩
      simp only [SV.den, At.den, Sem.run_bind, run_eqGuard_string, Result.andThen_ok]
      simp [binOp, Op.stringOp]
    · refine ⟨_, h, trivial, fun w' => ?_⟩
      simp only [SV.den, At.den, Sem.run_bind, run_eqGuard_string, Result.andThen_ok]
      simp [binOp, Op.stringOp]
    · refine ⟨_, h.2, trivial, fun w' => ?_⟩
      simp only [SV.den, At.den, Sem.run_bind, run_eqGuard_string, Result.andThen_ok]
      have h1 := h.1
      unfold maxLen at h1
      simp [binOp, Op.stringOp]
      omega
    · exact h.elim
  · obtain ⟨b, h1, h2⟩ := h
    exact ⟨_, h2, trivial, fun w' => h1 ρ w' o1 o2⟩

/-- what follows an operation -/
abbrev NextT (n B : Nat) (l : Env) (a : Act) (dst : Option Tmp) (K : SV → Hp → Nat → Iv → World → Prop) (next : Act → World → Prop) : Prop :=
  ∀ v H' nx' iv' w2 ρ' w3, K v H' nx' iv' w2 → Sat n l H' nx' iv' B w2 ρ' a w3 → v.sc nx' → next (a.put dst (v.den ρ')) w3

/-- the slots stay as they were while the world goes on -/
theorem Sat.next (sat : Sat n l H nx iv B w ρ a w') {H' : Hp} {nx' : Nat} {iv' : Iv} {w2 w3 : World} {ρ' : Nat → Val} (rel : Rel H' nx' iv' B w2 ρ' w3) (hnx : nx ≤ nx') (hρ : ∀ id, id < nx → ρ id = ρ' id) :
    Sat n l H' nx' iv' B w2 ρ' a w3 :=
  ⟨rel, sat.size, sat.defers, fun t v h => by rw [sat.env t v h, SV.den_congr hρ (sat.sc t v h)], fun t v h => SV.sc_mono hnx (sat.sc t v h)⟩

theorem box_new (sat : Sat n l H nx iv B w ρ a w') {t : Nat} {cs : List At} (hs : ∀ c ∈ cs, At.sc nx c) :
    Rel ((nx, .box t cs) :: H) (nx + 1) iv B w (upd ρ nx ⟨w'.heap.size, 0, false⟩) (w'.alloc (.cells (cs.map (At.den ρ)).toArray t)) :=
  sat.rel.push (.box t cs) _ rfl rfl rfl (by simp) (fun k hk => heap_alloc_old _ _ hk) (fun _ => ⟨Nat.le_refl _, by simp⟩) ⟨rfl, heap_alloc_new _ _⟩ hs

theorem allPtr_spec : ∀ {vs : List SV} {k : List Nat → Prop}, allPtr vs k → (∀ v ∈ vs, SV.sc nx v) → ∃ ids, k ids ∧ vs.map (SV.den ρ) = ids.map (fun id => Value.pointer (some ⟨(ρ id).g, 0, none⟩)) ∧ ∀ id ∈ ids, id < nx
  | [], k, h, _ => ⟨[], h, rfl, by simp⟩
  | .o (.p id 0) :: r, k, h, hs => by
    obtain ⟨ids, h1, h2, h3⟩ := allPtr_spec (vs := r) h (fun v hv => hs v (by simp [hv]))
    exact ⟨id :: ids, h1, by simp [h2, SV.den, At.den], by simp; exact ⟨hs (.o (.p id 0)) (by simp), h3⟩⟩
  | .o (.p id (m + 1)) :: r, k, h, _ => by simp [allPtr] at h
  | .o (.v x) :: r, k, h, _ => by simp [allPtr] at h
  | .o (.s _ _ _ _) :: r, k, h, _ => by simp [allPtr] at h
  | .o (.w _ _) :: r, k, h, _ => by simp [allPtr] at h
  | .o (.fn _ _) :: r, k, h, _ => by simp [allPtr] at h
  | .a _ :: r, k, h, _ => by simp [allPtr] at h

theorem callS_spec (sat : Sat n l H nx iv B w ρ a w') {g : Nat} {args : (Nat → Val) → Array Value} {K : SV → Hp → Iv → World → Prop} {o : Oper} {next : Act → World → Prop} {Q : Exit → Act → World → Prop}
    (h : CallS P B g args H nx iv w K) (hop : (execOp a.eval o).run P w' = (callFunc g (args ρ)).run P w')
    (hn : ∀ v H' iv' w2, K v H' iv' w2 → Sat n l H' nx iv' B w2 ρ a w2 → v.sc nx → next (a.put o.dst (v.den ρ)) w2) : o.wp P a w' next Q := by
  have hc := h.h ρ w' sat.rel
  unfold Oper.wp
  rw [hop, hc.e.h]
  refine Calls.mono hc.c fun e w2 he => ?_
  obtain ⟨v, H', rfl, hsz, hrel, hkeys, hK⟩ := he
  refine hn _ _ _ _ hK ?_ trivial
  refine sat.next (ρ' := ρ) ?_ (Nat.le_refl _) (fun _ _ => rfl)
  have hget : ∀ id b, getH H' id = some b → ∃ b', getH H id = some b' := fun id b hb => by
    have := hkeys id
    rw [hb] at this
    exact Option.isSome_iff_exists.1 this.symm
  refine Rel.mk' hrel.os hrel.tape hrel.output hrel.size hrel.base ?_ hrel.keys (fun id b hb => hrel.fits hb) (fun id b hb => hrel.scopd hb) hrel.inj hrel.low hrel.frm ?_
  · intro lo hi hm
    rcases List.mem_cons.1 hm with hm | hm
    · injection hm with h1 h2; omega
    · exact hrel.ivs lo hi hm
  · intro lo hi hm id b hb hnil
    rcases List.mem_cons.1 hm with hm | hm
    · injection hm with h1 h2
      obtain ⟨b', hb'⟩ := hget id b hb
      have := (sat.rel.low id b' hb' hnil).2
      omega
    · exact hrel.prot lo hi hm id b hb hnil

theorem Rel.ext {w2 : World} (r : Rel H nx iv B w ρ w') (e : Ext w' w2) : Rel H nx iv B w ρ w2 :=
  Rel.mk' (e.os.trans r.os) (e.tape.trans r.tape) (e.output.trans r.output) (Nat.le_trans r.size e.size) r.base r.ivs r.keys
    (fun id b h => Blk.fits_keep (r.fits h) (fun _ _ => rfl) (r.scopd h) (fun hn _ => e.block _ (r.low id b h hn).2)) (fun id b h => r.scopd h) r.inj
    (fun id b h hn => by have := r.low id b h hn; have := e.size; omega) (fun k hk hne => by rw [e.block k (by have := r.size; omega)]; exact r.frm k hk hne) r.prot
/-- the named world may be the very world -/
theorem Rel.here (r : Rel H nx iv B w ρ w') : Rel H nx iv B w' ρ w' :=
  Rel.mk' rfl rfl rfl (Nat.le_refl _) (by have := r.base; have := r.size; omega) (fun lo hi hm => by have := r.ivs lo hi hm; have := r.size; omega) r.keys
    (fun id b h => r.fits h) (fun id b h => r.scopd h) r.inj r.low (fun _ _ _ => rfl) r.prot

theorem callE_S {g : Nat} {args : (Nat → Val) → Array Value} {K : SV → Hp → Iv → World → Prop} (h : CallE P B g args H nx iv w K) : CallS P B g args H nx iv w K :=
  ⟨fun ρ w' r => ⟨(h.h ρ w' r).e, Calls.mono (h.h ρ w' r).c fun e w2 he => by
    obtain ⟨v, h1, h2, h3⟩ := he
    exact ⟨v, H, h1, h2.size, (r.ext h2).here, fun _ => rfl, h3⟩⟩⟩

def isR : Op → Bool
  | .move _ | .assign _ | .pick _ _ _ | .build _ _ | .load _ _ | .nilCheck _ | .binOp _ _ _ _ _ | .unOp _ _ _ | .convert _ _ _ | .makeFunc _ _ _ | .slice _ _ _ _ _ | .fieldAddr _ _ _ | .field _ _ _ | .indexAddr _ _ _ | .extract _ _ => true
  | .call ⟨.builtin .len, _, _⟩ => true
  | .call ⟨.builtin .max, _, _⟩ => true
  | .call ⟨.builtin .min, _, _⟩ => true
  | _ => false
def isA : Op → Bool
  | .alloc _ | .box _ _ | .buildSlice _ _ _ | .makeSlice _ _ _ => true
  | _ => false
/-- whatever the world -/
def isP : Op → Bool
  | .load _ _ => false
  | o => isR o
theorem sxOp_reader (hτ : TabOK P τ) {dr : Bool} {o : Oper} {K : SV → Hp → Nat → Iv → World → Prop} (h : sxOp dr P τ B o l H nx iv w K) (sat : Sat n l H nx iv B w ρ a w') (hk : isR o.op = true) :
    (∃ v, K v H nx iv w ∧ v.sc nx ∧ ∀ w2, (isP o.op = true ∨ Rel H nx iv B w ρ w2) → (execOp a.eval o).run P w2 = .ok (.value (v.den ρ)) w2) ∨ (dr = false ∧ OpS P B o l H nx iv w K) := by
  obtain ⟨dst, op, ty, pos, after, guard⟩ := o
  have val : ∀ (r : SV), K r H nx iv w → r.sc nx → (∀ w2, (isP op = true ∨ Rel H nx iv B w ρ w2) → (execOp a.eval ⟨dst, op, ty, pos, after, guard⟩).run P w2 = .ok (.value (r.den ρ)) w2) →
      (∃ v, K v H nx iv w ∧ v.sc nx ∧ ∀ w2, (isP op = true ∨ Rel H nx iv B w ρ w2) → (execOp a.eval ⟨dst, op, ty, pos, after, guard⟩).run P w2 = .ok (.value (v.den ρ)) w2) ∨ (dr = false ∧ OpS P B ⟨dst, op, ty, pos, after, guard⟩ l H nx iv w K) :=
    fun r hK hs hr => .inl ⟨r, hK, hs, hr⟩
  unfold sxOp at h
  split at h <;> first | (exact False.elim h) | (rename_i hop; simp only at hop; subst hop)
  -- move
  · obtain ⟨v, hK, hv, hs⟩ := wEv_spec sat h
    exact val v hK hs (fun w2 rel => by simp [execOp, hv])
  -- assign
  · obtain ⟨v, hK, hv, hs⟩ := wEv_spec sat h
    exact val v hK hs (fun w2 rel => by simp [execOp, hv])
  -- pick
  · rename_i c x y
    obtain ⟨v, h1, hv, hvs⟩ := wEv_spec sat h
    clear hvs
    split at h1
    · rename_i t
      cases t
      · obtain ⟨u, hK, hu, hs⟩ := wEv_spec sat (h1.f rfl)
        exact val u hK hs (fun w2 rel => by simp [execOp, hv, SV.den, At.den, asBool, hu])
      · obtain ⟨u, hK, hu, hs⟩ := wEv_spec sat (h1.t rfl)
        exact val u hK hs (fun w2 rel => by simp [execOp, hv, SV.den, At.den, asBool, hu])
    · exact h1.elim
  -- alloc
  · cases hk
  -- box
  · cases hk
  -- build
  · rename_i t parts
    split at h
    · rename_i sz ag by_ ze tag ik e al fs hti
      have ht := hτ t _ hti
      obtain ⟨inf, z, hi, hsz, hby, hz, hzc⟩ := ht.info
      simp only at hsz hby hzc
      have hzz : z.cells = (((ze.map At.v)).map (At.den ρ)).toArray := by rw [map_v_den]; apply Array.ext'; simpa using hzc
      have hzs : ∀ c ∈ ze.map At.v, At.sc nx c := fun c hc => by simp at hc; obtain ⟨v, _, rfl⟩ := hc; trivial
      split at h
      · rename_i htag
        obtain ⟨fds, hu, hf, hall⟩ := ht.i5 (beq_t htag)
        simp only at hf
        have hplaces : fds.toList.mapM (fun f => (P.info? f.type).map fun i => (f.offset, i.size)) = some (fds.toList.map fun f => (f.offset, ((P.info? f.type).map (·.size)).getD 0)) := by
          clear hf hu
          generalize fds.toList = fl at hall
          induction fl with
          | nil => rfl
          | cons f r ih =>
            obtain ⟨i0, hi0⟩ := Option.isSome_iff_exists.1 (hall f (by simp))
            rw [List.mapM_cons, ih (fun g hg => hall g (by simp [hg]))]
            simp [hi0]
        have h0 := valsK_spec h
        obtain ⟨cs', hK, hcs, hlen, hfill⟩ := partsK_spec sat (placeF := fun i => (fds.toList.map fun f => (f.offset, ((P.info? f.type).map (·.size)).getD 0))[i]?) (fun i k hk => by
          obtain ⟨off, ft, fi, h1, h2, h3, h4⟩ := fieldOff_spec hτ hk
          refine ⟨off, fi.size, h1, ?_⟩
          rw [← hf] at h2
          simp only [List.getElem?_map, Option.map_eq_some_iff] at h2 ⊢
          obtain ⟨fd, hfd, he⟩ := h2
          injection he with e1 e2
          refine ⟨fd, hfd, ?_⟩
          obtain ⟨inf', _, hi', hs', _⟩ := h3.info
          rw [e1, e2, hi']
          simp [hs']) h0 hzs
        refine val _ hK hcs (fun w2 rel => ?_)
        have hb : P.built t (parts.map fun p => (p.1, a.eval p.2)).toList = some (cs'.map (At.den ρ)).toArray := by
          unfold Program.built
          simp only [hi, hu, hz, hplaces]
          rw [hzz, ← hfill]
          simp
        have := run_build w2 t _ _ hb
        simp only [execOp]
        exact run_v this
      · split at h
        · rename_i htag
          have hu := ht.i6 (beq_t htag)
          simp only at hu
          split at h
          · rename_i sz' ag' by' ze' tag' ik' e' al' fs' hte
            have hte := hτ e _ hte
            obtain ⟨inf', _, hi', hs', _⟩ := hte.info
            simp only at hs'
            have h0 := valsK_spec h
            obtain ⟨cs', hK, hcs, hlen, hfill⟩ := partsK_spec sat (placeF := fun i => some (i * inf'.size, inf'.size)) (fun i k hk => ⟨i * sz', sz', hk, by rw [hs']⟩) h0 hzs
            refine val _ hK hcs (fun w2 rel => ?_)
            have hb : P.built t (parts.map fun p => (p.1, a.eval p.2)).toList = some (cs'.map (At.den ρ)).toArray := by
              unfold Program.built
              simp only [hi, hu, hz, hi']
              rw [hzz, ← hfill]
              simp
            have := run_build w2 t _ _ hb
            simp only [execOp]
            exact run_v this
          · exact h.elim
        · exact h.elim
    · exact h.elim
  -- buildSlice
  · cases hk
  -- load
  · rename_i t x
    obtain ⟨v, h1, hv, hs⟩ := wEv_spec sat h
    obtain ⟨r, hK, hr, hrun⟩ := loadK_spec hτ sat.rel hs h1
    exact val r hK hr (fun w2 rel => by simp only [execOp, hv]; exact run_v (hrun w2 (rel.resolve_left (by simp [isP]))))
  -- store
  · cases hk
  -- nilCheck
  · rename_i x
    obtain ⟨v, h1, hv, hs⟩ := wEv_spec sat h
    split at h1
    · exact val _ h1 hs (fun w2 rel => by simp [execOp, hv, SV.den, At.den])
    · exact val _ h1 hs (fun w2 rel => by simp [execOp, hv, SV.den, At.den])
    · exact val _ h1 hs (fun w2 rel => by simp [execOp, hv, SV.den, At.den])
    · exact val _ h1 hs (fun w2 rel => by simp [execOp, hv, SV.den, At.den])
    · exact h1.elim
  -- binOp
  · rename_i op t x y u
    obtain ⟨v, h1, hv, _⟩ := wEv_spec sat h
    obtain ⟨v2, h2, hv2, _⟩ := wEv_spec sat h1
    obtain ⟨r, hK, hr, hrun⟩ := binK_spec (ρ := ρ) hτ h2 x y
    exact val r hK hr (fun w2 rel => by simp only [execOp, hv, hv2]; exact run_v (hrun w2))
  -- unOp
  · rename_i op t x
    obtain ⟨v, h1, hv, _⟩ := wEv_spec sat h
    split at h1
    · exact val _ h1 trivial (fun w2 rel => by simp [execOp, hv, SV.den, At.den, Op.unary])
    · obtain ⟨r, hr, hK⟩ := h1
      exact val _ hK trivial (fun w2 rel => by subst hr; simp [execOp, hv, SV.den, At.den, Op.unary, Op.intArith])
    · exact h1.elim
  -- convert
  · rename_i s d x
    split at h
    · rename_i tis htis
      obtain ⟨ds, hds, _⟩ := (hτ s _ htis).agg
      obtain ⟨v, h1, hv, hvs⟩ := wEv_spec sat h
      clear hvs
      split at h1
      · rename_i sz ag by_ ze tag ik e al fs hti
        have ht := hτ d _ hti
        split at h1
        · rename_i htag
          have hu := ht.i1 (beq_t htag)
          simp only at hu
          split at h1
          · obtain ⟨r, hr, hK⟩ := h1
            refine val _ hK trivial (fun w2 rel => ?_)
            subst hr
            simp [execOp, convert, run_underlying hds, run_underlying hu, hv, SV.den, At.den, Conv.intToInt]
          · exact h1.elim
        · cases dr
          · exact .inr ⟨rfl, h1⟩
          · exact h1.elim
      · exact h1.elim
    · exact h.elim
  -- makeFunc
  · rename_i f first caps
    split at h
    · obtain ⟨vs, h1, hvs, hsc⟩ := wEvs_spec sat h
      obtain ⟨ids, hK, hids, hlt⟩ := allPtr_spec (ρ := ρ) h1 hsc
      refine val _ hK (fun id hid => hlt id hid) (fun w2 rel => ?_)
      have e : caps.map a.eval = (ids.map fun id => Value.pointer (some ⟨(ρ id).g, 0, none⟩)).toArray := by
        apply Array.ext'
        rw [← hids, ← hvs]; simp
      simp [execOp, Instr.makeFunc, e, SV.den, At.den]
    · exact h.elim
  -- makeSlice
  · cases hk
  -- slice
  · rename_i t x lo hi
    obtain ⟨v, h1, hv, hs⟩ := wEv_spec sat h
    obtain ⟨r, hK, hr, hrun⟩ := sliceK_spec hτ sat h1 hs
    exact val r hK hr (fun w2 rel => by simp only [execOp, hv]; exact run_v (by simpa using hrun w2))
  -- fieldAddr
  · rename_i t x f
    split at h
    · rename_i sz ag by_ ze tag ik e al fs hti
      have ht := hτ t _ hti
      split at h
      · rename_i htag
        obtain ⟨off, ft, fi, h1, hf, hfi, hsz⟩ := fieldOff_spec hτ h
        obtain ⟨v, h2, hv, hs⟩ := wEv_spec sat h1
        obtain ⟨r, ad, hK, hr, hd, hrd⟩ := ptrAddK_spec (ρ := ρ) h2 hs
        refine val r hK hr (fun w2 rel => ?_)
        simp only [execOp, hv, hd, hrd]
        exact run_v (run_fieldAt ht (beq_t htag) hf hfi hsz ad w2)
      · exact h.elim
    · exact h.elim
  -- field
  · rename_i t x f
    split at h
    · rename_i sz ag by_ ze tag ik e al fs hti
      have ht := hτ t _ hti
      split at h
      · rename_i htag
        obtain ⟨off, ft, fi, h1, hf, hfi, hsz⟩ := fieldOff_spec hτ h
        obtain ⟨v, h2, hv, hs⟩ := wEv_spec sat h1
        obtain ⟨fds, fd, hu, hfd, e1, e2⟩ := fields_get ht (beq_t htag) hf
        -- the cells of the value, whichever way it is written
        have fin : ∀ cs : List At, v.den ρ = .agg (cs.map (At.den ρ)).toArray → (∀ c ∈ cs, At.sc nx c) →
            (match fi.agg with
              | true => dropK cs off (fun r => takeK r fi.size (fun c => K (.a c) H nx iv w))
              | false => match nthA cs off with
                | some c => K (.o c) H nx iv w
                | none => False) → (∃ v, K v H nx iv w ∧ v.sc nx ∧ ∀ w2, (isP (.field t x f) = true ∨ Rel H nx iv B w ρ w2) → (execOp a.eval ⟨dst, .field t x f, ty, pos, after, guard⟩).run P w2 = .ok (.value (v.den ρ)) w2) ∨ (dr = false ∧ OpS P B ⟨dst, .field t x f, ty, pos, after, guard⟩ l H nx iv w K) := by
          intro cs hd hcs hk
          split at hk
          · rename_i hag
            obtain ⟨h3, hd1⟩ := dropK_spec hk
            obtain ⟨hK, hd2⟩ := takeK_spec h3
            refine val _ hK (fun c hc => hcs c (List.mem_of_mem_drop (List.mem_of_mem_take hc))) (fun w2 rel => ?_)
            simp only [execOp, hv, hd]
            refine run_v ?_
            subst e1 e2
            simp [Instr.field, run_underlying hu, hfd, asAgg, part, hfi.isAgg, hag, hfi.sizeOf, SV.den, List.map_drop, List.map_take, List.extract_eq_take_drop]
          · rename_i hag
            split at hk
            · rename_i c hc
              rw [nthA_spec] at hc
              refine val _ hk (hcs c (List.mem_of_getElem? hc)) (fun w2 rel => ?_)
              simp only [execOp, hv, hd]
              refine run_v ?_
              subst e1 e2
              simp [Instr.field, run_underlying hu, hfd, asAgg, part, hfi.isAgg, hag, hc, SV.den]
            · exact hk.elim
        split at h2
        · rename_i vs
          exact fin (vs.map At.v) (by rw [map_v_den]; rfl) (fun c hc => by simp at hc; obtain ⟨v, _, rfl⟩ := hc; trivial) (valsK_spec h2)
        · exact fin _ rfl hs h2
        · exact h2.elim
      · exact h.elim
    · exact h.elim
  -- indexAddr
  · rename_i t x i
    obtain ⟨v, h1, hv, hs⟩ := wEv_spec sat h
    obtain ⟨u, h2, hu, _⟩ := wEv_spec sat h1
    obtain ⟨r, hK, hr, hrun⟩ := indexK_spec hτ h2 hs sat.rel
    exact val r hK hr (fun w2 rel => by simp only [execOp, hv, hu]; exact run_v (hrun w2))
  -- extract
  · rename_i x i
    obtain ⟨v, h1, hv, hs⟩ := wEv_spec sat h
    split at h1
    · split at h1
      · rename_i vs u hu
        rw [nthV_spec] at hu
        exact val _ h1 trivial (fun w2 rel => by simp [execOp, hv, Instr.extract, SV.den, At.den, hu])
      · exact h1.elim
    · exact h1.elim
  -- len
  · rename_i x t
    obtain ⟨v, h1, hv, _⟩ := wEv_spec sat h
    obtain ⟨r, hK, hrun⟩ := lenK_spec (ty := ty) hτ h1 sat.rel
    refine val _ hK trivial (fun w2 rel => ?_)
    show _ = Result.ok (Next.value (Value.int .i64 r)) w2
    generalize v.den ρ = xv at hv hrun
    have hrun := hrun w2
    simp [execOp, resolve, invoke, builtin, hv, hrun]
  -- append
  · cases hk
  -- max
  · rename_i x y ts
    obtain ⟨v, h1, hv, _⟩ := wEv_spec sat h
    obtain ⟨v2, h2, hv2, _⟩ := wEv_spec sat h1
    split at h2
    · split at h2
      · rename_i k a1 k' b1 hk2
        have hkk := kindEq_spec hk2
        subst hkk
        refine val _ h2 trivial (fun w2 rel => ?_)
        simp only [execOp, resolve, invoke, builtin]
        simp [hv, hv2, SV.den, At.den, Builtin.max_, Builtin.max2]
        omega
      · exact h2.elim
    · exact h2.elim
  -- min
  · rename_i x y ts
    obtain ⟨v, h1, hv, _⟩ := wEv_spec sat h
    obtain ⟨v2, h2, hv2, _⟩ := wEv_spec sat h1
    split at h2
    · split at h2
      · rename_i k a1 k' b1 hk2
        have hkk := kindEq_spec hk2
        subst hkk
        refine val _ h2 trivial (fun w2 rel => ?_)
        simp only [execOp, resolve, invoke, builtin]
        simp [hv, hv2, SV.den, At.den, Builtin.min_, Builtin.min2]
        omega
      · exact h2.elim
    · exact h2.elim
  -- copy
  · cases hk
  -- makeMap
  · cases hk
  -- lookup
  · cases hk
  -- mapUpdate
  · cases hk
  -- call
  · cases hk

theorem opS_sound {o : Oper} {K : SV → Hp → Nat → Iv → World → Prop} (h : OpS P B o l H nx iv w K) (sat : Sat n l H nx iv B w ρ a w') {next : Act → World → Prop} {Q : Exit → Act → World → Prop}
    (hn : NextT n B l a o.dst K next) : o.wp P a w' next Q := by
  obtain ⟨v, w2, iv', hrun, hrel, hK⟩ := h.h ρ w' a.eval sat.rel (fun x v hx => (ev_spec sat hx).1)
  have := hn _ _ _ _ _ _ _ hK (sat.next hrel (Nat.le_refl _) (fun _ _ => rfl)) trivial
  unfold Oper.wp
  rcases hrun with hrun | ⟨hrun, rfl⟩
  · rw [hrun]; exact this
  · rw [hrun]; exact this

theorem sxOp_sound (hτ : TabOK P τ) {dr : Bool} {o : Oper} {K : SV → Hp → Nat → Iv → World → Prop} (h : sxOp dr P τ B o l H nx iv w K) (sat : Sat n l H nx iv B w ρ a w') {next : Act → World → Prop} {Q : Exit → Act → World → Prop}
    (hn : NextT n B l a o.dst K next) : o.wp P a w' next Q := by
  by_cases hk : isR o.op = true
  · rcases sxOp_reader hτ h sat hk with ⟨v, hK, hs, hr⟩ | ⟨_, hop⟩
    · exact wp_val (hr w' (.inr sat.rel)) (hn _ _ _ _ _ _ _ hK sat hs)
    · exact opS_sound hop sat hn
  obtain ⟨dst, op, ty, pos, after, guard⟩ := o
  unfold sxOp at h
  split at h <;> first | (exact False.elim h) | (rename_i hop; simp only at hop; subst hop)
  -- move
  · exact absurd rfl hk
  -- assign
  · exact absurd rfl hk
  -- pick
  · exact absurd rfl hk
  -- alloc
  · rename_i t
    split at h
    · rename_i sz ag by_ ze tag ik e al fs hti
      obtain ⟨z, hz1, hz2⟩ := (hτ t _ hti).zeroV w'
      have hK := valsK_spec h
      simp only at hz2
      have hrel := box_new sat (t := t) (cs := ze.map At.v) (fun c hc => by simp at hc; obtain ⟨v, _, rfl⟩ := hc; trivial)
      rw [map_v_den] at hrel
      have hzz : z.cells = ze.toArray := by apply Array.ext'; simpa using hz2
      refine wp_val (w2 := w'.alloc (.cells ze.toArray t)) (v := .pointer (some ⟨w'.heap.size, 0, none⟩)) ?_ ?_
      · simp [execOp, Instr.alloc, hz1, newVar, newRow, hzz]
      · have := hn _ _ _ _ _ _ _ hK (sat.next hrel (by omega) upd_lt) (by simp [SV.sc, At.sc])
        simpa [SV.den, At.den] using this
    · exact h.elim
  -- box
  · rename_i t x
    obtain ⟨v, h1, hv, hs⟩ := wEv_spec sat h
    obtain ⟨cs, hK, hcells, hsc⟩ := cellsK_spec h1
    have hrel := box_new sat (t := t) (hsc nx hs)
    refine wp_val (w2 := w'.alloc (.cells (cs.map (At.den ρ)).toArray t)) (v := .pointer (some ⟨w'.heap.size, 0, none⟩)) ?_ ?_
    · simp [execOp, Instr.box, hv, newVar, newRow, hcells ρ]
    · have := hn _ _ _ _ _ _ _ hK (sat.next hrel (by omega) upd_lt) (by simp [SV.sc, At.sc])
      simpa [SV.den, At.den] using this
  -- build
  · exact absurd rfl hk
  -- buildSlice
  · rename_i t m parts
    split at h
    · rename_i sz ag by_ ze tag ik e al fs hti
      have ht := hτ t _ hti
      split at h
      · rename_i htag
        have hu := ht.i4 (beq_t htag)
        simp only at hu
        split at h
        · rename_i sz' ag' by' ze' tag' ik' e' al' fs' hte
          have hte := hτ e _ hte
          obtain ⟨inf, z, hi, hsz, hby, hz, hzc⟩ := hte.info
          have hzl := hte.zlen
          simp only at hsz hby hzc hzl
          split at h
          · rename_i hle
            have hle := Nat.le_of_ble_eq_true hle
            have h0 := valsK_spec h
            obtain ⟨cs', hK, hcs, hlen, hfill⟩ := partsK_spec sat (placeF := fun i => some (i * inf.size, inf.size)) (fun i k hk => ⟨i * sz', sz', hk, by rw [hsz]⟩) h0
              (fun c hc => by obtain ⟨v, _, rfl⟩ := List.mem_map.1 hc; trivial)
            rw [map_v_den] at hfill
            have hzarr : z.cells = ze'.toArray := by apply Array.ext'; simpa using hzc
            have hmade : ((List.replicate m ze').flatten).toArray = madeCells z.cells (m * inf.size) := by
              rw [hzarr, hsz, ← hzl]
              exact (made_many ze' m).symm
            have hrel := box_new sat (t := e) hcs
            refine wp_val (w2 := w'.alloc (.cells (cs'.map (At.den ρ)).toArray e)) (v := .slice (some ⟨w'.heap.size, 0, none⟩) m m) ?_ ?_
            · simp only [execOp]
              refine run_v ?_
              rw [hmade] at hfill
              by_cases hpos : m * inf.size = 0
              · have hfill' : Instr.fill (fun i => some (i * inf.size, inf.size)) (madeCells z.cells 0) (parts.toList.map fun p => (p.1, a.eval p.2)) = some (cs'.map (At.den ρ)).toArray := by rw [hpos] at hfill; exact hfill
                have e0 : madeCells z.cells 0 = #[] := by simp [madeCells]
                rw [e0] at hfill'
                have er : Array.range 0 = #[] := rfl
                simp [Instr.buildSlice, run_underlying hu, sizeOf, typeInfo, zeroValue, hi, hz, hpos, newRow, hfill', er]
              · exact run_buildSlice w' t e m _ _ inf z hu hi hz (by rw [hsz]; omega) hpos (by rw [← hfill]; simp [madeCells])
            · have := hn _ _ _ _ _ _ _ hK (sat.next hrel (by omega) upd_lt) (by simp [SV.sc, At.sc])
              simpa [SV.den, At.den] using this
          · exact h.elim
        · exact h.elim
      · exact h.elim
    · exact h.elim
  -- load
  · exact absurd rfl hk
  -- store
  · rename_i t x y
    obtain ⟨v, h1, hv, hs⟩ := wEv_spec sat h
    obtain ⟨u, h2, hu, hs2⟩ := wEv_spec sat h1
    obtain ⟨H', w2, w3, hK, hrel, hrun⟩ := storeK_spec hτ sat hs hs2 h2
    refine wp_skp (w2 := w3) (by simp [execOp, hv, hu, hrun]) ?_
    exact hn _ _ _ _ _ _ _ hK (sat.next hrel (Nat.le_refl _) (fun _ _ => rfl)) trivial
  -- nilCheck
  · exact absurd rfl hk
  -- binOp
  · exact absurd rfl hk
  -- unOp
  · exact absurd rfl hk
  -- convert
  · exact absurd rfl hk
  -- makeFunc
  · exact absurd rfl hk
  -- makeSlice
  · rename_i t x y
    obtain ⟨v, h1, hv, _⟩ := wEv_spec sat h
    obtain ⟨u, h2, hu, _⟩ := wEv_spec sat h1
    obtain ⟨r, H', nx', ρ', w2, hK, hrel, hr, hnx, hρ, hrun⟩ := makeK_spec hτ sat h2
    refine wp_val (w2 := w2) (by simp only [execOp, hv, hu]; exact run_v hrun) ?_
    exact hn _ _ _ _ _ _ _ hK (sat.next hrel hnx hρ) hr
  -- slice
  · exact absurd rfl hk
  -- fieldAddr
  · exact absurd rfl hk
  -- field
  · exact absurd rfl hk
  -- indexAddr
  · exact absurd rfl hk
  -- extract
  · exact absurd rfl hk
  -- len
  · exact absurd rfl hk
  -- append
  · rename_i x y t u
    split at h
    · rename_i htu
      have htu := beq_t htu
      subst htu
      obtain ⟨v, h1, hv, _⟩ := wEv_spec sat h
      obtain ⟨v2, h2, hv2, _⟩ := wEv_spec sat h1
      rcases h2 with h2 | h2
      · obtain ⟨r, H', nx', ρ', w2, hK, hrel, hr, hnx, hρ, hrun⟩ := appendK_spec (ty := ty) hτ sat h2
        refine wp_val (v := r.den ρ') (w2 := w2) ?_ ?_
        · simp [execOp, resolve, invoke, builtin, hv, hv2, hrun]
        · exact hn _ _ _ _ _ _ _ hK (sat.next hrel hnx hρ) hr
      · exact opS_sound h2 sat hn
    · exact h.elim
  -- max
  · exact absurd rfl hk
  -- min
  · exact absurd rfl hk
  -- copy
  · exact opS_sound h sat hn
  -- makeMap
  · exact opS_sound h sat hn
  -- lookup
  · exact opS_sound h sat hn
  -- mapUpdate
  · exact opS_sound h sat hn
  -- call
  · rename_i f args ats
    obtain ⟨v, h1, hv, _⟩ := wEv_spec sat h
    obtain ⟨vs, h2, hvs, hsc⟩ := wEvs_spec sat h1
    have hargs : (args.toArray).map a.eval = densOf ρ vs := by
      apply Array.ext'
      simp [densOf, hvs]
    have hcall : ∀ (g : Nat) (args : (Nat → Val) → Array Value) (K : SV → Hp → Iv → World → Prop), callK dr P B g args H nx iv w K → CallS P B g args H nx iv w K := fun g args K h => by
      cases dr
      · exact h
      · exact callE_S h
    split at h2
    · rename_i g first caps
      refine callS_spec sat (hcall _ _ _ h2) ?_ (fun v H' iv' w2 hK hs hv => hn _ _ _ _ _ _ _ hK hs hv)
      simp [execOp, resolve, hv, SV.den, At.den, Deferred.ofValue, invoke, hargs]
    · rename_i g ids
      refine callS_spec sat (hcall _ _ _ h2) ?_ (fun v H' iv' w2 hK hs hv => hn _ _ _ _ _ _ _ hK hs hv)
      simp [execOp, resolve, hv, SV.den, At.den, Deferred.ofValue, invoke, hargs]
    · exact h2.elim
end
end Go.Sx
