/- The executor is sound, second part: each operation. -/
import Derived.Test.YtbkpmaflldbfeaaSx3
import Derived.Maps.AppendAt
import Derived.Laws.IdiomCopy
import Derived.Great.BuildSlice
namespace Go.Sx
open Go

section
variable {P : Program} {τ : Tab} {B n nx : Nat} {l : Env} {H : Hp} {iv : Iv} {w w' : World} {ρ : Nat → Val} {a : Act}

theorem ev_spec (sat : Sat n l H nx iv B w ρ a w') {x : Operand} {v : SV} (h : ev l x = some v) : a.eval x = v.den ρ ∧ v.sc nx := by
  cases x with
  | tmp t =>
    have h1 := sat.env t v h
    exact ⟨by simp [Act.eval, h1], sat.sc t v h⟩
  | const c => simp [ev] at h; subst h; exact ⟨rfl, trivial⟩
  | global g => simp [ev] at h; subst h; exact ⟨rfl, trivial⟩
  | func f => simp [ev] at h; subst h; exact ⟨rfl, trivial⟩
theorem wEv_spec (sat : Sat n l H nx iv B w ρ a w') {x : Operand} {k : SV → Prop} (h : wEv l x k) : ∃ v, k v ∧ a.eval x = v.den ρ ∧ v.sc nx := by
  unfold wEv at h
  split at h
  · rename_i v hv; exact ⟨v, h, ev_spec sat hv⟩
  · exact h.elim
theorem wEvs_spec (sat : Sat n l H nx iv B w ρ a w') : ∀ {xs : List Operand} {k : List SV → Prop}, wEvs l xs k → ∃ vs, k vs ∧ xs.map a.eval = vs.map (SV.den ρ) ∧ ∀ v ∈ vs, SV.sc nx v
  | [], k, h => ⟨[], h, rfl, by simp⟩
  | x :: r, k, h => by
    unfold wEvs at h
    split at h
    · rename_i v hv
      obtain ⟨vs, h1, h2, h3⟩ := wEvs_spec sat (xs := r) h
      have := ev_spec sat hv
      exact ⟨v :: vs, h1, by simp [this.1, h2], by simp; exact ⟨this.2, h3⟩⟩
    · exact h.elim

theorem wp_val {o : Oper} {a : Act} {w w2 : World} {v : Value} {next : Act → World → Prop} {Q : Exit → Act → World → Prop} (h : (execOp a.eval o).run P w = .ok (.value v) w2) (hk : next (a.put o.dst v) w2) : o.wp P a w next Q := by
  unfold Oper.wp; rw [h]; exact hk
theorem wp_skp {o : Oper} {a : Act} {w w2 : World} {next : Act → World → Prop} {Q : Exit → Act → World → Prop} (h : (execOp a.eval o).run P w = .ok .skip w2) (hk : next (a.put o.dst undef) w2) : o.wp P a w next Q := by
  unfold Oper.wp; rw [h]; exact hk
theorem run_v {s : Sem Value} {w w2 : World} {v : Value} (h : s.run P w = .ok v w2) : ((do pure (.value (← s))) : Sem Next).run P w = .ok (.value v) w2 := by
  simp [h]

theorem TOK.isAgg {t : Nat} {i : TI} (h : TOK P t i) (w : World) : (isAgg t).run P w = .ok i.agg w := by
  obtain ⟨d, h1, h2⟩ := h.agg
  unfold Go.isAgg
  rw [Sem.run_bind, run_underlying h1 w, ← h2]
  cases d <;> rfl
theorem TOK.sizeOf {t : Nat} {i : TI} (h : TOK P t i) (w : World) : (sizeOf t).run P w = .ok i.size w := by
  obtain ⟨inf, z, h1, h2, _⟩ := h.info
  simp [Go.sizeOf, typeInfo, h1, h2]
theorem TOK.zeroV {t : Nat} {i : TI} (h : TOK P t i) (w : World) : ∃ z, (zeroValue t).run P w = .ok z w ∧ z.cells.toList = i.zero := by
  obtain ⟨inf, z, h1, h2, _, h4, h5⟩ := h.info
  exact ⟨z, by simp [zeroValue, typeInfo, h1, h4], h5⟩

/-- loads -/
theorem run_load_one {t : Nat} {i : TI} (ht : TOK P t i) (hagg : i.agg = false) {w : World} {ad : Addr} {x : Value} (hc : w.cell? ad = some x) :
    (Instr.loadAt t (.pointer (some ad))).run P w = .ok x w := by
  simp [Instr.loadAt, Instr.sureAddr, loadVar, ht.isAgg, hagg, hc]
theorem run_load_agg {t : Nat} {i : TI} (ht : TOK P t i) (hagg : i.agg = true) {w : World} {ad : Addr} {xs : List Value} (hl : xs.length = i.size) (hc : ∀ j v, xs[j]? = some v → w.cell? (ad.add j) = some v) :
    (Instr.loadAt t (.pointer (some ad))).run P w = .ok (.agg xs.toArray) w := by
  have := run_loadCells_list (P := P) w ad xs hc
  rw [hl] at this
  simp [Instr.loadAt, Instr.sureAddr, loadVar, ht.isAgg, hagg, ht.sizeOf, this]
theorem addr_add (g off j : Nat) : (⟨g, off, none⟩ : Addr).add j = ⟨g, off + j, none⟩ := by
  unfold Addr.add; split <;> simp_all

theorem nthA_spec : ∀ {cs : List At} {i : Nat}, nthA cs i = cs[i]?
  | [], i => by simp [nthA]
  | x :: r, 0 => by simp [nthA]
  | x :: r, i + 1 => by simp [nthA, nthA_spec (cs := r)]
theorem nthV_spec : ∀ {cs : List Value} {i : Nat}, nthV cs i = cs[i]?
  | [], i => by simp [nthV]
  | x :: r, 0 => by simp [nthV]
  | x :: r, i + 1 => by simp [nthV, nthV_spec (cs := r)]
theorem nthF_spec : ∀ {cs : List (Nat × Nat)} {i : Nat}, nthF cs i = cs[i]?
  | [], i => by simp [nthF]
  | x :: r, 0 => by simp [nthF]
  | x :: r, i + 1 => by simp [nthF, nthF_spec (cs := r)]

/-- the cells of a block that is known -/
theorem cell_of {w : World} {g t off : Nat} {cs : List Value} (h : w.heap[g]? = some (.cells cs.toArray t (0, 0))) : w.cell? ⟨g, off, none⟩ = cs[off]? := by
  rw [cell_of_row w g off _ t (0, 0) h]; simp

theorem map_v_den {xs : List Value} {ρ : Nat → Val} : (xs.map At.v).map (At.den ρ) = xs := by
  simp [Function.comp_def, At.den]

theorem loadK_spec (hτ : TabOK P τ) (rel0 : Rel H nx iv B w ρ w') {t : Nat} {addr : SV} (hs : addr.sc nx) {K : SV → Prop} (h : loadK τ B t addr H nx iv w K) :
    ∃ r, K r ∧ r.sc nx ∧ ∀ w', Rel H nx iv B w ρ w' → (Instr.loadAt t (addr.den ρ)).run P w' = .ok (r.den ρ) w' := by
  unfold loadK at h
  split at h
  · exact h.elim
  · rename_i sz ag by_ ze tag ik e al fs hti
    have ht := hτ t _ hti
    split at h
    · rename_i id off
      split at h
      · rename_i bt cs hH
        split at h
        · split at h
          · rename_i x hx
            rw [nthA_spec] at hx
            refine ⟨_, h, rel0.scH id bt cs hH x (List.mem_of_getElem? hx), fun w' rel => ?_⟩
            have hb := rel.box id bt cs hH
            exact run_load_one ht rfl (by rw [cell_of hb]; simp [hx, SV.den])
          · exact h.elim
        · have h1 := dropK_spec h
          have h2 := takeK_spec h1.1
          refine ⟨_, h2.1, fun c hc => rel0.scH id bt cs hH c (List.mem_of_mem_drop (List.mem_of_mem_take hc)), fun w' rel => ?_⟩
          have hb := rel.box id bt cs hH
          refine run_load_agg ht rfl (xs := ((cs.drop off).take sz).map (At.den ρ)) ?_ fun j v hv => ?_
          · have := h2.2; simp only [List.length_map, List.length_take]; omega
          · rw [addr_add, cell_of hb]
            simp only [List.getElem?_map, List.getElem?_take, List.getElem?_drop] at hv ⊢
            split at hv
            · exact hv
            · simp at hv
      · rename_i bt cs hH
        split at h
        · obtain ⟨x, hx, h⟩ := h
          exact ⟨_, h, trivial, fun w' rel => run_load_one ht rfl (by rw [cell_of (rel.arr id bt cs hH), hx]; rfl)⟩
        · obtain ⟨xs, hx, hl, h⟩ := h
          refine ⟨_, valsK_spec h, fun c hc => by simp at hc; obtain ⟨v, _, rfl⟩ := hc; trivial, fun w' rel => ?_⟩
          have hb := rel.arr id bt cs hH
          simp only [SV.den, map_v_den]
          refine run_load_agg ht rfl hl fun j v hv => ?_
          rw [addr_add, cell_of hb]
          rw [← hx] at hv
          simp only [List.getElem?_take, List.getElem?_drop] at hv
          split at hv
          · exact hv
          · simp at hv
      · rename_i bt ez cs hH
        split at h
        · obtain ⟨x, hx, h⟩ := h
          refine ⟨_, h, trivial, fun w' rel => ?_⟩
          have hb := rel.vec id bt ez cs hH
          rcases hb with ⟨_, rfl⟩ | ⟨hn, spare, hb, _⟩
          · simp at hx
          · refine run_load_one ht rfl ?_
            rw [cell_of hb]
            have : off < cs.length := (List.getElem?_eq_some_iff.1 hx).1
            rw [List.getElem?_append_left this, hx]; rfl
        · obtain ⟨xs, hx, hl, h⟩ := h
          refine ⟨_, valsK_spec h, fun c hc => by simp at hc; obtain ⟨v, _, rfl⟩ := hc; trivial, fun w' rel => ?_⟩
          have hb := rel.vec id bt ez cs hH
          simp only [SV.den, map_v_den]
          rcases hb with ⟨_, rfl⟩ | ⟨hn, spare, hb, _⟩
          · have : xs = [] := by rw [← hx]; simp
            subst this
            refine run_load_agg ht rfl hl fun j v hv => by simp at hv
          · refine run_load_agg ht rfl hl fun j v hv => ?_
            rw [addr_add, cell_of hb]
            rw [← hx] at hv
            simp only [List.getElem?_take, List.getElem?_drop] at hv
            split at hv
            · rw [List.getElem?_append_left (List.getElem?_eq_some_iff.1 hv).1]; exact hv
            · simp at hv
      · exact h.elim
    · rename_i ad
      split at h
      · obtain ⟨x, hx, h⟩ := h
        exact ⟨_, h, trivial, fun w' rel => run_load_one ht rfl (hx ρ w' rel)⟩
      · obtain ⟨xs, hl, hx, h⟩ := h
        refine ⟨_, valsK_spec h, fun c hc => by simp at hc; obtain ⟨v, _, rfl⟩ := hc; trivial, fun w' rel => ?_⟩
        simp only [SV.den, map_v_den]
        exact run_load_agg ht rfl hl fun j v hv => hx ρ w' rel j v hv
    · exact h.elim

/-- a store of cells into a known block -/
theorem run_store_blk {t : Nat} {i : TI} (ht : TOK P t i) {w : World} {g off bt : Nat} {old : List Value} (hb : w.heap[g]? = some (.cells old.toArray bt (0, 0))) {v : Value} {new : List Value}
    (hv : v.cells = new.toArray) (hl : new.length = i.size) (h1 : ∀ x ∈ new, x.oneCell' = true) (hfit : off + new.length ≤ old.length) :
    (Instr.storeAt t (.pointer (some ⟨g, off, none⟩)) v).run P w = .ok () (w.setRow g (old.take off ++ new ++ old.drop (off + new.length)).toArray) := by
  have := run_storeCells_at (P := P) g off bt new 0 old.toArray w hb (by simpa using hfit) h1
  simp only [Nat.add_zero] at this
  simp [Instr.storeAt, Instr.sureAddr, storeVar, ht.sizeOf, hv, hl, this]

theorem setCells_eq : ∀ (vs : List Value) (w : World) (b off : Nat), setCells w ⟨b, off, none⟩ vs = w.setCells b off vs
  | [], _, _, _ => rfl
  | x :: r, w, b, off => by
    simp only [setCells, World.setCells, addr_add]
    exact setCells_eq r _ b (off + 1)

theorem setRow_frame (w : World) (g : Nat) (c : Array Value) : (w.setRow g c).os = w.os ∧ (w.setRow g c).tape = w.tape ∧ (w.setRow g c).output = w.output := ⟨rfl, rfl, rfl⟩

theorem storeK_spec (hτ : TabOK P τ) (sat : Sat n l H nx iv B w ρ a w') {t : Nat} {addr x : SV} (hs : addr.sc nx) (hx : x.sc nx) {K : Hp → World → Prop} (h : storeK τ B t addr x H nx iv w K) :
    ∃ H' w2 w3, K H' w2 ∧ Rel H' nx iv B w2 ρ w3 ∧ (Instr.storeAt t (addr.den ρ) (x.den ρ)).run P w' = .ok () w3 := by
  unfold storeK at h
  split at h
  · exact h.elim
  rename_i sz ag by_ ze tag ik e al fs hti
  have ht := hτ t _ hti
  have rel := sat.rel
  have h0 := cellsK_spec h
  clear h
  obtain ⟨new, h00, hcells, hsc⟩ := h0
  have h0 := onesK_spec h00
  clear h00
  obtain ⟨h, hone⟩ := h0
  split at h
  · exact h.elim
  rename_i hlen
  have hlen := beq_t hlen
  have hcell := hcells ρ
  have hsc := hsc nx hx
  have h1 : ∀ v ∈ new.map (At.den ρ), v.oneCell' = true := by
    intro v hv; simp at hv; obtain ⟨c, hc, rfl⟩ := hv; exact one_den (hone c hc) ρ
  have hlm : (new.map (At.den ρ)).length = sz := by simpa using hlen
  split at h
  · rename_i id off
    split at h
    · rename_i bt cs hH
      have hb := rel.box id bt cs hH
      obtain ⟨hr, hfit⟩ := spliceK_spec h
      obtain ⟨H', hK, hH', _⟩ := setH_spec hr
      refine ⟨H', w, _, hK, ?_, run_store_blk ht (old := cs.map (At.den ρ)) hb hcell hlm h1 (by simp; omega)⟩
      refine rel.store hH (by simp) (rel.nn id _ hH (by intros; simp) (by simp)) hH' rfl rfl rfl (by simp) (fun k hk => setRow_other _ _ _ _ hk) ⟨rel.nn id _ hH (by intros; simp) (by simp), ?_⟩ ?_
      · rw [setRow_heap _ _ _ _ _ _ hb]; simp [List.map_drop, List.map_take]
      · intro c hc
        simp only [List.mem_append] at hc
        rcases hc with (hc | hc) | hc
        · exact rel.scH id bt cs hH c (List.mem_of_mem_take hc)
        · exact hsc c hc
        · exact rel.scH id bt cs hH c (List.mem_of_mem_drop hc)
    · rename_i bt cs hH
      have hb := rel.arr id bt cs hH
      obtain ⟨nv, hr, hnv, hnv1⟩ := rawK_spec h
      obtain ⟨hfit, cs', hcs', hr⟩ := hr
      obtain ⟨H', hK, hH', _⟩ := setH_spec hr
      have hnl : nv.length = sz := by rw [hnv] at hlen; simpa using hlen
      have hcell' : (x.den ρ).cells = nv.toArray := by rw [hcell, hnv, map_v_den]
      refine ⟨H', w, _, hK, ?_, run_store_blk ht hb hcell' hnl hnv1 (by omega)⟩
      refine rel.store hH (by simp) (rel.nn id _ hH (by intros; simp) (by simp)) hH' rfl rfl rfl (by simp) (fun k hk => setRow_other _ _ _ _ hk) ⟨rel.nn id _ hH (by intros; simp) (by simp), ?_⟩ trivial
      rw [setRow_heap _ _ _ _ _ _ hb, hnl, hcs']
    · rename_i bt ez cs hH
      have hb := rel.vec id bt ez cs hH
      obtain ⟨nv, hr, hnv, hnv1⟩ := rawK_spec h
      obtain ⟨hfit, cs', hcs', hr⟩ := hr
      obtain ⟨H', hK, hH', _⟩ := setH_spec hr
      have hnl : nv.length = sz := by rw [hnv] at hlen; simpa using hlen
      have hcell' : (x.den ρ).cells = nv.toArray := by rw [hcell, hnv, map_v_den]
      rcases hb with ⟨hnil, rfl⟩ | ⟨hn, spare, hb, hsl, hcap⟩
      · -- nothing can be stored into a nil slice: only a value without cells
        have h0 : sz = 0 := by simp at hfit; omega
        have hnv0 : nv = [] := by cases nv with | nil => rfl | cons _ _ => simp at hnl; omega
        subst hnv0
        have : cs' = [] := by rw [← hcs']; simp
        subst this
        refine ⟨H', w, w', hK, ?_, ?_⟩
        · have hHH : ∀ j, getH H' j = getH H j := fun j => by rw [hH']; split <;> simp_all
          exact Rel.mk' rel.os rel.tape rel.output rel.size rel.base rel.ivs (fun id b h => rel.keys id b (by rw [← hHH]; exact h)) (fun id b h => rel.fits (by rw [← hHH]; exact h)) (fun id b h => rel.scopd (by rw [← hHH]; exact h))
            (fun i j b b' h1 h2 => rel.inj i j b b' (by rw [← hHH]; exact h1) (by rw [← hHH]; exact h2)) (fun id b h => rel.low id b (by rw [← hHH]; exact h))
            (fun k hk hne => rel.frm k hk fun id b h => hne id b (by rw [hHH]; exact h)) (fun lo hi hm id b h => rel.prot lo hi hm id b (by rw [← hHH]; exact h))
        · subst h0
          show (Instr.storeAt t (.pointer (some ⟨(ρ id).g, off, none⟩)) (x.den ρ)).run P w' = _
          generalize x.den ρ = xv at hcell' ⊢
          simp [Instr.storeAt, Instr.sureAddr, storeVar, ht.sizeOf, hcell', storeCells]
      · refine ⟨H', w, _, hK, ?_, run_store_blk ht hb hcell' hnl hnv1 (by simp; omega)⟩
        refine rel.store hH (by simp) hn hH' rfl rfl rfl (by simp) (fun k hk => setRow_other _ _ _ _ hk) (.inr ⟨hn, spare, ?_, ?_, hcap⟩) trivial
        · rw [setRow_heap _ _ _ _ _ _ hb, ← hcs', hnl]
          congr 2
          rw [List.take_append_of_le_length (by omega), List.drop_append_of_le_length (by omega)]
          simp
        · rw [← hsl, ← hcs']; simp; omega
    · exact h.elim
  · rename_i ad
    obtain ⟨nv, hr, hnv, hnv1⟩ := rawK_spec h
    obtain ⟨hspot, hok, hne, hK⟩ := hr ρ w' rel
    have hnl : nv.length = sz := by rw [hnv] at hlen; simpa using hlen
    have hcell' : (x.den ρ).cells = nv.toArray := by rw [hcell, hnv, map_v_den]
    obtain ⟨b, off, spot⟩ := ad
    simp only at hspot hne
    subst hspot
    have hst := run_storeCells_cells (P := P) b off nv 0 w' (fun j hj => by have := (hok j (by omega)).1; rwa [addr_add] at this) (fun j hj => by have := (hok j (by omega)).2; rwa [addr_add] at this) hnv1
    have hother : ∀ k, k ≠ b → (w'.setCells b off nv).heap[k]? = w'.heap[k]? := by
      intro k hk
      clear hst hok h hr hK hnv hnv1 hcell' hnl
      induction nv generalizing w' off with
      | nil => rfl
      | cons v r ih =>
        simp only [World.setCells]
        rw [show (∀ (w0 : World) (o : Nat), (w0.setCells b o r).heap[k]? = w0.heap[k]?) from ?_]
        · simp [World.setCell, Array.getElem?_modify, Ne.symm hk]
        · clear ih
          intro w0 o
          induction r generalizing w0 o with
          | nil => rfl
          | cons v r ih => simp only [World.setCells]; rw [ih]; simp [World.setCell, Array.getElem?_modify, Ne.symm hk]
    have hfrm : (w'.setCells b off nv).os = w'.os ∧ (w'.setCells b off nv).tape = w'.tape ∧ (w'.setCells b off nv).output = w'.output ∧ (w'.setCells b off nv).heap.size = w'.heap.size := by
      have : ∀ (vs : List Value) (w0 : World) (o : Nat), (w0.setCells b o vs).os = w0.os ∧ (w0.setCells b o vs).tape = w0.tape ∧ (w0.setCells b o vs).output = w0.output ∧ (w0.setCells b o vs).heap.size = w0.heap.size := by
        intro vs
        induction vs with
        | nil => intro w0 o; exact ⟨rfl, rfl, rfl, rfl⟩
        | cons v r ih => intro w0 o; simp only [World.setCells]; obtain ⟨h1, h2, h3, h4⟩ := ih (w0.setCell ⟨b, o, none⟩ v) (o + 1); exact ⟨h1, h2, h3, by rw [h4]; simp⟩
      exact this nv w' off
    refine ⟨H, _, w'.setCells b off nv, hK _ rfl, ?_, ?_⟩
    · rw [setCells_eq]
      refine Rel.mk' rfl rfl rfl (Nat.le_refl _) (by rw [hfrm.2.2.2]; have := rel.base; have := rel.size; omega) (fun lo hi hm => by rw [hfrm.2.2.2]; have := rel.ivs lo hi hm; have := rel.size; omega) rel.keys
        (fun id b' h => Blk.fits_keep (rel.fits h) (fun _ _ => rfl) (rel.scopd h) (fun hnil _ => hother _ (hne id b' h hnil))) (fun id b' h => rel.scopd h) rel.inj (fun id b' h hnil => by rw [hfrm.2.2.2]; exact rel.low id b' h hnil) (fun _ _ _ => rfl) rel.prot
    · show (Instr.storeAt t (.pointer (some ⟨b, off, none⟩)) (x.den ρ)).run P w' = _
      generalize x.den ρ = xv at hcell' ⊢
      simp at hst
      simp [Instr.storeAt, Instr.sureAddr, storeVar, ht.sizeOf, hcell', hnl, hst]
  · exact h.elim
end
end Go.Sx
