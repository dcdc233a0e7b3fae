/- A part of the proof of TopFewestHandlings: contracts of functions of package erection, part 27. Their conditions stand in the theorems. -/
import Derived.Test.YtbkpmaflldbfeaaEr26
namespace Go.Er
open Go Go.Sx Go.Proofs

/-- the count of orders as the program counts them -/
def ordStep (ts : List Tk) (ws : List Int) (x k : Nat) : List Int := match decide (ws.getD x 0 > 0) && canF ts x k with
  | true => ws.set (x ||| 2 ^ k) (IntKind.i64.wrap (ws.getD (x ||| 2 ^ k) 0 + ws.getD x 0))
  | false => ws
def ordIn (ts : List Tk) (x : Nat) : Nat → List Int → List Int
  | 0, ws => ws
  | k + 1, ws => ordStep ts (ordIn ts x k ws) x k
def ordGo (ts : List Tk) : Nat → List Int → List Int
  | 0, ws => ws
  | x + 1, ws => ordIn ts x ts.length (ordGo ts x ws)
def ordF (ts : List Tk) : Int := (ordGo ts (2 ^ ts.length) ((List.replicate (2 ^ ts.length) (0 : Int)).set 0 1)).getD (2 ^ ts.length - 1) 0
theorem ordStep_len (ts : List Tk) (ws : List Int) (x k : Nat) : (ordStep ts ws x k).length = ws.length := by
  unfold ordStep; split <;> simp
theorem ordIn_len (ts : List Tk) (x : Nat) : ∀ (k : Nat) (ws : List Int), (ordIn ts x k ws).length = ws.length
  | 0, _ => rfl
  | k + 1, ws => by rw [ordIn, ordStep_len, ordIn_len ts x k]
theorem ordGo_len (ts : List Tk) : ∀ (x : Nat) (ws : List Int), (ordGo ts x ws).length = ws.length
  | 0, _ => rfl
  | x + 1, ws => by rw [ordGo, ordIn_len, ordGo_len ts x]
def OrdB (ts : List Tk) (v : Value) : Prop := ∃ m, v = .tuple #[.int .i64 m, .int .i64 (checkF ts)] ∧ (checkF ts = 0 → m = ordF ts)

theorem orders_c (a : Option Addr) (n c : Nat) (ts : List Tk) (w : World) (hT : TasksB w w.heap.size a n ts) (hS : Sml ts) :
    Con Try.prog 10 #[.slice a n c] w (Ret w fun v w2 => OrdB ts v) := by
  obtain rfl : n = ts.length := hT.len
  have hn8 := hS.1
  refine ⟨ent10, calls_f Try.func10 (by rfl) (by simp) (by rfl) ?_⟩
  conv => whnf
  refine callE_S (callE_con (Φ := fun _ w' v w2 => SmallB ts a c w'.heap.size v w2) (fun ρ w' r => small_c a _ c ts w' (hT.up r.bel r.size) hS) ?_)
  rintro ρ w' v w2 r he hb ⟨a', n', c', b, m, cb, rfl, hx⟩
  conv => whnf
  refine BrS.mk (fun h1 => ?_) (fun h1 => ?_)
  · have h1 : checkF ts ≠ 0 := by simpa using h1
    conv => whnf
    intro ρ w3 r
    exact ⟨_, rfl, hb.tr r.bel, _, rfl, fun h => absurd h h1⟩
  have h1 : checkF ts = 0 := by simpa using h1
  obtain ⟨rfl, rfl, rfl, rfl, hU⟩ := hx h1
  have hO := checkF_zero h1
  have hA : Amid w w2 w2 w'.heap.size w2.heap.size := ⟨hb, fun _ _ _ => rfl, Nat.le_refl _⟩
  generalize w'.heap.size = s1 at *
  generalize hs2 : w2.heap.size = s2 at *
  clear hx he r
  conv => whnf
  refine callE_S (callE_con (Φ := fun _ _ v _ => v = .int .u64 ((2 ^ ts.length - 1 : Nat) : Int)) (fun ρ w' r => full_c _ b ts.length _ ts.length cb w' hn8) ?_)
  rintro ρ w' v w3 r he hb rfl
  replace hA := (hA.rel r (by simp)).call he
  clear r he hb
  have hp1 : 1 ≤ 2 ^ ts.length := Nat.one_le_two_pow
  have hp2 : 2 ^ ts.length ≤ 2 ^ 8 := Nat.pow_le_pow_right (by decide) hn8
  obtain ⟨N, hN⟩ : ∃ N, N = 2 ^ ts.length := ⟨_, rfl⟩
  rw [← hN] at hp1 hp2
  conv => whnf
  refine ⟨(N : Int), by rw [wrapU64] <;> omega, ?_⟩
  conv => whnf
  refine ⟨N, N, rfl, rfl, Nat.le_refl _, by omega, by omega, ?_⟩
  conv => whnf
  refine ⟨⟨by omega, by omega⟩, ?_⟩
  conv => whnf
  refine ⟨by simp; omega, ((List.replicate N (0 : Int)).set 0 1).map (Value.int .i64), ?_, ?_⟩
  · have := splice_one ((List.replicate N (0 : Int)).map (Value.int .i64)) 0 (.int .i64 1) (by simp; omega)
    simpa [List.map_set] using this
  conv => whnf
  refine ⟨Nat × World, fun x => ⟨[(0, .o (.v (.slice a' ts.length c'))), (4, .o (.p 0 0)), (6, .o (.s 1 0 N N)), (24, .o (.v (.int .i64 N))), (25, .o (.v (.int .i64 x.1)))],
      [(1, .arr 3 ((ordGo ts x.1 ((List.replicate N (0 : Int)).set 0 1)).map (Value.int .i64))), (0, .box 41 [.v (.slice a' ts.length c'), .v (.slice b ts.length cb)])], 2, [(s1, s2)], x.2⟩, fun x => N - x.1,
    fun x => x.1 ≤ N ∧ Amid w w2 x.2 s1 s2, ?_, ?_⟩
  · intro ρ w' r
    exact ⟨(0, w'), ⟨by simp, hA.rel r (by simp)⟩, Sub.gen [] r ⟨rfl, rfl, trivial⟩ ⟨rfl, rfl, rfl, rfl, rfl, trivial⟩ (by simp [ScH, Blk.scopd, At.sc]) (by simp [ScE, SV.sc, At.sc]) (by rfl) (by simp)⟩
  · rintro ⟨x, wi⟩ ⟨hxN, hA⟩
    dsimp only at hxN hA ⊢
    have hwl : (ordGo ts x ((List.replicate N (0 : Int)).set 0 1)).length = N := by rw [ordGo_len]; simp
    generalize hws : ordGo ts x ((List.replicate N (0 : Int)).set 0 1) = ws at hwl
    conv => whnf
    refine BrS.mk (fun h => ?_) (fun h => ?_)
    · have h : x < N := by simpa using h
      conv => whnf
      refine ⟨Nat × World, fun y => ⟨[(0, .o (.v (.slice a' ts.length c'))), (4, .o (.p 0 0)), (6, .o (.s 1 0 N N)), (24, .o (.v (.int .i64 N))), (25, .o (.v (.int .i64 x))), (7, .o (.v (.int .i64 x))), (29, .o (.v (.int .i64 ts.length))), (30, .o (.v (.int .i64 y.1)))],
          [(1, .arr 3 ((ordIn ts x y.1 ws).map (Value.int .i64))), (0, .box 41 [.v (.slice a' ts.length c'), .v (.slice b ts.length cb)])], 2, [(s1, s2)], y.2⟩, fun y => ts.length - y.1,
        fun y => y.1 ≤ ts.length ∧ Amid w w2 y.2 s1 s2, ?_, ?_⟩
      · intro ρ w' r
        exact ⟨(0, w'), ⟨by simp, hA.rel r (by simp)⟩, Sub.gen [] r ⟨rfl, rfl, trivial⟩ ⟨rfl, rfl, rfl, rfl, rfl, rfl, rfl, rfl, trivial⟩ (by simp [ScH, Blk.scopd, At.sc]) (by simp [ScE, SV.sc, At.sc]) (by rfl) (by simp)⟩
      · rintro ⟨k, wi⟩ ⟨hk, hA⟩
        dsimp only at hk hA ⊢
        have hvl : (ordIn ts x k ws).length = N := by rw [ordIn_len, hwl]
        generalize hvs : ordIn ts x k ws = vs at hvl
        conv => whnf
        refine BrS.mk (fun h => ?_) (fun h => ?_)
        · have h : k < ts.length := by simpa using h
          have hstep : ordIn ts x (k + 1) ws = ordStep ts vs x k := by rw [ordIn, hvs]
          unfold ordStep at hstep
          obtain ⟨vx, hvx⟩ : ∃ y, vs[x]? = some y := ⟨_, List.getElem?_eq_getElem (by omega)⟩
          rw [show vs.getD x 0 = vx by simp [hvx]] at hstep
          conv => whnf
          refine ⟨⟨by omega, by omega⟩, ?_⟩
          conv => whnf
          refine ⟨.int .i64 vx, by simp [hvx], ?_⟩
          conv => whnf
          refine BrS.mk (fun h2 => ?_) (fun h2 => ?_)
          · rw [h2, Bool.true_and] at hstep
            conv => whnf
            refine ⟨(x : Int), by rw [wrapU64] <;> omega, ?_⟩
            conv => whnf
            refine callE_S (callE_con (Φ := fun _ _ v _ => v = .bool (canF ts x k)) (fun ρ w' r => can_c _ b _ _ _ cb _ x (bitsAt ts k) k w' ((hA.rel r (by simp)).bits hU) (by omega) (bits_get h) (by have := bitsAt_lt hO.rng k; omega) (by omega)) ?_)
            rintro ρ w' v w3 r he hb rfl
            replace hA := (hA.rel r (by simp)).call he
            clear r he hb
            conv => whnf
            refine BrS.mk (fun hc => ?_) (fun hc => ?_)
            · rw [hc] at hstep
              dsimp only at hstep
              have hk2 : 2 ^ k < 2 ^ 62 := Nat.pow_lt_pow_right (by decide) (by omega)
              have hor := or_lt (n := ts.length) (x := x) (k := k) (by omega) h
              obtain ⟨vy, hvy⟩ : ∃ y, vs[x ||| 2 ^ k]? = some y := ⟨_, List.getElem?_eq_getElem (by omega)⟩
              rw [show vs.getD (x ||| 2 ^ k) 0 = vy by simp [hvy]] at hstep
              conv => whnf
              refine drawn_of_pi hτ hmix [.x 0, .x 1, .x 2, .x 3, .x 4, .x 5, .x 6, .x 7, .x 8, .x 9, .x 10, .x 11, .x 12, .x 13] (by kernel_rfl) (by kernel_rfl) ?_
              conv => whnf
              refine ⟨by omega, ((2 ^ k : Nat) : Int), shl64i (by omega), ?_⟩
              conv => whnf
              refine ⟨((x ||| 2 ^ k : Nat) : Int), or64i (by omega) (by omega), ?_⟩
              conv => whnf
              generalize x ||| 2 ^ k = z at hvy hstep hor
              refine ⟨⟨by omega, by omega⟩, ?_⟩
              conv => whnf
              refine ⟨.int .i64 vy, by simp [hvy], ?_⟩
              conv => whnf
              refine ⟨⟨by omega, by omega⟩, ?_⟩
              conv => whnf
              refine ⟨.int .i64 vx, by simp [hvx], ?_⟩
              conv => whnf
              refine ⟨_, rfl, ?_⟩
              conv => whnf
              refine ⟨⟨by omega, by omega⟩, ?_⟩
              conv => whnf
              refine ⟨by simp; omega, (vs.set z (IntKind.i64.wrap (vy + vx))).map (Value.int .i64), ?_, ?_⟩
              · have := splice_one (vs.map (Value.int .i64)) z (.int .i64 (IntKind.i64.wrap (vy + vx))) (by simp; omega)
                simpa [List.map_set] using this
              conv => whnf
              refine ⟨(k + 1 : Nat), by rw [wrap64] <;> omega, ?_⟩
              conv => whnf
              intro ρ3 w3 r3
              refine ⟨(k + 1, w3), ⟨by simp; omega, hA.rel r3 (by simp)⟩, ?_, by simp; omega⟩
              dsimp only
              rw [hstep]
              exact Sub.gen [] r3 ⟨rfl, rfl, trivial⟩ ⟨rfl, rfl, rfl, rfl, rfl, rfl, rfl, rfl, trivial⟩ (by simp [ScH, Blk.scopd, At.sc]) (by simp [ScE, SV.sc, At.sc]) (by rfl) (by simp)
            · rw [hc] at hstep
              dsimp only at hstep
              conv => whnf
              refine ⟨(k + 1 : Nat), by rw [wrap64] <;> omega, ?_⟩
              conv => whnf
              intro ρ3 w3 r3
              refine ⟨(k + 1, w3), ⟨by simp; omega, hA.rel r3 (by simp)⟩, ?_, by simp; omega⟩
              dsimp only
              rw [hstep]
              exact Sub.gen [] r3 ⟨rfl, rfl, trivial⟩ ⟨rfl, rfl, rfl, rfl, rfl, rfl, rfl, rfl, trivial⟩ (by simp [ScH, Blk.scopd, At.sc]) (by simp [ScE, SV.sc, At.sc]) (by rfl) (by simp)
          · rw [h2, Bool.false_and] at hstep
            dsimp only at hstep
            conv => whnf
            refine ⟨(k + 1 : Nat), by rw [wrap64] <;> omega, ?_⟩
            conv => whnf
            intro ρ3 w3 r3
            refine ⟨(k + 1, w3), ⟨by simp; omega, hA.rel r3 (by simp)⟩, ?_, by simp; omega⟩
            dsimp only
            rw [hstep]
            exact Sub.gen [] r3 ⟨rfl, rfl, trivial⟩ ⟨rfl, rfl, rfl, rfl, rfl, rfl, rfl, rfl, trivial⟩ (by simp [ScH, Blk.scopd, At.sc]) (by simp [ScE, SV.sc, At.sc]) (by rfl) (by simp)
        · have hkn : k = ts.length := by have : ¬ k < ts.length := by simpa using h
                                         omega
          subst hkn
          conv => whnf
          refine ⟨(x + 1 : Nat), by rw [wrap64] <;> omega, ?_⟩
          conv => whnf
          intro ρ3 w3 r3
          refine ⟨(x + 1, w3), ⟨by simp; omega, hA.rel r3 (by simp)⟩, ?_, by simp; omega⟩
          dsimp only
          rw [ordGo, hws, hvs]
          exact Sub.gen [] r3 ⟨rfl, rfl, trivial⟩ ⟨rfl, rfl, rfl, rfl, rfl, trivial⟩ (by simp [ScH, Blk.scopd, At.sc]) (by simp [ScE, SV.sc, At.sc]) (by rfl) (by simp)
    · have hxn : x = N := by have : ¬ x < N := by simpa using h
                             omega
      subst hxn
      have hF : ordF ts = ws.getD (x - 1) 0 := by rw [ordF, ← hN, hws]
      obtain ⟨y, hy⟩ : ∃ y, ws[x - 1]? = some y := ⟨_, List.getElem?_eq_getElem (by omega)⟩
      rw [show ws.getD (x - 1) 0 = y by simp [hy]] at hF
      conv => whnf
      refine callE_S (callE_con (Φ := fun _ _ v _ => v = .int .u64 ((2 ^ ts.length - 1 : Nat) : Int)) (fun ρ w' r => full_c _ b ts.length _ ts.length cb w' hn8) ?_)
      rintro ρ w' v w3 r he hb rfl
      replace hA := (hA.rel r (by simp)).call he
      clear r he hb
      rw [← hN]
      conv => whnf
      refine ⟨⟨by omega, by omega⟩, ?_⟩
      conv => whnf
      refine ⟨.int .i64 y, by simp [hy], ?_⟩
      conv => whnf
      intro ρ3 w3 r3
      exact ⟨_, rfl, hA.bel.tr r3.bel, y, by rw [h1]; rfl, fun _ => hF.symm⟩
end Go.Er
