/- The base of the proofs of this seat: the types' table, the bodies, that calls enter. -/
import Derived.Test.YtbkpmaflldbfeaaSx13
import Derived.Test.YtbkpmaflldbfeaaProg
namespace Go.Er
open Go Go.Sx Go.Proofs

def tabl : List (Nat × TI) := [
  (3, { size := 1, bytes := 8, zero := [.int .i64 0], agg := false, tag := 1, ik := .i64 }),
  (4, { size := 1, bytes := 1, zero := [.bool false], agg := false, tag := 2 }),
  (23, { size := 1, bytes := 24, zero := [.slice none 0 0], agg := false, tag := 4, elem := 3 }),
  (22, { size := 1, bytes := 24, zero := [.slice none 0 0], agg := false, tag := 4, elem := 38 }),
  (38, { size := 6, bytes := 80, zero := [.string ⟨#[]⟩, .string ⟨#[]⟩, .int .i64 0, .int .i64 0, .int .i64 0, .slice none 0 0], agg := true, tag := 5, fields := [(0, 9), (1, 9), (2, 3), (3, 3), (4, 3), (5, 23)] }),
  (9, { size := 1, bytes := 16, zero := [.string ⟨#[]⟩], agg := false, tag := 3 }),
  (26, { size := 1, bytes := 8, zero := [.int .i64 0], agg := false, tag := 1, ik := .i64 }),
  (44, { size := 1, bytes := 8, zero := [.int .u64 0], agg := false, tag := 1, ik := .u64 }),
  (39, { size := 1, bytes := 24, zero := [.slice none 0 0], agg := false, tag := 4, elem := 44 }),
  (41, { size := 2, bytes := 48, zero := [.slice none 0 0, .slice none 0 0], agg := true, tag := 5, fields := [(0, 22), (1, 39)] }),
  (31, { size := 1, bytes := 24, zero := [.slice none 0 0], agg := false, tag := 4, elem := 23 }),
  (57, { size := 1, bytes := 24, zero := [.slice none 0 0], agg := false, tag := 4, elem := 4 }),
  (62, { size := 1, bytes := 24, zero := [.slice none 0 0], agg := false, tag := 4, elem := 3 }),
  (5, { size := 1, bytes := 1, zero := [.int .u8 0], agg := false, tag := 1, ik := .u8 }),
  (53, { size := 1, bytes := 8, zero := [.map none], agg := false, tag := 0 }),
  (59, { size := 1, bytes := 8, zero := [.nilFunc], agg := false, tag := 0 }),
  (65, { size := 1, bytes := 24, zero := [.slice none 0 0], agg := false, tag := 4, elem := 5 }),
  (68, { size := 1, bytes := 8, zero := [.pointer none], agg := false, tag := 7 })]
def τ : Tab := tabLook tabl
theorem hτ : TabOK Try.prog τ := tab_of (l := tabl) (by rfl)
theorem hmix : Try.prog.follows .mixedOrders = true := by rfl
noncomputable def bd (f : Func) : Code := match f.body with
  | some c => c
  | none => .skip
theorem ent3 : Enters Try.prog 3 := enters_of Try.func3 (c := bd Try.f3) (by rfl) (by rfl)
theorem ent4 : Enters Try.prog 4 := enters_of Try.func4 (c := bd Try.f4) (by rfl) (by rfl)
theorem ent5 : Enters Try.prog 5 := enters_of Try.func5 (c := bd Try.f5) (by rfl) (by rfl)
theorem ent6 : Enters Try.prog 6 := enters_of Try.func6 (c := bd Try.f6) (by rfl) (by rfl)
theorem ent7 : Enters Try.prog 7 := enters_of Try.func7 (c := bd Try.f7) (by rfl) (by rfl)
theorem ent8 : Enters Try.prog 8 := enters_of Try.func8 (c := bd Try.f8) (by rfl) (by rfl)
theorem ent9 : Enters Try.prog 9 := enters_of Try.func9 (c := bd Try.f9) (by rfl) (by rfl)
theorem ent10 : Enters Try.prog 10 := enters_of Try.func10 (c := bd Try.f10) (by rfl) (by rfl)
theorem ent11 : Enters Try.prog 11 := enters_of Try.func11 (c := bd Try.f11) (by rfl) (by rfl)
theorem ent12 : Enters Try.prog 12 := enters_of Try.func12 (c := bd Try.f12) (by rfl) (by rfl)
theorem ent13 : Enters Try.prog 13 := enters_of Try.func13 (c := bd Try.f13) (by rfl) (by rfl)
theorem ent14 : Enters Try.prog 14 := enters_of Try.func14 (c := bd Try.f14) (by rfl) (by rfl)
theorem ent15 : Enters Try.prog 15 := enters_of Try.func15 (c := bd Try.f15) (by rfl) (by rfl)
theorem ent16 : Enters Try.prog 16 := enters_of Try.func16 (c := bd Try.f16) (by rfl) (by rfl)
theorem ent17 : Enters Try.prog 17 := enters_of Try.func17 (c := bd Try.f17) (by rfl) (by rfl)
theorem ent18 : Enters Try.prog 18 := enters_of Try.func18 (c := bd Try.f18) (by rfl) (by rfl)
theorem ent19 : Enters Try.prog 19 := enters_of Try.func19 (c := bd Try.f19) (by rfl) (by rfl)
theorem ent20 : Enters Try.prog 20 := enters_of Try.func20 (c := bd Try.f20) (by rfl) (by rfl)
theorem ent21 : Enters Try.prog 21 := enters_of Try.func21 (c := bd Try.f21) (by rfl) (by rfl)
theorem ent22 : Enters Try.prog 22 := enters_of Try.func22 (c := bd Try.f22) (by rfl) (by rfl)
theorem ent23 : Enters Try.prog 23 := enters_of Try.func23 (c := bd Try.f23) (by rfl) (by rfl)
theorem ent24 : Enters Try.prog 24 := enters_of Try.func24 (c := bd Try.f24) (by rfl) (by rfl)
theorem ent25 : Enters Try.prog 25 := enters_of Try.func25 (c := bd Try.f25) (by rfl) (by rfl)
theorem ent26 : Enters Try.prog 26 := enters_of Try.func26 (c := bd Try.f26) (by rfl) (by rfl)
theorem ent27 : Enters Try.prog 27 := enters_of Try.func27 (c := bd Try.f27) (by rfl) (by rfl)
theorem ent28 : Enters Try.prog 28 := enters_of Try.func28 (c := bd Try.f28) (by rfl) (by rfl)
theorem ent29 : Enters Try.prog 29 := enters_of Try.func29 (c := bd Try.f29) (by rfl) (by rfl)
theorem ent30 : Enters Try.prog 30 := enters_of Try.func30 (c := bd Try.f30) (by rfl) (by rfl)
theorem ent31 : Enters Try.prog 31 := enters_of Try.func31 (c := bd Try.f31) (by rfl) (by rfl)
theorem ent32 : Enters Try.prog 32 := enters_of Try.func32 (c := bd Try.f32) (by rfl) (by rfl)
theorem ent33 : Enters Try.prog 33 := enters_of Try.func33 (c := bd Try.f33) (by rfl) (by rfl)
theorem calls_f {f : FuncId} {fn : Func} {args : Array Value} {w : World} {R : Ending → World → Prop} (hf : Try.prog.funcs[f]? = some fn) (hb : fn.body = some (bd fn))
    (hn : args.size ≤ fn.ntmps) (hok : codeOk fn.ntmps (bd fn) = true) (h : sxCode Try.prog τ w.heap.size (bd fn) (initE 0 args.toList) [] 0 [] w (retK τ w.heap.size fn.results.toList R)) : Calls Try.prog f args w R :=
  calls_of_sx hτ hf hb hn hok h
end Go.Er
