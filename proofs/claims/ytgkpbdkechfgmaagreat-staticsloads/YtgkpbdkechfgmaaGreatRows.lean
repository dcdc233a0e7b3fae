/-
  No cell of these rows narrows 'for every input' (looked for: loops, veiled, ifaces, maps, wideKeys, modest, calm, conditions, laid).
  DERIVED. THE GIVEN ROWS OF THIS SEAT. 8 by the template 'for every input the law returns true; each argument reads behind the call as it read before'; 0 by the template 'total and deterministic' (their statements: YtgkpbdkechfgmaaGreatTotals.lean).
  GIVEN WITH THE SEED: the statements are not yours to turn. If you find one false, say at which input.
  Laid BY PROGRAM, IN A SANDBOX (cutbox-rows.mjs): the forced cells as the released guide's own fill.sh prints them over the translation d877eff31cbdbcd7… (all of the seat's roots in one cut). By AI agents, Wed Nov 11 2026. No macro, syntax, notation, axiom, sorry.
-/
import Derived.Test.YtgkpbdkechfgmaaGreatChecked
import GoSem.Claim
import GoSem.ClaimJoined
import GoSem.ClaimMapViews
import Derived.JoinedTies
import Derived.KernelRfl
namespace Go.Proofs.YtgkpbdkechfgmaaGreat
/- THE CELL 'sum', in the pinned program and in every row, IS THE sha256 OF THE DUMP (.gsa) THAT YtgkpbdkechfgmaaGreatProg.lean LOADS. Nothing in Lean hashes anything: it is a label: what it is worth is what the hold of that sum in a sandbox is worth. -/
noncomputable def Tryz.pinned : Pinned := { name := "ytgkpbdkechfgmaagreat", sum := "d877eff31cbdbcd7b2c7c3b7594b6a5e94eb319a73ed224abc8309dd878a1ead", checked := Tryz.checked }
namespace Rows
def none {H : Type} : Left H := { results := [], args := [] }

/-- 'putlogtop.TopWorstIsWorst': WHATEVER THE INPUT: true; the input reads as it did. -/
def topWorstIsWorstSpec : ChangeSpec := { name := "topWorstIsWorst", fn := fun _ => fun
  | [d1, d2] => { results := [.lit (.bool true)], args := [d1, d2] }
  | _ => none }
def topWorstIsWorstRow : OpenClaim := { program := "ytgkpbdkechfgmaagreat", sum := "d877eff31cbdbcd7b2c7c3b7594b6a5e94eb319a73ed224abc8309dd878a1ead", func := "putlog/putlogtop.TopWorstIsWorst", spec := "topWorstIsWorst", plainKeys := false, apart := false }
def TopWorstIsWorstSaid : Prop := topWorstIsWorstRow.holds Tryz.pinned (OpenSpec.ofChange topWorstIsWorstSpec)

/-- ITS FALSE NEIGHBOUR: 'it returns false'. Refute it at one input. -/
def topWorstIsWorstWrong : ChangeSpec := { name := "topWorstIsWorst", fn := fun _ => fun
  | [d1, d2] => { results := [.lit (.bool false)], args := [d1, d2] }
  | _ => none }
def TopWorstIsWorstWrongFalsely : Prop := topWorstIsWorstRow.holds Tryz.pinned (OpenSpec.ofChange topWorstIsWorstWrong)

/-- 'putloglaw05.StaticsCarries': WHATEVER THE INPUT: true; the input reads as it did. -/
def staticsCarriesSpec : ChangeSpec := { name := "staticsCarries", fn := fun _ => fun
  | [d1, d2] => { results := [.lit (.bool true)], args := [d1, d2] }
  | _ => none }
def staticsCarriesRow : OpenClaim := { program := "ytgkpbdkechfgmaagreat", sum := "d877eff31cbdbcd7b2c7c3b7594b6a5e94eb319a73ed224abc8309dd878a1ead", func := "putlog/putloglaw05.StaticsCarries", spec := "staticsCarries", unfollowed := true, recurses := true, plainKeys := false, apart := false }
def StaticsCarriesSaid : Prop := staticsCarriesRow.holds Tryz.pinned (OpenSpec.ofChange staticsCarriesSpec)

/-- ITS FALSE NEIGHBOUR: 'it returns false'. Refute it at one input. -/
def staticsCarriesWrong : ChangeSpec := { name := "staticsCarries", fn := fun _ => fun
  | [d1, d2] => { results := [.lit (.bool false)], args := [d1, d2] }
  | _ => none }
def StaticsCarriesWrongFalsely : Prop := staticsCarriesRow.holds Tryz.pinned (OpenSpec.ofChange staticsCarriesWrong)

/-- 'putloglaw05.StaticsLoads': WHATEVER THE INPUT: true; the input reads as it did. -/
def staticsLoadsSpec : ChangeSpec := { name := "staticsLoads", fn := fun _ => fun
  | [d1, d2, d3] => { results := [.lit (.bool true)], args := [d1, d2, d3] }
  | _ => none }
def staticsLoadsRow : OpenClaim := { program := "ytgkpbdkechfgmaagreat", sum := "d877eff31cbdbcd7b2c7c3b7594b6a5e94eb319a73ed224abc8309dd878a1ead", func := "putlog/putloglaw05.StaticsLoads", spec := "staticsLoads", plainKeys := false, apart := false }
def StaticsLoadsSaid : Prop := staticsLoadsRow.holds Tryz.pinned (OpenSpec.ofChange staticsLoadsSpec)

/-- ITS FALSE NEIGHBOUR: 'it returns false'. Refute it at one input. -/
def staticsLoadsWrong : ChangeSpec := { name := "staticsLoads", fn := fun _ => fun
  | [d1, d2, d3] => { results := [.lit (.bool false)], args := [d1, d2, d3] }
  | _ => none }
def StaticsLoadsWrongFalsely : Prop := staticsLoadsRow.holds Tryz.pinned (OpenSpec.ofChange staticsLoadsWrong)

/-- 'putlogtop.TopLessIsStable': WHATEVER THE INPUT: true; the input reads as it did. -/
def topLessIsStableSpec : ChangeSpec := { name := "topLessIsStable", fn := fun _ => fun
  | [d1, d2] => { results := [.lit (.bool true)], args := [d1, d2] }
  | _ => none }
def topLessIsStableRow : OpenClaim := { program := "ytgkpbdkechfgmaagreat", sum := "d877eff31cbdbcd7b2c7c3b7594b6a5e94eb319a73ed224abc8309dd878a1ead", func := "putlog/putlogtop.TopLessIsStable", spec := "topLessIsStable", unfollowed := true, recurses := true, plainKeys := false, apart := false }
def TopLessIsStableSaid : Prop := topLessIsStableRow.holds Tryz.pinned (OpenSpec.ofChange topLessIsStableSpec)

/-- ITS FALSE NEIGHBOUR: 'it returns false'. Refute it at one input. -/
def topLessIsStableWrong : ChangeSpec := { name := "topLessIsStable", fn := fun _ => fun
  | [d1, d2] => { results := [.lit (.bool false)], args := [d1, d2] }
  | _ => none }
def TopLessIsStableWrongFalsely : Prop := topLessIsStableRow.holds Tryz.pinned (OpenSpec.ofChange topLessIsStableWrong)

/-- 'putloglaw05.StaticsStiffness': WHATEVER THE INPUT: true; the input reads as it did. -/
def staticsStiffnessSpec : ChangeSpec := { name := "staticsStiffness", fn := fun _ => fun
  | [d1, d2] => { results := [.lit (.bool true)], args := [d1, d2] }
  | _ => none }
def staticsStiffnessRow : OpenClaim := { program := "ytgkpbdkechfgmaagreat", sum := "d877eff31cbdbcd7b2c7c3b7594b6a5e94eb319a73ed224abc8309dd878a1ead", func := "putlog/putloglaw05.StaticsStiffness", spec := "staticsStiffness", unfollowed := true, recurses := true, plainKeys := false, apart := false }
def StaticsStiffnessSaid : Prop := staticsStiffnessRow.holds Tryz.pinned (OpenSpec.ofChange staticsStiffnessSpec)

/-- ITS FALSE NEIGHBOUR: 'it returns false'. Refute it at one input. -/
def staticsStiffnessWrong : ChangeSpec := { name := "staticsStiffness", fn := fun _ => fun
  | [d1, d2] => { results := [.lit (.bool false)], args := [d1, d2] }
  | _ => none }
def StaticsStiffnessWrongFalsely : Prop := staticsStiffnessRow.holds Tryz.pinned (OpenSpec.ofChange staticsStiffnessWrong)

/-- 'putlogtop.TopGroundCarries': WHATEVER THE INPUT: true; the input reads as it did. -/
def topGroundCarriesSpec : ChangeSpec := { name := "topGroundCarries", fn := fun _ => fun
  | [d1, d2, d3] => { results := [.lit (.bool true)], args := [d1, d2, d3] }
  | _ => none }
def topGroundCarriesRow : OpenClaim := { program := "ytgkpbdkechfgmaagreat", sum := "d877eff31cbdbcd7b2c7c3b7594b6a5e94eb319a73ed224abc8309dd878a1ead", func := "putlog/putlogtop.TopGroundCarries", spec := "topGroundCarries", unfollowed := true, recurses := true, plainKeys := false, apart := false }
def TopGroundCarriesSaid : Prop := topGroundCarriesRow.holds Tryz.pinned (OpenSpec.ofChange topGroundCarriesSpec)

/-- ITS FALSE NEIGHBOUR: 'it returns false'. Refute it at one input. -/
def topGroundCarriesWrong : ChangeSpec := { name := "topGroundCarries", fn := fun _ => fun
  | [d1, d2, d3] => { results := [.lit (.bool false)], args := [d1, d2, d3] }
  | _ => none }
def TopGroundCarriesWrongFalsely : Prop := topGroundCarriesRow.holds Tryz.pinned (OpenSpec.ofChange topGroundCarriesWrong)

/-- 'putlogtop.TopTwoMethods': WHATEVER THE INPUT: true; the input reads as it did. -/
def topTwoMethodsSpec : ChangeSpec := { name := "topTwoMethods", fn := fun _ => fun
  | [d1, d2] => { results := [.lit (.bool true)], args := [d1, d2] }
  | _ => none }
def topTwoMethodsRow : OpenClaim := { program := "ytgkpbdkechfgmaagreat", sum := "d877eff31cbdbcd7b2c7c3b7594b6a5e94eb319a73ed224abc8309dd878a1ead", func := "putlog/putlogtop.TopTwoMethods", spec := "topTwoMethods", plainKeys := false, apart := false }
def TopTwoMethodsSaid : Prop := topTwoMethodsRow.holds Tryz.pinned (OpenSpec.ofChange topTwoMethodsSpec)

/-- ITS FALSE NEIGHBOUR: 'it returns false'. Refute it at one input. -/
def topTwoMethodsWrong : ChangeSpec := { name := "topTwoMethods", fn := fun _ => fun
  | [d1, d2] => { results := [.lit (.bool false)], args := [d1, d2] }
  | _ => none }
def TopTwoMethodsWrongFalsely : Prop := topTwoMethodsRow.holds Tryz.pinned (OpenSpec.ofChange topTwoMethodsWrong)

/-- 'putlogtop.TopMechanismOrEquilibrium': WHATEVER THE INPUT: true; the input reads as it did. -/
def topMechanismOrEquilibriumSpec : ChangeSpec := { name := "topMechanismOrEquilibrium", fn := fun _ => fun
  | [d1, d2, d3] => { results := [.lit (.bool true)], args := [d1, d2, d3] }
  | _ => none }
def topMechanismOrEquilibriumRow : OpenClaim := { program := "ytgkpbdkechfgmaagreat", sum := "d877eff31cbdbcd7b2c7c3b7594b6a5e94eb319a73ed224abc8309dd878a1ead", func := "putlog/putlogtop.TopMechanismOrEquilibrium", spec := "topMechanismOrEquilibrium", unfollowed := true, recurses := true, plainKeys := false, apart := false }
def TopMechanismOrEquilibriumSaid : Prop := topMechanismOrEquilibriumRow.holds Tryz.pinned (OpenSpec.ofChange topMechanismOrEquilibriumSpec)

/-- ITS FALSE NEIGHBOUR: 'it returns false'. Refute it at one input. -/
def topMechanismOrEquilibriumWrong : ChangeSpec := { name := "topMechanismOrEquilibrium", fn := fun _ => fun
  | [d1, d2, d3] => { results := [.lit (.bool false)], args := [d1, d2, d3] }
  | _ => none }
def TopMechanismOrEquilibriumWrongFalsely : Prop := topMechanismOrEquilibriumRow.holds Tryz.pinned (OpenSpec.ofChange topMechanismOrEquilibriumWrong)

/- THE SECOND FORM. 'bulk': how many values and letters a reading holds, each counted each time it is reached (what is shared counts as often as it is met; a slice's spare places count too). A statement '..UptoSaid' is the law's where the arguments, and the package variables that the reading takes, are together of bulk at most 1048576: NARROWER than '..Said'. Prove '..Said' where nothing that the law and all that it calls make is longer than what came in: it says more and counts as full. Else prove '..UptoSaid'. A law counts once. -/
mutual
def uptoBulk {H : Type} : DataW H → Nat
  | .lit (.string bytes) => bytes.length + 1
  | .lit _ => 1
  | .nil => 1
  | .ptr d => uptoBulk d + 1
  | .slice elems spare => uptoBulkAll elems + uptoBulkAll spare + 1
  | .agg parts => uptoBulkAll parts + 1
  | .iface _ d => uptoBulk d + 1
  | .map entries => uptoBulkEntries entries + 1
  | .held _ => 1
def uptoBulkAll {H : Type} : List (DataW H) → Nat
  | [] => 0
  | d :: r => uptoBulk d + uptoBulkAll r
def uptoBulkEntries {H : Type} : List (Lit × DataW H) → Nat
  | [] => 0
  | x :: r => uptoBulkEntry x + uptoBulkEntries r
def uptoBulkEntry {H : Type} : Lit × DataW H → Nat
  | (.string bytes, d) => bytes.length + uptoBulk d + 1
  | (_, d) => uptoBulk d + 1
 end
def uptoSmall : (H : Type) → List (DataW H) → Bool := fun _ ds => decide (uptoBulkAll ds ≤ 1048576)
def OpenSpec.upto (s : _root_.Go.ChangeSpec) : _root_.Go.OpenSpec := { _root_.Go.OpenSpec.ofChange s with cond := some uptoSmall }

/-- 'putlogtop.TopWorstIsWorst', WHERE WHAT IT READS IS OF BULK AT MOST 1048576: true; the input reads as it did. -/
def topWorstIsWorstUptoRow : OpenClaim := { program := "ytgkpbdkechfgmaagreat", sum := "d877eff31cbdbcd7b2c7c3b7594b6a5e94eb319a73ed224abc8309dd878a1ead", func := "putlog/putlogtop.TopWorstIsWorst", spec := "topWorstIsWorst", plainKeys := false, apart := false, narrowed := true }
def TopWorstIsWorstUptoSaid : Prop := topWorstIsWorstUptoRow.holds Tryz.pinned (OpenSpec.upto topWorstIsWorstSpec)

/-- 'putloglaw05.StaticsCarries', WHERE WHAT IT READS IS OF BULK AT MOST 1048576: true; the input reads as it did. -/
def staticsCarriesUptoRow : OpenClaim := { program := "ytgkpbdkechfgmaagreat", sum := "d877eff31cbdbcd7b2c7c3b7594b6a5e94eb319a73ed224abc8309dd878a1ead", func := "putlog/putloglaw05.StaticsCarries", spec := "staticsCarries", unfollowed := true, recurses := true, plainKeys := false, apart := false, narrowed := true }
def StaticsCarriesUptoSaid : Prop := staticsCarriesUptoRow.holds Tryz.pinned (OpenSpec.upto staticsCarriesSpec)

/-- 'putloglaw05.StaticsLoads', WHERE WHAT IT READS IS OF BULK AT MOST 1048576: true; the input reads as it did. -/
def staticsLoadsUptoRow : OpenClaim := { program := "ytgkpbdkechfgmaagreat", sum := "d877eff31cbdbcd7b2c7c3b7594b6a5e94eb319a73ed224abc8309dd878a1ead", func := "putlog/putloglaw05.StaticsLoads", spec := "staticsLoads", plainKeys := false, apart := false, narrowed := true }
def StaticsLoadsUptoSaid : Prop := staticsLoadsUptoRow.holds Tryz.pinned (OpenSpec.upto staticsLoadsSpec)

/-- 'putlogtop.TopLessIsStable', WHERE WHAT IT READS IS OF BULK AT MOST 1048576: true; the input reads as it did. -/
def topLessIsStableUptoRow : OpenClaim := { program := "ytgkpbdkechfgmaagreat", sum := "d877eff31cbdbcd7b2c7c3b7594b6a5e94eb319a73ed224abc8309dd878a1ead", func := "putlog/putlogtop.TopLessIsStable", spec := "topLessIsStable", unfollowed := true, recurses := true, plainKeys := false, apart := false, narrowed := true }
def TopLessIsStableUptoSaid : Prop := topLessIsStableUptoRow.holds Tryz.pinned (OpenSpec.upto topLessIsStableSpec)

/-- 'putloglaw05.StaticsStiffness', WHERE WHAT IT READS IS OF BULK AT MOST 1048576: true; the input reads as it did. -/
def staticsStiffnessUptoRow : OpenClaim := { program := "ytgkpbdkechfgmaagreat", sum := "d877eff31cbdbcd7b2c7c3b7594b6a5e94eb319a73ed224abc8309dd878a1ead", func := "putlog/putloglaw05.StaticsStiffness", spec := "staticsStiffness", unfollowed := true, recurses := true, plainKeys := false, apart := false, narrowed := true }
def StaticsStiffnessUptoSaid : Prop := staticsStiffnessUptoRow.holds Tryz.pinned (OpenSpec.upto staticsStiffnessSpec)

/-- 'putlogtop.TopGroundCarries', WHERE WHAT IT READS IS OF BULK AT MOST 1048576: true; the input reads as it did. -/
def topGroundCarriesUptoRow : OpenClaim := { program := "ytgkpbdkechfgmaagreat", sum := "d877eff31cbdbcd7b2c7c3b7594b6a5e94eb319a73ed224abc8309dd878a1ead", func := "putlog/putlogtop.TopGroundCarries", spec := "topGroundCarries", unfollowed := true, recurses := true, plainKeys := false, apart := false, narrowed := true }
def TopGroundCarriesUptoSaid : Prop := topGroundCarriesUptoRow.holds Tryz.pinned (OpenSpec.upto topGroundCarriesSpec)

/-- 'putlogtop.TopTwoMethods', WHERE WHAT IT READS IS OF BULK AT MOST 1048576: true; the input reads as it did. -/
def topTwoMethodsUptoRow : OpenClaim := { program := "ytgkpbdkechfgmaagreat", sum := "d877eff31cbdbcd7b2c7c3b7594b6a5e94eb319a73ed224abc8309dd878a1ead", func := "putlog/putlogtop.TopTwoMethods", spec := "topTwoMethods", plainKeys := false, apart := false, narrowed := true }
def TopTwoMethodsUptoSaid : Prop := topTwoMethodsUptoRow.holds Tryz.pinned (OpenSpec.upto topTwoMethodsSpec)

/-- 'putlogtop.TopMechanismOrEquilibrium', WHERE WHAT IT READS IS OF BULK AT MOST 1048576: true; the input reads as it did. -/
def topMechanismOrEquilibriumUptoRow : OpenClaim := { program := "ytgkpbdkechfgmaagreat", sum := "d877eff31cbdbcd7b2c7c3b7594b6a5e94eb319a73ed224abc8309dd878a1ead", func := "putlog/putlogtop.TopMechanismOrEquilibrium", spec := "topMechanismOrEquilibrium", unfollowed := true, recurses := true, plainKeys := false, apart := false, narrowed := true }
def TopMechanismOrEquilibriumUptoSaid : Prop := topMechanismOrEquilibriumUptoRow.holds Tryz.pinned (OpenSpec.upto topMechanismOrEquilibriumSpec)

end Rows
end Go.Proofs.YtgkpbdkechfgmaaGreat
