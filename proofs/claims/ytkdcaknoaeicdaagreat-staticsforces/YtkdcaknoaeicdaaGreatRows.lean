/-
  No cell of these rows narrows 'for every input' (looked for: loops, veiled, ifaces, maps, wideKeys, modest, calm, conditions, laid).
  DERIVED. THE GIVEN ROWS OF THIS SEAT. 12 by the template 'for every input the law returns true; each argument reads behind the call as it read before'; 0 by the template 'total and deterministic' (their statements: YtkdcaknoaeicdaaGreatTotals.lean).
  GIVEN WITH THE SEED: the statements are not yours to turn. If you find one false, say at which input.
  Laid BY PROGRAM, IN A SANDBOX (cutbox-rows.mjs): the forced cells as the released guide's own fill.sh prints them over the translation cd0b891139f68641… (all of the seat's roots in one cut). By AI agents, Wed Nov 11 2026. No macro, syntax, notation, axiom, sorry.
-/
import Derived.Test.YtkdcaknoaeicdaaGreatChecked
import GoSem.Claim
import GoSem.ClaimJoined
import GoSem.ClaimMapViews
import Derived.JoinedTies
import Derived.KernelRfl
namespace Go.Proofs.YtkdcaknoaeicdaaGreat
/- THE CELL 'sum', in the pinned program and in every row, IS THE sha256 OF THE DUMP (.gsa) THAT YtkdcaknoaeicdaaGreatProg.lean LOADS. Nothing in Lean hashes anything: it is a label: what it is worth is what the hold of that sum in a sandbox is worth. -/
noncomputable def Tryz.pinned : Pinned := { name := "ytkdcaknoaeicdaagreat", sum := "cd0b891139f68641ca60316a8cbde5d927d17b83be65f9e8778ba60d55f446d0", checked := Tryz.checked }
namespace Rows
def none {H : Type} : Left H := { results := [], args := [] }

/-- 'putloglaw05.StaticsDisplaces': WHATEVER THE INPUT: true; the input reads as it did. -/
def staticsDisplacesSpec : ChangeSpec := { name := "staticsDisplaces", fn := fun _ => fun
  | [d1, d2] => { results := [.lit (.bool true)], args := [d1, d2] }
  | _ => none }
def staticsDisplacesRow : OpenClaim := { program := "ytkdcaknoaeicdaagreat", sum := "cd0b891139f68641ca60316a8cbde5d927d17b83be65f9e8778ba60d55f446d0", func := "putlog/putloglaw05.StaticsDisplaces", spec := "staticsDisplaces", plainKeys := false, apart := false }
def StaticsDisplacesSaid : Prop := staticsDisplacesRow.holds Tryz.pinned (OpenSpec.ofChange staticsDisplacesSpec)

/-- ITS FALSE NEIGHBOUR: 'it returns false'. Refute it at one input. -/
def staticsDisplacesWrong : ChangeSpec := { name := "staticsDisplaces", fn := fun _ => fun
  | [d1, d2] => { results := [.lit (.bool false)], args := [d1, d2] }
  | _ => none }
def StaticsDisplacesWrongFalsely : Prop := staticsDisplacesRow.holds Tryz.pinned (OpenSpec.ofChange staticsDisplacesWrong)

/-- 'putloglaw05.StaticsEnergy': WHATEVER THE INPUT: true; the input reads as it did. -/
def staticsEnergySpec : ChangeSpec := { name := "staticsEnergy", fn := fun _ => fun
  | [d1, d2, d3] => { results := [.lit (.bool true)], args := [d1, d2, d3] }
  | _ => none }
def staticsEnergyRow : OpenClaim := { program := "ytkdcaknoaeicdaagreat", sum := "cd0b891139f68641ca60316a8cbde5d927d17b83be65f9e8778ba60d55f446d0", func := "putlog/putloglaw05.StaticsEnergy", spec := "staticsEnergy", plainKeys := false, apart := false }
def StaticsEnergySaid : Prop := staticsEnergyRow.holds Tryz.pinned (OpenSpec.ofChange staticsEnergySpec)

/-- ITS FALSE NEIGHBOUR: 'it returns false'. Refute it at one input. -/
def staticsEnergyWrong : ChangeSpec := { name := "staticsEnergy", fn := fun _ => fun
  | [d1, d2, d3] => { results := [.lit (.bool false)], args := [d1, d2, d3] }
  | _ => none }
def StaticsEnergyWrongFalsely : Prop := staticsEnergyRow.holds Tryz.pinned (OpenSpec.ofChange staticsEnergyWrong)

/-- 'putloglaw05.StaticsReciprocal': WHATEVER THE INPUT: true; the input reads as it did. -/
def staticsReciprocalSpec : ChangeSpec := { name := "staticsReciprocal", fn := fun _ => fun
  | [d1, d2, d3] => { results := [.lit (.bool true)], args := [d1, d2, d3] }
  | _ => none }
def staticsReciprocalRow : OpenClaim := { program := "ytkdcaknoaeicdaagreat", sum := "cd0b891139f68641ca60316a8cbde5d927d17b83be65f9e8778ba60d55f446d0", func := "putlog/putloglaw05.StaticsReciprocal", spec := "staticsReciprocal", plainKeys := false, apart := false }
def StaticsReciprocalSaid : Prop := staticsReciprocalRow.holds Tryz.pinned (OpenSpec.ofChange staticsReciprocalSpec)

/-- ITS FALSE NEIGHBOUR: 'it returns false'. Refute it at one input. -/
def staticsReciprocalWrong : ChangeSpec := { name := "staticsReciprocal", fn := fun _ => fun
  | [d1, d2, d3] => { results := [.lit (.bool false)], args := [d1, d2, d3] }
  | _ => none }
def StaticsReciprocalWrongFalsely : Prop := staticsReciprocalRow.holds Tryz.pinned (OpenSpec.ofChange staticsReciprocalWrong)

/-- 'putloglaw05.StaticsFrames': WHATEVER THE INPUT: true; the input reads as it did. -/
def staticsFramesSpec : ChangeSpec := { name := "staticsFrames", fn := fun _ => fun
  | [d1, d2] => { results := [.lit (.bool true)], args := [d1, d2] }
  | _ => none }
def staticsFramesRow : OpenClaim := { program := "ytkdcaknoaeicdaagreat", sum := "cd0b891139f68641ca60316a8cbde5d927d17b83be65f9e8778ba60d55f446d0", func := "putlog/putloglaw05.StaticsFrames", spec := "staticsFrames", plainKeys := false, apart := false }
def StaticsFramesSaid : Prop := staticsFramesRow.holds Tryz.pinned (OpenSpec.ofChange staticsFramesSpec)

/-- ITS FALSE NEIGHBOUR: 'it returns false'. Refute it at one input. -/
def staticsFramesWrong : ChangeSpec := { name := "staticsFrames", fn := fun _ => fun
  | [d1, d2] => { results := [.lit (.bool false)], args := [d1, d2] }
  | _ => none }
def StaticsFramesWrongFalsely : Prop := staticsFramesRow.holds Tryz.pinned (OpenSpec.ofChange staticsFramesWrong)

/-- 'putloglaw05.StaticsTables': WHATEVER THE INPUT: true; the input reads as it did. -/
def staticsTablesSpec : ChangeSpec := { name := "staticsTables", fn := fun _ => fun
  | [d1, d2] => { results := [.lit (.bool true)], args := [d1, d2] }
  | _ => none }
def staticsTablesRow : OpenClaim := { program := "ytkdcaknoaeicdaagreat", sum := "cd0b891139f68641ca60316a8cbde5d927d17b83be65f9e8778ba60d55f446d0", func := "putlog/putloglaw05.StaticsTables", spec := "staticsTables", plainKeys := false, apart := false }
def StaticsTablesSaid : Prop := staticsTablesRow.holds Tryz.pinned (OpenSpec.ofChange staticsTablesSpec)

/-- ITS FALSE NEIGHBOUR: 'it returns false'. Refute it at one input. -/
def staticsTablesWrong : ChangeSpec := { name := "staticsTables", fn := fun _ => fun
  | [d1, d2] => { results := [.lit (.bool false)], args := [d1, d2] }
  | _ => none }
def StaticsTablesWrongFalsely : Prop := staticsTablesRow.holds Tryz.pinned (OpenSpec.ofChange staticsTablesWrong)

/-- 'putloglaw05.StaticsAdds': WHATEVER THE INPUT: true; the input reads as it did. -/
def staticsAddsSpec : ChangeSpec := { name := "staticsAdds", fn := fun _ => fun
  | [d1, d2, d3] => { results := [.lit (.bool true)], args := [d1, d2, d3] }
  | _ => none }
def staticsAddsRow : OpenClaim := { program := "ytkdcaknoaeicdaagreat", sum := "cd0b891139f68641ca60316a8cbde5d927d17b83be65f9e8778ba60d55f446d0", func := "putlog/putloglaw05.StaticsAdds", spec := "staticsAdds", plainKeys := false, apart := false }
def StaticsAddsSaid : Prop := staticsAddsRow.holds Tryz.pinned (OpenSpec.ofChange staticsAddsSpec)

/-- ITS FALSE NEIGHBOUR: 'it returns false'. Refute it at one input. -/
def staticsAddsWrong : ChangeSpec := { name := "staticsAdds", fn := fun _ => fun
  | [d1, d2, d3] => { results := [.lit (.bool false)], args := [d1, d2, d3] }
  | _ => none }
def StaticsAddsWrongFalsely : Prop := staticsAddsRow.holds Tryz.pinned (OpenSpec.ofChange staticsAddsWrong)

/-- 'putloglaw05.StaticsGathers': WHATEVER THE INPUT: true; the input reads as it did. -/
def staticsGathersSpec : ChangeSpec := { name := "staticsGathers", fn := fun _ => fun
  | [d1, d2] => { results := [.lit (.bool true)], args := [d1, d2] }
  | _ => none }
def staticsGathersRow : OpenClaim := { program := "ytkdcaknoaeicdaagreat", sum := "cd0b891139f68641ca60316a8cbde5d927d17b83be65f9e8778ba60d55f446d0", func := "putlog/putloglaw05.StaticsGathers", spec := "staticsGathers", plainKeys := false, apart := false }
def StaticsGathersSaid : Prop := staticsGathersRow.holds Tryz.pinned (OpenSpec.ofChange staticsGathersSpec)

/-- ITS FALSE NEIGHBOUR: 'it returns false'. Refute it at one input. -/
def staticsGathersWrong : ChangeSpec := { name := "staticsGathers", fn := fun _ => fun
  | [d1, d2] => { results := [.lit (.bool false)], args := [d1, d2] }
  | _ => none }
def StaticsGathersWrongFalsely : Prop := staticsGathersRow.holds Tryz.pinned (OpenSpec.ofChange staticsGathersWrong)

/-- 'putloglaw05.StaticsStrong': WHATEVER THE INPUT: true; the input reads as it did. -/
def staticsStrongSpec : ChangeSpec := { name := "staticsStrong", fn := fun _ => fun
  | [d1, d2, d3] => { results := [.lit (.bool true)], args := [d1, d2, d3] }
  | _ => none }
def staticsStrongRow : OpenClaim := { program := "ytkdcaknoaeicdaagreat", sum := "cd0b891139f68641ca60316a8cbde5d927d17b83be65f9e8778ba60d55f446d0", func := "putlog/putloglaw05.StaticsStrong", spec := "staticsStrong", plainKeys := false, apart := false }
def StaticsStrongSaid : Prop := staticsStrongRow.holds Tryz.pinned (OpenSpec.ofChange staticsStrongSpec)

/-- ITS FALSE NEIGHBOUR: 'it returns false'. Refute it at one input. -/
def staticsStrongWrong : ChangeSpec := { name := "staticsStrong", fn := fun _ => fun
  | [d1, d2, d3] => { results := [.lit (.bool false)], args := [d1, d2, d3] }
  | _ => none }
def StaticsStrongWrongFalsely : Prop := staticsStrongRow.holds Tryz.pinned (OpenSpec.ofChange staticsStrongWrong)

/-- 'putloglaw05.StaticsReplies': WHATEVER THE INPUT: true; the input reads as it did. -/
def staticsRepliesSpec : ChangeSpec := { name := "staticsReplies", fn := fun _ => fun
  | [d1, d2, d3] => { results := [.lit (.bool true)], args := [d1, d2, d3] }
  | _ => none }
def staticsRepliesRow : OpenClaim := { program := "ytkdcaknoaeicdaagreat", sum := "cd0b891139f68641ca60316a8cbde5d927d17b83be65f9e8778ba60d55f446d0", func := "putlog/putloglaw05.StaticsReplies", spec := "staticsReplies", unfollowed := true, recurses := true, plainKeys := false, apart := false }
def StaticsRepliesSaid : Prop := staticsRepliesRow.holds Tryz.pinned (OpenSpec.ofChange staticsRepliesSpec)

/-- ITS FALSE NEIGHBOUR: 'it returns false'. Refute it at one input. -/
def staticsRepliesWrong : ChangeSpec := { name := "staticsReplies", fn := fun _ => fun
  | [d1, d2, d3] => { results := [.lit (.bool false)], args := [d1, d2, d3] }
  | _ => none }
def StaticsRepliesWrongFalsely : Prop := staticsRepliesRow.holds Tryz.pinned (OpenSpec.ofChange staticsRepliesWrong)

/-- 'putloglaw05.StaticsForces': WHATEVER THE INPUT: true; the input reads as it did. -/
def staticsForcesSpec : ChangeSpec := { name := "staticsForces", fn := fun _ => fun
  | [d1, d2, d3] => { results := [.lit (.bool true)], args := [d1, d2, d3] }
  | _ => none }
def staticsForcesRow : OpenClaim := { program := "ytkdcaknoaeicdaagreat", sum := "cd0b891139f68641ca60316a8cbde5d927d17b83be65f9e8778ba60d55f446d0", func := "putlog/putloglaw05.StaticsForces", spec := "staticsForces", unfollowed := true, recurses := true, plainKeys := false, apart := false }
def StaticsForcesSaid : Prop := staticsForcesRow.holds Tryz.pinned (OpenSpec.ofChange staticsForcesSpec)

/-- ITS FALSE NEIGHBOUR: 'it returns false'. Refute it at one input. -/
def staticsForcesWrong : ChangeSpec := { name := "staticsForces", fn := fun _ => fun
  | [d1, d2, d3] => { results := [.lit (.bool false)], args := [d1, d2, d3] }
  | _ => none }
def StaticsForcesWrongFalsely : Prop := staticsForcesRow.holds Tryz.pinned (OpenSpec.ofChange staticsForcesWrong)

/-- 'putloglaw05.StaticsCases': WHATEVER THE INPUT: true; the input reads as it did. -/
def staticsCasesSpec : ChangeSpec := { name := "staticsCases", fn := fun _ => fun
  | [d1, d2, d3] => { results := [.lit (.bool true)], args := [d1, d2, d3] }
  | _ => none }
def staticsCasesRow : OpenClaim := { program := "ytkdcaknoaeicdaagreat", sum := "cd0b891139f68641ca60316a8cbde5d927d17b83be65f9e8778ba60d55f446d0", func := "putlog/putloglaw05.StaticsCases", spec := "staticsCases", plainKeys := false, apart := false }
def StaticsCasesSaid : Prop := staticsCasesRow.holds Tryz.pinned (OpenSpec.ofChange staticsCasesSpec)

/-- ITS FALSE NEIGHBOUR: 'it returns false'. Refute it at one input. -/
def staticsCasesWrong : ChangeSpec := { name := "staticsCases", fn := fun _ => fun
  | [d1, d2, d3] => { results := [.lit (.bool false)], args := [d1, d2, d3] }
  | _ => none }
def StaticsCasesWrongFalsely : Prop := staticsCasesRow.holds Tryz.pinned (OpenSpec.ofChange staticsCasesWrong)

/-- 'putloglaw05.StaticsLimits': WHATEVER THE INPUT: true; the input reads as it did. -/
def staticsLimitsSpec : ChangeSpec := { name := "staticsLimits", fn := fun _ => fun
  | [d1, d2, d3] => { results := [.lit (.bool true)], args := [d1, d2, d3] }
  | _ => none }
def staticsLimitsRow : OpenClaim := { program := "ytkdcaknoaeicdaagreat", sum := "cd0b891139f68641ca60316a8cbde5d927d17b83be65f9e8778ba60d55f446d0", func := "putlog/putloglaw05.StaticsLimits", spec := "staticsLimits", plainKeys := false, apart := false }
def StaticsLimitsSaid : Prop := staticsLimitsRow.holds Tryz.pinned (OpenSpec.ofChange staticsLimitsSpec)

/-- ITS FALSE NEIGHBOUR: 'it returns false'. Refute it at one input. -/
def staticsLimitsWrong : ChangeSpec := { name := "staticsLimits", fn := fun _ => fun
  | [d1, d2, d3] => { results := [.lit (.bool false)], args := [d1, d2, d3] }
  | _ => none }
def StaticsLimitsWrongFalsely : Prop := staticsLimitsRow.holds Tryz.pinned (OpenSpec.ofChange staticsLimitsWrong)

/- THE SECOND FORM. 'bulk': how many values and letters a reading holds, each counted each time it is reached (what is shared counts as often as it is met; a slice's spare places count too). A statement '..UptoSaid' is the law's where the arguments, and the package variables that the reading takes, are together of bulk at most 1048576: NARROWER than '..Said'. Prove '..Said' where nothing that the law and all that it calls make is longer than what came in: it says more and counts as full. Else prove '..UptoSaid'. A law counts once. -/
mutual
def uptoBulk {H : Type} : DataW H → Nat
  | .lit (.string bytes) => bytes.length + 1
  | .lit _ => 1
  | .nil => 1
  | .ptr d => uptoBulk d + 1
  | .slice elems spare => uptoBulkAll elems + uptoBulkAll spare + 1
  | .agg parts => uptoBulkAll parts + 1
  | .iface _ d => uptoBulk d + 1
  | .map entries => uptoBulkEntries entries + 1
  | .held _ => 1
def uptoBulkAll {H : Type} : List (DataW H) → Nat
  | [] => 0
  | d :: r => uptoBulk d + uptoBulkAll r
def uptoBulkEntries {H : Type} : List (Lit × DataW H) → Nat
  | [] => 0
  | x :: r => uptoBulkEntry x + uptoBulkEntries r
def uptoBulkEntry {H : Type} : Lit × DataW H → Nat
  | (.string bytes, d) => bytes.length + uptoBulk d + 1
  | (_, d) => uptoBulk d + 1
 end
def uptoSmall : (H : Type) → List (DataW H) → Bool := fun _ ds => decide (uptoBulkAll ds ≤ 1048576)
def OpenSpec.upto (s : _root_.Go.ChangeSpec) : _root_.Go.OpenSpec := { _root_.Go.OpenSpec.ofChange s with cond := some uptoSmall }

/-- 'putloglaw05.StaticsDisplaces', WHERE WHAT IT READS IS OF BULK AT MOST 1048576: true; the input reads as it did. -/
def staticsDisplacesUptoRow : OpenClaim := { program := "ytkdcaknoaeicdaagreat", sum := "cd0b891139f68641ca60316a8cbde5d927d17b83be65f9e8778ba60d55f446d0", func := "putlog/putloglaw05.StaticsDisplaces", spec := "staticsDisplaces", plainKeys := false, apart := false, narrowed := true }
def StaticsDisplacesUptoSaid : Prop := staticsDisplacesUptoRow.holds Tryz.pinned (OpenSpec.upto staticsDisplacesSpec)

/-- 'putloglaw05.StaticsEnergy', WHERE WHAT IT READS IS OF BULK AT MOST 1048576: true; the input reads as it did. -/
def staticsEnergyUptoRow : OpenClaim := { program := "ytkdcaknoaeicdaagreat", sum := "cd0b891139f68641ca60316a8cbde5d927d17b83be65f9e8778ba60d55f446d0", func := "putlog/putloglaw05.StaticsEnergy", spec := "staticsEnergy", plainKeys := false, apart := false, narrowed := true }
def StaticsEnergyUptoSaid : Prop := staticsEnergyUptoRow.holds Tryz.pinned (OpenSpec.upto staticsEnergySpec)

/-- 'putloglaw05.StaticsReciprocal', WHERE WHAT IT READS IS OF BULK AT MOST 1048576: true; the input reads as it did. -/
def staticsReciprocalUptoRow : OpenClaim := { program := "ytkdcaknoaeicdaagreat", sum := "cd0b891139f68641ca60316a8cbde5d927d17b83be65f9e8778ba60d55f446d0", func := "putlog/putloglaw05.StaticsReciprocal", spec := "staticsReciprocal", plainKeys := false, apart := false, narrowed := true }
def StaticsReciprocalUptoSaid : Prop := staticsReciprocalUptoRow.holds Tryz.pinned (OpenSpec.upto staticsReciprocalSpec)

/-- 'putloglaw05.StaticsFrames', WHERE WHAT IT READS IS OF BULK AT MOST 1048576: true; the input reads as it did. -/
def staticsFramesUptoRow : OpenClaim := { program := "ytkdcaknoaeicdaagreat", sum := "cd0b891139f68641ca60316a8cbde5d927d17b83be65f9e8778ba60d55f446d0", func := "putlog/putloglaw05.StaticsFrames", spec := "staticsFrames", plainKeys := false, apart := false, narrowed := true }
def StaticsFramesUptoSaid : Prop := staticsFramesUptoRow.holds Tryz.pinned (OpenSpec.upto staticsFramesSpec)

/-- 'putloglaw05.StaticsTables', WHERE WHAT IT READS IS OF BULK AT MOST 1048576: true; the input reads as it did. -/
def staticsTablesUptoRow : OpenClaim := { program := "ytkdcaknoaeicdaagreat", sum := "cd0b891139f68641ca60316a8cbde5d927d17b83be65f9e8778ba60d55f446d0", func := "putlog/putloglaw05.StaticsTables", spec := "staticsTables", plainKeys := false, apart := false, narrowed := true }
def StaticsTablesUptoSaid : Prop := staticsTablesUptoRow.holds Tryz.pinned (OpenSpec.upto staticsTablesSpec)

/-- 'putloglaw05.StaticsAdds', WHERE WHAT IT READS IS OF BULK AT MOST 1048576: true; the input reads as it did. -/
def staticsAddsUptoRow : OpenClaim := { program := "ytkdcaknoaeicdaagreat", sum := "cd0b891139f68641ca60316a8cbde5d927d17b83be65f9e8778ba60d55f446d0", func := "putlog/putloglaw05.StaticsAdds", spec := "staticsAdds", plainKeys := false, apart := false, narrowed := true }
def StaticsAddsUptoSaid : Prop := staticsAddsUptoRow.holds Tryz.pinned (OpenSpec.upto staticsAddsSpec)

/-- 'putloglaw05.StaticsGathers', WHERE WHAT IT READS IS OF BULK AT MOST 1048576: true; the input reads as it did. -/
def staticsGathersUptoRow : OpenClaim := { program := "ytkdcaknoaeicdaagreat", sum := "cd0b891139f68641ca60316a8cbde5d927d17b83be65f9e8778ba60d55f446d0", func := "putlog/putloglaw05.StaticsGathers", spec := "staticsGathers", plainKeys := false, apart := false, narrowed := true }
def StaticsGathersUptoSaid : Prop := staticsGathersUptoRow.holds Tryz.pinned (OpenSpec.upto staticsGathersSpec)

/-- 'putloglaw05.StaticsStrong', WHERE WHAT IT READS IS OF BULK AT MOST 1048576: true; the input reads as it did. -/
def staticsStrongUptoRow : OpenClaim := { program := "ytkdcaknoaeicdaagreat", sum := "cd0b891139f68641ca60316a8cbde5d927d17b83be65f9e8778ba60d55f446d0", func := "putlog/putloglaw05.StaticsStrong", spec := "staticsStrong", plainKeys := false, apart := false, narrowed := true }
def StaticsStrongUptoSaid : Prop := staticsStrongUptoRow.holds Tryz.pinned (OpenSpec.upto staticsStrongSpec)

/-- 'putloglaw05.StaticsReplies', WHERE WHAT IT READS IS OF BULK AT MOST 1048576: true; the input reads as it did. -/
def staticsRepliesUptoRow : OpenClaim := { program := "ytkdcaknoaeicdaagreat", sum := "cd0b891139f68641ca60316a8cbde5d927d17b83be65f9e8778ba60d55f446d0", func := "putlog/putloglaw05.StaticsReplies", spec := "staticsReplies", unfollowed := true, recurses := true, plainKeys := false, apart := false, narrowed := true }
def StaticsRepliesUptoSaid : Prop := staticsRepliesUptoRow.holds Tryz.pinned (OpenSpec.upto staticsRepliesSpec)

/-- 'putloglaw05.StaticsForces', WHERE WHAT IT READS IS OF BULK AT MOST 1048576: true; the input reads as it did. -/
def staticsForcesUptoRow : OpenClaim := { program := "ytkdcaknoaeicdaagreat", sum := "cd0b891139f68641ca60316a8cbde5d927d17b83be65f9e8778ba60d55f446d0", func := "putlog/putloglaw05.StaticsForces", spec := "staticsForces", unfollowed := true, recurses := true, plainKeys := false, apart := false, narrowed := true }
def StaticsForcesUptoSaid : Prop := staticsForcesUptoRow.holds Tryz.pinned (OpenSpec.upto staticsForcesSpec)

/-- 'putloglaw05.StaticsCases', WHERE WHAT IT READS IS OF BULK AT MOST 1048576: true; the input reads as it did. -/
def staticsCasesUptoRow : OpenClaim := { program := "ytkdcaknoaeicdaagreat", sum := "cd0b891139f68641ca60316a8cbde5d927d17b83be65f9e8778ba60d55f446d0", func := "putlog/putloglaw05.StaticsCases", spec := "staticsCases", plainKeys := false, apart := false, narrowed := true }
def StaticsCasesUptoSaid : Prop := staticsCasesUptoRow.holds Tryz.pinned (OpenSpec.upto staticsCasesSpec)

/-- 'putloglaw05.StaticsLimits', WHERE WHAT IT READS IS OF BULK AT MOST 1048576: true; the input reads as it did. -/
def staticsLimitsUptoRow : OpenClaim := { program := "ytkdcaknoaeicdaagreat", sum := "cd0b891139f68641ca60316a8cbde5d927d17b83be65f9e8778ba60d55f446d0", func := "putlog/putloglaw05.StaticsLimits", spec := "staticsLimits", plainKeys := false, apart := false, narrowed := true }
def StaticsLimitsUptoSaid : Prop := staticsLimitsUptoRow.holds Tryz.pinned (OpenSpec.upto staticsLimitsSpec)

end Rows
end Go.Proofs.YtkdcaknoaeicdaaGreat
