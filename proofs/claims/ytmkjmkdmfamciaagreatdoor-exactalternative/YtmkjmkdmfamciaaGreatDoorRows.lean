/-
  NARROWER THAN 'FOR EVERY INPUT', by the rows' own cells (each row's printed sentence says how): ExactRootBelow: laid · ExactRanks: laid · ExactRoots: laid · ExactField: laid · ExactIntegers: laid · ExactFractions: laid · ExactSolves: laid · ExactAccepts: laid · ExactAlternative: laid.
  DERIVED. THE GIVEN ROWS OF THIS SEAT. 9 by the template 'for every input the law returns true; each argument reads behind the call as it read before'; 0 by the template 'total and deterministic' (their statements: YtmkjmkdmfamciaaGreatDoorTotals.lean).
  GIVEN WITH THE SEED: the statements are not yours to turn. If you find one false, say at which input.
  Laid BY PROGRAM, IN A SANDBOX (cutbox-rows.mjs): the forced cells as the released guide's own fill.sh prints them over the translation 18820fc8180b21bd… (all of the seat's roots in one cut). By AI agents, Wed Nov 11 2026. No macro, syntax, notation, axiom, sorry.
-/
import Derived.Test.YtmkjmkdmfamciaaGreatDoorChecked
import GoSem.PinnedTables
import GoSem.Claim
import GoSem.ClaimJoined
import GoSem.ClaimMapViews
import Derived.JoinedTies
import Derived.KernelRfl
namespace Go.Proofs.YtmkjmkdmfamciaaGreatDoor
/- THE CELL 'sum', in the pinned program and in every row, IS THE sha256 OF THE DUMP (.gsa) THAT YtmkjmkdmfamciaaGreatDoorProg.lean LOADS. Nothing in Lean hashes anything: it is a label: what it is worth is what the hold of that sum in a sandbox is worth. -/
noncomputable def Tryz.pinned : Pinned := { name := "ytmkjmkdmfamciaagreatdoor", sum := "18820fc8180b21bd99d3f726e3c91060b766a9ca2311e1b6fb3d0a1e46362c39", checked := Tryz.checked }
namespace Rows
def none {H : Type} : Left H := { results := [], args := [] }

/- WHAT THE LISTED PACKAGE-LEVEL VARIABLES READ AS WHEN THE CALL BEGINS. Each datum BY PROGRAM (the guide's laid-datum.mjs) off the statement by which the dump's own 'gosem.cut.vars' lays the variable. In a bare row this is a premise. The card (YtmkjmkdmfamciaaGreatDoorCards.lean) ties it to the program's text. -/
def laid_unicode_utf8_acceptRanges {H : Type} : DataW H := .agg [.agg [.lit (.int .u8 128), .lit (.int .u8 191)], .agg [.lit (.int .u8 160), .lit (.int .u8 191)], .agg [.lit (.int .u8 128), .lit (.int .u8 159)], .agg [.lit (.int .u8 144), .lit (.int .u8 191)], .agg [.lit (.int .u8 128), .lit (.int .u8 143)], .agg [.lit (.int .u8 0), .lit (.int .u8 0)], .agg [.lit (.int .u8 0), .lit (.int .u8 0)], .agg [.lit (.int .u8 0), .lit (.int .u8 0)], .agg [.lit (.int .u8 0), .lit (.int .u8 0)], .agg [.lit (.int .u8 0), .lit (.int .u8 0)], .agg [.lit (.int .u8 0), .lit (.int .u8 0)], .agg [.lit (.int .u8 0), .lit (.int .u8 0)], .agg [.lit (.int .u8 0), .lit (.int .u8 0)], .agg [.lit (.int .u8 0), .lit (.int .u8 0)], .agg [.lit (.int .u8 0), .lit (.int .u8 0)], .agg [.lit (.int .u8 0), .lit (.int .u8 0)]]
/-- One of Go's own tables, pinned by name: the form's constant. -/
def laid_unicode_utf8_first : DataW Unit := Go.Pinned.utf8First

/-- 'putloglaw01.ExactRootBelow': WHATEVER THE INPUT: true; the input reads as it did. -/
def exactRootBelowSpec : ChangeSpec := { name := "exactRootBelow", fn := fun _ => fun
  | [d1, d2] => { results := [.lit (.bool true)], args := [d1, d2] }
  | _ => none }
def exactRootBelowRow : OpenClaim := { program := "ytmkjmkdmfamciaagreatdoor", sum := "18820fc8180b21bd99d3f726e3c91060b766a9ca2311e1b6fb3d0a1e46362c39", func := "putlog/putloglaw01.ExactRootBelow", spec := "exactRootBelow", inPlace := ["internal/abi.NoEscape", "internal/bytealg.MakeNoZero", "internal/bytealg.IndexByteString", "internal/bytealg.IndexString"], named := ["unicode/utf8.first", "unicode/utf8.acceptRanges", "internal/bytealg.MaxLen"], apart := false, laid := [("unicode/utf8.acceptRanges", laid_unicode_utf8_acceptRanges), ("unicode/utf8.first", laid_unicode_utf8_first)] }
def ExactRootBelowSaid : Prop := exactRootBelowRow.holds Tryz.pinned (OpenSpec.ofChange exactRootBelowSpec)

/-- ITS FALSE NEIGHBOUR: 'it returns false'. Refute it at one input. -/
def exactRootBelowWrong : ChangeSpec := { name := "exactRootBelow", fn := fun _ => fun
  | [d1, d2] => { results := [.lit (.bool false)], args := [d1, d2] }
  | _ => none }
def ExactRootBelowWrongFalsely : Prop := exactRootBelowRow.holds Tryz.pinned (OpenSpec.ofChange exactRootBelowWrong)

/-- 'putloglaw01.ExactRanks': WHATEVER THE INPUT: true; the input reads as it did. -/
def exactRanksSpec : ChangeSpec := { name := "exactRanks", fn := fun _ => fun
  | [d] => { results := [.lit (.bool true)], args := [d] }
  | _ => none }
def exactRanksRow : OpenClaim := { program := "ytmkjmkdmfamciaagreatdoor", sum := "18820fc8180b21bd99d3f726e3c91060b766a9ca2311e1b6fb3d0a1e46362c39", func := "putlog/putloglaw01.ExactRanks", spec := "exactRanks", inPlace := ["internal/abi.NoEscape", "internal/bytealg.MakeNoZero", "internal/bytealg.IndexByteString", "internal/bytealg.IndexString"], named := ["unicode/utf8.first", "unicode/utf8.acceptRanges", "internal/bytealg.MaxLen"], apart := false, laid := [("unicode/utf8.acceptRanges", laid_unicode_utf8_acceptRanges), ("unicode/utf8.first", laid_unicode_utf8_first)] }
def ExactRanksSaid : Prop := exactRanksRow.holds Tryz.pinned (OpenSpec.ofChange exactRanksSpec)

/-- ITS FALSE NEIGHBOUR: 'it returns false'. Refute it at one input. -/
def exactRanksWrong : ChangeSpec := { name := "exactRanks", fn := fun _ => fun
  | [d] => { results := [.lit (.bool false)], args := [d] }
  | _ => none }
def ExactRanksWrongFalsely : Prop := exactRanksRow.holds Tryz.pinned (OpenSpec.ofChange exactRanksWrong)

/-- 'putloglaw01.ExactRoots': WHATEVER THE INPUT: true; the input reads as it did. -/
def exactRootsSpec : ChangeSpec := { name := "exactRoots", fn := fun _ => fun
  | [d1, d2, d3] => { results := [.lit (.bool true)], args := [d1, d2, d3] }
  | _ => none }
def exactRootsRow : OpenClaim := { program := "ytmkjmkdmfamciaagreatdoor", sum := "18820fc8180b21bd99d3f726e3c91060b766a9ca2311e1b6fb3d0a1e46362c39", func := "putlog/putloglaw01.ExactRoots", spec := "exactRoots", inPlace := ["internal/abi.NoEscape", "internal/bytealg.MakeNoZero", "internal/bytealg.IndexByteString", "internal/bytealg.IndexString"], unfollowed := true, recurses := true, named := ["unicode/utf8.first", "unicode/utf8.acceptRanges", "internal/bytealg.MaxLen"], apart := false, laid := [("unicode/utf8.acceptRanges", laid_unicode_utf8_acceptRanges), ("unicode/utf8.first", laid_unicode_utf8_first)] }
def ExactRootsSaid : Prop := exactRootsRow.holds Tryz.pinned (OpenSpec.ofChange exactRootsSpec)

/-- ITS FALSE NEIGHBOUR: 'it returns false'. Refute it at one input. -/
def exactRootsWrong : ChangeSpec := { name := "exactRoots", fn := fun _ => fun
  | [d1, d2, d3] => { results := [.lit (.bool false)], args := [d1, d2, d3] }
  | _ => none }
def ExactRootsWrongFalsely : Prop := exactRootsRow.holds Tryz.pinned (OpenSpec.ofChange exactRootsWrong)

/-- 'putloglaw01.ExactField': WHATEVER THE INPUT: true; the input reads as it did. -/
def exactFieldSpec : ChangeSpec := { name := "exactField", fn := fun _ => fun
  | [d1, d2, d3] => { results := [.lit (.bool true)], args := [d1, d2, d3] }
  | _ => none }
def exactFieldRow : OpenClaim := { program := "ytmkjmkdmfamciaagreatdoor", sum := "18820fc8180b21bd99d3f726e3c91060b766a9ca2311e1b6fb3d0a1e46362c39", func := "putlog/putloglaw01.ExactField", spec := "exactField", inPlace := ["internal/abi.NoEscape", "internal/bytealg.MakeNoZero", "internal/bytealg.IndexByteString", "internal/bytealg.IndexString"], named := ["unicode/utf8.first", "unicode/utf8.acceptRanges", "internal/bytealg.MaxLen"], apart := false, laid := [("unicode/utf8.acceptRanges", laid_unicode_utf8_acceptRanges), ("unicode/utf8.first", laid_unicode_utf8_first)] }
def ExactFieldSaid : Prop := exactFieldRow.holds Tryz.pinned (OpenSpec.ofChange exactFieldSpec)

/-- ITS FALSE NEIGHBOUR: 'it returns false'. Refute it at one input. -/
def exactFieldWrong : ChangeSpec := { name := "exactField", fn := fun _ => fun
  | [d1, d2, d3] => { results := [.lit (.bool false)], args := [d1, d2, d3] }
  | _ => none }
def ExactFieldWrongFalsely : Prop := exactFieldRow.holds Tryz.pinned (OpenSpec.ofChange exactFieldWrong)

/-- 'putloglaw01.ExactIntegers': WHATEVER THE INPUT: true; the input reads as it did. -/
def exactIntegersSpec : ChangeSpec := { name := "exactIntegers", fn := fun _ => fun
  | [d1, d2, d3] => { results := [.lit (.bool true)], args := [d1, d2, d3] }
  | _ => none }
def exactIntegersRow : OpenClaim := { program := "ytmkjmkdmfamciaagreatdoor", sum := "18820fc8180b21bd99d3f726e3c91060b766a9ca2311e1b6fb3d0a1e46362c39", func := "putlog/putloglaw01.ExactIntegers", spec := "exactIntegers", inPlace := ["internal/abi.NoEscape", "internal/bytealg.MakeNoZero", "internal/bytealg.IndexByteString", "internal/bytealg.IndexString"], named := ["unicode/utf8.first", "unicode/utf8.acceptRanges", "internal/bytealg.MaxLen"], apart := false, laid := [("unicode/utf8.acceptRanges", laid_unicode_utf8_acceptRanges), ("unicode/utf8.first", laid_unicode_utf8_first)] }
def ExactIntegersSaid : Prop := exactIntegersRow.holds Tryz.pinned (OpenSpec.ofChange exactIntegersSpec)

/-- ITS FALSE NEIGHBOUR: 'it returns false'. Refute it at one input. -/
def exactIntegersWrong : ChangeSpec := { name := "exactIntegers", fn := fun _ => fun
  | [d1, d2, d3] => { results := [.lit (.bool false)], args := [d1, d2, d3] }
  | _ => none }
def ExactIntegersWrongFalsely : Prop := exactIntegersRow.holds Tryz.pinned (OpenSpec.ofChange exactIntegersWrong)

/-- 'putloglaw01.ExactFractions': WHATEVER THE INPUT: true; the input reads as it did. -/
def exactFractionsSpec : ChangeSpec := { name := "exactFractions", fn := fun _ => fun
  | [d1, d2, d3] => { results := [.lit (.bool true)], args := [d1, d2, d3] }
  | _ => none }
def exactFractionsRow : OpenClaim := { program := "ytmkjmkdmfamciaagreatdoor", sum := "18820fc8180b21bd99d3f726e3c91060b766a9ca2311e1b6fb3d0a1e46362c39", func := "putlog/putloglaw01.ExactFractions", spec := "exactFractions", inPlace := ["internal/abi.NoEscape", "internal/bytealg.MakeNoZero", "internal/bytealg.IndexByteString", "internal/bytealg.IndexString"], named := ["unicode/utf8.first", "unicode/utf8.acceptRanges", "internal/bytealg.MaxLen"], apart := false, laid := [("unicode/utf8.acceptRanges", laid_unicode_utf8_acceptRanges), ("unicode/utf8.first", laid_unicode_utf8_first)] }
def ExactFractionsSaid : Prop := exactFractionsRow.holds Tryz.pinned (OpenSpec.ofChange exactFractionsSpec)

/-- ITS FALSE NEIGHBOUR: 'it returns false'. Refute it at one input. -/
def exactFractionsWrong : ChangeSpec := { name := "exactFractions", fn := fun _ => fun
  | [d1, d2, d3] => { results := [.lit (.bool false)], args := [d1, d2, d3] }
  | _ => none }
def ExactFractionsWrongFalsely : Prop := exactFractionsRow.holds Tryz.pinned (OpenSpec.ofChange exactFractionsWrong)

/-- 'putloglaw01.ExactSolves': WHATEVER THE INPUT: true; the input reads as it did. -/
def exactSolvesSpec : ChangeSpec := { name := "exactSolves", fn := fun _ => fun
  | [d1, d2] => { results := [.lit (.bool true)], args := [d1, d2] }
  | _ => none }
def exactSolvesRow : OpenClaim := { program := "ytmkjmkdmfamciaagreatdoor", sum := "18820fc8180b21bd99d3f726e3c91060b766a9ca2311e1b6fb3d0a1e46362c39", func := "putlog/putloglaw01.ExactSolves", spec := "exactSolves", inPlace := ["internal/abi.NoEscape", "internal/bytealg.MakeNoZero", "internal/bytealg.IndexByteString", "internal/bytealg.IndexString"], unfollowed := true, recurses := true, named := ["unicode/utf8.first", "unicode/utf8.acceptRanges", "internal/bytealg.MaxLen"], apart := false, laid := [("unicode/utf8.acceptRanges", laid_unicode_utf8_acceptRanges), ("unicode/utf8.first", laid_unicode_utf8_first)] }
def ExactSolvesSaid : Prop := exactSolvesRow.holds Tryz.pinned (OpenSpec.ofChange exactSolvesSpec)

/-- ITS FALSE NEIGHBOUR: 'it returns false'. Refute it at one input. -/
def exactSolvesWrong : ChangeSpec := { name := "exactSolves", fn := fun _ => fun
  | [d1, d2] => { results := [.lit (.bool false)], args := [d1, d2] }
  | _ => none }
def ExactSolvesWrongFalsely : Prop := exactSolvesRow.holds Tryz.pinned (OpenSpec.ofChange exactSolvesWrong)

/-- 'putloglaw01.ExactAccepts': WHATEVER THE INPUT: true; the input reads as it did. -/
def exactAcceptsSpec : ChangeSpec := { name := "exactAccepts", fn := fun _ => fun
  | [d1, d2] => { results := [.lit (.bool true)], args := [d1, d2] }
  | _ => none }
def exactAcceptsRow : OpenClaim := { program := "ytmkjmkdmfamciaagreatdoor", sum := "18820fc8180b21bd99d3f726e3c91060b766a9ca2311e1b6fb3d0a1e46362c39", func := "putlog/putloglaw01.ExactAccepts", spec := "exactAccepts", inPlace := ["internal/abi.NoEscape", "internal/bytealg.MakeNoZero", "internal/bytealg.IndexByteString", "internal/bytealg.IndexString"], unfollowed := true, recurses := true, named := ["unicode/utf8.first", "unicode/utf8.acceptRanges", "internal/bytealg.MaxLen"], apart := false, laid := [("unicode/utf8.acceptRanges", laid_unicode_utf8_acceptRanges), ("unicode/utf8.first", laid_unicode_utf8_first)] }
def ExactAcceptsSaid : Prop := exactAcceptsRow.holds Tryz.pinned (OpenSpec.ofChange exactAcceptsSpec)

/-- ITS FALSE NEIGHBOUR: 'it returns false'. Refute it at one input. -/
def exactAcceptsWrong : ChangeSpec := { name := "exactAccepts", fn := fun _ => fun
  | [d1, d2] => { results := [.lit (.bool false)], args := [d1, d2] }
  | _ => none }
def ExactAcceptsWrongFalsely : Prop := exactAcceptsRow.holds Tryz.pinned (OpenSpec.ofChange exactAcceptsWrong)

/-- 'putloglaw01.ExactAlternative': WHATEVER THE INPUT: true; the input reads as it did. -/
def exactAlternativeSpec : ChangeSpec := { name := "exactAlternative", fn := fun _ => fun
  | [d1, d2, d3] => { results := [.lit (.bool true)], args := [d1, d2, d3] }
  | _ => none }
def exactAlternativeRow : OpenClaim := { program := "ytmkjmkdmfamciaagreatdoor", sum := "18820fc8180b21bd99d3f726e3c91060b766a9ca2311e1b6fb3d0a1e46362c39", func := "putlog/putloglaw01.ExactAlternative", spec := "exactAlternative", inPlace := ["internal/abi.NoEscape", "internal/bytealg.MakeNoZero", "internal/bytealg.IndexByteString", "internal/bytealg.IndexString"], unfollowed := true, recurses := true, named := ["unicode/utf8.first", "unicode/utf8.acceptRanges", "internal/bytealg.MaxLen"], apart := false, laid := [("unicode/utf8.acceptRanges", laid_unicode_utf8_acceptRanges), ("unicode/utf8.first", laid_unicode_utf8_first)] }
def ExactAlternativeSaid : Prop := exactAlternativeRow.holds Tryz.pinned (OpenSpec.ofChange exactAlternativeSpec)

/-- ITS FALSE NEIGHBOUR: 'it returns false'. Refute it at one input. -/
def exactAlternativeWrong : ChangeSpec := { name := "exactAlternative", fn := fun _ => fun
  | [d1, d2, d3] => { results := [.lit (.bool false)], args := [d1, d2, d3] }
  | _ => none }
def ExactAlternativeWrongFalsely : Prop := exactAlternativeRow.holds Tryz.pinned (OpenSpec.ofChange exactAlternativeWrong)

/- THE SECOND FORM. 'bulk': how many values and letters a reading holds, each counted each time it is reached (what is shared counts as often as it is met; a slice's spare places count too). A statement '..UptoSaid' is the law's where the arguments, and the package variables that the reading takes, are together of bulk at most 1048576: NARROWER than '..Said'. Prove '..Said' where nothing that the law and all that it calls make is longer than what came in: it says more and counts as full. Else prove '..UptoSaid'. A law counts once. -/
mutual
def uptoBulk {H : Type} : DataW H → Nat
  | .lit (.string bytes) => bytes.length + 1
  | .lit _ => 1
  | .nil => 1
  | .ptr d => uptoBulk d + 1
  | .slice elems spare => uptoBulkAll elems + uptoBulkAll spare + 1
  | .agg parts => uptoBulkAll parts + 1
  | .iface _ d => uptoBulk d + 1
  | .map entries => uptoBulkEntries entries + 1
  | .held _ => 1
def uptoBulkAll {H : Type} : List (DataW H) → Nat
  | [] => 0
  | d :: r => uptoBulk d + uptoBulkAll r
def uptoBulkEntries {H : Type} : List (Lit × DataW H) → Nat
  | [] => 0
  | x :: r => uptoBulkEntry x + uptoBulkEntries r
def uptoBulkEntry {H : Type} : Lit × DataW H → Nat
  | (.string bytes, d) => bytes.length + uptoBulk d + 1
  | (_, d) => uptoBulk d + 1
 end
def uptoSmall : (H : Type) → List (DataW H) → Bool := fun _ ds => decide (uptoBulkAll ds ≤ 1048576)
def OpenSpec.upto (s : _root_.Go.ChangeSpec) : _root_.Go.OpenSpec := { _root_.Go.OpenSpec.ofChange s with cond := some uptoSmall }

/-- 'putloglaw01.ExactRootBelow', WHERE WHAT IT READS IS OF BULK AT MOST 1048576: true; the input reads as it did. -/
def exactRootBelowUptoRow : OpenClaim := { program := "ytmkjmkdmfamciaagreatdoor", sum := "18820fc8180b21bd99d3f726e3c91060b766a9ca2311e1b6fb3d0a1e46362c39", func := "putlog/putloglaw01.ExactRootBelow", spec := "exactRootBelow", inPlace := ["internal/abi.NoEscape", "internal/bytealg.MakeNoZero", "internal/bytealg.IndexByteString", "internal/bytealg.IndexString"], named := ["unicode/utf8.first", "unicode/utf8.acceptRanges", "internal/bytealg.MaxLen"], apart := false, laid := [("unicode/utf8.acceptRanges", laid_unicode_utf8_acceptRanges), ("unicode/utf8.first", laid_unicode_utf8_first)], narrowed := true }
def ExactRootBelowUptoSaid : Prop := exactRootBelowUptoRow.holds Tryz.pinned (OpenSpec.upto exactRootBelowSpec)

/-- 'putloglaw01.ExactRanks', WHERE WHAT IT READS IS OF BULK AT MOST 1048576: true; the input reads as it did. -/
def exactRanksUptoRow : OpenClaim := { program := "ytmkjmkdmfamciaagreatdoor", sum := "18820fc8180b21bd99d3f726e3c91060b766a9ca2311e1b6fb3d0a1e46362c39", func := "putlog/putloglaw01.ExactRanks", spec := "exactRanks", inPlace := ["internal/abi.NoEscape", "internal/bytealg.MakeNoZero", "internal/bytealg.IndexByteString", "internal/bytealg.IndexString"], named := ["unicode/utf8.first", "unicode/utf8.acceptRanges", "internal/bytealg.MaxLen"], apart := false, laid := [("unicode/utf8.acceptRanges", laid_unicode_utf8_acceptRanges), ("unicode/utf8.first", laid_unicode_utf8_first)], narrowed := true }
def ExactRanksUptoSaid : Prop := exactRanksUptoRow.holds Tryz.pinned (OpenSpec.upto exactRanksSpec)

/-- 'putloglaw01.ExactRoots', WHERE WHAT IT READS IS OF BULK AT MOST 1048576: true; the input reads as it did. -/
def exactRootsUptoRow : OpenClaim := { program := "ytmkjmkdmfamciaagreatdoor", sum := "18820fc8180b21bd99d3f726e3c91060b766a9ca2311e1b6fb3d0a1e46362c39", func := "putlog/putloglaw01.ExactRoots", spec := "exactRoots", inPlace := ["internal/abi.NoEscape", "internal/bytealg.MakeNoZero", "internal/bytealg.IndexByteString", "internal/bytealg.IndexString"], unfollowed := true, recurses := true, named := ["unicode/utf8.first", "unicode/utf8.acceptRanges", "internal/bytealg.MaxLen"], apart := false, laid := [("unicode/utf8.acceptRanges", laid_unicode_utf8_acceptRanges), ("unicode/utf8.first", laid_unicode_utf8_first)], narrowed := true }
def ExactRootsUptoSaid : Prop := exactRootsUptoRow.holds Tryz.pinned (OpenSpec.upto exactRootsSpec)

/-- 'putloglaw01.ExactField', WHERE WHAT IT READS IS OF BULK AT MOST 1048576: true; the input reads as it did. -/
def exactFieldUptoRow : OpenClaim := { program := "ytmkjmkdmfamciaagreatdoor", sum := "18820fc8180b21bd99d3f726e3c91060b766a9ca2311e1b6fb3d0a1e46362c39", func := "putlog/putloglaw01.ExactField", spec := "exactField", inPlace := ["internal/abi.NoEscape", "internal/bytealg.MakeNoZero", "internal/bytealg.IndexByteString", "internal/bytealg.IndexString"], named := ["unicode/utf8.first", "unicode/utf8.acceptRanges", "internal/bytealg.MaxLen"], apart := false, laid := [("unicode/utf8.acceptRanges", laid_unicode_utf8_acceptRanges), ("unicode/utf8.first", laid_unicode_utf8_first)], narrowed := true }
def ExactFieldUptoSaid : Prop := exactFieldUptoRow.holds Tryz.pinned (OpenSpec.upto exactFieldSpec)

/-- 'putloglaw01.ExactIntegers', WHERE WHAT IT READS IS OF BULK AT MOST 1048576: true; the input reads as it did. -/
def exactIntegersUptoRow : OpenClaim := { program := "ytmkjmkdmfamciaagreatdoor", sum := "18820fc8180b21bd99d3f726e3c91060b766a9ca2311e1b6fb3d0a1e46362c39", func := "putlog/putloglaw01.ExactIntegers", spec := "exactIntegers", inPlace := ["internal/abi.NoEscape", "internal/bytealg.MakeNoZero", "internal/bytealg.IndexByteString", "internal/bytealg.IndexString"], named := ["unicode/utf8.first", "unicode/utf8.acceptRanges", "internal/bytealg.MaxLen"], apart := false, laid := [("unicode/utf8.acceptRanges", laid_unicode_utf8_acceptRanges), ("unicode/utf8.first", laid_unicode_utf8_first)], narrowed := true }
def ExactIntegersUptoSaid : Prop := exactIntegersUptoRow.holds Tryz.pinned (OpenSpec.upto exactIntegersSpec)

/-- 'putloglaw01.ExactFractions', WHERE WHAT IT READS IS OF BULK AT MOST 1048576: true; the input reads as it did. -/
def exactFractionsUptoRow : OpenClaim := { program := "ytmkjmkdmfamciaagreatdoor", sum := "18820fc8180b21bd99d3f726e3c91060b766a9ca2311e1b6fb3d0a1e46362c39", func := "putlog/putloglaw01.ExactFractions", spec := "exactFractions", inPlace := ["internal/abi.NoEscape", "internal/bytealg.MakeNoZero", "internal/bytealg.IndexByteString", "internal/bytealg.IndexString"], named := ["unicode/utf8.first", "unicode/utf8.acceptRanges", "internal/bytealg.MaxLen"], apart := false, laid := [("unicode/utf8.acceptRanges", laid_unicode_utf8_acceptRanges), ("unicode/utf8.first", laid_unicode_utf8_first)], narrowed := true }
def ExactFractionsUptoSaid : Prop := exactFractionsUptoRow.holds Tryz.pinned (OpenSpec.upto exactFractionsSpec)

/-- 'putloglaw01.ExactSolves', WHERE WHAT IT READS IS OF BULK AT MOST 1048576: true; the input reads as it did. -/
def exactSolvesUptoRow : OpenClaim := { program := "ytmkjmkdmfamciaagreatdoor", sum := "18820fc8180b21bd99d3f726e3c91060b766a9ca2311e1b6fb3d0a1e46362c39", func := "putlog/putloglaw01.ExactSolves", spec := "exactSolves", inPlace := ["internal/abi.NoEscape", "internal/bytealg.MakeNoZero", "internal/bytealg.IndexByteString", "internal/bytealg.IndexString"], unfollowed := true, recurses := true, named := ["unicode/utf8.first", "unicode/utf8.acceptRanges", "internal/bytealg.MaxLen"], apart := false, laid := [("unicode/utf8.acceptRanges", laid_unicode_utf8_acceptRanges), ("unicode/utf8.first", laid_unicode_utf8_first)], narrowed := true }
def ExactSolvesUptoSaid : Prop := exactSolvesUptoRow.holds Tryz.pinned (OpenSpec.upto exactSolvesSpec)

/-- 'putloglaw01.ExactAccepts', WHERE WHAT IT READS IS OF BULK AT MOST 1048576: true; the input reads as it did. -/
def exactAcceptsUptoRow : OpenClaim := { program := "ytmkjmkdmfamciaagreatdoor", sum := "18820fc8180b21bd99d3f726e3c91060b766a9ca2311e1b6fb3d0a1e46362c39", func := "putlog/putloglaw01.ExactAccepts", spec := "exactAccepts", inPlace := ["internal/abi.NoEscape", "internal/bytealg.MakeNoZero", "internal/bytealg.IndexByteString", "internal/bytealg.IndexString"], unfollowed := true, recurses := true, named := ["unicode/utf8.first", "unicode/utf8.acceptRanges", "internal/bytealg.MaxLen"], apart := false, laid := [("unicode/utf8.acceptRanges", laid_unicode_utf8_acceptRanges), ("unicode/utf8.first", laid_unicode_utf8_first)], narrowed := true }
def ExactAcceptsUptoSaid : Prop := exactAcceptsUptoRow.holds Tryz.pinned (OpenSpec.upto exactAcceptsSpec)

/-- 'putloglaw01.ExactAlternative', WHERE WHAT IT READS IS OF BULK AT MOST 1048576: true; the input reads as it did. -/
def exactAlternativeUptoRow : OpenClaim := { program := "ytmkjmkdmfamciaagreatdoor", sum := "18820fc8180b21bd99d3f726e3c91060b766a9ca2311e1b6fb3d0a1e46362c39", func := "putlog/putloglaw01.ExactAlternative", spec := "exactAlternative", inPlace := ["internal/abi.NoEscape", "internal/bytealg.MakeNoZero", "internal/bytealg.IndexByteString", "internal/bytealg.IndexString"], unfollowed := true, recurses := true, named := ["unicode/utf8.first", "unicode/utf8.acceptRanges", "internal/bytealg.MaxLen"], apart := false, laid := [("unicode/utf8.acceptRanges", laid_unicode_utf8_acceptRanges), ("unicode/utf8.first", laid_unicode_utf8_first)], narrowed := true }
def ExactAlternativeUptoSaid : Prop := exactAlternativeUptoRow.holds Tryz.pinned (OpenSpec.upto exactAlternativeSpec)

end Rows
end Go.Proofs.YtmkjmkdmfamciaaGreatDoor
