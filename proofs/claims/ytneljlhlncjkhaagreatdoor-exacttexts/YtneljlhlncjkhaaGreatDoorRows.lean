/-
  NARROWER THAN 'FOR EVERY INPUT', by the rows' own cells (each row's printed sentence says how): ExactCertificates: laid · ExactMinors: laid · ExactDefinite: laid · ExactTexts: laid · ExactDuality: laid · ExactOptimizes: laid.
  DERIVED. THE GIVEN ROWS OF THIS SEAT. 6 by the template 'for every input the law returns true; each argument reads behind the call as it read before'; 0 by the template 'total and deterministic' (their statements: YtneljlhlncjkhaaGreatDoorTotals.lean).
  GIVEN WITH THE SEED: the statements are not yours to turn. If you find one false, say at which input.
  Laid BY PROGRAM, IN A SANDBOX (cutbox-rows.mjs): the forced cells as the released guide's own fill.sh prints them over the translation 718d2b045b96241f… (all of the seat's roots in one cut). By AI agents, Wed Nov 11 2026. No macro, syntax, notation, axiom, sorry.
-/
import Derived.Test.YtneljlhlncjkhaaGreatDoorChecked
import GoSem.PinnedTables
import GoSem.Claim
import GoSem.ClaimJoined
import GoSem.ClaimMapViews
import Derived.JoinedTies
import Derived.KernelRfl
namespace Go.Proofs.YtneljlhlncjkhaaGreatDoor
/- THE CELL 'sum', in the pinned program and in every row, IS THE sha256 OF THE DUMP (.gsa) THAT YtneljlhlncjkhaaGreatDoorProg.lean LOADS. Nothing in Lean hashes anything: it is a label: what it is worth is what the hold of that sum in a sandbox is worth. -/
noncomputable def Tryz.pinned : Pinned := { name := "ytneljlhlncjkhaagreatdoor", sum := "718d2b045b96241ff84a675c5a976cfc3905899743966dee98a34de5044d5358", checked := Tryz.checked }
namespace Rows
def none {H : Type} : Left H := { results := [], args := [] }

/- WHAT THE LISTED PACKAGE-LEVEL VARIABLES READ AS WHEN THE CALL BEGINS. Each datum BY PROGRAM (the guide's laid-datum.mjs) off the statement by which the dump's own 'gosem.cut.vars' lays the variable. In a bare row this is a premise. The card (YtneljlhlncjkhaaGreatDoorCards.lean) ties it to the program's text. -/
def laid_unicode_utf8_acceptRanges {H : Type} : DataW H := .agg [.agg [.lit (.int .u8 128), .lit (.int .u8 191)], .agg [.lit (.int .u8 160), .lit (.int .u8 191)], .agg [.lit (.int .u8 128), .lit (.int .u8 159)], .agg [.lit (.int .u8 144), .lit (.int .u8 191)], .agg [.lit (.int .u8 128), .lit (.int .u8 143)], .agg [.lit (.int .u8 0), .lit (.int .u8 0)], .agg [.lit (.int .u8 0), .lit (.int .u8 0)], .agg [.lit (.int .u8 0), .lit (.int .u8 0)], .agg [.lit (.int .u8 0), .lit (.int .u8 0)], .agg [.lit (.int .u8 0), .lit (.int .u8 0)], .agg [.lit (.int .u8 0), .lit (.int .u8 0)], .agg [.lit (.int .u8 0), .lit (.int .u8 0)], .agg [.lit (.int .u8 0), .lit (.int .u8 0)], .agg [.lit (.int .u8 0), .lit (.int .u8 0)], .agg [.lit (.int .u8 0), .lit (.int .u8 0)], .agg [.lit (.int .u8 0), .lit (.int .u8 0)]]
/-- One of Go's own tables, pinned by name: the form's constant. -/
def laid_unicode_utf8_first : DataW Unit := Go.Pinned.utf8First

/-- 'putloglaw01.ExactCertificates': WHATEVER THE INPUT: true; the input reads as it did. -/
def exactCertificatesSpec : ChangeSpec := { name := "exactCertificates", fn := fun _ => fun
  | [d1, d2] => { results := [.lit (.bool true)], args := [d1, d2] }
  | _ => none }
def exactCertificatesRow : OpenClaim := { program := "ytneljlhlncjkhaagreatdoor", sum := "718d2b045b96241ff84a675c5a976cfc3905899743966dee98a34de5044d5358", func := "putlog/putloglaw01.ExactCertificates", spec := "exactCertificates", inPlace := ["internal/abi.NoEscape", "internal/bytealg.MakeNoZero", "internal/bytealg.IndexByteString", "internal/bytealg.IndexString"], named := ["unicode/utf8.first", "unicode/utf8.acceptRanges", "internal/bytealg.MaxLen"], apart := false, laid := [("unicode/utf8.acceptRanges", laid_unicode_utf8_acceptRanges), ("unicode/utf8.first", laid_unicode_utf8_first)] }
def ExactCertificatesSaid : Prop := exactCertificatesRow.holds Tryz.pinned (OpenSpec.ofChange exactCertificatesSpec)

/-- ITS FALSE NEIGHBOUR: 'it returns false'. Refute it at one input. -/
def exactCertificatesWrong : ChangeSpec := { name := "exactCertificates", fn := fun _ => fun
  | [d1, d2] => { results := [.lit (.bool false)], args := [d1, d2] }
  | _ => none }
def ExactCertificatesWrongFalsely : Prop := exactCertificatesRow.holds Tryz.pinned (OpenSpec.ofChange exactCertificatesWrong)

/-- 'putloglaw01.ExactMinors': WHATEVER THE INPUT: true; the input reads as it did. -/
def exactMinorsSpec : ChangeSpec := { name := "exactMinors", fn := fun _ => fun
  | [d] => { results := [.lit (.bool true)], args := [d] }
  | _ => none }
def exactMinorsRow : OpenClaim := { program := "ytneljlhlncjkhaagreatdoor", sum := "718d2b045b96241ff84a675c5a976cfc3905899743966dee98a34de5044d5358", func := "putlog/putloglaw01.ExactMinors", spec := "exactMinors", inPlace := ["internal/abi.NoEscape", "internal/bytealg.MakeNoZero", "internal/bytealg.IndexByteString", "internal/bytealg.IndexString"], unfollowed := true, recurses := true, named := ["unicode/utf8.first", "unicode/utf8.acceptRanges", "internal/bytealg.MaxLen"], apart := false, laid := [("unicode/utf8.acceptRanges", laid_unicode_utf8_acceptRanges), ("unicode/utf8.first", laid_unicode_utf8_first)] }
def ExactMinorsSaid : Prop := exactMinorsRow.holds Tryz.pinned (OpenSpec.ofChange exactMinorsSpec)

/-- ITS FALSE NEIGHBOUR: 'it returns false'. Refute it at one input. -/
def exactMinorsWrong : ChangeSpec := { name := "exactMinors", fn := fun _ => fun
  | [d] => { results := [.lit (.bool false)], args := [d] }
  | _ => none }
def ExactMinorsWrongFalsely : Prop := exactMinorsRow.holds Tryz.pinned (OpenSpec.ofChange exactMinorsWrong)

/-- 'putloglaw01.ExactDefinite': WHATEVER THE INPUT: true; the input reads as it did. -/
def exactDefiniteSpec : ChangeSpec := { name := "exactDefinite", fn := fun _ => fun
  | [d1, d2] => { results := [.lit (.bool true)], args := [d1, d2] }
  | _ => none }
def exactDefiniteRow : OpenClaim := { program := "ytneljlhlncjkhaagreatdoor", sum := "718d2b045b96241ff84a675c5a976cfc3905899743966dee98a34de5044d5358", func := "putlog/putloglaw01.ExactDefinite", spec := "exactDefinite", inPlace := ["internal/abi.NoEscape", "internal/bytealg.MakeNoZero", "internal/bytealg.IndexByteString", "internal/bytealg.IndexString"], unfollowed := true, recurses := true, named := ["unicode/utf8.first", "unicode/utf8.acceptRanges", "internal/bytealg.MaxLen"], apart := false, laid := [("unicode/utf8.acceptRanges", laid_unicode_utf8_acceptRanges), ("unicode/utf8.first", laid_unicode_utf8_first)] }
def ExactDefiniteSaid : Prop := exactDefiniteRow.holds Tryz.pinned (OpenSpec.ofChange exactDefiniteSpec)

/-- ITS FALSE NEIGHBOUR: 'it returns false'. Refute it at one input. -/
def exactDefiniteWrong : ChangeSpec := { name := "exactDefinite", fn := fun _ => fun
  | [d1, d2] => { results := [.lit (.bool false)], args := [d1, d2] }
  | _ => none }
def ExactDefiniteWrongFalsely : Prop := exactDefiniteRow.holds Tryz.pinned (OpenSpec.ofChange exactDefiniteWrong)

/-- 'putloglaw01.ExactTexts': WHATEVER THE INPUT: true; the input reads as it did. -/
def exactTextsSpec : ChangeSpec := { name := "exactTexts", fn := fun _ => fun
  | [d1, d2] => { results := [.lit (.bool true)], args := [d1, d2] }
  | _ => none }
def exactTextsRow : OpenClaim := { program := "ytneljlhlncjkhaagreatdoor", sum := "718d2b045b96241ff84a675c5a976cfc3905899743966dee98a34de5044d5358", func := "putlog/putloglaw01.ExactTexts", spec := "exactTexts", inPlace := ["internal/abi.NoEscape", "internal/bytealg.MakeNoZero", "internal/bytealg.IndexByteString", "internal/bytealg.IndexString"], named := ["unicode/utf8.first", "unicode/utf8.acceptRanges", "internal/bytealg.MaxLen"], apart := false, laid := [("unicode/utf8.acceptRanges", laid_unicode_utf8_acceptRanges), ("unicode/utf8.first", laid_unicode_utf8_first)] }
def ExactTextsSaid : Prop := exactTextsRow.holds Tryz.pinned (OpenSpec.ofChange exactTextsSpec)

/-- ITS FALSE NEIGHBOUR: 'it returns false'. Refute it at one input. -/
def exactTextsWrong : ChangeSpec := { name := "exactTexts", fn := fun _ => fun
  | [d1, d2] => { results := [.lit (.bool false)], args := [d1, d2] }
  | _ => none }
def ExactTextsWrongFalsely : Prop := exactTextsRow.holds Tryz.pinned (OpenSpec.ofChange exactTextsWrong)

/-- 'putloglaw01.ExactDuality': WHATEVER THE INPUT: true; the input reads as it did. -/
def exactDualitySpec : ChangeSpec := { name := "exactDuality", fn := fun _ => fun
  | [d1, d2, d3] => { results := [.lit (.bool true)], args := [d1, d2, d3] }
  | _ => none }
def exactDualityRow : OpenClaim := { program := "ytneljlhlncjkhaagreatdoor", sum := "718d2b045b96241ff84a675c5a976cfc3905899743966dee98a34de5044d5358", func := "putlog/putloglaw01.ExactDuality", spec := "exactDuality", inPlace := ["internal/abi.NoEscape", "internal/bytealg.MakeNoZero", "internal/bytealg.IndexByteString", "internal/bytealg.IndexString"], unfollowed := true, recurses := true, named := ["unicode/utf8.first", "unicode/utf8.acceptRanges", "internal/bytealg.MaxLen"], apart := false, laid := [("unicode/utf8.acceptRanges", laid_unicode_utf8_acceptRanges), ("unicode/utf8.first", laid_unicode_utf8_first)] }
def ExactDualitySaid : Prop := exactDualityRow.holds Tryz.pinned (OpenSpec.ofChange exactDualitySpec)

/-- ITS FALSE NEIGHBOUR: 'it returns false'. Refute it at one input. -/
def exactDualityWrong : ChangeSpec := { name := "exactDuality", fn := fun _ => fun
  | [d1, d2, d3] => { results := [.lit (.bool false)], args := [d1, d2, d3] }
  | _ => none }
def ExactDualityWrongFalsely : Prop := exactDualityRow.holds Tryz.pinned (OpenSpec.ofChange exactDualityWrong)

/-- 'putloglaw01.ExactOptimizes': WHATEVER THE INPUT: true; the input reads as it did. -/
def exactOptimizesSpec : ChangeSpec := { name := "exactOptimizes", fn := fun _ => fun
  | [d] => { results := [.lit (.bool true)], args := [d] }
  | _ => none }
def exactOptimizesRow : OpenClaim := { program := "ytneljlhlncjkhaagreatdoor", sum := "718d2b045b96241ff84a675c5a976cfc3905899743966dee98a34de5044d5358", func := "putlog/putloglaw01.ExactOptimizes", spec := "exactOptimizes", inPlace := ["internal/abi.NoEscape", "internal/bytealg.MakeNoZero", "internal/bytealg.IndexByteString", "internal/bytealg.IndexString"], unfollowed := true, recurses := true, named := ["unicode/utf8.first", "unicode/utf8.acceptRanges", "internal/bytealg.MaxLen"], apart := false, laid := [("unicode/utf8.acceptRanges", laid_unicode_utf8_acceptRanges), ("unicode/utf8.first", laid_unicode_utf8_first)] }
def ExactOptimizesSaid : Prop := exactOptimizesRow.holds Tryz.pinned (OpenSpec.ofChange exactOptimizesSpec)

/-- ITS FALSE NEIGHBOUR: 'it returns false'. Refute it at one input. -/
def exactOptimizesWrong : ChangeSpec := { name := "exactOptimizes", fn := fun _ => fun
  | [d] => { results := [.lit (.bool false)], args := [d] }
  | _ => none }
def ExactOptimizesWrongFalsely : Prop := exactOptimizesRow.holds Tryz.pinned (OpenSpec.ofChange exactOptimizesWrong)

/- THE SECOND FORM. 'bulk': how many values and letters a reading holds, each counted each time it is reached (what is shared counts as often as it is met; a slice's spare places count too). A statement '..UptoSaid' is the law's where the arguments, and the package variables that the reading takes, are together of bulk at most 1048576: NARROWER than '..Said'. Prove '..Said' where nothing that the law and all that it calls make is longer than what came in: it says more and counts as full. Else prove '..UptoSaid'. A law counts once. -/
mutual
def uptoBulk {H : Type} : DataW H → Nat
  | .lit (.string bytes) => bytes.length + 1
  | .lit _ => 1
  | .nil => 1
  | .ptr d => uptoBulk d + 1
  | .slice elems spare => uptoBulkAll elems + uptoBulkAll spare + 1
  | .agg parts => uptoBulkAll parts + 1
  | .iface _ d => uptoBulk d + 1
  | .map entries => uptoBulkEntries entries + 1
  | .held _ => 1
def uptoBulkAll {H : Type} : List (DataW H) → Nat
  | [] => 0
  | d :: r => uptoBulk d + uptoBulkAll r
def uptoBulkEntries {H : Type} : List (Lit × DataW H) → Nat
  | [] => 0
  | x :: r => uptoBulkEntry x + uptoBulkEntries r
def uptoBulkEntry {H : Type} : Lit × DataW H → Nat
  | (.string bytes, d) => bytes.length + uptoBulk d + 1
  | (_, d) => uptoBulk d + 1
 end
def uptoSmall : (H : Type) → List (DataW H) → Bool := fun _ ds => decide (uptoBulkAll ds ≤ 1048576)
def OpenSpec.upto (s : _root_.Go.ChangeSpec) : _root_.Go.OpenSpec := { _root_.Go.OpenSpec.ofChange s with cond := some uptoSmall }

/-- 'putloglaw01.ExactCertificates', WHERE WHAT IT READS IS OF BULK AT MOST 1048576: true; the input reads as it did. -/
def exactCertificatesUptoRow : OpenClaim := { program := "ytneljlhlncjkhaagreatdoor", sum := "718d2b045b96241ff84a675c5a976cfc3905899743966dee98a34de5044d5358", func := "putlog/putloglaw01.ExactCertificates", spec := "exactCertificates", inPlace := ["internal/abi.NoEscape", "internal/bytealg.MakeNoZero", "internal/bytealg.IndexByteString", "internal/bytealg.IndexString"], named := ["unicode/utf8.first", "unicode/utf8.acceptRanges", "internal/bytealg.MaxLen"], apart := false, laid := [("unicode/utf8.acceptRanges", laid_unicode_utf8_acceptRanges), ("unicode/utf8.first", laid_unicode_utf8_first)], narrowed := true }
def ExactCertificatesUptoSaid : Prop := exactCertificatesUptoRow.holds Tryz.pinned (OpenSpec.upto exactCertificatesSpec)

/-- 'putloglaw01.ExactMinors', WHERE WHAT IT READS IS OF BULK AT MOST 1048576: true; the input reads as it did. -/
def exactMinorsUptoRow : OpenClaim := { program := "ytneljlhlncjkhaagreatdoor", sum := "718d2b045b96241ff84a675c5a976cfc3905899743966dee98a34de5044d5358", func := "putlog/putloglaw01.ExactMinors", spec := "exactMinors", inPlace := ["internal/abi.NoEscape", "internal/bytealg.MakeNoZero", "internal/bytealg.IndexByteString", "internal/bytealg.IndexString"], unfollowed := true, recurses := true, named := ["unicode/utf8.first", "unicode/utf8.acceptRanges", "internal/bytealg.MaxLen"], apart := false, laid := [("unicode/utf8.acceptRanges", laid_unicode_utf8_acceptRanges), ("unicode/utf8.first", laid_unicode_utf8_first)], narrowed := true }
def ExactMinorsUptoSaid : Prop := exactMinorsUptoRow.holds Tryz.pinned (OpenSpec.upto exactMinorsSpec)

/-- 'putloglaw01.ExactDefinite', WHERE WHAT IT READS IS OF BULK AT MOST 1048576: true; the input reads as it did. -/
def exactDefiniteUptoRow : OpenClaim := { program := "ytneljlhlncjkhaagreatdoor", sum := "718d2b045b96241ff84a675c5a976cfc3905899743966dee98a34de5044d5358", func := "putlog/putloglaw01.ExactDefinite", spec := "exactDefinite", inPlace := ["internal/abi.NoEscape", "internal/bytealg.MakeNoZero", "internal/bytealg.IndexByteString", "internal/bytealg.IndexString"], unfollowed := true, recurses := true, named := ["unicode/utf8.first", "unicode/utf8.acceptRanges", "internal/bytealg.MaxLen"], apart := false, laid := [("unicode/utf8.acceptRanges", laid_unicode_utf8_acceptRanges), ("unicode/utf8.first", laid_unicode_utf8_first)], narrowed := true }
def ExactDefiniteUptoSaid : Prop := exactDefiniteUptoRow.holds Tryz.pinned (OpenSpec.upto exactDefiniteSpec)

/-- 'putloglaw01.ExactTexts', WHERE WHAT IT READS IS OF BULK AT MOST 1048576: true; the input reads as it did. -/
def exactTextsUptoRow : OpenClaim := { program := "ytneljlhlncjkhaagreatdoor", sum := "718d2b045b96241ff84a675c5a976cfc3905899743966dee98a34de5044d5358", func := "putlog/putloglaw01.ExactTexts", spec := "exactTexts", inPlace := ["internal/abi.NoEscape", "internal/bytealg.MakeNoZero", "internal/bytealg.IndexByteString", "internal/bytealg.IndexString"], named := ["unicode/utf8.first", "unicode/utf8.acceptRanges", "internal/bytealg.MaxLen"], apart := false, laid := [("unicode/utf8.acceptRanges", laid_unicode_utf8_acceptRanges), ("unicode/utf8.first", laid_unicode_utf8_first)], narrowed := true }
def ExactTextsUptoSaid : Prop := exactTextsUptoRow.holds Tryz.pinned (OpenSpec.upto exactTextsSpec)

/-- 'putloglaw01.ExactDuality', WHERE WHAT IT READS IS OF BULK AT MOST 1048576: true; the input reads as it did. -/
def exactDualityUptoRow : OpenClaim := { program := "ytneljlhlncjkhaagreatdoor", sum := "718d2b045b96241ff84a675c5a976cfc3905899743966dee98a34de5044d5358", func := "putlog/putloglaw01.ExactDuality", spec := "exactDuality", inPlace := ["internal/abi.NoEscape", "internal/bytealg.MakeNoZero", "internal/bytealg.IndexByteString", "internal/bytealg.IndexString"], unfollowed := true, recurses := true, named := ["unicode/utf8.first", "unicode/utf8.acceptRanges", "internal/bytealg.MaxLen"], apart := false, laid := [("unicode/utf8.acceptRanges", laid_unicode_utf8_acceptRanges), ("unicode/utf8.first", laid_unicode_utf8_first)], narrowed := true }
def ExactDualityUptoSaid : Prop := exactDualityUptoRow.holds Tryz.pinned (OpenSpec.upto exactDualitySpec)

/-- 'putloglaw01.ExactOptimizes', WHERE WHAT IT READS IS OF BULK AT MOST 1048576: true; the input reads as it did. -/
def exactOptimizesUptoRow : OpenClaim := { program := "ytneljlhlncjkhaagreatdoor", sum := "718d2b045b96241ff84a675c5a976cfc3905899743966dee98a34de5044d5358", func := "putlog/putloglaw01.ExactOptimizes", spec := "exactOptimizes", inPlace := ["internal/abi.NoEscape", "internal/bytealg.MakeNoZero", "internal/bytealg.IndexByteString", "internal/bytealg.IndexString"], unfollowed := true, recurses := true, named := ["unicode/utf8.first", "unicode/utf8.acceptRanges", "internal/bytealg.MaxLen"], apart := false, laid := [("unicode/utf8.acceptRanges", laid_unicode_utf8_acceptRanges), ("unicode/utf8.first", laid_unicode_utf8_first)], narrowed := true }
def ExactOptimizesUptoSaid : Prop := exactOptimizesUptoRow.holds Tryz.pinned (OpenSpec.upto exactOptimizesSpec)

end Rows
end Go.Proofs.YtneljlhlncjkhaaGreatDoor
