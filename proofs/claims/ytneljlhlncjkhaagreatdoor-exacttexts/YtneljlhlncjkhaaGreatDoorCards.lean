/-
  DERIVED. GIVEN WITH THE SEED: THE CARDS: each row of YtneljlhlncjkhaaGreatDoorRows.lean that lists a variable, with what it lists TIED to the program's text (the seventh form; the later family's looks); each row that meets fmt, with fmt's text TOLD by the authors' own Lean function (tested against real Go, not proved from fmt's source: count such statements apart). THE CARD IS WHAT COUNTS. Prove the row's statement (the work); the ties are given (YtneljlhlncjkhaaGreatDoorTie.lean); close each card by the builder's one call (the guide's Derived/Test/ToyasCard.lean, 'card_holds'). Laid BY PROGRAM, IN A SANDBOX (cutbox-door.mjs). By AI agents, Wed Nov 11 2026. No macro, syntax, notation, axiom, sorry.
-/
import Derived.Test.YtneljlhlncjkhaaGreatDoorRows
import GoSem.ClaimSeven
namespace Go.Proofs.YtneljlhlncjkhaaGreatDoor
namespace Rows

/-- THE TIED CARD OF 'putloglaw01.ExactCertificates'. -/
def exactCertificatesCard : Claim7 := { stood := { row := exactCertificatesRow, standIns := [], harness := (true, "c529851e8d8ecaa2a371ecee4a383b9fa6866ae0494a9f2d521c26521f33c4b3"), looks := false }, kinds := [], alts := [], laidByText := true, laidKinds := [.data, .pinned], laidTests := true, laidLooks := .later }
def ExactCertificatesCardSaid : Prop := Claim7.holds Tryz.pinned (.plain (OpenSpec.ofChange exactCertificatesSpec)) exactCertificatesCard

/-- THE TIED CARD OF 'putloglaw01.ExactMinors'. -/
def exactMinorsCard : Claim7 := { stood := { row := exactMinorsRow, standIns := [], harness := (true, "c529851e8d8ecaa2a371ecee4a383b9fa6866ae0494a9f2d521c26521f33c4b3"), looks := false }, kinds := [], alts := [], laidByText := true, laidKinds := [.data, .pinned], laidTests := true, laidLooks := .later }
def ExactMinorsCardSaid : Prop := Claim7.holds Tryz.pinned (.plain (OpenSpec.ofChange exactMinorsSpec)) exactMinorsCard

/-- THE TIED CARD OF 'putloglaw01.ExactDefinite'. -/
def exactDefiniteCard : Claim7 := { stood := { row := exactDefiniteRow, standIns := [], harness := (true, "c529851e8d8ecaa2a371ecee4a383b9fa6866ae0494a9f2d521c26521f33c4b3"), looks := false }, kinds := [], alts := [], laidByText := true, laidKinds := [.data, .pinned], laidTests := true, laidLooks := .later }
def ExactDefiniteCardSaid : Prop := Claim7.holds Tryz.pinned (.plain (OpenSpec.ofChange exactDefiniteSpec)) exactDefiniteCard

/-- THE TIED CARD OF 'putloglaw01.ExactTexts'. -/
def exactTextsCard : Claim7 := { stood := { row := exactTextsRow, standIns := [], harness := (true, "c529851e8d8ecaa2a371ecee4a383b9fa6866ae0494a9f2d521c26521f33c4b3"), looks := false }, kinds := [], alts := [], laidByText := true, laidKinds := [.data, .pinned], laidTests := true, laidLooks := .later }
def ExactTextsCardSaid : Prop := Claim7.holds Tryz.pinned (.plain (OpenSpec.ofChange exactTextsSpec)) exactTextsCard

/-- THE TIED CARD OF 'putloglaw01.ExactDuality'. -/
def exactDualityCard : Claim7 := { stood := { row := exactDualityRow, standIns := [], harness := (true, "c529851e8d8ecaa2a371ecee4a383b9fa6866ae0494a9f2d521c26521f33c4b3"), looks := false }, kinds := [], alts := [], laidByText := true, laidKinds := [.data, .pinned], laidTests := true, laidLooks := .later }
def ExactDualityCardSaid : Prop := Claim7.holds Tryz.pinned (.plain (OpenSpec.ofChange exactDualitySpec)) exactDualityCard

/-- THE TIED CARD OF 'putloglaw01.ExactOptimizes'. -/
def exactOptimizesCard : Claim7 := { stood := { row := exactOptimizesRow, standIns := [], harness := (true, "c529851e8d8ecaa2a371ecee4a383b9fa6866ae0494a9f2d521c26521f33c4b3"), looks := false }, kinds := [], alts := [], laidByText := true, laidKinds := [.data, .pinned], laidTests := true, laidLooks := .later }
def ExactOptimizesCardSaid : Prop := Claim7.holds Tryz.pinned (.plain (OpenSpec.ofChange exactOptimizesSpec)) exactOptimizesCard

/-- THE SECOND FORM's CARD OF 'putloglaw01.ExactCertificates'. -/
def exactCertificatesUptoCard : Claim7 := { stood := { row := exactCertificatesUptoRow, standIns := [], harness := (true, "c529851e8d8ecaa2a371ecee4a383b9fa6866ae0494a9f2d521c26521f33c4b3"), looks := false }, kinds := [], alts := [], laidByText := true, laidKinds := [.data, .pinned], laidTests := true, laidLooks := .later }
def ExactCertificatesUptoCardSaid : Prop := Claim7.holds Tryz.pinned (.plain (OpenSpec.upto exactCertificatesSpec)) exactCertificatesUptoCard

/-- THE SECOND FORM's CARD OF 'putloglaw01.ExactMinors'. -/
def exactMinorsUptoCard : Claim7 := { stood := { row := exactMinorsUptoRow, standIns := [], harness := (true, "c529851e8d8ecaa2a371ecee4a383b9fa6866ae0494a9f2d521c26521f33c4b3"), looks := false }, kinds := [], alts := [], laidByText := true, laidKinds := [.data, .pinned], laidTests := true, laidLooks := .later }
def ExactMinorsUptoCardSaid : Prop := Claim7.holds Tryz.pinned (.plain (OpenSpec.upto exactMinorsSpec)) exactMinorsUptoCard

/-- THE SECOND FORM's CARD OF 'putloglaw01.ExactDefinite'. -/
def exactDefiniteUptoCard : Claim7 := { stood := { row := exactDefiniteUptoRow, standIns := [], harness := (true, "c529851e8d8ecaa2a371ecee4a383b9fa6866ae0494a9f2d521c26521f33c4b3"), looks := false }, kinds := [], alts := [], laidByText := true, laidKinds := [.data, .pinned], laidTests := true, laidLooks := .later }
def ExactDefiniteUptoCardSaid : Prop := Claim7.holds Tryz.pinned (.plain (OpenSpec.upto exactDefiniteSpec)) exactDefiniteUptoCard

/-- THE SECOND FORM's CARD OF 'putloglaw01.ExactTexts'. -/
def exactTextsUptoCard : Claim7 := { stood := { row := exactTextsUptoRow, standIns := [], harness := (true, "c529851e8d8ecaa2a371ecee4a383b9fa6866ae0494a9f2d521c26521f33c4b3"), looks := false }, kinds := [], alts := [], laidByText := true, laidKinds := [.data, .pinned], laidTests := true, laidLooks := .later }
def ExactTextsUptoCardSaid : Prop := Claim7.holds Tryz.pinned (.plain (OpenSpec.upto exactTextsSpec)) exactTextsUptoCard

/-- THE SECOND FORM's CARD OF 'putloglaw01.ExactDuality'. -/
def exactDualityUptoCard : Claim7 := { stood := { row := exactDualityUptoRow, standIns := [], harness := (true, "c529851e8d8ecaa2a371ecee4a383b9fa6866ae0494a9f2d521c26521f33c4b3"), looks := false }, kinds := [], alts := [], laidByText := true, laidKinds := [.data, .pinned], laidTests := true, laidLooks := .later }
def ExactDualityUptoCardSaid : Prop := Claim7.holds Tryz.pinned (.plain (OpenSpec.upto exactDualitySpec)) exactDualityUptoCard

/-- THE SECOND FORM's CARD OF 'putloglaw01.ExactOptimizes'. -/
def exactOptimizesUptoCard : Claim7 := { stood := { row := exactOptimizesUptoRow, standIns := [], harness := (true, "c529851e8d8ecaa2a371ecee4a383b9fa6866ae0494a9f2d521c26521f33c4b3"), looks := false }, kinds := [], alts := [], laidByText := true, laidKinds := [.data, .pinned], laidTests := true, laidLooks := .later }
def ExactOptimizesUptoCardSaid : Prop := Claim7.holds Tryz.pinned (.plain (OpenSpec.upto exactOptimizesSpec)) exactOptimizesUptoCard
end Rows
end Go.Proofs.YtneljlhlncjkhaaGreatDoor
