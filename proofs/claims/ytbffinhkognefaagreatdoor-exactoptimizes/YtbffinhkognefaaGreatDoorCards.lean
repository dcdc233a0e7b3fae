/-
  DERIVED. GIVEN WITH THE SEED: THE CARDS: each row of YtbffinhkognefaaGreatDoorRows.lean that lists a variable, with what it lists TIED to the program's text (the seventh form; the later family's looks); each row that meets fmt, with fmt's text TOLD by the authors' own Lean function (tested against real Go, not proved from fmt's source: count such statements apart). THE CARD IS WHAT COUNTS. Prove the row's statement (the work); the ties are given (YtbffinhkognefaaGreatDoorTie.lean); close each card by the builder's one call (the guide's Derived/Test/ToyasCard.lean, 'card_holds'). Laid BY PROGRAM, IN A SANDBOX (cutbox-door.mjs). By AI agents, Wed Nov 11 2026. No macro, syntax, notation, axiom, sorry.
-/
import Derived.Test.YtbffinhkognefaaGreatDoorRows
import GoSem.ClaimSeven
namespace Go.Proofs.YtbffinhkognefaaGreatDoor
namespace Rows

/-- THE TIED CARD OF 'putloglaw01.ExactDuality'. -/
def exactDualityCard : Claim7 := { stood := { row := exactDualityRow, standIns := [], harness := (true, "0bc75af6b6dec3d403eda55c1824110a830e2f3b055f3be94a7c3e109a489aed"), looks := false }, kinds := [], alts := [], laidByText := true, laidKinds := [.data, .pinned], laidTests := true, laidLooks := .later }
def ExactDualityCardSaid : Prop := Claim7.holds Tryz.pinned (.plain (OpenSpec.ofChange exactDualitySpec)) exactDualityCard

/-- THE TIED CARD OF 'putloglaw01.ExactOptimizes'. -/
def exactOptimizesCard : Claim7 := { stood := { row := exactOptimizesRow, standIns := [], harness := (true, "0bc75af6b6dec3d403eda55c1824110a830e2f3b055f3be94a7c3e109a489aed"), looks := false }, kinds := [], alts := [], laidByText := true, laidKinds := [.data, .pinned], laidTests := true, laidLooks := .later }
def ExactOptimizesCardSaid : Prop := Claim7.holds Tryz.pinned (.plain (OpenSpec.ofChange exactOptimizesSpec)) exactOptimizesCard

/-- THE SECOND FORM's CARD OF 'putloglaw01.ExactDuality'. -/
def exactDualityUptoCard : Claim7 := { stood := { row := exactDualityUptoRow, standIns := [], harness := (true, "0bc75af6b6dec3d403eda55c1824110a830e2f3b055f3be94a7c3e109a489aed"), looks := false }, kinds := [], alts := [], laidByText := true, laidKinds := [.data, .pinned], laidTests := true, laidLooks := .later }
def ExactDualityUptoCardSaid : Prop := Claim7.holds Tryz.pinned (.plain (OpenSpec.upto exactDualitySpec)) exactDualityUptoCard

/-- THE SECOND FORM's CARD OF 'putloglaw01.ExactOptimizes'. -/
def exactOptimizesUptoCard : Claim7 := { stood := { row := exactOptimizesUptoRow, standIns := [], harness := (true, "0bc75af6b6dec3d403eda55c1824110a830e2f3b055f3be94a7c3e109a489aed"), looks := false }, kinds := [], alts := [], laidByText := true, laidKinds := [.data, .pinned], laidTests := true, laidLooks := .later }
def ExactOptimizesUptoCardSaid : Prop := Claim7.holds Tryz.pinned (.plain (OpenSpec.upto exactOptimizesSpec)) exactOptimizesUptoCard
end Rows
end Go.Proofs.YtbffinhkognefaaGreatDoor
