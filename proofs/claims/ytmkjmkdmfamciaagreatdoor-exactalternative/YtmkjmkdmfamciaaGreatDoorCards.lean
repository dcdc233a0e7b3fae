/-
  DERIVED. GIVEN WITH THE SEED: THE CARDS: each row of YtmkjmkdmfamciaaGreatDoorRows.lean that lists a variable, with what it lists TIED to the program's text (the seventh form; the later family's looks); each row that meets fmt, with fmt's text TOLD by the authors' own Lean function (tested against real Go, not proved from fmt's source: count such statements apart). THE CARD IS WHAT COUNTS. Prove the row's statement (the work); the ties are given (YtmkjmkdmfamciaaGreatDoorTie.lean); close each card by the builder's one call (the guide's Derived/Test/ToyasCard.lean, 'card_holds'). Laid BY PROGRAM, IN A SANDBOX (cutbox-door.mjs). By AI agents, Wed Nov 11 2026. No macro, syntax, notation, axiom, sorry.
-/
import Derived.Test.YtmkjmkdmfamciaaGreatDoorRows
import GoSem.ClaimSeven
namespace Go.Proofs.YtmkjmkdmfamciaaGreatDoor
namespace Rows

/-- THE TIED CARD OF 'putloglaw01.ExactRootBelow'. -/
def exactRootBelowCard : Claim7 := { stood := { row := exactRootBelowRow, standIns := [], harness := (true, "bbfc440389eda600724a69641b7bebc346828a14d44c41f4a7fe010c40e99385"), looks := false }, kinds := [], alts := [], laidByText := true, laidKinds := [.data, .pinned], laidTests := true, laidLooks := .later }
def ExactRootBelowCardSaid : Prop := Claim7.holds Tryz.pinned (.plain (OpenSpec.ofChange exactRootBelowSpec)) exactRootBelowCard

/-- THE TIED CARD OF 'putloglaw01.ExactRanks'. -/
def exactRanksCard : Claim7 := { stood := { row := exactRanksRow, standIns := [], harness := (true, "bbfc440389eda600724a69641b7bebc346828a14d44c41f4a7fe010c40e99385"), looks := false }, kinds := [], alts := [], laidByText := true, laidKinds := [.data, .pinned], laidTests := true, laidLooks := .later }
def ExactRanksCardSaid : Prop := Claim7.holds Tryz.pinned (.plain (OpenSpec.ofChange exactRanksSpec)) exactRanksCard

/-- THE TIED CARD OF 'putloglaw01.ExactRoots'. -/
def exactRootsCard : Claim7 := { stood := { row := exactRootsRow, standIns := [], harness := (true, "bbfc440389eda600724a69641b7bebc346828a14d44c41f4a7fe010c40e99385"), looks := false }, kinds := [], alts := [], laidByText := true, laidKinds := [.data, .pinned], laidTests := true, laidLooks := .later }
def ExactRootsCardSaid : Prop := Claim7.holds Tryz.pinned (.plain (OpenSpec.ofChange exactRootsSpec)) exactRootsCard

/-- THE TIED CARD OF 'putloglaw01.ExactField'. -/
def exactFieldCard : Claim7 := { stood := { row := exactFieldRow, standIns := [], harness := (true, "bbfc440389eda600724a69641b7bebc346828a14d44c41f4a7fe010c40e99385"), looks := false }, kinds := [], alts := [], laidByText := true, laidKinds := [.data, .pinned], laidTests := true, laidLooks := .later }
def ExactFieldCardSaid : Prop := Claim7.holds Tryz.pinned (.plain (OpenSpec.ofChange exactFieldSpec)) exactFieldCard

/-- THE TIED CARD OF 'putloglaw01.ExactIntegers'. -/
def exactIntegersCard : Claim7 := { stood := { row := exactIntegersRow, standIns := [], harness := (true, "bbfc440389eda600724a69641b7bebc346828a14d44c41f4a7fe010c40e99385"), looks := false }, kinds := [], alts := [], laidByText := true, laidKinds := [.data, .pinned], laidTests := true, laidLooks := .later }
def ExactIntegersCardSaid : Prop := Claim7.holds Tryz.pinned (.plain (OpenSpec.ofChange exactIntegersSpec)) exactIntegersCard

/-- THE TIED CARD OF 'putloglaw01.ExactFractions'. -/
def exactFractionsCard : Claim7 := { stood := { row := exactFractionsRow, standIns := [], harness := (true, "bbfc440389eda600724a69641b7bebc346828a14d44c41f4a7fe010c40e99385"), looks := false }, kinds := [], alts := [], laidByText := true, laidKinds := [.data, .pinned], laidTests := true, laidLooks := .later }
def ExactFractionsCardSaid : Prop := Claim7.holds Tryz.pinned (.plain (OpenSpec.ofChange exactFractionsSpec)) exactFractionsCard

/-- THE TIED CARD OF 'putloglaw01.ExactSolves'. -/
def exactSolvesCard : Claim7 := { stood := { row := exactSolvesRow, standIns := [], harness := (true, "bbfc440389eda600724a69641b7bebc346828a14d44c41f4a7fe010c40e99385"), looks := false }, kinds := [], alts := [], laidByText := true, laidKinds := [.data, .pinned], laidTests := true, laidLooks := .later }
def ExactSolvesCardSaid : Prop := Claim7.holds Tryz.pinned (.plain (OpenSpec.ofChange exactSolvesSpec)) exactSolvesCard

/-- THE TIED CARD OF 'putloglaw01.ExactAccepts'. -/
def exactAcceptsCard : Claim7 := { stood := { row := exactAcceptsRow, standIns := [], harness := (true, "bbfc440389eda600724a69641b7bebc346828a14d44c41f4a7fe010c40e99385"), looks := false }, kinds := [], alts := [], laidByText := true, laidKinds := [.data, .pinned], laidTests := true, laidLooks := .later }
def ExactAcceptsCardSaid : Prop := Claim7.holds Tryz.pinned (.plain (OpenSpec.ofChange exactAcceptsSpec)) exactAcceptsCard

/-- THE TIED CARD OF 'putloglaw01.ExactAlternative'. -/
def exactAlternativeCard : Claim7 := { stood := { row := exactAlternativeRow, standIns := [], harness := (true, "bbfc440389eda600724a69641b7bebc346828a14d44c41f4a7fe010c40e99385"), looks := false }, kinds := [], alts := [], laidByText := true, laidKinds := [.data, .pinned], laidTests := true, laidLooks := .later }
def ExactAlternativeCardSaid : Prop := Claim7.holds Tryz.pinned (.plain (OpenSpec.ofChange exactAlternativeSpec)) exactAlternativeCard

/-- THE SECOND FORM's CARD OF 'putloglaw01.ExactRootBelow'. -/
def exactRootBelowUptoCard : Claim7 := { stood := { row := exactRootBelowUptoRow, standIns := [], harness := (true, "bbfc440389eda600724a69641b7bebc346828a14d44c41f4a7fe010c40e99385"), looks := false }, kinds := [], alts := [], laidByText := true, laidKinds := [.data, .pinned], laidTests := true, laidLooks := .later }
def ExactRootBelowUptoCardSaid : Prop := Claim7.holds Tryz.pinned (.plain (OpenSpec.upto exactRootBelowSpec)) exactRootBelowUptoCard

/-- THE SECOND FORM's CARD OF 'putloglaw01.ExactRanks'. -/
def exactRanksUptoCard : Claim7 := { stood := { row := exactRanksUptoRow, standIns := [], harness := (true, "bbfc440389eda600724a69641b7bebc346828a14d44c41f4a7fe010c40e99385"), looks := false }, kinds := [], alts := [], laidByText := true, laidKinds := [.data, .pinned], laidTests := true, laidLooks := .later }
def ExactRanksUptoCardSaid : Prop := Claim7.holds Tryz.pinned (.plain (OpenSpec.upto exactRanksSpec)) exactRanksUptoCard

/-- THE SECOND FORM's CARD OF 'putloglaw01.ExactRoots'. -/
def exactRootsUptoCard : Claim7 := { stood := { row := exactRootsUptoRow, standIns := [], harness := (true, "bbfc440389eda600724a69641b7bebc346828a14d44c41f4a7fe010c40e99385"), looks := false }, kinds := [], alts := [], laidByText := true, laidKinds := [.data, .pinned], laidTests := true, laidLooks := .later }
def ExactRootsUptoCardSaid : Prop := Claim7.holds Tryz.pinned (.plain (OpenSpec.upto exactRootsSpec)) exactRootsUptoCard

/-- THE SECOND FORM's CARD OF 'putloglaw01.ExactField'. -/
def exactFieldUptoCard : Claim7 := { stood := { row := exactFieldUptoRow, standIns := [], harness := (true, "bbfc440389eda600724a69641b7bebc346828a14d44c41f4a7fe010c40e99385"), looks := false }, kinds := [], alts := [], laidByText := true, laidKinds := [.data, .pinned], laidTests := true, laidLooks := .later }
def ExactFieldUptoCardSaid : Prop := Claim7.holds Tryz.pinned (.plain (OpenSpec.upto exactFieldSpec)) exactFieldUptoCard

/-- THE SECOND FORM's CARD OF 'putloglaw01.ExactIntegers'. -/
def exactIntegersUptoCard : Claim7 := { stood := { row := exactIntegersUptoRow, standIns := [], harness := (true, "bbfc440389eda600724a69641b7bebc346828a14d44c41f4a7fe010c40e99385"), looks := false }, kinds := [], alts := [], laidByText := true, laidKinds := [.data, .pinned], laidTests := true, laidLooks := .later }
def ExactIntegersUptoCardSaid : Prop := Claim7.holds Tryz.pinned (.plain (OpenSpec.upto exactIntegersSpec)) exactIntegersUptoCard

/-- THE SECOND FORM's CARD OF 'putloglaw01.ExactFractions'. -/
def exactFractionsUptoCard : Claim7 := { stood := { row := exactFractionsUptoRow, standIns := [], harness := (true, "bbfc440389eda600724a69641b7bebc346828a14d44c41f4a7fe010c40e99385"), looks := false }, kinds := [], alts := [], laidByText := true, laidKinds := [.data, .pinned], laidTests := true, laidLooks := .later }
def ExactFractionsUptoCardSaid : Prop := Claim7.holds Tryz.pinned (.plain (OpenSpec.upto exactFractionsSpec)) exactFractionsUptoCard

/-- THE SECOND FORM's CARD OF 'putloglaw01.ExactSolves'. -/
def exactSolvesUptoCard : Claim7 := { stood := { row := exactSolvesUptoRow, standIns := [], harness := (true, "bbfc440389eda600724a69641b7bebc346828a14d44c41f4a7fe010c40e99385"), looks := false }, kinds := [], alts := [], laidByText := true, laidKinds := [.data, .pinned], laidTests := true, laidLooks := .later }
def ExactSolvesUptoCardSaid : Prop := Claim7.holds Tryz.pinned (.plain (OpenSpec.upto exactSolvesSpec)) exactSolvesUptoCard

/-- THE SECOND FORM's CARD OF 'putloglaw01.ExactAccepts'. -/
def exactAcceptsUptoCard : Claim7 := { stood := { row := exactAcceptsUptoRow, standIns := [], harness := (true, "bbfc440389eda600724a69641b7bebc346828a14d44c41f4a7fe010c40e99385"), looks := false }, kinds := [], alts := [], laidByText := true, laidKinds := [.data, .pinned], laidTests := true, laidLooks := .later }
def ExactAcceptsUptoCardSaid : Prop := Claim7.holds Tryz.pinned (.plain (OpenSpec.upto exactAcceptsSpec)) exactAcceptsUptoCard

/-- THE SECOND FORM's CARD OF 'putloglaw01.ExactAlternative'. -/
def exactAlternativeUptoCard : Claim7 := { stood := { row := exactAlternativeUptoRow, standIns := [], harness := (true, "bbfc440389eda600724a69641b7bebc346828a14d44c41f4a7fe010c40e99385"), looks := false }, kinds := [], alts := [], laidByText := true, laidKinds := [.data, .pinned], laidTests := true, laidLooks := .later }
def ExactAlternativeUptoCardSaid : Prop := Claim7.holds Tryz.pinned (.plain (OpenSpec.upto exactAlternativeSpec)) exactAlternativeUptoCard
end Rows
end Go.Proofs.YtmkjmkdmfamciaaGreatDoor
