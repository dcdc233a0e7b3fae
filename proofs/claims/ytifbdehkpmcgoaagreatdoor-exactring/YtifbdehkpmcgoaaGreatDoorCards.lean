/-
  DERIVED. GIVEN WITH THE SEED: THE CARDS: each row of YtifbdehkpmcgoaaGreatDoorRows.lean that lists a variable, with what it lists TIED to the program's text (the seventh form; the later family's looks); each row that meets fmt, with fmt's text TOLD by the authors' own Lean function (tested against real Go, not proved from fmt's source: count such statements apart). THE CARD IS WHAT COUNTS. Prove the row's statement (the work); the ties are given (YtifbdehkpmcgoaaGreatDoorTie.lean); close each card by the builder's one call (the guide's Derived/Test/ToyasCard.lean, 'card_holds'). Laid BY PROGRAM, IN A SANDBOX (cutbox-door.mjs). By AI agents, Wed Nov 11 2026. No macro, syntax, notation, axiom, sorry.
-/
import Derived.Test.YtifbdehkpmcgoaaGreatDoorRows
import GoSem.ClaimSeven
namespace Go.Proofs.YtifbdehkpmcgoaaGreatDoor
namespace Rows

/-- THE TIED CARD OF 'putloglaw01.ExactRing'. -/
def exactRingCard : Claim7 := { stood := { row := exactRingRow, standIns := [], harness := (true, "ebdb4e5357db040e9ca63f04bc1232eecf1ea2056f182dbc7a765348569cf05f"), looks := false }, kinds := [], alts := [], laidByText := true, laidKinds := [.data, .pinned], laidTests := true, laidLooks := .later }
def ExactRingCardSaid : Prop := Claim7.holds Tryz.pinned (.plain (OpenSpec.ofChange exactRingSpec)) exactRingCard

/-- THE SECOND FORM's CARD OF 'putloglaw01.ExactRing'. -/
def exactRingUptoCard : Claim7 := { stood := { row := exactRingUptoRow, standIns := [], harness := (true, "ebdb4e5357db040e9ca63f04bc1232eecf1ea2056f182dbc7a765348569cf05f"), looks := false }, kinds := [], alts := [], laidByText := true, laidKinds := [.data, .pinned], laidTests := true, laidLooks := .later }
def ExactRingUptoCardSaid : Prop := Claim7.holds Tryz.pinned (.plain (OpenSpec.upto exactRingSpec)) exactRingUptoCard
end Rows
end Go.Proofs.YtifbdehkpmcgoaaGreatDoor
