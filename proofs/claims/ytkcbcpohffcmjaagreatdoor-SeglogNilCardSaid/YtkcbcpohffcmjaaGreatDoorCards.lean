/-
  DERIVED. GIVEN WITH THE SEED: THE CARDS: each row of YtkcbcpohffcmjaaGreatDoorRows.lean that lists a variable, with what it lists TIED to the program's text (the seventh form; the later family's looks); each row that meets fmt, with fmt's text TOLD by the authors' own Lean function (tested against real Go, not proved from fmt's source: count such statements apart). THE CARD IS WHAT COUNTS. Prove the row's statement (the work); the ties are given (YtkcbcpohffcmjaaGreatDoorTie.lean); close each card by the builder's one call (the guide's Derived/Test/ToyasCard.lean, 'card_holds'). Laid BY PROGRAM, IN A SANDBOX (cutbox-door.mjs). By AI agents, Wed Nov 11 2026. No macro, syntax, notation, axiom, sorry.
-/
import Derived.Test.YtkcbcpohffcmjaaGreatDoorRows
import GoSem.ClaimSeven
namespace Go.Proofs.YtkcbcpohffcmjaaGreatDoor
namespace Rows

/-- THE TIED CARD OF 'equerrylaw09.SeglogNil'. -/
def seglogNilCard : Claim7 := { stood := { row := seglogNilRow, standIns := [], harness := (true, "d7d566c9b665bb62a321af627b56c8f445812ed3a45bc42f57e0c1bbad1fb702"), looks := false }, kinds := [], alts := [], laidByText := true, laidKinds := [.data, .data, .data, .data, .data, .pinned], laidTests := true, laidLooks := .later }
def SeglogNilCardSaid : Prop := Claim7.holds Tryz.pinned (.plain (OpenSpec.ofChange seglogNilSpec)) seglogNilCard

/-- THE SECOND FORM's CARD OF 'equerrylaw09.SeglogNil'. -/
def seglogNilUptoCard : Claim7 := { stood := { row := seglogNilUptoRow, standIns := [], harness := (true, "d7d566c9b665bb62a321af627b56c8f445812ed3a45bc42f57e0c1bbad1fb702"), looks := false }, kinds := [], alts := [], laidByText := true, laidKinds := [.data, .data, .data, .data, .data, .pinned], laidTests := true, laidLooks := .later }
def SeglogNilUptoCardSaid : Prop := Claim7.holds Tryz.pinned (.plain (OpenSpec.upto seglogNilSpec)) seglogNilUptoCard
end Rows
end Go.Proofs.YtkcbcpohffcmjaaGreatDoor
