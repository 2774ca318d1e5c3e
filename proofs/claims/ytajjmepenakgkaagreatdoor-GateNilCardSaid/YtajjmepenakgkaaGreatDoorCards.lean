/-
  DERIVED. GIVEN WITH THE SEED: THE CARDS: each row of YtajjmepenakgkaaGreatDoorRows.lean that lists a variable, with what it lists TIED to the program's text (the seventh form; the later family's looks); each row that meets fmt, with fmt's text TOLD by the authors' own Lean function (tested against real Go, not proved from fmt's source: count such statements apart). THE CARD IS WHAT COUNTS. Prove the row's statement (the work); the ties are given (YtajjmepenakgkaaGreatDoorTie.lean); close each card by the builder's one call (the guide's Derived/Test/ToyasCard.lean, 'card_holds'). Laid BY PROGRAM, IN A SANDBOX (cutbox-door.mjs). By AI agents, Wed Nov 11 2026. No macro, syntax, notation, axiom, sorry.
-/
import Derived.Test.YtajjmepenakgkaaGreatDoorRows
import GoSem.ClaimSeven
namespace Go.Proofs.YtajjmepenakgkaaGreatDoor
namespace Rows

/-- THE TIED CARD OF 'equerrylaw27.GateNil'. -/
def gateNilCard : Claim7 := { stood := { row := gateNilRow, standIns := [], harness := (true, "e6302c0ea30ca090c5cd64efb571723518de4e274558261a00be348452df4e07"), looks := true }, kinds := [], alts := [], laidByText := true, laidKinds := [.data, .data, .data, .data, .data, .data, .data, .pinned], laidTests := true, laidLooks := .later }
def GateNilCardSaid : Prop := Claim7.holds Tryz.pinned (.plain (OpenSpec.ofChange gateNilSpec)) gateNilCard

/-- THE SECOND FORM's CARD OF 'equerrylaw27.GateNil'. -/
def gateNilUptoCard : Claim7 := { stood := { row := gateNilUptoRow, standIns := [], harness := (true, "e6302c0ea30ca090c5cd64efb571723518de4e274558261a00be348452df4e07"), looks := true }, kinds := [], alts := [], laidByText := true, laidKinds := [.data, .data, .data, .data, .data, .data, .data, .pinned], laidTests := true, laidLooks := .later }
def GateNilUptoCardSaid : Prop := Claim7.holds Tryz.pinned (.plain (OpenSpec.upto gateNilSpec)) gateNilUptoCard
end Rows
end Go.Proofs.YtajjmepenakgkaaGreatDoor
