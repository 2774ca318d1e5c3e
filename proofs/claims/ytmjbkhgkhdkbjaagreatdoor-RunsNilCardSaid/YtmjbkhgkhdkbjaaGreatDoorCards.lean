/-
  DERIVED. GIVEN WITH THE SEED: THE CARDS: each row of YtmjbkhgkhdkbjaaGreatDoorRows.lean that lists a variable, with what it lists TIED to the program's text (the seventh form; the later family's looks); each row that meets fmt, with fmt's text TOLD by the authors' own Lean function (tested against real Go, not proved from fmt's source: count such statements apart). THE CARD IS WHAT COUNTS. Prove the row's statement (the work); the ties are given (YtmjbkhgkhdkbjaaGreatDoorTie.lean); close each card by the builder's one call (the guide's Derived/Test/ToyasCard.lean, 'card_holds'). Laid BY PROGRAM, IN A SANDBOX (cutbox-door.mjs). By AI agents, Wed Nov 11 2026. No macro, syntax, notation, axiom, sorry.
-/
import Derived.Test.YtmjbkhgkhdkbjaaGreatDoorRows
import GoSem.ClaimSeven
namespace Go.Proofs.YtmjbkhgkhdkbjaaGreatDoor
namespace Rows

/-- THE TIED CARD OF 'equerrylaw15.RunsNil'. -/
def runsNilCard : Claim7 := { stood := { row := runsNilRow, standIns := [], harness := (true, "0bd3226bb083c7f42c02978cb42bb812bfdc3084b31467bee43ec8c46dcc93d0"), looks := false }, kinds := [], alts := [], laidByText := true, laidKinds := [.data, .data, .data], laidTests := true, laidLooks := .later }
def RunsNilCardSaid : Prop := Claim7.holds Tryz.pinned (.plain (OpenSpec.ofChange runsNilSpec)) runsNilCard

/-- THE SECOND FORM's CARD OF 'equerrylaw15.RunsNil'. -/
def runsNilUptoCard : Claim7 := { stood := { row := runsNilUptoRow, standIns := [], harness := (true, "0bd3226bb083c7f42c02978cb42bb812bfdc3084b31467bee43ec8c46dcc93d0"), looks := false }, kinds := [], alts := [], laidByText := true, laidKinds := [.data, .data, .data], laidTests := true, laidLooks := .later }
def RunsNilUptoCardSaid : Prop := Claim7.holds Tryz.pinned (.plain (OpenSpec.upto runsNilSpec)) runsNilUptoCard
end Rows
end Go.Proofs.YtmjbkhgkhdkbjaaGreatDoor
