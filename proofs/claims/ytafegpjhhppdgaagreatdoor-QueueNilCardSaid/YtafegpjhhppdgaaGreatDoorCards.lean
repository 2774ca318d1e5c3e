/-
  DERIVED. GIVEN WITH THE SEED: THE CARDS: each row of YtafegpjhhppdgaaGreatDoorRows.lean that lists a variable, with what it lists TIED to the program's text (the seventh form; the later family's looks); each row that meets fmt, with fmt's text TOLD by the authors' own Lean function (tested against real Go, not proved from fmt's source: count such statements apart). THE CARD IS WHAT COUNTS. Prove the row's statement (the work); the ties are given (YtafegpjhhppdgaaGreatDoorTie.lean); close each card by the builder's one call (the guide's Derived/Test/ToyasCard.lean, 'card_holds'). Laid BY PROGRAM, IN A SANDBOX (cutbox-door.mjs). By AI agents, Wed Nov 11 2026. No macro, syntax, notation, axiom, sorry.
-/
import Derived.Test.YtafegpjhhppdgaaGreatDoorRows
import GoSem.ClaimSeven
namespace Go.Proofs.YtafegpjhhppdgaaGreatDoor
namespace Rows

/-- THE TIED CARD OF 'equerrylaw19.QueueNil'. -/
def queueNilCard : Claim7 := { stood := { row := queueNilRow, standIns := [], harness := (true, "bd122ab6968c7eb777ee42f06e56dcf0387cc65f718d5b866595da2d73949a57"), looks := false }, kinds := [], alts := [], laidByText := true, laidKinds := [.data, .data, .data, .data, .data, .pinned], laidTests := true, laidLooks := .later }
def QueueNilCardSaid : Prop := Claim7.holds Tryz.pinned (.plain (OpenSpec.ofChange queueNilSpec)) queueNilCard

/-- THE TIED CARD OF 'equerrylaw19.QueueKeeps'. -/
def queueKeepsCard : Claim7 := { stood := { row := queueKeepsRow, standIns := [], harness := (true, "bd122ab6968c7eb777ee42f06e56dcf0387cc65f718d5b866595da2d73949a57"), looks := false }, kinds := [], alts := [], laidByText := true, laidKinds := [.data, .data, .data, .data, .data, .pinned], laidTests := true, laidLooks := .later }
def QueueKeepsCardSaid : Prop := Claim7.holds Tryz.pinned (.plain (OpenSpec.ofChange queueKeepsSpec)) queueKeepsCard

/-- THE SECOND FORM's CARD OF 'equerrylaw19.QueueNil'. -/
def queueNilUptoCard : Claim7 := { stood := { row := queueNilUptoRow, standIns := [], harness := (true, "bd122ab6968c7eb777ee42f06e56dcf0387cc65f718d5b866595da2d73949a57"), looks := false }, kinds := [], alts := [], laidByText := true, laidKinds := [.data, .data, .data, .data, .data, .pinned], laidTests := true, laidLooks := .later }
def QueueNilUptoCardSaid : Prop := Claim7.holds Tryz.pinned (.plain (OpenSpec.upto queueNilSpec)) queueNilUptoCard

/-- THE SECOND FORM's CARD OF 'equerrylaw19.QueueKeeps'. -/
def queueKeepsUptoCard : Claim7 := { stood := { row := queueKeepsUptoRow, standIns := [], harness := (true, "bd122ab6968c7eb777ee42f06e56dcf0387cc65f718d5b866595da2d73949a57"), looks := false }, kinds := [], alts := [], laidByText := true, laidKinds := [.data, .data, .data, .data, .data, .pinned], laidTests := true, laidLooks := .later }
def QueueKeepsUptoCardSaid : Prop := Claim7.holds Tryz.pinned (.plain (OpenSpec.upto queueKeepsSpec)) queueKeepsUptoCard
end Rows
end Go.Proofs.YtafegpjhhppdgaaGreatDoor
