/-
  DERIVED. GIVEN WITH THE SEED: THE CARDS: each row of YtalfcgcikadjfaaGreatDoorRows.lean that lists a variable, with what it lists TIED to the program's text (the seventh form; the later family's looks); each row that meets fmt, with fmt's text TOLD by the authors' own Lean function (tested against real Go, not proved from fmt's source: count such statements apart). THE CARD IS WHAT COUNTS. Prove the row's statement (the work); the ties are given (YtalfcgcikadjfaaGreatDoorTie.lean); close each card by the builder's one call (the guide's Derived/Test/ToyasCard.lean, 'card_holds'). Laid BY PROGRAM, IN A SANDBOX (cutbox-door.mjs). By AI agents, Wed Nov 11 2026. No macro, syntax, notation, axiom, sorry.
-/
import Derived.Test.YtalfcgcikadjfaaGreatDoorRows
import GoSem.ClaimSeven
namespace Go.Proofs.YtalfcgcikadjfaaGreatDoor
namespace Rows

/-- THE TIED CARD OF 'equerrylaw17.EvlogNil'. -/
def evlogNilCard : Claim7 := { stood := { row := evlogNilRow, standIns := [], harness := (true, "f6eb571a9dd61fe1fda5dba6d83c46af04713766b41e4552f3ba569151b16c7c"), looks := false }, kinds := [], alts := [], laidByText := true, laidKinds := [.data, .data, .data, .data, .data, .pinned], laidTests := true, laidLooks := .later }
def EvlogNilCardSaid : Prop := Claim7.holds Tryz.pinned (.plain (OpenSpec.ofChange evlogNilSpec)) evlogNilCard

/-- THE TIED CARD OF 'equerrylaw17.EvlogOnce'. -/
def evlogOnceCard : Claim7 := { stood := { row := evlogOnceRow, standIns := [], harness := (true, "f6eb571a9dd61fe1fda5dba6d83c46af04713766b41e4552f3ba569151b16c7c"), looks := false }, kinds := [], alts := [], laidByText := true, laidKinds := [.data, .data, .data, .data, .data, .pinned], laidTests := true, laidLooks := .later }
def EvlogOnceCardSaid : Prop := Claim7.holds Tryz.pinned (.plain (OpenSpec.ofChange evlogOnceSpec)) evlogOnceCard

/-- THE TIED CARD OF 'equerrylaw17.EvlogSafe'. -/
def evlogSafeCard : Claim7 := { stood := { row := evlogSafeRow, standIns := [], harness := (true, "f6eb571a9dd61fe1fda5dba6d83c46af04713766b41e4552f3ba569151b16c7c"), looks := false }, kinds := [], alts := [], laidByText := true, laidKinds := [.data, .data, .data, .data, .data, .pinned], laidTests := true, laidLooks := .later }
def EvlogSafeCardSaid : Prop := Claim7.holds Tryz.pinned (.plain (OpenSpec.ofChange evlogSafeSpec)) evlogSafeCard

/-- THE SECOND FORM's CARD OF 'equerrylaw17.EvlogNil'. -/
def evlogNilUptoCard : Claim7 := { stood := { row := evlogNilUptoRow, standIns := [], harness := (true, "f6eb571a9dd61fe1fda5dba6d83c46af04713766b41e4552f3ba569151b16c7c"), looks := false }, kinds := [], alts := [], laidByText := true, laidKinds := [.data, .data, .data, .data, .data, .pinned], laidTests := true, laidLooks := .later }
def EvlogNilUptoCardSaid : Prop := Claim7.holds Tryz.pinned (.plain (OpenSpec.upto evlogNilSpec)) evlogNilUptoCard

/-- THE SECOND FORM's CARD OF 'equerrylaw17.EvlogOnce'. -/
def evlogOnceUptoCard : Claim7 := { stood := { row := evlogOnceUptoRow, standIns := [], harness := (true, "f6eb571a9dd61fe1fda5dba6d83c46af04713766b41e4552f3ba569151b16c7c"), looks := false }, kinds := [], alts := [], laidByText := true, laidKinds := [.data, .data, .data, .data, .data, .pinned], laidTests := true, laidLooks := .later }
def EvlogOnceUptoCardSaid : Prop := Claim7.holds Tryz.pinned (.plain (OpenSpec.upto evlogOnceSpec)) evlogOnceUptoCard

/-- THE SECOND FORM's CARD OF 'equerrylaw17.EvlogSafe'. -/
def evlogSafeUptoCard : Claim7 := { stood := { row := evlogSafeUptoRow, standIns := [], harness := (true, "f6eb571a9dd61fe1fda5dba6d83c46af04713766b41e4552f3ba569151b16c7c"), looks := false }, kinds := [], alts := [], laidByText := true, laidKinds := [.data, .data, .data, .data, .data, .pinned], laidTests := true, laidLooks := .later }
def EvlogSafeUptoCardSaid : Prop := Claim7.holds Tryz.pinned (.plain (OpenSpec.upto evlogSafeSpec)) evlogSafeUptoCard
end Rows
end Go.Proofs.YtalfcgcikadjfaaGreatDoor
