/-
  DERIVED. GIVEN WITH THE SEED: THE CARDS: each row of YtojfppkibmmmdaaDoorRows.lean that lists a variable, with what it lists TIED to the program's text (the seventh form; the later family's looks); each row that meets fmt, with fmt's text TOLD by the authors' own Lean function (tested against real Go, not proved from fmt's source: count such statements apart). THE CARD IS WHAT COUNTS. Prove the row's statement (the work); the ties are given (YtojfppkibmmmdaaDoorTie.lean); close each card by the builder's one call (the guide's Derived/Test/ToyasCard.lean, 'card_holds'). Laid BY PROGRAM, IN A SANDBOX (cutbox-door.mjs). By AI agents, Wed Nov 11 2026. No macro, syntax, notation, axiom, sorry.
-/
import Derived.Test.YtojfppkibmmmdaaDoorRows
import GoSem.ClaimSeven
namespace Go.Proofs.YtojfppkibmmmdaaDoor
namespace Rows

/-- THE TIED CARD OF 'equerrylaw29.ScriptActs'. -/
def scriptActsCard : Claim7 := { stood := { row := scriptActsRow, standIns := [], harness := (true, "018ce4b2d2721757188613fd15d872e134e218230fc6cf0112f1e1ed7588fe74"), looks := false }, kinds := [], alts := [], laidByText := true, laidKinds := [.data], laidTests := true, laidLooks := .later }
def ScriptActsCardSaid : Prop := Claim7.holds Tryd.pinned (.plain (OpenSpec.ofChange scriptActsSpec)) scriptActsCard

/-- THE TIED CARD OF 'equerrylaw29.ScriptPatterns'. -/
def scriptPatternsCard : Claim7 := { stood := { row := scriptPatternsRow, standIns := [], harness := (true, "018ce4b2d2721757188613fd15d872e134e218230fc6cf0112f1e1ed7588fe74"), looks := false }, kinds := [], alts := [], laidByText := true, laidKinds := [.data], laidTests := true, laidLooks := .later }
def ScriptPatternsCardSaid : Prop := Claim7.holds Tryd.pinned (.plain (OpenSpec.ofChange scriptPatternsSpec)) scriptPatternsCard

/-- THE TIED CARD OF 'equerrylaw29.ScriptBegins'. -/
def scriptBeginsCard : Claim7 := { stood := { row := scriptBeginsRow, standIns := [], harness := (true, "018ce4b2d2721757188613fd15d872e134e218230fc6cf0112f1e1ed7588fe74"), looks := false }, kinds := [], alts := [], laidByText := true, laidKinds := [.data], laidTests := true, laidLooks := .later }
def ScriptBeginsCardSaid : Prop := Claim7.holds Tryd.pinned (.plain (OpenSpec.ofChange scriptBeginsSpec)) scriptBeginsCard

/-- THE TIED CARD OF 'equerrylaw29.ScriptConfs'. -/
def scriptConfsCard : Claim7 := { stood := { row := scriptConfsRow, standIns := [], harness := (true, "018ce4b2d2721757188613fd15d872e134e218230fc6cf0112f1e1ed7588fe74"), looks := false }, kinds := [], alts := [], laidByText := true, laidKinds := [.data], laidTests := true, laidLooks := .later }
def ScriptConfsCardSaid : Prop := Claim7.holds Tryd.pinned (.plain (OpenSpec.ofChange scriptConfsSpec)) scriptConfsCard

/-- THE SECOND FORM's CARD OF 'equerrylaw29.ScriptActs'. -/
def scriptActsUptoCard : Claim7 := { stood := { row := scriptActsUptoRow, standIns := [], harness := (true, "018ce4b2d2721757188613fd15d872e134e218230fc6cf0112f1e1ed7588fe74"), looks := false }, kinds := [], alts := [], laidByText := true, laidKinds := [.data], laidTests := true, laidLooks := .later }
def ScriptActsUptoCardSaid : Prop := Claim7.holds Tryd.pinned (.plain (OpenSpec.upto scriptActsSpec)) scriptActsUptoCard

/-- THE SECOND FORM's CARD OF 'equerrylaw29.ScriptPatterns'. -/
def scriptPatternsUptoCard : Claim7 := { stood := { row := scriptPatternsUptoRow, standIns := [], harness := (true, "018ce4b2d2721757188613fd15d872e134e218230fc6cf0112f1e1ed7588fe74"), looks := false }, kinds := [], alts := [], laidByText := true, laidKinds := [.data], laidTests := true, laidLooks := .later }
def ScriptPatternsUptoCardSaid : Prop := Claim7.holds Tryd.pinned (.plain (OpenSpec.upto scriptPatternsSpec)) scriptPatternsUptoCard

/-- THE SECOND FORM's CARD OF 'equerrylaw29.ScriptBegins'. -/
def scriptBeginsUptoCard : Claim7 := { stood := { row := scriptBeginsUptoRow, standIns := [], harness := (true, "018ce4b2d2721757188613fd15d872e134e218230fc6cf0112f1e1ed7588fe74"), looks := false }, kinds := [], alts := [], laidByText := true, laidKinds := [.data], laidTests := true, laidLooks := .later }
def ScriptBeginsUptoCardSaid : Prop := Claim7.holds Tryd.pinned (.plain (OpenSpec.upto scriptBeginsSpec)) scriptBeginsUptoCard

/-- THE SECOND FORM's CARD OF 'equerrylaw29.ScriptConfs'. -/
def scriptConfsUptoCard : Claim7 := { stood := { row := scriptConfsUptoRow, standIns := [], harness := (true, "018ce4b2d2721757188613fd15d872e134e218230fc6cf0112f1e1ed7588fe74"), looks := false }, kinds := [], alts := [], laidByText := true, laidKinds := [.data], laidTests := true, laidLooks := .later }
def ScriptConfsUptoCardSaid : Prop := Claim7.holds Tryd.pinned (.plain (OpenSpec.upto scriptConfsSpec)) scriptConfsUptoCard
end Rows
end Go.Proofs.YtojfppkibmmmdaaDoor
