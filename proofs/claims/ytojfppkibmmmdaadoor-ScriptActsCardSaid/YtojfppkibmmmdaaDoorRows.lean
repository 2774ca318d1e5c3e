/-
  NARROWER THAN 'FOR EVERY INPUT', by the rows' own cells (each row's printed sentence says how): ScriptActs: laid · ScriptPatterns: laid · ScriptBegins: laid · ScriptConfs: laid.
  DERIVED. THE GIVEN ROWS OF THIS SEAT. 4 by the template 'for every input the law returns true; each argument reads behind the call as it read before'; 0 by the template 'total and deterministic' (their statements: YtojfppkibmmmdaaDoorTotals.lean).
  GIVEN WITH THE SEED: the statements are not yours to turn. If you find one false, say at which input.
  Laid BY PROGRAM, IN A SANDBOX (cutbox-rows.mjs): the forced cells as the released guide's own fill.sh prints them over the translation 16ffb06e5dac9e69… (all of the seat's roots in one cut). By AI agents, Wed Nov 11 2026. No macro, syntax, notation, axiom, sorry.
-/
import Derived.Test.YtojfppkibmmmdaaDoorChecked
import GoSem.Claim
import GoSem.ClaimJoined
import GoSem.ClaimMapViews
import Derived.JoinedTies
import Derived.KernelRfl
namespace Go.Proofs.YtojfppkibmmmdaaDoor
/- THE CELL 'sum', in the pinned program and in every row, IS THE sha256 OF THE DUMP (.gsa) THAT YtojfppkibmmmdaaDoorProg.lean LOADS. Nothing in Lean hashes anything: it is a label: what it is worth is what the hold of that sum in a sandbox is worth. -/
noncomputable def Tryd.pinned : Pinned := { name := "ytojfppkibmmmdaadoor", sum := "16ffb06e5dac9e69cb7f62c2efa5f2716b579e6a2746e5f5a51baa2cf3c59a30", checked := Tryd.checked }
namespace Rows
def none {H : Type} : Left H := { results := [], args := [] }

/- WHAT THE LISTED PACKAGE-LEVEL VARIABLES READ AS WHEN THE CALL BEGINS. Each datum BY PROGRAM (the guide's laid-datum.mjs) off the statement by which the dump's own 'gosem.cut.vars' lays the variable. In a bare row this is a premise. The card (YtojfppkibmmmdaaDoorCards.lean) ties it to the program's text. -/
def laid_equerry_script_kinds {H : Type} : DataW H := .agg [.lit (.int .u8 1), .lit (.int .u8 1), .lit (.int .u8 1), .lit (.int .u8 1), .lit (.int .u8 3), .lit (.int .u8 13), .lit (.int .u8 4), .lit (.int .u8 4), .lit (.int .u8 4), .lit (.int .u8 2), .lit (.int .u8 5), .lit (.int .u8 6), .lit (.int .u8 7), .lit (.int .u8 9), .lit (.int .u8 12), .lit (.int .u8 11)]

/-- 'equerrylaw29.ScriptActs': WHATEVER THE INPUT: true; the input reads as it did. -/
def scriptActsSpec : ChangeSpec := { name := "scriptActs", fn := fun _ => fun
  | [d] => { results := [.lit (.bool true)], args := [d] }
  | _ => none }
def scriptActsRow : OpenClaim := { program := "ytojfppkibmmmdaadoor", sum := "16ffb06e5dac9e69cb7f62c2efa5f2716b579e6a2746e5f5a51baa2cf3c59a30", func := "equerry/equerrylaw29.ScriptActs", spec := "scriptActs", inPlace := ["math.Float64bits"], unfollowed := true, recurses := true, named := ["equerry/script.kinds"], apart := false, laid := [("equerry/script.kinds", laid_equerry_script_kinds)] }
def ScriptActsSaid : Prop := scriptActsRow.holds Tryd.pinned (OpenSpec.ofChange scriptActsSpec)

/-- ITS FALSE NEIGHBOUR: 'it returns false'. Refute it at one input. -/
def scriptActsWrong : ChangeSpec := { name := "scriptActs", fn := fun _ => fun
  | [d] => { results := [.lit (.bool false)], args := [d] }
  | _ => none }
def ScriptActsWrongFalsely : Prop := scriptActsRow.holds Tryd.pinned (OpenSpec.ofChange scriptActsWrong)

/-- 'equerrylaw29.ScriptPatterns': WHATEVER THE INPUT: true; the input reads as it did. -/
def scriptPatternsSpec : ChangeSpec := { name := "scriptPatterns", fn := fun _ => fun
  | [d] => { results := [.lit (.bool true)], args := [d] }
  | _ => none }
def scriptPatternsRow : OpenClaim := { program := "ytojfppkibmmmdaadoor", sum := "16ffb06e5dac9e69cb7f62c2efa5f2716b579e6a2746e5f5a51baa2cf3c59a30", func := "equerry/equerrylaw29.ScriptPatterns", spec := "scriptPatterns", inPlace := ["math.Float64bits"], unfollowed := true, recurses := true, named := ["equerry/script.kinds"], apart := false, laid := [("equerry/script.kinds", laid_equerry_script_kinds)] }
def ScriptPatternsSaid : Prop := scriptPatternsRow.holds Tryd.pinned (OpenSpec.ofChange scriptPatternsSpec)

/-- ITS FALSE NEIGHBOUR: 'it returns false'. Refute it at one input. -/
def scriptPatternsWrong : ChangeSpec := { name := "scriptPatterns", fn := fun _ => fun
  | [d] => { results := [.lit (.bool false)], args := [d] }
  | _ => none }
def ScriptPatternsWrongFalsely : Prop := scriptPatternsRow.holds Tryd.pinned (OpenSpec.ofChange scriptPatternsWrong)

/-- 'equerrylaw29.ScriptBegins': WHATEVER THE INPUT: true; the input reads as it did. -/
def scriptBeginsSpec : ChangeSpec := { name := "scriptBegins", fn := fun _ => fun
  | [d1, d2] => { results := [.lit (.bool true)], args := [d1, d2] }
  | _ => none }
def scriptBeginsRow : OpenClaim := { program := "ytojfppkibmmmdaadoor", sum := "16ffb06e5dac9e69cb7f62c2efa5f2716b579e6a2746e5f5a51baa2cf3c59a30", func := "equerry/equerrylaw29.ScriptBegins", spec := "scriptBegins", inPlace := ["math.Float64bits"], unfollowed := true, recurses := true, named := ["equerry/script.kinds"], apart := false, laid := [("equerry/script.kinds", laid_equerry_script_kinds)] }
def ScriptBeginsSaid : Prop := scriptBeginsRow.holds Tryd.pinned (OpenSpec.ofChange scriptBeginsSpec)

/-- ITS FALSE NEIGHBOUR: 'it returns false'. Refute it at one input. -/
def scriptBeginsWrong : ChangeSpec := { name := "scriptBegins", fn := fun _ => fun
  | [d1, d2] => { results := [.lit (.bool false)], args := [d1, d2] }
  | _ => none }
def ScriptBeginsWrongFalsely : Prop := scriptBeginsRow.holds Tryd.pinned (OpenSpec.ofChange scriptBeginsWrong)

/-- 'equerrylaw29.ScriptConfs': WHATEVER THE INPUT: true; the input reads as it did. -/
def scriptConfsSpec : ChangeSpec := { name := "scriptConfs", fn := fun _ => fun
  | [d] => { results := [.lit (.bool true)], args := [d] }
  | _ => none }
def scriptConfsRow : OpenClaim := { program := "ytojfppkibmmmdaadoor", sum := "16ffb06e5dac9e69cb7f62c2efa5f2716b579e6a2746e5f5a51baa2cf3c59a30", func := "equerry/equerrylaw29.ScriptConfs", spec := "scriptConfs", unfollowed := true, recurses := true, named := ["equerry/script.kinds"], apart := false, laid := [("equerry/script.kinds", laid_equerry_script_kinds)] }
def ScriptConfsSaid : Prop := scriptConfsRow.holds Tryd.pinned (OpenSpec.ofChange scriptConfsSpec)

/-- ITS FALSE NEIGHBOUR: 'it returns false'. Refute it at one input. -/
def scriptConfsWrong : ChangeSpec := { name := "scriptConfs", fn := fun _ => fun
  | [d] => { results := [.lit (.bool false)], args := [d] }
  | _ => none }
def ScriptConfsWrongFalsely : Prop := scriptConfsRow.holds Tryd.pinned (OpenSpec.ofChange scriptConfsWrong)

/- THE SECOND FORM. 'bulk': how many values and letters a reading holds, each counted each time it is reached (what is shared counts as often as it is met; a slice's spare places count too). A statement '..UptoSaid' is the law's where the arguments, and the package variables that the reading takes, are together of bulk at most 1048576: NARROWER than '..Said'. Prove '..Said' where nothing that the law and all that it calls make is longer than what came in: it says more and counts as full. Else prove '..UptoSaid'. A law counts once. -/
mutual
def uptoBulk {H : Type} : DataW H → Nat
  | .lit (.string bytes) => bytes.length + 1
  | .lit _ => 1
  | .nil => 1
  | .ptr d => uptoBulk d + 1
  | .slice elems spare => uptoBulkAll elems + uptoBulkAll spare + 1
  | .agg parts => uptoBulkAll parts + 1
  | .iface _ d => uptoBulk d + 1
  | .map entries => uptoBulkEntries entries + 1
  | .held _ => 1
def uptoBulkAll {H : Type} : List (DataW H) → Nat
  | [] => 0
  | d :: r => uptoBulk d + uptoBulkAll r
def uptoBulkEntries {H : Type} : List (Lit × DataW H) → Nat
  | [] => 0
  | x :: r => uptoBulkEntry x + uptoBulkEntries r
def uptoBulkEntry {H : Type} : Lit × DataW H → Nat
  | (.string bytes, d) => bytes.length + uptoBulk d + 1
  | (_, d) => uptoBulk d + 1
 end
def uptoSmall : (H : Type) → List (DataW H) → Bool := fun _ ds => decide (uptoBulkAll ds ≤ 1048576)
def OpenSpec.upto (s : _root_.Go.ChangeSpec) : _root_.Go.OpenSpec := { _root_.Go.OpenSpec.ofChange s with cond := some uptoSmall }

/-- 'equerrylaw29.ScriptActs', WHERE WHAT IT READS IS OF BULK AT MOST 1048576: true; the input reads as it did. -/
def scriptActsUptoRow : OpenClaim := { program := "ytojfppkibmmmdaadoor", sum := "16ffb06e5dac9e69cb7f62c2efa5f2716b579e6a2746e5f5a51baa2cf3c59a30", func := "equerry/equerrylaw29.ScriptActs", spec := "scriptActs", inPlace := ["math.Float64bits"], unfollowed := true, recurses := true, named := ["equerry/script.kinds"], apart := false, laid := [("equerry/script.kinds", laid_equerry_script_kinds)], narrowed := true }
def ScriptActsUptoSaid : Prop := scriptActsUptoRow.holds Tryd.pinned (OpenSpec.upto scriptActsSpec)

/-- 'equerrylaw29.ScriptPatterns', WHERE WHAT IT READS IS OF BULK AT MOST 1048576: true; the input reads as it did. -/
def scriptPatternsUptoRow : OpenClaim := { program := "ytojfppkibmmmdaadoor", sum := "16ffb06e5dac9e69cb7f62c2efa5f2716b579e6a2746e5f5a51baa2cf3c59a30", func := "equerry/equerrylaw29.ScriptPatterns", spec := "scriptPatterns", inPlace := ["math.Float64bits"], unfollowed := true, recurses := true, named := ["equerry/script.kinds"], apart := false, laid := [("equerry/script.kinds", laid_equerry_script_kinds)], narrowed := true }
def ScriptPatternsUptoSaid : Prop := scriptPatternsUptoRow.holds Tryd.pinned (OpenSpec.upto scriptPatternsSpec)

/-- 'equerrylaw29.ScriptBegins', WHERE WHAT IT READS IS OF BULK AT MOST 1048576: true; the input reads as it did. -/
def scriptBeginsUptoRow : OpenClaim := { program := "ytojfppkibmmmdaadoor", sum := "16ffb06e5dac9e69cb7f62c2efa5f2716b579e6a2746e5f5a51baa2cf3c59a30", func := "equerry/equerrylaw29.ScriptBegins", spec := "scriptBegins", inPlace := ["math.Float64bits"], unfollowed := true, recurses := true, named := ["equerry/script.kinds"], apart := false, laid := [("equerry/script.kinds", laid_equerry_script_kinds)], narrowed := true }
def ScriptBeginsUptoSaid : Prop := scriptBeginsUptoRow.holds Tryd.pinned (OpenSpec.upto scriptBeginsSpec)

/-- 'equerrylaw29.ScriptConfs', WHERE WHAT IT READS IS OF BULK AT MOST 1048576: true; the input reads as it did. -/
def scriptConfsUptoRow : OpenClaim := { program := "ytojfppkibmmmdaadoor", sum := "16ffb06e5dac9e69cb7f62c2efa5f2716b579e6a2746e5f5a51baa2cf3c59a30", func := "equerry/equerrylaw29.ScriptConfs", spec := "scriptConfs", unfollowed := true, recurses := true, named := ["equerry/script.kinds"], apart := false, laid := [("equerry/script.kinds", laid_equerry_script_kinds)], narrowed := true }
def ScriptConfsUptoSaid : Prop := scriptConfsUptoRow.holds Tryd.pinned (OpenSpec.upto scriptConfsSpec)

end Rows
end Go.Proofs.YtojfppkibmmmdaaDoor
