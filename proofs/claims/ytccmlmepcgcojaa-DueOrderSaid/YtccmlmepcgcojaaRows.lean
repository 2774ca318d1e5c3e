/-
  No cell of these rows narrows 'for every input' (looked for: loops, veiled, ifaces, maps, wideKeys, modest, calm, conditions, laid).
  DERIVED. THE GIVEN ROWS OF THIS SEAT. 4 by the template 'for every input the law returns true; each argument reads behind the call as it read before'; 0 by the template 'total and deterministic' (their statements: YtccmlmepcgcojaaTotals.lean).
  GIVEN WITH THE SEED: the statements are not yours to turn. If you find one false, say at which input.
  Laid BY PROGRAM, IN A SANDBOX (cutbox-rows.mjs): the forced cells as the released guide's own fill.sh prints them over the translation f292ab74309f6ab8… (all of the seat's roots in one cut). By AI agents, Wed Nov 11 2026. No macro, syntax, notation, axiom, sorry.
-/
import Derived.Test.YtccmlmepcgcojaaChecked
import GoSem.Claim
import GoSem.ClaimJoined
import GoSem.ClaimMapViews
import Derived.JoinedTies
import Derived.KernelRfl
namespace Go.Proofs.Ytccmlmepcgcojaa
/- THE CELL 'sum', in the pinned program and in every row, IS THE sha256 OF THE DUMP (.gsa) THAT YtccmlmepcgcojaaProg.lean LOADS. Nothing in Lean hashes anything: it is a label: what it is worth is what the hold of that sum in a sandbox is worth. -/
noncomputable def Try.pinned : Pinned := { name := "ytccmlmepcgcojaa", sum := "f292ab74309f6ab83533bbbcc5dca9e091f0bd35c95bd9c6cabb5bc2bd98d3fc", checked := Try.checked }
namespace Rows
def none {H : Type} : Left H := { results := [], args := [] }

/-- 'equerrylaw06.DueOrder': WHATEVER THE INPUT: true; the input reads as it did. -/
def dueOrderSpec : ChangeSpec := { name := "dueOrder", fn := fun _ => fun
  | [d1, d2] => { results := [.lit (.bool true)], args := [d1, d2] }
  | _ => none }
def dueOrderRow : OpenClaim := { program := "ytccmlmepcgcojaa", sum := "f292ab74309f6ab83533bbbcc5dca9e091f0bd35c95bd9c6cabb5bc2bd98d3fc", func := "equerry/equerrylaw06.DueOrder", spec := "dueOrder", unfollowed := true, recurses := true, apart := false }
def DueOrderSaid : Prop := dueOrderRow.holds Try.pinned (OpenSpec.ofChange dueOrderSpec)

/-- ITS FALSE NEIGHBOUR: 'it returns false'. Refute it at one input. -/
def dueOrderWrong : ChangeSpec := { name := "dueOrder", fn := fun _ => fun
  | [d1, d2] => { results := [.lit (.bool false)], args := [d1, d2] }
  | _ => none }
def DueOrderWrongFalsely : Prop := dueOrderRow.holds Try.pinned (OpenSpec.ofChange dueOrderWrong)

/-- 'equerrylaw06.DuePlays': WHATEVER THE INPUT: true; the input reads as it did. -/
def duePlaysSpec : ChangeSpec := { name := "duePlays", fn := fun _ => fun
  | [d] => { results := [.lit (.bool true)], args := [d] }
  | _ => none }
def duePlaysRow : OpenClaim := { program := "ytccmlmepcgcojaa", sum := "f292ab74309f6ab83533bbbcc5dca9e091f0bd35c95bd9c6cabb5bc2bd98d3fc", func := "equerry/equerrylaw06.DuePlays", spec := "duePlays", unfollowed := true, recurses := true, apart := false }
def DuePlaysSaid : Prop := duePlaysRow.holds Try.pinned (OpenSpec.ofChange duePlaysSpec)

/-- ITS FALSE NEIGHBOUR: 'it returns false'. Refute it at one input. -/
def duePlaysWrong : ChangeSpec := { name := "duePlays", fn := fun _ => fun
  | [d] => { results := [.lit (.bool false)], args := [d] }
  | _ => none }
def DuePlaysWrongFalsely : Prop := duePlaysRow.holds Try.pinned (OpenSpec.ofChange duePlaysWrong)

/-- 'equerrylaw06.DueTakes': WHATEVER THE INPUT: true; the input reads as it did. -/
def dueTakesSpec : ChangeSpec := { name := "dueTakes", fn := fun _ => fun
  | [d1, d2] => { results := [.lit (.bool true)], args := [d1, d2] }
  | _ => none }
def dueTakesRow : OpenClaim := { program := "ytccmlmepcgcojaa", sum := "f292ab74309f6ab83533bbbcc5dca9e091f0bd35c95bd9c6cabb5bc2bd98d3fc", func := "equerry/equerrylaw06.DueTakes", spec := "dueTakes", unfollowed := true, recurses := true, apart := false }
def DueTakesSaid : Prop := dueTakesRow.holds Try.pinned (OpenSpec.ofChange dueTakesSpec)

/-- ITS FALSE NEIGHBOUR: 'it returns false'. Refute it at one input. -/
def dueTakesWrong : ChangeSpec := { name := "dueTakes", fn := fun _ => fun
  | [d1, d2] => { results := [.lit (.bool false)], args := [d1, d2] }
  | _ => none }
def DueTakesWrongFalsely : Prop := dueTakesRow.holds Try.pinned (OpenSpec.ofChange dueTakesWrong)

/-- 'equerrylaw06.DueNil': WHATEVER THE INPUT: true; the input reads as it did. -/
def dueNilSpec : ChangeSpec := { name := "dueNil", fn := fun _ => fun
  | [d1, d2] => { results := [.lit (.bool true)], args := [d1, d2] }
  | _ => none }
def dueNilRow : OpenClaim := { program := "ytccmlmepcgcojaa", sum := "f292ab74309f6ab83533bbbcc5dca9e091f0bd35c95bd9c6cabb5bc2bd98d3fc", func := "equerry/equerrylaw06.DueNil", spec := "dueNil", unfollowed := true, recurses := true, apart := false }
def DueNilSaid : Prop := dueNilRow.holds Try.pinned (OpenSpec.ofChange dueNilSpec)

/-- ITS FALSE NEIGHBOUR: 'it returns false'. Refute it at one input. -/
def dueNilWrong : ChangeSpec := { name := "dueNil", fn := fun _ => fun
  | [d1, d2] => { results := [.lit (.bool false)], args := [d1, d2] }
  | _ => none }
def DueNilWrongFalsely : Prop := dueNilRow.holds Try.pinned (OpenSpec.ofChange dueNilWrong)

/- THE SECOND FORM. 'bulk': how many values and letters a reading holds, each counted each time it is reached (what is shared counts as often as it is met; a slice's spare places count too). A statement '..UptoSaid' is the law's where the arguments, and the package variables that the reading takes, are together of bulk at most 1048576: NARROWER than '..Said'. Prove '..Said' where nothing that the law and all that it calls make is longer than what came in: it says more and counts as full. Else prove '..UptoSaid'. A law counts once. -/
mutual
def uptoBulk {H : Type} : DataW H → Nat
  | .lit (.string bytes) => bytes.length + 1
  | .lit _ => 1
  | .nil => 1
  | .ptr d => uptoBulk d + 1
  | .slice elems spare => uptoBulkAll elems + uptoBulkAll spare + 1
  | .agg parts => uptoBulkAll parts + 1
  | .iface _ d => uptoBulk d + 1
  | .map entries => uptoBulkEntries entries + 1
  | .held _ => 1
def uptoBulkAll {H : Type} : List (DataW H) → Nat
  | [] => 0
  | d :: r => uptoBulk d + uptoBulkAll r
def uptoBulkEntries {H : Type} : List (Lit × DataW H) → Nat
  | [] => 0
  | x :: r => uptoBulkEntry x + uptoBulkEntries r
def uptoBulkEntry {H : Type} : Lit × DataW H → Nat
  | (.string bytes, d) => bytes.length + uptoBulk d + 1
  | (_, d) => uptoBulk d + 1
 end
def uptoSmall : (H : Type) → List (DataW H) → Bool := fun _ ds => decide (uptoBulkAll ds ≤ 1048576)
def OpenSpec.upto (s : _root_.Go.ChangeSpec) : _root_.Go.OpenSpec := { _root_.Go.OpenSpec.ofChange s with cond := some uptoSmall }

/-- 'equerrylaw06.DueOrder', WHERE WHAT IT READS IS OF BULK AT MOST 1048576: true; the input reads as it did. -/
def dueOrderUptoRow : OpenClaim := { program := "ytccmlmepcgcojaa", sum := "f292ab74309f6ab83533bbbcc5dca9e091f0bd35c95bd9c6cabb5bc2bd98d3fc", func := "equerry/equerrylaw06.DueOrder", spec := "dueOrder", unfollowed := true, recurses := true, apart := false, narrowed := true }
def DueOrderUptoSaid : Prop := dueOrderUptoRow.holds Try.pinned (OpenSpec.upto dueOrderSpec)

/-- 'equerrylaw06.DuePlays', WHERE WHAT IT READS IS OF BULK AT MOST 1048576: true; the input reads as it did. -/
def duePlaysUptoRow : OpenClaim := { program := "ytccmlmepcgcojaa", sum := "f292ab74309f6ab83533bbbcc5dca9e091f0bd35c95bd9c6cabb5bc2bd98d3fc", func := "equerry/equerrylaw06.DuePlays", spec := "duePlays", unfollowed := true, recurses := true, apart := false, narrowed := true }
def DuePlaysUptoSaid : Prop := duePlaysUptoRow.holds Try.pinned (OpenSpec.upto duePlaysSpec)

/-- 'equerrylaw06.DueTakes', WHERE WHAT IT READS IS OF BULK AT MOST 1048576: true; the input reads as it did. -/
def dueTakesUptoRow : OpenClaim := { program := "ytccmlmepcgcojaa", sum := "f292ab74309f6ab83533bbbcc5dca9e091f0bd35c95bd9c6cabb5bc2bd98d3fc", func := "equerry/equerrylaw06.DueTakes", spec := "dueTakes", unfollowed := true, recurses := true, apart := false, narrowed := true }
def DueTakesUptoSaid : Prop := dueTakesUptoRow.holds Try.pinned (OpenSpec.upto dueTakesSpec)

/-- 'equerrylaw06.DueNil', WHERE WHAT IT READS IS OF BULK AT MOST 1048576: true; the input reads as it did. -/
def dueNilUptoRow : OpenClaim := { program := "ytccmlmepcgcojaa", sum := "f292ab74309f6ab83533bbbcc5dca9e091f0bd35c95bd9c6cabb5bc2bd98d3fc", func := "equerry/equerrylaw06.DueNil", spec := "dueNil", unfollowed := true, recurses := true, apart := false, narrowed := true }
def DueNilUptoSaid : Prop := dueNilUptoRow.holds Try.pinned (OpenSpec.upto dueNilSpec)

end Rows
end Go.Proofs.Ytccmlmepcgcojaa
