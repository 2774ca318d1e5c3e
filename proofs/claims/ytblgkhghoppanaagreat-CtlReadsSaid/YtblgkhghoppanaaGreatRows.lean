/-
  No cell of these rows narrows 'for every input' (looked for: loops, veiled, ifaces, maps, wideKeys, modest, calm, conditions, laid).
  DERIVED. THE GIVEN ROWS OF THIS SEAT. 6 by the template 'for every input the law returns true; each argument reads behind the call as it read before'; 0 by the template 'total and deterministic' (their statements: YtblgkhghoppanaaGreatTotals.lean).
  GIVEN WITH THE SEED: the statements are not yours to turn. If you find one false, say at which input.
  Laid BY PROGRAM, IN A SANDBOX (cutbox-rows.mjs): the forced cells as the released guide's own fill.sh prints them over the translation 08f473fb0e110ace… (all of the seat's roots in one cut). By AI agents, Wed Nov 11 2026. No macro, syntax, notation, axiom, sorry.
-/
import Derived.Test.YtblgkhghoppanaaGreatChecked
import GoSem.Claim
import GoSem.ClaimJoined
import GoSem.ClaimMapViews
import Derived.JoinedTies
import Derived.KernelRfl
namespace Go.Proofs.YtblgkhghoppanaaGreat
/- THE CELL 'sum', in the pinned program and in every row, IS THE sha256 OF THE DUMP (.gsa) THAT YtblgkhghoppanaaGreatProg.lean LOADS. Nothing in Lean hashes anything: it is a label: what it is worth is what the hold of that sum in a sandbox is worth. -/
noncomputable def Tryz.pinned : Pinned := { name := "ytblgkhghoppanaagreat", sum := "08f473fb0e110ace4b598f582e6436d524ff4867dc36307ba014fb80ce82e4e7", checked := Tryz.checked }
namespace Rows
def none {H : Type} : Left H := { results := [], args := [] }

/-- 'equerrylaw18.CtlWrites': WHATEVER THE INPUT: true; the input reads as it did. -/
def ctlWritesSpec : ChangeSpec := { name := "ctlWrites", fn := fun _ => fun
  | [d] => { results := [.lit (.bool true)], args := [d] }
  | _ => none }
def ctlWritesRow : OpenClaim := { program := "ytblgkhghoppanaagreat", sum := "08f473fb0e110ace4b598f582e6436d524ff4867dc36307ba014fb80ce82e4e7", func := "equerry/equerrylaw18.CtlWrites", spec := "ctlWrites", inPlace := ["math.Float64frombits", "math.Float64bits", "math/bits.Add64"], unfollowed := true, recurses := true, apart := false }
def CtlWritesSaid : Prop := ctlWritesRow.holds Tryz.pinned (OpenSpec.ofChange ctlWritesSpec)

/-- ITS FALSE NEIGHBOUR: 'it returns false'. Refute it at one input. -/
def ctlWritesWrong : ChangeSpec := { name := "ctlWrites", fn := fun _ => fun
  | [d] => { results := [.lit (.bool false)], args := [d] }
  | _ => none }
def CtlWritesWrongFalsely : Prop := ctlWritesRow.holds Tryz.pinned (OpenSpec.ofChange ctlWritesWrong)

/-- 'equerrylaw18.CtlReads': WHATEVER THE INPUT: true; the input reads as it did. -/
def ctlReadsSpec : ChangeSpec := { name := "ctlReads", fn := fun _ => fun
  | [d] => { results := [.lit (.bool true)], args := [d] }
  | _ => none }
def ctlReadsRow : OpenClaim := { program := "ytblgkhghoppanaagreat", sum := "08f473fb0e110ace4b598f582e6436d524ff4867dc36307ba014fb80ce82e4e7", func := "equerry/equerrylaw18.CtlReads", spec := "ctlReads", inPlace := ["math.Float64frombits", "math.Float64bits", "math/bits.Add64"], unfollowed := true, recurses := true, apart := false }
def CtlReadsSaid : Prop := ctlReadsRow.holds Tryz.pinned (OpenSpec.ofChange ctlReadsSpec)

/-- ITS FALSE NEIGHBOUR: 'it returns false'. Refute it at one input. -/
def ctlReadsWrong : ChangeSpec := { name := "ctlReads", fn := fun _ => fun
  | [d] => { results := [.lit (.bool false)], args := [d] }
  | _ => none }
def CtlReadsWrongFalsely : Prop := ctlReadsRow.holds Tryz.pinned (OpenSpec.ofChange ctlReadsWrong)

/-- 'equerrylaw18.CtlPlays': WHATEVER THE INPUT: true; the input reads as it did. -/
def ctlPlaysSpec : ChangeSpec := { name := "ctlPlays", fn := fun _ => fun
  | [d] => { results := [.lit (.bool true)], args := [d] }
  | _ => none }
def ctlPlaysRow : OpenClaim := { program := "ytblgkhghoppanaagreat", sum := "08f473fb0e110ace4b598f582e6436d524ff4867dc36307ba014fb80ce82e4e7", func := "equerry/equerrylaw18.CtlPlays", spec := "ctlPlays", inPlace := ["math.Float64frombits", "math.Float64bits", "math/bits.Add64"], unfollowed := true, recurses := true, apart := false }
def CtlPlaysSaid : Prop := ctlPlaysRow.holds Tryz.pinned (OpenSpec.ofChange ctlPlaysSpec)

/-- ITS FALSE NEIGHBOUR: 'it returns false'. Refute it at one input. -/
def ctlPlaysWrong : ChangeSpec := { name := "ctlPlays", fn := fun _ => fun
  | [d] => { results := [.lit (.bool false)], args := [d] }
  | _ => none }
def CtlPlaysWrongFalsely : Prop := ctlPlaysRow.holds Tryz.pinned (OpenSpec.ofChange ctlPlaysWrong)

/-- 'equerrylaw18.CtlUp': WHATEVER THE INPUT: true; the input reads as it did. -/
def ctlUpSpec : ChangeSpec := { name := "ctlUp", fn := fun _ => fun
  | [d] => { results := [.lit (.bool true)], args := [d] }
  | _ => none }
def ctlUpRow : OpenClaim := { program := "ytblgkhghoppanaagreat", sum := "08f473fb0e110ace4b598f582e6436d524ff4867dc36307ba014fb80ce82e4e7", func := "equerry/equerrylaw18.CtlUp", spec := "ctlUp", inPlace := ["math.Float64frombits", "math.Float64bits", "math/bits.Add64"], unfollowed := true, recurses := true, apart := false }
def CtlUpSaid : Prop := ctlUpRow.holds Tryz.pinned (OpenSpec.ofChange ctlUpSpec)

/-- ITS FALSE NEIGHBOUR: 'it returns false'. Refute it at one input. -/
def ctlUpWrong : ChangeSpec := { name := "ctlUp", fn := fun _ => fun
  | [d] => { results := [.lit (.bool false)], args := [d] }
  | _ => none }
def CtlUpWrongFalsely : Prop := ctlUpRow.holds Tryz.pinned (OpenSpec.ofChange ctlUpWrong)

/-- 'equerrylaw18.CtlNil': WHATEVER THE INPUT: true; the input reads as it did. -/
def ctlNilSpec : ChangeSpec := { name := "ctlNil", fn := fun _ => fun
  | [d] => { results := [.lit (.bool true)], args := [d] }
  | _ => none }
def ctlNilRow : OpenClaim := { program := "ytblgkhghoppanaagreat", sum := "08f473fb0e110ace4b598f582e6436d524ff4867dc36307ba014fb80ce82e4e7", func := "equerry/equerrylaw18.CtlNil", spec := "ctlNil", inPlace := ["math.Float64frombits", "math.Float64bits", "math/bits.Add64"], unfollowed := true, recurses := true, apart := false }
def CtlNilSaid : Prop := ctlNilRow.holds Tryz.pinned (OpenSpec.ofChange ctlNilSpec)

/-- ITS FALSE NEIGHBOUR: 'it returns false'. Refute it at one input. -/
def ctlNilWrong : ChangeSpec := { name := "ctlNil", fn := fun _ => fun
  | [d] => { results := [.lit (.bool false)], args := [d] }
  | _ => none }
def CtlNilWrongFalsely : Prop := ctlNilRow.holds Tryz.pinned (OpenSpec.ofChange ctlNilWrong)

/-- 'equerrylaw18.CtlRows': WHATEVER THE INPUT: true; the input reads as it did. -/
def ctlRowsSpec : ChangeSpec := { name := "ctlRows", fn := fun _ => fun
  | [d] => { results := [.lit (.bool true)], args := [d] }
  | _ => none }
def ctlRowsRow : OpenClaim := { program := "ytblgkhghoppanaagreat", sum := "08f473fb0e110ace4b598f582e6436d524ff4867dc36307ba014fb80ce82e4e7", func := "equerry/equerrylaw18.CtlRows", spec := "ctlRows", inPlace := ["math.Float64frombits", "math.Float64bits", "math/bits.Add64"], unfollowed := true, recurses := true, apart := false }
def CtlRowsSaid : Prop := ctlRowsRow.holds Tryz.pinned (OpenSpec.ofChange ctlRowsSpec)

/-- ITS FALSE NEIGHBOUR: 'it returns false'. Refute it at one input. -/
def ctlRowsWrong : ChangeSpec := { name := "ctlRows", fn := fun _ => fun
  | [d] => { results := [.lit (.bool false)], args := [d] }
  | _ => none }
def CtlRowsWrongFalsely : Prop := ctlRowsRow.holds Tryz.pinned (OpenSpec.ofChange ctlRowsWrong)

/- THE SECOND FORM. 'bulk': how many values and letters a reading holds, each counted each time it is reached (what is shared counts as often as it is met; a slice's spare places count too). A statement '..UptoSaid' is the law's where the arguments, and the package variables that the reading takes, are together of bulk at most 1048576: NARROWER than '..Said'. Prove '..Said' where nothing that the law and all that it calls make is longer than what came in: it says more and counts as full. Else prove '..UptoSaid'. A law counts once. -/
mutual
def uptoBulk {H : Type} : DataW H → Nat
  | .lit (.string bytes) => bytes.length + 1
  | .lit _ => 1
  | .nil => 1
  | .ptr d => uptoBulk d + 1
  | .slice elems spare => uptoBulkAll elems + uptoBulkAll spare + 1
  | .agg parts => uptoBulkAll parts + 1
  | .iface _ d => uptoBulk d + 1
  | .map entries => uptoBulkEntries entries + 1
  | .held _ => 1
def uptoBulkAll {H : Type} : List (DataW H) → Nat
  | [] => 0
  | d :: r => uptoBulk d + uptoBulkAll r
def uptoBulkEntries {H : Type} : List (Lit × DataW H) → Nat
  | [] => 0
  | x :: r => uptoBulkEntry x + uptoBulkEntries r
def uptoBulkEntry {H : Type} : Lit × DataW H → Nat
  | (.string bytes, d) => bytes.length + uptoBulk d + 1
  | (_, d) => uptoBulk d + 1
 end
def uptoSmall : (H : Type) → List (DataW H) → Bool := fun _ ds => decide (uptoBulkAll ds ≤ 1048576)
def OpenSpec.upto (s : _root_.Go.ChangeSpec) : _root_.Go.OpenSpec := { _root_.Go.OpenSpec.ofChange s with cond := some uptoSmall }

/-- 'equerrylaw18.CtlWrites', WHERE WHAT IT READS IS OF BULK AT MOST 1048576: true; the input reads as it did. -/
def ctlWritesUptoRow : OpenClaim := { program := "ytblgkhghoppanaagreat", sum := "08f473fb0e110ace4b598f582e6436d524ff4867dc36307ba014fb80ce82e4e7", func := "equerry/equerrylaw18.CtlWrites", spec := "ctlWrites", inPlace := ["math.Float64frombits", "math.Float64bits", "math/bits.Add64"], unfollowed := true, recurses := true, apart := false, narrowed := true }
def CtlWritesUptoSaid : Prop := ctlWritesUptoRow.holds Tryz.pinned (OpenSpec.upto ctlWritesSpec)

/-- 'equerrylaw18.CtlReads', WHERE WHAT IT READS IS OF BULK AT MOST 1048576: true; the input reads as it did. -/
def ctlReadsUptoRow : OpenClaim := { program := "ytblgkhghoppanaagreat", sum := "08f473fb0e110ace4b598f582e6436d524ff4867dc36307ba014fb80ce82e4e7", func := "equerry/equerrylaw18.CtlReads", spec := "ctlReads", inPlace := ["math.Float64frombits", "math.Float64bits", "math/bits.Add64"], unfollowed := true, recurses := true, apart := false, narrowed := true }
def CtlReadsUptoSaid : Prop := ctlReadsUptoRow.holds Tryz.pinned (OpenSpec.upto ctlReadsSpec)

/-- 'equerrylaw18.CtlPlays', WHERE WHAT IT READS IS OF BULK AT MOST 1048576: true; the input reads as it did. -/
def ctlPlaysUptoRow : OpenClaim := { program := "ytblgkhghoppanaagreat", sum := "08f473fb0e110ace4b598f582e6436d524ff4867dc36307ba014fb80ce82e4e7", func := "equerry/equerrylaw18.CtlPlays", spec := "ctlPlays", inPlace := ["math.Float64frombits", "math.Float64bits", "math/bits.Add64"], unfollowed := true, recurses := true, apart := false, narrowed := true }
def CtlPlaysUptoSaid : Prop := ctlPlaysUptoRow.holds Tryz.pinned (OpenSpec.upto ctlPlaysSpec)

/-- 'equerrylaw18.CtlUp', WHERE WHAT IT READS IS OF BULK AT MOST 1048576: true; the input reads as it did. -/
def ctlUpUptoRow : OpenClaim := { program := "ytblgkhghoppanaagreat", sum := "08f473fb0e110ace4b598f582e6436d524ff4867dc36307ba014fb80ce82e4e7", func := "equerry/equerrylaw18.CtlUp", spec := "ctlUp", inPlace := ["math.Float64frombits", "math.Float64bits", "math/bits.Add64"], unfollowed := true, recurses := true, apart := false, narrowed := true }
def CtlUpUptoSaid : Prop := ctlUpUptoRow.holds Tryz.pinned (OpenSpec.upto ctlUpSpec)

/-- 'equerrylaw18.CtlNil', WHERE WHAT IT READS IS OF BULK AT MOST 1048576: true; the input reads as it did. -/
def ctlNilUptoRow : OpenClaim := { program := "ytblgkhghoppanaagreat", sum := "08f473fb0e110ace4b598f582e6436d524ff4867dc36307ba014fb80ce82e4e7", func := "equerry/equerrylaw18.CtlNil", spec := "ctlNil", inPlace := ["math.Float64frombits", "math.Float64bits", "math/bits.Add64"], unfollowed := true, recurses := true, apart := false, narrowed := true }
def CtlNilUptoSaid : Prop := ctlNilUptoRow.holds Tryz.pinned (OpenSpec.upto ctlNilSpec)

/-- 'equerrylaw18.CtlRows', WHERE WHAT IT READS IS OF BULK AT MOST 1048576: true; the input reads as it did. -/
def ctlRowsUptoRow : OpenClaim := { program := "ytblgkhghoppanaagreat", sum := "08f473fb0e110ace4b598f582e6436d524ff4867dc36307ba014fb80ce82e4e7", func := "equerry/equerrylaw18.CtlRows", spec := "ctlRows", inPlace := ["math.Float64frombits", "math.Float64bits", "math/bits.Add64"], unfollowed := true, recurses := true, apart := false, narrowed := true }
def CtlRowsUptoSaid : Prop := ctlRowsUptoRow.holds Tryz.pinned (OpenSpec.upto ctlRowsSpec)

end Rows
end Go.Proofs.YtblgkhghoppanaaGreat
