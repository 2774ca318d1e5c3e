/- Proved: fixed() answers true. -/
import Derived.Test.YtalfcgcikadjfaaGreatDoorIter
import Derived.Test.YtalfcgcikadjfaaGreatDoorRows
import Derived.WalkKit
import Derived.ProofKit
import Derived.OpenShut
import Derived.Test.YtalfcgcikadjfaaGreatDoorChecked
namespace Go.Proofs.YtalfcgcikadjfaaGreatDoor.ev
open Go.ChangeShapes Go.WideShapes Go.ChangeAt Go.RowKit
theorem progOk'' : Go.Ai.progOk Tryz.prog = true := by kernel_rfl
noncomputable def kk : List (Nat × List Value) := (Go.Ai.tabOf Tryz.prog Rows.evlogNilRow.laid).getD []
def orc : Go.Ai.Orc := fun _ _ => false
def hard : FuncId → Bool := fun f => Nat.beq f 7
noncomputable def sums : Go.Ai.Sums := Go.Ai.diskSums Tryz.prog 114 93 139 9
theorem run0 (ts : Nat → TypeId) : Go.Ai.asked Tryz.prog sums hard orc 1000 200 7 [] (Go.Ai.tabW Tryz.prog ts kk 0) Go.Ai.saysTrue = true := by kernel_rfl
theorem c7 {W : World} (hL : Go.Ai.Tabled Tryz.prog W kk) : Calls Tryz.prog 7 #[] W fun e w2 => e = .returned (.bool true) ∧ Below W.heap.size W w2 := by
  have hS : ∀ w0, Go.Ai.SumsSound Tryz.prog w0 sums := fun w0 => Go.Ai.diskSums_sound progOk'' Tryz.sortsKeys w0
  exact Go.Ai.ai_asked progOk'' (Checked.mixed Tryz.checked) sums hS hard orc 1000 200 7 kk [] _ _ W hL (.nil _) (fun ts => run0 ts)
end Go.Proofs.YtalfcgcikadjfaaGreatDoor.ev
