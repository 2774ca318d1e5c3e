/- Proved: fixed() answers true. Conditions: none. -/
import Derived.Test.YtmjbkhgkhdkbjaaGreatDoorBit
import Derived.Test.YtmjbkhgkhdkbjaaGreatDoorRows
import Derived.WalkKit
import Derived.ProofKit
import Derived.OpenShut
set_option linter.unusedVariables false
set_option linter.unusedSimpArgs false
namespace Go.Proofs.YtmjbkhgkhdkbjaaGreatDoor.rn
open Go.ChangeShapes Go.WideShapes Go.ChangeAt Go.RowKit
noncomputable def kk : List (Nat × List Value) := (Go.Ai.tabOf Tryz.prog Rows.runsNilRow.laid).getD []
def orc : Go.Ai.Orc := fun _ _ => false
def hard : FuncId → Bool := fun f => Nat.beq f 6
noncomputable def sums : Go.Ai.Sums := JB.joinsSums (fun _ => none) 1000 60
theorem run0 (ts : Nat → TypeId) : Go.Ai.asked Tryz.prog sums hard orc 1000 200 6 [] (Go.Ai.tabW Tryz.prog ts kk 0) Go.Ai.saysTrue = true := by kernel_rfl
theorem c6 {W : World} (hL : Go.Ai.Tabled Tryz.prog W kk) : Calls Tryz.prog 6 #[] W fun e w2 => e = .returned (.bool true) ∧ Below W.heap.size W w2 := by
  have hS : ∀ w0, Go.Ai.SumsSound Tryz.prog w0 sums := fun w0 => Go.Ai.oneOf_sound fun x hx => by
    simp only [List.mem_cons, List.not_mem_nil, or_false] at hx
    subst hx
    exact JB.joinsSum_ok (fun f s e => by cases e) 1000 60
  exact Go.Ai.ai_asked JB.progOkN (Checked.mixed Tryz.checked) sums hS hard orc 1000 200 6 kk [] _ _ W hL (.nil _) (fun ts => run0 ts)
end Go.Proofs.YtmjbkhgkhdkbjaaGreatDoor.rn
