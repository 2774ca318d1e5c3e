/- Proved: what GateNil's row and card tell of the program is so, piece by piece. Conditions: none. -/
import Derived.Test.YtajjmepenakgkaaGreatDoorRows
import Derived.ProofKit
import Derived.OpenShut
import Derived.SevenTiedAt
set_option linter.unusedVariables false
set_option linter.unusedSimpArgs false
namespace Go.Proofs.YtajjmepenakgkaaGreatDoor.gateFacts
open Go.ChangeShapes Go.WideShapes Go.ChangeAt Go.RowKit
theorem named : Tryz.prog.funcNamed "equerry/equerrylaw27.GateNil" = some 3 := by kernel_rfl
theorem mainIs : Tryz.pinned.checked.prog.mainIs = some (true, "e6302c0ea30ca090c5cd64efb571723518de4e274558261a00be348452df4e07".toList) := by kernel_rfl
theorem looks : true = Tryz.pinned.checked.prog.looks [] := by kernel_rfl
theorem stand : ([22, 23, 24].all fun u => !Tryz.prog.wantsStandIn u) = true := by kernel_rfl
theorem goes : false = Rows.gateNilRow.goesBy Tryz.pinned.checked.prog := by kernel_rfl
set_option maxRecDepth 100000 in
set_option maxHeartbeats 0 in
theorem closed : joinedFacts Tryz.prog 3 Tryz.f3 Rows.gateNilSpec Rows.gateNilRow = true := by
  unfold joinedFacts
  simp only [Bool.and_eq_true]
  repeat' apply And.intro
  all_goals as_aux_lemma => kernel_rfl
end Go.Proofs.YtajjmepenakgkaaGreatDoor.gateFacts
