/- Proved: GateNil's run, of no bytes, answers true. Conditions: none. -/
import Derived.Test.YtajjmepenakgkaaGreatDoorGb
import Derived.Test.YtajjmepenakgkaaGreatDoorRows
import Derived.KernelRfl
set_option linter.unusedVariables false
set_option linter.unusedSimpArgs false
namespace Go.Proofs.GK
noncomputable def kk : List (Nat × List Value) := (Go.Ai.tabOf Tryz.prog Go.Proofs.YtajjmepenakgkaaGreatDoor.Rows.gateNilRow.laid).getD []
/-- The test at which the run parts. -/
def orc : Go.Ai.Orc := fun f t => Nat.beq f 3 && Nat.beq t 25
def hard : FuncId → Bool := fun f => Nat.beq f 4 || Nat.beq f 16
theorem run0 (a b c : Int) (ts : Nat → TypeId) : Go.Ai.asked Tryz.prog sums hard orc 1000 200 3 [.slice none 0 0, .int .u32 a, .int .u64 b, .int .u64 c] (Go.Ai.tabW Tryz.prog ts kk 0) Go.Ai.saysTrue = true := by kernel_rfl
end Go.Proofs.GK
