/- Proved: GateNil's run, of any bytes, answers true. Conditions: none. -/
import Derived.Test.YtajjmepenakgkaaGreatDoorGc
set_option linter.unusedVariables false
set_option linter.unusedSimpArgs false
namespace Go.Proofs.GK
theorem run1 (off len cap : Nat) (a b c : Int) (ts : Nat → TypeId) : Go.Ai.asked Tryz.prog sums hard orc 1000 200 3 [.slice (some ⟨Tryz.prog.globals.size + 0, off, none⟩) len cap, .int .u32 a, .int .u64 b, .int .u64 c] (Go.Ai.tabW Tryz.prog ts kk 1) Go.Ai.saysTrue = true := by kernel_rfl
end Go.Proofs.GK
