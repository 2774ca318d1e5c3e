/- Proved: 'fixed' answers true, in whatever memory. Conditions: none. -/
import Derived.Test.YtccmlmepcgcojaaAd
import Derived.Test.YtccmlmepcgcojaaChecked
namespace Go.Proofs.DU
theorem progOk' : Go.Ai.progOk Try.prog = true := by kernel_rfl
theorem c8 (w : World) : Calls Try.prog 8 #[] w fun e w' => e = .returned (.bool true) ∧ Go.RowKit.Below w.heap.size w w' :=
  Go.Ai.ai_closed progOk' (Checked.mixed Try.checked) 3000 400 8 [] (.bool true) rfl (by kernel_rfl) rfl w
end Go.Proofs.DU
