/- Proved: what the program's 'New' comes to. Each theorem says its own conditions. -/
import Derived.Test.YteleocgomdhcfaaLj
import Derived.Carry
set_option linter.unusedVariables false
set_option linter.unusedSimpArgs false
namespace Go.Proofs.DK
open Go.RowKit
def S0 : Ds := ⟨10000, [], false, 0, false, 0, 0⟩
theorem c6 (w : World) : Calls Try.prog 6 #[.int .i64 10000] w fun e w' => ∃ bd, e = .returned (.tuple #[ptr bd, .int .i64 0]) ∧ D (fun b => w.heap.size ≤ b) bd S0 w' ∧ Below w.heap.size w w' := by
  have hmk := run_makeMap (P := Try.prog) 54 w
  unfold ptr
  go_enter Try.func6, Try.ntmps6
  go_wp2
  go_ret2
  refine ⟨w.heap.size + 1, rfl, ?_, ((Below.refl _ w).alloc (Nat.le_refl _) _).alloc (by simp) _⟩
  exact ⟨w.heap.size, #[], 0, [], Nat.le_succ _, Nat.le_refl _, heap_two _ _ _, heap_one _ _ _, .refl _, .refl _, List.Pairwise.nil, fun e he => (by cases he), List.Pairwise.nil, MapKept.stamped_empty 0⟩
end Go.Proofs.DK
