/- Proved: the function of 'ScriptPatterns' answers true at the inputs 0 to 31, by the interpreter's run in the kernel. Conditions: none. -/
import Derived.Test.YtojfppkibmmmdaaDoorProg
import Derived.Test.YtojfppkibmmmdaaDoorAc
import Derived.Test.YtojfppkibmmmdaaDoorPg
import Derived.KernelRfl
namespace Go.Proofs.YtojfppkibmmmdaaDoor.scriptPatterns
open Go.Ai
theorem at0 : Goal 0 := fun ts => by kernel_rfl
theorem at1 : Goal 1 := fun ts => by kernel_rfl
theorem at2 : Goal 2 := fun ts => by kernel_rfl
theorem at3 : Goal 3 := fun ts => by kernel_rfl
theorem at4 : Goal 4 := fun ts => by kernel_rfl
theorem at5 : Goal 5 := fun ts => by kernel_rfl
theorem at6 : Goal 6 := fun ts => by kernel_rfl
theorem at7 : Goal 7 := fun ts => by kernel_rfl
theorem at8 : Goal 8 := fun ts => by kernel_rfl
theorem at9 : Goal 9 := fun ts => by kernel_rfl
theorem at10 : Goal 10 := fun ts => by kernel_rfl
theorem at11 : Goal 11 := fun ts => by kernel_rfl
theorem at12 : Goal 12 := fun ts => by kernel_rfl
theorem at13 : Goal 13 := fun ts => by kernel_rfl
theorem at14 : Goal 14 := fun ts => by kernel_rfl
theorem at15 : Goal 15 := fun ts => by kernel_rfl
theorem at16 : Goal 16 := fun ts => by kernel_rfl
theorem at17 : Goal 17 := fun ts => by kernel_rfl
theorem at18 : Goal 18 := fun ts => by kernel_rfl
theorem at19 : Goal 19 := fun ts => by kernel_rfl
theorem at20 : Goal 20 := fun ts => by kernel_rfl
theorem at21 : Goal 21 := fun ts => by kernel_rfl
theorem at22 : Goal 22 := fun ts => by kernel_rfl
theorem at23 : Goal 23 := fun ts => by kernel_rfl
theorem at24 : Goal 24 := fun ts => by kernel_rfl
theorem at25 : Goal 25 := fun ts => by kernel_rfl
theorem at26 : Goal 26 := fun ts => by kernel_rfl
theorem at27 : Goal 27 := fun ts => by kernel_rfl
theorem at28 : Goal 28 := fun ts => by kernel_rfl
theorem at29 : Goal 29 := fun ts => by kernel_rfl
theorem at30 : Goal 30 := fun ts => by kernel_rfl
theorem at31 : Goal 31 := fun ts => by kernel_rfl
theorem part0 (n : Nat) (h1 : 0 ≤ n) (h2 : n < 32) : Goal n := by
  rcases (by omega : n = 0 ∨ n = 1 ∨ n = 2 ∨ n = 3 ∨ n = 4 ∨ n = 5 ∨ n = 6 ∨ n = 7 ∨ n = 8 ∨ n = 9 ∨ n = 10 ∨ n = 11 ∨ n = 12 ∨ n = 13 ∨ n = 14 ∨ n = 15 ∨ n = 16 ∨ n = 17 ∨ n = 18 ∨ n = 19 ∨ n = 20 ∨ n = 21 ∨ n = 22 ∨ n = 23 ∨ n = 24 ∨ n = 25 ∨ n = 26 ∨ n = 27 ∨ n = 28 ∨ n = 29 ∨ n = 30 ∨ n = 31) with rfl | rfl | rfl | rfl | rfl | rfl | rfl | rfl | rfl | rfl | rfl | rfl | rfl | rfl | rfl | rfl | rfl | rfl | rfl | rfl | rfl | rfl | rfl | rfl | rfl | rfl | rfl | rfl | rfl | rfl | rfl | rfl
  · exact at0
  · exact at1
  · exact at2
  · exact at3
  · exact at4
  · exact at5
  · exact at6
  · exact at7
  · exact at8
  · exact at9
  · exact at10
  · exact at11
  · exact at12
  · exact at13
  · exact at14
  · exact at15
  · exact at16
  · exact at17
  · exact at18
  · exact at19
  · exact at20
  · exact at21
  · exact at22
  · exact at23
  · exact at24
  · exact at25
  · exact at26
  · exact at27
  · exact at28
  · exact at29
  · exact at30
  · exact at31
end Go.Proofs.YtojfppkibmmmdaaDoor.scriptPatterns
