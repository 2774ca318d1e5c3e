/- Proved: the function of 'ScriptPatterns' answers true at the inputs 64 to 95, by the interpreter's run in the kernel. Conditions: none. -/
import Derived.Test.YtojfppkibmmmdaaDoorProg
import Derived.Test.YtojfppkibmmmdaaDoorAc
import Derived.Test.YtojfppkibmmmdaaDoorPg
import Derived.KernelRfl
namespace Go.Proofs.YtojfppkibmmmdaaDoor.scriptPatterns
open Go.Ai
theorem at64 : Goal 64 := fun ts => by kernel_rfl
theorem at65 : Goal 65 := fun ts => by kernel_rfl
theorem at66 : Goal 66 := fun ts => by kernel_rfl
theorem at67 : Goal 67 := fun ts => by kernel_rfl
theorem at68 : Goal 68 := fun ts => by kernel_rfl
theorem at69 : Goal 69 := fun ts => by kernel_rfl
theorem at70 : Goal 70 := fun ts => by kernel_rfl
theorem at71 : Goal 71 := fun ts => by kernel_rfl
theorem at72 : Goal 72 := fun ts => by kernel_rfl
theorem at73 : Goal 73 := fun ts => by kernel_rfl
theorem at74 : Goal 74 := fun ts => by kernel_rfl
theorem at75 : Goal 75 := fun ts => by kernel_rfl
theorem at76 : Goal 76 := fun ts => by kernel_rfl
theorem at77 : Goal 77 := fun ts => by kernel_rfl
theorem at78 : Goal 78 := fun ts => by kernel_rfl
theorem at79 : Goal 79 := fun ts => by kernel_rfl
theorem at80 : Goal 80 := fun ts => by kernel_rfl
theorem at81 : Goal 81 := fun ts => by kernel_rfl
theorem at82 : Goal 82 := fun ts => by kernel_rfl
theorem at83 : Goal 83 := fun ts => by kernel_rfl
theorem at84 : Goal 84 := fun ts => by kernel_rfl
theorem at85 : Goal 85 := fun ts => by kernel_rfl
theorem at86 : Goal 86 := fun ts => by kernel_rfl
theorem at87 : Goal 87 := fun ts => by kernel_rfl
theorem at88 : Goal 88 := fun ts => by kernel_rfl
theorem at89 : Goal 89 := fun ts => by kernel_rfl
theorem at90 : Goal 90 := fun ts => by kernel_rfl
theorem at91 : Goal 91 := fun ts => by kernel_rfl
theorem at92 : Goal 92 := fun ts => by kernel_rfl
theorem at93 : Goal 93 := fun ts => by kernel_rfl
theorem at94 : Goal 94 := fun ts => by kernel_rfl
theorem at95 : Goal 95 := fun ts => by kernel_rfl
theorem part2 (n : Nat) (h1 : 64 ≤ n) (h2 : n < 96) : Goal n := by
  rcases (by omega : n = 64 ∨ n = 65 ∨ n = 66 ∨ n = 67 ∨ n = 68 ∨ n = 69 ∨ n = 70 ∨ n = 71 ∨ n = 72 ∨ n = 73 ∨ n = 74 ∨ n = 75 ∨ n = 76 ∨ n = 77 ∨ n = 78 ∨ n = 79 ∨ n = 80 ∨ n = 81 ∨ n = 82 ∨ n = 83 ∨ n = 84 ∨ n = 85 ∨ n = 86 ∨ n = 87 ∨ n = 88 ∨ n = 89 ∨ n = 90 ∨ n = 91 ∨ n = 92 ∨ n = 93 ∨ n = 94 ∨ n = 95) with rfl | rfl | rfl | rfl | rfl | rfl | rfl | rfl | rfl | rfl | rfl | rfl | rfl | rfl | rfl | rfl | rfl | rfl | rfl | rfl | rfl | rfl | rfl | rfl | rfl | rfl | rfl | rfl | rfl | rfl | rfl | rfl
  · exact at64
  · exact at65
  · exact at66
  · exact at67
  · exact at68
  · exact at69
  · exact at70
  · exact at71
  · exact at72
  · exact at73
  · exact at74
  · exact at75
  · exact at76
  · exact at77
  · exact at78
  · exact at79
  · exact at80
  · exact at81
  · exact at82
  · exact at83
  · exact at84
  · exact at85
  · exact at86
  · exact at87
  · exact at88
  · exact at89
  · exact at90
  · exact at91
  · exact at92
  · exact at93
  · exact at94
  · exact at95
end Go.Proofs.YtojfppkibmmmdaaDoor.scriptPatterns
