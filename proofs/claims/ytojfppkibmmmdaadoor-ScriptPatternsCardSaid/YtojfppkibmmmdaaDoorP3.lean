/- Proved: the function of 'ScriptPatterns' answers true at the inputs 96 to 127, by the interpreter's run in the kernel. Conditions: none. -/
import Derived.Test.YtojfppkibmmmdaaDoorProg
import Derived.Test.YtojfppkibmmmdaaDoorAc
import Derived.Test.YtojfppkibmmmdaaDoorPg
import Derived.KernelRfl
namespace Go.Proofs.YtojfppkibmmmdaaDoor.scriptPatterns
open Go.Ai
theorem at96 : Goal 96 := fun ts => by kernel_rfl
theorem at97 : Goal 97 := fun ts => by kernel_rfl
theorem at98 : Goal 98 := fun ts => by kernel_rfl
theorem at99 : Goal 99 := fun ts => by kernel_rfl
theorem at100 : Goal 100 := fun ts => by kernel_rfl
theorem at101 : Goal 101 := fun ts => by kernel_rfl
theorem at102 : Goal 102 := fun ts => by kernel_rfl
theorem at103 : Goal 103 := fun ts => by kernel_rfl
theorem at104 : Goal 104 := fun ts => by kernel_rfl
theorem at105 : Goal 105 := fun ts => by kernel_rfl
theorem at106 : Goal 106 := fun ts => by kernel_rfl
theorem at107 : Goal 107 := fun ts => by kernel_rfl
theorem at108 : Goal 108 := fun ts => by kernel_rfl
theorem at109 : Goal 109 := fun ts => by kernel_rfl
theorem at110 : Goal 110 := fun ts => by kernel_rfl
theorem at111 : Goal 111 := fun ts => by kernel_rfl
theorem at112 : Goal 112 := fun ts => by kernel_rfl
theorem at113 : Goal 113 := fun ts => by kernel_rfl
theorem at114 : Goal 114 := fun ts => by kernel_rfl
theorem at115 : Goal 115 := fun ts => by kernel_rfl
theorem at116 : Goal 116 := fun ts => by kernel_rfl
theorem at117 : Goal 117 := fun ts => by kernel_rfl
theorem at118 : Goal 118 := fun ts => by kernel_rfl
theorem at119 : Goal 119 := fun ts => by kernel_rfl
theorem at120 : Goal 120 := fun ts => by kernel_rfl
theorem at121 : Goal 121 := fun ts => by kernel_rfl
theorem at122 : Goal 122 := fun ts => by kernel_rfl
theorem at123 : Goal 123 := fun ts => by kernel_rfl
theorem at124 : Goal 124 := fun ts => by kernel_rfl
theorem at125 : Goal 125 := fun ts => by kernel_rfl
theorem at126 : Goal 126 := fun ts => by kernel_rfl
theorem at127 : Goal 127 := fun ts => by kernel_rfl
theorem part3 (n : Nat) (h1 : 96 ≤ n) (h2 : n < 128) : Goal n := by
  rcases (by omega : n = 96 ∨ n = 97 ∨ n = 98 ∨ n = 99 ∨ n = 100 ∨ n = 101 ∨ n = 102 ∨ n = 103 ∨ n = 104 ∨ n = 105 ∨ n = 106 ∨ n = 107 ∨ n = 108 ∨ n = 109 ∨ n = 110 ∨ n = 111 ∨ n = 112 ∨ n = 113 ∨ n = 114 ∨ n = 115 ∨ n = 116 ∨ n = 117 ∨ n = 118 ∨ n = 119 ∨ n = 120 ∨ n = 121 ∨ n = 122 ∨ n = 123 ∨ n = 124 ∨ n = 125 ∨ n = 126 ∨ n = 127) with rfl | rfl | rfl | rfl | rfl | rfl | rfl | rfl | rfl | rfl | rfl | rfl | rfl | rfl | rfl | rfl | rfl | rfl | rfl | rfl | rfl | rfl | rfl | rfl | rfl | rfl | rfl | rfl | rfl | rfl | rfl | rfl
  · exact at96
  · exact at97
  · exact at98
  · exact at99
  · exact at100
  · exact at101
  · exact at102
  · exact at103
  · exact at104
  · exact at105
  · exact at106
  · exact at107
  · exact at108
  · exact at109
  · exact at110
  · exact at111
  · exact at112
  · exact at113
  · exact at114
  · exact at115
  · exact at116
  · exact at117
  · exact at118
  · exact at119
  · exact at120
  · exact at121
  · exact at122
  · exact at123
  · exact at124
  · exact at125
  · exact at126
  · exact at127
end Go.Proofs.YtojfppkibmmmdaaDoor.scriptPatterns
