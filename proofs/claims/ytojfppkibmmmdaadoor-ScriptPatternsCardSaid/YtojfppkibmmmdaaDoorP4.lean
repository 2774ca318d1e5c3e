/- Proved: the function of 'ScriptPatterns' answers true at the inputs 128 to 159, by the interpreter's run in the kernel. Conditions: none. -/
import Derived.Test.YtojfppkibmmmdaaDoorProg
import Derived.Test.YtojfppkibmmmdaaDoorAc
import Derived.Test.YtojfppkibmmmdaaDoorPg
import Derived.KernelRfl
namespace Go.Proofs.YtojfppkibmmmdaaDoor.scriptPatterns
open Go.Ai
theorem at128 : Goal 128 := fun ts => by kernel_rfl
theorem at129 : Goal 129 := fun ts => by kernel_rfl
theorem at130 : Goal 130 := fun ts => by kernel_rfl
theorem at131 : Goal 131 := fun ts => by kernel_rfl
theorem at132 : Goal 132 := fun ts => by kernel_rfl
theorem at133 : Goal 133 := fun ts => by kernel_rfl
theorem at134 : Goal 134 := fun ts => by kernel_rfl
theorem at135 : Goal 135 := fun ts => by kernel_rfl
theorem at136 : Goal 136 := fun ts => by kernel_rfl
theorem at137 : Goal 137 := fun ts => by kernel_rfl
theorem at138 : Goal 138 := fun ts => by kernel_rfl
theorem at139 : Goal 139 := fun ts => by kernel_rfl
theorem at140 : Goal 140 := fun ts => by kernel_rfl
theorem at141 : Goal 141 := fun ts => by kernel_rfl
theorem at142 : Goal 142 := fun ts => by kernel_rfl
theorem at143 : Goal 143 := fun ts => by kernel_rfl
theorem at144 : Goal 144 := fun ts => by kernel_rfl
theorem at145 : Goal 145 := fun ts => by kernel_rfl
theorem at146 : Goal 146 := fun ts => by kernel_rfl
theorem at147 : Goal 147 := fun ts => by kernel_rfl
theorem at148 : Goal 148 := fun ts => by kernel_rfl
theorem at149 : Goal 149 := fun ts => by kernel_rfl
theorem at150 : Goal 150 := fun ts => by kernel_rfl
theorem at151 : Goal 151 := fun ts => by kernel_rfl
theorem at152 : Goal 152 := fun ts => by kernel_rfl
theorem at153 : Goal 153 := fun ts => by kernel_rfl
theorem at154 : Goal 154 := fun ts => by kernel_rfl
theorem at155 : Goal 155 := fun ts => by kernel_rfl
theorem at156 : Goal 156 := fun ts => by kernel_rfl
theorem at157 : Goal 157 := fun ts => by kernel_rfl
theorem at158 : Goal 158 := fun ts => by kernel_rfl
theorem at159 : Goal 159 := fun ts => by kernel_rfl
theorem part4 (n : Nat) (h1 : 128 ≤ n) (h2 : n < 160) : Goal n := by
  rcases (by omega : n = 128 ∨ n = 129 ∨ n = 130 ∨ n = 131 ∨ n = 132 ∨ n = 133 ∨ n = 134 ∨ n = 135 ∨ n = 136 ∨ n = 137 ∨ n = 138 ∨ n = 139 ∨ n = 140 ∨ n = 141 ∨ n = 142 ∨ n = 143 ∨ n = 144 ∨ n = 145 ∨ n = 146 ∨ n = 147 ∨ n = 148 ∨ n = 149 ∨ n = 150 ∨ n = 151 ∨ n = 152 ∨ n = 153 ∨ n = 154 ∨ n = 155 ∨ n = 156 ∨ n = 157 ∨ n = 158 ∨ n = 159) with rfl | rfl | rfl | rfl | rfl | rfl | rfl | rfl | rfl | rfl | rfl | rfl | rfl | rfl | rfl | rfl | rfl | rfl | rfl | rfl | rfl | rfl | rfl | rfl | rfl | rfl | rfl | rfl | rfl | rfl | rfl | rfl
  · exact at128
  · exact at129
  · exact at130
  · exact at131
  · exact at132
  · exact at133
  · exact at134
  · exact at135
  · exact at136
  · exact at137
  · exact at138
  · exact at139
  · exact at140
  · exact at141
  · exact at142
  · exact at143
  · exact at144
  · exact at145
  · exact at146
  · exact at147
  · exact at148
  · exact at149
  · exact at150
  · exact at151
  · exact at152
  · exact at153
  · exact at154
  · exact at155
  · exact at156
  · exact at157
  · exact at158
  · exact at159
end Go.Proofs.YtojfppkibmmmdaaDoor.scriptPatterns
