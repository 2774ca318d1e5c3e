/- Proved: the function of 'ScriptPatterns' answers true at the inputs 160 to 191, by the interpreter's run in the kernel. Conditions: none. -/
import Derived.Test.YtojfppkibmmmdaaDoorProg
import Derived.Test.YtojfppkibmmmdaaDoorAc
import Derived.Test.YtojfppkibmmmdaaDoorPg
import Derived.KernelRfl
namespace Go.Proofs.YtojfppkibmmmdaaDoor.scriptPatterns
open Go.Ai
theorem at160 : Goal 160 := fun ts => by kernel_rfl
theorem at161 : Goal 161 := fun ts => by kernel_rfl
theorem at162 : Goal 162 := fun ts => by kernel_rfl
theorem at163 : Goal 163 := fun ts => by kernel_rfl
theorem at164 : Goal 164 := fun ts => by kernel_rfl
theorem at165 : Goal 165 := fun ts => by kernel_rfl
theorem at166 : Goal 166 := fun ts => by kernel_rfl
theorem at167 : Goal 167 := fun ts => by kernel_rfl
theorem at168 : Goal 168 := fun ts => by kernel_rfl
theorem at169 : Goal 169 := fun ts => by kernel_rfl
theorem at170 : Goal 170 := fun ts => by kernel_rfl
theorem at171 : Goal 171 := fun ts => by kernel_rfl
theorem at172 : Goal 172 := fun ts => by kernel_rfl
theorem at173 : Goal 173 := fun ts => by kernel_rfl
theorem at174 : Goal 174 := fun ts => by kernel_rfl
theorem at175 : Goal 175 := fun ts => by kernel_rfl
theorem at176 : Goal 176 := fun ts => by kernel_rfl
theorem at177 : Goal 177 := fun ts => by kernel_rfl
theorem at178 : Goal 178 := fun ts => by kernel_rfl
theorem at179 : Goal 179 := fun ts => by kernel_rfl
theorem at180 : Goal 180 := fun ts => by kernel_rfl
theorem at181 : Goal 181 := fun ts => by kernel_rfl
theorem at182 : Goal 182 := fun ts => by kernel_rfl
theorem at183 : Goal 183 := fun ts => by kernel_rfl
theorem at184 : Goal 184 := fun ts => by kernel_rfl
theorem at185 : Goal 185 := fun ts => by kernel_rfl
theorem at186 : Goal 186 := fun ts => by kernel_rfl
theorem at187 : Goal 187 := fun ts => by kernel_rfl
theorem at188 : Goal 188 := fun ts => by kernel_rfl
theorem at189 : Goal 189 := fun ts => by kernel_rfl
theorem at190 : Goal 190 := fun ts => by kernel_rfl
theorem at191 : Goal 191 := fun ts => by kernel_rfl
theorem part5 (n : Nat) (h1 : 160 ≤ n) (h2 : n < 192) : Goal n := by
  rcases (by omega : n = 160 ∨ n = 161 ∨ n = 162 ∨ n = 163 ∨ n = 164 ∨ n = 165 ∨ n = 166 ∨ n = 167 ∨ n = 168 ∨ n = 169 ∨ n = 170 ∨ n = 171 ∨ n = 172 ∨ n = 173 ∨ n = 174 ∨ n = 175 ∨ n = 176 ∨ n = 177 ∨ n = 178 ∨ n = 179 ∨ n = 180 ∨ n = 181 ∨ n = 182 ∨ n = 183 ∨ n = 184 ∨ n = 185 ∨ n = 186 ∨ n = 187 ∨ n = 188 ∨ n = 189 ∨ n = 190 ∨ n = 191) with rfl | rfl | rfl | rfl | rfl | rfl | rfl | rfl | rfl | rfl | rfl | rfl | rfl | rfl | rfl | rfl | rfl | rfl | rfl | rfl | rfl | rfl | rfl | rfl | rfl | rfl | rfl | rfl | rfl | rfl | rfl | rfl
  · exact at160
  · exact at161
  · exact at162
  · exact at163
  · exact at164
  · exact at165
  · exact at166
  · exact at167
  · exact at168
  · exact at169
  · exact at170
  · exact at171
  · exact at172
  · exact at173
  · exact at174
  · exact at175
  · exact at176
  · exact at177
  · exact at178
  · exact at179
  · exact at180
  · exact at181
  · exact at182
  · exact at183
  · exact at184
  · exact at185
  · exact at186
  · exact at187
  · exact at188
  · exact at189
  · exact at190
  · exact at191
end Go.Proofs.YtojfppkibmmmdaaDoor.scriptPatterns
