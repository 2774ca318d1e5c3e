/- Proved: the function of 'ScriptPatterns' answers true at the inputs 192 to 223, by the interpreter's run in the kernel. Conditions: none. -/
import Derived.Test.YtojfppkibmmmdaaDoorProg
import Derived.Test.YtojfppkibmmmdaaDoorAc
import Derived.Test.YtojfppkibmmmdaaDoorPg
import Derived.KernelRfl
namespace Go.Proofs.YtojfppkibmmmdaaDoor.scriptPatterns
open Go.Ai
theorem at192 : Goal 192 := fun ts => by kernel_rfl
theorem at193 : Goal 193 := fun ts => by kernel_rfl
theorem at194 : Goal 194 := fun ts => by kernel_rfl
theorem at195 : Goal 195 := fun ts => by kernel_rfl
theorem at196 : Goal 196 := fun ts => by kernel_rfl
theorem at197 : Goal 197 := fun ts => by kernel_rfl
theorem at198 : Goal 198 := fun ts => by kernel_rfl
theorem at199 : Goal 199 := fun ts => by kernel_rfl
theorem at200 : Goal 200 := fun ts => by kernel_rfl
theorem at201 : Goal 201 := fun ts => by kernel_rfl
theorem at202 : Goal 202 := fun ts => by kernel_rfl
theorem at203 : Goal 203 := fun ts => by kernel_rfl
theorem at204 : Goal 204 := fun ts => by kernel_rfl
theorem at205 : Goal 205 := fun ts => by kernel_rfl
theorem at206 : Goal 206 := fun ts => by kernel_rfl
theorem at207 : Goal 207 := fun ts => by kernel_rfl
theorem at208 : Goal 208 := fun ts => by kernel_rfl
theorem at209 : Goal 209 := fun ts => by kernel_rfl
theorem at210 : Goal 210 := fun ts => by kernel_rfl
theorem at211 : Goal 211 := fun ts => by kernel_rfl
theorem at212 : Goal 212 := fun ts => by kernel_rfl
theorem at213 : Goal 213 := fun ts => by kernel_rfl
theorem at214 : Goal 214 := fun ts => by kernel_rfl
theorem at215 : Goal 215 := fun ts => by kernel_rfl
theorem at216 : Goal 216 := fun ts => by kernel_rfl
theorem at217 : Goal 217 := fun ts => by kernel_rfl
theorem at218 : Goal 218 := fun ts => by kernel_rfl
theorem at219 : Goal 219 := fun ts => by kernel_rfl
theorem at220 : Goal 220 := fun ts => by kernel_rfl
theorem at221 : Goal 221 := fun ts => by kernel_rfl
theorem at222 : Goal 222 := fun ts => by kernel_rfl
theorem at223 : Goal 223 := fun ts => by kernel_rfl
theorem part6 (n : Nat) (h1 : 192 ≤ n) (h2 : n < 224) : Goal n := by
  rcases (by omega : n = 192 ∨ n = 193 ∨ n = 194 ∨ n = 195 ∨ n = 196 ∨ n = 197 ∨ n = 198 ∨ n = 199 ∨ n = 200 ∨ n = 201 ∨ n = 202 ∨ n = 203 ∨ n = 204 ∨ n = 205 ∨ n = 206 ∨ n = 207 ∨ n = 208 ∨ n = 209 ∨ n = 210 ∨ n = 211 ∨ n = 212 ∨ n = 213 ∨ n = 214 ∨ n = 215 ∨ n = 216 ∨ n = 217 ∨ n = 218 ∨ n = 219 ∨ n = 220 ∨ n = 221 ∨ n = 222 ∨ n = 223) with rfl | rfl | rfl | rfl | rfl | rfl | rfl | rfl | rfl | rfl | rfl | rfl | rfl | rfl | rfl | rfl | rfl | rfl | rfl | rfl | rfl | rfl | rfl | rfl | rfl | rfl | rfl | rfl | rfl | rfl | rfl | rfl
  · exact at192
  · exact at193
  · exact at194
  · exact at195
  · exact at196
  · exact at197
  · exact at198
  · exact at199
  · exact at200
  · exact at201
  · exact at202
  · exact at203
  · exact at204
  · exact at205
  · exact at206
  · exact at207
  · exact at208
  · exact at209
  · exact at210
  · exact at211
  · exact at212
  · exact at213
  · exact at214
  · exact at215
  · exact at216
  · exact at217
  · exact at218
  · exact at219
  · exact at220
  · exact at221
  · exact at222
  · exact at223
end Go.Proofs.YtojfppkibmmmdaaDoor.scriptPatterns
