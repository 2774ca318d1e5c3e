/- Proved: the function of 'ScriptPatterns' answers true at the inputs 224 to 255, by the interpreter's run in the kernel. Conditions: none. -/
import Derived.Test.YtojfppkibmmmdaaDoorProg
import Derived.Test.YtojfppkibmmmdaaDoorAc
import Derived.Test.YtojfppkibmmmdaaDoorPg
import Derived.KernelRfl
namespace Go.Proofs.YtojfppkibmmmdaaDoor.scriptPatterns
open Go.Ai
theorem at224 : Goal 224 := fun ts => by kernel_rfl
theorem at225 : Goal 225 := fun ts => by kernel_rfl
theorem at226 : Goal 226 := fun ts => by kernel_rfl
theorem at227 : Goal 227 := fun ts => by kernel_rfl
theorem at228 : Goal 228 := fun ts => by kernel_rfl
theorem at229 : Goal 229 := fun ts => by kernel_rfl
theorem at230 : Goal 230 := fun ts => by kernel_rfl
theorem at231 : Goal 231 := fun ts => by kernel_rfl
theorem at232 : Goal 232 := fun ts => by kernel_rfl
theorem at233 : Goal 233 := fun ts => by kernel_rfl
theorem at234 : Goal 234 := fun ts => by kernel_rfl
theorem at235 : Goal 235 := fun ts => by kernel_rfl
theorem at236 : Goal 236 := fun ts => by kernel_rfl
theorem at237 : Goal 237 := fun ts => by kernel_rfl
theorem at238 : Goal 238 := fun ts => by kernel_rfl
theorem at239 : Goal 239 := fun ts => by kernel_rfl
theorem at240 : Goal 240 := fun ts => by kernel_rfl
theorem at241 : Goal 241 := fun ts => by kernel_rfl
theorem at242 : Goal 242 := fun ts => by kernel_rfl
theorem at243 : Goal 243 := fun ts => by kernel_rfl
theorem at244 : Goal 244 := fun ts => by kernel_rfl
theorem at245 : Goal 245 := fun ts => by kernel_rfl
theorem at246 : Goal 246 := fun ts => by kernel_rfl
theorem at247 : Goal 247 := fun ts => by kernel_rfl
theorem at248 : Goal 248 := fun ts => by kernel_rfl
theorem at249 : Goal 249 := fun ts => by kernel_rfl
theorem at250 : Goal 250 := fun ts => by kernel_rfl
theorem at251 : Goal 251 := fun ts => by kernel_rfl
theorem at252 : Goal 252 := fun ts => by kernel_rfl
theorem at253 : Goal 253 := fun ts => by kernel_rfl
theorem at254 : Goal 254 := fun ts => by kernel_rfl
theorem at255 : Goal 255 := fun ts => by kernel_rfl
theorem part7 (n : Nat) (h1 : 224 ≤ n) (h2 : n < 256) : Goal n := by
  rcases (by omega : n = 224 ∨ n = 225 ∨ n = 226 ∨ n = 227 ∨ n = 228 ∨ n = 229 ∨ n = 230 ∨ n = 231 ∨ n = 232 ∨ n = 233 ∨ n = 234 ∨ n = 235 ∨ n = 236 ∨ n = 237 ∨ n = 238 ∨ n = 239 ∨ n = 240 ∨ n = 241 ∨ n = 242 ∨ n = 243 ∨ n = 244 ∨ n = 245 ∨ n = 246 ∨ n = 247 ∨ n = 248 ∨ n = 249 ∨ n = 250 ∨ n = 251 ∨ n = 252 ∨ n = 253 ∨ n = 254 ∨ n = 255) with rfl | rfl | rfl | rfl | rfl | rfl | rfl | rfl | rfl | rfl | rfl | rfl | rfl | rfl | rfl | rfl | rfl | rfl | rfl | rfl | rfl | rfl | rfl | rfl | rfl | rfl | rfl | rfl | rfl | rfl | rfl | rfl
  · exact at224
  · exact at225
  · exact at226
  · exact at227
  · exact at228
  · exact at229
  · exact at230
  · exact at231
  · exact at232
  · exact at233
  · exact at234
  · exact at235
  · exact at236
  · exact at237
  · exact at238
  · exact at239
  · exact at240
  · exact at241
  · exact at242
  · exact at243
  · exact at244
  · exact at245
  · exact at246
  · exact at247
  · exact at248
  · exact at249
  · exact at250
  · exact at251
  · exact at252
  · exact at253
  · exact at254
  · exact at255
end Go.Proofs.YtojfppkibmmmdaaDoor.scriptPatterns
