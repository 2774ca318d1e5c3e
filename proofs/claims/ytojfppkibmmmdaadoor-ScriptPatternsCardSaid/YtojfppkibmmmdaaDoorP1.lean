/- Proved: the function of 'ScriptPatterns' answers true at the inputs 32 to 63, by the interpreter's run in the kernel. Conditions: none. -/
import Derived.Test.YtojfppkibmmmdaaDoorProg
import Derived.Test.YtojfppkibmmmdaaDoorAc
import Derived.Test.YtojfppkibmmmdaaDoorPg
import Derived.KernelRfl
namespace Go.Proofs.YtojfppkibmmmdaaDoor.scriptPatterns
open Go.Ai
theorem at32 : Goal 32 := fun ts => by kernel_rfl
theorem at33 : Goal 33 := fun ts => by kernel_rfl
theorem at34 : Goal 34 := fun ts => by kernel_rfl
theorem at35 : Goal 35 := fun ts => by kernel_rfl
theorem at36 : Goal 36 := fun ts => by kernel_rfl
theorem at37 : Goal 37 := fun ts => by kernel_rfl
theorem at38 : Goal 38 := fun ts => by kernel_rfl
theorem at39 : Goal 39 := fun ts => by kernel_rfl
theorem at40 : Goal 40 := fun ts => by kernel_rfl
theorem at41 : Goal 41 := fun ts => by kernel_rfl
theorem at42 : Goal 42 := fun ts => by kernel_rfl
theorem at43 : Goal 43 := fun ts => by kernel_rfl
theorem at44 : Goal 44 := fun ts => by kernel_rfl
theorem at45 : Goal 45 := fun ts => by kernel_rfl
theorem at46 : Goal 46 := fun ts => by kernel_rfl
theorem at47 : Goal 47 := fun ts => by kernel_rfl
theorem at48 : Goal 48 := fun ts => by kernel_rfl
theorem at49 : Goal 49 := fun ts => by kernel_rfl
theorem at50 : Goal 50 := fun ts => by kernel_rfl
theorem at51 : Goal 51 := fun ts => by kernel_rfl
theorem at52 : Goal 52 := fun ts => by kernel_rfl
theorem at53 : Goal 53 := fun ts => by kernel_rfl
theorem at54 : Goal 54 := fun ts => by kernel_rfl
theorem at55 : Goal 55 := fun ts => by kernel_rfl
theorem at56 : Goal 56 := fun ts => by kernel_rfl
theorem at57 : Goal 57 := fun ts => by kernel_rfl
theorem at58 : Goal 58 := fun ts => by kernel_rfl
theorem at59 : Goal 59 := fun ts => by kernel_rfl
theorem at60 : Goal 60 := fun ts => by kernel_rfl
theorem at61 : Goal 61 := fun ts => by kernel_rfl
theorem at62 : Goal 62 := fun ts => by kernel_rfl
theorem at63 : Goal 63 := fun ts => by kernel_rfl
theorem part1 (n : Nat) (h1 : 32 ≤ n) (h2 : n < 64) : Goal n := by
  rcases (by omega : n = 32 ∨ n = 33 ∨ n = 34 ∨ n = 35 ∨ n = 36 ∨ n = 37 ∨ n = 38 ∨ n = 39 ∨ n = 40 ∨ n = 41 ∨ n = 42 ∨ n = 43 ∨ n = 44 ∨ n = 45 ∨ n = 46 ∨ n = 47 ∨ n = 48 ∨ n = 49 ∨ n = 50 ∨ n = 51 ∨ n = 52 ∨ n = 53 ∨ n = 54 ∨ n = 55 ∨ n = 56 ∨ n = 57 ∨ n = 58 ∨ n = 59 ∨ n = 60 ∨ n = 61 ∨ n = 62 ∨ n = 63) with rfl | rfl | rfl | rfl | rfl | rfl | rfl | rfl | rfl | rfl | rfl | rfl | rfl | rfl | rfl | rfl | rfl | rfl | rfl | rfl | rfl | rfl | rfl | rfl | rfl | rfl | rfl | rfl | rfl | rfl | rfl | rfl
  · exact at32
  · exact at33
  · exact at34
  · exact at35
  · exact at36
  · exact at37
  · exact at38
  · exact at39
  · exact at40
  · exact at41
  · exact at42
  · exact at43
  · exact at44
  · exact at45
  · exact at46
  · exact at47
  · exact at48
  · exact at49
  · exact at50
  · exact at51
  · exact at52
  · exact at53
  · exact at54
  · exact at55
  · exact at56
  · exact at57
  · exact at58
  · exact at59
  · exact at60
  · exact at61
  · exact at62
  · exact at63
end Go.Proofs.YtojfppkibmmmdaaDoor.scriptPatterns
