/- Proved: the patterns of the numbers 16 to 23 may be, and both texts have the same ones. Conditions: none. -/
import Derived.Test.YtojfppkibmmmdaaDoorSg
set_option linter.unusedVariables false
set_option linter.unusedSimpArgs false
namespace Go.Proofs.SA
open Go.Ai
theorem m16 : answers (mayRun 16) isNone = true := by kernel_rfl
theorem s13_16 : answers (sameRun 13 16) isTrue = true := by kernel_rfl
theorem s15_16 : answers (sameRun 15 16) isTrue = true := by kernel_rfl
theorem f13_100_16 : fine 13 16 100 = true := by kernel_rfl
theorem f13_160_16 : fine 13 16 160 = true := by kernel_rfl
theorem f15_160_16 : fine 15 16 160 = true := by kernel_rfl
theorem m17 : answers (mayRun 17) isNone = true := by kernel_rfl
theorem s13_17 : answers (sameRun 13 17) isTrue = true := by kernel_rfl
theorem s15_17 : answers (sameRun 15 17) isTrue = true := by kernel_rfl
theorem f13_100_17 : fine 13 17 100 = true := by kernel_rfl
theorem f13_160_17 : fine 13 17 160 = true := by kernel_rfl
theorem f15_160_17 : fine 15 17 160 = true := by kernel_rfl
theorem m18 : answers (mayRun 18) isNone = true := by kernel_rfl
theorem s13_18 : answers (sameRun 13 18) isTrue = true := by kernel_rfl
theorem s15_18 : answers (sameRun 15 18) isTrue = true := by kernel_rfl
theorem f13_100_18 : fine 13 18 100 = true := by kernel_rfl
theorem f13_160_18 : fine 13 18 160 = true := by kernel_rfl
theorem f15_160_18 : fine 15 18 160 = true := by kernel_rfl
theorem m19 : answers (mayRun 19) isNone = true := by kernel_rfl
theorem s13_19 : answers (sameRun 13 19) isTrue = true := by kernel_rfl
theorem s15_19 : answers (sameRun 15 19) isTrue = true := by kernel_rfl
theorem f13_100_19 : fine 13 19 100 = true := by kernel_rfl
theorem f13_160_19 : fine 13 19 160 = true := by kernel_rfl
theorem f15_160_19 : fine 15 19 160 = true := by kernel_rfl
theorem m20 : answers (mayRun 20) isNone = true := by kernel_rfl
theorem s13_20 : answers (sameRun 13 20) isTrue = true := by kernel_rfl
theorem s15_20 : answers (sameRun 15 20) isTrue = true := by kernel_rfl
theorem f13_100_20 : fine 13 20 100 = true := by kernel_rfl
theorem f13_160_20 : fine 13 20 160 = true := by kernel_rfl
theorem f15_160_20 : fine 15 20 160 = true := by kernel_rfl
theorem m21 : answers (mayRun 21) isNone = true := by kernel_rfl
theorem s13_21 : answers (sameRun 13 21) isTrue = true := by kernel_rfl
theorem s15_21 : answers (sameRun 15 21) isTrue = true := by kernel_rfl
theorem f13_100_21 : fine 13 21 100 = true := by kernel_rfl
theorem f13_160_21 : fine 13 21 160 = true := by kernel_rfl
theorem f15_160_21 : fine 15 21 160 = true := by kernel_rfl
theorem m22 : answers (mayRun 22) isNone = true := by kernel_rfl
theorem s13_22 : answers (sameRun 13 22) isTrue = true := by kernel_rfl
theorem s15_22 : answers (sameRun 15 22) isTrue = true := by kernel_rfl
theorem f13_100_22 : fine 13 22 100 = true := by kernel_rfl
theorem f13_160_22 : fine 13 22 160 = true := by kernel_rfl
theorem f15_160_22 : fine 15 22 160 = true := by kernel_rfl
theorem m23 : answers (mayRun 23) isNone = true := by kernel_rfl
theorem s13_23 : answers (sameRun 13 23) isTrue = true := by kernel_rfl
theorem s15_23 : answers (sameRun 15 23) isTrue = true := by kernel_rfl
theorem f13_100_23 : fine 13 23 100 = true := by kernel_rfl
theorem f13_160_23 : fine 13 23 160 = true := by kernel_rfl
theorem f15_160_23 : fine 15 23 160 = true := by kernel_rfl
theorem may_part2 (n : Nat) (h1 : 16 ≤ n) (h2 : n < 24) : answers (mayRun n) isNone = true := by
  rcases (by omega : n = 16 ∨ n = 17 ∨ n = 18 ∨ n = 19 ∨ n = 20 ∨ n = 21 ∨ n = 22 ∨ n = 23) with rfl | rfl | rfl | rfl | rfl | rfl | rfl | rfl
  · exact m16
  · exact m17
  · exact m18
  · exact m19
  · exact m20
  · exact m21
  · exact m22
  · exact m23
theorem same13_part2 (n : Nat) (h1 : 16 ≤ n) (h2 : n < 24) : answers (sameRun 13 n) isTrue = true := by
  rcases (by omega : n = 16 ∨ n = 17 ∨ n = 18 ∨ n = 19 ∨ n = 20 ∨ n = 21 ∨ n = 22 ∨ n = 23) with rfl | rfl | rfl | rfl | rfl | rfl | rfl | rfl
  · exact s13_16
  · exact s13_17
  · exact s13_18
  · exact s13_19
  · exact s13_20
  · exact s13_21
  · exact s13_22
  · exact s13_23
theorem same15_part2 (n : Nat) (h1 : 16 ≤ n) (h2 : n < 24) : answers (sameRun 15 n) isTrue = true := by
  rcases (by omega : n = 16 ∨ n = 17 ∨ n = 18 ∨ n = 19 ∨ n = 20 ∨ n = 21 ∨ n = 22 ∨ n = 23) with rfl | rfl | rfl | rfl | rfl | rfl | rfl | rfl
  · exact s15_16
  · exact s15_17
  · exact s15_18
  · exact s15_19
  · exact s15_20
  · exact s15_21
  · exact s15_22
  · exact s15_23
theorem fine13_100_part2 (n : Nat) (h1 : 16 ≤ n) (h2 : n < 24) : fine 13 n 100 = true := by
  rcases (by omega : n = 16 ∨ n = 17 ∨ n = 18 ∨ n = 19 ∨ n = 20 ∨ n = 21 ∨ n = 22 ∨ n = 23) with rfl | rfl | rfl | rfl | rfl | rfl | rfl | rfl
  · exact f13_100_16
  · exact f13_100_17
  · exact f13_100_18
  · exact f13_100_19
  · exact f13_100_20
  · exact f13_100_21
  · exact f13_100_22
  · exact f13_100_23
theorem fine13_160_part2 (n : Nat) (h1 : 16 ≤ n) (h2 : n < 24) : fine 13 n 160 = true := by
  rcases (by omega : n = 16 ∨ n = 17 ∨ n = 18 ∨ n = 19 ∨ n = 20 ∨ n = 21 ∨ n = 22 ∨ n = 23) with rfl | rfl | rfl | rfl | rfl | rfl | rfl | rfl
  · exact f13_160_16
  · exact f13_160_17
  · exact f13_160_18
  · exact f13_160_19
  · exact f13_160_20
  · exact f13_160_21
  · exact f13_160_22
  · exact f13_160_23
theorem fine15_160_part2 (n : Nat) (h1 : 16 ≤ n) (h2 : n < 24) : fine 15 n 160 = true := by
  rcases (by omega : n = 16 ∨ n = 17 ∨ n = 18 ∨ n = 19 ∨ n = 20 ∨ n = 21 ∨ n = 22 ∨ n = 23) with rfl | rfl | rfl | rfl | rfl | rfl | rfl | rfl
  · exact f15_160_16
  · exact f15_160_17
  · exact f15_160_18
  · exact f15_160_19
  · exact f15_160_20
  · exact f15_160_21
  · exact f15_160_22
  · exact f15_160_23
end Go.Proofs.SA
