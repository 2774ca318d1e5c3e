/- Proved: the patterns of the numbers 8 to 15 may be, and both texts have the same ones. Conditions: none. -/
import Derived.Test.YtojfppkibmmmdaaDoorSg
set_option linter.unusedVariables false
set_option linter.unusedSimpArgs false
namespace Go.Proofs.SA
open Go.Ai
theorem m8 : answers (mayRun 8) isNone = true := by kernel_rfl
theorem s13_8 : answers (sameRun 13 8) isTrue = true := by kernel_rfl
theorem s15_8 : answers (sameRun 15 8) isTrue = true := by kernel_rfl
theorem f13_100_8 : fine 13 8 100 = true := by kernel_rfl
theorem f13_160_8 : fine 13 8 160 = true := by kernel_rfl
theorem f15_160_8 : fine 15 8 160 = true := by kernel_rfl
theorem m9 : answers (mayRun 9) isNone = true := by kernel_rfl
theorem s13_9 : answers (sameRun 13 9) isTrue = true := by kernel_rfl
theorem s15_9 : answers (sameRun 15 9) isTrue = true := by kernel_rfl
theorem f13_100_9 : fine 13 9 100 = true := by kernel_rfl
theorem f13_160_9 : fine 13 9 160 = true := by kernel_rfl
theorem f15_160_9 : fine 15 9 160 = true := by kernel_rfl
theorem m10 : answers (mayRun 10) isNone = true := by kernel_rfl
theorem s13_10 : answers (sameRun 13 10) isTrue = true := by kernel_rfl
theorem s15_10 : answers (sameRun 15 10) isTrue = true := by kernel_rfl
theorem f13_100_10 : fine 13 10 100 = true := by kernel_rfl
theorem f13_160_10 : fine 13 10 160 = true := by kernel_rfl
theorem f15_160_10 : fine 15 10 160 = true := by kernel_rfl
theorem m11 : answers (mayRun 11) isNone = true := by kernel_rfl
theorem s13_11 : answers (sameRun 13 11) isTrue = true := by kernel_rfl
theorem s15_11 : answers (sameRun 15 11) isTrue = true := by kernel_rfl
theorem f13_100_11 : fine 13 11 100 = true := by kernel_rfl
theorem f13_160_11 : fine 13 11 160 = true := by kernel_rfl
theorem f15_160_11 : fine 15 11 160 = true := by kernel_rfl
theorem m12 : answers (mayRun 12) isNone = true := by kernel_rfl
theorem s13_12 : answers (sameRun 13 12) isTrue = true := by kernel_rfl
theorem s15_12 : answers (sameRun 15 12) isTrue = true := by kernel_rfl
theorem f13_100_12 : fine 13 12 100 = true := by kernel_rfl
theorem f13_160_12 : fine 13 12 160 = true := by kernel_rfl
theorem f15_160_12 : fine 15 12 160 = true := by kernel_rfl
theorem m13 : answers (mayRun 13) isNone = true := by kernel_rfl
theorem s13_13 : answers (sameRun 13 13) isTrue = true := by kernel_rfl
theorem s15_13 : answers (sameRun 15 13) isTrue = true := by kernel_rfl
theorem f13_100_13 : fine 13 13 100 = true := by kernel_rfl
theorem f13_160_13 : fine 13 13 160 = true := by kernel_rfl
theorem f15_160_13 : fine 15 13 160 = true := by kernel_rfl
theorem m14 : answers (mayRun 14) isNone = true := by kernel_rfl
theorem s13_14 : answers (sameRun 13 14) isTrue = true := by kernel_rfl
theorem s15_14 : answers (sameRun 15 14) isTrue = true := by kernel_rfl
theorem f13_100_14 : fine 13 14 100 = true := by kernel_rfl
theorem f13_160_14 : fine 13 14 160 = true := by kernel_rfl
theorem f15_160_14 : fine 15 14 160 = true := by kernel_rfl
theorem m15 : answers (mayRun 15) isNone = true := by kernel_rfl
theorem s13_15 : answers (sameRun 13 15) isTrue = true := by kernel_rfl
theorem s15_15 : answers (sameRun 15 15) isTrue = true := by kernel_rfl
theorem f13_100_15 : fine 13 15 100 = true := by kernel_rfl
theorem f13_160_15 : fine 13 15 160 = true := by kernel_rfl
theorem f15_160_15 : fine 15 15 160 = true := by kernel_rfl
theorem may_part1 (n : Nat) (h1 : 8 ≤ n) (h2 : n < 16) : answers (mayRun n) isNone = true := by
  rcases (by omega : n = 8 ∨ n = 9 ∨ n = 10 ∨ n = 11 ∨ n = 12 ∨ n = 13 ∨ n = 14 ∨ n = 15) with rfl | rfl | rfl | rfl | rfl | rfl | rfl | rfl
  · exact m8
  · exact m9
  · exact m10
  · exact m11
  · exact m12
  · exact m13
  · exact m14
  · exact m15
theorem same13_part1 (n : Nat) (h1 : 8 ≤ n) (h2 : n < 16) : answers (sameRun 13 n) isTrue = true := by
  rcases (by omega : n = 8 ∨ n = 9 ∨ n = 10 ∨ n = 11 ∨ n = 12 ∨ n = 13 ∨ n = 14 ∨ n = 15) with rfl | rfl | rfl | rfl | rfl | rfl | rfl | rfl
  · exact s13_8
  · exact s13_9
  · exact s13_10
  · exact s13_11
  · exact s13_12
  · exact s13_13
  · exact s13_14
  · exact s13_15
theorem same15_part1 (n : Nat) (h1 : 8 ≤ n) (h2 : n < 16) : answers (sameRun 15 n) isTrue = true := by
  rcases (by omega : n = 8 ∨ n = 9 ∨ n = 10 ∨ n = 11 ∨ n = 12 ∨ n = 13 ∨ n = 14 ∨ n = 15) with rfl | rfl | rfl | rfl | rfl | rfl | rfl | rfl
  · exact s15_8
  · exact s15_9
  · exact s15_10
  · exact s15_11
  · exact s15_12
  · exact s15_13
  · exact s15_14
  · exact s15_15
theorem fine13_100_part1 (n : Nat) (h1 : 8 ≤ n) (h2 : n < 16) : fine 13 n 100 = true := by
  rcases (by omega : n = 8 ∨ n = 9 ∨ n = 10 ∨ n = 11 ∨ n = 12 ∨ n = 13 ∨ n = 14 ∨ n = 15) with rfl | rfl | rfl | rfl | rfl | rfl | rfl | rfl
  · exact f13_100_8
  · exact f13_100_9
  · exact f13_100_10
  · exact f13_100_11
  · exact f13_100_12
  · exact f13_100_13
  · exact f13_100_14
  · exact f13_100_15
theorem fine13_160_part1 (n : Nat) (h1 : 8 ≤ n) (h2 : n < 16) : fine 13 n 160 = true := by
  rcases (by omega : n = 8 ∨ n = 9 ∨ n = 10 ∨ n = 11 ∨ n = 12 ∨ n = 13 ∨ n = 14 ∨ n = 15) with rfl | rfl | rfl | rfl | rfl | rfl | rfl | rfl
  · exact f13_160_8
  · exact f13_160_9
  · exact f13_160_10
  · exact f13_160_11
  · exact f13_160_12
  · exact f13_160_13
  · exact f13_160_14
  · exact f13_160_15
theorem fine15_160_part1 (n : Nat) (h1 : 8 ≤ n) (h2 : n < 16) : fine 15 n 160 = true := by
  rcases (by omega : n = 8 ∨ n = 9 ∨ n = 10 ∨ n = 11 ∨ n = 12 ∨ n = 13 ∨ n = 14 ∨ n = 15) with rfl | rfl | rfl | rfl | rfl | rfl | rfl | rfl
  · exact f15_160_8
  · exact f15_160_9
  · exact f15_160_10
  · exact f15_160_11
  · exact f15_160_12
  · exact f15_160_13
  · exact f15_160_14
  · exact f15_160_15
end Go.Proofs.SA
