/- Proved: the patterns of the numbers 0 to 7 may be, and both texts have the same ones. Conditions: none. -/
import Derived.Test.YtojfppkibmmmdaaDoorSg
set_option linter.unusedVariables false
set_option linter.unusedSimpArgs false
namespace Go.Proofs.SA
open Go.Ai
theorem m0 : answers (mayRun 0) isNone = true := by kernel_rfl
theorem s13_0 : answers (sameRun 13 0) isTrue = true := by kernel_rfl
theorem s15_0 : answers (sameRun 15 0) isTrue = true := by kernel_rfl
theorem f13_100_0 : fine 13 0 100 = true := by kernel_rfl
theorem f13_160_0 : fine 13 0 160 = true := by kernel_rfl
theorem f15_160_0 : fine 15 0 160 = true := by kernel_rfl
theorem m1 : answers (mayRun 1) isNone = true := by kernel_rfl
theorem s13_1 : answers (sameRun 13 1) isTrue = true := by kernel_rfl
theorem s15_1 : answers (sameRun 15 1) isTrue = true := by kernel_rfl
theorem f13_100_1 : fine 13 1 100 = true := by kernel_rfl
theorem f13_160_1 : fine 13 1 160 = true := by kernel_rfl
theorem f15_160_1 : fine 15 1 160 = true := by kernel_rfl
theorem m2 : answers (mayRun 2) isNone = true := by kernel_rfl
theorem s13_2 : answers (sameRun 13 2) isTrue = true := by kernel_rfl
theorem s15_2 : answers (sameRun 15 2) isTrue = true := by kernel_rfl
theorem f13_100_2 : fine 13 2 100 = true := by kernel_rfl
theorem f13_160_2 : fine 13 2 160 = true := by kernel_rfl
theorem f15_160_2 : fine 15 2 160 = true := by kernel_rfl
theorem m3 : answers (mayRun 3) isNone = true := by kernel_rfl
theorem s13_3 : answers (sameRun 13 3) isTrue = true := by kernel_rfl
theorem s15_3 : answers (sameRun 15 3) isTrue = true := by kernel_rfl
theorem f13_100_3 : fine 13 3 100 = true := by kernel_rfl
theorem f13_160_3 : fine 13 3 160 = true := by kernel_rfl
theorem f15_160_3 : fine 15 3 160 = true := by kernel_rfl
theorem m4 : answers (mayRun 4) isNone = true := by kernel_rfl
theorem s13_4 : answers (sameRun 13 4) isTrue = true := by kernel_rfl
theorem s15_4 : answers (sameRun 15 4) isTrue = true := by kernel_rfl
theorem f13_100_4 : fine 13 4 100 = true := by kernel_rfl
theorem f13_160_4 : fine 13 4 160 = true := by kernel_rfl
theorem f15_160_4 : fine 15 4 160 = true := by kernel_rfl
theorem m5 : answers (mayRun 5) isNone = true := by kernel_rfl
theorem s13_5 : answers (sameRun 13 5) isTrue = true := by kernel_rfl
theorem s15_5 : answers (sameRun 15 5) isTrue = true := by kernel_rfl
theorem f13_100_5 : fine 13 5 100 = true := by kernel_rfl
theorem f13_160_5 : fine 13 5 160 = true := by kernel_rfl
theorem f15_160_5 : fine 15 5 160 = true := by kernel_rfl
theorem m6 : answers (mayRun 6) isNone = true := by kernel_rfl
theorem s13_6 : answers (sameRun 13 6) isTrue = true := by kernel_rfl
theorem s15_6 : answers (sameRun 15 6) isTrue = true := by kernel_rfl
theorem f13_100_6 : fine 13 6 100 = true := by kernel_rfl
theorem f13_160_6 : fine 13 6 160 = true := by kernel_rfl
theorem f15_160_6 : fine 15 6 160 = true := by kernel_rfl
theorem m7 : answers (mayRun 7) isNone = true := by kernel_rfl
theorem s13_7 : answers (sameRun 13 7) isTrue = true := by kernel_rfl
theorem s15_7 : answers (sameRun 15 7) isTrue = true := by kernel_rfl
theorem f13_100_7 : fine 13 7 100 = true := by kernel_rfl
theorem f13_160_7 : fine 13 7 160 = true := by kernel_rfl
theorem f15_160_7 : fine 15 7 160 = true := by kernel_rfl
theorem may_part0 (n : Nat) (h1 : 0 ≤ n) (h2 : n < 8) : answers (mayRun n) isNone = true := by
  rcases (by omega : n = 0 ∨ n = 1 ∨ n = 2 ∨ n = 3 ∨ n = 4 ∨ n = 5 ∨ n = 6 ∨ n = 7) with rfl | rfl | rfl | rfl | rfl | rfl | rfl | rfl
  · exact m0
  · exact m1
  · exact m2
  · exact m3
  · exact m4
  · exact m5
  · exact m6
  · exact m7
theorem same13_part0 (n : Nat) (h1 : 0 ≤ n) (h2 : n < 8) : answers (sameRun 13 n) isTrue = true := by
  rcases (by omega : n = 0 ∨ n = 1 ∨ n = 2 ∨ n = 3 ∨ n = 4 ∨ n = 5 ∨ n = 6 ∨ n = 7) with rfl | rfl | rfl | rfl | rfl | rfl | rfl | rfl
  · exact s13_0
  · exact s13_1
  · exact s13_2
  · exact s13_3
  · exact s13_4
  · exact s13_5
  · exact s13_6
  · exact s13_7
theorem same15_part0 (n : Nat) (h1 : 0 ≤ n) (h2 : n < 8) : answers (sameRun 15 n) isTrue = true := by
  rcases (by omega : n = 0 ∨ n = 1 ∨ n = 2 ∨ n = 3 ∨ n = 4 ∨ n = 5 ∨ n = 6 ∨ n = 7) with rfl | rfl | rfl | rfl | rfl | rfl | rfl | rfl
  · exact s15_0
  · exact s15_1
  · exact s15_2
  · exact s15_3
  · exact s15_4
  · exact s15_5
  · exact s15_6
  · exact s15_7
theorem fine13_100_part0 (n : Nat) (h1 : 0 ≤ n) (h2 : n < 8) : fine 13 n 100 = true := by
  rcases (by omega : n = 0 ∨ n = 1 ∨ n = 2 ∨ n = 3 ∨ n = 4 ∨ n = 5 ∨ n = 6 ∨ n = 7) with rfl | rfl | rfl | rfl | rfl | rfl | rfl | rfl
  · exact f13_100_0
  · exact f13_100_1
  · exact f13_100_2
  · exact f13_100_3
  · exact f13_100_4
  · exact f13_100_5
  · exact f13_100_6
  · exact f13_100_7
theorem fine13_160_part0 (n : Nat) (h1 : 0 ≤ n) (h2 : n < 8) : fine 13 n 160 = true := by
  rcases (by omega : n = 0 ∨ n = 1 ∨ n = 2 ∨ n = 3 ∨ n = 4 ∨ n = 5 ∨ n = 6 ∨ n = 7) with rfl | rfl | rfl | rfl | rfl | rfl | rfl | rfl
  · exact f13_160_0
  · exact f13_160_1
  · exact f13_160_2
  · exact f13_160_3
  · exact f13_160_4
  · exact f13_160_5
  · exact f13_160_6
  · exact f13_160_7
theorem fine15_160_part0 (n : Nat) (h1 : 0 ≤ n) (h2 : n < 8) : fine 15 n 160 = true := by
  rcases (by omega : n = 0 ∨ n = 1 ∨ n = 2 ∨ n = 3 ∨ n = 4 ∨ n = 5 ∨ n = 6 ∨ n = 7) with rfl | rfl | rfl | rfl | rfl | rfl | rfl | rfl
  · exact f15_160_0
  · exact f15_160_1
  · exact f15_160_2
  · exact f15_160_3
  · exact f15_160_4
  · exact f15_160_5
  · exact f15_160_6
  · exact f15_160_7
end Go.Proofs.SA
