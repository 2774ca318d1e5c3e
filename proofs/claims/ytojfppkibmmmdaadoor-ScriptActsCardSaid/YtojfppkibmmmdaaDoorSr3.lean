/- Proved: the patterns of the numbers 24 to 31 may be, and both texts have the same ones. Conditions: none. -/
import Derived.Test.YtojfppkibmmmdaaDoorSg
set_option linter.unusedVariables false
set_option linter.unusedSimpArgs false
namespace Go.Proofs.SA
open Go.Ai
theorem m24 : answers (mayRun 24) isNone = true := by kernel_rfl
theorem s13_24 : answers (sameRun 13 24) isTrue = true := by kernel_rfl
theorem s15_24 : answers (sameRun 15 24) isTrue = true := by kernel_rfl
theorem f13_100_24 : fine 13 24 100 = true := by kernel_rfl
theorem f13_160_24 : fine 13 24 160 = true := by kernel_rfl
theorem f15_160_24 : fine 15 24 160 = true := by kernel_rfl
theorem m25 : answers (mayRun 25) isNone = true := by kernel_rfl
theorem s13_25 : answers (sameRun 13 25) isTrue = true := by kernel_rfl
theorem s15_25 : answers (sameRun 15 25) isTrue = true := by kernel_rfl
theorem f13_100_25 : fine 13 25 100 = true := by kernel_rfl
theorem f13_160_25 : fine 13 25 160 = true := by kernel_rfl
theorem f15_160_25 : fine 15 25 160 = true := by kernel_rfl
theorem m26 : answers (mayRun 26) isNone = true := by kernel_rfl
theorem s13_26 : answers (sameRun 13 26) isTrue = true := by kernel_rfl
theorem s15_26 : answers (sameRun 15 26) isTrue = true := by kernel_rfl
theorem f13_100_26 : fine 13 26 100 = true := by kernel_rfl
theorem f13_160_26 : fine 13 26 160 = true := by kernel_rfl
theorem f15_160_26 : fine 15 26 160 = true := by kernel_rfl
theorem m27 : answers (mayRun 27) isNone = true := by kernel_rfl
theorem s13_27 : answers (sameRun 13 27) isTrue = true := by kernel_rfl
theorem s15_27 : answers (sameRun 15 27) isTrue = true := by kernel_rfl
theorem f13_100_27 : fine 13 27 100 = true := by kernel_rfl
theorem f13_160_27 : fine 13 27 160 = true := by kernel_rfl
theorem f15_160_27 : fine 15 27 160 = true := by kernel_rfl
theorem m28 : answers (mayRun 28) isNone = true := by kernel_rfl
theorem s13_28 : answers (sameRun 13 28) isTrue = true := by kernel_rfl
theorem s15_28 : answers (sameRun 15 28) isTrue = true := by kernel_rfl
theorem f13_100_28 : fine 13 28 100 = true := by kernel_rfl
theorem f13_160_28 : fine 13 28 160 = true := by kernel_rfl
theorem f15_160_28 : fine 15 28 160 = true := by kernel_rfl
theorem m29 : answers (mayRun 29) isNone = true := by kernel_rfl
theorem s13_29 : answers (sameRun 13 29) isTrue = true := by kernel_rfl
theorem s15_29 : answers (sameRun 15 29) isTrue = true := by kernel_rfl
theorem f13_100_29 : fine 13 29 100 = true := by kernel_rfl
theorem f13_160_29 : fine 13 29 160 = true := by kernel_rfl
theorem f15_160_29 : fine 15 29 160 = true := by kernel_rfl
theorem m30 : answers (mayRun 30) isNone = true := by kernel_rfl
theorem s13_30 : answers (sameRun 13 30) isTrue = true := by kernel_rfl
theorem s15_30 : answers (sameRun 15 30) isTrue = true := by kernel_rfl
theorem f13_100_30 : fine 13 30 100 = true := by kernel_rfl
theorem f13_160_30 : fine 13 30 160 = true := by kernel_rfl
theorem f15_160_30 : fine 15 30 160 = true := by kernel_rfl
theorem m31 : answers (mayRun 31) isNone = true := by kernel_rfl
theorem s13_31 : answers (sameRun 13 31) isTrue = true := by kernel_rfl
theorem s15_31 : answers (sameRun 15 31) isTrue = true := by kernel_rfl
theorem f13_100_31 : fine 13 31 100 = true := by kernel_rfl
theorem f13_160_31 : fine 13 31 160 = true := by kernel_rfl
theorem f15_160_31 : fine 15 31 160 = true := by kernel_rfl
theorem may_part3 (n : Nat) (h1 : 24 ≤ n) (h2 : n < 32) : answers (mayRun n) isNone = true := by
  rcases (by omega : n = 24 ∨ n = 25 ∨ n = 26 ∨ n = 27 ∨ n = 28 ∨ n = 29 ∨ n = 30 ∨ n = 31) with rfl | rfl | rfl | rfl | rfl | rfl | rfl | rfl
  · exact m24
  · exact m25
  · exact m26
  · exact m27
  · exact m28
  · exact m29
  · exact m30
  · exact m31
theorem same13_part3 (n : Nat) (h1 : 24 ≤ n) (h2 : n < 32) : answers (sameRun 13 n) isTrue = true := by
  rcases (by omega : n = 24 ∨ n = 25 ∨ n = 26 ∨ n = 27 ∨ n = 28 ∨ n = 29 ∨ n = 30 ∨ n = 31) with rfl | rfl | rfl | rfl | rfl | rfl | rfl | rfl
  · exact s13_24
  · exact s13_25
  · exact s13_26
  · exact s13_27
  · exact s13_28
  · exact s13_29
  · exact s13_30
  · exact s13_31
theorem same15_part3 (n : Nat) (h1 : 24 ≤ n) (h2 : n < 32) : answers (sameRun 15 n) isTrue = true := by
  rcases (by omega : n = 24 ∨ n = 25 ∨ n = 26 ∨ n = 27 ∨ n = 28 ∨ n = 29 ∨ n = 30 ∨ n = 31) with rfl | rfl | rfl | rfl | rfl | rfl | rfl | rfl
  · exact s15_24
  · exact s15_25
  · exact s15_26
  · exact s15_27
  · exact s15_28
  · exact s15_29
  · exact s15_30
  · exact s15_31
theorem fine13_100_part3 (n : Nat) (h1 : 24 ≤ n) (h2 : n < 32) : fine 13 n 100 = true := by
  rcases (by omega : n = 24 ∨ n = 25 ∨ n = 26 ∨ n = 27 ∨ n = 28 ∨ n = 29 ∨ n = 30 ∨ n = 31) with rfl | rfl | rfl | rfl | rfl | rfl | rfl | rfl
  · exact f13_100_24
  · exact f13_100_25
  · exact f13_100_26
  · exact f13_100_27
  · exact f13_100_28
  · exact f13_100_29
  · exact f13_100_30
  · exact f13_100_31
theorem fine13_160_part3 (n : Nat) (h1 : 24 ≤ n) (h2 : n < 32) : fine 13 n 160 = true := by
  rcases (by omega : n = 24 ∨ n = 25 ∨ n = 26 ∨ n = 27 ∨ n = 28 ∨ n = 29 ∨ n = 30 ∨ n = 31) with rfl | rfl | rfl | rfl | rfl | rfl | rfl | rfl
  · exact f13_160_24
  · exact f13_160_25
  · exact f13_160_26
  · exact f13_160_27
  · exact f13_160_28
  · exact f13_160_29
  · exact f13_160_30
  · exact f13_160_31
theorem fine15_160_part3 (n : Nat) (h1 : 24 ≤ n) (h2 : n < 32) : fine 15 n 160 = true := by
  rcases (by omega : n = 24 ∨ n = 25 ∨ n = 26 ∨ n = 27 ∨ n = 28 ∨ n = 29 ∨ n = 30 ∨ n = 31) with rfl | rfl | rfl | rfl | rfl | rfl | rfl | rfl
  · exact f15_160_24
  · exact f15_160_25
  · exact f15_160_26
  · exact f15_160_27
  · exact f15_160_28
  · exact f15_160_29
  · exact f15_160_30
  · exact f15_160_31
end Go.Proofs.SA
