/- Proved: which numbers have one pattern, numbers 0 to 63. Conditions: none. -/
import Derived.Test.YtojfppkibmmmdaaDoorSg
set_option linter.unusedVariables false
set_option linter.unusedSimpArgs false
namespace Go.Proofs.SA
open Go.Ai
theorem e13_100_32 : pic 13 32 100 = pic 13 0 100 := by kernel_rfl
theorem e13_100_33 : pic 13 33 100 = pic 13 1 100 := by kernel_rfl
theorem e13_100_34 : pic 13 34 100 = pic 13 2 100 := by kernel_rfl
theorem e13_100_35 : pic 13 35 100 = pic 13 3 100 := by kernel_rfl
theorem e13_100_36 : pic 13 36 100 = pic 13 4 100 := by kernel_rfl
theorem e13_100_37 : pic 13 37 100 = pic 13 5 100 := by kernel_rfl
theorem e13_100_38 : pic 13 38 100 = pic 13 6 100 := by kernel_rfl
theorem e13_100_39 : pic 13 39 100 = pic 13 7 100 := by kernel_rfl
theorem e13_100_40 : pic 13 40 100 = pic 13 8 100 := by kernel_rfl
theorem e13_100_41 : pic 13 41 100 = pic 13 9 100 := by kernel_rfl
theorem e13_100_42 : pic 13 42 100 = pic 13 10 100 := by kernel_rfl
theorem e13_100_43 : pic 13 43 100 = pic 13 11 100 := by kernel_rfl
theorem e13_100_44 : pic 13 44 100 = pic 13 12 100 := by kernel_rfl
theorem e13_100_45 : pic 13 45 100 = pic 13 13 100 := by kernel_rfl
theorem e13_100_46 : pic 13 46 100 = pic 13 14 100 := by kernel_rfl
theorem e13_100_47 : pic 13 47 100 = pic 13 15 100 := by kernel_rfl
theorem e13_100_48 : pic 13 48 100 = pic 13 16 100 := by kernel_rfl
theorem e13_100_49 : pic 13 49 100 = pic 13 17 100 := by kernel_rfl
theorem e13_100_50 : pic 13 50 100 = pic 13 18 100 := by kernel_rfl
theorem e13_100_51 : pic 13 51 100 = pic 13 19 100 := by kernel_rfl
theorem e13_100_52 : pic 13 52 100 = pic 13 20 100 := by kernel_rfl
theorem e13_100_53 : pic 13 53 100 = pic 13 21 100 := by kernel_rfl
theorem e13_100_54 : pic 13 54 100 = pic 13 22 100 := by kernel_rfl
theorem e13_100_55 : pic 13 55 100 = pic 13 23 100 := by kernel_rfl
theorem e13_100_56 : pic 13 56 100 = pic 13 24 100 := by kernel_rfl
theorem e13_100_57 : pic 13 57 100 = pic 13 25 100 := by kernel_rfl
theorem e13_100_58 : pic 13 58 100 = pic 13 26 100 := by kernel_rfl
theorem e13_100_59 : pic 13 59 100 = pic 13 27 100 := by kernel_rfl
theorem e13_100_60 : pic 13 60 100 = pic 13 28 100 := by kernel_rfl
theorem e13_100_61 : pic 13 61 100 = pic 13 29 100 := by kernel_rfl
theorem e13_100_62 : pic 13 62 100 = pic 13 30 100 := by kernel_rfl
theorem e13_100_63 : pic 13 63 100 = pic 13 31 100 := by kernel_rfl
theorem e13_100_part0 (n : Nat) (h1 : 0 ≤ n) (h2 : n < 32) : pic 13 n 100 = pic 13 (n % 32) 100 := by
  rw [Nat.mod_eq_of_lt h2]
theorem e13_100_part1 (n : Nat) (h1 : 32 ≤ n) (h2 : n < 64) : pic 13 n 100 = pic 13 (n % 32) 100 := by
  rcases (by omega : n = 32 ∨ n = 33 ∨ n = 34 ∨ n = 35 ∨ n = 36 ∨ n = 37 ∨ n = 38 ∨ n = 39 ∨ n = 40 ∨ n = 41 ∨ n = 42 ∨ n = 43 ∨ n = 44 ∨ n = 45 ∨ n = 46 ∨ n = 47 ∨ n = 48 ∨ n = 49 ∨ n = 50 ∨ n = 51 ∨ n = 52 ∨ n = 53 ∨ n = 54 ∨ n = 55 ∨ n = 56 ∨ n = 57 ∨ n = 58 ∨ n = 59 ∨ n = 60 ∨ n = 61 ∨ n = 62 ∨ n = 63) with rfl | rfl | rfl | rfl | rfl | rfl | rfl | rfl | rfl | rfl | rfl | rfl | rfl | rfl | rfl | rfl | rfl | rfl | rfl | rfl | rfl | rfl | rfl | rfl | rfl | rfl | rfl | rfl | rfl | rfl | rfl | rfl
  · exact e13_100_32
  · exact e13_100_33
  · exact e13_100_34
  · exact e13_100_35
  · exact e13_100_36
  · exact e13_100_37
  · exact e13_100_38
  · exact e13_100_39
  · exact e13_100_40
  · exact e13_100_41
  · exact e13_100_42
  · exact e13_100_43
  · exact e13_100_44
  · exact e13_100_45
  · exact e13_100_46
  · exact e13_100_47
  · exact e13_100_48
  · exact e13_100_49
  · exact e13_100_50
  · exact e13_100_51
  · exact e13_100_52
  · exact e13_100_53
  · exact e13_100_54
  · exact e13_100_55
  · exact e13_100_56
  · exact e13_100_57
  · exact e13_100_58
  · exact e13_100_59
  · exact e13_100_60
  · exact e13_100_61
  · exact e13_100_62
  · exact e13_100_63
theorem e13_160_32 : pic 13 32 160 = pic 13 0 160 := by kernel_rfl
theorem e13_160_33 : pic 13 33 160 = pic 13 1 160 := by kernel_rfl
theorem e13_160_34 : pic 13 34 160 = pic 13 2 160 := by kernel_rfl
theorem e13_160_35 : pic 13 35 160 = pic 13 3 160 := by kernel_rfl
theorem e13_160_36 : pic 13 36 160 = pic 13 4 160 := by kernel_rfl
theorem e13_160_37 : pic 13 37 160 = pic 13 5 160 := by kernel_rfl
theorem e13_160_38 : pic 13 38 160 = pic 13 6 160 := by kernel_rfl
theorem e13_160_39 : pic 13 39 160 = pic 13 7 160 := by kernel_rfl
theorem e13_160_40 : pic 13 40 160 = pic 13 8 160 := by kernel_rfl
theorem e13_160_41 : pic 13 41 160 = pic 13 9 160 := by kernel_rfl
theorem e13_160_42 : pic 13 42 160 = pic 13 10 160 := by kernel_rfl
theorem e13_160_43 : pic 13 43 160 = pic 13 11 160 := by kernel_rfl
theorem e13_160_44 : pic 13 44 160 = pic 13 12 160 := by kernel_rfl
theorem e13_160_45 : pic 13 45 160 = pic 13 13 160 := by kernel_rfl
theorem e13_160_46 : pic 13 46 160 = pic 13 14 160 := by kernel_rfl
theorem e13_160_47 : pic 13 47 160 = pic 13 15 160 := by kernel_rfl
theorem e13_160_48 : pic 13 48 160 = pic 13 16 160 := by kernel_rfl
theorem e13_160_49 : pic 13 49 160 = pic 13 17 160 := by kernel_rfl
theorem e13_160_50 : pic 13 50 160 = pic 13 18 160 := by kernel_rfl
theorem e13_160_51 : pic 13 51 160 = pic 13 19 160 := by kernel_rfl
theorem e13_160_52 : pic 13 52 160 = pic 13 20 160 := by kernel_rfl
theorem e13_160_53 : pic 13 53 160 = pic 13 21 160 := by kernel_rfl
theorem e13_160_54 : pic 13 54 160 = pic 13 22 160 := by kernel_rfl
theorem e13_160_55 : pic 13 55 160 = pic 13 23 160 := by kernel_rfl
theorem e13_160_56 : pic 13 56 160 = pic 13 24 160 := by kernel_rfl
theorem e13_160_57 : pic 13 57 160 = pic 13 25 160 := by kernel_rfl
theorem e13_160_58 : pic 13 58 160 = pic 13 26 160 := by kernel_rfl
theorem e13_160_59 : pic 13 59 160 = pic 13 27 160 := by kernel_rfl
theorem e13_160_60 : pic 13 60 160 = pic 13 28 160 := by kernel_rfl
theorem e13_160_61 : pic 13 61 160 = pic 13 29 160 := by kernel_rfl
theorem e13_160_62 : pic 13 62 160 = pic 13 30 160 := by kernel_rfl
theorem e13_160_63 : pic 13 63 160 = pic 13 31 160 := by kernel_rfl
theorem e13_160_part0 (n : Nat) (h1 : 0 ≤ n) (h2 : n < 32) : pic 13 n 160 = pic 13 (n % 32) 160 := by
  rw [Nat.mod_eq_of_lt h2]
theorem e13_160_part1 (n : Nat) (h1 : 32 ≤ n) (h2 : n < 64) : pic 13 n 160 = pic 13 (n % 32) 160 := by
  rcases (by omega : n = 32 ∨ n = 33 ∨ n = 34 ∨ n = 35 ∨ n = 36 ∨ n = 37 ∨ n = 38 ∨ n = 39 ∨ n = 40 ∨ n = 41 ∨ n = 42 ∨ n = 43 ∨ n = 44 ∨ n = 45 ∨ n = 46 ∨ n = 47 ∨ n = 48 ∨ n = 49 ∨ n = 50 ∨ n = 51 ∨ n = 52 ∨ n = 53 ∨ n = 54 ∨ n = 55 ∨ n = 56 ∨ n = 57 ∨ n = 58 ∨ n = 59 ∨ n = 60 ∨ n = 61 ∨ n = 62 ∨ n = 63) with rfl | rfl | rfl | rfl | rfl | rfl | rfl | rfl | rfl | rfl | rfl | rfl | rfl | rfl | rfl | rfl | rfl | rfl | rfl | rfl | rfl | rfl | rfl | rfl | rfl | rfl | rfl | rfl | rfl | rfl | rfl | rfl
  · exact e13_160_32
  · exact e13_160_33
  · exact e13_160_34
  · exact e13_160_35
  · exact e13_160_36
  · exact e13_160_37
  · exact e13_160_38
  · exact e13_160_39
  · exact e13_160_40
  · exact e13_160_41
  · exact e13_160_42
  · exact e13_160_43
  · exact e13_160_44
  · exact e13_160_45
  · exact e13_160_46
  · exact e13_160_47
  · exact e13_160_48
  · exact e13_160_49
  · exact e13_160_50
  · exact e13_160_51
  · exact e13_160_52
  · exact e13_160_53
  · exact e13_160_54
  · exact e13_160_55
  · exact e13_160_56
  · exact e13_160_57
  · exact e13_160_58
  · exact e13_160_59
  · exact e13_160_60
  · exact e13_160_61
  · exact e13_160_62
  · exact e13_160_63
theorem e15_160_32 : pic 15 32 160 = pic 15 0 160 := by kernel_rfl
theorem e15_160_33 : pic 15 33 160 = pic 15 1 160 := by kernel_rfl
theorem e15_160_34 : pic 15 34 160 = pic 15 2 160 := by kernel_rfl
theorem e15_160_35 : pic 15 35 160 = pic 15 3 160 := by kernel_rfl
theorem e15_160_36 : pic 15 36 160 = pic 15 4 160 := by kernel_rfl
theorem e15_160_37 : pic 15 37 160 = pic 15 5 160 := by kernel_rfl
theorem e15_160_38 : pic 15 38 160 = pic 15 6 160 := by kernel_rfl
theorem e15_160_39 : pic 15 39 160 = pic 15 7 160 := by kernel_rfl
theorem e15_160_40 : pic 15 40 160 = pic 15 8 160 := by kernel_rfl
theorem e15_160_41 : pic 15 41 160 = pic 15 9 160 := by kernel_rfl
theorem e15_160_42 : pic 15 42 160 = pic 15 10 160 := by kernel_rfl
theorem e15_160_43 : pic 15 43 160 = pic 15 11 160 := by kernel_rfl
theorem e15_160_44 : pic 15 44 160 = pic 15 12 160 := by kernel_rfl
theorem e15_160_45 : pic 15 45 160 = pic 15 13 160 := by kernel_rfl
theorem e15_160_46 : pic 15 46 160 = pic 15 14 160 := by kernel_rfl
theorem e15_160_47 : pic 15 47 160 = pic 15 15 160 := by kernel_rfl
theorem e15_160_48 : pic 15 48 160 = pic 15 16 160 := by kernel_rfl
theorem e15_160_49 : pic 15 49 160 = pic 15 17 160 := by kernel_rfl
theorem e15_160_50 : pic 15 50 160 = pic 15 18 160 := by kernel_rfl
theorem e15_160_51 : pic 15 51 160 = pic 15 19 160 := by kernel_rfl
theorem e15_160_52 : pic 15 52 160 = pic 15 20 160 := by kernel_rfl
theorem e15_160_53 : pic 15 53 160 = pic 15 21 160 := by kernel_rfl
theorem e15_160_54 : pic 15 54 160 = pic 15 22 160 := by kernel_rfl
theorem e15_160_55 : pic 15 55 160 = pic 15 23 160 := by kernel_rfl
theorem e15_160_56 : pic 15 56 160 = pic 15 24 160 := by kernel_rfl
theorem e15_160_57 : pic 15 57 160 = pic 15 25 160 := by kernel_rfl
theorem e15_160_58 : pic 15 58 160 = pic 15 26 160 := by kernel_rfl
theorem e15_160_59 : pic 15 59 160 = pic 15 27 160 := by kernel_rfl
theorem e15_160_60 : pic 15 60 160 = pic 15 28 160 := by kernel_rfl
theorem e15_160_61 : pic 15 61 160 = pic 15 29 160 := by kernel_rfl
theorem e15_160_62 : pic 15 62 160 = pic 15 30 160 := by kernel_rfl
theorem e15_160_63 : pic 15 63 160 = pic 15 31 160 := by kernel_rfl
theorem e15_160_part0 (n : Nat) (h1 : 0 ≤ n) (h2 : n < 32) : pic 15 n 160 = pic 15 (n % 32) 160 := by
  rw [Nat.mod_eq_of_lt h2]
theorem e15_160_part1 (n : Nat) (h1 : 32 ≤ n) (h2 : n < 64) : pic 15 n 160 = pic 15 (n % 32) 160 := by
  rcases (by omega : n = 32 ∨ n = 33 ∨ n = 34 ∨ n = 35 ∨ n = 36 ∨ n = 37 ∨ n = 38 ∨ n = 39 ∨ n = 40 ∨ n = 41 ∨ n = 42 ∨ n = 43 ∨ n = 44 ∨ n = 45 ∨ n = 46 ∨ n = 47 ∨ n = 48 ∨ n = 49 ∨ n = 50 ∨ n = 51 ∨ n = 52 ∨ n = 53 ∨ n = 54 ∨ n = 55 ∨ n = 56 ∨ n = 57 ∨ n = 58 ∨ n = 59 ∨ n = 60 ∨ n = 61 ∨ n = 62 ∨ n = 63) with rfl | rfl | rfl | rfl | rfl | rfl | rfl | rfl | rfl | rfl | rfl | rfl | rfl | rfl | rfl | rfl | rfl | rfl | rfl | rfl | rfl | rfl | rfl | rfl | rfl | rfl | rfl | rfl | rfl | rfl | rfl | rfl
  · exact e15_160_32
  · exact e15_160_33
  · exact e15_160_34
  · exact e15_160_35
  · exact e15_160_36
  · exact e15_160_37
  · exact e15_160_38
  · exact e15_160_39
  · exact e15_160_40
  · exact e15_160_41
  · exact e15_160_42
  · exact e15_160_43
  · exact e15_160_44
  · exact e15_160_45
  · exact e15_160_46
  · exact e15_160_47
  · exact e15_160_48
  · exact e15_160_49
  · exact e15_160_50
  · exact e15_160_51
  · exact e15_160_52
  · exact e15_160_53
  · exact e15_160_54
  · exact e15_160_55
  · exact e15_160_56
  · exact e15_160_57
  · exact e15_160_58
  · exact e15_160_59
  · exact e15_160_60
  · exact e15_160_61
  · exact e15_160_62
  · exact e15_160_63
end Go.Proofs.SA
