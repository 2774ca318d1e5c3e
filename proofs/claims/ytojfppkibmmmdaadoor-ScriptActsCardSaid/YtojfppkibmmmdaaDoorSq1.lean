/- Proved: which numbers have one pattern, numbers 64 to 127. Conditions: none. -/
import Derived.Test.YtojfppkibmmmdaaDoorSg
set_option linter.unusedVariables false
set_option linter.unusedSimpArgs false
namespace Go.Proofs.SA
open Go.Ai
theorem e13_100_64 : pic 13 64 100 = pic 13 0 100 := by kernel_rfl
theorem e13_100_65 : pic 13 65 100 = pic 13 1 100 := by kernel_rfl
theorem e13_100_66 : pic 13 66 100 = pic 13 2 100 := by kernel_rfl
theorem e13_100_67 : pic 13 67 100 = pic 13 3 100 := by kernel_rfl
theorem e13_100_68 : pic 13 68 100 = pic 13 4 100 := by kernel_rfl
theorem e13_100_69 : pic 13 69 100 = pic 13 5 100 := by kernel_rfl
theorem e13_100_70 : pic 13 70 100 = pic 13 6 100 := by kernel_rfl
theorem e13_100_71 : pic 13 71 100 = pic 13 7 100 := by kernel_rfl
theorem e13_100_72 : pic 13 72 100 = pic 13 8 100 := by kernel_rfl
theorem e13_100_73 : pic 13 73 100 = pic 13 9 100 := by kernel_rfl
theorem e13_100_74 : pic 13 74 100 = pic 13 10 100 := by kernel_rfl
theorem e13_100_75 : pic 13 75 100 = pic 13 11 100 := by kernel_rfl
theorem e13_100_76 : pic 13 76 100 = pic 13 12 100 := by kernel_rfl
theorem e13_100_77 : pic 13 77 100 = pic 13 13 100 := by kernel_rfl
theorem e13_100_78 : pic 13 78 100 = pic 13 14 100 := by kernel_rfl
theorem e13_100_79 : pic 13 79 100 = pic 13 15 100 := by kernel_rfl
theorem e13_100_80 : pic 13 80 100 = pic 13 16 100 := by kernel_rfl
theorem e13_100_81 : pic 13 81 100 = pic 13 17 100 := by kernel_rfl
theorem e13_100_82 : pic 13 82 100 = pic 13 18 100 := by kernel_rfl
theorem e13_100_83 : pic 13 83 100 = pic 13 19 100 := by kernel_rfl
theorem e13_100_84 : pic 13 84 100 = pic 13 20 100 := by kernel_rfl
theorem e13_100_85 : pic 13 85 100 = pic 13 21 100 := by kernel_rfl
theorem e13_100_86 : pic 13 86 100 = pic 13 22 100 := by kernel_rfl
theorem e13_100_87 : pic 13 87 100 = pic 13 23 100 := by kernel_rfl
theorem e13_100_88 : pic 13 88 100 = pic 13 24 100 := by kernel_rfl
theorem e13_100_89 : pic 13 89 100 = pic 13 25 100 := by kernel_rfl
theorem e13_100_90 : pic 13 90 100 = pic 13 26 100 := by kernel_rfl
theorem e13_100_91 : pic 13 91 100 = pic 13 27 100 := by kernel_rfl
theorem e13_100_92 : pic 13 92 100 = pic 13 28 100 := by kernel_rfl
theorem e13_100_93 : pic 13 93 100 = pic 13 29 100 := by kernel_rfl
theorem e13_100_94 : pic 13 94 100 = pic 13 30 100 := by kernel_rfl
theorem e13_100_95 : pic 13 95 100 = pic 13 31 100 := by kernel_rfl
theorem e13_100_96 : pic 13 96 100 = pic 13 0 100 := by kernel_rfl
theorem e13_100_97 : pic 13 97 100 = pic 13 1 100 := by kernel_rfl
theorem e13_100_98 : pic 13 98 100 = pic 13 2 100 := by kernel_rfl
theorem e13_100_99 : pic 13 99 100 = pic 13 3 100 := by kernel_rfl
theorem e13_100_100 : pic 13 100 100 = pic 13 4 100 := by kernel_rfl
theorem e13_100_101 : pic 13 101 100 = pic 13 5 100 := by kernel_rfl
theorem e13_100_102 : pic 13 102 100 = pic 13 6 100 := by kernel_rfl
theorem e13_100_103 : pic 13 103 100 = pic 13 7 100 := by kernel_rfl
theorem e13_100_104 : pic 13 104 100 = pic 13 8 100 := by kernel_rfl
theorem e13_100_105 : pic 13 105 100 = pic 13 9 100 := by kernel_rfl
theorem e13_100_106 : pic 13 106 100 = pic 13 10 100 := by kernel_rfl
theorem e13_100_107 : pic 13 107 100 = pic 13 11 100 := by kernel_rfl
theorem e13_100_108 : pic 13 108 100 = pic 13 12 100 := by kernel_rfl
theorem e13_100_109 : pic 13 109 100 = pic 13 13 100 := by kernel_rfl
theorem e13_100_110 : pic 13 110 100 = pic 13 14 100 := by kernel_rfl
theorem e13_100_111 : pic 13 111 100 = pic 13 15 100 := by kernel_rfl
theorem e13_100_112 : pic 13 112 100 = pic 13 16 100 := by kernel_rfl
theorem e13_100_113 : pic 13 113 100 = pic 13 17 100 := by kernel_rfl
theorem e13_100_114 : pic 13 114 100 = pic 13 18 100 := by kernel_rfl
theorem e13_100_115 : pic 13 115 100 = pic 13 19 100 := by kernel_rfl
theorem e13_100_116 : pic 13 116 100 = pic 13 20 100 := by kernel_rfl
theorem e13_100_117 : pic 13 117 100 = pic 13 21 100 := by kernel_rfl
theorem e13_100_118 : pic 13 118 100 = pic 13 22 100 := by kernel_rfl
theorem e13_100_119 : pic 13 119 100 = pic 13 23 100 := by kernel_rfl
theorem e13_100_120 : pic 13 120 100 = pic 13 24 100 := by kernel_rfl
theorem e13_100_121 : pic 13 121 100 = pic 13 25 100 := by kernel_rfl
theorem e13_100_122 : pic 13 122 100 = pic 13 26 100 := by kernel_rfl
theorem e13_100_123 : pic 13 123 100 = pic 13 27 100 := by kernel_rfl
theorem e13_100_124 : pic 13 124 100 = pic 13 28 100 := by kernel_rfl
theorem e13_100_125 : pic 13 125 100 = pic 13 29 100 := by kernel_rfl
theorem e13_100_126 : pic 13 126 100 = pic 13 30 100 := by kernel_rfl
theorem e13_100_127 : pic 13 127 100 = pic 13 31 100 := by kernel_rfl
theorem e13_100_part2 (n : Nat) (h1 : 64 ≤ n) (h2 : n < 96) : pic 13 n 100 = pic 13 (n % 32) 100 := by
  rcases (by omega : n = 64 ∨ n = 65 ∨ n = 66 ∨ n = 67 ∨ n = 68 ∨ n = 69 ∨ n = 70 ∨ n = 71 ∨ n = 72 ∨ n = 73 ∨ n = 74 ∨ n = 75 ∨ n = 76 ∨ n = 77 ∨ n = 78 ∨ n = 79 ∨ n = 80 ∨ n = 81 ∨ n = 82 ∨ n = 83 ∨ n = 84 ∨ n = 85 ∨ n = 86 ∨ n = 87 ∨ n = 88 ∨ n = 89 ∨ n = 90 ∨ n = 91 ∨ n = 92 ∨ n = 93 ∨ n = 94 ∨ n = 95) with rfl | rfl | rfl | rfl | rfl | rfl | rfl | rfl | rfl | rfl | rfl | rfl | rfl | rfl | rfl | rfl | rfl | rfl | rfl | rfl | rfl | rfl | rfl | rfl | rfl | rfl | rfl | rfl | rfl | rfl | rfl | rfl
  · exact e13_100_64
  · exact e13_100_65
  · exact e13_100_66
  · exact e13_100_67
  · exact e13_100_68
  · exact e13_100_69
  · exact e13_100_70
  · exact e13_100_71
  · exact e13_100_72
  · exact e13_100_73
  · exact e13_100_74
  · exact e13_100_75
  · exact e13_100_76
  · exact e13_100_77
  · exact e13_100_78
  · exact e13_100_79
  · exact e13_100_80
  · exact e13_100_81
  · exact e13_100_82
  · exact e13_100_83
  · exact e13_100_84
  · exact e13_100_85
  · exact e13_100_86
  · exact e13_100_87
  · exact e13_100_88
  · exact e13_100_89
  · exact e13_100_90
  · exact e13_100_91
  · exact e13_100_92
  · exact e13_100_93
  · exact e13_100_94
  · exact e13_100_95
theorem e13_100_part3 (n : Nat) (h1 : 96 ≤ n) (h2 : n < 128) : pic 13 n 100 = pic 13 (n % 32) 100 := by
  rcases (by omega : n = 96 ∨ n = 97 ∨ n = 98 ∨ n = 99 ∨ n = 100 ∨ n = 101 ∨ n = 102 ∨ n = 103 ∨ n = 104 ∨ n = 105 ∨ n = 106 ∨ n = 107 ∨ n = 108 ∨ n = 109 ∨ n = 110 ∨ n = 111 ∨ n = 112 ∨ n = 113 ∨ n = 114 ∨ n = 115 ∨ n = 116 ∨ n = 117 ∨ n = 118 ∨ n = 119 ∨ n = 120 ∨ n = 121 ∨ n = 122 ∨ n = 123 ∨ n = 124 ∨ n = 125 ∨ n = 126 ∨ n = 127) with rfl | rfl | rfl | rfl | rfl | rfl | rfl | rfl | rfl | rfl | rfl | rfl | rfl | rfl | rfl | rfl | rfl | rfl | rfl | rfl | rfl | rfl | rfl | rfl | rfl | rfl | rfl | rfl | rfl | rfl | rfl | rfl
  · exact e13_100_96
  · exact e13_100_97
  · exact e13_100_98
  · exact e13_100_99
  · exact e13_100_100
  · exact e13_100_101
  · exact e13_100_102
  · exact e13_100_103
  · exact e13_100_104
  · exact e13_100_105
  · exact e13_100_106
  · exact e13_100_107
  · exact e13_100_108
  · exact e13_100_109
  · exact e13_100_110
  · exact e13_100_111
  · exact e13_100_112
  · exact e13_100_113
  · exact e13_100_114
  · exact e13_100_115
  · exact e13_100_116
  · exact e13_100_117
  · exact e13_100_118
  · exact e13_100_119
  · exact e13_100_120
  · exact e13_100_121
  · exact e13_100_122
  · exact e13_100_123
  · exact e13_100_124
  · exact e13_100_125
  · exact e13_100_126
  · exact e13_100_127
theorem e13_160_64 : pic 13 64 160 = pic 13 0 160 := by kernel_rfl
theorem e13_160_65 : pic 13 65 160 = pic 13 1 160 := by kernel_rfl
theorem e13_160_66 : pic 13 66 160 = pic 13 2 160 := by kernel_rfl
theorem e13_160_67 : pic 13 67 160 = pic 13 3 160 := by kernel_rfl
theorem e13_160_68 : pic 13 68 160 = pic 13 4 160 := by kernel_rfl
theorem e13_160_69 : pic 13 69 160 = pic 13 5 160 := by kernel_rfl
theorem e13_160_70 : pic 13 70 160 = pic 13 6 160 := by kernel_rfl
theorem e13_160_71 : pic 13 71 160 = pic 13 7 160 := by kernel_rfl
theorem e13_160_72 : pic 13 72 160 = pic 13 8 160 := by kernel_rfl
theorem e13_160_73 : pic 13 73 160 = pic 13 9 160 := by kernel_rfl
theorem e13_160_74 : pic 13 74 160 = pic 13 10 160 := by kernel_rfl
theorem e13_160_75 : pic 13 75 160 = pic 13 11 160 := by kernel_rfl
theorem e13_160_76 : pic 13 76 160 = pic 13 12 160 := by kernel_rfl
theorem e13_160_77 : pic 13 77 160 = pic 13 13 160 := by kernel_rfl
theorem e13_160_78 : pic 13 78 160 = pic 13 14 160 := by kernel_rfl
theorem e13_160_79 : pic 13 79 160 = pic 13 15 160 := by kernel_rfl
theorem e13_160_80 : pic 13 80 160 = pic 13 16 160 := by kernel_rfl
theorem e13_160_81 : pic 13 81 160 = pic 13 17 160 := by kernel_rfl
theorem e13_160_82 : pic 13 82 160 = pic 13 18 160 := by kernel_rfl
theorem e13_160_83 : pic 13 83 160 = pic 13 19 160 := by kernel_rfl
theorem e13_160_84 : pic 13 84 160 = pic 13 20 160 := by kernel_rfl
theorem e13_160_85 : pic 13 85 160 = pic 13 21 160 := by kernel_rfl
theorem e13_160_86 : pic 13 86 160 = pic 13 22 160 := by kernel_rfl
theorem e13_160_87 : pic 13 87 160 = pic 13 23 160 := by kernel_rfl
theorem e13_160_88 : pic 13 88 160 = pic 13 24 160 := by kernel_rfl
theorem e13_160_89 : pic 13 89 160 = pic 13 25 160 := by kernel_rfl
theorem e13_160_90 : pic 13 90 160 = pic 13 26 160 := by kernel_rfl
theorem e13_160_91 : pic 13 91 160 = pic 13 27 160 := by kernel_rfl
theorem e13_160_92 : pic 13 92 160 = pic 13 28 160 := by kernel_rfl
theorem e13_160_93 : pic 13 93 160 = pic 13 29 160 := by kernel_rfl
theorem e13_160_94 : pic 13 94 160 = pic 13 30 160 := by kernel_rfl
theorem e13_160_95 : pic 13 95 160 = pic 13 31 160 := by kernel_rfl
theorem e13_160_96 : pic 13 96 160 = pic 13 0 160 := by kernel_rfl
theorem e13_160_97 : pic 13 97 160 = pic 13 1 160 := by kernel_rfl
theorem e13_160_98 : pic 13 98 160 = pic 13 2 160 := by kernel_rfl
theorem e13_160_99 : pic 13 99 160 = pic 13 3 160 := by kernel_rfl
theorem e13_160_100 : pic 13 100 160 = pic 13 4 160 := by kernel_rfl
theorem e13_160_101 : pic 13 101 160 = pic 13 5 160 := by kernel_rfl
theorem e13_160_102 : pic 13 102 160 = pic 13 6 160 := by kernel_rfl
theorem e13_160_103 : pic 13 103 160 = pic 13 7 160 := by kernel_rfl
theorem e13_160_104 : pic 13 104 160 = pic 13 8 160 := by kernel_rfl
theorem e13_160_105 : pic 13 105 160 = pic 13 9 160 := by kernel_rfl
theorem e13_160_106 : pic 13 106 160 = pic 13 10 160 := by kernel_rfl
theorem e13_160_107 : pic 13 107 160 = pic 13 11 160 := by kernel_rfl
theorem e13_160_108 : pic 13 108 160 = pic 13 12 160 := by kernel_rfl
theorem e13_160_109 : pic 13 109 160 = pic 13 13 160 := by kernel_rfl
theorem e13_160_110 : pic 13 110 160 = pic 13 14 160 := by kernel_rfl
theorem e13_160_111 : pic 13 111 160 = pic 13 15 160 := by kernel_rfl
theorem e13_160_112 : pic 13 112 160 = pic 13 16 160 := by kernel_rfl
theorem e13_160_113 : pic 13 113 160 = pic 13 17 160 := by kernel_rfl
theorem e13_160_114 : pic 13 114 160 = pic 13 18 160 := by kernel_rfl
theorem e13_160_115 : pic 13 115 160 = pic 13 19 160 := by kernel_rfl
theorem e13_160_116 : pic 13 116 160 = pic 13 20 160 := by kernel_rfl
theorem e13_160_117 : pic 13 117 160 = pic 13 21 160 := by kernel_rfl
theorem e13_160_118 : pic 13 118 160 = pic 13 22 160 := by kernel_rfl
theorem e13_160_119 : pic 13 119 160 = pic 13 23 160 := by kernel_rfl
theorem e13_160_120 : pic 13 120 160 = pic 13 24 160 := by kernel_rfl
theorem e13_160_121 : pic 13 121 160 = pic 13 25 160 := by kernel_rfl
theorem e13_160_122 : pic 13 122 160 = pic 13 26 160 := by kernel_rfl
theorem e13_160_123 : pic 13 123 160 = pic 13 27 160 := by kernel_rfl
theorem e13_160_124 : pic 13 124 160 = pic 13 28 160 := by kernel_rfl
theorem e13_160_125 : pic 13 125 160 = pic 13 29 160 := by kernel_rfl
theorem e13_160_126 : pic 13 126 160 = pic 13 30 160 := by kernel_rfl
theorem e13_160_127 : pic 13 127 160 = pic 13 31 160 := by kernel_rfl
theorem e13_160_part2 (n : Nat) (h1 : 64 ≤ n) (h2 : n < 96) : pic 13 n 160 = pic 13 (n % 32) 160 := by
  rcases (by omega : n = 64 ∨ n = 65 ∨ n = 66 ∨ n = 67 ∨ n = 68 ∨ n = 69 ∨ n = 70 ∨ n = 71 ∨ n = 72 ∨ n = 73 ∨ n = 74 ∨ n = 75 ∨ n = 76 ∨ n = 77 ∨ n = 78 ∨ n = 79 ∨ n = 80 ∨ n = 81 ∨ n = 82 ∨ n = 83 ∨ n = 84 ∨ n = 85 ∨ n = 86 ∨ n = 87 ∨ n = 88 ∨ n = 89 ∨ n = 90 ∨ n = 91 ∨ n = 92 ∨ n = 93 ∨ n = 94 ∨ n = 95) with rfl | rfl | rfl | rfl | rfl | rfl | rfl | rfl | rfl | rfl | rfl | rfl | rfl | rfl | rfl | rfl | rfl | rfl | rfl | rfl | rfl | rfl | rfl | rfl | rfl | rfl | rfl | rfl | rfl | rfl | rfl | rfl
  · exact e13_160_64
  · exact e13_160_65
  · exact e13_160_66
  · exact e13_160_67
  · exact e13_160_68
  · exact e13_160_69
  · exact e13_160_70
  · exact e13_160_71
  · exact e13_160_72
  · exact e13_160_73
  · exact e13_160_74
  · exact e13_160_75
  · exact e13_160_76
  · exact e13_160_77
  · exact e13_160_78
  · exact e13_160_79
  · exact e13_160_80
  · exact e13_160_81
  · exact e13_160_82
  · exact e13_160_83
  · exact e13_160_84
  · exact e13_160_85
  · exact e13_160_86
  · exact e13_160_87
  · exact e13_160_88
  · exact e13_160_89
  · exact e13_160_90
  · exact e13_160_91
  · exact e13_160_92
  · exact e13_160_93
  · exact e13_160_94
  · exact e13_160_95
theorem e13_160_part3 (n : Nat) (h1 : 96 ≤ n) (h2 : n < 128) : pic 13 n 160 = pic 13 (n % 32) 160 := by
  rcases (by omega : n = 96 ∨ n = 97 ∨ n = 98 ∨ n = 99 ∨ n = 100 ∨ n = 101 ∨ n = 102 ∨ n = 103 ∨ n = 104 ∨ n = 105 ∨ n = 106 ∨ n = 107 ∨ n = 108 ∨ n = 109 ∨ n = 110 ∨ n = 111 ∨ n = 112 ∨ n = 113 ∨ n = 114 ∨ n = 115 ∨ n = 116 ∨ n = 117 ∨ n = 118 ∨ n = 119 ∨ n = 120 ∨ n = 121 ∨ n = 122 ∨ n = 123 ∨ n = 124 ∨ n = 125 ∨ n = 126 ∨ n = 127) with rfl | rfl | rfl | rfl | rfl | rfl | rfl | rfl | rfl | rfl | rfl | rfl | rfl | rfl | rfl | rfl | rfl | rfl | rfl | rfl | rfl | rfl | rfl | rfl | rfl | rfl | rfl | rfl | rfl | rfl | rfl | rfl
  · exact e13_160_96
  · exact e13_160_97
  · exact e13_160_98
  · exact e13_160_99
  · exact e13_160_100
  · exact e13_160_101
  · exact e13_160_102
  · exact e13_160_103
  · exact e13_160_104
  · exact e13_160_105
  · exact e13_160_106
  · exact e13_160_107
  · exact e13_160_108
  · exact e13_160_109
  · exact e13_160_110
  · exact e13_160_111
  · exact e13_160_112
  · exact e13_160_113
  · exact e13_160_114
  · exact e13_160_115
  · exact e13_160_116
  · exact e13_160_117
  · exact e13_160_118
  · exact e13_160_119
  · exact e13_160_120
  · exact e13_160_121
  · exact e13_160_122
  · exact e13_160_123
  · exact e13_160_124
  · exact e13_160_125
  · exact e13_160_126
  · exact e13_160_127
theorem e15_160_64 : pic 15 64 160 = pic 15 0 160 := by kernel_rfl
theorem e15_160_65 : pic 15 65 160 = pic 15 1 160 := by kernel_rfl
theorem e15_160_66 : pic 15 66 160 = pic 15 2 160 := by kernel_rfl
theorem e15_160_67 : pic 15 67 160 = pic 15 3 160 := by kernel_rfl
theorem e15_160_68 : pic 15 68 160 = pic 15 4 160 := by kernel_rfl
theorem e15_160_69 : pic 15 69 160 = pic 15 5 160 := by kernel_rfl
theorem e15_160_70 : pic 15 70 160 = pic 15 6 160 := by kernel_rfl
theorem e15_160_71 : pic 15 71 160 = pic 15 7 160 := by kernel_rfl
theorem e15_160_72 : pic 15 72 160 = pic 15 8 160 := by kernel_rfl
theorem e15_160_73 : pic 15 73 160 = pic 15 9 160 := by kernel_rfl
theorem e15_160_74 : pic 15 74 160 = pic 15 10 160 := by kernel_rfl
theorem e15_160_75 : pic 15 75 160 = pic 15 11 160 := by kernel_rfl
theorem e15_160_76 : pic 15 76 160 = pic 15 12 160 := by kernel_rfl
theorem e15_160_77 : pic 15 77 160 = pic 15 13 160 := by kernel_rfl
theorem e15_160_78 : pic 15 78 160 = pic 15 14 160 := by kernel_rfl
theorem e15_160_79 : pic 15 79 160 = pic 15 15 160 := by kernel_rfl
theorem e15_160_80 : pic 15 80 160 = pic 15 16 160 := by kernel_rfl
theorem e15_160_81 : pic 15 81 160 = pic 15 17 160 := by kernel_rfl
theorem e15_160_82 : pic 15 82 160 = pic 15 18 160 := by kernel_rfl
theorem e15_160_83 : pic 15 83 160 = pic 15 19 160 := by kernel_rfl
theorem e15_160_84 : pic 15 84 160 = pic 15 20 160 := by kernel_rfl
theorem e15_160_85 : pic 15 85 160 = pic 15 21 160 := by kernel_rfl
theorem e15_160_86 : pic 15 86 160 = pic 15 22 160 := by kernel_rfl
theorem e15_160_87 : pic 15 87 160 = pic 15 23 160 := by kernel_rfl
theorem e15_160_88 : pic 15 88 160 = pic 15 24 160 := by kernel_rfl
theorem e15_160_89 : pic 15 89 160 = pic 15 25 160 := by kernel_rfl
theorem e15_160_90 : pic 15 90 160 = pic 15 26 160 := by kernel_rfl
theorem e15_160_91 : pic 15 91 160 = pic 15 27 160 := by kernel_rfl
theorem e15_160_92 : pic 15 92 160 = pic 15 28 160 := by kernel_rfl
theorem e15_160_93 : pic 15 93 160 = pic 15 29 160 := by kernel_rfl
theorem e15_160_94 : pic 15 94 160 = pic 15 30 160 := by kernel_rfl
theorem e15_160_95 : pic 15 95 160 = pic 15 31 160 := by kernel_rfl
theorem e15_160_96 : pic 15 96 160 = pic 15 0 160 := by kernel_rfl
theorem e15_160_97 : pic 15 97 160 = pic 15 1 160 := by kernel_rfl
theorem e15_160_98 : pic 15 98 160 = pic 15 2 160 := by kernel_rfl
theorem e15_160_99 : pic 15 99 160 = pic 15 3 160 := by kernel_rfl
theorem e15_160_100 : pic 15 100 160 = pic 15 4 160 := by kernel_rfl
theorem e15_160_101 : pic 15 101 160 = pic 15 5 160 := by kernel_rfl
theorem e15_160_102 : pic 15 102 160 = pic 15 6 160 := by kernel_rfl
theorem e15_160_103 : pic 15 103 160 = pic 15 7 160 := by kernel_rfl
theorem e15_160_104 : pic 15 104 160 = pic 15 8 160 := by kernel_rfl
theorem e15_160_105 : pic 15 105 160 = pic 15 9 160 := by kernel_rfl
theorem e15_160_106 : pic 15 106 160 = pic 15 10 160 := by kernel_rfl
theorem e15_160_107 : pic 15 107 160 = pic 15 11 160 := by kernel_rfl
theorem e15_160_108 : pic 15 108 160 = pic 15 12 160 := by kernel_rfl
theorem e15_160_109 : pic 15 109 160 = pic 15 13 160 := by kernel_rfl
theorem e15_160_110 : pic 15 110 160 = pic 15 14 160 := by kernel_rfl
theorem e15_160_111 : pic 15 111 160 = pic 15 15 160 := by kernel_rfl
theorem e15_160_112 : pic 15 112 160 = pic 15 16 160 := by kernel_rfl
theorem e15_160_113 : pic 15 113 160 = pic 15 17 160 := by kernel_rfl
theorem e15_160_114 : pic 15 114 160 = pic 15 18 160 := by kernel_rfl
theorem e15_160_115 : pic 15 115 160 = pic 15 19 160 := by kernel_rfl
theorem e15_160_116 : pic 15 116 160 = pic 15 20 160 := by kernel_rfl
theorem e15_160_117 : pic 15 117 160 = pic 15 21 160 := by kernel_rfl
theorem e15_160_118 : pic 15 118 160 = pic 15 22 160 := by kernel_rfl
theorem e15_160_119 : pic 15 119 160 = pic 15 23 160 := by kernel_rfl
theorem e15_160_120 : pic 15 120 160 = pic 15 24 160 := by kernel_rfl
theorem e15_160_121 : pic 15 121 160 = pic 15 25 160 := by kernel_rfl
theorem e15_160_122 : pic 15 122 160 = pic 15 26 160 := by kernel_rfl
theorem e15_160_123 : pic 15 123 160 = pic 15 27 160 := by kernel_rfl
theorem e15_160_124 : pic 15 124 160 = pic 15 28 160 := by kernel_rfl
theorem e15_160_125 : pic 15 125 160 = pic 15 29 160 := by kernel_rfl
theorem e15_160_126 : pic 15 126 160 = pic 15 30 160 := by kernel_rfl
theorem e15_160_127 : pic 15 127 160 = pic 15 31 160 := by kernel_rfl
theorem e15_160_part2 (n : Nat) (h1 : 64 ≤ n) (h2 : n < 96) : pic 15 n 160 = pic 15 (n % 32) 160 := by
  rcases (by omega : n = 64 ∨ n = 65 ∨ n = 66 ∨ n = 67 ∨ n = 68 ∨ n = 69 ∨ n = 70 ∨ n = 71 ∨ n = 72 ∨ n = 73 ∨ n = 74 ∨ n = 75 ∨ n = 76 ∨ n = 77 ∨ n = 78 ∨ n = 79 ∨ n = 80 ∨ n = 81 ∨ n = 82 ∨ n = 83 ∨ n = 84 ∨ n = 85 ∨ n = 86 ∨ n = 87 ∨ n = 88 ∨ n = 89 ∨ n = 90 ∨ n = 91 ∨ n = 92 ∨ n = 93 ∨ n = 94 ∨ n = 95) with rfl | rfl | rfl | rfl | rfl | rfl | rfl | rfl | rfl | rfl | rfl | rfl | rfl | rfl | rfl | rfl | rfl | rfl | rfl | rfl | rfl | rfl | rfl | rfl | rfl | rfl | rfl | rfl | rfl | rfl | rfl | rfl
  · exact e15_160_64
  · exact e15_160_65
  · exact e15_160_66
  · exact e15_160_67
  · exact e15_160_68
  · exact e15_160_69
  · exact e15_160_70
  · exact e15_160_71
  · exact e15_160_72
  · exact e15_160_73
  · exact e15_160_74
  · exact e15_160_75
  · exact e15_160_76
  · exact e15_160_77
  · exact e15_160_78
  · exact e15_160_79
  · exact e15_160_80
  · exact e15_160_81
  · exact e15_160_82
  · exact e15_160_83
  · exact e15_160_84
  · exact e15_160_85
  · exact e15_160_86
  · exact e15_160_87
  · exact e15_160_88
  · exact e15_160_89
  · exact e15_160_90
  · exact e15_160_91
  · exact e15_160_92
  · exact e15_160_93
  · exact e15_160_94
  · exact e15_160_95
theorem e15_160_part3 (n : Nat) (h1 : 96 ≤ n) (h2 : n < 128) : pic 15 n 160 = pic 15 (n % 32) 160 := by
  rcases (by omega : n = 96 ∨ n = 97 ∨ n = 98 ∨ n = 99 ∨ n = 100 ∨ n = 101 ∨ n = 102 ∨ n = 103 ∨ n = 104 ∨ n = 105 ∨ n = 106 ∨ n = 107 ∨ n = 108 ∨ n = 109 ∨ n = 110 ∨ n = 111 ∨ n = 112 ∨ n = 113 ∨ n = 114 ∨ n = 115 ∨ n = 116 ∨ n = 117 ∨ n = 118 ∨ n = 119 ∨ n = 120 ∨ n = 121 ∨ n = 122 ∨ n = 123 ∨ n = 124 ∨ n = 125 ∨ n = 126 ∨ n = 127) with rfl | rfl | rfl | rfl | rfl | rfl | rfl | rfl | rfl | rfl | rfl | rfl | rfl | rfl | rfl | rfl | rfl | rfl | rfl | rfl | rfl | rfl | rfl | rfl | rfl | rfl | rfl | rfl | rfl | rfl | rfl | rfl
  · exact e15_160_96
  · exact e15_160_97
  · exact e15_160_98
  · exact e15_160_99
  · exact e15_160_100
  · exact e15_160_101
  · exact e15_160_102
  · exact e15_160_103
  · exact e15_160_104
  · exact e15_160_105
  · exact e15_160_106
  · exact e15_160_107
  · exact e15_160_108
  · exact e15_160_109
  · exact e15_160_110
  · exact e15_160_111
  · exact e15_160_112
  · exact e15_160_113
  · exact e15_160_114
  · exact e15_160_115
  · exact e15_160_116
  · exact e15_160_117
  · exact e15_160_118
  · exact e15_160_119
  · exact e15_160_120
  · exact e15_160_121
  · exact e15_160_122
  · exact e15_160_123
  · exact e15_160_124
  · exact e15_160_125
  · exact e15_160_126
  · exact e15_160_127
end Go.Proofs.SA
