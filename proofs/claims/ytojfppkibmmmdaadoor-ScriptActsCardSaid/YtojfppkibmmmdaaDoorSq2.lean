/- Proved: which numbers have one pattern, numbers 128 to 191. Conditions: none. -/
import Derived.Test.YtojfppkibmmmdaaDoorSg
set_option linter.unusedVariables false
set_option linter.unusedSimpArgs false
namespace Go.Proofs.SA
open Go.Ai
theorem e13_100_128 : pic 13 128 100 = pic 13 0 100 := by kernel_rfl
theorem e13_100_129 : pic 13 129 100 = pic 13 1 100 := by kernel_rfl
theorem e13_100_130 : pic 13 130 100 = pic 13 2 100 := by kernel_rfl
theorem e13_100_131 : pic 13 131 100 = pic 13 3 100 := by kernel_rfl
theorem e13_100_132 : pic 13 132 100 = pic 13 4 100 := by kernel_rfl
theorem e13_100_133 : pic 13 133 100 = pic 13 5 100 := by kernel_rfl
theorem e13_100_134 : pic 13 134 100 = pic 13 6 100 := by kernel_rfl
theorem e13_100_135 : pic 13 135 100 = pic 13 7 100 := by kernel_rfl
theorem e13_100_136 : pic 13 136 100 = pic 13 8 100 := by kernel_rfl
theorem e13_100_137 : pic 13 137 100 = pic 13 9 100 := by kernel_rfl
theorem e13_100_138 : pic 13 138 100 = pic 13 10 100 := by kernel_rfl
theorem e13_100_139 : pic 13 139 100 = pic 13 11 100 := by kernel_rfl
theorem e13_100_140 : pic 13 140 100 = pic 13 12 100 := by kernel_rfl
theorem e13_100_141 : pic 13 141 100 = pic 13 13 100 := by kernel_rfl
theorem e13_100_142 : pic 13 142 100 = pic 13 14 100 := by kernel_rfl
theorem e13_100_143 : pic 13 143 100 = pic 13 15 100 := by kernel_rfl
theorem e13_100_144 : pic 13 144 100 = pic 13 16 100 := by kernel_rfl
theorem e13_100_145 : pic 13 145 100 = pic 13 17 100 := by kernel_rfl
theorem e13_100_146 : pic 13 146 100 = pic 13 18 100 := by kernel_rfl
theorem e13_100_147 : pic 13 147 100 = pic 13 19 100 := by kernel_rfl
theorem e13_100_148 : pic 13 148 100 = pic 13 20 100 := by kernel_rfl
theorem e13_100_149 : pic 13 149 100 = pic 13 21 100 := by kernel_rfl
theorem e13_100_150 : pic 13 150 100 = pic 13 22 100 := by kernel_rfl
theorem e13_100_151 : pic 13 151 100 = pic 13 23 100 := by kernel_rfl
theorem e13_100_152 : pic 13 152 100 = pic 13 24 100 := by kernel_rfl
theorem e13_100_153 : pic 13 153 100 = pic 13 25 100 := by kernel_rfl
theorem e13_100_154 : pic 13 154 100 = pic 13 26 100 := by kernel_rfl
theorem e13_100_155 : pic 13 155 100 = pic 13 27 100 := by kernel_rfl
theorem e13_100_156 : pic 13 156 100 = pic 13 28 100 := by kernel_rfl
theorem e13_100_157 : pic 13 157 100 = pic 13 29 100 := by kernel_rfl
theorem e13_100_158 : pic 13 158 100 = pic 13 30 100 := by kernel_rfl
theorem e13_100_159 : pic 13 159 100 = pic 13 31 100 := by kernel_rfl
theorem e13_100_160 : pic 13 160 100 = pic 13 0 100 := by kernel_rfl
theorem e13_100_161 : pic 13 161 100 = pic 13 1 100 := by kernel_rfl
theorem e13_100_162 : pic 13 162 100 = pic 13 2 100 := by kernel_rfl
theorem e13_100_163 : pic 13 163 100 = pic 13 3 100 := by kernel_rfl
theorem e13_100_164 : pic 13 164 100 = pic 13 4 100 := by kernel_rfl
theorem e13_100_165 : pic 13 165 100 = pic 13 5 100 := by kernel_rfl
theorem e13_100_166 : pic 13 166 100 = pic 13 6 100 := by kernel_rfl
theorem e13_100_167 : pic 13 167 100 = pic 13 7 100 := by kernel_rfl
theorem e13_100_168 : pic 13 168 100 = pic 13 8 100 := by kernel_rfl
theorem e13_100_169 : pic 13 169 100 = pic 13 9 100 := by kernel_rfl
theorem e13_100_170 : pic 13 170 100 = pic 13 10 100 := by kernel_rfl
theorem e13_100_171 : pic 13 171 100 = pic 13 11 100 := by kernel_rfl
theorem e13_100_172 : pic 13 172 100 = pic 13 12 100 := by kernel_rfl
theorem e13_100_173 : pic 13 173 100 = pic 13 13 100 := by kernel_rfl
theorem e13_100_174 : pic 13 174 100 = pic 13 14 100 := by kernel_rfl
theorem e13_100_175 : pic 13 175 100 = pic 13 15 100 := by kernel_rfl
theorem e13_100_176 : pic 13 176 100 = pic 13 16 100 := by kernel_rfl
theorem e13_100_177 : pic 13 177 100 = pic 13 17 100 := by kernel_rfl
theorem e13_100_178 : pic 13 178 100 = pic 13 18 100 := by kernel_rfl
theorem e13_100_179 : pic 13 179 100 = pic 13 19 100 := by kernel_rfl
theorem e13_100_180 : pic 13 180 100 = pic 13 20 100 := by kernel_rfl
theorem e13_100_181 : pic 13 181 100 = pic 13 21 100 := by kernel_rfl
theorem e13_100_182 : pic 13 182 100 = pic 13 22 100 := by kernel_rfl
theorem e13_100_183 : pic 13 183 100 = pic 13 23 100 := by kernel_rfl
theorem e13_100_184 : pic 13 184 100 = pic 13 24 100 := by kernel_rfl
theorem e13_100_185 : pic 13 185 100 = pic 13 25 100 := by kernel_rfl
theorem e13_100_186 : pic 13 186 100 = pic 13 26 100 := by kernel_rfl
theorem e13_100_187 : pic 13 187 100 = pic 13 27 100 := by kernel_rfl
theorem e13_100_188 : pic 13 188 100 = pic 13 28 100 := by kernel_rfl
theorem e13_100_189 : pic 13 189 100 = pic 13 29 100 := by kernel_rfl
theorem e13_100_190 : pic 13 190 100 = pic 13 30 100 := by kernel_rfl
theorem e13_100_191 : pic 13 191 100 = pic 13 31 100 := by kernel_rfl
theorem e13_100_part4 (n : Nat) (h1 : 128 ≤ n) (h2 : n < 160) : pic 13 n 100 = pic 13 (n % 32) 100 := by
  rcases (by omega : n = 128 ∨ n = 129 ∨ n = 130 ∨ n = 131 ∨ n = 132 ∨ n = 133 ∨ n = 134 ∨ n = 135 ∨ n = 136 ∨ n = 137 ∨ n = 138 ∨ n = 139 ∨ n = 140 ∨ n = 141 ∨ n = 142 ∨ n = 143 ∨ n = 144 ∨ n = 145 ∨ n = 146 ∨ n = 147 ∨ n = 148 ∨ n = 149 ∨ n = 150 ∨ n = 151 ∨ n = 152 ∨ n = 153 ∨ n = 154 ∨ n = 155 ∨ n = 156 ∨ n = 157 ∨ n = 158 ∨ n = 159) with rfl | rfl | rfl | rfl | rfl | rfl | rfl | rfl | rfl | rfl | rfl | rfl | rfl | rfl | rfl | rfl | rfl | rfl | rfl | rfl | rfl | rfl | rfl | rfl | rfl | rfl | rfl | rfl | rfl | rfl | rfl | rfl
  · exact e13_100_128
  · exact e13_100_129
  · exact e13_100_130
  · exact e13_100_131
  · exact e13_100_132
  · exact e13_100_133
  · exact e13_100_134
  · exact e13_100_135
  · exact e13_100_136
  · exact e13_100_137
  · exact e13_100_138
  · exact e13_100_139
  · exact e13_100_140
  · exact e13_100_141
  · exact e13_100_142
  · exact e13_100_143
  · exact e13_100_144
  · exact e13_100_145
  · exact e13_100_146
  · exact e13_100_147
  · exact e13_100_148
  · exact e13_100_149
  · exact e13_100_150
  · exact e13_100_151
  · exact e13_100_152
  · exact e13_100_153
  · exact e13_100_154
  · exact e13_100_155
  · exact e13_100_156
  · exact e13_100_157
  · exact e13_100_158
  · exact e13_100_159
theorem e13_100_part5 (n : Nat) (h1 : 160 ≤ n) (h2 : n < 192) : pic 13 n 100 = pic 13 (n % 32) 100 := by
  rcases (by omega : n = 160 ∨ n = 161 ∨ n = 162 ∨ n = 163 ∨ n = 164 ∨ n = 165 ∨ n = 166 ∨ n = 167 ∨ n = 168 ∨ n = 169 ∨ n = 170 ∨ n = 171 ∨ n = 172 ∨ n = 173 ∨ n = 174 ∨ n = 175 ∨ n = 176 ∨ n = 177 ∨ n = 178 ∨ n = 179 ∨ n = 180 ∨ n = 181 ∨ n = 182 ∨ n = 183 ∨ n = 184 ∨ n = 185 ∨ n = 186 ∨ n = 187 ∨ n = 188 ∨ n = 189 ∨ n = 190 ∨ n = 191) with rfl | rfl | rfl | rfl | rfl | rfl | rfl | rfl | rfl | rfl | rfl | rfl | rfl | rfl | rfl | rfl | rfl | rfl | rfl | rfl | rfl | rfl | rfl | rfl | rfl | rfl | rfl | rfl | rfl | rfl | rfl | rfl
  · exact e13_100_160
  · exact e13_100_161
  · exact e13_100_162
  · exact e13_100_163
  · exact e13_100_164
  · exact e13_100_165
  · exact e13_100_166
  · exact e13_100_167
  · exact e13_100_168
  · exact e13_100_169
  · exact e13_100_170
  · exact e13_100_171
  · exact e13_100_172
  · exact e13_100_173
  · exact e13_100_174
  · exact e13_100_175
  · exact e13_100_176
  · exact e13_100_177
  · exact e13_100_178
  · exact e13_100_179
  · exact e13_100_180
  · exact e13_100_181
  · exact e13_100_182
  · exact e13_100_183
  · exact e13_100_184
  · exact e13_100_185
  · exact e13_100_186
  · exact e13_100_187
  · exact e13_100_188
  · exact e13_100_189
  · exact e13_100_190
  · exact e13_100_191
theorem e13_160_128 : pic 13 128 160 = pic 13 0 160 := by kernel_rfl
theorem e13_160_129 : pic 13 129 160 = pic 13 1 160 := by kernel_rfl
theorem e13_160_130 : pic 13 130 160 = pic 13 2 160 := by kernel_rfl
theorem e13_160_131 : pic 13 131 160 = pic 13 3 160 := by kernel_rfl
theorem e13_160_132 : pic 13 132 160 = pic 13 4 160 := by kernel_rfl
theorem e13_160_133 : pic 13 133 160 = pic 13 5 160 := by kernel_rfl
theorem e13_160_134 : pic 13 134 160 = pic 13 6 160 := by kernel_rfl
theorem e13_160_135 : pic 13 135 160 = pic 13 7 160 := by kernel_rfl
theorem e13_160_136 : pic 13 136 160 = pic 13 8 160 := by kernel_rfl
theorem e13_160_137 : pic 13 137 160 = pic 13 9 160 := by kernel_rfl
theorem e13_160_138 : pic 13 138 160 = pic 13 10 160 := by kernel_rfl
theorem e13_160_139 : pic 13 139 160 = pic 13 11 160 := by kernel_rfl
theorem e13_160_140 : pic 13 140 160 = pic 13 12 160 := by kernel_rfl
theorem e13_160_141 : pic 13 141 160 = pic 13 13 160 := by kernel_rfl
theorem e13_160_142 : pic 13 142 160 = pic 13 14 160 := by kernel_rfl
theorem e13_160_143 : pic 13 143 160 = pic 13 15 160 := by kernel_rfl
theorem e13_160_144 : pic 13 144 160 = pic 13 16 160 := by kernel_rfl
theorem e13_160_145 : pic 13 145 160 = pic 13 17 160 := by kernel_rfl
theorem e13_160_146 : pic 13 146 160 = pic 13 18 160 := by kernel_rfl
theorem e13_160_147 : pic 13 147 160 = pic 13 19 160 := by kernel_rfl
theorem e13_160_148 : pic 13 148 160 = pic 13 20 160 := by kernel_rfl
theorem e13_160_149 : pic 13 149 160 = pic 13 21 160 := by kernel_rfl
theorem e13_160_150 : pic 13 150 160 = pic 13 22 160 := by kernel_rfl
theorem e13_160_151 : pic 13 151 160 = pic 13 23 160 := by kernel_rfl
theorem e13_160_152 : pic 13 152 160 = pic 13 24 160 := by kernel_rfl
theorem e13_160_153 : pic 13 153 160 = pic 13 25 160 := by kernel_rfl
theorem e13_160_154 : pic 13 154 160 = pic 13 26 160 := by kernel_rfl
theorem e13_160_155 : pic 13 155 160 = pic 13 27 160 := by kernel_rfl
theorem e13_160_156 : pic 13 156 160 = pic 13 28 160 := by kernel_rfl
theorem e13_160_157 : pic 13 157 160 = pic 13 29 160 := by kernel_rfl
theorem e13_160_158 : pic 13 158 160 = pic 13 30 160 := by kernel_rfl
theorem e13_160_159 : pic 13 159 160 = pic 13 31 160 := by kernel_rfl
theorem e13_160_160 : pic 13 160 160 = pic 13 0 160 := by kernel_rfl
theorem e13_160_161 : pic 13 161 160 = pic 13 1 160 := by kernel_rfl
theorem e13_160_162 : pic 13 162 160 = pic 13 2 160 := by kernel_rfl
theorem e13_160_163 : pic 13 163 160 = pic 13 3 160 := by kernel_rfl
theorem e13_160_164 : pic 13 164 160 = pic 13 4 160 := by kernel_rfl
theorem e13_160_165 : pic 13 165 160 = pic 13 5 160 := by kernel_rfl
theorem e13_160_166 : pic 13 166 160 = pic 13 6 160 := by kernel_rfl
theorem e13_160_167 : pic 13 167 160 = pic 13 7 160 := by kernel_rfl
theorem e13_160_168 : pic 13 168 160 = pic 13 8 160 := by kernel_rfl
theorem e13_160_169 : pic 13 169 160 = pic 13 9 160 := by kernel_rfl
theorem e13_160_170 : pic 13 170 160 = pic 13 10 160 := by kernel_rfl
theorem e13_160_171 : pic 13 171 160 = pic 13 11 160 := by kernel_rfl
theorem e13_160_172 : pic 13 172 160 = pic 13 12 160 := by kernel_rfl
theorem e13_160_173 : pic 13 173 160 = pic 13 13 160 := by kernel_rfl
theorem e13_160_174 : pic 13 174 160 = pic 13 14 160 := by kernel_rfl
theorem e13_160_175 : pic 13 175 160 = pic 13 15 160 := by kernel_rfl
theorem e13_160_176 : pic 13 176 160 = pic 13 16 160 := by kernel_rfl
theorem e13_160_177 : pic 13 177 160 = pic 13 17 160 := by kernel_rfl
theorem e13_160_178 : pic 13 178 160 = pic 13 18 160 := by kernel_rfl
theorem e13_160_179 : pic 13 179 160 = pic 13 19 160 := by kernel_rfl
theorem e13_160_180 : pic 13 180 160 = pic 13 20 160 := by kernel_rfl
theorem e13_160_181 : pic 13 181 160 = pic 13 21 160 := by kernel_rfl
theorem e13_160_182 : pic 13 182 160 = pic 13 22 160 := by kernel_rfl
theorem e13_160_183 : pic 13 183 160 = pic 13 23 160 := by kernel_rfl
theorem e13_160_184 : pic 13 184 160 = pic 13 24 160 := by kernel_rfl
theorem e13_160_185 : pic 13 185 160 = pic 13 25 160 := by kernel_rfl
theorem e13_160_186 : pic 13 186 160 = pic 13 26 160 := by kernel_rfl
theorem e13_160_187 : pic 13 187 160 = pic 13 27 160 := by kernel_rfl
theorem e13_160_188 : pic 13 188 160 = pic 13 28 160 := by kernel_rfl
theorem e13_160_189 : pic 13 189 160 = pic 13 29 160 := by kernel_rfl
theorem e13_160_190 : pic 13 190 160 = pic 13 30 160 := by kernel_rfl
theorem e13_160_191 : pic 13 191 160 = pic 13 31 160 := by kernel_rfl
theorem e13_160_part4 (n : Nat) (h1 : 128 ≤ n) (h2 : n < 160) : pic 13 n 160 = pic 13 (n % 32) 160 := by
  rcases (by omega : n = 128 ∨ n = 129 ∨ n = 130 ∨ n = 131 ∨ n = 132 ∨ n = 133 ∨ n = 134 ∨ n = 135 ∨ n = 136 ∨ n = 137 ∨ n = 138 ∨ n = 139 ∨ n = 140 ∨ n = 141 ∨ n = 142 ∨ n = 143 ∨ n = 144 ∨ n = 145 ∨ n = 146 ∨ n = 147 ∨ n = 148 ∨ n = 149 ∨ n = 150 ∨ n = 151 ∨ n = 152 ∨ n = 153 ∨ n = 154 ∨ n = 155 ∨ n = 156 ∨ n = 157 ∨ n = 158 ∨ n = 159) with rfl | rfl | rfl | rfl | rfl | rfl | rfl | rfl | rfl | rfl | rfl | rfl | rfl | rfl | rfl | rfl | rfl | rfl | rfl | rfl | rfl | rfl | rfl | rfl | rfl | rfl | rfl | rfl | rfl | rfl | rfl | rfl
  · exact e13_160_128
  · exact e13_160_129
  · exact e13_160_130
  · exact e13_160_131
  · exact e13_160_132
  · exact e13_160_133
  · exact e13_160_134
  · exact e13_160_135
  · exact e13_160_136
  · exact e13_160_137
  · exact e13_160_138
  · exact e13_160_139
  · exact e13_160_140
  · exact e13_160_141
  · exact e13_160_142
  · exact e13_160_143
  · exact e13_160_144
  · exact e13_160_145
  · exact e13_160_146
  · exact e13_160_147
  · exact e13_160_148
  · exact e13_160_149
  · exact e13_160_150
  · exact e13_160_151
  · exact e13_160_152
  · exact e13_160_153
  · exact e13_160_154
  · exact e13_160_155
  · exact e13_160_156
  · exact e13_160_157
  · exact e13_160_158
  · exact e13_160_159
theorem e13_160_part5 (n : Nat) (h1 : 160 ≤ n) (h2 : n < 192) : pic 13 n 160 = pic 13 (n % 32) 160 := by
  rcases (by omega : n = 160 ∨ n = 161 ∨ n = 162 ∨ n = 163 ∨ n = 164 ∨ n = 165 ∨ n = 166 ∨ n = 167 ∨ n = 168 ∨ n = 169 ∨ n = 170 ∨ n = 171 ∨ n = 172 ∨ n = 173 ∨ n = 174 ∨ n = 175 ∨ n = 176 ∨ n = 177 ∨ n = 178 ∨ n = 179 ∨ n = 180 ∨ n = 181 ∨ n = 182 ∨ n = 183 ∨ n = 184 ∨ n = 185 ∨ n = 186 ∨ n = 187 ∨ n = 188 ∨ n = 189 ∨ n = 190 ∨ n = 191) with rfl | rfl | rfl | rfl | rfl | rfl | rfl | rfl | rfl | rfl | rfl | rfl | rfl | rfl | rfl | rfl | rfl | rfl | rfl | rfl | rfl | rfl | rfl | rfl | rfl | rfl | rfl | rfl | rfl | rfl | rfl | rfl
  · exact e13_160_160
  · exact e13_160_161
  · exact e13_160_162
  · exact e13_160_163
  · exact e13_160_164
  · exact e13_160_165
  · exact e13_160_166
  · exact e13_160_167
  · exact e13_160_168
  · exact e13_160_169
  · exact e13_160_170
  · exact e13_160_171
  · exact e13_160_172
  · exact e13_160_173
  · exact e13_160_174
  · exact e13_160_175
  · exact e13_160_176
  · exact e13_160_177
  · exact e13_160_178
  · exact e13_160_179
  · exact e13_160_180
  · exact e13_160_181
  · exact e13_160_182
  · exact e13_160_183
  · exact e13_160_184
  · exact e13_160_185
  · exact e13_160_186
  · exact e13_160_187
  · exact e13_160_188
  · exact e13_160_189
  · exact e13_160_190
  · exact e13_160_191
theorem e15_160_128 : pic 15 128 160 = pic 15 0 160 := by kernel_rfl
theorem e15_160_129 : pic 15 129 160 = pic 15 1 160 := by kernel_rfl
theorem e15_160_130 : pic 15 130 160 = pic 15 2 160 := by kernel_rfl
theorem e15_160_131 : pic 15 131 160 = pic 15 3 160 := by kernel_rfl
theorem e15_160_132 : pic 15 132 160 = pic 15 4 160 := by kernel_rfl
theorem e15_160_133 : pic 15 133 160 = pic 15 5 160 := by kernel_rfl
theorem e15_160_134 : pic 15 134 160 = pic 15 6 160 := by kernel_rfl
theorem e15_160_135 : pic 15 135 160 = pic 15 7 160 := by kernel_rfl
theorem e15_160_136 : pic 15 136 160 = pic 15 8 160 := by kernel_rfl
theorem e15_160_137 : pic 15 137 160 = pic 15 9 160 := by kernel_rfl
theorem e15_160_138 : pic 15 138 160 = pic 15 10 160 := by kernel_rfl
theorem e15_160_139 : pic 15 139 160 = pic 15 11 160 := by kernel_rfl
theorem e15_160_140 : pic 15 140 160 = pic 15 12 160 := by kernel_rfl
theorem e15_160_141 : pic 15 141 160 = pic 15 13 160 := by kernel_rfl
theorem e15_160_142 : pic 15 142 160 = pic 15 14 160 := by kernel_rfl
theorem e15_160_143 : pic 15 143 160 = pic 15 15 160 := by kernel_rfl
theorem e15_160_144 : pic 15 144 160 = pic 15 16 160 := by kernel_rfl
theorem e15_160_145 : pic 15 145 160 = pic 15 17 160 := by kernel_rfl
theorem e15_160_146 : pic 15 146 160 = pic 15 18 160 := by kernel_rfl
theorem e15_160_147 : pic 15 147 160 = pic 15 19 160 := by kernel_rfl
theorem e15_160_148 : pic 15 148 160 = pic 15 20 160 := by kernel_rfl
theorem e15_160_149 : pic 15 149 160 = pic 15 21 160 := by kernel_rfl
theorem e15_160_150 : pic 15 150 160 = pic 15 22 160 := by kernel_rfl
theorem e15_160_151 : pic 15 151 160 = pic 15 23 160 := by kernel_rfl
theorem e15_160_152 : pic 15 152 160 = pic 15 24 160 := by kernel_rfl
theorem e15_160_153 : pic 15 153 160 = pic 15 25 160 := by kernel_rfl
theorem e15_160_154 : pic 15 154 160 = pic 15 26 160 := by kernel_rfl
theorem e15_160_155 : pic 15 155 160 = pic 15 27 160 := by kernel_rfl
theorem e15_160_156 : pic 15 156 160 = pic 15 28 160 := by kernel_rfl
theorem e15_160_157 : pic 15 157 160 = pic 15 29 160 := by kernel_rfl
theorem e15_160_158 : pic 15 158 160 = pic 15 30 160 := by kernel_rfl
theorem e15_160_159 : pic 15 159 160 = pic 15 31 160 := by kernel_rfl
theorem e15_160_160 : pic 15 160 160 = pic 15 0 160 := by kernel_rfl
theorem e15_160_161 : pic 15 161 160 = pic 15 1 160 := by kernel_rfl
theorem e15_160_162 : pic 15 162 160 = pic 15 2 160 := by kernel_rfl
theorem e15_160_163 : pic 15 163 160 = pic 15 3 160 := by kernel_rfl
theorem e15_160_164 : pic 15 164 160 = pic 15 4 160 := by kernel_rfl
theorem e15_160_165 : pic 15 165 160 = pic 15 5 160 := by kernel_rfl
theorem e15_160_166 : pic 15 166 160 = pic 15 6 160 := by kernel_rfl
theorem e15_160_167 : pic 15 167 160 = pic 15 7 160 := by kernel_rfl
theorem e15_160_168 : pic 15 168 160 = pic 15 8 160 := by kernel_rfl
theorem e15_160_169 : pic 15 169 160 = pic 15 9 160 := by kernel_rfl
theorem e15_160_170 : pic 15 170 160 = pic 15 10 160 := by kernel_rfl
theorem e15_160_171 : pic 15 171 160 = pic 15 11 160 := by kernel_rfl
theorem e15_160_172 : pic 15 172 160 = pic 15 12 160 := by kernel_rfl
theorem e15_160_173 : pic 15 173 160 = pic 15 13 160 := by kernel_rfl
theorem e15_160_174 : pic 15 174 160 = pic 15 14 160 := by kernel_rfl
theorem e15_160_175 : pic 15 175 160 = pic 15 15 160 := by kernel_rfl
theorem e15_160_176 : pic 15 176 160 = pic 15 16 160 := by kernel_rfl
theorem e15_160_177 : pic 15 177 160 = pic 15 17 160 := by kernel_rfl
theorem e15_160_178 : pic 15 178 160 = pic 15 18 160 := by kernel_rfl
theorem e15_160_179 : pic 15 179 160 = pic 15 19 160 := by kernel_rfl
theorem e15_160_180 : pic 15 180 160 = pic 15 20 160 := by kernel_rfl
theorem e15_160_181 : pic 15 181 160 = pic 15 21 160 := by kernel_rfl
theorem e15_160_182 : pic 15 182 160 = pic 15 22 160 := by kernel_rfl
theorem e15_160_183 : pic 15 183 160 = pic 15 23 160 := by kernel_rfl
theorem e15_160_184 : pic 15 184 160 = pic 15 24 160 := by kernel_rfl
theorem e15_160_185 : pic 15 185 160 = pic 15 25 160 := by kernel_rfl
theorem e15_160_186 : pic 15 186 160 = pic 15 26 160 := by kernel_rfl
theorem e15_160_187 : pic 15 187 160 = pic 15 27 160 := by kernel_rfl
theorem e15_160_188 : pic 15 188 160 = pic 15 28 160 := by kernel_rfl
theorem e15_160_189 : pic 15 189 160 = pic 15 29 160 := by kernel_rfl
theorem e15_160_190 : pic 15 190 160 = pic 15 30 160 := by kernel_rfl
theorem e15_160_191 : pic 15 191 160 = pic 15 31 160 := by kernel_rfl
theorem e15_160_part4 (n : Nat) (h1 : 128 ≤ n) (h2 : n < 160) : pic 15 n 160 = pic 15 (n % 32) 160 := by
  rcases (by omega : n = 128 ∨ n = 129 ∨ n = 130 ∨ n = 131 ∨ n = 132 ∨ n = 133 ∨ n = 134 ∨ n = 135 ∨ n = 136 ∨ n = 137 ∨ n = 138 ∨ n = 139 ∨ n = 140 ∨ n = 141 ∨ n = 142 ∨ n = 143 ∨ n = 144 ∨ n = 145 ∨ n = 146 ∨ n = 147 ∨ n = 148 ∨ n = 149 ∨ n = 150 ∨ n = 151 ∨ n = 152 ∨ n = 153 ∨ n = 154 ∨ n = 155 ∨ n = 156 ∨ n = 157 ∨ n = 158 ∨ n = 159) with rfl | rfl | rfl | rfl | rfl | rfl | rfl | rfl | rfl | rfl | rfl | rfl | rfl | rfl | rfl | rfl | rfl | rfl | rfl | rfl | rfl | rfl | rfl | rfl | rfl | rfl | rfl | rfl | rfl | rfl | rfl | rfl
  · exact e15_160_128
  · exact e15_160_129
  · exact e15_160_130
  · exact e15_160_131
  · exact e15_160_132
  · exact e15_160_133
  · exact e15_160_134
  · exact e15_160_135
  · exact e15_160_136
  · exact e15_160_137
  · exact e15_160_138
  · exact e15_160_139
  · exact e15_160_140
  · exact e15_160_141
  · exact e15_160_142
  · exact e15_160_143
  · exact e15_160_144
  · exact e15_160_145
  · exact e15_160_146
  · exact e15_160_147
  · exact e15_160_148
  · exact e15_160_149
  · exact e15_160_150
  · exact e15_160_151
  · exact e15_160_152
  · exact e15_160_153
  · exact e15_160_154
  · exact e15_160_155
  · exact e15_160_156
  · exact e15_160_157
  · exact e15_160_158
  · exact e15_160_159
theorem e15_160_part5 (n : Nat) (h1 : 160 ≤ n) (h2 : n < 192) : pic 15 n 160 = pic 15 (n % 32) 160 := by
  rcases (by omega : n = 160 ∨ n = 161 ∨ n = 162 ∨ n = 163 ∨ n = 164 ∨ n = 165 ∨ n = 166 ∨ n = 167 ∨ n = 168 ∨ n = 169 ∨ n = 170 ∨ n = 171 ∨ n = 172 ∨ n = 173 ∨ n = 174 ∨ n = 175 ∨ n = 176 ∨ n = 177 ∨ n = 178 ∨ n = 179 ∨ n = 180 ∨ n = 181 ∨ n = 182 ∨ n = 183 ∨ n = 184 ∨ n = 185 ∨ n = 186 ∨ n = 187 ∨ n = 188 ∨ n = 189 ∨ n = 190 ∨ n = 191) with rfl | rfl | rfl | rfl | rfl | rfl | rfl | rfl | rfl | rfl | rfl | rfl | rfl | rfl | rfl | rfl | rfl | rfl | rfl | rfl | rfl | rfl | rfl | rfl | rfl | rfl | rfl | rfl | rfl | rfl | rfl | rfl
  · exact e15_160_160
  · exact e15_160_161
  · exact e15_160_162
  · exact e15_160_163
  · exact e15_160_164
  · exact e15_160_165
  · exact e15_160_166
  · exact e15_160_167
  · exact e15_160_168
  · exact e15_160_169
  · exact e15_160_170
  · exact e15_160_171
  · exact e15_160_172
  · exact e15_160_173
  · exact e15_160_174
  · exact e15_160_175
  · exact e15_160_176
  · exact e15_160_177
  · exact e15_160_178
  · exact e15_160_179
  · exact e15_160_180
  · exact e15_160_181
  · exact e15_160_182
  · exact e15_160_183
  · exact e15_160_184
  · exact e15_160_185
  · exact e15_160_186
  · exact e15_160_187
  · exact e15_160_188
  · exact e15_160_189
  · exact e15_160_190
  · exact e15_160_191
end Go.Proofs.SA
