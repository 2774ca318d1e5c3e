/- Proved: which numbers have one pattern, numbers 192 to 255. Conditions: none. -/
import Derived.Test.YtojfppkibmmmdaaDoorSg
set_option linter.unusedVariables false
set_option linter.unusedSimpArgs false
namespace Go.Proofs.SA
open Go.Ai
theorem e13_100_192 : pic 13 192 100 = pic 13 0 100 := by kernel_rfl
theorem e13_100_193 : pic 13 193 100 = pic 13 1 100 := by kernel_rfl
theorem e13_100_194 : pic 13 194 100 = pic 13 2 100 := by kernel_rfl
theorem e13_100_195 : pic 13 195 100 = pic 13 3 100 := by kernel_rfl
theorem e13_100_196 : pic 13 196 100 = pic 13 4 100 := by kernel_rfl
theorem e13_100_197 : pic 13 197 100 = pic 13 5 100 := by kernel_rfl
theorem e13_100_198 : pic 13 198 100 = pic 13 6 100 := by kernel_rfl
theorem e13_100_199 : pic 13 199 100 = pic 13 7 100 := by kernel_rfl
theorem e13_100_200 : pic 13 200 100 = pic 13 8 100 := by kernel_rfl
theorem e13_100_201 : pic 13 201 100 = pic 13 9 100 := by kernel_rfl
theorem e13_100_202 : pic 13 202 100 = pic 13 10 100 := by kernel_rfl
theorem e13_100_203 : pic 13 203 100 = pic 13 11 100 := by kernel_rfl
theorem e13_100_204 : pic 13 204 100 = pic 13 12 100 := by kernel_rfl
theorem e13_100_205 : pic 13 205 100 = pic 13 13 100 := by kernel_rfl
theorem e13_100_206 : pic 13 206 100 = pic 13 14 100 := by kernel_rfl
theorem e13_100_207 : pic 13 207 100 = pic 13 15 100 := by kernel_rfl
theorem e13_100_208 : pic 13 208 100 = pic 13 16 100 := by kernel_rfl
theorem e13_100_209 : pic 13 209 100 = pic 13 17 100 := by kernel_rfl
theorem e13_100_210 : pic 13 210 100 = pic 13 18 100 := by kernel_rfl
theorem e13_100_211 : pic 13 211 100 = pic 13 19 100 := by kernel_rfl
theorem e13_100_212 : pic 13 212 100 = pic 13 20 100 := by kernel_rfl
theorem e13_100_213 : pic 13 213 100 = pic 13 21 100 := by kernel_rfl
theorem e13_100_214 : pic 13 214 100 = pic 13 22 100 := by kernel_rfl
theorem e13_100_215 : pic 13 215 100 = pic 13 23 100 := by kernel_rfl
theorem e13_100_216 : pic 13 216 100 = pic 13 24 100 := by kernel_rfl
theorem e13_100_217 : pic 13 217 100 = pic 13 25 100 := by kernel_rfl
theorem e13_100_218 : pic 13 218 100 = pic 13 26 100 := by kernel_rfl
theorem e13_100_219 : pic 13 219 100 = pic 13 27 100 := by kernel_rfl
theorem e13_100_220 : pic 13 220 100 = pic 13 28 100 := by kernel_rfl
theorem e13_100_221 : pic 13 221 100 = pic 13 29 100 := by kernel_rfl
theorem e13_100_222 : pic 13 222 100 = pic 13 30 100 := by kernel_rfl
theorem e13_100_223 : pic 13 223 100 = pic 13 31 100 := by kernel_rfl
theorem e13_100_224 : pic 13 224 100 = pic 13 0 100 := by kernel_rfl
theorem e13_100_225 : pic 13 225 100 = pic 13 1 100 := by kernel_rfl
theorem e13_100_226 : pic 13 226 100 = pic 13 2 100 := by kernel_rfl
theorem e13_100_227 : pic 13 227 100 = pic 13 3 100 := by kernel_rfl
theorem e13_100_228 : pic 13 228 100 = pic 13 4 100 := by kernel_rfl
theorem e13_100_229 : pic 13 229 100 = pic 13 5 100 := by kernel_rfl
theorem e13_100_230 : pic 13 230 100 = pic 13 6 100 := by kernel_rfl
theorem e13_100_231 : pic 13 231 100 = pic 13 7 100 := by kernel_rfl
theorem e13_100_232 : pic 13 232 100 = pic 13 8 100 := by kernel_rfl
theorem e13_100_233 : pic 13 233 100 = pic 13 9 100 := by kernel_rfl
theorem e13_100_234 : pic 13 234 100 = pic 13 10 100 := by kernel_rfl
theorem e13_100_235 : pic 13 235 100 = pic 13 11 100 := by kernel_rfl
theorem e13_100_236 : pic 13 236 100 = pic 13 12 100 := by kernel_rfl
theorem e13_100_237 : pic 13 237 100 = pic 13 13 100 := by kernel_rfl
theorem e13_100_238 : pic 13 238 100 = pic 13 14 100 := by kernel_rfl
theorem e13_100_239 : pic 13 239 100 = pic 13 15 100 := by kernel_rfl
theorem e13_100_240 : pic 13 240 100 = pic 13 16 100 := by kernel_rfl
theorem e13_100_241 : pic 13 241 100 = pic 13 17 100 := by kernel_rfl
theorem e13_100_242 : pic 13 242 100 = pic 13 18 100 := by kernel_rfl
theorem e13_100_243 : pic 13 243 100 = pic 13 19 100 := by kernel_rfl
theorem e13_100_244 : pic 13 244 100 = pic 13 20 100 := by kernel_rfl
theorem e13_100_245 : pic 13 245 100 = pic 13 21 100 := by kernel_rfl
theorem e13_100_246 : pic 13 246 100 = pic 13 22 100 := by kernel_rfl
theorem e13_100_247 : pic 13 247 100 = pic 13 23 100 := by kernel_rfl
theorem e13_100_248 : pic 13 248 100 = pic 13 24 100 := by kernel_rfl
theorem e13_100_249 : pic 13 249 100 = pic 13 25 100 := by kernel_rfl
theorem e13_100_250 : pic 13 250 100 = pic 13 26 100 := by kernel_rfl
theorem e13_100_251 : pic 13 251 100 = pic 13 27 100 := by kernel_rfl
theorem e13_100_252 : pic 13 252 100 = pic 13 28 100 := by kernel_rfl
theorem e13_100_253 : pic 13 253 100 = pic 13 29 100 := by kernel_rfl
theorem e13_100_254 : pic 13 254 100 = pic 13 30 100 := by kernel_rfl
theorem e13_100_255 : pic 13 255 100 = pic 13 31 100 := by kernel_rfl
theorem e13_100_part6 (n : Nat) (h1 : 192 ≤ n) (h2 : n < 224) : pic 13 n 100 = pic 13 (n % 32) 100 := by
  rcases (by omega : n = 192 ∨ n = 193 ∨ n = 194 ∨ n = 195 ∨ n = 196 ∨ n = 197 ∨ n = 198 ∨ n = 199 ∨ n = 200 ∨ n = 201 ∨ n = 202 ∨ n = 203 ∨ n = 204 ∨ n = 205 ∨ n = 206 ∨ n = 207 ∨ n = 208 ∨ n = 209 ∨ n = 210 ∨ n = 211 ∨ n = 212 ∨ n = 213 ∨ n = 214 ∨ n = 215 ∨ n = 216 ∨ n = 217 ∨ n = 218 ∨ n = 219 ∨ n = 220 ∨ n = 221 ∨ n = 222 ∨ n = 223) with rfl | rfl | rfl | rfl | rfl | rfl | rfl | rfl | rfl | rfl | rfl | rfl | rfl | rfl | rfl | rfl | rfl | rfl | rfl | rfl | rfl | rfl | rfl | rfl | rfl | rfl | rfl | rfl | rfl | rfl | rfl | rfl
  · exact e13_100_192
  · exact e13_100_193
  · exact e13_100_194
  · exact e13_100_195
  · exact e13_100_196
  · exact e13_100_197
  · exact e13_100_198
  · exact e13_100_199
  · exact e13_100_200
  · exact e13_100_201
  · exact e13_100_202
  · exact e13_100_203
  · exact e13_100_204
  · exact e13_100_205
  · exact e13_100_206
  · exact e13_100_207
  · exact e13_100_208
  · exact e13_100_209
  · exact e13_100_210
  · exact e13_100_211
  · exact e13_100_212
  · exact e13_100_213
  · exact e13_100_214
  · exact e13_100_215
  · exact e13_100_216
  · exact e13_100_217
  · exact e13_100_218
  · exact e13_100_219
  · exact e13_100_220
  · exact e13_100_221
  · exact e13_100_222
  · exact e13_100_223
theorem e13_100_part7 (n : Nat) (h1 : 224 ≤ n) (h2 : n < 256) : pic 13 n 100 = pic 13 (n % 32) 100 := by
  rcases (by omega : n = 224 ∨ n = 225 ∨ n = 226 ∨ n = 227 ∨ n = 228 ∨ n = 229 ∨ n = 230 ∨ n = 231 ∨ n = 232 ∨ n = 233 ∨ n = 234 ∨ n = 235 ∨ n = 236 ∨ n = 237 ∨ n = 238 ∨ n = 239 ∨ n = 240 ∨ n = 241 ∨ n = 242 ∨ n = 243 ∨ n = 244 ∨ n = 245 ∨ n = 246 ∨ n = 247 ∨ n = 248 ∨ n = 249 ∨ n = 250 ∨ n = 251 ∨ n = 252 ∨ n = 253 ∨ n = 254 ∨ n = 255) with rfl | rfl | rfl | rfl | rfl | rfl | rfl | rfl | rfl | rfl | rfl | rfl | rfl | rfl | rfl | rfl | rfl | rfl | rfl | rfl | rfl | rfl | rfl | rfl | rfl | rfl | rfl | rfl | rfl | rfl | rfl | rfl
  · exact e13_100_224
  · exact e13_100_225
  · exact e13_100_226
  · exact e13_100_227
  · exact e13_100_228
  · exact e13_100_229
  · exact e13_100_230
  · exact e13_100_231
  · exact e13_100_232
  · exact e13_100_233
  · exact e13_100_234
  · exact e13_100_235
  · exact e13_100_236
  · exact e13_100_237
  · exact e13_100_238
  · exact e13_100_239
  · exact e13_100_240
  · exact e13_100_241
  · exact e13_100_242
  · exact e13_100_243
  · exact e13_100_244
  · exact e13_100_245
  · exact e13_100_246
  · exact e13_100_247
  · exact e13_100_248
  · exact e13_100_249
  · exact e13_100_250
  · exact e13_100_251
  · exact e13_100_252
  · exact e13_100_253
  · exact e13_100_254
  · exact e13_100_255
theorem e13_160_192 : pic 13 192 160 = pic 13 0 160 := by kernel_rfl
theorem e13_160_193 : pic 13 193 160 = pic 13 1 160 := by kernel_rfl
theorem e13_160_194 : pic 13 194 160 = pic 13 2 160 := by kernel_rfl
theorem e13_160_195 : pic 13 195 160 = pic 13 3 160 := by kernel_rfl
theorem e13_160_196 : pic 13 196 160 = pic 13 4 160 := by kernel_rfl
theorem e13_160_197 : pic 13 197 160 = pic 13 5 160 := by kernel_rfl
theorem e13_160_198 : pic 13 198 160 = pic 13 6 160 := by kernel_rfl
theorem e13_160_199 : pic 13 199 160 = pic 13 7 160 := by kernel_rfl
theorem e13_160_200 : pic 13 200 160 = pic 13 8 160 := by kernel_rfl
theorem e13_160_201 : pic 13 201 160 = pic 13 9 160 := by kernel_rfl
theorem e13_160_202 : pic 13 202 160 = pic 13 10 160 := by kernel_rfl
theorem e13_160_203 : pic 13 203 160 = pic 13 11 160 := by kernel_rfl
theorem e13_160_204 : pic 13 204 160 = pic 13 12 160 := by kernel_rfl
theorem e13_160_205 : pic 13 205 160 = pic 13 13 160 := by kernel_rfl
theorem e13_160_206 : pic 13 206 160 = pic 13 14 160 := by kernel_rfl
theorem e13_160_207 : pic 13 207 160 = pic 13 15 160 := by kernel_rfl
theorem e13_160_208 : pic 13 208 160 = pic 13 16 160 := by kernel_rfl
theorem e13_160_209 : pic 13 209 160 = pic 13 17 160 := by kernel_rfl
theorem e13_160_210 : pic 13 210 160 = pic 13 18 160 := by kernel_rfl
theorem e13_160_211 : pic 13 211 160 = pic 13 19 160 := by kernel_rfl
theorem e13_160_212 : pic 13 212 160 = pic 13 20 160 := by kernel_rfl
theorem e13_160_213 : pic 13 213 160 = pic 13 21 160 := by kernel_rfl
theorem e13_160_214 : pic 13 214 160 = pic 13 22 160 := by kernel_rfl
theorem e13_160_215 : pic 13 215 160 = pic 13 23 160 := by kernel_rfl
theorem e13_160_216 : pic 13 216 160 = pic 13 24 160 := by kernel_rfl
theorem e13_160_217 : pic 13 217 160 = pic 13 25 160 := by kernel_rfl
theorem e13_160_218 : pic 13 218 160 = pic 13 26 160 := by kernel_rfl
theorem e13_160_219 : pic 13 219 160 = pic 13 27 160 := by kernel_rfl
theorem e13_160_220 : pic 13 220 160 = pic 13 28 160 := by kernel_rfl
theorem e13_160_221 : pic 13 221 160 = pic 13 29 160 := by kernel_rfl
theorem e13_160_222 : pic 13 222 160 = pic 13 30 160 := by kernel_rfl
theorem e13_160_223 : pic 13 223 160 = pic 13 31 160 := by kernel_rfl
theorem e13_160_224 : pic 13 224 160 = pic 13 0 160 := by kernel_rfl
theorem e13_160_225 : pic 13 225 160 = pic 13 1 160 := by kernel_rfl
theorem e13_160_226 : pic 13 226 160 = pic 13 2 160 := by kernel_rfl
theorem e13_160_227 : pic 13 227 160 = pic 13 3 160 := by kernel_rfl
theorem e13_160_228 : pic 13 228 160 = pic 13 4 160 := by kernel_rfl
theorem e13_160_229 : pic 13 229 160 = pic 13 5 160 := by kernel_rfl
theorem e13_160_230 : pic 13 230 160 = pic 13 6 160 := by kernel_rfl
theorem e13_160_231 : pic 13 231 160 = pic 13 7 160 := by kernel_rfl
theorem e13_160_232 : pic 13 232 160 = pic 13 8 160 := by kernel_rfl
theorem e13_160_233 : pic 13 233 160 = pic 13 9 160 := by kernel_rfl
theorem e13_160_234 : pic 13 234 160 = pic 13 10 160 := by kernel_rfl
theorem e13_160_235 : pic 13 235 160 = pic 13 11 160 := by kernel_rfl
theorem e13_160_236 : pic 13 236 160 = pic 13 12 160 := by kernel_rfl
theorem e13_160_237 : pic 13 237 160 = pic 13 13 160 := by kernel_rfl
theorem e13_160_238 : pic 13 238 160 = pic 13 14 160 := by kernel_rfl
theorem e13_160_239 : pic 13 239 160 = pic 13 15 160 := by kernel_rfl
theorem e13_160_240 : pic 13 240 160 = pic 13 16 160 := by kernel_rfl
theorem e13_160_241 : pic 13 241 160 = pic 13 17 160 := by kernel_rfl
theorem e13_160_242 : pic 13 242 160 = pic 13 18 160 := by kernel_rfl
theorem e13_160_243 : pic 13 243 160 = pic 13 19 160 := by kernel_rfl
theorem e13_160_244 : pic 13 244 160 = pic 13 20 160 := by kernel_rfl
theorem e13_160_245 : pic 13 245 160 = pic 13 21 160 := by kernel_rfl
theorem e13_160_246 : pic 13 246 160 = pic 13 22 160 := by kernel_rfl
theorem e13_160_247 : pic 13 247 160 = pic 13 23 160 := by kernel_rfl
theorem e13_160_248 : pic 13 248 160 = pic 13 24 160 := by kernel_rfl
theorem e13_160_249 : pic 13 249 160 = pic 13 25 160 := by kernel_rfl
theorem e13_160_250 : pic 13 250 160 = pic 13 26 160 := by kernel_rfl
theorem e13_160_251 : pic 13 251 160 = pic 13 27 160 := by kernel_rfl
theorem e13_160_252 : pic 13 252 160 = pic 13 28 160 := by kernel_rfl
theorem e13_160_253 : pic 13 253 160 = pic 13 29 160 := by kernel_rfl
theorem e13_160_254 : pic 13 254 160 = pic 13 30 160 := by kernel_rfl
theorem e13_160_255 : pic 13 255 160 = pic 13 31 160 := by kernel_rfl
theorem e13_160_part6 (n : Nat) (h1 : 192 ≤ n) (h2 : n < 224) : pic 13 n 160 = pic 13 (n % 32) 160 := by
  rcases (by omega : n = 192 ∨ n = 193 ∨ n = 194 ∨ n = 195 ∨ n = 196 ∨ n = 197 ∨ n = 198 ∨ n = 199 ∨ n = 200 ∨ n = 201 ∨ n = 202 ∨ n = 203 ∨ n = 204 ∨ n = 205 ∨ n = 206 ∨ n = 207 ∨ n = 208 ∨ n = 209 ∨ n = 210 ∨ n = 211 ∨ n = 212 ∨ n = 213 ∨ n = 214 ∨ n = 215 ∨ n = 216 ∨ n = 217 ∨ n = 218 ∨ n = 219 ∨ n = 220 ∨ n = 221 ∨ n = 222 ∨ n = 223) with rfl | rfl | rfl | rfl | rfl | rfl | rfl | rfl | rfl | rfl | rfl | rfl | rfl | rfl | rfl | rfl | rfl | rfl | rfl | rfl | rfl | rfl | rfl | rfl | rfl | rfl | rfl | rfl | rfl | rfl | rfl | rfl
  · exact e13_160_192
  · exact e13_160_193
  · exact e13_160_194
  · exact e13_160_195
  · exact e13_160_196
  · exact e13_160_197
  · exact e13_160_198
  · exact e13_160_199
  · exact e13_160_200
  · exact e13_160_201
  · exact e13_160_202
  · exact e13_160_203
  · exact e13_160_204
  · exact e13_160_205
  · exact e13_160_206
  · exact e13_160_207
  · exact e13_160_208
  · exact e13_160_209
  · exact e13_160_210
  · exact e13_160_211
  · exact e13_160_212
  · exact e13_160_213
  · exact e13_160_214
  · exact e13_160_215
  · exact e13_160_216
  · exact e13_160_217
  · exact e13_160_218
  · exact e13_160_219
  · exact e13_160_220
  · exact e13_160_221
  · exact e13_160_222
  · exact e13_160_223
theorem e13_160_part7 (n : Nat) (h1 : 224 ≤ n) (h2 : n < 256) : pic 13 n 160 = pic 13 (n % 32) 160 := by
  rcases (by omega : n = 224 ∨ n = 225 ∨ n = 226 ∨ n = 227 ∨ n = 228 ∨ n = 229 ∨ n = 230 ∨ n = 231 ∨ n = 232 ∨ n = 233 ∨ n = 234 ∨ n = 235 ∨ n = 236 ∨ n = 237 ∨ n = 238 ∨ n = 239 ∨ n = 240 ∨ n = 241 ∨ n = 242 ∨ n = 243 ∨ n = 244 ∨ n = 245 ∨ n = 246 ∨ n = 247 ∨ n = 248 ∨ n = 249 ∨ n = 250 ∨ n = 251 ∨ n = 252 ∨ n = 253 ∨ n = 254 ∨ n = 255) with rfl | rfl | rfl | rfl | rfl | rfl | rfl | rfl | rfl | rfl | rfl | rfl | rfl | rfl | rfl | rfl | rfl | rfl | rfl | rfl | rfl | rfl | rfl | rfl | rfl | rfl | rfl | rfl | rfl | rfl | rfl | rfl
  · exact e13_160_224
  · exact e13_160_225
  · exact e13_160_226
  · exact e13_160_227
  · exact e13_160_228
  · exact e13_160_229
  · exact e13_160_230
  · exact e13_160_231
  · exact e13_160_232
  · exact e13_160_233
  · exact e13_160_234
  · exact e13_160_235
  · exact e13_160_236
  · exact e13_160_237
  · exact e13_160_238
  · exact e13_160_239
  · exact e13_160_240
  · exact e13_160_241
  · exact e13_160_242
  · exact e13_160_243
  · exact e13_160_244
  · exact e13_160_245
  · exact e13_160_246
  · exact e13_160_247
  · exact e13_160_248
  · exact e13_160_249
  · exact e13_160_250
  · exact e13_160_251
  · exact e13_160_252
  · exact e13_160_253
  · exact e13_160_254
  · exact e13_160_255
theorem e15_160_192 : pic 15 192 160 = pic 15 0 160 := by kernel_rfl
theorem e15_160_193 : pic 15 193 160 = pic 15 1 160 := by kernel_rfl
theorem e15_160_194 : pic 15 194 160 = pic 15 2 160 := by kernel_rfl
theorem e15_160_195 : pic 15 195 160 = pic 15 3 160 := by kernel_rfl
theorem e15_160_196 : pic 15 196 160 = pic 15 4 160 := by kernel_rfl
theorem e15_160_197 : pic 15 197 160 = pic 15 5 160 := by kernel_rfl
theorem e15_160_198 : pic 15 198 160 = pic 15 6 160 := by kernel_rfl
theorem e15_160_199 : pic 15 199 160 = pic 15 7 160 := by kernel_rfl
theorem e15_160_200 : pic 15 200 160 = pic 15 8 160 := by kernel_rfl
theorem e15_160_201 : pic 15 201 160 = pic 15 9 160 := by kernel_rfl
theorem e15_160_202 : pic 15 202 160 = pic 15 10 160 := by kernel_rfl
theorem e15_160_203 : pic 15 203 160 = pic 15 11 160 := by kernel_rfl
theorem e15_160_204 : pic 15 204 160 = pic 15 12 160 := by kernel_rfl
theorem e15_160_205 : pic 15 205 160 = pic 15 13 160 := by kernel_rfl
theorem e15_160_206 : pic 15 206 160 = pic 15 14 160 := by kernel_rfl
theorem e15_160_207 : pic 15 207 160 = pic 15 15 160 := by kernel_rfl
theorem e15_160_208 : pic 15 208 160 = pic 15 16 160 := by kernel_rfl
theorem e15_160_209 : pic 15 209 160 = pic 15 17 160 := by kernel_rfl
theorem e15_160_210 : pic 15 210 160 = pic 15 18 160 := by kernel_rfl
theorem e15_160_211 : pic 15 211 160 = pic 15 19 160 := by kernel_rfl
theorem e15_160_212 : pic 15 212 160 = pic 15 20 160 := by kernel_rfl
theorem e15_160_213 : pic 15 213 160 = pic 15 21 160 := by kernel_rfl
theorem e15_160_214 : pic 15 214 160 = pic 15 22 160 := by kernel_rfl
theorem e15_160_215 : pic 15 215 160 = pic 15 23 160 := by kernel_rfl
theorem e15_160_216 : pic 15 216 160 = pic 15 24 160 := by kernel_rfl
theorem e15_160_217 : pic 15 217 160 = pic 15 25 160 := by kernel_rfl
theorem e15_160_218 : pic 15 218 160 = pic 15 26 160 := by kernel_rfl
theorem e15_160_219 : pic 15 219 160 = pic 15 27 160 := by kernel_rfl
theorem e15_160_220 : pic 15 220 160 = pic 15 28 160 := by kernel_rfl
theorem e15_160_221 : pic 15 221 160 = pic 15 29 160 := by kernel_rfl
theorem e15_160_222 : pic 15 222 160 = pic 15 30 160 := by kernel_rfl
theorem e15_160_223 : pic 15 223 160 = pic 15 31 160 := by kernel_rfl
theorem e15_160_224 : pic 15 224 160 = pic 15 0 160 := by kernel_rfl
theorem e15_160_225 : pic 15 225 160 = pic 15 1 160 := by kernel_rfl
theorem e15_160_226 : pic 15 226 160 = pic 15 2 160 := by kernel_rfl
theorem e15_160_227 : pic 15 227 160 = pic 15 3 160 := by kernel_rfl
theorem e15_160_228 : pic 15 228 160 = pic 15 4 160 := by kernel_rfl
theorem e15_160_229 : pic 15 229 160 = pic 15 5 160 := by kernel_rfl
theorem e15_160_230 : pic 15 230 160 = pic 15 6 160 := by kernel_rfl
theorem e15_160_231 : pic 15 231 160 = pic 15 7 160 := by kernel_rfl
theorem e15_160_232 : pic 15 232 160 = pic 15 8 160 := by kernel_rfl
theorem e15_160_233 : pic 15 233 160 = pic 15 9 160 := by kernel_rfl
theorem e15_160_234 : pic 15 234 160 = pic 15 10 160 := by kernel_rfl
theorem e15_160_235 : pic 15 235 160 = pic 15 11 160 := by kernel_rfl
theorem e15_160_236 : pic 15 236 160 = pic 15 12 160 := by kernel_rfl
theorem e15_160_237 : pic 15 237 160 = pic 15 13 160 := by kernel_rfl
theorem e15_160_238 : pic 15 238 160 = pic 15 14 160 := by kernel_rfl
theorem e15_160_239 : pic 15 239 160 = pic 15 15 160 := by kernel_rfl
theorem e15_160_240 : pic 15 240 160 = pic 15 16 160 := by kernel_rfl
theorem e15_160_241 : pic 15 241 160 = pic 15 17 160 := by kernel_rfl
theorem e15_160_242 : pic 15 242 160 = pic 15 18 160 := by kernel_rfl
theorem e15_160_243 : pic 15 243 160 = pic 15 19 160 := by kernel_rfl
theorem e15_160_244 : pic 15 244 160 = pic 15 20 160 := by kernel_rfl
theorem e15_160_245 : pic 15 245 160 = pic 15 21 160 := by kernel_rfl
theorem e15_160_246 : pic 15 246 160 = pic 15 22 160 := by kernel_rfl
theorem e15_160_247 : pic 15 247 160 = pic 15 23 160 := by kernel_rfl
theorem e15_160_248 : pic 15 248 160 = pic 15 24 160 := by kernel_rfl
theorem e15_160_249 : pic 15 249 160 = pic 15 25 160 := by kernel_rfl
theorem e15_160_250 : pic 15 250 160 = pic 15 26 160 := by kernel_rfl
theorem e15_160_251 : pic 15 251 160 = pic 15 27 160 := by kernel_rfl
theorem e15_160_252 : pic 15 252 160 = pic 15 28 160 := by kernel_rfl
theorem e15_160_253 : pic 15 253 160 = pic 15 29 160 := by kernel_rfl
theorem e15_160_254 : pic 15 254 160 = pic 15 30 160 := by kernel_rfl
theorem e15_160_255 : pic 15 255 160 = pic 15 31 160 := by kernel_rfl
theorem e15_160_part6 (n : Nat) (h1 : 192 ≤ n) (h2 : n < 224) : pic 15 n 160 = pic 15 (n % 32) 160 := by
  rcases (by omega : n = 192 ∨ n = 193 ∨ n = 194 ∨ n = 195 ∨ n = 196 ∨ n = 197 ∨ n = 198 ∨ n = 199 ∨ n = 200 ∨ n = 201 ∨ n = 202 ∨ n = 203 ∨ n = 204 ∨ n = 205 ∨ n = 206 ∨ n = 207 ∨ n = 208 ∨ n = 209 ∨ n = 210 ∨ n = 211 ∨ n = 212 ∨ n = 213 ∨ n = 214 ∨ n = 215 ∨ n = 216 ∨ n = 217 ∨ n = 218 ∨ n = 219 ∨ n = 220 ∨ n = 221 ∨ n = 222 ∨ n = 223) with rfl | rfl | rfl | rfl | rfl | rfl | rfl | rfl | rfl | rfl | rfl | rfl | rfl | rfl | rfl | rfl | rfl | rfl | rfl | rfl | rfl | rfl | rfl | rfl | rfl | rfl | rfl | rfl | rfl | rfl | rfl | rfl
  · exact e15_160_192
  · exact e15_160_193
  · exact e15_160_194
  · exact e15_160_195
  · exact e15_160_196
  · exact e15_160_197
  · exact e15_160_198
  · exact e15_160_199
  · exact e15_160_200
  · exact e15_160_201
  · exact e15_160_202
  · exact e15_160_203
  · exact e15_160_204
  · exact e15_160_205
  · exact e15_160_206
  · exact e15_160_207
  · exact e15_160_208
  · exact e15_160_209
  · exact e15_160_210
  · exact e15_160_211
  · exact e15_160_212
  · exact e15_160_213
  · exact e15_160_214
  · exact e15_160_215
  · exact e15_160_216
  · exact e15_160_217
  · exact e15_160_218
  · exact e15_160_219
  · exact e15_160_220
  · exact e15_160_221
  · exact e15_160_222
  · exact e15_160_223
theorem e15_160_part7 (n : Nat) (h1 : 224 ≤ n) (h2 : n < 256) : pic 15 n 160 = pic 15 (n % 32) 160 := by
  rcases (by omega : n = 224 ∨ n = 225 ∨ n = 226 ∨ n = 227 ∨ n = 228 ∨ n = 229 ∨ n = 230 ∨ n = 231 ∨ n = 232 ∨ n = 233 ∨ n = 234 ∨ n = 235 ∨ n = 236 ∨ n = 237 ∨ n = 238 ∨ n = 239 ∨ n = 240 ∨ n = 241 ∨ n = 242 ∨ n = 243 ∨ n = 244 ∨ n = 245 ∨ n = 246 ∨ n = 247 ∨ n = 248 ∨ n = 249 ∨ n = 250 ∨ n = 251 ∨ n = 252 ∨ n = 253 ∨ n = 254 ∨ n = 255) with rfl | rfl | rfl | rfl | rfl | rfl | rfl | rfl | rfl | rfl | rfl | rfl | rfl | rfl | rfl | rfl | rfl | rfl | rfl | rfl | rfl | rfl | rfl | rfl | rfl | rfl | rfl | rfl | rfl | rfl | rfl | rfl
  · exact e15_160_224
  · exact e15_160_225
  · exact e15_160_226
  · exact e15_160_227
  · exact e15_160_228
  · exact e15_160_229
  · exact e15_160_230
  · exact e15_160_231
  · exact e15_160_232
  · exact e15_160_233
  · exact e15_160_234
  · exact e15_160_235
  · exact e15_160_236
  · exact e15_160_237
  · exact e15_160_238
  · exact e15_160_239
  · exact e15_160_240
  · exact e15_160_241
  · exact e15_160_242
  · exact e15_160_243
  · exact e15_160_244
  · exact e15_160_245
  · exact e15_160_246
  · exact e15_160_247
  · exact e15_160_248
  · exact e15_160_249
  · exact e15_160_250
  · exact e15_160_251
  · exact e15_160_252
  · exact e15_160_253
  · exact e15_160_254
  · exact e15_160_255
end Go.Proofs.SA
