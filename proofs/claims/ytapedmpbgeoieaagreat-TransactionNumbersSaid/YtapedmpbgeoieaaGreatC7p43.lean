/- Part 43 of the proof: FN7E. -/
import Derived.Test.YtapedmpbgeoieaaGreatC7p39
set_option linter.unusedSimpArgs false
set_option linter.unusedVariables false
namespace Go.Am
open Go Go.Proofs
set_option maxRecDepth 100000
set_option linter.unusedVariables false
theorem l7_205 : Step7 205 206 := loop_step fun _ _ _ _ _ _ => by kernel_rfl
theorem l7_206 : Step7 206 207 := loop_step fun _ _ _ _ _ _ => by kernel_rfl
theorem l7_207 : Step7 207 208 := loop_step fun _ _ _ _ _ _ => by kernel_rfl
theorem l7_208 : Step7 208 209 := loop_step fun _ _ _ _ _ _ => by kernel_rfl
theorem l7_209 : Step7 209 210 := loop_step fun _ _ _ _ _ _ => by kernel_rfl
theorem l7_210 : Step7 210 211 := loop_step fun _ _ _ _ _ _ => by kernel_rfl
theorem l7_211 : Step7 211 212 := loop_step fun _ _ _ _ _ _ => by kernel_rfl
theorem l7_212 : Step7 212 213 := loop_step fun _ _ _ _ _ _ => by kernel_rfl
theorem l7_213 : Step7 213 214 := loop_step fun _ _ _ _ _ _ => by kernel_rfl
theorem l7_214 : Step7 214 215 := loop_step fun _ _ _ _ _ _ => by kernel_rfl
theorem l7_215 : Step7 215 216 := loop_step fun _ _ _ _ _ _ => by kernel_rfl
theorem l7_216 : Step7 216 217 := loop_step fun _ _ _ _ _ _ => by kernel_rfl
theorem l7_217 : Step7 217 218 := loop_step fun _ _ _ _ _ _ => by kernel_rfl
theorem l7_218 : Step7 218 219 := loop_step fun _ _ _ _ _ _ => by kernel_rfl
theorem l7_219 : Step7 219 220 := loop_step fun _ _ _ _ _ _ => by kernel_rfl
theorem l7_220 : Step7 220 221 := loop_step fun _ _ _ _ _ _ => by kernel_rfl
theorem l7_221 : Step7 221 222 := loop_step fun _ _ _ _ _ _ => by kernel_rfl
theorem l7_222 : Step7 222 223 := loop_step fun _ _ _ _ _ _ => by kernel_rfl
theorem l7_223 : Step7 223 224 := loop_step fun _ _ _ _ _ _ => by kernel_rfl
theorem l7_224 : Step7 224 225 := loop_step fun _ _ _ _ _ _ => by kernel_rfl
theorem l7_225 : Step7 225 226 := loop_step fun _ _ _ _ _ _ => by kernel_rfl
theorem l7_226 : Step7 226 227 := loop_step fun _ _ _ _ _ _ => by kernel_rfl
theorem l7_227 : Step7 227 228 := loop_step fun _ _ _ _ _ _ => by kernel_rfl
theorem l7_228 : Step7 228 229 := loop_step fun _ _ _ _ _ _ => by kernel_rfl
theorem l7_229 : Step7 229 230 := loop_step fun _ _ _ _ _ _ => by kernel_rfl
theorem l7_230 : Step7 230 231 := loop_step fun _ _ _ _ _ _ => by kernel_rfl
theorem l7_231 : Step7 231 232 := loop_step fun _ _ _ _ _ _ => by kernel_rfl
theorem l7_232 : Step7 232 233 := loop_step fun _ _ _ _ _ _ => by kernel_rfl
theorem l7_233 : Step7 233 234 := loop_step fun _ _ _ _ _ _ => by kernel_rfl
theorem l7_234 : Step7 234 235 := loop_step fun _ _ _ _ _ _ => by kernel_rfl
theorem l7_235 : Step7 235 236 := loop_step fun _ _ _ _ _ _ => by kernel_rfl
theorem l7_236 : Step7 236 237 := loop_step fun _ _ _ _ _ _ => by kernel_rfl
theorem l7_237 : Step7 237 238 := loop_step fun _ _ _ _ _ _ => by kernel_rfl
theorem l7_238 : Step7 238 239 := loop_step fun _ _ _ _ _ _ => by kernel_rfl
theorem l7_239 : Step7 239 240 := loop_step fun _ _ _ _ _ _ => by kernel_rfl
theorem l7_240 : Step7 240 241 := loop_step fun _ _ _ _ _ _ => by kernel_rfl
theorem l7_241 : Step7 241 242 := loop_step fun _ _ _ _ _ _ => by kernel_rfl
theorem l7_242 : Step7 242 243 := loop_step fun _ _ _ _ _ _ => by kernel_rfl
theorem l7_243 : Step7 243 244 := loop_step fun _ _ _ _ _ _ => by kernel_rfl
theorem l7_244 : Step7 244 245 := loop_step fun _ _ _ _ _ _ => by kernel_rfl
theorem l7_245 : Step7 245 246 := loop_step fun _ _ _ _ _ _ => by kernel_rfl
theorem l7_246 : Step7 246 247 := loop_step fun _ _ _ _ _ _ => by kernel_rfl
theorem l7_247 : Step7 247 248 := loop_step fun _ _ _ _ _ _ => by kernel_rfl
theorem l7_248 : Step7 248 249 := loop_step fun _ _ _ _ _ _ => by kernel_rfl
theorem l7_249 : Step7 249 250 := loop_step fun _ _ _ _ _ _ => by kernel_rfl
theorem l7_250 : Step7 250 251 := loop_step fun _ _ _ _ _ _ => by kernel_rfl
theorem l7_251 : Step7 251 252 := loop_step fun _ _ _ _ _ _ => by kernel_rfl
theorem l7_252 : Step7 252 253 := loop_step fun _ _ _ _ _ _ => by kernel_rfl
theorem l7_253 : Step7 253 254 := loop_step fun _ _ _ _ _ _ => by kernel_rfl
theorem l7_254 : Step7 254 255 := loop_step fun _ _ _ _ _ _ => by kernel_rfl

end Go.Am
