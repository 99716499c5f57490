/- Part 42 of the proof: FN7D. -/
import Derived.Test.YtapedmpbgeoieaaGreatC7p39
set_option linter.unusedSimpArgs false
set_option linter.unusedVariables false
namespace Go.Am
open Go Go.Proofs
set_option maxRecDepth 100000
set_option linter.unusedVariables false
theorem l7_150 : Step7 150 151 := loop_step fun _ _ _ _ _ _ => by kernel_rfl
theorem l7_151 : Step7 151 152 := loop_step fun _ _ _ _ _ _ => by kernel_rfl
theorem l7_152 : Step7 152 153 := loop_step fun _ _ _ _ _ _ => by kernel_rfl
theorem l7_153 : Step7 153 154 := loop_step fun _ _ _ _ _ _ => by kernel_rfl
theorem l7_154 : Step7 154 155 := loop_step fun _ _ _ _ _ _ => by kernel_rfl
theorem l7_155 : Step7 155 156 := loop_step fun _ _ _ _ _ _ => by kernel_rfl
theorem l7_156 : Step7 156 157 := loop_step fun _ _ _ _ _ _ => by kernel_rfl
theorem l7_157 : Step7 157 158 := loop_step fun _ _ _ _ _ _ => by kernel_rfl
theorem l7_158 : Step7 158 159 := loop_step fun _ _ _ _ _ _ => by kernel_rfl
theorem l7_159 : Step7 159 160 := loop_step fun _ _ _ _ _ _ => by kernel_rfl
theorem l7_160 : Step7 160 161 := loop_step fun _ _ _ _ _ _ => by kernel_rfl
theorem l7_161 : Step7 161 162 := loop_step fun _ _ _ _ _ _ => by kernel_rfl
theorem l7_162 : Step7 162 163 := loop_step fun _ _ _ _ _ _ => by kernel_rfl
theorem l7_163 : Step7 163 164 := loop_step fun _ _ _ _ _ _ => by kernel_rfl
theorem l7_164 : Step7 164 165 := loop_step fun _ _ _ _ _ _ => by kernel_rfl
theorem l7_165 : Step7 165 166 := loop_step fun _ _ _ _ _ _ => by kernel_rfl
theorem l7_166 : Step7 166 167 := loop_step fun _ _ _ _ _ _ => by kernel_rfl
theorem l7_167 : Step7 167 168 := loop_step fun _ _ _ _ _ _ => by kernel_rfl
theorem l7_168 : Step7 168 169 := loop_step fun _ _ _ _ _ _ => by kernel_rfl
theorem l7_169 : Step7 169 170 := loop_step fun _ _ _ _ _ _ => by kernel_rfl
theorem l7_170 : Step7 170 171 := loop_step fun _ _ _ _ _ _ => by kernel_rfl
theorem l7_171 : Step7 171 172 := loop_step fun _ _ _ _ _ _ => by kernel_rfl
theorem l7_172 : Step7 172 173 := loop_step fun _ _ _ _ _ _ => by kernel_rfl
theorem l7_173 : Step7 173 174 := loop_step fun _ _ _ _ _ _ => by kernel_rfl
theorem l7_174 : Step7 174 175 := loop_step fun _ _ _ _ _ _ => by kernel_rfl
theorem l7_175 : Step7 175 176 := loop_step fun _ _ _ _ _ _ => by kernel_rfl
theorem l7_176 : Step7 176 177 := loop_step fun _ _ _ _ _ _ => by kernel_rfl
theorem l7_177 : Step7 177 178 := loop_step fun _ _ _ _ _ _ => by kernel_rfl
theorem l7_178 : Step7 178 179 := loop_step fun _ _ _ _ _ _ => by kernel_rfl
theorem l7_179 : Step7 179 180 := loop_step fun _ _ _ _ _ _ => by kernel_rfl
theorem l7_180 : Step7 180 181 := loop_step fun _ _ _ _ _ _ => by kernel_rfl
theorem l7_181 : Step7 181 182 := loop_step fun _ _ _ _ _ _ => by kernel_rfl
theorem l7_182 : Step7 182 183 := loop_step fun _ _ _ _ _ _ => by kernel_rfl
theorem l7_183 : Step7 183 184 := loop_step fun _ _ _ _ _ _ => by kernel_rfl
theorem l7_184 : Step7 184 185 := loop_step fun _ _ _ _ _ _ => by kernel_rfl
theorem l7_185 : Step7 185 186 := loop_step fun _ _ _ _ _ _ => by kernel_rfl
theorem l7_186 : Step7 186 187 := loop_step fun _ _ _ _ _ _ => by kernel_rfl
theorem l7_187 : Step7 187 188 := loop_step fun _ _ _ _ _ _ => by kernel_rfl
theorem l7_188 : Step7 188 189 := loop_step fun _ _ _ _ _ _ => by kernel_rfl
theorem l7_189 : Step7 189 190 := loop_step fun _ _ _ _ _ _ => by kernel_rfl
theorem l7_190 : Step7 190 191 := loop_step fun _ _ _ _ _ _ => by kernel_rfl
theorem l7_191 : Step7 191 192 := loop_step fun _ _ _ _ _ _ => by kernel_rfl
theorem l7_192 : Step7 192 193 := loop_step fun _ _ _ _ _ _ => by kernel_rfl
theorem l7_193 : Step7 193 194 := loop_step fun _ _ _ _ _ _ => by kernel_rfl
theorem l7_194 : Step7 194 195 := loop_step fun _ _ _ _ _ _ => by kernel_rfl
theorem l7_195 : Step7 195 196 := loop_step fun _ _ _ _ _ _ => by kernel_rfl
theorem l7_196 : Step7 196 197 := loop_step fun _ _ _ _ _ _ => by kernel_rfl
theorem l7_197 : Step7 197 198 := loop_step fun _ _ _ _ _ _ => by kernel_rfl
theorem l7_198 : Step7 198 199 := loop_step fun _ _ _ _ _ _ => by kernel_rfl
theorem l7_199 : Step7 199 200 := loop_step fun _ _ _ _ _ _ => by kernel_rfl
theorem l7_200 : Step7 200 201 := loop_step fun _ _ _ _ _ _ => by kernel_rfl
theorem l7_201 : Step7 201 202 := loop_step fun _ _ _ _ _ _ => by kernel_rfl
theorem l7_202 : Step7 202 203 := loop_step fun _ _ _ _ _ _ => by kernel_rfl
theorem l7_203 : Step7 203 204 := loop_step fun _ _ _ _ _ _ => by kernel_rfl
theorem l7_204 : Step7 204 205 := loop_step fun _ _ _ _ _ _ => by kernel_rfl

end Go.Am
