/- Part 44 of the proof: FN7. -/
import Derived.Test.YtapedmpbgeoieaaGreatC7p40
import Derived.Test.YtapedmpbgeoieaaGreatC7p41
import Derived.Test.YtapedmpbgeoieaaGreatC7p42
import Derived.Test.YtapedmpbgeoieaaGreatC7p43
set_option linter.unusedSimpArgs false
set_option linter.unusedVariables false
namespace Go.Am
open Go Go.Proofs
set_option maxRecDepth 100000
set_option linter.unusedVariables false
theorem loop_all (x0 : List Int) (x1 : End) (x2 : Tab) (x3 : Msg) : lv cd7 C7 (J7L x0 x1 x2 x3 0) = lv cd7 C7 (J7L x0 x1 x2 x3 255) := ((((((((l7_0 x0 x1 x2 x3).trans ((l7_1 x0 x1 x2 x3).trans (l7_2 x0 x1 x2 x3))).trans (((l7_3 x0 x1 x2 x3).trans (l7_4 x0 x1 x2 x3)).trans ((l7_5 x0 x1 x2 x3).trans (l7_6 x0 x1 x2 x3)))).trans ((((l7_7 x0 x1 x2 x3).trans (l7_8 x0 x1 x2 x3)).trans ((l7_9 x0 x1 x2 x3).trans (l7_10 x0 x1 x2 x3))).trans (((l7_11 x0 x1 x2 x3).trans (l7_12 x0 x1 x2 x3)).trans ((l7_13 x0 x1 x2 x3).trans (l7_14 x0 x1 x2 x3))))).trans (((((l7_15 x0 x1 x2 x3).trans (l7_16 x0 x1 x2 x3)).trans ((l7_17 x0 x1 x2 x3).trans (l7_18 x0 x1 x2 x3))).trans (((l7_19 x0 x1 x2 x3).trans (l7_20 x0 x1 x2 x3)).trans ((l7_21 x0 x1 x2 x3).trans (l7_22 x0 x1 x2 x3)))).trans ((((l7_23 x0 x1 x2 x3).trans (l7_24 x0 x1 x2 x3)).trans ((l7_25 x0 x1 x2 x3).trans (l7_26 x0 x1 x2 x3))).trans (((l7_27 x0 x1 x2 x3).trans (l7_28 x0 x1 x2 x3)).trans ((l7_29 x0 x1 x2 x3).trans (l7_30 x0 x1 x2 x3)))))).trans ((((((l7_31 x0 x1 x2 x3).trans (l7_32 x0 x1 x2 x3)).trans ((l7_33 x0 x1 x2 x3).trans (l7_34 x0 x1 x2 x3))).trans (((l7_35 x0 x1 x2 x3).trans (l7_36 x0 x1 x2 x3)).trans ((l7_37 x0 x1 x2 x3).trans (l7_38 x0 x1 x2 x3)))).trans ((((l7_39 x0 x1 x2 x3).trans (l7_40 x0 x1 x2 x3)).trans ((l7_41 x0 x1 x2 x3).trans (l7_42 x0 x1 x2 x3))).trans (((l7_43 x0 x1 x2 x3).trans (l7_44 x0 x1 x2 x3)).trans ((l7_45 x0 x1 x2 x3).trans (l7_46 x0 x1 x2 x3))))).trans (((((l7_47 x0 x1 x2 x3).trans (l7_48 x0 x1 x2 x3)).trans ((l7_49 x0 x1 x2 x3).trans (l7_50 x0 x1 x2 x3))).trans (((l7_51 x0 x1 x2 x3).trans (l7_52 x0 x1 x2 x3)).trans ((l7_53 x0 x1 x2 x3).trans (l7_54 x0 x1 x2 x3)))).trans ((((l7_55 x0 x1 x2 x3).trans (l7_56 x0 x1 x2 x3)).trans ((l7_57 x0 x1 x2 x3).trans (l7_58 x0 x1 x2 x3))).trans (((l7_59 x0 x1 x2 x3).trans (l7_60 x0 x1 x2 x3)).trans ((l7_61 x0 x1 x2 x3).trans (l7_62 x0 x1 x2 x3))))))).trans (((((((l7_63 x0 x1 x2 x3).trans (l7_64 x0 x1 x2 x3)).trans ((l7_65 x0 x1 x2 x3).trans (l7_66 x0 x1 x2 x3))).trans (((l7_67 x0 x1 x2 x3).trans (l7_68 x0 x1 x2 x3)).trans ((l7_69 x0 x1 x2 x3).trans (l7_70 x0 x1 x2 x3)))).trans ((((l7_71 x0 x1 x2 x3).trans (l7_72 x0 x1 x2 x3)).trans ((l7_73 x0 x1 x2 x3).trans (l7_74 x0 x1 x2 x3))).trans (((l7_75 x0 x1 x2 x3).trans (l7_76 x0 x1 x2 x3)).trans ((l7_77 x0 x1 x2 x3).trans (l7_78 x0 x1 x2 x3))))).trans (((((l7_79 x0 x1 x2 x3).trans (l7_80 x0 x1 x2 x3)).trans ((l7_81 x0 x1 x2 x3).trans (l7_82 x0 x1 x2 x3))).trans (((l7_83 x0 x1 x2 x3).trans (l7_84 x0 x1 x2 x3)).trans ((l7_85 x0 x1 x2 x3).trans (l7_86 x0 x1 x2 x3)))).trans ((((l7_87 x0 x1 x2 x3).trans (l7_88 x0 x1 x2 x3)).trans ((l7_89 x0 x1 x2 x3).trans (l7_90 x0 x1 x2 x3))).trans (((l7_91 x0 x1 x2 x3).trans (l7_92 x0 x1 x2 x3)).trans ((l7_93 x0 x1 x2 x3).trans (l7_94 x0 x1 x2 x3)))))).trans ((((((l7_95 x0 x1 x2 x3).trans (l7_96 x0 x1 x2 x3)).trans ((l7_97 x0 x1 x2 x3).trans (l7_98 x0 x1 x2 x3))).trans (((l7_99 x0 x1 x2 x3).trans (l7_100 x0 x1 x2 x3)).trans ((l7_101 x0 x1 x2 x3).trans (l7_102 x0 x1 x2 x3)))).trans ((((l7_103 x0 x1 x2 x3).trans (l7_104 x0 x1 x2 x3)).trans ((l7_105 x0 x1 x2 x3).trans (l7_106 x0 x1 x2 x3))).trans (((l7_107 x0 x1 x2 x3).trans (l7_108 x0 x1 x2 x3)).trans ((l7_109 x0 x1 x2 x3).trans (l7_110 x0 x1 x2 x3))))).trans (((((l7_111 x0 x1 x2 x3).trans (l7_112 x0 x1 x2 x3)).trans ((l7_113 x0 x1 x2 x3).trans (l7_114 x0 x1 x2 x3))).trans (((l7_115 x0 x1 x2 x3).trans (l7_116 x0 x1 x2 x3)).trans ((l7_117 x0 x1 x2 x3).trans (l7_118 x0 x1 x2 x3)))).trans ((((l7_119 x0 x1 x2 x3).trans (l7_120 x0 x1 x2 x3)).trans ((l7_121 x0 x1 x2 x3).trans (l7_122 x0 x1 x2 x3))).trans (((l7_123 x0 x1 x2 x3).trans (l7_124 x0 x1 x2 x3)).trans ((l7_125 x0 x1 x2 x3).trans (l7_126 x0 x1 x2 x3)))))))).trans ((((((((l7_127 x0 x1 x2 x3).trans (l7_128 x0 x1 x2 x3)).trans ((l7_129 x0 x1 x2 x3).trans (l7_130 x0 x1 x2 x3))).trans (((l7_131 x0 x1 x2 x3).trans (l7_132 x0 x1 x2 x3)).trans ((l7_133 x0 x1 x2 x3).trans (l7_134 x0 x1 x2 x3)))).trans ((((l7_135 x0 x1 x2 x3).trans (l7_136 x0 x1 x2 x3)).trans ((l7_137 x0 x1 x2 x3).trans (l7_138 x0 x1 x2 x3))).trans (((l7_139 x0 x1 x2 x3).trans (l7_140 x0 x1 x2 x3)).trans ((l7_141 x0 x1 x2 x3).trans (l7_142 x0 x1 x2 x3))))).trans (((((l7_143 x0 x1 x2 x3).trans (l7_144 x0 x1 x2 x3)).trans ((l7_145 x0 x1 x2 x3).trans (l7_146 x0 x1 x2 x3))).trans (((l7_147 x0 x1 x2 x3).trans (l7_148 x0 x1 x2 x3)).trans ((l7_149 x0 x1 x2 x3).trans (l7_150 x0 x1 x2 x3)))).trans ((((l7_151 x0 x1 x2 x3).trans (l7_152 x0 x1 x2 x3)).trans ((l7_153 x0 x1 x2 x3).trans (l7_154 x0 x1 x2 x3))).trans (((l7_155 x0 x1 x2 x3).trans (l7_156 x0 x1 x2 x3)).trans ((l7_157 x0 x1 x2 x3).trans (l7_158 x0 x1 x2 x3)))))).trans ((((((l7_159 x0 x1 x2 x3).trans (l7_160 x0 x1 x2 x3)).trans ((l7_161 x0 x1 x2 x3).trans (l7_162 x0 x1 x2 x3))).trans (((l7_163 x0 x1 x2 x3).trans (l7_164 x0 x1 x2 x3)).trans ((l7_165 x0 x1 x2 x3).trans (l7_166 x0 x1 x2 x3)))).trans ((((l7_167 x0 x1 x2 x3).trans (l7_168 x0 x1 x2 x3)).trans ((l7_169 x0 x1 x2 x3).trans (l7_170 x0 x1 x2 x3))).trans (((l7_171 x0 x1 x2 x3).trans (l7_172 x0 x1 x2 x3)).trans ((l7_173 x0 x1 x2 x3).trans (l7_174 x0 x1 x2 x3))))).trans (((((l7_175 x0 x1 x2 x3).trans (l7_176 x0 x1 x2 x3)).trans ((l7_177 x0 x1 x2 x3).trans (l7_178 x0 x1 x2 x3))).trans (((l7_179 x0 x1 x2 x3).trans (l7_180 x0 x1 x2 x3)).trans ((l7_181 x0 x1 x2 x3).trans (l7_182 x0 x1 x2 x3)))).trans ((((l7_183 x0 x1 x2 x3).trans (l7_184 x0 x1 x2 x3)).trans ((l7_185 x0 x1 x2 x3).trans (l7_186 x0 x1 x2 x3))).trans (((l7_187 x0 x1 x2 x3).trans (l7_188 x0 x1 x2 x3)).trans ((l7_189 x0 x1 x2 x3).trans (l7_190 x0 x1 x2 x3))))))).trans (((((((l7_191 x0 x1 x2 x3).trans (l7_192 x0 x1 x2 x3)).trans ((l7_193 x0 x1 x2 x3).trans (l7_194 x0 x1 x2 x3))).trans (((l7_195 x0 x1 x2 x3).trans (l7_196 x0 x1 x2 x3)).trans ((l7_197 x0 x1 x2 x3).trans (l7_198 x0 x1 x2 x3)))).trans ((((l7_199 x0 x1 x2 x3).trans (l7_200 x0 x1 x2 x3)).trans ((l7_201 x0 x1 x2 x3).trans (l7_202 x0 x1 x2 x3))).trans (((l7_203 x0 x1 x2 x3).trans (l7_204 x0 x1 x2 x3)).trans ((l7_205 x0 x1 x2 x3).trans (l7_206 x0 x1 x2 x3))))).trans (((((l7_207 x0 x1 x2 x3).trans (l7_208 x0 x1 x2 x3)).trans ((l7_209 x0 x1 x2 x3).trans (l7_210 x0 x1 x2 x3))).trans (((l7_211 x0 x1 x2 x3).trans (l7_212 x0 x1 x2 x3)).trans ((l7_213 x0 x1 x2 x3).trans (l7_214 x0 x1 x2 x3)))).trans ((((l7_215 x0 x1 x2 x3).trans (l7_216 x0 x1 x2 x3)).trans ((l7_217 x0 x1 x2 x3).trans (l7_218 x0 x1 x2 x3))).trans (((l7_219 x0 x1 x2 x3).trans (l7_220 x0 x1 x2 x3)).trans ((l7_221 x0 x1 x2 x3).trans (l7_222 x0 x1 x2 x3)))))).trans ((((((l7_223 x0 x1 x2 x3).trans (l7_224 x0 x1 x2 x3)).trans ((l7_225 x0 x1 x2 x3).trans (l7_226 x0 x1 x2 x3))).trans (((l7_227 x0 x1 x2 x3).trans (l7_228 x0 x1 x2 x3)).trans ((l7_229 x0 x1 x2 x3).trans (l7_230 x0 x1 x2 x3)))).trans ((((l7_231 x0 x1 x2 x3).trans (l7_232 x0 x1 x2 x3)).trans ((l7_233 x0 x1 x2 x3).trans (l7_234 x0 x1 x2 x3))).trans (((l7_235 x0 x1 x2 x3).trans (l7_236 x0 x1 x2 x3)).trans ((l7_237 x0 x1 x2 x3).trans (l7_238 x0 x1 x2 x3))))).trans (((((l7_239 x0 x1 x2 x3).trans (l7_240 x0 x1 x2 x3)).trans ((l7_241 x0 x1 x2 x3).trans (l7_242 x0 x1 x2 x3))).trans (((l7_243 x0 x1 x2 x3).trans (l7_244 x0 x1 x2 x3)).trans ((l7_245 x0 x1 x2 x3).trans (l7_246 x0 x1 x2 x3)))).trans ((((l7_247 x0 x1 x2 x3).trans (l7_248 x0 x1 x2 x3)).trans ((l7_249 x0 x1 x2 x3).trans (l7_250 x0 x1 x2 x3))).trans (((l7_251 x0 x1 x2 x3).trans (l7_252 x0 x1 x2 x3)).trans ((l7_253 x0 x1 x2 x3).trans (l7_254 x0 x1 x2 x3)))))))))
noncomputable def tS7 (x0 : End) (x1 : Tab) (x2 : List Int) (x3 : Msg) : Tr (Bool) :=
  .cond V24.isSome
  (.cond (!F24)
    (.some false)
    (.go (J7L x2 x0 x1 x3 0)))
  (.none)
theorem eS7 (x0 : End) (x1 : Tab) (x2 : List Int) (x3 : Msg) : vlim cd7 (S7 x0 x1 x2 x3) = (tS7 x0 x1 x2 x3).val cd7 C7 := Tr.val_eq 32 (fun H z => by kernel_rfl)
noncomputable def tJ7L255 (x0 : List Int) (x1 : End) (x2 : Tab) (x3 : Msg) : Tr (Bool) :=
  .go (J7_13 x0 x1 x2 x3)
theorem eJ7L255 (x0 : List Int) (x1 : End) (x2 : Tab) (x3 : Msg) : lv cd7 C7 (J7L x0 x1 x2 x3 255) = (tJ7L255 x0 x1 x2 x3).val cd7 C7 := Tr.lv_eq 32 (fun H z => by kernel_rfl)
noncomputable def tJ7_13 (x0 : List Int) (x1 : End) (x2 : Tab) (x3 : Msg) : Tr (Bool) :=
  .cond ((V25 x1).isSome)
  (.cond (!(F25 x1))
    (.go J7_14)
    (.cond ((V26 x2).isSome)
      (.cond (!(F26 x2))
        (.go J7_14)
        (.cond (decide (600 < ((x0).length : Int)))
          (.go J7_14)
          (.cond ((V27 x3).isSome)
            (.cond (!(F27 x3))
              (.go J7_14)
              (.go (J7_15 x0 x1 x2 x3)))
            (.none))))
      (.none)))
  (.none)
theorem eJ7_13 (x0 : List Int) (x1 : End) (x2 : Tab) (x3 : Msg) : lv cd7 C7 (J7_13 x0 x1 x2 x3) = (tJ7_13 x0 x1 x2 x3).val cd7 C7 := Tr.lv_eq 26 (fun H z => by kernel_rfl)
noncomputable def tJ7_14 : Tr (Bool) :=
  .some true
theorem eJ7_14 : lv cd7 C7 (J7_14) = (tJ7_14).val cd7 C7 := Tr.lv_eq 6 (fun H z => by kernel_rfl)
noncomputable def tJ7_15 (x0 : List Int) (x1 : End) (x2 : Tab) (x3 : Msg) : Tr (Bool) :=
  .cond ((V28 x1 x2 x0 x3).isSome)
  (.cond (!(decide (((F28 x1 x2 x0 x3).2.2) = 0)))
    (.some true)
    (.cond (decide (x3.kind = 6))
      (.cond (decide ((((F28 x1 x2 x0 x3).1).num) = 0))
        (.cond (decide (((((F28 x1 x2 x0 x3).1).cl).length : Int) = 0))
          (.cond (!(((F28 x1 x2 x0 x3).1).opn))
            (.some (decide ((((F28 x1 x2 x0 x3).2.1).code) = 0)))
            (.some false))
          (.some false))
        (.some false))
      (.cond x1.kn
        (.cond ((V31 x1.lst x3).isSome)
          (.cond (F31 x1.lst x3)
            (.go (J7_21 x1 ((F28 x1 x2 x0 x3).1) ((F28 x1 x2 x0 x3).2.1)))
            (.go (J7_22 x1 x3 ((F28 x1 x2 x0 x3).1) ((F28 x1 x2 x0 x3).2.1))))
          (.none))
        (.go (J7_22 x1 x3 ((F28 x1 x2 x0 x3).1) ((F28 x1 x2 x0 x3).2.1))))))
  (.none)
theorem eJ7_15 (x0 : List Int) (x1 : End) (x2 : Tab) (x3 : Msg) : lv cd7 C7 (J7_15 x0 x1 x2 x3) = (tJ7_15 x0 x1 x2 x3).val cd7 C7 := Tr.lv_eq 58 (fun H z => by kernel_rfl)
noncomputable def tJ7_21 (x0 x1 : End) (x2 : Msg) : Tr (Bool) :=
  .cond ((V30 x1 x0).isSome)
  (.cond (F30 x1 x0)
    (.cond ((V31 x2 x0.rp).isSome)
      (.some (F31 x2 x0.rp))
      (.none))
    (.some false))
  (.none)
theorem eJ7_21 (x0 x1 : End) (x2 : Msg) : lv cd7 C7 (J7_21 x0 x1 x2) = (tJ7_21 x0 x1 x2).val cd7 C7 := Tr.lv_eq 15 (fun H z => by kernel_rfl)
noncomputable def tJ7_22 (x0 : End) (x1 : Msg) (x2 : End) (x3 : Msg) : Tr (Bool) :=
  .cond x0.opn
  (.go (J7_23 x0 x2 x3))
  (.cond (!(decide (x1.num = x0.num)))
    (.go (J7_23 x0 x2 x3))
    (.go (J7_24 x0 x2 x3)))
theorem eJ7_22 (x0 : End) (x1 : Msg) (x2 : End) (x3 : Msg) : lv cd7 C7 (J7_22 x0 x1 x2 x3) = (tJ7_22 x0 x1 x2 x3).val cd7 C7 := Tr.lv_eq 17 (fun H z => by kernel_rfl)
noncomputable def tJ7_23 (x0 x1 : End) (x2 : Msg) : Tr (Bool) :=
  .cond ((V30 x1 x0).isSome)
  (.cond (F30 x1 x0)
    (.cond ((decide (x2.code = 3)) == x0.opn)
      (.cond (decide (x2.code = 3))
        (.some true)
        (.some (decide (x2.code = 1))))
      (.some false))
    (.some false))
  (.none)
theorem eJ7_23 (x0 x1 : End) (x2 : Msg) : lv cd7 C7 (J7_23 x0 x1 x2) = (tJ7_23 x0 x1 x2).val cd7 C7 := Tr.lv_eq 27 (fun H z => by kernel_rfl)
noncomputable def tJ7_24 (x0 x1 : End) (x2 : Msg) : Tr (Bool) :=
  .cond (decide (x2.code = 2))
  (.some true)
  (.cond (decide (x2.code = 0))
    (.cond (decide (x1.num = (nextN x0.num)))
      (.some x1.kn)
      (.some false))
    (.some false))
theorem eJ7_24 (x0 x1 : End) (x2 : Msg) : lv cd7 C7 (J7_24 x0 x1 x2) = (tJ7_24 x0 x1 x2).val cd7 C7 := Tr.lv_eq 4 (fun H z => by kernel_rfl)
noncomputable def V7 (x0 : End) (x1 : Tab) (x2 : List Int) (x3 : Msg) : Option (Bool) := vlim cd7 (S7 x0 x1 x2 x3)
noncomputable def G7 : GE := mkG [(0, some 3, .cell), (0, some 11, .spot), (0, some 12, .spot), (0, some 19, .spot), (0, some 20, .spot), (0, some 26, .spot), (0, some 27, .spot), (1, some 2, .cell), (2, none, .int), (3, some 5, .spot), (3, some 6, .spot)] (cod27.a (cod29.a ((codS .int).a (cod25.a (.nil))))) (fun x => V7 x.1 x.2.1 x.2.2.1 x.2.2.2.1) cd7
theorem ge7 : GeOk 7 G7 := ge_mk (C := C7) (base_ok (.cons ge24 (.cons ge25 (.cons ge26 (.cons ge27 (.cons ge28 (.cons ge30 (.cons ge31 (.cons ge41n .nil)))))))) (.cons c7 .nil) .nil) rfl c7 (fun _ => rfl) (by kernel_rfl)

end Go.Am
