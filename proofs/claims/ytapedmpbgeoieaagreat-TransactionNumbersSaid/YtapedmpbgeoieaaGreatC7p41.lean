/- Part 41 of the proof: FN7C. -/
import Derived.Test.YtapedmpbgeoieaaGreatC7p39
set_option linter.unusedSimpArgs false
set_option linter.unusedVariables false
namespace Go.Am
open Go Go.Proofs
set_option maxRecDepth 100000
set_option linter.unusedVariables false
theorem l7_90 : Step7 90 91 := loop_step fun _ _ _ _ _ _ => by kernel_rfl
theorem l7_91 : Step7 91 92 := loop_step fun _ _ _ _ _ _ => by kernel_rfl
theorem l7_92 : Step7 92 93 := loop_step fun _ _ _ _ _ _ => by kernel_rfl
theorem l7_93 : Step7 93 94 := loop_step fun _ _ _ _ _ _ => by kernel_rfl
theorem l7_94 : Step7 94 95 := loop_step fun _ _ _ _ _ _ => by kernel_rfl
theorem l7_95 : Step7 95 96 := loop_step fun _ _ _ _ _ _ => by kernel_rfl
theorem l7_96 : Step7 96 97 := loop_step fun _ _ _ _ _ _ => by kernel_rfl
theorem l7_97 : Step7 97 98 := loop_step fun _ _ _ _ _ _ => by kernel_rfl
theorem l7_98 : Step7 98 99 := loop_step fun _ _ _ _ _ _ => by kernel_rfl
theorem l7_99 : Step7 99 100 := loop_step fun _ _ _ _ _ _ => by kernel_rfl
theorem l7_100 : Step7 100 101 := loop_step fun _ _ _ _ _ _ => by kernel_rfl
theorem l7_101 : Step7 101 102 := loop_step fun _ _ _ _ _ _ => by kernel_rfl
theorem l7_102 : Step7 102 103 := loop_step fun _ _ _ _ _ _ => by kernel_rfl
theorem l7_103 : Step7 103 104 := loop_step fun _ _ _ _ _ _ => by kernel_rfl
theorem l7_104 : Step7 104 105 := loop_step fun _ _ _ _ _ _ => by kernel_rfl
theorem l7_105 : Step7 105 106 := loop_step fun _ _ _ _ _ _ => by kernel_rfl
theorem l7_106 : Step7 106 107 := loop_step fun _ _ _ _ _ _ => by kernel_rfl
theorem l7_107 : Step7 107 108 := loop_step fun _ _ _ _ _ _ => by kernel_rfl
theorem l7_108 : Step7 108 109 := loop_step fun _ _ _ _ _ _ => by kernel_rfl
theorem l7_109 : Step7 109 110 := loop_step fun _ _ _ _ _ _ => by kernel_rfl
theorem l7_110 : Step7 110 111 := loop_step fun _ _ _ _ _ _ => by kernel_rfl
theorem l7_111 : Step7 111 112 := loop_step fun _ _ _ _ _ _ => by kernel_rfl
theorem l7_112 : Step7 112 113 := loop_step fun _ _ _ _ _ _ => by kernel_rfl
theorem l7_113 : Step7 113 114 := loop_step fun _ _ _ _ _ _ => by kernel_rfl
theorem l7_114 : Step7 114 115 := loop_step fun _ _ _ _ _ _ => by kernel_rfl
theorem l7_115 : Step7 115 116 := loop_step fun _ _ _ _ _ _ => by kernel_rfl
theorem l7_116 : Step7 116 117 := loop_step fun _ _ _ _ _ _ => by kernel_rfl
theorem l7_117 : Step7 117 118 := loop_step fun _ _ _ _ _ _ => by kernel_rfl
theorem l7_118 : Step7 118 119 := loop_step fun _ _ _ _ _ _ => by kernel_rfl
theorem l7_119 : Step7 119 120 := loop_step fun _ _ _ _ _ _ => by kernel_rfl
theorem l7_120 : Step7 120 121 := loop_step fun _ _ _ _ _ _ => by kernel_rfl
theorem l7_121 : Step7 121 122 := loop_step fun _ _ _ _ _ _ => by kernel_rfl
theorem l7_122 : Step7 122 123 := loop_step fun _ _ _ _ _ _ => by kernel_rfl
theorem l7_123 : Step7 123 124 := loop_step fun _ _ _ _ _ _ => by kernel_rfl
theorem l7_124 : Step7 124 125 := loop_step fun _ _ _ _ _ _ => by kernel_rfl
theorem l7_125 : Step7 125 126 := loop_step fun _ _ _ _ _ _ => by kernel_rfl
theorem l7_126 : Step7 126 127 := loop_step fun _ _ _ _ _ _ => by kernel_rfl
theorem l7_127 : Step7 127 128 := loop_step fun _ _ _ _ _ _ => by kernel_rfl
theorem l7_128 : Step7 128 129 := loop_step fun _ _ _ _ _ _ => by kernel_rfl
theorem l7_129 : Step7 129 130 := loop_step fun _ _ _ _ _ _ => by kernel_rfl
theorem l7_130 : Step7 130 131 := loop_step fun _ _ _ _ _ _ => by kernel_rfl
theorem l7_131 : Step7 131 132 := loop_step fun _ _ _ _ _ _ => by kernel_rfl
theorem l7_132 : Step7 132 133 := loop_step fun _ _ _ _ _ _ => by kernel_rfl
theorem l7_133 : Step7 133 134 := loop_step fun _ _ _ _ _ _ => by kernel_rfl
theorem l7_134 : Step7 134 135 := loop_step fun _ _ _ _ _ _ => by kernel_rfl
theorem l7_135 : Step7 135 136 := loop_step fun _ _ _ _ _ _ => by kernel_rfl
theorem l7_136 : Step7 136 137 := loop_step fun _ _ _ _ _ _ => by kernel_rfl
theorem l7_137 : Step7 137 138 := loop_step fun _ _ _ _ _ _ => by kernel_rfl
theorem l7_138 : Step7 138 139 := loop_step fun _ _ _ _ _ _ => by kernel_rfl
theorem l7_139 : Step7 139 140 := loop_step fun _ _ _ _ _ _ => by kernel_rfl
theorem l7_140 : Step7 140 141 := loop_step fun _ _ _ _ _ _ => by kernel_rfl
theorem l7_141 : Step7 141 142 := loop_step fun _ _ _ _ _ _ => by kernel_rfl
theorem l7_142 : Step7 142 143 := loop_step fun _ _ _ _ _ _ => by kernel_rfl
theorem l7_143 : Step7 143 144 := loop_step fun _ _ _ _ _ _ => by kernel_rfl
theorem l7_144 : Step7 144 145 := loop_step fun _ _ _ _ _ _ => by kernel_rfl
theorem l7_145 : Step7 145 146 := loop_step fun _ _ _ _ _ _ => by kernel_rfl
theorem l7_146 : Step7 146 147 := loop_step fun _ _ _ _ _ _ => by kernel_rfl
theorem l7_147 : Step7 147 148 := loop_step fun _ _ _ _ _ _ => by kernel_rfl
theorem l7_148 : Step7 148 149 := loop_step fun _ _ _ _ _ _ => by kernel_rfl
theorem l7_149 : Step7 149 150 := loop_step fun _ _ _ _ _ _ => by kernel_rfl

end Go.Am
