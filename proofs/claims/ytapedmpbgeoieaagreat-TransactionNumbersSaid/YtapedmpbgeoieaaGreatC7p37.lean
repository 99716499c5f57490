/- Part 37 of the proof: FA5. -/
import Derived.Test.YtapedmpbgeoieaaGreatC7p29
import Derived.Test.YtapedmpbgeoieaaGreatC7p30
import Derived.Test.YtapedmpbgeoieaaGreatC7p31
import Derived.Test.YtapedmpbgeoieaaGreatC7p32
import Derived.Test.YtapedmpbgeoieaaGreatC7p34
import Derived.Test.YtapedmpbgeoieaaGreatC7p36
set_option linter.unusedSimpArgs false
set_option linter.unusedVariables false
namespace Go.Am
open Go Go.Proofs
set_option maxRecDepth 100000
set_option linter.unusedVariables false

theorem c3 : CdOk 3 Tryz.f3 := ⟨by kernel_rfl, by kernel_rfl⟩
noncomputable def b3 (n p : Nat) : Code := bp n p (bodyA Tryz.f3)
noncomputable def C3 : Cfg := base [(24, G24), (25, G25), (26, G26), (27, G27), (28, G28), (29, G29), (30, G30), (31, G31)] [(3, Tryz.f3)] [(3, [(4, { drop := rs [(0, 6), (7, 59)], nt := [], nb := [] }), (5, { drop := rs [(0, 2), (3, 1), (8, 58)], nt := [], nb := [] })])] [] [] [] []
noncomputable def S3 (x0 : End) (x1 : Tab) (x2 : List Int) (x3 : Msg) (n : Nat) : Option AV := startK C3 n 3 Tryz.f3 [.agg (enc27 x0), .agg (enc29 x1), .sl .int x2 .none, .agg (enc25 x3)]
noncomputable def b5 (n p : Nat) : Code := bp n p (bodyA Tryz.f5)
end Go.Am
