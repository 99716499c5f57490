/- Part 36 of the proof: FA6. -/
import Derived.Test.YtapedmpbgeoieaaGreatC5p29
import Derived.Test.YtapedmpbgeoieaaGreatC5p30
import Derived.Test.YtapedmpbgeoieaaGreatC5p31
import Derived.Test.YtapedmpbgeoieaaGreatC5p32
import Derived.Test.YtapedmpbgeoieaaGreatC5p34
set_option linter.unusedSimpArgs false
set_option linter.unusedVariables false
namespace Go.Am
open Go Go.Proofs
set_option maxRecDepth 100000
set_option linter.unusedVariables false

noncomputable def b9 (n p : Nat) : Code := bp n p (bodyA Tryz.f9)
end Go.Am
