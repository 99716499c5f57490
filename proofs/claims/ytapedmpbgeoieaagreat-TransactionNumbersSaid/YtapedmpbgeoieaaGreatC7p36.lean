/- Part 36 of the proof: FA4. -/
import Derived.Test.YtapedmpbgeoieaaGreatC7p29
import Derived.Test.YtapedmpbgeoieaaGreatC7p30
import Derived.Test.YtapedmpbgeoieaaGreatC7p32
import Derived.Test.YtapedmpbgeoieaaGreatC7p34
set_option linter.unusedSimpArgs false
set_option linter.unusedVariables false
namespace Go.Am
open Go Go.Proofs
set_option maxRecDepth 100000
set_option linter.unusedVariables false

noncomputable def C29 : Cfg := base [(31, G31), (55, G55), (59, G59), (108, G108), (109, G109), (110, G110), (111, G111), (112, G112), (113, G113), (114, G114), (115, G115), (116, G116)] [(29, Tryz.f29)] [(29, [(5, { drop := rs [(0, 6), (7, 1), (10, 196)], nt := [], nb := [] }), (6, { drop := rs [(0, 2), (3, 1), (5, 1), (10, 1), (12, 194)], nt := [], nb := [] }), (11, { drop := rs [(0, 4), (5, 1), (7, 1), (10, 3), (14, 192)], nt := [], nb := [] }), (12, { drop := rs [(0, 2), (3, 1), (5, 1), (10, 1), (12, 1), (14, 192)], nt := [], nb := [] }), (21, { drop := rs [(0, 2), (3, 1), (5, 1), (10, 1), (12, 1), (14, 3), (18, 188)], nt := [], nb := [] }), (23, { drop := rs [(0, 6), (10, 3), (14, 192)], nt := [], nb := [] }), (24, { drop := rs [(0, 4), (5, 1), (10, 3), (14, 2), (18, 188)], nt := [(16, .spot, 186)], nb := [] }), (26, { drop := rs [(0, 4), (5, 1), (10, 3), (14, 2), (18, 188)], nt := [(16, .spot, 186)], nb := [] }), (27, { drop := rs [(0, 4), (5, 1), (10, 3), (14, 2), (19, 79), (99, 107)], nt := [(16, .spot, 186)], nb := [] }), (31, { drop := rs [(0, 4), (5, 1), (10, 3), (14, 2), (19, 187)], nt := [(16, .spot, 186)], nb := [] }), (34, { drop := rs [(0, 4), (5, 1), (10, 3), (14, 2), (20, 186)], nt := [(16, .spot, 186)], nb := [] }), (36, { drop := rs [(0, 4), (5, 1), (10, 3), (14, 2), (20, 186)], nt := [(16, .spot, 186)], nb := [] }), (37, { drop := rs [(0, 4), (5, 1), (10, 3), (14, 2), (19, 187)], nt := [(16, .spot, 186)], nb := [] })])] [(108, 186)] [] [(0, some 3, .cell), (0, some 11, .spot), (0, some 12, .spot), (0, some 19, .spot), (0, some 20, .spot), (0, some 26, .spot), (0, some 27, .spot), (1, some 5, .spot), (1, some 6, .spot)] []
noncomputable def S29 (x0 : End) (x1 : Tab) (x2 : List Int) (x3 : Msg) (n : Nat) : Option AV := startK C29 n 29 Tryz.f29 [.agg (enc27 x0), .agg (enc29 x1), .sl .int x2 .none, .agg (enc25 x3)]
noncomputable abbrev cd29 : Cod (End × Msg × Int) := (codT3 cod27 cod25 codI)
noncomputable def V29 (x0 : End) (x1 : Tab) (x2 : List Int) (x3 : Msg) : Option (End × Msg × Int) := vlim cd29 (S29 x0 x1 x2 x3)
noncomputable def G29 : GE := mkG [(0, some 3, .cell), (0, some 11, .spot), (0, some 12, .spot), (0, some 19, .spot), (0, some 20, .spot), (0, some 26, .spot), (0, some 27, .spot), (1, some 2, .cell), (2, none, .int), (3, some 5, .spot), (3, some 6, .spot)] (cod27.a (cod29.a ((codS .int).a (cod25.a (.nil))))) (fun x => V29 x.1 x.2.1 x.2.2.1 x.2.2.2.1) cd29
end Go.Am
