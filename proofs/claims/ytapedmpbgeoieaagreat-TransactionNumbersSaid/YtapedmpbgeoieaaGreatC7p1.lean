/- Part 1 of the proof: Am1. -/
import Derived.Test.YtapedmpbgeoieaaGreatC7p0
set_option linter.unusedSimpArgs false
set_option linter.unusedVariables false
namespace Go.Am
def ti27 : TI := { size := 28, agg := true, zero := [.int .i64 0, .int .i64 0, .int .i64 0, .slice none 0 0, .bool false, .int .i64 0, .int .i64 0, .bool false, .int .i64 0, .int .i64 0, .int .i64 0, .slice none 0 0, .slice none 0 0, .bool false, .int .i64 0, .bool false, .int .i64 0, .int .i64 0, .int .i64 0, .slice none 0 0, .slice none 0 0, .int .i64 0, .bool false, .int .i64 0, .int .i64 0, .int .i64 0, .slice none 0 0, .slice none 0 0], flds := [(0, 1, false), (1, 1, false), (2, 1, false), (3, 1, false), (4, 1, false), (5, 1, false), (6, 7, true), (13, 1, false), (14, 7, true), (21, 7, true)] }
def ti25 : TI := { size := 7, agg := true, zero := [.int .i64 0, .bool false, .int .i64 0, .int .i64 0, .int .i64 0, .slice none 0 0, .slice none 0 0], flds := [(0, 1, false), (1, 1, false), (2, 1, false), (3, 1, false), (4, 1, false), (5, 1, false), (6, 1, false)] }
def ti3 : TI := { size := 1, agg := false, zero := [.int .i64 0], ik := some .i64 }
def ti29 : TI := { size := 3, agg := true, zero := [.int .i64 0, .int .i64 0, .slice none 0 0], flds := [(0, 1, false), (1, 1, false), (2, 1, false)] }
def ti94 : TI := { size := 67, agg := true, zero := [.int .i64 0, .int .i64 0, .int .i64 0, .slice none 0 0, .bool false, .int .i64 0, .int .i64 0, .bool false, .int .i64 0, .int .i64 0, .int .i64 0, .slice none 0 0, .slice none 0 0, .bool false, .int .i64 0, .bool false, .int .i64 0, .int .i64 0, .int .i64 0, .slice none 0 0, .slice none 0 0, .int .i64 0, .bool false, .int .i64 0, .int .i64 0, .int .i64 0, .slice none 0 0, .slice none 0 0, .int .i64 0, .int .i64 0, .int .i64 0, .slice none 0 0, .bool false, .int .i64 0, .int .i64 0, .bool false, .int .i64 0, .int .i64 0, .int .i64 0, .slice none 0 0, .slice none 0 0, .bool false, .int .i64 0, .bool false, .int .i64 0, .int .i64 0, .int .i64 0, .slice none 0 0, .slice none 0 0, .int .i64 0, .bool false, .int .i64 0, .int .i64 0, .int .i64 0, .slice none 0 0, .slice none 0 0, .int .i64 0, .int .i64 0, .slice none 0 0, .int .i64 0, .int .i64 0, .slice none 0 0, .slice none 0 0, .int .i64 0, .int .i64 0, .bool false, .bool false], flds := [(0, 28, true), (28, 28, true), (56, 3, true), (59, 3, true), (62, 1, false), (63, 1, false), (64, 1, false), (65, 1, false), (66, 1, false)] }
def ti115 : TI := { size := 6, agg := true, zero := [.int .i64 0, .int .i64 0, .int .i64 0, .bool false, .int .i64 0, .int .i64 0], flds := [(0, 1, false), (1, 1, false), (2, 1, false), (3, 1, false), (4, 1, false), (5, 1, false)] }
def ti22 : TI := { size := 1, agg := false, zero := [.slice none 0 0], sl := some .cell, el := 115, esize := 6, ebytes := 48 }
def ti23 : TI := { size := 1, agg := false, zero := [.slice none 0 0], sl := some .spot, el := 125, esize := 2, ebytes := 16 }
def ti4 : TI := { size := 1, agg := false, zero := [.bool false] }
def ti125 : TI := { size := 2, agg := true, zero := [.int .i64 0, .int .i64 0], flds := [(0, 1, false), (1, 1, false)] }
def ti62 : TI := { size := 7, agg := true, zero := [.bool false, .int .i64 0, .int .i64 0, .bool false, .bool false, .bool false, .bool false], flds := [(0, 1, false), (1, 1, false), (2, 1, false), (3, 4, true)] }
def ti78 : TI := { size := 63, agg := true, zero := [.int .i64 0, .int .i64 0, .int .i64 0, .slice none 0 0, .bool false, .int .i64 0, .int .i64 0, .bool false, .int .i64 0, .int .i64 0, .int .i64 0, .slice none 0 0, .slice none 0 0, .bool false, .int .i64 0, .bool false, .int .i64 0, .int .i64 0, .int .i64 0, .slice none 0 0, .slice none 0 0, .int .i64 0, .bool false, .int .i64 0, .int .i64 0, .int .i64 0, .slice none 0 0, .slice none 0 0, .int .i64 0, .int .i64 0, .int .i64 0, .slice none 0 0, .bool false, .int .i64 0, .int .i64 0, .bool false, .int .i64 0, .int .i64 0, .int .i64 0, .slice none 0 0, .slice none 0 0, .bool false, .int .i64 0, .bool false, .int .i64 0, .int .i64 0, .int .i64 0, .slice none 0 0, .slice none 0 0, .int .i64 0, .bool false, .int .i64 0, .int .i64 0, .int .i64 0, .slice none 0 0, .slice none 0 0, .int .i64 0, .int .i64 0, .slice none 0 0, .int .i64 0, .int .i64 0, .slice none 0 0, .slice none 0 0], flds := [(0, 28, true), (28, 28, true), (56, 3, true), (59, 3, true), (62, 1, false)] }
def ti167 : TI := { size := 31, agg := true, zero := [.int .i64 0, .int .i64 0, .int .i64 0, .slice none 0 0, .bool false, .int .i64 0, .int .i64 0, .bool false, .int .i64 0, .int .i64 0, .int .i64 0, .slice none 0 0, .slice none 0 0, .bool false, .int .i64 0, .bool false, .int .i64 0, .int .i64 0, .int .i64 0, .slice none 0 0, .slice none 0 0, .int .i64 0, .bool false, .int .i64 0, .int .i64 0, .int .i64 0, .slice none 0 0, .slice none 0 0, .int .i64 0, .int .i64 0, .slice none 0 0], flds := [(0, 28, true), (28, 3, true)] }
def ti60 : TI := { size := 4, agg := true, zero := [.bool false, .bool false, .bool false, .bool false], flds := [(0, 1, false), (1, 1, false), (2, 1, false), (3, 1, false)] }
def ti123 : TI := { size := 39, agg := true, zero := [.int .i64 0, .int .i64 0, .int .i64 0, .slice none 0 0, .bool false, .int .i64 0, .int .i64 0, .bool false, .int .i64 0, .int .i64 0, .int .i64 0, .slice none 0 0, .slice none 0 0, .bool false, .int .i64 0, .bool false, .int .i64 0, .int .i64 0, .int .i64 0, .slice none 0 0, .slice none 0 0, .int .i64 0, .bool false, .int .i64 0, .int .i64 0, .int .i64 0, .slice none 0 0, .slice none 0 0, .int .i64 0, .bool false, .int .i64 0, .int .i64 0, .int .i64 0, .slice none 0 0, .slice none 0 0, .slice none 0 0, .int .i64 0, .slice none 0 0, .slice none 0 0], flds := [(0, 28, true), (28, 7, true), (35, 1, false), (36, 1, false), (37, 1, false), (38, 1, false)] }
def ti31 : TI := { size := 1, agg := false, zero := [.slice none 0 0], sl := some .int, el := 3, esize := 1, ebytes := 8 }
def ti225 : TI := { size := 5, agg := true, zero := [.pointer none, .int .i64 0, .int .i64 0, .slice none 0 0, .pointer none], flds := [(0, 1, false), (1, 3, true), (4, 1, false)] }
def ti173 : TI := { size := 82, agg := true, zero := [.int .i64 0, .int .i64 0, .int .i64 0, .slice none 0 0, .bool false, .int .i64 0, .int .i64 0, .bool false, .int .i64 0, .int .i64 0, .int .i64 0, .slice none 0 0, .slice none 0 0, .bool false, .int .i64 0, .bool false, .int .i64 0, .int .i64 0, .int .i64 0, .slice none 0 0, .slice none 0 0, .int .i64 0, .bool false, .int .i64 0, .int .i64 0, .int .i64 0, .slice none 0 0, .slice none 0 0, .int .i64 0, .int .i64 0, .slice none 0 0, .int .i64 0, .int .i64 0, .int .i64 0, .slice none 0 0, .bool false, .int .i64 0, .int .i64 0, .bool false, .int .i64 0, .int .i64 0, .int .i64 0, .slice none 0 0, .slice none 0 0, .bool false, .int .i64 0, .bool false, .int .i64 0, .int .i64 0, .int .i64 0, .slice none 0 0, .slice none 0 0, .int .i64 0, .bool false, .int .i64 0, .int .i64 0, .int .i64 0, .slice none 0 0, .slice none 0 0, .int .i64 0, .int .i64 0, .slice none 0 0, .slice none 0 0, .bool false, .bool false, .bool false, .bool false, .int .i64 0, .bool false, .int .i64 0, .int .i64 0, .int .i64 0, .slice none 0 0, .slice none 0 0, .int .i64 0, .bool false, .int .i64 0, .int .i64 0, .int .i64 0, .slice none 0 0, .slice none 0 0, .int .i64 0], flds := [(0, 31, true), (31, 31, true), (62, 1, false), (63, 4, true), (67, 7, true), (74, 7, true), (81, 1, false)] }
def ti188 : TI := { size := 2, agg := true, zero := [.int .i64 0, .int .i64 0], arr := some (2, 1) }
def ti211 : TI := { size := 3, agg := true, zero := [.string ⟨#[]⟩, .int .i64 0, .int .i64 0], flds := [(0, 1, false), (1, 1, false), (2, 1, false)] }
def ti57 : TI := { size := 1, agg := false, zero := [.slice none 0 0], sl := some .wish, el := 62, esize := 7, ebytes := 32 }
def ti17 : TI := { size := 1, agg := false, zero := [.pointer none] }
def ti83 : TI := { size := 1, agg := false, zero := [.slice none 0 0], sl := some .bool, el := 4, esize := 1, ebytes := 1 }
def ti183 : TI := { size := 2, agg := true, zero := [.bool false, .bool false], flds := [(0, 1, false), (1, 1, false)] }
def ti36 : TI := { size := 1, agg := false, zero := [.int .i64 0], ik := some .i64 }
def ti206 : TI := { size := 3, agg := true, zero := [.slice none 0 0, .int .i64 0, .int .i64 0], flds := [(0, 1, false), (1, 1, false), (2, 1, false)] }
def ti236 : TI := { size := 2, agg := true, zero := [.nilFunc, .nilFunc], arr := some (2, 1) }
def ti169 : TI := { size := 1, agg := false, zero := [.pointer none] }
def ti232 : TI := { size := 2, agg := true, zero := [.bool false, .nilFunc], flds := [(0, 1, false), (1, 1, false)] }
def ti222 : TI := { size := 1, agg := false, zero := [.pointer none] }
def ti30 : TI := { size := 1, agg := false, zero := [.slice none 0 0], sl := some .int, el := 3, esize := 1, ebytes := 8 }
def ti153 : TI := { size := 1, agg := false, zero := [.pointer none] }
def ti192 : TI := { size := 1, agg := false, zero := [.slice none 0 0], el := 191, esize := 1, ebytes := 8 }
def ti223 : TI := { size := 1, agg := false, zero := [.pointer none] }
def ti45 : TI := { size := 1, agg := false, zero := [.slice none 0 0], sl := some .u8, el := 5, esize := 1, ebytes := 1 }
def ti187 : TI := { size := 1, agg := false, zero := [.slice none 0 0], el := 177, esize := 1, ebytes := 8 }
def ti121 : TI := { size := 1, agg := false, zero := [.pointer none] }
def ti5 : TI := { size := 1, agg := false, zero := [.int .u8 0], ik := some .u8 }
def ti151 : TI := { size := 1, agg := false, zero := [.slice none 0 0], el := 23, esize := 1, ebytes := 24 }
def ti177 : TI := { size := 1, agg := false, zero := [.nilFunc] }
def ti191 : TI := { size := 1, agg := false, zero := [.pointer none] }
def ti219 : TI := { size := 1, agg := false, zero := [.slice none 0 0], el := 167, esize := 31, ebytes := 376 }
def ti221 : TI := { size := 1, agg := false, zero := [.slice none 0 0], el := 32, esize := 1, ebytes := 8 }
def ti32 : TI := { size := 1, agg := false, zero := [.nilFunc] }
def ti233 : TI := { size := 1, agg := false, zero := [.slice none 0 0], el := 232, esize := 2, ebytes := 16 }
def ti35 : TI := { size := 1, agg := false, zero := [.nilFunc] }
def ti9 : TI := { size := 1, agg := false, zero := [.string ⟨#[]⟩] }
def ti209 : TI := { size := 1, agg := false, zero := [.int .u64 0], ik := some .u64 }
def tys : List (Nat × TI) := [(27, ti27), (25, ti25), (3, ti3), (29, ti29), (94, ti94), (115, ti115), (22, ti22), (23, ti23), (4, ti4), (125, ti125), (62, ti62), (78, ti78), (167, ti167), (60, ti60), (123, ti123), (31, ti31), (225, ti225), (173, ti173), (188, ti188), (211, ti211), (57, ti57), (17, ti17), (83, ti83), (183, ti183), (36, ti36), (206, ti206), (236, ti236), (169, ti169), (232, ti232), (222, ti222), (30, ti30), (153, ti153), (192, ti192), (223, ti223), (45, ti45), (187, ti187), (121, ti121), (5, ti5), (151, ti151), (177, ti177), (191, ti191), (219, ti219), (221, ti221), (32, ti32), (233, ti233), (35, ti35), (9, ti9), (209, ti209)]
def elT : ST → Nat
  | .spot => 125
  | .cell => 115
  | .int => 3
  | .bool => 4
  | .u8 => 5
  | .wish => 62
end Go.Am
