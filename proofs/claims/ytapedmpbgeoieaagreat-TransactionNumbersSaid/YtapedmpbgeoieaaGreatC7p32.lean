/- Part 32 of the proof: FA2. -/
import Derived.Test.YtapedmpbgeoieaaGreatC7p29
import Derived.Test.YtapedmpbgeoieaaGreatC7p30
import Derived.Test.YtapedmpbgeoieaaGreatC7p31
set_option linter.unusedSimpArgs false
set_option linter.unusedVariables false
namespace Go.Am
open Go Go.Proofs
set_option maxRecDepth 100000
set_option linter.unusedVariables false

theorem c37 : CdOk 37 Tryz.f37 := ⟨by kernel_rfl, by kernel_rfl⟩
noncomputable def b37 (n p : Nat) : Code := bp n p (bodyA Tryz.f37)
noncomputable def C37 : Cfg := base [(36, G36), (127, G127), (128, G128), (129, G129), (130, G130), (131, G131), (132, G132)] [(37, Tryz.f37)] [(37, [(6, { drop := rs [(0, 8), (14, 1), (16, 110)], nt := [], nb := [] }), (7, { drop := rs [(0, 2), (7, 1), (14, 1), (17, 109)], nt := [], nb := [] }), (11, { drop := rs [(0, 2), (7, 1), (14, 1), (17, 1), (19, 107)], nt := [], nb := [] }), (14, { drop := rs [(0, 3), (7, 1), (14, 1), (16, 2), (19, 107)], nt := [], nb := [] }), (15, { drop := rs [(0, 3), (7, 1), (14, 1), (16, 2), (19, 107)], nt := [], nb := [] }), (21, { drop := rs [(0, 5), (7, 1), (14, 4), (19, 107)], nt := [], nb := [] })])] [] [] [(0, some 3, .cell), (0, some 11, .spot), (0, some 12, .spot), (0, some 19, .spot), (0, some 20, .spot), (0, some 26, .spot), (0, some 27, .spot), (1, some 5, .spot), (1, some 6, .spot)] []
noncomputable def S37 (x0 : End) (x1 : Tab) (x2 : List Int) (x3 x4 x5 : Int) (n : Nat) : Option AV := startK C37 n 37 Tryz.f37 [.agg (enc27 x0), .agg (enc29 x1), .sl .int x2 .none, .int .i64 x3, .int .i64 x4, .int .i64 x5]
noncomputable def J37_6 (x0 x1 x2 : Int) (x3 : Bool) (x4 x5 : Int) (x6 : Bool) (x7 x8 x9 : Int) (x10 : Bool) (x11 : Int) (x12 : Bool) (x13 x14 x15 x16 : Int) (x17 : Bool) (x18 x19 x20 x21 : Int) (x22 : Bool) (x23 x24 x25 : Int) : St := ⟨7, ⟨37, ap (un 12) (ap [.ptr 0 12 0, .ptr 0 13 0, .undef, .fn 127 [] []] (un 110)), aq (nb 12) (aq [[.int .i64 x0, .int .i64 x1, .int .i64 x2, .nilS, .bool x3, .int .i64 x4, .int .i64 x5, .bool x6, .int .i64 x7, .int .i64 x8, .int .i64 x9, .nilS, .nilS, .bool x10, .int .i64 x11, .bool x12, .int .i64 x13, .int .i64 x14, .int .i64 x15, .nilS, .nilS, .int .i64 x16, .bool x17, .int .i64 x18, .int .i64 x19, .int .i64 x20, .nilS, .nilS], [.int .i64 x21, .bool x22, .int .i64 x23, .int .i64 x24, .int .i64 x25, .nilS, .nilS]] (nb 112)), [.code (b37 10 231), .code (b37 10 743), .inBlock 0, .code (b37 4 15)]⟩, []⟩
noncomputable def J37_7 (x0 : List Int) (x1 x2 x3 : Int) (x4 : End) (x5 x6 x7 : Int) (x8 : Bool) (x9 x10 : Int) (x11 : Bool) (x12 x13 x14 : Int) (x15 : Bool) (x16 : Int) (x17 : Bool) (x18 x19 x20 x21 : Int) (x22 : Bool) (x23 x24 x25 x26 : Int) (x27 : Bool) (x28 x29 x30 : Int) (x31 : Tab) : St := ⟨8, ⟨37, ap [.undef, .undef, .sl .int x0 .none, .int .i64 x1, .int .i64 x2, .int .i64 x3, .ptr 0 6 0] (ap (un 5) (ap [.ptr 0 12 0, .ptr 0 13 0, .undef, .fn 127 [] [], .ptr 0 16 0] (un 109))), aq (nb 6) (aq [(enc27 x4)] (aq (nb 5) (aq [[.int .i64 x5, .int .i64 x6, .int .i64 x7, .nilS, .bool x8, .int .i64 x9, .int .i64 x10, .bool x11, .int .i64 x12, .int .i64 x13, .int .i64 x14, .nilS, .nilS, .bool x15, .int .i64 x16, .bool x17, .int .i64 x18, .int .i64 x19, .int .i64 x20, .nilS, .nilS, .int .i64 x21, .bool x22, .int .i64 x23, .int .i64 x24, .int .i64 x25, .nilS, .nilS], [.int .i64 x26, .bool x27, .int .i64 x28, .int .i64 x29, .int .i64 x30, .nilS, .nilS], [], [], (enc29 x31)] (nb 109)))), [.code (b37 10 487), .code (b37 10 999), .inBlock 0, .code (b37 4 15)]⟩, []⟩
noncomputable def J37_11 (x0 : List Int) (x1 x2 x3 : Int) (x4 : End) (x5 x6 x7 : Int) (x8 : Bool) (x9 x10 : Int) (x11 : Bool) (x12 x13 x14 : Int) (x15 : Bool) (x16 : Int) (x17 : Bool) (x18 x19 x20 x21 : Int) (x22 : Bool) (x23 x24 x25 x26 : Int) (x27 : Bool) (x28 x29 x30 : Int) (x31 : Tab) (x32 : Int) (x33 : Bool) (x34 x35 x36 : Int) : St := ⟨12, ⟨37, ap [.undef, .undef, .sl .int x0 .none, .int .i64 x1, .int .i64 x2, .int .i64 x3, .ptr 0 6 0] (ap (un 5) (ap [.ptr 0 12 0, .ptr 0 13 0, .undef, .fn 127 [] [], .ptr 0 16 0, .undef, .ptr 0 18 0] (un 107))), aq (nb 6) (aq [(enc27 x4)] (aq (nb 5) (aq [[.int .i64 x5, .int .i64 x6, .int .i64 x7, .nilS, .bool x8, .int .i64 x9, .int .i64 x10, .bool x11, .int .i64 x12, .int .i64 x13, .int .i64 x14, .nilS, .nilS, .bool x15, .int .i64 x16, .bool x17, .int .i64 x18, .int .i64 x19, .int .i64 x20, .nilS, .nilS, .int .i64 x21, .bool x22, .int .i64 x23, .int .i64 x24, .int .i64 x25, .nilS, .nilS], [.int .i64 x26, .bool x27, .int .i64 x28, .int .i64 x29, .int .i64 x30, .nilS, .nilS], [], [], (enc29 x31), [], [.int .i64 x32, .bool x33, .int .i64 x34, .int .i64 x35, .int .i64 x36, .nilS, .nilS]] (nb 107)))), [.code (b37 9 95), .code (b37 9 351), .code (b37 6 63)]⟩, []⟩
noncomputable def J37_14 (x0 x1 x2 : Int) (x3 : End) (x4 x5 x6 : Int) (x7 : Bool) (x8 x9 : Int) (x10 : Bool) (x11 x12 x13 : Int) (x14 : Bool) (x15 : Int) (x16 : Bool) (x17 x18 x19 x20 : Int) (x21 : Bool) (x22 x23 x24 x25 : Int) (x26 : Bool) (x27 x28 x29 x30 : Int) (x31 : Bool) (x32 x33 x34 : Int) : St := ⟨15, ⟨37, ap (un 3) (ap [.int .i64 x0, .int .i64 x1, .int .i64 x2, .ptr 0 6 0] (ap (un 5) (ap [.ptr 0 12 0, .ptr 0 13 0, .undef, .fn 127 [] [], .undef, .undef, .ptr 0 18 0] (un 107)))), aq (nb 6) (aq [(enc27 x3)] (aq (nb 5) (aq [[.int .i64 x4, .int .i64 x5, .int .i64 x6, .nilS, .bool x7, .int .i64 x8, .int .i64 x9, .bool x10, .int .i64 x11, .int .i64 x12, .int .i64 x13, .nilS, .nilS, .bool x14, .int .i64 x15, .bool x16, .int .i64 x17, .int .i64 x18, .int .i64 x19, .nilS, .nilS, .int .i64 x20, .bool x21, .int .i64 x22, .int .i64 x23, .int .i64 x24, .nilS, .nilS], [.int .i64 x25, .bool x26, .int .i64 x27, .int .i64 x28, .int .i64 x29, .nilS, .nilS]] (aq (nb 4) (aq [[.int .i64 x30, .bool x31, .int .i64 x32, .int .i64 x33, .int .i64 x34, .nilS, .nilS]] (nb 107)))))), [.code (b37 8 63), .code (b37 8 191), .code (b37 7 127)]⟩, []⟩
noncomputable def J37_14_37_1 (x0 x1 x2 : Int) (x3 : End) (x4 x5 x6 : Int) (x7 : Bool) (x8 x9 : Int) (x10 : Bool) (x11 x12 x13 : Int) (x14 : Bool) (x15 : Int) (x16 : Bool) (x17 x18 x19 x20 : Int) (x21 : Bool) (x22 x23 x24 x25 : Int) (x26 : Bool) (x27 x28 x29 x30 : Int) (x31 : Bool) (x32 x33 x34 : Int) (x35 : List Spot) : St := ⟨15, ⟨37, ap (un 3) (ap [.int .i64 x0, .int .i64 x1, .int .i64 x2, .ptr 0 6 0] (ap (un 5) (ap [.ptr 0 12 0, .ptr 0 13 0, .undef, .fn 127 [] [], .undef, .undef, .ptr 0 18 0] (un 107)))), aq (nb 6) (aq [(enc27 x3)] (aq (nb 5) (aq [[.int .i64 x4, .int .i64 x5, .int .i64 x6, .nilS, .bool x7, .int .i64 x8, .int .i64 x9, .bool x10, .int .i64 x11, .int .i64 x12, .int .i64 x13, .nilS, .nilS, .bool x14, .int .i64 x15, .bool x16, .int .i64 x17, .int .i64 x18, .int .i64 x19, .nilS, .nilS, .int .i64 x20, .bool x21, .int .i64 x22, .int .i64 x23, .int .i64 x24, .nilS, .nilS], [.int .i64 x25, .bool x26, .int .i64 x27, .int .i64 x28, .int .i64 x29, .nilS, .nilS]] (aq (nb 4) (aq [[.int .i64 x30, .bool x31, .int .i64 x32, .int .i64 x33, .int .i64 x34, .sl .spot x35 .none, .nilS]] (nb 107)))))), [.code (b37 8 63), .code (b37 8 191), .code (b37 7 127)]⟩, []⟩
noncomputable def J37_15 (x0 x1 x2 : Int) (x3 : End) (x4 x5 x6 : Int) (x7 : Bool) (x8 x9 : Int) (x10 : Bool) (x11 x12 x13 : Int) (x14 : Bool) (x15 : Int) (x16 : Bool) (x17 x18 x19 x20 : Int) (x21 : Bool) (x22 x23 x24 x25 : Int) (x26 : Bool) (x27 x28 x29 x30 : Int) (x31 : Bool) (x32 x33 x34 : Int) : St := ⟨16, ⟨37, ap (un 3) (ap [.int .i64 x0, .int .i64 x1, .int .i64 x2, .ptr 0 6 0] (ap (un 5) (ap [.ptr 0 12 0, .ptr 0 13 0, .undef, .fn 127 [] [], .undef, .undef, .ptr 0 18 0] (un 107)))), aq (nb 6) (aq [(enc27 x3)] (aq (nb 5) (aq [[.int .i64 x4, .int .i64 x5, .int .i64 x6, .nilS, .bool x7, .int .i64 x8, .int .i64 x9, .bool x10, .int .i64 x11, .int .i64 x12, .int .i64 x13, .nilS, .nilS, .bool x14, .int .i64 x15, .bool x16, .int .i64 x17, .int .i64 x18, .int .i64 x19, .nilS, .nilS, .int .i64 x20, .bool x21, .int .i64 x22, .int .i64 x23, .int .i64 x24, .nilS, .nilS], [.int .i64 x25, .bool x26, .int .i64 x27, .int .i64 x28, .int .i64 x29, .nilS, .nilS]] (aq (nb 4) (aq [[.int .i64 x30, .bool x31, .int .i64 x32, .int .i64 x33, .int .i64 x34, .nilS, .nilS]] (nb 107)))))), [.code (b37 10 191), .code (b37 10 703), .code (b37 7 127)]⟩, []⟩
noncomputable def J37_21 (x0 : Int) (x1 : End) (x2 x3 x4 : Int) (x5 : Bool) (x6 x7 : Int) (x8 : Bool) (x9 x10 x11 : Int) (x12 : Bool) (x13 : Int) (x14 : Bool) (x15 x16 x17 x18 : Int) (x19 : Bool) (x20 x21 x22 x23 : Int) (x24 : Bool) (x25 x26 x27 x28 : Int) (x29 : Bool) (x30 x31 x32 : Int) : St := ⟨22, ⟨37, ap (un 5) (ap [.int .i64 x0, .ptr 0 6 0] (ap (un 5) (ap [.ptr 0 12 0, .ptr 0 13 0] (ap (un 4) (ap [.ptr 0 18 0] (un 107)))))), aq (nb 6) (aq [(enc27 x1)] (aq (nb 5) (aq [[.int .i64 x2, .int .i64 x3, .int .i64 x4, .nilS, .bool x5, .int .i64 x6, .int .i64 x7, .bool x8, .int .i64 x9, .int .i64 x10, .int .i64 x11, .nilS, .nilS, .bool x12, .int .i64 x13, .bool x14, .int .i64 x15, .int .i64 x16, .int .i64 x17, .nilS, .nilS, .int .i64 x18, .bool x19, .int .i64 x20, .int .i64 x21, .int .i64 x22, .nilS, .nilS], [.int .i64 x23, .bool x24, .int .i64 x25, .int .i64 x26, .int .i64 x27, .nilS, .nilS]] (aq (nb 4) (aq [[.int .i64 x28, .bool x29, .int .i64 x30, .int .i64 x31, .int .i64 x32, .nilS, .nilS]] (nb 107)))))), [.code (b37 8 127), .code (b37 8 255)]⟩, []⟩
noncomputable def J37_15_37_1 (x0 x1 x2 : Int) (x3 : End) (x4 x5 x6 : Int) (x7 : Bool) (x8 x9 : Int) (x10 : Bool) (x11 x12 x13 : Int) (x14 : Bool) (x15 : Int) (x16 : Bool) (x17 x18 x19 x20 : Int) (x21 : Bool) (x22 x23 x24 x25 : Int) (x26 : Bool) (x27 x28 x29 x30 : Int) (x31 : Bool) (x32 x33 x34 : Int) (x35 : List Spot) : St := ⟨16, ⟨37, ap (un 3) (ap [.int .i64 x0, .int .i64 x1, .int .i64 x2, .ptr 0 6 0] (ap (un 5) (ap [.ptr 0 12 0, .ptr 0 13 0, .undef, .fn 127 [] [], .undef, .undef, .ptr 0 18 0] (un 107)))), aq (nb 6) (aq [(enc27 x3)] (aq (nb 5) (aq [[.int .i64 x4, .int .i64 x5, .int .i64 x6, .nilS, .bool x7, .int .i64 x8, .int .i64 x9, .bool x10, .int .i64 x11, .int .i64 x12, .int .i64 x13, .nilS, .nilS, .bool x14, .int .i64 x15, .bool x16, .int .i64 x17, .int .i64 x18, .int .i64 x19, .nilS, .nilS, .int .i64 x20, .bool x21, .int .i64 x22, .int .i64 x23, .int .i64 x24, .nilS, .nilS], [.int .i64 x25, .bool x26, .int .i64 x27, .int .i64 x28, .int .i64 x29, .nilS, .nilS]] (aq (nb 4) (aq [[.int .i64 x30, .bool x31, .int .i64 x32, .int .i64 x33, .int .i64 x34, .sl .spot x35 .none, .nilS]] (nb 107)))))), [.code (b37 10 191), .code (b37 10 703), .code (b37 7 127)]⟩, []⟩
noncomputable def J37_21_37_1 (x0 : Int) (x1 : End) (x2 x3 x4 : Int) (x5 : Bool) (x6 x7 : Int) (x8 : Bool) (x9 x10 x11 : Int) (x12 : Bool) (x13 : Int) (x14 : Bool) (x15 x16 x17 x18 : Int) (x19 : Bool) (x20 x21 x22 x23 : Int) (x24 : Bool) (x25 x26 x27 x28 : Int) (x29 : Bool) (x30 x31 x32 : Int) (x33 : List Spot) : St := ⟨22, ⟨37, ap (un 5) (ap [.int .i64 x0, .ptr 0 6 0] (ap (un 5) (ap [.ptr 0 12 0, .ptr 0 13 0] (ap (un 4) (ap [.ptr 0 18 0] (un 107)))))), aq (nb 6) (aq [(enc27 x1)] (aq (nb 5) (aq [[.int .i64 x2, .int .i64 x3, .int .i64 x4, .nilS, .bool x5, .int .i64 x6, .int .i64 x7, .bool x8, .int .i64 x9, .int .i64 x10, .int .i64 x11, .nilS, .nilS, .bool x12, .int .i64 x13, .bool x14, .int .i64 x15, .int .i64 x16, .int .i64 x17, .nilS, .nilS, .int .i64 x18, .bool x19, .int .i64 x20, .int .i64 x21, .int .i64 x22, .nilS, .nilS], [.int .i64 x23, .bool x24, .int .i64 x25, .int .i64 x26, .int .i64 x27, .nilS, .nilS]] (aq (nb 4) (aq [[.int .i64 x28, .bool x29, .int .i64 x30, .int .i64 x31, .int .i64 x32, .sl .spot x33 .none, .nilS]] (nb 107)))))), [.code (b37 8 127), .code (b37 8 255)]⟩, []⟩
noncomputable def J37_21_37_2 (x0 : Int) (x1 : End) (x2 x3 x4 : Int) (x5 : Bool) (x6 x7 : Int) (x8 : Bool) (x9 x10 x11 : Int) (x12 : Bool) (x13 : Int) (x14 : Bool) (x15 x16 x17 x18 : Int) (x19 : Bool) (x20 x21 x22 x23 : Int) (x24 : Bool) (x25 x26 x27 x28 : Int) (x29 : Bool) (x30 x31 x32 : Int) (x33 : List Spot) : St := ⟨22, ⟨37, ap (un 5) (ap [.int .i64 x0, .ptr 0 6 0] (ap (un 5) (ap [.ptr 0 12 0, .ptr 0 13 0] (ap (un 4) (ap [.ptr 0 18 0] (un 107)))))), aq (nb 6) (aq [(enc27 x1)] (aq (nb 5) (aq [[.int .i64 x2, .int .i64 x3, .int .i64 x4, .nilS, .bool x5, .int .i64 x6, .int .i64 x7, .bool x8, .int .i64 x9, .int .i64 x10, .int .i64 x11, .nilS, .nilS, .bool x12, .int .i64 x13, .bool x14, .int .i64 x15, .int .i64 x16, .int .i64 x17, .nilS, .nilS, .int .i64 x18, .bool x19, .int .i64 x20, .int .i64 x21, .int .i64 x22, .nilS, .nilS], [.int .i64 x23, .bool x24, .int .i64 x25, .int .i64 x26, .int .i64 x27, .nilS, .nilS]] (aq (nb 4) (aq [[.int .i64 x28, .bool x29, .int .i64 x30, .int .i64 x31, .int .i64 x32, .nilS, .sl .spot x33 .none]] (nb 107)))))), [.code (b37 8 127), .code (b37 8 255)]⟩, []⟩
noncomputable def J37_21_37_3 (x0 : Int) (x1 : End) (x2 x3 x4 : Int) (x5 : Bool) (x6 x7 : Int) (x8 : Bool) (x9 x10 x11 : Int) (x12 : Bool) (x13 : Int) (x14 : Bool) (x15 x16 x17 x18 : Int) (x19 : Bool) (x20 x21 x22 x23 : Int) (x24 : Bool) (x25 x26 x27 : Int) (x28 : Msg) : St := ⟨22, ⟨37, ap (un 5) (ap [.int .i64 x0, .ptr 0 6 0] (ap (un 5) (ap [.ptr 0 12 0, .ptr 0 13 0] (ap (un 4) (ap [.ptr 0 18 0] (un 107)))))), aq (nb 6) (aq [(enc27 x1)] (aq (nb 5) (aq [[.int .i64 x2, .int .i64 x3, .int .i64 x4, .nilS, .bool x5, .int .i64 x6, .int .i64 x7, .bool x8, .int .i64 x9, .int .i64 x10, .int .i64 x11, .nilS, .nilS, .bool x12, .int .i64 x13, .bool x14, .int .i64 x15, .int .i64 x16, .int .i64 x17, .nilS, .nilS, .int .i64 x18, .bool x19, .int .i64 x20, .int .i64 x21, .int .i64 x22, .nilS, .nilS], [.int .i64 x23, .bool x24, .int .i64 x25, .int .i64 x26, .int .i64 x27, .nilS, .nilS]] (aq (nb 4) (aq [(enc25 x28)] (nb 107)))))), [.code (b37 8 127), .code (b37 8 255)]⟩, []⟩
noncomputable abbrev cd37 : Cod (End × Msg × Int) := (codT3 cod27 cod25 codI)
noncomputable def tS37 (x0 : End) (x1 : Tab) (x2 : List Int) (x3 x4 x5 : Int) : Tr (End × Msg × Int) :=
  .cond ((V36 x1 x0).isSome)
  (.cond (!(decide (((F36 x1 x0).2) = 0)))
    (.cond ((V127 ((F36 x1 x0).2)).isSome)
      (.some ((F127 ((F36 x1 x0).2)).1, (F127 ((F36 x1 x0).2)).2.1, (F127 ((F36 x1 x0).2)).2.2))
      (.none))
    (.cond (decide (x3 < 1))
      (.go (J37_6 0 0 0 false 0 0 false 0 0 0 false 0 false 0 0 0 0 false 0 0 0 0 false 0 0 0))
      (.cond (decide (6 < x3))
        (.go (J37_6 0 0 0 false 0 0 false 0 0 0 false 0 false 0 0 0 0 false 0 0 0 0 false 0 0 0))
        (.cond ((V128 x5 1099511627776).isSome)
          (.cond (!(F128 x5 1099511627776))
            (.go (J37_6 0 0 0 false 0 0 false 0 0 0 false 0 false 0 0 0 0 false 0 0 0 0 false 0 0 0))
            (.cond ((V129 x3 x4).isSome)
              (.cond (!(F129 x3 x4))
                (.go (J37_6 0 0 0 false 0 0 false 0 0 0 false 0 false 0 0 0 0 false 0 0 0 0 false 0 0 0))
                (.go (J37_7 x2 x3 x4 x5 x0 0 0 0 false 0 0 false 0 0 0 false 0 false 0 0 0 0 false 0 0 0 0 false 0 0 0 ((F36 x1 x0).1))))
              (.none)))
          (.none)))))
  (.none)
theorem eS37 (x0 : End) (x1 : Tab) (x2 : List Int) (x3 x4 x5 : Int) : vlim cd37 (S37 x0 x1 x2 x3 x4 x5) = (tS37 x0 x1 x2 x3 x4 x5).val cd37 C37 := Tr.val_eq 59 (fun H z => by kernel_rfl)
noncomputable def tJ37_6 (x0 x1 x2 : Int) (x3 : Bool) (x4 x5 : Int) (x6 : Bool) (x7 x8 x9 : Int) (x10 : Bool) (x11 : Int) (x12 : Bool) (x13 x14 x15 x16 : Int) (x17 : Bool) (x18 x19 x20 x21 : Int) (x22 : Bool) (x23 x24 x25 : Int) : Tr (End × Msg × Int) :=
  .cond ((V127 2).isSome)
  (.some ((F127 2).1, (F127 2).2.1, (F127 2).2.2))
  (.none)
theorem eJ37_6 (x0 x1 x2 : Int) (x3 : Bool) (x4 x5 : Int) (x6 : Bool) (x7 x8 x9 : Int) (x10 : Bool) (x11 : Int) (x12 : Bool) (x13 x14 x15 x16 : Int) (x17 : Bool) (x18 x19 x20 x21 : Int) (x22 : Bool) (x23 x24 x25 : Int) : lv cd37 C37 (J37_6 x0 x1 x2 x3 x4 x5 x6 x7 x8 x9 x10 x11 x12 x13 x14 x15 x16 x17 x18 x19 x20 x21 x22 x23 x24 x25) = (tJ37_6 x0 x1 x2 x3 x4 x5 x6 x7 x8 x9 x10 x11 x12 x13 x14 x15 x16 x17 x18 x19 x20 x21 x22 x23 x24 x25).val cd37 C37 := Tr.lv_eq 13 (fun H z => by kernel_rfl)
noncomputable def tJ37_7 (x0 : List Int) (x1 x2 x3 : Int) (x4 : End) (x5 x6 x7 : Int) (x8 : Bool) (x9 x10 : Int) (x11 : Bool) (x12 x13 x14 : Int) (x15 : Bool) (x16 : Int) (x17 : Bool) (x18 x19 x20 x21 : Int) (x22 : Bool) (x23 x24 x25 x26 : Int) (x27 : Bool) (x28 x29 x30 : Int) (x31 : Tab) : Tr (End × Msg × Int) :=
  .cond x4.opn
  (.cond ((V127 12).isSome)
    (.some ((F127 12).1, (F127 12).2.1, (F127 12).2.2))
    (.none))
  (.cond (decide (x1 = 1))
    (.go (J37_11 x0 x1 x2 x3 x4 x5 x6 x7 x8 x9 x10 x11 x12 x13 x14 x15 x16 x17 x18 x19 x20 x21 x22 x23 x24 x25 x26 x27 x28 x29 x30 x31 x1 false 0 0 x2))
    (.cond (decide (x1 = 3))
      (.go (J37_11 x0 x1 x2 x3 x4 x5 x6 x7 x8 x9 x10 x11 x12 x13 x14 x15 x16 x17 x18 x19 x20 x21 x22 x23 x24 x25 x26 x27 x28 x29 x30 x31 x1 false 0 0 x2))
      (.go (J37_14 x1 x2 x3 x4 x5 x6 x7 x8 x9 x10 x11 x12 x13 x14 x15 x16 x17 x18 x19 x20 x21 x22 x23 x24 x25 x26 x27 x28 x29 x30 x1 false 0 0 x2))))
theorem eJ37_7 (x0 : List Int) (x1 x2 x3 : Int) (x4 : End) (x5 x6 x7 : Int) (x8 : Bool) (x9 x10 : Int) (x11 : Bool) (x12 x13 x14 : Int) (x15 : Bool) (x16 : Int) (x17 : Bool) (x18 x19 x20 x21 : Int) (x22 : Bool) (x23 x24 x25 x26 : Int) (x27 : Bool) (x28 x29 x30 : Int) (x31 : Tab) : lv cd37 C37 (J37_7 x0 x1 x2 x3 x4 x5 x6 x7 x8 x9 x10 x11 x12 x13 x14 x15 x16 x17 x18 x19 x20 x21 x22 x23 x24 x25 x26 x27 x28 x29 x30 x31) = (tJ37_7 x0 x1 x2 x3 x4 x5 x6 x7 x8 x9 x10 x11 x12 x13 x14 x15 x16 x17 x18 x19 x20 x21 x22 x23 x24 x25 x26 x27 x28 x29 x30 x31).val cd37 C37 := Tr.lv_eq 33 (fun H z => by kernel_rfl)
noncomputable def tJ37_11 (x0 : List Int) (x1 x2 x3 : Int) (x4 : End) (x5 x6 x7 : Int) (x8 : Bool) (x9 x10 : Int) (x11 : Bool) (x12 x13 x14 : Int) (x15 : Bool) (x16 : Int) (x17 : Bool) (x18 x19 x20 x21 : Int) (x22 : Bool) (x23 x24 x25 x26 : Int) (x27 : Bool) (x28 x29 x30 : Int) (x31 : Tab) (x32 : Int) (x33 : Bool) (x34 x35 x36 : Int) : Tr (End × Msg × Int) :=
  .cond ((V130 x31 x0 8).isSome)
  (.cond (decide (((F130 x31 x0 8).length : Int) < x2))
    (.cond ((V127 14).isSome)
      (.some ((F127 14).1, (F127 14).2.1, (F127 14).2.2))
      (.none))
    (.go (J37_14_37_1 x1 x2 x3 x4 x5 x6 x7 x8 x9 x10 x11 x12 x13 x14 x15 x16 x17 x18 x19 x20 x21 x22 x23 x24 x25 x26 x27 x28 x29 x30 x32 x33 x34 x35 x36 (F130 x31 x0 8))))
  (.none)
theorem eJ37_11 (x0 : List Int) (x1 x2 x3 : Int) (x4 : End) (x5 x6 x7 : Int) (x8 : Bool) (x9 x10 : Int) (x11 : Bool) (x12 x13 x14 : Int) (x15 : Bool) (x16 : Int) (x17 : Bool) (x18 x19 x20 x21 : Int) (x22 : Bool) (x23 x24 x25 x26 : Int) (x27 : Bool) (x28 x29 x30 : Int) (x31 : Tab) (x32 : Int) (x33 : Bool) (x34 x35 x36 : Int) : lv cd37 C37 (J37_11 x0 x1 x2 x3 x4 x5 x6 x7 x8 x9 x10 x11 x12 x13 x14 x15 x16 x17 x18 x19 x20 x21 x22 x23 x24 x25 x26 x27 x28 x29 x30 x31 x32 x33 x34 x35 x36) = (tJ37_11 x0 x1 x2 x3 x4 x5 x6 x7 x8 x9 x10 x11 x12 x13 x14 x15 x16 x17 x18 x19 x20 x21 x22 x23 x24 x25 x26 x27 x28 x29 x30 x31 x32 x33 x34 x35 x36).val cd37 C37 := Tr.lv_eq 30 (fun H z => by kernel_rfl)
noncomputable def tJ37_14 (x0 x1 x2 : Int) (x3 : End) (x4 x5 x6 : Int) (x7 : Bool) (x8 x9 : Int) (x10 : Bool) (x11 x12 x13 : Int) (x14 : Bool) (x15 : Int) (x16 : Bool) (x17 x18 x19 x20 : Int) (x21 : Bool) (x22 x23 x24 x25 : Int) (x26 : Bool) (x27 x28 x29 x30 : Int) (x31 : Bool) (x32 x33 x34 : Int) : Tr (End × Msg × Int) :=
  .cond (decide (x0 = 2))
  (.go (J37_15 x0 x1 x2 x3 x4 x5 x6 x7 x8 x9 x10 x11 x12 x13 x14 x15 x16 x17 x18 x19 x20 x21 x22 x23 x24 x25 x26 x27 x28 x29 x30 x31 x32 x33 x34))
  (.cond (decide (x0 = 3))
    (.go (J37_15 x0 x1 x2 x3 x4 x5 x6 x7 x8 x9 x10 x11 x12 x13 x14 x15 x16 x17 x18 x19 x20 x21 x22 x23 x24 x25 x26 x27 x28 x29 x30 x31 x32 x33 x34))
    (.go (J37_21 x2 x3 x4 x5 x6 x7 x8 x9 x10 x11 x12 x13 x14 x15 x16 x17 x18 x19 x20 x21 x22 x23 x24 x25 x26 x27 x28 x29 x30 x31 x32 x33 x34)))
theorem eJ37_14 (x0 x1 x2 : Int) (x3 : End) (x4 x5 x6 : Int) (x7 : Bool) (x8 x9 : Int) (x10 : Bool) (x11 x12 x13 : Int) (x14 : Bool) (x15 : Int) (x16 : Bool) (x17 x18 x19 x20 : Int) (x21 : Bool) (x22 x23 x24 x25 : Int) (x26 : Bool) (x27 x28 x29 x30 : Int) (x31 : Bool) (x32 x33 x34 : Int) : lv cd37 C37 (J37_14 x0 x1 x2 x3 x4 x5 x6 x7 x8 x9 x10 x11 x12 x13 x14 x15 x16 x17 x18 x19 x20 x21 x22 x23 x24 x25 x26 x27 x28 x29 x30 x31 x32 x33 x34) = (tJ37_14 x0 x1 x2 x3 x4 x5 x6 x7 x8 x9 x10 x11 x12 x13 x14 x15 x16 x17 x18 x19 x20 x21 x22 x23 x24 x25 x26 x27 x28 x29 x30 x31 x32 x33 x34).val cd37 C37 := Tr.lv_eq 14 (fun H z => by kernel_rfl)
noncomputable def tJ37_14_37_1 (x0 x1 x2 : Int) (x3 : End) (x4 x5 x6 : Int) (x7 : Bool) (x8 x9 : Int) (x10 : Bool) (x11 x12 x13 : Int) (x14 : Bool) (x15 : Int) (x16 : Bool) (x17 x18 x19 x20 : Int) (x21 : Bool) (x22 x23 x24 x25 : Int) (x26 : Bool) (x27 x28 x29 x30 : Int) (x31 : Bool) (x32 x33 x34 : Int) (x35 : List Spot) : Tr (End × Msg × Int) :=
  .cond (decide (x0 = 2))
  (.go (J37_15_37_1 x0 x1 x2 x3 x4 x5 x6 x7 x8 x9 x10 x11 x12 x13 x14 x15 x16 x17 x18 x19 x20 x21 x22 x23 x24 x25 x26 x27 x28 x29 x30 x31 x32 x33 x34 x35))
  (.cond (decide (x0 = 3))
    (.go (J37_15_37_1 x0 x1 x2 x3 x4 x5 x6 x7 x8 x9 x10 x11 x12 x13 x14 x15 x16 x17 x18 x19 x20 x21 x22 x23 x24 x25 x26 x27 x28 x29 x30 x31 x32 x33 x34 x35))
    (.go (J37_21_37_1 x2 x3 x4 x5 x6 x7 x8 x9 x10 x11 x12 x13 x14 x15 x16 x17 x18 x19 x20 x21 x22 x23 x24 x25 x26 x27 x28 x29 x30 x31 x32 x33 x34 x35)))
theorem eJ37_14_37_1 (x0 x1 x2 : Int) (x3 : End) (x4 x5 x6 : Int) (x7 : Bool) (x8 x9 : Int) (x10 : Bool) (x11 x12 x13 : Int) (x14 : Bool) (x15 : Int) (x16 : Bool) (x17 x18 x19 x20 : Int) (x21 : Bool) (x22 x23 x24 x25 : Int) (x26 : Bool) (x27 x28 x29 x30 : Int) (x31 : Bool) (x32 x33 x34 : Int) (x35 : List Spot) : lv cd37 C37 (J37_14_37_1 x0 x1 x2 x3 x4 x5 x6 x7 x8 x9 x10 x11 x12 x13 x14 x15 x16 x17 x18 x19 x20 x21 x22 x23 x24 x25 x26 x27 x28 x29 x30 x31 x32 x33 x34 x35) = (tJ37_14_37_1 x0 x1 x2 x3 x4 x5 x6 x7 x8 x9 x10 x11 x12 x13 x14 x15 x16 x17 x18 x19 x20 x21 x22 x23 x24 x25 x26 x27 x28 x29 x30 x31 x32 x33 x34 x35).val cd37 C37 := Tr.lv_eq 14 (fun H z => by kernel_rfl)
noncomputable def tJ37_15 (x0 x1 x2 : Int) (x3 : End) (x4 x5 x6 : Int) (x7 : Bool) (x8 x9 : Int) (x10 : Bool) (x11 x12 x13 : Int) (x14 : Bool) (x15 : Int) (x16 : Bool) (x17 x18 x19 x20 : Int) (x21 : Bool) (x22 x23 x24 x25 : Int) (x26 : Bool) (x27 x28 x29 x30 : Int) (x31 : Bool) (x32 x33 x34 : Int) : Tr (End × Msg × Int) :=
  .cond ((V131 x3).isSome)
  (.cond (decide (((F131 x3).length : Int) < x1))
    (.cond ((V127 14).isSome)
      (.some ((F127 14).1, (F127 14).2.1, (F127 14).2.2))
      (.none))
    (.cond (ic x1 (F131 x3))
      (.cond (decide (x0 = 2))
        (.cond (inR .i64 (((F131 x3).length : Int) - x1))
          (.cond (ic (((F131 x3).length : Int) - x1) (F131 x3))
            (.go (J37_21_37_2 x2 x3 x4 x5 x6 x7 x8 x9 x10 x11 x12 x13 x14 x15 x16 x17 x18 x19 x20 x21 x22 x23 x24 x25 x26 x27 x28 x29 x30 x31 x32 x33 x34 ((F131 x3).drop (((F131 x3).length : Int) - x1).toNat)))
            (.none))
          (.none))
        (.go (J37_21_37_2 x2 x3 x4 x5 x6 x7 x8 x9 x10 x11 x12 x13 x14 x15 x16 x17 x18 x19 x20 x21 x22 x23 x24 x25 x26 x27 x28 x29 x30 x31 x32 x33 x34 ((F131 x3).take x1.toNat))))
      (.none)))
  (.none)
theorem eJ37_15 (x0 x1 x2 : Int) (x3 : End) (x4 x5 x6 : Int) (x7 : Bool) (x8 x9 : Int) (x10 : Bool) (x11 x12 x13 : Int) (x14 : Bool) (x15 : Int) (x16 : Bool) (x17 x18 x19 x20 : Int) (x21 : Bool) (x22 x23 x24 x25 : Int) (x26 : Bool) (x27 x28 x29 x30 : Int) (x31 : Bool) (x32 x33 x34 : Int) : lv cd37 C37 (J37_15 x0 x1 x2 x3 x4 x5 x6 x7 x8 x9 x10 x11 x12 x13 x14 x15 x16 x17 x18 x19 x20 x21 x22 x23 x24 x25 x26 x27 x28 x29 x30 x31 x32 x33 x34) = (tJ37_15 x0 x1 x2 x3 x4 x5 x6 x7 x8 x9 x10 x11 x12 x13 x14 x15 x16 x17 x18 x19 x20 x21 x22 x23 x24 x25 x26 x27 x28 x29 x30 x31 x32 x33 x34).val cd37 C37 := Tr.lv_eq 43 (fun H z => by kernel_rfl)
noncomputable def tJ37_21 (x0 : Int) (x1 : End) (x2 x3 x4 : Int) (x5 : Bool) (x6 x7 : Int) (x8 : Bool) (x9 x10 x11 : Int) (x12 : Bool) (x13 : Int) (x14 : Bool) (x15 x16 x17 x18 : Int) (x19 : Bool) (x20 x21 x22 x23 : Int) (x24 : Bool) (x25 x26 x27 x28 : Int) (x29 : Bool) (x30 x31 x32 : Int) : Tr (End × Msg × Int) :=
  .cond ((V132 x1 (⟨x28, x29, x30, x31, x32, ([] : List Spot), ([] : List Spot)⟩ : Msg) x0).isSome)
  (.some ((F132 x1 (⟨x28, x29, x30, x31, x32, ([] : List Spot), ([] : List Spot)⟩ : Msg) x0).1, (F132 x1 (⟨x28, x29, x30, x31, x32, ([] : List Spot), ([] : List Spot)⟩ : Msg) x0).2.1, (F132 x1 (⟨x28, x29, x30, x31, x32, ([] : List Spot), ([] : List Spot)⟩ : Msg) x0).2.2))
  (.none)
theorem eJ37_21 (x0 : Int) (x1 : End) (x2 x3 x4 : Int) (x5 : Bool) (x6 x7 : Int) (x8 : Bool) (x9 x10 x11 : Int) (x12 : Bool) (x13 : Int) (x14 : Bool) (x15 x16 x17 x18 : Int) (x19 : Bool) (x20 x21 x22 x23 : Int) (x24 : Bool) (x25 x26 x27 x28 : Int) (x29 : Bool) (x30 x31 x32 : Int) : lv cd37 C37 (J37_21 x0 x1 x2 x3 x4 x5 x6 x7 x8 x9 x10 x11 x12 x13 x14 x15 x16 x17 x18 x19 x20 x21 x22 x23 x24 x25 x26 x27 x28 x29 x30 x31 x32) = (tJ37_21 x0 x1 x2 x3 x4 x5 x6 x7 x8 x9 x10 x11 x12 x13 x14 x15 x16 x17 x18 x19 x20 x21 x22 x23 x24 x25 x26 x27 x28 x29 x30 x31 x32).val cd37 C37 := Tr.lv_eq 15 (fun H z => by kernel_rfl)
noncomputable def tJ37_15_37_1 (x0 x1 x2 : Int) (x3 : End) (x4 x5 x6 : Int) (x7 : Bool) (x8 x9 : Int) (x10 : Bool) (x11 x12 x13 : Int) (x14 : Bool) (x15 : Int) (x16 : Bool) (x17 x18 x19 x20 : Int) (x21 : Bool) (x22 x23 x24 x25 : Int) (x26 : Bool) (x27 x28 x29 x30 : Int) (x31 : Bool) (x32 x33 x34 : Int) (x35 : List Spot) : Tr (End × Msg × Int) :=
  .cond ((V131 x3).isSome)
  (.cond (decide (((F131 x3).length : Int) < x1))
    (.cond ((V127 14).isSome)
      (.some ((F127 14).1, (F127 14).2.1, (F127 14).2.2))
      (.none))
    (.cond (ic x1 (F131 x3))
      (.cond (decide (x0 = 2))
        (.cond (inR .i64 (((F131 x3).length : Int) - x1))
          (.cond (ic (((F131 x3).length : Int) - x1) (F131 x3))
            (.go (J37_21_37_3 x2 x3 x4 x5 x6 x7 x8 x9 x10 x11 x12 x13 x14 x15 x16 x17 x18 x19 x20 x21 x22 x23 x24 x25 x26 x27 x28 x29 (⟨x30, x31, x32, x33, x34, x35, (F131 x3).drop (((F131 x3).length : Int) - x1).toNat⟩ : Msg)))
            (.none))
          (.none))
        (.go (J37_21_37_3 x2 x3 x4 x5 x6 x7 x8 x9 x10 x11 x12 x13 x14 x15 x16 x17 x18 x19 x20 x21 x22 x23 x24 x25 x26 x27 x28 x29 (⟨x30, x31, x32, x33, x34, x35, (F131 x3).take x1.toNat⟩ : Msg))))
      (.none)))
  (.none)
theorem eJ37_15_37_1 (x0 x1 x2 : Int) (x3 : End) (x4 x5 x6 : Int) (x7 : Bool) (x8 x9 : Int) (x10 : Bool) (x11 x12 x13 : Int) (x14 : Bool) (x15 : Int) (x16 : Bool) (x17 x18 x19 x20 : Int) (x21 : Bool) (x22 x23 x24 x25 : Int) (x26 : Bool) (x27 x28 x29 x30 : Int) (x31 : Bool) (x32 x33 x34 : Int) (x35 : List Spot) : lv cd37 C37 (J37_15_37_1 x0 x1 x2 x3 x4 x5 x6 x7 x8 x9 x10 x11 x12 x13 x14 x15 x16 x17 x18 x19 x20 x21 x22 x23 x24 x25 x26 x27 x28 x29 x30 x31 x32 x33 x34 x35) = (tJ37_15_37_1 x0 x1 x2 x3 x4 x5 x6 x7 x8 x9 x10 x11 x12 x13 x14 x15 x16 x17 x18 x19 x20 x21 x22 x23 x24 x25 x26 x27 x28 x29 x30 x31 x32 x33 x34 x35).val cd37 C37 := Tr.lv_eq 43 (fun H z => by kernel_rfl)
noncomputable def tJ37_21_37_1 (x0 : Int) (x1 : End) (x2 x3 x4 : Int) (x5 : Bool) (x6 x7 : Int) (x8 : Bool) (x9 x10 x11 : Int) (x12 : Bool) (x13 : Int) (x14 : Bool) (x15 x16 x17 x18 : Int) (x19 : Bool) (x20 x21 x22 x23 : Int) (x24 : Bool) (x25 x26 x27 x28 : Int) (x29 : Bool) (x30 x31 x32 : Int) (x33 : List Spot) : Tr (End × Msg × Int) :=
  .cond ((V132 x1 (⟨x28, x29, x30, x31, x32, x33, ([] : List Spot)⟩ : Msg) x0).isSome)
  (.some ((F132 x1 (⟨x28, x29, x30, x31, x32, x33, ([] : List Spot)⟩ : Msg) x0).1, (F132 x1 (⟨x28, x29, x30, x31, x32, x33, ([] : List Spot)⟩ : Msg) x0).2.1, (F132 x1 (⟨x28, x29, x30, x31, x32, x33, ([] : List Spot)⟩ : Msg) x0).2.2))
  (.none)
theorem eJ37_21_37_1 (x0 : Int) (x1 : End) (x2 x3 x4 : Int) (x5 : Bool) (x6 x7 : Int) (x8 : Bool) (x9 x10 x11 : Int) (x12 : Bool) (x13 : Int) (x14 : Bool) (x15 x16 x17 x18 : Int) (x19 : Bool) (x20 x21 x22 x23 : Int) (x24 : Bool) (x25 x26 x27 x28 : Int) (x29 : Bool) (x30 x31 x32 : Int) (x33 : List Spot) : lv cd37 C37 (J37_21_37_1 x0 x1 x2 x3 x4 x5 x6 x7 x8 x9 x10 x11 x12 x13 x14 x15 x16 x17 x18 x19 x20 x21 x22 x23 x24 x25 x26 x27 x28 x29 x30 x31 x32 x33) = (tJ37_21_37_1 x0 x1 x2 x3 x4 x5 x6 x7 x8 x9 x10 x11 x12 x13 x14 x15 x16 x17 x18 x19 x20 x21 x22 x23 x24 x25 x26 x27 x28 x29 x30 x31 x32 x33).val cd37 C37 := Tr.lv_eq 15 (fun H z => by kernel_rfl)
noncomputable def tJ37_21_37_2 (x0 : Int) (x1 : End) (x2 x3 x4 : Int) (x5 : Bool) (x6 x7 : Int) (x8 : Bool) (x9 x10 x11 : Int) (x12 : Bool) (x13 : Int) (x14 : Bool) (x15 x16 x17 x18 : Int) (x19 : Bool) (x20 x21 x22 x23 : Int) (x24 : Bool) (x25 x26 x27 x28 : Int) (x29 : Bool) (x30 x31 x32 : Int) (x33 : List Spot) : Tr (End × Msg × Int) :=
  .cond ((V132 x1 (⟨x28, x29, x30, x31, x32, ([] : List Spot), x33⟩ : Msg) x0).isSome)
  (.some ((F132 x1 (⟨x28, x29, x30, x31, x32, ([] : List Spot), x33⟩ : Msg) x0).1, (F132 x1 (⟨x28, x29, x30, x31, x32, ([] : List Spot), x33⟩ : Msg) x0).2.1, (F132 x1 (⟨x28, x29, x30, x31, x32, ([] : List Spot), x33⟩ : Msg) x0).2.2))
  (.none)
theorem eJ37_21_37_2 (x0 : Int) (x1 : End) (x2 x3 x4 : Int) (x5 : Bool) (x6 x7 : Int) (x8 : Bool) (x9 x10 x11 : Int) (x12 : Bool) (x13 : Int) (x14 : Bool) (x15 x16 x17 x18 : Int) (x19 : Bool) (x20 x21 x22 x23 : Int) (x24 : Bool) (x25 x26 x27 x28 : Int) (x29 : Bool) (x30 x31 x32 : Int) (x33 : List Spot) : lv cd37 C37 (J37_21_37_2 x0 x1 x2 x3 x4 x5 x6 x7 x8 x9 x10 x11 x12 x13 x14 x15 x16 x17 x18 x19 x20 x21 x22 x23 x24 x25 x26 x27 x28 x29 x30 x31 x32 x33) = (tJ37_21_37_2 x0 x1 x2 x3 x4 x5 x6 x7 x8 x9 x10 x11 x12 x13 x14 x15 x16 x17 x18 x19 x20 x21 x22 x23 x24 x25 x26 x27 x28 x29 x30 x31 x32 x33).val cd37 C37 := Tr.lv_eq 15 (fun H z => by kernel_rfl)
noncomputable def tJ37_21_37_3 (x0 : Int) (x1 : End) (x2 x3 x4 : Int) (x5 : Bool) (x6 x7 : Int) (x8 : Bool) (x9 x10 x11 : Int) (x12 : Bool) (x13 : Int) (x14 : Bool) (x15 x16 x17 x18 : Int) (x19 : Bool) (x20 x21 x22 x23 : Int) (x24 : Bool) (x25 x26 x27 : Int) (x28 : Msg) : Tr (End × Msg × Int) :=
  .cond ((V132 x1 x28 x0).isSome)
  (.some ((F132 x1 x28 x0).1, (F132 x1 x28 x0).2.1, (F132 x1 x28 x0).2.2))
  (.none)
theorem eJ37_21_37_3 (x0 : Int) (x1 : End) (x2 x3 x4 : Int) (x5 : Bool) (x6 x7 : Int) (x8 : Bool) (x9 x10 x11 : Int) (x12 : Bool) (x13 : Int) (x14 : Bool) (x15 x16 x17 x18 : Int) (x19 : Bool) (x20 x21 x22 x23 : Int) (x24 : Bool) (x25 x26 x27 : Int) (x28 : Msg) : lv cd37 C37 (J37_21_37_3 x0 x1 x2 x3 x4 x5 x6 x7 x8 x9 x10 x11 x12 x13 x14 x15 x16 x17 x18 x19 x20 x21 x22 x23 x24 x25 x26 x27 x28) = (tJ37_21_37_3 x0 x1 x2 x3 x4 x5 x6 x7 x8 x9 x10 x11 x12 x13 x14 x15 x16 x17 x18 x19 x20 x21 x22 x23 x24 x25 x26 x27 x28).val cd37 C37 := Tr.lv_eq 15 (fun H z => by kernel_rfl)
noncomputable def V37 (x0 : End) (x1 : Tab) (x2 : List Int) (x3 x4 x5 : Int) : Option (End × Msg × Int) := vlim cd37 (S37 x0 x1 x2 x3 x4 x5)
noncomputable def F37 (x0 : End) (x1 : Tab) (x2 : List Int) (x3 x4 x5 : Int) : End × Msg × Int := (V37 x0 x1 x2 x3 x4 x5).getD default
noncomputable def G37 : GE := mkG [(0, some 3, .cell), (0, some 11, .spot), (0, some 12, .spot), (0, some 19, .spot), (0, some 20, .spot), (0, some 26, .spot), (0, some 27, .spot), (1, some 2, .cell), (2, none, .int)] (cod27.a (cod29.a ((codS .int).a (codI.a (codI.a (codI.a (.nil))))))) (fun x => V37 x.1 x.2.1 x.2.2.1 x.2.2.2.1 x.2.2.2.2.1 x.2.2.2.2.2.1) cd37
theorem ge37 : GeOk 37 G37 := ge_mk (C := C37) (base_ok (.cons ge36 (.cons ge127 (.cons ge128 (.cons ge129 (.cons ge130 (.cons ge131 (.cons ge132 .nil))))))) (.cons c37 .nil) .nil) rfl c37 (fun _ => rfl) (by kernel_rfl)
theorem c24 : CdOk 24 Tryz.f24 := ⟨by kernel_rfl, by kernel_rfl⟩
noncomputable def C24 : Cfg := base [(28, G28), (32, G32), (37, G37), (43, G43), (94, G94)] [(24, Tryz.f24)] [(24, [])] [] [] [] []
noncomputable def S24 (n : Nat) : Option AV := startK C24 n 24 Tryz.f24 []
noncomputable abbrev cd24 : Cod (Bool) := codB
noncomputable def tS24 : Tr (Bool) :=
  .cond ((V43 1 2).isSome)
  (.cond ((V43 2 1).isSome)
    (.cond ((V37 ((F43 1 2).1) (⟨1, 4, ([] : List Cell)⟩ : Tab) ([0, 1, 1, 0] : List Int) 1 1 7).isSome)
      (.cond ((V28 ((F43 2 1).1) (⟨2, 4, ([] : List Cell)⟩ : Tab) ([0, 1, 1, 0] : List Int) ((F37 ((F43 1 2).1) (⟨1, 4, ([] : List Cell)⟩ : Tab) ([0, 1, 1, 0] : List Int) 1 1 7).2.1)).isSome)
        (.cond ((V32 ((F37 ((F43 1 2).1) (⟨1, 4, ([] : List Cell)⟩ : Tab) ([0, 1, 1, 0] : List Int) 1 1 7).1) ((F28 ((F43 2 1).1) (⟨2, 4, ([] : List Cell)⟩ : Tab) ([0, 1, 1, 0] : List Int) ((F37 ((F43 1 2).1) (⟨1, 4, ([] : List Cell)⟩ : Tab) ([0, 1, 1, 0] : List Int) 1 1 7).2.1)).2.1)).isSome)
          (.cond (inR .i64 (((F43 1 2).2) + ((F43 2 1).2)))
            (.cond (inR .i64 ((((F43 1 2).2) + ((F43 2 1).2)) + ((F37 ((F43 1 2).1) (⟨1, 4, ([] : List Cell)⟩ : Tab) ([0, 1, 1, 0] : List Int) 1 1 7).2.2)))
              (.cond (inR .i64 (((((F43 1 2).2) + ((F43 2 1).2)) + ((F37 ((F43 1 2).1) (⟨1, 4, ([] : List Cell)⟩ : Tab) ([0, 1, 1, 0] : List Int) 1 1 7).2.2)) + ((F28 ((F43 2 1).1) (⟨2, 4, ([] : List Cell)⟩ : Tab) ([0, 1, 1, 0] : List Int) ((F37 ((F43 1 2).1) (⟨1, 4, ([] : List Cell)⟩ : Tab) ([0, 1, 1, 0] : List Int) 1 1 7).2.1)).2.2)))
                (.cond (inR .i64 ((((((F43 1 2).2) + ((F43 2 1).2)) + ((F37 ((F43 1 2).1) (⟨1, 4, ([] : List Cell)⟩ : Tab) ([0, 1, 1, 0] : List Int) 1 1 7).2.2)) + ((F28 ((F43 2 1).1) (⟨2, 4, ([] : List Cell)⟩ : Tab) ([0, 1, 1, 0] : List Int) ((F37 ((F43 1 2).1) (⟨1, 4, ([] : List Cell)⟩ : Tab) ([0, 1, 1, 0] : List Int) 1 1 7).2.1)).2.2)) + ((F32 ((F37 ((F43 1 2).1) (⟨1, 4, ([] : List Cell)⟩ : Tab) ([0, 1, 1, 0] : List Int) 1 1 7).1) ((F28 ((F43 2 1).1) (⟨2, 4, ([] : List Cell)⟩ : Tab) ([0, 1, 1, 0] : List Int) ((F37 ((F43 1 2).1) (⟨1, 4, ([] : List Cell)⟩ : Tab) ([0, 1, 1, 0] : List Int) 1 1 7).2.1)).2.1)).2)))
                  (.cond (decide (((((((F43 1 2).2) + ((F43 2 1).2)) + ((F37 ((F43 1 2).1) (⟨1, 4, ([] : List Cell)⟩ : Tab) ([0, 1, 1, 0] : List Int) 1 1 7).2.2)) + ((F28 ((F43 2 1).1) (⟨2, 4, ([] : List Cell)⟩ : Tab) ([0, 1, 1, 0] : List Int) ((F37 ((F43 1 2).1) (⟨1, 4, ([] : List Cell)⟩ : Tab) ([0, 1, 1, 0] : List Int) 1 1 7).2.1)).2.2)) + ((F32 ((F37 ((F43 1 2).1) (⟨1, 4, ([] : List Cell)⟩ : Tab) ([0, 1, 1, 0] : List Int) 1 1 7).1) ((F28 ((F43 2 1).1) (⟨2, 4, ([] : List Cell)⟩ : Tab) ([0, 1, 1, 0] : List Int) ((F37 ((F43 1 2).1) (⟨1, 4, ([] : List Cell)⟩ : Tab) ([0, 1, 1, 0] : List Int) 1 1 7).2.1)).2.1)).2)) = 0))
                    (.cond (decide ((((F32 ((F37 ((F43 1 2).1) (⟨1, 4, ([] : List Cell)⟩ : Tab) ([0, 1, 1, 0] : List Int) 1 1 7).1) ((F28 ((F43 2 1).1) (⟨2, 4, ([] : List Cell)⟩ : Tab) ([0, 1, 1, 0] : List Int) ((F37 ((F43 1 2).1) (⟨1, 4, ([] : List Cell)⟩ : Tab) ([0, 1, 1, 0] : List Int) 1 1 7).2.1)).2.1)).1).num) = 1))
                      (.cond (decide ((((F28 ((F43 2 1).1) (⟨2, 4, ([] : List Cell)⟩ : Tab) ([0, 1, 1, 0] : List Int) ((F37 ((F43 1 2).1) (⟨1, 4, ([] : List Cell)⟩ : Tab) ([0, 1, 1, 0] : List Int) 1 1 7).2.1)).1).num) = 1))
                        (.cond ((V94 (((F32 ((F37 ((F43 1 2).1) (⟨1, 4, ([] : List Cell)⟩ : Tab) ([0, 1, 1, 0] : List Int) 1 1 7).1) ((F28 ((F43 2 1).1) (⟨2, 4, ([] : List Cell)⟩ : Tab) ([0, 1, 1, 0] : List Int) ((F37 ((F43 1 2).1) (⟨1, 4, ([] : List Cell)⟩ : Tab) ([0, 1, 1, 0] : List Int) 1 1 7).2.1)).2.1)).1).cl) ([(⟨1, 0, 2, true, 2, (-1)⟩ : Cell)] : List Cell)).isSome)
                        (.cond (F94 (((F32 ((F37 ((F43 1 2).1) (⟨1, 4, ([] : List Cell)⟩ : Tab) ([0, 1, 1, 0] : List Int) 1 1 7).1) ((F28 ((F43 2 1).1) (⟨2, 4, ([] : List Cell)⟩ : Tab) ([0, 1, 1, 0] : List Int) ((F37 ((F43 1 2).1) (⟨1, 4, ([] : List Cell)⟩ : Tab) ([0, 1, 1, 0] : List Int) 1 1 7).2.1)).2.1)).1).cl) ([(⟨1, 0, 2, true, 2, (-1)⟩ : Cell)] : List Cell))
                        (.cond ((V94 (((F28 ((F43 2 1).1) (⟨2, 4, ([] : List Cell)⟩ : Tab) ([0, 1, 1, 0] : List Int) ((F37 ((F43 1 2).1) (⟨1, 4, ([] : List Cell)⟩ : Tab) ([0, 1, 1, 0] : List Int) 1 1 7).2.1)).1).cl) ([(⟨1, 0, 2, false, 1, (-1)⟩ : Cell)] : List Cell)).isSome)
                        (.some (F94 (((F28 ((F43 2 1).1) (⟨2, 4, ([] : List Cell)⟩ : Tab) ([0, 1, 1, 0] : List Int) ((F37 ((F43 1 2).1) (⟨1, 4, ([] : List Cell)⟩ : Tab) ([0, 1, 1, 0] : List Int) 1 1 7).2.1)).1).cl) ([(⟨1, 0, 2, false, 1, (-1)⟩ : Cell)] : List Cell)))
                        (.none))
                        (.some false))
                        (.none))
                        (.some false))
                      (.some false))
                    (.some false))
                  (.none))
                (.none))
              (.none))
            (.none))
          (.none))
        (.none))
      (.none))
    (.none))
  (.none)
theorem eS24 : vlim cd24 (S24) = (tS24).val cd24 C24 := Tr.val_eq 121 (fun H z => by kernel_rfl)
noncomputable def V24 : Option (Bool) := vlim cd24 (S24)
noncomputable def F24 : Bool := (V24).getD default
noncomputable def G24 : GE := mkG [] (.nil) (fun x => V24) cd24
theorem ge24 : GeOk 24 G24 := ge_mk (C := C24) (base_ok (.cons ge28 (.cons ge32 (.cons ge37 (.cons ge43 (.cons ge94 .nil))))) (.cons c24 .nil) .nil) rfl c24 (fun _ => rfl) (by kernel_rfl)
theorem c31 : CdOk 31 Tryz.f31 := ⟨by kernel_rfl, by kernel_rfl⟩
noncomputable def C31 : Cfg := base [(118, G118)] [(31, Tryz.f31)] [(31, [])] [] [] [] []
noncomputable def S31 (x0 x1 : Msg) (n : Nat) : Option AV := startK C31 n 31 Tryz.f31 [.agg (enc25 x0), .agg (enc25 x1)]
noncomputable abbrev cd31 : Cod (Bool) := codB
noncomputable def tS31 (x0 x1 : Msg) : Tr (Bool) :=
  .cond (decide (x0.kind = x1.kind))
  (.cond (x0.rep == x1.rep)
    (.cond (decide (x0.num = x1.num))
      (.cond (decide (x0.code = x1.code))
        (.cond (decide (x0.cnt = x1.cnt))
          (.cond ((V118 x0.sp x1.sp).isSome)
            (.cond (F118 x0.sp x1.sp)
              (.cond ((V118 x0.old x1.old).isSome)
                (.some (F118 x0.old x1.old))
                (.none))
              (.some false))
            (.none))
          (.some false))
        (.some false))
      (.some false))
    (.some false))
  (.some false)
theorem eS31 (x0 x1 : Msg) : vlim cd31 (S31 x0 x1) = (tS31 x0 x1).val cd31 C31 := Tr.val_eq 60 (fun H z => by kernel_rfl)
noncomputable def V31 (x0 x1 : Msg) : Option (Bool) := vlim cd31 (S31 x0 x1)
noncomputable def F31 (x0 x1 : Msg) : Bool := (V31 x0 x1).getD default
noncomputable def G31 : GE := mkG [(0, some 5, .spot), (0, some 6, .spot), (1, some 5, .spot), (1, some 6, .spot)] (cod25.a (cod25.a (.nil))) (fun x => V31 x.1 x.2.1) cd31
theorem ge31 : GeOk 31 G31 := ge_mk (C := C31) (base_ok (.cons ge118 .nil) (.cons c31 .nil) .nil) rfl c31 (fun _ => rfl) (by kernel_rfl)
noncomputable def C199 : Cfg := base [] [(199, Tryz.f199)] [(199, [(2, { drop := rs [(0, 85)], nt := [], nb := [] }), (3, { drop := rs [(0, 2), (4, 81)], nt := [], nb := [] }), (4, { drop := rs [(0, 85)], nt := [], nb := [] }), (5, { drop := rs [(0, 2), (4, 81)], nt := [], nb := [] }), (6, { drop := rs [(0, 85)], nt := [], nb := [] }), (7, { drop := rs [(0, 2), (4, 81)], nt := [], nb := [] }), (8, { drop := rs [(0, 85)], nt := [], nb := [] }), (9, { drop := rs [(0, 85)], nt := [], nb := [] })])] [] [] [] []
noncomputable def S199 (x0 : Tab) (x1 : Cell) (n : Nat) : Option AV := startK C199 n 199 Tryz.f199 [.agg (enc29 x0), .agg (ST.row .cell x1)]
noncomputable abbrev cd199 : Cod (Int) := codI
noncomputable def V199 (x0 : Tab) (x1 : Cell) : Option (Int) := vlim cd199 (S199 x0 x1)
noncomputable def G199 : GE := mkG [(0, some 2, .cell)] (cod29.a ((codE .cell).a (.nil))) (fun x => V199 x.1 x.2.1) cd199
noncomputable def C217 : Cfg := base [] [(217, Tryz.f217)] [(217, [])] [] [] [] []
noncomputable def S217 (x0 x1 : Cell) (n : Nat) : Option AV := startK C217 n 217 Tryz.f217 [.agg (ST.row .cell x0), .agg (ST.row .cell x1)]
noncomputable abbrev cd217 : Cod (Bool) := codB
noncomputable def V217 (x0 x1 : Cell) : Option (Bool) := vlim cd217 (S217 x0 x1)
noncomputable def G217 : GE := mkG [] ((codE .cell).a ((codE .cell).a (.nil))) (fun x => V217 x.1 x.2.1) cd217
noncomputable def C153 : Cfg := base [(199, G199), (217, G217)] [(153, Tryz.f153)] [(153, [(2, { drop := rs [(0, 61)], nt := [], nb := [] }), (3, { drop := rs [(0, 1), (2, 59)], nt := [], nb := [] }), (6, { drop := rs [(0, 1), (2, 1), (4, 57)], nt := [], nb := [] }), (7, { drop := rs [(0, 1), (2, 1), (4, 57)], nt := [], nb := [] }), (12, { drop := rs [(0, 61)], nt := [], nb := [] })])] [] [] [] []
noncomputable def S153 (x0 : Tab) (n : Nat) : Option AV := startK C153 n 153 Tryz.f153 [.agg (enc29 x0)]
noncomputable abbrev cd153 : Cod (Int) := codI
noncomputable def V153 (x0 : Tab) : Option (Int) := vlim cd153 (S153 x0)
noncomputable def G153 : GE := mkG [(0, some 2, .cell)] (cod29.a (.nil)) (fun x => V153 x.1) cd153
noncomputable def C187 : Cfg := base [] [(187, Tryz.f187)] [(187, [(2, { drop := rs [(2, 1), (4, 52)], nt := [], nb := [] }), (3, { drop := rs [(2, 1), (4, 52)], nt := [], nb := [] }), (5, { drop := rs [(0, 1), (2, 54)], nt := [], nb := [] }), (6, { drop := rs [(2, 1), (4, 52)], nt := [], nb := [] }), (7, { drop := rs [(0, 1), (2, 54)], nt := [], nb := [] })])] [] [] [] []
noncomputable def S187 (x0 : List Spot) (n : Nat) : Option AV := startK C187 n 187 Tryz.f187 [.sl .spot x0 .none]
noncomputable abbrev cd187 : Cod (Int) := codI
noncomputable def V187 (x0 : List Spot) : Option (Int) := vlim cd187 (S187 x0)
noncomputable def G187 : GE := mkG [(0, none, .spot)] ((codS .spot).a (.nil)) (fun x => V187 x.1) cd187
noncomputable def C188 : Cfg := base [] [(188, Tryz.f188)] [(188, [(2, { drop := rs [(0, 153)], nt := [], nb := [] }), (3, { drop := rs [(0, 1), (2, 151)], nt := [], nb := [] })])] [] [] [] []
noncomputable def S188 (x0 : Msg) (n : Nat) : Option AV := startK C188 n 188 Tryz.f188 [.agg (enc25 x0)]
noncomputable abbrev cd188 : Cod (Bool) := codB
noncomputable def V188 (x0 : Msg) : Option (Bool) := vlim cd188 (S188 x0)
noncomputable def G188 : GE := mkG [(0, some 5, .spot), (0, some 6, .spot)] (cod25.a (.nil)) (fun x => V188 x.1) cd188
noncomputable def C108 : Cfg := base [(187, G187), (188, G188)] [(108, Tryz.f108)] [(108, [(2, { drop := rs [(0, 66)], nt := [], nb := [] }), (3, { drop := rs [(0, 1), (2, 64)], nt := [], nb := [] }), (4, { drop := rs [(0, 66)], nt := [], nb := [] }), (5, { drop := rs [(0, 1), (2, 64)], nt := [], nb := [] }), (6, { drop := rs [(0, 66)], nt := [], nb := [] }), (7, { drop := rs [(0, 1), (2, 64)], nt := [], nb := [] })])] [] [] [] []
noncomputable def S108 (x0 : Msg) (n : Nat) : Option AV := startK C108 n 108 Tryz.f108 [.agg (enc25 x0)]
noncomputable abbrev cd108 : Cod (Int) := codI
noncomputable def V108 (x0 : Msg) : Option (Int) := vlim cd108 (S108 x0)
noncomputable def G108 : GE := mkG [(0, some 5, .spot), (0, some 6, .spot)] (cod25.a (.nil)) (fun x => V108 x.1) cd108
noncomputable def C163 : Cfg := base [] [(163, Tryz.f163)] [(163, [(3, { drop := rs [(0, 1), (2, 1), (5, 30)], nt := [(3, .spot, 33)], nb := [] }), (4, { drop := rs [(0, 1), (2, 1), (5, 30)], nt := [(3, .spot, 33)], nb := [] })])] [] [] [(0, none, .spot)] []
noncomputable def S163 (x0 : End) (n : Nat) : Option AV := startK C163 n 163 Tryz.f163 [.agg (enc27 x0)]
noncomputable abbrev cd163 : Cod (List Spot) := (codS .spot)
noncomputable def V163 (x0 : End) : Option (List Spot) := vlim cd163 (S163 x0)
noncomputable def G163 : GE := mkG [(0, some 3, .cell), (0, some 11, .spot), (0, some 12, .spot), (0, some 19, .spot), (0, some 20, .spot), (0, some 26, .spot), (0, some 27, .spot)] (cod27.a (.nil)) (fun x => V163 x.1) cd163
noncomputable def C154 : Cfg := base [(108, G108), (162, G162), (163, G163)] [(154, Tryz.f154)] [(154, [(3, { drop := rs [(0, 68)], nt := [], nb := [] }), (4, { drop := rs [(0, 1), (2, 1), (4, 64)], nt := [], nb := [] }), (6, { drop := rs [(0, 1), (2, 1), (6, 62)], nt := [], nb := [] }), (11, { drop := rs [(0, 1), (2, 1), (4, 2), (7, 61)], nt := [], nb := [] }), (14, { drop := rs [(0, 1), (2, 1), (4, 2), (8, 60)], nt := [], nb := [] })])] [] [] [] []
noncomputable def S154 (x0 : End) (n : Nat) : Option AV := startK C154 n 154 Tryz.f154 [.agg (enc27 x0)]
noncomputable abbrev cd154 : Cod (Bool) := codB
noncomputable def V154 (x0 : End) : Option (Bool) := vlim cd154 (S154 x0)
noncomputable def G154 : GE := mkG [(0, some 3, .cell), (0, some 11, .spot), (0, some 12, .spot), (0, some 19, .spot), (0, some 20, .spot), (0, some 26, .spot), (0, some 27, .spot)] (cod27.a (.nil)) (fun x => V154 x.1) cd154
noncomputable def C155 : Cfg := base [(31, G31)] [(155, Tryz.f155)] [(155, [])] [] [] [] []
noncomputable def S155 (x0 : Msg) (n : Nat) : Option AV := startK C155 n 155 Tryz.f155 [.agg (enc25 x0)]
noncomputable abbrev cd155 : Cod (Bool) := codB
noncomputable def V155 (x0 : Msg) : Option (Bool) := vlim cd155 (S155 x0)
noncomputable def G155 : GE := mkG [(0, some 5, .spot), (0, some 6, .spot)] (cod25.a (.nil)) (fun x => V155 x.1) cd155
noncomputable def C136 : Cfg := base [(162, G162)] [(136, Tryz.f136)] [(136, [(2, { drop := rs [(4, 1), (6, 13)], nt := [], nb := [] })])] [] [] [] []
noncomputable def S136 (x0 x1 : List Spot) (n : Nat) : Option AV := startK C136 n 136 Tryz.f136 [.sl .spot x0 .none, .sl .spot x1 .none]
noncomputable abbrev cd136 : Cod (Bool) := codB
noncomputable def V136 (x0 x1 : List Spot) : Option (Bool) := vlim cd136 (S136 x0 x1)
noncomputable def G136 : GE := mkG [(0, none, .spot), (1, none, .spot)] ((codS .spot).a ((codS .spot).a (.nil))) (fun x => V136 x.1 x.2.1) cd136
noncomputable def C40 : Cfg := base [(108, G108), (136, G136)] [(40, Tryz.f40)] [(40, [(2, { drop := rs [(0, 79)], nt := [], nb := [] }), (3, { drop := rs [(0, 2), (4, 75)], nt := [], nb := [] }), (8, { drop := rs [(0, 2), (4, 75)], nt := [], nb := [] }), (9, { drop := rs [(0, 2), (4, 36), (41, 38)], nt := [], nb := [] })])] [] [] [] []
noncomputable def S40 (x0 x1 : Msg) (n : Nat) : Option AV := startK C40 n 40 Tryz.f40 [.agg (enc25 x0), .agg (enc25 x1)]
noncomputable abbrev cd40 : Cod (Bool) := codB
noncomputable def V40 (x0 x1 : Msg) : Option (Bool) := vlim cd40 (S40 x0 x1)
noncomputable def G40 : GE := mkG [(0, some 5, .spot), (0, some 6, .spot), (1, some 5, .spot), (1, some 6, .spot)] (cod25.a (cod25.a (.nil))) (fun x => V40 x.1 x.2.1) cd40
noncomputable def C156 : Cfg := base [(40, G40), (55, G55)] [(156, Tryz.f156)] [(156, [(2, { drop := rs [(0, 29)], nt := [], nb := [] }), (3, { drop := rs [(0, 1), (2, 27)], nt := [], nb := [] })])] [] [] [] []
noncomputable def S156 (x0 : End) (n : Nat) : Option AV := startK C156 n 156 Tryz.f156 [.agg (enc27 x0)]
noncomputable abbrev cd156 : Cod (Bool) := codB
noncomputable def V156 (x0 : End) : Option (Bool) := vlim cd156 (S156 x0)
noncomputable def G156 : GE := mkG [(0, some 3, .cell), (0, some 11, .spot), (0, some 12, .spot), (0, some 19, .spot), (0, some 20, .spot), (0, some 26, .spot), (0, some 27, .spot)] (cod27.a (.nil)) (fun x => V156 x.1) cd156
noncomputable def C191 : Cfg := base [(217, G217)] [(191, Tryz.f191)] [(191, [(3, { drop := rs [(1, 1), (4, 1), (7, 30)], nt := [(5, .cell, 27)], nb := [] }), (5, { drop := rs [(1, 1), (4, 1), (7, 30)], nt := [(5, .cell, 27)], nb := [] }), (6, { drop := rs [(1, 1), (4, 1), (7, 30)], nt := [(5, .cell, 27)], nb := [] })])] [(31, 27), (36, 27)] [] [(0, none, .cell)] []
noncomputable def S191 (x0 : List Cell) (x1 : Cell) (n : Nat) : Option AV := startK C191 n 191 Tryz.f191 [.sl .cell x0 .none, .agg (ST.row .cell x1)]
noncomputable abbrev cd191 : Cod (List Cell) := (codS .cell)
noncomputable def V191 (x0 : List Cell) (x1 : Cell) : Option (List Cell) := vlim cd191 (S191 x0 x1)
noncomputable def G191 : GE := mkG [(0, none, .cell)] ((codS .cell).a ((codE .cell).a (.nil))) (fun x => V191 x.1 x.2.1) cd191
noncomputable def C200 : Cfg := base [] [(200, Tryz.f200)] [(200, [(2, { drop := rs [(6, 1), (8, 22)], nt := [], nb := [] }), (3, { drop := rs [(6, 1), (8, 22)], nt := [], nb := [] }), (5, { drop := rs [(0, 3), (6, 24)], nt := [], nb := [] })])] [] [] [] []
noncomputable def S200 (x0 : List Cell) (x1 x2 : Int) (n : Nat) : Option AV := startK C200 n 200 Tryz.f200 [.sl .cell x0 .none, .int .i64 x1, .int .i64 x2]
noncomputable abbrev cd200 : Cod (Bool) := codB
noncomputable def V200 (x0 : List Cell) (x1 x2 : Int) : Option (Bool) := vlim cd200 (S200 x0 x1 x2)
noncomputable def G200 : GE := mkG [(0, none, .cell)] ((codS .cell).a (codI.a (codI.a (.nil)))) (fun x => V200 x.1 x.2.1 x.2.2.1) cd200
noncomputable def C123 : Cfg := base [(153, G153), (191, G191), (199, G199), (200, G200)] [(123, Tryz.f123)] [(123, [])] [] [] [(0, some 2, .cell)] []
noncomputable def S123 (x0 : Tab) (x1 : Cell) (n : Nat) : Option AV := startK C123 n 123 Tryz.f123 [.agg (enc29 x0), .agg (ST.row .cell x1)]
noncomputable abbrev cd123 : Cod (Tab × Int) := (codT2 cod29 codI)
noncomputable def V123 (x0 : Tab) (x1 : Cell) : Option (Tab × Int) := vlim cd123 (S123 x0 x1)
noncomputable def G123 : GE := mkG [(0, some 2, .cell)] (cod29.a ((codE .cell).a (.nil))) (fun x => V123 x.1 x.2.1) cd123
noncomputable def C165 : Cfg := base [(153, G153)] [(165, Tryz.f165)] [(165, [(5, { drop := rs [(0, 1), (4, 1), (7, 36)], nt := [(5, .cell, 41)], nb := [] }), (6, { drop := rs [(0, 1), (4, 1), (7, 36)], nt := [(5, .cell, 41)], nb := [] }), (8, { drop := rs [(0, 1), (4, 1), (7, 36)], nt := [(5, .cell, 41)], nb := [] })])] [] [] [(0, none, .cell)] []
noncomputable def S165 (x0 : Tab) (x1 : Int) (n : Nat) : Option AV := startK C165 n 165 Tryz.f165 [.agg (enc29 x0), .int .i64 x1]
noncomputable abbrev cd165 : Cod (List Cell) := (codS .cell)
noncomputable def V165 (x0 : Tab) (x1 : Int) : Option (List Cell) := vlim cd165 (S165 x0 x1)
noncomputable def G165 : GE := mkG [(0, some 2, .cell)] (cod29.a (codI.a (.nil))) (fun x => V165 x.1 x.2.1) cd165
noncomputable def C112 : Cfg := base [] [(112, Tryz.f112)] [(112, [])] [(3, 6), (8, 11)] [] [(0, some 5, .spot), (0, some 6, .spot)] []
noncomputable def S112 (x0 : Msg) (n : Nat) : Option AV := startK C112 n 112 Tryz.f112 [.agg (enc25 x0)]
noncomputable abbrev cd112 : Cod (Msg) := cod25
noncomputable def V112 (x0 : Msg) : Option (Msg) := vlim cd112 (S112 x0)
noncomputable def G112 : GE := mkG [(0, some 5, .spot), (0, some 6, .spot)] (cod25.a (.nil)) (fun x => V112 x.1) cd112
noncomputable def C109 : Cfg := base [(112, G112)] [(109, Tryz.f109)] [(109, [])] [(3, 6)] [] [(0, some 3, .cell), (0, some 11, .spot), (0, some 12, .spot), (0, some 19, .spot), (0, some 20, .spot), (0, some 26, .spot), (0, some 27, .spot)] []
noncomputable def S109 (x0 : End) (n : Nat) : Option AV := startK C109 n 109 Tryz.f109 [.agg (enc27 x0)]
noncomputable abbrev cd109 : Cod (End) := cod27
noncomputable def V109 (x0 : End) : Option (End) := vlim cd109 (S109 x0)
noncomputable def G109 : GE := mkG [(0, some 3, .cell), (0, some 11, .spot), (0, some 12, .spot), (0, some 19, .spot), (0, some 20, .spot), (0, some 26, .spot), (0, some 27, .spot)] (cod27.a (.nil)) (fun x => V109 x.1) cd109
noncomputable def C110 : Cfg := base [(40, G40), (108, G108)] [(110, Tryz.f110)] [(110, [(2, { drop := rs [(0, 5), (9, 28)], nt := [], nb := [] }), (3, { drop := rs [(0, 1), (9, 28)], nt := [], nb := [] })])] [(24, 26), (27, 29)] [] [(0, some 5, .spot), (0, some 6, .spot)] []
noncomputable def S110 (x0 : Msg) (x1 : Int) (x2 x3 : List Spot) (n : Nat) : Option AV := startK C110 n 110 Tryz.f110 [.agg (enc25 x0), .int .i64 x1, .sl .spot x2 .none, .sl .spot x3 .none]
noncomputable abbrev cd110 : Cod (Msg × Int) := (codT2 cod25 codI)
noncomputable def V110 (x0 : Msg) (x1 : Int) (x2 x3 : List Spot) : Option (Msg × Int) := vlim cd110 (S110 x0 x1 x2 x3)
noncomputable def G110 : GE := mkG [(0, some 5, .spot), (0, some 6, .spot), (2, none, .spot), (3, none, .spot)] (cod25.a (codI.a ((codS .spot).a ((codS .spot).a (.nil))))) (fun x => V110 x.1 x.2.1 x.2.2.1 x.2.2.2.1) cd110
noncomputable def C111 : Cfg := base [(112, G112)] [(111, Tryz.f111)] [(111, [])] [] [] [(0, some 3, .cell), (0, some 11, .spot), (0, some 12, .spot), (0, some 19, .spot), (0, some 20, .spot), (0, some 26, .spot), (0, some 27, .spot), (1, some 5, .spot), (1, some 6, .spot)] []
noncomputable def S111 (x0 : End) (x1 x2 : Msg) (n : Nat) : Option AV := startK C111 n 111 Tryz.f111 [.agg (enc27 x0), .agg (enc25 x1), .agg (enc25 x2)]
noncomputable abbrev cd111 : Cod (End × Msg × Int) := (codT3 cod27 cod25 codI)
noncomputable def V111 (x0 : End) (x1 x2 : Msg) : Option (End × Msg × Int) := vlim cd111 (S111 x0 x1 x2)
noncomputable def G111 : GE := mkG [(0, some 3, .cell), (0, some 11, .spot), (0, some 12, .spot), (0, some 19, .spot), (0, some 20, .spot), (0, some 26, .spot), (0, some 27, .spot), (1, some 5, .spot), (1, some 6, .spot), (2, some 5, .spot), (2, some 6, .spot)] (cod27.a (cod25.a (cod25.a (.nil)))) (fun x => V111 x.1 x.2.1 x.2.2.1) cd111
noncomputable def C189 : Cfg := base [(108, G108)] [(189, Tryz.f189)] [(189, [(2, { drop := rs [(0, 3), (5, 22)], nt := [], nb := [] }), (3, { drop := rs [(0, 1), (5, 22)], nt := [], nb := [] }), (4, { drop := rs [(0, 3), (5, 22)], nt := [], nb := [] }), (5, { drop := rs [(0, 1), (5, 22)], nt := [], nb := [] })])] [] [] [(0, some 5, .spot), (0, some 6, .spot)] []
noncomputable def S189 (x0 : Msg) (x1 : Int) (n : Nat) : Option AV := startK C189 n 189 Tryz.f189 [.agg (enc25 x0), .int .i64 x1]
noncomputable abbrev cd189 : Cod (Msg × Int) := (codT2 cod25 codI)
noncomputable def V189 (x0 : Msg) (x1 : Int) : Option (Msg × Int) := vlim cd189 (S189 x0 x1)
noncomputable def G189 : GE := mkG [(0, some 5, .spot), (0, some 6, .spot)] (cod25.a (codI.a (.nil))) (fun x => V189 x.1 x.2.1) cd189
noncomputable def C113 : Cfg := base [(189, G189)] [(113, Tryz.f113)] [(113, [])] [] [] [(0, some 3, .cell), (0, some 11, .spot), (0, some 12, .spot), (0, some 19, .spot), (0, some 20, .spot), (0, some 26, .spot), (0, some 27, .spot), (1, some 5, .spot), (1, some 6, .spot)] []
noncomputable def S113 (x0 : End) (x1 : Msg) (x2 : Int) (n : Nat) : Option AV := startK C113 n 113 Tryz.f113 [.agg (enc27 x0), .agg (enc25 x1), .int .i64 x2]
noncomputable abbrev cd113 : Cod (End × Msg × Int) := (codT3 cod27 cod25 codI)
noncomputable def V113 (x0 : End) (x1 : Msg) (x2 : Int) : Option (End × Msg × Int) := vlim cd113 (S113 x0 x1 x2)
noncomputable def G113 : GE := mkG [(0, some 3, .cell), (0, some 11, .spot), (0, some 12, .spot), (0, some 19, .spot), (0, some 20, .spot), (0, some 26, .spot), (0, some 27, .spot), (1, some 5, .spot), (1, some 6, .spot)] (cod27.a (cod25.a (codI.a (.nil)))) (fun x => V113 x.1 x.2.1 x.2.2.1) cd113
noncomputable def C250 : Cfg := base [] [(250, Tryz.f250)] [(250, [(3, { drop := rs [(2, 1), (5, 8)], nt := [], nb := [] })])] [] [] [] []
noncomputable def S250 (x0 : Int) (n : Nat) : Option AV := startK C250 n 250 Tryz.f250 [.int .i64 x0]
noncomputable abbrev cd250 : Cod (Int) := codI
noncomputable def V250 (x0 : Int) : Option (Int) := vlim cd250 (S250 x0)
noncomputable def G250 : GE := mkG [] (codI.a (.nil)) (fun x => V250 x.1) cd250
noncomputable def C220 : Cfg := base [(250, G250)] [(220, Tryz.f220)] [(220, [(4, { drop := rs [(1, 1), (4, 1), (6, 23)], nt := [], nb := [] }), (5, { drop := rs [(1, 1), (4, 1), (6, 23)], nt := [], nb := [] }), (7, { drop := rs [(0, 2), (4, 25)], nt := [], nb := [] })])] [] [] [] []
noncomputable def S220 (x0 : List Int) (x1 : Int) (n : Nat) : Option AV := startK C220 n 220 Tryz.f220 [.sl .int x0 .none, .int .i64 x1]
noncomputable abbrev cd220 : Cod (Bool) := codB
noncomputable def V220 (x0 : List Int) (x1 : Int) : Option (Bool) := vlim cd220 (S220 x0 x1)
noncomputable def G220 : GE := mkG [(0, none, .int)] ((codS .int).a (codI.a (.nil))) (fun x => V220 x.1 x.2.1) cd220
noncomputable def C240 : Cfg := base [] [(240, Tryz.f240)] [(240, [(2, { drop := rs [(4, 1), (6, 10)], nt := [], nb := [] })])] [] [] [] []
noncomputable def S240 (x0 x1 : Int) (n : Nat) : Option AV := startK C240 n 240 Tryz.f240 [.int .i64 x0, .int .i64 x1]
noncomputable abbrev cd240 : Cod (Bool) := codB
noncomputable def V240 (x0 x1 : Int) : Option (Bool) := vlim cd240 (S240 x0 x1)
noncomputable def G240 : GE := mkG [] (codI.a (codI.a (.nil))) (fun x => V240 x.1 x.2.1) cd240
noncomputable def C190 : Cfg := base [(153, G153), (220, G220), (240, G240)] [(190, Tryz.f190)] [(190, [(2, { drop := rs [(0, 4), (5, 59)], nt := [], nb := [] }), (3, { drop := rs [(0, 1), (2, 1), (6, 58)], nt := [], nb := [] }), (4, { drop := rs [(0, 1), (2, 1), (6, 1), (8, 56)], nt := [], nb := [] })])] [] [] [] []
noncomputable def S190 (x0 : Tab) (x1 : List Int) (x2 : Spot) (n : Nat) : Option AV := startK C190 n 190 Tryz.f190 [.agg (enc29 x0), .sl .int x1 .none, .agg (ST.row .spot x2)]
noncomputable abbrev cd190 : Cod (Bool) := codB
noncomputable def V190 (x0 : Tab) (x1 : List Int) (x2 : Spot) : Option (Bool) := vlim cd190 (S190 x0 x1 x2)
noncomputable def G190 : GE := mkG [(0, some 2, .cell), (1, none, .int)] (cod29.a ((codS .int).a ((codE .spot).a (.nil)))) (fun x => V190 x.1 x.2.1 x.2.2.1) cd190
noncomputable def C114 : Cfg := base [(190, G190)] [(114, Tryz.f114)] [(114, [(3, { drop := rs [(0, 1), (8, 1), (11, 27)], nt := [(9, .spot, 36)], nb := [] }), (4, { drop := rs [(0, 1), (8, 1), (11, 27)], nt := [(9, .spot, 36)], nb := [] }), (5, { drop := rs [(0, 1), (8, 1), (11, 27)], nt := [(9, .spot, 36)], nb := [] }), (7, { drop := rs [(0, 5), (8, 1), (10, 28)], nt := [(9, .spot, 36)], nb := [] })])] [] [] [(0, none, .spot)] []
noncomputable def S114 (x0 : Tab) (x1 : List Int) (x2 : List Spot) (x3 : Int) (n : Nat) : Option AV := startK C114 n 114 Tryz.f114 [.agg (enc29 x0), .sl .int x1 .none, .sl .spot x2 .none, .int .i64 x3]
noncomputable abbrev cd114 : Cod (List Spot) := (codS .spot)
noncomputable def V114 (x0 : Tab) (x1 : List Int) (x2 : List Spot) (x3 : Int) : Option (List Spot) := vlim cd114 (S114 x0 x1 x2 x3)
noncomputable def G114 : GE := mkG [(0, some 2, .cell), (1, none, .int), (2, none, .spot)] (cod29.a ((codS .int).a ((codS .spot).a (codI.a (.nil))))) (fun x => V114 x.1 x.2.1 x.2.2.1 x.2.2.2.1) cd114
noncomputable def C115 : Cfg := base [(162, G162)] [(115, Tryz.f115)] [(115, [(3, { drop := rs [(0, 1), (4, 1), (7, 31)], nt := [], nb := [] }), (4, { drop := rs [(0, 1), (4, 1), (7, 31)], nt := [], nb := [] }), (7, { drop := rs [(0, 1), (4, 1), (7, 31)], nt := [], nb := [] })])] [] [] [] []
noncomputable def S115 (x0 : End) (x1 : List Spot) (n : Nat) : Option AV := startK C115 n 115 Tryz.f115 [.agg (enc27 x0), .sl .spot x1 .none]
noncomputable abbrev cd115 : Cod (Bool) := codB
noncomputable def V115 (x0 : End) (x1 : List Spot) : Option (Bool) := vlim cd115 (S115 x0 x1)
noncomputable def G115 : GE := mkG [(0, some 3, .cell), (0, some 11, .spot), (0, some 12, .spot), (0, some 19, .spot), (0, some 20, .spot), (0, some 26, .spot), (0, some 27, .spot), (1, none, .spot)] (cod27.a ((codS .spot).a (.nil))) (fun x => V115 x.1 x.2.1) cd115
noncomputable def C116 : Cfg := base [(162, G162), (191, G191)] [(116, Tryz.f116)] [(116, [(3, { drop := rs [(0, 1), (8, 1), (11, 55)], nt := [(9, .cell, 42)], nb := [] }), (4, { drop := rs [(0, 1), (8, 1), (11, 55)], nt := [(9, .cell, 42)], nb := [] }), (7, { drop := rs [(0, 1), (8, 1), (12, 54)], nt := [(9, .cell, 42)], nb := [] }), (9, { drop := rs [(0, 2), (8, 1), (10, 2), (13, 53)], nt := [(9, .cell, 42)], nb := [] })])] [(64, 42)] [] [(0, none, .cell)] []
noncomputable def S116 (x0 : End) (x1 x2 : List Spot) (x3 : Bool) (n : Nat) : Option AV := startK C116 n 116 Tryz.f116 [.agg (enc27 x0), .sl .spot x1 .none, .sl .spot x2 .none, .bool x3]
noncomputable abbrev cd116 : Cod (List Cell) := (codS .cell)
noncomputable def V116 (x0 : End) (x1 x2 : List Spot) (x3 : Bool) : Option (List Cell) := vlim cd116 (S116 x0 x1 x2 x3)
noncomputable def G116 : GE := mkG [(0, some 3, .cell), (0, some 11, .spot), (0, some 12, .spot), (0, some 19, .spot), (0, some 20, .spot), (0, some 26, .spot), (0, some 27, .spot), (1, none, .spot), (2, none, .spot)] (cod27.a ((codS .spot).a ((codS .spot).a (codB.a (.nil))))) (fun x => V116 x.1 x.2.1 x.2.2.1 x.2.2.2.1) cd116
theorem c117 : CdOk 117 Tryz.f117 := ⟨by kernel_rfl, by kernel_rfl⟩
noncomputable def b117 (n p : Nat) : Code := bp n p (bodyA Tryz.f117)
noncomputable def C117 : Cfg := base [] [(117, Tryz.f117)] [(117, [(4, { drop := rs [(4, 1), (6, 20)], nt := [], nb := [] })])] [] [] [] []
noncomputable def S117 (x0 x1 : List Cell) (n : Nat) : Option AV := startK C117 n 117 Tryz.f117 [.sl .cell x0 .none, .sl .cell x1 .none]
noncomputable def J117_4 (x0 x1 : List Cell) (x2 : Int) : St := ⟨5, ⟨117, ap [.sl .cell x0 .none, .sl .cell x1 .none] (ap (un 3) (ap [.int .i64 x2] (un 20))), nb 26, [.code (b117 8 11), .code (b117 8 139), .code (b117 7 75), .inLoop (b117 6 11), .inBlock 0, .code (b117 3 7)]⟩, []⟩
noncomputable abbrev cd117 : Cod (Bool) := codB
noncomputable def tS117 (x0 x1 : List Cell) : Tr (Bool) :=
  .cond (!(decide (((x0).length : Int) = ((x1).length : Int))))
  (.some false)
  (.go (J117_4 x0 x1 0))
theorem eS117 (x0 x1 : List Cell) : vlim cd117 (S117 x0 x1) = (tS117 x0 x1).val cd117 C117 := Tr.val_eq 27 (fun H z => by kernel_rfl)
noncomputable def tJ117_4 (x0 x1 : List Cell) (x2 : Int) : Tr (Bool) :=
  .cond (decide (x2 < ((x0).length : Int)))
  (.cond (ib x2 x0)
    (.cond (ib x2 x1)
      (.cond (!((decide (((nth .cell x0 x2).slot) = ((nth .cell x1 x2).slot))) && ((decide (((nth .cell x0 x2).offset) = ((nth .cell x1 x2).offset))) && ((decide (((nth .cell x0 x2).kind) = ((nth .cell x1 x2).kind))) && ((((nth .cell x0 x2).send) == ((nth .cell x1 x2).send)) && ((decide (((nth .cell x0 x2).peer) = ((nth .cell x1 x2).peer))) && ((decide (((nth .cell x0 x2).flow) = ((nth .cell x1 x2).flow))) && true)))))))
        (.some false)
        (.cond (inR .i64 (x2 + 1))
          (.go (J117_4 x0 x1 (x2 + 1)))
          (.none)))
      (.none))
    (.none))
  (.some true)
theorem eJ117_4 (x0 x1 : List Cell) (x2 : Int) : lv cd117 C117 (J117_4 x0 x1 x2) = (tJ117_4 x0 x1 x2).val cd117 C117 := Tr.lv_eq 26 (fun H z => by kernel_rfl)
noncomputable def V117 (x0 x1 : List Cell) : Option (Bool) := vlim cd117 (S117 x0 x1)
noncomputable def F117 (x0 x1 : List Cell) : Bool := (V117 x0 x1).getD default
noncomputable def G117 : GE := mkG [(0, none, .cell), (1, none, .cell)] ((codS .cell).a ((codS .cell).a (.nil))) (fun x => V117 x.1 x.2.1) cd117
theorem ge117 : GeOk 117 G117 := ge_mk (C := C117) (base_ok .nil (.cons c117 .nil) .nil) rfl c117 (fun _ => rfl) (by kernel_rfl)
end Go.Am
