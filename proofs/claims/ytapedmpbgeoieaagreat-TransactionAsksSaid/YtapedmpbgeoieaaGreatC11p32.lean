/- Part 32 of the proof: FA2. -/
import Derived.Test.YtapedmpbgeoieaaGreatC11p29
import Derived.Test.YtapedmpbgeoieaaGreatC11p30
import Derived.Test.YtapedmpbgeoieaaGreatC11p31
set_option linter.unusedSimpArgs false
set_option linter.unusedVariables false
namespace Go.Am
open Go Go.Proofs
set_option maxRecDepth 100000
set_option linter.unusedVariables false

theorem c37 : CdOk 37 Tryz.f37 := ⟨by kernel_rfl, by kernel_rfl⟩
noncomputable def b37 (n p : Nat) : Code := bp n p (bodyA Tryz.f37)
noncomputable def C37 : Cfg := base [(36, G36), (127, G127), (128, G128), (129, G129), (130, G130), (131, G131), (132, G132)] [(37, Tryz.f37)] [(37, [(6, { drop := rs [(0, 8), (14, 1), (16, 110)], nt := [], nb := [] }), (7, { drop := rs [(0, 2), (7, 1), (14, 1), (17, 109)], nt := [], nb := [] }), (11, { drop := rs [(0, 2), (7, 1), (14, 1), (17, 1), (19, 107)], nt := [], nb := [] }), (14, { drop := rs [(0, 3), (7, 1), (14, 1), (16, 2), (19, 107)], nt := [], nb := [] }), (15, { drop := rs [(0, 3), (7, 1), (14, 1), (16, 2), (19, 107)], nt := [], nb := [] }), (21, { drop := rs [(0, 5), (7, 1), (14, 4), (19, 107)], nt := [], nb := [] })])] [] [] [(0, some 3, .cell), (0, some 11, .spot), (0, some 12, .spot), (0, some 19, .spot), (0, some 20, .spot), (0, some 26, .spot), (0, some 27, .spot), (1, some 5, .spot), (1, some 6, .spot)] []
noncomputable def S37 (x0 : End) (x1 : Tab) (x2 : List Int) (x3 x4 x5 : Int) (n : Nat) : Option AV := startK C37 n 37 Tryz.f37 [.agg (enc27 x0), .agg (enc29 x1), .sl .int x2 .none, .int .i64 x3, .int .i64 x4, .int .i64 x5]
noncomputable def J37_6 (x0 x1 x2 : Int) (x3 : Bool) (x4 x5 : Int) (x6 : Bool) (x7 x8 x9 : Int) (x10 : Bool) (x11 : Int) (x12 : Bool) (x13 x14 x15 x16 : Int) (x17 : Bool) (x18 x19 x20 x21 : Int) (x22 : Bool) (x23 x24 x25 : Int) : St := ⟨7, ⟨37, ap (un 12) (ap [.ptr 0 12 0, .ptr 0 13 0, .undef, .fn 127 [] []] (un 110)), aq (nb 12) (aq [[.int .i64 x0, .int .i64 x1, .int .i64 x2, .nilS, .bool x3, .int .i64 x4, .int .i64 x5, .bool x6, .int .i64 x7, .int .i64 x8, .int .i64 x9, .nilS, .nilS, .bool x10, .int .i64 x11, .bool x12, .int .i64 x13, .int .i64 x14, .int .i64 x15, .nilS, .nilS, .int .i64 x16, .bool x17, .int .i64 x18, .int .i64 x19, .int .i64 x20, .nilS, .nilS], [.int .i64 x21, .bool x22, .int .i64 x23, .int .i64 x24, .int .i64 x25, .nilS, .nilS]] (nb 112)), [.code (b37 10 231), .code (b37 10 743), .inBlock 0, .code (b37 4 15)]⟩, []⟩
noncomputable def J37_7 (x0 : List Int) (x1 x2 x3 : Int) (x4 : End) (x5 x6 x7 : Int) (x8 : Bool) (x9 x10 : Int) (x11 : Bool) (x12 x13 x14 : Int) (x15 : Bool) (x16 : Int) (x17 : Bool) (x18 x19 x20 x21 : Int) (x22 : Bool) (x23 x24 x25 x26 : Int) (x27 : Bool) (x28 x29 x30 : Int) (x31 : Tab) : St := ⟨8, ⟨37, ap [.undef, .undef, .sl .int x0 .none, .int .i64 x1, .int .i64 x2, .int .i64 x3, .ptr 0 6 0] (ap (un 5) (ap [.ptr 0 12 0, .ptr 0 13 0, .undef, .fn 127 [] [], .ptr 0 16 0] (un 109))), aq (nb 6) (aq [(enc27 x4)] (aq (nb 5) (aq [[.int .i64 x5, .int .i64 x6, .int .i64 x7, .nilS, .bool x8, .int .i64 x9, .int .i64 x10, .bool x11, .int .i64 x12, .int .i64 x13, .int .i64 x14, .nilS, .nilS, .bool x15, .int .i64 x16, .bool x17, .int .i64 x18, .int .i64 x19, .int .i64 x20, .nilS, .nilS, .int .i64 x21, .bool x22, .int .i64 x23, .int .i64 x24, .int .i64 x25, .nilS, .nilS], [.int .i64 x26, .bool x27, .int .i64 x28, .int .i64 x29, .int .i64 x30, .nilS, .nilS], [], [], (enc29 x31)] (nb 109)))), [.code (b37 10 487), .code (b37 10 999), .inBlock 0, .code (b37 4 15)]⟩, []⟩
noncomputable def J37_11 (x0 : List Int) (x1 x2 x3 : Int) (x4 : End) (x5 x6 x7 : Int) (x8 : Bool) (x9 x10 : Int) (x11 : Bool) (x12 x13 x14 : Int) (x15 : Bool) (x16 : Int) (x17 : Bool) (x18 x19 x20 x21 : Int) (x22 : Bool) (x23 x24 x25 x26 : Int) (x27 : Bool) (x28 x29 x30 : Int) (x31 : Tab) (x32 : Int) (x33 : Bool) (x34 x35 x36 : Int) : St := ⟨12, ⟨37, ap [.undef, .undef, .sl .int x0 .none, .int .i64 x1, .int .i64 x2, .int .i64 x3, .ptr 0 6 0] (ap (un 5) (ap [.ptr 0 12 0, .ptr 0 13 0, .undef, .fn 127 [] [], .ptr 0 16 0, .undef, .ptr 0 18 0] (un 107))), aq (nb 6) (aq [(enc27 x4)] (aq (nb 5) (aq [[.int .i64 x5, .int .i64 x6, .int .i64 x7, .nilS, .bool x8, .int .i64 x9, .int .i64 x10, .bool x11, .int .i64 x12, .int .i64 x13, .int .i64 x14, .nilS, .nilS, .bool x15, .int .i64 x16, .bool x17, .int .i64 x18, .int .i64 x19, .int .i64 x20, .nilS, .nilS, .int .i64 x21, .bool x22, .int .i64 x23, .int .i64 x24, .int .i64 x25, .nilS, .nilS], [.int .i64 x26, .bool x27, .int .i64 x28, .int .i64 x29, .int .i64 x30, .nilS, .nilS], [], [], (enc29 x31), [], [.int .i64 x32, .bool x33, .int .i64 x34, .int .i64 x35, .int .i64 x36, .nilS, .nilS]] (nb 107)))), [.code (b37 9 95), .code (b37 9 351), .code (b37 6 63)]⟩, []⟩
noncomputable def J37_14 (x0 x1 x2 : Int) (x3 : End) (x4 x5 x6 : Int) (x7 : Bool) (x8 x9 : Int) (x10 : Bool) (x11 x12 x13 : Int) (x14 : Bool) (x15 : Int) (x16 : Bool) (x17 x18 x19 x20 : Int) (x21 : Bool) (x22 x23 x24 x25 : Int) (x26 : Bool) (x27 x28 x29 x30 : Int) (x31 : Bool) (x32 x33 x34 : Int) : St := ⟨15, ⟨37, ap (un 3) (ap [.int .i64 x0, .int .i64 x1, .int .i64 x2, .ptr 0 6 0] (ap (un 5) (ap [.ptr 0 12 0, .ptr 0 13 0, .undef, .fn 127 [] [], .undef, .undef, .ptr 0 18 0] (un 107)))), aq (nb 6) (aq [(enc27 x3)] (aq (nb 5) (aq [[.int .i64 x4, .int .i64 x5, .int .i64 x6, .nilS, .bool x7, .int .i64 x8, .int .i64 x9, .bool x10, .int .i64 x11, .int .i64 x12, .int .i64 x13, .nilS, .nilS, .bool x14, .int .i64 x15, .bool x16, .int .i64 x17, .int .i64 x18, .int .i64 x19, .nilS, .nilS, .int .i64 x20, .bool x21, .int .i64 x22, .int .i64 x23, .int .i64 x24, .nilS, .nilS], [.int .i64 x25, .bool x26, .int .i64 x27, .int .i64 x28, .int .i64 x29, .nilS, .nilS]] (aq (nb 4) (aq [[.int .i64 x30, .bool x31, .int .i64 x32, .int .i64 x33, .int .i64 x34, .nilS, .nilS]] (nb 107)))))), [.code (b37 8 63), .code (b37 8 191), .code (b37 7 127)]⟩, []⟩
noncomputable def J37_14_37_1 (x0 x1 x2 : Int) (x3 : End) (x4 x5 x6 : Int) (x7 : Bool) (x8 x9 : Int) (x10 : Bool) (x11 x12 x13 : Int) (x14 : Bool) (x15 : Int) (x16 : Bool) (x17 x18 x19 x20 : Int) (x21 : Bool) (x22 x23 x24 x25 : Int) (x26 : Bool) (x27 x28 x29 x30 : Int) (x31 : Bool) (x32 x33 x34 : Int) (x35 : List Spot) : St := ⟨15, ⟨37, ap (un 3) (ap [.int .i64 x0, .int .i64 x1, .int .i64 x2, .ptr 0 6 0] (ap (un 5) (ap [.ptr 0 12 0, .ptr 0 13 0, .undef, .fn 127 [] [], .undef, .undef, .ptr 0 18 0] (un 107)))), aq (nb 6) (aq [(enc27 x3)] (aq (nb 5) (aq [[.int .i64 x4, .int .i64 x5, .int .i64 x6, .nilS, .bool x7, .int .i64 x8, .int .i64 x9, .bool x10, .int .i64 x11, .int .i64 x12, .int .i64 x13, .nilS, .nilS, .bool x14, .int .i64 x15, .bool x16, .int .i64 x17, .int .i64 x18, .int .i64 x19, .nilS, .nilS, .int .i64 x20, .bool x21, .int .i64 x22, .int .i64 x23, .int .i64 x24, .nilS, .nilS], [.int .i64 x25, .bool x26, .int .i64 x27, .int .i64 x28, .int .i64 x29, .nilS, .nilS]] (aq (nb 4) (aq [[.int .i64 x30, .bool x31, .int .i64 x32, .int .i64 x33, .int .i64 x34, .sl .spot x35 .none, .nilS]] (nb 107)))))), [.code (b37 8 63), .code (b37 8 191), .code (b37 7 127)]⟩, []⟩
noncomputable def J37_15 (x0 x1 x2 : Int) (x3 : End) (x4 x5 x6 : Int) (x7 : Bool) (x8 x9 : Int) (x10 : Bool) (x11 x12 x13 : Int) (x14 : Bool) (x15 : Int) (x16 : Bool) (x17 x18 x19 x20 : Int) (x21 : Bool) (x22 x23 x24 x25 : Int) (x26 : Bool) (x27 x28 x29 x30 : Int) (x31 : Bool) (x32 x33 x34 : Int) : St := ⟨16, ⟨37, ap (un 3) (ap [.int .i64 x0, .int .i64 x1, .int .i64 x2, .ptr 0 6 0] (ap (un 5) (ap [.ptr 0 12 0, .ptr 0 13 0, .undef, .fn 127 [] [], .undef, .undef, .ptr 0 18 0] (un 107)))), aq (nb 6) (aq [(enc27 x3)] (aq (nb 5) (aq [[.int .i64 x4, .int .i64 x5, .int .i64 x6, .nilS, .bool x7, .int .i64 x8, .int .i64 x9, .bool x10, .int .i64 x11, .int .i64 x12, .int .i64 x13, .nilS, .nilS, .bool x14, .int .i64 x15, .bool x16, .int .i64 x17, .int .i64 x18, .int .i64 x19, .nilS, .nilS, .int .i64 x20, .bool x21, .int .i64 x22, .int .i64 x23, .int .i64 x24, .nilS, .nilS], [.int .i64 x25, .bool x26, .int .i64 x27, .int .i64 x28, .int .i64 x29, .nilS, .nilS]] (aq (nb 4) (aq [[.int .i64 x30, .bool x31, .int .i64 x32, .int .i64 x33, .int .i64 x34, .nilS, .nilS]] (nb 107)))))), [.code (b37 10 191), .code (b37 10 703), .code (b37 7 127)]⟩, []⟩
noncomputable def J37_21 (x0 : Int) (x1 : End) (x2 x3 x4 : Int) (x5 : Bool) (x6 x7 : Int) (x8 : Bool) (x9 x10 x11 : Int) (x12 : Bool) (x13 : Int) (x14 : Bool) (x15 x16 x17 x18 : Int) (x19 : Bool) (x20 x21 x22 x23 : Int) (x24 : Bool) (x25 x26 x27 x28 : Int) (x29 : Bool) (x30 x31 x32 : Int) : St := ⟨22, ⟨37, ap (un 5) (ap [.int .i64 x0, .ptr 0 6 0] (ap (un 5) (ap [.ptr 0 12 0, .ptr 0 13 0] (ap (un 4) (ap [.ptr 0 18 0] (un 107)))))), aq (nb 6) (aq [(enc27 x1)] (aq (nb 5) (aq [[.int .i64 x2, .int .i64 x3, .int .i64 x4, .nilS, .bool x5, .int .i64 x6, .int .i64 x7, .bool x8, .int .i64 x9, .int .i64 x10, .int .i64 x11, .nilS, .nilS, .bool x12, .int .i64 x13, .bool x14, .int .i64 x15, .int .i64 x16, .int .i64 x17, .nilS, .nilS, .int .i64 x18, .bool x19, .int .i64 x20, .int .i64 x21, .int .i64 x22, .nilS, .nilS], [.int .i64 x23, .bool x24, .int .i64 x25, .int .i64 x26, .int .i64 x27, .nilS, .nilS]] (aq (nb 4) (aq [[.int .i64 x28, .bool x29, .int .i64 x30, .int .i64 x31, .int .i64 x32, .nilS, .nilS]] (nb 107)))))), [.code (b37 8 127), .code (b37 8 255)]⟩, []⟩
noncomputable def J37_15_37_1 (x0 x1 x2 : Int) (x3 : End) (x4 x5 x6 : Int) (x7 : Bool) (x8 x9 : Int) (x10 : Bool) (x11 x12 x13 : Int) (x14 : Bool) (x15 : Int) (x16 : Bool) (x17 x18 x19 x20 : Int) (x21 : Bool) (x22 x23 x24 x25 : Int) (x26 : Bool) (x27 x28 x29 x30 : Int) (x31 : Bool) (x32 x33 x34 : Int) (x35 : List Spot) : St := ⟨16, ⟨37, ap (un 3) (ap [.int .i64 x0, .int .i64 x1, .int .i64 x2, .ptr 0 6 0] (ap (un 5) (ap [.ptr 0 12 0, .ptr 0 13 0, .undef, .fn 127 [] [], .undef, .undef, .ptr 0 18 0] (un 107)))), aq (nb 6) (aq [(enc27 x3)] (aq (nb 5) (aq [[.int .i64 x4, .int .i64 x5, .int .i64 x6, .nilS, .bool x7, .int .i64 x8, .int .i64 x9, .bool x10, .int .i64 x11, .int .i64 x12, .int .i64 x13, .nilS, .nilS, .bool x14, .int .i64 x15, .bool x16, .int .i64 x17, .int .i64 x18, .int .i64 x19, .nilS, .nilS, .int .i64 x20, .bool x21, .int .i64 x22, .int .i64 x23, .int .i64 x24, .nilS, .nilS], [.int .i64 x25, .bool x26, .int .i64 x27, .int .i64 x28, .int .i64 x29, .nilS, .nilS]] (aq (nb 4) (aq [[.int .i64 x30, .bool x31, .int .i64 x32, .int .i64 x33, .int .i64 x34, .sl .spot x35 .none, .nilS]] (nb 107)))))), [.code (b37 10 191), .code (b37 10 703), .code (b37 7 127)]⟩, []⟩
noncomputable def J37_21_37_1 (x0 : Int) (x1 : End) (x2 x3 x4 : Int) (x5 : Bool) (x6 x7 : Int) (x8 : Bool) (x9 x10 x11 : Int) (x12 : Bool) (x13 : Int) (x14 : Bool) (x15 x16 x17 x18 : Int) (x19 : Bool) (x20 x21 x22 x23 : Int) (x24 : Bool) (x25 x26 x27 x28 : Int) (x29 : Bool) (x30 x31 x32 : Int) (x33 : List Spot) : St := ⟨22, ⟨37, ap (un 5) (ap [.int .i64 x0, .ptr 0 6 0] (ap (un 5) (ap [.ptr 0 12 0, .ptr 0 13 0] (ap (un 4) (ap [.ptr 0 18 0] (un 107)))))), aq (nb 6) (aq [(enc27 x1)] (aq (nb 5) (aq [[.int .i64 x2, .int .i64 x3, .int .i64 x4, .nilS, .bool x5, .int .i64 x6, .int .i64 x7, .bool x8, .int .i64 x9, .int .i64 x10, .int .i64 x11, .nilS, .nilS, .bool x12, .int .i64 x13, .bool x14, .int .i64 x15, .int .i64 x16, .int .i64 x17, .nilS, .nilS, .int .i64 x18, .bool x19, .int .i64 x20, .int .i64 x21, .int .i64 x22, .nilS, .nilS], [.int .i64 x23, .bool x24, .int .i64 x25, .int .i64 x26, .int .i64 x27, .nilS, .nilS]] (aq (nb 4) (aq [[.int .i64 x28, .bool x29, .int .i64 x30, .int .i64 x31, .int .i64 x32, .sl .spot x33 .none, .nilS]] (nb 107)))))), [.code (b37 8 127), .code (b37 8 255)]⟩, []⟩
noncomputable def J37_21_37_2 (x0 : Int) (x1 : End) (x2 x3 x4 : Int) (x5 : Bool) (x6 x7 : Int) (x8 : Bool) (x9 x10 x11 : Int) (x12 : Bool) (x13 : Int) (x14 : Bool) (x15 x16 x17 x18 : Int) (x19 : Bool) (x20 x21 x22 x23 : Int) (x24 : Bool) (x25 x26 x27 x28 : Int) (x29 : Bool) (x30 x31 x32 : Int) (x33 : List Spot) : St := ⟨22, ⟨37, ap (un 5) (ap [.int .i64 x0, .ptr 0 6 0] (ap (un 5) (ap [.ptr 0 12 0, .ptr 0 13 0] (ap (un 4) (ap [.ptr 0 18 0] (un 107)))))), aq (nb 6) (aq [(enc27 x1)] (aq (nb 5) (aq [[.int .i64 x2, .int .i64 x3, .int .i64 x4, .nilS, .bool x5, .int .i64 x6, .int .i64 x7, .bool x8, .int .i64 x9, .int .i64 x10, .int .i64 x11, .nilS, .nilS, .bool x12, .int .i64 x13, .bool x14, .int .i64 x15, .int .i64 x16, .int .i64 x17, .nilS, .nilS, .int .i64 x18, .bool x19, .int .i64 x20, .int .i64 x21, .int .i64 x22, .nilS, .nilS], [.int .i64 x23, .bool x24, .int .i64 x25, .int .i64 x26, .int .i64 x27, .nilS, .nilS]] (aq (nb 4) (aq [[.int .i64 x28, .bool x29, .int .i64 x30, .int .i64 x31, .int .i64 x32, .nilS, .sl .spot x33 .none]] (nb 107)))))), [.code (b37 8 127), .code (b37 8 255)]⟩, []⟩
noncomputable def J37_21_37_3 (x0 : Int) (x1 : End) (x2 x3 x4 : Int) (x5 : Bool) (x6 x7 : Int) (x8 : Bool) (x9 x10 x11 : Int) (x12 : Bool) (x13 : Int) (x14 : Bool) (x15 x16 x17 x18 : Int) (x19 : Bool) (x20 x21 x22 x23 : Int) (x24 : Bool) (x25 x26 x27 : Int) (x28 : Msg) : St := ⟨22, ⟨37, ap (un 5) (ap [.int .i64 x0, .ptr 0 6 0] (ap (un 5) (ap [.ptr 0 12 0, .ptr 0 13 0] (ap (un 4) (ap [.ptr 0 18 0] (un 107)))))), aq (nb 6) (aq [(enc27 x1)] (aq (nb 5) (aq [[.int .i64 x2, .int .i64 x3, .int .i64 x4, .nilS, .bool x5, .int .i64 x6, .int .i64 x7, .bool x8, .int .i64 x9, .int .i64 x10, .int .i64 x11, .nilS, .nilS, .bool x12, .int .i64 x13, .bool x14, .int .i64 x15, .int .i64 x16, .int .i64 x17, .nilS, .nilS, .int .i64 x18, .bool x19, .int .i64 x20, .int .i64 x21, .int .i64 x22, .nilS, .nilS], [.int .i64 x23, .bool x24, .int .i64 x25, .int .i64 x26, .int .i64 x27, .nilS, .nilS]] (aq (nb 4) (aq [(enc25 x28)] (nb 107)))))), [.code (b37 8 127), .code (b37 8 255)]⟩, []⟩
noncomputable abbrev cd37 : Cod (End × Msg × Int) := (codT3 cod27 cod25 codI)
noncomputable def tS37 (x0 : End) (x1 : Tab) (x2 : List Int) (x3 x4 x5 : Int) : Tr (End × Msg × Int) :=
  .cond ((V36 x1 x0).isSome)
  (.cond (!(decide (((F36 x1 x0).2) = 0)))
    (.cond ((V127 ((F36 x1 x0).2)).isSome)
      (.some ((F127 ((F36 x1 x0).2)).1, (F127 ((F36 x1 x0).2)).2.1, (F127 ((F36 x1 x0).2)).2.2))
      (.none))
    (.cond (decide (x3 < 1))
      (.go (J37_6 0 0 0 false 0 0 false 0 0 0 false 0 false 0 0 0 0 false 0 0 0 0 false 0 0 0))
      (.cond (decide (6 < x3))
        (.go (J37_6 0 0 0 false 0 0 false 0 0 0 false 0 false 0 0 0 0 false 0 0 0 0 false 0 0 0))
        (.cond ((V128 x5 1099511627776).isSome)
          (.cond (!(F128 x5 1099511627776))
            (.go (J37_6 0 0 0 false 0 0 false 0 0 0 false 0 false 0 0 0 0 false 0 0 0 0 false 0 0 0))
            (.cond ((V129 x3 x4).isSome)
              (.cond (!(F129 x3 x4))
                (.go (J37_6 0 0 0 false 0 0 false 0 0 0 false 0 false 0 0 0 0 false 0 0 0 0 false 0 0 0))
                (.go (J37_7 x2 x3 x4 x5 x0 0 0 0 false 0 0 false 0 0 0 false 0 false 0 0 0 0 false 0 0 0 0 false 0 0 0 ((F36 x1 x0).1))))
              (.none)))
          (.none)))))
  (.none)
theorem eS37 (x0 : End) (x1 : Tab) (x2 : List Int) (x3 x4 x5 : Int) : vlim cd37 (S37 x0 x1 x2 x3 x4 x5) = (tS37 x0 x1 x2 x3 x4 x5).val cd37 C37 := Tr.val_eq 59 (fun H z => by kernel_rfl)
noncomputable def tJ37_6 (x0 x1 x2 : Int) (x3 : Bool) (x4 x5 : Int) (x6 : Bool) (x7 x8 x9 : Int) (x10 : Bool) (x11 : Int) (x12 : Bool) (x13 x14 x15 x16 : Int) (x17 : Bool) (x18 x19 x20 x21 : Int) (x22 : Bool) (x23 x24 x25 : Int) : Tr (End × Msg × Int) :=
  .cond ((V127 2).isSome)
  (.some ((F127 2).1, (F127 2).2.1, (F127 2).2.2))
  (.none)
theorem eJ37_6 (x0 x1 x2 : Int) (x3 : Bool) (x4 x5 : Int) (x6 : Bool) (x7 x8 x9 : Int) (x10 : Bool) (x11 : Int) (x12 : Bool) (x13 x14 x15 x16 : Int) (x17 : Bool) (x18 x19 x20 x21 : Int) (x22 : Bool) (x23 x24 x25 : Int) : lv cd37 C37 (J37_6 x0 x1 x2 x3 x4 x5 x6 x7 x8 x9 x10 x11 x12 x13 x14 x15 x16 x17 x18 x19 x20 x21 x22 x23 x24 x25) = (tJ37_6 x0 x1 x2 x3 x4 x5 x6 x7 x8 x9 x10 x11 x12 x13 x14 x15 x16 x17 x18 x19 x20 x21 x22 x23 x24 x25).val cd37 C37 := Tr.lv_eq 13 (fun H z => by kernel_rfl)
noncomputable def tJ37_7 (x0 : List Int) (x1 x2 x3 : Int) (x4 : End) (x5 x6 x7 : Int) (x8 : Bool) (x9 x10 : Int) (x11 : Bool) (x12 x13 x14 : Int) (x15 : Bool) (x16 : Int) (x17 : Bool) (x18 x19 x20 x21 : Int) (x22 : Bool) (x23 x24 x25 x26 : Int) (x27 : Bool) (x28 x29 x30 : Int) (x31 : Tab) : Tr (End × Msg × Int) :=
  .cond x4.opn
  (.cond ((V127 12).isSome)
    (.some ((F127 12).1, (F127 12).2.1, (F127 12).2.2))
    (.none))
  (.cond (decide (x1 = 1))
    (.go (J37_11 x0 x1 x2 x3 x4 x5 x6 x7 x8 x9 x10 x11 x12 x13 x14 x15 x16 x17 x18 x19 x20 x21 x22 x23 x24 x25 x26 x27 x28 x29 x30 x31 x1 false 0 0 x2))
    (.cond (decide (x1 = 3))
      (.go (J37_11 x0 x1 x2 x3 x4 x5 x6 x7 x8 x9 x10 x11 x12 x13 x14 x15 x16 x17 x18 x19 x20 x21 x22 x23 x24 x25 x26 x27 x28 x29 x30 x31 x1 false 0 0 x2))
      (.go (J37_14 x1 x2 x3 x4 x5 x6 x7 x8 x9 x10 x11 x12 x13 x14 x15 x16 x17 x18 x19 x20 x21 x22 x23 x24 x25 x26 x27 x28 x29 x30 x1 false 0 0 x2))))
theorem eJ37_7 (x0 : List Int) (x1 x2 x3 : Int) (x4 : End) (x5 x6 x7 : Int) (x8 : Bool) (x9 x10 : Int) (x11 : Bool) (x12 x13 x14 : Int) (x15 : Bool) (x16 : Int) (x17 : Bool) (x18 x19 x20 x21 : Int) (x22 : Bool) (x23 x24 x25 x26 : Int) (x27 : Bool) (x28 x29 x30 : Int) (x31 : Tab) : lv cd37 C37 (J37_7 x0 x1 x2 x3 x4 x5 x6 x7 x8 x9 x10 x11 x12 x13 x14 x15 x16 x17 x18 x19 x20 x21 x22 x23 x24 x25 x26 x27 x28 x29 x30 x31) = (tJ37_7 x0 x1 x2 x3 x4 x5 x6 x7 x8 x9 x10 x11 x12 x13 x14 x15 x16 x17 x18 x19 x20 x21 x22 x23 x24 x25 x26 x27 x28 x29 x30 x31).val cd37 C37 := Tr.lv_eq 33 (fun H z => by kernel_rfl)
noncomputable def tJ37_11 (x0 : List Int) (x1 x2 x3 : Int) (x4 : End) (x5 x6 x7 : Int) (x8 : Bool) (x9 x10 : Int) (x11 : Bool) (x12 x13 x14 : Int) (x15 : Bool) (x16 : Int) (x17 : Bool) (x18 x19 x20 x21 : Int) (x22 : Bool) (x23 x24 x25 x26 : Int) (x27 : Bool) (x28 x29 x30 : Int) (x31 : Tab) (x32 : Int) (x33 : Bool) (x34 x35 x36 : Int) : Tr (End × Msg × Int) :=
  .cond ((V130 x31 x0 8).isSome)
  (.cond (decide (((F130 x31 x0 8).length : Int) < x2))
    (.cond ((V127 14).isSome)
      (.some ((F127 14).1, (F127 14).2.1, (F127 14).2.2))
      (.none))
    (.go (J37_14_37_1 x1 x2 x3 x4 x5 x6 x7 x8 x9 x10 x11 x12 x13 x14 x15 x16 x17 x18 x19 x20 x21 x22 x23 x24 x25 x26 x27 x28 x29 x30 x32 x33 x34 x35 x36 (F130 x31 x0 8))))
  (.none)
theorem eJ37_11 (x0 : List Int) (x1 x2 x3 : Int) (x4 : End) (x5 x6 x7 : Int) (x8 : Bool) (x9 x10 : Int) (x11 : Bool) (x12 x13 x14 : Int) (x15 : Bool) (x16 : Int) (x17 : Bool) (x18 x19 x20 x21 : Int) (x22 : Bool) (x23 x24 x25 x26 : Int) (x27 : Bool) (x28 x29 x30 : Int) (x31 : Tab) (x32 : Int) (x33 : Bool) (x34 x35 x36 : Int) : lv cd37 C37 (J37_11 x0 x1 x2 x3 x4 x5 x6 x7 x8 x9 x10 x11 x12 x13 x14 x15 x16 x17 x18 x19 x20 x21 x22 x23 x24 x25 x26 x27 x28 x29 x30 x31 x32 x33 x34 x35 x36) = (tJ37_11 x0 x1 x2 x3 x4 x5 x6 x7 x8 x9 x10 x11 x12 x13 x14 x15 x16 x17 x18 x19 x20 x21 x22 x23 x24 x25 x26 x27 x28 x29 x30 x31 x32 x33 x34 x35 x36).val cd37 C37 := Tr.lv_eq 30 (fun H z => by kernel_rfl)
noncomputable def tJ37_14 (x0 x1 x2 : Int) (x3 : End) (x4 x5 x6 : Int) (x7 : Bool) (x8 x9 : Int) (x10 : Bool) (x11 x12 x13 : Int) (x14 : Bool) (x15 : Int) (x16 : Bool) (x17 x18 x19 x20 : Int) (x21 : Bool) (x22 x23 x24 x25 : Int) (x26 : Bool) (x27 x28 x29 x30 : Int) (x31 : Bool) (x32 x33 x34 : Int) : Tr (End × Msg × Int) :=
  .cond (decide (x0 = 2))
  (.go (J37_15 x0 x1 x2 x3 x4 x5 x6 x7 x8 x9 x10 x11 x12 x13 x14 x15 x16 x17 x18 x19 x20 x21 x22 x23 x24 x25 x26 x27 x28 x29 x30 x31 x32 x33 x34))
  (.cond (decide (x0 = 3))
    (.go (J37_15 x0 x1 x2 x3 x4 x5 x6 x7 x8 x9 x10 x11 x12 x13 x14 x15 x16 x17 x18 x19 x20 x21 x22 x23 x24 x25 x26 x27 x28 x29 x30 x31 x32 x33 x34))
    (.go (J37_21 x2 x3 x4 x5 x6 x7 x8 x9 x10 x11 x12 x13 x14 x15 x16 x17 x18 x19 x20 x21 x22 x23 x24 x25 x26 x27 x28 x29 x30 x31 x32 x33 x34)))
theorem eJ37_14 (x0 x1 x2 : Int) (x3 : End) (x4 x5 x6 : Int) (x7 : Bool) (x8 x9 : Int) (x10 : Bool) (x11 x12 x13 : Int) (x14 : Bool) (x15 : Int) (x16 : Bool) (x17 x18 x19 x20 : Int) (x21 : Bool) (x22 x23 x24 x25 : Int) (x26 : Bool) (x27 x28 x29 x30 : Int) (x31 : Bool) (x32 x33 x34 : Int) : lv cd37 C37 (J37_14 x0 x1 x2 x3 x4 x5 x6 x7 x8 x9 x10 x11 x12 x13 x14 x15 x16 x17 x18 x19 x20 x21 x22 x23 x24 x25 x26 x27 x28 x29 x30 x31 x32 x33 x34) = (tJ37_14 x0 x1 x2 x3 x4 x5 x6 x7 x8 x9 x10 x11 x12 x13 x14 x15 x16 x17 x18 x19 x20 x21 x22 x23 x24 x25 x26 x27 x28 x29 x30 x31 x32 x33 x34).val cd37 C37 := Tr.lv_eq 14 (fun H z => by kernel_rfl)
noncomputable def tJ37_14_37_1 (x0 x1 x2 : Int) (x3 : End) (x4 x5 x6 : Int) (x7 : Bool) (x8 x9 : Int) (x10 : Bool) (x11 x12 x13 : Int) (x14 : Bool) (x15 : Int) (x16 : Bool) (x17 x18 x19 x20 : Int) (x21 : Bool) (x22 x23 x24 x25 : Int) (x26 : Bool) (x27 x28 x29 x30 : Int) (x31 : Bool) (x32 x33 x34 : Int) (x35 : List Spot) : Tr (End × Msg × Int) :=
  .cond (decide (x0 = 2))
  (.go (J37_15_37_1 x0 x1 x2 x3 x4 x5 x6 x7 x8 x9 x10 x11 x12 x13 x14 x15 x16 x17 x18 x19 x20 x21 x22 x23 x24 x25 x26 x27 x28 x29 x30 x31 x32 x33 x34 x35))
  (.cond (decide (x0 = 3))
    (.go (J37_15_37_1 x0 x1 x2 x3 x4 x5 x6 x7 x8 x9 x10 x11 x12 x13 x14 x15 x16 x17 x18 x19 x20 x21 x22 x23 x24 x25 x26 x27 x28 x29 x30 x31 x32 x33 x34 x35))
    (.go (J37_21_37_1 x2 x3 x4 x5 x6 x7 x8 x9 x10 x11 x12 x13 x14 x15 x16 x17 x18 x19 x20 x21 x22 x23 x24 x25 x26 x27 x28 x29 x30 x31 x32 x33 x34 x35)))
theorem eJ37_14_37_1 (x0 x1 x2 : Int) (x3 : End) (x4 x5 x6 : Int) (x7 : Bool) (x8 x9 : Int) (x10 : Bool) (x11 x12 x13 : Int) (x14 : Bool) (x15 : Int) (x16 : Bool) (x17 x18 x19 x20 : Int) (x21 : Bool) (x22 x23 x24 x25 : Int) (x26 : Bool) (x27 x28 x29 x30 : Int) (x31 : Bool) (x32 x33 x34 : Int) (x35 : List Spot) : lv cd37 C37 (J37_14_37_1 x0 x1 x2 x3 x4 x5 x6 x7 x8 x9 x10 x11 x12 x13 x14 x15 x16 x17 x18 x19 x20 x21 x22 x23 x24 x25 x26 x27 x28 x29 x30 x31 x32 x33 x34 x35) = (tJ37_14_37_1 x0 x1 x2 x3 x4 x5 x6 x7 x8 x9 x10 x11 x12 x13 x14 x15 x16 x17 x18 x19 x20 x21 x22 x23 x24 x25 x26 x27 x28 x29 x30 x31 x32 x33 x34 x35).val cd37 C37 := Tr.lv_eq 14 (fun H z => by kernel_rfl)
noncomputable def tJ37_15 (x0 x1 x2 : Int) (x3 : End) (x4 x5 x6 : Int) (x7 : Bool) (x8 x9 : Int) (x10 : Bool) (x11 x12 x13 : Int) (x14 : Bool) (x15 : Int) (x16 : Bool) (x17 x18 x19 x20 : Int) (x21 : Bool) (x22 x23 x24 x25 : Int) (x26 : Bool) (x27 x28 x29 x30 : Int) (x31 : Bool) (x32 x33 x34 : Int) : Tr (End × Msg × Int) :=
  .cond ((V131 x3).isSome)
  (.cond (decide (((F131 x3).length : Int) < x1))
    (.cond ((V127 14).isSome)
      (.some ((F127 14).1, (F127 14).2.1, (F127 14).2.2))
      (.none))
    (.cond (ic x1 (F131 x3))
      (.cond (decide (x0 = 2))
        (.cond (inR .i64 (((F131 x3).length : Int) - x1))
          (.cond (ic (((F131 x3).length : Int) - x1) (F131 x3))
            (.go (J37_21_37_2 x2 x3 x4 x5 x6 x7 x8 x9 x10 x11 x12 x13 x14 x15 x16 x17 x18 x19 x20 x21 x22 x23 x24 x25 x26 x27 x28 x29 x30 x31 x32 x33 x34 ((F131 x3).drop (((F131 x3).length : Int) - x1).toNat)))
            (.none))
          (.none))
        (.go (J37_21_37_2 x2 x3 x4 x5 x6 x7 x8 x9 x10 x11 x12 x13 x14 x15 x16 x17 x18 x19 x20 x21 x22 x23 x24 x25 x26 x27 x28 x29 x30 x31 x32 x33 x34 ((F131 x3).take x1.toNat))))
      (.none)))
  (.none)
theorem eJ37_15 (x0 x1 x2 : Int) (x3 : End) (x4 x5 x6 : Int) (x7 : Bool) (x8 x9 : Int) (x10 : Bool) (x11 x12 x13 : Int) (x14 : Bool) (x15 : Int) (x16 : Bool) (x17 x18 x19 x20 : Int) (x21 : Bool) (x22 x23 x24 x25 : Int) (x26 : Bool) (x27 x28 x29 x30 : Int) (x31 : Bool) (x32 x33 x34 : Int) : lv cd37 C37 (J37_15 x0 x1 x2 x3 x4 x5 x6 x7 x8 x9 x10 x11 x12 x13 x14 x15 x16 x17 x18 x19 x20 x21 x22 x23 x24 x25 x26 x27 x28 x29 x30 x31 x32 x33 x34) = (tJ37_15 x0 x1 x2 x3 x4 x5 x6 x7 x8 x9 x10 x11 x12 x13 x14 x15 x16 x17 x18 x19 x20 x21 x22 x23 x24 x25 x26 x27 x28 x29 x30 x31 x32 x33 x34).val cd37 C37 := Tr.lv_eq 43 (fun H z => by kernel_rfl)
noncomputable def tJ37_21 (x0 : Int) (x1 : End) (x2 x3 x4 : Int) (x5 : Bool) (x6 x7 : Int) (x8 : Bool) (x9 x10 x11 : Int) (x12 : Bool) (x13 : Int) (x14 : Bool) (x15 x16 x17 x18 : Int) (x19 : Bool) (x20 x21 x22 x23 : Int) (x24 : Bool) (x25 x26 x27 x28 : Int) (x29 : Bool) (x30 x31 x32 : Int) : Tr (End × Msg × Int) :=
  .cond ((V132 x1 (⟨x28, x29, x30, x31, x32, ([] : List Spot), ([] : List Spot)⟩ : Msg) x0).isSome)
  (.some ((F132 x1 (⟨x28, x29, x30, x31, x32, ([] : List Spot), ([] : List Spot)⟩ : Msg) x0).1, (F132 x1 (⟨x28, x29, x30, x31, x32, ([] : List Spot), ([] : List Spot)⟩ : Msg) x0).2.1, (F132 x1 (⟨x28, x29, x30, x31, x32, ([] : List Spot), ([] : List Spot)⟩ : Msg) x0).2.2))
  (.none)
theorem eJ37_21 (x0 : Int) (x1 : End) (x2 x3 x4 : Int) (x5 : Bool) (x6 x7 : Int) (x8 : Bool) (x9 x10 x11 : Int) (x12 : Bool) (x13 : Int) (x14 : Bool) (x15 x16 x17 x18 : Int) (x19 : Bool) (x20 x21 x22 x23 : Int) (x24 : Bool) (x25 x26 x27 x28 : Int) (x29 : Bool) (x30 x31 x32 : Int) : lv cd37 C37 (J37_21 x0 x1 x2 x3 x4 x5 x6 x7 x8 x9 x10 x11 x12 x13 x14 x15 x16 x17 x18 x19 x20 x21 x22 x23 x24 x25 x26 x27 x28 x29 x30 x31 x32) = (tJ37_21 x0 x1 x2 x3 x4 x5 x6 x7 x8 x9 x10 x11 x12 x13 x14 x15 x16 x17 x18 x19 x20 x21 x22 x23 x24 x25 x26 x27 x28 x29 x30 x31 x32).val cd37 C37 := Tr.lv_eq 15 (fun H z => by kernel_rfl)
noncomputable def tJ37_15_37_1 (x0 x1 x2 : Int) (x3 : End) (x4 x5 x6 : Int) (x7 : Bool) (x8 x9 : Int) (x10 : Bool) (x11 x12 x13 : Int) (x14 : Bool) (x15 : Int) (x16 : Bool) (x17 x18 x19 x20 : Int) (x21 : Bool) (x22 x23 x24 x25 : Int) (x26 : Bool) (x27 x28 x29 x30 : Int) (x31 : Bool) (x32 x33 x34 : Int) (x35 : List Spot) : Tr (End × Msg × Int) :=
  .cond ((V131 x3).isSome)
  (.cond (decide (((F131 x3).length : Int) < x1))
    (.cond ((V127 14).isSome)
      (.some ((F127 14).1, (F127 14).2.1, (F127 14).2.2))
      (.none))
    (.cond (ic x1 (F131 x3))
      (.cond (decide (x0 = 2))
        (.cond (inR .i64 (((F131 x3).length : Int) - x1))
          (.cond (ic (((F131 x3).length : Int) - x1) (F131 x3))
            (.go (J37_21_37_3 x2 x3 x4 x5 x6 x7 x8 x9 x10 x11 x12 x13 x14 x15 x16 x17 x18 x19 x20 x21 x22 x23 x24 x25 x26 x27 x28 x29 (⟨x30, x31, x32, x33, x34, x35, (F131 x3).drop (((F131 x3).length : Int) - x1).toNat⟩ : Msg)))
            (.none))
          (.none))
        (.go (J37_21_37_3 x2 x3 x4 x5 x6 x7 x8 x9 x10 x11 x12 x13 x14 x15 x16 x17 x18 x19 x20 x21 x22 x23 x24 x25 x26 x27 x28 x29 (⟨x30, x31, x32, x33, x34, x35, (F131 x3).take x1.toNat⟩ : Msg))))
      (.none)))
  (.none)
theorem eJ37_15_37_1 (x0 x1 x2 : Int) (x3 : End) (x4 x5 x6 : Int) (x7 : Bool) (x8 x9 : Int) (x10 : Bool) (x11 x12 x13 : Int) (x14 : Bool) (x15 : Int) (x16 : Bool) (x17 x18 x19 x20 : Int) (x21 : Bool) (x22 x23 x24 x25 : Int) (x26 : Bool) (x27 x28 x29 x30 : Int) (x31 : Bool) (x32 x33 x34 : Int) (x35 : List Spot) : lv cd37 C37 (J37_15_37_1 x0 x1 x2 x3 x4 x5 x6 x7 x8 x9 x10 x11 x12 x13 x14 x15 x16 x17 x18 x19 x20 x21 x22 x23 x24 x25 x26 x27 x28 x29 x30 x31 x32 x33 x34 x35) = (tJ37_15_37_1 x0 x1 x2 x3 x4 x5 x6 x7 x8 x9 x10 x11 x12 x13 x14 x15 x16 x17 x18 x19 x20 x21 x22 x23 x24 x25 x26 x27 x28 x29 x30 x31 x32 x33 x34 x35).val cd37 C37 := Tr.lv_eq 43 (fun H z => by kernel_rfl)
noncomputable def tJ37_21_37_1 (x0 : Int) (x1 : End) (x2 x3 x4 : Int) (x5 : Bool) (x6 x7 : Int) (x8 : Bool) (x9 x10 x11 : Int) (x12 : Bool) (x13 : Int) (x14 : Bool) (x15 x16 x17 x18 : Int) (x19 : Bool) (x20 x21 x22 x23 : Int) (x24 : Bool) (x25 x26 x27 x28 : Int) (x29 : Bool) (x30 x31 x32 : Int) (x33 : List Spot) : Tr (End × Msg × Int) :=
  .cond ((V132 x1 (⟨x28, x29, x30, x31, x32, x33, ([] : List Spot)⟩ : Msg) x0).isSome)
  (.some ((F132 x1 (⟨x28, x29, x30, x31, x32, x33, ([] : List Spot)⟩ : Msg) x0).1, (F132 x1 (⟨x28, x29, x30, x31, x32, x33, ([] : List Spot)⟩ : Msg) x0).2.1, (F132 x1 (⟨x28, x29, x30, x31, x32, x33, ([] : List Spot)⟩ : Msg) x0).2.2))
  (.none)
theorem eJ37_21_37_1 (x0 : Int) (x1 : End) (x2 x3 x4 : Int) (x5 : Bool) (x6 x7 : Int) (x8 : Bool) (x9 x10 x11 : Int) (x12 : Bool) (x13 : Int) (x14 : Bool) (x15 x16 x17 x18 : Int) (x19 : Bool) (x20 x21 x22 x23 : Int) (x24 : Bool) (x25 x26 x27 x28 : Int) (x29 : Bool) (x30 x31 x32 : Int) (x33 : List Spot) : lv cd37 C37 (J37_21_37_1 x0 x1 x2 x3 x4 x5 x6 x7 x8 x9 x10 x11 x12 x13 x14 x15 x16 x17 x18 x19 x20 x21 x22 x23 x24 x25 x26 x27 x28 x29 x30 x31 x32 x33) = (tJ37_21_37_1 x0 x1 x2 x3 x4 x5 x6 x7 x8 x9 x10 x11 x12 x13 x14 x15 x16 x17 x18 x19 x20 x21 x22 x23 x24 x25 x26 x27 x28 x29 x30 x31 x32 x33).val cd37 C37 := Tr.lv_eq 15 (fun H z => by kernel_rfl)
noncomputable def tJ37_21_37_2 (x0 : Int) (x1 : End) (x2 x3 x4 : Int) (x5 : Bool) (x6 x7 : Int) (x8 : Bool) (x9 x10 x11 : Int) (x12 : Bool) (x13 : Int) (x14 : Bool) (x15 x16 x17 x18 : Int) (x19 : Bool) (x20 x21 x22 x23 : Int) (x24 : Bool) (x25 x26 x27 x28 : Int) (x29 : Bool) (x30 x31 x32 : Int) (x33 : List Spot) : Tr (End × Msg × Int) :=
  .cond ((V132 x1 (⟨x28, x29, x30, x31, x32, ([] : List Spot), x33⟩ : Msg) x0).isSome)
  (.some ((F132 x1 (⟨x28, x29, x30, x31, x32, ([] : List Spot), x33⟩ : Msg) x0).1, (F132 x1 (⟨x28, x29, x30, x31, x32, ([] : List Spot), x33⟩ : Msg) x0).2.1, (F132 x1 (⟨x28, x29, x30, x31, x32, ([] : List Spot), x33⟩ : Msg) x0).2.2))
  (.none)
theorem eJ37_21_37_2 (x0 : Int) (x1 : End) (x2 x3 x4 : Int) (x5 : Bool) (x6 x7 : Int) (x8 : Bool) (x9 x10 x11 : Int) (x12 : Bool) (x13 : Int) (x14 : Bool) (x15 x16 x17 x18 : Int) (x19 : Bool) (x20 x21 x22 x23 : Int) (x24 : Bool) (x25 x26 x27 x28 : Int) (x29 : Bool) (x30 x31 x32 : Int) (x33 : List Spot) : lv cd37 C37 (J37_21_37_2 x0 x1 x2 x3 x4 x5 x6 x7 x8 x9 x10 x11 x12 x13 x14 x15 x16 x17 x18 x19 x20 x21 x22 x23 x24 x25 x26 x27 x28 x29 x30 x31 x32 x33) = (tJ37_21_37_2 x0 x1 x2 x3 x4 x5 x6 x7 x8 x9 x10 x11 x12 x13 x14 x15 x16 x17 x18 x19 x20 x21 x22 x23 x24 x25 x26 x27 x28 x29 x30 x31 x32 x33).val cd37 C37 := Tr.lv_eq 15 (fun H z => by kernel_rfl)
noncomputable def tJ37_21_37_3 (x0 : Int) (x1 : End) (x2 x3 x4 : Int) (x5 : Bool) (x6 x7 : Int) (x8 : Bool) (x9 x10 x11 : Int) (x12 : Bool) (x13 : Int) (x14 : Bool) (x15 x16 x17 x18 : Int) (x19 : Bool) (x20 x21 x22 x23 : Int) (x24 : Bool) (x25 x26 x27 : Int) (x28 : Msg) : Tr (End × Msg × Int) :=
  .cond ((V132 x1 x28 x0).isSome)
  (.some ((F132 x1 x28 x0).1, (F132 x1 x28 x0).2.1, (F132 x1 x28 x0).2.2))
  (.none)
theorem eJ37_21_37_3 (x0 : Int) (x1 : End) (x2 x3 x4 : Int) (x5 : Bool) (x6 x7 : Int) (x8 : Bool) (x9 x10 x11 : Int) (x12 : Bool) (x13 : Int) (x14 : Bool) (x15 x16 x17 x18 : Int) (x19 : Bool) (x20 x21 x22 x23 : Int) (x24 : Bool) (x25 x26 x27 : Int) (x28 : Msg) : lv cd37 C37 (J37_21_37_3 x0 x1 x2 x3 x4 x5 x6 x7 x8 x9 x10 x11 x12 x13 x14 x15 x16 x17 x18 x19 x20 x21 x22 x23 x24 x25 x26 x27 x28) = (tJ37_21_37_3 x0 x1 x2 x3 x4 x5 x6 x7 x8 x9 x10 x11 x12 x13 x14 x15 x16 x17 x18 x19 x20 x21 x22 x23 x24 x25 x26 x27 x28).val cd37 C37 := Tr.lv_eq 15 (fun H z => by kernel_rfl)
noncomputable def V37 (x0 : End) (x1 : Tab) (x2 : List Int) (x3 x4 x5 : Int) : Option (End × Msg × Int) := vlim cd37 (S37 x0 x1 x2 x3 x4 x5)
noncomputable def F37 (x0 : End) (x1 : Tab) (x2 : List Int) (x3 x4 x5 : Int) : End × Msg × Int := (V37 x0 x1 x2 x3 x4 x5).getD default
noncomputable def G37 : GE := mkG [(0, some 3, .cell), (0, some 11, .spot), (0, some 12, .spot), (0, some 19, .spot), (0, some 20, .spot), (0, some 26, .spot), (0, some 27, .spot), (1, some 2, .cell), (2, none, .int)] (cod27.a (cod29.a ((codS .int).a (codI.a (codI.a (codI.a (.nil))))))) (fun x => V37 x.1 x.2.1 x.2.2.1 x.2.2.2.1 x.2.2.2.2.1 x.2.2.2.2.2.1) cd37
theorem ge37 : GeOk 37 G37 := ge_mk (C := C37) (base_ok (.cons ge36 (.cons ge127 (.cons ge128 (.cons ge129 (.cons ge130 (.cons ge131 (.cons ge132 .nil))))))) (.cons c37 .nil) .nil) rfl c37 (fun _ => rfl) (by kernel_rfl)
theorem c24 : CdOk 24 Tryz.f24 := ⟨by kernel_rfl, by kernel_rfl⟩
noncomputable def C24 : Cfg := base [(28, G28), (32, G32), (37, G37), (43, G43), (94, G94)] [(24, Tryz.f24)] [(24, [])] [] [] [] []
noncomputable def S24 (n : Nat) : Option AV := startK C24 n 24 Tryz.f24 []
noncomputable abbrev cd24 : Cod (Bool) := codB
noncomputable def tS24 : Tr (Bool) :=
  .cond ((V43 1 2).isSome)
  (.cond ((V43 2 1).isSome)
    (.cond ((V37 ((F43 1 2).1) (⟨1, 4, ([] : List Cell)⟩ : Tab) ([0, 1, 1, 0] : List Int) 1 1 7).isSome)
      (.cond ((V28 ((F43 2 1).1) (⟨2, 4, ([] : List Cell)⟩ : Tab) ([0, 1, 1, 0] : List Int) ((F37 ((F43 1 2).1) (⟨1, 4, ([] : List Cell)⟩ : Tab) ([0, 1, 1, 0] : List Int) 1 1 7).2.1)).isSome)
        (.cond ((V32 ((F37 ((F43 1 2).1) (⟨1, 4, ([] : List Cell)⟩ : Tab) ([0, 1, 1, 0] : List Int) 1 1 7).1) ((F28 ((F43 2 1).1) (⟨2, 4, ([] : List Cell)⟩ : Tab) ([0, 1, 1, 0] : List Int) ((F37 ((F43 1 2).1) (⟨1, 4, ([] : List Cell)⟩ : Tab) ([0, 1, 1, 0] : List Int) 1 1 7).2.1)).2.1)).isSome)
          (.cond (inR .i64 (((F43 1 2).2) + ((F43 2 1).2)))
            (.cond (inR .i64 ((((F43 1 2).2) + ((F43 2 1).2)) + ((F37 ((F43 1 2).1) (⟨1, 4, ([] : List Cell)⟩ : Tab) ([0, 1, 1, 0] : List Int) 1 1 7).2.2)))
              (.cond (inR .i64 (((((F43 1 2).2) + ((F43 2 1).2)) + ((F37 ((F43 1 2).1) (⟨1, 4, ([] : List Cell)⟩ : Tab) ([0, 1, 1, 0] : List Int) 1 1 7).2.2)) + ((F28 ((F43 2 1).1) (⟨2, 4, ([] : List Cell)⟩ : Tab) ([0, 1, 1, 0] : List Int) ((F37 ((F43 1 2).1) (⟨1, 4, ([] : List Cell)⟩ : Tab) ([0, 1, 1, 0] : List Int) 1 1 7).2.1)).2.2)))
                (.cond (inR .i64 ((((((F43 1 2).2) + ((F43 2 1).2)) + ((F37 ((F43 1 2).1) (⟨1, 4, ([] : List Cell)⟩ : Tab) ([0, 1, 1, 0] : List Int) 1 1 7).2.2)) + ((F28 ((F43 2 1).1) (⟨2, 4, ([] : List Cell)⟩ : Tab) ([0, 1, 1, 0] : List Int) ((F37 ((F43 1 2).1) (⟨1, 4, ([] : List Cell)⟩ : Tab) ([0, 1, 1, 0] : List Int) 1 1 7).2.1)).2.2)) + ((F32 ((F37 ((F43 1 2).1) (⟨1, 4, ([] : List Cell)⟩ : Tab) ([0, 1, 1, 0] : List Int) 1 1 7).1) ((F28 ((F43 2 1).1) (⟨2, 4, ([] : List Cell)⟩ : Tab) ([0, 1, 1, 0] : List Int) ((F37 ((F43 1 2).1) (⟨1, 4, ([] : List Cell)⟩ : Tab) ([0, 1, 1, 0] : List Int) 1 1 7).2.1)).2.1)).2)))
                  (.cond (decide (((((((F43 1 2).2) + ((F43 2 1).2)) + ((F37 ((F43 1 2).1) (⟨1, 4, ([] : List Cell)⟩ : Tab) ([0, 1, 1, 0] : List Int) 1 1 7).2.2)) + ((F28 ((F43 2 1).1) (⟨2, 4, ([] : List Cell)⟩ : Tab) ([0, 1, 1, 0] : List Int) ((F37 ((F43 1 2).1) (⟨1, 4, ([] : List Cell)⟩ : Tab) ([0, 1, 1, 0] : List Int) 1 1 7).2.1)).2.2)) + ((F32 ((F37 ((F43 1 2).1) (⟨1, 4, ([] : List Cell)⟩ : Tab) ([0, 1, 1, 0] : List Int) 1 1 7).1) ((F28 ((F43 2 1).1) (⟨2, 4, ([] : List Cell)⟩ : Tab) ([0, 1, 1, 0] : List Int) ((F37 ((F43 1 2).1) (⟨1, 4, ([] : List Cell)⟩ : Tab) ([0, 1, 1, 0] : List Int) 1 1 7).2.1)).2.1)).2)) = 0))
                    (.cond (decide ((((F32 ((F37 ((F43 1 2).1) (⟨1, 4, ([] : List Cell)⟩ : Tab) ([0, 1, 1, 0] : List Int) 1 1 7).1) ((F28 ((F43 2 1).1) (⟨2, 4, ([] : List Cell)⟩ : Tab) ([0, 1, 1, 0] : List Int) ((F37 ((F43 1 2).1) (⟨1, 4, ([] : List Cell)⟩ : Tab) ([0, 1, 1, 0] : List Int) 1 1 7).2.1)).2.1)).1).num) = 1))
                      (.cond (decide ((((F28 ((F43 2 1).1) (⟨2, 4, ([] : List Cell)⟩ : Tab) ([0, 1, 1, 0] : List Int) ((F37 ((F43 1 2).1) (⟨1, 4, ([] : List Cell)⟩ : Tab) ([0, 1, 1, 0] : List Int) 1 1 7).2.1)).1).num) = 1))
                        (.cond ((V94 (((F32 ((F37 ((F43 1 2).1) (⟨1, 4, ([] : List Cell)⟩ : Tab) ([0, 1, 1, 0] : List Int) 1 1 7).1) ((F28 ((F43 2 1).1) (⟨2, 4, ([] : List Cell)⟩ : Tab) ([0, 1, 1, 0] : List Int) ((F37 ((F43 1 2).1) (⟨1, 4, ([] : List Cell)⟩ : Tab) ([0, 1, 1, 0] : List Int) 1 1 7).2.1)).2.1)).1).cl) ([(⟨1, 0, 2, true, 2, (-1)⟩ : Cell)] : List Cell)).isSome)
                        (.cond (F94 (((F32 ((F37 ((F43 1 2).1) (⟨1, 4, ([] : List Cell)⟩ : Tab) ([0, 1, 1, 0] : List Int) 1 1 7).1) ((F28 ((F43 2 1).1) (⟨2, 4, ([] : List Cell)⟩ : Tab) ([0, 1, 1, 0] : List Int) ((F37 ((F43 1 2).1) (⟨1, 4, ([] : List Cell)⟩ : Tab) ([0, 1, 1, 0] : List Int) 1 1 7).2.1)).2.1)).1).cl) ([(⟨1, 0, 2, true, 2, (-1)⟩ : Cell)] : List Cell))
                        (.cond ((V94 (((F28 ((F43 2 1).1) (⟨2, 4, ([] : List Cell)⟩ : Tab) ([0, 1, 1, 0] : List Int) ((F37 ((F43 1 2).1) (⟨1, 4, ([] : List Cell)⟩ : Tab) ([0, 1, 1, 0] : List Int) 1 1 7).2.1)).1).cl) ([(⟨1, 0, 2, false, 1, (-1)⟩ : Cell)] : List Cell)).isSome)
                        (.some (F94 (((F28 ((F43 2 1).1) (⟨2, 4, ([] : List Cell)⟩ : Tab) ([0, 1, 1, 0] : List Int) ((F37 ((F43 1 2).1) (⟨1, 4, ([] : List Cell)⟩ : Tab) ([0, 1, 1, 0] : List Int) 1 1 7).2.1)).1).cl) ([(⟨1, 0, 2, false, 1, (-1)⟩ : Cell)] : List Cell)))
                        (.none))
                        (.some false))
                        (.none))
                        (.some false))
                      (.some false))
                    (.some false))
                  (.none))
                (.none))
              (.none))
            (.none))
          (.none))
        (.none))
      (.none))
    (.none))
  (.none)
theorem eS24 : vlim cd24 (S24) = (tS24).val cd24 C24 := Tr.val_eq 121 (fun H z => by kernel_rfl)
noncomputable def V24 : Option (Bool) := vlim cd24 (S24)
noncomputable def F24 : Bool := (V24).getD default
noncomputable def G24 : GE := mkG [] (.nil) (fun x => V24) cd24
theorem ge24 : GeOk 24 G24 := ge_mk (C := C24) (base_ok (.cons ge28 (.cons ge32 (.cons ge37 (.cons ge43 (.cons ge94 .nil))))) (.cons c24 .nil) .nil) rfl c24 (fun _ => rfl) (by kernel_rfl)
theorem c31 : CdOk 31 Tryz.f31 := ⟨by kernel_rfl, by kernel_rfl⟩
noncomputable def C31 : Cfg := base [(118, G118)] [(31, Tryz.f31)] [(31, [])] [] [] [] []
noncomputable def S31 (x0 x1 : Msg) (n : Nat) : Option AV := startK C31 n 31 Tryz.f31 [.agg (enc25 x0), .agg (enc25 x1)]
noncomputable abbrev cd31 : Cod (Bool) := codB
noncomputable def tS31 (x0 x1 : Msg) : Tr (Bool) :=
  .cond (decide (x0.kind = x1.kind))
  (.cond (x0.rep == x1.rep)
    (.cond (decide (x0.num = x1.num))
      (.cond (decide (x0.code = x1.code))
        (.cond (decide (x0.cnt = x1.cnt))
          (.cond ((V118 x0.sp x1.sp).isSome)
            (.cond (F118 x0.sp x1.sp)
              (.cond ((V118 x0.old x1.old).isSome)
                (.some (F118 x0.old x1.old))
                (.none))
              (.some false))
            (.none))
          (.some false))
        (.some false))
      (.some false))
    (.some false))
  (.some false)
theorem eS31 (x0 x1 : Msg) : vlim cd31 (S31 x0 x1) = (tS31 x0 x1).val cd31 C31 := Tr.val_eq 60 (fun H z => by kernel_rfl)
noncomputable def V31 (x0 x1 : Msg) : Option (Bool) := vlim cd31 (S31 x0 x1)
noncomputable def F31 (x0 x1 : Msg) : Bool := (V31 x0 x1).getD default
noncomputable def G31 : GE := mkG [(0, some 5, .spot), (0, some 6, .spot), (1, some 5, .spot), (1, some 6, .spot)] (cod25.a (cod25.a (.nil))) (fun x => V31 x.1 x.2.1) cd31
theorem ge31 : GeOk 31 G31 := ge_mk (C := C31) (base_ok (.cons ge118 .nil) (.cons c31 .nil) .nil) rfl c31 (fun _ => rfl) (by kernel_rfl)
theorem c199 : CdOk 199 Tryz.f199 := ⟨by kernel_rfl, by kernel_rfl⟩
noncomputable def b199 (n p : Nat) : Code := bp n p (bodyA Tryz.f199)
noncomputable def C199 : Cfg := base [] [(199, Tryz.f199)] [(199, [(2, { drop := rs [(0, 85)], nt := [], nb := [] }), (3, { drop := rs [(0, 2), (4, 81)], nt := [], nb := [] }), (4, { drop := rs [(0, 85)], nt := [], nb := [] }), (5, { drop := rs [(0, 2), (4, 81)], nt := [], nb := [] }), (6, { drop := rs [(0, 85)], nt := [], nb := [] }), (7, { drop := rs [(0, 2), (4, 81)], nt := [], nb := [] }), (8, { drop := rs [(0, 85)], nt := [], nb := [] }), (9, { drop := rs [(0, 85)], nt := [], nb := [] })])] [] [] [] []
noncomputable def S199 (x0 : Tab) (x1 : Cell) (n : Nat) : Option AV := startK C199 n 199 Tryz.f199 [.agg (enc29 x0), .agg (ST.row .cell x1)]
noncomputable def J199_2 : St := ⟨3, ⟨199, un 85, nb 85, [.code (b199 5 5), .code (b199 5 21), .code (b199 2 3)]⟩, []⟩
noncomputable def J199_3 (x0 : Tab) (x1 : Cell) : St := ⟨4, ⟨199, ap [.undef, .undef, .ptr 0 2 0, .ptr 0 3 0] (un 81), aq [[], [], (enc29 x0), (ST.row .cell x1)] (nb 81), [.code (b199 4 3), .code (b199 4 11), .code (b199 3 7)]⟩, []⟩
noncomputable def J199_4 : St := ⟨5, ⟨199, un 85, nb 85, [.code (b199 6 11), .code (b199 6 43), .code (b199 3 7)]⟩, []⟩
noncomputable def J199_5 (x0 : Tab) (x1 : Cell) : St := ⟨6, ⟨199, ap [.undef, .undef, .ptr 0 2 0, .ptr 0 3 0] (un 81), aq [[], [], (enc29 x0), (ST.row .cell x1)] (nb 81), [.code (b199 5 7), .code (b199 5 23), .code (b199 4 15)]⟩, []⟩
noncomputable def J199_6 : St := ⟨7, ⟨199, un 85, nb 85, [.code (b199 7 23), .code (b199 7 87), .code (b199 4 15)]⟩, []⟩
noncomputable def J199_7 (x0 : Tab) (x1 : Cell) : St := ⟨8, ⟨199, ap [.undef, .undef, .ptr 0 2 0, .ptr 0 3 0] (un 81), aq [[], [], (enc29 x0), (ST.row .cell x1)] (nb 81), [.code (b199 6 15), .code (b199 6 47), .code (b199 5 31)]⟩, []⟩
noncomputable def J199_8 : St := ⟨9, ⟨199, un 85, nb 85, [.code (b199 8 47), .code (b199 8 175), .code (b199 5 31)]⟩, []⟩
noncomputable def J199_9 : St := ⟨10, ⟨199, un 85, nb 85, [.code (b199 6 31), .code (b199 6 63)]⟩, []⟩
noncomputable abbrev cd199 : Cod (Int) := codI
noncomputable def tS199 (x0 : Tab) (x1 : Cell) : Tr (Int) :=
  .cond (decide (x1.kind < 1))
  (.go J199_2)
  (.cond (decide (3 < x1.kind))
    (.go J199_2)
    (.go (J199_3 x0 x1)))
theorem eS199 (x0 : Tab) (x1 : Cell) : vlim cd199 (S199 x0 x1) = (tS199 x0 x1).val cd199 C199 := Tr.val_eq 25 (fun H z => by kernel_rfl)
noncomputable def tJ199_2 : Tr (Int) :=
  .some 1
theorem eJ199_2 : lv cd199 C199 (J199_2) = (tJ199_2).val cd199 C199 := Tr.lv_eq 6 (fun H z => by kernel_rfl)
noncomputable def tJ199_3 (x0 : Tab) (x1 : Cell) : Tr (Int) :=
  .cond (!(decide (x1.kind = 1)))
  (.cond (!(decide (x1.flow = (-1))))
    (.go J199_4)
    (.cond (decide (x1.kind = 3))
      (.cond (!(decide (x1.peer = (-1))))
        (.go J199_4)
        (.cond x1.send
          (.go J199_4)
          (.go (J199_5 x0 x1))))
      (.go (J199_5 x0 x1))))
  (.cond (decide (x1.kind = 3))
    (.cond (!(decide (x1.peer = (-1))))
      (.go J199_4)
      (.cond x1.send
        (.go J199_4)
        (.go (J199_5 x0 x1))))
    (.go (J199_5 x0 x1)))
theorem eJ199_3 (x0 : Tab) (x1 : Cell) : lv cd199 C199 (J199_3 x0 x1) = (tJ199_3 x0 x1).val cd199 C199 := Tr.lv_eq 31 (fun H z => by kernel_rfl)
noncomputable def tJ199_4 : Tr (Int) :=
  .some 1
theorem eJ199_4 : lv cd199 C199 (J199_4) = (tJ199_4).val cd199 C199 := Tr.lv_eq 6 (fun H z => by kernel_rfl)
noncomputable def tJ199_5 (x0 : Tab) (x1 : Cell) : Tr (Int) :=
  .cond (decide (x1.slot < 0))
  (.go J199_6)
  (.cond (decide (x0.len ≤ x1.slot))
    (.go J199_6)
    (.cond (decide (x1.offset < 0))
      (.go J199_6)
      (.cond (decide (16 ≤ x1.offset))
        (.go J199_6)
        (.go (J199_7 x0 x1)))))
theorem eJ199_5 (x0 : Tab) (x1 : Cell) : lv cd199 C199 (J199_5 x0 x1) = (tJ199_5 x0 x1).val cd199 C199 := Tr.lv_eq 29 (fun H z => by kernel_rfl)
noncomputable def tJ199_6 : Tr (Int) :=
  .some 2
theorem eJ199_6 : lv cd199 C199 (J199_6) = (tJ199_6).val cd199 C199 := Tr.lv_eq 6 (fun H z => by kernel_rfl)
noncomputable def tJ199_7 (x0 : Tab) (x1 : Cell) : Tr (Int) :=
  .cond (!(decide (x1.kind = 3)))
  (.cond (decide (x1.peer < 0))
    (.go J199_8)
    (.cond (decide (32 ≤ x1.peer))
      (.go J199_8)
      (.cond (decide (x1.peer = x0.nd))
        (.go J199_8)
        (.cond (decide (x1.kind = 1))
          (.cond (decide (x1.flow < 0))
            (.go J199_8)
            (.go J199_9))
          (.go J199_9)))))
  (.cond (decide (x1.kind = 1))
    (.cond (decide (x1.flow < 0))
      (.go J199_8)
      (.go J199_9))
    (.go J199_9))
theorem eJ199_7 (x0 : Tab) (x1 : Cell) : lv cd199 C199 (J199_7 x0 x1) = (tJ199_7 x0 x1).val cd199 C199 := Tr.lv_eq 38 (fun H z => by kernel_rfl)
noncomputable def tJ199_8 : Tr (Int) :=
  .some 2
theorem eJ199_8 : lv cd199 C199 (J199_8) = (tJ199_8).val cd199 C199 := Tr.lv_eq 6 (fun H z => by kernel_rfl)
noncomputable def tJ199_9 : Tr (Int) :=
  .some 0
theorem eJ199_9 : lv cd199 C199 (J199_9) = (tJ199_9).val cd199 C199 := Tr.lv_eq 6 (fun H z => by kernel_rfl)
noncomputable def V199 (x0 : Tab) (x1 : Cell) : Option (Int) := vlim cd199 (S199 x0 x1)
noncomputable def F199 (x0 : Tab) (x1 : Cell) : Int := (V199 x0 x1).getD default
noncomputable def G199 : GE := mkG [(0, some 2, .cell)] (cod29.a ((codE .cell).a (.nil))) (fun x => V199 x.1 x.2.1) cd199
theorem ge199 : GeOk 199 G199 := ge_mk (C := C199) (base_ok .nil (.cons c199 .nil) .nil) rfl c199 (fun _ => rfl) (by kernel_rfl)
theorem c217 : CdOk 217 Tryz.f217 := ⟨by kernel_rfl, by kernel_rfl⟩
noncomputable def C217 : Cfg := base [] [(217, Tryz.f217)] [(217, [])] [] [] [] []
noncomputable def S217 (x0 x1 : Cell) (n : Nat) : Option AV := startK C217 n 217 Tryz.f217 [.agg (ST.row .cell x0), .agg (ST.row .cell x1)]
noncomputable abbrev cd217 : Cod (Bool) := codB
noncomputable def tS217 (x0 x1 : Cell) : Tr (Bool) :=
  .cond (decide (x0.slot < x1.slot))
  (.some true)
  (.cond (decide (x0.slot = x1.slot))
    (.some (decide (x0.kind < x1.kind)))
    (.some false))
theorem eS217 (x0 x1 : Cell) : vlim cd217 (S217 x0 x1) = (tS217 x0 x1).val cd217 C217 := Tr.val_eq 32 (fun H z => by kernel_rfl)
noncomputable def V217 (x0 x1 : Cell) : Option (Bool) := vlim cd217 (S217 x0 x1)
noncomputable def F217 (x0 x1 : Cell) : Bool := (V217 x0 x1).getD default
noncomputable def G217 : GE := mkG [] ((codE .cell).a ((codE .cell).a (.nil))) (fun x => V217 x.1 x.2.1) cd217
theorem ge217 : GeOk 217 G217 := ge_mk (C := C217) (base_ok .nil (.cons c217 .nil) .nil) rfl c217 (fun _ => rfl) (by kernel_rfl)
theorem c153 : CdOk 153 Tryz.f153 := ⟨by kernel_rfl, by kernel_rfl⟩
noncomputable def b153 (n p : Nat) : Code := bp n p (bodyA Tryz.f153)
noncomputable def C153 : Cfg := base [(199, G199), (217, G217)] [(153, Tryz.f153)] [(153, [(2, { drop := rs [(0, 61)], nt := [], nb := [] }), (3, { drop := rs [(0, 1), (2, 59)], nt := [], nb := [] }), (6, { drop := rs [(0, 1), (2, 1), (4, 57)], nt := [], nb := [] }), (7, { drop := rs [(0, 1), (2, 1), (4, 57)], nt := [], nb := [] }), (12, { drop := rs [(0, 61)], nt := [], nb := [] })])] [] [] [] []
noncomputable def S153 (x0 : Tab) (n : Nat) : Option AV := startK C153 n 153 Tryz.f153 [.agg (enc29 x0)]
noncomputable def J153_2 : St := ⟨3, ⟨153, un 61, nb 61, [.code (b153 5 5), .code (b153 5 21), .code (b153 2 3)]⟩, []⟩
noncomputable def J153_3 (x0 : Tab) : St := ⟨4, ⟨153, ap [.undef, .ptr 0 1 0] (un 59), aq [[], (enc29 x0)] (nb 59), [.code (b153 4 3), .code (b153 4 11), .code (b153 3 7)]⟩, []⟩
noncomputable def J153_6 (x0 : Int) (x1 : Tab) : St := ⟨7, ⟨153, ap [.undef, .ptr 0 1 0, .undef, .int .i64 x0] (un 57), aq [[], (enc29 x1)] (nb 59), [.code (b153 9 23), .code (b153 9 279), .code (b153 8 151), .inLoop (b153 7 23), .inBlock 0, .code (b153 4 15)]⟩, []⟩
noncomputable def J153_12 : St := ⟨13, ⟨153, un 61, nb 61, [.code (b153 14 3223), .code (b153 14 11415), .inBlock 1, .code (b153 9 407), .inLoop (b153 7 23), .inBlock 0, .code (b153 4 15)]⟩, []⟩
noncomputable def J153_7 (x0 : Int) (x1 : Tab) : St := ⟨8, ⟨153, ap [.undef, .ptr 0 1 0, .undef, .int .i64 x0] (un 57), aq [[], (enc29 x1)] (nb 59), [.code (b153 9 407), .inLoop (b153 7 23), .inBlock 0, .code (b153 4 15)]⟩, []⟩
noncomputable abbrev cd153 : Cod (Int) := codI
noncomputable def tS153 (x0 : Tab) : Tr (Int) :=
  .cond (decide (x0.nd < 0))
  (.go J153_2)
  (.cond (decide (32 ≤ x0.nd))
    (.go J153_2)
    (.cond (decide (x0.len < 1))
      (.go J153_2)
      (.cond (decide (512 < x0.len))
        (.go J153_2)
        (.go (J153_3 x0)))))
theorem eS153 (x0 : Tab) : vlim cd153 (S153 x0) = (tS153 x0).val cd153 C153 := Tr.val_eq 34 (fun H z => by kernel_rfl)
noncomputable def tJ153_2 : Tr (Int) :=
  .some 2
theorem eJ153_2 : lv cd153 C153 (J153_2) = (tJ153_2).val cd153 C153 := Tr.lv_eq 6 (fun H z => by kernel_rfl)
noncomputable def tJ153_3 (x0 : Tab) : Tr (Int) :=
  .cond (decide (512 < ((x0.cl).length : Int)))
  (.some 8)
  (.go (J153_6 0 x0))
theorem eJ153_3 (x0 : Tab) : lv cd153 C153 (J153_3 x0) = (tJ153_3 x0).val cd153 C153 := Tr.lv_eq 20 (fun H z => by kernel_rfl)
noncomputable def tJ153_6 (x0 : Int) (x1 : Tab) : Tr (Int) :=
  .cond (decide (x0 < ((x1.cl).length : Int)))
  (.cond (ib x0 x1.cl)
    (.cond ((V199 x1 (nth .cell x1.cl x0)).isSome)
      (.cond (!(decide ((F199 x1 (nth .cell x1.cl x0)) = 0)))
        (.some (F199 x1 (nth .cell x1.cl x0)))
        (.cond (decide (0 < x0))
          (.cond (inR .i64 (x0 - 1))
            (.cond (ib (x0 - 1) x1.cl)
              (.cond (ib x0 x1.cl)
                (.cond ((V217 (nth .cell x1.cl (x0 - 1)) (nth .cell x1.cl x0)).isSome)
                  (.cond (!(F217 (nth .cell x1.cl (x0 - 1)) (nth .cell x1.cl x0)))
                    (.go J153_12)
                    (.go (J153_7 x0 x1)))
                  (.none))
                (.none))
              (.none))
            (.none))
          (.go (J153_7 x0 x1))))
      (.none))
    (.none))
  (.some 0)
theorem eJ153_6 (x0 : Int) (x1 : Tab) : lv cd153 C153 (J153_6 x0 x1) = (tJ153_6 x0 x1).val cd153 C153 := Tr.lv_eq 29 (fun H z => by kernel_rfl)
noncomputable def tJ153_12 : Tr (Int) :=
  .some 5
theorem eJ153_12 : lv cd153 C153 (J153_12) = (tJ153_12).val cd153 C153 := Tr.lv_eq 6 (fun H z => by kernel_rfl)
noncomputable def tJ153_7 (x0 : Int) (x1 : Tab) : Tr (Int) :=
  .cond (inR .i64 (x0 + 1))
  (.go (J153_6 (x0 + 1) x1))
  (.none)
theorem eJ153_7 (x0 : Int) (x1 : Tab) : lv cd153 C153 (J153_7 x0 x1) = (tJ153_7 x0 x1).val cd153 C153 := Tr.lv_eq 11 (fun H z => by kernel_rfl)
noncomputable def V153 (x0 : Tab) : Option (Int) := vlim cd153 (S153 x0)
noncomputable def F153 (x0 : Tab) : Int := (V153 x0).getD default
noncomputable def G153 : GE := mkG [(0, some 2, .cell)] (cod29.a (.nil)) (fun x => V153 x.1) cd153
theorem ge153 : GeOk 153 G153 := ge_mk (C := C153) (base_ok (.cons ge199 (.cons ge217 .nil)) (.cons c153 .nil) .nil) rfl c153 (fun _ => rfl) (by kernel_rfl)
theorem c187 : CdOk 187 Tryz.f187 := ⟨by kernel_rfl, by kernel_rfl⟩
noncomputable def b187 (n p : Nat) : Code := bp n p (bodyA Tryz.f187)
noncomputable def C187 : Cfg := base [] [(187, Tryz.f187)] [(187, [(2, { drop := rs [(2, 1), (4, 52)], nt := [], nb := [] }), (3, { drop := rs [(2, 1), (4, 52)], nt := [], nb := [] }), (5, { drop := rs [(0, 1), (2, 54)], nt := [], nb := [] }), (6, { drop := rs [(2, 1), (4, 52)], nt := [], nb := [] }), (7, { drop := rs [(0, 1), (2, 54)], nt := [], nb := [] })])] [] [] [] []
noncomputable def S187 (x0 : List Spot) (n : Nat) : Option AV := startK C187 n 187 Tryz.f187 [.sl .spot x0 .none]
noncomputable def J187_2 (x0 : List Spot) (x1 : Int) : St := ⟨3, ⟨187, ap [.sl .spot x0 .none, .undef, .undef, .int .i64 x1] (un 52), nb 56, [.code (b187 7 5), .code (b187 7 69), .code (b187 6 37), .inLoop (b187 5 5), .inBlock 0, .code (b187 2 3)]⟩, []⟩
noncomputable def J187_5 : St := ⟨6, ⟨187, un 56, nb 56, [.code (b187 12 549), .code (b187 12 2597), .code (b187 9 293), .inBlock 1, .code (b187 7 101), .inLoop (b187 5 5), .inBlock 0, .code (b187 2 3)]⟩, []⟩
noncomputable def J187_6 (x0 : List Spot) (x1 : Int) : St := ⟨7, ⟨187, ap [.sl .spot x0 .none, .undef, .undef, .int .i64 x1] (un 52), nb 56, [.code (b187 10 293), .code (b187 10 805), .inBlock 1, .code (b187 7 101), .inLoop (b187 5 5), .inBlock 0, .code (b187 2 3)]⟩, []⟩
noncomputable def J187_7 : St := ⟨8, ⟨187, un 56, nb 56, [.code (b187 12 805), .code (b187 12 2853), .inBlock 1, .code (b187 7 101), .inLoop (b187 5 5), .inBlock 0, .code (b187 2 3)]⟩, []⟩
noncomputable def J187_3 (x0 : List Spot) (x1 : Int) : St := ⟨4, ⟨187, ap [.sl .spot x0 .none, .undef, .undef, .int .i64 x1] (un 52), nb 56, [.code (b187 7 101), .inLoop (b187 5 5), .inBlock 0, .code (b187 2 3)]⟩, []⟩
noncomputable abbrev cd187 : Cod (Int) := codI
noncomputable def tS187 (x0 : List Spot) : Tr (Int) :=
  .go (J187_2 x0 0)
theorem eS187 (x0 : List Spot) : vlim cd187 (S187 x0) = (tS187 x0).val cd187 C187 := Tr.val_eq 16 (fun H z => by kernel_rfl)
noncomputable def tJ187_2 (x0 : List Spot) (x1 : Int) : Tr (Int) :=
  .cond (decide (x1 < ((x0).length : Int)))
  (.cond (ib x1 x0)
    (.cond (decide (((nth .spot x0 x1).sslot) < 0))
      (.go J187_5)
      (.cond (ib x1 x0)
        (.cond (decide (512 ≤ ((nth .spot x0 x1).sslot)))
          (.go J187_5)
          (.cond (ib x1 x0)
            (.cond (decide (((nth .spot x0 x1).soffset) < 0))
              (.go J187_5)
              (.cond (ib x1 x0)
                (.cond (decide (16 ≤ ((nth .spot x0 x1).soffset)))
                  (.go J187_5)
                  (.go (J187_6 x0 x1)))
                (.none)))
            (.none)))
        (.none)))
    (.none))
  (.some 0)
theorem eJ187_2 (x0 : List Spot) (x1 : Int) : lv cd187 C187 (J187_2 x0 x1) = (tJ187_2 x0 x1).val cd187 C187 := Tr.lv_eq 50 (fun H z => by kernel_rfl)
noncomputable def tJ187_5 : Tr (Int) :=
  .some 2
theorem eJ187_5 : lv cd187 C187 (J187_5) = (tJ187_5).val cd187 C187 := Tr.lv_eq 6 (fun H z => by kernel_rfl)
noncomputable def tJ187_6 (x0 : List Spot) (x1 : Int) : Tr (Int) :=
  .cond (decide (0 < x1))
  (.cond (inR .i64 (x1 - 1))
    (.cond (ib (x1 - 1) x0)
      (.cond (ib x1 x0)
        (.cond (decide (((nth .spot x0 x1).sslot) ≤ ((nth .spot x0 (x1 - 1)).sslot)))
          (.go J187_7)
          (.go (J187_3 x0 x1)))
        (.none))
      (.none))
    (.none))
  (.go (J187_3 x0 x1))
theorem eJ187_6 (x0 : List Spot) (x1 : Int) : lv cd187 C187 (J187_6 x0 x1) = (tJ187_6 x0 x1).val cd187 C187 := Tr.lv_eq 7 (fun H z => by kernel_rfl)
noncomputable def tJ187_7 : Tr (Int) :=
  .some 5
theorem eJ187_7 : lv cd187 C187 (J187_7) = (tJ187_7).val cd187 C187 := Tr.lv_eq 6 (fun H z => by kernel_rfl)
noncomputable def tJ187_3 (x0 : List Spot) (x1 : Int) : Tr (Int) :=
  .cond (inR .i64 (x1 + 1))
  (.go (J187_2 x0 (x1 + 1)))
  (.none)
theorem eJ187_3 (x0 : List Spot) (x1 : Int) : lv cd187 C187 (J187_3 x0 x1) = (tJ187_3 x0 x1).val cd187 C187 := Tr.lv_eq 11 (fun H z => by kernel_rfl)
noncomputable def V187 (x0 : List Spot) : Option (Int) := vlim cd187 (S187 x0)
noncomputable def F187 (x0 : List Spot) : Int := (V187 x0).getD default
noncomputable def G187 : GE := mkG [(0, none, .spot)] ((codS .spot).a (.nil)) (fun x => V187 x.1) cd187
theorem ge187 : GeOk 187 G187 := ge_mk (C := C187) (base_ok .nil (.cons c187 .nil) .nil) rfl c187 (fun _ => rfl) (by kernel_rfl)
theorem c188 : CdOk 188 Tryz.f188 := ⟨by kernel_rfl, by kernel_rfl⟩
noncomputable def b188 (n p : Nat) : Code := bp n p (bodyA Tryz.f188)
noncomputable def C188 : Cfg := base [] [(188, Tryz.f188)] [(188, [(2, { drop := rs [(0, 153)], nt := [], nb := [] }), (3, { drop := rs [(0, 1), (2, 151)], nt := [], nb := [] })])] [] [] [] []
noncomputable def S188 (x0 : Msg) (n : Nat) : Option AV := startK C188 n 188 Tryz.f188 [.agg (enc25 x0)]
noncomputable def J188_2 : St := ⟨3, ⟨188, un 153, nb 153, [.code (b188 5 5), .code (b188 5 21), .code (b188 2 3)]⟩, []⟩
noncomputable def J188_3 (x0 : Msg) : St := ⟨4, ⟨188, ap [.undef, .ptr 0 1 0] (un 151), aq [[], (enc25 x0)] (nb 151), [.code (b188 3 3), .code (b188 3 7)]⟩, []⟩
noncomputable abbrev cd188 : Cod (Bool) := codB
noncomputable def tS188 (x0 : Msg) : Tr (Bool) :=
  .cond (!x0.rep)
  (.cond (!(decide (x0.code = 0)))
    (.go J188_2)
    (.go (J188_3 x0)))
  (.go (J188_3 x0))
theorem eS188 (x0 : Msg) : vlim cd188 (S188 x0) = (tS188 x0).val cd188 C188 := Tr.val_eq 23 (fun H z => by kernel_rfl)
noncomputable def tJ188_2 : Tr (Bool) :=
  .some false
theorem eJ188_2 : lv cd188 C188 (J188_2) = (tJ188_2).val cd188 C188 := Tr.lv_eq 6 (fun H z => by kernel_rfl)
noncomputable def tJ188_3 (x0 : Msg) : Tr (Bool) :=
  .cond (!(decide (x0.code = 0)))
  (.cond (decide (x0.cnt = 0))
    (.cond (decide (((x0.sp).length : Int) = 0))
      (.some (decide (((x0.old).length : Int) = 0)))
      (.some false))
    (.some false))
  (.cond (decide (x0.kind = 1))
    (.cond (decide (((x0.old).length : Int) = 0))
      (.cond (decide (1 ≤ x0.cnt))
        (.cond (decide (x0.cnt ≤ 8))
          (.cond (decide (x0.cnt = ((x0.sp).length : Int)))
            (.some true)
            (.cond (!x0.rep)
              (.some (decide (x0.cnt < ((x0.sp).length : Int))))
              (.some false)))
          (.some false))
        (.some false))
      (.some false))
    (.cond (decide (x0.kind = 2))
      (.cond (decide (((x0.sp).length : Int) = 0))
        (.cond (decide (1 ≤ ((x0.old).length : Int)))
          (.some (decide (x0.cnt = ((x0.old).length : Int))))
          (.some false))
        (.some false))
      (.cond (decide (x0.kind = 3))
        (.cond (decide (1 ≤ ((x0.old).length : Int)))
          (.cond (decide (x0.cnt = ((x0.old).length : Int)))
            (.cond (decide (((x0.sp).length : Int) = ((x0.old).length : Int)))
              (.some true)
              (.cond (!x0.rep)
                (.some (decide (((x0.old).length : Int) < ((x0.sp).length : Int))))
                (.some false)))
            (.some false))
          (.some false))
        (.cond (decide (x0.kind = 4))
          (.cond (decide (((x0.sp).length : Int) = 0))
            (.cond (decide (((x0.old).length : Int) = 0))
              (.cond x0.rep
                (.some true)
                (.some (decide (x0.cnt = 0))))
              (.some false))
            (.some false))
          (.cond (decide (x0.kind = 5))
            (.cond (decide (((x0.old).length : Int) = 0))
              (.cond x0.rep
                (.some (decide (((x0.sp).length : Int) = (minI 8 x0.cnt))))
                (.cond (decide (x0.cnt = 0))
                  (.some (decide (((x0.sp).length : Int) = (minI 8 x0.cnt))))
                  (.some false)))
              (.some false))
            (.cond (decide (((x0.sp).length : Int) = 0))
              (.cond (decide (((x0.old).length : Int) = 0))
                (.some (decide (x0.cnt = 0)))
                (.some false))
              (.some false)))))))
theorem eJ188_3 (x0 : Msg) : lv cd188 C188 (J188_3 x0) = (tJ188_3 x0).val cd188 C188 := Tr.lv_eq 72 (fun H z => by kernel_rfl)
noncomputable def V188 (x0 : Msg) : Option (Bool) := vlim cd188 (S188 x0)
noncomputable def F188 (x0 : Msg) : Bool := (V188 x0).getD default
noncomputable def G188 : GE := mkG [(0, some 5, .spot), (0, some 6, .spot)] (cod25.a (.nil)) (fun x => V188 x.1) cd188
theorem ge188 : GeOk 188 G188 := ge_mk (C := C188) (base_ok .nil (.cons c188 .nil) .nil) rfl c188 (fun _ => rfl) (by kernel_rfl)
theorem c108 : CdOk 108 Tryz.f108 := ⟨by kernel_rfl, by kernel_rfl⟩
noncomputable def b108 (n p : Nat) : Code := bp n p (bodyA Tryz.f108)
noncomputable def C108 : Cfg := base [(187, G187), (188, G188)] [(108, Tryz.f108)] [(108, [(2, { drop := rs [(0, 66)], nt := [], nb := [] }), (3, { drop := rs [(0, 1), (2, 64)], nt := [], nb := [] }), (4, { drop := rs [(0, 66)], nt := [], nb := [] }), (5, { drop := rs [(0, 1), (2, 64)], nt := [], nb := [] }), (6, { drop := rs [(0, 66)], nt := [], nb := [] }), (7, { drop := rs [(0, 1), (2, 64)], nt := [], nb := [] })])] [] [] [] []
noncomputable def S108 (x0 : Msg) (n : Nat) : Option AV := startK C108 n 108 Tryz.f108 [.agg (enc25 x0)]
noncomputable def J108_2 : St := ⟨3, ⟨108, un 66, nb 66, [.code (b108 5 5), .code (b108 5 21), .code (b108 2 3)]⟩, []⟩
noncomputable def J108_3 (x0 : Msg) : St := ⟨4, ⟨108, ap [.undef, .ptr 0 1 0] (un 64), aq [[], (enc25 x0)] (nb 64), [.code (b108 4 3), .code (b108 4 11), .code (b108 3 7)]⟩, []⟩
noncomputable def J108_4 : St := ⟨5, ⟨108, un 66, nb 66, [.code (b108 6 11), .code (b108 6 43), .code (b108 3 7)]⟩, []⟩
noncomputable def J108_5 (x0 : Msg) : St := ⟨6, ⟨108, ap [.undef, .ptr 0 1 0] (un 64), aq [[], (enc25 x0)] (nb 64), [.code (b108 5 7), .code (b108 5 23), .code (b108 4 15)]⟩, []⟩
noncomputable def J108_6 : St := ⟨7, ⟨108, un 66, nb 66, [.code (b108 7 23), .code (b108 7 87), .code (b108 4 15)]⟩, []⟩
noncomputable def J108_7 (x0 : Msg) : St := ⟨8, ⟨108, ap [.undef, .ptr 0 1 0] (un 64), aq [[], (enc25 x0)] (nb 64), [.code (b108 6 15), .code (b108 6 47), .code (b108 5 31)]⟩, []⟩
noncomputable abbrev cd108 : Cod (Int) := codI
noncomputable def tS108 (x0 : Msg) : Tr (Int) :=
  .cond (decide (x0.kind < 1))
  (.go J108_2)
  (.cond (decide (6 < x0.kind))
    (.go J108_2)
    (.go (J108_3 x0)))
theorem eS108 (x0 : Msg) : vlim cd108 (S108 x0) = (tS108 x0).val cd108 C108 := Tr.val_eq 24 (fun H z => by kernel_rfl)
noncomputable def tJ108_2 : Tr (Int) :=
  .some 1
theorem eJ108_2 : lv cd108 C108 (J108_2) = (tJ108_2).val cd108 C108 := Tr.lv_eq 6 (fun H z => by kernel_rfl)
noncomputable def tJ108_3 (x0 : Msg) : Tr (Int) :=
  .cond (decide (x0.num < 0))
  (.go J108_4)
  (.cond (decide (255 < x0.num))
    (.go J108_4)
    (.cond (decide (x0.code < 0))
      (.go J108_4)
      (.cond (decide (3 < x0.code))
        (.go J108_4)
        (.cond (decide (x0.cnt < 0))
          (.go J108_4)
          (.cond (decide (512 < x0.cnt))
            (.go J108_4)
            (.go (J108_5 x0)))))))
theorem eJ108_3 (x0 : Msg) : lv cd108 C108 (J108_3 x0) = (tJ108_3 x0).val cd108 C108 := Tr.lv_eq 37 (fun H z => by kernel_rfl)
noncomputable def tJ108_4 : Tr (Int) :=
  .some 2
theorem eJ108_4 : lv cd108 C108 (J108_4) = (tJ108_4).val cd108 C108 := Tr.lv_eq 6 (fun H z => by kernel_rfl)
noncomputable def tJ108_5 (x0 : Msg) : Tr (Int) :=
  .cond (decide (8 < ((x0.sp).length : Int)))
  (.go J108_6)
  (.cond (decide (8 < ((x0.old).length : Int)))
    (.go J108_6)
    (.go (J108_7 x0)))
theorem eJ108_5 (x0 : Msg) : lv cd108 C108 (J108_5 x0) = (tJ108_5 x0).val cd108 C108 := Tr.lv_eq 19 (fun H z => by kernel_rfl)
noncomputable def tJ108_6 : Tr (Int) :=
  .some 8
theorem eJ108_6 : lv cd108 C108 (J108_6) = (tJ108_6).val cd108 C108 := Tr.lv_eq 6 (fun H z => by kernel_rfl)
noncomputable def tJ108_7 (x0 : Msg) : Tr (Int) :=
  .cond ((V187 x0.sp).isSome)
  (.cond (!(decide ((F187 x0.sp) = 0)))
    (.some (F187 x0.sp))
    (.cond ((V187 x0.old).isSome)
      (.cond (!(decide ((F187 x0.old) = 0)))
        (.some (F187 x0.old))
        (.cond ((V188 x0).isSome)
          (.cond (!(F188 x0))
            (.some 11)
            (.some 0))
          (.none)))
      (.none)))
  (.none)
theorem eJ108_7 (x0 : Msg) : lv cd108 C108 (J108_7 x0) = (tJ108_7 x0).val cd108 C108 := Tr.lv_eq 44 (fun H z => by kernel_rfl)
noncomputable def V108 (x0 : Msg) : Option (Int) := vlim cd108 (S108 x0)
noncomputable def F108 (x0 : Msg) : Int := (V108 x0).getD default
noncomputable def G108 : GE := mkG [(0, some 5, .spot), (0, some 6, .spot)] (cod25.a (.nil)) (fun x => V108 x.1) cd108
theorem ge108 : GeOk 108 G108 := ge_mk (C := C108) (base_ok (.cons ge187 (.cons ge188 .nil)) (.cons c108 .nil) .nil) rfl c108 (fun _ => rfl) (by kernel_rfl)
theorem c163 : CdOk 163 Tryz.f163 := ⟨by kernel_rfl, by kernel_rfl⟩
noncomputable def b163 (n p : Nat) : Code := bp n p (bodyA Tryz.f163)
noncomputable def C163 : Cfg := base [] [(163, Tryz.f163)] [(163, [(3, { drop := rs [(0, 1), (2, 1), (5, 30)], nt := [(3, .spot, 33)], nb := [] }), (4, { drop := rs [(0, 1), (2, 1), (5, 30)], nt := [(3, .spot, 33)], nb := [] })])] [] [] [(0, none, .spot)] []
noncomputable def S163 (x0 : End) (n : Nat) : Option AV := startK C163 n 163 Tryz.f163 [.agg (enc27 x0)]
noncomputable def J163_3 (x0 : List Spot) (x1 : Int) (x2 : End) : St := ⟨4, ⟨163, ap [.undef, .ptr 0 1 0, .undef, .sl .spot x0 (.lab 33), .int .i64 x1] (un 30), aq [[], (enc27 x2)] (nb 33), [.code (b163 8 11), .code (b163 8 139), .code (b163 7 75), .inLoop (b163 6 11), .inBlock 0, .code (b163 3 7)]⟩, []⟩
noncomputable def J163_4 (x0 : List Spot) (x1 : Int) (x2 : End) : St := ⟨5, ⟨163, ap [.undef, .ptr 0 1 0, .undef, .sl .spot x0 (.lab 33), .int .i64 x1] (un 30), aq [[], (enc27 x2)] (nb 33), [.code (b163 8 203), .inLoop (b163 6 11), .inBlock 0, .code (b163 3 7)]⟩, []⟩
noncomputable abbrev cd163 : Cod (List Spot) := (codS .spot)
noncomputable def tS163 (x0 : End) : Tr (List Spot) :=
  .go (J163_3 ([] : List Spot) 0 x0)
theorem eS163 (x0 : End) : vlim cd163 (S163 x0) = (tS163 x0).val cd163 C163 := Tr.val_eq 21 (fun H z => by kernel_rfl)
noncomputable def tJ163_3 (x0 : List Spot) (x1 : Int) (x2 : End) : Tr (List Spot) :=
  .cond (decide (x1 < ((x2.cl).length : Int)))
  (.cond (ib x1 x2.cl)
    (.cond ((nth .cell x2.cl x1).send)
      (.cond (ib x1 x2.cl)
        (.cond (ib x1 x2.cl)
          (.cond (il x0 ([(⟨(nth .cell x2.cl x1).slot, (nth .cell x2.cl x1).offset⟩ : Spot)] : List Spot) 16)
            (.go (J163_4 (x0 ++ ([(⟨(nth .cell x2.cl x1).slot, (nth .cell x2.cl x1).offset⟩ : Spot)] : List Spot)) x1 x2))
            (.none))
          (.none))
        (.none))
      (.go (J163_4 x0 x1 x2)))
    (.none))
  (.some x0)
theorem eJ163_3 (x0 : List Spot) (x1 : Int) (x2 : End) : lv cd163 C163 (J163_3 x0 x1 x2) = (tJ163_3 x0 x1 x2).val cd163 C163 := Tr.lv_eq 26 (fun H z => by kernel_rfl)
noncomputable def tJ163_4 (x0 : List Spot) (x1 : Int) (x2 : End) : Tr (List Spot) :=
  .cond (inR .i64 (x1 + 1))
  (.go (J163_3 x0 (x1 + 1) x2))
  (.none)
theorem eJ163_4 (x0 : List Spot) (x1 : Int) (x2 : End) : lv cd163 C163 (J163_4 x0 x1 x2) = (tJ163_4 x0 x1 x2).val cd163 C163 := Tr.lv_eq 11 (fun H z => by kernel_rfl)
noncomputable def V163 (x0 : End) : Option (List Spot) := vlim cd163 (S163 x0)
noncomputable def F163 (x0 : End) : List Spot := (V163 x0).getD default
noncomputable def G163 : GE := mkG [(0, some 3, .cell), (0, some 11, .spot), (0, some 12, .spot), (0, some 19, .spot), (0, some 20, .spot), (0, some 26, .spot), (0, some 27, .spot)] (cod27.a (.nil)) (fun x => V163 x.1) cd163
theorem ge163 : GeOk 163 G163 := ge_mk (C := C163) (base_ok .nil (.cons c163 .nil) .nil) rfl c163 (fun _ => rfl) (by kernel_rfl)
theorem c154 : CdOk 154 Tryz.f154 := ⟨by kernel_rfl, by kernel_rfl⟩
noncomputable def b154 (n p : Nat) : Code := bp n p (bodyA Tryz.f154)
noncomputable def C154 : Cfg := base [(108, G108), (162, G162), (163, G163)] [(154, Tryz.f154)] [(154, [(3, { drop := rs [(0, 68)], nt := [], nb := [] }), (4, { drop := rs [(0, 1), (2, 1), (4, 64)], nt := [], nb := [] }), (6, { drop := rs [(0, 1), (2, 1), (6, 62)], nt := [], nb := [] }), (11, { drop := rs [(0, 1), (2, 1), (4, 2), (7, 61)], nt := [], nb := [] }), (14, { drop := rs [(0, 1), (2, 1), (4, 2), (8, 60)], nt := [], nb := [] })])] [] [] [] []
noncomputable def S154 (x0 : End) (n : Nat) : Option AV := startK C154 n 154 Tryz.f154 [.agg (enc27 x0)]
noncomputable def J154_3 : St := ⟨4, ⟨154, un 68, nb 68, [.code (b154 6 11), .code (b154 6 43), .code (b154 3 7)]⟩, []⟩
noncomputable def J154_4 (x0 : End) (x1 : Msg) : St := ⟨5, ⟨154, ap [.undef, .ptr 0 1 0, .undef, .ptr 0 3 0] (un 64), aq [[], (enc27 x0), [], (enc25 x1)] (nb 64), [.code (b154 4 7), .code (b154 4 15)]⟩, []⟩
noncomputable def J154_6 (x0 : List Spot) (x1 : Int) (x2 : End) (x3 : Msg) : St := ⟨7, ⟨154, ap [.undef, .ptr 0 1 0, .undef, .ptr 0 3 0, .sl .spot x0 .none, .int .i64 x1] (un 62), aq [[], (enc27 x2), [], (enc25 x3)] (nb 64), [.code (b154 10 47), .code (b154 10 559), .code (b154 9 303), .inLoop (b154 8 47), .inBlock 0, .code (b154 5 31)]⟩, []⟩
noncomputable def J154_11 (x0 : Int) (x1 : End) (x2 : Msg) : St := ⟨12, ⟨154, ap [.undef, .ptr 0 1 0, .undef, .ptr 0 3 0, .undef, .undef, .int .i64 x0] (un 61), aq [[], (enc27 x1), [], (enc25 x2)] (nb 64), [.code (b154 11 95), .code (b154 11 1119), .code (b154 10 607), .inLoop (b154 9 95), .inBlock 2, .code (b154 6 63)]⟩, []⟩
noncomputable def J154_14 (x0 x1 : Int) (x2 : End) (x3 : Msg) : St := ⟨15, ⟨154, ap [.undef, .ptr 0 1 0, .undef, .ptr 0 3 0, .undef, .undef, .int .i64 x0, .int .i64 x1] (un 60), aq [[], (enc27 x2), [], (enc25 x3)] (nb 64), [.code (b154 17 4703), .code (b154 17 70239), .code (b154 16 37471), .inLoop (b154 15 4703), .inBlock 4, .inBlock 3, .code (b154 11 1631), .inLoop (b154 9 95), .inBlock 2, .code (b154 6 63)]⟩, []⟩
noncomputable abbrev cd154 : Cod (Bool) := codB
noncomputable def tS154 (x0 : End) : Tr (Bool) :=
  .cond ((V108 x0.ask).isSome)
  (.cond (!(decide ((F108 x0.ask) = 0)))
    (.go J154_3)
    (.cond x0.ask.rep
      (.go J154_3)
      (.cond (!(decide (x0.ask.num = x0.num)))
        (.go J154_3)
        (.go (J154_4 x0 x0.ask)))))
  (.none)
theorem eS154 (x0 : End) : vlim cd154 (S154 x0) = (tS154 x0).val cd154 C154 := Tr.val_eq 36 (fun H z => by kernel_rfl)
noncomputable def tJ154_3 : Tr (Bool) :=
  .some false
theorem eJ154_3 : lv cd154 C154 (J154_3) = (tJ154_3).val cd154 C154 := Tr.lv_eq 6 (fun H z => by kernel_rfl)
noncomputable def tJ154_4 (x0 : End) (x1 : Msg) : Tr (Bool) :=
  .cond ((V163 x0).isSome)
  (.go (J154_6 (F163 x0) 0 x0 x1))
  (.none)
theorem eJ154_4 (x0 : End) (x1 : Msg) : lv cd154 C154 (J154_4 x0 x1) = (tJ154_4 x0 x1).val cd154 C154 := Tr.lv_eq 17 (fun H z => by kernel_rfl)
noncomputable def tJ154_6 (x0 : List Spot) (x1 : Int) (x2 : End) (x3 : Msg) : Tr (Bool) :=
  .cond (decide (x1 < ((x3.old).length : Int)))
  (.cond (ib x1 x3.old)
    (.cond ((V162 x0 (nth .spot x3.old x1)).isSome)
      (.cond (!(F162 x0 (nth .spot x3.old x1)))
        (.some false)
        (.cond (inR .i64 (x1 + 1))
          (.go (J154_6 x0 (x1 + 1) x2 x3))
          (.none)))
      (.none))
    (.none))
  (.go (J154_11 0 x2 x3))
theorem eJ154_6 (x0 : List Spot) (x1 : Int) (x2 : End) (x3 : Msg) : lv cd154 C154 (J154_6 x0 x1 x2 x3) = (tJ154_6 x0 x1 x2 x3).val cd154 C154 := Tr.lv_eq 36 (fun H z => by kernel_rfl)
noncomputable def tJ154_11 (x0 : Int) (x1 : End) (x2 : Msg) : Tr (Bool) :=
  .cond (decide (x0 < ((x2.sp).length : Int)))
  (.go (J154_14 x0 0 x1 x2))
  (.some true)
theorem eJ154_11 (x0 : Int) (x1 : End) (x2 : Msg) : lv cd154 C154 (J154_11 x0 x1 x2) = (tJ154_11 x0 x1 x2).val cd154 C154 := Tr.lv_eq 22 (fun H z => by kernel_rfl)
noncomputable def tJ154_14 (x0 x1 : Int) (x2 : End) (x3 : Msg) : Tr (Bool) :=
  .cond (decide (x1 < ((x2.cl).length : Int)))
  (.cond (ib x1 x2.cl)
    (.cond (ib x0 x3.sp)
      (.cond (decide (((nth .cell x2.cl x1).slot) = ((nth .spot x3.sp x0).sslot)))
        (.some false)
        (.cond (inR .i64 (x1 + 1))
          (.go (J154_14 x0 (x1 + 1) x2 x3))
          (.none)))
      (.none))
    (.none))
  (.cond (inR .i64 (x0 + 1))
    (.go (J154_11 (x0 + 1) x2 x3))
    (.none))
theorem eJ154_14 (x0 x1 : Int) (x2 : End) (x3 : Msg) : lv cd154 C154 (J154_14 x0 x1 x2 x3) = (tJ154_14 x0 x1 x2 x3).val cd154 C154 := Tr.lv_eq 27 (fun H z => by kernel_rfl)
noncomputable def V154 (x0 : End) : Option (Bool) := vlim cd154 (S154 x0)
noncomputable def F154 (x0 : End) : Bool := (V154 x0).getD default
noncomputable def G154 : GE := mkG [(0, some 3, .cell), (0, some 11, .spot), (0, some 12, .spot), (0, some 19, .spot), (0, some 20, .spot), (0, some 26, .spot), (0, some 27, .spot)] (cod27.a (.nil)) (fun x => V154 x.1) cd154
theorem ge154 : GeOk 154 G154 := ge_mk (C := C154) (base_ok (.cons ge108 (.cons ge162 (.cons ge163 .nil))) (.cons c154 .nil) .nil) rfl c154 (fun _ => rfl) (by kernel_rfl)
theorem c155 : CdOk 155 Tryz.f155 := ⟨by kernel_rfl, by kernel_rfl⟩
noncomputable def C155 : Cfg := base [(31, G31)] [(155, Tryz.f155)] [(155, [])] [] [] [] []
noncomputable def S155 (x0 : Msg) (n : Nat) : Option AV := startK C155 n 155 Tryz.f155 [.agg (enc25 x0)]
noncomputable abbrev cd155 : Cod (Bool) := codB
noncomputable def tS155 (x0 : Msg) : Tr (Bool) :=
  .cond ((V31 x0 (⟨0, false, 0, 0, 0, ([] : List Spot), ([] : List Spot)⟩ : Msg)).isSome)
  (.some (F31 x0 (⟨0, false, 0, 0, 0, ([] : List Spot), ([] : List Spot)⟩ : Msg)))
  (.none)
theorem eS155 (x0 : Msg) : vlim cd155 (S155 x0) = (tS155 x0).val cd155 C155 := Tr.val_eq 15 (fun H z => by kernel_rfl)
noncomputable def V155 (x0 : Msg) : Option (Bool) := vlim cd155 (S155 x0)
noncomputable def F155 (x0 : Msg) : Bool := (V155 x0).getD default
noncomputable def G155 : GE := mkG [(0, some 5, .spot), (0, some 6, .spot)] (cod25.a (.nil)) (fun x => V155 x.1) cd155
theorem ge155 : GeOk 155 G155 := ge_mk (C := C155) (base_ok (.cons ge31 .nil) (.cons c155 .nil) .nil) rfl c155 (fun _ => rfl) (by kernel_rfl)
theorem c136 : CdOk 136 Tryz.f136 := ⟨by kernel_rfl, by kernel_rfl⟩
noncomputable def b136 (n p : Nat) : Code := bp n p (bodyA Tryz.f136)
noncomputable def C136 : Cfg := base [(162, G162)] [(136, Tryz.f136)] [(136, [(2, { drop := rs [(4, 1), (6, 13)], nt := [], nb := [] })])] [] [] [] []
noncomputable def S136 (x0 x1 : List Spot) (n : Nat) : Option AV := startK C136 n 136 Tryz.f136 [.sl .spot x0 .none, .sl .spot x1 .none]
noncomputable def J136_2 (x0 x1 : List Spot) (x2 : Int) : St := ⟨3, ⟨136, ap [.sl .spot x0 .none, .sl .spot x1 .none] (ap (un 3) (ap [.int .i64 x2] (un 13))), nb 19, [.code (b136 7 5), .code (b136 7 69), .code (b136 6 37), .inLoop (b136 5 5), .inBlock 0, .code (b136 2 3)]⟩, []⟩
noncomputable abbrev cd136 : Cod (Bool) := codB
noncomputable def tS136 (x0 x1 : List Spot) : Tr (Bool) :=
  .go (J136_2 x0 x1 0)
theorem eS136 (x0 x1 : List Spot) : vlim cd136 (S136 x0 x1) = (tS136 x0 x1).val cd136 C136 := Tr.val_eq 16 (fun H z => by kernel_rfl)
noncomputable def tJ136_2 (x0 x1 : List Spot) (x2 : Int) : Tr (Bool) :=
  .cond (decide (x2 < ((x0).length : Int)))
  (.cond (ib x2 x0)
    (.cond ((V162 x1 (nth .spot x0 x2)).isSome)
      (.cond (!(F162 x1 (nth .spot x0 x2)))
        (.some false)
        (.cond (inR .i64 (x2 + 1))
          (.go (J136_2 x0 x1 (x2 + 1)))
          (.none)))
      (.none))
    (.none))
  (.some true)
theorem eJ136_2 (x0 x1 : List Spot) (x2 : Int) : lv cd136 C136 (J136_2 x0 x1 x2) = (tJ136_2 x0 x1 x2).val cd136 C136 := Tr.lv_eq 34 (fun H z => by kernel_rfl)
noncomputable def V136 (x0 x1 : List Spot) : Option (Bool) := vlim cd136 (S136 x0 x1)
noncomputable def F136 (x0 x1 : List Spot) : Bool := (V136 x0 x1).getD default
noncomputable def G136 : GE := mkG [(0, none, .spot), (1, none, .spot)] ((codS .spot).a ((codS .spot).a (.nil))) (fun x => V136 x.1 x.2.1) cd136
theorem ge136 : GeOk 136 G136 := ge_mk (C := C136) (base_ok (.cons ge162 .nil) (.cons c136 .nil) .nil) rfl c136 (fun _ => rfl) (by kernel_rfl)
theorem c40 : CdOk 40 Tryz.f40 := ⟨by kernel_rfl, by kernel_rfl⟩
noncomputable def b40 (n p : Nat) : Code := bp n p (bodyA Tryz.f40)
noncomputable def C40 : Cfg := base [(108, G108), (136, G136)] [(40, Tryz.f40)] [(40, [(2, { drop := rs [(0, 79)], nt := [], nb := [] }), (3, { drop := rs [(0, 2), (4, 75)], nt := [], nb := [] }), (8, { drop := rs [(0, 2), (4, 75)], nt := [], nb := [] }), (9, { drop := rs [(0, 2), (4, 36), (41, 38)], nt := [], nb := [] })])] [] [] [] []
noncomputable def S40 (x0 x1 : Msg) (n : Nat) : Option AV := startK C40 n 40 Tryz.f40 [.agg (enc25 x0), .agg (enc25 x1)]
noncomputable def J40_2 : St := ⟨3, ⟨40, un 79, nb 79, [.code (b40 5 5), .code (b40 5 21), .code (b40 2 3)]⟩, []⟩
noncomputable def J40_3 (x0 x1 : Msg) : St := ⟨4, ⟨40, ap [.undef, .undef, .ptr 0 2 0, .ptr 0 3 0] (un 75), aq [[], [], (enc25 x0), (enc25 x1)] (nb 75), [.code (b40 4 3), .code (b40 4 11), .code (b40 3 7)]⟩, []⟩
noncomputable def J40_8 (x0 x1 : Msg) : St := ⟨9, ⟨40, ap [.undef, .undef, .ptr 0 2 0, .ptr 0 3 0] (un 75), aq [[], [], (enc25 x0), (enc25 x1)] (nb 75), [.code (b40 9 87), .code (b40 9 343), .inBlock 0, .code (b40 4 15)]⟩, []⟩
noncomputable def J40_9 (x0 : Int) (x1 x2 : Msg) : St := ⟨10, ⟨40, ap [.undef, .undef, .ptr 0 2 0, .ptr 0 3 0] (ap (un 36) (ap [.int .i64 x0] (un 38))), aq [[], [], (enc25 x1), (enc25 x2)] (nb 75), [.code (b40 9 215), .code (b40 9 471), .inBlock 0, .code (b40 4 15)]⟩, []⟩
noncomputable abbrev cd40 : Cod (Bool) := codB
noncomputable def tS40 (x0 x1 : Msg) : Tr (Bool) :=
  .cond ((V108 x0).isSome)
  (.cond (!(decide ((F108 x0) = 0)))
    (.go J40_2)
    (.cond ((V108 x1).isSome)
      (.cond (!(decide ((F108 x1) = 0)))
        (.go J40_2)
        (.cond x0.rep
          (.go J40_2)
          (.cond (!x1.rep)
            (.go J40_2)
            (.cond (!(decide (x0.kind = x1.kind)))
              (.go J40_2)
              (.cond (!(decide (x0.num = x1.num)))
                (.go J40_2)
                (.go (J40_3 x0 x1)))))))
      (.none)))
  (.none)
theorem eS40 (x0 x1 : Msg) : vlim cd40 (S40 x0 x1) = (tS40 x0 x1).val cd40 C40 := Tr.val_eq 48 (fun H z => by kernel_rfl)
noncomputable def tJ40_2 : Tr (Bool) :=
  .some false
theorem eJ40_2 : lv cd40 C40 (J40_2) = (tJ40_2).val cd40 C40 := Tr.lv_eq 6 (fun H z => by kernel_rfl)
noncomputable def tJ40_3 (x0 x1 : Msg) : Tr (Bool) :=
  .cond (!(decide (x1.code = 0)))
  (.some true)
  (.cond (decide (x1.kind = 1))
    (.go (J40_8 x0 x1))
    (.cond (decide (x1.kind = 3))
      (.go (J40_8 x0 x1))
      (.go (J40_9 x1.kind x0 x1))))
theorem eJ40_3 (x0 x1 : Msg) : lv cd40 C40 (J40_3 x0 x1) = (tJ40_3 x0 x1).val cd40 C40 := Tr.lv_eq 30 (fun H z => by kernel_rfl)
noncomputable def tJ40_8 (x0 x1 : Msg) : Tr (Bool) :=
  .cond (decide (x1.cnt ≤ x0.cnt))
  (.cond ((V136 x1.sp x0.sp).isSome)
    (.cond (F136 x1.sp x0.sp)
      (.cond ((V136 x1.old x0.old).isSome)
        (.some (F136 x1.old x0.old))
        (.none))
      (.some false))
    (.none))
  (.some false)
theorem eJ40_8 (x0 x1 : Msg) : lv cd40 C40 (J40_8 x0 x1) = (tJ40_8 x0 x1).val cd40 C40 := Tr.lv_eq 25 (fun H z => by kernel_rfl)
noncomputable def tJ40_9 (x0 : Int) (x1 x2 : Msg) : Tr (Bool) :=
  .cond (decide (x0 = 2))
  (.cond (decide (((x2.old).length : Int) = ((x1.old).length : Int)))
    (.cond ((V136 x2.old x1.old).isSome)
      (.some (F136 x2.old x1.old))
      (.none))
    (.some false))
  (.some true)
theorem eJ40_9 (x0 : Int) (x1 x2 : Msg) : lv cd40 C40 (J40_9 x0 x1 x2) = (tJ40_9 x0 x1 x2).val cd40 C40 := Tr.lv_eq 26 (fun H z => by kernel_rfl)
noncomputable def V40 (x0 x1 : Msg) : Option (Bool) := vlim cd40 (S40 x0 x1)
noncomputable def F40 (x0 x1 : Msg) : Bool := (V40 x0 x1).getD default
noncomputable def G40 : GE := mkG [(0, some 5, .spot), (0, some 6, .spot), (1, some 5, .spot), (1, some 6, .spot)] (cod25.a (cod25.a (.nil))) (fun x => V40 x.1 x.2.1) cd40
theorem ge40 : GeOk 40 G40 := ge_mk (C := C40) (base_ok (.cons ge108 (.cons ge136 .nil)) (.cons c40 .nil) .nil) rfl c40 (fun _ => rfl) (by kernel_rfl)
theorem c156 : CdOk 156 Tryz.f156 := ⟨by kernel_rfl, by kernel_rfl⟩
noncomputable def b156 (n p : Nat) : Code := bp n p (bodyA Tryz.f156)
noncomputable def C156 : Cfg := base [(40, G40), (55, G55)] [(156, Tryz.f156)] [(156, [(2, { drop := rs [(0, 29)], nt := [], nb := [] }), (3, { drop := rs [(0, 1), (2, 27)], nt := [], nb := [] })])] [] [] [] []
noncomputable def S156 (x0 : End) (n : Nat) : Option AV := startK C156 n 156 Tryz.f156 [.agg (enc27 x0)]
noncomputable def J156_2 : St := ⟨3, ⟨156, un 29, nb 29, [.code (b156 5 5), .code (b156 5 21), .code (b156 2 3)]⟩, []⟩
noncomputable def J156_3 (x0 : End) : St := ⟨4, ⟨156, ap [.undef, .ptr 0 1 0] (un 27), aq [[], (enc27 x0)] (nb 27), [.code (b156 4 3), .code (b156 4 11), .code (b156 3 7)]⟩, []⟩
noncomputable abbrev cd156 : Cod (Bool) := codB
noncomputable def tS156 (x0 : End) : Tr (Bool) :=
  .cond ((V40 x0.lst x0.rp).isSome)
  (.cond (!(F40 x0.lst x0.rp))
    (.go J156_2)
    (.cond (!(decide (x0.rp.code = 0)))
      (.go J156_2)
      (.go (J156_3 x0))))
  (.none)
theorem eS156 (x0 : End) : vlim cd156 (S156 x0) = (tS156 x0).val cd156 C156 := Tr.val_eq 28 (fun H z => by kernel_rfl)
noncomputable def tJ156_2 : Tr (Bool) :=
  .some false
theorem eJ156_2 : lv cd156 C156 (J156_2) = (tJ156_2).val cd156 C156 := Tr.lv_eq 6 (fun H z => by kernel_rfl)
noncomputable def tJ156_3 (x0 : End) : Tr (Bool) :=
  .cond (decide (x0.lst.kind = 6))
  (.some (decide (x0.num = 0)))
  (.cond ((V55 x0.lst.num).isSome)
    (.some (decide (x0.num = (F55 x0.lst.num))))
    (.none))
theorem eJ156_3 (x0 : End) : lv cd156 C156 (J156_3 x0) = (tJ156_3 x0).val cd156 C156 := Tr.lv_eq 17 (fun H z => by kernel_rfl)
noncomputable def V156 (x0 : End) : Option (Bool) := vlim cd156 (S156 x0)
noncomputable def F156 (x0 : End) : Bool := (V156 x0).getD default
noncomputable def G156 : GE := mkG [(0, some 3, .cell), (0, some 11, .spot), (0, some 12, .spot), (0, some 19, .spot), (0, some 20, .spot), (0, some 26, .spot), (0, some 27, .spot)] (cod27.a (.nil)) (fun x => V156 x.1) cd156
theorem ge156 : GeOk 156 G156 := ge_mk (C := C156) (base_ok (.cons ge40 (.cons ge55 .nil)) (.cons c156 .nil) .nil) rfl c156 (fun _ => rfl) (by kernel_rfl)
theorem c191 : CdOk 191 Tryz.f191 := ⟨by kernel_rfl, by kernel_rfl⟩
noncomputable def b191 (n p : Nat) : Code := bp n p (bodyA Tryz.f191)
noncomputable def C191 : Cfg := base [(217, G217)] [(191, Tryz.f191)] [(191, [(3, { drop := rs [(1, 1), (4, 1), (7, 30)], nt := [(5, .cell, 27)], nb := [] }), (5, { drop := rs [(1, 1), (4, 1), (7, 30)], nt := [(5, .cell, 27)], nb := [] }), (6, { drop := rs [(1, 1), (4, 1), (7, 30)], nt := [(5, .cell, 27)], nb := [] })])] [(31, 27), (36, 27)] [] [(0, none, .cell)] []
noncomputable def S191 (x0 : List Cell) (x1 : Cell) (n : Nat) : Option AV := startK C191 n 191 Tryz.f191 [.sl .cell x0 .none, .agg (ST.row .cell x1)]
noncomputable def J191_3 (x0 x1 : List Cell) (x2 : Int) (x3 : Cell) : St := ⟨4, ⟨191, ap [.sl .cell x0 .none, .undef, .undef, .ptr 0 3 0, .undef, .sl .cell x1 (.lab 27), .int .i64 x2] (un 30), aq (nb 3) (aq [(ST.row .cell x3)] (nb 33)), [.code (b191 8 7), .code (b191 8 135), .code (b191 7 71), .inLoop (b191 6 7), .inBlock 0, .code (b191 4 15)]⟩, []⟩
noncomputable def J191_5 (x0 x1 : List Cell) (x2 : Int) (x3 : Cell) : St := ⟨6, ⟨191, ap [.sl .cell x0 .none, .undef, .undef, .ptr 0 3 0, .undef, .sl .cell x1 (.lab 27), .int .i64 x2] (un 30), aq (nb 3) (aq [(ST.row .cell x3)] (nb 33)), [.code (b191 9 71), .inBlock 1, .code (b191 8 199), .inLoop (b191 6 7), .inBlock 0, .code (b191 4 15)]⟩, []⟩
noncomputable def J191_6 (x0 x1 : List Cell) (x2 : Int) (x3 : Cell) : St := ⟨7, ⟨191, ap [.sl .cell x0 .none, .undef, .undef, .ptr 0 3 0, .undef, .sl .cell x1 (.lab 27), .int .i64 x2] (un 30), aq (nb 3) (aq [(ST.row .cell x3)] (nb 33)), [.code (b191 5 15), .code (b191 5 31)]⟩, []⟩
noncomputable abbrev cd191 : Cod (List Cell) := (codS .cell)
noncomputable def tS191 (x0 : List Cell) (x1 : Cell) : Tr (List Cell) :=
  .go (J191_3 x0 ([] : List Cell) 0 x1)
theorem eS191 (x0 : List Cell) (x1 : Cell) : vlim cd191 (S191 x0 x1) = (tS191 x0 x1).val cd191 C191 := Tr.val_eq 21 (fun H z => by kernel_rfl)
noncomputable def tJ191_3 (x0 x1 : List Cell) (x2 : Int) (x3 : Cell) : Tr (List Cell) :=
  .cond (decide (x2 < ((x0).length : Int)))
  (.cond (ib x2 x0)
    (.cond ((V217 (nth .cell x0 x2) x3).isSome)
      (.cond (F217 (nth .cell x0 x2) x3)
        (.go (J191_5 x0 x1 x2 x3))
        (.go (J191_6 x0 x1 x2 x3)))
      (.none))
    (.none))
  (.go (J191_6 x0 x1 x2 x3))
theorem eJ191_3 (x0 x1 : List Cell) (x2 : Int) (x3 : Cell) : lv cd191 C191 (J191_3 x0 x1 x2 x3) = (tJ191_3 x0 x1 x2 x3).val cd191 C191 := Tr.lv_eq 8 (fun H z => by kernel_rfl)
noncomputable def tJ191_5 (x0 x1 : List Cell) (x2 : Int) (x3 : Cell) : Tr (List Cell) :=
  .cond (ib x2 x0)
  (.cond (il x1 ([nth .cell x0 x2] : List Cell) 48)
    (.cond (inR .i64 (x2 + 1))
      (.go (J191_3 x0 (x1 ++ ([nth .cell x0 x2] : List Cell)) (x2 + 1) x3))
      (.none))
    (.none))
  (.none)
theorem eJ191_5 (x0 x1 : List Cell) (x2 : Int) (x3 : Cell) : lv cd191 C191 (J191_5 x0 x1 x2 x3) = (tJ191_5 x0 x1 x2 x3).val cd191 C191 := Tr.lv_eq 22 (fun H z => by kernel_rfl)
noncomputable def tJ191_6 (x0 x1 : List Cell) (x2 : Int) (x3 : Cell) : Tr (List Cell) :=
  .cond (il x1 ([x3] : List Cell) 48)
  (.cond (ic x2 x0)
    (.cond (il (x1 ++ ([x3] : List Cell)) ((x0).drop x2.toNat) 48)
      (.some ((x1 ++ ([x3] : List Cell)) ++ ((x0).drop x2.toNat)))
      (.none))
    (.none))
  (.none)
theorem eJ191_6 (x0 x1 : List Cell) (x2 : Int) (x3 : Cell) : lv cd191 C191 (J191_6 x0 x1 x2 x3) = (tJ191_6 x0 x1 x2 x3).val cd191 C191 := Tr.lv_eq 19 (fun H z => by kernel_rfl)
noncomputable def V191 (x0 : List Cell) (x1 : Cell) : Option (List Cell) := vlim cd191 (S191 x0 x1)
noncomputable def F191 (x0 : List Cell) (x1 : Cell) : List Cell := (V191 x0 x1).getD default
noncomputable def G191 : GE := mkG [(0, none, .cell)] ((codS .cell).a ((codE .cell).a (.nil))) (fun x => V191 x.1 x.2.1) cd191
theorem ge191 : GeOk 191 G191 := ge_mk (C := C191) (base_ok (.cons ge217 .nil) (.cons c191 .nil) .nil) rfl c191 (fun _ => rfl) (by kernel_rfl)
theorem c200 : CdOk 200 Tryz.f200 := ⟨by kernel_rfl, by kernel_rfl⟩
noncomputable def b200 (n p : Nat) : Code := bp n p (bodyA Tryz.f200)
noncomputable def C200 : Cfg := base [] [(200, Tryz.f200)] [(200, [(2, { drop := rs [(6, 1), (8, 22)], nt := [], nb := [] }), (3, { drop := rs [(6, 1), (8, 22)], nt := [], nb := [] }), (5, { drop := rs [(0, 3), (6, 24)], nt := [], nb := [] })])] [] [] [] []
noncomputable def S200 (x0 : List Cell) (x1 x2 : Int) (n : Nat) : Option AV := startK C200 n 200 Tryz.f200 [.sl .cell x0 .none, .int .i64 x1, .int .i64 x2]
noncomputable def J200_2 (x0 : List Cell) (x1 x2 x3 : Int) : St := ⟨3, ⟨200, ap [.sl .cell x0 .none, .int .i64 x1, .int .i64 x2] (ap (un 4) (ap [.int .i64 x3] (un 22))), nb 30, [.code (b200 7 5), .code (b200 7 69), .code (b200 6 37), .inLoop (b200 5 5), .inBlock 0, .code (b200 2 3)]⟩, []⟩
noncomputable def J200_5 : St := ⟨6, ⟨200, un 30, nb 30, [.code (b200 11 293), .code (b200 11 1317), .inBlock 1, .code (b200 7 101), .inLoop (b200 5 5), .inBlock 0, .code (b200 2 3)]⟩, []⟩
noncomputable def J200_3 (x0 : List Cell) (x1 x2 x3 : Int) : St := ⟨4, ⟨200, ap [.sl .cell x0 .none, .int .i64 x1, .int .i64 x2] (ap (un 4) (ap [.int .i64 x3] (un 22))), nb 30, [.code (b200 7 101), .inLoop (b200 5 5), .inBlock 0, .code (b200 2 3)]⟩, []⟩
noncomputable abbrev cd200 : Cod (Bool) := codB
noncomputable def tS200 (x0 : List Cell) (x1 x2 : Int) : Tr (Bool) :=
  .go (J200_2 x0 x1 x2 0)
theorem eS200 (x0 : List Cell) (x1 x2 : Int) : vlim cd200 (S200 x0 x1 x2) = (tS200 x0 x1 x2).val cd200 C200 := Tr.val_eq 16 (fun H z => by kernel_rfl)
noncomputable def tJ200_2 (x0 : List Cell) (x1 x2 x3 : Int) : Tr (Bool) :=
  .cond (decide (x3 < ((x0).length : Int)))
  (.cond (ib x3 x0)
    (.cond (decide (((nth .cell x0 x3).slot) = x1))
      (.cond (ib x3 x0)
        (.cond (decide (((nth .cell x0 x3).kind) = x2))
          (.go J200_5)
          (.go (J200_3 x0 x1 x2 x3)))
        (.none))
      (.go (J200_3 x0 x1 x2 x3)))
    (.none))
  (.some false)
theorem eJ200_2 (x0 : List Cell) (x1 x2 x3 : Int) : lv cd200 C200 (J200_2 x0 x1 x2 x3) = (tJ200_2 x0 x1 x2 x3).val cd200 C200 := Tr.lv_eq 35 (fun H z => by kernel_rfl)
noncomputable def tJ200_5 : Tr (Bool) :=
  .some true
theorem eJ200_5 : lv cd200 C200 (J200_5) = (tJ200_5).val cd200 C200 := Tr.lv_eq 6 (fun H z => by kernel_rfl)
noncomputable def tJ200_3 (x0 : List Cell) (x1 x2 x3 : Int) : Tr (Bool) :=
  .cond (inR .i64 (x3 + 1))
  (.go (J200_2 x0 x1 x2 (x3 + 1)))
  (.none)
theorem eJ200_3 (x0 : List Cell) (x1 x2 x3 : Int) : lv cd200 C200 (J200_3 x0 x1 x2 x3) = (tJ200_3 x0 x1 x2 x3).val cd200 C200 := Tr.lv_eq 11 (fun H z => by kernel_rfl)
noncomputable def V200 (x0 : List Cell) (x1 x2 : Int) : Option (Bool) := vlim cd200 (S200 x0 x1 x2)
noncomputable def F200 (x0 : List Cell) (x1 x2 : Int) : Bool := (V200 x0 x1 x2).getD default
noncomputable def G200 : GE := mkG [(0, none, .cell)] ((codS .cell).a (codI.a (codI.a (.nil)))) (fun x => V200 x.1 x.2.1 x.2.2.1) cd200
theorem ge200 : GeOk 200 G200 := ge_mk (C := C200) (base_ok .nil (.cons c200 .nil) .nil) rfl c200 (fun _ => rfl) (by kernel_rfl)
theorem c123 : CdOk 123 Tryz.f123 := ⟨by kernel_rfl, by kernel_rfl⟩
noncomputable def C123 : Cfg := base [(153, G153), (191, G191), (199, G199), (200, G200)] [(123, Tryz.f123)] [(123, [])] [] [] [(0, some 2, .cell)] []
noncomputable def S123 (x0 : Tab) (x1 : Cell) (n : Nat) : Option AV := startK C123 n 123 Tryz.f123 [.agg (enc29 x0), .agg (ST.row .cell x1)]
noncomputable abbrev cd123 : Cod (Tab × Int) := (codT2 cod29 codI)
noncomputable def tS123 (x0 : Tab) (x1 : Cell) : Tr (Tab × Int) :=
  .cond ((V153 x0).isSome)
  (.cond (!(decide ((F153 x0) = 0)))
    (.some ((⟨0, 0, ([] : List Cell)⟩ : Tab), 1))
    (.cond ((V199 x0 x1).isSome)
      (.cond (!(decide ((F199 x0 x1) = 0)))
        (.some ((⟨0, 0, ([] : List Cell)⟩ : Tab), F199 x0 x1))
        (.cond ((V200 x0.cl x1.slot x1.kind).isSome)
          (.cond (F200 x0.cl x1.slot x1.kind)
            (.some ((⟨0, 0, ([] : List Cell)⟩ : Tab), 16))
            (.cond (decide (((x0.cl).length : Int) = 512))
              (.some ((⟨0, 0, ([] : List Cell)⟩ : Tab), 8))
              (.cond ((V191 x0.cl x1).isSome)
                (.some ((⟨x0.nd, x0.len, F191 x0.cl x1⟩ : Tab), 0))
                (.none))))
          (.none)))
      (.none)))
  (.none)
theorem eS123 (x0 : Tab) (x1 : Cell) : vlim cd123 (S123 x0 x1) = (tS123 x0 x1).val cd123 C123 := Tr.val_eq 62 (fun H z => by kernel_rfl)
noncomputable def V123 (x0 : Tab) (x1 : Cell) : Option (Tab × Int) := vlim cd123 (S123 x0 x1)
noncomputable def F123 (x0 : Tab) (x1 : Cell) : Tab × Int := (V123 x0 x1).getD default
noncomputable def G123 : GE := mkG [(0, some 2, .cell)] (cod29.a ((codE .cell).a (.nil))) (fun x => V123 x.1 x.2.1) cd123
theorem ge123 : GeOk 123 G123 := ge_mk (C := C123) (base_ok (.cons ge153 (.cons ge191 (.cons ge199 (.cons ge200 .nil)))) (.cons c123 .nil) .nil) rfl c123 (fun _ => rfl) (by kernel_rfl)
theorem c165 : CdOk 165 Tryz.f165 := ⟨by kernel_rfl, by kernel_rfl⟩
noncomputable def b165 (n p : Nat) : Code := bp n p (bodyA Tryz.f165)
noncomputable def C165 : Cfg := base [(153, G153)] [(165, Tryz.f165)] [(165, [(5, { drop := rs [(0, 1), (4, 1), (7, 36)], nt := [(5, .cell, 41)], nb := [] }), (6, { drop := rs [(0, 1), (4, 1), (7, 36)], nt := [(5, .cell, 41)], nb := [] }), (8, { drop := rs [(0, 1), (4, 1), (7, 36)], nt := [(5, .cell, 41)], nb := [] })])] [] [] [(0, none, .cell)] []
noncomputable def S165 (x0 : Tab) (x1 : Int) (n : Nat) : Option AV := startK C165 n 165 Tryz.f165 [.agg (enc29 x0), .int .i64 x1]
noncomputable def J165_5 (x0 : Int) (x1 : List Cell) (x2 : Int) (x3 : Tab) : St := ⟨6, ⟨165, ap [.undef, .int .i64 x0, .ptr 0 2 0, .undef, .undef, .sl .cell x1 (.lab 41), .int .i64 x2] (un 36), aq [[], [], (enc29 x3)] (nb 40), [.code (b165 9 23), .code (b165 9 279), .code (b165 8 151), .inLoop (b165 7 23), .inBlock 0, .code (b165 4 15)]⟩, []⟩
noncomputable def J165_8 (x0 : Int) (x1 : List Cell) (x2 : Int) (x3 : Tab) : St := ⟨9, ⟨165, ap [.undef, .int .i64 x0, .ptr 0 2 0, .undef, .undef, .sl .cell x1 (.lab 41), .int .i64 x2] (un 36), aq [[], [], (enc29 x3)] (nb 40), [.code (b165 12 1175), .inBlock 1, .code (b165 9 407), .inLoop (b165 7 23), .inBlock 0, .code (b165 4 15)]⟩, []⟩
noncomputable def J165_6 (x0 : Int) (x1 : List Cell) (x2 : Int) (x3 : Tab) : St := ⟨7, ⟨165, ap [.undef, .int .i64 x0, .ptr 0 2 0, .undef, .undef, .sl .cell x1 (.lab 41), .int .i64 x2] (un 36), aq [[], [], (enc29 x3)] (nb 40), [.code (b165 9 407), .inLoop (b165 7 23), .inBlock 0, .code (b165 4 15)]⟩, []⟩
noncomputable abbrev cd165 : Cod (List Cell) := (codS .cell)
noncomputable def tS165 (x0 : Tab) (x1 : Int) : Tr (List Cell) :=
  .cond ((V153 x0).isSome)
  (.cond (!(decide ((F153 x0) = 0)))
    (.some ([] : List Cell))
    (.go (J165_5 x1 ([] : List Cell) 0 x0)))
  (.none)
theorem eS165 (x0 : Tab) (x1 : Int) : vlim cd165 (S165 x0 x1) = (tS165 x0 x1).val cd165 C165 := Tr.val_eq 30 (fun H z => by kernel_rfl)
noncomputable def tJ165_5 (x0 : Int) (x1 : List Cell) (x2 : Int) (x3 : Tab) : Tr (List Cell) :=
  .cond (decide (x2 < ((x3.cl).length : Int)))
  (.cond (ib x2 x3.cl)
    (.cond (decide (((nth .cell x3.cl x2).kind) = 2))
      (.cond (ib x2 x3.cl)
        (.cond (decide (((nth .cell x3.cl x2).peer) = x0))
          (.go (J165_8 x0 x1 x2 x3))
          (.go (J165_6 x0 x1 x2 x3)))
        (.none))
      (.go (J165_6 x0 x1 x2 x3)))
    (.none))
  (.some x1)
theorem eJ165_5 (x0 : Int) (x1 : List Cell) (x2 : Int) (x3 : Tab) : lv cd165 C165 (J165_5 x0 x1 x2 x3) = (tJ165_5 x0 x1 x2 x3).val cd165 C165 := Tr.lv_eq 37 (fun H z => by kernel_rfl)
noncomputable def tJ165_8 (x0 : Int) (x1 : List Cell) (x2 : Int) (x3 : Tab) : Tr (List Cell) :=
  .cond (ib x2 x3.cl)
  (.cond (il x1 ([nth .cell x3.cl x2] : List Cell) 48)
    (.go (J165_6 x0 (x1 ++ ([nth .cell x3.cl x2] : List Cell)) x2 x3))
    (.none))
  (.none)
theorem eJ165_8 (x0 : Int) (x1 : List Cell) (x2 : Int) (x3 : Tab) : lv cd165 C165 (J165_8 x0 x1 x2 x3) = (tJ165_8 x0 x1 x2 x3).val cd165 C165 := Tr.lv_eq 15 (fun H z => by kernel_rfl)
noncomputable def tJ165_6 (x0 : Int) (x1 : List Cell) (x2 : Int) (x3 : Tab) : Tr (List Cell) :=
  .cond (inR .i64 (x2 + 1))
  (.go (J165_5 x0 x1 (x2 + 1) x3))
  (.none)
theorem eJ165_6 (x0 : Int) (x1 : List Cell) (x2 : Int) (x3 : Tab) : lv cd165 C165 (J165_6 x0 x1 x2 x3) = (tJ165_6 x0 x1 x2 x3).val cd165 C165 := Tr.lv_eq 11 (fun H z => by kernel_rfl)
noncomputable def V165 (x0 : Tab) (x1 : Int) : Option (List Cell) := vlim cd165 (S165 x0 x1)
noncomputable def F165 (x0 : Tab) (x1 : Int) : List Cell := (V165 x0 x1).getD default
noncomputable def G165 : GE := mkG [(0, some 2, .cell)] (cod29.a (codI.a (.nil))) (fun x => V165 x.1 x.2.1) cd165
theorem ge165 : GeOk 165 G165 := ge_mk (C := C165) (base_ok (.cons ge153 .nil) (.cons c165 .nil) .nil) rfl c165 (fun _ => rfl) (by kernel_rfl)
theorem c112 : CdOk 112 Tryz.f112 := ⟨by kernel_rfl, by kernel_rfl⟩
noncomputable def C112 : Cfg := base [] [(112, Tryz.f112)] [(112, [])] [(3, 6), (8, 11)] [] [(0, some 5, .spot), (0, some 6, .spot)] []
noncomputable def S112 (x0 : Msg) (n : Nat) : Option AV := startK C112 n 112 Tryz.f112 [.agg (enc25 x0)]
noncomputable abbrev cd112 : Cod (Msg) := cod25
noncomputable def tS112 (x0 : Msg) : Tr (Msg) :=
  .cond (il ([] : List Spot) x0.sp 16)
  (.cond (il ([] : List Spot) x0.old 16)
    (.some (⟨x0.kind, x0.rep, x0.num, x0.code, x0.cnt, ([] : List Spot) ++ x0.sp, ([] : List Spot) ++ x0.old⟩ : Msg))
    (.none))
  (.none)
theorem eS112 (x0 : Msg) : vlim cd112 (S112 x0) = (tS112 x0).val cd112 C112 := Tr.val_eq 31 (fun H z => by kernel_rfl)
noncomputable def V112 (x0 : Msg) : Option (Msg) := vlim cd112 (S112 x0)
noncomputable def F112 (x0 : Msg) : Msg := (V112 x0).getD default
noncomputable def G112 : GE := mkG [(0, some 5, .spot), (0, some 6, .spot)] (cod25.a (.nil)) (fun x => V112 x.1) cd112
theorem ge112 : GeOk 112 G112 := ge_mk (C := C112) (base_ok .nil (.cons c112 .nil) .nil) rfl c112 (fun _ => rfl) (by kernel_rfl)
theorem c109 : CdOk 109 Tryz.f109 := ⟨by kernel_rfl, by kernel_rfl⟩
noncomputable def C109 : Cfg := base [(112, G112)] [(109, Tryz.f109)] [(109, [])] [(3, 6)] [] [(0, some 3, .cell), (0, some 11, .spot), (0, some 12, .spot), (0, some 19, .spot), (0, some 20, .spot), (0, some 26, .spot), (0, some 27, .spot)] []
noncomputable def S109 (x0 : End) (n : Nat) : Option AV := startK C109 n 109 Tryz.f109 [.agg (enc27 x0)]
noncomputable abbrev cd109 : Cod (End) := cod27
noncomputable def tS109 (x0 : End) : Tr (End) :=
  .cond (il ([] : List Cell) x0.cl 48)
  (.cond ((V112 x0.ask).isSome)
    (.cond ((V112 x0.lst).isSome)
      (.cond ((V112 x0.rp).isSome)
        (.some (⟨x0.nd, x0.pr, x0.num, ([] : List Cell) ++ x0.cl, x0.opn, x0.snc, F112 x0.ask, x0.kn, F112 x0.lst, F112 x0.rp⟩ : End))
        (.none))
      (.none))
    (.none))
  (.none)
theorem eS109 (x0 : End) : vlim cd109 (S109 x0) = (tS109 x0).val cd109 C109 := Tr.val_eq 24 (fun H z => by kernel_rfl)
noncomputable def V109 (x0 : End) : Option (End) := vlim cd109 (S109 x0)
noncomputable def F109 (x0 : End) : End := (V109 x0).getD default
noncomputable def G109 : GE := mkG [(0, some 3, .cell), (0, some 11, .spot), (0, some 12, .spot), (0, some 19, .spot), (0, some 20, .spot), (0, some 26, .spot), (0, some 27, .spot)] (cod27.a (.nil)) (fun x => V109 x.1) cd109
theorem ge109 : GeOk 109 G109 := ge_mk (C := C109) (base_ok (.cons ge112 .nil) (.cons c109 .nil) .nil) rfl c109 (fun _ => rfl) (by kernel_rfl)
noncomputable def C110 : Cfg := base [(40, G40), (108, G108)] [(110, Tryz.f110)] [(110, [(2, { drop := rs [(0, 5), (9, 28)], nt := [], nb := [] }), (3, { drop := rs [(0, 1), (9, 28)], nt := [], nb := [] })])] [(24, 26), (27, 29)] [] [(0, some 5, .spot), (0, some 6, .spot)] []
noncomputable def S110 (x0 : Msg) (x1 : Int) (x2 x3 : List Spot) (n : Nat) : Option AV := startK C110 n 110 Tryz.f110 [.agg (enc25 x0), .int .i64 x1, .sl .spot x2 .none, .sl .spot x3 .none]
noncomputable abbrev cd110 : Cod (Msg × Int) := (codT2 cod25 codI)
noncomputable def V110 (x0 : Msg) (x1 : Int) (x2 x3 : List Spot) : Option (Msg × Int) := vlim cd110 (S110 x0 x1 x2 x3)
noncomputable def G110 : GE := mkG [(0, some 5, .spot), (0, some 6, .spot), (2, none, .spot), (3, none, .spot)] (cod25.a (codI.a ((codS .spot).a ((codS .spot).a (.nil))))) (fun x => V110 x.1 x.2.1 x.2.2.1 x.2.2.2.1) cd110
noncomputable def C111 : Cfg := base [(112, G112)] [(111, Tryz.f111)] [(111, [])] [] [] [(0, some 3, .cell), (0, some 11, .spot), (0, some 12, .spot), (0, some 19, .spot), (0, some 20, .spot), (0, some 26, .spot), (0, some 27, .spot), (1, some 5, .spot), (1, some 6, .spot)] []
noncomputable def S111 (x0 : End) (x1 x2 : Msg) (n : Nat) : Option AV := startK C111 n 111 Tryz.f111 [.agg (enc27 x0), .agg (enc25 x1), .agg (enc25 x2)]
noncomputable abbrev cd111 : Cod (End × Msg × Int) := (codT3 cod27 cod25 codI)
noncomputable def V111 (x0 : End) (x1 x2 : Msg) : Option (End × Msg × Int) := vlim cd111 (S111 x0 x1 x2)
noncomputable def G111 : GE := mkG [(0, some 3, .cell), (0, some 11, .spot), (0, some 12, .spot), (0, some 19, .spot), (0, some 20, .spot), (0, some 26, .spot), (0, some 27, .spot), (1, some 5, .spot), (1, some 6, .spot), (2, some 5, .spot), (2, some 6, .spot)] (cod27.a (cod25.a (cod25.a (.nil)))) (fun x => V111 x.1 x.2.1 x.2.2.1) cd111
noncomputable def C189 : Cfg := base [(108, G108)] [(189, Tryz.f189)] [(189, [(2, { drop := rs [(0, 3), (5, 22)], nt := [], nb := [] }), (3, { drop := rs [(0, 1), (5, 22)], nt := [], nb := [] }), (4, { drop := rs [(0, 3), (5, 22)], nt := [], nb := [] }), (5, { drop := rs [(0, 1), (5, 22)], nt := [], nb := [] })])] [] [] [(0, some 5, .spot), (0, some 6, .spot)] []
noncomputable def S189 (x0 : Msg) (x1 : Int) (n : Nat) : Option AV := startK C189 n 189 Tryz.f189 [.agg (enc25 x0), .int .i64 x1]
noncomputable abbrev cd189 : Cod (Msg × Int) := (codT2 cod25 codI)
noncomputable def V189 (x0 : Msg) (x1 : Int) : Option (Msg × Int) := vlim cd189 (S189 x0 x1)
noncomputable def G189 : GE := mkG [(0, some 5, .spot), (0, some 6, .spot)] (cod25.a (codI.a (.nil))) (fun x => V189 x.1 x.2.1) cd189
noncomputable def C113 : Cfg := base [(189, G189)] [(113, Tryz.f113)] [(113, [])] [] [] [(0, some 3, .cell), (0, some 11, .spot), (0, some 12, .spot), (0, some 19, .spot), (0, some 20, .spot), (0, some 26, .spot), (0, some 27, .spot), (1, some 5, .spot), (1, some 6, .spot)] []
noncomputable def S113 (x0 : End) (x1 : Msg) (x2 : Int) (n : Nat) : Option AV := startK C113 n 113 Tryz.f113 [.agg (enc27 x0), .agg (enc25 x1), .int .i64 x2]
noncomputable abbrev cd113 : Cod (End × Msg × Int) := (codT3 cod27 cod25 codI)
noncomputable def V113 (x0 : End) (x1 : Msg) (x2 : Int) : Option (End × Msg × Int) := vlim cd113 (S113 x0 x1 x2)
noncomputable def G113 : GE := mkG [(0, some 3, .cell), (0, some 11, .spot), (0, some 12, .spot), (0, some 19, .spot), (0, some 20, .spot), (0, some 26, .spot), (0, some 27, .spot), (1, some 5, .spot), (1, some 6, .spot)] (cod27.a (cod25.a (codI.a (.nil)))) (fun x => V113 x.1 x.2.1 x.2.2.1) cd113
theorem c250 : CdOk 250 Tryz.f250 := ⟨by kernel_rfl, by kernel_rfl⟩
noncomputable def b250 (n p : Nat) : Code := bp n p (bodyA Tryz.f250)
noncomputable def C250 : Cfg := base [] [(250, Tryz.f250)] [(250, [(3, { drop := rs [(2, 1), (5, 8)], nt := [], nb := [] })])] [] [] [] []
noncomputable def S250 (x0 : Int) (n : Nat) : Option AV := startK C250 n 250 Tryz.f250 [.int .i64 x0]
noncomputable def J250_3 (x0 x1 x2 : Int) : St := ⟨4, ⟨250, ap [.int .i64 x0, .undef, .undef, .int .i64 x1, .int .i64 x2] (un 8), nb 13, [.code (b250 8 11), .code (b250 8 139), .code (b250 7 75), .inLoop (b250 6 11), .inBlock 0, .code (b250 3 7)]⟩, []⟩
noncomputable abbrev cd250 : Cod (Int) := codI
noncomputable def tS250 (x0 : Int) : Tr (Int) :=
  .go (J250_3 x0 1 0)
theorem eS250 (x0 : Int) : vlim cd250 (S250 x0) = (tS250 x0).val cd250 C250 := Tr.val_eq 20 (fun H z => by kernel_rfl)
noncomputable def tJ250_3 (x0 x1 x2 : Int) : Tr (Int) :=
  .cond (decide (x2 < x0))
  (.cond (inR .i64 (2 * x1))
    (.cond (inR .i64 (x2 + 1))
      (.go (J250_3 x0 (2 * x1) (x2 + 1)))
      (.none))
    (.none))
  (.some x1)
theorem eJ250_3 (x0 x1 x2 : Int) : lv cd250 C250 (J250_3 x0 x1 x2) = (tJ250_3 x0 x1 x2).val cd250 C250 := Tr.lv_eq 26 (fun H z => by kernel_rfl)
noncomputable def V250 (x0 : Int) : Option (Int) := vlim cd250 (S250 x0)
noncomputable def F250 (x0 : Int) : Int := (V250 x0).getD default
noncomputable def G250 : GE := mkG [] (codI.a (.nil)) (fun x => V250 x.1) cd250
theorem ge250 : GeOk 250 G250 := ge_mk (C := C250) (base_ok .nil (.cons c250 .nil) .nil) rfl c250 (fun _ => rfl) (by kernel_rfl)
theorem c220 : CdOk 220 Tryz.f220 := ⟨by kernel_rfl, by kernel_rfl⟩
noncomputable def b220 (n p : Nat) : Code := bp n p (bodyA Tryz.f220)
noncomputable def C220 : Cfg := base [(250, G250)] [(220, Tryz.f220)] [(220, [(4, { drop := rs [(1, 1), (4, 1), (6, 23)], nt := [], nb := [] }), (5, { drop := rs [(1, 1), (4, 1), (6, 23)], nt := [], nb := [] }), (7, { drop := rs [(0, 2), (4, 25)], nt := [], nb := [] })])] [] [] [] []
noncomputable def S220 (x0 : List Int) (x1 : Int) (n : Nat) : Option AV := startK C220 n 220 Tryz.f220 [.sl .int x0 .none, .int .i64 x1]
noncomputable def J220_4 (x0 : List Int) (x1 : Int) : St := ⟨5, ⟨220, ap [.sl .int x0 .none] (ap (un 4) (ap [.int .i64 x1] (un 23))), nb 29, [.code (b220 8 11), .code (b220 8 139), .code (b220 7 75), .inLoop (b220 6 11), .inBlock 0, .code (b220 3 7)]⟩, []⟩
noncomputable def J220_7 : St := ⟨8, ⟨220, un 29, nb 29, [.code (b220 12 587), .code (b220 12 2635), .inBlock 1, .code (b220 8 203), .inLoop (b220 6 11), .inBlock 0, .code (b220 3 7)]⟩, []⟩
noncomputable def J220_5 (x0 : List Int) (x1 : Int) : St := ⟨6, ⟨220, ap [.sl .int x0 .none] (ap (un 4) (ap [.int .i64 x1] (un 23))), nb 29, [.code (b220 8 203), .inLoop (b220 6 11), .inBlock 0, .code (b220 3 7)]⟩, []⟩
noncomputable abbrev cd220 : Cod (Bool) := codB
noncomputable def tS220 (x0 : List Int) (x1 : Int) : Tr (Bool) :=
  .cond (!(decide (((x0).length : Int) = x1)))
  (.some false)
  (.go (J220_4 x0 0))
theorem eS220 (x0 : List Int) (x1 : Int) : vlim cd220 (S220 x0 x1) = (tS220 x0 x1).val cd220 C220 := Tr.val_eq 26 (fun H z => by kernel_rfl)
noncomputable def tJ220_4 (x0 : List Int) (x1 : Int) : Tr (Bool) :=
  .cond (decide (x1 < ((x0).length : Int)))
  (.cond (ib x1 x0)
    (.cond (decide ((nth .int x0 x1) < 0))
      (.go J220_7)
      (.cond (ib x1 x0)
        (.cond ((V250 16).isSome)
          (.cond (decide ((F250 16) ≤ (nth .int x0 x1)))
            (.go J220_7)
            (.go (J220_5 x0 x1)))
          (.none))
        (.none)))
    (.none))
  (.some true)
theorem eJ220_4 (x0 : List Int) (x1 : Int) : lv cd220 C220 (J220_4 x0 x1) = (tJ220_4 x0 x1).val cd220 C220 := Tr.lv_eq 18 (fun H z => by kernel_rfl)
noncomputable def tJ220_7 : Tr (Bool) :=
  .some false
theorem eJ220_7 : lv cd220 C220 (J220_7) = (tJ220_7).val cd220 C220 := Tr.lv_eq 6 (fun H z => by kernel_rfl)
noncomputable def tJ220_5 (x0 : List Int) (x1 : Int) : Tr (Bool) :=
  .cond (inR .i64 (x1 + 1))
  (.go (J220_4 x0 (x1 + 1)))
  (.none)
theorem eJ220_5 (x0 : List Int) (x1 : Int) : lv cd220 C220 (J220_5 x0 x1) = (tJ220_5 x0 x1).val cd220 C220 := Tr.lv_eq 11 (fun H z => by kernel_rfl)
noncomputable def V220 (x0 : List Int) (x1 : Int) : Option (Bool) := vlim cd220 (S220 x0 x1)
noncomputable def F220 (x0 : List Int) (x1 : Int) : Bool := (V220 x0 x1).getD default
noncomputable def G220 : GE := mkG [(0, none, .int)] ((codS .int).a (codI.a (.nil))) (fun x => V220 x.1 x.2.1) cd220
theorem ge220 : GeOk 220 G220 := ge_mk (C := C220) (base_ok (.cons ge250 .nil) (.cons c220 .nil) .nil) rfl c220 (fun _ => rfl) (by kernel_rfl)
theorem c240 : CdOk 240 Tryz.f240 := ⟨by kernel_rfl, by kernel_rfl⟩
noncomputable def b240 (n p : Nat) : Code := bp n p (bodyA Tryz.f240)
noncomputable def C240 : Cfg := base [] [(240, Tryz.f240)] [(240, [(2, { drop := rs [(4, 1), (6, 10)], nt := [], nb := [] })])] [] [] [] []
noncomputable def S240 (x0 x1 : Int) (n : Nat) : Option AV := startK C240 n 240 Tryz.f240 [.int .i64 x0, .int .i64 x1]
noncomputable def J240_2 (x0 x1 x2 : Int) : St := ⟨3, ⟨240, ap [.int .i64 x0, .int .i64 x1] (ap (un 3) (ap [.int .i64 x2] (un 10))), nb 16, [.code (b240 7 5), .code (b240 7 69), .code (b240 6 37), .inLoop (b240 5 5), .inBlock 0, .code (b240 2 3)]⟩, []⟩
noncomputable abbrev cd240 : Cod (Bool) := codB
noncomputable def tS240 (x0 x1 : Int) : Tr (Bool) :=
  .go (J240_2 x0 x1 0)
theorem eS240 (x0 x1 : Int) : vlim cd240 (S240 x0 x1) = (tS240 x0 x1).val cd240 C240 := Tr.val_eq 16 (fun H z => by kernel_rfl)
noncomputable def tJ240_2 (x0 x1 x2 : Int) : Tr (Bool) :=
  .cond (decide (x2 < x1))
  (.cond (inR .i64 (Int.tdiv x0 2))
    (.cond (inR .i64 (x2 + 1))
      (.go (J240_2 (Int.tdiv x0 2) x1 (x2 + 1)))
      (.none))
    (.none))
  (.some (decide ((Int.tmod x0 2) = 1)))
theorem eJ240_2 (x0 x1 x2 : Int) : lv cd240 C240 (J240_2 x0 x1 x2) = (tJ240_2 x0 x1 x2).val cd240 C240 := Tr.lv_eq 26 (fun H z => by kernel_rfl)
noncomputable def V240 (x0 x1 : Int) : Option (Bool) := vlim cd240 (S240 x0 x1)
noncomputable def F240 (x0 x1 : Int) : Bool := (V240 x0 x1).getD default
noncomputable def G240 : GE := mkG [] (codI.a (codI.a (.nil))) (fun x => V240 x.1 x.2.1) cd240
theorem ge240 : GeOk 240 G240 := ge_mk (C := C240) (base_ok .nil (.cons c240 .nil) .nil) rfl c240 (fun _ => rfl) (by kernel_rfl)
theorem c190 : CdOk 190 Tryz.f190 := ⟨by kernel_rfl, by kernel_rfl⟩
noncomputable def b190 (n p : Nat) : Code := bp n p (bodyA Tryz.f190)
noncomputable def C190 : Cfg := base [(153, G153), (220, G220), (240, G240)] [(190, Tryz.f190)] [(190, [(2, { drop := rs [(0, 4), (5, 59)], nt := [], nb := [] }), (3, { drop := rs [(0, 1), (2, 1), (6, 58)], nt := [], nb := [] }), (4, { drop := rs [(0, 1), (2, 1), (6, 1), (8, 56)], nt := [], nb := [] })])] [] [] [] []
noncomputable def S190 (x0 : Tab) (x1 : List Int) (x2 : Spot) (n : Nat) : Option AV := startK C190 n 190 Tryz.f190 [.agg (enc29 x0), .sl .int x1 .none, .agg (ST.row .spot x2)]
noncomputable def J190_2 : St := ⟨3, ⟨190, un 64, nb 64, [.code (b190 5 5), .code (b190 5 21), .code (b190 2 3)]⟩, []⟩
noncomputable def J190_3 (x0 : List Int) (x1 : Tab) (x2 : Spot) : St := ⟨4, ⟨190, ap [.undef, .sl .int x0 .none, .undef, .ptr 0 3 0, .undef, .ptr 0 5 0] (un 58), aq (nb 3) (aq [(enc29 x1), [], [.int .i64 x2.sslot, .int .i64 x2.soffset]] (nb 58)), [.code (b190 4 3), .code (b190 4 11), .code (b190 3 7)]⟩, []⟩
noncomputable def J190_4 (x0 : List Int) (x1 : Int) (x2 : Tab) (x3 : Spot) : St := ⟨5, ⟨190, ap [.undef, .sl .int x0 .none, .undef, .ptr 0 3 0, .undef, .ptr 0 5 0, .undef, .int .i64 x1] (un 56), aq (nb 3) (aq [(enc29 x2), [], [.int .i64 x3.sslot, .int .i64 x3.soffset]] (nb 58)), [.code (b190 8 11), .code (b190 8 139), .code (b190 7 75), .inLoop (b190 6 11), .inBlock 0, .code (b190 3 7)]⟩, []⟩
noncomputable abbrev cd190 : Cod (Bool) := codB
noncomputable def tS190 (x0 : Tab) (x1 : List Int) (x2 : Spot) : Tr (Bool) :=
  .cond ((V153 x0).isSome)
  (.cond (!(decide ((F153 x0) = 0)))
    (.go J190_2)
    (.cond ((V220 x1 x0.len).isSome)
      (.cond (!(F220 x1 x0.len))
        (.go J190_2)
        (.cond (decide (x2.sslot < 0))
          (.go J190_2)
          (.cond (decide (x0.len ≤ x2.sslot))
            (.go J190_2)
            (.cond (decide (x2.soffset < 0))
              (.go J190_2)
              (.cond (decide (16 ≤ x2.soffset))
                (.go J190_2)
                (.go (J190_3 x1 x0 x2)))))))
      (.none)))
  (.none)
theorem eS190 (x0 : Tab) (x1 : List Int) (x2 : Spot) : vlim cd190 (S190 x0 x1 x2) = (tS190 x0 x1 x2).val cd190 C190 := Tr.val_eq 49 (fun H z => by kernel_rfl)
noncomputable def tJ190_2 : Tr (Bool) :=
  .some false
theorem eJ190_2 : lv cd190 C190 (J190_2) = (tJ190_2).val cd190 C190 := Tr.lv_eq 6 (fun H z => by kernel_rfl)
noncomputable def tJ190_3 (x0 : List Int) (x1 : Tab) (x2 : Spot) : Tr (Bool) :=
  .go (J190_4 x0 0 x1 x2)
theorem eJ190_3 (x0 : List Int) (x1 : Tab) (x2 : Spot) : lv cd190 C190 (J190_3 x0 x1 x2) = (tJ190_3 x0 x1 x2).val cd190 C190 := Tr.lv_eq 10 (fun H z => by kernel_rfl)
noncomputable def tJ190_4 (x0 : List Int) (x1 : Int) (x2 : Tab) (x3 : Spot) : Tr (Bool) :=
  .cond (decide (x1 < ((x2.cl).length : Int)))
  (.cond (ib x1 x2.cl)
    (.cond (decide (((nth .cell x2.cl x1).slot) = x3.sslot))
      (.some false)
      (.cond (inR .i64 (x1 + 1))
        (.go (J190_4 x0 (x1 + 1) x2 x3))
        (.none)))
    (.none))
  (.cond (ib x3.sslot x0)
    (.cond ((V240 (nth .int x0 x3.sslot) x3.soffset).isSome)
      (.some (F240 (nth .int x0 x3.sslot) x3.soffset))
      (.none))
    (.none))
theorem eJ190_4 (x0 : List Int) (x1 : Int) (x2 : Tab) (x3 : Spot) : lv cd190 C190 (J190_4 x0 x1 x2 x3) = (tJ190_4 x0 x1 x2 x3).val cd190 C190 := Tr.lv_eq 27 (fun H z => by kernel_rfl)
noncomputable def V190 (x0 : Tab) (x1 : List Int) (x2 : Spot) : Option (Bool) := vlim cd190 (S190 x0 x1 x2)
noncomputable def F190 (x0 : Tab) (x1 : List Int) (x2 : Spot) : Bool := (V190 x0 x1 x2).getD default
noncomputable def G190 : GE := mkG [(0, some 2, .cell), (1, none, .int)] (cod29.a ((codS .int).a ((codE .spot).a (.nil)))) (fun x => V190 x.1 x.2.1 x.2.2.1) cd190
theorem ge190 : GeOk 190 G190 := ge_mk (C := C190) (base_ok (.cons ge153 (.cons ge220 (.cons ge240 .nil))) (.cons c190 .nil) .nil) rfl c190 (fun _ => rfl) (by kernel_rfl)
noncomputable def C114 : Cfg := base [(190, G190)] [(114, Tryz.f114)] [(114, [(3, { drop := rs [(0, 1), (8, 1), (11, 27)], nt := [(9, .spot, 36)], nb := [] }), (4, { drop := rs [(0, 1), (8, 1), (11, 27)], nt := [(9, .spot, 36)], nb := [] }), (5, { drop := rs [(0, 1), (8, 1), (11, 27)], nt := [(9, .spot, 36)], nb := [] }), (7, { drop := rs [(0, 5), (8, 1), (10, 28)], nt := [(9, .spot, 36)], nb := [] })])] [] [] [(0, none, .spot)] []
noncomputable def S114 (x0 : Tab) (x1 : List Int) (x2 : List Spot) (x3 : Int) (n : Nat) : Option AV := startK C114 n 114 Tryz.f114 [.agg (enc29 x0), .sl .int x1 .none, .sl .spot x2 .none, .int .i64 x3]
noncomputable abbrev cd114 : Cod (List Spot) := (codS .spot)
noncomputable def V114 (x0 : Tab) (x1 : List Int) (x2 : List Spot) (x3 : Int) : Option (List Spot) := vlim cd114 (S114 x0 x1 x2 x3)
noncomputable def G114 : GE := mkG [(0, some 2, .cell), (1, none, .int), (2, none, .spot)] (cod29.a ((codS .int).a ((codS .spot).a (codI.a (.nil))))) (fun x => V114 x.1 x.2.1 x.2.2.1 x.2.2.2.1) cd114
noncomputable def C115 : Cfg := base [(162, G162)] [(115, Tryz.f115)] [(115, [(3, { drop := rs [(0, 1), (4, 1), (7, 31)], nt := [], nb := [] }), (4, { drop := rs [(0, 1), (4, 1), (7, 31)], nt := [], nb := [] }), (7, { drop := rs [(0, 1), (4, 1), (7, 31)], nt := [], nb := [] })])] [] [] [] []
noncomputable def S115 (x0 : End) (x1 : List Spot) (n : Nat) : Option AV := startK C115 n 115 Tryz.f115 [.agg (enc27 x0), .sl .spot x1 .none]
noncomputable abbrev cd115 : Cod (Bool) := codB
noncomputable def V115 (x0 : End) (x1 : List Spot) : Option (Bool) := vlim cd115 (S115 x0 x1)
noncomputable def G115 : GE := mkG [(0, some 3, .cell), (0, some 11, .spot), (0, some 12, .spot), (0, some 19, .spot), (0, some 20, .spot), (0, some 26, .spot), (0, some 27, .spot), (1, none, .spot)] (cod27.a ((codS .spot).a (.nil))) (fun x => V115 x.1 x.2.1) cd115
noncomputable def C116 : Cfg := base [(162, G162), (191, G191)] [(116, Tryz.f116)] [(116, [(3, { drop := rs [(0, 1), (8, 1), (11, 55)], nt := [(9, .cell, 42)], nb := [] }), (4, { drop := rs [(0, 1), (8, 1), (11, 55)], nt := [(9, .cell, 42)], nb := [] }), (7, { drop := rs [(0, 1), (8, 1), (12, 54)], nt := [(9, .cell, 42)], nb := [] }), (9, { drop := rs [(0, 2), (8, 1), (10, 2), (13, 53)], nt := [(9, .cell, 42)], nb := [] })])] [(64, 42)] [] [(0, none, .cell)] []
noncomputable def S116 (x0 : End) (x1 x2 : List Spot) (x3 : Bool) (n : Nat) : Option AV := startK C116 n 116 Tryz.f116 [.agg (enc27 x0), .sl .spot x1 .none, .sl .spot x2 .none, .bool x3]
noncomputable abbrev cd116 : Cod (List Cell) := (codS .cell)
noncomputable def V116 (x0 : End) (x1 x2 : List Spot) (x3 : Bool) : Option (List Cell) := vlim cd116 (S116 x0 x1 x2 x3)
noncomputable def G116 : GE := mkG [(0, some 3, .cell), (0, some 11, .spot), (0, some 12, .spot), (0, some 19, .spot), (0, some 20, .spot), (0, some 26, .spot), (0, some 27, .spot), (1, none, .spot), (2, none, .spot)] (cod27.a ((codS .spot).a ((codS .spot).a (codB.a (.nil))))) (fun x => V116 x.1 x.2.1 x.2.2.1 x.2.2.2.1) cd116
theorem c117 : CdOk 117 Tryz.f117 := ⟨by kernel_rfl, by kernel_rfl⟩
noncomputable def b117 (n p : Nat) : Code := bp n p (bodyA Tryz.f117)
noncomputable def C117 : Cfg := base [] [(117, Tryz.f117)] [(117, [(4, { drop := rs [(4, 1), (6, 20)], nt := [], nb := [] })])] [] [] [] []
noncomputable def S117 (x0 x1 : List Cell) (n : Nat) : Option AV := startK C117 n 117 Tryz.f117 [.sl .cell x0 .none, .sl .cell x1 .none]
noncomputable def J117_4 (x0 x1 : List Cell) (x2 : Int) : St := ⟨5, ⟨117, ap [.sl .cell x0 .none, .sl .cell x1 .none] (ap (un 3) (ap [.int .i64 x2] (un 20))), nb 26, [.code (b117 8 11), .code (b117 8 139), .code (b117 7 75), .inLoop (b117 6 11), .inBlock 0, .code (b117 3 7)]⟩, []⟩
noncomputable abbrev cd117 : Cod (Bool) := codB
noncomputable def tS117 (x0 x1 : List Cell) : Tr (Bool) :=
  .cond (!(decide (((x0).length : Int) = ((x1).length : Int))))
  (.some false)
  (.go (J117_4 x0 x1 0))
theorem eS117 (x0 x1 : List Cell) : vlim cd117 (S117 x0 x1) = (tS117 x0 x1).val cd117 C117 := Tr.val_eq 27 (fun H z => by kernel_rfl)
noncomputable def tJ117_4 (x0 x1 : List Cell) (x2 : Int) : Tr (Bool) :=
  .cond (decide (x2 < ((x0).length : Int)))
  (.cond (ib x2 x0)
    (.cond (ib x2 x1)
      (.cond (!((decide (((nth .cell x0 x2).slot) = ((nth .cell x1 x2).slot))) && ((decide (((nth .cell x0 x2).offset) = ((nth .cell x1 x2).offset))) && ((decide (((nth .cell x0 x2).kind) = ((nth .cell x1 x2).kind))) && ((((nth .cell x0 x2).send) == ((nth .cell x1 x2).send)) && ((decide (((nth .cell x0 x2).peer) = ((nth .cell x1 x2).peer))) && ((decide (((nth .cell x0 x2).flow) = ((nth .cell x1 x2).flow))) && true)))))))
        (.some false)
        (.cond (inR .i64 (x2 + 1))
          (.go (J117_4 x0 x1 (x2 + 1)))
          (.none)))
      (.none))
    (.none))
  (.some true)
theorem eJ117_4 (x0 x1 : List Cell) (x2 : Int) : lv cd117 C117 (J117_4 x0 x1 x2) = (tJ117_4 x0 x1 x2).val cd117 C117 := Tr.lv_eq 26 (fun H z => by kernel_rfl)
noncomputable def V117 (x0 x1 : List Cell) : Option (Bool) := vlim cd117 (S117 x0 x1)
noncomputable def F117 (x0 x1 : List Cell) : Bool := (V117 x0 x1).getD default
noncomputable def G117 : GE := mkG [(0, none, .cell), (1, none, .cell)] ((codS .cell).a ((codS .cell).a (.nil))) (fun x => V117 x.1 x.2.1) cd117
theorem ge117 : GeOk 117 G117 := ge_mk (C := C117) (base_ok .nil (.cons c117 .nil) .nil) rfl c117 (fun _ => rfl) (by kernel_rfl)
end Go.Am
