/- Part 37 of the proof: FA5. -/
import Derived.Test.YtapedmpbgeoieaaGreatC11p29
import Derived.Test.YtapedmpbgeoieaaGreatC11p30
import Derived.Test.YtapedmpbgeoieaaGreatC11p31
import Derived.Test.YtapedmpbgeoieaaGreatC11p32
import Derived.Test.YtapedmpbgeoieaaGreatC11p34
import Derived.Test.YtapedmpbgeoieaaGreatC11p36
set_option linter.unusedSimpArgs false
set_option linter.unusedVariables false
namespace Go.Am
open Go Go.Proofs
set_option maxRecDepth 100000
set_option linter.unusedVariables false

theorem c3 : CdOk 3 Tryz.f3 := ⟨by kernel_rfl, by kernel_rfl⟩
noncomputable def b3 (n p : Nat) : Code := bp n p (bodyA Tryz.f3)
noncomputable def C3 : Cfg := base [(24, G24), (25, G25), (26, G26), (27, G27), (28, G28), (29, G29), (30, G30), (31, G31)] [(3, Tryz.f3)] [(3, [(4, { drop := rs [(0, 6), (7, 59)], nt := [], nb := [] }), (5, { drop := rs [(0, 2), (3, 1), (8, 58)], nt := [], nb := [] })])] [] [] [] []
noncomputable def S3 (x0 : End) (x1 : Tab) (x2 : List Int) (x3 : Msg) (n : Nat) : Option AV := startK C3 n 3 Tryz.f3 [.agg (enc27 x0), .agg (enc29 x1), .sl .int x2 .none, .agg (enc25 x3)]
noncomputable def b5 (n p : Nat) : Code := bp n p (bodyA Tryz.f5)
theorem c57 : CdOk 57 Tryz.f57 := ⟨by kernel_rfl, by kernel_rfl⟩
noncomputable def b57 (n p : Nat) : Code := bp n p (bodyA Tryz.f57)
theorem c159 : CdOk 159 Tryz.f159 := ⟨by kernel_rfl, by kernel_rfl⟩
noncomputable def C57 : Cfg := base [(36, G36), (128, G128), (130, G130), (132, G132), (157, G157), (160, G160), (161, G161)] [(57, Tryz.f57), (158, Tryz.f158), (159, Tryz.f159), (218, Tryz.f218)] [(57, [(6, { drop := rs [(0, 7), (12, 1), (14, 107)], nt := [], nb := [] }), (7, { drop := rs [(0, 2), (6, 1), (12, 1), (15, 106)], nt := [], nb := [] }), (12, { drop := rs [(0, 2), (6, 1), (12, 1), (15, 55), (72, 49)], nt := [], nb := [] }), (15, { drop := rs [(0, 7), (12, 1), (14, 107)], nt := [], nb := [] }), (16, { drop := rs [(0, 2), (6, 1), (12, 1), (15, 55), (72, 49)], nt := [], nb := [] })]), (158, []), (159, []), (218, [(2, { drop := rs [(4, 3), (9, 10)], nt := [], nb := [] })])] [] [] [(0, some 3, .cell), (0, some 11, .spot), (0, some 12, .spot), (0, some 19, .spot), (0, some 20, .spot), (0, some 26, .spot), (0, some 27, .spot), (1, some 5, .spot), (1, some 6, .spot)] []
noncomputable def S57 (x0 : End) (x1 : Tab) (x2 : List Int) (x3 : List Spot) (x4 : Int) (n : Nat) : Option AV := startK C57 n 57 Tryz.f57 [.agg (enc27 x0), .agg (enc29 x1), .sl .int x2 .none, .sl .spot x3 .none, .int .i64 x4]
noncomputable def J57_6 (x0 x1 x2 : Int) (x3 : Bool) (x4 x5 : Int) (x6 : Bool) (x7 x8 x9 : Int) (x10 : Bool) (x11 : Int) (x12 : Bool) (x13 x14 x15 x16 : Int) (x17 : Bool) (x18 x19 x20 x21 : Int) (x22 : Bool) (x23 x24 x25 : Int) : St := ⟨7, ⟨57, ap (un 10) (ap [.ptr 0 10 0, .ptr 0 11 0, .undef, .fn 157 [] []] (un 107)), aq (nb 10) (aq [[.int .i64 x0, .int .i64 x1, .int .i64 x2, .nilS, .bool x3, .int .i64 x4, .int .i64 x5, .bool x6, .int .i64 x7, .int .i64 x8, .int .i64 x9, .nilS, .nilS, .bool x10, .int .i64 x11, .bool x12, .int .i64 x13, .int .i64 x14, .int .i64 x15, .nilS, .nilS, .int .i64 x16, .bool x17, .int .i64 x18, .int .i64 x19, .int .i64 x20, .nilS, .nilS], [.int .i64 x21, .bool x22, .int .i64 x23, .int .i64 x24, .int .i64 x25, .nilS, .nilS]] (nb 109)), [.code (b57 10 231), .code (b57 10 743), .inBlock 0, .code (b57 4 15)]⟩, []⟩
noncomputable def J57_7 (x0 : List Int) (x1 : List Spot) (x2 : Int) (x3 : End) (x4 x5 x6 : Int) (x7 : Bool) (x8 x9 : Int) (x10 : Bool) (x11 x12 x13 : Int) (x14 : Bool) (x15 : Int) (x16 : Bool) (x17 x18 x19 x20 : Int) (x21 : Bool) (x22 x23 x24 x25 : Int) (x26 : Bool) (x27 x28 x29 : Int) (x30 : Tab) : St := ⟨8, ⟨57, ap [.undef, .undef, .sl .int x0 .none, .sl .spot x1 .none, .int .i64 x2, .ptr 0 5 0] (ap (un 4) (ap [.ptr 0 10 0, .ptr 0 11 0, .undef, .fn 157 [] [], .ptr 0 14 0] (un 106))), aq (nb 5) (aq [(enc27 x3)] (aq (nb 4) (aq [[.int .i64 x4, .int .i64 x5, .int .i64 x6, .nilS, .bool x7, .int .i64 x8, .int .i64 x9, .bool x10, .int .i64 x11, .int .i64 x12, .int .i64 x13, .nilS, .nilS, .bool x14, .int .i64 x15, .bool x16, .int .i64 x17, .int .i64 x18, .int .i64 x19, .nilS, .nilS, .int .i64 x20, .bool x21, .int .i64 x22, .int .i64 x23, .int .i64 x24, .nilS, .nilS], [.int .i64 x25, .bool x26, .int .i64 x27, .int .i64 x28, .int .i64 x29, .nilS, .nilS], [], [], (enc29 x30)] (nb 106)))), [.code (b57 10 487), .code (b57 10 999), .inBlock 0, .code (b57 4 15)]⟩, []⟩
noncomputable def J57_2_218_0 (x0 : List Spot) (x1 x2 : Int) (x3 : List Spot) (x4 : Bool) (x5 : List Spot) (x6 : List Int) (x7 : List Spot) (x8 : Int) (x9 x10 : Bool) (x11 : List Spot) (x12 : End) (x13 x14 x15 : Int) (x16 : Bool) (x17 x18 : Int) (x19 : Bool) (x20 x21 x22 : Int) (x23 : Bool) (x24 : Int) (x25 : Bool) (x26 x27 x28 x29 : Int) (x30 : Bool) (x31 x32 x33 x34 : Int) (x35 : Bool) (x36 x37 x38 : Int) (x39 : Tab) : St := ⟨3, ⟨218, ap [.sl .spot x0 .none, .fn 159 [] [.ptr 2 5 0]] (ap (un 5) (ap [.int .i64 x1, .int .i64 x2] (un 10))), nb 19, [.code (b218 6 5), .code (b218 6 37), .inLoop (b218 5 5), .inBlock 0, .code (b218 2 3)]⟩, [⟨158, ap [.sl .spot x3 .none, .fn 159 [] [.ptr 1 5 0], .undef, .undef, .bool x4, .sl .spot x5 .none, .fn 159 [] [.ptr 1 5 0]] (un 2), nb 9, [.inRegion (opsA (b158 2 1)) (fr 2 3), .code (b158 2 3)]⟩, ⟨57, ap [.undef, .undef, .sl .int x6 .none, .sl .spot x7 .none, .int .i64 x8, .ptr 0 5 0] (ap (un 4) (ap [.ptr 0 10 0, .ptr 0 11 0, .undef, .fn 157 [] [], .ptr 0 14 0] (ap (un 37) (ap [.bool x9, .ptr 0 5 4, .bool x10] (ap (un 6) (ap [.sl .spot x11 .none, .fn 159 [] [.ptr 0 5 0]] (un 58))))))), aq (nb 5) (aq [(enc27 x12)] (aq (nb 4) (aq [[.int .i64 x13, .int .i64 x14, .int .i64 x15, .nilS, .bool x16, .int .i64 x17, .int .i64 x18, .bool x19, .int .i64 x20, .int .i64 x21, .int .i64 x22, .nilS, .nilS, .bool x23, .int .i64 x24, .bool x25, .int .i64 x26, .int .i64 x27, .int .i64 x28, .nilS, .nilS, .int .i64 x29, .bool x30, .int .i64 x31, .int .i64 x32, .int .i64 x33, .nilS, .nilS], [.int .i64 x34, .bool x35, .int .i64 x36, .int .i64 x37, .int .i64 x38, .nilS, .nilS], [], [], (enc29 x39)] (nb 106)))), [.inRegion (opsA (b57 12 2023)) (fr 2 2), .code (b57 12 4071), .inBlock 0, .code (b57 4 15)]⟩]⟩
noncomputable def J57_12 (x0 : List Int) (x1 : List Spot) (x2 x3 x4 : Int) (x5 : End) (x6 x7 x8 : Int) (x9 : Bool) (x10 x11 : Int) (x12 : Bool) (x13 x14 x15 : Int) (x16 : Bool) (x17 : Int) (x18 : Bool) (x19 x20 x21 x22 : Int) (x23 : Bool) (x24 x25 x26 x27 : Int) (x28 : Bool) (x29 x30 x31 : Int) (x32 : Tab) : St := ⟨13, ⟨57, ap [.undef, .undef, .sl .int x0 .none, .sl .spot x1 .none, .int .i64 x2, .ptr 0 5 0] (ap (un 4) (ap [.ptr 0 10 0, .ptr 0 11 0, .undef, .fn 157 [] [], .ptr 0 14 0] (ap (un 55) (ap [.int .i64 x3, .int .i64 x4] (un 49))))), aq (nb 5) (aq [(enc27 x5)] (aq (nb 4) (aq [[.int .i64 x6, .int .i64 x7, .int .i64 x8, .nilS, .bool x9, .int .i64 x10, .int .i64 x11, .bool x12, .int .i64 x13, .int .i64 x14, .int .i64 x15, .nilS, .nilS, .bool x16, .int .i64 x17, .bool x18, .int .i64 x19, .int .i64 x20, .int .i64 x21, .nilS, .nilS, .int .i64 x22, .bool x23, .int .i64 x24, .int .i64 x25, .int .i64 x26, .nilS, .nilS], [.int .i64 x27, .bool x28, .int .i64 x29, .int .i64 x30, .int .i64 x31, .nilS, .nilS], [], [], (enc29 x32)] (nb 106)))), [.code (b57 9 47), .code (b57 9 303), .inLoop (b57 8 47), .inBlock 1, .code (b57 5 31)]⟩, []⟩
noncomputable def J57_15 (x0 x1 x2 : Int) (x3 : Bool) (x4 x5 : Int) (x6 : Bool) (x7 x8 x9 : Int) (x10 : Bool) (x11 : Int) (x12 : Bool) (x13 x14 x15 x16 : Int) (x17 : Bool) (x18 x19 x20 x21 : Int) (x22 : Bool) (x23 x24 x25 : Int) : St := ⟨16, ⟨57, ap (un 10) (ap [.ptr 0 10 0, .ptr 0 11 0, .undef, .fn 157 [] []] (un 107)), aq (nb 10) (aq [[.int .i64 x0, .int .i64 x1, .int .i64 x2, .nilS, .bool x3, .int .i64 x4, .int .i64 x5, .bool x6, .int .i64 x7, .int .i64 x8, .int .i64 x9, .nilS, .nilS, .bool x10, .int .i64 x11, .bool x12, .int .i64 x13, .int .i64 x14, .int .i64 x15, .nilS, .nilS, .int .i64 x16, .bool x17, .int .i64 x18, .int .i64 x19, .int .i64 x20, .nilS, .nilS], [.int .i64 x21, .bool x22, .int .i64 x23, .int .i64 x24, .int .i64 x25, .nilS, .nilS]] (nb 109)), [.code (b57 16 13103), .code (b57 16 45871), .inBlock 2, .code (b57 11 1839), .inLoop (b57 8 47), .inBlock 1, .code (b57 5 31)]⟩, []⟩
noncomputable def J57_16 (x0 : List Int) (x1 : List Spot) (x2 x3 x4 : Int) (x5 : End) (x6 x7 x8 : Int) (x9 : Bool) (x10 x11 : Int) (x12 : Bool) (x13 x14 x15 : Int) (x16 : Bool) (x17 : Int) (x18 : Bool) (x19 x20 x21 x22 : Int) (x23 : Bool) (x24 x25 x26 x27 : Int) (x28 : Bool) (x29 x30 x31 : Int) (x32 : Tab) : St := ⟨17, ⟨57, ap [.undef, .undef, .sl .int x0 .none, .sl .spot x1 .none, .int .i64 x2, .ptr 0 5 0] (ap (un 4) (ap [.ptr 0 10 0, .ptr 0 11 0, .undef, .fn 157 [] [], .ptr 0 14 0] (ap (un 55) (ap [.int .i64 x3, .int .i64 x4] (un 49))))), aq (nb 5) (aq [(enc27 x5)] (aq (nb 4) (aq [[.int .i64 x6, .int .i64 x7, .int .i64 x8, .nilS, .bool x9, .int .i64 x10, .int .i64 x11, .bool x12, .int .i64 x13, .int .i64 x14, .int .i64 x15, .nilS, .nilS, .bool x16, .int .i64 x17, .bool x18, .int .i64 x19, .int .i64 x20, .int .i64 x21, .nilS, .nilS, .int .i64 x22, .bool x23, .int .i64 x24, .int .i64 x25, .int .i64 x26, .nilS, .nilS], [.int .i64 x27, .bool x28, .int .i64 x29, .int .i64 x30, .int .i64 x31, .nilS, .nilS], [], [], (enc29 x32)] (nb 106)))), [.code (b57 11 1839), .inLoop (b57 8 47), .inBlock 1, .code (b57 5 31)]⟩, []⟩
noncomputable abbrev cd57 : Cod (End × Msg × Int) := (codT3 cod27 cod25 codI)
noncomputable def tS57 (x0 : End) (x1 : Tab) (x2 : List Int) (x3 : List Spot) (x4 : Int) : Tr (End × Msg × Int) :=
  .cond ((V36 x1 x0).isSome)
  (.cond (!(decide (((F36 x1 x0).2) = 0)))
    (.cond ((V157 ((F36 x1 x0).2)).isSome)
      (.some ((F157 ((F36 x1 x0).2)).1, (F157 ((F36 x1 x0).2)).2.1, (F157 ((F36 x1 x0).2)).2.2))
      (.none))
    (.cond ((V128 x4 1099511627776).isSome)
      (.cond (!(F128 x4 1099511627776))
        (.go (J57_6 0 0 0 false 0 0 false 0 0 0 false 0 false 0 0 0 0 false 0 0 0 0 false 0 0 0))
        (.cond (decide (((x3).length : Int) < 1))
          (.go (J57_6 0 0 0 false 0 0 false 0 0 0 false 0 false 0 0 0 0 false 0 0 0 0 false 0 0 0))
          (.cond (decide (8 < ((x3).length : Int)))
            (.go (J57_6 0 0 0 false 0 0 false 0 0 0 false 0 false 0 0 0 0 false 0 0 0 0 false 0 0 0))
            (.go (J57_7 x2 x3 x4 x0 0 0 0 false 0 0 false 0 0 0 false 0 false 0 0 0 0 false 0 0 0 0 false 0 0 0 ((F36 x1 x0).1))))))
      (.none)))
  (.none)
theorem eS57 (x0 : End) (x1 : Tab) (x2 : List Int) (x3 : List Spot) (x4 : Int) : vlim cd57 (S57 x0 x1 x2 x3 x4) = (tS57 x0 x1 x2 x3 x4).val cd57 C57 := Tr.val_eq 55 (fun H z => by kernel_rfl)
noncomputable def tJ57_6 (x0 x1 x2 : Int) (x3 : Bool) (x4 x5 : Int) (x6 : Bool) (x7 x8 x9 : Int) (x10 : Bool) (x11 : Int) (x12 : Bool) (x13 x14 x15 x16 : Int) (x17 : Bool) (x18 x19 x20 x21 : Int) (x22 : Bool) (x23 x24 x25 : Int) : Tr (End × Msg × Int) :=
  .cond ((V157 2).isSome)
  (.some ((F157 2).1, (F157 2).2.1, (F157 2).2.2))
  (.none)
theorem eJ57_6 (x0 x1 x2 : Int) (x3 : Bool) (x4 x5 : Int) (x6 : Bool) (x7 x8 x9 : Int) (x10 : Bool) (x11 : Int) (x12 : Bool) (x13 x14 x15 x16 : Int) (x17 : Bool) (x18 x19 x20 x21 : Int) (x22 : Bool) (x23 x24 x25 : Int) : lv cd57 C57 (J57_6 x0 x1 x2 x3 x4 x5 x6 x7 x8 x9 x10 x11 x12 x13 x14 x15 x16 x17 x18 x19 x20 x21 x22 x23 x24 x25) = (tJ57_6 x0 x1 x2 x3 x4 x5 x6 x7 x8 x9 x10 x11 x12 x13 x14 x15 x16 x17 x18 x19 x20 x21 x22 x23 x24 x25).val cd57 C57 := Tr.lv_eq 13 (fun H z => by kernel_rfl)
noncomputable def tJ57_7 (x0 : List Int) (x1 : List Spot) (x2 : Int) (x3 : End) (x4 x5 x6 : Int) (x7 : Bool) (x8 x9 : Int) (x10 : Bool) (x11 x12 x13 : Int) (x14 : Bool) (x15 : Int) (x16 : Bool) (x17 x18 x19 x20 : Int) (x21 : Bool) (x22 x23 x24 x25 : Int) (x26 : Bool) (x27 x28 x29 : Int) (x30 : Tab) : Tr (End × Msg × Int) :=
  .cond x3.opn
  (.cond ((V157 12).isSome)
    (.some ((F157 12).1, (F157 12).2.1, (F157 12).2.2))
    (.none))
  (.go (J57_2_218_0 x1 ((x1).length : Int) 0 x1 false x1 x0 x1 x2 false x3.opn x1 x3 x4 x5 x6 x7 x8 x9 x10 x11 x12 x13 x14 x15 x16 x17 x18 x19 x20 x21 x22 x23 x24 x25 x26 x27 x28 x29 x30))
theorem eJ57_7 (x0 : List Int) (x1 : List Spot) (x2 : Int) (x3 : End) (x4 x5 x6 : Int) (x7 : Bool) (x8 x9 : Int) (x10 : Bool) (x11 x12 x13 : Int) (x14 : Bool) (x15 : Int) (x16 : Bool) (x17 x18 x19 x20 : Int) (x21 : Bool) (x22 x23 x24 x25 : Int) (x26 : Bool) (x27 x28 x29 : Int) (x30 : Tab) : lv cd57 C57 (J57_7 x0 x1 x2 x3 x4 x5 x6 x7 x8 x9 x10 x11 x12 x13 x14 x15 x16 x17 x18 x19 x20 x21 x22 x23 x24 x25 x26 x27 x28 x29 x30) = (tJ57_7 x0 x1 x2 x3 x4 x5 x6 x7 x8 x9 x10 x11 x12 x13 x14 x15 x16 x17 x18 x19 x20 x21 x22 x23 x24 x25 x26 x27 x28 x29 x30).val cd57 C57 := Tr.lv_eq 37 (fun H z => by kernel_rfl)
noncomputable def tJ57_2_218_0 (x0 : List Spot) (x1 x2 : Int) (x3 : List Spot) (x4 : Bool) (x5 : List Spot) (x6 : List Int) (x7 : List Spot) (x8 : Int) (x9 x10 : Bool) (x11 : List Spot) (x12 : End) (x13 x14 x15 : Int) (x16 : Bool) (x17 x18 : Int) (x19 : Bool) (x20 x21 x22 : Int) (x23 : Bool) (x24 : Int) (x25 : Bool) (x26 x27 x28 x29 : Int) (x30 : Bool) (x31 x32 x33 x34 : Int) (x35 : Bool) (x36 x37 x38 : Int) (x39 : Tab) : Tr (End × Msg × Int) :=
  .cond (decide (x2 < x1))
  (.cond (ib x2 x0)
    (.cond ((V160 x12 (nth .spot x0 x2) true).isSome)
      (.cond (!(F160 x12 (nth .spot x0 x2) true))
        (.cond (decide (0 ≤ x2))
          (.cond ((V157 7).isSome)
            (.some ((F157 7).1, (F157 7).2.1, (F157 7).2.2))
            (.none))
          (.go (J57_12 x6 x7 x8 ((x7).length : Int) 0 x12 x13 x14 x15 x16 x17 x18 x19 x20 x21 x22 x23 x24 x25 x26 x27 x28 x29 x30 x31 x32 x33 x34 x35 x36 x37 x38 x39)))
        (.cond (inR .i64 (x2 + 1))
          (.go (J57_2_218_0 x0 x1 (x2 + 1) x3 x4 x5 x6 x7 x8 x9 x10 x11 x12 x13 x14 x15 x16 x17 x18 x19 x20 x21 x22 x23 x24 x25 x26 x27 x28 x29 x30 x31 x32 x33 x34 x35 x36 x37 x38 x39))
          (.none)))
      (.none))
    (.none))
  (.go (J57_12 x6 x7 x8 ((x7).length : Int) 0 x12 x13 x14 x15 x16 x17 x18 x19 x20 x21 x22 x23 x24 x25 x26 x27 x28 x29 x30 x31 x32 x33 x34 x35 x36 x37 x38 x39))
theorem eJ57_2_218_0 (x0 : List Spot) (x1 x2 : Int) (x3 : List Spot) (x4 : Bool) (x5 : List Spot) (x6 : List Int) (x7 : List Spot) (x8 : Int) (x9 x10 : Bool) (x11 : List Spot) (x12 : End) (x13 x14 x15 : Int) (x16 : Bool) (x17 x18 : Int) (x19 : Bool) (x20 x21 x22 : Int) (x23 : Bool) (x24 : Int) (x25 : Bool) (x26 x27 x28 x29 : Int) (x30 : Bool) (x31 x32 x33 x34 : Int) (x35 : Bool) (x36 x37 x38 : Int) (x39 : Tab) : lv cd57 C57 (J57_2_218_0 x0 x1 x2 x3 x4 x5 x6 x7 x8 x9 x10 x11 x12 x13 x14 x15 x16 x17 x18 x19 x20 x21 x22 x23 x24 x25 x26 x27 x28 x29 x30 x31 x32 x33 x34 x35 x36 x37 x38 x39) = (tJ57_2_218_0 x0 x1 x2 x3 x4 x5 x6 x7 x8 x9 x10 x11 x12 x13 x14 x15 x16 x17 x18 x19 x20 x21 x22 x23 x24 x25 x26 x27 x28 x29 x30 x31 x32 x33 x34 x35 x36 x37 x38 x39).val cd57 C57 := Tr.lv_eq 65 (fun H z => by kernel_rfl)
noncomputable def tJ57_12 (x0 : List Int) (x1 : List Spot) (x2 x3 x4 : Int) (x5 : End) (x6 x7 x8 : Int) (x9 : Bool) (x10 x11 : Int) (x12 : Bool) (x13 x14 x15 : Int) (x16 : Bool) (x17 : Int) (x18 : Bool) (x19 x20 x21 x22 : Int) (x23 : Bool) (x24 x25 x26 x27 : Int) (x28 : Bool) (x29 x30 x31 : Int) (x32 : Tab) : Tr (End × Msg × Int) :=
  .cond (decide (x4 < x3))
  (.cond (decide (0 < x4))
    (.cond (inR .i64 (x4 - 1))
      (.cond (ib (x4 - 1) x1)
        (.cond (ib x4 x1)
          (.cond (decide (((nth .spot x1 x4).sslot) ≤ ((nth .spot x1 (x4 - 1)).sslot)))
            (.go (J57_15 x6 x7 x8 x9 x10 x11 x12 x13 x14 x15 x16 x17 x18 x19 x20 x21 x22 x23 x24 x25 x26 x27 x28 x29 x30 x31))
            (.go (J57_16 x0 x1 x2 x3 x4 x5 x6 x7 x8 x9 x10 x11 x12 x13 x14 x15 x16 x17 x18 x19 x20 x21 x22 x23 x24 x25 x26 x27 x28 x29 x30 x31 x32)))
          (.none))
        (.none))
      (.none))
    (.go (J57_16 x0 x1 x2 x3 x4 x5 x6 x7 x8 x9 x10 x11 x12 x13 x14 x15 x16 x17 x18 x19 x20 x21 x22 x23 x24 x25 x26 x27 x28 x29 x30 x31 x32)))
  (.cond ((V130 x32 x0 8).isSome)
    (.cond (decide (((F130 x32 x0 8).length : Int) < ((x1).length : Int)))
      (.cond ((V157 14).isSome)
        (.some ((F157 14).1, (F157 14).2.1, (F157 14).2.2))
        (.none))
      (.cond ((V161 x1).isSome)
        (.cond ((V132 x5 (⟨3, false, 0, 0, ((x1).length : Int), F130 x32 x0 8, F161 x1⟩ : Msg) x2).isSome)
          (.some ((F132 x5 (⟨3, false, 0, 0, ((x1).length : Int), F130 x32 x0 8, F161 x1⟩ : Msg) x2).1, (F132 x5 (⟨3, false, 0, 0, ((x1).length : Int), F130 x32 x0 8, F161 x1⟩ : Msg) x2).2.1, (F132 x5 (⟨3, false, 0, 0, ((x1).length : Int), F130 x32 x0 8, F161 x1⟩ : Msg) x2).2.2))
          (.none))
        (.none)))
    (.none))
theorem eJ57_12 (x0 : List Int) (x1 : List Spot) (x2 x3 x4 : Int) (x5 : End) (x6 x7 x8 : Int) (x9 : Bool) (x10 x11 : Int) (x12 : Bool) (x13 x14 x15 : Int) (x16 : Bool) (x17 : Int) (x18 : Bool) (x19 x20 x21 x22 : Int) (x23 : Bool) (x24 x25 x26 x27 : Int) (x28 : Bool) (x29 x30 x31 : Int) (x32 : Tab) : lv cd57 C57 (J57_12 x0 x1 x2 x3 x4 x5 x6 x7 x8 x9 x10 x11 x12 x13 x14 x15 x16 x17 x18 x19 x20 x21 x22 x23 x24 x25 x26 x27 x28 x29 x30 x31 x32) = (tJ57_12 x0 x1 x2 x3 x4 x5 x6 x7 x8 x9 x10 x11 x12 x13 x14 x15 x16 x17 x18 x19 x20 x21 x22 x23 x24 x25 x26 x27 x28 x29 x30 x31 x32).val cd57 C57 := Tr.lv_eq 37 (fun H z => by kernel_rfl)
noncomputable def tJ57_15 (x0 x1 x2 : Int) (x3 : Bool) (x4 x5 : Int) (x6 : Bool) (x7 x8 x9 : Int) (x10 : Bool) (x11 : Int) (x12 : Bool) (x13 x14 x15 x16 : Int) (x17 : Bool) (x18 x19 x20 x21 : Int) (x22 : Bool) (x23 x24 x25 : Int) : Tr (End × Msg × Int) :=
  .cond ((V157 5).isSome)
  (.some ((F157 5).1, (F157 5).2.1, (F157 5).2.2))
  (.none)
theorem eJ57_15 (x0 x1 x2 : Int) (x3 : Bool) (x4 x5 : Int) (x6 : Bool) (x7 x8 x9 : Int) (x10 : Bool) (x11 : Int) (x12 : Bool) (x13 x14 x15 x16 : Int) (x17 : Bool) (x18 x19 x20 x21 : Int) (x22 : Bool) (x23 x24 x25 : Int) : lv cd57 C57 (J57_15 x0 x1 x2 x3 x4 x5 x6 x7 x8 x9 x10 x11 x12 x13 x14 x15 x16 x17 x18 x19 x20 x21 x22 x23 x24 x25) = (tJ57_15 x0 x1 x2 x3 x4 x5 x6 x7 x8 x9 x10 x11 x12 x13 x14 x15 x16 x17 x18 x19 x20 x21 x22 x23 x24 x25).val cd57 C57 := Tr.lv_eq 13 (fun H z => by kernel_rfl)
noncomputable def tJ57_16 (x0 : List Int) (x1 : List Spot) (x2 x3 x4 : Int) (x5 : End) (x6 x7 x8 : Int) (x9 : Bool) (x10 x11 : Int) (x12 : Bool) (x13 x14 x15 : Int) (x16 : Bool) (x17 : Int) (x18 : Bool) (x19 x20 x21 x22 : Int) (x23 : Bool) (x24 x25 x26 x27 : Int) (x28 : Bool) (x29 x30 x31 : Int) (x32 : Tab) : Tr (End × Msg × Int) :=
  .cond (inR .i64 (x4 + 1))
  (.go (J57_12 x0 x1 x2 x3 (x4 + 1) x5 x6 x7 x8 x9 x10 x11 x12 x13 x14 x15 x16 x17 x18 x19 x20 x21 x22 x23 x24 x25 x26 x27 x28 x29 x30 x31 x32))
  (.none)
theorem eJ57_16 (x0 : List Int) (x1 : List Spot) (x2 x3 x4 : Int) (x5 : End) (x6 x7 x8 : Int) (x9 : Bool) (x10 x11 : Int) (x12 : Bool) (x13 x14 x15 : Int) (x16 : Bool) (x17 : Int) (x18 : Bool) (x19 x20 x21 x22 : Int) (x23 : Bool) (x24 x25 x26 x27 : Int) (x28 : Bool) (x29 x30 x31 : Int) (x32 : Tab) : lv cd57 C57 (J57_16 x0 x1 x2 x3 x4 x5 x6 x7 x8 x9 x10 x11 x12 x13 x14 x15 x16 x17 x18 x19 x20 x21 x22 x23 x24 x25 x26 x27 x28 x29 x30 x31 x32) = (tJ57_16 x0 x1 x2 x3 x4 x5 x6 x7 x8 x9 x10 x11 x12 x13 x14 x15 x16 x17 x18 x19 x20 x21 x22 x23 x24 x25 x26 x27 x28 x29 x30 x31 x32).val cd57 C57 := Tr.lv_eq 9 (fun H z => by kernel_rfl)
noncomputable def V57 (x0 : End) (x1 : Tab) (x2 : List Int) (x3 : List Spot) (x4 : Int) : Option (End × Msg × Int) := vlim cd57 (S57 x0 x1 x2 x3 x4)
noncomputable def F57 (x0 : End) (x1 : Tab) (x2 : List Int) (x3 : List Spot) (x4 : Int) : End × Msg × Int := (V57 x0 x1 x2 x3 x4).getD default
noncomputable def G57 : GE := mkG [(0, some 3, .cell), (0, some 11, .spot), (0, some 12, .spot), (0, some 19, .spot), (0, some 20, .spot), (0, some 26, .spot), (0, some 27, .spot), (1, some 2, .cell), (2, none, .int), (3, none, .spot)] (cod27.a (cod29.a ((codS .int).a ((codS .spot).a (codI.a (.nil)))))) (fun x => V57 x.1 x.2.1 x.2.2.1 x.2.2.2.1 x.2.2.2.2.1) cd57
theorem ge57 : GeOk 57 G57 := ge_mk (C := C57) (base_ok (.cons ge36 (.cons ge128 (.cons ge130 (.cons ge132 (.cons ge157 (.cons ge160 (.cons ge161 .nil))))))) (.cons c57 (.cons c158 (.cons c159 (.cons c218 .nil)))) .nil) rfl c57 (fun _ => rfl) (by kernel_rfl)

end Go.Am
