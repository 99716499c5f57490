/- Part 39 of the proof: FA5. -/
import Derived.Test.YtapedmpbgeoieaaGreatC5p29
import Derived.Test.YtapedmpbgeoieaaGreatC5p30
import Derived.Test.YtapedmpbgeoieaaGreatC5p31
import Derived.Test.YtapedmpbgeoieaaGreatC5p32
import Derived.Test.YtapedmpbgeoieaaGreatC5p34
import Derived.Test.YtapedmpbgeoieaaGreatC5p38
set_option linter.unusedSimpArgs false
set_option linter.unusedVariables false
namespace Go.Am
open Go Go.Proofs
set_option maxRecDepth 100000
set_option linter.unusedVariables false

theorem c3 : CdOk 3 Tryz.f3 := ⟨by kernel_rfl, by kernel_rfl⟩
noncomputable def b3 (n p : Nat) : Code := bp n p (bodyA Tryz.f3)
noncomputable def C3 : Cfg := base [(24, G24), (25, G25), (26, G26), (27, G27), (28, G28), (29, G29), (30, G30), (31, G31)] [(3, Tryz.f3)] [(3, [(4, { drop := rs [(0, 6), (7, 59)], nt := [], nb := [] }), (5, { drop := rs [(0, 2), (3, 1), (8, 58)], nt := [], nb := [] })])] [] [] [] []
noncomputable def S3 (x0 : End) (x1 : Tab) (x2 : List Int) (x3 : Msg) (n : Nat) : Option AV := startK C3 n 3 Tryz.f3 [.agg (enc27 x0), .agg (enc29 x1), .sl .int x2 .none, .agg (enc25 x3)]
theorem c5 : CdOk 5 Tryz.f5 := ⟨by kernel_rfl, by kernel_rfl⟩
noncomputable def b5 (n p : Nat) : Code := bp n p (bodyA Tryz.f5)
noncomputable def C5 : Cfg := base [(24, G24), (28, G28), (30, G30), (32, G32), (34, G34), (35, G35), (36, G36), (37, G37), (38, G38), (39, G39)] [(5, Tryz.f5)] [(5, [(4, { drop := rs [(0, 7), (14, 201)], nt := [], nb := [] }), (5, { drop := rs [(14, 201)], nt := [], nb := [] }), (10, { drop := rs [(0, 7), (14, 201)], nt := [], nb := [] }), (11, { drop := rs [(0, 4), (14, 1), (19, 196)], nt := [], nb := [] }), (15, { drop := rs [(0, 4), (5, 2), (14, 1), (19, 4), (25, 190)], nt := [], nb := [] }), (21, { drop := rs [(0, 7), (14, 201)], nt := [], nb := [] }), (22, { drop := rs [(0, 7), (14, 1), (19, 4), (24, 4), (31, 184)], nt := [], nb := [] }), (38, { drop := rs [(0, 7), (14, 14), (29, 1), (31, 5), (37, 178)], nt := [], nb := [] })])] [] [] [] []
noncomputable def S5 (x0 : Int) (x1 : List Cell) (x2 x3 x4 : List Int) (x5 x6 : Int) (n : Nat) : Option AV := startK C5 n 5 Tryz.f5 [.int .u8 x0, .sl .cell x1 .none, .sl .u8 x2 .none, .sl .u8 x3 .none, .sl .int x4 .none, .int .u8 x5, .int .u8 x6]
noncomputable def J5_4 : St := ⟨5, ⟨5, un 215, nb 215, [.code (b5 6 11), .code (b5 6 43), .code (b5 3 7)]⟩, []⟩
noncomputable def J5_5 (x0 : Int) (x1 : List Cell) (x2 x3 x4 : List Int) (x5 x6 : Int) : St := ⟨6, ⟨5, ap [.int .u8 x0, .sl .cell x1 .none, .sl .u8 x2 .none, .sl .u8 x3 .none, .sl .int x4 .none, .int .u8 x5, .int .u8 x6] (un 208), nb 215, [.code (b5 4 7), .code (b5 4 15)]⟩, []⟩
noncomputable def J5_10 : St := ⟨11, ⟨5, un 215, nb 215, [.code (b5 11 383), .code (b5 11 1407), .code (b5 8 255)]⟩, []⟩
noncomputable def J5_11 (x0 : List Int) (x1 x2 : Int) (x3 x4 : End) (x5 x6 : Tab) : St := ⟨12, ⟨5, ap (un 4) (ap [.sl .int x0 .none, .int .u8 x1, .int .u8 x2] (ap (un 8) (ap [.ptr 0 15 0, .ptr 0 16 0, .ptr 0 17 0, .ptr 0 18 0] (un 196)))), aq (nb 15) (aq [(enc27 x3), (enc27 x4), (enc29 x5), (enc29 x6)] (nb 196)), [.code (b5 9 255), .code (b5 9 511)]⟩, []⟩
noncomputable def J5_15 (x0 : List Int) (x1 x2 : Int) (x3 x4 : End) (x5 x6 : Tab) : St := ⟨16, ⟨5, ap (un 4) (ap [.sl .int x0 .none] (ap (un 10) (ap [.ptr 0 15 0, .ptr 0 16 0, .ptr 0 17 0, .ptr 0 18 0] (ap (un 4) (ap [.int .i64 x1, .int .i64 x2] (un 190)))))), aq (nb 15) (aq [(enc27 x3), (enc27 x4), (enc29 x5), (enc29 x6)] (nb 196)), [.code (b5 12 2047), .code (b5 12 4095)]⟩, []⟩
noncomputable def J5_21 : St := ⟨22, ⟨5, un 215, nb 215, [.code (b5 19 98303), .code (b5 19 360447), .code (b5 16 65535)]⟩, []⟩
noncomputable def J5_22 (x0 : Int) (x1 x2 : End) (x3 x4 : Tab) (x5 : End) (x6 : Msg) (x7 : End) : St := ⟨23, ⟨5, ap (un 15) (ap [.ptr 0 15 0, .ptr 0 16 0, .ptr 0 17 0, .ptr 0 18 0] (ap (un 4) (ap [.int .i64 x0] (ap (un 4) (ap [.ptr 0 28 0, .ptr 0 29 0, .ptr 0 30 0] (un 184)))))), aq (nb 15) (aq [(enc27 x1), (enc27 x2), (enc29 x3), (enc29 x4)] (aq (nb 9) (aq [(enc27 x5), (enc25 x6), (enc27 x7)] (nb 184)))), [.code (b5 18 65535), .code (b5 18 196607), .code (b5 17 131071)]⟩, []⟩
noncomputable def J5_38 (x0 : Int) (x1 x2 : End) : St := ⟨39, ⟨5, ap (un 28) (ap [.ptr 0 28 0, .undef, .ptr 0 30 0] (ap (un 5) (ap [.int .i64 x0] (un 178)))), aq (nb 28) (aq [(enc27 x1), [], (enc27 x2)] (nb 184)), [.code (b5 22 2097151), .code (b5 22 4194303)]⟩, []⟩
noncomputable abbrev cd5 : Cod (Bool) := codB
noncomputable def tS5 (x0 : Int) (x1 : List Cell) (x2 x3 x4 : List Int) (x5 x6 : Int) : Tr (Bool) :=
  .cond V24.isSome
  (.cond (!F24)
    (.some false)
    (.cond (decide (20 < ((x1).length : Int)))
      (.go J5_4)
      (.cond (decide (8 < ((x2).length : Int)))
        (.go J5_4)
        (.cond (decide (8 < ((x3).length : Int)))
          (.go J5_4)
          (.cond (decide (20 < ((x4).length : Int)))
            (.go J5_4)
            (.go (J5_5 x0 x1 x2 x3 x4 x5 x6)))))))
  (.none)
theorem eS5 (x0 : Int) (x1 : List Cell) (x2 x3 x4 : List Int) (x5 x6 : Int) : vlim cd5 (S5 x0 x1 x2 x3 x4 x5 x6) = (tS5 x0 x1 x2 x3 x4 x5 x6).val cd5 C5 := Tr.val_eq 40 (fun H z => by kernel_rfl)
noncomputable def tJ5_4 : Tr (Bool) :=
  .some true
theorem eJ5_4 : lv cd5 C5 (J5_4) = (tJ5_4).val cd5 C5 := Tr.lv_eq 6 (fun H z => by kernel_rfl)
noncomputable def tJ5_5 (x0 : Int) (x1 : List Cell) (x2 x3 x4 : List Int) (x5 x6 : Int) : Tr (Bool) :=
  .cond ((V34 x0 x1).isSome)
  (.cond ((V35 1 x2).isSome)
    (.cond ((V35 2 x3).isSome)
      (.cond ((V36 (F35 1 x2) ((F34 x0 x1).1)).isSome)
        (.cond ((V36 (F35 2 x3) ((F34 x0 x1).2)).isSome)
          (.cond (!(decide (((F36 (F35 1 x2) ((F34 x0 x1).1)).2) = 0)))
            (.go J5_10)
            (.cond (!(decide (((F36 (F35 2 x3) ((F34 x0 x1).2)).2) = 0)))
              (.go J5_10)
              (.go (J5_11 x4 x5 x6 ((F34 x0 x1).1) ((F34 x0 x1).2) (F35 1 x2) (F35 2 x3)))))
          (.none))
        (.none))
      (.none))
    (.none))
  (.none)
theorem eJ5_5 (x0 : Int) (x1 : List Cell) (x2 x3 x4 : List Int) (x5 x6 : Int) : lv cd5 C5 (J5_5 x0 x1 x2 x3 x4 x5 x6) = (tJ5_5 x0 x1 x2 x3 x4 x5 x6).val cd5 C5 := Tr.lv_eq 63 (fun H z => by kernel_rfl)
noncomputable def tJ5_10 : Tr (Bool) :=
  .some true
theorem eJ5_10 : lv cd5 C5 (J5_10) = (tJ5_10).val cd5 C5 := Tr.lv_eq 6 (fun H z => by kernel_rfl)
noncomputable def tJ5_11 (x0 : List Int) (x1 x2 : Int) (x3 x4 : End) (x5 x6 : Tab) : Tr (Bool) :=
  .cond (inR .i64 (1 + (Int.tmod (IntKind.wrap .i64 x1) 6)))
  (.cond (inR .i64 (1 + (Int.tmod (IntKind.wrap .i64 x2) 3)))
    (.cond (decide (3 < (1 + (Int.tmod (IntKind.wrap .i64 x1) 6))))
      (.go (J5_15 x0 (1 + (Int.tmod (IntKind.wrap .i64 x1) 6)) 0 x3 x4 x5 x6))
      (.go (J5_15 x0 (1 + (Int.tmod (IntKind.wrap .i64 x1) 6)) (1 + (Int.tmod (IntKind.wrap .i64 x2) 3)) x3 x4 x5 x6)))
    (.none))
  (.none)
theorem eJ5_11 (x0 : List Int) (x1 x2 : Int) (x3 x4 : End) (x5 x6 : Tab) : lv cd5 C5 (J5_11 x0 x1 x2 x3 x4 x5 x6) = (tJ5_11 x0 x1 x2 x3 x4 x5 x6).val cd5 C5 := Tr.lv_eq 29 (fun H z => by kernel_rfl)
noncomputable def tJ5_15 (x0 : List Int) (x1 x2 : Int) (x3 x4 : End) (x5 x6 : Tab) : Tr (Bool) :=
  .cond ((V37 x3 x5 x0 x1 x2 0).isSome)
  (.cond (!(decide (((F37 x3 x5 x0 x1 x2 0).2.2) = 0)))
    (.some (decide (((F37 x3 x5 x0 x1 x2 0).2.2) = 14)))
    (.cond ((V28 x4 x6 x0 ((F37 x3 x5 x0 x1 x2 0).2.1)).isSome)
      (.cond ((V32 ((F37 x3 x5 x0 x1 x2 0).1) ((F28 x4 x6 x0 ((F37 x3 x5 x0 x1 x2 0).2.1)).2.1)).isSome)
        (.cond (!(decide (((F28 x4 x6 x0 ((F37 x3 x5 x0 x1 x2 0).2.1)).2.2) = 0)))
          (.go J5_21)
          (.cond (!(decide (((F32 ((F37 x3 x5 x0 x1 x2 0).1) ((F28 x4 x6 x0 ((F37 x3 x5 x0 x1 x2 0).2.1)).2.1)).2) = 0)))
            (.go J5_21)
            (.cond ((V38 ((F28 x4 x6 x0 ((F37 x3 x5 x0 x1 x2 0).2.1)).1)).isSome)
              (.cond (!(decide ((F38 ((F28 x4 x6 x0 ((F37 x3 x5 x0 x1 x2 0).2.1)).1)) = 0)))
                (.go J5_21)
                (.cond ((V38 ((F32 ((F37 x3 x5 x0 x1 x2 0).1) ((F28 x4 x6 x0 ((F37 x3 x5 x0 x1 x2 0).2.1)).2.1)).1)).isSome)
                  (.cond (!(decide ((F38 ((F32 ((F37 x3 x5 x0 x1 x2 0).1) ((F28 x4 x6 x0 ((F37 x3 x5 x0 x1 x2 0).2.1)).2.1)).1)) = 0)))
                    (.go J5_21)
                    (.cond (((F32 ((F37 x3 x5 x0 x1 x2 0).1) ((F28 x4 x6 x0 ((F37 x3 x5 x0 x1 x2 0).2.1)).2.1)).1).opn)
                      (.go J5_21)
                      (.cond (!(decide ((((F37 x3 x5 x0 x1 x2 0).1).num) = x3.num)))
                        (.go J5_21)
                        (.go (J5_22 x1 x3 x4 x5 x6 ((F28 x4 x6 x0 ((F37 x3 x5 x0 x1 x2 0).2.1)).1) ((F28 x4 x6 x0 ((F37 x3 x5 x0 x1 x2 0).2.1)).2.1) ((F32 ((F37 x3 x5 x0 x1 x2 0).1) ((F28 x4 x6 x0 ((F37 x3 x5 x0 x1 x2 0).2.1)).2.1)).1))))))
                  (.none)))
              (.none))))
        (.none))
      (.none)))
  (.none)
theorem eJ5_15 (x0 : List Int) (x1 x2 : Int) (x3 x4 : End) (x5 x6 : Tab) : lv cd5 C5 (J5_15 x0 x1 x2 x3 x4 x5 x6) = (tJ5_15 x0 x1 x2 x3 x4 x5 x6).val cd5 C5 := Tr.lv_eq 92 (fun H z => by kernel_rfl)
noncomputable def tJ5_21 : Tr (Bool) :=
  .some false
theorem eJ5_21 : lv cd5 C5 (J5_21) = (tJ5_21).val cd5 C5 := Tr.lv_eq 6 (fun H z => by kernel_rfl)
noncomputable def tJ5_22 (x0 : Int) (x1 x2 : End) (x3 x4 : Tab) (x5 : End) (x6 : Msg) (x7 : End) : Tr (Bool) :=
  .cond ((V36 x3 x7).isSome)
  (.cond (!(decide (((F36 x3 x7).2) = 0)))
    (.some false)
    (.cond ((V36 x4 x5).isSome)
      (.cond (!(decide (((F36 x4 x5).2) = 0)))
        (.some false)
        (.cond (!(decide (x6.code = 0)))
          (.cond ((V30 x5 x2).isSome)
            (.cond (F30 x5 x2)
              (.cond ((V30 x7 x1).isSome)
                (.some (F30 x7 x1))
                (.none))
              (.some false))
            (.none))
          (.cond (decide (x0 = 1))
            (.cond (inR .i64 (((x1.cl).length : Int) + x6.cnt))
              (.go (J5_38 (((x1.cl).length : Int) + x6.cnt) x5 x7))
              (.none))
            (.cond (decide (x0 = 2))
              (.cond (inR .i64 (((x1.cl).length : Int) - x6.cnt))
                (.go (J5_38 (((x1.cl).length : Int) - x6.cnt) x5 x7))
                (.none))
              (.cond (decide (x0 = 6))
                (.go (J5_38 0 x5 x7))
                (.go (J5_38 ((x1.cl).length : Int) x5 x7)))))))
      (.none)))
  (.none)
theorem eJ5_22 (x0 : Int) (x1 x2 : End) (x3 x4 : Tab) (x5 : End) (x6 : Msg) (x7 : End) : lv cd5 C5 (J5_22 x0 x1 x2 x3 x4 x5 x6 x7) = (tJ5_22 x0 x1 x2 x3 x4 x5 x6 x7).val cd5 C5 := Tr.lv_eq 86 (fun H z => by kernel_rfl)
noncomputable def tJ5_38 (x0 : Int) (x1 x2 : End) : Tr (Bool) :=
  .cond (decide (x2.num = x1.num))
  (.cond (decide (((x2.cl).length : Int) = x0))
    (.cond ((V39 x2.cl x1.cl).isSome)
      (.some (F39 x2.cl x1.cl))
      (.none))
    (.some false))
  (.some false)
theorem eJ5_38 (x0 : Int) (x1 x2 : End) : lv cd5 C5 (J5_38 x0 x1 x2) = (tJ5_38 x0 x1 x2).val cd5 C5 := Tr.lv_eq 25 (fun H z => by kernel_rfl)
noncomputable def V5 (x0 : Int) (x1 : List Cell) (x2 x3 x4 : List Int) (x5 x6 : Int) : Option (Bool) := vlim cd5 (S5 x0 x1 x2 x3 x4 x5 x6)
noncomputable def G5 : GE := mkG [(1, none, .cell), (2, none, .u8), (3, none, .u8), (4, none, .int)] (codU.a ((codS .cell).a ((codS .u8).a ((codS .u8).a ((codS .int).a (codU.a (codU.a (.nil)))))))) (fun x => V5 x.1 x.2.1 x.2.2.1 x.2.2.2.1 x.2.2.2.2.1 x.2.2.2.2.2.1 x.2.2.2.2.2.2.1) cd5
theorem ge5 : GeOk 5 G5 := ge_mk (C := C5) (base_ok (.cons ge24 (.cons ge28 (.cons ge30 (.cons ge32 (.cons ge34 (.cons ge35 (.cons ge36 (.cons ge37 (.cons ge38 (.cons ge39 .nil)))))))))) (.cons c5 .nil) .nil) rfl c5 (fun _ => rfl) (by kernel_rfl)
end Go.Am
