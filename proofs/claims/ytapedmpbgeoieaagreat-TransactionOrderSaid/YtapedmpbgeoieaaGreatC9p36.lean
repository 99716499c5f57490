/- Part 36 of the proof: FA6. -/
import Derived.Test.YtapedmpbgeoieaaGreatC9p29
import Derived.Test.YtapedmpbgeoieaaGreatC9p30
import Derived.Test.YtapedmpbgeoieaaGreatC9p31
import Derived.Test.YtapedmpbgeoieaaGreatC9p32
import Derived.Test.YtapedmpbgeoieaaGreatC9p34
set_option linter.unusedSimpArgs false
set_option linter.unusedVariables false
namespace Go.Am
open Go Go.Proofs
set_option maxRecDepth 100000
set_option linter.unusedVariables false

theorem c9 : CdOk 9 Tryz.f9 := ⟨by kernel_rfl, by kernel_rfl⟩
noncomputable def b9 (n p : Nat) : Code := bp n p (bodyA Tryz.f9)
noncomputable def C9 : Cfg := base [(24, G24), (28, G28), (30, G30), (31, G31), (32, G32), (34, G34), (35, G35), (37, G37), (50, G50)] [(9, Tryz.f9)] [(9, [(4, { drop := rs [(0, 7), (14, 203)], nt := [], nb := [] }), (5, { drop := rs [(14, 203)], nt := [], nb := [] }), (10, { drop := rs [(0, 2), (3, 2), (14, 1), (21, 196)], nt := [], nb := [] }), (19, { drop := rs [(0, 7), (14, 203)], nt := [], nb := [] }), (20, { drop := rs [(0, 2), (3, 2), (14, 1), (16, 1), (18, 1), (23, 8), (32, 185)], nt := [], nb := [] })])] [] [] [] []
noncomputable def S9 (x0 : Int) (x1 : List Cell) (x2 : List Int) (x3 x4 x5 x6 : Int) (n : Nat) : Option AV := startK C9 n 9 Tryz.f9 [.int .u8 x0, .sl .cell x1 .none, .sl .int x2 .none, .int .u8 x3, .int .u8 x4, .int .u8 x5, .int .u8 x6]
noncomputable def J9_4 : St := ⟨5, ⟨9, un 217, nb 217, [.code (b9 6 11), .code (b9 6 43), .code (b9 3 7)]⟩, []⟩
noncomputable def J9_5 (x0 : Int) (x1 : List Cell) (x2 : List Int) (x3 x4 x5 x6 : Int) : St := ⟨6, ⟨9, ap [.int .u8 x0, .sl .cell x1 .none, .sl .int x2 .none, .int .u8 x3, .int .u8 x4, .int .u8 x5, .int .u8 x6] (un 210), nb 217, [.code (b9 4 7), .code (b9 4 15)]⟩, []⟩
noncomputable def J9_10 (x0 : List Int) (x1 x2 x3 x4 : Int) (x5 x6 : End) (x7 x8 : Tab) : St := ⟨11, ⟨9, ap [.undef, .undef, .sl .int x0 .none, .undef, .undef, .int .u8 x1, .int .u8 x2] (ap (un 8) (ap [.ptr 0 15 0, .ptr 0 16 0, .ptr 0 17 0, .ptr 0 18 0, .int .i64 x3, .int .i64 x4] (un 196))), aq (nb 15) (aq [(enc27 x5), (enc27 x6), (enc29 x7), (enc29 x8)] (nb 198)), [.code (b9 8 127), .code (b9 8 255)]⟩, []⟩
noncomputable def J9_19 : St := ⟨20, ⟨9, un 217, nb 217, [.code (b9 16 12287), .code (b9 16 45055), .code (b9 13 8191)]⟩, []⟩
noncomputable def J9_20 (x0 : List Int) (x1 x2 x3 x4 : Int) (x5 : End) (x6 : Tab) (x7 : End) (x8 x9 : Msg) : St := ⟨21, ⟨9, ap [.undef, .undef, .sl .int x0 .none, .undef, .undef, .int .u8 x1, .int .u8 x2] (ap (un 8) (ap [.ptr 0 15 0, .undef, .ptr 0 17 0, .undef, .int .i64 x3, .int .i64 x4, .ptr 0 21 0, .ptr 0 22 0] (ap (un 8) (ap [.ptr 0 31 0] (un 185))))), aq (nb 15) (aq [(enc27 x5), [], (enc29 x6)] (aq (nb 3) (aq [(enc27 x7), (enc25 x8)] (aq (nb 8) (aq [(enc25 x9)] (nb 185)))))), [.code (b9 14 8191), .code (b9 14 16383)]⟩, []⟩
noncomputable abbrev cd9 : Cod (Bool) := codB
noncomputable def tS9 (x0 : Int) (x1 : List Cell) (x2 : List Int) (x3 x4 x5 x6 : Int) : Tr (Bool) :=
  .cond V24.isSome
  (.cond (!F24)
    (.some false)
    (.cond (decide (20 < ((x1).length : Int)))
      (.go J9_4)
      (.cond (decide (20 < ((x2).length : Int)))
        (.go J9_4)
        (.go (J9_5 x0 x1 x2 x3 x4 x5 x6)))))
  (.none)
theorem eS9 (x0 : Int) (x1 : List Cell) (x2 : List Int) (x3 x4 x5 x6 : Int) : vlim cd9 (S9 x0 x1 x2 x3 x4 x5 x6) = (tS9 x0 x1 x2 x3 x4 x5 x6).val cd9 C9 := Tr.val_eq 30 (fun H z => by kernel_rfl)
noncomputable def tJ9_4 : Tr (Bool) :=
  .some true
theorem eJ9_4 : lv cd9 C9 (J9_4) = (tJ9_4).val cd9 C9 := Tr.lv_eq 6 (fun H z => by kernel_rfl)
noncomputable def tJ9_5 (x0 : Int) (x1 : List Cell) (x2 : List Int) (x3 x4 x5 x6 : Int) : Tr (Bool) :=
  .cond ((V34 x0 x1).isSome)
  (.cond ((V35 1 ([] : List Int)).isSome)
    (.cond ((V35 2 ([] : List Int)).isSome)
      (.cond (inR .i64 (1 + (Int.tmod (IntKind.wrap .i64 x3) 6)))
        (.cond (inR .i64 (1 + (Int.tmod (IntKind.wrap .i64 x4) 3)))
          (.cond (decide (3 < (1 + (Int.tmod (IntKind.wrap .i64 x3) 6))))
            (.go (J9_10 x2 x5 x6 (1 + (Int.tmod (IntKind.wrap .i64 x3) 6)) 0 ((F34 x0 x1).1) ((F34 x0 x1).2) (F35 1 ([] : List Int)) (F35 2 ([] : List Int))))
            (.go (J9_10 x2 x5 x6 (1 + (Int.tmod (IntKind.wrap .i64 x3) 6)) (1 + (Int.tmod (IntKind.wrap .i64 x4) 3)) ((F34 x0 x1).1) ((F34 x0 x1).2) (F35 1 ([] : List Int)) (F35 2 ([] : List Int)))))
          (.none))
        (.none))
      (.none))
    (.none))
  (.none)
theorem eJ9_5 (x0 : Int) (x1 : List Cell) (x2 : List Int) (x3 x4 x5 x6 : Int) : lv cd9 C9 (J9_5 x0 x1 x2 x3 x4 x5 x6) = (tJ9_5 x0 x1 x2 x3 x4 x5 x6).val cd9 C9 := Tr.lv_eq 48 (fun H z => by kernel_rfl)
noncomputable def tJ9_10 (x0 : List Int) (x1 x2 x3 x4 : Int) (x5 x6 : End) (x7 x8 : Tab) : Tr (Bool) :=
  .cond ((V37 x5 x7 x0 x3 x4 (IntKind.wrap .i64 x1)).isSome)
  (.cond (!(decide (((F37 x5 x7 x0 x3 x4 (IntKind.wrap .i64 x1)).2.2) = 0)))
    (.some (decide (((F37 x5 x7 x0 x3 x4 (IntKind.wrap .i64 x1)).2.2) = 14)))
    (.cond ((V37 ((F37 x5 x7 x0 x3 x4 (IntKind.wrap .i64 x1)).1) x7 x0 x3 x4 (IntKind.wrap .i64 x1)).isSome)
      (.cond (!(decide (((F37 ((F37 x5 x7 x0 x3 x4 (IntKind.wrap .i64 x1)).1) x7 x0 x3 x4 (IntKind.wrap .i64 x1)).2.2) = 12)))
        (.some false)
        (.cond ((V37 x6 x8 x0 4 0 0).isSome)
          (.cond ((V28 ((F37 x5 x7 x0 x3 x4 (IntKind.wrap .i64 x1)).1) x7 x0 ((F37 x6 x8 x0 4 0 0).2.1)).isSome)
            (.cond (!(decide (((F37 x6 x8 x0 4 0 0).2.2) = 0)))
              (.go J9_19)
              (.cond (!(decide (((F28 ((F37 x5 x7 x0 x3 x4 (IntKind.wrap .i64 x1)).1) x7 x0 ((F37 x6 x8 x0 4 0 0).2.1)).2.2) = 0)))
                (.go J9_19)
                (.cond (!(decide ((((F28 ((F37 x5 x7 x0 x3 x4 (IntKind.wrap .i64 x1)).1) x7 x0 ((F37 x6 x8 x0 4 0 0).2.1)).2.1).code) = 3)))
                  (.go J9_19)
                  (.go (J9_20 x0 x1 x2 x3 x4 x5 x7 ((F37 x5 x7 x0 x3 x4 (IntKind.wrap .i64 x1)).1) ((F37 x5 x7 x0 x3 x4 (IntKind.wrap .i64 x1)).2.1) ((F28 ((F37 x5 x7 x0 x3 x4 (IntKind.wrap .i64 x1)).1) x7 x0 ((F37 x6 x8 x0 4 0 0).2.1)).2.1))))))
            (.none))
          (.none)))
      (.none)))
  (.none)
theorem eJ9_10 (x0 : List Int) (x1 x2 x3 x4 : Int) (x5 x6 : End) (x7 x8 : Tab) : lv cd9 C9 (J9_10 x0 x1 x2 x3 x4 x5 x6 x7 x8) = (tJ9_10 x0 x1 x2 x3 x4 x5 x6 x7 x8).val cd9 C9 := Tr.lv_eq 109 (fun H z => by kernel_rfl)
noncomputable def tJ9_19 : Tr (Bool) :=
  .some false
theorem eJ9_19 : lv cd9 C9 (J9_19) = (tJ9_19).val cd9 C9 := Tr.lv_eq 6 (fun H z => by kernel_rfl)
noncomputable def tJ9_20 (x0 : List Int) (x1 x2 x3 x4 : Int) (x5 : End) (x6 : Tab) (x7 : End) (x8 x9 : Msg) : Tr (Bool) :=
  .cond (inR .i64 (x8.num + 1))
  (.cond ((V32 x7 (⟨x8.kind, x9.rep, Int.tmod (x8.num + 1) 256, x9.code, x9.cnt, x9.sp, x9.old⟩ : Msg)).isSome)
    (.cond (!(decide (((F32 x7 (⟨x8.kind, x9.rep, Int.tmod (x8.num + 1) 256, x9.code, x9.cnt, x9.sp, x9.old⟩ : Msg)).2) = 11)))
      (.some false)
      (.cond ((V32 x5 x9).isSome)
        (.cond (!(decide (((F32 x5 x9).2) = 12)))
          (.some false)
          (.cond (inR .i64 ((IntKind.wrap .i64 x1) + (IntKind.wrap .i64 x2)))
            (.cond ((V50 x7 ((IntKind.wrap .i64 x1) + (IntKind.wrap .i64 x2)) (IntKind.wrap .i64 x2)).isSome)
              (.cond (inR .i64 ((IntKind.wrap .i64 x1) + (IntKind.wrap .i64 x2)))
                (.cond (inR .i64 ((IntKind.wrap .i64 x2) + 1))
                  (.cond ((V50 x7 ((IntKind.wrap .i64 x1) + (IntKind.wrap .i64 x2)) ((IntKind.wrap .i64 x2) + 1)).isSome)
                    (.cond ((V37 ((F50 x7 ((IntKind.wrap .i64 x1) + (IntKind.wrap .i64 x2)) (IntKind.wrap .i64 x2)).1) x6 x0 x3 x4 (IntKind.wrap .i64 x1)).isSome)
                      (.cond ((F50 x7 ((IntKind.wrap .i64 x1) + (IntKind.wrap .i64 x2)) (IntKind.wrap .i64 x2)).2)
                        (.cond (!((F50 x7 ((IntKind.wrap .i64 x1) + (IntKind.wrap .i64 x2)) ((IntKind.wrap .i64 x2) + 1)).2))
                        (.cond (decide (((F37 ((F50 x7 ((IntKind.wrap .i64 x1) + (IntKind.wrap .i64 x2)) (IntKind.wrap .i64 x2)).1) x6 x0 x3 x4 (IntKind.wrap .i64 x1)).2.2) = 0))
                        (.cond ((V30 ((F50 x7 ((IntKind.wrap .i64 x1) + (IntKind.wrap .i64 x2)) (IntKind.wrap .i64 x2)).1) x5).isSome)
                        (.cond (F30 ((F50 x7 ((IntKind.wrap .i64 x1) + (IntKind.wrap .i64 x2)) (IntKind.wrap .i64 x2)).1) x5)
                        (.cond ((V30 ((F37 ((F50 x7 ((IntKind.wrap .i64 x1) + (IntKind.wrap .i64 x2)) (IntKind.wrap .i64 x2)).1) x6 x0 x3 x4 (IntKind.wrap .i64 x1)).1) x7).isSome)
                        (.cond (F30 ((F37 ((F50 x7 ((IntKind.wrap .i64 x1) + (IntKind.wrap .i64 x2)) (IntKind.wrap .i64 x2)).1) x6 x0 x3 x4 (IntKind.wrap .i64 x1)).1) x7)
                        (.cond ((V31 ((F37 ((F50 x7 ((IntKind.wrap .i64 x1) + (IntKind.wrap .i64 x2)) (IntKind.wrap .i64 x2)).1) x6 x0 x3 x4 (IntKind.wrap .i64 x1)).2.1) x8).isSome)
                        (.some (F31 ((F37 ((F50 x7 ((IntKind.wrap .i64 x1) + (IntKind.wrap .i64 x2)) (IntKind.wrap .i64 x2)).1) x6 x0 x3 x4 (IntKind.wrap .i64 x1)).2.1) x8))
                        (.none))
                        (.some false))
                        (.none))
                        (.some false))
                        (.none))
                        (.some false))
                        (.some false))
                        (.some false))
                      (.none))
                    (.none))
                  (.none))
                (.none))
              (.none))
            (.none)))
        (.none)))
    (.none))
  (.none)
theorem eJ9_20 (x0 : List Int) (x1 x2 x3 x4 : Int) (x5 : End) (x6 : Tab) (x7 : End) (x8 x9 : Msg) : lv cd9 C9 (J9_20 x0 x1 x2 x3 x4 x5 x6 x7 x8 x9) = (tJ9_20 x0 x1 x2 x3 x4 x5 x6 x7 x8 x9).val cd9 C9 := Tr.lv_eq 135 (fun H z => by kernel_rfl)
noncomputable def V9 (x0 : Int) (x1 : List Cell) (x2 : List Int) (x3 x4 x5 x6 : Int) : Option (Bool) := vlim cd9 (S9 x0 x1 x2 x3 x4 x5 x6)
noncomputable def G9 : GE := mkG [(1, none, .cell), (2, none, .int)] (codU.a ((codS .cell).a ((codS .int).a (codU.a (codU.a (codU.a (codU.a (.nil)))))))) (fun x => V9 x.1 x.2.1 x.2.2.1 x.2.2.2.1 x.2.2.2.2.1 x.2.2.2.2.2.1 x.2.2.2.2.2.2.1) cd9
theorem ge9 : GeOk 9 G9 := ge_mk (C := C9) (base_ok (.cons ge24 (.cons ge28 (.cons ge30 (.cons ge31 (.cons ge32 (.cons ge34 (.cons ge35 (.cons ge37 (.cons ge50 .nil))))))))) (.cons c9 .nil) .nil) rfl c9 (fun _ => rfl) (by kernel_rfl)
end Go.Am
