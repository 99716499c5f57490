/- Part 39 of the proof: FA7. -/
import Derived.Test.YtapedmpbgeoieaaGreatC11p29
import Derived.Test.YtapedmpbgeoieaaGreatC11p30
import Derived.Test.YtapedmpbgeoieaaGreatC11p32
import Derived.Test.YtapedmpbgeoieaaGreatC11p34
import Derived.Test.YtapedmpbgeoieaaGreatC11p37
import Derived.Test.YtapedmpbgeoieaaGreatC11p38
set_option linter.unusedSimpArgs false
set_option linter.unusedVariables false
namespace Go.Am
open Go Go.Proofs
set_option maxRecDepth 100000
set_option linter.unusedVariables false

theorem c11 : CdOk 11 Tryz.f11 := ⟨by kernel_rfl, by kernel_rfl⟩
noncomputable def b11 (n p : Nat) : Code := bp n p (bodyA Tryz.f11)
noncomputable def C11 : Cfg := base [(24, G24), (25, G25), (26, G26), (30, G30), (31, G31), (36, G36), (37, G37), (57, G57), (58, G58), (59, G59), (60, G60), (61, G61)] [(11, Tryz.f11)] [(11, [(4, { drop := rs [(0, 9), (14, 129)], nt := [], nb := [] }), (5, { drop := rs [(0, 2), (14, 129)], nt := [], nb := [] }), (8, { drop := rs [(0, 9), (14, 129)], nt := [], nb := [] }), (9, { drop := rs [(0, 2), (6, 1), (14, 129)], nt := [], nb := [] })])] [] [] [] []
noncomputable def S11 (x0 : End) (x1 : Tab) (x2 : List Int) (x3 x4 x5 : Int) (x6 : List Spot) (n : Nat) : Option AV := startK C11 n 11 Tryz.f11 [.agg (enc27 x0), .agg (enc29 x1), .sl .int x2 .none, .int .i64 x3, .int .i64 x4, .int .i64 x5, .sl .spot x6 .none]
noncomputable def J11_4 : St := ⟨5, ⟨11, un 143, nb 143, [.code (b11 6 11), .code (b11 6 43), .code (b11 3 7)]⟩, []⟩
noncomputable def J11_5 (x0 : List Int) (x1 x2 x3 : Int) (x4 : List Spot) (x5 : End) (x6 : Tab) : St := ⟨6, ⟨11, ap [.undef, .undef, .sl .int x0 .none, .int .i64 x1, .int .i64 x2, .int .i64 x3, .sl .spot x4 .none, .ptr 0 7 0, .ptr 0 8 0] (un 134), aq (nb 7) (aq [(enc27 x5), (enc29 x6)] (nb 134)), [.code (b11 4 7), .code (b11 4 15)]⟩, []⟩
noncomputable def J11_8 : St := ⟨9, ⟨11, un 143, nb 143, [.code (b11 9 95), .code (b11 9 351), .code (b11 6 63)]⟩, []⟩
noncomputable def J11_9 (x0 : List Int) (x1 x2 x3 : Int) (x4 : End) (x5 : Tab) : St := ⟨10, ⟨11, ap [.undef, .undef, .sl .int x0 .none, .int .i64 x1, .int .i64 x2, .int .i64 x3, .undef, .ptr 0 7 0, .ptr 0 8 0] (un 134), aq (nb 7) (aq [(enc27 x4), (enc29 x5)] (nb 134)), [.code (b11 7 63), .code (b11 7 127)]⟩, []⟩
noncomputable abbrev cd11 : Cod (Bool) := codB
noncomputable def tS11 (x0 : End) (x1 : Tab) (x2 : List Int) (x3 x4 x5 : Int) (x6 : List Spot) : Tr (Bool) :=
  .cond V24.isSome
  (.cond (!F24)
    (.some false)
    (.cond ((V25 x0).isSome)
      (.cond (!(F25 x0))
        (.go J11_4)
        (.cond ((V26 x1).isSome)
          (.cond (!(F26 x1))
            (.go J11_4)
            (.cond (decide (600 < ((x2).length : Int)))
              (.go J11_4)
              (.cond (decide (12 < ((x6).length : Int)))
                (.go J11_4)
                (.go (J11_5 x2 x3 x4 x5 x6 x0 x1)))))
          (.none)))
      (.none)))
  (.none)
theorem eS11 (x0 : End) (x1 : Tab) (x2 : List Int) (x3 x4 x5 : Int) (x6 : List Spot) : vlim cd11 (S11 x0 x1 x2 x3 x4 x5 x6) = (tS11 x0 x1 x2 x3 x4 x5 x6).val cd11 C11 := Tr.val_eq 42 (fun H z => by kernel_rfl)
noncomputable def tJ11_4 : Tr (Bool) :=
  .some true
theorem eJ11_4 : lv cd11 C11 (J11_4) = (tJ11_4).val cd11 C11 := Tr.lv_eq 6 (fun H z => by kernel_rfl)
noncomputable def tJ11_5 (x0 : List Int) (x1 x2 x3 : Int) (x4 : List Spot) (x5 : End) (x6 : Tab) : Tr (Bool) :=
  .cond ((V57 x5 x6 x0 x4 x3).isSome)
  (.cond ((V58 x5 x6 x0 x4 x3).isSome)
    (.cond (!(decide (((F57 x5 x6 x0 x4 x3).2.2) = ((F58 x5 x6 x0 x4 x3).2.2))))
      (.go J11_8)
      (.cond ((V30 ((F57 x5 x6 x0 x4 x3).1) ((F58 x5 x6 x0 x4 x3).1)).isSome)
        (.cond (!(F30 ((F57 x5 x6 x0 x4 x3).1) ((F58 x5 x6 x0 x4 x3).1)))
          (.go J11_8)
          (.cond ((V31 ((F57 x5 x6 x0 x4 x3).2.1) ((F58 x5 x6 x0 x4 x3).2.1)).isSome)
            (.cond (!(F31 ((F57 x5 x6 x0 x4 x3).2.1) ((F58 x5 x6 x0 x4 x3).2.1)))
              (.go J11_8)
              (.go (J11_9 x0 x1 x2 x3 x5 x6)))
            (.none)))
        (.none)))
    (.none))
  (.none)
theorem eJ11_5 (x0 : List Int) (x1 x2 x3 : Int) (x4 : List Spot) (x5 : End) (x6 : Tab) : lv cd11 C11 (J11_5 x0 x1 x2 x3 x4 x5 x6) = (tJ11_5 x0 x1 x2 x3 x4 x5 x6).val cd11 C11 := Tr.lv_eq 60 (fun H z => by kernel_rfl)
noncomputable def tJ11_9 (x0 : List Int) (x1 x2 x3 : Int) (x4 : End) (x5 : Tab) : Tr (Bool) :=
  .cond ((V36 x5 x4).isSome)
  (.cond ((V59 x5 x4).isSome)
    (.cond ((V37 x4 x5 x0 x1 x2 x3).isSome)
      (.cond ((V60 x4 x5 x0 x1 x2 x3).isSome)
        (.cond (decide (((F36 x5 x4).2) = ((F59 x5 x4).2)))
          (.cond (decide (((F37 x4 x5 x0 x1 x2 x3).2.2) = ((F60 x4 x5 x0 x1 x2 x3).2.2)))
            (.cond ((V61 ((F36 x5 x4).1) ((F59 x5 x4).1)).isSome)
              (.cond (F61 ((F36 x5 x4).1) ((F59 x5 x4).1))
                (.cond ((V30 ((F37 x4 x5 x0 x1 x2 x3).1) ((F60 x4 x5 x0 x1 x2 x3).1)).isSome)
                  (.cond (F30 ((F37 x4 x5 x0 x1 x2 x3).1) ((F60 x4 x5 x0 x1 x2 x3).1))
                    (.cond ((V31 ((F37 x4 x5 x0 x1 x2 x3).2.1) ((F60 x4 x5 x0 x1 x2 x3).2.1)).isSome)
                      (.some (F31 ((F37 x4 x5 x0 x1 x2 x3).2.1) ((F60 x4 x5 x0 x1 x2 x3).2.1)))
                      (.none))
                    (.some false))
                  (.none))
                (.some false))
              (.none))
            (.some false))
          (.some false))
        (.none))
      (.none))
    (.none))
  (.none)
theorem eJ11_9 (x0 : List Int) (x1 x2 x3 : Int) (x4 : End) (x5 : Tab) : lv cd11 C11 (J11_9 x0 x1 x2 x3 x4 x5) = (tJ11_9 x0 x1 x2 x3 x4 x5).val cd11 C11 := Tr.lv_eq 91 (fun H z => by kernel_rfl)
noncomputable def V11 (x0 : End) (x1 : Tab) (x2 : List Int) (x3 x4 x5 : Int) (x6 : List Spot) : Option (Bool) := vlim cd11 (S11 x0 x1 x2 x3 x4 x5 x6)
noncomputable def G11 : GE := mkG [(0, some 3, .cell), (0, some 11, .spot), (0, some 12, .spot), (0, some 19, .spot), (0, some 20, .spot), (0, some 26, .spot), (0, some 27, .spot), (1, some 2, .cell), (2, none, .int), (6, none, .spot)] (cod27.a (cod29.a ((codS .int).a (codI.a (codI.a (codI.a ((codS .spot).a (.nil)))))))) (fun x => V11 x.1 x.2.1 x.2.2.1 x.2.2.2.1 x.2.2.2.2.1 x.2.2.2.2.2.1 x.2.2.2.2.2.2.1) cd11
theorem ge11 : GeOk 11 G11 := ge_mk (C := C11) (base_ok (.cons ge24 (.cons ge25 (.cons ge26 (.cons ge30 (.cons ge31 (.cons ge36 (.cons ge37 (.cons ge57 (.cons ge58 (.cons ge59 (.cons ge60 (.cons ge61 .nil)))))))))))) (.cons c11 .nil) .nil) rfl c11 (fun _ => rfl) (by kernel_rfl)

end Go.Am
