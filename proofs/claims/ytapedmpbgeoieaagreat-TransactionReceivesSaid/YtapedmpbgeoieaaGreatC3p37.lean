/- Part 37 of the proof: FA5. -/
import Derived.Test.YtapedmpbgeoieaaGreatC3p29
import Derived.Test.YtapedmpbgeoieaaGreatC3p30
import Derived.Test.YtapedmpbgeoieaaGreatC3p31
import Derived.Test.YtapedmpbgeoieaaGreatC3p32
import Derived.Test.YtapedmpbgeoieaaGreatC3p34
import Derived.Test.YtapedmpbgeoieaaGreatC3p36
namespace Go.Am
open Go Go.Proofs
set_option maxRecDepth 100000
set_option linter.unusedVariables false

theorem c3 : CdOk 3 Tryz.f3 := ⟨by kernel_rfl, by kernel_rfl⟩
noncomputable def b3 (n p : Nat) : Code := bp n p (bodyA Tryz.f3)
noncomputable def C3 : Cfg := base [(24, G24), (25, G25), (26, G26), (27, G27), (28, G28), (29, G29), (30, G30), (31, G31)] [(3, Tryz.f3)] [(3, [(4, { drop := rs [(0, 6), (7, 59)], nt := [], nb := [] }), (5, { drop := rs [(0, 2), (3, 1), (8, 58)], nt := [], nb := [] })])] [] [] [] []
noncomputable def S3 (x0 : End) (x1 : Tab) (x2 : List Int) (x3 : Msg) (n : Nat) : Option AV := startK C3 n 3 Tryz.f3 [.agg (enc27 x0), .agg (enc29 x1), .sl .int x2 .none, .agg (enc25 x3)]
noncomputable def J3_4 : St := ⟨5, ⟨3, un 66, nb 66, [.code (b3 6 11), .code (b3 6 43), .code (b3 3 7)]⟩, []⟩
noncomputable def J3_5 (x0 : List Int) (x1 : End) (x2 : Tab) (x3 : Msg) : St := ⟨6, ⟨3, ap [.undef, .undef, .sl .int x0 .none, .undef, .ptr 0 4 0, .ptr 0 5 0, .undef, .ptr 0 7 0] (un 58), aq (nb 4) (aq [(enc27 x1), (enc29 x2), [], (enc25 x3)] (nb 58)), [.code (b3 4 7), .code (b3 4 15)]⟩, []⟩
noncomputable abbrev cd3 : Cod (Bool) := codB
noncomputable def tS3 (x0 : End) (x1 : Tab) (x2 : List Int) (x3 : Msg) : Tr (Bool) :=
  .cond V24.isSome
  (.cond (!F24)
    (.some false)
    (.cond ((V25 x0).isSome)
      (.cond (!(F25 x0))
        (.go J3_4)
        (.cond ((V26 x1).isSome)
          (.cond (!(F26 x1))
            (.go J3_4)
            (.cond (decide (600 < ((x2).length : Int)))
              (.go J3_4)
              (.cond ((V27 x3).isSome)
                (.cond (!(F27 x3))
                  (.go J3_4)
                  (.go (J3_5 x2 x0 x1 x3)))
                (.none))))
          (.none)))
      (.none)))
  (.none)
theorem eS3 (x0 : End) (x1 : Tab) (x2 : List Int) (x3 : Msg) : vlim cd3 (S3 x0 x1 x2 x3) = (tS3 x0 x1 x2 x3).val cd3 C3 := Tr.val_eq 43 (fun H z => by kernel_rfl)
noncomputable def tJ3_4 : Tr (Bool) :=
  .some true
theorem eJ3_4 : lv cd3 C3 (J3_4) = (tJ3_4).val cd3 C3 := Tr.lv_eq 6 (fun H z => by kernel_rfl)
noncomputable def tJ3_5 (x0 : List Int) (x1 : End) (x2 : Tab) (x3 : Msg) : Tr (Bool) :=
  .cond ((V28 x1 x2 x0 x3).isSome)
  (.cond ((V29 x1 x2 x0 x3).isSome)
    (.cond (decide (((F28 x1 x2 x0 x3).2.2) = ((F29 x1 x2 x0 x3).2.2)))
      (.cond ((V30 ((F28 x1 x2 x0 x3).1) ((F29 x1 x2 x0 x3).1)).isSome)
        (.cond (F30 ((F28 x1 x2 x0 x3).1) ((F29 x1 x2 x0 x3).1))
          (.cond ((V31 ((F28 x1 x2 x0 x3).2.1) ((F29 x1 x2 x0 x3).2.1)).isSome)
            (.some (F31 ((F28 x1 x2 x0 x3).2.1) ((F29 x1 x2 x0 x3).2.1)))
            (.none))
          (.some false))
        (.none))
      (.some false))
    (.none))
  (.none)
theorem eJ3_5 (x0 : List Int) (x1 : End) (x2 : Tab) (x3 : Msg) : lv cd3 C3 (J3_5 x0 x1 x2 x3) = (tJ3_5 x0 x1 x2 x3).val cd3 C3 := Tr.lv_eq 53 (fun H z => by kernel_rfl)
noncomputable def V3 (x0 : End) (x1 : Tab) (x2 : List Int) (x3 : Msg) : Option (Bool) := vlim cd3 (S3 x0 x1 x2 x3)
noncomputable def G3 : GE := mkG [(0, some 3, .cell), (0, some 11, .spot), (0, some 12, .spot), (0, some 19, .spot), (0, some 20, .spot), (0, some 26, .spot), (0, some 27, .spot), (1, some 2, .cell), (2, none, .int), (3, some 5, .spot), (3, some 6, .spot)] (cod27.a (cod29.a ((codS .int).a (cod25.a (.nil))))) (fun x => V3 x.1 x.2.1 x.2.2.1 x.2.2.2.1) cd3
theorem ge3 : GeOk 3 G3 := ge_mk (C := C3) (base_ok (.cons ge24 (.cons ge25 (.cons ge26 (.cons ge27 (.cons ge28 (.cons ge29 (.cons ge30 (.cons ge31 .nil)))))))) (.cons c3 .nil) .nil) rfl c3 (fun _ => rfl) (by kernel_rfl)
noncomputable def b5 (n p : Nat) : Code := bp n p (bodyA Tryz.f5)
end Go.Am
