/- Part 34 of the proof: FA3. -/
import Derived.Test.YtapedmpbgeoieaaGreatC6p29
import Derived.Test.YtapedmpbgeoieaaGreatC6p30
import Derived.Test.YtapedmpbgeoieaaGreatC6p31
import Derived.Test.YtapedmpbgeoieaaGreatC6p32
set_option linter.unusedSimpArgs false
set_option linter.unusedVariables false
namespace Go.Am
open Go Go.Proofs
set_option maxRecDepth 100000
set_option linter.unusedVariables false

noncomputable def C56 : Cfg := base [(153, G153), (154, G154), (155, G155), (156, G156)] [(56, Tryz.f56)] [(56, [(2, { drop := rs [(0, 137)], nt := [], nb := [] }), (3, { drop := rs [(0, 1), (2, 135)], nt := [], nb := [] }), (4, { drop := rs [(0, 137)], nt := [], nb := [] }), (5, { drop := rs [(0, 1), (2, 135)], nt := [], nb := [] }), (8, { drop := rs [(0, 1), (2, 1), (4, 133)], nt := [], nb := [] }), (9, { drop := rs [(0, 1), (2, 1), (4, 133)], nt := [], nb := [] }), (11, { drop := rs [(0, 137)], nt := [], nb := [] }), (13, { drop := rs [(0, 137)], nt := [], nb := [] }), (14, { drop := rs [(0, 1), (2, 135)], nt := [], nb := [] }), (15, { drop := rs [(0, 137)], nt := [], nb := [] }), (16, { drop := rs [(0, 137)], nt := [], nb := [] })])] [] [] [] []
noncomputable def S56 (x0 : End) (n : Nat) : Option AV := startK C56 n 56 Tryz.f56 [.agg (enc27 x0)]
noncomputable abbrev cd56 : Cod (Int) := codI
noncomputable def V56 (x0 : End) : Option (Int) := vlim cd56 (S56 x0)
noncomputable def G56 : GE := mkG [(0, some 3, .cell), (0, some 11, .spot), (0, some 12, .spot), (0, some 19, .spot), (0, some 20, .spot), (0, some 26, .spot), (0, some 27, .spot)] (cod27.a (.nil)) (fun x => V56 x.1) cd56
noncomputable def C59 : Cfg := base [(56, G56), (123, G123), (153, G153), (165, G165)] [(59, Tryz.f59)] [(59, [(2, { drop := rs [(0, 4), (5, 52)], nt := [], nb := [] }), (3, { drop := rs [(0, 2), (5, 52)], nt := [], nb := [] }), (5, { drop := rs [(0, 3), (5, 1), (8, 49)], nt := [], nb := [] })])] [] [] [(0, some 2, .cell)] []
noncomputable def S59 (x0 : Tab) (x1 : End) (n : Nat) : Option AV := startK C59 n 59 Tryz.f59 [.agg (enc29 x0), .agg (enc27 x1)]
noncomputable abbrev cd59 : Cod (Tab × Int) := (codT2 cod29 codI)
noncomputable def V59 (x0 : Tab) (x1 : End) : Option (Tab × Int) := vlim cd59 (S59 x0 x1)
noncomputable def G59 : GE := mkG [(0, some 2, .cell), (1, some 3, .cell), (1, some 11, .spot), (1, some 12, .spot), (1, some 19, .spot), (1, some 20, .spot), (1, some 26, .spot), (1, some 27, .spot)] (cod29.a (cod27.a (.nil))) (fun x => V59 x.1 x.2.1) cd59
theorem c30 : CdOk 30 Tryz.f30 := ⟨by kernel_rfl, by kernel_rfl⟩
noncomputable def C30 : Cfg := base [(31, G31), (117, G117)] [(30, Tryz.f30)] [(30, [])] [] [] [] []
noncomputable def S30 (x0 x1 : End) (n : Nat) : Option AV := startK C30 n 30 Tryz.f30 [.agg (enc27 x0), .agg (enc27 x1)]
noncomputable abbrev cd30 : Cod (Bool) := codB
noncomputable def tS30 (x0 x1 : End) : Tr (Bool) :=
  .cond (decide (x0.nd = x1.nd))
  (.cond (decide (x0.pr = x1.pr))
    (.cond (decide (x0.num = x1.num))
      (.cond ((V117 x0.cl x1.cl).isSome)
        (.cond (F117 x0.cl x1.cl)
          (.cond (x0.opn == x1.opn)
            (.cond (decide (x0.snc = x1.snc))
              (.cond ((V31 x0.ask x1.ask).isSome)
                (.cond (F31 x0.ask x1.ask)
                  (.cond (x0.kn == x1.kn)
                    (.cond ((V31 x0.lst x1.lst).isSome)
                      (.cond (F31 x0.lst x1.lst)
                        (.cond ((V31 x0.rp x1.rp).isSome)
                        (.some (F31 x0.rp x1.rp))
                        (.none))
                        (.some false))
                      (.none))
                    (.some false))
                  (.some false))
                (.none))
              (.some false))
            (.some false))
          (.some false))
        (.none))
      (.some false))
    (.some false))
  (.some false)
theorem eS30 (x0 x1 : End) : vlim cd30 (S30 x0 x1) = (tS30 x0 x1).val cd30 C30 := Tr.val_eq 81 (fun H z => by kernel_rfl)
noncomputable def V30 (x0 x1 : End) : Option (Bool) := vlim cd30 (S30 x0 x1)
noncomputable def F30 (x0 x1 : End) : Bool := (V30 x0 x1).getD default
noncomputable def G30 : GE := mkG [(0, some 3, .cell), (0, some 11, .spot), (0, some 12, .spot), (0, some 19, .spot), (0, some 20, .spot), (0, some 26, .spot), (0, some 27, .spot), (1, some 3, .cell), (1, some 11, .spot), (1, some 12, .spot), (1, some 19, .spot), (1, some 20, .spot), (1, some 26, .spot), (1, some 27, .spot)] (cod27.a (cod27.a (.nil))) (fun x => V30 x.1 x.2.1) cd30
theorem ge30 : GeOk 30 G30 := ge_mk (C := C30) (base_ok (.cons ge31 (.cons ge117 .nil)) (.cons c30 .nil) .nil) rfl c30 (fun _ => rfl) (by kernel_rfl)
noncomputable def b4 (n p : Nat) : Code := bp n p (bodyA Tryz.f4)
theorem c6 : CdOk 6 Tryz.f6 := ⟨by kernel_rfl, by kernel_rfl⟩
noncomputable def b6 (n p : Nat) : Code := bp n p (bodyA Tryz.f6)
noncomputable def C6 : Cfg := base [(24, G24), (25, G25), (26, G26), (27, G27), (28, G28), (30, G30), (31, G31), (38, G38), (40, G40)] [(6, Tryz.f6)] [(6, [(4, { drop := rs [(0, 6), (7, 89)], nt := [], nb := [] }), (5, { drop := rs [(0, 2), (3, 1), (8, 88)], nt := [], nb := [] }), (10, { drop := rs [(0, 6), (7, 89)], nt := [], nb := [] }), (11, { drop := rs [(0, 4), (5, 1), (7, 2), (11, 85)], nt := [], nb := [] })])] [] [] [] []
noncomputable def S6 (x0 : End) (x1 : Tab) (x2 : List Int) (x3 : Msg) (n : Nat) : Option AV := startK C6 n 6 Tryz.f6 [.agg (enc27 x0), .agg (enc29 x1), .sl .int x2 .none, .agg (enc25 x3)]
noncomputable def J6_4 : St := ⟨5, ⟨6, un 96, nb 96, [.code (b6 6 11), .code (b6 6 43), .code (b6 3 7)]⟩, []⟩
noncomputable def J6_5 (x0 : List Int) (x1 : End) (x2 : Tab) (x3 : Msg) : St := ⟨6, ⟨6, ap [.undef, .undef, .sl .int x0 .none, .undef, .ptr 0 4 0, .ptr 0 5 0, .undef, .ptr 0 7 0] (un 88), aq (nb 4) (aq [(enc27 x1), (enc29 x2), [], (enc25 x3)] (nb 88)), [.code (b6 4 7), .code (b6 4 15)]⟩, []⟩
noncomputable def J6_10 : St := ⟨11, ⟨6, un 96, nb 96, [.code (b6 10 191), .code (b6 10 703), .code (b6 7 127)]⟩, []⟩
noncomputable def J6_11 (x0 x1 : End) (x2 : Msg) : St := ⟨12, ⟨6, ap (un 4) (ap [.ptr 0 4 0] (ap (un 4) (ap [.ptr 0 9 0, .ptr 0 10 0] (un 85)))), aq (nb 4) (aq [(enc27 x0)] (aq (nb 4) (aq [(enc27 x1), (enc25 x2)] (nb 85)))), [.code (b6 8 127), .code (b6 8 255)]⟩, []⟩
noncomputable abbrev cd6 : Cod (Bool) := codB
noncomputable def tS6 (x0 : End) (x1 : Tab) (x2 : List Int) (x3 : Msg) : Tr (Bool) :=
  .cond V24.isSome
  (.cond (!F24)
    (.some false)
    (.cond ((V25 x0).isSome)
      (.cond (!(F25 x0))
        (.go J6_4)
        (.cond ((V26 x1).isSome)
          (.cond (!(F26 x1))
            (.go J6_4)
            (.cond (decide (600 < ((x2).length : Int)))
              (.go J6_4)
              (.cond ((V27 x3).isSome)
                (.cond (!(F27 x3))
                  (.go J6_4)
                  (.go (J6_5 x2 x0 x1 x3)))
                (.none))))
          (.none)))
      (.none)))
  (.none)
theorem eS6 (x0 : End) (x1 : Tab) (x2 : List Int) (x3 : Msg) : vlim cd6 (S6 x0 x1 x2 x3) = (tS6 x0 x1 x2 x3).val cd6 C6 := Tr.val_eq 43 (fun H z => by kernel_rfl)
noncomputable def tJ6_4 : Tr (Bool) :=
  .some true
theorem eJ6_4 : lv cd6 C6 (J6_4) = (tJ6_4).val cd6 C6 := Tr.lv_eq 6 (fun H z => by kernel_rfl)
noncomputable def tJ6_5 (x0 : List Int) (x1 : End) (x2 : Tab) (x3 : Msg) : Tr (Bool) :=
  .cond ((V28 x1 x2 x0 x3).isSome)
  (.cond (!(decide (((F28 x1 x2 x0 x3).2.2) = 0)))
    (.cond ((V30 ((F28 x1 x2 x0 x3).1) (⟨0, 0, 0, ([] : List Cell), false, 0, (⟨0, false, 0, 0, 0, ([] : List Spot), ([] : List Spot)⟩ : Msg), false, (⟨0, false, 0, 0, 0, ([] : List Spot), ([] : List Spot)⟩ : Msg), (⟨0, false, 0, 0, 0, ([] : List Spot), ([] : List Spot)⟩ : Msg)⟩ : End)).isSome)
      (.cond (F30 ((F28 x1 x2 x0 x3).1) (⟨0, 0, 0, ([] : List Cell), false, 0, (⟨0, false, 0, 0, 0, ([] : List Spot), ([] : List Spot)⟩ : Msg), false, (⟨0, false, 0, 0, 0, ([] : List Spot), ([] : List Spot)⟩ : Msg), (⟨0, false, 0, 0, 0, ([] : List Spot), ([] : List Spot)⟩ : Msg)⟩ : End))
        (.cond ((V31 ((F28 x1 x2 x0 x3).2.1) (⟨0, false, 0, 0, 0, ([] : List Spot), ([] : List Spot)⟩ : Msg)).isSome)
          (.some (F31 ((F28 x1 x2 x0 x3).2.1) (⟨0, false, 0, 0, 0, ([] : List Spot), ([] : List Spot)⟩ : Msg)))
          (.none))
        (.some false))
      (.none))
    (.cond ((V28 ((F28 x1 x2 x0 x3).1) x2 x0 x3).isSome)
      (.cond (!(decide (((F28 ((F28 x1 x2 x0 x3).1) x2 x0 x3).2.2) = 0)))
        (.go J6_10)
        (.cond ((V30 ((F28 x1 x2 x0 x3).1) ((F28 ((F28 x1 x2 x0 x3).1) x2 x0 x3).1)).isSome)
          (.cond (!(F30 ((F28 x1 x2 x0 x3).1) ((F28 ((F28 x1 x2 x0 x3).1) x2 x0 x3).1)))
            (.go J6_10)
            (.cond ((V31 ((F28 x1 x2 x0 x3).2.1) ((F28 ((F28 x1 x2 x0 x3).1) x2 x0 x3).2.1)).isSome)
              (.cond (!(F31 ((F28 x1 x2 x0 x3).2.1) ((F28 ((F28 x1 x2 x0 x3).1) x2 x0 x3).2.1)))
                (.go J6_10)
                (.cond ((V40 x3 ((F28 x1 x2 x0 x3).2.1)).isSome)
                  (.cond (!(F40 x3 ((F28 x1 x2 x0 x3).2.1)))
                    (.go J6_10)
                    (.cond ((V38 ((F28 x1 x2 x0 x3).1)).isSome)
                      (.cond (!(decide ((F38 ((F28 x1 x2 x0 x3).1)) = 0)))
                        (.go J6_10)
                        (.go (J6_11 x1 ((F28 x1 x2 x0 x3).1) ((F28 x1 x2 x0 x3).2.1))))
                      (.none)))
                  (.none)))
              (.none)))
          (.none)))
      (.none)))
  (.none)
theorem eJ6_5 (x0 : List Int) (x1 : End) (x2 : Tab) (x3 : Msg) : lv cd6 C6 (J6_5 x0 x1 x2 x3) = (tJ6_5 x0 x1 x2 x3).val cd6 C6 := Tr.lv_eq 76 (fun H z => by kernel_rfl)
noncomputable def tJ6_10 : Tr (Bool) :=
  .some false
theorem eJ6_10 : lv cd6 C6 (J6_10) = (tJ6_10).val cd6 C6 := Tr.lv_eq 6 (fun H z => by kernel_rfl)
noncomputable def tJ6_11 (x0 x1 : End) (x2 : Msg) : Tr (Bool) :=
  .cond (decide (x2.code = 0))
  (.some true)
  (.cond ((V30 x1 x0).isSome)
    (.some (F30 x1 x0))
    (.none))
theorem eJ6_11 (x0 x1 : End) (x2 : Msg) : lv cd6 C6 (J6_11 x0 x1 x2) = (tJ6_11 x0 x1 x2).val cd6 C6 := Tr.lv_eq 14 (fun H z => by kernel_rfl)
noncomputable def V6 (x0 : End) (x1 : Tab) (x2 : List Int) (x3 : Msg) : Option (Bool) := vlim cd6 (S6 x0 x1 x2 x3)
noncomputable def G6 : GE := mkG [(0, some 3, .cell), (0, some 11, .spot), (0, some 12, .spot), (0, some 19, .spot), (0, some 20, .spot), (0, some 26, .spot), (0, some 27, .spot), (1, some 2, .cell), (2, none, .int), (3, some 5, .spot), (3, some 6, .spot)] (cod27.a (cod29.a ((codS .int).a (cod25.a (.nil))))) (fun x => V6 x.1 x.2.1 x.2.2.1 x.2.2.2.1) cd6
theorem ge6 : GeOk 6 G6 := ge_mk (C := C6) (base_ok (.cons ge24 (.cons ge25 (.cons ge26 (.cons ge27 (.cons ge28 (.cons ge30 (.cons ge31 (.cons ge38 (.cons ge40 .nil))))))))) (.cons c6 .nil) .nil) rfl c6 (fun _ => rfl) (by kernel_rfl)
noncomputable def b10 (n p : Nat) : Code := bp n p (bodyA Tryz.f10)
end Go.Am
