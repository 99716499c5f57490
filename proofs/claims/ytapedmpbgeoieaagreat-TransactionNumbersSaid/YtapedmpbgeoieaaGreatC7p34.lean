/- Part 34 of the proof: FA3. -/
import Derived.Test.YtapedmpbgeoieaaGreatC7p29
import Derived.Test.YtapedmpbgeoieaaGreatC7p30
import Derived.Test.YtapedmpbgeoieaaGreatC7p31
import Derived.Test.YtapedmpbgeoieaaGreatC7p32
set_option linter.unusedSimpArgs false
set_option linter.unusedVariables false
namespace Go.Am
open Go Go.Proofs
set_option maxRecDepth 100000
set_option linter.unusedVariables false

noncomputable def C56 : Cfg := base [(153, G153), (154, G154), (155, G155), (156, G156)] [(56, Tryz.f56)] [(56, [(2, { drop := rs [(0, 137)], nt := [], nb := [] }), (3, { drop := rs [(0, 1), (2, 135)], nt := [], nb := [] }), (4, { drop := rs [(0, 137)], nt := [], nb := [] }), (5, { drop := rs [(0, 1), (2, 135)], nt := [], nb := [] }), (8, { drop := rs [(0, 1), (2, 1), (4, 133)], nt := [], nb := [] }), (9, { drop := rs [(0, 1), (2, 1), (4, 133)], nt := [], nb := [] }), (11, { drop := rs [(0, 137)], nt := [], nb := [] }), (13, { drop := rs [(0, 137)], nt := [], nb := [] }), (14, { drop := rs [(0, 1), (2, 135)], nt := [], nb := [] }), (15, { drop := rs [(0, 137)], nt := [], nb := [] }), (16, { drop := rs [(0, 137)], nt := [], nb := [] })])] [] [] [] []
noncomputable def S56 (x0 : End) (n : Nat) : Option AV := startK C56 n 56 Tryz.f56 [.agg (enc27 x0)]
noncomputable abbrev cd56 : Cod (Int) := codI
noncomputable def V56 (x0 : End) : Option (Int) := vlim cd56 (S56 x0)
noncomputable def G56 : GE := mkG [(0, some 3, .cell), (0, some 11, .spot), (0, some 12, .spot), (0, some 19, .spot), (0, some 20, .spot), (0, some 26, .spot), (0, some 27, .spot)] (cod27.a (.nil)) (fun x => V56 x.1) cd56
noncomputable def C59 : Cfg := base [(56, G56), (123, G123), (153, G153), (165, G165)] [(59, Tryz.f59)] [(59, [(2, { drop := rs [(0, 4), (5, 52)], nt := [], nb := [] }), (3, { drop := rs [(0, 2), (5, 52)], nt := [], nb := [] }), (5, { drop := rs [(0, 3), (5, 1), (8, 49)], nt := [], nb := [] })])] [] [] [(0, some 2, .cell)] []
noncomputable def S59 (x0 : Tab) (x1 : End) (n : Nat) : Option AV := startK C59 n 59 Tryz.f59 [.agg (enc29 x0), .agg (enc27 x1)]
noncomputable abbrev cd59 : Cod (Tab × Int) := (codT2 cod29 codI)
noncomputable def V59 (x0 : Tab) (x1 : End) : Option (Tab × Int) := vlim cd59 (S59 x0 x1)
noncomputable def G59 : GE := mkG [(0, some 2, .cell), (1, some 3, .cell), (1, some 11, .spot), (1, some 12, .spot), (1, some 19, .spot), (1, some 20, .spot), (1, some 26, .spot), (1, some 27, .spot)] (cod29.a (cod27.a (.nil))) (fun x => V59 x.1 x.2.1) cd59
theorem c30 : CdOk 30 Tryz.f30 := ⟨by kernel_rfl, by kernel_rfl⟩
noncomputable def C30 : Cfg := base [(31, G31), (117, G117)] [(30, Tryz.f30)] [(30, [])] [] [] [] []
noncomputable def S30 (x0 x1 : End) (n : Nat) : Option AV := startK C30 n 30 Tryz.f30 [.agg (enc27 x0), .agg (enc27 x1)]
noncomputable abbrev cd30 : Cod (Bool) := codB
noncomputable def tS30 (x0 x1 : End) : Tr (Bool) :=
  .cond (decide (x0.nd = x1.nd))
  (.cond (decide (x0.pr = x1.pr))
    (.cond (decide (x0.num = x1.num))
      (.cond ((V117 x0.cl x1.cl).isSome)
        (.cond (F117 x0.cl x1.cl)
          (.cond (x0.opn == x1.opn)
            (.cond (decide (x0.snc = x1.snc))
              (.cond ((V31 x0.ask x1.ask).isSome)
                (.cond (F31 x0.ask x1.ask)
                  (.cond (x0.kn == x1.kn)
                    (.cond ((V31 x0.lst x1.lst).isSome)
                      (.cond (F31 x0.lst x1.lst)
                        (.cond ((V31 x0.rp x1.rp).isSome)
                        (.some (F31 x0.rp x1.rp))
                        (.none))
                        (.some false))
                      (.none))
                    (.some false))
                  (.some false))
                (.none))
              (.some false))
            (.some false))
          (.some false))
        (.none))
      (.some false))
    (.some false))
  (.some false)
theorem eS30 (x0 x1 : End) : vlim cd30 (S30 x0 x1) = (tS30 x0 x1).val cd30 C30 := Tr.val_eq 81 (fun H z => by kernel_rfl)
noncomputable def V30 (x0 x1 : End) : Option (Bool) := vlim cd30 (S30 x0 x1)
noncomputable def F30 (x0 x1 : End) : Bool := (V30 x0 x1).getD default
noncomputable def G30 : GE := mkG [(0, some 3, .cell), (0, some 11, .spot), (0, some 12, .spot), (0, some 19, .spot), (0, some 20, .spot), (0, some 26, .spot), (0, some 27, .spot), (1, some 3, .cell), (1, some 11, .spot), (1, some 12, .spot), (1, some 19, .spot), (1, some 20, .spot), (1, some 26, .spot), (1, some 27, .spot)] (cod27.a (cod27.a (.nil))) (fun x => V30 x.1 x.2.1) cd30
theorem ge30 : GeOk 30 G30 := ge_mk (C := C30) (base_ok (.cons ge31 (.cons ge117 .nil)) (.cons c30 .nil) .nil) rfl c30 (fun _ => rfl) (by kernel_rfl)
noncomputable def b4 (n p : Nat) : Code := bp n p (bodyA Tryz.f4)
noncomputable def b6 (n p : Nat) : Code := bp n p (bodyA Tryz.f6)
noncomputable def b10 (n p : Nat) : Code := bp n p (bodyA Tryz.f10)
end Go.Am
