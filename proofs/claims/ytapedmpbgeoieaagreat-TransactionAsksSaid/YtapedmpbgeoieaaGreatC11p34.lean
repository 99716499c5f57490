/- Part 34 of the proof: FA3. -/
import Derived.Test.YtapedmpbgeoieaaGreatC11p29
import Derived.Test.YtapedmpbgeoieaaGreatC11p30
import Derived.Test.YtapedmpbgeoieaaGreatC11p31
import Derived.Test.YtapedmpbgeoieaaGreatC11p32
set_option linter.unusedSimpArgs false
set_option linter.unusedVariables false
namespace Go.Am
open Go Go.Proofs
set_option maxRecDepth 100000
set_option linter.unusedVariables false

theorem c56 : CdOk 56 Tryz.f56 := ⟨by kernel_rfl, by kernel_rfl⟩
noncomputable def b56 (n p : Nat) : Code := bp n p (bodyA Tryz.f56)
noncomputable def C56 : Cfg := base [(153, G153), (154, G154), (155, G155), (156, G156)] [(56, Tryz.f56)] [(56, [(2, { drop := rs [(0, 137)], nt := [], nb := [] }), (3, { drop := rs [(0, 1), (2, 135)], nt := [], nb := [] }), (4, { drop := rs [(0, 137)], nt := [], nb := [] }), (5, { drop := rs [(0, 1), (2, 135)], nt := [], nb := [] }), (8, { drop := rs [(0, 1), (2, 1), (4, 133)], nt := [], nb := [] }), (9, { drop := rs [(0, 1), (2, 1), (4, 133)], nt := [], nb := [] }), (11, { drop := rs [(0, 137)], nt := [], nb := [] }), (13, { drop := rs [(0, 137)], nt := [], nb := [] }), (14, { drop := rs [(0, 1), (2, 135)], nt := [], nb := [] }), (15, { drop := rs [(0, 137)], nt := [], nb := [] }), (16, { drop := rs [(0, 137)], nt := [], nb := [] })])] [] [] [] []
noncomputable def S56 (x0 : End) (n : Nat) : Option AV := startK C56 n 56 Tryz.f56 [.agg (enc27 x0)]
noncomputable def J56_2 : St := ⟨3, ⟨56, un 137, nb 137, [.code (b56 5 5), .code (b56 5 21), .code (b56 2 3)]⟩, []⟩
noncomputable def J56_3 (x0 : End) : St := ⟨4, ⟨56, ap [.undef, .ptr 0 1 0] (un 135), aq [[], (enc27 x0)] (nb 135), [.code (b56 4 3), .code (b56 4 11), .code (b56 3 7)]⟩, []⟩
noncomputable def J56_4 : St := ⟨5, ⟨56, un 137, nb 137, [.code (b56 6 11), .code (b56 6 43), .code (b56 3 7)]⟩, []⟩
noncomputable def J56_5 (x0 : End) : St := ⟨6, ⟨56, ap [.undef, .ptr 0 1 0] (un 135), aq [[], (enc27 x0)] (nb 135), [.code (b56 5 7), .code (b56 5 23), .code (b56 4 15)]⟩, []⟩
noncomputable def J56_8 (x0 : Int) (x1 : End) : St := ⟨9, ⟨56, ap [.undef, .ptr 0 1 0, .undef, .int .i64 x0] (un 133), aq [[], (enc27 x1)] (nb 135), [.code (b56 10 47), .code (b56 10 559), .code (b56 9 303), .inLoop (b56 8 47), .inBlock 0, .code (b56 5 31)]⟩, []⟩
noncomputable def J56_11 : St := ⟨12, ⟨56, un 137, nb 137, [.code (b56 14 2351), .code (b56 14 10543), .inBlock 1, .code (b56 10 815), .inLoop (b56 8 47), .inBlock 0, .code (b56 5 31)]⟩, []⟩
noncomputable def J56_9 (x0 : Int) (x1 : End) : St := ⟨10, ⟨56, ap [.undef, .ptr 0 1 0, .undef, .int .i64 x0] (un 133), aq [[], (enc27 x1)] (nb 135), [.code (b56 10 815), .inLoop (b56 8 47), .inBlock 0, .code (b56 5 31)]⟩, []⟩
noncomputable def J56_13 : St := ⟨14, ⟨56, un 137, nb 137, [.code (b56 9 95), .code (b56 9 351), .code (b56 6 63)]⟩, []⟩
noncomputable def J56_14 (x0 : End) : St := ⟨15, ⟨56, ap [.undef, .ptr 0 1 0] (un 135), aq [[], (enc27 x0)] (nb 135), [.code (b56 8 63), .code (b56 8 191), .code (b56 7 127)]⟩, []⟩
noncomputable def J56_15 : St := ⟨16, ⟨56, un 137, nb 137, [.code (b56 10 191), .code (b56 10 703), .code (b56 7 127)]⟩, []⟩
noncomputable def J56_16 : St := ⟨17, ⟨56, un 137, nb 137, [.code (b56 8 127), .code (b56 8 255)]⟩, []⟩
noncomputable abbrev cd56 : Cod (Int) := codI
noncomputable def tS56 (x0 : End) : Tr (Int) :=
  .cond (decide (x0.nd < 0))
  (.go J56_2)
  (.cond (decide (32 ≤ x0.nd))
    (.go J56_2)
    (.cond (decide (x0.pr < 0))
      (.go J56_2)
      (.cond (decide (32 ≤ x0.pr))
        (.go J56_2)
        (.cond (decide (x0.num < 0))
          (.go J56_2)
          (.cond (decide (255 < x0.num))
            (.go J56_2)
            (.cond (decide (x0.snc < 0))
              (.go J56_2)
              (.cond (decide (1099511627776 < x0.snc))
                (.go J56_2)
                (.go (J56_3 x0)))))))))
theorem eS56 (x0 : End) : vlim cd56 (S56 x0) = (tS56 x0).val cd56 C56 := Tr.val_eq 54 (fun H z => by kernel_rfl)
noncomputable def tJ56_2 : Tr (Int) :=
  .some 2
theorem eJ56_2 : lv cd56 C56 (J56_2) = (tJ56_2).val cd56 C56 := Tr.lv_eq 6 (fun H z => by kernel_rfl)
noncomputable def tJ56_3 (x0 : End) : Tr (Int) :=
  .cond (decide (x0.nd = x0.pr))
  (.go J56_4)
  (.cond (decide (x0.num = 0))
    (.cond (decide (0 < ((x0.cl).length : Int)))
      (.go J56_4)
      (.go (J56_5 x0)))
    (.go (J56_5 x0)))
theorem eJ56_3 (x0 : End) : lv cd56 C56 (J56_3 x0) = (tJ56_3 x0).val cd56 C56 := Tr.lv_eq 25 (fun H z => by kernel_rfl)
noncomputable def tJ56_4 : Tr (Int) :=
  .some 1
theorem eJ56_4 : lv cd56 C56 (J56_4) = (tJ56_4).val cd56 C56 := Tr.lv_eq 6 (fun H z => by kernel_rfl)
noncomputable def tJ56_5 (x0 : End) : Tr (Int) :=
  .cond ((V153 (⟨x0.nd, 512, x0.cl⟩ : Tab)).isSome)
  (.cond (!(decide ((F153 (⟨x0.nd, 512, x0.cl⟩ : Tab)) = 0)))
    (.some 1)
    (.go (J56_8 0 x0)))
  (.none)
theorem eJ56_5 (x0 : End) : lv cd56 C56 (J56_5 x0) = (tJ56_5 x0).val cd56 C56 := Tr.lv_eq 23 (fun H z => by kernel_rfl)
noncomputable def tJ56_8 (x0 : Int) (x1 : End) : Tr (Int) :=
  .cond (decide (x0 < ((x1.cl).length : Int)))
  (.cond (ib x0 x1.cl)
    (.cond (!(decide (((nth .cell x1.cl x0).kind) = 2)))
      (.go J56_11)
      (.cond (ib x0 x1.cl)
        (.cond (!(decide (((nth .cell x1.cl x0).peer) = x1.pr)))
          (.go J56_11)
          (.go (J56_9 x0 x1)))
        (.none)))
    (.none))
  (.cond x1.opn
    (.cond ((V154 x1).isSome)
      (.cond (!(F154 x1))
        (.go J56_13)
        (.cond (!x1.opn)
          (.cond ((V155 x1.ask).isSome)
            (.cond (!(F155 x1.ask))
              (.go J56_13)
              (.cond (!(decide (x1.snc = 0)))
                (.go J56_13)
                (.go (J56_14 x1))))
            (.none))
          (.go (J56_14 x1))))
      (.none))
    (.cond (!x1.opn)
      (.cond ((V155 x1.ask).isSome)
        (.cond (!(F155 x1.ask))
          (.go J56_13)
          (.cond (!(decide (x1.snc = 0)))
            (.go J56_13)
            (.go (J56_14 x1))))
        (.none))
      (.go (J56_14 x1))))
theorem eJ56_8 (x0 : Int) (x1 : End) : lv cd56 C56 (J56_8 x0 x1) = (tJ56_8 x0 x1).val cd56 C56 := Tr.lv_eq 43 (fun H z => by kernel_rfl)
noncomputable def tJ56_11 : Tr (Int) :=
  .some 1
theorem eJ56_11 : lv cd56 C56 (J56_11) = (tJ56_11).val cd56 C56 := Tr.lv_eq 6 (fun H z => by kernel_rfl)
noncomputable def tJ56_9 (x0 : Int) (x1 : End) : Tr (Int) :=
  .cond (inR .i64 (x0 + 1))
  (.go (J56_8 (x0 + 1) x1))
  (.none)
theorem eJ56_9 (x0 : Int) (x1 : End) : lv cd56 C56 (J56_9 x0 x1) = (tJ56_9 x0 x1).val cd56 C56 := Tr.lv_eq 11 (fun H z => by kernel_rfl)
noncomputable def tJ56_13 : Tr (Int) :=
  .some 1
theorem eJ56_13 : lv cd56 C56 (J56_13) = (tJ56_13).val cd56 C56 := Tr.lv_eq 6 (fun H z => by kernel_rfl)
noncomputable def tJ56_14 (x0 : End) : Tr (Int) :=
  .cond x0.kn
  (.cond ((V156 x0).isSome)
    (.cond (!(F156 x0))
      (.go J56_15)
      (.cond (!x0.kn)
        (.cond ((V155 x0.lst).isSome)
          (.cond (!(F155 x0.lst))
            (.go J56_15)
            (.cond ((V155 x0.rp).isSome)
              (.cond (!(F155 x0.rp))
                (.go J56_15)
                (.go J56_16))
              (.none)))
          (.none))
        (.go J56_16)))
    (.none))
  (.cond (!x0.kn)
    (.cond ((V155 x0.lst).isSome)
      (.cond (!(F155 x0.lst))
        (.go J56_15)
        (.cond ((V155 x0.rp).isSome)
          (.cond (!(F155 x0.rp))
            (.go J56_15)
            (.go J56_16))
          (.none)))
      (.none))
    (.go J56_16))
theorem eJ56_14 (x0 : End) : lv cd56 C56 (J56_14 x0) = (tJ56_14 x0).val cd56 C56 := Tr.lv_eq 32 (fun H z => by kernel_rfl)
noncomputable def tJ56_15 : Tr (Int) :=
  .some 1
theorem eJ56_15 : lv cd56 C56 (J56_15) = (tJ56_15).val cd56 C56 := Tr.lv_eq 6 (fun H z => by kernel_rfl)
noncomputable def tJ56_16 : Tr (Int) :=
  .some 0
theorem eJ56_16 : lv cd56 C56 (J56_16) = (tJ56_16).val cd56 C56 := Tr.lv_eq 6 (fun H z => by kernel_rfl)
noncomputable def V56 (x0 : End) : Option (Int) := vlim cd56 (S56 x0)
noncomputable def F56 (x0 : End) : Int := (V56 x0).getD default
noncomputable def G56 : GE := mkG [(0, some 3, .cell), (0, some 11, .spot), (0, some 12, .spot), (0, some 19, .spot), (0, some 20, .spot), (0, some 26, .spot), (0, some 27, .spot)] (cod27.a (.nil)) (fun x => V56 x.1) cd56
theorem ge56 : GeOk 56 G56 := ge_mk (C := C56) (base_ok (.cons ge153 (.cons ge154 (.cons ge155 (.cons ge156 .nil)))) (.cons c56 .nil) .nil) rfl c56 (fun _ => rfl) (by kernel_rfl)
theorem c59 : CdOk 59 Tryz.f59 := ⟨by kernel_rfl, by kernel_rfl⟩
noncomputable def b59 (n p : Nat) : Code := bp n p (bodyA Tryz.f59)
noncomputable def C59 : Cfg := base [(56, G56), (123, G123), (153, G153), (165, G165)] [(59, Tryz.f59)] [(59, [(2, { drop := rs [(0, 4), (5, 52)], nt := [], nb := [] }), (3, { drop := rs [(0, 2), (5, 52)], nt := [], nb := [] }), (5, { drop := rs [(0, 3), (5, 1), (8, 49)], nt := [], nb := [] })])] [] [] [(0, some 2, .cell)] []
noncomputable def S59 (x0 : Tab) (x1 : End) (n : Nat) : Option AV := startK C59 n 59 Tryz.f59 [.agg (enc29 x0), .agg (enc27 x1)]
noncomputable def J59_2 (x0 x1 : Int) : St := ⟨3, ⟨59, ap (un 4) (ap [.ptr 0 4 0] (un 52)), aq (nb 4) (aq [[.int .i64 x0, .int .i64 x1, .nilS]] (nb 52)), [.code (b59 5 5), .code (b59 5 21), .code (b59 2 3)]⟩, []⟩
noncomputable def J59_3 (x0 : Tab) (x1 : End) (x2 x3 : Int) : St := ⟨4, ⟨59, ap [.undef, .undef, .ptr 0 2 0, .ptr 0 3 0, .ptr 0 4 0] (un 52), aq [[], [], (enc29 x0), (enc27 x1), [.int .i64 x2, .int .i64 x3, .nilS]] (nb 52), [.code (b59 3 3), .code (b59 3 7)]⟩, []⟩
noncomputable def J59_5 (x0 : Int) (x1 : End) (x2 x3 : Int) (x4 : Tab) : St := ⟨6, ⟨59, ap (un 3) (ap [.ptr 0 3 0, .ptr 0 4 0, .undef, .ptr 0 6 0, .int .i64 x0] (un 49)), aq (nb 3) (aq [(enc27 x1), [.int .i64 x2, .int .i64 x3, .nilS], [], (enc29 x4)] (nb 50)), [.code (b59 9 23), .code (b59 9 279), .code (b59 8 151), .inLoop (b59 7 23), .inBlock 0, .code (b59 4 15)]⟩, []⟩
noncomputable abbrev cd59 : Cod (Tab × Int) := (codT2 cod29 codI)
noncomputable def tS59 (x0 : Tab) (x1 : End) : Tr (Tab × Int) :=
  .cond ((V56 x1).isSome)
  (.cond (!(decide ((F56 x1) = 0)))
    (.go (J59_2 0 0))
    (.cond ((V153 x0).isSome)
      (.cond (!(decide ((F153 x0) = 0)))
        (.go (J59_2 0 0))
        (.cond (!(decide (x0.nd = x1.nd)))
          (.go (J59_2 0 0))
          (.cond ((V165 x0 x1.pr).isSome)
            (.cond (decide (0 < ((F165 x0 x1.pr).length : Int)))
              (.go (J59_2 0 0))
              (.go (J59_3 x0 x1 0 0)))
            (.none))))
      (.none)))
  (.none)
theorem eS59 (x0 : Tab) (x1 : End) : vlim cd59 (S59 x0 x1) = (tS59 x0 x1).val cd59 C59 := Tr.val_eq 40 (fun H z => by kernel_rfl)
noncomputable def tJ59_2 (x0 x1 : Int) : Tr (Tab × Int) :=
  .some ((⟨0, 0, ([] : List Cell)⟩ : Tab), 1)
theorem eJ59_2 (x0 x1 : Int) : lv cd59 C59 (J59_2 x0 x1) = (tJ59_2 x0 x1).val cd59 C59 := Tr.lv_eq 8 (fun H z => by kernel_rfl)
noncomputable def tJ59_3 (x0 : Tab) (x1 : End) (x2 x3 : Int) : Tr (Tab × Int) :=
  .go (J59_5 0 x1 x2 x3 x0)
theorem eJ59_3 (x0 : Tab) (x1 : End) (x2 x3 : Int) : lv cd59 C59 (J59_3 x0 x1 x2 x3) = (tJ59_3 x0 x1 x2 x3).val cd59 C59 := Tr.lv_eq 17 (fun H z => by kernel_rfl)
noncomputable def tJ59_5 (x0 : Int) (x1 : End) (x2 x3 : Int) (x4 : Tab) : Tr (Tab × Int) :=
  .cond (decide (x0 < ((x1.cl).length : Int)))
  (.cond (ib x0 x1.cl)
    (.cond ((V123 x4 (nth .cell x1.cl x0)).isSome)
      (.cond (!(decide (((F123 x4 (nth .cell x1.cl x0)).2) = 0)))
        (.some ((⟨0, 0, ([] : List Cell)⟩ : Tab), 16))
        (.cond (inR .i64 (x0 + 1))
          (.go (J59_5 (x0 + 1) x1 x2 x3 ((F123 x4 (nth .cell x1.cl x0)).1)))
          (.none)))
      (.none))
    (.none))
  (.some (x4, 0))
theorem eJ59_5 (x0 : Int) (x1 : End) (x2 x3 : Int) (x4 : Tab) : lv cd59 C59 (J59_5 x0 x1 x2 x3 x4) = (tJ59_5 x0 x1 x2 x3 x4).val cd59 C59 := Tr.lv_eq 37 (fun H z => by kernel_rfl)
noncomputable def V59 (x0 : Tab) (x1 : End) : Option (Tab × Int) := vlim cd59 (S59 x0 x1)
noncomputable def F59 (x0 : Tab) (x1 : End) : Tab × Int := (V59 x0 x1).getD default
noncomputable def G59 : GE := mkG [(0, some 2, .cell), (1, some 3, .cell), (1, some 11, .spot), (1, some 12, .spot), (1, some 19, .spot), (1, some 20, .spot), (1, some 26, .spot), (1, some 27, .spot)] (cod29.a (cod27.a (.nil))) (fun x => V59 x.1 x.2.1) cd59
theorem ge59 : GeOk 59 G59 := ge_mk (C := C59) (base_ok (.cons ge56 (.cons ge123 (.cons ge153 (.cons ge165 .nil)))) (.cons c59 .nil) .nil) rfl c59 (fun _ => rfl) (by kernel_rfl)
theorem c30 : CdOk 30 Tryz.f30 := ⟨by kernel_rfl, by kernel_rfl⟩
noncomputable def C30 : Cfg := base [(31, G31), (117, G117)] [(30, Tryz.f30)] [(30, [])] [] [] [] []
noncomputable def S30 (x0 x1 : End) (n : Nat) : Option AV := startK C30 n 30 Tryz.f30 [.agg (enc27 x0), .agg (enc27 x1)]
noncomputable abbrev cd30 : Cod (Bool) := codB
noncomputable def tS30 (x0 x1 : End) : Tr (Bool) :=
  .cond (decide (x0.nd = x1.nd))
  (.cond (decide (x0.pr = x1.pr))
    (.cond (decide (x0.num = x1.num))
      (.cond ((V117 x0.cl x1.cl).isSome)
        (.cond (F117 x0.cl x1.cl)
          (.cond (x0.opn == x1.opn)
            (.cond (decide (x0.snc = x1.snc))
              (.cond ((V31 x0.ask x1.ask).isSome)
                (.cond (F31 x0.ask x1.ask)
                  (.cond (x0.kn == x1.kn)
                    (.cond ((V31 x0.lst x1.lst).isSome)
                      (.cond (F31 x0.lst x1.lst)
                        (.cond ((V31 x0.rp x1.rp).isSome)
                        (.some (F31 x0.rp x1.rp))
                        (.none))
                        (.some false))
                      (.none))
                    (.some false))
                  (.some false))
                (.none))
              (.some false))
            (.some false))
          (.some false))
        (.none))
      (.some false))
    (.some false))
  (.some false)
theorem eS30 (x0 x1 : End) : vlim cd30 (S30 x0 x1) = (tS30 x0 x1).val cd30 C30 := Tr.val_eq 81 (fun H z => by kernel_rfl)
noncomputable def V30 (x0 x1 : End) : Option (Bool) := vlim cd30 (S30 x0 x1)
noncomputable def F30 (x0 x1 : End) : Bool := (V30 x0 x1).getD default
noncomputable def G30 : GE := mkG [(0, some 3, .cell), (0, some 11, .spot), (0, some 12, .spot), (0, some 19, .spot), (0, some 20, .spot), (0, some 26, .spot), (0, some 27, .spot), (1, some 3, .cell), (1, some 11, .spot), (1, some 12, .spot), (1, some 19, .spot), (1, some 20, .spot), (1, some 26, .spot), (1, some 27, .spot)] (cod27.a (cod27.a (.nil))) (fun x => V30 x.1 x.2.1) cd30
theorem ge30 : GeOk 30 G30 := ge_mk (C := C30) (base_ok (.cons ge31 (.cons ge117 .nil)) (.cons c30 .nil) .nil) rfl c30 (fun _ => rfl) (by kernel_rfl)
noncomputable def b4 (n p : Nat) : Code := bp n p (bodyA Tryz.f4)
noncomputable def b6 (n p : Nat) : Code := bp n p (bodyA Tryz.f6)
noncomputable def b10 (n p : Nat) : Code := bp n p (bodyA Tryz.f10)
theorem c157 : CdOk 157 Tryz.f157 := ⟨by kernel_rfl, by kernel_rfl⟩
noncomputable def C157 : Cfg := base [] [(157, Tryz.f157)] [(157, [])] [] [] [(0, some 3, .cell), (0, some 11, .spot), (0, some 12, .spot), (0, some 19, .spot), (0, some 20, .spot), (0, some 26, .spot), (0, some 27, .spot), (1, some 5, .spot), (1, some 6, .spot)] []
noncomputable def S157 (x0 : Int) (n : Nat) : Option AV := startK C157 n 157 Tryz.f157 [.int .i64 x0]
noncomputable abbrev cd157 : Cod (End × Msg × Int) := (codT3 cod27 cod25 codI)
noncomputable def tS157 (x0 : Int) : Tr (End × Msg × Int) :=
  .some ((⟨0, 0, 0, ([] : List Cell), false, 0, (⟨0, false, 0, 0, 0, ([] : List Spot), ([] : List Spot)⟩ : Msg), false, (⟨0, false, 0, 0, 0, ([] : List Spot), ([] : List Spot)⟩ : Msg), (⟨0, false, 0, 0, 0, ([] : List Spot), ([] : List Spot)⟩ : Msg)⟩ : End), (⟨0, false, 0, 0, 0, ([] : List Spot), ([] : List Spot)⟩ : Msg), x0)
theorem eS157 (x0 : Int) : vlim cd157 (S157 x0) = (tS157 x0).val cd157 C157 := Tr.val_eq 18 (fun H z => by kernel_rfl)
noncomputable def V157 (x0 : Int) : Option (End × Msg × Int) := vlim cd157 (S157 x0)
noncomputable def F157 (x0 : Int) : End × Msg × Int := (V157 x0).getD default
noncomputable def G157 : GE := mkG [] (codI.a (.nil)) (fun x => V157 x.1) cd157
theorem ge157 : GeOk 157 G157 := ge_mk (C := C157) (base_ok .nil (.cons c157 .nil) .nil) rfl c157 (fun _ => rfl) (by kernel_rfl)
theorem c164 : CdOk 164 Tryz.f164 := ⟨by kernel_rfl, by kernel_rfl⟩
noncomputable def b164 (n p : Nat) : Code := bp n p (bodyA Tryz.f164)
noncomputable def C164 : Cfg := base [(153, G153), (190, G190), (220, G220)] [(164, Tryz.f164)] [(164, [(3, { drop := rs [(0, 4), (6, 43)], nt := [], nb := [] }), (4, { drop := rs [(0, 1), (6, 1), (8, 41)], nt := [(7, .spot, 47)], nb := [] }), (5, { drop := rs [(0, 1), (6, 1), (9, 40)], nt := [(7, .spot, 47)], nb := [] }), (6, { drop := rs [(0, 1), (6, 1), (9, 40)], nt := [(7, .spot, 47)], nb := [] }), (7, { drop := rs [(0, 1), (6, 1), (9, 40)], nt := [(7, .spot, 47)], nb := [] }), (8, { drop := rs [(0, 1), (6, 1), (10, 39)], nt := [(7, .spot, 47)], nb := [] }), (12, { drop := rs [(0, 4), (6, 1), (8, 41)], nt := [(7, .spot, 47)], nb := [] })])] [] [] [(0, none, .spot)] []
noncomputable def S164 (x0 : Tab) (x1 : List Int) (x2 : Int) (n : Nat) : Option AV := startK C164 n 164 Tryz.f164 [.agg (enc29 x0), .sl .int x1 .none, .int .i64 x2]
noncomputable def J164_3 : St := ⟨4, ⟨164, un 49, nb 49, [.code (b164 6 11), .code (b164 6 43), .code (b164 3 7)]⟩, []⟩
noncomputable def J164_4 (x0 : List Int) (x1 : Int) (x2 : List Spot) (x3 : Tab) : St := ⟨5, ⟨164, ap [.undef, .sl .int x0 .none, .int .i64 x1, .ptr 0 3 0] (ap (un 3) (ap [.sl .spot x2 (.lab 47)] (un 41))), aq (nb 3) (aq [(enc29 x3)] (nb 45)), [.code (b164 5 7), .code (b164 5 23), .code (b164 4 15)]⟩, []⟩
noncomputable def J164_5 (x0 : List Int) (x1 : Int) (x2 : List Spot) (x3 : Int) (x4 : Tab) : St := ⟨6, ⟨164, ap [.undef, .sl .int x0 .none, .int .i64 x1, .ptr 0 3 0] (ap (un 3) (ap [.sl .spot x2 (.lab 47), .int .i64 x3] (un 40))), aq (nb 3) (aq [(enc29 x4)] (nb 45)), [.code (b164 9 23), .code (b164 9 279), .code (b164 8 151), .inLoop (b164 7 23), .inBlock 0, .code (b164 4 15)]⟩, []⟩
noncomputable def J164_7 (x0 : List Int) (x1 : Int) (x2 : List Spot) (x3 : Int) (x4 : Tab) : St := ⟨8, ⟨164, ap [.undef, .sl .int x0 .none, .int .i64 x1, .ptr 0 3 0] (ap (un 3) (ap [.sl .spot x2 (.lab 47), .int .i64 x3] (un 40))), aq (nb 3) (aq [(enc29 x4)] (nb 45)), [.code (b164 11 151), .code (b164 11 1175), .inBlock 1, .code (b164 9 407), .inLoop (b164 7 23), .inBlock 0, .code (b164 4 15)]⟩, []⟩
noncomputable def J164_12 (x0 : List Spot) : St := ⟨13, ⟨164, ap (un 7) (ap [.sl .spot x0 (.lab 47)] (un 41)), nb 49, [.code (b164 5 15), .code (b164 5 31)]⟩, []⟩
noncomputable def J164_8 (x0 : List Int) (x1 : Int) (x2 : List Spot) (x3 x4 : Int) (x5 : Tab) : St := ⟨9, ⟨164, ap [.undef, .sl .int x0 .none, .int .i64 x1, .ptr 0 3 0] (ap (un 3) (ap [.sl .spot x2 (.lab 47), .int .i64 x3, .int .i64 x4] (un 39))), aq (nb 3) (aq [(enc29 x5)] (nb 45)), [.code (b164 15 1175), .code (b164 15 17559), .code (b164 14 9367), .inLoop (b164 13 1175), .inBlock 2, .inBlock 1, .code (b164 9 407), .inLoop (b164 7 23), .inBlock 0, .code (b164 4 15)]⟩, []⟩
noncomputable def J164_6 (x0 : List Int) (x1 : Int) (x2 : List Spot) (x3 : Int) (x4 : Tab) : St := ⟨7, ⟨164, ap [.undef, .sl .int x0 .none, .int .i64 x1, .ptr 0 3 0] (ap (un 3) (ap [.sl .spot x2 (.lab 47), .int .i64 x3] (un 40))), aq (nb 3) (aq [(enc29 x4)] (nb 45)), [.code (b164 9 407), .inLoop (b164 7 23), .inBlock 0, .code (b164 4 15)]⟩, []⟩
noncomputable abbrev cd164 : Cod (List Spot) := (codS .spot)
noncomputable def tS164 (x0 : Tab) (x1 : List Int) (x2 : Int) : Tr (List Spot) :=
  .cond ((V153 x0).isSome)
  (.cond (!(decide ((F153 x0) = 0)))
    (.go J164_3)
    (.cond ((V220 x1 x0.len).isSome)
      (.cond (!(F220 x1 x0.len))
        (.go J164_3)
        (.go (J164_4 x1 x2 ([] : List Spot) x0)))
      (.none)))
  (.none)
theorem eS164 (x0 : Tab) (x1 : List Int) (x2 : Int) : vlim cd164 (S164 x0 x1 x2) = (tS164 x0 x1 x2).val cd164 C164 := Tr.val_eq 30 (fun H z => by kernel_rfl)
noncomputable def tJ164_3 : Tr (List Spot) :=
  .some ([] : List Spot)
theorem eJ164_3 : lv cd164 C164 (J164_3) = (tJ164_3).val cd164 C164 := Tr.lv_eq 6 (fun H z => by kernel_rfl)
noncomputable def tJ164_4 (x0 : List Int) (x1 : Int) (x2 : List Spot) (x3 : Tab) : Tr (List Spot) :=
  .go (J164_5 x0 x1 x2 0 x3)
theorem eJ164_4 (x0 : List Int) (x1 : Int) (x2 : List Spot) (x3 : Tab) : lv cd164 C164 (J164_4 x0 x1 x2 x3) = (tJ164_4 x0 x1 x2 x3).val cd164 C164 := Tr.lv_eq 10 (fun H z => by kernel_rfl)
noncomputable def tJ164_5 (x0 : List Int) (x1 : Int) (x2 : List Spot) (x3 : Int) (x4 : Tab) : Tr (List Spot) :=
  .cond (decide (x3 < x4.len))
  (.cond (decide (((x2).length : Int) < x1))
    (.go (J164_7 x0 x1 x2 x3 x4))
    (.go (J164_12 x2)))
  (.go (J164_12 x2))
theorem eJ164_5 (x0 : List Int) (x1 : Int) (x2 : List Spot) (x3 : Int) (x4 : Tab) : lv cd164 C164 (J164_5 x0 x1 x2 x3 x4) = (tJ164_5 x0 x1 x2 x3 x4).val cd164 C164 := Tr.lv_eq 20 (fun H z => by kernel_rfl)
noncomputable def tJ164_7 (x0 : List Int) (x1 : Int) (x2 : List Spot) (x3 : Int) (x4 : Tab) : Tr (List Spot) :=
  .go (J164_8 x0 x1 x2 x3 0 x4)
theorem eJ164_7 (x0 : List Int) (x1 : Int) (x2 : List Spot) (x3 : Int) (x4 : Tab) : lv cd164 C164 (J164_7 x0 x1 x2 x3 x4) = (tJ164_7 x0 x1 x2 x3 x4).val cd164 C164 := Tr.lv_eq 10 (fun H z => by kernel_rfl)
noncomputable def tJ164_12 (x0 : List Spot) : Tr (List Spot) :=
  .some x0
theorem eJ164_12 (x0 : List Spot) : lv cd164 C164 (J164_12 x0) = (tJ164_12 x0).val cd164 C164 := Tr.lv_eq 7 (fun H z => by kernel_rfl)
noncomputable def tJ164_8 (x0 : List Int) (x1 : Int) (x2 : List Spot) (x3 x4 : Int) (x5 : Tab) : Tr (List Spot) :=
  .cond (decide (x4 < 16))
  (.cond ((V190 x5 x0 (⟨x3, x4⟩ : Spot)).isSome)
    (.cond (F190 x5 x0 (⟨x3, x4⟩ : Spot))
      (.cond (il x2 ([(⟨x3, x4⟩ : Spot)] : List Spot) 16)
        (.go (J164_6 x0 x1 (x2 ++ ([(⟨x3, x4⟩ : Spot)] : List Spot)) x3 x5))
        (.none))
      (.cond (inR .i64 (x4 + 1))
        (.go (J164_8 x0 x1 x2 x3 (x4 + 1) x5))
        (.none)))
    (.none))
  (.go (J164_6 x0 x1 x2 x3 x5))
theorem eJ164_8 (x0 : List Int) (x1 : Int) (x2 : List Spot) (x3 x4 : Int) (x5 : Tab) : lv cd164 C164 (J164_8 x0 x1 x2 x3 x4 x5) = (tJ164_8 x0 x1 x2 x3 x4 x5).val cd164 C164 := Tr.lv_eq 33 (fun H z => by kernel_rfl)
noncomputable def tJ164_6 (x0 : List Int) (x1 : Int) (x2 : List Spot) (x3 : Int) (x4 : Tab) : Tr (List Spot) :=
  .cond (inR .i64 (x3 + 1))
  (.go (J164_5 x0 x1 x2 (x3 + 1) x4))
  (.none)
theorem eJ164_6 (x0 : List Int) (x1 : Int) (x2 : List Spot) (x3 : Int) (x4 : Tab) : lv cd164 C164 (J164_6 x0 x1 x2 x3 x4) = (tJ164_6 x0 x1 x2 x3 x4).val cd164 C164 := Tr.lv_eq 11 (fun H z => by kernel_rfl)
noncomputable def V164 (x0 : Tab) (x1 : List Int) (x2 : Int) : Option (List Spot) := vlim cd164 (S164 x0 x1 x2)
noncomputable def F164 (x0 : Tab) (x1 : List Int) (x2 : Int) : List Spot := (V164 x0 x1 x2).getD default
noncomputable def G164 : GE := mkG [(0, some 2, .cell), (1, none, .int)] (cod29.a ((codS .int).a (codI.a (.nil)))) (fun x => V164 x.1 x.2.1 x.2.2.1) cd164
theorem ge164 : GeOk 164 G164 := ge_mk (C := C164) (base_ok (.cons ge153 (.cons ge190 (.cons ge220 .nil))) (.cons c164 .nil) .nil) rfl c164 (fun _ => rfl) (by kernel_rfl)
theorem c61 : CdOk 61 Tryz.f61 := ⟨by kernel_rfl, by kernel_rfl⟩
noncomputable def C61 : Cfg := base [(117, G117)] [(61, Tryz.f61)] [(61, [])] [] [] [] []
noncomputable def S61 (x0 x1 : Tab) (n : Nat) : Option AV := startK C61 n 61 Tryz.f61 [.agg (enc29 x0), .agg (enc29 x1)]
noncomputable abbrev cd61 : Cod (Bool) := codB
noncomputable def tS61 (x0 x1 : Tab) : Tr (Bool) :=
  .cond (decide (x0.nd = x1.nd))
  (.cond (decide (x0.len = x1.len))
    (.cond ((V117 x0.cl x1.cl).isSome)
      (.some (F117 x0.cl x1.cl))
      (.none))
    (.some false))
  (.some false)
theorem eS61 (x0 x1 : Tab) : vlim cd61 (S61 x0 x1) = (tS61 x0 x1).val cd61 C61 := Tr.val_eq 32 (fun H z => by kernel_rfl)
noncomputable def V61 (x0 x1 : Tab) : Option (Bool) := vlim cd61 (S61 x0 x1)
noncomputable def F61 (x0 x1 : Tab) : Bool := (V61 x0 x1).getD default
noncomputable def G61 : GE := mkG [(0, some 2, .cell), (1, some 2, .cell)] (cod29.a (cod29.a (.nil))) (fun x => V61 x.1 x.2.1) cd61
theorem ge61 : GeOk 61 G61 := ge_mk (C := C61) (base_ok (.cons ge117 .nil) (.cons c61 .nil) .nil) rfl c61 (fun _ => rfl) (by kernel_rfl)

end Go.Am
