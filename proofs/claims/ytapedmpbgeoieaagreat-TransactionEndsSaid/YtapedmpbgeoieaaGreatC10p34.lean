/- Part 34 of the proof: FA3. -/
import Derived.Test.YtapedmpbgeoieaaGreatC10p29
import Derived.Test.YtapedmpbgeoieaaGreatC10p30
import Derived.Test.YtapedmpbgeoieaaGreatC10p31
import Derived.Test.YtapedmpbgeoieaaGreatC10p32
set_option linter.unusedSimpArgs false
set_option linter.unusedVariables false
namespace Go.Am
open Go Go.Proofs
set_option maxRecDepth 100000
set_option linter.unusedVariables false

theorem c56 : CdOk 56 Tryz.f56 := ⟨by kernel_rfl, by kernel_rfl⟩
noncomputable def b56 (n p : Nat) : Code := bp n p (bodyA Tryz.f56)
noncomputable def C56 : Cfg := base [(153, G153), (154, G154), (155, G155), (156, G156)] [(56, Tryz.f56)] [(56, [(2, { drop := rs [(0, 137)], nt := [], nb := [] }), (3, { drop := rs [(0, 1), (2, 135)], nt := [], nb := [] }), (4, { drop := rs [(0, 137)], nt := [], nb := [] }), (5, { drop := rs [(0, 1), (2, 135)], nt := [], nb := [] }), (8, { drop := rs [(0, 1), (2, 1), (4, 133)], nt := [], nb := [] }), (9, { drop := rs [(0, 1), (2, 1), (4, 133)], nt := [], nb := [] }), (11, { drop := rs [(0, 137)], nt := [], nb := [] }), (13, { drop := rs [(0, 137)], nt := [], nb := [] }), (14, { drop := rs [(0, 1), (2, 135)], nt := [], nb := [] }), (15, { drop := rs [(0, 137)], nt := [], nb := [] }), (16, { drop := rs [(0, 137)], nt := [], nb := [] })])] [] [] [] []
noncomputable def S56 (x0 : End) (n : Nat) : Option AV := startK C56 n 56 Tryz.f56 [.agg (enc27 x0)]
noncomputable def J56_2 : St := ⟨3, ⟨56, un 137, nb 137, [.code (b56 5 5), .code (b56 5 21), .code (b56 2 3)]⟩, []⟩
noncomputable def J56_3 (x0 : End) : St := ⟨4, ⟨56, ap [.undef, .ptr 0 1 0] (un 135), aq [[], (enc27 x0)] (nb 135), [.code (b56 4 3), .code (b56 4 11), .code (b56 3 7)]⟩, []⟩
noncomputable def J56_4 : St := ⟨5, ⟨56, un 137, nb 137, [.code (b56 6 11), .code (b56 6 43), .code (b56 3 7)]⟩, []⟩
noncomputable def J56_5 (x0 : End) : St := ⟨6, ⟨56, ap [.undef, .ptr 0 1 0] (un 135), aq [[], (enc27 x0)] (nb 135), [.code (b56 5 7), .code (b56 5 23), .code (b56 4 15)]⟩, []⟩
noncomputable def J56_8 (x0 : Int) (x1 : End) : St := ⟨9, ⟨56, ap [.undef, .ptr 0 1 0, .undef, .int .i64 x0] (un 133), aq [[], (enc27 x1)] (nb 135), [.code (b56 10 47), .code (b56 10 559), .code (b56 9 303), .inLoop (b56 8 47), .inBlock 0, .code (b56 5 31)]⟩, []⟩
noncomputable def J56_11 : St := ⟨12, ⟨56, un 137, nb 137, [.code (b56 14 2351), .code (b56 14 10543), .inBlock 1, .code (b56 10 815), .inLoop (b56 8 47), .inBlock 0, .code (b56 5 31)]⟩, []⟩
noncomputable def J56_9 (x0 : Int) (x1 : End) : St := ⟨10, ⟨56, ap [.undef, .ptr 0 1 0, .undef, .int .i64 x0] (un 133), aq [[], (enc27 x1)] (nb 135), [.code (b56 10 815), .inLoop (b56 8 47), .inBlock 0, .code (b56 5 31)]⟩, []⟩
noncomputable def J56_13 : St := ⟨14, ⟨56, un 137, nb 137, [.code (b56 9 95), .code (b56 9 351), .code (b56 6 63)]⟩, []⟩
noncomputable def J56_14 (x0 : End) : St := ⟨15, ⟨56, ap [.undef, .ptr 0 1 0] (un 135), aq [[], (enc27 x0)] (nb 135), [.code (b56 8 63), .code (b56 8 191), .code (b56 7 127)]⟩, []⟩
noncomputable def J56_15 : St := ⟨16, ⟨56, un 137, nb 137, [.code (b56 10 191), .code (b56 10 703), .code (b56 7 127)]⟩, []⟩
noncomputable def J56_16 : St := ⟨17, ⟨56, un 137, nb 137, [.code (b56 8 127), .code (b56 8 255)]⟩, []⟩
noncomputable abbrev cd56 : Cod (Int) := codI
noncomputable def tS56 (x0 : End) : Tr (Int) :=
  .cond (decide (x0.nd < 0))
  (.go J56_2)
  (.cond (decide (32 ≤ x0.nd))
    (.go J56_2)
    (.cond (decide (x0.pr < 0))
      (.go J56_2)
      (.cond (decide (32 ≤ x0.pr))
        (.go J56_2)
        (.cond (decide (x0.num < 0))
          (.go J56_2)
          (.cond (decide (255 < x0.num))
            (.go J56_2)
            (.cond (decide (x0.snc < 0))
              (.go J56_2)
              (.cond (decide (1099511627776 < x0.snc))
                (.go J56_2)
                (.go (J56_3 x0)))))))))
theorem eS56 (x0 : End) : vlim cd56 (S56 x0) = (tS56 x0).val cd56 C56 := Tr.val_eq 54 (fun H z => by kernel_rfl)
noncomputable def tJ56_2 : Tr (Int) :=
  .some 2
theorem eJ56_2 : lv cd56 C56 (J56_2) = (tJ56_2).val cd56 C56 := Tr.lv_eq 6 (fun H z => by kernel_rfl)
noncomputable def tJ56_3 (x0 : End) : Tr (Int) :=
  .cond (decide (x0.nd = x0.pr))
  (.go J56_4)
  (.cond (decide (x0.num = 0))
    (.cond (decide (0 < ((x0.cl).length : Int)))
      (.go J56_4)
      (.go (J56_5 x0)))
    (.go (J56_5 x0)))
theorem eJ56_3 (x0 : End) : lv cd56 C56 (J56_3 x0) = (tJ56_3 x0).val cd56 C56 := Tr.lv_eq 25 (fun H z => by kernel_rfl)
noncomputable def tJ56_4 : Tr (Int) :=
  .some 1
theorem eJ56_4 : lv cd56 C56 (J56_4) = (tJ56_4).val cd56 C56 := Tr.lv_eq 6 (fun H z => by kernel_rfl)
noncomputable def tJ56_5 (x0 : End) : Tr (Int) :=
  .cond ((V153 (⟨x0.nd, 512, x0.cl⟩ : Tab)).isSome)
  (.cond (!(decide ((F153 (⟨x0.nd, 512, x0.cl⟩ : Tab)) = 0)))
    (.some 1)
    (.go (J56_8 0 x0)))
  (.none)
theorem eJ56_5 (x0 : End) : lv cd56 C56 (J56_5 x0) = (tJ56_5 x0).val cd56 C56 := Tr.lv_eq 23 (fun H z => by kernel_rfl)
noncomputable def tJ56_8 (x0 : Int) (x1 : End) : Tr (Int) :=
  .cond (decide (x0 < ((x1.cl).length : Int)))
  (.cond (ib x0 x1.cl)
    (.cond (!(decide (((nth .cell x1.cl x0).kind) = 2)))
      (.go J56_11)
      (.cond (ib x0 x1.cl)
        (.cond (!(decide (((nth .cell x1.cl x0).peer) = x1.pr)))
          (.go J56_11)
          (.go (J56_9 x0 x1)))
        (.none)))
    (.none))
  (.cond x1.opn
    (.cond ((V154 x1).isSome)
      (.cond (!(F154 x1))
        (.go J56_13)
        (.cond (!x1.opn)
          (.cond ((V155 x1.ask).isSome)
            (.cond (!(F155 x1.ask))
              (.go J56_13)
              (.cond (!(decide (x1.snc = 0)))
                (.go J56_13)
                (.go (J56_14 x1))))
            (.none))
          (.go (J56_14 x1))))
      (.none))
    (.cond (!x1.opn)
      (.cond ((V155 x1.ask).isSome)
        (.cond (!(F155 x1.ask))
          (.go J56_13)
          (.cond (!(decide (x1.snc = 0)))
            (.go J56_13)
            (.go (J56_14 x1))))
        (.none))
      (.go (J56_14 x1))))
theorem eJ56_8 (x0 : Int) (x1 : End) : lv cd56 C56 (J56_8 x0 x1) = (tJ56_8 x0 x1).val cd56 C56 := Tr.lv_eq 43 (fun H z => by kernel_rfl)
noncomputable def tJ56_11 : Tr (Int) :=
  .some 1
theorem eJ56_11 : lv cd56 C56 (J56_11) = (tJ56_11).val cd56 C56 := Tr.lv_eq 6 (fun H z => by kernel_rfl)
noncomputable def tJ56_9 (x0 : Int) (x1 : End) : Tr (Int) :=
  .cond (inR .i64 (x0 + 1))
  (.go (J56_8 (x0 + 1) x1))
  (.none)
theorem eJ56_9 (x0 : Int) (x1 : End) : lv cd56 C56 (J56_9 x0 x1) = (tJ56_9 x0 x1).val cd56 C56 := Tr.lv_eq 11 (fun H z => by kernel_rfl)
noncomputable def tJ56_13 : Tr (Int) :=
  .some 1
theorem eJ56_13 : lv cd56 C56 (J56_13) = (tJ56_13).val cd56 C56 := Tr.lv_eq 6 (fun H z => by kernel_rfl)
noncomputable def tJ56_14 (x0 : End) : Tr (Int) :=
  .cond x0.kn
  (.cond ((V156 x0).isSome)
    (.cond (!(F156 x0))
      (.go J56_15)
      (.cond (!x0.kn)
        (.cond ((V155 x0.lst).isSome)
          (.cond (!(F155 x0.lst))
            (.go J56_15)
            (.cond ((V155 x0.rp).isSome)
              (.cond (!(F155 x0.rp))
                (.go J56_15)
                (.go J56_16))
              (.none)))
          (.none))
        (.go J56_16)))
    (.none))
  (.cond (!x0.kn)
    (.cond ((V155 x0.lst).isSome)
      (.cond (!(F155 x0.lst))
        (.go J56_15)
        (.cond ((V155 x0.rp).isSome)
          (.cond (!(F155 x0.rp))
            (.go J56_15)
            (.go J56_16))
          (.none)))
      (.none))
    (.go J56_16))
theorem eJ56_14 (x0 : End) : lv cd56 C56 (J56_14 x0) = (tJ56_14 x0).val cd56 C56 := Tr.lv_eq 32 (fun H z => by kernel_rfl)
noncomputable def tJ56_15 : Tr (Int) :=
  .some 1
theorem eJ56_15 : lv cd56 C56 (J56_15) = (tJ56_15).val cd56 C56 := Tr.lv_eq 6 (fun H z => by kernel_rfl)
noncomputable def tJ56_16 : Tr (Int) :=
  .some 0
theorem eJ56_16 : lv cd56 C56 (J56_16) = (tJ56_16).val cd56 C56 := Tr.lv_eq 6 (fun H z => by kernel_rfl)
noncomputable def V56 (x0 : End) : Option (Int) := vlim cd56 (S56 x0)
noncomputable def F56 (x0 : End) : Int := (V56 x0).getD default
noncomputable def G56 : GE := mkG [(0, some 3, .cell), (0, some 11, .spot), (0, some 12, .spot), (0, some 19, .spot), (0, some 20, .spot), (0, some 26, .spot), (0, some 27, .spot)] (cod27.a (.nil)) (fun x => V56 x.1) cd56
theorem ge56 : GeOk 56 G56 := ge_mk (C := C56) (base_ok (.cons ge153 (.cons ge154 (.cons ge155 (.cons ge156 .nil)))) (.cons c56 .nil) .nil) rfl c56 (fun _ => rfl) (by kernel_rfl)
theorem c30 : CdOk 30 Tryz.f30 := ⟨by kernel_rfl, by kernel_rfl⟩
noncomputable def C30 : Cfg := base [(31, G31), (117, G117)] [(30, Tryz.f30)] [(30, [])] [] [] [] []
noncomputable def S30 (x0 x1 : End) (n : Nat) : Option AV := startK C30 n 30 Tryz.f30 [.agg (enc27 x0), .agg (enc27 x1)]
noncomputable abbrev cd30 : Cod (Bool) := codB
noncomputable def tS30 (x0 x1 : End) : Tr (Bool) :=
  .cond (decide (x0.nd = x1.nd))
  (.cond (decide (x0.pr = x1.pr))
    (.cond (decide (x0.num = x1.num))
      (.cond ((V117 x0.cl x1.cl).isSome)
        (.cond (F117 x0.cl x1.cl)
          (.cond (x0.opn == x1.opn)
            (.cond (decide (x0.snc = x1.snc))
              (.cond ((V31 x0.ask x1.ask).isSome)
                (.cond (F31 x0.ask x1.ask)
                  (.cond (x0.kn == x1.kn)
                    (.cond ((V31 x0.lst x1.lst).isSome)
                      (.cond (F31 x0.lst x1.lst)
                        (.cond ((V31 x0.rp x1.rp).isSome)
                        (.some (F31 x0.rp x1.rp))
                        (.none))
                        (.some false))
                      (.none))
                    (.some false))
                  (.some false))
                (.none))
              (.some false))
            (.some false))
          (.some false))
        (.none))
      (.some false))
    (.some false))
  (.some false)
theorem eS30 (x0 x1 : End) : vlim cd30 (S30 x0 x1) = (tS30 x0 x1).val cd30 C30 := Tr.val_eq 81 (fun H z => by kernel_rfl)
noncomputable def V30 (x0 x1 : End) : Option (Bool) := vlim cd30 (S30 x0 x1)
noncomputable def F30 (x0 x1 : End) : Bool := (V30 x0 x1).getD default
noncomputable def G30 : GE := mkG [(0, some 3, .cell), (0, some 11, .spot), (0, some 12, .spot), (0, some 19, .spot), (0, some 20, .spot), (0, some 26, .spot), (0, some 27, .spot), (1, some 3, .cell), (1, some 11, .spot), (1, some 12, .spot), (1, some 19, .spot), (1, some 20, .spot), (1, some 26, .spot), (1, some 27, .spot)] (cod27.a (cod27.a (.nil))) (fun x => V30 x.1 x.2.1) cd30
theorem ge30 : GeOk 30 G30 := ge_mk (C := C30) (base_ok (.cons ge31 (.cons ge117 .nil)) (.cons c30 .nil) .nil) rfl c30 (fun _ => rfl) (by kernel_rfl)
noncomputable def b4 (n p : Nat) : Code := bp n p (bodyA Tryz.f4)
noncomputable def b6 (n p : Nat) : Code := bp n p (bodyA Tryz.f6)
theorem c51 : CdOk 51 Tryz.f51 := ⟨by kernel_rfl, by kernel_rfl⟩
noncomputable def b51 (n p : Nat) : Code := bp n p (bodyA Tryz.f51)
noncomputable def C51 : Cfg := base [] [(51, Tryz.f51)] [(51, [(2, { drop := rs [(0, 2), (5, 24)], nt := [], nb := [] }), (3, { drop := rs [(5, 24)], nt := [], nb := [] })])] [] [] [(0, some 3, .cell), (0, some 11, .spot), (0, some 12, .spot), (0, some 19, .spot), (0, some 20, .spot), (0, some 26, .spot), (0, some 27, .spot)] []
noncomputable def S51 (x0 x1 : Int) (n : Nat) : Option AV := startK C51 n 51 Tryz.f51 [.int .i64 x0, .int .i64 x1]
noncomputable def J51_2 (x0 x1 x2 : Int) (x3 : Bool) (x4 x5 : Int) (x6 : Bool) (x7 x8 x9 : Int) (x10 : Bool) (x11 : Int) (x12 : Bool) (x13 x14 x15 x16 : Int) (x17 : Bool) (x18 x19 x20 : Int) : St := ⟨3, ⟨51, ap (un 4) (ap [.ptr 0 4 0] (un 24)), aq (nb 4) (aq [[.int .i64 x0, .int .i64 x1, .int .i64 x2, .nilS, .bool x3, .int .i64 x4, .int .i64 x5, .bool x6, .int .i64 x7, .int .i64 x8, .int .i64 x9, .nilS, .nilS, .bool x10, .int .i64 x11, .bool x12, .int .i64 x13, .int .i64 x14, .int .i64 x15, .nilS, .nilS, .int .i64 x16, .bool x17, .int .i64 x18, .int .i64 x19, .int .i64 x20, .nilS, .nilS]] (nb 24)), [.code (b51 5 5), .code (b51 5 21), .code (b51 2 3)]⟩, []⟩
noncomputable def J51_3 (x0 x1 x2 x3 x4 : Int) (x5 : Bool) (x6 x7 : Int) (x8 : Bool) (x9 x10 x11 : Int) (x12 : Bool) (x13 : Int) (x14 : Bool) (x15 x16 x17 x18 : Int) (x19 : Bool) (x20 x21 x22 : Int) : St := ⟨4, ⟨51, ap [.int .i64 x0, .int .i64 x1, .undef, .undef, .ptr 0 4 0] (un 24), aq (nb 4) (aq [[.int .i64 x2, .int .i64 x3, .int .i64 x4, .nilS, .bool x5, .int .i64 x6, .int .i64 x7, .bool x8, .int .i64 x9, .int .i64 x10, .int .i64 x11, .nilS, .nilS, .bool x12, .int .i64 x13, .bool x14, .int .i64 x15, .int .i64 x16, .int .i64 x17, .nilS, .nilS, .int .i64 x18, .bool x19, .int .i64 x20, .int .i64 x21, .int .i64 x22, .nilS, .nilS]] (nb 24)), [.code (b51 3 3), .code (b51 3 7)]⟩, []⟩
noncomputable abbrev cd51 : Cod (End × Int) := (codT2 cod27 codI)
noncomputable def tS51 (x0 x1 : Int) : Tr (End × Int) :=
  .cond (decide (x0 < 0))
  (.go (J51_2 0 0 0 false 0 0 false 0 0 0 false 0 false 0 0 0 0 false 0 0 0))
  (.cond (decide (32 ≤ x0))
    (.go (J51_2 0 0 0 false 0 0 false 0 0 0 false 0 false 0 0 0 0 false 0 0 0))
    (.cond (decide (x1 < 0))
      (.go (J51_2 0 0 0 false 0 0 false 0 0 0 false 0 false 0 0 0 0 false 0 0 0))
      (.cond (decide (32 ≤ x1))
        (.go (J51_2 0 0 0 false 0 0 false 0 0 0 false 0 false 0 0 0 0 false 0 0 0))
        (.cond (decide (x0 = x1))
          (.go (J51_2 0 0 0 false 0 0 false 0 0 0 false 0 false 0 0 0 0 false 0 0 0))
          (.go (J51_3 x0 x1 0 0 0 false 0 0 false 0 0 0 false 0 false 0 0 0 0 false 0 0 0))))))
theorem eS51 (x0 x1 : Int) : vlim cd51 (S51 x0 x1) = (tS51 x0 x1).val cd51 C51 := Tr.val_eq 34 (fun H z => by kernel_rfl)
noncomputable def tJ51_2 (x0 x1 x2 : Int) (x3 : Bool) (x4 x5 : Int) (x6 : Bool) (x7 x8 x9 : Int) (x10 : Bool) (x11 : Int) (x12 : Bool) (x13 x14 x15 x16 : Int) (x17 : Bool) (x18 x19 x20 : Int) : Tr (End × Int) :=
  .some ((⟨0, 0, 0, ([] : List Cell), false, 0, (⟨0, false, 0, 0, 0, ([] : List Spot), ([] : List Spot)⟩ : Msg), false, (⟨0, false, 0, 0, 0, ([] : List Spot), ([] : List Spot)⟩ : Msg), (⟨0, false, 0, 0, 0, ([] : List Spot), ([] : List Spot)⟩ : Msg)⟩ : End), 2)
theorem eJ51_2 (x0 x1 x2 : Int) (x3 : Bool) (x4 x5 : Int) (x6 : Bool) (x7 x8 x9 : Int) (x10 : Bool) (x11 : Int) (x12 : Bool) (x13 x14 x15 x16 : Int) (x17 : Bool) (x18 x19 x20 : Int) : lv cd51 C51 (J51_2 x0 x1 x2 x3 x4 x5 x6 x7 x8 x9 x10 x11 x12 x13 x14 x15 x16 x17 x18 x19 x20) = (tJ51_2 x0 x1 x2 x3 x4 x5 x6 x7 x8 x9 x10 x11 x12 x13 x14 x15 x16 x17 x18 x19 x20).val cd51 C51 := Tr.lv_eq 8 (fun H z => by kernel_rfl)
noncomputable def tJ51_3 (x0 x1 x2 x3 x4 : Int) (x5 : Bool) (x6 x7 : Int) (x8 : Bool) (x9 x10 x11 : Int) (x12 : Bool) (x13 : Int) (x14 : Bool) (x15 x16 x17 x18 : Int) (x19 : Bool) (x20 x21 x22 : Int) : Tr (End × Int) :=
  .some ((⟨x0, x1, 0, ([] : List Cell), false, 0, (⟨0, false, 0, 0, 0, ([] : List Spot), ([] : List Spot)⟩ : Msg), false, (⟨0, false, 0, 0, 0, ([] : List Spot), ([] : List Spot)⟩ : Msg), (⟨0, false, 0, 0, 0, ([] : List Spot), ([] : List Spot)⟩ : Msg)⟩ : End), 0)
theorem eJ51_3 (x0 x1 x2 x3 x4 : Int) (x5 : Bool) (x6 x7 : Int) (x8 : Bool) (x9 x10 x11 : Int) (x12 : Bool) (x13 : Int) (x14 : Bool) (x15 x16 x17 x18 : Int) (x19 : Bool) (x20 x21 x22 : Int) : lv cd51 C51 (J51_3 x0 x1 x2 x3 x4 x5 x6 x7 x8 x9 x10 x11 x12 x13 x14 x15 x16 x17 x18 x19 x20 x21 x22) = (tJ51_3 x0 x1 x2 x3 x4 x5 x6 x7 x8 x9 x10 x11 x12 x13 x14 x15 x16 x17 x18 x19 x20 x21 x22).val cd51 C51 := Tr.lv_eq 10 (fun H z => by kernel_rfl)
noncomputable def V51 (x0 x1 : Int) : Option (End × Int) := vlim cd51 (S51 x0 x1)
noncomputable def F51 (x0 x1 : Int) : End × Int := (V51 x0 x1).getD default
noncomputable def G51 : GE := mkG [] (codI.a (codI.a (.nil))) (fun x => V51 x.1 x.2.1) cd51
theorem ge51 : GeOk 51 G51 := ge_mk (C := C51) (base_ok .nil (.cons c51 .nil) .nil) rfl c51 (fun _ => rfl) (by kernel_rfl)
theorem c52 : CdOk 52 Tryz.f52 := ⟨by kernel_rfl, by kernel_rfl⟩
noncomputable def b52 (n p : Nat) : Code := bp n p (bodyA Tryz.f52)
noncomputable def C52 : Cfg := base [(56, G56), (109, G109)] [(52, Tryz.f52)] [(52, [(2, { drop := rs [(0, 3), (7, 30)], nt := [], nb := [] }), (3, { drop := rs [(0, 3), (7, 30)], nt := [], nb := [] })])] [] [] [(0, some 3, .cell), (0, some 11, .spot), (0, some 12, .spot), (0, some 19, .spot), (0, some 20, .spot), (0, some 26, .spot), (0, some 27, .spot)] []
noncomputable def S52 (x0 : End) (x1 x2 : Int) (n : Nat) : Option AV := startK C52 n 52 Tryz.f52 [.agg (enc27 x0), .int .i64 x1, .int .i64 x2]
noncomputable def J52_2 (x0 : End) (x1 x2 x3 : Int) (x4 : Bool) (x5 x6 : Int) (x7 : Bool) (x8 x9 x10 : Int) (x11 : Bool) (x12 : Int) (x13 : Bool) (x14 x15 x16 x17 : Int) (x18 : Bool) (x19 x20 x21 : Int) : St := ⟨3, ⟨52, ap (un 3) (ap [.ptr 0 3 0, .undef, .undef, .ptr 0 6 0] (un 30)), aq (nb 3) (aq [(enc27 x0), [], [], [.int .i64 x1, .int .i64 x2, .int .i64 x3, .nilS, .bool x4, .int .i64 x5, .int .i64 x6, .bool x7, .int .i64 x8, .int .i64 x9, .int .i64 x10, .nilS, .nilS, .bool x11, .int .i64 x12, .bool x13, .int .i64 x14, .int .i64 x15, .int .i64 x16, .nilS, .nilS, .int .i64 x17, .bool x18, .int .i64 x19, .int .i64 x20, .int .i64 x21, .nilS, .nilS]] (nb 30)), [.code (b52 5 5), .code (b52 5 21), .code (b52 2 3)]⟩, []⟩
noncomputable def J52_3 (x0 : End) (x1 x2 x3 : Int) (x4 : Bool) (x5 x6 : Int) (x7 : Bool) (x8 x9 x10 : Int) (x11 : Bool) (x12 : Int) (x13 : Bool) (x14 x15 x16 x17 : Int) (x18 : Bool) (x19 x20 x21 : Int) : St := ⟨4, ⟨52, ap (un 3) (ap [.ptr 0 3 0, .undef, .undef, .ptr 0 6 0] (un 30)), aq (nb 3) (aq [(enc27 x0), [], [], [.int .i64 x1, .int .i64 x2, .int .i64 x3, .nilS, .bool x4, .int .i64 x5, .int .i64 x6, .bool x7, .int .i64 x8, .int .i64 x9, .int .i64 x10, .nilS, .nilS, .bool x11, .int .i64 x12, .bool x13, .int .i64 x14, .int .i64 x15, .int .i64 x16, .nilS, .nilS, .int .i64 x17, .bool x18, .int .i64 x19, .int .i64 x20, .int .i64 x21, .nilS, .nilS]] (nb 30)), [.code (b52 3 3), .code (b52 3 7)]⟩, []⟩
noncomputable abbrev cd52 : Cod (End × Bool) := (codT2 cod27 codB)
noncomputable def tS52 (x0 : End) (x1 x2 : Int) : Tr (End × Bool) :=
  .cond ((V56 x0).isSome)
  (.cond (!(decide ((F56 x0) = 0)))
    (.go (J52_2 x0 0 0 0 false 0 0 false 0 0 0 false 0 false 0 0 0 0 false 0 0 0))
    (.cond (!x0.opn)
      (.go (J52_2 x0 0 0 0 false 0 0 false 0 0 0 false 0 false 0 0 0 0 false 0 0 0))
      (.cond (decide (x1 < 0))
        (.go (J52_2 x0 0 0 0 false 0 0 false 0 0 0 false 0 false 0 0 0 0 false 0 0 0))
        (.cond (inR .i64 (x1 - x0.snc))
          (.cond (decide ((x1 - x0.snc) < x2))
            (.go (J52_2 x0 0 0 0 false 0 0 false 0 0 0 false 0 false 0 0 0 0 false 0 0 0))
            (.go (J52_3 x0 0 0 0 false 0 0 false 0 0 0 false 0 false 0 0 0 0 false 0 0 0)))
          (.none)))))
  (.none)
theorem eS52 (x0 : End) (x1 x2 : Int) : vlim cd52 (S52 x0 x1 x2) = (tS52 x0 x1 x2).val cd52 C52 := Tr.val_eq 36 (fun H z => by kernel_rfl)
noncomputable def tJ52_2 (x0 : End) (x1 x2 x3 : Int) (x4 : Bool) (x5 x6 : Int) (x7 : Bool) (x8 x9 x10 : Int) (x11 : Bool) (x12 : Int) (x13 : Bool) (x14 x15 x16 x17 : Int) (x18 : Bool) (x19 x20 x21 : Int) : Tr (End × Bool) :=
  .some (x0, false)
theorem eJ52_2 (x0 : End) (x1 x2 x3 : Int) (x4 : Bool) (x5 x6 : Int) (x7 : Bool) (x8 x9 x10 : Int) (x11 : Bool) (x12 : Int) (x13 : Bool) (x14 x15 x16 x17 : Int) (x18 : Bool) (x19 x20 x21 : Int) : lv cd52 C52 (J52_2 x0 x1 x2 x3 x4 x5 x6 x7 x8 x9 x10 x11 x12 x13 x14 x15 x16 x17 x18 x19 x20 x21) = (tJ52_2 x0 x1 x2 x3 x4 x5 x6 x7 x8 x9 x10 x11 x12 x13 x14 x15 x16 x17 x18 x19 x20 x21).val cd52 C52 := Tr.lv_eq 8 (fun H z => by kernel_rfl)
noncomputable def tJ52_3 (x0 : End) (x1 x2 x3 : Int) (x4 : Bool) (x5 x6 : Int) (x7 : Bool) (x8 x9 x10 : Int) (x11 : Bool) (x12 : Int) (x13 : Bool) (x14 x15 x16 x17 : Int) (x18 : Bool) (x19 x20 x21 : Int) : Tr (End × Bool) :=
  .cond ((V109 x0).isSome)
  (.some ((⟨(F109 x0).nd, (F109 x0).pr, (F109 x0).num, (F109 x0).cl, false, 0, (⟨0, false, 0, 0, 0, ([] : List Spot), ([] : List Spot)⟩ : Msg), (F109 x0).kn, (F109 x0).lst, (F109 x0).rp⟩ : End), true))
  (.none)
theorem eJ52_3 (x0 : End) (x1 x2 x3 : Int) (x4 : Bool) (x5 x6 : Int) (x7 : Bool) (x8 x9 x10 : Int) (x11 : Bool) (x12 : Int) (x13 : Bool) (x14 x15 x16 x17 : Int) (x18 : Bool) (x19 x20 x21 : Int) : lv cd52 C52 (J52_3 x0 x1 x2 x3 x4 x5 x6 x7 x8 x9 x10 x11 x12 x13 x14 x15 x16 x17 x18 x19 x20 x21) = (tJ52_3 x0 x1 x2 x3 x4 x5 x6 x7 x8 x9 x10 x11 x12 x13 x14 x15 x16 x17 x18 x19 x20 x21).val cd52 C52 := Tr.lv_eq 25 (fun H z => by kernel_rfl)
noncomputable def V52 (x0 : End) (x1 x2 : Int) : Option (End × Bool) := vlim cd52 (S52 x0 x1 x2)
noncomputable def F52 (x0 : End) (x1 x2 : Int) : End × Bool := (V52 x0 x1 x2).getD default
noncomputable def G52 : GE := mkG [(0, some 3, .cell), (0, some 11, .spot), (0, some 12, .spot), (0, some 19, .spot), (0, some 20, .spot), (0, some 26, .spot), (0, some 27, .spot)] (cod27.a (codI.a (codI.a (.nil)))) (fun x => V52 x.1 x.2.1 x.2.2.1) cd52
theorem ge52 : GeOk 52 G52 := ge_mk (C := C52) (base_ok (.cons ge56 (.cons ge109 .nil)) (.cons c52 .nil) .nil) rfl c52 (fun _ => rfl) (by kernel_rfl)
theorem c53 : CdOk 53 Tryz.f53 := ⟨by kernel_rfl, by kernel_rfl⟩
noncomputable def C53 : Cfg := base [(38, G38)] [(53, Tryz.f53)] [(53, [])] [] [] [(0, some 3, .cell), (0, some 11, .spot), (0, some 12, .spot), (0, some 19, .spot), (0, some 20, .spot), (0, some 26, .spot), (0, some 27, .spot)] []
noncomputable def S53 (x0 : End) (n : Nat) : Option AV := startK C53 n 53 Tryz.f53 [.agg (enc27 x0)]
noncomputable abbrev cd53 : Cod (End × Int) := (codT2 cod27 codI)
noncomputable def tS53 (x0 : End) : Tr (End × Int) :=
  .cond ((V38 x0).isSome)
  (.cond (!(decide ((F38 x0) = 0)))
    (.some ((⟨0, 0, 0, ([] : List Cell), false, 0, (⟨0, false, 0, 0, 0, ([] : List Spot), ([] : List Spot)⟩ : Msg), false, (⟨0, false, 0, 0, 0, ([] : List Spot), ([] : List Spot)⟩ : Msg), (⟨0, false, 0, 0, 0, ([] : List Spot), ([] : List Spot)⟩ : Msg)⟩ : End), 1))
    (.some ((⟨x0.nd, x0.pr, 0, ([] : List Cell), false, 0, (⟨0, false, 0, 0, 0, ([] : List Spot), ([] : List Spot)⟩ : Msg), false, (⟨0, false, 0, 0, 0, ([] : List Spot), ([] : List Spot)⟩ : Msg), (⟨0, false, 0, 0, 0, ([] : List Spot), ([] : List Spot)⟩ : Msg)⟩ : End), 0)))
  (.none)
theorem eS53 (x0 : End) : vlim cd53 (S53 x0) = (tS53 x0).val cd53 C53 := Tr.val_eq 28 (fun H z => by kernel_rfl)
noncomputable def V53 (x0 : End) : Option (End × Int) := vlim cd53 (S53 x0)
noncomputable def F53 (x0 : End) : End × Int := (V53 x0).getD default
noncomputable def G53 : GE := mkG [(0, some 3, .cell), (0, some 11, .spot), (0, some 12, .spot), (0, some 19, .spot), (0, some 20, .spot), (0, some 26, .spot), (0, some 27, .spot)] (cod27.a (.nil)) (fun x => V53 x.1) cd53
theorem ge53 : GeOk 53 G53 := ge_mk (C := C53) (base_ok (.cons ge38 .nil) (.cons c53 .nil) .nil) rfl c53 (fun _ => rfl) (by kernel_rfl)
theorem c54 : CdOk 54 Tryz.f54 := ⟨by kernel_rfl, by kernel_rfl⟩
noncomputable def C54 : Cfg := base [(56, G56)] [(54, Tryz.f54)] [(54, [])] [] [] [(0, some 3, .cell), (0, some 11, .spot), (0, some 12, .spot), (0, some 19, .spot), (0, some 20, .spot), (0, some 26, .spot), (0, some 27, .spot)] []
noncomputable def S54 (x0 : End) (n : Nat) : Option AV := startK C54 n 54 Tryz.f54 [.agg (enc27 x0)]
noncomputable abbrev cd54 : Cod (End × Int) := (codT2 cod27 codI)
noncomputable def tS54 (x0 : End) : Tr (End × Int) :=
  .cond ((V56 x0).isSome)
  (.cond (!(decide ((F56 x0) = 0)))
    (.some ((⟨0, 0, 0, ([] : List Cell), false, 0, (⟨0, false, 0, 0, 0, ([] : List Spot), ([] : List Spot)⟩ : Msg), false, (⟨0, false, 0, 0, 0, ([] : List Spot), ([] : List Spot)⟩ : Msg), (⟨0, false, 0, 0, 0, ([] : List Spot), ([] : List Spot)⟩ : Msg)⟩ : End), 1))
    (.some ((⟨x0.nd, x0.pr, 0, ([] : List Cell), false, 0, (⟨0, false, 0, 0, 0, ([] : List Spot), ([] : List Spot)⟩ : Msg), false, (⟨0, false, 0, 0, 0, ([] : List Spot), ([] : List Spot)⟩ : Msg), (⟨0, false, 0, 0, 0, ([] : List Spot), ([] : List Spot)⟩ : Msg)⟩ : End), 0)))
  (.none)
theorem eS54 (x0 : End) : vlim cd54 (S54 x0) = (tS54 x0).val cd54 C54 := Tr.val_eq 28 (fun H z => by kernel_rfl)
noncomputable def V54 (x0 : End) : Option (End × Int) := vlim cd54 (S54 x0)
noncomputable def F54 (x0 : End) : End × Int := (V54 x0).getD default
noncomputable def G54 : GE := mkG [(0, some 3, .cell), (0, some 11, .spot), (0, some 12, .spot), (0, some 19, .spot), (0, some 20, .spot), (0, some 26, .spot), (0, some 27, .spot)] (cod27.a (.nil)) (fun x => V54 x.1) cd54
theorem ge54 : GeOk 54 G54 := ge_mk (C := C54) (base_ok (.cons ge56 .nil) (.cons c54 .nil) .nil) rfl c54 (fun _ => rfl) (by kernel_rfl)
theorem c10 : CdOk 10 Tryz.f10 := ⟨by kernel_rfl, by kernel_rfl⟩
noncomputable def b10 (n p : Nat) : Code := bp n p (bodyA Tryz.f10)
noncomputable def C10 : Cfg := base [(24, G24), (25, G25), (30, G30), (38, G38), (41, G41), (43, G43), (50, G50), (51, G51), (52, G52), (53, G53), (54, G54), (55, G55), (56, G56)] [(10, Tryz.f10)] [(10, [])] [] [] [] []
noncomputable def S10 (x0 : End) (x1 x2 x3 x4 : Int) (n : Nat) : Option AV := startK C10 n 10 Tryz.f10 [.agg (enc27 x0), .int .i64 x1, .int .i64 x2, .int .i64 x3, .int .i64 x4]
noncomputable abbrev cd10 : Cod (Bool) := codB
noncomputable def tS10 (x0 : End) (x1 x2 x3 x4 : Int) : Tr (Bool) :=
  .cond V24.isSome
  (.cond (!F24)
    (.some false)
    (.cond ((V25 x0).isSome)
      (.cond (!(F25 x0))
        (.some true)
        (.cond ((V43 x1 x2).isSome)
          (.cond ((V51 x1 x2).isSome)
            (.cond ((V50 x0 x3 x4).isSome)
              (.cond ((V52 x0 x3 x4).isSome)
                (.cond ((V53 x0).isSome)
                  (.cond ((V54 x0).isSome)
                    (.cond ((V41 x1).isSome)
                      (.cond ((V55 x1).isSome)
                        (.cond (decide ((F41 x1) = (F55 x1)))
                        (.cond ((V38 x0).isSome)
                        (.cond ((V56 x0).isSome)
                        (.cond (decide ((F38 x0) = (F56 x0)))
                        (.cond (decide (((F43 x1 x2).2) = ((F51 x1 x2).2)))
                        (.cond (((F50 x0 x3 x4).2) == ((F52 x0 x3 x4).2))
                        (.cond (decide (((F53 x0).2) = ((F54 x0).2)))
                        (.cond ((V30 ((F43 x1 x2).1) ((F51 x1 x2).1)).isSome)
                        (.cond (F30 ((F43 x1 x2).1) ((F51 x1 x2).1))
                        (.cond ((V30 ((F50 x0 x3 x4).1) ((F52 x0 x3 x4).1)).isSome)
                        (.cond (F30 ((F50 x0 x3 x4).1) ((F52 x0 x3 x4).1))
                        (.cond ((V30 ((F53 x0).1) ((F54 x0).1)).isSome)
                        (.some (F30 ((F53 x0).1) ((F54 x0).1)))
                        (.none))
                        (.some false))
                        (.none))
                        (.some false))
                        (.none))
                        (.some false))
                        (.some false))
                        (.some false))
                        (.some false))
                        (.none))
                        (.none))
                        (.some false))
                        (.none))
                      (.none))
                    (.none))
                  (.none))
                (.none))
              (.none))
            (.none))
          (.none)))
      (.none)))
  (.none)
theorem eS10 (x0 : End) (x1 x2 x3 x4 : Int) : vlim cd10 (S10 x0 x1 x2 x3 x4) = (tS10 x0 x1 x2 x3 x4).val cd10 C10 := Tr.val_eq 99 (fun H z => by kernel_rfl)
noncomputable def V10 (x0 : End) (x1 x2 x3 x4 : Int) : Option (Bool) := vlim cd10 (S10 x0 x1 x2 x3 x4)
noncomputable def G10 : GE := mkG [(0, some 3, .cell), (0, some 11, .spot), (0, some 12, .spot), (0, some 19, .spot), (0, some 20, .spot), (0, some 26, .spot), (0, some 27, .spot)] (cod27.a (codI.a (codI.a (codI.a (codI.a (.nil)))))) (fun x => V10 x.1 x.2.1 x.2.2.1 x.2.2.2.1 x.2.2.2.2.1) cd10
theorem ge10 : GeOk 10 G10 := ge_mk (C := C10) (base_ok (.cons ge24 (.cons ge25 (.cons ge30 (.cons ge38 (.cons ge41 (.cons ge43 (.cons ge50 (.cons ge51 (.cons ge52 (.cons ge53 (.cons ge54 (.cons ge55 (.cons ge56 .nil))))))))))))) (.cons c10 .nil) .nil) rfl c10 (fun _ => rfl) (by kernel_rfl)
end Go.Am
