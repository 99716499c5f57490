/- Part 34 of the proof: FA3. -/
import Derived.Test.YtapedmpbgeoieaaGreatC4p29
import Derived.Test.YtapedmpbgeoieaaGreatC4p30
import Derived.Test.YtapedmpbgeoieaaGreatC4p31
import Derived.Test.YtapedmpbgeoieaaGreatC4p32
set_option linter.unusedSimpArgs false
set_option linter.unusedVariables false
namespace Go.Am
open Go Go.Proofs
set_option maxRecDepth 100000
set_option linter.unusedVariables false

theorem c56 : CdOk 56 Tryz.f56 := ⟨by kernel_rfl, by kernel_rfl⟩
noncomputable def b56 (n p : Nat) : Code := bp n p (bodyA Tryz.f56)
noncomputable def C56 : Cfg := base [(153, G153), (154, G154), (155, G155), (156, G156)] [(56, Tryz.f56)] [(56, [(2, { drop := rs [(0, 137)], nt := [], nb := [] }), (3, { drop := rs [(0, 1), (2, 135)], nt := [], nb := [] }), (4, { drop := rs [(0, 137)], nt := [], nb := [] }), (5, { drop := rs [(0, 1), (2, 135)], nt := [], nb := [] }), (8, { drop := rs [(0, 1), (2, 1), (4, 133)], nt := [], nb := [] }), (9, { drop := rs [(0, 1), (2, 1), (4, 133)], nt := [], nb := [] }), (11, { drop := rs [(0, 137)], nt := [], nb := [] }), (13, { drop := rs [(0, 137)], nt := [], nb := [] }), (14, { drop := rs [(0, 1), (2, 135)], nt := [], nb := [] }), (15, { drop := rs [(0, 137)], nt := [], nb := [] }), (16, { drop := rs [(0, 137)], nt := [], nb := [] })])] [] [] [] []
noncomputable def S56 (x0 : End) (n : Nat) : Option AV := startK C56 n 56 Tryz.f56 [.agg (enc27 x0)]
noncomputable def J56_2 : St := ⟨3, ⟨56, un 137, nb 137, [.code (b56 5 5), .code (b56 5 21), .code (b56 2 3)]⟩, []⟩
noncomputable def J56_3 (x0 : End) : St := ⟨4, ⟨56, ap [.undef, .ptr 0 1 0] (un 135), aq [[], (enc27 x0)] (nb 135), [.code (b56 4 3), .code (b56 4 11), .code (b56 3 7)]⟩, []⟩
noncomputable def J56_4 : St := ⟨5, ⟨56, un 137, nb 137, [.code (b56 6 11), .code (b56 6 43), .code (b56 3 7)]⟩, []⟩
noncomputable def J56_5 (x0 : End) : St := ⟨6, ⟨56, ap [.undef, .ptr 0 1 0] (un 135), aq [[], (enc27 x0)] (nb 135), [.code (b56 5 7), .code (b56 5 23), .code (b56 4 15)]⟩, []⟩
noncomputable def J56_8 (x0 : Int) (x1 : End) : St := ⟨9, ⟨56, ap [.undef, .ptr 0 1 0, .undef, .int .i64 x0] (un 133), aq [[], (enc27 x1)] (nb 135), [.code (b56 10 47), .code (b56 10 559), .code (b56 9 303), .inLoop (b56 8 47), .inBlock 0, .code (b56 5 31)]⟩, []⟩
noncomputable def J56_11 : St := ⟨12, ⟨56, un 137, nb 137, [.code (b56 14 2351), .code (b56 14 10543), .inBlock 1, .code (b56 10 815), .inLoop (b56 8 47), .inBlock 0, .code (b56 5 31)]⟩, []⟩
noncomputable def J56_9 (x0 : Int) (x1 : End) : St := ⟨10, ⟨56, ap [.undef, .ptr 0 1 0, .undef, .int .i64 x0] (un 133), aq [[], (enc27 x1)] (nb 135), [.code (b56 10 815), .inLoop (b56 8 47), .inBlock 0, .code (b56 5 31)]⟩, []⟩
noncomputable def J56_13 : St := ⟨14, ⟨56, un 137, nb 137, [.code (b56 9 95), .code (b56 9 351), .code (b56 6 63)]⟩, []⟩
noncomputable def J56_14 (x0 : End) : St := ⟨15, ⟨56, ap [.undef, .ptr 0 1 0] (un 135), aq [[], (enc27 x0)] (nb 135), [.code (b56 8 63), .code (b56 8 191), .code (b56 7 127)]⟩, []⟩
noncomputable def J56_15 : St := ⟨16, ⟨56, un 137, nb 137, [.code (b56 10 191), .code (b56 10 703), .code (b56 7 127)]⟩, []⟩
noncomputable def J56_16 : St := ⟨17, ⟨56, un 137, nb 137, [.code (b56 8 127), .code (b56 8 255)]⟩, []⟩
noncomputable abbrev cd56 : Cod (Int) := codI
noncomputable def tS56 (x0 : End) : Tr (Int) :=
  .cond (decide (x0.nd < 0))
  (.go J56_2)
  (.cond (decide (32 ≤ x0.nd))
    (.go J56_2)
    (.cond (decide (x0.pr < 0))
      (.go J56_2)
      (.cond (decide (32 ≤ x0.pr))
        (.go J56_2)
        (.cond (decide (x0.num < 0))
          (.go J56_2)
          (.cond (decide (255 < x0.num))
            (.go J56_2)
            (.cond (decide (x0.snc < 0))
              (.go J56_2)
              (.cond (decide (1099511627776 < x0.snc))
                (.go J56_2)
                (.go (J56_3 x0)))))))))
theorem eS56 (x0 : End) : vlim cd56 (S56 x0) = (tS56 x0).val cd56 C56 := Tr.val_eq 54 (fun H z => by kernel_rfl)
noncomputable def tJ56_2 : Tr (Int) :=
  .some 2
theorem eJ56_2 : lv cd56 C56 (J56_2) = (tJ56_2).val cd56 C56 := Tr.lv_eq 6 (fun H z => by kernel_rfl)
noncomputable def tJ56_3 (x0 : End) : Tr (Int) :=
  .cond (decide (x0.nd = x0.pr))
  (.go J56_4)
  (.cond (decide (x0.num = 0))
    (.cond (decide (0 < ((x0.cl).length : Int)))
      (.go J56_4)
      (.go (J56_5 x0)))
    (.go (J56_5 x0)))
theorem eJ56_3 (x0 : End) : lv cd56 C56 (J56_3 x0) = (tJ56_3 x0).val cd56 C56 := Tr.lv_eq 25 (fun H z => by kernel_rfl)
noncomputable def tJ56_4 : Tr (Int) :=
  .some 1
theorem eJ56_4 : lv cd56 C56 (J56_4) = (tJ56_4).val cd56 C56 := Tr.lv_eq 6 (fun H z => by kernel_rfl)
noncomputable def tJ56_5 (x0 : End) : Tr (Int) :=
  .cond ((V153 (⟨x0.nd, 512, x0.cl⟩ : Tab)).isSome)
  (.cond (!(decide ((F153 (⟨x0.nd, 512, x0.cl⟩ : Tab)) = 0)))
    (.some 1)
    (.go (J56_8 0 x0)))
  (.none)
theorem eJ56_5 (x0 : End) : lv cd56 C56 (J56_5 x0) = (tJ56_5 x0).val cd56 C56 := Tr.lv_eq 23 (fun H z => by kernel_rfl)
noncomputable def tJ56_8 (x0 : Int) (x1 : End) : Tr (Int) :=
  .cond (decide (x0 < ((x1.cl).length : Int)))
  (.cond (ib x0 x1.cl)
    (.cond (!(decide (((nth .cell x1.cl x0).kind) = 2)))
      (.go J56_11)
      (.cond (ib x0 x1.cl)
        (.cond (!(decide (((nth .cell x1.cl x0).peer) = x1.pr)))
          (.go J56_11)
          (.go (J56_9 x0 x1)))
        (.none)))
    (.none))
  (.cond x1.opn
    (.cond ((V154 x1).isSome)
      (.cond (!(F154 x1))
        (.go J56_13)
        (.cond (!x1.opn)
          (.cond ((V155 x1.ask).isSome)
            (.cond (!(F155 x1.ask))
              (.go J56_13)
              (.cond (!(decide (x1.snc = 0)))
                (.go J56_13)
                (.go (J56_14 x1))))
            (.none))
          (.go (J56_14 x1))))
      (.none))
    (.cond (!x1.opn)
      (.cond ((V155 x1.ask).isSome)
        (.cond (!(F155 x1.ask))
          (.go J56_13)
          (.cond (!(decide (x1.snc = 0)))
            (.go J56_13)
            (.go (J56_14 x1))))
        (.none))
      (.go (J56_14 x1))))
theorem eJ56_8 (x0 : Int) (x1 : End) : lv cd56 C56 (J56_8 x0 x1) = (tJ56_8 x0 x1).val cd56 C56 := Tr.lv_eq 43 (fun H z => by kernel_rfl)
noncomputable def tJ56_11 : Tr (Int) :=
  .some 1
theorem eJ56_11 : lv cd56 C56 (J56_11) = (tJ56_11).val cd56 C56 := Tr.lv_eq 6 (fun H z => by kernel_rfl)
noncomputable def tJ56_9 (x0 : Int) (x1 : End) : Tr (Int) :=
  .cond (inR .i64 (x0 + 1))
  (.go (J56_8 (x0 + 1) x1))
  (.none)
theorem eJ56_9 (x0 : Int) (x1 : End) : lv cd56 C56 (J56_9 x0 x1) = (tJ56_9 x0 x1).val cd56 C56 := Tr.lv_eq 11 (fun H z => by kernel_rfl)
noncomputable def tJ56_13 : Tr (Int) :=
  .some 1
theorem eJ56_13 : lv cd56 C56 (J56_13) = (tJ56_13).val cd56 C56 := Tr.lv_eq 6 (fun H z => by kernel_rfl)
noncomputable def tJ56_14 (x0 : End) : Tr (Int) :=
  .cond x0.kn
  (.cond ((V156 x0).isSome)
    (.cond (!(F156 x0))
      (.go J56_15)
      (.cond (!x0.kn)
        (.cond ((V155 x0.lst).isSome)
          (.cond (!(F155 x0.lst))
            (.go J56_15)
            (.cond ((V155 x0.rp).isSome)
              (.cond (!(F155 x0.rp))
                (.go J56_15)
                (.go J56_16))
              (.none)))
          (.none))
        (.go J56_16)))
    (.none))
  (.cond (!x0.kn)
    (.cond ((V155 x0.lst).isSome)
      (.cond (!(F155 x0.lst))
        (.go J56_15)
        (.cond ((V155 x0.rp).isSome)
          (.cond (!(F155 x0.rp))
            (.go J56_15)
            (.go J56_16))
          (.none)))
      (.none))
    (.go J56_16))
theorem eJ56_14 (x0 : End) : lv cd56 C56 (J56_14 x0) = (tJ56_14 x0).val cd56 C56 := Tr.lv_eq 32 (fun H z => by kernel_rfl)
noncomputable def tJ56_15 : Tr (Int) :=
  .some 1
theorem eJ56_15 : lv cd56 C56 (J56_15) = (tJ56_15).val cd56 C56 := Tr.lv_eq 6 (fun H z => by kernel_rfl)
noncomputable def tJ56_16 : Tr (Int) :=
  .some 0
theorem eJ56_16 : lv cd56 C56 (J56_16) = (tJ56_16).val cd56 C56 := Tr.lv_eq 6 (fun H z => by kernel_rfl)
noncomputable def V56 (x0 : End) : Option (Int) := vlim cd56 (S56 x0)
noncomputable def F56 (x0 : End) : Int := (V56 x0).getD default
noncomputable def G56 : GE := mkG [(0, some 3, .cell), (0, some 11, .spot), (0, some 12, .spot), (0, some 19, .spot), (0, some 20, .spot), (0, some 26, .spot), (0, some 27, .spot)] (cod27.a (.nil)) (fun x => V56 x.1) cd56
theorem ge56 : GeOk 56 G56 := ge_mk (C := C56) (base_ok (.cons ge153 (.cons ge154 (.cons ge155 (.cons ge156 .nil)))) (.cons c56 .nil) .nil) rfl c56 (fun _ => rfl) (by kernel_rfl)
theorem c30 : CdOk 30 Tryz.f30 := ⟨by kernel_rfl, by kernel_rfl⟩
noncomputable def C30 : Cfg := base [(31, G31), (117, G117)] [(30, Tryz.f30)] [(30, [])] [] [] [] []
noncomputable def S30 (x0 x1 : End) (n : Nat) : Option AV := startK C30 n 30 Tryz.f30 [.agg (enc27 x0), .agg (enc27 x1)]
noncomputable abbrev cd30 : Cod (Bool) := codB
noncomputable def tS30 (x0 x1 : End) : Tr (Bool) :=
  .cond (decide (x0.nd = x1.nd))
  (.cond (decide (x0.pr = x1.pr))
    (.cond (decide (x0.num = x1.num))
      (.cond ((V117 x0.cl x1.cl).isSome)
        (.cond (F117 x0.cl x1.cl)
          (.cond (x0.opn == x1.opn)
            (.cond (decide (x0.snc = x1.snc))
              (.cond ((V31 x0.ask x1.ask).isSome)
                (.cond (F31 x0.ask x1.ask)
                  (.cond (x0.kn == x1.kn)
                    (.cond ((V31 x0.lst x1.lst).isSome)
                      (.cond (F31 x0.lst x1.lst)
                        (.cond ((V31 x0.rp x1.rp).isSome)
                        (.some (F31 x0.rp x1.rp))
                        (.none))
                        (.some false))
                      (.none))
                    (.some false))
                  (.some false))
                (.none))
              (.some false))
            (.some false))
          (.some false))
        (.none))
      (.some false))
    (.some false))
  (.some false)
theorem eS30 (x0 x1 : End) : vlim cd30 (S30 x0 x1) = (tS30 x0 x1).val cd30 C30 := Tr.val_eq 81 (fun H z => by kernel_rfl)
noncomputable def V30 (x0 x1 : End) : Option (Bool) := vlim cd30 (S30 x0 x1)
noncomputable def F30 (x0 x1 : End) : Bool := (V30 x0 x1).getD default
noncomputable def G30 : GE := mkG [(0, some 3, .cell), (0, some 11, .spot), (0, some 12, .spot), (0, some 19, .spot), (0, some 20, .spot), (0, some 26, .spot), (0, some 27, .spot), (1, some 3, .cell), (1, some 11, .spot), (1, some 12, .spot), (1, some 19, .spot), (1, some 20, .spot), (1, some 26, .spot), (1, some 27, .spot)] (cod27.a (cod27.a (.nil))) (fun x => V30 x.1 x.2.1) cd30
theorem ge30 : GeOk 30 G30 := ge_mk (C := C30) (base_ok (.cons ge31 (.cons ge117 .nil)) (.cons c30 .nil) .nil) rfl c30 (fun _ => rfl) (by kernel_rfl)
theorem c33 : CdOk 33 Tryz.f33 := ⟨by kernel_rfl, by kernel_rfl⟩
noncomputable def b33 (n p : Nat) : Code := bp n p (bodyA Tryz.f33)
noncomputable def C33 : Cfg := base [(40, G40), (55, G55), (56, G56), (109, G109), (116, G116)] [(33, Tryz.f33)] [(33, [(17, { drop := rs [(0, 2), (3, 1), (5, 1), (7, 50)], nt := [], nb := [] })])] [] [] [(0, some 3, .cell), (0, some 11, .spot), (0, some 12, .spot), (0, some 19, .spot), (0, some 20, .spot), (0, some 26, .spot), (0, some 27, .spot)] []
noncomputable def S33 (x0 : End) (x1 : Msg) (n : Nat) : Option AV := startK C33 n 33 Tryz.f33 [.agg (enc27 x0), .agg (enc25 x1)]
noncomputable def J33_17 (x0 : End) (x1 x2 x3 : Int) (x4 : Bool) (x5 x6 : Int) (x7 : Bool) (x8 x9 x10 : Int) (x11 : Bool) (x12 : Int) (x13 : Bool) (x14 x15 x16 x17 : Int) (x18 : Bool) (x19 x20 x21 x22 x23 x24 : Int) (x25 : List Cell) (x26 : Bool) (x27 x28 : Int) (x29 : Bool) (x30 x31 x32 : Int) (x33 : Bool) (x34 : Int) (x35 : Bool) (x36 x37 x38 x39 : Int) (x40 : Bool) (x41 x42 x43 : Int) : St := ⟨18, ⟨33, ap [.undef, .undef, .ptr 0 2 0, .undef, .ptr 0 4 0, .undef, .ptr 0 6 0] (un 50), aq [[], [], (enc27 x0), [], [.int .i64 x1, .int .i64 x2, .int .i64 x3, .nilS, .bool x4, .int .i64 x5, .int .i64 x6, .bool x7, .int .i64 x8, .int .i64 x9, .int .i64 x10, .nilS, .nilS, .bool x11, .int .i64 x12, .bool x13, .int .i64 x14, .int .i64 x15, .int .i64 x16, .nilS, .nilS, .int .i64 x17, .bool x18, .int .i64 x19, .int .i64 x20, .int .i64 x21, .nilS, .nilS], [], [.int .i64 x22, .int .i64 x23, .int .i64 x24, .sl .cell x25 .none, .bool x26, .int .i64 x27, .int .i64 x28, .bool x29, .int .i64 x30, .int .i64 x31, .int .i64 x32, .nilS, .nilS, .bool x33, .int .i64 x34, .bool x35, .int .i64 x36, .int .i64 x37, .int .i64 x38, .nilS, .nilS, .int .i64 x39, .bool x40, .int .i64 x41, .int .i64 x42, .int .i64 x43, .nilS, .nilS]] (nb 50), [.code (b33 11 1023), .code (b33 11 2047)]⟩, []⟩
noncomputable abbrev cd33 : Cod (End × Int) := (codT2 cod27 codI)
noncomputable def tS33 (x0 : End) (x1 : Msg) : Tr (End × Int) :=
  .cond ((V56 x0).isSome)
  (.cond (!(decide ((F56 x0) = 0)))
    (.some ((⟨0, 0, 0, ([] : List Cell), false, 0, (⟨0, false, 0, 0, 0, ([] : List Spot), ([] : List Spot)⟩ : Msg), false, (⟨0, false, 0, 0, 0, ([] : List Spot), ([] : List Spot)⟩ : Msg), (⟨0, false, 0, 0, 0, ([] : List Spot), ([] : List Spot)⟩ : Msg)⟩ : End), 1))
    (.cond (!x0.opn)
      (.some ((⟨0, 0, 0, ([] : List Cell), false, 0, (⟨0, false, 0, 0, 0, ([] : List Spot), ([] : List Spot)⟩ : Msg), false, (⟨0, false, 0, 0, 0, ([] : List Spot), ([] : List Spot)⟩ : Msg), (⟨0, false, 0, 0, 0, ([] : List Spot), ([] : List Spot)⟩ : Msg)⟩ : End), 12))
      (.cond ((V40 x0.ask x1).isSome)
        (.cond (!(F40 x0.ask x1))
          (.some ((⟨0, 0, 0, ([] : List Cell), false, 0, (⟨0, false, 0, 0, 0, ([] : List Spot), ([] : List Spot)⟩ : Msg), false, (⟨0, false, 0, 0, 0, ([] : List Spot), ([] : List Spot)⟩ : Msg), (⟨0, false, 0, 0, 0, ([] : List Spot), ([] : List Spot)⟩ : Msg)⟩ : End), 11))
          (.cond ((V109 x0).isSome)
            (.cond (!(decide (x1.code = 0)))
              (.some ((⟨(F109 x0).nd, (F109 x0).pr, (F109 x0).num, (F109 x0).cl, false, 0, (⟨0, false, 0, 0, 0, ([] : List Spot), ([] : List Spot)⟩ : Msg), (F109 x0).kn, (F109 x0).lst, (F109 x0).rp⟩ : End), 0))
              (.cond (decide (x1.kind = 6))
                (.some ((⟨(F109 x0).nd, (F109 x0).pr, 0, ([] : List Cell), false, 0, (⟨0, false, 0, 0, 0, ([] : List Spot), ([] : List Spot)⟩ : Msg), false, (⟨0, false, 0, 0, 0, ([] : List Spot), ([] : List Spot)⟩ : Msg), (⟨0, false, 0, 0, 0, ([] : List Spot), ([] : List Spot)⟩ : Msg)⟩ : End), 0))
                (.cond (decide (x1.kind ≤ 3))
                  (.cond ((V116 x0 x1.old x1.sp true).isSome)
                    (.go (J33_17 x0 0 0 0 false 0 0 false 0 0 0 false 0 false 0 0 0 0 false 0 0 0 ((F109 x0).nd) ((F109 x0).pr) ((F109 x0).num) (F116 x0 x1.old x1.sp true) false 0 0 false 0 0 0 false 0 false 0 0 0 0 false 0 0 0))
                    (.none))
                  (.go (J33_17 x0 0 0 0 false 0 0 false 0 0 0 false 0 false 0 0 0 0 false 0 0 0 ((F109 x0).nd) ((F109 x0).pr) ((F109 x0).num) ((F109 x0).cl) false 0 0 false 0 0 0 false 0 false 0 0 0 0 false 0 0 0)))))
            (.none)))
        (.none))))
  (.none)
theorem eS33 (x0 : End) (x1 : Msg) : vlim cd33 (S33 x0 x1) = (tS33 x0 x1).val cd33 C33 := Tr.val_eq 104 (fun H z => by kernel_rfl)
noncomputable def tJ33_17 (x0 : End) (x1 x2 x3 : Int) (x4 : Bool) (x5 x6 : Int) (x7 : Bool) (x8 x9 x10 : Int) (x11 : Bool) (x12 : Int) (x13 : Bool) (x14 x15 x16 x17 : Int) (x18 : Bool) (x19 x20 x21 x22 x23 x24 : Int) (x25 : List Cell) (x26 : Bool) (x27 x28 : Int) (x29 : Bool) (x30 x31 x32 : Int) (x33 : Bool) (x34 : Int) (x35 : Bool) (x36 x37 x38 x39 : Int) (x40 : Bool) (x41 x42 x43 : Int) : Tr (End × Int) :=
  .cond ((V55 x0.num).isSome)
  (.some ((⟨x22, x23, F55 x0.num, x25, x26, x27, (⟨x28, x29, x30, x31, x32, ([] : List Spot), ([] : List Spot)⟩ : Msg), x33, (⟨x34, x35, x36, x37, x38, ([] : List Spot), ([] : List Spot)⟩ : Msg), (⟨x39, x40, x41, x42, x43, ([] : List Spot), ([] : List Spot)⟩ : Msg)⟩ : End), 0))
  (.none)
theorem eJ33_17 (x0 : End) (x1 x2 x3 : Int) (x4 : Bool) (x5 x6 : Int) (x7 : Bool) (x8 x9 x10 : Int) (x11 : Bool) (x12 : Int) (x13 : Bool) (x14 x15 x16 x17 : Int) (x18 : Bool) (x19 x20 x21 x22 x23 x24 : Int) (x25 : List Cell) (x26 : Bool) (x27 x28 : Int) (x29 : Bool) (x30 x31 x32 : Int) (x33 : Bool) (x34 : Int) (x35 : Bool) (x36 x37 x38 x39 : Int) (x40 : Bool) (x41 x42 x43 : Int) : lv cd33 C33 (J33_17 x0 x1 x2 x3 x4 x5 x6 x7 x8 x9 x10 x11 x12 x13 x14 x15 x16 x17 x18 x19 x20 x21 x22 x23 x24 x25 x26 x27 x28 x29 x30 x31 x32 x33 x34 x35 x36 x37 x38 x39 x40 x41 x42 x43) = (tJ33_17 x0 x1 x2 x3 x4 x5 x6 x7 x8 x9 x10 x11 x12 x13 x14 x15 x16 x17 x18 x19 x20 x21 x22 x23 x24 x25 x26 x27 x28 x29 x30 x31 x32 x33 x34 x35 x36 x37 x38 x39 x40 x41 x42 x43).val cd33 C33 := Tr.lv_eq 16 (fun H z => by kernel_rfl)
noncomputable def V33 (x0 : End) (x1 : Msg) : Option (End × Int) := vlim cd33 (S33 x0 x1)
noncomputable def F33 (x0 : End) (x1 : Msg) : End × Int := (V33 x0 x1).getD default
noncomputable def G33 : GE := mkG [(0, some 3, .cell), (0, some 11, .spot), (0, some 12, .spot), (0, some 19, .spot), (0, some 20, .spot), (0, some 26, .spot), (0, some 27, .spot), (1, some 5, .spot), (1, some 6, .spot)] (cod27.a (cod25.a (.nil))) (fun x => V33 x.1 x.2.1) cd33
theorem ge33 : GeOk 33 G33 := ge_mk (C := C33) (base_ok (.cons ge40 (.cons ge55 (.cons ge56 (.cons ge109 (.cons ge116 .nil))))) (.cons c33 .nil) .nil) rfl c33 (fun _ => rfl) (by kernel_rfl)
theorem c4 : CdOk 4 Tryz.f4 := ⟨by kernel_rfl, by kernel_rfl⟩
noncomputable def b4 (n p : Nat) : Code := bp n p (bodyA Tryz.f4)
noncomputable def C4 : Cfg := base [(24, G24), (25, G25), (27, G27), (30, G30), (32, G32), (33, G33)] [(4, Tryz.f4)] [(4, [(4, { drop := rs [(0, 39)], nt := [], nb := [] }), (5, { drop := rs [(0, 2), (4, 35)], nt := [], nb := [] })])] [] [] [] []
noncomputable def S4 (x0 : End) (x1 : Msg) (n : Nat) : Option AV := startK C4 n 4 Tryz.f4 [.agg (enc27 x0), .agg (enc25 x1)]
noncomputable def J4_4 : St := ⟨5, ⟨4, un 39, nb 39, [.code (b4 6 11), .code (b4 6 43), .code (b4 3 7)]⟩, []⟩
noncomputable def J4_5 (x0 : End) (x1 : Msg) : St := ⟨6, ⟨4, ap [.undef, .undef, .ptr 0 2 0, .ptr 0 3 0] (un 35), aq [[], [], (enc27 x0), (enc25 x1)] (nb 35), [.code (b4 4 7), .code (b4 4 15)]⟩, []⟩
noncomputable abbrev cd4 : Cod (Bool) := codB
noncomputable def tS4 (x0 : End) (x1 : Msg) : Tr (Bool) :=
  .cond V24.isSome
  (.cond (!F24)
    (.some false)
    (.cond ((V25 x0).isSome)
      (.cond (!(F25 x0))
        (.go J4_4)
        (.cond ((V27 x1).isSome)
          (.cond (!(F27 x1))
            (.go J4_4)
            (.go (J4_5 x0 x1)))
          (.none)))
      (.none)))
  (.none)
theorem eS4 (x0 : End) (x1 : Msg) : vlim cd4 (S4 x0 x1) = (tS4 x0 x1).val cd4 C4 := Tr.val_eq 32 (fun H z => by kernel_rfl)
noncomputable def tJ4_4 : Tr (Bool) :=
  .some true
theorem eJ4_4 : lv cd4 C4 (J4_4) = (tJ4_4).val cd4 C4 := Tr.lv_eq 6 (fun H z => by kernel_rfl)
noncomputable def tJ4_5 (x0 : End) (x1 : Msg) : Tr (Bool) :=
  .cond ((V32 x0 x1).isSome)
  (.cond ((V33 x0 x1).isSome)
    (.cond (decide (((F32 x0 x1).2) = ((F33 x0 x1).2)))
      (.cond ((V30 ((F32 x0 x1).1) ((F33 x0 x1).1)).isSome)
        (.some (F30 ((F32 x0 x1).1) ((F33 x0 x1).1)))
        (.none))
      (.some false))
    (.none))
  (.none)
theorem eJ4_5 (x0 : End) (x1 : Msg) : lv cd4 C4 (J4_5 x0 x1) = (tJ4_5 x0 x1).val cd4 C4 := Tr.lv_eq 38 (fun H z => by kernel_rfl)
noncomputable def V4 (x0 : End) (x1 : Msg) : Option (Bool) := vlim cd4 (S4 x0 x1)
noncomputable def G4 : GE := mkG [(0, some 3, .cell), (0, some 11, .spot), (0, some 12, .spot), (0, some 19, .spot), (0, some 20, .spot), (0, some 26, .spot), (0, some 27, .spot), (1, some 5, .spot), (1, some 6, .spot)] (cod27.a (cod25.a (.nil))) (fun x => V4 x.1 x.2.1) cd4
theorem ge4 : GeOk 4 G4 := ge_mk (C := C4) (base_ok (.cons ge24 (.cons ge25 (.cons ge27 (.cons ge30 (.cons ge32 (.cons ge33 .nil)))))) (.cons c4 .nil) .nil) rfl c4 (fun _ => rfl) (by kernel_rfl)
noncomputable def b6 (n p : Nat) : Code := bp n p (bodyA Tryz.f6)
noncomputable def b10 (n p : Nat) : Code := bp n p (bodyA Tryz.f10)
end Go.Am
