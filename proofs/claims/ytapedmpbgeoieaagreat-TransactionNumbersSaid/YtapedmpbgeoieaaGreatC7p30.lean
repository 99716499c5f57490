/- Part 30 of the proof: FA0. -/
import Derived.Test.YtapedmpbgeoieaaGreatC7p29
set_option linter.unusedSimpArgs false
set_option linter.unusedVariables false
namespace Go.Am
open Go Go.Proofs
set_option maxRecDepth 100000
set_option linter.unusedVariables false

theorem c128 : CdOk 128 Tryz.f128 := ⟨by kernel_rfl, by kernel_rfl⟩
noncomputable def C128 : Cfg := base [] [(128, Tryz.f128)] [(128, [])] [] [] [] []
noncomputable def S128 (x0 x1 : Int) (n : Nat) : Option AV := startK C128 n 128 Tryz.f128 [.int .i64 x0, .int .i64 x1]
noncomputable abbrev cd128 : Cod (Bool) := codB
noncomputable def tS128 (x0 x1 : Int) : Tr (Bool) :=
  .cond (decide (0 ≤ x0))
  (.some (decide (x0 ≤ x1)))
  (.some false)
theorem eS128 (x0 x1 : Int) : vlim cd128 (S128 x0 x1) = (tS128 x0 x1).val cd128 C128 := Tr.val_eq 18 (fun H z => by kernel_rfl)
noncomputable def V128 (x0 x1 : Int) : Option (Bool) := vlim cd128 (S128 x0 x1)
noncomputable def F128 (x0 x1 : Int) : Bool := (V128 x0 x1).getD default
noncomputable def G128 : GE := mkG [] (codI.a (codI.a (.nil))) (fun x => V128 x.1 x.2.1) cd128
theorem ge128 : GeOk 128 G128 := ge_mk (C := C128) (base_ok .nil (.cons c128 .nil) .nil) rfl c128 (fun _ => rfl) (by kernel_rfl)
theorem c133 : CdOk 133 Tryz.f133 := ⟨by kernel_rfl, by kernel_rfl⟩
noncomputable def b133 (n p : Nat) : Code := bp n p (bodyA Tryz.f133)
noncomputable def C133 : Cfg := base [(128, G128)] [(133, Tryz.f133)] [(133, [(2, { drop := rs [(0, 1), (2, 4), (9, 57)], nt := [], nb := [] }), (5, { drop := rs [(0, 66)], nt := [], nb := [] }), (6, { drop := rs [(0, 1), (2, 4), (9, 57)], nt := [], nb := [] })])] [] [] [] []
noncomputable def S133 (x0 : End) (n : Nat) : Option AV := startK C133 n 133 Tryz.f133 [.agg (enc27 x0)]
noncomputable def J133_2 (x0 : List Cell) (x1 x2 : Int) (x3 : End) : St := ⟨3, ⟨133, ap [.undef, .ptr 0 1 0] (ap (un 4) (ap [.sl .cell x0 .none, .int .i64 x1, .int .i64 x2] (un 57))), aq [[], (enc27 x3)] (nb 64), [.code (b133 6 5), .code (b133 6 37), .inLoop (b133 5 5), .inBlock 0, .code (b133 2 3)]⟩, []⟩
noncomputable def J133_5 : St := ⟨6, ⟨133, un 66, nb 66, [.code (b133 13 1637), .code (b133 13 5733), .inBlock 1, .code (b133 8 229), .inLoop (b133 5 5), .inBlock 0, .code (b133 2 3)]⟩, []⟩
noncomputable def J133_6 (x0 : List Cell) (x1 x2 : Int) (x3 : End) : St := ⟨7, ⟨133, ap [.undef, .ptr 0 1 0] (ap (un 4) (ap [.sl .cell x0 .none, .int .i64 x1, .int .i64 x2] (un 57))), aq [[], (enc27 x3)] (nb 64), [.code (b133 8 229), .inLoop (b133 5 5), .inBlock 0, .code (b133 2 3)]⟩, []⟩
noncomputable abbrev cd133 : Cod (Bool) := codB
noncomputable def tS133 (x0 : End) : Tr (Bool) :=
  .go (J133_2 x0.cl ((x0.cl).length : Int) 0 x0)
theorem eS133 (x0 : End) : vlim cd133 (S133 x0) = (tS133 x0).val cd133 C133 := Tr.val_eq 19 (fun H z => by kernel_rfl)
noncomputable def tJ133_2 (x0 : List Cell) (x1 x2 : Int) (x3 : End) : Tr (Bool) :=
  .cond (decide (x2 < x1))
  (.cond (ib x2 x0)
    (.cond (!(decide (((nth .cell x0 x2).kind) = 2)))
      (.go J133_5)
      (.cond (!(decide (((nth .cell x0 x2).peer) = x3.pr)))
        (.go J133_5)
        (.cond (!(decide (((nth .cell x0 x2).flow) = (-1))))
          (.go J133_5)
          (.cond ((V128 ((nth .cell x0 x2).slot) 511).isSome)
            (.cond (!(F128 ((nth .cell x0 x2).slot) 511))
              (.go J133_5)
              (.cond ((V128 ((nth .cell x0 x2).offset) 15).isSome)
                (.cond (!(F128 ((nth .cell x0 x2).offset) 15))
                  (.go J133_5)
                  (.cond (decide (0 < x2))
                    (.cond (inR .i64 (x2 - 1))
                      (.cond (ib (x2 - 1) x3.cl)
                        (.cond (decide (((nth .cell x0 x2).slot) ≤ ((nth .cell x3.cl (x2 - 1)).slot)))
                        (.go J133_5)
                        (.go (J133_6 x0 x1 x2 x3)))
                        (.none))
                      (.none))
                    (.go (J133_6 x0 x1 x2 x3))))
                (.none)))
            (.none)))))
    (.none))
  (.cond (!(decide (x3.num = 0)))
    (.some true)
    (.some (decide (((x3.cl).length : Int) = 0))))
theorem eJ133_2 (x0 : List Cell) (x1 x2 : Int) (x3 : End) : lv cd133 C133 (J133_2 x0 x1 x2 x3) = (tJ133_2 x0 x1 x2 x3).val cd133 C133 := Tr.lv_eq 25 (fun H z => by kernel_rfl)
noncomputable def tJ133_5 : Tr (Bool) :=
  .some false
theorem eJ133_5 : lv cd133 C133 (J133_5) = (tJ133_5).val cd133 C133 := Tr.lv_eq 6 (fun H z => by kernel_rfl)
noncomputable def tJ133_6 (x0 : List Cell) (x1 x2 : Int) (x3 : End) : Tr (Bool) :=
  .cond (inR .i64 (x2 + 1))
  (.go (J133_2 x0 x1 (x2 + 1) x3))
  (.none)
theorem eJ133_6 (x0 : List Cell) (x1 x2 : Int) (x3 : End) : lv cd133 C133 (J133_6 x0 x1 x2 x3) = (tJ133_6 x0 x1 x2 x3).val cd133 C133 := Tr.lv_eq 9 (fun H z => by kernel_rfl)
noncomputable def V133 (x0 : End) : Option (Bool) := vlim cd133 (S133 x0)
noncomputable def F133 (x0 : End) : Bool := (V133 x0).getD default
noncomputable def G133 : GE := mkG [(0, some 3, .cell), (0, some 11, .spot), (0, some 12, .spot), (0, some 19, .spot), (0, some 20, .spot), (0, some 26, .spot), (0, some 27, .spot)] (cod27.a (.nil)) (fun x => V133 x.1) cd133
theorem ge133 : GeOk 133 G133 := ge_mk (C := C133) (base_ok (.cons ge128 .nil) (.cons c133 .nil) .nil) rfl c133 (fun _ => rfl) (by kernel_rfl)
theorem c181 : CdOk 181 Tryz.f181 := ⟨by kernel_rfl, by kernel_rfl⟩
noncomputable def b181 (n p : Nat) : Code := bp n p (bodyA Tryz.f181)
noncomputable def C181 : Cfg := base [] [(181, Tryz.f181)] [(181, [(2, { drop := rs [(2, 3), (8, 36)], nt := [], nb := [] }), (5, { drop := rs [(0, 1), (2, 42)], nt := [], nb := [] }), (6, { drop := rs [(2, 1), (8, 36)], nt := [], nb := [] }), (7, { drop := rs [(0, 1), (2, 42)], nt := [], nb := [] }), (8, { drop := rs [(2, 3), (8, 36)], nt := [], nb := [] })])] [] [] [] []
noncomputable def S181 (x0 : List Spot) (n : Nat) : Option AV := startK C181 n 181 Tryz.f181 [.sl .spot x0 .none]
noncomputable def J181_2 (x0 x1 : List Spot) (x2 x3 : Int) : St := ⟨3, ⟨181, ap [.sl .spot x0 .none] (ap (un 4) (ap [.sl .spot x1 .none, .int .i64 x2, .int .i64 x3] (un 36))), nb 44, [.code (b181 6 5), .code (b181 6 37), .inLoop (b181 5 5), .inBlock 0, .code (b181 2 3)]⟩, []⟩
noncomputable def J181_5 : St := ⟨6, ⟨181, un 44, nb 44, [.code (b181 14 2661), .code (b181 14 10853), .code (b181 11 1637), .inBlock 1, .code (b181 8 229), .inLoop (b181 5 5), .inBlock 0, .code (b181 2 3)]⟩, []⟩
noncomputable def J181_6 (x0 : List Spot) (x1 : Int) (x2 : List Spot) (x3 x4 : Int) (x5 : Spot) : St := ⟨7, ⟨181, ap [.sl .spot x0 .none, .undef, .undef, .int .i64 x1, .ptr 0 4 0, .sl .spot x2 .none, .int .i64 x3, .int .i64 x4] (un 36), aq (nb 4) (aq [[.int .i64 x5.sslot, .int .i64 x5.soffset]] (nb 39)), [.code (b181 12 1637), .code (b181 12 3685), .inBlock 1, .code (b181 8 229), .inLoop (b181 5 5), .inBlock 0, .code (b181 2 3)]⟩, []⟩
noncomputable def J181_7 : St := ⟨8, ⟨181, un 44, nb 44, [.code (b181 14 3685), .code (b181 14 11877), .inBlock 1, .code (b181 8 229), .inLoop (b181 5 5), .inBlock 0, .code (b181 2 3)]⟩, []⟩
noncomputable def J181_8 (x0 x1 : List Spot) (x2 x3 : Int) : St := ⟨9, ⟨181, ap [.sl .spot x0 .none] (ap (un 4) (ap [.sl .spot x1 .none, .int .i64 x2, .int .i64 x3] (un 36))), nb 44, [.code (b181 8 229), .inLoop (b181 5 5), .inBlock 0, .code (b181 2 3)]⟩, []⟩
noncomputable abbrev cd181 : Cod (Int) := codI
noncomputable def tS181 (x0 : List Spot) : Tr (Int) :=
  .go (J181_2 x0 x0 ((x0).length : Int) 0)
theorem eS181 (x0 : List Spot) : vlim cd181 (S181 x0) = (tS181 x0).val cd181 C181 := Tr.val_eq 17 (fun H z => by kernel_rfl)
noncomputable def tJ181_2 (x0 x1 : List Spot) (x2 x3 : Int) : Tr (Int) :=
  .cond (decide (x3 < x2))
  (.cond (ib x3 x1)
    (.cond (decide (((nth .spot x1 x3).sslot) < 0))
      (.go J181_5)
      (.cond (decide (512 ≤ ((nth .spot x1 x3).sslot)))
        (.go J181_5)
        (.cond (decide (((nth .spot x1 x3).soffset) < 0))
          (.go J181_5)
          (.cond (decide (16 ≤ ((nth .spot x1 x3).soffset)))
            (.go J181_5)
            (.go (J181_6 x0 x3 x1 x2 x3 (nth .spot x1 x3)))))))
    (.none))
  (.some 0)
theorem eJ181_2 (x0 x1 : List Spot) (x2 x3 : Int) : lv cd181 C181 (J181_2 x0 x1 x2 x3) = (tJ181_2 x0 x1 x2 x3).val cd181 C181 := Tr.lv_eq 45 (fun H z => by kernel_rfl)
noncomputable def tJ181_5 : Tr (Int) :=
  .some 2
theorem eJ181_5 : lv cd181 C181 (J181_5) = (tJ181_5).val cd181 C181 := Tr.lv_eq 6 (fun H z => by kernel_rfl)
noncomputable def tJ181_6 (x0 : List Spot) (x1 : Int) (x2 : List Spot) (x3 x4 : Int) (x5 : Spot) : Tr (Int) :=
  .cond (decide (0 < x1))
  (.cond (inR .i64 (x1 - 1))
    (.cond (ib (x1 - 1) x0)
      (.cond (decide (x5.sslot ≤ ((nth .spot x0 (x1 - 1)).sslot)))
        (.go J181_7)
        (.go (J181_8 x0 x2 x3 x4)))
      (.none))
    (.none))
  (.go (J181_8 x0 x2 x3 x4))
theorem eJ181_6 (x0 : List Spot) (x1 : Int) (x2 : List Spot) (x3 x4 : Int) (x5 : Spot) : lv cd181 C181 (J181_6 x0 x1 x2 x3 x4 x5) = (tJ181_6 x0 x1 x2 x3 x4 x5).val cd181 C181 := Tr.lv_eq 7 (fun H z => by kernel_rfl)
noncomputable def tJ181_7 : Tr (Int) :=
  .some 5
theorem eJ181_7 : lv cd181 C181 (J181_7) = (tJ181_7).val cd181 C181 := Tr.lv_eq 6 (fun H z => by kernel_rfl)
noncomputable def tJ181_8 (x0 x1 : List Spot) (x2 x3 : Int) : Tr (Int) :=
  .cond (inR .i64 (x3 + 1))
  (.go (J181_2 x0 x1 x2 (x3 + 1)))
  (.none)
theorem eJ181_8 (x0 x1 : List Spot) (x2 x3 : Int) : lv cd181 C181 (J181_8 x0 x1 x2 x3) = (tJ181_8 x0 x1 x2 x3).val cd181 C181 := Tr.lv_eq 9 (fun H z => by kernel_rfl)
noncomputable def V181 (x0 : List Spot) : Option (Int) := vlim cd181 (S181 x0)
noncomputable def F181 (x0 : List Spot) : Int := (V181 x0).getD default
noncomputable def G181 : GE := mkG [(0, none, .spot)] ((codS .spot).a (.nil)) (fun x => V181 x.1) cd181
theorem ge181 : GeOk 181 G181 := ge_mk (C := C181) (base_ok .nil (.cons c181 .nil) .nil) rfl c181 (fun _ => rfl) (by kernel_rfl)
theorem c182 : CdOk 182 Tryz.f182 := ⟨by kernel_rfl, by kernel_rfl⟩
theorem c252 : CdOk 252 Tryz.f252 := ⟨by kernel_rfl, by kernel_rfl⟩
theorem c253 : CdOk 253 Tryz.f253 := ⟨by kernel_rfl, by kernel_rfl⟩
theorem c254 : CdOk 254 Tryz.f254 := ⟨by kernel_rfl, by kernel_rfl⟩
theorem c255 : CdOk 255 Tryz.f255 := ⟨by kernel_rfl, by kernel_rfl⟩
theorem c256 : CdOk 256 Tryz.f256 := ⟨by kernel_rfl, by kernel_rfl⟩
theorem c257 : CdOk 257 Tryz.f257 := ⟨by kernel_rfl, by kernel_rfl⟩
theorem c258 : CdOk 258 Tryz.f258 := ⟨by kernel_rfl, by kernel_rfl⟩
theorem c259 : CdOk 259 Tryz.f259 := ⟨by kernel_rfl, by kernel_rfl⟩
noncomputable def C182 : Cfg := base [] [(182, Tryz.f182), (252, Tryz.f252), (253, Tryz.f253), (254, Tryz.f254), (255, Tryz.f255), (256, Tryz.f256), (257, Tryz.f257), (258, Tryz.f258), (259, Tryz.f259)] [(182, []), (252, []), (253, []), (254, []), (255, []), (256, []), (257, []), (258, []), (259, [])] [] [] [] [(235, L235)]
noncomputable def S182 (x0 : Msg) (n : Nat) : Option AV := startK C182 n 182 Tryz.f182 [.agg (enc25 x0)]
noncomputable abbrev cd182 : Cod (Bool) := codB
noncomputable def tS182 (x0 : Msg) : Tr (Bool) :=
  .cond (decide (x0.kind = 1))
  (.cond (!x0.rep)
    (.cond (decide (x0.code = 0))
      (.cond (decide (1 ≤ x0.cnt))
        (.cond (decide (x0.cnt ≤ 8))
          (.cond (decide (x0.cnt ≤ ((x0.sp).length : Int)))
            (.some (decide (((x0.old).length : Int) = 0)))
            (.some false))
          (.some false))
        (.some false))
      (.some false))
    (.cond (decide (x0.code = 0))
      (.cond (decide (1 ≤ ((x0.sp).length : Int)))
        (.cond (decide (x0.cnt = ((x0.sp).length : Int)))
          (.some (decide (((x0.old).length : Int) = 0)))
          (.some false))
        (.some false))
      (.cond (decide (x0.cnt = 0))
        (.cond (decide (((x0.sp).length : Int) = 0))
          (.some (decide (((x0.old).length : Int) = 0)))
          (.some false))
        (.some false))))
  (.cond (decide (x0.kind = 2))
    (.cond (!x0.rep)
      (.cond (decide (x0.code = 0))
        (.cond (decide (((x0.sp).length : Int) = 0))
          (.cond (decide (1 ≤ ((x0.old).length : Int)))
            (.some (decide (x0.cnt = ((x0.old).length : Int))))
            (.some false))
          (.some false))
        (.some false))
      (.cond (decide (x0.code = 0))
        (.cond (decide (((x0.sp).length : Int) = 0))
          (.cond (decide (1 ≤ ((x0.old).length : Int)))
            (.some (decide (x0.cnt = ((x0.old).length : Int))))
            (.some false))
          (.some false))
        (.cond (decide (x0.cnt = 0))
          (.cond (decide (((x0.sp).length : Int) = 0))
            (.some (decide (((x0.old).length : Int) = 0)))
            (.some false))
          (.some false))))
    (.cond (decide (x0.kind = 3))
      (.cond (!x0.rep)
        (.cond (decide (x0.code = 0))
          (.cond (decide (1 ≤ ((x0.old).length : Int)))
            (.cond (decide (x0.cnt = ((x0.old).length : Int)))
              (.some (decide (x0.cnt ≤ ((x0.sp).length : Int))))
              (.some false))
            (.some false))
          (.some false))
        (.cond (decide (x0.code = 0))
          (.cond (decide (1 ≤ ((x0.old).length : Int)))
            (.cond (decide (x0.cnt = ((x0.old).length : Int)))
              (.some (decide (((x0.sp).length : Int) = ((x0.old).length : Int))))
              (.some false))
            (.some false))
          (.cond (decide (x0.cnt = 0))
            (.cond (decide (((x0.sp).length : Int) = 0))
              (.some (decide (((x0.old).length : Int) = 0)))
              (.some false))
            (.some false))))
      (.cond (decide (x0.kind = 4))
        (.cond (!x0.rep)
          (.cond (decide (x0.code = 0))
            (.cond (decide (x0.cnt = 0))
              (.cond (decide (((x0.sp).length : Int) = 0))
                (.some (decide (((x0.old).length : Int) = 0)))
                (.some false))
              (.some false))
            (.some false))
          (.cond (decide (x0.code = 0))
            (.cond (decide (((x0.sp).length : Int) = 0))
              (.some (decide (((x0.old).length : Int) = 0)))
              (.some false))
            (.cond (decide (x0.cnt = 0))
              (.cond (decide (((x0.sp).length : Int) = 0))
                (.some (decide (((x0.old).length : Int) = 0)))
                (.some false))
              (.some false))))
        (.cond (decide (x0.kind = 5))
          (.cond (!x0.rep)
            (.cond (decide (x0.code = 0))
              (.cond (decide (x0.cnt = 0))
                (.cond (decide (((x0.sp).length : Int) = 0))
                  (.some (decide (((x0.old).length : Int) = 0)))
                  (.some false))
                (.some false))
              (.some false))
            (.cond (decide (x0.code = 0))
              (.cond (decide (((x0.sp).length : Int) = (minI 8 x0.cnt)))
                (.some (decide (((x0.old).length : Int) = 0)))
                (.some false))
              (.cond (decide (x0.cnt = 0))
                (.cond (decide (((x0.sp).length : Int) = 0))
                  (.some (decide (((x0.old).length : Int) = 0)))
                  (.some false))
                (.some false))))
          (.cond (decide (x0.kind = 6))
            (.cond (!x0.rep)
              (.cond (decide (x0.code = 0))
                (.cond (decide (x0.cnt = 0))
                  (.cond (decide (((x0.sp).length : Int) = 0))
                    (.some (decide (((x0.old).length : Int) = 0)))
                    (.some false))
                  (.some false))
                (.some false))
              (.cond (decide (x0.code = 0))
                (.cond (decide (x0.cnt = 0))
                  (.cond (decide (((x0.sp).length : Int) = 0))
                    (.some (decide (((x0.old).length : Int) = 0)))
                    (.some false))
                  (.some false))
                (.cond (decide (x0.cnt = 0))
                  (.cond (decide (((x0.sp).length : Int) = 0))
                    (.some (decide (((x0.old).length : Int) = 0)))
                    (.some false))
                  (.some false))))
            (.cond (!x0.rep)
              (.cond (decide (x0.code = 0))
                (.none)
                (.some false))
              (.cond (decide (x0.code = 0))
                (.none)
                (.cond (decide (x0.cnt = 0))
                  (.cond (decide (((x0.sp).length : Int) = 0))
                    (.some (decide (((x0.old).length : Int) = 0)))
                    (.some false))
                  (.some false)))))))))
theorem eS182 (x0 : Msg) : vlim cd182 (S182 x0) = (tS182 x0).val cd182 C182 := Tr.val_eq 67 (fun H z => by kernel_rfl)
noncomputable def V182 (x0 : Msg) : Option (Bool) := vlim cd182 (S182 x0)
noncomputable def F182 (x0 : Msg) : Bool := (V182 x0).getD default
noncomputable def G182 : GE := mkG [(0, some 5, .spot), (0, some 6, .spot)] (cod25.a (.nil)) (fun x => V182 x.1) cd182
theorem ge182 : GeOk 182 G182 := ge_mk (C := C182) (base_ok .nil (.cons c182 (.cons c252 (.cons c253 (.cons c254 (.cons c255 (.cons c256 (.cons c257 (.cons c258 (.cons c259 .nil))))))))) (.cons le235 .nil)) rfl c182 (fun _ => rfl) (by kernel_rfl)
theorem c96 : CdOk 96 Tryz.f96 := ⟨by kernel_rfl, by kernel_rfl⟩
noncomputable def b96 (n p : Nat) : Code := bp n p (bodyA Tryz.f96)
noncomputable def C96 : Cfg := base [(181, G181), (182, G182)] [(96, Tryz.f96)] [(96, [(2, { drop := rs [(0, 69)], nt := [], nb := [] }), (3, { drop := rs [(0, 1), (2, 67)], nt := [], nb := [] }), (4, { drop := rs [(0, 69)], nt := [], nb := [] }), (5, { drop := rs [(0, 1), (2, 67)], nt := [], nb := [] }), (6, { drop := rs [(0, 69)], nt := [], nb := [] }), (7, { drop := rs [(0, 1), (2, 67)], nt := [], nb := [] })])] [] [] [] []
noncomputable def S96 (x0 : Msg) (n : Nat) : Option AV := startK C96 n 96 Tryz.f96 [.agg (enc25 x0)]
noncomputable def J96_2 : St := ⟨3, ⟨96, un 69, nb 69, [.code (b96 6 9), .code (b96 6 41), .inBlock 0, .code (b96 2 3)]⟩, []⟩
noncomputable def J96_3 (x0 : Msg) : St := ⟨4, ⟨96, ap [.undef, .ptr 0 1 0] (un 67), aq [[], (enc25 x0)] (nb 67), [.code (b96 6 25), .code (b96 6 57), .inBlock 0, .code (b96 2 3)]⟩, []⟩
noncomputable def J96_4 : St := ⟨5, ⟨96, un 69, nb 69, [.code (b96 8 57), .code (b96 8 185), .inBlock 0, .code (b96 2 3)]⟩, []⟩
noncomputable def J96_5 (x0 : Msg) : St := ⟨6, ⟨96, ap [.undef, .ptr 0 1 0] (un 67), aq [[], (enc25 x0)] (nb 67), [.code (b96 8 121), .code (b96 8 249), .inBlock 0, .code (b96 2 3)]⟩, []⟩
noncomputable def J96_6 : St := ⟨7, ⟨96, un 69, nb 69, [.code (b96 10 249), .code (b96 10 761), .inBlock 0, .code (b96 2 3)]⟩, []⟩
noncomputable def J96_7 (x0 : Msg) : St := ⟨8, ⟨96, ap [.undef, .ptr 0 1 0] (un 67), aq [[], (enc25 x0)] (nb 67), [.code (b96 4 3), .code (b96 4 11), .code (b96 3 7)]⟩, []⟩
noncomputable abbrev cd96 : Cod (Int) := codI
noncomputable def tS96 (x0 : Msg) : Tr (Int) :=
  .cond (decide (x0.kind < 1))
  (.go J96_2)
  (.cond (decide (6 < x0.kind))
    (.go J96_2)
    (.go (J96_3 x0)))
theorem eS96 (x0 : Msg) : vlim cd96 (S96 x0) = (tS96 x0).val cd96 C96 := Tr.val_eq 24 (fun H z => by kernel_rfl)
noncomputable def tJ96_2 : Tr (Int) :=
  .some 1
theorem eJ96_2 : lv cd96 C96 (J96_2) = (tJ96_2).val cd96 C96 := Tr.lv_eq 6 (fun H z => by kernel_rfl)
noncomputable def tJ96_3 (x0 : Msg) : Tr (Int) :=
  .cond (decide (x0.num < 0))
  (.go J96_4)
  (.cond (decide (255 < x0.num))
    (.go J96_4)
    (.cond (decide (x0.code < 0))
      (.go J96_4)
      (.cond (decide (3 < x0.code))
        (.go J96_4)
        (.cond (decide (x0.cnt < 0))
          (.go J96_4)
          (.cond (decide (512 < x0.cnt))
            (.go J96_4)
            (.go (J96_5 x0)))))))
theorem eJ96_3 (x0 : Msg) : lv cd96 C96 (J96_3 x0) = (tJ96_3 x0).val cd96 C96 := Tr.lv_eq 36 (fun H z => by kernel_rfl)
noncomputable def tJ96_4 : Tr (Int) :=
  .some 2
theorem eJ96_4 : lv cd96 C96 (J96_4) = (tJ96_4).val cd96 C96 := Tr.lv_eq 6 (fun H z => by kernel_rfl)
noncomputable def tJ96_5 (x0 : Msg) : Tr (Int) :=
  .cond (decide (8 < ((x0.sp).length : Int)))
  (.go J96_6)
  (.cond (decide (8 < ((x0.old).length : Int)))
    (.go J96_6)
    (.go (J96_7 x0)))
theorem eJ96_5 (x0 : Msg) : lv cd96 C96 (J96_5 x0) = (tJ96_5 x0).val cd96 C96 := Tr.lv_eq 21 (fun H z => by kernel_rfl)
noncomputable def tJ96_6 : Tr (Int) :=
  .some 8
theorem eJ96_6 : lv cd96 C96 (J96_6) = (tJ96_6).val cd96 C96 := Tr.lv_eq 6 (fun H z => by kernel_rfl)
noncomputable def tJ96_7 (x0 : Msg) : Tr (Int) :=
  .cond ((V181 x0.sp).isSome)
  (.cond (!(decide ((F181 x0.sp) = 0)))
    (.some (F181 x0.sp))
    (.cond ((V181 x0.old).isSome)
      (.cond (!(decide ((F181 x0.old) = 0)))
        (.some (F181 x0.old))
        (.cond ((V182 x0).isSome)
          (.cond (!(F182 x0))
            (.some 11)
            (.some 0))
          (.none)))
      (.none)))
  (.none)
theorem eJ96_7 (x0 : Msg) : lv cd96 C96 (J96_7 x0) = (tJ96_7 x0).val cd96 C96 := Tr.lv_eq 44 (fun H z => by kernel_rfl)
noncomputable def V96 (x0 : Msg) : Option (Int) := vlim cd96 (S96 x0)
noncomputable def F96 (x0 : Msg) : Int := (V96 x0).getD default
noncomputable def G96 : GE := mkG [(0, some 5, .spot), (0, some 6, .spot)] (cod25.a (.nil)) (fun x => V96 x.1) cd96
theorem ge96 : GeOk 96 G96 := ge_mk (C := C96) (base_ok (.cons ge181 (.cons ge182 .nil)) (.cons c96 .nil) .nil) rfl c96 (fun _ => rfl) (by kernel_rfl)
theorem c204 : CdOk 204 Tryz.f204 := ⟨by kernel_rfl, by kernel_rfl⟩
noncomputable def C204 : Cfg := base [] [(204, Tryz.f204)] [(204, [])] [] [] [] []
noncomputable def S204 (x0 : Msg) (n : Nat) : Option AV := startK C204 n 204 Tryz.f204 [.agg (enc25 x0)]
noncomputable abbrev cd204 : Cod (Bool) := codB
noncomputable def tS204 (x0 : Msg) : Tr (Bool) :=
  .cond (decide (x0.kind = 0))
  (.cond (!x0.rep)
    (.cond (decide (x0.num = 0))
      (.cond (decide (x0.code = 0))
        (.cond (decide (x0.cnt = 0))
          (.cond (decide (((x0.sp).length : Int) = 0))
            (.some (decide (((x0.old).length : Int) = 0)))
            (.some false))
          (.some false))
        (.some false))
      (.some false))
    (.some false))
  (.some false)
theorem eS204 (x0 : Msg) : vlim cd204 (S204 x0) = (tS204 x0).val cd204 C204 := Tr.val_eq 47 (fun H z => by kernel_rfl)
noncomputable def V204 (x0 : Msg) : Option (Bool) := vlim cd204 (S204 x0)
noncomputable def F204 (x0 : Msg) : Bool := (V204 x0).getD default
noncomputable def G204 : GE := mkG [(0, some 5, .spot), (0, some 6, .spot)] (cod25.a (.nil)) (fun x => V204 x.1) cd204
theorem ge204 : GeOk 204 G204 := ge_mk (C := C204) (base_ok .nil (.cons c204 .nil) .nil) rfl c204 (fun _ => rfl) (by kernel_rfl)
theorem c121 : CdOk 121 Tryz.f121 := ⟨by kernel_rfl, by kernel_rfl⟩
noncomputable def b121 (n p : Nat) : Code := bp n p (bodyA Tryz.f121)
theorem c160 : CdOk 160 Tryz.f160 := ⟨by kernel_rfl, by kernel_rfl⟩
noncomputable def b160 (n p : Nat) : Code := bp n p (bodyA Tryz.f160)
theorem c198 : CdOk 198 Tryz.f198 := ⟨by kernel_rfl, by kernel_rfl⟩
noncomputable def b198 (n p : Nat) : Code := bp n p (bodyA Tryz.f198)
theorem c219 : CdOk 219 Tryz.f219 := ⟨by kernel_rfl, by kernel_rfl⟩
noncomputable def C160 : Cfg := base [] [(121, Tryz.f121), (160, Tryz.f160), (198, Tryz.f198), (219, Tryz.f219)] [(121, []), (160, []), (198, [(2, { drop := rs [(4, 3), (9, 10)], nt := [], nb := [] })]), (219, [])] [] [] [] []
noncomputable def S160 (x0 : End) (x1 : Spot) (x2 : Bool) (n : Nat) : Option AV := startK C160 n 160 Tryz.f160 [.agg (enc27 x0), .agg (ST.row .spot x1), .bool x2]
noncomputable def J160_2_198_0 (x0 : List Cell) (x1 x2 : Int) (x3 : List Cell) (x4 : Bool) (x5 : List Cell) (x6 : End) (x7 : Spot) (x8 x9 : Bool) (x10 : List Cell) (x11 : End) (x12 : Spot) (x13 : Bool) : St := ⟨3, ⟨198, ap [.sl .cell x0 .none, .fn 219 [] [.ptr 2 4 0, .ptr 2 5 0]] (ap (un 5) (ap [.int .i64 x1, .int .i64 x2] (un 10))), nb 19, [.code (b198 6 5), .code (b198 6 37), .inLoop (b198 5 5), .inBlock 0, .code (b198 2 3)]⟩, [⟨121, ap [.sl .cell x3 .none, .fn 219 [] [.ptr 1 4 0, .ptr 1 5 0], .undef, .undef, .bool x4, .sl .cell x5 .none, .fn 219 [] [.ptr 1 4 0, .ptr 1 5 0]] (un 2), nb 9, [.inRegion (opsA (b121 2 1)) (fr 2 3), .code (b121 2 3)]⟩, ⟨160, ap [.agg (enc27 x6), .agg [.int .i64 x7.sslot, .int .i64 x7.soffset], .bool x8, .ptr 0 3 0, .ptr 0 4 0, .ptr 0 5 0, .bool x9, .ptr 0 3 3, .sl .cell x10 .none, .fn 219 [] [.ptr 0 4 0, .ptr 0 5 0]] (un 1), aq (nb 3) (aq [(enc27 x11), [.int .i64 x12.sslot, .int .i64 x12.soffset], [.bool x13]] (nb 5)), [.inRegion (opsA (b160 2 1)) (fr 3 2), .code (b160 2 3)]⟩]⟩
noncomputable abbrev cd160 : Cod (Bool) := codB
noncomputable def tS160 (x0 : End) (x1 : Spot) (x2 : Bool) : Tr (Bool) :=
  .go (J160_2_198_0 x0.cl ((x0.cl).length : Int) 0 x0.cl false x0.cl x0 x1 x2 false x0.cl x0 x1 x2)
theorem eS160 (x0 : End) (x1 : Spot) (x2 : Bool) : vlim cd160 (S160 x0 x1 x2) = (tS160 x0 x1 x2).val cd160 C160 := Tr.val_eq 39 (fun H z => by kernel_rfl)
noncomputable def tJ160_2_198_0 (x0 : List Cell) (x1 x2 : Int) (x3 : List Cell) (x4 : Bool) (x5 : List Cell) (x6 : End) (x7 : Spot) (x8 x9 : Bool) (x10 : List Cell) (x11 : End) (x12 : Spot) (x13 : Bool) : Tr (Bool) :=
  .cond (decide (x2 < x1))
  (.cond (ib x2 x0)
    (.cond (decide (((nth .cell x0 x2).slot) = x12.sslot))
      (.cond (decide (((nth .cell x0 x2).offset) = x12.soffset))
        (.cond (((nth .cell x0 x2).send) == x13)
          (.some (decide (0 ≤ x2)))
          (.cond (inR .i64 (x2 + 1))
            (.go (J160_2_198_0 x0 x1 (x2 + 1) x3 x4 x5 x6 x7 x8 x9 x10 x11 x12 x13))
            (.none)))
        (.cond (inR .i64 (x2 + 1))
          (.go (J160_2_198_0 x0 x1 (x2 + 1) x3 x4 x5 x6 x7 x8 x9 x10 x11 x12 x13))
          (.none)))
      (.cond (inR .i64 (x2 + 1))
        (.go (J160_2_198_0 x0 x1 (x2 + 1) x3 x4 x5 x6 x7 x8 x9 x10 x11 x12 x13))
        (.none)))
    (.none))
  (.some false)
theorem eJ160_2_198_0 (x0 : List Cell) (x1 x2 : Int) (x3 : List Cell) (x4 : Bool) (x5 : List Cell) (x6 : End) (x7 : Spot) (x8 x9 : Bool) (x10 : List Cell) (x11 : End) (x12 : Spot) (x13 : Bool) : lv cd160 C160 (J160_2_198_0 x0 x1 x2 x3 x4 x5 x6 x7 x8 x9 x10 x11 x12 x13) = (tJ160_2_198_0 x0 x1 x2 x3 x4 x5 x6 x7 x8 x9 x10 x11 x12 x13).val cd160 C160 := Tr.lv_eq 66 (fun H z => by kernel_rfl)
noncomputable def V160 (x0 : End) (x1 : Spot) (x2 : Bool) : Option (Bool) := vlim cd160 (S160 x0 x1 x2)
noncomputable def F160 (x0 : End) (x1 : Spot) (x2 : Bool) : Bool := (V160 x0 x1 x2).getD default
noncomputable def G160 : GE := mkG [(0, some 3, .cell), (0, some 11, .spot), (0, some 12, .spot), (0, some 19, .spot), (0, some 20, .spot), (0, some 26, .spot), (0, some 27, .spot)] (cod27.a ((codE .spot).a (codB.a (.nil)))) (fun x => V160 x.1 x.2.1 x.2.2.1) cd160
theorem ge160 : GeOk 160 G160 := ge_mk (C := C160) (base_ok .nil (.cons c121 (.cons c160 (.cons c198 (.cons c219 .nil)))) .nil) rfl c160 (fun _ => rfl) (by kernel_rfl)
theorem c134 : CdOk 134 Tryz.f134 := ⟨by kernel_rfl, by kernel_rfl⟩
noncomputable def b134 (n p : Nat) : Code := bp n p (bodyA Tryz.f134)
theorem c158 : CdOk 158 Tryz.f158 := ⟨by kernel_rfl, by kernel_rfl⟩
noncomputable def b158 (n p : Nat) : Code := bp n p (bodyA Tryz.f158)
theorem c205 : CdOk 205 Tryz.f205 := ⟨by kernel_rfl, by kernel_rfl⟩
noncomputable def b205 (n p : Nat) : Code := bp n p (bodyA Tryz.f205)
theorem c206 : CdOk 206 Tryz.f206 := ⟨by kernel_rfl, by kernel_rfl⟩
theorem c207 : CdOk 207 Tryz.f207 := ⟨by kernel_rfl, by kernel_rfl⟩
theorem c218 : CdOk 218 Tryz.f218 := ⟨by kernel_rfl, by kernel_rfl⟩
noncomputable def b218 (n p : Nat) : Code := bp n p (bodyA Tryz.f218)
noncomputable def C134 : Cfg := base [(96, G96), (160, G160), (204, G204)] [(121, Tryz.f121), (134, Tryz.f134), (158, Tryz.f158), (198, Tryz.f198), (205, Tryz.f205), (206, Tryz.f206), (207, Tryz.f207), (218, Tryz.f218)] [(121, []), (134, [(4, { drop := rs [(0, 47)], nt := [], nb := [] }), (5, { drop := rs [(0, 1), (2, 45)], nt := [], nb := [] })]), (158, []), (198, [(2, { drop := rs [(4, 3), (9, 10)], nt := [], nb := [] })]), (205, []), (206, []), (207, []), (218, [(2, { drop := rs [(4, 3), (9, 10)], nt := [], nb := [] })])] [] [] [] []
noncomputable def S134 (x0 : End) (n : Nat) : Option AV := startK C134 n 134 Tryz.f134 [.agg (enc27 x0)]
noncomputable def J134_4 : St := ⟨5, ⟨134, un 47, nb 47, [.code (b134 6 11), .code (b134 6 43), .code (b134 3 7)]⟩, []⟩
noncomputable def J134_5 (x0 : End) : St := ⟨6, ⟨134, ap [.undef, .ptr 0 1 0] (un 45), aq [[], (enc27 x0)] (nb 45), [.code (b134 4 7), .code (b134 4 15)]⟩, []⟩
noncomputable def J134_2_218_0 (x0 : List Spot) (x1 x2 : Int) (x3 : List Spot) (x4 : Bool) (x5 x6 : List Spot) (x7 : End) : St := ⟨3, ⟨218, ap [.sl .spot x0 .none, .fn 207 [] [.ptr 2 1 0]] (ap (un 5) (ap [.int .i64 x1, .int .i64 x2] (un 10))), nb 19, [.code (b218 6 5), .code (b218 6 37), .inLoop (b218 5 5), .inBlock 0, .code (b218 2 3)]⟩, [⟨158, ap [.sl .spot x3 .none, .fn 207 [] [.ptr 1 1 0], .undef, .undef, .bool x4, .sl .spot x5 .none, .fn 207 [] [.ptr 1 1 0]] (un 2), nb 9, [.inRegion (opsA (b158 2 1)) (fr 2 3), .code (b158 2 3)]⟩, ⟨134, ap [.undef, .ptr 0 1 0, .undef, .fn 205 [] [.ptr 0 1 0]] (ap (un 28) (ap [.fn 205 [] [.ptr 0 1 0], .ptr 0 1 6, .ptr 0 1 12, .sl .spot x6 .none, .fn 207 [] [.ptr 0 1 0]] (un 10))), aq [[], (enc27 x7)] (nb 45), [.inRegion (opsA (b134 5 15)) (fr 4 11), .code (b134 5 31)]⟩]⟩
noncomputable def J134_2_218_1 (x0 : List Spot) (x1 x2 : Int) (x3 : List Spot) (x4 : Bool) (x5 x6 : List Spot) (x7 x8 x9 : Bool) (x10 : List Spot) (x11 : End) : St := ⟨3, ⟨218, ap [.sl .spot x0 .none, .fn 205 [] [.ptr 2 1 0]] (ap (un 5) (ap [.int .i64 x1, .int .i64 x2] (un 10))), nb 19, [.code (b218 6 5), .code (b218 6 37), .inLoop (b218 5 5), .inBlock 0, .code (b218 2 3)]⟩, [⟨158, ap [.sl .spot x3 .none, .fn 205 [] [.ptr 1 1 0], .undef, .undef, .bool x4, .sl .spot x5 .none, .fn 205 [] [.ptr 1 1 0]] (un 2), nb 9, [.inRegion (opsA (b158 2 1)) (fr 2 3), .code (b158 2 3)]⟩, ⟨134, ap [.undef, .ptr 0 1 0, .undef, .fn 205 [] [.ptr 0 1 0]] (ap (un 28) (ap [.fn 205 [] [.ptr 0 1 0], .ptr 0 1 6, .ptr 0 1 12, .sl .spot x6 .none, .fn 207 [] [.ptr 0 1 0], .bool x7, .bool x8, .bool x9, .ptr 0 1 6, .ptr 0 1 11, .sl .spot x10 .none, .fn 205 [] [.ptr 0 1 0]] (un 3))), aq [[], (enc27 x11)] (nb 45), [.inRegion (opsA (b134 5 15)) (fr 11 4), .code (b134 5 31)]⟩]⟩
noncomputable def J134_2_198_0 (x0 : List Cell) (x1 x2 : Int) (x3 : List Cell) (x4 : Bool) (x5 : List Cell) (x6 : Spot) (x7 : Bool) (x8 : List Cell) (x9 : Spot) (x10 : List Spot) (x11 x12 x13 : Int) (x14 : Bool) (x15 : Int) (x16 : List Spot) (x17 : Int) (x18 x19 : Spot) (x20 : List Spot) (x21 : Bool) (x22 x23 : List Spot) (x24 x25 x26 : Bool) (x27 : List Spot) (x28 : End) : St := ⟨3, ⟨198, ap [.sl .cell x0 .none, .fn 206 [] [.ptr 2 2 0]] (ap (un 5) (ap [.int .i64 x1, .int .i64 x2] (un 10))), nb 19, [.code (b198 6 5), .code (b198 6 37), .inLoop (b198 5 5), .inBlock 0, .code (b198 2 3)]⟩, [⟨121, ap [.sl .cell x3 .none, .fn 206 [] [.ptr 1 2 0], .undef, .undef, .bool x4, .sl .cell x5 .none, .fn 206 [] [.ptr 1 2 0]] (un 2), nb 9, [.inRegion (opsA (b121 2 1)) (fr 2 3), .code (b121 2 3)]⟩, ⟨205, ap [.agg [.int .i64 x6.sslot, .int .i64 x6.soffset], .ptr 3 1 0, .ptr 0 2 0, .bool x7, .ptr 3 1 3, .sl .cell x8 .none, .fn 206 [] [.ptr 0 2 0]] (un 1), aq [[], [], [.int .i64 x9.sslot, .int .i64 x9.soffset]] (nb 5), [.inRegion (opsA (b205 2 1)) (fr 3 2), .code (b205 2 3)]⟩, ⟨218, ap [.sl .spot x10 .none, .fn 205 [] [.ptr 2 1 0]] (ap (un 3) (ap [.int .i64 x11, .undef, .int .i64 x12, .int .i64 x13, .bool x14, .int .i64 x15, .fn 205 [] [.ptr 2 1 0], .sl .spot x16 .none, .int .i64 x17, .ep .spot x18 0, .agg [.int .i64 x19.sslot, .int .i64 x19.soffset]] (un 3))), nb 19, [.inRegion (opsA (b218 11 613)) (fr 5 1), .code (b218 11 1637), .inBlock 1, .code (b218 8 229), .inLoop (b218 5 5), .inBlock 0, .code (b218 2 3)]⟩, ⟨158, ap [.sl .spot x20 .none, .fn 205 [] [.ptr 1 1 0], .undef, .undef, .bool x21, .sl .spot x22 .none, .fn 205 [] [.ptr 1 1 0]] (un 2), nb 9, [.inRegion (opsA (b158 2 1)) (fr 2 3), .code (b158 2 3)]⟩, ⟨134, ap [.undef, .ptr 0 1 0, .undef, .fn 205 [] [.ptr 0 1 0]] (ap (un 28) (ap [.fn 205 [] [.ptr 0 1 0], .ptr 0 1 6, .ptr 0 1 12, .sl .spot x23 .none, .fn 207 [] [.ptr 0 1 0], .bool x24, .bool x25, .bool x26, .ptr 0 1 6, .ptr 0 1 11, .sl .spot x27 .none, .fn 205 [] [.ptr 0 1 0]] (un 3))), aq [[], (enc27 x28)] (nb 45), [.inRegion (opsA (b134 5 15)) (fr 11 4), .code (b134 5 31)]⟩]⟩
noncomputable abbrev cd134 : Cod (Bool) := codB
noncomputable def tS134 (x0 : End) : Tr (Bool) :=
  .cond (!x0.opn)
  (.cond ((V204 x0.ask).isSome)
    (.cond (F204 x0.ask)
      (.some (decide (x0.snc = 0)))
      (.some false))
    (.none))
  (.cond ((V96 x0.ask).isSome)
    (.cond (!(decide ((F96 x0.ask) = 0)))
      (.go J134_4)
      (.cond x0.ask.rep
        (.go J134_4)
        (.cond (!(decide (x0.ask.num = x0.num)))
          (.go J134_4)
          (.go (J134_5 x0)))))
    (.none))
theorem eS134 (x0 : End) : vlim cd134 (S134 x0) = (tS134 x0).val cd134 C134 := Tr.val_eq 41 (fun H z => by kernel_rfl)
noncomputable def tJ134_4 : Tr (Bool) :=
  .some false
theorem eJ134_4 : lv cd134 C134 (J134_4) = (tJ134_4).val cd134 C134 := Tr.lv_eq 6 (fun H z => by kernel_rfl)
noncomputable def tJ134_5 (x0 : End) : Tr (Bool) :=
  .go (J134_2_218_0 x0.ask.old ((x0.ask.old).length : Int) 0 x0.ask.old false x0.ask.old x0.ask.old x0)
theorem eJ134_5 (x0 : End) : lv cd134 C134 (J134_5 x0) = (tJ134_5 x0).val cd134 C134 := Tr.lv_eq 37 (fun H z => by kernel_rfl)
noncomputable def tJ134_2_218_0 (x0 : List Spot) (x1 x2 : Int) (x3 : List Spot) (x4 : Bool) (x5 x6 : List Spot) (x7 : End) : Tr (Bool) :=
  .cond (decide (x2 < x1))
  (.cond (ib x2 x0)
    (.cond ((V160 x7 (nth .spot x0 x2) true).isSome)
      (.cond (!(F160 x7 (nth .spot x0 x2) true))
        (.cond (!(decide (0 ≤ x2)))
          (.go (J134_2_218_1 x7.ask.sp ((x7.ask.sp).length : Int) 0 x7.ask.sp false x7.ask.sp x6 (decide (0 ≤ x2)) (!(decide (0 ≤ x2))) true x7.ask.sp x7))
          (.some false))
        (.cond (inR .i64 (x2 + 1))
          (.go (J134_2_218_0 x0 x1 (x2 + 1) x3 x4 x5 x6 x7))
          (.none)))
      (.none))
    (.none))
  (.go (J134_2_218_1 x7.ask.sp ((x7.ask.sp).length : Int) 0 x7.ask.sp false x7.ask.sp x6 false true true x7.ask.sp x7))
theorem eJ134_2_218_0 (x0 : List Spot) (x1 x2 : Int) (x3 : List Spot) (x4 : Bool) (x5 x6 : List Spot) (x7 : End) : lv cd134 C134 (J134_2_218_0 x0 x1 x2 x3 x4 x5 x6 x7) = (tJ134_2_218_0 x0 x1 x2 x3 x4 x5 x6 x7).val cd134 C134 := Tr.lv_eq 80 (fun H z => by kernel_rfl)
noncomputable def tJ134_2_218_1 (x0 : List Spot) (x1 x2 : Int) (x3 : List Spot) (x4 : Bool) (x5 x6 : List Spot) (x7 x8 x9 : Bool) (x10 : List Spot) (x11 : End) : Tr (Bool) :=
  .cond (decide (x2 < x1))
  (.cond (ib x2 x0)
    (.go (J134_2_198_0 x11.cl ((x11.cl).length : Int) 0 x11.cl false x11.cl (nth .spot x0 x2) false x11.cl (nth .spot x0 x2) x0 x2 x1 x2 true x2 x0 x2 (nth .spot x0 x2) (nth .spot x0 x2) x3 x4 x5 x6 x7 x8 x9 x10 x11))
    (.none))
  (.cond x9
    (.some true)
    (.some false))
theorem eJ134_2_218_1 (x0 : List Spot) (x1 x2 : Int) (x3 : List Spot) (x4 : Bool) (x5 x6 : List Spot) (x7 x8 x9 : Bool) (x10 : List Spot) (x11 : End) : lv cd134 C134 (J134_2_218_1 x0 x1 x2 x3 x4 x5 x6 x7 x8 x9 x10 x11) = (tJ134_2_218_1 x0 x1 x2 x3 x4 x5 x6 x7 x8 x9 x10 x11).val cd134 C134 := Tr.lv_eq 58 (fun H z => by kernel_rfl)
noncomputable def tJ134_2_198_0 (x0 : List Cell) (x1 x2 : Int) (x3 : List Cell) (x4 : Bool) (x5 : List Cell) (x6 : Spot) (x7 : Bool) (x8 : List Cell) (x9 : Spot) (x10 : List Spot) (x11 x12 x13 : Int) (x14 : Bool) (x15 : Int) (x16 : List Spot) (x17 : Int) (x18 x19 : Spot) (x20 : List Spot) (x21 : Bool) (x22 x23 : List Spot) (x24 x25 x26 : Bool) (x27 : List Spot) (x28 : End) : Tr (Bool) :=
  .cond (decide (x2 < x1))
  (.cond (ib x2 x0)
    (.cond (decide (((nth .cell x0 x2).slot) = x9.sslot))
      (.cond (decide (0 ≤ x2))
        (.cond x26
          (.some (!(decide (0 ≤ x11))))
          (.some false))
        (.cond (inR .i64 (x13 + 1))
          (.go (J134_2_218_1 x10 x12 (x13 + 1) x20 x21 x22 x23 x24 x25 x26 x27 x28))
          (.none)))
      (.cond (inR .i64 (x2 + 1))
        (.go (J134_2_198_0 x0 x1 (x2 + 1) x3 x4 x5 x6 x7 x8 x9 x10 x11 x12 x13 x14 x15 x16 x17 x18 x19 x20 x21 x22 x23 x24 x25 x26 x27 x28))
        (.none)))
    (.none))
  (.cond (inR .i64 (x13 + 1))
    (.go (J134_2_218_1 x10 x12 (x13 + 1) x20 x21 x22 x23 x24 x25 x26 x27 x28))
    (.none))
theorem eJ134_2_198_0 (x0 : List Cell) (x1 x2 : Int) (x3 : List Cell) (x4 : Bool) (x5 : List Cell) (x6 : Spot) (x7 : Bool) (x8 : List Cell) (x9 : Spot) (x10 : List Spot) (x11 x12 x13 : Int) (x14 : Bool) (x15 : Int) (x16 : List Spot) (x17 : Int) (x18 x19 : Spot) (x20 : List Spot) (x21 : Bool) (x22 x23 : List Spot) (x24 x25 x26 : Bool) (x27 : List Spot) (x28 : End) : lv cd134 C134 (J134_2_198_0 x0 x1 x2 x3 x4 x5 x6 x7 x8 x9 x10 x11 x12 x13 x14 x15 x16 x17 x18 x19 x20 x21 x22 x23 x24 x25 x26 x27 x28) = (tJ134_2_198_0 x0 x1 x2 x3 x4 x5 x6 x7 x8 x9 x10 x11 x12 x13 x14 x15 x16 x17 x18 x19 x20 x21 x22 x23 x24 x25 x26 x27 x28).val cd134 C134 := Tr.lv_eq 70 (fun H z => by kernel_rfl)
noncomputable def V134 (x0 : End) : Option (Bool) := vlim cd134 (S134 x0)
noncomputable def F134 (x0 : End) : Bool := (V134 x0).getD default
noncomputable def G134 : GE := mkG [(0, some 3, .cell), (0, some 11, .spot), (0, some 12, .spot), (0, some 19, .spot), (0, some 20, .spot), (0, some 26, .spot), (0, some 27, .spot)] (cod27.a (.nil)) (fun x => V134 x.1) cd134
theorem ge134 : GeOk 134 G134 := ge_mk (C := C134) (base_ok (.cons ge96 (.cons ge160 (.cons ge204 .nil))) (.cons c121 (.cons c134 (.cons c158 (.cons c198 (.cons c205 (.cons c206 (.cons c207 (.cons c218 .nil)))))))) .nil) rfl c134 (fun _ => rfl) (by kernel_rfl)
theorem c41 : CdOk 41 Tryz.f41 := ⟨by kernel_rfl, by kernel_rfl⟩
noncomputable def C41 : Cfg := base [(128, G128)] [(41, Tryz.f41)] [(41, [])] [] [] [] []
noncomputable def S41 (x0 : Int) (n : Nat) : Option AV := startK C41 n 41 Tryz.f41 [.int .i64 x0]
noncomputable abbrev cd41 : Cod (Int) := codI
noncomputable def tS41 (x0 : Int) : Tr (Int) :=
  .cond ((V128 x0 255).isSome)
  (.cond (!(F128 x0 255))
    (.some 0)
    (.cond (decide (x0 = 255))
      (.some 1)
      (.cond (inR .i64 (x0 + 1))
        (.some (x0 + 1))
        (.none))))
  (.none)
theorem eS41 (x0 : Int) : vlim cd41 (S41 x0) = (tS41 x0).val cd41 C41 := Tr.val_eq 32 (fun H z => by kernel_rfl)
noncomputable def V41 (x0 : Int) : Option (Int) := vlim cd41 (S41 x0)
noncomputable def F41 (x0 : Int) : Int := (V41 x0).getD default
noncomputable def G41 : GE := mkG [] (codI.a (.nil)) (fun x => V41 x.1) cd41
theorem ge41 : GeOk 41 G41 := ge_mk (C := C41) (base_ok (.cons ge128 .nil) (.cons c41 .nil) .nil) rfl c41 (fun _ => rfl) (by kernel_rfl)
theorem c241 : CdOk 241 Tryz.f241 := ⟨by kernel_rfl, by kernel_rfl⟩
noncomputable def b241 (n p : Nat) : Code := bp n p (bodyA Tryz.f241)
noncomputable def C241 : Cfg := base [] [(241, Tryz.f241)] [(241, [(2, { drop := rs [(1, 1), (4, 3), (9, 10)], nt := [], nb := [] })])] [] [] [] []
noncomputable def S241 (x0 : List Spot) (x1 : Spot) (n : Nat) : Option AV := startK C241 n 241 Tryz.f241 [.sl .spot x0 .none, .agg (ST.row .spot x1)]
noncomputable def J241_2 (x0 : List Spot) (x1 x2 : Int) (x3 : Spot) : St := ⟨3, ⟨241, ap [.sl .spot x0 .none, .undef, .undef, .ptr 0 3 0] (ap (un 3) (ap [.int .i64 x1, .int .i64 x2] (un 10))), aq (nb 3) (aq [[.int .i64 x3.sslot, .int .i64 x3.soffset]] (nb 15)), [.code (b241 6 5), .code (b241 6 37), .inLoop (b241 5 5), .inBlock 0, .code (b241 2 3)]⟩, []⟩
noncomputable abbrev cd241 : Cod (Int) := codI
noncomputable def tS241 (x0 : List Spot) (x1 : Spot) : Tr (Int) :=
  .go (J241_2 x0 ((x0).length : Int) 0 x1)
theorem eS241 (x0 : List Spot) (x1 : Spot) : vlim cd241 (S241 x0 x1) = (tS241 x0 x1).val cd241 C241 := Tr.val_eq 18 (fun H z => by kernel_rfl)
noncomputable def tJ241_2 (x0 : List Spot) (x1 x2 : Int) (x3 : Spot) : Tr (Int) :=
  .cond (decide (x2 < x1))
  (.cond (ib x2 x0)
    (.cond ((decide (x3.sslot = ((nth .spot x0 x2).sslot))) && ((decide (x3.soffset = ((nth .spot x0 x2).soffset))) && true))
      (.some x2)
      (.cond (inR .i64 (x2 + 1))
        (.go (J241_2 x0 x1 (x2 + 1) x3))
        (.none)))
    (.none))
  (.some (-1))
theorem eJ241_2 (x0 : List Spot) (x1 x2 : Int) (x3 : Spot) : lv cd241 C241 (J241_2 x0 x1 x2 x3) = (tJ241_2 x0 x1 x2 x3).val cd241 C241 := Tr.lv_eq 27 (fun H z => by kernel_rfl)
noncomputable def V241 (x0 : List Spot) (x1 : Spot) : Option (Int) := vlim cd241 (S241 x0 x1)
noncomputable def F241 (x0 : List Spot) (x1 : Spot) : Int := (V241 x0 x1).getD default
noncomputable def G241 : GE := mkG [(0, none, .spot)] ((codS .spot).a ((codE .spot).a (.nil))) (fun x => V241 x.1 x.2.1) cd241
theorem ge241 : GeOk 241 G241 := ge_mk (C := C241) (base_ok .nil (.cons c241 .nil) .nil) rfl c241 (fun _ => rfl) (by kernel_rfl)
theorem c195 : CdOk 195 Tryz.f195 := ⟨by kernel_rfl, by kernel_rfl⟩
noncomputable def C195 : Cfg := base [(241, G241)] [(195, Tryz.f195)] [(195, [])] [] [] [] []
noncomputable def S195 (x0 : List Spot) (x1 : Spot) (n : Nat) : Option AV := startK C195 n 195 Tryz.f195 [.sl .spot x0 .none, .agg (ST.row .spot x1)]
noncomputable abbrev cd195 : Cod (Bool) := codB
noncomputable def tS195 (x0 : List Spot) (x1 : Spot) : Tr (Bool) :=
  .cond ((V241 x0 x1).isSome)
  (.some (decide (0 ≤ (F241 x0 x1))))
  (.none)
theorem eS195 (x0 : List Spot) (x1 : Spot) : vlim cd195 (S195 x0 x1) = (tS195 x0 x1).val cd195 C195 := Tr.val_eq 16 (fun H z => by kernel_rfl)
noncomputable def V195 (x0 : List Spot) (x1 : Spot) : Option (Bool) := vlim cd195 (S195 x0 x1)
noncomputable def F195 (x0 : List Spot) (x1 : Spot) : Bool := (V195 x0 x1).getD default
noncomputable def G195 : GE := mkG [(0, none, .spot)] ((codS .spot).a ((codE .spot).a (.nil))) (fun x => V195 x.1 x.2.1) cd195
theorem ge195 : GeOk 195 G195 := ge_mk (C := C195) (base_ok (.cons ge241 .nil) (.cons c195 .nil) .nil) rfl c195 (fun _ => rfl) (by kernel_rfl)
theorem c146 : CdOk 146 Tryz.f146 := ⟨by kernel_rfl, by kernel_rfl⟩
noncomputable def b146 (n p : Nat) : Code := bp n p (bodyA Tryz.f146)
theorem c214 : CdOk 214 Tryz.f214 := ⟨by kernel_rfl, by kernel_rfl⟩
noncomputable def C146 : Cfg := base [(195, G195)] [(146, Tryz.f146), (158, Tryz.f158), (214, Tryz.f214), (218, Tryz.f218)] [(146, []), (158, []), (214, []), (218, [(2, { drop := rs [(4, 3), (9, 10)], nt := [], nb := [] })])] [] [] [] []
noncomputable def S146 (x0 x1 : List Spot) (n : Nat) : Option AV := startK C146 n 146 Tryz.f146 [.sl .spot x0 .none, .sl .spot x1 .none]
noncomputable def J146_2_218_0 (x0 : List Spot) (x1 x2 : Int) (x3 : List Spot) (x4 : Bool) (x5 x6 x7 : List Spot) (x8 : Bool) (x9 x10 : List Spot) : St := ⟨3, ⟨218, ap [.sl .spot x0 .none, .fn 214 [] [.ptr 2 3 0]] (ap (un 5) (ap [.int .i64 x1, .int .i64 x2] (un 10))), nb 19, [.code (b218 6 5), .code (b218 6 37), .inLoop (b218 5 5), .inBlock 0, .code (b218 2 3)]⟩, [⟨158, ap [.sl .spot x3 .none, .fn 214 [] [.ptr 1 3 0], .undef, .undef, .bool x4, .sl .spot x5 .none, .fn 214 [] [.ptr 1 3 0]] (un 2), nb 9, [.inRegion (opsA (b158 2 1)) (fr 2 3), .code (b158 2 3)]⟩, ⟨146, ap [.sl .spot x6 .none, .sl .spot x7 .none, .undef, .ptr 0 3 0, .bool x8, .sl .spot x9 .none, .fn 214 [] [.ptr 0 3 0]] (un 2), aq (nb 3) (aq [[.sl .spot x10 .none]] (nb 5)), [.inRegion (opsA (b146 2 1)) (fr 2 3), .code (b146 2 3)]⟩]⟩
noncomputable abbrev cd146 : Cod (Bool) := codB
noncomputable def tS146 (x0 x1 : List Spot) : Tr (Bool) :=
  .go (J146_2_218_0 x0 ((x0).length : Int) 0 x0 false x0 x0 x1 false x0 x1)
theorem eS146 (x0 x1 : List Spot) : vlim cd146 (S146 x0 x1) = (tS146 x0 x1).val cd146 C146 := Tr.val_eq 36 (fun H z => by kernel_rfl)
noncomputable def tJ146_2_218_0 (x0 : List Spot) (x1 x2 : Int) (x3 : List Spot) (x4 : Bool) (x5 x6 x7 : List Spot) (x8 : Bool) (x9 x10 : List Spot) : Tr (Bool) :=
  .cond (decide (x2 < x1))
  (.cond (ib x2 x0)
    (.cond ((V195 x10 (nth .spot x0 x2)).isSome)
      (.cond (!(F195 x10 (nth .spot x0 x2)))
        (.some (!(decide (0 ≤ x2))))
        (.cond (inR .i64 (x2 + 1))
          (.go (J146_2_218_0 x0 x1 (x2 + 1) x3 x4 x5 x6 x7 x8 x9 x10))
          (.none)))
      (.none))
    (.none))
  (.some true)
theorem eJ146_2_218_0 (x0 : List Spot) (x1 x2 : Int) (x3 : List Spot) (x4 : Bool) (x5 x6 x7 : List Spot) (x8 : Bool) (x9 x10 : List Spot) : lv cd146 C146 (J146_2_218_0 x0 x1 x2 x3 x4 x5 x6 x7 x8 x9 x10) = (tJ146_2_218_0 x0 x1 x2 x3 x4 x5 x6 x7 x8 x9 x10).val cd146 C146 := Tr.lv_eq 53 (fun H z => by kernel_rfl)
noncomputable def V146 (x0 x1 : List Spot) : Option (Bool) := vlim cd146 (S146 x0 x1)
noncomputable def F146 (x0 x1 : List Spot) : Bool := (V146 x0 x1).getD default
noncomputable def G146 : GE := mkG [(0, none, .spot), (1, none, .spot)] ((codS .spot).a ((codS .spot).a (.nil))) (fun x => V146 x.1 x.2.1) cd146
theorem ge146 : GeOk 146 G146 := ge_mk (C := C146) (base_ok (.cons ge195 .nil) (.cons c146 (.cons c158 (.cons c214 (.cons c218 .nil)))) .nil) rfl c146 (fun _ => rfl) (by kernel_rfl)
theorem c147 : CdOk 147 Tryz.f147 := ⟨by kernel_rfl, by kernel_rfl⟩
noncomputable def b147 (n p : Nat) : Code := bp n p (bodyA Tryz.f147)
noncomputable def C147 : Cfg := base [] [(147, Tryz.f147)] [(147, [(4, { drop := rs [(4, 8), (14, 12)], nt := [], nb := [] })])] [] [] [] []
noncomputable def S147 (x0 x1 : List Spot) (n : Nat) : Option AV := startK C147 n 147 Tryz.f147 [.sl .spot x0 .none, .sl .spot x1 .none]
noncomputable def J147_4 (x0 x1 : List Spot) (x2 x3 : Int) : St := ⟨5, ⟨147, ap [.sl .spot x0 .none, .sl .spot x1 .none] (ap (un 10) (ap [.int .i64 x2, .int .i64 x3] (un 12))), nb 26, [.code (b147 7 11), .code (b147 7 75), .inLoop (b147 6 11), .inBlock 0, .code (b147 3 7)]⟩, []⟩
noncomputable abbrev cd147 : Cod (Bool) := codB
noncomputable def tS147 (x0 x1 : List Spot) : Tr (Bool) :=
  .cond (!(decide (((x0).length : Int) = ((x1).length : Int))))
  (.some false)
  (.go (J147_4 x0 x1 ((x0).length : Int) 0))
theorem eS147 (x0 x1 : List Spot) : vlim cd147 (S147 x0 x1) = (tS147 x0 x1).val cd147 C147 := Tr.val_eq 28 (fun H z => by kernel_rfl)
noncomputable def tJ147_4 (x0 x1 : List Spot) (x2 x3 : Int) : Tr (Bool) :=
  .cond (decide (x3 < x2))
  (.cond (ib x3 x0)
    (.cond (ib x3 x1)
      (.cond (!((decide (((nth .spot x0 x3).sslot) = ((nth .spot x1 x3).sslot))) && ((decide (((nth .spot x0 x3).soffset) = ((nth .spot x1 x3).soffset))) && true)))
        (.some false)
        (.cond (inR .i64 (x3 + 1))
          (.go (J147_4 x0 x1 x2 (x3 + 1)))
          (.none)))
      (.none))
    (.none))
  (.some true)
theorem eJ147_4 (x0 x1 : List Spot) (x2 x3 : Int) : lv cd147 C147 (J147_4 x0 x1 x2 x3) = (tJ147_4 x0 x1 x2 x3).val cd147 C147 := Tr.lv_eq 27 (fun H z => by kernel_rfl)
noncomputable def V147 (x0 x1 : List Spot) : Option (Bool) := vlim cd147 (S147 x0 x1)
noncomputable def F147 (x0 x1 : List Spot) : Bool := (V147 x0 x1).getD default
noncomputable def G147 : GE := mkG [(0, none, .spot), (1, none, .spot)] ((codS .spot).a ((codS .spot).a (.nil))) (fun x => V147 x.1 x.2.1) cd147
theorem ge147 : GeOk 147 G147 := ge_mk (C := C147) (base_ok .nil (.cons c147 .nil) .nil) rfl c147 (fun _ => rfl) (by kernel_rfl)
theorem c47 : CdOk 47 Tryz.f47 := ⟨by kernel_rfl, by kernel_rfl⟩
noncomputable def b47 (n p : Nat) : Code := bp n p (bodyA Tryz.f47)
noncomputable def C47 : Cfg := base [(96, G96), (146, G146), (147, G147)] [(47, Tryz.f47)] [(47, [(2, { drop := rs [(0, 83)], nt := [], nb := [] }), (3, { drop := rs [(0, 2), (4, 79)], nt := [], nb := [] })])] [] [] [] []
noncomputable def S47 (x0 x1 : Msg) (n : Nat) : Option AV := startK C47 n 47 Tryz.f47 [.agg (enc25 x0), .agg (enc25 x1)]
noncomputable def J47_2 : St := ⟨3, ⟨47, un 83, nb 83, [.code (b47 5 5), .code (b47 5 21), .code (b47 2 3)]⟩, []⟩
noncomputable def J47_3 (x0 x1 : Msg) : St := ⟨4, ⟨47, ap [.undef, .undef, .ptr 0 2 0, .ptr 0 3 0] (un 79), aq [[], [], (enc25 x0), (enc25 x1)] (nb 79), [.code (b47 4 3), .code (b47 4 11), .code (b47 3 7)]⟩, []⟩
noncomputable abbrev cd47 : Cod (Bool) := codB
noncomputable def tS47 (x0 x1 : Msg) : Tr (Bool) :=
  .cond ((V96 x0).isSome)
  (.cond (!(decide ((F96 x0) = 0)))
    (.go J47_2)
    (.cond ((V96 x1).isSome)
      (.cond (!(decide ((F96 x1) = 0)))
        (.go J47_2)
        (.cond x0.rep
          (.go J47_2)
          (.cond (!x1.rep)
            (.go J47_2)
            (.cond (!(decide (x0.kind = x1.kind)))
              (.go J47_2)
              (.cond (!(decide (x0.num = x1.num)))
                (.go J47_2)
                (.go (J47_3 x0 x1)))))))
      (.none)))
  (.none)
theorem eS47 (x0 x1 : Msg) : vlim cd47 (S47 x0 x1) = (tS47 x0 x1).val cd47 C47 := Tr.val_eq 48 (fun H z => by kernel_rfl)
noncomputable def tJ47_2 : Tr (Bool) :=
  .some false
theorem eJ47_2 : lv cd47 C47 (J47_2) = (tJ47_2).val cd47 C47 := Tr.lv_eq 6 (fun H z => by kernel_rfl)
noncomputable def tJ47_3 (x0 x1 : Msg) : Tr (Bool) :=
  .cond (!(decide (x1.code = 0)))
  (.some true)
  (.cond (decide (x0.kind = 1))
    (.cond (decide (x1.cnt ≤ x0.cnt))
      (.cond ((V146 x1.sp x0.sp).isSome)
        (.some (F146 x1.sp x0.sp))
        (.none))
      (.some false))
    (.cond (decide (x0.kind = 3))
      (.cond (decide (x1.cnt ≤ x0.cnt))
        (.cond ((V146 x1.sp x0.sp).isSome)
          (.cond (F146 x1.sp x0.sp)
            (.cond ((V146 x1.old x0.old).isSome)
              (.some (F146 x1.old x0.old))
              (.none))
            (.some false))
          (.none))
        (.some false))
      (.cond (decide (x0.kind = 2))
        (.cond ((V147 x1.old x0.old).isSome)
          (.some (F147 x1.old x0.old))
          (.none))
        (.some true))))
theorem eJ47_3 (x0 x1 : Msg) : lv cd47 C47 (J47_3 x0 x1) = (tJ47_3 x0 x1).val cd47 C47 := Tr.lv_eq 52 (fun H z => by kernel_rfl)
noncomputable def V47 (x0 x1 : Msg) : Option (Bool) := vlim cd47 (S47 x0 x1)
noncomputable def F47 (x0 x1 : Msg) : Bool := (V47 x0 x1).getD default
noncomputable def G47 : GE := mkG [(0, some 5, .spot), (0, some 6, .spot), (1, some 5, .spot), (1, some 6, .spot)] (cod25.a (cod25.a (.nil))) (fun x => V47 x.1 x.2.1) cd47
theorem ge47 : GeOk 47 G47 := ge_mk (C := C47) (base_ok (.cons ge96 (.cons ge146 (.cons ge147 .nil))) (.cons c47 .nil) .nil) rfl c47 (fun _ => rfl) (by kernel_rfl)
theorem c135 : CdOk 135 Tryz.f135 := ⟨by kernel_rfl, by kernel_rfl⟩
noncomputable def b135 (n p : Nat) : Code := bp n p (bodyA Tryz.f135)
noncomputable def C135 : Cfg := base [(41, G41), (47, G47), (204, G204)] [(135, Tryz.f135)] [(135, [(6, { drop := rs [(0, 1), (2, 1), (4, 36)], nt := [], nb := [] })])] [] [] [] []
noncomputable def S135 (x0 : End) (n : Nat) : Option AV := startK C135 n 135 Tryz.f135 [.agg (enc27 x0)]
noncomputable def J135_6 (x0 : Int) (x1 : End) : St := ⟨7, ⟨135, ap [.undef, .ptr 0 1 0, .undef, .int .i64 x0] (un 36), aq [[], (enc27 x1)] (nb 38), [.code (b135 5 15), .code (b135 5 31)]⟩, []⟩
noncomputable abbrev cd135 : Cod (Bool) := codB
noncomputable def tS135 (x0 : End) : Tr (Bool) :=
  .cond (!x0.kn)
  (.cond ((V204 x0.lst).isSome)
    (.cond (F204 x0.lst)
      (.cond ((V204 x0.rp).isSome)
        (.some (F204 x0.rp))
        (.none))
      (.some false))
    (.none))
  (.cond ((V41 x0.lst.num).isSome)
    (.cond (decide (x0.lst.kind = 6))
      (.go (J135_6 0 x0))
      (.go (J135_6 (F41 x0.lst.num) x0)))
    (.none))
theorem eS135 (x0 : End) : vlim cd135 (S135 x0) = (tS135 x0).val cd135 C135 := Tr.val_eq 38 (fun H z => by kernel_rfl)
noncomputable def tJ135_6 (x0 : Int) (x1 : End) : Tr (Bool) :=
  .cond ((V47 x1.lst x1.rp).isSome)
  (.cond (F47 x1.lst x1.rp)
    (.cond (decide (x1.rp.code = 0))
      (.some (decide (x1.num = x0)))
      (.some false))
    (.some false))
  (.none)
theorem eJ135_6 (x0 : Int) (x1 : End) : lv cd135 C135 (J135_6 x0 x1) = (tJ135_6 x0 x1).val cd135 C135 := Tr.lv_eq 23 (fun H z => by kernel_rfl)
noncomputable def V135 (x0 : End) : Option (Bool) := vlim cd135 (S135 x0)
noncomputable def F135 (x0 : End) : Bool := (V135 x0).getD default
noncomputable def G135 : GE := mkG [(0, some 3, .cell), (0, some 11, .spot), (0, some 12, .spot), (0, some 19, .spot), (0, some 20, .spot), (0, some 26, .spot), (0, some 27, .spot)] (cod27.a (.nil)) (fun x => V135 x.1) cd135
theorem ge135 : GeOk 135 G135 := ge_mk (C := C135) (base_ok (.cons ge41 (.cons ge47 (.cons ge204 .nil))) (.cons c135 .nil) .nil) rfl c135 (fun _ => rfl) (by kernel_rfl)
theorem c38 : CdOk 38 Tryz.f38 := ⟨by kernel_rfl, by kernel_rfl⟩
noncomputable def b38 (n p : Nat) : Code := bp n p (bodyA Tryz.f38)
noncomputable def C38 : Cfg := base [(128, G128), (133, G133), (134, G134), (135, G135)] [(38, Tryz.f38)] [(38, [(2, { drop := rs [(0, 45)], nt := [], nb := [] }), (3, { drop := rs [(0, 1), (2, 43)], nt := [], nb := [] }), (4, { drop := rs [(0, 45)], nt := [], nb := [] }), (5, { drop := rs [(0, 45)], nt := [], nb := [] })])] [] [] [] []
noncomputable def S38 (x0 : End) (n : Nat) : Option AV := startK C38 n 38 Tryz.f38 [.agg (enc27 x0)]
noncomputable def J38_2 : St := ⟨3, ⟨38, un 45, nb 45, [.code (b38 5 5), .code (b38 5 21), .code (b38 2 3)]⟩, []⟩
noncomputable def J38_3 (x0 : End) : St := ⟨4, ⟨38, ap [.undef, .ptr 0 1 0] (un 43), aq [[], (enc27 x0)] (nb 43), [.code (b38 4 3), .code (b38 4 11), .code (b38 3 7)]⟩, []⟩
noncomputable def J38_4 : St := ⟨5, ⟨38, un 45, nb 45, [.code (b38 6 11), .code (b38 6 43), .code (b38 3 7)]⟩, []⟩
noncomputable def J38_5 : St := ⟨6, ⟨38, un 45, nb 45, [.code (b38 4 7), .code (b38 4 15)]⟩, []⟩
noncomputable abbrev cd38 : Cod (Int) := codI
noncomputable def tS38 (x0 : End) : Tr (Int) :=
  .cond ((V128 x0.nd 31).isSome)
  (.cond (!(F128 x0.nd 31))
    (.go J38_2)
    (.cond ((V128 x0.pr 31).isSome)
      (.cond (!(F128 x0.pr 31))
        (.go J38_2)
        (.cond ((V128 x0.num 255).isSome)
          (.cond (!(F128 x0.num 255))
            (.go J38_2)
            (.cond ((V128 x0.snc 1099511627776).isSome)
              (.cond (!(F128 x0.snc 1099511627776))
                (.go J38_2)
                (.go (J38_3 x0)))
              (.none)))
          (.none)))
      (.none)))
  (.none)
theorem eS38 (x0 : End) : vlim cd38 (S38 x0) = (tS38 x0).val cd38 C38 := Tr.val_eq 38 (fun H z => by kernel_rfl)
noncomputable def tJ38_2 : Tr (Int) :=
  .some 2
theorem eJ38_2 : lv cd38 C38 (J38_2) = (tJ38_2).val cd38 C38 := Tr.lv_eq 6 (fun H z => by kernel_rfl)
noncomputable def tJ38_3 (x0 : End) : Tr (Int) :=
  .cond (decide (x0.nd = x0.pr))
  (.go J38_4)
  (.cond ((V133 x0).isSome)
    (.cond (!(F133 x0))
      (.go J38_4)
      (.cond ((V134 x0).isSome)
        (.cond (!(F134 x0))
          (.go J38_4)
          (.cond ((V135 x0).isSome)
            (.cond (!(F135 x0))
              (.go J38_4)
              (.go J38_5))
            (.none)))
        (.none)))
    (.none))
theorem eJ38_3 (x0 : End) : lv cd38 C38 (J38_3 x0) = (tJ38_3 x0).val cd38 C38 := Tr.lv_eq 28 (fun H z => by kernel_rfl)
noncomputable def tJ38_4 : Tr (Int) :=
  .some 1
theorem eJ38_4 : lv cd38 C38 (J38_4) = (tJ38_4).val cd38 C38 := Tr.lv_eq 6 (fun H z => by kernel_rfl)
noncomputable def tJ38_5 : Tr (Int) :=
  .some 0
theorem eJ38_5 : lv cd38 C38 (J38_5) = (tJ38_5).val cd38 C38 := Tr.lv_eq 6 (fun H z => by kernel_rfl)
noncomputable def V38 (x0 : End) : Option (Int) := vlim cd38 (S38 x0)
noncomputable def F38 (x0 : End) : Int := (V38 x0).getD default
noncomputable def G38 : GE := mkG [(0, some 3, .cell), (0, some 11, .spot), (0, some 12, .spot), (0, some 19, .spot), (0, some 20, .spot), (0, some 26, .spot), (0, some 27, .spot)] (cod27.a (.nil)) (fun x => V38 x.1) cd38
theorem ge38 : GeOk 38 G38 := ge_mk (C := C38) (base_ok (.cons ge128 (.cons ge133 (.cons ge134 (.cons ge135 .nil)))) (.cons c38 .nil) .nil) rfl c38 (fun _ => rfl) (by kernel_rfl)
theorem c148 : CdOk 148 Tryz.f148 := ⟨by kernel_rfl, by kernel_rfl⟩
noncomputable def C148 : Cfg := base [] [(148, Tryz.f148)] [(148, [])] [] [] [] []
noncomputable def S148 (x0 : Int) (n : Nat) : Option AV := startK C148 n 148 Tryz.f148 [.int .i64 x0]
noncomputable abbrev cd148 : Cod (Bool) := codB
noncomputable def tS148 (x0 : Int) : Tr (Bool) :=
  .cond (decide (0 ≤ x0))
  (.some (decide (x0 < 32)))
  (.some false)
theorem eS148 (x0 : Int) : vlim cd148 (S148 x0) = (tS148 x0).val cd148 C148 := Tr.val_eq 17 (fun H z => by kernel_rfl)
noncomputable def V148 (x0 : Int) : Option (Bool) := vlim cd148 (S148 x0)
noncomputable def F148 (x0 : Int) : Bool := (V148 x0).getD default
noncomputable def G148 : GE := mkG [] (codI.a (.nil)) (fun x => V148 x.1) cd148
theorem ge148 : GeOk 148 G148 := ge_mk (C := C148) (base_ok .nil (.cons c148 .nil) .nil) rfl c148 (fun _ => rfl) (by kernel_rfl)
theorem c149 : CdOk 149 Tryz.f149 := ⟨by kernel_rfl, by kernel_rfl⟩
noncomputable def b149 (n p : Nat) : Code := bp n p (bodyA Tryz.f149)
noncomputable def C149 : Cfg := base [(148, G148)] [(149, Tryz.f149)] [(149, [(4, { drop := rs [(0, 4), (6, 77)], nt := [], nb := [] }), (5, { drop := rs [(0, 1), (6, 1), (9, 74)], nt := [], nb := [] }), (6, { drop := rs [(0, 1), (6, 1), (9, 74)], nt := [], nb := [] }), (7, { drop := rs [(0, 4), (6, 77)], nt := [], nb := [] }), (8, { drop := rs [(0, 1), (6, 1), (9, 74)], nt := [], nb := [] }), (9, { drop := rs [(0, 1), (2, 1), (6, 1), (9, 74)], nt := [], nb := [] }), (10, { drop := rs [(0, 1), (2, 1), (6, 1), (9, 74)], nt := [], nb := [] }), (11, { drop := rs [(0, 3), (6, 2), (9, 74)], nt := [], nb := [] }), (12, { drop := rs [(0, 4), (6, 77)], nt := [], nb := [] }), (13, { drop := rs [(0, 4), (6, 77)], nt := [], nb := [] })])] [] [] [] []
noncomputable def S149 (x0 : Cell) (x1 x2 : Int) (n : Nat) : Option AV := startK C149 n 149 Tryz.f149 [.agg (ST.row .cell x0), .int .i64 x1, .int .i64 x2]
noncomputable def J149_4 : St := ⟨5, ⟨149, un 83, nb 83, [.code (b149 8 39), .code (b149 8 167), .inBlock 0, .code (b149 4 15)]⟩, []⟩
noncomputable def J149_5 (x0 x1 : Int) (x2 x3 : Bool) (x4 : Cell) : St := ⟨6, ⟨149, ap [.undef, .int .i64 x0, .int .i64 x1, .ptr 0 3 0] (ap (un 3) (ap [.bool x2, .bool x3] (un 74))), aq (nb 3) (aq [(ST.row .cell x4)] (nb 79)), [.code (b149 9 103), .code (b149 9 359), .code (b149 8 231), .inBlock 0, .code (b149 4 15)]⟩, []⟩
noncomputable def J149_7 : St := ⟨8, ⟨149, un 83, nb 83, [.code (b149 10 231), .code (b149 10 743), .inBlock 0, .code (b149 4 15)]⟩, []⟩
noncomputable def J149_6 (x0 x1 : Int) (x2 x3 : Bool) (x4 : Cell) : St := ⟨7, ⟨149, ap [.undef, .int .i64 x0, .int .i64 x1, .ptr 0 3 0] (ap (un 3) (ap [.bool x2, .bool x3] (un 74))), aq (nb 3) (aq [(ST.row .cell x4)] (nb 79)), [.code (b149 10 871), .code (b149 8 231), .inBlock 0, .code (b149 4 15)]⟩, []⟩
noncomputable def J149_8 (x0 x1 : Int) (x2 x3 : Bool) (x4 : Cell) : St := ⟨9, ⟨149, ap [.undef, .int .i64 x0, .int .i64 x1, .ptr 0 3 0] (ap (un 3) (ap [.bool x2, .bool x3] (un 74))), aq (nb 3) (aq [(ST.row .cell x4)] (nb 79)), [.code (b149 11 487), .code (b149 11 1511), .code (b149 10 999), .inBlock 0, .code (b149 4 15)]⟩, []⟩
noncomputable def J149_12 : St := ⟨13, ⟨149, un 83, nb 83, [.code (b149 12 999), .code (b149 12 3047), .inBlock 0, .code (b149 4 15)]⟩, []⟩
noncomputable def J149_9 (x0 : Int) (x1 x2 : Bool) (x3 : Cell) : St := ⟨10, ⟨149, ap [.undef, .int .i64 x0, .undef, .ptr 0 3 0] (ap (un 3) (ap [.bool x1, .bool x2] (un 74))), aq (nb 3) (aq [(ST.row .cell x3)] (nb 79)), [.code (b149 13 3559), .code (b149 13 7655), .code (b149 10 999), .inBlock 0, .code (b149 4 15)]⟩, []⟩
noncomputable def J149_10 (x0 : Int) (x1 x2 : Bool) (x3 : Cell) : St := ⟨11, ⟨149, ap [.undef, .int .i64 x0, .undef, .ptr 0 3 0] (ap (un 3) (ap [.bool x1, .bool x2] (un 74))), aq (nb 3) (aq [(ST.row .cell x3)] (nb 79)), [.code (b149 15 15847), .code (b149 15 32231), .code (b149 10 999), .inBlock 0, .code (b149 4 15)]⟩, []⟩
noncomputable def J149_11 (x0 : Bool) (x1 : Cell) : St := ⟨12, ⟨149, ap (un 3) (ap [.ptr 0 3 0] (ap (un 4) (ap [.bool x0] (un 74)))), aq (nb 3) (aq [(ST.row .cell x1)] (nb 79)), [.code (b149 16 64999), .code (b149 10 999), .inBlock 0, .code (b149 4 15)]⟩, []⟩
noncomputable def J149_13 : St := ⟨14, ⟨149, un 83, nb 83, [.code (b149 5 15), .code (b149 5 31)]⟩, []⟩
noncomputable abbrev cd149 : Cod (Int) := codI
noncomputable def tS149 (x0 : Cell) (x1 x2 : Int) : Tr (Int) :=
  .cond (!(decide (x0.kind = 3)))
  (.cond (!(decide (x0.kind = 1)))
    (.cond (!(decide (x0.kind = 2)))
      (.go J149_4)
      (.go (J149_5 x1 x2 (decide (x0.kind = 3)) (decide (x0.kind = 1)) x0)))
    (.go (J149_5 x1 x2 (decide (x0.kind = 3)) (decide (x0.kind = 1)) x0)))
  (.go (J149_5 x1 x2 (decide (x0.kind = 3)) (decide (x0.kind = 1)) x0))
theorem eS149 (x0 : Cell) (x1 x2 : Int) : vlim cd149 (S149 x0 x1 x2) = (tS149 x0 x1 x2).val cd149 C149 := Tr.val_eq 42 (fun H z => by kernel_rfl)
noncomputable def tJ149_4 : Tr (Int) :=
  .some 1
theorem eJ149_4 : lv cd149 C149 (J149_4) = (tJ149_4).val cd149 C149 := Tr.lv_eq 6 (fun H z => by kernel_rfl)
noncomputable def tJ149_5 (x0 x1 : Int) (x2 x3 : Bool) (x4 : Cell) : Tr (Int) :=
  .cond (!x3)
  (.cond (!(decide (x4.flow = (-1))))
    (.go J149_7)
    (.go (J149_6 x0 x1 x2 x3 x4)))
  (.go (J149_6 x0 x1 x2 x3 x4))
theorem eJ149_5 (x0 x1 : Int) (x2 x3 : Bool) (x4 : Cell) : lv cd149 C149 (J149_5 x0 x1 x2 x3 x4) = (tJ149_5 x0 x1 x2 x3 x4).val cd149 C149 := Tr.lv_eq 17 (fun H z => by kernel_rfl)
noncomputable def tJ149_7 : Tr (Int) :=
  .some 1
theorem eJ149_7 : lv cd149 C149 (J149_7) = (tJ149_7).val cd149 C149 := Tr.lv_eq 6 (fun H z => by kernel_rfl)
noncomputable def tJ149_6 (x0 x1 : Int) (x2 x3 : Bool) (x4 : Cell) : Tr (Int) :=
  .cond x2
  (.cond (!(decide (x4.peer = (-1))))
    (.go J149_7)
    (.cond x4.send
      (.go J149_7)
      (.go (J149_8 x0 x1 x2 x3 x4))))
  (.go (J149_8 x0 x1 x2 x3 x4))
theorem eJ149_6 (x0 x1 : Int) (x2 x3 : Bool) (x4 : Cell) : lv cd149 C149 (J149_6 x0 x1 x2 x3 x4) = (tJ149_6 x0 x1 x2 x3 x4).val cd149 C149 := Tr.lv_eq 19 (fun H z => by kernel_rfl)
noncomputable def tJ149_8 (x0 x1 : Int) (x2 x3 : Bool) (x4 : Cell) : Tr (Int) :=
  .cond (decide (x4.slot < 0))
  (.go J149_12)
  (.cond (decide (x1 ≤ x4.slot))
    (.go J149_12)
    (.go (J149_9 x0 x2 x3 x4)))
theorem eJ149_8 (x0 x1 : Int) (x2 x3 : Bool) (x4 : Cell) : lv cd149 C149 (J149_8 x0 x1 x2 x3 x4) = (tJ149_8 x0 x1 x2 x3 x4).val cd149 C149 := Tr.lv_eq 19 (fun H z => by kernel_rfl)
noncomputable def tJ149_12 : Tr (Int) :=
  .some 2
theorem eJ149_12 : lv cd149 C149 (J149_12) = (tJ149_12).val cd149 C149 := Tr.lv_eq 6 (fun H z => by kernel_rfl)
noncomputable def tJ149_9 (x0 : Int) (x1 x2 : Bool) (x3 : Cell) : Tr (Int) :=
  .cond (decide (x3.offset < 0))
  (.go J149_12)
  (.cond (decide (16 ≤ x3.offset))
    (.go J149_12)
    (.go (J149_10 x0 x1 x2 x3)))
theorem eJ149_9 (x0 : Int) (x1 x2 : Bool) (x3 : Cell) : lv cd149 C149 (J149_9 x0 x1 x2 x3) = (tJ149_9 x0 x1 x2 x3).val cd149 C149 := Tr.lv_eq 18 (fun H z => by kernel_rfl)
noncomputable def tJ149_10 (x0 : Int) (x1 x2 : Bool) (x3 : Cell) : Tr (Int) :=
  .cond (!x1)
  (.cond ((V148 x3.peer).isSome)
    (.cond (!(F148 x3.peer))
      (.go J149_12)
      (.cond (decide (x3.peer = x0))
        (.go J149_12)
        (.go (J149_11 x2 x3))))
    (.none))
  (.go (J149_11 x2 x3))
theorem eJ149_10 (x0 : Int) (x1 x2 : Bool) (x3 : Cell) : lv cd149 C149 (J149_10 x0 x1 x2 x3) = (tJ149_10 x0 x1 x2 x3).val cd149 C149 := Tr.lv_eq 24 (fun H z => by kernel_rfl)
noncomputable def tJ149_11 (x0 : Bool) (x1 : Cell) : Tr (Int) :=
  .cond x0
  (.cond (decide (x1.flow < 0))
    (.go J149_12)
    (.go J149_13))
  (.go J149_13)
theorem eJ149_11 (x0 : Bool) (x1 : Cell) : lv cd149 C149 (J149_11 x0 x1) = (tJ149_11 x0 x1).val cd149 C149 := Tr.lv_eq 16 (fun H z => by kernel_rfl)
noncomputable def tJ149_13 : Tr (Int) :=
  .some 0
theorem eJ149_13 : lv cd149 C149 (J149_13) = (tJ149_13).val cd149 C149 := Tr.lv_eq 6 (fun H z => by kernel_rfl)
noncomputable def V149 (x0 : Cell) (x1 x2 : Int) : Option (Int) := vlim cd149 (S149 x0 x1 x2)
noncomputable def F149 (x0 : Cell) (x1 x2 : Int) : Int := (V149 x0 x1 x2).getD default
noncomputable def G149 : GE := mkG [] ((codE .cell).a (codI.a (codI.a (.nil)))) (fun x => V149 x.1 x.2.1 x.2.2.1) cd149
theorem ge149 : GeOk 149 G149 := ge_mk (C := C149) (base_ok (.cons ge148 .nil) (.cons c149 .nil) .nil) rfl c149 (fun _ => rfl) (by kernel_rfl)
theorem c215 : CdOk 215 Tryz.f215 := ⟨by kernel_rfl, by kernel_rfl⟩
noncomputable def b215 (n p : Nat) : Code := bp n p (bodyA Tryz.f215)
noncomputable def C215 : Cfg := base [] [(215, Tryz.f215)] [(215, [(3, { drop := rs [(0, 1), (2, 1), (5, 1), (9, 9)], nt := [], nb := [] })])] [] [] [] []
noncomputable def S215 (x0 : List Int) (n : Nat) : Option AV := startK C215 n 215 Tryz.f215 [.sl .int x0 .none]
noncomputable def J215_3 (x0 : Int) (x1 : List Int) (x2 x3 : Int) : St := ⟨4, ⟨215, ap (un 3) (ap [.int .i64 x0, .undef, .undef, .sl .int x1 .none, .int .i64 x2, .int .i64 x3] (un 9)), nb 18, [.code (b215 7 11), .code (b215 7 75), .inLoop (b215 6 11), .inBlock 0, .code (b215 3 7)]⟩, []⟩
noncomputable abbrev cd215 : Cod (Int) := codI
noncomputable def tS215 (x0 : List Int) : Tr (Int) :=
  .go (J215_3 0 x0 ((x0).length : Int) 0)
theorem eS215 (x0 : List Int) : vlim cd215 (S215 x0) = (tS215 x0).val cd215 C215 := Tr.val_eq 21 (fun H z => by kernel_rfl)
noncomputable def tJ215_3 (x0 : Int) (x1 : List Int) (x2 x3 : Int) : Tr (Int) :=
  .cond (decide (x3 < x2))
  (.cond (ib x3 x1)
    (.cond (!(decide ((nth .int x1 x3) = x0)))
      (.some (nth .int x1 x3))
      (.cond (inR .i64 (x3 + 1))
        (.go (J215_3 x0 x1 x2 (x3 + 1)))
        (.none)))
    (.none))
  (.some x0)
theorem eJ215_3 (x0 : Int) (x1 : List Int) (x2 x3 : Int) : lv cd215 C215 (J215_3 x0 x1 x2 x3) = (tJ215_3 x0 x1 x2 x3).val cd215 C215 := Tr.lv_eq 32 (fun H z => by kernel_rfl)
noncomputable def V215 (x0 : List Int) : Option (Int) := vlim cd215 (S215 x0)
noncomputable def F215 (x0 : List Int) : Int := (V215 x0).getD default
noncomputable def G215 : GE := mkG [(0, none, .int)] ((codS .int).a (.nil)) (fun x => V215 x.1) cd215
theorem ge215 : GeOk 215 G215 := ge_mk (C := C215) (base_ok .nil (.cons c215 .nil) .nil) rfl c215 (fun _ => rfl) (by kernel_rfl)
theorem c249 : CdOk 249 Tryz.f249 := ⟨by kernel_rfl, by kernel_rfl⟩
noncomputable def C249 : Cfg := base [] [(249, Tryz.f249)] [(249, [])] [] [] [] []
noncomputable def S249 (x0 : Int) (n : Nat) : Option AV := startK C249 n 249 Tryz.f249 [.int .i64 x0]
noncomputable abbrev cd249 : Cod (Bool) := codB
noncomputable def tS249 (x0 : Int) : Tr (Bool) :=
  .some (!(decide (x0 = x0)))
theorem eS249 (x0 : Int) : vlim cd249 (S249 x0) = (tS249 x0).val cd249 C249 := Tr.val_eq 14 (fun H z => by kernel_rfl)
noncomputable def V249 (x0 : Int) : Option (Bool) := vlim cd249 (S249 x0)
noncomputable def F249 (x0 : Int) : Bool := (V249 x0).getD default
noncomputable def G249 : GE := mkG [] (codI.a (.nil)) (fun x => V249 x.1) cd249
theorem ge249 : GeOk 249 G249 := ge_mk (C := C249) (base_ok .nil (.cons c249 .nil) .nil) rfl c249 (fun _ => rfl) (by kernel_rfl)
theorem c216 : CdOk 216 Tryz.f216 := ⟨by kernel_rfl, by kernel_rfl⟩
noncomputable def C216 : Cfg := base [(249, G249)] [(216, Tryz.f216)] [(216, [])] [] [] [] []
noncomputable def S216 (x0 x1 : Int) (n : Nat) : Option AV := startK C216 n 216 Tryz.f216 [.int .i64 x0, .int .i64 x1]
noncomputable abbrev cd216 : Cod (Int) := codI
noncomputable def tS216 (x0 x1 : Int) : Tr (Int) :=
  .cond ((V249 x0).isSome)
  (.cond ((V249 x1).isSome)
    (.cond (F249 x0)
      (.cond (F249 x1)
        (.some 0)
        (.some (-1)))
      (.cond (F249 x1)
        (.some 1)
        (.cond (decide (x0 < x1))
          (.some (-1))
          (.cond (decide (x1 < x0))
            (.some 1)
            (.some 0)))))
    (.none))
  (.none)
theorem eS216 (x0 x1 : Int) : vlim cd216 (S216 x0 x1) = (tS216 x0 x1).val cd216 C216 := Tr.val_eq 55 (fun H z => by kernel_rfl)
noncomputable def V216 (x0 x1 : Int) : Option (Int) := vlim cd216 (S216 x0 x1)
noncomputable def F216 (x0 x1 : Int) : Int := (V216 x0 x1).getD default
noncomputable def G216 : GE := mkG [] (codI.a (codI.a (.nil))) (fun x => V216 x.1 x.2.1) cd216
theorem ge216 : GeOk 216 G216 := ge_mk (C := C216) (base_ok (.cons ge249 .nil) (.cons c216 .nil) .nil) rfl c216 (fun _ => rfl) (by kernel_rfl)
theorem c150 : CdOk 150 Tryz.f150 := ⟨by kernel_rfl, by kernel_rfl⟩
noncomputable def C150 : Cfg := base [(215, G215), (216, G216)] [(150, Tryz.f150)] [(150, [])] [] [] [] []
noncomputable def S150 (x0 x1 : Cell) (n : Nat) : Option AV := startK C150 n 150 Tryz.f150 [.agg (ST.row .cell x0), .agg (ST.row .cell x1)]
noncomputable abbrev cd150 : Cod (Int) := codI
noncomputable def tS150 (x0 x1 : Cell) : Tr (Int) :=
  .cond ((V216 x0.slot x1.slot).isSome)
  (.cond ((V216 x0.kind x1.kind).isSome)
    (.cond ((V215 ([F216 x0.slot x1.slot, F216 x0.kind x1.kind] : List Int)).isSome)
      (.some (F215 ([F216 x0.slot x1.slot, F216 x0.kind x1.kind] : List Int)))
      (.none))
    (.none))
  (.none)
theorem eS150 (x0 x1 : Cell) : vlim cd150 (S150 x0 x1) = (tS150 x0 x1).val cd150 C150 := Tr.val_eq 11 (fun H z => by kernel_rfl)
noncomputable def V150 (x0 x1 : Cell) : Option (Int) := vlim cd150 (S150 x0 x1)
noncomputable def F150 (x0 x1 : Cell) : Int := (V150 x0 x1).getD default
noncomputable def G150 : GE := mkG [] ((codE .cell).a ((codE .cell).a (.nil))) (fun x => V150 x.1 x.2.1) cd150
theorem ge150 : GeOk 150 G150 := ge_mk (C := C150) (base_ok (.cons ge215 (.cons ge216 .nil)) (.cons c150 .nil) .nil) rfl c150 (fun _ => rfl) (by kernel_rfl)
theorem c48 : CdOk 48 Tryz.f48 := ⟨by kernel_rfl, by kernel_rfl⟩
noncomputable def b48 (n p : Nat) : Code := bp n p (bodyA Tryz.f48)
noncomputable def C48 : Cfg := base [(148, G148), (149, G149), (150, G150)] [(48, Tryz.f48)] [(48, [(2, { drop := rs [(0, 55)], nt := [], nb := [] }), (3, { drop := rs [(0, 1), (2, 53)], nt := [], nb := [] }), (6, { drop := rs [(0, 1), (2, 23), (28, 27)], nt := [], nb := [] }), (12, { drop := rs [(0, 55)], nt := [], nb := [] }), (13, { drop := rs [(0, 1), (2, 23), (28, 27)], nt := [], nb := [] })])] [] [] [] []
noncomputable def S48 (x0 : Tab) (n : Nat) : Option AV := startK C48 n 48 Tryz.f48 [.agg (enc29 x0)]
noncomputable def J48_2 : St := ⟨3, ⟨48, un 55, nb 55, [.code (b48 5 5), .code (b48 5 21), .code (b48 2 3)]⟩, []⟩
noncomputable def J48_3 (x0 : Tab) : St := ⟨4, ⟨48, ap [.undef, .ptr 0 1 0] (un 53), aq [[], (enc29 x0)] (nb 53), [.code (b48 4 3), .code (b48 4 11), .code (b48 3 7)]⟩, []⟩
noncomputable def J48_6 (x0 : List Cell) (x1 x2 : Int) (x3 : Tab) : St := ⟨7, ⟨48, ap [.undef, .ptr 0 1 0] (ap (un 23) (ap [.sl .cell x0 .none, .int .i64 x1, .int .i64 x2] (un 27))), aq [[], (enc29 x3)] (nb 53), [.code (b48 8 23), .code (b48 8 151), .inLoop (b48 7 23), .inBlock 0, .code (b48 4 15)]⟩, []⟩
noncomputable def J48_12 : St := ⟨13, ⟨48, un 55, nb 55, [.code (b48 16 14743), .code (b48 16 47511), .inBlock 1, .code (b48 10 919), .inLoop (b48 7 23), .inBlock 0, .code (b48 4 15)]⟩, []⟩
noncomputable def J48_13 (x0 : List Cell) (x1 x2 : Int) (x3 : Tab) : St := ⟨14, ⟨48, ap [.undef, .ptr 0 1 0] (ap (un 23) (ap [.sl .cell x0 .none, .int .i64 x1, .int .i64 x2] (un 27))), aq [[], (enc29 x3)] (nb 53), [.code (b48 10 919), .inLoop (b48 7 23), .inBlock 0, .code (b48 4 15)]⟩, []⟩
noncomputable abbrev cd48 : Cod (Int) := codI
noncomputable def tS48 (x0 : Tab) : Tr (Int) :=
  .cond ((V148 x0.nd).isSome)
  (.cond (!(F148 x0.nd))
    (.go J48_2)
    (.cond (decide (x0.len < 1))
      (.go J48_2)
      (.cond (decide (512 < x0.len))
        (.go J48_2)
        (.go (J48_3 x0)))))
  (.none)
theorem eS48 (x0 : Tab) : vlim cd48 (S48 x0) = (tS48 x0).val cd48 C48 := Tr.val_eq 30 (fun H z => by kernel_rfl)
noncomputable def tJ48_2 : Tr (Int) :=
  .some 2
theorem eJ48_2 : lv cd48 C48 (J48_2) = (tJ48_2).val cd48 C48 := Tr.lv_eq 6 (fun H z => by kernel_rfl)
noncomputable def tJ48_3 (x0 : Tab) : Tr (Int) :=
  .cond (decide (512 < ((x0.cl).length : Int)))
  (.some 8)
  (.go (J48_6 x0.cl ((x0.cl).length : Int) 0 x0))
theorem eJ48_3 (x0 : Tab) : lv cd48 C48 (J48_3 x0) = (tJ48_3 x0).val cd48 C48 := Tr.lv_eq 22 (fun H z => by kernel_rfl)
noncomputable def tJ48_6 (x0 : List Cell) (x1 x2 : Int) (x3 : Tab) : Tr (Int) :=
  .cond (decide (x2 < x1))
  (.cond (ib x2 x0)
    (.cond ((V149 (nth .cell x0 x2) x3.nd x3.len).isSome)
      (.cond (!(decide ((F149 (nth .cell x0 x2) x3.nd x3.len) = 0)))
        (.some (F149 (nth .cell x0 x2) x3.nd x3.len))
        (.cond (decide (0 < x2))
          (.cond (inR .i64 (x2 - 1))
            (.cond (ib (x2 - 1) x3.cl)
              (.cond ((V150 (nth .cell x3.cl (x2 - 1)) (nth .cell x0 x2)).isSome)
                (.cond (decide (0 ≤ (F150 (nth .cell x3.cl (x2 - 1)) (nth .cell x0 x2))))
                  (.go J48_12)
                  (.go (J48_13 x0 x1 x2 x3)))
                (.none))
              (.none))
            (.none))
          (.go (J48_13 x0 x1 x2 x3))))
      (.none))
    (.none))
  (.some 0)
theorem eJ48_6 (x0 : List Cell) (x1 x2 : Int) (x3 : Tab) : lv cd48 C48 (J48_6 x0 x1 x2 x3) = (tJ48_6 x0 x1 x2 x3).val cd48 C48 := Tr.lv_eq 43 (fun H z => by kernel_rfl)
noncomputable def tJ48_12 : Tr (Int) :=
  .some 5
theorem eJ48_12 : lv cd48 C48 (J48_12) = (tJ48_12).val cd48 C48 := Tr.lv_eq 6 (fun H z => by kernel_rfl)
noncomputable def tJ48_13 (x0 : List Cell) (x1 x2 : Int) (x3 : Tab) : Tr (Int) :=
  .cond (inR .i64 (x2 + 1))
  (.go (J48_6 x0 x1 (x2 + 1) x3))
  (.none)
theorem eJ48_13 (x0 : List Cell) (x1 x2 : Int) (x3 : Tab) : lv cd48 C48 (J48_13 x0 x1 x2 x3) = (tJ48_13 x0 x1 x2 x3).val cd48 C48 := Tr.lv_eq 9 (fun H z => by kernel_rfl)
noncomputable def V48 (x0 : Tab) : Option (Int) := vlim cd48 (S48 x0)
noncomputable def F48 (x0 : Tab) : Int := (V48 x0).getD default
noncomputable def G48 : GE := mkG [(0, some 2, .cell)] (cod29.a (.nil)) (fun x => V48 x.1) cd48
theorem ge48 : GeOk 48 G48 := ge_mk (C := C48) (base_ok (.cons ge148 (.cons ge149 (.cons ge150 .nil))) (.cons c48 .nil) .nil) rfl c48 (fun _ => rfl) (by kernel_rfl)
theorem c124 : CdOk 124 Tryz.f124 := ⟨by kernel_rfl, by kernel_rfl⟩
noncomputable def b124 (n p : Nat) : Code := bp n p (bodyA Tryz.f124)
theorem c193 : CdOk 193 Tryz.f193 := ⟨by kernel_rfl, by kernel_rfl⟩
noncomputable def b193 (n p : Nat) : Code := bp n p (bodyA Tryz.f193)
theorem c201 : CdOk 201 Tryz.f201 := ⟨by kernel_rfl, by kernel_rfl⟩
noncomputable def C124 : Cfg := base [(48, G48)] [(124, Tryz.f124), (193, Tryz.f193), (198, Tryz.f198), (201, Tryz.f201)] [(124, []), (193, [(5, { drop := rs [(4, 1), (7, 35)], nt := [], nb := [] }), (6, { drop := rs [(4, 1), (7, 35)], nt := [], nb := [] })]), (198, [(2, { drop := rs [(4, 3), (9, 10)], nt := [], nb := [] })]), (201, [])] [] [] [(0, none, .cell)] [(125, L125)]
noncomputable def S124 (x0 : Tab) (x1 : Int) (n : Nat) : Option AV := startK C124 n 124 Tryz.f124 [.agg (enc29 x0), .int .i64 x1]
noncomputable def J124_2_198_0 (x0 : List Cell) (x1 x2 : Int) (x3 x4 : List Cell) (x5 : Tab) (x6 : Int) (x7 : Tab) (x8 : Int) (x9 : Bool) (x10 x11 : List Cell) (x12 : Tab) (x13 : Int) : St := ⟨3, ⟨198, ap [.os .cell x0 10, .fn 201 [] [.ptr 2 3 0]] (ap (un 5) (ap [.int .i64 x1, .int .i64 x2] (un 10))), nb 19, [.code (b198 6 5), .code (b198 6 37), .inLoop (b198 5 5), .inBlock 0, .code (b198 2 3)]⟩, [⟨193, ap [.os .cell x3 10, .fn 201 [] [.ptr 1 3 0], .undef, .undef, .nilS] (ap (un 3) (ap [.os .cell x4 10, .fn 201 [] [.ptr 1 3 0]] (un 32))), nb 42, [.inRegion (opsA (b193 2 1)) (fr 2 2), .code (b193 2 3)]⟩, ⟨124, ap [.agg (enc29 x5), .int .i64 x6, .ptr 0 2 0, .ptr 0 3 0, .nilS, .agg (enc29 x7), .int .i64 x8, .bool x9, .ptr 0 2 2, .sl .cell x10 .none, .os .cell x11 10, .fn 201 [] [.ptr 0 3 0]] (un 1), aq [[], [], (enc29 x12), [.int .i64 x13]] (nb 9), [.inRegion (opsA (b124 3 3)) (fr 4 2), .code (b124 3 7)]⟩]⟩
noncomputable def J124_5_193_0 (x0 : List Cell) (x1 x2 : Int) (x3 : Tab) (x4 : Int) (x5 : Tab) (x6 : Int) (x7 : Bool) (x8 x9 : List Cell) (x10 : Tab) (x11 : Int) : St := ⟨6, ⟨193, ap [.os .cell x0 10, .fn 201 [] [.ptr 1 3 0]] (ap (un 3) (ap [.int .i64 x1, .int .i64 x2] (un 35))), nb 42, [.code (b193 9 23), .code (b193 9 279), .code (b193 8 151), .inLoop (b193 7 23), .inBlock 0, .code (b193 4 15)]⟩, [⟨124, ap [.agg (enc29 x3), .int .i64 x4, .ptr 0 2 0, .ptr 0 3 0, .nilS, .agg (enc29 x5), .int .i64 x6, .bool x7, .ptr 0 2 2, .sl .cell x8 .none, .os .cell x9 10, .fn 201 [] [.ptr 0 3 0]] (un 1), aq [[], [], (enc29 x10), [.int .i64 x11]] (nb 9), [.inRegion (opsA (b124 3 3)) (fr 4 2), .code (b124 3 7)]⟩]⟩
noncomputable def J124_6_193_0 (x0 : List Cell) (x1 x2 : Int) (x3 : Tab) (x4 : Int) (x5 : Tab) (x6 : Int) (x7 : Bool) (x8 x9 : List Cell) (x10 : Tab) (x11 : Int) : St := ⟨7, ⟨193, ap [.os .cell x0 10, .fn 201 [] [.ptr 1 3 0]] (ap (un 3) (ap [.int .i64 x1, .int .i64 x2] (un 35))), nb 42, [.code (b193 9 407), .inLoop (b193 7 23), .inBlock 0, .code (b193 4 15)]⟩, [⟨124, ap [.agg (enc29 x3), .int .i64 x4, .ptr 0 2 0, .ptr 0 3 0, .nilS, .agg (enc29 x5), .int .i64 x6, .bool x7, .ptr 0 2 2, .sl .cell x8 .none, .os .cell x9 10, .fn 201 [] [.ptr 0 3 0]] (un 1), aq [[], [], (enc29 x10), [.int .i64 x11]] (nb 9), [.inRegion (opsA (b124 3 3)) (fr 4 2), .code (b124 3 7)]⟩]⟩
noncomputable abbrev cd124 : Cod (List Cell) := (codS .cell)
noncomputable def tS124 (x0 : Tab) (x1 : Int) : Tr (List Cell) :=
  .cond ((V48 x0).isSome)
  (.cond (!(decide ((F48 x0) = 0)))
    (.some ([] : List Cell))
    (.cond (decide ((x0.cl).length * 48 ≤ 70368744177664))
      (.go (J124_2_198_0 x0.cl ((x0.cl).length : Int) 0 x0.cl x0.cl x0 x1 x0 (F48 x0) false x0.cl x0.cl x0 x1))
      (.none)))
  (.none)
theorem eS124 (x0 : Tab) (x1 : Int) : vlim cd124 (S124 x0 x1) = (tS124 x0 x1).val cd124 C124 := Tr.val_eq 48 (fun H z => by kernel_rfl)
noncomputable def tJ124_2_198_0 (x0 : List Cell) (x1 x2 : Int) (x3 x4 : List Cell) (x5 : Tab) (x6 : Int) (x7 : Tab) (x8 : Int) (x9 : Bool) (x10 x11 : List Cell) (x12 : Tab) (x13 : Int) : Tr (List Cell) :=
  .cond (decide (x2 < x1))
  (.cond (ib x2 x0)
    (.cond (!(decide (((x0.getD x2.toNat (ST.dflt .cell)).kind) = 2)))
      (.cond (decide (x2 = (-1)))
        (.some x3)
        (.cond (inR .i64 (x2 + 1))
          (.go (J124_5_193_0 x3 x2 (x2 + 1) x5 x6 x7 x8 x9 x10 x11 x12 x13))
          (.none)))
      (.cond (!(decide (((x0.getD x2.toNat (ST.dflt .cell)).peer) = x13)))
        (.cond (decide (x2 = (-1)))
          (.some x3)
          (.cond (inR .i64 (x2 + 1))
            (.go (J124_5_193_0 x3 x2 (x2 + 1) x5 x6 x7 x8 x9 x10 x11 x12 x13))
            (.none)))
        (.cond (inR .i64 (x2 + 1))
          (.go (J124_2_198_0 x0 x1 (x2 + 1) x3 x4 x5 x6 x7 x8 x9 x10 x11 x12 x13))
          (.none))))
    (.none))
  (.some x3)
theorem eJ124_2_198_0 (x0 : List Cell) (x1 x2 : Int) (x3 x4 : List Cell) (x5 : Tab) (x6 : Int) (x7 : Tab) (x8 : Int) (x9 : Bool) (x10 x11 : List Cell) (x12 : Tab) (x13 : Int) : lv cd124 C124 (J124_2_198_0 x0 x1 x2 x3 x4 x5 x6 x7 x8 x9 x10 x11 x12 x13) = (tJ124_2_198_0 x0 x1 x2 x3 x4 x5 x6 x7 x8 x9 x10 x11 x12 x13).val cd124 C124 := Tr.lv_eq 72 (fun H z => by kernel_rfl)
noncomputable def tJ124_5_193_0 (x0 : List Cell) (x1 x2 : Int) (x3 : Tab) (x4 : Int) (x5 : Tab) (x6 : Int) (x7 : Bool) (x8 x9 : List Cell) (x10 : Tab) (x11 : Int) : Tr (List Cell) :=
  .cond (decide (x2 < ((x0).length : Int)))
  (.cond (ib x2 x0)
    (.cond (!(decide (((x0.getD x2.toNat (ST.dflt .cell)).kind) = 2)))
      (.go (J124_6_193_0 x0 x1 x2 x3 x4 x5 x6 x7 x8 x9 x10 x11))
      (.cond (!(!(decide (((x0.getD x2.toNat (ST.dflt .cell)).peer) = x11))))
        (.cond (ib x1 x0)
          (.cond (inR .i64 (x1 + 1))
            (.go (J124_6_193_0 (x0.set x1.toNat (x0.getD x2.toNat (ST.dflt .cell))) (x1 + 1) x2 x3 x4 x5 x6 x7 x8 (x0.set x1.toNat (x0.getD x2.toNat (ST.dflt .cell))) x10 x11))
            (.none))
          (.none))
        (.go (J124_6_193_0 x0 x1 x2 x3 x4 x5 x6 x7 x8 x9 x10 x11))))
    (.none))
  (.cond (ic x1 x0)
    (.cond (ic x1 (x0.take x1.toNat ++ List.replicate (x0.length - x1.toNat) (ST.dflt .cell)))
      (.some ((x0.take x1.toNat ++ List.replicate (x0.length - x1.toNat) (ST.dflt .cell)).take x1.toNat))
      (.none))
    (.none))
theorem eJ124_5_193_0 (x0 : List Cell) (x1 x2 : Int) (x3 : Tab) (x4 : Int) (x5 : Tab) (x6 : Int) (x7 : Bool) (x8 x9 : List Cell) (x10 : Tab) (x11 : Int) : lv cd124 C124 (J124_5_193_0 x0 x1 x2 x3 x4 x5 x6 x7 x8 x9 x10 x11) = (tJ124_5_193_0 x0 x1 x2 x3 x4 x5 x6 x7 x8 x9 x10 x11).val cd124 C124 := Tr.lv_eq 63 (fun H z => by kernel_rfl)
noncomputable def tJ124_6_193_0 (x0 : List Cell) (x1 x2 : Int) (x3 : Tab) (x4 : Int) (x5 : Tab) (x6 : Int) (x7 : Bool) (x8 x9 : List Cell) (x10 : Tab) (x11 : Int) : Tr (List Cell) :=
  .cond (inR .i64 (x2 + 1))
  (.go (J124_5_193_0 x0 x1 (x2 + 1) x3 x4 x5 x6 x7 x8 x9 x10 x11))
  (.none)
theorem eJ124_6_193_0 (x0 : List Cell) (x1 x2 : Int) (x3 : Tab) (x4 : Int) (x5 : Tab) (x6 : Int) (x7 : Bool) (x8 x9 : List Cell) (x10 : Tab) (x11 : Int) : lv cd124 C124 (J124_6_193_0 x0 x1 x2 x3 x4 x5 x6 x7 x8 x9 x10 x11) = (tJ124_6_193_0 x0 x1 x2 x3 x4 x5 x6 x7 x8 x9 x10 x11).val cd124 C124 := Tr.lv_eq 11 (fun H z => by kernel_rfl)
noncomputable def V124 (x0 : Tab) (x1 : Int) : Option (List Cell) := vlim cd124 (S124 x0 x1)
noncomputable def F124 (x0 : Tab) (x1 : Int) : List Cell := (V124 x0 x1).getD default
noncomputable def G124 : GE := mkG [(0, some 2, .cell)] (cod29.a (codI.a (.nil))) (fun x => V124 x.1 x.2.1) cd124
theorem ge124 : GeOk 124 G124 := ge_mk (C := C124) (base_ok (.cons ge48 .nil) (.cons c124 (.cons c193 (.cons c198 (.cons c201 .nil)))) (.cons le125 .nil)) rfl c124 (fun _ => rfl) (by kernel_rfl)
theorem c126 : CdOk 126 Tryz.f126 := ⟨by kernel_rfl, by kernel_rfl⟩
noncomputable def b126 (n p : Nat) : Code := bp n p (bodyA Tryz.f126)
theorem c202 : CdOk 202 Tryz.f202 := ⟨by kernel_rfl, by kernel_rfl⟩
noncomputable def b202 (n p : Nat) : Code := bp n p (bodyA Tryz.f202)
noncomputable def C126 : Cfg := base [(48, G48), (149, G149), (150, G150)] [(126, Tryz.f126), (202, Tryz.f202)] [(126, []), (202, [(3, { drop := rs [(1, 1), (6, 2), (11, 38)], nt := [], nb := [] })])] [] [] [(0, some 2, .cell)] [(125, L125), (203, L203)]
noncomputable def S126 (x0 : Tab) (x1 : Cell) (n : Nat) : Option AV := startK C126 n 126 Tryz.f126 [.agg (enc29 x0), .agg (ST.row .cell x1)]
noncomputable def J126_3_202_0 (x0 : List Cell) (x1 x2 x3 : Int) (x4 : Cell) (x5 : Tab) (x6 : Cell) (x7 x8 : Int) (x9 : Tab) (x10 : Int) (x11 : Bool) (x12 : Cell) (x13 x14 x15 x16 : Int) (x17 : Bool) (x18 : List Cell) (x19 : Cell) (x20 : Tab) (x21 : Cell) (x22 x23 : Int) : St := ⟨4, ⟨202, ap [.sl .cell x0 .none, .undef, .fn 150 [] [], .undef, .ptr 0 4 0] (ap (un 3) (ap [.int .i64 x1, .int .i64 x2, .int .i64 x3] (un 38))), aq (nb 4) (aq [(ST.row .cell x4)] (nb 44)), [.code (b202 8 7), .code (b202 8 135), .code (b202 7 71), .inLoop (b202 6 7), .inBlock 0, .code (b202 4 15)]⟩, [⟨126, ap [.agg (enc29 x5), .agg (ST.row .cell x6), .ptr 0 2 0, .ptr 0 3 0, .ptr 0 4 0, .int .i64 x7, .int .i64 x8, .undef, .undef, .agg (enc29 x9), .int .i64 x10, .bool x11, .undef, .agg (ST.row .cell x12), .ptr 0 2 0, .int .i64 x13, .ptr 0 2 1, .int .i64 x14, .int .i64 x15, .int .i64 x16, .bool x17] (ap (un 3) (ap [.ptr 0 2 2, .sl .cell x18 .none, .agg (ST.row .cell x19)] (un 21))), aq [[], [], (enc29 x20), (ST.row .cell x21), [.int .i64 x22, .int .i64 x23, .nilS]] (nb 43), [.inRegion (opsA (b126 4 7)) (fr 3 6), .code (b126 4 15)]⟩]⟩
noncomputable abbrev cd126 : Cod (Tab × Int) := (codT2 cod29 codI)
noncomputable def tS126 (x0 : Tab) (x1 : Cell) : Tr (Tab × Int) :=
  .cond ((V48 x0).isSome)
  (.cond (!(decide ((F48 x0) = 0)))
    (.some ((⟨0, 0, ([] : List Cell)⟩ : Tab), 1))
    (.cond ((V149 x1 x0.nd x0.len).isSome)
      (.cond (!(decide ((F149 x1 x0.nd x0.len) = 0)))
        (.some ((⟨0, 0, ([] : List Cell)⟩ : Tab), F149 x1 x0.nd x0.len))
        (.go (J126_3_202_0 x0.cl ((x0.cl).length : Int) 0 ((x0.cl).length : Int) x1 x0 x1 0 (F149 x1 x0.nd x0.len) x0 (F48 x0) false x1 x0.nd x0.len (F149 x1 x0.nd x0.len) (F149 x1 x0.nd x0.len) false x0.cl x1 x0 x1 0 0)))
      (.none)))
  (.none)
theorem eS126 (x0 : Tab) (x1 : Cell) : vlim cd126 (S126 x0 x1) = (tS126 x0 x1).val cd126 C126 := Tr.val_eq 66 (fun H z => by kernel_rfl)
noncomputable def tJ126_3_202_0 (x0 : List Cell) (x1 x2 x3 : Int) (x4 : Cell) (x5 : Tab) (x6 : Cell) (x7 x8 : Int) (x9 : Tab) (x10 : Int) (x11 : Bool) (x12 : Cell) (x13 x14 x15 x16 : Int) (x17 : Bool) (x18 : List Cell) (x19 : Cell) (x20 : Tab) (x21 : Cell) (x22 x23 : Int) : Tr (Tab × Int) :=
  .cond (decide (x2 < x3))
  (.cond (inR .i64 (x2 + x3))
    (.cond (ib (IntKind.wrap .i64 (shrI .u64 (IntKind.wrap .u64 (x2 + x3)) 1)) x0)
      (.cond ((V150 (nth .cell x0 (IntKind.wrap .i64 (shrI .u64 (IntKind.wrap .u64 (x2 + x3)) 1))) x4).isSome)
        (.cond (decide ((F150 (nth .cell x0 (IntKind.wrap .i64 (shrI .u64 (IntKind.wrap .u64 (x2 + x3)) 1))) x4) < 0))
          (.cond (inR .i64 ((IntKind.wrap .i64 (shrI .u64 (IntKind.wrap .u64 (x2 + x3)) 1)) + 1))
            (.go (J126_3_202_0 x0 x1 ((IntKind.wrap .i64 (shrI .u64 (IntKind.wrap .u64 (x2 + x3)) 1)) + 1) x3 x4 x5 x6 x7 x8 x9 x10 x11 x12 x13 x14 x15 x16 x17 x18 x19 x20 x21 x22 x23))
            (.none))
          (.go (J126_3_202_0 x0 x1 x2 (IntKind.wrap .i64 (shrI .u64 (IntKind.wrap .u64 (x2 + x3)) 1)) x4 x5 x6 x7 x8 x9 x10 x11 x12 x13 x14 x15 x16 x17 x18 x19 x20 x21 x22 x23)))
        (.none))
      (.none))
    (.none))
  (.cond (decide (x2 < x1))
    (.cond (ib x2 x0)
      (.cond ((V150 (nth .cell x0 x2) x4).isSome)
        (.cond (decide ((F150 (nth .cell x0 x2) x4) = 0))
          (.some ((⟨0, 0, ([] : List Cell)⟩ : Tab), 16))
          (.cond (decide (((x20.cl).length : Int) = 512))
            (.some ((⟨0, 0, ([] : List Cell)⟩ : Tab), 8))
            (.cond (decide ((x20.cl).length * 48 ≤ 70368744177664))
              (.cond (P203 x20.cl x2 ([x21] : List Cell))
                (.some ((⟨x20.nd, x20.len, I203 x20.cl x2 ([x21] : List Cell)⟩ : Tab), 0))
                (.none))
              (.none))))
        (.none))
      (.none))
    (.cond (decide (((x20.cl).length : Int) = 512))
      (.some ((⟨0, 0, ([] : List Cell)⟩ : Tab), 8))
      (.cond (decide ((x20.cl).length * 48 ≤ 70368744177664))
        (.cond (P203 x20.cl x2 ([x21] : List Cell))
          (.some ((⟨x20.nd, x20.len, I203 x20.cl x2 ([x21] : List Cell)⟩ : Tab), 0))
          (.none))
        (.none))))
theorem eJ126_3_202_0 (x0 : List Cell) (x1 x2 x3 : Int) (x4 : Cell) (x5 : Tab) (x6 : Cell) (x7 x8 : Int) (x9 : Tab) (x10 : Int) (x11 : Bool) (x12 : Cell) (x13 x14 x15 x16 : Int) (x17 : Bool) (x18 : List Cell) (x19 : Cell) (x20 : Tab) (x21 : Cell) (x22 x23 : Int) : lv cd126 C126 (J126_3_202_0 x0 x1 x2 x3 x4 x5 x6 x7 x8 x9 x10 x11 x12 x13 x14 x15 x16 x17 x18 x19 x20 x21 x22 x23) = (tJ126_3_202_0 x0 x1 x2 x3 x4 x5 x6 x7 x8 x9 x10 x11 x12 x13 x14 x15 x16 x17 x18 x19 x20 x21 x22 x23).val cd126 C126 := Tr.lv_eq 46 (fun H z => by kernel_rfl)
noncomputable def V126 (x0 : Tab) (x1 : Cell) : Option (Tab × Int) := vlim cd126 (S126 x0 x1)
noncomputable def F126 (x0 : Tab) (x1 : Cell) : Tab × Int := (V126 x0 x1).getD default
noncomputable def G126 : GE := mkG [(0, some 2, .cell)] (cod29.a ((codE .cell).a (.nil))) (fun x => V126 x.1 x.2.1) cd126
theorem ge126 : GeOk 126 G126 := ge_mk (C := C126) (base_ok (.cons ge48 (.cons ge149 (.cons ge150 .nil))) (.cons c126 (.cons c202 .nil)) (.cons le125 (.cons le203 .nil))) rfl c126 (fun _ => rfl) (by kernel_rfl)
theorem c36 : CdOk 36 Tryz.f36 := ⟨by kernel_rfl, by kernel_rfl⟩
noncomputable def b36 (n p : Nat) : Code := bp n p (bodyA Tryz.f36)
noncomputable def C36 : Cfg := base [(38, G38), (48, G48), (124, G124), (125, G125), (126, G126)] [(36, Tryz.f36)] [(36, [(2, { drop := rs [(0, 4), (5, 1), (7, 48)], nt := [], nb := [] }), (3, { drop := rs [(0, 2), (5, 1), (7, 48)], nt := [], nb := [] }), (5, { drop := rs [(0, 2), (3, 1), (5, 1), (7, 31), (41, 14)], nt := [], nb := [] })])] [] [] [(0, some 2, .cell)] []
noncomputable def S36 (x0 : Tab) (x1 : End) (n : Nat) : Option AV := startK C36 n 36 Tryz.f36 [.agg (enc29 x0), .agg (enc27 x1)]
noncomputable def J36_2 (x0 x1 : Int) : St := ⟨3, ⟨36, ap (un 4) (ap [.ptr 0 4 0] (un 50)), aq (nb 4) (aq [[.int .i64 x0, .int .i64 x1, .nilS]] (nb 50)), [.code (b36 5 5), .code (b36 5 21), .code (b36 2 3)]⟩, []⟩
noncomputable def J36_3 (x0 : Tab) (x1 : End) (x2 x3 : Int) : St := ⟨4, ⟨36, ap [.undef, .undef, .ptr 0 2 0, .ptr 0 3 0, .ptr 0 4 0] (un 50), aq [[], [], (enc29 x0), (enc27 x1), [.int .i64 x2, .int .i64 x3, .nilS]] (nb 50), [.code (b36 3 3), .code (b36 3 7)]⟩, []⟩
noncomputable def J36_5 (x0 : List Cell) (x1 x2 : Int) (x3 : Tab) (x4 x5 : Int) : St := ⟨6, ⟨36, ap [.undef, .undef, .ptr 0 2 0, .undef, .ptr 0 4 0] (ap (un 33) (ap [.sl .cell x0 .none, .int .i64 x1, .int .i64 x2] (un 14))), aq [[], [], (enc29 x3), [], [.int .i64 x4, .int .i64 x5, .nilS]] (nb 50), [.code (b36 8 23), .code (b36 8 151), .inLoop (b36 7 23), .inBlock 0, .code (b36 4 15)]⟩, []⟩
noncomputable abbrev cd36 : Cod (Tab × Int) := (codT2 cod29 codI)
noncomputable def tS36 (x0 : Tab) (x1 : End) : Tr (Tab × Int) :=
  .cond ((V38 x1).isSome)
  (.cond (!(decide ((F38 x1) = 0)))
    (.go (J36_2 0 0))
    (.cond ((V48 x0).isSome)
      (.cond (!(decide ((F48 x0) = 0)))
        (.go (J36_2 0 0))
        (.cond (!(decide (x0.nd = x1.nd)))
          (.go (J36_2 0 0))
          (.cond ((V124 x0 x1.pr).isSome)
            (.cond (decide (0 < ((F124 x0 x1.pr).length : Int)))
              (.go (J36_2 0 0))
              (.go (J36_3 x0 x1 0 0)))
            (.none))))
      (.none)))
  (.none)
theorem eS36 (x0 : Tab) (x1 : End) : vlim cd36 (S36 x0 x1) = (tS36 x0 x1).val cd36 C36 := Tr.val_eq 40 (fun H z => by kernel_rfl)
noncomputable def tJ36_2 (x0 x1 : Int) : Tr (Tab × Int) :=
  .some ((⟨0, 0, ([] : List Cell)⟩ : Tab), 1)
theorem eJ36_2 (x0 x1 : Int) : lv cd36 C36 (J36_2 x0 x1) = (tJ36_2 x0 x1).val cd36 C36 := Tr.lv_eq 8 (fun H z => by kernel_rfl)
noncomputable def tJ36_3 (x0 : Tab) (x1 : End) (x2 x3 : Int) : Tr (Tab × Int) :=
  .cond ((V125 x0.cl).isSome)
  (.go (J36_5 x1.cl ((x1.cl).length : Int) 0 (⟨x0.nd, x0.len, F125 x0.cl⟩ : Tab) x2 x3))
  (.none)
theorem eJ36_3 (x0 : Tab) (x1 : End) (x2 x3 : Int) : lv cd36 C36 (J36_3 x0 x1 x2 x3) = (tJ36_3 x0 x1 x2 x3).val cd36 C36 := Tr.lv_eq 21 (fun H z => by kernel_rfl)
noncomputable def tJ36_5 (x0 : List Cell) (x1 x2 : Int) (x3 : Tab) (x4 x5 : Int) : Tr (Tab × Int) :=
  .cond (decide (x2 < x1))
  (.cond (ib x2 x0)
    (.cond ((V126 x3 (nth .cell x0 x2)).isSome)
      (.cond (!(decide (((F126 x3 (nth .cell x0 x2)).2) = 0)))
        (.some ((⟨0, 0, ([] : List Cell)⟩ : Tab), 16))
        (.cond (inR .i64 (x2 + 1))
          (.go (J36_5 x0 x1 (x2 + 1) ((F126 x3 (nth .cell x0 x2)).1) x4 x5))
          (.none)))
      (.none))
    (.none))
  (.some (x3, 0))
theorem eJ36_5 (x0 : List Cell) (x1 x2 : Int) (x3 : Tab) (x4 x5 : Int) : lv cd36 C36 (J36_5 x0 x1 x2 x3 x4 x5) = (tJ36_5 x0 x1 x2 x3 x4 x5).val cd36 C36 := Tr.lv_eq 47 (fun H z => by kernel_rfl)
noncomputable def V36 (x0 : Tab) (x1 : End) : Option (Tab × Int) := vlim cd36 (S36 x0 x1)
noncomputable def F36 (x0 : Tab) (x1 : End) : Tab × Int := (V36 x0 x1).getD default
noncomputable def G36 : GE := mkG [(0, some 2, .cell), (1, some 3, .cell), (1, some 11, .spot), (1, some 12, .spot), (1, some 19, .spot), (1, some 20, .spot), (1, some 26, .spot), (1, some 27, .spot)] (cod29.a (cod27.a (.nil))) (fun x => V36 x.1 x.2.1) cd36
theorem ge36 : GeOk 36 G36 := ge_mk (C := C36) (base_ok (.cons ge38 (.cons ge48 (.cons ge124 (.cons ge125 (.cons ge126 .nil))))) (.cons c36 .nil) .nil) rfl c36 (fun _ => rfl) (by kernel_rfl)
theorem c98 : CdOk 98 Tryz.f98 := ⟨by kernel_rfl, by kernel_rfl⟩
noncomputable def b98 (n p : Nat) : Code := bp n p (bodyA Tryz.f98)
noncomputable def C98 : Cfg := base [(96, G96)] [(98, Tryz.f98)] [(98, [(2, { drop := rs [(0, 3), (5, 22)], nt := [], nb := [] }), (3, { drop := rs [(0, 1), (5, 22)], nt := [], nb := [] }), (4, { drop := rs [(0, 3), (5, 22)], nt := [], nb := [] }), (5, { drop := rs [(0, 1), (5, 22)], nt := [], nb := [] })])] [] [] [(0, some 5, .spot), (0, some 6, .spot)] []
noncomputable def S98 (x0 : Msg) (x1 : Int) (n : Nat) : Option AV := startK C98 n 98 Tryz.f98 [.agg (enc25 x0), .int .i64 x1]
noncomputable def J98_2 (x0 : Int) (x1 : Bool) (x2 x3 x4 : Int) : St := ⟨3, ⟨98, ap (un 4) (ap [.ptr 0 4 0] (un 22)), aq (nb 4) (aq [[.int .i64 x0, .bool x1, .int .i64 x2, .int .i64 x3, .int .i64 x4, .nilS, .nilS]] (nb 22)), [.code (b98 5 5), .code (b98 5 21), .code (b98 2 3)]⟩, []⟩
noncomputable def J98_3 (x0 : Int) (x1 : Msg) (x2 : Int) (x3 : Bool) (x4 x5 x6 : Int) : St := ⟨4, ⟨98, ap [.undef, .int .i64 x0, .ptr 0 2 0, .undef, .ptr 0 4 0] (un 22), aq [[], [], (enc25 x1), [], [.int .i64 x2, .bool x3, .int .i64 x4, .int .i64 x5, .int .i64 x6, .nilS, .nilS]] (nb 22), [.code (b98 4 3), .code (b98 4 11), .code (b98 3 7)]⟩, []⟩
noncomputable def J98_4 (x0 : Int) (x1 : Bool) (x2 x3 x4 : Int) : St := ⟨5, ⟨98, ap (un 4) (ap [.ptr 0 4 0] (un 22)), aq (nb 4) (aq [[.int .i64 x0, .bool x1, .int .i64 x2, .int .i64 x3, .int .i64 x4, .nilS, .nilS]] (nb 22)), [.code (b98 6 11), .code (b98 6 43), .code (b98 3 7)]⟩, []⟩
noncomputable def J98_5 (x0 : Int) (x1 : Msg) (x2 : Int) (x3 : Bool) (x4 x5 x6 : Int) : St := ⟨6, ⟨98, ap [.undef, .int .i64 x0, .ptr 0 2 0, .undef, .ptr 0 4 0] (un 22), aq [[], [], (enc25 x1), [], [.int .i64 x2, .bool x3, .int .i64 x4, .int .i64 x5, .int .i64 x6, .nilS, .nilS]] (nb 22), [.code (b98 4 7), .code (b98 4 15)]⟩, []⟩
noncomputable abbrev cd98 : Cod (Msg × Int) := (codT2 cod25 codI)
noncomputable def tS98 (x0 : Msg) (x1 : Int) : Tr (Msg × Int) :=
  .cond ((V96 x0).isSome)
  (.cond (!(decide ((F96 x0) = 0)))
    (.go (J98_2 0 false 0 0 0))
    (.cond x0.rep
      (.go (J98_2 0 false 0 0 0))
      (.go (J98_3 x1 x0 0 false 0 0 0))))
  (.none)
theorem eS98 (x0 : Msg) (x1 : Int) : vlim cd98 (S98 x0 x1) = (tS98 x0 x1).val cd98 C98 := Tr.val_eq 24 (fun H z => by kernel_rfl)
noncomputable def tJ98_2 (x0 : Int) (x1 : Bool) (x2 x3 x4 : Int) : Tr (Msg × Int) :=
  .some ((⟨0, false, 0, 0, 0, ([] : List Spot), ([] : List Spot)⟩ : Msg), 1)
theorem eJ98_2 (x0 : Int) (x1 : Bool) (x2 x3 x4 : Int) : lv cd98 C98 (J98_2 x0 x1 x2 x3 x4) = (tJ98_2 x0 x1 x2 x3 x4).val cd98 C98 := Tr.lv_eq 8 (fun H z => by kernel_rfl)
noncomputable def tJ98_3 (x0 : Int) (x1 : Msg) (x2 : Int) (x3 : Bool) (x4 x5 x6 : Int) : Tr (Msg × Int) :=
  .cond (decide (x0 < 1))
  (.go (J98_4 x2 x3 x4 x5 x6))
  (.cond (decide (3 < x0))
    (.go (J98_4 x2 x3 x4 x5 x6))
    (.go (J98_5 x0 x1 x2 x3 x4 x5 x6)))
theorem eJ98_3 (x0 : Int) (x1 : Msg) (x2 : Int) (x3 : Bool) (x4 x5 x6 : Int) : lv cd98 C98 (J98_3 x0 x1 x2 x3 x4 x5 x6) = (tJ98_3 x0 x1 x2 x3 x4 x5 x6).val cd98 C98 := Tr.lv_eq 14 (fun H z => by kernel_rfl)
noncomputable def tJ98_4 (x0 : Int) (x1 : Bool) (x2 x3 x4 : Int) : Tr (Msg × Int) :=
  .some ((⟨0, false, 0, 0, 0, ([] : List Spot), ([] : List Spot)⟩ : Msg), 2)
theorem eJ98_4 (x0 : Int) (x1 : Bool) (x2 x3 x4 : Int) : lv cd98 C98 (J98_4 x0 x1 x2 x3 x4) = (tJ98_4 x0 x1 x2 x3 x4).val cd98 C98 := Tr.lv_eq 8 (fun H z => by kernel_rfl)
noncomputable def tJ98_5 (x0 : Int) (x1 : Msg) (x2 : Int) (x3 : Bool) (x4 x5 x6 : Int) : Tr (Msg × Int) :=
  .some ((⟨x1.kind, true, x1.num, x0, 0, ([] : List Spot), ([] : List Spot)⟩ : Msg), 0)
theorem eJ98_5 (x0 : Int) (x1 : Msg) (x2 : Int) (x3 : Bool) (x4 x5 x6 : Int) : lv cd98 C98 (J98_5 x0 x1 x2 x3 x4 x5 x6) = (tJ98_5 x0 x1 x2 x3 x4 x5 x6).val cd98 C98 := Tr.lv_eq 13 (fun H z => by kernel_rfl)
noncomputable def V98 (x0 : Msg) (x1 : Int) : Option (Msg × Int) := vlim cd98 (S98 x0 x1)
noncomputable def F98 (x0 : Msg) (x1 : Int) : Msg × Int := (V98 x0 x1).getD default
noncomputable def G98 : GE := mkG [(0, some 5, .spot), (0, some 6, .spot)] (cod25.a (codI.a (.nil))) (fun x => V98 x.1 x.2.1) cd98
theorem ge98 : GeOk 98 G98 := ge_mk (C := C98) (base_ok (.cons ge96 .nil) (.cons c98 .nil) .nil) rfl c98 (fun _ => rfl) (by kernel_rfl)
theorem c99 : CdOk 99 Tryz.f99 := ⟨by kernel_rfl, by kernel_rfl⟩
noncomputable def b99 (n p : Nat) : Code := bp n p (bodyA Tryz.f99)
noncomputable def C99 : Cfg := base [(125, G125), (161, G161)] [(99, Tryz.f99)] [(99, [(3, { drop := rs [(0, 1), (4, 8), (15, 21)], nt := [], nb := [] })])] [] [] [(0, some 3, .cell), (0, some 11, .spot), (0, some 12, .spot), (0, some 19, .spot), (0, some 20, .spot), (0, some 26, .spot), (0, some 27, .spot)] []
noncomputable def S99 (x0 : End) (n : Nat) : Option AV := startK C99 n 99 Tryz.f99 [.agg (enc27 x0)]
noncomputable def J99_3 (x0 : End) (x1 x2 x3 : Int) (x4 : Bool) (x5 x6 : Int) (x7 : Bool) (x8 x9 x10 : Int) (x11 : Bool) (x12 : Int) (x13 : Bool) (x14 x15 x16 x17 : Int) (x18 : Bool) (x19 x20 x21 : Int) : St := ⟨4, ⟨99, ap [.undef, .ptr 0 1 0, .ptr 0 2 0] (ap (un 9) (ap [.lit 1 3 [.ptr 0 1 6, .ptr 0 1 14, .ptr 0 1 21], .int .i64 3, .int .i64 0] (un 21))), aq [[], (enc27 x0), [.int .i64 x1, .int .i64 x2, .int .i64 x3, .nilS, .bool x4, .int .i64 x5, .int .i64 x6, .bool x7, .int .i64 x8, .int .i64 x9, .int .i64 x10, .nilS, .nilS, .bool x11, .int .i64 x12, .bool x13, .int .i64 x14, .int .i64 x15, .int .i64 x16, .nilS, .nilS, .int .i64 x17, .bool x18, .int .i64 x19, .int .i64 x20, .int .i64 x21, .nilS, .nilS]] (nb 33), [.code (b99 7 11), .code (b99 7 75), .inLoop (b99 6 11), .inBlock 0, .code (b99 3 7)]⟩, []⟩
noncomputable def J99_3_99_1 (x0 : End) (x1 x2 x3 : Int) (x4 : Bool) (x5 x6 : Int) (x7 : Bool) (x8 x9 x10 : Int) (x11 : Bool) (x12 : Int) (x13 : Bool) (x14 x15 x16 x17 : Int) (x18 : Bool) (x19 x20 x21 : Int) : St := ⟨4, ⟨99, ap [.undef, .ptr 0 1 0, .ptr 0 2 0] (ap (un 9) (ap [.lit 1 3 [.ptr 0 1 6, .ptr 0 1 14, .ptr 0 1 21], .int .i64 3, .int .i64 1] (un 21))), aq [[], (enc27 x0), [.int .i64 x1, .int .i64 x2, .int .i64 x3, .nilS, .bool x4, .int .i64 x5, .int .i64 x6, .bool x7, .int .i64 x8, .int .i64 x9, .int .i64 x10, .nilS, .nilS, .bool x11, .int .i64 x12, .bool x13, .int .i64 x14, .int .i64 x15, .int .i64 x16, .nilS, .nilS, .int .i64 x17, .bool x18, .int .i64 x19, .int .i64 x20, .int .i64 x21, .nilS, .nilS]] (nb 33), [.code (b99 7 11), .code (b99 7 75), .inLoop (b99 6 11), .inBlock 0, .code (b99 3 7)]⟩, []⟩
noncomputable def J99_3_99_2 (x0 : End) (x1 x2 x3 : Int) (x4 : Bool) (x5 x6 : Int) (x7 : Bool) (x8 x9 x10 : Int) (x11 : Bool) (x12 : Int) (x13 : Bool) (x14 x15 x16 x17 : Int) (x18 : Bool) (x19 x20 x21 : Int) : St := ⟨4, ⟨99, ap [.undef, .ptr 0 1 0, .ptr 0 2 0] (ap (un 9) (ap [.lit 1 3 [.ptr 0 1 6, .ptr 0 1 14, .ptr 0 1 21], .int .i64 3, .int .i64 2] (un 21))), aq [[], (enc27 x0), [.int .i64 x1, .int .i64 x2, .int .i64 x3, .nilS, .bool x4, .int .i64 x5, .int .i64 x6, .bool x7, .int .i64 x8, .int .i64 x9, .int .i64 x10, .nilS, .nilS, .bool x11, .int .i64 x12, .bool x13, .int .i64 x14, .int .i64 x15, .int .i64 x16, .nilS, .nilS, .int .i64 x17, .bool x18, .int .i64 x19, .int .i64 x20, .int .i64 x21, .nilS, .nilS]] (nb 33), [.code (b99 7 11), .code (b99 7 75), .inLoop (b99 6 11), .inBlock 0, .code (b99 3 7)]⟩, []⟩
noncomputable def J99_3_99_3 (x0 : End) (x1 x2 x3 : Int) (x4 : Bool) (x5 x6 : Int) (x7 : Bool) (x8 x9 x10 : Int) (x11 : Bool) (x12 : Int) (x13 : Bool) (x14 x15 x16 x17 : Int) (x18 : Bool) (x19 x20 x21 : Int) : St := ⟨4, ⟨99, ap [.undef, .ptr 0 1 0, .ptr 0 2 0] (ap (un 9) (ap [.lit 1 3 [.ptr 0 1 6, .ptr 0 1 14, .ptr 0 1 21], .int .i64 3, .int .i64 3] (un 21))), aq [[], (enc27 x0), [.int .i64 x1, .int .i64 x2, .int .i64 x3, .nilS, .bool x4, .int .i64 x5, .int .i64 x6, .bool x7, .int .i64 x8, .int .i64 x9, .int .i64 x10, .nilS, .nilS, .bool x11, .int .i64 x12, .bool x13, .int .i64 x14, .int .i64 x15, .int .i64 x16, .nilS, .nilS, .int .i64 x17, .bool x18, .int .i64 x19, .int .i64 x20, .int .i64 x21, .nilS, .nilS]] (nb 33), [.code (b99 7 11), .code (b99 7 75), .inLoop (b99 6 11), .inBlock 0, .code (b99 3 7)]⟩, []⟩
noncomputable abbrev cd99 : Cod (End) := cod27
noncomputable def tS99 (x0 : End) : Tr (End) :=
  .cond ((V125 x0.cl).isSome)
  (.go (J99_3 (⟨x0.nd, x0.pr, x0.num, F125 x0.cl, x0.opn, x0.snc, x0.ask, x0.kn, x0.lst, x0.rp⟩ : End) 0 0 0 false 0 0 false 0 0 0 false 0 false 0 0 0 0 false 0 0 0))
  (.none)
theorem eS99 (x0 : End) : vlim cd99 (S99 x0) = (tS99 x0).val cd99 C99 := Tr.val_eq 29 (fun H z => by kernel_rfl)
noncomputable def tJ99_3 (x0 : End) (x1 x2 x3 : Int) (x4 : Bool) (x5 x6 : Int) (x7 : Bool) (x8 x9 x10 : Int) (x11 : Bool) (x12 : Int) (x13 : Bool) (x14 x15 x16 x17 : Int) (x18 : Bool) (x19 x20 x21 : Int) : Tr (End) :=
  .cond ((V161 x0.ask.sp).isSome)
  (.cond ((V161 x0.ask.old).isSome)
    (.go (J99_3_99_1 (⟨x0.nd, x0.pr, x0.num, x0.cl, x0.opn, x0.snc, (⟨x0.ask.kind, x0.ask.rep, x0.ask.num, x0.ask.code, x0.ask.cnt, F161 x0.ask.sp, F161 x0.ask.old⟩ : Msg), x0.kn, x0.lst, x0.rp⟩ : End) x1 x2 x3 x4 x5 x6 x7 x8 x9 x10 x11 x12 x13 x14 x15 x16 x17 x18 x19 x20 x21))
    (.none))
  (.none)
theorem eJ99_3 (x0 : End) (x1 x2 x3 : Int) (x4 : Bool) (x5 x6 : Int) (x7 : Bool) (x8 x9 x10 : Int) (x11 : Bool) (x12 : Int) (x13 : Bool) (x14 x15 x16 x17 : Int) (x18 : Bool) (x19 x20 x21 : Int) : lv cd99 C99 (J99_3 x0 x1 x2 x3 x4 x5 x6 x7 x8 x9 x10 x11 x12 x13 x14 x15 x16 x17 x18 x19 x20 x21) = (tJ99_3 x0 x1 x2 x3 x4 x5 x6 x7 x8 x9 x10 x11 x12 x13 x14 x15 x16 x17 x18 x19 x20 x21).val cd99 C99 := Tr.lv_eq 25 (fun H z => by kernel_rfl)
noncomputable def tJ99_3_99_1 (x0 : End) (x1 x2 x3 : Int) (x4 : Bool) (x5 x6 : Int) (x7 : Bool) (x8 x9 x10 : Int) (x11 : Bool) (x12 : Int) (x13 : Bool) (x14 x15 x16 x17 : Int) (x18 : Bool) (x19 x20 x21 : Int) : Tr (End) :=
  .cond ((V161 x0.lst.sp).isSome)
  (.cond ((V161 x0.lst.old).isSome)
    (.go (J99_3_99_2 (⟨x0.nd, x0.pr, x0.num, x0.cl, x0.opn, x0.snc, x0.ask, x0.kn, (⟨x0.lst.kind, x0.lst.rep, x0.lst.num, x0.lst.code, x0.lst.cnt, F161 x0.lst.sp, F161 x0.lst.old⟩ : Msg), x0.rp⟩ : End) x1 x2 x3 x4 x5 x6 x7 x8 x9 x10 x11 x12 x13 x14 x15 x16 x17 x18 x19 x20 x21))
    (.none))
  (.none)
theorem eJ99_3_99_1 (x0 : End) (x1 x2 x3 : Int) (x4 : Bool) (x5 x6 : Int) (x7 : Bool) (x8 x9 x10 : Int) (x11 : Bool) (x12 : Int) (x13 : Bool) (x14 x15 x16 x17 : Int) (x18 : Bool) (x19 x20 x21 : Int) : lv cd99 C99 (J99_3_99_1 x0 x1 x2 x3 x4 x5 x6 x7 x8 x9 x10 x11 x12 x13 x14 x15 x16 x17 x18 x19 x20 x21) = (tJ99_3_99_1 x0 x1 x2 x3 x4 x5 x6 x7 x8 x9 x10 x11 x12 x13 x14 x15 x16 x17 x18 x19 x20 x21).val cd99 C99 := Tr.lv_eq 25 (fun H z => by kernel_rfl)
noncomputable def tJ99_3_99_2 (x0 : End) (x1 x2 x3 : Int) (x4 : Bool) (x5 x6 : Int) (x7 : Bool) (x8 x9 x10 : Int) (x11 : Bool) (x12 : Int) (x13 : Bool) (x14 x15 x16 x17 : Int) (x18 : Bool) (x19 x20 x21 : Int) : Tr (End) :=
  .cond ((V161 x0.rp.sp).isSome)
  (.cond ((V161 x0.rp.old).isSome)
    (.go (J99_3_99_3 (⟨x0.nd, x0.pr, x0.num, x0.cl, x0.opn, x0.snc, x0.ask, x0.kn, x0.lst, (⟨x0.rp.kind, x0.rp.rep, x0.rp.num, x0.rp.code, x0.rp.cnt, F161 x0.rp.sp, F161 x0.rp.old⟩ : Msg)⟩ : End) x1 x2 x3 x4 x5 x6 x7 x8 x9 x10 x11 x12 x13 x14 x15 x16 x17 x18 x19 x20 x21))
    (.none))
  (.none)
theorem eJ99_3_99_2 (x0 : End) (x1 x2 x3 : Int) (x4 : Bool) (x5 x6 : Int) (x7 : Bool) (x8 x9 x10 : Int) (x11 : Bool) (x12 : Int) (x13 : Bool) (x14 x15 x16 x17 : Int) (x18 : Bool) (x19 x20 x21 : Int) : lv cd99 C99 (J99_3_99_2 x0 x1 x2 x3 x4 x5 x6 x7 x8 x9 x10 x11 x12 x13 x14 x15 x16 x17 x18 x19 x20 x21) = (tJ99_3_99_2 x0 x1 x2 x3 x4 x5 x6 x7 x8 x9 x10 x11 x12 x13 x14 x15 x16 x17 x18 x19 x20 x21).val cd99 C99 := Tr.lv_eq 25 (fun H z => by kernel_rfl)
noncomputable def tJ99_3_99_3 (x0 : End) (x1 x2 x3 : Int) (x4 : Bool) (x5 x6 : Int) (x7 : Bool) (x8 x9 x10 : Int) (x11 : Bool) (x12 : Int) (x13 : Bool) (x14 x15 x16 x17 : Int) (x18 : Bool) (x19 x20 x21 : Int) : Tr (End) :=
  .some x0
theorem eJ99_3_99_3 (x0 : End) (x1 x2 x3 : Int) (x4 : Bool) (x5 x6 : Int) (x7 : Bool) (x8 x9 x10 : Int) (x11 : Bool) (x12 : Int) (x13 : Bool) (x14 x15 x16 x17 : Int) (x18 : Bool) (x19 x20 x21 : Int) : lv cd99 C99 (J99_3_99_3 x0 x1 x2 x3 x4 x5 x6 x7 x8 x9 x10 x11 x12 x13 x14 x15 x16 x17 x18 x19 x20 x21) = (tJ99_3_99_3 x0 x1 x2 x3 x4 x5 x6 x7 x8 x9 x10 x11 x12 x13 x14 x15 x16 x17 x18 x19 x20 x21).val cd99 C99 := Tr.lv_eq 14 (fun H z => by kernel_rfl)
noncomputable def V99 (x0 : End) : Option (End) := vlim cd99 (S99 x0)
noncomputable def F99 (x0 : End) : End := (V99 x0).getD default
noncomputable def G99 : GE := mkG [(0, some 3, .cell), (0, some 11, .spot), (0, some 12, .spot), (0, some 19, .spot), (0, some 20, .spot), (0, some 26, .spot), (0, some 27, .spot)] (cod27.a (.nil)) (fun x => V99 x.1) cd99
theorem ge99 : GeOk 99 G99 := ge_mk (C := C99) (base_ok (.cons ge125 (.cons ge161 .nil)) (.cons c99 .nil) .nil) rfl c99 (fun _ => rfl) (by kernel_rfl)
theorem c100 : CdOk 100 Tryz.f100 := ⟨by kernel_rfl, by kernel_rfl⟩
noncomputable def C100 : Cfg := base [(147, G147)] [(100, Tryz.f100)] [(100, [])] [] [] [] []
noncomputable def S100 (x0 x1 : Msg) (n : Nat) : Option AV := startK C100 n 100 Tryz.f100 [.agg (enc25 x0), .agg (enc25 x1)]
noncomputable abbrev cd100 : Cod (Bool) := codB
noncomputable def tS100 (x0 x1 : Msg) : Tr (Bool) :=
  .cond (decide (x0.kind = x1.kind))
  (.cond (x0.rep == x1.rep)
    (.cond (decide (x0.num = x1.num))
      (.cond (decide (x0.code = x1.code))
        (.cond (decide (x0.cnt = x1.cnt))
          (.cond ((V147 x0.sp x1.sp).isSome)
            (.cond (F147 x0.sp x1.sp)
              (.cond ((V147 x0.old x1.old).isSome)
                (.some (F147 x0.old x1.old))
                (.none))
              (.some false))
            (.none))
          (.some false))
        (.some false))
      (.some false))
    (.some false))
  (.some false)
theorem eS100 (x0 x1 : Msg) : vlim cd100 (S100 x0 x1) = (tS100 x0 x1).val cd100 C100 := Tr.val_eq 60 (fun H z => by kernel_rfl)
noncomputable def V100 (x0 x1 : Msg) : Option (Bool) := vlim cd100 (S100 x0 x1)
noncomputable def F100 (x0 x1 : Msg) : Bool := (V100 x0 x1).getD default
noncomputable def G100 : GE := mkG [(0, some 5, .spot), (0, some 6, .spot), (1, some 5, .spot), (1, some 6, .spot)] (cod25.a (cod25.a (.nil))) (fun x => V100 x.1 x.2.1) cd100
theorem ge100 : GeOk 100 G100 := ge_mk (C := C100) (base_ok (.cons ge147 .nil) (.cons c100 .nil) .nil) rfl c100 (fun _ => rfl) (by kernel_rfl)
theorem c237 : CdOk 237 Tryz.f237 := ⟨by kernel_rfl, by kernel_rfl⟩
noncomputable def C237 : Cfg := base [] [(237, Tryz.f237)] [(237, [])] [] [] [] []
noncomputable def S237 (x0 : Int) (n : Nat) : Option AV := startK C237 n 237 Tryz.f237 [.int .i64 x0]
noncomputable abbrev cd237 : Cod (Bool) := codB
noncomputable def tS237 (x0 : Int) : Tr (Bool) :=
  .cond (decide (x0 < 0))
  (.some true)
  (.some (decide (65536 ≤ x0)))
theorem eS237 (x0 : Int) : vlim cd237 (S237 x0) = (tS237 x0).val cd237 C237 := Tr.val_eq 17 (fun H z => by kernel_rfl)
noncomputable def V237 (x0 : Int) : Option (Bool) := vlim cd237 (S237 x0)
noncomputable def F237 (x0 : Int) : Bool := (V237 x0).getD default
noncomputable def G237 : GE := mkG [] (codI.a (.nil)) (fun x => V237 x.1) cd237
theorem ge237 : GeOk 237 G237 := ge_mk (C := C237) (base_ok .nil (.cons c237 .nil) .nil) rfl c237 (fun _ => rfl) (by kernel_rfl)
theorem c183 : CdOk 183 Tryz.f183 := ⟨by kernel_rfl, by kernel_rfl⟩
noncomputable def b183 (n p : Nat) : Code := bp n p (bodyA Tryz.f183)
theorem c236 : CdOk 236 Tryz.f236 := ⟨by kernel_rfl, by kernel_rfl⟩
noncomputable def b236 (n p : Nat) : Code := bp n p (bodyA Tryz.f236)
theorem c260 : CdOk 260 Tryz.f260 := ⟨by kernel_rfl, by kernel_rfl⟩
noncomputable def b260 (n p : Nat) : Code := bp n p (bodyA Tryz.f260)
noncomputable def C183 : Cfg := base [(237, G237)] [(183, Tryz.f183), (236, Tryz.f236), (260, Tryz.f260)] [(183, []), (236, []), (260, [(2, { drop := rs [(4, 3), (9, 10)], nt := [], nb := [] })])] [] [] [] []
noncomputable def S183 (x0 : List Int) (x1 : Int) (n : Nat) : Option AV := startK C183 n 183 Tryz.f183 [.sl .int x0 .none, .int .i64 x1]
noncomputable def J183_2_260_0 (x0 : List Int) (x1 x2 : Int) (x3 : List Int) (x4 : Bool) (x5 x6 : List Int) (x7 : Int) (x8 : Bool) (x9 : List Int) (x10 x11 : Int) (x12 x13 : Bool) (x14 : List Int) : St := ⟨3, ⟨260, ap [.sl .int x0 .none, .fn 237 [] []] (ap (un 5) (ap [.int .i64 x1, .int .i64 x2] (un 10))), nb 19, [.code (b260 6 5), .code (b260 6 37), .inLoop (b260 5 5), .inBlock 0, .code (b260 2 3)]⟩, [⟨236, ap [.sl .int x3 .none, .fn 237 [] [], .undef, .undef, .bool x4, .sl .int x5 .none, .fn 237 [] []] (un 2), nb 9, [.inRegion (opsA (b236 2 1)) (fr 2 3), .code (b236 2 3)]⟩, ⟨183, ap [.sl .int x6 .none, .int .i64 x7, .undef, .undef, .bool x8, .sl .int x9 .none, .int .i64 x10, .int .i64 x11, .bool x12, .bool x13, .sl .int x14 .none] (un 3), nb 14, [.inRegion (opsA (b183 2 1)) (fr 6 4), .code (b183 2 3)]⟩]⟩
noncomputable abbrev cd183 : Cod (Bool) := codB
noncomputable def tS183 (x0 : List Int) (x1 : Int) : Tr (Bool) :=
  .cond (decide (((x0).length : Int) = x1))
  (.go (J183_2_260_0 x0 ((x0).length : Int) 0 x0 false x0 x0 x1 false x0 ((x0).length : Int) x1 (decide (((x0).length : Int) = x1)) true x0))
  (.some false)
theorem eS183 (x0 : List Int) (x1 : Int) : vlim cd183 (S183 x0 x1) = (tS183 x0 x1).val cd183 C183 := Tr.val_eq 39 (fun H z => by kernel_rfl)
noncomputable def tJ183_2_260_0 (x0 : List Int) (x1 x2 : Int) (x3 : List Int) (x4 : Bool) (x5 x6 : List Int) (x7 : Int) (x8 : Bool) (x9 : List Int) (x10 x11 : Int) (x12 x13 : Bool) (x14 : List Int) : Tr (Bool) :=
  .cond (decide (x2 < x1))
  (.cond (ib x2 x0)
    (.cond ((V237 (nth .int x0 x2)).isSome)
      (.cond (F237 (nth .int x0 x2))
        (.cond x13
          (.some (!(decide (0 ≤ x2))))
          (.some false))
        (.cond (inR .i64 (x2 + 1))
          (.go (J183_2_260_0 x0 x1 (x2 + 1) x3 x4 x5 x6 x7 x8 x9 x10 x11 x12 x13 x14))
          (.none)))
      (.none))
    (.none))
  (.cond x13
    (.some true)
    (.some false))
theorem eJ183_2_260_0 (x0 : List Int) (x1 x2 : Int) (x3 : List Int) (x4 : Bool) (x5 x6 : List Int) (x7 : Int) (x8 : Bool) (x9 : List Int) (x10 x11 : Int) (x12 x13 : Bool) (x14 : List Int) : lv cd183 C183 (J183_2_260_0 x0 x1 x2 x3 x4 x5 x6 x7 x8 x9 x10 x11 x12 x13 x14) = (tJ183_2_260_0 x0 x1 x2 x3 x4 x5 x6 x7 x8 x9 x10 x11 x12 x13 x14).val cd183 C183 := Tr.lv_eq 40 (fun H z => by kernel_rfl)
noncomputable def V183 (x0 : List Int) (x1 : Int) : Option (Bool) := vlim cd183 (S183 x0 x1)
noncomputable def F183 (x0 : List Int) (x1 : Int) : Bool := (V183 x0 x1).getD default
noncomputable def G183 : GE := mkG [(0, none, .int)] ((codS .int).a (codI.a (.nil))) (fun x => V183 x.1 x.2.1) cd183
theorem ge183 : GeOk 183 G183 := ge_mk (C := C183) (base_ok (.cons ge237 .nil) (.cons c183 (.cons c236 (.cons c260 .nil))) .nil) rfl c183 (fun _ => rfl) (by kernel_rfl)
theorem c184 : CdOk 184 Tryz.f184 := ⟨by kernel_rfl, by kernel_rfl⟩
noncomputable def b184 (n p : Nat) : Code := bp n p (bodyA Tryz.f184)
theorem c238 : CdOk 238 Tryz.f238 := ⟨by kernel_rfl, by kernel_rfl⟩
noncomputable def C184 : Cfg := base [] [(121, Tryz.f121), (184, Tryz.f184), (198, Tryz.f198), (238, Tryz.f238)] [(121, []), (184, []), (198, [(2, { drop := rs [(4, 3), (9, 10)], nt := [], nb := [] })]), (238, [])] [] [] [] []
noncomputable def S184 (x0 : Tab) (x1 : Int) (n : Nat) : Option AV := startK C184 n 184 Tryz.f184 [.agg (enc29 x0), .int .i64 x1]
noncomputable def J184_2_198_0 (x0 : List Cell) (x1 x2 : Int) (x3 : List Cell) (x4 : Bool) (x5 : List Cell) (x6 : Tab) (x7 : Int) (x8 : Bool) (x9 : List Cell) (x10 : Tab) (x11 : Int) : St := ⟨3, ⟨198, ap [.sl .cell x0 .none, .fn 238 [] [.ptr 2 3 0]] (ap (un 5) (ap [.int .i64 x1, .int .i64 x2] (un 10))), nb 19, [.code (b198 6 5), .code (b198 6 37), .inLoop (b198 5 5), .inBlock 0, .code (b198 2 3)]⟩, [⟨121, ap [.sl .cell x3 .none, .fn 238 [] [.ptr 1 3 0], .undef, .undef, .bool x4, .sl .cell x5 .none, .fn 238 [] [.ptr 1 3 0]] (un 2), nb 9, [.inRegion (opsA (b121 2 1)) (fr 2 3), .code (b121 2 3)]⟩, ⟨184, ap [.agg (enc29 x6), .int .i64 x7, .ptr 0 2 0, .ptr 0 3 0, .bool x8, .ptr 0 2 2, .sl .cell x9 .none, .fn 238 [] [.ptr 0 3 0]] (un 1), aq [[], [], (enc29 x10), [.int .i64 x11]] (nb 5), [.inRegion (opsA (b184 2 1)) (fr 3 2), .code (b184 2 3)]⟩]⟩
noncomputable abbrev cd184 : Cod (Bool) := codB
noncomputable def tS184 (x0 : Tab) (x1 : Int) : Tr (Bool) :=
  .go (J184_2_198_0 x0.cl ((x0.cl).length : Int) 0 x0.cl false x0.cl x0 x1 false x0.cl x0 x1)
theorem eS184 (x0 : Tab) (x1 : Int) : vlim cd184 (S184 x0 x1) = (tS184 x0 x1).val cd184 C184 := Tr.val_eq 38 (fun H z => by kernel_rfl)
noncomputable def tJ184_2_198_0 (x0 : List Cell) (x1 x2 : Int) (x3 : List Cell) (x4 : Bool) (x5 : List Cell) (x6 : Tab) (x7 : Int) (x8 : Bool) (x9 : List Cell) (x10 : Tab) (x11 : Int) : Tr (Bool) :=
  .cond (decide (x2 < x1))
  (.cond (ib x2 x0)
    (.cond (decide (((nth .cell x0 x2).slot) = x11))
      (.some (decide (0 ≤ x2)))
      (.cond (inR .i64 (x2 + 1))
        (.go (J184_2_198_0 x0 x1 (x2 + 1) x3 x4 x5 x6 x7 x8 x9 x10 x11))
        (.none)))
    (.none))
  (.some false)
theorem eJ184_2_198_0 (x0 : List Cell) (x1 x2 : Int) (x3 : List Cell) (x4 : Bool) (x5 : List Cell) (x6 : Tab) (x7 : Int) (x8 : Bool) (x9 : List Cell) (x10 : Tab) (x11 : Int) : lv cd184 C184 (J184_2_198_0 x0 x1 x2 x3 x4 x5 x6 x7 x8 x9 x10 x11) = (tJ184_2_198_0 x0 x1 x2 x3 x4 x5 x6 x7 x8 x9 x10 x11).val cd184 C184 := Tr.lv_eq 52 (fun H z => by kernel_rfl)
noncomputable def V184 (x0 : Tab) (x1 : Int) : Option (Bool) := vlim cd184 (S184 x0 x1)
noncomputable def F184 (x0 : Tab) (x1 : Int) : Bool := (V184 x0 x1).getD default
noncomputable def G184 : GE := mkG [(0, some 2, .cell)] (cod29.a (codI.a (.nil))) (fun x => V184 x.1 x.2.1) cd184
theorem ge184 : GeOk 184 G184 := ge_mk (C := C184) (base_ok .nil (.cons c121 (.cons c184 (.cons c198 (.cons c238 .nil)))) .nil) rfl c184 (fun _ => rfl) (by kernel_rfl)
theorem c101 : CdOk 101 Tryz.f101 := ⟨by kernel_rfl, by kernel_rfl⟩
noncomputable def b101 (n p : Nat) : Code := bp n p (bodyA Tryz.f101)
noncomputable def C101 : Cfg := base [(48, G48), (183, G183), (184, G184)] [(101, Tryz.f101)] [(101, [(2, { drop := rs [(0, 4), (5, 51)], nt := [], nb := [] }), (3, { drop := rs [(0, 1), (2, 1), (6, 50)], nt := [], nb := [] })])] [] [] [] []
noncomputable def S101 (x0 : Tab) (x1 : List Int) (x2 : Spot) (n : Nat) : Option AV := startK C101 n 101 Tryz.f101 [.agg (enc29 x0), .sl .int x1 .none, .agg (ST.row .spot x2)]
noncomputable def J101_2 : St := ⟨3, ⟨101, un 56, nb 56, [.code (b101 5 5), .code (b101 5 21), .code (b101 2 3)]⟩, []⟩
noncomputable def J101_3 (x0 : List Int) (x1 : Tab) (x2 : Spot) : St := ⟨4, ⟨101, ap [.undef, .sl .int x0 .none, .undef, .ptr 0 3 0, .undef, .ptr 0 5 0] (un 50), aq (nb 3) (aq [(enc29 x1), [], [.int .i64 x2.sslot, .int .i64 x2.soffset]] (nb 50)), [.code (b101 3 3), .code (b101 3 7)]⟩, []⟩
noncomputable abbrev cd101 : Cod (Bool) := codB
noncomputable def tS101 (x0 : Tab) (x1 : List Int) (x2 : Spot) : Tr (Bool) :=
  .cond ((V48 x0).isSome)
  (.cond (!(decide ((F48 x0) = 0)))
    (.go J101_2)
    (.cond ((V183 x1 x0.len).isSome)
      (.cond (!(F183 x1 x0.len))
        (.go J101_2)
        (.cond (decide (x2.sslot < 0))
          (.go J101_2)
          (.cond (decide (x0.len ≤ x2.sslot))
            (.go J101_2)
            (.cond (decide (x2.soffset < 0))
              (.go J101_2)
              (.cond (decide (16 ≤ x2.soffset))
                (.go J101_2)
                (.go (J101_3 x1 x0 x2)))))))
      (.none)))
  (.none)
theorem eS101 (x0 : Tab) (x1 : List Int) (x2 : Spot) : vlim cd101 (S101 x0 x1 x2) = (tS101 x0 x1 x2).val cd101 C101 := Tr.val_eq 48 (fun H z => by kernel_rfl)
noncomputable def tJ101_2 : Tr (Bool) :=
  .some false
theorem eJ101_2 : lv cd101 C101 (J101_2) = (tJ101_2).val cd101 C101 := Tr.lv_eq 6 (fun H z => by kernel_rfl)
noncomputable def tJ101_3 (x0 : List Int) (x1 : Tab) (x2 : Spot) : Tr (Bool) :=
  .cond (ib x2.sslot x0)
  (.cond (decide (0 ≤ x2.soffset))
    (.cond (decide ((andI .i64 (shrI .i64 (nth .int x0 x2.sslot) x2.soffset) 1) = 1))
      (.cond ((V184 x1 x2.sslot).isSome)
        (.some (!(F184 x1 x2.sslot)))
        (.none))
      (.some false))
    (.none))
  (.none)
theorem eJ101_3 (x0 : List Int) (x1 : Tab) (x2 : Spot) : lv cd101 C101 (J101_3 x0 x1 x2) = (tJ101_3 x0 x1 x2).val cd101 C101 := Tr.lv_eq 4 (fun H z => by kernel_rfl)
noncomputable def V101 (x0 : Tab) (x1 : List Int) (x2 : Spot) : Option (Bool) := vlim cd101 (S101 x0 x1 x2)
noncomputable def F101 (x0 : Tab) (x1 : List Int) (x2 : Spot) : Bool := (V101 x0 x1 x2).getD default
noncomputable def G101 : GE := mkG [(0, some 2, .cell), (1, none, .int)] (cod29.a ((codS .int).a ((codE .spot).a (.nil)))) (fun x => V101 x.1 x.2.1 x.2.2.1) cd101
theorem ge101 : GeOk 101 G101 := ge_mk (C := C101) (base_ok (.cons ge48 (.cons ge183 (.cons ge184 .nil))) (.cons c101 .nil) .nil) rfl c101 (fun _ => rfl) (by kernel_rfl)
theorem c186 : CdOk 186 Tryz.f186 := ⟨by kernel_rfl, by kernel_rfl⟩
noncomputable def C186 : Cfg := base [] [(186, Tryz.f186)] [(186, [])] [] [] [] []
noncomputable def S186 (x0 : Cell) (n : Nat) : Option AV := startK C186 n 186 Tryz.f186 [.agg (ST.row .cell x0)]
noncomputable abbrev cd186 : Cod (Spot) := (codE .spot)
noncomputable def tS186 (x0 : Cell) : Tr (Spot) :=
  .some (⟨x0.slot, x0.offset⟩ : Spot)
theorem eS186 (x0 : Cell) : vlim cd186 (S186 x0) = (tS186 x0).val cd186 C186 := Tr.val_eq 17 (fun H z => by kernel_rfl)
noncomputable def V186 (x0 : Cell) : Option (Spot) := vlim cd186 (S186 x0)
noncomputable def F186 (x0 : Cell) : Spot := (V186 x0).getD default
noncomputable def G186 : GE := mkG [] ((codE .cell).a (.nil)) (fun x => V186 x.1) cd186
theorem ge186 : GeOk 186 G186 := ge_mk (C := C186) (base_ok .nil (.cons c186 .nil) .nil) rfl c186 (fun _ => rfl) (by kernel_rfl)
theorem c120 : CdOk 120 Tryz.f120 := ⟨by kernel_rfl, by kernel_rfl⟩
noncomputable def b120 (n p : Nat) : Code := bp n p (bodyA Tryz.f120)
theorem c194 : CdOk 194 Tryz.f194 := ⟨by kernel_rfl, by kernel_rfl⟩
noncomputable def C120 : Cfg := base [(186, G186), (195, G195)] [(120, Tryz.f120), (193, Tryz.f193), (194, Tryz.f194), (198, Tryz.f198)] [(120, [(3, { drop := rs [(0, 3), (5, 1), (10, 7), (20, 21)], nt := [], nb := [(4, 3, .cell, 34)] })]), (193, [(5, { drop := rs [(4, 1), (7, 35)], nt := [], nb := [] }), (6, { drop := rs [(4, 1), (7, 35)], nt := [], nb := [] })]), (194, []), (198, [(2, { drop := rs [(4, 3), (9, 10)], nt := [], nb := [] })])] [(15, 34)] [] [(0, some 3, .cell), (0, some 11, .spot), (0, some 12, .spot), (0, some 19, .spot), (0, some 20, .spot), (0, some 26, .spot), (0, some 27, .spot)] [(125, L125), (196, L196)]
noncomputable def S120 (x0 : End) (x1 x2 : List Spot) (x3 : Bool) (n : Nat) : Option AV := startK C120 n 120 Tryz.f120 [.agg (enc27 x0), .sl .spot x1 .none, .sl .spot x2 .none, .bool x3]
noncomputable def J120_2_198_0 (x0 : List Cell) (x1 x2 : Int) (x3 x4 : List Cell) (x5 : End) (x6 x7 : List Spot) (x8 : Bool) (x9 x10 : List Cell) (x11 : End) (x12 : List Spot) (x13 x14 x15 : Int) (x16 : Bool) (x17 x18 : Int) (x19 : Bool) (x20 x21 x22 : Int) (x23 : Bool) (x24 : Int) (x25 : Bool) (x26 x27 x28 x29 : Int) (x30 : Bool) (x31 x32 x33 : Int) : St := ⟨3, ⟨198, ap [.os .cell x0 13, .fn 194 [] [.ptr 2 5 0]] (ap (un 5) (ap [.int .i64 x1, .int .i64 x2] (un 10))), nb 19, [.code (b198 6 5), .code (b198 6 37), .inLoop (b198 5 5), .inBlock 0, .code (b198 2 3)]⟩, [⟨193, ap [.os .cell x3 13, .fn 194 [] [.ptr 1 5 0], .undef, .undef, .nilS] (ap (un 3) (ap [.os .cell x4 13, .fn 194 [] [.ptr 1 5 0]] (un 32))), nb 42, [.inRegion (opsA (b193 2 1)) (fr 2 2), .code (b193 2 3)]⟩, ⟨120, ap [.agg (enc27 x5), .sl .spot x6 .none, .sl .spot x7 .none, .bool x8, .ptr 0 4 0, .ptr 0 5 0, .undef, .undef, .ptr 0 8 0, .undef, .undef, .ptr 0 4 3, .sl .cell x9 .none, .os .cell x10 13, .fn 194 [] [.ptr 0 5 0]] (un 26), aq (nb 4) (aq [(enc27 x11), [.sl .spot x12 .none], [], [], [.int .i64 x13, .int .i64 x14, .int .i64 x15, .nilS, .bool x16, .int .i64 x17, .int .i64 x18, .bool x19, .int .i64 x20, .int .i64 x21, .int .i64 x22, .nilS, .nilS, .bool x23, .int .i64 x24, .bool x25, .int .i64 x26, .int .i64 x27, .int .i64 x28, .nilS, .nilS, .int .i64 x29, .bool x30, .int .i64 x31, .int .i64 x32, .int .i64 x33, .nilS, .nilS]] (nb 32)), [.inRegion (opsA (b120 2 1)) (fr 4 3), .code (b120 2 3)]⟩]⟩
noncomputable def J120_3 (x0 : Bool) (x1 : List Spot) (x2 x3 x4 x5 x6 : Int) (x7 : List Cell) (x8 : Bool) (x9 : Int) (x10 : Msg) (x11 : Bool) (x12 x13 : Msg) (x14 x15 x16 : Int) (x17 : Bool) (x18 x19 : Int) (x20 : Bool) (x21 x22 x23 : Int) (x24 : Bool) (x25 : Int) (x26 : Bool) (x27 x28 x29 x30 : Int) (x31 : Bool) (x32 x33 x34 : Int) : St := ⟨4, ⟨120, ap (un 3) (ap [.bool x0, .ptr 0 4 0] (ap (un 3) (ap [.ptr 0 8 0] (ap (un 8) (ap [.sl .spot x1 .none, .int .i64 x2, .int .i64 x3] (un 21)))))), aq (nb 4) (aq [(ap [.int .i64 x4, .int .i64 x5, .int .i64 x6, .os .cell x7 13, .bool x8, .int .i64 x9] (ap ((enc25 x10)) (ap [.bool x11] (ap ((enc25 x12)) ((enc25 x13))))))] (aq (nb 3) (aq [[.int .i64 x14, .int .i64 x15, .int .i64 x16, .nilS, .bool x17, .int .i64 x18, .int .i64 x19, .bool x20, .int .i64 x21, .int .i64 x22, .int .i64 x23, .nilS, .nilS, .bool x24, .int .i64 x25, .bool x26, .int .i64 x27, .int .i64 x28, .int .i64 x29, .nilS, .nilS, .int .i64 x30, .bool x31, .int .i64 x32, .int .i64 x33, .int .i64 x34, .nilS, .nilS]] (nb 32)))), [.code (b120 7 11), .code (b120 7 75), .inLoop (b120 6 11), .inBlock 0, .code (b120 3 7)]⟩, []⟩
noncomputable def J120_5_193_0 (x0 : List Cell) (x1 x2 : Int) (x3 : End) (x4 x5 : List Spot) (x6 : Bool) (x7 x8 : List Cell) (x9 : End) (x10 : List Spot) (x11 x12 x13 : Int) (x14 : Bool) (x15 x16 : Int) (x17 : Bool) (x18 x19 x20 : Int) (x21 : Bool) (x22 : Int) (x23 : Bool) (x24 x25 x26 x27 : Int) (x28 : Bool) (x29 x30 x31 : Int) : St := ⟨6, ⟨193, ap [.os .cell x0 13, .fn 194 [] [.ptr 1 5 0]] (ap (un 3) (ap [.int .i64 x1, .int .i64 x2] (un 35))), nb 42, [.code (b193 9 23), .code (b193 9 279), .code (b193 8 151), .inLoop (b193 7 23), .inBlock 0, .code (b193 4 15)]⟩, [⟨120, ap [.agg (enc27 x3), .sl .spot x4 .none, .sl .spot x5 .none, .bool x6, .ptr 0 4 0, .ptr 0 5 0, .undef, .undef, .ptr 0 8 0, .undef, .undef, .ptr 0 4 3, .sl .cell x7 .none, .os .cell x8 13, .fn 194 [] [.ptr 0 5 0]] (un 26), aq (nb 4) (aq [(enc27 x9), [.sl .spot x10 .none], [], [], [.int .i64 x11, .int .i64 x12, .int .i64 x13, .nilS, .bool x14, .int .i64 x15, .int .i64 x16, .bool x17, .int .i64 x18, .int .i64 x19, .int .i64 x20, .nilS, .nilS, .bool x21, .int .i64 x22, .bool x23, .int .i64 x24, .int .i64 x25, .int .i64 x26, .nilS, .nilS, .int .i64 x27, .bool x28, .int .i64 x29, .int .i64 x30, .int .i64 x31, .nilS, .nilS]] (nb 32)), [.inRegion (opsA (b120 2 1)) (fr 4 3), .code (b120 2 3)]⟩]⟩
noncomputable def J120_6_193_0 (x0 : List Cell) (x1 x2 : Int) (x3 : End) (x4 x5 : List Spot) (x6 : Bool) (x7 x8 : List Cell) (x9 : End) (x10 : List Spot) (x11 x12 x13 : Int) (x14 : Bool) (x15 x16 : Int) (x17 : Bool) (x18 x19 x20 : Int) (x21 : Bool) (x22 : Int) (x23 : Bool) (x24 x25 x26 x27 : Int) (x28 : Bool) (x29 x30 x31 : Int) : St := ⟨7, ⟨193, ap [.os .cell x0 13, .fn 194 [] [.ptr 1 5 0]] (ap (un 3) (ap [.int .i64 x1, .int .i64 x2] (un 35))), nb 42, [.code (b193 9 407), .inLoop (b193 7 23), .inBlock 0, .code (b193 4 15)]⟩, [⟨120, ap [.agg (enc27 x3), .sl .spot x4 .none, .sl .spot x5 .none, .bool x6, .ptr 0 4 0, .ptr 0 5 0, .undef, .undef, .ptr 0 8 0, .undef, .undef, .ptr 0 4 3, .sl .cell x7 .none, .os .cell x8 13, .fn 194 [] [.ptr 0 5 0]] (un 26), aq (nb 4) (aq [(enc27 x9), [.sl .spot x10 .none], [], [], [.int .i64 x11, .int .i64 x12, .int .i64 x13, .nilS, .bool x14, .int .i64 x15, .int .i64 x16, .bool x17, .int .i64 x18, .int .i64 x19, .int .i64 x20, .nilS, .nilS, .bool x21, .int .i64 x22, .bool x23, .int .i64 x24, .int .i64 x25, .int .i64 x26, .nilS, .nilS, .int .i64 x27, .bool x28, .int .i64 x29, .int .i64 x30, .int .i64 x31, .nilS, .nilS]] (nb 32)), [.inRegion (opsA (b120 2 1)) (fr 4 3), .code (b120 2 3)]⟩]⟩
noncomputable abbrev cd120 : Cod (End) := cod27
noncomputable def tS120 (x0 : End) (x1 x2 : List Spot) (x3 : Bool) : Tr (End) :=
  .cond (decide ((x0.cl).length * 48 ≤ 70368744177664))
  (.go (J120_2_198_0 x0.cl ((x0.cl).length : Int) 0 x0.cl x0.cl x0 x1 x2 x3 x0.cl x0.cl x0 x1 0 0 0 false 0 0 false 0 0 0 false 0 false 0 0 0 0 false 0 0 0))
  (.none)
theorem eS120 (x0 : End) (x1 x2 : List Spot) (x3 : Bool) : vlim cd120 (S120 x0 x1 x2 x3) = (tS120 x0 x1 x2 x3).val cd120 C120 := Tr.val_eq 39 (fun H z => by kernel_rfl)
noncomputable def tJ120_2_198_0 (x0 : List Cell) (x1 x2 : Int) (x3 x4 : List Cell) (x5 : End) (x6 x7 : List Spot) (x8 : Bool) (x9 x10 : List Cell) (x11 : End) (x12 : List Spot) (x13 x14 x15 : Int) (x16 : Bool) (x17 x18 : Int) (x19 : Bool) (x20 x21 x22 : Int) (x23 : Bool) (x24 : Int) (x25 : Bool) (x26 x27 x28 x29 : Int) (x30 : Bool) (x31 x32 x33 : Int) : Tr (End) :=
  .cond (decide (x2 < x1))
  (.cond (ib x2 x0)
    (.cond ((V186 (x0.getD x2.toNat (ST.dflt .cell))).isSome)
      (.cond ((V195 x12 (F186 (x0.getD x2.toNat (ST.dflt .cell)))).isSome)
        (.cond (F195 x12 (F186 (x0.getD x2.toNat (ST.dflt .cell))))
          (.cond (decide (x2 = (-1)))
            (.go (J120_3 x8 x7 ((x7).length : Int) 0 x11.nd x11.pr x11.num x3 x11.opn x11.snc x11.ask x11.kn x11.lst x11.rp x13 x14 x15 x16 x17 x18 x19 x20 x21 x22 x23 x24 x25 x26 x27 x28 x29 x30 x31 x32 x33))
            (.cond (inR .i64 (x2 + 1))
              (.go (J120_5_193_0 x3 x2 (x2 + 1) x5 x6 x7 x8 x9 x10 x11 x12 x13 x14 x15 x16 x17 x18 x19 x20 x21 x22 x23 x24 x25 x26 x27 x28 x29 x30 x31 x32 x33))
              (.none)))
          (.cond (inR .i64 (x2 + 1))
            (.go (J120_2_198_0 x0 x1 (x2 + 1) x3 x4 x5 x6 x7 x8 x9 x10 x11 x12 x13 x14 x15 x16 x17 x18 x19 x20 x21 x22 x23 x24 x25 x26 x27 x28 x29 x30 x31 x32 x33))
            (.none)))
        (.none))
      (.none))
    (.none))
  (.go (J120_3 x8 x7 ((x7).length : Int) 0 x11.nd x11.pr x11.num x3 x11.opn x11.snc x11.ask x11.kn x11.lst x11.rp x13 x14 x15 x16 x17 x18 x19 x20 x21 x22 x23 x24 x25 x26 x27 x28 x29 x30 x31 x32 x33))
theorem eJ120_2_198_0 (x0 : List Cell) (x1 x2 : Int) (x3 x4 : List Cell) (x5 : End) (x6 x7 : List Spot) (x8 : Bool) (x9 x10 : List Cell) (x11 : End) (x12 : List Spot) (x13 x14 x15 : Int) (x16 : Bool) (x17 x18 : Int) (x19 : Bool) (x20 x21 x22 : Int) (x23 : Bool) (x24 : Int) (x25 : Bool) (x26 x27 x28 x29 : Int) (x30 : Bool) (x31 x32 x33 : Int) : lv cd120 C120 (J120_2_198_0 x0 x1 x2 x3 x4 x5 x6 x7 x8 x9 x10 x11 x12 x13 x14 x15 x16 x17 x18 x19 x20 x21 x22 x23 x24 x25 x26 x27 x28 x29 x30 x31 x32 x33) = (tJ120_2_198_0 x0 x1 x2 x3 x4 x5 x6 x7 x8 x9 x10 x11 x12 x13 x14 x15 x16 x17 x18 x19 x20 x21 x22 x23 x24 x25 x26 x27 x28 x29 x30 x31 x32 x33).val cd120 C120 := Tr.lv_eq 68 (fun H z => by kernel_rfl)
noncomputable def tJ120_3 (x0 : Bool) (x1 : List Spot) (x2 x3 x4 x5 x6 : Int) (x7 : List Cell) (x8 : Bool) (x9 : Int) (x10 : Msg) (x11 : Bool) (x12 x13 : Msg) (x14 x15 x16 : Int) (x17 : Bool) (x18 x19 : Int) (x20 : Bool) (x21 x22 x23 : Int) (x24 : Bool) (x25 : Int) (x26 : Bool) (x27 x28 x29 x30 : Int) (x31 : Bool) (x32 x33 x34 : Int) : Tr (End) :=
  .cond (decide (x3 < x2))
  (.cond (ib x3 x1)
    (.cond (il x7 ([(⟨(nth .spot x1 x3).sslot, (nth .spot x1 x3).soffset, 2, x0, x5, (-1)⟩ : Cell)] : List Cell) 48)
      (.cond (inR .i64 (x3 + 1))
        (.go (J120_3 x0 x1 x2 (x3 + 1) x4 x5 x6 (x7 ++ ([(⟨(nth .spot x1 x3).sslot, (nth .spot x1 x3).soffset, 2, x0, x5, (-1)⟩ : Cell)] : List Cell)) x8 x9 x10 x11 x12 x13 x14 x15 x16 x17 x18 x19 x20 x21 x22 x23 x24 x25 x26 x27 x28 x29 x30 x31 x32 x33 x34))
        (.none))
      (.none))
    (.none))
  (.cond (P196 x7)
    (.some (⟨x4, x5, x6, sortC x7, x8, x9, x10, x11, x12, x13⟩ : End))
    (.none))
theorem eJ120_3 (x0 : Bool) (x1 : List Spot) (x2 x3 x4 x5 x6 : Int) (x7 : List Cell) (x8 : Bool) (x9 : Int) (x10 : Msg) (x11 : Bool) (x12 x13 : Msg) (x14 x15 x16 : Int) (x17 : Bool) (x18 x19 : Int) (x20 : Bool) (x21 x22 x23 : Int) (x24 : Bool) (x25 : Int) (x26 : Bool) (x27 x28 x29 x30 : Int) (x31 : Bool) (x32 x33 x34 : Int) : lv cd120 C120 (J120_3 x0 x1 x2 x3 x4 x5 x6 x7 x8 x9 x10 x11 x12 x13 x14 x15 x16 x17 x18 x19 x20 x21 x22 x23 x24 x25 x26 x27 x28 x29 x30 x31 x32 x33 x34) = (tJ120_3 x0 x1 x2 x3 x4 x5 x6 x7 x8 x9 x10 x11 x12 x13 x14 x15 x16 x17 x18 x19 x20 x21 x22 x23 x24 x25 x26 x27 x28 x29 x30 x31 x32 x33 x34).val cd120 C120 := Tr.lv_eq 41 (fun H z => by kernel_rfl)
noncomputable def tJ120_5_193_0 (x0 : List Cell) (x1 x2 : Int) (x3 : End) (x4 x5 : List Spot) (x6 : Bool) (x7 x8 : List Cell) (x9 : End) (x10 : List Spot) (x11 x12 x13 : Int) (x14 : Bool) (x15 x16 : Int) (x17 : Bool) (x18 x19 x20 : Int) (x21 : Bool) (x22 : Int) (x23 : Bool) (x24 x25 x26 x27 : Int) (x28 : Bool) (x29 x30 x31 : Int) : Tr (End) :=
  .cond (decide (x2 < ((x0).length : Int)))
  (.cond (ib x2 x0)
    (.cond ((V186 (x0.getD x2.toNat (ST.dflt .cell))).isSome)
      (.cond ((V195 x10 (F186 (x0.getD x2.toNat (ST.dflt .cell)))).isSome)
        (.cond (!(F195 x10 (F186 (x0.getD x2.toNat (ST.dflt .cell)))))
          (.cond (ib x1 x0)
            (.cond (inR .i64 (x1 + 1))
              (.go (J120_6_193_0 (x0.set x1.toNat (x0.getD x2.toNat (ST.dflt .cell))) (x1 + 1) x2 x3 x4 x5 x6 x7 (x0.set x1.toNat (x0.getD x2.toNat (ST.dflt .cell))) x9 x10 x11 x12 x13 x14 x15 x16 x17 x18 x19 x20 x21 x22 x23 x24 x25 x26 x27 x28 x29 x30 x31))
              (.none))
            (.none))
          (.go (J120_6_193_0 x0 x1 x2 x3 x4 x5 x6 x7 x8 x9 x10 x11 x12 x13 x14 x15 x16 x17 x18 x19 x20 x21 x22 x23 x24 x25 x26 x27 x28 x29 x30 x31)))
        (.none))
      (.none))
    (.none))
  (.cond (ic x1 x0)
    (.cond (ic x1 (x0.take x1.toNat ++ List.replicate (x0.length - x1.toNat) (ST.dflt .cell)))
      (.go (J120_3 x6 x5 ((x5).length : Int) 0 x9.nd x9.pr x9.num ((x0.take x1.toNat ++ List.replicate (x0.length - x1.toNat) (ST.dflt .cell)).take x1.toNat) x9.opn x9.snc x9.ask x9.kn x9.lst x9.rp x11 x12 x13 x14 x15 x16 x17 x18 x19 x20 x21 x22 x23 x24 x25 x26 x27 x28 x29 x30 x31))
      (.none))
    (.none))
theorem eJ120_5_193_0 (x0 : List Cell) (x1 x2 : Int) (x3 : End) (x4 x5 : List Spot) (x6 : Bool) (x7 x8 : List Cell) (x9 : End) (x10 : List Spot) (x11 x12 x13 : Int) (x14 : Bool) (x15 x16 : Int) (x17 : Bool) (x18 x19 x20 : Int) (x21 : Bool) (x22 : Int) (x23 : Bool) (x24 x25 x26 x27 : Int) (x28 : Bool) (x29 x30 x31 : Int) : lv cd120 C120 (J120_5_193_0 x0 x1 x2 x3 x4 x5 x6 x7 x8 x9 x10 x11 x12 x13 x14 x15 x16 x17 x18 x19 x20 x21 x22 x23 x24 x25 x26 x27 x28 x29 x30 x31) = (tJ120_5_193_0 x0 x1 x2 x3 x4 x5 x6 x7 x8 x9 x10 x11 x12 x13 x14 x15 x16 x17 x18 x19 x20 x21 x22 x23 x24 x25 x26 x27 x28 x29 x30 x31).val cd120 C120 := Tr.lv_eq 52 (fun H z => by kernel_rfl)
noncomputable def tJ120_6_193_0 (x0 : List Cell) (x1 x2 : Int) (x3 : End) (x4 x5 : List Spot) (x6 : Bool) (x7 x8 : List Cell) (x9 : End) (x10 : List Spot) (x11 x12 x13 : Int) (x14 : Bool) (x15 x16 : Int) (x17 : Bool) (x18 x19 x20 : Int) (x21 : Bool) (x22 : Int) (x23 : Bool) (x24 x25 x26 x27 : Int) (x28 : Bool) (x29 x30 x31 : Int) : Tr (End) :=
  .cond (inR .i64 (x2 + 1))
  (.go (J120_5_193_0 x0 x1 (x2 + 1) x3 x4 x5 x6 x7 x8 x9 x10 x11 x12 x13 x14 x15 x16 x17 x18 x19 x20 x21 x22 x23 x24 x25 x26 x27 x28 x29 x30 x31))
  (.none)
theorem eJ120_6_193_0 (x0 : List Cell) (x1 x2 : Int) (x3 : End) (x4 x5 : List Spot) (x6 : Bool) (x7 x8 : List Cell) (x9 : End) (x10 : List Spot) (x11 x12 x13 : Int) (x14 : Bool) (x15 x16 : Int) (x17 : Bool) (x18 x19 x20 : Int) (x21 : Bool) (x22 : Int) (x23 : Bool) (x24 x25 x26 x27 : Int) (x28 : Bool) (x29 x30 x31 : Int) : lv cd120 C120 (J120_6_193_0 x0 x1 x2 x3 x4 x5 x6 x7 x8 x9 x10 x11 x12 x13 x14 x15 x16 x17 x18 x19 x20 x21 x22 x23 x24 x25 x26 x27 x28 x29 x30 x31) = (tJ120_6_193_0 x0 x1 x2 x3 x4 x5 x6 x7 x8 x9 x10 x11 x12 x13 x14 x15 x16 x17 x18 x19 x20 x21 x22 x23 x24 x25 x26 x27 x28 x29 x30 x31).val cd120 C120 := Tr.lv_eq 11 (fun H z => by kernel_rfl)
noncomputable def V120 (x0 : End) (x1 x2 : List Spot) (x3 : Bool) : Option (End) := vlim cd120 (S120 x0 x1 x2 x3)
noncomputable def F120 (x0 : End) (x1 x2 : List Spot) (x3 : Bool) : End := (V120 x0 x1 x2 x3).getD default
noncomputable def G120 : GE := mkG [(0, some 3, .cell), (0, some 11, .spot), (0, some 12, .spot), (0, some 19, .spot), (0, some 20, .spot), (0, some 26, .spot), (0, some 27, .spot), (1, none, .spot), (2, none, .spot)] (cod27.a ((codS .spot).a ((codS .spot).a (codB.a (.nil))))) (fun x => V120 x.1 x.2.1 x.2.2.1 x.2.2.2.1) cd120
theorem ge120 : GeOk 120 G120 := ge_mk (C := C120) (base_ok (.cons ge186 (.cons ge195 .nil)) (.cons c120 (.cons c193 (.cons c194 (.cons c198 .nil)))) (.cons le125 (.cons le196 .nil))) rfl c120 (fun _ => rfl) (by kernel_rfl)
theorem c107 : CdOk 107 Tryz.f107 := ⟨by kernel_rfl, by kernel_rfl⟩
noncomputable def b107 (n p : Nat) : Code := bp n p (bodyA Tryz.f107)
noncomputable def C107 : Cfg := base [(47, G47), (96, G96), (161, G161)] [(107, Tryz.f107)] [(107, [(2, { drop := rs [(0, 5), (9, 26)], nt := [], nb := [] }), (3, { drop := rs [(0, 1), (9, 26)], nt := [], nb := [] })])] [] [] [(0, some 5, .spot), (0, some 6, .spot)] []
noncomputable def S107 (x0 : Msg) (x1 : Int) (x2 x3 : List Spot) (n : Nat) : Option AV := startK C107 n 107 Tryz.f107 [.agg (enc25 x0), .int .i64 x1, .sl .spot x2 .none, .sl .spot x3 .none]
noncomputable def J107_2 (x0 : Int) (x1 : Bool) (x2 x3 x4 : Int) : St := ⟨3, ⟨107, ap (un 8) (ap [.ptr 0 8 0] (un 26)), aq (nb 8) (aq [[.int .i64 x0, .bool x1, .int .i64 x2, .int .i64 x3, .int .i64 x4, .nilS, .nilS]] (nb 26)), [.code (b107 5 5), .code (b107 5 21), .code (b107 2 3)]⟩, []⟩
noncomputable def J107_3 (x0 : Int) (x1 x2 : List Spot) (x3 : Msg) (x4 : Int) (x5 : Bool) (x6 x7 x8 : Int) : St := ⟨4, ⟨107, ap [.undef, .int .i64 x0, .sl .spot x1 .none, .sl .spot x2 .none, .ptr 0 4 0] (ap (un 3) (ap [.ptr 0 8 0] (un 26))), aq (nb 4) (aq [(enc25 x3)] (aq (nb 3) (aq [[.int .i64 x4, .bool x5, .int .i64 x6, .int .i64 x7, .int .i64 x8, .nilS, .nilS]] (nb 26)))), [.code (b107 3 3), .code (b107 3 7)]⟩, []⟩
noncomputable abbrev cd107 : Cod (Msg × Int) := (codT2 cod25 codI)
noncomputable def tS107 (x0 : Msg) (x1 : Int) (x2 x3 : List Spot) : Tr (Msg × Int) :=
  .cond ((V96 x0).isSome)
  (.cond (!(decide ((F96 x0) = 0)))
    (.go (J107_2 0 false 0 0 0))
    (.cond x0.rep
      (.go (J107_2 0 false 0 0 0))
      (.go (J107_3 x1 x2 x3 x0 0 false 0 0 0))))
  (.none)
theorem eS107 (x0 : Msg) (x1 : Int) (x2 x3 : List Spot) : vlim cd107 (S107 x0 x1 x2 x3) = (tS107 x0 x1 x2 x3).val cd107 C107 := Tr.val_eq 23 (fun H z => by kernel_rfl)
noncomputable def tJ107_2 (x0 : Int) (x1 : Bool) (x2 x3 x4 : Int) : Tr (Msg × Int) :=
  .some ((⟨0, false, 0, 0, 0, ([] : List Spot), ([] : List Spot)⟩ : Msg), 1)
theorem eJ107_2 (x0 : Int) (x1 : Bool) (x2 x3 x4 : Int) : lv cd107 C107 (J107_2 x0 x1 x2 x3 x4) = (tJ107_2 x0 x1 x2 x3 x4).val cd107 C107 := Tr.lv_eq 8 (fun H z => by kernel_rfl)
noncomputable def tJ107_3 (x0 : Int) (x1 x2 : List Spot) (x3 : Msg) (x4 : Int) (x5 : Bool) (x6 x7 x8 : Int) : Tr (Msg × Int) :=
  .cond ((V161 x1).isSome)
  (.cond ((V161 x2).isSome)
    (.cond ((V47 x3 (⟨x3.kind, true, x3.num, 0, x0, F161 x1, F161 x2⟩ : Msg)).isSome)
      (.cond (!(F47 x3 (⟨x3.kind, true, x3.num, 0, x0, F161 x1, F161 x2⟩ : Msg)))
        (.some ((⟨0, false, 0, 0, 0, ([] : List Spot), ([] : List Spot)⟩ : Msg), 12))
        (.some ((⟨x3.kind, true, x3.num, 0, x0, F161 x1, F161 x2⟩ : Msg), 0)))
      (.none))
    (.none))
  (.none)
theorem eJ107_3 (x0 : Int) (x1 x2 : List Spot) (x3 : Msg) (x4 : Int) (x5 : Bool) (x6 x7 x8 : Int) : lv cd107 C107 (J107_3 x0 x1 x2 x3 x4 x5 x6 x7 x8) = (tJ107_3 x0 x1 x2 x3 x4 x5 x6 x7 x8).val cd107 C107 := Tr.lv_eq 20 (fun H z => by kernel_rfl)
noncomputable def V107 (x0 : Msg) (x1 : Int) (x2 x3 : List Spot) : Option (Msg × Int) := vlim cd107 (S107 x0 x1 x2 x3)
noncomputable def F107 (x0 : Msg) (x1 : Int) (x2 x3 : List Spot) : Msg × Int := (V107 x0 x1 x2 x3).getD default
noncomputable def G107 : GE := mkG [(0, some 5, .spot), (0, some 6, .spot), (2, none, .spot), (3, none, .spot)] (cod25.a (codI.a ((codS .spot).a ((codS .spot).a (.nil))))) (fun x => V107 x.1 x.2.1 x.2.2.1 x.2.2.2.1) cd107
theorem ge107 : GeOk 107 G107 := ge_mk (C := C107) (base_ok (.cons ge47 (.cons ge96 (.cons ge161 .nil))) (.cons c107 .nil) .nil) rfl c107 (fun _ => rfl) (by kernel_rfl)
theorem c119 : CdOk 119 Tryz.f119 := ⟨by kernel_rfl, by kernel_rfl⟩
noncomputable def C119 : Cfg := base [(99, G99)] [(119, Tryz.f119)] [(119, [])] [] [] [(0, some 3, .cell), (0, some 11, .spot), (0, some 12, .spot), (0, some 19, .spot), (0, some 20, .spot), (0, some 26, .spot), (0, some 27, .spot)] []
noncomputable def S119 (x0 : End) (n : Nat) : Option AV := startK C119 n 119 Tryz.f119 [.agg (enc27 x0)]
noncomputable abbrev cd119 : Cod (End) := cod27
noncomputable def tS119 (x0 : End) : Tr (End) :=
  .cond ((V99 x0).isSome)
  (.some (⟨(F99 x0).nd, (F99 x0).pr, (F99 x0).num, (F99 x0).cl, false, 0, (⟨0, false, 0, 0, 0, ([] : List Spot), ([] : List Spot)⟩ : Msg), (F99 x0).kn, (F99 x0).lst, (F99 x0).rp⟩ : End))
  (.none)
theorem eS119 (x0 : End) : vlim cd119 (S119 x0) = (tS119 x0).val cd119 C119 := Tr.val_eq 29 (fun H z => by kernel_rfl)
noncomputable def V119 (x0 : End) : Option (End) := vlim cd119 (S119 x0)
noncomputable def F119 (x0 : End) : End := (V119 x0).getD default
noncomputable def G119 : GE := mkG [(0, some 3, .cell), (0, some 11, .spot), (0, some 12, .spot), (0, some 19, .spot), (0, some 20, .spot), (0, some 26, .spot), (0, some 27, .spot)] (cod27.a (.nil)) (fun x => V119 x.1) cd119
theorem ge119 : GeOk 119 G119 := ge_mk (C := C119) (base_ok (.cons ge99 .nil) (.cons c119 .nil) .nil) rfl c119 (fun _ => rfl) (by kernel_rfl)
theorem c32 : CdOk 32 Tryz.f32 := ⟨by kernel_rfl, by kernel_rfl⟩
noncomputable def b32 (n p : Nat) : Code := bp n p (bodyA Tryz.f32)
noncomputable def C32 : Cfg := base [(38, G38), (41, G41), (47, G47), (119, G119), (120, G120)] [(32, Tryz.f32)] [(32, [(17, { drop := rs [(0, 3), (5, 1), (7, 55)], nt := [], nb := [] }), (18, { drop := rs [(0, 3), (5, 1), (7, 29), (37, 25)], nt := [], nb := [] }), (20, { drop := rs [(0, 4), (5, 1), (7, 55)], nt := [], nb := [] })])] [] [] [(0, some 3, .cell), (0, some 11, .spot), (0, some 12, .spot), (0, some 19, .spot), (0, some 20, .spot), (0, some 26, .spot), (0, some 27, .spot)] []
noncomputable def S32 (x0 : End) (x1 : Msg) (n : Nat) : Option AV := startK C32 n 32 Tryz.f32 [.agg (enc27 x0), .agg (enc25 x1)]
noncomputable def J32_17 (x0 : Msg) (x1 x2 x3 : Int) (x4 : Bool) (x5 x6 : Int) (x7 : Bool) (x8 x9 x10 : Int) (x11 : Bool) (x12 : Int) (x13 : Bool) (x14 x15 x16 x17 : Int) (x18 : Bool) (x19 x20 x21 x22 x23 x24 : Int) (x25 : List Cell) (x26 : Bool) (x27 : Int) (x28 : Msg) (x29 : Bool) (x30 : Int) (x31 : Bool) (x32 x33 x34 x35 : Int) (x36 : Bool) (x37 x38 x39 : Int) : St := ⟨18, ⟨32, ap (un 3) (ap [.ptr 0 3 0, .ptr 0 4 0, .undef, .ptr 0 6 0] (un 55)), aq (nb 3) (aq [(enc25 x0), [.int .i64 x1, .int .i64 x2, .int .i64 x3, .nilS, .bool x4, .int .i64 x5, .int .i64 x6, .bool x7, .int .i64 x8, .int .i64 x9, .int .i64 x10, .nilS, .nilS, .bool x11, .int .i64 x12, .bool x13, .int .i64 x14, .int .i64 x15, .int .i64 x16, .nilS, .nilS, .int .i64 x17, .bool x18, .int .i64 x19, .int .i64 x20, .int .i64 x21, .nilS, .nilS], [], (ap [.int .i64 x22, .int .i64 x23, .int .i64 x24, .sl .cell x25 .none, .bool x26, .int .i64 x27] (ap ((enc25 x28)) [.bool x29, .int .i64 x30, .bool x31, .int .i64 x32, .int .i64 x33, .int .i64 x34, .nilS, .nilS, .int .i64 x35, .bool x36, .int .i64 x37, .int .i64 x38, .int .i64 x39, .nilS, .nilS]))] (nb 55)), [.code (b32 12 1887), .inBlock 1, .code (b32 6 63)]⟩, []⟩
noncomputable def J32_18 (x0 : Int) (x1 : Msg) (x2 x3 x4 : Int) (x5 : Bool) (x6 x7 : Int) (x8 : Bool) (x9 x10 x11 : Int) (x12 : Bool) (x13 : Int) (x14 : Bool) (x15 x16 x17 x18 : Int) (x19 : Bool) (x20 x21 x22 x23 x24 x25 : Int) (x26 : List Cell) (x27 : Bool) (x28 : Int) (x29 : Msg) (x30 : Bool) (x31 : Int) (x32 : Bool) (x33 x34 x35 x36 : Int) (x37 : Bool) (x38 x39 x40 : Int) : St := ⟨19, ⟨32, ap (un 3) (ap [.ptr 0 3 0, .ptr 0 4 0, .undef, .ptr 0 6 0] (ap (un 29) (ap [.int .i64 x0] (un 25)))), aq (nb 3) (aq [(enc25 x1), [.int .i64 x2, .int .i64 x3, .int .i64 x4, .nilS, .bool x5, .int .i64 x6, .int .i64 x7, .bool x8, .int .i64 x9, .int .i64 x10, .int .i64 x11, .nilS, .nilS, .bool x12, .int .i64 x13, .bool x14, .int .i64 x15, .int .i64 x16, .int .i64 x17, .nilS, .nilS, .int .i64 x18, .bool x19, .int .i64 x20, .int .i64 x21, .int .i64 x22, .nilS, .nilS], [], (ap [.int .i64 x23, .int .i64 x24, .int .i64 x25, .sl .cell x26 .none, .bool x27, .int .i64 x28] (ap ((enc25 x29)) [.bool x30, .int .i64 x31, .bool x32, .int .i64 x33, .int .i64 x34, .int .i64 x35, .nilS, .nilS, .int .i64 x36, .bool x37, .int .i64 x38, .int .i64 x39, .int .i64 x40, .nilS, .nilS]))] (nb 55)), [.code (b32 13 3935), .code (b32 13 8031), .inBlock 1, .code (b32 6 63)]⟩, []⟩
noncomputable def J32_20 (x0 x1 x2 : Int) (x3 : Bool) (x4 x5 : Int) (x6 : Bool) (x7 x8 x9 : Int) (x10 : Bool) (x11 : Int) (x12 : Bool) (x13 x14 x15 x16 : Int) (x17 : Bool) (x18 x19 x20 : Int) (x21 : End) : St := ⟨21, ⟨32, ap (un 4) (ap [.ptr 0 4 0, .undef, .ptr 0 6 0] (un 55)), aq (nb 4) (aq [[.int .i64 x0, .int .i64 x1, .int .i64 x2, .nilS, .bool x3, .int .i64 x4, .int .i64 x5, .bool x6, .int .i64 x7, .int .i64 x8, .int .i64 x9, .nilS, .nilS, .bool x10, .int .i64 x11, .bool x12, .int .i64 x13, .int .i64 x14, .int .i64 x15, .nilS, .nilS, .int .i64 x16, .bool x17, .int .i64 x18, .int .i64 x19, .int .i64 x20, .nilS, .nilS], [], (enc27 x21)] (nb 55)), [.code (b32 7 63), .code (b32 7 127)]⟩, []⟩
noncomputable def J32_20_32_1 (x0 x1 x2 : Int) (x3 : Bool) (x4 x5 : Int) (x6 : Bool) (x7 x8 x9 : Int) (x10 : Bool) (x11 : Int) (x12 : Bool) (x13 x14 x15 x16 : Int) (x17 : Bool) (x18 x19 x20 x21 x22 x23 : Int) (x24 : List Cell) (x25 : Bool) (x26 : Int) (x27 : Msg) (x28 : Bool) (x29 : Int) (x30 : Bool) (x31 x32 x33 x34 : Int) (x35 : Bool) (x36 x37 x38 : Int) : St := ⟨21, ⟨32, ap (un 4) (ap [.ptr 0 4 0, .undef, .ptr 0 6 0] (un 55)), aq (nb 4) (aq [[.int .i64 x0, .int .i64 x1, .int .i64 x2, .nilS, .bool x3, .int .i64 x4, .int .i64 x5, .bool x6, .int .i64 x7, .int .i64 x8, .int .i64 x9, .nilS, .nilS, .bool x10, .int .i64 x11, .bool x12, .int .i64 x13, .int .i64 x14, .int .i64 x15, .nilS, .nilS, .int .i64 x16, .bool x17, .int .i64 x18, .int .i64 x19, .int .i64 x20, .nilS, .nilS], [], (ap [.int .i64 x21, .int .i64 x22, .int .i64 x23, .sl .cell x24 .none, .bool x25, .int .i64 x26] (ap ((enc25 x27)) [.bool x28, .int .i64 x29, .bool x30, .int .i64 x31, .int .i64 x32, .int .i64 x33, .nilS, .nilS, .int .i64 x34, .bool x35, .int .i64 x36, .int .i64 x37, .int .i64 x38, .nilS, .nilS]))] (nb 55)), [.code (b32 7 63), .code (b32 7 127)]⟩, []⟩
noncomputable abbrev cd32 : Cod (End × Int) := (codT2 cod27 codI)
noncomputable def tS32 (x0 : End) (x1 : Msg) : Tr (End × Int) :=
  .cond ((V38 x0).isSome)
  (.cond (!(decide ((F38 x0) = 0)))
    (.some ((⟨0, 0, 0, ([] : List Cell), false, 0, (⟨0, false, 0, 0, 0, ([] : List Spot), ([] : List Spot)⟩ : Msg), false, (⟨0, false, 0, 0, 0, ([] : List Spot), ([] : List Spot)⟩ : Msg), (⟨0, false, 0, 0, 0, ([] : List Spot), ([] : List Spot)⟩ : Msg)⟩ : End), 1))
    (.cond (!x0.opn)
      (.some ((⟨0, 0, 0, ([] : List Cell), false, 0, (⟨0, false, 0, 0, 0, ([] : List Spot), ([] : List Spot)⟩ : Msg), false, (⟨0, false, 0, 0, 0, ([] : List Spot), ([] : List Spot)⟩ : Msg), (⟨0, false, 0, 0, 0, ([] : List Spot), ([] : List Spot)⟩ : Msg)⟩ : End), 12))
      (.cond ((V47 x0.ask x1).isSome)
        (.cond (!(F47 x0.ask x1))
          (.some ((⟨0, 0, 0, ([] : List Cell), false, 0, (⟨0, false, 0, 0, 0, ([] : List Spot), ([] : List Spot)⟩ : Msg), false, (⟨0, false, 0, 0, 0, ([] : List Spot), ([] : List Spot)⟩ : Msg), (⟨0, false, 0, 0, 0, ([] : List Spot), ([] : List Spot)⟩ : Msg)⟩ : End), 11))
          (.cond ((V119 x0).isSome)
            (.cond (!(decide (x1.code = 0)))
              (.some (F119 x0, 0))
              (.cond (decide (x1.kind = 6))
                (.some ((⟨(F119 x0).nd, (F119 x0).pr, 0, ([] : List Cell), (F119 x0).opn, (F119 x0).snc, (F119 x0).ask, false, (⟨0, false, 0, 0, 0, ([] : List Spot), ([] : List Spot)⟩ : Msg), (⟨0, false, 0, 0, 0, ([] : List Spot), ([] : List Spot)⟩ : Msg)⟩ : End), 0))
                (.cond (decide (x1.kind = 1))
                  (.go (J32_17 x1 0 0 0 false 0 0 false 0 0 0 false 0 false 0 0 0 0 false 0 0 0 ((F119 x0).nd) ((F119 x0).pr) ((F119 x0).num) ((F119 x0).cl) ((F119 x0).opn) ((F119 x0).snc) ((F119 x0).ask) false 0 false 0 0 0 0 false 0 0 0))
                  (.cond (decide (x1.kind = 3))
                    (.go (J32_17 x1 0 0 0 false 0 0 false 0 0 0 false 0 false 0 0 0 0 false 0 0 0 ((F119 x0).nd) ((F119 x0).pr) ((F119 x0).num) ((F119 x0).cl) ((F119 x0).opn) ((F119 x0).snc) ((F119 x0).ask) false 0 false 0 0 0 0 false 0 0 0))
                    (.go (J32_18 x1.kind x1 0 0 0 false 0 0 false 0 0 0 false 0 false 0 0 0 0 false 0 0 0 ((F119 x0).nd) ((F119 x0).pr) ((F119 x0).num) ((F119 x0).cl) ((F119 x0).opn) ((F119 x0).snc) ((F119 x0).ask) false 0 false 0 0 0 0 false 0 0 0))))))
            (.none)))
        (.none))))
  (.none)
theorem eS32 (x0 : End) (x1 : Msg) : vlim cd32 (S32 x0 x1) = (tS32 x0 x1).val cd32 C32 := Tr.val_eq 93 (fun H z => by kernel_rfl)
noncomputable def tJ32_17 (x0 : Msg) (x1 x2 x3 : Int) (x4 : Bool) (x5 x6 : Int) (x7 : Bool) (x8 x9 x10 : Int) (x11 : Bool) (x12 : Int) (x13 : Bool) (x14 x15 x16 x17 : Int) (x18 : Bool) (x19 x20 x21 x22 x23 x24 : Int) (x25 : List Cell) (x26 : Bool) (x27 : Int) (x28 : Msg) (x29 : Bool) (x30 : Int) (x31 : Bool) (x32 x33 x34 x35 : Int) (x36 : Bool) (x37 x38 x39 : Int) : Tr (End × Int) :=
  .cond ((V120 (⟨x22, x23, x24, x25, x26, x27, x28, x29, (⟨x30, x31, x32, x33, x34, ([] : List Spot), ([] : List Spot)⟩ : Msg), (⟨x35, x36, x37, x38, x39, ([] : List Spot), ([] : List Spot)⟩ : Msg)⟩ : End) x0.old x0.sp true).isSome)
  (.go (J32_20 x1 x2 x3 x4 x5 x6 x7 x8 x9 x10 x11 x12 x13 x14 x15 x16 x17 x18 x19 x20 x21 (F120 (⟨x22, x23, x24, x25, x26, x27, x28, x29, (⟨x30, x31, x32, x33, x34, ([] : List Spot), ([] : List Spot)⟩ : Msg), (⟨x35, x36, x37, x38, x39, ([] : List Spot), ([] : List Spot)⟩ : Msg)⟩ : End) x0.old x0.sp true)))
  (.none)
theorem eJ32_17 (x0 : Msg) (x1 x2 x3 : Int) (x4 : Bool) (x5 x6 : Int) (x7 : Bool) (x8 x9 x10 : Int) (x11 : Bool) (x12 : Int) (x13 : Bool) (x14 x15 x16 x17 : Int) (x18 : Bool) (x19 x20 x21 x22 x23 x24 : Int) (x25 : List Cell) (x26 : Bool) (x27 : Int) (x28 : Msg) (x29 : Bool) (x30 : Int) (x31 : Bool) (x32 x33 x34 x35 : Int) (x36 : Bool) (x37 x38 x39 : Int) : lv cd32 C32 (J32_17 x0 x1 x2 x3 x4 x5 x6 x7 x8 x9 x10 x11 x12 x13 x14 x15 x16 x17 x18 x19 x20 x21 x22 x23 x24 x25 x26 x27 x28 x29 x30 x31 x32 x33 x34 x35 x36 x37 x38 x39) = (tJ32_17 x0 x1 x2 x3 x4 x5 x6 x7 x8 x9 x10 x11 x12 x13 x14 x15 x16 x17 x18 x19 x20 x21 x22 x23 x24 x25 x26 x27 x28 x29 x30 x31 x32 x33 x34 x35 x36 x37 x38 x39).val cd32 C32 := Tr.lv_eq 14 (fun H z => by kernel_rfl)
noncomputable def tJ32_18 (x0 : Int) (x1 : Msg) (x2 x3 x4 : Int) (x5 : Bool) (x6 x7 : Int) (x8 : Bool) (x9 x10 x11 : Int) (x12 : Bool) (x13 : Int) (x14 : Bool) (x15 x16 x17 x18 : Int) (x19 : Bool) (x20 x21 x22 x23 x24 x25 : Int) (x26 : List Cell) (x27 : Bool) (x28 : Int) (x29 : Msg) (x30 : Bool) (x31 : Int) (x32 : Bool) (x33 x34 x35 x36 : Int) (x37 : Bool) (x38 x39 x40 : Int) : Tr (End × Int) :=
  .cond (decide (x0 = 2))
  (.cond ((V120 (⟨x23, x24, x25, x26, x27, x28, x29, x30, (⟨x31, x32, x33, x34, x35, ([] : List Spot), ([] : List Spot)⟩ : Msg), (⟨x36, x37, x38, x39, x40, ([] : List Spot), ([] : List Spot)⟩ : Msg)⟩ : End) x1.old ([] : List Spot) true).isSome)
    (.go (J32_20 x2 x3 x4 x5 x6 x7 x8 x9 x10 x11 x12 x13 x14 x15 x16 x17 x18 x19 x20 x21 x22 (F120 (⟨x23, x24, x25, x26, x27, x28, x29, x30, (⟨x31, x32, x33, x34, x35, ([] : List Spot), ([] : List Spot)⟩ : Msg), (⟨x36, x37, x38, x39, x40, ([] : List Spot), ([] : List Spot)⟩ : Msg)⟩ : End) x1.old ([] : List Spot) true)))
    (.none))
  (.go (J32_20_32_1 x2 x3 x4 x5 x6 x7 x8 x9 x10 x11 x12 x13 x14 x15 x16 x17 x18 x19 x20 x21 x22 x23 x24 x25 x26 x27 x28 x29 x30 x31 x32 x33 x34 x35 x36 x37 x38 x39 x40))
theorem eJ32_18 (x0 : Int) (x1 : Msg) (x2 x3 x4 : Int) (x5 : Bool) (x6 x7 : Int) (x8 : Bool) (x9 x10 x11 : Int) (x12 : Bool) (x13 : Int) (x14 : Bool) (x15 x16 x17 x18 : Int) (x19 : Bool) (x20 x21 x22 x23 x24 x25 : Int) (x26 : List Cell) (x27 : Bool) (x28 : Int) (x29 : Msg) (x30 : Bool) (x31 : Int) (x32 : Bool) (x33 x34 x35 x36 : Int) (x37 : Bool) (x38 x39 x40 : Int) : lv cd32 C32 (J32_18 x0 x1 x2 x3 x4 x5 x6 x7 x8 x9 x10 x11 x12 x13 x14 x15 x16 x17 x18 x19 x20 x21 x22 x23 x24 x25 x26 x27 x28 x29 x30 x31 x32 x33 x34 x35 x36 x37 x38 x39 x40) = (tJ32_18 x0 x1 x2 x3 x4 x5 x6 x7 x8 x9 x10 x11 x12 x13 x14 x15 x16 x17 x18 x19 x20 x21 x22 x23 x24 x25 x26 x27 x28 x29 x30 x31 x32 x33 x34 x35 x36 x37 x38 x39 x40).val cd32 C32 := Tr.lv_eq 17 (fun H z => by kernel_rfl)
noncomputable def tJ32_20 (x0 x1 x2 : Int) (x3 : Bool) (x4 x5 : Int) (x6 : Bool) (x7 x8 x9 : Int) (x10 : Bool) (x11 : Int) (x12 : Bool) (x13 x14 x15 x16 : Int) (x17 : Bool) (x18 x19 x20 : Int) (x21 : End) : Tr (End × Int) :=
  .cond ((V41 x21.num).isSome)
  (.some ((⟨x21.nd, x21.pr, F41 x21.num, x21.cl, x21.opn, x21.snc, x21.ask, x21.kn, x21.lst, x21.rp⟩ : End), 0))
  (.none)
theorem eJ32_20 (x0 x1 x2 : Int) (x3 : Bool) (x4 x5 : Int) (x6 : Bool) (x7 x8 x9 : Int) (x10 : Bool) (x11 : Int) (x12 : Bool) (x13 x14 x15 x16 : Int) (x17 : Bool) (x18 x19 x20 : Int) (x21 : End) : lv cd32 C32 (J32_20 x0 x1 x2 x3 x4 x5 x6 x7 x8 x9 x10 x11 x12 x13 x14 x15 x16 x17 x18 x19 x20 x21) = (tJ32_20 x0 x1 x2 x3 x4 x5 x6 x7 x8 x9 x10 x11 x12 x13 x14 x15 x16 x17 x18 x19 x20 x21).val cd32 C32 := Tr.lv_eq 16 (fun H z => by kernel_rfl)
noncomputable def tJ32_20_32_1 (x0 x1 x2 : Int) (x3 : Bool) (x4 x5 : Int) (x6 : Bool) (x7 x8 x9 : Int) (x10 : Bool) (x11 : Int) (x12 : Bool) (x13 x14 x15 x16 : Int) (x17 : Bool) (x18 x19 x20 x21 x22 x23 : Int) (x24 : List Cell) (x25 : Bool) (x26 : Int) (x27 : Msg) (x28 : Bool) (x29 : Int) (x30 : Bool) (x31 x32 x33 x34 : Int) (x35 : Bool) (x36 x37 x38 : Int) : Tr (End × Int) :=
  .cond ((V41 x23).isSome)
  (.some ((⟨x21, x22, F41 x23, x24, x25, x26, x27, x28, (⟨x29, x30, x31, x32, x33, ([] : List Spot), ([] : List Spot)⟩ : Msg), (⟨x34, x35, x36, x37, x38, ([] : List Spot), ([] : List Spot)⟩ : Msg)⟩ : End), 0))
  (.none)
theorem eJ32_20_32_1 (x0 x1 x2 : Int) (x3 : Bool) (x4 x5 : Int) (x6 : Bool) (x7 x8 x9 : Int) (x10 : Bool) (x11 : Int) (x12 : Bool) (x13 x14 x15 x16 : Int) (x17 : Bool) (x18 x19 x20 x21 x22 x23 : Int) (x24 : List Cell) (x25 : Bool) (x26 : Int) (x27 : Msg) (x28 : Bool) (x29 : Int) (x30 : Bool) (x31 x32 x33 x34 : Int) (x35 : Bool) (x36 x37 x38 : Int) : lv cd32 C32 (J32_20_32_1 x0 x1 x2 x3 x4 x5 x6 x7 x8 x9 x10 x11 x12 x13 x14 x15 x16 x17 x18 x19 x20 x21 x22 x23 x24 x25 x26 x27 x28 x29 x30 x31 x32 x33 x34 x35 x36 x37 x38) = (tJ32_20_32_1 x0 x1 x2 x3 x4 x5 x6 x7 x8 x9 x10 x11 x12 x13 x14 x15 x16 x17 x18 x19 x20 x21 x22 x23 x24 x25 x26 x27 x28 x29 x30 x31 x32 x33 x34 x35 x36 x37 x38).val cd32 C32 := Tr.lv_eq 16 (fun H z => by kernel_rfl)
noncomputable def V32 (x0 : End) (x1 : Msg) : Option (End × Int) := vlim cd32 (S32 x0 x1)
noncomputable def F32 (x0 : End) (x1 : Msg) : End × Int := (V32 x0 x1).getD default
noncomputable def G32 : GE := mkG [(0, some 3, .cell), (0, some 11, .spot), (0, some 12, .spot), (0, some 19, .spot), (0, some 20, .spot), (0, some 26, .spot), (0, some 27, .spot), (1, some 5, .spot), (1, some 6, .spot)] (cod27.a (cod25.a (.nil))) (fun x => V32 x.1 x.2.1) cd32
theorem ge32 : GeOk 32 G32 := ge_mk (C := C32) (base_ok (.cons ge38 (.cons ge41 (.cons ge47 (.cons ge119 (.cons ge120 .nil))))) (.cons c32 .nil) .nil) rfl c32 (fun _ => rfl) (by kernel_rfl)
theorem c127 : CdOk 127 Tryz.f127 := ⟨by kernel_rfl, by kernel_rfl⟩
noncomputable def C127 : Cfg := base [] [(127, Tryz.f127)] [(127, [])] [] [] [(0, some 3, .cell), (0, some 11, .spot), (0, some 12, .spot), (0, some 19, .spot), (0, some 20, .spot), (0, some 26, .spot), (0, some 27, .spot), (1, some 5, .spot), (1, some 6, .spot)] []
noncomputable def S127 (x0 : Int) (n : Nat) : Option AV := startK C127 n 127 Tryz.f127 [.int .i64 x0]
noncomputable abbrev cd127 : Cod (End × Msg × Int) := (codT3 cod27 cod25 codI)
noncomputable def tS127 (x0 : Int) : Tr (End × Msg × Int) :=
  .some ((⟨0, 0, 0, ([] : List Cell), false, 0, (⟨0, false, 0, 0, 0, ([] : List Spot), ([] : List Spot)⟩ : Msg), false, (⟨0, false, 0, 0, 0, ([] : List Spot), ([] : List Spot)⟩ : Msg), (⟨0, false, 0, 0, 0, ([] : List Spot), ([] : List Spot)⟩ : Msg)⟩ : End), (⟨0, false, 0, 0, 0, ([] : List Spot), ([] : List Spot)⟩ : Msg), x0)
theorem eS127 (x0 : Int) : vlim cd127 (S127 x0) = (tS127 x0).val cd127 C127 := Tr.val_eq 18 (fun H z => by kernel_rfl)
noncomputable def V127 (x0 : Int) : Option (End × Msg × Int) := vlim cd127 (S127 x0)
noncomputable def F127 (x0 : Int) : End × Msg × Int := (V127 x0).getD default
noncomputable def G127 : GE := mkG [] (codI.a (.nil)) (fun x => V127 x.1) cd127
theorem ge127 : GeOk 127 G127 := ge_mk (C := C127) (base_ok .nil (.cons c127 .nil) .nil) rfl c127 (fun _ => rfl) (by kernel_rfl)
theorem c129 : CdOk 129 Tryz.f129 := ⟨by kernel_rfl, by kernel_rfl⟩
noncomputable def C129 : Cfg := base [] [(129, Tryz.f129)] [(129, [])] [] [] [] []
noncomputable def S129 (x0 x1 : Int) (n : Nat) : Option AV := startK C129 n 129 Tryz.f129 [.int .i64 x0, .int .i64 x1]
noncomputable abbrev cd129 : Cod (Bool) := codB
noncomputable def tS129 (x0 x1 : Int) : Tr (Bool) :=
  .cond (decide (x0 ≤ 3))
  (.cond (decide (1 ≤ x1))
    (.some (decide (x1 ≤ 8)))
    (.some false))
  (.some (decide (x1 = 0)))
theorem eS129 (x0 x1 : Int) : vlim cd129 (S129 x0 x1) = (tS129 x0 x1).val cd129 C129 := Tr.val_eq 24 (fun H z => by kernel_rfl)
noncomputable def V129 (x0 x1 : Int) : Option (Bool) := vlim cd129 (S129 x0 x1)
noncomputable def F129 (x0 x1 : Int) : Bool := (V129 x0 x1).getD default
noncomputable def G129 : GE := mkG [] (codI.a (codI.a (.nil))) (fun x => V129 x.1 x.2.1) cd129
theorem ge129 : GeOk 129 G129 := ge_mk (C := C129) (base_ok .nil (.cons c129 .nil) .nil) rfl c129 (fun _ => rfl) (by kernel_rfl)
theorem c130 : CdOk 130 Tryz.f130 := ⟨by kernel_rfl, by kernel_rfl⟩
noncomputable def b130 (n p : Nat) : Code := bp n p (bodyA Tryz.f130)
noncomputable def C130 : Cfg := base [(48, G48), (183, G183), (184, G184)] [(130, Tryz.f130)] [(130, [(2, { drop := rs [(0, 4), (6, 53)], nt := [], nb := [] }), (3, { drop := rs [(0, 1), (6, 53)], nt := [], nb := [] }), (5, { drop := rs [(0, 1), (6, 1), (8, 13), (23, 36)], nt := [(7, .spot, 55)], nb := [] }), (9, { drop := rs [(0, 1), (6, 1), (9, 12), (23, 36)], nt := [(7, .spot, 55)], nb := [] }), (10, { drop := rs [(0, 1), (6, 1), (9, 12), (23, 16), (40, 19)], nt := [(7, .spot, 55)], nb := [] }), (15, { drop := rs [(0, 1), (6, 1), (8, 13), (23, 36)], nt := [(7, .spot, 55)], nb := [] }), (16, { drop := rs [(0, 4), (6, 1), (8, 51)], nt := [(7, .spot, 55)], nb := [] })])] [] [] [(0, none, .spot)] []
noncomputable def S130 (x0 : Tab) (x1 : List Int) (x2 : Int) (n : Nat) : Option AV := startK C130 n 130 Tryz.f130 [.agg (enc29 x0), .sl .int x1 .none, .int .i64 x2]
noncomputable def J130_2 : St := ⟨3, ⟨130, un 59, nb 59, [.code (b130 5 5), .code (b130 5 21), .code (b130 2 3)]⟩, []⟩
noncomputable def J130_3 (x0 : List Int) (x1 : Int) (x2 : Tab) : St := ⟨4, ⟨130, ap [.undef, .sl .int x0 .none, .int .i64 x1, .ptr 0 3 0] (un 55), aq (nb 3) (aq [(enc29 x2)] (nb 55)), [.code (b130 3 3), .code (b130 3 7)]⟩, []⟩
noncomputable def J130_5 (x0 : List Int) (x1 : Int) (x2 : List Spot) (x3 x4 : Int) (x5 : Tab) : St := ⟨6, ⟨130, ap [.undef, .sl .int x0 .none, .int .i64 x1, .ptr 0 3 0] (ap (un 3) (ap [.sl .spot x2 (.lab 55)] (ap (un 13) (ap [.int .i64 x3, .int .i64 x4] (un 36))))), aq (nb 3) (aq [(enc29 x5)] (nb 55)), [.code (b130 8 23), .code (b130 8 151), .inLoop (b130 7 23), .inBlock 0, .code (b130 4 15)]⟩, []⟩
noncomputable def J130_16 (x0 : List Spot) : St := ⟨17, ⟨130, ap (un 7) (ap [.sl .spot x0 (.lab 55)] (un 51)), nb 59, [.code (b130 5 15), .code (b130 5 31)]⟩, []⟩
noncomputable def J130_15 (x0 : List Int) (x1 : Int) (x2 : List Spot) (x3 x4 : Int) (x5 : Tab) : St := ⟨16, ⟨130, ap [.undef, .sl .int x0 .none, .int .i64 x1, .ptr 0 3 0] (ap (un 3) (ap [.sl .spot x2 (.lab 55)] (ap (un 13) (ap [.int .i64 x3, .int .i64 x4] (un 36))))), aq (nb 3) (aq [(enc29 x5)] (nb 55)), [.code (b130 10 919), .inLoop (b130 7 23), .inBlock 0, .code (b130 4 15)]⟩, []⟩
noncomputable def J130_9 (x0 : List Int) (x1 : Int) (x2 : List Spot) (x3 x4 x5 : Int) (x6 : Tab) : St := ⟨10, ⟨130, ap [.undef, .sl .int x0 .none, .int .i64 x1, .ptr 0 3 0] (ap (un 3) (ap [.sl .spot x2 (.lab 55), .int .i64 x3] (ap (un 12) (ap [.int .i64 x4, .int .i64 x5] (un 36))))), aq (nb 3) (aq [(enc29 x6)] (nb 55)), [.code (b130 15 14743), .code (b130 15 31127), .inBlock 1, .code (b130 10 919), .inLoop (b130 7 23), .inBlock 0, .code (b130 4 15)]⟩, []⟩
noncomputable def J130_10 (x0 : List Int) (x1 : Int) (x2 : List Spot) (x3 x4 x5 x6 : Int) (x7 : Tab) : St := ⟨11, ⟨130, ap [.undef, .sl .int x0 .none, .int .i64 x1, .ptr 0 3 0] (ap (un 3) (ap [.sl .spot x2 (.lab 55), .int .i64 x3] (ap (un 12) (ap [.int .i64 x4, .int .i64 x5] (ap (un 16) (ap [.int .i64 x6] (un 19))))))), aq (nb 3) (aq [(enc29 x7)] (nb 55)), [.code (b130 18 31127), .code (b130 18 162199), .inLoop (b130 17 31127), .inBlock 2, .inBlock 1, .code (b130 10 919), .inLoop (b130 7 23), .inBlock 0, .code (b130 4 15)]⟩, []⟩
noncomputable abbrev cd130 : Cod (List Spot) := (codS .spot)
noncomputable def tS130 (x0 : Tab) (x1 : List Int) (x2 : Int) : Tr (List Spot) :=
  .cond ((V48 x0).isSome)
  (.cond (!(decide ((F48 x0) = 0)))
    (.go J130_2)
    (.cond ((V183 x1 x0.len).isSome)
      (.cond (!(F183 x1 x0.len))
        (.go J130_2)
        (.go (J130_3 x1 x2 x0)))
      (.none)))
  (.none)
theorem eS130 (x0 : Tab) (x1 : List Int) (x2 : Int) : vlim cd130 (S130 x0 x1 x2) = (tS130 x0 x1 x2).val cd130 C130 := Tr.val_eq 25 (fun H z => by kernel_rfl)
noncomputable def tJ130_2 : Tr (List Spot) :=
  .some ([] : List Spot)
theorem eJ130_2 : lv cd130 C130 (J130_2) = (tJ130_2).val cd130 C130 := Tr.lv_eq 6 (fun H z => by kernel_rfl)
noncomputable def tJ130_3 (x0 : List Int) (x1 : Int) (x2 : Tab) : Tr (List Spot) :=
  .go (J130_5 x0 x1 ([] : List Spot) x2.len 0 x2)
theorem eJ130_3 (x0 : List Int) (x1 : Int) (x2 : Tab) : lv cd130 C130 (J130_3 x0 x1 x2) = (tJ130_3 x0 x1 x2).val cd130 C130 := Tr.lv_eq 16 (fun H z => by kernel_rfl)
noncomputable def tJ130_5 (x0 : List Int) (x1 : Int) (x2 : List Spot) (x3 x4 : Int) (x5 : Tab) : Tr (List Spot) :=
  .cond (decide (x4 < x3))
  (.cond (decide (x1 ≤ ((x2).length : Int)))
    (.go (J130_16 x2))
    (.cond (ib x4 x0)
      (.cond (decide ((nth .int x0 x4) = 0))
        (.go (J130_15 x0 x1 x2 x3 x4 x5))
        (.cond ((V184 x5 x4).isSome)
          (.cond (F184 x5 x4)
            (.go (J130_15 x0 x1 x2 x3 x4 x5))
            (.go (J130_9 x0 x1 x2 x4 x3 x4 x5)))
          (.none)))
      (.none)))
  (.go (J130_16 x2))
theorem eJ130_5 (x0 : List Int) (x1 : Int) (x2 : List Spot) (x3 x4 : Int) (x5 : Tab) : lv cd130 C130 (J130_5 x0 x1 x2 x3 x4 x5) = (tJ130_5 x0 x1 x2 x3 x4 x5).val cd130 C130 := Tr.lv_eq 43 (fun H z => by kernel_rfl)
noncomputable def tJ130_16 (x0 : List Spot) : Tr (List Spot) :=
  .some x0
theorem eJ130_16 (x0 : List Spot) : lv cd130 C130 (J130_16 x0) = (tJ130_16 x0).val cd130 C130 := Tr.lv_eq 7 (fun H z => by kernel_rfl)
noncomputable def tJ130_15 (x0 : List Int) (x1 : Int) (x2 : List Spot) (x3 x4 : Int) (x5 : Tab) : Tr (List Spot) :=
  .cond (inR .i64 (x4 + 1))
  (.go (J130_5 x0 x1 x2 x3 (x4 + 1) x5))
  (.none)
theorem eJ130_15 (x0 : List Int) (x1 : Int) (x2 : List Spot) (x3 x4 : Int) (x5 : Tab) : lv cd130 C130 (J130_15 x0 x1 x2 x3 x4 x5) = (tJ130_15 x0 x1 x2 x3 x4 x5).val cd130 C130 := Tr.lv_eq 9 (fun H z => by kernel_rfl)
noncomputable def tJ130_9 (x0 : List Int) (x1 : Int) (x2 : List Spot) (x3 x4 x5 : Int) (x6 : Tab) : Tr (List Spot) :=
  .go (J130_10 x0 x1 x2 x3 x4 x5 0 x6)
theorem eJ130_9 (x0 : List Int) (x1 : Int) (x2 : List Spot) (x3 x4 x5 : Int) (x6 : Tab) : lv cd130 C130 (J130_9 x0 x1 x2 x3 x4 x5 x6) = (tJ130_9 x0 x1 x2 x3 x4 x5 x6).val cd130 C130 := Tr.lv_eq 9 (fun H z => by kernel_rfl)
noncomputable def tJ130_10 (x0 : List Int) (x1 : Int) (x2 : List Spot) (x3 x4 x5 x6 : Int) (x7 : Tab) : Tr (List Spot) :=
  .cond (decide (x6 < 16))
  (.cond (ib x3 x0)
    (.cond (decide (0 ≤ x6))
      (.cond (decide ((andI .i64 (shrI .i64 (nth .int x0 x3) x6) 1) = 1))
        (.cond (il x2 ([(⟨x3, x6⟩ : Spot)] : List Spot) 16)
          (.go (J130_15 x0 x1 (x2 ++ ([(⟨x3, x6⟩ : Spot)] : List Spot)) x4 x5 x7))
          (.none))
        (.cond (inR .i64 (x6 + 1))
          (.go (J130_10 x0 x1 x2 x3 x4 x5 (x6 + 1) x7))
          (.none)))
      (.none))
    (.none))
  (.go (J130_15 x0 x1 x2 x4 x5 x7))
theorem eJ130_10 (x0 : List Int) (x1 : Int) (x2 : List Spot) (x3 x4 x5 x6 : Int) (x7 : Tab) : lv cd130 C130 (J130_10 x0 x1 x2 x3 x4 x5 x6 x7) = (tJ130_10 x0 x1 x2 x3 x4 x5 x6 x7).val cd130 C130 := Tr.lv_eq 40 (fun H z => by kernel_rfl)
noncomputable def V130 (x0 : Tab) (x1 : List Int) (x2 : Int) : Option (List Spot) := vlim cd130 (S130 x0 x1 x2)
noncomputable def F130 (x0 : Tab) (x1 : List Int) (x2 : Int) : List Spot := (V130 x0 x1 x2).getD default
noncomputable def G130 : GE := mkG [(0, some 2, .cell), (1, none, .int)] (cod29.a ((codS .int).a (codI.a (.nil)))) (fun x => V130 x.1 x.2.1 x.2.2.1) cd130
theorem ge130 : GeOk 130 G130 := ge_mk (C := C130) (base_ok (.cons ge48 (.cons ge183 (.cons ge184 .nil))) (.cons c130 .nil) .nil) rfl c130 (fun _ => rfl) (by kernel_rfl)
theorem c131 : CdOk 131 Tryz.f131 := ⟨by kernel_rfl, by kernel_rfl⟩
noncomputable def b131 (n p : Nat) : Code := bp n p (bodyA Tryz.f131)
noncomputable def C131 : Cfg := base [(186, G186)] [(131, Tryz.f131)] [(131, [(3, { drop := rs [(0, 3), (5, 2), (10, 12)], nt := [(3, .spot, 19)], nb := [] }), (7, { drop := rs [(0, 3), (5, 2), (10, 12)], nt := [(3, .spot, 19)], nb := [] })])] [] [] [(0, none, .spot)] []
noncomputable def S131 (x0 : End) (n : Nat) : Option AV := startK C131 n 131 Tryz.f131 [.agg (enc27 x0)]
noncomputable def J131_3 (x0 : List Spot) (x1 : List Cell) (x2 x3 : Int) : St := ⟨4, ⟨131, ap (un 3) (ap [.sl .spot x0 (.lab 19)] (ap (un 3) (ap [.sl .cell x1 .none, .int .i64 x2, .int .i64 x3] (un 12)))), nb 22, [.code (b131 7 11), .code (b131 7 75), .inLoop (b131 6 11), .inBlock 0, .code (b131 3 7)]⟩, []⟩
noncomputable def J131_7 (x0 : List Spot) (x1 : List Cell) (x2 x3 : Int) : St := ⟨8, ⟨131, ap (un 3) (ap [.sl .spot x0 (.lab 19)] (ap (un 3) (ap [.sl .cell x1 .none, .int .i64 x2, .int .i64 x3] (un 12)))), nb 22, [.code (b131 9 459), .inLoop (b131 6 11), .inBlock 0, .code (b131 3 7)]⟩, []⟩
noncomputable abbrev cd131 : Cod (List Spot) := (codS .spot)
noncomputable def tS131 (x0 : End) : Tr (List Spot) :=
  .go (J131_3 ([] : List Spot) x0.cl ((x0.cl).length : Int) 0)
theorem eS131 (x0 : End) : vlim cd131 (S131 x0) = (tS131 x0).val cd131 C131 := Tr.val_eq 23 (fun H z => by kernel_rfl)
noncomputable def tJ131_3 (x0 : List Spot) (x1 : List Cell) (x2 x3 : Int) : Tr (List Spot) :=
  .cond (decide (x3 < x2))
  (.cond (ib x3 x1)
    (.cond ((nth .cell x1 x3).send)
      (.cond ((V186 (nth .cell x1 x3)).isSome)
        (.cond (il x0 ([F186 (nth .cell x1 x3)] : List Spot) 16)
          (.go (J131_7 (x0 ++ ([F186 (nth .cell x1 x3)] : List Spot)) x1 x2 x3))
          (.none))
        (.none))
      (.go (J131_7 x0 x1 x2 x3)))
    (.none))
  (.some x0)
theorem eJ131_3 (x0 : List Spot) (x1 : List Cell) (x2 x3 : Int) : lv cd131 C131 (J131_3 x0 x1 x2 x3) = (tJ131_3 x0 x1 x2 x3).val cd131 C131 := Tr.lv_eq 33 (fun H z => by kernel_rfl)
noncomputable def tJ131_7 (x0 : List Spot) (x1 : List Cell) (x2 x3 : Int) : Tr (List Spot) :=
  .cond (inR .i64 (x3 + 1))
  (.go (J131_3 x0 x1 x2 (x3 + 1)))
  (.none)
theorem eJ131_7 (x0 : List Spot) (x1 : List Cell) (x2 x3 : Int) : lv cd131 C131 (J131_7 x0 x1 x2 x3) = (tJ131_7 x0 x1 x2 x3).val cd131 C131 := Tr.lv_eq 9 (fun H z => by kernel_rfl)
noncomputable def V131 (x0 : End) : Option (List Spot) := vlim cd131 (S131 x0)
noncomputable def F131 (x0 : End) : List Spot := (V131 x0).getD default
noncomputable def G131 : GE := mkG [(0, some 3, .cell), (0, some 11, .spot), (0, some 12, .spot), (0, some 19, .spot), (0, some 20, .spot), (0, some 26, .spot), (0, some 27, .spot)] (cod27.a (.nil)) (fun x => V131 x.1) cd131
theorem ge131 : GeOk 131 G131 := ge_mk (C := C131) (base_ok (.cons ge186 .nil) (.cons c131 .nil) .nil) rfl c131 (fun _ => rfl) (by kernel_rfl)
theorem c132 : CdOk 132 Tryz.f132 := ⟨by kernel_rfl, by kernel_rfl⟩
noncomputable def C132 : Cfg := base [(99, G99)] [(132, Tryz.f132)] [(132, [])] [] [] [(0, some 3, .cell), (0, some 11, .spot), (0, some 12, .spot), (0, some 19, .spot), (0, some 20, .spot), (0, some 26, .spot), (0, some 27, .spot), (1, some 5, .spot), (1, some 6, .spot)] []
noncomputable def S132 (x0 : End) (x1 : Msg) (x2 : Int) (n : Nat) : Option AV := startK C132 n 132 Tryz.f132 [.agg (enc27 x0), .agg (enc25 x1), .int .i64 x2]
noncomputable abbrev cd132 : Cod (End × Msg × Int) := (codT3 cod27 cod25 codI)
noncomputable def tS132 (x0 : End) (x1 : Msg) (x2 : Int) : Tr (End × Msg × Int) :=
  .cond ((V99 x0).isSome)
  (.cond ((V99 (⟨(F99 x0).nd, (F99 x0).pr, (F99 x0).num, (F99 x0).cl, true, x2, (⟨x1.kind, x1.rep, (F99 x0).num, x1.code, x1.cnt, x1.sp, x1.old⟩ : Msg), (F99 x0).kn, (F99 x0).lst, (F99 x0).rp⟩ : End)).isSome)
    (.some (F99 (⟨(F99 x0).nd, (F99 x0).pr, (F99 x0).num, (F99 x0).cl, true, x2, (⟨x1.kind, x1.rep, (F99 x0).num, x1.code, x1.cnt, x1.sp, x1.old⟩ : Msg), (F99 x0).kn, (F99 x0).lst, (F99 x0).rp⟩ : End), (⟨x1.kind, x1.rep, (F99 x0).num, x1.code, x1.cnt, x1.sp, x1.old⟩ : Msg), 0))
    (.none))
  (.none)
theorem eS132 (x0 : End) (x1 : Msg) (x2 : Int) : vlim cd132 (S132 x0 x1 x2) = (tS132 x0 x1 x2).val cd132 C132 := Tr.val_eq 28 (fun H z => by kernel_rfl)
noncomputable def V132 (x0 : End) (x1 : Msg) (x2 : Int) : Option (End × Msg × Int) := vlim cd132 (S132 x0 x1 x2)
noncomputable def F132 (x0 : End) (x1 : Msg) (x2 : Int) : End × Msg × Int := (V132 x0 x1 x2).getD default
noncomputable def G132 : GE := mkG [(0, some 3, .cell), (0, some 11, .spot), (0, some 12, .spot), (0, some 19, .spot), (0, some 20, .spot), (0, some 26, .spot), (0, some 27, .spot), (1, some 5, .spot), (1, some 6, .spot)] (cod27.a (cod25.a (codI.a (.nil)))) (fun x => V132 x.1 x.2.1 x.2.2.1) cd132
theorem ge132 : GeOk 132 G132 := ge_mk (C := C132) (base_ok (.cons ge99 .nil) (.cons c132 .nil) .nil) rfl c132 (fun _ => rfl) (by kernel_rfl)
theorem c43 : CdOk 43 Tryz.f43 := ⟨by kernel_rfl, by kernel_rfl⟩
noncomputable def b43 (n p : Nat) : Code := bp n p (bodyA Tryz.f43)
noncomputable def C43 : Cfg := base [(128, G128)] [(43, Tryz.f43)] [(43, [(2, { drop := rs [(0, 2), (5, 18)], nt := [], nb := [] }), (3, { drop := rs [(5, 18)], nt := [], nb := [] })])] [] [] [(0, some 3, .cell), (0, some 11, .spot), (0, some 12, .spot), (0, some 19, .spot), (0, some 20, .spot), (0, some 26, .spot), (0, some 27, .spot)] []
noncomputable def S43 (x0 x1 : Int) (n : Nat) : Option AV := startK C43 n 43 Tryz.f43 [.int .i64 x0, .int .i64 x1]
noncomputable def J43_2 (x0 x1 x2 : Int) (x3 : Bool) (x4 x5 : Int) (x6 : Bool) (x7 x8 x9 : Int) (x10 : Bool) (x11 : Int) (x12 : Bool) (x13 x14 x15 x16 : Int) (x17 : Bool) (x18 x19 x20 : Int) : St := ⟨3, ⟨43, ap (un 4) (ap [.ptr 0 4 0] (un 18)), aq (nb 4) (aq [[.int .i64 x0, .int .i64 x1, .int .i64 x2, .nilS, .bool x3, .int .i64 x4, .int .i64 x5, .bool x6, .int .i64 x7, .int .i64 x8, .int .i64 x9, .nilS, .nilS, .bool x10, .int .i64 x11, .bool x12, .int .i64 x13, .int .i64 x14, .int .i64 x15, .nilS, .nilS, .int .i64 x16, .bool x17, .int .i64 x18, .int .i64 x19, .int .i64 x20, .nilS, .nilS]] (nb 18)), [.code (b43 5 5), .code (b43 5 21), .code (b43 2 3)]⟩, []⟩
noncomputable def J43_3 (x0 x1 x2 x3 x4 : Int) (x5 : Bool) (x6 x7 : Int) (x8 : Bool) (x9 x10 x11 : Int) (x12 : Bool) (x13 : Int) (x14 : Bool) (x15 x16 x17 x18 : Int) (x19 : Bool) (x20 x21 x22 : Int) : St := ⟨4, ⟨43, ap [.int .i64 x0, .int .i64 x1, .undef, .undef, .ptr 0 4 0] (un 18), aq (nb 4) (aq [[.int .i64 x2, .int .i64 x3, .int .i64 x4, .nilS, .bool x5, .int .i64 x6, .int .i64 x7, .bool x8, .int .i64 x9, .int .i64 x10, .int .i64 x11, .nilS, .nilS, .bool x12, .int .i64 x13, .bool x14, .int .i64 x15, .int .i64 x16, .int .i64 x17, .nilS, .nilS, .int .i64 x18, .bool x19, .int .i64 x20, .int .i64 x21, .int .i64 x22, .nilS, .nilS]] (nb 18)), [.code (b43 3 3), .code (b43 3 7)]⟩, []⟩
noncomputable abbrev cd43 : Cod (End × Int) := (codT2 cod27 codI)
noncomputable def tS43 (x0 x1 : Int) : Tr (End × Int) :=
  .cond ((V128 x0 31).isSome)
  (.cond (!(F128 x0 31))
    (.go (J43_2 0 0 0 false 0 0 false 0 0 0 false 0 false 0 0 0 0 false 0 0 0))
    (.cond ((V128 x1 31).isSome)
      (.cond (!(F128 x1 31))
        (.go (J43_2 0 0 0 false 0 0 false 0 0 0 false 0 false 0 0 0 0 false 0 0 0))
        (.cond (decide (x0 = x1))
          (.go (J43_2 0 0 0 false 0 0 false 0 0 0 false 0 false 0 0 0 0 false 0 0 0))
          (.go (J43_3 x0 x1 0 0 0 false 0 0 false 0 0 0 false 0 false 0 0 0 0 false 0 0 0))))
      (.none)))
  (.none)
theorem eS43 (x0 x1 : Int) : vlim cd43 (S43 x0 x1) = (tS43 x0 x1).val cd43 C43 := Tr.val_eq 28 (fun H z => by kernel_rfl)
noncomputable def tJ43_2 (x0 x1 x2 : Int) (x3 : Bool) (x4 x5 : Int) (x6 : Bool) (x7 x8 x9 : Int) (x10 : Bool) (x11 : Int) (x12 : Bool) (x13 x14 x15 x16 : Int) (x17 : Bool) (x18 x19 x20 : Int) : Tr (End × Int) :=
  .some ((⟨0, 0, 0, ([] : List Cell), false, 0, (⟨0, false, 0, 0, 0, ([] : List Spot), ([] : List Spot)⟩ : Msg), false, (⟨0, false, 0, 0, 0, ([] : List Spot), ([] : List Spot)⟩ : Msg), (⟨0, false, 0, 0, 0, ([] : List Spot), ([] : List Spot)⟩ : Msg)⟩ : End), 2)
theorem eJ43_2 (x0 x1 x2 : Int) (x3 : Bool) (x4 x5 : Int) (x6 : Bool) (x7 x8 x9 : Int) (x10 : Bool) (x11 : Int) (x12 : Bool) (x13 x14 x15 x16 : Int) (x17 : Bool) (x18 x19 x20 : Int) : lv cd43 C43 (J43_2 x0 x1 x2 x3 x4 x5 x6 x7 x8 x9 x10 x11 x12 x13 x14 x15 x16 x17 x18 x19 x20) = (tJ43_2 x0 x1 x2 x3 x4 x5 x6 x7 x8 x9 x10 x11 x12 x13 x14 x15 x16 x17 x18 x19 x20).val cd43 C43 := Tr.lv_eq 8 (fun H z => by kernel_rfl)
noncomputable def tJ43_3 (x0 x1 x2 x3 x4 : Int) (x5 : Bool) (x6 x7 : Int) (x8 : Bool) (x9 x10 x11 : Int) (x12 : Bool) (x13 : Int) (x14 : Bool) (x15 x16 x17 x18 : Int) (x19 : Bool) (x20 x21 x22 : Int) : Tr (End × Int) :=
  .some ((⟨x0, x1, 0, ([] : List Cell), false, 0, (⟨0, false, 0, 0, 0, ([] : List Spot), ([] : List Spot)⟩ : Msg), false, (⟨0, false, 0, 0, 0, ([] : List Spot), ([] : List Spot)⟩ : Msg), (⟨0, false, 0, 0, 0, ([] : List Spot), ([] : List Spot)⟩ : Msg)⟩ : End), 0)
theorem eJ43_3 (x0 x1 x2 x3 x4 : Int) (x5 : Bool) (x6 x7 : Int) (x8 : Bool) (x9 x10 x11 : Int) (x12 : Bool) (x13 : Int) (x14 : Bool) (x15 x16 x17 x18 : Int) (x19 : Bool) (x20 x21 x22 : Int) : lv cd43 C43 (J43_3 x0 x1 x2 x3 x4 x5 x6 x7 x8 x9 x10 x11 x12 x13 x14 x15 x16 x17 x18 x19 x20 x21 x22) = (tJ43_3 x0 x1 x2 x3 x4 x5 x6 x7 x8 x9 x10 x11 x12 x13 x14 x15 x16 x17 x18 x19 x20 x21 x22).val cd43 C43 := Tr.lv_eq 10 (fun H z => by kernel_rfl)
noncomputable def V43 (x0 x1 : Int) : Option (End × Int) := vlim cd43 (S43 x0 x1)
noncomputable def F43 (x0 x1 : Int) : End × Int := (V43 x0 x1).getD default
noncomputable def G43 : GE := mkG [] (codI.a (codI.a (.nil))) (fun x => V43 x.1 x.2.1) cd43
theorem ge43 : GeOk 43 G43 := ge_mk (C := C43) (base_ok (.cons ge128 .nil) (.cons c43 .nil) .nil) rfl c43 (fun _ => rfl) (by kernel_rfl)
theorem c94 : CdOk 94 Tryz.f94 := ⟨by kernel_rfl, by kernel_rfl⟩
noncomputable def b94 (n p : Nat) : Code := bp n p (bodyA Tryz.f94)
noncomputable def C94 : Cfg := base [] [(94, Tryz.f94)] [(94, [(4, { drop := rs [(4, 8), (14, 12)], nt := [], nb := [] })])] [] [] [] []
noncomputable def S94 (x0 x1 : List Cell) (n : Nat) : Option AV := startK C94 n 94 Tryz.f94 [.sl .cell x0 .none, .sl .cell x1 .none]
noncomputable def J94_4 (x0 x1 : List Cell) (x2 x3 : Int) : St := ⟨5, ⟨94, ap [.sl .cell x0 .none, .sl .cell x1 .none] (ap (un 10) (ap [.int .i64 x2, .int .i64 x3] (un 12))), nb 26, [.code (b94 7 11), .code (b94 7 75), .inLoop (b94 6 11), .inBlock 0, .code (b94 3 7)]⟩, []⟩
noncomputable abbrev cd94 : Cod (Bool) := codB
noncomputable def tS94 (x0 x1 : List Cell) : Tr (Bool) :=
  .cond (!(decide (((x0).length : Int) = ((x1).length : Int))))
  (.some false)
  (.go (J94_4 x0 x1 ((x0).length : Int) 0))
theorem eS94 (x0 x1 : List Cell) : vlim cd94 (S94 x0 x1) = (tS94 x0 x1).val cd94 C94 := Tr.val_eq 28 (fun H z => by kernel_rfl)
noncomputable def tJ94_4 (x0 x1 : List Cell) (x2 x3 : Int) : Tr (Bool) :=
  .cond (decide (x3 < x2))
  (.cond (ib x3 x0)
    (.cond (ib x3 x1)
      (.cond (!((decide (((nth .cell x0 x3).slot) = ((nth .cell x1 x3).slot))) && ((decide (((nth .cell x0 x3).offset) = ((nth .cell x1 x3).offset))) && ((decide (((nth .cell x0 x3).kind) = ((nth .cell x1 x3).kind))) && ((((nth .cell x0 x3).send) == ((nth .cell x1 x3).send)) && ((decide (((nth .cell x0 x3).peer) = ((nth .cell x1 x3).peer))) && ((decide (((nth .cell x0 x3).flow) = ((nth .cell x1 x3).flow))) && true)))))))
        (.some false)
        (.cond (inR .i64 (x3 + 1))
          (.go (J94_4 x0 x1 x2 (x3 + 1)))
          (.none)))
      (.none))
    (.none))
  (.some true)
theorem eJ94_4 (x0 x1 : List Cell) (x2 x3 : Int) : lv cd94 C94 (J94_4 x0 x1 x2 x3) = (tJ94_4 x0 x1 x2 x3).val cd94 C94 := Tr.lv_eq 27 (fun H z => by kernel_rfl)
noncomputable def V94 (x0 x1 : List Cell) : Option (Bool) := vlim cd94 (S94 x0 x1)
noncomputable def F94 (x0 x1 : List Cell) : Bool := (V94 x0 x1).getD default
noncomputable def G94 : GE := mkG [(0, none, .cell), (1, none, .cell)] ((codS .cell).a ((codS .cell).a (.nil))) (fun x => V94 x.1 x.2.1) cd94
theorem ge94 : GeOk 94 G94 := ge_mk (C := C94) (base_ok .nil (.cons c94 .nil) .nil) rfl c94 (fun _ => rfl) (by kernel_rfl)
theorem c27 : CdOk 27 Tryz.f27 := ⟨by kernel_rfl, by kernel_rfl⟩
noncomputable def C27 : Cfg := base [] [(27, Tryz.f27)] [(27, [])] [] [] [] []
noncomputable def S27 (x0 : Msg) (n : Nat) : Option AV := startK C27 n 27 Tryz.f27 [.agg (enc25 x0)]
noncomputable abbrev cd27 : Cod (Bool) := codB
noncomputable def tS27 (x0 : Msg) : Tr (Bool) :=
  .cond (decide (((x0.sp).length : Int) ≤ 12))
  (.some (decide (((x0.old).length : Int) ≤ 12)))
  (.some false)
theorem eS27 (x0 : Msg) : vlim cd27 (S27 x0) = (tS27 x0).val cd27 C27 := Tr.val_eq 22 (fun H z => by kernel_rfl)
noncomputable def V27 (x0 : Msg) : Option (Bool) := vlim cd27 (S27 x0)
noncomputable def F27 (x0 : Msg) : Bool := (V27 x0).getD default
noncomputable def G27 : GE := mkG [(0, some 5, .spot), (0, some 6, .spot)] (cod25.a (.nil)) (fun x => V27 x.1) cd27
theorem ge27 : GeOk 27 G27 := ge_mk (C := C27) (base_ok .nil (.cons c27 .nil) .nil) rfl c27 (fun _ => rfl) (by kernel_rfl)
theorem c25 : CdOk 25 Tryz.f25 := ⟨by kernel_rfl, by kernel_rfl⟩
noncomputable def C25 : Cfg := base [(27, G27)] [(25, Tryz.f25)] [(25, [])] [] [] [] []
noncomputable def S25 (x0 : End) (n : Nat) : Option AV := startK C25 n 25 Tryz.f25 [.agg (enc27 x0)]
noncomputable abbrev cd25 : Cod (Bool) := codB
noncomputable def tS25 (x0 : End) : Tr (Bool) :=
  .cond (decide (((x0.cl).length : Int) ≤ 40))
  (.cond ((V27 x0.ask).isSome)
    (.cond (F27 x0.ask)
      (.cond ((V27 x0.lst).isSome)
        (.cond (F27 x0.lst)
          (.cond ((V27 x0.rp).isSome)
            (.some (F27 x0.rp))
            (.none))
          (.some false))
        (.none))
      (.some false))
    (.none))
  (.some false)
theorem eS25 (x0 : End) : vlim cd25 (S25 x0) = (tS25 x0).val cd25 C25 := Tr.val_eq 31 (fun H z => by kernel_rfl)
noncomputable def V25 (x0 : End) : Option (Bool) := vlim cd25 (S25 x0)
noncomputable def F25 (x0 : End) : Bool := (V25 x0).getD default
noncomputable def G25 : GE := mkG [(0, some 3, .cell), (0, some 11, .spot), (0, some 12, .spot), (0, some 19, .spot), (0, some 20, .spot), (0, some 26, .spot), (0, some 27, .spot)] (cod27.a (.nil)) (fun x => V25 x.1) cd25
theorem ge25 : GeOk 25 G25 := ge_mk (C := C25) (base_ok (.cons ge27 .nil) (.cons c25 .nil) .nil) rfl c25 (fun _ => rfl) (by kernel_rfl)
theorem c95 : CdOk 95 Tryz.f95 := ⟨by kernel_rfl, by kernel_rfl⟩
noncomputable def C95 : Cfg := base [] [(95, Tryz.f95)] [(95, [])] [] [] [] []
noncomputable def S95 (x0 : Int) (n : Nat) : Option AV := startK C95 n 95 Tryz.f95 [.int .i64 x0]
noncomputable abbrev cd95 : Cod (Bool) := codB
noncomputable def tS95 (x0 : Int) : Tr (Bool) :=
  .cond (decide (x0 ≤ 40))
  (.some true)
  (.cond (decide (512 < x0))
    (.some (decide (x0 ≤ 516)))
    (.some false))
theorem eS95 (x0 : Int) : vlim cd95 (S95 x0) = (tS95 x0).val cd95 C95 := Tr.val_eq 21 (fun H z => by kernel_rfl)
noncomputable def V95 (x0 : Int) : Option (Bool) := vlim cd95 (S95 x0)
noncomputable def F95 (x0 : Int) : Bool := (V95 x0).getD default
noncomputable def G95 : GE := mkG [] (codI.a (.nil)) (fun x => V95 x.1) cd95
theorem ge95 : GeOk 95 G95 := ge_mk (C := C95) (base_ok .nil (.cons c95 .nil) .nil) rfl c95 (fun _ => rfl) (by kernel_rfl)
theorem c26 : CdOk 26 Tryz.f26 := ⟨by kernel_rfl, by kernel_rfl⟩
noncomputable def C26 : Cfg := base [(95, G95)] [(26, Tryz.f26)] [(26, [])] [] [] [] []
noncomputable def S26 (x0 : Tab) (n : Nat) : Option AV := startK C26 n 26 Tryz.f26 [.agg (enc29 x0)]
noncomputable abbrev cd26 : Cod (Bool) := codB
noncomputable def tS26 (x0 : Tab) : Tr (Bool) :=
  .cond ((V95 ((x0.cl).length : Int)).isSome)
  (.cond (F95 ((x0.cl).length : Int))
    (.cond (decide (x0.len ≤ 64))
      (.some true)
      (.some (decide (512 < x0.len))))
    (.some false))
  (.none)
theorem eS26 (x0 : Tab) : vlim cd26 (S26 x0) = (tS26 x0).val cd26 C26 := Tr.val_eq 26 (fun H z => by kernel_rfl)
noncomputable def V26 (x0 : Tab) : Option (Bool) := vlim cd26 (S26 x0)
noncomputable def F26 (x0 : Tab) : Bool := (V26 x0).getD default
noncomputable def G26 : GE := mkG [(0, some 2, .cell)] (cod29.a (.nil)) (fun x => V26 x.1) cd26
theorem ge26 : GeOk 26 G26 := ge_mk (C := C26) (base_ok (.cons ge95 .nil) (.cons c26 .nil) .nil) rfl c26 (fun _ => rfl) (by kernel_rfl)
theorem c192 : CdOk 192 Tryz.f192 := ⟨by kernel_rfl, by kernel_rfl⟩
noncomputable def b192 (n p : Nat) : Code := bp n p (bodyA Tryz.f192)
noncomputable def C192 : Cfg := base [] [(192, Tryz.f192)] [(192, [(2, { drop := rs [(4, 1), (6, 15)], nt := [], nb := [] })])] [] [] [] []
noncomputable def S192 (x0 x1 : List Spot) (n : Nat) : Option AV := startK C192 n 192 Tryz.f192 [.sl .spot x0 .none, .sl .spot x1 .none]
noncomputable def J192_2 (x0 x1 : List Spot) (x2 : Int) : St := ⟨3, ⟨192, ap [.sl .spot x0 .none, .sl .spot x1 .none] (ap (un 3) (ap [.int .i64 x2] (un 15))), nb 21, [.code (b192 7 5), .code (b192 7 69), .code (b192 6 37), .inLoop (b192 5 5), .inBlock 0, .code (b192 2 3)]⟩, []⟩
noncomputable abbrev cd192 : Cod (Bool) := codB
noncomputable def tS192 (x0 x1 : List Spot) : Tr (Bool) :=
  .go (J192_2 x0 x1 0)
theorem eS192 (x0 x1 : List Spot) : vlim cd192 (S192 x0 x1) = (tS192 x0 x1).val cd192 C192 := Tr.val_eq 16 (fun H z => by kernel_rfl)
noncomputable def tJ192_2 (x0 x1 : List Spot) (x2 : Int) : Tr (Bool) :=
  .cond (decide (x2 < ((x0).length : Int)))
  (.cond (ib x2 x0)
    (.cond (ib x2 x1)
      (.cond (!((decide (((nth .spot x0 x2).sslot) = ((nth .spot x1 x2).sslot))) && ((decide (((nth .spot x0 x2).soffset) = ((nth .spot x1 x2).soffset))) && true)))
        (.some false)
        (.cond (inR .i64 (x2 + 1))
          (.go (J192_2 x0 x1 (x2 + 1)))
          (.none)))
      (.none))
    (.none))
  (.some true)
theorem eJ192_2 (x0 x1 : List Spot) (x2 : Int) : lv cd192 C192 (J192_2 x0 x1 x2) = (tJ192_2 x0 x1 x2).val cd192 C192 := Tr.lv_eq 26 (fun H z => by kernel_rfl)
noncomputable def V192 (x0 x1 : List Spot) : Option (Bool) := vlim cd192 (S192 x0 x1)
noncomputable def F192 (x0 x1 : List Spot) : Bool := (V192 x0 x1).getD default
noncomputable def G192 : GE := mkG [(0, none, .spot), (1, none, .spot)] ((codS .spot).a ((codS .spot).a (.nil))) (fun x => V192 x.1 x.2.1) cd192
theorem ge192 : GeOk 192 G192 := ge_mk (C := C192) (base_ok .nil (.cons c192 .nil) .nil) rfl c192 (fun _ => rfl) (by kernel_rfl)
theorem c118 : CdOk 118 Tryz.f118 := ⟨by kernel_rfl, by kernel_rfl⟩
noncomputable def C118 : Cfg := base [(192, G192)] [(118, Tryz.f118)] [(118, [])] [] [] [] []
noncomputable def S118 (x0 x1 : List Spot) (n : Nat) : Option AV := startK C118 n 118 Tryz.f118 [.sl .spot x0 .none, .sl .spot x1 .none]
noncomputable abbrev cd118 : Cod (Bool) := codB
noncomputable def tS118 (x0 x1 : List Spot) : Tr (Bool) :=
  .cond (decide (((x0).length : Int) = ((x1).length : Int)))
  (.cond ((V192 x0 x1).isSome)
    (.some (F192 x0 x1))
    (.none))
  (.some false)
theorem eS118 (x0 x1 : List Spot) : vlim cd118 (S118 x0 x1) = (tS118 x0 x1).val cd118 C118 := Tr.val_eq 21 (fun H z => by kernel_rfl)
noncomputable def V118 (x0 x1 : List Spot) : Option (Bool) := vlim cd118 (S118 x0 x1)
noncomputable def F118 (x0 x1 : List Spot) : Bool := (V118 x0 x1).getD default
noncomputable def G118 : GE := mkG [(0, none, .spot), (1, none, .spot)] ((codS .spot).a ((codS .spot).a (.nil))) (fun x => V118 x.1 x.2.1) cd118
theorem ge118 : GeOk 118 G118 := ge_mk (C := C118) (base_ok (.cons ge192 .nil) (.cons c118 .nil) .nil) rfl c118 (fun _ => rfl) (by kernel_rfl)
noncomputable def C55 : Cfg := base [] [(55, Tryz.f55)] [(55, [(2, { drop := rs [(0, 1), (2, 11)], nt := [], nb := [] }), (3, { drop := rs [(2, 11)], nt := [], nb := [] })])] [] [] [] []
noncomputable def S55 (x0 : Int) (n : Nat) : Option AV := startK C55 n 55 Tryz.f55 [.int .i64 x0]
noncomputable abbrev cd55 : Cod (Int) := codI
noncomputable def V55 (x0 : Int) : Option (Int) := vlim cd55 (S55 x0)
noncomputable def G55 : GE := mkG [] (codI.a (.nil)) (fun x => V55 x.1) cd55
noncomputable def C162 : Cfg := base [] [(162, Tryz.f162)] [(162, [(2, { drop := rs [(1, 1), (4, 1), (6, 12)], nt := [], nb := [] })])] [] [] [] []
noncomputable def S162 (x0 : List Spot) (x1 : Spot) (n : Nat) : Option AV := startK C162 n 162 Tryz.f162 [.sl .spot x0 .none, .agg (ST.row .spot x1)]
noncomputable abbrev cd162 : Cod (Bool) := codB
noncomputable def V162 (x0 : List Spot) (x1 : Spot) : Option (Bool) := vlim cd162 (S162 x0 x1)
noncomputable def G162 : GE := mkG [(0, none, .spot)] ((codS .spot).a ((codE .spot).a (.nil))) (fun x => V162 x.1 x.2.1) cd162
end Go.Am
