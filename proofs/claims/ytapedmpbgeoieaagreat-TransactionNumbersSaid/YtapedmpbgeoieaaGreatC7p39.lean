/- Part 39 of the proof: FN7A. -/
import Derived.Test.YtapedmpbgeoieaaGreatC7p38
set_option linter.unusedSimpArgs false
set_option linter.unusedVariables false
namespace Go.Am
open Go Go.Proofs
set_option maxRecDepth 100000
set_option linter.unusedVariables false
noncomputable def G41n : GE := mkG [] (codI.a (.nil)) (fun x => some (nextN x.1)) cd41
theorem ge41n : GeOk 41 G41n := by
  have h : G41n = G41 := by
    unfold G41n G41
    congr 1
    funext x
    exact (V41_eq x.1).symm
  rw [h]
  exact ge41
theorem c7 : CdOk 7 Tryz.f7 := ⟨by kernel_rfl, by kernel_rfl⟩
noncomputable def b7 (n p : Nat) : Code := bp n p (bodyA Tryz.f7)
noncomputable def C7 : Cfg := base [(24, G24), (25, G25), (26, G26), (27, G27), (28, G28), (30, G30), (31, G31), (41, G41n)] [(7, Tryz.f7)] [(7, [(5, { drop := rs [(0, 2), (3, 1), (8, 1), (11, 6), (18, 150)], nt := [], nb := [] }), (8, { drop := rs [(0, 6), (7, 161)], nt := [], nb := [] }), (12, { drop := rs [(0, 6), (7, 161)], nt := [], nb := [] }), (13, { drop := rs [(0, 2), (3, 1), (8, 160)], nt := [], nb := [] }), (14, { drop := rs [(0, 6), (7, 161)], nt := [], nb := [] }), (15, { drop := rs [(0, 2), (3, 1), (8, 160)], nt := [], nb := [] }), (21, { drop := rs [(0, 4), (5, 1), (7, 4), (13, 155)], nt := [], nb := [] }), (22, { drop := rs [(0, 4), (5, 1), (8, 3), (13, 155)], nt := [], nb := [] }), (23, { drop := rs [(0, 4), (5, 1), (7, 4), (13, 155)], nt := [], nb := [] }), (24, { drop := rs [(0, 4), (5, 1), (7, 4), (13, 155)], nt := [], nb := [] })])] [] [] [] []
noncomputable def S7 (x0 : End) (x1 : Tab) (x2 : List Int) (x3 : Msg) (n : Nat) : Option AV := startK C7 n 7 Tryz.f7 [.agg (enc27 x0), .agg (enc29 x1), .sl .int x2 .none, .agg (enc25 x3)]
def keysN (i : Nat) : List Int := (List.range' 1 i).map Int.ofNat
def valsN (i : Nat) : List AV := List.replicate i (.bool true)
noncomputable def J7L (x0 : List Int) (x1 : End) (x2 : Tab) (x3 : Msg) (i : Nat) : St := ⟨6, ⟨7, ap [.undef, .undef, .sl .int x0 .none, .undef, .ptr 0 4 0, .ptr 0 5 0, .undef, .ptr 0 7 0, .undef, .int .i64 (Int.ofNat i), .mp 16 true (keysN i) (valsN i)] (ap (un 6) (ap [.int .i64 (Int.ofNat i)] (un 150))), aq (nb 4) (aq [(enc27 x1), (enc29 x2), [], (enc25 x3)] (nb 160)), [.code (b7 8 23), .code (b7 8 151), .inLoop (b7 7 23), .inBlock 0, .code (b7 4 15)]⟩, []⟩
noncomputable def J7_13 (x0 : List Int) (x1 : End) (x2 : Tab) (x3 : Msg) : St := ⟨14, ⟨7, ap [.undef, .undef, .sl .int x0 .none, .undef, .ptr 0 4 0, .ptr 0 5 0, .undef, .ptr 0 7 0] (un 160), aq (nb 4) (aq [(enc27 x1), (enc29 x2), [], (enc25 x3)] (nb 160)), [.code (b7 7 31), .code (b7 7 95), .code (b7 6 63)]⟩, []⟩
noncomputable def J7_14 : St := ⟨15, ⟨7, un 168, nb 168, [.code (b7 9 95), .code (b7 9 351), .code (b7 6 63)]⟩, []⟩
noncomputable def J7_15 (x0 : List Int) (x1 : End) (x2 : Tab) (x3 : Msg) : St := ⟨16, ⟨7, ap [.undef, .undef, .sl .int x0 .none, .undef, .ptr 0 4 0, .ptr 0 5 0, .undef, .ptr 0 7 0] (un 160), aq (nb 4) (aq [(enc27 x1), (enc29 x2), [], (enc25 x3)] (nb 160)), [.code (b7 7 63), .code (b7 7 127)]⟩, []⟩
noncomputable def J7_21 (x0 x1 : End) (x2 : Msg) : St := ⟨22, ⟨7, ap (un 4) (ap [.ptr 0 4 0] (ap (un 6) (ap [.ptr 0 11 0, .ptr 0 12 0] (un 155)))), aq (nb 4) (aq [(enc27 x0)] (aq (nb 6) (aq [(enc27 x1), (enc25 x2)] (nb 155)))), [.code (b7 13 1535), .code (b7 13 5631), .code (b7 10 1023)]⟩, []⟩
noncomputable def J7_22 (x0 : End) (x1 : Msg) (x2 : End) (x3 : Msg) : St := ⟨23, ⟨7, ap (un 4) (ap [.ptr 0 4 0, .undef, .undef, .ptr 0 7 0] (ap (un 3) (ap [.ptr 0 11 0, .ptr 0 12 0] (un 155)))), aq (nb 4) (aq [(enc27 x0), [], [], (enc25 x1)] (aq (nb 3) (aq [(enc27 x2), (enc25 x3)] (nb 155)))), [.code (b7 12 1023), .code (b7 12 3071), .code (b7 11 2047)]⟩, []⟩
noncomputable def J7_23 (x0 x1 : End) (x2 : Msg) : St := ⟨24, ⟨7, ap (un 4) (ap [.ptr 0 4 0] (ap (un 6) (ap [.ptr 0 11 0, .ptr 0 12 0] (un 155)))), aq (nb 4) (aq [(enc27 x0)] (aq (nb 6) (aq [(enc27 x1), (enc25 x2)] (nb 155)))), [.code (b7 14 3071), .code (b7 14 11263), .code (b7 11 2047)]⟩, []⟩
noncomputable def J7_24 (x0 x1 : End) (x2 : Msg) : St := ⟨25, ⟨7, ap (un 4) (ap [.ptr 0 4 0] (ap (un 6) (ap [.ptr 0 11 0, .ptr 0 12 0] (un 155)))), aq (nb 4) (aq [(enc27 x0)] (aq (nb 6) (aq [(enc27 x1), (enc25 x2)] (nb 155)))), [.code (b7 12 2047), .code (b7 12 4095)]⟩, []⟩
noncomputable abbrev cd7 : Cod (Bool) := codB
def Step7 (i j : Nat) : Prop := ∀ (x0 : List Int) (x1 : End) (x2 : Tab) (x3 : Msg), lv cd7 C7 (J7L x0 x1 x2 x3 i) = lv cd7 C7 (J7L x0 x1 x2 x3 j)
theorem loop_step {i j : Nat} (h : ∀ x0 x1 x2 x3 H z, runH C7 H z 46 (J7L x0 x1 x2 x3 i).mrk (J7L x0 x1 x2 x3 i).fr.f (J7L x0 x1 x2 x3 i).fr.tmps (J7L x0 x1 x2 x3 i).fr.bx (J7L x0 x1 x2 x3 i).fr.items (J7L x0 x1 x2 x3 i).cs = (Tr.go (R := Bool) (J7L x0 x1 x2 x3 j)).onH cd7 H) : Step7 i j := fun x0 x1 x2 x3 => Tr.lv_eq (t := .go (J7L x0 x1 x2 x3 j)) 46 (h x0 x1 x2 x3)

end Go.Am
