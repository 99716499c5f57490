/- TransactionFinishes: for every input the law returns true, and its arguments read as they did. No condition. -/
import Derived.Test.YtapedmpbgeoieaaGreatC4p35
import Derived.Test.YtapedmpbgeoieaaGreatC4p36
import Derived.Test.YtapedmpbgeoieaaGreatC4p37
set_option linter.unusedSimpArgs false
set_option linter.unusedVariables false
namespace Go.Proofs.YtapedmpbgeoieaaGreat.transactionFinishes
open Go Go.Am Go.Proofs Go.ChangeShapes Go.WideShapes Go.ChangeAt Go.RowKit
set_option linter.unusedVariables false

set_option maxRecDepth 100000 in
theorem lifted (os : Os) (started : os.Started) (H : Type) (enc : TypeId × Value → H) :
    ReturnsInHanded {} Tryz.checked os 4 .any (Rows.transactionFinishesSpec.pre6 enc Tryz.prog Tryz.f4 Rows.transactionFinishesRow.domain false) (Rows.transactionFinishesSpec.post enc Tryz.prog Tryz.f4 false true false false) := by
  refine returnsInHanded_of_change (C := Tryz.checked) ownQ started (by kernel_rfl) Tryz.func4
    (ChangeSpec.witness6 (enc := enc) (C := Tryz.checked) false ⟨#[], #[.agg #[.int .i64 0, .int .i64 0, .int .i64 0, .slice none 0 0, .bool false, .int .i64 0, .int .i64 0, .bool false, .int .i64 0, .int .i64 0, .int .i64 0, .slice none 0 0, .slice none 0 0, .bool false, .int .i64 0, .bool false, .int .i64 0, .int .i64 0, .int .i64 0, .slice none 0 0, .slice none 0 0, .int .i64 0, .bool false, .int .i64 0, .int .i64 0, .int .i64 0, .slice none 0 0, .slice none 0 0], .agg #[.int .i64 0, .bool false, .int .i64 0, .int .i64 0, .int .i64 0, .slice none 0 0, .slice none 0 0]], []⟩ 8 (by kernel_rfl) (by kernel_rfl) (by kernel_rfl) (by kernel_rfl)) ?_
  intro W base args ds gs before hval0 hW hcnd _
  have hval : ∀ (j : Nat) t v, Tryz.f4.params[j]? = some t → args[j]? = some v → Value.okWide Tryz.prog W .any base t v := hval0
  have hW' := hW
  obtain ⟨p, q, hA0, hV, rfl, hfz, hnd⟩ := hW
  have hA : DataW.TrodAll enc Tryz.prog W 0 (fun _ => true) true Tryz.f4.params.toList args.toList ds p := hA0
  rw [Tryz.params4] at hA hval
  obtain ⟨v0, vs0, d0, ds0, p0, q0, hargs, rfl, rfl, h0, r0⟩ := trodAll_cons hA
  obtain ⟨v1, vs1, d1, ds1, p1, q1, rfl, rfl, rfl, h1, r1⟩ := trodAll_cons r0
  obtain ⟨rfl, rfl, rfl⟩ := trodAll_nil r1
  obtain rfl : args = #[v0, v1] := by cases args; simp_all
  obtain ⟨rfl, rfl⟩ := trodVars_none hV
  have lt0 : ∀ x ∈ p0, x.block < W.heap.size := by obtain ⟨m, hm⟩ := h0; exact DataW.trod_lt m _ _ _ hm
  obtain ⟨a0, e0⟩ := arg_struct Tryz.underlying27 o27 (hval 0 27 v0 rfl rfl) h0
  have lt1 : ∀ x ∈ p1, x.block < W.heap.size := by obtain ⟨m, hm⟩ := h1; exact DataW.trod_lt m _ _ _ hm
  obtain ⟨a1, e1⟩ := arg_struct Tryz.underlying25 o25 (hval 1 25 v1 rfl rfl) h1
  clear hA0 hval0
  have hF : G4.F [.agg (enc27 a0), .agg (enc25 a1)] = some (.bool true) := by
    show _root_.cond ((some (V4 a0 a1).isSome).getD false) (some (cd4.enc ((V4 a0 a1).getD default))) none = _
    rw [V4_true a0 a1]
    rfl
  refine (walk_of ge4 rfl hF ⟨_, _, rfl, e0, ⟨_, _, rfl, e1, rfl⟩⟩).mono fun e W' ⟨he, bel⟩ => ?_
  subst he
  exact ⟨_, rfl, _, _, _, [], _, [], hW', trodAll_mk1 (shut_bool Tryz.underlying4 _), (trodAll_cons_mk (Below.trod laidQ (by kernel_rfl) (of_decide_eq_true (by kernel_rfl)) h0 bel lt0) (trodAll_cons_mk (Below.trod laidQ (by kernel_rfl) (of_decide_eq_true (by kernel_rfl)) h1 bel lt1) trodAll_mk0)), rfl, bel.frame _, fun h => by cases h⟩

theorem in_place : Tryz.prog.inPlace 4 = Rows.transactionFinishesRow.inPlace := by kernel_rfl
theorem un_followed : Tryz.prog.unfollowed 4 = true := by kernel_rfl
theorem re_curses : Tryz.prog.recurses 4 = true := by unfold Program.recurses; rw [un_followed]; rfl
theorem vars_named : Tryz.prog.varsNamed 4 = [] := by kernel_rfl
theorem joined : joinedFacts Tryz.prog 4 Tryz.f4 Rows.transactionFinishesSpec Rows.transactionFinishesRow = true := by
  unfold joinedFacts
  rw [in_place, un_followed, re_curses, vars_named, may_enter, lifts_final, make_cut]
  kernel_rfl
theorem over : Rows.transactionFinishesRow.holds Tryz.pinned (OpenSpec.ofChange Rows.transactionFinishesSpec) :=
  OpenClaim.holds_of_wide 4 Tryz.f4 rfl rfl rfl rfl rfl rfl rfl ⟨rfl, rfl, rfl, rfl, rfl⟩ rfl rfl rfl rfl rfl (by kernel_rfl) Tryz.func4 joined
    (of_decide_eq_true (by kernel_rfl)) (by unfold Func.isWrapper; rw [if_neg (of_decide_eq_false (by kernel_rfl))]; exact ⟨rfl, rfl⟩)
    (fun os started H enc _ => lifted os started H enc)

theorem proved : Rows.TransactionFinishesSaid := over
#print axioms proved
end Go.Proofs.YtapedmpbgeoieaaGreat.transactionFinishes
