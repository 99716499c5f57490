/- Part 22 of the proof: Am22. -/
import Derived.Test.YtapedmpbgeoieaaGreatC7p21
set_option linter.unusedSimpArgs false
set_option linter.unusedVariables false
namespace Go.Am
open Go Go.Proofs
set_option linter.unusedSimpArgs false
set_option linter.unusedVariables false

noncomputable abbrev Q : Program := Tryz.prog

def eqTs : List (Nat × List Bool) := [(115, [true, true, true, false, true, true]), (125, [true, true])]
def mts : List (Nat × List Value × Bool) := [(237, [.nilFunc, .nilFunc], true), (128, [.nilFunc], false), (55, [.bool false], false)]
def base (Γ : List (Nat × GE)) (code : List (Nat × Func)) (rst : List (Nat × List (Nat × Fix))) (lb : List (Nat × Nat)) (wr : List Nat) (res : List (Nat × Option Nat × ST)) (lin : List (Nat × LE)) : Cfg := { ty := tys, Γ, code, rst, eqT := eqTs, boolT := 4, lb, wr, res, lin, mt := mts }
theorem zeroOf {t : Nat} {i : TypeInfo} {z : Value} (h : Q.info? t = some i) (hz : i.zero = some z) (w : World) : (zeroValue t).run Q w = .ok z w := by simp [zeroValue, typeInfo, h, hz]
theorem mt_ok {t kt el : Nat} {zv : Value} {z : List Value} {ag : Bool} (h1 : Q.underlying t = some (.map kt el)) (h2 : Q.underlying kt = some (.int .i64)) (h3 : (Q.info? el).bind (·.zero) = some zv) (h4 : zv = (if ag then .agg z.toArray else z.headD undef)) (h5 : z.all (·.oneCell') = true) : MtOk Q t z ag := by
  cases hi : Q.info? el with
  | none => simp [hi] at h3
  | some i => exact ⟨kt, el, zv, h1, h2, fun w => zeroOf hi (by simpa [hi] using h3) w, h4, fun u hu => List.all_eq_true.1 h5 u hu⟩

theorem f125 : (Q.fieldsOf 125).toList.map (fun f => (f.name == "_", f.type, f.offset)) = [(false, 3, 0), (false, 3, 1)] := by kernel_rfl
theorem f115 : (Q.fieldsOf 115).toList.map (fun f => (f.name == "_", f.type, f.offset)) = [(false, 3, 0), (false, 3, 1), (false, 3, 2), (false, 4, 3), (false, 3, 4), (false, 3, 5)] := by kernel_rfl
theorem u125 : Q.underlying 125 = some (.struct (Q.fieldsOf 125)) := by kernel_rfl
theorem u115 : Q.underlying 115 = some (.struct (Q.fieldsOf 115)) := by kernel_rfl
theorem s125 : Q.stoodInHeld 125 = false := by kernel_rfl
theorem s115 : Q.stoodInHeld 115 = false := by kernel_rfl
theorem g125 : Q.eqGuardType Q.depth 125 = false := by kernel_rfl
theorem g115 : Q.eqGuardType Q.depth 115 = false := by kernel_rfl
theorem u3 : Q.underlying 3 = some (.int .i64) := by kernel_rfl
theorem u4 : Q.underlying 4 = some .bool := by kernel_rfl

theorem isAgg3 (w : World) : (isAgg 3).run Q w = .ok false w := by
  unfold isAgg; simp [run_underlying u3]
theorem isAgg4 (w : World) : (isAgg 4).run Q w = .ok false w := by
  unfold isAgg; simp [run_underlying u4]

/-- Struct equality over flat fields of ints and bools. -/
theorem eqFields_flat (d : Nat) (w : World) : ∀ (fs : List Field) (sh : List Bool) (i : Nat) (us vs : List Value) (xs ys : Array Value),
    fs.map (fun f => (f.name == "_", f.type, f.offset)) = (sh.zipIdx i).map (fun x => (false, (if x.1 then 3 else 4 : Nat), x.2)) →
    (∀ j u, us[j]? = some u → xs[i + j]? = some u) → (∀ j u, vs[j]? = some u → ys[i + j]? = some u) →
    ∀ (x : X) (B) (cs ds : List AV) (b : Bool), shapeOk sh cs = true → shapeOk sh ds = true → eqCells cs ds = some b → Rs x B cs us → Rs x B ds vs →
      (Op.eqFields (d + 1) xs ys fs).run Q w = .ok b w
  | [], [], i, us, vs, xs, ys, _, hx, hy, x, B, cs, ds, b, hc, hd, he, h1, h2 => by
    cases cs <;> cases ds <;> simp_all [shapeOk, eqCells, Op.eqFields]
  | [], _ :: _, _, _, _, _, _, h, _, _, _, _, _, _, _, _, _, _, _, _ => by simp at h
  | _ :: _, [], _, _, _, _, _, h, _, _, _, _, _, _, _, _, _, _, _, _ => by simp at h
  | f :: fs, s :: sh, i, us, vs, xs, ys, h, hx, hy, x, B, cs, ds, b, hc, hd, he, h1, h2 => by
    simp only [List.map_cons, List.zipIdx_cons, List.cons.injEq, Prod.mk.injEq] at h
    obtain ⟨⟨hn, ht, ho⟩, hr⟩ := h
    have hn : f.name ≠ "_" := by simpa using hn
    have key : ∀ (u v : Value) (us' vs' : List Value) (cs' ds' : List AV) (p q : Bool), us = u :: us' → vs = v :: vs' → shapeOk sh cs' = true → shapeOk sh ds' = true → eqCells cs' ds' = some q → Rs x B cs' us' → Rs x B ds' vs' → b = (p && q) →
        (isAgg f.type).run Q w = .ok false w → (Op.equalIn (d + 1) f.type u v).run Q w = .ok p w → (Op.eqFields (d + 1) xs ys (f :: fs)).run Q w = .ok b w := by
      intro u v us' vs' cs' ds' p q hu hv k1 k2 k3 k4 k5 hb ha hq
      subst hu hv
      have hrec := eqFields_flat d w fs sh (i + 1) us' vs' xs ys hr (fun j u hj => by have := hx (j + 1) u (by simpa using hj); rwa [← Nat.add_assoc, Nat.add_right_comm] at this) (fun j u hj => by have := hy (j + 1) u (by simpa using hj); rwa [← Nat.add_assoc, Nat.add_right_comm] at this) x B cs' ds' q k1 k2 k3 k4 k5
      have e1 : xs[f.offset]? = some u := by rw [ho]; exact hx 0 u rfl
      have e2 : ys[f.offset]? = some v := by rw [ho]; exact hy 0 v rfl
      have p1 : (part f.type xs f.offset).run Q w = .ok u w := by unfold part; simp [ha, e1]
      have p2 : (part f.type ys f.offset).run Q w = .ok v w := by unfold part; simp [ha, e2]
      simp only [Op.eqFields, hn, ne_eq, not_false_eq_true, if_true, Sem.run_bind, p1, p2, hq, Result.andThen_ok, Sem.run_ite]
      cases p
      · simp [hb]
      · simp [hb, hrec]
    cases s with
    | true =>
      simp only [if_true] at ht
      match cs, ds, hc, hd with
      | .int .i64 a :: cs, .int .i64 c :: ds, hc, hd =>
        obtain ⟨u, us', rfl, hu, h1⟩ := h1
        obtain ⟨v, vs', rfl, hv, h2⟩ := h2
        have hu : u = .int .i64 a := hu
        have hv : v = .int .i64 c := hv
        subst hu hv
        simp only [eqCells, if_true, Option.map_eq_some_iff] at he
        obtain ⟨q, hq, rfl⟩ := he
        exact key _ _ us' vs' cs ds (decide (a = c)) q rfl rfl hc hd hq h1 h2 rfl (by rw [ht]; exact isAgg3 w) (by rw [ht, run_equalIn_int w d 3 .i64 .i64 a c u3]; simp [BEq.beq])
    | false =>
      simp only [Bool.false_eq_true, if_false] at ht
      match cs, ds, hc, hd with
      | .bool a :: cs, .bool c :: ds, hc, hd =>
        obtain ⟨u, us', rfl, hu, h1⟩ := h1
        obtain ⟨v, vs', rfl, hv, h2⟩ := h2
        have hu : u = .bool a := hu
        have hv : v = .bool c := hv
        subst hu hv
        simp only [eqCells, Option.map_eq_some_iff] at he
        obtain ⟨q, hq, rfl⟩ := he
        exact key _ _ us' vs' cs ds (a == c) q rfl rfl hc hd hq h1 h2 rfl (by rw [ht]; exact isAgg4 w) (by rw [ht]; exact run_equalIn_bool w d 4 a c u4)

theorem eqT_ok (t : Nat) (sh : List Bool) (hu : Q.underlying t = some (.struct (Q.fieldsOf t))) (hs : Q.stoodInHeld t = false) (hg : Q.eqGuardType Q.depth t = false)
    (hf : (Q.fieldsOf t).toList.map (fun f => (f.name == "_", f.type, f.offset)) = (sh.zipIdx 0).map (fun x => (false, (if x.1 then 3 else 4 : Nat), x.2)))
    (x : X) (B) (cs ds : List AV) (us vs : List Value) (b : Bool) (hc : shapeOk sh cs = true) (hd : shapeOk sh ds = true) (he : eqCells cs ds = some b) (h1 : Rs x B cs us) (h2 : Rs x B ds vs) (p q : Operand) (w : World) :
    ((do eqGuard .eql t p q (.agg us.toArray) (.agg vs.toArray); binOp .eql t (.agg us.toArray) (.agg vs.toArray)) : Sem Value).run Q w = .ok (.bool b) w ∧
    ((do eqGuard .neq t p q (.agg us.toArray) (.agg vs.toArray); binOp .neq t (.agg us.toArray) (.agg vs.toArray)) : Sem Value).run Q w = .ok (.bool (!b)) w := by
  have hq : (Op.equalIn 10000 t (.agg us.toArray) (.agg vs.toArray)).run Q w = .ok b w := by
    rw [run_equalIn_struct w 9999 t us.toArray vs.toArray hu hs]
    exact eqFields_flat 9998 w _ sh 0 us vs us.toArray vs.toArray hf (fun j u h => by simpa using h) (fun j u h => by simpa using h) x B cs ds b hc hd he h1 h2
  constructor
  · simp only [Sem.run_bind, run_eqGuard_agg w .eql t p q _ _ hg, Result.andThen_ok, run_eql_struct, hq]
  · simp only [Sem.run_bind, run_eqGuard_agg w .neq t p q _ _ hg, Result.andThen_ok, run_neq_struct, hq]

def SpecsOk (Γ : List (Nat × GE)) : Prop := ∀ p ∈ Γ, Spec Q elT p.1 p.2.F ∧ ∃ fn, Q.funcs[p.1]? = some fn ∧ fn.body.isSome = true ∧ (fn.name == "runtime.NumGoroutine") = false
def CodesOk (code : List (Nat × Func)) : Prop := ∀ p ∈ code, Q.funcs[p.1]? = some p.2 ∧ (p.2.name == "runtime.NumGoroutine") = false

theorem mts_ok : ∀ p ∈ mts, MtOk Q p.1 p.2.1 p.2.2 := by
  intro p h
  simp only [mts, List.mem_cons, List.mem_nil_iff, or_false] at h
  rcases h with rfl | rfl | rfl
  · exact mt_ok (kt := 3) (el := 236) (zv := .agg #[.nilFunc, .nilFunc]) (by kernel_rfl) (by kernel_rfl) (by kernel_rfl) rfl rfl
  · exact mt_ok (kt := 3) (el := 127) (zv := .nilFunc) (by kernel_rfl) (by kernel_rfl) (by kernel_rfl) rfl rfl
  · exact mt_ok (kt := 3) (el := 4) (zv := .bool false) (by kernel_rfl) (by kernel_rfl) (by kernel_rfl) rfl rfl
theorem zel_ok {st : ST} {i : TypeInfo} {z : Value} (h : Q.info? (elT st) = some i) (hz : i.zero = some z) (h1 : ((Q.info? (elT st)).bind (·.zero)).map (·.cells.toList) = some (rowV st st.dflt)) : z.cells.toList = rowV st st.dflt := by
  rw [h] at h1; simpa [hz] using h1
theorem zels : ∀ st i z, Q.info? (elT st) = some i → i.zero = some z → z.cells.toList = rowV st st.dflt := by
  intro st i z h hz
  cases st
  · exact zel_ok h hz (by kernel_rfl)
  · exact zel_ok h hz (by kernel_rfl)
  · exact zel_ok h hz (by kernel_rfl)
  · exact zel_ok h hz (by kernel_rfl)
  · exact zel_ok h hz (by kernel_rfl)
  · exact zel_ok h hz (by kernel_rfl)
def LinsOk (lin : List (Nat × LE)) : Prop := ∀ p ∈ lin, LinOk Q elT p.1 p.2 ∧ ∃ fn, Q.funcs[p.1]? = some fn ∧ fn.body.isSome = true ∧ (fn.name == "runtime.NumGoroutine") = false

theorem base_ok {Γ code rst lb wr res lin} (hΓ : SpecsOk Γ) (hc : CodesOk code) (hl : LinsOk lin) : COk Q elT (base Γ code rst lb wr res lin) := {
  lin := fun g F h => hl (g, F) (look_mem h)
  mt := fun t z h => mts_ok (t, z) (look_mem h)
  zel := zels
  ty := fun t ti h => tys_ok (t, ti) (look_mem h)
  spec := fun g F h => hΓ (g, F) (look_mem h)
  code := fun g fn h => hc (g, fn) (look_mem h)
  mixed := by kernel_rfl
  bool := by kernel_rfl
  eqT := by
    intro t sh h
    have := look_mem h
    simp only [base, eqTs, List.mem_cons, Prod.mk.injEq, List.mem_nil_iff, or_false] at this
    rcases this with ⟨rfl, rfl⟩ | ⟨rfl, rfl⟩
    · exact eqT_ok 115 _ u115 s115 g115 f115
    · exact eqT_ok 125 _ u125 s125 g125 f125 }

theorem LinsOk.nil : LinsOk [] := fun _ h => by cases h
theorem LinsOk.cons {g : Nat} {L : LE} {lin} (h : LinOk Q elT g L ∧ ∃ fn, Q.funcs[g]? = some fn ∧ fn.body.isSome = true ∧ (fn.name == "runtime.NumGoroutine") = false) (hs : LinsOk lin) : LinsOk ((g, L) :: lin) := List.forall_mem_cons.2 ⟨h, hs⟩
theorem SpecsOk.nil : SpecsOk [] := fun _ h => by cases h
theorem SpecsOk.cons {g : Nat} {G : GE} {Γ} (h : Spec Q elT g G.F ∧ ∃ fn, Q.funcs[g]? = some fn ∧ fn.body.isSome = true ∧ (fn.name == "runtime.NumGoroutine") = false) (hs : SpecsOk Γ) : SpecsOk ((g, G) :: Γ) := List.forall_mem_cons.2 ⟨h, hs⟩
theorem CodesOk.nil : CodesOk [] := fun _ h => by cases h
theorem CodesOk.cons {g : Nat} {fn : Func} {code} (h : Q.funcs[g]? = some fn ∧ (fn.name == "runtime.NumGoroutine") = false) (hs : CodesOk code) : CodesOk ((g, fn) :: code) := List.forall_mem_cons.2 ⟨h, hs⟩
end Go.Am
