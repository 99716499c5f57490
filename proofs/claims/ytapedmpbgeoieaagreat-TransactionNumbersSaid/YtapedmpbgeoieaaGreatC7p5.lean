/- Part 5 of the proof: Am5. -/
import Derived.Laws.Tables
import Derived.Laws.CopyRow
import Derived.Laws.Cells
import Derived.Maps.AppendAt
import Derived.IntWalk
import Derived.Lib.SliceRun
import Derived.Test.YtapedmpbgeoieaaGreatC7p4
set_option linter.unusedSimpArgs false
set_option linter.unusedVariables false
namespace Go.Am
open Go Go.RowKit
set_option linter.unusedSimpArgs false
set_option linter.unusedVariables false

/-- The world has got new blocks; nothing that was there has turned. -/
structure Ext (x x' : X) : Prop where
  evo : Evo (fun _ => False) x x'
  below : Below x.w.heap.size x.w x'.w
  old : ∀ b o, x'.I b o → x.I b o ∨ x.w.heap.size ≤ b
  ow : ∀ b, b < x.w.heap.size → x'.ow b = x.ow b
  lt : ∀ b o, x'.I b o → b < x'.w.heap.size
  owlt : ∀ b a, x'.ow b = some a → b < x'.w.heap.size ∧ x.base ≤ b

structure Sane (x : X) : Prop where
  lt : ∀ b o, x.I b o → b < x.w.heap.size
  owlt : ∀ b a, x.ow b = some a → b < x.w.heap.size ∧ x.base ≤ b
  base : x.base ≤ x.w.heap.size

theorem Ext.refl {x : X} (h : Sane x) : Ext x x :=
  ⟨⟨rfl, rfl, fun _ _ h => ⟨h, rfl⟩, fun _ _ h _ => ⟨h, rfl, fun _ h => h⟩, fun _ _ => rfl⟩, Below.refl _ _, fun _ _ h => .inl h, fun _ _ => rfl, h.lt, h.owlt⟩

theorem lt_of_heap {w : World} {b : Nat} {o : Obj} (h : w.heap[b]? = some o) : b < w.heap.size := (Array.getElem?_eq_some_iff.1 h).1

/-- The world 'w'' has new blocks alone; of these the cells 'J' stay; 'ow'' tells the leaves of the new ones. -/
theorem Ext.of_below {x : X} (hs : Sane x) {w' : World} (hb : Below x.w.heap.size x.w w') (J : Nat → Nat → Prop) (ow' : Nat → Option Nat)
    (hJ : ∀ b o, J b o → x.w.heap.size ≤ b ∧ b < w'.heap.size) (ho : ∀ b a, ow' b = some a → x.w.heap.size ≤ b ∧ b < w'.heap.size) :
    Ext x ⟨w', fun b o => x.I b o ∨ J b o, fun b => if b < x.w.heap.size then x.ow b else ow' b, x.vo, x.el, x.base⟩ := {
  evo := ⟨rfl, rfl, fun b o h => ⟨.inl h, hb.cell (p := ⟨b, o, none⟩) (hs.lt b o h)⟩, fun b a h _ =>
    ⟨by dsimp only; rw [if_pos (hs.owlt b a h).1]; exact h, hb.block b (hs.owlt b a h).1, fun o h' => h'.elim id fun h' => absurd (hs.owlt b a h).1 (by have := (hJ b o h').1; omega)⟩, fun _ _ => rfl⟩
  below := hb
  old := fun b o h => h.imp id fun h => (hJ b o h).1
  ow := fun b h => by dsimp only; rw [if_pos h]
  lt := fun b o h => h.elim (fun h => Nat.lt_of_lt_of_le (hs.lt b o h) hb.size) fun h => (hJ b o h).2
  owlt := fun b a h => by
    dsimp only at h ⊢
    split at h
    · exact ⟨Nat.lt_of_lt_of_le (hs.owlt b a h).1 hb.size, (hs.owlt b a h).2⟩
    · exact ⟨(ho b a h).2, Nat.le_trans hs.base (ho b a h).1⟩ }

/-- What is left behind an append. -/
def AppPost (x : X) (v : AV) (tok : Tok) (w : W) (u : Value) (w' : World) : Prop :=
  ∃ x', x'.w = w' ∧ Evo (fun a => tok = .lab a) x x' ∧ Below x.base x.w w' ∧ Sane x' ∧
    (∀ b, b < x.w.heap.size → (∀ a, x.ow b = some a → tok ≠ .lab a) → x'.ow b = x.ow b ∧ w'.heap[b]? = x.w.heap[b]? ∧ ∀ o, x'.I b o → x.I b o) ∧
    (∀ b o, x'.I b o → x.I b o ∨ x.base ≤ b) ∧
    (∀ B, R x' B v u) ∧ (∀ a z, tok = .lab a → x.vo a = some z → ∀ B, R x' B (w.av a) z)

/-- How an operation of the machine stands to an action. -/
def ActOk (P : Program) (x : X) (B : List (Nat → Option Nat)) (o : Oper) (ρ : Operand → Value) : Action → Prop
  | .val v => Eff P o ρ x.w fun u w' => ∃ x', x'.w = w' ∧ Ext x x' ∧ R x' B v u
  | .load p sz ag => (ag = false → sz = 1) ∧ ∃ pv, R x B p pv ∧ ∀ b off (us : List Value), pv = .pointer (some ⟨b, off, none⟩) → us.length = sz → (∀ (j : Nat) u, us[j]? = some u → x.w.cell? ⟨b, off + j, none⟩ = some u) →
      Eff P o ρ x.w fun u w' => w' = x.w ∧ u = if ag then .agg us.toArray else us.headD undef
  | .store p cs sz => ∃ pv us, R x B p pv ∧ Rs x B cs us ∧ (∀ u ∈ us, u.oneCell' = true) ∧ (us.length = sz → ∀ b off cur ty, pv = .pointer (some ⟨b, off, none⟩) → x.w.heap[b]? = some (.cells cur ty (0, 0)) → off + sz ≤ cur.size →
      Eff P o ρ x.w fun u w' => u = undef ∧ w' = x.w.setRow b (cur.toList.take off ++ us ++ cur.toList.drop (off + us.length)).toArray)
  | .new cs => ∃ us, Rs x B cs us ∧ (∀ u ∈ us, u.oneCell' = true) ∧ Eff P o ρ x.w fun u w' => ∃ ty, u = .pointer (some ⟨x.w.heap.size, 0, none⟩) ∧ w' = x.w.alloc (.cells us.toArray ty)
  | .app v tok w => Eff P o ρ x.w fun u w' => AppPost x v tok w u w'

theorem ActOk.pure {P x B o ρ} (hs : Sane x) {v : AV} {u : Value} (hr : (execOp ρ o).run P x.w = .ok (.value u) x.w) (hv : R x B v u) : ActOk P x B o ρ (.val v) :=
  .inl ⟨u, x.w, hr, x, rfl, Ext.refl hs, hv⟩

theorem cells_ok {x B} {v : AV} {u : Value} (h1 : oneA v = true) (h : R x B v u) : Rs x B (cellsOf v) u.cells.toList ∧ ∀ c ∈ u.cells.toList, c.oneCell' = true := by
  cases v with
  | agg cs =>
    obtain ⟨us, rfl, h2, h3⟩ := h
    exact ⟨h3, h2⟩
  | undef => cases h1
  | tup => cases h1
  | int => cases h; exact ⟨⟨_, _, rfl, rfl, rfl⟩, by simp [Value.cells, Value.oneCell']⟩
  | bool => cases h; exact ⟨⟨_, _, rfl, rfl, rfl⟩, by simp [Value.cells, Value.oneCell']⟩
  | str => cases h; exact ⟨⟨_, _, rfl, rfl, rfl⟩, by simp [Value.cells, Value.oneCell']⟩
  | nilS => cases h; exact ⟨⟨_, _, rfl, rfl, rfl⟩, by simp [Value.cells, Value.oneCell']⟩
  | nilP => cases h; exact ⟨⟨_, _, rfl, rfl, rfl⟩, by simp [Value.cells, Value.oneCell']⟩
  | nilF => cases h; exact ⟨⟨_, _, rfl, rfl, rfl⟩, by simp [Value.cells, Value.oneCell']⟩
  | sl t l tok =>
    have h0 := h
    obtain ⟨A, c, rfl, _⟩ := h
    exact ⟨⟨_, _, rfl, h0, rfl⟩, by simp [Value.cells, Value.oneCell']⟩
  | lit k n cells =>
    have h0 := h
    obtain ⟨b, c, us, rfl, _⟩ := h
    exact ⟨⟨_, _, rfl, h0, rfl⟩, by simp [Value.cells, Value.oneCell']⟩
  | ptr up d off =>
    have h0 := h
    obtain ⟨_, b, _, _, rfl⟩ := h
    exact ⟨⟨_, _, rfl, h0, rfl⟩, by simp [Value.cells, Value.oneCell']⟩
  | ep t e off =>
    have h0 := h
    obtain ⟨b, o, rfl, _⟩ := h
    exact ⟨⟨_, _, rfl, h0, rfl⟩, by simp [Value.cells, Value.oneCell']⟩
  | lp cells off =>
    have h0 := h
    obtain ⟨b, us, rfl, _⟩ := h
    exact ⟨⟨_, _, rfl, h0, rfl⟩, by simp [Value.cells, Value.oneCell']⟩
  | fn g fs caps =>
    have h0 := h
    obtain ⟨vs, us, rfl, _⟩ := h
    exact ⟨⟨_, _, rfl, h0, rfl⟩, by simp [Value.cells, Value.oneCell']⟩
  | os t l a =>
    have h0 := h
    obtain ⟨_, h, _⟩ := h
    rcases h.2 with ⟨rfl, _⟩ | ⟨_, _, _, rfl, _⟩
    · exact ⟨⟨_, _, rfl, h0, rfl⟩, by simp [Value.cells, Value.oneCell']⟩
    · exact ⟨⟨_, _, rfl, h0, rfl⟩, by simp [Value.cells, Value.oneCell']⟩
  | oe t l a i off =>
    have h0 := h
    obtain ⟨b, c, _, _, rfl⟩ := h
    exact ⟨⟨_, _, rfl, h0, rfl⟩, by simp [Value.cells, Value.oneCell']⟩
  | ot t l a i =>
    have h0 := h
    obtain ⟨b, c, _, _, rfl⟩ := h
    exact ⟨⟨_, _, rfl, h0, rfl⟩, by simp [sliced, Value.cells, Value.oneCell']⟩
  | mp a uq ks vs =>
    have h0 := h
    obtain ⟨b, ents, ck, rfl, _⟩ := h
    exact ⟨⟨_, _, rfl, h0, rfl⟩, by simp [Value.cells, Value.oneCell']⟩

section
variable {P : Program} {el : ST → Nat} {C : Cfg} (hC : COk P el C) {x : X} (hs : Sane x) (hel : x.el = el) {B : List (Nat → Option Nat)} {o : Oper} {ρ : Operand → Value} {e : Operand → AV} (he : ∀ y, R x B (e y) (ρ y)) {r : Type} {res : r} {K : Action → Option r}
include hs he

theorem act_move {y : Operand} (ho : o.op = .move y ∨ o.op = .assign y) : ActOk P x B o ρ (.val (e y)) :=
  .pure hs (u := ρ y) (by rcases ho with ho | ho <;> simp [execOp, ho]) (he y)

theorem act_pick {c a b : Operand} (ho : o.op = .pick c a b) {t : Bool} (hc : e c = .bool t) : ActOk P x B o ρ (.val (if t then e a else e b)) := by
  have h := he c
  rw [hc] at h
  have h : ρ c = .bool t := h
  refine .pure hs (u := if t then ρ a else ρ b) ?_ (by cases t; exact he b; exact he a)
  cases t <;> simp [execOp, ho, h, asBool]
end

theorem rs_consts (x : X) (B) (vs : List Value) : Rs x B (vs.map ofConst) vs := Rs_of (by simp) fun i c u hc hu => by
  rw [List.getElem?_map, hu] at hc
  cases hc
  exact ofConst_ok x B u

section
variable {P : Program} {el : ST → Nat} {C : Cfg} (hC : COk P el C) {x : X} (hs : Sane x) {B : List (Nat → Option Nat)} {o : Oper} {ρ : Operand → Value} {e : Operand → AV} (he : ∀ y, R x B (e y) (ρ y))

theorem info_of {t : Nat} {ti : TI} (h : TiOk P el t ti) : ∃ i z, P.info? t = some i ∧ i.size = ti.size ∧ i.zero = some z ∧ z.cells.toList = ti.zero := by
  have h1 := h.size
  have h2 := h.zero
  cases hi : P.info? t with
  | none => rw [hi] at h1; cases h1
  | some i =>
    rw [hi] at h1 h2
    cases hz : i.zero with
    | none => simp [hz] at h2
    | some z => exact ⟨i, z, rfl, by simpa using h1, hz, by simpa [hz] using h2⟩

include hC in
theorem act_alloc {t : Nat} {ti : TI} (hl : look t C.ty = some ti) (ho : o.op = .alloc t) : ActOk P x B o ρ (.new (ti.zero.map ofConst)) := by
  have ht := hC.ty t ti hl
  obtain ⟨i, z, h1, h2, h3, h4⟩ := info_of ht
  refine ⟨ti.zero, rs_consts x B _, fun u hu => List.all_eq_true.1 ht.one u hu, .inl ⟨_, _, ?_, t, rfl, rfl⟩⟩
  simp [execOp, ho, Instr.alloc, zeroValue, typeInfo, h1, h3, newVar, newRow]
  rw [← h4]

include he in
theorem act_box {t : Nat} {y : Operand} (ho : o.op = .box t y) (h1 : oneA (e y) = true) : ActOk P x B o ρ (.new (cellsOf (e y))) := by
  obtain ⟨h2, h3⟩ := cells_ok h1 (he y)
  refine ⟨_, h2, h3, .inl ⟨_, _, ?_, t, rfl, rfl⟩⟩
  simp [execOp, ho, Instr.box, newVar, newRow]

theorem isAgg_run {t : Nat} {ti : TI} (ht : TiOk P el t ti) (w : World) : (isAgg t).run P w = .ok ti.agg w := by
  have h := ht.agg
  cases hu : P.underlying t with
  | none => simp [hu] at h
  | some d =>
    have h : isAggD d = ti.agg := by simpa [hu] using h
    unfold isAgg
    simp only [Sem.run_bind, run_underlying hu, Result.andThen_ok]
    rw [← h]
    cases d <;> rfl
theorem sizeOf_run {t : Nat} {ti : TI} (ht : TiOk P el t ti) (w : World) : (Go.sizeOf t).run P w = .ok ti.size w := by
  obtain ⟨i, z, h1, h2, _, _⟩ := info_of ht
  simp [Go.sizeOf, typeInfo, h1, h2]

theorem loadVar_run {t : Nat} {ti : TI} (ht : TiOk P el t ti) (w : World) (b off : Nat) (us : List Value) (hl : us.length = ti.size) (hc : ∀ (j : Nat) u, us[j]? = some u → w.cell? ⟨b, off + j, none⟩ = some u) :
    (loadVar t ⟨b, off, none⟩).run P w = .ok (if ti.agg then .agg us.toArray else us.headD undef) w := by
  unfold loadVar
  simp only [Sem.run_bind, isAgg_run ht, Result.andThen_ok, Sem.run_ite]
  cases ha : ti.agg with
  | true =>
    simp only [if_true, sizeOf_run ht, Result.andThen_ok, ← hl, run_loadCells_list (P := P) w ⟨b, off, none⟩ us (fun j v h => by rw [Addr.add_lit]; exact hc j v h), Sem.run_pure]
  | false =>
    have h1 := ht.sc ha
    match us, hl.trans h1 with
    | [u], _ =>
      have := hc 0 u rfl
      simp at this
      simp [run_load, this]

include hC he in
theorem act_load {t : Nat} {ti : TI} {y : Operand} (hl : look t C.ty = some ti) (ho : o.op = .load t y) : ActOk P x B o ρ (.load (e y) ti.size ti.agg) := by
  have ht := hC.ty t ti hl
  refine ⟨ht.sc, ρ y, he y, fun b off us hp hlen hc => .inl ⟨_, _, ?_, rfl, rfl⟩⟩
  simp only [execOp, ho, Instr.loadAt, hp, Instr.sureAddr, Sem.run_bind, Sem.run_pure, Result.andThen_ok, loadVar_run ht x.w b off us hlen hc]

include hC he in
theorem act_store {t : Nat} {ti : TI} {y v : Operand} (hl : look t C.ty = some ti) (ho : o.op = .store t y v) (h1 : oneA (e v) = true) : ActOk P x B o ρ (.store (e y) (cellsOf (e v)) ti.size) := by
  have ht := hC.ty t ti hl
  obtain ⟨h2, h3⟩ := cells_ok h1 (he v)
  refine ⟨ρ y, _, he y, h2, h3, fun hlen b off cur ty hp hh hfit => .inr (.inl ⟨_, ?_, rfl, rfl⟩)⟩
  have hst := run_storeCells_at P b off ty (ρ v).cells.toList 0 cur x.w hh (by rw [hlen]; simpa using hfit) h3
  simp only [Nat.add_zero] at hst
  have hlen' : (ρ v).cells.size = ti.size := by simpa using hlen
  simp [execOp, ho, Instr.storeAt, hp, Instr.sureAddr, storeVar, sizeOf_run ht, hlen', hst]

/-! ### Build -/
theorem fields_of {t : Nat} {ti : TI} (h : TiOk P el t ti) (hne : ti.flds ≠ []) : ∃ fs : Array Field, P.underlying t = some (.struct fs) ∧
    ∀ (i : Nat) x, ti.flds[i]? = some x → ∃ f : Field, fs[i]? = some f ∧ f.offset = x.1 ∧ (P.info? f.type).map (·.size) = some x.2.1 ∧ (P.underlying f.type).map isAggD = some x.2.2 ∧ x.2.1 ≠ 0 := by
  have h1 := h.flds hne
  cases hu : P.underlying t with
  | none => simp [hu] at h1
  | some d =>
    cases d with
    | struct fs =>
      refine ⟨fs, rfl, fun i x hx => ?_⟩
      simp only [hu, Option.bind_some, fieldsD, Option.map_some, Option.some.injEq] at h1
      have h2 := congrArg (·[i]?) h1
      simp only [List.getElem?_map, hx, Option.map_some] at h2
      cases hf : fs.toList[i]? with
      | none => simp [hf] at h2
      | some f =>
        rw [hf] at h2
        simp only [Option.map_some, Option.some.injEq, Prod.mk.injEq] at h2
        refine ⟨f, by simpa using hf, h2.1, h2.2.1, h2.2.2, ?_⟩
        have := List.all_eq_true.1 h.fpos x (List.mem_of_getElem? hx)
        simpa using this
    | _ => simp [hu, fieldsD] at h1

theorem fieldAddr_run {t f : Nat} {ti : TI} (h : TiOk P el t ti) {off sz : Nat} {ag : Bool} (hf : ti.flds[f]? = some (off, sz, ag)) (w : World) (b o' : Nat) :
    (Instr.fieldAt t (.pointer (some ⟨b, o', none⟩)) f).run P w = .ok (.pointer (some ⟨b, o' + off, none⟩)) w := by
  obtain ⟨fs, h1, h2⟩ := fields_of h (by intro e; rw [e] at hf; cases hf)
  obtain ⟨fd, h3, h4, h5, _, h6⟩ := h2 f _ hf
  dsimp only at h4 h5 h6
  cases hi : P.info? fd.type with
  | none => simp [hi] at h5
  | some i =>
    have h7 : i.size = sz := by simpa [hi] using h5
    simp only [Instr.fieldAt, Sem.run_bind, run_underlying h1, Result.andThen_ok, h3, Instr.sureAddr, Sem.run_pure, fieldPlace, Go.sizeOf, typeInfo, run_program, hi, h7, h6, if_false, Addr.add_lit, h4]

include hC hs he in
theorem act_fieldAddr {t f : Nat} {ti : TI} {y : Operand} (hl : look t C.ty = some ti) (ho : o.op = .fieldAddr t y f) {off sz : Nat} {ag : Bool} (hf : ti.flds[f]? = some (off, sz, ag)) {p : AV} (hp : addA off (e y) = some p) : ActOk P x B o ρ (.val p) := by
  have ht := hC.ty t ti hl
  have hy := he y
  generalize hv : e y = v at hp hy
  cases v with
  | ptr up d off' =>
    cases hp
    obtain ⟨β, b, h1, h2, h3⟩ := hy
    exact .pure hs (by simp [execOp, ho, h3, fieldAddr_run ht hf]) ⟨β, b, h1, h2, rfl⟩
  | ep st x' off' =>
    cases hp
    obtain ⟨b, o', h1, h2⟩ := hy
    exact .pure hs (u := .pointer (some ⟨b, o' + off' + off, none⟩)) (by simp [execOp, ho, h1, fieldAddr_run ht hf]) ⟨b, o', by rw [Nat.add_assoc], h2⟩
  | lp cs off' =>
    cases hp
    obtain ⟨b, us, h1, h2, h3⟩ := hy
    exact .pure hs (by simp [execOp, ho, h1, fieldAddr_run ht hf]) ⟨b, us, rfl, h2, h3⟩
  | oe st l a i off' =>
    cases hp
    obtain ⟨b, c, h1, h2, h3⟩ := hy
    exact .pure hs (u := .pointer (some ⟨b, i * st.k + off' + off, none⟩)) (by simp [execOp, ho, h3, fieldAddr_run ht hf]) ⟨b, c, h1, h2, by rw [Nat.add_assoc]⟩
  | _ => cases hp

theorem part_run {t : Nat} {i : TypeInfo} {d : TypeDesc} (hi : P.info? t = some i) (hu : P.underlying t = some d) (w : World) (us : List Value) (off : Nat) (hl : off + i.size ≤ us.length) (h1 : isAggD d = false → i.size = 1) :
    (part t us.toArray off).run P w = .ok (if isAggD d then .agg ((us.drop off).take i.size).toArray else us.getD off undef) w := by
  have ha : (isAgg t).run P w = .ok (isAggD d) w := by
    unfold isAgg
    simp only [Sem.run_bind, run_underlying hu, Result.andThen_ok]
    cases d <;> rfl
  unfold part
  simp only [Sem.run_bind, ha, Result.andThen_ok, Sem.run_ite]
  cases hb : isAggD d with
  | true =>
    simp only [if_true, Go.sizeOf, typeInfo, Sem.run_bind, run_program, Result.andThen_ok, hi, Sem.run_pure]
    congr 2
    simp [List.extract_eq_take_drop]
  | false =>
    have := h1 hb
    have hlt : off < us.length := by omega
    simp [List.getElem?_eq_getElem hlt, List.getD_eq_getElem?_getD]

include hC hs he in
theorem act_field {t f : Nat} {ti : TI} {y : Operand} (hl : look t C.ty = some ti) (ho : o.op = .field t y f) {off sz : Nat} {ag : Bool} (hf : ti.flds[f]? = some (off, sz, ag)) (hag : ag = false → sz = 1) {cs : List AV} (hy : e y = .agg cs) (hle : off + sz ≤ cs.length) :
    ActOk P x B o ρ (.val (if ag then .agg ((cs.drop off).take sz) else cs.getD off .undef)) := by
  have ht := hC.ty t ti hl
  have hv := he y
  rw [hy] at hv
  obtain ⟨us, h1, h2, h3⟩ := hv
  obtain ⟨fs, k1, k2⟩ := fields_of ht (by intro e; rw [e] at hf; cases hf)
  obtain ⟨fd, k3, k4, k5, k6, k7⟩ := k2 f _ hf
  dsimp only at k4 k5 k6 k7
  have hlen := Rs_len h3
  cases hi : P.info? fd.type with
  | none => simp [hi] at k5
  | some i =>
    have k8 : i.size = sz := by simpa [hi] using k5
    cases hu : P.underlying fd.type with
    | none => simp [hu] at k6
    | some d =>
      have k9 : isAggD d = ag := by simpa [hu] using k6
      have hp := part_run (P := P) hi hu x.w us off (by rw [k8]; omega) (by rw [k8, k9]; exact hag)
      rw [k8, k9] at hp
      refine .pure hs (u := if ag then .agg ((us.drop off).take sz).toArray else us.getD off undef) ?_ ?_
      · simp only [execOp, ho, Instr.field, Sem.run_bind, run_underlying k1, Result.andThen_ok, k3, h1, asAgg, Sem.run_pure, k4, hp]
      · cases ag with
        | true => exact ⟨_, rfl, fun u hu => h2 u (List.mem_of_mem_drop (List.mem_of_mem_take hu)), Rs_take (Rs_drop h3 off) sz⟩
        | false =>
          have hlt : off < cs.length := by have := hag rfl; omega
          obtain ⟨u, e1, e2⟩ := Rs_get h3 off cs[off] (List.getElem?_eq_getElem hlt)
          simp only [Bool.false_eq_true, if_false, List.getD_eq_getElem?_getD, e1, List.getElem?_eq_getElem hlt]
          exact e2

include hs he in
theorem act_nilCheck {y : Operand} (ho : o.op = .nilCheck y) {v : AV} (hy : e y = v) (hv : (∃ up d off, v = .ptr up d off) ∨ (∃ t x off, v = .ep t x off) ∨ (∃ cs off, v = .lp cs off) ∨ (∃ g fs caps, v = .fn g fs caps) ∨ ∃ t l a i off, v = .oe t l a i off) : ActOk P x B o ρ (.val v) := by
  have h := he y
  rw [hy] at h
  rcases hv with ⟨up, d, off, rfl⟩ | ⟨t, x', off, rfl⟩ | ⟨cs, off, rfl⟩ | ⟨g, fs, caps, rfl⟩ | ⟨t, l, a, i, off, rfl⟩
  · obtain ⟨β, b, h1, h2, h3⟩ := h
    exact .pure hs (by simp [execOp, ho, h3]) ⟨β, b, h1, h2, rfl⟩
  · obtain ⟨b, o', h1, h2⟩ := h
    exact .pure hs (by simp [execOp, ho, h1]) ⟨b, o', rfl, h2⟩
  · obtain ⟨b, us, h1, h2, h3⟩ := h
    exact .pure hs (by simp [execOp, ho, h1]) ⟨b, us, rfl, h2, h3⟩
  · obtain ⟨vs, us, h1, h2, h3⟩ := h
    exact .pure hs (by simp [execOp, ho, h1]) ⟨vs, us, rfl, h2, h3⟩
  · obtain ⟨b, c, h1, h2, h3⟩ := h
    exact .pure hs (by simp [execOp, ho, h3]) ⟨b, c, h1, h2, rfl⟩

include hs he in
theorem act_not {t : Nat} {y : Operand} (ho : o.op = .unOp .not t y) {b : Bool} (hy : e y = .bool b) : ActOk P x B o ρ (.val (.bool (!b))) := by
  have h := he y
  rw [hy] at h
  have h : ρ y = .bool b := h
  exact .pure hs (u := .bool (!b)) (by simp [execOp, ho, h, Op.unary]) rfl

theorem rs_map (he : ∀ y, R x B (e y) (ρ y)) : ∀ (l : List Operand), Rs x B (l.map e) (l.map ρ)
  | [] => rfl
  | y :: l => ⟨_, _, rfl, he y, rs_map he l⟩

include hs he in
theorem act_makeFunc {g : Nat} {first caps : Array Operand} (ho : o.op = .makeFunc (.func g) first caps) : ActOk P x B o ρ (.val (.fn g (first.toList.map e) (caps.toList.map e))) := by
  have e1 : first.map ρ = (first.toList.map ρ).toArray := by apply Array.ext'; simp
  have e2 : caps.map ρ = (caps.toList.map ρ).toArray := by apply Array.ext'; simp
  exact .pure hs (u := .func (.func g) (first.toList.map ρ).toArray (caps.toList.map ρ).toArray) (by simp only [execOp, ho, Instr.makeFunc, e1, e2, Sem.run_bind, Sem.run_pure, Result.andThen_ok]) ⟨first.toList.map ρ, caps.toList.map ρ, rfl, rs_map he _, rs_map he _⟩

include hs he in
theorem act_extract {i : Nat} {y : Operand} (ho : o.op = .extract y i) {vs : List AV} (hy : e y = .tup vs) {v : AV} (hv : vs[i]? = some v) : ActOk P x B o ρ (.val v) := by
  have h := he y
  rw [hy] at h
  obtain ⟨us, h1, h2⟩ := h
  obtain ⟨u, h3, h4⟩ := Rs_get h2 i v hv
  exact .pure hs (u := u) (by simp [execOp, ho, h1, Instr.extract, h3]) h4


/-! ### Arithmetic -/
theorem inR_wrap {k : IntKind} {n : Int} (h : inR k n = true) : k.wrap n = n := by
  have h : k.min ≤ n ∧ n ≤ k.max := of_decide_eq_true h
  cases k <;> simp only [IntKind.min, IntKind.max, IntKind.signed, IntKind.bits, IntKind.wrap] at h ⊢ <;> simp at h ⊢ <;> omega

theorem slT_ok {C : Cfg} {t : Nat} {st : ST} (h : slT C t st = true) : ∃ ti, look t C.ty = some ti ∧ ti.sl = some st ∧ ti.ebytes ≠ 0 := by
  unfold slT at h
  split at h
  · rename_i ti hl
    split at h
    · rename_i s hs
      simp at h
      exact ⟨ti, hl, by rw [hs, h.1], h.2⟩
    · cases h
  · cases h
theorem run_neq_nil {P : Program} (w : World) (t e : TypeId) (a : Option Addr) (n c : Nat) (h : P.underlying t = some (.slice e)) : (binOp .neq t (.slice a n c) (.slice none 0 0)).run P w = .ok (.bool (!a.isNone)) w := by
  have h1 := Lib.run_eql_slice_nil w t e a n c 0 0 h
  simp only [binOp, Sem.run_bind] at h1 ⊢
  cases hq : (Op.equal t (.slice a n c) (.slice none 0 0)).run P w with
  | ok v w' => rw [hq] at h1; simp at h1 ⊢; exact ⟨by rw [h1.1], h1.2⟩
  | _ => rw [hq] at h1; simp at h1

theorem cond_some {α : Type} {b : Bool} {a c : Option α} {r : α} (h : cond b a c = some r) : (b = true ∧ a = some r) ∨ (b = false ∧ c = some r) := by
  cases b
  · exact .inr ⟨rfl, h⟩
  · exact .inl ⟨rfl, h⟩

include hC hs he in
theorem act_bin {op : BinOp} {t t' : Nat} {y z : Operand} (ho : o.op = .binOp op t y z t') {wr : Bool} {α : Type} {K : AV → Option α} {r : α} (h : binA C wr t op (e y) (e z) K = some r) : ∃ v, K v = some r ∧ ActOk P x B o ρ (.val v) := by
  have hy := he y
  have hz := he z
  unfold binA at h
  split at h
  · rename_i k a k' b e1 e2
    rw [e1] at hy; rw [e2] at hz
    have hy : ρ y = .int k a := hy
    have hz : ρ z = .int k' b := hz
    have hg : ∀ op, (eqGuard op t y z (.int k a) (.int k' b)).run P x.w = .ok () x.w := by intro op; cases op <;> simp [eqGuard]
    have fin : ∀ v u, (binOp op t (.int k a) (.int k' b)).run P x.w = .ok u x.w → R x B v u → ActOk P x B o ρ (.val v) := fun v u hr hv =>
      .pure hs (u := u) (by simp only [execOp, ho, hy, hz, Sem.run_bind, hg, Result.andThen_ok, hr, Sem.run_pure]) hv
    split at h
    · rcases cond_some h with ⟨h1, h2⟩ | ⟨_, h2⟩
      · have h1 : 0 ≤ b := of_decide_eq_true h1
        exact ⟨_, h2, fin _ _ (by simp [binOp, Op.shift, show ¬ b < 0 by omega]; rfl) rfl⟩
      · cases h2
    · cases h
    · rename_i hne1 hne2
      split at h
      · rename_i hk
        subst hk
        split at h
        · split at h
          · exact ⟨_, h, fin _ _ (by simp [binOp, Op.intArith]) rfl⟩
          · rcases cond_some h with ⟨h1, h2⟩ | ⟨_, h2⟩
            · exact ⟨_, h2, fin _ _ (by simp [binOp, Op.intArith, inR_wrap h1]) rfl⟩
            · cases h2
        · split at h
          · exact ⟨_, h, fin _ _ (by simp [binOp, Op.intArith]) rfl⟩
          · rcases cond_some h with ⟨h1, h2⟩ | ⟨_, h2⟩
            · exact ⟨_, h2, fin _ _ (by simp [binOp, Op.intArith, inR_wrap h1]) rfl⟩
            · cases h2
        · split at h
          · exact ⟨_, h, fin _ _ (by simp [binOp, Op.intArith]) rfl⟩
          · rcases cond_some h with ⟨h1, h2⟩ | ⟨_, h2⟩
            · exact ⟨_, h2, fin _ _ (by simp [binOp, Op.intArith, inR_wrap h1]) rfl⟩
            · cases h2
        · rcases cond_some h with ⟨_, h2⟩ | ⟨h1, h2⟩
          · cases h2
          · have h1 : ¬ b = 0 := of_decide_eq_false h1
            exact ⟨_, h2, fin _ _ (by simp [binOp, Op.intDiv, h1]) rfl⟩
        · rcases cond_some h with ⟨_, h2⟩ | ⟨h1, h2⟩
          · cases h2
          · have h1 : ¬ b = 0 := of_decide_eq_false h1
            rcases cond_some h2 with ⟨h3, h4⟩ | ⟨_, h4⟩
            · exact ⟨_, h4, fin _ _ (by simp [binOp, Op.intDiv, h1, inR_wrap h3]) rfl⟩
            · cases h4
        · exact ⟨_, h, fin _ _ (by simp [binOp, Op.intBits]; rfl) rfl⟩
        · exact ⟨_, h, fin _ (.bool (decide (a = b))) (by simp [binOp, Op.intCmp]; rfl) rfl⟩
        · exact ⟨_, h, fin _ (.bool (!decide (a = b))) (by simp [binOp, Op.intCmp, bne]; rfl) rfl⟩
        · exact ⟨_, h, fin _ (.bool (decide (a < b))) (by simp [binOp, Op.intCmp]) rfl⟩
        · exact ⟨_, h, fin _ (.bool (decide (a ≤ b))) (by simp [binOp, Op.intCmp]) rfl⟩
        · exact ⟨_, h, fin _ (.bool (decide (b < a))) (by simp [binOp, Op.intCmp]) rfl⟩
        · exact ⟨_, h, fin _ (.bool (decide (b ≤ a))) (by simp [binOp, Op.intCmp]) rfl⟩
        · cases h
      · cases h
  · rename_i a b e1 e2
    rw [e1] at hy; rw [e2] at hz
    have hy : ρ y = .bool a := hy
    have hz : ρ z = .bool b := hz
    have hg : ∀ op, (eqGuard op t y z (.bool a) (.bool b)).run P x.w = .ok () x.w := by intro op; cases op <;> simp [eqGuard]
    split at h
    · rename_i ht
      have ht : t = C.boolT := by simpa using ht
      have hu := hC.bool
      rw [← ht] at hu
      have hq' : ∀ d, (Op.equalIn (d + 1) t (.bool a) (.bool b)).run P x.w = .ok (a == b) x.w := by
        intro d
        simp only [Op.equalIn, Sem.run_bind, run_underlying hu, Result.andThen_ok, Sem.run_pure]
      have hq : (Op.equal t (.bool a) (.bool b)).run P x.w = .ok (a == b) x.w := hq' 9999
      split at h
      · exact ⟨_, h, .pure hs (u := .bool (a == b)) (by simp only [execOp, ho, hy, hz, Sem.run_bind, hg, Result.andThen_ok, binOp, hq, Sem.run_pure]) rfl⟩
      · exact ⟨_, h, .pure hs (u := .bool (!(a == b))) (by simp only [execOp, ho, hy, hz, Sem.run_bind, hg, Result.andThen_ok, binOp, hq, Sem.run_pure]) rfl⟩
      · cases h
    · cases h
  · rename_i st l b e1 e2
    rw [e1] at hy; rw [e2] at hz
    have hz : ρ z = .slice none 0 0 := hz
    obtain ⟨A, c, hy, _, _, A', n', c', hy', hb⟩ := hy
    rw [hy] at hy'
    injection hy' with hA _ _
    subst hA hb
    have hg : ∀ op, (eqGuard op t y z (.slice A l.length c) (.slice none 0 0)).run P x.w = .ok () x.w := by intro op; cases op <;> simp [eqGuard]
    split at h
    · rename_i hT
      obtain ⟨ti, hl, hsl, _⟩ := slT_ok hT
      have hu := ((hC.ty t ti hl).sl st hsl).1
      split at h
      · exact ⟨_, h, .pure hs (u := .bool A.isNone) (by simp only [execOp, ho, hy, hz, Sem.run_bind, hg, Result.andThen_ok, Lib.run_eql_slice_nil x.w t _ A l.length c 0 0 hu, Sem.run_pure]) rfl⟩
      · exact ⟨_, h, .pure hs (u := .bool (!A.isNone)) (by simp only [execOp, ho, hy, hz, Sem.run_bind, hg, Result.andThen_ok, run_neq_nil x.w t _ A l.length c hu, Sem.run_pure]) rfl⟩
      · cases h
    · cases h
  · rename_i a b e1 e2
    rw [e1] at hy; rw [e2] at hz
    have hy : ρ y = .string a := hy
    have hz : ρ z = .string b := hz
    have hg : ∀ op, (eqGuard op t y z (.string a) (.string b)).run P x.w = .ok () x.w := by intro op; cases op <;> simp [eqGuard]
    split at h
    · exact ⟨_, h, .pure hs (u := .bool (a.toList == b.toList)) (by simp only [execOp, ho, hy, hz, Sem.run_bind, hg, Result.andThen_ok, binOp, Op.stringOp, Sem.run_pure]) rfl⟩
    · exact ⟨_, h, .pure hs (u := .bool (!(a.toList == b.toList))) (by simp only [execOp, ho, hy, hz, Sem.run_bind, hg, Result.andThen_ok, binOp, Op.stringOp, Sem.run_pure]) rfl⟩
    · cases h
  · rename_i cs ds e1 e2
    rw [e1] at hy; rw [e2] at hz
    obtain ⟨us, hy, _, hy'⟩ := hy
    obtain ⟨vs, hz, _, hz'⟩ := hz
    split at h
    · rename_i sh hl
      split at h
      · rename_i hc
        have hc : shapeOk sh cs = true ∧ shapeOk sh ds = true := by simpa using hc
        split at h
        · rename_i b hb
          have := (hC.eqT t sh hl x B cs ds us vs b hc.1 hc.2 hb hy' hz' y z x.w).1
          exact ⟨_, h, .pure hs (u := .bool b) (by simp only [execOp, ho, hy, hz, Sem.run_bind] at this ⊢; rw [this]; simp) rfl⟩
        · rename_i b hb
          have := (hC.eqT t sh hl x B cs ds us vs b hc.1 hc.2 hb hy' hz' y z x.w).2
          exact ⟨_, h, .pure hs (u := .bool (!b)) (by simp only [execOp, ho, hy, hz, Sem.run_bind] at this ⊢; rw [this]; simp) rfl⟩
        · cases h
      · cases h
    · cases h
  · cases h
end

section
variable {P : Program} {el : ST → Nat} {C : Cfg} (hC : COk P el C) {x : X} (hs : Sane x) (hel : x.el = el) {B : List (Nat → Option Nat)} {o : Oper} {ρ : Operand → Value} {e : Operand → AV} (he : ∀ y, R x B (e y) (ρ y))

theorem nrm_ok {t : Nat} {v : AV} {u : Value} (h : R x B v u) : R x B (nrm C t v) u := by
  unfold nrm
  split
  · split
    · split
      · have h : u = .slice none 0 0 := h
        exact ⟨none, 0, h, Nat.le_refl _, .inl (by simp), h⟩
      · exact h
    · exact h
  · exact h

theorem sl_info {t : Nat} {ti : TI} (ht : TiOk P el t ti) {st : ST} (hst : ti.sl = some st) : P.underlying t = some (.slice (el st)) ∧ ∃ i z, P.info? (el st) = some i ∧ i.size = st.k ∧ i.bytes = ti.ebytes ∧ i.zero = some z ∧ z.cells.size = st.k := by
  obtain ⟨h1, h2, h3⟩ := ht.sl st hst
  refine ⟨h1, ?_⟩
  cases hi : P.info? (el st) with
  | none => simp [hi] at h2
  | some i =>
    rw [hi] at h2 h3
    simp only [Option.map_some, Option.some.injEq, Prod.mk.injEq, Option.bind_some] at h2 h3
    cases hz : i.zero with
    | none => simp [hz] at h3
    | some z => exact ⟨i, z, rfl, h2.1, h2.2, hz, by simpa [hz] using h3⟩

theorem At.rows {b o' : Nat} {t : ST} {l : List t.El} (h : At x b o' (rowsV t l)) (i : Nat) (y : t.El) (hy : l[i]? = some y) : At x b (o' + i * t.k) (rowV t y) := fun j u hu => by
  have := h (i * t.k + j) u (rowsV_at t l i y hy j u hu)
  rwa [← Nat.add_assoc] at this

theorem st_k_pos (t : ST) : 0 < t.k := by cases t <;> decide

/-- What the table says of slices of this type: that it has one, is looked up where the abstract value is a typed slice. -/
def slOk (C : Cfg) (t : Nat) (st : ST) : Prop := ∃ ti, look t C.ty = some ti ∧ ti.sl = some st

end
end Go.Am
