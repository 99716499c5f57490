/- Part 4 of the proof: Am4. -/
import Derived.Test.YtapedmpbgeoieaaGreatC7p3
set_option linter.unusedSimpArgs false
set_option linter.unusedVariables false
namespace Go.Am
open Go Go.RowKit

def isAggD : TypeDesc → Bool
  | .struct _ | .array _ _ => true
  | _ => false
def fieldsD : TypeDesc → Option (List Field)
  | .struct fs => some fs.toList
  | _ => none
structure TiOk (P : Program) (el : ST → Nat) (t : Nat) (ti : TI) : Prop where
  size : (P.info? t).map (·.size) = some ti.size
  pos : ti.size ≠ 0
  zero : ((P.info? t).bind (·.zero)).map (·.cells.toList) = some ti.zero
  one : ti.zero.all (·.oneCell') = true
  agg : (P.underlying t).map isAggD = some ti.agg
  sc : ti.agg = false → ti.size = 1
  flds : ti.flds ≠ [] → ((P.underlying t).bind fieldsD).map (fun fs => fs.map fun f => (f.offset, (P.info? f.type).map (·.size), (P.underlying f.type).map isAggD)) = some (ti.flds.map fun x => (x.1, some x.2.1, some x.2.2))
  fpos : ti.flds.all (fun x => x.2.1 != 0) = true
  fsc : ti.flds.all (fun x => x.2.2 || x.2.1 == 1) = true
  sl : ∀ st, ti.sl = some st → P.underlying t = some (.slice (el st)) ∧ (P.info? (el st)).map (fun i => (i.size, i.bytes)) = some (st.k, ti.ebytes) ∧ ((P.info? (el st)).bind (·.zero)).map (·.cells.size) = some st.k
  lit : ti.sl = none → ti.esize ≠ 0 → P.underlying t = some (.slice ti.el) ∧ (P.info? ti.el).map (·.size) = some ti.esize ∧ ((P.info? ti.el).bind (·.zero)).map (·.cells.size) = some ti.esize
  ik : ∀ k, ti.ik = some k → P.underlying t = some (.int k)
  arr : ∀ n s, ti.arr = some (n, s) → (P.underlying t).bind (fun | .array n e => (P.info? e).map fun i => (n, i.size) | _ => none) = some (n, s)

def xAt (w : World) (I : Nat → Nat → Prop) (el : ST → Nat) (base : Nat) : X := ⟨w, I, fun _ => none, fun _ => none, el, base⟩

/-- A contract: on every world, with arguments that stand for 'args', the call returns what stands for 'F args'; what was there stays. -/
def Spec (P : Program) (el : ST → Nat) (f : Nat) (F : List AV → Option AV) : Prop :=
  ∀ (I : Nat → Nat → Prop) (w : World) (args : List AV) (vs : List Value) (r : AV), args.all (ground D) = true → F args = some r → (∀ b o, I b o → b < w.heap.size) →
    Rs (xAt w I el 0) [] args vs →
    Calls P f vs.toArray w fun e w' => ∃ v, e = .returned v ∧ Below w.heap.size w w' ∧ R (xAt w' (fun b o => I b o ∨ (w.heap.size ≤ b ∧ b < w'.heap.size)) el 0) [] r v

def CloneOk (P : Program) (el : ST → Nat) (g : Nat) (st : ST) (eb : Nat) : Prop :=
  ∀ (I : Nat → Nat → Prop) (w : World) (l : List st.El) (v : Value), (∀ b o, I b o → b < w.heap.size) → SlR (xAt w I el 0) st l .none v → l.length * eb ≤ 70368744177664 →
    Calls P g #[v] w fun e w' => ∃ v', e = .returned v' ∧ Below w.heap.size w w' ∧ w'.ownsRow w.heap.size (el st) st.k v' l.length (rowsV st l)
def OwnOk (P : Program) (el : ST → Nat) (g : Nat) (pre : List AV → List Cell → Bool) (val : List AV → List Cell → Option (List Cell)) : Prop :=
  ∀ (x : X) (B : List (Nat → Option Nat)) (l l' : List Cell) (v : Value) (rest : List AV) (us : List Value), x.base ≤ x.w.heap.size → (∀ b o, x.I b o → b < x.w.heap.size) → x.el = el →
    x.w.ownsRow x.base (el .cell) 6 v l.length (rowsV .cell l) → (∀ b, v.ownBlock = some b → ∀ o, ¬ x.I b o) → Rs x B rest us → pre rest l = true → val rest l = some l' →
    Calls P g (v :: us).toArray x.w fun e w' => ∃ v', e = .returned v' ∧ w'.ownsRow x.base (el .cell) 6 v' l'.length (rowsV .cell l') ∧ x.w.grownBy w' v.ownBlock ∧ (v'.ownBlock = v.ownBlock ∨ ∃ b, v'.ownBlock = some b ∧ x.w.heap.size ≤ b)
def UpdOk (P : Program) (el : ST → Nat) (g : Nat) (pre : List AV → List Cell → Bool) (val : List AV → List Cell → Option (List Cell)) : Prop :=
  ∀ (x : X) (B : List (Nat → Option Nat)) (l l' : List Cell) (v : Value) (rest : List AV) (us : List Value), x.base ≤ x.w.heap.size → (∀ b o, x.I b o → b < x.w.heap.size) → x.el = el →
    x.w.ownsRow x.base (el .cell) 6 v l.length (rowsV .cell l) → (∀ b, v.ownBlock = some b → ∀ o, ¬ x.I b o) → Rs x B rest us → pre rest l = true → val rest l = some l' →
    Calls P g (v :: us).toArray x.w fun e w' => e = .returned (.tuple #[]) ∧ w'.ownsRow x.base (el .cell) 6 v l'.length (rowsV .cell l') ∧ x.w.grownBy w' v.ownBlock
def FmapOk (P : Program) (g : Nat) (ks : List Int) (vs : List AV) : Prop :=
  ∀ (w : World), Calls P g #[] w fun e w' => ∃ b ents ck, e = .returned (.map (some b)) ∧ Below w.heap.size w w' ∧ w.heap.size ≤ b ∧ w'.heap[b]? = some (.map ents ck) ∧ EntsR ks vs ents.toList
def LinOk (P : Program) (el : ST → Nat) (g : Nat) : LE → Prop
  | .clone st eb => CloneOk P el g st eb
  | .own pre val => OwnOk P el g pre val
  | .upd pre val => UpdOk P el g pre val
  | .fmap ks vs => FmapOk P g ks vs
def MtOk (P : Program) (t : Nat) (z : List Value) (ag : Bool) : Prop :=
  ∃ kt el zv, P.underlying t = some (.map kt el) ∧ P.underlying kt = some (.int .i64) ∧ (∀ w, (zeroValue el).run P w = .ok zv w) ∧ zv = (if ag then .agg z.toArray else z.headD undef) ∧ ∀ u ∈ z, u.oneCell' = true

structure COk (P : Program) (el : ST → Nat) (C : Cfg) : Prop where
  ty : ∀ t ti, look t C.ty = some ti → TiOk P el t ti
  spec : ∀ g G, look g C.Γ = some G → Spec P el g (GE.F G) ∧ ∃ fn, P.funcs[g]? = some fn ∧ fn.body.isSome = true ∧ (fn.name == "runtime.NumGoroutine") = false
  code : ∀ g fn, look g C.code = some fn → P.funcs[g]? = some fn ∧ (fn.name == "runtime.NumGoroutine") = false
  lin : ∀ g L, look g C.lin = some L → LinOk P el g L ∧ ∃ fn, P.funcs[g]? = some fn ∧ fn.body.isSome = true ∧ (fn.name == "runtime.NumGoroutine") = false
  mt : ∀ t z, look t C.mt = some z → MtOk P t z.1 z.2
  zel : ∀ st i z, P.info? (el st) = some i → i.zero = some z → z.cells.toList = rowV st st.dflt
  mixed : P.follows .mixedOrders = true
  bool : P.underlying C.boolT = some .bool
  eqT : ∀ t sh, look t C.eqT = some sh → ∀ (x : X) (B) (cs ds : List AV) (us vs : List Value) (b : Bool), shapeOk sh cs = true → shapeOk sh ds = true → eqCells cs ds = some b → Rs x B cs us → Rs x B ds vs → ∀ (p q : Operand) (w : World),
    ((do eqGuard .eql t p q (.agg us.toArray) (.agg vs.toArray); binOp .eql t (.agg us.toArray) (.agg vs.toArray)) : Sem Value).run P w = .ok (.bool b) w ∧
    ((do eqGuard .neq t p q (.agg us.toArray) (.agg vs.toArray); binOp .neq t (.agg us.toArray) (.agg vs.toArray)) : Sem Value).run P w = .ok (.bool (!b)) w

theorem look_mem {α : Type} {t : Nat} {x : α} : ∀ {l : List (Nat × α)}, look t l = some x → (t, x) ∈ l
  | [], h => by simp [look] at h
  | (u, y) :: l, h => by
    simp only [look] at h
    split at h
    · rename_i e
      cases h
      have : u = t := by simpa using e
      subst this
      exact List.mem_cons_self
    · exact List.mem_cons_of_mem _ (look_mem h)

/-- What one operation does to the world. -/
def Eff (P : Program) (o : Oper) (ρ : Operand → Value) (w : World) (Ψ : Value → World → Prop) : Prop :=
  (∃ u w', (execOp ρ o).run P w = .ok (.value u) w' ∧ Ψ u w') ∨ (∃ w', (execOp ρ o).run P w = .ok .skip w' ∧ Ψ undef w') ∨
  (∃ g args w1, (execOp ρ o).run P w = .ok (.enter g args) w1 ∧ Calls P g args w1 fun e w' => ∃ v, e = .returned v ∧ Ψ v w')

theorem Eff.mono {P o ρ w} {Ψ Ψ' : Value → World → Prop} (h : Eff P o ρ w Ψ) (hm : ∀ u w', Ψ u w' → Ψ' u w') : Eff P o ρ w Ψ' := by
  rcases h with ⟨u, w', h1, h2⟩ | ⟨w', h1, h2⟩ | ⟨g, args, w1, h1, h2⟩
  · exact .inl ⟨u, w', h1, hm _ _ h2⟩
  · exact .inr (.inl ⟨w', h1, hm _ _ h2⟩)
  · exact .inr (.inr ⟨g, args, w1, h1, h2.mono fun _ _ ⟨v, h3, h4⟩ => ⟨v, h3, hm _ _ h4⟩⟩)

theorem Eff.wp {P : Program} {o : Oper} {a : Act} {w : World} {Ψ : Value → World → Prop} {K : Act → World → Prop} {Q : Exit → Act → World → Prop} (h : Eff P o a.eval w Ψ) (hk : ∀ u w', Ψ u w' → K (a.put o.dst u) w') : o.wp P a w K Q := by
  unfold Oper.wp
  rcases h with ⟨u, w', h1, h2⟩ | ⟨w', h1, h2⟩ | ⟨g, args, w1, h1, h2⟩
  · rw [h1]; exact hk _ _ h2
  · rw [h1]; exact hk _ _ h2
  · rw [h1]
    refine h2.mono ?_
    rintro e w' ⟨v, rfl, h3⟩
    exact hk _ _ h3

theorem Eff.goes {P : Program} {o : Oper} {b : Frame} {a : Act} {w : World} {Ψ : Value → World → Prop} (h : Eff P o a.eval w Ψ)
    {ops : Array Oper} {i : Nat} (ho : ops[i]? = some o) (hw : Region.wanted o (yielded ops a.tmps) = true) (rest : List Nat) (k : List Item) (cs : List Frame) :
    ∃ u w', Ψ u w' ∧ Steps P (lone (b.at a (.inRegion ops (i :: rest) :: k)) cs w) (lone (b.at (a.put o.dst u) (.inRegion ops rest :: k)) cs w') := by
  have hg := stepG_op (P := P) (b := b) (k := k) (cs := cs) (w := w) (rest := rest) ho hw
  have hfin : ∀ v, (b.at a (.inRegion ops (i :: rest) :: k)).finish v = b.at (a.put o.dst v) (.inRegion ops rest :: k) := by
    intro v; rw [Frame.finish_at, ho]; rfl
  rcases h with ⟨u, w', h1, h2⟩ | ⟨w', h1, h2⟩ | ⟨g, args, w1, h1, h2⟩
  · refine ⟨u, w', h2, .one (step_lone_go ?_)⟩
    rw [hg, ← hfin]; simp [stepG.apply, h1]
  · refine ⟨undef, w', h2, .one (step_lone_go ?_)⟩
    rw [hg, ← hfin]; simp [stepG.apply, h1]
  · obtain ⟨e, w'', fr, ⟨v, rfl, h3⟩, hsteps, _, hleave⟩ := h2 (b.at a (.inRegion ops (i :: rest) :: k) :: cs)
    have henter : step P (lone (b.at a (.inRegion ops (i :: rest) :: k)) cs w) =
        .next (lone (Frame.enter P g args .normal) (b.at a (.inRegion ops (i :: rest) :: k) :: cs) w1) :=
      step_lone_go (by rw [hg]; simp [stepG.apply, h1, Frame.at])
    refine ⟨v, w'', h3, .head henter (hsteps.trans (.one ?_))⟩
    rw [← hfin]; exact step_leave_returned hleave

/-- What the abstract operand stands for. -/
theorem ofConst_ok (x : X) (B) (v : Value) : R x B (ofConst v) v := by
  unfold ofConst
  split <;> trivial
theorem ev_ok {x : X} {B} {tmps : List AV} {a : Act} (h : Rs x B tmps a.tmps.toList) (o : Operand) : R x B (ev tmps o) (a.eval o) := by
  cases o with
  | tmp t =>
    simp only [ev, Act.eval]
    rcases Nat.lt_or_ge t tmps.length with hlt | hge
    · obtain ⟨u, h1, h2⟩ := Rs_get h t tmps[t] (List.getElem?_eq_getElem hlt)
      have : a.tmps.getD t undef = u := by
        have h3 : a.tmps[t]? = some u := by simpa using h1
        simp [Array.getD_eq_getD_getElem?, h3]
      rw [this, List.getD_eq_getElem?_getD, List.getElem?_eq_getElem hlt]
      exact h2
    · rw [List.getD_eq_getElem?_getD, List.getElem?_eq_none hge]
      trivial
  | const v => exact ofConst_ok x B v
  | global g => trivial
  | func f => exact ⟨[], [], rfl, rfl, rfl⟩

theorem put_ok {x : X} {B} {tmps : List AV} {a : Act} (h : Rs x B tmps a.tmps.toList) {v : AV} {u : Value} (hv : R x B v u) (dst : Option Nat) (fr : Fr) (hf : fr.tmps = tmps) :
    Rs x B (fr.put dst v).tmps (a.put dst u).tmps.toList := by
  subst hf
  cases dst with
  | none => exact h
  | some d =>
    simp only [Fr.put, Act.put, Array.toList_setIfInBounds]
    exact Rs_set h hv d

end Go.Am
