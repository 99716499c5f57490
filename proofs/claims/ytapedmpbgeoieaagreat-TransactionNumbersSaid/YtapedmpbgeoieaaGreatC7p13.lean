/- Part 13 of the proof: Am13. -/
import Derived.Test.YtapedmpbgeoieaaGreatC7p12
set_option linter.unusedSimpArgs false
set_option linter.unusedVariables false
namespace Go.Am
open Go Go.RowKit
set_option linter.unusedSimpArgs false
set_option linter.unusedVariables false
set_option linter.unusedSectionVars false

theorem fillA_congr {e e' : Operand → AV} (ti : TI) : ∀ (parts : List (Nat × Operand)) (cs : List AV), (∀ p ∈ parts, e p.2 = e' p.2) → fillA ti e parts cs = fillA ti e' parts cs
  | [], cs, _ => rfl
  | (i, y) :: parts, cs, h => by
    simp only [fillA, h (i, y) List.mem_cons_self]
    split
    · split
      · exact fillA_congr ti parts _ fun p hp => h p (List.mem_cons_of_mem _ hp)
      · rfl
    · rfl
theorem litA_congr {e e' : Operand → AV} : ∀ (parts : List (Nat × Operand)) (i : Nat), (∀ p ∈ parts, e p.2 = e' p.2) → litA e i parts = litA e' i parts
  | [], i, _ => rfl
  | (j, y) :: parts, i, h => by
    simp only [litA, h (j, y) List.mem_cons_self, litA_congr parts (i + 1) fun p hp => h p (List.mem_cons_of_mem _ hp)]

theorem act_congr {C : Cfg} {ρ : Type} {o : Oper} {e e' : Operand → AV} {K : Action → Option ρ} (h : ∀ y ∈ o.op.operands, e y = e' y) : act C o e K = act C o e' K := by
  obtain ⟨dst, op, type, pos, after, guard⟩ := o
  cases op with
  | build t ps =>
    simp only [Op.operands] at h
    simp only [act, fillA_congr (e := e) (e' := e') _ ps.toList _ fun p hp => h p.2 (by simp; exact ⟨p.1, by simpa using hp⟩)]
  | buildSlice t n ps =>
    simp only [Op.operands] at h
    simp only [act, litA_congr (e := e) (e' := e') ps.toList 0 fun p hp => h p.2 (by simp; exact ⟨p.1, by simpa using hp⟩)]
  | makeFunc fn first captured =>
    simp only [Op.operands] at h
    have h1 : first.toList.map e = first.toList.map e' := List.map_congr_left fun y hy => h y (by simp; exact .inl (by simpa using hy))
    have h2 : captured.toList.map e = captured.toList.map e' := List.map_congr_left fun y hy => h y (by simp; exact .inr (by simpa using hy))
    cases fn <;> simp only [act, h1, h2]
  | slice t x lo hi mx =>
    simp only [Op.operands] at h
    have hx := h x (by simp)
    cases mx with
    | some m => rfl
    | none =>
      have h1 : lo.map e = lo.map e' := by cases lo with
        | none => rfl
        | some a => simp [h a (by simp)]
      have h2 : hi.map e = hi.map e' := by cases hi with
        | none => rfl
        | some a => simp [h a (by simp)]
      simp only [act, hx, h1, h2]
  | call c =>
    obtain ⟨callee, args, at'⟩ := c
    simp only [Op.operands, Call.operands] at h
    cases callee with
    | value f =>
      have hf := h f (by simp)
      have h1 : args.toList.map e = args.toList.map e' := List.map_congr_left fun y hy => h y (by simp; exact .inr (by simpa using hy))
      simp only [act, hf, h1]
    | builtin b =>
      have h1 : ∀ y ∈ args.toList, e y = e' y := fun y hy => h y (by simpa using hy)
      simp only [act]
      split
      · rename_i y t ha ht
        rw [h1 y (by rw [ha]; simp)]
      · rename_i y z t t' ha ht
        rw [h1 y (by rw [ha]; simp), h1 z (by rw [ha]; simp)]
      · rename_i y t ha ht
        rw [h1 y (by rw [ha]; simp)]
      · rename_i y z ha
        rw [h1 y (by rw [ha]; simp), h1 z (by rw [ha]; simp)]
      · rename_i y z ha
        rw [h1 y (by rw [ha]; simp), h1 z (by rw [ha]; simp)]
      · rfl
    | invoke _ _ => rfl
  | unOp op t y =>
    simp only [Op.operands] at h
    cases op <;> simp only [act, h y (by simp)]
  | makeMap t r =>
    cases r <;> rfl
  | lookup t m k ok =>
    simp only [Op.operands] at h
    cases ok
    · simp only [act, h m (by simp), h k (by simp)]
    · rfl
  | _ =>
    simp only [Op.operands] at h
    first
      | rfl
      | (simp only [act]; simp_all; done)

/-! ### One operation, said without what follows -/
def wantA (ops : Array Oper) (o : Oper) (tmps : List AV) : Option Bool :=
  match o.guard with
  | none => some true
  | some (g, want) => match (ops[g]?).bind (·.dst) with
    | some t => match tmps[t]? with
      | some (.bool b) => some (b == want)
      | some (.tup []) => some false
      | _ => none
    | none => none

theorem guardA_some {ρ : Type} {ops : Array Oper} {o : Oper} {fr : Fr} {yes no : Fr → Option ρ} {r : ρ} (h : guardA ops o fr yes no = some r) :
    (wantA ops o fr.tmps = some true ∧ yes fr = some r) ∨ (wantA ops o fr.tmps = some false ∧ no fr = some r) := by
  unfold guardA at h
  unfold wantA
  cases hg : o.guard with
  | none => rw [hg] at h; exact .inl ⟨rfl, h⟩
  | some gw =>
    obtain ⟨g, want⟩ := gw
    rw [hg] at h
    dsimp only at h ⊢
    split at h
    · rename_i t ht
      rw [ht]
      dsimp only
      split at h
      · rename_i b hb
        rw [hb]
        have hset : fr.tmps.set t (.bool b) = fr.tmps := by
          apply List.ext_getElem?
          intro i
          rw [List.getElem?_set]
          split
          · rename_i hi
            subst hi
            split
            · exact hb.symm
            · rename_i hlt; rw [List.getElem?_eq_none (by omega)] at hb; cases hb
          · rfl
        cases b
        · rcases cond_some h with ⟨h1, _⟩ | ⟨_, h⟩
          · cases h1
          · rw [hset] at h
            cases want
            · exact .inl ⟨rfl, h⟩
            · exact .inr ⟨rfl, h⟩
        · rcases cond_some h with ⟨_, h⟩ | ⟨h1, _⟩
          · rw [hset] at h
            cases want
            · exact .inr ⟨rfl, h⟩
            · exact .inl ⟨rfl, h⟩
          · cases h1
      · rename_i hb
        rw [hb]
        exact .inr ⟨rfl, h⟩
      · cases h
    · cases h

/-- The operation's action, and whether it is made at all. -/
def actA (C : Cfg) (ops : Array Oper) (o : Oper) (tmps : List AV) : Option (Action × Bool) :=
  match wantA ops o tmps with
  | some true => (act C o (ev tmps) some).map fun a => (a, true)
  | some false => some (.val (.tup []), false)
  | none => none
def logM (ops : Array Oper) (o : Oper) (fr : Fr) (cs : List Fr) (m : Bool) (a : Action) : Log := if m then logOf ops o fr cs a else Log.none
def opA (C : Cfg) (ops : Array Oper) (i : Nat) (s : Fr × List Fr) : Option ((Fr × List Fr) × Log) :=
  match ops[i]? with
  | none => none
  | some o => match actA C ops o s.1.tmps with
    | some (a, m) => (perform o.dst s.1 s.2 a).map (·, logM ops o s.1 s.2 m a)
    | none => none
def runA (C : Cfg) (ops : Array Oper) : List Nat → Fr × List Fr → Option ((Fr × List Fr) × List (Nat × Log))
  | [], s => some (s, [])
  | i :: l, s => match opA C ops i s with
    | some (s, a) => (runA C ops l s).map fun x => (x.1, (i, a) :: x.2)
    | none => none

def okPair (bf : List Nat) (p q : Nat × Log) : Prop := (bf.getD q.1 0).testBit p.1 = true ∨ p.2.compat q.2 = true

theorem acc_move (a : Acc) : a.compat .move = true ∧ Acc.move.compat a = true := by cases a <;> exact ⟨rfl, rfl⟩
theorem compat_move (a : Log) : a.compat Log.none = true := by simp [Log.compat, Log.none, (acc_move a.1).1]

theorem draw_some {C : Cfg} {ρ : Type} {ops : Array Oper} {bf : List Nat} {k : Fr → List Fr → Option ρ} {r : ρ} : ∀ (l : List Nat) (log : List (Nat × Log)) (fr : Fr) (cs : List Fr), draw C ops bf k l log fr cs = some r →
    ∃ s accs, runA C ops l (fr, cs) = some (s, accs) ∧ k s.1 s.2 = some r ∧ (∀ q ∈ accs, ∀ p ∈ log, okPair bf p q) ∧ accs.Pairwise (okPair bf)
  | [], log, fr, cs, h => ⟨(fr, cs), [], rfl, h, by simp, List.Pairwise.nil⟩
  | i :: l, log, fr, cs, h => by
    simp only [draw] at h
    split at h
    · cases h
    · rename_i o ho
      rcases guardA_some h with ⟨hw, h⟩ | ⟨hw, h⟩
      · obtain ⟨a, ha, h⟩ := act_bind h
        split at h
        · rename_i hlog
          split at h
          · rename_i fr' cs' hp
            obtain ⟨s, accs, h1, h2, h3, h4⟩ := draw_some l _ fr' cs' h
            refine ⟨s, (i, logOf ops o fr cs a) :: accs, ?_, h2, ?_, List.Pairwise.cons (fun q hq => h3 q hq _ List.mem_cons_self) h4⟩
            · simp [runA, opA, ho, actA, hw, ha, hp, h1, logM]
            · intro q hq p hp'
              rcases List.mem_cons.1 hq with rfl | hq
              · have := List.all_eq_true.1 hlog p hp'
                simpa [okPair] using this
              · exact h3 q hq p (List.mem_cons_of_mem _ hp')
          · cases h
        · cases h
      · obtain ⟨s, accs, h1, h2, h3, h4⟩ := draw_some l _ (fr.put o.dst (.tup [])) cs h
        refine ⟨s, (i, Log.none) :: accs, ?_, h2, ?_, List.Pairwise.cons (fun q hq => h3 q hq _ List.mem_cons_self) h4⟩
        · simp [runA, opA, ho, actA, hw, perform, h1, logM]
        · intro q hq p hp'
          rcases List.mem_cons.1 hq with rfl | hq
          · exact .inr (compat_move _)
          · exact h3 q hq p (List.mem_cons_of_mem _ hp')

/-! ### What another operation leaves of the temporaries -/
theorem ev_set {tmps : List AV} {d : Nat} {v : AV} {y : Operand} (h : y ≠ .tmp d) : ev (tmps.set d v) y = ev tmps y := by
  cases y with
  | tmp t =>
    have hne : d ≠ t := fun e => h (e ▸ rfl)
    simp only [ev, List.getD_eq_getElem?_getD, List.getElem?_set, if_neg hne]
  | _ => rfl

theorem actA_set {C : Cfg} {ops : Array Oper} {o : Oper} {tmps : List AV} {d : Nat} {v : AV} (h : d ∉ o.looksAt ops) : actA C ops o (tmps.set d v) = actA C ops o tmps := by
  have h1 : wantA ops o (tmps.set d v) = wantA ops o tmps := by
    unfold wantA
    cases hg : o.guard with
    | none => rfl
    | some gw =>
      obtain ⟨g, want⟩ := gw
      dsimp only
      cases ht : (ops[g]?).bind (·.dst) with
      | none => rfl
      | some t =>
        have hne : d ≠ t := fun e => h (by subst e; simp [Oper.looksAt, hg, ht])
        simp only [List.getElem?_set, if_neg hne]
  have h2 : act C o (ev (tmps.set d v)) some = act C o (ev tmps) some := act_congr fun y hy => ev_set fun e => h (by
    subst e
    exact List.mem_append_left _ (List.mem_filterMap.2 ⟨.tmp d, by simpa using hy, rfl⟩))
  unfold actA
  rw [h1, h2]

end Go.Am
