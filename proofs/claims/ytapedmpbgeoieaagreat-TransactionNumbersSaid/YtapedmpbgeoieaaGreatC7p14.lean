/- Part 14 of the proof: Am14. -/
import Derived.Test.YtapedmpbgeoieaaGreatC7p13
set_option linter.unusedSimpArgs false
set_option linter.unusedVariables false
namespace Go.Am
open Go Go.RowKit
set_option linter.unusedSimpArgs false
set_option linter.unusedVariables false
set_option linter.unusedSectionVars false

inductive ME where
  | cst (v : AV)
  | rd (u d : Nat) (g : Option (List AV) → Option AV)
  | wr (u d : Nat) (h : Option (List AV) → Option (List AV)) (v : AV)
  | bad

def ME.run : ME → List Fr → Option (AV × List Fr)
  | .cst v, frs => some (v, frs)
  | .rd u d g, frs => (frs[u]?).bind fun c => (g c.bx[d]?).map fun v => (v, frs)
  | .wr u d h v, frs => (frs[u]?).bind fun c => (h c.bx[d]?).map fun l => (v, frs.set u { c with bx := c.bx.set d l })
  | .bad, _ => none

def oneOr (ag : Bool) (l : List AV) : AV := if ag then .agg l else l.headD .undef

def meOf (dst : Option Nat) : Action → ME
  | .val v => .cst v
  | .load p sz ag => match p with
    | .ptr u d off => .rd u d fun b => (takeN sz off (b.getD [])).map fun l => oneOr ag (if u = 0 then l else l.map (shift u D))
    | .ep t x off => match takeN sz off (t.row x) with
      | some l => .cst (oneOr ag l)
      | none => .bad
    | .lp cells off => match takeN sz off cells with
      | some l => .cst (oneOr ag l)
      | none => .bad
    | .oe t l _ i off => match takeN sz off (t.row (l.getD i t.dflt)) with
      | some l => .cst (oneOr ag l)
      | none => .bad
    | _ => .bad
  | .store p vs sz => if vs.length == sz then (match p with
    | .ptr 0 d off => .wr 0 d (fun b => if off + vs.length ≤ (b.getD []).length then some (putN off vs (b.getD [])) else none) (.tup [])
    | .ptr (u + 1) d off => match vs.mapM (unshift (u + 1) D) with
      | some vs => .wr (u + 1) d (fun b => if off + vs.length ≤ (b.getD []).length then some (putN off vs (b.getD [])) else none) (.tup [])
      | none => .bad
    | _ => .bad) else .bad
  | .new l => match dst, l with
    | some d, _ :: _ => .wr 0 d (fun | some [] => some l | _ => none) (.ptr 0 d 0)
    | _, _ => .bad
  | .app _ _ _ => .bad

def isApp : Action → Bool
  | .app _ _ _ => true
  | _ => false

def fin (dst : Option Nat) : Option (AV × List Fr) → Option (Fr × List Fr)
  | some (v, fr :: cs) => some (fr.put dst v, cs)
  | _ => none

theorem perform_me {dst : Option Nat} {fr : Fr} {cs : List Fr} {a : Action} (ha : isApp a = false) : perform dst fr cs a = fin dst ((meOf dst a).run (fr :: cs)) := by
  cases a with
  | val v => rfl
  | load p sz ag =>
    simp only [perform, meOf]
    cases p with
    | ptr u d off =>
      cases u with
      | zero =>
        simp only [readP, ME.run, List.getElem?_cons_zero, Option.bind_some, if_true, List.getD_eq_getElem?_getD]
        cases takeN sz off (fr.bx[d]?.getD []) <;> rfl
      | succ u =>
        simp only [readP, ME.run, List.getElem?_cons_succ, List.getD_eq_getElem?_getD]
        cases cs[u]? with
        | none => rfl
        | some c =>
          simp only [Option.bind_some, Nat.succ_ne_zero, if_false]
          cases takeN sz off (c.bx[d]?.getD []) <;> rfl
    | ep t x off =>
      simp only [readP]
      cases takeN sz off (t.row x) <;> rfl
    | lp cells off =>
      simp only [readP]
      cases takeN sz off cells <;> rfl
    | oe t l a i off =>
      simp only [readP]
      cases takeN sz off (t.row (l.getD i t.dflt)) <;> rfl
    | _ => rfl
  | store p vs sz =>
    simp only [perform, meOf]
    split
    · cases p with
      | ptr u d off =>
        cases u with
        | zero =>
          simp only [writeP, ME.run, List.getElem?_cons_zero, Option.bind_some, List.getD_eq_getElem?_getD]
          by_cases h : off + vs.length ≤ (fr.bx[d]?.getD []).length
          · simp only [if_pos h, Option.map_some, List.set_cons_zero, fin]
          · simp only [if_neg h, Option.map_none, fin]
        | succ u =>
          simp only [writeP]
          cases hm : vs.mapM (unshift (u + 1) D) with
          | none => cases cs[u]? <;> rfl
          | some vs' =>
            simp only [ME.run, List.getElem?_cons_succ, List.getD_eq_getElem?_getD]
            cases cs[u]? with
            | none => rfl
            | some c =>
              dsimp only
              simp only [Option.bind_some]
              by_cases h : off + vs'.length ≤ (c.bx[d]?.getD []).length
              · simp only [if_pos h, Option.map_some, List.set_cons_succ, fin]
              · simp only [if_neg h, Option.map_none, fin]
      | _ => rfl
    · rfl
  | new l =>
    simp only [perform, meOf]
    cases dst with
    | none => rfl
    | some d =>
      cases l with
      | nil =>
        dsimp only
        split <;> simp_all [ME.run, fin]
      | cons c l =>
        simp only [ME.run, List.getElem?_cons_zero, Option.bind_some]
        cases hb : fr.bx[d]? with
        | none => rfl
        | some b => cases b <;> rfl
  | app => cases ha

def putF (dst : Option Nat) (v : AV) : List Fr → List Fr
  | fr :: cs => fr.put dst v :: cs
  | [] => []

theorem put_bx (fr : Fr) (dst : Option Nat) (v : AV) : (fr.put dst v).bx = fr.bx := by cases dst <;> rfl
theorem put_with (fr : Fr) (dst : Option Nat) (v : AV) (b : List (List AV)) : { fr.put dst v with bx := b } = ({ fr with bx := b } : Fr).put dst v := by cases dst <;> rfl
theorem put_tmps (fr : Fr) (dst : Option Nat) (v : AV) : (fr.put dst v).tmps = (match dst with | some d => fr.tmps.set d v | none => fr.tmps) := by cases dst <;> rfl

theorem run_putF (m : ME) (dst : Option Nat) (v : AV) (frs : List Fr) : m.run (putF dst v frs) = (m.run frs).map fun x => (x.1, putF dst v x.2) := by
  cases frs with
  | nil => cases m <;> simp [ME.run, putF]
  | cons fr cs =>
    cases m with
    | cst w => rfl
    | bad => rfl
    | rd u d g =>
      cases u with
      | zero =>
        simp only [putF, ME.run, List.getElem?_cons_zero, Option.bind_some, put_bx]
        cases g fr.bx[d]? <;> rfl
      | succ u =>
        simp only [putF, ME.run, List.getElem?_cons_succ]
        cases cs[u]? with
        | none => rfl
        | some c =>
          simp only [Option.bind_some]
          cases g c.bx[d]? <;> rfl
    | wr u d h w =>
      cases u with
      | zero =>
        simp only [putF, ME.run, List.getElem?_cons_zero, Option.bind_some, put_bx]
        cases h fr.bx[d]? with
        | none => rfl
        | some l => simp only [Option.map_some, List.set_cons_zero, putF, put_with]
      | succ u =>
        simp only [putF, ME.run, List.getElem?_cons_succ]
        cases cs[u]? with
        | none => rfl
        | some c =>
          simp only [Option.bind_some]
          cases h c.bx[d]? <;> rfl

def ME.foot : ME → Option (Nat × Nat)
  | .rd u d _ => some (u, d)
  | .wr u d _ _ => some (u, d)
  | _ => none
def ME.isWr : ME → Bool
  | .wr .. => true
  | _ => false
/-- They do not meet. -/
def ME.apart (m n : ME) : Prop := (m.isWr = true ∨ n.isWr = true) → ∀ p, m.foot = some p → n.foot ≠ some p

theorem box_other {frs : List Fr} {u d : Nat} {c : Fr} {l : List AV} (hc : frs[u]? = some c) {u' d' : Nat} (hne : ¬ (u = u' ∧ d = d')) :
    (∀ {c' : Fr}, frs[u']? = some c' → ∃ c2, (frs.set u { c with bx := c.bx.set d l })[u']? = some c2 ∧ c2.bx[d']? = c'.bx[d']? ∧ ((u ≠ u' ∧ c2 = c') ∨ (u = u' ∧ c' = c ∧ c2 = { c with bx := c.bx.set d l }))) := by
  intro c' hc'
  by_cases hu : u = u'
  · subst hu
    rw [hc] at hc'
    cases hc'
    have hlt : u < frs.length := by
      rcases Nat.lt_or_ge u frs.length with h | h
      · exact h
      · rw [List.getElem?_eq_none h] at hc; cases hc
    refine ⟨{ c with bx := c.bx.set d l }, by simp [hlt], ?_, .inr ⟨rfl, rfl, rfl⟩⟩
    have hd : d ≠ d' := fun h => hne ⟨rfl, h⟩
    simp [List.getElem?_set, hd]
  · exact ⟨c', by simp [List.getElem?_set, hu, hc'], rfl, .inl ⟨hu, rfl⟩⟩

theorem ME.comm {m n : ME} (hap : m.apart n) {frs f1 f2 : List Fr} {v w : AV} (h1 : m.run frs = some (v, f1)) (h2 : n.run f1 = some (w, f2)) : ∃ f1', n.run frs = some (w, f1') ∧ m.run f1' = some (v, f2) := by
  cases m with
  | bad => cases h1
  | cst v' =>
    simp only [ME.run, Option.some.injEq, Prod.mk.injEq] at h1
    obtain ⟨rfl, rfl⟩ := h1
    exact ⟨f2, h2, rfl⟩
  | rd u d g =>
    simp only [ME.run, Option.bind_eq_some_iff, Option.map_eq_some_iff, Prod.mk.injEq] at h1
    obtain ⟨c, hc, v', hg, rfl, rfl⟩ := h1
    refine ⟨f2, h2, ?_⟩
    cases n with
    | bad => cases h2
    | cst w' =>
      simp only [ME.run, Option.some.injEq, Prod.mk.injEq] at h2
      obtain ⟨rfl, rfl⟩ := h2
      simp [ME.run, hc, hg]
    | rd u' d' g' =>
      simp only [ME.run, Option.bind_eq_some_iff, Option.map_eq_some_iff, Prod.mk.injEq] at h2
      obtain ⟨c', hc', w', hg', rfl, rfl⟩ := h2
      simp [ME.run, hc, hg]
    | wr u' d' h' w' =>
      simp only [ME.run, Option.bind_eq_some_iff, Option.map_eq_some_iff, Prod.mk.injEq] at h2
      obtain ⟨c', hc', l', hl', rfl, rfl⟩ := h2
      have hne : ¬ (u' = u ∧ d' = d) := fun e => hap (.inr rfl) (u, d) rfl (by simp [ME.foot, e.1, e.2])
      obtain ⟨c2, k1, k2, _⟩ := box_other (l := l') hc' hne hc
      simp [ME.run, k1, k2, hg]
  | wr u d h v' =>
    simp only [ME.run, Option.bind_eq_some_iff, Option.map_eq_some_iff, Prod.mk.injEq] at h1
    obtain ⟨c, hc, l, hl, rfl, rfl⟩ := h1
    have hlt : u < frs.length := by
      rcases Nat.lt_or_ge u frs.length with h | h
      · exact h
      · rw [List.getElem?_eq_none h] at hc; cases hc
    cases n with
    | bad => cases h2
    | cst w' =>
      simp only [ME.run, Option.some.injEq, Prod.mk.injEq] at h2
      obtain ⟨rfl, rfl⟩ := h2
      exact ⟨frs, rfl, by simp [ME.run, hc, hl]⟩
    | rd u' d' g' =>
      have hne : ¬ (u = u' ∧ d = d') := fun e => hap (.inl rfl) (u, d) rfl (by simp [ME.foot, e.1, e.2])
      simp only [ME.run, Option.bind_eq_some_iff, Option.map_eq_some_iff, Prod.mk.injEq] at h2
      obtain ⟨c', hc', w', hg', rfl, rfl⟩ := h2
      refine ⟨frs, ?_, by simp [ME.run, hc, hl]⟩
      have hlt' : u' < frs.length := by
        rcases Nat.lt_or_ge u' frs.length with h | h
        · exact h
        · rw [List.getElem?_eq_none (by simpa using h)] at hc'; cases hc'
      obtain ⟨c2, k1, k2, _⟩ := box_other (l := l) hc hne (List.getElem?_eq_getElem hlt')
      rw [hc'] at k1
      cases k1
      rw [k2] at hg'
      simp [ME.run, List.getElem?_eq_getElem hlt', hg']
    | wr u' d' h' w' =>
      have hne : ¬ (u = u' ∧ d = d') := fun e => hap (.inl rfl) (u, d) rfl (by simp [ME.foot, e.1, e.2])
      simp only [ME.run, Option.bind_eq_some_iff, Option.map_eq_some_iff, Prod.mk.injEq] at h2
      obtain ⟨c', hc', l', hl', rfl, rfl⟩ := h2
      have hlt' : u' < frs.length := by
        rcases Nat.lt_or_ge u' frs.length with h | h
        · exact h
        · rw [List.getElem?_eq_none (by simpa using h)] at hc'; cases hc'
      obtain ⟨c2, k1, k2, k3⟩ := box_other (l := l) hc hne (List.getElem?_eq_getElem hlt')
      rw [hc'] at k1
      cases k1
      rw [k2] at hl'
      refine ⟨frs.set u' { frs[u'] with bx := frs[u'].bx.set d' l' }, by simp [ME.run, List.getElem?_eq_getElem hlt', hl'], ?_⟩
      obtain ⟨c3, j1, j2, j3⟩ := box_other (l := l') (List.getElem?_eq_getElem hlt') (fun e => hne ⟨e.1.symm, e.2.symm⟩) hc
      simp only [ME.run, j1, Option.bind_some, j2, hl, Option.map_some, Option.some.injEq, Prod.mk.injEq, true_and]
      rcases k3 with ⟨hu, k3⟩ | ⟨hu, k3, k4⟩
      · rcases j3 with ⟨_, j3⟩ | ⟨hu', _⟩
        · subst k3 j3
          exact List.set_comm _ _ (fun e => hu e.symm)
        · exact absurd hu'.symm hu
      · subst hu
        rcases j3 with ⟨hu', _⟩ | ⟨_, j3, j4⟩
        · exact absurd rfl hu'
        · subst k4 j4
          have hc2 : c = frs[u] := k3.symm
          subst hc2
          simp only [List.set_set]
          congr 2
          exact List.set_comm _ _ fun e => hne ⟨rfl, e.symm⟩

theorem acc_apart {o o' : Oper} {a a' : Action} (h : (accOf o a).compat (accOf o' a') = true) (h1 : isApp a = false) (h2 : isApp a' = false) : (meOf o.dst a).apart (meOf o'.dst a') := by
  have key : ∀ (o : Oper) (a : Action), isApp a = false → (∃ u d, accOf o a = .rd u d ∧ (meOf o.dst a).foot = some (u, d) ∧ (meOf o.dst a).isWr = false) ∨ (∃ u d, accOf o a = .wr u d ∧ ((meOf o.dst a).foot = some (u, d) ∨ (meOf o.dst a).foot = none)) ∨
      (∃ d, accOf o a = .mk d ∧ ((meOf o.dst a).foot = some (0, d) ∨ (meOf o.dst a).foot = none)) ∨ (meOf o.dst a).foot = none := by
    intro o a ha
    cases a with
    | val v => exact .inr (.inr (.inr rfl))
    | load p sz ag =>
      cases p with
      | ptr u d off => exact .inl ⟨u, d, rfl, rfl, rfl⟩
      | ep t x off => refine .inr (.inr (.inr ?_)); simp only [meOf]; split <;> rfl
      | lp t off => refine .inr (.inr (.inr ?_)); simp only [meOf]; split <;> rfl
      | oe t l a i off => refine .inr (.inr (.inr ?_)); simp only [meOf]; split <;> rfl
      | _ => exact .inr (.inr (.inr rfl))
    | store p vs sz =>
      cases p with
      | ptr u d off =>
        refine .inr (.inl ⟨u, d, rfl, ?_⟩)
        simp only [meOf]
        split
        · cases u with
          | zero => exact .inl rfl
          | succ u => dsimp only; split
                      · exact .inl rfl
                      · exact .inr rfl
        · exact .inr rfl
      | _ => refine .inr (.inr (.inr ?_)); simp only [meOf]; split <;> rfl
    | new l =>
      refine .inr (.inr (.inl ⟨o.dst.getD 0, rfl, ?_⟩))
      simp only [meOf]
      split
      · rename_i d _ _ hd; exact .inl (by rw [hd]; rfl)
      · exact .inr rfl
    | app => cases ha
  intro hw p hp hq
  rcases key o a h1 with ⟨u, d, k1, k2, k3⟩ | ⟨u, d, k1, k2⟩ | ⟨d, k1, k2⟩ | k2
  all_goals rcases key o' a' h2 with ⟨u', d', j1, j2, j3⟩ | ⟨u', d', j1, j2⟩ | ⟨d', j1, j2⟩ | j2
  all_goals first
    | (rw [k2] at hp; cases hp; done)
    | (rw [j2] at hq; cases hq; done)
    | skip
  all_goals rw [k1, j1] at h
  all_goals simp_all [Acc.compat]
end Go.Am
