/- Part 23 of the proof: Am23. -/
import Derived.Test.YtapedmpbgeoieaaGreatC7p20
set_option linter.unusedSimpArgs false
set_option linter.unusedVariables false
namespace Go.Am
open Go Go.RowKit
set_option linter.unusedSimpArgs false
set_option linter.unusedVariables false
set_option linter.unusedSectionVars false

section
variable {ρ : Type} {r : ρ} {C : Cfg}

theorem act_bind2 {o : Oper} {e : Operand → AV} {K : Action → Option ρ} (h : act C o e K = some r) : ∃ a, (∀ {σ : Type} (K' : Action → Option σ) s, K' a = some s → act C o e K' = some s) ∧ K a = some r := by
  unfold act at h ⊢
  split at h
  case h_11 =>
    obtain ⟨v, h1, h2⟩ := bin_bind h
    exact ⟨_, fun K' s h' => h1 _ _ h', h2⟩
  case h_14 =>
    obtain ⟨v, h1, h2⟩ := slice_bind h
    exact ⟨v, fun K' s h' => h1 _ _ h', h2⟩
  case h_17 =>
    obtain ⟨v, h1, h2⟩ := idx_bind h
    exact ⟨_, fun K' s h' => h1 _ _ h', h2⟩
  case h_3 =>
    split at h
    · rename_i t hc
      cases t
      · exact ⟨_, fun K' s h' => h', h⟩
      · exact ⟨_, fun K' s h' => h', h⟩
    · cases h
  case h_19 =>
    split at h
    · split at h
      · exact ⟨_, fun K' s h' => h', h⟩
      · cases h
    · split at h
      · rename_i htt
        obtain ⟨v, h1, h2⟩ := app_bind h
        exact ⟨_, fun K' s h' => by rw [if_pos htt]; exact h1 _ _ h', h2⟩
      · cases h
    · split at h
      · split at h
        · rename_i hk; exact ⟨_, fun K' s h' => by rw [if_pos hk]; exact h', h⟩
        · cases h
      · cases h
    · split at h
      · split at h
        · rename_i hk; exact ⟨_, fun K' s h' => by rw [if_pos hk]; exact h', h⟩
        · cases h
      · cases h
    · split at h
      · split at h
        · rename_i hk; exact ⟨_, fun K' s h' => by rw [if_pos hk]; exact h', h⟩
        · cases h
      · cases h
    · cases h
  case h_20 =>
    try dsimp only at h ⊢
    split at h
    · rename_i g fs caps hf
      split at h
      · obtain ⟨v, h1, h2⟩ := lin_bind h
        exact ⟨v, fun K' s h' => h1 _ _ h', h2⟩
      · split at h
        · rename_i G hG
          try dsimp only at h
          split at h
          · rename_i hgr
            rcases cond_some h with ⟨hp, h⟩ | ⟨_, h⟩
            · split at h
              · rename_i r' hr
                exact ⟨.val r', fun K' s h' => by rw [if_pos hgr, hp]; first | exact h' | (rw [hr]; exact h'), h⟩
              · cases h
            · cases h
          · cases h
        · cases h
    · cases h
  case h_22 =>
    obtain ⟨v, h1, h2⟩ := ins_bind h
    exact ⟨v, fun K' s h' => h1 _ _ h', h2⟩
  case h_23 =>
    obtain ⟨v, h1, h2⟩ := ins_bind h
    exact ⟨v, fun K' s h' => h1 _ _ h', h2⟩
  case h_24 =>
    split at h
    · obtain ⟨v, h1, h2⟩ := look_bind _ _ h
      exact ⟨_, fun K' s h' => h1 _ _ h', h2⟩
    · cases h
  all_goals (
    try dsimp only at h ⊢
    repeat' split at h
    all_goals first
      | (cases h; done)
      | exact ⟨_, fun K' s h' => h', h⟩
      | exact ⟨_, fun K' s h' => by simp_all, h⟩)

theorem act_mono {σ : Type} {s : σ} {o : Oper} {e : Operand → AV} {K : Action → Option ρ} {K' : Action → Option σ} (h : act C o e K = some r) (hk : ∀ a, K a = some r → K' a = some s) : act C o e K' = some s := by
  obtain ⟨a, h1, h2⟩ := act_bind2 h
  exact h1 K' s (hk a h2)

theorem guard_mono {ops : Array Oper} {o : Oper} {fr : Fr} {yes no yes' no' : Fr → Option ρ} (h : guardA ops o fr yes no = some r) (hy : ∀ fr, yes fr = some r → yes' fr = some r) (hn : ∀ fr, no fr = some r → no' fr = some r) : guardA ops o fr yes' no' = some r := by
  unfold guardA at h ⊢
  cases hg : o.guard with
  | none => rw [hg] at h; exact hy _ h
  | some gw =>
    obtain ⟨g, want⟩ := gw
    rw [hg] at h
    dsimp only at h ⊢
    cases ht : (ops[g]?).bind (·.dst) with
    | none => rw [ht] at h; cases h
    | some t =>
      rw [ht] at h
      dsimp only at h ⊢
      cases hv : fr.tmps[t]? with
      | none => rw [hv] at h; cases h
      | some v =>
        rw [hv] at h
        cases v with
        | bool b =>
          cases b <;> cases want <;> first | exact hy _ h | exact hn _ h
        | tup cs =>
          cases cs with
          | nil => exact hn _ h
          | cons => cases h
        | _ => cases h

theorem draw_mono {ops : Array Oper} {bf : List Nat} {k k' : Fr → List Fr → Option ρ} (hk : ∀ fr cs, k fr cs = some r → k' fr cs = some r) : ∀ (l : List Nat) (log : List (Nat × Log)) (fr : Fr) (cs : List Fr), draw C ops bf k l log fr cs = some r → draw C ops bf k' l log fr cs = some r
  | [], log, fr, cs, h => hk _ _ h
  | i :: l, log, fr, cs, h => by
    simp only [draw] at h ⊢
    cases ho : ops[i]? with
    | none => rw [ho] at h; cases h
    | some o =>
      rw [ho] at h
      refine guard_mono h (fun fr h => ?_) (fun fr h => draw_mono hk l _ _ _ h)
      refine act_mono h fun a h => ?_
      split at h
      · rename_i hlog
        rw [if_pos hlog]
        cases hp : perform o.dst fr cs a with
        | none => rw [hp] at h; cases h
        | some x =>
          rw [hp] at h
          exact draw_mono hk l _ _ _ h
      · cases h
end

theorem run_mono (C : Cfg) : ∀ (n mk : Nat) (fr : Fr) (cs : List Fr) (r : AV), run C n mk fr cs = some r → run C (n + 1) mk fr cs = some r
  | 0, mk, fr, cs, r, h => by simp [run] at h
  | n + 1, mk, fr, cs, r, h => by
    have ih := run_mono C n
    have hret : retA C n fr cs = some r → retA C (n + 1) fr cs = some r := by
      unfold retA
      cases look fr.f C.code with
      | none => exact id
      | some fn =>
        dsimp only
        cases resultsA C fn fr cs with
        | none => exact id
        | some vs =>
          dsimp only
          cases cs with
          | nil => exact id
          | cons c cs =>
            dsimp only
            intro h
            split at h
            · exact ih _ _ _ _ h
            · cases h
    obtain ⟨f, tmps, bx, items⟩ := fr
    unfold run at h ⊢
    dsimp only at h ⊢
    cases items with
    | nil => exact hret h
    | cons it k =>
      cases it with
      | code c =>
        cases c with
        | skip => exact ih _ _ _ _ h
        | seq a b => exact ih _ _ _ _ h
        | cond c x y =>
          dsimp only at h ⊢
          split at h
          · rcases cond_some h with ⟨rfl, h⟩ | ⟨rfl, h⟩ <;> exact ih _ _ _ _ h
          · rcases cond_some h with ⟨rfl, h⟩ | ⟨rfl, h⟩ <;> exact ih _ _ _ _ h
          · cases h
        | block id b => exact ih _ _ _ _ h
        | loop b => exact ih _ _ _ _ h
        | exit id =>
          dsimp only at h ⊢
          split at h
          · exact ih _ _ _ _ h
          · cases h
        | ret => exact hret h
        | region id ops dr =>
          dsimp only at h ⊢
          split at h
          · exact ih _ _ _ _ h
          · split at h
            · rename_i hdr
              rw [if_pos hdr]
              split at h
              · rename_i hA
                rw [if_pos hA]
                exact draw_mono (fun fr cs h => ih _ _ _ _ h) _ _ _ _ h
              · cases h
            · rename_i hdr
              rw [if_neg hdr]
              exact ih _ _ _ _ h
        | _ => cases h
      | inLoop b => exact ih _ _ _ _ h
      | inBlock id => exact ih _ _ _ _ h
      | inRegion ops todo =>
        cases todo with
        | nil => exact ih _ _ _ _ h
        | cons i rest =>
          dsimp only at h ⊢
          cases ho : ops[i]? with
          | none => rw [ho] at h; cases h
          | some o =>
            rw [ho] at h
            refine guard_mono h (fun fr h => ?_) (fun fr h => ih _ _ _ _ h)
            split at h
            · split at h
              · exact ih _ _ _ _ h
              · cases h
            · refine act_mono h fun a h => ?_
              cases hp : perform o.dst fr cs a with
              | none => rw [hp] at h; cases h
              | some x =>
                rw [hp] at h
                exact ih _ _ _ _ h
      | _ => cases h

/-- The strict machine gets to 'r' from here. -/
def Runs (C : Cfg) (mk f : Nat) (tmps : List AV) (bx : List (List AV)) (items : List Item) (cs : List Fr) (r : AV) : Prop := ∃ n, runK C n mk f tmps bx items cs = some r

theorem runK_mono {C : Cfg} {n mk f : Nat} {tmps bx items cs} {r : AV} (h : runK C n mk f tmps bx items cs = some r) : ∀ k, runK C (up k n) mk f tmps bx items cs = some r
  | 0 => h
  | k + 1 => by
    have := runK_mono h k
    rw [runK_eq] at this ⊢
    exact run_mono C _ _ _ _ _ this

theorem Runs.up {C : Cfg} {mk f : Nat} {tmps bx items cs} {r : AV} (h : Runs C mk f tmps bx items cs r) (k : Nat) : ∃ n, runK C (up k n) mk f tmps bx items cs = some r := by
  obtain ⟨n, h⟩ := h
  exact ⟨n, runK_mono h k⟩
end Go.Am
