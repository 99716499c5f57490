/- Part 12 of the proof: Am12. -/
import Derived.Test.YtapedmpbgeoieaaGreatC7p11
set_option linter.unusedSimpArgs false
set_option linter.unusedVariables false
namespace Go.Am
open Go Go.RowKit
set_option linter.unusedSimpArgs false
set_option linter.unusedVariables false
set_option linter.unusedSectionVars false

section
variable {ρ : Type} {r : ρ} {C : Cfg}

theorem bin_bind {wr : Bool} {t : Nat} {op : BinOp} {x y : AV} {K : AV → Option ρ} (h : binA C wr t op x y K = some r) : ∃ v, (∀ {σ : Type} (K' : AV → Option σ) s, K' v = some s → binA C wr t op x y K' = some s) ∧ K v = some r := by
  unfold binA at h ⊢
  repeat' split at h
  all_goals first
    | cases h; done
    | (first
      | exact ⟨_, fun K' s h' => by simp_all, h⟩
      | (rcases cond_some h with ⟨h1, h2⟩ | ⟨h1, h2⟩ <;> first | (cases h2; done) | exact ⟨_, fun K' s h' => by simp_all, h2⟩ | (rcases cond_some h2 with ⟨h3, h4⟩ | ⟨h3, h4⟩ <;> first | (cases h4; done) | exact ⟨_, fun K' s h' => by simp_all, h4⟩)))

theorem slice_bind {t : Nat} {x : AV} {lo hi : Option AV} {K : Action → Option ρ} (h : sliceA C t x lo hi K = some r) : ∃ v, (∀ {σ : Type} (K' : Action → Option σ) s, K' v = some s → sliceA C t x lo hi K' = some s) ∧ K v = some r := by
  unfold sliceA at h ⊢
  repeat' split at h
  all_goals first
    | cases h; done
    | (rcases cond_some h with ⟨h1, h2⟩ | ⟨h1, h2⟩ <;> first | (cases h2; done) | exact ⟨_, fun K' s h' => by simp_all, h2⟩)

theorem idx_bind {t : Nat} {x y : AV} {K : AV → Option ρ} (h : idxA C t x y K = some r) : ∃ v, (∀ {σ : Type} (K' : AV → Option σ) s, K' v = some s → idxA C t x y K' = some s) ∧ K v = some r := by
  unfold idxA at h ⊢
  repeat' split at h
  all_goals first
    | cases h; done
    | (rcases cond_some h with ⟨h1, h2⟩ | ⟨h1, h2⟩ <;> first | (cases h2; done) | exact ⟨_, fun K' s h' => by simp_all, h2⟩)

theorem app_bind {t d : Nat} {x y : AV} {K : Action → Option ρ} (h : appA C t d x y K = some r) : ∃ v, (∀ {σ : Type} (K' : Action → Option σ) s, K' v = some s → appA C t d x y K' = some s) ∧ K v = some r := by
  unfold appA at h ⊢
  split at h
  · rename_i st l tok st' l' tok' e1 e2
    cases tok with
    | none => cases h
    | nn => cases h
    | cap0 =>
      dsimp only at h
      split at h
      · rename_i hst
        subst hst
        split at h
        · rename_i hT
          rcases cond_some h with ⟨h1, h2⟩ | ⟨h1, h2⟩
          · exact ⟨_, fun K' s h' => by simp_all, h2⟩
          · cases h2
        · cases h
      · cases h
    | lab a =>
      dsimp only at h
      split at h
      · rename_i hst
        subst hst
        split at h
        · rename_i hT
          rcases cond_some h with ⟨h1, h2⟩ | ⟨h1, h2⟩
          · exact ⟨_, fun K' s h' => by simp_all, h2⟩
          · cases h2
        · cases h
      · cases h
  · rename_i st l lb st' l' tok' e1 e2
    split at h
    · rename_i hst
      subst hst
      split at h
      · rename_i hT
        rcases cond_some h with ⟨h1, h2⟩ | ⟨h1, h2⟩
        · exact ⟨_, fun K' s h' => by simp_all, h2⟩
        · cases h2
      · cases h
    · cases h
  · cases h

theorem lin_bind {o : Oper} {L : LE} {vs : List AV} {K : Action → Option ρ} (h : linA C o L vs K = some r) : ∃ v, (∀ {σ : Type} (K' : Action → Option σ) s, K' v = some s → linA C o L vs K' = some s) ∧ K v = some r := by
  cases L with
  | clone st eb =>
    simp only [linA] at h ⊢
    split at h
    · rename_i st' l tok hm
      split at h
      · rename_i hst
        subst hst
        rcases cond_some h with ⟨h1, h2⟩ | ⟨h1, h2⟩
        · exact ⟨_, fun K' s h' => by rw [dif_pos rfl, h1]; exact h', h2⟩
        · cases h2
      · cases h
    · cases h
  | own pre val =>
    simp only [linA] at h ⊢
    split at h
    · rcases cond_some h with ⟨h1, h2⟩ | ⟨h1, h2⟩
      · split at h2
        · rename_i l' hl'
          exact ⟨_, fun K' s h' => by rw [h1]; exact h', h2⟩
        · cases h2
      · cases h2
    · cases h
  | upd pre val =>
    simp only [linA] at h ⊢
    split at h
    · rcases cond_some h with ⟨h1, h2⟩ | ⟨h1, h2⟩
      · split at h2
        · rename_i l' hl'
          exact ⟨_, fun K' s h' => by rw [h1]; exact h', h2⟩
        · cases h2
      · cases h2
    · cases h
  | fmap ks ws =>
    simp only [linA] at h ⊢
    split at h
    · exact ⟨_, fun K' s h' => h', h⟩
    · cases h
theorem ins_bind {t : Nat} {m k x : AV} {K : Action → Option ρ} (h : insA C t m k x K = some r) : ∃ v, (∀ {σ : Type} (K' : Action → Option σ) s, K' v = some s → insA C t m k x K' = some s) ∧ K v = some r := by
  unfold insA at h ⊢
  split at h
  · rename_i hmt
    split at h
    · rename_i hp
      rcases cond_some h with ⟨h1, h2⟩ | ⟨h1, h2⟩
      · exact ⟨_, fun K' s h' => by rw [if_pos hp, h1]; exact h', h2⟩
      · cases h2
    · cases h
  · cases h
theorem look_bind {n : Int} {z : AV} {K : AV → Option ρ} : ∀ (ks : List Int) (vs : List AV), lookA n z K ks vs = some r → ∃ v, (∀ {σ : Type} (K' : AV → Option σ) s, K' v = some s → lookA n z K' ks vs = some s) ∧ K v = some r
  | [], _, h => ⟨z, fun K' s h' => by simpa [lookA] using h', by simpa [lookA] using h⟩
  | _ :: _, [], h => ⟨z, fun K' s h' => by simpa [lookA] using h', by simpa [lookA] using h⟩
  | k :: ks, v :: vs, h => by
    simp only [lookA] at h ⊢
    rcases cond_some h with ⟨h1, h2⟩ | ⟨h1, h2⟩
    · exact ⟨v, fun K' s h' => by rw [h1]; exact h', h2⟩
    · obtain ⟨v', h3, h4⟩ := look_bind ks vs h2
      exact ⟨v', fun K' s h' => by rw [h1]; exact h3 K' s h', h4⟩

theorem act_bind {o : Oper} {e : Operand → AV} {K : Action → Option ρ} (h : act C o e K = some r) : ∃ a, act C o e some = some a ∧ K a = some r := by
  unfold act at h ⊢
  split at h
  case h_11 =>
    obtain ⟨v, h1, h2⟩ := bin_bind h
    exact ⟨_, h1 _ _ rfl, h2⟩
  case h_14 =>
    obtain ⟨v, h1, h2⟩ := slice_bind h
    exact ⟨v, h1 _ _ rfl, h2⟩
  case h_17 =>
    obtain ⟨v, h1, h2⟩ := idx_bind h
    exact ⟨_, h1 _ _ rfl, h2⟩
  case h_3 =>
    split at h
    · rename_i t hc
      cases t
      · exact ⟨_, rfl, h⟩
      · exact ⟨_, rfl, h⟩
    · cases h
  case h_19 =>
    split at h
    · split at h
      · exact ⟨_, rfl, h⟩
      · cases h
    · split at h
      · rename_i htt
        obtain ⟨v, h1, h2⟩ := app_bind h
        exact ⟨_, by rw [if_pos htt]; exact h1 _ _ rfl, h2⟩
      · cases h
    · split at h
      · split at h
        · rename_i hk; exact ⟨_, by rw [if_pos hk], h⟩
        · cases h
      · cases h
    · split at h
      · split at h
        · rename_i hk; exact ⟨_, by rw [if_pos hk], h⟩
        · cases h
      · cases h
    · split at h
      · split at h
        · rename_i hk; exact ⟨_, by rw [if_pos hk], h⟩
        · cases h
      · cases h
    · cases h
  case h_20 =>
    try dsimp only at h ⊢
    split at h
    · rename_i g fs caps hf
      split at h
      · obtain ⟨v, h1, h2⟩ := lin_bind h
        exact ⟨v, h1 _ _ rfl, h2⟩
      · split at h
        · rename_i G hG
          try dsimp only at h
          split at h
          · rename_i hgr
            rcases cond_some h with ⟨hp, h⟩ | ⟨_, h⟩
            · split at h
              · rename_i r' hr
                exact ⟨.val r', by rw [if_pos hgr, hp]; rfl, h⟩
              · cases h
            · cases h
          · cases h
        · cases h
    · cases h
  case h_22 =>
    obtain ⟨v, h1, h2⟩ := ins_bind h
    exact ⟨v, h1 _ _ rfl, h2⟩
  case h_23 =>
    obtain ⟨v, h1, h2⟩ := ins_bind h
    exact ⟨v, h1 _ _ rfl, h2⟩
  case h_24 =>
    split at h
    · obtain ⟨v, h1, h2⟩ := look_bind _ _ h
      exact ⟨_, h1 _ _ rfl, h2⟩
    · cases h
  all_goals (
    try dsimp only at h ⊢
    repeat' split at h
    all_goals first
      | (cases h; done)
      | exact ⟨_, rfl, h⟩
      | exact ⟨_, by simp_all, h⟩)
end
end Go.Am
