/- Part 45 of the proof: N37. -/
import Derived.Test.YtapedmpbgeoieaaGreatC7p44
set_option linter.unusedSimpArgs false
set_option linter.unusedVariables false
namespace Go.Am
open Go Go.Proofs
set_option linter.unusedVariables false

theorem V7_true (e : End) (t : Tab) (f : List Int) (m : Msg) : V7 e t f m = some true := by
  have ha := V24_true
  have hF : F24 = true := getD_of ha
  unfold V7
  rw [eS7]
  simp only [tS7, Tr.val, ha, hF, Option.isSome_some, condT, Bool.not_true, condF]
  rw [loop_all, eJ7L255]
  simp only [tJ7L255, Tr.val]
  rw [eJ7_13]
  have e14 : lv cd7 C7 J7_14 = some true := by rw [eJ7_14]; rfl
  simp only [tJ7_13, Tr.val, V25_eq, F25_eq, V26_eq, F26_eq, V27_eq, F27_eq, e14, Option.isSome_some, condT, Bool.cond_not, cond_dec]
  cases h1 : fewE e
  case false => rfl
  cases h2 : fewT t
  case false => rfl
  by_cases h3 : (600 : Int) < f.length
  case pos => simp only [condT]; rw [if_pos h3]
  cases h4 : fewM m
  case false => simp only [condT]; rw [if_neg h3]; rfl
  simp only [condT]
  rw [if_neg h3]
  have he := fewE_ok h1
  have ht := fewT_ok h2
  have hm := fewM_ok h4
  have hl40 : e.cl.length ≤ 40 := by simp [fewE] at h1; omega
  have hl : e.cl.length ≤ 512 := by omega
  obtain ⟨hr1, hr2⟩ := receive_ok (f := f) he hl (by omega : t.cl.length ≤ 1000) hm
  have v1 := V28_eq e t f m he hl (by omega) (by omega) hm
  have f1 := F28_eq e t f m he hl (by omega) (by omega) hm
  rw [eJ7_15]
  simp only [tJ7_15, Tr.val, v1, f1, V31_eq _ _ he.2.2.1.1 he.2.2.1.2, F31_eq _ _ he.2.2.1, Option.isSome_some, condT, Bool.cond_not, cond_dec]
  by_cases hg : (receiveN e t f m).2.2 = 0
  case neg => rw [if_neg hg]
  rw [if_pos hg]
  obtain ⟨g1, g2, g3⟩ := receive_got hg
  have g : Got e t f m := ⟨g1, g2, g3, few_len h1 h2 (fullN_ok g1).2.1⟩
  have e22 : ¬ (e.kn = true ∧ e.lst = m) → ∀ x y z, (bif e.kn then (if e.lst = m then z else lv cd7 C7 (J7_22 e m x y)) else lv cd7 C7 (J7_22 e m x y)) = lv cd7 C7 (J7_22 e m x y) := by
    intro hn x y z
    cases hk : e.kn
    · rfl
    · simp only [condT]
      rw [if_neg (fun hh => hn ⟨hk, hh⟩)]
  rcases receive_news g with ⟨n1, n2, n3, k6, n5⟩ | ⟨n1, n2, n3⟩
  · rw [if_neg k6]
    rcases n5 with ⟨q1, q2, q3⟩ | ⟨q0, q1, q2⟩ | ⟨q0, q1, q2, q3⟩ | ⟨q0, q1, q2, q3⟩
    · rw [q1, if_pos q2, condT, eJ7_21, n1, q3]
      simp only [tJ7_21, Tr.val, V30_eq _ _ he, F30_eq _ _ he, V31_eq _ _ he.2.2.2.1 he.2.2.2.2, F31_eq _ _ he.2.2.2, Option.isSome_some, condT, decide_true]
    · rw [e22 q0, eJ7_22]
      simp only [tJ7_22, Tr.val, q1, condT]
      rw [eJ7_23, n1]
      simp only [tJ7_23, Tr.val, V30_eq _ _ he, F30_eq _ _ he, q1, q2, Option.isSome_some, condT, decide_true, beq_self_eq_true]
    · rw [e22 q0, eJ7_22]
      simp only [tJ7_22, Tr.val, q1, condF, Bool.cond_not, cond_dec]
      rw [if_neg q2, eJ7_23, n1]
      simp only [tJ7_23, Tr.val, V30_eq _ _ he, F30_eq _ _ he, q1, q3, Option.isSome_some, condT, decide_true]
      rfl
    · rw [e22 q0, eJ7_22]
      simp only [tJ7_22, Tr.val, q1, condF, Bool.cond_not, cond_dec]
      rw [if_pos q2, eJ7_24]
      simp only [tJ7_24, Tr.val, q3, condT, decide_true]
  · rcases n3 with ⟨k6, n3⟩ | ⟨k6, q0, q1, q2, q3, q4⟩
    · rw [if_pos k6]
      have z1 : (receiveN e t f m).1.num = 0 := by rw [n3]
      have z2 : ((receiveN e t f m).1.cl.length : Int) = 0 := by rw [n3]; rfl
      have z3 : (receiveN e t f m).1.opn = false := by rw [n3]
      rw [if_pos z1, if_pos z2, z3]
      simp only [condF, n1.good, decide_true]
    · rw [if_neg k6, e22 q0, eJ7_22]
      simp only [tJ7_22, Tr.val, q1, condF, Bool.cond_not, cond_dec]
      rw [if_pos q2, eJ7_24]
      simp only [tJ7_24, Tr.val, n1.good, q3, n1.kn, condT, decide_true]
      rfl

end Go.Am
