/- Part 11 of the proof: Am11. -/
import Derived.Test.YtapedmpbgeoieaaGreatC7p10
set_option linter.unusedSimpArgs false
set_option linter.unusedVariables false
namespace Go.Am
open Go Go.RowKit
set_option linter.unusedSimpArgs false
set_option linter.unusedVariables false
set_option linter.unusedSectionVars false

def putL (dst : Option Nat) (u : Value) (ts : List Value) : List Value :=
  match dst with
  | some d => ts.set d u
  | none => ts
def actL (ts : List Value) : Act := ⟨ts.toArray, []⟩
theorem put_actL (dst : Option Nat) (u : Value) (ts : List Value) : (actL ts).put dst u = actL (putL dst u ts) := by
  cases dst <;> simp [Act.put, actL, putL]

section
variable {P : Program} {w0 : World} {I0 : Nat → Nat → Prop} {el : ST → Nat} {x : X} {β : BM} {B : List BM} {fr : Fr} {cs : List Fr} {ts : List Value} {tss : List (List Value)}

theorem Sim.put (S : Sim w0 I0 el x (β :: B) (fr :: cs) (ts :: tss)) {v : AV} {u : Value} (h : R x (β :: B) v u) (dst : Option Nat) : Sim w0 I0 el x (β :: B) (fr.put dst v :: cs) (putL dst u ts :: tss) := by
  refine ⟨S.sane, S.base, S.elq, S.below, S.keep, S.new, S.inj, ?_, ?_, S.frs.2.2⟩
  · cases dst with
    | none => exact S.frs.1
    | some d => exact Rs_set S.frs.1 h d
  · cases dst <;> exact S.frs.2.1

theorem Sim.ext {frs : List Fr} {B : List BM} (S : Sim w0 I0 el x B frs tss) {x' : X} (h : Ext x x') : Sim w0 I0 el x' B frs tss := {
  sane := ⟨h.lt, fun b a hb => by rw [h.evo.base]; exact h.owlt b a hb, by rw [h.evo.base]; exact Nat.le_trans S.sane.base h.below.size⟩
  base := h.evo.base.trans S.base
  elq := h.evo.el.trans S.elq
  below := S.below.trans ⟨h.below.os, h.below.tape, h.below.output, h.below.size, fun k hk => h.below.block k (Nat.lt_of_lt_of_le hk S.below.size)⟩
  keep := fun b o hb => (h.evo.keep b o (S.keep b o hb)).1
  new := fun b o hb => (h.old b o hb).elim (S.new b o) fun hb => .inr (Nat.le_trans S.below.size hb)
  inj := S.inj
  frs := FrsR.evo (fun B c u hr => R.evo h.evo B c u hr) ⟨h.evo.base, fun b hb ho => ⟨by rw [h.ow b hb]; exact ho, h.below.block b hb, fun o hI => (h.old b o hI).resolve_right (by omega)⟩⟩ S.frs }

theorem unit_ok {x : X} {B : List BM} : R x B (.tup []) undef := ⟨[], rfl, rfl⟩

theorem perform_ok {o : Oper} (S : Sim w0 I0 el x (β :: B) (fr :: cs) (ts :: tss)) {a : Action} (ha : ActOk P x (β :: B) o (actL ts).eval a) {fr' : Fr} {cs' : List Fr} (hp : perform o.dst fr cs a = some (fr', cs')) :
    Eff P o (actL ts).eval x.w fun u w' => ∃ x' β', x'.w = w' ∧ Sim w0 I0 el x' (β' :: B) (fr' :: cs') (putL o.dst u ts :: tss) := by
  cases a with
  | val v =>
    simp only [perform, Option.some.injEq, Prod.mk.injEq] at hp
    obtain ⟨rfl, rfl⟩ := hp
    refine Eff.mono ha ?_
    rintro u w' ⟨x', h1, h2, h3⟩
    exact ⟨x', β, h1, (S.ext h2).put h3 o.dst⟩
  | load p sz ag =>
    obtain ⟨hag, pv, hpv, h⟩ := ha
    simp only [perform] at hp
    split at hp
    · rename_i l hl
      simp only [Option.some.injEq, Prod.mk.injEq] at hp
      obtain ⟨rfl, rfl⟩ := hp
      obtain ⟨b, off, us, k1, k2, k3, k4, k5⟩ := readP_ok S.frs hpv hl
      refine Eff.mono (h b off us k1 k2 k3) ?_
      rintro u w' ⟨rfl, rfl⟩
      refine ⟨x, β, rfl, S.put ?_ o.dst⟩
      cases ag with
      | true => exact ⟨us, rfl, k5, k4⟩
      | false =>
        have h1 := hag rfl
        match us, l, k4, k2.trans h1 with
        | [u], [c], k4, _ =>
          obtain ⟨_, _, e, e1, e2⟩ := k4
          cases e
          exact e1
        | [u], [], k4, _ => cases k4
        | [u], _ :: _ :: _, k4, _ =>
          have := Rs_len k4
          simp at this
    · cases hp
  | store p vs sz =>
    obtain ⟨pv, us, hpv, hvs, h1, h⟩ := ha
    simp only [perform] at hp
    split at hp
    · rename_i hsz
      have hsz : vs.length = sz := by simpa using hsz
      split at hp
      · rename_i fr1 cs1 hw
        simp only [Option.some.injEq, Prod.mk.injEq] at hp
        obtain ⟨rfl, rfl⟩ := hp
        obtain ⟨b, off, cur, ty, k1, k2, k3, k4⟩ := writeP_ok S hpv hvs h1 hw
        have hus : us.length = sz := by rw [Rs_len hvs, hsz]
        refine Eff.mono (h hus b off cur ty k1 k2 (by rw [← hus]; exact k3)) ?_
        rintro u w' ⟨rfl, rfl⟩
        exact ⟨_, β, rfl, k4.put unit_ok o.dst⟩
      · cases hp
    · cases hp
  | new l =>
    obtain ⟨us, hl, h1, h⟩ := ha
    simp only [perform] at hp
    split at hp
    · rename_i d hd
      split at hp
      · rename_i c l' hb
        simp only [Option.some.injEq, Prod.mk.injEq] at hp
        obtain ⟨rfl, rfl⟩ := hp
        refine Eff.mono h ?_
        rintro u w' ⟨ty, rfl, rfl⟩
        have hβ : β d = none := by
          cases hβ : β d with
          | none => rfl
          | some b =>
            have := ((S.frs.2.1 d).2 b hβ).1
            rw [List.getD_eq_getElem?_getD, hb] at this
            exact absurd rfl this
        have hblk := FrsR.block S.frs
        have hE : Ext x { x with w := x.w.alloc (.cells us.toArray ty) } := by
          refine ⟨⟨rfl, rfl, fun b o hI => ⟨hI, World.cell?_of_block (a := ⟨b, o, none⟩) (Go.heap_alloc_old x.w _ (S.sane.lt b o hI))⟩, fun b a ha _ => ⟨ha, Go.heap_alloc_old x.w _ (S.sane.owlt b a ha).1, fun _ h => h⟩, fun _ _ => rfl⟩, below_alloc _ _, fun _ _ h => .inl h, fun _ _ => rfl, fun b o hI => ?_, fun b a ha => ⟨?_, (S.sane.owlt b a ha).2⟩⟩
          · have := S.sane.lt b o hI; simp; omega
          · have := (S.sane.owlt b a ha).1; simp; omega
        have S' := S.ext hE
        have hmono : ∀ d' b, β d' = some b → (fun d' => if d' = d then some x.w.heap.size else β d') d' = some b := by
          intro d' b hb'
          dsimp only
          rw [if_neg (fun e => by rw [e, hβ] at hb'; cases hb')]
          exact hb'
        have hRs : ∀ {cs : List AV} {us : List Value}, Rs { x with w := x.w.alloc (.cells us.toArray ty) } (β :: B) cs us → True := fun _ => trivial
        refine ⟨{ x with w := x.w.alloc (.cells us.toArray ty) }, fun d' => if d' = d then some x.w.heap.size else β d', rfl, S'.sane, S'.base, S'.elq, S'.below, S'.keep, S'.new, ?_, ?_, ?_, S'.frs.2.2⟩
        · -- one block, one box
          intro j j' d1 d2 b γ γ' g1 g2 g3 g4
          have hold : ∀ (i : Nat) γ d', B[i]? = some γ → γ d' = some b → b < x.w.heap.size := fun i γ d' e1 e2 => (hblk (i + 1) γ d' b (by simpa using e1) e2).1
          have hold0 : ∀ d', β d' = some b → b < x.w.heap.size := fun d' e2 => (hblk 0 β d' b rfl e2).1
          cases j with
          | zero =>
            have g1 : (fun d' => if d' = d then some x.w.heap.size else β d') = γ := by simpa using g1
            subst g1
            dsimp only at g3
            cases j' with
            | zero =>
              have g2 : (fun d' => if d' = d then some x.w.heap.size else β d') = γ' := by simpa using g2
              subst g2
              dsimp only at g4
              split at g3
              · cases g3
                split at g4
                · exact ⟨rfl, by omega⟩
                · have := hold0 _ g4; omega
              · split at g4
                · cases g4; have := hold0 _ g3; omega
                · exact S.inj 0 0 d1 d2 b β β rfl rfl g3 g4
            | succ j' =>
              have g2 : B[j']? = some γ' := by simpa using g2
              split at g3
              · cases g3; have := hold _ _ _ g2 g4; omega
              · exact S.inj 0 (j' + 1) d1 d2 b β γ' rfl (by simpa using g2) g3 g4
          | succ j =>
            have g1 : B[j]? = some γ := by simpa using g1
            cases j' with
            | zero =>
              have g2 : (fun d' => if d' = d then some x.w.heap.size else β d') = γ' := by simpa using g2
              subst g2
              dsimp only at g4
              split at g4
              · cases g4; have := hold _ _ _ g1 g3; omega
              · exact S.inj (j + 1) 0 d1 d2 b γ β (by simpa using g1) rfl g3 g4
            | succ j' => exact S.inj (j + 1) (j' + 1) d1 d2 b γ γ' (by simpa using g1) g2 g3 g4
        · rw [hd]
          refine Rs_set (Rs.newbox β _ B hmono _ _ S'.frs.1) ?_ d
          exact ⟨_, x.w.heap.size, rfl, by simp, rfl⟩
        · intro d'
          have hlt : d < fr.bx.length := by
            rcases Nat.lt_or_ge d fr.bx.length with h | h
            · exact h
            · rw [List.getElem?_eq_none h] at hb; cases hb
          dsimp only
          rw [getD_set _ _ _ _ hlt]
          by_cases e : d = d'
          · subst e
            rw [if_pos rfl, if_pos rfl]
            refine ⟨fun h => by simp at h, fun b hb' => ?_⟩
            have hb' : x.w.heap.size = b := by simpa using hb'
            subst hb'
            refine ⟨by simp, S.sane.base, ?_, ?_, us.toArray, ty, Go.heap_alloc_new x.w _, ?_, by simpa using h1⟩
            · cases ho : x.ow x.w.heap.size with
              | none => rfl
              | some a => have := (S.sane.owlt _ a ho).1; omega
            · intro o' hI
              have := S.sane.lt _ _ hI
              omega
            · have := Rs.newbox β _ B hmono _ _ (Rs.evo hE.evo (β :: B) _ _ hl)
              simpa using this
          · rw [if_neg e]
            have e' : ¬ d' = d := fun h => e h.symm
            simp only [if_neg e']
            refine ⟨(S'.frs.2.1 d').1, fun b hb' => ?_⟩
            obtain ⟨k1, k2, k3, k4, cur, ty', k5, k6, k7⟩ := (S'.frs.2.1 d').2 b hb'
            exact ⟨k1, k2, k3, k4, cur, ty', k5, Rs.newbox β _ B hmono _ _ k6, k7⟩
      · cases hp
    · cases hp
  | app v tok w =>
    refine Eff.mono ha ?_
    rintro u w' ⟨x', rfl, hev, hbel, hsane, hk, hnew, hsl, hw⟩
    have hkept : Kept x x' := ⟨hev.base, fun b hb ho => ho ▸ hk b hb fun a ha => absurd (ho.symm.trans ha) (by simp)⟩
    have rest : ∀ {fr1 : Fr} {cs1 : List Fr}, FrsR x' (β :: B) (fr1 :: cs1) (ts :: tss) → Sim w0 I0 el x' (β :: B) (fr1.put o.dst v :: cs1) (putL o.dst u ts :: tss) := by
      intro fr1 cs1 hf
      have S1 : Sim w0 I0 el x' (β :: B) (fr1 :: cs1) (ts :: tss) :=
        ⟨hsane, hev.base.trans S.base, hev.el.trans S.elq, S.below.trans ⟨hbel.os, hbel.tape, hbel.output, hbel.size, fun k hk => hbel.block k (by rw [S.base]; exact hk)⟩,
          fun b o hb => (hev.keep b o (S.keep b o hb)).1, fun b o hb => (hnew b o hb).elim (S.new b o) fun h => .inr (by rw [← S.base]; exact h), S.inj, hf⟩
      exact S1.put (v := v) (hsl _) o.dst
    simp only [perform] at hp
    split at hp
    · rename_i a
      simp only [Option.some.injEq, Prod.mk.injEq] at hp
      obtain ⟨rfl, rfl⟩ := hp
      have hev' : Evo (· = a) x x' := ⟨hev.el, hev.base, hev.keep, fun b a' h1 h2 => hev.own b a' h1 fun h3 => h2 (by cases h3; rfl), fun a' h2 => hev.vo a' fun h3 => h2 (by cases h3; rfl)⟩
      exact ⟨x', β, rfl, rest (FrsR.mono (Am.strip a w D) (fun B c u hr => R.strip hev' (fun B z hz => hw a z rfl hz B) B D c u hr) hkept S.frs)⟩
    · rename_i hne
      simp only [Option.some.injEq, Prod.mk.injEq] at hp
      obtain ⟨rfl, rfl⟩ := hp
      have hev' : Evo (fun _ => False) x x' := ⟨hev.el, hev.base, hev.keep, fun b a' h1 h2 => hev.own b a' h1 fun h3 => hne a' h3, fun a' _ => hev.vo a' fun h3 => hne a' h3⟩
      exact ⟨x', β, rfl, rest (FrsR.evo (fun B c u hr => R.evo hev' B c u hr) hkept S.frs)⟩
end
end Go.Am
