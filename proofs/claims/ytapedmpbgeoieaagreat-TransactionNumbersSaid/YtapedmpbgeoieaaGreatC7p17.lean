/- Part 17 of the proof: Am17. -/
import Derived.Test.YtapedmpbgeoieaaGreatC7p16
set_option linter.unusedSimpArgs false
set_option linter.unusedVariables false
namespace Go.Am
open Go Go.RowKit
set_option linter.unusedSimpArgs false
set_option linter.unusedVariables false
set_option linter.unusedSectionVars false

def key (c : Fr) : Nat × List Item := (c.f, c.items)
def fb (f : Nat) : Frame := { fn := f, tmps := #[], todo := [], defers := [], mode := .run, kind := .normal }
def mf (p : Nat × List Item) (ts : List Value) : Frame := (fb p.1).at (actL ts) p.2
def mfs (cs : List (Nat × List Item)) (tss : List (List Value)) : List Frame := List.zipWith mf cs tss

theorem key_mapf (f : AV → AV) (cs : List Fr) : (cs.map (Fr.mapf f)).map key = cs.map key := by
  rw [List.map_map]
  apply List.map_congr_left
  intro c _
  rfl
theorem key_set {cs : List Fr} {u : Nat} {c : Fr} (h : cs[u]? = some c) (b : List (List AV)) : (cs.set u { c with bx := b }).map key = cs.map key := by
  rw [List.map_set]
  apply List.ext_getElem?
  intro i
  rw [List.getElem?_set]
  split
  · rename_i e
    subst e
    rw [List.getElem?_map, h]
    split
    · rfl
    · rename_i hl
      have := (List.getElem?_eq_some_iff.1 h).1
      exact absurd (by simpa using this) hl
  · rfl

theorem key_put (fr : Fr) (dst : Option Nat) (v : AV) : key (fr.put dst v) = key fr := by cases dst <;> rfl

theorem perform_key {dst : Option Nat} {fr fr' : Fr} {cs cs' : List Fr} {a : Action} (h : perform dst fr cs a = some (fr', cs')) : key fr' = key fr ∧ cs'.map key = cs.map key := by
  by_cases hA : isApp a = true
  · cases a with
    | app v tok wq =>
      rw [app_perform] at h
      simp only [Option.some.injEq, Prod.mk.injEq] at h
      obtain ⟨rfl, rfl⟩ := h
      exact ⟨by rw [key_put]; rfl, key_mapf (Am.stf tok wq) cs⟩
    | _ => cases hA
  · have hA : isApp a = false := by simpa using hA
    rw [perform_me hA] at h
    unfold fin at h
    split at h
    · rename_i v fr1 cs1 hr
      simp only [Option.some.injEq, Prod.mk.injEq] at h
      obtain ⟨rfl, rfl⟩ := h
      have : (fr1 :: cs1).map key = (fr :: cs).map key := by
        cases hm : meOf dst a with
        | bad => rw [hm] at hr; cases hr
        | cst v' =>
          rw [hm] at hr
          simp only [ME.run, Option.some.injEq, Prod.mk.injEq] at hr
          rw [hr.2]
        | rd u d g =>
          rw [hm] at hr
          simp only [ME.run, Option.bind_eq_some_iff, Option.map_eq_some_iff, Prod.mk.injEq] at hr
          obtain ⟨c, _, v', _, _, e⟩ := hr
          rw [e]
        | wr u d h' v' =>
          rw [hm] at hr
          simp only [ME.run, Option.bind_eq_some_iff, Option.map_eq_some_iff, Prod.mk.injEq] at hr
          obtain ⟨c, hcc, l', _, _, e⟩ := hr
          rw [← e]
          exact key_set hcc _
      simp only [List.map_cons, List.cons.injEq] at this
      exact ⟨by rw [key_put]; exact this.1, this.2⟩
    · cases h

section
variable {P : Program} {w0 : World} {I0 : Nat → Nat → Prop} {el : ST → Nat} {C : Cfg} (hC : COk P el C)

theorem R.nrmL {x : X} {B : List BM} {st : ST} {a : Nat} : ∀ {v : AV} {u : Value}, R x B v u → R x B (nrmL st a v) u := by
  have hnil : ∀ {st : ST} {u : Value}, u = .slice none 0 0 → R x B (.sl st [] (.lab a)) u := fun {st u} h => by
    subst h
    exact ⟨none, 0, rfl, Nat.le_refl _, .inl (by simp), World.ownsRow_nil _ _ _ _, fun b hb => by cases hb⟩
  intro v u h
  cases v with
  | nilS => exact hnil h
  | sl t l tok =>
    cases tok with
    | cap0 =>
      obtain ⟨A, c, h1, h2, h3, h4⟩ := h
      have h4 : u = .slice none 0 0 := h4
      have : l.length = 0 := by rw [h1] at h4; injection h4
      have : l = [] := List.eq_nil_of_length_eq_zero this
      subst this
      exact hnil h4
    | _ => exact h
  | _ => exact h
theorem Rs.modL {x : X} {B : List BM} {st : ST} {a n : Nat} {cs : List AV} {us : List Value} (h : Rs x B cs us) : Rs x B (modL (Am.nrmL st a) n cs) us := by
  refine Rs_of (by rw [length_modL, Rs_len h]) fun i c u hc hu => ?_
  rw [getElem?_modL] at hc
  split at hc
  · obtain ⟨c', h1, rfl⟩ := Option.map_eq_some_iff.1 hc
    obtain ⟨u', h2, h3⟩ := Rs_get h i c' h1
    rw [h2] at hu; cases hu
    exact R.nrmL h3
  · obtain ⟨u', h2, h3⟩ := Rs_get h i c hc
    rw [h2] at hu; cases hu
    exact h3
theorem Rs.nrmT {x : X} {B : List BM} : ∀ (r : List (Nat × ST × Nat)) {cs : List AV} {us : List Value}, Rs x B cs us → Rs x B (nrmT r cs) us
  | [], _, _, h => h
  | (d, st, a) :: r, _, _, h => Rs.nrmT r h.modL
theorem BxR.nrmB {x : X} {Bs : List BM} {β : BM} : ∀ (r : List (Nat × Nat × ST × Nat)) {bx : List (List AV)}, BxR x Bs β bx → BxR x Bs β (nrmB r bx)
  | [], _, h => h
  | (d, c, st, a) :: r, bx, h => by
    refine BxR.nrmB r fun d' => ?_
    have e : (Am.modL (Am.modL (Am.nrmL st a) c) d bx).getD d' [] = if d' = d then Am.modL (Am.nrmL st a) c (bx.getD d' []) else bx.getD d' [] := by
      simp only [List.getD_eq_getElem?_getD, getElem?_modL]
      split
      · cases bx[d']? with
        | none => cases c <;> rfl
        | some l => rfl
      · rfl
    rw [e]
    split
    · refine ⟨fun hd => by rw [(h d').1 hd]; cases c <;> rfl, fun b hb => ?_⟩
      obtain ⟨k1, k2, k3, k4, cur, ty, k5, k6, k7⟩ := (h d').2 b hb
      refine ⟨fun e0 => k1 (List.eq_nil_of_length_eq_zero ?_), k2, k3, k4, cur, ty, k5, k6.modL, k7⟩
      have := congrArg List.length e0
      rw [length_modL] at this
      simpa using this
    · exact h d'

theorem Sim.reset {x : X} {β : BM} {B : List BM} {fr : Fr} {cs : List Fr} {tss : List (List Value)} (S : Sim w0 I0 el x (β :: B) (fr :: cs) tss) (fx : Fix) : Sim w0 I0 el x ((fun d => if fx.drop.contains d then none else β d) :: B) (fr.reset fx :: cs) tss := by
  obtain ⟨ds, nt, nb⟩ := fx
  dsimp only
  cases tss with
  | nil => cases S.frs
  | cons ts tss =>
    have hβ : ∀ d, d ∉ ds → (fun d => if ds.contains d then none else β d) d = β d := fun d hd => by simp [hd]
    have hR : ∀ c u, R x (β :: B) c u → R x ((fun d => if ds.contains d then none else β d) :: B) (forget ds D c) u := fun c u h => R.forget ds β _ B hβ D c u h
    have hset : ∀ (l : List Nat) {B' : List BM} {cs : List AV} {us : List Value}, Rs x B' cs us → Rs x B' (resetL .undef l cs) us := by
      intro l
      induction l with
      | nil => intro B' cs us h; exact h
      | cons d l ih =>
        intro B' cs us h
        refine ih (Rs_of (by simp [Rs_len h]) fun i c u hc hu => ?_)
        rw [List.getElem?_set] at hc
        split at hc
        · split at hc
          · cases hc; trivial
          · cases hc
        · obtain ⟨u', h1, h2⟩ := Rs_get h i c hc
          rw [h1] at hu; cases hu; exact h2
    have hbx : ∀ (l : List Nat) (bx : List (List AV)) (d : Nat), (resetB l bx).getD d [] = if d ∈ l then [] else bx.getD d [] := by
      intro l
      induction l with
      | nil => intro bx d; simp [resetB]
      | cons e l ih =>
        intro bx d
        simp only [resetB]
        rw [ih]
        by_cases h : d ∈ l
        · simp [h]
        · simp only [h, if_false, List.mem_cons, or_false]
          by_cases hde : d = e
          · subst hde
            simp only [List.getD_eq_getElem?_getD, List.getElem?_set, if_true]
            split <;> rfl
          · simp [List.getD_eq_getElem?_getD, List.getElem?_set, hde, Ne.symm hde]
    refine ⟨S.sane, S.base, S.elq, S.below, S.keep, S.new, ?_, Rs.nrmT nt (hset ds (Rs_map _ S.frs.1 fun c u _ => hR c u)), BxR.nrmB nb ?_, S.frs.2.2⟩
    · intro j j' d d' b γ γ' h1 h2 h3 h4
      have hlift : ∀ (j : Nat) (γ : BM) d, ((fun d => if ds.contains d then none else β d) :: B)[j]? = some γ → γ d = some b → ∃ γ0, (β :: B)[j]? = some γ0 ∧ γ0 d = some b := by
        intro j γ d h1 h3
        cases j with
        | zero =>
          have h1 : (fun d => if ds.contains d then none else β d) = γ := by simpa using h1
          subst h1
          dsimp only at h3
          split at h3
          · cases h3
          · exact ⟨β, rfl, h3⟩
        | succ j => exact ⟨γ, by simpa using h1, h3⟩
      obtain ⟨g1, k1, k2⟩ := hlift j γ d h1 h3
      obtain ⟨g2, k3, k4⟩ := hlift j' γ' d' h2 h4
      exact S.inj j j' d d' b g1 g2 k1 k3 k2 k4
    · intro d
      rw [getD_mapf, hbx]
      by_cases hd : d ∈ ds
      · simp [hd]
      · simp only [hd, if_false, List.contains_eq_mem, decide_false, Bool.false_eq_true]
        refine ⟨fun h => by rw [(S.frs.2.1 d).1 h]; rfl, fun b hb => ?_⟩
        obtain ⟨k1, k2, k3, k4, cur, ty, k5, k6, k7⟩ := (S.frs.2.1 d).2 b hb
        exact ⟨by simpa using k1, k2, k3, k4, cur, ty, k5, Rs_map _ k6 fun c u _ => by simpa using hR c u, k7⟩

theorem Sim.drawn {x : X} {B : List BM} {frs : List Fr} {tss : List (List Value)} (S : Sim w0 I0 el x B frs tss) (n : Nat) : Sim w0 I0 el { x with w := { x.w with drawn := n } } B frs tss :=
  S.ext ⟨⟨rfl, rfl, fun _ _ h => ⟨h, rfl⟩, fun _ _ h _ => ⟨h, rfl, fun _ h => h⟩, fun _ _ => rfl⟩, ⟨rfl, rfl, rfl, Nat.le_refl _, fun _ _ => rfl⟩, fun _ _ h => .inl h, fun _ _ => rfl, S.sane.lt, S.sane.owlt⟩

theorem want_ok {x : X} {B : List BM} {ops : Array Oper} {o : Oper} {tmps : List AV} {ts : List Value} (h : Rs x B tmps ts) {b : Bool} (hw : wantA ops o tmps = some b) : Region.wanted o (yielded ops ts.toArray) = b := by
  unfold wantA at hw
  unfold Region.wanted
  cases hg : o.guard with
  | none =>
    rw [hg] at hw
    exact Option.some.inj hw
  | some gw =>
    obtain ⟨g, want⟩ := gw
    rw [hg] at hw
    dsimp only at hw ⊢
    unfold yielded
    cases ht : (ops[g]?).bind (·.dst) with
    | none => rw [ht] at hw; cases hw
    | some t =>
      rw [ht] at hw
      dsimp only at hw
      cases hv : tmps[t]? with
      | none => rw [hv] at hw; cases hw
      | some v =>
        rw [hv] at hw
        obtain ⟨u, h1, h2⟩ := Rs_get h t v hv
        have h1' : ts.toArray[t]? = some u := by simpa using h1
        simp only [Option.bind_some, h1']
        cases v with
        | bool c =>
          have h2 : u = .bool c := h2
          subst h2
          have := Option.some.inj hw
          subst this
          cases c <;> cases want <;> rfl
        | tup cs =>
          cases cs with
          | nil =>
            obtain ⟨us, h3, h4⟩ := h2
            have h4 : us = [] := h4
            subst h4 h3
            have := Option.some.inj hw
            subst this
            rfl
          | cons => cases hw
        | _ => cases hw

include hC in
/-- One operation, of a region. -/
theorem op_sound {x : X} {β : BM} {B : List BM} {fr : Fr} {cs : List Fr} {ts : List Value} {tss : List (List Value)} (S : Sim w0 I0 el x (β :: B) (fr :: cs) (ts :: tss)) {ops : Array Oper} {i : Nat} {o : Oper} (ho : ops[i]? = some o)
    (hw : wantA ops o fr.tmps = some true) {a : Action} (ha : act C o (ev fr.tmps) some = some a) {fr' : Fr} {cs' : List Fr} (hp : perform o.dst fr cs a = some (fr', cs')) (todo : List Nat) (k : List Item) (ms : List Frame) :
    ∃ x' β' ts', Sim w0 I0 el x' (β' :: B) (fr' :: cs') (ts' :: tss) ∧
      Steps P (lone (mf (fr.f, .inRegion ops (i :: todo) :: k) ts) ms x.w) (lone (mf (fr.f, .inRegion ops todo :: k) ts') ms x'.w) := by
  have he : ∀ y, R x (β :: B) (ev fr.tmps y) ((actL ts).eval y) := fun y => ev_ok (a := actL ts) (by simpa [actL] using S.frs.1) y
  obtain ⟨a', ha', hok⟩ := act_ok hC S.sane S.elq he ha
  cases ha'
  obtain ⟨u, w', ⟨x', β', rfl, S'⟩, hst⟩ := (perform_ok S hok hp).goes (b := fb fr.f) ho (by simpa [actL] using want_ok S.frs.1 hw) todo k ms
  rw [put_actL] at hst
  exact ⟨x', β', _, S', hst⟩

theorem skip_sound {x : X} {β : BM} {B : List BM} {fr : Fr} {cs : List Fr} {ts : List Value} {tss : List (List Value)} (S : Sim w0 I0 el x (β :: B) (fr :: cs) (ts :: tss)) {ops : Array Oper} {i : Nat} {o : Oper} (ho : ops[i]? = some o)
    (hw : wantA ops o fr.tmps = some false) (todo : List Nat) (k : List Item) (ms : List Frame) :
    ∃ ts', Sim w0 I0 el x (β :: B) (fr.put o.dst (.tup []) :: cs) (ts' :: tss) ∧
      Steps P (lone (mf (fr.f, .inRegion ops (i :: todo) :: k) ts) ms x.w) (lone (mf (fr.f, .inRegion ops todo :: k) ts') ms x.w) := by
  refine ⟨_, S.put unit_ok o.dst, ?_⟩
  have := step_op_skip (P := P) (b := fb fr.f) (a := actL ts) (k := k) (cs := ms) (w := x.w) (ops := ops) (i := i) (rest := todo) (by rw [ho]; simpa [actL] using want_ok S.frs.1 hw)
  rw [ho, Option.bind_some, put_actL] at this
  exact .one this

include hC in
/-- A region that draws, in the order that was drawn. -/
theorem runA_sound {ops : Array Oper} {k : List Item} {tss : List (List Value)} {B : List BM} {ms : List Frame} : ∀ (l : List Nat) (fr : Fr) (cs : List Fr) (x : X) (β : BM) (ts : List Value) (s2 : Fr × List Fr) (accs : List (Nat × Log)),
    Sim w0 I0 el x (β :: B) (fr :: cs) (ts :: tss) → runA C ops l (fr, cs) = some (s2, accs) →
    ∃ x' β' ts', Sim w0 I0 el x' (β' :: B) (s2.1 :: s2.2) (ts' :: tss) ∧ key s2.1 = key fr ∧ s2.2.map key = cs.map key ∧
      Steps P (lone (mf (fr.f, .inRegion ops l :: k) ts) ms x.w) (lone (mf (fr.f, .inRegion ops [] :: k) ts') ms x'.w)
  | [], fr, cs, x, β, ts, s2, accs, S, h => by
    simp only [runA, Option.some.injEq, Prod.mk.injEq] at h
    obtain ⟨rfl, _⟩ := h
    exact ⟨x, β, ts, S, rfl, rfl, .refl _ _⟩
  | i :: l, fr, cs, x, β, ts, s2, accs, S, h => by
    simp only [runA] at h
    split at h
    · rename_i s1 acc ho1
      simp only [Option.map_eq_some_iff, Prod.mk.injEq] at h
      obtain ⟨⟨s2', accs0⟩, h1, rfl, _⟩ := h
      unfold opA at ho1
      split at ho1
      · cases ho1
      · rename_i o ho
        split at ho1
        · rename_i a acc' ha
          simp only [Option.map_eq_some_iff, Prod.mk.injEq] at ho1
          obtain ⟨⟨fr1, cs1⟩, hp, rfl, _⟩ := ho1
          dsimp only at hp ha
          have hk := perform_key hp
          have one : ∃ x' β' ts', Sim w0 I0 el x' (β' :: B) (fr1 :: cs1) (ts' :: tss) ∧ Steps P (lone (mf (fr.f, .inRegion ops (i :: l) :: k) ts) ms x.w) (lone (mf (fr.f, .inRegion ops l :: k) ts') ms x'.w) := by
            unfold actA at ha
            split at ha
            · rename_i hw
              simp only [Option.map_eq_some_iff, Prod.mk.injEq] at ha
              obtain ⟨a', ha', rfl, _⟩ := ha
              exact op_sound hC S ho hw ha' hp l k ms
            · rename_i hw
              simp only [Option.some.injEq, Prod.mk.injEq] at ha
              obtain ⟨rfl, _⟩ := ha
              simp only [perform, Option.some.injEq, Prod.mk.injEq] at hp
              obtain ⟨rfl, rfl⟩ := hp
              obtain ⟨ts', S', hst⟩ := skip_sound (P := P) S ho hw l k ms
              exact ⟨x, β, ts', S', hst⟩
            · cases ha
          obtain ⟨x1, β1, ts1, S1, hst1⟩ := one
          obtain ⟨x2, β2, ts2, S2, hk1, hk2, hst2⟩ := runA_sound l fr1 cs1 x1 β1 ts1 _ accs0 S1 h1
          have hf : fr1.f = fr.f := congrArg Prod.fst hk.1
          rw [hf] at hst2
          exact ⟨x2, β2, ts2, S2, hk1.trans hk.1, hk2.trans hk.2, hst1.trans hst2⟩
        · cases ho1
    · cases h
end
end Go.Am
