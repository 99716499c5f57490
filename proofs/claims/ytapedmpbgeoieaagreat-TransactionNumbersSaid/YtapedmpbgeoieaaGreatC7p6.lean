/- Part 6 of the proof: Am6. -/
import Derived.Great.BuildSlice
import Derived.Test.YtapedmpbgeoieaaGreatC7p5
set_option linter.unusedSimpArgs false
set_option linter.unusedVariables false
namespace Go.Am
open Go Go.RowKit
set_option linter.unusedSimpArgs false
set_option linter.unusedVariables false
set_option linter.unusedSectionVars false

theorem rowsV_take (st : ST) (l : List st.El) (n : Nat) (hn : n ≤ l.length) : rowsV st (l.take n) = (rowsV st l).take (n * st.k) := by
  have hlen : (rowsV st (l.take n)).length = n * st.k := by rw [rowsV_len, List.length_take, Nat.min_eq_left hn]
  have h := rowsV_app st (l.take n) (l.drop n)
  rw [List.take_append_drop] at h
  rw [h, ← hlen]
  exact List.take_left.symm

/-- What is owned turned, in the block 'nb' now. -/
def ownX (x : X) (w' : World) (a : Nat) (nb : Option Nat) (v' : Value) : X :=
  ⟨w', x.I, fun b => if nb = some b then some a else x.ow b, fun c => if c = a then some v' else x.vo c, x.el, x.base⟩
theorem own_post {x : X} (hs : Sane x) {w' : World} {a : Nat} {vb nb : Option Nat} {v' : Value} (hold : ∀ b, vb = some b → x.ow b = some a ∧ ∀ o, ¬ x.I b o) (hvlt : ∀ b, vb = some b → x.base ≤ b) (hg : x.w.grownBy w' vb) (hb : nb = vb ∨ ∃ b, nb = some b ∧ x.w.heap.size ≤ b)
    (hlt : ∀ b, nb = some b → x.base ≤ b ∧ b < w'.heap.size) {v : AV} {w : W} {u : Value} (h1 : ∀ B, R (ownX x w' a nb v') B v u) (h2 : ∀ z, x.vo a = some z → ∀ B, R (ownX x w' a nb v') B (w.av a) z) : AppPost x v (.lab a) w u w' := by
  have hn : ∀ b, b < x.w.heap.size → (∀ a', x.ow b = some a' → a' ≠ a) → nb ≠ some b := by
    intro b hlt' hne e
    rcases hb with hb | ⟨b', hb, hge⟩
    · exact hne a (hold b (hb ▸ e)).1 rfl
    · rw [hb] at e; cases e; omega
  have hblk : ∀ b, b < x.w.heap.size → (∀ a', x.ow b = some a' → a' ≠ a) → w'.heap[b]? = x.w.heap[b]? := by
    intro b hlt' hne
    exact hg.block b hlt' fun e => hne a (hold b e.symm).1 rfl
  refine ⟨ownX x w' a nb v', rfl, ⟨rfl, rfl, fun b o hI => ⟨hI, ?_⟩, fun b a' how hna => ?_, fun a' ha' => ?_⟩, ⟨hg.os, hg.tape, hg.output, hg.size, fun k hk => ?_⟩, ⟨fun b o hI => ?_, fun b a' h => ?_, Nat.le_trans hs.base hg.size⟩, fun b hlt' hne => ?_, fun b o hI => .inl hI, h1, fun a' z e => by cases e; exact h2 z⟩
  · exact World.cell?_of_block (a := ⟨b, o, none⟩) (hg.block b (hs.lt b o hI) fun e => (hold b e.symm).2 o hI)
  · have hna : a' ≠ a := fun e => hna (by rw [e])
    have h3 : ∀ a'', x.ow b = some a'' → a'' ≠ a := fun a'' h e => by rw [how] at h; cases h; exact hna e
    have h4 := (hs.owlt b a' how).1
    exact ⟨by simp only [ownX, if_neg (hn b h4 h3)]; exact how, hblk b h4 h3, fun _ h => h⟩
  · have : a' ≠ a := fun e => ha' (by rw [e])
    simp [ownX, this]
  · exact hg.block k (Nat.lt_of_lt_of_le hk hs.base) fun e => by have := hvlt k e.symm; omega
  · exact Nat.lt_of_lt_of_le (hs.lt b o hI) hg.size
  · simp only [ownX] at h ⊢
    split at h
    · rename_i e; exact ⟨(hlt b e).2, (hlt b e).1⟩
    · exact ⟨Nat.lt_of_lt_of_le (hs.owlt b a' h).1 hg.size, (hs.owlt b a' h).2⟩
  · have h3 : ∀ a'', x.ow b = some a'' → a'' ≠ a := fun a'' h e => hne a'' h (by rw [e])
    exact ⟨by simp only [ownX, if_neg (hn b hlt' h3)], hblk b hlt' h3, fun _ h => h⟩

theorem ownX_own {x : X} {w' : World} {a : Nat} {vb : Option Nat} {t : ST} {l' : List t.El} {v' : Value} (hs : Sane x) (hold : ∀ b, vb = some b → ∀ o, ¬ x.I b o) (hb : v'.ownBlock = vb ∨ ∃ b, v'.ownBlock = some b ∧ x.w.heap.size ≤ b)
    (hown : w'.ownsRow x.base (x.el t) t.k v' l'.length (rowsV t l')) : OwnR (ownX x w' a v'.ownBlock v') t l' a v' := by
  refine ⟨by simp [ownX], hown, fun b e => ⟨by simp [ownX, e], fun o hI => ?_⟩⟩
  rcases hb with h | ⟨b', h, hge⟩
  · exact hold b (h ▸ e) o hI
  · rw [h] at e; cases e
    have := hs.lt _ o hI
    omega

/-- An owned slice turned. -/
theorem own_step {x : X} (hs : Sane x) {w' : World} {a : Nat} {t : ST} {l l' : List t.El} {v v' : Value} (hv : OwnR x t l a v) (hown : w'.ownsRow x.base (x.el t) t.k v' l'.length (rowsV t l')) (hg : x.w.grownBy w' v.ownBlock) (hb : v'.ownBlock = v.ownBlock ∨ ∃ b, v'.ownBlock = some b ∧ x.w.heap.size ≤ b) :
    AppPost x (.os t l' a) (.lab a) .undef v' w' :=
  own_post hs (fun b e => (hv.2.2 b e)) (fun b e => (hv.2.1.lt b e).1) hg hb (fun b e => hown.lt b e) (fun _ => ownX_own hs (fun b e => (hv.2.2 b e).2) hb hown) (fun _ _ _ => trivial)
/-- .. in place. -/
theorem own_upd {x : X} (hs : Sane x) {w' : World} {a : Nat} {t : ST} {l l' : List t.El} {v u : Value} {r : AV} (hv : OwnR x t l a v) (hown : w'.ownsRow x.base (x.el t) t.k v l'.length (rowsV t l')) (hg : x.w.grownBy w' v.ownBlock) (hr : ∀ x B, R x B r u) :
    AppPost x r (.lab a) (.os t l') u w' :=
  own_post (v' := v) (nb := v.ownBlock) hs (fun b e => (hv.2.2 b e)) (fun b e => (hv.2.1.lt b e).1) hg (.inl rfl) (fun b e => hown.lt b e) (fun _ => hr _ _) (fun z hz B => by
    rw [hv.1] at hz; cases hz
    exact ownX_own hs (fun b e => (hv.2.2 b e).2) (.inl rfl) hown)
/-- A new one. -/
theorem own_new {x : X} (hs : Sane x) {w' : World} {a : Nat} {t : ST} {l' : List t.El} {v' : Value} (hown : w'.ownsRow x.w.heap.size (x.el t) t.k v' l'.length (rowsV t l')) (hg : Below x.w.heap.size x.w w') :
    AppPost x (.os t l' a) (.lab a) .undef v' w' := by
  have hb : v'.ownBlock = none ∨ ∃ b, v'.ownBlock = some b ∧ x.w.heap.size ≤ b := by
    cases h : v'.ownBlock with
    | none => exact .inl rfl
    | some b => exact .inr ⟨b, rfl, (hown.lt b h).1⟩
  have hown' : w'.ownsRow x.base (x.el t) t.k v' l'.length (rowsV t l') := by
    refine ⟨hown.1, ?_⟩
    rcases hown.2 with h | ⟨g, cap, cur, rfl, h1, h2⟩
    · exact .inl h
    · exact .inr ⟨g, cap, cur, rfl, Nat.le_trans hs.base h1, h2⟩
  exact own_post (vb := none) hs (fun b e => by cases e) (fun b e => by cases e) ⟨hg.os, hg.tape, hg.output, hg.size, fun k hk _ => hg.block k hk⟩ hb (fun b e => hown'.lt b e) (fun _ => ownX_own hs (fun b e => by cases e) hb hown') (fun _ _ _ => trivial)

theorem litT_ok {C : Cfg} {t k : Nat} (h : litT C t k = true) : ∃ ti, look t C.ty = some ti ∧ ti.sl = none ∧ ti.esize = k ∧ k ≠ 0 := by
  unfold litT at h
  split at h
  · rename_i ti hl
    simp at h
    exact ⟨ti, hl, h.1, h.2.1, h.2.2⟩
  · cases h

section
variable {P : Program} {el : ST → Nat} {C : Cfg} (hC : COk P el C) {x : X} (hs : Sane x) (hel : x.el = el) {B : List (Nat → Option Nat)} {o : Oper} {ρ : Operand → Value} {e : Operand → AV} (he : ∀ y, R x B (e y) (ρ y))

include hC in
theorem slT_info {t : Nat} {st : ST} (h : slT C t st = true) : ∃ ti, look t C.ty = some ti ∧ ti.sl = some st ∧ ti.ebytes ≠ 0 ∧ P.underlying t = some (.slice (el st)) ∧ ∃ i z, P.info? (el st) = some i ∧ i.size = st.k ∧ i.bytes = ti.ebytes ∧ i.zero = some z ∧ z.cells.size = st.k := by
  obtain ⟨ti, h1, h2, h3⟩ := slT_ok h
  obtain ⟨h4, h5⟩ := sl_info (hC.ty t ti h1) h2
  exact ⟨ti, h1, h2, h3, h4, h5⟩
include hC in
theorem litT_info {t k : Nat} (h : litT C t k = true) : ∃ el', k ≠ 0 ∧ P.underlying t = some (.slice el') ∧ ∃ i z, P.info? el' = some i ∧ i.size = k ∧ i.zero = some z ∧ z.cells.size = k := by
  obtain ⟨ti, h1, h2, h3, h4⟩ := litT_ok h
  obtain ⟨h5, h6, h7⟩ := (hC.ty t ti h1).lit h2 (by rw [h3]; exact h4)
  refine ⟨ti.el, h4, h5, ?_⟩
  cases hi : P.info? ti.el with
  | none => simp [hi] at h6
  | some i =>
    rw [hi] at h6 h7
    simp only [Option.map_some, Option.some.injEq, Option.bind_some] at h6 h7
    cases hz : i.zero with
    | none => simp [hz] at h7
    | some z => exact ⟨i, z, rfl, h6.trans h3, hz, by simpa [hz, h3] using h7⟩

theorem idxSlice_run {t e' : Nat} {i : TypeInfo} (hu : P.underlying t = some (.slice e')) (hi : P.info? e' = some i) (w : World) (a : Addr) (n c : Nat) (k : IntKind) (j : Int) (h : 0 ≤ j ∧ j < n) :
    (Instr.indexAt t (.slice (some a) n c) (.int k j)).run P w = .ok (.pointer (some (a.add (j.toNat * i.size)))) w := by
  simp [Instr.indexAt, run_underlying hu, asIntOf, h, Go.sizeOf, typeInfo, hi]
theorem idxArr_run {t e' len : Nat} {i : TypeInfo} (hu : P.underlying t = some (.array len e')) (hi : P.info? e' = some i) (w : World) (a : Addr) (k : IntKind) (j : Int) (h : 0 ≤ j ∧ j < len) :
    (Instr.indexAt t (.pointer (some a)) (.int k j)).run P w = .ok (.pointer (some (a.add (j.toNat * i.size)))) w := by
  simp [Instr.indexAt, run_underlying hu, asIntOf, h, Go.sizeOf, typeInfo, hi, Instr.sureAddr]

include hC in
theorem arr_info {t n s : Nat} (h : (look t C.ty).bind (·.arr) = some (n, s)) : ∃ e' i, P.underlying t = some (.array n e') ∧ P.info? e' = some i ∧ i.size = s := by
  cases hl : look t C.ty with
  | none => simp [hl] at h
  | some ti =>
    have h1 := (hC.ty t ti hl).arr n s (by simpa [hl] using h)
    cases hu : P.underlying t with
    | none => simp [hu] at h1
    | some d =>
      cases d with
      | array m e' =>
        simp only [hu, Option.bind_some] at h1
        cases hi : P.info? e' with
        | none => simp [hi] at h1
        | some i =>
          simp only [hi, Option.map_some, Option.some.injEq, Prod.mk.injEq] at h1
          obtain ⟨rfl, h2⟩ := h1
          exact ⟨e', i, rfl, hi, h2⟩
      | _ => simp [hu] at h1

include hC hs he in
theorem act_idx {t : Nat} {y z : Operand} (ho : o.op = .indexAddr t y z) {α : Type} {K : AV → Option α} {r : α} (h : idxA C t (e y) (e z) K = some r) : ∃ v, K v = some r ∧ ActOk P x B o ρ (.val v) := by
  have hy := nrm_ok (C := C) (t := t) (he y)
  have hz := he z
  unfold idxA at h
  split at h
  · rename_i st l tok k i e1 e2
    rw [e1] at hy; rw [e2] at hz
    have hz : ρ z = .int k i := hz
    split at h
    · rename_i hT
      rcases cond_some h with ⟨h1, h2⟩ | ⟨_, h2⟩
      · have h1 := of_decide_eq_true h1
        obtain ⟨ti, _, _, _, hu, i', z', hi, hsz, _⟩ := slT_info hC hT
        obtain ⟨A, c, e3, hle, hat, _⟩ := hy
        have hlt : i.toNat < l.length := by omega
        have hget : l[i.toNat]? = some l[i.toNat] := List.getElem?_eq_getElem hlt
        rcases hat with hat | ⟨b, o', rfl, hat⟩
        · have := st_k_pos st
          rcases Nat.mul_eq_zero.1 hat with h | h <;> omega
        · refine ⟨_, h2, .pure hs (u := .pointer (some ⟨b, o' + i.toNat * st.k + 0, none⟩)) ?_ ⟨b, o' + i.toNat * st.k, rfl, ?_⟩⟩
          · simp only [execOp, ho, e3, hz, Sem.run_bind, idxSlice_run hu hi x.w _ _ _ k i h1, Result.andThen_ok, Sem.run_pure, Addr.add_lit, hsz, Nat.add_zero]
          · rw [List.getD_eq_getElem?_getD, hget]
            exact At.rows hat _ _ hget
      · cases h2
    · cases h
  · rename_i st l a k i e1 e2
    rw [e1] at hy; rw [e2] at hz
    have hz : ρ z = .int k i := hz
    split at h
    · rename_i hT
      rcases cond_some h with ⟨h1, h2⟩ | ⟨_, h2⟩
      · have h1 := of_decide_eq_true h1
        obtain ⟨ti, _, _, _, hu, i', z', hi, hsz, _⟩ := slT_info hC hT
        have hlt : i.toNat < l.length := by omega
        have hy0 : OwnR x st l a (ρ y) := hy
        rcases hy0.2.1.2 with ⟨e3, e4⟩ | ⟨b, c, cur, e3, _⟩
        · omega
        · rw [e3] at hy0
          refine ⟨_, h2, .pure hs (u := .pointer (some ⟨b, i.toNat * st.k + 0, none⟩)) ?_ ⟨b, c, hy0, hlt, rfl⟩⟩
          simp only [execOp, ho, e3, hz, Sem.run_bind, idxSlice_run hu hi x.w _ _ _ k i h1, Result.andThen_ok, Sem.run_pure, Addr.add_lit, hsz, Nat.zero_add, Nat.add_zero]
      · cases h2
    · cases h
  · rename_i k n cells k' i e1 e2
    rw [e1] at hy; rw [e2] at hz
    have hz : ρ z = .int k' i := hz
    split at h
    · rename_i hT
      rcases cond_some h with ⟨h1, h2⟩ | ⟨_, h2⟩
      · have h1 := of_decide_eq_true h1
        obtain ⟨el', hk, hu, i', z', hi, hsz, _⟩ := litT_info hC hT
        obtain ⟨b, c, us, e3, e4, e5, e6⟩ := hy
        refine ⟨_, h2, .pure hs (u := .pointer (some ⟨b, i.toNat * k, none⟩)) ?_ ⟨b, us, rfl, e5, e6⟩⟩
        simp only [execOp, ho, e3, hz, Sem.run_bind, idxSlice_run hu hi x.w _ _ _ k' i h1, Result.andThen_ok, Sem.run_pure, Addr.add_lit, hsz, Nat.zero_add]
      · cases h2
    · cases h
  · rename_i up d off k i e1 e2
    rw [e1] at hy; rw [e2] at hz
    have hz : ρ z = .int k i := hz
    split at h
    · rename_i n sz harr
      rcases cond_some h with ⟨h1, h2⟩ | ⟨_, h2⟩
      · have h1 := of_decide_eq_true h1
        obtain ⟨e', i', hu, hi, hsz⟩ := arr_info hC harr
        obtain ⟨β, b, h3, h4, h5⟩ := hy
        refine ⟨_, h2, .pure hs (u := .pointer (some ⟨b, off + i.toNat * sz, none⟩)) ?_ ⟨β, b, h3, h4, rfl⟩⟩
        simp only [execOp, ho, h5, hz, Sem.run_bind, idxArr_run hu hi x.w _ k i h1, Result.andThen_ok, Sem.run_pure, Addr.add_lit, hsz]
      · cases h2
    · cases h
  · rename_i cells off k i e1 e2
    rw [e1] at hy; rw [e2] at hz
    have hz : ρ z = .int k i := hz
    split at h
    · rename_i n sz harr
      rcases cond_some h with ⟨h1, h2⟩ | ⟨_, h2⟩
      · have h1 := of_decide_eq_true h1
        obtain ⟨e', i', hu, hi, hsz⟩ := arr_info hC harr
        obtain ⟨b, us, h3, h4, h5⟩ := hy
        refine ⟨_, h2, .pure hs (u := .pointer (some ⟨b, off + i.toNat * sz, none⟩)) ?_ ⟨b, us, rfl, h4, h5⟩⟩
        simp only [execOp, ho, h3, hz, Sem.run_bind, idxArr_run hu hi x.w _ k i h1, Result.andThen_ok, Sem.run_pure, Addr.add_lit, hsz]
      · cases h2
    · cases h
  · cases h

theorem slice_run {t e' : Nat} {i : TypeInfo} (hu : P.underlying t = some (.slice e')) (hi : P.info? e' = some i) : P.underlying t = some (.slice (P.elem t)) ∧ P.elem t = e' := by
  have : P.elem t = e' := by simp [Program.elem, hu]
  exact ⟨by rw [this]; exact hu, this⟩

include hC hs he in
theorem act_slice {t : Nat} {y : Operand} {lo hi : Option Operand} (ho : o.op = .slice t y lo hi none) {α : Type} {K : Action → Option α} {r : α} (h : sliceA C t (e y) (lo.map e) (hi.map e) K = some r) : ∃ a, K a = some r ∧ ActOk P x B o ρ a := by
  have hy := nrm_ok (C := C) (t := t) (he y)
  unfold sliceA at h
  split at h
  · rename_i st l tok e1
    rw [e1] at hy
    split at h
    · rename_i hT
      obtain ⟨ti, _, _, _, hu, i', z', hinf, hsz, _⟩ := slT_info hC hT
      obtain ⟨hu', hel'⟩ := slice_run hu hinf
      have hso : ∀ w, (Go.sizeOf (P.elem t)).run P w = .ok st.k w := by intro w; simp [Go.sizeOf, typeInfo, hel', hinf, hsz]
      obtain ⟨A, c, e3, hle, hat, _⟩ := hy
      split at h
      · rename_i k b e4 e5
        have e4 : lo = none := by cases lo <;> simp at e4 ⊢
        subst e4
        obtain ⟨hi', rfl, e6⟩ : ∃ hi', hi = some hi' ∧ e hi' = .int k b := by cases hi with
          | none => cases e5
          | some a => exact ⟨a, rfl, by simpa using e5⟩
        have hb := he hi'
        rw [e6] at hb
        have hb : ρ hi' = .int k b := hb
        rcases cond_some h with ⟨h1, h2⟩ | ⟨_, h2⟩
        · have h1 := of_decide_eq_true h1
          have hlt : b.toNat ≤ l.length := by omega
          refine ⟨_, h2, .pure hs (u := sliced A 0 b.toNat c st.k) ?_ ?_⟩
          · simp only [execOp, ho, e3, hb, Option.map_none, Option.map_some, Sem.run_bind, run_sliceAt_slice x.w t _ _ _ _ hu', run_slice_h x.w t A l.length c hu' k b h1.1 (by omega), hso, Result.andThen_ok, Sem.run_pure]
          · have hlen : (l.take b.toNat).length = b.toNat := by simp [hlt]
            have : sliced A 0 b.toNat c st.k = .slice A b.toNat c := by
              unfold sliced
              cases A with
              | none => simp
              | some a => by_cases hc : c = 0 <;> simp [hc, Addr.add]
            rw [this]
            refine ⟨A, c, by rw [hlen], by omega, ?_, trivial⟩
            rcases hat with hat | ⟨bb, oo, rfl, hat⟩
            · left
              rw [hlen]
              rcases Nat.mul_eq_zero.1 hat with h | h
              · have : b.toNat = 0 := by omega
                simp [this]
              · simp [h]
            · refine .inr ⟨bb, oo, rfl, fun j u hj => hat j u ?_⟩
              conv => lhs; rw [← List.take_append_drop b.toNat l]
              rw [rowsV_app]
              rcases Nat.lt_or_ge j (rowsV st (l.take b.toNat)).length with hj' | hj'
              · rw [List.getElem?_append_left hj']; exact hj
              · rw [List.getElem?_eq_none hj'] at hj; cases hj
        · cases h2
      · rename_i k a e4 e5
        have e5 : hi = none := by cases hi <;> simp at e5 ⊢
        subst e5
        obtain ⟨lo', rfl, e6⟩ : ∃ hi', lo = some hi' ∧ e hi' = .int k a := by cases lo with
          | none => cases e4
          | some a => exact ⟨a, rfl, by simpa using e4⟩
        have hb := he lo'
        rw [e6] at hb
        have hb : ρ lo' = .int k a := hb
        rcases cond_some h with ⟨h1, h2⟩ | ⟨_, h2⟩
        · have h1 := of_decide_eq_true h1
          have hlt : a.toNat ≤ l.length := by omega
          refine ⟨_, h2, .pure hs (u := sliced A a.toNat l.length c st.k) ?_ ?_⟩
          · simp only [execOp, ho, e3, hb, Option.map_none, Option.map_some, Sem.run_bind, run_sliceAt_slice x.w t _ _ _ _ hu', run_slice_l x.w t A l.length c hu' k a h1.1 (by omega), hso, Result.andThen_ok, Sem.run_pure]
          · have hlen : (l.drop a.toNat).length = l.length - a.toNat := by simp
            unfold sliced
            refine ⟨_, _, by rw [hlen], by omega, ?_, trivial⟩
            rcases Nat.eq_or_lt_of_le hlt with hq | hq
            · left; rw [hlen, hq]; simp
            · right
              rcases hat with hat | ⟨bb, oo, rfl, hat⟩
              · have := st_k_pos st
                rcases Nat.mul_eq_zero.1 hat with h | h <;> omega
              · rw [if_neg (by omega)]
                refine ⟨bb, oo + a.toNat * st.k, by simp [Addr.add], fun j u hj => ?_⟩
                rw [Nat.add_assoc]
                refine hat (a.toNat * st.k + j) u ?_
                have hlt' : (rowsV st (l.take a.toNat)).length = a.toNat * st.k := by rw [rowsV_len]; simp [Nat.min_eq_left hlt]
                conv => lhs; rw [← List.take_append_drop a.toNat l]
                rw [rowsV_app, List.getElem?_append_right (by omega), hlt', Nat.add_sub_cancel_left]
                exact hj
        · cases h2
      · cases h
    · cases h
  · rename_i st l lb e1
    rw [e1] at hy
    split at h
    · rename_i hT
      obtain ⟨ti, _, _, _, hu, i', z', hinf, hsz, _⟩ := slT_info hC hT
      obtain ⟨hu', hel'⟩ := slice_run hu hinf
      have hso : ∀ w, (Go.sizeOf (P.elem t)).run P w = .ok st.k w := by intro w; simp [Go.sizeOf, typeInfo, hel', hinf, hsz]
      have hy : OwnR x st l lb (ρ y) := hy
      obtain ⟨A, c, e3, hle, hnil⟩ : ∃ A c, ρ y = .slice A l.length c ∧ l.length ≤ c ∧ (A = none → l.length = 0 ∧ c = 0) := by
        rcases hy.2.1.2 with ⟨e3, e4⟩ | ⟨b, c, cur, e3, _, _, hc, _⟩
        · exact ⟨none, 0, by rw [e3, e4], by omega, fun _ => ⟨e4, rfl⟩⟩
        · exact ⟨some ⟨b, 0, none⟩, c, e3, hc, fun h => by cases h⟩
      split at h
      · rename_i k b e4 e5
        have e4 : lo = none := by cases lo <;> simp at e4 ⊢
        subst e4
        obtain ⟨hi', rfl, e6⟩ : ∃ hi', hi = some hi' ∧ e hi' = .int k b := by cases hi with
          | none => cases e5
          | some a => exact ⟨a, rfl, by simpa using e5⟩
        have hb := he hi'
        rw [e6] at hb
        have hb : ρ hi' = .int k b := hb
        rcases cond_some h with ⟨h1, h2⟩ | ⟨_, h2⟩
        · have h1 := of_decide_eq_true h1
          have hlt : b.toNat ≤ l.length := by omega
          have hsl : sliced A 0 b.toNat c st.k = .slice A b.toNat c := by
            unfold sliced
            cases A with
            | none => simp
            | some a => by_cases hc : c = 0 <;> simp [hc, Addr.add]
          have hlen : (l.take b.toNat).length = b.toNat := by simp [hlt]
          refine ⟨_, h2, .inl ⟨sliced A 0 b.toNat c st.k, x.w, ?_, ?_⟩⟩
          · simp only [execOp, ho, e3, hb, Option.map_none, Option.map_some, Sem.run_bind, run_sliceAt_slice x.w t _ _ _ _ hu', run_slice_h x.w t A l.length c hu' k b h1.1 (by omega), hso, Result.andThen_ok, Sem.run_pure]
          · rw [hsl]
            rw [e3] at hy
            have hob : (Value.slice A b.toNat c).ownBlock = (Value.slice A l.length c).ownBlock := by cases A <;> rfl
            refine own_step hs hy ?_ ⟨rfl, rfl, rfl, Nat.le_refl _, fun _ _ _ => rfl⟩ (.inl hob)
            have hrl := rowsV_take st l b.toNat hlt
            rw [hlen, hrl]
            refine ⟨by rw [List.length_take, rowsV_len]; exact Nat.min_eq_left (Nat.mul_le_mul_right _ hlt), ?_⟩
            rcases hy.2.1.2 with ⟨e7, e8⟩ | ⟨g, cap, cur, e7, k1, k2, k3, k4, k5, k6⟩
            · left
              injection e7 with e7 _ e9
              exact ⟨by rw [e7, e9]; congr 1; omega, by omega⟩
            · right
              injection e7 with e7 _ e9
              refine ⟨g, cap, cur, by rw [e7, e9], k1, k2, by omega, k4, k5, ?_⟩
              rw [← k6, List.take_take, Nat.min_eq_left (Nat.mul_le_mul_right _ hlt)]
        · cases h2
      · rename_i k a e4 e5
        have e5 : hi = none := by cases hi <;> simp at e5 ⊢
        subst e5
        obtain ⟨lo', rfl, e6⟩ : ∃ hi', lo = some hi' ∧ e hi' = .int k a := by cases lo with
          | none => cases e4
          | some a => exact ⟨a, rfl, by simpa using e4⟩
        have hb := he lo'
        rw [e6] at hb
        have hb : ρ lo' = .int k a := hb
        rcases cond_some h with ⟨h1, h2⟩ | ⟨_, h2⟩
        · have h1 := of_decide_eq_true h1
          rw [e3] at hy
          refine ⟨_, h2, .pure hs (u := sliced A a.toNat l.length c st.k) ?_ ⟨A, c, hy, by omega, rfl⟩⟩
          simp only [execOp, ho, e3, hb, Option.map_none, Option.map_some, Sem.run_bind, run_sliceAt_slice x.w t _ _ _ _ hu', run_slice_l x.w t A l.length c hu' k a h1.1 (by omega), hso, Result.andThen_ok, Sem.run_pure]
        · cases h2
      · cases h
    · cases h
  · cases h

/-! ### len, min, max -/
include hC in
theorem len_run {t : Nat} {v : AV} {u : Value} (hv : R x B v u) {n : AV} (h : lenA C t v = some n) (ty : Nat) : ∃ m : Int, n = .i m ∧ (Builtin.len_ #[t] ty #[u]).run P x.w = .ok (.int .i64 m) x.w := by
  unfold lenA at h
  split at h
  · rename_i st l tok
    split at h
    · rename_i hT
      cases h
      obtain ⟨ti, _, _, _, hu, i', z', hi, hsz, _⟩ := slT_info hC hT
      obtain ⟨A, c, e3, hle, hat, _⟩ := hv
      exact ⟨_, rfl, by simp [Builtin.len_, run_underlying hu, e3, goInt]⟩
    · cases h
  · rename_i k n' cells
    split at h
    · rename_i hT
      cases h
      obtain ⟨el', hk, hu, i', z', hi, hsz, _⟩ := litT_info hC hT
      obtain ⟨b, c, us, e3, e4, e5, e6⟩ := hv
      exact ⟨_, rfl, by simp [Builtin.len_, run_underlying hu, e3, goInt]⟩
    · cases h
  · rename_i st l a
    split at h
    · rename_i hT
      cases h
      obtain ⟨ti, _, _, _, hu, i', z', hi, hsz, _⟩ := slT_info hC hT
      have hv : OwnR x st l a u := hv
      obtain ⟨A, c, e3⟩ : ∃ A c, u = .slice A l.length c := by
        rcases hv.2.1.2 with ⟨e3, e4⟩ | ⟨b, c, cur, e3, _⟩
        · exact ⟨none, 0, by rw [e3, e4]⟩
        · exact ⟨some ⟨b, 0, none⟩, c, e3⟩
      exact ⟨_, rfl, by simp [Builtin.len_, run_underlying hu, e3, goInt]⟩
    · cases h
  · cases h

theorem arr_one {α : Type} {a : Array α} {x : α} (h : a.toList = [x]) : a = #[x] := by
  apply Array.ext'; simpa using h
theorem arr_two {α : Type} {a : Array α} {x y : α} (h : a.toList = [x, y]) : a = #[x, y] := by
  apply Array.ext'; simpa using h

include hC hs he in
theorem act_len {t : Nat} {y : Operand} {args : Array Operand} {at' : Array TypeId} (ho : o.op = .call { callee := .builtin .len, args := args, argTypes := at' }) (ha : args.toList = [y]) (ht : at'.toList = [t]) {n : AV} (h : lenA C t (nrm C t (e y)) = some n) : ActOk P x B o ρ (.val n) := by
  obtain ⟨m, rfl, h1⟩ := len_run hC (nrm_ok (C := C) (t := t) (he y)) h o.type
  refine .pure hs (u := .int .i64 m) ?_ rfl
  rw [arr_one ha, arr_one ht] at ho
  simp [execOp, ho, resolve, invoke, builtin, h1]

include hs he in
theorem act_min {y z : Operand} {args : Array Operand} {at' : Array TypeId} (ho : o.op = .call { callee := .builtin .min, args := args, argTypes := at' }) (ha : args.toList = [y, z]) {k : IntKind} {a b : Int} (h1 : e y = .int k a) (h2 : e z = .int k b) : ActOk P x B o ρ (.val (.int k (minI a b))) := by
  have hy := he y
  have hz := he z
  rw [h1] at hy; rw [h2] at hz
  have hy : ρ y = .int k a := hy
  have hz : ρ z = .int k b := hz
  refine .pure hs (u := .int k (minI a b)) ?_ rfl
  rw [arr_two ha] at ho
  simp [execOp, ho, resolve, invoke, builtin, hy, hz, Builtin.min_, Builtin.min2, minI]
include hs he in
theorem act_max {y z : Operand} {args : Array Operand} {at' : Array TypeId} (ho : o.op = .call { callee := .builtin .max, args := args, argTypes := at' }) (ha : args.toList = [y, z]) {k : IntKind} {a b : Int} (h1 : e y = .int k a) (h2 : e z = .int k b) : ActOk P x B o ρ (.val (.int k (maxI a b))) := by
  have hy := he y
  have hz := he z
  rw [h1] at hy; rw [h2] at hz
  have hy : ρ y = .int k a := hy
  have hz : ρ z = .int k b := hz
  refine .pure hs (u := .int k (maxI a b)) ?_ rfl
  rw [arr_two ha] at ho
  simp [execOp, ho, resolve, invoke, builtin, hy, hz, Builtin.max_, Builtin.max2, maxI]
end
end Go.Am
