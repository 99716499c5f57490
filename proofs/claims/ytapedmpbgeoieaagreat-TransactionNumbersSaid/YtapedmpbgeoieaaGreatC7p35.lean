/- Part 35 of the proof: N10 N11 N12 N13 N14 N15 N16 N17 N18. -/
import Derived.Test.YtapedmpbgeoieaaGreatC7p33
import Derived.Test.YtapedmpbgeoieaaGreatC7p34
set_option linter.unusedSimpArgs false
set_option linter.unusedVariables false
namespace Go.Am
open Go Go.Proofs
set_option linter.unusedVariables false

/-! ### Ascending lists -/
theorem asc_of_adj {α : Type} [Inhabited α] (r : α → α → Prop) (ht : ∀ a b c, r a b → r b c → r a c) (l : List α) (h : ∀ i, i + 1 < l.length → r (l.getD i default) (l.getD (i + 1) default)) : l.Pairwise r := by
  have key : ∀ d i, i + 1 + d < l.length → r (l.getD i default) (l.getD (i + 1 + d) default) := by
    intro d
    induction d with
    | zero => intro i hi; exact h i hi
    | succ d ih => intro i hi; exact ht _ _ _ (ih i (by omega)) (h (i + 1 + d) (by omega))
  rw [List.pairwise_iff_getElem]
  intro i j hi hj hij
  have := key (j - i - 1) i (by omega)
  rw [show i + 1 + (j - i - 1) = j by omega] at this
  simpa [List.getD, hi, hj] using this
theorem nodup_len {α : Type} [DecidableEq α] : ∀ (l m : List α), l.Nodup → (∀ x ∈ l, x ∈ m) → l.length ≤ m.length
  | [], m, _, _ => Nat.zero_le _
  | a :: l, m, hn, hs => by
    obtain ⟨h1, h2⟩ := List.nodup_cons.1 hn
    have ha : a ∈ m := hs a (List.mem_cons_self)
    have := nodup_len l (m.erase a) h2 fun x hx => (List.mem_erase_of_ne (fun e : x = a => h1 (by rw [← e]; exact hx))).2 (hs x (List.mem_cons_of_mem _ hx))
    rw [List.length_erase_of_mem ha] at this
    have : 0 < m.length := List.length_pos_of_mem ha
    simp only [List.length_cons]
    omega
theorem asc_nodup {α : Type} (key : α → Int) {l : List α} (h : l.Pairwise fun a b => key a < key b) : l.Nodup :=
  h.imp fun {a b} hab e => by subst e; omega
theorem asc_eq {α : Type} [DecidableEq α] (key : α → Int) : ∀ (l m : List α), (l.Pairwise fun a b => key a < key b) → (m.Pairwise fun a b => key a < key b) → l.length = m.length → (∀ x ∈ l, x ∈ m) → l = m
  | [], [], _, _, _, _ => rfl
  | [], b :: m, _, _, h, _ => by simp at h
  | a :: l, [], _, _, h, _ => by simp at h
  | a :: l, b :: m, hl, hm, hlen, hs => by
    obtain ⟨h1, h2⟩ := List.pairwise_cons.1 hl
    obtain ⟨h3, h4⟩ := List.pairwise_cons.1 hm
    have hab : a = b := by
      rcases List.mem_cons.1 (hs a List.mem_cons_self) with h | h
      · exact h
      · exfalso
        have hba := h3 a h
        have := nodup_len (a :: l) m (asc_nodup key hl) fun x hx => by
          rcases List.mem_cons.1 (hs x hx) with e | e
          · subst e
            rcases List.mem_cons.1 hx with e | e
            · subst e; omega
            · have := h1 _ e; omega
          · exact e
        simp only [List.length_cons] at this hlen
        omega
    subst hab
    rw [asc_eq key l m h2 h4 (by simpa using hlen) fun x hx => by
      rcases List.mem_cons.1 (hs x (List.mem_cons_of_mem _ hx)) with e | e
      · subst e; have := h1 _ hx; omega
      · exact e]
theorem findSome_none {l : List Nat} {f : Nat → Option Int} (hf : ∀ i, f i ≠ some 0) (h : (l.findSome? f).getD 0 = 0) : ∀ i ∈ l, f i = none := by
  cases hx : l.findSome? f with
  | none => exact fun i hi => List.findSome?_eq_none_iff.1 hx i hi
  | some r =>
    rw [hx] at h
    obtain ⟨i, _, hi⟩ := List.exists_of_findSome?_eq_some hx
    simp at h
    subst h
    exact absurd hi (hf i)
def spotIn (s : Spot) : Prop := 0 ≤ s.sslot ∧ s.sslot < 512 ∧ 0 ≤ s.soffset ∧ s.soffset < 16
theorem spotsErr_zero {l : List Spot} (h : spotsErr l = 0) : (∀ s ∈ l, spotIn s) ∧ l.Pairwise fun a b => a.sslot < b.sslot := by
  have hn := findSome_none (f := spotErr l) (fun i => by unfold spotErr; split <;> (try split) <;> simp) h
  constructor
  · intro s hs
    obtain ⟨i, hi, he⟩ := List.mem_iff_getElem.1 hs
    have := hn i (List.mem_range.2 hi)
    have hc : sat l i = s := by simp [sat, List.getD, hi, he]
    unfold spotErr at this
    rw [hc] at this
    split at this
    · cases this
    · rename_i hx; unfold spotIn; omega
  · apply asc_of_adj (fun a b : Spot => a.sslot < b.sslot) (fun a b c h1 h2 => by omega)
    intro i hi
    have := hn (i + 1) (List.mem_range.2 hi)
    unfold spotErr at this
    split at this
    · cases this
    · split at this
      · cases this
      · rename_i _ hx
        have e1 : sat l (i + 1) = l.getD (i + 1) default := rfl
        have e2 : sat l (i + 1 - 1) = l.getD i default := rfl
        rw [e1, e2] at hx
        omega
theorem msgErr_zero {m : Msg} (h : msgErr m = 0) : (1 ≤ m.kind ∧ m.kind ≤ 6) ∧ (0 ≤ m.num ∧ m.num ≤ 255 ∧ 0 ≤ m.code ∧ m.code ≤ 3 ∧ 0 ≤ m.cnt ∧ m.cnt ≤ 512) ∧ (m.sp.length ≤ 8 ∧ m.old.length ≤ 8) ∧ spotsErr m.sp = 0 ∧ spotsErr m.old = 0 ∧ followsN m = true := by
  unfold msgErr at h
  split at h
  · cases h
  · split at h
    · cases h
    · split at h
      · cases h
      · split at h
        · exact absurd h ‹_›
        · split at h
          · exact absurd h ‹_›
          · split at h
            · refine ⟨by omega, by omega, by omega, ?_, ?_, ‹_›⟩
              · exact Decidable.not_not.1 ‹¬ spotsErr m.sp ≠ 0›
              · exact Decidable.not_not.1 ‹¬ spotsErr m.old ≠ 0›
            · cases h
theorem among_all (l m : List Spot) : amongN l m = l.all fun s => decide (s ∈ m) := range_all l fun s => decide (s ∈ m)
theorem among_iff {l m : List Spot} : amongN l m = true ↔ ∀ s ∈ l, s ∈ m := by
  rw [among_all]; simp [List.all_eq_true]
/-! ### Copies -/
theorem il_le {α : Type} {l m : List α} {eb : Nat} (hl : l.length ≤ 200000) (hm : m.length ≤ 200000) (he : eb ≤ 48) : il l m eb = true := by
  apply il_ok
  exact Nat.le_trans (Nat.mul_le_mul (show l.length + m.length ≤ 400000 by omega) he) (by omega)
theorem V161_ok (l : List Spot) (h : l.length ≤ 200000) : V161 l = some l := by
  unfold V161; rw [decide_eq_true (by omega)]; rfl
theorem F161_ok (l : List Spot) (h : l.length ≤ 200000) : F161 l = l := getD_of (V161_ok l h)
theorem V125_ok (l : List Cell) (h : l.length ≤ 200000) : V125 l = some l := by
  unfold V125; rw [decide_eq_true (by omega)]; rfl
theorem F125_ok (l : List Cell) (h : l.length ≤ 200000) : F125 l = l := getD_of (V125_ok l h)
def acceptN (m : Msg) (c : Int) (sp old : List Spot) : Msg × Int :=
  if msgErr m ≠ 0 ∨ m.rep = true then (noMsg, 1) else if answersN m ⟨m.kind, true, m.num, 0, c, sp, old⟩ then (⟨m.kind, true, m.num, 0, c, sp, old⟩, 0) else (noMsg, 12)
theorem V107_eq (m : Msg) (c : Int) (sp old : List Spot) (h : okM m) (h1 : sp.length ≤ 100000) (h2 : old.length ≤ 100000) : V107 m c sp old = some (acceptN m c sp old) := by
  unfold V107
  rw [eS107]
  have hb : okM ⟨m.kind, true, m.num, 0, c, sp, old⟩ := ⟨h1, h2⟩
  simp only [tS107, Tr.val, V96_eq m h.1 h.2, F96_eq m h, eJ107_2, tJ107_2, eJ107_3, tJ107_3, V161_ok sp (by omega), V161_ok old (by omega), F161_ok sp (by omega), F161_ok old (by omega), V47_eq _ _ h hb, F47_eq _ _ h hb, Option.isSome_some, condT, Bool.cond_not, cond_dec, acceptN, noMsg]
  by_cases k1 : msgErr m = 0 <;> cases k2 : m.rep <;> cases answersN m ⟨m.kind, true, m.num, 0, c, sp, old⟩ <;> simp [k1]
theorem F107_eq (m : Msg) (c : Int) (sp old : List Spot) (h : okM m) (h1 : sp.length ≤ 100000) (h2 : old.length ≤ 100000) : F107 m c sp old = acceptN m c sp old := getD_of (V107_eq m c sp old h h1 h2)
theorem V100_eq (a b : Msg) (h : okM a) : V100 a b = some (decide (a = b)) := by
  unfold V100
  rw [eS100]
  simp only [tS100, Tr.val, V147_eq _ _ h.1, V147_eq _ _ h.2, F147_eq _ _ h.1, F147_eq _ _ h.2, Option.isSome_some, condT]
  obtain ⟨a1, a2, a3, a4, a5, a6, a7⟩ := a
  obtain ⟨b1, b2, b3, b4, b5, b6, b7⟩ := b
  simp only [Msg.mk.injEq]
  by_cases k1 : a1 = b1 <;> by_cases k3 : a3 = b3 <;> by_cases k4 : a4 = b4 <;> by_cases k5 : a5 = b5 <;> by_cases k6 : a6 = b6 <;> by_cases k7 : a7 = b7 <;> cases a2 <;> cases b2 <;> simp [k1, k3, k4, k5, k6, k7]
theorem F100_eq (a b : Msg) (h : okM a) : F100 a b = decide (a = b) := getD_of (V100_eq a b h)
theorem V99_eq (e : End) (h : okE e) : V99 e = some e := by
  unfold V99
  rw [eS99]
  obtain ⟨h1, h2, h3, h4⟩ := h
  simp only [tS99, Tr.val, eJ99_3, tJ99_3, eJ99_3_99_1, tJ99_3_99_1, eJ99_3_99_2, tJ99_3_99_2, eJ99_3_99_3, tJ99_3_99_3, V125_ok e.cl (by omega), F125_ok e.cl (by omega), V161_ok e.ask.sp (by have := h2.1; omega), F161_ok e.ask.sp (by have := h2.1; omega), V161_ok e.ask.old (by have := h2.2; omega), F161_ok e.ask.old (by have := h2.2; omega),
    V161_ok e.lst.sp (by have := h3.1; omega), F161_ok e.lst.sp (by have := h3.1; omega), V161_ok e.lst.old (by have := h3.2; omega), F161_ok e.lst.old (by have := h3.2; omega), V161_ok e.rp.sp (by have := h4.1; omega), F161_ok e.rp.sp (by have := h4.1; omega), V161_ok e.rp.old (by have := h4.2; omega), F161_ok e.rp.old (by have := h4.2; omega), Option.isSome_some, condT]
theorem F99_eq (e : End) (h : okE e) : F99 e = e := getD_of (V99_eq e h)
def knownN (e : End) (m r : Msg) : End × Msg × Int := ({ e with kn := true, lst := m, rp := r }, r, 0)
theorem V117_eq (l m : List Cell) (hl : l.length ≤ 100000) : V117 l m = some (decide (l = m)) := by
  unfold V117
  rw [eS117]
  simp only [tS117, Tr.val]
  by_cases hlm : l.length = m.length
  case neg =>
    have : ¬ l = m := fun e => hlm (by rw [e])
    have h2 : ¬ (l.length : Int) = m.length := by omega
    simp [this, h2]
  have h2 : (l.length : Int) = m.length := by omega
  simp only [h2, decide_true, Bool.not_true, condF]
  have step : ∀ i, i < l.length → lv cd117 C117 (J117_4 l m (i : Nat)) = bif decide (l.getD i default = m.getD i default) then lv cd117 C117 (J117_4 l m ((i + 1 : Nat) : Int)) else some false := by
    intro i hi
    have h1 : (i : Int) < (l.length : Int) := by omega
    have h2 := ib_nat hi
    have h2' := ib_nat (l := m) (i := i) (by omega)
    have h3 := inR_ok (n := (i : Int) + 1) (by omega) (by omega)
    have h4 : nth .cell l i = l.getD i default := nth_getD (st := .cell) l i
    have h4' : nth .cell m i = m.getD i default := nth_getD (st := .cell) m i
    rw [eJ117_4, show ((i + 1 : Nat) : Int) = (i : Int) + 1 by omega]
    simp only [tJ117_4, Tr.val, h1, h2, h2', h3, h4, h4', decide_true, condT]
    generalize l.getD i default = x
    generalize m.getD i default = y
    obtain ⟨x1, x2, x3, x4, x5, x6⟩ := x
    obtain ⟨y1, y2, y3, y4, y5, y6⟩ := y
    by_cases k1 : x1 = y1 <;> by_cases k2 : x2 = y2 <;> by_cases k3 : x3 = y3 <;> cases x4 <;> cases y4 <;> by_cases k5 : x5 = y5 <;> by_cases k6 : x6 = y6 <;> simp [k1, k2, k3, k5, k6]
  have h := all_loop (J := fun i => lv cd117 C117 (J117_4 l m (i : Nat))) step l.length 0 (by omega)
  have h : lv cd117 C117 (J117_4 l m 0) = _ := h
  have hend : lv cd117 C117 (J117_4 l m (l.length : Nat)) = some true := by
    rw [eJ117_4]
    simp [tJ117_4, Tr.val]
  rw [h, hend, ← List.range_eq_range', eq_of_at hlm]
  by_cases h : l = m <;> simp [h]
theorem F117_eq (l m : List Cell) (hl : l.length ≤ 100000) : F117 l m = decide (l = m) := getD_of (V117_eq l m hl)
theorem V30_eq (a b : End) (h : okE a) : V30 a b = some (decide (a = b)) := by
  unfold V30
  rw [eS30]
  obtain ⟨h1, h2, h3, h4⟩ := h
  simp only [tS30, Tr.val, V117_eq _ _ h1, F117_eq _ _ h1, V31_eq _ _ h2.1 h2.2, F31_eq _ _ h2, V31_eq _ _ h3.1 h3.2, F31_eq _ _ h3, V31_eq _ _ h4.1 h4.2, F31_eq _ _ h4, Option.isSome_some, condT, cond_dec]
  by_cases hab : a = b
  · subst hab; simp
  · rw [decide_eq_false hab]
    obtain ⟨a1, a2, a3, a4, a5, a6, a7, a8, a9, a10⟩ := a
    obtain ⟨b1, b2, b3, b4, b5, b6, b7, b8, b9, b10⟩ := b
    simp only [End.mk.injEq] at hab
    simp only
    by_cases k1 : a1 = b1
    case neg => simp [k1]
    by_cases k2 : a2 = b2
    case neg => simp [k1, k2]
    by_cases k3 : a3 = b3
    case neg => simp [k1, k2, k3]
    by_cases k4 : a4 = b4
    case neg => simp [k1, k2, k3, k4]
    by_cases k5 : a5 = b5
    case neg =>
      have k5' : (a5 == b5) = false := by cases a5 <;> cases b5 <;> simp_all
      simp [k1, k2, k3, k4, k5']
    by_cases k6 : a6 = b6
    case neg => simp [k1, k2, k3, k4, k5, k6]
    by_cases k7 : a7 = b7
    case neg => simp [k1, k2, k3, k4, k5, k6, k7]
    by_cases k8 : a8 = b8
    case neg =>
      have k8' : (a8 == b8) = false := by cases a8 <;> cases b8 <;> simp_all
      simp [k1, k2, k3, k4, k5, k6, k7, k8']
    by_cases k9 : a9 = b9
    case neg => simp [k1, k2, k3, k4, k5, k6, k7, k8, k9]
    by_cases k10 : a10 = b10
    case neg => simp [k1, k2, k3, k4, k5, k6, k7, k8, k9, k10]
    exact absurd ⟨k1, k2, k3, k4, k5, k6, k7, k8, k9, k10⟩ hab
theorem F30_eq (a b : End) (h : okE a) : F30 a b = decide (a = b) := getD_of (V30_eq a b h)
/-! ### Few -/
def fewM (m : Msg) : Bool := decide (m.sp.length ≤ 12 ∧ m.old.length ≤ 12)
def fewE (e : End) : Bool := decide (e.cl.length ≤ 40) && (fewM e.ask && (fewM e.lst && fewM e.rp))
def fewT (t : Tab) : Bool := (decide (t.cl.length ≤ 40) || decide (512 < t.cl.length ∧ t.cl.length ≤ 516)) && (decide (t.len ≤ 64) || decide (512 < t.len))
theorem V27_eq (m : Msg) : V27 m = some (fewM m) := by
  unfold V27
  rw [eS27]
  simp only [tS27, Tr.val, cond_dec, fewM]
  split
  · congr 1; rw [Bool.eq_iff_iff]; simp; omega
  · congr 1; rw [Bool.eq_iff_iff]; simp; omega
theorem F27_eq (m : Msg) : F27 m = fewM m := getD_of (V27_eq m)
theorem V25_eq (e : End) : V25 e = some (fewE e) := by
  unfold V25
  rw [eS25]
  simp only [tS25, Tr.val, V27_eq, F27_eq, Option.isSome_some, condT, cond_dec, fewE]
  by_cases h : e.cl.length ≤ 40
  · rw [if_pos (by omega), decide_eq_true h]
    cases fewM e.ask <;> cases fewM e.lst <;> simp
  · rw [if_neg (by omega), decide_eq_false h]; rfl
theorem F25_eq (e : End) : F25 e = fewE e := getD_of (V25_eq e)
theorem V95_eq (n : Int) : V95 n = some (decide (n ≤ 40) || decide (512 < n ∧ n ≤ 516)) := by
  unfold V95
  rw [eS95]
  simp only [tS95, Tr.val, cond_dec]
  by_cases h1 : n ≤ 40 <;> by_cases h2 : 512 < n <;> simp [h1, h2]
theorem V26_eq (t : Tab) : V26 t = some (fewT t) := by
  unfold V26
  rw [eS26]
  have h0 : F95 (t.cl.length : Int) = (decide (t.cl.length ≤ 40) || decide (512 < t.cl.length ∧ t.cl.length ≤ 516)) := by
    rw [F95, V95_eq]
    show (_ || _) = _
    rw [Bool.eq_iff_iff]; simp; omega
  simp only [tS26, Tr.val, V95_eq, h0, Option.isSome_some, condT, cond_dec, fewT]
  cases (decide (t.cl.length ≤ 40) || decide (512 < t.cl.length ∧ t.cl.length ≤ 516))
  · simp
  · by_cases h1 : t.len ≤ 64 <;> simp [h1]
theorem F26_eq (t : Tab) : F26 t = fewT t := getD_of (V26_eq t)
theorem fewM_ok {m : Msg} (h : fewM m = true) : okM m := by
  simp [fewM] at h
  exact ⟨by omega, by omega⟩
theorem fewE_ok {e : End} (h : fewE e = true) : okE e := by
  simp [fewE] at h
  exact ⟨by omega, fewM_ok h.2.1, fewM_ok h.2.2.1, fewM_ok h.2.2.2⟩
theorem fewT_ok {t : Tab} (h : fewT t = true) : t.cl.length ≤ 516 := by
  simp [fewT] at h
  omega

end Go.Am

namespace Go.Am
open Go Go.Proofs
set_option linter.unusedVariables false

def slotIn (cl : List Cell) (s : Int) : Bool := cl.any fun c => decide (c.slot = s)
theorem V184_eq (t : Tab) (s : Int) (hl : t.cl.length ≤ 100000) : V184 t s = some (slotIn t.cl s) := by
  unfold V184
  rw [eS184]
  simp only [tS184, Tr.val]
  have step : ∀ i, i < t.cl.length → lv cd184 C184 (J184_2_198_0 t.cl (t.cl.length : Int) (i : Nat) t.cl false t.cl t s false t.cl t s) = bif decide ((t.cl.getD i default).slot = s) then some true else lv cd184 C184 (J184_2_198_0 t.cl (t.cl.length : Int) ((i + 1 : Nat) : Int) t.cl false t.cl t s false t.cl t s) := by
    intro i hi
    have h1 : (i : Int) < (t.cl.length : Int) := by omega
    have h2 := ib_nat hi
    have h3 := inR_ok (n := (i : Int) + 1) (by omega) (by omega)
    have h4 : nth .cell t.cl i = t.cl.getD i default := nth_getD (st := .cell) t.cl i
    have h5 : (0 : Int) ≤ i := by omega
    rw [eJ184_2_198_0, show ((i + 1 : Nat) : Int) = (i : Int) + 1 by omega]
    simp only [tJ184_2_198_0, Tr.val, h1, h2, h3, h4, h5, decide_true, condT]
  have h := any_list0 (J := fun i => lv cd184 C184 (J184_2_198_0 t.cl (t.cl.length : Int) (i : Nat) t.cl false t.cl t s false t.cl t s)) (l := t.cl) (p := fun c => decide (c.slot = s)) step
  have h : lv cd184 C184 (J184_2_198_0 t.cl (t.cl.length : Int) 0 t.cl false t.cl t s false t.cl t s) = _ := h
  have hend : lv cd184 C184 (J184_2_198_0 t.cl (t.cl.length : Int) (t.cl.length : Nat) t.cl false t.cl t s false t.cl t s) = some false := by
    rw [eJ184_2_198_0]
    simp [tJ184_2_198_0, Tr.val]
  rw [h, hend, slotIn]
  cases t.cl.any _ <;> rfl
theorem F184_eq (t : Tab) (s : Int) (hl : t.cl.length ≤ 100000) : F184 t s = slotIn t.cl s := getD_of (V184_eq t s hl)
def maskOk (f : List Int) (len : Int) : Bool := decide ((f.length : Int) = len) && f.all fun x => decide (0 ≤ x ∧ x < 65536)
theorem V237_eq (x : Int) : V237 x = some (!decide (0 ≤ x ∧ x < 65536)) := by
  unfold V237
  rw [eS237]
  simp only [tS237, Tr.val, cond_dec]
  by_cases h1 : x < 0 <;> by_cases h2 : 65536 ≤ x <;> simp [h1, h2] <;> omega
theorem F237_eq (x : Int) : F237 x = !decide (0 ≤ x ∧ x < 65536) := getD_of (V237_eq x)
theorem V183_eq (f : List Int) (n : Int) (hl : f.length ≤ 100000) : V183 f n = some (maskOk f n) := by
  unfold V183
  rw [eS183]
  simp only [tS183, Tr.val, cond_dec, maskOk]
  by_cases hn : (f.length : Int) = n
  case neg => rw [if_neg hn, decide_eq_false hn]; rfl
  rw [if_pos hn, decide_eq_true hn]
  generalize hb : (true : Bool) = tt
  have step : ∀ i, i < f.length → lv cd183 C183 (J183_2_260_0 f (f.length : Int) (i : Nat) f false f f n false f (f.length : Int) n tt tt f) = bif decide (0 ≤ f.getD i default ∧ f.getD i default < 65536) then lv cd183 C183 (J183_2_260_0 f (f.length : Int) ((i + 1 : Nat) : Int) f false f f n false f (f.length : Int) n tt tt f) else some false := by
    intro i hi
    have h1 : (i : Int) < (f.length : Int) := by omega
    have h2 := ib_nat hi
    have h3 := inR_ok (n := (i : Int) + 1) (by omega) (by omega)
    have h4 : nth .int f i = f.getD i default := nth_getD (st := .int) f i
    have h5 : (0 : Int) ≤ i := by omega
    rw [eJ183_2_260_0, show ((i + 1 : Nat) : Int) = (i : Int) + 1 by omega]
    simp only [tJ183_2_260_0, Tr.val, h1, h2, h3, h4, h5, V237_eq, F237_eq, ← hb, Option.isSome_some, decide_true, condT, Bool.cond_not, Bool.not_true]
  have h := all_list0 (J := fun i => lv cd183 C183 (J183_2_260_0 f (f.length : Int) (i : Nat) f false f f n false f (f.length : Int) n tt tt f)) (l := f) (p := fun x => decide (0 ≤ x ∧ x < 65536)) step
  have h : lv cd183 C183 (J183_2_260_0 f (f.length : Int) 0 f false f f n false f (f.length : Int) n tt tt f) = _ := h
  have hend : lv cd183 C183 (J183_2_260_0 f (f.length : Int) (f.length : Nat) f false f f n false f (f.length : Int) n tt tt f) = some true := by
    rw [eJ183_2_260_0]
    simp [tJ183_2_260_0, Tr.val, ← hb]
  rw [h, hend]
  rw [← hb, Bool.true_and]
  cases f.all _ <;> rfl
theorem F183_eq (f : List Int) (n : Int) (hl : f.length ≤ 100000) : F183 f n = maskOk f n := getD_of (V183_eq f n hl)
/-! ### Bits -/
theorem wrap64 {n : Int} (h0 : 0 ≤ n) (h1 : n < 9223372036854775808) : IntKind.wrap .i64 n = n := by
  have e : n % 18446744073709551616 = n := by omega
  have e2 : ¬ 9223372036854775808 ≤ n := by omega
  simp [IntKind.wrap, IntKind.signed, IntKind.bits, e, e2]
def bitN (x k : Int) : Bool := decide (x.toNat / 2 ^ k.toNat % 2 = 1)
theorem and_shr (x k : Int) (h0 : 0 ≤ x) (h1 : x < 65536) (hk : 0 ≤ k) (hk' : k < 16) : decide (andI .i64 (shrI .i64 x k) 1 = 1) = bitN x k := by
  obtain ⟨x, rfl⟩ := Int.eq_ofNat_of_zero_le h0
  obtain ⟨k, rfl⟩ := Int.eq_ofNat_of_zero_le hk
  have e1 : shrI .i64 (x : Int) (k : Int) = ((x / 2 ^ k : Nat) : Int) := by
    have hmin : min ((k : Int).toNat) IntKind.i64.bits = k := by rw [Int.toNat_natCast]; exact Nat.min_eq_left (by show k ≤ 64; omega)
    have hp : (2 : Int) ^ k = ((2 ^ k : Nat) : Int) := by simp
    unfold shrI
    rw [hmin, hp, Int.fdiv_eq_ediv_of_nonneg _ (Int.natCast_nonneg _)]
    exact (Int.natCast_ediv x (2 ^ k)).symm
  have hle : x / 2 ^ k ≤ x := Nat.div_le_self _ _
  rw [e1]
  unfold bitN
  rw [Int.toNat_natCast, Int.toNat_natCast]
  generalize x / 2 ^ k = y at *
  have e2 : andI .i64 (y : Int) 1 = ((y % 2 : Nat) : Int) := by
    unfold andI
    have : (BitVec.ofInt IntKind.i64.bits (y : Int) &&& BitVec.ofInt IntKind.i64.bits 1).toNat = y % 2 := by
      rw [BitVec.toNat_and, BitVec.ofInt_natCast, BitVec.toNat_ofNat]
      have : (BitVec.ofInt IntKind.i64.bits 1).toNat = 1 := rfl
      rw [this, Nat.and_one_is_mod]
      show y % 2 ^ 64 % 2 = y % 2
      omega
    rw [this]
    have h2 : y % 2 < 2 := Nat.mod_lt _ (by omega)
    exact wrap64 (by omega) (by omega)
  rw [e2]
  by_cases h : y % 2 = 1
  · simp [h]
  · have : y % 2 = 0 := by omega
    simp [this]
/-! ### Does a place fit? -/
def fitsN (t : Tab) (f : List Int) (s : Spot) : Bool :=
  if tabErr t ≠ 0 ∨ maskOk f t.len = false ∨ s.sslot < 0 ∨ t.len ≤ s.sslot ∨ s.soffset < 0 ∨ 16 ≤ s.soffset then false else bitN (f.getD s.sslot.toNat default) s.soffset && !slotIn t.cl s.sslot
theorem mask_at {f : List Int} {n : Int} (h : maskOk f n = true) {i : Int} (h0 : 0 ≤ i) (h1 : i < n) : ib i f = true ∧ nth .int f i = f.getD i.toNat default ∧ 0 ≤ f.getD i.toNat default ∧ f.getD i.toNat default < 65536 := by
  unfold maskOk at h
  simp only [Bool.and_eq_true, decide_eq_true_eq, List.all_eq_true] at h
  obtain ⟨h2, h3⟩ := h
  have hi : i.toNat < f.length := by omega
  have := h3 _ (getD_mem hi)
  exact ⟨by simp [ib]; omega, rfl, this.1, this.2⟩
theorem V101_eq (t : Tab) (f : List Int) (s : Spot) (ht : t.cl.length ≤ 100000) (hf : f.length ≤ 100000) : V101 t f s = some (fitsN t f s) := by
  unfold V101
  rw [eS101]
  have e2 : lv cd101 C101 J101_2 = some false := by rw [eJ101_2]; rfl
  simp only [tS101, Tr.val, e2, V48_eq t ht, F48_eq t ht, V183_eq f _ hf, F183_eq f _ hf, Option.isSome_some, condT, Bool.cond_not, cond_dec, fitsN]
  by_cases h1 : tabErr t = 0
  case neg => simp [h1]
  cases h2 : maskOk f t.len
  case false => simp [h1]
  by_cases h3 : s.sslot < 0
  case pos => simp [h1, h3]
  by_cases h4 : t.len ≤ s.sslot
  case pos => simp [h1, h3, h4]
  by_cases h5 : s.soffset < 0
  case pos => simp [h1, h3, h4, h5]
  by_cases h6 : 16 ≤ s.soffset
  case pos => simp [h1, h3, h4, h5, h6]
  rw [eJ101_3]
  obtain ⟨m1, m2, m3, m4⟩ := mask_at h2 (i := s.sslot) (by omega) (by omega)
  have h7 : (0 : Int) ≤ s.soffset := by omega
  simp only [tJ101_3, Tr.val, m1, m2, h7, and_shr _ _ m3 m4 h7 (by omega), V184_eq t _ ht, F184_eq t _ ht, Option.isSome_some, decide_true, condT]
  cases bitN (f.getD s.sslot.toNat default) s.soffset <;> simp [h1, h3, h4, h5, h6]
theorem F101_eq (t : Tab) (f : List Int) (s : Spot) (ht : t.cl.length ≤ 100000) (hf : f.length ≤ 100000) : F101 t f s = fitsN t f s := getD_of (V101_eq t f s ht hf)
end Go.Am

namespace Go.Am
open Go Go.Proofs
set_option linter.unusedVariables false

/-! ### Cells struck out in place -/
theorem compact {R : Type} {J : List Cell → Nat → Nat → List Cell → Option R} {orig : List Cell} {p : Cell → Bool} {K : List Cell → Option R}
    (h : ∀ x w i y, x.length = orig.length → w ≤ i → i < orig.length → J x w i y = if p (x.getD i default) then J (x.set w (x.getD i default)) (w + 1) (i + 1) (x.set w (x.getD i default)) else J x w (i + 1) y)
    (hend : ∀ x w y, x.length = orig.length → w ≤ orig.length → J x w orig.length y = K (x.take w)) :
    ∀ k x w i y, i + k = orig.length → x.length = orig.length → w ≤ i → x.drop i = orig.drop i → J x w i y = K (x.take w ++ (orig.drop i).filter p)
  | 0, x, w, i, y, hi, hx, hw, hd => by
    simp at hi
    subst hi
    rw [hend x w y hx hw, List.drop_length]
    simp
  | k + 1, x, w, i, y, hi, hx, hw, hd => by
    have hil : i < orig.length := by omega
    have hxl : i < x.length := by omega
    have hc : x.getD i default = orig.getD i default ∧ x.drop (i + 1) = orig.drop (i + 1) := by
      rw [getD_drop hxl, getD_drop hil] at hd
      exact ⟨(List.cons.inj hd).1, (List.cons.inj hd).2⟩
    rw [h x w i y hx hw hil, getD_drop hil, List.filter_cons, hc.1]
    by_cases hp : p (orig.getD i default) = true
    · rw [if_pos hp, if_pos hp]
      rw [compact h hend k _ (w + 1) (i + 1) _ (by omega) (by simpa using hx) (by omega) (by rw [List.drop_set_of_lt (by omega)]; exact hc.2)]
      congr 1
      rw [List.take_add_one, List.take_set_of_le (by omega)]
      simp [List.getElem?_set, show w < x.length by omega]
    · rw [if_neg hp, if_neg hp]
      exact compact h hend k x w (i + 1) y (by omega) hx (by omega) hc.2
theorem take_rep {l : List Cell} {w : Nat} (n : Nat) (c : Cell) (h : w ≤ l.length) : (l.take w ++ List.replicate n c).take w = l.take w := by
  rw [List.take_append_of_le_length (by simp; omega), List.take_take, Nat.min_self]
theorem ic_nat {α : Type} {l : List α} {i : Nat} (h : i ≤ l.length) : ic (i : Int) l = true := by simp [ic]; omega

def agreed (pr : Int) (c : Cell) : Bool := decide (c.kind = 2) && decide (c.peer = pr)
def betweenN (t : Tab) (pr : Int) : List Cell := if tabErr t = 0 then t.cl.filter (agreed pr) else []
theorem L124_5 (cl : List Cell) (hl : cl.length ≤ 100000) (x3 : Tab) (x4 : Int) (x5 : Tab) (x6 : Int) (x7 : Bool) (x8 : List Cell) (x10 : Tab) (pr : Int) (x : List Cell) (w i : Nat) (y : List Cell) (hx : x.length = cl.length) (hw : w ≤ i) (hi : i ≤ cl.length) (hd : x.drop i = cl.drop i) :
    lv cd124 C124 (J124_5_193_0 x (w : Int) (i : Int) x3 x4 x5 x6 x7 x8 y x10 pr) = some (x.take w ++ (cl.drop i).filter (agreed pr)) := by
  refine compact (J := fun x w i y => lv cd124 C124 (J124_5_193_0 x ((w : Nat) : Int) ((i : Nat) : Int) x3 x4 x5 x6 x7 x8 y x10 pr)) (orig := cl) (p := agreed pr) (K := some) (fun x w i y hx hw hi => ?_) (fun x w y hx hw => ?_) (cl.length - i) x w i y (by omega) hx hw hd
  · have h1 : (i : Int) < (x.length : Int) := by omega
    have h2 : ib (i : Int) x = true := ib_nat (by omega)
    have h2' : ib (w : Int) x = true := ib_nat (by omega)
    have h3 := inR_ok (n := (i : Int) + 1) (by omega) (by omega)
    have h3' := inR_ok (n := (w : Int) + 1) (by omega) (by omega)
    have h4 : x.getD (i : Int).toNat (ST.dflt .cell) = x.getD i default := rfl
    have h5 : (w : Int).toNat = w := rfl
    try simp only
    rw [eJ124_5_193_0]
    simp only [tJ124_5_193_0, Tr.val, h1, h2, h2', h3, h3', h4, h5, eJ124_6_193_0, tJ124_6_193_0, decide_true, condT, Bool.cond_not, Bool.not_not, cond_dec, agreed]
    generalize x.getD i default = cc
    by_cases k1 : cc.kind = 2 <;> by_cases k2 : cc.peer = pr <;> simp [k1, k2]
  · try simp only
    rw [eJ124_5_193_0]
    have h1 : ¬ (cl.length : Int) < (x.length : Int) := by omega
    have h2 : ic (w : Int) x = true := ic_nat (by omega)
    have h5 : (w : Int).toNat = w := rfl
    have h3 : ic (w : Int) (x.take w ++ List.replicate (x.length - w) (ST.dflt .cell)) = true := ic_nat (by simp; omega)
    simp only [tJ124_5_193_0, Tr.val, h1, h2, h5, h3, decide_false, condT, condF]
    rw [take_rep _ _ (by omega)]
theorem filter_all {α : Type} {p : α → Bool} {l : List α} (h : ∀ x ∈ l, p x = true) : l.filter p = l := List.filter_eq_self.2 h
theorem V124_eq (t : Tab) (pr : Int) (hl : t.cl.length ≤ 100000) : V124 t pr = some (betweenN t pr) := by
  unfold V124
  rw [eS124]
  have h48 : decide (t.cl.length * 48 ≤ 70368744177664) = true := decide_eq_true (by omega)
  simp only [tS124, Tr.val, V48_eq t hl, F48_eq t hl, Option.isSome_some, condT, Bool.cond_not, cond_dec, betweenN, h48]
  by_cases h1 : tabErr t = 0
  case neg => rw [if_neg h1, if_neg h1]
  rw [if_pos h1, if_pos h1]
  generalize tabErr t = z
  have hd : ∀ i, i ≤ t.cl.length → (∀ x ∈ t.cl.take i, agreed pr x = true) → lv cd124 C124 (J124_2_198_0 t.cl (t.cl.length : Int) (i : Nat) t.cl t.cl t pr t z false t.cl t.cl t pr) = some (t.cl.take i ++ (t.cl.drop i).filter (agreed pr)) := by
    have aux : ∀ k i, i + k = t.cl.length → (∀ x ∈ t.cl.take i, agreed pr x = true) → lv cd124 C124 (J124_2_198_0 t.cl (t.cl.length : Int) (i : Nat) t.cl t.cl t pr t z false t.cl t.cl t pr) = some (t.cl.take i ++ (t.cl.drop i).filter (agreed pr)) := by
      intro k
      induction k with
      | zero =>
        intro i hi _
        simp at hi
        subst hi
        rw [eJ124_2_198_0]
        simp only [tJ124_2_198_0, Tr.val, Int.lt_irrefl, decide_false, condF, List.take_length, List.drop_length, List.filter_nil, List.append_nil]
      | succ k ih =>
        intro i hi hp
        have hil : i < t.cl.length := by omega
        have h1 : (i : Int) < (t.cl.length : Int) := by omega
        have h2 : ib (i : Int) t.cl = true := ib_nat hil
        have h3 := inR_ok (n := (i : Int) + 1) (by omega) (by omega)
        have h4 : t.cl.getD (i : Int).toNat (ST.dflt .cell) = t.cl.getD i default := rfl
        have h5 : ¬ (i : Int) = -1 := by omega
        have e1 : lv cd124 C124 (J124_5_193_0 t.cl (i : Int) ((i : Int) + 1) t pr t z false t.cl t.cl t pr) = some (t.cl.take i ++ (t.cl.drop (i + 1)).filter (agreed pr)) :=
          L124_5 t.cl hl t pr t z false t.cl t pr t.cl i (i + 1) t.cl rfl (by omega) (by omega) rfl
        rw [eJ124_2_198_0]
        simp only [tJ124_2_198_0, Tr.val, h1, h2, h3, h4, h5, e1, decide_true, decide_false, condT, condF, Bool.cond_not, cond_dec]
        rw [getD_drop hil, List.filter_cons]
        have hcase : agreed pr (t.cl.getD i default) = true → lv cd124 C124 (J124_2_198_0 t.cl (t.cl.length : Int) ((i : Int) + 1) t.cl t.cl t pr t z false t.cl t.cl t pr) = some (t.cl.take i ++ t.cl.getD i default :: (t.cl.drop (i + 1)).filter (agreed pr)) := by
          intro ha
          have := ih (i + 1) (by omega) (by
            intro x hx
            rw [take_snoc hil] at hx
            rcases List.mem_append.1 hx with hx | hx
            · exact hp x hx
            · rw [List.mem_singleton.1 hx]; exact ha)
          rw [show (i : Int) + 1 = ((i + 1 : Nat) : Int) by omega, this, take_snoc hil, List.append_assoc]
          rfl
        generalize t.cl.getD i default = c at hcase ⊢
        by_cases k1 : c.kind = 2 <;> by_cases k2 : c.peer = pr
        · have ha : agreed pr c = true := by simp [agreed, k1, k2]
          rw [if_pos k1, if_pos k2, if_pos ha]; exact hcase ha
        · rw [if_pos k1, if_neg k2, if_neg (by simp [agreed, k1, k2])]
        · rw [if_neg k1, if_neg (by simp [agreed, k1, k2])]
        · rw [if_neg k1, if_neg (by simp [agreed, k1, k2])]
    exact fun i hi hp => aux (t.cl.length - i) i (by omega) hp
  have := hd 0 (by omega) (by simp)
  simpa using this
theorem F124_eq (t : Tab) (pr : Int) (hl : t.cl.length ≤ 100000) : F124 t pr = betweenN t pr := getD_of (V124_eq t pr hl)
/-! ### A cell put in order -/
def putIdx (l : List Cell) (c : Cell) : Nat := (l.takeWhile fun x => lessC x c).length
def insC (l : List Cell) (c : Cell) : List Cell := l.take (putIdx l c) ++ c :: l.drop (putIdx l c)
theorem tw_le {α : Type} {p : α → Bool} : ∀ l : List α, (l.takeWhile p).length ≤ l.length
  | [] => Nat.le_refl _
  | a :: l => by
    rw [List.takeWhile_cons]
    split
    · simpa using tw_le l
    · simp
theorem tw_lt {α : Type} [Inhabited α] {p : α → Bool} : ∀ (l : List α) j, j < (l.takeWhile p).length → p (l.getD j default) = true
  | [], j, h => by simp at h
  | a :: l, j, h => by
    rw [List.takeWhile_cons] at h
    split at h
    · rename_i hp
      cases j with
      | zero => exact hp
      | succ j => exact tw_lt l j (by simpa using h)
    · simp at h
theorem tw_at {α : Type} [Inhabited α] {p : α → Bool} : ∀ (l : List α), (l.takeWhile p).length < l.length → p (l.getD (l.takeWhile p).length default) = false
  | [], h => by simp at h
  | a :: l, h => by
    rw [List.takeWhile_cons] at h ⊢
    split
    · rename_i hp
      rw [if_pos hp] at h
      exact tw_at l (by simpa using h)
    · rename_i hp
      simpa using hp
theorem putIdx_le (l : List Cell) (c : Cell) : putIdx l c ≤ l.length := tw_le l
theorem insC_len (l : List Cell) (c : Cell) : (insC l c).length = l.length + 1 := by
  have := putIdx_le l c
  simp [insC]; omega
def takenN (l : List Cell) (s k : Int) : Bool := l.any fun c => decide (c.slot = s) && decide (c.kind = k)
end Go.Am

namespace Go.Am
open Go Go.Proofs
set_option linter.unusedVariables false

theorem less_trans {a b c : Cell} (h1 : lessC a b = true) (h2 : lessC b c = true) : lessC a c = true := by
  simp only [lessC, decide_eq_true_eq] at *; omega
theorem tabErr_zero {t : Tab} (h : tabErr t = 0) : (0 ≤ t.nd ∧ t.nd < 32 ∧ 1 ≤ t.len ∧ t.len ≤ 512) ∧ t.cl.length ≤ 512 ∧ (∀ c ∈ t.cl, cellErr t.nd t.len c = 0) ∧ t.cl.Pairwise fun a b => lessC a b = true := by
  unfold tabErr at h
  split at h
  · cases h
  · split at h
    · cases h
    · have hn := findSome_none (f := cellErrAt t.nd t.len t.cl) (fun i => by
        unfold cellErrAt
        split
        · rename_i hx; intro hy; exact hx (by simpa using hy)
        · split <;> simp) h
      refine ⟨by omega, by omega, fun c hc => ?_, ?_⟩
      · obtain ⟨i, hi, he⟩ := List.mem_iff_getElem.1 hc
        have := hn i (List.mem_range.2 hi)
        have hx : cat t.cl i = c := by simp [cat, List.getD, hi, he]
        unfold cellErrAt at this
        rw [hx] at this
        split at this
        · cases this
        · rename_i hy; exact Decidable.not_not.1 hy
      · apply asc_of_adj (fun a b : Cell => lessC a b = true) (fun a b c => less_trans)
        intro i hi
        have := hn (i + 1) (List.mem_range.2 hi)
        unfold cellErrAt at this
        split at this
        · cases this
        · split at this
          · cases this
          · rename_i _ hx
            have e1 : cat t.cl (i + 1) = t.cl.getD (i + 1) default := rfl
            have e2 : cat t.cl (i + 1 - 1) = t.cl.getD i default := rfl
            rw [e1, e2] at hx
            cases hb : lessC (t.cl.getD i default) (t.cl.getD (i + 1) default)
            · exact absurd ⟨by omega, hb⟩ hx
            · rfl
theorem cmpC_lt (a b : Cell) : (cmpC a b < 0) = (lessC a b = true) := by
  apply propext
  have := cmpC_neg a b
  cases h : lessC a b
  · rw [h] at this; simp at this; simp; omega
  · rw [h] at this; simp at this; simp; omega
theorem cmpC_zero (a b : Cell) : (cmpC a b = 0) = (a.slot = b.slot ∧ a.kind = b.kind) := by
  apply propext
  unfold cmpC orI cmpI
  by_cases h1 : a.slot < b.slot <;> by_cases h2 : b.slot < a.slot <;> by_cases h3 : a.kind < b.kind <;> by_cases h4 : b.kind < a.kind <;> simp [h1, h2, h3, h4] <;> omega
theorem less_idx {l : List Cell} (hs : l.Pairwise fun a b => lessC a b = true) (c : Cell) {j : Nat} (hj : j < l.length) : lessC (l.getD j default) c = decide (j < putIdx l c) := by
  by_cases h : j < putIdx l c
  · rw [decide_eq_true h]; exact tw_lt l j h
  · rw [decide_eq_false h]
    have hk : putIdx l c < l.length := by omega
    have h0 : lessC (l.getD (putIdx l c) default) c = false := tw_at l hk
    rcases Nat.lt_or_ge (putIdx l c) j with h1 | h1
    · have h2 : lessC (l.getD (putIdx l c) default) (l.getD j default) = true := by
        have := (List.pairwise_iff_getElem.1 hs) _ _ hk hj h1
        simpa [List.getD, hk, hj] using this
      cases h3 : lessC (l.getD j default) c
      · rfl
      · rw [less_trans h2 h3] at h0; cases h0
    · have : j = putIdx l c := by omega
      rw [this]; exact h0
theorem taken_idx {l : List Cell} (hs : l.Pairwise fun a b => lessC a b = true) (c : Cell) : takenN l c.slot c.kind = (decide (putIdx l c < l.length) && decide (cmpC (l.getD (putIdx l c) default) c = 0)) := by
  rw [Bool.eq_iff_iff]
  simp only [takenN, List.any_eq_true, Bool.and_eq_true, decide_eq_true_eq, cmpC_zero]
  constructor
  · rintro ⟨x, hx, h1, h2⟩
    obtain ⟨j, hj, he⟩ := List.mem_iff_getElem.1 hx
    have hx' : l.getD j default = x := by simp [List.getD, hj, he]
    have hlt := less_idx hs c hj
    have hn : lessC x c = false := by simp [lessC]; omega
    rw [hx', hn] at hlt
    have hge : putIdx l c ≤ j := by
      have := of_decide_eq_false hlt.symm
      omega
    rcases Nat.lt_or_ge (putIdx l c) j with h3 | h3
    · have hk : putIdx l c < l.length := by omega
      have h4 := (List.pairwise_iff_getElem.1 hs) _ _ hk hj h3
      have h5 := less_idx hs c hk
      rw [decide_eq_false (Nat.lt_irrefl _)] at h5
      have h6 : l.getD (putIdx l c) default = l[putIdx l c] := by simp [List.getD, hk]
      rw [h6] at h5
      have h7 : lessC l[putIdx l c] c = true := by
        rw [he] at h4
        simp only [lessC, decide_eq_true_eq] at h4 ⊢
        omega
      rw [h7] at h5; cases h5
    · have : putIdx l c = j := by omega
      rw [this]
      exact ⟨hj, by rw [hx']; exact ⟨h1, h2⟩⟩
  · rintro ⟨hk, h1, h2⟩
    exact ⟨_, getD_mem hk, h1, h2⟩
def noTab : Tab := ⟨0, 0, []⟩
def addN (t : Tab) (c : Cell) : Tab × Int :=
  if tabErr t ≠ 0 then (noTab, 1) else if cellErr t.nd t.len c ≠ 0 then (noTab, cellErr t.nd t.len c) else if takenN t.cl c.slot c.kind = true then (noTab, 16) else if t.cl.length = 512 then (noTab, 8) else (⟨t.nd, t.len, insC t.cl c⟩, 0)
theorem mid_eq (n : Nat) (h : n ≤ 1000000) : IntKind.wrap .i64 (shrI .u64 (IntKind.wrap .u64 (n : Int)) 1) = ((n / 2 : Nat) : Int) := by
  have e1 : IntKind.wrap .u64 (n : Int) = n := by
    simp [IntKind.wrap, IntKind.signed, IntKind.bits]; omega
  have e2 : shrI .u64 (n : Int) 1 = ((n / 2 : Nat) : Int) := by
    unfold shrI
    rw [show min (Int.toNat 1) IntKind.u64.bits = 1 from rfl, Int.fdiv_eq_ediv_of_nonneg _ (by omega)]
    omega
  rw [e1, e2]
  exact wrap64 (by omega) (by omega)
theorem V126_eq (t : Tab) (c : Cell) (hl : t.cl.length ≤ 100000) : V126 t c = some (addN t c) := by
  unfold V126
  rw [eS126]
  simp only [tS126, Tr.val, V48_eq t hl, F48_eq t hl, V149_eq, F149_eq, Option.isSome_some, condT, Bool.cond_not, cond_dec, addN, noTab]
  by_cases h1 : tabErr t = 0
  case neg => simp [h1]
  by_cases h2 : cellErr t.nd t.len c = 0
  case neg => simp [h1, h2]
  obtain ⟨_, _, _, hs⟩ := tabErr_zero h1
  rw [if_pos h1, if_pos h2, if_neg (by simp [h1]), if_neg (by simp [h2])]
  generalize cellErr t.nd t.len c = z1
  generalize tabErr t = z2
  have hk := putIdx_le t.cl c
  have loop : ∀ d lo hi : Nat, hi - lo ≤ d → lo ≤ putIdx t.cl c → putIdx t.cl c ≤ hi → hi ≤ t.cl.length →
      lv cd126 C126 (J126_3_202_0 t.cl (t.cl.length : Int) (lo : Int) (hi : Int) c t c 0 z1 t z2 false c t.nd t.len z1 z1 false t.cl c t c 0 0) =
      lv cd126 C126 (J126_3_202_0 t.cl (t.cl.length : Int) (putIdx t.cl c : Int) (putIdx t.cl c : Int) c t c 0 z1 t z2 false c t.nd t.len z1 z1 false t.cl c t c 0 0) := by
    intro d
    induction d with
    | zero =>
      intro lo hi h3 h4 h5 h6
      have e1 : lo = putIdx t.cl c := by omega
      have e2 : hi = putIdx t.cl c := by omega
      rw [e1, e2]
    | succ d ih =>
      intro lo hi h3 h4 h5 h6
      rcases Nat.lt_or_ge lo hi with hlt | hge
      · have m1 := mid_eq (lo + hi) (by omega)
        rw [show ((lo + hi : Nat) : Int) = (lo : Int) + hi by omega] at m1
        have hm : (lo + hi) / 2 < t.cl.length := by omega
        have g1 : (lo : Int) < (hi : Int) := by omega
        have g2 : inR .i64 ((lo : Int) + hi) = true := inR_ok (by omega) (by omega)
        have g3 : ib (((lo + hi) / 2 : Nat) : Int) t.cl = true := ib_nat hm
        have g4 : nth .cell t.cl (((lo + hi) / 2 : Nat) : Int) = t.cl.getD ((lo + hi) / 2) default := nth_getD (st := .cell) t.cl _
        have g5 : inR .i64 ((((lo + hi) / 2 : Nat) : Int) + 1) = true := inR_ok (by omega) (by omega)
        rw [eJ126_3_202_0]
        simp only [tJ126_3_202_0, Tr.val, g1, g2, m1, g3, g4, g5, V150_eq, F150_eq, Option.isSome_some, decide_true, condT, cond_dec, cmpC_lt, less_idx hs c hm, decide_eq_true_eq]
        by_cases hc : (lo + hi) / 2 < putIdx t.cl c
        · rw [if_pos hc]
          have := ih ((lo + hi) / 2 + 1) hi (by omega) (by omega) h5 h6
          rw [show (((lo + hi) / 2 + 1 : Nat) : Int) = (((lo + hi) / 2 : Nat) : Int) + 1 by omega] at this
          exact this
        · rw [if_neg hc]
          exact ih lo ((lo + hi) / 2) (by omega) h4 (by omega) (by omega)
      · have e1 : lo = putIdx t.cl c := by omega
        have e2 : hi = putIdx t.cl c := by omega
        rw [e1, e2]
  have := loop t.cl.length 0 t.cl.length (by omega) (by omega) hk (by omega)
  have : lv cd126 C126 (J126_3_202_0 t.cl (t.cl.length : Int) 0 (t.cl.length : Int) c t c 0 z1 t z2 false c t.nd t.len z1 z1 false t.cl c t c 0 0) = _ := this
  rw [this, eJ126_3_202_0]
  have p1 : decide (t.cl.length * 48 ≤ 70368744177664) = true := decide_eq_true (by omega)
  have p2 : P203 t.cl (putIdx t.cl c : Int) ([c] : List Cell) = true := by simp [P203]; omega
  have p3 : I203 t.cl (putIdx t.cl c : Int) ([c] : List Cell) = insC t.cl c := by simp [I203, insC]
  have p4 : ¬ (putIdx t.cl c : Int) < (putIdx t.cl c : Int) := by omega
  have p5 : ((t.cl.length : Int) = 512) = (t.cl.length = 512) := by apply propext; omega
  simp only [tJ126_3_202_0, Tr.val, p1, p2, p3, p4, p5, decide_true, decide_false, condT, condF, cond_dec]
  rw [taken_idx hs]
  by_cases h3 : putIdx t.cl c < t.cl.length
  · have g1 : (putIdx t.cl c : Int) < (t.cl.length : Int) := by omega
    have g3 : ib (putIdx t.cl c : Int) t.cl = true := ib_nat h3
    have g4 : nth .cell t.cl (putIdx t.cl c) = t.cl.getD (putIdx t.cl c) default := nth_getD (st := .cell) t.cl _
    have g0 : (0 : Int) ≤ (putIdx t.cl c : Int) := by omega
    simp only [g0, g1, g3, g4, V150_eq, F150_eq, Option.isSome_some, condT, if_true, and_true, h3, decide_true, Bool.true_and, decide_eq_true_eq]
    by_cases h4 : cmpC (t.cl.getD (putIdx t.cl c) default) c = 0
    · rw [if_pos h4, if_pos h4]
    · rw [if_neg h4, if_neg h4]
      split <;> rfl
  · have g1 : ¬ (putIdx t.cl c : Int) < (t.cl.length : Int) := by omega
    simp only [g1, h3, if_false, decide_false, Bool.false_and, Bool.false_eq_true]
    split <;> rfl
theorem F126_eq (t : Tab) (c : Cell) (hl : t.cl.length ≤ 100000) : F126 t c = addN t c := getD_of (V126_eq t c hl)

end Go.Am

namespace Go.Am
open Go Go.Proofs
set_option linter.unusedVariables false

theorem hasN_any (cl : List Cell) (s : Spot) (b : Bool) : hasN cl s b = cl.any fun c => decide (c.slot = s.sslot) && decide (c.offset = s.soffset) && (c.send == b) :=
  range_any cl fun c => decide (c.slot = s.sslot) && decide (c.offset = s.soffset) && (c.send == b)
theorem hasN_iff {cl : List Cell} {s : Spot} {b : Bool} : hasN cl s b = true ↔ ∃ c ∈ cl, c.slot = s.sslot ∧ c.offset = s.soffset ∧ c.send = b := by
  rw [hasN_any]
  simp [List.any_eq_true, and_assoc]
theorem slotIn_iff {cl : List Cell} {s : Int} : slotIn cl s = true ↔ ∃ c ∈ cl, c.slot = s := by
  simp [slotIn, List.any_eq_true]
theorem sends_len (cl : List Cell) : (sendsOf cl).length ≤ cl.length := List.length_filterMap_le _ _
theorem F160_eq (e : End) (s : Spot) (b : Bool) (hl : e.cl.length ≤ 100000) : F160 e s b = hasN e.cl s b := getD_of (V160_eq e s b hl)
theorem F195_eq (l : List Spot) (s : Spot) (hl : l.length ≤ 100000) : F195 l s = decide (s ∈ l) := getD_of (V195_eq l s hl)
theorem F133_eq (e : End) (hl : e.cl.length ≤ 100000) : F133 e = (cellsOk e.pr e.cl && (decide (e.num ≠ 0) || decide (e.cl.length = 0))) := getD_of (V133_eq e hl)
def askOk (e : End) : Bool := decide (msgErr e.ask = 0) && (!e.ask.rep && (decide (e.ask.num = e.num) && ((e.ask.old.all fun s => hasN e.cl s true) && (e.ask.sp.all fun s => !slotIn e.cl s.sslot))))
def askedN (e : End) : Bool := if e.opn then askOk e else zeroMsg e.ask && decide (e.snc = 0)
def memOk (e : End) : Bool := answersN e.lst e.rp && (decide (e.rp.code = 0) && decide (e.num = if e.lst.kind = 6 then 0 else nextN e.lst.num))
def knowsN (e : End) : Bool := if e.kn then memOk e else zeroMsg e.lst && zeroMsg e.rp
def endCells (e : End) : Bool := cellsOk e.pr e.cl && (decide (e.num ≠ 0) || decide (e.cl.length = 0))
def endErr (e : End) : Int :=
  if ¬ (0 ≤ e.nd ∧ e.nd ≤ 31) ∨ ¬ (0 ≤ e.pr ∧ e.pr ≤ 31) ∨ ¬ (0 ≤ e.num ∧ e.num ≤ 255) ∨ ¬ (0 ≤ e.snc ∧ e.snc ≤ 1099511627776) then 2
  else if e.nd = e.pr ∨ endCells e = false ∨ askedN e = false ∨ knowsN e = false then 1 else 0
theorem V134_eq (e : End) (h : okE e) : V134 e = some (askedN e) := by
  unfold V134
  rw [eS134]
  have hl := h.1
  have ho := h.2.1.2
  have hs := h.2.1.1
  have e4 : lv cd134 C134 J134_4 = some false := by rw [eJ134_4]; rfl
  simp only [tS134, Tr.val, e4, V204_eq, F204_eq, V96_eq _ h.2.1.1 h.2.1.2, F96_eq _ h.2.1, Option.isSome_some, condT, Bool.cond_not, cond_dec, askedN, askOk]
  cases e.opn with
  | false => cases zeroMsg e.ask <;> simp
  | true =>
    simp only [condT, if_true]
    by_cases k1 : msgErr e.ask = 0
    case neg => simp [k1]
    cases k2 : e.ask.rep
    case true => simp [k1]
    by_cases k3 : e.ask.num = e.num
    case neg => simp [k1, k3]
    have inner : ∀ (i : Nat) (s : Spot), i < e.ask.sp.length → lv cd134 C134 (J134_2_198_0 e.cl (e.cl.length : Int) 0 e.cl false e.cl s false e.cl s e.ask.sp (i : Int) (e.ask.sp.length : Int) (i : Int) true (i : Int) e.ask.sp (i : Int) s s e.ask.sp false e.ask.sp e.ask.old false true true e.ask.sp e) =
        bif slotIn e.cl s.sslot then some false else lv cd134 C134 (J134_2_218_1 e.ask.sp (e.ask.sp.length : Int) ((i + 1 : Nat) : Int) e.ask.sp false e.ask.sp e.ask.old false true true e.ask.sp e) := by
      intro i s hi
      have g3 := inR_ok (n := (i : Int) + 1) (by omega) (by omega)
      have step : ∀ j, j < e.cl.length → lv cd134 C134 (J134_2_198_0 e.cl (e.cl.length : Int) (j : Nat) e.cl false e.cl s false e.cl s e.ask.sp (i : Int) (e.ask.sp.length : Int) (i : Int) true (i : Int) e.ask.sp (i : Int) s s e.ask.sp false e.ask.sp e.ask.old false true true e.ask.sp e) =
          bif decide ((e.cl.getD j default).slot = s.sslot) then some false else lv cd134 C134 (J134_2_198_0 e.cl (e.cl.length : Int) ((j + 1 : Nat) : Int) e.cl false e.cl s false e.cl s e.ask.sp (i : Int) (e.ask.sp.length : Int) (i : Int) true (i : Int) e.ask.sp (i : Int) s s e.ask.sp false e.ask.sp e.ask.old false true true e.ask.sp e) := by
        intro j hj
        have h1 : (j : Int) < (e.cl.length : Int) := by omega
        have h2 := ib_nat hj
        have h3 := inR_ok (n := (j : Int) + 1) (by omega) (by omega)
        have h4 : nth .cell e.cl j = e.cl.getD j default := nth_getD (st := .cell) e.cl j
        have h5 : (0 : Int) ≤ j := by omega
        have h6 : (0 : Int) ≤ i := by omega
        rw [eJ134_2_198_0, show ((j + 1 : Nat) : Int) = (j : Int) + 1 by omega]
        simp only [tJ134_2_198_0, Tr.val, h1, h2, h3, h4, h5, h6, decide_true, condT, Bool.not_true]
      have h := any_list0 (J := fun j => lv cd134 C134 (J134_2_198_0 e.cl (e.cl.length : Int) (j : Nat) e.cl false e.cl s false e.cl s e.ask.sp (i : Int) (e.ask.sp.length : Int) (i : Int) true (i : Int) e.ask.sp (i : Int) s s e.ask.sp false e.ask.sp e.ask.old false true true e.ask.sp e)) (l := e.cl) (p := fun c => decide (c.slot = s.sslot)) step
      have h : lv cd134 C134 (J134_2_198_0 e.cl (e.cl.length : Int) 0 e.cl false e.cl s false e.cl s e.ask.sp (i : Int) (e.ask.sp.length : Int) (i : Int) true (i : Int) e.ask.sp (i : Int) s s e.ask.sp false e.ask.sp e.ask.old false true true e.ask.sp e) = _ := h
      rw [h]
      have hend : lv cd134 C134 (J134_2_198_0 e.cl (e.cl.length : Int) (e.cl.length : Nat) e.cl false e.cl s false e.cl s e.ask.sp (i : Int) (e.ask.sp.length : Int) (i : Int) true (i : Int) e.ask.sp (i : Int) s s e.ask.sp false e.ask.sp e.ask.old false true true e.ask.sp e) = lv cd134 C134 (J134_2_218_1 e.ask.sp (e.ask.sp.length : Int) ((i + 1 : Nat) : Int) e.ask.sp false e.ask.sp e.ask.old false true true e.ask.sp e) := by
        rw [eJ134_2_198_0, show ((i + 1 : Nat) : Int) = (i : Int) + 1 by omega]
        simp only [tJ134_2_198_0, Tr.val, g3, Int.lt_irrefl, decide_false, condF, condT]
      rw [hend]
      rfl
    have outer : lv cd134 C134 (J134_2_218_1 e.ask.sp (e.ask.sp.length : Int) 0 e.ask.sp false e.ask.sp e.ask.old false true true e.ask.sp e) = some (e.ask.sp.all fun s => !slotIn e.cl s.sslot) := by
      have step : ∀ i, i < e.ask.sp.length → lv cd134 C134 (J134_2_218_1 e.ask.sp (e.ask.sp.length : Int) (i : Nat) e.ask.sp false e.ask.sp e.ask.old false true true e.ask.sp e) =
          bif !slotIn e.cl (e.ask.sp.getD i default).sslot then lv cd134 C134 (J134_2_218_1 e.ask.sp (e.ask.sp.length : Int) ((i + 1 : Nat) : Int) e.ask.sp false e.ask.sp e.ask.old false true true e.ask.sp e) else some false := by
        intro i hi
        have h1 : (i : Int) < (e.ask.sp.length : Int) := by omega
        have h2 := ib_nat hi
        have h4 : nth .spot e.ask.sp i = e.ask.sp.getD i default := nth_getD (st := .spot) e.ask.sp i
        rw [eJ134_2_218_1]
        simp only [tJ134_2_218_1, Tr.val, h1, h2, h4, decide_true, condT, inner i _ hi, Bool.cond_not]
      have h := all_list0 (J := fun i => lv cd134 C134 (J134_2_218_1 e.ask.sp (e.ask.sp.length : Int) (i : Nat) e.ask.sp false e.ask.sp e.ask.old false true true e.ask.sp e)) (p := fun s : Spot => !slotIn e.cl s.sslot) step
      have h : lv cd134 C134 (J134_2_218_1 e.ask.sp (e.ask.sp.length : Int) 0 e.ask.sp false e.ask.sp e.ask.old false true true e.ask.sp e) = _ := h
      have hend : lv cd134 C134 (J134_2_218_1 e.ask.sp (e.ask.sp.length : Int) (e.ask.sp.length : Nat) e.ask.sp false e.ask.sp e.ask.old false true true e.ask.sp e) = some true := by
        rw [eJ134_2_218_1]
        simp only [tJ134_2_218_1, Tr.val, Int.lt_irrefl, decide_false, condF, condT]
      rw [h, hend]
      cases e.ask.sp.all _ <;> rfl
    have step : ∀ i, i < e.ask.old.length → lv cd134 C134 (J134_2_218_0 e.ask.old (e.ask.old.length : Int) (i : Nat) e.ask.old false e.ask.old e.ask.old e) =
        bif hasN e.cl (e.ask.old.getD i default) true then lv cd134 C134 (J134_2_218_0 e.ask.old (e.ask.old.length : Int) ((i + 1 : Nat) : Int) e.ask.old false e.ask.old e.ask.old e) else some false := by
      intro i hi
      have h1 : (i : Int) < (e.ask.old.length : Int) := by omega
      have h2 := ib_nat hi
      have h3 := inR_ok (n := (i : Int) + 1) (by omega) (by omega)
      have h4 : nth .spot e.ask.old i = e.ask.old.getD i default := nth_getD (st := .spot) e.ask.old i
      have h5 : (0 : Int) ≤ i := by omega
      rw [eJ134_2_218_0, show ((i + 1 : Nat) : Int) = (i : Int) + 1 by omega]
      simp only [tJ134_2_218_0, Tr.val, h1, h2, h3, h4, h5, V160_eq _ _ _ hl, F160_eq _ _ _ hl, Option.isSome_some, decide_true, condT, Bool.cond_not]
    have h := all_list0 (J := fun i => lv cd134 C134 (J134_2_218_0 e.ask.old (e.ask.old.length : Int) (i : Nat) e.ask.old false e.ask.old e.ask.old e)) (p := fun s : Spot => hasN e.cl s true) step
    have h : lv cd134 C134 (J134_2_218_0 e.ask.old (e.ask.old.length : Int) 0 e.ask.old false e.ask.old e.ask.old e) = _ := h
    have hend : lv cd134 C134 (J134_2_218_0 e.ask.old (e.ask.old.length : Int) (e.ask.old.length : Nat) e.ask.old false e.ask.old e.ask.old e) = some (e.ask.sp.all fun s => !slotIn e.cl s.sslot) := by
      rw [eJ134_2_218_0]
      simp only [tJ134_2_218_0, Tr.val, outer, Int.lt_irrefl, decide_false, condF]
    rw [eJ134_5]
    simp only [tJ134_5, Tr.val, h, hend]
    rw [if_pos k1, if_pos k3]
    simp only [k1, k3, decide_true, Bool.true_and, Bool.not_false, condF]
    cases e.ask.old.all _ <;> rfl
theorem F134_eq (e : End) (h : okE e) : F134 e = askedN e := getD_of (V134_eq e h)
theorem V135_eq (e : End) (h : okE e) : V135 e = some (knowsN e) := by
  unfold V135
  rw [eS135]
  simp only [tS135, Tr.val, V204_eq, F204_eq, V41_eq, F41_eq, eJ135_6, tJ135_6, V47_eq _ _ h.2.2.1 h.2.2.2, F47_eq _ _ h.2.2.1 h.2.2.2, Option.isSome_some, condT, Bool.cond_not, cond_dec, knowsN, memOk]
  cases e.kn with
  | false => cases zeroMsg e.lst <;> simp
  | true =>
    by_cases k1 : e.lst.kind = 6 <;> cases answersN e.lst e.rp <;> by_cases k2 : e.rp.code = 0 <;> simp [k1, k2]
theorem F135_eq (e : End) (h : okE e) : F135 e = knowsN e := getD_of (V135_eq e h)
theorem V133_cells (e : End) (hl : e.cl.length ≤ 100000) : V133 e = some (endCells e) ∧ F133 e = endCells e := ⟨V133_eq e hl, F133_eq e hl⟩
theorem V38_eq (e : End) (h : okE e) : V38 e = some (endErr e) := by
  unfold V38
  rw [eS38]
  simp only [tS38, Tr.val, V128_eq, F128_eq, eJ38_2, tJ38_2, eJ38_3, tJ38_3, eJ38_4, tJ38_4, eJ38_5, tJ38_5, (V133_cells e h.1).1, (V133_cells e h.1).2, V134_eq e h, F134_eq e h, V135_eq e h, F135_eq e h, Option.isSome_some, condT, Bool.cond_not, cond_dec, endErr]
  by_cases k1 : 0 ≤ e.nd ∧ e.nd ≤ 31
  case neg => rw [if_neg k1, if_pos (Or.inl k1)]
  by_cases k2 : 0 ≤ e.pr ∧ e.pr ≤ 31
  case neg => rw [if_pos k1, if_neg k2, if_pos (Or.inr (Or.inl k2))]
  by_cases k3 : 0 ≤ e.num ∧ e.num ≤ 255
  case neg => rw [if_pos k1, if_pos k2, if_neg k3, if_pos (Or.inr (Or.inr (Or.inl k3)))]
  by_cases k4 : 0 ≤ e.snc ∧ e.snc ≤ 1099511627776
  case neg => rw [if_pos k1, if_pos k2, if_pos k3, if_neg k4, if_pos (Or.inr (Or.inr (Or.inr k4)))]
  rw [if_pos k1, if_pos k2, if_pos k3, if_pos k4, if_neg (show ¬ (¬ (0 ≤ e.nd ∧ e.nd ≤ 31) ∨ ¬ (0 ≤ e.pr ∧ e.pr ≤ 31) ∨ ¬ (0 ≤ e.num ∧ e.num ≤ 255) ∨ ¬ (0 ≤ e.snc ∧ e.snc ≤ 1099511627776)) by omega)]
  by_cases k5 : e.nd = e.pr <;> cases endCells e <;> cases askedN e <;> cases knowsN e <;> simp [k5]
theorem F38_eq (e : End) (h : okE e) : F38 e = endErr e := getD_of (V38_eq e h)
theorem cellsOk_iff {pr : Int} {cl : List Cell} : cellsOk pr cl = true ↔ (∀ c ∈ cl, c.kind = 2 ∧ c.peer = pr ∧ c.flow = -1 ∧ (0 ≤ c.slot ∧ c.slot ≤ 511) ∧ (0 ≤ c.offset ∧ c.offset ≤ 15)) ∧ cl.Pairwise fun a b => a.slot < b.slot := by
  unfold cellsOk
  rw [List.all_eq_true]
  constructor
  · intro h
    constructor
    · intro c hc
      obtain ⟨i, hi, he⟩ := List.mem_iff_getElem.1 hc
      have := h i (List.mem_range.2 hi)
      have hx : cat cl i = c := by simp [cat, List.getD, hi, he]
      simp only [cellOk, hx, Bool.and_eq_true, decide_eq_true_eq] at this
      exact ⟨this.1.1.1.1.1, this.1.1.1.1.2, this.1.1.1.2, this.1.1.2, this.1.2⟩
    · apply asc_of_adj (fun a b : Cell => a.slot < b.slot) (fun a b c h1 h2 => by omega)
      intro i hi
      have := h (i + 1) (List.mem_range.2 hi)
      simp only [cellOk, Bool.and_eq_true, Bool.or_eq_true, decide_eq_true_eq] at this
      rcases this.2 with h1 | h1
      · omega
      · exact h1
  · rintro ⟨h1, h2⟩ i hi
    have hil := List.mem_range.1 hi
    have h3 := h1 (cat cl i) (getD_mem hil)
    simp only [cellOk, Bool.and_eq_true, Bool.or_eq_true, decide_eq_true_eq]
    refine ⟨⟨⟨⟨⟨h3.1, h3.2.1⟩, h3.2.2.1⟩, h3.2.2.2.1⟩, h3.2.2.2.2⟩, ?_⟩
    rcases Nat.eq_zero_or_pos i with k | k
    · exact .inl k
    · right
      have := (List.pairwise_iff_getElem.1 h2) (i - 1) i (by omega) hil (by omega)
      simpa [cat, List.getD, hil, show i - 1 < cl.length by omega] using this
theorem tabErr_of {t : Tab} (h0 : 0 ≤ t.nd ∧ t.nd < 32 ∧ 1 ≤ t.len ∧ t.len ≤ 512) (h1 : t.cl.length ≤ 512) (h2 : ∀ c ∈ t.cl, cellErr t.nd t.len c = 0) (h3 : t.cl.Pairwise fun a b => lessC a b = true) : tabErr t = 0 := by
  unfold tabErr
  rw [if_neg (by omega), if_neg (by omega)]
  have : (List.range t.cl.length).findSome? (cellErrAt t.nd t.len t.cl) = none := by
    rw [List.findSome?_eq_none_iff]
    intro i hi
    have hil := List.mem_range.1 hi
    unfold cellErrAt
    rw [if_neg (by rw [h2 (cat t.cl i) (getD_mem hil)]; simp), if_neg]
    rintro ⟨h4, h5⟩
    have := (List.pairwise_iff_getElem.1 h3) (i - 1) i (by omega) hil (by omega)
    rw [show cat t.cl (i - 1) = t.cl[i - 1] by simp [cat, List.getD, show i - 1 < t.cl.length by omega], show cat t.cl i = t.cl[i] by simp [cat, List.getD, hil], this] at h5
    cases h5
  rw [this]; rfl
theorem cellErr_agreed {nd len : Int} {c : Cell} (hk : c.kind = 2) : cellErr nd len c = 0 ↔ c.flow = -1 ∧ (0 ≤ c.slot ∧ c.slot < len) ∧ (0 ≤ c.offset ∧ c.offset < 16) ∧ (0 ≤ c.peer ∧ c.peer < 32 ∧ c.peer ≠ nd) := by
  unfold cellErr
  rw [if_neg (by omega)]
  by_cases h1 : c.flow = -1
  · rw [if_neg (by omega), if_neg (by omega)]
    split
    · simp; omega
    · split
      · simp; omega
      · rw [if_neg (by omega)]; simp; omega
  · rw [if_pos (by omega)]; simp [h1]
end Go.Am

namespace Go.Am
open Go Go.Proofs
set_option linter.unusedVariables false

def addOk (t : Tab) (c : Cell) : Option Tab := if (addN t c).2 = 0 then some (addN t c).1 else none
def fullN (t : Tab) (e : End) : Tab × Int :=
  if endErr e ≠ 0 ∨ tabErr t ≠ 0 ∨ t.nd ≠ e.nd ∨ betweenN t e.pr ≠ [] then (noTab, 1) else match e.cl.foldlM addOk t with
    | none => (noTab, 16)
    | some u => (u, 0)
theorem addN_len (t : Tab) (c : Cell) : (addN t c).1.cl.length ≤ t.cl.length + 1 := by
  unfold addN
  split
  · simp [noTab]
  · split
    · simp [noTab]
    · split
      · simp [noTab]
      · split
        · simp [noTab]
        · simp [insC_len]
theorem V36_eq (t : Tab) (e : End) (h : okE e) (hl : e.cl.length ≤ 512) (ht : t.cl.length ≤ 1000) : V36 t e = some (fullN t e) := by
  unfold V36
  rw [eS36]
  have hc : t.cl.length ≤ 100000 := by omega
  simp only [tS36, Tr.val, V38_eq e h, F38_eq e h, V48_eq t hc, F48_eq t hc, V124_eq t _ hc, F124_eq t _ hc, eJ36_2, tJ36_2, eJ36_3, tJ36_3, V125_ok t.cl (by omega), F125_ok t.cl (by omega), Option.isSome_some, condT, Bool.cond_not, cond_dec, fullN, noTab]
  by_cases h1 : endErr e = 0
  case neg => simp [h1]
  by_cases h2 : tabErr t = 0
  case neg => simp [h1, h2]
  by_cases h3 : t.nd = e.nd
  case neg => simp [h1, h2, h3]
  by_cases h4 : betweenN t e.pr = []
  case neg =>
    have : 0 < ((betweenN t e.pr).length : Int) := by have := List.length_pos_iff.2 h4; omega
    rw [if_pos h1, if_pos h2, if_pos h3, if_pos this, if_pos (by simp [h4])]
  have : ¬ 0 < ((betweenN t e.pr).length : Int) := by rw [h4]; simp
  rw [if_pos h1, if_pos h2, if_pos h3, if_neg this, if_neg (by simp [h1, h2, h3, h4])]
  have loop := fold_err (J := fun i x => lv cd36 C36 (J36_5 e.cl (e.cl.length : Int) ((i : Nat) : Int) x 0 0)) (l := e.cl) (f := addOk) (bad := some (noTab, 16)) (inv := fun i x => x.cl.length ≤ 1000 + i) (fun i x hi hx => by
    have h1 : (i : Int) < (e.cl.length : Int) := by omega
    have h2 := ib_nat hi
    have h3 := inR_ok (n := (i : Int) + 1) (by omega) (by omega)
    have h4 : nth .cell e.cl i = e.cl.getD i default := nth_getD (st := .cell) e.cl i
    have h5 : x.cl.length ≤ 100000 := by omega
    have key : lv cd36 C36 (J36_5 e.cl (e.cl.length : Int) ((i : Nat) : Int) x 0 0) = if (addN x (e.cl.getD i default)).2 = 0 then lv cd36 C36 (J36_5 e.cl (e.cl.length : Int) ((i + 1 : Nat) : Int) (addN x (e.cl.getD i default)).1 0 0) else some (noTab, 16) := by
      rw [eJ36_5, show ((i + 1 : Nat) : Int) = (i : Int) + 1 by omega]
      simp only [tJ36_5, Tr.val, h1, h2, h3, h4, V126_eq _ _ h5, F126_eq _ _ h5, Option.isSome_some, decide_true, condT, Bool.cond_not, cond_dec, noTab]
    try simp only
    rw [key]
    unfold addOk
    by_cases h6 : (addN x (e.cl.getD i default)).2 = 0
    · rw [if_pos h6, if_pos h6]
      refine ⟨fun h => by simp at h, fun b hb => ?_⟩
      cases hb
      refine ⟨rfl, ?_⟩
      have := addN_len x (e.cl.getD i default)
      omega
    · rw [if_neg h6, if_neg h6]
      exact ⟨fun _ => rfl, fun b hb => by cases hb⟩) e.cl.length 0 t (by omega) (by omega)
  have hend : ∀ x, lv cd36 C36 (J36_5 e.cl (e.cl.length : Int) ((e.cl.length : Nat) : Int) x 0 0) = some (x, 0) := by
    intro x
    rw [eJ36_5]
    simp [tJ36_5, Tr.val]
  rw [List.drop_zero] at loop
  show lv cd36 C36 (J36_5 e.cl (e.cl.length : Int) 0 t 0 0) = _
  cases hf : e.cl.foldlM addOk t with
  | none => exact loop.1 hf
  | some u => exact ((loop.2 u hf).1).trans (hend u)
theorem F36_eq (t : Tab) (e : End) (h : okE e) (hl : e.cl.length ≤ 512) (ht : t.cl.length ≤ 1000) : F36 t e = fullN t e := getD_of (V36_eq t e h hl ht)
/-! ### What a full table holds -/
theorem mem_insC {l : List Cell} {c x : Cell} : x ∈ insC l c ↔ x = c ∨ x ∈ l := by
  unfold insC
  have h := (List.perm_middle (l₁ := l.take (putIdx l c)) (a := c) (l₂ := l.drop (putIdx l c))).mem_iff (a := x)
  rw [List.take_append_drop] at h
  rw [h, List.mem_cons]
theorem addOk_some {t u : Tab} {c : Cell} (h : addOk t c = some u) : u = ⟨t.nd, t.len, insC t.cl c⟩ ∧ tabErr t = 0 ∧ cellErr t.nd t.len c = 0 ∧ takenN t.cl c.slot c.kind = false ∧ t.cl.length ≠ 512 := by
  unfold addOk at h
  split at h
  · rename_i h0
    cases h
    unfold addN at h0 ⊢
    by_cases h1 : tabErr t = 0
    · by_cases h2 : cellErr t.nd t.len c = 0
      · cases h3 : takenN t.cl c.slot c.kind
        · by_cases h4 : t.cl.length = 512
          · rw [if_neg (by simp [h1]), if_neg (by simp [h2]), if_neg (by simp [h3]), if_pos h4] at h0; cases h0
          · rw [if_neg (by simp [h1]), if_neg (by simp [h2]), if_neg (by simp [h3]), if_neg h4]
            exact ⟨rfl, h1, h2, rfl, h4⟩
        · rw [if_neg (by simp [h1]), if_neg (by simp [h2]), if_pos h3] at h0; cases h0
      · rw [if_neg (by simp [h1]), if_pos h2] at h0; exact absurd h0 h2
    · rw [if_pos h1] at h0; cases h0
  · cases h
theorem fold_mem : ∀ {l : List Cell} {t u : Tab}, l.foldlM addOk t = some u → ∀ x, x ∈ u.cl ↔ x ∈ l ∨ x ∈ t.cl
  | [], t, u, h, x => by simp at h; subst h; simp
  | c :: l, t, u, h, x => by
    rw [List.foldlM_cons] at h
    obtain ⟨v, h1, h2⟩ := Option.bind_eq_some_iff.1 h
    obtain ⟨rfl, _⟩ := addOk_some h1
    rw [fold_mem h2, mem_insC, List.mem_cons]
    constructor
    · rintro (h | h | h)
      · exact .inl (.inr h)
      · exact .inl (.inl h)
      · exact .inr h
    · rintro ((h | h) | h)
      · exact .inr (.inl h)
      · exact .inl h
      · exact .inr (.inr h)
theorem fullN_ok {t : Tab} {e : End} (h : (fullN t e).2 = 0) : endErr e = 0 ∧ tabErr t = 0 ∧ t.nd = e.nd ∧ betweenN t e.pr = [] ∧ e.cl.foldlM addOk t = some (fullN t e).1 := by
  unfold fullN at h ⊢
  split at h
  · cases h
  · rename_i h0
    rw [if_neg h0]
    simp only [not_or, Decidable.not_not] at h0
    cases hf : e.cl.foldlM addOk t with
    | none => rw [hf] at h; cases h
    | some u => exact ⟨h0.1, h0.2.1, h0.2.2.1, h0.2.2.2, rfl⟩
theorem endErr_zero {e : End} (h : endErr e = 0) : (0 ≤ e.nd ∧ e.nd ≤ 31) ∧ (0 ≤ e.pr ∧ e.pr ≤ 31) ∧ (0 ≤ e.num ∧ e.num ≤ 255) ∧ (0 ≤ e.snc ∧ e.snc ≤ 1099511627776) ∧ e.nd ≠ e.pr ∧ endCells e = true ∧ askedN e = true ∧ knowsN e = true := by
  unfold endErr at h
  split at h
  · cases h
  · split at h
    · cases h
    · rename_i h1 h2
      simp only [not_or, Decidable.not_not, Bool.not_eq_false] at h1 h2
      exact ⟨h1.1, h1.2.1, h1.2.2.1, h1.2.2.2, h2.1, h2.2.1, h2.2.2.1, h2.2.2.2⟩
theorem endCells_ok {e : End} (h : endCells e = true) : cellsOk e.pr e.cl = true ∧ (e.num ≠ 0 ∨ e.cl = []) := by
  unfold endCells at h
  simp only [Bool.and_eq_true, Bool.or_eq_true, decide_eq_true_eq, List.length_eq_zero_iff] at h
  exact h
/-! ### Cells changed -/
def placeC (c : Cell) : Spot := ⟨c.slot, c.offset⟩
def newC (pr : Int) (b : Bool) (s : Spot) : Cell := ⟨s.sslot, s.soffset, 2, b, pr, -1⟩
theorem V186_eq (c : Cell) : V186 c = some (placeC c) := by
  unfold V186
  rw [eS186]
  rfl
theorem F186_eq (c : Cell) : F186 c = placeC c := getD_of (V186_eq c)
def restC (old : List Spot) (cl : List Cell) : List Cell := cl.filter fun c => !decide (placeC c ∈ old)
def changeN (e : End) (old sp : List Spot) (b : Bool) : End := { e with cl := sortC (restC old e.cl ++ sp.map (newC e.pr b)) }
theorem V120_eq (e : End) (old sp : List Spot) (b : Bool) (hl : e.cl.length ≤ 1000) (ho : old.length ≤ 100000) (hsp : sp.length ≤ 1000) (hP : P196 (restC old e.cl ++ sp.map (newC e.pr b)) = true) : V120 e old sp b = some (changeN e old sp b) := by
  unfold V120
  rw [eS120]
  have h48 : decide (e.cl.length * 48 ≤ 70368744177664) = true := decide_eq_true (by omega)
  simp only [tS120, Tr.val, h48, condT]
  -- the new cells
  have l3 : ∀ (acc : List Cell), acc.length ≤ 1000 → P196 (acc ++ sp.map (newC e.pr b)) = true →
      lv cd120 C120 (J120_3 b sp (sp.length : Int) 0 e.nd e.pr e.num acc e.opn e.snc e.ask e.kn e.lst e.rp 0 0 0 false 0 0 false 0 0 0 false 0 false 0 0 0 0 false 0 0 0) = some { e with cl := sortC (acc ++ sp.map (newC e.pr b)) } := by
    intro acc ha hp
    have h := fold_list0 (J := fun i acc => lv cd120 C120 (J120_3 b sp (sp.length : Int) ((i : Nat) : Int) e.nd e.pr e.num acc e.opn e.snc e.ask e.kn e.lst e.rp 0 0 0 false 0 0 false 0 0 0 false 0 false 0 0 0 0 false 0 0 0)) (l := sp) (f := fun a s => a ++ [newC e.pr b s]) (inv := fun i a => a.length ≤ 1000 + i) (fun i a hi ha => by
      have h1 : (i : Int) < (sp.length : Int) := by omega
      have h2 := ib_nat hi
      have h3 := inR_ok (n := (i : Int) + 1) (by omega) (by omega)
      have h4 : nth .spot sp i = sp.getD i default := nth_getD (st := .spot) sp i
      have h5 : il a ([(⟨(sp.getD i default).sslot, (sp.getD i default).soffset, 2, b, e.pr, -1⟩ : Cell)] : List Cell) 48 = true := il_le (by omega) (by simp) (by omega)
      refine ⟨?_, by simp; omega⟩
      try simp only
      rw [eJ120_3, show ((i + 1 : Nat) : Int) = (i : Int) + 1 by omega]
      simp only [tJ120_3, Tr.val, h1, h2, h3, h4, h5, decide_true, condT]
      rfl) acc (by omega)
    have h : lv cd120 C120 (J120_3 b sp (sp.length : Int) 0 e.nd e.pr e.num acc e.opn e.snc e.ask e.kn e.lst e.rp 0 0 0 false 0 0 false 0 0 0 false 0 false 0 0 0 0 false 0 0 0) = _ := h
    have hm : ∀ (l : List Spot) (acc : List Cell), l.foldl (fun a s => a ++ [newC e.pr b s]) acc = acc ++ l.map (newC e.pr b) := by
      intro l
      induction l with
      | nil => intro acc; simp
      | cons x l ih => intro acc; rw [List.foldl_cons, ih]; simp
    rw [h, hm]
    try simp only
    rw [eJ120_3]
    simp only [tJ120_3, Tr.val, Int.lt_irrefl, decide_false, condF, hp, condT]
  -- the compaction
  have l5 : ∀ (x : List Cell) (w i : Nat) (y : List Cell), x.length = e.cl.length → w ≤ i → i ≤ e.cl.length → x.drop i = e.cl.drop i → x.take w ++ (e.cl.drop i).filter (fun c => !decide (placeC c ∈ old)) = restC old e.cl →
      lv cd120 C120 (J120_5_193_0 x (w : Int) (i : Int) e old sp b e.cl y e old 0 0 0 false 0 0 false 0 0 0 false 0 false 0 0 0 0 false 0 0 0) = some (changeN e old sp b) := by
    intro x w i y hx hw hi hd hres
    have := compact (J := fun x w i y => lv cd120 C120 (J120_5_193_0 x ((w : Nat) : Int) ((i : Nat) : Int) e old sp b e.cl y e old 0 0 0 false 0 0 false 0 0 0 false 0 false 0 0 0 0 false 0 0 0)) (orig := e.cl) (p := fun c => !decide (placeC c ∈ old))
      (K := fun l => lv cd120 C120 (J120_3 b sp (sp.length : Int) 0 e.nd e.pr e.num l e.opn e.snc e.ask e.kn e.lst e.rp 0 0 0 false 0 0 false 0 0 0 false 0 false 0 0 0 0 false 0 0 0)) (fun x w i y hx hw hi => ?_) (fun x w y hx hw => ?_) (e.cl.length - i) x w i y (by omega) hx hw hd
    · rw [this, hres, l3 _ (by unfold restC; have := List.length_filter_le (fun c => !decide (placeC c ∈ old)) e.cl; omega) hP]
      rfl
    · have h1 : (i : Int) < (x.length : Int) := by omega
      have h2 : ib (i : Int) x = true := ib_nat (by omega)
      have h2' : ib (w : Int) x = true := ib_nat (by omega)
      have h3 := inR_ok (n := (i : Int) + 1) (by omega) (by omega)
      have h3' := inR_ok (n := (w : Int) + 1) (by omega) (by omega)
      have h4 : x.getD (i : Int).toNat (ST.dflt .cell) = x.getD i default := rfl
      have h5 : (w : Int).toNat = w := rfl
      try simp only
      rw [eJ120_5_193_0]
      simp only [tJ120_5_193_0, Tr.val, h1, h2, h2', h3, h3', h4, h5, V186_eq, F186_eq, V195_eq _ _ ho, F195_eq _ _ ho, eJ120_6_193_0, tJ120_6_193_0, Option.isSome_some, decide_true, condT]
      by_cases k : placeC (x.getD i default) ∈ old
      · rw [decide_eq_true k]; rfl
      · rw [decide_eq_false k]; rfl
    · try simp only
      rw [eJ120_5_193_0]
      have h1 : ¬ (e.cl.length : Int) < (x.length : Int) := by omega
      have h2 : ic (w : Int) x = true := ic_nat (by omega)
      have h5 : (w : Int).toNat = w := rfl
      have h3 : ic (w : Int) (x.take w ++ List.replicate (x.length - w) (ST.dflt .cell)) = true := ic_nat (by simp; omega)
      simp only [tJ120_5_193_0, Tr.val, h1, h2, h5, h3, decide_false, condT, condF]
      rw [take_rep _ _ (by omega)]
  -- the search for the first one
  have aux : ∀ k i, i + k = e.cl.length → (∀ x ∈ e.cl.take i, placeC x ∉ old) → lv cd120 C120 (J120_2_198_0 e.cl (e.cl.length : Int) (i : Nat) e.cl e.cl e old sp b e.cl e.cl e old 0 0 0 false 0 0 false 0 0 0 false 0 false 0 0 0 0 false 0 0 0) = some (changeN e old sp b) := by
    intro k
    induction k with
    | zero =>
      intro i hi hp
      simp at hi
      subst hi
      rw [eJ120_2_198_0]
      simp only [tJ120_2_198_0, Tr.val, Int.lt_irrefl, decide_false, condF]
      have : restC old e.cl = e.cl := filter_all fun x hx => by
        have := hp x (by rw [List.take_length]; exact hx)
        simp [this]
      rw [l3 e.cl hl (by rw [this] at hP; exact hP), changeN, this]
    | succ k ih =>
      intro i hi hp
      have hil : i < e.cl.length := by omega
      have h1 : (i : Int) < (e.cl.length : Int) := by omega
      have h2 : ib (i : Int) e.cl = true := ib_nat hil
      have h3 := inR_ok (n := (i : Int) + 1) (by omega) (by omega)
      have h4 : e.cl.getD (i : Int).toNat (ST.dflt .cell) = e.cl.getD i default := rfl
      have h5 : ¬ (i : Int) = -1 := by omega
      rw [eJ120_2_198_0]
      simp only [tJ120_2_198_0, Tr.val, h1, h2, h3, h4, h5, V186_eq, F186_eq, V195_eq _ _ ho, F195_eq _ _ ho, Option.isSome_some, decide_true, decide_false, condT, condF, cond_dec]
      have htake : (e.cl.take i).filter (fun c => !decide (placeC c ∈ old)) = e.cl.take i := filter_all fun x hx => by simp [hp x hx]
      by_cases hc : placeC (e.cl.getD i default) ∈ old
      · rw [if_pos hc]
        refine l5 e.cl i (i + 1) e.cl rfl (by omega) (by omega) rfl ?_
        unfold restC
        conv => rhs; rw [← List.take_append_drop i e.cl, List.filter_append, htake, getD_drop hil, List.filter_cons]
        rw [if_neg (by rw [decide_eq_true hc]; simp)]
      · rw [if_neg hc]
        have := ih (i + 1) (by omega) (by
          intro x hx
          rw [take_snoc hil] at hx
          rcases List.mem_append.1 hx with hx | hx
          · exact hp x hx
          · rw [List.mem_singleton.1 hx]; exact hc)
        rw [show ((i + 1 : Nat) : Int) = (i : Int) + 1 by omega] at this
        exact this
  exact aux e.cl.length 0 (by omega) (by simp)
end Go.Am

namespace Go.Am
open Go Go.Proofs
set_option linter.unusedVariables false

def restB (old : List Spot) (b : Bool) (cl : List Cell) : List Cell := cl.filter fun c => !(c.send == b) || !decide (placeC c ∈ old)
def movedN (e : End) (old sp : List Spot) (b : Bool) : List Cell := sp.foldl (fun l s => insC l (newC e.pr b s)) (restB old b e.cl)
def usableN (t : Tab) (f : List Int) (l : List Spot) (n : Int) : List Spot := (l.filter (fitsN t f)).take n.toNat
def listensN (cl : List Cell) (l : List Spot) : Bool := l.all fun s => hasN cl s false
/-! ### Both ways of changing cells agree -/
theorem asc_inj {cl : List Cell} (h : cl.Pairwise fun a b => a.slot < b.slot) {a b : Cell} (ha : a ∈ cl) (hb : b ∈ cl) (hab : a.slot = b.slot) : a = b := by
  obtain ⟨i, hi, rfl⟩ := List.mem_iff_getElem.1 ha
  obtain ⟨j, hj, rfl⟩ := List.mem_iff_getElem.1 hb
  rcases Nat.lt_trichotomy i j with k | k | k
  · have := (List.pairwise_iff_getElem.1 h) i j hi hj k; omega
  · subst k; rfl
  · have := (List.pairwise_iff_getElem.1 h) j i hj hi k; omega
theorem rest_same {cl : List Cell} (h : cl.Pairwise fun a b => a.slot < b.slot) {old : List Spot} {b : Bool} (ho : ∀ s ∈ old, hasN cl s b = true) : restB old b cl = restC old cl := by
  unfold restB restC
  apply List.filter_congr
  intro c hc
  by_cases k : placeC c ∈ old
  · obtain ⟨d, hd, k1, k2, k3⟩ := hasN_iff.1 (ho _ k)
    have : d = c := asc_inj h hd hc k1
    subst this
    simp [k, k3]
  · simp [k]
/-- Agreed cells in ascending order. -/
def ascK (l : List Cell) : Prop := (l.Pairwise fun a b => a.slot < b.slot) ∧ ∀ c ∈ l, c.kind = 2
theorem ascK_less {l : List Cell} (h : ascK l) : l.Pairwise fun a b => lessC a b = true :=
  h.1.imp fun {a b} hab => by simp [lessC]; omega
theorem put_asc {l : List Cell} (h : ascK l) {c : Cell} (hk : c.kind = 2) (hn : ∀ x ∈ l, x.slot ≠ c.slot) : ascK (insC l c) := by
  have hs := ascK_less h
  constructor
  · unfold insC
    rw [List.pairwise_append, List.pairwise_cons]
    refine ⟨h.1.sublist (List.take_sublist _ _), ⟨?_, h.1.sublist (List.drop_sublist _ _)⟩, ?_⟩
    · intro x hx
      obtain ⟨j, hj, he⟩ := List.mem_iff_getElem.1 hx
      rw [List.getElem_drop] at he
      have hjl : putIdx l c + j < l.length := by rw [List.length_drop] at hj; omega
      have hlt := less_idx hs c hjl
      have hxe : l.getD (putIdx l c + j) default = x := by simp [List.getD, hjl, he]
      rw [hxe, decide_eq_false (by omega)] at hlt
      have hm : x ∈ l := List.mem_of_mem_drop hx
      have h1 := h.2 x hm
      have h2 := hn x hm
      simp [lessC] at hlt
      omega
    · intro x hx y hy
      have hm : x ∈ l := List.mem_of_mem_take hx
      obtain ⟨j, hj, he⟩ := List.mem_iff_getElem.1 hx
      rw [List.getElem_take] at he
      have hjk : j < putIdx l c := by rw [List.length_take] at hj; omega
      have hjl : j < l.length := by rw [List.length_take] at hj; omega
      have hlt := less_idx hs c hjl
      have hxe : l.getD j default = x := by simp [List.getD, hjl, he]
      rw [hxe, decide_eq_true hjk] at hlt
      have h1 := h.2 x hm
      simp only [lessC, decide_eq_true_eq] at hlt
      have hxc : x.slot < c.slot := by omega
      rcases List.mem_cons.1 hy with rfl | hy
      · exact hxc
      · have hrel : ∀ z ∈ l.drop (putIdx l c), x.slot < z.slot := by
          have hp := h.1
          rw [← List.take_append_drop (putIdx l c) l, List.pairwise_append] at hp
          exact fun z hz => hp.2.2 x hx z hz
        exact hrel y hy
  · intro x hx
    rcases mem_insC.1 hx with rfl | hx
    · exact hk
    · exact h.2 x hx
theorem put_perm (l : List Cell) (c : Cell) : (insC l c).Perm (c :: l) := by
  unfold insC
  have := List.perm_middle (l₁ := l.take (putIdx l c)) (a := c) (l₂ := l.drop (putIdx l c))
  rwa [List.take_append_drop] at this
theorem puts_asc (pr : Int) (b : Bool) : ∀ {sp : List Spot} {l : List Cell}, ascK l → (sp.Pairwise fun a b => a.sslot < b.sslot) → (∀ s ∈ sp, ∀ x ∈ l, x.slot ≠ s.sslot) →
    ascK (sp.foldl (fun l s => insC l (newC pr b s)) l) ∧ (sp.foldl (fun l s => insC l (newC pr b s)) l).Perm (l ++ sp.map (newC pr b))
  | [], l, h, _, _ => ⟨h, by simp⟩
  | s :: sp, l, h, hs, hn => by
    obtain ⟨h1, h2⟩ := List.pairwise_cons.1 hs
    rw [List.foldl_cons]
    obtain ⟨h3, h4⟩ := puts_asc pr b (sp := sp) (l := insC l (newC pr b s)) (put_asc h rfl (fun x hx => hn s List.mem_cons_self x hx)) h2 (fun s' hs' x hx => by
      rcases mem_insC.1 hx with rfl | hx
      · have := h1 s' hs'
        show s.sslot ≠ s'.sslot
        omega
      · exact hn s' (List.mem_cons_of_mem _ hs') x hx)
    refine ⟨h3, h4.trans ?_⟩
    rw [List.map_cons]
    exact ((put_perm l (newC pr b s)).append_right _).trans (by simpa using (List.perm_middle (l₁ := l) (a := newC pr b s) (l₂ := sp.map (newC pr b))).symm)
theorem change_moved {e : End} {old sp : List Spot} {b : Bool} (h : ascK e.cl) (ho : ∀ s ∈ old, hasN e.cl s b = true) (hs : sp.Pairwise fun a b => a.sslot < b.sslot) (hn : ∀ s ∈ sp, slotIn e.cl s.sslot = false)
    (hP : P196 (restC old e.cl ++ sp.map (newC e.pr b)) = true) : sortC (restC old e.cl ++ sp.map (newC e.pr b)) = movedN e old sp b := by
  unfold movedN
  rw [rest_same h.1 ho]
  have hr : ascK (restC old e.cl) := ⟨List.Pairwise.filter _ h.1, fun c hc => h.2 c (List.mem_filter.1 hc).1⟩
  have hn' : ∀ s ∈ sp, ∀ x ∈ restC old e.cl, x.slot ≠ s.sslot := by
    intro s hs x hx he
    have := hn s hs
    rw [slotIn_iff.2 ⟨x, (List.mem_filter.1 hx).1, he⟩] at this
    cases this
  obtain ⟨h1, h2⟩ := puts_asc e.pr b hr hs hn'
  obtain ⟨h3, h4⟩ := sortC_spec (restC old e.cl ++ sp.map (newC e.pr b))
  have h5 := h4 hP
  have hperm := h3.trans h2.symm
  refine asc_eq Cell.slot _ _ ?_ h1.1 hperm.length_eq fun x hx => hperm.mem_iff.1 hx
  have h6 : (sortC (restC old e.cl ++ sp.map (newC e.pr b))).Pairwise fun a b => a.slot ≠ b.slot := by
    have h7 : (sp.foldl (fun l s => insC l (newC e.pr b s)) (restC old e.cl)).Pairwise fun a b => a.slot ≠ b.slot := h1.1.imp fun {a b} hab => by omega
    exact (hperm.pairwise_iff (fun {a b} hab => Ne.symm hab)).2 h7
  have h8 := h5.and h6
  exact h8.imp fun {a b} hab => by omega
theorem moved_asc {e : End} {old sp : List Spot} {b : Bool} (h : ascK e.cl) (hs : sp.Pairwise fun a b => a.sslot < b.sslot) (hn : ∀ s ∈ sp, slotIn e.cl s.sslot = false) : ascK (movedN e old sp b) := by
  unfold movedN
  have hr : ascK (restB old b e.cl) := ⟨List.Pairwise.filter _ h.1, fun c hc => h.2 c (List.mem_filter.1 hc).1⟩
  exact (puts_asc e.pr b hr hs fun s hs x hx he => by
    have := hn s hs
    rw [slotIn_iff.2 ⟨x, (List.mem_filter.1 hx).1, he⟩] at this
    cases this).1
theorem P196_of {l : List Cell} (h : ∀ c ∈ l, 0 ≤ c.slot ∧ c.slot ≤ 1000000) (hl : l.length ≤ 1000000) : P196 l = true := by
  unfold P196
  rw [Bool.and_eq_true, List.all_eq_true]
  exact ⟨fun c hc => by have := h c hc; simp [slotOk]; omega, by simp; omega⟩

end Go.Am

namespace Go.Am
open Go Go.Proofs
set_option linter.unusedVariables false

theorem follows_del {m : Msg} (h : followsN m = true) (hr : m.rep = false) (k : m.kind = 2) : m.code = 0 ∧ m.sp = [] ∧ 1 ≤ m.old.length ∧ m.cnt = m.old.length := by
  by_cases hc : m.code = 0
  · simp [followsN, hc, k] at h
    exact ⟨hc, h.1, h.2.1, h.2.2⟩
  · simp [followsN, hc, hr] at h
theorem follows_mov {m : Msg} (h : followsN m = true) (hr : m.rep = false) (k : m.kind = 3) : m.code = 0 ∧ 1 ≤ m.old.length ∧ m.cnt = m.old.length ∧ m.old.length ≤ m.sp.length := by
  by_cases hc : m.code = 0
  · simp [followsN, hc, k, hr] at h
    exact ⟨hc, h.1.1, h.1.2, by omega⟩
  · simp [followsN, hc, hr] at h
def noEnd : End := ⟨0, 0, 0, [], false, 0, noMsg, false, noMsg, noMsg⟩
def doneN (e : End) (m : Msg) (cl : List Cell) (c : Int) (sp old : List Spot) : End × Msg × Int := knownN { e with num := nextN e.num, cl := cl } m (acceptN m c sp old).1
def noN (e : End) (m : Msg) (c : Int) : End × Msg × Int := (e, (refuseN m c).1, 0)
def tailN (e : End) (m : Msg) (us : List Spot) : End × Msg × Int :=
  if m.kind = 1 then if us = [] then noN e m 2 else doneN e m (movedN e [] us false) us.length us []
  else if m.kind = 3 then if us = [] ∨ listensN e.cl m.old = false then noN e m 2 else doneN e m (movedN e (m.old.take us.length) us false) us.length us (m.old.take us.length)
  else if m.kind = 2 then if listensN e.cl m.old = false then noN e m 2 else doneN e m (movedN e m.old [] false) m.cnt [] m.old
  else if m.kind = 5 then doneN e m e.cl e.cl.length ((e.cl.take 8).map placeC) []
  else doneN e m e.cl e.cl.length [] []
def receiveN (e : End) (t : Tab) (f : List Int) (m : Msg) : End × Msg × Int :=
  if (fullN t e).2 ≠ 0 then (noEnd, noMsg, (fullN t e).2)
  else if msgErr m ≠ 0 ∨ m.rep = true then (noEnd, noMsg, 11)
  else if m.kind = 6 then knownN ⟨e.nd, e.pr, 0, [], false, 0, noMsg, false, noMsg, noMsg⟩ m (acceptN m 0 [] []).1
  else if e.kn = true ∧ e.lst = m then (e, e.rp, 0)
  else if e.opn = true then noN e m 3
  else if m.num ≠ e.num then noN e m 1
  else tailN e m (usableN (fullN t e).1 f m.sp m.cnt)
theorem noMsg_ok : okM noMsg := ⟨by decide, by decide⟩
theorem acceptN_ok {m : Msg} {c : Int} {sp old : List Spot} (h1 : sp.length ≤ 100000) (h2 : old.length ≤ 100000) : okM (acceptN m c sp old).1 := by
  unfold acceptN
  split
  · exact noMsg_ok
  · split
    · exact ⟨h1, h2⟩
    · exact noMsg_ok
theorem known_ok {e : End} {m r : Msg} (he : okE e) (hm : okM m) (hr : okM r) : okE (knownN e m r).1 := ⟨he.1, he.2.1, hm, hr⟩
/-! ### The ways out of the program's function -/
theorem L28_27 (x1 : Int) (x2 : Int) (x3 : Int) (x4 : Bool) (x5 : Int) (x6 : Int) (x7 : Bool) (x8 : Int) (x9 : Int) (x10 : Int) (x11 : Bool) (x12 : Int) (x13 : Bool) (x14 : Int) (x15 : Int) (x16 : Int) (x17 : Int) (x18 : Bool) (x19 : Int) (x20 : Int) (x21 : Int) (x22 : Int) (x23 : Bool) (x24 : Int) (x25 : Int) (x26 : Int) (x27 : Int) (x28 : Int) (x29 : Int) (x30 : Bool) (x31 : Int) (x32 : Int) (x33 : Bool) (x34 : Int) (x35 : Int) (x36 : Int) (x37 : Bool) (x38 : Int) (x39 : Bool) (x40 : Int) (x41 : Int) (x42 : Int) (x43 : Int) (x44 : Bool) (x45 : Int) (x46 : Int) (x47 : Int) (m : Msg) (c : Int) (hm : okM m) : lv cd28 C28 (J28_27 m x1 x2 x3 x4 x5 x6 x7 x8 x9 x10 x11 x12 x13 x14 x15 x16 x17 x18 x19 x20 x21 x22 x23 x24 x25 x26 x27 x28 x29 x30 x31 x32 x33 x34 x35 x36 x37 x38 x39 x40 x41 x42 x43 x44 x45 x46 x47 m c) = some (knownN ⟨x27, x28, x29, [], x30, x31, ⟨x32, x33, x34, x35, x36, [], []⟩, x37, ⟨x38, x39, x40, x41, x42, [], []⟩, ⟨x43, x44, x45, x46, x47, [], []⟩⟩ m (acceptN m c [] []).1) := by
  have hE : okE ⟨x27, x28, x29, ([] : List Cell), x30, x31, (⟨x32, x33, x34, x35, x36, ([] : List Spot), ([] : List Spot)⟩ : Msg), true, m, (acceptN m c [] []).1⟩ := ⟨by simp, ⟨by simp, by simp⟩, hm, acceptN_ok (by simp) (by simp)⟩
  have h0 : ([] : List Spot).length ≤ 100000 := by simp
  rw [eJ28_27]
  simp only [tJ28_27, Tr.val, V107_eq _ _ _ _ hm h0 h0, F107_eq _ _ _ _ hm h0 h0, V99_eq _ hE, F99_eq _ hE, Option.isSome_some, condT]
  rfl
theorem L28_27_28_2 (x1 : Int) (x2 : Int) (x3 : Int) (x4 : Bool) (x5 : Int) (x6 : Int) (x7 : Bool) (x8 : Int) (x9 : Int) (x10 : Int) (x11 : Bool) (x12 : Int) (x13 : Bool) (x14 : Int) (x15 : Int) (x16 : Int) (x17 : Int) (x18 : Bool) (x19 : Int) (x20 : Int) (x21 : Int) (x22 : Int) (x23 : Bool) (x24 : Int) (x25 : Int) (x26 : Int) (m : Msg) (E : End) (c : Int) (hm : okM m) (hE : okE E) : lv cd28 C28 (J28_27_28_2 m x1 x2 x3 x4 x5 x6 x7 x8 x9 x10 x11 x12 x13 x14 x15 x16 x17 x18 x19 x20 x21 x22 x23 x24 x25 x26 E m c) = some (knownN E m (acceptN m c [] []).1) := by
  have h0 : ([] : List Spot).length ≤ 100000 := by simp
  have hX : okE ⟨E.nd, E.pr, E.num, E.cl, E.opn, E.snc, E.ask, true, m, (acceptN m c [] []).1⟩ := ⟨hE.1, hE.2.1, hm, acceptN_ok h0 h0⟩
  rw [eJ28_27_28_2]
  simp only [tJ28_27_28_2, Tr.val, V107_eq _ _ _ _ hm h0 h0, F107_eq _ _ _ _ hm h0 h0, V99_eq _ hX, F99_eq _ hX, Option.isSome_some, condT]
  rfl
theorem L28_27_28_3 (x1 : Int) (x2 : Int) (x3 : Int) (x4 : Bool) (x5 : Int) (x6 : Int) (x7 : Bool) (x8 : Int) (x9 : Int) (x10 : Int) (x11 : Bool) (x12 : Int) (x13 : Bool) (x14 : Int) (x15 : Int) (x16 : Int) (x17 : Int) (x18 : Bool) (x19 : Int) (x20 : Int) (x21 : Int) (x22 : Int) (x23 : Bool) (x24 : Int) (x25 : Int) (x26 : Int) (m : Msg) (E : End) (c : Int) (old : List Spot) (hm : okM m) (hE : okE E) (h2 : old.length ≤ 100000) : lv cd28 C28 (J28_27_28_3 m x1 x2 x3 x4 x5 x6 x7 x8 x9 x10 x11 x12 x13 x14 x15 x16 x17 x18 x19 x20 x21 x22 x23 x24 x25 x26 E m c old) = some (knownN E m (acceptN m c [] old).1) := by
  have h0 : ([] : List Spot).length ≤ 100000 := by simp
  have hX : okE ⟨E.nd, E.pr, E.num, E.cl, E.opn, E.snc, E.ask, true, m, (acceptN m c [] old).1⟩ := ⟨hE.1, hE.2.1, hm, acceptN_ok h0 h2⟩
  rw [eJ28_27_28_3]
  simp only [tJ28_27_28_3, Tr.val, V107_eq _ _ _ _ hm h0 h2, F107_eq _ _ _ _ hm h0 h2, V99_eq _ hX, F99_eq _ hX, Option.isSome_some, condT]
  rfl
theorem L28_27_28_4 (x1 : Int) (x2 : Int) (x3 : Int) (x4 : Bool) (x5 : Int) (x6 : Int) (x7 : Bool) (x8 : Int) (x9 : Int) (x10 : Int) (x11 : Bool) (x12 : Int) (x13 : Bool) (x14 : Int) (x15 : Int) (x16 : Int) (x17 : Int) (x18 : Bool) (x19 : Int) (x20 : Int) (x21 : Int) (x22 : Int) (x23 : Bool) (x24 : Int) (x25 : Int) (x26 : Int) (x29 : List Spot) (m : Msg) (E : End) (c : Int) (sp : List Spot) (hm : okM m) (hE : okE E) (h1 : sp.length ≤ 100000) : lv cd28 C28 (J28_27_28_4 m x1 x2 x3 x4 x5 x6 x7 x8 x9 x10 x11 x12 x13 x14 x15 x16 x17 x18 x19 x20 x21 x22 x23 x24 x25 x26 E m x29 c sp) = some (knownN E m (acceptN m c sp []).1) := by
  have h0 : ([] : List Spot).length ≤ 100000 := by simp
  have hX : okE ⟨E.nd, E.pr, E.num, E.cl, E.opn, E.snc, E.ask, true, m, (acceptN m c sp []).1⟩ := ⟨hE.1, hE.2.1, hm, acceptN_ok h1 h0⟩
  rw [eJ28_27_28_4]
  simp only [tJ28_27_28_4, Tr.val, V107_eq _ _ _ _ hm h1 h0, F107_eq _ _ _ _ hm h1 h0, V99_eq _ hX, F99_eq _ hX, Option.isSome_some, condT]
  rfl
theorem L28_27_28_5 (x1 : Int) (x2 : Int) (x3 : Int) (x4 : Bool) (x5 : Int) (x6 : Int) (x7 : Bool) (x8 : Int) (x9 : Int) (x10 : Int) (x11 : Bool) (x12 : Int) (x13 : Bool) (x14 : Int) (x15 : Int) (x16 : Int) (x17 : Int) (x18 : Bool) (x19 : Int) (x20 : Int) (x21 : Int) (x22 : Int) (x23 : Bool) (x24 : Int) (x25 : Int) (x26 : Int) (x29 : List Spot) (m : Msg) (E : End) (c : Int) (hm : okM m) (hE : okE E) : lv cd28 C28 (J28_27_28_5 m x1 x2 x3 x4 x5 x6 x7 x8 x9 x10 x11 x12 x13 x14 x15 x16 x17 x18 x19 x20 x21 x22 x23 x24 x25 x26 E m x29 c) = some (knownN E m (acceptN m c [] []).1) := by
  have h0 : ([] : List Spot).length ≤ 100000 := by simp
  have hX : okE ⟨E.nd, E.pr, E.num, E.cl, E.opn, E.snc, E.ask, true, m, (acceptN m c [] []).1⟩ := ⟨hE.1, hE.2.1, hm, acceptN_ok h0 h0⟩
  rw [eJ28_27_28_5]
  simp only [tJ28_27_28_5, Tr.val, V107_eq _ _ _ _ hm h0 h0, F107_eq _ _ _ _ hm h0 h0, V99_eq _ hX, F99_eq _ hX, Option.isSome_some, condT]
  rfl
theorem L28_27_28_7 (x1 : Int) (x2 : Int) (x3 : Int) (x4 : Bool) (x5 : Int) (x6 : Int) (x7 : Bool) (x8 : Int) (x9 : Int) (x10 : Int) (x11 : Bool) (x12 : Int) (x13 : Bool) (x14 : Int) (x15 : Int) (x16 : Int) (x17 : Int) (x18 : Bool) (x19 : Int) (x20 : Int) (x21 : Int) (x22 : Int) (x23 : Bool) (x24 : Int) (x25 : Int) (x26 : Int) (m : Msg) (E : End) (c : Int) (sp : List Spot) (hm : okM m) (hE : okE E) (h1 : sp.length ≤ 100000) : lv cd28 C28 (J28_27_28_7 m x1 x2 x3 x4 x5 x6 x7 x8 x9 x10 x11 x12 x13 x14 x15 x16 x17 x18 x19 x20 x21 x22 x23 x24 x25 x26 E m c sp) = some (knownN E m (acceptN m c sp []).1) := by
  have h0 : ([] : List Spot).length ≤ 100000 := by simp
  have hX : okE ⟨E.nd, E.pr, E.num, E.cl, E.opn, E.snc, E.ask, true, m, (acceptN m c sp []).1⟩ := ⟨hE.1, hE.2.1, hm, acceptN_ok h1 h0⟩
  rw [eJ28_27_28_7]
  simp only [tJ28_27_28_7, Tr.val, V107_eq _ _ _ _ hm h1 h0, F107_eq _ _ _ _ hm h1 h0, V99_eq _ hX, F99_eq _ hX, Option.isSome_some, condT]
  rfl
theorem L28_27_28_8 (x1 : Int) (x2 : Int) (x3 : Int) (x4 : Bool) (x5 : Int) (x6 : Int) (x7 : Bool) (x8 : Int) (x9 : Int) (x10 : Int) (x11 : Bool) (x12 : Int) (x13 : Bool) (x14 : Int) (x15 : Int) (x16 : Int) (x17 : Int) (x18 : Bool) (x19 : Int) (x20 : Int) (x21 : Int) (x22 : Int) (x23 : Bool) (x24 : Int) (x25 : Int) (x26 : Int) (x29 : List Spot) (m : Msg) (E : End) (c : Int) (old : List Spot) (hm : okM m) (hE : okE E) (h2 : old.length ≤ 100000) : lv cd28 C28 (J28_27_28_8 m x1 x2 x3 x4 x5 x6 x7 x8 x9 x10 x11 x12 x13 x14 x15 x16 x17 x18 x19 x20 x21 x22 x23 x24 x25 x26 E m x29 c old) = some (knownN E m (acceptN m c [] old).1) := by
  have h0 : ([] : List Spot).length ≤ 100000 := by simp
  have hX : okE ⟨E.nd, E.pr, E.num, E.cl, E.opn, E.snc, E.ask, true, m, (acceptN m c [] old).1⟩ := ⟨hE.1, hE.2.1, hm, acceptN_ok h0 h2⟩
  rw [eJ28_27_28_8]
  simp only [tJ28_27_28_8, Tr.val, V107_eq _ _ _ _ hm h0 h2, F107_eq _ _ _ _ hm h0 h2, V99_eq _ hX, F99_eq _ hX, Option.isSome_some, condT]
  rfl
theorem L28_27_28_9 (x1 : Int) (x2 : Int) (x3 : Int) (x4 : Bool) (x5 : Int) (x6 : Int) (x7 : Bool) (x8 : Int) (x9 : Int) (x10 : Int) (x11 : Bool) (x12 : Int) (x13 : Bool) (x14 : Int) (x15 : Int) (x16 : Int) (x17 : Int) (x18 : Bool) (x19 : Int) (x20 : Int) (x21 : Int) (x22 : Int) (x23 : Bool) (x24 : Int) (x25 : Int) (x26 : Int) (x29 : List Spot) (m : Msg) (E : End) (c : Int) (sp : List Spot) (old : List Spot) (hm : okM m) (hE : okE E) (h1 : sp.length ≤ 100000) (h2 : old.length ≤ 100000) : lv cd28 C28 (J28_27_28_9 m x1 x2 x3 x4 x5 x6 x7 x8 x9 x10 x11 x12 x13 x14 x15 x16 x17 x18 x19 x20 x21 x22 x23 x24 x25 x26 E m x29 c sp old) = some (knownN E m (acceptN m c sp old).1) := by
  have h0 : ([] : List Spot).length ≤ 100000 := by simp
  have hX : okE ⟨E.nd, E.pr, E.num, E.cl, E.opn, E.snc, E.ask, true, m, (acceptN m c sp old).1⟩ := ⟨hE.1, hE.2.1, hm, acceptN_ok h1 h2⟩
  rw [eJ28_27_28_9]
  simp only [tJ28_27_28_9, Tr.val, V107_eq _ _ _ _ hm h1 h2, F107_eq _ _ _ _ hm h1 h2, V99_eq _ hX, F99_eq _ hX, Option.isSome_some, condT]
  rfl
theorem L28_27_28_10 (x1 : Int) (x2 : Int) (x3 : Int) (x4 : Bool) (x5 : Int) (x6 : Int) (x7 : Bool) (x8 : Int) (x9 : Int) (x10 : Int) (x11 : Bool) (x12 : Int) (x13 : Bool) (x14 : Int) (x15 : Int) (x16 : Int) (x17 : Int) (x18 : Bool) (x19 : Int) (x20 : Int) (x21 : Int) (x22 : Int) (x23 : Bool) (x24 : Int) (x25 : Int) (x26 : Int) (x29 : List Spot) (m : Msg) (E : End) (c : Int) (sp : List Spot) (hm : okM m) (hE : okE E) (h1 : sp.length ≤ 100000) : lv cd28 C28 (J28_27_28_10 m x1 x2 x3 x4 x5 x6 x7 x8 x9 x10 x11 x12 x13 x14 x15 x16 x17 x18 x19 x20 x21 x22 x23 x24 x25 x26 E m x29 c sp) = some (knownN E m (acceptN m c sp []).1) := by
  have h0 : ([] : List Spot).length ≤ 100000 := by simp
  have hX : okE ⟨E.nd, E.pr, E.num, E.cl, E.opn, E.snc, E.ask, true, m, (acceptN m c sp []).1⟩ := ⟨hE.1, hE.2.1, hm, acceptN_ok h1 h0⟩
  rw [eJ28_27_28_10]
  simp only [tJ28_27_28_10, Tr.val, V107_eq _ _ _ _ hm h1 h0, F107_eq _ _ _ _ hm h1 h0, V99_eq _ hX, F99_eq _ hX, Option.isSome_some, condT]
  rfl
/-- What the program's function may lean on behind its checks. -/
structure Rcv (e : End) (m : Msg) : Prop where
  okE : okE e
  len : e.cl.length ≤ 512
  asc : ascK e.cl
  slots : ∀ c ∈ e.cl, 0 ≤ c.slot ∧ c.slot ≤ 511
  msg : msgErr m = 0
  req : m.rep = false
/-- Places that may be given. -/
structure Giv (e : End) (m : Msg) (l : List Spot) : Prop where
  sub : l.Sublist m.sp
  free : ∀ s ∈ l, slotIn e.cl s.sslot = false
theorem Rcv.okM {e : End} {m : Msg} (h : Rcv e m) : Am.okM m := by
  obtain ⟨_, _, h1, _⟩ := msgErr_zero h.msg
  exact ⟨by omega, by omega⟩
theorem Giv.len {e : End} {m : Msg} {l : List Spot} (g : Giv e m l) (h : Rcv e m) : l.length ≤ 8 := by
  obtain ⟨_, _, h1, _⟩ := msgErr_zero h.msg
  have := g.sub.length_le
  omega
theorem Giv.take {e : End} {m : Msg} {l : List Spot} (g : Giv e m l) (n : Nat) : Giv e m (l.take n) :=
  ⟨(List.take_sublist n l).trans g.sub, fun s hs => g.free s (List.mem_of_mem_take hs)⟩
theorem Giv.nil {e : End} {m : Msg} : Giv e m [] := ⟨List.nil_sublist _, fun s hs => by cases hs⟩
theorem V120_rcv {e : End} {m : Msg} {l old : List Spot} (h : Rcv e m) (g : Giv e m l) (ho : ∀ s ∈ old, hasN e.cl s false = true) (hol : old.length ≤ 100000) : V120 e old l false = some { e with cl := movedN e old l false } := by
  obtain ⟨_, _, h1, h2, _, _⟩ := msgErr_zero h.msg
  obtain ⟨h3, h4⟩ := spotsErr_zero h2
  have hl := g.len h
  have hP : P196 (restC old e.cl ++ l.map (newC e.pr false)) = true := by
    refine P196_of (fun c hc => ?_) ?_
    · rcases List.mem_append.1 hc with hc | hc
      · have := h.slots c (List.mem_filter.1 hc).1; omega
      · obtain ⟨s, hs, rfl⟩ := List.mem_map.1 hc
        have := h3 s (g.sub.subset hs)
        unfold spotIn at this
        show 0 ≤ s.sslot ∧ s.sslot ≤ 1000000
        omega
    · have := List.length_filter_le (fun c => !decide (placeC c ∈ old)) e.cl
      have hlen := h.len
      simp only [List.length_append, List.length_map, restC]
      omega
  have hlen := h.len
  rw [V120_eq e old l false (by omega) hol (by omega) hP, changeN, change_moved h.asc ho (h4.sublist g.sub) g.free hP]
theorem F120_rcv {e : End} {m : Msg} {l old : List Spot} (h : Rcv e m) (g : Giv e m l) (ho : ∀ s ∈ old, hasN e.cl s false = true) (hol : old.length ≤ 100000) : F120 e old l false = { e with cl := movedN e old l false } := getD_of (V120_rcv h g ho hol)
theorem puts_len (pr : Int) (b : Bool) : ∀ (sp : List Spot) (l : List Cell), (sp.foldl (fun l s => insC l (newC pr b s)) l).length = l.length + sp.length
  | [], l => by simp
  | s :: sp, l => by rw [List.foldl_cons, puts_len pr b sp, insC_len]; simp; omega
theorem movedN_len (e : End) (old sp : List Spot) (b : Bool) : (movedN e old sp b).length ≤ e.cl.length + sp.length := by
  unfold movedN
  rw [puts_len]
  have := List.length_filter_le (fun c => !(c.send == b) || !decide (placeC c ∈ old)) e.cl
  unfold restB
  omega
theorem okE_moved {e : End} {m : Msg} (h : Rcv e m) {n : Int} {cl : List Cell} (hcl : cl.length ≤ 1000) : okE { e with num := n, cl := cl } := ⟨by show cl.length ≤ 100000; omega, h.okE.2⟩
/-! ### A list of places -/
theorem L28_106_1 (x3 : List Int) (x4 : List Spot) (x5 : Int) (x6 : Int) (x7 : Bool) (x8 : Int) (x11 : Int) (x12 : Int) (x13 : Int) (x14 : Bool) (x15 : Int) (x16 : Int) (x17 : Bool) (x18 : Int) (x19 : Int) (x20 : Int) (x21 : Bool) (x22 : Int) (x23 : Bool) (x24 : Int) (x25 : Int) (x26 : Int) (x27 : Int) (x28 : Bool) (x29 : Int) (x30 : Int) (x31 : Int) (x32 : Int) (x33 : Bool) (x34 : Int) (x35 : Int) (x36 : Int) (x37 : Tab) (x40 : Int) (cl : List Cell) (e : End) (m : Msg) (h : Rcv e m) (hcl : cl.length ≤ 1000) : ∀ (k i : Nat) (acc : List Spot), i + k = cl.length → acc.length ≤ i →
    lv cd28 C28 (J28_2_106_1 cl ((cl.length : Int)) (((i : Nat) : Int)) x3 x4 x5 x6 x7 x8 e m x11 x12 x13 x14 x15 x16 x17 x18 x19 x20 x21 x22 x23 x24 x25 x26 x27 x28 x29 x30 x31 x32 x33 x34 x35 x36 x37 e m x40 acc) = some (doneN e m e.cl e.cl.length (acc ++ (cl.drop i).map placeC) []) := by
  intro k
  induction k with
  | zero =>
    intro i acc hi ha
    simp at hi
    subst hi
    rw [eJ28_2_106_1]
    have hacc : acc.length ≤ 100000 := by omega
    simp only [tJ28_2_106_1, Tr.val, V41_eq, F41_eq, Int.lt_irrefl, decide_false, condF, Option.isSome_some, condT]
    have hlen := h.len
    rw [L28_27_28_7 (hm := h.okM) (hE := okE_moved h (by omega)) (h1 := hacc), List.drop_length]
    simp [doneN]
  | succ k ih =>
    intro i acc hi ha
    have hil : i < cl.length := by omega
    have h1 : (i : Int) < (cl.length : Int) := by omega
    have h2 : ib (i : Int) cl = true := ib_nat hil
    have h3 := inR_ok (n := (i : Int) + 1) (by omega) (by omega)
    have h4 : nth .cell cl i = cl.getD i default := nth_getD (st := .cell) cl i
    have h5 : il acc ([placeC (cl.getD i default)] : List Spot) 16 = true := il_le (by omega) (by simp) (by omega)
    rw [eJ28_2_106_1]
    simp only [tJ28_2_106_1, Tr.val, h1, h2, h3, h4, h5, V186_eq, F186_eq, Option.isSome_some, decide_true, condT]
    have := ih (i + 1) (acc ++ [placeC (cl.getD i default)]) (by omega) (by simp; omega)
    rw [show ((i + 1 : Nat) : Int) = (i : Int) + 1 by omega] at this
    rw [this, getD_drop hil, List.map_cons]
    simp
theorem L28_106_0 (x3 : List Int) (x4 : List Spot) (x5 : Int) (x6 : Int) (x7 : Bool) (x8 : Int) (x11 : Int) (x12 : Int) (x13 : Int) (x14 : Bool) (x15 : Int) (x16 : Int) (x17 : Bool) (x18 : Int) (x19 : Int) (x20 : Int) (x21 : Bool) (x22 : Int) (x23 : Bool) (x24 : Int) (x25 : Int) (x26 : Int) (x27 : Int) (x28 : Bool) (x29 : Int) (x30 : Int) (x31 : Int) (x32 : Int) (x33 : Bool) (x34 : Int) (x35 : Int) (x36 : Int) (x37 : Tab) (x40 : Int) (cl : List Cell) (e : End) (m : Msg) (h : Rcv e m) (hcl : cl.length ≤ 1000) :
    lv cd28 C28 (J28_2_106_0 cl ((cl.length : Int)) 0 x3 x4 x5 x6 x7 x8 e m x11 x12 x13 x14 x15 x16 x17 x18 x19 x20 x21 x22 x23 x24 x25 x26 x27 x28 x29 x30 x31 x32 x33 x34 x35 x36 x37 e m x40) = some (doneN e m e.cl e.cl.length (cl.map placeC) []) := by
  cases cl with
  | nil =>
    rw [eJ28_2_106_0]
    have hlen := h.len
    simp only [tJ28_2_106_0, Tr.val, V41_eq, F41_eq, List.length_nil, Int.natCast_zero, Int.lt_irrefl, decide_false, condF, Option.isSome_some, condT]
    rw [L28_27_28_2 (hm := h.okM) (hE := okE_moved h (by omega))]
    rfl
  | cons c cl =>
    have h1 : (0 : Int) < ((c :: cl).length : Int) := by simp only [List.length_cons]; omega
    have h2 : ib 0 (c :: cl) = true := ib_nat (i := 0) (by simp)
    have h3 : inR .i64 ((0 : Int) + 1) = true := by decide
    have h4 : nth .cell (c :: cl) 0 = c := rfl
    have h5 : il ([] : List Spot) ([placeC c] : List Spot) 16 = true := il_le (by simp) (by simp) (by omega)
    rw [eJ28_2_106_0]
    simp only [tJ28_2_106_0, Tr.val, h1, h2, h3, h4, h5, V186_eq, F186_eq, Option.isSome_some, decide_true, condT]
    have := fun (x3 : List Int) (x4 : List Spot) (x5 : Int) (x6 : Int) (x7 : Bool) (x8 : Int) (x11 : Int) (x12 : Int) (x13 : Int) (x14 : Bool) (x15 : Int) (x16 : Int) (x17 : Bool) (x18 : Int) (x19 : Int) (x20 : Int) (x21 : Bool) (x22 : Int) (x23 : Bool) (x24 : Int) (x25 : Int) (x26 : Int) (x27 : Int) (x28 : Bool) (x29 : Int) (x30 : Int) (x31 : Int) (x32 : Int) (x33 : Bool) (x34 : Int) (x35 : Int) (x36 : Int) (x37 : Tab) (x40 : Int) => L28_106_1 x3 x4 x5 x6 x7 x8 x11 x12 x13 x14 x15 x16 x17 x18 x19 x20 x21 x22 x23 x24 x25 x26 x27 x28 x29 x30 x31 x32 x33 x34 x35 x36 x37 x40 (c :: cl) e m h hcl cl.length 1 ([] ++ [placeC c]) (by simp; omega) (by simp)
    exact (this ..).trans (by simp)
theorem L28_106_3 (x3 : List Int) (x4 : List Spot) (x5 : Int) (x6 : Int) (x7 : Bool) (x8 : Int) (x11 : Int) (x12 : Int) (x13 : Int) (x14 : Bool) (x15 : Int) (x16 : Int) (x17 : Bool) (x18 : Int) (x19 : Int) (x20 : Int) (x21 : Bool) (x22 : Int) (x23 : Bool) (x24 : Int) (x25 : Int) (x26 : Int) (x27 : Int) (x28 : Bool) (x29 : Int) (x30 : Int) (x31 : Int) (x32 : Int) (x33 : Bool) (x34 : Int) (x35 : Int) (x36 : Int) (x37 : Tab) (x41 : Int) (cl : List Cell) (L : List Spot) (e : End) (m : Msg) (h : Rcv e m) (hcl : cl.length ≤ 1000) : ∀ (k i : Nat) (acc : List Spot), i + k = cl.length → acc.length ≤ i →
    lv cd28 C28 (J28_2_106_3 cl ((cl.length : Int)) (((i : Nat) : Int)) x3 x4 x5 x6 x7 x8 e m x11 x12 x13 x14 x15 x16 x17 x18 x19 x20 x21 x22 x23 x24 x25 x26 x27 x28 x29 x30 x31 x32 x33 x34 x35 x36 x37 e m L x41 acc) = some (doneN e m e.cl e.cl.length (acc ++ (cl.drop i).map placeC) []) := by
  intro k
  induction k with
  | zero =>
    intro i acc hi ha
    simp at hi
    subst hi
    rw [eJ28_2_106_3]
    have hacc : acc.length ≤ 100000 := by omega
    simp only [tJ28_2_106_3, Tr.val, V41_eq, F41_eq, Int.lt_irrefl, decide_false, condF, Option.isSome_some, condT]
    have hlen := h.len
    rw [L28_27_28_10 (hm := h.okM) (hE := okE_moved h (by omega)) (h1 := hacc), List.drop_length]
    simp [doneN]
  | succ k ih =>
    intro i acc hi ha
    have hil : i < cl.length := by omega
    have h1 : (i : Int) < (cl.length : Int) := by omega
    have h2 : ib (i : Int) cl = true := ib_nat hil
    have h3 := inR_ok (n := (i : Int) + 1) (by omega) (by omega)
    have h4 : nth .cell cl i = cl.getD i default := nth_getD (st := .cell) cl i
    have h5 : il acc ([placeC (cl.getD i default)] : List Spot) 16 = true := il_le (by omega) (by simp) (by omega)
    rw [eJ28_2_106_3]
    simp only [tJ28_2_106_3, Tr.val, h1, h2, h3, h4, h5, V186_eq, F186_eq, Option.isSome_some, decide_true, condT]
    have := ih (i + 1) (acc ++ [placeC (cl.getD i default)]) (by omega) (by simp; omega)
    rw [show ((i + 1 : Nat) : Int) = (i : Int) + 1 by omega] at this
    rw [this, getD_drop hil, List.map_cons]
    simp
theorem L28_106_2 (x3 : List Int) (x4 : List Spot) (x5 : Int) (x6 : Int) (x7 : Bool) (x8 : Int) (x11 : Int) (x12 : Int) (x13 : Int) (x14 : Bool) (x15 : Int) (x16 : Int) (x17 : Bool) (x18 : Int) (x19 : Int) (x20 : Int) (x21 : Bool) (x22 : Int) (x23 : Bool) (x24 : Int) (x25 : Int) (x26 : Int) (x27 : Int) (x28 : Bool) (x29 : Int) (x30 : Int) (x31 : Int) (x32 : Int) (x33 : Bool) (x34 : Int) (x35 : Int) (x36 : Int) (x37 : Tab) (x41 : Int) (cl : List Cell) (L : List Spot) (e : End) (m : Msg) (h : Rcv e m) (hcl : cl.length ≤ 1000) :
    lv cd28 C28 (J28_2_106_2 cl ((cl.length : Int)) 0 x3 x4 x5 x6 x7 x8 e m x11 x12 x13 x14 x15 x16 x17 x18 x19 x20 x21 x22 x23 x24 x25 x26 x27 x28 x29 x30 x31 x32 x33 x34 x35 x36 x37 e m L x41) = some (doneN e m e.cl e.cl.length (cl.map placeC) []) := by
  cases cl with
  | nil =>
    rw [eJ28_2_106_2]
    have hlen := h.len
    simp only [tJ28_2_106_2, Tr.val, V41_eq, F41_eq, List.length_nil, Int.natCast_zero, Int.lt_irrefl, decide_false, condF, Option.isSome_some, condT]
    rw [L28_27_28_5 (hm := h.okM) (hE := okE_moved h (by omega))]
    rfl
  | cons c cl =>
    have h1 : (0 : Int) < ((c :: cl).length : Int) := by simp only [List.length_cons]; omega
    have h2 : ib 0 (c :: cl) = true := ib_nat (i := 0) (by simp)
    have h3 : inR .i64 ((0 : Int) + 1) = true := by decide
    have h4 : nth .cell (c :: cl) 0 = c := rfl
    have h5 : il ([] : List Spot) ([placeC c] : List Spot) 16 = true := il_le (by simp) (by simp) (by omega)
    rw [eJ28_2_106_2]
    simp only [tJ28_2_106_2, Tr.val, h1, h2, h3, h4, h5, V186_eq, F186_eq, Option.isSome_some, decide_true, condT]
    have := fun (x3 : List Int) (x4 : List Spot) (x5 : Int) (x6 : Int) (x7 : Bool) (x8 : Int) (x11 : Int) (x12 : Int) (x13 : Int) (x14 : Bool) (x15 : Int) (x16 : Int) (x17 : Bool) (x18 : Int) (x19 : Int) (x20 : Int) (x21 : Bool) (x22 : Int) (x23 : Bool) (x24 : Int) (x25 : Int) (x26 : Int) (x27 : Int) (x28 : Bool) (x29 : Int) (x30 : Int) (x31 : Int) (x32 : Int) (x33 : Bool) (x34 : Int) (x35 : Int) (x36 : Int) (x37 : Tab) (x41 : Int) => L28_106_3 x3 x4 x5 x6 x7 x8 x11 x12 x13 x14 x15 x16 x17 x18 x19 x20 x21 x22 x23 x24 x25 x26 x27 x28 x29 x30 x31 x32 x33 x34 x35 x36 x37 x41 (c :: cl) L e m h hcl cl.length 1 ([] ++ [placeC c]) (by simp; omega) (by simp)
    exact (this ..).trans (by simp)
theorem fits_free {t : Tab} {f : List Int} {s : Spot} (h : fitsN t f s = true) : slotIn t.cl s.sslot = false := by
  unfold fitsN at h
  split at h
  · cases h
  · simp only [Bool.and_eq_true, Bool.not_eq_true'] at h
    exact h.2
theorem full_free {t : Tab} {e : End} (h : (fullN t e).2 = 0) {s : Int} (hs : slotIn (fullN t e).1.cl s = false) : slotIn e.cl s = false := by
  obtain ⟨_, _, _, _, hf⟩ := fullN_ok h
  cases hb : slotIn e.cl s
  · rfl
  · obtain ⟨c, hc, he⟩ := slotIn_iff.1 hb
    rw [slotIn_iff.2 ⟨c, (fold_mem hf c).2 (.inl hc), he⟩] at hs
    cases hs
theorem giv_fits {t : Tab} {e : End} {m : Msg} {f : List Int} (h : (fullN t e).2 = 0) : Giv e m (m.sp.filter (fitsN (fullN t e).1 f)) :=
  ⟨List.filter_sublist, fun s hs => full_free h (fits_free (List.mem_filter.1 hs).2)⟩
theorem full_len {t : Tab} {e : End} : (fullN t e).1.cl.length ≤ t.cl.length + e.cl.length := by
  unfold fullN
  split
  · simp [noTab]
  · have aux : ∀ (l : List Cell) (t u : Tab), l.foldlM addOk t = some u → u.cl.length ≤ t.cl.length + l.length := by
      intro l
      induction l with
      | nil => intro t u h; simp at h; subst h; simp
      | cons c l ih =>
        intro t u h
        rw [List.foldlM_cons] at h
        obtain ⟨v, h1, h2⟩ := Option.bind_eq_some_iff.1 h
        have := ih v u h2
        obtain ⟨rfl, _⟩ := addOk_some h1
        simp only [insC_len] at this
        simp only [List.length_cons]
        omega
    cases hf : e.cl.foldlM addOk t with
    | none => simp [noTab]
    | some u => exact aux _ _ _ hf
theorem rcv_of {t : Tab} {e : End} {m : Msg} (h : okE e) (hl : e.cl.length ≤ 512) (hf : (fullN t e).2 = 0) (hm : msgErr m = 0) (hr : m.rep = false) : Rcv e m := by
  obtain ⟨h1, _⟩ := fullN_ok hf
  obtain ⟨_, _, _, _, _, h2, _, _⟩ := endErr_zero h1
  obtain ⟨h3, _⟩ := endCells_ok h2
  obtain ⟨h4, h5⟩ := cellsOk_iff.1 h3
  exact ⟨h, hl, ⟨h5, fun c hc => (h4 c hc).1⟩, fun c hc => (h4 c hc).2.2.2.1, hm, hr⟩

end Go.Am

namespace Go.Am
open Go Go.Proofs
set_option linter.unusedVariables false

theorem noN_val {e : End} {m : Msg} (h : Rcv e m) (c : Int) : V98 m c = some (refuseN m c) ∧ F98 m c = refuseN m c ∧ V99 e = some e ∧ F99 e = e := ⟨V98_eq m c h.okM, F98_eq m c h.okM, V99_eq e h.okE, F99_eq e h.okE⟩
theorem L28_del_0 (x9 : List Int) (x10 : List Spot) (x11 : Int) (x12 : Int) (x13 : Bool) (x14 : Int) (x17 : Int) (x18 : Int) (x19 : Int) (x20 : Bool) (x21 : Int) (x22 : Int) (x23 : Bool) (x24 : Int) (x25 : Int) (x26 : Int) (x27 : Bool) (x28 : Int) (x29 : Bool) (x30 : Int) (x31 : Int) (x32 : Int) (x33 : Int) (x34 : Bool) (x35 : Int) (x36 : Int) (x37 : Int) (x38 : Int) (x39 : Bool) (x40 : Int) (x41 : Int) (x42 : Int) (x43 : Tab) (x46 : Int) (e : End) (m : Msg) (h : Rcv e m) : lv cd28 C28 (J28_2_218_0 m.old ((m.old.length : Int)) 0 m.old false m.old false m.old false x9 x10 x11 x12 x13 x14 e m x17 x18 x19 x20 x21 x22 x23 x24 x25 x26 x27 x28 x29 x30 x31 x32 x33 x34 x35 x36 x37 x38 x39 x40 x41 x42 x43 e m x46) = some (if listensN e.cl m.old = false then noN e m 2 else doneN e m (movedN e m.old [] false) m.cnt [] m.old) := by
  obtain ⟨q1, q2, q3, q4⟩ := noN_val h 2
  have hmo := h.okM.2
  have hl := h.okE.1
  have step : ∀ i, i < m.old.length → lv cd28 C28 (J28_2_218_0 m.old ((m.old.length : Int)) (((i : Nat) : Int)) m.old false m.old false m.old false x9 x10 x11 x12 x13 x14 e m x17 x18 x19 x20 x21 x22 x23 x24 x25 x26 x27 x28 x29 x30 x31 x32 x33 x34 x35 x36 x37 x38 x39 x40 x41 x42 x43 e m x46) = bif hasN e.cl (m.old.getD i default) false then lv cd28 C28 (J28_2_218_0 m.old ((m.old.length : Int)) (((i + 1 : Nat) : Int)) m.old false m.old false m.old false x9 x10 x11 x12 x13 x14 e m x17 x18 x19 x20 x21 x22 x23 x24 x25 x26 x27 x28 x29 x30 x31 x32 x33 x34 x35 x36 x37 x38 x39 x40 x41 x42 x43 e m x46) else some (noN e m 2) := by
    intro i hi
    have h1 : (i : Int) < (m.old.length : Int) := by omega
    have h2 := ib_nat hi
    have h3 := inR_ok (n := (i : Int) + 1) (by omega) (by omega)
    have h4 : nth .spot m.old i = m.old.getD i default := nth_getD (st := .spot) m.old i
    have h5 : (0 : Int) ≤ i := by omega
    rw [eJ28_2_218_0, show ((i + 1 : Nat) : Int) = (i : Int) + 1 by omega]
    simp only [tJ28_2_218_0, Tr.val, h1, h2, h3, h4, h5, q1, q2, q3, q4, V160_eq _ _ _ hl, F160_eq _ _ _ hl, Option.isSome_some, decide_true, condT, Bool.cond_not, noN]
  have hall := all_list0 (J := fun i => lv cd28 C28 (J28_2_218_0 m.old ((m.old.length : Int)) (((i : Nat) : Int)) m.old false m.old false m.old false x9 x10 x11 x12 x13 x14 e m x17 x18 x19 x20 x21 x22 x23 x24 x25 x26 x27 x28 x29 x30 x31 x32 x33 x34 x35 x36 x37 x38 x39 x40 x41 x42 x43 e m x46)) (p := fun s => hasN e.cl s false) step
  have hall : lv cd28 C28 (J28_2_218_0 m.old ((m.old.length : Int)) 0 m.old false m.old false m.old false x9 x10 x11 x12 x13 x14 e m x17 x18 x19 x20 x21 x22 x23 x24 x25 x26 x27 x28 x29 x30 x31 x32 x33 x34 x35 x36 x37 x38 x39 x40 x41 x42 x43 e m x46) = _ := hall
  rw [hall]
  cases hb : m.old.all fun s => hasN e.cl s false with
  | false => rw [if_pos (show listensN e.cl m.old = false from hb)]; rfl
  | true =>
    rw [if_neg (show ¬ listensN e.cl m.old = false by unfold listensN; rw [hb]; simp)]
    have ho : ∀ s ∈ m.old, hasN e.cl s false = true := by simpa [List.all_eq_true] using hb
    simp only [condT]
    rw [eJ28_2_218_0]
    simp only [tJ28_2_218_0, Tr.val, Int.lt_irrefl, decide_false, condF, V120_rcv h (Giv.nil (e := e) (m := m)) ho hmo, F120_rcv h (Giv.nil (e := e) (m := m)) ho hmo, V41_eq, F41_eq, Option.isSome_some, condT]
    have hlen := h.len
    have hml := movedN_len e m.old [] false
    rw [L28_27_28_3 (hm := h.okM) (hE := okE_moved h (by simp at hml; omega)) (h2 := hmo)]
    rfl
theorem L28_del_2 (x9 : List Int) (x10 : List Spot) (x11 : Int) (x12 : Int) (x13 : Bool) (x14 : Int) (x17 : Int) (x18 : Int) (x19 : Int) (x20 : Bool) (x21 : Int) (x22 : Int) (x23 : Bool) (x24 : Int) (x25 : Int) (x26 : Int) (x27 : Bool) (x28 : Int) (x29 : Bool) (x30 : Int) (x31 : Int) (x32 : Int) (x33 : Int) (x34 : Bool) (x35 : Int) (x36 : Int) (x37 : Int) (x38 : Int) (x39 : Bool) (x40 : Int) (x41 : Int) (x42 : Int) (x43 : Tab) (x47 : Int) (e : End) (m : Msg) (L : List Spot) (h : Rcv e m) : lv cd28 C28 (J28_2_218_2 m.old ((m.old.length : Int)) 0 m.old false m.old false m.old false x9 x10 x11 x12 x13 x14 e m x17 x18 x19 x20 x21 x22 x23 x24 x25 x26 x27 x28 x29 x30 x31 x32 x33 x34 x35 x36 x37 x38 x39 x40 x41 x42 x43 e m L x47) = some (if listensN e.cl m.old = false then noN e m 2 else doneN e m (movedN e m.old [] false) m.cnt [] m.old) := by
  obtain ⟨q1, q2, q3, q4⟩ := noN_val h 2
  have hmo := h.okM.2
  have hl := h.okE.1
  have step : ∀ i, i < m.old.length → lv cd28 C28 (J28_2_218_2 m.old ((m.old.length : Int)) (((i : Nat) : Int)) m.old false m.old false m.old false x9 x10 x11 x12 x13 x14 e m x17 x18 x19 x20 x21 x22 x23 x24 x25 x26 x27 x28 x29 x30 x31 x32 x33 x34 x35 x36 x37 x38 x39 x40 x41 x42 x43 e m L x47) = bif hasN e.cl (m.old.getD i default) false then lv cd28 C28 (J28_2_218_2 m.old ((m.old.length : Int)) (((i + 1 : Nat) : Int)) m.old false m.old false m.old false x9 x10 x11 x12 x13 x14 e m x17 x18 x19 x20 x21 x22 x23 x24 x25 x26 x27 x28 x29 x30 x31 x32 x33 x34 x35 x36 x37 x38 x39 x40 x41 x42 x43 e m L x47) else some (noN e m 2) := by
    intro i hi
    have h1 : (i : Int) < (m.old.length : Int) := by omega
    have h2 := ib_nat hi
    have h3 := inR_ok (n := (i : Int) + 1) (by omega) (by omega)
    have h4 : nth .spot m.old i = m.old.getD i default := nth_getD (st := .spot) m.old i
    have h5 : (0 : Int) ≤ i := by omega
    rw [eJ28_2_218_2, show ((i + 1 : Nat) : Int) = (i : Int) + 1 by omega]
    simp only [tJ28_2_218_2, Tr.val, h1, h2, h3, h4, h5, q1, q2, q3, q4, V160_eq _ _ _ hl, F160_eq _ _ _ hl, Option.isSome_some, decide_true, condT, Bool.cond_not, noN]
  have hall := all_list0 (J := fun i => lv cd28 C28 (J28_2_218_2 m.old ((m.old.length : Int)) (((i : Nat) : Int)) m.old false m.old false m.old false x9 x10 x11 x12 x13 x14 e m x17 x18 x19 x20 x21 x22 x23 x24 x25 x26 x27 x28 x29 x30 x31 x32 x33 x34 x35 x36 x37 x38 x39 x40 x41 x42 x43 e m L x47)) (p := fun s => hasN e.cl s false) step
  have hall : lv cd28 C28 (J28_2_218_2 m.old ((m.old.length : Int)) 0 m.old false m.old false m.old false x9 x10 x11 x12 x13 x14 e m x17 x18 x19 x20 x21 x22 x23 x24 x25 x26 x27 x28 x29 x30 x31 x32 x33 x34 x35 x36 x37 x38 x39 x40 x41 x42 x43 e m L x47) = _ := hall
  rw [hall]
  cases hb : m.old.all fun s => hasN e.cl s false with
  | false => rw [if_pos (show listensN e.cl m.old = false from hb)]; rfl
  | true =>
    rw [if_neg (show ¬ listensN e.cl m.old = false by unfold listensN; rw [hb]; simp)]
    have ho : ∀ s ∈ m.old, hasN e.cl s false = true := by simpa [List.all_eq_true] using hb
    simp only [condT]
    rw [eJ28_2_218_2]
    simp only [tJ28_2_218_2, Tr.val, Int.lt_irrefl, decide_false, condF, V120_rcv h (Giv.nil (e := e) (m := m)) ho hmo, F120_rcv h (Giv.nil (e := e) (m := m)) ho hmo, V41_eq, F41_eq, Option.isSome_some, condT]
    have hlen := h.len
    have hml := movedN_len e m.old [] false
    rw [L28_27_28_8 (hm := h.okM) (hE := okE_moved h (by simp at hml; omega)) (h2 := hmo)]
    rfl
theorem L28_mov_1 (x10 : Int) (x11 : Int) (x12 : Int) (x13 : List Int) (x14 : List Spot) (x15 : Int) (x16 : Int) (x17 : Bool) (x18 : Int) (x21 : Int) (x22 : Int) (x23 : Int) (x24 : Bool) (x25 : Int) (x26 : Int) (x27 : Bool) (x28 : Int) (x29 : Int) (x30 : Int) (x31 : Bool) (x32 : Int) (x33 : Bool) (x34 : Int) (x35 : Int) (x36 : Int) (x37 : Int) (x38 : Bool) (x39 : Int) (x40 : Int) (x41 : Int) (x42 : Int) (x43 : Bool) (x44 : Int) (x45 : Int) (x46 : Int) (x47 : Tab) (x50 : Int) (e : End) (m : Msg) (h : Rcv e m) : lv cd28 C28 (J28_2_218_1 m.old ((m.old.length : Int)) 0 m.old false m.old false m.old false 0 x10 x11 x12 x13 x14 x15 x16 x17 x18 e m x21 x22 x23 x24 x25 x26 x27 x28 x29 x30 x31 x32 x33 x34 x35 x36 x37 x38 x39 x40 x41 x42 x43 x44 x45 x46 x47 e m x50) = some (noN e m 2) := by
  obtain ⟨q1, q2, q3, q4⟩ := noN_val h 2
  have hmo := h.okM.2
  have hl := h.okE.1
  have step : ∀ i, i < m.old.length → lv cd28 C28 (J28_2_218_1 m.old ((m.old.length : Int)) (((i : Nat) : Int)) m.old false m.old false m.old false 0 x10 x11 x12 x13 x14 x15 x16 x17 x18 e m x21 x22 x23 x24 x25 x26 x27 x28 x29 x30 x31 x32 x33 x34 x35 x36 x37 x38 x39 x40 x41 x42 x43 x44 x45 x46 x47 e m x50) = bif hasN e.cl (m.old.getD i default) false then lv cd28 C28 (J28_2_218_1 m.old ((m.old.length : Int)) (((i + 1 : Nat) : Int)) m.old false m.old false m.old false 0 x10 x11 x12 x13 x14 x15 x16 x17 x18 e m x21 x22 x23 x24 x25 x26 x27 x28 x29 x30 x31 x32 x33 x34 x35 x36 x37 x38 x39 x40 x41 x42 x43 x44 x45 x46 x47 e m x50) else some (noN e m 2) := by
    intro i hi
    have h1 : (i : Int) < (m.old.length : Int) := by omega
    have h2 := ib_nat hi
    have h3 := inR_ok (n := (i : Int) + 1) (by omega) (by omega)
    have h4 : nth .spot m.old i = m.old.getD i default := nth_getD (st := .spot) m.old i
    have h5 : (0 : Int) ≤ i := by omega
    rw [eJ28_2_218_1, show ((i + 1 : Nat) : Int) = (i : Int) + 1 by omega]
    simp only [tJ28_2_218_1, Tr.val, h1, h2, h3, h4, h5, q1, q2, q3, q4, eJ28_3_104_0, tJ28_3_104_0, V160_eq _ _ _ hl, F160_eq _ _ _ hl, Option.isSome_some, decide_true, condT, Bool.cond_not, noN]
  have hall := all_list0 (J := fun i => lv cd28 C28 (J28_2_218_1 m.old ((m.old.length : Int)) (((i : Nat) : Int)) m.old false m.old false m.old false 0 x10 x11 x12 x13 x14 x15 x16 x17 x18 e m x21 x22 x23 x24 x25 x26 x27 x28 x29 x30 x31 x32 x33 x34 x35 x36 x37 x38 x39 x40 x41 x42 x43 x44 x45 x46 x47 e m x50)) (p := fun s => hasN e.cl s false) step
  have hall : lv cd28 C28 (J28_2_218_1 m.old ((m.old.length : Int)) 0 m.old false m.old false m.old false 0 x10 x11 x12 x13 x14 x15 x16 x17 x18 e m x21 x22 x23 x24 x25 x26 x27 x28 x29 x30 x31 x32 x33 x34 x35 x36 x37 x38 x39 x40 x41 x42 x43 x44 x45 x46 x47 e m x50) = _ := hall
  rw [hall]
  cases hb : m.old.all fun s => hasN e.cl s false with
  | false => rfl
  | true =>
    simp only [condT]
    rw [eJ28_2_218_1]
    simp only [tJ28_2_218_1, Tr.val, q1, q2, q3, q4, eJ28_3_104_0, tJ28_3_104_0, Int.lt_irrefl, decide_false, decide_true, condF, Option.isSome_some, condT, noN]
theorem L28_mov_3 (x10 : Int) (x12 : Int) (x13 : Int) (x14 : List Int) (x15 : List Spot) (x16 : Int) (x17 : Int) (x18 : Bool) (x19 : Int) (x22 : Int) (x23 : Int) (x24 : Int) (x25 : Bool) (x26 : Int) (x27 : Int) (x28 : Bool) (x29 : Int) (x30 : Int) (x31 : Int) (x32 : Bool) (x33 : Int) (x34 : Bool) (x35 : Int) (x36 : Int) (x37 : Int) (x38 : Int) (x39 : Bool) (x40 : Int) (x41 : Int) (x42 : Int) (x43 : Int) (x44 : Bool) (x45 : Int) (x46 : Int) (x47 : Int) (x48 : Tab) (x52 : Int) (e : End) (m : Msg) (L : List Spot) (n : Int) (h : Rcv e m) (hn0 : 0 ≤ n) (hn1 : n ≤ L.length) (hn2 : n ≤ m.old.length) (g : Giv e m (L.take n.toNat)) :
    lv cd28 C28 (J28_2_218_3 m.old ((m.old.length : Int)) 0 m.old false m.old false m.old false n x10 L x12 x13 x14 x15 x16 x17 x18 x19 e m x22 x23 x24 x25 x26 x27 x28 x29 x30 x31 x32 x33 x34 x35 x36 x37 x38 x39 x40 x41 x42 x43 x44 x45 x46 x47 x48 e m L x52) = some (if n = 0 ∨ listensN e.cl m.old = false then noN e m 2 else doneN e m (movedN e (m.old.take n.toNat) (L.take n.toNat) false) n (L.take n.toNat) (m.old.take n.toNat)) := by
  obtain ⟨q1, q2, q3, q4⟩ := noN_val h 2
  have hmo := h.okM.2
  have hl := h.okE.1
  have step : ∀ i, i < m.old.length → lv cd28 C28 (J28_2_218_3 m.old ((m.old.length : Int)) (((i : Nat) : Int)) m.old false m.old false m.old false n x10 L x12 x13 x14 x15 x16 x17 x18 x19 e m x22 x23 x24 x25 x26 x27 x28 x29 x30 x31 x32 x33 x34 x35 x36 x37 x38 x39 x40 x41 x42 x43 x44 x45 x46 x47 x48 e m L x52) = bif hasN e.cl (m.old.getD i default) false then lv cd28 C28 (J28_2_218_3 m.old ((m.old.length : Int)) (((i + 1 : Nat) : Int)) m.old false m.old false m.old false n x10 L x12 x13 x14 x15 x16 x17 x18 x19 e m x22 x23 x24 x25 x26 x27 x28 x29 x30 x31 x32 x33 x34 x35 x36 x37 x38 x39 x40 x41 x42 x43 x44 x45 x46 x47 x48 e m L x52) else some (noN e m 2) := by
    intro i hi
    have h1 : (i : Int) < (m.old.length : Int) := by omega
    have h2 := ib_nat hi
    have h3 := inR_ok (n := (i : Int) + 1) (by omega) (by omega)
    have h4 : nth .spot m.old i = m.old.getD i default := nth_getD (st := .spot) m.old i
    have h5 : (0 : Int) ≤ i := by omega
    rw [eJ28_2_218_3, show ((i + 1 : Nat) : Int) = (i : Int) + 1 by omega]
    simp only [tJ28_2_218_3, Tr.val, h1, h2, h3, h4, h5, q1, q2, q3, q4, eJ28_3_104_1, tJ28_3_104_1, V160_eq _ _ _ hl, F160_eq _ _ _ hl, Option.isSome_some, decide_true, condT, Bool.cond_not, noN]
  have hall := all_list0 (J := fun i => lv cd28 C28 (J28_2_218_3 m.old ((m.old.length : Int)) (((i : Nat) : Int)) m.old false m.old false m.old false n x10 L x12 x13 x14 x15 x16 x17 x18 x19 e m x22 x23 x24 x25 x26 x27 x28 x29 x30 x31 x32 x33 x34 x35 x36 x37 x38 x39 x40 x41 x42 x43 x44 x45 x46 x47 x48 e m L x52)) (p := fun s => hasN e.cl s false) step
  have hall : lv cd28 C28 (J28_2_218_3 m.old ((m.old.length : Int)) 0 m.old false m.old false m.old false n x10 L x12 x13 x14 x15 x16 x17 x18 x19 e m x22 x23 x24 x25 x26 x27 x28 x29 x30 x31 x32 x33 x34 x35 x36 x37 x38 x39 x40 x41 x42 x43 x44 x45 x46 x47 x48 e m L x52) = _ := hall
  rw [hall]
  cases hb : m.old.all fun s => hasN e.cl s false with
  | false => rw [if_pos (show n = 0 ∨ listensN e.cl m.old = false from .inr hb)]; rfl
  | true =>
    have ho : ∀ s ∈ m.old, hasN e.cl s false = true := by simpa [List.all_eq_true] using hb
    simp only [condT]
    rw [eJ28_2_218_3]
    by_cases hz : n = 0
    · rw [if_pos (.inl hz)]
      simp only [tJ28_2_218_3, Tr.val, hz, q1, q2, q3, q4, eJ28_3_104_1, tJ28_3_104_1, Int.lt_irrefl, decide_false, decide_true, condF, Option.isSome_some, condT, noN]
    · rw [if_neg (show ¬ (n = 0 ∨ listensN e.cl m.old = false) by unfold listensN; rw [hb]; simp [hz])]
      have c1 : ic n L = true := by simp [ic]; omega
      have c2 : ic n m.old = true := by simp [ic]; omega
      have ho' : ∀ s ∈ m.old.take n.toNat, hasN e.cl s false = true := fun s hs => ho s (List.mem_of_mem_take hs)
      have hmo' : (m.old.take n.toNat).length ≤ 100000 := by rw [List.length_take]; omega
      have hg' : (L.take n.toNat).length ≤ 100000 := by have := g.len h; omega
      have hlen := h.len
      have hml := movedN_len e (m.old.take n.toNat) (L.take n.toNat) false
      have hgl := g.len h
      simp only [tJ28_2_218_3, Tr.val, hz, eJ28_4_104_1, tJ28_4_104_1, c1, c2, Int.lt_irrefl, decide_false, decide_true, condF, V120_rcv h g ho' hmo', F120_rcv h g ho' hmo', V41_eq, F41_eq, Option.isSome_some, condT]
      rw [L28_27_28_9 (hm := h.okM) (hE := okE_moved h (by omega)) (h1 := hg') (h2 := hmo')]
      rfl
theorem minI_take {α : Type} (l : List α) (n : Int) : l.take (minI n (l.length : Int)).toNat = l.take n.toNat := by
  unfold minI
  split
  · rw [Int.toNat_natCast, List.take_length, List.take_of_length_le (by omega)]
  · rfl
theorem minI_len {α : Type} (l : List α) (n : Int) (hn : 0 ≤ n) : minI n (l.length : Int) = ((l.take n.toNat).length : Int) := by
  unfold minI
  rw [List.length_take]
  split <;> omega
theorem L28_tail (x0 : List Int) (x1 : List Spot) (x6 : Int) (x7 : Int) (x8 : Int) (x9 : Bool) (x10 : Int) (x11 : Int) (x12 : Bool) (x13 : Int) (x14 : Int) (x15 : Int) (x16 : Bool) (x17 : Int) (x18 : Bool) (x19 : Int) (x20 : Int) (x21 : Int) (x22 : Int) (x23 : Bool) (x24 : Int) (x25 : Int) (x26 : Int) (x27 : Int) (x28 : Bool) (x29 : Int) (x30 : Int) (x31 : Int) (x32 : Tab) (x36 : Int) (e : End) (m : Msg) (L : List Spot) (h : Rcv e m) (hk : m.kind ≠ 6) (g : Giv e m L) :
    lv cd28 C28 (J28_9_28_1 x0 x1 ((m.sp.length : Int)) (((m.sp.length : Nat) : Int)) e m x6 x7 x8 x9 x10 x11 x12 x13 x14 x15 x16 x17 x18 x19 x20 x21 x22 x23 x24 x25 x26 x27 x28 x29 x30 x31 x32 e m L x36) = some (tailN e m (L.take m.cnt.toNat)) := by
  obtain ⟨q1, q2, q3, q4⟩ := noN_val h 2
  obtain ⟨hk1, hc, hl8, _, _, hf⟩ := msgErr_zero h.msg
  have hmo := h.okM.2
  have hlen := h.len
  have hL := g.len h
  have hc0 : 0 ≤ m.cnt := hc.2.2.2.2.1
  rw [eJ28_9_28_1]
  simp only [tJ28_9_28_1, Tr.val, Int.lt_irrefl, decide_false, condF, cond_dec, minI_take]
  have hkk : m.kind = 1 ∨ m.kind = 2 ∨ m.kind = 3 ∨ m.kind = 4 ∨ m.kind = 5 := by omega
  rcases hkk with hk | hk | hk | hk | hk
  · rw [if_pos hk, tailN, if_pos hk]
    have c1 : 0 ≤ (((L.take m.cnt.toNat).length : Nat) : Int) ∧ (((L.take m.cnt.toNat).length : Nat) : Int) ≤ (L.length : Int) := by rw [List.length_take]; omega
    have g' := g.take m.cnt.toNat
    have ho : ∀ s ∈ ([] : List Spot), hasN e.cl s false = true := fun s hs => by cases hs
    have e0 : ([] : List Spot).length ≤ 100000 := by simp
    simp only [if_pos c1, V120_rcv h g' ho e0, F120_rcv h g' ho e0, q1, q2, q3, q4, V41_eq, F41_eq, Option.isSome_some, condT, Bool.cond_not, minI_len L m.cnt hc0]
    have hg' := g'.len h
    have hml := movedN_len e [] (L.take m.cnt.toNat) false
    by_cases hz : L.take m.cnt.toNat = []
    · rw [if_pos hz, hz]
      rfl
    · rw [if_neg hz]
      have : (0 : Int) < ((L.take m.cnt.toNat).length : Int) := by have := List.length_pos_iff.2 hz; omega
      rw [decide_eq_true this]
      simp only [condT]
      rw [L28_27_28_4 (hm := h.okM) (hE := okE_moved h (by omega)) (h1 := by omega)]
      rfl
  · have n1 : ¬ m.kind = 1 := by omega
    have n3 : ¬ m.kind = 3 := by omega
    rw [if_neg n1, if_pos hk, tailN, if_neg n1, if_neg n3, if_pos hk]
    rw [L28_del_2 (h := h)]
  · have n1 : ¬ m.kind = 1 := by omega
    have n2 : ¬ m.kind = 2 := by omega
    rw [if_neg n1, if_neg n2, if_pos hk, tailN, if_neg n1, if_pos hk]
    have hold : m.cnt = m.old.length := (follows_mov hf h.req hk).2.2.1
    have hgt := g.take m.cnt.toNat
    rw [← minI_take] at hgt
    rw [L28_mov_3 (h := h) (g := hgt) (hn0 := by unfold minI; split <;> omega) (hn1 := by unfold minI; split <;> omega) (hn2 := by unfold minI; split <;> omega), minI_take]
    congr 1
    have e1 : minI m.cnt (L.length : Int) = ((L.take m.cnt.toNat).length : Int) := minI_len L m.cnt hc0
    rw [e1, Int.toNat_natCast]
    by_cases hz : L.take m.cnt.toNat = []
    · rw [if_pos (.inl (by rw [hz]; rfl)), if_pos (.inl hz)]
    · have : ¬ (((L.take m.cnt.toNat).length : Int) = 0) := by have := List.length_pos_iff.2 hz; omega
      simp only [hz, this, false_or]
  · have n1 : ¬ m.kind = 1 := by omega
    have n2 : ¬ m.kind = 2 := by omega
    have n3 : ¬ m.kind = 3 := by omega
    have n5 : ¬ m.kind = 5 := by omega
    rw [if_neg n1, if_neg n2, if_neg n3, if_pos hk, tailN, if_neg n1, if_neg n3, if_neg n2, if_neg n5]
    simp only [V41_eq, F41_eq, Option.isSome_some, condT]
    rw [L28_27_28_5 (hm := h.okM) (hE := okE_moved h (by omega))]
    rfl
  · have n1 : ¬ m.kind = 1 := by omega
    have n2 : ¬ m.kind = 2 := by omega
    have n3 : ¬ m.kind = 3 := by omega
    have n4 : ¬ m.kind = 4 := by omega
    rw [if_neg n1, if_neg n2, if_neg n3, if_neg n4, if_pos hk, tailN, if_neg n1, if_neg n3, if_neg n2, if_pos hk]
    have c1 : 0 ≤ minI (e.cl.length : Int) 8 ∧ minI (e.cl.length : Int) 8 ≤ (e.cl.length : Int) := by unfold minI; split <;> omega
    have e8 : e.cl.take (minI (e.cl.length : Int) 8).toNat = e.cl.take 8 := by
      unfold minI
      split
      · rfl
      · rw [Int.toNat_natCast, List.take_length, List.take_of_length_le (by omega)]
    simp only [if_pos c1, e8]
    rw [L28_106_2 (h := h) (hcl := by rw [List.length_take]; omega)]
theorem L28_tail0 (x0 : List Int) (x1 : List Spot) (x6 : Int) (x7 : Int) (x8 : Int) (x9 : Bool) (x10 : Int) (x11 : Int) (x12 : Bool) (x13 : Int) (x14 : Int) (x15 : Int) (x16 : Bool) (x17 : Int) (x18 : Bool) (x19 : Int) (x20 : Int) (x21 : Int) (x22 : Int) (x23 : Bool) (x24 : Int) (x25 : Int) (x26 : Int) (x27 : Int) (x28 : Bool) (x29 : Int) (x30 : Int) (x31 : Int) (x32 : Tab) (x35 : Int) (e : End) (m : Msg) (h : Rcv e m) (hk : m.kind ≠ 6) :
    lv cd28 C28 (J28_9 x0 x1 ((m.sp.length : Int)) (((m.sp.length : Nat) : Int)) e m x6 x7 x8 x9 x10 x11 x12 x13 x14 x15 x16 x17 x18 x19 x20 x21 x22 x23 x24 x25 x26 x27 x28 x29 x30 x31 x32 e m x35) = some (tailN e m []) := by
  obtain ⟨q1, q2, q3, q4⟩ := noN_val h 2
  obtain ⟨hk1, hc, hl8, _, _, hf⟩ := msgErr_zero h.msg
  have hmo := h.okM.2
  have hlen := h.len
  have hc0 : 0 ≤ m.cnt := hc.2.2.2.2.1
  have g : Giv e m [] := Giv.nil
  rw [eJ28_9]
  simp only [tJ28_9, Tr.val, Int.lt_irrefl, decide_false, condF, cond_dec, minI_take, List.length_nil, Int.natCast_zero, List.take_nil]
  have hm0 : minI m.cnt 0 = 0 := by unfold minI; split <;> omega
  have hkk : m.kind = 1 ∨ m.kind = 2 ∨ m.kind = 3 ∨ m.kind = 4 ∨ m.kind = 5 := by omega
  rcases hkk with hk | hk | hk | hk | hk
  · rw [if_pos hk, tailN, if_pos hk, if_pos rfl]
    have ho : ∀ s ∈ ([] : List Spot), hasN e.cl s false = true := fun s hs => by cases hs
    have e0 : ([] : List Spot).length ≤ 100000 := by simp
    simp only [hm0, Int.le_refl, and_self, if_true, V120_rcv h g ho e0, q1, q2, q3, q4, Option.isSome_some, condT, Bool.cond_not, Int.lt_irrefl, decide_false, condF]
    rfl
  · have n1 : ¬ m.kind = 1 := by omega
    have n3 : ¬ m.kind = 3 := by omega
    rw [if_neg n1, if_pos hk, tailN, if_neg n1, if_neg n3, if_pos hk]
    rw [L28_del_0 (h := h)]
  · have n1 : ¬ m.kind = 1 := by omega
    have n2 : ¬ m.kind = 2 := by omega
    rw [if_neg n1, if_neg n2, if_pos hk, tailN, if_neg n1, if_pos hk, if_pos (.inl rfl)]
    rw [hm0, L28_mov_1 (h := h)]
  · have n1 : ¬ m.kind = 1 := by omega
    have n2 : ¬ m.kind = 2 := by omega
    have n3 : ¬ m.kind = 3 := by omega
    have n5 : ¬ m.kind = 5 := by omega
    rw [if_neg n1, if_neg n2, if_neg n3, if_pos hk, tailN, if_neg n1, if_neg n3, if_neg n2, if_neg n5]
    simp only [V41_eq, F41_eq, Option.isSome_some, condT]
    rw [L28_27_28_2 (hm := h.okM) (hE := okE_moved h (by omega))]
    rfl
  · have n1 : ¬ m.kind = 1 := by omega
    have n2 : ¬ m.kind = 2 := by omega
    have n3 : ¬ m.kind = 3 := by omega
    have n4 : ¬ m.kind = 4 := by omega
    rw [if_neg n1, if_neg n2, if_neg n3, if_neg n4, if_pos hk, tailN, if_neg n1, if_neg n3, if_neg n2, if_pos hk]
    have c1 : 0 ≤ minI (e.cl.length : Int) 8 ∧ minI (e.cl.length : Int) 8 ≤ (e.cl.length : Int) := by unfold minI; split <;> omega
    have e8 : e.cl.take (minI (e.cl.length : Int) 8).toNat = e.cl.take 8 := by
      unfold minI
      split
      · rfl
      · rw [Int.toNat_natCast, List.take_length, List.take_of_length_le (by omega)]
    simp only [if_pos c1, e8]
    rw [L28_106_0 (h := h) (hcl := by rw [List.length_take]; omega)]
theorem V28_eq (e : End) (t : Tab) (f : List Int) (m : Msg) (he : okE e) (hl : e.cl.length ≤ 512) (ht : t.cl.length ≤ 1000) (hfl : f.length ≤ 100000) (hm : okM m) : V28 e t f m = some (receiveN e t f m) := by
  unfold V28
  rw [eS28]
  simp only [tS28, Tr.val, V36_eq t e he hl ht, F36_eq t e he hl ht, V96_eq m hm.1 hm.2, F96_eq m hm, eJ28_5, tJ28_5, Option.isSome_some, condT, Bool.cond_not, cond_dec, receiveN]
  by_cases h1 : (fullN t e).2 = 0
  case neg => rw [if_neg h1, if_pos h1]; rfl
  rw [if_pos h1, if_neg (show ¬ (fullN t e).2 ≠ 0 from fun hh => hh h1)]
  by_cases h2 : msgErr m = 0
  case neg => rw [if_neg h2, if_pos (.inl h2)]; rfl
  rw [if_pos h2]
  cases h3 : m.rep
  case true => rw [if_pos (.inr rfl)]; rfl
  rw [if_neg (show ¬ (msgErr m ≠ 0 ∨ false = true) by simp [h2])]
  simp only [condF]
  have hR := rcv_of he hl h1 h2 h3
  have hX : okE ⟨0, 0, 0, ([] : List Cell), false, 0, m, false, (⟨0, false, 0, 0, 0, ([] : List Spot), ([] : List Spot)⟩ : Msg), (⟨0, false, 0, 0, 0, ([] : List Spot), ([] : List Spot)⟩ : Msg)⟩ := ⟨by simp, hm, noMsg_ok, noMsg_ok⟩
  rw [eJ28_6]
  simp only [tJ28_6, Tr.val, V99_eq e he, F99_eq e he, V99_eq _ hX, F99_eq _ hX, V100_eq m e.lst hm, F100_eq m e.lst hm, Option.isSome_some, condT, cond_dec]
  by_cases h4 : m.kind = 6
  · rw [if_pos h4, if_pos h4, L28_27 (hm := hm)]
    rfl
  rw [if_neg h4, if_neg h4]
  have tail : ∀ (x3 : Int) (x4 : Int) (x5 : Int) (x6 : Bool) (x7 : Int) (x8 : Int) (x9 : Bool) (x10 : Int) (x11 : Int) (x12 : Int) (x13 : Bool) (x14 : Int) (x15 : Bool) (x16 : Int) (x17 : Int) (x18 : Int) (x19 : Int) (x20 : Bool) (x21 : Int) (x22 : Int) (x23 : Int) (x24 : Int) (x25 : Bool) (x26 : Int) (x27 : Int) (x28 : Int) (x32 : Int), lv cd28 C28 (J28_23 f e m x3 x4 x5 x6 x7 x8 x9 x10 x11 x12 x13 x14 x15 x16 x17 x18 x19 x20 x21 x22 x23 x24 x25 x26 x27 x28 ((fullN t e).1) e m x32) = some (if e.opn = true then noN e m 3 else if m.num ≠ e.num then noN e m 1 else tailN e m (usableN (fullN t e).1 f m.sp m.cnt)) := by
    intro x3 x4 x5 x6 x7 x8 x9 x10 x11 x12 x13 x14 x15 x16 x17 x18 x19 x20 x21 x22 x23 x24 x25 x26 x27 x28 x32
    obtain ⟨q1, q2, q3, q4⟩ := noN_val hR 3
    obtain ⟨p1, p2, _, _⟩ := noN_val hR 1
    rw [eJ28_23]
    simp only [tJ28_23, Tr.val, q1, q2, q3, q4, p1, p2, Option.isSome_some, condT, Bool.cond_not, cond_dec]
    cases h5 : e.opn
    case true => rfl
    simp only [condF, Bool.false_eq_true, if_false]
    by_cases h6 : m.num = e.num
    case neg => rw [if_neg h6, if_pos h6]; rfl
    rw [if_pos h6, if_neg (show ¬ m.num ≠ e.num from fun hh => hh h6)]
    have hfull : (fullN t e).1.cl.length ≤ 100000 := by have := full_len (t := t) (e := e); omega
    have hsp : m.sp.length ≤ 8 := (msgErr_zero h2).2.2.1.1
    have g0 : Giv e m (m.sp.filter (fitsN (fullN t e).1 f)) := giv_fits h1
    -- with places already found
    have l1 : ∀ (k i : Nat) (acc : List Spot), i + k = m.sp.length → acc ++ (m.sp.drop i).filter (fitsN (fullN t e).1 f) = m.sp.filter (fitsN (fullN t e).1 f) → ∀ (x6 : Int) (x7 : Int) (x8 : Int) (x9 : Bool) (x10 : Int) (x11 : Int) (x12 : Bool) (x13 : Int) (x14 : Int) (x15 : Int) (x16 : Bool) (x17 : Int) (x18 : Bool) (x19 : Int) (x20 : Int) (x21 : Int) (x22 : Int) (x23 : Bool) (x24 : Int) (x25 : Int) (x26 : Int) (x27 : Int) (x28 : Bool) (x29 : Int) (x30 : Int) (x31 : Int) (x36 : Int),
        lv cd28 C28 (J28_9_28_1 f m.sp ((m.sp.length : Int)) (((i : Nat) : Int)) e m x6 x7 x8 x9 x10 x11 x12 x13 x14 x15 x16 x17 x18 x19 x20 x21 x22 x23 x24 x25 x26 x27 x28 x29 x30 x31 ((fullN t e).1) e m acc x36) = some (tailN e m (usableN (fullN t e).1 f m.sp m.cnt)) := by
      intro k
      induction k with
      | zero =>
        intro i acc hi hacc x6 x7 x8 x9 x10 x11 x12 x13 x14 x15 x16 x17 x18 x19 x20 x21 x22 x23 x24 x25 x26 x27 x28 x29 x30 x31 x36
        simp at hi
        subst hi
        rw [List.drop_length, List.filter_nil, List.append_nil] at hacc
        subst hacc
        rw [L28_tail (h := hR) (hk := h4) (g := g0)]
        rfl
      | succ k ih =>
        intro i acc hi hacc x6 x7 x8 x9 x10 x11 x12 x13 x14 x15 x16 x17 x18 x19 x20 x21 x22 x23 x24 x25 x26 x27 x28 x29 x30 x31 x36
        have hil : i < m.sp.length := by omega
        have r1 : (i : Int) < (m.sp.length : Int) := by omega
        have r2 : ib (i : Int) m.sp = true := ib_nat hil
        have r3 := inR_ok (n := (i : Int) + 1) (by omega) (by omega)
        have r4 : nth .spot m.sp i = m.sp.getD i default := nth_getD (st := .spot) m.sp i
        have hal : acc.length ≤ 8 := by have := congrArg List.length hacc; have h9 := List.length_filter_le (fitsN (fullN t e).1 f) m.sp; simp only [List.length_append] at this; omega
        have r5 : il acc ([m.sp.getD i default] : List Spot) 16 = true := il_le (by omega) (by simp) (by omega)
        rw [getD_drop hil, List.filter_cons] at hacc
        rw [eJ28_9_28_1]
        simp only [tJ28_9_28_1, Tr.val, r1, r2, r4, r5, V101_eq _ _ _ hfull hfl, F101_eq _ _ _ hfull hfl, eJ28_13, tJ28_13, r3, Option.isSome_some, decide_true, condT]
        have cs : (i : Int) + 1 = ((i + 1 : Nat) : Int) := by omega
        rw [cs]
        cases hfit : fitsN (fullN t e).1 f (m.sp.getD i default)
        · rw [hfit] at hacc
          exact ih (i + 1) acc (by omega) (by simpa using hacc) ..
        · rw [hfit] at hacc
          exact ih (i + 1) (acc ++ [m.sp.getD i default]) (by omega) (by simpa using hacc) ..
    have l0 : ∀ (k i : Nat), i + k = m.sp.length → (m.sp.drop i).filter (fitsN (fullN t e).1 f) = m.sp.filter (fitsN (fullN t e).1 f) → ∀ (x6 : Int) (x7 : Int) (x8 : Int) (x9 : Bool) (x10 : Int) (x11 : Int) (x12 : Bool) (x13 : Int) (x14 : Int) (x15 : Int) (x16 : Bool) (x17 : Int) (x18 : Bool) (x19 : Int) (x20 : Int) (x21 : Int) (x22 : Int) (x23 : Bool) (x24 : Int) (x25 : Int) (x26 : Int) (x27 : Int) (x28 : Bool) (x29 : Int) (x30 : Int) (x31 : Int) (x35 : Int),
        lv cd28 C28 (J28_9 f m.sp ((m.sp.length : Int)) (((i : Nat) : Int)) e m x6 x7 x8 x9 x10 x11 x12 x13 x14 x15 x16 x17 x18 x19 x20 x21 x22 x23 x24 x25 x26 x27 x28 x29 x30 x31 ((fullN t e).1) e m x35) = some (tailN e m (usableN (fullN t e).1 f m.sp m.cnt)) := by
      intro k
      induction k with
      | zero =>
        intro i hi hacc x6 x7 x8 x9 x10 x11 x12 x13 x14 x15 x16 x17 x18 x19 x20 x21 x22 x23 x24 x25 x26 x27 x28 x29 x30 x31 x35
        simp at hi
        subst hi
        rw [L28_tail0 (h := hR) (hk := h4)]
        rw [List.drop_length, List.filter_nil] at hacc
        rw [usableN, ← hacc, List.take_nil]
      | succ k ih =>
        intro i hi hacc x6 x7 x8 x9 x10 x11 x12 x13 x14 x15 x16 x17 x18 x19 x20 x21 x22 x23 x24 x25 x26 x27 x28 x29 x30 x31 x35
        have hil : i < m.sp.length := by omega
        have r1 : (i : Int) < (m.sp.length : Int) := by omega
        have r2 : ib (i : Int) m.sp = true := ib_nat hil
        have r3 := inR_ok (n := (i : Int) + 1) (by omega) (by omega)
        have r4 : nth .spot m.sp i = m.sp.getD i default := nth_getD (st := .spot) m.sp i
        have r5 : il ([] : List Spot) ([m.sp.getD i default] : List Spot) 16 = true := il_le (by simp) (by simp) (by omega)
        rw [getD_drop hil, List.filter_cons] at hacc
        rw [eJ28_9]
        simp only [tJ28_9, Tr.val, r1, r2, r4, r5, V101_eq _ _ _ hfull hfl, F101_eq _ _ _ hfull hfl, eJ28_13, tJ28_13, eJ28_13_28_1, tJ28_13_28_1, r3, Option.isSome_some, decide_true, condT]
        have cs : (i : Int) + 1 = ((i + 1 : Nat) : Int) := by omega
        rw [cs]
        cases hfit : fitsN (fullN t e).1 f (m.sp.getD i default)
        · rw [hfit] at hacc
          exact ih (i + 1) (by omega) (by simpa using hacc) ..
        · rw [hfit] at hacc
          exact l1 k (i + 1) ([] ++ [m.sp.getD i default]) (by omega) (by simpa using hacc) ..
    exact l0 m.sp.length 0 (by omega) (by rw [List.drop_zero]) ..
  have e21 : ∀ (x1 : Int) (x2 : Int) (x3 : Int) (x4 : Bool) (x5 : Int) (x6 : Int) (x7 : Bool) (x8 : Int) (x9 : Int) (x10 : Int) (x11 : Bool) (x12 : Int) (x13 : Bool) (x14 : Int) (x15 : Int) (x16 : Int) (x17 : Int) (x18 : Bool) (x19 : Int) (x20 : Int) (x21 : Int) (x22 : Int) (x23 : Bool) (x24 : Int) (x25 : Int) (x26 : Int), lv cd28 C28 (J28_21 e x1 x2 x3 x4 x5 x6 x7 x8 x9 x10 x11 x12 x13 x14 x15 x16 x17 x18 x19 x20 x21 x22 x23 x24 x25 x26) = some (e, e.rp, 0) := by
    intro x1 x2 x3 x4 x5 x6 x7 x8 x9 x10 x11 x12 x13 x14 x15 x16 x17 x18 x19 x20 x21 x22 x23 x24 x25 x26
    rw [eJ28_21]
    simp only [tJ28_21, Tr.val, V99_eq e he, F99_eq e he, Option.isSome_some, condT]
  simp only [tail, e21]
  cases h5 : e.kn
  · simp only [condF, Bool.false_eq_true, false_and, if_false]
  · by_cases h6 : e.lst = m
    · simp only [condT, true_and]
      rw [if_pos h6.symm, if_pos h6]
    · have h7 : ¬ m = e.lst := fun h => h6 h.symm
      simp only [condT, true_and]
      rw [if_neg h7, if_neg h6]
theorem F28_eq (e : End) (t : Tab) (f : List Int) (m : Msg) (he : okE e) (hl : e.cl.length ≤ 512) (ht : t.cl.length ≤ 1000) (hfl : f.length ≤ 100000) (hm : okM m) : F28 e t f m = receiveN e t f m := getD_of (V28_eq e t f m he hl ht hfl hm)

end Go.Am
