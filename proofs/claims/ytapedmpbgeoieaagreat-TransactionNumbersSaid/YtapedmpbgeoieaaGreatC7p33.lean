/- Part 33 of the proof: N0 N1 N2 N3 N4 N5 N6 N7 N8 N9. -/
import Derived.Test.YtapedmpbgeoieaaGreatC7p32
set_option linter.unusedSimpArgs false
set_option linter.unusedVariables false
namespace Go.Am
open Go Go.Proofs
set_option linter.unusedVariables false

theorem inR_i64 (n : Int) : inR .i64 n = decide (-9223372036854775808 ≤ n ∧ n ≤ 9223372036854775807) := rfl
theorem inR_ok {n : Int} (h1 : -9223372036854775808 ≤ n) (h2 : n ≤ 9223372036854775807) : inR .i64 n = true := by rw [inR_i64]; simp [h1, h2]
theorem ib_nat {α : Type} {l : List α} {i : Nat} (h : i < l.length) : ib (i : Int) l = true := by simp [ib]; omega
theorem il_ok {α : Type} {l m : List α} {eb : Nat} (h : (l.length + m.length) * eb ≤ 70368744177664) : il l m eb = true := by simp [il]; exact h

/-- A loop over places that may end early. -/
theorem find_loop {R : Type} {J : Nat → Option R} {n : Nat} {f : Nat → Option R} (h : ∀ i, i < n → J i = (f i).or (J (i + 1))) : ∀ k i, i + k = n → J i = ((List.range' i k).findSome? f).or (J n)
  | 0, i, hi => by simp at hi ⊢; rw [hi]
  | k + 1, i, hi => by
    rw [h i (by omega), List.range'_succ, List.findSome?_cons]
    cases f i with
    | some r => rfl
    | none => exact find_loop h k (i + 1) (by omega)
theorem all_loop {R : Type} {J : Nat → Option R} {n : Nat} {p : Nat → Bool} {bad : Option R} (h : ∀ i, i < n → J i = bif p i then J (i + 1) else bad) : ∀ k i, i + k = n → J i = bif (List.range' i k).all p then J n else bad
  | 0, i, hi => by simp at hi ⊢; rw [hi]
  | k + 1, i, hi => by
    rw [h i (by omega), List.range'_succ, List.all_cons]
    cases p i with
    | false => rfl
    | true => rw [Bool.true_and]; exact all_loop h k (i + 1) (by omega)
theorem V128_eq (x y : Int) : V128 x y = some (decide (0 ≤ x ∧ x ≤ y)) := by
  unfold V128
  rw [eS128]
  by_cases h1 : 0 ≤ x <;> simp [tS128, Tr.val, h1]
theorem F128_eq (x y : Int) : F128 x y = decide (0 ≤ x ∧ x ≤ y) := by rw [F128, V128_eq]; rfl
/-- The cell at a place. -/
def cat (l : List Cell) (i : Nat) : Cell := l.getD i default
def cellOk (pr : Int) (cl : List Cell) (i : Nat) : Bool :=
  decide ((cat cl i).kind = 2) && decide ((cat cl i).peer = pr) && decide ((cat cl i).flow = -1) && decide (0 ≤ (cat cl i).slot ∧ (cat cl i).slot ≤ 511) && decide (0 ≤ (cat cl i).offset ∧ (cat cl i).offset ≤ 15) && (decide (i = 0) || decide ((cat cl (i - 1)).slot < (cat cl i).slot))
theorem nth_getD {st : ST} (l : List st.El) (i : Nat) : nth st l (i : Int) = l.getD i st.dflt := by simp [nth]
theorem ib_pred {α : Type} {l : List α} {i : Nat} (h0 : 0 < i) (h : i < l.length) : ib ((i : Int) - 1) l = true := by simp [ib]; omega
theorem nth_pred {st : ST} (l : List st.El) {i : Nat} (h0 : 0 < i) : nth st l ((i : Int) - 1) = l.getD (i - 1) st.dflt := by
  rw [show (i : Int) - 1 = ((i - 1 : Nat) : Int) by omega, nth_getD]
theorem J133 (e : End) (hl : e.cl.length ≤ 100000) (i : Nat) (hi : i < e.cl.length) : lv cd133 C133 (J133_2 e.cl (e.cl.length : Int) i e) = bif cellOk e.pr e.cl i then lv cd133 C133 (J133_2 e.cl (e.cl.length : Int) ((i + 1 : Nat) : Int) e) else some false := by
  have e6 : lv cd133 C133 (J133_6 e.cl (e.cl.length : Int) i e) = lv cd133 C133 (J133_2 e.cl (e.cl.length : Int) ((i + 1 : Nat) : Int) e) := by
    rw [eJ133_6]
    have := inR_ok (n := (i : Int) + 1) (by omega) (by omega)
    simp [tJ133_6, Tr.val, this]
  have e5 : lv cd133 C133 J133_5 = some false := by rw [eJ133_5]; rfl
  have h1 : (i : Int) < (e.cl.length : Int) := by omega
  have h2 := ib_nat hi
  have h3 := inR_ok (n := (i : Int) - 1) (by omega) (by omega)
  have h4 : nth .cell e.cl i = cat e.cl i := nth_getD (st := .cell) e.cl i
  rw [eJ133_2]
  simp only [tJ133_2, Tr.val, V128_eq, F128_eq, Option.isSome_some, cond_true, e5, e6, h1, h2, h3, h4, decide_true, cellOk]
  generalize hc : cat e.cl i = c
  by_cases k1 : c.kind = 2
  case neg => simp [k1]
  by_cases k2 : c.peer = e.pr
  case neg => simp [k1, k2]
  by_cases k3 : c.flow = -1
  case neg => simp [k1, k2, k3]
  by_cases k4 : 0 ≤ c.slot ∧ c.slot ≤ 511
  case neg => simp [k1, k2, k3, k4]
  by_cases k5 : 0 ≤ c.offset ∧ c.offset ≤ 15
  case neg => simp [k1, k2, k3, k4, k5]
  rcases Nat.eq_zero_or_pos i with k6 | k6
  · subst k6
    simp [k1, k2, k3, k4, k5]
  · have h5 := ib_pred k6 hi
    have h6 : nth .cell e.cl ((i : Int) - 1) = cat e.cl (i - 1) := nth_pred (st := .cell) e.cl k6
    have k7 : ¬ i = 0 := by omega
    by_cases k8 : c.slot ≤ (cat e.cl (i - 1)).slot
    · have k9 : ¬ (cat e.cl (i - 1)).slot < c.slot := by omega
      simp [k1, k2, k3, k4, k5, k6, k7, h5, h6, k8, k9]
    · have k9 : (cat e.cl (i - 1)).slot < c.slot := by omega
      simp [k1, k2, k3, k4, k5, k6, k7, h5, h6, k8, k9]
def cellsOk (pr : Int) (cl : List Cell) : Bool := (List.range cl.length).all (cellOk pr cl)
theorem V133_eq (e : End) (hl : e.cl.length ≤ 100000) : V133 e = some (cellsOk e.pr e.cl && (decide (e.num ≠ 0) || decide (e.cl.length = 0))) := by
  unfold V133
  rw [eS133]
  simp only [tS133, Tr.val]
  have h := all_loop (J := fun i => lv cd133 C133 (J133_2 e.cl (e.cl.length : Int) (i : Nat) e)) (bad := some false) (fun i hi => J133 e hl i hi) e.cl.length 0 (by omega)
  have h : lv cd133 C133 (J133_2 e.cl (e.cl.length : Int) 0 e) = _ := h
  have hend : lv cd133 C133 (J133_2 e.cl (e.cl.length : Int) (e.cl.length : Nat) e) = some (decide (e.num ≠ 0) || decide (e.cl.length = 0)) := by
    rw [eJ133_2]
    by_cases hn : e.num = 0 <;> simp [tJ133_2, Tr.val, hn]
  rw [h, hend, ← List.range_eq_range']
  show _ = some ((List.range e.cl.length).all (cellOk e.pr e.cl) && _)
  cases (List.range e.cl.length).all (cellOk e.pr e.cl) <;> rfl
def sat (l : List Spot) (i : Nat) : Spot := l.getD i default
def spotErr (l : List Spot) (i : Nat) : Option Int :=
  if (sat l i).sslot < 0 ∨ 512 ≤ (sat l i).sslot ∨ (sat l i).soffset < 0 ∨ 16 ≤ (sat l i).soffset then some 2
  else if 0 < i ∧ (sat l i).sslot ≤ (sat l (i - 1)).sslot then some 5 else none
def spotsErr (l : List Spot) : Int := ((List.range l.length).findSome? (spotErr l)).getD 0
theorem J181 (l : List Spot) (hl : l.length ≤ 100000) (i : Nat) (hi : i < l.length) : lv cd181 C181 (J181_2 l l (l.length : Int) i) = (spotErr l i).or (lv cd181 C181 (J181_2 l l (l.length : Int) ((i + 1 : Nat) : Int))) := by
  have e8 : lv cd181 C181 (J181_8 l l (l.length : Int) i) = lv cd181 C181 (J181_2 l l (l.length : Int) ((i + 1 : Nat) : Int)) := by
    rw [eJ181_8]
    have := inR_ok (n := (i : Int) + 1) (by omega) (by omega)
    simp [tJ181_8, Tr.val, this]
  have e5 : lv cd181 C181 J181_5 = some 2 := by rw [eJ181_5]; rfl
  have e7 : lv cd181 C181 J181_7 = some 5 := by rw [eJ181_7]; rfl
  have h1 : (i : Int) < (l.length : Int) := by omega
  have h2 := ib_nat hi
  have h3 := inR_ok (n := (i : Int) - 1) (by omega) (by omega)
  have h4 : nth .spot l i = sat l i := nth_getD (st := .spot) l i
  rw [eJ181_2]
  simp only [tJ181_2, Tr.val, e5, h1, h2, h4, decide_true, cond_true, spotErr]
  generalize hc : sat l i = c
  by_cases k1 : c.sslot < 0
  case pos => simp [k1]
  by_cases k2 : 512 ≤ c.sslot
  case pos => simp [k1, k2]
  by_cases k3 : c.soffset < 0
  case pos => simp [k1, k2, k3]
  by_cases k4 : 16 ≤ c.soffset
  case pos => simp [k1, k2, k3, k4]
  simp only [k1, k2, k3, k4, decide_false, cond_false, or_false, if_false]
  rw [eJ181_6]
  simp only [tJ181_6, Tr.val, h3, e7, e8]
  rcases Nat.eq_zero_or_pos i with k6 | k6
  · subst k6
    simp
  · have h5 := ib_pred k6 hi
    have h6 : nth .spot l ((i : Int) - 1) = sat l (i - 1) := nth_pred (st := .spot) l k6
    by_cases k8 : c.sslot ≤ (sat l (i - 1)).sslot <;> simp [k6, h5, h6, k8]
theorem V181_eq (l : List Spot) (hl : l.length ≤ 100000) : V181 l = some (spotsErr l) := by
  unfold V181
  rw [eS181]
  simp only [tS181, Tr.val]
  have h := find_loop (J := fun i => lv cd181 C181 (J181_2 l l (l.length : Int) (i : Nat))) (fun i hi => J181 l hl i hi) l.length 0 (by omega)
  have h : lv cd181 C181 (J181_2 l l (l.length : Int) 0) = _ := h
  have hend : lv cd181 C181 (J181_2 l l (l.length : Int) (l.length : Nat)) = some 0 := by
    rw [eJ181_2]
    simp [tJ181_2, Tr.val]
  rw [h, hend, ← List.range_eq_range', spotsErr]
  cases (List.range l.length).findSome? (spotErr l) <;> rfl
def nextN (n : Int) : Int := if 0 ≤ n ∧ n ≤ 255 then (if n = 255 then 1 else n + 1) else 0
theorem V41_eq (n : Int) : V41 n = some (nextN n) := by
  unfold V41
  rw [eS41]
  simp only [tS41, Tr.val, V128_eq, F128_eq, Option.isSome_some, cond_true, nextN]
  by_cases h : 0 ≤ n ∧ n ≤ 255
  case neg => simp [h]
  by_cases h1 : n = 255
  case pos => simp [h1]
  have := inR_ok (n := n + 1) (by omega) (by omega)
  simp [h, h1, this]
def sendsOf (l : List Cell) : List Spot := l.filterMap fun c => if c.send then some ⟨c.slot, c.offset⟩ else none
end Go.Am

namespace Go.Am
open Go Go.Proofs
set_option linter.unusedVariables false

theorem cond_dec {α : Type} {p : Prop} [Decidable p] {a b : α} : (bif decide p then a else b) = if p then a else b := by by_cases h : p <;> simp [h]
/-- What a message's counts must be. -/
def followsN (m : Msg) : Bool :=
  if m.code ≠ 0 then m.rep && (decide (m.cnt = 0) && (decide (m.sp.length = 0) && decide (m.old.length = 0)))
  else if m.kind = 1 then decide (m.old.length = 0 ∧ 1 ≤ m.cnt ∧ m.cnt ≤ 8) && (decide (m.cnt = m.sp.length) || (!m.rep && decide (m.cnt < m.sp.length)))
  else if m.kind = 2 then decide (m.sp.length = 0 ∧ 1 ≤ m.old.length ∧ m.cnt = m.old.length)
  else if m.kind = 3 then decide (1 ≤ m.old.length ∧ m.cnt = m.old.length) && (decide (m.sp.length = m.old.length) || (!m.rep && decide (m.old.length < m.sp.length)))
  else if m.kind = 4 then decide (m.sp.length = 0 ∧ m.old.length = 0) && (m.rep || decide (m.cnt = 0))
  else if m.kind = 5 then decide (m.old.length = 0 ∧ (m.sp.length : Int) = minI 8 m.cnt) && (m.rep || decide (m.cnt = 0))
  else decide (m.sp.length = 0 ∧ m.old.length = 0 ∧ m.cnt = 0)
set_option maxHeartbeats 1000000 in
theorem V182_eq (m : Msg) (h1 : 1 ≤ m.kind) (h6 : m.kind ≤ 6) (hs : m.sp.length ≤ 8) : V182 m = some (followsN m) := by
  unfold V182
  rw [eS182]
  simp only [tS182, Tr.val, followsN]
  have hd : m.cnt = 0 → minI 8 m.cnt = 0 := fun h => by rw [h]; decide
  generalize m.sp.length = a at hs ⊢
  generalize m.old.length = b
  generalize minI 8 m.cnt = d at hd ⊢
  have hk : m.kind = 1 ∨ m.kind = 2 ∨ m.kind = 3 ∨ m.kind = 4 ∨ m.kind = 5 ∨ m.kind = 6 := by omega
  by_cases hc : m.code = 0
  all_goals rcases hk with hk | hk | hk | hk | hk | hk
  all_goals cases hr : m.rep
  all_goals simp only [hk, hc, Int.reduceEq, decide_true, decide_false, if_true, if_false, ne_eq, not_true_eq_false, not_false_eq_true, cond_dec, cond_true, cond_false, Bool.not_true, Bool.not_false, Bool.true_and, Bool.false_and, Bool.false_or, Bool.true_or, Bool.or_false, Bool.and_true]
  all_goals (repeat' split)
  all_goals first | rfl | (exfalso; omega) | (congr 1; rw [Bool.eq_iff_iff]; simp <;> omega)

end Go.Am

namespace Go.Am
open Go Go.Proofs
set_option linter.unusedVariables false

def msgErr (m : Msg) : Int :=
  if m.kind < 1 ∨ 6 < m.kind then 1 else if m.num < 0 ∨ 255 < m.num ∨ m.code < 0 ∨ 3 < m.code ∨ m.cnt < 0 ∨ 512 < m.cnt then 2
  else if 8 < m.sp.length ∨ 8 < m.old.length then 8 else if spotsErr m.sp ≠ 0 then spotsErr m.sp else if spotsErr m.old ≠ 0 then spotsErr m.old
  else if followsN m then 0 else 11
theorem V96_eq (m : Msg) (hl : m.sp.length ≤ 100000) (ho : m.old.length ≤ 100000) : V96 m = some (msgErr m) := by
  unfold V96
  rw [eS96]
  have e2 : lv cd96 C96 J96_2 = some 1 := by rw [eJ96_2]; rfl
  have e4 : lv cd96 C96 J96_4 = some 2 := by rw [eJ96_4]; rfl
  have e6 : lv cd96 C96 J96_6 = some 8 := by rw [eJ96_6]; rfl
  simp only [tS96, Tr.val, e2, cond_dec, msgErr]
  by_cases k1 : m.kind < 1
  case pos => simp [k1]
  by_cases k2 : 6 < m.kind
  case pos => simp [k1, k2]
  simp only [k1, k2, if_false, or_false]
  rw [eJ96_3]
  simp only [tJ96_3, Tr.val, e4, cond_dec]
  by_cases k3 : m.num < 0 ∨ 255 < m.num ∨ m.code < 0 ∨ 3 < m.code ∨ m.cnt < 0 ∨ 512 < m.cnt
  case pos =>
    rw [if_pos k3]
    repeat' split
    all_goals first | rfl | omega
  rw [if_neg k3]
  rw [if_neg (by omega), if_neg (by omega), if_neg (by omega), if_neg (by omega), if_neg (by omega), if_neg (by omega), eJ96_5]
  simp only [tJ96_5, Tr.val, e6, cond_dec]
  by_cases k4 : 8 < m.sp.length
  case pos =>
    have : (8 : Int) < m.sp.length := by omega
    simp [k4, this]
  by_cases k5 : 8 < m.old.length
  case pos =>
    have : (8 : Int) < m.old.length := by omega
    simp [k4, k5, this]
  rw [if_neg (by omega), if_neg (by omega), if_neg (by omega), eJ96_7]
  have hF1 : F181 m.sp = spotsErr m.sp := by rw [F181, V181_eq _ hl]; rfl
  have hF2 : F181 m.old = spotsErr m.old := by rw [F181, V181_eq _ ho]; rfl
  have hv : V182 m = some (followsN m) := V182_eq m (by omega) (by omega) (by omega)
  have hf : F182 m = followsN m := by rw [F182, hv]; rfl
  simp only [tJ96_7, Tr.val, V181_eq _ hl, V181_eq _ ho, hF1, hF2, hv, hf, Option.isSome_some, cond_true, Bool.cond_not, cond_dec]
  by_cases k6 : spotsErr m.sp = 0
  case neg => simp [k6]
  by_cases k7 : spotsErr m.old = 0
  case neg => simp [k6, k7]
  cases followsN m <;> simp [k6, k7]
end Go.Am

namespace Go.Am
open Go Go.Proofs
set_option linter.unusedVariables false

def zeroMsg (m : Msg) : Bool := decide (m.kind = 0) && !m.rep && decide (m.num = 0) && decide (m.code = 0) && decide (m.cnt = 0) && decide (m.sp.length = 0) && decide (m.old.length = 0)
theorem V204_eq (m : Msg) : V204 m = some (zeroMsg m) := by
  unfold V204
  rw [eS204]
  simp only [tS204, Tr.val, zeroMsg]
  generalize m.sp.length = a
  generalize m.old.length = b
  cases m.rep <;> simp only [Bool.cond_not, cond_dec, cond_true, cond_false, Bool.not_true, Bool.not_false]
  all_goals (repeat' split)
  all_goals first | rfl | (exfalso; omega) | (congr 1; rw [Bool.eq_iff_iff]; simp <;> omega)
/-- Does an end hold a place in a direction? -/
def hasAt (cl : List Cell) (s : Spot) (b : Bool) (i : Nat) : Bool := decide ((cat cl i).slot = s.sslot) && decide ((cat cl i).offset = s.soffset) && ((cat cl i).send == b)
def hasN (cl : List Cell) (s : Spot) (b : Bool) : Bool := (List.range cl.length).any (hasAt cl s b)
theorem findSome_bool {p : Nat → Bool} {b : Bool} : ∀ l : List Nat, (l.findSome? fun i => if p i then some b else none) = if l.any p then some b else none
  | [] => rfl
  | a :: l => by
    rw [List.findSome?_cons, List.any_cons]
    cases p a with
    | true => rfl
    | false => rw [if_neg (by simp)]; simp only [Bool.false_or]; exact findSome_bool l
theorem V160_eq (e : End) (s : Spot) (b : Bool) (hl : e.cl.length ≤ 100000) : V160 e s b = some (hasN e.cl s b) := by
  unfold V160
  rw [eS160]
  simp only [tS160, Tr.val]
  have step : ∀ i, i < e.cl.length → lv cd160 C160 (J160_2_198_0 e.cl (e.cl.length : Int) (i : Nat) e.cl false e.cl e s b false e.cl e s b) = (if hasAt e.cl s b i then some true else none).or (lv cd160 C160 (J160_2_198_0 e.cl (e.cl.length : Int) ((i + 1 : Nat) : Int) e.cl false e.cl e s b false e.cl e s b)) := by
    intro i hi
    have h1 : (i : Int) < (e.cl.length : Int) := by omega
    have h2 := ib_nat hi
    have h3 := inR_ok (n := (i : Int) + 1) (by omega) (by omega)
    have h4 : nth .cell e.cl i = cat e.cl i := nth_getD (st := .cell) e.cl i
    have h5 : (0 : Int) ≤ i := by omega
    rw [eJ160_2_198_0]
    rw [show ((i + 1 : Nat) : Int) = (i : Int) + 1 by omega]
    simp only [tJ160_2_198_0, Tr.val, h1, h2, h3, h4, h5, decide_true, cond_true, cond_dec, hasAt]
    by_cases k1 : (cat e.cl i).slot = s.sslot <;> by_cases k2 : (cat e.cl i).offset = s.soffset <;> by_cases k3 : ((cat e.cl i).send == b) = true <;> simp [k1, k2, k3]
  have h := find_loop (J := fun i => lv cd160 C160 (J160_2_198_0 e.cl (e.cl.length : Int) (i : Nat) e.cl false e.cl e s b false e.cl e s b)) step e.cl.length 0 (by omega)
  have h : lv cd160 C160 (J160_2_198_0 e.cl (e.cl.length : Int) 0 e.cl false e.cl e s b false e.cl e s b) = _ := h
  have hend : lv cd160 C160 (J160_2_198_0 e.cl (e.cl.length : Int) (e.cl.length : Nat) e.cl false e.cl e s b false e.cl e s b) = some false := by
    rw [eJ160_2_198_0]
    simp [tJ160_2_198_0, Tr.val]
  rw [h, hend, ← List.range_eq_range', findSome_bool, hasN]
  cases (List.range e.cl.length).any (hasAt e.cl s b) <;> rfl

end Go.Am

namespace Go.Am
open Go Go.Proofs
set_option linter.unusedVariables false

theorem eq_of_at {α : Type} [Inhabited α] [DecidableEq α] {l m : List α} (h : l.length = m.length) : ((List.range l.length).all fun i => decide (l.getD i default = m.getD i default)) = decide (l = m) := by
  rw [Bool.eq_iff_iff]
  simp only [List.all_eq_true, List.mem_range, decide_eq_true_eq]
  constructor
  · intro hp
    apply List.ext_getElem h
    intro i h1 h2
    have := hp i h1
    simpa [List.getD, h1, h2] using this
  · rintro rfl i _
    rfl
theorem V147_eq (l m : List Spot) (hl : l.length ≤ 100000) : V147 l m = some (decide (l = m)) := by
  unfold V147
  rw [eS147]
  simp only [tS147, Tr.val]
  by_cases hlm : l.length = m.length
  case neg =>
    have : ¬ l = m := fun e => hlm (by rw [e])
    have h2 : ¬ (l.length : Int) = m.length := by omega
    simp [this, h2]
  have h2 : (l.length : Int) = m.length := by omega
  simp only [h2, decide_true, Bool.not_true, cond_false]
  rw [← h2]
  have step : ∀ i, i < l.length → lv cd147 C147 (J147_4 l m (l.length : Int) (i : Nat)) = bif decide (l.getD i default = m.getD i default) then lv cd147 C147 (J147_4 l m (l.length : Int) ((i + 1 : Nat) : Int)) else some false := by
    intro i hi
    have h1 : (i : Int) < (l.length : Int) := by omega
    have h2 := ib_nat hi
    have h2' := ib_nat (l := m) (i := i) (by omega)
    have h3 := inR_ok (n := (i : Int) + 1) (by omega) (by omega)
    have h4 : nth .spot l i = l.getD i default := nth_getD (st := .spot) l i
    have h4' : nth .spot m i = m.getD i default := nth_getD (st := .spot) m i
    rw [eJ147_4, show ((i + 1 : Nat) : Int) = (i : Int) + 1 by omega]
    simp only [tJ147_4, Tr.val, h1, h2, h2', h3, h4, h4', decide_true, cond_true]
    generalize l.getD i default = x
    generalize m.getD i default = y
    obtain ⟨x1, x2⟩ := x
    obtain ⟨y1, y2⟩ := y
    by_cases k1 : x1 = y1 <;> by_cases k2 : x2 = y2 <;> simp [k1, k2]
  have h := all_loop (J := fun i => lv cd147 C147 (J147_4 l m (l.length : Int) (i : Nat))) step l.length 0 (by omega)
  have h : lv cd147 C147 (J147_4 l m (l.length : Int) 0) = _ := h
  have hend : lv cd147 C147 (J147_4 l m (l.length : Int) (l.length : Nat)) = some true := by
    rw [eJ147_4]
    simp [tJ147_4, Tr.val]
  rw [h, hend, ← List.range_eq_range', eq_of_at hlm]
  by_cases h : l = m <;> simp [h]
theorem V94_eq (l m : List Cell) (hl : l.length ≤ 100000) : V94 l m = some (decide (l = m)) := by
  unfold V94
  rw [eS94]
  simp only [tS94, Tr.val]
  by_cases hlm : l.length = m.length
  case neg =>
    have : ¬ l = m := fun e => hlm (by rw [e])
    have h2 : ¬ (l.length : Int) = m.length := by omega
    simp [this, h2]
  have h2 : (l.length : Int) = m.length := by omega
  simp only [h2, decide_true, Bool.not_true, cond_false]
  rw [← h2]
  have step : ∀ i, i < l.length → lv cd94 C94 (J94_4 l m (l.length : Int) (i : Nat)) = bif decide (l.getD i default = m.getD i default) then lv cd94 C94 (J94_4 l m (l.length : Int) ((i + 1 : Nat) : Int)) else some false := by
    intro i hi
    have h1 : (i : Int) < (l.length : Int) := by omega
    have h2 := ib_nat hi
    have h2' := ib_nat (l := m) (i := i) (by omega)
    have h3 := inR_ok (n := (i : Int) + 1) (by omega) (by omega)
    have h4 : nth .cell l i = l.getD i default := nth_getD (st := .cell) l i
    have h4' : nth .cell m i = m.getD i default := nth_getD (st := .cell) m i
    rw [eJ94_4, show ((i + 1 : Nat) : Int) = (i : Int) + 1 by omega]
    simp only [tJ94_4, Tr.val, h1, h2, h2', h3, h4, h4', decide_true, cond_true]
    generalize l.getD i default = x
    generalize m.getD i default = y
    obtain ⟨x1, x2, x3, x4, x5, x6⟩ := x
    obtain ⟨y1, y2, y3, y4, y5, y6⟩ := y
    by_cases k1 : x1 = y1 <;> by_cases k2 : x2 = y2 <;> by_cases k3 : x3 = y3 <;> cases x4 <;> cases y4 <;> by_cases k5 : x5 = y5 <;> by_cases k6 : x6 = y6 <;> simp [k1, k2, k3, k5, k6]
  have h := all_loop (J := fun i => lv cd94 C94 (J94_4 l m (l.length : Int) (i : Nat))) step l.length 0 (by omega)
  have h : lv cd94 C94 (J94_4 l m (l.length : Int) 0) = _ := h
  have hend : lv cd94 C94 (J94_4 l m (l.length : Int) (l.length : Nat)) = some true := by
    rw [eJ94_4]
    simp [tJ94_4, Tr.val]
  rw [h, hend, ← List.range_eq_range', eq_of_at hlm]
  by_cases h : l = m <;> simp [h]

end Go.Am

namespace Go.Am
open Go Go.Proofs
set_option linter.unusedVariables false

def idxN (l : List Spot) (s : Spot) : Int := ((List.range l.length).findSome? fun i => if sat l i = s then some (i : Int) else none).getD (-1)
theorem V241_eq (l : List Spot) (s : Spot) (hl : l.length ≤ 100000) : V241 l s = some (idxN l s) := by
  unfold V241
  rw [eS241]
  simp only [tS241, Tr.val]
  have step : ∀ i, i < l.length → lv cd241 C241 (J241_2 l (l.length : Int) (i : Nat) s) = (if sat l i = s then some (i : Int) else none).or (lv cd241 C241 (J241_2 l (l.length : Int) ((i + 1 : Nat) : Int) s)) := by
    intro i hi
    have h1 : (i : Int) < (l.length : Int) := by omega
    have h2 := ib_nat hi
    have h3 := inR_ok (n := (i : Int) + 1) (by omega) (by omega)
    have h4 : nth .spot l i = sat l i := nth_getD (st := .spot) l i
    rw [eJ241_2, show ((i + 1 : Nat) : Int) = (i : Int) + 1 by omega]
    simp only [tJ241_2, Tr.val, h1, h2, h3, h4, decide_true, cond_true]
    generalize sat l i = x
    obtain ⟨x1, x2⟩ := x
    obtain ⟨y1, y2⟩ := s
    by_cases k1 : x1 = y1 <;> by_cases k2 : x2 = y2
    · simp [k1, k2]
    · have k2' : ¬ y2 = x2 := fun h => k2 h.symm
      simp [k1, k2, k2']
    · have k1' : ¬ y1 = x1 := fun h => k1 h.symm
      simp [k1, k2, k1']
    · have k1' : ¬ y1 = x1 := fun h => k1 h.symm
      have k2' : ¬ y2 = x2 := fun h => k2 h.symm
      simp [k1, k2, k1', k2']
  have h := find_loop (J := fun i => lv cd241 C241 (J241_2 l (l.length : Int) (i : Nat) s)) step l.length 0 (by omega)
  have h : lv cd241 C241 (J241_2 l (l.length : Int) 0 s) = _ := h
  have hend : lv cd241 C241 (J241_2 l (l.length : Int) (l.length : Nat) s) = some (-1) := by
    rw [eJ241_2]
    simp [tJ241_2, Tr.val]
  rw [h, hend, ← List.range_eq_range', idxN]
  cases (List.range l.length).findSome? _ <;> rfl
theorem idx_has (l : List Spot) (s : Spot) : decide (0 ≤ idxN l s) = decide (s ∈ l) := by
  unfold idxN
  cases h : (List.range l.length).findSome? fun i => if sat l i = s then some (i : Int) else none with
  | none =>
    have : s ∉ l := by
      intro hm
      obtain ⟨i, hi, he⟩ := List.mem_iff_getElem.1 hm
      have := List.findSome?_eq_none_iff.1 h i (List.mem_range.2 hi)
      simp [sat, List.getD, hi, he] at this
    simp [this]
  | some r =>
    obtain ⟨i, hi, hr⟩ := List.exists_of_findSome?_eq_some h
    split at hr
    · rename_i he
      cases hr
      have hil := List.mem_range.1 hi
      have : s ∈ l := by
        rw [← he]
        simp [sat, List.getD, hil]
      simp [this]
    · cases hr
theorem V195_eq (l : List Spot) (s : Spot) (hl : l.length ≤ 100000) : V195 l s = some (decide (s ∈ l)) := by
  unfold V195
  rw [eS195]
  have h : F241 l s = idxN l s := by rw [F241, V241_eq l s hl]; rfl
  simp only [tS195, Tr.val, V241_eq l s hl, h, Option.isSome_some, cond_true, idx_has]
def amongN (l m : List Spot) : Bool := (List.range l.length).all fun i => decide (sat l i ∈ m)
theorem V146_eq (l m : List Spot) (hl : l.length ≤ 100000) (hm : m.length ≤ 100000) : V146 l m = some (amongN l m) := by
  unfold V146
  rw [eS146]
  simp only [tS146, Tr.val]
  have hF : ∀ s, F195 m s = decide (s ∈ m) := fun s => by rw [F195, V195_eq m s hm]; rfl
  have step : ∀ i, i < l.length → lv cd146 C146 (J146_2_218_0 l (l.length : Int) (i : Nat) l false l l m false l m) = bif decide (sat l i ∈ m) then lv cd146 C146 (J146_2_218_0 l (l.length : Int) ((i + 1 : Nat) : Int) l false l l m false l m) else some false := by
    intro i hi
    have h1 : (i : Int) < (l.length : Int) := by omega
    have h2 := ib_nat hi
    have h3 := inR_ok (n := (i : Int) + 1) (by omega) (by omega)
    have h4 : nth .spot l i = sat l i := nth_getD (st := .spot) l i
    have h5 : (0 : Int) ≤ i := by omega
    rw [eJ146_2_218_0, show ((i + 1 : Nat) : Int) = (i : Int) + 1 by omega]
    simp only [tJ146_2_218_0, Tr.val, h1, h2, h3, h4, h5, hF, V195_eq m _ hm, Option.isSome_some, decide_true, cond_true, Bool.cond_not, Bool.not_true]
  have h := all_loop (J := fun i => lv cd146 C146 (J146_2_218_0 l (l.length : Int) (i : Nat) l false l l m false l m)) step l.length 0 (by omega)
  have h : lv cd146 C146 (J146_2_218_0 l (l.length : Int) 0 l false l l m false l m) = _ := h
  have hend : lv cd146 C146 (J146_2_218_0 l (l.length : Int) (l.length : Nat) l false l l m false l m) = some true := by
    rw [eJ146_2_218_0]
    simp [tJ146_2_218_0, Tr.val]
  rw [h, hend, ← List.range_eq_range', amongN]
  cases (List.range l.length).all _ <;> rfl

end Go.Am

namespace Go.Am
open Go Go.Proofs
set_option linter.unusedVariables false

theorem V192_eq (l m : List Spot) (hl : l.length ≤ 100000) (hlm : l.length = m.length) : V192 l m = some (decide (l = m)) := by
  unfold V192
  rw [eS192]
  simp only [tS192, Tr.val]
  have step : ∀ i, i < l.length → lv cd192 C192 (J192_2 l m (i : Nat)) = bif decide (l.getD i default = m.getD i default) then lv cd192 C192 (J192_2 l m ((i + 1 : Nat) : Int)) else some false := by
    intro i hi
    have h1 : (i : Int) < (l.length : Int) := by omega
    have h2 := ib_nat hi
    have h2' := ib_nat (l := m) (i := i) (by omega)
    have h3 := inR_ok (n := (i : Int) + 1) (by omega) (by omega)
    have h4 : nth .spot l i = l.getD i default := nth_getD (st := .spot) l i
    have h4' : nth .spot m i = m.getD i default := nth_getD (st := .spot) m i
    rw [eJ192_2, show ((i + 1 : Nat) : Int) = (i : Int) + 1 by omega]
    simp only [tJ192_2, Tr.val, h1, h2, h2', h3, h4, h4', decide_true, cond_true]
    generalize l.getD i default = x
    generalize m.getD i default = y
    obtain ⟨x1, x2⟩ := x
    obtain ⟨y1, y2⟩ := y
    by_cases k1 : x1 = y1 <;> by_cases k2 : x2 = y2 <;> simp [k1, k2]
  have h := all_loop (J := fun i => lv cd192 C192 (J192_2 l m (i : Nat))) step l.length 0 (by omega)
  have h : lv cd192 C192 (J192_2 l m 0) = _ := h
  have hend : lv cd192 C192 (J192_2 l m (l.length : Nat)) = some true := by
    rw [eJ192_2]
    simp [tJ192_2, Tr.val]
  rw [h, hend, ← List.range_eq_range', eq_of_at hlm]
  by_cases h : l = m <;> simp [h]
theorem V118_eq (l m : List Spot) (hl : l.length ≤ 100000) : V118 l m = some (decide (l = m)) := by
  unfold V118
  rw [eS118]
  simp only [tS118, Tr.val]
  by_cases hlm : l.length = m.length
  case neg =>
    have : ¬ l = m := fun e => hlm (by rw [e])
    have h2 : ¬ (l.length : Int) = m.length := by omega
    simp [this, h2]
  have h2 : (l.length : Int) = m.length := by omega
  have h3 : F192 l m = decide (l = m) := by rw [F192, V192_eq l m hl hlm]; rfl
  simp [h2, V192_eq l m hl hlm, h3]
theorem V31_eq (a b : Msg) (h1 : a.sp.length ≤ 100000) (h2 : a.old.length ≤ 100000) : V31 a b = some (decide (a = b)) := by
  unfold V31
  rw [eS31]
  have e1 : F118 a.sp b.sp = decide (a.sp = b.sp) := by rw [F118, V118_eq _ _ h1]; rfl
  have e2 : F118 a.old b.old = decide (a.old = b.old) := by rw [F118, V118_eq _ _ h2]; rfl
  simp only [tS31, Tr.val, V118_eq _ _ h1, V118_eq _ _ h2, e1, e2, Option.isSome_some, cond_true]
  obtain ⟨a1, a2, a3, a4, a5, a6, a7⟩ := a
  obtain ⟨b1, b2, b3, b4, b5, b6, b7⟩ := b
  simp only [Msg.mk.injEq]
  by_cases k1 : a1 = b1 <;> by_cases k3 : a3 = b3 <;> by_cases k4 : a4 = b4 <;> by_cases k5 : a5 = b5 <;> by_cases k6 : a6 = b6 <;> by_cases k7 : a7 = b7 <;> cases a2 <;> cases b2 <;> simp [k1, k3, k4, k5, k6, k7]

end Go.Am

namespace Go.Am
open Go Go.Proofs
set_option linter.unusedVariables false

theorem V148_eq (x : Int) : V148 x = some (decide (0 ≤ x ∧ x < 32)) := by
  unfold V148
  rw [eS148]
  by_cases h1 : 0 ≤ x <;> simp [tS148, Tr.val, h1]
theorem F148_eq (x : Int) : F148 x = decide (0 ≤ x ∧ x < 32) := by rw [F148, V148_eq]; rfl
theorem V249_eq (x : Int) : V249 x = some false := by
  unfold V249
  rw [eS249]
  simp [tS249, Tr.val]
theorem F249_eq (x : Int) : F249 x = false := by rw [F249, V249_eq]; rfl
def cmpI (x y : Int) : Int := if x < y then -1 else if y < x then 1 else 0
theorem V216_eq (x y : Int) : V216 x y = some (cmpI x y) := by
  unfold V216
  rw [eS216]
  simp only [tS216, Tr.val, V249_eq, F249_eq, Option.isSome_some, cond_true, cond_false, cond_dec, cmpI]
  split
  · rfl
  · split <;> rfl
theorem F216_eq (x y : Int) : F216 x y = cmpI x y := by rw [F216, V216_eq]; rfl
def orI (a b : Int) : Int := if a ≠ 0 then a else b
theorem V215_eq (a b : Int) : V215 [a, b] = some (orI a b) := by
  unfold V215
  rw [eS215]
  simp only [tS215, Tr.val]
  rw [eJ215_3]
  have i1 : inR .i64 ((0 : Int) + 1) = true := by decide
  have i2 : inR .i64 ((0 : Int) + 1 + 1) = true := by decide
  have n0 : nth .int [a, b] 0 = a := rfl
  have n1 : nth .int [a, b] (0 + 1) = b := rfl
  simp only [tJ215_3, Tr.val, n0, i1, cond_true, List.length_cons, List.length_nil]
  by_cases h : a = 0
  · rw [eJ215_3]
    simp only [tJ215_3, Tr.val, n1, i2, cond_true]
    by_cases h' : b = 0
    · rw [eJ215_3]
      simp [tJ215_3, Tr.val, h, h', orI, ib]
    · simp [h, h', orI, ib]
  · simp [h, orI, ib]
theorem F215_eq (a b : Int) : F215 [a, b] = orI a b := by rw [F215, V215_eq]; rfl
def cmpC (a b : Cell) : Int := orI (cmpI a.slot b.slot) (cmpI a.kind b.kind)
theorem V150_eq (a b : Cell) : V150 a b = some (cmpC a b) := by
  unfold V150
  rw [eS150]
  simp only [tS150, Tr.val, V216_eq, F216_eq, V215_eq, F215_eq, Option.isSome_some, cond_true, cmpC]
theorem F150_eq (a b : Cell) : F150 a b = cmpC a b := by rw [F150, V150_eq]; rfl
def lessC (a b : Cell) : Bool := decide (a.slot < b.slot ∨ (a.slot = b.slot ∧ a.kind < b.kind))
theorem cmpC_neg (a b : Cell) : decide (0 ≤ cmpC a b) = !lessC a b := by
  have key : 0 ≤ cmpC a b ↔ ¬ (a.slot < b.slot ∨ (a.slot = b.slot ∧ a.kind < b.kind)) := by
    unfold cmpC orI cmpI
    by_cases h1 : a.slot < b.slot <;> by_cases h2 : b.slot < a.slot <;> by_cases h3 : a.kind < b.kind <;> by_cases h4 : b.kind < a.kind <;> simp [h1, h2, h3, h4] <;> omega
  unfold lessC
  by_cases h : (a.slot < b.slot ∨ (a.slot = b.slot ∧ a.kind < b.kind))
  · simp only [h, decide_true, Bool.not_true, decide_eq_false_iff_not]; exact fun h' => (key.1 h') h
  · simp only [h, decide_false, Bool.not_false, decide_eq_true_eq]; exact key.2 h
def cellErr (nd len : Int) (c : Cell) : Int :=
  if c.kind < 1 ∨ 3 < c.kind then 1 else if c.kind ≠ 1 ∧ c.flow ≠ -1 then 1 else if c.kind = 3 ∧ (c.peer ≠ -1 ∨ c.send = true) then 1
  else if c.slot < 0 ∨ len ≤ c.slot ∨ c.offset < 0 ∨ 16 ≤ c.offset then 2 else if c.kind ≠ 3 ∧ (c.peer < 0 ∨ 32 ≤ c.peer ∨ c.peer = nd) then 2
  else if c.kind = 1 ∧ c.flow < 0 then 2 else 0
end Go.Am

namespace Go.Am
open Go Go.Proofs
set_option linter.unusedVariables false

theorem V149_eq (c : Cell) (nd len : Int) : V149 c nd len = some (cellErr nd len c) := by
  unfold V149
  rw [eS149]
  have e4 : lv cd149 C149 J149_4 = some 1 := by rw [eJ149_4]; rfl
  have e7 : lv cd149 C149 J149_7 = some 1 := by rw [eJ149_7]; rfl
  have e12 : lv cd149 C149 J149_12 = some 2 := by rw [eJ149_12]; rfl
  have e13 : lv cd149 C149 J149_13 = some 0 := by rw [eJ149_13]; rfl
  have e11 := fun b => eJ149_11 b c
  have e10 := fun a b => eJ149_10 nd a b c
  have e9 := fun a b => eJ149_9 nd a b c
  have e8 := fun a b => eJ149_8 nd len a b c
  have e6 := fun a b => eJ149_6 nd len a b c
  have e5 := fun a b => eJ149_5 nd len a b c
  simp only [tJ149_11, Tr.val, e12, e13, cond_dec] at e11
  simp only [tJ149_10, Tr.val, e12, e11, V148_eq, F148_eq, Option.isSome_some, cond_true, Bool.cond_not, cond_dec] at e10
  simp only [tJ149_9, Tr.val, e12, e10, cond_dec] at e9
  simp only [tJ149_8, Tr.val, e12, e9, cond_dec] at e8
  simp only [tJ149_6, Tr.val, e7, e8, Bool.cond_not, cond_dec] at e6
  simp only [tJ149_5, Tr.val, e7, e6, Bool.cond_not, cond_dec] at e5
  simp only [tS149, Tr.val, e4, e5, Bool.cond_not, cond_dec, cellErr]
  clear e5 e6 e8 e9 e10 e11 e4 e7 e12 e13
  by_cases h1 : c.kind < 1
  case pos =>
    have k1 : ¬ c.kind = 1 := by omega
    have k2 : ¬ c.kind = 2 := by omega
    have k3 : ¬ c.kind = 3 := by omega
    simp [h1, k1, k2, k3]
  by_cases h3 : 3 < c.kind
  case pos =>
    have k1 : ¬ c.kind = 1 := by omega
    have k2 : ¬ c.kind = 2 := by omega
    have k3 : ¬ c.kind = 3 := by omega
    simp [h1, h3, k1, k2, k3]
  have hk : c.kind = 1 ∨ c.kind = 2 ∨ c.kind = 3 := by omega
  by_cases a1 : c.flow = -1 <;> by_cases a2 : c.peer = -1 <;> cases hs : c.send <;> rcases hk with hk | hk | hk
  all_goals simp only [hk, a1, a2, Int.reduceLT, Int.reduceEq, Int.reduceNeg, if_true, if_false, or_false, false_or, and_true, true_and, and_false, false_and, ne_eq, not_true_eq_false, not_false_eq_true, cond_true, cond_false, Bool.false_eq_true, or_true, true_or, decide_true, decide_false]
  all_goals (repeat' split)
  all_goals first | rfl | (exfalso; omega) | skip
theorem F149_eq (c : Cell) (nd len : Int) : F149 c nd len = cellErr nd len c := by rw [F149, V149_eq]; rfl
def cellErrAt (nd len : Int) (cl : List Cell) (i : Nat) : Option Int :=
  if cellErr nd len (cat cl i) ≠ 0 then some (cellErr nd len (cat cl i)) else if 0 < i ∧ lessC (cat cl (i - 1)) (cat cl i) = false then some 5 else none
def tabErr (t : Tab) : Int :=
  if t.nd < 0 ∨ 32 ≤ t.nd ∨ t.len < 1 ∨ 512 < t.len then 2 else if 512 < t.cl.length then 8 else ((List.range t.cl.length).findSome? (cellErrAt t.nd t.len t.cl)).getD 0
end Go.Am

namespace Go.Am
open Go Go.Proofs
set_option linter.unusedVariables false

/-- Proved so that a rewriting by them is no matter of definition: else the kernel compares branches, states of the machine among them. -/
theorem condT {α : Type} {a b : α} : (bif true then a else b) = a := by
  have h : ∀ c : Bool, c = true → (bif c then a else b) = a := fun c hc => by cases c <;> simp_all
  exact h true rfl
theorem condF {α : Type} {a b : α} : (bif false then a else b) = b := by
  have h : ∀ c : Bool, c = false → (bif c then a else b) = b := fun c hc => by cases c <;> simp_all
  exact h false rfl
theorem getD_of {α : Type} [Inhabited α] {o : Option α} {x : α} (h : o = some x) : o.getD default = x := by rw [h]; rfl
theorem getD_drop {α : Type} [Inhabited α] {l : List α} {i : Nat} (h : i < l.length) : l.drop i = l.getD i default :: l.drop (i + 1) := by
  rw [List.drop_eq_getElem_cons h]
  simp [List.getD, h]
theorem getD_mem {α : Type} [Inhabited α] {l : List α} {i : Nat} (h : i < l.length) : l.getD i default ∈ l := by
  simp [List.getD, h]
theorem take_snoc {α : Type} [Inhabited α] {l : List α} {i : Nat} (h : i < l.length) : l.take (i + 1) = l.take i ++ [l.getD i default] := by
  rw [List.take_add_one]
  simp [List.getD, h]
theorem all_list {R α : Type} [Inhabited α] {J : Nat → Option R} {l : List α} {p : α → Bool} {bad : Option R} (h : ∀ i, i < l.length → J i = bif p (l.getD i default) then J (i + 1) else bad) : ∀ k i, i + k = l.length → J i = bif (l.drop i).all p then J l.length else bad
  | 0, i, hi => by simp at hi; rw [List.drop_of_length_le (by omega), hi]; rfl
  | k + 1, i, hi => by
    rw [h i (by omega), getD_drop (by omega : i < l.length), List.all_cons]
    cases p (l.getD i default) with
    | false => rfl
    | true => rw [Bool.true_and]; exact all_list h k (i + 1) (by omega)
theorem all_list0 {R α : Type} [Inhabited α] {J : Nat → Option R} {l : List α} {p : α → Bool} {bad : Option R} (h : ∀ i, i < l.length → J i = bif p (l.getD i default) then J (i + 1) else bad) : J 0 = bif l.all p then J l.length else bad := by
  have := all_list h l.length 0 (by omega)
  simpa using this
theorem any_list0 {R α : Type} [Inhabited α] {J : Nat → Option R} {l : List α} {p : α → Bool} {hit : Option R} (h : ∀ i, i < l.length → J i = bif p (l.getD i default) then hit else J (i + 1)) : J 0 = bif l.any p then hit else J l.length := by
  have := all_list0 (J := J) (l := l) (p := fun x => !p x) (bad := hit) (fun i hi => by rw [h i hi]; cases p (l.getD i default) <;> rfl)
  rw [this, List.all_eq_not_any_not]
  simp
theorem fold_list {A R α : Type} [Inhabited α] {J : Nat → A → Option R} {l : List α} {f : A → α → A} {inv : Nat → A → Prop} (h : ∀ i a, i < l.length → inv i a → J i a = J (i + 1) (f a (l.getD i default)) ∧ inv (i + 1) (f a (l.getD i default))) : ∀ k i a, i + k = l.length → inv i a → J i a = J l.length ((l.drop i).foldl f a) ∧ inv l.length ((l.drop i).foldl f a)
  | 0, i, a, hi, ha => by simp at hi; subst hi; rw [List.drop_of_length_le (Nat.le_refl _)]; exact ⟨rfl, ha⟩
  | k + 1, i, a, hi, ha => by
    obtain ⟨h1, h2⟩ := h i a (by omega) ha
    rw [h1, getD_drop (by omega : i < l.length), List.foldl_cons]
    exact fold_list h k (i + 1) _ (by omega) h2
theorem fold_list0 {A R α : Type} [Inhabited α] {J : Nat → A → Option R} {l : List α} {f : A → α → A} {inv : Nat → A → Prop} (h : ∀ i a, i < l.length → inv i a → J i a = J (i + 1) (f a (l.getD i default)) ∧ inv (i + 1) (f a (l.getD i default))) (a : A) (ha : inv 0 a) : J 0 a = J l.length (l.foldl f a) := by
  have := (fold_list h l.length 0 a (by omega) ha).1
  simpa using this
/-- A loop that may stop with an error. -/
theorem fold_err {A R α : Type} [Inhabited α] {J : Nat → A → Option R} {l : List α} {f : A → α → Option A} {bad : Option R} {inv : Nat → A → Prop} (h : ∀ i a, i < l.length → inv i a → (f a (l.getD i default) = none → J i a = bad) ∧ ∀ b, f a (l.getD i default) = some b → J i a = J (i + 1) b ∧ inv (i + 1) b) : ∀ k i a, i + k = l.length → inv i a → ((l.drop i).foldlM f a = none → J i a = bad) ∧ ∀ b, (l.drop i).foldlM f a = some b → J i a = J l.length b ∧ inv l.length b
  | 0, i, a, hi, ha => by
    simp at hi
    rw [List.drop_of_length_le (by omega)]
    subst hi
    refine ⟨fun h => by simp at h, fun b hb => ?_⟩
    simp at hb
    subst hb
    exact ⟨rfl, ha⟩
  | k + 1, i, a, hi, ha => by
    obtain ⟨h1, h2⟩ := h i a (by omega) ha
    rw [getD_drop (by omega : i < l.length), List.foldlM_cons]
    cases hf : f a (l.getD i default) with
    | none => exact ⟨fun _ => h1 hf, fun b hb => by simp at hb⟩
    | some a' =>
      obtain ⟨h3, h4⟩ := h2 a' hf
      rw [h3]
      exact fold_err h k (i + 1) a' (by omega) h4
theorem range_all {α : Type} [Inhabited α] (l : List α) (p : α → Bool) : ((List.range l.length).all fun i => p (l.getD i default)) = l.all p := by
  rw [Bool.eq_iff_iff]
  simp only [List.all_eq_true, List.mem_range]
  constructor
  · intro h x hx
    obtain ⟨i, hi, he⟩ := List.mem_iff_getElem.1 hx
    have := h i hi
    rwa [show l.getD i default = x by simp [List.getD, hi, he]] at this
  · intro h i hi
    exact h _ (getD_mem hi)
theorem range_any {α : Type} [Inhabited α] (l : List α) (p : α → Bool) : ((List.range l.length).any fun i => p (l.getD i default)) = l.any p := by
  have := range_all l fun x => !p x
  rw [List.any_eq_not_all_not, List.any_eq_not_all_not, this]

theorem V48_eq (t : Tab) (hl : t.cl.length ≤ 100000) : V48 t = some (tabErr t) := by
  unfold V48
  rw [eS48]
  have e2 : lv cd48 C48 J48_2 = some 2 := by rw [eJ48_2]; rfl
  have e12 : lv cd48 C48 J48_12 = some 5 := by rw [eJ48_12]; rfl
  simp only [tS48, Tr.val, e2, V148_eq, F148_eq, Option.isSome_some, condT, Bool.cond_not, cond_dec, tabErr]
  by_cases k1 : t.nd < 0 ∨ 32 ≤ t.nd ∨ t.len < 1 ∨ 512 < t.len
  case pos =>
    rw [if_pos k1]
    repeat' split
    all_goals first | rfl | omega
  rw [if_neg k1, if_pos (by omega), if_neg (by omega), if_neg (by omega), eJ48_3]
  simp only [tJ48_3, Tr.val, cond_dec]
  by_cases k2 : 512 < t.cl.length
  case pos =>
    have : (512 : Int) < t.cl.length := by omega
    simp [k2, this]
  rw [if_neg (by omega), if_neg (by omega)]
  have step : ∀ i, i < t.cl.length → lv cd48 C48 (J48_6 t.cl (t.cl.length : Int) (i : Nat) t) = (cellErrAt t.nd t.len t.cl i).or (lv cd48 C48 (J48_6 t.cl (t.cl.length : Int) ((i + 1 : Nat) : Int) t)) := by
    intro i hi
    have h1 : (i : Int) < (t.cl.length : Int) := by omega
    have h2 := ib_nat hi
    have h3 := inR_ok (n := (i : Int) + 1) (by omega) (by omega)
    have h3' := inR_ok (n := (i : Int) - 1) (by omega) (by omega)
    have h4 : nth .cell t.cl i = cat t.cl i := nth_getD (st := .cell) t.cl i
    have e13 : lv cd48 C48 (J48_13 t.cl (t.cl.length : Int) i t) = lv cd48 C48 (J48_6 t.cl (t.cl.length : Int) ((i + 1 : Nat) : Int) t) := by
      rw [eJ48_13, show ((i + 1 : Nat) : Int) = (i : Int) + 1 by omega]
      simp [tJ48_13, Tr.val, h3]
    rw [eJ48_6]
    simp only [tJ48_6, Tr.val, e13, e12, h1, h2, h3', h4, V149_eq, F149_eq, V150_eq, F150_eq, cmpC_neg, Option.isSome_some, decide_true, condT, Bool.cond_not, cond_dec, cellErrAt]
    generalize lv cd48 C48 (J48_6 t.cl (t.cl.length : Int) ((i + 1 : Nat) : Int) t) = KK
    by_cases k3 : cellErr t.nd t.len (cat t.cl i) = 0
    case neg => simp [k3]
    rcases Nat.eq_zero_or_pos i with k6 | k6
    · subst k6
      simp [k3]
    · have h5 := ib_pred k6 hi
      have h6 : nth .cell t.cl ((i : Int) - 1) = cat t.cl (i - 1) := nth_pred (st := .cell) t.cl k6
      have k7 : (0 : Int) < i := by omega
      rw [if_pos k7, if_pos (show 0 ≤ (i : Int) - 1 ∧ (i : Int) - 1 < t.cl.length by omega)]
      simp only [h6]
      cases k8 : lessC (cat t.cl (i - 1)) (cat t.cl i) <;> simp [k3, k6, k7]
  have h := find_loop (J := fun i => lv cd48 C48 (J48_6 t.cl (t.cl.length : Int) (i : Nat) t)) step t.cl.length 0 (by omega)
  have h : lv cd48 C48 (J48_6 t.cl (t.cl.length : Int) 0 t) = _ := h
  have hend : lv cd48 C48 (J48_6 t.cl (t.cl.length : Int) (t.cl.length : Nat) t) = some 0 := by
    rw [eJ48_6]
    simp [tJ48_6, Tr.val]
  rw [h, hend, ← List.range_eq_range']
  cases (List.range t.cl.length).findSome? (cellErrAt t.nd t.len t.cl) <;> rfl
theorem F48_eq (t : Tab) (hl : t.cl.length ≤ 100000) : F48 t = tabErr t := getD_of (V48_eq t hl)
theorem F41_eq (n : Int) : F41 n = nextN n := getD_of (V41_eq n)
/-- Lists short enough. -/
def okM (m : Msg) : Prop := m.sp.length ≤ 100000 ∧ m.old.length ≤ 100000
def okE (e : End) : Prop := e.cl.length ≤ 100000 ∧ okM e.ask ∧ okM e.lst ∧ okM e.rp
theorem F96_eq (m : Msg) (h : okM m) : F96 m = msgErr m := getD_of (V96_eq m h.1 h.2)
theorem F204_eq (m : Msg) : F204 m = zeroMsg m := getD_of (V204_eq m)
theorem F31_eq (a b : Msg) (h : okM a) : F31 a b = decide (a = b) := getD_of (V31_eq a b h.1 h.2)
/-! ### Messages -/
def noMsg : Msg := ⟨0, false, 0, 0, 0, [], []⟩
def refuseN (m : Msg) (c : Int) : Msg × Int := if msgErr m ≠ 0 ∨ m.rep = true then (noMsg, 1) else if c < 1 ∨ 3 < c then (noMsg, 2) else (⟨m.kind, true, m.num, c, 0, [], []⟩, 0)
theorem V98_eq (m : Msg) (c : Int) (h : okM m) : V98 m c = some (refuseN m c) := by
  unfold V98
  rw [eS98]
  simp only [tS98, Tr.val, V96_eq m h.1 h.2, F96_eq m h, eJ98_2, tJ98_2, eJ98_3, tJ98_3, eJ98_4, tJ98_4, eJ98_5, tJ98_5, Option.isSome_some, condT, Bool.cond_not, cond_dec, refuseN, noMsg]
  by_cases h1 : msgErr m = 0 <;> cases h2 : m.rep <;> by_cases h3 : c < 1 <;> by_cases h4 : 3 < c <;> simp [h1, h3, h4]
theorem F98_eq (m : Msg) (c : Int) (h : okM m) : F98 m c = refuseN m c := getD_of (V98_eq m c h)
theorem F146_eq (l m : List Spot) (hl : l.length ≤ 100000) (hm : m.length ≤ 100000) : F146 l m = amongN l m := getD_of (V146_eq l m hl hm)
theorem F147_eq (l m : List Spot) (hl : l.length ≤ 100000) : F147 l m = decide (l = m) := getD_of (V147_eq l m hl)
theorem F94_eq (l m : List Cell) (hl : l.length ≤ 100000) : F94 l m = decide (l = m) := getD_of (V94_eq l m hl)
def answersN (a b : Msg) : Bool :=
  if msgErr a ≠ 0 ∨ msgErr b ≠ 0 ∨ a.rep = true ∨ b.rep = false ∨ a.kind ≠ b.kind ∨ a.num ≠ b.num then false
  else if b.code ≠ 0 then true
  else if a.kind = 1 then decide (b.cnt ≤ a.cnt) && amongN b.sp a.sp
  else if a.kind = 3 then decide (b.cnt ≤ a.cnt) && (amongN b.sp a.sp && amongN b.old a.old)
  else if a.kind = 2 then decide (b.old = a.old)
  else true
theorem V47_eq (a b : Msg) (ha : okM a) (hb : okM b) : V47 a b = some (answersN a b) := by
  unfold V47
  rw [eS47]
  have e2 : lv cd47 C47 J47_2 = some false := by rw [eJ47_2]; rfl
  simp only [tS47, Tr.val, e2, V96_eq a ha.1 ha.2, V96_eq b hb.1 hb.2, F96_eq a ha, F96_eq b hb, Option.isSome_some, condT, Bool.cond_not, cond_dec, answersN]
  by_cases h1 : msgErr a = 0
  case neg => simp [h1]
  by_cases h2 : msgErr b = 0
  case neg => simp [h1, h2]
  cases h3 : a.rep
  case true => simp [h1, h2]
  cases h4 : b.rep
  case false => simp [h1, h2]
  by_cases h5 : a.kind = b.kind
  case neg => simp [h1, h2, h5]
  by_cases h6 : a.num = b.num
  case neg => simp [h1, h2, h5, h6]
  rw [eJ47_3]
  simp only [tJ47_3, Tr.val, V146_eq _ _ hb.1 ha.1, V146_eq _ _ hb.2 ha.2, F146_eq _ _ hb.1 ha.1, F146_eq _ _ hb.2 ha.2, V147_eq _ _ hb.2, F147_eq _ _ hb.2, Option.isSome_some, condT, Bool.cond_not, cond_dec]
  by_cases h7 : b.code = 0
  case neg => simp [h1, h2, h5, h6, h7]
  by_cases k1 : b.kind = 1
  case pos => by_cases h8 : b.cnt ≤ a.cnt <;> simp [h1, h2, h5, h6, h7, k1, h8]
  by_cases k3 : b.kind = 3
  case pos => by_cases h8 : b.cnt ≤ a.cnt <;> cases amongN b.sp a.sp <;> simp [h1, h2, h5, h6, h7, k3, h8]
  by_cases k2 : b.kind = 2
  case pos => simp [h1, h2, h5, h6, h7, k2]
  simp [h1, h2, h5, h6, h7, k1, k2, k3]
theorem F47_eq (a b : Msg) (ha : okM a) (hb : okM b) : F47 a b = answersN a b := getD_of (V47_eq a b ha hb)

end Go.Am
