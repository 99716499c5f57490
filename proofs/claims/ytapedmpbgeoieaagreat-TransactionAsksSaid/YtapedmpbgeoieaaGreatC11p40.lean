/- Part 40 of the proof: N29 N30. -/
import Derived.Test.YtapedmpbgeoieaaGreatC11p35
import Derived.Test.YtapedmpbgeoieaaGreatC11p39
set_option linter.unusedSimpArgs false
set_option linter.unusedVariables false
namespace Go.Am
open Go Go.Proofs
set_option linter.unusedVariables false

theorem V61_eq (a b : Tab) (h : a.cl.length ≤ 100000) : V61 a b = some (decide (a = b)) := by
  unfold V61
  rw [eS61]
  simp only [tS61, Tr.val, V117_eq _ _ h, F117_eq _ _ h, Option.isSome_some, condT, cond_dec]
  obtain ⟨a1, a2, a3⟩ := a
  obtain ⟨b1, b2, b3⟩ := b
  simp only [Tab.mk.injEq]
  by_cases k1 : a1 = b1 <;> by_cases k2 : a2 = b2 <;> by_cases k3 : a3 = b3 <;> simp [k1, k2, k3]
theorem F61_eq (a b : Tab) (h : a.cl.length ≤ 100000) : F61 a b = decide (a = b) := getD_of (V61_eq a b h)
theorem fits_at {t : Tab} {f : List Int} (h1 : tabErr t = 0) (h2 : maskOk f t.len = true) {s k : Nat} (hs : (s : Int) < t.len) (hk : k < 16) : fitsN t f ⟨s, k⟩ = (bitN (f.getD s default) k && !slotIn t.cl s) := by
  unfold fitsN
  rw [if_neg]
  · rw [Int.toNat_natCast]
  · rintro (h | h | h | h | h | h)
    · exact h h1
    · rw [h2] at h; cases h
    · have h : (s : Int) < 0 := h; omega
    · have h : t.len ≤ (s : Int) := h; omega
    · have h : (k : Int) < 0 := h; omega
    · have h : (16 : Int) ≤ k := h; omega
theorem V164_eq (t : Tab) (f : List Int) (ht : t.cl.length ≤ 100000) (hf : f.length ≤ 100000) : V164 t f 8 = some (candN t f) := by
  unfold V164
  rw [eS164]
  have e3 : lv cd164 C164 J164_3 = some [] := by rw [eJ164_3]; rfl
  have e12 : ∀ acc, lv cd164 C164 (J164_12 acc) = some acc := fun acc => by rw [eJ164_12]; rfl
  simp only [tS164, Tr.val, e3, V153_eq t ht, F153_eq t ht, V220_eq f _ hf, F220_eq f _ hf, Option.isSome_some, condT, Bool.cond_not, cond_dec, candN]
  by_cases h1 : tabErr t = 0
  case neg => simp [h1]
  cases h2 : maskOk f t.len
  case false => simp [h1]
  rw [if_pos h1, if_neg (show ¬ (tabErr t ≠ 0 ∨ true = false) by simp [h1])]
  simp only [condT]
  obtain ⟨hlen, _⟩ := tabErr_zero h1
  obtain ⟨n, hn⟩ : ∃ n : Nat, t.len = n := ⟨t.len.toNat, by omega⟩
  have hn' : t.len.toNat = n := by omega
  rw [hn']
  have inner : ∀ (s : Nat) (acc : List Spot), s < n → acc.length ≤ 8 → ∀ k i, i + k = 16 →
      lv cd164 C164 (J164_8 f 8 acc (s : Int) (i : Nat) t) = match (List.range' i k).find? (fun k : Nat => bitN (f.getD s default) k && !slotIn t.cl s) with
        | some j => lv cd164 C164 (J164_6 f 8 (acc ++ [⟨s, j⟩]) (s : Int) t)
        | none => lv cd164 C164 (J164_6 f 8 acc (s : Int) t) := by
    intro s acc hs hacc k
    induction k with
    | zero =>
      intro i hi
      simp at hi
      subst hi
      rw [eJ164_8]
      have h16 : ¬ (((16 : Nat) : Int) < 16) := by omega
      simp only [tJ164_8, Tr.val, h16, decide_false, condF, List.range'_zero, List.find?_nil]
    | succ k ih =>
      intro i hi
      have h1' : ((i : Nat) : Int) < 16 := by omega
      have h3 := inR_ok (n := (i : Int) + 1) (by omega) (by omega)
      have h6 : il acc ([(⟨s, i⟩ : Spot)] : List Spot) 16 = true := il_le (by omega) (by simp) (by omega)
      rw [eJ164_8]
      simp only [tJ164_8, Tr.val, h1', h3, h6, V190_eq _ _ _ ht hf, F190_eq _ _ _ ht hf, fits_at h1 h2 (show (s : Int) < t.len by omega) (show i < 16 by omega), Option.isSome_some, decide_true, condT]
      rw [List.range'_succ, List.find?_cons]
      have := ih (i + 1) (by omega)
      rw [show ((i + 1 : Nat) : Int) = (i : Int) + 1 by omega] at this
      cases bitN (f.getD s default) i && !slotIn t.cl s
      · simp only [condF]; exact this
      · simp only [condT]
  have aux : ∀ k i (acc : List Spot), i + k = n → acc.length ≤ 8 → lv cd164 C164 (J164_5 f 8 acc (i : Nat) t) = some ((acc ++ (List.range' i k).filterMap (candAt t f)).take 8) := by
    intro k
    induction k with
    | zero =>
      intro i acc hi ha
      simp at hi
      subst hi
      rw [eJ164_5]
      simp only [tJ164_5, Tr.val, e12, hn, Int.lt_irrefl, decide_false, condF, List.range'_zero, List.filterMap_nil, List.append_nil]
      rw [List.take_of_length_le ha]
    | succ k ih =>
      intro i acc hi ha
      have h1' : ((i : Nat) : Int) < t.len := by omega
      have h3 := inR_ok (n := (i : Int) + 1) (by omega) (by omega)
      have ih' := fun acc => ih (i + 1) acc (by omega)
      rw [show ((i + 1 : Nat) : Int) = (i : Int) + 1 by omega] at ih'
      have e6 : ∀ acc, lv cd164 C164 (J164_6 f 8 acc (i : Int) t) = lv cd164 C164 (J164_5 f 8 acc ((i : Int) + 1) t) := fun acc => by
        rw [eJ164_6]; simp only [tJ164_6, Tr.val, h3, condT]
      have hin := inner i acc (by omega) ha 16 0 (by omega)
      have hin : lv cd164 C164 (J164_8 f 8 acc (i : Int) 0 t) = _ := hin
      rw [eJ164_5]
      simp only [tJ164_5, Tr.val, e12, h1', eJ164_7, tJ164_7, hin, e6, decide_true, condT, cond_dec]
      by_cases hfull : (acc.length : Int) < 8
      · have hr : List.range' i (k + 1) = i :: List.range' (i + 1) k := by rw [List.range'_succ]
        rw [if_pos hfull, hr, List.filterMap_cons]
        have hc : candAt t f i = if slotIn t.cl i = true then none else ((List.range' 0 16).find? fun k : Nat => bitN (f.getD i default) k).map fun k : Nat => (⟨i, k⟩ : Spot) := by
          unfold candAt; rw [List.range_eq_range']
        rw [hc]
        cases hsl : slotIn t.cl i
        · simp only [Bool.not_false, Bool.and_true, Bool.false_eq_true, if_false]
          cases hfind : (List.range' 0 16).find? fun k : Nat => bitN (f.getD i default) k with
          | none => simp only [Option.map_none]; exact ih' acc ha
          | some j =>
            simp only [Option.map_some]
            rw [ih' _ (by simp; omega)]
            simp
        · have hnone : (List.range' 0 16).find? (fun k : Nat => bitN (f.getD i default) k && !true) = none := by
            rw [List.find?_eq_none]; intro x _; simp
          rw [hnone]
          simp only [if_true]
          exact ih' acc ha
      · rw [if_neg hfull]
        have : acc.length = 8 := by omega
        rw [← this, List.take_left]
  rw [eJ164_4]
  simp only [tJ164_4, Tr.val]
  have := aux n 0 [] (by omega) (by simp)
  rw [← List.range_eq_range'] at this
  simpa using this
theorem F164_eq (t : Tab) (f : List Int) (ht : t.cl.length ≤ 100000) (hf : f.length ≤ 100000) : F164 t f 8 = candN t f := getD_of (V164_eq t f ht hf)
theorem V157_eq (c : Int) : V157 c = some (failN c) := by
  unfold V157
  rw [eS157]
  rfl
theorem F157_eq (c : Int) : F157 c = failN c := getD_of (V157_eq c)
def ascAt (l : List Spot) (i : Nat) : Bool := decide (i = 0) || decide ((sat l (i - 1)).sslot < (sat l i).sslot)
def ascOk (l : List Spot) : Bool := (List.range l.length).all (ascAt l)
theorem asc_from {l : List Spot} (h : 1 ≤ l.length) : ascOk l = (List.range' 1 (l.length - 1)).all (ascAt l) := by
  obtain ⟨n, hn⟩ : ∃ n, l.length = n + 1 := ⟨l.length - 1, by omega⟩
  unfold ascOk
  rw [hn, List.range_eq_range', List.range'_succ, List.all_cons]
  have : ascAt l 0 = true := rfl
  rw [this]
  simp
def moveN (e : End) (t : Tab) (f : List Int) (old : List Spot) (slot : Int) : End × Msg × Int :=
  if (fullN t e).2 ≠ 0 then failN (fullN t e).2
  else if ¬ (0 ≤ slot ∧ slot ≤ 1099511627776) ∨ old.length < 1 ∨ 8 < old.length then failN 2
  else if e.opn = true then failN 12
  else if (old.all fun s => hasN e.cl s true) = false then failN 7
  else if ascOk old = false then failN 5
  else if (candN (fullN t e).1 f).length < old.length then failN 14
  else openN e ⟨3, false, 0, 0, old.length, candN (fullN t e).1 f, old⟩ slot
theorem V57_eq (e : End) (t : Tab) (f : List Int) (old : List Spot) (slot : Int) (he : okE e) (hl : e.cl.length ≤ 512) (ht : t.cl.length ≤ 1000) (hfl : f.length ≤ 100000) (ho : old.length ≤ 100000) : V57 e t f old slot = some (moveN e t f old slot) := by
  unfold V57
  rw [eS57]
  have e6 : ∀ (x0 : Int) (x1 : Int) (x2 : Int) (x3 : Bool) (x4 : Int) (x5 : Int) (x6 : Bool) (x7 : Int) (x8 : Int) (x9 : Int) (x10 : Bool) (x11 : Int) (x12 : Bool) (x13 : Int) (x14 : Int) (x15 : Int) (x16 : Int) (x17 : Bool) (x18 : Int) (x19 : Int) (x20 : Int) (x21 : Int) (x22 : Bool) (x23 : Int) (x24 : Int) (x25 : Int), lv cd57 C57 (J57_6 x0 x1 x2 x3 x4 x5 x6 x7 x8 x9 x10 x11 x12 x13 x14 x15 x16 x17 x18 x19 x20 x21 x22 x23 x24 x25) = some (failN 2) := fun x0 x1 x2 x3 x4 x5 x6 x7 x8 x9 x10 x11 x12 x13 x14 x15 x16 x17 x18 x19 x20 x21 x22 x23 x24 x25 => by rw [eJ57_6]; simp only [tJ57_6, Tr.val, V157_eq, F157_eq, Option.isSome_some, condT]
  simp only [tS57, Tr.val, V36_eq t e he hl ht, F36_eq t e he hl ht, V157_eq, F157_eq, V128_eq, F128_eq, e6, Option.isSome_some, condT, Bool.cond_not, cond_dec, moveN]
  by_cases h1 : (fullN t e).2 = 0
  case neg => rw [if_neg h1, if_pos h1]
  rw [if_pos h1, if_neg (show ¬ (fullN t e).2 ≠ 0 from fun hh => hh h1)]
  by_cases h2 : 0 ≤ slot ∧ slot ≤ 1099511627776
  case neg => rw [if_neg h2, if_pos (.inl h2)]
  by_cases h3 : old.length < 1
  case pos => rw [if_pos h2, if_pos (show (old.length : Int) < 1 by omega), if_pos (.inr (.inl h3))]
  by_cases h4 : 8 < old.length
  case pos => rw [if_pos h2, if_neg (show ¬ (old.length : Int) < 1 by omega), if_pos (show (8 : Int) < old.length by omega), if_pos (.inr (.inr h4))]
  rw [if_pos h2, if_neg (show ¬ (old.length : Int) < 1 by omega), if_neg (show ¬ (8 : Int) < old.length by omega), if_neg (show ¬ (¬ (0 ≤ slot ∧ slot ≤ 1099511627776) ∨ old.length < 1 ∨ 8 < old.length) by omega)]
  have hfull : (fullN t e).1.cl.length ≤ 100000 := by have := full_len (t := t) (e := e); omega
  have hcl := cand_len (fullN t e).1 f
  have v130 := V130_eq (fullN t e).1 f hfull hfl
  have f130 := F130_eq (fullN t e).1 f hfull hfl
  generalize candN (fullN t e).1 f = ca at *
  have v132 := V132_eq e ⟨3, false, 0, 0, old.length, ca, old⟩ slot he ⟨by show ca.length ≤ _; omega, ho⟩
  have f132 : F132 e ⟨3, false, 0, 0, old.length, ca, old⟩ slot = _ := getD_of v132
  rw [eJ57_7]
  simp only [tJ57_7, Tr.val, V157_eq, F157_eq, Option.isSome_some, condT, cond_dec]
  cases h6 : e.opn
  case true => rfl
  simp only [condF, Bool.false_eq_true, if_false]
  have l12 : ∀ (x6 : Int) (x7 : Int) (x8 : Int) (x9 : Bool) (x10 : Int) (x11 : Int) (x12 : Bool) (x13 : Int) (x14 : Int) (x15 : Int) (x16 : Bool) (x17 : Int) (x18 : Bool) (x19 : Int) (x20 : Int) (x21 : Int) (x22 : Int) (x23 : Bool) (x24 : Int) (x25 : Int) (x26 : Int) (x27 : Int) (x28 : Bool) (x29 : Int) (x30 : Int) (x31 : Int), lv cd57 C57 (J57_12 f old slot ((old.length : Int)) 0 e x6 x7 x8 x9 x10 x11 x12 x13 x14 x15 x16 x17 x18 x19 x20 x21 x22 x23 x24 x25 x26 x27 x28 x29 x30 x31 ((fullN t e).1)) = some (if ascOk old = false then failN 5 else if ca.length < old.length then failN 14 else openN e ⟨3, false, 0, 0, old.length, ca, old⟩ slot) := by
    intro x6 x7 x8 x9 x10 x11 x12 x13 x14 x15 x16 x17 x18 x19 x20 x21 x22 x23 x24 x25 x26 x27 x28 x29 x30 x31
    have step : ∀ i, i < old.length → lv cd57 C57 (J57_12 f old slot ((old.length : Int)) (((i : Nat) : Int)) e x6 x7 x8 x9 x10 x11 x12 x13 x14 x15 x16 x17 x18 x19 x20 x21 x22 x23 x24 x25 x26 x27 x28 x29 x30 x31 ((fullN t e).1)) = bif ascAt old i then lv cd57 C57 (J57_12 f old slot ((old.length : Int)) (((i + 1 : Nat) : Int)) e x6 x7 x8 x9 x10 x11 x12 x13 x14 x15 x16 x17 x18 x19 x20 x21 x22 x23 x24 x25 x26 x27 x28 x29 x30 x31 ((fullN t e).1)) else some (failN 5) := by
      intro i hi
      have g1 : (i : Int) < (old.length : Int) := by omega
      have g2 := ib_nat hi
      have g3 := inR_ok (n := (i : Int) + 1) (by omega) (by omega)
      have g3' := inR_ok (n := (i : Int) - 1) (by omega) (by omega)
      have g4 : nth .spot old i = sat old i := nth_getD (st := .spot) old i
      rw [eJ57_12, show ((i + 1 : Nat) : Int) = (i : Int) + 1 by omega]
      simp only [tJ57_12, Tr.val, g1, g2, g3', g4, eJ57_15, tJ57_15, eJ57_16, tJ57_16, g3, V157_eq, F157_eq, Option.isSome_some, decide_true, condT, cond_dec]
      rcases Nat.eq_zero_or_pos i with k | k
      · subst k
        rw [if_neg (show ¬ (0 : Int) < ((0 : Nat) : Int) by omega)]
        rfl
      · have g5 := ib_pred k hi
        have g6 : nth .spot old ((i : Int) - 1) = sat old (i - 1) := nth_pred (st := .spot) old k
        rw [if_pos (show (0 : Int) < (i : Int) by omega), if_pos (show 0 ≤ (i : Int) - 1 ∧ (i : Int) - 1 < old.length by omega), g6]
        have ha : ascAt old i = decide ((sat old (i - 1)).sslot < (sat old i).sslot) := by unfold ascAt; rw [decide_eq_false (by omega)]; rfl
        rw [ha]
        by_cases hc : (sat old i).sslot ≤ (sat old (i - 1)).sslot
        · rw [if_pos hc, decide_eq_false (by omega)]; rfl
        · rw [if_neg hc, decide_eq_true (by omega)]; rfl
    have hloop := all_loop (J := fun i => lv cd57 C57 (J57_12 f old slot ((old.length : Int)) (((i : Nat) : Int)) e x6 x7 x8 x9 x10 x11 x12 x13 x14 x15 x16 x17 x18 x19 x20 x21 x22 x23 x24 x25 x26 x27 x28 x29 x30 x31 ((fullN t e).1))) step old.length 0 (by omega)
    have hloop : lv cd57 C57 (J57_12 f old slot ((old.length : Int)) 0 e x6 x7 x8 x9 x10 x11 x12 x13 x14 x15 x16 x17 x18 x19 x20 x21 x22 x23 x24 x25 x26 x27 x28 x29 x30 x31 ((fullN t e).1)) = _ := hloop
    have hend : lv cd57 C57 (J57_12 f old slot ((old.length : Int)) (((old.length : Nat) : Int)) e x6 x7 x8 x9 x10 x11 x12 x13 x14 x15 x16 x17 x18 x19 x20 x21 x22 x23 x24 x25 x26 x27 x28 x29 x30 x31 ((fullN t e).1)) = some (if ca.length < old.length then failN 14 else openN e ⟨3, false, 0, 0, old.length, ca, old⟩ slot) := by
      rw [eJ57_12]
      simp only [tJ57_12, Tr.val, Int.lt_irrefl, decide_false, condF, v130, f130, V157_eq, F157_eq, V161_ok old (by omega), F161_ok old (by omega), v132, f132, Option.isSome_some, condT, cond_dec]
      by_cases hc : ca.length < old.length
      · rw [if_pos (show (ca.length : Int) < old.length by omega), if_pos hc]
      · rw [if_neg (show ¬ (ca.length : Int) < old.length by omega), if_neg hc]
    rw [hloop, ← List.range_eq_range', hend]
    show (bif ascOk old then _ else _) = _
    cases ascOk old <;> rfl
  have step : ∀ i, i < old.length → ∀ (x3 : List Spot) (x4 : Bool) (x5 : List Spot) (x9 : Bool) (x10 : Bool) (x11 : List Spot) (x13 : Int) (x14 : Int) (x15 : Int) (x16 : Bool) (x17 : Int) (x18 : Int) (x19 : Bool) (x20 : Int) (x21 : Int) (x22 : Int) (x23 : Bool) (x24 : Int) (x25 : Bool) (x26 : Int) (x27 : Int) (x28 : Int) (x29 : Int) (x30 : Bool) (x31 : Int) (x32 : Int) (x33 : Int) (x34 : Int) (x35 : Bool) (x36 : Int) (x37 : Int) (x38 : Int), lv cd57 C57 (J57_2_218_0 old ((old.length : Int)) (((i : Nat) : Int)) x3 x4 x5 f old slot x9 x10 x11 e x13 x14 x15 x16 x17 x18 x19 x20 x21 x22 x23 x24 x25 x26 x27 x28 x29 x30 x31 x32 x33 x34 x35 x36 x37 x38 ((fullN t e).1)) = bif hasN e.cl (old.getD i default) true then lv cd57 C57 (J57_2_218_0 old ((old.length : Int)) (((i + 1 : Nat) : Int)) x3 x4 x5 f old slot x9 x10 x11 e x13 x14 x15 x16 x17 x18 x19 x20 x21 x22 x23 x24 x25 x26 x27 x28 x29 x30 x31 x32 x33 x34 x35 x36 x37 x38 ((fullN t e).1)) else some (failN 7) := by
    intro i hi x3 x4 x5 x9 x10 x11 x13 x14 x15 x16 x17 x18 x19 x20 x21 x22 x23 x24 x25 x26 x27 x28 x29 x30 x31 x32 x33 x34 x35 x36 x37 x38
    have g1 : (i : Int) < (old.length : Int) := by omega
    have g2 := ib_nat hi
    have g3 := inR_ok (n := (i : Int) + 1) (by omega) (by omega)
    have g4 : nth .spot old i = old.getD i default := nth_getD (st := .spot) old i
    have g5 : (0 : Int) ≤ i := by omega
    rw [eJ57_2_218_0, show ((i + 1 : Nat) : Int) = (i : Int) + 1 by omega]
    simp only [tJ57_2_218_0, Tr.val, g1, g2, g3, g4, g5, V160_eq _ _ _ he.1, F160_eq _ _ _ he.1, V157_eq, F157_eq, Option.isSome_some, decide_true, condT, Bool.cond_not]
  have outer : ∀ (x3 : List Spot) (x4 : Bool) (x5 : List Spot) (x9 : Bool) (x10 : Bool) (x11 : List Spot) (x13 : Int) (x14 : Int) (x15 : Int) (x16 : Bool) (x17 : Int) (x18 : Int) (x19 : Bool) (x20 : Int) (x21 : Int) (x22 : Int) (x23 : Bool) (x24 : Int) (x25 : Bool) (x26 : Int) (x27 : Int) (x28 : Int) (x29 : Int) (x30 : Bool) (x31 : Int) (x32 : Int) (x33 : Int) (x34 : Int) (x35 : Bool) (x36 : Int) (x37 : Int) (x38 : Int), lv cd57 C57 (J57_2_218_0 old ((old.length : Int)) 0 x3 x4 x5 f old slot x9 x10 x11 e x13 x14 x15 x16 x17 x18 x19 x20 x21 x22 x23 x24 x25 x26 x27 x28 x29 x30 x31 x32 x33 x34 x35 x36 x37 x38 ((fullN t e).1)) = some (if (old.all fun s => hasN e.cl s true) = false then failN 7 else if ascOk old = false then failN 5 else if ca.length < old.length then failN 14 else openN e ⟨3, false, 0, 0, old.length, ca, old⟩ slot) := by
    intro x3 x4 x5 x9 x10 x11 x13 x14 x15 x16 x17 x18 x19 x20 x21 x22 x23 x24 x25 x26 x27 x28 x29 x30 x31 x32 x33 x34 x35 x36 x37 x38
    have h := all_list0 (J := fun i => lv cd57 C57 (J57_2_218_0 old ((old.length : Int)) (((i : Nat) : Int)) x3 x4 x5 f old slot x9 x10 x11 e x13 x14 x15 x16 x17 x18 x19 x20 x21 x22 x23 x24 x25 x26 x27 x28 x29 x30 x31 x32 x33 x34 x35 x36 x37 x38 ((fullN t e).1))) (l := old) (p := fun s => hasN e.cl s true) (bad := some (failN 7)) (fun i hi => step i hi ..)
    have h : lv cd57 C57 (J57_2_218_0 old ((old.length : Int)) 0 x3 x4 x5 f old slot x9 x10 x11 e x13 x14 x15 x16 x17 x18 x19 x20 x21 x22 x23 x24 x25 x26 x27 x28 x29 x30 x31 x32 x33 x34 x35 x36 x37 x38 ((fullN t e).1)) = _ := h
    have hend : lv cd57 C57 (J57_2_218_0 old ((old.length : Int)) (((old.length : Nat) : Int)) x3 x4 x5 f old slot x9 x10 x11 e x13 x14 x15 x16 x17 x18 x19 x20 x21 x22 x23 x24 x25 x26 x27 x28 x29 x30 x31 x32 x33 x34 x35 x36 x37 x38 ((fullN t e).1)) = some (if ascOk old = false then failN 5 else if ca.length < old.length then failN 14 else openN e ⟨3, false, 0, 0, old.length, ca, old⟩ slot) := by
      rw [eJ57_2_218_0]
      simp only [tJ57_2_218_0, Tr.val, Int.lt_irrefl, decide_false, condF, l12]
    rw [h, hend]
    cases old.all fun s => hasN e.cl s true <;> rfl
  exact outer ..
theorem F57_eq (e : End) (t : Tab) (f : List Int) (old : List Spot) (slot : Int) (he : okE e) (hl : e.cl.length ≤ 512) (ht : t.cl.length ≤ 1000) (hfl : f.length ≤ 100000) (ho : old.length ≤ 100000) : F57 e t f old slot = moveN e t f old slot := getD_of (V57_eq e t f old slot he hl ht hfl ho)
theorem V58_eq (e : End) (t : Tab) (f : List Int) (old : List Spot) (slot : Int) (he : okE e) (hl : e.cl.length ≤ 512) (ht : t.cl.length ≤ 1000) (hfl : f.length ≤ 100000) (ho : old.length ≤ 100000) : V58 e t f old slot = some (moveN e t f old slot) := by
  unfold V58
  rw [eS58]
  have e5 : ∀ (x0 : Int) (x1 : Int) (x2 : Int) (x3 : Bool) (x4 : Int) (x5 : Int) (x6 : Bool) (x7 : Int) (x8 : Int) (x9 : Int) (x10 : Bool) (x11 : Int) (x12 : Bool) (x13 : Int) (x14 : Int) (x15 : Int) (x16 : Int) (x17 : Bool) (x18 : Int) (x19 : Int) (x20 : Int) (x21 : Int) (x22 : Bool) (x23 : Int) (x24 : Int) (x25 : Int), lv cd58 C58 (J58_5 x0 x1 x2 x3 x4 x5 x6 x7 x8 x9 x10 x11 x12 x13 x14 x15 x16 x17 x18 x19 x20 x21 x22 x23 x24 x25) = some (failN 2) := fun x0 x1 x2 x3 x4 x5 x6 x7 x8 x9 x10 x11 x12 x13 x14 x15 x16 x17 x18 x19 x20 x21 x22 x23 x24 x25 => by rw [eJ58_5]; rfl
  simp only [tS58, Tr.val, V59_eq t e he hl ht, F59_eq t e he hl ht, e5, Option.isSome_some, condT, Bool.cond_not, cond_dec, moveN]
  by_cases h1 : (fullN t e).2 = 0
  case neg => rw [if_neg h1, if_pos h1]; rfl
  rw [if_pos h1, if_neg (show ¬ (fullN t e).2 ≠ 0 from fun hh => hh h1)]
  by_cases h2 : ¬ (0 ≤ slot ∧ slot ≤ 1099511627776) ∨ old.length < 1 ∨ 8 < old.length
  case pos =>
    rw [if_pos h2]
    repeat' split
    all_goals first | rfl | omega
  rw [if_neg h2, if_neg (show ¬ slot < 0 by omega), if_neg (show ¬ (1099511627776 : Int) < slot by omega), if_neg (show ¬ (old.length : Int) < 1 by omega), if_neg (show ¬ (8 : Int) < old.length by omega)]
  have hfull : (fullN t e).1.cl.length ≤ 100000 := by have := full_len (t := t) (e := e); omega
  have hcl := cand_len (fullN t e).1 f
  have v164 := V164_eq (fullN t e).1 f hfull hfl
  have f164 := F164_eq (fullN t e).1 f hfull hfl
  generalize candN (fullN t e).1 f = ca at *
  have hM : okM ⟨3, false, e.num, 0, old.length, ca, old⟩ := ⟨by show ca.length ≤ _; omega, ho⟩
  have hsl : (sendsOf e.cl).length ≤ 100000 := by have := sends_len e.cl; omega
  rw [eJ58_6]
  simp only [tJ58_6, Tr.val]
  cases h6 : e.opn
  case true => rfl
  simp only [condF, Bool.false_eq_true, if_false]
  have l14 : ∀ (x5 : Int) (x6 : Int) (x7 : Int) (x8 : Bool) (x9 : Int) (x10 : Int) (x11 : Bool) (x12 : Int) (x13 : Int) (x14 : Int) (x15 : Bool) (x16 : Int) (x17 : Bool) (x18 : Int) (x19 : Int) (x20 : Int) (x21 : Int) (x22 : Bool) (x23 : Int) (x24 : Int) (x25 : Int) (x26 : Int) (x27 : Bool) (x28 : Int) (x29 : Int) (x30 : Int), lv cd58 C58 (J58_14 f old slot 1 e x5 x6 x7 x8 x9 x10 x11 x12 x13 x14 x15 x16 x17 x18 x19 x20 x21 x22 x23 x24 x25 x26 x27 x28 x29 x30 ((fullN t e).1)) = some (if ascOk old = false then failN 5 else if ca.length < old.length then failN 14 else openN e ⟨3, false, 0, 0, old.length, ca, old⟩ slot) := by
    intro x5 x6 x7 x8 x9 x10 x11 x12 x13 x14 x15 x16 x17 x18 x19 x20 x21 x22 x23 x24 x25 x26 x27 x28 x29 x30
    have hend : lv cd58 C58 (J58_14 f old slot (((old.length : Nat) : Int)) e x5 x6 x7 x8 x9 x10 x11 x12 x13 x14 x15 x16 x17 x18 x19 x20 x21 x22 x23 x24 x25 x26 x27 x28 x29 x30 ((fullN t e).1)) = some (if ca.length < old.length then failN 14 else openN e ⟨3, false, 0, 0, old.length, ca, old⟩ slot) := by
      rw [eJ58_14]
      simp only [tJ58_14, Tr.val, Int.lt_irrefl, decide_false, condF, v164, f164, V109_eq e he, F109_eq e he, V112_eq _ hM, F112_eq _ hM, Option.isSome_some, condT, cond_dec]
      by_cases hc : ca.length < old.length
      · rw [if_pos (show (ca.length : Int) < old.length by omega), if_pos hc]; rfl
      · rw [if_neg (show ¬ (ca.length : Int) < old.length by omega), if_neg hc]; rfl
    -- a walk from the second place on
    have walk : ∀ k i, i + k = old.length → 1 ≤ i → lv cd58 C58 (J58_14 f old slot (((i : Nat) : Int)) e x5 x6 x7 x8 x9 x10 x11 x12 x13 x14 x15 x16 x17 x18 x19 x20 x21 x22 x23 x24 x25 x26 x27 x28 x29 x30 ((fullN t e).1)) = bif (List.range' i k).all (ascAt old) then lv cd58 C58 (J58_14 f old slot (((old.length : Nat) : Int)) e x5 x6 x7 x8 x9 x10 x11 x12 x13 x14 x15 x16 x17 x18 x19 x20 x21 x22 x23 x24 x25 x26 x27 x28 x29 x30 ((fullN t e).1)) else some (failN 5) := by
      intro k
      induction k with
      | zero => intro i hi _; simp at hi; rw [hi]; rfl
      | succ k ih =>
        intro i hi h0
        have hil : i < old.length := by omega
        have g1 : (i : Int) < (old.length : Int) := by omega
        have g2 := ib_nat hil
        have g3 := inR_ok (n := (i : Int) + 1) (by omega) (by omega)
        have g3' := inR_ok (n := (i : Int) - 1) (by omega) (by omega)
        have g4 : nth .spot old i = sat old i := nth_getD (st := .spot) old i
        have g5 := ib_pred (by omega : 0 < i) hil
        have g6 : nth .spot old ((i : Int) - 1) = sat old (i - 1) := nth_pred (st := .spot) old (by omega)
        have ih := ih (i + 1) (by omega) (by omega)
        rw [show ((i + 1 : Nat) : Int) = (i : Int) + 1 by omega] at ih
        have ha : ascAt old i = decide ((sat old (i - 1)).sslot < (sat old i).sslot) := by unfold ascAt; rw [decide_eq_false (by omega)]; rfl
        rw [eJ58_14]
        simp only [tJ58_14, Tr.val, g1, g2, g3, g3', g4, g5, g6, ih, decide_true, condT, cond_dec]
        rw [List.range'_succ, List.all_cons, ha]
        by_cases hc : (sat old i).sslot ≤ (sat old (i - 1)).sslot
        · rw [if_pos hc, decide_eq_false (by omega)]; rfl
        · rw [if_neg hc, decide_eq_true (by omega), Bool.true_and]
    have hw := walk (old.length - 1) 1 (by omega) (by omega)
    have hw : lv cd58 C58 (J58_14 f old slot 1 e x5 x6 x7 x8 x9 x10 x11 x12 x13 x14 x15 x16 x17 x18 x19 x20 x21 x22 x23 x24 x25 x26 x27 x28 x29 x30 ((fullN t e).1)) = _ := hw
    rw [hw, hend, ← asc_from (by omega)]
    cases ascOk old <;> rfl
  have step : ∀ i, i < old.length → ∀ (x5 : Int) (x6 : Int) (x7 : Int) (x8 : Bool) (x9 : Int) (x10 : Int) (x11 : Bool) (x12 : Int) (x13 : Int) (x14 : Int) (x15 : Bool) (x16 : Int) (x17 : Bool) (x18 : Int) (x19 : Int) (x20 : Int) (x21 : Int) (x22 : Bool) (x23 : Int) (x24 : Int) (x25 : Int) (x26 : Int) (x27 : Bool) (x28 : Int) (x29 : Int) (x30 : Int), lv cd58 C58 (J58_9 f old slot (((i : Nat) : Int)) e x5 x6 x7 x8 x9 x10 x11 x12 x13 x14 x15 x16 x17 x18 x19 x20 x21 x22 x23 x24 x25 x26 x27 x28 x29 x30 ((fullN t e).1)) = bif hasN e.cl (old.getD i default) true then lv cd58 C58 (J58_9 f old slot (((i + 1 : Nat) : Int)) e x5 x6 x7 x8 x9 x10 x11 x12 x13 x14 x15 x16 x17 x18 x19 x20 x21 x22 x23 x24 x25 x26 x27 x28 x29 x30 ((fullN t e).1)) else some (failN 7) := by
    intro i hi x5 x6 x7 x8 x9 x10 x11 x12 x13 x14 x15 x16 x17 x18 x19 x20 x21 x22 x23 x24 x25 x26 x27 x28 x29 x30
    have g1 : (i : Int) < (old.length : Int) := by omega
    have g2 := ib_nat hi
    have g3 := inR_ok (n := (i : Int) + 1) (by omega) (by omega)
    have g4 : nth .spot old i = old.getD i default := nth_getD (st := .spot) old i
    rw [eJ58_9, show ((i + 1 : Nat) : Int) = (i : Int) + 1 by omega]
    simp only [tJ58_9, Tr.val, g1, g2, g3, g4, V163_eq e he.1, F163_eq e he.1, V162_eq _ _ hsl, F162_eq _ _ hsl, Option.isSome_some, decide_true, condT, Bool.cond_not, cond_dec]
    by_cases hm : old.getD i default ∈ sendsOf e.cl
    · rw [if_pos hm, mem_sends.1 hm]; rfl
    · rw [if_neg hm]
      have : hasN e.cl (old.getD i default) true = false := by
        cases hb : hasN e.cl (old.getD i default) true
        · rfl
        · exact absurd (mem_sends.2 hb) hm
      rw [this]; rfl
  have outer : ∀ (x5 : Int) (x6 : Int) (x7 : Int) (x8 : Bool) (x9 : Int) (x10 : Int) (x11 : Bool) (x12 : Int) (x13 : Int) (x14 : Int) (x15 : Bool) (x16 : Int) (x17 : Bool) (x18 : Int) (x19 : Int) (x20 : Int) (x21 : Int) (x22 : Bool) (x23 : Int) (x24 : Int) (x25 : Int) (x26 : Int) (x27 : Bool) (x28 : Int) (x29 : Int) (x30 : Int), lv cd58 C58 (J58_9 f old slot 0 e x5 x6 x7 x8 x9 x10 x11 x12 x13 x14 x15 x16 x17 x18 x19 x20 x21 x22 x23 x24 x25 x26 x27 x28 x29 x30 ((fullN t e).1)) = some (if (old.all fun s => hasN e.cl s true) = false then failN 7 else if ascOk old = false then failN 5 else if ca.length < old.length then failN 14 else openN e ⟨3, false, 0, 0, old.length, ca, old⟩ slot) := by
    intro x5 x6 x7 x8 x9 x10 x11 x12 x13 x14 x15 x16 x17 x18 x19 x20 x21 x22 x23 x24 x25 x26 x27 x28 x29 x30
    have h := all_list0 (J := fun i => lv cd58 C58 (J58_9 f old slot (((i : Nat) : Int)) e x5 x6 x7 x8 x9 x10 x11 x12 x13 x14 x15 x16 x17 x18 x19 x20 x21 x22 x23 x24 x25 x26 x27 x28 x29 x30 ((fullN t e).1))) (l := old) (p := fun s => hasN e.cl s true) (bad := some (failN 7)) (fun i hi => step i hi ..)
    have h : lv cd58 C58 (J58_9 f old slot 0 e x5 x6 x7 x8 x9 x10 x11 x12 x13 x14 x15 x16 x17 x18 x19 x20 x21 x22 x23 x24 x25 x26 x27 x28 x29 x30 ((fullN t e).1)) = _ := h
    have hend : lv cd58 C58 (J58_9 f old slot (((old.length : Nat) : Int)) e x5 x6 x7 x8 x9 x10 x11 x12 x13 x14 x15 x16 x17 x18 x19 x20 x21 x22 x23 x24 x25 x26 x27 x28 x29 x30 ((fullN t e).1)) = some (if ascOk old = false then failN 5 else if ca.length < old.length then failN 14 else openN e ⟨3, false, 0, 0, old.length, ca, old⟩ slot) := by
      rw [eJ58_9]
      simp only [tJ58_9, Tr.val, Int.lt_irrefl, decide_false, condF, l14]
    rw [h, hend]
    cases old.all fun s => hasN e.cl s true <;> rfl
  exact outer ..
theorem F58_eq (e : End) (t : Tab) (f : List Int) (old : List Spot) (slot : Int) (he : okE e) (hl : e.cl.length ≤ 512) (ht : t.cl.length ≤ 1000) (hfl : f.length ≤ 100000) (ho : old.length ≤ 100000) : F58 e t f old slot = moveN e t f old slot := getD_of (V58_eq e t f old slot he hl ht hfl ho)

end Go.Am

namespace Go.Am
open Go Go.Proofs
set_option linter.unusedVariables false

theorem V60_eq (e : End) (t : Tab) (f : List Int) (k c slot : Int) (he : okE e) (hl : e.cl.length ≤ 512) (ht : t.cl.length ≤ 1000) (hfl : f.length ≤ 100000) : V60 e t f k c slot = some (askN e t f k c slot) := by
  unfold V60
  rw [eS60]
  have e5 : ∀ (x0 : Int) (x1 : Int) (x2 : Int) (x3 : Bool) (x4 : Int) (x5 : Int) (x6 : Bool) (x7 : Int) (x8 : Int) (x9 : Int) (x10 : Bool) (x11 : Int) (x12 : Bool) (x13 : Int) (x14 : Int) (x15 : Int) (x16 : Int) (x17 : Bool) (x18 : Int) (x19 : Int) (x20 : Int) (x21 : Int) (x22 : Bool) (x23 : Int) (x24 : Int) (x25 : Int), lv cd60 C60 (J60_5 x0 x1 x2 x3 x4 x5 x6 x7 x8 x9 x10 x11 x12 x13 x14 x15 x16 x17 x18 x19 x20 x21 x22 x23 x24 x25) = some (failN 2) := fun x0 x1 x2 x3 x4 x5 x6 x7 x8 x9 x10 x11 x12 x13 x14 x15 x16 x17 x18 x19 x20 x21 x22 x23 x24 x25 => by rw [eJ60_5]; rfl
  have e7 : ∀ (x0 : Int) (x1 : Int) (x2 : Int) (x3 : Bool) (x4 : Int) (x5 : Int) (x6 : Bool) (x7 : Int) (x8 : Int) (x9 : Int) (x10 : Bool) (x11 : Int) (x12 : Bool) (x13 : Int) (x14 : Int) (x15 : Int) (x16 : Int) (x17 : Bool) (x18 : Int) (x19 : Int) (x20 : Int) (x21 : Int) (x22 : Bool) (x23 : Int) (x24 : Int) (x25 : Int), lv cd60 C60 (J60_7 x0 x1 x2 x3 x4 x5 x6 x7 x8 x9 x10 x11 x12 x13 x14 x15 x16 x17 x18 x19 x20 x21 x22 x23 x24 x25) = some (failN 2) := fun x0 x1 x2 x3 x4 x5 x6 x7 x8 x9 x10 x11 x12 x13 x14 x15 x16 x17 x18 x19 x20 x21 x22 x23 x24 x25 => by rw [eJ60_7]; rfl
  simp only [tS60, Tr.val, V59_eq t e he hl ht, F59_eq t e he hl ht, e5, Option.isSome_some, condT, Bool.cond_not, cond_dec, askN]
  by_cases h1 : (fullN t e).2 = 0
  case neg => rw [if_neg h1, if_pos h1]; rfl
  rw [if_pos h1, if_neg (show ¬ (fullN t e).2 ≠ 0 from fun hh => hh h1)]
  by_cases h2 : k < 1
  case pos => rw [if_pos h2, if_pos (show k < 1 ∨ 6 < k ∨ ¬ (0 ≤ slot ∧ slot ≤ 1099511627776) ∨ countsN k c = false from .inl h2)]
  by_cases h3 : 6 < k
  case pos => rw [if_neg h2, if_pos h3, if_pos (show k < 1 ∨ 6 < k ∨ ¬ (0 ≤ slot ∧ slot ≤ 1099511627776) ∨ countsN k c = false from .inr (.inl h3))]
  by_cases h4 : 0 ≤ slot ∧ slot ≤ 1099511627776
  case neg =>
    rw [if_neg h2, if_neg h3, if_pos (show k < 1 ∨ 6 < k ∨ ¬ (0 ≤ slot ∧ slot ≤ 1099511627776) ∨ countsN k c = false from .inr (.inr (.inl h4)))]
    repeat' split
    all_goals first | rfl | omega
  rw [if_neg h2, if_neg h3, if_neg (show ¬ slot < 0 by omega), if_neg (show ¬ (1099511627776 : Int) < slot by omega)]
  have e6 : ∀ (x5 : Int) (x6 : Int) (x7 : Int) (x8 : Bool) (x9 : Int) (x10 : Int) (x11 : Bool) (x12 : Int) (x13 : Int) (x14 : Int) (x15 : Bool) (x16 : Int) (x17 : Bool) (x18 : Int) (x19 : Int) (x20 : Int) (x21 : Int) (x22 : Bool) (x23 : Int) (x24 : Int) (x25 : Int) (x26 : Int) (x27 : Bool) (x28 : Int) (x29 : Int) (x30 : Int), lv cd60 C60 (J60_6 f k c slot e x5 x6 x7 x8 x9 x10 x11 x12 x13 x14 x15 x16 x17 x18 x19 x20 x21 x22 x23 x24 x25 x26 x27 x28 x29 x30 ((fullN t e).1)) = bif countsN k c then lv cd60 C60 (J60_8 f k c slot e x5 x6 x7 x8 x9 x10 x11 x12 x13 x14 x15 x16 x17 x18 x19 x20 x21 x22 x23 x24 x25 x26 x27 x28 x29 x30 ((fullN t e).1)) else some (failN 2) := by
    intro x5 x6 x7 x8 x9 x10 x11 x12 x13 x14 x15 x16 x17 x18 x19 x20 x21 x22 x23 x24 x25 x26 x27 x28 x29 x30
    rw [eJ60_6]
    simp only [tJ60_6, Tr.val, e7, Bool.cond_not, cond_dec, countsN]
    by_cases q1 : k ≤ 3
    · rw [if_pos q1, if_pos q1, if_neg (show ¬ 3 < k by omega)]
      by_cases q2 : c < 1
      · rw [if_pos q2, decide_eq_false (by omega)]; rfl
      · by_cases q3 : 8 < c
        · rw [if_neg q2, if_pos q3, decide_eq_false (by omega)]; rfl
        · rw [if_neg q2, if_neg q3, decide_eq_true (by omega), condT]
    · rw [if_neg q1, if_neg q1, if_pos (show 3 < k by omega)]
      by_cases q2 : c = 0
      · rw [if_pos q2, decide_eq_true q2, condT]
      · rw [if_neg q2, decide_eq_false q2]; rfl
  rw [e6]
  cases h5 : countsN k c
  case false => rw [if_pos (show k < 1 ∨ 6 < k ∨ ¬ (0 ≤ slot ∧ slot ≤ 1099511627776) ∨ false = false from .inr (.inr (.inr rfl)))]; rfl
  rw [if_neg (show ¬ (k < 1 ∨ 6 < k ∨ ¬ (0 ≤ slot ∧ slot ≤ 1099511627776) ∨ true = false) by intro hh; rcases hh with hh | hh | hh | hh; exact h2 hh; exact h3 hh; exact hh h4; cases hh)]
  rw [condT]
  have hfull : (fullN t e).1.cl.length ≤ 100000 := by have := full_len (t := t) (e := e); omega
  have hsl : (sendsOf e.cl).length ≤ 512 := by have := sends_len e.cl; omega
  have hcl := cand_len (fullN t e).1 f
  have v164 := V164_eq (fullN t e).1 f hfull hfl
  have f164 := F164_eq (fullN t e).1 f hfull hfl
  have v163 := V163_eq e he.1
  have f163 := F163_eq e he.1
  unfold askSp askOld
  generalize candN (fullN t e).1 f = ca at *
  generalize sendsOf e.cl = l at *
  have v112 : ∀ sp old : List Spot, sp.length ≤ 600 → old.length ≤ 600 → V112 ⟨k, false, e.num, 0, c, sp, old⟩ = some ⟨k, false, e.num, 0, c, sp, old⟩ := fun sp old a b => V112_eq _ ⟨by show sp.length ≤ _; omega, by show old.length ≤ _; omega⟩
  have f112 : ∀ sp old : List Spot, sp.length ≤ 600 → old.length ≤ 600 → F112 ⟨k, false, e.num, 0, c, sp, old⟩ = ⟨k, false, e.num, 0, c, sp, old⟩ := fun sp old a b => getD_of (v112 sp old a b)
  have v109 := V109_eq e he
  have f109 := F109_eq e he
  rw [eJ60_8]
  simp only [tJ60_8, Tr.val, cond_dec]
  cases h6 : e.opn
  case true => rfl
  simp only [condF, Bool.false_eq_true, if_false]
  have n0 : ([] : List Spot).length ≤ 600 := by simp
  have nca : ca.length ≤ 600 := by omega
  have hkk : k = 1 ∨ k = 2 ∨ k = 3 ∨ (4 ≤ k ∧ k ≤ 6) := by omega
  have cok : k ≤ 3 → 1 ≤ c ∧ c ≤ 8 := fun hk => by unfold countsN at h5; rw [if_pos hk] at h5; exact of_decide_eq_true h5
  rcases hkk with hk | hk | hk | hk
  · have k2 : ¬ k = 2 := by omega
    have k3 : ¬ k = 3 := by omega
    rw [if_pos hk, if_pos (show k = 1 ∨ k = 3 from .inl hk), if_neg k2, if_neg k3, eJ60_12]
    simp only [tJ60_12, Tr.val, v164, f164, eJ60_15_60_1, tJ60_15_60_1, v163, eJ60_22_60_1, tJ60_22_60_1, v109, f109, v112 ca [] nca n0, f112 ca [] nca n0, Option.isSome_some, condT, cond_dec, if_neg k2, if_neg k3]
    by_cases hlt : (ca.length : Int) < c
    · rw [if_pos hlt, if_pos ⟨.inl hk, hlt⟩]; rfl
    · rw [if_neg hlt, if_neg (show ¬ ((k = 1 ∨ k = 3) ∧ (ca.length : Int) < c) by omega), if_neg (show ¬ ((k = 2 ∨ k = 3) ∧ (l.length : Int) < c) by omega)]
      rfl
  · have k1 : ¬ k = 1 := by omega
    have k3 : ¬ k = 3 := by omega
    obtain ⟨c1, c2⟩ := cok (by omega)
    have nd : (l.drop ((l.length : Int) - c).toNat).length ≤ 600 := by rw [List.length_drop]; omega
    have hnot : ¬ ((k = 1 ∨ k = 3) ∧ (ca.length : Int) < c) := by omega
    have hn13 : ¬ (k = 1 ∨ k = 3) := by omega
    rw [if_neg k1, if_neg k3, if_neg hn13, if_pos hk, if_neg hnot, eJ60_15]
    by_cases hlt : (l.length : Int) < c
    · rw [if_pos ⟨.inl hk, hlt⟩]
      simp only [tJ60_15, Tr.val, v163, f163, eJ60_17, tJ60_17, Option.isSome_some, condT, cond_dec, if_pos hlt, if_pos hk]
      rfl
    · have g1 : ic c l = true := by simp [ic]; omega
      have g2 : inR .i64 ((l.length : Int) - c) = true := inR_ok (by omega) (by omega)
      have g3 : ic ((l.length : Int) - c) l = true := by simp [ic]; omega
      rw [if_neg (show ¬ ((k = 2 ∨ k = 3) ∧ (l.length : Int) < c) by omega)]
      simp only [tJ60_15, Tr.val, v163, f163, eJ60_17, tJ60_17, g1, g2, g3, eJ60_22_60_2, tJ60_22_60_2, v109, f109, v112 [] _ n0 nd, f112 [] _ n0 nd, Option.isSome_some, condT, cond_dec, if_neg hlt, if_pos hk]
      rfl
  · have k1 : ¬ k = 1 := by omega
    have k2 : ¬ k = 2 := by omega
    obtain ⟨c1, c2⟩ := cok (by omega)
    have nt : (l.take c.toNat).length ≤ 600 := by rw [List.length_take]; omega
    rw [if_neg k1, if_pos hk, if_pos (show k = 1 ∨ k = 3 from .inr hk), if_neg k2, eJ60_12]
    simp only [tJ60_12, Tr.val, v164, f164, Option.isSome_some, condT, cond_dec]
    by_cases hlt : (ca.length : Int) < c
    · rw [if_pos hlt, if_pos ⟨.inr hk, hlt⟩]; rfl
    · rw [if_neg hlt, if_neg (show ¬ ((k = 1 ∨ k = 3) ∧ (ca.length : Int) < c) by omega), eJ60_15_60_1]
      by_cases hlt2 : (l.length : Int) < c
      · rw [if_pos ⟨.inr hk, hlt2⟩]
        simp only [tJ60_15_60_1, Tr.val, v163, f163, if_neg k2, if_pos hk, eJ60_17_60_1, tJ60_17_60_1, Option.isSome_some, condT, cond_dec, if_pos hlt2]
        rfl
      · have g1 : ic c l = true := by simp [ic]; omega
        rw [if_neg (show ¬ ((k = 2 ∨ k = 3) ∧ (l.length : Int) < c) by omega)]
        simp only [tJ60_15_60_1, Tr.val, v163, f163, if_neg k2, if_pos hk, eJ60_17_60_1, tJ60_17_60_1, g1, eJ60_22_60_3, tJ60_22_60_3, v109, f109, v112 _ _ nca nt, f112 _ _ nca nt, Option.isSome_some, condT, cond_dec, if_neg hlt2]
        rfl
  · have k1 : ¬ k = 1 := by omega
    have k2 : ¬ k = 2 := by omega
    have k3 : ¬ k = 3 := by omega
    have hn13 : ¬ (k = 1 ∨ k = 3) := by omega
    have hna : ¬ ((k = 1 ∨ k = 3) ∧ (ca.length : Int) < c) := by omega
    have hnb : ¬ ((k = 2 ∨ k = 3) ∧ (l.length : Int) < c) := by omega
    rw [if_neg k1, if_neg k3, if_neg hn13, if_neg hna, if_neg hnb, if_neg k2, eJ60_15]
    simp only [tJ60_15, Tr.val, v163, f163, if_neg k2, if_neg k3, eJ60_22, tJ60_22, v109, f109, v112 [] [] n0 n0, f112 [] [] n0 n0, Option.isSome_some, condT, cond_dec]
    rfl
theorem F60_eq (e : End) (t : Tab) (f : List Int) (k c slot : Int) (he : okE e) (hl : e.cl.length ≤ 512) (ht : t.cl.length ≤ 1000) (hfl : f.length ≤ 100000) : F60 e t f k c slot = askN e t f k c slot := getD_of (V60_eq e t f k c slot he hl ht hfl)
theorem failN_ok {c : Int} : okE (failN c).1 ∧ okM (failN c).2.1 := ⟨⟨by show 0 ≤ 100000; omega, noMsg_ok, noMsg_ok, noMsg_ok⟩, noMsg_ok⟩
theorem openN_ok {e : End} {m : Msg} {s : Int} (he : okE e) (hm : okM m) : okE (openN e m s).1 ∧ okM (openN e m s).2.1 := ⟨⟨he.1, hm, he.2.2.1, he.2.2.2⟩, hm⟩
theorem askN_ok {e : End} {t : Tab} {f : List Int} {k c slot : Int} (he : okE e) (hl : e.cl.length ≤ 512) : okE (askN e t f k c slot).1 ∧ okM (askN e t f k c slot).2.1 := by
  unfold askN
  split
  · exact failN_ok
  · split
    · exact failN_ok
    · split
      · exact failN_ok
      · split
        · exact failN_ok
        · split
          · exact failN_ok
          · refine openN_ok he ⟨?_, ?_⟩
            · show (askSp (fullN t e).1 f k).length ≤ _
              unfold askSp
              split
              · have := cand_len (fullN t e).1 f; omega
              · simp
            · show (askOld e k c).length ≤ _
              have := sends_len e.cl
              unfold askOld
              split
              · rw [List.length_drop]; omega
              · split
                · rw [List.length_take]; omega
                · simp
theorem moveN_ok {e : End} {t : Tab} {f : List Int} {old : List Spot} {slot : Int} (he : okE e) (ho : old.length ≤ 100000) : okE (moveN e t f old slot).1 ∧ okM (moveN e t f old slot).2.1 := by
  unfold moveN
  split
  · exact failN_ok
  · split
    · exact failN_ok
    · split
      · exact failN_ok
      · split
        · exact failN_ok
        · split
          · exact failN_ok
          · split
            · exact failN_ok
            · exact openN_ok he ⟨by have := cand_len (fullN t e).1 f; show (candN (fullN t e).1 f).length ≤ _; omega, ho⟩
theorem V11_true (e : End) (t : Tab) (f : List Int) (k c slot : Int) (old : List Spot) (wk : (Lit.int .i64 k).wf = true) (wc : (Lit.int .i64 c).wf = true) (ws : (Lit.int .i64 slot).wf = true) : V11 e t f k c slot old = some true := by
  have ha := V24_true
  have hF : F24 = true := getD_of ha
  unfold V11
  rw [eS11]
  have e4 : lv cd11 C11 J11_4 = some true := by rw [eJ11_4]; rfl
  simp only [tS11, Tr.val, ha, hF, V25_eq, F25_eq, V26_eq, F26_eq, e4, Option.isSome_some, condT, Bool.not_true, condF, Bool.cond_not, cond_dec]
  cases h1 : fewE e
  case false => rfl
  cases h2 : fewT t
  case false => rfl
  simp only [condT]
  by_cases h3 : (600 : Int) < f.length
  case pos => rw [if_pos h3]
  by_cases h4 : (12 : Int) < old.length
  case pos => rw [if_neg h3, if_pos h4]
  rw [if_neg h3, if_neg h4]
  have he := fewE_ok h1
  have ht' := fewT_ok h2
  have ht : t.cl.length ≤ 1000 := by omega
  have hl : e.cl.length ≤ 512 := by simp [fewE] at h1; omega
  have hfl : f.length ≤ 100000 := by omega
  have ho : old.length ≤ 100000 := by omega
  obtain ⟨m1, m2⟩ := moveN_ok (t := t) (f := f) (slot := slot) he ho
  obtain ⟨a1, a2⟩ := askN_ok (t := t) (f := f) (k := k) (c := c) (slot := slot) he hl
  have hfull : (fullN t e).1.cl.length ≤ 100000 := by have := full_len (t := t) (e := e); omega
  rw [eJ11_5]
  simp only [tJ11_5, Tr.val, V57_eq e t f old slot he hl ht hfl ho, F57_eq e t f old slot he hl ht hfl ho, V58_eq e t f old slot he hl ht hfl ho, F58_eq e t f old slot he hl ht hfl ho, V30_eq _ _ m1, F30_eq _ _ m1, V31_eq _ _ m2.1 m2.2, F31_eq _ _ m2, Option.isSome_some, decide_true, condT, condF, Bool.not_true]
  rw [eJ11_9]
  simp only [tJ11_9, Tr.val, V36_eq t e he hl ht, F36_eq t e he hl ht, V59_eq t e he hl ht, F59_eq t e he hl ht, V37_eq e t f k c slot he hl ht hfl, F37_eq e t f k c slot he hl ht hfl, V60_eq e t f k c slot he hl ht hfl, F60_eq e t f k c slot he hl ht hfl, V61_eq _ _ hfull, F61_eq _ _ hfull, V30_eq _ _ a1, F30_eq _ _ a1, V31_eq _ _ a2.1 a2.2, F31_eq _ _ a2, Option.isSome_some, decide_true, condT]

end Go.Am
