/- Part 38 of the proof: N19 N20 N21 N22 N25. -/
import Derived.Test.YtapedmpbgeoieaaGreatC3p34
import Derived.Test.YtapedmpbgeoieaaGreatC3p35
import Derived.Test.YtapedmpbgeoieaaGreatC3p37
namespace Go.Am
open Go Go.Proofs
set_option linter.unusedVariables false

theorem moved_nil (e : End) (b : Bool) : movedN e [] [] b = e.cl := by
  unfold movedN restB
  rw [List.foldl_nil]
  exact filter_all fun x _ => by simp
theorem L29_37 (x5 : Int) (x6 : Int) (x7 : Int) (x8 : Bool) (x9 : Int) (x10 : Int) (x11 : Bool) (x12 : Int) (x13 : Int) (x14 : Int) (x15 : Bool) (x16 : Int) (x17 : Bool) (x18 : Int) (x19 : Int) (x20 : Int) (x21 : Int) (x22 : Bool) (x23 : Int) (x24 : Int) (x25 : Int) (x26 : Int) (x27 : Bool) (x28 : Int) (x29 : Int) (x30 : Int) (sp : List Spot) (old : List Spot) (c : Int) (e E : End) (m : Msg) (hm : okM m) (h1 : sp.length ≤ 100000) (h2 : old.length ≤ 100000) : lv cd29 C29 (J29_37 sp old c e m x5 x6 x7 x8 x9 x10 x11 x12 x13 x14 x15 x16 x17 x18 x19 x20 x21 x22 x23 x24 x25 x26 x27 x28 x29 x30 E) = some (knownN { E with num := nextN e.num } m (acceptN m c sp old).1) := by
  have h0 : ([] : List Spot).length ≤ 100000 := by simp
  have hr : okM (acceptN m c sp old).1 := acceptN_ok h1 h2
  rw [eJ29_37]
  simp only [tJ29_37, Tr.val, V55_eq, F55_eq, V110_eq _ _ _ _ hm h1 h2, F110_eq _ _ _ _ hm h1 h2, V111_eq _ _ _ hm hr, F111_eq _ _ _ hm hr, Option.isSome_some, condT]
theorem L29_37_29_1 (x4 : Int) (x5 : Int) (x6 : Int) (x7 : Bool) (x8 : Int) (x9 : Int) (x10 : Bool) (x11 : Int) (x12 : Int) (x13 : Int) (x14 : Bool) (x15 : Int) (x16 : Bool) (x17 : Int) (x18 : Int) (x19 : Int) (x20 : Int) (x21 : Bool) (x22 : Int) (x23 : Int) (x24 : Int) (x25 : Int) (x26 : Bool) (x27 : Int) (x28 : Int) (x29 : Int) (sp : List Spot) (c : Int) (e E : End) (m : Msg) (hm : okM m) (h1 : sp.length ≤ 100000) : lv cd29 C29 (J29_37_29_1 sp c e m x4 x5 x6 x7 x8 x9 x10 x11 x12 x13 x14 x15 x16 x17 x18 x19 x20 x21 x22 x23 x24 x25 x26 x27 x28 x29 E) = some (knownN { E with num := nextN e.num } m (acceptN m c sp []).1) := by
  have h0 : ([] : List Spot).length ≤ 100000 := by simp
  have hr : okM (acceptN m c sp []).1 := acceptN_ok h1 h0
  rw [eJ29_37_29_1]
  simp only [tJ29_37_29_1, Tr.val, V55_eq, F55_eq, V110_eq _ _ _ _ hm h1 h0, F110_eq _ _ _ _ hm h1 h0, V111_eq _ _ _ hm hr, F111_eq _ _ _ hm hr, Option.isSome_some, condT]
theorem L29_37_29_2 (x5 : Int) (x6 : Int) (x7 : Int) (x8 : Bool) (x9 : Int) (x10 : Int) (x11 : Bool) (x12 : Int) (x13 : Int) (x14 : Int) (x15 : Bool) (x16 : Int) (x17 : Bool) (x18 : Int) (x19 : Int) (x20 : Int) (x21 : Int) (x22 : Bool) (x23 : Int) (x24 : Int) (x25 : Int) (x26 : Int) (x27 : Bool) (x28 : Int) (x29 : Int) (x30 : Int) (sp : List Spot) (old : List Spot) (c : Int) (e E : End) (m : Msg) (hm : okM m) (h1 : sp.length ≤ 100000) (h2 : old.length ≤ 100000) : lv cd29 C29 (J29_37_29_2 sp old c e m x5 x6 x7 x8 x9 x10 x11 x12 x13 x14 x15 x16 x17 x18 x19 x20 x21 x22 x23 x24 x25 x26 x27 x28 x29 x30 E) = some (knownN { E with num := nextN e.num } m (acceptN m c sp old).1) := by
  have h0 : ([] : List Spot).length ≤ 100000 := by simp
  have hr : okM (acceptN m c sp old).1 := acceptN_ok h1 h2
  rw [eJ29_37_29_2]
  simp only [tJ29_37_29_2, Tr.val, V55_eq, F55_eq, V110_eq _ _ _ _ hm h1 h2, F110_eq _ _ _ _ hm h1 h2, V111_eq _ _ _ hm hr, F111_eq _ _ _ hm hr, Option.isSome_some, condT]
theorem L29_37_29_3 (x4 : Int) (x5 : Int) (x6 : Int) (x7 : Bool) (x8 : Int) (x9 : Int) (x10 : Bool) (x11 : Int) (x12 : Int) (x13 : Int) (x14 : Bool) (x15 : Int) (x16 : Bool) (x17 : Int) (x18 : Int) (x19 : Int) (x20 : Int) (x21 : Bool) (x22 : Int) (x23 : Int) (x24 : Int) (x25 : Int) (x26 : Bool) (x27 : Int) (x28 : Int) (x29 : Int) (sp : List Spot) (c : Int) (e E : End) (m : Msg) (hm : okM m) (h1 : sp.length ≤ 100000) : lv cd29 C29 (J29_37_29_3 sp c e m x4 x5 x6 x7 x8 x9 x10 x11 x12 x13 x14 x15 x16 x17 x18 x19 x20 x21 x22 x23 x24 x25 x26 x27 x28 x29 E) = some (knownN { E with num := nextN e.num } m (acceptN m c sp []).1) := by
  have h0 : ([] : List Spot).length ≤ 100000 := by simp
  have hr : okM (acceptN m c sp []).1 := acceptN_ok h1 h0
  rw [eJ29_37_29_3]
  simp only [tJ29_37_29_3, Tr.val, V55_eq, F55_eq, V110_eq _ _ _ _ hm h1 h0, F110_eq _ _ _ _ hm h1 h0, V111_eq _ _ _ hm hr, F111_eq _ _ _ hm hr, Option.isSome_some, condT]
theorem L29_list (x5 : Int) (x6 : Int) (x7 : Int) (x8 : Bool) (x9 : Int) (x10 : Int) (x11 : Bool) (x12 : Int) (x13 : Int) (x14 : Int) (x15 : Bool) (x16 : Int) (x17 : Bool) (x18 : Int) (x19 : Int) (x20 : Int) (x21 : Int) (x22 : Bool) (x23 : Int) (x24 : Int) (x25 : Int) (x26 : Int) (x27 : Bool) (x28 : Int) (x29 : Int) (x30 : Int) (c : Int) (e E : End) (m : Msg) (hm : okM m) : ∀ (k i : Nat) (acc : List Spot), i + k = (e.cl.take 8).length → acc.length ≤ i →
    lv cd29 C29 (J29_34_29_1 acc c (((i : Nat) : Int)) e m x5 x6 x7 x8 x9 x10 x11 x12 x13 x14 x15 x16 x17 x18 x19 x20 x21 x22 x23 x24 x25 x26 x27 x28 x29 x30 E) = some (knownN { E with num := nextN e.num } m (acceptN m c (acc ++ ((e.cl.take 8).drop i).map placeC) []).1) := by
  intro k
  induction k with
  | zero =>
    intro i acc hi ha
    simp only [Nat.add_zero] at hi
    rw [List.drop_of_length_le (by omega), List.map_nil, List.append_nil, eJ29_34_29_1]
    have hi8 : i ≤ 8 := by rw [hi, List.length_take]; omega
    have hacc : acc.length ≤ 100000 := by omega
    simp only [tJ29_34_29_1, Tr.val, cond_dec, L29_37_29_1 (hm := hm) (h1 := hacc)]
    by_cases h1 : (i : Int) < (e.cl.length : Int)
    · rw [if_pos h1]
      have : ¬ (i : Int) < 8 := by rw [List.length_take] at hi; omega
      rw [if_neg this]
    · rw [if_neg h1]
  | succ k ih =>
    intro i acc hi ha
    have hil8 : i < (e.cl.take 8).length := by omega
    have hil : i < e.cl.length := by rw [List.length_take] at hil8; omega
    have h8 : (i : Int) < 8 := by rw [List.length_take] at hil8; omega
    have h1 : (i : Int) < (e.cl.length : Int) := by omega
    have h2 : ib (i : Int) e.cl = true := ib_nat hil
    have h3 := inR_ok (n := (i : Int) + 1) (by omega) (by omega)
    have h4 : nth .cell e.cl i = e.cl.getD i default := nth_getD (st := .cell) e.cl i
    have h5 : il acc ([(⟨(e.cl.getD i default).slot, (e.cl.getD i default).offset⟩ : Spot)] : List Spot) 16 = true := il_le (by omega) (by simp) (by omega)
    rw [eJ29_34_29_1]
    simp only [tJ29_34_29_1, Tr.val, h1, h8, eJ29_36_29_1, tJ29_36_29_1, h2, h3, h4, h5, decide_true, condT]
    have := ih (i + 1) (acc ++ [placeC (e.cl.getD i default)]) (by omega) (by simp; omega)
    rw [show ((i + 1 : Nat) : Int) = (i : Int) + 1 by omega] at this
    have hg : (e.cl.take 8).getD i default = e.cl.getD i default := by
      simp only [List.getD, List.getElem?_take]
      rw [if_pos (by omega)]
    rw [getD_drop hil8, List.map_cons, hg]
    have h9 : acc ++ placeC (e.cl.getD i default) :: ((e.cl.take 8).drop (i + 1)).map placeC = (acc ++ [placeC (e.cl.getD i default)]) ++ ((e.cl.take 8).drop (i + 1)).map placeC := by simp
    rw [h9]
    exact this
theorem refuseN_ok {m : Msg} {c : Int} : okM (refuseN m c).1 := by
  unfold refuseN
  split
  · exact noMsg_ok
  · split
    · exact noMsg_ok
    · exact ⟨by show 0 ≤ 100000; omega, by show 0 ≤ 100000; omega⟩
theorem receive_ok {e : End} {t : Tab} {f : List Int} {m : Msg} (he : okE e) (hl : e.cl.length ≤ 512) (ht : t.cl.length ≤ 1000) (hm : okM m) : okE (receiveN e t f m).1 ∧ okM (receiveN e t f m).2.1 := by
  have h0 : ([] : List Spot).length ≤ 100000 := by simp
  have hno : ∀ c, okE (noN e m c).1 ∧ okM (noN e m c).2.1 := fun c => ⟨he, refuseN_ok⟩
  have hdone : ∀ (cl : List Cell) (c : Int) (sp old : List Spot), cl.length ≤ 100000 → sp.length ≤ 100000 → old.length ≤ 100000 → okE (doneN e m cl c sp old).1 ∧ okM (doneN e m cl c sp old).2.1 := fun cl c sp old h1 h2 h3 =>
    ⟨known_ok (e := { e with num := nextN e.num, cl := cl }) ⟨h1, he.2⟩ hm (acceptN_ok h2 h3), acceptN_ok h2 h3⟩
  unfold receiveN
  split
  · exact ⟨⟨by show 0 ≤ 100000; omega, noMsg_ok, noMsg_ok, noMsg_ok⟩, noMsg_ok⟩
  · split
    · exact ⟨⟨by show 0 ≤ 100000; omega, noMsg_ok, noMsg_ok, noMsg_ok⟩, noMsg_ok⟩
    · rename_i hx
      simp only [not_or, Decidable.not_not] at hx
      obtain ⟨_, _, hl8, _⟩ := msgErr_zero hx.1
      split
      · exact ⟨known_ok (e := ⟨e.nd, e.pr, 0, [], false, 0, noMsg, false, noMsg, noMsg⟩) ⟨by simp, noMsg_ok, noMsg_ok, noMsg_ok⟩ hm (acceptN_ok h0 h0), acceptN_ok h0 h0⟩
      · split
        · exact ⟨he, he.2.2.2⟩
        · split
          · exact hno 3
          · split
            · exact hno 1
            · have hus : (usableN (fullN t e).1 f m.sp m.cnt).length ≤ 8 := by
                unfold usableN
                have := List.length_filter_le (fitsN (fullN t e).1 f) m.sp
                rw [List.length_take]; omega
              generalize usableN (fullN t e).1 f m.sp m.cnt = us at *
              unfold tailN
              have hml := fun old sp => movedN_len e old sp false
              split
              · split
                · exact hno 2
                · exact hdone _ _ _ _ (by have := hml [] us; omega) (by omega) h0
              · split
                · split
                  · exact hno 2
                  · exact hdone _ _ _ _ (by have := hml (m.old.take us.length) us; omega) (by omega) (by rw [List.length_take]; omega)
                · split
                  · split
                    · exact hno 2
                    · exact hdone _ _ _ _ (by have := hml m.old []; simp at this; omega) h0 hm.2
                  · split
                    · exact hdone _ _ _ _ he.1 (by rw [List.length_map, List.length_take]; omega) h0
                    · exact hdone _ _ _ _ he.1 h0 h0
theorem noN_ref {e : End} {m : Msg} (hm : okM m) (c : Int) : V113 e m c = some (noN e m c) ∧ F113 e m c = noN e m c := ⟨V113_eq e m c hm, F113_eq e m c hm⟩
theorem V29_eq (e : End) (t : Tab) (f : List Int) (m : Msg) (he : okE e) (hl : e.cl.length ≤ 512) (ht : t.cl.length ≤ 1000) (hfl : f.length ≤ 100000) (hm : okM m) : V29 e t f m = some (receiveN e t f m) := by
  unfold V29
  rw [eS29]
  simp only [tS29, Tr.val, V59_eq t e he hl ht, F59_eq t e he hl ht, V108_eq m hm.1 hm.2, F108_eq m hm, eJ29_5, tJ29_5, Option.isSome_some, condT, Bool.cond_not, cond_dec, receiveN]
  by_cases h1 : (fullN t e).2 = 0
  case neg => rw [if_neg h1, if_pos h1]; rfl
  rw [if_pos h1, if_neg (show ¬ (fullN t e).2 ≠ 0 from fun hh => hh h1)]
  by_cases h2 : msgErr m = 0
  case neg => rw [if_neg h2, if_pos (.inl h2)]; rfl
  rw [if_pos h2]
  cases h3 : m.rep
  case true => rw [if_pos (.inr rfl)]; rfl
  rw [if_neg (show ¬ (msgErr m ≠ 0 ∨ false = true) by simp [h2])]
  simp only [condF]
  have hR := rcv_of he hl h1 h2 h3
  have h0 : ([] : List Spot).length ≤ 100000 := by simp
  have hr0 : okM (acceptN m 0 [] []).1 := acceptN_ok h0 h0
  rw [eJ29_6]
  simp only [tJ29_6, Tr.val, V109_eq e he, F109_eq e he, V110_eq _ _ _ _ hm h0 h0, F110_eq _ _ _ _ hm h0 h0, V111_eq _ _ _ hm hr0, F111_eq _ _ _ hm hr0, V31_eq _ _ he.2.2.1.1 he.2.2.1.2, F31_eq _ _ he.2.2.1, Option.isSome_some, condT, cond_dec]
  by_cases h4 : m.kind = 6
  · rw [if_pos h4, if_pos h4]
    rfl
  rw [if_neg h4, if_neg h4]
  obtain ⟨hk1, hc, hl8, hsp0, hold0, hf⟩ := msgErr_zero h2
  have ascold := (spotsErr_zero hold0).2
  have hlist : ∀ l : List Spot, (l.Pairwise fun a b => a.sslot < b.sslot) → l.length ≤ 100000 → V115 e l = some (listensN e.cl l) ∧ F115 e l = listensN e.cl l := by
    intro l hl1 hl2
    have := V115_eq e l he.1 hl2
    rw [count_listens hR.asc.1 hl1] at this
    exact ⟨this, getD_of this⟩
  obtain ⟨v115, f115⟩ := hlist m.old ascold hm.2
  have hfull : (fullN t e).1.cl.length ≤ 100000 := by have := full_len (t := t) (e := e); omega
  have hus : (usableN (fullN t e).1 f m.sp m.cnt).length ≤ 8 := by
    unfold usableN
    have := List.length_filter_le (fitsN (fullN t e).1 f) m.sp
    rw [List.length_take]; omega
  have husc : (usableN (fullN t e).1 f m.sp m.cnt).length ≤ m.cnt.toNat := List.length_take_le _ _
  have v114 := V114_eq (fullN t e).1 f m.sp m.cnt hfull hfl hm.1
  have f114 := F114_eq (fullN t e).1 f m.sp m.cnt hfull hfl hm.1
  generalize usableN (fullN t e).1 f m.sp m.cnt = us at *
  have hhl : e.cl.length ≤ 1000 := by omega
  have tail : ∀ (x3 : Int) (x4 : Int) (x5 : Int) (x6 : Bool) (x7 : Int) (x8 : Int) (x9 : Bool) (x10 : Int) (x11 : Int) (x12 : Int) (x13 : Bool) (x14 : Int) (x15 : Bool) (x16 : Int) (x17 : Int) (x18 : Int) (x19 : Int) (x20 : Bool) (x21 : Int) (x22 : Int) (x23 : Int) (x24 : Int) (x25 : Bool) (x26 : Int) (x27 : Int) (x28 : Int), lv cd29 C29 (J29_12 f e m x3 x4 x5 x6 x7 x8 x9 x10 x11 x12 x13 x14 x15 x16 x17 x18 x19 x20 x21 x22 x23 x24 x25 x26 x27 x28 ((fullN t e).1) e) = some (if e.opn = true then noN e m 3 else if m.num ≠ e.num then noN e m 1 else tailN e m us) := by
    intro x3 x4 x5 x6 x7 x8 x9 x10 x11 x12 x13 x14 x15 x16 x17 x18 x19 x20 x21 x22 x23 x24 x25 x26 x27 x28
    rw [eJ29_12]
    simp only [tJ29_12, Tr.val, (noN_ref hm 3).1, (noN_ref hm 3).2, (noN_ref hm 1).1, (noN_ref hm 1).2, Option.isSome_some, condT, Bool.cond_not, cond_dec]
    cases h5 : e.opn
    case true => rfl
    simp only [condF, Bool.false_eq_true, if_false]
    by_cases h6 : m.num = e.num
    case neg => rw [if_neg h6, if_pos h6]
    rw [if_pos h6, if_neg (show ¬ m.num ≠ e.num from fun hh => hh h6)]
    have hkk : m.kind = 1 ∨ m.kind = 2 ∨ m.kind = 3 ∨ m.kind = 4 ∨ m.kind = 5 := by omega
    rcases hkk with hk | hk | hk | hk | hk
    · rw [if_pos hk, eJ29_21, tailN, if_pos hk]
      have hold : m.old = [] := (follows_add hf h3 hk).2.1
      have hli : listensN e.cl m.old = true := by rw [hold]; rfl
      have hmv := V116_eq e [] us false hhl h0 (by omega)
      have hmf := F116_eq e [] us false hhl h0 (by omega)
      have n3 : ¬ m.kind = 3 := by omega
      have n5 : ¬ m.kind = 5 := by omega
      simp only [tJ29_21, Tr.val, v114, f114, v115, f115, hli, eJ29_23, tJ29_23, (noN_ref hm 2).1, (noN_ref hm 2).2, eJ29_24, tJ29_24, n3, n5, eJ29_26_29_1, tJ29_26_29_1, eJ29_31_29_3, tJ29_31_29_3, hmv, hmf, Option.isSome_some, condT, Bool.cond_not, cond_dec, decide_false, condF, L29_37_29_3 (hm := hm) (h1 := show us.length ≤ 100000 by omega)]
      by_cases hz : us = []
      · rw [if_pos (by rw [hz]; rfl), if_pos hz]
      · rw [if_neg (by have := List.length_pos_iff.2 hz; omega), if_neg hz]
        rfl
    · rw [if_neg (by omega), if_neg (by omega), eJ29_27, tailN, if_neg (by omega), if_neg (by omega), if_pos hk]
      have hmv := V116_eq e m.old [] false hhl hm.2 (by simp)
      have hmf := F116_eq e m.old [] false hhl hm.2 (by simp)
      have n5 : ¬ m.kind = 5 := by omega
      simp only [tJ29_27, Tr.val, hk, v115, f115, (noN_ref hm 2).1, (noN_ref hm 2).2, eJ29_31, tJ29_31, hmv, hmf, Int.reduceEq, decide_true, decide_false, Option.isSome_some, condT, condF, Bool.cond_not, L29_37 (hm := hm) (h1 := h0) (h2 := hm.2)]
      cases listensN e.cl m.old <;> rfl
    · rw [if_neg (by omega), if_pos hk, eJ29_21, tailN, if_neg (by omega), if_pos hk]
      have hold : m.cnt = m.old.length := (follows_mov hf h3 hk).2.2.1
      have hul : us.length ≤ m.old.length := by omega
      have c1 : ic (us.length : Int) m.old = true := ic_nat hul
      have hmo : (m.old.take us.length).length ≤ 100000 := by rw [List.length_take]; have := hm.2; omega
      have hmv := V116_eq e (m.old.take us.length) us false hhl hmo (by omega)
      have hmf := F116_eq e (m.old.take us.length) us false hhl hmo (by omega)
      simp only [tJ29_21, Tr.val, v114, f114, v115, f115, eJ29_23, tJ29_23, (noN_ref hm 2).1, (noN_ref hm 2).2, eJ29_24, tJ29_24, hk, c1, Int.toNat_natCast, eJ29_26, tJ29_26, eJ29_31_29_2, tJ29_31_29_2, hmv, hmf, Int.reduceEq, decide_true, decide_false, Option.isSome_some, condT, condF, Bool.cond_not, cond_dec, L29_37_29_2 (hm := hm) (h1 := show us.length ≤ 100000 by omega) (h2 := hmo)]
      by_cases hz : us = []
      · rw [if_pos (by rw [hz]; rfl), if_pos (.inl hz)]
      · rw [if_neg (by have := List.length_pos_iff.2 hz; omega)]
        cases listensN e.cl m.old <;> simp [hz, doneN]
    · rw [if_neg (by omega), if_neg (by omega), eJ29_27, tailN, if_neg (by omega), if_neg (by omega), if_neg (by omega), if_neg (by omega)]
      have hmv := V116_eq e [] [] false hhl h0 (by simp)
      have hmf := F116_eq e [] [] false hhl h0 (by simp)
      simp only [tJ29_27, Tr.val, hk, eJ29_31_29_1, tJ29_31_29_1, hmv, hmf, moved_nil, Int.reduceEq, decide_true, decide_false, Option.isSome_some, condT, condF, L29_37_29_1 (hm := hm) (h1 := h0)]
      rfl
    · rw [if_neg (by omega), if_neg (by omega), eJ29_27, tailN, if_neg (by omega), if_neg (by omega), if_neg (by omega), if_pos hk]
      have hmv := V116_eq e [] [] false hhl h0 (by simp)
      have hmf := F116_eq e [] [] false hhl h0 (by simp)
      simp only [tJ29_27, Tr.val, hk, eJ29_31_29_1, tJ29_31_29_1, hmv, hmf, moved_nil, Int.reduceEq, decide_true, decide_false, Option.isSome_some, condT, condF]
      have := fun (x5 : Int) (x6 : Int) (x7 : Int) (x8 : Bool) (x9 : Int) (x10 : Int) (x11 : Bool) (x12 : Int) (x13 : Int) (x14 : Int) (x15 : Bool) (x16 : Int) (x17 : Bool) (x18 : Int) (x19 : Int) (x20 : Int) (x21 : Int) (x22 : Bool) (x23 : Int) (x24 : Int) (x25 : Int) (x26 : Int) (x27 : Bool) (x28 : Int) (x29 : Int) (x30 : Int) => L29_list x5 x6 x7 x8 x9 x10 x11 x12 x13 x14 x15 x16 x17 x18 x19 x20 x21 x22 x23 x24 x25 x26 x27 x28 x29 x30 (e.cl.length : Int) e { e with cl := e.cl } m hm (e.cl.take 8).length 0 [] (by omega) (by simp)
      exact (this ..).trans (by simp [doneN])
  have e11 : ∀ (x1 : Int) (x2 : Int) (x3 : Int) (x4 : Bool) (x5 : Int) (x6 : Int) (x7 : Bool) (x8 : Int) (x9 : Int) (x10 : Int) (x11 : Bool) (x12 : Int) (x13 : Bool) (x14 : Int) (x15 : Int) (x16 : Int) (x17 : Int) (x18 : Bool) (x19 : Int) (x20 : Int) (x21 : Int) (x22 : Int) (x23 : Bool) (x24 : Int) (x25 : Int) (x26 : Int), lv cd29 C29 (J29_11 e x1 x2 x3 x4 x5 x6 x7 x8 x9 x10 x11 x12 x13 x14 x15 x16 x17 x18 x19 x20 x21 x22 x23 x24 x25 x26 e) = some (e, e.rp, 0) := by
    intro x1 x2 x3 x4 x5 x6 x7 x8 x9 x10 x11 x12 x13 x14 x15 x16 x17 x18 x19 x20 x21 x22 x23 x24 x25 x26
    rw [eJ29_11]
    simp only [tJ29_11, Tr.val, V112_eq _ he.2.2.2, F112_eq _ he.2.2.2, Option.isSome_some, condT]
  simp only [tail, e11]
  cases h5 : e.kn
  · simp
  · by_cases h6 : e.lst = m <;> simp [h6]
theorem F29_eq (e : End) (t : Tab) (f : List Int) (m : Msg) (he : okE e) (hl : e.cl.length ≤ 512) (ht : t.cl.length ≤ 1000) (hfl : f.length ≤ 100000) (hm : okM m) : F29 e t f m = receiveN e t f m := getD_of (V29_eq e t f m he hl ht hfl hm)
/-! ### The law, but for its first line -/
theorem V3_eq (e : End) (t : Tab) (f : List Int) (m : Msg) (ha : V24 = some true) : V3 e t f m = some true := by
  have hF : F24 = true := getD_of ha
  unfold V3
  rw [eS3]
  have e4 : lv cd3 C3 J3_4 = some true := by rw [eJ3_4]; rfl
  simp only [tS3, Tr.val, ha, hF, V25_eq, F25_eq, V26_eq, F26_eq, V27_eq, F27_eq, e4, Option.isSome_some, condT, Bool.not_true, condF, Bool.cond_not, cond_dec]
  cases h1 : fewE e
  case false => rfl
  cases h2 : fewT t
  case false => rfl
  by_cases h3 : (600 : Int) < f.length
  case pos => simp only [condT]; rw [if_pos h3]
  cases h4 : fewM m
  case false => simp only [condT]; rw [if_neg h3]; rfl
  simp only [condT]
  rw [if_neg h3]
  have he := fewE_ok h1
  have ht := fewT_ok h2
  have hm := fewM_ok h4
  have hl : e.cl.length ≤ 512 := by simp [fewE] at h1; omega
  have hr : okE (receiveN e t f m).1 ∧ okM (receiveN e t f m).2.1 := receive_ok he hl (by omega) hm
  rw [eJ3_5]
  simp only [tJ3_5, Tr.val, V28_eq e t f m he hl (by omega) (by omega) hm, F28_eq e t f m he hl (by omega) (by omega) hm, V29_eq e t f m he hl (by omega) (by omega) hm, F29_eq e t f m he hl (by omega) (by omega) hm, V30_eq _ _ hr.1, F30_eq _ _ hr.1, V31_eq _ _ hr.2.1 hr.2.2, F31_eq _ _ hr.2, Option.isSome_some, decide_true, condT]

end Go.Am

namespace Go.Am
open Go Go.Proofs
set_option linter.unusedVariables false

theorem V120_moved {E : End} {old sp : List Spot} {b : Bool} (hl : E.cl.length ≤ 512) (ha : ascK E.cl) (hsl : ∀ c ∈ E.cl, 0 ≤ c.slot ∧ c.slot ≤ 511) (ho : ∀ s ∈ old, hasN E.cl s b = true) (hol : old.length ≤ 100000) (hsp : sp.length ≤ 12) (hin : ∀ s ∈ sp, spotIn s) (hpw : sp.Pairwise fun a b => a.sslot < b.sslot) (hfree : ∀ s ∈ sp, slotIn E.cl s.sslot = false) :
    V120 E old sp b = some { E with cl := movedN E old sp b } := by
  have hP : P196 (restC old E.cl ++ sp.map (newC E.pr b)) = true := by
    refine P196_of (fun c hc => ?_) ?_
    · rcases List.mem_append.1 hc with hc | hc
      · have := hsl c (List.mem_filter.1 hc).1; omega
      · obtain ⟨s, hs, rfl⟩ := List.mem_map.1 hc
        have := hin s hs
        unfold spotIn at this
        show 0 ≤ s.sslot ∧ s.sslot ≤ 1000000
        omega
    · have := List.length_filter_le (fun c => !decide (placeC c ∈ old)) E.cl
      simp only [List.length_append, List.length_map, restC]
      omega
  rw [V120_eq E old sp b (by omega) hol (by omega) hP, changeN, change_moved ha ho hpw hfree hP]
def closedN (e : End) : End := { e with opn := false, snc := 0, ask := noMsg }
def fresh (e : End) : End := { e with opn := false, snc := 0, ask := noMsg, kn := false, lst := noMsg, rp := noMsg }
def finishN (e : End) (m : Msg) : End × Int :=
  if endErr e ≠ 0 then (noEnd, 1) else if e.opn = false then (noEnd, 12) else if answersN e.ask m = false then (noEnd, 11)
  else if m.code ≠ 0 then (closedN e, 0)
  else if m.kind = 6 then ({ fresh e with cl := [], num := 0 }, 0)
  else if m.kind ≤ 3 then ({ fresh e with cl := movedN e m.old m.sp true, num := nextN e.num }, 0)
  else ({ fresh e with num := nextN e.num }, 0)
theorem V119_eq (e : End) (h : okE e) : V119 e = some (closedN e) := by
  unfold V119
  rw [eS119]
  simp only [tS119, Tr.val, V99_eq e h, F99_eq e h, Option.isSome_some, condT]
  rfl
theorem F119_eq (e : End) (h : okE e) : F119 e = closedN e := getD_of (V119_eq e h)
theorem answers_zero {a m : Msg} (h : answersN a m = true) : msgErr a = 0 ∧ msgErr m = 0 ∧ a.rep = false ∧ m.rep = true ∧ a.kind = m.kind ∧ a.num = m.num := by
  unfold answersN at h
  split at h
  · cases h
  · rename_i hx
    simp only [not_or, Decidable.not_not, Bool.not_eq_true, Bool.not_eq_false] at hx
    exact ⟨hx.1, hx.2.1, hx.2.2.1, hx.2.2.2.1, hx.2.2.2.2.1, hx.2.2.2.2.2⟩
/-- What a response with good news may name. -/
theorem answers_ok {a m : Msg} (h : answersN a m = true) (hc : m.code = 0) : (m.kind = 1 → m.old = [] ∧ (∀ s ∈ m.sp, s ∈ a.sp) ∧ m.cnt ≤ a.cnt) ∧ (m.kind = 3 → (∀ s ∈ m.old, s ∈ a.old) ∧ (∀ s ∈ m.sp, s ∈ a.sp) ∧ m.cnt ≤ a.cnt) ∧ (m.kind = 2 → m.old = a.old ∧ m.sp = []) := by
  obtain ⟨h1, h2, h3, h4, h5, h6⟩ := answers_zero h
  obtain ⟨_, _, _, _, _, hf⟩ := msgErr_zero h2
  unfold answersN at h
  rw [if_neg (by simp [h1, h2, h3, h4, h5, h6]), if_neg (by simp [hc])] at h
  unfold followsN at hf
  rw [if_neg (by simp [hc])] at hf
  refine ⟨fun k => ?_, fun k => ?_, fun k => ?_⟩
  · rw [if_pos (by omega), Bool.and_eq_true, decide_eq_true_eq] at h
    rw [if_pos k] at hf
    simp at hf
    exact ⟨hf.1.1, among_iff.1 h.2, h.1⟩
  · rw [if_neg (by omega), if_pos (by omega), Bool.and_eq_true, Bool.and_eq_true, decide_eq_true_eq] at h
    exact ⟨among_iff.1 h.2.2, among_iff.1 h.2.1, h.1⟩
  · rw [if_neg (by omega), if_neg (by omega), if_pos (by omega), decide_eq_true_eq] at h
    rw [if_neg (by omega), if_pos k] at hf
    simp at hf
    exact ⟨h, hf.1⟩
theorem askOk_iff {e : End} (h : askOk e = true) : msgErr e.ask = 0 ∧ e.ask.rep = false ∧ e.ask.num = e.num ∧ (∀ s ∈ e.ask.old, hasN e.cl s true = true) ∧ ∀ s ∈ e.ask.sp, slotIn e.cl s.sslot = false := by
  unfold askOk at h
  simp only [Bool.and_eq_true, decide_eq_true_eq, Bool.not_eq_true', List.all_eq_true] at h
  exact ⟨h.1, h.2.1, h.2.2.1, h.2.2.2.1, h.2.2.2.2⟩
/-- An end in which a request is open. -/
theorem end_open {e : End} (h : endErr e = 0) (ho : e.opn = true) : askOk e = true := by
  obtain ⟨_, _, _, _, _, _, h1, _⟩ := endErr_zero h
  unfold askedN at h1
  rw [if_pos ho] at h1
  exact h1
theorem end_asc {e : End} (h : endErr e = 0) : ascK e.cl ∧ (∀ c ∈ e.cl, 0 ≤ c.slot ∧ c.slot ≤ 511) := by
  obtain ⟨_, _, _, _, _, h2, _, _⟩ := endErr_zero h
  obtain ⟨h3, _⟩ := endCells_ok h2
  obtain ⟨h4, h5⟩ := cellsOk_iff.1 h3
  exact ⟨⟨h5, fun c hc => (h4 c hc).1⟩, fun c hc => (h4 c hc).2.2.2.1⟩
theorem V120_fin {e E : End} {m : Msg} (hl : e.cl.length ≤ 512) (hE : endErr e = 0) (ho : e.opn = true) (ha : answersN e.ask m = true) (hc : m.code = 0) (hk : m.kind = 1 ∨ m.kind = 2 ∨ m.kind = 3) (h1 : E.cl = e.cl) (h2 : E.pr = e.pr) :
    V120 E m.old m.sp true = some { E with cl := movedN e m.old m.sp true } := by
  obtain ⟨q1, q2, q3⟩ := answers_ok ha hc
  obtain ⟨_, hm, _⟩ := answers_zero ha
  obtain ⟨_, _, hl8, hs, _, _⟩ := msgErr_zero hm
  obtain ⟨_, _, _, hold, hsp⟩ := askOk_iff (end_open hE ho)
  obtain ⟨hasc, hslots⟩ := end_asc hE
  obtain ⟨hin, hpw⟩ := spotsErr_zero hs
  have e1 : movedN E m.old m.sp true = movedN e m.old m.sp true := by unfold movedN; rw [h1, h2]
  rw [← e1]
  refine V120_moved (by rw [h1]; exact hl) (by rw [h1]; exact hasc) (by rw [h1]; exact hslots) ?_ (by omega) (by omega) hin hpw ?_
  · rw [h1]
    intro s hs'
    rcases hk with k | k | k
    · rw [(q1 k).1] at hs'; cases hs'
    · rw [(q3 k).1] at hs'; exact hold s hs'
    · exact hold s ((q2 k).1 s hs')
  · rw [h1]
    intro s hs'
    rcases hk with k | k | k
    · exact hsp s ((q1 k).2.1 s hs')
    · rw [(q3 k).2] at hs'; cases hs'
    · exact hsp s ((q2 k).2.1 s hs')
theorem V32_eq (e : End) (m : Msg) (he : okE e) (hl : e.cl.length ≤ 512) (hm : okM m) : V32 e m = some (finishN e m) := by
  unfold V32
  rw [eS32]
  simp only [tS32, Tr.val, V38_eq e he, F38_eq e he, V47_eq _ _ he.2.1 hm, F47_eq _ _ he.2.1 hm, V119_eq e he, F119_eq e he, Option.isSome_some, condT, Bool.cond_not, cond_dec, finishN]
  by_cases h1 : endErr e = 0
  case neg => rw [if_neg h1, if_pos h1]; rfl
  rw [if_pos h1, if_neg (show ¬ endErr e ≠ 0 from fun hh => hh h1)]
  cases h2 : e.opn
  case false => rfl
  simp only [condT, Bool.true_eq_false, if_false]
  cases h3 : answersN e.ask m
  case false => rfl
  simp only [condT, Bool.true_eq_false, if_false]
  by_cases h4 : m.code = 0
  case neg => rw [if_neg h4, if_pos h4]
  rw [if_pos h4, if_neg (show ¬ m.code ≠ 0 from fun hh => hh h4)]
  obtain ⟨_, hm0, _⟩ := answers_zero h3
  obtain ⟨hk1, _, _, _, _, _⟩ := msgErr_zero hm0
  by_cases k6 : m.kind = 6
  case pos => rw [if_pos k6, if_pos k6]; rfl
  rw [if_neg k6, if_neg k6]
  have j17 : m.kind = 1 ∨ m.kind = 3 → ∀ (x1 : Int) (x2 : Int) (x3 : Int) (x4 : Bool) (x5 : Int) (x6 : Int) (x7 : Bool) (x8 : Int) (x9 : Int) (x10 : Int) (x11 : Bool) (x12 : Int) (x13 : Bool) (x14 : Int) (x15 : Int) (x16 : Int) (x17 : Int) (x18 : Bool) (x19 : Int) (x20 : Int) (x21 : Int), lv cd32 C32 (J32_17 m x1 x2 x3 x4 x5 x6 x7 x8 x9 x10 x11 x12 x13 x14 x15 x16 x17 x18 x19 x20 x21 e.nd e.pr e.num e.cl false 0 noMsg false 0 false 0 0 0 0 false 0 0 0) = some ({ fresh e with cl := movedN e m.old m.sp true, num := nextN e.num }, 0) := by
    intro k x1 x2 x3 x4 x5 x6 x7 x8 x9 x10 x11 x12 x13 x14 x15 x16 x17 x18 x19 x20 x21
    have hv := V120_fin (E := ⟨e.nd, e.pr, e.num, e.cl, false, 0, noMsg, false, ⟨0, false, 0, 0, 0, [], []⟩, ⟨0, false, 0, 0, 0, [], []⟩⟩) hl h1 h2 h3 h4 (by omega) rfl rfl
    have hf : F120 ⟨e.nd, e.pr, e.num, e.cl, false, 0, noMsg, false, ⟨0, false, 0, 0, 0, [], []⟩, ⟨0, false, 0, 0, 0, [], []⟩⟩ m.old m.sp true = _ := getD_of hv
    rw [eJ32_17]
    simp only [tJ32_17, Tr.val, hv, hf, eJ32_20, tJ32_20, V41_eq, F41_eq, Option.isSome_some, condT]
    rfl
  have j18 : m.kind ≠ 1 → m.kind ≠ 3 → ∀ (x2 : Int) (x3 : Int) (x4 : Int) (x5 : Bool) (x6 : Int) (x7 : Int) (x8 : Bool) (x9 : Int) (x10 : Int) (x11 : Int) (x12 : Bool) (x13 : Int) (x14 : Bool) (x15 : Int) (x16 : Int) (x17 : Int) (x18 : Int) (x19 : Bool) (x20 : Int) (x21 : Int) (x22 : Int), lv cd32 C32 (J32_18 m.kind m x2 x3 x4 x5 x6 x7 x8 x9 x10 x11 x12 x13 x14 x15 x16 x17 x18 x19 x20 x21 x22 e.nd e.pr e.num e.cl false 0 noMsg false 0 false 0 0 0 0 false 0 0 0) = some (if m.kind ≤ 3 then ({ fresh e with cl := movedN e m.old m.sp true, num := nextN e.num }, 0) else ({ fresh e with num := nextN e.num }, 0)) := by
    intro n1 n3 x2 x3 x4 x5 x6 x7 x8 x9 x10 x11 x12 x13 x14 x15 x16 x17 x18 x19 x20 x21 x22
    rw [eJ32_18]
    by_cases k2 : m.kind = 2
    · have hv := V120_fin (E := ⟨e.nd, e.pr, e.num, e.cl, false, 0, noMsg, false, ⟨0, false, 0, 0, 0, [], []⟩, ⟨0, false, 0, 0, 0, [], []⟩⟩) hl h1 h2 h3 h4 (by omega) rfl rfl
      have hsp0 : m.sp = [] := ((answers_ok h3 h4).2.2 k2).2
      rw [hsp0] at hv
      have hf : F120 ⟨e.nd, e.pr, e.num, e.cl, false, 0, noMsg, false, ⟨0, false, 0, 0, 0, [], []⟩, ⟨0, false, 0, 0, 0, [], []⟩⟩ m.old [] true = _ := getD_of hv
      rw [if_pos (by omega), hsp0]
      simp only [tJ32_18, Tr.val, k2, hv, hf, eJ32_20, tJ32_20, V41_eq, F41_eq, Option.isSome_some, condT, decide_true]
      rfl
    · rw [if_neg (by omega)]
      simp only [tJ32_18, Tr.val, k2, eJ32_20_32_1, tJ32_20_32_1, V41_eq, F41_eq, Option.isSome_some, condT, decide_false, condF]
      rfl
  by_cases k1 : m.kind = 1
  · rw [if_pos k1, if_pos (by omega)]
    exact j17 (.inl k1) ..
  · rw [if_neg k1]
    by_cases k3 : m.kind = 3
    · rw [if_pos k3, if_pos (by omega)]
      exact j17 (.inr k3) ..
    · rw [if_neg k3]
      refine (j18 k1 k3 ..).trans ?_
      split <;> rfl
theorem F32_eq (e : End) (m : Msg) (he : okE e) (hl : e.cl.length ≤ 512) (hm : okM m) : F32 e m = finishN e m := getD_of (V32_eq e m he hl hm)
end Go.Am

namespace Go.Am
open Go Go.Proofs
set_option linter.unusedVariables false

theorem V131_eq (e : End) (hl : e.cl.length ≤ 100000) : V131 e = some (sendsOf e.cl) := by
  unfold V131
  rw [eS131]
  simp only [tS131, Tr.val]
  have h := fold_list0 (J := fun i acc => lv cd131 C131 (J131_3 acc e.cl (e.cl.length : Int) ((i : Nat) : Int))) (l := e.cl) (f := fun a x => if x.send then a ++ [placeC x] else a) (inv := fun i a => a.length ≤ i) (fun i a hi ha => by
    have h1 : (i : Int) < (e.cl.length : Int) := by omega
    have h2 : ib (i : Int) e.cl = true := ib_nat hi
    have h3 := inR_ok (n := (i : Int) + 1) (by omega) (by omega)
    have h4 : nth .cell e.cl i = e.cl.getD i default := nth_getD (st := .cell) e.cl i
    have h5 : il a ([placeC (e.cl.getD i default)] : List Spot) 16 = true := il_le (by omega) (by simp) (by omega)
    refine ⟨?_, ?_⟩
    · try simp only
      rw [eJ131_3, show ((i + 1 : Nat) : Int) = (i : Int) + 1 by omega]
      simp only [tJ131_3, Tr.val, h1, h2, h3, h4, h5, V186_eq, F186_eq, eJ131_7, tJ131_7, Option.isSome_some, decide_true, condT]
      generalize e.cl.getD i default = cc
      cases cc.send <;> simp
    · try simp only
      split
      · simp; omega
      · omega) [] (by simp)
  have h : lv cd131 C131 (J131_3 [] e.cl (e.cl.length : Int) 0) = _ := h
  have hs : ∀ (l : List Cell) (acc : List Spot), l.foldl (fun a x => if x.send then a ++ [placeC x] else a) acc = acc ++ sendsOf l := by
    intro l
    induction l with
    | nil => intro acc; simp [sendsOf]
    | cons x l ih =>
      intro acc
      rw [List.foldl_cons, ih]
      unfold sendsOf
      rw [List.filterMap_cons]
      cases x.send <;> simp [placeC]
  rw [h, hs]
  try simp only
  rw [eJ131_3]
  simp [tJ131_3, Tr.val]
theorem F131_eq (e : End) (hl : e.cl.length ≤ 100000) : F131 e = sendsOf e.cl := getD_of (V131_eq e hl)
/-- The place of a slot that may be asked for. -/
def candAt (t : Tab) (f : List Int) (s : Nat) : Option Spot :=
  if slotIn t.cl s = true then none else ((List.range 16).find? fun k : Nat => bitN (f.getD s default) k).map fun k : Nat => (⟨s, k⟩ : Spot)
def candN (t : Tab) (f : List Int) : List Spot := if tabErr t ≠ 0 ∨ maskOk f t.len = false then [] else ((List.range t.len.toNat).filterMap (candAt t f)).take 8
theorem bitN_zero (k : Int) : bitN 0 k = false := by
  unfold bitN
  simp
theorem V130_eq (t : Tab) (f : List Int) (ht : t.cl.length ≤ 100000) (hf : f.length ≤ 100000) : V130 t f 8 = some (candN t f) := by
  unfold V130
  rw [eS130]
  have e2 : lv cd130 C130 J130_2 = some [] := by rw [eJ130_2]; rfl
  have e16 : ∀ acc, lv cd130 C130 (J130_16 acc) = some acc := fun acc => by rw [eJ130_16]; rfl
  simp only [tS130, Tr.val, e2, V48_eq t ht, F48_eq t ht, V183_eq f _ hf, F183_eq f _ hf, Option.isSome_some, condT, Bool.cond_not, cond_dec, candN]
  by_cases h1 : tabErr t = 0
  case neg => simp [h1]
  cases h2 : maskOk f t.len
  case false => simp [h1]
  rw [if_pos h1, if_neg (by simp [h1])]
  simp only [condT]
  obtain ⟨hlen, _⟩ := tabErr_zero h1
  obtain ⟨n, hn⟩ : ∃ n : Nat, t.len = n := ⟨t.len.toNat, by omega⟩
  have hn' : t.len.toNat = n := by omega
  rw [hn']
  have inner : ∀ (s : Nat) (acc : List Spot) (y4 y5 : Int), s < n → acc.length ≤ 8 → ∀ k i, i + k = 16 →
      lv cd130 C130 (J130_10 f 8 acc (s : Int) y4 y5 (i : Nat) t) = match (List.range' i k).find? (fun k : Nat => bitN (f.getD s default) k) with
        | some j => lv cd130 C130 (J130_15 f 8 (acc ++ [⟨s, j⟩]) y4 y5 t)
        | none => lv cd130 C130 (J130_15 f 8 acc y4 y5 t) := by
    intro s acc y4 y5 hs hacc k
    obtain ⟨m1, m2, m3, m4⟩ := mask_at h2 (i := (s : Int)) (by omega) (by omega)
    rw [Int.toNat_natCast] at m2 m3 m4
    induction k with
    | zero =>
      intro i hi
      simp at hi
      subst hi
      rw [eJ130_10]
      simp [tJ130_10, Tr.val]
    | succ k ih =>
      intro i hi
      have h1 : ((i : Nat) : Int) < 16 := by omega
      have h3 := inR_ok (n := (i : Int) + 1) (by omega) (by omega)
      have h5 : (0 : Int) ≤ i := by omega
      have h6 : il acc ([(⟨s, i⟩ : Spot)] : List Spot) 16 = true := il_le (by omega) (by simp) (by omega)
      rw [eJ130_10]
      simp only [tJ130_10, Tr.val, h1, m1, m2, h3, h5, h6, and_shr _ _ m3 m4 h5 (by omega), decide_true, condT]
      rw [List.range'_succ, List.find?_cons]
      have := ih (i + 1) (by omega)
      rw [show ((i + 1 : Nat) : Int) = (i : Int) + 1 by omega] at this
      cases bitN (f.getD s default) i
      · simp only [condF]; exact this
      · rfl
  have aux : ∀ k i (acc : List Spot), i + k = n → acc.length ≤ 8 → lv cd130 C130 (J130_5 f 8 acc (n : Int) (i : Nat) t) = some ((acc ++ (List.range' i k).filterMap (candAt t f)).take 8) := by
    intro k
    induction k with
    | zero =>
      intro i acc hi ha
      simp at hi
      subst hi
      rw [eJ130_5]
      simp only [tJ130_5, Tr.val, e16, Int.lt_irrefl, decide_false, condF, List.range'_zero, List.filterMap_nil, List.append_nil]
      rw [List.take_of_length_le ha]
    | succ k ih =>
      intro i acc hi ha
      have h1 : ((i : Nat) : Int) < n := by omega
      have h3 := inR_ok (n := (i : Int) + 1) (by omega) (by omega)
      obtain ⟨m1, m2, m3, m4⟩ := mask_at h2 (i := (i : Int)) (by omega) (by omega)
      rw [Int.toNat_natCast] at m2 m3 m4
      have ih' := fun acc => ih (i + 1) acc (by omega)
      rw [show ((i + 1 : Nat) : Int) = (i : Int) + 1 by omega] at ih'
      have e15 : ∀ acc, lv cd130 C130 (J130_15 f 8 acc (n : Int) (i : Int) t) = lv cd130 C130 (J130_5 f 8 acc (n : Int) ((i : Int) + 1) t) := fun acc => by
        rw [eJ130_15]; simp only [tJ130_15, Tr.val, h3, condT]
      have hin := inner i acc (n : Int) (i : Int) (by omega) ha 16 0 (by omega)
      have hin : lv cd130 C130 (J130_10 f 8 acc (i : Int) (n : Int) (i : Int) 0 t) = _ := hin
      rw [eJ130_5]
      simp only [tJ130_5, Tr.val, e16, h1, m1, m2, e15, V184_eq t _ ht, F184_eq t _ ht, eJ130_9, tJ130_9, hin, Option.isSome_some, decide_true, condT, cond_dec]
      by_cases hfull : (8 : Int) ≤ acc.length
      · rw [if_pos hfull]
        have : acc.length = 8 := by omega
        rw [← this, List.take_left]
      · have hr : List.range' i (k + 1) = i :: List.range' (i + 1) k := by rw [List.range'_succ]
        rw [if_neg hfull, hr, List.filterMap_cons]
        have hc : candAt t f i = if slotIn t.cl i = true then none else ((List.range' 0 16).find? fun k : Nat => bitN (f.getD i default) k).map fun k : Nat => (⟨i, k⟩ : Spot) := by
          unfold candAt; rw [List.range_eq_range']
        by_cases hz : f.getD i default = 0
        · rw [if_pos hz, ih' acc ha]
          have : candAt t f i = none := by
            rw [hc, hz]
            have : (List.range' 0 16).find? (fun k : Nat => bitN 0 k) = none := by
              rw [List.find?_eq_none]; intro x _; rw [bitN_zero]; simp
            rw [this]; simp
          rw [this]
        · rw [if_neg hz, hc]
          cases hsl : slotIn t.cl i
          · simp only [condF, Bool.false_eq_true, if_false]
            cases hfind : (List.range' 0 16).find? fun k : Nat => bitN (f.getD i default) k with
            | none => simp only [Option.map_none]; exact ih' acc ha
            | some j =>
              simp only [Option.map_some]
              rw [ih' _ (by simp; omega)]
              simp
          · simp only [condT, if_true]
            exact ih' acc ha
  rw [eJ130_3]
  simp only [tJ130_3, Tr.val, hn]
  have := aux n 0 [] (by omega) (by simp)
  rw [← List.range_eq_range'] at this
  simpa using this
theorem F130_eq (t : Tab) (f : List Int) (ht : t.cl.length ≤ 100000) (hf : f.length ≤ 100000) : F130 t f 8 = candN t f := getD_of (V130_eq t f ht hf)
def countsN (k c : Int) : Bool := if k ≤ 3 then decide (1 ≤ c ∧ c ≤ 8) else decide (c = 0)
theorem V129_eq (k c : Int) : V129 k c = some (countsN k c) := by
  unfold V129
  rw [eS129]
  simp only [tS129, Tr.val, cond_dec, countsN]
  by_cases h1 : k ≤ 3 <;> by_cases h2 : 1 ≤ c <;> simp [h1, h2]
theorem F129_eq (k c : Int) : F129 k c = countsN k c := getD_of (V129_eq k c)
theorem V127_eq (c : Int) : V127 c = some (noEnd, noMsg, c) := by
  unfold V127
  rw [eS127]
  rfl
theorem F127_eq (c : Int) : F127 c = (noEnd, noMsg, c) := getD_of (V127_eq c)
def openN (e : End) (m : Msg) (slot : Int) : End × Msg × Int := ({ e with opn := true, snc := slot, ask := { m with num := e.num } }, { m with num := e.num }, 0)
theorem V132_eq (e : End) (m : Msg) (s : Int) (he : okE e) (hm : okM m) : V132 e m s = some (openN e m s) := by
  unfold V132
  rw [eS132]
  have hX : okE ⟨e.nd, e.pr, e.num, e.cl, true, s, ⟨m.kind, m.rep, e.num, m.code, m.cnt, m.sp, m.old⟩, e.kn, e.lst, e.rp⟩ := ⟨he.1, hm, he.2.2.1, he.2.2.2⟩
  simp only [tS132, Tr.val, V99_eq e he, F99_eq e he, V99_eq _ hX, F99_eq _ hX, Option.isSome_some, condT]
  rfl
def failN (c : Int) : End × Msg × Int := (noEnd, noMsg, c)
def askSp (t : Tab) (f : List Int) (k : Int) : List Spot := if k = 1 ∨ k = 3 then candN t f else []
def askOld (e : End) (k c : Int) : List Spot := if k = 2 then (sendsOf e.cl).drop ((sendsOf e.cl).length - c).toNat else if k = 3 then (sendsOf e.cl).take c.toNat else []
def askN (e : End) (t : Tab) (f : List Int) (k c slot : Int) : End × Msg × Int :=
  if (fullN t e).2 ≠ 0 then failN (fullN t e).2
  else if k < 1 ∨ 6 < k ∨ ¬ (0 ≤ slot ∧ slot ≤ 1099511627776) ∨ countsN k c = false then failN 2
  else if e.opn = true then failN 12
  else if (k = 1 ∨ k = 3) ∧ ((candN (fullN t e).1 f).length : Int) < c then failN 14
  else if (k = 2 ∨ k = 3) ∧ ((sendsOf e.cl).length : Int) < c then failN 14
  else openN e ⟨k, false, 0, 0, c, askSp (fullN t e).1 f k, askOld e k c⟩ slot
theorem cand_len (t : Tab) (f : List Int) : (candN t f).length ≤ 8 := by
  unfold candN
  split
  · simp
  · exact List.length_take_le _ _
theorem V37_eq (e : End) (t : Tab) (f : List Int) (k c slot : Int) (he : okE e) (hl : e.cl.length ≤ 512) (ht : t.cl.length ≤ 1000) (hfl : f.length ≤ 100000) : V37 e t f k c slot = some (askN e t f k c slot) := by
  unfold V37
  rw [eS37]
  simp only [tS37, Tr.val, V36_eq t e he hl ht, F36_eq t e he hl ht, V127_eq, F127_eq, V128_eq, F128_eq, V129_eq, F129_eq, eJ37_6, tJ37_6, Option.isSome_some, condT, Bool.cond_not, cond_dec, askN]
  by_cases h1 : (fullN t e).2 = 0
  case neg => rw [if_neg h1, if_pos h1]; rfl
  rw [if_pos h1, if_neg (show ¬ (fullN t e).2 ≠ 0 from fun hh => hh h1)]
  by_cases h2 : k < 1
  case pos => rw [if_pos h2, if_pos (.inl h2)]; rfl
  by_cases h3 : 6 < k
  case pos => rw [if_neg h2, if_pos h3, if_pos (.inr (.inl h3))]; rfl
  by_cases h4 : 0 ≤ slot ∧ slot ≤ 1099511627776
  case neg => rw [if_neg h2, if_neg h3, if_neg h4, if_pos (.inr (.inr (.inl h4)))]; rfl
  rw [if_neg h2, if_neg h3, if_pos h4]
  cases h5 : countsN k c
  case false => rw [if_pos (.inr (.inr (.inr rfl)))]; rfl
  rw [if_neg (show ¬ (k < 1 ∨ 6 < k ∨ ¬ (0 ≤ slot ∧ slot ≤ 1099511627776) ∨ true = false) by intro hh; rcases hh with hh | hh | hh | hh; exact h2 hh; exact h3 hh; exact hh h4; cases hh)]
  simp only [condT]
  have hfull : (fullN t e).1.cl.length ≤ 100000 := by have := full_len (t := t) (e := e); omega
  have hsl : (sendsOf e.cl).length ≤ 512 := by have := sends_len e.cl; omega
  have hcl := cand_len (fullN t e).1 f
  have v130 := V130_eq (fullN t e).1 f hfull hfl
  have f130 := F130_eq (fullN t e).1 f hfull hfl
  have v131 := V131_eq e he.1
  have f131 := F131_eq e he.1
  unfold askSp askOld
  generalize candN (fullN t e).1 f = ca at *
  generalize sendsOf e.cl = l at *
  have v132 : ∀ sp old : List Spot, sp.length ≤ 600 → old.length ≤ 600 → V132 e ⟨k, false, 0, 0, c, sp, old⟩ slot = some (openN e ⟨k, false, 0, 0, c, sp, old⟩ slot) := fun sp old a b => V132_eq e _ slot he ⟨by show sp.length ≤ _; omega, by show old.length ≤ _; omega⟩
  have f132 : ∀ sp old : List Spot, sp.length ≤ 600 → old.length ≤ 600 → F132 e ⟨k, false, 0, 0, c, sp, old⟩ slot = openN e ⟨k, false, 0, 0, c, sp, old⟩ slot := fun sp old a b => getD_of (v132 sp old a b)
  rw [eJ37_7]
  simp only [tJ37_7, Tr.val, V127_eq, F127_eq, Option.isSome_some, condT, cond_dec]
  cases h6 : e.opn
  case true => rfl
  simp only [condF, Bool.false_eq_true, if_false]
  have n0 : ([] : List Spot).length ≤ 600 := by simp
  have nca : ca.length ≤ 600 := by omega
  have hkk : k = 1 ∨ k = 2 ∨ k = 3 ∨ (4 ≤ k ∧ k ≤ 6) := by omega
  have cok : k ≤ 3 → 1 ≤ c ∧ c ≤ 8 := fun hk => by unfold countsN at h5; rw [if_pos hk] at h5; exact of_decide_eq_true h5
  rcases hkk with hk | hk | hk | hk
  · have k2 : ¬ k = 2 := by omega
    have k3 : ¬ k = 3 := by omega
    rw [if_pos hk, if_pos (show k = 1 ∨ k = 3 from .inl hk), if_neg k2, if_neg k3, eJ37_11]
    simp only [tJ37_11, Tr.val, v130, f130, V127_eq, F127_eq, eJ37_14_37_1, tJ37_14_37_1, eJ37_21_37_1, tJ37_21_37_1, v132 ca [] nca n0, f132 ca [] nca n0, Option.isSome_some, condT, cond_dec, if_neg k2, if_neg k3]
    by_cases hlt : (ca.length : Int) < c
    · rw [if_pos hlt, if_pos ⟨.inl hk, hlt⟩]; rfl
    · rw [if_neg hlt, if_neg (show ¬ ((k = 1 ∨ k = 3) ∧ (ca.length : Int) < c) by omega), if_neg (show ¬ ((k = 2 ∨ k = 3) ∧ (l.length : Int) < c) by omega)]
  · have k1 : ¬ k = 1 := by omega
    have k3 : ¬ k = 3 := by omega
    obtain ⟨c1, c2⟩ := cok (by omega)
    have nd : (l.drop ((l.length : Int) - c).toNat).length ≤ 600 := by rw [List.length_drop]; omega
    have hnot : ¬ ((k = 1 ∨ k = 3) ∧ (ca.length : Int) < c) := by omega
    have hn13 : ¬ (k = 1 ∨ k = 3) := by omega
    rw [if_neg k1, if_neg k3, if_neg hn13, if_pos hk, if_neg hnot, eJ37_14]
    by_cases hlt : (l.length : Int) < c
    · rw [if_pos ⟨.inl hk, hlt⟩]
      simp only [tJ37_14, Tr.val, hk, eJ37_15, tJ37_15, v131, f131, V127_eq, F127_eq, Option.isSome_some, condT, cond_dec, if_pos hlt, if_true]
      rfl
    · have g1 : ic c l = true := by simp [ic]; omega
      have g2 : inR .i64 ((l.length : Int) - c) = true := inR_ok (by omega) (by omega)
      have g3 : ic ((l.length : Int) - c) l = true := by simp [ic]; omega
      rw [if_neg (show ¬ ((k = 2 ∨ k = 3) ∧ (l.length : Int) < c) by omega)]
      have hv := v132 [] _ n0 nd
      have hf := f132 [] _ n0 nd
      rw [hk] at hv hf
      simp only [tJ37_14, Tr.val, hk, eJ37_15, tJ37_15, v131, f131, g1, g2, g3, eJ37_21_37_2, tJ37_21_37_2, hv, hf, Option.isSome_some, condT, cond_dec, if_neg hlt, if_true]
  · have k1 : ¬ k = 1 := by omega
    have k2 : ¬ k = 2 := by omega
    obtain ⟨c1, c2⟩ := cok (by omega)
    have nt : (l.take c.toNat).length ≤ 600 := by rw [List.length_take]; omega
    rw [if_neg k1, if_pos hk, if_pos (show k = 1 ∨ k = 3 from .inr hk), if_neg k2, eJ37_11]
    simp only [tJ37_11, Tr.val, v130, f130, V127_eq, F127_eq, Option.isSome_some, condT, cond_dec]
    by_cases hlt : (ca.length : Int) < c
    · rw [if_pos hlt, if_pos ⟨.inr hk, hlt⟩]; rfl
    · rw [if_neg hlt, if_neg (show ¬ ((k = 1 ∨ k = 3) ∧ (ca.length : Int) < c) by omega), eJ37_14_37_1]
      by_cases hlt2 : (l.length : Int) < c
      · rw [if_pos ⟨.inr hk, hlt2⟩]
        simp only [tJ37_14_37_1, Tr.val, if_neg k2, if_pos hk, eJ37_15_37_1, tJ37_15_37_1, v131, f131, V127_eq, F127_eq, Option.isSome_some, condT, cond_dec, if_pos hlt2]
        rfl
      · have g1 : ic c l = true := by simp [ic]; omega
        rw [if_neg (show ¬ ((k = 2 ∨ k = 3) ∧ (l.length : Int) < c) by omega)]
        simp only [tJ37_14_37_1, Tr.val, if_neg k2, if_pos hk, eJ37_15_37_1, tJ37_15_37_1, v131, f131, g1, eJ37_21_37_3, tJ37_21_37_3, v132 _ _ nca nt, f132 _ _ nca nt, Option.isSome_some, condT, cond_dec, if_neg hlt2]
  · have k1 : ¬ k = 1 := by omega
    have k2 : ¬ k = 2 := by omega
    have k3 : ¬ k = 3 := by omega
    have hn13 : ¬ (k = 1 ∨ k = 3) := by omega
    have hna : ¬ ((k = 1 ∨ k = 3) ∧ (ca.length : Int) < c) := by omega
    have hnb : ¬ ((k = 2 ∨ k = 3) ∧ (l.length : Int) < c) := by omega
    rw [if_neg k1, if_neg k3, if_neg hn13, if_neg hna, if_neg hnb, if_neg k2, eJ37_14]
    simp only [tJ37_14, Tr.val, if_neg k2, if_neg k3, eJ37_21, tJ37_21, v132 [] [] n0 n0, f132 [] [] n0 n0, Option.isSome_some, condT, cond_dec]
theorem F37_eq (e : End) (t : Tab) (f : List Int) (k c slot : Int) (he : okE e) (hl : e.cl.length ≤ 512) (ht : t.cl.length ≤ 1000) (hfl : f.length ≤ 100000) : F37 e t f k c slot = askN e t f k c slot := getD_of (V37_eq e t f k c slot he hl ht hfl)
def startN (a b : Int) : End × Int := if ¬ (0 ≤ a ∧ a ≤ 31) ∨ ¬ (0 ≤ b ∧ b ≤ 31) ∨ a = b then (noEnd, 2) else (⟨a, b, 0, [], false, 0, noMsg, false, noMsg, noMsg⟩, 0)
theorem V43_eq (a b : Int) : V43 a b = some (startN a b) := by
  unfold V43
  rw [eS43]
  simp only [tS43, Tr.val, V128_eq, F128_eq, eJ43_2, tJ43_2, eJ43_3, tJ43_3, Option.isSome_some, condT, Bool.cond_not, cond_dec, startN]
  by_cases h1 : 0 ≤ a ∧ a ≤ 31
  case neg => rw [if_neg h1, if_pos (.inl h1)]; rfl
  by_cases h2 : 0 ≤ b ∧ b ≤ 31
  case neg => rw [if_pos h1, if_neg h2, if_pos (.inr (.inl h2))]; rfl
  by_cases h3 : a = b
  · rw [if_pos h1, if_pos h2, if_pos h3, if_pos (.inr (.inr h3))]; rfl
  · rw [if_pos h1, if_pos h2, if_neg h3, if_neg (by omega)]; rfl
theorem F43_eq (a b : Int) : F43 a b = startN a b := getD_of (V43_eq a b)

end Go.Am

namespace Go.Am
open Go Go.Proofs
set_option linter.unusedVariables false

def wA : End := ⟨1, 2, 0, [], false, 0, noMsg, false, noMsg, noMsg⟩
def wB : End := ⟨2, 1, 0, [], false, 0, noMsg, false, noMsg, noMsg⟩
def wM : Msg := ⟨1, false, 0, 0, 1, [⟨1, 0⟩, ⟨2, 0⟩], []⟩
def wA1 : End := ⟨1, 2, 0, [], true, 7, wM, false, noMsg, noMsg⟩
def wR : Msg := ⟨1, true, 0, 0, 1, [⟨1, 0⟩], []⟩
def wB1 : End := ⟨2, 1, 1, [⟨1, 0, 2, false, 1, -1⟩], false, 0, noMsg, true, wM, wR⟩
def wA2 : End := ⟨1, 2, 1, [⟨1, 0, 2, true, 2, -1⟩], false, 0, noMsg, false, noMsg, noMsg⟩
theorem w_start1 : startN 1 2 = (wA, 0) := by decide
theorem w_start2 : startN 2 1 = (wB, 0) := by decide
theorem w_ask : askN wA ⟨1, 4, []⟩ [0, 1, 1, 0] 1 1 7 = (wA1, wM, 0) := by decide +kernel
theorem w_receive : receiveN wB ⟨2, 4, []⟩ [0, 1, 1, 0] wM = (wB1, wR, 0) := by decide +kernel
theorem w_finish : finishN wA1 wR = (wA2, 0) := by decide +kernel
theorem wA_ok : okE wA := ⟨by decide, noMsg_ok, noMsg_ok, noMsg_ok⟩
theorem wB_ok : okE wB := ⟨by decide, noMsg_ok, noMsg_ok, noMsg_ok⟩
theorem wM_ok : okM wM := ⟨by decide, by decide⟩
theorem wR_ok : okM wR := ⟨by decide, by decide⟩
theorem wA1_ok : okE wA1 := ⟨by decide, wM_ok, noMsg_ok, noMsg_ok⟩
theorem V24_true : V24 = some true := by
  unfold V24
  rw [eS24]
  have s1 := V43_eq 1 2
  have s2 := V43_eq 2 1
  have f1 : F43 1 2 = (wA, 0) := (F43_eq 1 2).trans w_start1
  have f2 : F43 2 1 = (wB, 0) := (F43_eq 2 1).trans w_start2
  have a1 := V37_eq wA ⟨1, 4, []⟩ [0, 1, 1, 0] 1 1 7 wA_ok (by decide) (by decide) (by decide)
  have a2 := F37_eq wA ⟨1, 4, []⟩ [0, 1, 1, 0] 1 1 7 wA_ok (by decide) (by decide) (by decide)
  rw [w_ask] at a1 a2
  have r1 := V28_eq wB ⟨2, 4, []⟩ [0, 1, 1, 0] wM wB_ok (by decide) (by decide) (by decide) wM_ok
  have r2 := F28_eq wB ⟨2, 4, []⟩ [0, 1, 1, 0] wM wB_ok (by decide) (by decide) (by decide) wM_ok
  rw [w_receive] at r1 r2
  have g1 := V32_eq wA1 wR wA1_ok (by decide) wR_ok
  have g2 := F32_eq wA1 wR wA1_ok (by decide) wR_ok
  rw [w_finish] at g1 g2
  have c1 := V94_eq wA2.cl [⟨1, 0, 2, true, 2, -1⟩] (by decide)
  have c2 := F94_eq wA2.cl [⟨1, 0, 2, true, 2, -1⟩] (by decide)
  have d1 := V94_eq wB1.cl [⟨1, 0, 2, false, 1, -1⟩] (by decide)
  have d2 := F94_eq wB1.cl [⟨1, 0, 2, false, 1, -1⟩] (by decide)
  simp only [tS24, Tr.val, s1, s2, f1, f2, a1, a2, r1, r2, g1, g2, c1, c2, d1, d2, Option.isSome_some, condT]
  rfl

end Go.Am

namespace Go.Am
open Go Go.Proofs
theorem V3_true (e : End) (t : Tab) (f : List Int) (m : Msg) : V3 e t f m = some true := V3_eq e t f m V24_true

end Go.Am
