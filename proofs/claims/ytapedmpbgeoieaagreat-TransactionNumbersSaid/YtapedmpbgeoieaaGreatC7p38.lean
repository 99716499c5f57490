/- Part 38 of the proof: N19 N20 N21 N22 N23 N24 N27. -/
import Derived.Test.YtapedmpbgeoieaaGreatC7p34
import Derived.Test.YtapedmpbgeoieaaGreatC7p35
import Derived.Test.YtapedmpbgeoieaaGreatC7p37
set_option linter.unusedSimpArgs false
set_option linter.unusedVariables false
namespace Go.Am
open Go Go.Proofs
set_option linter.unusedVariables false

theorem refuseN_ok {m : Msg} {c : Int} : okM (refuseN m c).1 := by
  unfold refuseN
  split
  · exact noMsg_ok
  · split
    · exact noMsg_ok
    · exact ⟨by show 0 ≤ 100000; omega, by show 0 ≤ 100000; omega⟩
theorem receive_ok {e : End} {t : Tab} {f : List Int} {m : Msg} (he : okE e) (hl : e.cl.length ≤ 512) (ht : t.cl.length ≤ 1000) (hm : okM m) : okE (receiveN e t f m).1 ∧ okM (receiveN e t f m).2.1 := by
  have h0 : ([] : List Spot).length ≤ 100000 := by simp
  have hno : ∀ c, okE (noN e m c).1 ∧ okM (noN e m c).2.1 := fun c => ⟨he, refuseN_ok⟩
  have hdone : ∀ (cl : List Cell) (c : Int) (sp old : List Spot), cl.length ≤ 100000 → sp.length ≤ 100000 → old.length ≤ 100000 → okE (doneN e m cl c sp old).1 ∧ okM (doneN e m cl c sp old).2.1 := fun cl c sp old h1 h2 h3 =>
    ⟨known_ok (e := { e with num := nextN e.num, cl := cl }) ⟨h1, he.2⟩ hm (acceptN_ok h2 h3), acceptN_ok h2 h3⟩
  unfold receiveN
  split
  · exact ⟨⟨by show 0 ≤ 100000; omega, noMsg_ok, noMsg_ok, noMsg_ok⟩, noMsg_ok⟩
  · split
    · exact ⟨⟨by show 0 ≤ 100000; omega, noMsg_ok, noMsg_ok, noMsg_ok⟩, noMsg_ok⟩
    · rename_i hx
      simp only [not_or, Decidable.not_not] at hx
      obtain ⟨_, _, hl8, _⟩ := msgErr_zero hx.1
      split
      · exact ⟨known_ok (e := ⟨e.nd, e.pr, 0, [], false, 0, noMsg, false, noMsg, noMsg⟩) ⟨by simp, noMsg_ok, noMsg_ok, noMsg_ok⟩ hm (acceptN_ok h0 h0), acceptN_ok h0 h0⟩
      · split
        · exact ⟨he, he.2.2.2⟩
        · split
          · exact hno 3
          · split
            · exact hno 1
            · have hus : (usableN (fullN t e).1 f m.sp m.cnt).length ≤ 8 := by
                unfold usableN
                have := List.length_filter_le (fitsN (fullN t e).1 f) m.sp
                rw [List.length_take]; omega
              generalize usableN (fullN t e).1 f m.sp m.cnt = us at *
              unfold tailN
              have hml := fun old sp => movedN_len e old sp false
              split
              · split
                · exact hno 2
                · exact hdone _ _ _ _ (by have := hml [] us; omega) (by omega) h0
              · split
                · split
                  · exact hno 2
                  · exact hdone _ _ _ _ (by have := hml (m.old.take us.length) us; omega) (by omega) (by rw [List.length_take]; omega)
                · split
                  · split
                    · exact hno 2
                    · exact hdone _ _ _ _ (by have := hml m.old []; simp at this; omega) h0 hm.2
                  · split
                    · exact hdone _ _ _ _ he.1 (by rw [List.length_map, List.length_take]; omega) h0
                    · exact hdone _ _ _ _ he.1 h0 h0
end Go.Am

namespace Go.Am
open Go Go.Proofs
set_option linter.unusedVariables false

theorem V120_moved {E : End} {old sp : List Spot} {b : Bool} (hl : E.cl.length ≤ 512) (ha : ascK E.cl) (hsl : ∀ c ∈ E.cl, 0 ≤ c.slot ∧ c.slot ≤ 511) (ho : ∀ s ∈ old, hasN E.cl s b = true) (hol : old.length ≤ 100000) (hsp : sp.length ≤ 12) (hin : ∀ s ∈ sp, spotIn s) (hpw : sp.Pairwise fun a b => a.sslot < b.sslot) (hfree : ∀ s ∈ sp, slotIn E.cl s.sslot = false) :
    V120 E old sp b = some { E with cl := movedN E old sp b } := by
  have hP : P196 (restC old E.cl ++ sp.map (newC E.pr b)) = true := by
    refine P196_of (fun c hc => ?_) ?_
    · rcases List.mem_append.1 hc with hc | hc
      · have := hsl c (List.mem_filter.1 hc).1; omega
      · obtain ⟨s, hs, rfl⟩ := List.mem_map.1 hc
        have := hin s hs
        unfold spotIn at this
        show 0 ≤ s.sslot ∧ s.sslot ≤ 1000000
        omega
    · have := List.length_filter_le (fun c => !decide (placeC c ∈ old)) E.cl
      simp only [List.length_append, List.length_map, restC]
      omega
  rw [V120_eq E old sp b (by omega) hol (by omega) hP, changeN, change_moved ha ho hpw hfree hP]
def closedN (e : End) : End := { e with opn := false, snc := 0, ask := noMsg }
def fresh (e : End) : End := { e with opn := false, snc := 0, ask := noMsg, kn := false, lst := noMsg, rp := noMsg }
def finishN (e : End) (m : Msg) : End × Int :=
  if endErr e ≠ 0 then (noEnd, 1) else if e.opn = false then (noEnd, 12) else if answersN e.ask m = false then (noEnd, 11)
  else if m.code ≠ 0 then (closedN e, 0)
  else if m.kind = 6 then ({ fresh e with cl := [], num := 0 }, 0)
  else if m.kind ≤ 3 then ({ fresh e with cl := movedN e m.old m.sp true, num := nextN e.num }, 0)
  else ({ fresh e with num := nextN e.num }, 0)
theorem V119_eq (e : End) (h : okE e) : V119 e = some (closedN e) := by
  unfold V119
  rw [eS119]
  simp only [tS119, Tr.val, V99_eq e h, F99_eq e h, Option.isSome_some, condT]
  rfl
theorem F119_eq (e : End) (h : okE e) : F119 e = closedN e := getD_of (V119_eq e h)
theorem answers_zero {a m : Msg} (h : answersN a m = true) : msgErr a = 0 ∧ msgErr m = 0 ∧ a.rep = false ∧ m.rep = true ∧ a.kind = m.kind ∧ a.num = m.num := by
  unfold answersN at h
  split at h
  · cases h
  · rename_i hx
    simp only [not_or, Decidable.not_not, Bool.not_eq_true, Bool.not_eq_false] at hx
    exact ⟨hx.1, hx.2.1, hx.2.2.1, hx.2.2.2.1, hx.2.2.2.2.1, hx.2.2.2.2.2⟩
/-- What a response with good news may name. -/
theorem answers_ok {a m : Msg} (h : answersN a m = true) (hc : m.code = 0) : (m.kind = 1 → m.old = [] ∧ (∀ s ∈ m.sp, s ∈ a.sp) ∧ m.cnt ≤ a.cnt) ∧ (m.kind = 3 → (∀ s ∈ m.old, s ∈ a.old) ∧ (∀ s ∈ m.sp, s ∈ a.sp) ∧ m.cnt ≤ a.cnt) ∧ (m.kind = 2 → m.old = a.old ∧ m.sp = []) := by
  obtain ⟨h1, h2, h3, h4, h5, h6⟩ := answers_zero h
  obtain ⟨_, _, _, _, _, hf⟩ := msgErr_zero h2
  unfold answersN at h
  rw [if_neg (by simp [h1, h2, h3, h4, h5, h6]), if_neg (by simp [hc])] at h
  unfold followsN at hf
  rw [if_neg (by simp [hc])] at hf
  refine ⟨fun k => ?_, fun k => ?_, fun k => ?_⟩
  · rw [if_pos (by omega), Bool.and_eq_true, decide_eq_true_eq] at h
    rw [if_pos k] at hf
    simp at hf
    exact ⟨hf.1.1, among_iff.1 h.2, h.1⟩
  · rw [if_neg (by omega), if_pos (by omega), Bool.and_eq_true, Bool.and_eq_true, decide_eq_true_eq] at h
    exact ⟨among_iff.1 h.2.2, among_iff.1 h.2.1, h.1⟩
  · rw [if_neg (by omega), if_neg (by omega), if_pos (by omega), decide_eq_true_eq] at h
    rw [if_neg (by omega), if_pos k] at hf
    simp at hf
    exact ⟨h, hf.1⟩
theorem askOk_iff {e : End} (h : askOk e = true) : msgErr e.ask = 0 ∧ e.ask.rep = false ∧ e.ask.num = e.num ∧ (∀ s ∈ e.ask.old, hasN e.cl s true = true) ∧ ∀ s ∈ e.ask.sp, slotIn e.cl s.sslot = false := by
  unfold askOk at h
  simp only [Bool.and_eq_true, decide_eq_true_eq, Bool.not_eq_true', List.all_eq_true] at h
  exact ⟨h.1, h.2.1, h.2.2.1, h.2.2.2.1, h.2.2.2.2⟩
/-- An end in which a request is open. -/
theorem end_open {e : End} (h : endErr e = 0) (ho : e.opn = true) : askOk e = true := by
  obtain ⟨_, _, _, _, _, _, h1, _⟩ := endErr_zero h
  unfold askedN at h1
  rw [if_pos ho] at h1
  exact h1
theorem end_asc {e : End} (h : endErr e = 0) : ascK e.cl ∧ (∀ c ∈ e.cl, 0 ≤ c.slot ∧ c.slot ≤ 511) := by
  obtain ⟨_, _, _, _, _, h2, _, _⟩ := endErr_zero h
  obtain ⟨h3, _⟩ := endCells_ok h2
  obtain ⟨h4, h5⟩ := cellsOk_iff.1 h3
  exact ⟨⟨h5, fun c hc => (h4 c hc).1⟩, fun c hc => (h4 c hc).2.2.2.1⟩
theorem V120_fin {e E : End} {m : Msg} (hl : e.cl.length ≤ 512) (hE : endErr e = 0) (ho : e.opn = true) (ha : answersN e.ask m = true) (hc : m.code = 0) (hk : m.kind = 1 ∨ m.kind = 2 ∨ m.kind = 3) (h1 : E.cl = e.cl) (h2 : E.pr = e.pr) :
    V120 E m.old m.sp true = some { E with cl := movedN e m.old m.sp true } := by
  obtain ⟨q1, q2, q3⟩ := answers_ok ha hc
  obtain ⟨_, hm, _⟩ := answers_zero ha
  obtain ⟨_, _, hl8, hs, _, _⟩ := msgErr_zero hm
  obtain ⟨_, _, _, hold, hsp⟩ := askOk_iff (end_open hE ho)
  obtain ⟨hasc, hslots⟩ := end_asc hE
  obtain ⟨hin, hpw⟩ := spotsErr_zero hs
  have e1 : movedN E m.old m.sp true = movedN e m.old m.sp true := by unfold movedN; rw [h1, h2]
  rw [← e1]
  refine V120_moved (by rw [h1]; exact hl) (by rw [h1]; exact hasc) (by rw [h1]; exact hslots) ?_ (by omega) (by omega) hin hpw ?_
  · rw [h1]
    intro s hs'
    rcases hk with k | k | k
    · rw [(q1 k).1] at hs'; cases hs'
    · rw [(q3 k).1] at hs'; exact hold s hs'
    · exact hold s ((q2 k).1 s hs')
  · rw [h1]
    intro s hs'
    rcases hk with k | k | k
    · exact hsp s ((q1 k).2.1 s hs')
    · rw [(q3 k).2] at hs'; cases hs'
    · exact hsp s ((q2 k).2.1 s hs')
theorem V32_eq (e : End) (m : Msg) (he : okE e) (hl : e.cl.length ≤ 512) (hm : okM m) : V32 e m = some (finishN e m) := by
  unfold V32
  rw [eS32]
  simp only [tS32, Tr.val, V38_eq e he, F38_eq e he, V47_eq _ _ he.2.1 hm, F47_eq _ _ he.2.1 hm, V119_eq e he, F119_eq e he, Option.isSome_some, condT, Bool.cond_not, cond_dec, finishN]
  by_cases h1 : endErr e = 0
  case neg => rw [if_neg h1, if_pos h1]; rfl
  rw [if_pos h1, if_neg (show ¬ endErr e ≠ 0 from fun hh => hh h1)]
  cases h2 : e.opn
  case false => rfl
  simp only [condT, Bool.true_eq_false, if_false]
  cases h3 : answersN e.ask m
  case false => rfl
  simp only [condT, Bool.true_eq_false, if_false]
  by_cases h4 : m.code = 0
  case neg => rw [if_neg h4, if_pos h4]
  rw [if_pos h4, if_neg (show ¬ m.code ≠ 0 from fun hh => hh h4)]
  obtain ⟨_, hm0, _⟩ := answers_zero h3
  obtain ⟨hk1, _, _, _, _, _⟩ := msgErr_zero hm0
  by_cases k6 : m.kind = 6
  case pos => rw [if_pos k6, if_pos k6]; rfl
  rw [if_neg k6, if_neg k6]
  have j17 : m.kind = 1 ∨ m.kind = 3 → ∀ (x1 : Int) (x2 : Int) (x3 : Int) (x4 : Bool) (x5 : Int) (x6 : Int) (x7 : Bool) (x8 : Int) (x9 : Int) (x10 : Int) (x11 : Bool) (x12 : Int) (x13 : Bool) (x14 : Int) (x15 : Int) (x16 : Int) (x17 : Int) (x18 : Bool) (x19 : Int) (x20 : Int) (x21 : Int), lv cd32 C32 (J32_17 m x1 x2 x3 x4 x5 x6 x7 x8 x9 x10 x11 x12 x13 x14 x15 x16 x17 x18 x19 x20 x21 e.nd e.pr e.num e.cl false 0 noMsg false 0 false 0 0 0 0 false 0 0 0) = some ({ fresh e with cl := movedN e m.old m.sp true, num := nextN e.num }, 0) := by
    intro k x1 x2 x3 x4 x5 x6 x7 x8 x9 x10 x11 x12 x13 x14 x15 x16 x17 x18 x19 x20 x21
    have hv := V120_fin (E := ⟨e.nd, e.pr, e.num, e.cl, false, 0, noMsg, false, ⟨0, false, 0, 0, 0, [], []⟩, ⟨0, false, 0, 0, 0, [], []⟩⟩) hl h1 h2 h3 h4 (by omega) rfl rfl
    have hf : F120 ⟨e.nd, e.pr, e.num, e.cl, false, 0, noMsg, false, ⟨0, false, 0, 0, 0, [], []⟩, ⟨0, false, 0, 0, 0, [], []⟩⟩ m.old m.sp true = _ := getD_of hv
    rw [eJ32_17]
    simp only [tJ32_17, Tr.val, hv, hf, eJ32_20, tJ32_20, V41_eq, F41_eq, Option.isSome_some, condT]
    rfl
  have j18 : m.kind ≠ 1 → m.kind ≠ 3 → ∀ (x2 : Int) (x3 : Int) (x4 : Int) (x5 : Bool) (x6 : Int) (x7 : Int) (x8 : Bool) (x9 : Int) (x10 : Int) (x11 : Int) (x12 : Bool) (x13 : Int) (x14 : Bool) (x15 : Int) (x16 : Int) (x17 : Int) (x18 : Int) (x19 : Bool) (x20 : Int) (x21 : Int) (x22 : Int), lv cd32 C32 (J32_18 m.kind m x2 x3 x4 x5 x6 x7 x8 x9 x10 x11 x12 x13 x14 x15 x16 x17 x18 x19 x20 x21 x22 e.nd e.pr e.num e.cl false 0 noMsg false 0 false 0 0 0 0 false 0 0 0) = some (if m.kind ≤ 3 then ({ fresh e with cl := movedN e m.old m.sp true, num := nextN e.num }, 0) else ({ fresh e with num := nextN e.num }, 0)) := by
    intro n1 n3 x2 x3 x4 x5 x6 x7 x8 x9 x10 x11 x12 x13 x14 x15 x16 x17 x18 x19 x20 x21 x22
    rw [eJ32_18]
    by_cases k2 : m.kind = 2
    · have hv := V120_fin (E := ⟨e.nd, e.pr, e.num, e.cl, false, 0, noMsg, false, ⟨0, false, 0, 0, 0, [], []⟩, ⟨0, false, 0, 0, 0, [], []⟩⟩) hl h1 h2 h3 h4 (by omega) rfl rfl
      have hsp0 : m.sp = [] := ((answers_ok h3 h4).2.2 k2).2
      rw [hsp0] at hv
      have hf : F120 ⟨e.nd, e.pr, e.num, e.cl, false, 0, noMsg, false, ⟨0, false, 0, 0, 0, [], []⟩, ⟨0, false, 0, 0, 0, [], []⟩⟩ m.old [] true = _ := getD_of hv
      rw [if_pos (by omega), hsp0]
      simp only [tJ32_18, Tr.val, k2, hv, hf, eJ32_20, tJ32_20, V41_eq, F41_eq, Option.isSome_some, condT, decide_true]
      rfl
    · rw [if_neg (by omega)]
      simp only [tJ32_18, Tr.val, k2, eJ32_20_32_1, tJ32_20_32_1, V41_eq, F41_eq, Option.isSome_some, condT, decide_false, condF]
      rfl
  by_cases k1 : m.kind = 1
  · rw [if_pos k1, if_pos (by omega)]
    exact j17 (.inl k1) ..
  · rw [if_neg k1]
    by_cases k3 : m.kind = 3
    · rw [if_pos k3, if_pos (by omega)]
      exact j17 (.inr k3) ..
    · rw [if_neg k3]
      refine (j18 k1 k3 ..).trans ?_
      split <;> rfl
theorem F32_eq (e : End) (m : Msg) (he : okE e) (hl : e.cl.length ≤ 512) (hm : okM m) : F32 e m = finishN e m := getD_of (V32_eq e m he hl hm)
end Go.Am

namespace Go.Am
open Go Go.Proofs
set_option linter.unusedVariables false

theorem V131_eq (e : End) (hl : e.cl.length ≤ 100000) : V131 e = some (sendsOf e.cl) := by
  unfold V131
  rw [eS131]
  simp only [tS131, Tr.val]
  have h := fold_list0 (J := fun i acc => lv cd131 C131 (J131_3 acc e.cl (e.cl.length : Int) ((i : Nat) : Int))) (l := e.cl) (f := fun a x => if x.send then a ++ [placeC x] else a) (inv := fun i a => a.length ≤ i) (fun i a hi ha => by
    have h1 : (i : Int) < (e.cl.length : Int) := by omega
    have h2 : ib (i : Int) e.cl = true := ib_nat hi
    have h3 := inR_ok (n := (i : Int) + 1) (by omega) (by omega)
    have h4 : nth .cell e.cl i = e.cl.getD i default := nth_getD (st := .cell) e.cl i
    have h5 : il a ([placeC (e.cl.getD i default)] : List Spot) 16 = true := il_le (by omega) (by simp) (by omega)
    refine ⟨?_, ?_⟩
    · try simp only
      rw [eJ131_3, show ((i + 1 : Nat) : Int) = (i : Int) + 1 by omega]
      simp only [tJ131_3, Tr.val, h1, h2, h3, h4, h5, V186_eq, F186_eq, eJ131_7, tJ131_7, Option.isSome_some, decide_true, condT]
      generalize e.cl.getD i default = cc
      cases cc.send <;> simp
    · try simp only
      split
      · simp; omega
      · omega) [] (by simp)
  have h : lv cd131 C131 (J131_3 [] e.cl (e.cl.length : Int) 0) = _ := h
  have hs : ∀ (l : List Cell) (acc : List Spot), l.foldl (fun a x => if x.send then a ++ [placeC x] else a) acc = acc ++ sendsOf l := by
    intro l
    induction l with
    | nil => intro acc; simp [sendsOf]
    | cons x l ih =>
      intro acc
      rw [List.foldl_cons, ih]
      unfold sendsOf
      rw [List.filterMap_cons]
      cases x.send <;> simp [placeC]
  rw [h, hs]
  try simp only
  rw [eJ131_3]
  simp [tJ131_3, Tr.val]
theorem F131_eq (e : End) (hl : e.cl.length ≤ 100000) : F131 e = sendsOf e.cl := getD_of (V131_eq e hl)
/-- The place of a slot that may be asked for. -/
def candAt (t : Tab) (f : List Int) (s : Nat) : Option Spot :=
  if slotIn t.cl s = true then none else ((List.range 16).find? fun k : Nat => bitN (f.getD s default) k).map fun k : Nat => (⟨s, k⟩ : Spot)
def candN (t : Tab) (f : List Int) : List Spot := if tabErr t ≠ 0 ∨ maskOk f t.len = false then [] else ((List.range t.len.toNat).filterMap (candAt t f)).take 8
theorem bitN_zero (k : Int) : bitN 0 k = false := by
  unfold bitN
  simp
theorem V130_eq (t : Tab) (f : List Int) (ht : t.cl.length ≤ 100000) (hf : f.length ≤ 100000) : V130 t f 8 = some (candN t f) := by
  unfold V130
  rw [eS130]
  have e2 : lv cd130 C130 J130_2 = some [] := by rw [eJ130_2]; rfl
  have e16 : ∀ acc, lv cd130 C130 (J130_16 acc) = some acc := fun acc => by rw [eJ130_16]; rfl
  simp only [tS130, Tr.val, e2, V48_eq t ht, F48_eq t ht, V183_eq f _ hf, F183_eq f _ hf, Option.isSome_some, condT, Bool.cond_not, cond_dec, candN]
  by_cases h1 : tabErr t = 0
  case neg => simp [h1]
  cases h2 : maskOk f t.len
  case false => simp [h1]
  rw [if_pos h1, if_neg (by simp [h1])]
  simp only [condT]
  obtain ⟨hlen, _⟩ := tabErr_zero h1
  obtain ⟨n, hn⟩ : ∃ n : Nat, t.len = n := ⟨t.len.toNat, by omega⟩
  have hn' : t.len.toNat = n := by omega
  rw [hn']
  have inner : ∀ (s : Nat) (acc : List Spot) (y4 y5 : Int), s < n → acc.length ≤ 8 → ∀ k i, i + k = 16 →
      lv cd130 C130 (J130_10 f 8 acc (s : Int) y4 y5 (i : Nat) t) = match (List.range' i k).find? (fun k : Nat => bitN (f.getD s default) k) with
        | some j => lv cd130 C130 (J130_15 f 8 (acc ++ [⟨s, j⟩]) y4 y5 t)
        | none => lv cd130 C130 (J130_15 f 8 acc y4 y5 t) := by
    intro s acc y4 y5 hs hacc k
    obtain ⟨m1, m2, m3, m4⟩ := mask_at h2 (i := (s : Int)) (by omega) (by omega)
    rw [Int.toNat_natCast] at m2 m3 m4
    induction k with
    | zero =>
      intro i hi
      simp at hi
      subst hi
      rw [eJ130_10]
      simp [tJ130_10, Tr.val]
    | succ k ih =>
      intro i hi
      have h1 : ((i : Nat) : Int) < 16 := by omega
      have h3 := inR_ok (n := (i : Int) + 1) (by omega) (by omega)
      have h5 : (0 : Int) ≤ i := by omega
      have h6 : il acc ([(⟨s, i⟩ : Spot)] : List Spot) 16 = true := il_le (by omega) (by simp) (by omega)
      rw [eJ130_10]
      simp only [tJ130_10, Tr.val, h1, m1, m2, h3, h5, h6, and_shr _ _ m3 m4 h5 (by omega), decide_true, condT]
      rw [List.range'_succ, List.find?_cons]
      have := ih (i + 1) (by omega)
      rw [show ((i + 1 : Nat) : Int) = (i : Int) + 1 by omega] at this
      cases bitN (f.getD s default) i
      · simp only [condF]; exact this
      · rfl
  have aux : ∀ k i (acc : List Spot), i + k = n → acc.length ≤ 8 → lv cd130 C130 (J130_5 f 8 acc (n : Int) (i : Nat) t) = some ((acc ++ (List.range' i k).filterMap (candAt t f)).take 8) := by
    intro k
    induction k with
    | zero =>
      intro i acc hi ha
      simp at hi
      subst hi
      rw [eJ130_5]
      simp only [tJ130_5, Tr.val, e16, Int.lt_irrefl, decide_false, condF, List.range'_zero, List.filterMap_nil, List.append_nil]
      rw [List.take_of_length_le ha]
    | succ k ih =>
      intro i acc hi ha
      have h1 : ((i : Nat) : Int) < n := by omega
      have h3 := inR_ok (n := (i : Int) + 1) (by omega) (by omega)
      obtain ⟨m1, m2, m3, m4⟩ := mask_at h2 (i := (i : Int)) (by omega) (by omega)
      rw [Int.toNat_natCast] at m2 m3 m4
      have ih' := fun acc => ih (i + 1) acc (by omega)
      rw [show ((i + 1 : Nat) : Int) = (i : Int) + 1 by omega] at ih'
      have e15 : ∀ acc, lv cd130 C130 (J130_15 f 8 acc (n : Int) (i : Int) t) = lv cd130 C130 (J130_5 f 8 acc (n : Int) ((i : Int) + 1) t) := fun acc => by
        rw [eJ130_15]; simp only [tJ130_15, Tr.val, h3, condT]
      have hin := inner i acc (n : Int) (i : Int) (by omega) ha 16 0 (by omega)
      have hin : lv cd130 C130 (J130_10 f 8 acc (i : Int) (n : Int) (i : Int) 0 t) = _ := hin
      rw [eJ130_5]
      simp only [tJ130_5, Tr.val, e16, h1, m1, m2, e15, V184_eq t _ ht, F184_eq t _ ht, eJ130_9, tJ130_9, hin, Option.isSome_some, decide_true, condT, cond_dec]
      by_cases hfull : (8 : Int) ≤ acc.length
      · rw [if_pos hfull]
        have : acc.length = 8 := by omega
        rw [← this, List.take_left]
      · have hr : List.range' i (k + 1) = i :: List.range' (i + 1) k := by rw [List.range'_succ]
        rw [if_neg hfull, hr, List.filterMap_cons]
        have hc : candAt t f i = if slotIn t.cl i = true then none else ((List.range' 0 16).find? fun k : Nat => bitN (f.getD i default) k).map fun k : Nat => (⟨i, k⟩ : Spot) := by
          unfold candAt; rw [List.range_eq_range']
        by_cases hz : f.getD i default = 0
        · rw [if_pos hz, ih' acc ha]
          have : candAt t f i = none := by
            rw [hc, hz]
            have : (List.range' 0 16).find? (fun k : Nat => bitN 0 k) = none := by
              rw [List.find?_eq_none]; intro x _; rw [bitN_zero]; simp
            rw [this]; simp
          rw [this]
        · rw [if_neg hz, hc]
          cases hsl : slotIn t.cl i
          · simp only [condF, Bool.false_eq_true, if_false]
            cases hfind : (List.range' 0 16).find? fun k : Nat => bitN (f.getD i default) k with
            | none => simp only [Option.map_none]; exact ih' acc ha
            | some j =>
              simp only [Option.map_some]
              rw [ih' _ (by simp; omega)]
              simp
          · simp only [condT, if_true]
            exact ih' acc ha
  rw [eJ130_3]
  simp only [tJ130_3, Tr.val, hn]
  have := aux n 0 [] (by omega) (by simp)
  rw [← List.range_eq_range'] at this
  simpa using this
theorem F130_eq (t : Tab) (f : List Int) (ht : t.cl.length ≤ 100000) (hf : f.length ≤ 100000) : F130 t f 8 = candN t f := getD_of (V130_eq t f ht hf)
def countsN (k c : Int) : Bool := if k ≤ 3 then decide (1 ≤ c ∧ c ≤ 8) else decide (c = 0)
theorem V129_eq (k c : Int) : V129 k c = some (countsN k c) := by
  unfold V129
  rw [eS129]
  simp only [tS129, Tr.val, cond_dec, countsN]
  by_cases h1 : k ≤ 3 <;> by_cases h2 : 1 ≤ c <;> simp [h1, h2]
theorem F129_eq (k c : Int) : F129 k c = countsN k c := getD_of (V129_eq k c)
theorem V127_eq (c : Int) : V127 c = some (noEnd, noMsg, c) := by
  unfold V127
  rw [eS127]
  rfl
theorem F127_eq (c : Int) : F127 c = (noEnd, noMsg, c) := getD_of (V127_eq c)
def openN (e : End) (m : Msg) (slot : Int) : End × Msg × Int := ({ e with opn := true, snc := slot, ask := { m with num := e.num } }, { m with num := e.num }, 0)
theorem V132_eq (e : End) (m : Msg) (s : Int) (he : okE e) (hm : okM m) : V132 e m s = some (openN e m s) := by
  unfold V132
  rw [eS132]
  have hX : okE ⟨e.nd, e.pr, e.num, e.cl, true, s, ⟨m.kind, m.rep, e.num, m.code, m.cnt, m.sp, m.old⟩, e.kn, e.lst, e.rp⟩ := ⟨he.1, hm, he.2.2.1, he.2.2.2⟩
  simp only [tS132, Tr.val, V99_eq e he, F99_eq e he, V99_eq _ hX, F99_eq _ hX, Option.isSome_some, condT]
  rfl
def failN (c : Int) : End × Msg × Int := (noEnd, noMsg, c)
def askSp (t : Tab) (f : List Int) (k : Int) : List Spot := if k = 1 ∨ k = 3 then candN t f else []
def askOld (e : End) (k c : Int) : List Spot := if k = 2 then (sendsOf e.cl).drop ((sendsOf e.cl).length - c).toNat else if k = 3 then (sendsOf e.cl).take c.toNat else []
def askN (e : End) (t : Tab) (f : List Int) (k c slot : Int) : End × Msg × Int :=
  if (fullN t e).2 ≠ 0 then failN (fullN t e).2
  else if k < 1 ∨ 6 < k ∨ ¬ (0 ≤ slot ∧ slot ≤ 1099511627776) ∨ countsN k c = false then failN 2
  else if e.opn = true then failN 12
  else if (k = 1 ∨ k = 3) ∧ ((candN (fullN t e).1 f).length : Int) < c then failN 14
  else if (k = 2 ∨ k = 3) ∧ ((sendsOf e.cl).length : Int) < c then failN 14
  else openN e ⟨k, false, 0, 0, c, askSp (fullN t e).1 f k, askOld e k c⟩ slot
theorem cand_len (t : Tab) (f : List Int) : (candN t f).length ≤ 8 := by
  unfold candN
  split
  · simp
  · exact List.length_take_le _ _
theorem V37_eq (e : End) (t : Tab) (f : List Int) (k c slot : Int) (he : okE e) (hl : e.cl.length ≤ 512) (ht : t.cl.length ≤ 1000) (hfl : f.length ≤ 100000) : V37 e t f k c slot = some (askN e t f k c slot) := by
  unfold V37
  rw [eS37]
  simp only [tS37, Tr.val, V36_eq t e he hl ht, F36_eq t e he hl ht, V127_eq, F127_eq, V128_eq, F128_eq, V129_eq, F129_eq, eJ37_6, tJ37_6, Option.isSome_some, condT, Bool.cond_not, cond_dec, askN]
  by_cases h1 : (fullN t e).2 = 0
  case neg => rw [if_neg h1, if_pos h1]; rfl
  rw [if_pos h1, if_neg (show ¬ (fullN t e).2 ≠ 0 from fun hh => hh h1)]
  by_cases h2 : k < 1
  case pos => rw [if_pos h2, if_pos (.inl h2)]; rfl
  by_cases h3 : 6 < k
  case pos => rw [if_neg h2, if_pos h3, if_pos (.inr (.inl h3))]; rfl
  by_cases h4 : 0 ≤ slot ∧ slot ≤ 1099511627776
  case neg => rw [if_neg h2, if_neg h3, if_neg h4, if_pos (.inr (.inr (.inl h4)))]; rfl
  rw [if_neg h2, if_neg h3, if_pos h4]
  cases h5 : countsN k c
  case false => rw [if_pos (.inr (.inr (.inr rfl)))]; rfl
  rw [if_neg (show ¬ (k < 1 ∨ 6 < k ∨ ¬ (0 ≤ slot ∧ slot ≤ 1099511627776) ∨ true = false) by intro hh; rcases hh with hh | hh | hh | hh; exact h2 hh; exact h3 hh; exact hh h4; cases hh)]
  simp only [condT]
  have hfull : (fullN t e).1.cl.length ≤ 100000 := by have := full_len (t := t) (e := e); omega
  have hsl : (sendsOf e.cl).length ≤ 512 := by have := sends_len e.cl; omega
  have hcl := cand_len (fullN t e).1 f
  have v130 := V130_eq (fullN t e).1 f hfull hfl
  have f130 := F130_eq (fullN t e).1 f hfull hfl
  have v131 := V131_eq e he.1
  have f131 := F131_eq e he.1
  unfold askSp askOld
  generalize candN (fullN t e).1 f = ca at *
  generalize sendsOf e.cl = l at *
  have v132 : ∀ sp old : List Spot, sp.length ≤ 600 → old.length ≤ 600 → V132 e ⟨k, false, 0, 0, c, sp, old⟩ slot = some (openN e ⟨k, false, 0, 0, c, sp, old⟩ slot) := fun sp old a b => V132_eq e _ slot he ⟨by show sp.length ≤ _; omega, by show old.length ≤ _; omega⟩
  have f132 : ∀ sp old : List Spot, sp.length ≤ 600 → old.length ≤ 600 → F132 e ⟨k, false, 0, 0, c, sp, old⟩ slot = openN e ⟨k, false, 0, 0, c, sp, old⟩ slot := fun sp old a b => getD_of (v132 sp old a b)
  rw [eJ37_7]
  simp only [tJ37_7, Tr.val, V127_eq, F127_eq, Option.isSome_some, condT, cond_dec]
  cases h6 : e.opn
  case true => rfl
  simp only [condF, Bool.false_eq_true, if_false]
  have n0 : ([] : List Spot).length ≤ 600 := by simp
  have nca : ca.length ≤ 600 := by omega
  have hkk : k = 1 ∨ k = 2 ∨ k = 3 ∨ (4 ≤ k ∧ k ≤ 6) := by omega
  have cok : k ≤ 3 → 1 ≤ c ∧ c ≤ 8 := fun hk => by unfold countsN at h5; rw [if_pos hk] at h5; exact of_decide_eq_true h5
  rcases hkk with hk | hk | hk | hk
  · have k2 : ¬ k = 2 := by omega
    have k3 : ¬ k = 3 := by omega
    rw [if_pos hk, if_pos (show k = 1 ∨ k = 3 from .inl hk), if_neg k2, if_neg k3, eJ37_11]
    simp only [tJ37_11, Tr.val, v130, f130, V127_eq, F127_eq, eJ37_14_37_1, tJ37_14_37_1, eJ37_21_37_1, tJ37_21_37_1, v132 ca [] nca n0, f132 ca [] nca n0, Option.isSome_some, condT, cond_dec, if_neg k2, if_neg k3]
    by_cases hlt : (ca.length : Int) < c
    · rw [if_pos hlt, if_pos ⟨.inl hk, hlt⟩]; rfl
    · rw [if_neg hlt, if_neg (show ¬ ((k = 1 ∨ k = 3) ∧ (ca.length : Int) < c) by omega), if_neg (show ¬ ((k = 2 ∨ k = 3) ∧ (l.length : Int) < c) by omega)]
  · have k1 : ¬ k = 1 := by omega
    have k3 : ¬ k = 3 := by omega
    obtain ⟨c1, c2⟩ := cok (by omega)
    have nd : (l.drop ((l.length : Int) - c).toNat).length ≤ 600 := by rw [List.length_drop]; omega
    have hnot : ¬ ((k = 1 ∨ k = 3) ∧ (ca.length : Int) < c) := by omega
    have hn13 : ¬ (k = 1 ∨ k = 3) := by omega
    rw [if_neg k1, if_neg k3, if_neg hn13, if_pos hk, if_neg hnot, eJ37_14]
    by_cases hlt : (l.length : Int) < c
    · rw [if_pos ⟨.inl hk, hlt⟩]
      simp only [tJ37_14, Tr.val, hk, eJ37_15, tJ37_15, v131, f131, V127_eq, F127_eq, Option.isSome_some, condT, cond_dec, if_pos hlt, if_true]
      rfl
    · have g1 : ic c l = true := by simp [ic]; omega
      have g2 : inR .i64 ((l.length : Int) - c) = true := inR_ok (by omega) (by omega)
      have g3 : ic ((l.length : Int) - c) l = true := by simp [ic]; omega
      rw [if_neg (show ¬ ((k = 2 ∨ k = 3) ∧ (l.length : Int) < c) by omega)]
      have hv := v132 [] _ n0 nd
      have hf := f132 [] _ n0 nd
      rw [hk] at hv hf
      simp only [tJ37_14, Tr.val, hk, eJ37_15, tJ37_15, v131, f131, g1, g2, g3, eJ37_21_37_2, tJ37_21_37_2, hv, hf, Option.isSome_some, condT, cond_dec, if_neg hlt, if_true]
  · have k1 : ¬ k = 1 := by omega
    have k2 : ¬ k = 2 := by omega
    obtain ⟨c1, c2⟩ := cok (by omega)
    have nt : (l.take c.toNat).length ≤ 600 := by rw [List.length_take]; omega
    rw [if_neg k1, if_pos hk, if_pos (show k = 1 ∨ k = 3 from .inr hk), if_neg k2, eJ37_11]
    simp only [tJ37_11, Tr.val, v130, f130, V127_eq, F127_eq, Option.isSome_some, condT, cond_dec]
    by_cases hlt : (ca.length : Int) < c
    · rw [if_pos hlt, if_pos ⟨.inr hk, hlt⟩]; rfl
    · rw [if_neg hlt, if_neg (show ¬ ((k = 1 ∨ k = 3) ∧ (ca.length : Int) < c) by omega), eJ37_14_37_1]
      by_cases hlt2 : (l.length : Int) < c
      · rw [if_pos ⟨.inr hk, hlt2⟩]
        simp only [tJ37_14_37_1, Tr.val, if_neg k2, if_pos hk, eJ37_15_37_1, tJ37_15_37_1, v131, f131, V127_eq, F127_eq, Option.isSome_some, condT, cond_dec, if_pos hlt2]
        rfl
      · have g1 : ic c l = true := by simp [ic]; omega
        rw [if_neg (show ¬ ((k = 2 ∨ k = 3) ∧ (l.length : Int) < c) by omega)]
        simp only [tJ37_14_37_1, Tr.val, if_neg k2, if_pos hk, eJ37_15_37_1, tJ37_15_37_1, v131, f131, g1, eJ37_21_37_3, tJ37_21_37_3, v132 _ _ nca nt, f132 _ _ nca nt, Option.isSome_some, condT, cond_dec, if_neg hlt2]
  · have k1 : ¬ k = 1 := by omega
    have k2 : ¬ k = 2 := by omega
    have k3 : ¬ k = 3 := by omega
    have hn13 : ¬ (k = 1 ∨ k = 3) := by omega
    have hna : ¬ ((k = 1 ∨ k = 3) ∧ (ca.length : Int) < c) := by omega
    have hnb : ¬ ((k = 2 ∨ k = 3) ∧ (l.length : Int) < c) := by omega
    rw [if_neg k1, if_neg k3, if_neg hn13, if_neg hna, if_neg hnb, if_neg k2, eJ37_14]
    simp only [tJ37_14, Tr.val, if_neg k2, if_neg k3, eJ37_21, tJ37_21, v132 [] [] n0 n0, f132 [] [] n0 n0, Option.isSome_some, condT, cond_dec]
theorem F37_eq (e : End) (t : Tab) (f : List Int) (k c slot : Int) (he : okE e) (hl : e.cl.length ≤ 512) (ht : t.cl.length ≤ 1000) (hfl : f.length ≤ 100000) : F37 e t f k c slot = askN e t f k c slot := getD_of (V37_eq e t f k c slot he hl ht hfl)
def startN (a b : Int) : End × Int := if ¬ (0 ≤ a ∧ a ≤ 31) ∨ ¬ (0 ≤ b ∧ b ≤ 31) ∨ a = b then (noEnd, 2) else (⟨a, b, 0, [], false, 0, noMsg, false, noMsg, noMsg⟩, 0)
theorem V43_eq (a b : Int) : V43 a b = some (startN a b) := by
  unfold V43
  rw [eS43]
  simp only [tS43, Tr.val, V128_eq, F128_eq, eJ43_2, tJ43_2, eJ43_3, tJ43_3, Option.isSome_some, condT, Bool.cond_not, cond_dec, startN]
  by_cases h1 : 0 ≤ a ∧ a ≤ 31
  case neg => rw [if_neg h1, if_pos (.inl h1)]; rfl
  by_cases h2 : 0 ≤ b ∧ b ≤ 31
  case neg => rw [if_pos h1, if_neg h2, if_pos (.inr (.inl h2))]; rfl
  by_cases h3 : a = b
  · rw [if_pos h1, if_pos h2, if_pos h3, if_pos (.inr (.inr h3))]; rfl
  · rw [if_pos h1, if_pos h2, if_neg h3, if_neg (by omega)]; rfl
theorem F43_eq (a b : Int) : F43 a b = startN a b := getD_of (V43_eq a b)

end Go.Am

namespace Go.Am
open Go Go.Proofs
set_option linter.unusedVariables false

def wA : End := ⟨1, 2, 0, [], false, 0, noMsg, false, noMsg, noMsg⟩
def wB : End := ⟨2, 1, 0, [], false, 0, noMsg, false, noMsg, noMsg⟩
def wM : Msg := ⟨1, false, 0, 0, 1, [⟨1, 0⟩, ⟨2, 0⟩], []⟩
def wA1 : End := ⟨1, 2, 0, [], true, 7, wM, false, noMsg, noMsg⟩
def wR : Msg := ⟨1, true, 0, 0, 1, [⟨1, 0⟩], []⟩
def wB1 : End := ⟨2, 1, 1, [⟨1, 0, 2, false, 1, -1⟩], false, 0, noMsg, true, wM, wR⟩
def wA2 : End := ⟨1, 2, 1, [⟨1, 0, 2, true, 2, -1⟩], false, 0, noMsg, false, noMsg, noMsg⟩
theorem w_start1 : startN 1 2 = (wA, 0) := by decide
theorem w_start2 : startN 2 1 = (wB, 0) := by decide
theorem w_ask : askN wA ⟨1, 4, []⟩ [0, 1, 1, 0] 1 1 7 = (wA1, wM, 0) := by decide +kernel
theorem w_receive : receiveN wB ⟨2, 4, []⟩ [0, 1, 1, 0] wM = (wB1, wR, 0) := by decide +kernel
theorem w_finish : finishN wA1 wR = (wA2, 0) := by decide +kernel
theorem wA_ok : okE wA := ⟨by decide, noMsg_ok, noMsg_ok, noMsg_ok⟩
theorem wB_ok : okE wB := ⟨by decide, noMsg_ok, noMsg_ok, noMsg_ok⟩
theorem wM_ok : okM wM := ⟨by decide, by decide⟩
theorem wR_ok : okM wR := ⟨by decide, by decide⟩
theorem wA1_ok : okE wA1 := ⟨by decide, wM_ok, noMsg_ok, noMsg_ok⟩
theorem V24_true : V24 = some true := by
  unfold V24
  rw [eS24]
  have s1 := V43_eq 1 2
  have s2 := V43_eq 2 1
  have f1 : F43 1 2 = (wA, 0) := (F43_eq 1 2).trans w_start1
  have f2 : F43 2 1 = (wB, 0) := (F43_eq 2 1).trans w_start2
  have a1 := V37_eq wA ⟨1, 4, []⟩ [0, 1, 1, 0] 1 1 7 wA_ok (by decide) (by decide) (by decide)
  have a2 := F37_eq wA ⟨1, 4, []⟩ [0, 1, 1, 0] 1 1 7 wA_ok (by decide) (by decide) (by decide)
  rw [w_ask] at a1 a2
  have r1 := V28_eq wB ⟨2, 4, []⟩ [0, 1, 1, 0] wM wB_ok (by decide) (by decide) (by decide) wM_ok
  have r2 := F28_eq wB ⟨2, 4, []⟩ [0, 1, 1, 0] wM wB_ok (by decide) (by decide) (by decide) wM_ok
  rw [w_receive] at r1 r2
  have g1 := V32_eq wA1 wR wA1_ok (by decide) wR_ok
  have g2 := F32_eq wA1 wR wA1_ok (by decide) wR_ok
  rw [w_finish] at g1 g2
  have c1 := V94_eq wA2.cl [⟨1, 0, 2, true, 2, -1⟩] (by decide)
  have c2 := F94_eq wA2.cl [⟨1, 0, 2, true, 2, -1⟩] (by decide)
  have d1 := V94_eq wB1.cl [⟨1, 0, 2, false, 1, -1⟩] (by decide)
  have d2 := F94_eq wB1.cl [⟨1, 0, 2, false, 1, -1⟩] (by decide)
  simp only [tS24, Tr.val, s1, s2, f1, f2, a1, a2, r1, r2, g1, g2, c1, c2, d1, d2, Option.isSome_some, condT]
  rfl

end Go.Am

namespace Go.Am
open Go Go.Proofs
set_option linter.unusedVariables false

/-- Two cells that may not stand in one table. -/
def clash (a b : Cell) : Prop := a.slot = b.slot ∧ a.kind = b.kind
theorem taken_false {l : List Cell} {c : Cell} : takenN l c.slot c.kind = false ↔ ∀ x ∈ l, ¬ clash x c := by
  constructor
  · intro h x hx hc
    have : takenN l c.slot c.kind = true := by
      unfold takenN
      rw [List.any_eq_true]
      exact ⟨x, hx, by simp [hc.1, hc.2]⟩
    rw [this] at h; cases h
  · intro h
    cases hb : takenN l c.slot c.kind
    · rfl
    · unfold takenN at hb
      rw [List.any_eq_true] at hb
      obtain ⟨x, hx, he⟩ := hb
      simp at he
      exact absurd he (h x hx)
theorem put_less {l : List Cell} (hs : l.Pairwise fun a b => lessC a b = true) {c : Cell} (hn : ∀ x ∈ l, ¬ clash x c) : (insC l c).Pairwise fun a b => lessC a b = true := by
  unfold insC
  rw [List.pairwise_append, List.pairwise_cons]
  refine ⟨hs.sublist (List.take_sublist _ _), ⟨?_, hs.sublist (List.drop_sublist _ _)⟩, ?_⟩
  · intro x hx
    obtain ⟨j, hj, he⟩ := List.mem_iff_getElem.1 hx
    rw [List.getElem_drop] at he
    have hjl : putIdx l c + j < l.length := by rw [List.length_drop] at hj; omega
    have hlt := less_idx hs c hjl
    have hxe : l.getD (putIdx l c + j) default = x := by simp [List.getD, hjl, he]
    rw [hxe, decide_eq_false (by omega)] at hlt
    have hm : x ∈ l := List.mem_of_mem_drop hx
    have h2 := hn x hm
    unfold clash at h2
    simp only [lessC, decide_eq_false_iff_not, decide_eq_true_eq] at hlt ⊢
    omega
  · intro x hx y hy
    have hm : x ∈ l := List.mem_of_mem_take hx
    obtain ⟨j, hj, he⟩ := List.mem_iff_getElem.1 hx
    rw [List.getElem_take] at he
    have hjk : j < putIdx l c := by rw [List.length_take] at hj; omega
    have hjl : j < l.length := by rw [List.length_take] at hj; omega
    have hlt := less_idx hs c hjl
    have hxe : l.getD j default = x := by simp [List.getD, hjl, he]
    rw [hxe, decide_eq_true hjk] at hlt
    rcases List.mem_cons.1 hy with rfl | hy
    · exact hlt
    · have hp := hs
      rw [← List.take_append_drop (putIdx l c) l, List.pairwise_append] at hp
      exact hp.2.2 x hx y hy
theorem tab_put {t : Tab} {c : Cell} (h : tabErr t = 0) (hc : cellErr t.nd t.len c = 0) (hn : ∀ x ∈ t.cl, ¬ clash x c) (hl : t.cl.length < 512) : tabErr ⟨t.nd, t.len, insC t.cl c⟩ = 0 := by
  obtain ⟨h1, h2, h3, h4⟩ := tabErr_zero h
  refine tabErr_of h1 (by show (insC t.cl c).length ≤ 512; rw [insC_len]; omega) (fun x hx => ?_) (put_less h4 hn)
  rcases mem_insC.1 hx with rfl | hx
  · exact hc
  · exact h3 x hx
/-- Cells that a table can take. -/
structure Takes (t : Tab) (l : List Cell) : Prop where
  form : ∀ c ∈ l, cellErr t.nd t.len c = 0
  apart : l.Pairwise fun a b => ¬ clash a b
  free : ∀ c ∈ l, ∀ x ∈ t.cl, ¬ clash x c
theorem fold_takes : ∀ {l : List Cell} {t : Tab}, tabErr t = 0 → t.cl.length + l.length ≤ 512 → Takes t l → ∃ u, l.foldlM addOk t = some u ∧ tabErr u = 0 ∧ u.nd = t.nd ∧ u.len = t.len ∧ u.cl.length = t.cl.length + l.length
  | [], t, h, _, _ => ⟨t, rfl, h, rfl, rfl, by simp⟩
  | c :: l, t, h, hl, ht => by
    obtain ⟨h1, h2⟩ := List.pairwise_cons.1 ht.apart
    have hc := ht.form c List.mem_cons_self
    have hn := ht.free c List.mem_cons_self
    simp only [List.length_cons] at hl
    have hadd : addOk t c = some ⟨t.nd, t.len, insC t.cl c⟩ := by
      have hA : addN t c = (⟨t.nd, t.len, insC t.cl c⟩, 0) := by
        unfold addN
        rw [if_neg (by simp [h]), if_neg (by simp [hc]), if_neg (by rw [taken_false.2 hn]; simp), if_neg (by omega)]
      unfold addOk
      rw [hA]
      rfl
    have h3 := tab_put h hc hn (by omega)
    obtain ⟨u, h4, h5, h6, h7, h8⟩ := fold_takes (l := l) (t := ⟨t.nd, t.len, insC t.cl c⟩) h3 (by simp only [insC_len]; omega) ⟨fun x hx => ht.form x (List.mem_cons_of_mem _ hx), h2, fun x hx y hy => by
      rcases mem_insC.1 hy with rfl | hy
      · exact h1 x hx
      · exact ht.free x (List.mem_cons_of_mem _ hx) y hy⟩
    refine ⟨u, ?_, h5, h6, h7, ?_⟩
    · rw [List.foldlM_cons, hadd]; exact h4
    · rw [h8]; simp only [insC_len, List.length_cons]; omega
theorem takes_fold : ∀ {l : List Cell} {t u : Tab}, l.foldlM addOk t = some u → Takes t l
  | [], t, u, _ => ⟨fun c hc => (List.not_mem_nil hc).elim, .nil, fun c hc => (List.not_mem_nil hc).elim⟩
  | c :: l, t, u, h => by
    rw [List.foldlM_cons] at h
    obtain ⟨v, h1, h2⟩ := Option.bind_eq_some_iff.1 h
    obtain ⟨rfl, h3, h4, h5, h6⟩ := addOk_some h1
    have ih := takes_fold h2
    have h5' := taken_false.1 h5
    refine ⟨fun x hx => ?_, List.pairwise_cons.2 ⟨fun x hx hc => ih.free x hx c (mem_insC.2 (.inl rfl)) hc, ih.apart⟩, fun x hx y hy => ?_⟩
    · rcases List.mem_cons.1 hx with rfl | hx
      · exact h4
      · exact ih.form x hx
    · rcases List.mem_cons.1 hx with rfl | hx
      · exact h5' y hy
      · exact ih.free x hx y (mem_insC.2 (.inr hy))
theorem full_of {t : Tab} {e : End} (h1 : endErr e = 0) (h2 : tabErr t = 0) (h3 : t.nd = e.nd) (h4 : betweenN t e.pr = []) (hl : t.cl.length + e.cl.length ≤ 512) (h5 : Takes t e.cl) : (fullN t e).2 = 0 ∧ tabErr (fullN t e).1 = 0 ∧ (fullN t e).1.nd = t.nd ∧ (fullN t e).1.len = t.len ∧ (fullN t e).1.cl.length = t.cl.length + e.cl.length := by
  obtain ⟨u, h6, h7, h8, h9, h10⟩ := fold_takes h2 hl h5
  unfold fullN
  rw [if_neg (by simp [h1, h2, h3, h4]), h6]
  exact ⟨rfl, h7, h8, h9, h10⟩
end Go.Am

namespace Go.Am
open Go Go.Proofs
set_option linter.unusedVariables false

theorem spotsErr_of {l : List Spot} (h1 : ∀ s ∈ l, spotIn s) (h2 : l.Pairwise fun a b => a.sslot < b.sslot) : spotsErr l = 0 := by
  unfold spotsErr
  have : (List.range l.length).findSome? (spotErr l) = none := by
    rw [List.findSome?_eq_none_iff]
    intro i hi
    have hil := List.mem_range.1 hi
    have h3 := h1 (sat l i) (getD_mem hil)
    unfold spotIn at h3
    unfold spotErr
    rw [if_neg (by omega), if_neg]
    rintro ⟨h4, h5⟩
    have := (List.pairwise_iff_getElem.1 h2) (i - 1) i (by omega) hil (by omega)
    rw [show sat l (i - 1) = l[i - 1] by simp [sat, List.getD, show i - 1 < l.length by omega], show sat l i = l[i] by simp [sat, List.getD, hil]] at h5
    omega
  rw [this]; rfl
theorem msgErr_of {m : Msg} (h1 : 1 ≤ m.kind ∧ m.kind ≤ 6) (h2 : 0 ≤ m.num ∧ m.num ≤ 255 ∧ 0 ≤ m.code ∧ m.code ≤ 3 ∧ 0 ≤ m.cnt ∧ m.cnt ≤ 512) (h3 : m.sp.length ≤ 8 ∧ m.old.length ≤ 8) (h4 : spotsErr m.sp = 0) (h5 : spotsErr m.old = 0) (h6 : followsN m = true) : msgErr m = 0 := by
  unfold msgErr
  rw [if_neg (by omega), if_neg (by omega), if_neg (by omega), if_neg (by simp [h4]), if_neg (by simp [h5]), if_pos h6]
/-- A refusal answers the request. -/
theorem refuse_answers {m : Msg} {c : Int} (h : msgErr m = 0) (hr : m.rep = false) (hc : 1 ≤ c ∧ c ≤ 3) : (refuseN m c).1 = ⟨m.kind, true, m.num, c, 0, [], []⟩ ∧ answersN m (refuseN m c).1 = true := by
  have e1 : refuseN m c = (⟨m.kind, true, m.num, c, 0, [], []⟩, 0) := by
    unfold refuseN
    rw [if_neg (by simp [h, hr]), if_neg (by omega)]
  rw [e1]
  refine ⟨rfl, ?_⟩
  obtain ⟨h1, h2, _⟩ := msgErr_zero h
  have hb : msgErr ⟨m.kind, true, m.num, c, 0, [], []⟩ = 0 := msgErr_of h1 ⟨h2.1, h2.2.1, by show 0 ≤ c; omega, by show c ≤ 3; omega, by show (0 : Int) ≤ 0; omega, by show (0 : Int) ≤ 512; omega⟩ ⟨by show 0 ≤ 8; omega, by show 0 ≤ 8; omega⟩ rfl rfl (by
    unfold followsN
    rw [if_pos (by show c ≠ 0; omega)]
    rfl)
  unfold answersN
  rw [if_neg (by simp [h, hb, hr]), if_pos (by show c ≠ 0; omega)]
theorem good_of {m : Msg} {c : Int} {sp old : List Spot} (h : msgErr m = 0) (hc : 0 ≤ c ∧ c ≤ 512) (hs : sp.length ≤ 8) (ho : old.length ≤ 8) (h4 : spotsErr sp = 0) (h5 : spotsErr old = 0) (h6 : followsN ⟨m.kind, true, m.num, 0, c, sp, old⟩ = true) : msgErr ⟨m.kind, true, m.num, 0, c, sp, old⟩ = 0 := by
  obtain ⟨h1, h2, _⟩ := msgErr_zero h
  exact msgErr_of h1 ⟨h2.1, h2.2.1, by show (0 : Int) ≤ 0; omega, by show (0 : Int) ≤ 3; omega, hc.1, hc.2⟩ ⟨hs, ho⟩ h4 h5 h6
/-- Good news answers the request. -/
theorem accept_answers {m : Msg} {c : Int} {sp old : List Spot} (h : msgErr m = 0) (hr : m.rep = false) (hb : msgErr ⟨m.kind, true, m.num, 0, c, sp, old⟩ = 0)
    (h1 : m.kind = 1 ∨ m.kind = 3 → c ≤ m.cnt ∧ ∀ s ∈ sp, s ∈ m.sp) (h2 : m.kind = 3 → ∀ s ∈ old, s ∈ m.old) (h3 : m.kind = 2 → old = m.old) :
    acceptN m c sp old = (⟨m.kind, true, m.num, 0, c, sp, old⟩, 0) ∧ answersN m ⟨m.kind, true, m.num, 0, c, sp, old⟩ = true := by
  have ha : answersN m ⟨m.kind, true, m.num, 0, c, sp, old⟩ = true := by
    unfold answersN
    rw [if_neg (by simp [h, hb, hr]), if_neg (by simp)]
    by_cases k1 : m.kind = 1
    · rw [if_pos k1, Bool.and_eq_true, decide_eq_true_eq]
      exact ⟨(h1 (.inl k1)).1, among_iff.2 (h1 (.inl k1)).2⟩
    · rw [if_neg k1]
      by_cases k3 : m.kind = 3
      · rw [if_pos k3, Bool.and_eq_true, Bool.and_eq_true, decide_eq_true_eq]
        exact ⟨(h1 (.inr k3)).1, among_iff.2 (h1 (.inr k3)).2, among_iff.2 (h2 k3)⟩
      · rw [if_neg k3]
        by_cases k2 : m.kind = 2
        · rw [if_pos k2, decide_eq_true_eq]; exact h3 k2
        · rw [if_neg k2]
  refine ⟨?_, ha⟩
  unfold acceptN
  rw [if_neg (by simp [h, hr]), if_pos ha]
theorem mem_puts (pr : Int) (b : Bool) (x : Cell) : ∀ (sp : List Spot) (l : List Cell), x ∈ sp.foldl (fun l s => insC l (newC pr b s)) l ↔ x ∈ l ∨ ∃ s ∈ sp, x = newC pr b s
  | [], l => by simp
  | s :: sp, l => by
    rw [List.foldl_cons, mem_puts pr b x sp, mem_insC]
    constructor
    · rintro ((h | h) | ⟨s', h1, h2⟩)
      · exact .inr ⟨s, List.mem_cons_self, h⟩
      · exact .inl h
      · exact .inr ⟨s', List.mem_cons_of_mem _ h1, h2⟩
    · rintro (h | ⟨s', h1, h2⟩)
      · exact .inl (.inr h)
      · rcases List.mem_cons.1 h1 with rfl | h1
        · exact .inl (.inl h2)
        · exact .inr ⟨s', h1, h2⟩
theorem mem_moved {e : End} {old sp : List Spot} {b : Bool} {x : Cell} : x ∈ movedN e old sp b ↔ (x ∈ e.cl ∧ ¬ (x.send = b ∧ placeC x ∈ old)) ∨ ∃ s ∈ sp, x = newC e.pr b s := by
  unfold movedN
  rw [mem_puts]
  unfold restB
  rw [List.mem_filter]
  constructor
  · rintro (⟨h1, h2⟩ | h)
    · left
      refine ⟨h1, fun ⟨h3, h4⟩ => ?_⟩
      simp [h3, h4] at h2
    · exact .inr h
  · rintro (⟨h1, h2⟩ | h)
    · left
      refine ⟨h1, ?_⟩
      cases hb : x.send == b
      · rfl
      · have hb' : x.send = b := by simpa using hb
        have h3 : ¬ placeC x ∈ old := fun h => h2 ⟨hb', h⟩
        rw [decide_eq_false h3]; rfl
    · exact .inr h
theorem end_agreed {e : End} (h : endErr e = 0) : (∀ c ∈ e.cl, c.kind = 2 ∧ c.peer = e.pr ∧ c.flow = -1 ∧ (0 ≤ c.slot ∧ c.slot ≤ 511) ∧ (0 ≤ c.offset ∧ c.offset ≤ 15)) ∧ e.cl.Pairwise fun a b => a.slot < b.slot := by
  obtain ⟨_, _, _, _, _, h2, _, _⟩ := endErr_zero h
  exact cellsOk_iff.1 (endCells_ok h2).1
/-- Cells moved keep an end's cells right. -/
theorem moved_ok {e : End} (h : endErr e = 0) {old sp : List Spot} {b : Bool} (hin : ∀ s ∈ sp, spotIn s) (hpw : sp.Pairwise fun a b => a.sslot < b.sslot) (hfree : ∀ s ∈ sp, slotIn e.cl s.sslot = false) : cellsOk e.pr (movedN e old sp b) = true := by
  obtain ⟨h1, h2⟩ := end_agreed h
  refine cellsOk_iff.2 ⟨fun c hc => ?_, (moved_asc ⟨h2, fun c hc => (h1 c hc).1⟩ hpw hfree).1⟩
  rcases mem_moved.1 hc with ⟨hc, _⟩ | ⟨s, hs, rfl⟩
  · exact h1 c hc
  · have := hin s hs
    unfold spotIn at this
    exact ⟨rfl, rfl, rfl, by show 0 ≤ s.sslot ∧ s.sslot ≤ 511; omega, by show 0 ≤ s.soffset ∧ s.soffset ≤ 15; omega⟩
theorem nextN_ok {n : Int} (h : 0 ≤ n ∧ n ≤ 255) : 1 ≤ nextN n ∧ nextN n ≤ 255 := by
  unfold nextN
  rw [if_pos h]
  split <;> omega
/-- Cells moved fit the table that the cells before fitted. -/
theorem moved_takes {t : Tab} {e : End} (h : (fullN t e).2 = 0) {old sp : List Spot} {b : Bool} (hpw : sp.Pairwise fun a b => a.sslot < b.sslot) (hin : ∀ s ∈ sp, 0 ≤ s.sslot ∧ s.sslot < t.len ∧ 0 ≤ s.soffset ∧ s.soffset < 16) (hfree : ∀ s ∈ sp, slotIn (fullN t e).1.cl s.sslot = false) : Takes t (movedN e old sp b) := by
  obtain ⟨h1, h2, h3, h4, h5⟩ := fullN_ok h
  have ht := takes_fold h5
  obtain ⟨ha, hb⟩ := end_agreed h1
  obtain ⟨r1, r2, r3, r4, r5, _⟩ := endErr_zero h1
  have hfree' : ∀ s ∈ sp, slotIn e.cl s.sslot = false := fun s hs => full_free h (hfree s hs)
  have hasc := (moved_asc (old := old) (b := b) ⟨hb, fun c hc => (ha c hc).1⟩ hpw hfree').1
  refine ⟨fun c hc => ?_, hasc.imp fun {a b} hab hc => by have := hc.1; omega, fun c hc x hx => ?_⟩
  · rcases mem_moved.1 hc with ⟨hc, _⟩ | ⟨s, hs, rfl⟩
    · exact ht.form c hc
    · have := hin s hs
      exact (cellErr_agreed (show (newC e.pr b s).kind = 2 from rfl)).2 ⟨rfl, ⟨this.1, this.2.1⟩, ⟨this.2.2.1, this.2.2.2⟩, by show 0 ≤ e.pr; omega, by show e.pr < 32; omega, by show e.pr ≠ t.nd; omega⟩
  · rcases mem_moved.1 hc with ⟨hc, _⟩ | ⟨s, hs, rfl⟩
    · exact ht.free c hc x hx
    · intro hcl
      have := hfree s hs
      have hb1 : slotIn (fullN t e).1.cl s.sslot = true := slotIn_iff.2 ⟨x, (fold_mem h5 x).2 (.inr hx), hcl.1⟩
      rw [hb1] at this
      cases this
theorem fits_in {t : Tab} {f : List Int} {s : Spot} (h : fitsN t f s = true) : 0 ≤ s.sslot ∧ s.sslot < t.len ∧ 0 ≤ s.soffset ∧ s.soffset < 16 := by
  unfold fitsN at h
  split at h
  · cases h
  · omega
theorem fold_frame : ∀ {l : List Cell} {t u : Tab}, l.foldlM addOk t = some u → u.nd = t.nd ∧ u.len = t.len
  | [], t, u, h => by simp at h; subst h; exact ⟨rfl, rfl⟩
  | c :: l, t, u, h => by
    rw [List.foldlM_cons] at h
    obtain ⟨v, h1, h2⟩ := Option.bind_eq_some_iff.1 h
    obtain ⟨rfl, _⟩ := addOk_some h1
    have := fold_frame h2
    exact this
/-- What the first half of a receipt says. -/
structure Got (e : End) (t : Tab) (f : List Int) (m : Msg) : Prop where
  full : (fullN t e).2 = 0
  msg : msgErr m = 0
  req : m.rep = false
  len : t.cl.length + e.cl.length ≤ 500
/-- An end behind good news. -/
structure News (e : End) (t : Tab) (m : Msg) (x : End) (r : Msg) : Prop where
  kn : x.kn = true
  lst : x.lst = m
  rp : x.rp = r
  nd : x.nd = e.nd
  pr : x.pr = e.pr
  good : r.code = 0
  ans : answersN m r = true
  err : endErr x = 0
  full : (fullN t x).2 = 0
theorem news_of {e : End} {t : Tab} {f : List Int} {m : Msg} (g : Got e t f m) (hk : m.kind ≠ 6) (hopn : e.opn = false) (hnum : m.num = e.num) {cl : List Cell} {c : Int} {sp old : List Spot} (hcl : cellsOk e.pr cl = true) (htk : Takes t cl) (hlen : cl.length ≤ e.cl.length + 8)
    (hacc : acceptN m c sp old = (⟨m.kind, true, m.num, 0, c, sp, old⟩, 0) ∧ answersN m ⟨m.kind, true, m.num, 0, c, sp, old⟩ = true) :
    News e t m (doneN e m cl c sp old).1 (doneN e m cl c sp old).2.1 ∧ (doneN e m cl c sp old).2.2 = 0 := by
  obtain ⟨h1, h2, h3, h4, h5⟩ := fullN_ok g.full
  obtain ⟨r1, r2, r3, r4, r5, r6, r7, r8⟩ := endErr_zero h1
  obtain ⟨a1, a2⟩ := hacc
  unfold doneN knownN
  rw [a1]
  have hn := nextN_ok r3
  have herr : endErr ⟨e.nd, e.pr, nextN e.num, cl, e.opn, e.snc, e.ask, true, m, ⟨m.kind, true, m.num, 0, c, sp, old⟩⟩ = 0 := by
    unfold endErr
    rw [if_neg (by simp only; omega), if_neg]
    simp only [not_or, Bool.not_eq_false]
    refine ⟨r5, ?_, ?_, ?_⟩
    · unfold endCells
      simp only [hcl, Bool.true_and, Bool.or_eq_true, decide_eq_true_eq]
      left; omega
    · unfold askedN at r7 ⊢
      rw [if_neg (by simp [hopn])] at r7
      simp only [hopn, Bool.false_eq_true, if_false]
      exact r7
    · unfold knowsN memOk
      simp only [if_true, Bool.and_eq_true, decide_eq_true_eq]
      exact ⟨a2, trivial, by rw [if_neg hk, hnum]⟩
  have hbt := h4
  exact ⟨⟨rfl, rfl, rfl, rfl, rfl, rfl, a2, herr, (full_of herr h2 h3 hbt (by have := g.len; show t.cl.length + cl.length ≤ 512; omega) htk).1⟩, rfl⟩
/-- What is received leaves an end as it was, or good news behind. -/
theorem receive_news {e : End} {t : Tab} {f : List Int} {m : Msg} (g : Got e t f m) :
    ((receiveN e t f m).1 = e ∧ (receiveN e t f m).2.2 = 0 ∧ answersN m (receiveN e t f m).2.1 = true ∧
        (m.kind ≠ 6 ∧ ((e.kn = true ∧ e.lst = m ∧ (receiveN e t f m).2.1 = e.rp) ∨ (¬ (e.kn = true ∧ e.lst = m) ∧ e.opn = true ∧ (receiveN e t f m).2.1.code = 3) ∨ (¬ (e.kn = true ∧ e.lst = m) ∧ e.opn = false ∧ m.num ≠ e.num ∧ (receiveN e t f m).2.1.code = 1) ∨ (¬ (e.kn = true ∧ e.lst = m) ∧ e.opn = false ∧ m.num = e.num ∧ (receiveN e t f m).2.1.code = 2)))) ∨
    (News e t m (receiveN e t f m).1 (receiveN e t f m).2.1 ∧ (receiveN e t f m).2.2 = 0 ∧
      ((m.kind = 6 ∧ (receiveN e t f m).1 = ⟨e.nd, e.pr, 0, [], false, 0, noMsg, true, m, (receiveN e t f m).2.1⟩) ∨
       (m.kind ≠ 6 ∧ ¬ (e.kn = true ∧ e.lst = m) ∧ e.opn = false ∧ m.num = e.num ∧ (receiveN e t f m).1.num = nextN e.num ∧ (receiveN e t f m).1.opn = false))) := by
  obtain ⟨h1, h2, h3, h4, h5⟩ := fullN_ok g.full
  obtain ⟨r1, r2, r3, r4, r5, r6, r7, r8⟩ := endErr_zero h1
  obtain ⟨m1, m2, m3, m4, m5, m6⟩ := msgErr_zero g.msg
  obtain ⟨m7, m8⟩ := spotsErr_zero m4
  obtain ⟨m9, m10⟩ := spotsErr_zero m5
  have hlen := g.len
  have hrule : ∀ c, 1 ≤ c ∧ c ≤ 3 → (noN e m c).1 = e ∧ (noN e m c).2.2 = 0 ∧ answersN m (noN e m c).2.1 = true ∧ (noN e m c).2.1.code = c := by
    intro c hc
    obtain ⟨q1, q2⟩ := refuse_answers g.msg g.req hc
    exact ⟨rfl, rfl, q2, by show (refuseN m c).1.code = c; rw [q1]⟩
  unfold receiveN
  rw [if_neg (by simp [g.full]), if_neg (by simp [g.msg, g.req])]
  by_cases k6 : m.kind = 6
  · right
    rw [if_pos k6]
    have hacc := accept_answers (c := 0) (sp := []) (old := []) g.msg g.req (good_of g.msg ⟨by omega, by omega⟩ (by simp) (by simp) rfl rfl (by
      unfold followsN
      simp only [k6]
      rfl)) (by omega) (by omega) (by omega)
    obtain ⟨a1, a2⟩ := hacc
    unfold knownN
    rw [a1]
    have herr : endErr ⟨e.nd, e.pr, 0, [], false, 0, noMsg, true, m, ⟨m.kind, true, m.num, 0, 0, [], []⟩⟩ = 0 := by
      unfold endErr
      rw [if_neg (by simp only; omega), if_neg]
      simp only [not_or, Bool.not_eq_false]
      refine ⟨r5, rfl, rfl, ?_⟩
      unfold knowsN memOk
      simp only [if_true, Bool.and_eq_true, decide_eq_true_eq]
      exact ⟨a2, trivial, by rw [if_pos k6]⟩
    refine ⟨⟨rfl, rfl, rfl, rfl, rfl, rfl, a2, herr, (full_of herr h2 h3 h4 (by show t.cl.length + 0 ≤ 512; omega) ⟨fun c hc => (List.not_mem_nil hc).elim, .nil, fun c hc => (List.not_mem_nil hc).elim⟩).1⟩, rfl, .inl ⟨k6, rfl⟩⟩
  rw [if_neg k6]
  by_cases hk : e.kn = true ∧ e.lst = m
  · left
    rw [if_pos hk]
    unfold knowsN memOk at r8
    rw [if_pos hk.1, hk.2] at r8
    simp only [Bool.and_eq_true, decide_eq_true_eq] at r8
    exact ⟨rfl, rfl, r8.1, k6, .inl ⟨hk.1, hk.2, rfl⟩⟩
  rw [if_neg hk]
  by_cases ho : e.opn = true
  · left
    rw [if_pos ho]
    obtain ⟨q1, q2, q3, q4⟩ := hrule 3 (by omega)
    exact ⟨q1, q2, q3, k6, .inr (.inl ⟨hk, ho, q4⟩)⟩
  rw [if_neg ho]
  have ho' : e.opn = false := by simpa using ho
  by_cases hn : m.num = e.num
  case neg =>
    left
    rw [if_pos hn]
    obtain ⟨q1, q2, q3, q4⟩ := hrule 1 (by omega)
    exact ⟨q1, q2, q3, k6, .inr (.inr (.inl ⟨hk, ho', hn, q4⟩))⟩
  rw [if_neg (by simp [hn])]
  obtain ⟨q1, q2, q3, q4⟩ := hrule 2 (by omega)
  -- the places that fit
  have hsub : (usableN (fullN t e).1 f m.sp m.cnt).Sublist m.sp := (List.take_sublist _ _).trans List.filter_sublist
  have hfits : ∀ s ∈ usableN (fullN t e).1 f m.sp m.cnt, fitsN (fullN t e).1 f s = true := fun s hs => (List.mem_filter.1 (List.mem_of_mem_take hs)).2
  have huc : ((usableN (fullN t e).1 f m.sp m.cnt).length : Int) ≤ m.cnt := by
    have : (usableN (fullN t e).1 f m.sp m.cnt).length ≤ m.cnt.toNat := List.length_take_le _ _
    omega
  generalize usableN (fullN t e).1 f m.sp m.cnt = us at *
  have hfr := fold_frame h5
  have hin : ∀ s ∈ us, 0 ≤ s.sslot ∧ s.sslot < t.len ∧ 0 ≤ s.soffset ∧ s.soffset < 16 := fun s hs => by have := fits_in (hfits s hs); rw [hfr.2] at this; exact this
  have hfree : ∀ s ∈ us, slotIn (fullN t e).1.cl s.sslot = false := fun s hs => fits_free (hfits s hs)
  have hus8 : us.length ≤ 8 := by have := hsub.length_le; omega
  have husp := m8.sublist hsub
  have husI : ∀ s ∈ us, spotIn s := fun s hs => m7 s (hsub.subset hs)
  have hfreeE : ∀ s ∈ us, slotIn e.cl s.sslot = false := fun s hs => full_free g.full (hfree s hs)
  -- good news
  have good : ∀ {old : List Spot} {sp' : List Spot} {c : Int} {sp : List Spot}, (sp' = us ∨ sp' = []) → msgErr ⟨m.kind, true, m.num, 0, c, sp, old⟩ = 0 → (m.kind = 1 ∨ m.kind = 3 → c ≤ m.cnt ∧ ∀ s ∈ sp, s ∈ m.sp) → (m.kind = 3 → ∀ s ∈ old, s ∈ m.old) → (m.kind = 2 → old = m.old) →
      News e t m (doneN e m (movedN e old sp' false) c sp old).1 (doneN e m (movedN e old sp' false) c sp old).2.1 ∧ (doneN e m (movedN e old sp' false) c sp old).2.2 = 0 := by
    intro old sp' c sp hsp' hb b1 b2 b3
    have hl' := movedN_len e old sp' false
    rcases hsp' with rfl | rfl
    · exact news_of g k6 ho' hn (moved_ok h1 husI husp hfreeE) (moved_takes g.full husp hin hfree) (by omega) (accept_answers g.msg g.req hb b1 b2 b3)
    · exact news_of g k6 ho' hn (moved_ok h1 (fun s hs => (List.not_mem_nil hs).elim) .nil (fun s hs => (List.not_mem_nil hs).elim)) (moved_takes g.full .nil (fun s hs => (List.not_mem_nil hs).elim) (fun s hs => (List.not_mem_nil hs).elim)) (by simp at hl'; omega) (accept_answers g.msg g.req hb b1 b2 b3)
  have fin : ∀ {cl : List Cell} {c : Int} {sp old : List Spot}, News e t m (doneN e m cl c sp old).1 (doneN e m cl c sp old).2.1 ∧ (doneN e m cl c sp old).2.2 = 0 →
      (News e t m (doneN e m cl c sp old).1 (doneN e m cl c sp old).2.1 ∧ (doneN e m cl c sp old).2.2 = 0 ∧ ((m.kind = 6 ∧ (doneN e m cl c sp old).1 = ⟨e.nd, e.pr, 0, [], false, 0, noMsg, true, m, (doneN e m cl c sp old).2.1⟩) ∨ (m.kind ≠ 6 ∧ ¬ (e.kn = true ∧ e.lst = m) ∧ e.opn = false ∧ m.num = e.num ∧ (doneN e m cl c sp old).1.num = nextN e.num ∧ (doneN e m cl c sp old).1.opn = false))) :=
    fun h => ⟨h.1, h.2, .inr ⟨k6, hk, ho', hn, rfl, ho'⟩⟩
  have bad : ∀ (P : Prop), ((noN e m 2).1 = e ∧ (noN e m 2).2.2 = 0 ∧ answersN m (noN e m 2).2.1 = true ∧ (m.kind ≠ 6 ∧ ((e.kn = true ∧ e.lst = m ∧ (noN e m 2).2.1 = e.rp) ∨ (¬ (e.kn = true ∧ e.lst = m) ∧ e.opn = true ∧ (noN e m 2).2.1.code = 3) ∨ (¬ (e.kn = true ∧ e.lst = m) ∧ e.opn = false ∧ m.num ≠ e.num ∧ (noN e m 2).2.1.code = 1) ∨ (¬ (e.kn = true ∧ e.lst = m) ∧ e.opn = false ∧ m.num = e.num ∧ (noN e m 2).2.1.code = 2)))) ∨ P :=
    fun P => .inl ⟨q1, q2, q3, k6, .inr (.inr (.inr ⟨hk, ho', hn, q4⟩))⟩
  have hkk : m.kind = 1 ∨ m.kind = 2 ∨ m.kind = 3 ∨ m.kind = 4 ∨ m.kind = 5 := by omega
  unfold tailN
  rcases hkk with k | k | k | k | k
  · rw [if_pos k]
    by_cases hz : us = []
    · rw [if_pos hz]; exact bad _
    · rw [if_neg hz]
      have hpos := List.length_pos_iff.2 hz
      refine .inr (fin (good (.inl rfl) (good_of g.msg ⟨by omega, by omega⟩ (by omega) (by simp) (spotsErr_of husI husp) rfl ?_) (fun _ => ⟨huc, fun s hs => hsub.subset hs⟩) (by omega) (by omega)))
      unfold followsN
      simp only [k]
      simp
      omega
  · rw [if_neg (by omega), if_neg (by omega), if_pos k]
    by_cases hz : listensN e.cl m.old = false
    · rw [if_pos hz]; exact bad _
    · rw [if_neg hz]
      obtain ⟨f1, f2, f3, f4⟩ := follows_del m6 g.req k
      refine .inr (fin (good (.inr rfl) (good_of g.msg ⟨m2.2.2.2.2.1, m2.2.2.2.2.2⟩ (by simp) m3.2 rfl m5 ?_) (by omega) (by omega) (fun _ => rfl)))
      unfold followsN
      simp only [k]
      simp
      omega
  · rw [if_neg (by omega), if_pos k]
    by_cases hz : us = [] ∨ listensN e.cl m.old = false
    · rw [if_pos hz]; exact bad _
    · rw [if_neg hz]
      have hpos := List.length_pos_iff.2 (fun h => hz (.inl h))
      obtain ⟨f1, f2, f3, f4⟩ := follows_mov m6 g.req k
      have htl : (m.old.take us.length).length = us.length := by rw [List.length_take]; omega
      refine .inr (fin (good (.inl rfl) (good_of g.msg ⟨by omega, by omega⟩ (by omega) (by omega) (spotsErr_of husI husp) (spotsErr_of (fun s hs => m9 s (List.mem_of_mem_take hs)) (m10.sublist (List.take_sublist _ _))) ?_) (fun _ => ⟨huc, fun s hs => hsub.subset hs⟩) (fun _ s hs => List.mem_of_mem_take hs) (by omega)))
      unfold followsN
      simp only [k]
      simp
      omega
  · rw [if_neg (by omega), if_neg (by omega), if_neg (by omega), if_neg (by omega)]
    refine .inr (fin ?_)
    have hmv : movedN e [] [] false = e.cl := by
      unfold movedN restB
      rw [List.foldl_nil]
      exact List.filter_eq_self.2 fun x _ => by simp
    rw [← hmv]
    have hlm : (movedN e [] [] false).length ≤ 500 := by rw [hmv]; omega
    refine good (.inr rfl) (good_of g.msg ⟨by omega, by omega⟩ (by simp) (by simp) rfl rfl ?_) (by omega) (by omega) (by omega)
    unfold followsN
    simp only [k]
    simp
  · rw [if_neg (by omega), if_neg (by omega), if_neg (by omega), if_pos k]
    refine .inr (fin ?_)
    have hmv : movedN e [] [] false = e.cl := by
      unfold movedN restB
      rw [List.foldl_nil]
      exact List.filter_eq_self.2 fun x _ => by simp
    have hgoal : News e t m (doneN e m (movedN e [] [] false) e.cl.length ((e.cl.take 8).map placeC) []).1 (doneN e m (movedN e [] [] false) e.cl.length ((e.cl.take 8).map placeC) []).2.1 ∧ (doneN e m (movedN e [] [] false) e.cl.length ((e.cl.take 8).map placeC) []).2.2 = 0 := by
      obtain ⟨c1, c2⟩ := end_agreed h1
      refine good (.inr rfl) (good_of g.msg ⟨by omega, by omega⟩ (by rw [List.length_map, List.length_take]; omega) (by simp) (spotsErr_of (fun s hs => ?_) ?_) rfl ?_) (by omega) (by omega) (by omega)
      · obtain ⟨c, hc, rfl⟩ := List.mem_map.1 hs
        have := c1 c (List.mem_of_mem_take hc)
        exact ⟨this.2.2.2.1.1, by show c.slot < 512; omega, this.2.2.2.2.1, by show c.offset < 16; omega⟩
      · rw [List.pairwise_map]
        exact c2.sublist (List.take_sublist _ _)
      · unfold followsN
        simp only [k]
        unfold minI
        simp
        split <;> omega
    rw [hmv] at hgoal
    exact hgoal

end Go.Am

namespace Go.Am
open Go Go.Proofs
set_option linter.unusedVariables false

theorem receive_got {e : End} {t : Tab} {f : List Int} {m : Msg} (h : (receiveN e t f m).2.2 = 0) : (fullN t e).2 = 0 ∧ msgErr m = 0 ∧ m.rep = false := by
  unfold receiveN at h
  split at h
  · rename_i h1
    exact absurd h h1
  · rename_i h1
    split at h
    · cases h
    · rename_i h2
      simp only [not_or, Decidable.not_not, Bool.not_eq_true] at h1 h2
      exact ⟨h1, h2.1, h2.2⟩
theorem few_len {e : End} {t : Tab} (h1 : fewE e = true) (h2 : fewT t = true) (h : tabErr t = 0) : t.cl.length + e.cl.length ≤ 500 := by
  obtain ⟨_, h3, _⟩ := tabErr_zero h
  simp [fewE] at h1
  simp [fewT] at h2
  omega
end Go.Am
