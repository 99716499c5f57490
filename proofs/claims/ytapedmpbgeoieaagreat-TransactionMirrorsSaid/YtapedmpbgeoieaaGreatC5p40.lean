/- Part 40 of the proof: N34 N35 N19 N27 N36. -/
import Derived.Test.YtapedmpbgeoieaaGreatC5p35
import Derived.Test.YtapedmpbgeoieaaGreatC5p37
import Derived.Test.YtapedmpbgeoieaaGreatC5p39
set_option linter.unusedSimpArgs false
set_option linter.unusedVariables false
namespace Go.Am
open Go Go.Proofs
set_option linter.unusedVariables false

def otherC (b : Int) : Cell := ⟨Int.tmod (IntKind.wrap .i64 b) 12, 0, 1, false, 9, 1⟩
def otherStep (t : Tab) (b : Int) : Tab := if (addN t (otherC b)).2 = 0 then (addN t (otherC b)).1 else t
def othersN (n : Int) (l : List Int) : Tab := l.foldl otherStep ⟨n, 12, []⟩
theorem otherStep_len (t : Tab) (b : Int) : (otherStep t b).cl.length ≤ t.cl.length + 1 := by
  unfold otherStep
  split
  · exact addN_len t _
  · omega
theorem L35_1 (l : List Int) (hl : l.length ≤ 100) (x3 x4 : Int) : ∀ k i (t : Tab), i + k = l.length → t.cl.length ≤ i → lv cd35 C35 (J35_3_35_1 l (l.length : Int) (i : Int) x3 x4 t) = some ((l.drop i).foldl otherStep t)
  | 0, i, t, hi, ht => by
    rw [eJ35_3_35_1]
    have : ¬ (i : Int) < (l.length : Int) := by omega
    simp only [tJ35_3_35_1, Tr.val, this, decide_false, condF]
    rw [List.drop_eq_nil_of_le (by omega)]; rfl
  | k + 1, i, t, hi, ht => by
    have h1 : (i : Int) < (l.length : Int) := by omega
    have h2 := ib_nat (show i < l.length by omega)
    have h3 : nth .u8 l i = l.getD i default := nth_getD (st := .u8) l i
    have h4 := inR_ok (n := (i : Int) + 1) (by omega) (by omega)
    have h5 : t.cl.length ≤ 100000 := by omega
    have ih := fun u hu => L35_1 l hl x3 x4 k (i + 1) u (by omega) hu
    rw [show ((i + 1 : Nat) : Int) = (i : Int) + 1 by omega] at ih
    have e8 : ∀ u : Tab, lv cd35 C35 (J35_8 l (l.length : Int) (i : Int) x3 x4 u) = lv cd35 C35 (J35_3_35_1 l (l.length : Int) ((i : Int) + 1) x3 x4 u) := fun u => by
      rw [eJ35_8]; simp only [tJ35_8, Tr.val, h4, condT]
    rw [eJ35_3_35_1]
    simp only [tJ35_3_35_1, Tr.val, h1, h2, h3, V123_eq t _ h5, F123_eq t _ h5, Option.isSome_some, decide_true, condT, cond_dec, e8]
    rw [show l.drop i = l.getD i default :: l.drop (i + 1) by rw [List.drop_eq_getElem_cons (show i < l.length by omega)]; simp [List.getD, show i < l.length by omega], List.foldl_cons]
    have hlen := otherStep_len t (l.getD i default)
    generalize l.getD i default = b at *
    have hgoal : (if (addN t (otherC b)).2 = 0 then lv cd35 C35 (J35_3_35_1 l (l.length : Int) ((i : Int) + 1) x3 x4 (addN t (otherC b)).1) else lv cd35 C35 (J35_3_35_1 l (l.length : Int) ((i : Int) + 1) x3 x4 t)) = some ((l.drop (i + 1)).foldl otherStep (otherStep t b)) := by
      rw [← ih (otherStep t b) (by omega)]
      unfold otherStep
      split <;> rfl
    exact hgoal
theorem L35_0 (l : List Int) (hl : l.length ≤ 100) (x3 x4 n : Int) : ∀ k i, i + k = l.length → lv cd35 C35 (J35_3 l (l.length : Int) (i : Int) x3 x4 n 12) = some ((l.drop i).foldl otherStep ⟨n, 12, []⟩)
  | 0, i, hi => by
    rw [eJ35_3]
    have : ¬ (i : Int) < (l.length : Int) := by omega
    simp only [tJ35_3, Tr.val, this, decide_false, condF]
    rw [List.drop_eq_nil_of_le (by omega)]; rfl
  | k + 1, i, hi => by
    have h1 : (i : Int) < (l.length : Int) := by omega
    have h2 := ib_nat (show i < l.length by omega)
    have h3 : nth .u8 l i = l.getD i default := nth_getD (st := .u8) l i
    have h4 := inR_ok (n := (i : Int) + 1) (by omega) (by omega)
    have h5 : (⟨n, 12, ([] : List Cell)⟩ : Tab).cl.length ≤ 100000 := by show 0 ≤ 100000; omega
    have ih := L35_0 l hl x3 x4 n k (i + 1) (by omega)
    have ih1 := fun u hu => L35_1 l hl x3 x4 k (i + 1) u (by omega) hu
    rw [show ((i + 1 : Nat) : Int) = (i : Int) + 1 by omega] at ih ih1
    have e8 : ∀ u : Tab, lv cd35 C35 (J35_8 l (l.length : Int) (i : Int) x3 x4 u) = lv cd35 C35 (J35_3_35_1 l (l.length : Int) ((i : Int) + 1) x3 x4 u) := fun u => by
      rw [eJ35_8]; simp only [tJ35_8, Tr.val, h4, condT]
    have e9 : lv cd35 C35 (J35_8_35_1 l (l.length : Int) (i : Int) x3 x4 n 12) = lv cd35 C35 (J35_3 l (l.length : Int) ((i : Int) + 1) x3 x4 n 12) := by
      rw [eJ35_8_35_1]; simp only [tJ35_8_35_1, Tr.val, h4, condT]
    rw [eJ35_3]
    simp only [tJ35_3, Tr.val, h1, h2, h3, V123_eq _ _ h5, F123_eq _ _ h5, Option.isSome_some, decide_true, condT, cond_dec, e8, e9]
    rw [show l.drop i = l.getD i default :: l.drop (i + 1) by rw [List.drop_eq_getElem_cons (show i < l.length by omega)]; simp [List.getD, show i < l.length by omega], List.foldl_cons]
    have hlen := addN_len ⟨n, 12, []⟩ (otherC (l.getD i default))
    generalize l.getD i default = b at *
    have hgoal : (if (addN ⟨n, 12, []⟩ (otherC b)).2 = 0 then lv cd35 C35 (J35_3_35_1 l (l.length : Int) ((i : Int) + 1) x3 x4 (addN ⟨n, 12, []⟩ (otherC b)).1) else lv cd35 C35 (J35_3 l (l.length : Int) ((i : Int) + 1) x3 x4 n 12)) = some ((l.drop (i + 1)).foldl otherStep (otherStep ⟨n, 12, []⟩ b)) := by
      unfold otherStep
      split
      · exact ih1 _ (by have : (addN ⟨n, 12, []⟩ (otherC b)).1.cl.length ≤ 0 + 1 := hlen; omega)
      · exact ih
    exact hgoal
theorem V35_eq (n : Int) (l : List Int) (hl : l.length ≤ 100) : V35 n l = some (othersN n l) := by
  unfold V35
  rw [eS35]
  simp only [tS35, Tr.val]
  exact L35_0 l hl 0 0 n l.length 0 (by omega)
theorem F35_eq (n : Int) (l : List Int) (hl : l.length ≤ 100) : F35 n l = othersN n l := getD_of (V35_eq n l hl)
theorem others_len (n : Int) (l : List Int) : (othersN n l).cl.length ≤ l.length := by
  have aux : ∀ (l : List Int) (t : Tab), (l.foldl otherStep t).cl.length ≤ t.cl.length + l.length := by
    intro l
    induction l with
    | nil => intro t; simp
    | cons b l ih =>
      intro t
      rw [List.foldl_cons]
      have h1 := ih (otherStep t b)
      have h2 := otherStep_len t b
      simp only [List.length_cons]
      omega
  have : (othersN n l).cl.length ≤ 0 + l.length := aux l ⟨n, 12, []⟩
  omega
theorem V39_flip (A : List Cell) (hl : A.length ≤ 100000) : V39 A (A.map flipC) = some true := by
  unfold V39
  rw [eS39]
  have hlen : ((A.map flipC).length : Int) = (A.length : Int) := by rw [List.length_map]
  simp only [tS39, Tr.val, hlen, decide_true, Bool.not_true, condF]
  have step : ∀ i, i < A.length → lv cd39 C39 (J39_4 A (A.map flipC) ((i : Nat) : Int)) = bif (fun _ : Cell => true) (A.getD i default) then lv cd39 C39 (J39_4 A (A.map flipC) ((i + 1 : Nat) : Int)) else none := by
    intro i hi
    have h1 : (i : Int) < (A.length : Int) := by omega
    have h2 := ib_nat hi
    have h2' := ib_nat (l := A.map flipC) (show i < (A.map flipC).length by rw [List.length_map]; exact hi)
    have h3 : nth .cell A i = A.getD i default := nth_getD (st := .cell) A i
    have h3' : nth .cell (A.map flipC) i = flipC (A.getD i default) := by
      rw [nth_getD (st := .cell)]
      simp [List.getD, hi]
    have h4 := inR_ok (n := (i : Int) + 1) (by omega) (by omega)
    have e7 : lv cd39 C39 (J39_5 A (A.map flipC) ((i : Nat) : Int)) = lv cd39 C39 (J39_4 A (A.map flipC) ((i + 1 : Nat) : Int)) := by
      rw [eJ39_5, show ((i + 1 : Nat) : Int) = (i : Int) + 1 by omega]
      simp only [tJ39_5, Tr.val, h4, condT]
    have h5 : ∀ c : Cell, decide (c.slot = (flipC c).slot) = true := fun c => decide_eq_true rfl
    have h6 : ∀ c : Cell, decide (c.offset = (flipC c).offset) = true := fun c => decide_eq_true rfl
    have h7 : ∀ c : Cell, (c.send == (flipC c).send) = false := fun c => by show (c.send == !c.send) = false; cases c.send <;> rfl
    rw [eJ39_4]
    simp only [tJ39_4, Tr.val, h1, h2, h2', h3, h3', h5, h6, h7, e7, decide_true, Bool.not_true, condT, condF]
  have h := all_list0 (J := fun i => lv cd39 C39 (J39_4 A (A.map flipC) ((i : Nat) : Int))) (l := A) (p := fun _ : Cell => true) (bad := none) step
  have h : lv cd39 C39 (J39_4 A (A.map flipC) 0) = _ := h
  rw [h, List.all_eq_true.2 (fun _ _ => rfl), condT]
  try simp only
  rw [eJ39_4]
  simp only [tJ39_4, Tr.val, Int.lt_irrefl, decide_false, condF]
theorem F39_flip (A : List Cell) (hl : A.length ≤ 100000) : F39 A (A.map flipC) = true := getD_of (V39_flip A hl)
theorem putIdx_map (l : List Cell) (c : Cell) : putIdx (l.map flipC) (flipC c) = putIdx l c := by
  unfold putIdx
  rw [List.takeWhile_map, List.length_map]
  rfl
theorem insC_map (l : List Cell) (c : Cell) : insC (l.map flipC) (flipC c) = (insC l c).map flipC := by
  unfold insC
  rw [putIdx_map]
  simp [List.map_take, List.map_drop]
theorem puts_map : ∀ (sp : List Spot) (l : List Cell), sp.foldl (fun l s => insC l (newC 1 false s)) (l.map flipC) = (sp.foldl (fun l s => insC l (newC 2 true s)) l).map flipC
  | [], l => rfl
  | s :: sp, l => by
    rw [List.foldl_cons, List.foldl_cons, ← puts_map sp, ← insC_map]
    rfl
theorem rest_map (old : List Spot) (l : List Cell) : restB old false (l.map flipC) = (restB old true l).map flipC := by
  unfold restB
  rw [List.filter_map]
  congr 1
  apply List.filter_congr
  intro c _
  show (!((!c.send) == false) || !decide (placeC c ∈ old)) = (!(c.send == true) || !decide (placeC c ∈ old))
  cases c.send <;> rfl
theorem moved_map {a b : End} (h : b.cl = a.cl.map flipC) (hb : b.pr = 1) (ha : a.pr = 2) (old sp : List Spot) : movedN b old sp false = (movedN a old sp true).map flipC := by
  unfold movedN
  rw [h, hb, ha, rest_map, puts_map]
theorem filter_two (p : Cell → Bool) : ∀ l : List Cell, (l.filter p).length + (l.filter fun c => !p c).length = l.length
  | [] => rfl
  | c :: l => by
    have := filter_two p l
    cases h : p c
    · rw [List.filter_cons_of_neg (by rw [h]; simp), List.filter_cons_of_pos (by rw [h]; rfl)]
      simp only [List.length_cons]; omega
    · rw [List.filter_cons_of_pos h, List.filter_cons_of_neg (by rw [h]; simp)]
      simp only [List.length_cons]; omega
theorem rest_len {cl : List Cell} {old : List Spot} (hc : cl.Pairwise fun a b => a.slot < b.slot) (ho : old.Pairwise fun a b => a.sslot < b.sslot) (hl : listensN cl old = true) : (restB old false cl).length + old.length = cl.length := by
  have h1 := of_decide_eq_true ((count_listens hc ho).trans hl)
  have h2 := filter_two (heard old) cl
  have h3 : restB old false cl = cl.filter fun c => !heard old c := by
    unfold restB
    apply List.filter_congr
    intro c _
    unfold heard
    cases c.send <;> simp
  rw [h3]
  omega
theorem moved_len {e : End} {old sp : List Spot} (hc : e.cl.Pairwise fun a b => a.slot < b.slot) (ho : old.Pairwise fun a b => a.sslot < b.sslot) (hl : listensN e.cl old = true) : (movedN e old sp false).length + old.length = e.cl.length + sp.length := by
  have h := rest_len hc ho hl
  unfold movedN
  rw [puts_len]
  omega

end Go.Am

namespace Go.Am
open Go Go.Proofs
set_option linter.unusedVariables false

theorem ask_sp {e : End} {t : Tab} {f : List Int} {k c slot : Int} (h : (askN e t f k c slot).2.2 = 0) : (askN e t f k c slot).2.1.sp = askSp (fullN t e).1 f k := by
  have hf : ∀ z, z ≠ 0 → (failN z).2.2 ≠ 0 := fun z hz => hz
  unfold askN at h ⊢
  split at h
  · rename_i h1; exact absurd h (hf _ h1)
  · rename_i h1
    rw [if_neg h1]
    split at h
    · exact absurd h (hf _ (by omega))
    · rename_i h2
      rw [if_neg h2]
      split at h
      · exact absurd h (hf _ (by omega))
      · rename_i h3
        rw [if_neg h3]
        split at h
        · exact absurd h (hf _ (by omega))
        · rename_i h4
          rw [if_neg h4]
          split at h
          · exact absurd h (hf _ (by omega))
          · rename_i h5
            rw [if_neg h5]
            rfl
theorem receive_tail {e : End} {t : Tab} {f : List Int} {m : Msg} (h1 : (fullN t e).2 = 0) (h2 : msgErr m = 0) (h3 : m.rep = false) (k : m.kind ≠ 6) (h4 : e.kn = false) (h5 : e.opn = false) (h6 : m.num = e.num) : receiveN e t f m = tailN e m (usableN (fullN t e).1 f m.sp m.cnt) := by
  unfold receiveN
  rw [if_neg (show ¬ (fullN t e).2 ≠ 0 from fun hh => hh h1), if_neg (show ¬ (msgErr m ≠ 0 ∨ m.rep = true) by simp [h2, h3]), if_neg k, if_neg (show ¬ (e.kn = true ∧ e.lst = m) by simp [h4]), if_neg (show ¬ e.opn = true by simp [h5]), if_neg (show ¬ m.num ≠ e.num from fun hh => hh h6)]
theorem answers_noMsg (a : Msg) : answersN a noMsg = false := by
  unfold answersN
  rw [if_pos]
  right; left
  decide
theorem accept_eq {m : Msg} {c : Int} {sp old : List Spot} (h : answersN m (acceptN m c sp old).1 = true) : (acceptN m c sp old).1 = ⟨m.kind, true, m.num, 0, c, sp, old⟩ := by
  unfold acceptN at h ⊢
  split at h
  · have h : answersN m noMsg = true := h
    rw [answers_noMsg] at h; cases h
  · rename_i h1
    rw [if_neg h1]
    split at h
    · rename_i h2; rw [if_pos h2]
    · have h : answersN m noMsg = true := h
      rw [answers_noMsg] at h; cases h
theorem fresh_err {e : End} (h : endErr e = 0) {cl : List Cell} {n : Int} (hcl : cellsOk e.pr cl = true) (hn : 0 ≤ n ∧ n ≤ 255) (hz : n ≠ 0 ∨ cl = []) : endErr ⟨e.nd, e.pr, n, cl, false, 0, noMsg, false, noMsg, noMsg⟩ = 0 := by
  obtain ⟨r1, r2, r3, r4, r5, r6, r7, r8⟩ := endErr_zero h
  unfold endErr
  rw [if_neg (by simp only; omega), if_neg]
  simp only [not_or, Bool.not_eq_false]
  refine ⟨r5, ?_, rfl, rfl⟩
  unfold endCells
  simp only [hcl, Bool.true_and, Bool.or_eq_true, decide_eq_true_eq, List.length_eq_zero_iff]
  exact hz
theorem listens_take {cl : List Cell} {l : List Spot} (h : listensN cl l = true) (n : Nat) : listensN cl (l.take n) = true := by
  unfold listensN at h ⊢
  rw [List.all_eq_true] at h ⊢
  exact fun s hs => h s (List.mem_of_mem_take hs)
/-- What both ends are behind a request whose response arrives. -/
structure Mirr (a b x : End) (t1 t2 : Tab) (k : Int) (y : End) (r : Msg) : Prop where
  fin : (finishN x r).2 = 0
  errA : endErr (finishN x r).1 = 0
  errB : endErr y = 0
  opn : (finishN x r).1.opn = false
  fullA : (fullN t1 (finishN x r).1).2 = 0
  fullB : (fullN t2 y).2 = 0
  alt : (r.code ≠ 0 ∧ y = b ∧ (finishN x r).1 = a) ∨
    (r.code = 0 ∧ (finishN x r).1.num = y.num ∧ y.cl = (finishN x r).1.cl.map flipC ∧
      (k = 1 → ((finishN x r).1.cl.length : Int) = a.cl.length + r.cnt) ∧ (k = 2 → ((finishN x r).1.cl.length : Int) = a.cl.length - r.cnt) ∧
      (k = 6 → ((finishN x r).1.cl.length : Int) = 0) ∧ (k ≠ 1 → k ≠ 2 → k ≠ 6 → ((finishN x r).1.cl.length : Int) = a.cl.length))
theorem mirror_news {a b x : End} {t1 t2 : Tab} {f : List Int} {m : Msg} {k c s : Int} (hab : b.cl = a.cl.map flipC) (hap : a.pr = 2) (hbp : b.pr = 1) (hnum : b.num = a.num)
    (hao : a = closedN a) (hak : a.kn = false ∧ a.lst = noMsg ∧ a.rp = noMsg) (hbo : b.opn = false) (hbk : b.kn = false)
    (fa : (fullN t1 a).2 = 0) (fb : (fullN t2 b).2 = 0) (l1 : t1.cl.length + a.cl.length ≤ 400) (l2 : t2.cl.length + b.cl.length ≤ 400)
    (ask : Asked a x m k c s) (hsp : m.sp = askSp (fullN t1 a).1 f k) :
    (receiveN b t2 f m).2.2 = 0 ∧ Mirr a b x t1 t2 k (receiveN b t2 f m).1 (receiveN b t2 f m).2.1 := by
  have hmsg := ask.msg
  have hreq := ask.rep
  have hxe := ask.eq
  have hxa : x.ask = m := by rw [hxe]
  have hxo : x.opn = true := by rw [hxe]
  have hxn : x.num = a.num := by rw [hxe]
  have hk := ask.kind
  have hmn : m.num = b.num := by rw [ask.num, hnum]
  obtain ⟨a1, a2, a3, a4, a5⟩ := fullN_ok fa
  obtain ⟨b1, b2, b3, b4, b5⟩ := fullN_ok fb
  obtain ⟨r1, r2, r3, r4, r5, r6, r7, r8⟩ := endErr_zero a1
  obtain ⟨m1, m2, m3, m4, m5, m6⟩ := msgErr_zero hmsg
  obtain ⟨m7, m8⟩ := spotsErr_zero m4
  obtain ⟨m9, m10⟩ := spotsErr_zero m5
  have g : Got b t2 f m := ⟨fb, hmsg, hreq, by omega⟩
  have hfin : ∀ r, answersN m r = true → finishN x r = if r.code ≠ 0 then (closedN x, 0) else if r.kind = 6 then ({ fresh x with cl := [], num := 0 }, 0) else if r.kind ≤ 3 then ({ fresh x with cl := movedN x r.old r.sp true, num := nextN x.num }, 0) else ({ fresh x with num := nextN x.num }, 0) := by
    intro r hr
    unfold finishN
    rw [if_neg (show ¬ endErr x ≠ 0 from fun hh => hh ask.err), if_neg (by rw [hxo]; simp), if_neg (by rw [hxa, hr]; simp)]
  have hcx : closedN x = a := by
    rw [hxe]
    exact hao.symm
  rcases receive_news g with ⟨n1, n2, n3, n4, n5⟩ | ⟨n1, n2, n3⟩
  · -- refused
    have hcode : (receiveN b t2 f m).2.1.code ≠ 0 := by
      rcases n5 with ⟨n5, _⟩ | ⟨_, n5, _⟩ | ⟨_, _, n5, _⟩ | ⟨_, _, _, n5⟩
      · rw [hbk] at n5; cases n5
      · rw [hbo] at n5; cases n5
      · exact absurd hmn n5
      · omega
    have hf := hfin _ n3
    rw [if_pos hcode, hcx] at hf
    refine ⟨n2, ?_⟩
    rw [n1]
    refine ⟨by rw [hf], by rw [hf]; exact a1, b1, by rw [hf, hao]; rfl, by rw [hf]; exact fa, fb, .inl ⟨hcode, rfl, by rw [hf]⟩⟩
  · refine ⟨n2, ?_⟩
    have hf := hfin _ n1.ans
    rw [if_neg (show ¬ (receiveN b t2 f m).2.1.code ≠ 0 from fun hh => hh n1.good)] at hf
    -- a fresh end of the asker
    have mk : ∀ (cl : List Cell) (n : Int), finishN x (receiveN b t2 f m).2.1 = ({ fresh x with cl := cl, num := n }, 0) → cellsOk a.pr cl = true → (0 ≤ n ∧ n ≤ 255) → (n ≠ 0 ∨ cl = []) → Takes t1 cl → cl.length ≤ a.cl.length + 8 → (receiveN b t2 f m).1.num = n → (receiveN b t2 f m).1.cl = cl.map flipC →
        ((k = 1 → (cl.length : Int) = a.cl.length + (receiveN b t2 f m).2.1.cnt) ∧ (k = 2 → (cl.length : Int) = a.cl.length - (receiveN b t2 f m).2.1.cnt) ∧ (k = 6 → (cl.length : Int) = 0) ∧ (k ≠ 1 → k ≠ 2 → k ≠ 6 → (cl.length : Int) = a.cl.length)) →
        Mirr a b x t1 t2 k (receiveN b t2 f m).1 (receiveN b t2 f m).2.1 := by
      intro cl n h1 h2 h3 h4 h5 h6 h7 h8 h9
      have he : ({ fresh x with cl := cl, num := n } : End) = ⟨a.nd, a.pr, n, cl, false, 0, noMsg, false, noMsg, noMsg⟩ := by rw [hxe]; rfl
      rw [he] at h1
      have herr := fresh_err a1 h2 h3 h4
      have hfull := (full_of herr a2 a3 a4 (by show t1.cl.length + cl.length ≤ 512; omega) h5).1
      exact ⟨by rw [h1], by rw [h1]; exact herr, n1.err, by rw [h1], by rw [h1]; exact hfull, n1.full, .inr ⟨n1.good, by rw [h1]; exact h7.symm, by rw [h1]; exact h8, by rw [h1]; exact h9⟩⟩
    have hnn := nextN_ok r3
    have hrk : (receiveN b t2 f m).2.1.kind = m.kind := (answers_zero n1.ans).2.2.2.2.1.symm
    rcases n3 with ⟨k6, n3⟩ | ⟨k6, n4, n5, n6, n7, n8⟩
    · -- all cells cleared
      rw [if_pos (by rw [hrk, k6])] at hf
      refine mk [] 0 hf (cellsOk_iff.2 ⟨fun c hc => (List.not_mem_nil hc).elim, .nil⟩) (by omega) (.inr rfl) ⟨fun c hc => (List.not_mem_nil hc).elim, .nil, fun c hc => (List.not_mem_nil hc).elim⟩ (by simp) (by rw [n3]) (by rw [n3]; rfl) ?_
      rw [← hk, k6]
      refine ⟨by omega, by omega, fun _ => rfl, fun _ _ hh => absurd rfl hh⟩
    rw [if_neg (by rw [hrk]; exact k6)] at hf
    have hrt := receive_tail (f := f) fb hmsg hreq k6 hbk n5 n6
    have hsub : (usableN (fullN t2 b).1 f m.sp m.cnt).Sublist m.sp := (List.take_sublist _ _).trans List.filter_sublist
    have huc : ((usableN (fullN t2 b).1 f m.sp m.cnt).length : Int) ≤ m.cnt := by
      have : (usableN (fullN t2 b).1 f m.sp m.cnt).length ≤ m.cnt.toNat := List.length_take_le _ _
      omega
    generalize usableN (fullN t2 b).1 f m.sp m.cnt = us at *
    have husp := m8.sublist hsub
    have hus8 : us.length ≤ 8 := by have := hsub.length_le; omega
    have hcan : ∀ s ∈ us, spotIn s ∧ s.sslot < t1.len ∧ slotIn (fullN t1 a).1.cl s.sslot = false := by
      intro s hs
      have hs := hsub.subset hs
      rw [hsp] at hs
      unfold askSp at hs
      split at hs
      · have := (cand_ok (t := (fullN t1 a).1) (f := f)).1 s hs
        rw [(fold_frame a5).2] at this
        exact this
      · exact (List.not_mem_nil hs).elim
    obtain ⟨ea1, ea2⟩ := end_agreed a1
    obtain ⟨eb1, eb2⟩ := end_agreed b1
    -- the cells that move
    have mv : ∀ (old sp : List Spot) (cnt : Int), (sp = us ∨ sp = []) → (old.Pairwise fun a b => a.sslot < b.sslot) → listensN b.cl old = true → m.kind ≤ 3 → receiveN b t2 f m = doneN b m (movedN b old sp false) cnt sp old →
        ((k = 1 → old = [] ∧ cnt = sp.length) ∧ (k = 2 → sp = [] ∧ cnt = old.length) ∧ (k = 3 → old.length = sp.length)) →
        Mirr a b x t1 t2 k (receiveN b t2 f m).1 (receiveN b t2 f m).2.1 := by
      intro old sp cnt hs ho hl hk3 hr hcnt
      have hr1 : (receiveN b t2 f m).1.cl = movedN b old sp false := by rw [hr]; rfl
      have hr2 : (receiveN b t2 f m).1.num = nextN b.num := by rw [hr]; rfl
      have hr3 : (receiveN b t2 f m).2.1 = (acceptN m cnt sp old).1 := by rw [hr]; rfl
      have hans := n1.ans
      rw [hr3] at hans
      have hacc := accept_eq hans
      rw [hacc] at hr3
      have hx1 : movedN x old sp true = movedN a old sp true := by rw [hxe]; rfl
      rw [if_pos (by rw [hrk]; exact hk3), hr3] at hf
      have hf' : finishN x (receiveN b t2 f m).2.1 = ({ fresh x with cl := movedN a old sp true, num := nextN a.num }, 0) := by
        rw [hr3, hf, hxn]
        show (({ fresh x with cl := movedN x old sp true, num := nextN a.num } : End), (0 : Int)) = _
        rw [hx1]
      have hmap := moved_map hab hbp hap old sp
      have hlen := moved_len (sp := sp) eb2 ho hl
      have hlen2 : (movedN b old sp false).length = (movedN a old sp true).length := by rw [hmap, List.length_map]
      have hlen3 : b.cl.length = a.cl.length := by rw [hab, List.length_map]
      have hspu : ∀ s ∈ sp, s ∈ us := by
        rcases hs with rfl | rfl
        · exact fun s hs => hs
        · exact fun s hs => (List.not_mem_nil hs).elim
      have hspp : sp.Pairwise fun a b => a.sslot < b.sslot := by
        rcases hs with rfl | rfl
        · exact husp
        · exact .nil
      have hsp8 : sp.length ≤ 8 := by
        rcases hs with rfl | rfl
        · exact hus8
        · simp
      refine mk _ _ hf' (moved_ok a1 (fun s hs => (hcan s (hspu s hs)).1) hspp (fun s hs => full_free fa (hcan s (hspu s hs)).2.2)) ⟨by omega, by omega⟩ (.inl (by omega)) (moved_takes fa hspp (fun s hs => ?_) (fun s hs => (hcan s (hspu s hs)).2.2)) (by omega) (by rw [hr2, hnum]) (by rw [hr1, hmap]) ?_
      · obtain ⟨⟨q1, q2, q3, q4⟩, q5, _⟩ := hcan s (hspu s hs)
        exact ⟨q1, q5, q3, q4⟩
      · rw [hr3]
        show (k = 1 → ((movedN a old sp true).length : Int) = a.cl.length + cnt) ∧ (k = 2 → ((movedN a old sp true).length : Int) = a.cl.length - cnt) ∧ (k = 6 → ((movedN a old sp true).length : Int) = 0) ∧ (k ≠ 1 → k ≠ 2 → k ≠ 6 → ((movedN a old sp true).length : Int) = a.cl.length)
        refine ⟨fun q => ?_, fun q => ?_, fun q => ?_, fun q1 q2 q3 => ?_⟩
        · obtain ⟨c1, c2⟩ := hcnt.1 q
          subst c1
          simp only [List.length_nil] at hlen
          omega
        · obtain ⟨c1, c2⟩ := hcnt.2.1 q
          subst c1
          simp only [List.length_nil] at hlen
          omega
        · omega
        · have := hcnt.2.2 (by omega)
          omega
    have same : m.kind = 4 ∨ m.kind = 5 → (receiveN b t2 f m).1.cl = b.cl → Mirr a b x t1 t2 k (receiveN b t2 f m).1 (receiveN b t2 f m).2.1 := by
      intro hk45 hcl
      rw [if_neg (by rw [hrk]; omega)] at hf
      have hxc : x.cl = a.cl := by rw [hxe]
      have hf' : finishN x (receiveN b t2 f m).2.1 = ({ fresh x with cl := a.cl, num := nextN a.num }, 0) := by
        rw [hf, hxn, ← hxc]; rfl
      refine mk _ _ hf' (cellsOk_iff.2 ⟨ea1, ea2⟩) ⟨by omega, by omega⟩ (.inl (by omega)) (full_takes fa) (by omega) (by rw [n7, hnum]) (by rw [hcl, hab]) ?_
      refine ⟨by omega, by omega, by omega, fun _ _ _ => rfl⟩
    have nono : ∀ (P : Prop), receiveN b t2 f m = noN b m 2 → P := by
      intro P h
      have := n1.kn
      rw [h] at this
      have : b.kn = true := this
      rw [hbk] at this; cases this
    have hkk : m.kind = 1 ∨ m.kind = 2 ∨ m.kind = 3 ∨ m.kind = 4 ∨ m.kind = 5 := by omega
    unfold tailN at hrt
    rcases hkk with q | q | q | q | q
    · rw [if_pos q] at hrt
      by_cases hz : us = []
      · rw [if_pos hz] at hrt; exact nono _ hrt
      · rw [if_neg hz] at hrt
        exact mv [] us _ (.inl rfl) .nil rfl (by omega) hrt ⟨fun _ => ⟨rfl, rfl⟩, by omega, by omega⟩
    · rw [if_neg (by omega), if_neg (by omega), if_pos q] at hrt
      by_cases hz : listensN b.cl m.old = false
      · rw [if_pos hz] at hrt; exact nono _ hrt
      · rw [if_neg hz] at hrt
        have hl : listensN b.cl m.old = true := by simpa using hz
        obtain ⟨f1, f2, f3, f4⟩ := follows_del m6 hreq q
        exact mv m.old [] _ (.inr rfl) m10 hl (by omega) hrt ⟨by omega, fun _ => ⟨rfl, f4⟩, by omega⟩
    · rw [if_neg (by omega), if_pos q] at hrt
      by_cases hz : us = [] ∨ listensN b.cl m.old = false
      · rw [if_pos hz] at hrt; exact nono _ hrt
      · rw [if_neg hz] at hrt
        have hl : listensN b.cl m.old = true := by
          cases hb : listensN b.cl m.old
          · exact absurd (.inr hb) hz
          · rfl
        obtain ⟨f1, f2, f3, f4⟩ := follows_mov m6 hreq q
        refine mv (m.old.take us.length) us _ (.inl rfl) (m10.sublist (List.take_sublist _ _)) (listens_take hl _) (by omega) hrt ⟨by omega, by omega, fun _ => ?_⟩
        rw [List.length_take]
        omega
    · rw [if_neg (by omega), if_neg (by omega), if_neg (by omega), if_neg (by omega)] at hrt
      exact same (.inl q) (by rw [hrt]; rfl)
    · rw [if_neg (by omega), if_neg (by omega), if_neg (by omega), if_pos q] at hrt
      exact same (.inr q) (by rw [hrt]; rfl)

end Go.Am

namespace Go.Am
open Go Go.Proofs
set_option linter.unusedVariables false

theorem refuseN_ok {m : Msg} {c : Int} : okM (refuseN m c).1 := by
  unfold refuseN
  split
  · exact noMsg_ok
  · split
    · exact noMsg_ok
    · exact ⟨by show 0 ≤ 100000; omega, by show 0 ≤ 100000; omega⟩
theorem receive_ok {e : End} {t : Tab} {f : List Int} {m : Msg} (he : okE e) (hl : e.cl.length ≤ 512) (ht : t.cl.length ≤ 1000) (hm : okM m) : okE (receiveN e t f m).1 ∧ okM (receiveN e t f m).2.1 := by
  have h0 : ([] : List Spot).length ≤ 100000 := by simp
  have hno : ∀ c, okE (noN e m c).1 ∧ okM (noN e m c).2.1 := fun c => ⟨he, refuseN_ok⟩
  have hdone : ∀ (cl : List Cell) (c : Int) (sp old : List Spot), cl.length ≤ 100000 → sp.length ≤ 100000 → old.length ≤ 100000 → okE (doneN e m cl c sp old).1 ∧ okM (doneN e m cl c sp old).2.1 := fun cl c sp old h1 h2 h3 =>
    ⟨known_ok (e := { e with num := nextN e.num, cl := cl }) ⟨h1, he.2⟩ hm (acceptN_ok h2 h3), acceptN_ok h2 h3⟩
  unfold receiveN
  split
  · exact ⟨⟨by show 0 ≤ 100000; omega, noMsg_ok, noMsg_ok, noMsg_ok⟩, noMsg_ok⟩
  · split
    · exact ⟨⟨by show 0 ≤ 100000; omega, noMsg_ok, noMsg_ok, noMsg_ok⟩, noMsg_ok⟩
    · rename_i hx
      simp only [not_or, Decidable.not_not] at hx
      obtain ⟨_, _, hl8, _⟩ := msgErr_zero hx.1
      split
      · exact ⟨known_ok (e := ⟨e.nd, e.pr, 0, [], false, 0, noMsg, false, noMsg, noMsg⟩) ⟨by simp, noMsg_ok, noMsg_ok, noMsg_ok⟩ hm (acceptN_ok h0 h0), acceptN_ok h0 h0⟩
      · split
        · exact ⟨he, he.2.2.2⟩
        · split
          · exact hno 3
          · split
            · exact hno 1
            · have hus : (usableN (fullN t e).1 f m.sp m.cnt).length ≤ 8 := by
                unfold usableN
                have := List.length_filter_le (fitsN (fullN t e).1 f) m.sp
                rw [List.length_take]; omega
              generalize usableN (fullN t e).1 f m.sp m.cnt = us at *
              unfold tailN
              have hml := fun old sp => movedN_len e old sp false
              split
              · split
                · exact hno 2
                · exact hdone _ _ _ _ (by have := hml [] us; omega) (by omega) h0
              · split
                · split
                  · exact hno 2
                  · exact hdone _ _ _ _ (by have := hml (m.old.take us.length) us; omega) (by omega) (by rw [List.length_take]; omega)
                · split
                  · split
                    · exact hno 2
                    · exact hdone _ _ _ _ (by have := hml m.old []; simp at this; omega) h0 hm.2
                  · split
                    · exact hdone _ _ _ _ he.1 (by rw [List.length_map, List.length_take]; omega) h0
                    · exact hdone _ _ _ _ he.1 h0 h0
end Go.Am

namespace Go.Am
open Go Go.Proofs
set_option linter.unusedVariables false

theorem receive_len {e : End} {t : Tab} {f : List Int} {m : Msg} : (receiveN e t f m).1.cl.length ≤ e.cl.length + 8 := by
  unfold receiveN
  split
  · show 0 ≤ _; omega
  · split
    · show 0 ≤ _; omega
    · rename_i hx
      simp only [not_or, Decidable.not_not] at hx
      obtain ⟨_, _, hl8, _⟩ := msgErr_zero hx.1
      split
      · show 0 ≤ _; omega
      · split
        · show e.cl.length ≤ _; omega
        · split
          · show e.cl.length ≤ _; omega
          · split
            · show e.cl.length ≤ _; omega
            · have hus : (usableN (fullN t e).1 f m.sp m.cnt).length ≤ 8 := by
                unfold usableN
                have := List.length_filter_le (fitsN (fullN t e).1 f) m.sp
                rw [List.length_take]; omega
              generalize usableN (fullN t e).1 f m.sp m.cnt = us at *
              have hml := fun old sp => movedN_len e old sp false
              unfold tailN
              split
              · split
                · show e.cl.length ≤ _; omega
                · show (movedN e [] us false).length ≤ _; have := hml [] us; omega
              · split
                · split
                  · show e.cl.length ≤ _; omega
                  · show (movedN e (m.old.take us.length) us false).length ≤ _; have := hml (m.old.take us.length) us; omega
                · split
                  · split
                    · show e.cl.length ≤ _; omega
                    · show (movedN e m.old [] false).length ≤ _; have := hml m.old []; simp at this; omega
                  · split
                    · show e.cl.length ≤ _; omega
                    · show e.cl.length ≤ _; omega
end Go.Am

namespace Go.Am
open Go Go.Proofs
set_option linter.unusedVariables false

theorem mirrors_core (n : Int) (cells : List Cell) (f : List Int) (k c : Int) (t1 t2 : Tab) (h0 : 0 ≤ n) (h1 : n ≤ 255) (hl : cells.length ≤ 20) (hf : f.length ≤ 20) (hk : 1 ≤ k ∧ k ≤ 6) (hc : countsN k c = true) (l1 : t1.cl.length ≤ 100) (l2 : t2.cl.length ≤ 100)
    (fa : (fullN t1 (endA n cells)).2 = 0) (fb : (fullN t2 (endB n cells)).2 = 0) :
    lv cd5 C5 (J5_15 f k c (endA n cells) (endB n cells) t1 t2) = some true := by
  obtain ⟨oa, la⟩ := endA_ok (n := n) hl
  obtain ⟨ob, lb⟩ := endB_ok (n := n) hl
  have v1 := V37_eq (endA n cells) t1 f k c 0 oa (by omega) (by omega) (by omega)
  have f1 := F37_eq (endA n cells) t1 f k c 0 oa (by omega) (by omega) (by omega)
  rw [eJ5_15]
  simp only [tJ5_15, Tr.val, v1, f1, Option.isSome_some, condT, Bool.cond_not, cond_dec]
  by_cases hx : (askN (endA n cells) t1 f k c 0).2.2 = 0
  case neg =>
    rw [if_neg hx, ask_fails fa hk (by omega) hc rfl hx]
    rfl
  rw [if_pos hx]
  obtain ⟨_, ask⟩ := ask_ok hx
  have hsp := ask_sp hx
  obtain ⟨ox, om⟩ := askN_okk (t := t1) (f := f) (k := k) (c := c) (slot := 0) oa (by omega : (endA n cells).cl.length ≤ 512)
  have hxe := ask.eq
  generalize (askN (endA n cells) t1 f k c 0).1 = x at *
  generalize (askN (endA n cells) t1 f k c 0).2.1 = m at *
  have lx : x.cl.length ≤ 20 := by rw [hxe]; exact la
  have hnx : x.num = (endA n cells).num := by rw [hxe]
  have v2 := V28_eq (endB n cells) t2 f m ob (by omega) (by omega) (by omega) om
  have f2 := F28_eq (endB n cells) t2 f m ob (by omega) (by omega) (by omega) om
  obtain ⟨hz, mi⟩ := mirror_news (a := endA n cells) (b := endB n cells) (x := x) (t1 := t1) (t2 := t2) (f := f) (m := m) (k := k) (c := c) (s := 0) rfl rfl rfl rfl rfl ⟨rfl, rfl, rfl⟩ rfl rfl fa fb (by omega) (by omega) ask hsp
  have hlen := receive_len (e := endB n cells) (t := t2) (f := f) (m := m)
  obtain ⟨oy, or⟩ := receive_ok (f := f) ob (by omega : (endB n cells).cl.length ≤ 512) (by omega : t2.cl.length ≤ 1000) om
  have hpair : receiveN (endB n cells) t2 f m = ((receiveN (endB n cells) t2 f m).1, (receiveN (endB n cells) t2 f m).2.1, (receiveN (endB n cells) t2 f m).2.2) := rfl
  generalize (receiveN (endB n cells) t2 f m).1 = y at *
  generalize (receiveN (endB n cells) t2 f m).2.1 = r at *
  rw [hz] at hpair
  rw [hpair] at v2 f2
  have v3 := V32_eq x r ox (by omega) or
  have f3 := F32_eq x r ox (by omega) or
  have oz := finish_ok ox (by omega : x.cl.length ≤ 512) or
  obtain ⟨d1, d2, d3, d4, d5, d6, d7⟩ := mi
  have hlz : (finishN x r).1.cl.length ≤ 512 := by
    rcases d7 with ⟨_, _, q⟩ | ⟨_, _, q, _⟩
    · rw [q]; omega
    · have : y.cl.length = (finishN x r).1.cl.length := by rw [q, List.length_map]
      omega
  have e21 : lv cd5 C5 J5_21 = some false := by rw [eJ5_21]; rfl
  simp only [v2, f2, v3, f3, V38_eq y oy, F38_eq y oy, d1, d3, V38_eq _ oz, F38_eq _ oz, d2, d4, hnx, Option.isSome_some, condT, condF, if_true]
  rw [eJ5_22]
  have u1 := V36_eq t1 (finishN x r).1 oz hlz (by omega)
  have g1 := F36_eq t1 (finishN x r).1 oz hlz (by omega)
  have u2 := V36_eq t2 y oy (by omega) (by omega)
  have g2 := F36_eq t2 y oy (by omega) (by omega)
  simp only [tJ5_22, Tr.val, u1, g1, u2, g2, d5, d6, Option.isSome_some, condT, condF, decide_true, Bool.not_true]
  rcases d7 with ⟨q1, q2, q3⟩ | ⟨q1, q2, q3, q4, q5, q6, q7⟩
  · rw [decide_eq_false q1]
    simp only [Bool.not_false, condT]
    rw [q2, q3]
    simp only [V30_eq _ _ oa, F30_eq _ _ oa, V30_eq _ _ ob, F30_eq _ _ ob, Option.isSome_some, condT, decide_true]
  · rw [q1]
    have e38 : ∀ w : Int, ((finishN x r).1.cl.length : Int) = w → lv cd5 C5 (J5_38 w y (finishN x r).1) = some true := by
      intro w hw
      rw [eJ5_38]
      have hv := V39_flip (finishN x r).1.cl (by omega)
      have hF := F39_flip (finishN x r).1.cl (by omega)
      rw [← q3] at hv hF
      simp only [tJ5_38, Tr.val, q2, hw, hv, hF, Option.isSome_some, decide_true, condT]
    have hlz' : ((finishN x r).1.cl.length : Int) ≤ 512 := by omega
    simp only [decide_true, Bool.not_true, condF, cond_dec]
    by_cases k1 : k = 1
    · have := q4 k1
      rw [if_pos k1, inR_ok (by omega) (by omega), condT, e38 _ this]
    · rw [if_neg k1]
      by_cases k2 : k = 2
      · have := q5 k2
        rw [if_pos k2, inR_ok (by omega) (by omega), condT, e38 _ this]
      · rw [if_neg k2]
        by_cases k6 : k = 6
        · rw [if_pos k6, e38 _ (q6 k6)]
        · rw [if_neg k6, e38 _ (q7 k1 k2 k6)]
theorem V5_true (n : Int) (cells : List Cell) (o1 o2 f : List Int) (kind count : Int) (wn : (Lit.int .u8 n).wf = true) (wk : (Lit.int .u8 kind).wf = true) (wc : (Lit.int .u8 count).wf = true) : V5 n cells o1 o2 f kind count = some true := by
  have ha := V24_true
  have hF : F24 = true := getD_of ha
  obtain ⟨n0, n1⟩ := bounds_u8 wn
  obtain ⟨k0, k1⟩ := bounds_u8 wk
  obtain ⟨c0, c1⟩ := bounds_u8 wc
  unfold V5
  rw [eS5]
  have e4 : lv cd5 C5 J5_4 = some true := by rw [eJ5_4]; rfl
  simp only [tS5, Tr.val, ha, hF, e4, Option.isSome_some, condT, Bool.not_true, condF, cond_dec]
  by_cases h1 : (20 : Int) < cells.length
  case pos => rw [if_pos h1]
  by_cases h2 : (8 : Int) < o1.length
  case pos => rw [if_neg h1, if_pos h2]
  by_cases h3 : (8 : Int) < o2.length
  case pos => rw [if_neg h1, if_neg h2, if_pos h3]
  by_cases h4 : (20 : Int) < f.length
  case pos => rw [if_neg h1, if_neg h2, if_neg h3, if_pos h4]
  rw [if_neg h1, if_neg h2, if_neg h3, if_neg h4, eJ5_5]
  have hl : cells.length ≤ 20 := by omega
  have ho1 := others_len 1 o1
  have ho2 := others_len 2 o2
  obtain ⟨oa, la⟩ := endA_ok (n := n) hl
  obtain ⟨ob, lb⟩ := endB_ok (n := n) hl
  have e10 : lv cd5 C5 J5_10 = some true := by rw [eJ5_10]; rfl
  simp only [tJ5_5, Tr.val, V34_eq n cells n0 n1 (by omega), F34_eq n cells n0 n1 (by omega), V35_eq 1 o1 (by omega), F35_eq 1 o1 (by omega), V35_eq 2 o2 (by omega), F35_eq 2 o2 (by omega), V36_eq (othersN 1 o1) (endA n cells) oa (by omega) (by omega), F36_eq (othersN 1 o1) (endA n cells) oa (by omega) (by omega),
    V36_eq (othersN 2 o2) (endB n cells) ob (by omega) (by omega), F36_eq (othersN 2 o2) (endB n cells) ob (by omega) (by omega), e10, Option.isSome_some, condT, Bool.cond_not, cond_dec]
  by_cases fa : (fullN (othersN 1 o1) (endA n cells)).2 = 0
  case neg => rw [if_neg fa]
  by_cases fb : (fullN (othersN 2 o2) (endB n cells)).2 = 0
  case neg => rw [if_pos fa, if_neg fb]
  rw [if_pos fa, if_pos fb, eJ5_11]
  have wk : IntKind.wrap .i64 kind = kind := wrap64 (by omega) (by omega)
  have wc : IntKind.wrap .i64 count = count := wrap64 (by omega) (by omega)
  have tk : Int.tmod kind 6 = kind % 6 := Int.tmod_eq_emod_of_nonneg (by omega)
  have tc : Int.tmod count 3 = count % 3 := Int.tmod_eq_emod_of_nonneg (by omega)
  have g1 : inR .i64 (1 + kind % 6) = true := inR_ok (by omega) (by omega)
  have g2 : inR .i64 (1 + count % 3) = true := inR_ok (by omega) (by omega)
  simp only [tJ5_11, Tr.val, wk, wc, tk, tc, g1, g2, condT, cond_dec]
  by_cases hk : 3 < 1 + kind % 6
  · rw [if_pos hk]
    exact mirrors_core n cells f _ 0 _ _ n0 n1 hl (by omega) (by omega) (by unfold countsN; rw [if_neg (by omega)]; rfl) (by omega) (by omega) fa fb
  · rw [if_neg hk]
    exact mirrors_core n cells f _ _ _ _ n0 n1 hl (by omega) (by omega) (by unfold countsN; rw [if_pos (by omega)]; exact decide_eq_true (by omega)) (by omega) (by omega) fa fb

end Go.Am
