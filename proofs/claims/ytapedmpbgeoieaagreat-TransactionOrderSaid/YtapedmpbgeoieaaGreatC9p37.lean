/- Part 37 of the proof: N32 N33. -/
import Derived.Test.YtapedmpbgeoieaaGreatC9p35
import Derived.Test.YtapedmpbgeoieaaGreatC9p36
set_option linter.unusedSimpArgs false
set_option linter.unusedVariables false
namespace Go.Am
open Go Go.Proofs
set_option linter.unusedVariables false

def newA (c : Cell) : Cell := ⟨c.slot, c.offset, 2, c.send, 2, -1⟩
def flipC (c : Cell) : Cell := ⟨c.slot, c.offset, c.kind, !c.send, 1, c.flow⟩
def later (A : List Cell) (s : Int) : Bool := A.any fun x => decide (s ≤ x.slot)
def twoStep (n : Int) (A : List Cell) (c : Cell) : List Cell := if n = 0 ∨ c.slot < 0 ∨ 12 ≤ c.slot ∨ c.offset < 0 ∨ 16 ≤ c.offset ∨ later A c.slot = true then A else A ++ [newA c]
def twoA (n : Int) (cells : List Cell) : List Cell := cells.foldl (twoStep n) []
def endA (n : Int) (cells : List Cell) : End := ⟨1, 2, n, twoA n cells, false, 0, noMsg, false, noMsg, noMsg⟩
def endB (n : Int) (cells : List Cell) : End := ⟨2, 1, n, (twoA n cells).map flipC, false, 0, noMsg, false, noMsg, noMsg⟩
theorem twoStep_len (n : Int) (A : List Cell) (c : Cell) : (twoStep n A c).length ≤ A.length + 1 := by
  unfold twoStep
  split
  · omega
  · simp
noncomputable def s3 (n : Int) (cells : List Cell) (i : Int) (A B : List Cell) : St := J34_3 n cells (cells.length : Int) i 0 0 0 false 0 0 false 0 0 0 false 0 false 0 0 0 0 false 0 0 0 0 0 0 false 0 0 false 0 0 0 false 0 false 0 0 0 0 false 0 0 0 1 2 n A false 0 0 false 0 0 0 false 0 false 0 0 0 0 false 0 0 0 2 1 n B false 0 0 false 0 0 0 false 0 false 0 0 0 0 false 0 0 0
noncomputable def s10 (n : Int) (cells : List Cell) (i : Int) (A B : List Cell) : St := J34_10 n cells (cells.length : Int) i 0 0 0 false 0 0 false 0 0 0 false 0 false 0 0 0 0 false 0 0 0 0 0 0 false 0 0 false 0 0 0 false 0 false 0 0 0 0 false 0 0 0 1 2 n A false 0 0 false 0 0 0 false 0 false 0 0 0 0 false 0 0 0 2 1 n B false 0 0 false 0 0 0 false 0 false 0 0 0 0 false 0 0 0
noncomputable def s6 (n : Int) (cells : List Cell) (i : Int) (A B : List Cell) (c : Cell) : St := J34_6 n cells (cells.length : Int) i 0 0 0 false 0 0 false 0 0 0 false 0 false 0 0 0 0 false 0 0 0 0 0 0 false 0 0 false 0 0 0 false 0 false 0 0 0 0 false 0 0 0 1 2 n A false 0 0 false 0 0 0 false 0 false 0 0 0 0 false 0 0 0 2 1 n B false 0 0 false 0 0 0 false 0 false 0 0 0 0 false 0 0 0 c
noncomputable def s198 (n : Int) (cells : List Cell) (i : Int) (A B : List Cell) (c : Cell) (j : Int) : St := J34_2_198_0 A (A.length : Int) j A false A n cells (cells.length : Int) i true c c n (decide (n = 0)) false c.slot (decide (c.slot < 0)) (decide (c.slot < 0)) false c.slot (decide (12 ≤ c.slot)) (decide (12 ≤ c.slot)) false c.offset (decide (c.offset < 0)) (decide (c.offset < 0)) false c.offset (decide (16 ≤ c.offset)) (decide (16 ≤ c.offset)) false A 0 0 0 false 0 0 false 0 0 0 false 0 false 0 0 0 0 false 0 0 0 0 0 0 false 0 0 false 0 0 0 false 0 false 0 0 0 0 false 0 0 0 1 2 n A false 0 0 false 0 0 0 false 0 false 0 0 0 0 false 0 0 0 2 1 n B false 0 0 false 0 0 0 false 0 false 0 0 0 0 false 0 0 0 c
theorem s10_eq {n : Int} {cells : List Cell} {i : Nat} {A B : List Cell} (hi : i < cells.length) (hl : cells.length ≤ 1000) : lv cd34 C34 (s10 n cells i A B) = lv cd34 C34 (s3 n cells ((i + 1 : Nat) : Int) A B) := by
  have g3 := inR_ok (n := (i : Int) + 1) (by omega) (by omega)
  unfold s10 s3
  rw [eJ34_10, show ((i + 1 : Nat) : Int) = (i : Int) + 1 by omega]
  simp only [tJ34_10, Tr.val, g3, condT]
theorem s6_eq {n : Int} {cells : List Cell} {i : Nat} {A B : List Cell} {c : Cell} (hi : i < cells.length) (hl : cells.length ≤ 1000) (hA : A.length ≤ 1000) (hB : B.length ≤ 1000) : lv cd34 C34 (s6 n cells i A B c) = lv cd34 C34 (s3 n cells ((i + 1 : Nat) : Int) (A ++ [newA c]) (B ++ [flipC (newA c)])) := by
  have i1 : il A ([(⟨c.slot, c.offset, 2, c.send, 2, -1⟩ : Cell)] : List Cell) 48 = true := il_le (by omega) (by simp) (by omega)
  have i2 : il B ([(⟨c.slot, c.offset, 2, !c.send, 1, -1⟩ : Cell)] : List Cell) 48 = true := il_le (by omega) (by simp) (by omega)
  have h := s10_eq (n := n) (A := A ++ [newA c]) (B := B ++ [flipC (newA c)]) hi hl
  unfold s10 at h
  unfold s6
  rw [eJ34_6]
  simp only [tJ34_6, Tr.val, i1, i2, condT]
  exact h
theorem s198_eq {n : Int} {cells : List Cell} {i : Nat} {A B : List Cell} {c : Cell} (hi : i < cells.length) (hl : cells.length ≤ 1000) (hA : A.length ≤ 1000) (hB : B.length ≤ 1000) :
    lv cd34 C34 (s198 n cells i A B c 0) = bif later A c.slot then lv cd34 C34 (s3 n cells ((i + 1 : Nat) : Int) A B) else lv cd34 C34 (s3 n cells ((i + 1 : Nat) : Int) (A ++ [newA c]) (B ++ [flipC (newA c)])) := by
  have h10 := s10_eq (n := n) (A := A) (B := B) hi hl
  have h6 := s6_eq (n := n) (A := A) (B := B) (c := c) hi hl hA hB
  unfold s10 at h10
  unfold s6 at h6
  have step : ∀ j, j < A.length → lv cd34 C34 (s198 n cells i A B c ((j : Nat) : Int)) = bif decide (c.slot ≤ (A.getD j default).slot) then lv cd34 C34 (s3 n cells ((i + 1 : Nat) : Int) A B) else lv cd34 C34 (s198 n cells i A B c ((j + 1 : Nat) : Int)) := by
    intro j hj
    have g1 : (j : Int) < (A.length : Int) := by omega
    have g2 := ib_nat hj
    have g3 := inR_ok (n := (j : Int) + 1) (by omega) (by omega)
    have g4 : nth .cell A j = A.getD j default := nth_getD (st := .cell) A j
    have g5 : (0 : Int) ≤ j := by omega
    unfold s198
    rw [eJ34_2_198_0, show ((j + 1 : Nat) : Int) = (j : Int) + 1 by omega]
    simp only [tJ34_2_198_0, Tr.val, g1, g2, g3, g4, g5, h10, decide_true, condT, condF]
  have h := any_list0 (J := fun j => lv cd34 C34 (s198 n cells i A B c ((j : Nat) : Int))) (l := A) (p := fun x => decide (c.slot ≤ x.slot)) step
  have h : lv cd34 C34 (s198 n cells i A B c 0) = _ := h
  have hend : lv cd34 C34 (s198 n cells i A B c ((A.length : Nat) : Int)) = lv cd34 C34 (s3 n cells ((i + 1 : Nat) : Int) (A ++ [newA c]) (B ++ [flipC (newA c)])) := by
    unfold s198
    rw [eJ34_2_198_0]
    simp only [tJ34_2_198_0, Tr.val, Int.lt_irrefl, decide_false, condF, h6]
  rw [h, hend]
  rfl
theorem s3_eq {n : Int} {cells : List Cell} {i : Nat} {A : List Cell} (hi : i < cells.length) (hl : cells.length ≤ 1000) (hA : A.length ≤ 1000) :
    lv cd34 C34 (s3 n cells i A (A.map flipC)) = lv cd34 C34 (s3 n cells ((i + 1 : Nat) : Int) (twoStep n A (cells.getD i default)) ((twoStep n A (cells.getD i default)).map flipC)) := by
  have g1 : (i : Int) < (cells.length : Int) := by omega
  have g2 := ib_nat hi
  have g4 : nth .cell cells i = cells.getD i default := nth_getD (st := .cell) cells i
  have h10 := s10_eq (n := n) (A := A) (B := A.map flipC) hi hl
  have h198 := s198_eq (n := n) (A := A) (B := A.map flipC) (c := cells.getD i default) hi hl hA (by rw [List.length_map]; exact hA)
  unfold s10 at h10
  unfold s198 at h198
  have key := eJ34_3 n cells (cells.length : Int) (i : Int) 0 0 0 false 0 0 false 0 0 0 false 0 false 0 0 0 0 false 0 0 0 0 0 0 false 0 0 false 0 0 0 false 0 false 0 0 0 0 false 0 0 0 1 2 n A false 0 0 false 0 0 0 false 0 false 0 0 0 0 false 0 0 0 2 1 n (A.map flipC) false 0 0 false 0 0 0 false 0 false 0 0 0 0 false 0 0 0
  simp only [tJ34_3, Tr.val, g1, g2, g4, decide_true, condT, cond_dec, h10, h198] at key
  have key : lv cd34 C34 (s3 n cells i A (A.map flipC)) = _ := key
  rw [key]
  generalize cells.getD i default = c
  unfold twoStep
  by_cases k1 : n = 0
  · rw [if_pos k1, if_pos (show n = 0 ∨ c.slot < 0 ∨ 12 ≤ c.slot ∨ c.offset < 0 ∨ 16 ≤ c.offset ∨ later A c.slot = true from .inl k1)]
  by_cases k2 : c.slot < 0
  · rw [if_neg k1, if_pos k2, if_pos (show n = 0 ∨ c.slot < 0 ∨ 12 ≤ c.slot ∨ c.offset < 0 ∨ 16 ≤ c.offset ∨ later A c.slot = true from .inr (.inl k2))]
  by_cases k3 : 12 ≤ c.slot
  · rw [if_neg k1, if_neg k2, if_pos k3, if_pos (show n = 0 ∨ c.slot < 0 ∨ 12 ≤ c.slot ∨ c.offset < 0 ∨ 16 ≤ c.offset ∨ later A c.slot = true from .inr (.inr (.inl k3)))]
  by_cases k4 : c.offset < 0
  · rw [if_neg k1, if_neg k2, if_neg k3, if_pos k4, if_pos (show n = 0 ∨ c.slot < 0 ∨ 12 ≤ c.slot ∨ c.offset < 0 ∨ 16 ≤ c.offset ∨ later A c.slot = true from .inr (.inr (.inr (.inl k4))))]
  by_cases k5 : 16 ≤ c.offset
  · rw [if_neg k1, if_neg k2, if_neg k3, if_neg k4, if_pos k5, if_pos (show n = 0 ∨ c.slot < 0 ∨ 12 ≤ c.slot ∨ c.offset < 0 ∨ 16 ≤ c.offset ∨ later A c.slot = true from .inr (.inr (.inr (.inr (.inl k5)))))]
  rw [if_neg k1, if_neg k2, if_neg k3, if_neg k4, if_neg k5]
  cases hb : later A c.slot
  · rw [if_neg (show ¬ (n = 0 ∨ c.slot < 0 ∨ 12 ≤ c.slot ∨ c.offset < 0 ∨ 16 ≤ c.offset ∨ false = true) by simp; omega), condF, List.map_append]
    rfl
  · rw [if_pos (show n = 0 ∨ c.slot < 0 ∨ 12 ≤ c.slot ∨ c.offset < 0 ∨ 16 ≤ c.offset ∨ true = true from .inr (.inr (.inr (.inr (.inr rfl))))), condT]
theorem V34_eq (n : Int) (cells : List Cell) (h0 : 0 ≤ n) (h1 : n ≤ 255) (hl : cells.length ≤ 500) : V34 n cells = some (endA n cells, endB n cells) := by
  unfold V34
  rw [eS34]
  have hw : IntKind.wrap .i64 n = n := wrap64 h0 (by omega)
  simp only [tS34, Tr.val, hw]
  have h := fold_list0 (J := fun i A => lv cd34 C34 (s3 n cells ((i : Nat) : Int) A (A.map flipC))) (l := cells) (f := twoStep n) (inv := fun i A => A.length ≤ i) (fun i A hi hA => ⟨s3_eq hi (by omega) (by omega), by have := twoStep_len n A (cells.getD i default); omega⟩) [] (by simp)
  have h : lv cd34 C34 (s3 n cells 0 [] []) = _ := h
  unfold s3 at h
  rw [h]
  try simp only
  rw [eJ34_3]
  simp only [tJ34_3, Tr.val, Int.lt_irrefl, decide_false, condF]
  rfl
theorem F34_eq (n : Int) (cells : List Cell) (h0 : 0 ≤ n) (h1 : n ≤ 255) (hl : cells.length ≤ 500) : F34 n cells = (endA n cells, endB n cells) := getD_of (V34_eq n cells h0 h1 hl)

end Go.Am

namespace Go.Am
open Go Go.Proofs
set_option linter.unusedVariables false

/-- What the cells of such a pair look like. -/
structure TwoOk (n : Int) (A : List Cell) : Prop where
  form : ∀ c ∈ A, c.kind = 2 ∧ c.peer = 2 ∧ c.flow = -1 ∧ (0 ≤ c.slot ∧ c.slot < 12) ∧ (0 ≤ c.offset ∧ c.offset < 16)
  asc : A.Pairwise fun a b => a.slot < b.slot
  zero : n = 0 → A = []
theorem twoStep_ok {n : Int} {A : List Cell} (h : TwoOk n A) (c : Cell) : TwoOk n (twoStep n A c) := by
  unfold twoStep
  split
  · exact h
  · rename_i hc
    simp only [not_or, Bool.not_eq_true] at hc
    obtain ⟨h1, h2, h3, h4, h5, h6⟩ := hc
    refine ⟨fun x hx => ?_, ?_, fun hn => absurd hn h1⟩
    · rcases List.mem_append.1 hx with hx | hx
      · exact h.form x hx
      · rw [List.mem_singleton.1 hx]
        exact ⟨rfl, rfl, rfl, ⟨by show 0 ≤ c.slot; omega, by show c.slot < 12; omega⟩, ⟨by show 0 ≤ c.offset; omega, by show c.offset < 16; omega⟩⟩
    · rw [List.pairwise_append]
      refine ⟨h.asc, List.pairwise_singleton _ _, fun x hx y hy => ?_⟩
      rw [List.mem_singleton.1 hy]
      show x.slot < c.slot
      unfold later at h6
      rw [List.any_eq_false] at h6
      have := h6 x hx
      simp at this
      omega
theorem twoA_ok (n : Int) (cells : List Cell) : TwoOk n (twoA n cells) ∧ (twoA n cells).length ≤ cells.length := by
  have aux : ∀ (l A : List Cell), TwoOk n A → TwoOk n (l.foldl (twoStep n) A) ∧ (l.foldl (twoStep n) A).length ≤ A.length + l.length := by
    intro l
    induction l with
    | nil => intro A h; exact ⟨h, by simp⟩
    | cons c l ih =>
      intro A h
      rw [List.foldl_cons]
      obtain ⟨h1, h2⟩ := ih _ (twoStep_ok h c)
      have := twoStep_len n A c
      exact ⟨h1, by simp only [List.length_cons]; omega⟩
  have := aux cells [] ⟨fun c hc => (List.not_mem_nil hc).elim, .nil, fun _ => rfl⟩
  exact ⟨this.1, by have := this.2; simp at this; exact this⟩
theorem endA_err {n : Int} (h0 : 0 ≤ n) (h1 : n ≤ 255) (cells : List Cell) : endErr (endA n cells) = 0 := by
  obtain ⟨⟨k1, k2, k3⟩, _⟩ := twoA_ok n cells
  unfold endErr endA
  rw [if_neg (by simp only; omega), if_neg]
  simp only [not_or, Bool.not_eq_false]
  refine ⟨by decide, ?_, rfl, rfl⟩
  unfold endCells
  simp only [Bool.and_eq_true, Bool.or_eq_true, decide_eq_true_eq, List.length_eq_zero_iff]
  refine ⟨cellsOk_iff.2 ⟨fun c hc => ?_, k2⟩, ?_⟩
  · obtain ⟨q1, q2, q3, q4, q5⟩ := k1 c hc
    exact ⟨q1, q2, q3, by omega, by omega⟩
  · by_cases hn : n = 0
    · exact .inr (k3 hn)
    · exact .inl hn
theorem endB_err {n : Int} (h0 : 0 ≤ n) (h1 : n ≤ 255) (cells : List Cell) : endErr (endB n cells) = 0 := by
  obtain ⟨⟨k1, k2, k3⟩, _⟩ := twoA_ok n cells
  unfold endErr endB
  rw [if_neg (by simp only; omega), if_neg]
  simp only [not_or, Bool.not_eq_false]
  refine ⟨by decide, ?_, rfl, rfl⟩
  unfold endCells
  simp only [Bool.and_eq_true, Bool.or_eq_true, decide_eq_true_eq, List.length_eq_zero_iff]
  refine ⟨cellsOk_iff.2 ⟨fun c hc => ?_, ?_⟩, ?_⟩
  · obtain ⟨x, hx, rfl⟩ := List.mem_map.1 hc
    obtain ⟨q1, q2, q3, q4, q5⟩ := k1 x hx
    exact ⟨q1, rfl, q3, by show 0 ≤ x.slot ∧ x.slot ≤ 511; omega, by show 0 ≤ x.offset ∧ x.offset ≤ 15; omega⟩
  · rw [List.pairwise_map]
    exact k2
  · by_cases hn : n = 0
    · right
      rw [k3 hn]; rfl
    · exact .inl hn
def bareT (n : Int) : Tab := ⟨n, 12, []⟩
theorem V35_nil (n : Int) : V35 n [] = some (bareT n) := by
  unfold V35
  rw [eS35]
  simp only [tS35, Tr.val]
  rw [eJ35_3]
  rfl
theorem F35_nil (n : Int) : F35 n [] = bareT n := getD_of (V35_nil n)
theorem agreed_takes {t : Tab} (ht : t.len = 12) (hc : ∀ x ∈ t.cl, x.kind ≠ 2) {l : List Cell} {p : Int} (hp : 0 ≤ p ∧ p < 32 ∧ p ≠ t.nd) (h : ∀ c ∈ l, c.kind = 2 ∧ c.peer = p ∧ c.flow = -1 ∧ (0 ≤ c.slot ∧ c.slot < 12) ∧ (0 ≤ c.offset ∧ c.offset < 16)) (ha : l.Pairwise fun a b => a.slot < b.slot) : Takes t l := by
  refine ⟨fun c hcm => ?_, ha.imp fun {a b} hab hcl => by have := hcl.1; omega, fun c hcm x hx hcl => ?_⟩
  · obtain ⟨q1, q2, q3, q4, q5⟩ := h c hcm
    exact (cellErr_agreed q1).2 ⟨q3, by rw [ht]; exact q4, q5, by omega⟩
  · obtain ⟨q1, _⟩ := h c hcm
    exact hc x hx (hcl.2.trans q1)
theorem fullA {n : Int} (h0 : 0 ≤ n) (h1 : n ≤ 255) {cells : List Cell} (hl : cells.length ≤ 20) : (fullN (bareT 1) (endA n cells)).2 = 0 := by
  obtain ⟨⟨k1, k2, _⟩, k3⟩ := twoA_ok n cells
  have hlen : (endA n cells).cl.length = (twoA n cells).length := rfl
  have hb : (bareT 1).cl.length = 0 := rfl
  exact (full_of (endA_err h0 h1 cells) (by decide) rfl rfl (by rw [hlen, hb]; omega) (agreed_takes (p := 2) rfl (fun x hx => (List.not_mem_nil hx).elim) (by decide) k1 k2)).1
theorem fullB {n : Int} (h0 : 0 ≤ n) (h1 : n ≤ 255) {cells : List Cell} (hl : cells.length ≤ 20) : (fullN (bareT 2) (endB n cells)).2 = 0 := by
  obtain ⟨⟨k1, k2, _⟩, k3⟩ := twoA_ok n cells
  have hlen : (endB n cells).cl.length = (twoA n cells).length := by show ((twoA n cells).map flipC).length = _; rw [List.length_map]
  have hb : (bareT 2).cl.length = 0 := rfl
  refine (full_of (endB_err h0 h1 cells) (by decide) rfl rfl (by rw [hlen, hb]; omega) (agreed_takes (p := 1) rfl (fun x hx => (List.not_mem_nil hx).elim) (by decide) (fun c hc => ?_) ?_)).1
  · obtain ⟨x, hx, rfl⟩ := List.mem_map.1 (show c ∈ (twoA n cells).map flipC from hc)
    obtain ⟨q1, q2, q3, q4, q5⟩ := k1 x hx
    exact ⟨q1, rfl, q3, q4, q5⟩
  · show ((twoA n cells).map flipC).Pairwise _
    rw [List.pairwise_map]; exact k2
theorem full_same {t : Tab} {e x : End} (h : (fullN t e).2 = 0) (hx : endErr x = 0) (h1 : x.nd = e.nd) (h2 : x.pr = e.pr) (h3 : x.cl = e.cl) : fullN t x = fullN t e := by
  obtain ⟨g1, _⟩ := fullN_ok h
  unfold fullN
  rw [g1, hx, h1, h2, h3]
/-- What asks fails only for want of cells. -/
theorem ask_fails {e : End} {t : Tab} {f : List Int} {k c slot : Int} (hf : (fullN t e).2 = 0) (hk : 1 ≤ k ∧ k ≤ 6) (hs : 0 ≤ slot ∧ slot ≤ 1099511627776) (hc : countsN k c = true) (ho : e.opn = false) (h : (askN e t f k c slot).2.2 ≠ 0) : (askN e t f k c slot).2.2 = 14 := by
  unfold askN at h ⊢
  rw [if_neg (show ¬ (fullN t e).2 ≠ 0 from fun hh => hh hf), if_neg (show ¬ (k < 1 ∨ 6 < k ∨ ¬ (0 ≤ slot ∧ slot ≤ 1099511627776) ∨ countsN k c = false) by rw [hc]; simp; omega), if_neg (by rw [ho]; simp)] at h ⊢
  split
  · rfl
  · rename_i h1
    rw [if_neg h1] at h
    split
    · rfl
    · rename_i h2
      rw [if_neg h2] at h
      exact absurd rfl h
theorem ask_open {e : End} {t : Tab} {f : List Int} {k c slot : Int} (hf : (fullN t e).2 = 0) (hk : 1 ≤ k ∧ k ≤ 6) (hs : 0 ≤ slot ∧ slot ≤ 1099511627776) (hc : countsN k c = true) (ho : e.opn = true) : (askN e t f k c slot).2.2 = 12 := by
  unfold askN
  rw [if_neg (show ¬ (fullN t e).2 ≠ 0 from fun hh => hh hf), if_neg (show ¬ (k < 1 ∨ 6 < k ∨ ¬ (0 ≤ slot ∧ slot ≤ 1099511627776) ∨ countsN k c = false) by rw [hc]; simp; omega), if_pos ho]
  rfl
theorem ask_count {e : End} {t : Tab} {f : List Int} (hf : (fullN t e).2 = 0) (ho : e.opn = false) : askN e t f 4 0 0 = openN e ⟨4, false, 0, 0, 0, [], []⟩ 0 := by
  unfold askN
  rw [if_neg (show ¬ (fullN t e).2 ≠ 0 from fun hh => hh hf), if_neg (by decide), if_neg (by rw [ho]; simp), if_neg (by omega), if_neg (by omega)]
  rfl
theorem endA_ok {n : Int} {cells : List Cell} (hl : cells.length ≤ 20) : okE (endA n cells) ∧ (endA n cells).cl.length ≤ 20 := by
  have := (twoA_ok n cells).2
  exact ⟨⟨by show (twoA n cells).length ≤ _; omega, noMsg_ok, noMsg_ok, noMsg_ok⟩, by show (twoA n cells).length ≤ _; omega⟩
theorem endB_ok {n : Int} {cells : List Cell} (hl : cells.length ≤ 20) : okE (endB n cells) ∧ (endB n cells).cl.length ≤ 20 := by
  have := (twoA_ok n cells).2
  exact ⟨⟨by show ((twoA n cells).map flipC).length ≤ _; rw [List.length_map]; omega, noMsg_ok, noMsg_ok, noMsg_ok⟩, by show ((twoA n cells).map flipC).length ≤ _; rw [List.length_map]; omega⟩
theorem failN_okk {c : Int} : okE (failN c).1 ∧ okM (failN c).2.1 := ⟨⟨by show 0 ≤ 100000; omega, noMsg_ok, noMsg_ok, noMsg_ok⟩, noMsg_ok⟩
theorem openN_okk {e : End} {m : Msg} {s : Int} (he : okE e) (hm : okM m) : okE (openN e m s).1 ∧ okM (openN e m s).2.1 := ⟨⟨he.1, hm, he.2.2.1, he.2.2.2⟩, hm⟩
theorem askN_okk {e : End} {t : Tab} {f : List Int} {k c slot : Int} (he : okE e) (hl : e.cl.length ≤ 512) : okE (askN e t f k c slot).1 ∧ okM (askN e t f k c slot).2.1 := by
  unfold askN
  split
  · exact failN_okk
  · split
    · exact failN_okk
    · split
      · exact failN_okk
      · split
        · exact failN_okk
        · split
          · exact failN_okk
          · refine openN_okk he ⟨?_, ?_⟩
            · show (askSp (fullN t e).1 f k).length ≤ _
              unfold askSp
              split
              · have := cand_len (fullN t e).1 f; omega
              · simp
            · show (askOld e k c).length ≤ _
              have := sends_len e.cl
              unfold askOld
              split
              · rw [List.length_drop]; omega
              · split
                · rw [List.length_take]; omega
                · simp
theorem order_core (n : Int) (cells : List Cell) (f : List Int) (k c slot wait : Int) (h0 : 0 ≤ n) (h1 : n ≤ 255) (hl : cells.length ≤ 20) (hf : f.length ≤ 20) (hk : 1 ≤ k ∧ k ≤ 6) (hc : countsN k c = true) (hs : 0 ≤ slot ∧ slot ≤ 255) (hw : 0 ≤ wait ∧ wait ≤ 255) :
    lv cd9 C9 (J9_10 f slot wait k c (endA n cells) (endB n cells) (bareT 1) (bareT 2)) = some true := by
  have ws : IntKind.wrap .i64 slot = slot := wrap64 (by omega) (by omega)
  have ww : IntKind.wrap .i64 wait = wait := wrap64 (by omega) (by omega)
  obtain ⟨oa, la⟩ := endA_ok (n := n) hl
  obtain ⟨ob, lb⟩ := endB_ok (n := n) hl
  have fa := fullA h0 h1 hl
  have fb := fullB h0 h1 hl
  have ht : ∀ z, (bareT z).cl.length ≤ 1000 := fun z => by show 0 ≤ 1000; omega
  have e19 : lv cd9 C9 J9_19 = some false := by rw [eJ9_19]; rfl
  have v1 := V37_eq (endA n cells) (bareT 1) f k c slot oa (by omega) (ht 1) (by omega)
  have f1 := F37_eq (endA n cells) (bareT 1) f k c slot oa (by omega) (ht 1) (by omega)
  rw [eJ9_10]
  simp only [tJ9_10, Tr.val, ws, v1, f1, Option.isSome_some, condT, Bool.cond_not, cond_dec]
  by_cases hx : (askN (endA n cells) (bareT 1) f k c slot).2.2 = 0
  case neg =>
    rw [if_neg hx, ask_fails fa hk (by omega) hc rfl hx]
    rfl
  rw [if_pos hx]
  obtain ⟨_, ask⟩ := ask_ok hx
  obtain ⟨ox, om⟩ := askN_okk (t := bareT 1) (f := f) (k := k) (c := c) (slot := slot) oa (by omega : (endA n cells).cl.length ≤ 512)
  have hxe := ask.eq
  have hpair : askN (endA n cells) (bareT 1) f k c slot = ((askN (endA n cells) (bareT 1) f k c slot).1, (askN (endA n cells) (bareT 1) f k c slot).2.1, (askN (endA n cells) (bareT 1) f k c slot).2.2) := rfl
  generalize (askN (endA n cells) (bareT 1) f k c slot).1 = x at *
  generalize (askN (endA n cells) (bareT 1) f k c slot).2.1 = m at *
  rw [hx] at hpair
  have lx : x.cl.length ≤ 20 := by rw [hxe]; exact la
  have hfx : fullN (bareT 1) x = fullN (bareT 1) (endA n cells) := full_same fa ask.err (by rw [hxe]) (by rw [hxe]) (by rw [hxe])
  have v2 := V37_eq x (bareT 1) f k c slot ox (by omega) (ht 1) (by omega)
  have f2 := F37_eq x (bareT 1) f k c slot ox (by omega) (ht 1) (by omega)
  have hx2 := ask_open (f := f) (slot := slot) (show (fullN (bareT 1) x).2 = 0 by rw [hfx]; exact fa) hk (by omega) hc (by rw [hxe])
  have v3 := V37_eq (endB n cells) (bareT 2) f 4 0 0 ob (by omega) (ht 2) (by omega)
  have f3 := F37_eq (endB n cells) (bareT 2) f 4 0 0 ob (by omega) (ht 2) (by omega)
  have hb3 := ask_count (f := f) fb rfl
  have okb := ask_ok (e := endB n cells) (t := bareT 2) (f := f) (k := 4) (c := 0) (slot := 0) (by rw [hb3]; rfl)
  rw [hb3] at v3 f3 okb
  have hmo := okb.2.msg
  have ho2 : (openN (endB n cells) ⟨4, false, 0, 0, 0, [], []⟩ 0).2.1 = ⟨4, false, n, 0, 0, [], []⟩ := rfl
  have ho3 : (openN (endB n cells) ⟨4, false, 0, 0, 0, [], []⟩ 0).2.2 = 0 := rfl
  rw [ho2] at hmo
  have oko : okM ⟨4, false, n, 0, 0, [], []⟩ := ⟨by show 0 ≤ 100000; omega, by show 0 ≤ 100000; omega⟩
  have v4 := V28_eq x (bareT 1) f ⟨4, false, n, 0, 0, [], []⟩ ox (by omega) (ht 1) (by omega) oko
  have f4 := F28_eq x (bareT 1) f ⟨4, false, n, 0, 0, [], []⟩ ox (by omega) (ht 1) (by omega) oko
  have hr : receiveN x (bareT 1) f ⟨4, false, n, 0, 0, [], []⟩ = (x, (refuseN ⟨4, false, n, 0, 0, [], []⟩ 3).1, 0) := by
    unfold receiveN
    rw [hfx, if_neg (show ¬ (fullN (bareT 1) (endA n cells)).2 ≠ 0 from fun hh => hh fa), if_neg (show ¬ (msgErr ⟨4, false, n, 0, 0, [], []⟩ ≠ 0 ∨ false = true) by rw [hmo]; simp), if_neg (show ¬ (4 : Int) = 6 by omega), if_neg (show ¬ (x.kn = true ∧ x.lst = ⟨4, false, n, 0, 0, [], []⟩) by rw [hxe]; intro hh; cases hh.1), if_pos (show x.opn = true by rw [hxe])]
    rfl
  obtain ⟨q1, _⟩ := refuse_answers (c := 3) hmo rfl (by omega)
  rw [hr, q1] at v4 f4
  simp only [v2, f2, hx2, v3, f3, ho2, ho3, v4, f4, Option.isSome_some, condT, if_true]
  rw [eJ9_20]
  have g1 : inR .i64 (m.num + 1) = true := by rw [ask.num]; exact inR_ok (by show -9223372036854775808 ≤ n + 1; omega) (by show n + 1 ≤ 9223372036854775807; omega)
  have okf : okM ⟨m.kind, true, Int.tmod (m.num + 1) 256, 3, 0, [], []⟩ := ⟨by show 0 ≤ 100000; omega, by show 0 ≤ 100000; omega⟩
  have okr : okM ⟨4, true, n, 3, 0, [], []⟩ := ⟨by show 0 ≤ 100000; omega, by show 0 ≤ 100000; omega⟩
  have hask : x.ask = m := by rw [hxe]
  have hfar : finishN x ⟨m.kind, true, Int.tmod (m.num + 1) 256, 3, 0, [], []⟩ = (noEnd, 11) := by
    have hne : answersN x.ask ⟨m.kind, true, Int.tmod (m.num + 1) 256, 3, 0, [], []⟩ = false := by
      unfold answersN
      rw [if_pos]
      right; right; right; right; right
      rw [hask, ask.num]
      show n ≠ Int.tmod (n + 1) 256
      rw [Int.tmod_eq_emod_of_nonneg (by omega)]
      omega
    unfold finishN
    rw [if_neg (show ¬ endErr x ≠ 0 from fun hh => hh ask.err), if_neg (by rw [hxe]; simp), if_pos hne]
  have hnot : finishN (endA n cells) ⟨4, true, n, 3, 0, [], []⟩ = (noEnd, 12) := by
    unfold finishN
    rw [if_neg (show ¬ endErr (endA n cells) ≠ 0 from fun hh => hh (endA_err h0 h1 cells)), if_pos (show (endA n cells).opn = false from rfl)]
  have v5 := V32_eq x ⟨m.kind, true, Int.tmod (m.num + 1) 256, 3, 0, [], []⟩ ox (by omega) okf
  have f5 := F32_eq x ⟨m.kind, true, Int.tmod (m.num + 1) 256, 3, 0, [], []⟩ ox (by omega) okf
  have v6 := V32_eq (endA n cells) ⟨4, true, n, 3, 0, [], []⟩ oa (by omega) okr
  have f6 := F32_eq (endA n cells) ⟨4, true, n, 3, 0, [], []⟩ oa (by omega) okr
  rw [hfar] at v5 f5
  rw [hnot] at v6 f6
  have hclosed : closedN x = endA n cells := by rw [hxe]; rfl
  have hex1 : expireN x (slot + wait) wait = (endA n cells, true) := by
    unfold expireN
    have hsn : x.snc = slot := by rw [hxe]
    rw [if_neg, hclosed]
    rw [hsn]
    rintro (hh | hh | hh | hh)
    · exact hh ask.err
    · rw [hxe] at hh; cases hh
    · omega
    · omega
  have hex2 : expireN x (slot + wait) (wait + 1) = (x, false) := by
    unfold expireN
    have hsn : x.snc = slot := by rw [hxe]
    rw [if_pos]
    rw [hsn]
    right; right; right; omega
  have v7 := V50_eq x (slot + wait) wait ox (by omega)
  have f7 := F50_eq x (slot + wait) wait ox (by omega)
  have v8 := V50_eq x (slot + wait) (wait + 1) ox (by omega)
  have f8 := F50_eq x (slot + wait) (wait + 1) ox (by omega)
  rw [hex1] at v7 f7
  rw [hex2] at v8 f8
  rw [hpair] at v1 f1
  have g2 : inR .i64 (slot + wait) = true := inR_ok (by omega) (by omega)
  have g3 : inR .i64 (wait + 1) = true := inR_ok (by omega) (by omega)
  simp only [tJ9_20, Tr.val, ws, ww, g1, g2, g3, v5, f5, v6, f6, v7, f7, v8, f8, v1, f1, V30_eq _ _ oa, F30_eq _ _ oa, V30_eq _ _ ox, F30_eq _ _ ox, V31_eq _ _ om.1 om.2, F31_eq _ _ om, Option.isSome_some, condT, condF, decide_true, Bool.not_true, Bool.not_false]
theorem V9_true (n : Int) (cells : List Cell) (f : List Int) (kind count slot wait : Int) (wn : (Lit.int .u8 n).wf = true) (wk : (Lit.int .u8 kind).wf = true) (wc : (Lit.int .u8 count).wf = true) (ws : (Lit.int .u8 slot).wf = true) (ww : (Lit.int .u8 wait).wf = true) : V9 n cells f kind count slot wait = some true := by
  have ha := V24_true
  have hF : F24 = true := getD_of ha
  obtain ⟨n0, n1⟩ := bounds_u8 wn
  obtain ⟨k0, k1⟩ := bounds_u8 wk
  obtain ⟨c0, c1⟩ := bounds_u8 wc
  obtain ⟨s0, s1⟩ := bounds_u8 ws
  obtain ⟨w0, w1⟩ := bounds_u8 ww
  unfold V9
  rw [eS9]
  have e4 : lv cd9 C9 J9_4 = some true := by rw [eJ9_4]; rfl
  simp only [tS9, Tr.val, ha, hF, e4, Option.isSome_some, condT, Bool.not_true, condF, cond_dec]
  by_cases h1 : (20 : Int) < cells.length
  case pos => rw [if_pos h1]
  by_cases h2 : (20 : Int) < f.length
  case pos => rw [if_neg h1, if_pos h2]
  rw [if_neg h1, if_neg h2, eJ9_5]
  have hl : cells.length ≤ 20 := by omega
  have wk : IntKind.wrap .i64 kind = kind := wrap64 (by omega) (by omega)
  have wc : IntKind.wrap .i64 count = count := wrap64 (by omega) (by omega)
  have tk : Int.tmod kind 6 = kind % 6 := Int.tmod_eq_emod_of_nonneg (by omega)
  have tc : Int.tmod count 3 = count % 3 := Int.tmod_eq_emod_of_nonneg (by omega)
  have g1 : inR .i64 (1 + kind % 6) = true := inR_ok (by omega) (by omega)
  have g2 : inR .i64 (1 + count % 3) = true := inR_ok (by omega) (by omega)
  simp only [tJ9_5, Tr.val, V34_eq n cells n0 n1 (by omega), F34_eq n cells n0 n1 (by omega), V35_nil, F35_nil, wk, wc, tk, tc, g1, g2, Option.isSome_some, condT, cond_dec]
  by_cases hk : 3 < 1 + kind % 6
  · rw [if_pos hk]
    exact order_core n cells f _ 0 slot wait n0 n1 hl (by omega) (by omega) (by unfold countsN; rw [if_neg (by omega)]; rfl) ⟨s0, s1⟩ ⟨w0, w1⟩
  · rw [if_neg hk]
    exact order_core n cells f _ _ slot wait n0 n1 hl (by omega) (by omega) (by unfold countsN; rw [if_pos (by omega)]; exact decide_eq_true (by omega)) ⟨s0, s1⟩ ⟨w0, w1⟩

end Go.Am
