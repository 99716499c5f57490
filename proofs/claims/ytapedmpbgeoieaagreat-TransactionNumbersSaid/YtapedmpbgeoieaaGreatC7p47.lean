/- Part 47 of the proof: G2. -/
import Derived.Test.YtapedmpbgeoieaaGreatRows
import Derived.KernelRfl
import Derived.JoinedOf
set_option linter.unusedSimpArgs false
set_option linter.unusedVariables false
namespace Go.Am
open Go Go.Proofs
set_option maxRecDepth 100000
def signs : List Nat := [104, 97, 114, 110, 101, 115, 115, 32, 57, 54, 56, 52, 56, 54, 53, 53, 48, 101, 51, 101, 102, 50, 100, 99, 55, 51, 56, 98, 102, 102, 99, 53, 100, 49, 97, 101, 53, 100, 100, 99, 51, 101, 57, 51, 56, 49, 57, 52, 50, 102, 48, 56, 101, 54, 55, 
  50, 49, 48, 48, 50, 101, 55, 53, 50, 99, 98, 102, 48, 99, 100, 52, 55, 32, 99, 117, 116, 32, 97, 116, 32, 104, 111, 112, 109, 101, 115, 104, 47, 104, 111, 112, 109, 101, 115, 104, 108, 97, 119, 50, 54, 46, 84, 114, 97, 110, 115, 97, 99, 116, 
  105, 111, 110, 82, 101, 99, 101, 105, 118, 101, 115, 32, 104, 111, 112, 109, 101, 115, 104, 47, 104, 111, 112, 109, 101, 115, 104, 108, 97, 119, 50, 54, 46, 84, 114, 97, 110, 115, 97, 99, 116, 105, 111, 110, 70, 105, 110, 105, 115, 104, 101, 
  115, 32, 104, 111, 112, 109, 101, 115, 104, 47, 104, 111, 112, 109, 101, 115, 104, 108, 97, 119, 50, 54, 46, 84, 114, 97, 110, 115, 97, 99, 116, 105, 111, 110, 77, 105, 114, 114, 111, 114, 115, 32, 104, 111, 112, 109, 101, 115, 104, 47, 104, 
  111, 112, 109, 101, 115, 104, 108, 97, 119, 50, 54, 46, 84, 114, 97, 110, 115, 97, 99, 116, 105, 111, 110, 68, 111, 117, 98, 108, 101, 100, 32, 104, 111, 112, 109, 101, 115, 104, 47, 104, 111, 112, 109, 101, 115, 104, 108, 97, 119, 50, 54, 
  46, 84, 114, 97, 110, 115, 97, 99, 116, 105, 111, 110, 78, 117, 109, 98, 101, 114, 115, 32, 104, 111, 112, 109, 101, 115, 104, 47, 104, 111, 112, 109, 101, 115, 104, 116, 111, 112, 46, 84, 111, 112, 65, 103, 114, 101, 101, 109, 101, 110, 
  116, 32, 104, 111, 112, 109, 101, 115, 104, 47, 104, 111, 112, 109, 101, 115, 104, 108, 97, 119, 50, 54, 46, 84, 114, 97, 110, 115, 97, 99, 116, 105, 111, 110, 79, 114, 100, 101, 114, 32, 104, 111, 112, 109, 101, 115, 104, 47, 104, 111, 112, 
  109, 101, 115, 104, 108, 97, 119, 50, 54, 46, 84, 114, 97, 110, 115, 97, 99, 116, 105, 111, 110, 69, 110, 100, 115, 32, 104, 111, 112, 109, 101, 115, 104, 47, 104, 111, 112, 109, 101, 115, 104, 108, 97, 119, 50, 54, 46, 84, 114, 97, 110, 
  115, 97, 99, 116, 105, 111, 110, 65, 115, 107, 115, 32, 104, 111, 112, 109, 101, 115, 104, 47, 104, 111, 112, 109, 101, 115, 104, 108, 97, 119, 50, 55, 46, 67, 111, 110, 115, 105, 115, 116, 101, 110, 99, 121, 80, 97, 105, 114, 115, 32, 104, 
  111, 112, 109, 101, 115, 104, 47, 104, 111, 112, 109, 101, 115, 104, 108, 97, 119, 50, 55, 46, 67, 111, 110, 115, 105, 115, 116, 101, 110, 99, 121, 69, 120, 99, 104, 97, 110, 103, 101, 115, 32, 104, 111, 112, 109, 101, 115, 104, 47, 104, 
  111, 112, 109, 101, 115, 104, 108, 97, 119, 50, 55, 46, 67, 111, 110, 115, 105, 115, 116, 101, 110, 99, 121, 80, 108, 97, 121, 115, 32, 104, 111, 112, 109, 101, 115, 104, 47, 104, 111, 112, 109, 101, 115, 104, 108, 97, 119, 50, 55, 46, 67, 
  111, 110, 115, 105, 115, 116, 101, 110, 99, 121, 68, 101, 116, 101, 99, 116, 115, 32, 104, 111, 112, 109, 101, 115, 104, 47, 104, 111, 112, 109, 101, 115, 104, 108, 97, 119, 50, 55, 46, 67, 111, 110, 115, 105, 115, 116, 101, 110, 99, 121, 
  76, 111, 115, 115, 101, 115, 32, 104, 111, 112, 109, 101, 115, 104, 47, 104, 111, 112, 109, 101, 115, 104, 108, 97, 119, 50, 55, 46, 67, 111, 110, 115, 105, 115, 116, 101, 110, 99, 121, 67, 108, 101, 97, 114, 115, 32, 104, 111, 112, 109, 
  101, 115, 104, 47, 104, 111, 112, 109, 101, 115, 104, 108, 97, 119, 50, 55, 46, 67, 111, 110, 115, 105, 115, 116, 101, 110, 99, 121, 78, 117, 109, 98, 101, 114, 115, 32, 104, 111, 112, 109, 101, 115, 104, 47, 104, 111, 112, 109, 101, 115, 
  104, 108, 97, 119, 50, 56, 46, 82, 101, 112, 97, 105, 114, 67, 111, 117, 112, 108, 101, 115, 32, 104, 111, 112, 109, 101, 115, 104, 47, 104, 111, 112, 109, 101, 115, 104, 108, 97, 119, 50, 56, 46, 82, 101, 112, 97, 105, 114, 83, 116, 101, 
  112, 115, 32, 104, 111, 112, 109, 101, 115, 104, 47, 104, 111, 112, 109, 101, 115, 104, 108, 97, 119, 50, 56, 46, 82, 101, 112, 97, 105, 114, 81, 117, 105, 101, 116, 32, 104, 111, 112, 109, 101, 115, 104, 47, 104, 111, 112, 109, 101, 115, 
  104, 108, 97, 119, 50, 56, 46, 82, 101, 112, 97, 105, 114, 82, 117, 110, 115, 32, 104, 111, 112, 109, 101, 115, 104, 47, 104, 111, 112, 109, 101, 115, 104, 108, 97, 119, 50, 56, 46, 82, 101, 112, 97, 105, 114, 78, 111, 116, 104, 105, 110, 
  103, 76, 111, 115, 116]
theorem head_eq : Tryz.prog.initOrder = String.ofList (signs.map Char.ofNat) := by kernel_rfl
theorem head_list : Tryz.prog.initOrder.toList = signs.map Char.ofNat := by rw [head_eq]; exact String.toList_ofList
def cutW : List Char := ([99, 117, 116] : List Nat).map Char.ofNat
def sumW : List Nat := [57, 54, 56, 52, 56, 54, 53, 53, 48, 101, 51, 101, 102, 50, 100, 99, 55, 51, 56, 98, 102, 102, 99, 53, 100, 49, 97, 101, 53, 100, 100, 99, 51, 101, 57, 51, 56, 49, 57, 52, 50, 102, 48, 56, 101, 54, 55, 50, 49, 48, 48, 50, 101, 55, 53, 50, 99, 98, 102, 48, 99, 100, 52, 55]
def restN : List Nat := signs.drop 77
theorem signs_eq : signs = [104, 97, 114, 110, 101, 115, 115, 32] ++ (sumW ++ (32 :: 99 :: 117 :: 116 :: 32 :: restN)) := by decide
def noSpace (l : List Nat) : Bool := l.all fun n => !(Char.ofNat n == Char.ofNat 32)
theorem words_one : ∀ (l : List Nat) (r : List Char), noSpace l = true → wordsSigns (l.map Char.ofNat ++ (Char.ofNat 32 :: r)) = l.map Char.ofNat :: wordsSigns r
  | [], r, _ => rfl
  | n :: l, r, h => by
    simp only [noSpace, List.all_cons, Bool.and_eq_true] at h
    have ih := words_one l r h.2
    have hn : Char.ofNat n ≠ Char.ofNat 32 := by simpa using h.1
    rw [List.map_cons, List.cons_append]
    show wordsSigns (Char.ofNat n :: (l.map Char.ofNat ++ Char.ofNat 32 :: r)) = _
    rw [wordsSigns]
    · rw [ih]
    · exact hn
theorem head_words : ∃ R, wordsSigns Tryz.prog.initOrder.toList = ([104, 97, 114, 110, 101, 115, 115] : List Nat).map Char.ofNat :: sumW.map Char.ofNat :: cutW :: R := by
  refine ⟨wordsSigns (restN.map Char.ofNat), ?_⟩
  have e : signs.map Char.ofNat = ([104, 97, 114, 110, 101, 115, 115] : List Nat).map Char.ofNat ++ (Char.ofNat 32 :: (sumW.map Char.ofNat ++ (Char.ofNat 32 :: (([99, 117, 116] : List Nat).map Char.ofNat ++ (Char.ofNat 32 :: restN.map Char.ofNat))))) := by
    rw [signs_eq]; simp only [List.map_append, List.map_cons, List.cons_append, List.nil_append, List.map_nil]
  rw [head_list, e, words_one _ _ (by decide), words_one _ _ (by decide), words_one _ _ (by decide)]
  rfl
theorem cond1 (R : List (List Char)) : (((([104, 97, 114, 110, 101, 115, 115] : List Nat).map Char.ofNat == "harness".toList || ([104, 97, 114, 110, 101, 115, 115] : List Nat).map Char.ofNat == "ownmain".toList) && isSumSigns (sumW.map Char.ofNat))) = true := by kernel_rfl
theorem behind_words : ∃ R, behindMainWord (wordsSigns Tryz.prog.initOrder.toList) = cutW :: R := by
  obtain ⟨R, h⟩ := head_words
  refine ⟨R, ?_⟩
  rw [h]
  unfold behindMainWord
  exact if_pos (cond1 R)
theorem strip1 (R : List (List Char)) : ((stripLifts liftWords (cutW :: R)).2.head? == some "cut".toList) = true := by kernel_rfl
theorem strip2 (R : List (List Char)) : (stripLifts liftWords (cutW :: R)).1.isEmpty = true := by kernel_rfl
theorem head_lifts : Tryz.prog.headLifts = [] := by
  obtain ⟨R, h⟩ := behind_words
  unfold Program.headLifts
  rw [h]
  exact (if_pos (strip1 R)).trans (List.isEmpty_iff.1 (strip2 R))
theorem strip3 (R : List (List Char)) : (stripLifts liftWords (cutW :: R)).1 = [] := List.isEmpty_iff.1 (strip2 R)
theorem lays_later : (!Tryz.prog.laysLater) = true := by kernel_rfl
theorem bears_reflect : (!Tryz.prog.bearsReflect) = true := by kernel_rfl
theorem door_fits : Tryz.prog.doorFits [] = true := by kernel_rfl
theorem no_rows : (([] : List String).contains "reflectrows" || !([] : List String).contains "leanrows") = true := by kernel_rfl
theorem may_of {P : Program} {c : List Char} {rest : List (List Char)} (h : behindMainWord (wordsSigns P.initOrder.toList) = c :: rest) (a : ((stripLifts liftWords (c :: rest)).2.head? == some "cut".toList) = true) (b : (stripLifts liftWords (c :: rest)).1 = [])
    (l : (!P.laysLater) = true) (r : (!P.bearsReflect) = true) (d : P.doorFits [] = true) (n : (([] : List String).contains "reflectrows" || !([] : List String).contains "leanrows") = true) : P.mayEnter = true := by
  unfold Program.mayEnter
  rw [h]
  dsimp only
  rw [a, b, l, r, d, n, Bool.or_true, Bool.or_true]
  simp only [Bool.and_true, Bool.or_true]
theorem may_enter : Tryz.prog.mayEnter = true := by
  obtain ⟨R, h⟩ := behind_words
  exact may_of h (strip1 R) (strip3 R) lays_later bears_reflect door_fits no_rows
theorem make_of {P : Program} {c : List Char} {rest : List (List Char)} (h : behindMainWord (wordsSigns P.initOrder.toList) = c :: rest) (n : (c == "gc".toList || c == "spec".toList) = false) (y : (c == "cut".toList || (c == "finals".toList && rest.head? == some "cut".toList)) = true) : P.make = some .cut := by
  unfold Program.make
  rw [h]
  dsimp only
  rw [if_neg (by rw [n]; simp), if_pos y]
theorem no_carried (R : List (List Char)) : ((cutW :: R).head? == some "carried".toList) = false := by kernel_rfl
theorem lifts_final : Tryz.prog.liftsFinal = false := by
  obtain ⟨R, h⟩ := behind_words
  unfold Program.liftsFinal
  rw [h, head_lifts]
  show (((cutW :: R).head? == some "carried".toList && _) || _) = false
  rw [no_carried R]
  rfl
theorem is_cut1 : (cutW == "gc".toList || cutW == "spec".toList) = false := by kernel_rfl
theorem is_cut2 (R : List (List Char)) : (cutW == "cut".toList || (cutW == "finals".toList && R.head? == some "cut".toList)) = true := by kernel_rfl
theorem make_cut : Tryz.prog.make = some .cut := by
  obtain ⟨R, h⟩ := behind_words
  exact make_of h is_cut1 (is_cut2 R)

end Go.Am
