/- Part 46 of the proof: G1. -/
import Derived.Test.YtapedmpbgeoieaaGreatRows
import Derived.WalkKit
import Derived.ProofKit
import Derived.OpenShut
import Derived.ShutString
import Derived.ChangeOld
import Derived.Below
import Derived.Deep.Slices
import Derived.Test.YtapedmpbgeoieaaGreatC7p25
set_option linter.unusedSimpArgs false
set_option linter.unusedVariables false
namespace Go.Am
open Go Go.Proofs Go.ChangeShapes Go.WideShapes Go.ChangeAt Go.RowKit
set_option linter.unusedVariables false

/-- All that stands when the call begins. -/
def oldB (W : World) (b o : Nat) : Prop := b < W.heap.size
def X0 (W : World) : X := xAt W (oldB W) elT 0
/-- What the cells of a type's value read as. -/
def Opens (W : World) (t : TypeId) {A : Type} (f : A → List AV) : Prop :=
  ∀ (H : Type) (enc : TypeId × Value → H) (n : Nat) (cs : List Value) (y : DataW H × List MemPlace), DataW.trod enc Q W 0 (fun _ => true) true n t cs = some y → ∃ a, Rs (X0 W) [] (f a) cs ∧ ∀ u ∈ cs, u.oneCell' = true
theorem field_some {H : Type} {fs : Array Field} {xs : List (DataW H × List MemPlace)} {g : Field → Option (DataW H × List MemPlace)} (hf : ∀ (i : Nat) (f : Field), fs[i]? = some f → g f = xs[i]?) (hxs : xs.length = fs.size) (i : Nat) {f : Field} (hi : fs[i]? = some f) : ∃ y, g f = some y := by
  have hlt : i < fs.size := by
    rcases Nat.lt_or_ge i fs.size with h | h
    · exact h
    · rw [Array.getElem?_eq_none h] at hi; cases hi
  exact ⟨xs[i]'(by omega), by rw [hf i f hi, List.getElem?_eq_getElem]⟩
theorem cz3 : Q.cellsOf 3 = 1 := by kernel_rfl
theorem cz4 : Q.cellsOf 4 = 1 := by kernel_rfl
theorem cz22 : Q.cellsOf 22 = 1 := by kernel_rfl
theorem cz23 : Q.cellsOf 23 = 1 := by kernel_rfl
theorem cz25 : Q.cellsOf 25 = 7 := by kernel_rfl
theorem cz27 : Q.cellsOf 27 = 28 := by kernel_rfl
theorem cz29 : Q.cellsOf 29 = 3 := by kernel_rfl
theorem cz115 : Q.cellsOf 115 = 6 := by kernel_rfl
theorem cz125 : Q.cellsOf 125 = 2 := by kernel_rfl
theorem i3 {W : World} {H : Type} {enc : TypeId × Value → H} {n : Nat} {cs : List Value} {y : DataW H × List MemPlace} (h : DataW.trod enc Q W 0 (fun _ => true) true n 3 cs = some y) : ∃ z, cs = [.int .i64 z] := by
  obtain ⟨z, hz, _⟩ := DataW.trod_int Tryz.underlying3 h
  exact ⟨z, hz⟩
theorem i4 {W : World} {H : Type} {enc : TypeId × Value → H} {n : Nat} {cs : List Value} {y : DataW H × List MemPlace} (h : DataW.trod enc Q W 0 (fun _ => true) true n 4 cs = some y) : ∃ z, cs = [.bool z] := by
  obtain ⟨z, hz, _⟩ := DataW.trod_bool Tryz.underlying4 h
  exact ⟨z, hz⟩
theorem i115 {W : World} {H : Type} {enc : TypeId × Value → H} {n : Nat} {cs : List Value} {y : DataW H × List MemPlace} (h : DataW.trod enc Q W 0 (fun _ => true) true n 115 cs = some y) : ∃ z : Cell, cs = rowV .cell z := by
  obtain ⟨xs, m, rfl, _, hl, hxs, hf⟩ := DataW.trod_struct Tryz.underlying115 h
  rw [cz115] at hl
  obtain ⟨y0, h0⟩ := field_some hf hxs 0 rfl
  obtain ⟨y1, h1⟩ := field_some hf hxs 1 rfl
  obtain ⟨y2, h2⟩ := field_some hf hxs 2 rfl
  obtain ⟨y3, h3⟩ := field_some hf hxs 3 rfl
  obtain ⟨y4, h4⟩ := field_some hf hxs 4 rfl
  obtain ⟨y5, h5⟩ := field_some hf hxs 5 rfl
  have h0 : DataW.trod enc Q W 0 (fun _ => true) true m 3 ((cs.drop 0).take (Q.cellsOf 3)) = some y0 := h0
  rw [cz3] at h0
  have h1 : DataW.trod enc Q W 0 (fun _ => true) true m 3 ((cs.drop 1).take (Q.cellsOf 3)) = some y1 := h1
  rw [cz3] at h1
  have h2 : DataW.trod enc Q W 0 (fun _ => true) true m 3 ((cs.drop 2).take (Q.cellsOf 3)) = some y2 := h2
  rw [cz3] at h2
  have h3 : DataW.trod enc Q W 0 (fun _ => true) true m 4 ((cs.drop 3).take (Q.cellsOf 4)) = some y3 := h3
  rw [cz4] at h3
  have h4 : DataW.trod enc Q W 0 (fun _ => true) true m 3 ((cs.drop 4).take (Q.cellsOf 3)) = some y4 := h4
  rw [cz3] at h4
  have h5 : DataW.trod enc Q W 0 (fun _ => true) true m 3 ((cs.drop 5).take (Q.cellsOf 3)) = some y5 := h5
  rw [cz3] at h5
  obtain ⟨z0, e0⟩ := i3 h0
  obtain ⟨z1, e1⟩ := i3 h1
  obtain ⟨z2, e2⟩ := i3 h2
  obtain ⟨z3, e3⟩ := i4 h3
  obtain ⟨z4, e4⟩ := i3 h4
  obtain ⟨z5, e5⟩ := i3 h5
  refine ⟨⟨z0, z1, z2, z3, z4, z5⟩, ?_⟩
  show cs.drop 0 = _
  rw [dsplit cs 0 1, e0, dsplit cs 1 1, e1, dsplit cs 2 1, e2, dsplit cs 3 1, e3, dsplit cs 4 1, e4, dsplit cs 5 1, e5, List.drop_of_length_le (by omega)]
  rfl
theorem i125 {W : World} {H : Type} {enc : TypeId × Value → H} {n : Nat} {cs : List Value} {y : DataW H × List MemPlace} (h : DataW.trod enc Q W 0 (fun _ => true) true n 125 cs = some y) : ∃ z : Spot, cs = rowV .spot z := by
  obtain ⟨xs, m, rfl, _, hl, hxs, hf⟩ := DataW.trod_struct Tryz.underlying125 h
  rw [cz125] at hl
  obtain ⟨y0, h0⟩ := field_some hf hxs 0 rfl
  obtain ⟨y1, h1⟩ := field_some hf hxs 1 rfl
  have h0 : DataW.trod enc Q W 0 (fun _ => true) true m 3 ((cs.drop 0).take (Q.cellsOf 3)) = some y0 := h0
  rw [cz3] at h0
  have h1 : DataW.trod enc Q W 0 (fun _ => true) true m 3 ((cs.drop 1).take (Q.cellsOf 3)) = some y1 := h1
  rw [cz3] at h1
  obtain ⟨z0, e0⟩ := i3 h0
  obtain ⟨z1, e1⟩ := i3 h1
  refine ⟨⟨z0, z1⟩, ?_⟩
  show cs.drop 0 = _
  rw [dsplit cs 0 1, e0, dsplit cs 1 1, e1, List.drop_of_length_le (by omega)]
  rfl
theorem ST.k_pos (st : ST) : 0 < st.k := by cases st <;> decide
theorem add_eq {a : Addr} {n : Nat} (h : a.spot = none) : a.add n = ⟨a.block, a.off + n, none⟩ := by
  obtain ⟨b, o, s⟩ := a
  cases h
  unfold Addr.add
  split
  · rename_i h1; rw [h1]; rfl
  · rfl
theorem opens_slice {W : World} {t e : TypeId} {st : ST} (ht : Q.underlying t = some (.slice e)) (hc : Q.cellsOf e = st.k)
    (hel : ∀ {H : Type} {enc : TypeId × Value → H} {n : Nat} {cs : List Value} {y : DataW H × List MemPlace}, DataW.trod enc Q W 0 (fun _ => true) true n e cs = some y → ∃ z : st.El, cs = rowV st z) : Opens W t fun l : List st.El => [.sl st l .none] := by
  intro H enc n cs y h
  rcases Deep.open_slice ht h with ⟨rfl, _⟩ | ⟨a, len, cap, m, n', D, Pl, rfl, hb, hl, hm, hmm, _, hx⟩
  · exact ⟨[], ⟨_, _, rfl, ⟨none, 0, rfl, Nat.le_refl _, .inl (by simp), trivial⟩, rfl⟩, by simp [Value.oneCell']⟩
  · have hm' : m = cap := by rw [hmm]; rfl
    subst hm'
    have hz : ∀ i, i < len → ∃ z : st.El, ∃ cs', W.cells? 0 (a.add (i * st.k)) st.k = some cs' ∧ cs' = rowV st z := by
      intro i hi
      obtain ⟨cs', h1, h2⟩ := hx i (by omega)
      rw [hc] at h1
      obtain ⟨z, hz⟩ := hel h2
      exact ⟨z, cs', h1, hz⟩
    haveI : Inhabited st.El := ⟨st.dflt⟩
    obtain ⟨V, hV⟩ := Deep.choose_lt hz
    refine ⟨(List.range len).map V, ⟨_, _, rfl, ?_, rfl⟩, by simp [Value.oneCell']⟩
    have hlen : ((List.range len).map V).length = len := by simp
    refine ⟨some a, m, by rw [hlen], by rw [hlen]; exact hl, ?_, trivial⟩
    rcases Nat.eq_zero_or_pos len with h0 | h0
    · left; rw [hlen, h0, Nat.zero_mul]
    · right
      have kp := ST.k_pos st
      have cell : ∀ i j u, i < len → (rowV st (V i))[j]? = some u → W.cell? ((a.add (i * st.k)).add j) = some u := by
        intro i j u hi hj
        obtain ⟨cs', h1, h2⟩ := hV i hi
        obtain ⟨_, hln, hcc⟩ := World.cells?_some h1
        have hjl : j < st.k := by
          rcases Nat.lt_or_ge j st.k with h | h
          · exact h
          · rw [List.getElem?_eq_none (by rw [rowV_len]; exact h)] at hj; cases hj
        rw [hcc j hjl, h2, hj]
      have hspot : a.spot = none := by
        obtain ⟨u, hu⟩ : ∃ u, (rowV st (V 0))[0]? = some u := ⟨_, List.getElem?_eq_getElem (by rw [rowV_len]; exact kp)⟩
        have := cell 0 0 u h0 hu
        rw [show (a.add (0 * st.k)).add 0 = a by simp [Addr.add]] at this
        unfold World.cell? at this
        split at this
        · split at this
          · cases this
          · rename_i hs
            have hs' : ¬ a.spot.isSome = true := hs
            cases ha : a.spot with
            | none => rfl
            | some s => rw [ha] at hs'; simp at hs'
        · cases this
      obtain ⟨b, o, s⟩ := a
      have hs : s = none := hspot
      subst hs
      refine ⟨b, o, rfl, fun j u hu => ?_⟩
      have hjl : j < len * st.k := by
        rcases Nat.lt_or_ge j (len * st.k) with h | h
        · exact h
        · rw [List.getElem?_eq_none (by rw [rowsV_len, hlen]; exact h)] at hu; cases hu
      have hi : j / st.k < len := Nat.div_lt_of_lt_mul (by rw [Nat.mul_comm]; exact hjl)
      have hr : j % st.k < st.k := Nat.mod_lt _ kp
      obtain ⟨u', hu'⟩ : ∃ u', (rowV st (V (j / st.k)))[j % st.k]? = some u' := ⟨_, List.getElem?_eq_getElem (by rw [rowV_len]; exact hr)⟩
      have hsame := rowsV_at st ((List.range len).map V) (j / st.k) (V (j / st.k)) (by simp [hi]) (j % st.k) u' hu'
      have hj : j / st.k * st.k + j % st.k = j := by rw [Nat.mul_comm]; exact Nat.div_add_mod j st.k
      rw [hj, hu] at hsame
      cases hsame
      have hcell := cell _ _ _ hi hu'
      have haddr : ((⟨b, o, none⟩ : Addr).add (j / st.k * st.k)).add (j % st.k) = ⟨b, o + j, none⟩ := by
        rw [add_eq (a := ⟨b, o, none⟩) rfl, add_eq rfl, Nat.add_assoc, hj]
      rw [haddr] at hcell
      refine ⟨?_, hcell⟩
      show b < W.heap.size
      unfold World.cell? at hcell
      split at hcell
      · rename_i hb'
        rcases Nat.lt_or_ge b W.heap.size with h | h
        · exact h
        · rw [Array.getElem?_eq_none h] at hb'; cases hb'
      · cases hcell
theorem o3 {W : World} : Opens W 3 fun z : Int => [.int .i64 z] := fun H enc n cs y h => by
  obtain ⟨z, rfl⟩ := i3 h
  exact ⟨z, ⟨_, _, rfl, rfl, rfl⟩, by simp [Value.oneCell']⟩
theorem o4 {W : World} : Opens W 4 fun z : Bool => [.bool z] := fun H enc n cs y h => by
  obtain ⟨z, rfl⟩ := i4 h
  exact ⟨z, ⟨_, _, rfl, rfl, rfl⟩, by simp [Value.oneCell']⟩
theorem o22 {W : World} : Opens W 22 fun l : List Cell => [.sl .cell l .none] := opens_slice (st := .cell) Tryz.underlying22 cz115 fun h => i115 h
theorem o23 {W : World} : Opens W 23 fun l : List Spot => [.sl .spot l .none] := opens_slice (st := .spot) Tryz.underlying23 cz125 fun h => i125 h
theorem o31 {W : World} : Opens W 31 fun l : List Int => [.sl .int l .none] := opens_slice (st := .int) Tryz.underlying31 cz3 fun h => i3 h
theorem o25 {W : World} : Opens W 25 enc25 := by
  intro H enc n cs y h
  obtain ⟨xs, m, rfl, _, hl, hxs, hf⟩ := DataW.trod_struct Tryz.underlying25 h
  rw [cz25] at hl
  obtain ⟨y0, h0⟩ := field_some hf hxs 0 rfl
  obtain ⟨y1, h1⟩ := field_some hf hxs 1 rfl
  obtain ⟨y2, h2⟩ := field_some hf hxs 2 rfl
  obtain ⟨y3, h3⟩ := field_some hf hxs 3 rfl
  obtain ⟨y4, h4⟩ := field_some hf hxs 4 rfl
  obtain ⟨y5, h5⟩ := field_some hf hxs 5 rfl
  obtain ⟨y6, h6⟩ := field_some hf hxs 6 rfl
  have h0 : DataW.trod enc Q W 0 (fun _ => true) true m 3 ((cs.drop 0).take (Q.cellsOf 3)) = some y0 := h0
  rw [cz3] at h0
  have h1 : DataW.trod enc Q W 0 (fun _ => true) true m 4 ((cs.drop 1).take (Q.cellsOf 4)) = some y1 := h1
  rw [cz4] at h1
  have h2 : DataW.trod enc Q W 0 (fun _ => true) true m 3 ((cs.drop 2).take (Q.cellsOf 3)) = some y2 := h2
  rw [cz3] at h2
  have h3 : DataW.trod enc Q W 0 (fun _ => true) true m 3 ((cs.drop 3).take (Q.cellsOf 3)) = some y3 := h3
  rw [cz3] at h3
  have h4 : DataW.trod enc Q W 0 (fun _ => true) true m 3 ((cs.drop 4).take (Q.cellsOf 3)) = some y4 := h4
  rw [cz3] at h4
  have h5 : DataW.trod enc Q W 0 (fun _ => true) true m 23 ((cs.drop 5).take (Q.cellsOf 23)) = some y5 := h5
  rw [cz23] at h5
  have h6 : DataW.trod enc Q W 0 (fun _ => true) true m 23 ((cs.drop 6).take (Q.cellsOf 23)) = some y6 := h6
  rw [cz23] at h6
  obtain ⟨z0, e0, t0⟩ := o3 H enc _ _ _ h0
  obtain ⟨z1, e1, t1⟩ := o4 H enc _ _ _ h1
  obtain ⟨z2, e2, t2⟩ := o3 H enc _ _ _ h2
  obtain ⟨z3, e3, t3⟩ := o3 H enc _ _ _ h3
  obtain ⟨z4, e4, t4⟩ := o3 H enc _ _ _ h4
  obtain ⟨z5, e5, t5⟩ := o23 H enc _ _ _ h5
  obtain ⟨z6, e6, t6⟩ := o23 H enc _ _ _ h6
  have hcs : cs = (cs.drop 0).take 1 ++ ((cs.drop 1).take 1 ++ ((cs.drop 2).take 1 ++ ((cs.drop 3).take 1 ++ ((cs.drop 4).take 1 ++ ((cs.drop 5).take 1 ++ (cs.drop 6).take 1))))) := by
    conv => lhs; rw [show cs = cs.drop 0 from rfl, dsplit cs 0 1, dsplit cs 1 1, dsplit cs 2 1, dsplit cs 3 1, dsplit cs 4 1, dsplit cs 5 1, dsplit cs 6 1, List.drop_of_length_le (show cs.length ≤ 6 + 1 by omega), List.append_nil]
  refine ⟨⟨z0, z1, z2, z3, z4, z5, z6⟩, ?_, ?_⟩
  · rw [hcs]
    exact Rs_app e0 (Rs_app e1 (Rs_app e2 (Rs_app e3 (Rs_app e4 (Rs_app e5 e6)))))
  · intro u hu
    rw [hcs] at hu
    simp only [List.mem_append] at hu
    rcases hu with hu | hu | hu | hu | hu | hu | hu
    · exact t0 u hu
    · exact t1 u hu
    · exact t2 u hu
    · exact t3 u hu
    · exact t4 u hu
    · exact t5 u hu
    · exact t6 u hu
theorem o29 {W : World} : Opens W 29 enc29 := by
  intro H enc n cs y h
  obtain ⟨xs, m, rfl, _, hl, hxs, hf⟩ := DataW.trod_struct Tryz.underlying29 h
  rw [cz29] at hl
  obtain ⟨y0, h0⟩ := field_some hf hxs 0 rfl
  obtain ⟨y1, h1⟩ := field_some hf hxs 1 rfl
  obtain ⟨y2, h2⟩ := field_some hf hxs 2 rfl
  have h0 : DataW.trod enc Q W 0 (fun _ => true) true m 3 ((cs.drop 0).take (Q.cellsOf 3)) = some y0 := h0
  rw [cz3] at h0
  have h1 : DataW.trod enc Q W 0 (fun _ => true) true m 3 ((cs.drop 1).take (Q.cellsOf 3)) = some y1 := h1
  rw [cz3] at h1
  have h2 : DataW.trod enc Q W 0 (fun _ => true) true m 22 ((cs.drop 2).take (Q.cellsOf 22)) = some y2 := h2
  rw [cz22] at h2
  obtain ⟨z0, e0, t0⟩ := o3 H enc _ _ _ h0
  obtain ⟨z1, e1, t1⟩ := o3 H enc _ _ _ h1
  obtain ⟨z2, e2, t2⟩ := o22 H enc _ _ _ h2
  have hcs : cs = (cs.drop 0).take 1 ++ ((cs.drop 1).take 1 ++ (cs.drop 2).take 1) := by
    conv => lhs; rw [show cs = cs.drop 0 from rfl, dsplit cs 0 1, dsplit cs 1 1, dsplit cs 2 1, List.drop_of_length_le (show cs.length ≤ 2 + 1 by omega), List.append_nil]
  refine ⟨⟨z0, z1, z2⟩, ?_, ?_⟩
  · rw [hcs]
    exact Rs_app e0 (Rs_app e1 e2)
  · intro u hu
    rw [hcs] at hu
    simp only [List.mem_append] at hu
    rcases hu with hu | hu | hu
    · exact t0 u hu
    · exact t1 u hu
    · exact t2 u hu
theorem o27 {W : World} : Opens W 27 enc27 := by
  intro H enc n cs y h
  obtain ⟨xs, m, rfl, _, hl, hxs, hf⟩ := DataW.trod_struct Tryz.underlying27 h
  rw [cz27] at hl
  obtain ⟨y0, h0⟩ := field_some hf hxs 0 rfl
  obtain ⟨y1, h1⟩ := field_some hf hxs 1 rfl
  obtain ⟨y2, h2⟩ := field_some hf hxs 2 rfl
  obtain ⟨y3, h3⟩ := field_some hf hxs 3 rfl
  obtain ⟨y4, h4⟩ := field_some hf hxs 4 rfl
  obtain ⟨y5, h5⟩ := field_some hf hxs 5 rfl
  obtain ⟨y6, h6⟩ := field_some hf hxs 6 rfl
  obtain ⟨y7, h7⟩ := field_some hf hxs 7 rfl
  obtain ⟨y8, h8⟩ := field_some hf hxs 8 rfl
  obtain ⟨y9, h9⟩ := field_some hf hxs 9 rfl
  have h0 : DataW.trod enc Q W 0 (fun _ => true) true m 3 ((cs.drop 0).take (Q.cellsOf 3)) = some y0 := h0
  rw [cz3] at h0
  have h1 : DataW.trod enc Q W 0 (fun _ => true) true m 3 ((cs.drop 1).take (Q.cellsOf 3)) = some y1 := h1
  rw [cz3] at h1
  have h2 : DataW.trod enc Q W 0 (fun _ => true) true m 3 ((cs.drop 2).take (Q.cellsOf 3)) = some y2 := h2
  rw [cz3] at h2
  have h3 : DataW.trod enc Q W 0 (fun _ => true) true m 22 ((cs.drop 3).take (Q.cellsOf 22)) = some y3 := h3
  rw [cz22] at h3
  have h4 : DataW.trod enc Q W 0 (fun _ => true) true m 4 ((cs.drop 4).take (Q.cellsOf 4)) = some y4 := h4
  rw [cz4] at h4
  have h5 : DataW.trod enc Q W 0 (fun _ => true) true m 3 ((cs.drop 5).take (Q.cellsOf 3)) = some y5 := h5
  rw [cz3] at h5
  have h6 : DataW.trod enc Q W 0 (fun _ => true) true m 25 ((cs.drop 6).take (Q.cellsOf 25)) = some y6 := h6
  rw [cz25] at h6
  have h7 : DataW.trod enc Q W 0 (fun _ => true) true m 4 ((cs.drop 13).take (Q.cellsOf 4)) = some y7 := h7
  rw [cz4] at h7
  have h8 : DataW.trod enc Q W 0 (fun _ => true) true m 25 ((cs.drop 14).take (Q.cellsOf 25)) = some y8 := h8
  rw [cz25] at h8
  have h9 : DataW.trod enc Q W 0 (fun _ => true) true m 25 ((cs.drop 21).take (Q.cellsOf 25)) = some y9 := h9
  rw [cz25] at h9
  obtain ⟨z0, e0, t0⟩ := o3 H enc _ _ _ h0
  obtain ⟨z1, e1, t1⟩ := o3 H enc _ _ _ h1
  obtain ⟨z2, e2, t2⟩ := o3 H enc _ _ _ h2
  obtain ⟨z3, e3, t3⟩ := o22 H enc _ _ _ h3
  obtain ⟨z4, e4, t4⟩ := o4 H enc _ _ _ h4
  obtain ⟨z5, e5, t5⟩ := o3 H enc _ _ _ h5
  obtain ⟨z6, e6, t6⟩ := o25 H enc _ _ _ h6
  obtain ⟨z7, e7, t7⟩ := o4 H enc _ _ _ h7
  obtain ⟨z8, e8, t8⟩ := o25 H enc _ _ _ h8
  obtain ⟨z9, e9, t9⟩ := o25 H enc _ _ _ h9
  have hcs : cs = (cs.drop 0).take 1 ++ ((cs.drop 1).take 1 ++ ((cs.drop 2).take 1 ++ ((cs.drop 3).take 1 ++ ((cs.drop 4).take 1 ++ ((cs.drop 5).take 1 ++ ((cs.drop 6).take 7 ++ ((cs.drop 13).take 1 ++ ((cs.drop 14).take 7 ++ (cs.drop 21).take 7)))))))) := by
    conv => lhs; rw [show cs = cs.drop 0 from rfl, dsplit cs 0 1, dsplit cs 1 1, dsplit cs 2 1, dsplit cs 3 1, dsplit cs 4 1, dsplit cs 5 1, dsplit cs 6 7, dsplit cs 13 1, dsplit cs 14 7, dsplit cs 21 7, List.drop_of_length_le (show cs.length ≤ 21 + 7 by omega), List.append_nil]
  refine ⟨⟨z0, z1, z2, z3, z4, z5, z6, z7, z8, z9⟩, ?_, ?_⟩
  · rw [hcs]
    exact Rs_app e0 (Rs_app e1 (Rs_app e2 (Rs_app e3 (Rs_app e4 (Rs_app e5 (Rs_app e6 (Rs_app e7 (Rs_app e8 e9))))))))
  · intro u hu
    rw [hcs] at hu
    simp only [List.mem_append] at hu
    rcases hu with hu | hu | hu | hu | hu | hu | hu | hu | hu | hu
    · exact t0 u hu
    · exact t1 u hu
    · exact t2 u hu
    · exact t3 u hu
    · exact t4 u hu
    · exact t5 u hu
    · exact t6 u hu
    · exact t7 u hu
    · exact t8 u hu
    · exact t9 u hu
/-! ### Arguments -/
set_option maxRecDepth 100000
theorem arg_struct {W : World} {H : Type} {enc : TypeId × Value → H} {t : TypeId} {fs : Array Field} (ht : Q.underlying t = some (.struct fs)) {A : Type} {f : A → List AV} (ho : Opens W t f) {r : Reach} {base : Nat} {v : Value} {d : DataW H} {p : List MemPlace}
    (hval : Value.okWide Q W r base t v) (h : DataW.Trod enc Q W 0 (fun _ => true) true t v d p) : ∃ a, R (X0 W) [] (.agg (f a)) v := by
  obtain ⟨cs, rfl, _⟩ := okWide_struct ht hval
  obtain ⟨n, hn⟩ := h
  obtain ⟨a, h1, h2⟩ := ho H enc n cs.toList _ hn
  exact ⟨a, cs.toList, by simp, h2, h1⟩
theorem arg_slice {W : World} {H : Type} {enc : TypeId × Value → H} {t e : TypeId} (ht : Q.underlying t = some (.slice e)) {A : Type} {f : A → AV} (ho : Opens W t fun a => [f a]) {r : Reach} {base : Nat} {v : Value} {d : DataW H} {p : List MemPlace}
    (hval : Value.okWide Q W r base t v) (h : DataW.Trod enc Q W 0 (fun _ => true) true t v d p) : ∃ a, R (X0 W) [] (f a) v := by
  obtain ⟨x, len, cap, rfl⟩ := okWide_slice ht hval
  obtain ⟨n, hn⟩ := h
  obtain ⟨a, ⟨u, us, h1, h2, h3⟩, _⟩ := ho H enc n _ _ hn
  cases h1
  exact ⟨a, h2⟩
theorem walk_of {g : Nat} {G : GE} (hs : GeOk g G) {W : World} {args : List AV} {vs : List Value} (hg : args.all (ground D) = true) (hF : G.F args = some (.bool true)) (hR : Rs (X0 W) [] args vs) :
    Calls Q g vs.toArray W fun e w' => e = .returned (.bool true) ∧ Below W.heap.size W w' := by
  refine (hs.1 (oldB W) W args vs (.bool true) hg hF (fun b o h => h) hR).mono fun e w' h => ?_
  obtain ⟨v, rfl, h1, h2⟩ := h
  have h2 : v = .bool true := h2
  subst h2
  exact ⟨rfl, h1⟩
theorem ownQ : ownKnob Q.godebug = none := by kernel_rfl
theorem laidQ : laidOutB Q = true := by kernel_rfl

end Go.Am
