/- Part 29 of the proof: B2. -/
import Derived.Shelf.SlSortCmp.WholeK
import Derived.Shelf.Small.Bits
import Derived.Test.YtapedmpbgeoieaaGreatC7p27
import Derived.Test.YtapedmpbgeoieaaGreatC7p28
set_option linter.unusedSimpArgs false
set_option linter.unusedVariables false
namespace Go.Am
open Go Go.Proofs Go.RowKit Go.Lib Go.Sort Go.Shelf
set_option maxRecDepth 100000
set_option linter.unusedVariables false
set_option linter.unusedSimpArgs false

theorem c196 : CdOk 196 Tryz.f196 := ⟨by kernel_rfl, by kernel_rfl⟩
theorem c242 : CdOk 242 Tryz.f242 := ⟨by kernel_rfl, by kernel_rfl⟩
theorem c261 : CdOk 261 Tryz.f261 := ⟨by kernel_rfl, by kernel_rfl⟩

def slotOk (x : Cell) : Bool := decide (-4611686018427387904 ≤ x.slot ∧ x.slot ≤ 4611686018427387903)
def slotCl (x : Cell) : Cell := if slotOk x then x else ⟨0, 0, 0, false, 0, 0⟩
def slotE (x : Cell) : List Value := rowV .cell (slotCl x)
def slotC (x y : Cell) : Int := (slotCl x).slot - (slotCl y).slot
theorem slotCl_ok (x : Cell) : -4611686018427387904 ≤ (slotCl x).slot ∧ (slotCl x).slot ≤ 4611686018427387903 := by
  unfold slotCl
  split
  · rename_i h
    simpa [slotOk] using h
  · decide
theorem slotLt (x y : Cell) : ltOf slotC x y = decide ((slotCl x).slot < (slotCl y).slot) := by
  unfold ltOf slotC
  by_cases h : (slotCl x).slot < (slotCl y).slot
  · simp only [h, decide_true, decide_eq_true_eq]; omega
  · simp only [h, decide_false, decide_eq_false_iff_not]; omega
theorem slotSwo : SWO (ltOf slotC) := {
  irrefl := fun x => by rw [slotLt]; simp
  trans := fun x y z h1 h2 => by rw [slotLt] at *; simp at *; omega
  ntrans := fun x y z h1 h2 => by rw [slotLt] at *; simp at *; omega }

set_option maxHeartbeats 1000000 in
theorem clo197 (x y : Cell) (hx : -4611686018427387904 ≤ x.slot ∧ x.slot ≤ 4611686018427387903) (hy : -4611686018427387904 ≤ y.slot ∧ y.slot ≤ 4611686018427387903) (W : World) :
    Calls Tryz.prog 197 #[.agg #[.int .i64 x.slot, .int .i64 x.offset, .int .i64 x.kind, .bool x.send, .int .i64 x.peer, .int .i64 x.flow], .agg #[.int .i64 y.slot, .int .i64 y.offset, .int .i64 y.kind, .bool y.send, .int .i64 y.peer, .int .i64 y.flow]] W
      fun e w' => e = .returned (.int .i64 (x.slot - y.slot)) ∧ ∃ q os', w' = grow (W.drewN q) os' := by
  have hw : IntKind.i64.wrap (x.slot - y.slot) = x.slot - y.slot := by rw [IntKind.wrap_i64]; omega
  go_enter Tryz.func197, Tryz.ntmps197
  go_wp2
  go_ret
  exact ⟨rfl, 0, _, by rw [alloc_eq_grow, alloc_eq_grow, grow_grow]; rfl⟩

theorem slotLays (blk off size : Nat) (w : World) : CmpLays Tryz.prog 197 #[] slotE 6 slotC blk off size w :=
  fun _ _ _ _ x y => clo197 (slotCl x) (slotCl y) (slotCl_ok x) (slotCl_ok y) _

noncomputable def C242 : Cfg := { base [] [(242, Tryz.f242), (261, Tryz.f261)] [] [] [] [] [] with raw := true }
theorem r242 (n : Nat) : startK C242 (up 60 n) 242 Tryz.f242 [.sl .cell [] .none, .i 0, .i 0, .i 0, .fn 197 [] []] = some (.tup []) := by kernel_rfl
theorem nil242 (w : World) : Calls Tryz.prog 242 #[.slice none 0 0, .int .i64 0, .int .i64 0, .int .i64 0, .func (.func 197) #[] #[]] w fun e w' => e = .returned (.tuple #[]) ∧ Below w.heap.size w w' := by
  have h := am_coreK (I := fun _ _ => False) (w := w) (base_ok .nil (.cons c242 (.cons c261 .nil)) .nil).raw c242.1 (r242 0) (fun _ _ h => h.elim) (vs := [.slice none 0 0, .int .i64 0, .int .i64 0, .int .i64 0, .func (.func 197) #[] #[]])
    ⟨_, _, rfl, ⟨none, 0, rfl, Nat.le_refl _, .inl rfl, trivial⟩, _, _, rfl, rfl, _, _, rfl, rfl, _, _, rfl, rfl, _, _, rfl, ⟨_, _, rfl, rfl, rfl⟩, rfl⟩
  refine h.mono ?_
  rintro e w' ⟨v, rfl, hb, hf⟩
  unfold FinR at hf
  rw [if_pos rfl] at hf
  obtain ⟨x, B, _, _, _, _, us, rfl, hus⟩ := hf
  have hus : us = [] := hus
  subst hus
  exact ⟨rfl, hb⟩
theorem bits209 (n : Nat) (hn : n < 4611686018427387904) (w : World) : Calls Tryz.prog 209 #[.int .u64 n] w fun e w' => e = .returned (.int .i64 (Lib.bitLen n : Nat)) ∧ w' = w := by
  have h := Any.bits_Len (SlLaysF0.n15.bits (P := Tryz.prog) (ρ := Tryz.sortC_ren) { Tryz.sortC with }) (n : Int) w (by omega) (by omega)
  rwa [Int.toNat_natCast] at h
set_option maxHeartbeats 1000000 in
theorem nil196 (w : World) : Calls Tryz.prog 196 #[.slice none 0 0, .func (.func 197) #[] #[]] w fun e w' => e = .returned (.tuple #[]) ∧ Below w.heap.size w w' := by
  have hl := bits209 0 (by decide)
  have hp := nil242
  have wr : IntKind.u64.wrap (0 : Int) = 0 := by decide
  have hb : ((Lib.bitLen 0 : Nat) : Int) = 0 := by decide
  rw [hb] at hl
  go_enter Tryz.func196, Tryz.ntmps196
  go_wp2_with (first | (go_at_call 209; refine (hl _).mono ?_; rintro e w' ⟨rfl, rfl⟩) | (go_at_call 242; refine (hp _).mono ?_; rintro e w' ⟨rfl, hw⟩))
  go_end0
  exact ⟨rfl, hw⟩

theorem flat_rows (enc : Cell → List Value) (hk : ∀ x, (enc x).length = 6) : ∀ (l : List Cell) (t : Nat), t < l.length * 6 → (l.flatMap enc)[t]? = some ((enc (l[t / 6]!))[t % 6]!)
  | [], t, h => by simp at h
  | x :: l, t, h => by
    rw [List.flatMap_cons]
    by_cases h1 : t < 6
    · rw [List.getElem?_append_left (by rw [hk]; exact h1), Nat.div_eq_of_lt h1, Nat.mod_eq_of_lt h1, List.getElem?_eq_getElem (by rw [hk]; exact h1)]
      simp only [List.getElem!_cons_zero]
      rw [getElem!_pos _ t (by rw [hk]; exact h1)]
    · obtain ⟨s, rfl⟩ : ∃ s, t = s + 6 := ⟨t - 6, by omega⟩
      rw [List.getElem?_append_right (by rw [hk]; omega), hk, Nat.add_sub_cancel, flat_rows enc hk l s (by simp only [List.length_cons] at h; omega), Nat.add_div_right _ (by decide), Nat.add_mod_right]
      simp
theorem flat_list (enc : Cell → List Value) (hk : ∀ x, (enc x).length = 6) (d : Array Cell) : (flatK enc 6 d).toList = d.toList.flatMap enc := by
  apply List.ext_getElem?
  intro t
  have hlen : (d.toList.flatMap enc).length = d.size * 6 := by
    rw [List.length_flatMap, List.map_congr_left (g := fun _ => 6) (fun a _ => hk a)]
    simp [List.map_const', Nat.mul_comm]
  by_cases h : t < d.size * 6
  · rw [flat_rows enc hk d.toList t (by simpa using h), Array.getElem?_toList, Array.getElem?_eq_getElem (by simpa using h), ← getElem!_pos (flatK enc 6 d) t (by simpa using h), get_flatK _ _ _ _ h]
    simp only [Array.getElem!_toList]
  · rw [List.getElem?_eq_none (by rw [Array.length_toList, size_flatK]; omega), List.getElem?_eq_none (by rw [hlen]; omega)]
def P196 (l : List Cell) : Bool := l.all slotOk && decide (l.length < 4611686018427387904)
def sortC (l : List Cell) : List Cell := (pdq (ltOf slotC) l.toArray 0 l.length (Lib.bitLen l.length) true true).toList
theorem sortC_spec (l : List Cell) : (sortC l).Perm l ∧ (P196 l = true → (sortC l).Pairwise fun x y => x.slot ≤ y.slot) := by
  obtain ⟨⟨h1, h2, h3⟩, h4⟩ := pdq_sorts (ltOf slotC) slotSwo l.toArray 0 l.length (Lib.bitLen l.length) true true (Nat.zero_le _) (by simp) (Or.inl rfl)
  have hs : (pdq (ltOf slotC) l.toArray 0 l.length (Lib.bitLen l.length) true true).size = l.length := by rw [h1]; simp
  have hp : (sortC l).Perm l := by
    have e1 : ∀ a : Array Cell, a.size = l.length → (a.extract 0 l.length).toList = a.toList := fun a ha => by rw [← ha]; simp
    rw [e1 _ hs, e1 _ (by simp)] at h3
    exact h3
  refine ⟨hp, fun h => ?_⟩
  rw [P196, Bool.and_eq_true] at h
  replace h := h.1
  have hcl : ∀ x ∈ sortC l, slotCl x = x := fun x hx => by
    unfold slotCl
    rw [if_pos (List.all_eq_true.1 h x (hp.mem_iff.1 hx))]
  rw [List.pairwise_iff_getElem]
  intro i j hi hj hij
  have h5 := h4 i j (Nat.zero_le _) hij (by rw [← hs]; simpa [sortC] using hj)
  have e : ∀ k (hk : k < (sortC l).length), (pdq (ltOf slotC) l.toArray 0 l.length (Lib.bitLen l.length) true true)[k]! = (sortC l)[k] := fun k hk => by
    rw [getElem!_pos _ k (by simpa [sortC] using hk)]
    exact (Array.getElem_toList (i := k) (by simpa [sortC] using hk)).symm
  rw [e i hi, e j hj, slotLt, hcl _ (List.getElem_mem hi), hcl _ (List.getElem_mem hj)] at h5
  simpa using h5
def L196 : LE := .upd (fun rest l => match rest with
    | [.fn 197 [] []] => P196 l
    | _ => false) (fun rest l => some (sortC l))

theorem mapBlock_heap (w : World) (b : Nat) (f : Array Value → Array Value) (cur : Array Value) (t : Nat) (fz : Nat × Nat) (h : w.heap[b]? = some (.cells cur t fz)) : (mapBlock w b f).heap[b]? = some (.cells (f cur) t fz) := by
  simp only [mapBlock, Array.getElem?_modify, h]
  simp [onCells]
theorem mapBlock_other (w : World) (b k : Nat) (f : Array Value → Array Value) (h : k ≠ b) : (mapBlock w b f).heap[k]? = w.heap[k]? := by
  simp only [mapBlock, Array.getElem?_modify]
  rw [if_neg (fun e => h e.symm)]

set_option maxHeartbeats 4000000 in
theorem upd196 : LinOk Q elT 196 L196 := by
  intro x B l l' v rest us hbase hI hel hown hvI hrest hpre hval
  dsimp only at hpre hval
  split at hpre
  · cases hval
    rw [P196, Bool.and_eq_true, decide_eq_true_eq] at hpre
    obtain ⟨hpre, hbig⟩ := hpre
    obtain ⟨vf, us1, rfl, hvf, hnil⟩ := hrest
    have hnil : us1 = [] := hnil
    subst hnil
    have hvf : vf = .func (.func 197) #[] #[] := by
      obtain ⟨fs, cs, h1, h2, h3⟩ := hvf
      have h2 : fs = [] := h2
      have h3 : cs = [] := h3
      subst h2 h3
      exact h1
    subst hvf
    rcases hown.2 with ⟨rfl, hn⟩ | ⟨g, cap, cur, rfl, hbg, hg, hnc, hcm, hcs, htake⟩
    · have : l = [] := List.eq_nil_of_length_eq_zero hn
      subst this
      refine (nil196 x.w).mono ?_
      rintro e w' ⟨rfl, hb⟩
      have h0 : sortC [] = [] := by have := (sortC_spec []).1; simpa using this
      rw [h0]
      exact ⟨rfl, World.ownsRow_nil _ _ _ _, ⟨hb.os, hb.tape, hb.output, hb.size, fun k hk _ => hb.block k hk⟩⟩
    · have hglt : g < x.w.heap.size := lt_of_heap hg
      have hslen : (sortC l).length = l.length := (sortC_spec l).1.length_eq
      have hall : ∀ m : List Cell, (∀ c ∈ m, slotOk c = true) → m.flatMap slotE = rowsV .cell m := fun m hm => by
        unfold rowsV
        rw [List.flatMap_def, List.flatMap_def, List.map_congr_left (g := rowV .cell)]
        intro c hc
        show rowV .cell (slotCl c) = _
        unfold slotCl
        rw [if_pos (hm c hc)]
      have hl0 : ∀ c ∈ l, slotOk c = true := fun c hc => List.all_eq_true.1 hpre c hc
      have hl1 : ∀ c ∈ sortC l, slotOk c = true := fun c hc => hl0 c ((sortC_spec l).1.mem_iff.1 hc)
      have hk6 : ∀ c, (slotE c).length = 6 := fun c => rowV_len .cell _
      have hf0 : (flatK slotE 6 l.toArray).toList = rowsV .cell l := by rw [flat_list _ hk6]; exact hall l hl0
      have htake' : cur.toList.take (l.length * 6) = rowsV .cell l := htake
      have hH : HoldsK slotE 6 x.w g 0 l.toArray := by
        intro j hj
        have hj' : j < l.length * 6 := by simpa using hj
        refine ⟨?_, by simp [World.frozen?, hg]⟩
        have h1 : (rowsV .cell l)[j]? = some ((flatK slotE 6 l.toArray)[j]!) := by
          rw [← hf0, Array.getElem?_toList, Array.getElem?_eq_getElem hj, getElem!_pos _ j hj]
        rw [← htake', List.getElem?_take, if_pos hj'] at h1
        simp only [World.cell?, hg, Nat.zero_add, id]
        simpa using h1
      have hz : ∀ w, (Go.sizeOf 115).run Tryz.prog w = .ok 6 w := by intro w; unfold Go.sizeOf typeInfo; kernel_rfl
      have eg : ∀ args w, (callFunc 197 args).run Tryz.prog w = .ok (.enter 197 args) w := enters_of Tryz.func197 (by kernel_rfl) rfl
      have hs := AnyQ.slices_SortFunc_eq Tryz.sortC 6 Tryz.isAgg115 hz slotE hk6 (fun c u hu => rowV_one .cell _ u hu) slotC slotSwo 197 #[] g 0 cap l.toArray x.w eg (slotLays g 0 l.toArray.size x.w) hH hglt (by simpa using hbig)
      change Calls Tryz.prog 196 _ _ _ at hs
      refine hs.mono ?_
      rintro e w' ⟨rfl, n, os, rfl⟩
      generalize hD : pdq (ltOf slotC) l.toArray 0 l.toArray.size (Lib.bitLen l.toArray.size) true true = D
      have hDl : D.toList = sortC l := by rw [← hD]; rfl
      have hfD : (flatK slotE 6 D).toList = rowsV .cell (sortC l) := by rw [flat_list _ hk6, hDl]; exact hall _ hl1
      have hDs : D.size = l.length := by rw [← Array.length_toList, hDl, hslen]
      have hg2 := mapBlock_heap (Sort.ahead x.w n) g (putCells id 0 (flatK slotE 6 D)) cur 115 (0, 0) hg
      have hlt2 : g < (mapBlock (Sort.ahead x.w n) g (putCells id 0 (flatK slotE 6 D))).heap.size := lt_of_heap hg2
      have hsz2 : (mapBlock (Sort.ahead x.w n) g (putCells id 0 (flatK slotE 6 D))).heap.size = x.w.heap.size := by simp [mapBlock, Sort.ahead]
      refine ⟨rfl, ⟨by rw [rowsV_len]; rfl, .inr ⟨g, cap, putCells id 0 (flatK slotE 6 D) cur, by rw [hslen], hbg, ?_, by rw [hslen]; exact hnc, hcm, ?_, ?_⟩⟩, ⟨rfl, rfl, rfl, ?_, ?_⟩⟩
      · show ((mapBlock (Sort.ahead x.w n) g (putCells id 0 (flatK slotE 6 D))).heap ++ os)[g]? = _
        rw [Array.getElem?_append_left hlt2]
        exact hg2
      · simp only [putCells, Array.size_mapIdx]
        exact hcs
      · rw [← hfD]
        apply List.ext_getElem?
        intro t
        rw [List.getElem?_take]
        have hfs : (flatK slotE 6 D).size = (sortC l).length * 6 := by rw [size_flatK, hDs, hslen]
        have hcs' : cur.size = cap * 6 := hcs
        split
        · rename_i ht
          have ht1 : t < cur.size := by rw [hcs']; omega
          simp only [putCells, Array.toList_mapIdx, List.getElem?_mapIdx, Array.getElem?_toList, Nat.zero_le, true_and, Nat.zero_add, Nat.sub_zero, id, hfs, ht, if_true]
          rw [Array.getElem?_eq_getElem ht1, Array.getElem?_eq_getElem (by rw [hfs]; exact ht), Option.map_some, getElem!_pos _ t (by rw [hfs]; exact ht)]
        · rename_i ht
          rw [List.getElem?_eq_none (by rw [Array.length_toList, hfs]; omega)]
      · show _ ≤ ((mapBlock (Sort.ahead x.w n) g (putCells id 0 (flatK slotE 6 D))).heap ++ os).size
        rw [Array.size_append, hsz2]
        omega
      · intro k hk hne
        show ((mapBlock (Sort.ahead x.w n) g (putCells id 0 (flatK slotE 6 D))).heap ++ os)[k]? = _
        rw [Array.getElem?_append_left (by rw [hsz2]; exact hk), mapBlock_other _ _ _ _ (fun e => hne (by rw [e]; rfl))]
        rfl
  · cases hpre
theorem le196 : LinGood 196 L196 := ⟨upd196, _, c196.1, by kernel_rfl, c196.2⟩
#print axioms le196
end Go.Am
