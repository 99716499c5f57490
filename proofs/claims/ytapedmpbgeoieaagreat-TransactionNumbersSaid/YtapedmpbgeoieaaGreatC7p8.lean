/- Part 8 of the proof: Am8. -/
import Derived.Test.YtapedmpbgeoieaaGreatC7p7
set_option linter.unusedSimpArgs false
set_option linter.unusedVariables false
namespace Go.Am
open Go Go.RowKit
set_option linter.unusedSimpArgs false
set_option linter.unusedVariables false
set_option linter.unusedSectionVars false

theorem fill_step (place : Nat → Option (Nat × Nat)) (us : List Value) (i off sz : Nat) (v : Value) (rest : List (Nat × Value)) (hp : place i = some (off, sz)) (hv : v.cells.size = sz) (hle : off + sz ≤ us.length) :
    Instr.fill place us.toArray ((i, v) :: rest) = Instr.fill place (us.take off ++ (v.cells.toList ++ us.drop (off + sz))).toArray rest := by
  conv => lhs; unfold Instr.fill
  simp only [hp]
  rw [if_neg (by simp; omega)]
  congr 1
  obtain ⟨h1, h2⟩ := Great.foldl_set off v.cells.toList 0 us.toArray
  have e1 : (v.cells.zipIdx.foldl (fun cs (c, j) => cs.setIfInBounds (off + j) c) us.toArray) = ((v.cells.toList.zipIdx 0).foldl (fun cs (x : Value × Nat) => cs.setIfInBounds (off + x.2) x.1) us.toArray) := by
    rw [← Array.foldl_toList, Array.toList_zipIdx]
  rw [e1]
  have hvl : v.cells.toList.length = sz := by simpa using hv
  apply Array.ext_getElem?
  intro k
  rw [h2 k]
  simp only [List.size_toArray, List.getElem?_toArray, Nat.add_zero, hvl]
  by_cases hk : off ≤ k ∧ k < off + sz ∧ k < us.length
  · rw [if_pos hk, List.getElem?_append_right (by simp; omega), List.length_take, Nat.min_eq_left (by omega), List.getElem?_append_left (by omega)]
  · rw [if_neg hk]
    rcases Nat.lt_or_ge k off with h | h
    · rw [List.getElem?_append_left (by simp; omega), List.getElem?_take, if_pos h]
    · rw [List.getElem?_append_right (by simp; omega), List.length_take, Nat.min_eq_left (by omega), List.getElem?_append_right (by omega), List.getElem?_drop]
      congr 1
      omega

section
variable {P : Program} {el : ST → Nat} {C : Cfg} (hC : COk P el C) {x : X} (hs : Sane x) (hel : x.el = el) {B : List (Nat → Option Nat)} {o : Oper} {ρ : Operand → Value} {e : Operand → AV} (he : ∀ y, R x B (e y) (ρ y))

include he in
theorem fill_ok {ti : TI} (place : Nat → Option (Nat × Nat)) (hplace : ∀ i off sz, partA ti i = some (off, sz) → place i = some (off, sz)) :
    ∀ (parts : List (Nat × Operand)) (cs : List AV) (us : List Value) (cs' : List AV), fillA ti e parts cs = some cs' → Rs x B cs us → (∀ u ∈ us, u.oneCell' = true) →
      ∃ us', Instr.fill place us.toArray (parts.map fun (i, y) => (i, ρ y)) = some us'.toArray ∧ Rs x B cs' us' ∧ ∀ u ∈ us', u.oneCell' = true
  | [], cs, us, cs', h, hr, h1 => by
    simp only [fillA, Option.some.injEq] at h
    subst h
    exact ⟨us, rfl, hr, h1⟩
  | (i, y) :: parts, cs, us, cs', h, hr, h1 => by
    simp only [fillA] at h
    split at h
    · rename_i off sz hp
      split at h
      · rename_i hc
        simp only [Bool.and_eq_true, beq_iff_eq, decide_eq_true_eq] at hc
        obtain ⟨hc1, hc2, hc3⟩ := hc
        obtain ⟨g1, g2⟩ := cells_ok hc1 (he y)
        have hlen := Rs_len g1
        have hl := Rs_len hr
        simp only [List.map_cons]
        rw [fill_step place us i off sz (ρ y) _ (hplace _ _ _ hp) (by rw [← hc2, ← hlen]; simp) (by omega)]
        refine fill_ok place hplace parts _ _ cs' h (Rs_app (Rs_take hr off) (Rs_app g1 (Rs_drop hr _))) ?_
        intro u hu
        rcases List.mem_append.1 hu with hu | hu
        · exact h1 u (List.mem_of_mem_take hu)
        · rcases List.mem_append.1 hu with hu | hu
          · exact g2 u hu
          · exact h1 u (List.mem_of_mem_drop hu)
      · cases h
    · cases h

theorem places_of : ∀ (fs : List Field) (fl : List (Nat × Nat × Bool)), (fs.map fun f => (f.offset, (P.info? f.type).map (·.size), (P.underlying f.type).map isAggD)) = (fl.map fun x => (x.1, some x.2.1, some x.2.2)) →
    fs.mapM (fun f => (P.info? f.type).map fun i => (f.offset, i.size)) = some (fl.map fun x => (x.1, x.2.1))
  | [], [], _ => rfl
  | [], _ :: _, h => by cases h
  | _ :: _, [], h => by cases h
  | f :: fs, x :: fl, h => by
    simp only [List.map_cons, List.cons.injEq, Prod.mk.injEq] at h
    obtain ⟨⟨h1, h2, _⟩, h3⟩ := h
    cases hi : P.info? f.type with
    | none => simp [hi] at h2
    | some i =>
      simp only [hi, Option.map_some, Option.some.injEq] at h2
      simp [List.mapM_cons, hi, places_of fs fl h3, h1, h2]

include hC hs he in
theorem act_build {t : Nat} {ti : TI} {parts : Array (Nat × Operand)} (hl : look t C.ty = some ti) (ho : o.op = .build t parts) (hn : ¬ (ti.flds.isEmpty && ti.arr.isNone) = true) {cs : List AV} (hf : fillA ti e parts.toList (ti.zero.map ofConst) = some cs) :
    ActOk P x B o ρ (.val (.agg cs)) := by
  have ht := hC.ty t ti hl
  obtain ⟨i, z, h1, h2, h3, h4⟩ := info_of ht
  have hz1 : ∀ u ∈ ti.zero, u.oneCell' = true := fun u hu => List.all_eq_true.1 ht.one u hu
  have fin : ∀ place : Nat → Option (Nat × Nat), (∀ i off sz, partA ti i = some (off, sz) → place i = some (off, sz)) →
      (∀ us, Instr.fill place z.cells (parts.map fun (i, y) => (i, ρ y)).toList = some us → P.built t (parts.map fun (i, y) => (i, ρ y)).toList = some us) → ActOk P x B o ρ (.val (.agg cs)) := by
    intro place hp hb
    obtain ⟨us, g1, g2, g3⟩ := fill_ok he place hp parts.toList _ ti.zero cs hf (rs_consts x B _) hz1
    rw [← h4] at g1
    have hr := run_build (P := P) x.w t (parts.map fun (i, y) => (i, ρ y)) us.toArray (hb _ (by rw [Array.toList_map]; exact g1))
    refine .pure hs (u := .agg us.toArray) ?_ ⟨us, rfl, g3, g2⟩
    simp only [execOp, ho, Sem.run_bind, hr, Result.andThen_ok, Sem.run_pure]
  cases ha : ti.arr with
  | some ns =>
    obtain ⟨n, s⟩ := ns
    obtain ⟨e', ie, k1, k2, k3⟩ := arr_info (t := t) (n := n) (s := s) hC (by rw [hl]; exact ha)
    refine fin (fun i => some (i * s, s)) (fun i off sz hp => by simpa [partA, ha] using hp) fun us hu => ?_
    simp only [Program.built, h1, k1, h3, k2, k3]
    exact hu
  | none =>
    have hne : ti.flds ≠ [] := by intro h; simp [h, ha] at hn
    obtain ⟨fs, k1, _⟩ := fields_of ht hne
    have k2 := ht.flds hne
    simp only [k1, Option.bind_some, fieldsD, Option.map_some, Option.some.injEq] at k2
    refine fin (fun i => (ti.flds.map fun x => (x.1, x.2.1))[i]?) (fun i off sz hp => ?_) fun us hu => ?_
    · simp only [partA, ha] at hp
      rw [List.getElem?_map]; exact hp
    · simp only [Program.built, h1, k1, h3, places_of _ _ k2]
      simpa using hu

/-! ### Slice literals -/
theorem litA_ok : ∀ (i : Nat) (parts : List (Nat × Operand)) (vs : List AV), litA e i parts = some vs → ∃ ys : List Operand, vs = ys.map e ∧ parts = (ys.zipIdx i).map fun x => (x.2, x.1)
  | i, [], vs, h => by
    simp only [litA, Option.some.injEq] at h
    subst h
    exact ⟨[], rfl, rfl⟩
  | i, (j, y) :: parts, vs, h => by
    simp only [litA] at h
    split at h
    · rename_i hij
      have hij : i = j := by simpa using hij
      subst hij
      obtain ⟨vs', h1, rfl⟩ := Option.map_eq_some_iff.1 h
      obtain ⟨ys, rfl, rfl⟩ := litA_ok (i + 1) parts vs' h1
      exact ⟨y :: ys, rfl, rfl⟩
    · cases h

theorem fill_all (s : Nat) : ∀ (vs : List Value) (i : Nat) (pre z : List Value), pre.length = i * s → vs.length * s = z.length → (∀ v ∈ vs, v.cells.size = s) →
    Instr.fill (fun i => some (i * s, s)) (pre ++ z).toArray ((vs.zipIdx i).map fun x => (x.2, x.1)) = some (pre ++ vs.flatMap (·.cells.toList)).toArray
  | [], i, pre, z, hp, hz, _ => by
    have : z = [] := List.eq_nil_of_length_eq_zero (by rw [← hz]; simp)
    subst this
    rfl
  | v :: vs, i, pre, z, hp, hz, hv => by
    have hvs := hv v List.mem_cons_self
    have hz' : s + vs.length * s = z.length := by rw [← hz, List.length_cons, Nat.add_mul]; omega
    simp only [List.zipIdx_cons, List.map_cons]
    rw [fill_step _ _ i (i * s) s v _ rfl hvs (by rw [List.length_append]; omega)]
    have e1 : (pre ++ z).take (i * s) ++ (v.cells.toList ++ (pre ++ z).drop (i * s + s)) = (pre ++ v.cells.toList) ++ z.drop s := by
      have e2 : (pre ++ z).drop (pre.length + s) = z.drop s := by simp [List.drop_append]
      rw [← hp, e2, List.take_left, List.append_assoc]
    rw [e1, fill_all s vs (i + 1) _ _ (by rw [List.length_append, hp, Nat.add_mul]; simp [hvs]) (by rw [List.length_drop]; omega) (fun u hu => hv u (List.mem_cons_of_mem _ hu))]
    simp

theorem dec_ok {st : ST} {v : AV} {u : Value} {a : st.El} (hv : R x B v u) (hd : st.dec (cellsOf v) = some a) : u.cells.toList = rowV st a := by
  have key : ∀ cs us, Rs x B cs us → st.dec cs = some a → us = rowV st a := by
    intro cs us hr hd
    unfold ST.dec at hd
    split at hd <;> try (cases hd; done)
    all_goals (
      injection hd with hd
      subst hd
      simp only [Rs] at hr
      repeat (first | (obtain ⟨_, _, rfl, h1, hr⟩ := hr; cases h1) | cases hr)
      rfl)
  cases v with
  | agg cs =>
    obtain ⟨us, rfl, _, h3⟩ := hv
    exact key cs us h3 hd
  | int k n => cases hv; exact key [.int k n] _ ⟨_, _, rfl, rfl, rfl⟩ hd
  | bool b => cases hv; exact key [.bool b] _ ⟨_, _, rfl, rfl, rfl⟩ hd
  | _ => cases st <;> simp [ST.dec, cellsOf] at hd

include he in
theorem decs_ok {st : ST} : ∀ (ys : List Operand) (l : List st.El), (ys.map e).mapM (fun v => st.dec (cellsOf v)) = some l → l.length = ys.length ∧ (ys.map ρ).flatMap (·.cells.toList) = rowsV st l ∧ ∀ v ∈ ys.map ρ, v.cells.size = st.k
  | [], l, h => by
    simp at h
    subst h
    exact ⟨rfl, rfl, by simp⟩
  | y :: ys, l, h => by
    simp only [List.map_cons, List.mapM_cons, Option.bind_eq_bind, Option.bind_eq_some_iff, Option.pure_def, Option.some.injEq] at h
    obtain ⟨a, ha, l', hl', rfl⟩ := h
    obtain ⟨h1, h2, h3⟩ := decs_ok ys l' hl'
    have h4 := dec_ok (he y) ha
    refine ⟨by simp [h1], ?_, ?_⟩
    · simp only [List.map_cons, List.flatMap_cons, h4, h2, rowsV]
    · intro v hv
      rcases List.mem_cons.1 hv with rfl | hv
      · have := congrArg List.length h4
        rw [rowV_len] at this
        simpa using this
      · exact h3 v hv

theorem lits_ok (k : Nat) : ∀ (ys : List Operand), (∀ v ∈ ys.map e, oneA v = true ∧ (cellsOf v).length = k) → (∀ y, R x B (e y) (ρ y)) → Rs x B ((ys.map e).flatMap cellsOf) ((ys.map ρ).flatMap (·.cells.toList)) ∧ ((ys.map e).flatMap cellsOf).length = ys.length * k ∧ (∀ v ∈ ys.map ρ, v.cells.size = k) ∧ ∀ u ∈ (ys.map ρ).flatMap (·.cells.toList), u.oneCell' = true
  | [], _, _ => ⟨rfl, by simp, by simp, by simp⟩
  | y :: ys, h, he => by
    obtain ⟨h1, h2, h3, h9⟩ := lits_ok k ys (fun v hv => h v (List.mem_cons_of_mem _ hv)) he
    obtain ⟨h4, h5⟩ := h (e y) List.mem_cons_self
    obtain ⟨h6, h7⟩ := cells_ok h4 (he y)
    have h8 := Rs_len h6
    refine ⟨Rs_app h6 h1, ?_, ?_, ?_⟩
    · simp only [List.map_cons, List.flatMap_cons, List.length_append, h2, h5, List.length_cons, Nat.add_mul]
      omega
    · intro v hv
      rcases List.mem_cons.1 hv with rfl | hv
      · rw [h5] at h8; simpa using h8
      · exact h3 v hv
    · intro u hu
      simp only [List.map_cons, List.flatMap_cons] at hu
      rcases List.mem_append.1 hu with hu | hu
      · exact h7 u hu
      · exact h9 u hu

theorem buildSlice_run {t e' n k : Nat} {i : TypeInfo} {z : Value} (hu : P.underlying t = some (.slice e')) (hi : P.info? e' = some i) (hsz : i.size = k) (hz : i.zero = some z) (hzs : z.cells.size = k) (hk : k ≠ 0) (hn : n * k ≤ 2 ^ 24)
    (w : World) (parts : Array (Nat × Value)) (vs : List Value) (hp : parts.toList = (vs.zipIdx 0).map fun x => (x.2, x.1)) (hl : vs.length = n) (hv : ∀ v ∈ vs, v.cells.size = k) :
    (Instr.buildSlice t n parts).run P w = .ok (.slice (some ⟨w.heap.size, 0, none⟩) n n) (w.alloc (.cells (vs.flatMap (·.cells.toList)).toArray e')) := by
  by_cases h0 : n * k = 0
  · have hn0 : n = 0 := by rcases Nat.mul_eq_zero.1 h0 with h | h; exact h; exact absurd h hk
    subst hn0
    have : vs = [] := List.eq_nil_of_length_eq_zero hl
    subst this
    have hp' : parts = #[] := by apply Array.ext'; simpa using hp
    subst hp'
    simp [Instr.buildSlice, run_underlying hu, Go.sizeOf, typeInfo, hi, Instr.fill, newRow]
    congr 2
    apply Array.ext'
    simp
  · have hta : ∀ (l : Array Value), (([] : List Value) ++ l.toList).toArray = l := fun l => by simp
    have hf := fill_all k vs 0 [] ((Array.range (n * i.size)).map (z.cells[· % z.cells.size]!)).toList (by simp) (by simp [hl, hsz]) hv
    rw [hta] at hf
    simp only [List.nil_append] at hf
    have := run_buildSlice (P := P) w t e' n parts (vs.flatMap (·.cells.toList)).toArray i z hu hi hz (by rw [hsz]; omega) (by rw [hsz]; exact h0) (by rw [hp]; rw [hsz] at hf ⊢; exact hf)
    exact this

theorem below_alloc (w : World) (o : Obj) : Below w.heap.size w (w.alloc o) := ⟨rfl, rfl, rfl, by simp, fun i hi => Go.heap_alloc_old w _ hi⟩

include hs in
/-- A new block whose cells stay. -/
theorem new_block (us : List Value) (e' : Nat) (ow' : Option Nat) : ∃ x', x'.w = x.w.alloc (.cells us.toArray e') ∧ Ext x x' ∧ At x' x.w.heap.size 0 us ∧ x'.el = x.el ∧ x'.base = x.base ∧ x'.ow x.w.heap.size = ow' ∧ ∀ o, us.length ≤ o → ¬ x'.I x.w.heap.size o := by
  refine ⟨_, rfl, Ext.of_below hs (below_alloc x.w (.cells us.toArray e')) (fun b o => b = x.w.heap.size ∧ o < us.length) (fun b => if b = x.w.heap.size then ow' else none) (fun b o h => by simp [h.1]) (fun b a h => ?_), fun j u hj => ⟨.inr ⟨rfl, ?_⟩, ?_⟩, rfl, rfl, ?_, ?_⟩
  · split at h
    · rename_i hb; subst hb; simp
    · cases h
  · rw [Nat.zero_add]
    rcases Nat.lt_or_ge j us.length with h | h
    · exact h
    · rw [List.getElem?_eq_none h] at hj; cases hj
  · rw [Nat.zero_add]
    simp only [World.cell?, Go.heap_alloc_new]
    simpa using hj
  · simp
  · rintro o' ho' (h | h)
    · exact absurd (hs.lt _ _ h) (by omega)
    · omega

include hC hs hel he in
theorem act_lit {t n : Nat} {parts : Array (Nat × Operand)} (ho : o.op = .buildSlice t n parts) {vs : List AV} (hlit : litA e 0 parts.toList = some vs) (hn : vs.length = n) (hn' : n ≤ 1000) (h1 : ∀ v ∈ vs, oneA v = true) {ti : TI} (hl : look t C.ty = some ti) :
    (∀ st l, ti.sl = some st → vs.mapM (fun v => st.dec (cellsOf v)) = some l → ActOk P x B o ρ (.val (.sl st l (.lab (C.label o))))) ∧
    (ti.sl = none → ti.esize ≠ 0 → ti.esize ≤ 1000 → (∀ v ∈ vs, (cellsOf v).length = ti.esize) → ActOk P x B o ρ (.val (.lit ti.esize n (vs.flatMap cellsOf)))) := by
  obtain ⟨ys, rfl, hys⟩ := litA_ok _ _ _ hlit
  have hlen : ys.length = n := by simpa using hn
  have hpl : (parts.map fun (i, y) => (i, ρ y)).toList = ((ys.map ρ).zipIdx 0).map fun x => (x.2, x.1) := by
    rw [Array.toList_map, hys, List.zipIdx_map]
    simp [List.map_map, Function.comp_def]
  constructor
  · intro st l hsl hd
    obtain ⟨hu, i, z, hi, hsz, hby, hz, hzs⟩ := sl_info (hC.ty t ti hl) hsl
    obtain ⟨g1, g2, g3⟩ := decs_ok he ys l hd
    have hk := st_k_pos st
    have hk7 : st.k ≤ 7 := by cases st <;> decide
    have hnk : n * st.k ≤ 2 ^ 24 := Nat.le_trans (Nat.mul_le_mul hn' hk7) (by decide)
    have hr := buildSlice_run (P := P) hu hi hsz hz hzs (by omega) hnk x.w _ (ys.map ρ) hpl (by simpa using hlen) g3
    rw [g2] at hr
    obtain ⟨x', k1, k2, k3, k4, k5, k6, k7⟩ := new_block hs (rowsV st l) (el st) (some (C.label o))
    have hll : l.length = n := by rw [g1, hlen]
    refine .inl ⟨_, _, by simp only [execOp, ho, Sem.run_bind, hr, Result.andThen_ok, Sem.run_pure]; rfl, x', k1, k2, ?_⟩
    refine ⟨_, n, by rw [hll], by omega, .inr ⟨_, 0, rfl, k3⟩, ⟨rowsV_len _ _, .inr ⟨x.w.heap.size, n, (rowsV st l).toArray, by rw [hll], by rw [k5]; exact hs.base, by rw [k1, k4, hel]; exact Go.heap_alloc_new _ _, by omega, by simp only [maxLen]; omega, by simp [rowsV_len, hll], ?_⟩⟩, ?_⟩
    · rw [← rowsV_len st l]; simp
    · intro b hb
      cases hb
      refine ⟨k6, fun o' ho' => k7 o' (by rw [rowsV_len]; exact ho')⟩
  · intro hsl hes hes' hall
    obtain ⟨hu, hi', hz'⟩ := (hC.ty t ti hl).lit hsl hes
    cases hi : P.info? ti.el with
    | none => simp [hi] at hi'
    | some i =>
      rw [hi] at hi' hz'
      simp only [Option.map_some, Option.some.injEq, Option.bind_some] at hi' hz'
      cases hz : i.zero with
      | none => simp [hz] at hz'
      | some z =>
        have hzs : z.cells.size = ti.esize := by simpa [hz] using hz'
        obtain ⟨g1, g2, g3, g4⟩ := lits_ok (x := x) (B := B) (ρ := ρ) ti.esize ys (fun v hv => ⟨h1 v hv, hall v hv⟩) he
        have hnk : n * ti.esize ≤ 2 ^ 24 := Nat.le_trans (Nat.mul_le_mul hn' hes') (by decide)
        have hr := buildSlice_run (P := P) hu hi hi' hz hzs hes hnk x.w _ (ys.map ρ) hpl (by simpa using hlen) g3
        obtain ⟨x', k1, k2, k3, k4, k5, k6, k7⟩ := new_block hs ((ys.map ρ).flatMap (·.cells.toList)) ti.el none
        refine .inl ⟨_, _, by simp only [execOp, ho, Sem.run_bind, hr, Result.andThen_ok, Sem.run_pure]; rfl, x', k1, k2, ?_⟩
        exact ⟨_, n, _, rfl, by rw [g2, hlen], ⟨k3, g4⟩, Rs.evo k2.evo B _ _ g1⟩
end
end Go.Am
