/- Part 16 of the proof: Am16. -/
import Derived.Test.YtapedmpbgeoieaaGreatC7p15
set_option linter.unusedSimpArgs false
set_option linter.unusedVariables false
namespace Go.Am
open Go Go.RowKit
set_option linter.unusedSimpArgs false
set_option linter.unusedVariables false
set_option linter.unusedSectionVars false

theorem move_front {C : Cfg} {ops : Array Oper} {bf : List Nat} {i : Nat} {post : List Nat} : ∀ (pre : List Nat) (s s2 : Fr × List Fr) (accs : List (Nat × Log)), runA C ops (pre ++ i :: post) s = some (s2, accs) → accs.Pairwise (okPair bf) →
    (∀ p ∈ pre, (bf.getD i 0).testBit p = false ∧ ∀ x y, ops[p]? = some x → ops[i]? = some y → x.apart ops y = true) →
    ∃ ai accs', runA C ops (i :: (pre ++ post)) s = some (s2, (i, ai) :: accs') ∧ accs'.Sublist accs ∧ (i, ai) ∈ accs
  | [], s, s2, accs, h, hp, _ => by
    simp only [List.nil_append, runA] at h
    split at h
    · rename_i s1 a ho
      simp only [Option.map_eq_some_iff, Prod.mk.injEq] at h
      obtain ⟨⟨s2', accs0⟩, h1, h2, h3⟩ := h
      dsimp only at h2 h3
      subst h2 h3
      exact ⟨a, accs0, by simp [runA, ho, h1], List.sublist_cons_self _ _, List.mem_cons_self⟩
    · cases h
  | p :: pre, s, s2, accs, h, hp, hap => by
    simp only [List.cons_append, runA] at h
    split at h
    · rename_i s1 ap ho
      simp only [Option.map_eq_some_iff, Prod.mk.injEq] at h
      obtain ⟨⟨s2', accs0⟩, h1, h2, h3⟩ := h
      dsimp only at h2 h3
      subst h2 h3
      obtain ⟨hp1, hp2⟩ := List.pairwise_cons.1 hp
      obtain ⟨ai, accs1, h4, h5, h6⟩ := move_front pre s1 _ accs0 h1 hp2 fun q hq => hap q (List.mem_cons_of_mem _ hq)
      simp only [runA] at h4
      split at h4
      · rename_i s3 ai' ho'
        simp only [Option.map_eq_some_iff, Prod.mk.injEq, List.cons.injEq, true_and] at h4
        obtain ⟨⟨s4, accs2⟩, h7, h8, h9, h10⟩ := h4
        dsimp only at h8 h9 h10 h7
        subst h8 h9 h10
        obtain ⟨hb, hx⟩ := hap p List.mem_cons_self
        have hc : ap.compat ai' = true := by
          rcases hp1 _ h6 with h | h
          · dsimp only at h; rw [hb] at h; cases h
          · exact h
        cases hop : ops[p]? with
        | none => simp [opA, hop] at ho
        | some x =>
          cases hoi : ops[i]? with
          | none => simp [opA, hoi] at ho'
          | some y =>
            obtain ⟨s1', k1, k2⟩ := opA_comm hop hoi (hx x y hop hoi) hc ho ho'
            refine ⟨ai', (p, ap) :: accs2, ?_, h5.cons_cons _, List.mem_cons_of_mem _ h6⟩
            simp [runA, k1, k2, h7]
      · cases h4
    · cases h

/-! ### What comes before -/
theorem bits_some (acc : List Nat) (p : Nat) : ∀ (es : List Edge) (s : Nat), (bits acc es s).testBit p = true → s.testBit p = true ∨ ∃ e ∈ es, Region.binds .any e = true ∧ (p = e.on ∨ (acc.getD e.on 0).testBit p = true)
  | [], s, h => .inl h
  | e :: es, s, h => by
    simp only [bits] at h
    rcases bits_some acc p es _ h with h | ⟨e', h1, h2⟩
    · split at h
      · rename_i hb
        simp only [Nat.testBit_or, Bool.or_eq_true, Nat.testBit_two_pow, decide_eq_true_eq] at h
        rcases h with h | h | h
        · exact .inl h
        · exact .inr ⟨e, List.mem_cons_self, hb, .inl h.symm⟩
        · exact .inr ⟨e, List.mem_cons_self, hb, .inr h⟩
      · exact .inl h
    · exact .inr ⟨e', List.mem_cons_of_mem _ h1, h2⟩

theorem befL_some : ∀ (l : List Oper) (acc : List Nat), (∀ i, i < acc.length → (befL l acc).getD i 0 = acc.getD i 0) ∧
    ∀ k o, l[k]? = some o → ∀ p, ((befL l acc).getD (acc.length + k) 0).testBit p = true → ∃ e ∈ o.after, Region.binds .any e = true ∧ (p = e.on ∨ ((befL l acc).getD e.on 0).testBit p = true)
  | [], acc => ⟨fun _ _ => rfl, by simp⟩
  | o :: l, acc => by
    obtain ⟨h1, h2⟩ := befL_some l (acc ++ [bits acc o.after.toList 0])
    have h0 : ∀ i, i < acc.length → (befL (o :: l) acc).getD i 0 = acc.getD i 0 := fun i hi => by
      simp only [befL]
      rw [h1 i (by simp; omega)]
      simp [List.getD_eq_getElem?_getD, List.getElem?_append_left hi]
    refine ⟨h0, fun k o' hk p hp => ?_⟩
    cases k with
    | zero =>
      have : o = o' := by simpa using hk
      subst this
      simp only [befL, Nat.add_zero] at hp ⊢
      rw [h1 acc.length (by simp)] at hp
      have e1 : (acc ++ [bits acc o.after.toList 0]).getD acc.length 0 = bits acc o.after.toList 0 := by simp [List.getD_eq_getElem?_getD]
      rw [e1] at hp
      rcases bits_some acc p _ _ hp with h | ⟨e, h3, h4, h5⟩
      · simp at h
      · refine ⟨e, by simpa using h3, h4, h5.imp id fun h => ?_⟩
        rcases Nat.lt_or_ge e.on acc.length with hlt | hge
        · have := h0 e.on hlt
          simp only [befL] at this
          rw [this]; exact h
        · rw [List.getD_eq_getElem?_getD, List.getElem?_eq_none hge] at h
          simp at h
    | succ k =>
      simp only [befL] at hp ⊢
      have := h2 k o' (by simpa using hk) p
      rw [List.length_append, List.length_singleton, Nat.add_assoc, Nat.add_comm 1 k] at this
      exact this hp

theorem before_some {ops : Array Oper} {i p : Nat} {o : Oper} (ho : ops[i]? = some o) (h : ((befL ops.toList []).getD i 0).testBit p = true) : ∃ e ∈ o.after, Region.binds .any e = true ∧ (p = e.on ∨ ((befL ops.toList []).getD e.on 0).testBit p = true) := by
  have := (befL_some ops.toList []).2 i o (by simpa using ho) p
  simp only [List.length_nil, Nat.zero_add] at this
  exact this h

/-! ### The orders -/
def rem (ops : Array Oper) (listed : Array Bool) : List Nat := (List.range ops.size).filter fun i => !listed.getD i true
def closed (ops : Array Oper) (listed : Array Bool) : Prop := ∀ i p, listed.getD i false = true → ((befL ops.toList []).getD i 0).testBit p = true → listed.getD p false = true

theorem apart_of {ops : Array Oper} {bf : List Nat} (h : apartAll ops bf = true) {i j : Nat} {x y : Oper} (hij : i < j) (hx : ops[i]? = some x) (hy : ops[j]? = some y) (hb : (bf.getD j 0).testBit i = false) : x.apart ops y = true := by
  have hj : j < ops.size := (Array.getElem?_eq_some_iff.1 hy).1
  have h1 := List.all_eq_true.1 h j (List.mem_range.2 hj)
  rw [Bool.and_eq_true] at h1
  have h2 := List.all_eq_true.1 h1.2 i (List.mem_range.2 hij)
  rw [hb, Bool.false_or, hx, hy] at h2
  exact h2
theorem fwd_of {ops : Array Oper} {bf : List Nat} (h : apartAll ops bf = true) {j : Nat} {y : Oper} (hy : ops[j]? = some y) : ∀ e ∈ y.after, Region.binds .any e = true → e.on < j := by
  have hj : j < ops.size := (Array.getElem?_eq_some_iff.1 hy).1
  have h1 := List.all_eq_true.1 h j (List.mem_range.2 hj)
  rw [Bool.and_eq_true, hy] at h1
  intro e he hb
  have := Array.all_eq_true_iff_forall_mem.1 h1.1 e he
  simpa [hb] using this

theorem rem_sorted (ops : Array Oper) (listed : Array Bool) : (rem ops listed).Pairwise (· < ·) := List.Pairwise.filter _ List.pairwise_lt_range

theorem getD_true_false {l : Array Bool} {i : Nat} (h : i < l.size) : l.getD i true = l.getD i false := by
  simp [Array.getD, h]

theorem order_ok {C : Cfg} {ops : Array Oper} (hA : apartAll ops (befL ops.toList []) = true) : ∀ (fuel t : Nat) (listed : Array Bool) (s s2 : Fr × List Fr) (accs : List (Nat × Log)), listed.size = ops.size → closed ops listed → (rem ops listed).length = fuel →
    runA C ops (rem ops listed) s = some (s2, accs) → accs.Pairwise (okPair (befL ops.toList [])) → ∃ accs', runA C ops (Region.linearise.go .any ops fuel t listed []) s = some (s2, accs')
  | 0, t, listed, s, s2, accs, hsz, hcl, hlen, hr, hp => by
    have : rem ops listed = [] := List.eq_nil_of_length_eq_zero hlen
    rw [this] at hr
    exact ⟨accs, by simpa [Region.linearise.go] using hr⟩
  | fuel + 1, t, listed, s, s2, accs, hsz, hcl, hlen, hr, hp => by
    have hready : ∀ i, i ∈ Region.ready .any ops listed ↔ i ∈ rem ops listed ∧ ((ops[i]?).map (·.after.all fun e => !Region.binds .any e || listed.getD e.on false)).getD false = true := by
      intro i
      simp [Region.ready, rem, and_assoc]
    have hne : Region.ready .any ops listed ≠ [] := by
      cases hrem : rem ops listed with
      | nil => rw [hrem] at hlen; cases hlen
      | cons m l =>
        have hm : m ∈ rem ops listed := by rw [hrem]; exact List.mem_cons_self
        have hmn : m < ops.size := List.mem_range.1 (List.mem_filter.1 hm).1
        have : m ∈ Region.ready .any ops listed := by
          refine (hready m).2 ⟨hm, ?_⟩
          rw [Array.getElem?_eq_getElem hmn]
          simp only [Option.map_some, Option.getD_some, Array.all_eq_true_iff_forall_mem]
          intro e he
          cases hbd : Region.binds .any e with
          | false => rfl
          | true =>
          have hlt := fwd_of hA (Array.getElem?_eq_getElem hmn) e he hbd
          have hnot : e.on ∉ rem ops listed := by
            intro h
            rw [hrem] at h
            have hs := rem_sorted ops listed
            rw [hrem] at hs
            rcases List.mem_cons.1 h with h | h
            · omega
            · have := (List.pairwise_cons.1 hs).1 _ h; omega
          have : listed.getD e.on true = true := by
            cases hv : listed.getD e.on true with
            | true => rfl
            | false => exact absurd (List.mem_filter.2 ⟨List.mem_range.2 (by omega), by simp [hv]⟩) hnot
          rw [getD_true_false (by omega)] at this
          simp [this]
        intro h
        rw [h] at this
        cases this
    simp only [Region.linearise.go]
    change ∃ accs', runA C ops (match (Region.ready .any ops listed)[t % (Region.ready .any ops listed).length]? with
      | some i => Region.linearise.go .any ops fuel (t / (Region.ready .any ops listed).length) (listed.setIfInBounds i true) [i]
      | none => [].reverse) s = some (s2, accs')
    have hlt : t % (Region.ready .any ops listed).length < (Region.ready .any ops listed).length := Nat.mod_lt _ (List.length_pos_iff.2 hne)
    rw [List.getElem?_eq_getElem hlt]
    generalize hi : (Region.ready .any ops listed)[t % (Region.ready .any ops listed).length] = i
    have him : i ∈ Region.ready .any ops listed := hi ▸ List.getElem_mem hlt
    obtain ⟨hirem, hiafter⟩ := (hready i).1 him
    have hin : i < ops.size := List.mem_range.1 (List.mem_filter.1 hirem).1
    dsimp only
    rw [linearise_go_acc, List.reverse_singleton, List.singleton_append]
    -- its forerunners are listed
    have hbef : ∀ p, ((befL ops.toList []).getD i 0).testBit p = true → listed.getD p false = true := by
      intro p hpb
      obtain ⟨e, h1, h2, h3⟩ := before_some (Array.getElem?_eq_getElem hin) hpb
      rw [Array.getElem?_eq_getElem hin] at hiafter
      simp only [Option.map_some, Option.getD_some, Array.all_eq_true_iff_forall_mem] at hiafter
      have h4 : listed.getD e.on false = true := by have := hiafter e h1; simpa [h2] using this
      rcases h3 with rfl | h3
      · exact h4
      · exact hcl _ _ h4 h3
    obtain ⟨pre, post, hsplit⟩ := List.append_of_mem hirem
    have hsorted := rem_sorted ops listed
    rw [hsplit] at hsorted
    have hpre : ∀ p ∈ pre, p < i := fun p hp' => (List.pairwise_append.1 hsorted).2.2 p hp' i List.mem_cons_self
    have hpost : ∀ p ∈ post, i < p := fun p hp' => (List.pairwise_cons.1 (List.pairwise_append.1 hsorted).2.1).1 p hp'
    have hrem' : rem ops (listed.setIfInBounds i true) = pre ++ post := by
      have e1 : rem ops (listed.setIfInBounds i true) = (rem ops listed).filter (fun j => decide (j ≠ i)) := by
        unfold rem
        rw [List.filter_filter]
        apply List.filter_congr
        intro j hj
        have hjn := List.mem_range.1 hj
        simp only [Array.getD_eq_getD_getElem?, Array.getElem?_setIfInBounds]
        by_cases e : i = j
        · subst e; simp [hsz, hin]
        · have e' : ¬ j = i := fun h => e h.symm
          simp [e, e']
      rw [e1, hsplit, List.filter_append, List.filter_cons]
      simp only [ne_eq, not_true_eq_false, decide_false, Bool.false_eq_true, if_false]
      rw [List.filter_eq_self.2 fun p hp' => by have := hpre p hp'; simp; omega, List.filter_eq_self.2 fun p hp' => by have := hpost p hp'; simp; omega]
    rw [hsplit] at hr
    obtain ⟨ai, accs', k1, k2, k3⟩ := move_front pre s s2 accs hr hp fun p hp' => by
      have hpr : p ∈ rem ops listed := by rw [hsplit]; exact List.mem_append_left _ hp'
      have hpf : ((befL ops.toList []).getD i 0).testBit p = false := by
        cases hb : ((befL ops.toList []).getD i 0).testBit p with
        | false => rfl
        | true =>
          have h1 := hbef p hb
          have h2 := (List.mem_filter.1 hpr).2
          have h3 := List.mem_range.1 (List.mem_filter.1 hpr).1
          rw [getD_true_false (by omega), h1] at h2
          cases h2
      exact ⟨hpf, fun x y hx hy => apart_of hA (hpre p hp') hx hy hpf⟩
    simp only [runA] at k1 ⊢
    split at k1
    · rename_i s1 a ho
      simp only [Option.map_eq_some_iff, Prod.mk.injEq, List.cons.injEq] at k1
      obtain ⟨⟨s3, accs1⟩, h1, h2, h3, h4⟩ := k1
      dsimp only at h1 h2 h4
      subst h2 h4
      have hcl' : closed ops (listed.setIfInBounds i true) := by
        intro j p hj hpb
        simp only [Array.getD_eq_getD_getElem?, Array.getElem?_setIfInBounds] at hj ⊢
        have hgoal : listed.getD p false = true → (if i = p then if i < listed.size then some true else none else listed[p]?).getD false = true := by
          intro h
          split
          · rw [if_pos (by omega)]; rfl
          · rw [Array.getD_eq_getD_getElem?] at h; exact h
        apply hgoal
        split at hj
        · rename_i e; subst e; exact hbef p hpb
        · exact hcl j p (by rw [Array.getD_eq_getD_getElem?]; exact hj) hpb
      have hlen' : (rem ops (listed.setIfInBounds i true)).length = fuel := by
        rw [hrem']
        rw [hsplit] at hlen
        simp only [List.length_append, List.length_cons] at hlen ⊢
        omega
      obtain ⟨accs2, hfin⟩ := order_ok hA fuel (t / (Region.ready .any ops listed).length) (listed.setIfInBounds i true) s1 s3 accs1 (by simpa using hsz) hcl' hlen' (by rw [hrem']; exact h1) (hp.sublist k2)
      exact ⟨(i, a) :: accs2, by simp [hfin]⟩
    · cases k1

/-- The machine's order, from the text's. -/
theorem draw_order {C : Cfg} {ops : Array Oper} (hA : apartAll ops (befL ops.toList []) = true) {s s2 : Fr × List Fr} {accs : List (Nat × Log)} (h : runA C ops (List.range ops.size) s = some (s2, accs)) (hp : accs.Pairwise (okPair (befL ops.toList []))) (t : Nat) :
    ∃ accs', runA C ops (Region.linearise .any ops t) s = some (s2, accs') := by
  have hrem : rem ops (Array.replicate ops.size false) = List.range ops.size := by
    unfold rem
    rw [List.filter_eq_self]
    intro i hi
    have := List.mem_range.1 hi
    simp [Array.getD_eq_getD_getElem?, Array.getElem?_replicate, this]
  have hcl : closed ops (Array.replicate ops.size false) := by
    intro i p hi
    simp only [Array.getD_eq_getD_getElem?, Array.getElem?_replicate] at hi
    split at hi <;> cases hi
  unfold Region.linearise
  exact order_ok hA ops.size t _ s s2 accs (by simp) hcl (by rw [hrem]; simp) (by rw [hrem]; exact h) hp

end Go.Am
