/- Part 7 of the proof: Am7. -/
import Derived.Test.YtapedmpbgeoieaaGreatC7p6
set_option linter.unusedSimpArgs false
set_option linter.unusedVariables false
namespace Go.Am
open Go Go.RowKit
set_option linter.unusedSimpArgs false
set_option linter.unusedVariables false
set_option linter.unusedSectionVars false

theorem grownBy_refl (w : World) (r : Option Nat) : w.grownBy w r := ⟨rfl, rfl, rfl, Nat.le_refl _, fun _ _ _ => rfl⟩

theorem app_new {P : Program} (w : World) (base n cap k : Nat) (e : TypeId) (xs : List Value) (z : Array Value) (hz : z.size = k) (hx : xs.length = n * k) (hb : base ≤ w.heap.size) (hc : n ≤ cap) (hm : cap ≤ maxLen) :
    (w.drew.alloc (.cells (xs.toArray ++ Builtin.zeroCells z (cap - n)) e)).ownsRow base e k (.slice (some ⟨w.heap.size, 0, none⟩) n cap) n xs ∧
    w.grownBy (w.drew.alloc (.cells (xs.toArray ++ Builtin.zeroCells z (cap - n)) e)) none := by
  refine ⟨⟨hx, .inr ⟨w.heap.size, cap, _, rfl, hb, Go.heap_alloc_new w.drew _, hc, hm, ?_, ?_⟩⟩, ⟨rfl, rfl, rfl, by simp, fun i hi _ => Go.heap_alloc_old w.drew _ hi⟩⟩
  · simp only [Array.size_append, List.size_toArray, size_zeroCells, hz, hx, ← Nat.add_mul]
    congr 1
    omega
  · simp only [Array.toList_append, ← hx]
    exact List.take_left

theorem app_run {P : Program} (w : World) (base : Nat) (t ty e : TypeId) (i : TypeInfo) (z : Value) (k : Nat) (ht : P.underlying t = some (.slice e)) (hi : P.info? e = some i) (hz : i.zero = some z)
    (hsize : i.size = k) (hzs : z.cells.size = k)
    (v : Value) (n : Nat) (xs : List Value) (hown : w.ownsRow base e k v n xs)
    (A : Option Addr) (m c : Nat) (news : List Value) (hl : news.length = m * k) (hnews : m = 0 ∨ ∃ a, A = some a ∧ ∀ j u, news[j]? = some u → w.cell? (a.add j) = some u) (h1 : ∀ u ∈ news, u.oneCell' = true)
    (h63 : n + m ≤ maxLen) (hbytes : (n + m) * i.bytes ≤ 140737488355328) (hbase : base ≤ w.heap.size) :
    ∃ v' w', (Builtin.append_ #[t, t] ty #[v, .slice A m c]).run P w = .ok v' w' ∧ w'.ownsRow base e k v' (n + m) (xs ++ news) ∧
      ((v'.ownBlock = v.ownBlock ∧ w.grownBy w' v.ownBlock) ∨ (v'.ownBlock = some w.heap.size ∧ w.grownBy w' none)) := by
  subst hsize
  have hsmall : n + m ≤ 9223372036854775807 := by simp only [maxLen] at h63; omega
  have hlen : (xs ++ news).length = (n + m) * i.size := by rw [List.length_append, hown.1, hl, Nat.add_mul]
  rcases hown.2 with ⟨rfl, rfl⟩ | ⟨g, cap, cur, rfl, hbg, hg, hnc, hcm, hcs, htake⟩
  · have hx : xs = [] := List.eq_nil_of_length_eq_zero (by simpa using hown.1)
    subst hx
    rcases hnews with rfl | ⟨a, rfl, hnews⟩
    · have hn : news = [] := List.eq_nil_of_length_eq_zero (by simpa using hl)
      subst hn
      refine ⟨.slice none 0 0, w, ?_, World.ownsRow_nil w base e i.size, .inl ⟨rfl, grownBy_refl _ _⟩⟩
      cases A <;> simp [Builtin.append_, run_underlying ht, Go.sizeOf, typeInfo, hi, Builtin.lenOf, Builtin.firstCells, loadCells, loadCellsFrom]
    · by_cases hm : m = 0
      · subst hm
        have hn : news = [] := List.eq_nil_of_length_eq_zero (by simpa using hl)
        subst hn
        refine ⟨.slice none 0 0, w, ?_, World.ownsRow_nil w base e i.size, .inl ⟨rfl, grownBy_refl _ _⟩⟩
        simp [Builtin.append_, run_underlying ht, Go.sizeOf, typeInfo, hi, Builtin.lenOf, Builtin.firstCells, loadCells, loadCellsFrom]
      · have hr := run_append_nil (P := P) w t ty e i z ht hi hz a m c news hl hnews (by omega) (by omega) (by have hb := hbytes; simp only [Nat.zero_add] at hb; omega)
        obtain ⟨g1, g2⟩ := app_new (P := P) w base m (grownCap w m 0 e) i.size e news z.cells hzs hl hbase (grownCap_ge w m 0 e) (grownCap_le_maxLen w m 0 e (by omega))
        simp only [Nat.zero_add, List.nil_append]
        exact ⟨_, _, hr, g1, .inr ⟨rfl, g2⟩⟩
  · by_cases hm : m = 0
    · subst hm
      have hn : news = [] := List.eq_nil_of_length_eq_zero (by simpa using hl)
      subst hn
      refine ⟨_, w, ?_, by simpa using hown, .inl ⟨rfl, grownBy_refl _ _⟩⟩
      cases A <;> simp [Builtin.append_, run_underlying ht, Go.sizeOf, typeInfo, hi, Builtin.lenOf, Builtin.firstCells, loadCells, loadCellsFrom, hnc, storeCells]
    · obtain ⟨a, rfl, hnews'⟩ := hnews.resolve_left hm
      clear hnews
      have hnews := hnews'
      by_cases hroom : n + m ≤ cap
      · have hfit : n * i.size + news.length ≤ cur.size := by rw [hl, hcs, ← Nat.add_mul]; exact Nat.mul_le_mul_right _ hroom
        have hr := run_append_room (P := P) w t ty e i ht hi g n cap cur hg a m c news hl hnews h1 hroom hfit
        refine ⟨_, _, hr, ⟨hlen, .inr ⟨g, cap, _, rfl, hbg, setRow_heap w g cur _ e _ hg, hroom, hcm, ?_, ?_⟩⟩, .inl ⟨rfl, rfl, rfl, rfl, by simp, fun k _ hk => setRow_other w g k _ (fun e => hk (by simp [Value.ownBlock, e]))⟩⟩
        · simp only [List.size_toArray, List.length_append, List.length_take, List.length_drop, Array.length_toList]
          omega
        · rw [htake, ← hlen]
          exact List.take_left
      · have holds : ∀ j u, xs[j]? = some u → w.cell? ((⟨g, 0, none⟩ : Addr).add j) = some u := hown.cells (g := g) rfl
        have hr := run_append_grow (P := P) w t ty e i z ht hi hz ⟨g, 0, none⟩ n cap xs hown.1 holds a m c news hl hnews (by omega) (by omega) (growslice_fits (by omega) hbytes)
        obtain ⟨g1, g2⟩ := app_new (P := P) w base (n + m) (grownCap w (n + m) cap e) i.size e (xs ++ news) z.cells hzs hlen hbase (grownCap_ge w _ _ e) (grownCap_le_maxLen w _ _ e h63)
        have he : (xs ++ news).toArray = xs.toArray ++ news.toArray := by simp
        rw [he] at g1 g2
        exact ⟨_, _, hr, g1, .inr ⟨rfl, g2⟩⟩

section
variable {P : Program} {el : ST → Nat} {C : Cfg} (hC : COk P el C) {x : X} (hs : Sane x) (hel : x.el = el) {B : List (Nat → Option Nat)} {o : Oper} {ρ : Operand → Value} {e : Operand → AV} (he : ∀ y, R x B (e y) (ρ y))

theorem ownBlock_slice {A : Option Addr} {n c g : Nat} (h : (Value.slice A n c).ownBlock = some g) : ∃ a, A = some a ∧ a.block = g := by
  cases A with
  | none => cases h
  | some a => exact ⟨a, rfl, by simpa [Value.ownBlock] using h⟩

include hs in
theorem app_post {t : ST} {l l' : List t.El} {tok : Tok} {d : Nat} {v u : Value} {w' : World} (hv : SlR x t l tok v) (hne : tok ≠ .none) (hnn : ∀ b, tok ≠ .nn b)
    (hown : w'.ownsRow x.base (x.el t) t.k u (l.length + l'.length) (rowsV t l ++ rowsV t l'))
    (hat : (u.ownBlock = v.ownBlock ∧ x.w.grownBy w' v.ownBlock) ∨ (u.ownBlock = some x.w.heap.size ∧ x.w.grownBy w' none)) : AppPost x (.sl t (l ++ l') (.lab d)) tok .undef u w' := by
  obtain ⟨A, c, rfl, hle, hin, htok⟩ := hv
  have hcells := fun g hg => hown.cells (g := g) hg
  have hub : ∀ g, u.ownBlock = some g → x.base ≤ g ∧ g < w'.heap.size := fun g hg => hown.lt g hg
  -- the blocks of the old row
  have hold : ∀ g, (Value.slice A l.length c).ownBlock = some g → (∃ a, tok = .lab a ∧ x.ow g = some a) ∧ (∀ o, l.length * t.k ≤ o → ¬ x.I g o) ∧ x.base ≤ g ∧ g < x.w.heap.size ∧ (∀ j u, (rowsV t l)[j]? = some u → x.w.cell? ⟨g, j, none⟩ = some u) := by
    intro g hg
    cases tok with
    | none => exact absurd rfl hne
    | cap0 =>
      have htok : Value.slice A l.length c = .slice none 0 0 := htok
      rw [htok] at hg
      cases hg
    | nn b => exact absurd rfl (hnn b)
    | lab a =>
      obtain ⟨h1, h2⟩ := htok
      obtain ⟨h3, h4⟩ := h2 g hg
      exact ⟨⟨a, rfl, h3⟩, h4, (h1.lt g hg).1, (h1.lt g hg).2, fun j u hj => by simpa [Addr.add_lit] using h1.cells (g := g) hg j u hj⟩
  have hgrow : x.w.grownBy w' (Value.slice A l.length c).ownBlock := by
    rcases hat with ⟨_, h⟩ | ⟨_, h⟩
    · exact h
    · exact ⟨h.os, h.tape, h.output, h.size, fun k hk _ => h.block k hk (by simp)⟩
  have hblk : ∀ b, b < x.w.heap.size → (∀ a, x.ow b = some a → tok ≠ .lab a) → w'.heap[b]? = x.w.heap[b]? := by
    intro b hb hn
    refine hgrow.block b hb fun hg => ?_
    obtain ⟨⟨a, h1, h2⟩, _⟩ := hold b hg.symm
    exact hn a h2 h1
  have hnotown : ∀ b, b < x.w.heap.size → (∀ a, x.ow b = some a → tok ≠ .lab a) → u.ownBlock ≠ some b := by
    intro b hb hn hu
    rcases hat with ⟨h, _⟩ | ⟨h, _⟩
    · obtain ⟨⟨a, h1, h2⟩, _⟩ := hold b (by rw [← h]; exact hu)
      exact hn a h2 h1
    · rw [h] at hu; cases hu; omega
  have hul : ∀ g, u.ownBlock = some g → ∀ o, x.I g o → o < l.length * t.k := by
    intro g hg o ho
    rcases hat with ⟨h, _⟩ | ⟨h, _⟩
    · obtain ⟨_, h1, _⟩ := hold g (by rw [← h]; exact hg)
      rcases Nat.lt_or_ge o (l.length * t.k) with h2 | h2
      · exact h2
      · exact absurd ho (h1 o h2)
    · rw [h] at hg; cases hg
      exact absurd (hs.lt _ o ho) (by omega)
  let x' : X := ⟨w', fun b o => x.I b o ∨ (u.ownBlock = some b ∧ o < (l.length + l'.length) * t.k), fun b => if u.ownBlock = some b then some d else x.ow b, x.vo, x.el, x.base⟩
  have hlen : (rowsV t (l ++ l')).length = (l.length + l'.length) * t.k := by rw [rowsV_len, List.length_append]
  refine ⟨x', rfl, ⟨rfl, rfl, fun b o hI => ⟨.inl hI, ?_⟩, fun b a how hna => ?_, fun _ _ => rfl⟩, ⟨hgrow.os, hgrow.tape, hgrow.output, hgrow.size, fun k hk => ?_⟩, ⟨?_, ?_, ?_⟩, ?_, ?_, fun _ => ?_, fun _ _ _ _ _ => trivial⟩
  · -- kept cells
    have hb := hs.lt b o hI
    by_cases hg : (Value.slice A l.length c).ownBlock = some b
    · obtain ⟨_, h1, _, _, h2⟩ := hold b hg
      have ho : o < l.length * t.k := by
        rcases Nat.lt_or_ge o (l.length * t.k) with h3 | h3
        · exact h3
        · exact absurd hI (h1 o h3)
      rcases hat with ⟨h, _⟩ | ⟨_, h⟩
      · have hlt : o < (rowsV t l).length := by rw [rowsV_len]; exact ho
        rw [h2 o _ (List.getElem?_eq_getElem hlt)]
        have := hcells b (h.trans hg) o (rowsV t l)[o] (by rw [List.getElem?_append_left hlt]; exact List.getElem?_eq_getElem hlt)
        simpa [Addr.add_lit] using this
      · exact World.cell?_of_block (a := ⟨b, o, none⟩) (h.block b hb (by simp))
    · exact World.cell?_of_block (a := ⟨b, o, none⟩) (hgrow.block b hb fun h => hg h.symm)
  · have hb := (hs.owlt b a how).1
    have hn : ∀ a, x.ow b = some a → tok ≠ .lab a := fun a' h' e => by rw [how] at h'; cases h'; exact hna e
    have h1 := hnotown b hb hn
    exact ⟨by simp only [x', if_neg h1]; exact how, hblk b hb hn, fun o' ho' => ho'.elim id fun h => absurd h.1 h1⟩
  · exact hgrow.block k (Nat.lt_of_lt_of_le hk hs.base) fun hg => by
      obtain ⟨_, _, h, _⟩ := hold k hg.symm
      omega
  · rintro b o' (h | h)
    · exact Nat.lt_of_lt_of_le (hs.lt b o' h) hgrow.size
    · exact (hub b h.1).2
  · intro b a h
    simp only [x'] at h
    split at h
    · rename_i hb
      exact ⟨(hub b hb).2, (hub b hb).1⟩
    · exact ⟨Nat.lt_of_lt_of_le (hs.owlt b a h).1 hgrow.size, (hs.owlt b a h).2⟩
  · exact Nat.le_trans hs.base hgrow.size
  · intro b hb hn
    have h1 := hnotown b hb hn
    exact ⟨by simp only [x', if_neg h1], hblk b hb hn, fun o' ho' => ho'.elim id fun h => absurd h.1 h1⟩
  · rintro b o' (h | h)
    · exact .inl h
    · exact .inr (hub b h.1).1
  · rw [← rowsV_app] at hown hcells
    have hat' : ∀ g, u.ownBlock = some g → At x' g 0 (rowsV t (l ++ l')) := fun g hg j v hj => by
      have hj' : j < (l.length + l'.length) * t.k := by
        rw [← hlen]
        rcases Nat.lt_or_ge j (rowsV t (l ++ l')).length with h | h
        · exact h
        · rw [List.getElem?_eq_none h] at hj; cases hj
      rw [Nat.zero_add]
      exact ⟨.inr ⟨hg, hj'⟩, by simpa [Addr.add_lit] using hcells g hg j v hj⟩
    have htok' : TokR x' t (l ++ l').length (rowsV t (l ++ l')) u (.lab d) := by
      refine ⟨by rw [List.length_append]; exact hown, fun b hb => ⟨by simp only [x', if_pos hb], fun o' ho' hI => ?_⟩⟩
      rw [List.length_append] at ho'
      rcases hI with hI | hI
      · have := hul b hb o' hI
        rw [Nat.add_mul] at ho'
        omega
      · omega
    rcases hown.2 with ⟨rfl, hz⟩ | ⟨g, cap, cur, rfl, hbg, hg, hnc, hcm, hcs, htake⟩
    · exact ⟨none, 0, by rw [List.length_append, hz], by rw [List.length_append, hz]; exact Nat.le_refl _, .inl (by rw [List.length_append, hz]; simp), htok'⟩
    · exact ⟨_, cap, by rw [List.length_append], by rw [List.length_append]; exact hnc, .inr ⟨g, 0, rfl, hat' g rfl⟩, htok'⟩

include hC hs hel he in
theorem act_app {t d : Nat} {y z : Operand} {args : Array Operand} {at' : Array TypeId} (ho : o.op = .call { callee := .builtin .append, args := args, argTypes := at' }) (ha : args.toList = [y, z]) (ht : at'.toList = [t, t])
    {α : Type} {K : Action → Option α} {r : α} (h : appA C t d (e y) (e z) K = some r) : ∃ a, K a = some r ∧ ActOk P x B o ρ a := by
  have hy := nrm_ok (C := C) (t := t) (he y)
  have hz := nrm_ok (C := C) (t := t) (he z)
  unfold appA at h
  split at h
  · rename_i st l tok st' l' tok' e1 e2
    rw [e1] at hy; rw [e2] at hz
    have main : tok ≠ .none → (∀ b, tok ≠ .nn b) → ∀ (hst : st' = st), (if slT C t st then cond (decide ((l.length + l'.length) * ((look t C.ty).map (·.ebytes)).getD 0 ≤ 70368744177664)) (K (.app (.sl st (l ++ (hst ▸ l')) (.lab d)) tok .undef)) none else none) = some r → ∃ a, K a = some r ∧ ActOk P x B o ρ a := by
      intro hne hnn hst h
      subst hst
      split at h
      · rename_i hT
        obtain ⟨ti, hl, hsl, heb, hu, i', z', hi, hsz, hby, hz1, hz2⟩ := slT_info hC hT
        rcases cond_some h with ⟨h1, h2⟩ | ⟨_, h2⟩
        · have h1 : (l.length + l'.length) * ti.ebytes ≤ 70368744177664 := by simpa [hl] using of_decide_eq_true h1
          have h3 : l.length + l'.length ≤ (l.length + l'.length) * ti.ebytes := Nat.le_mul_of_pos_right _ (Nat.pos_of_ne_zero heb)
          refine ⟨_, h2, ?_⟩
          have hy0 := hy
          have hz0 := hz
          obtain ⟨A, c, f1, f2, f3, f4⟩ := hy
          obtain ⟨A', c', g1, g2, g3, g4⟩ := hz
          have hown : x.w.ownsRow x.base (x.el st') st'.k (ρ y) l.length (rowsV st' l) := by
            cases tok with
            | none => exact absurd rfl hne
            | cap0 =>
              have f4 : ρ y = .slice none 0 0 := f4
              have : l.length = 0 := by rw [f1] at f4; injection f4
              have : l = [] := List.eq_nil_of_length_eq_zero this
              subst this
              rw [f4]; exact World.ownsRow_nil _ _ _ _
            | lab a => exact f4.1
            | nn b => exact absurd rfl (hnn b)
          rw [hel] at hown
          have hsrc : l'.length = 0 ∨ ∃ a, A' = some a ∧ ∀ j u, (rowsV st' l')[j]? = some u → x.w.cell? (a.add j) = some u := by
            rcases g3 with g3 | ⟨b, oo, rfl, g3⟩
            · have := st_k_pos st'
              rcases Nat.mul_eq_zero.1 g3 with h | h
              · exact .inl h
              · omega
            · exact .inr ⟨_, rfl, fun j u hj => by simpa [Addr.add_lit] using (g3 j u hj).2⟩
          obtain ⟨u, w', hr, ho1, ho2⟩ := app_run (P := P) x.w x.base t o.type (el st') i' z' st'.k hu hi hz1 hsz hz2 (ρ y) l.length (rowsV st' l) hown A' l'.length c' (rowsV st' l') (rowsV_len _ _) hsrc (rowsV_one _ _) (by simp only [maxLen]; omega) (by rw [hby]; omega) hs.base
          refine .inl ⟨u, w', ?_, app_post hs hy0 hne hnn (by rw [hel]; exact ho1) ho2⟩
          rw [arr_two ha, arr_two ht] at ho
          rw [← g1] at hr
          simp [execOp, ho, resolve, invoke, builtin, hr]
        · cases h2
      · cases h
    cases tok with
    | none => cases h
    | nn => cases h
    | cap0 =>
      dsimp only at h
      split at h
      · rename_i hst
        exact main (by simp) (by simp) hst h
      · cases h
    | lab a =>
      dsimp only at h
      split at h
      · rename_i hst
        exact main (by simp) (by simp) hst h
      · cases h
  · rename_i st l lb st' l' tok' e1 e2
    rw [e1] at hy; rw [e2] at hz
    split at h
    · rename_i hst
      subst hst
      split at h
      · rename_i hT
        obtain ⟨ti, hl, hsl, heb, hu, i', z', hi, hsz, hby, hz1, hz2⟩ := slT_info hC hT
        rcases cond_some h with ⟨h1, h2⟩ | ⟨_, h2⟩
        · have h1 : (l.length + l'.length) * ti.ebytes ≤ 70368744177664 := by simpa [hl] using of_decide_eq_true h1
          have h3 : l.length + l'.length ≤ (l.length + l'.length) * ti.ebytes := Nat.le_mul_of_pos_right _ (Nat.pos_of_ne_zero heb)
          refine ⟨_, h2, ?_⟩
          have hy0 : OwnR x st' l lb (ρ y) := hy
          obtain ⟨A', c', g1, g2, g3, g4⟩ := hz
          have hown := hy0.2.1
          rw [hel] at hown
          have hsrc : l'.length = 0 ∨ ∃ a, A' = some a ∧ ∀ j u, (rowsV st' l')[j]? = some u → x.w.cell? (a.add j) = some u := by
            rcases g3 with g3 | ⟨b, oo, rfl, g3⟩
            · have := st_k_pos st'
              rcases Nat.mul_eq_zero.1 g3 with h | h
              · exact .inl h
              · omega
            · exact .inr ⟨_, rfl, fun j u hj => by simpa [Addr.add_lit] using (g3 j u hj).2⟩
          obtain ⟨u, w', hr, ho1, ho2⟩ := app_run (P := P) x.w x.base t o.type (el st') i' z' st'.k hu hi hz1 hsz hz2 (ρ y) l.length (rowsV st' l) hown A' l'.length c' (rowsV st' l') (rowsV_len _ _) hsrc (rowsV_one _ _) (by simp only [maxLen]; omega) (by rw [hby]; omega) hs.base
          refine .inl ⟨u, w', ?_, own_step hs hy0 (by rw [hel, List.length_append, rowsV_app]; exact ho1) ?_ ?_⟩
          · rw [arr_two ha, arr_two ht] at ho
            rw [← g1] at hr
            simp [execOp, ho, resolve, invoke, builtin, hr]
          · rcases ho2 with ⟨_, h⟩ | ⟨_, h⟩
            · exact h
            · exact ⟨h.os, h.tape, h.output, h.size, fun k hk _ => h.block k hk (by simp)⟩
          · rcases ho2 with ⟨h, _⟩ | ⟨h, _⟩
            · exact .inl h
            · exact .inr ⟨_, h, Nat.le_refl _⟩
        · cases h2
      · cases h
    · cases h
  · cases h
end
end Go.Am
