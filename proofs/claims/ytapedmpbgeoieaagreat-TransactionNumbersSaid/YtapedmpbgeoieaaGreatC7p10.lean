/- Part 10 of the proof: Am10. -/
import Derived.Test.YtapedmpbgeoieaaGreatC7p9
set_option linter.unusedSimpArgs false
set_option linter.unusedVariables false
namespace Go.Am
open Go Go.RowKit
set_option linter.unusedSimpArgs false
set_option linter.unusedVariables false
set_option linter.unusedSectionVars false

abbrev BM := Nat → Option Nat

/-- The boxes of a frame. -/
def BxR (x : X) (Bs : List BM) (β : BM) (bx : List (List AV)) : Prop :=
  ∀ d, (β d = none → bx.getD d [] = []) ∧ ∀ b, β d = some b → bx.getD d [] ≠ [] ∧ x.base ≤ b ∧ x.ow b = none ∧ (∀ o, ¬ x.I b o) ∧
    ∃ cur ty, x.w.heap[b]? = some (.cells cur ty (0, 0)) ∧ Rs x Bs (bx.getD d []) cur.toList ∧ ∀ u ∈ cur.toList, u.oneCell' = true

def FrsR (x : X) : List BM → List Fr → List (List Value) → Prop
  | [], [], [] => True
  | β :: B, fr :: frs, ts :: tss => Rs x (β :: B) fr.tmps ts ∧ BxR x (β :: B) β fr.bx ∧ FrsR x B frs tss
  | _, _, _ => False

def Inj (B : List BM) : Prop := ∀ (j j' : Nat) d d' b β β', B[j]? = some β → B[j']? = some β' → β d = some b → β' d' = some b → j = j' ∧ d = d'

theorem Inj.tail {β : BM} {B : List BM} (h : Inj (β :: B)) : Inj B := fun j j' d d' b γ γ' h1 h2 h3 h4 => by
  have := h (j + 1) (j' + 1) d d' b γ γ' (by simpa using h1) (by simpa using h2) h3 h4
  exact ⟨by omega, this.2⟩

/-- What the boxes need of a step. -/
structure Kept (x x' : X) : Prop where
  base : x'.base = x.base
  old : ∀ b, b < x.w.heap.size → x.ow b = none → x'.ow b = none ∧ x'.w.heap[b]? = x.w.heap[b]? ∧ ∀ o, x'.I b o → x.I b o

def Fr.mapf (f : AV → AV) (fr : Fr) : Fr := { fr with tmps := fr.tmps.map f, bx := fr.bx.map fun b => b.map f }
theorem Fr.mapf_id (fr : Fr) : fr.mapf id = fr := by
  cases fr; simp [Fr.mapf]

theorem getD_mapf (bx : List (List AV)) (f : AV → AV) (d : Nat) : (bx.map fun b => b.map f).getD d [] = (bx.getD d []).map f := by
  simp only [List.getD_eq_getElem?_getD, List.getElem?_map]
  cases bx[d]? <;> simp

theorem BxR.mono {x x' Bs Bs' β bx} (f : AV → AV) (hf : ∀ c u, R x Bs c u → R x' Bs' (f c) u) (hk : Kept x x') (h : BxR x Bs β bx) : BxR x' Bs' β (bx.map fun b => b.map f) := by
  intro d
  rw [getD_mapf]
  refine ⟨fun hd => by rw [(h d).1 hd]; rfl, fun b hb => ?_⟩
  obtain ⟨h1, h2, h3, h4, cur, ty, h5, h6, h7⟩ := (h d).2 b hb
  obtain ⟨k1, k2, k3⟩ := hk.old b (lt_of_heap h5) h3
  exact ⟨by simpa using h1, by rw [hk.base]; exact h2, k1, fun o ho => h4 o (k3 o ho), cur, ty, k2.trans h5, Rs_map f h6 fun c u _ => hf c u, h7⟩

theorem FrsR.mono {x x'} (f : AV → AV) (hf : ∀ B c u, R x B c u → R x' B (f c) u) (hk : Kept x x') : ∀ {B frs tss}, FrsR x B frs tss → FrsR x' B (frs.map (Fr.mapf f)) tss
  | [], [], [], _ => trivial
  | β :: B, fr :: frs, ts :: tss, h => ⟨Rs_map f h.1 fun c u _ => hf _ c u, BxR.mono f (hf _) hk h.2.1, FrsR.mono f hf hk h.2.2⟩
  | [], _ :: _, _, h => by cases h
  | [], [], _ :: _, h => by cases h
  | _ :: _, [], _, h => by cases h
  | _ :: _, _ :: _, [], h => by cases h

theorem FrsR.evo {x x'} (hf : ∀ B c u, R x B c u → R x' B c u) (hk : Kept x x') {B frs tss} (h : FrsR x B frs tss) : FrsR x' B frs tss := by
  have := FrsR.mono id hf hk h
  rwa [show (Fr.mapf id) = id from funext Fr.mapf_id, List.map_id] at this

theorem FrsR.block {x} : ∀ {B frs tss}, FrsR x B frs tss → ∀ (j : Nat) β d b, B[j]? = some β → β d = some b → b < x.w.heap.size ∧ x.base ≤ b ∧ x.ow b = none ∧ ∀ o, ¬ x.I b o
  | [], _, _, _, j, β, d, b, hj, _ => by simp at hj
  | β0 :: B, fr :: frs, ts :: tss, h, j, β, d, b, hj, hb => by
    cases j with
    | zero =>
      have : β0 = β := by simpa using hj
      subst this
      obtain ⟨h1, h2, h3, h4, cur, ty, h5, _⟩ := (h.2.1 d).2 b hb
      exact ⟨lt_of_heap h5, h2, h3, h4⟩
    | succ j => exact FrsR.block h.2.2 j β d b (by simpa using hj) hb
  | _ :: _, [], _, h, _, _, _, _, _, _ => by cases h
  | _ :: _, _ :: _, [], h, _, _, _, _, _, _ => by cases h

structure Sim (w0 : World) (I0 : Nat → Nat → Prop) (el : ST → Nat) (x : X) (B : List BM) (frs : List Fr) (tss : List (List Value)) : Prop where
  sane : Sane x
  base : x.base = w0.heap.size
  elq : x.el = el
  below : Below w0.heap.size w0 x.w
  keep : ∀ b o, I0 b o → x.I b o
  new : ∀ b o, x.I b o → I0 b o ∨ w0.heap.size ≤ b
  inj : Inj B
  frs : FrsR x B frs tss

/-! ### Reading -/
theorem cell_of_heap {w : World} {b o : Nat} {cur : Array Value} {ty : Nat} {fr : Nat × Nat} (h : w.heap[b]? = some (.cells cur ty fr)) : w.cell? ⟨b, o, none⟩ = cur.toList[o]? := by
  simp [World.cell?, h]

theorem takeN_ok {x B} {sz off : Nat} {cs l : List AV} {us : List Value} (h : takeN sz off cs = some l) (hr : Rs x B cs us) : Rs x B l ((us.drop off).take sz) ∧ ((us.drop off).take sz).length = sz := by
  unfold takeN at h
  dsimp only at h
  split at h
  · rename_i hl
    cases h
    have h1 := Rs_take (Rs_drop hr off) sz
    exact ⟨h1, by rw [Rs_len h1]; simpa using hl⟩
  · cases h

theorem FrsR.get {x} : ∀ {B frs tss}, FrsR x B frs tss → ∀ (j : Nat) β, B[j]? = some β → ∃ fr, frs[j]? = some fr ∧ BxR x (B.drop j) β fr.bx
  | [], _, _, _, j, β, hj => by simp at hj
  | β0 :: B, fr :: frs, ts :: tss, h, j, β, hj => by
    cases j with
    | zero =>
      have : β0 = β := by simpa using hj
      subst this
      exact ⟨fr, rfl, h.2.1⟩
    | succ j => simpa using FrsR.get h.2.2 j β (by simpa using hj)
  | _ :: _, [], _, h, _, _, _ => by cases h
  | _ :: _, _ :: _, [], h, _, _, _ => by cases h

theorem drop_part {cur : List Value} {off sz : Nat} {w : World} {b : Nat} (hc : ∀ (j : Nat) u, cur[j]? = some u → w.cell? ⟨b, j, none⟩ = some u) : ∀ (j : Nat) u, ((cur.drop off).take sz)[j]? = some u → w.cell? ⟨b, off + j, none⟩ = some u := by
  intro j u hj
  rw [List.getElem?_take] at hj
  split at hj
  · rw [List.getElem?_drop] at hj
    exact hc _ u hj
  · cases hj

theorem rowR (x : X) (B) (t : ST) (e : t.El) : Rs x B (t.row e) (rowV t e) := by
  cases t <;> simp [ST.row, rowV, Rs, R]

theorem readP_ok {x : X} {β : BM} {B : List BM} {fr : Fr} {cs : List Fr} {tss} (h : FrsR x (β :: B) (fr :: cs) tss) {p : AV} {pv : Value} (hp : R x (β :: B) p pv) {sz : Nat} {l : List AV} (hl : readP fr cs p sz = some l) :
    ∃ b off us, pv = .pointer (some ⟨b, off, none⟩) ∧ us.length = sz ∧ (∀ (j : Nat) u, us[j]? = some u → x.w.cell? ⟨b, off + j, none⟩ = some u) ∧ Rs x (β :: B) l us ∧ ∀ u ∈ us, u.oneCell' = true := by
  have hone : ∀ {cur : List Value} {off : Nat}, (∀ u ∈ cur, u.oneCell' = true) → ∀ u ∈ (cur.drop off).take sz, u.oneCell' = true := fun h u hu => h u (List.mem_of_mem_drop (List.mem_of_mem_take hu))
  unfold readP at hl
  split at hl
  · rename_i d off
    obtain ⟨γ, b, h1, h2, rfl⟩ := hp
    obtain ⟨fr', h3, h4⟩ := FrsR.get h 0 γ h1
    have : fr = fr' := by simpa using h3
    subst this
    obtain ⟨_, _, _, _, cur, ty, h5, h6, h7⟩ := (h4 d).2 b h2
    obtain ⟨h8, h9⟩ := takeN_ok hl h6
    exact ⟨b, off, _, rfl, h9, drop_part fun j u hj => by rw [cell_of_heap h5]; exact hj, h8, hone h7⟩
  · rename_i u d off
    split at hl
    · rename_i c hc
      obtain ⟨γ, b, h1, h2, rfl⟩ := hp
      obtain ⟨fr', h3, h4⟩ := FrsR.get h (u + 1) γ h1
      have : c = fr' := by
        have h3 : cs[u]? = some fr' := by simpa using h3
        rw [hc] at h3; exact Option.some.inj h3
      subst this
      obtain ⟨_, _, _, _, cur, ty, h5, h6, h7⟩ := (h4 d).2 b h2
      obtain ⟨l', hl', rfl⟩ := Option.map_eq_some_iff.1 hl
      obtain ⟨h8, h9⟩ := takeN_ok hl' h6
      refine ⟨b, off, _, rfl, h9, drop_part fun j u hj => by rw [cell_of_heap h5]; exact hj, ?_, hone h7⟩
      have hlt : u + 1 < (β :: B).length := by
        rcases Nat.lt_or_ge (u + 1) (β :: B).length with h | h
        · exact h
        · rw [List.getElem?_eq_none h] at h1; cases h1
      have hlen : ((β :: B).take (u + 1)).length = u + 1 := by rw [List.length_take]; omega
      refine Rs_map _ h8 fun c' v _ hv => ?_
      have := R.shift ((β :: B).take (u + 1)) ((β :: B).drop (u + 1)) D c' v hv
      rwa [List.take_append_drop, hlen] at this
    · cases hl
  · rename_i t e off
    obtain ⟨b, o, rfl, h1⟩ := hp
    obtain ⟨h8, h9⟩ := takeN_ok hl (rowR x (β :: B) t e)
    refine ⟨b, o + off, _, rfl, h9, ?_, h8, hone (rowV_one t e)⟩
    intro j u hj
    rw [List.getElem?_take] at hj
    split at hj
    · rw [List.getElem?_drop] at hj
      rw [Nat.add_assoc]
      exact (h1 _ u hj).2
    · cases hj
  · rename_i cells off
    obtain ⟨b, us, rfl, h1, h2⟩ := hp
    obtain ⟨h8, h9⟩ := takeN_ok hl h2
    exact ⟨b, off, _, rfl, h9, drop_part fun j u hj => by have := (h1.1 j u hj).2; rwa [Nat.zero_add] at this, h8, hone h1.2⟩
  · rename_i t e _ i off
    obtain ⟨b, c, hown, hi, rfl⟩ := hp
    have hg : e.getD i t.dflt = e[i] := by rw [List.getD_eq_getElem?_getD, List.getElem?_eq_getElem hi]; rfl
    rw [hg] at hl
    obtain ⟨h8, h9⟩ := takeN_ok hl (rowR x (β :: B) t e[i])
    refine ⟨b, i * t.k + off, _, rfl, h9, ?_, h8, hone (rowV_one t _)⟩
    intro j u hj
    rw [List.getElem?_take] at hj
    split at hj
    · rw [List.getElem?_drop] at hj
      have := hown.2.1.cells (g := b) rfl _ u (rowsV_at t e i e[i] (List.getElem?_eq_getElem hi) (off + j) u hj)
      simpa [Addr.add_lit, Nat.add_assoc] using this
    · cases hj
  · cases hl

/-! ### Writing -/
theorem FrsR.other {x x' : X} {b : Nat} (hev : ∀ B c u, R x B c u → R x' B c u) (hbase : x'.base = x.base) (how : x'.ow = x.ow) (hI : x'.I = x.I) (hh : ∀ k, k ≠ b → x'.w.heap[k]? = x.w.heap[k]?) :
    ∀ {B frs tss}, FrsR x B frs tss → (∀ (j : Nat) β d b', B[j]? = some β → β d = some b' → b' ≠ b) → FrsR x' B frs tss
  | [], [], [], _, _ => trivial
  | β :: B, fr :: frs, ts :: tss, h, hn => by
    refine ⟨?_, fun d => ⟨(h.2.1 d).1, fun b' hb' => ?_⟩, FrsR.other hev hbase how hI hh h.2.2 fun j γ d b' hj hb' => hn (j + 1) γ d b' (by simpa using hj) hb'⟩
    · have := Rs_map id h.1 fun c u _ => hev (β :: B) c u
      simpa using this
    · obtain ⟨h1, h2, h3, h4, cur, ty, h5, h6, h7⟩ := (h.2.1 d).2 b' hb'
      have := Rs_map id h6 fun c u _ => hev (β :: B) c u
      exact ⟨h1, by rw [hbase]; exact h2, by rw [how]; exact h3, by rw [hI]; exact h4, cur, ty, (hh b' (hn 0 β d b' rfl hb')).trans h5, by simpa using this, h7⟩
  | [], _ :: _, _, h, _ => by cases h
  | [], [], _ :: _, h, _ => by cases h
  | _ :: _, [], _, h, _ => by cases h
  | _ :: _, _ :: _, [], h, _ => by cases h

theorem getD_set (bx : List (List AV)) (d d' : Nat) (l : List AV) (hd : d < bx.length) : (bx.set d l).getD d' [] = if d = d' then l else bx.getD d' [] := by
  simp only [List.getD_eq_getElem?_getD, List.getElem?_set]
  by_cases h : d = d'
  · subst h; simp [hd]
  · simp [h]

theorem lt_of_getD {bx : List (List AV)} {d : Nat} (h : bx.getD d [] ≠ []) : d < bx.length := by
  rcases Nat.lt_or_ge d bx.length with h1 | h1
  · exact h1
  · rw [List.getD_eq_getElem?_getD, List.getElem?_eq_none h1] at h; exact absurd rfl h

theorem FrsR.store {x x' : X} {b : Nat} (hev : ∀ B c u, R x B c u → R x' B c u) (hbase : x'.base = x.base) (how : x'.ow = x.ow) (hI : x'.I = x.I) (hh : ∀ k, k ≠ b → x'.w.heap[k]? = x.w.heap[k]?)
    {row : List Value} {ty : Nat} (hb : x'.w.heap[b]? = some (.cells row.toArray ty (0, 0))) (h1 : ∀ u ∈ row, u.oneCell' = true) {l : List AV} (hne : l ≠ []) :
    ∀ {B frs tss}, FrsR x B frs tss → Inj B → ∀ (j : Nat) β d fr, B[j]? = some β → β d = some b → frs[j]? = some fr → Rs x' (B.drop j) l row → FrsR x' B (frs.set j { fr with bx := fr.bx.set d l }) tss
  | [], _, _, _, _, j, β, d, fr, hj, _, _, _ => by simp at hj
  | β0 :: B, fr0 :: frs, ts :: tss, h, inj, j, β, d, fr, hj, hd, hfr, hrow => by
    have hRs : ∀ {cs us}, Rs x (β0 :: B) cs us → Rs x' (β0 :: B) cs us := fun hr => by
      have := Rs_map id hr fun c u _ => hev (β0 :: B) c u
      simpa using this
    cases j with
    | zero =>
      have : β0 = β := by simpa using hj
      subst this
      have : fr0 = fr := by simpa using hfr
      subst this
      refine ⟨hRs h.1, fun d' => ?_, FrsR.other hev hbase how hI hh h.2.2 fun j γ d' b' hj' hb' e => ?_⟩
      · have hlt := lt_of_getD ((h.2.1 d).2 b hd).1
        dsimp only
        rw [getD_set _ _ _ _ hlt]
        by_cases e : d = d'
        · subst e
          rw [if_pos rfl]
          refine ⟨fun hn => absurd (hn.symm.trans hd) (by simp), fun b' hb' => ?_⟩
          have hb' : b = b' := by rw [hd] at hb'; exact Option.some.inj hb'
          subst hb'
          obtain ⟨_, h2, h3, h4, _⟩ := (h.2.1 d).2 b hd
          exact ⟨hne, by rw [hbase]; exact h2, by rw [how]; exact h3, by rw [hI]; exact h4, row.toArray, ty, hb, hrow, h1⟩
        · rw [if_neg e]
          refine ⟨(h.2.1 d').1, fun b' hb' => ?_⟩
          obtain ⟨k1, k2, k3, k4, cur, ty', k5, k6, k7⟩ := (h.2.1 d').2 b' hb'
          have hbb : b' ≠ b := fun eb => e (inj 0 0 d d' b β0 β0 rfl rfl hd (eb ▸ hb')).2
          exact ⟨k1, by rw [hbase]; exact k2, by rw [how]; exact k3, by rw [hI]; exact k4, cur, ty', (hh b' hbb).trans k5, hRs k6, k7⟩
      · subst e
        have := (inj 0 (j + 1) d d' b' β0 γ rfl (by simpa using hj') hd hb').1
        omega
    | succ j =>
      refine ⟨hRs h.1, fun d' => ⟨(h.2.1 d').1, fun b' hb' => ?_⟩, FrsR.store hev hbase how hI hh hb h1 hne h.2.2 inj.tail j β d fr (by simpa using hj) hd (by simpa using hfr) (by simpa using hrow)⟩
      obtain ⟨k1, k2, k3, k4, cur, ty', k5, k6, k7⟩ := (h.2.1 d').2 b' hb'
      have hbb : b' ≠ b := fun eb => by
        have := (inj 0 (j + 1) d' d b β0 β rfl hj (eb ▸ hb') hd).1
        omega
      exact ⟨k1, by rw [hbase]; exact k2, by rw [how]; exact k3, by rw [hI]; exact k4, cur, ty', (hh b' hbb).trans k5, hRs k6, k7⟩
  | _ :: _, [], _, h, _, _, _, _, _, _, _, _, _ => by cases h
  | _ :: _, _ :: _, [], h, _, _, _, _, _, _, _, _, _ => by cases h

theorem putN_ok {x B} {off : Nat} {vs cs : List AV} {us cur : List Value} (h : Rs x B vs us) (hc : Rs x B cs cur) : Rs x B (putN off vs cs) (cur.take off ++ us ++ cur.drop (off + us.length)) := by
  unfold putN
  rw [List.append_assoc, Rs_len h]
  exact Rs_app (Rs_take hc off) (Rs_app h (Rs_drop hc _))

theorem drop_get {B : List BM} {u : Nat} {β : BM} (h : B[u]? = some β) : ∃ B1, B.drop u = β :: B1 ∧ (B.take u).length = u := by
  have hlt : u < B.length := by
    rcases Nat.lt_or_ge u B.length with h' | h'
    · exact h'
    · rw [List.getElem?_eq_none h'] at h; cases h
  refine ⟨B.drop (u + 1), ?_, by rw [List.length_take]; omega⟩
  rw [List.drop_eq_getElem_cons hlt]
  rw [List.getElem?_eq_getElem hlt] at h
  rw [Option.some.inj h]

/-- What a write does. -/
theorem writeP_ok {w0 I0 el} {x : X} {β : BM} {B : List BM} {fr : Fr} {cs : List Fr} {tss} (S : Sim w0 I0 el x (β :: B) (fr :: cs) tss) {p : AV} {pv : Value} (hp : R x (β :: B) p pv) {vs : List AV} {us : List Value} (hv : Rs x (β :: B) vs us) (h1 : ∀ u ∈ us, u.oneCell' = true)
    {fr' : Fr} {cs' : List Fr} (hw : writeP fr cs p vs = some (fr', cs')) :
    ∃ b off cur ty, pv = .pointer (some ⟨b, off, none⟩) ∧ x.w.heap[b]? = some (.cells cur ty (0, 0)) ∧ off + us.length ≤ cur.size ∧
      Sim w0 I0 el { x with w := x.w.setRow b (cur.toList.take off ++ us ++ cur.toList.drop (off + us.length)).toArray } (β :: B) (fr' :: cs') tss := by
  have main : ∀ (u d off b : Nat) (γ : BM) (c : Fr) (vs' : List AV), (β :: B)[u]? = some γ → γ d = some b → (fr :: cs)[u]? = some c → off + vs'.length ≤ (c.bx.getD d []).length →
      Rs x ((β :: B).drop u) vs' us → ∃ cur ty, x.w.heap[b]? = some (.cells cur ty (0, 0)) ∧ off + us.length ≤ cur.size ∧
      Sim w0 I0 el { x with w := x.w.setRow b (cur.toList.take off ++ us ++ cur.toList.drop (off + us.length)).toArray } (β :: B) ((fr :: cs).set u { c with bx := c.bx.set d (putN off vs' (c.bx.getD d [])) }) tss := by
    intro u d off b γ c vs' hγ hb hc hle hvs
    obtain ⟨c', hc', hbx⟩ := FrsR.get S.frs u γ hγ
    have : c = c' := by rw [hc] at hc'; exact Option.some.inj hc'
    subst this
    obtain ⟨hne, h2, h3, h4, cur, ty, h5, h6, h7⟩ := (hbx d).2 b hb
    have hlen := Rs_len h6
    have hlv := Rs_len hvs
    have hfit : off + us.length ≤ cur.size := by
      have : cur.toList.length = cur.size := by simp
      omega
    have hlt := lt_of_heap h5
    refine ⟨cur, ty, h5, hfit, ?_⟩
    have hsame := setRow_heap x.w b cur (cur.toList.take off ++ us ++ cur.toList.drop (off + us.length)).toArray ty (0, 0) h5
    have hoth : ∀ k, k ≠ b → (x.w.setRow b (cur.toList.take off ++ us ++ cur.toList.drop (off + us.length)).toArray).heap[k]? = x.w.heap[k]? := fun k hk => setRow_other x.w b k _ hk
    have hsize : (x.w.setRow b (cur.toList.take off ++ us ++ cur.toList.drop (off + us.length)).toArray).heap.size = x.w.heap.size := by simp
    have hcellne : ∀ b' o, b' ≠ b → (x.w.setRow b (cur.toList.take off ++ us ++ cur.toList.drop (off + us.length)).toArray).cell? ⟨b', o, none⟩ = x.w.cell? ⟨b', o, none⟩ := fun b' o hk => World.cell?_of_block (a := ⟨b', o, none⟩) (hoth b' hk)
    have hev : Evo (fun _ => False) x { x with w := x.w.setRow b (cur.toList.take off ++ us ++ cur.toList.drop (off + us.length)).toArray } :=
      ⟨rfl, rfl, fun b' o hI => ⟨hI, hcellne b' o fun e => h4 o (e ▸ hI)⟩, fun b' a ha _ => ⟨ha, hoth b' (fun e => absurd ((e ▸ h3 : x.ow b' = none).symm.trans ha) (by simp)), fun o h => h⟩, fun _ _ => rfl⟩
    refine ⟨⟨fun b' o h => by rw [hsize]; exact S.sane.lt b' o h, fun b' a h => by rw [hsize]; exact S.sane.owlt b' a h, by rw [hsize]; exact S.sane.base⟩, S.base, S.elq, ?_, S.keep, S.new, S.inj, ?_⟩
    · exact ⟨S.below.os, S.below.tape, S.below.output, by rw [hsize]; exact S.below.size, fun k hk => (hoth k fun e => by have := S.base; omega).trans (S.below.block k hk)⟩
    · have hall : ∀ u ∈ cur.toList.take off ++ us ++ cur.toList.drop (off + us.length), u.oneCell' = true := by
        intro v hv
        rcases List.mem_append.1 hv with hv | hv
        · rcases List.mem_append.1 hv with hv | hv
          · exact h7 v (List.mem_of_mem_take hv)
          · exact h1 v hv
        · exact h7 v (List.mem_of_mem_drop hv)
      have hrow : Rs { x with w := x.w.setRow b (cur.toList.take off ++ us ++ cur.toList.drop (off + us.length)).toArray } ((β :: B).drop u) (putN off vs' (c.bx.getD d [])) (cur.toList.take off ++ us ++ cur.toList.drop (off + us.length)) :=
        Rs.evo hev _ _ _ (putN_ok hvs h6)
      have hne' : putN off vs' (c.bx.getD d []) ≠ [] := by
        intro e
        have := congrArg List.length e
        simp only [putN, List.length_append, List.length_take, List.length_drop, List.length_nil] at this
        have : (c.bx.getD d []).length = 0 := by omega
        exact hne (List.eq_nil_of_length_eq_zero this)
      exact FrsR.store (b := b) (fun B c u h => R.evo hev B c u h) rfl rfl rfl hoth hsame hall hne' S.frs S.inj u γ d c hγ hb hc hrow
  unfold writeP at hw
  split at hw
  · rename_i d off
    dsimp only at hw
    split at hw
    · rename_i hle
      obtain ⟨γ, b, h2, h3, rfl⟩ := hp
      have : β = γ := by simpa using h2
      subst this
      simp only [Option.some.injEq, Prod.mk.injEq] at hw
      obtain ⟨rfl, rfl⟩ := hw
      obtain ⟨cur, ty, k1, k2, k3⟩ := main 0 d off b β fr vs rfl h3 rfl hle hv
      exact ⟨b, off, cur, ty, rfl, k1, k2, k3⟩
    · cases hw
  · rename_i u d off
    split at hw
    · rename_i c vs' hc hvs
      dsimp only at hw
      split at hw
      · rename_i hle
        obtain ⟨γ, b, h2, h3, rfl⟩ := hp
        simp only [Option.some.injEq, Prod.mk.injEq] at hw
        obtain ⟨rfl, rfl⟩ := hw
        have hvs' : Rs x ((β :: B).drop (u + 1)) vs' us := by
          obtain ⟨_, _, hl⟩ := drop_get h2
          obtain ⟨e1, e2⟩ := mapM_some hvs
          refine Rs_of (by rw [Rs_len hv, e1]) fun i a v hi hu => ?_
          have hlt : i < vs.length := by
            rw [← e1]
            rcases Nat.lt_or_ge i vs'.length with h | h
            · exact h
            · rw [List.getElem?_eq_none h] at hi; cases hi
          obtain ⟨a', f1, f2⟩ := e2 i vs[i] (List.getElem?_eq_getElem hlt)
          rw [f1] at hi; cases hi
          obtain ⟨v', g1, g2⟩ := Rs_get hv i vs[i] (List.getElem?_eq_getElem hlt)
          rw [g1] at hu; cases hu
          have := R.unshift (x := x) ((β :: B).take (u + 1)) ((β :: B).drop (u + 1)) D vs[i] a v
          rw [hl, List.take_append_drop] at this
          exact this f2 g2
        obtain ⟨cur, ty, k1, k2, k3⟩ := main (u + 1) d off b γ c vs' h2 h3 (by simpa using hc) hle hvs'
        exact ⟨b, off, cur, ty, rfl, k1, k2, k3⟩
      · cases hw
    · cases hw
  · cases hw

end Go.Am
