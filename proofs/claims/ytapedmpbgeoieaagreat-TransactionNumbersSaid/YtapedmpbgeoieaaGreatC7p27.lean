/- Part 27 of the proof: B1. -/
import Derived.WalkKit
import Derived.Lib.Walk
import Derived.Lib.SliceRun
import Derived.Lib.JoinLaws
import Derived.Lib.AppendZeros
import Derived.Lib.AppendZerosOnto
import Derived.Lib.Overlaps
import Derived.Laws.Externs
import Derived.Laws.IdiomCopy
import Derived.Shelf.RegionOpenPlain
import Derived.Test.YtapedmpbgeoieaaGreatC7p26
set_option linter.unusedSimpArgs false
set_option linter.unusedVariables false
namespace Go.Am
open Go Go.Proofs Go.RowKit Go.Lib
set_option maxRecDepth 100000
set_option linter.unusedVariables false
set_option linter.unusedSimpArgs false
theorem t22 : Tryz.prog.underlying 22 = some (.slice 115) := by kernel_rfl

/-- THE OPERATION 'copy(d, s)' FOR THE WALK, WHERE ITS RUN IS KNOWN BY AN EQUATION. -/
theorem wp_copy_runI {P : Program} (w : World) {o : Oper} {a : Act} {K : Act → World → Prop} {Q : Exit → Act → World → Prop} (d s : Operand) (t t' : TypeId)
    (ho : o.op = .call { callee := .builtin .copy, args := #[d, s], argTypes := #[t, t'] }) (v u : Value) (hd : a.eval d = v) (hs : a.eval s = u) {v' : Value} {w' : World}
    (hr : (Builtin.copy_ #[t, t'] o.type #[v, u]).run P w = .ok v' w') (h : K (a.put o.dst v') w') : o.wp P a w K Q := by
  unfold Oper.wp execOp
  simp only [ho, resolve, invoke, builtin, Sem.run_bind, Sem.run_pure, Result.andThen_ok, List.map_toArray, List.map_cons, List.map_nil, hd, hs, hr]
  exact h
theorem wpList_copy_runI {P : Program} (w : World) {ops : Array Oper} {rest : List Oper} {o : Oper} {a : Act} {Q : Exit → Act → World → Prop} (hgd : o.guard = none) (d s : Operand) (t t' : TypeId)
    (ho : o.op = .call { callee := .builtin .copy, args := #[d, s], argTypes := #[t, t'] }) (v u : Value) (hd : a.eval d = v) (hs : a.eval s = u) {v' : Value} {w' : World}
    (hr : (Builtin.copy_ #[t, t'] o.type #[v, u]).run P w = .ok v' w') (h : wpList P ops Q rest (a.put o.dst v') w') : wpList P ops Q (o :: rest) a w :=
  wpList_plain hgd fun _ hK => wp_copy_runI w d s t t' ho v u hd hs hr (hK _ _ h)
theorem step_copy_runI {P : Program} {ops : Array Oper} {o : Oper} {a : Act} {w : World} {K : Act → World → Prop} {Q : Exit → Act → World → Prop} {E : Prop}
    (hg : o.guard = none) (d x : Operand) (dT sT : TypeId) (hop : o.op = Op.call { callee := Callee.builtin Builtin.copy, args := #[d, x], argTypes := #[dT, sT] })
    (v u : Value) (hd : a.eval d = v) (hx : a.eval x = u) {v' : Value} {w' : World} (hr : (Builtin.copy_ #[dT, sT] o.type #[v, u]).run P w = .ok v' w') (hK : K (a.put o.dst v') w') :
    if Region.wanted o (yielded ops a.tmps) = true then Oper.wp P o a w K Q else E := by
  have hw : Region.wanted o (yielded ops a.tmps) = true := by simp [Region.wanted, hg]
  rw [if_pos hw]
  unfold Oper.wp
  simp [execOp, hop, resolve, invoke, builtin, hd, hx, hr, Result.andThen]
  exact hK

set_option maxHeartbeats 4000000 in
theorem ins_end (w : World) (v u : Value) (n m : Nat) (hv : (∃ a c, v = .slice (some a) n c) ∨ (v = .slice none 0 0 ∧ n = 0)) (hu : ∃ a c, u = .slice (some a) m c) (hm : m ≠ 0) {v' : Value} {w' : World} (hr : (Builtin.append_ #[22, 22] 22 #[v, u]).run Tryz.prog w = .ok v' w') :
    Calls Tryz.prog 203 #[v, .int .i64 n, u] w fun e w'' => e = .returned v' ∧ w'' = w' := by
  obtain ⟨a', c', rfl⟩ := hu
  have u22 := run_underlying t22 (P := Tryz.prog)
  have hz1 : ¬ ((m : Int) = 0) := by omega
  rcases hv with ⟨⟨ab, ao, asp⟩, c, rfl⟩ | ⟨rfl, rfl⟩
  · go_enter Tryz.func203, Tryz.ntmps203
    go_wp2_with (at_builtin; refine Lib.wpList_append_run _ rfl _ _ _ _ rfl _ _ rfl rfl _ _ hr ?_)
    all_goals (go_ret; exact ⟨rfl, rfl⟩)
  · go_enter Tryz.func203, Tryz.ntmps203
    go_wp2_with (at_builtin; refine Lib.wpList_append_run _ rfl _ _ _ _ rfl _ _ rfl rfl _ _ hr ?_)
    all_goals (go_ret; exact ⟨rfl, rfl⟩)

/-- copy between rows of cells of six. -/
theorem copy_row (w : World) (ty : TypeId) (g o dLen dCap : Nat) (a : Addr) (sLen sCap : Nat) (cur : Array Value) (t : TypeId) (cs : List Value)
    (hg : w.heap[g]? = some (.cells cur t (0, 0))) (hn : cs.length = Nat.min sLen dLen * 6)
    (hsrc : ∀ j v, cs[j]? = some v → w.cell? (a.add j) = some v) (hfit : o + cs.length ≤ cur.size) (h1 : ∀ v ∈ cs, v.oneCell' = true) :
    (Builtin.copy_ #[22, 22] ty #[.slice (some ⟨g, o, none⟩) dLen dCap, .slice (some a) sLen sCap]).run Tryz.prog w =
      .ok (goInt (Nat.min sLen dLen)) (w.setRow g (cur.toList.take o ++ cs ++ cur.toList.drop (o + cs.length)).toArray) := by
  have hl := run_loadCells_list (P := Tryz.prog) w a cs hsrc
  have hst := run_storeCells_at Tryz.prog g o t cs 0 cur w hg (by simpa using hfit) h1
  have hz : (Tryz.prog.info? 115).map (·.size) = some 6 := by kernel_rfl
  cases hq : Tryz.prog.info? 115 with
  | none => simp [hq] at hz
  | some i =>
    have hz : i.size = 6 := by simpa [hq] using hz
    simp only [Nat.add_zero] at hst
    simp [Builtin.copy_, run_underlying t22, Builtin.lenOf, Builtin.firstCells, Go.sizeOf, typeInfo, hq, hz, ← hn, hl, hst]

set_option maxHeartbeats 4000000 in
theorem ins_shift (w : World) (b n c i vb vo vc : Nat) (hi : i < n) (hroom : n + 1 ≤ c) (hc63 : c ≤ 9223372036854775807) {W1 W2 : World}
    (hov : ∀ lb cb, (callFunc 243 #[.slice (some ⟨vb, vo, none⟩) 1 vc, .slice (some ⟨b, (i + 1) * 6, none⟩) lb cb]).run Tryz.prog w = .ok (.value (.bool false)) w)
    (hcp1 : ∀ ty dc sc, (Builtin.copy_ #[22, 22] ty #[.slice (some ⟨b, (i + 1) * 6, none⟩) (n - i) dc, .slice (some ⟨b, i * 6, none⟩) (n + 1 - i) sc]).run Tryz.prog w.drew = .ok (goInt ((n - i : Nat) : Int)) W1)
    (hcp2 : ∀ ty dc, (Builtin.copy_ #[22, 22] ty #[.slice (some ⟨b, i * 6, none⟩) (n + 1 - i) dc, .slice (some ⟨vb, vo, none⟩) 1 vc]).run Tryz.prog W1 = .ok (goInt 1) W2) :
    Calls Tryz.prog 203 #[.slice (some ⟨b, 0, none⟩) n c, .int .i64 i, .slice (some ⟨vb, vo, none⟩) 1 vc] w fun e w' =>
      e = .returned (.slice (some ⟨b, 0, none⟩) (n + 1) c) ∧ w' = W2 := by
  have u22 := run_underlying t22 (P := Tryz.prog)
  have z115 : ∀ w, (Go.sizeOf 115).run Tryz.prog w = .ok 6 w := by intro w; unfold Go.sizeOf typeInfo; kernel_rfl
  have hz2 : ¬ ((i : Int) = (n : Int)) := by omega
  have hw1 : IntKind.i64.wrap ((i : Int) + 1) = (i : Int) + 1 := by rw [IntKind.wrap_i64]; omega
  have hb1 : (0 : Int) ≤ (i : Int) + 1 := by omega
  have hin : i ≤ n := by omega
  have htn : ((i : Int) + 1).toNat = i + 1 := by omega
  have hb2 : ¬ (c = i + 1) := by omega
  have hb3 : (i : Int) ≤ (n : Int) + 1 := by omega
  have hb4 : ¬ (c = i) := by omega
  have mixed : Tryz.prog.follows .mixedOrders = true := by kernel_rfl
  go_enter Tryz.func203, Tryz.ntmps203
  go_wp2_with (simp only [hov])
  go_region_law_o (refine step_copy_runI rfl _ _ 22 22 rfl _ _ (by simp [Act.eval, Act.put]) (by simp [Act.eval, Act.put]) (hcp1 _ _ _) ?_)
  go_wp2_with (at_builtin; refine wpList_copy_runI _ rfl _ _ 22 22 rfl _ _ rfl rfl (hcp2 _ _) ?_)
  go_ret
  exact ⟨rfl, rfl⟩

set_option maxHeartbeats 4000000 in
theorem ins_grow (w : World) (b n c i vb vo vc N G : Nat) (hi : i < n) (hroom : c < n + 1) (hnc : n ≤ c) (hc63 : c < 9223372036854775807) (hG : n + 1 ≤ G) (hG63 : G ≤ 9223372036854775807) {W1 W2 W3 : World}
    (hrz : ∀ ty, (Builtin.append_ #[22, 3] ty #[.slice (some ⟨b, 0, none⟩) i c, .int .i64 ((n : Int) + 1 - (i : Int))]).run Tryz.prog w = .ok (.slice (some ⟨N, 0, none⟩) (n + 1) G) W1)
    (hcpA : ∀ ty dc, (Builtin.copy_ #[22, 22] ty #[.slice (some ⟨N, i * 6, none⟩) (n + 1 - i) dc, .slice (some ⟨vb, vo, none⟩) 1 vc]).run Tryz.prog W1 = .ok (goInt 1) W2)
    (hcpB : ∀ ty dc sc, (Builtin.copy_ #[22, 22] ty #[.slice (some ⟨N, (i + 1) * 6, none⟩) (n - i) dc, .slice (some ⟨b, i * 6, none⟩) (n - i) sc]).run Tryz.prog W2.drew = .ok (goInt ((n - i : Nat) : Int)) W3) :
    Calls Tryz.prog 203 #[.slice (some ⟨b, 0, none⟩) n c, .int .i64 i, .slice (some ⟨vb, vo, none⟩) 1 vc] w fun e w' =>
      e = .returned (.slice (some ⟨N, 0, none⟩) (n + 1) G) ∧ w' = W3 := by
  have u22 := run_underlying t22 (P := Tryz.prog)
  have z115 : ∀ w, (Go.sizeOf 115).run Tryz.prog w = .ok 6 w := by intro w; unfold Go.sizeOf typeInfo; kernel_rfl
  have mixed : Tryz.prog.follows .mixedOrders = true := by kernel_rfl
  have hz2 : ¬ ((i : Int) = (n : Int)) := by omega
  have hz3 : (c : Int) < (n : Int) + 1 := by omega
  have hw0 : IntKind.i64.wrap ((n : Int) + 1) = (n : Int) + 1 := by rw [IntKind.wrap_i64]; omega
  have hw2 : IntKind.i64.wrap ((n : Int) + 1 - (i : Int)) = (n : Int) + 1 - (i : Int) := by rw [IntKind.wrap_i64]; omega
  have hw1 : IntKind.i64.wrap ((i : Int) + 1) = (i : Int) + 1 := by rw [IntKind.wrap_i64]; omega
  have hb1 : (0 : Int) ≤ (i : Int) + 1 := by omega
  have hin : i ≤ n := by omega
  have htn : ((i : Int) + 1).toNat = i + 1 := by omega
  have hb3 : (i : Int) ≤ (n : Int) := by omega
  have hci : ¬ (c = i) := by omega
  have hGi : ¬ (G = i) := by omega
  have hGim : ¬ (G = i + 1) := by omega
  go_enter Tryz.func203, Tryz.ntmps203
  go_wp2_with (first
    | (at_builtin; refine Lib.wpList_append_run _ rfl _ _ _ _ rfl _ _ rfl rfl _ _ (hrz _) ?_)
    | (at_builtin; refine wpList_copy_runI _ rfl _ _ 22 22 rfl _ _ rfl rfl (hcpA _ _) ?_))
  go_region_law_o (refine step_copy_runI rfl _ _ 22 22 rfl _ _ (by simp [Act.eval, Act.put]) (by simp [Act.eval, Act.put]) (hcpB _ _ _) ?_)
  go_wp2
  go_ret
  exact ⟨rfl, rfl⟩

def P203 (l : List Cell) (i : Int) (c : List Cell) : Bool := decide (0 ≤ i ∧ i ≤ l.length) && (decide (c.length = 1) && decide ((l.length + 1) * 48 ≤ 70368744177664))
def I203 (l : List Cell) (i : Int) (c : List Cell) : List Cell := l.take i.toNat ++ (c ++ l.drop i.toNat)
def L203 : LE := .own (fun rest l => match rest with
    | [.int .i64 i, .sl .cell c (.lab _)] => P203 l i c
    | _ => false) (fun rest l => match rest with
    | [.int .i64 i, .sl .cell c (.lab _)] => some (I203 l i c)
    | _ => none)
theorem c203 : CdOk 203 Tryz.f203 := ⟨by kernel_rfl, by kernel_rfl⟩
theorem info115 : ∃ i z, Tryz.prog.info? 115 = some i ∧ i.size = 6 ∧ i.bytes = 48 ∧ i.zero = some z ∧ z.cells.size = 6 := by
  have h1 : (Tryz.prog.info? 115).map (fun i => (i.size, i.bytes)) = some (6, 48) := by kernel_rfl
  have h2 : ((Tryz.prog.info? 115).bind (·.zero)).map (·.cells.size) = some 6 := by kernel_rfl
  cases hi : Tryz.prog.info? 115 with
  | none => rw [hi] at h1; cases h1
  | some i =>
    rw [hi] at h1 h2
    simp only [Option.map_some, Option.some.injEq, Prod.mk.injEq, Option.bind_some] at h1 h2
    cases hz : i.zero with
    | none => rw [hz] at h2; cases h2
    | some z => exact ⟨i, z, rfl, h1.1, h1.2, hz, by simpa [hz] using h2⟩
theorem rowsV_drop (st : ST) (l : List st.El) (n : Nat) (hn : n ≤ l.length) : rowsV st (l.drop n) = (rowsV st l).drop (n * st.k) := by
  have hlen : (rowsV st (l.take n)).length = n * st.k := by rw [rowsV_len, List.length_take, Nat.min_eq_left hn]
  have h := rowsV_app st (l.take n) (l.drop n)
  rw [List.take_append_drop] at h
  rw [h, ← hlen]
  exact List.drop_left.symm
theorem frozen_no {w : World} {b o : Nat} {cur : Array Value} {t : Nat} (h : w.heap[b]? = some (.cells cur t (0, 0))) : w.frozen? ⟨b, o, none⟩ = false := by
  simp [World.frozen?, h]
theorem setRow_grown (w : World) (g : Nat) (cs : Array Value) : w.grownBy (w.setRow g cs) (some g) :=
  ⟨rfl, rfl, rfl, by simp [World.setRow], fun k _ hk => setRow_other w g k _ fun e => hk (by rw [e])⟩
theorem drew_grown (w : World) (r : Option Nat) : w.grownBy w.drew r := ⟨rfl, rfl, rfl, Nat.le_refl _, fun _ _ _ => rfl⟩
theorem grown_trans {w w1 w2 : World} {r : Option Nat} (h : w.grownBy w1 r) (h' : w1.grownBy w2 r) : w.grownBy w2 r :=
  ⟨h'.os.trans h.os, h'.tape.trans h.tape, h'.output.trans h.output, Nat.le_trans h.size h'.size, fun k hk hn => (h'.block k (Nat.lt_of_lt_of_le hk h.size) hn).trans (h.block k hk hn)⟩

set_option maxHeartbeats 8000000 in
theorem own203 : OwnOk Q elT 203 (fun rest l => match rest with
    | [.int .i64 i, .sl .cell c (.lab _)] => P203 l i c
    | _ => false) (fun rest l => match rest with
    | [.int .i64 i, .sl .cell c (.lab _)] => some (I203 l i c)
    | _ => none) := by
  intro x B l l' v rest us hbase hI hel hown hvI hrest hpre hval
  dsimp only at hpre hval
  split at hpre
  · rename_i i c d
    simp only [Option.some.injEq] at hval
    subst hval
    simp only [P203, Bool.and_eq_true, decide_eq_true_eq] at hpre
    obtain ⟨⟨hi0, hin⟩, hc1, hbig⟩ := hpre
    obtain ⟨vi, us1, rfl, hvi, us2, us3, rfl, hsl, hnil⟩ := hrest
    have hvi : vi = .int .i64 i := hvi
    have hnil : us3 = [] := hnil
    subst hvi hnil
    obtain ⟨A, cc, rfl, hcc, hat, hcown, _⟩ := hsl
    rw [hel] at hcown
    obtain ⟨vb, vcap, vcur, hvb, _, hvh, _, _, hvs, hvt⟩ := hcown.2.resolve_left (fun h => by omega)
    injection hvb with hA _ hcap
    subst hA
    subst cc
    have hIvb : x.I vb 0 := by
      rcases hat with h | ⟨b', o', h1, h2⟩
      · rw [hc1] at h; exact absurd h (by decide)
      · injection h1 with h1; injection h1 with h1 h3; subst h1 h3
        have hlen : (rowsV .cell c).length = 6 := by rw [rowsV_len, hc1]; rfl
        exact (h2 0 (rowsV .cell c)[0] (List.getElem?_eq_getElem (by omega))).1
    have hvcell : ∀ (W : World), W.heap[vb]? = x.w.heap[vb]? → ∀ (j : Nat) u, (rowsV .cell c)[j]? = some u → W.cell? ((⟨vb, 0, none⟩ : Addr).add j) = some u := by
      intro W hW j u hj
      rw [← hvt] at hj
      rw [Addr.add_lit, Nat.zero_add]
      simp only [World.cell?, hW, hvh]
      rw [List.getElem?_take] at hj
      split at hj
      · simpa using hj
      · cases hj
    have hclen : (rowsV .cell c).length = 6 := by rw [rowsV_len, hc1]; rfl
    rw [hc1]
    obtain ⟨inf, z, hinf, hsz, hby, hz, hzs⟩ := info115
    obtain ⟨k, rfl⟩ : ∃ k : Nat, i = k := ⟨i.toNat, by omega⟩
    have hk : k ≤ l.length := by omega
    simp only [I203, Int.toNat_natCast]
    have hll : (l.take k ++ (c ++ l.drop k)).length = l.length + 1 := by simp; omega
    rcases Nat.eq_or_lt_of_le hk with hkn | hkn
    · -- at the end
      subst hkn
      obtain ⟨v', w', hr, ho1, ho2⟩ := app_run (P := Tryz.prog) x.w x.base 22 22 115 inf z 6 t22 hinf hz hsz hzs v l.length (rowsV .cell l) hown (some ⟨vb, 0, none⟩) 1 vcap (rowsV .cell c) (by rw [hclen]) (.inr ⟨_, rfl, hvcell _ rfl⟩) (rowsV_one _ _) (by unfold maxLen; omega) (by rw [hby]; omega) hbase
      have hv : (∃ a c, v = .slice (some a) l.length c) ∨ (v = .slice none 0 0 ∧ l.length = 0) := by
        rcases hown.2 with ⟨h1, h2⟩ | ⟨g, cap, cur, h1, _⟩
        · exact .inr ⟨h1, h2⟩
        · exact .inl ⟨_, _, h1⟩
      refine (ins_end x.w v _ l.length 1 hv ⟨_, _, rfl⟩ (by decide) hr).mono ?_
      rintro e w'' ⟨rfl, rfl⟩
      refine ⟨v', rfl, ?_, ?_, ?_⟩
      · rw [hll]
        have : l.take l.length ++ (c ++ l.drop l.length) = l ++ c := by simp
        rw [this, rowsV_app]
        exact ho1
      · rcases ho2 with ⟨_, h⟩ | ⟨_, h⟩
        · exact h
        · exact ⟨h.os, h.tape, h.output, h.size, fun k hk _ => h.block k hk (by simp)⟩
      · rcases ho2 with ⟨h, _⟩ | ⟨h, _⟩
        · exact .inl h
        · exact .inr ⟨_, h, Nat.le_refl _⟩
    · obtain ⟨g, cap, cur, rfl, hbg, hg, hnc, hcm, hcs, htake⟩ := hown.2.resolve_left (fun h => by omega)
      have hne : vb ≠ g := fun e => hvI g rfl 0 (e ▸ hIvb)
      have hcur : cur.toList.length = cap * 6 := by simpa using hcs
      have hrl : (rowsV .cell l).length = l.length * 6 := rowsV_len _ _
      have hdl : (rowsV .cell (l.drop k)).length = (l.length - k) * 6 := by rw [rowsV_len, List.length_drop]; rfl
      have htk : (rowsV .cell (l.take k)).length = k * 6 := by rw [rowsV_len, List.length_take, Nat.min_eq_left hk]; rfl
      have hrt : rowsV .cell (l.take k) = (rowsV .cell l).take (k * 6) := rowsV_take .cell l k hk
      have hrd : rowsV .cell (l.drop k) = (rowsV .cell l).drop (k * 6) := rowsV_drop .cell l k hk
      have htake' : cur.toList.take (l.length * 6) = rowsV .cell l := htake
      have hrows : rowsV .cell (l.take k ++ (c ++ l.drop k)) = rowsV .cell (l.take k) ++ (rowsV .cell c ++ rowsV .cell (l.drop k)) := by rw [rowsV_app, rowsV_app]
      have hmaxI : (cap : Int) ≤ 9223372036854775807 := by unfold maxLen at hcm; omega
      by_cases hroom : l.length + 1 ≤ cap
      · -- in place
        have hsrc1 : ∀ (j : Nat) u, (rowsV .cell (l.drop k))[j]? = some u → x.w.drew.cell? ((⟨g, k * 6, none⟩ : Addr).add j) = some u := by
          intro j u hj
          rw [hrd, List.getElem?_drop, ← htake', List.getElem?_take] at hj
          split at hj
          · rw [Addr.add_lit]
            simp only [World.cell?, World.drew, hg]
            simpa using hj
          · cases hj
        have hov : ∀ lb cb, (callFunc 243 #[.slice (some ⟨vb, 0, none⟩) 1 vcap, .slice (some ⟨g, (k + 1) * 6, none⟩) lb cb]).run Tryz.prog x.w = .ok (.value (.bool false)) x.w := fun lb cb => by
          rw [run_callFunc_extern (f := 243) (fn := Tryz.f243) Tryz.func243 (by kernel_rfl) (by kernel_rfl) (by kernel_rfl) (e := Extern.SlicesOverlaps.overlaps #[22, 22] #[4]) (by kernel_rfl),
            Lib.run_overlaps_apart x.w 22 4 115 t22 6 (fun w => by simp [Go.sizeOf, typeInfo, hinf, hsz]) ⟨vb, 0, none⟩ ⟨g, (k + 1) * 6, none⟩ 1 vcap lb cb hne 115 115 vcur.size cur.size (by simp only [World.shape?, hvh]; rfl) (by simp only [World.shape?, hg]; rfl) (by rw [hcs]; show cap * 6 ≠ 0; omega) (frozen_no hvh) (frozen_no hvh)]
          rfl
        have hcp1 : ∀ ty dc sc, (Builtin.copy_ #[22, 22] ty #[.slice (some ⟨g, (k + 1) * 6, none⟩) (l.length - k) dc, .slice (some ⟨g, k * 6, none⟩) (l.length + 1 - k) sc]).run Tryz.prog x.w.drew = .ok (goInt ((l.length - k : Nat) : Int)) _ := fun ty dc sc => by
          have h := copy_row x.w.drew ty g ((k + 1) * 6) (l.length - k) dc ⟨g, k * 6, none⟩ (l.length + 1 - k) sc cur 115 (rowsV .cell (l.drop k)) hg (by rw [hdl]; congr 1; simp only [Nat.min_def]; split <;> omega) hsrc1 (by rw [hdl, hcs]; show _ ≤ cap * 6; omega) (rowsV_one _ _)
          rw [show Nat.min (l.length + 1 - k) (l.length - k) = l.length - k by simp only [Nat.min_def]; split <;> omega] at h
          exact h
        generalize hcur1 : cur.toList.take ((k + 1) * 6) ++ rowsV .cell (l.drop k) ++ cur.toList.drop ((k + 1) * 6 + (rowsV .cell (l.drop k)).length) = cur1 at hcp1
        have hg1 := setRow_heap x.w.drew g cur cur1.toArray 115 (0, 0) hg
        have hv1 : (x.w.drew.setRow g cur1.toArray).heap[vb]? = x.w.heap[vb]? := setRow_other x.w.drew g vb _ hne
        have hcur1l : cur1.length = cap * 6 := by rw [← hcur1]; simp only [List.length_append, List.length_take, List.length_drop, hdl, hcur]; omega
        have hcp2 : ∀ ty dc, (Builtin.copy_ #[22, 22] ty #[.slice (some ⟨g, k * 6, none⟩) (l.length + 1 - k) dc, .slice (some ⟨vb, 0, none⟩) 1 vcap]).run Tryz.prog (x.w.drew.setRow g cur1.toArray) = .ok (goInt 1) _ := fun ty dc => by
          have h := copy_row (x.w.drew.setRow g cur1.toArray) ty g (k * 6) (l.length + 1 - k) dc ⟨vb, 0, none⟩ 1 vcap cur1.toArray 115 (rowsV .cell c) hg1 (by rw [hclen, show Nat.min 1 (l.length + 1 - k) = 1 by simp only [Nat.min_def]; split <;> omega]) (hvcell _ hv1) (by rw [hclen]; simp only [List.size_toArray, hcur1l]; omega) (rowsV_one _ _)
          rw [show Nat.min 1 (l.length + 1 - k) = 1 by simp only [Nat.min_def]; split <;> omega] at h
          exact h
        refine (ins_shift x.w g l.length cap k vb 0 vcap hkn hroom (by unfold maxLen at hcm; omega) hov hcp1 hcp2).mono ?_
        rintro e w'' ⟨rfl, rfl⟩
        have hgw : x.w.grownBy ((x.w.drew.setRow g cur1.toArray).setRow g (cur1.toArray.toList.take (k * 6) ++ rowsV .cell c ++ cur1.toArray.toList.drop (k * 6 + (rowsV .cell c).length)).toArray) (some g) := grown_trans (drew_grown _ _) (grown_trans (setRow_grown _ _ _) (setRow_grown _ _ _))
        refine ⟨_, rfl, ?_, hgw, .inl rfl⟩
        rw [hll, hrows]
        refine ⟨by simp only [List.length_append, htk, hdl, hclen]; omega, .inr ⟨g, cap, _, rfl, hbg, setRow_heap _ g _ _ 115 (0, 0) hg1, hroom, hcm, ?_, ?_⟩⟩
        · simp only [List.size_toArray, List.length_append, List.length_take, List.length_drop, hclen, hcur1l]
          omega
        · -- the elements
          have e1 : cur1.take (k * 6) = rowsV .cell (l.take k) := by
            rw [← hcur1, List.append_assoc, List.take_append_of_le_length (by simp only [List.length_take, hcur]; omega), List.take_take, Nat.min_eq_left (by omega), hrt, ← htake', List.take_take, Nat.min_eq_left (by omega)]
          have e2 : (cur1.drop (k * 6 + 6)).take ((l.length - k) * 6) = rowsV .cell (l.drop k) := by
            have e3 : (cur.toList.take ((k + 1) * 6)).length = k * 6 + 6 := by simp only [List.length_take, hcur]; omega
            rw [← hcur1, List.append_assoc, ← e3, List.drop_left, ← hdl, List.take_left]
          have e4 : (l.length + 1) * 6 = k * 6 + (6 + (l.length - k) * 6) := by omega
          simp only
          rw [hclen, e1, e4, List.append_assoc, ← htk, List.take_length_add_append, ← hclen, List.take_length_add_append, hclen, htk, e2]
      · -- a new row
        have hroom : cap < l.length + 1 := by omega
        have hold : (Builtin.firstCells inf.size k (.slice (some ⟨g, 0, none⟩) k cap)).run Tryz.prog x.w.drew = .ok (rowsV .cell (l.take k)).toArray x.w.drew := by
          rw [hsz]
          refine run_firstCells_some x.w.drew 6 k ⟨g, 0, none⟩ k cap _ (by rw [htk]) (fun j u hj => ?_)
          rw [hrt, List.getElem?_take] at hj
          split at hj
          · rw [← htake', List.getElem?_take] at hj
            split at hj
            · rw [Addr.add_lit, Nat.zero_add]
              simp only [World.cell?, World.drew, hg]
              simpa using hj
            · cases hj
          · cases hj
        have hik : k + (l.length + 1 - k) = l.length + 1 := by omega
        have hkk : ((l.length : Nat) : Int) + 1 - (k : Int) = ((l.length + 1 - k : Nat) : Int) := by omega
        have hrz : ∀ ty, (Builtin.append_ #[22, 3] ty #[.slice (some ⟨g, 0, none⟩) k cap, .int .i64 ((l.length : Int) + 1 - (k : Int))]).run Tryz.prog x.w = .ok (.slice (some ⟨x.w.heap.size, 0, none⟩) (l.length + 1) (grownCap x.w (l.length + 1) cap 115)) _ := fun ty => by
          have h := Lib.run_append_grow_zeros x.w 22 3 ty 115 inf z .i64 .i64 t22 u3 hinf hz (some ⟨g, 0, none⟩) k cap _ hold (l.length + 1 - k) (by omega) (by rw [hsz]; omega) (by omega) (by unfold maxLen at hcm; omega) (by rw [hby]; omega) (by rw [hby, hik]; exact growslice_fits hroom (by omega))
          rw [hik] at h
          rw [hkk]
          exact h
        have hG := grownCap_ge x.w (l.length + 1) cap 115
        have hG63 := grownCap_le_maxLen x.w (l.length + 1) cap 115 (by unfold maxLen; omega)
        generalize grownCap x.w (l.length + 1) cap 115 = G at hrz hG hG63
        generalize hROW : (rowsV .cell (l.take k)).toArray ++ Builtin.zeroCells z.cells (l.length + 1 - k) ++ Builtin.zeroCells z.cells (G - (l.length + 1)) = ROW at hrz
        have hzc : ∀ m, (Builtin.zeroCells z.cells m).size = m * 6 := fun m => by rw [size_zeroCells, hzs]
        have hRs : ROW.size = G * 6 := by rw [← hROW]; simp only [Array.size_append, List.size_toArray, htk, hzc]; omega
        have hRt : ROW.toList.take (k * 6) = rowsV .cell (l.take k) := by
          rw [← hROW]
          simp only [Array.toList_append]
          rw [List.append_assoc, ← htk, List.take_left]
        have hh1 := Go.heap_alloc_new x.w.drew (.cells ROW 115 (0, 0))
        have hold1 : ∀ b, b < x.w.heap.size → (x.w.drew.alloc (.cells ROW 115 (0, 0))).heap[b]? = x.w.heap[b]? := fun b hb => Go.heap_alloc_old x.w.drew _ hb
        have hvlt := lt_of_heap hvh
        have hglt := lt_of_heap hg
        have hNd : x.w.drew.heap.size = x.w.heap.size := rfl
        rw [hNd] at hh1
        generalize hW1 : x.w.drew.alloc (.cells ROW 115 (0, 0)) = W1 at hrz hh1 hold1
        have hcpA : ∀ ty dc, (Builtin.copy_ #[22, 22] ty #[.slice (some ⟨x.w.heap.size, k * 6, none⟩) (l.length + 1 - k) dc, .slice (some ⟨vb, 0, none⟩) 1 vcap]).run Tryz.prog W1 = .ok (goInt 1) _ := fun ty dc => by
          have h := copy_row W1 ty x.w.heap.size (k * 6) (l.length + 1 - k) dc ⟨vb, 0, none⟩ 1 vcap ROW 115 (rowsV .cell c) hh1 (by rw [hclen, show Nat.min 1 (l.length + 1 - k) = 1 by simp only [Nat.min_def]; split <;> omega]) (hvcell _ (hold1 vb hvlt)) (by rw [hclen, hRs]; omega) (rowsV_one _ _)
          rw [show Nat.min 1 (l.length + 1 - k) = 1 by simp only [Nat.min_def]; split <;> omega] at h
          exact h
        generalize hR2 : ROW.toList.take (k * 6) ++ rowsV .cell c ++ ROW.toList.drop (k * 6 + (rowsV .cell c).length) = R2 at hcpA
        have hR2l : R2.length = G * 6 := by rw [← hR2]; simp only [List.length_append, List.length_take, List.length_drop, Array.length_toList, hRs, hclen]; omega
        have hh2 := setRow_heap W1 x.w.heap.size ROW R2.toArray 115 (0, 0) hh1
        have hsrc : ∀ (j : Nat) u, (rowsV .cell (l.drop k))[j]? = some u → (W1.setRow x.w.heap.size R2.toArray).drew.cell? ((⟨g, k * 6, none⟩ : Addr).add j) = some u := by
          intro j u hj
          rw [hrd, List.getElem?_drop, ← htake', List.getElem?_take] at hj
          split at hj
          · rw [Addr.add_lit]
            have : (W1.setRow x.w.heap.size R2.toArray).drew.heap[g]? = some (.cells cur 115 (0, 0)) := ((setRow_other W1 x.w.heap.size g _ (by omega)).trans (hold1 g hglt)).trans hg
            simp only [World.cell?, this]
            simpa using hj
          · cases hj
        have hcpB : ∀ ty dc sc, (Builtin.copy_ #[22, 22] ty #[.slice (some ⟨x.w.heap.size, (k + 1) * 6, none⟩) (l.length - k) dc, .slice (some ⟨g, k * 6, none⟩) (l.length - k) sc]).run Tryz.prog (W1.setRow x.w.heap.size R2.toArray).drew = .ok (goInt ((l.length - k : Nat) : Int)) _ := fun ty dc sc => by
          have h := copy_row (W1.setRow x.w.heap.size R2.toArray).drew ty x.w.heap.size ((k + 1) * 6) (l.length - k) dc ⟨g, k * 6, none⟩ (l.length - k) sc R2.toArray 115 (rowsV .cell (l.drop k)) hh2 (by rw [hdl]; congr 1; simp only [Nat.min_def]; split <;> omega) hsrc (by rw [hdl]; simp only [List.size_toArray, hR2l]; omega) (rowsV_one _ _)
          rw [show Nat.min (l.length - k) (l.length - k) = l.length - k by simp only [Nat.min_def]; split <;> omega] at h
          exact h
        refine (ins_grow x.w g l.length cap k vb 0 vcap x.w.heap.size G hkn hroom hnc (by unfold maxLen at hcm; omega) hG (by unfold maxLen at hG63; omega) hrz hcpA hcpB).mono ?_
        rintro e w'' ⟨rfl, rfl⟩
        have hgw : ∀ cs, x.w.grownBy ((W1.setRow x.w.heap.size R2.toArray).drew.setRow x.w.heap.size cs) (some g) := by
          intro cs
          have hsz1 : W1.heap.size = x.w.heap.size + 1 := by
            rw [← hW1]
            exact Array.size_push _
          refine ⟨?_, ?_, ?_, ?_, fun b hb hnb => ?_⟩
          · rw [← hW1]; rfl
          · rw [← hW1]; rfl
          · rw [← hW1]; rfl
          · show x.w.heap.size ≤ ((W1.setRow x.w.heap.size R2.toArray).drew.setRow x.w.heap.size cs).heap.size
            simp only [World.setRow, World.drew, Array.size_modify, hsz1]
            omega
          · rw [setRow_other _ _ _ _ (by omega)]
            exact (setRow_other W1 x.w.heap.size b _ (by omega)).trans (hold1 b hb)
        refine ⟨_, rfl, ?_, hgw _, .inr ⟨_, rfl, Nat.le_refl _⟩⟩
        rw [hll, hrows]
        refine ⟨by simp only [List.length_append, htk, hdl, hclen]; omega, .inr ⟨x.w.heap.size, G, _, rfl, hbase, setRow_heap _ _ _ _ 115 (0, 0) hh2, hG, hG63, ?_, ?_⟩⟩
        · simp only [List.size_toArray, List.length_append, List.length_take, List.length_drop, hdl, hR2l]
          omega
        · have e1 : R2.take ((k + 1) * 6) = rowsV .cell (l.take k) ++ rowsV .cell c := by
            have e3 : (rowsV .cell (l.take k) ++ rowsV .cell c).length = (k + 1) * 6 := by rw [List.length_append, htk, hclen]; omega
            rw [← hR2, hRt, ← e3, List.take_left]
          have e4 : (l.length + 1) * 6 = (k + 1) * 6 + (l.length - k) * 6 := by omega
          have e5 : (rowsV .cell (l.take k) ++ rowsV .cell c).length = (k + 1) * 6 := by rw [List.length_append, htk, hclen]; omega
          simp only
          rw [e1, e4, List.append_assoc _ (rowsV .cell (l.drop k)), ← e5, List.take_length_add_append, ← hdl, List.take_left, List.append_assoc]
  · cases hpre
theorem le203 : LinGood 203 L203 := ⟨own203, _, c203.1, by kernel_rfl, c203.2⟩
end Go.Am
