/- Part 26 of the proof: B0. -/
import Derived.Test.YtapedmpbgeoieaaGreatC7p25
set_option linter.unusedSimpArgs false
set_option linter.unusedVariables false
namespace Go.Am
open Go Go.Proofs Go.RowKit
set_option maxRecDepth 100000
set_option linter.unusedVariables false

theorem COk.raw {P : Program} {el : ST → Nat} {C : Cfg} (h : COk P el C) : COk P el { C with raw := true } :=
  ⟨h.ty, h.spec, h.code, h.lin, h.mt, h.zel, h.mixed, h.bool, h.eqT⟩

theorem c125 : CdOk 125 Tryz.f125 := ⟨by kernel_rfl, by kernel_rfl⟩
theorem c161 : CdOk 161 Tryz.f161 := ⟨by kernel_rfl, by kernel_rfl⟩
theorem c92 : CdOk 92 Tryz.f92 := ⟨by kernel_rfl, by kernel_rfl⟩
noncomputable def C125 : Cfg := { base [] [(125, Tryz.f125)] [] [] [] [] [] with raw := true }
noncomputable def C161 : Cfg := { base [] [(161, Tryz.f161)] [] [] [] [] [] with raw := true }
noncomputable def C92 : Cfg := { base [] [(92, Tryz.f92)] [] [] [] [] [] with raw := true }
theorem r125 (n : Nat) (l : List Cell) (b : Bool) : startK C125 (up 40 n) 125 Tryz.f125 [.sl .cell l (.nn b)] = cond b (some .nilS) (cond (decide ((0 + l.length) * 48 ≤ 70368744177664)) (some (.sl .cell ([] ++ l) (.lab 7))) none) := by kernel_rfl
theorem r161 (n : Nat) (l : List Spot) (b : Bool) : startK C161 (up 40 n) 161 Tryz.f161 [.sl .spot l (.nn b)] = cond b (some .nilS) (cond (decide ((0 + l.length) * 16 ≤ 70368744177664)) (some (.sl .spot ([] ++ l) (.lab 7))) none) := by kernel_rfl
theorem r92 (n : Nat) (l : List Wish) (b : Bool) : startK C92 (up 40 n) 92 Tryz.f92 [.sl .wish l (.nn b)] = cond b (some .nilS) (cond (decide ((0 + l.length) * 32 ≤ 70368744177664)) (some (.sl .wish ([] ++ l) (.lab 7))) none) := by kernel_rfl

theorem clone_ok {C : Cfg} (hC : COk Q elT C) (hraw : C.raw = true) {g : Nat} {fn : Func} (hc : CdOk g fn) {st : ST} {eb : Nat}
    (hr : ∀ n (l : List st.El) (b : Bool), startK C (up 40 n) g fn [.sl st l (.nn b)] = cond b (some .nilS) (cond (decide ((0 + l.length) * eb ≤ 70368744177664)) (some (.sl st ([] ++ l) (.lab 7))) none)) : CloneOk Q elT g st eb := by
  intro I w l v hI hv hle
  obtain ⟨A, c, rfl, h1, h2, _⟩ := hv
  have hv' : Rs (xAt w I elT 0) [] [.sl st l (.nn A.isNone)] [.slice A l.length c] := ⟨_, _, rfl, ⟨A, c, rfl, h1, h2, A, l.length, c, rfl, rfl⟩, rfl⟩
  cases hA : A.isNone with
  | true =>
    have hl : l.length = 0 := by
      rcases h2 with h | ⟨b, o, rfl, _⟩
      · have := st_k_pos st
        rcases Nat.mul_eq_zero.1 h with h | h <;> omega
      · cases hA
    have hrun := hr 0 l true
    rw [← hA] at hrun
    refine (am_coreK hC hc.1 (r := .nilS) (by rw [hrun, hA]; rfl) hI hv').mono ?_
    rintro e w' ⟨v', rfl, hb, hf⟩
    unfold FinR at hf
    rw [if_pos hraw] at hf
    obtain ⟨x, B, _, _, _, _, hR⟩ := hf
    have hR : v' = .slice none 0 0 := hR
    subst hR
    have : l = [] := List.eq_nil_of_length_eq_zero hl
    subst this
    exact ⟨_, rfl, hb, World.ownsRow_nil _ _ _ _⟩
  | false =>
    have hrun := hr 0 l false
    rw [← hA] at hrun
    refine (am_coreK hC hc.1 (r := .sl st l (.lab 7)) (by rw [hrun, hA]; simp [hle]) hI hv').mono ?_
    rintro e w' ⟨v', rfl, hb, hf⟩
    unfold FinR at hf
    rw [if_pos hraw] at hf
    obtain ⟨x, B, rfl, h3, h4, _, hR⟩ := hf
    obtain ⟨_, _, _, _, _, hown, _⟩ := hR
    rw [h3, h4] at hown
    exact ⟨v', rfl, hb, hown⟩

theorem cl125 : CloneOk Q elT 125 .cell 48 := clone_ok (C := C125) (COk.raw (base_ok .nil (.cons c125 .nil) .nil)) rfl c125 r125
theorem cl161 : CloneOk Q elT 161 .spot 16 := clone_ok (C := C161) (COk.raw (base_ok .nil (.cons c161 .nil) .nil)) rfl c161 r161
theorem cl92 : CloneOk Q elT 92 .wish 32 := clone_ok (C := C92) (COk.raw (base_ok .nil (.cons c92 .nil) .nil)) rfl c92 r92
def LinGood (g : Nat) (L : LE) : Prop := LinOk Q elT g L ∧ ∃ fn, Q.funcs[g]? = some fn ∧ fn.body.isSome = true ∧ (fn.name == "runtime.NumGoroutine") = false
def L125 : LE := .clone .cell 48
def L161 : LE := .clone .spot 16
def L92 : LE := .clone .wish 32
theorem le125 : LinGood 125 L125 := ⟨cl125, _, c125.1, by kernel_rfl, c125.2⟩
theorem le161 : LinGood 161 L161 := ⟨cl161, _, c161.1, by kernel_rfl, c161.2⟩
theorem le92 : LinGood 92 L92 := ⟨cl92, _, c92.1, by kernel_rfl, c92.2⟩

/-- A copy, as a value. -/
theorem clone_spec {g : Nat} {fn : Func} (hc : CdOk g fn) (hb : fn.body.isSome = true) {st : ST} {eb : Nat} (h : CloneOk Q elT g st eb) [Inhabited st.El] {V : List st.El → Option (List st.El)} (hV : ∀ l r, V l = some r → r = l ∧ l.length * eb ≤ 70368744177664) :
    GeOk g (mkG [(0, none, st)] ((codS st).a .nil) (fun x => V x.1) (codS st)) := by
  refine ⟨fun I w args vs r hgr hF hI hargs => ?_, fn, hc.1, hb, hc.2⟩
  rcases cond_some hF with ⟨hp, hv⟩ | ⟨_, hv⟩
  · simp only [mkG] at hp hv
    obtain ⟨x, h1, h2⟩ := Option.bind_eq_some_iff.1 hv
    cases h2
    rw [h1] at hp
    simp only [Option.bind_some, Option.getD_some] at hp
    rw [((codS st).a .nil).ok _ _ h1] at hargs
    obtain ⟨v, us, rfl, h3, h4⟩ := hargs
    have h4 : us = [] := h4
    subst h4
    cases hVx : V x.1 with
    | none => rw [hVx] at hp; cases hp
    | some r =>
      obtain ⟨rfl, hle⟩ := hV _ _ hVx
      refine (h I w x.1 v hI h3 hle).mono ?_
      rintro e w' ⟨v', rfl, hb, hown⟩
      refine ⟨v', rfl, hb, ?_⟩
      rcases hown.2 with ⟨rfl, h1⟩ | ⟨q, cap, cur, rfl, h1, h2, h3, h4, h5, h6⟩
      · exact ⟨none, 0, by rw [Option.getD_some, h1], by simp [h1], .inl (by simp [h1]), trivial⟩
      · refine ⟨_, cap, rfl, h3, .inr ⟨q, 0, rfl, fun j u hj => ⟨.inr ⟨h1, (Array.getElem?_eq_some_iff.1 h2).1⟩, ?_⟩⟩, trivial⟩
        have := hown.cells (g := q) rfl j u hj
        simpa [Addr.add_lit, xAt] using this
  · cases hv
def V125 (l : List Cell) : Option (List Cell) := bif decide (l.length * 48 ≤ 70368744177664) then some l else none
def V161 (l : List Spot) : Option (List Spot) := bif decide (l.length * 16 ≤ 70368744177664) then some l else none
def V92 (l : List Wish) : Option (List Wish) := bif decide (l.length * 32 ≤ 70368744177664) then some l else none
theorem vclone {α : Type} {eb : Nat} (l r : List α) (h : (bif decide (l.length * eb ≤ 70368744177664) then some l else none) = some r) : r = l ∧ l.length * eb ≤ 70368744177664 := by
  rcases cond_some h with ⟨h1, h2⟩ | ⟨_, h2⟩
  · cases h2; exact ⟨rfl, of_decide_eq_true h1⟩
  · cases h2
def F125 (l : List Cell) : List Cell := (V125 l).getD default
def F161 (l : List Spot) : List Spot := (V161 l).getD default
def F92 (l : List Wish) : List Wish := (V92 l).getD default
noncomputable def G125 : GE := mkG [(0, none, .cell)] ((codS .cell).a .nil) (fun x => V125 x.1) (codS .cell)
noncomputable def G161 : GE := mkG [(0, none, .spot)] ((codS .spot).a .nil) (fun x => V161 x.1) (codS .spot)
noncomputable def G92 : GE := mkG [(0, none, .wish)] ((codS .wish).a .nil) (fun x => V92 x.1) (codS .wish)
theorem ge125 : GeOk 125 G125 := clone_spec (st := .cell) c125 (by kernel_rfl) cl125 vclone
theorem ge161 : GeOk 161 G161 := clone_spec (st := .spot) c161 (by kernel_rfl) cl161 vclone
theorem ge92 : GeOk 92 G92 := clone_spec (st := .wish) c92 (by kernel_rfl) cl92 vclone

/-! ### cellmsg.rows: a map that nobody writes any more -/
theorem c235 : CdOk 235 Tryz.f235 := ⟨by kernel_rfl, by kernel_rfl⟩
noncomputable def C235 : Cfg := { base [] [(235, Tryz.f235)] [] [] [] [] [] with raw := true }
def rowsK : List Int := [1, 2, 3, 4, 5, 6]
def rowsVs : List AV := [.agg [.fn 254 [] [], .fn 255 [] []], .agg [.fn 253 [] [], .fn 253 [] []], .agg [.fn 256 [] [], .fn 257 [] []], .agg [.fn 252 [] [], .fn 258 [] []], .agg [.fn 252 [] [], .fn 259 [] []], .agg [.fn 252 [] [], .fn 252 [] []]]
theorem r235 (n : Nat) : startK C235 (up 60 n) 235 Tryz.f235 [] = some (.mp 3 true rowsK rowsVs) := by kernel_rfl
theorem fm235 : FmapOk Q 235 rowsK rowsVs := by
  intro w
  have hC : COk Q elT C235 := COk.raw (base_ok .nil (.cons c235 .nil) .nil)
  refine (am_coreK hC c235.1 (I := fun _ _ => False) (args := []) (vs := []) (r235 0) (fun _ _ h => h.elim) rfl).mono ?_
  rintro e w' ⟨v', rfl, hb, hf⟩
  unfold FinR at hf
  have hraw : C235.raw = true := rfl
  rw [if_pos hraw] at hf
  obtain ⟨x, B, rfl, h3, h4, hs, hR⟩ := hf
  obtain ⟨b, ents, ck, rfl, _, h5, _, h6, h7⟩ := hR
  exact ⟨b, ents, ck, rfl, hb, by rw [← h3]; exact (hs.owlt _ _ h5).2, h6, h7⟩
def L235 : LE := .fmap rowsK rowsVs
theorem le235 : LinGood 235 L235 := ⟨fm235, _, c235.1, by kernel_rfl, c235.2⟩
end Go.Am
