/- Part 25 of the proof: Am24. -/
import Derived.Test.YtapedmpbgeoieaaGreatC7p22
import Derived.Test.YtapedmpbgeoieaaGreatC7p24
set_option linter.unusedSimpArgs false
set_option linter.unusedVariables false
namespace Go.Am
open Go
set_option linter.unusedVariables false
def sel : List Nat → Code → Code
  | [], c => c
  | 0 :: p, .seq a _ => sel p a
  | 1 :: p, .seq _ b => sel p b
  | 0 :: p, .cond _ x _ => sel p x
  | 1 :: p, .cond _ _ y => sel p y
  | 0 :: p, .block _ b => sel p b
  | 0 :: p, .loop b => sel p b
  | _, c => c
def bodyA (fn : Func) : Code := fn.body.getD .skip
def opsA : Code → Array Oper
  | .region _ ops _ => ops
  | _ => #[]
theorem dec_row {st : ST} {cs : List AV} {x : st.El} (h : st.dec cs = some x) : cs = st.row x := by
  unfold ST.dec at h
  split at h <;> first | (cases h; rfl) | cases h
def un : Nat → List AV
  | 0 => []
  | n + 1 => .undef :: un n
def nb : Nat → List (List AV)
  | 0 => []
  | n + 1 => [] :: nb n
/-- What a run comes to in the end. -/
noncomputable def lim (f : Nat → Option AV) : Option AV := by
  classical exact if h : ∃ r n, ∀ m, n ≤ m → f m = some r then some (Classical.choose h) else none
theorem lim_some {f : Nat → Option AV} {r : AV} : lim f = some r ↔ ∃ n, ∀ m, n ≤ m → f m = some r := by
  unfold lim
  constructor
  · intro h
    split at h
    · rename_i hx
      cases h
      exact Classical.choose_spec hx
    · cases h
  · rintro ⟨n, hn⟩
    have hx : ∃ r n, ∀ m, n ≤ m → f m = some r := ⟨r, n, hn⟩
    rw [dif_pos hx]
    obtain ⟨n', hn'⟩ := Classical.choose_spec hx
    have h1 := hn (max n n') (Nat.le_max_left _ _)
    rw [hn' (max n n') (Nat.le_max_right _ _)] at h1
    exact h1
theorem lim_congr {f g : Nat → Option AV} (h : ∀ r, (∃ n, ∀ m, n ≤ m → f m = some r) ↔ (∃ n, ∀ m, n ≤ m → g m = some r)) : lim f = lim g := by
  cases hf : lim f with
  | some r => exact (lim_some.2 ((h r).1 (lim_some.1 hf))).symm
  | none =>
    cases hg : lim g with
    | none => rfl
    | some r => rw [lim_some.2 ((h r).2 (lim_some.1 hg))] at hf; cases hf
theorem lim_up (f : Nat → Option AV) (k : Nat) : lim (fun n => f (up k n)) = lim f := by
  refine lim_congr fun r => ⟨?_, ?_⟩
  · rintro ⟨n, hn⟩
    refine ⟨n + k, fun m hm => ?_⟩
    have := hn (m - k) (by omega)
    rwa [up_eq, Nat.sub_add_cancel (by omega)] at this
  · rintro ⟨n, hn⟩
    exact ⟨n, fun m hm => hn _ (by rw [up_eq]; omega)⟩
theorem lim_const (r : AV) : lim (fun _ => some r) = some r := lim_some.2 ⟨0, fun _ _ => rfl⟩
theorem lim_none : lim (fun _ => none) = none := by
  cases h : lim (fun _ => none) with
  | none => rfl
  | some r => obtain ⟨n, hn⟩ := lim_some.1 h; cases hn n (Nat.le_refl _)
/-- How results are laid down as abstract values. -/
structure Cod (R : Type) where
  enc : R → AV
  dec : AV → Option R
  ok : ∀ v r, dec v = some r → v = enc r
  de : ∀ r, dec (enc r) = some r
noncomputable def vlim {R : Type} (cod : Cod R) (f : Nat → Option AV) : Option R := (lim f).bind cod.dec
theorem vlim_some {R : Type} [Inhabited R] {cod : Cod R} {f : Nat → Option AV} (h : (vlim cod f).isSome = true) : ∃ n, f n = some (cod.enc ((vlim cod f).getD default)) := by
  unfold vlim at h ⊢
  cases hf : lim f with
  | none => rw [hf] at h; cases h
  | some v =>
    rw [hf] at h
    simp only [Option.bind_some] at h ⊢
    cases hd : cod.dec v with
    | none => rw [hd] at h; cases h
    | some r =>
      obtain ⟨n, hn⟩ := lim_some.1 hf
      exact ⟨n, by rw [hn n (Nat.le_refl _), cod.ok v r hd]; rfl⟩
/-- What a stretch of a function's walk comes to. -/
structure St where
  mrk : Nat
  fr : Fr
  cs : List Fr
inductive Tr (R : Type) where
  | none
  | some (r : R)
  | go (s : St)
  | cond (c : Bool) (a b : Tr R)
def Tr.onH {R : Type} (cod : Cod R) : Tr R → Hook → Option AV
  | .none, _ => Option.none
  | .some r, _ => Option.some (cod.enc r)
  | .go s, H => H s.mrk s.fr s.cs
  | .cond c a b, H => _root_.cond c (a.onH cod H) (b.onH cod H)
/-- What the machine comes to from a state. -/
noncomputable def lv {R : Type} (cod : Cod R) (C : Cfg) (s : St) : Option R := vlim cod fun n => run C n s.mrk s.fr s.cs
noncomputable def Tr.val {R : Type} (cod : Cod R) (C : Cfg) : Tr R → Option R
  | .none => Option.none
  | .some r => Option.some r
  | .go s => lv cod C s
  | .cond c a b => _root_.cond c (a.val cod C) (b.val cod C)
theorem Tr.lim_eq {R : Type} (cod : Cod R) (C : Cfg) : ∀ t : Tr R, (lim fun n => t.onH cod (run C n)).bind cod.dec = t.val cod C
  | .none => by
    show (lim (fun _ => Option.none)).bind cod.dec = _
    rw [lim_none]; rfl
  | .some r => by
    show (lim (fun _ => Option.some (cod.enc r))).bind cod.dec = _
    rw [lim_const]; exact cod.de r
  | .go s => rfl
  | .cond c a b => by
    cases c
    · exact Tr.lim_eq cod C b
    · exact Tr.lim_eq cod C a
theorem lim_hook {C : Cfg} {f : Nat → Option AV} {t : Hook → Option AV} {K : Nat} (hA : ∀ m v, t (run C m) = some v → f (K + m) = some v) (hB : ∀ q m v, q ≤ m → f q = some v → t (run C m) = some v) : lim f = lim fun n => t (run C n) := by
  refine lim_congr fun r => ⟨?_, ?_⟩
  · rintro ⟨n, hn⟩
    exact ⟨n, fun m hm => hB m m r (Nat.le_refl _) (hn m hm)⟩
  · rintro ⟨n, hn⟩
    refine ⟨K + n, fun m hm => ?_⟩
    have := hA (m - K) r (hn (m - K) (by omega))
    rwa [Nat.add_sub_cancel' (by omega)] at this
theorem Tr.lv_eq {R : Type} {cod : Cod R} {C : Cfg} {s : St} {t : Tr R} (K : Nat)
    (h : ∀ H z, runH C H z K s.mrk s.fr.f s.fr.tmps s.fr.bx s.fr.items s.cs = t.onH cod H) : lv cod C s = t.val cod C := by
  rw [← Tr.lim_eq, lv, vlim]
  congr 1
  refine lim_hook (t := fun H => t.onH cod H) (K := K) (fun m v hv => ?_) (fun q m v hq hv => ?_)
  · rw [← h (run C m) Option.none, runH_eq] at hv
    exact runHp_run C m _ _ _ _ _ hv
  · rw [← h (run C m) (Option.some v), runH_eq]
    exact run_runHp C m K q hq _ _ _ _ hv
theorem Tr.val_eq {R : Type} {cod : Cod R} {C : Cfg} {f : Nat} {fn : Func} {vs : List AV} {t : Tr R} (K : Nat)
    (h : ∀ H z, startH C H z K f fn vs = t.onH cod H) : vlim cod (fun n => startK C n f fn vs) = t.val cod C := by
  rw [← Tr.lim_eq, vlim]
  congr 1
  refine lim_hook (t := fun H => t.onH cod H) (K := K) (fun m v hv => ?_) (fun q m v hq hv => ?_)
  · rw [← h (run C m) Option.none, startH_eq] at hv
    rw [startK_runK]
    cases hb : fn.body with
    | none => rw [hb] at hv; cases hv
    | some c => rw [hb] at hv; exact runHp_run C m _ _ _ _ _ hv
  · rw [← h (run C m) (Option.some v), startH_eq]
    rw [startK_runK] at hv
    cases hb : fn.body with
    | none => rw [hb] at hv; cases hv
    | some c => rw [hb] at hv; exact run_runHp C m K q hq _ _ _ _ hv
def codI : Cod Int := {
  enc := .int .i64
  dec := fun | .int .i64 n => some n | _ => none
  ok := fun v r h => by
    split at h <;> first | (cases h; rfl) | cases h
  de := fun _ => rfl }
def codU : Cod Int := {
  enc := .int .u8
  dec := fun | .int .u8 n => some n | _ => none
  ok := fun v r h => by
    split at h <;> first | (cases h; rfl) | cases h
  de := fun _ => rfl }
def codB : Cod Bool := {
  enc := .bool
  dec := fun | .bool n => some n | _ => none
  ok := fun v r h => by
    split at h <;> first | (cases h; rfl) | cases h
  de := fun _ => rfl }
def codS (st : ST) : Cod (List st.El) := {
  enc := fun l => .sl st l .none
  dec := fun | .sl st' l .none => if h : st' = st then some (h ▸ l) else none | _ => none
  ok := fun v r h => by
    split at h
    · split at h
      · rename_i hst; subst hst; cases h; rfl
      · cases h
    · cases h
  de := fun _ => by simp }
def codE (st : ST) : Cod st.El := {
  enc := fun x => .agg (st.row x)
  dec := fun | .agg l => st.dec l | _ => none
  ok := fun v r h => by
    split at h
    · rw [dec_row h]
    · cases h
  de := fun x => by cases st <;> rfl }
def codT2 {A B : Type} (a : Cod A) (b : Cod B) : Cod (A × B) := {
  enc := fun r => .tup [a.enc r.1, b.enc r.2]
  dec := fun | .tup [x, y] => (a.dec x).bind fun x => (b.dec y).map fun y => (x, y) | _ => none
  ok := fun v r h => by
    split at h
    · obtain ⟨x, h1, h2⟩ := Option.bind_eq_some_iff.1 h
      obtain ⟨y, h3, rfl⟩ := Option.map_eq_some_iff.1 h2
      rw [a.ok _ _ h1, b.ok _ _ h3]
    · cases h
  de := fun r => by simp [a.de, b.de] }
def codT3 {A B C : Type} (a : Cod A) (b : Cod B) (c : Cod C) : Cod (A × B × C) := {
  enc := fun r => .tup [a.enc r.1, b.enc r.2.1, c.enc r.2.2]
  dec := fun | .tup [x, y, z] => (a.dec x).bind fun x => (b.dec y).bind fun y => (c.dec z).map fun z => (x, y, z) | _ => none
  ok := fun v r h => by
    split at h
    · obtain ⟨x, h1, h2⟩ := Option.bind_eq_some_iff.1 h
      obtain ⟨y, h3, h4⟩ := Option.bind_eq_some_iff.1 h2
      obtain ⟨z, h5, rfl⟩ := Option.map_eq_some_iff.1 h4
      rw [a.ok _ _ h1, b.ok _ _ h3, c.ok _ _ h5]
    · cases h
  de := fun r => by simp [a.de, b.de, c.de] }
def codT4 {A B C D : Type} (a : Cod A) (b : Cod B) (c : Cod C) (d : Cod D) : Cod (A × B × C × D) := {
  enc := fun r => .tup [a.enc r.1, b.enc r.2.1, c.enc r.2.2.1, d.enc r.2.2.2]
  dec := fun | .tup [x, y, z, u] => (a.dec x).bind fun x => (b.dec y).bind fun y => (c.dec z).bind fun z => (d.dec u).map fun u => (x, y, z, u) | _ => none
  ok := fun v r h => by
    split at h
    · obtain ⟨x, h1, h2⟩ := Option.bind_eq_some_iff.1 h
      obtain ⟨y, h3, h4⟩ := Option.bind_eq_some_iff.1 h2
      obtain ⟨z, h5, h6⟩ := Option.bind_eq_some_iff.1 h4
      obtain ⟨u, h7, rfl⟩ := Option.map_eq_some_iff.1 h6
      rw [a.ok _ _ h1, b.ok _ _ h3, c.ok _ _ h5, d.ok _ _ h7]
    · cases h
  de := fun r => by simp [a.de, b.de, c.de, d.de] }
/-- Ways into a function's code, numbers. -/
def bp : Nat → Nat → Code → Code
  | 0, _, c => c
  | n + 1, p, c => match c with
    | .seq a b => bif p % 2 == 0 then bp n (p / 2) a else bp n (p / 2) b
    | .cond _ a b => bif p % 2 == 0 then bp n (p / 2) a else bp n (p / 2) b
    | .block _ b => bp n (p / 2) b
    | .loop b => bp n (p / 2) b
    | c => c
def fr (i : Nat) : Nat → List Nat
  | 0 => []
  | n + 1 => i :: fr (i + 1) n
def rs : List (Nat × Nat) → List Nat
  | [] => []
  | (i, n) :: l => fr i n ++ rs l
abbrev ib {α : Type} (i : Int) (l : List α) : Bool := decide (0 ≤ i ∧ i < l.length)
abbrev ic {α : Type} (i : Int) (l : List α) : Bool := decide (0 ≤ i ∧ i ≤ l.length)
abbrev il {α : Type} (l m : List α) (eb : Nat) : Bool := decide ((l.length + m.length) * eb ≤ 70368744177664)
/-- Arguments. -/
structure ACod (A : Type) where
  enc : A → List AV
  dec : List AV → Option A
  ok : ∀ vs a, dec vs = some a → vs = enc a
def ACod.nil : ACod Unit := {
  enc := fun _ => []
  dec := fun | [] => some () | _ => none
  ok := fun vs a h => by
    split at h
    · rfl
    · cases h }
def Cod.a {A B : Type} (c : Cod A) (d : ACod B) : ACod (A × B) := {
  enc := fun x => c.enc x.1 :: d.enc x.2
  dec := fun | v :: vs => (c.dec v).bind fun x => (d.dec vs).bind fun y => some (x, y) | _ => none
  ok := fun vs a h => by
    split at h
    · obtain ⟨x, h1, h2⟩ := Option.bind_eq_some_iff.1 h
      obtain ⟨y, h3, h4⟩ := Option.bind_eq_some_iff.1 h2
      cases h4
      rw [c.ok _ _ h1, d.ok _ _ h3]
    · cases h }
noncomputable def mkG {A R : Type} [Inhabited R] (nrm : List (Nat × Option Nat × ST)) (a : ACod A) (V : A → Option R) (cod : Cod R) : GE := {
  nrm := nrm
  pre := fun vs => ((a.dec vs).bind fun x => some (V x).isSome).getD false
  val := fun vs => (a.dec vs).bind fun x => some (cod.enc ((V x).getD default)) }
def GeOk (g : Nat) (G : GE) : Prop := Spec Q elT g G.F ∧ ∃ fn, Q.funcs[g]? = some fn ∧ fn.body.isSome = true ∧ (fn.name == "runtime.NumGoroutine") = false
def CdOk (g : Nat) (fn : Func) : Prop := Q.funcs[g]? = some fn ∧ (fn.name == "runtime.NumGoroutine") = false
theorem ge_mk {A R : Type} [Inhabited R] {nrm : List (Nat × Option Nat × ST)} {a : ACod A} {V : A → Option R} {cod : Cod R} {C : Cfg} (hC : COk Q elT C) (hraw : C.raw = false) {f : Nat} {fn : Func} (hc : CdOk f fn)
    (hV : ∀ x, V x = vlim cod (fun n => startK C n f fn (a.enc x))) (hb : fn.body.isSome = true) : GeOk f (mkG nrm a V cod) := by
  refine ⟨am_specK hC hraw hc.1 fun args r _ h => ?_, fn, hc.1, hb, hc.2⟩
  rcases cond_some h with ⟨hp, hv⟩ | ⟨_, hv⟩
  · simp only [mkG] at hp hv
    obtain ⟨x, h1, h2⟩ := Option.bind_eq_some_iff.1 hv
    cases h2
    rw [h1] at hp
    simp only [Option.bind_some, Option.getD_some] at hp
    rw [a.ok _ _ h1]
    rw [hV x] at hp ⊢
    exact vlim_some hp
  · cases hv
/-- Lists of values, one behind the other. -/
def ap (a b : List AV) : List AV := a ++ b
def aq (a b : List (List AV)) : List (List AV) := a ++ b
def nth (st : ST) (l : List st.El) (i : Int) : st.El := l.getD i.toNat st.dflt
structure Msg where
  kind : Int
  rep : Bool
  num : Int
  code : Int
  cnt : Int
  sp : List Spot
  old : List Spot
  deriving DecidableEq, Inhabited
structure End where
  nd : Int
  pr : Int
  num : Int
  cl : List Cell
  opn : Bool
  snc : Int
  ask : Msg
  kn : Bool
  lst : Msg
  rp : Msg
  deriving DecidableEq, Inhabited
structure Tab where
  nd : Int
  len : Int
  cl : List Cell
  deriving DecidableEq, Inhabited
structure Cpl where
  a : End
  b : End
  ta : Tab
  tb : Tab
  free : List Int
  per : Int
  frm : Int
  wa : Bool
  wb : Bool
  deriving DecidableEq, Inhabited
structure Cp2 where
  a : End
  b : End
  ta : Tab
  tb : Tab
  free : List Int
  deriving DecidableEq, Inhabited
structure Side where
  e : End
  t : Tab
  deriving DecidableEq, Inhabited
structure Exch where
  rq : Bool
  rp : Bool
  rqa : Bool
  rpa : Bool
  deriving DecidableEq, Inhabited
structure Ans where
  e : End
  m : Msg
  us : List Spot
  cnt : Int
  sp : List Spot
  mv : List Spot
  deriving DecidableEq, Inhabited
structure Exg where
  ask : Side
  oth : Side
  free : List Int
  fate : Exch
  rq : Msg
  rp : Msg
  code : Int
  deriving DecidableEq, Inhabited
structure Sent where
  sm : Bool
  ot : Bool
  deriving DecidableEq, Inhabited
structure T206 where
  f206_0 : List Int
  f206_1 : Int
  f206_2 : Int
  deriving DecidableEq, Inhabited
theorem dsplit {α : Type} (l : List α) (n m : Nat) : l.drop n = (l.drop n).take m ++ l.drop (n + m) := by rw [← List.drop_drop]; exact (List.take_append_drop m (l.drop n)).symm
def enc25 (x : Msg) : List AV := [.int .i64 x.kind, .bool x.rep, .int .i64 x.num, .int .i64 x.code, .int .i64 x.cnt, .sl .spot x.sp .none, .sl .spot x.old .none]
def dec25 : List AV → Option Msg
  | [.int .i64 a0, .bool a1, .int .i64 a2, .int .i64 a3, .int .i64 a4, .sl .spot a5 .none, .sl .spot a6 .none] => some ⟨a0, a1, a2, a3, a4, a5, a6⟩
  | _ => none
theorem dec25_enc (x : Msg) : dec25 (enc25 x) = some x := rfl
theorem enc25_of {l : List AV} {x : Msg} (h : dec25 l = some x) : l = enc25 x := by
  unfold dec25 at h
  split at h
  · cases h; rfl
  · cases h
def enc27 (x : End) : List AV := [.int .i64 x.nd, .int .i64 x.pr, .int .i64 x.num, .sl .cell x.cl .none, .bool x.opn, .int .i64 x.snc, .int .i64 x.ask.kind, .bool x.ask.rep, .int .i64 x.ask.num, .int .i64 x.ask.code, .int .i64 x.ask.cnt, .sl .spot x.ask.sp .none, .sl .spot x.ask.old .none, .bool x.kn, .int .i64 x.lst.kind, .bool x.lst.rep, .int .i64 x.lst.num, .int .i64 x.lst.code, .int .i64 x.lst.cnt, .sl .spot x.lst.sp .none, .sl .spot x.lst.old .none, .int .i64 x.rp.kind, .bool x.rp.rep, .int .i64 x.rp.num, .int .i64 x.rp.code, .int .i64 x.rp.cnt, .sl .spot x.rp.sp .none, .sl .spot x.rp.old .none]
def dec27 : List AV → Option End
  | [.int .i64 a0, .int .i64 a1, .int .i64 a2, .sl .cell a3 .none, .bool a4, .int .i64 a5, .int .i64 a6_0, .bool a6_1, .int .i64 a6_2, .int .i64 a6_3, .int .i64 a6_4, .sl .spot a6_5 .none, .sl .spot a6_6 .none, .bool a7, .int .i64 a8_0, .bool a8_1, .int .i64 a8_2, .int .i64 a8_3, .int .i64 a8_4, .sl .spot a8_5 .none, .sl .spot a8_6 .none, .int .i64 a9_0, .bool a9_1, .int .i64 a9_2, .int .i64 a9_3, .int .i64 a9_4, .sl .spot a9_5 .none, .sl .spot a9_6 .none] => some ⟨a0, a1, a2, a3, a4, a5, ⟨a6_0, a6_1, a6_2, a6_3, a6_4, a6_5, a6_6⟩, a7, ⟨a8_0, a8_1, a8_2, a8_3, a8_4, a8_5, a8_6⟩, ⟨a9_0, a9_1, a9_2, a9_3, a9_4, a9_5, a9_6⟩⟩
  | _ => none
theorem dec27_enc (x : End) : dec27 (enc27 x) = some x := rfl
theorem enc27_of {l : List AV} {x : End} (h : dec27 l = some x) : l = enc27 x := by
  unfold dec27 at h
  split at h
  · cases h; rfl
  · cases h
def enc29 (x : Tab) : List AV := [.int .i64 x.nd, .int .i64 x.len, .sl .cell x.cl .none]
def dec29 : List AV → Option Tab
  | [.int .i64 a0, .int .i64 a1, .sl .cell a2 .none] => some ⟨a0, a1, a2⟩
  | _ => none
theorem dec29_enc (x : Tab) : dec29 (enc29 x) = some x := rfl
theorem enc29_of {l : List AV} {x : Tab} (h : dec29 l = some x) : l = enc29 x := by
  unfold dec29 at h
  split at h
  · cases h; rfl
  · cases h
def enc94 (x : Cpl) : List AV := [.int .i64 x.a.nd, .int .i64 x.a.pr, .int .i64 x.a.num, .sl .cell x.a.cl .none, .bool x.a.opn, .int .i64 x.a.snc, .int .i64 x.a.ask.kind, .bool x.a.ask.rep, .int .i64 x.a.ask.num, .int .i64 x.a.ask.code, .int .i64 x.a.ask.cnt, .sl .spot x.a.ask.sp .none, .sl .spot x.a.ask.old .none, .bool x.a.kn, .int .i64 x.a.lst.kind, .bool x.a.lst.rep, .int .i64 x.a.lst.num, .int .i64 x.a.lst.code, .int .i64 x.a.lst.cnt, .sl .spot x.a.lst.sp .none, .sl .spot x.a.lst.old .none, .int .i64 x.a.rp.kind, .bool x.a.rp.rep, .int .i64 x.a.rp.num, .int .i64 x.a.rp.code, .int .i64 x.a.rp.cnt, .sl .spot x.a.rp.sp .none, .sl .spot x.a.rp.old .none, .int .i64 x.b.nd, .int .i64 x.b.pr, .int .i64 x.b.num, .sl .cell x.b.cl .none, .bool x.b.opn, .int .i64 x.b.snc, .int .i64 x.b.ask.kind, .bool x.b.ask.rep, .int .i64 x.b.ask.num, .int .i64 x.b.ask.code, .int .i64 x.b.ask.cnt, .sl .spot x.b.ask.sp .none, .sl .spot x.b.ask.old .none, .bool x.b.kn, .int .i64 x.b.lst.kind, .bool x.b.lst.rep, .int .i64 x.b.lst.num, .int .i64 x.b.lst.code, .int .i64 x.b.lst.cnt, .sl .spot x.b.lst.sp .none, .sl .spot x.b.lst.old .none, .int .i64 x.b.rp.kind, .bool x.b.rp.rep, .int .i64 x.b.rp.num, .int .i64 x.b.rp.code, .int .i64 x.b.rp.cnt, .sl .spot x.b.rp.sp .none, .sl .spot x.b.rp.old .none, .int .i64 x.ta.nd, .int .i64 x.ta.len, .sl .cell x.ta.cl .none, .int .i64 x.tb.nd, .int .i64 x.tb.len, .sl .cell x.tb.cl .none, .sl .int x.free .none, .int .i64 x.per, .int .i64 x.frm, .bool x.wa, .bool x.wb]
def dec94 (l : List AV) : Option Cpl :=
  match dec27 ((l.drop 0).take 28), dec27 ((l.drop 28).take 28), dec29 ((l.drop 56).take 3), dec29 ((l.drop 59).take 3), (l.drop 62).take 5, l.drop 67 with
  | some a0, some a1, some a2, some a3, [.sl .int a4 .none, .int .i64 a5, .int .i64 a6, .bool a7, .bool a8], [] => some ⟨a0, a1, a2, a3, a4, a5, a6, a7, a8⟩
  | _, _, _, _, _, _ => none
theorem dec94_enc (x : Cpl) : dec94 (enc94 x) = some x := rfl
theorem enc94_of {l : List AV} {x : Cpl} (h : dec94 l = some x) : l = enc94 x := by
  unfold dec94 at h
  split at h
  · rename_i h0 h1 h2 h3 h4 h5
    cases h
    show l.drop 0 = _
    rw [dsplit l 0 28, enc27_of h0, dsplit l 28 28, enc27_of h1, dsplit l 56 3, enc29_of h2, dsplit l 59 3, enc29_of h3, dsplit l 62 5, h4, h5]
    rfl
  · cases h
def enc78 (x : Cp2) : List AV := [.int .i64 x.a.nd, .int .i64 x.a.pr, .int .i64 x.a.num, .sl .cell x.a.cl .none, .bool x.a.opn, .int .i64 x.a.snc, .int .i64 x.a.ask.kind, .bool x.a.ask.rep, .int .i64 x.a.ask.num, .int .i64 x.a.ask.code, .int .i64 x.a.ask.cnt, .sl .spot x.a.ask.sp .none, .sl .spot x.a.ask.old .none, .bool x.a.kn, .int .i64 x.a.lst.kind, .bool x.a.lst.rep, .int .i64 x.a.lst.num, .int .i64 x.a.lst.code, .int .i64 x.a.lst.cnt, .sl .spot x.a.lst.sp .none, .sl .spot x.a.lst.old .none, .int .i64 x.a.rp.kind, .bool x.a.rp.rep, .int .i64 x.a.rp.num, .int .i64 x.a.rp.code, .int .i64 x.a.rp.cnt, .sl .spot x.a.rp.sp .none, .sl .spot x.a.rp.old .none, .int .i64 x.b.nd, .int .i64 x.b.pr, .int .i64 x.b.num, .sl .cell x.b.cl .none, .bool x.b.opn, .int .i64 x.b.snc, .int .i64 x.b.ask.kind, .bool x.b.ask.rep, .int .i64 x.b.ask.num, .int .i64 x.b.ask.code, .int .i64 x.b.ask.cnt, .sl .spot x.b.ask.sp .none, .sl .spot x.b.ask.old .none, .bool x.b.kn, .int .i64 x.b.lst.kind, .bool x.b.lst.rep, .int .i64 x.b.lst.num, .int .i64 x.b.lst.code, .int .i64 x.b.lst.cnt, .sl .spot x.b.lst.sp .none, .sl .spot x.b.lst.old .none, .int .i64 x.b.rp.kind, .bool x.b.rp.rep, .int .i64 x.b.rp.num, .int .i64 x.b.rp.code, .int .i64 x.b.rp.cnt, .sl .spot x.b.rp.sp .none, .sl .spot x.b.rp.old .none, .int .i64 x.ta.nd, .int .i64 x.ta.len, .sl .cell x.ta.cl .none, .int .i64 x.tb.nd, .int .i64 x.tb.len, .sl .cell x.tb.cl .none, .sl .int x.free .none]
def dec78 (l : List AV) : Option Cp2 :=
  match dec27 ((l.drop 0).take 28), dec27 ((l.drop 28).take 28), dec29 ((l.drop 56).take 3), dec29 ((l.drop 59).take 3), (l.drop 62).take 1, l.drop 63 with
  | some a0, some a1, some a2, some a3, [.sl .int a4 .none], [] => some ⟨a0, a1, a2, a3, a4⟩
  | _, _, _, _, _, _ => none
theorem dec78_enc (x : Cp2) : dec78 (enc78 x) = some x := rfl
theorem enc78_of {l : List AV} {x : Cp2} (h : dec78 l = some x) : l = enc78 x := by
  unfold dec78 at h
  split at h
  · rename_i h0 h1 h2 h3 h4 h5
    cases h
    show l.drop 0 = _
    rw [dsplit l 0 28, enc27_of h0, dsplit l 28 28, enc27_of h1, dsplit l 56 3, enc29_of h2, dsplit l 59 3, enc29_of h3, dsplit l 62 1, h4, h5]
    rfl
  · cases h
def enc167 (x : Side) : List AV := [.int .i64 x.e.nd, .int .i64 x.e.pr, .int .i64 x.e.num, .sl .cell x.e.cl .none, .bool x.e.opn, .int .i64 x.e.snc, .int .i64 x.e.ask.kind, .bool x.e.ask.rep, .int .i64 x.e.ask.num, .int .i64 x.e.ask.code, .int .i64 x.e.ask.cnt, .sl .spot x.e.ask.sp .none, .sl .spot x.e.ask.old .none, .bool x.e.kn, .int .i64 x.e.lst.kind, .bool x.e.lst.rep, .int .i64 x.e.lst.num, .int .i64 x.e.lst.code, .int .i64 x.e.lst.cnt, .sl .spot x.e.lst.sp .none, .sl .spot x.e.lst.old .none, .int .i64 x.e.rp.kind, .bool x.e.rp.rep, .int .i64 x.e.rp.num, .int .i64 x.e.rp.code, .int .i64 x.e.rp.cnt, .sl .spot x.e.rp.sp .none, .sl .spot x.e.rp.old .none, .int .i64 x.t.nd, .int .i64 x.t.len, .sl .cell x.t.cl .none]
def dec167 : List AV → Option Side
  | [.int .i64 a0_0, .int .i64 a0_1, .int .i64 a0_2, .sl .cell a0_3 .none, .bool a0_4, .int .i64 a0_5, .int .i64 a0_6_0, .bool a0_6_1, .int .i64 a0_6_2, .int .i64 a0_6_3, .int .i64 a0_6_4, .sl .spot a0_6_5 .none, .sl .spot a0_6_6 .none, .bool a0_7, .int .i64 a0_8_0, .bool a0_8_1, .int .i64 a0_8_2, .int .i64 a0_8_3, .int .i64 a0_8_4, .sl .spot a0_8_5 .none, .sl .spot a0_8_6 .none, .int .i64 a0_9_0, .bool a0_9_1, .int .i64 a0_9_2, .int .i64 a0_9_3, .int .i64 a0_9_4, .sl .spot a0_9_5 .none, .sl .spot a0_9_6 .none, .int .i64 a1_0, .int .i64 a1_1, .sl .cell a1_2 .none] => some ⟨⟨a0_0, a0_1, a0_2, a0_3, a0_4, a0_5, ⟨a0_6_0, a0_6_1, a0_6_2, a0_6_3, a0_6_4, a0_6_5, a0_6_6⟩, a0_7, ⟨a0_8_0, a0_8_1, a0_8_2, a0_8_3, a0_8_4, a0_8_5, a0_8_6⟩, ⟨a0_9_0, a0_9_1, a0_9_2, a0_9_3, a0_9_4, a0_9_5, a0_9_6⟩⟩, ⟨a1_0, a1_1, a1_2⟩⟩
  | _ => none
theorem dec167_enc (x : Side) : dec167 (enc167 x) = some x := rfl
theorem enc167_of {l : List AV} {x : Side} (h : dec167 l = some x) : l = enc167 x := by
  unfold dec167 at h
  split at h
  · cases h; rfl
  · cases h
def enc60 (x : Exch) : List AV := [.bool x.rq, .bool x.rp, .bool x.rqa, .bool x.rpa]
def dec60 : List AV → Option Exch
  | [.bool a0, .bool a1, .bool a2, .bool a3] => some ⟨a0, a1, a2, a3⟩
  | _ => none
theorem dec60_enc (x : Exch) : dec60 (enc60 x) = some x := rfl
theorem enc60_of {l : List AV} {x : Exch} (h : dec60 l = some x) : l = enc60 x := by
  unfold dec60 at h
  split at h
  · cases h; rfl
  · cases h
def enc123 (x : Ans) : List AV := [.int .i64 x.e.nd, .int .i64 x.e.pr, .int .i64 x.e.num, .sl .cell x.e.cl .none, .bool x.e.opn, .int .i64 x.e.snc, .int .i64 x.e.ask.kind, .bool x.e.ask.rep, .int .i64 x.e.ask.num, .int .i64 x.e.ask.code, .int .i64 x.e.ask.cnt, .sl .spot x.e.ask.sp .none, .sl .spot x.e.ask.old .none, .bool x.e.kn, .int .i64 x.e.lst.kind, .bool x.e.lst.rep, .int .i64 x.e.lst.num, .int .i64 x.e.lst.code, .int .i64 x.e.lst.cnt, .sl .spot x.e.lst.sp .none, .sl .spot x.e.lst.old .none, .int .i64 x.e.rp.kind, .bool x.e.rp.rep, .int .i64 x.e.rp.num, .int .i64 x.e.rp.code, .int .i64 x.e.rp.cnt, .sl .spot x.e.rp.sp .none, .sl .spot x.e.rp.old .none, .int .i64 x.m.kind, .bool x.m.rep, .int .i64 x.m.num, .int .i64 x.m.code, .int .i64 x.m.cnt, .sl .spot x.m.sp .none, .sl .spot x.m.old .none, .sl .spot x.us .none, .int .i64 x.cnt, .sl .spot x.sp .none, .sl .spot x.mv .none]
def dec123 (l : List AV) : Option Ans :=
  match dec27 ((l.drop 0).take 28), dec25 ((l.drop 28).take 7), (l.drop 35).take 4, l.drop 39 with
  | some a0, some a1, [.sl .spot a2 .none, .int .i64 a3, .sl .spot a4 .none, .sl .spot a5 .none], [] => some ⟨a0, a1, a2, a3, a4, a5⟩
  | _, _, _, _ => none
theorem dec123_enc (x : Ans) : dec123 (enc123 x) = some x := rfl
theorem enc123_of {l : List AV} {x : Ans} (h : dec123 l = some x) : l = enc123 x := by
  unfold dec123 at h
  split at h
  · rename_i h0 h1 h2 h3
    cases h
    show l.drop 0 = _
    rw [dsplit l 0 28, enc27_of h0, dsplit l 28 7, enc25_of h1, dsplit l 35 4, h2, h3]
    rfl
  · cases h
def enc173 (x : Exg) : List AV := [.int .i64 x.ask.e.nd, .int .i64 x.ask.e.pr, .int .i64 x.ask.e.num, .sl .cell x.ask.e.cl .none, .bool x.ask.e.opn, .int .i64 x.ask.e.snc, .int .i64 x.ask.e.ask.kind, .bool x.ask.e.ask.rep, .int .i64 x.ask.e.ask.num, .int .i64 x.ask.e.ask.code, .int .i64 x.ask.e.ask.cnt, .sl .spot x.ask.e.ask.sp .none, .sl .spot x.ask.e.ask.old .none, .bool x.ask.e.kn, .int .i64 x.ask.e.lst.kind, .bool x.ask.e.lst.rep, .int .i64 x.ask.e.lst.num, .int .i64 x.ask.e.lst.code, .int .i64 x.ask.e.lst.cnt, .sl .spot x.ask.e.lst.sp .none, .sl .spot x.ask.e.lst.old .none, .int .i64 x.ask.e.rp.kind, .bool x.ask.e.rp.rep, .int .i64 x.ask.e.rp.num, .int .i64 x.ask.e.rp.code, .int .i64 x.ask.e.rp.cnt, .sl .spot x.ask.e.rp.sp .none, .sl .spot x.ask.e.rp.old .none, .int .i64 x.ask.t.nd, .int .i64 x.ask.t.len, .sl .cell x.ask.t.cl .none, .int .i64 x.oth.e.nd, .int .i64 x.oth.e.pr, .int .i64 x.oth.e.num, .sl .cell x.oth.e.cl .none, .bool x.oth.e.opn, .int .i64 x.oth.e.snc, .int .i64 x.oth.e.ask.kind, .bool x.oth.e.ask.rep, .int .i64 x.oth.e.ask.num, .int .i64 x.oth.e.ask.code, .int .i64 x.oth.e.ask.cnt, .sl .spot x.oth.e.ask.sp .none, .sl .spot x.oth.e.ask.old .none, .bool x.oth.e.kn, .int .i64 x.oth.e.lst.kind, .bool x.oth.e.lst.rep, .int .i64 x.oth.e.lst.num, .int .i64 x.oth.e.lst.code, .int .i64 x.oth.e.lst.cnt, .sl .spot x.oth.e.lst.sp .none, .sl .spot x.oth.e.lst.old .none, .int .i64 x.oth.e.rp.kind, .bool x.oth.e.rp.rep, .int .i64 x.oth.e.rp.num, .int .i64 x.oth.e.rp.code, .int .i64 x.oth.e.rp.cnt, .sl .spot x.oth.e.rp.sp .none, .sl .spot x.oth.e.rp.old .none, .int .i64 x.oth.t.nd, .int .i64 x.oth.t.len, .sl .cell x.oth.t.cl .none, .sl .int x.free .none, .bool x.fate.rq, .bool x.fate.rp, .bool x.fate.rqa, .bool x.fate.rpa, .int .i64 x.rq.kind, .bool x.rq.rep, .int .i64 x.rq.num, .int .i64 x.rq.code, .int .i64 x.rq.cnt, .sl .spot x.rq.sp .none, .sl .spot x.rq.old .none, .int .i64 x.rp.kind, .bool x.rp.rep, .int .i64 x.rp.num, .int .i64 x.rp.code, .int .i64 x.rp.cnt, .sl .spot x.rp.sp .none, .sl .spot x.rp.old .none, .int .i64 x.code]
def dec173 (l : List AV) : Option Exg :=
  match dec167 ((l.drop 0).take 31), dec167 ((l.drop 31).take 31), (l.drop 62).take 1, dec60 ((l.drop 63).take 4), dec25 ((l.drop 67).take 7), dec25 ((l.drop 74).take 7), (l.drop 81).take 1, l.drop 82 with
  | some a0, some a1, [.sl .int a2 .none], some a3, some a4, some a5, [.int .i64 a6], [] => some ⟨a0, a1, a2, a3, a4, a5, a6⟩
  | _, _, _, _, _, _, _, _ => none
theorem dec173_enc (x : Exg) : dec173 (enc173 x) = some x := rfl
theorem enc173_of {l : List AV} {x : Exg} (h : dec173 l = some x) : l = enc173 x := by
  unfold dec173 at h
  split at h
  · rename_i h0 h1 h2 h3 h4 h5 h6 h7
    cases h
    show l.drop 0 = _
    rw [dsplit l 0 31, enc167_of h0, dsplit l 31 31, enc167_of h1, dsplit l 62 1, h2, dsplit l 63 4, enc60_of h3, dsplit l 67 7, enc25_of h4, dsplit l 74 7, enc25_of h5, dsplit l 81 1, h6, h7]
    rfl
  · cases h
def enc183 (x : Sent) : List AV := [.bool x.sm, .bool x.ot]
def dec183 : List AV → Option Sent
  | [.bool a0, .bool a1] => some ⟨a0, a1⟩
  | _ => none
theorem dec183_enc (x : Sent) : dec183 (enc183 x) = some x := rfl
theorem enc183_of {l : List AV} {x : Sent} (h : dec183 l = some x) : l = enc183 x := by
  unfold dec183 at h
  split at h
  · cases h; rfl
  · cases h
def enc206 (x : T206) : List AV := [.sl .u8 x.f206_0 .none, .int .i64 x.f206_1, .int .i64 x.f206_2]
def dec206 : List AV → Option T206
  | [.sl .u8 a0 .none, .int .i64 a1, .int .i64 a2] => some ⟨a0, a1, a2⟩
  | _ => none
theorem dec206_enc (x : T206) : dec206 (enc206 x) = some x := rfl
theorem enc206_of {l : List AV} {x : T206} (h : dec206 l = some x) : l = enc206 x := by
  unfold dec206 at h
  split at h
  · cases h; rfl
  · cases h
def cod25 : Cod Msg := {
  enc := fun x => .agg (enc25 x)
  dec := fun | .agg l => dec25 l | _ => none
  ok := fun v r h => by
    split at h
    · rw [enc25_of h]
    · cases h
  de := dec25_enc }
def cod27 : Cod End := {
  enc := fun x => .agg (enc27 x)
  dec := fun | .agg l => dec27 l | _ => none
  ok := fun v r h => by
    split at h
    · rw [enc27_of h]
    · cases h
  de := dec27_enc }
def cod29 : Cod Tab := {
  enc := fun x => .agg (enc29 x)
  dec := fun | .agg l => dec29 l | _ => none
  ok := fun v r h => by
    split at h
    · rw [enc29_of h]
    · cases h
  de := dec29_enc }
def cod94 : Cod Cpl := {
  enc := fun x => .agg (enc94 x)
  dec := fun | .agg l => dec94 l | _ => none
  ok := fun v r h => by
    split at h
    · rw [enc94_of h]
    · cases h
  de := dec94_enc }
def cod78 : Cod Cp2 := {
  enc := fun x => .agg (enc78 x)
  dec := fun | .agg l => dec78 l | _ => none
  ok := fun v r h => by
    split at h
    · rw [enc78_of h]
    · cases h
  de := dec78_enc }
def cod167 : Cod Side := {
  enc := fun x => .agg (enc167 x)
  dec := fun | .agg l => dec167 l | _ => none
  ok := fun v r h => by
    split at h
    · rw [enc167_of h]
    · cases h
  de := dec167_enc }
def cod60 : Cod Exch := {
  enc := fun x => .agg (enc60 x)
  dec := fun | .agg l => dec60 l | _ => none
  ok := fun v r h => by
    split at h
    · rw [enc60_of h]
    · cases h
  de := dec60_enc }
def cod123 : Cod Ans := {
  enc := fun x => .agg (enc123 x)
  dec := fun | .agg l => dec123 l | _ => none
  ok := fun v r h => by
    split at h
    · rw [enc123_of h]
    · cases h
  de := dec123_enc }
def cod173 : Cod Exg := {
  enc := fun x => .agg (enc173 x)
  dec := fun | .agg l => dec173 l | _ => none
  ok := fun v r h => by
    split at h
    · rw [enc173_of h]
    · cases h
  de := dec173_enc }
def cod183 : Cod Sent := {
  enc := fun x => .agg (enc183 x)
  dec := fun | .agg l => dec183 l | _ => none
  ok := fun v r h => by
    split at h
    · rw [enc183_of h]
    · cases h
  de := dec183_enc }
def cod206 : Cod T206 := {
  enc := fun x => .agg (enc206 x)
  dec := fun | .agg l => dec206 l | _ => none
  ok := fun v r h => by
    split at h
    · rw [enc206_of h]
    · cases h
  de := dec206_enc }
end Go.Am
