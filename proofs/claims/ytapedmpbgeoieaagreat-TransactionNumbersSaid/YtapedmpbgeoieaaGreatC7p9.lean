/- Part 9 of the proof: Am9. -/
import Derived.MapKept
import Derived.Test.YtapedmpbgeoieaaGreatC7p8
set_option linter.unusedSimpArgs false
set_option linter.unusedVariables false
namespace Go.Am
open Go Go.RowKit
set_option linter.unusedSimpArgs false
set_option linter.unusedVariables false
set_option linter.unusedSectionVars false

theorem ground_ok {x : X} {B} : ∀ (d : Nat) (v : AV) (u : Value), ground d v = true → R x B v u → R (xAt x.w x.I x.el 0) [] (untok d v) u := by
  intro d
  induction d with
  | zero => intro v u h; cases h
  | succ d ih =>
    have ihs : ∀ (cs : List AV) us, cs.all (ground d) = true → Rs x B cs us → Rs (xAt x.w x.I x.el 0) [] (cs.map (untok d)) us := fun cs us hg hc =>
      Rs_map _ hc fun c u hm hr => ih c u (List.all_eq_true.1 hg c hm) hr
    intro v u hg hv
    cases v with
    | undef => cases hg
    | ptr => cases hg
    | ep => cases hg
    | lp => cases hg
    | fn g fs caps =>
      cases fs with
      | nil => cases caps with
        | nil =>
          obtain ⟨vs, us, h1, h2, h3⟩ := hv
          exact ⟨vs, us, h1, h2, h3⟩
        | cons => cases hg
      | cons => cases hg
    | lit => cases hg
    | os => cases hg
    | oe => cases hg
    | ot => cases hg
    | mp => cases hg
    | sl t l tok =>
      have key : ∀ tok', TokR (xAt x.w x.I x.el 0) t l.length (rowsV t l) u tok' → SlR (xAt x.w x.I x.el 0) t l tok' u := by
        intro tok' ht
        obtain ⟨A, c, e1, e2, e3, _⟩ := hv
        exact ⟨A, c, e1, e2, e3, ht⟩
      cases tok with
      | none => exact key .none trivial
      | cap0 => exact key .none trivial
      | lab a => exact key .none trivial
      | nn b => exact key .none trivial
    | agg cs =>
      obtain ⟨us, h1, h2, h3⟩ := hv
      exact ⟨us, h1, h2, ihs _ _ hg h3⟩
    | tup cs =>
      obtain ⟨us, h1, h3⟩ := hv
      exact ⟨us, h1, ihs _ _ hg h3⟩
    | int => exact hv
    | bool => exact hv
    | str => exact hv
    | nilS => exact hv
    | nilP => exact hv
    | nilF => exact hv

/-- What is handed back. -/
theorem melt_ok {x : X} {B} {J : Nat → Nat → Prop} (hJ : ∀ b o, x.I b o → J b o) (hJ' : ∀ b o, x.base ≤ b → b < x.w.heap.size → J b o) : ∀ (d : Nat) (v : AV) (u : Value), ground d (melt d v) = true → R x B v u → R (xAt x.w J x.el 0) [] (melt d v) u := by
  intro d
  induction d with
  | zero => intro v u h; cases h
  | succ d ih =>
    have ihs : ∀ (cs : List AV) us, (cs.map (melt d)).all (ground d) = true → Rs x B cs us → Rs (xAt x.w J x.el 0) [] (cs.map (melt d)) us := fun cs us hg hc =>
      Rs_map _ hc fun c u hm hr => ih c u (List.all_eq_true.1 hg _ (List.mem_map_of_mem hm)) hr
    intro v u hg hv
    cases v with
    | undef => cases hg
    | ptr => cases hg
    | ep => cases hg
    | lp => cases hg
    | fn g fs caps =>
      cases fs with
      | nil => cases caps with
        | nil =>
          obtain ⟨vs, us, h1, h2, h3⟩ := hv
          exact ⟨vs, us, h1, h2, h3⟩
        | cons => cases hg
      | cons => cases hg
    | lit => cases hg
    | oe => cases hg
    | ot => cases hg
    | mp => cases hg
    | os t l a =>
      obtain ⟨_, hown, hb⟩ := hv
      rcases hown.2 with ⟨rfl, h1⟩ | ⟨g, cap, cur, rfl, h1, h2, h3, h4, h5, h6⟩
      · exact ⟨none, 0, by rw [h1], by omega, .inl (by rw [h1]; simp), trivial⟩
      · refine ⟨_, cap, rfl, h3, .inr ⟨g, 0, rfl, fun j u hj => ⟨?_, ?_⟩⟩, trivial⟩
        · exact hJ' g _ h1 (Array.getElem?_eq_some_iff.1 h2).1
        · have := hown.cells (g := g) rfl j u hj
          simpa [Addr.add_lit, xAt] using this
    | sl t l tok =>
      obtain ⟨A, c, e1, e2, e3, _⟩ := hv
      exact ⟨A, c, e1, e2, e3.imp id fun ⟨b, o, h1, h2⟩ => ⟨b, o, h1, fun j u hj => ⟨hJ _ _ (h2 j u hj).1, (h2 j u hj).2⟩⟩, trivial⟩
    | agg cs =>
      obtain ⟨us, h1, h2, h3⟩ := hv
      exact ⟨us, h1, h2, ihs _ _ hg h3⟩
    | tup cs =>
      obtain ⟨us, h1, h3⟩ := hv
      exact ⟨us, h1, ihs _ _ hg h3⟩
    | int => exact hv
    | bool => exact hv
    | str => exact hv
    | nilS => exact hv
    | nilP => exact hv
    | nilF => exact hv

theorem ground_untok : ∀ (d : Nat) (v : AV), ground d v = true → ground d (untok d v) = true := by
  intro d
  induction d with
  | zero => intro v h; cases h
  | succ d ih =>
    intro v h
    cases v <;> first | (cases h; done) | skip
    case sl t l tok => cases tok <;> rfl
    case fn g fs caps => exact h
    case agg cs =>
      refine List.all_eq_true.2 fun c hc => ?_
      obtain ⟨c', h1, rfl⟩ := List.mem_map.1 hc
      exact ih c' (List.all_eq_true.1 h c' h1)
    case tup cs =>
      refine List.all_eq_true.2 fun c hc => ?_
      obtain ⟨c', h1, rfl⟩ := List.mem_map.1 hc
      exact ih c' (List.all_eq_true.1 h c' h1)
    all_goals rfl

theorem getElem?_modL {α : Type} (f : α → α) : ∀ (n : Nat) (l : List α) (i : Nat), (modL f n l)[i]? = if i = n then (l[i]?).map f else l[i]?
  | n, [], i => by cases n <;> simp [modL]
  | 0, x :: xs, i => by cases i <;> simp [modL]
  | n + 1, x :: xs, i => by
    cases i with
    | zero => simp [modL]
    | succ i => simp [modL, getElem?_modL f n xs i]
theorem length_modL {α : Type} (f : α → α) : ∀ (n : Nat) (l : List α), (modL f n l).length = l.length
  | n, [] => by cases n <;> rfl
  | 0, x :: xs => rfl
  | n + 1, x :: xs => by simp [modL, length_modL f n xs]
theorem Rs.modF {x : X} {B : List (Nat → Option Nat)} {f : AV → AV} (hf : ∀ {v : AV} {u : Value}, R x B v u → R x B (f v) u) {n : Nat} {cs : List AV} {us : List Value} (h : Rs x B cs us) : Rs x B (modL f n cs) us := by
  refine Rs_of (by rw [length_modL, Rs_len h]) fun i c u hc hu => ?_
  rw [getElem?_modL] at hc
  split at hc
  · obtain ⟨c', h1, rfl⟩ := Option.map_eq_some_iff.1 hc
    obtain ⟨u', h2, h3⟩ := Rs_get h i c' h1
    rw [h2] at hu; cases hu
    exact hf h3
  · obtain ⟨u', h2, h3⟩ := Rs_get h i c hc
    rw [h2] at hu; cases hu
    exact h3
theorem R.canonV {x : X} {B : List (Nat → Option Nat)} {st : ST} {v : AV} {u : Value} (h : R x B v u) : R x B (canonV st v) u := by
  cases v with
  | nilS =>
    have h : u = .slice none 0 0 := h
    subst h
    exact ⟨none, 0, rfl, Nat.le_refl _, .inl (by simp), trivial⟩
  | _ => exact h
theorem R.canonA {x : X} {B : List (Nat → Option Nat)} {c : Option Nat} {st : ST} {v : AV} {u : Value} (h : R x B v u) : R x B (canonA c st v) u := by
  cases c with
  | none => exact R.canonV h
  | some c =>
    cases v with
    | agg cs =>
      obtain ⟨us, h1, h2, h3⟩ := h
      exact ⟨us, h1, h2, h3.modF R.canonV⟩
    | _ => exact h
theorem Rs.canon {x : X} {B : List (Nat → Option Nat)} : ∀ (r : List (Nat × Option Nat × ST)) {cs : List AV} {us : List Value}, Rs x B cs us → Rs x B (canon r cs) us
  | [], _, _, h => h
  | (i, c, st) :: r, _, _, h => Rs.canon r (h.modF R.canonA)

theorem ground_modF {f : AV → AV} {d : Nat} (hf : ∀ v, ground d v = true → ground d (f v) = true) : ∀ (n : Nat) (cs : List AV), cs.all (ground d) = true → (modL f n cs).all (ground d) = true
  | n, [], h => by cases n <;> rfl
  | 0, c :: cs, h => by
    simp only [modL, List.all_cons, Bool.and_eq_true] at h ⊢
    exact ⟨hf _ h.1, h.2⟩
  | n + 1, c :: cs, h => by
    simp only [modL, List.all_cons, Bool.and_eq_true] at h ⊢
    exact ⟨h.1, ground_modF hf n cs h.2⟩
theorem ground_canonV {st : ST} {d : Nat} (v : AV) (h : ground d v = true) : ground d (canonV st v) = true := by
  cases d with
  | zero => cases h
  | succ d => cases v <;> first | exact h | rfl
theorem ground_canon {d : Nat} : ∀ (r : List (Nat × Option Nat × ST)) (cs : List AV), cs.all (ground d) = true → (canon r cs).all (ground d) = true
  | [], _, h => h
  | (i, c, st) :: r, cs, h => by
    refine ground_canon r _ (ground_modF (fun v hv => ?_) i cs h)
    cases c with
    | none => exact ground_canonV v hv
    | some c =>
      cases v with
      | agg cs =>
        cases d with
        | zero => cases hv
        | succ d => exact ground_modF (fun v => ground_canonV v) c cs hv
      | _ => exact hv

mutual
/-- What a contract returned, seen in the caller's world. -/
theorem R.lift {x x'} (hI : ∀ b o, x.I b o → x'.I b o ∧ x'.w.cell? ⟨b, o, none⟩ = x.w.cell? ⟨b, o, none⟩) (ho : ∀ b, x.ow b = none) (hvo : ∀ b, x.vo b = none) (B) : ∀ (v : AV) (u : Value), R x [] v u → R x' B v u
  | .undef, _, _ => trivial
  | .int _ _, _, h' => h'
  | .bool _, _, h' => h'
  | .str _, _, h' => h'
  | .nilS, _, h' => h'
  | .nilP, _, h' => h'
  | .nilF, _, h' => h'
  | .sl t l tok, u, h' => by
    have ha : ∀ {b o us}, At x b o us → At x' b o us := fun h j u hu => ⟨(hI _ _ (h j u hu).1).1, (hI _ _ (h j u hu).1).2.trans (h j u hu).2⟩
    obtain ⟨A, c, e1, e2, e3, e4⟩ := h'
    refine ⟨A, c, e1, e2, e3.imp id fun ⟨b, o, h1, h2⟩ => ⟨b, o, h1, ha h2⟩, ?_⟩
    cases tok with
    | none => trivial
    | cap0 => exact e4
    | nn b => exact e4
    | lab a =>
      obtain ⟨h1, h2⟩ := e4
      have hn : u.ownBlock = none := by
        cases hu : u.ownBlock with
        | none => rfl
        | some b => have := (h2 b hu).1; rw [ho b] at this; cases this
      rcases h1.2 with ⟨h3, h4⟩ | ⟨g, cap, cur, h3, _⟩
      · exact ⟨⟨h1.1, .inl ⟨h3, h4⟩⟩, fun b hb => by rw [hn] at hb; cases hb⟩
      · rw [h3] at hn; cases hn
  | .lit _ _ cells, _, h' => by
    have ha : ∀ {b o us}, At x b o us → At x' b o us := fun h j u hu => ⟨(hI _ _ (h j u hu).1).1, (hI _ _ (h j u hu).1).2.trans (h j u hu).2⟩
    obtain ⟨b, c, us, h1, h2, h3, h4⟩ := h'
    exact ⟨b, c, us, h1, h2, ⟨ha h3.1, h3.2⟩, Rs.lift hI ho hvo B cells us h4⟩
  | .agg cs, _, h' => by
    obtain ⟨us, h1, h2, h3⟩ := h'
    exact ⟨us, h1, h2, Rs.lift hI ho hvo B cs us h3⟩
  | .tup cs, _, h' => by
    obtain ⟨us, h1, h3⟩ := h'
    exact ⟨us, h1, Rs.lift hI ho hvo B cs us h3⟩
  | .ptr _ _ _, _, h' => by
    obtain ⟨β, b, h1, _⟩ := h'
    cases h1
  | .ep _ _ _, _, h' => by
    have ha : ∀ {b o us}, At x b o us → At x' b o us := fun h j u hu => ⟨(hI _ _ (h j u hu).1).1, (hI _ _ (h j u hu).1).2.trans (h j u hu).2⟩
    obtain ⟨b, o, h1, h2⟩ := h'
    exact ⟨b, o, h1, ha h2⟩
  | .lp cells _, _, h' => by
    have ha : ∀ {b o us}, At x b o us → At x' b o us := fun h j u hu => ⟨(hI _ _ (h j u hu).1).1, (hI _ _ (h j u hu).1).2.trans (h j u hu).2⟩
    obtain ⟨b, us, h1, h3, h4⟩ := h'
    exact ⟨b, us, h1, ⟨ha h3.1, h3.2⟩, Rs.lift hI ho hvo B cells us h4⟩
  | .fn _ fs caps, _, h' => by
    obtain ⟨vs, us, h1, h2, h3⟩ := h'
    exact ⟨vs, us, h1, Rs.lift hI ho hvo B fs vs h2, Rs.lift hI ho hvo B caps us h3⟩
  | .os _ _ _, _, h' => by have := h'.1; rw [hvo] at this; cases this
  | .oe _ _ _ _ _, _, h' => by obtain ⟨_, _, h', _⟩ := h'; have := h'.1; rw [hvo] at this; cases this
  | .ot _ _ _ _, _, h' => by obtain ⟨_, _, h', _⟩ := h'; have := h'.1; rw [hvo] at this; cases this
  | .mp _ _ _ _, _, h' => by obtain ⟨_, _, _, _, _, h', _⟩ := h'; rw [ho] at h'; cases h'
theorem Rs.lift {x x'} (hI : ∀ b o, x.I b o → x'.I b o ∧ x'.w.cell? ⟨b, o, none⟩ = x.w.cell? ⟨b, o, none⟩) (ho : ∀ b, x.ow b = none) (hvo : ∀ b, x.vo b = none) (B) : ∀ (v : List AV) (u : List Value), Rs x [] v u → Rs x' B v u
  | [], _, h' => h'
  | c :: cs, _, h' => by
    obtain ⟨u, us', h1, h2, h3⟩ := h'
    exact ⟨u, us', h1, R.lift hI ho hvo B c u h2, Rs.lift hI ho hvo B cs us' h3⟩
end

section
variable {P : Program} {el : ST → Nat} {C : Cfg} (hC : COk P el C) {x : X} (hs : Sane x) (hel : x.el = el) {B : List (Nat → Option Nat)} {o : Oper} {ρ : Operand → Value} {e : Operand → AV} (he : ∀ y, R x B (e y) (ρ y))

include he in
/-- What is called. -/
theorem enter_run {c : Call} {f : Operand} (ho : o.op = .call c) (hc : c.callee = .value f) {g : Nat} {fs caps : List AV} (hf : e f = .fn g fs caps) {fn : Func} (hg : P.funcs[g]? = some fn) (hb : fn.body.isSome = true) (hn : (fn.name == "runtime.NumGoroutine") = false) :
    ∃ us : List Value, Rs x B (fs ++ (c.args.toList.map e ++ caps)) us ∧ ∀ w, (execOp ρ o).run P w = .ok (.enter g us.toArray) w := by
  have h := he f
  rw [hf] at h
  obtain ⟨vs, us, h1, h2, h3⟩ := h
  refine ⟨vs ++ (c.args.toList.map ρ ++ us), Rs_app h2 (Rs_app (rs_map he _) h3), fun w => ?_⟩
  have e1 : (vs.toArray ++ c.args.map ρ) ++ us.toArray = (vs ++ (c.args.toList.map ρ ++ us)).toArray := by apply Array.ext'; simp
  have hb' : fn.body.isNone = false := by cases h : fn.body <;> simp_all
  simp only [execOp, ho, resolve, hc, h1, Deferred.ofValue, Sem.run_bind, Sem.run_pure, Result.andThen_ok, invoke, callFunc, run_program, hg, hn, hb', Bool.false_eq_true, if_false, e1]

include hC hs hel he in
theorem act_call {c : Call} {f : Operand} (ho : o.op = .call c) (hc : c.callee = .value f) {g : Nat} {fs caps : List AV} (hf : e f = .fn g fs caps) {G : GE} (hF : look g C.Γ = some G)
    (hgr : (fs ++ (c.args.toList.map e ++ caps)).all (ground D) = true) {r : AV} (hp : G.pre (canon G.nrm ((fs ++ (c.args.toList.map e ++ caps)).map (untok D))) = true) (hr : G.val (canon G.nrm ((fs ++ (c.args.toList.map e ++ caps)).map (untok D))) = some r) : ActOk P x B o ρ (.val r) := by
  obtain ⟨hsp, fn, h1, h2, h3⟩ := hC.spec g G hF
  obtain ⟨us, h4, h5⟩ := enter_run he ho hc hf h1 h2 h3
  have h6 : Rs (xAt x.w x.I el 0) [] ((fs ++ (c.args.toList.map e ++ caps)).map (untok D)) us := by
    rw [← hel]
    exact Rs_map _ h4 fun c u hm hr => ground_ok D c u (List.all_eq_true.1 hgr c hm) hr
  have h7 := hsp x.I x.w (canon G.nrm ((fs ++ (c.args.toList.map e ++ caps)).map (untok D))) us r ?_ (by unfold GE.F; rw [hp]; exact hr) hs.lt (Rs.canon G.nrm h6)
  · refine .inr (.inr ⟨g, us.toArray, x.w, h5 x.w, h7.mono ?_⟩)
    rintro _ w' ⟨v, rfl, hb, hv⟩
    refine ⟨v, rfl, _, rfl, Ext.of_below hs hb (fun b o => x.w.heap.size ≤ b ∧ b < w'.heap.size) (fun _ => none) (fun _ _ h => h) (fun _ _ h => by cases h), ?_⟩
    refine R.lift ?_ (fun _ => rfl) (fun _ => rfl) B r v hv
    intro b o' hI
    exact ⟨hI, rfl⟩
  · refine ground_canon G.nrm _ (List.all_eq_true.2 fun c hc => ?_)
    obtain ⟨c', k1, rfl⟩ := List.mem_map.1 hc
    exact ground_untok D c' (List.all_eq_true.1 hgr c' k1)

theorem Rs.sane {x : X} {B} {vs : List AV} {us : List Value} (h : Rs x B vs us) (hgr : vs.all (ground D) = true) : (vs.map (untok D)).all (ground D) = true ∧ Rs (xAt x.w x.I x.el 0) [] (vs.map (untok D)) us := by
  refine ⟨List.all_eq_true.2 fun c hc => ?_, Rs_map _ h fun c u hm hr => ground_ok D c u (List.all_eq_true.1 hgr c hm) hr⟩
  obtain ⟨c', k1, rfl⟩ := List.mem_map.1 hc
  exact ground_untok D c' (List.all_eq_true.1 hgr c' k1)

include hC hs hel he in
theorem act_lin {c : Call} {f : Operand} (ho : o.op = .call c) (hc : c.callee = .value f) {g : Nat} {fs caps : List AV} (hf : e f = .fn g fs caps) {L : LE} (hF : look g C.lin = some L) {α : Type} {K : Action → Option α} {r : α}
    (h : linA C o L (fs ++ (c.args.toList.map e ++ caps)) K = some r) : ∃ a, K a = some r ∧ ActOk P x B o ρ a := by
  obtain ⟨hsp, fn, h1, h2, h3⟩ := hC.lin g L hF
  obtain ⟨us, h4, h5⟩ := enter_run he ho hc hf h1 h2 h3
  generalize hvs : (fs ++ (c.args.toList.map e ++ caps)) = vs at h h4
  cases L with
  | clone st eb =>
    simp only [linA] at h
    split at h
    · rename_i st' l tok hm
      split at h
      · rename_i hst
        subst hst
        rcases cond_some h with ⟨h6, h7⟩ | ⟨_, h7⟩
        · refine ⟨_, h7, ?_⟩
          have h8 := Rs_map (canonV st') h4 fun c u _ hr => R.canonV hr
          rw [hm] at h8
          obtain ⟨v, us', rfl, h9, h10⟩ := h8
          have h10 : us' = [] := h10
          subst h10
          have h11 : SlR (xAt x.w x.I el 0) st' l .none v := by
            obtain ⟨A, c, e1, e2, e3, _⟩ := h9
            exact ⟨A, c, e1, e2, e3, trivial⟩
          refine .inr (.inr ⟨g, _, x.w, h5 x.w, (hsp x.I x.w l v hs.lt h11 (of_decide_eq_true h6)).mono ?_⟩)
          rintro _ w' ⟨v', rfl, hb, hown⟩
          exact ⟨v', rfl, own_new hs (by rw [hel]; exact hown) hb⟩
        · cases h7
      · cases h
    · cases h
  | own pre val =>
    simp only [linA] at h
    split at h
    · rename_i l a rest
      rcases cond_some h with ⟨h6, h7⟩ | ⟨_, h7⟩
      · split at h7
        · rename_i l' hl'
          refine ⟨_, h7, ?_⟩
          obtain ⟨v, us', rfl, h9, h10⟩ := h4
          have h9 : OwnR x .cell l a v := h9
          refine .inr (.inr ⟨g, _, x.w, h5 x.w, (hsp x B l l' v _ us' hs.base hs.lt hel (by rw [← hel]; exact h9.2.1) (fun b hb => (h9.2.2 b hb).2) h10 h6 hl').mono ?_⟩)
          rintro _ w' ⟨v', rfl, hown, hgw, hb⟩
          exact ⟨v', rfl, own_step hs h9 (by rw [hel]; exact hown) hgw hb⟩
        · cases h7
      · cases h7
    · cases h
  | upd pre val =>
    simp only [linA] at h
    split at h
    · rename_i l a rest
      rcases cond_some h with ⟨h6, h7⟩ | ⟨_, h7⟩
      · split at h7
        · rename_i l' hl'
          refine ⟨_, h7, ?_⟩
          obtain ⟨v, us', rfl, h9, h10⟩ := h4
          have h9 : OwnR x .cell l a v := h9
          refine .inr (.inr ⟨g, _, x.w, h5 x.w, (hsp x B l l' v _ us' hs.base hs.lt hel (by rw [← hel]; exact h9.2.1) (fun b hb => (h9.2.2 b hb).2) h10 h6 hl').mono ?_⟩)
          rintro _ w' ⟨rfl, hown, hgw⟩
          exact ⟨_, rfl, own_upd hs h9 (by rw [hel]; exact hown) hgw fun _ _ => ⟨[], rfl, rfl⟩⟩
        · cases h7
      · cases h7
    · cases h
  | fmap ks ws =>
    simp only [linA] at h
    split at h
    · refine ⟨_, h, ?_⟩
      have h4 : us = [] := h4
      subst h4
      refine .inr (.inr ⟨g, _, x.w, h5 x.w, (hsp x.w).mono ?_⟩)
      rintro _ w' ⟨b, ents, ck, rfl, hb, hge, hh, hE⟩
      have hlt : b < w'.heap.size := lt_of_heap hh
      refine ⟨_, rfl, _, rfl, Ext.of_below hs hb (fun _ _ => False) (fun b' => if b' = b then some (C.label o) else none) (fun _ _ h => h.elim) (fun b' a h => ?_), b, ents, ck, rfl, (fun h => by cases h), ?_, ?_, hh, hE⟩
      · split at h
        · rename_i e; subst e; exact ⟨hge, hlt⟩
        · cases h
      · dsimp only
        rw [if_neg (by omega), if_pos rfl]
      · rintro o' (h | h)
        · have := hs.lt _ _ h; omega
        · exact h
    · cases h

/-! ### Writing through a pointer to an element, clear -/
theorem dec_raw {st : ST} {cs : List AV} {us : List Value} {a : st.El} (hr : Rs x B cs us) (hd : st.dec cs = some a) : us = rowV st a := by
  unfold ST.dec at hd
  split at hd <;> try (cases hd; done)
  all_goals (
    injection hd with hd
    subst hd
    simp only [Rs] at hr
    repeat (first | (obtain ⟨_, _, rfl, h1, hr⟩ := hr; cases h1) | cases hr)
    rfl)
theorem rowsV_set (st : ST) (l : List st.El) (i : Nat) (y : st.El) (hi : i < l.length) : rowsV st (l.set i y) = (rowsV st l).take (i * st.k) ++ (rowV st y ++ (rowsV st l).drop (i * st.k + st.k)) := by
  have h1 : l.set i y = l.take i ++ (y :: l.drop (i + 1)) := by rw [List.set_eq_take_append_cons_drop, if_pos hi]
  have h2 : rowsV st l = rowsV st (l.take i) ++ (rowV st l[i] ++ rowsV st (l.drop (i + 1))) := by
    conv => lhs; rw [← List.take_append_drop i l, rowsV_app, List.drop_eq_getElem_cons hi]
    rfl
  have h3 : (rowsV st (l.take i)).length = i * st.k := by rw [rowsV_len, List.length_take, Nat.min_eq_left (by omega)]
  have h4 : (rowV st l[i]).length = st.k := rowV_len _ _
  rw [h1, rowsV_app, h2]
  show rowsV st (l.take i) ++ (rowV st y ++ rowsV st (l.drop (i + 1))) = _
  have h5 : (rowsV st (l.take i) ++ (rowV st l[i] ++ rowsV st (l.drop (i + 1)))).drop (i * st.k + st.k) = rowsV st (l.drop (i + 1)) := by
    rw [List.drop_append, List.drop_of_length_le (by omega), List.nil_append, h3, Nat.add_sub_cancel_left, ← h4, List.drop_left]
  rw [h5, ← h3, List.take_left]
theorem take_set {α : Type} (cur : List α) (n i k off : Nat) (us : List α) (hn : i * k + k ≤ n) (hle : off + us.length ≤ k) (hc : n ≤ cur.length) :
    (cur.take (i * k + off) ++ us ++ cur.drop (i * k + off + us.length)).take n = (cur.take n).take (i * k) ++ ((((cur.take n).drop (i * k)).take k).take off ++ us ++ (((cur.take n).drop (i * k)).take k).drop (off + us.length) ++ (cur.take n).drop (i * k + k)) := by
  apply List.ext_getElem?
  intro j
  simp only [List.getElem?_take, List.getElem?_append, List.getElem?_drop, List.length_take, List.length_append, List.length_drop]
  have e1 : min (i * k + off) cur.length = i * k + off := by omega
  have e2 : min (i * k) (min n cur.length) = i * k := by omega
  have e3 : min k (min n cur.length - i * k) = k := by omega
  rw [e1, e2, e3]
  have e4 : min off k = off := by omega
  rw [e4]
  by_cases h1 : j < n
  · rw [if_pos h1]
    by_cases h2 : j < i * k
    · rw [if_pos (by omega), if_pos (by omega), if_pos (by omega), if_pos h2, if_pos h2, if_pos h1]
    · rw [if_neg h2]
      by_cases h3 : j < i * k + off
      · rw [if_pos (by omega), if_pos h3, if_pos h3, if_pos (by omega), if_pos (by omega), if_pos (by omega), if_pos (by omega), if_pos (by omega), if_pos (by omega)]
        congr 1; omega
      · by_cases h4 : j < i * k + off + us.length
        · rw [if_pos h4, if_neg h3, if_pos (by omega), if_pos (by omega), if_neg (by omega)]
          congr 1; omega
        · rw [if_neg h4]
          by_cases h5 : j < i * k + k
          · rw [if_pos (by omega), if_neg (by omega), if_pos (by omega), if_pos (by omega)]
            congr 1; omega
          · rw [if_neg (by omega), if_pos (by omega)]
            congr 1; omega
  · rw [if_neg h1]
    split
    · omega
    · split
      · omega
      · rw [if_neg (by omega)]

include hC hs hel he in
theorem act_oe {t : Nat} {ti : TI} {y z : Operand} (hl : look t C.ty = some ti) (ho : o.op = .store t y z) (h1 : oneA (e z) = true) {st : ST} {l l' : List st.El} {lb i off : Nat} (hy : e y = .oe st l lb i off) (hset : setA st l i off (cellsOf (e z)) ti.size = some l') :
    ActOk P x B o ρ (.app (.tup []) (.lab lb) (.os st l')) := by
  have ht := hC.ty t ti hl
  obtain ⟨h2, h3⟩ := cells_ok h1 (he z)
  have h0 := he y
  rw [hy] at h0
  obtain ⟨b, c, hown, hi, hp⟩ := h0
  unfold setA at hset
  split at hset
  · rename_i hlen
    simp only [Bool.and_eq_true, beq_iff_eq, Nat.ble_eq] at hlen
    obtain ⟨y', hd, rfl⟩ := Option.map_eq_some_iff.1 hset
    rcases hown.2.1.2 with ⟨e3, _⟩ | ⟨g, cap, cur, e3, k1, k2, k3, k4, k5, k6⟩
    · cases e3
    · injection e3 with e3 _ e4
      injection e3 with e3
      injection e3 with e3
      subst e3 e4
      have hul : (ρ z).cells.toList.length = ti.size := by rw [Rs_len h2, hlen.1]
      have hik : i * st.k + st.k ≤ l.length * st.k := by
        have := Nat.mul_le_mul_right st.k (show i + 1 ≤ l.length from hi)
        rw [Nat.add_mul] at this; omega
      have hlc : l.length * st.k ≤ cur.size := by rw [k5]; exact Nat.mul_le_mul_right _ k3
      have hst := run_storeCells_at P b (i * st.k + off) (x.el st) (ρ z).cells.toList 0 cur x.w k2 (by rw [hul]; omega) h3
      simp only [Nat.add_zero] at hst
      have hlen' : (ρ z).cells.size = ti.size := by simpa using hul
      have hrow : rowV st y' = ((rowV st l[i]).take off ++ (ρ z).cells.toList ++ (rowV st l[i]).drop (off + (ρ z).cells.toList.length)) := by
        refine (dec_raw (x := x) (B := B) (cs := putN off (cellsOf (e z)) (st.row (l.getD i st.dflt))) ?_ hd).symm
        have hg : l.getD i st.dflt = l[i] := by rw [List.getD_eq_getElem?_getD, List.getElem?_eq_getElem hi]; rfl
        rw [hg]
        have hrr : Rs x B (st.row l[i]) (rowV st l[i]) := by
          generalize l[i] = e0
          cases st <;> simp [ST.row, rowV, Rs, R]
        unfold putN
        rw [List.append_assoc, Rs_len h2]
        exact Rs_app (Rs_take hrr off) (Rs_app h2 (Rs_drop hrr _))
      refine .inr (.inl ⟨x.w.setRow b (cur.toList.take (i * st.k + off) ++ (ρ z).cells.toList ++ cur.toList.drop (i * st.k + off + (ρ z).cells.toList.length)).toArray, ?_, own_upd (l' := l.set i y') hs hown ?_ ⟨rfl, rfl, rfl, by simp [World.setRow], fun k _ hk => setRow_other x.w b k _ fun e => hk (by rw [e]; rfl)⟩ fun _ _ => ⟨[], rfl, rfl⟩⟩)
      · simp [execOp, ho, Instr.storeAt, hp, Instr.sureAddr, storeVar, sizeOf_run ht, hlen', hst]
      · rw [List.length_set]
        refine ⟨by rw [rowsV_len, List.length_set], .inr ⟨b, c, _, rfl, k1, setRow_heap x.w b cur _ _ _ k2, k3, k4, ?_, ?_⟩⟩
        · simp only [List.size_toArray, List.length_append, List.length_take, List.length_drop, Array.length_toList]
          omega
        · rw [take_set cur.toList (l.length * st.k) i st.k off _ hik (by rw [hul]; omega) (by simpa using hlc), k6, rowsV_set st l i y' hi, hrow]
          have hri : ((rowsV st l).drop (i * st.k)).take st.k = rowV st l[i] := by
            have h2 : rowsV st l = rowsV st (l.take i) ++ (rowV st l[i] ++ rowsV st (l.drop (i + 1))) := by
              conv => lhs; rw [← List.take_append_drop i l, rowsV_app, List.drop_eq_getElem_cons hi]
              rfl
            have h3 : (rowsV st (l.take i)).length = i * st.k := by rw [rowsV_len, List.length_take, Nat.min_eq_left (by omega)]
            have h4 : (rowV st l[i]).length = st.k := rowV_len _ _
            rw [h2, ← h3, List.drop_left, ← h4, List.take_left]
          rw [hri]
  · cases hset

theorem range_zero (z : Array Value) (k : Nat) (hz : z.size = k) : ∀ n, (Builtin.zeroCells z n).toList = (List.replicate n z.toList).flatten
  | 0 => by simp [Builtin.zeroCells]
  | n + 1 => by
    have ih := range_zero z k hz n
    simp only [Builtin.zeroCells, Array.toList_map, Array.toList_range] at ih ⊢
    rw [Nat.add_mul, Nat.one_mul, List.range_add, List.map_append, ih, List.replicate_succ', List.flatten_append]
    congr 1
    rw [List.map_map]
    simp only [List.flatten_singleton]
    apply List.ext_getElem?
    intro j
    rw [List.getElem?_map]
    by_cases hj : j < z.size
    · rw [List.getElem?_range hj]
      simp only [Option.map_some, Function.comp_apply]
      rw [Nat.add_comm, Nat.add_mul_mod_self_right, Nat.mod_eq_of_lt hj]
      simp [hj]
    · rw [List.getElem?_eq_none (by simpa using hj), List.getElem?_eq_none (by simpa using hj)]
      rfl

include hC hs hel he in
theorem act_clear {t : Nat} {y : Operand} {args : Array Operand} {at' : Array TypeId} (ho : o.op = .call { callee := .builtin .clear, args := args, argTypes := at' }) (ha : args.toList = [y]) (ht : at'.toList = [t])
    {st : ST} {l : List st.El} {lb i : Nat} (hy : e y = .ot st l lb i) (hT : slT C t st = true) : ActOk P x B o ρ (.app (.tup []) (.lab lb) (.os st (l.take i ++ List.replicate (l.length - i) st.dflt))) := by
  obtain ⟨ti, _, _, _, hu, inf, z, hinf, hsz, _, hz, hzs⟩ := slT_info hC hT
  have h0 := he y
  rw [hy] at h0
  obtain ⟨A, c, hown, hi, hp⟩ := h0
  rw [arr_one ha, arr_one ht] at ho
  have hll : (l.take i ++ List.replicate (l.length - i) st.dflt).length = l.length := by simp; omega
  rcases Nat.eq_or_lt_of_le hi with heq | hlt
  · subst heq
    refine .inl ⟨.tuple #[], x.w, ?_, own_upd hs hown ?_ ⟨rfl, rfl, rfl, Nat.le_refl _, fun _ _ _ => rfl⟩ fun _ _ => ⟨[], rfl, rfl⟩⟩
    · unfold sliced at hp
      rw [Nat.sub_self] at hp
      cases hA : (if c = l.length then A else A.map (·.add (l.length * st.k))) <;> rw [hA] at hp <;> simp [execOp, ho, resolve, invoke, builtin, hp, Builtin.clear_, run_underlying hu]
    · simpa using hown.2.1
  · rcases hown.2.1.2 with ⟨_, e4⟩ | ⟨g, cap, cur, e3, k1, k2, k3, k4, k5, k6⟩
    · omega
    · injection e3 with e3 _ e4
      subst e3 e4
      have hik : i * st.k ≤ l.length * st.k := Nat.mul_le_mul_right _ hi
      have hlc : l.length * st.k ≤ cur.size := by rw [k5]; exact Nat.mul_le_mul_right _ k3
      have hzl : (Builtin.zeroCells z.cells (l.length - i)).toList = rowsV st (List.replicate (l.length - i) st.dflt) := by
        rw [range_zero z.cells st.k hzs, hC.zel st inf z hinf hz, rowsV, List.flatMap_def, List.map_replicate]
      have hzlen : (rowsV st (List.replicate (l.length - i) st.dflt)).length = (l.length - i) * st.k := by rw [rowsV_len, List.length_replicate]
      have hsum : i * st.k + (l.length - i) * st.k = l.length * st.k := by rw [← Nat.add_mul]; congr 1; omega
      have hst := run_storeCells_at P g (i * st.k) (x.el st) (rowsV st (List.replicate (l.length - i) st.dflt)) 0 cur x.w k2 (by rw [hzlen]; omega) (rowsV_one _ _)
      simp only [Nat.add_zero] at hst
      have hp' : ρ y = .slice (some ⟨g, i * st.k, none⟩) (l.length - i) (c - i) := by
        rw [hp]; unfold sliced
        rw [if_neg (by omega), Option.map_some, Addr.add_lit, Nat.zero_add]
      obtain ⟨m, hm⟩ : ∃ m, l.length - i = m + 1 := ⟨l.length - i - 1, by omega⟩
      have hzv : ∀ w, (zeroValue (el st)).run P w = .ok z w := fun w => by simp [zeroValue, typeInfo, hinf, hz]
      generalize hW : x.w.setRow g (cur.toList.take (i * st.k) ++ rowsV st (List.replicate (l.length - i) st.dflt) ++ cur.toList.drop (i * st.k + (rowsV st (List.replicate (l.length - i) st.dflt)).length)).toArray = W at hst
      have hgw : x.w.grownBy W (Value.slice (some ⟨g, 0, none⟩) l.length c).ownBlock := by
        subst hW
        exact ⟨rfl, rfl, rfl, by simp [World.setRow], fun k _ hk => setRow_other x.w g k _ fun e => hk (by rw [e]; rfl)⟩
      have hWh : W.heap[g]? = some (.cells (cur.toList.take (i * st.k) ++ rowsV st (List.replicate (l.length - i) st.dflt) ++ cur.toList.drop (i * st.k + (rowsV st (List.replicate (l.length - i) st.dflt)).length)).toArray (x.el st) (0, 0)) := by
        subst hW
        exact setRow_heap x.w g cur _ _ _ k2
      refine .inl ⟨.tuple #[], W, ?_, own_upd hs hown ?_ hgw fun _ _ => ⟨[], rfl, rfl⟩⟩
      · rw [hm] at hp' hzl hst
        simp [execOp, ho, resolve, invoke, builtin, hp', Builtin.clear_, run_underlying hu, hzv, hzl, hst]
      · rw [hll]
        refine ⟨by rw [rowsV_len, hll], .inr ⟨g, c, _, rfl, k1, hWh, k3, k4, ?_, ?_⟩⟩
        · simp only [List.size_toArray, List.length_append, List.length_take, List.length_drop, Array.length_toList]
          omega
        · have hmin : min (i * st.k) cur.toList.length = i * st.k := by simp; omega
          have ht1 : cur.toList.take (i * st.k) = rowsV st (l.take i) := by
            rw [rowsV_take st l i hi, ← k6, List.take_take, Nat.min_eq_left hik]
          rw [rowsV_app, ht1]
          have hl1 : (rowsV st (l.take i) ++ rowsV st (List.replicate (l.length - i) st.dflt)).length = l.length * st.k := by
            rw [List.length_append, rowsV_len, rowsV_len, List.length_replicate, List.length_take, Nat.min_eq_left hi, hsum]
          simp only
          rw [List.take_append_of_le_length (by omega), List.take_of_length_le (by omega)]

/-! ### Maps -/
theorem raw1_ok {v : AV} {u : Value} (h : (match v with | .fn _ [] [] | .bool _ | .int _ _ | .nilF => true | _ => false) = true) (hv : R x B v u) : u = raw1 v ∧ u.oneCell' = true := by
  split at h
  · obtain ⟨vs, us, h1, h2, h3⟩ := hv
    have h2 : vs = [] := h2
    have h3 : us = [] := h3
    subst h2 h3
    subst h1
    exact ⟨rfl, rfl⟩
  · cases hv; exact ⟨rfl, rfl⟩
  · cases hv; exact ⟨rfl, rfl⟩
  · cases hv; exact ⟨rfl, rfl⟩
  · cases h
theorem raw1_R (x : X) (B) {v : AV} (h : (match v with | .fn _ [] [] | .bool _ | .int _ _ | .nilF => true | _ => false) = true) : R x B v (raw1 v) ∧ (raw1 v).oneCell' = true := by
  split at h
  · exact ⟨⟨[], [], rfl, rfl, rfl⟩, rfl⟩
  · exact ⟨rfl, rfl⟩
  · exact ⟨rfl, rfl⟩
  · exact ⟨rfl, rfl⟩
  · cases h
theorem rawV_ok {v : AV} {u : Value} (h : plainV v = true) (hv : R x B v u) : u = rawV v := by
  cases v with
  | agg cs =>
    obtain ⟨us, rfl, _, h3⟩ := hv
    have : us = cs.map raw1 := by
      apply List.ext_getElem?
      intro i
      rw [List.getElem?_map]
      cases hi : cs[i]? with
      | none =>
        have := List.getElem?_eq_none_iff.1 hi
        simp [Rs_len h3, this]
      | some c =>
        obtain ⟨u, h4, h5⟩ := Rs_get h3 i c hi
        rw [h4]
        simp only [Option.map_some, Option.some.injEq]
        exact (raw1_ok (List.all_eq_true.1 h c (List.mem_of_getElem? hi)) h5).1
    rw [this]; rfl
  | fn g fs caps =>
    cases fs <;> cases caps <;> first | exact (raw1_ok (v := .fn g [] []) rfl hv).1 | cases h
  | bool b => exact (raw1_ok (v := .bool b) rfl hv).1
  | int k n => exact (raw1_ok (v := .int k n) rfl hv).1
  | nilF => exact (raw1_ok (v := .nilF) rfl hv).1
  | _ => cases h
theorem rawV_R (x : X) (B) {v : AV} (h : plainV v = true) : R x B v (rawV v) := by
  cases v with
  | agg cs =>
    refine ⟨cs.map raw1, rfl, fun u hu => ?_, Rs_of (by simp) fun i c u hc hu => ?_⟩
    · obtain ⟨c, h1, rfl⟩ := List.mem_map.1 hu
      exact (raw1_R x B (List.all_eq_true.1 h c h1)).2
    · rw [List.getElem?_map, hc] at hu
      cases hu
      exact (raw1_R x B (List.all_eq_true.1 h c (List.mem_of_getElem? hc))).1
  | fn g fs caps =>
    cases fs <;> cases caps <;> first | exact (raw1_R x B (v := .fn g [] []) rfl).1 | cases h
  | bool b => rfl
  | int k n => rfl
  | nilF => rfl
  | _ => cases h

include hC hs in
theorem act_makeMap {t : Nat} (ho : o.op = .makeMap t none) : ActOk P x B o ρ (.app (.mp (C.label o) true [] []) (.lab (C.label o)) .undef) := by
  refine .inl ⟨.map (some x.w.heap.size), x.w.alloc (.map #[] 0), ?_, own_post (w' := x.w.alloc (.map #[] 0)) (w := .undef) (a := C.label o) (vb := none) (nb := some x.w.heap.size) (v' := .map (some x.w.heap.size)) hs (fun b e => by cases e) (fun b e => by cases e) ⟨rfl, rfl, rfl, by simp, fun k hk _ => Go.heap_alloc_old x.w _ hk⟩ (.inr ⟨_, rfl, Nat.le_refl _⟩) (fun b e => by cases e; exact ⟨hs.base, by simp⟩) (fun B => ?_) (fun _ _ _ => trivial)⟩
  · simp [execOp, ho, Instr.makeMap]
  · refine ⟨x.w.heap.size, #[], 0, rfl, fun _ => by simp [ownX], by simp [ownX], fun o' hI => ?_, Go.heap_alloc_new x.w _, trivial⟩
    have := hs.lt _ _ hI
    omega

theorem checkKey_int {kt : TypeId} (h : P.underlying kt = some (.int .i64)) (bb : Bool) (n : Int) (w : World) : (Instr.checkKey bb 10000 kt (.int .i64 n)).run P w = .ok () w := by
  unfold Instr.checkKey
  simp only [Sem.run_bind, run_underlying h, Result.andThen_ok, Sem.run_pure]

theorem findNow_none (n : Int) : ∀ (ks : List Int) (vs : List AV) (es : List MapEntry) (i : Nat), EntsR ks vs es → freshA n ks = true → Instr.findNow (.int .i64) (.int .i64 n) es i = some none
  | [], [], [], _, _, _ => rfl
  | k :: ks, v :: vs, e :: es, i, h, hf => by
    obtain ⟨h1, h2, h3, h4⟩ := h
    simp only [freshA] at hf
    by_cases hk : n = k
    · rw [decide_eq_true hk] at hf; cases hf
    · rw [decide_eq_false hk] at hf
      simp only [Instr.findNow, h1, Instr.sameNow, if_true]
      rw [show (n == k) = false by simpa using hk]
      exact findNow_none n ks vs es (i + 1) h4 hf
  | [], [], _ :: _, _, h, _ => by cases h
  | [], _ :: _, _, _, h, _ => by cases h
  | _ :: _, [], _, _, h, _ => by cases h
  | _ :: _, _ :: _, [], _, h, _ => by cases h
theorem EntsR_app {n : Int} {v : AV} {e : MapEntry} (h1 : e.key = .int .i64 n) (h2 : e.val = rawV v) (h3 : plainV v = true) : ∀ (ks : List Int) (vs : List AV) (es : List MapEntry), EntsR ks vs es → EntsR (ks ++ [n]) (vs ++ [v]) (es ++ [e])
  | [], [], [], _ => ⟨h1, h2, h3, trivial⟩
  | k :: ks, v :: vs, e :: es, h => ⟨h.1, h.2.1, h.2.2.1, EntsR_app h1 h2 h3 ks vs es h.2.2.2⟩
  | [], [], _ :: _, h => by cases h
  | [], _ :: _, _, h => by cases h
  | _ :: _, [], _, h => by cases h
  | _ :: _, _ :: _, [], h => by cases h

include hC hs he in
theorem act_ins {t : Nat} {m k y : Operand} (ho : o.op = .mapUpdate t m k y ∨ o.op = .insert t m k y) {α : Type} {K : Action → Option α} {r : α} (h : insA C t (e m) (e k) (e y) K = some r) : ∃ a, K a = some r ∧ ActOk P x B o ρ a := by
  unfold insA at h
  split at h
  · rename_i z ag a ks vs n hmt e1 e2
    split at h
    · rename_i hp
      simp only [Bool.and_eq_true] at hp
      rcases cond_some h with ⟨h1, h2⟩ | ⟨_, h2⟩
      · refine ⟨_, h2, ?_⟩
        have hm := he m
        have hk := he k
        rw [e1] at hm; rw [e2] at hk
        have hk : ρ k = .int .i64 n := hk
        obtain ⟨b, ents, ck, g1, g2, g3, g4, g5, g6⟩ := hm
        obtain ⟨kt, el', zv, j1, j2, _⟩ := hC.mt t _ hmt
        have hv := rawV_ok hp.1 (he y)
        have hr : (Instr.mapUpdate t (ρ m) (ρ k) (ρ y)).run P x.w = .ok () { x.w with heap := x.w.heap.setIfInBounds b (.map (ents.push { key := .int .i64 n, val := ρ y, born := ck }) (ck + 1)) } := by
          simp only [Instr.mapUpdate, g1, hk, Sem.run_bind, run_underlying j1, Result.andThen_ok, MapKept.run_getObj_map g5, checkKey_int j2, run_underlying j2, Sem.run_pure, Instr.findKey, findNow_none n ks vs ents.toList 0 g6 h1, MapKept.run_setObj_map _ g5]
        have hlt := lt_of_heap g5
        refine .inr (.inl ⟨{ x.w with heap := x.w.heap.setIfInBounds b (.map (ents.push { key := .int .i64 n, val := ρ y, born := ck }) (ck + 1)) }, ?_, own_post (w' := { x.w with heap := x.w.heap.setIfInBounds b (.map (ents.push { key := .int .i64 n, val := ρ y, born := ck }) (ck + 1)) }) (vb := some b) (nb := some b) (v' := ρ m) hs (fun b' e => by cases e; exact ⟨g3, g4⟩) (fun b' e => by cases e; exact (hs.owlt _ _ g3).2) ⟨rfl, rfl, rfl, by simp, fun i hi hne => ?_⟩ (.inl rfl) (fun b' e => by cases e; exact ⟨(hs.owlt _ _ g3).2, by simpa using hlt⟩) (fun _ => ⟨[], rfl, rfl⟩) (fun zz hz B' => ?_)⟩)
        · rcases ho with ho | ho <;> simp only [execOp, ho, Sem.run_bind, hr, Result.andThen_ok, Sem.run_pure]
        · have hne : i ≠ b := fun e => hne (by rw [e])
          simp [Array.getElem?_setIfInBounds, Ne.symm hne]
        · rw [g2 rfl] at hz
          cases hz
          refine ⟨b, ents.push { key := .int .i64 n, val := ρ y, born := ck }, ck + 1, g1, fun _ => by simp [ownX], by simp [ownX], g4, ?_, by rw [Array.toList_push]; exact EntsR_app (e := { key := .int .i64 n, val := ρ y, born := ck }) rfl hv hp.1 _ _ _ g6⟩
          simp [ownX, Array.getElem?_setIfInBounds, hlt]
      · cases h2
    · cases h
  · cases h

theorem lookA_some {n : Int} {z : AV} {α : Type} {K : AV → Option α} {r : α} : ∀ (ks : List Int) (vs : List AV) (es : List MapEntry) (i : Nat), EntsR ks vs es → lookA n z K ks vs = some r → ∃ q, Instr.findNow (.int .i64) (.int .i64 n) es i = some q ∧
    ((q = none ∧ K z = some r) ∨ ∃ j v, q = some (j, rawV v) ∧ plainV v = true ∧ K v = some r)
  | [], [], [], i, _, h => ⟨none, rfl, .inl ⟨rfl, h⟩⟩
  | k :: ks, v :: vs, e :: es, i, hE, h => by
    obtain ⟨h1, h2, h3, h4⟩ := hE
    simp only [lookA] at h
    simp only [Instr.findNow, h1, Instr.sameNow, if_true]
    rcases cond_some h with ⟨hk, h⟩ | ⟨hk, h⟩
    · have hk := of_decide_eq_true hk
      refine ⟨some (i, rawV v), ?_, .inr ⟨i, v, rfl, h3, h⟩⟩
      rw [show (n == k) = true by simpa using hk, ← h2]
    · have hk := of_decide_eq_false hk
      rw [show (n == k) = false by simpa using hk]
      exact lookA_some ks vs es (i + 1) h4 h
  | [], [], _ :: _, _, h, _ => by cases h
  | [], _ :: _, _, _, h, _ => by cases h
  | _ :: _, [], _, _, h, _ => by cases h
  | _ :: _, _ :: _, [], _, h, _ => by cases h

include hC hs he in
theorem act_lookup {t : Nat} {m k : Operand} (ho : o.op = .lookup t m k false) {z : List Value} {ag : Bool} {a : Nat} {u : Bool} {ks : List Int} {vs : List AV} {n : Int} (hmt : look t C.mt = some (z, ag)) (e1 : e m = .mp a u ks vs) (e2 : e k = .int .i64 n)
    {α : Type} {K : Action → Option α} {r : α} (h : lookA n (if ag then .agg (z.map ofConst) else (z.map ofConst).headD .undef) (fun v => K (.val v)) ks vs = some r) : ∃ a, K a = some r ∧ ActOk P x B o ρ a := by
  have hm := he m
  have hk := he k
  rw [e1] at hm; rw [e2] at hk
  have hk : ρ k = .int .i64 n := hk
  obtain ⟨b, ents, ck, g1, g2, g3, g4, g5, g6⟩ := hm
  obtain ⟨kt, el', zv, j1, j2, j3, j4, j5⟩ := hC.mt t _ hmt
  dsimp only at j4 j5
  obtain ⟨q, hq, hcase⟩ := lookA_some ks vs ents.toList 0 g6 h
  rcases hcase with ⟨rfl, h⟩ | ⟨j, v, rfl, hpl, h⟩
  · refine ⟨_, h, .pure hs (u := zv) ?_ ?_⟩
    · simp only [execOp, ho, Instr.lookup, g1, hk, Sem.run_bind, run_underlying j1, Result.andThen_ok, MapKept.run_getObj_map g5, Sem.run_pure, checkKey_int j2, Instr.findKey, run_underlying j2, hq, j3, Bool.false_eq_true, if_false]
    · rw [j4]
      cases ag with
      | true => exact ⟨z, rfl, j5, rs_consts x B z⟩
      | false =>
        cases z with
        | nil => trivial
        | cons c z => exact ofConst_ok x B c
  · refine ⟨_, h, .pure hs (u := rawV v) ?_ (rawV_R x B hpl)⟩
    simp only [execOp, ho, Instr.lookup, g1, hk, Sem.run_bind, run_underlying j1, Result.andThen_ok, MapKept.run_getObj_map g5, Sem.run_pure, checkKey_int j2, Instr.findKey, run_underlying j2, hq, Bool.false_eq_true, if_false]

include hC hs he in
theorem act_convert {s t : Nat} {y : Operand} (ho : o.op = .convert s t y) {k' k : IntKind} {n : Int} (hy : e y = .int k' n) {si : TI} (hl : look s C.ty = some si) (hk : (look t C.ty).bind (·.ik) = some k) : ActOk P x B o ρ (.val (.int k (k.wrap n))) := by
  have h := he y
  rw [hy] at h
  have h : ρ y = .int k' n := h
  cases hl2 : look t C.ty with
  | none => simp [hl2] at hk
  | some ti =>
    have hu := (hC.ty t ti hl2).ik k (by simpa [hl2] using hk)
    have hs1 : (P.underlying s).isSome = true := by
      have := (hC.ty s si hl).agg
      cases hus : P.underlying s with
      | none => simp [hus] at this
      | some d => rfl
    have hik : P.intKind t = k := by simp [Program.intKind, hu]
    have hr := run_convert_int (P := P) x.w s t k' n hs1 (by rw [hik]; exact hu)
    rw [hik] at hr
    exact .pure hs (u := .int k (k.wrap n)) (by simp only [execOp, ho, h, Sem.run_bind, hr, Result.andThen_ok, Sem.run_pure]) rfl

include hC hs hel he in
theorem act_ok {α : Type} {K : Action → Option α} {r : α} (h : act C o e K = some r) : ∃ a, K a = some r ∧ ActOk P x B o ρ a := by
  unfold act at h
  split at h
  · rename_i y ho; exact ⟨_, h, act_move hs he (.inl ho)⟩
  · rename_i y ho; exact ⟨_, h, act_move hs he (.inr ho)⟩
  · rename_i c a b ho
    split at h
    · rename_i t hc
      have := act_pick (P := P) hs he ho hc
      cases t
      · exact ⟨_, h, this⟩
      · exact ⟨_, h, this⟩
    · cases h
  · rename_i t ho
    split at h
    · rename_i ti hl; exact ⟨_, h, act_alloc hC hl ho⟩
    · cases h
  · rename_i t y ho
    split at h
    · rename_i h1; exact ⟨_, h, act_box he ho h1⟩
    · cases h
  · rename_i t parts ho
    split at h
    · rename_i ti hl
      split at h
      · cases h
      · rename_i hn
        split at h
        · rename_i cs hf; exact ⟨_, h, act_build hC hs he hl ho hn hf⟩
        · cases h
    · cases h
  · rename_i t n parts ho
    split at h
    · rename_i vs hlit
      split at h
      · rename_i hc
        simp only [Bool.and_eq_true, beq_iff_eq, Nat.ble_eq, List.all_eq_true] at hc
        obtain ⟨hc1, hc2, hc3⟩ := hc
        split at h
        · cases h
        · rename_i ti hl
          obtain ⟨k1, k2⟩ := act_lit hC hs hel he ho hlit hc1 hc2 hc3 hl
          split at h
          · rename_i st hsl
            split at h
            · rename_i l hd; exact ⟨_, h, k1 st l hsl hd⟩
            · cases h
          · rename_i hsl
            split at h
            · rename_i hc
              simp only [Bool.and_eq_true, beq_iff_eq, Nat.ble_eq, List.all_eq_true, bne_iff_ne, ne_eq] at hc
              exact ⟨_, h, k2 hsl hc.2.1 hc.1 hc.2.2⟩
            · cases h
      · cases h
    · cases h
  · rename_i t y ho
    split at h
    · rename_i ti hl; exact ⟨_, h, act_load hC he hl ho⟩
    · cases h
  · rename_i t y v ho
    split at h
    · rename_i ti hl
      split at h
      · rename_i h1
        split at h
        · rename_i st l lb i off hy
          split at h
          · rename_i l' hset; exact ⟨_, h, act_oe hC hs hel he hl ho h1 hy hset⟩
          · cases h
        · exact ⟨_, h, act_store hC he hl ho h1⟩
      · cases h
    · cases h
  · rename_i y ho
    split at h
    · rename_i up d off hy; exact ⟨_, h, act_nilCheck hs he ho hy (.inl ⟨_, _, _, rfl⟩)⟩
    · rename_i t x' off hy; exact ⟨_, h, act_nilCheck hs he ho hy (.inr (.inl ⟨_, _, _, rfl⟩))⟩
    · rename_i cs off hy; exact ⟨_, h, act_nilCheck hs he ho hy (.inr (.inr (.inl ⟨_, _, rfl⟩)))⟩
    · rename_i t l a i off hy; exact ⟨_, h, act_nilCheck hs he ho hy (.inr (.inr (.inr (.inr ⟨_, _, _, _, _, rfl⟩))))⟩
    · rename_i g fs caps hy; exact ⟨_, h, act_nilCheck hs he ho hy (.inr (.inr (.inr (.inl ⟨_, _, _, rfl⟩))))⟩
    · cases h
  · rename_i op t y z t' ho
    obtain ⟨v, h1, h2⟩ := act_bin hC hs he ho h
    exact ⟨_, h1, h2⟩
  · rename_i t y ho
    split at h
    · rename_i b hy; exact ⟨_, h, act_not hs he ho hy⟩
    · cases h
  · rename_i g first caps ho; exact ⟨_, h, act_makeFunc hs he ho⟩
  · rename_i t y lo hi ho
    exact act_slice hC hs he ho h
  · rename_i s y f ho
    split at h
    · rename_i off sz ag hf
      split at h
      · rename_i p hp
        cases hl : look s C.ty with
        | none => simp [hl] at hf
        | some ti => exact ⟨_, h, act_fieldAddr hC hs he hl ho (by simpa [hl] using hf) hp⟩
      · cases h
    · cases h
  · rename_i s y f ho
    split at h
    · rename_i off sz ag cs hf hy
      split at h
      · rename_i hle
        cases hl : look s C.ty with
        | none => simp [hl] at hf
        | some ti =>
          refine ⟨_, h, act_field hC hs he hl ho (by simpa [hl] using hf) ?_ hy hle⟩
          cases hl' : ag with
          | true => intro h; cases h
          | false =>
            intro _
            have h1 := List.all_eq_true.1 (hC.ty s ti hl).fsc (off, sz, ag) (List.mem_of_getElem? (by simpa [hl] using hf))
            simpa [hl'] using h1
      · cases h
    · cases h
  · rename_i t y z ho
    obtain ⟨v, h1, h2⟩ := act_idx hC hs he ho h
    exact ⟨_, h1, h2⟩
  · rename_i y i ho
    split at h
    · rename_i vs hy
      split at h
      · rename_i v hv; exact ⟨_, h, act_extract hs he ho hy hv⟩
      · cases h
    · cases h
  · rename_i b args at' ho
    split at h
    · rename_i y t ha ht
      split at h
      · rename_i v hv; exact ⟨_, h, act_len hC hs he ho ha ht hv⟩
      · cases h
    · rename_i y z t t' ha ht
      split at h
      · rename_i htt
        have htt : t = t' := by simpa using htt
        subst htt
        exact act_app hC hs hel he ho ha ht h
      · cases h
    · rename_i y t ha ht
      split at h
      · rename_i st l lb i hy
        split at h
        · rename_i hT; exact ⟨_, h, act_clear hC hs hel he ho ha ht hy hT⟩
        · cases h
      · cases h
    · rename_i y z ha
      split at h
      · rename_i k a k' b h1 h2
        split at h
        · rename_i hk; subst hk; exact ⟨_, h, act_min hs he ho ha h1 h2⟩
        · cases h
      · cases h
    · rename_i y z ha
      split at h
      · rename_i k a k' b h1 h2
        split at h
        · rename_i hk; subst hk; exact ⟨_, h, act_max hs he ho ha h1 h2⟩
        · cases h
      · cases h
    · cases h
  · rename_i f args at' ho
    split at h
    · rename_i g fs caps hf
      split at h
      · rename_i L hL; exact act_lin hC hs hel he ho rfl hf hL h
      · split at h
        · rename_i F hF
          dsimp only at h
          split at h
          · rename_i hgr
            rcases cond_some h with ⟨hp, h⟩ | ⟨_, h⟩
            · split at h
              · rename_i r' hr; exact ⟨_, h, act_call hC hs hel he ho rfl hf hF hgr hp hr⟩
              · cases h
            · cases h
          · cases h
        · cases h
    · cases h
  · rename_i t ho
    split at h
    · exact ⟨_, h, act_makeMap hC hs ho⟩
    · cases h
  · rename_i t m k y ho; exact act_ins hC hs he (.inl ho) h
  · rename_i t m k y ho; exact act_ins hC hs he (.inr ho) h
  · rename_i t m k ho
    split at h
    · rename_i z ag a u ks vs n h1 h2 h3; exact act_lookup hC hs he ho h1 h2 h3 h
    · cases h
  · rename_i s t y ho
    split at h
    · rename_i k' n si k h1 h2 h3
      exact ⟨_, h, act_convert hC hs he ho h1 h2 h3⟩
    · cases h
  · cases h
end
end Go.Am
