/- Part 15 of the proof: Am15. -/
import Derived.Test.YtapedmpbgeoieaaGreatC7p14
set_option linter.unusedSimpArgs false
set_option linter.unusedVariables false
namespace Go.Am
open Go Go.RowKit
set_option linter.unusedSimpArgs false
set_option linter.unusedVariables false
set_option linter.unusedSectionVars false

theorem put_comm (fr : Fr) {x y : Option Nat} (v u : AV) (h : ∀ d, x = some d → y ≠ some d) : (fr.put x v).put y u = (fr.put y u).put x v := by
  cases x with
  | none => rfl
  | some d =>
    cases y with
    | none => rfl
    | some e =>
      have hne : d ≠ e := fun he => h d rfl (he ▸ rfl)
      simp [Fr.put, List.set_comm _ _ hne]

/-! ### Taking a label away -/
def stf (tok : Tok) (w : W) (v : AV) : AV := match tok with
  | .lab a => Am.strip a w D v
  | _ => v
def Fr.stf (tok : Tok) (w : W) (fr : Fr) : Fr := { fr with tmps := fr.tmps.map (Am.stf tok w), bx := fr.bx.map fun b => b.map (Am.stf tok w) }
def stS (tok : Tok) (w : W) (s : Fr × List Fr) : Fr × List Fr := (s.1.stf tok w, s.2.map (Fr.stf tok w))

theorem stf_id {tok : Tok} (h : ∀ a, tok ≠ .lab a) (w : W) (v : AV) : stf tok w v = v := by
  cases tok with
  | lab a => exact absurd rfl (h a)
  | _ => rfl
theorem Fr.stf_id {tok : Tok} (h : ∀ a, tok ≠ .lab a) (w : W) (fr : Fr) : fr.stf tok w = fr := by
  have : Am.stf tok w = id := funext fun v => Am.stf_id h w v
  simp [Fr.stf, this]

theorem fixedA_strip {a : Nat} {w : W} {d : Nat} {v : AV} (h : fixedA a v = true) : Am.strip a w (d + 1) v = v := by
  cases v with
  | sl t l tok =>
    cases tok with
    | lab b => simp only [fixedA, Bool.not_eq_true'] at h; simp [Am.strip, Tok.drop, h]
    | none => cases h
    | _ => rfl
  | tup cs => cases cs with
    | nil => rfl
    | cons => cases h
  | fn g fs cs => cases fs with
    | nil => cases cs with
      | nil => rfl
      | cons => cases h
    | cons => cases h
  | undef => cases h
  | lit => cases h
  | agg => cases h
  | lp => cases h
  | os => cases h
  | oe => cases h
  | ot => cases h
  | mp => cases h
  | _ => rfl
theorem fixedA_back {a : Nat} {w : W} {d : Nat} {v : AV} (h : fixedA a (Am.strip a w (d + 1) v) = true) : Am.strip a w (d + 1) v = v := by
  cases v with
  | sl t l tok =>
    cases tok with
    | lab b =>
      by_cases hb : (a == b) = true
      · simp [Am.strip, Tok.drop, hb, fixedA] at h
      · have hb : (a == b) = false := by simpa using hb
        simp [Am.strip, Tok.drop, hb]
    | _ => rfl
  | tup cs => cases cs with
    | nil => rfl
    | cons => simp [Am.strip, fixedA] at h
  | fn g fs cs => cases fs with
    | nil => cases cs with
      | nil => rfl
      | cons => simp [Am.strip, fixedA] at h
    | cons => simp [Am.strip, fixedA] at h
  | undef => rfl
  | lit => simp [Am.strip, fixedA] at h
  | agg => simp [Am.strip, fixedA] at h
  | lp => simp [Am.strip, fixedA] at h
  | os t l b =>
    by_cases hb : (a == b) = true
    · cases w <;> simp [Am.strip, hb, fixedA, W.av] at h
    · simp [Am.strip, hb, fixedA] at h
  | oe t l b =>
    by_cases hb : (a == b) = true <;> simp [Am.strip, hb, fixedA] at h
  | ot t l b =>
    by_cases hb : (a == b) = true <;> simp [Am.strip, hb, fixedA] at h
  | mp b u ks vs =>
    by_cases hb : (a == b) = true
    · cases u <;> cases w <;> simp [Am.strip, hb, fixedA, W.av] at h
    · simp [Am.strip, hb, fixedA] at h
  | _ => rfl
theorem strip_agg {a : Nat} {w : W} {d : Nat} {v : AV} {cs : List AV} (h : Am.strip a w (d + 1) v = .agg cs) : ∃ cs', v = .agg cs' ∧ cs = cs'.map (Am.strip a w d) := by
  cases v with
  | agg cs' => simp only [Am.strip, AV.agg.injEq] at h; exact ⟨cs', rfl, h.symm⟩
  | os t l b =>
    by_cases hb : (a == b) = true
    · cases w <;> simp [Am.strip, hb, W.av] at h
    · simp [Am.strip, hb] at h
  | oe t l b =>
    by_cases hb : (a == b) = true <;> simp [Am.strip, hb] at h
  | ot t l b =>
    by_cases hb : (a == b) = true <;> simp [Am.strip, hb] at h
  | mp b u ks vs =>
    by_cases hb : (a == b) = true
    · cases u <;> cases w <;> simp [Am.strip, hb, W.av] at h
    · simp [Am.strip, hb] at h
  | _ => simp [Am.strip] at h
theorem fixedV_of {a : Nat} {v : AV} (h : ∀ cs, v ≠ .agg cs) : fixedV a v = fixedA a v := by
  cases v with
  | agg cs => exact absurd rfl (h cs)
  | _ => rfl
theorem fixedV_strip {a : Nat} {w : W} {v : AV} (h : fixedV a v = true) : Am.strip a w D v = v := by
  by_cases hv : ∃ cs, v = .agg cs
  · obtain ⟨cs, rfl⟩ := hv
    show AV.agg (cs.map _) = _
    congr 1
    have : ∀ c ∈ cs, Am.strip a w 5 c = c := fun c hc => fixedA_strip (List.all_eq_true.1 h c hc)
    rw [List.map_congr_left this, List.map_id']
  · rw [fixedV_of fun cs e => hv ⟨cs, e⟩] at h
    exact fixedA_strip h
theorem fixedV_back {a : Nat} {w : W} {v : AV} (h : fixedV a (Am.strip a w D v) = true) : Am.strip a w D v = v := by
  by_cases hv : ∃ cs, Am.strip a w D v = .agg cs
  · obtain ⟨cs, e⟩ := hv
    obtain ⟨cs', rfl, rfl⟩ := strip_agg e
    rw [e] at h
    rw [e]
    congr 1
    have : ∀ c ∈ cs', Am.strip a w 5 c = c := fun c hc => fixedA_back (List.all_eq_true.1 h _ (List.mem_map_of_mem hc))
    rw [List.map_congr_left this, List.map_id']
  · rw [fixedV_of fun cs e => hv ⟨cs, e⟩] at h
    exact fixedA_back h
theorem okv_fix {tok : Tok} {w : W} {v : AV} (h : okv tok v = true) : stf tok w v = v := by
  cases tok with
  | lab a => exact fixedV_strip h
  | _ => rfl
theorem okv_back {tok : Tok} {w : W} {v : AV} (h : okv tok (stf tok w v) = true) : stf tok w v = v := by
  cases tok with
  | lab a => exact fixedV_back h
  | _ => rfl
theorem flat_strip {a : Nat} {w : W} {d : Nat} {v : AV} : flatA (Am.strip a w (d + 1) v) = flatA v := by
  cases v with
  | os t l b => by_cases hb : (a == b) = true <;> cases w <;> simp [Am.strip, hb, W.av, flatA]
  | oe t l b => by_cases hb : (a == b) = true <;> simp [Am.strip, hb, flatA]
  | ot t l b => by_cases hb : (a == b) = true <;> simp [Am.strip, hb, flatA]
  | mp b u ks vs => by_cases hb : (a == b) = true <;> cases u <;> cases w <;> simp [Am.strip, hb, W.av, flatA]
  | fn g fs cs => cases fs <;> cases cs <;> simp [Am.strip, flatA]
  | _ => rfl
theorem flat_fuel {a : Nat} {w : W} {d e : Nat} {v : AV} (h : flatA v = true) : Am.strip a w (d + 1) v = Am.strip a w (e + 1) v := by
  cases v with
  | agg => cases h
  | tup => cases h
  | lit => cases h
  | lp => cases h
  | fn g fs cs =>
    cases fs with
    | cons => simp [flatA] at h
    | nil => cases cs with
      | cons => simp [flatA] at h
      | nil => rfl
  | _ => rfl
theorem flat_stf {tok : Tok} {w : W} {v : AV} : flatA (stf tok w v) = flatA v := by
  cases tok with
  | lab a => exact flat_strip
  | _ => rfl
theorem stf_undef (tok : Tok) (w : W) : stf tok w .undef = .undef := by cases tok <;> rfl
theorem stf_ptr (tok : Tok) (w : W) (u d off : Nat) : stf tok w (.ptr u d off) = .ptr u d off := by cases tok <;> rfl
theorem stf_unit (tok : Tok) (w : W) : stf tok w (.tup []) = .tup [] := by cases tok <;> rfl
theorem stf_const (tok : Tok) (w : W) (c : Value) : stf tok w (ofConst c) = ofConst c := by
  unfold ofConst
  split <;> (cases tok <;> rfl)
theorem stf_one {tok : Tok} {w : W} {ag : Bool} {l : List AV} (h : (!ag || l.all flatA) = true) : stf tok w (oneOr ag l) = oneOr ag (l.map (stf tok w)) := by
  cases ag with
  | false =>
    cases l with
    | nil => exact stf_undef _ _
    | cons => rfl
  | true =>
    simp only [Bool.not_true, Bool.false_or] at h
    cases tok with
    | lab a =>
      show AV.agg (l.map (Am.strip a w 5)) = AV.agg (l.map (Am.strip a w 6))
      congr 1
      exact List.map_congr_left fun c hc => flat_fuel (List.all_eq_true.1 h c hc)
    | _ =>
      show oneOr true l = oneOr true (l.map id)
      rw [List.map_id]
theorem getD_stf (tok : Tok) (w : W) (tmps : List AV) (t : Nat) : (tmps.map (stf tok w)).getD t .undef = stf tok w (tmps.getD t .undef) := by
  simp only [List.getD_eq_getElem?_getD, List.getElem?_map]
  cases tmps[t]? with
  | none => exact (stf_undef tok w).symm
  | some v => rfl
theorem ev_stf (tok : Tok) (w : W) (tmps : List AV) (y : Operand) : ev (tmps.map (stf tok w)) y = stf tok w (ev tmps y) := by
  cases y with
  | tmp t => exact getD_stf tok w tmps t
  | const c => exact (stf_const tok w c).symm
  | global g => exact (stf_undef tok w).symm
  | func f => cases tok <;> rfl
theorem want_stf {ops : Array Oper} {o : Oper} {tok : Tok} {w : W} {tmps : List AV} : wantA ops o (tmps.map (stf tok w)) = wantA ops o tmps := by
  unfold wantA
  cases o.guard with
  | none => rfl
  | some gw =>
    obtain ⟨g, want⟩ := gw
    dsimp only
    cases (ops[g]?).bind (·.dst) with
    | none => rfl
    | some t =>
      dsimp only
      rw [List.getElem?_map]
      cases tmps[t]? with
      | none => rfl
      | some v =>
        simp only [Option.map_some]
        cases tok with
        | lab a =>
          simp only [stf]
          cases v with
          | bool b => rfl
          | tup cs => cases cs <;> simp [D, Am.strip]
          | os t l b => cases hab : (a == b) <;> cases w <;> simp [D, Am.strip, hab, W.av]
          | oe t l b i off => cases hab : (a == b) <;> simp [D, Am.strip, hab]
          | ot t l b i => cases hab : (a == b) <;> simp [D, Am.strip, hab]
          | mp b uq ks vs => cases hab : (a == b) <;> cases uq <;> cases w <;> simp [D, Am.strip, hab, W.av]
          | _ => simp [D, Am.strip]
        | _ => rfl
theorem put_stf (fr : Fr) (tok : Tok) (w : W) (dst : Option Nat) (v : AV) : (fr.put dst v).stf tok w = (fr.stf tok w).put dst (stf tok w v) := by
  cases dst with
  | none => rfl
  | some d => simp [Fr.put, Fr.stf, List.map_set]

theorem actA_put {C : Cfg} {ops : Array Oper} {o : Oper} {fr : Fr} {dst : Option Nat} {v : AV} (h : ∀ d, dst = some d → d ∉ o.looksAt ops) : actA C ops o (fr.put dst v).tmps = actA C ops o fr.tmps := by
  cases dst with
  | none => rfl
  | some d => exact actA_set (h d rfl)


theorem app_perform {dst : Option Nat} {fr : Fr} {cs : List Fr} {v : AV} {tok : Tok} {w : W} : perform dst fr cs (.app v tok w) = some ((fr.stf tok w).put dst v, cs.map (Fr.stf tok w)) := by
  cases tok with
  | lab a => rfl
  | _ =>
    show some (fr.put dst v, cs) = _
    rw [Fr.stf_id (by simp), List.map_congr_left (g := id) fun c _ => Fr.stf_id (by simp) w c, List.map_id]

/-- What is done to what is written alike. -/
theorem takeN_map {sz off : Nat} {l : List AV} {f : AV → AV} : takeN sz off (l.map f) = (takeN sz off l).map (·.map f) := by
  simp only [takeN, ← List.map_drop, ← List.map_take, List.length_map]
  split <;> rfl
theorem readP_stf {fr : Fr} {cs : List Fr} {tok : Tok} {w : W} {d off sz : Nat} : readP (fr.stf tok w) (cs.map (Fr.stf tok w)) (.ptr 0 d off) sz = (readP fr cs (.ptr 0 d off) sz).map (·.map (stf tok w)) := by
  have : (fr.stf tok w).bx.getD d [] = (fr.bx.getD d []).map (stf tok w) := by
    simp only [Fr.stf, List.getD_eq_getElem?_getD, List.getElem?_map]
    cases fr.bx[d]? <;> rfl
  simp only [readP, this, takeN_map]
theorem flagOf_stf {fr : Fr} {cs : List Fr} {tok : Tok} {w : W} {a : Action} (h : ∀ u d off sz ag, a = .load (.ptr u d off) sz ag → u = 0) : flagOf (fr.stf tok w) (cs.map (Fr.stf tok w)) a = flagOf fr cs a := by
  cases a with
  | load p sz ag =>
    cases p with
    | ptr u d off =>
      obtain rfl := h u d off sz ag rfl
      simp only [flagOf, readP_stf]
      congr 1
      cases readP fr cs (.ptr 0 d off) sz with
      | none => rfl
      | some l =>
        simp only [Option.map_some, Option.getD_some, List.all_map]
        congr 1
        funext c
        exact flat_stf
    | _ => rfl
  | _ => rfl

def laxA (tok : Tok) (fr : Fr) (cs : List Fr) (a : Action) : Prop :=
  (∃ v, a = .val v ∧ okv tok v = true) ∨ (∃ d off sz ag, a = .load (.ptr 0 d off) sz ag ∧ flagOf fr cs a = true) ∨ ∃ l, a = .new l ∧ l.all (okv tok) = true

theorem perform_stf {dst : Option Nat} {fr : Fr} {cs : List Fr} {a : Action} {tok : Tok} {w : W} (h : laxA tok fr cs a) : perform dst (fr.stf tok w) (cs.map (Fr.stf tok w)) a = (perform dst fr cs a).map (stS tok w) := by
  rcases h with ⟨v, rfl, hv⟩ | ⟨d, off, sz, ag, rfl, hf⟩ | ⟨l, rfl, hl⟩
  · simp only [perform, Option.map_some, stS, put_stf, okv_fix hv]
  · simp only [perform, readP_stf]
    simp only [flagOf] at hf
    cases hr : readP fr cs (.ptr 0 d off) sz with
    | none => rfl
    | some l =>
      rw [hr] at hf
      simp only [Option.getD_some] at hf
      have := stf_one (tok := tok) (w := w) hf
      simp only [oneOr] at this
      simp only [Option.map_some, stS, put_stf, this]
  · simp only [perform]
    cases dst with
    | none => rfl
    | some d =>
      have hl' : l.map (stf tok w) = l := by
        rw [List.map_congr_left (g := fun c => c) fun c hc => okv_fix (List.all_eq_true.1 hl c hc), List.map_id']
      have hb : (fr.stf tok w).bx[d]? = (fr.bx[d]?).map fun b => b.map (stf tok w) := by simp [Fr.stf]
      dsimp only
      rw [hb]
      cases hx : fr.bx[d]? with
      | none => rfl
      | some b =>
        cases b with
        | cons => rfl
        | nil =>
          cases l with
          | nil => rfl
          | cons c l =>
            simp only [Option.map_some, List.map_nil, stS, Fr.stf, List.map_set, stf_ptr]
            rw [hl']

def isMv (o : Oper) (m : Bool) (a : Action) : Prop := (m = false ∧ a = .val (.tup [])) ∨ ∃ y v, o.op = .move y ∧ a = .val v
theorem actA_some {C : Cfg} {ops : Array Oper} {o : Oper} {tmps : List AV} {a : Action} {m : Bool} (h : actA C ops o tmps = some (a, m)) :
    (m = true ∧ wantA ops o tmps = some true ∧ act C o (ev tmps) some = some a) ∨ (m = false ∧ wantA ops o tmps = some false ∧ a = .val (.tup [])) := by
  unfold actA at h
  split at h
  · rename_i hw
    simp only [Option.map_eq_some_iff, Prod.mk.injEq] at h
    obtain ⟨a', h1, rfl, rfl⟩ := h
    exact .inl ⟨rfl, hw, h1⟩
  · rename_i hw
    simp only [Option.some.injEq, Prod.mk.injEq] at h
    exact .inr ⟨h.2.symm, hw, h.1.symm⟩
  · cases h
theorem act_mv {C : Cfg} {o : Oper} {tmps : List AV} {y : Operand} (h : o.op = .move y) : act C o (ev tmps) some = some (.val (ev tmps y)) := by
  unfold act; rw [h]
theorem logM_mv {ops : Array Oper} {o : Oper} {fr : Fr} {cs : List Fr} {m : Bool} {a : Action} (h : (logM ops o fr cs m a).1 = .move) (hact : m = false → a = .val (.tup [])) : isMv o m a := by
  cases m with
  | false => exact .inl ⟨rfl, hact rfl⟩
  | true =>
    simp only [logM, if_true] at h
    unfold logOf at h
    cases a with
    | val v =>
      cases ho : o.op
      case move y => exact .inr ⟨y, v, ho, rfl⟩
      all_goals (simp [accOf, ho] at h)
    | load p sz ag => cases p <;> simp [accOf] at h
    | store p vs sz => cases p <;> simp [accOf] at h
    | new l => simp [accOf] at h
    | app v tok w => simp [accOf] at h
theorem mv_log {ops : Array Oper} {o : Oper} {fr : Fr} {cs : List Fr} {m : Bool} {a : Action} (h : isMv o m a) : logM ops o fr cs m a = Log.none := by
  rcases h with ⟨rfl, _⟩ | ⟨y, v, ho, rfl⟩
  · rfl
  · cases m with
    | false => rfl
    | true => simp [logM, logOf, accOf, ho]

/-- An operation of the lax kind, and what it looks at. -/
theorem lax_of {ops : Array Oper} {o : Oper} {fr : Fr} {cs : List Fr} {m : Bool} {a : Action} {tok : Tok} (h : (logM ops o fr cs m a).lax tok = true) (hact : m = false → a = .val (.tup [])) :
    isMv o m a ∨ (m = true ∧ (∀ t ∈ o.looksAt ops, okv tok (fr.tmps.getD t .undef) = true) ∧ laxA tok fr cs a) := by
  cases m with
  | false => exact .inl (.inl ⟨rfl, hact rfl⟩)
  | true =>
    simp only [logM, if_true] at h
    have key : ∀ k : Acc, accOf o a = k → (∀ t, k ≠ .app t) → k ≠ .move → logOf ops o fr cs a = (k, (o.looksAt ops).map (fun t => fr.tmps.getD t .undef) ++ valsOf a, flagOf fr cs a) := by
      intro k hk h1 h2
      unfold logOf
      rw [hk]
      cases k <;> first | rfl | exact absurd rfl (h1 _) | exact absurd rfl h2
    have fin : ∀ k : Acc, accOf o a = k → (∀ t, k ≠ .app t) → k ≠ .move → (match k with | .pure | .mk _ | .rd 0 _ => true | _ => false) = true ∧ (∀ t ∈ o.looksAt ops, okv tok (fr.tmps.getD t .undef) = true) ∧ (valsOf a).all (okv tok) = true ∧ flagOf fr cs a = true := by
      intro k hk h1 h2
      rw [key k hk h1 h2] at h
      simp only [Log.lax, List.all_append, Bool.and_eq_true] at h
      refine ⟨h.1, fun t ht => List.all_eq_true.1 h.2.1.1 _ (List.mem_map_of_mem ht), h.2.1.2, h.2.2⟩
    cases a with
    | val v =>
      by_cases hm : ∃ y, o.op = .move y
      · obtain ⟨y, ho⟩ := hm
        exact .inl (.inr ⟨y, v, ho, rfl⟩)
      · have hk : accOf o (.val v) = .pure := by
          simp only [accOf]
          split
          · rename_i y ho; exact absurd ⟨y, ho⟩ hm
          · rfl
        obtain ⟨_, h2, h3, h4⟩ := fin _ hk (by simp) (by simp)
        exact .inr ⟨rfl, h2, .inl ⟨v, rfl, by simpa [valsOf] using h3⟩⟩
    | load p sz ag =>
      cases p with
      | ptr u d off =>
        obtain ⟨h1, h2, h3, h4⟩ := fin (.rd u d) rfl (by simp) (by simp)
        cases u with
        | succ u => cases h1
        | zero => exact .inr ⟨rfl, h2, .inr (.inl ⟨d, off, sz, ag, rfl, h4⟩)⟩
      | _ =>
        obtain ⟨h1, h2, h3, h4⟩ := fin .pure rfl (by simp) (by simp)
        cases h4
    | store p vs sz =>
      cases p with
      | ptr u d off => obtain ⟨h1, _⟩ := fin (.wr u d) rfl (by simp) (by simp); cases h1
      | _ => obtain ⟨h1, _⟩ := fin .oth rfl (by simp) (by simp); cases h1
    | new l =>
      obtain ⟨_, h2, h3, h4⟩ := fin (.mk (o.dst.getD 0)) rfl (by simp) (by simp)
      exact .inr ⟨rfl, h2, .inr (.inr ⟨l, rfl, h3⟩)⟩
    | app v t w =>
      simp [logOf, accOf, Log.lax] at h

theorem actA_same {C : Cfg} {ops : Array Oper} {o : Oper} {tmps : List AV} {tok : Tok} {w : W} (h : ∀ t ∈ o.looksAt ops, stf tok w (tmps.getD t .undef) = tmps.getD t .undef) : actA C ops o (tmps.map (stf tok w)) = actA C ops o tmps := by
  have h2 : act C o (ev (tmps.map (stf tok w))) some = act C o (ev tmps) some := act_congr fun y hy => by
    rw [ev_stf]
    cases y with
    | tmp t => exact h t (List.mem_append_left _ (List.mem_filterMap.2 ⟨.tmp t, by simpa using hy, rfl⟩))
    | const c => exact stf_const tok w c
    | global g => exact stf_undef tok w
    | func f => cases tok <;> rfl
  unfold actA
  rw [want_stf, h2]
theorem logM_same {ops : Array Oper} {o : Oper} {fr : Fr} {cs : List Fr} {m : Bool} {a : Action} {tok : Tok} {w : W} (h : ∀ t ∈ o.looksAt ops, stf tok w (fr.tmps.getD t .undef) = fr.tmps.getD t .undef) (hu : ∀ u d off sz ag, a = .load (.ptr u d off) sz ag → u = 0) :
    logM ops o (fr.stf tok w) (cs.map (Fr.stf tok w)) m a = logM ops o fr cs m a := by
  have h1 : (o.looksAt ops).map (fun t => (fr.stf tok w).tmps.getD t .undef) = (o.looksAt ops).map (fun t => fr.tmps.getD t .undef) := List.map_congr_left fun t ht => by
    show (fr.tmps.map (stf tok w)).getD t .undef = _
    rw [getD_stf]
    exact h t ht
  simp only [logM, logOf, flagOf_stf hu, h1]
theorem laxA_u {tok : Tok} {fr : Fr} {cs : List Fr} {a : Action} (h : laxA tok fr cs a) : ∀ u d off sz ag, a = .load (.ptr u d off) sz ag → u = 0 := by
  intro u d off sz ag e
  subst e
  rcases h with ⟨v, h, _⟩ | ⟨d', off', sz', ag', h, _⟩ | ⟨l, h, _⟩
  · cases h
  · cases h; rfl
  · cases h

/-- Behind what takes a label away: as before it. -/
theorem op_fwd {C : Cfg} {ops : Array Oper} {j : Nat} {s s1 : Fr × List Fr} {L : Log} {tok : Tok} (w : W) (h : opA C ops j s = some (s1, L)) (hL : L.1 = .move ∨ L.lax tok = true) : opA C ops j (stS tok w s) = some (stS tok w s1, L) := by
  unfold opA at h ⊢
  cases hj : ops[j]? with
  | none => rw [hj] at h; cases h
  | some o =>
    rw [hj] at h
    dsimp only at h ⊢
    cases ha : actA C ops o s.1.tmps with
    | none => rw [ha] at h; cases h
    | some am =>
      obtain ⟨a, m⟩ := am
      rw [ha] at h
      simp only [Option.map_eq_some_iff, Prod.mk.injEq] at h
      obtain ⟨s1', hp, rfl, rfl⟩ := h
      have hact : m = false → a = .val (.tup []) := fun hm => by
        rcases actA_some ha with ⟨h1, _⟩ | ⟨_, _, h1⟩
        · rw [hm] at h1; cases h1
        · exact h1
      have hmv : isMv o m a ∨ (m = true ∧ (∀ t ∈ o.looksAt ops, okv tok (s.1.tmps.getD t .undef) = true) ∧ laxA tok s.1 s.2 a) := hL.elim (fun h => .inl (logM_mv h hact)) fun h => lax_of h hact
      rcases hmv with hmv | ⟨rfl, hlook, hlax⟩
      · -- a move
        have hval : ∃ v, a = .val v := hmv.elim (fun h => ⟨_, h.2⟩) fun ⟨_, v, _, h⟩ => ⟨v, h⟩
        obtain ⟨v, rfl⟩ := hval
        have ha' : actA C ops o (stS tok w s).1.tmps = some (.val (stf tok w v), m) := by
          show actA C ops o (s.1.tmps.map (stf tok w)) = _
          rcases actA_some ha with ⟨rfl, hw, h1⟩ | ⟨rfl, hw, h1⟩
          · rcases hmv with ⟨h, _⟩ | ⟨y, v', ho, _⟩
            · cases h
            · rw [act_mv ho] at h1
              cases h1
              simp [actA, want_stf, hw, act_mv ho, ev_stf]
          · cases h1
            simp [actA, want_stf, hw, stf_unit]
        have hmv' : isMv o m (.val (stf tok w v)) := hmv.elim (fun h => .inl ⟨h.1, by have := h.2; cases this; rw [stf_unit]⟩) fun ⟨y, _, ho, _⟩ => .inr ⟨y, _, ho, rfl⟩
        rw [ha']
        simp only [perform, Option.some.injEq] at hp
        subst hp
        simp only [perform, Option.map_some, mv_log hmv, mv_log hmv', stS, put_stf]
      · have hfix : ∀ t ∈ o.looksAt ops, stf tok w (s.1.tmps.getD t .undef) = s.1.tmps.getD t .undef := fun t ht => okv_fix (hlook t ht)
        rw [show (stS tok w s).1.tmps = s.1.tmps.map (stf tok w) from rfl, actA_same hfix, ha]
        show (perform o.dst (s.1.stf tok w) (s.2.map (Fr.stf tok w)) a).map _ = _
        rw [perform_stf hlax, hp]
        simp only [Option.map_some, Option.some.injEq, Prod.mk.injEq, true_and]
        exact logM_same hfix (laxA_u hlax)
theorem op_bwd {C : Cfg} {ops : Array Oper} {j : Nat} {s s2 : Fr × List Fr} {L : Log} {tok : Tok} {w : W} (h : opA C ops j (stS tok w s) = some (s2, L)) (hL : L.1 = .move ∨ L.lax tok = true) : ∃ s1, opA C ops j s = some (s1, L) ∧ s2 = stS tok w s1 := by
  unfold opA at h ⊢
  cases hj : ops[j]? with
  | none => rw [hj] at h; cases h
  | some o =>
    rw [hj] at h
    dsimp only at h ⊢
    cases ha : actA C ops o (stS tok w s).1.tmps with
    | none => rw [ha] at h; cases h
    | some am =>
      obtain ⟨a, m⟩ := am
      rw [ha] at h
      simp only [Option.map_eq_some_iff, Prod.mk.injEq] at h
      obtain ⟨s1', hp, rfl, rfl⟩ := h
      have hact : m = false → a = .val (.tup []) := fun hm => by
        rcases actA_some ha with ⟨h1, _⟩ | ⟨_, _, h1⟩
        · rw [hm] at h1; cases h1
        · exact h1
      have hmv : isMv o m a ∨ (m = true ∧ (∀ t ∈ o.looksAt ops, okv tok ((stS tok w s).1.tmps.getD t .undef) = true) ∧ laxA tok (stS tok w s).1 (stS tok w s).2 a) := hL.elim (fun h => .inl (logM_mv h hact)) fun h => lax_of h hact
      have ha0 : actA C ops o (s.1.tmps.map (stf tok w)) = some (a, m) := ha
      rcases hmv with hmv | ⟨rfl, hlook, hlax⟩
      · have hval : ∃ v, actA C ops o s.1.tmps = some (.val v, m) ∧ a = .val (stf tok w v) ∧ isMv o m (.val v) := by
          rcases actA_some ha0 with ⟨rfl, hw, h1⟩ | ⟨rfl, hw, rfl⟩
          · rcases hmv with ⟨h, _⟩ | ⟨y, v', ho, _⟩
            · cases h
            · rw [act_mv ho, ev_stf] at h1
              cases h1
              rw [want_stf] at hw
              exact ⟨ev s.1.tmps y, by simp [actA, hw, act_mv ho], rfl, .inr ⟨y, _, ho, rfl⟩⟩
          · rw [want_stf] at hw
            exact ⟨.tup [], by simp [actA, hw], by rw [stf_unit], .inl ⟨rfl, rfl⟩⟩
        obtain ⟨v, hv, rfl, hmv0⟩ := hval
        rw [hv]
        simp only [perform, Option.some.injEq] at hp
        subst hp
        refine ⟨(s.1.put o.dst v, s.2), ?_, ?_⟩
        · simp only [perform, Option.map_some, mv_log hmv, mv_log hmv0]
        · simp only [stS, put_stf]
      · have hfix : ∀ t ∈ o.looksAt ops, stf tok w (s.1.tmps.getD t .undef) = s.1.tmps.getD t .undef := fun t ht => by
          have := hlook t ht
          rw [show (stS tok w s).1.tmps = s.1.tmps.map (stf tok w) from rfl, getD_stf] at this
          exact okv_back this
        rw [actA_same hfix] at ha0
        rw [ha0]
        have hu := laxA_u hlax
        have hlax0 : laxA tok s.1 s.2 a := by
          rcases hlax with h | ⟨d, off, sz, ag, rfl, hf⟩ | h
          · exact .inl h
          · refine .inr (.inl ⟨d, off, sz, ag, rfl, ?_⟩)
            rw [show (stS tok w s).1 = s.1.stf tok w from rfl, show (stS tok w s).2 = s.2.map (Fr.stf tok w) from rfl, flagOf_stf hu] at hf
            exact hf
          · exact .inr (.inr h)
        have hp' : perform o.dst (s.1.stf tok w) (s.2.map (Fr.stf tok w)) a = some s1' := hp
        rw [perform_stf hlax0, Option.map_eq_some_iff] at hp'
        obtain ⟨s1, hp1, rfl⟩ := hp'
        refine ⟨s1, ?_, rfl⟩
        dsimp only
        rw [hp1]
        simp only [Option.map_some, Option.some.injEq, Prod.mk.injEq, true_and]
        exact (logM_same hfix hu).symm

theorem run_head {m : ME} {fr : Fr} {cs f : List Fr} {v : AV} (h : m.run (fr :: cs) = some (v, f)) : ∃ fr1 cs1, f = fr1 :: cs1 ∧ fr1.tmps = fr.tmps := by
  cases m with
  | bad => cases h
  | cst v' =>
    simp only [ME.run, Option.some.injEq, Prod.mk.injEq] at h
    exact ⟨fr, cs, h.2.symm, rfl⟩
  | rd u d g =>
    simp only [ME.run, Option.bind_eq_some_iff, Option.map_eq_some_iff, Prod.mk.injEq] at h
    obtain ⟨c, _, v', _, _, e⟩ := h
    exact ⟨fr, cs, e.symm, rfl⟩
  | wr u d h' v' =>
    simp only [ME.run, Option.bind_eq_some_iff, Option.map_eq_some_iff, Prod.mk.injEq] at h
    obtain ⟨c, hcc, l', _, _, e⟩ := h
    cases u with
    | zero =>
      have : fr = c := by simpa using hcc
      subst this
      exact ⟨_, _, e.symm, rfl⟩
    | succ u => exact ⟨_, _, e.symm, rfl⟩



/-! ### What is laid into a temporary that the operation does not look at -/
def puS (dst : Option Nat) (v : AV) (s : Fr × List Fr) : Fr × List Fr := (s.1.put dst v, s.2)
theorem getD_put {fr : Fr} {dst : Option Nat} {v : AV} {t : Nat} (h : ∀ d, dst = some d → d ≠ t) : (fr.put dst v).tmps.getD t .undef = fr.tmps.getD t .undef := by
  cases dst with
  | none => rfl
  | some d => simp only [Fr.put, List.getD_eq_getElem?_getD, List.getElem?_set, if_neg (h d rfl)]
theorem readP_put {fr : Fr} {cs : List Fr} {dst : Option Nat} {v p : AV} {sz : Nat} : readP (fr.put dst v) cs p sz = readP fr cs p sz := by
  unfold readP
  rw [put_bx]
theorem flagOf_put {fr : Fr} {cs : List Fr} {dst : Option Nat} {v : AV} {a : Action} : flagOf (fr.put dst v) cs a = flagOf fr cs a := by
  cases a with
  | load p sz ag => cases p <;> simp only [flagOf, readP_put]
  | _ => rfl
theorem logM_put {ops : Array Oper} {o : Oper} {fr : Fr} {cs : List Fr} {m : Bool} {a : Action} {dst : Option Nat} {v : AV} (h : ∀ d, dst = some d → d ∉ o.looksAt ops) : logM ops o (fr.put dst v) cs m a = logM ops o fr cs m a := by
  have h1 : (o.looksAt ops).map (fun t => (fr.put dst v).tmps.getD t .undef) = (o.looksAt ops).map (fun t => fr.tmps.getD t .undef) := List.map_congr_left fun t ht => getD_put fun d hd e => h d hd (e ▸ ht)
  simp only [logM, logOf, flagOf_put, h1]
theorem perform_put {dst dst' : Option Nat} {fr : Fr} {cs : List Fr} {a : Action} {v : AV} (ha : isApp a = false) (hd : ∀ d, dst' = some d → dst ≠ some d) : perform dst (fr.put dst' v) cs a = (perform dst fr cs a).map (puS dst' v) := by
  rw [perform_me ha, perform_me ha]
  have : (fr.put dst' v :: cs) = putF dst' v (fr :: cs) := rfl
  rw [this, run_putF]
  cases (meOf dst a).run (fr :: cs) with
  | none => rfl
  | some x =>
    obtain ⟨u, f⟩ := x
    cases f with
    | nil => rfl
    | cons g k =>
      simp only [Option.map_some, putF, fin, puS]
      rw [put_comm _ _ _ hd]
theorem op_put {C : Cfg} {ops : Array Oper} {j : Nat} {o : Oper} {fr : Fr} {cs : List Fr} {dst : Option Nat} {v : AV} (hj : ops[j]? = some o) (h : ∀ d, dst = some d → d ∉ o.looksAt ops) (hd : ∀ d, dst = some d → o.dst ≠ some d)
    (ha : ∀ a m, actA C ops o fr.tmps = some (a, m) → isApp a = false) : opA C ops j (fr.put dst v, cs) = (opA C ops j (fr, cs)).map fun x => (puS dst v x.1, x.2) := by
  simp only [opA, hj, actA_put h]
  cases hA : actA C ops o fr.tmps with
  | none => rfl
  | some am =>
    obtain ⟨a, m⟩ := am
    dsimp only
    rw [perform_put (ha a m hA) hd, logM_put h]
    cases perform o.dst fr cs a <;> rfl
theorem perform_tmps {dst : Option Nat} {fr : Fr} {cs : List Fr} {a : Action} {s : Fr × List Fr} (ha : isApp a = false) (h : perform dst fr cs a = some s) : ∃ v, s.1.tmps = (fr.put dst v).tmps := by
  rw [perform_me ha] at h
  unfold fin at h
  split at h
  · rename_i v g k hr
    obtain ⟨fr1, cs1, e, t⟩ := run_head hr
    simp only [List.cons.injEq] at e
    obtain ⟨rfl, rfl⟩ := e
    cases h
    exact ⟨v, by simp only [put_tmps, t]⟩
  · cases h
/-- What was read is what was put. -/
theorem flag_run {dst : Option Nat} {fr fr' : Fr} {cs cs' : List Fr} {a : Action} {v : AV} {f f' : List Fr} (h : (meOf dst a).run (fr :: cs) = some (v, f)) (h' : (meOf dst a).run (fr' :: cs') = some (v, f')) : flagOf fr cs a = flagOf fr' cs' a := by
  have key : ∀ (fr : Fr) (cs : List Fr) (f : List Fr) (u d off sz : Nat) (ag : Bool), (meOf dst (.load (.ptr u d off) sz ag)).run (fr :: cs) = some (v, f) → flagOf fr cs (.load (.ptr u d off) sz ag) = (!ag || (match v with | .agg l => l.all flatA | _ => true)) := by
    intro fr cs f u d off sz ag h
    simp only [meOf, ME.run, Option.bind_eq_some_iff, Option.map_eq_some_iff, Prod.mk.injEq] at h
    obtain ⟨c, hc, v', ⟨l, hl, hv'⟩, rfl, _⟩ := h
    cases ag with
    | false => rfl
    | true =>
      simp only [oneOr, if_true] at hv'
      subst hv'
      simp only [flagOf, Bool.not_true, Bool.false_or]
      cases u with
      | zero =>
        have : fr = c := by simpa using hc
        subst this
        simp only [readP, List.getD_eq_getElem?_getD, hl, Option.getD_some, if_true]
      | succ u =>
        have hc : cs[u]? = some c := by simpa using hc
        simp only [readP, hc, List.getD_eq_getElem?_getD, hl, Option.map_some, Option.getD_some]
        rfl
  cases a with
  | load p sz ag =>
    cases p with
    | ptr u d off => rw [key fr cs f u d off sz ag h, key fr' cs' f' u d off sz ag h']
    | _ => rfl
  | _ => rfl
theorem logM_run {ops : Array Oper} {o : Oper} {fr fr' : Fr} {cs cs' : List Fr} {m : Bool} {a : Action} {v : AV} {dst : Option Nat} {f f' : List Fr} (ht : fr'.tmps = fr.tmps) (h : (meOf dst a).run (fr :: cs) = some (v, f)) (h' : (meOf dst a).run (fr' :: cs') = some (v, f')) : logM ops o fr' cs' m a = logM ops o fr cs m a := by
  simp only [logM, logOf, ht, flag_run h h']
theorem app_log {ops : Array Oper} {o : Oper} {fr : Fr} {cs : List Fr} {v : AV} {tok : Tok} {w : W} : logM ops o fr cs true (.app v tok w) = (.app tok, [], true) := rfl
theorem acc_log {ops : Array Oper} {o : Oper} {fr : Fr} {cs : List Fr} {m : Bool} {a : Action} (hact : m = false → a = .val (.tup [])) : (logM ops o fr cs m a).1 = accOf o a ∨ (logM ops o fr cs m a = Log.none ∧ ∃ v, a = .val v) := by
  cases m with
  | false => exact .inr ⟨rfl, _, hact rfl⟩
  | true =>
    left
    simp only [logM, if_true]
    unfold logOf
    split
    · rename_i h; exact h.symm
    · rename_i h; exact h.symm
    · rfl

theorem opA_comm {C : Cfg} {ops : Array Oper} {i j : Nat} {oi oj : Oper} (hi : ops[i]? = some oi) (hj : ops[j]? = some oj) (hap : oi.apart ops oj = true) {s s1 s2 : Fr × List Fr} {ai aj : Log} (hc : ai.compat aj = true)
    (h1 : opA C ops i s = some (s1, ai)) (h2 : opA C ops j s1 = some (s2, aj)) : ∃ s1', opA C ops j s = some (s1', aj) ∧ opA C ops i s1' = some (s2, ai) := by
  obtain ⟨p1, p2, p3⟩ := Oper.apart_spec hap
  have p2' : ∀ d, oj.dst = some d → oi.dst ≠ some d := fun d h1 h2 => p2 d h2 h1
  obtain ⟨fr, cs⟩ := s
  have h1' := h1
  have h2' := h2
  simp only [opA, hi] at h1
  cases ha : actA C ops oi fr.tmps with
  | none => rw [ha] at h1; cases h1
  | some am =>
  obtain ⟨a, m⟩ := am
  rw [ha] at h1
  simp only [Option.map_eq_some_iff, Prod.mk.injEq] at h1
  obtain ⟨s1', hp1, rfl, hLi⟩ := h1
  have hactA : m = false → a = .val (.tup []) := fun hm => by
    rcases actA_some ha with ⟨h1, _⟩ | ⟨_, _, h1⟩
    · rw [hm] at h1; cases h1
    · exact h1
  by_cases hA : isApp a = true
  · -- what takes a label away comes first
    cases a with
    | app v tok w =>
      have hm : m = true := by cases m with
        | true => rfl
        | false => cases hactA rfl
      subst hm
      rw [app_perform] at hp1
      cases hp1
      rw [app_log] at hLi
      subst hLi
      -- the other
      have hnapp : ∀ b mb, actA C ops oj (fr.stf tok w).tmps = some (b, mb) → isApp b = false := by
        intro b mb hb
        cases b with
        | app v' tok' w' =>
          simp only [opA, hj, actA_put p1, hb, app_perform, Option.map_some, Option.some.injEq, Prod.mk.injEq] at h2
          obtain ⟨_, rfl⟩ := h2
          have hmb : mb = true := by
            rcases actA_some hb with ⟨h, _⟩ | ⟨_, _, h⟩
            · exact h
            · cases h
          subst hmb
          rw [app_log] at hc
          simp [Log.compat, Acc.compat] at hc
        | _ => rfl
      rw [op_put hj p1 p2 hnapp] at h2
      simp only [Option.map_eq_some_iff, Prod.mk.injEq] at h2
      obtain ⟨⟨s3, L⟩, h3, rfl, rfl⟩ := h2
      have hL : L.1 = .move ∨ L.lax tok = true := by
        unfold Log.compat at hc
        rw [Bool.or_eq_true] at hc
        rcases hc with hc | hc
        · left
          cases hk : L.1 <;> rw [hk] at hc <;> first | rfl | simp [Acc.compat] at hc
        · right
          dsimp only at hc
          split at hc
          · cases hc
          · rename_i e _; cases e; exact hc
          · cases hc
          · cases hc
      obtain ⟨s4, h4, rfl⟩ := op_bwd (s := (fr, cs)) (tok := tok) (w := w) h3 hL
      refine ⟨s4, h4, ?_⟩
      have h4' := h4
      simp only [opA, hj] at h4
      cases hb : actA C ops oj fr.tmps with
      | none => rw [hb] at h4; cases h4
      | some bm =>
        obtain ⟨b, mb⟩ := bm
        rw [hb] at h4
        simp only [Option.map_eq_some_iff, Prod.mk.injEq] at h4
        obtain ⟨s5, hp4, rfl, rfl⟩ := h4
        have hB : isApp b = false := by
          cases hB : isApp b with
          | false => rfl
          | true =>
            cases b with
            | app v' tok' w' =>
              have hmb : mb = true := by
                rcases actA_some hb with ⟨h, _⟩ | ⟨_, _, h⟩
                · exact h
                · cases h
              subst hmb
              rw [app_log] at hL
              rcases hL with h | h
              · cases h
              · simp [Log.lax] at h
            | _ => cases hB
        obtain ⟨u, ht⟩ := perform_tmps hB hp4
        simp only [opA, hi, ht, actA_put p3, ha, app_perform, Option.map_some, app_log]
        rfl
    | _ => cases hA
  · have hA : isApp a = false := by simpa using hA
    obtain ⟨u1, ht1⟩ := perform_tmps hA hp1
    simp only [opA, hj, ht1, actA_put p1] at h2
    cases hb : actA C ops oj fr.tmps with
    | none => rw [hb] at h2; cases h2
    | some bm =>
    obtain ⟨b, mb⟩ := bm
    rw [hb] at h2
    simp only [Option.map_eq_some_iff, Prod.mk.injEq] at h2
    obtain ⟨s2', hp2, rfl, hLj⟩ := h2
    have hactB : mb = false → b = .val (.tup []) := fun hm => by
      rcases actA_some hb with ⟨h1, _⟩ | ⟨_, _, h1⟩
      · rw [hm] at h1; cases h1
      · exact h1
    by_cases hB : isApp b = true
    · -- .. comes last
      cases b with
      | app v tok w =>
        have hm : mb = true := by cases mb with
          | true => rfl
          | false => cases hactB rfl
        subst hm
        rw [app_perform] at hp2
        cases hp2
        rw [app_log] at hLj
        subst hLj
        have hL : ai.1 = .move ∨ ai.lax tok = true := by
          unfold Log.compat at hc
          rw [Bool.or_eq_true] at hc
          rcases hc with hc | hc
          · left
            cases hk : ai.1 <;> rw [hk] at hc <;> first | rfl | simp [Acc.compat] at hc
          · right
            dsimp only at hc
            split at hc
            · cases hc
            · cases hc
            · rename_i hq e; cases hq; exact hc
            · cases hc
        refine ⟨((fr.stf tok w).put oj.dst v, cs.map (Fr.stf tok w)), ?_, ?_⟩
        · simp only [opA, hj, hb, app_perform, Option.map_some, app_log]
        · have h3 := op_fwd w h1' hL
          have hnapp : ∀ a' m', actA C ops oi (fr.stf tok w).tmps = some (a', m') → isApp a' = false := by
            intro a' m' h
            cases a' with
            | app v' tok' w' =>
              have hmb : m' = true := by
                rcases actA_some h with ⟨h, _⟩ | ⟨_, _, h⟩
                · exact h
                · cases h
              subst hmb
              simp only [opA, hi, stS, h, app_perform, Option.map_some, app_log, Option.some.injEq, Prod.mk.injEq] at h3
              rcases hL with h | h
              · rw [← h3.2] at h; cases h
              · rw [← h3.2] at h; simp [Log.lax] at h
            | _ => rfl
          have h4 := op_put (C := C) (cs := cs.map (Fr.stf tok w)) (v := v) hi p3 p2' hnapp
          rw [h4]
          have h3' : opA C ops i (fr.stf tok w, cs.map (Fr.stf tok w)) = some (stS tok w s1', ai) := h3
          rw [h3']
          rfl
      | _ => cases hB
    · have hB : isApp b = false := by simpa using hB
      have hdis : (meOf oi.dst a).apart (meOf oj.dst b) := by
        have hki := acc_log (ops := ops) (o := oi) (fr := fr) (cs := cs) hactA
        have hkj := acc_log (ops := ops) (o := oj) (fr := s1'.1) (cs := s1'.2) hactB
        rw [hLi] at hki
        rw [hLj] at hkj
        rcases hki with hki | ⟨_, v, rfl⟩
        · rcases hkj with hkj | ⟨_, v, rfl⟩
          · unfold Log.compat at hc
            rw [Bool.or_eq_true] at hc
            rcases hc with hc | hc
            · rw [hki, hkj] at hc
              exact acc_apart hc hA hB
            · rw [hki, hkj] at hc
              exfalso
              have na : ∀ (o : Oper) (a : Action) t, isApp a = false → accOf o a ≠ .app t := by
                intro o a t h e
                cases a with
                | app => cases h
                | val v => simp only [accOf] at e; split at e <;> cases e
                | load p sz ag => cases p <;> cases e
                | store p vs sz => cases p <;> cases e
                | new l => cases e
              split at hc
              · cases hc
              · rename_i e _; exact na _ _ _ hA e
              · rename_i e _; exact na _ _ _ hB e
              · cases hc
          · intro _ p hp hq; cases hq
        · intro _ p hp; cases hp
      have hp1' := hp1
      have hp2' := hp2
      rw [perform_me hA] at hp1
      rw [perform_me hB] at hp2
      unfold fin at hp1 hp2
      split at hp1
      · rename_i v frx csx hr1
        simp only [Option.some.injEq] at hp1
        subst hp1
        split at hp2
        · rename_i w fry csy hr2
          simp only [Option.some.injEq] at hp2
          subst hp2
          have hr2' : (meOf oj.dst b).run (putF oi.dst v (frx :: csx)) = some (w, fry :: csy) := hr2
          rw [run_putF] at hr2'
          simp only [Option.map_eq_some_iff, Prod.mk.injEq] at hr2'
          obtain ⟨⟨w', f2⟩, hr3, rfl, hf2⟩ := hr2'
          dsimp only at hf2 hr3 hr2
          obtain ⟨f1', hr4, hr5⟩ := ME.comm hdis hr1 hr3
          obtain ⟨g1, k1, e1, t1⟩ := run_head hr1
          simp only [List.cons.injEq] at e1
          obtain ⟨rfl, rfl⟩ := e1
          obtain ⟨g2, k2, rfl, t2⟩ := run_head hr4
          obtain ⟨g3, k3, rfl, t3⟩ := run_head hr5
          simp only [putF, List.cons.injEq] at hf2
          obtain ⟨rfl, rfl⟩ := hf2
          refine ⟨(g2.put oj.dst w', k2), ?_, ?_⟩
          · simp only [opA, hj, hb, perform_me hB, hr4, fin, Option.map_some]
            rw [← hLj, logM_put p1, logM_run t1 hr4 hr3]
          · have hr6 : (meOf oi.dst a).run (putF oj.dst w' (g2 :: k2)) = some (v, putF oj.dst w' (g3 :: k3)) := by rw [run_putF, hr5]; rfl
            simp only [putF] at hr6
            simp only [opA, hi, actA_put p3, t2, ha, perform_me hA, hr6, fin, Option.map_some, put_comm _ _ _ p2]
            rw [← hLi, logM_put p3, logM_run t2 hr1 hr5]
        · cases hp2
      · cases hp1
end Go.Am
