/- Part 18 of the proof: Am18. -/
import Derived.Test.YtapedmpbgeoieaaGreatC7p17
set_option linter.unusedSimpArgs false
set_option linter.unusedVariables false
namespace Go.Am
open Go Go.RowKit
set_option linter.unusedSimpArgs false
set_option linter.unusedVariables false
set_option linter.unusedSectionVars false

def botF : Nat → List Fr → Nat
  | f, [] => f
  | _, c :: cs => botF c.f cs
theorem botF_key : ∀ {cs cs' : List Fr} (f : Nat), cs.map key = cs'.map key → botF f cs = botF f cs'
  | [], [], _, _ => rfl
  | [], _ :: _, _, h => by cases h
  | _ :: _, [], _, h => by cases h
  | c :: cs, c' :: cs', f, h => by
    simp only [List.map_cons, List.cons.injEq] at h
    have : c.f = c'.f := congrArg Prod.fst h.1
    simp only [botF, this]
    exact botF_key _ h.2

/-- What is handed back: as it stands in the world ('raw'), or for good. -/
def FinR (raw : Bool) (w0 : World) (I0 : Nat → Nat → Prop) (el : ST → Nat) (r : AV) (w' : World) (v : Value) : Prop :=
  if raw = true then ∃ (x : X) (B : List BM), x.w = w' ∧ x.base = w0.heap.size ∧ x.el = el ∧ Sane x ∧ R x B r v
  else R (xAt w' (fun b o => I0 b o ∨ (w0.heap.size ≤ b ∧ b < w'.heap.size)) el 0) [] r v
def Ends (P : Program) (w0 : World) (I0 : Nat → Nat → Prop) (el : ST → Nat) (raw : Bool) (r : AV) (m : Machine) (f0 : Nat) (rest : List Frame) : Prop :=
  ∃ w' frm v, Steps P m (lone frm rest w') ∧ frm.fn = f0 ∧ frm.leaving P w' (.returned v) ∧ Below w0.heap.size w0 w' ∧ FinR raw w0 I0 el r w' v

theorem Ends.steps {P w0 I0 el raw r m m' f0 rest} (h : Steps P m m') (h' : Ends P w0 I0 el raw r m' f0 rest) : Ends P w0 I0 el raw r m f0 rest := by
  obtain ⟨w', frm, v, h1, h2⟩ := h'
  exact ⟨w', frm, v, h.trans h1, h2⟩

section
variable {P : Program} {w0 : World} {I0 : Nat → Nat → Prop} {el : ST → Nat} {C : Cfg} (hC : COk P el C)

theorem asAddr_run (a : Addr) (w : World) : (asAddr (.pointer (some a))).run P w = .ok a w := rfl

include hC in
theorem result_ok {x : X} {β : BM} {B : List BM} {fr : Fr} {cs : List Fr} {ts : List Value} {tss : List (List Value)} (h : FrsR x (β :: B) (fr :: cs) (ts :: tss)) (rs : List ResultVar) : ∀ (vs : List AV),
    rs.mapM (fun
      | .tmp t => some (fr.tmps.getD t .undef)
      | .cell a t => match look t C.ty with
        | none => none
        | some ti => match readP fr cs (fr.tmps.getD a .undef) ti.size with
          | some l => some (if ti.agg then .agg l else l.headD .undef)
          | none => none) = some vs →
    ∃ us, Rs x (β :: B) vs us ∧ (rs.mapM (m := Sem) fun
      | .tmp t => pure (ts.toArray.getD t undef)
      | .cell a t => do loadVar t (← asAddr (ts.toArray.getD a undef))).run P x.w = .ok us x.w := by
  have hget : ∀ t, R x (β :: B) (fr.tmps.getD t .undef) (ts.toArray.getD t undef) := fun t => ev_ok (a := actL ts) (tmps := fr.tmps) (by simpa [actL] using h.1) (.tmp t)
  induction rs with
  | nil =>
    intro vs hv
    simp at hv
    subst hv
    exact ⟨[], rfl, by simp⟩
  | cons v rs ih =>
    intro vs hv
    simp only [List.mapM_cons, Option.bind_eq_bind, Option.bind_eq_some_iff, Option.pure_def, Option.some.injEq] at hv
    obtain ⟨c, hc, vs', hvs, rfl⟩ := hv
    obtain ⟨us, h1, h2⟩ := ih vs' hvs
    cases v with
    | tmp t =>
      simp only [Option.some.injEq] at hc
      subst hc
      refine ⟨_ :: us, ⟨_, _, rfl, hget t, h1⟩, ?_⟩
      simp only [List.mapM_cons, Sem.run_bind, Sem.run_pure, Result.andThen_ok, h2]
    | cell a t =>
      dsimp only at hc
      split at hc
      · cases hc
      · rename_i ti hl
        split at hc
        · rename_i l hr
          simp only [Option.some.injEq] at hc
          subst hc
          obtain ⟨b, off, ls, k1, k2, k3, k4, k5⟩ := readP_ok h (hget a) hr
          have hld := loadVar_run (hC.ty t ti hl) x.w b off ls k2 k3
          refine ⟨(if ti.agg then .agg ls.toArray else ls.headD undef) :: us, ⟨_, _, rfl, ?_, h1⟩, ?_⟩
          · cases hag : ti.agg with
            | true => exact ⟨ls, rfl, k5, k4⟩
            | false =>
              have hsz := (hC.ty t ti hl).sc hag
              match ls, l, k4, k2.trans hsz with
              | [u], [c], k4, _ =>
                obtain ⟨_, _, e, e1, e2⟩ := k4
                cases e
                exact e1
              | [u], [], k4, _ => cases k4
              | [u], _ :: _ :: _, k4, _ =>
                have := Rs_len k4
                simp at this
          · simp only [List.mapM_cons, Sem.run_bind, k1, asAddr_run, Sem.run_pure, Result.andThen_ok, hld, h2]
        · cases hc

include hC in
theorem results_ok {x : X} {β : BM} {B : List BM} {fr : Fr} {cs : List Fr} {ts : List Value} {tss : List (List Value)} (h : FrsR x (β :: B) (fr :: cs) (ts :: tss)) {fn : Func} {vs : List AV} (hv : resultsA C fn fr cs = some vs) :
    ∃ v, (results fn ts.toArray).run P x.w = .ok v x.w ∧ ∀ r, R x (β :: B) (packA (canon r vs)) v := by
  obtain ⟨us, h1, h2⟩ := result_ok hC h fn.results.toList vs hv
  refine ⟨if h : us.toArray.size = 1 then us.toArray[0] else .tuple us.toArray, ?_, ?_⟩
  · unfold results
    simp only [Array.mapM_eq_mapM_toList, Sem.run_bind, Sem.run_map, h2, Result.andThen_ok, Sem.run_pure]
    exact (congrArg (fun r => (Result.andThen r fun a w' => Result.ok a.toArray w').andThen fun a w' => Result.ok (if h : a.size = 1 then a[0] else Value.tuple a) w') h2).trans rfl
  · intro r
    have h1' := Rs.canon r h1
    generalize canon r vs = vs' at h1'
    have hl := Rs_len h1'
    match vs', us, hl with
    | [], [], _ => exact ⟨[], rfl, rfl⟩
    | [v], [u], _ =>
      obtain ⟨_, _, e, e1, _⟩ := h1'
      cases e
      exact e1
    | v :: v' :: vs, u :: u' :: us, _ => exact ⟨_, rfl, h1'⟩


theorem FrsR.cons_inv {x : X} {B : List BM} {c : Fr} {cs : List Fr} {tss : List (List Value)} (h : FrsR x B (c :: cs) tss) : ∃ β' B' ts' tss', B = β' :: B' ∧ tss = ts' :: tss' := by
  cases B with
  | nil => exact h.elim
  | cons β B => cases tss with
    | nil => exact h.elim
    | cons ts tss => exact ⟨_, _, _, _, rfl, rfl⟩
theorem FrsR.nil_inv {x : X} {B : List BM} {tss : List (List Value)} (h : FrsR x B [] tss) : B = [] ∧ tss = [] := by
  cases B with
  | nil => cases tss with
    | nil => exact ⟨rfl, rfl⟩
    | cons => exact h.elim
  | cons => cases tss <;> exact h.elim

theorem mf_returning {p : Nat × List Item} {ts : List Value} : { mf p ts with mode := .returning } = ({ fn := p.1, tmps := ts.toArray, todo := p.2, defers := [], mode := .returning, kind := .normal } : Frame) := rfl

/-- What 'run' does behind the last step of a frame. -/
def retA (C : Cfg) (n : Nat) (fr : Fr) (cs : List Fr) : Option AV :=
  match look fr.f C.code with
  | none => none
  | some fn => match resultsA C fn fr cs with
    | none => none
    | some vs => match cs with
      | [] => if C.raw then some (packA vs) else if ground D (melt D (packA (canon C.res vs))) then some (melt D (packA (canon C.res vs))) else none
      | c :: cs => match unshift 1 D (packA vs), c.items with
        | some v, .inRegion ops (i :: rest) :: k => run C n 0 { (c.put ((ops[i]?).bind (·.dst)) v) with items := .inRegion ops rest :: k } cs
        | _, _ => none

def RunOk (P : Program) (w0 : World) (I0 : Nat → Nat → Prop) (el : ST → Nat) (C : Cfg) (n : Nat) : Prop :=
  ∀ (mk : Nat) (fr : Fr) (cs : List Fr) (r : AV), run C n mk fr cs = some r → ∀ (x : X) (β : BM) (B : List BM) (ts : List Value) (tss : List (List Value)) (rest : List Frame), Sim w0 I0 el x (β :: B) (fr :: cs) (ts :: tss) →
    Ends P w0 I0 el C.raw r (lone (mf (key fr) ts) (mfs (cs.map key) tss ++ rest) x.w) (botF fr.f cs) rest

include hC in
theorem ret_sound {n : Nat} (ih : RunOk P w0 I0 el C n) {fr : Fr} {cs : List Fr} {r : AV} (h : retA C n fr cs = some r) {x : X} {β : BM} {B : List BM} {ts : List Value} {tss : List (List Value)} (rest : List Frame) (S : Sim w0 I0 el x (β :: B) (fr :: cs) (ts :: tss)) (todo : List Item) :
    Ends P w0 I0 el C.raw r (lone { mf (fr.f, todo) ts with mode := .returning } (mfs (cs.map key) tss ++ rest) x.w) (botF fr.f cs) rest := by
  unfold retA at h
  split at h
  · cases h
  · rename_i fn hfn
    split at h
    · cases h
    · rename_i vs hvs
      obtain ⟨v, hv1, hv2⟩ := results_ok hC S.frs hvs
      have hleave : Frame.leaving P { mf (fr.f, todo) ts with mode := .returning } x.w (.returned v) := ⟨rfl, rfl, rfl, fn, (hC.code _ _ hfn).1, hv1⟩
      split at h
      · -- the last frame
        split at h
        · rename_i hraw
          cases h
          obtain ⟨rfl, rfl⟩ := FrsR.nil_inv S.frs.2.2
          refine ⟨x.w, _, v, .refl _ _, rfl, hleave, S.below, ?_⟩
          unfold FinR
          rw [if_pos hraw]
          exact ⟨x, [β], rfl, S.base, S.elq, S.sane, hv2 []⟩
        · rename_i hraw
          split at h
          · rename_i hg
            cases h
            obtain ⟨rfl, rfl⟩ := FrsR.nil_inv S.frs.2.2
            have hI : ∀ b o, x.I b o → I0 b o ∨ (w0.heap.size ≤ b ∧ b < x.w.heap.size) := fun b o hI => (S.new b o hI).imp id fun hb => ⟨hb, S.sane.lt b o hI⟩
            have h1 := melt_ok (J := fun b o => I0 b o ∨ (w0.heap.size ≤ b ∧ b < x.w.heap.size)) hI (fun b o h1 h2 => .inr ⟨by rw [← S.base]; exact h1, h2⟩) D _ _ hg (hv2 C.res)
            refine ⟨x.w, _, v, .refl _ _, rfl, hleave, S.below, ?_⟩
            unfold FinR
            rw [if_neg hraw]
            rw [S.elq] at h1
            exact h1
          · cases h
      · rename_i c cs'
        split at h
        · rename_i v' ops i todo' k hun hitems
          obtain ⟨β', B', ts', tss', rfl, rfl⟩ := FrsR.cons_inv S.frs.2.2
          have hR : R x (β' :: B') v' v := R.unshift [β] (β' :: B') D _ _ _ hun (hv2 [])
          have S1 : Sim w0 I0 el x (β' :: B') (c :: cs') (ts' :: tss') := ⟨S.sane, S.base, S.elq, S.below, S.keep, S.new, S.inj.tail, S.frs.2.2⟩
          have S2 := S1.put hR ((ops[i]?).bind (·.dst))
          have hstep := step_leave_returned (P := P) (c := mf (key c) ts') (cs := mfs (cs'.map key) tss' ++ rest) hleave
          have hfin : (mf (key c) ts').finish v = mf (c.f, .inRegion ops todo' :: k) (putL ((ops[i]?).bind (·.dst)) v ts') := by
            unfold mf key
            dsimp only
            rw [hitems, Frame.finish_at, put_actL]
          rw [hfin] at hstep
          have S3 : Sim w0 I0 el x (β' :: B') ({ (c.put ((ops[i]?).bind (·.dst)) v') with items := .inRegion ops todo' :: k } :: cs') (putL ((ops[i]?).bind (·.dst)) v ts' :: tss') := ⟨S2.sane, S2.base, S2.elq, S2.below, S2.keep, S2.new, S2.inj, S2.frs⟩
          have := ih _ _ _ _ h x β' B' _ tss' rest S3
          have hf : (c.put ((ops[i]?).bind (·.dst)) v').f = c.f := congrArg Prod.fst (key_put c _ v')
          simp only [key, hf] at this
          exact .steps (.one hstep) this
        · cases h

theorem Sim.items {x : X} {β : BM} {B : List BM} {fr : Fr} {cs : List Fr} {tss : List (List Value)} (S : Sim w0 I0 el x (β :: B) (fr :: cs) tss) (k : List Item) : Sim w0 I0 el x (β :: B) ({ fr with items := k } :: cs) tss := by
  refine ⟨S.sane, S.base, S.elq, S.below, S.keep, S.new, S.inj, ?_⟩
  cases tss with
  | nil => exact S.frs
  | cons ts tss => exact S.frs

theorem Sim.set_bool {x : X} {β : BM} {B : List BM} {fr : Fr} {cs : List Fr} {ts : List Value} {tss : List (List Value)} (S : Sim w0 I0 el x (β :: B) (fr :: cs) (ts :: tss)) {t : Nat} {b : Bool} (hb : ev fr.tmps (.tmp t) = .bool b) (k : List Item) :
    Sim w0 I0 el x (β :: B) ({ fr with tmps := fr.tmps.set t (.bool b), items := k } :: cs) (ts :: tss) := by
  have : fr.tmps.set t (.bool b) = fr.tmps := by
    apply List.ext_getElem?
    intro i
    rw [List.getElem?_set]
    split
    · rename_i e
      subst e
      simp only [ev, List.getD_eq_getElem?_getD] at hb
      cases h : fr.tmps[t]? with
      | none => rw [h] at hb; cases hb
      | some v =>
        rw [h] at hb
        have hb : v = .bool b := hb
        subst hb
        rw [if_pos (List.getElem?_eq_some_iff.1 h).1]
    · rfl
  rw [this]
  exact S.items k

end
end Go.Am
