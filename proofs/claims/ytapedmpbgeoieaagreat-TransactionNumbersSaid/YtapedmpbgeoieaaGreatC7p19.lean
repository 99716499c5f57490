/- Part 19 of the proof: Am19. -/
import Derived.Test.YtapedmpbgeoieaaGreatC7p18
set_option linter.unusedSimpArgs false
set_option linter.unusedVariables false
namespace Go.Am
open Go Go.RowKit
set_option linter.unusedSimpArgs false
set_option linter.unusedVariables false
set_option linter.unusedSectionVars false

section
variable {P : Program} {w0 : World} {I0 : Nat → Nat → Prop} {el : ST → Nat} {C : Cfg} (hC : COk P el C)

theorem inlined_some {o : Oper} {e : Operand → AV} {g : Nat} {fn : Func} {vs : List AV} (h : inlined C o e = some (g, fn, vs)) :
    ∃ c f fs caps, o.op = .call c ∧ c.callee = .value f ∧ e f = .fn g fs caps ∧ look g C.code = some fn ∧ vs = fs ++ (c.args.toList.map e ++ caps) := by
  unfold inlined at h
  split at h
  · rename_i f args at' ho
    split at h
    · rename_i g' fs caps hf
      split at h
      · rename_i h1 h2
        simp only [Option.some.injEq, Prod.mk.injEq] at h
        obtain ⟨rfl, rfl, rfl⟩ := h
        exact ⟨_, f, fs, caps, ho, rfl, hf, h2, rfl⟩
      · cases h
    · cases h
  · cases h

include hC in
theorem enter_sound {x : X} {β : BM} {B : List BM} {fr : Fr} {cs : List Fr} {ts : List Value} {tss : List (List Value)} (S : Sim w0 I0 el x (β :: B) (fr :: cs) (ts :: tss)) {ops : Array Oper} {i : Nat} {o : Oper} (ho : ops[i]? = some o)
    (hw : wantA ops o fr.tmps = some true) {g : Nat} {fn : Func} {vs : List AV} (hin : inlined C o (ev fr.tmps) = some (g, fn, vs)) {c : Code} (hc : fn.body = some c) (todo : List Nat) (k : List Item) (hit : fr.items = .inRegion ops (i :: todo) :: k) (ms : List Frame) :
    ∃ ts', Sim w0 I0 el x ((fun _ => none) :: β :: B) (enter g fn vs c :: fr :: cs) (ts' :: ts :: tss) ∧
      Steps P (lone (mf (key fr) ts) ms x.w) (lone (mf (key (enter g fn vs c)) ts') (mf (key fr) ts :: ms) x.w) := by
  have he : ∀ y, R x (β :: B) (ev fr.tmps y) ((actL ts).eval y) := fun y => ev_ok (a := actL ts) (by simpa [actL] using S.frs.1) y
  obtain ⟨cl, f, fs, caps, h1, h2, h3, h4, rfl⟩ := inlined_some hin
  obtain ⟨hg, hnm⟩ := hC.code g fn h4
  obtain ⟨us, h5, h6⟩ := enter_run (P := P) he h1 h2 h3 hg (by rw [hc]; rfl) hnm
  refine ⟨us ++ List.replicate (fn.ntmps - us.length) undef, ?_, ?_⟩
  · refine ⟨S.sane, S.base, S.elq, S.below, S.keep, S.new, ?_, ?_, ?_, S.frs⟩
    · intro j j' d d' b γ γ' g1 g2 g3 g4
      cases j with
      | zero =>
        have g1 : (fun _ => none) = γ := by simpa using g1
        subst g1; cases g3
      | succ j => cases j' with
        | zero =>
          have g2 : (fun _ => none) = γ' := by simpa using g2
          subst g2; cases g4
        | succ j' =>
          have := S.inj j j' d d' b γ γ' (by simpa using g1) (by simpa using g2) g3 g4
          exact ⟨by omega, this.2⟩
    · have hl := Rs_len h5
      dsimp only [enter]
      rw [← hl]
      exact Rs_app (Rs_map _ h5 fun c u _ hr => R.shift [fun _ => none] (β :: B) D c u hr) (Rs_replicate (v := .undef) trivial _)
    · intro d
      refine ⟨fun _ => ?_, fun b hb => by cases hb⟩
      simp only [enter, List.getD_eq_getElem?_getD, List.getElem?_replicate]
      split <;> rfl
  · have hg' := stepG_op (P := P) (b := fb fr.f) (a := actL ts) (k := k) (cs := ms) (w := x.w) (rest := todo) ho (by simpa [actL] using want_ok S.frs.1 hw)
    have hen : Frame.enter P g us.toArray .normal = mf (key (enter g fn (fs ++ (cl.args.toList.map (ev fr.tmps) ++ caps)) c)) (us ++ List.replicate (fn.ntmps - us.length) undef) := by
      have e1 : us.toArray ++ Array.replicate (fn.ntmps - us.toArray.size) undef = (us ++ List.replicate (fn.ntmps - us.length) undef).toArray := by
        apply Array.ext'; simp
      simp only [Frame.enter, hg, Option.map_some, Option.getD_some, Option.bind_some, hc, e1, mf, key, enter, fb, Frame.at, actL]
    have hmf : mf (key fr) ts = (fb fr.f).at (actL ts) (.inRegion ops (i :: todo) :: k) := by unfold mf key; rw [hit]
    rw [hmf, ← hen]
    exact .one (step_lone_go (by rw [hg']; simp [stepG.apply, h6, Frame.at]))

include hC in
theorem run_sound : ∀ n, RunOk P w0 I0 el C n
  | 0 => fun mk fr cs r h => by simp [run] at h
  | n + 1 => by
    intro mk fr cs r h x β B ts tss rest S
    have ih := run_sound n
    have mfk : ∀ (k : List Item), fr.items = k → mf (key fr) ts = mf (fr.f, k) ts := fun k hk => by unfold key; rw [hk]
    have next : ∀ (k k' : List Item) (fr' : Fr), fr.items = k → (∀ ms w, step P (lone ((fb fr.f).at (actL ts) k) ms w) = .next (lone ((fb fr.f).at (actL ts) k') ms w)) → run C n 0 fr' cs = some r →
        (∃ β', Sim w0 I0 el x (β' :: B) (fr' :: cs) (ts :: tss)) → fr'.f = fr.f → fr'.items = k' → Ends P w0 I0 el C.raw r (lone (mf (key fr) ts) (mfs (cs.map key) tss ++ rest) x.w) (botF fr.f cs) rest := by
      intro k k' fr' hk hst hr ⟨β', S'⟩ hf hk'
      have := ih 0 fr' cs r hr x β' B ts tss rest S'
      rw [hf] at this
      rw [mfk k hk]
      refine .steps (.one (hst _ _)) ?_
      unfold key at this
      rw [hf, hk'] at this
      exact this
    have hret : ∀ k, fr.items = k → (∀ ms w, step P (lone ((fb fr.f).at (actL ts) k) ms w) = .next (lone { (fb fr.f).at (actL ts) k with mode := .returning } ms w)) → retA C n fr cs = some r →
        Ends P w0 I0 el C.raw r (lone (mf (key fr) ts) (mfs (cs.map key) tss ++ rest) x.w) (botF fr.f cs) rest := by
      intro k hk hst hr
      rw [mfk k hk]
      exact .steps (.one (hst _ _)) (ret_sound hC ih hr rest S k)
    rw [run] at h
    dsimp only at h
    split at h
    · rename_i hit
      exact hret [] hit (fun _ _ => step_end) h
    · rename_i c k hit
      split at h
      · exact next _ _ _ hit (fun _ _ => step_skip) h ⟨β, S.items k⟩ rfl rfl
      · rename_i a b
        exact next _ _ _ hit (fun _ _ => step_seq) h ⟨β, S.items _⟩ rfl rfl
      · rename_i c x' y'
        split at h
        · rename_i t b hb
          have he : (actL ts).eval (.tmp t) = .bool b := by
            have := ev_ok (a := actL ts) (tmps := fr.tmps) (by simpa [actL] using S.frs.1) (.tmp t)
            rw [hb] at this
            exact this
          rcases cond_some h with ⟨rfl, h⟩ | ⟨rfl, h⟩
          · exact next _ _ _ hit (fun _ _ => step_cond he) h ⟨β, S.set_bool hb _⟩ rfl rfl
          · exact next _ _ _ hit (fun _ _ => step_cond he) h ⟨β, S.set_bool hb _⟩ rfl rfl
        · rename_i v b hb
          have he : (actL ts).eval (.const v) = .bool b := by
            have := ev_ok (a := actL ts) (tmps := fr.tmps) (by simpa [actL] using S.frs.1) (.const v)
            rw [hb] at this
            exact this
          rcases cond_some h with ⟨rfl, h⟩ | ⟨rfl, h⟩
          · exact next _ _ _ hit (fun _ _ => step_cond he) h ⟨β, S.items _⟩ rfl rfl
          · exact next _ _ _ hit (fun _ _ => step_cond he) h ⟨β, S.items _⟩ rfl rfl
        · cases h
      · rename_i id b
        exact next _ _ _ hit (fun _ _ => step_block) h ⟨β, S.items _⟩ rfl rfl
      · rename_i b
        exact next _ _ _ hit (fun _ _ => step_loop) h ⟨β, S.items _⟩ rfl rfl
      · rename_i id
        split at h
        · rename_i k' hk'
          exact next _ _ _ hit (fun _ _ => step_exit hk') h ⟨β, S.items _⟩ rfl rfl
        · cases h
      · exact hret _ hit (fun _ _ => step_ret) h
      · rename_i id ops dr
        split at h
        · rename_i fx hfx
          have := ih _ _ _ r h x _ B ts tss rest (S.reset fx)
          exact this
        · split at h
          · rename_i hdr
            subst hdr
            split at h
            · rename_i hA
              obtain ⟨s, accs, h1, h2, _, h4⟩ := draw_some _ _ _ _ h
              obtain ⟨accs', h5⟩ := draw_order hA h1 h4 (x.w.tape x.w.drawn (.order fr.f id))
              obtain ⟨x', β', ts', S', hk1, hk2, hst⟩ := runA_sound hC (k := k) (ms := mfs (cs.map key) tss ++ rest) _ _ _ _ _ _ _ _ (S.drawn (x.w.drawn + 1)) h5
              have hf : s.1.f = fr.f := congrArg Prod.fst hk1
              have := ih _ _ _ r h2 x' β' B ts' tss rest (S'.items k)
              unfold key at this
              dsimp only at this
              change Ends P w0 I0 el C.raw r (lone (mf (s.1.f, k) ts') (mfs (s.2.map key) tss ++ rest) x'.w) (botF s.1.f s.2) rest at this
              rw [hk2, hf, botF_key _ hk2] at this
              rw [mfk _ hit]
              refine .steps ?_ this
              have hdraw := step_region_draw (P := P) (b := fb fr.f) (a := actL ts) (k := k) (cs := mfs (cs.map key) tss ++ rest) (w := x.w) (ops := ops) (id := id)
              have hsch : Region.schedule (P.follows .mixedOrders) ops (x.w.tape x.w.drawn (.order (fb fr.f).fn id)) = Region.linearise .any ops (x.w.tape x.w.drawn (.order fr.f id)) := by
                simp only [Region.schedule, hC.mixed, Bool.true_or, if_true]
                rfl
              rw [hsch] at hdraw
              exact .head hdraw (hst.trans (.one step_region_end))
            · cases h
          · rename_i hdr
            have hdr : dr = false := by simpa using hdr
            subst hdr
            exact next _ _ _ hit (fun _ _ => step_region) h ⟨β, S.items _⟩ rfl rfl
      · cases h
    · rename_i b k hit
      exact next _ _ _ hit (fun _ _ => step_inLoop) h ⟨β, S.items _⟩ rfl rfl
    · rename_i id k hit
      exact next _ _ _ hit (fun _ _ => step_inBlock) h ⟨β, S.items _⟩ rfl rfl
    · rename_i ops k hit
      exact next _ _ _ hit (fun _ _ => step_region_end) h ⟨β, S.items _⟩ rfl rfl
    · rename_i ops i todo k hit
      split at h
      · cases h
      · rename_i o ho
        rcases guardA_some h with ⟨hw, h⟩ | ⟨hw, h⟩
        · split at h
          · rename_i g fn vs hin
            split at h
            · rename_i c hc
              obtain ⟨ts', S', hst⟩ := enter_sound hC S ho hw hin hc todo k hit (mfs (cs.map key) tss ++ rest)
              exact .steps hst (ih _ _ _ r h x _ _ ts' (ts :: tss) rest S')
            · cases h
          · obtain ⟨a, ha, h⟩ := act_bind h
            split at h
            · rename_i fr' cs' hp
              obtain ⟨x', β', ts', S', hst⟩ := op_sound hC S ho hw ha hp todo k (mfs (cs.map key) tss ++ rest)
              obtain ⟨hk1, hk2⟩ := perform_key hp
              have hf : fr'.f = fr.f := congrArg Prod.fst hk1
              have := ih _ _ _ r h x' β' B ts' tss rest (S'.items _)
              change Ends P w0 I0 el C.raw r (lone (mf (fr'.f, .inRegion ops todo :: k) ts') (mfs (cs'.map key) tss ++ rest) x'.w) (botF fr'.f cs') rest at this
              rw [hk2, hf, botF_key _ hk2] at this
              rw [mfk _ hit]
              exact .steps hst this
            · cases h
        · obtain ⟨ts', S', hst⟩ := skip_sound (P := P) S ho hw todo k (mfs (cs.map key) tss ++ rest)
          have hf : (fr.put o.dst (.tup [])).f = fr.f := congrArg Prod.fst (key_put fr o.dst _)
          have := ih _ _ _ r h x β B ts' tss rest (S'.items _)
          change Ends P w0 I0 el C.raw r (lone (mf ((fr.put o.dst (.tup [])).f, .inRegion ops todo :: k) ts') (mfs (cs.map key) tss ++ rest) x.w) (botF (fr.put o.dst (.tup [])).f cs) rest at this
          rw [hf] at this
          rw [mfk _ hit]
          exact .steps hst this
    · cases h

include hC in
theorem am_core {f : Nat} {fn : Func} (hf : P.funcs[f]? = some fn) {I : Nat → Nat → Prop} {w : World} {args : List AV} {vs : List Value} {r : AV} {n : Nat} (hn : start C n f fn args = some r) (hI : ∀ b o, I b o → b < w.heap.size) (hargs : Rs (xAt w I el 0) [] args vs) :
    Calls P f vs.toArray w fun e w' => ∃ v, e = .returned v ∧ Below w.heap.size w w' ∧ FinR C.raw w I el r w' v := by
  intro cs
  unfold start at hn
  split at hn
  · cases hn
  · rename_i c hc
    have hl := Rs_len hargs
    have hI0 : ∀ b o, I b o → (xAt w I el w.heap.size).I b o ∧ (xAt w I el w.heap.size).w.cell? ⟨b, o, none⟩ = (xAt w I el 0).w.cell? ⟨b, o, none⟩ := fun b o h => ⟨h, rfl⟩
    have hx : Rs (xAt w I el w.heap.size) [fun _ => none] args vs := Rs.lift (x := xAt w I el 0) hI0 (fun _ => rfl) (fun _ => rfl) [fun _ => none] _ _ hargs
    have S : Sim w I el (xAt w I el w.heap.size) [fun _ => none] [{ f := f, tmps := args ++ List.replicate (fn.ntmps - args.length) .undef, bx := List.replicate fn.ntmps [], items := [.code c] }] [vs ++ List.replicate (fn.ntmps - vs.length) undef] := by
      refine ⟨⟨hI, (fun b a h => by cases h), Nat.le_refl _⟩, rfl, rfl, Below.refl _ _, fun _ _ h => h, fun _ _ h => .inl h, ?_, ?_, ?_, trivial⟩
      · intro j j' d d' b γ γ' g1 g2 g3 g4
        cases j with
        | zero =>
          have g1 : (fun _ => none) = γ := by simpa using g1
          subst g1; cases g3
        | succ j => simp at g1
      · dsimp only
        rw [hl]
        exact Rs_app hx (Rs_replicate (v := .undef) trivial _)
      · intro d
        refine ⟨fun _ => ?_, fun b hb => by cases hb⟩
        simp only [List.getD_eq_getElem?_getD, List.getElem?_replicate]
        split <;> rfl
    obtain ⟨w', frm, v, h1, h2, h3, h4, h5⟩ := run_sound hC n _ _ _ _ hn _ _ _ _ _ cs S
    have hen : Frame.enter P f vs.toArray .normal = mf (key { f := f, tmps := args ++ List.replicate (fn.ntmps - args.length) .undef, bx := List.replicate fn.ntmps [], items := [.code c] }) (vs ++ List.replicate (fn.ntmps - vs.length) undef) := by
      have e1 : vs.toArray ++ Array.replicate (fn.ntmps - vs.toArray.size) undef = (vs ++ List.replicate (fn.ntmps - vs.length) undef).toArray := by
        apply Array.ext'; simp
      simp only [Frame.enter, hf, Option.map_some, Option.getD_some, Option.bind_some, hc, e1, mf, key, fb, Frame.at, actL]
    refine ⟨.returned v, w', frm, ⟨v, rfl, h4, h5⟩, ?_, h2, h3⟩
    rw [hen]
    exact h1

include hC in
/-- THE LAW: a function whose abstract run answers as 'F' has the contract 'F'. -/
theorem am_spec {f : Nat} {fn : Func} (hraw : C.raw = false) (hf : P.funcs[f]? = some fn) {F : List AV → Option AV}
    (h : ∀ args r, args.all (ground D) = true → F args = some r → ∃ n, start C n f fn args = some r) : Spec P el f F := by
  intro I w args vs r hgr hF hI hargs
  obtain ⟨n, hn⟩ := h args r hgr hF
  refine (am_core hC hf hn hI hargs).mono ?_
  rintro e w' ⟨v, rfl, h1, h2⟩
  refine ⟨v, rfl, h1, ?_⟩
  unfold FinR at h2
  rw [if_neg (by simp [hraw])] at h2
  exact h2
end
end Go.Am
