/- Part 20 of the proof: Am20. -/
import Derived.Test.YtapedmpbgeoieaaGreatC7p19
set_option linter.unusedSimpArgs false
set_option linter.unusedVariables false
namespace Go.Am
open Go Go.RowKit
set_option linter.unusedSimpArgs false
set_option linter.unusedVariables false
set_option linter.unusedSectionVars false

section
variable {ρ : Type}

theorem putK_eq (dst : Option Nat) (v : AV) (fr : Fr) (k : List AV → Option ρ) : putK dst v fr.tmps k = k (fr.put dst v).tmps := by
  cases dst <;> simp [putK, Fr.put, forceK_eq, setK_eq]

theorem performK_eq (dst : Option Nat) (f : Nat) (tmps : List AV) (bx : List (List AV)) (items : List Item) (cs : List Fr) (a : Action) (k : KK ρ) :
    performK dst f tmps bx items cs a k = (match perform dst ⟨f, tmps, bx, items⟩ cs a with | some (fr, cs) => k fr.tmps fr.bx cs | none => none) := by
  cases a with
  | val v => simp only [performK, perform, putK_eq dst v ⟨f, tmps, bx, items⟩, put_bx]
  | load p sz ag =>
    simp only [performK, perform]
    cases readP ⟨f, tmps, bx, items⟩ cs p sz with
    | none => rfl
    | some l => simp only [putK_eq dst _ ⟨f, tmps, bx, items⟩, put_bx]
  | store p vs sz =>
    simp only [performK, perform]
    split
    · have gen : ∀ q, (match writeP ⟨f, tmps, bx, items⟩ cs q vs with
        | some (fr, cs) => putK dst (.tup []) fr.tmps fun tmps => k tmps fr.bx cs
        | none => none) = (match (match writeP ⟨f, tmps, bx, items⟩ cs q vs with
        | some (fr, cs) => some (fr.put dst (.tup []), cs)
        | none => none) with | some (fr, cs) => k fr.tmps fr.bx cs | none => none) := by
        intro q
        cases writeP ⟨f, tmps, bx, items⟩ cs q vs with
        | none => rfl
        | some x => simp only [putK_eq, put_bx]
      split
      · rename_i d off
        simp only [writeP]
        by_cases h : off + vs.length ≤ (bx.getD d []).length
        · simp only [if_pos h, forceLK_eq, setK_eq, put_bx]
          exact putK_eq dst (.tup []) ⟨f, tmps, bx.set d (putN off vs (bx.getD d [])), items⟩ _
        · simp only [if_neg h]
      · exact gen _
    · rfl
  | new l =>
    simp only [performK, perform]
    cases dst with
    | none => rfl
    | some d =>
      dsimp only
      split
      · rename_i h1
        simp only [h1, forceLK_eq, setK_eq]
      · rename_i h1
        split
        · rename_i fr cs' h2
          split at h2
          · rename_i h3
            exact absurd rfl (h1 _ _ h3)
          · cases h2
        · rfl
  | app v tok w =>
    cases tok with
    | lab a =>
      simp only [performK, perform, forceLK_eq, forceLLK_eq]
      rw [show (tmps.map (Am.strip a w D)) = (Fr.strip a w ⟨f, tmps, bx, items⟩).tmps from rfl, putK_eq, put_bx]
      rfl
    | none => simp only [performK, perform, putK_eq dst v ⟨f, tmps, bx, items⟩, put_bx]
    | cap0 => simp only [performK, perform, putK_eq dst v ⟨f, tmps, bx, items⟩, put_bx]
    | nn => simp only [performK, perform, putK_eq dst v ⟨f, tmps, bx, items⟩, put_bx]

theorem guardK_eq (ops : Array Oper) (o : Oper) (f : Nat) (tmps : List AV) (bx : List (List AV)) (items : List Item) (yes no : Fr → Option ρ) :
    guardK ops o tmps (fun tmps => yes ⟨f, tmps, bx, items⟩) (fun tmps => no ⟨f, tmps, bx, items⟩) = guardA ops o ⟨f, tmps, bx, items⟩ yes no := by
  unfold guardK guardA
  cases o.guard with
  | none => rfl
  | some gw =>
    obtain ⟨g, want⟩ := gw
    dsimp only
    cases (ops[g]?).bind (·.dst) with
    | none => rfl
    | some t =>
      simp only [setK_eq]
      rfl

theorem perform_shape {dst : Option Nat} {f : Nat} {tmps : List AV} {bx : List (List AV)} {items : List Item} {cs : List Fr} {a : Action} {fr' : Fr} {cs' : List Fr} (h : perform dst ⟨f, tmps, bx, items⟩ cs a = some (fr', cs')) : fr' = ⟨f, fr'.tmps, fr'.bx, items⟩ := by
  have := (perform_key h).1
  cases fr'
  simp only [key, Prod.mk.injEq] at this
  simp [this.1, this.2]

theorem drawK_eq (C : Cfg) (ops : Array Oper) (bf : List Nat) (f : Nat) (items : List Item) (k : Fr → List Fr → Option ρ) : ∀ (l : List Nat) (log : List (Nat × Log)) (tmps : List AV) (bx : List (List AV)) (cs : List Fr),
    drawK C ops bf f items (fun tmps bx cs => k ⟨f, tmps, bx, items⟩ cs) l log tmps bx cs = draw C ops bf k l log ⟨f, tmps, bx, items⟩ cs
  | [], log, tmps, bx, cs => rfl
  | i :: l, log, tmps, bx, cs => by
    simp only [drawK, draw]
    cases ops[i]? with
    | none => rfl
    | some o =>
      dsimp only
      rw [← guardK_eq]
      congr 1
      · funext tmps
        congr 1
        funext a
        split
        · rw [performK_eq]
          cases hp : perform o.dst ⟨f, tmps, bx, items⟩ cs a with
          | none => rfl
          | some x =>
            obtain ⟨fr', cs'⟩ := x
            dsimp only
            rw [drawK_eq C ops bf f items k l, ← perform_shape hp]
        · rfl
      · funext tmps
        rw [show tmps = (Fr.mk f tmps bx items).tmps from rfl, putK_eq, drawK_eq C ops bf f items k l]
        have hb := put_bx ⟨f, tmps, bx, items⟩ o.dst (.tup [])
        have hk := key_put ⟨f, tmps, bx, items⟩ o.dst (.tup [])
        congr 1
        generalize (Fr.put ⟨f, tmps, bx, items⟩ o.dst (.tup [])) = q at *
        cases q
        simp only [key, Prod.mk.injEq] at hk hb
        simp [hb, hk.1, hk.2]

end

theorem runK_eq (C : Cfg) : ∀ (n mk f : Nat) (tmps : List AV) (bx : List (List AV)) (items : List Item) (cs : List Fr), runK C n mk f tmps bx items cs = run C n mk ⟨f, tmps, bx, items⟩ cs
  | 0, _, _, _, _, _, _ => rfl
  | n + 1, mk, f, tmps, bx, items, cs => by
    have ih := runK_eq C n
    have hput : ∀ (dst : Option Nat) (v : AV) (f : Nat) (tmps : List AV) (bx : List (List AV)) (items items' : List Item) (cs : List Fr), (putK dst v tmps fun tmps => run C n 0 ⟨f, tmps, bx, items'⟩ cs) = run C n 0 { (Fr.put ⟨f, tmps, bx, items⟩ dst v) with items := items' } cs := by
      intro dst v f tmps bx items items' cs
      rw [show tmps = (Fr.mk f tmps bx items).tmps from rfl, putK_eq]
      congr 1
      cases dst <;> rfl
    have hputc : ∀ (c : Fr) (dst : Option Nat) (v : AV) (items' : List Item) (cs : List Fr), (putK dst v c.tmps fun tmps => run C n 0 ⟨c.f, tmps, c.bx, items'⟩ cs) = run C n 0 { (c.put dst v) with items := items' } cs := fun c dst v items' cs => hput dst v c.f c.tmps c.bx c.items items' cs
    unfold runK run
    simp only [ih, hputc, forceK_eq, setK_eq, forceLK_eq, forceLLK_eq, befLK_eq]
    cases items with
    | nil => rfl
    | cons it k =>
      cases it with
      | code c =>
        cases c with
        | region id ops dr =>
          have hre : ∀ (x : Fix), (⟨f, (Fr.reset x ⟨f, tmps, bx, .code (.region id ops dr) :: k⟩).tmps, (Fr.reset x ⟨f, tmps, bx, .code (.region id ops dr) :: k⟩).bx, .code (.region id ops dr) :: k⟩ : Fr) = Fr.reset x ⟨f, tmps, bx, .code (.region id ops dr) :: k⟩ := fun x => rfl
          cases hx : (if mk == id + 1 then none else C.fix f id) with
          | some x =>
            simp only [hx, hre]
          | none =>
            simp only [hx]
            cases dr with
            | false => rfl
            | true =>
              simp only [if_true]
              split
              · exact drawK_eq C _ _ f _ (fun fr cs => run C n 0 { fr with items := k } cs) _ _ _ _ _
              · rfl
        | _ => rfl
      | inRegion ops todo =>
        cases todo with
        | nil => rfl
        | cons i rest =>
          dsimp only
          cases ops[i]? with
          | none => rfl
          | some o =>
            dsimp only
            rw [← guardK_eq]
            congr 1
            · funext tmps
              dsimp only
              cases inlined C o (ev tmps) with
              | some x =>
                obtain ⟨g, fn, vs⟩ := x
                dsimp only
                cases fn.body <;> rfl
              | none =>
                dsimp only
                congr 1
                funext a
                rw [performK_eq]
                cases hp : perform o.dst ⟨f, tmps, bx, .inRegion ops (i :: rest) :: k⟩ cs a with
                | none => rfl
                | some x =>
                  obtain ⟨fr', cs'⟩ := x
                  have := perform_shape hp
                  rw [this]
            · funext tmps
              exact hput _ _ _ _ _ _ _ _
      | _ => rfl

theorem startK_eq (C : Cfg) (n f : Nat) (fn : Func) (vs : List AV) : startK C n f fn vs = start C n f fn vs := by
  unfold startK start
  cases fn.body with
  | none => rfl
  | some c => simp only [forceLK_eq, runK_eq]

/-- With as much fuel as one likes. -/
theorem am_specK {P : Program} {el : ST → Nat} {C : Cfg} (hC : COk P el C) (hraw : C.raw = false) {f : Nat} {fn : Func} (hf : P.funcs[f]? = some fn) {F : List AV → Option AV}
    (h : ∀ args r, args.all (ground D) = true → F args = some r → ∃ n, startK C n f fn args = some r) : Spec P el f F :=
  am_spec hC hraw hf fun args r h1 h2 => by
    obtain ⟨n, hn⟩ := h args r h1 h2
    exact ⟨n, by rw [← startK_eq]; exact hn⟩
theorem am_coreK {P : Program} {el : ST → Nat} {C : Cfg} (hC : COk P el C) {f : Nat} {fn : Func} (hf : P.funcs[f]? = some fn) {I : Nat → Nat → Prop} {w : World} {args : List AV} {vs : List Value} {r : AV} {n : Nat} (hn : startK C n f fn args = some r) (hI : ∀ b o, I b o → b < w.heap.size) (hargs : Rs (xAt w I el 0) [] args vs) :
    Calls P f vs.toArray w fun e w' => ∃ v, e = .returned v ∧ Below w.heap.size w w' ∧ FinR C.raw w I el r w' v :=
  am_core hC hf (by rw [← startK_eq]; exact hn) hI hargs
#print axioms am_specK
end Go.Am
