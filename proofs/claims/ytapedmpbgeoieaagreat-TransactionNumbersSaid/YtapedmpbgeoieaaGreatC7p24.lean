/- Part 24 of the proof: AmH. -/
import Derived.Test.YtapedmpbgeoieaaGreatC7p23
set_option linter.unusedSimpArgs false
set_option linter.unusedVariables false
namespace Go.Am
open Go Go.RowKit
set_option linter.unusedSimpArgs false
set_option linter.unusedVariables false
set_option maxRecDepth 100000

def runHp (C : Cfg) (H : Nat → Fr → List Fr → Option AV) (z : Option AV) : Nat → Nat → Fr → List Fr → Option AV
  | 0, _, _, _ => z
  | n + 1, mk, fr, cs =>
    let ret : Option AV := match look fr.f C.code with
      | none => none
      | some fn => match resultsA C fn fr cs with
        | none => none
        | some vs => match cs with
          | [] => if C.raw then some (packA vs) else if ground D (melt D (packA (canon C.res vs))) then some (melt D (packA (canon C.res vs))) else none
          | c :: cs => match unshift 1 D (packA vs), c.items with
            | some v, .inRegion ops (i :: rest) :: k => runHp C H z n 0 { (c.put ((ops[i]?).bind (·.dst)) v) with items := .inRegion ops rest :: k } cs
            | _, _ => none
    match fr.items with
    | [] => ret
    | .code c :: k => match c with
      | .skip => runHp C H z n 0 { fr with items := k } cs
      | .seq a b => runHp C H z n 0 { fr with items := .code a :: .code b :: k } cs
      | .cond c x y => match c, ev fr.tmps c with
        | .tmp t, .bool b => cond b (runHp C H z n 0 { fr with tmps := fr.tmps.set t (.bool true), items := .code x :: k } cs) (runHp C H z n 0 { fr with tmps := fr.tmps.set t (.bool false), items := .code y :: k } cs)
        | .const _, .bool b => cond b (runHp C H z n 0 { fr with items := .code x :: k } cs) (runHp C H z n 0 { fr with items := .code y :: k } cs)
        | _, _ => none
      | .block id b => runHp C H z n 0 { fr with items := .code b :: .inBlock id :: k } cs
      | .loop b => runHp C H z n 0 { fr with items := .code b :: .inLoop b :: k } cs
      | .exit id => match exitTo id k with
        | some k => runHp C H z n 0 { fr with items := k } cs
        | none => none
      | .ret => ret
      | .region id ops dr => match (if mk == id + 1 then none else C.fix fr.f id) with
        | some x => H (id + 1) (fr.reset x) cs
        | none => if dr then
            (let bf := befL ops.toList []
            if apartAll ops bf then draw C ops bf (fun fr cs => runHp C H z n 0 { fr with items := k } cs) (List.range ops.size) [] fr cs else none)
          else runHp C H z n 0 { fr with items := .inRegion ops (List.range ops.size) :: k } cs
      | _ => none
    | .inLoop b :: k => runHp C H z n 0 { fr with items := .code b :: .inLoop b :: k } cs
    | .inBlock _ :: k => runHp C H z n 0 { fr with items := k } cs
    | .inRegion _ [] :: k => runHp C H z n 0 { fr with items := k } cs
    | .inRegion ops (i :: rest) :: k => match ops[i]? with
      | none => none
      | some o => guardA ops o fr
        (fun fr => match inlined C o (ev fr.tmps) with
          | some (g, fn, vs) => match fn.body with
            | some c => runHp C H z n 0 (enter g fn vs c) (fr :: cs)
            | none => none
          | none => act C o (ev fr.tmps) fun a => match perform o.dst fr cs a with
            | some (fr, cs) => runHp C H z n 0 { fr with items := .inRegion ops rest :: k } cs
            | none => none)
        (fun fr => runHp C H z n 0 { (fr.put o.dst (.tup [])) with items := .inRegion ops rest :: k } cs)
    | _ => none


section
variable {ρ : Type}
def runH (C : Cfg) (H : Nat → Fr → List Fr → Option AV) (z : Option AV) : Nat → Nat → Nat → List AV → List (List AV) → List Item → List Fr → Option AV
  | 0, _, _, _, _, _, _ => z
  | n + 1, mk, f, tmps, bx, items, cs =>
    let ret : Option AV := match look f C.code with
      | none => none
      | some fn => match resultsA C fn ⟨f, tmps, bx, items⟩ cs with
        | none => none
        | some vs => match cs with
          | [] => if C.raw then some (packA vs) else if ground D (melt D (packA (canon C.res vs))) then forceK DF (melt D (packA (canon C.res vs))) some else none
          | c :: cs => match unshift 1 D (packA vs), c.items with
            | some v, .inRegion ops (i :: rest) :: k => putK ((ops[i]?).bind (·.dst)) v c.tmps fun tmps => runH C H z n 0 c.f tmps c.bx (.inRegion ops rest :: k) cs
            | _, _ => none
    match items with
    | [] => ret
    | .code c :: k => match c with
      | .skip => runH C H z n 0 f tmps bx k cs
      | .seq a b => runH C H z n 0 f tmps bx (.code a :: .code b :: k) cs
      | .cond c x y => match c, ev tmps c with
        | .tmp t, .bool b => cond b (setK tmps t (.bool true) fun tmps => runH C H z n 0 f tmps bx (.code x :: k) cs) (setK tmps t (.bool false) fun tmps => runH C H z n 0 f tmps bx (.code y :: k) cs)
        | .const _, .bool b => cond b (runH C H z n 0 f tmps bx (.code x :: k) cs) (runH C H z n 0 f tmps bx (.code y :: k) cs)
        | _, _ => none
      | .block id b => runH C H z n 0 f tmps bx (.code b :: .inBlock id :: k) cs
      | .loop b => runH C H z n 0 f tmps bx (.code b :: .inLoop b :: k) cs
      | .exit id => match exitTo id k with
        | some k => runH C H z n 0 f tmps bx k cs
        | none => none
      | .ret => ret
      | .region id ops dr => match (if mk == id + 1 then none else C.fix f id) with
        | some x => forceLK DF (Fr.reset x ⟨f, tmps, bx, items⟩).tmps fun tmps' => forceLLK DF (Fr.reset x ⟨f, tmps, bx, items⟩).bx fun bx' => H (id + 1) ⟨f, tmps', bx', items⟩ cs
        | none => if dr then
            befLK ops.toList [] fun bf =>
            if apartAll ops bf then drawK C ops bf f items (fun tmps bx cs => runH C H z n 0 f tmps bx k cs) (List.range ops.size) [] tmps bx cs else none
          else runH C H z n 0 f tmps bx (.inRegion ops (List.range ops.size) :: k) cs
      | _ => none
    | .inLoop b :: k => runH C H z n 0 f tmps bx (.code b :: .inLoop b :: k) cs
    | .inBlock _ :: k => runH C H z n 0 f tmps bx k cs
    | .inRegion _ [] :: k => runH C H z n 0 f tmps bx k cs
    | .inRegion ops (i :: rest) :: k => match ops[i]? with
      | none => none
      | some o => guardK ops o tmps
        (fun tmps => match inlined C o (ev tmps) with
          | some (g, fn, vs) => match fn.body with
            | some c => forceLK DF (enter g fn vs c).tmps fun tmps' => runH C H z n 0 g tmps' (List.replicate fn.ntmps []) [.code c] (⟨f, tmps, bx, items⟩ :: cs)
            | none => none
          | none => act C o (ev tmps) fun a => performK o.dst f tmps bx items cs a fun tmps bx cs => runH C H z n 0 f tmps bx (.inRegion ops rest :: k) cs)
        (fun tmps => putK o.dst (.tup []) tmps fun tmps => runH C H z n 0 f tmps bx (.inRegion ops rest :: k) cs)
    | _ => none
def startH (C : Cfg) (H : Nat → Fr → List Fr → Option AV) (z : Option AV) (n f : Nat) (fn : Func) (vs : List AV) : Option AV :=
  match fn.body with
  | none => none
  | some c => forceLK DF (vs ++ List.replicate (fn.ntmps - vs.length) .undef) fun tmps => runH C H z n 0 f tmps (List.replicate fn.ntmps []) [.code c] []
end

theorem runH_eq (C : Cfg) (H : Nat → Fr → List Fr → Option AV) (z : Option AV) : ∀ (n mk f : Nat) (tmps : List AV) (bx : List (List AV)) (items : List Item) (cs : List Fr), runH C H z n mk f tmps bx items cs = runHp C H z n mk ⟨f, tmps, bx, items⟩ cs
  | 0, _, _, _, _, _, _ => rfl
  | n + 1, mk, f, tmps, bx, items, cs => by
    have ih := runH_eq C H z n
    have hput : ∀ (dst : Option Nat) (v : AV) (f : Nat) (tmps : List AV) (bx : List (List AV)) (items items' : List Item) (cs : List Fr), (putK dst v tmps fun tmps => runHp C H z n 0 ⟨f, tmps, bx, items'⟩ cs) = runHp C H z n 0 { (Fr.put ⟨f, tmps, bx, items⟩ dst v) with items := items' } cs := by
      intro dst v f tmps bx items items' cs
      rw [show tmps = (Fr.mk f tmps bx items).tmps from rfl, putK_eq]
      congr 1
      cases dst <;> rfl
    have hputc : ∀ (c : Fr) (dst : Option Nat) (v : AV) (items' : List Item) (cs : List Fr), (putK dst v c.tmps fun tmps => runHp C H z n 0 ⟨c.f, tmps, c.bx, items'⟩ cs) = runHp C H z n 0 { (c.put dst v) with items := items' } cs := fun c dst v items' cs => hput dst v c.f c.tmps c.bx c.items items' cs
    unfold runH runHp
    simp only [ih, hputc, forceK_eq, setK_eq, forceLK_eq, forceLLK_eq, befLK_eq]
    cases items with
    | nil => rfl
    | cons it k =>
      cases it with
      | code c =>
        cases c with
        | region id ops dr =>
          have hre : ∀ (x : Fix), (⟨f, (Fr.reset x ⟨f, tmps, bx, .code (.region id ops dr) :: k⟩).tmps, (Fr.reset x ⟨f, tmps, bx, .code (.region id ops dr) :: k⟩).bx, .code (.region id ops dr) :: k⟩ : Fr) = Fr.reset x ⟨f, tmps, bx, .code (.region id ops dr) :: k⟩ := fun x => rfl
          cases hx : (if mk == id + 1 then none else C.fix f id) with
          | some x =>
            simp only [hx, hre]
          | none =>
            simp only [hx]
            cases dr with
            | false => rfl
            | true =>
              simp only [if_true]
              split
              · exact drawK_eq C _ _ f _ (fun fr cs => runHp C H z n 0 { fr with items := k } cs) _ _ _ _ _
              · rfl
        | _ => rfl
      | inRegion ops todo =>
        cases todo with
        | nil => rfl
        | cons i rest =>
          dsimp only
          cases ops[i]? with
          | none => rfl
          | some o =>
            dsimp only
            rw [← guardK_eq]
            congr 1
            · funext tmps
              dsimp only
              cases inlined C o (ev tmps) with
              | some x =>
                obtain ⟨g, fn, vs⟩ := x
                dsimp only
                cases fn.body <;> rfl
              | none =>
                dsimp only
                congr 1
                funext a
                rw [performK_eq]
                cases hp : perform o.dst ⟨f, tmps, bx, .inRegion ops (i :: rest) :: k⟩ cs a with
                | none => rfl
                | some x =>
                  obtain ⟨fr', cs'⟩ := x
                  have := perform_shape hp
                  rw [this]
            · funext tmps
              exact hput _ _ _ _ _ _ _ _
      | _ => rfl

def retHp (C : Cfg) (H : Nat → Fr → List Fr → Option AV) (z : Option AV) (n : Nat) (fr : Fr) (cs : List Fr) : Option AV :=
  match look fr.f C.code with
  | none => none
  | some fn => match resultsA C fn fr cs with
    | none => none
    | some vs => match cs with
      | [] => if C.raw then some (packA vs) else if ground D (melt D (packA (canon C.res vs))) then some (melt D (packA (canon C.res vs))) else none
      | c :: cs => match unshift 1 D (packA vs), c.items with
        | some v, .inRegion ops (i :: rest) :: k => runHp C H z n 0 { (c.put ((ops[i]?).bind (·.dst)) v) with items := .inRegion ops rest :: k } cs
        | _, _ => none
theorem run_monos {C : Cfg} {n mk : Nat} {fr : Fr} {cs : List Fr} {r : AV} (h : run C n mk fr cs = some r) : ∀ k, run C (k + n) mk fr cs = some r
  | 0 => by rw [Nat.zero_add]; exact h
  | k + 1 => by rw [Nat.succ_add]; exact run_mono C _ _ _ _ _ (run_monos h k)
/-- What the stopping machine finds, the machine finds. -/
theorem runHp_run (C : Cfg) (m : Nat) : ∀ (n mk : Nat) (fr : Fr) (cs : List Fr) (r : AV), runHp C (fun mk fr cs => run C m mk fr cs) none n mk fr cs = some r → run C (n + m) mk fr cs = some r
  | 0, mk, fr, cs, r, h => by simp [runHp] at h
  | n + 1, mk, fr, cs, r, h => by
    have ih := runHp_run C m n
    have hret : retHp C (fun mk fr cs => run C m mk fr cs) none n fr cs = some r → retA C (n + m) fr cs = some r := by
      unfold retHp retA
      cases look fr.f C.code with
      | none => exact id
      | some fn =>
        dsimp only
        cases resultsA C fn fr cs with
        | none => exact id
        | some vs =>
          dsimp only
          cases cs with
          | nil => exact id
          | cons c cs =>
            dsimp only
            intro h
            cases hu : unshift 1 D (packA vs) with
            | none => rw [hu] at h; cases h
            | some v =>
              rw [hu] at h
              cases hc : c.items with
              | nil => rw [hc] at h; cases h
              | cons it k =>
                rw [hc] at h
                cases it with
                | inRegion ops todo =>
                  cases todo with
                  | nil => cases h
                  | cons i rest => exact ih _ _ _ _ h
                | _ => cases h
    obtain ⟨f, tmps, bx, items⟩ := fr
    rw [Nat.succ_add]
    unfold runHp at h
    unfold run
    dsimp only at h ⊢
    cases items with
    | nil => exact hret h
    | cons it k =>
      cases it with
      | code c =>
        cases c with
        | skip => exact ih _ _ _ _ h
        | seq a b => exact ih _ _ _ _ h
        | cond c x y =>
          dsimp only at h ⊢
          cases c with
          | tmp t =>
            cases hv : ev tmps (.tmp t) with
            | bool b =>
              rw [hv] at h
              rcases cond_some h with ⟨rfl, h⟩ | ⟨rfl, h⟩ <;> exact ih _ _ _ _ h
            | _ => rw [hv] at h; cases h
          | const t =>
            cases hv : ev tmps (.const t) with
            | bool b =>
              rw [hv] at h
              rcases cond_some h with ⟨rfl, h⟩ | ⟨rfl, h⟩ <;> exact ih _ _ _ _ h
            | _ => rw [hv] at h; cases h
          | _ => cases h
        | block id b => exact ih _ _ _ _ h
        | loop b => exact ih _ _ _ _ h
        | exit id =>
          dsimp only at h ⊢
          cases hx : exitTo id k with
          | some k' => rw [hx] at h; exact ih _ _ _ _ h
          | none => rw [hx] at h; cases h
        | ret => exact hret h
        | region id ops dr =>
          dsimp only at h ⊢
          cases hx : (if mk == id + 1 then none else C.fix f id) with
          | some x => rw [hx] at h; exact run_monos h n
          | none =>
            rw [hx] at h
            dsimp only at h ⊢
            split at h
            · rename_i hdr
              rw [if_pos hdr]
              split at h
              · rename_i hA
                rw [if_pos hA]
                exact draw_mono (fun fr cs h => ih _ _ _ _ h) _ _ _ _ h
              · cases h
            · rename_i hdr
              rw [if_neg hdr]
              exact ih _ _ _ _ h
        | _ => cases h
      | inLoop b => exact ih _ _ _ _ h
      | inBlock id => exact ih _ _ _ _ h
      | inRegion ops todo =>
        cases todo with
        | nil => exact ih _ _ _ _ h
        | cons i rest =>
          dsimp only at h ⊢
          cases ho : ops[i]? with
          | none => rw [ho] at h; cases h
          | some o =>
            rw [ho] at h
            refine guard_mono h (fun fr h => ?_) (fun fr h => ih _ _ _ _ h)
            cases hin : inlined C o (ev fr.tmps) with
            | some x =>
              obtain ⟨g, fn, vs⟩ := x
              rw [hin] at h
              dsimp only at h ⊢
              cases hb : fn.body with
              | some c => rw [hb] at h; exact ih _ _ _ _ h
              | none => rw [hb] at h; cases h
            | none =>
              rw [hin] at h
              dsimp only at h ⊢
              refine act_mono h fun a h => ?_
              cases hp : perform o.dst fr cs a with
              | none => rw [hp] at h; cases h
              | some x =>
                rw [hp] at h
                exact ih _ _ _ _ h
      | _ => cases h

/-- What the machine finds, the stopping machine finds. -/
theorem run_runHp (C : Cfg) (m : Nat) : ∀ (n q : Nat), q ≤ m → ∀ (mk : Nat) (fr : Fr) (cs : List Fr) (r : AV), run C q mk fr cs = some r → runHp C (fun mk fr cs => run C m mk fr cs) (some r) n mk fr cs = some r
  | 0, q, hq, mk, fr, cs, r, h => rfl
  | n + 1, 0, hq, mk, fr, cs, r, h => by simp [run] at h
  | n + 1, q + 1, hq, mk, fr, cs, r, h => by
    have ih := fun mk fr cs h => run_runHp C m n q (by omega) mk fr cs r h
    have hret : retA C q fr cs = some r → retHp C (fun mk fr cs => run C m mk fr cs) (some r) n fr cs = some r := by
      unfold retHp retA
      cases look fr.f C.code with
      | none => exact id
      | some fn =>
        dsimp only
        cases resultsA C fn fr cs with
        | none => exact id
        | some vs =>
          dsimp only
          cases cs with
          | nil => exact id
          | cons c cs =>
            dsimp only
            intro h
            cases hu : unshift 1 D (packA vs) with
            | none => rw [hu] at h; cases h
            | some v =>
              rw [hu] at h
              cases hc : c.items with
              | nil => rw [hc] at h; cases h
              | cons it k =>
                rw [hc] at h
                cases it with
                | inRegion ops todo =>
                  cases todo with
                  | nil => cases h
                  | cons i rest => exact ih _ _ _ h
                | _ => cases h
    obtain ⟨f, tmps, bx, items⟩ := fr
    unfold run at h
    unfold runHp
    dsimp only at h ⊢
    cases items with
    | nil => exact hret h
    | cons it k =>
      cases it with
      | code c =>
        cases c with
        | skip => exact ih _ _ _ h
        | seq a b => exact ih _ _ _ h
        | cond c x y =>
          dsimp only at h ⊢
          cases c with
          | tmp t =>
            cases hv : ev tmps (.tmp t) with
            | bool b =>
              rw [hv] at h
              rcases cond_some h with ⟨rfl, h⟩ | ⟨rfl, h⟩ <;> exact ih _ _ _ h
            | _ => rw [hv] at h; cases h
          | const t =>
            cases hv : ev tmps (.const t) with
            | bool b =>
              rw [hv] at h
              rcases cond_some h with ⟨rfl, h⟩ | ⟨rfl, h⟩ <;> exact ih _ _ _ h
            | _ => rw [hv] at h; cases h
          | _ => cases h
        | block id b => exact ih _ _ _ h
        | loop b => exact ih _ _ _ h
        | exit id =>
          dsimp only at h ⊢
          cases hx : exitTo id k with
          | some k' => rw [hx] at h; exact ih _ _ _ h
          | none => rw [hx] at h; cases h
        | ret => exact hret h
        | region id ops dr =>
          dsimp only at h ⊢
          cases hx : (if mk == id + 1 then none else C.fix f id) with
          | some x =>
            rw [hx] at h
            have h1 : run C q (id + 1) _ cs = some r := h
            have := run_monos h1 (m - q)
            rwa [Nat.sub_add_cancel (by omega)] at this
          | none =>
            rw [hx] at h
            dsimp only at h ⊢
            split at h
            · rename_i hdr
              rw [if_pos hdr]
              split at h
              · rename_i hA
                rw [if_pos hA]
                exact draw_mono (fun fr cs h => ih _ _ _ h) _ _ _ _ h
              · cases h
            · rename_i hdr
              rw [if_neg hdr]
              exact ih _ _ _ h
        | _ => cases h
      | inLoop b => exact ih _ _ _ h
      | inBlock id => exact ih _ _ _ h
      | inRegion ops todo =>
        cases todo with
        | nil => exact ih _ _ _ h
        | cons i rest =>
          dsimp only at h ⊢
          cases ho : ops[i]? with
          | none => rw [ho] at h; cases h
          | some o =>
            rw [ho] at h
            refine guard_mono h (fun fr h => ?_) (fun fr h => ih _ _ _ h)
            cases hin : inlined C o (ev fr.tmps) with
            | some x =>
              obtain ⟨g, fn, vs⟩ := x
              rw [hin] at h
              dsimp only at h ⊢
              cases hb : fn.body with
              | some c => rw [hb] at h; exact ih _ _ _ h
              | none => rw [hb] at h; cases h
            | none =>
              rw [hin] at h
              dsimp only at h ⊢
              refine act_mono h fun a h => ?_
              cases hp : perform o.dst fr cs a with
              | none => rw [hp] at h; cases h
              | some x =>
                rw [hp] at h
                exact ih _ _ _ h
      | _ => cases h

theorem startK_runK (C : Cfg) (n f : Nat) (fn : Func) (vs : List AV) : startK C n f fn vs = match fn.body with
  | none => none
  | some c => run C n 0 ⟨f, vs ++ List.replicate (fn.ntmps - vs.length) .undef, List.replicate fn.ntmps [], [.code c]⟩ [] := by
  rw [startK_eq]; rfl
theorem startH_eq (C : Cfg) (H : Nat → Fr → List Fr → Option AV) (z : Option AV) (n f : Nat) (fn : Func) (vs : List AV) : startH C H z n f fn vs = match fn.body with
  | none => none
  | some c => runHp C H z n 0 ⟨f, vs ++ List.replicate (fn.ntmps - vs.length) .undef, List.replicate fn.ntmps [], [.code c]⟩ [] := by
  unfold startH
  cases fn.body with
  | none => rfl
  | some c => simp only [forceLK_eq, runH_eq]
/-- A state of the machine, for whatever is to go on from it. -/
abbrev Hook := Nat → Fr → List Fr → Option AV
end Go.Am
