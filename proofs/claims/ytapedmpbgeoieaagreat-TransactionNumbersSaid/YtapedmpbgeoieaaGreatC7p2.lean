/- Part 2 of the proof: Am2. -/
import Derived.Test.YtapedmpbgeoieaaGreatC7p0
set_option linter.unusedSimpArgs false
set_option linter.unusedVariables false
namespace Go.Am
open Go

def up : Nat → Nat → Nat
  | 0, n => n
  | k + 1, n => Nat.succ (up k n)
theorem up_eq (k n : Nat) : up k n = n + k := by induction k with
  | zero => rfl
  | succ k ih => simp only [up, ih]; omega

section
variable {α : Type} {β : Type}

def setK : List α → Nat → α → (List α → β) → β
  | [], _, _, k => k []
  | _ :: xs, 0, v, k => k (v :: xs)
  | x :: xs, d + 1, v, k => setK xs d v fun ys => k (x :: ys)
theorem setK_eq (l : List α) (d : Nat) (v : α) (k : List α → β) : setK l d v k = k (l.set d v) := by
  induction l generalizing d k with
  | nil => simp [setK]
  | cons x xs ih => cases d with
    | zero => rfl
    | succ d => simp [setK, ih]

def force (n : Nat) (k : Nat → β) : β := match n with
  | 0 => k 0
  | m + 1 => k (m + 1)
theorem force_eqN (n : Nat) (k : Nat → β) : force n k = k n := by cases n <;> rfl
def appK : List Nat → Nat → (List Nat → β) → β
  | [], v, k => k [v]
  | x :: xs, v, k => appK xs v fun ys => k (x :: ys)
theorem appK_eq (l : List Nat) (v : Nat) (k : List Nat → β) : appK l v k = k (l ++ [v]) := by
  induction l generalizing k with
  | nil => rfl
  | cons x xs ih => simp [appK, ih]
def befLK : List Oper → List Nat → (List Nat → β) → β
  | [], acc, k => k acc
  | o :: l, acc, k => force (bits acc o.after.toList 0) fun v => appK acc v fun acc => befLK l acc k
theorem befLK_eq (l : List Oper) (acc : List Nat) (k : List Nat → β) : befLK l acc k = k (befL l acc) := by
  induction l generalizing acc with
  | nil => rfl
  | cons o l ih => simp only [befLK, force_eqN, appK_eq, ih, befL]

def forceZK : Nat → List Int → (List Int → β) → β
  | 0, l, k => k l
  | n + 1, l, k => match l with
    | [] => k []
    | x :: xs => forceZK n xs fun xs => k (x :: xs)
theorem forceZK_eq (n : Nat) (l : List Int) (k : List Int → β) : forceZK n l k = k l := by
  induction n generalizing l k with
  | zero => rfl
  | succ n ih => cases l with
    | nil => rfl
    | cons x xs => simp only [forceZK, ih]
mutual
def forceK : Nat → AV → (AV → β) → β
  | 0, v, k => k v
  | n + 1, v, k => match v with
    | .undef => k .undef
    | .int a b => k (.int a b)
    | .bool b => k (.bool b)
    | .str s => k (.str s)
    | .nilS => k .nilS
    | .nilP => k .nilP
    | .nilF => k .nilF
    | .sl t l tok => k (.sl t l tok)
    | .lit a b cs => forceLK n cs fun cs => k (.lit a b cs)
    | .agg cs => forceLK n cs fun cs => k (.agg cs)
    | .tup cs => forceLK n cs fun cs => k (.tup cs)
    | .ptr a b c => k (.ptr a b c)
    | .ep a b c => k (.ep a b c)
    | .lp cs off => forceLK n cs fun cs => k (.lp cs off)
    | .fn g fs cs => forceLK n fs fun fs => forceLK n cs fun cs => k (.fn g fs cs)
    | .os t l a => k (.os t l a)
    | .oe t l a i off => k (.oe t l a i off)
    | .ot t l a i => k (.ot t l a i)
    | .mp a u ks vs => forceZK n ks fun ks => forceLK n vs fun vs => k (.mp a u ks vs)
def forceLK : Nat → List AV → (List AV → β) → β
  | 0, l, k => k l
  | n + 1, l, k => match l with
    | [] => k []
    | x :: xs => forceK n x fun x => forceLK n xs fun xs => k (x :: xs)
end
end

theorem force_eq {β : Type} (n : Nat) : (∀ (v : AV) (k : AV → β), forceK n v k = k v) ∧ (∀ (l : List AV) (k : List AV → β), forceLK n l k = k l) := by
  induction n with
  | zero => exact ⟨fun v k => rfl, fun l k => rfl⟩
  | succ n ih =>
    refine ⟨fun v k => ?_, fun l k => ?_⟩
    · cases v <;> simp only [forceK, ih.2, forceZK_eq]
    · cases l <;> simp only [forceLK, ih.1, ih.2]
theorem forceK_eq {β : Type} (n : Nat) (v : AV) (k : AV → β) : forceK n v k = k v := (force_eq n).1 v k
theorem forceLK_eq {β : Type} (n : Nat) (v : List AV) (k : List AV → β) : forceLK n v k = k v := (force_eq n).2 v k
/-- How far values are evaluated. -/
def DF : Nat := 200

def forceLLK {β : Type} : Nat → List (List AV) → (List (List AV) → β) → β
  | 0, l, k => k l
  | n + 1, l, k => match l with
    | [] => k []
    | x :: xs => forceLK DF x fun x => forceLLK n xs fun xs => k (x :: xs)
theorem forceLLK_eq {β : Type} (n : Nat) (l : List (List AV)) (k : List (List AV) → β) : forceLLK n l k = k l := by
  induction n generalizing l k with
  | zero => rfl
  | succ n ih => cases l <;> simp only [forceLLK, forceLK_eq, ih]

section
variable {ρ : Type}
abbrev KK (ρ : Type) := List AV → List (List AV) → List Fr → Option ρ

def putK (dst : Option Nat) (v : AV) (tmps : List AV) (k : List AV → Option ρ) : Option ρ :=
  match dst with
  | some d => forceK DF v fun v => setK tmps d v k
  | none => k tmps

def performK (dst : Option Nat) (f : Nat) (tmps : List AV) (bx : List (List AV)) (items : List Item) (cs : List Fr) (a : Action) (k : KK ρ) : Option ρ :=
  match a with
  | .val v => putK dst v tmps fun tmps => k tmps bx cs
  | .load p sz ag => match readP ⟨f, tmps, bx, items⟩ cs p sz with
    | some l => putK dst (if ag then .agg l else l.headD .undef) tmps fun tmps => k tmps bx cs
    | none => none
  | .store p vs sz => if vs.length == sz then (match p with
      | .ptr 0 d off =>
        if off + vs.length ≤ (bx.getD d []).length then forceLK DF (putN off vs (bx.getD d [])) fun b => setK bx d b fun bx => putK dst (.tup []) tmps fun tmps => k tmps bx cs else none
      | p => match writeP ⟨f, tmps, bx, items⟩ cs p vs with
        | some (fr, cs) => putK dst (.tup []) fr.tmps fun tmps => k tmps fr.bx cs
        | none => none) else none
  | .new l => match dst with
    | some d => match bx[d]?, l with
      | some [], _ :: _ => forceLK DF l fun l => setK bx d l fun bx => setK tmps d (.ptr 0 d 0) fun tmps => k tmps bx cs
      | _, _ => none
    | none => none
  | .app v tok w => match tok with
    | .lab a => forceLK DF (tmps.map (Am.strip a w D)) fun tmps => forceLLK DF (bx.map fun b => b.map (Am.strip a w D)) fun bx => putK dst v tmps fun tmps => k tmps bx (cs.map (Fr.strip a w))
    | _ => putK dst v tmps fun tmps => k tmps bx cs

def guardK (ops : Array Oper) (o : Oper) (tmps : List AV) (yes no : List AV → Option ρ) : Option ρ :=
  match o.guard with
  | none => yes tmps
  | some (g, want) => match (ops[g]?).bind (·.dst) with
    | some t => match tmps[t]? with
      | some (.bool b) => cond b
          (setK tmps t (.bool true) fun tmps => if want then yes tmps else no tmps)
          (setK tmps t (.bool false) fun tmps => if want then no tmps else yes tmps)
      | some (.tup []) => no tmps
      | _ => none
    | none => none

def drawK (C : Cfg) (ops : Array Oper) (bf : List Nat) (f : Nat) (items : List Item) (k : KK ρ) : List Nat → List (Nat × Log) → List AV → List (List AV) → List Fr → Option ρ
  | [], _, tmps, bx, cs => k tmps bx cs
  | i :: rest, log, tmps, bx, cs => match ops[i]? with
    | none => none
    | some o =>
      guardK ops o tmps
        (fun tmps => act C o (ev tmps) fun a =>
          let acc := logOf ops o ⟨f, tmps, bx, items⟩ cs a
          if log.all (fun p => (bf.getD i 0).testBit p.1 || p.2.compat acc) then
            performK o.dst f tmps bx items cs a fun tmps bx cs => drawK C ops bf f items k rest ((i, acc) :: log) tmps bx cs
          else none)
        (fun tmps => putK o.dst (.tup []) tmps fun tmps => drawK C ops bf f items k rest ((i, Log.none) :: log) tmps bx cs)
end

def runK (C : Cfg) : Nat → Nat → Nat → List AV → List (List AV) → List Item → List Fr → Option AV
  | 0, _, _, _, _, _, _ => none
  | n + 1, mk, f, tmps, bx, items, cs =>
    let ret : Option AV := match look f C.code with
      | none => none
      | some fn => match resultsA C fn ⟨f, tmps, bx, items⟩ cs with
        | none => none
        | some vs => match cs with
          | [] => if C.raw then some (packA vs) else if ground D (melt D (packA (canon C.res vs))) then forceK DF (melt D (packA (canon C.res vs))) some else none
          | c :: cs => match unshift 1 D (packA vs), c.items with
            | some v, .inRegion ops (i :: rest) :: k => putK ((ops[i]?).bind (·.dst)) v c.tmps fun tmps => runK C n 0 c.f tmps c.bx (.inRegion ops rest :: k) cs
            | _, _ => none
    match items with
    | [] => ret
    | .code c :: k => match c with
      | .skip => runK C n 0 f tmps bx k cs
      | .seq a b => runK C n 0 f tmps bx (.code a :: .code b :: k) cs
      | .cond c x y => match c, ev tmps c with
        | .tmp t, .bool b => cond b (setK tmps t (.bool true) fun tmps => runK C n 0 f tmps bx (.code x :: k) cs) (setK tmps t (.bool false) fun tmps => runK C n 0 f tmps bx (.code y :: k) cs)
        | .const _, .bool b => cond b (runK C n 0 f tmps bx (.code x :: k) cs) (runK C n 0 f tmps bx (.code y :: k) cs)
        | _, _ => none
      | .block id b => runK C n 0 f tmps bx (.code b :: .inBlock id :: k) cs
      | .loop b => runK C n 0 f tmps bx (.code b :: .inLoop b :: k) cs
      | .exit id => match exitTo id k with
        | some k => runK C n 0 f tmps bx k cs
        | none => none
      | .ret => ret
      | .region id ops dr => match (if mk == id + 1 then none else C.fix f id) with
        | some x => forceLK DF (Fr.reset x ⟨f, tmps, bx, items⟩).tmps fun tmps' => forceLLK DF (Fr.reset x ⟨f, tmps, bx, items⟩).bx fun bx' => runK C n (id + 1) f tmps' bx' items cs
        | none => if dr then
            befLK ops.toList [] fun bf =>
            if apartAll ops bf then drawK C ops bf f items (fun tmps bx cs => runK C n 0 f tmps bx k cs) (List.range ops.size) [] tmps bx cs else none
          else runK C n 0 f tmps bx (.inRegion ops (List.range ops.size) :: k) cs
      | _ => none
    | .inLoop b :: k => runK C n 0 f tmps bx (.code b :: .inLoop b :: k) cs
    | .inBlock _ :: k => runK C n 0 f tmps bx k cs
    | .inRegion _ [] :: k => runK C n 0 f tmps bx k cs
    | .inRegion ops (i :: rest) :: k => match ops[i]? with
      | none => none
      | some o => guardK ops o tmps
        (fun tmps => match inlined C o (ev tmps) with
          | some (g, fn, vs) => match fn.body with
            | some c => forceLK DF (enter g fn vs c).tmps fun tmps' => runK C n 0 g tmps' (List.replicate fn.ntmps []) [.code c] (⟨f, tmps, bx, items⟩ :: cs)
            | none => none
          | none => act C o (ev tmps) fun a => performK o.dst f tmps bx items cs a fun tmps bx cs => runK C n 0 f tmps bx (.inRegion ops rest :: k) cs)
        (fun tmps => putK o.dst (.tup []) tmps fun tmps => runK C n 0 f tmps bx (.inRegion ops rest :: k) cs)
    | _ => none

def startK (C : Cfg) (n f : Nat) (fn : Func) (vs : List AV) : Option AV :=
  match fn.body with
  | none => none
  | some c => forceLK DF (vs ++ List.replicate (fn.ntmps - vs.length) .undef) fun tmps => runK C n 0 f tmps (List.replicate fn.ntmps []) [.code c] []

end Go.Am
