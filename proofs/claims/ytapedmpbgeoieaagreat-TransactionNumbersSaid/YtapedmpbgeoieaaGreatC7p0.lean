/- Part 0 of the proof: Am0. -/
import Derived.WalkKit
import Derived.Orders
import Derived.KernelRfl
set_option linter.unusedSimpArgs false
set_option linter.unusedVariables false
namespace Go.Am
open Go

structure Spot where
  (sslot soffset : Int)
  deriving DecidableEq, Inhabited
structure Cell where
  (slot offset kind : Int) (send : Bool) (peer flow : Int)
  deriving DecidableEq, Inhabited
structure Wish where
  (other : Bool) (kind count : Int) (request reply requestAck replyAck : Bool)
  deriving DecidableEq, Inhabited

inductive ST where
  | spot | cell | int | bool | u8 | wish
  deriving DecidableEq
@[reducible] def ST.El : ST → Type
  | .spot => Spot
  | .cell => Cell
  | .int => Int
  | .bool => Bool
  | .u8 => Int
  | .wish => Wish
def ST.dflt : (t : ST) → t.El
  | .spot => ⟨0, 0⟩
  | .cell => ⟨0, 0, 0, false, 0, 0⟩
  | .int => (0 : Int)
  | .bool => false
  | .u8 => (0 : Int)
  | .wish => ⟨false, 0, 0, false, false, false, false⟩
def ST.k : ST → Nat
  | .spot => 2
  | .cell => 6
  | .int => 1
  | .bool => 1
  | .u8 => 1
  | .wish => 7

/-- .nn: whether it is nil is known. -/
inductive Tok where
  | none | cap0 | lab (n : Nat) | nn (b : Bool)

inductive AV where
  | undef
  | int (k : IntKind) (n : Int)
  | bool (b : Bool)
  | str (s : ByteArray)
  | nilS
  | nilP
  | nilF
  | sl (t : ST) (l : List t.El) (tok : Tok)
  | lit (k n : Nat) (cells : List AV)
  | agg (cs : List AV)
  | tup (vs : List AV)
  | ptr (up d off : Nat)
  | ep (t : ST) (x : t.El) (off : Nat)
  | lp (cells : List AV) (off : Nat)
  | fn (g : Nat) (fst caps : List AV)
  /-- A slice that nobody else sees; a pointer to its element i; its tail from i on; a map (of int keys) that nobody else sees (u: it is the only one of its label). -/
  | os (t : ST) (l : List t.El) (a : Nat)
  | oe (t : ST) (l : List t.El) (a i off : Nat)
  | ot (t : ST) (l : List t.El) (a i : Nat)
  | mp (a : Nat) (u : Bool) (ks : List Int) (vs : List AV)

/-- What becomes of what bears a label. -/
inductive W where
  | undef
  | os (t : ST) (l : List t.El)
  | mp (ks : List Int) (vs : List AV)
def W.av (a : Nat) : W → AV
  | .undef => .undef
  | .os t l => .os t l a
  | .mp ks vs => .mp a true ks vs

abbrev AV.i (n : Int) : AV := .int .i64 n

/-- The cells of an element. -/
def ST.row : (t : ST) → t.El → List AV
  | .spot, x => [.i x.sslot, .i x.soffset]
  | .cell, x => [.i x.slot, .i x.offset, .i x.kind, .bool x.send, .i x.peer, .i x.flow]
  | .int, x => [.i x]
  | .bool, x => [.bool x]
  | .u8, x => [.int .u8 x]
  | .wish, x => [.bool x.other, .i x.kind, .i x.count, .bool x.request, .bool x.reply, .bool x.requestAck, .bool x.replyAck]
def ST.dec : (t : ST) → List AV → Option t.El
  | .spot, [.int .i64 a, .int .i64 b] => some ⟨a, b⟩
  | .cell, [.int .i64 a, .int .i64 b, .int .i64 c, .bool d, .int .i64 e, .int .i64 f] => some ⟨a, b, c, d, e, f⟩
  | .int, [.int .i64 a] => some a
  | .bool, [.bool a] => some a
  | .u8, [.int .u8 a] => some a
  | .wish, [.bool a, .int .i64 b, .int .i64 c, .bool d, .bool e, .bool f, .bool g] => some ⟨a, b, c, d, e, f, g⟩
  | _, _ => none

def ofConst : Value → AV
  | .int k n => .int k n
  | .bool b => .bool b
  | .string s => .str s
  | .slice none 0 0 => .nilS
  | .pointer none => .nilP
  | .nilFunc => .nilF
  | _ => .undef

structure Fr where
  f : Nat
  tmps : List AV
  bx : List (List AV)
  items : List Item

/-- What is known of a type: its cells; is it a struct or an array; its zero cells; a struct's fields (offset, cells, is it an aggregate);
a slice's kind, its element's type, cells, bytes; an array's length and its element's cells. -/
structure TI where
  size : Nat
  agg : Bool
  zero : List Value
  flds : List (Nat × Nat × Bool) := []
  sl : Option ST := none
  el : Nat := 0
  esize : Nat := 0
  ebytes : Nat := 0
  arr : Option (Nat × Nat) := none
  ik : Option IntKind := none

def look {α : Type} (t : Nat) : List (Nat × α) → Option α
  | [] => none
  | (u, x) :: l => if u == t then some x else look t l

/-- What is forgotten where paths meet: temporaries and boxes that nobody reads any more; nil slices that get a leave to append (in temporaries, in cells of boxes). -/
structure Fix where
  drop : List Nat := []
  nt : List (Nat × ST × Nat) := []
  nb : List (Nat × Nat × ST × Nat) := []

def modL {α : Type} (f : α → α) : Nat → List α → List α
  | _, [] => []
  | 0, x :: xs => f x :: xs
  | n + 1, x :: xs => x :: modL f n xs
/-- A nil slice, seen as an empty one of its kind. -/
def canonV (st : ST) : AV → AV
  | .nilS => .sl st [] .none
  | v => v
def canonA (c : Option Nat) (st : ST) (v : AV) : AV :=
  match c with
  | none => canonV st v
  | some c => match v with
    | .agg cs => .agg (modL (canonV st) c cs)
    | v => v
def canon : List (Nat × Option Nat × ST) → List AV → List AV
  | [], vs => vs
  | (i, c, st) :: r, vs => canon r (modL (canonA c st) i vs)

/-- A contract: which of its arguments are slices (or cells of structs that are); when it speaks, and what it says. -/
structure GE where
  nrm : List (Nat × Option Nat × ST) := []
  pre : List AV → Bool
  val : List AV → Option AV
def GE.F (G : GE) (vs : List AV) : Option AV := cond (G.pre vs) (G.val vs) none

/-- A contract of a function that is given a slice that nobody else sees: a copy of one is returned; what is returned takes its place; it is changed. -/
inductive LE where
  | clone (st : ST) (eb : Nat)
  | own (pre : List AV → List Cell → Bool) (val : List AV → List Cell → Option (List Cell))
  | upd (pre : List AV → List Cell → Bool) (val : List AV → List Cell → Option (List Cell))
  | fmap (ks : List Int) (vs : List AV)

structure Cfg where
  ty : List (Nat × TI)
  Γ : List (Nat × GE)
  code : List (Nat × Func)
  rst : List (Nat × List (Nat × Fix))
  eqT : List (Nat × List Bool)
  boolT : Nat
  lb : List (Nat × Nat) := []
  wr : List Nat := []
  res : List (Nat × Option Nat × ST) := []
  lin : List (Nat × LE) := []
  /-- maps' types: the zero of their elements -/
  mt : List (Nat × List Value × Bool) := []
  raw : Bool := false

def Cfg.label (C : Cfg) (o : Oper) : Nat := let d := o.dst.getD 0; (look d C.lb).getD d

def inR (k : IntKind) (n : Int) : Bool := decide (k.min ≤ n ∧ n ≤ k.max)

def ev (tmps : List AV) : Operand → AV
  | .tmp t => tmps.getD t .undef
  | .const v => ofConst v
  | .global _ => .undef
  | .func f => .fn f [] []

def oneA : AV → Bool
  | .undef | .tup _ => false
  | _ => true
def cellsOf : AV → List AV
  | .agg cs => cs
  | v => [v]

/-- Pointers seen from a frame 'n' deeper. -/
def shift (n : Nat) : Nat → AV → AV
  | 0, _ => .undef
  | d + 1, v => match v with
    | .ptr up b off => .ptr (up + n) b off
    | .agg cs => .agg (cs.map (shift n d))
    | .tup cs => .tup (cs.map (shift n d))
    | .lit k m cs => .lit k m (cs.map (shift n d))
    | .lp cs off => .lp (cs.map (shift n d)) off
    | .fn g fs caps => .fn g (fs.map (shift n d)) (caps.map (shift n d))
    | v => v
/-- And back; a pointer to what is gone then is refused. -/
def unshift (n : Nat) : Nat → AV → Option AV
  | 0, _ => none
  | d + 1, v => match v with
    | .ptr up b off => if n ≤ up then some (.ptr (up - n) b off) else none
    | .agg cs => (cs.mapM (unshift n d)).map .agg
    | .tup cs => (cs.mapM (unshift n d)).map .tup
    | .lit k m cs => (cs.mapM (unshift n d)).map (.lit k m)
    | .lp cs off => (cs.mapM (unshift n d)).map (.lp · off)
    | .fn g fs caps => match fs.mapM (unshift n d), caps.mapM (unshift n d) with
      | some fs, some caps => some (.fn g fs caps)
      | _, _ => none
    | v => some v
/-- No pointer, no function. -/
def ground : Nat → AV → Bool
  | 0, _ => false
  | d + 1, v => match v with
    | .fn _ [] [] => true
    | .undef | .ptr .. | .ep .. | .lp .. | .fn .. | .os .. | .oe .. | .ot .. | .mp .. => false
    | .agg cs => cs.all (ground d)
    | .tup cs => cs.all (ground d)
    | .lit .. => false
    | _ => true
/-- Without the leave to append. -/
def untok : Nat → AV → AV
  | 0, _ => .undef
  | d + 1, v => match v with
    | .sl t l _ => .sl t l .none
    | .agg cs => .agg (cs.map (untok d))
    | .tup cs => .tup (cs.map (untok d))
    | v => v
/-- What is handed back: nobody will write it any more. -/
def melt : Nat → AV → AV
  | 0, _ => .undef
  | d + 1, v => match v with
    | .sl t l _ => .sl t l .none
    | .os t l _ => .sl t l .none
    | .agg cs => .agg (cs.map (melt d))
    | .tup cs => .tup (cs.map (melt d))
    | v => v
def Tok.drop (a : Nat) : Tok → Tok
  | .lab b => if a == b then .none else .lab b
  | t => t
def strip (a : Nat) (w : W) : Nat → AV → AV
  | 0, _ => .undef
  | d + 1, v => match v with
    | .sl t l tok => .sl t l (tok.drop a)
    | .agg cs => .agg (cs.map (strip a w d))
    | .tup cs => .tup (cs.map (strip a w d))
    | .lit k m cs => .lit k m (cs.map (strip a w d))
    | .lp cs off => .lp (cs.map (strip a w d)) off
    | .fn g fs caps => .fn g (fs.map (strip a w d)) (caps.map (strip a w d))
    | .os t l b => if a == b then w.av a else .os t l b
    | .oe t l b i off => if a == b then .undef else .oe t l b i off
    | .ot t l b i => if a == b then .undef else .ot t l b i
    | .mp b u ks vs => if a == b then (if u then w.av a else .undef) else .mp b u ks vs
    | v => v
/-- How deep values are looked into. -/
def D : Nat := 6

/-- Pointers to the boxes 'ds' of the frame (seen from 'up' deeper) are forgotten. -/
def forget (ds : List Nat) : Nat → AV → AV
  | 0, _ => .undef
  | d + 1, v => match v with
    | .ptr 0 b off => if ds.contains b then .undef else .ptr 0 b off
    | .agg cs => .agg (cs.map (forget ds d))
    | .tup cs => .tup (cs.map (forget ds d))
    | .lit k m cs => .lit k m (cs.map (forget ds d))
    | .lp cs off => .lp (cs.map (forget ds d)) off
    | .fn g fs caps => .fn g (fs.map (forget ds d)) (caps.map (forget ds d))
    | v => v

inductive Action where
  | val (v : AV)
  | load (p : AV) (sz : Nat) (ag : Bool)
  | store (p : AV) (cs : List AV) (sz : Nat)
  | new (cs : List AV)
  | app (v : AV) (tok : Tok) (w : W)

def nrm (C : Cfg) (t : Nat) : AV → AV
  | .nilS => match look t C.ty with
    | some ti => match ti.sl with
      | some st => .sl st [] .cap0
      | none => .nilS
    | none => .nilS
  | v => v

def eqCells : List AV → List AV → Option Bool
  | [], [] => some true
  | .int k a :: x, .int k' b :: y => if k = k' then (eqCells x y).map (decide (a = b) && ·) else none
  | .bool a :: x, .bool b :: y => (eqCells x y).map ((a == b) && ·)
  | _, _ => none

/-- int cells (true) and bool cells (false) -/
def shapeOk : List Bool → List AV → Bool
  | [], [] => true
  | true :: sh, .int .i64 _ :: cs => shapeOk sh cs
  | false :: sh, .bool _ :: cs => shapeOk sh cs
  | _, _ => false

def andI (k : IntKind) (a b : Int) : Int := k.wrap ((BitVec.ofInt k.bits a &&& BitVec.ofInt k.bits b).toNat)
def shrI (k : IntKind) (a b : Int) : Int := a.fdiv (2 ^ (min b.toNat k.bits))
def minI (a b : Int) : Int := if b < a then b else a
def maxI (a b : Int) : Int := if b > a then b else a

/-- Is this the type of slices of 'st'? -/
def slT (C : Cfg) (t : Nat) (st : ST) : Bool :=
  match look t C.ty with
  | some ti => match ti.sl with
    | some s => decide (s = st) && ti.ebytes != 0
    | none => false
  | none => false
/-- .. of another kind, of elements of 'k' cells? -/
def litT (C : Cfg) (t k : Nat) : Bool :=
  match look t C.ty with
  | some ti => ti.sl.isNone && (ti.esize == k && k != 0)
  | none => false

section
variable {ρ : Type}

def binA (C : Cfg) (wr : Bool) (t : Nat) (op : BinOp) (x y : AV) (K : AV → Option ρ) : Option ρ :=
  match x, y with
  | .int k a, .int k' b =>
    match op with
    | .shr => cond (decide (0 ≤ b)) (K (.int k (shrI k a b))) none
    | .shl => none
    | _ => if k = k' then
      match op with
      | .add => if wr then K (.int k (k.wrap (a + b))) else cond (inR k (a + b)) (K (.int k (a + b))) none
      | .sub => if wr then K (.int k (k.wrap (a - b))) else cond (inR k (a - b)) (K (.int k (a - b))) none
      | .mul => if wr then K (.int k (k.wrap (a * b))) else cond (inR k (a * b)) (K (.int k (a * b))) none
      | .rem => cond (decide (b = 0)) none (K (.int k (a.tmod b)))
      | .quo => cond (decide (b = 0)) none (cond (inR k (a.tdiv b)) (K (.int k (a.tdiv b))) none)
      | .and => K (.int k (andI k a b))
      | .eql => K (.bool (decide (a = b)))
      | .neq => K (.bool (!decide (a = b)))
      | .lss => K (.bool (decide (a < b)))
      | .leq => K (.bool (decide (a ≤ b)))
      | .gtr => K (.bool (decide (b < a)))
      | .geq => K (.bool (decide (b ≤ a)))
      | _ => none
      else none
  | .bool a, .bool b => if t == C.boolT then
      match op with
      | .eql => K (.bool (a == b))
      | .neq => K (.bool (!(a == b)))
      | _ => none
    else none
  | .sl st _ (.nn b), .nilS => if slT C t st then (match op with
    | .eql => K (.bool b)
    | .neq => K (.bool (!b))
    | _ => none) else none
  | .str a, .str b => match op with
    | .eql => K (.bool (a.toList == b.toList))
    | .neq => K (.bool (!(a.toList == b.toList)))
    | _ => none
  | .agg cs, .agg ds => match look t C.eqT with
    | some sh => if shapeOk sh cs && shapeOk sh ds then
      match op, eqCells cs ds with
      | .eql, some b => K (.bool b)
      | .neq, some b => K (.bool (!b))
      | _, _ => none
      else none
    | none => none
  | _, _ => none

/-- Where a part lies. -/
def partA (ti : TI) (i : Nat) : Option (Nat × Nat) :=
  match ti.arr with
  | some (_, sz) => some (i * sz, sz)
  | none => (ti.flds[i]?).map fun x => (x.1, x.2.1)
def fillA (ti : TI) (e : Operand → AV) : List (Nat × Operand) → List AV → Option (List AV)
  | [], cs => some cs
  | (i, x) :: rest, cs => match partA ti i with
    | some (off, sz) => let vs := cellsOf (e x); if oneA (e x) && (vs.length == sz && decide (off + sz ≤ cs.length)) then fillA ti e rest (cs.take off ++ (vs ++ cs.drop (off + sz))) else none
    | none => none

def litA (e : Operand → AV) : Nat → List (Nat × Operand) → Option (List AV)
  | _, [] => some []
  | i, (j, x) :: rest => if i == j then (litA e (i + 1) rest).map (e x :: ·) else none

def lenA (C : Cfg) (t : Nat) : AV → Option AV
  | .sl st l _ => if slT C t st then some (.i l.length) else none
  | .lit k n _ => if litT C t k then some (.i n) else none
  | .os st l _ => if slT C t st then some (.i l.length) else none
  | _ => none

def appA (C : Cfg) (t d : Nat) (s x : AV) (K : Action → Option ρ) : Option ρ :=
  match nrm C t s, nrm C t x with
  | .sl st l tok, .sl st' l' _ =>
    match tok with
    | .none => none
    | .nn _ => none
    | tok => if h : st' = st then (if slT C t st then cond (decide ((l.length + l'.length) * ((look t C.ty).map (·.ebytes)).getD 0 ≤ 70368744177664)) (K (.app (.sl st (l ++ (h ▸ l')) (.lab d)) tok .undef)) none else none) else none
  | .os st l a, .sl st' l' _ =>
    if h : st' = st then (if slT C t st then cond (decide ((l.length + l'.length) * ((look t C.ty).map (·.ebytes)).getD 0 ≤ 70368744177664)) (K (.app (.os st (l ++ (h ▸ l')) a) (.lab a) .undef)) none else none) else none
  | _, _ => none

def sliceA (C : Cfg) (t : Nat) (x : AV) (lo hi : Option AV) (K : Action → Option ρ) : Option ρ :=
  match nrm C t x with
  | .sl st l _ => if slT C t st then
    (match lo, hi with
    | none, some (.int _ b) => cond (decide (0 ≤ b ∧ b ≤ l.length)) (K (.val (.sl st (l.take b.toNat) .none))) none
    | some (.int _ a), none => cond (decide (0 ≤ a ∧ a ≤ l.length)) (K (.val (.sl st (l.drop a.toNat) .none))) none
    | _, _ => none) else none
  | .os st l lb => if slT C t st then
    (match lo, hi with
    | none, some (.int _ b) => cond (decide (0 ≤ b ∧ b ≤ l.length)) (K (.app (.os st (l.take b.toNat) lb) (.lab lb) .undef)) none
    | some (.int _ a), none => cond (decide (0 ≤ a ∧ a ≤ l.length)) (K (.val (.ot st l lb a.toNat))) none
    | _, _ => none) else none
  | _ => none

def idxA (C : Cfg) (t : Nat) (x ix : AV) (K : AV → Option ρ) : Option ρ :=
  match nrm C t x, ix with
  | .sl st l _, .int _ i => if slT C t st then cond (decide (0 ≤ i ∧ i < l.length)) (K (.ep st (l.getD i.toNat st.dflt) 0)) none else none
  | .os st l a, .int _ i => if slT C t st then cond (decide (0 ≤ i ∧ i < l.length)) (K (.oe st l a i.toNat 0)) none else none
  | .lit k n cells, .int _ i => if litT C t k then cond (decide (0 ≤ i ∧ i < n)) (K (.lp cells (i.toNat * k))) none else none
  | .ptr up d off, .int _ i => match (look t C.ty).bind (·.arr) with
    | some (n, sz) => cond (decide (0 ≤ i ∧ i < n)) (K (.ptr up d (off + i.toNat * sz))) none
    | none => none
  | .lp cells off, .int _ i => match (look t C.ty).bind (·.arr) with
    | some (n, sz) => cond (decide (0 ≤ i ∧ i < n)) (K (.lp cells (off + i.toNat * sz))) none
    | none => none
  | _, _ => none

def addA (o : Nat) : AV → Option AV
  | .ptr up d off => some (.ptr up d (off + o))
  | .ep t x off => some (.ep t x (off + o))
  | .lp cs off => some (.lp cs (off + o))
  | .oe t l a i off => some (.oe t l a i (off + o))
  | _ => none

def putN (off : Nat) (vs cs : List AV) : List AV := cs.take off ++ (vs ++ cs.drop (off + vs.length))
/-- An element written. -/
def setA (st : ST) (l : List st.El) (i off : Nat) (vs : List AV) (sz : Nat) : Option (List st.El) :=
  if vs.length == sz && (off + sz).ble st.k then (st.dec (putN off vs (st.row (l.getD i st.dflt)))).map (l.set i ·) else none
/-- The entries of a map. -/
def plainV : AV → Bool
  | .fn _ [] [] | .bool _ | .int _ _ | .nilF => true
  | .agg cs => cs.all fun | .fn _ [] [] | .bool _ | .int _ _ | .nilF => true | _ => false
  | _ => false
def lookA (n : Int) (zero : AV) (K : AV → Option ρ) : List Int → List AV → Option ρ
  | k :: ks, v :: vs => cond (decide (n = k)) (K v) (lookA n zero K ks vs)
  | _, _ => K zero
def freshA (n : Int) : List Int → Bool
  | [] => true
  | k :: ks => cond (decide (n = k)) false (freshA n ks)

/-- Calls of functions that are given a slice that nobody else sees. -/
def linA (C : Cfg) (o : Oper) (L : LE) (vs : List AV) (K : Action → Option ρ) : Option ρ :=
  match L with
  | .clone st eb => match vs.map (canonV st) with
    | [.sl st' l _] => if h : st' = st then cond (decide (l.length * eb ≤ 70368744177664)) (K (.app (.os st (h ▸ l) (C.label o)) (.lab (C.label o)) .undef)) none else none
    | _ => none
  | .own pre val => match vs with
    | .os .cell l a :: rest => cond (pre rest l) (match val rest l with
      | some l' => K (.app (.os .cell l' a) (.lab a) .undef)
      | none => none) none
    | _ => none
  | .upd pre val => match vs with
    | .os .cell l a :: rest => cond (pre rest l) (match val rest l with
      | some l' => K (.app (.tup []) (.lab a) (.os .cell l'))
      | none => none) none
    | _ => none
  | .fmap ks ws => match vs with
    | [] => K (.val (.mp (C.label o) false ks ws))
    | _ => none
/-- A new entry of a map. -/
def insA (C : Cfg) (t : Nat) (m k x : AV) (K : Action → Option ρ) : Option ρ :=
  match look t C.mt, m, k with
  | some (z, _), .mp a true ks vs, .int .i64 n => if plainV x && (cellsOf x).length == z.length then cond (freshA n ks) (K (.app (.tup []) (.lab a) (.mp (ks ++ [n]) (vs ++ [x])))) none else none
  | _, _, _ => none

/-- What a simple operation does, its operands' values at hand; a condition that is open parts the ways. -/
def act (C : Cfg) (o : Oper) (e : Operand → AV) (K : Action → Option ρ) : Option ρ :=
  match o.op with
  | .move x | .assign x => K (.val (e x))
  | .pick c a b => match e c with
    | .bool t => cond t (K (.val (e a))) (K (.val (e b)))
    | _ => none
  | .alloc t => match look t C.ty with
    | some ti => K (.new (ti.zero.map ofConst))
    | none => none
  | .box _ x => if oneA (e x) then K (.new (cellsOf (e x))) else none
  | .build t parts => match look t C.ty with
    | some ti => if ti.flds.isEmpty && ti.arr.isNone then none else match fillA ti e parts.toList (ti.zero.map ofConst) with
      | some cs => K (.val (.agg cs))
      | none => none
    | none => none
  | .buildSlice t n parts => match litA e 0 parts.toList with
    | some vs => if vs.length == n && (n.ble 1000 && vs.all oneA) then
      match look t C.ty with
      | none => none
      | some ti => match ti.sl with
        | some st => match vs.mapM (fun v => st.dec (cellsOf v)) with
          | some l => K (.val (.sl st l (.lab (C.label o))))
          | none => none
        | none => if ti.esize.ble 1000 && (ti.esize != 0 && vs.all (fun v => (cellsOf v).length == ti.esize)) then K (.val (.lit ti.esize n (vs.flatMap cellsOf))) else none
      else none
    | none => none
  | .load t a => match look t C.ty with
    | some ti => K (.load (e a) ti.size ti.agg)
    | none => none
  | .store t a x => match look t C.ty with
    | some ti => if oneA (e x) then (match e a with
      | .oe st l lb i off => match setA st l i off (cellsOf (e x)) ti.size with
        | some l' => K (.app (.tup []) (.lab lb) (.os st l'))
        | none => none
      | p => K (.store p (cellsOf (e x)) ti.size)) else none
    | none => none
  | .nilCheck x => match e x with
    | .ptr up d off => K (.val (.ptr up d off))
    | .ep t x off => K (.val (.ep t x off))
    | .lp cs off => K (.val (.lp cs off))
    | .oe t l a i off => K (.val (.oe t l a i off))
    | .fn g fs caps => K (.val (.fn g fs caps))
    | _ => none
  | .binOp op t x y _ => binA C (C.wr.contains (o.dst.getD 0)) t op (e x) (e y) fun v => K (.val v)
  | .unOp .not _ x => match e x with
    | .bool b => K (.val (.bool (!b)))
    | _ => none
  | .makeFunc (.func g) first caps => K (.val (.fn g (first.toList.map e) (caps.toList.map e)))
  | .slice t x lo hi none => sliceA C t (e x) (lo.map e) (hi.map e) K
  | .fieldAddr s x f => match (look s C.ty).bind (·.flds[f]?) with
    | some (off, _, _) => match addA off (e x) with
      | some p => K (.val p)
      | none => none
    | none => none
  | .field s x f => match (look s C.ty).bind (·.flds[f]?), e x with
    | some (off, sz, ag), .agg cs => if off + sz ≤ cs.length then K (.val (if ag then .agg ((cs.drop off).take sz) else cs.getD off .undef)) else none
    | _, _ => none
  | .indexAddr t x ix => idxA C t (e x) (e ix) fun v => K (.val v)
  | .extract x i => match e x with
    | .tup vs => match vs[i]? with
      | some v => K (.val v)
      | none => none
    | _ => none
  | .call { callee := .builtin b, args, argTypes } => match b, args.toList, argTypes.toList with
    | .len, [x], [t] => match lenA C t (nrm C t (e x)) with
      | some v => K (.val v)
      | none => none
    | .append, [s, x], [t, t'] => if t == t' then appA C t (C.label o) (e s) (e x) K else none
    | .clear, [x], [t] => match e x with
      | .ot st l lb i => if slT C t st then K (.app (.tup []) (.lab lb) (.os st (l.take i ++ List.replicate (l.length - i) st.dflt))) else none
      | _ => none
    | .min, [x, y], _ => match e x, e y with
      | .int k a, .int k' b => if k = k' then K (.val (.int k (minI a b))) else none
      | _, _ => none
    | .max, [x, y], _ => match e x, e y with
      | .int k a, .int k' b => if k = k' then K (.val (.int k (maxI a b))) else none
      | _, _ => none
    | _, _, _ => none
  | .call { callee := .value f, args, .. } => match e f with
    | .fn g fs caps => match look g C.lin with
     | some L => linA C o L (fs ++ (args.toList.map e ++ caps)) K
     | none => match look g C.Γ with
      | some G =>
        let vs := fs ++ (args.toList.map e ++ caps)
        if vs.all (ground D) then cond (G.pre (canon G.nrm (vs.map (untok D)))) (match G.val (canon G.nrm (vs.map (untok D))) with
          | some r => K (.val r)
          | none => none) none
        else none
      | none => none
    | _ => none
  | .makeMap t none => if (look t C.mt).isSome then K (.app (.mp (C.label o) true [] []) (.lab (C.label o)) .undef) else none
  | .mapUpdate t m k x => insA C t (e m) (e k) (e x) K
  | .insert t m k x => insA C t (e m) (e k) (e x) K
  | .lookup t m k false => match look t C.mt, e m, e k with
    | some (z, ag), .mp _ _ ks vs, .int .i64 n => lookA n (if ag then .agg (z.map ofConst) else (z.map ofConst).headD .undef) (fun v => K (.val v)) ks vs
    | _, _, _ => none
  | .convert s t x => match e x, look s C.ty, (look t C.ty).bind (·.ik) with
    | .int _ n, some _, some k => K (.val (.int k (k.wrap n)))
    | _, _, _ => none
  | _ => none
end

def Fr.put (fr : Fr) (dst : Option Nat) (v : AV) : Fr :=
  match dst with
  | some d => { fr with tmps := fr.tmps.set d v }
  | none => fr

def takeN (sz off : Nat) (cs : List AV) : Option (List AV) :=
  let l := (cs.drop off).take sz
  if l.length == sz then some l else none

def readP (fr : Fr) (cs : List Fr) (p : AV) (sz : Nat) : Option (List AV) :=
  match p with
  | .ptr 0 d off => takeN sz off (fr.bx.getD d [])
  | .ptr (u + 1) d off => match cs[u]? with
    | some c => (takeN sz off (c.bx.getD d [])).map fun l => l.map (shift (u + 1) D)
    | none => none
  | .ep t x off => takeN sz off (t.row x)
  | .lp cells off => takeN sz off cells
  | .oe t l _ i off => takeN sz off (t.row (l.getD i t.dflt))
  | _ => none

def writeP (fr : Fr) (cs : List Fr) (p : AV) (vs : List AV) : Option (Fr × List Fr) :=
  match p with
  | .ptr 0 d off =>
    let b := fr.bx.getD d []
    if off + vs.length ≤ b.length then some ({ fr with bx := fr.bx.set d (putN off vs b) }, cs) else none
  | .ptr (u + 1) d off => match cs[u]?, vs.mapM (unshift (u + 1) D) with
    | some c, some vs =>
      let b := c.bx.getD d []
      if off + vs.length ≤ b.length then some (fr, cs.set u { c with bx := c.bx.set d (putN off vs b) }) else none
    | _, _ => none
  | _ => none

def Fr.strip (a : Nat) (w : W) (fr : Fr) : Fr := { fr with tmps := fr.tmps.map (Am.strip a w D), bx := fr.bx.map fun b => b.map (Am.strip a w D) }

def perform (dst : Option Nat) (fr : Fr) (cs : List Fr) : Action → Option (Fr × List Fr)
  | .val v => some (fr.put dst v, cs)
  | .load p sz ag => match readP fr cs p sz with
    | some l => some (fr.put dst (if ag then .agg l else l.headD .undef), cs)
    | none => none
  | .store p vs sz => if vs.length == sz then (match writeP fr cs p vs with
      | some (fr, cs) => some (fr.put dst (.tup []), cs)
      | none => none) else none
  | .new l => match dst with
    | some d => match fr.bx[d]?, l with
      | some [], _ :: _ => some ({ fr with bx := fr.bx.set d l, tmps := fr.tmps.set d (.ptr 0 d 0) }, cs)
      | _, _ => none
    | none => none
  | .app v tok w => match tok with
    | .lab a => some ((fr.strip a w).put dst v, cs.map (Fr.strip a w))
    | _ => some (fr.put dst v, cs)

/-! ### Regions that draw -/
inductive Acc where
  | pure | move | rd (up d : Nat) | wr (up d : Nat) | mk (d : Nat) | app (tok : Tok) | oth
def accOf (o : Oper) : Action → Acc
  | .val _ => match o.op with
    | .move _ => .move
    | _ => .pure
  | .load (.ptr up d _) _ _ => .rd up d
  | .load _ _ _ => .pure
  | .store (.ptr up d _) _ _ => .wr up d
  | .store _ _ _ => .oth
  | .new _ => .mk (o.dst.getD 0)
  | .app _ tok _ => .app tok
def Acc.compat : Acc → Acc → Bool
  | .move, _ | _, .move => true
  | .oth, _ | _, .oth => false
  | .app _, _ | _, .app _ => false
  | .rd u d, .wr u' d' | .wr u d, .rd u' d' | .wr u d, .wr u' d' => !(u == u' && d == d')
  | .rd u d, .mk d' | .mk d', .rd u d | .wr u d, .mk d' | .mk d', .wr u d => !(u == 0 && d == d')
  | .mk d, .mk d' => !(d == d')
  | _, _ => true

/-- Values that taking a label away leaves as they are, and that nothing else becomes. -/
def fixedA (a : Nat) : AV → Bool
  | .int _ _ | .bool _ | .str _ | .nilS | .nilP | .nilF | .ptr _ _ _ | .ep _ _ _ | .tup [] | .fn _ [] [] => true
  | .sl _ _ (.lab b) => !(a == b)
  | .sl _ _ .none => false
  | .sl _ _ _ => true
  | _ => false
def fixedV (a : Nat) : AV → Bool
  | .agg cs => cs.all (fixedA a)
  | v => fixedA a v
def flatA : AV → Bool
  | .agg _ | .tup _ | .lit _ _ _ | .lp _ _ => false
  | .fn _ fs cs => fs.isEmpty && cs.isEmpty
  | _ => true
/-- What is noted of an operation that was made: its kind, the values that it looked at and made, and whether what it read is flat. -/
abbrev Log := Acc × List AV × Bool
def okv (tok : Tok) (v : AV) : Bool := match tok with
  | .lab a => fixedV a v
  | _ => true
def Log.lax (tok : Tok) (x : Log) : Bool :=
  (match x.1 with | .pure | .mk _ | .rd 0 _ => true | _ => false) && (x.2.1.all (okv tok) && x.2.2)
def Log.compat (x y : Log) : Bool := x.1.compat y.1 || (match x.1, y.1 with
  | .app _, .app _ => false
  | .app t, _ => y.lax t
  | _, .app t => x.lax t
  | _, _ => false)
def Log.none : Log := (.move, [], true)
def valsOf : Action → List AV
  | .val v => [v]
  | .new l => l
  | _ => []
def flagOf (fr : Fr) (cs : List Fr) : Action → Bool
  | .load p sz ag => match p with
    | .ptr _ _ _ => !ag || ((readP fr cs p sz).getD []).all flatA
    | _ => false
  | .store _ _ _ => false
  | _ => true
def logOf (ops : Array Oper) (o : Oper) (fr : Fr) (cs : List Fr) (a : Action) : Log := match accOf o a with
  | .move => Log.none
  | .app t => (.app t, [], true)
  | k => (k, (o.looksAt ops).map (fun t => fr.tmps.getD t .undef) ++ valsOf a, flagOf fr cs a)

section
variable {ρ : Type}

/-- Is the operation to be made? (As the machine asks; what is known of the guard is laid into its place.) -/
def guardA (ops : Array Oper) (o : Oper) (fr : Fr) (yes no : Fr → Option ρ) : Option ρ :=
  match o.guard with
  | none => yes fr
  | some (g, want) => match (ops[g]?).bind (·.dst) with
    | some t => match fr.tmps[t]? with
      | some (.bool b) => cond b
          (let fr := { fr with tmps := fr.tmps.set t (.bool true) }; if want then yes fr else no fr)
          (let fr := { fr with tmps := fr.tmps.set t (.bool false) }; if want then no fr else yes fr)
      | some (.tup []) => no fr
      | _ => none
    | none => none

def draw (C : Cfg) (ops : Array Oper) (bf : List Nat) (k : Fr → List Fr → Option ρ) : List Nat → List (Nat × Log) → Fr → List Fr → Option ρ
  | [], _, fr, cs => k fr cs
  | i :: rest, log, fr, cs => match ops[i]? with
    | none => none
    | some o =>
      guardA ops o fr
        (fun fr => act C o (ev fr.tmps) fun a =>
          let acc := logOf ops o fr cs a
          if log.all (fun p => (bf.getD i 0).testBit p.1 || p.2.compat acc) then
            match perform o.dst fr cs a with
            | some (fr, cs) => draw C ops bf k rest ((i, acc) :: log) fr cs
            | none => none
          else none)
        (fun fr => draw C ops bf k rest ((i, Log.none) :: log) (fr.put o.dst (.tup [])) cs)
end

/-- For each operation those that surely come before it, as bits. -/
def bits (acc : List Nat) : List Edge → Nat → Nat
  | [], s => s
  | e :: es, s => bits acc es (if Region.binds .any e then s ||| (2 ^ e.on ||| acc.getD e.on 0) else s)
def befL : List Oper → List Nat → List Nat
  | [], acc => acc
  | o :: l, acc => befL l (acc ++ [bits acc o.after.toList 0])

/-- Are operations without an order between them apart in their temporaries? -/
def apartAll (ops : Array Oper) (bf : List Nat) : Bool :=
  (List.range ops.size).all fun j => (match ops[j]? with | some y => y.after.all (fun e => !Region.binds .any e || e.on.blt j) | none => true) && (List.range j).all fun i =>
    (bf.getD j 0).testBit i || (match ops[i]?, ops[j]? with | some x, some y => x.apart ops y | _, _ => true)

def resetL (v : AV) : List Nat → List AV → List AV
  | [], l => l
  | d :: ds, l => resetL v ds (l.set d v)
def resetB : List Nat → List (List AV) → List (List AV)
  | [], l => l
  | d :: ds, l => resetB ds (l.set d [])
def nrmL (st : ST) (a : Nat) : AV → AV
  | .nilS => .sl st [] (.lab a)
  | .sl t l .cap0 => .sl t l (.lab a)
  | v => v
def nrmT : List (Nat × ST × Nat) → List AV → List AV
  | [], l => l
  | (d, st, a) :: r, l => nrmT r (modL (nrmL st a) d l)
def nrmB : List (Nat × Nat × ST × Nat) → List (List AV) → List (List AV)
  | [], l => l
  | (d, c, st, a) :: r, l => nrmB r (modL (modL (nrmL st a) c) d l)
def Fr.reset (x : Fix) (fr : Fr) : Fr :=
  { fr with tmps := nrmT x.nt (resetL .undef x.drop (fr.tmps.map (forget x.drop D))), bx := nrmB x.nb ((resetB x.drop fr.bx).map fun b => b.map (forget x.drop D)) }
def Cfg.fix (C : Cfg) (f id : Nat) : Option Fix := (look f C.rst).bind (look id)
/-- The callee of a call of a function that is walked into. -/
def inlined (C : Cfg) (o : Oper) (e : Operand → AV) : Option (Nat × Func × List AV) :=
  match o.op with
  | .call { callee := .value f, args, .. } => match e f with
    | .fn g fs caps => match look g C.Γ, look g C.code with
      | none, some fn => some (g, fn, fs ++ (args.toList.map e ++ caps))
      | _, _ => none
    | _ => none
  | _ => none

def enter (g : Nat) (fn : Func) (vs : List AV) (c : Code) : Fr :=
  { f := g, tmps := vs.map (shift 1 D) ++ List.replicate (fn.ntmps - vs.length) .undef, bx := List.replicate fn.ntmps [], items := [.code c] }

def resultsA (C : Cfg) (fn : Func) (fr : Fr) (cs : List Fr) : Option (List AV) :=
  fn.results.toList.mapM fun
    | .tmp t => some (fr.tmps.getD t .undef)
    | .cell a t => match look t C.ty with
      | none => none
      | some ti => match readP fr cs (fr.tmps.getD a .undef) ti.size with
        | some l => some (if ti.agg then .agg l else l.headD .undef)
        | none => none
def packA : List AV → AV
  | [v] => v
  | vs => .tup vs

def run (C : Cfg) : Nat → Nat → Fr → List Fr → Option AV
  | 0, _, _, _ => none
  | n + 1, mk, fr, cs =>
    let ret : Option AV := match look fr.f C.code with
      | none => none
      | some fn => match resultsA C fn fr cs with
        | none => none
        | some vs => match cs with
          | [] => if C.raw then some (packA vs) else if ground D (melt D (packA (canon C.res vs))) then some (melt D (packA (canon C.res vs))) else none
          | c :: cs => match unshift 1 D (packA vs), c.items with
            | some v, .inRegion ops (i :: rest) :: k => run C n 0 { (c.put ((ops[i]?).bind (·.dst)) v) with items := .inRegion ops rest :: k } cs
            | _, _ => none
    match fr.items with
    | [] => ret
    | .code c :: k => match c with
      | .skip => run C n 0 { fr with items := k } cs
      | .seq a b => run C n 0 { fr with items := .code a :: .code b :: k } cs
      | .cond c x y => match c, ev fr.tmps c with
        | .tmp t, .bool b => cond b (run C n 0 { fr with tmps := fr.tmps.set t (.bool true), items := .code x :: k } cs) (run C n 0 { fr with tmps := fr.tmps.set t (.bool false), items := .code y :: k } cs)
        | .const _, .bool b => cond b (run C n 0 { fr with items := .code x :: k } cs) (run C n 0 { fr with items := .code y :: k } cs)
        | _, _ => none
      | .block id b => run C n 0 { fr with items := .code b :: .inBlock id :: k } cs
      | .loop b => run C n 0 { fr with items := .code b :: .inLoop b :: k } cs
      | .exit id => match exitTo id k with
        | some k => run C n 0 { fr with items := k } cs
        | none => none
      | .ret => ret
      | .region id ops dr => match (if mk == id + 1 then none else C.fix fr.f id) with
        | some x => run C n (id + 1) (fr.reset x) cs
        | none => if dr then
            (let bf := befL ops.toList []
            if apartAll ops bf then draw C ops bf (fun fr cs => run C n 0 { fr with items := k } cs) (List.range ops.size) [] fr cs else none)
          else run C n 0 { fr with items := .inRegion ops (List.range ops.size) :: k } cs
      | _ => none
    | .inLoop b :: k => run C n 0 { fr with items := .code b :: .inLoop b :: k } cs
    | .inBlock _ :: k => run C n 0 { fr with items := k } cs
    | .inRegion _ [] :: k => run C n 0 { fr with items := k } cs
    | .inRegion ops (i :: rest) :: k => match ops[i]? with
      | none => none
      | some o => guardA ops o fr
        (fun fr => match inlined C o (ev fr.tmps) with
          | some (g, fn, vs) => match fn.body with
            | some c => run C n 0 (enter g fn vs c) (fr :: cs)
            | none => none
          | none => act C o (ev fr.tmps) fun a => match perform o.dst fr cs a with
            | some (fr, cs) => run C n 0 { fr with items := .inRegion ops rest :: k } cs
            | none => none)
        (fun fr => run C n 0 { (fr.put o.dst (.tup [])) with items := .inRegion ops rest :: k } cs)
    | _ => none

/-- The run of a function from its begin on. -/
def start (C : Cfg) (n f : Nat) (fn : Func) (vs : List AV) : Option AV :=
  match fn.body with
  | none => none
  | some c => run C n 0 { f, tmps := vs ++ List.replicate (fn.ntmps - vs.length) .undef, bx := List.replicate fn.ntmps [], items := [.code c] } []

end Go.Am
