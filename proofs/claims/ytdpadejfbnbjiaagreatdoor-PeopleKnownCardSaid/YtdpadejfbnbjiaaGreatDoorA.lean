/- A verified abstract machine for this program, contracts of its functions, and rows: Ir, Rel, Heap, Tr. -/
import GoSem.Core.Code
import GoSem.Core.View
import Derived.Calls
import Derived.Below
import Derived.Laws.Entries
import Derived.Laws.Cells
import Derived.Laws.Alloc2
import GoSem.Core.Layout
import GoSem.Dispatch
/- An abstract machine for translated Go functions: values, operations with sizes and offsets resolved, code, and a predicate transformer that says what a call comes to, in a heap of its own whose blocks are numbered by the order in which they are made. -/
namespace Rst
open Go (IntKind BinOp UnOp)

/-- A function value's target. -/
inductive AFn where
  | func (f : Nat)
  | yield (l : Nat)

/-- Values; an address is a block's number and an offset in cells; a string is its bytes. -/
inductive AVal where
  | bool (b : Bool)
  | int (k : IntKind) (n : Int)
  | str (s : List Nat)
  | ptr (a : Option (Nat × Nat))
  | slice (a : Option (Nat × Nat)) (len cap sz : Nat)
  | map (r : Option Nat)
  | func (fn : AFn) (caps : List AVal)
  | nilFunc
  | iface (t : Nat) (v : AVal)
  | nilIface
  | agg (cs : List AVal)
  | tup (vs : List AVal)
  | nul

def AVal.cells : AVal → List AVal
  | .agg cs => cs
  | v => [v]
def und : AVal := .tup []
/-- What fits in one cell. -/
def AVal.isCell : AVal → Bool
  | .agg _ => false
  | .tup _ => false
  | .nul => false
  | _ => true

def AVal.isVal : AVal → Bool
  | .tup _ => false
  | .nul => false
  | _ => true
/-- A finite map from numbers, as a binary tree. -/
inductive Tr (α : Type) where
  | e
  | n (v : Option α) (l r : Tr α)
def Tr.get {α : Type} : Tr α → Nat → Option α
  | .e, _ => none
  | .n v l r, i => match i with
    | 0 => v
    | j + 1 => if Nat.beq (j % 2) 0 then l.get (j / 2) else r.get (j / 2)
def Tr.setF {α : Type} : Nat → Tr α → Nat → α → Tr α
  | 0, t, _, _ => t
  | f + 1, t, i, b => match i, t with
    | 0, .e => .n (some b) .e .e
    | 0, .n _ l r => .n (some b) l r
    | j + 1, .e => if Nat.beq (j % 2) 0 then .n none (Tr.setF f .e (j / 2) b) .e else .n none .e (Tr.setF f .e (j / 2) b)
    | j + 1, .n v l r => if Nat.beq (j % 2) 0 then .n v (Tr.setF f l (j / 2) b) r else .n v l (Tr.setF f r (j / 2) b)
def Tr.set {α : Type} (t : Tr α) (i : Nat) (b : α) : Tr α := t.setF (i + 1) i b

/-- The slots of a call. -/
abbrev Rg := Tr AVal
def Tr.at (ρ : Rg) (t : Nat) : AVal := match ρ.get t with
  | some v => v
  | none => und

/-- The kinds of a cell that '==' asks for, and those of a key. -/
inductive LK where
  | bool | int | str | ptr | slice | map | func | iface | ifx
  deriving DecidableEq
inductive KT where
  | one (k : LK)
  | agg (ks : List LK)
  deriving DecidableEq

/-- Operands. -/
inductive AO where
  | t (n : Nat)
  | c (v : AVal)
  | f (n : Nat)

inductive AOp where
  | mv (x : AO)
  | pick (c a b : AO)
  | alloc (z : List AVal)
  | box (n : Nat) (x : AO)
  | build (z : List AVal) (parts : List (Nat × Nat × AO))
  | buildS (z : List AVal) (n sz : Nat) (parts : List (Nat × Nat × AO))
  | load (n : Option Nat) (a : AO)
  | store (n : Nat) (a x : AO)
  | nilc (x : AO)
  | bin (op : BinOp) (x y : AO)
  | eqv (ne : Bool) (t : KT) (x y : AO)
  | un (op : UnOp) (x : AO)
  | convI (k : IntKind) (x : AO)
  | convBS (x : AO)
  | convSS (x : AO)
  | convSB (x : AO)
  | mkI (t : Nat) (x : AO)
  | mkF (f : Nat) (caps : List AO)
  | mkM
  | mkS (z : List AVal) (bytes : Nat) (len cap : AO)
  | sl (sz : Nat) (x : AO) (lo hi mx : Option AO)
  | slStr (x : AO) (lo hi : Option AO)
  | slArr (n sz : Nat) (x : AO) (lo hi mx : Option AO)
  | fa (off : Nat) (x : AO)
  | ia (sz : Nat) (x i : AO)
  | iaArr (n sz : Nat) (x i : AO)
  | idxStr (x i : AO)
  | idxArr (n sz : Nat) (one : Bool) (x i : AO)
  | fld (off : Nat) (n : Option Nat) (x : AO)
  | lk (t : KT) (z : AVal) (ok : Bool) (m k : AO)
  | mu (t : KT) (m k v : AO)
  | del (t : KT) (m k : AO)
  | ta (t : Nat) (z : AVal) (ok : Bool) (x : AO)
  | ext (x : AO) (i : Nat)
  | call (f : AO) (args : List AO)
  | len (k : LK) (x : AO)
  | lenArr (n : Nat)
  | app (sz bytes : Nat) (s x : AO)
  | min (xs : List AO)
  | max (xs : List AO)
  | clr (z : List AVal) (x : AO)
  | cpy (sz : Nat) (d s : AO)
  | panic (x : AO)
  | again (op : AOp) (t : Nat)

structure AOper where
  dst : Option Nat
  op : AOp
  guard : Option (Nat × Bool) := none

inductive ACode where
  | skip
  | region (ops : List AOper)
  | alts (l : List (List AOper))
  | seq (a b : ACode)
  | cond (c : AO) (thn els : ACode)
  | block (id : Nat) (body : ACode)
  | loop (body : ACode)
  | rangeFunc (f : AO) (params : List Nat) (assign body : ACode)
  | exit (id : Nat)
  | scope (body cur : ACode)
  | label (l : Nat)
  | goto (l : Nat)
  | ret

inductive ARes where
  | tmp (t : Nat)
  | cell (a : Nat) (n : Option Nat)

structure AFunc where
  ntmps : Nat
  results : List ARes
  body : ACode

/-! ### The heap -/
inductive LState where
  | ready | busy | done | exhausted

inductive ABlk where
  | cells (own : Bool) (vs : List AVal)
  | map (es : List (AVal × AVal))
  | loop (st : LState) (pend : Option ACode) (tmps : Rg) (params : List Nat) (assign body : ACode)
  | dead

structure AH where
  next : Nat
  m : Tr ABlk
def AH.get (H : AH) (b : Nat) : Option ABlk := H.m.get b
def AH.set (H : AH) (b : Nat) (o : ABlk) : AH := { H with m := H.m.set b o }
def AH.alloc (H : AH) (o : ABlk) : AH := { next := H.next + 1, m := H.m.set H.next o }
def AH.loadN (H : AH) (a : Nat × Nat) (n : Nat) : Option (List AVal) :=
  match H.get a.1 with
  | some (.cells _ vs) => let l := (vs.drop a.2).take n; if l.length = n then some l else none
  | _ => none
def AH.load1 (H : AH) (a : Nat × Nat) : Option AVal :=
  match H.get a.1 with
  | some (.cells _ vs) => vs[a.2]?
  | _ => none
def splice (vs : List AVal) (off : Nat) (xs : List AVal) : List AVal := vs.take off ++ xs ++ vs.drop (off + xs.length)
def AH.storeN (H : AH) (a : Nat × Nat) (xs : List AVal) : Option AH :=
  match H.get a.1 with
  | some (.cells true vs) => if a.2 + xs.length ≤ vs.length ∧ xs.all AVal.isCell = true then some (H.set a.1 (.cells true (splice vs a.2 xs))) else none
  | _ => none

/-! ### Operations that are no calls -/
def AO.ev (ρ : Rg) : AO → AVal
  | .t n => ρ.at n
  | .c v => v
  | .f n => .func (.func n) []
def wr (k : IntKind) (n : Int) : Int := if 0 ≤ n ∧ n ≤ 127 then n else if k = .i64 ∧ -9223372036854775808 ≤ n ∧ n ≤ 9223372036854775807 then n else k.wrap n
def bytesLt : List Nat → List Nat → Bool
  | _, [] => false
  | [], _ :: _ => true
  | a :: x, b :: y => Nat.blt a b || (Nat.beq a b && bytesLt x y)
def bytesEq : List Nat → List Nat → Bool
  | [], [] => true
  | a :: x, b :: y => Nat.beq a b && bytesEq x y
  | _, _ => false
def ibin (op : BinOp) (k : IntKind) (a b : Int) : Option AVal :=
  match op with
  | .add => some (.int k (wr k (a + b)))
  | .sub => some (.int k (wr k (a - b)))
  | .mul => some (.int k (wr k (a * b)))
  | .quo => if b = 0 then none else some (.int k (wr k (a.tdiv b)))
  | .rem => if b = 0 then none else some (.int k (a.tmod b))
  | .and => some (.int k (k.wrap (BitVec.ofInt k.bits a &&& BitVec.ofInt k.bits b).toNat))
  | .or => some (.int k (k.wrap (BitVec.ofInt k.bits a ||| BitVec.ofInt k.bits b).toNat))
  | .xor => some (.int k (k.wrap (BitVec.ofInt k.bits a ^^^ BitVec.ofInt k.bits b).toNat))
  | .eql => some (.bool (decide (a = b)))
  | .neq => some (.bool (decide (a ≠ b)))
  | .lss => some (.bool (decide (a < b)))
  | .leq => some (.bool (decide (a ≤ b)))
  | .gtr => some (.bool (decide (b < a)))
  | .geq => some (.bool (decide (b ≤ a)))
  | _ => none
def sbin (op : BinOp) (a b : List Nat) : Option AVal :=
  match op with
  | .add => if a.length + b.length ≤ 9223372036854775807 then some (.str (a ++ b)) else none
  | .eql => some (.bool (bytesEq a b))
  | .neq => some (.bool (!bytesEq a b))
  | .lss => some (.bool (bytesLt a b))
  | .leq => some (.bool (bytesLt a b || bytesEq a b))
  | .gtr => some (.bool (!(bytesLt a b || bytesEq a b)))
  | .geq => some (.bool (!bytesLt a b))
  | _ => none
def abin (op : BinOp) (x y : AVal) : Option AVal :=
  match x, y with
  | .int k a, .int k' b =>
    match op with
    | .shl => if 0 ≤ b then some (.int k (k.wrap (a * 2 ^ Nat.min b.toNat k.bits))) else none
    | .shr => if 0 ≤ b then some (.int k (a.fdiv (2 ^ Nat.min b.toNat k.bits))) else none
    | _ => if k = k' then ibin op k a b else none
  | .str a, .str b => sbin op a b
  | _, _ => none
/-- '==' on one cell of a kind. -/
def eq1 : LK → AVal → AVal → Option Bool
  | .bool, .bool a, .bool b => some (a == b)
  | .int, .int k a, .int k' b => if k = k' then some (decide (a = b)) else none
  | .str, .str a, .str b => some (bytesEq a b)
  | .ptr, .ptr none, .ptr b => some b.isNone
  | .ptr, .ptr (some _), .ptr none => some false
  | .slice, .slice none _ _ _, .slice b _ _ _ => some b.isNone
  | .slice, .slice (some _) _ _ _, .slice none _ _ _ => some false
  | .map, .map none, .map b => some b.isNone
  | .map, .map (some _), .map none => some false
  | .func, .nilFunc, .nilFunc => some true
  | .func, .nilFunc, .func _ _ => some false
  | .func, .func _ _, .nilFunc => some false
  | .iface, .nilIface, .nilIface => some true
  | .iface, .nilIface, .iface _ _ => some false
  | .iface, .iface _ _, .nilIface => some false
  | .ifx, .nilIface, .iface _ _ => some false
  | .ifx, .iface _ _, .nilIface => some false
  | .ifx, .iface t _, .iface u _ => if t = u then none else some false
  | _, _, _ => none
def eqs : List LK → List AVal → List AVal → Option Bool
  | [], [], [] => some true
  | k :: ks, a :: x, b :: y => match eq1 k a b with
    | some true => eqs ks x y
    | some false => some false
    | none => none
  | _, _, _ => none
def aeq : KT → AVal → AVal → Option Bool
  | .one k, x, y => eq1 k x y
  | .agg ks, .agg x, .agg y => eqs ks x y
  | _, _, _ => none
def aun (op : UnOp) (x : AVal) : Option AVal :=
  match op, x with
  | .not, .bool b => some (.bool !b)
  | .neg, .int k n => some (.int k (wr k (0 - n)))
  | _, _ => none
def bytesIn : List AVal → Option (List Nat)
  | [] => some []
  | .int .u8 n :: r => (bytesIn r).map (n.toNat % 256 :: ·)
  | _ => none
def fillIn : List AVal → List (Nat × Nat × AVal) → Option (List AVal)
  | cells, [] => some cells
  | cells, (off, sz, v) :: rest => if v.isVal = true ∧ v.cells.length = sz ∧ off + sz ≤ cells.length then fillIn (splice cells off v.cells) rest else none
def reps : Nat → List AVal → List AVal
  | 0, _ => []
  | n + 1, z => z ++ reps n z
def bnd : Option AVal → Nat → Nat → Option Nat
  | none, d, _ => some d
  | some (.int _ n), _, top => if 0 ≤ n ∧ n ≤ top then some n.toNat else none
  | _, _, _ => none
def sliceB (len cap : Nat) (lo hi mx : Option AVal) : Option (Nat × Nat × Nat) :=
  (bnd mx cap cap).bind fun m => (bnd hi len m).bind fun h => (bnd lo 0 h).bind fun l => some (l, h, m)
def keyEq (t : KT) (x y : AVal) : Option Bool := match t with
  | .one .int => eq1 .int x y
  | .one .str => eq1 .str x y
  | .one .bool => eq1 .bool x y
  | .agg ks => aeq (.agg ks) x y
  | _ => none
def keyOk : KT → AVal → Bool
  | .one .int, .int _ _ => true
  | .one .str, .str _ => true
  | .one .bool, .bool _ => true
  | .agg ks, .agg xs => Nat.ble ks.length xs.length
  | _, _ => false
def findK (t : KT) (k : AVal) : List (AVal × AVal) → Option (Option AVal)
  | [] => some none
  | (k', v) :: r => match keyEq t k k' with
    | some true => some (some v)
    | some false => findK t k r
    | none => none
def putK (t : KT) (k v : AVal) : List (AVal × AVal) → Option (List (AVal × AVal))
  | [] => some [(k, v)]
  | (k', v') :: r => match keyEq t k k' with
    | some true => some ((k, v) :: r)
    | some false => (putK t k v r).map ((k', v') :: ·)
    | none => none
def delK (t : KT) (k : AVal) : List (AVal × AVal) → Option (List (AVal × AVal))
  | [] => some []
  | (k', v') :: r => match keyEq t k k' with
    | some true => some r
    | some false => (delK t k r).map ((k', v') :: ·)
    | none => none
def lenV : LK → AVal → AH → Option Nat
  | .str, .str s, _ => some s.length
  | .slice, .slice _ n _ _, _ => some n
  | .map, .map none, _ => some 0
  | .map, .map (some r), H => match H.get r with
    | some (.map es) => some es.length
    | _ => none
  | _, _, _ => none
def srcCells (sz : Nat) (H : AH) : AVal → Option (Nat × List AVal)
  | .slice (some a) n _ _ => (H.loadN a (n * sz)).map (n, ·)
  | .slice none n _ _ => if n = 0 then some (0, []) else none
  | .str s => if sz = 1 then some (s.length, s.map fun (b : Nat) => .int .u8 (b : Int)) else none
  | _ => none
def srcLen : AVal → Option Nat
  | .slice _ n _ _ => some n
  | .str s => some s.length
  | _ => none
def srcN (sz : Nat) (H : AH) (k : Nat) : AVal → Option (List AVal)
  | .slice (some a) _ _ _ => H.loadN a (k * sz)
  | .slice none _ _ _ => if k = 0 then some [] else none
  | .str s => if sz = 1 then some ((s.take k).map fun (b : Nat) => .int .u8 (b : Int)) else none
  | _ => none
/-- append: the row's own block is given up, a new block holds the whole. -/
def doApp (sz bytes : Nat) (H : AH) (s x : AVal) : Option (AVal × AH) :=
  match s, srcCells sz H x with
  | .slice none 0 _ _, some (n, cs) => if n = 0 then some (.slice none 0 0 0, H) else
      if n * bytes ≤ 140737488355328 then some (.slice (some (H.next, 0)) n n sz, H.alloc (.cells true cs)) else none
  | .slice (some a) len cap sz', some (n, cs) =>
    if (len + n) * bytes ≤ 140737488355328 ∧ sz' = sz then
      if cap = 0 then if n = 0 then some (s, H) else some (.slice (some (H.next, 0)) n n sz, H.alloc (.cells true cs))
      else match H.get a.1 with
        | some (.cells true vs) =>
          if a.2 + len * sz = vs.length ∧ cs.all AVal.isCell = true then
            some (.slice (some (H.next, 0)) (len + n) (Nat.max (len + n) cap) sz, (H.set a.1 .dead).alloc (.cells true (vs.drop a.2 ++ cs)))
          else if len + n ≤ cap then match H.storeN (a.1, a.2 + len * sz) cs with
            | some H' => some (.slice (some a) (len + n) cap sz, H')
            | none => none
          else none
        | _ => none
    else none
  | _, _ => none
def pairs (ρ : Rg) (l : List (Nat × Nat × AO)) : List (Nat × Nat × AVal) := l.map fun (o, s, x) => (o, s, x.ev ρ)

def evOp (ρ : Rg) (H : AH) : AOp → Option (AVal × AH)
  | .mv x => some (x.ev ρ, H)
  | .pick c a b => match c.ev ρ with
    | .bool true => some (a.ev ρ, H)
    | .bool false => some (b.ev ρ, H)
    | _ => none
  | .alloc z => some (.ptr (some (H.next, 0)), H.alloc (.cells true z))
  | .box n x => if (x.ev ρ).isVal = true ∧ (x.ev ρ).cells.length = n then some (.ptr (some (H.next, 0)), H.alloc (.cells true (x.ev ρ).cells)) else none
  | .build z ps => match fillIn z (pairs ρ ps) with
    | some cs => some (.agg cs, H)
    | none => none
  | .buildS z n sz ps => match fillIn (reps n z) (pairs ρ ps) with
    | some cs => some (.slice (some (H.next, 0)) n n sz, H.alloc (.cells true cs))
    | none => none
  | .load none a => match a.ev ρ with
    | .ptr (some p) => match H.load1 p with
      | some v => some (v, H)
      | none => none
    | _ => none
  | .load (some n) a => match a.ev ρ with
    | .ptr (some p) => match H.loadN p n with
      | some l => some (.agg l, H)
      | none => none
    | _ => none
  | .store n a x => match a.ev ρ with
    | .ptr (some p) => if (x.ev ρ).cells.length = n then match H.storeN p (x.ev ρ).cells with
        | some H' => some (und, H')
        | none => none
      else none
    | _ => none
  | .nilc x => match x.ev ρ with
    | .ptr (some p) => some (.ptr (some p), H)
    | .func g cs => some (.func g cs, H)
    | _ => none
  | .bin op x y => match abin op (x.ev ρ) (y.ev ρ) with
    | some v => some (v, H)
    | none => none
  | .eqv ne t x y => match aeq t (x.ev ρ) (y.ev ρ) with
    | some b => some (.bool (if ne then !b else b), H)
    | none => none
  | .un op x => match aun op (x.ev ρ) with
    | some v => some (v, H)
    | none => none
  | .convI k x => match x.ev ρ with
    | .int _ n => some (.int k (wr k n), H)
    | _ => none
  | .convBS x => match x.ev ρ with
    | .slice none _ _ _ => some (.str [], H)
    | .slice (some a) n _ _ => match H.loadN a n with
      | some cs => match bytesIn cs with
        | some l => some (.str l, H)
        | none => none
      | none => none
    | _ => none
  | .convSS x => match x.ev ρ with
    | .str s => some (.str s, H)
    | _ => none
  | .convSB x => match x.ev ρ with
    | .str s => if s.length = 0 then none else some (.slice (some (H.next, 0)) s.length s.length 1, H.alloc (.cells true (s.map fun (b : Nat) => .int .u8 (b : Int))))
    | _ => none
  | .mkI t x => some (.iface t (x.ev ρ), H)
  | .mkF f cs => some (.func (.func f) (cs.map (·.ev ρ)), H)
  | .mkM => some (.map (some H.next), H.alloc (.map []))
  | .mkS z bytes l c => match l.ev ρ, c.ev ρ with
    | .int .i64 n, .int .i64 m => if 0 ≤ n ∧ n ≤ m ∧ m * bytes ≤ 140737488355328 then
        some (.slice (some (H.next, 0)) n.toNat m.toNat z.length, H.alloc (.cells true (reps m.toNat z))) else none
    | _, _ => none
  | .sl sz x lo hi mx => match x.ev ρ with
    | .slice a len cap sz' => match sliceB len cap (lo.map (·.ev ρ)) (hi.map (·.ev ρ)) (mx.map (·.ev ρ)) with
      | some (l, h, m) => if m = l ∧ cap ≠ 0 ∧ mx.isNone = true ∨ a.isSome = true ∧ sz' ≠ sz then none else some (.slice (if m = l then a else a.map fun p => (p.1, p.2 + l * sz)) (h - l) (m - l) sz', H)
      | none => none
    | _ => none
  | .slStr x lo hi => match x.ev ρ with
    | .str s => match sliceB s.length s.length (lo.map (·.ev ρ)) (hi.map (·.ev ρ)) none with
      | some (l, h, _) => some (.str ((s.drop l).take (h - l)), H)
      | none => none
    | _ => none
  | .slArr n sz x lo hi mx => match x.ev ρ with
    | .ptr (some p) => match sliceB n n (lo.map (·.ev ρ)) (hi.map (·.ev ρ)) (mx.map (·.ev ρ)) with
      | some (l, h, m) => match H.get p.1 with
        | some (.cells _ vs) => if p.2 + n * sz ≤ vs.length then some (.slice (some (if m = l then p else (p.1, p.2 + l * sz))) (h - l) (m - l) sz, H) else none
        | _ => none
      | none => none
    | _ => none
  | .fa off x => match x.ev ρ with
    | .ptr (some p) => some (.ptr (some (p.1, p.2 + off)), H)
    | _ => none
  | .ia sz x i => match x.ev ρ, i.ev ρ with
    | .slice (some p) len _ _, .int _ n => if 0 ≤ n ∧ n < len then some (.ptr (some (p.1, p.2 + n.toNat * sz)), H) else none
    | _, _ => none
  | .iaArr m sz x i => match x.ev ρ, i.ev ρ with
    | .ptr (some p), .int _ n => if 0 ≤ n ∧ n < m then some (.ptr (some (p.1, p.2 + n.toNat * sz)), H) else none
    | _, _ => none
  | .idxStr x i => match x.ev ρ, i.ev ρ with
    | .str s, .int _ n => if 0 ≤ n then match s[n.toNat]? with
        | some b => some (.int .u8 b, H)
        | none => none
      else none
    | _, _ => none
  | .idxArr m sz one x i => match x.ev ρ, i.ev ρ with
    | .agg cs, .int _ n => if 0 ≤ n ∧ n < m then
        if one then match cs[n.toNat * sz]? with
          | some v => some (v, H)
          | none => none
        else some (.agg ((cs.drop (n.toNat * sz)).take sz), H)
      else none
    | _, _ => none
  | .fld off n x => match x.ev ρ with
    | .agg cs => match n with
      | none => match cs[off]? with
        | some v => some (v, H)
        | none => none
      | some n => if off + n ≤ cs.length then some (.agg ((cs.drop off).take n), H) else none
    | _ => none
  | .lk t z ok m k => if keyOk t (k.ev ρ) = false then none else match m.ev ρ with
    | .map none => some (if ok then .tup [z, .bool false] else z, H)
    | .map (some r) => match H.get r with
      | some (.map es) => match findK t (k.ev ρ) es with
        | some (some v) => some (if ok then .tup [v, .bool true] else v, H)
        | some none => some (if ok then .tup [z, .bool false] else z, H)
        | none => none
      | _ => none
    | _ => none
  | .mu t m k v => if keyOk t (k.ev ρ) = false then none else match m.ev ρ with
    | .map (some r) => match H.get r with
      | some (.map es) => match putK t (k.ev ρ) (v.ev ρ) es with
        | some es' => some (und, H.set r (.map es'))
        | none => none
      | _ => none
    | _ => none
  | .del t m k => if keyOk t (k.ev ρ) = false then none else match m.ev ρ with
    | .map none => some (und, H)
    | .map (some r) => match H.get r with
      | some (.map es) => match delK t (k.ev ρ) es with
        | some es' => some (und, H.set r (.map es'))
        | none => none
      | _ => none
    | _ => none
  | .ta t z ok x => match x.ev ρ with
    | .iface u v => if u = t then some (if ok then .tup [v, .bool true] else v, H) else if ok then some (.tup [z, .bool false], H) else none
    | .nilIface => if ok then some (.tup [z, .bool false], H) else none
    | _ => none
  | .ext x i => match x.ev ρ with
    | .tup vs => match vs[i]? with
      | some v => some (v, H)
      | none => none
    | _ => none
  | .len k x => match lenV k (x.ev ρ) H with
    | some n => some (.int .i64 n, H)
    | none => none
  | .lenArr n => some (.int .i64 n, H)
  | .app sz bytes s x => doApp sz bytes H (s.ev ρ) (x.ev ρ)
  | .min [x, y] => match x.ev ρ, y.ev ρ with
    | .int k a, .int _ b => some (.int k (if b < a then b else a), H)
    | _, _ => none
  | .max [x, y] => match x.ev ρ, y.ev ρ with
    | .int k a, .int _ b => some (.int k (if a < b then b else a), H)
    | _, _ => none
  | .clr z x => match x.ev ρ with
    | .slice (some a) n _ _ => if n = 0 then some (.tup [], H) else match H.storeN a (reps n z) with
      | some H' => some (.tup [], H')
      | none => none
    | .slice none _ _ _ => some (.tup [], H)
    | _ => none
  | .cpy sz d s => match d.ev ρ, srcLen (s.ev ρ) with
    | .slice (some a) dn _ _, some sn => match srcN sz H (Nat.min sn dn) (s.ev ρ) with
      | some cs => match H.storeN a cs with
        | some H' => some (.int .i64 (Nat.min sn dn), H')
        | none => none
      | none => none
    | _, _ => none
  | _ => none

/-! ### Code -/
inductive AEx where
  | nrm
  | exit (id : Nat)
  | goto (l : Nat)
  | ret
  | pan (v : AVal)

abbrev Post := AEx → Rg → AH → Prop
/-- What calls come to: a value, or a panic. -/
abbrev CallSem := AFn → List AVal → AH → (AVal → AH → Prop) → (AVal → AH → Prop) → Prop

def put (ρ : Rg) (d : Option Nat) (v : AVal) : Rg := match d with
  | some t => ρ.set t v
  | none => ρ
def wants (ρ : Rg) : Option (Nat × Bool) → Option Bool
  | none => some true
  | some (t, b) => match ρ.at t with
    | .bool c => some (c == b)
    | .nul => some false
    | _ => none

/-- What one operation comes to, without its guard. -/
def EvV (C : CallSem) (op : AOp) (ρ : Rg) (H : AH) (K Pn : AVal → AH → Prop) : Prop :=
  match op with
  | .call f args => match f.ev ρ with
    | .func (.func g) caps => C (.func g) (args.map (·.ev ρ) ++ caps) H K Pn
    | .func (.yield l) [] => C (.yield l) (args.map (·.ev ρ)) H K Pn
    | _ => False
  | .panic x => match x.ev ρ with
    | .iface t v => Pn (.iface t v) H
    | _ => False
  | .again op t => match evOp ρ H op with
    | some (v, _) => ρ.get t = some v ∧ K und H
    | none => False
  | op => match evOp ρ H op with
    | some (v, H') => K v H'
    | none => False
def EvOps (C : CallSem) : List AOper → Rg → AH → Post → Prop
  | [], ρ, H, Q => Q .nrm ρ H
  | o :: rest, ρ, H, Q =>
    match wants ρ o.guard with
    | none => False
    | some false => EvOps C rest (put ρ o.dst .nul) H Q
    | some true => EvV C o.op ρ H (fun v H' => EvOps C rest (put ρ o.dst v) H' Q) (fun v H' => Q (.pan v) ρ H')

def EvAlts (C : CallSem) : List (List AOper) → Rg → AH → Post → Prop
  | [], _, _, _ => False
  | [l], ρ, H, Q => EvOps C l ρ H Q
  | l :: r, ρ, H, Q => EvOps C l ρ H Q ∧ EvAlts C r ρ H Q

def Post.then (K : Rg → AH → Prop) (Q : Post) : Post
  | .nrm, ρ, H => K ρ H
  | e, ρ, H => Q e ρ H
def Post.inBlock (id : Nat) (Q : Post) : Post
  | .exit i, ρ, H => if i = id then Q .nrm ρ H else Q (.exit i) ρ H
  | e, ρ, H => Q e ρ H
def findL : ACode → Nat → Option ACode
  | .seq a b, l => match findL a l with
    | some r => some (.seq r b)
    | none => findL b l
  | .label l', l => if l' = l then some .skip else none
  | _, _ => none
def jumpOf : AEx → Option (Option ACode)
  | .nrm => some none
  | .exit id => some (some (.exit id))
  | .goto l => some (some (.goto l))
  | .ret => some (some .ret)
  | .pan _ => none
def jumpTo : ACode → Option AEx
  | .exit id => some (.exit id)
  | .goto l => some (.goto l)
  | .ret => some .ret
  | _ => none
def resOf (H : AH) (ρ : Rg) : ARes → Option AVal
  | .tmp t => some (ρ.at t)
  | .cell a none => match ρ.at a with
    | .ptr (some p) => H.load1 p
    | _ => none
  | .cell a (some n) => match ρ.at a with
    | .ptr (some p) => (H.loadN p n).map .agg
    | _ => none
def resAll (H : AH) (ρ : Rg) : List ARes → Option (List AVal)
  | [] => some []
  | r :: rs => match resOf H ρ r, resAll H ρ rs with
    | some v, some vs => some (v :: vs)
    | _, _ => none
def resVal (H : AH) (ρ : Rg) (rs : List ARes) : Option AVal :=
  match resAll H ρ rs with
  | some [v] => some v
  | some vs => some (.tup vs)
  | none => none
def setAll : Rg → List Nat → List AVal → Rg
  | ρ, t :: ts, v :: vs => setAll (ρ.set t v) ts vs
  | ρ, _, _ => ρ
def entry : Rg → Nat → List AVal → Rg
  | ρ, _, [] => ρ
  | ρ, i, v :: vs => entry (ρ.set i v) (i + 1) vs

/-- A function: its text, or (where it has none) what it answers. -/
inductive AEnt where
  | fn (f : AFunc)
  | ext (g : List AVal → AH → Option (AVal × AH))
abbrev FTab := Nat → Option AEnt
def idxB (c : Nat) : List Nat → Nat → Int
  | [], _ => -1
  | b :: r, i => if Nat.beq b c then (i : Int) else idxB c r (i + 1)
def extIndexByte : List AVal → AH → Option (AVal × AH)
  | [.str s, .int .u8 c], H => match Nat.blt c.toNat 256 with
    | true => some (.int .i64 (idxB c.toNat s 0), H)
    | false => none
  | _, _ => none
abbrev Sems := ACode → Rg → AH → Post → Prop

/-- What a call comes to, over what code comes to. -/
def EvCall (T : FTab) (E : Sems) (g : AFn) (args : List AVal) (H : AH) (Q P : AVal → AH → Prop) : Prop :=
  match g with
  | .func f => match T f with
    | some (.ext g) => (match g args H with
      | some (v, H') => Q v H'
      | none => False)
    | some (.fn fn) => if Nat.ble args.length fn.ntmps = true then E fn.body (entry .e 0 args) H fun e ρ H' => match e with
      | .nrm => (match resVal H' ρ fn.results with
        | some v => Q v H'
        | none => False)
      | .ret => (match resVal H' ρ fn.results with
        | some v => Q v H'
        | none => False)
      | .pan v => P v H'
      | _ => False
      else False
    | none => False
  | .yield l => match H.get l with
    | some (.loop .ready _ ρ0 ps asg body) =>
      if args.length = ps.length then
        E asg (setAll ρ0 ps args) H fun e ρ1 H1 => match e, H1.get l with
          | .nrm, some (.loop .ready p1 ρ1' ps1 a1 b1) => E body ρ1 (H1.set l (.loop .busy p1 ρ1' ps1 a1 b1)) fun e _ H2 => match e, H2.get l with
            | .pan v, _ => P v H2
            | e, some (.loop .busy _ ρ2' ps2 a2 b2) => (match jumpOf e with
              | some none => Q (.bool true) (H2.set l (.loop .ready none ρ2' ps2 a2 b2))
              | some (some j) => Q (.bool false) (H2.set l (.loop .done (some j) ρ2' ps2 a2 b2))
              | none => False)
            | _, _ => False
          | _, _ => False
      else False
    | _ => False

/-- What a piece of code comes to, with so much fuel: fuel bounds the depth, not the steps. -/
def Ev (T : FTab) : Nat → Sems
  | 0, _, _, _, _ => False
  | n + 1, c, ρ, H, Q =>
    match c with
    | .skip => Q .nrm ρ H
    | .label _ => Q .nrm ρ H
    | .exit id => Q (.exit id) ρ H
    | .goto l => Q (.goto l) ρ H
    | .ret => Q .ret ρ H
    | .region ops => EvOps (EvCall T (Ev T n)) ops ρ H Q
    | .alts l => EvAlts (EvCall T (Ev T n)) l ρ H Q
    | .seq a b => Ev T n a ρ H (Post.then (fun ρ' H' => Ev T n b ρ' H' Q) Q)
    | .cond x a b => match x.ev ρ with
      | .bool true => Ev T n a ρ H Q
      | .bool false => Ev T n b ρ H Q
      | _ => False
    | .block id b => Ev T n b ρ H (Post.inBlock id Q)
    | .loop b => Ev T n b ρ H (Post.then (fun ρ' H' => Ev T n (.loop b) ρ' H' Q) Q)
    | .scope b cur => Ev T n cur ρ H fun e ρ' H' => match e with
      | .goto l => (match findL b l with
        | some r => Ev T n (.scope b r) ρ' H' Q
        | none => Q (.goto l) ρ' H')
      | e => Q e ρ' H'
    | .rangeFunc f ps asg body => match f.ev ρ with
      | .func (.func g) caps => EvCall T (Ev T n) (.func g) (.func (.yield H.next) [] :: caps) (H.alloc (.loop .ready none ρ ps asg body))
          (fun _ H2 => match H2.get H.next with
            | some (.loop .busy _ _ _ _ _) => False
            | some (.loop _ none _ _ _ _) => Q .nrm ρ (H2.set H.next .dead)
            | some (.loop _ (some j) _ _ _ _) => (match jumpTo j with
              | some e => Q e ρ (H2.set H.next .dead)
              | none => False)
            | _ => False)
          (fun v H2 => Q (.pan v) ρ H2)
      | _ => False

/-- What a call of a function comes to. -/
def Comes (T : FTab) (f : Nat) (args : List AVal) (H : AH) (Q : AVal → AH → Prop) : Prop :=
  ∃ n, EvCall T (Ev T n) (.func f) args H Q (fun _ _ => False)
end Rst
/- The relation between the abstract machine's values and heap and those of the model, and what it is kept by. -/
set_option linter.unusedVariables false
namespace Rst
open Go

/-! ### The finite map -/
theorem Tr.get_setF {α : Type} : ∀ (f : Nat) (t : Tr α) (i : Nat) (b : α) (j : Nat), i < f → (Tr.setF f t i b).get j = if j = i then some b else t.get j := by
  intro f
  induction f with
  | zero => intro t i b j h; omega
  | succ f ih =>
    intro t i b j h
    cases i with
    | zero =>
      cases t with
      | e => cases j <;> simp [Tr.setF, Tr.get]
      | n v l r => cases j <;> simp [Tr.setF, Tr.get]
    | succ i =>
      have hi : i / 2 < f := by omega
      cases t with
      | e =>
        cases j with
        | zero => simp only [Tr.setF]; split <;> simp [Tr.get]
        | succ j =>
          simp only [Tr.setF]
          by_cases hp : Nat.beq (i % 2) 0 = true
          · rw [if_pos hp]
            simp only [Tr.get]
            by_cases hq : Nat.beq (j % 2) 0 = true
            · rw [if_pos hq, ih _ _ _ _ hi]
              have h1 := Nat.eq_of_beq_eq_true hp
              have h2 := Nat.eq_of_beq_eq_true hq
              by_cases e : j = i
              · subst e; simp
              · rw [if_neg (by omega), if_neg (by omega)]; rfl
            · rw [if_neg hq]
              have h1 := Nat.eq_of_beq_eq_true hp
              have h2 : j % 2 ≠ 0 := fun e => hq (by rw [e]; rfl)
              rw [if_neg (by omega)]
          · rw [if_neg hp]
            simp only [Tr.get]
            have h1 : i % 2 ≠ 0 := fun e => hp (by rw [e]; rfl)
            by_cases hq : Nat.beq (j % 2) 0 = true
            · rw [if_pos hq]
              have h2 := Nat.eq_of_beq_eq_true hq
              rw [if_neg (by omega)]
            · rw [if_neg hq, ih _ _ _ _ hi]
              have h2 : j % 2 ≠ 0 := fun e => hq (by rw [e]; rfl)
              by_cases e : j = i
              · subst e; simp
              · rw [if_neg (by omega), if_neg (by omega)]; rfl
      | n v l r =>
        cases j with
        | zero => simp only [Tr.setF]; split <;> simp [Tr.get]
        | succ j =>
          simp only [Tr.setF]
          by_cases hp : Nat.beq (i % 2) 0 = true
          · rw [if_pos hp]
            simp only [Tr.get]
            by_cases hq : Nat.beq (j % 2) 0 = true
            · rw [if_pos hq, if_pos hq, ih _ _ _ _ hi]
              have h1 := Nat.eq_of_beq_eq_true hp
              have h2 := Nat.eq_of_beq_eq_true hq
              by_cases e : j = i
              · subst e; simp
              · rw [if_neg (by omega), if_neg (by omega)]
            · rw [if_neg hq, if_neg hq]
              have h1 := Nat.eq_of_beq_eq_true hp
              have h2 : j % 2 ≠ 0 := fun e => hq (by rw [e]; rfl)
              rw [if_neg (by omega)]
          · rw [if_neg hp]
            simp only [Tr.get]
            have h1 : i % 2 ≠ 0 := fun e => hp (by rw [e]; rfl)
            by_cases hq : Nat.beq (j % 2) 0 = true
            · rw [if_pos hq, if_pos hq]
              have h2 := Nat.eq_of_beq_eq_true hq
              rw [if_neg (by omega)]
            · rw [if_neg hq, if_neg hq, ih _ _ _ _ hi]
              have h2 : j % 2 ≠ 0 := fun e => hq (by rw [e]; rfl)
              by_cases e : j = i
              · subst e; simp
              · rw [if_neg (by omega), if_neg (by omega)]
theorem Tr.get_set {α : Type} (t : Tr α) (i : Nat) (b : α) (j : Nat) : (t.set i b).get j = if j = i then some b else t.get j :=
  Tr.get_setF _ _ _ _ _ (Nat.lt_succ_self _)
theorem Tr.at_set (ρ : Rg) (i : Nat) (v : AVal) (j : Nat) : (ρ.set i v).at j = if j = i then v else ρ.at j := by
  unfold Tr.at
  rw [Tr.get_set]
  split <;> rename_i h <;> split at h <;> simp_all
theorem AH.get_alloc (H : AH) (o : ABlk) (b : Nat) : (H.alloc o).get b = if b = H.next then some o else H.get b := Tr.get_set _ _ _ _
theorem AH.get_set (H : AH) (i : Nat) (o : ABlk) (b : Nat) : (H.set i o).get b = if b = i then some o else H.get b := Tr.get_set _ _ _ _

/-! ### Values -/
/-- Where a block lies: the model's block, the offset in it, that block's size. -/
abbrev Inj := Nat → Option (Nat × Nat × Nat)
def Inj.le (ι κ : Inj) : Prop := ∀ b p, ι b = some p → κ b = some p
theorem Inj.le.refl (ι : Inj) : ι.le ι := fun _ _ h => h
theorem Inj.le.trans {ι κ μ : Inj} (h : ι.le κ) (k : κ.le μ) : ι.le μ := fun b p e => k b p (h b p e)

inductive FRel (ι : Inj) : AFn → Fn → Prop where
  | func (f : Nat) : FRel ι (.func f) (.func f)
  | yield (l g N : Nat) : ι l = some (g, 0, N) → FRel ι (.yield l) (.yield g)

mutual
inductive VRel (ι : Inj) : AVal → Value → Prop where
  | und (v : Value) : VRel ι (.tup []) v
  | bool (b : Bool) : VRel ι (.bool b) (.bool b)
  | int (k : IntKind) (n : Int) : VRel ι (.int k n) (.int k n)
  | str (l : List Nat) (s : ByteArray) : s.data.toList.map (·.toNat) = l → VRel ι (.str l) (.string s)
  | ptrN : VRel ι (.ptr none) (.pointer none)
  | ptr (b i g o N : Nat) : ι b = some (g, o, N) → VRel ι (.ptr (some (b, i))) (.pointer (some ⟨g, o + i, none⟩))
  | sliceN (sz : Nat) : VRel ι (.slice none 0 0 sz) (.slice none 0 0)
  | slice (b i g o N len cap cap' sz : Nat) : ι b = some (g, o, N) → len ≤ cap → cap ≤ cap' → (cap = 0 → cap' = 0) → o + i + cap' * sz ≤ N → VRel ι (.slice (some (b, i)) len cap sz) (.slice (some ⟨g, o + i, none⟩) len cap')
  | mapN : VRel ι (.map none) (.map none)
  | map (b g N : Nat) : ι b = some (g, 0, N) → VRel ι (.map (some b)) (.map (some g))
  | func (fn : AFn) (fn' : Fn) (cs : List AVal) (cs' : List Value) : FRel ι fn fn' → VsRel ι cs cs' → VRel ι (.func fn cs) (.func fn' #[] cs'.toArray)
  | nilFunc : VRel ι .nilFunc .nilFunc
  | iface (t : Nat) (v : AVal) (v' : Value) : VRel ι v v' → VRel ι (.iface t v) (.iface t v')
  | nilIface : VRel ι .nilIface .nilIface
  | agg (cs : List AVal) (cs' : List Value) : VsRel ι cs cs' → VRel ι (.agg cs) (.agg cs'.toArray)
  | tup (vs : List AVal) (vs' : List Value) : VsRel ι vs vs' → VRel ι (.tup vs) (.tuple vs'.toArray)
  | nul : VRel ι .nul (.tuple #[])
inductive VsRel (ι : Inj) : List AVal → List Value → Prop where
  | nil : VsRel ι [] []
  | cons (v : AVal) (v' : Value) (vs : List AVal) (vs' : List Value) : VRel ι v v' → VsRel ι vs vs' → VsRel ι (v :: vs) (v' :: vs')
end

theorem FRel.mono {ι κ : Inj} (h : ι.le κ) {f : AFn} {g : Fn} (r : FRel ι f g) : FRel κ f g := by
  cases r with
  | func f => exact .func f
  | yield l g N e => exact .yield l g N (h _ _ e)
mutual
theorem VRel.mono {ι κ : Inj} (h : ι.le κ) : ∀ {v : AVal} {v' : Value}, VRel ι v v' → VRel κ v v'
  | _, _, .und v => .und v
  | _, _, .bool b => .bool b
  | _, _, .int k n => .int k n
  | _, _, .str l s e => .str l s e
  | _, _, .ptrN => .ptrN
  | _, _, .ptr b i g o N e => .ptr b i g o N (h _ _ e)
  | _, _, .sliceN sz => .sliceN sz
  | _, _, .slice b i g o N len cap cap' sz e h1 h2 h3 h4 => .slice b i g o N len cap cap' sz (h _ _ e) h1 h2 h3 h4
  | _, _, .mapN => .mapN
  | _, _, .map b g N e => .map b g N (h _ _ e)
  | _, _, .func fn fn' cs cs' r rs => .func fn fn' cs cs' (r.mono h) (VsRel.mono h rs)
  | _, _, .nilFunc => .nilFunc
  | _, _, .iface t v v' r => .iface t v v' (VRel.mono h r)
  | _, _, .nilIface => .nilIface
  | _, _, .agg cs cs' rs => .agg cs cs' (VsRel.mono h rs)
  | _, _, .tup vs vs' rs => .tup vs vs' (VsRel.mono h rs)
  | _, _, .nul => .nul
theorem VsRel.mono {ι κ : Inj} (h : ι.le κ) : ∀ {vs : List AVal} {vs' : List Value}, VsRel ι vs vs' → VsRel κ vs vs'
  | _, _, .nil => .nil
  | _, _, .cons v v' vs vs' r rs => .cons v v' vs vs' (VRel.mono h r) (VsRel.mono h rs)
end
theorem VsRel.length {ι : Inj} : ∀ {vs : List AVal} {vs' : List Value}, VsRel ι vs vs' → vs.length = vs'.length
  | _, _, .nil => rfl
  | _, _, .cons _ _ _ _ _ rs => by simp [VsRel.length rs]
theorem VsRel.get {ι : Inj} : ∀ {vs : List AVal} {vs' : List Value}, VsRel ι vs vs' → ∀ (i : Nat) (v : AVal), vs[i]? = some v → ∃ v', vs'[i]? = some v' ∧ VRel ι v v'
  | _, _, .nil, i, v, h => by simp at h
  | _, _, .cons v0 v0' vs vs' r rs, 0, v, h => by simp at h; subst h; exact ⟨v0', rfl, r⟩
  | _, _, .cons v0 v0' vs vs' r rs, i + 1, v, h => by
    simp at h
    obtain ⟨v', h1, h2⟩ := VsRel.get rs i v h
    exact ⟨v', by simpa using h1, h2⟩
theorem VsRel.append {ι : Inj} : ∀ {xs ys : List AVal} {xs' ys' : List Value}, VsRel ι xs xs' → VsRel ι ys ys' → VsRel ι (xs ++ ys) (xs' ++ ys')
  | _, _, _, _, .nil, h => h
  | _, _, _, _, .cons v v' vs vs' r rs, h => .cons _ _ _ _ r (VsRel.append rs h)
theorem VsRel.take {ι : Inj} : ∀ {xs : List AVal} {xs' : List Value}, VsRel ι xs xs' → ∀ n, VsRel ι (xs.take n) (xs'.take n)
  | _, _, .nil, n => by simp; exact .nil
  | _, _, .cons v v' vs vs' r rs, 0 => by simp; exact .nil
  | _, _, .cons v v' vs vs' r rs, n + 1 => by simp; exact .cons _ _ _ _ r (VsRel.take rs n)
theorem VsRel.drop {ι : Inj} : ∀ {xs : List AVal} {xs' : List Value}, VsRel ι xs xs' → ∀ n, VsRel ι (xs.drop n) (xs'.drop n)
  | _, _, .nil, n => by simp; exact .nil
  | _, _, .cons v v' vs vs' r rs, 0 => by simp; exact .cons _ _ _ _ r rs
  | _, _, .cons v v' vs vs' r rs, n + 1 => by simp; exact VsRel.drop rs n
theorem VsRel.of_get {ι : Inj} : ∀ {vs : List AVal} {vs' : List Value}, vs.length = vs'.length → (∀ (i : Nat) (v : AVal), vs[i]? = some v → ∃ v', vs'[i]? = some v' ∧ VRel ι v v') → VsRel ι vs vs'
  | [], [], _, _ => .nil
  | v :: vs, v' :: vs', hl, h => by
    refine .cons _ _ _ _ ?_ (VsRel.of_get (by simpa using hl) fun i u hu => ?_)
    · obtain ⟨u, h1, h2⟩ := h 0 v rfl
      simp at h1; subst h1; exact h2
    · obtain ⟨u', h1, h2⟩ := h (i + 1) u (by simpa using hu)
      exact ⟨u', by simpa using h1, h2⟩
  | [], _ :: _, hl, _ => by simp at hl
  | _ :: _, [], hl, _ => by simp at hl
theorem splice_length (vs : List AVal) (off : Nat) (xs : List AVal) (h : off + xs.length ≤ vs.length) : (splice vs off xs).length = vs.length := by
  simp [splice]; omega
def spliceV (vs : List Value) (off : Nat) (xs : List Value) : List Value := vs.take off ++ xs ++ vs.drop (off + xs.length)
theorem VsRel.splice {ι : Inj} {vs xs : List AVal} {vs' xs' : List Value} (h : VsRel ι vs vs') (k : VsRel ι xs xs') (off : Nat) : VsRel ι (Rst.splice vs off xs) (spliceV vs' off xs') := by
  unfold Rst.splice spliceV
  rw [k.length]
  exact ((h.take off).append k).append (h.drop _)

/-- The cells of a value. -/
theorem VRel.cells {ι : Inj} {v : AVal} {v' : Value} (h : VRel ι v v') (hu : v ≠ .tup []) : VsRel ι v.cells v'.cells.toList := by
  cases h <;> first | (exact absurd rfl hu) | skip
  case agg cs cs' rs => simpa [AVal.cells, Value.cells] using rs
  all_goals (simp only [AVal.cells, Value.cells]; exact .cons _ _ _ _ (by constructor <;> assumption) .nil)
end Rst
/- The relation between the abstract heap and the model's world, and what the heap's own steps do to it. -/
set_option linter.unusedVariables false
namespace Rst
open Go

/-- A relation between the model's code (with so many slots) and the abstract machine's. -/
abbrev CodeRel := Nat → Code → ACode → Prop

def RRel (ι : Inj) (n : Nat) (ρ : Rg) (tmps : Array Value) : Prop :=
  tmps.size = n ∧ ∀ t v, ρ.get t = some v → VRel ι v (tmps.getD t undef)

inductive SRel : LState → LoopState → Prop where
  | ready : SRel .ready .ready
  | busy : SRel .busy .busy
  | done : SRel .done .done
  | exhausted : SRel .exhausted .exhausted

inductive ERel (ι : Inj) : List (AVal × AVal) → List MapEntry → Prop where
  | nil : ERel ι [] []
  | cons (k v : AVal) (e : MapEntry) (es : List (AVal × AVal)) (es' : List MapEntry) : VRel ι k e.key → VRel ι v e.val → ERel ι es es' → ERel ι ((k, v) :: es) (e :: es')

def PRel (CR : CodeRel) (n : Nat) : Option ACode → Option Code → Prop
  | none, none => True
  | some a, some c => CR n c a
  | _, _ => False

structure LRel (CR : CodeRel) (ι : Inj) (st : LState) (pend : Option ACode) (ρ : Rg) (ps : List Nat) (asg body : ACode) (L : Loop) : Prop where
  state : SRel st L.state
  pend : PRel CR L.tmps.size pend L.pending
  regs : RRel ι L.tmps.size ρ L.tmps
  params : L.params.toList = ps
  bound : ∀ p ∈ ps, p < L.tmps.size
  assign : CR L.tmps.size L.assign asg
  body : CR L.tmps.size L.body body

inductive BRel (CR : CodeRel) (ι : Inj) : ABlk → Nat → Nat → Obj → Prop where
  | cells (own : Bool) (vs : List AVal) (o : Nat) (C : Array Value) (T : TypeId) (fz : Nat × Nat) :
    (∀ i v, vs[i]? = some v → ∃ v', C[o + i]? = some v' ∧ VRel ι v v') → (own = true → ∀ j, j < C.size → ¬ (fz.1 ≤ j ∧ j < fz.2)) → o + vs.length ≤ C.size → BRel CR ι (.cells own vs) o C.size (.cells C T fz)
  | map (es : List (AVal × AVal)) (es' : Array MapEntry) (clock : Nat) : ERel ι es es'.toList → BRel CR ι (.map es) 0 0 (.map es' clock)
  | loop (st : LState) (pend : Option ACode) (ρ : Rg) (ps : List Nat) (asg body : ACode) (L : Loop) : LRel CR ι st pend ρ ps asg body L → BRel CR ι (.loop st pend ρ ps asg body) 0 0 (.loop L)

def ABlk.live : ABlk → Bool
  | .dead => false
  | _ => true
def ABlk.owned : ABlk → Bool
  | .dead => false
  | .cells own _ => own
  | _ => true

theorem RRel.mono {ι κ : Inj} (h : ι.le κ) {n : Nat} {ρ : Rg} {t : Array Value} (r : RRel ι n ρ t) : RRel κ n ρ t :=
  ⟨r.1, fun i v e => (r.2 i v e).mono h⟩
theorem ERel.mono {ι κ : Inj} (h : ι.le κ) {es : List (AVal × AVal)} {es' : List MapEntry} (r : ERel ι es es') : ERel κ es es' := by
  induction r with
  | nil => exact .nil
  | cons k v e es es' hk hv _ ih => exact .cons k v e es es' (hk.mono h) (hv.mono h) ih
theorem BRel.mono {CR : CodeRel} {ι κ : Inj} (h : ι.le κ) {b : ABlk} {o N : Nat} {x : Obj} (r : BRel CR ι b o N x) : BRel CR κ b o N x := by
  cases r with
  | cells own vs o C T fz h1 h2 h3 => exact .cells own vs o C T fz (fun i v e => let ⟨v', a, b⟩ := h1 i v e; ⟨v', a, b.mono h⟩) h2 h3
  | map es es' clock hr => exact .map es es' clock (hr.mono h)
  | loop st pend ρ ps asg body L hl => exact .loop st pend ρ ps asg body L ⟨hl.state, hl.pend, hl.regs.mono h, hl.params, hl.bound, hl.assign, hl.body⟩

structure Rel (CR : CodeRel) (F : Nat → Option Obj) (w0 : World) (ι : Inj) (H : AH) (w : World) : Prop where
  os : w.os = w0.os
  tape : w.tape = w0.tape
  output : w.output = w0.output
  size : w0.heap.size ≤ w.heap.size
  frame : ∀ r o, F r = some o → w.heap[r]? = some o
  dom : ∀ b p, ι b = some p → b < H.next
  blk : ∀ b o, H.get b = some o → o.live = true → ∃ g off N x, ι b = some (g, off, N) ∧ w.heap[g]? = some x ∧ BRel CR ι o off N x
  sep : ∀ b o g off, H.get b = some o → o.owned = true → ι b = some (g, off) → F g = none ∧ ∀ b' o' p, H.get b' = some o' → o'.live = true → b' ≠ b → ι b' = some p → p.1 ≠ g

def Inj.upd (ι : Inj) (b : Nat) (p : Nat × Nat × Nat) : Inj := fun x => if x = b then some p else ι x

section
variable {CR : CodeRel} {F : Nat → Option Obj} {w0 : World} {ι : Inj} {H : AH} {w : World}

theorem Rel.none_next (R : Rel CR F w0 ι H w) : ι H.next = none := by
  cases h : ι H.next with
  | none => rfl
  | some p => exact absurd (R.dom _ _ h) (Nat.lt_irrefl _)
theorem Rel.get_lt (R : Rel CR F w0 ι H w) {b : Nat} {o : ABlk} (h : H.get b = some o) (hl : o.live = true) : b < H.next := by
  obtain ⟨g, off, N, x, e, _⟩ := R.blk b o h hl
  exact R.dom _ _ e
theorem Rel.le_upd (R : Rel CR F w0 ι H w) (p : Nat × Nat × Nat) : ι.le (ι.upd H.next p) := by
  intro b q e
  unfold Inj.upd
  rw [if_neg (Nat.ne_of_lt (R.dom _ _ e))]
  exact e
theorem upd_same (ι : Inj) (b : Nat) (p : Nat × Nat × Nat) : ι.upd b p b = some p := by simp [Inj.upd]

theorem Rel.drew (R : Rel CR F w0 ι H w) : Rel CR F w0 ι H w.drew :=
  ⟨R.os, R.tape, R.output, R.size, R.frame, R.dom, R.blk, R.sep⟩

theorem heap_lt {w : World} {g : Nat} {x : Obj} (h : w.heap[g]? = some x) : g < w.heap.size := (Array.getElem?_eq_some_iff.1 h).1
theorem heap_push {w : World} {g : Nat} {x o : Obj} (h : w.heap[g]? = some x) : (w.alloc o).heap[g]? = some x := by
  have := heap_lt h
  simp only [World.alloc, Array.getElem?_push]
  rw [if_neg (Nat.ne_of_lt this)]
  exact h
theorem heap_new (w : World) (o : Obj) : (w.alloc o).heap[w.heap.size]? = some o := by
  show (w.heap.push o)[w.heap.size]? = some o
  simp

/-- A new block on both sides. -/
theorem Rel.alloc (R : Rel CR F w0 ι H w) {o : ABlk} {x : Obj} {N : Nat} (hb : BRel CR ι o 0 N x) (hlive : o.live = true) :
    Rel CR F w0 (ι.upd H.next (w.heap.size, 0, N)) (H.alloc o) (w.alloc x) := by
  have hle := R.le_upd (w.heap.size, 0, N)
  refine ⟨R.os, R.tape, R.output, Nat.le_trans R.size (by simp), fun r y h => heap_push (R.frame r y h), ?_, ?_, ?_⟩
  · intro b p e
    show b < H.next + 1
    unfold Inj.upd at e
    split at e
    · omega
    · have := R.dom _ _ e; omega
  · intro b o' e hl
    rw [AH.get_alloc] at e
    split at e
    · rename_i hb'
      injection e with e
      subst e hb'
      exact ⟨w.heap.size, 0, N, x, upd_same _ _ _, heap_new _ _, hb.mono hle⟩
    · obtain ⟨g, off, M, y, e1, e2, e3⟩ := R.blk b o' e hl
      exact ⟨g, off, M, y, hle _ _ e1, heap_push e2, e3.mono hle⟩
  · intro b o1 g off e ho hi
    rw [AH.get_alloc] at e
    have hold : ∀ b' o' p, H.get b' = some o' → o'.live = true → (ι.upd H.next (w.heap.size, 0, N)) b' = some p → ι b' = some p ∧ p.1 < w.heap.size := by
      intro b' o' p e' hl' hp
      obtain ⟨g', off', M, y, e1, e2, _⟩ := R.blk b' o' e' hl'
      have hne : b' ≠ H.next := Nat.ne_of_lt (R.dom _ _ e1)
      unfold Inj.upd at hp
      rw [if_neg hne] at hp
      refine ⟨hp, ?_⟩
      rw [e1] at hp
      injection hp with hp
      subst hp
      exact heap_lt e2
    split at e
    · rename_i hb'
      subst hb'
      rw [upd_same] at hi
      injection hi with hi
      injection hi with hg hoff
      subst hg
      refine ⟨?_, ?_⟩
      · cases hF : F w.heap.size with
        | none => rfl
        | some y => exact absurd (heap_lt (R.frame _ _ hF)) (Nat.lt_irrefl _)
      · intro b' o' p e' hl' hne hp
        rw [AH.get_alloc, if_neg hne] at e'
        exact Nat.ne_of_lt (hold b' o' p e' hl' hp).2
    · rename_i hb'
      have hl1 : o1.live = true := by cases o1 <;> simp_all [ABlk.owned, ABlk.live]
      obtain ⟨hi', hlt⟩ := hold b o1 _ e hl1 hi
      obtain ⟨hF, hs⟩ := R.sep b o1 g off e ho hi'
      refine ⟨hF, ?_⟩
      intro b' o' p e' hl' hne hp
      rw [AH.get_alloc] at e'
      split at e'
      · rename_i hb2
        subst hb2
        rw [upd_same] at hp
        injection hp with hp
        subst hp
        exact Nat.ne_of_gt hlt
      · exact hs b' o' p e' hl' hne (hold b' o' p e' hl' hp).1

/-- A block of the machine's own changes on both sides. -/
theorem Rel.put (R : Rel CR F w0 ι H w) {b : Nat} {o1 o2 : ABlk} {g off N : Nat} {x : Obj} {w' : World} (hg : H.get b = some o1) (ho : o1.owned = true) (hi : ι b = some (g, off, N))
    (hw : w'.os = w.os ∧ w'.tape = w.tape ∧ w'.output = w.output ∧ w'.heap.size = w.heap.size ∧ ∀ r, r ≠ g → w'.heap[r]? = w.heap[r]?)
    (hx : w'.heap[g]? = some x) (hb : o2.live = true → BRel CR ι o2 off N x) (hown : o2.live = true → o2.owned = true) : Rel CR F w0 ι (H.set b o2) w' := by
  obtain ⟨h1, h2, h3, h4, h5⟩ := hw
  obtain ⟨hF, hs⟩ := R.sep b o1 g (off, N) hg ho hi
  refine ⟨h1.trans R.os, h2.trans R.tape, h3.trans R.output, h4 ▸ R.size, ?_, R.dom, ?_, ?_⟩
  · intro r y h
    have hne : r ≠ g := fun e => by subst e; rw [hF] at h; cases h
    rw [h5 r hne]
    exact R.frame r y h
  · intro b' o' e hl
    rw [AH.get_set] at e
    split at e
    · rename_i hb'
      injection e with e
      subst e hb'
      exact ⟨g, off, N, x, hi, hx, hb hl⟩
    · rename_i hne
      obtain ⟨g', off', M, y, e1, e2, e3⟩ := R.blk b' o' e hl
      have hne' : g' ≠ g := hs b' o' (g', off', M) e hl hne e1
      exact ⟨g', off', M, y, e1, (h5 g' hne').trans e2, e3⟩
  · intro b' o' g' off' e ho' hi'
    rw [AH.get_set] at e
    have key : ∀ b2 o3 p, (H.set b o2).get b2 = some o3 → o3.live = true → ι b2 = some p → ∃ o4, H.get b2 = some o4 ∧ o4.live = true := by
      intro b2 o3 p e2 hl2 hp
      rw [AH.get_set] at e2
      split at e2
      · rename_i hbb
        subst hbb
        exact ⟨o1, hg, by cases o1 <;> simp_all [ABlk.owned, ABlk.live]⟩
      · exact ⟨o3, e2, hl2⟩
    split at e
    · rename_i hb'
      subst hb'
      rw [hi] at hi'
      injection hi' with hi'
      injection hi' with e1 e2
      subst e1 e2
      refine ⟨hF, ?_⟩
      intro b2 o3 p e2 hl2 hne hp
      obtain ⟨o4, e4, hl4⟩ := key b2 o3 p e2 hl2 hp
      exact hs b2 o4 p e4 hl4 hne hp
    · rename_i hne
      obtain ⟨hF', hs'⟩ := R.sep b' o' g' off' e ho' hi'
      refine ⟨hF', ?_⟩
      intro b2 o3 p e2 hl2 hne2 hp
      obtain ⟨o4, e4, hl4⟩ := key b2 o3 p e2 hl2 hp
      exact hs' b2 o4 p e4 hl4 hne2 hp

/-- A block is given up. -/
theorem Rel.kill (R : Rel CR F w0 ι H w) (b : Nat) : Rel CR F w0 ι (H.set b .dead) w := by
  refine ⟨R.os, R.tape, R.output, R.size, R.frame, R.dom, ?_, ?_⟩
  · intro b' o' e hl
    rw [AH.get_set] at e
    split at e
    · injection e with e; subst e; cases hl
    · exact R.blk b' o' e hl
  · intro b' o' g off e ho hi
    rw [AH.get_set] at e
    split at e
    · injection e with e; subst e; cases ho
    · obtain ⟨hF, hs⟩ := R.sep b' o' g off e ho hi
      refine ⟨hF, fun b2 o3 p e2 hl2 => ?_⟩
      rw [AH.get_set] at e2
      split at e2
      · injection e2 with e2; subst e2; cases hl2
      · exact hs b2 o3 p e2 hl2

/-! ### Reading -/
theorem Rel.cell (R : Rel CR F w0 ι H w) {b i : Nat} {v : AVal} {own : Bool} {vs : List AVal} (hg : H.get b = some (.cells own vs)) (hv : vs[i]? = some v) {g o N : Nat} (hi : ι b = some (g, o, N)) :
    ∃ v', w.cell? ⟨g, o + i, none⟩ = some v' ∧ VRel ι v v' := by
  obtain ⟨g', off, N', x, e1, e2, e3⟩ := R.blk b _ hg rfl
  rw [hi] at e1
  injection e1 with e1
  injection e1 with ea eb
  injection eb with eb ec
  subst ea eb ec
  cases e3 with
  | cells _ _ _ C T fz h1 h2 h3 =>
    obtain ⟨v', hv', hr⟩ := h1 i v hv
    refine ⟨v', ?_, hr⟩
    simp [World.cell?, e2, hv']
theorem addr_add (g o n : Nat) : (⟨g, o, none⟩ : Addr).add n = ⟨g, o + n, none⟩ := by
  unfold Addr.add
  split
  · simp_all
  · rfl
theorem Rel.cellsN (R : Rel CR F w0 ι H w) {b i n : Nat} {l : List AVal} (h : H.loadN (b, i) n = some l) {g o N : Nat} (hi : ι b = some (g, o, N)) :
    ∃ l' : List Value, l'.length = n ∧ VsRel ι l l' ∧ ∀ j v, l'[j]? = some v → w.cell? (Addr.add ⟨g, o + i, none⟩ j) = some v := by
  unfold AH.loadN at h
  split at h
  · rename_i own vs hg
    dsimp only at h
    split at h
    · rename_i hlen
      injection h with h
      subst h
      have hget : ∀ j, j < n → ∃ v v', (List.take n (List.drop i vs))[j]? = some v ∧ w.cell? ⟨g, o + (i + j), none⟩ = some v' ∧ VRel ι v v' := by
        intro j hj
        have hj' : j < (List.take n (List.drop i vs)).length := by omega
        obtain ⟨v, hv0⟩ : ∃ v, (List.take n (List.drop i vs))[j]? = some v := ⟨_, List.getElem?_eq_getElem hj'⟩
        have hv : vs[i + j]? = some v := by
          rw [List.getElem?_take, if_pos hj, List.getElem?_drop] at hv0
          exact hv0
        obtain ⟨v', h1, h2⟩ := R.cell hg hv hi
        exact ⟨v, v', hv0, h1, h2⟩
      refine ⟨(List.range n).map (fun j => (w.cell? ⟨g, o + (i + j), none⟩).getD undef), by simp, ?_, ?_⟩
      · refine VsRel.of_get (by simp [hlen]) fun j v hv => ?_
        have hj : j < n := by
          have := (List.getElem?_eq_some_iff.1 hv).1
          omega
        obtain ⟨u, v', h1, h2, h3⟩ := hget j hj
        rw [hv] at h1
        injection h1 with h1
        subst h1
        exact ⟨v', by simp [hj, h2], h3⟩
      · intro j v hv
        have hj : j < n := by simpa using (List.getElem?_eq_some_iff.1 hv).1
        obtain ⟨u, v', h1, h2, h3⟩ := hget j hj
        simp [hj, h2] at hv
        subst hv
        rw [addr_add, Nat.add_assoc]
        exact h2
    · cases h
  · cases h
theorem Rel.cell1 (R : Rel CR F w0 ι H w) {b i : Nat} {v : AVal} (h : H.load1 (b, i) = some v) {g o N : Nat} (hi : ι b = some (g, o, N)) :
    ∃ v', w.cell? ⟨g, o + i, none⟩ = some v' ∧ VRel ι v v' := by
  unfold AH.load1 at h
  split at h
  · rename_i own vs hg
    exact R.cell hg h hi
  · cases h

/-- A block of the machine's lies in the model's block. -/
theorem Rel.fits (R : Rel CR F w0 ι H w) {b : Nat} {own : Bool} {vs : List AVal} (hg : H.get b = some (.cells own vs)) {g o N : Nat} (hi : ι b = some (g, o, N)) : o + vs.length ≤ N := by
  obtain ⟨g', off, N', x, e1, e2, e3⟩ := R.blk b _ hg rfl
  rw [hi] at e1
  injection e1 with e1
  injection e1 with ea eb
  injection eb with eb ec
  subst ea eb ec
  cases e3 with
  | cells _ _ _ C T fz h1 h2 h3 => exact h3
/-! ### Writing -/
theorem isCell_one {v : AVal} {v' : Value} (h : VRel ι v v') (hc : v.isCell = true) : v'.oneCell' = true := by
  cases h <;> first | rfl | (simp [AVal.isCell] at hc)

theorem spliceV_set (L : List Value) (n : Nat) (v : Value) (vs : List Value) (h : n < L.length) : spliceV (L.set n v) (n + 1) vs = spliceV L n (v :: vs) := by
  unfold spliceV
  have h1 : (L.set n v).take (n + 1) = L.take n ++ [v] := by
    rw [List.set_eq_take_append_cons_drop, if_pos h]
    rw [List.take_append, List.length_take, Nat.min_eq_left (Nat.le_of_lt h)]
    rw [List.take_of_length_le (by simp; omega)]
    simp
  have h2 : (L.set n v).drop (n + 1 + vs.length) = L.drop (n + (v :: vs).length) := by
    rw [List.drop_set, if_pos (by omega)]
    congr 1
    simp; omega
  rw [h1, h2]
  simp
theorem run_storeCells {P : Program} (g T : Nat) (fz : Nat × Nat) : ∀ (vs : List Value) (w : World) (C : Array Value) (o i : Nat), w.heap[g]? = some (.cells C T fz) → (∀ v ∈ vs, v.oneCell' = true) →
    o + i + vs.length ≤ C.size → (∀ j, i ≤ j → j < i + vs.length → ¬ (fz.1 ≤ o + j ∧ o + j < fz.2)) →
    ∃ w' C', (storeCells ⟨g, o, none⟩ vs i).run P w = .ok () w' ∧ w'.heap[g]? = some (.cells C' T fz) ∧ C'.toList = spliceV C.toList (o + i) vs ∧
      (w'.os = w.os ∧ w'.tape = w.tape ∧ w'.output = w.output ∧ w'.heap.size = w.heap.size ∧ ∀ r, r ≠ g → w'.heap[r]? = w.heap[r]?) := by
  intro vs
  induction vs with
  | nil =>
    intro w C o i hg _ _ _
    refine ⟨w, C, rfl, hg, ?_, rfl, rfl, rfl, rfl, fun _ _ => rfl⟩
    simp [spliceV]
  | cons v vs ih =>
    intro w C o i hg hone hlen hfz
    have hv := hone v (by simp)
    simp only [List.length_cons] at hlen hfz
    have hlt : o + i < C.size := by omega
    have hcell : w.cell? ⟨g, o + i, none⟩ = some C[o + i] := by
      simp [World.cell?, hg, hlt]
    have hfr : w.frozen? ⟨g, o + i, none⟩ = false := by
      have := hfz i (Nat.le_refl _) (by omega)
      simp only [World.frozen?, hg]
      simpa using this
    have hmod : (w.setCell ⟨g, o + i, none⟩ v).heap[g]? = some (.cells (C.setIfInBounds (o + i) v) T fz) := by
      simp [World.setCell, Array.getElem?_modify, hg]
    obtain ⟨w', C', h1, h2, h3, h4, h5, h6, h7, h8⟩ := ih (w.setCell ⟨g, o + i, none⟩ v) (C.setIfInBounds (o + i) v) o (i + 1) hmod (fun u hu => hone u (by simp [hu])) (by simp; omega)
      (fun j hj1 hj2 => hfz j (by omega) (by omega))
    refine ⟨w', C', ?_, h2, ?_, h4.trans rfl, h5.trans rfl, h6.trans rfl, h7.trans (by simp), fun r hr => (h8 r hr).trans ?_⟩
    · unfold storeCells
      rw [addr_add]
      simp only [Sem.run_bind]
      rw [run_store P w _ v _ hv]
      simp only [hcell, hfr, Bool.false_eq_true, if_false, Result.andThen_ok]
      exact h1
    · rw [h3]
      rw [Array.toList_setIfInBounds, ← Nat.add_assoc]
      exact spliceV_set _ _ _ _ (by simpa using hlt)
    · simp [World.setCell, Array.getElem?_modify, Ne.symm hr]
end
end Rst
/- The translation of the model's operations and code into those of the abstract machine. -/
namespace Rst
open Go

def optMap {α β : Type} (f : α → Option β) : List α → Option (List β)
  | [] => some []
  | a :: l => match f a, optMap f l with
    | some b, some r => some (b :: r)
    | _, _ => none
def trV : Nat → Value → Option AVal
  | _, .bool b => some (.bool b)
  | _, .int k n => some (.int k n)
  | _, .string s => some (.str (s.data.toList.map (·.toNat)))
  | _, .pointer none => some (.ptr none)
  | _, .slice none 0 0 => some (.slice none 0 0 0)
  | _, .map none => some (.map none)
  | _, .nilFunc => some .nilFunc
  | _, .nilIface => some .nilIface
  | d + 1, .agg cs => match optMap (trV d) cs.toList with
    | some l => some (.agg l)
    | none => none
  | d + 1, .tuple vs => match optMap (trV d) vs.toList with
    | some l => some (.tup l)
    | none => none
  | _, _ => none
def trO : Operand → Option AO
  | .tmp t => some (.t t)
  | .const v => match trV 4 v with
    | some a => some (.c a)
    | none => none
  | .global _ => some (.c und)
  | .func f => some (.f f)
def trOO : Option Operand → Option (Option AO)
  | none => some none
  | some x => match trO x with
    | some a => some (some a)
    | none => none
def isAggD : TypeDesc → Bool
  | .struct _ => true
  | .array _ _ => true
  | _ => false
def trN (P : Program) (t : TypeId) : Option (Option Nat) :=
  match P.underlying t, P.info? t with
  | some d, some i => some (if isAggD d then some i.size else none)
  | _, _ => none
def trZ (P : Program) (t : TypeId) : Option AVal :=
  match P.info? t with
  | some i => match i.zero with
    | some z => trV 4 z
    | none => none
  | none => none
def trSz (P : Program) (t : TypeId) : Option Nat :=
  match P.info? t with
  | some i => some i.size
  | none => none
def trLKgo (P : Program) (rec : TypeId → Option (List LK)) : Nat → List Field → Option (List LK)
  | _, [] => some []
  | off, f :: fs => if f.offset = off ∧ f.name ≠ "_" then match rec f.type, P.info? f.type with
      | some ks, some i => if i.size = ks.length then match trLKgo P rec (off + ks.length) fs with
          | some r => some (ks ++ r)
          | none => none
        else none
      | _, _ => none
    else none
def trLKs (P : Program) : Nat → TypeId → Option (List LK)
  | 0, _ => none
  | d + 1, t => match P.underlying t with
    | some .bool => some [.bool]
    | some (.int _) => some [.int]
    | some .string => some [.str]
    | some (.struct fs) => if P.stoodInHeld t then none else trLKgo P (trLKs P d) 0 fs.toList
    | _ => none
def trKT (P : Program) (t : TypeId) : Option KT :=
  match P.underlying t with
  | some .bool => some (.one .bool)
  | some (.int _) => some (.one .int)
  | some .string => some (.one .str)
  | some (.pointer _) => some (.one .ptr)
  | some (.slice _) => some (.one .slice)
  | some (.map _ _) => some (.one .map)
  | some (.func _ _ _) => some (.one .func)
  | some (.interface _) => some (.one .iface)
  | some (.struct _) => match trLKs P 6 t with
    | some ks => if P.eqGuardType P.depth t then none else some (.agg ks)
    | none => none
  | _ => none
def trParts (place : Nat → Option (Nat × Nat)) : List (Nat × Operand) → Option (List (Nat × Nat × AO))
  | [] => some []
  | (i, x) :: r => match place i, trO x, trParts place r with
    | some (o, s), some a, some l => some ((o, s, a) :: l)
    | _, _, _ => none
def trPlaces (P : Program) : List Field → Option (List (Nat × Nat))
  | [] => some []
  | f :: fs => match P.info? f.type, trPlaces P fs with
    | some i, some l => some ((f.offset, i.size) :: l)
    | _, _ => none
def isConstNil : Operand → Bool
  | .const _ => true
  | _ => false

def trZv (P : Program) (t : TypeId) : Option AVal :=
  match trZ P t with
  | some z => if z.isVal = true then some z else none
  | none => none
def trApp (P : Program) (e : TypeId) (a b : AO) : Option AOp :=
  match P.info? e, trZv P e with
  | some i, some z => if 0 < i.size ∧ 0 < i.bytes ∧ z.cells.length = i.size then some (.app i.size i.bytes a b) else none
  | _, _ => none
def trLen (P : Program) (t : TypeId) (x : Operand) : Option AOp :=
  match P.underlying t, trO x with
  | some .string, some a => some (.len .str a)
  | some (.slice _), some a => some (.len .slice a)
  | some (.map _ _), some a => some (.len .map a)
  | some (.array n _), some _ => some (.lenArr n)
  | _, _ => none
def trCall (P : Program) (c : Call) : Option AOp :=
  match c.callee with
  | .value f => match trO f, optMap trO c.args.toList with
    | some g, some l => some (.call g l)
    | _, _ => none
  | .invoke _ _ => none
  | .builtin .len => match c.argTypes[0]?, c.args[0]? with
    | some t, some x => trLen P t x
    | _, _ => none
  | .builtin .append => match c.argTypes[0]?, c.argTypes[1]?, c.args.toList with
    | some t, some u, [s, x] => match P.underlying t, P.underlying u, trO s, trO x with
      | some (.slice e), some (.slice _), some a, some b => trApp P e a b
      | some (.slice e), some .string, some a, some b => trApp P e a b
      | _, _, _, _ => none
    | _, _, _ => none
  | .builtin .clear => match c.argTypes[0]?, c.args[0]? with
    | some t, some x => match P.underlying t, trO x with
      | some (.slice e), some a => match trZv P e with
        | some z => some (.clr z.cells a)
        | none => none
      | _, _ => none
    | _, _ => none
  | .builtin .copy => match c.argTypes[0]?, c.args[0]?, c.args[1]? with
    | some t, some d, some s => match P.underlying t, trO d, trO s with
      | some (.slice e), some a, some b => match P.info? e with
        | some i => some (.cpy i.size a b)
        | none => none
      | _, _, _ => none
    | _, _, _ => none
  | .builtin .delete => match c.argTypes[0]?, c.args[0]?, c.args[1]? with
    | some t, some m, some k => match P.underlying t, trO m, trO k with
      | some (.map kt _), some a, some b => match trKT P kt with
        | some q => some (.del q a b)
        | none => none
      | _, _, _ => none
    | _, _, _ => none
  | .builtin .min => match optMap trO c.args.toList with
    | some l => some (.min l)
    | none => none
  | .builtin .max => match optMap trO c.args.toList with
    | some l => some (.max l)
    | none => none
  | _ => none

def trBin (P : Program) (op : BinOp) (t : TypeId) (x y : Operand) : Option AOp :=
  match trO x, trO y with
  | some a, some b => match P.underlying t with
    | some (.int _) => some (.bin op a b)
    | some .string => some (.bin op a b)
    | _ => match trKT P t with
      | some q => if q = .one .int ∨ q = .one .str then none else if q = .one .iface ∧ (isConstNil x || isConstNil y) = false then (match op with
        | .eql => some (.eqv false (.one .ifx) a b)
        | .neq => some (.eqv true (.one .ifx) a b)
        | _ => none) else match op with
        | .eql => some (.eqv false q a b)
        | .neq => some (.eqv true q a b)
        | _ => none
      | none => none
  | _, _ => none
def notIface : TypeDesc → Bool
  | .interface _ => false
  | _ => true
def trMkF : Fn → Array Operand → Array Operand → Option AOp
  | .func f, first, cs => if first.size = 0 then match optMap trO cs.toList with
      | some l => some (.mkF f l)
      | none => none
    else none
  | _, _, _ => none
def trMkM : Option Operand → Option AOp
  | none => some .mkM
  | some _ => none
def trOp (P : Program) : Op → Option AOp
  | .move x => match trO x with
    | some a => some (.mv a)
    | none => none
  | .assign x => match trO x with
    | some a => some (.mv a)
    | none => none
  | .pick c a b => match trO c, trO a, trO b with
    | some c, some a, some b => some (.pick c a b)
    | _, _, _ => none
  | .alloc e => match trZv P e with
    | some z => some (.alloc z.cells)
    | none => none
  | .box e x => match trSz P e, trO x with
    | some n, some a => some (.box n a)
    | _, _ => none
  | .build t parts => match P.underlying t, trZv P t with
    | some (.struct fs), some z => match trPlaces P fs.toList with
      | some ps => match trParts (ps[·]?) parts.toList with
        | some l => some (.build z.cells l)
        | none => none
      | none => none
    | some (.array _ e), some z => match P.info? e with
      | some i => match trParts (fun k => some (k * i.size, i.size)) parts.toList with
        | some l => some (.build z.cells l)
        | none => none
      | none => none
    | _, _ => none
  | .buildSlice t len parts => match P.underlying t with
    | some (.slice e) => match P.info? e with
      | some i => if len * i.size ≤ 16777216 then match trParts (fun k => some (k * i.size, i.size)) parts.toList with
          | some l => if len * i.size = 0 then some (.buildS [] len i.size l) else match trZv P e with
            | some z => if z.cells.length = i.size then some (.buildS z.cells len i.size l) else none
            | none => none
          | none => none
        else none
      | none => none
    | _ => none
  | .load t a => match trN P t, trO a with
    | some n, some a => some (.load n a)
    | _, _ => none
  | .store t a x => match trSz P t, trO a, trO x with
    | some n, some a, some x => some (.store n a x)
    | _, _, _ => none
  | .nilCheck x => match trO x with
    | some a => some (.nilc a)
    | none => none
  | .binOp op t x y _ => trBin P op t x y
  | .unOp op _ x => match trO x with
    | some a => some (.un op a)
    | none => none
  | .convert src dst x => match P.underlying src, P.underlying dst, trO x with
    | some (.int _), some (.int k), some a => some (.convI k a)
    | some .string, some .string, some a => some (.convSS a)
    | some .string, some (.slice e), some a => match P.underlying e with
      | some (.int .u8) => some (.convSB a)
      | _ => none
    | some (.slice e), some .string, some a => match P.underlying e with
      | some (.int .u8) => some (.convBS a)
      | _ => none
    | _, _, _ => none
  | .makeInterface t x => match P.underlying t, trO x with
    | some d, some a => if notIface d = true then some (.mkI t a) else none
    | _, _ => none
  | .makeFunc fn first cs => trMkF fn first cs
  | .makeMap _ r => trMkM r
  | .makeSlice t l c => match P.underlying t, trO l, trO c with
    | some (.slice e), some a, some b => match P.info? e, trZv P e with
      | some i, some z => if z.cells.length = i.size ∧ 0 < i.size ∧ 0 < i.bytes then some (.mkS z.cells i.bytes a b) else none
      | _, _ => none
    | _, _, _ => none
  | .slice t x lo hi mx => match P.underlying t, trO x, trOO lo, trOO hi, trOO mx with
    | some .string, some a, some l, some h, some none => some (.slStr a l h)
    | some (.slice e), some a, some l, some h, some m => match P.info? e with
      | some i => if m.isSome = true ∧ h.isNone = true then none else some (.sl i.size a l h m)
      | none => none
    | some (.array n e), some a, some l, some h, some m => match P.info? e with
      | some i => if m.isSome = true ∧ h.isNone = true then none else some (.slArr n i.size a l h m)
      | none => none
    | _, _, _, _, _ => none
  | .fieldAddr t x k => match P.underlying t, trO x with
    | some (.struct fs), some a => match fs[k]? with
      | some f => match P.info? f.type with
        | some i => if i.size = 0 then none else some (.fa f.offset a)
        | none => none
      | none => none
    | _, _ => none
  | .field t x k => match P.underlying t, trO x with
    | some (.struct fs), some a => match fs[k]? with
      | some f => match trN P f.type with
        | some n => some (.fld f.offset n a)
        | none => none
      | none => none
    | _, _ => none
  | .indexAddr t x i => match P.underlying t, trO x, trO i with
    | some (.slice e), some a, some b => match P.info? e with
      | some j => some (.ia j.size a b)
      | none => none
    | some (.array n e), some a, some b => match P.info? e with
      | some j => some (.iaArr n j.size a b)
      | none => none
    | _, _, _ => none
  | .index t x i => match P.underlying t, trO x, trO i with
    | some .string, some a, some b => some (.idxStr a b)
    | some (.array n e), some a, some b => match P.info? e, P.underlying e with
      | some j, some d => some (.idxArr n j.size (!isAggD d) a b)
      | _, _ => none
    | _, _, _ => none
  | .lookup t m k ok => match P.underlying t, trO m, trO k with
    | some (.map kt e), some a, some b => match trKT P kt, trZ P e with
      | some q, some z => some (.lk q z ok a b)
      | _, _ => none
    | _, _, _ => none
  | .mapUpdate t m k v => match P.underlying t, trO m, trO k, trO v with
    | some (.map kt _), some a, some b, some c => match trKT P kt with
      | some q => some (.mu q a b c)
      | none => none
    | _, _, _, _ => none
  | .insert t m k v => match P.underlying t, trO m, trO k, trO v with
    | some (.map kt _), some a, some b, some c => match trKT P kt with
      | some q => some (.mu q a b c)
      | none => none
    | _, _, _, _ => none
  | .typeAssert x _ t ok => match P.underlying t, trO x, trZ P t with
    | some d, some a, some z => if notIface d = true then some (.ta t z ok a) else none
    | _, _, _ => none
  | .extract x i => match trO x with
    | some a => some (.ext a i)
    | none => none
  | .call c => trCall P c
  | .panic x => match trO x with
    | some a => some (.panic a)
    | none => none
  | _ => none
end Rst
