/-
  The abstract machine: its values, its store, its operations, and how they stand to the model's; the operations that turn nothing are told and true.
-/
import Derived.Orders
import Derived.Tactics
import Derived.Laws.CopyRow
import Derived.Laws.Cells
import Derived.Laws.Entries
import Derived.Laws.Strings
import Derived.Laws.StructEq
import Derived.ChangeKeysEq
import Derived.Lib.Strings

namespace Go.Vm
noncomputable section

/-- A trie over natural numbers. -/
inductive Tr (α : Type) where
  | nil
  | node (l : Tr α) (v : Option α) (r : Tr α)

namespace Tr
def get {α : Type} (t : Tr α) : Nat → Option α :=
  Tr.rec (motive := fun _ => Nat → Option α) (fun _ => Option.none) (fun _ v _ gl gr n => cond (Nat.beq n 0) v (cond (Nat.beq (Nat.mod n 2) 1) (gl (Nat.div n 2)) (gr (Nat.sub (Nat.div n 2) 1)))) t
def setF {α : Type} : Nat → Tr α → Nat → Option α → Tr α
  | 0, t, _, _ => t
  | f + 1, .nil, n, x => cond (Nat.beq n 0) (.node .nil x .nil) (cond (Nat.beq (n % 2) 1) (.node (setF f .nil (n / 2) x) Option.none .nil) (.node .nil Option.none (setF f .nil (n / 2 - 1) x)))
  | f + 1, .node l v r, n, x => cond (Nat.beq n 0) (.node l x r) (cond (Nat.beq (n % 2) 1) (.node (setF f l (n / 2) x) v r) (.node l v (setF f r (n / 2 - 1) x)))
def put {α : Type} (t : Tr α) (n : Nat) (x : Option α) : Tr α :=
  Tr.rec (motive := fun _ => Nat → Tr α) (fun n => setF (Nat.succ n) .nil n x) (fun l v r sl sr n => cond (Nat.beq n 0) (.node l x r) (cond (Nat.beq (Nat.mod n 2) 1) (.node (sl (Nat.div n 2)) v r) (.node l v (sr (Nat.sub (Nat.div n 2) 1))))) t n
def set {α : Type} (t : Tr α) (n : Nat) (x : α) : Tr α := t.put n (some x)
end Tr

/-- What may be appended to a slice: nothing is known; it is nil; its capacity is its length; it ends where the spare room of a row of the machine's own begins. -/
inductive Tok where
  | nil | ro | full | tk (id : Nat)

/-- Abstract values. -/
inductive AV where
  | any
  | lit (v : Value)
  | str (s : List UInt8)
  | agg (cs : List AV)
  | tup (vs : List AV)
  | sl (tk : Tok) (es : List AV)
  | rs (e : TypeId) (sz b off len : Nat)
  | vp (cs : List AV) (off : Nat)
  | hp (b off : Nat)
  | lp (t off : Nat)
  | lm (t : Nat)
  | ls (e : TypeId) (sz t len : Nat)
  | mp (b : Nat)
  | fn (f : FuncId) (caps : List AV)

instance : Inhabited AV := ⟨.any⟩

namespace AV
def cells : AV → List AV
  | .agg cs => cs
  | v => [v]
/-- The abstract value fills one cell of memory. -/
def isCell : AV → Bool
  | .lit (.agg _) => false
  | .lit (.tuple _) => false
  | .lit _ => true
  | .str _ => true
  | .sl .. => true
  | .rs .. => true
  | .vp .. => true
  | .hp .. => true
  | .mp _ => true
  | .fn .. => true
  | _ => false
/-- It may stand in memory: one cell, or a struct's or array's cells. -/
def isPart : AV → Bool
  | .agg _ => true
  | v => v.isCell
def isLp : AV → Bool
  | .lp .. => true
  | .lm _ => true
  | .ls .. => true
  | _ => false
/-- The local variable that the value leads to. -/
def key : AV → Option Nat
  | .lp t _ => some t
  | .lm t => some t
  | .ls _ _ t _ => some t
  | _ => none
/-- The value, when the local variable has gone to the store. -/
def moved (id : Nat) : AV → AV
  | .lp _ off => .hp id off
  | .lm _ => .mp id
  | .ls e sz _ len => .rs e sz id 0 len
  | v => v
def ofCell : Value → AV
  | .slice none 0 0 => .sl .nil []
  | .string s => .str s.data.toList
  | v => .lit v
def ofValue : Value → AV
  | .agg cs => cond (cs.toList.all Value.oneCell') (.agg (cs.toList.map ofCell)) (.lit (.agg cs))
  | .tuple vs => .tup (vs.toList.map ofCell)
  | v => ofCell v
def stripC : AV → AV
  | .sl _ es => .sl .ro es
  | v => v
/-- The right to append is given up. -/
def strip : AV → AV
  | .sl _ es => .sl .ro es
  | .agg cs => .agg (cs.map stripC)
  | v => v
def stripT : AV → AV
  | .tup vs => .tup (vs.map strip)
  | v => v.strip
end AV

/-- What the machine knows of a type. -/
structure TI where
  und : TypeDesc
  size : Nat
  bytes : Nat
  zero : Option Value
  plain : Bool

def TI.isAgg (i : TI) : Bool :=
  match i.und with
  | .struct _ => true
  | .array _ _ => true
  | _ => false

inductive Obj where
  | cells (cs : List AV)
  | grow (size : Nat)
  | map (kvs : List (AV × AV))

structure St where
  next : Nat
  lock : Nat
  objs : Tr Obj

inductive LObj where
  | own (cs : List AV)
  | fwd (b : Nat)
  /-- an empty map, made here -/
  | map0

structure Fr where
  tm : Tr AV
  lo : Tr LObj
  nt : Nat

/-- The program as the machine sees it, and how it is to run it (which the soundness does not depend on). -/
structure Ctx where
  fn : FuncId → Option Func
  ty : TypeId → Option TI
  keepA : FuncId → Bool
  keepR : FuncId → Bool
  scope : FuncId → Bool
  hard : FuncId → Nat → Bool
  live : FuncId → Nat → Option (List Nat × List Nat)

inductive Ex where
  | normal
  | exit (id : Nat)
  | ret

def Fr.ev (g : Fr) : Operand → AV
  | .tmp t => (g.tm.get t).getD .any
  | .const v => .ofValue v
  | .func f => .fn f []
  | .global _ => .any

def St.cellsAt (s : St) (b : Nat) : Option (List AV) :=
  match s.objs.get b with
  | some (.cells cs) => some cs
  | _ => none

/-- The cells that a pointer leads into, and the place among them. -/
def deref (g : Fr) (s : St) : AV → Option (List AV × Nat)
  | .vp cs off => some (cs, off)
  | .hp b off => (s.cellsAt b).map fun cs => (cs, off)
  | .lp t off => match g.lo.get t with
    | some (.own cs) => some (cs, off)
    | some (.fwd b) => (s.cellsAt b).map fun cs => (cs, off)
    | some .map0 => none
    | none => none
  | _ => none

def takeAt (cs : List AV) (off n : Nat) : Option AV :=
  cond (Nat.ble (off + n) cs.length) (some (.agg ((cs.drop off).take n))) none

def partAt (i : TI) (cs : List AV) (off : Nat) : Option AV :=
  cond i.isAgg (takeAt cs off i.size) (cs[off]?)

def setAll : List AV → Nat → List AV → List AV
  | cs, _, [] => cs
  | cs, o, v :: vs => setAll (cs.set o v) (o + 1) vs

/-- The local variable in tmp t goes to the store. -/
def promote (g : Fr) (s : St) (t : Nat) : Option (Nat × Fr × St) :=
  match g.lo.get t with
  | some (.own cs) => some (s.next, { g with lo := g.lo.set t (.fwd s.next) }, { s with next := s.next + 1, objs := s.objs.set s.next (.cells cs) })
  | some (.fwd b) => some (b, g, s)
  | some .map0 => some (s.next, { g with lo := g.lo.set t (.fwd s.next) }, { s with next := s.next + 1, objs := s.objs.set s.next (.map []) })
  | none => none

/-- A value that leaves the frame. -/
def lsOk (o : Option LObj) : AV → Bool
  | .ls _ sz _ len => match o with
    | some (.own cs) => Nat.beq (len * sz) cs.length
    | _ => false
  | _ => true
def escape (g : Fr) (s : St) (v : AV) : Option (AV × Option (Fr × St)) :=
  match v.key with
  | none => some (v, none)
  | some t => cond (lsOk (g.lo.get t) v) (match promote g s t with
    | some (id, g1, s1) => some (v.moved id, some (g1, s1))
    | none => none) none

def escapes (g : Fr) (s : St) : List AV → Option (List AV × Option (Fr × St))
  | [] => some ([], none)
  | v :: vs => match escape g s v with
    | none => none
    | some (v', none) => match escapes g s vs with
      | none => none
      | some (vs', r) => some (v' :: vs', r)
    | some (v', some (g1, s1)) => match escapes g1 s1 vs with
      | none => none
      | some (vs', none) => some (v' :: vs', some (g1, s1))
      | some (vs', some r) => some (v' :: vs', some r)

/-- The store of cells through a pointer. -/
def storeAt (g : Fr) (s : St) (p : AV) (vs : List AV) : Option (Fr × St) :=
  let inStore (b off : Nat) : Option (Fr × St) := match s.cellsAt b with
    | some cs => cond (Nat.ble s.lock b && Nat.ble (off + vs.length) cs.length) (some (g, { s with objs := s.objs.set b (.cells (setAll cs off vs)) })) none
    | none => none
  match p with
  | .hp b off => inStore b off
  | .lp t off => match g.lo.get t with
    | some (.own cs) => cond (Nat.ble (off + vs.length) cs.length) (some ({ g with lo := g.lo.set t (.own (setAll cs off vs)) }, s)) none
    | some (.fwd b) => inStore b off
    | some .map0 => none
    | none => none
  | _ => none

def ptrAdd (n : Nat) : AV → Option AV
  | .vp cs off => some (.vp cs (off + n))
  | .hp b off => some (.hp b (off + n))
  | .lp t off => some (.lp t (off + n))
  | _ => none

/-- Arithmetic and comparison of whole numbers. -/
def intBin (op : BinOp) (k : IntKind) (a b : Int) : Option AV :=
  match op with
  | .add => some (.lit (.int k (k.wrap (a + b))))
  | .sub => some (.lit (.int k (k.wrap (a - b))))
  | .mul => some (.lit (.int k (k.wrap (a * b))))
  | .quo => if b = 0 then none else some (.lit (.int k (k.wrap (a.tdiv b))))
  | .rem => if b = 0 then none else some (.lit (.int k (a.tmod b)))
  | .and => some (.lit (.int k (k.wrap (BitVec.ofInt k.bits a &&& BitVec.ofInt k.bits b).toNat)))
  | .or => some (.lit (.int k (k.wrap (BitVec.ofInt k.bits a ||| BitVec.ofInt k.bits b).toNat)))
  | .xor => some (.lit (.int k (k.wrap (BitVec.ofInt k.bits a ^^^ BitVec.ofInt k.bits b).toNat)))
  | .andNot => some (.lit (.int k (k.wrap (BitVec.ofInt k.bits a &&& ~~~ (BitVec.ofInt k.bits b)).toNat)))
  | .eql => some (.lit (.bool (a == b)))
  | .neq => some (.lit (.bool (a != b)))
  | .lss => some (.lit (.bool (decide (a < b))))
  | .leq => some (.lit (.bool (decide (a ≤ b))))
  | .gtr => some (.lit (.bool (decide (a > b))))
  | .geq => some (.lit (.bool (decide (a ≥ b))))
  | _ => none
def shiftBin (op : BinOp) (k : IntKind) (a : Int) (b : Int) : Option AV :=
  if b < 0 then none else match op with
  | .shl => some (.lit (.int k (k.wrap (a * 2 ^ (min b.toNat k.bits)))))
  | .shr => some (.lit (.int k (a.fdiv (2 ^ (min b.toNat k.bits)))))
  | _ => none
def strBin (op : BinOp) (a b : List UInt8) : Option AV :=
  match op with
  | .add => cond (Nat.ble (a.length + b.length) 9223372036854775807) (some (.str (a ++ b))) none
  | .eql => some (.lit (.bool (a == b)))
  | .neq => some (.lit (.bool (!(a == b))))
  | .lss => some (.lit (.bool (Op.bytesLess a b)))
  | .leq => some (.lit (.bool (Op.bytesLess a b || a == b)))
  | .gtr => some (.lit (.bool (!(Op.bytesLess a b || a == b))))
  | .geq => some (.lit (.bool (!(Op.bytesLess a b))))
  | _ => none

/-- Are two cells of plain values the same? -/
def sameCell : TypeDesc → AV → AV → Option Bool
  | .int _, .lit (.int k a), .lit (.int k' b) => if k = k' then some (a == b) else none
  | .bool, .lit (.bool a), .lit (.bool b) => some (a == b)
  | .string, .str a, .str b => some (a == b)
  | _, _, _ => none

/-- '==' by the type, as the model goes. -/
def sameAt (Γ : Ctx) : Nat → TypeId → List AV → Nat → List AV → Nat → Option Bool
  | 0, _, _, _, _, _ => none
  | d + 1, t, xs, i, ys, j => match Γ.ty t with
    | none => none
    | some ti => match ti.und with
      | .struct fs => cond (!ti.plain) none <| fs.toList.foldr (fun f r => match cond (f.name == "_") (some true) (match Γ.ty f.type with | some fi => cond (Nat.ble (f.offset + fi.size) ti.size && (fi.isAgg || Nat.blt 0 fi.size)) (sameAt Γ d f.type xs (i + f.offset) ys (j + f.offset)) none | none => none) with
          | some true => r
          | some false => some false
          | none => none) (some true)
      | .array n e => match Γ.ty e with
        | none => none
        | some ei => (List.range n).foldr (fun q r => match cond (Nat.ble (q * ei.size + ei.size) ti.size && (ei.isAgg || Nat.blt 0 ei.size)) (sameAt Γ d e xs (i + q * ei.size) ys (j + q * ei.size)) none with
          | some true => r
          | some false => some false
          | none => none) (some true)
      | u => match xs[i]?, ys[j]? with
        | some x, some y => sameCell u x y
        | _, _ => none

/-- Is the value nil, at its type? -/
def nilOf : TypeDesc → AV → Option Bool
  | .slice _, .sl .nil _ => some true
  | .slice _, .sl .full _ => some false
  | .slice _, .sl (.tk _) _ => some false
  | .slice _, .sl .ro (_ :: _) => some false
  | .map _ _, .lit (.map none) => some true
  | .map _ _, .mp _ => some false
  | .pointer _, .lit (.pointer none) => some true
  | .pointer _, .hp _ _ => some false
  | .pointer _, .vp _ _ => some false
  | .pointer _, .lp _ _ => some false
  | .func _ _ _, .lit .nilFunc => some true
  | .func _ _ _, .fn _ _ => some false
  | _, _ => none

def nilEq (u : TypeDesc) (x y : AV) : Option Bool :=
  match nilOf u x, nilOf u y with
  | some a, some true => some a
  | some true, some b => some b
  | _, _ => none

/-- '==' on what is no number and no string. -/
def eqBin (Γ : Ctx) (t : TypeId) (x y : AV) : Option Bool :=
  match Γ.ty t with
  | none => none
  | some ti => match ti.und, x, y with
    | .bool, .lit (.bool a), .lit (.bool b) => some (a == b)
    | .struct _, .agg xs, .agg ys => cond ti.plain (sameAt Γ 100 t xs 0 ys 0) none
    | .array _ _, .agg xs, .agg ys => cond ti.plain (sameAt Γ 100 t xs 0 ys 0) none
    | .slice e, x, y => nilEq (.slice e) x y
    | .map k e, x, y => nilEq (.map k e) x y
    | .pointer e, x, y => nilEq (.pointer e) x y
    | .func p r v, x, y => nilEq (.func p r v) x y
    | _, _, _ => none

def bin (Γ : Ctx) (op : BinOp) (t : TypeId) (x y : AV) : Option AV :=
  match x, y with
  | .lit (.int k a), .lit (.int k' b) => match op with
    | .shl => shiftBin .shl k a b
    | .shr => shiftBin .shr k a b
    | op => if k = k' then intBin op k a b else none
  | .str a, .str b => strBin op a b
  | x, y => match op with
    | .eql => (eqBin Γ t x y).map fun b => .lit (.bool b)
    | .neq => (eqBin Γ t x y).map fun b => .lit (.bool (!b))
    | _ => none

def un (op : UnOp) : AV → Option AV
  | .lit (.int k n) => match op with
    | .neg => some (.lit (.int k (k.wrap (0 - n))))
    | .xor => some (.lit (.int k (k.wrap (BitVec.ofInt k.bits (if k.signed then -1 else k.max) ^^^ BitVec.ofInt k.bits n).toNat)))
    | _ => none
  | .lit (.bool b) => match op with
    | .not => some (.lit (.bool (!b)))
    | _ => none
  | _ => none

def asNat : AV → Option Nat
  | .lit (.int _ n) => if 0 ≤ n then some n.toNat else none
  | _ => none

/-- The elements of a row of cells. -/
def chunks : Nat → Nat → List AV → List (List AV)
  | 0, _, _ => []
  | n + 1, sz, cs => cs.take sz :: chunks n sz (cs.drop sz)
def elems (i : TI) (n : Nat) (cs : List AV) : List AV :=
  cond i.isAgg ((chunks n i.size cs).map .agg) (cs.take n)

/-- What a slice holds. -/
def content (s : St) (i : TI) : AV → Option (List AV)
  | .sl _ es => some es
  | .rs _ _ b off len => match s.cellsAt b with
    | some cs => cond (Nat.ble (off + len * i.size) cs.length && Nat.blt 0 i.size) (some (elems i len (cs.drop off))) none
    | none => none
  | .str s => some (s.map fun b => .lit (.int .u8 b.toNat))
  | _ => none

def lenOf (s : St) : AV → Option Nat
  | .sl _ es => some es.length
  | .rs _ _ _ _ len => some len
  | .str s => some s.length
  | .lit (.map none) => some 0
  | .mp b => match s.objs.get b with
    | some (.map kvs) => some kvs.length
    | _ => none
  | _ => none

def lenAt (s : St) : TypeDesc → AV → Option Nat
  | .array n _, _ => some n
  | .slice _, .sl _ es => some es.length
  | .slice _, .rs _ _ _ _ len => some len
  | .string, .str l => some l.length
  | .map _ _, .lit (.map none) => some 0
  | .map _ _, .mp b => match s.objs.get b with
    | some (.map kvs) => some kvs.length
    | _ => none
  | _, _ => none

def toByte : AV → Option UInt8
  | .lit (.int .u8 n) => some (UInt8.ofNat n.toNat)
  | _ => none
def toBytes : List AV → Option (List UInt8)
  | [] => some []
  | v :: vs => match toByte v with
    | some b => (toBytes vs).map fun bs => b :: bs
    | none => none

def sliceContent (s : St) (i : TI) : AV → Option (List AV)
  | .sl tk es => content s i (.sl tk es)
  | .rs e sz b off len => content s i (.rs e sz b off len)
  | _ => none

def conv (Γ : Ctx) (s : St) (src dst : TypeId) (x : AV) : Option AV :=
  match Γ.ty src, Γ.ty dst with
  | some a, some b => match a.und, b.und, x with
    | _, .int k, .lit (.int _ n) => some (.lit (.int k (k.wrap n)))
    | _, .string, .str l => some (.str l)
    | _, .slice e, .str l => match Γ.ty e with
      | some ei => match ei.und with
        | .int .u8 => some (.sl .ro (l.map fun b => .lit (.int .u8 b.toNat)))
        | _ => none
      | none => none
    | .slice e, .string, x => match Γ.ty e with
      | some ei => match ei.und with
        | .int .u8 => cond (Nat.beq ei.size 1) (match sliceContent s ei x with
          | some es => (toBytes es).map .str
          | none => none) none
        | _ => none
      | none => none
    | _, _, _ => none
  | _, _ => none

def keyEq : AV → AV → Option Bool
  | .lit (.int k a), .lit (.int k' b) => if k = k' then some (a == b) else none
  | .lit (.bool a), .lit (.bool b) => some (a == b)
  | .str a, .str b => some (a == b)
  | _, _ => none
def isKey : TypeDesc → AV → Bool
  | .int _, .lit (.int _ _) => true
  | .bool, .lit (.bool _) => true
  | .string, .str _ => true
  | _, _ => false
def findKey (k : AV) : List (AV × AV) → Option (Option AV)
  | [] => some none
  | (k', v) :: r => match keyEq k k' with
    | some true => some (some v)
    | some false => findKey k r
    | none => none
def setKey (k v : AV) : List (AV × AV) → Option (List (AV × AV))
  | [] => some [(k, v)]
  | (k', v') :: r => match keyEq k k' with
    | some true => some ((k, v) :: r)
    | some false => (setKey k v r).map fun r => (k', v') :: r
    | none => none
def delKey (k : AV) : List (AV × AV) → Option (List (AV × AV))
  | [] => some []
  | (k', v') :: r => match keyEq k k' with
    | some true => some r
    | some false => (delKey k r).map fun r => (k', v') :: r
    | none => none

def mapFind (s : St) (k : AV) : AV → Option (Option AV)
  | .lit (.map none) => some none
  | .mp b => match s.objs.get b with
    | some (.map kvs) => findKey k kvs
    | _ => none
  | _ => none

/-- The place of a key, and what stands there. -/
def idxKey (k : AV) : List (AV × AV) → Nat → Option (Option (Nat × AV))
  | [], _ => some none
  | (k', v) :: r, i => match keyEq k k' with
    | some true => some (some (i, v))
    | some false => idxKey k r (i + 1)
    | none => none

/-- An entry of a map is looked up, or made. -/
def mapEnter (Γ : Ctx) (s : St) (t : TypeId) (m k : AV) : Option (AV × Option St) :=
  match Γ.ty t with
  | none => none
  | some ti => match ti.und, m with
    | .map kt e, .mp b => match Γ.ty kt, Γ.ty e, s.objs.get b with
      | some ki, some ei, some (.map kvs) => cond (isKey ki.und k && Nat.ble s.lock b) (match idxKey k kvs 0 with
        | some (some (i, v)) => some (.tup [v, .lit (.int .i64 i)], some { s with objs := s.objs.set b (.map (kvs.set i (k, v))) })
        | some none => match ei.zero with
          | some z => some (.tup [.ofValue z, .lit (.int .i64 kvs.length)], some { s with objs := s.objs.set b (.map (kvs ++ [(k, .ofValue z)])) })
          | none => none
        | none => none) none
      | _, _, _ => none
    | _, _ => none

/-- What stands in an entry is turned. -/
def mapFill (s : St) (m i v : AV) : Option (AV × Option St) :=
  match m, asNat i with
  | .mp b, some n => match s.objs.get b with
    | some (.map kvs) => match kvs[n]? with
      | some p => cond (Nat.ble s.lock b && !v.isLp) (some (.any, some { s with objs := s.objs.set b (.map (kvs.set n (p.1, v))) })) none
      | none => none
    | _ => none
  | _, _ => none

def lookup (Γ : Ctx) (s : St) (t : TypeId) (x i : AV) (ok : Bool) : Option AV :=
  match Γ.ty t with
  | none => none
  | some ti => match ti.und with
    | .map kt e => match Γ.ty kt, Γ.ty e with
      | some ki, some ei => cond (isKey ki.und i) (match mapFind s i x with
        | none => none
        | some (some v) => some (cond ok (.tup [v, .lit (.bool true)]) v)
        | some none => match ei.zero with
          | none => none
          | some z => some (cond ok (.tup [.ofValue z, .lit (.bool false)]) (.ofValue z))) none
      | _, _ => none
    | _ => none

/-- A part of a struct, array or slice literal. -/
def fits (i : TI) (v : AV) : Bool := v.isPart && Nat.beq v.cells.length i.size && (v matches .agg _) == i.isAgg

def layParts (pl : Nat → Option (Nat × Nat)) : List (Nat × AV) → List AV → Option (List AV)
  | [], cs => some cs
  | p :: r, cs => match pl p.1 with
    | some q => cond (p.2.isPart && Nat.beq p.2.cells.length q.2 && Nat.ble (q.1 + q.2) cs.length) (layParts pl r (setAll cs q.1 p.2.cells)) none
    | none => none

def fieldPlaces (Γ : Ctx) (fs : Array Field) (i : Nat) : Option (Nat × Nat) :=
  match fs[i]? with
  | some f => match Γ.ty f.type with
    | some fi => some (f.offset, fi.size)
    | none => none
  | none => none

def build (Γ : Ctx) (t : TypeId) (parts : List (Nat × AV)) : Option AV :=
  match Γ.ty t with
  | none => none
  | some ti => match ti.zero with
    | some (.agg z) => cond (z.toList.all Value.oneCell') (match ti.und with
      | .struct fs => cond (fs.toList.all fun f => (Γ.ty f.type).isSome) ((layParts (fieldPlaces Γ fs) parts (z.toList.map AV.ofCell)).map .agg) none
      | .array _ e => match Γ.ty e with
        | some ei => (layParts (fun i => some (i * ei.size, ei.size)) parts (z.toList.map AV.ofCell)).map .agg
        | none => none
      | _ => none) none
    | _ => none

def layElems (ei : TI) : List (Nat × AV) → List AV → Option (List AV)
  | [], es => some es
  | p :: r, es => cond (fits ei p.2 && Nat.blt p.1 es.length) (layElems ei r (es.set p.1 p.2.strip)) none

def buildElems (Γ : Ctx) (e : TypeId) (len : Nat) (parts : List (Nat × AV)) : Option (List AV) :=
  match Γ.ty e with
  | none => none
  | some ei => cond (Nat.ble (len * ei.size) 16777216 && Nat.blt 0 ei.size) (match ei.zero with
    | some z => cond (fits ei (.ofValue z)) (layElems ei parts (List.replicate len (AV.ofValue z).strip)) none
    | none => none) none

def loTok : Tok → Tok
  | .nil => .nil
  | .full => .full
  | _ => .ro
def natOpt : Option AV → Option (Option Nat)
  | none => some none
  | some v => (asNat v).map some

def slice (Γ : Ctx) (s : St) (t : TypeId) (x : AV) (lo hi : Option AV) : Option AV :=
  match Γ.ty t, natOpt lo, natOpt hi with
  | some ti, some lo, some hi => match ti.und, x with
    | .string, .str s => cond (Nat.ble (hi.getD s.length) s.length && Nat.ble (lo.getD 0) (hi.getD s.length))
        (some (.str (let s1 := hi.elim s s.take; lo.elim s1 s1.drop))) none
    | .slice e, .sl tk es => match Γ.ty e with
      | some ei => cond (Nat.ble (hi.getD es.length) es.length && Nat.ble (lo.getD 0) (hi.getD es.length) && (lo.isNone || es.all fun v => Nat.beq v.cells.length ei.size))
          (let t1 := hi.elim tk fun m => cond (Nat.beq m es.length) tk .ro
           let s1 := hi.elim es es.take
           some (.sl (lo.elim t1 fun _ => loTok t1) (lo.elim s1 s1.drop))) none
      | none => none
    | .slice e, .rs e' sz b off len => match Γ.ty e with
      | some ei => cond (Nat.ble (hi.getD len) len && Nat.ble (lo.getD 0) (hi.getD len) && Nat.beq ei.size sz) (some (.rs e' sz b (off + lo.getD 0 * ei.size) (hi.getD len - lo.getD 0))) none
      | none => none
    | .array n e, .hp b off => match Γ.ty e, s.cellsAt b with
      | some ei, some cs => cond (Nat.ble (hi.getD n) n && Nat.ble (lo.getD 0) (hi.getD n) && Nat.ble (off + n * ei.size) cs.length) (some (.rs e ei.size b (off + lo.getD 0 * ei.size) (hi.getD n - lo.getD 0))) none
      | _, _ => none
    | _, _ => none
  | _, _, _ => none

def fieldAddr (Γ : Ctx) (t : TypeId) (x : AV) (j : Nat) : Option AV :=
  match Γ.ty t with
  | none => none
  | some ti => match ti.und with
    | .struct fs => match fs[j]? with
      | some f => match Γ.ty f.type with
        | some fi => cond (Nat.beq fi.size 0) none (ptrAdd f.offset x)
        | none => none
      | none => none
    | _ => none

def field (Γ : Ctx) (t : TypeId) (x : AV) (j : Nat) : Option AV :=
  match Γ.ty t with
  | none => none
  | some ti => match ti.und, x with
    | .struct fs, .agg cs => match fs[j]? with
      | some f => match Γ.ty f.type with
        | some fi => partAt fi cs f.offset
        | none => none
      | none => none
    | _, _ => none

def indexAddr (Γ : Ctx) (t : TypeId) (x i : AV) : Option AV :=
  match Γ.ty t, asNat i with
  | some ti, some n => match ti.und with
    | .array len e => match Γ.ty e with
      | some ei => cond (Nat.blt n len) (ptrAdd (n * ei.size) x) none
      | none => none
    | .slice e => match Γ.ty e, x with
      | some ei, .sl _ es => match es[n]? with
        | some v => cond (Nat.beq v.cells.length ei.size) (some (.vp v.cells 0)) none
        | none => none
      | some ei, .rs _ _ b off len => cond (Nat.blt n len) (some (.hp b (off + n * ei.size))) none
      | _, _ => none
    | _ => none
  | _, _ => none

def index (Γ : Ctx) (t : TypeId) (x i : AV) : Option AV :=
  match Γ.ty t, asNat i with
  | some ti, some n => match ti.und, x with
    | .array len e, .agg cs => match Γ.ty e with
      | some ei => cond (Nat.blt n len) (partAt ei cs (n * ei.size)) none
      | none => none
    | .string, .str s => (s[n]?).map fun b => .lit (.int .u8 b.toNat)
    | _, _ => none
  | _, _ => none

def minMax (mx : Bool) : AV → AV → Option AV
  | .lit (.int k x), .lit (.int _ y) => some (.lit (.int k (if mx then (if y > x then y else x) else (if y < x then y else x))))
  | _, _ => none
def foldMin (mx : Bool) : AV → List AV → Option AV
  | v, [] => some v
  | v, y :: r => match minMax mx v y with
    | some v => foldMin mx v r
    | none => none

/-- The row of its own that an append makes: told by what it holds, or (hard) one that may be written. -/
def grown (hard : Bool) (s : St) (e : TypeId) (sz : Nat) (objs : Tr Obj) (es : List AV) : AV × Option St :=
  cond hard (.rs e sz s.next 0 es.length, some { s with next := s.next + 1, objs := objs.set s.next (.cells (es.flatMap AV.cells)) })
    (.sl (.tk s.next) es, some { s with next := s.next + 1, objs := objs.set s.next (.grow sz) })

def sized (sz : Nat) (es : List AV) : Bool := es.all fun v => Nat.beq v.cells.length sz

def appendTo (hard : Bool) (s : St) (e : TypeId) (ei : TI) (ys : List AV) : AV → Option (AV × Option St)
  | .sl tk es => cond (Nat.ble ((es.length + ys.length) * ei.bytes) 140737488355328) (match tk with
    | .nil => some (grown hard s e ei.size s.objs (es ++ ys))
    | .full => cond (sized ei.size es) (some (grown hard s e ei.size s.objs (es ++ ys))) none
    | .ro => none
    | .tk id => match s.objs.get id with
      | some (.grow sz) => cond (Nat.beq sz ei.size && Nat.ble s.lock id && !hard) (some (grown false s e sz (s.objs.put id none) (es ++ ys))) none
      | _ => none) none
  | .rs e' sz b off len => match s.cellsAt b with
    | some cs => cond (Nat.ble ((len + ys.length) * ei.bytes) 140737488355328 && Nat.beq off 0 && Nat.beq (len * sz) cs.length && Nat.blt 0 len && Nat.ble s.lock b && Nat.beq sz ei.size)
        (some (.rs e' sz s.next 0 (len + ys.length), some { s with next := s.next + 1, objs := (s.objs.put b none).set s.next (.cells (cs ++ ys.flatMap AV.cells)) })) none
    | none => none
  | _ => none

/-- append(x, ys...): the value, and the store where it turns. -/
def append (Γ : Ctx) (hard : Bool) (s : St) (t : TypeId) (x y : AV) : Option (AV × Option St) :=
  match Γ.ty t with
  | none => none
  | some ti => match ti.und with
    | .slice e => match Γ.ty e with
      | none => none
      | some ei => match content s ei y with
        | none => none
        | some [] => cond hard none (match x with
          | .sl tk es => some (.sl tk es, none)
          | .rs e sz b off len => some (.rs e sz b off len, none)
          | _ => none)
        | some (y :: ys) => cond (Nat.blt 0 ei.size && Nat.blt 0 ei.bytes && sized ei.size (y :: ys) && ei.zero.any fun z => Nat.beq z.cells.size ei.size) (appendTo hard s e ei (y :: ys) x) none
    | _ => none

def makeSlice (Γ : Ctx) (s : St) (t : TypeId) (l c : AV) : Option (AV × Option St) :=
  match Γ.ty t, asNat l, asNat c with
  | some ti, some l, some c => match ti.und with
    | .slice e => match Γ.ty e with
      | some ei => match ei.zero with
        | some z => cond (Nat.ble (c * ei.bytes) 140737488355328 && Nat.ble c 140737488355328 && Nat.blt 0 ei.size && fits ei (.ofValue z))
          (cond (Nat.beq c 0) (cond (Nat.beq l 0) (some (.sl .full [], none)) none)
            (cond (Nat.beq l c) (some (.rs e ei.size s.next 0 c, some { s with next := s.next + 1, objs := s.objs.set s.next (.cells ((List.replicate c (AV.ofValue z).cells).flatten)) }))
              (cond (Nat.beq l 0) (some (.sl (.tk s.next) [], some { s with next := s.next + 1, objs := s.objs.set s.next (.grow ei.size) })) none))) none
        | none => none
      | none => none
    | _ => none
  | _, _, _ => none

/-- A row of zero values. -/
def rowOf (Γ : Ctx) (t : TypeId) (l c : AV) : Option (TypeId × Nat × Nat × List AV) :=
  match Γ.ty t, asNat l, asNat c with
  | some ti, some l, some c => match ti.und with
    | .slice e => match Γ.ty e with
      | some ei => match ei.zero with
        | some z => cond (Nat.ble (c * ei.bytes) 140737488355328 && Nat.ble c 140737488355328 && Nat.blt 0 ei.size && fits ei (.ofValue z) && Nat.beq l c) (some (e, ei.size, c, (List.replicate c (AV.ofValue z).cells).flatten)) none
        | none => none
      | none => none
    | _ => none
  | _, _, _ => none

def copyTo (Γ : Ctx) (s : St) (t : TypeId) (x y : AV) : Option (AV × Option St) :=
  match Γ.ty t with
  | none => none
  | some ti => match ti.und with
    | .slice e => match Γ.ty e with
      | none => none
      | some ei => match x, content s ei y with
        | .rs _ _ b off len, some ys => match s.cellsAt b with
          | some cs =>
            let vs := (ys.take len).flatMap AV.cells
            cond (Nat.ble s.lock b && Nat.ble (off + vs.length) cs.length && (ys.all fun v => Nat.beq v.cells.length ei.size))
              (some (.lit (.int .i64 (min ys.length len : Nat)), some { s with objs := s.objs.set b (.cells (setAll cs off vs)) })) none
          | none => none
        | _, _ => none
    | _ => none

end
end Go.Vm

namespace Go.Vm
noncomputable section

def Fr.put (g : Fr) (d : Option Tmp) (v : AV) : Option Fr :=
  match d with
  | none => some g
  | some d => cond (Nat.blt d g.nt) (some { g with tm := g.tm.set d v }) none

/-- The result of an operation: its value, and the frame and the store where they turn. -/
abbrev Out := Option (AV × Option (Fr × St))

def quiet (v : Option AV) : Out := v.map fun v => (v, none)

def withSt (g : Fr) : Option (AV × Option St) → Out
  | some (v, some s) => some (v, some (g, s))
  | some (v, none) => some (v, none)
  | none => none

/-- Behind an escape: what follows runs over the frame and the store as they are then. -/
def thenOut (g : Fr) (s : St) (r : Option (Fr × St)) (k : Fr → St → Out) : Out :=
  match r with
  | none => k g s
  | some (g, s) => match k g s with
    | some (v, none) => some (v, some (g, s))
    | o => o

def mapSet (Γ : Ctx) (g : Fr) (s : St) (t : TypeId) (m k v : AV) : Out :=
  match Γ.ty t with
  | none => none
  | some ti => match ti.und, m with
    | .map kt _, .mp b => match Γ.ty kt, s.objs.get b with
      | some ki, some (.map kvs) => cond (isKey ki.und k && Nat.ble s.lock b && !v.isLp) (match setKey k v kvs with
        | some kvs => some (.any, some (g, { s with objs := s.objs.set b (.map kvs) }))
        | none => none) none
      | _, _ => none
    | _, _ => none

def mapDel (Γ : Ctx) (g : Fr) (s : St) (t : TypeId) (m k : AV) : Out :=
  match Γ.ty t with
  | none => none
  | some ti => match ti.und, m with
    | .map kt _, .mp b => match Γ.ty kt, s.objs.get b with
      | some ki, some (.map kvs) => cond (isKey ki.und k && Nat.ble s.lock b) (match delKey k kvs with
        | some kvs => some (.any, some (g, { s with objs := s.objs.set b (.map kvs) }))
        | none => none) none
      | _, _ => none
    | _, _ => none

/-- Calls of functions, as the machine makes them. -/
abbrev CallT := FuncId → List AV → St → Option (AV × St)

def builtinX (Γ : Ctx) (f : FuncId) (g : Fr) (s : St) (dst : Option Tmp) (b : Builtin) (ts : List TypeId) (vs : List AV) : Out :=
  match b, ts, vs with
  | .len, t :: _, v :: _ => match Γ.ty t with
    | none => none
    | some ti => quiet ((lenAt s ti.und v).map fun n => .lit (.int .i64 n))
  | .append, t :: u :: _, x :: y :: _ => match Γ.ty u with
    | none => none
    | some ui => match ui.und with
      | .slice _ => withSt g (append Γ (dst.any (Γ.hard f)) s t x y)
      | .string => withSt g (append Γ (dst.any (Γ.hard f)) s t x y)
      | _ => none
  | .copy, _, _ => none
  | .min, _, v :: vs => quiet (foldMin false v vs)
  | .max, _, v :: vs => quiet (foldMin true v vs)
  | .delete, _, _ => none
  | _, _, _ => none

def stripArgs (Γ : Ctx) (f : FuncId) (vs : List AV) : List AV := cond (Γ.keepA f) vs (vs.map AV.strip)

def opx (Γ : Ctx) (call : CallT) (f : FuncId) (g : Fr) (s : St) (dst : Option Tmp) : Op → Out
  | .move x => some (g.ev x, none)
  | .assign x => escape g s (g.ev x)
  | .pick c a b => match g.ev c with
    | .lit (.bool q) => some (if q then g.ev a else g.ev b, none)
    | _ => none
  | .alloc e => match Γ.ty e, dst with
    | some i, some d => match i.zero, g.lo.get d with
      | some z, none => cond (fits i (.ofValue z)) (some (.lp d 0, some ({ g with lo := g.lo.set d (.own (AV.ofValue z).cells) }, s))) none
      | _, _ => none
    | _, _ => none
  | .box _ x => match dst, escape g s (g.ev x) with
    | some d, some (v, r) => thenOut g s r fun g s => match g.lo.get d with
      | none => cond v.isPart (some (.lp d 0, some ({ g with lo := g.lo.set d (.own v.cells) }, s))) none
      | some _ => none
    | _, _ => none
  | .build t parts => match escapes g s (parts.toList.map fun p => g.ev p.2) with
    | some (vs, r) => thenOut g s r fun _ _ => quiet (build Γ t ((parts.toList.map fun p => p.1).zip vs))
    | none => none
  | .buildSlice t len parts => match Γ.ty t with
    | none => none
    | some ti => match ti.und with
      | .slice e => match buildElems Γ e len (parts.toList.map fun p => (p.1, g.ev p.2)) with
        | some es => cond (dst.any (Γ.hard f) && !es.isEmpty)
            (some (.rs e ((Γ.ty e).elim 0 TI.size) s.next 0 es.length, some (g, { s with next := s.next + 1, objs := s.objs.set s.next (.cells (es.flatMap AV.cells)) })))
            (some (.sl .full es, none))
        | none => none
      | _ => none
  | .load t p => match Γ.ty t, deref g s (g.ev p) with
    | some i, some (cs, off) => quiet (partAt i cs off)
    | _, _ => none
  | .store t p x => match Γ.ty t, escape g s (g.ev x) with
    | some i, some (v, r) => thenOut g s r fun g s => cond (v.isPart && Nat.beq v.cells.length i.size) (match storeAt g s (g.ev p) v.cells with
      | some gs => some (.any, some gs)
      | none => none) none
    | _, _ => none
  | .nilCheck x => match g.ev x with
    | .hp b off => some (.hp b off, none)
    | .lp t off => some (.lp t off, none)
    | .vp cs off => some (.vp cs off, none)
    | .fn h caps => some (.fn h caps, none)
    | _ => none
  | .binOp op t x y _ => quiet (bin Γ op t (g.ev x) (g.ev y))
  | .unOp op _ x => quiet (un op (g.ev x))
  | .convert src dst x => quiet (conv Γ s src dst (g.ev x))
  | .makeFunc (.func h) first caps => cond first.isEmpty (match escapes g s (caps.toList.map g.ev) with
    | some (vs, r) => some (.fn h vs, r)
    | none => none) none
  | .makeMap t r => match Γ.ty t with
    | none => none
    | some ti => match ti.und with
      | .map _ _ => cond (r.isNone || r.any fun x => (asNat (g.ev x)).isSome) (cond (dst.any (Γ.hard f))
          (match dst with
            | some d => match g.lo.get d with
              | none => some (.lm d, some ({ g with lo := g.lo.set d .map0 }, s))
              | some _ => none
            | none => none)
          (some (.mp s.next, some (g, { s with next := s.next + 1, objs := s.objs.set s.next (.map []) })))) none
      | _ => none
  | .makeSlice t l c => cond (dst.any (Γ.hard f)) (match dst, rowOf Γ t (g.ev l) (g.ev c) with
    | some d, some (e, sz, n, cs) => match g.lo.get d with
      | none => some (.ls e sz d n, some ({ g with lo := g.lo.set d (.own cs) }, s))
      | some _ => none
    | _, _ => none) (withSt g (makeSlice Γ s t (g.ev l) (g.ev c)))
  | .slice t x lo hi mx => cond mx.isSome none (match g.ev x with
    | .lp k off => match promote g s k with
      | some (b, g1, s1) => match slice Γ s1 t (.hp b off) (lo.map g.ev) (hi.map g.ev) with
        | some v => some (v, some (g1, s1))
        | none => none
      | none => none
    | v => quiet (slice Γ s t v (lo.map g.ev) (hi.map g.ev)))
  | .fieldAddr t x j => quiet (fieldAddr Γ t (g.ev x) j)
  | .field t x j => quiet (field Γ t (g.ev x) j)
  | .indexAddr t x i => quiet (indexAddr Γ t (g.ev x) (g.ev i))
  | .index t x i => quiet (index Γ t (g.ev x) (g.ev i))
  | .lookup t x i ok => quiet (lookup Γ s t (g.ev x) (g.ev i) ok)
  | .mapUpdate t m k x => match escape g s (g.ev x) with
    | some (v, r) => thenOut g s r fun g s => mapSet Γ g s t (g.ev m) (g.ev k) v
    | none => none
  | .insert t m k x => match escape g s (g.ev x) with
    | some (v, r) => thenOut g s r fun g s => mapSet Γ g s t (g.ev m) (g.ev k) v
    | none => none
  | .mapEntry t m k => withSt g (mapEnter Γ s t (g.ev m) (g.ev k))
  | .entryStore _ m i x => withSt g (mapFill s (g.ev m) (g.ev i) (g.ev x))
  | .extract t i => match g.ev t with
    | .tup vs => quiet (vs[i]?)
    | _ => none
  | .call c => match c.callee with
    | .builtin b => builtinX Γ f g s dst b c.argTypes.toList (c.args.toList.map g.ev)
    | .value x => match g.ev x, escapes g s (c.args.toList.map g.ev) with
      | .fn h caps, some (vs, r) => thenOut g s r fun g s => match call h (stripArgs Γ h (vs ++ caps)) s with
        | some (v, s1) => cond (Γ.scope h) (some (v, none)) (some (v, some (g, s1)))
        | none => none
      | _, _ => none
    | _ => none
  | _ => none

def oPick (Γ : Ctx) (call : CallT) (f : FuncId) (g : Fr) (s : St) (dst : Option Tmp) (c : Operand) (a : Operand) (b : Operand) : Out :=
  match g.ev c with
    | .lit (.bool q) => some (if q then g.ev a else g.ev b, none)
    | _ => none

def oAlloc (Γ : Ctx) (call : CallT) (f : FuncId) (g : Fr) (s : St) (dst : Option Tmp) (e : TypeId) : Out :=
  match Γ.ty e, dst with
    | some i, some d => match i.zero, g.lo.get d with
      | some z, none => cond (fits i (.ofValue z)) (some (.lp d 0, some ({ g with lo := g.lo.set d (.own (AV.ofValue z).cells) }, s))) none
      | _, _ => none
    | _, _ => none

def oBox (Γ : Ctx) (call : CallT) (f : FuncId) (g : Fr) (s : St) (dst : Option Tmp) (x : Operand) : Out :=
  match dst, escape g s (g.ev x) with
    | some d, some (v, r) => thenOut g s r fun g s => match g.lo.get d with
      | none => cond v.isPart (some (.lp d 0, some ({ g with lo := g.lo.set d (.own v.cells) }, s))) none
      | some _ => none
    | _, _ => none

def oBuild (Γ : Ctx) (call : CallT) (f : FuncId) (g : Fr) (s : St) (dst : Option Tmp) (t : TypeId) (parts : Array (Nat × Operand)) : Out :=
  match escapes g s (parts.toList.map fun p => g.ev p.2) with
    | some (vs, r) => thenOut g s r fun _ _ => quiet (build Γ t ((parts.toList.map fun p => p.1).zip vs))
    | none => none

def oBuildslice (Γ : Ctx) (call : CallT) (f : FuncId) (g : Fr) (s : St) (dst : Option Tmp) (t : TypeId) (len : Nat) (parts : Array (Nat × Operand)) : Out :=
  match Γ.ty t with
    | none => none
    | some ti => match ti.und with
      | .slice e => match buildElems Γ e len (parts.toList.map fun p => (p.1, g.ev p.2)) with
        | some es => cond (dst.any (Γ.hard f) && !es.isEmpty)
            (some (.rs e ((Γ.ty e).elim 0 TI.size) s.next 0 es.length, some (g, { s with next := s.next + 1, objs := s.objs.set s.next (.cells (es.flatMap AV.cells)) })))
            (some (.sl .full es, none))
        | none => none
      | _ => none

def oLoad (Γ : Ctx) (call : CallT) (f : FuncId) (g : Fr) (s : St) (dst : Option Tmp) (t : TypeId) (p : Operand) : Out :=
  match Γ.ty t, deref g s (g.ev p) with
    | some i, some (cs, off) => quiet (partAt i cs off)
    | _, _ => none

def oStore (Γ : Ctx) (call : CallT) (f : FuncId) (g : Fr) (s : St) (dst : Option Tmp) (t : TypeId) (p : Operand) (x : Operand) : Out :=
  match Γ.ty t, escape g s (g.ev x) with
    | some i, some (v, r) => thenOut g s r fun g s => cond (v.isPart && Nat.beq v.cells.length i.size) (match storeAt g s (g.ev p) v.cells with
      | some gs => some (.any, some gs)
      | none => none) none
    | _, _ => none

def oNilcheck (Γ : Ctx) (call : CallT) (f : FuncId) (g : Fr) (s : St) (dst : Option Tmp) (x : Operand) : Out :=
  match g.ev x with
    | .hp b off => some (.hp b off, none)
    | .lp t off => some (.lp t off, none)
    | .vp cs off => some (.vp cs off, none)
    | .fn h caps => some (.fn h caps, none)
    | _ => none

def oMakeFunc (Γ : Ctx) (call : CallT) (f : FuncId) (g : Fr) (s : St) (dst : Option Tmp) (h : FuncId) (first : Array Operand) (caps : Array Operand) : Out :=
  cond first.isEmpty (match escapes g s (caps.toList.map g.ev) with
    | some (vs, r) => some (.fn h vs, r)
    | none => none) none

def oMakemap (Γ : Ctx) (call : CallT) (f : FuncId) (g : Fr) (s : St) (dst : Option Tmp) (t : TypeId) (r : Option Operand) : Out :=
  match Γ.ty t with
    | none => none
    | some ti => match ti.und with
      | .map _ _ => cond (r.isNone || r.any fun x => (asNat (g.ev x)).isSome) (cond (dst.any (Γ.hard f))
          (match dst with
            | some d => match g.lo.get d with
              | none => some (.lm d, some ({ g with lo := g.lo.set d .map0 }, s))
              | some _ => none
            | none => none)
          (some (.mp s.next, some (g, { s with next := s.next + 1, objs := s.objs.set s.next (.map []) })))) none
      | _ => none

def oSlice (Γ : Ctx) (call : CallT) (f : FuncId) (g : Fr) (s : St) (dst : Option Tmp) (t : TypeId) (x : Operand) (lo : Option Operand) (hi : Option Operand) (mx : Option Operand) : Out :=
  cond mx.isSome none (match g.ev x with
    | .lp k off => match promote g s k with
      | some (b, g1, s1) => match slice Γ s1 t (.hp b off) (lo.map g.ev) (hi.map g.ev) with
        | some v => some (v, some (g1, s1))
        | none => none
      | none => none
    | v => quiet (slice Γ s t v (lo.map g.ev) (hi.map g.ev)))

def oMapupdate (Γ : Ctx) (call : CallT) (f : FuncId) (g : Fr) (s : St) (dst : Option Tmp) (t : TypeId) (m : Operand) (k : Operand) (x : Operand) : Out :=
  match escape g s (g.ev x) with
    | some (v, r) => thenOut g s r fun g s => mapSet Γ g s t (g.ev m) (g.ev k) v
    | none => none

def oInsert (Γ : Ctx) (call : CallT) (f : FuncId) (g : Fr) (s : St) (dst : Option Tmp) (t : TypeId) (m : Operand) (k : Operand) (x : Operand) : Out :=
  match escape g s (g.ev x) with
    | some (v, r) => thenOut g s r fun g s => mapSet Γ g s t (g.ev m) (g.ev k) v
    | none => none

def oExtract (Γ : Ctx) (call : CallT) (f : FuncId) (g : Fr) (s : St) (dst : Option Tmp) (t : Operand) (i : Nat) : Out :=
  match g.ev t with
    | .tup vs => quiet (vs[i]?)
    | _ => none

def oCall (Γ : Ctx) (call : CallT) (f : FuncId) (g : Fr) (s : St) (dst : Option Tmp) (c : Call) : Out :=
  match c.callee with
    | .builtin b => builtinX Γ f g s dst b c.argTypes.toList (c.args.toList.map g.ev)
    | .value x => match g.ev x, escapes g s (c.args.toList.map g.ev) with
      | .fn h caps, some (vs, r) => thenOut g s r fun g s => match call h (stripArgs Γ h (vs ++ caps)) s with
        | some (v, s1) => cond (Γ.scope h) (some (v, none)) (some (v, some (g, s1)))
        | none => none
      | _, _ => none
    | _ => none

/-- The same, laid out so that each operation opens its own text alone. -/
def opxF (Γ : Ctx) (call : CallT) (f : FuncId) (g : Fr) (s : St) (dst : Option Tmp) : Op → Out
  | .move x => some (g.ev x, none)
  | .assign x => escape g s (g.ev x)
  | .pick c a b => oPick Γ call f g s dst c a b
  | .alloc e => oAlloc Γ call f g s dst e
  | .box _ x => oBox Γ call f g s dst x
  | .build t parts => oBuild Γ call f g s dst t parts
  | .buildSlice t len parts => oBuildslice Γ call f g s dst t len parts
  | .load t p => oLoad Γ call f g s dst t p
  | .store t p x => oStore Γ call f g s dst t p x
  | .nilCheck x => oNilcheck Γ call f g s dst x
  | .binOp op t x y _ => quiet (bin Γ op t (g.ev x) (g.ev y))
  | .unOp op _ x => quiet (un op (g.ev x))
  | .convert src dst x => quiet (conv Γ s src dst (g.ev x))
  | .makeFunc (.func h) first caps => oMakeFunc Γ call f g s dst h first caps
  | .makeMap t r => oMakemap Γ call f g s dst t r
  | .makeSlice t l c => cond (dst.any (Γ.hard f)) (match dst, rowOf Γ t (g.ev l) (g.ev c) with
    | some d, some (e, sz, n, cs) => match g.lo.get d with
      | none => some (.ls e sz d n, some ({ g with lo := g.lo.set d (.own cs) }, s))
      | some _ => none
    | _, _ => none) (withSt g (makeSlice Γ s t (g.ev l) (g.ev c)))
  | .slice t x lo hi mx => oSlice Γ call f g s dst t x lo hi mx
  | .fieldAddr t x j => quiet (fieldAddr Γ t (g.ev x) j)
  | .field t x j => quiet (field Γ t (g.ev x) j)
  | .indexAddr t x i => quiet (indexAddr Γ t (g.ev x) (g.ev i))
  | .index t x i => quiet (index Γ t (g.ev x) (g.ev i))
  | .lookup t x i ok => quiet (lookup Γ s t (g.ev x) (g.ev i) ok)
  | .mapUpdate t m k x => oMapupdate Γ call f g s dst t m k x
  | .insert t m k x => oInsert Γ call f g s dst t m k x
  | .mapEntry t m k => withSt g (mapEnter Γ s t (g.ev m) (g.ev k))
  | .entryStore _ m i x => withSt g (mapFill s (g.ev m) (g.ev i) (g.ev x))
  | .extract t i => oExtract Γ call f g s dst t i
  | .call c => oCall Γ call f g s dst c
  | _ => none

theorem opxF_eq : opxF = opx := by
  funext Γ call f g s dst op
  cases op with
  | makeFunc fn a b => cases fn <;> rfl
  | _ => rfl

/-! ### A region -/

/-- Is the operation wanted? -/
def wantedV (ops : List Oper) (g : Fr) (o : Oper) : Option Bool :=
  match o.guard with
  | none => some true
  | some (j, want) => match (ops[j]?).bind (·.dst) with
    | some d => match g.tm.get d with
      | some (.lit (.bool b)) => some (b == want)
      | some (.lit (.tuple _)) => some false
      | _ => none
    | none => none

def oper1 (Γ : Ctx) (call : CallT) (f : FuncId) (ops : List Oper) (o : Oper) (g : Fr) (s : St) : Option (Fr × St) :=
  match wantedV ops g o with
  | some true => match opxF Γ call f g s o.dst o.op with
    | some (v, none) => (g.put o.dst v).map fun g => (g, s)
    | some (v, some (g, s)) => (g.put o.dst v).map fun g => (g, s)
    | none => none
  | some false => (g.put o.dst (.lit undef)).map fun g => (g, s)
  | none => none

def runOps (Γ : Ctx) (call : CallT) (f : FuncId) (ops : List Oper) : List Oper → Fr → St → Option (Fr × St)
  | [], g, s => some (g, s)
  | o :: r, g, s => match oper1 Γ call f ops o g s with
    | some (g, s) => runOps Γ call f ops r g s
    | none => none

/-- What a quiet operation reads: locals, cells and maps of the store, the whole store. What a loud one turns: locals, cells and maps among those that lie below the bound, the store at all, all that lies in it. -/
structure Eff where
  rl : List Nat
  ri : List Nat
  ra : Bool
  wl : List Nat
  wi : List Nat
  nx : Nat
  loud : Bool
  hw : Bool
  all : Bool
  /-- reads of cells: the row, the place, how many, and whether they are an aggregate's -/
  rc : List (Nat × Nat × Nat × Bool)
  /-- the store ahead of the operation and behind it -/
  ss : Option (St × St)

def Eff.none : Eff := ⟨[], [], false, [], [], 0, false, false, false, [], .none⟩
def Eff.at (e : Eff) (s s1 : St) : Eff := { e with ss := some (s, s1) }

/-- Are two plain values the same, as far as can be told? -/
def sameV (v w : Value) : Bool :=
  match v with
  | .int k a => (match w with | .int k' b => decide (k = k') && decide (a = b) | _ => false)
  | .bool a => (match w with | .bool b => a == b | _ => false)
  | .nilFunc => (match w with | .nilFunc => true | _ => false)
  | .map r => (match r, w with | .none, .map .none => true | _, _ => false)
  | .pointer r => (match r, w with | .none, .pointer .none => true | _, _ => false)
  | _ => false
def sameTok : Tok → Tok → Bool
  | .nil, .nil => true
  | .ro, .ro => true
  | .full, .full => true
  | .tk i, .tk j => Nat.beq i j
  | _, _ => false

mutual
/-- Are two values the same, as far as can be told? -/
def AV.same : AV → AV → Bool
  | .any, .any => true
  | .lit v, .lit w => sameV v w
  | .str a, .str b => a == b
  | .agg a, .agg b => sameL a b
  | .tup a, .tup b => sameL a b
  | .sl t a, .sl u b => sameTok t u && sameL a b
  | .rs e sz b off len, .rs e' sz' b' off' len' => Nat.beq e e' && Nat.beq sz sz' && Nat.beq b b' && Nat.beq off off' && Nat.beq len len'
  | .vp a i, .vp b j => Nat.beq i j && sameL a b
  | .hp b i, .hp b' j => Nat.beq b b' && Nat.beq i j
  | .lp b i, .lp b' j => Nat.beq b b' && Nat.beq i j
  | .lm b, .lm b' => Nat.beq b b'
  | .ls e sz b len, .ls e' sz' b' len' => Nat.beq e e' && Nat.beq sz sz' && Nat.beq b b' && Nat.beq len len'
  | .mp b, .mp b' => Nat.beq b b'
  | .fn f a, .fn g b => Nat.beq f g && sameL a b
  | _, _ => false
def sameL : List AV → List AV → Bool
  | [], [] => true
  | a :: r, b :: r' => AV.same a b && sameL r r'
  | _, _ => false
end

def readAt (s : St) (r : Nat × Nat × Nat × Bool) : Option AV :=
  match s.cellsAt r.1 with
  | some cs => cond r.2.2.2 (takeAt cs r.2.1 r.2.2.1) (cs[r.2.1]?)
  | .none => .none

def sameO : Option AV → Option AV → Bool
  | some a, some b => AV.same a b
  | _, _ => false

def AV.offOf : AV → Nat
  | .hp _ off => off
  | .lp _ off => off
  | _ => 0
def lpKey : AV → List Nat
  | .lp t _ => [t]
  | .lm t => [t]
  | .ls _ _ t _ => [t]
  | _ => []
def hpIds (g : Fr) : AV → List Nat
  | .hp b _ => [b]
  | .lp t _ => match g.lo.get t with
    | some (.fwd b) => [b]
    | _ => []
  | _ => []
def rsIds : AV → List Nat
  | .rs _ _ b _ _ => [b]
  | .mp b => [b]
  | _ => []

def effR (Γ : Ctx) (g : Fr) : Op → Eff
  | .load t p => { Eff.none with rl := lpKey (g.ev p), rc := (hpIds g (g.ev p)).map fun b => (b, (g.ev p).offOf, (match Γ.ty t with | some i => (i.size, i.isAgg) | none => (0, false))) }
  | .lookup _ x _ _ => { Eff.none with ri := rsIds (g.ev x) }
  | .convert _ _ x => { Eff.none with ri := rsIds (g.ev x) }
  | .slice _ x _ _ _ => { Eff.none with ri := hpIds g (g.ev x) }
  | .call c => match c.callee with
    | .builtin _ => { Eff.none with ri := (c.args.toList.map g.ev).flatMap rsIds }
    | _ => { Eff.none with ra := true }
  | _ => Eff.none

def effW (Γ : Ctx) (f : FuncId) (g : Fr) (s : St) (dst : Option Tmp) : Op → Eff
  | .alloc _ => ⟨[], [], false, dst.toList, [], s.next, true, false, false, [], .none⟩
  | .makeMap _ _ => cond (dst.any (Γ.hard f)) ⟨[], [], false, dst.toList, [], s.next, true, false, false, [], .none⟩ ⟨[], [], false, [], [], s.next, true, true, false, [], .none⟩
  | .makeSlice _ _ _ => cond (dst.any (Γ.hard f)) ⟨[], [], false, dst.toList, [], s.next, true, false, false, [], .none⟩ ⟨[], [], false, [], [], s.next, true, true, false, [], .none⟩
  | .build _ ps => ⟨[], [], false, (ps.toList.map fun p => g.ev p.2).flatMap lpKey, [], s.next, true, true, false, [], .none⟩
  | .box _ x => ⟨[], [], false, dst.toList ++ lpKey (g.ev x), [], s.next, true, (g.ev x).isLp, false, [], .none⟩
  | .store _ p x => ⟨[], [], false, lpKey (g.ev p) ++ lpKey (g.ev x), hpIds g (g.ev p), s.next, true, (g.ev x).isLp || !(hpIds g (g.ev p)).isEmpty, false, [], .none⟩
  | .mapUpdate _ m _ x => ⟨[], [], false, lpKey (g.ev x), rsIds (g.ev m), s.next, true, true, false, [], .none⟩
  | .mapEntry _ m _ => ⟨[], [], false, [], rsIds (g.ev m), s.next, true, true, false, [], .none⟩
  | .entryStore _ m _ _ => ⟨[], [], false, [], rsIds (g.ev m), s.next, true, true, false, [], .none⟩
  | .insert _ m _ x => ⟨[], [], false, lpKey (g.ev x), rsIds (g.ev m), s.next, true, true, false, [], .none⟩
  | .call c => match c.callee with
    | .builtin _ => ⟨[], [], false, [], (c.args.toList.map g.ev).flatMap rsIds, s.next, true, true, false, [], .none⟩
    | .value x => ⟨[], [], false, (c.args.toList.map g.ev).flatMap lpKey, [], s.next, true, true, match g.ev x with | .fn h _ => !Γ.scope h | _ => true, [], .none⟩
    | _ => ⟨[], [], false, [], [], s.next, true, true, true, [], .none⟩
  | .assign x => ⟨[], [], false, lpKey (g.ev x), [], s.next, true, true, false, [], .none⟩
  | .slice _ x _ _ _ => ⟨[], [], false, lpKey (g.ev x), [], s.next, true, true, false, [], .none⟩
  | .makeFunc _ _ caps => ⟨[], [], false, (caps.toList.map g.ev).flatMap lpKey, [], s.next, true, true, false, [], .none⟩
  | _ => ⟨[], [], false, [], [], s.next, true, true, false, [], .none⟩

def meets (a b : List Nat) : Bool := a.any fun x => b.any fun y => Nat.beq x y

/-- A read of cells that the operation does not turn. -/
def rcOk (r : Nat × Nat × Nat × Bool) (b : Eff) : Bool :=
  !b.hw || (!b.all && Nat.blt r.1 b.nx && !(b.wi.any (Nat.beq r.1))) || match b.ss with
    | some (s, s1) => sameO (readAt s r) (readAt s1 r)
    | .none => false

/-- Does the one read what the other turns? -/
def Eff.sees (a b : Eff) : Bool :=
  b.loud && (meets a.rl b.wl || (a.ra && b.hw) || (!a.ri.isEmpty && b.all) || (a.ri.any fun id => !(Nat.blt id b.nx) || b.wi.any (Nat.beq id)) || a.rc.any fun r => !(rcOk r b))

/-- May two operations that are not ordered stand side by side? -/
def Eff.clash (a b : Eff) : Bool := (a.loud && b.loud && ((a.hw && b.hw) || meets a.wl b.wl)) || a.sees b || b.sees a

def Eff.still (a : Eff) : Bool := !a.loud && a.rl.isEmpty && a.ri.isEmpty && !a.ra && a.rc.isEmpty

/-- A record of what has run: its place, what it reads and turns. -/
structure Rec where
  i : Nat
  e : Eff

/-- The places that come ahead of an operation on every road, as a mask. -/
def maskOf (ms : List Nat) (o : Oper) : Nat :=
  o.after.toList.foldl (fun m e => cond (Region.binds .any e) (Nat.lor m (Nat.lor (Nat.shiftLeft 1 e.on) (ms.getD e.on 0))) m) 0

def masks : List Oper → List Nat → List Nat
  | [], acc => acc
  | o :: r, acc => masks r (acc ++ [maskOf acc o])

/-- The tmps that an operation names: where it writes, what it reads, its guard's. -/
def tmpsOf (ops : List Oper) (o : Oper) : List Tmp :=
  o.op.operands.toList.filterMap (fun | .tmp t => some t | _ => none) ++ (match o.guard with | some (j, _) => ((ops[j]?).bind (·.dst)).toList | none => [])

/-- Two operations at places i < j: if one writes what the other names they are ordered. -/
def tmpsApart (ops : List Oper) (ms : List Nat) (i j : Nat) (a b : Oper) : Bool :=
  (ms.getD j 0).testBit i ||
  !((match a.dst with | some d => (tmpsOf ops b).any (Nat.beq d) || b.dst.any (Nat.beq d) | none => false) ||
    (match b.dst with | some d => (tmpsOf ops a).any (Nat.beq d) | none => false))

def allPairs (p : Nat → Nat → Oper → Oper → Bool) : Nat → List Oper → Bool
  | _, [] => true
  | i, o :: r => (r.zipIdx (i + 1)).all (fun q => p i q.2 o q.1) && allPairs p (i + 1) r

/-- The edges go backwards, no two select, and whoever shares a tmp is ordered. -/
def shapeOk (ops : List Oper) : Bool :=
  let ms := masks ops []
  ops.zipIdx.all (fun q => q.1.after.toList.all fun e => !Region.binds .any e || Nat.blt e.on q.2) &&
  ops.all (fun o => match o.op with | .select .. => false | _ => true) &&
  allPairs (tmpsApart ops ms) 0 ops

/-- May the operation at i stand to those before it as it does? -/
def clear (ms : List Nat) (i : Nat) (e : Eff) : List Rec → Bool
  | [] => true
  | q :: r => cond (q.e.loud || e.loud) (cond (q.e.clash e) (cond ((ms.getD i 0).testBit q.i) (clear ms i e r) false) (clear ms i e r)) (clear ms i e r)

/-- The record of one more operation, where it stands to those before it as it may. -/
def addRec (ms : List Nat) (i : Nat) (e : Eff) (rs : List Rec) : Option (List Rec) :=
  cond e.still (some rs) (cond (clear ms i e rs) (some (⟨i, e⟩ :: rs)) none)

/-- The run in the order of the text, with its records, the latest first. -/
def runRec (Γ : Ctx) (call : CallT) (f : FuncId) (ops : List Oper) (ms : List Nat) : Nat → List Oper → Fr → St → List Rec → Option (Fr × St)
  | _, [], g, s, rs => some (g, s)
  | i, o :: r, g, s, rs => match wantedV ops g o with
    | some true => match opxF Γ call f g s o.dst o.op with
      | some (v, none) => match g.put o.dst v, addRec ms i (effR Γ g o.op) rs with
        | some g', some rs => runRec Γ call f ops ms (i + 1) r g' s rs
        | _, _ => none
      | some (v, some (g1, s1)) => match g1.put o.dst v, addRec ms i ((effW Γ f g s o.dst o.op).at s s1) rs with
        | some g', some rs => runRec Γ call f ops ms (i + 1) r g' s1 rs
        | _, _ => none
      | none => none
    | some false => match g.put o.dst (.lit undef) with
      | some g' => runRec Γ call f ops ms (i + 1) r g' s rs
      | none => none
    | none => none

def runDraw (Γ : Ctx) (call : CallT) (f : FuncId) (ops : List Oper) (g : Fr) (s : St) : Option (Fr × St) :=
  cond (shapeOk ops) (runRec Γ call f ops (masks ops []) 0 ops g s []) none

/-! ### Code -/

def firstRegion : Code → Option Nat
  | .region id _ _ => some id
  | .seq a _ => firstRegion a
  | .block _ c => firstRegion c
  | .loop c => firstRegion c
  | _ => none

/-- What of the frame is kept at a loop's head: locals and tmps as told, and no pointer to a local that is gone. -/
def keepLo (lo : Tr LObj) (ks : List Nat) : Tr LObj := ks.foldl (fun acc k => match lo.get k with | some o => acc.set k o | none => acc) .nil
def keepTm (tm : Tr AV) (lo : Tr LObj) (ks : List Nat) : Tr AV := ks.foldl (fun acc k => match tm.get k with
  | some v => match v.key with
    | some t => match lo.get t with
      | some _ => acc.set k v
      | none => acc
    | none => acc.set k v
  | none => acc) .nil
def Fr.keep (g : Fr) (ts ls : List Nat) : Fr :=
  let lo := keepLo g.lo ls
  { g with tm := keepTm g.tm lo ts, lo := lo }

/-- The same where nothing is told: all tmps, and the locals that were there when the loop began. -/
def Tr.filter {α : Type} (p : Nat → α → Bool) : Tr α → Nat → Nat → Tr α
  | .nil, _, _ => .nil
  | .node l v r, a, b => .node (filter p l (2 * a) (b + a)) (match v with | some x => cond (p b x) (some x) none | none => none) (filter p r (2 * a) (b + 2 * a))
def Fr.keepAll (g : Fr) (lo0 : Tr LObj) : Fr :=
  let lo := g.lo.filter (fun k _ => (lo0.get k).isSome) 1 0
  { g with tm := g.tm.filter (fun _ v => match v.key with | some t => (lo.get t).isSome | none => true) 1 0, lo := lo }

def loopN (body : Fr → St → Option (Ex × Fr × St)) : Nat → Fr → St → Option (Ex × Fr × St)
  | 0, _, _ => none
  | k + 1, g, s => match body g s with
    | some (.normal, g, s) => loopN body k g s
    | r => r

def exec (Γ : Ctx) (call : CallT) (f : FuncId) (n : Nat) : Code → Fr → St → Option (Ex × Fr × St)
  | .skip, g, s => some (.normal, g, s)
  | .region _ ops draw, g, s => match (cond draw (runDraw Γ call f ops.toList g s) (runOps Γ call f ops.toList ops.toList g s)) with
    | some (g, s) => some (.normal, g, s)
    | none => none
  | .seq a b, g, s => match exec Γ call f n a g s with
    | some (.normal, g, s) => exec Γ call f n b g s
    | r => r
  | .cond c x y, g, s => match g.ev c with
    | .lit (.bool b) => if b then exec Γ call f n x g s else exec Γ call f n y g s
    | _ => none
  | .block id c, g, s => match exec Γ call f n c g s with
    | some (.exit j, g, s) => cond (Nat.beq j id) (some (.normal, g, s)) (some (.exit j, g, s))
    | r => r
  | .loop c, g, s => match (firstRegion c).bind (Γ.live f) with
    | some (ts, ls) => loopN (fun g s => exec Γ call f n c (g.keep ts ls) s) n g s
    | none => loopN (fun g' s => exec Γ call f n c (g'.keepAll g.lo) s) n g s
  | .exit id, g, s => some (.exit id, g, s)
  | .ret, g, s => some (.ret, g, s)
  | _, _, _ => none

/-! ### Calls -/

def resOf (Γ : Ctx) (g : Fr) (s : St) : List ResultVar → Option (List AV)
  | [] => some []
  | .tmp t :: r => match g.ev (.tmp t) with
    | .lp _ _ => none
    | .lm _ => none
    | .ls .. => none
    | v => (resOf Γ g s r).map fun vs => v :: vs
  | .cell a t :: r => match Γ.ty t, deref g s (g.ev (.tmp a)) with
    | some i, some (cs, off) => match partAt i cs off with
      | some v => (resOf Γ g s r).map fun vs => v :: vs
      | none => none
    | _, _ => none

def oneOf : List AV → AV
  | [v] => v
  | vs => .tup vs

def freezeTok : Tok → Tok
  | .tk _ => .ro
  | t => t

def mapO {α β : Type} (f : α → Option β) : List α → Option (List β)
  | [] => some []
  | x :: xs => match f x with
    | some y => (mapO f xs).map fun ys => y :: ys
    | none => none

/-- The value told by what it holds, and by nothing that lies in the store. -/
def freezeV (Γ : Ctx) (s : St) : Nat → AV → Option AV
  | 0, _ => none
  | n + 1, v => match v with
    | .any => some .any
    | .lit c => some (.lit c)
    | .str l => some (.str l)
    | .agg cs => (mapO (freezeV Γ s n) cs).map .agg
    | .tup vs => (mapO (freezeV Γ s n) vs).map .tup
    | .sl tk es => (mapO (freezeV Γ s n) es).map (.sl (freezeTok tk))
    | .rs e sz b off len => match Γ.ty e with
      | some ei => match content s ei (.rs e sz b off len) with
        | some es => (mapO (freezeV Γ s n) es).map (.sl .ro)
        | none => none
      | none => none
    | .vp cs off => (mapO (freezeV Γ s n) cs).map fun cs => .vp cs off
    | .fn f caps => (mapO (freezeV Γ s n) caps).map (.fn f)
    | _ => none

def argsTm : List AV → Nat → Tr AV → Tr AV
  | [], _, t => t
  | v :: vs, i, t => argsTm vs (i + 1) (t.set i v)

/-- The run of a body. -/
def bodyX (Γ : Ctx) (call : CallT) (n : Nat) (f : FuncId) (fn : Func) (c : Code) (args : List AV) (s : St) : Option (AV × St) :=
  match exec Γ call f n c { tm := argsTm args 0 .nil, lo := .nil, nt := fn.ntmps } s with
  | some (.exit _, _, _) => none
  | some (_, g, s1) => (resOf Γ g s1 fn.results.toList).map fun vs => (cond (Γ.keepR f) (oneOf vs) (oneOf vs).stripT, s1)
  | none => none

/-- The run of a body by itself: its arguments are told by what they hold, and it sees nothing of the store, and what it hands back is told by what it holds. -/
def aloneX (Γ : Ctx) (call : CallT) (n : Nat) (f : FuncId) (fn : Func) (c : Code) (args : List AV) : Option AV :=
  match bodyX Γ call n f fn c args ⟨0, 0, .nil⟩ with
  | some (r, s1) => freezeV Γ s1 20 r
  | none => none

def callF (Γ : Ctx) : Nat → CallT
  | 0, _, _, _ => none
  | n + 1, f, args, s => match Γ.fn f with
    | none => none
    | some fn => match fn.body with
      | none => none
      | some c => cond (Nat.ble args.length fn.ntmps) (cond (Γ.scope f)
        (match mapO (freezeV Γ ⟨0, 0, .nil⟩ 20) args with
          | some args => (aloneX Γ (callF Γ n) n f fn c args).map fun r => (r, s)
          | none => none)
        (bodyX Γ (callF Γ n) n f fn c args s)) none

end
end Go.Vm

namespace Go.Vm
noncomputable section

/-! ### The trie -/
namespace Tr
theorem get_nil {α : Type} (n : Nat) : (Tr.nil : Tr α).get n = Option.none := rfl
theorem get_node {α : Type} (l : Tr α) (v : Option α) (r : Tr α) (n : Nat) :
    (Tr.node l v r).get n = if n = 0 then v else if n % 2 = 1 then l.get (n / 2) else r.get (n / 2 - 1) := by
  have h1 : Nat.beq n 0 = decide (n = 0) := by
    by_cases h : n = 0
    · subst h; rfl
    · rw [decide_eq_false h]; exact Bool.eq_false_iff.2 fun e => h (Nat.eq_of_beq_eq_true e)
  have h2 : Nat.beq (n % 2) 1 = decide (n % 2 = 1) := by
    by_cases h : n % 2 = 1
    · rw [h]; rfl
    · rw [decide_eq_false h]; exact Bool.eq_false_iff.2 fun e => h (Nat.eq_of_beq_eq_true e)
  show cond (Nat.beq n 0) v (cond (Nat.beq (n % 2) 1) (l.get (n / 2)) (r.get (n / 2 - 1))) = _
  rw [h1, h2]
  by_cases h : n = 0 <;> by_cases h' : n % 2 = 1 <;> simp [h, h']
theorem setF_succ {α : Type} (f : Nat) (t : Tr α) (n : Nat) (x : Option α) :
    setF (f + 1) t n x = match t with
      | .nil => if n = 0 then .node .nil x .nil else if n % 2 = 1 then .node (setF f .nil (n / 2) x) Option.none .nil else .node .nil Option.none (setF f .nil (n / 2 - 1) x)
      | .node l v r => if n = 0 then .node l x r else if n % 2 = 1 then .node (setF f l (n / 2) x) v r else .node l v (setF f r (n / 2 - 1) x) := by
  have h1 : Nat.beq n 0 = decide (n = 0) := by
    by_cases h : n = 0
    · subst h; rfl
    · rw [decide_eq_false h]; exact Bool.eq_false_iff.2 fun e => h (Nat.eq_of_beq_eq_true e)
  have h2 : Nat.beq (n % 2) 1 = decide (n % 2 = 1) := by
    by_cases h : n % 2 = 1
    · rw [h]; rfl
    · rw [decide_eq_false h]; exact Bool.eq_false_iff.2 fun e => h (Nat.eq_of_beq_eq_true e)
  cases t <;> simp only [setF, h1, h2] <;> by_cases h : n = 0 <;> by_cases h' : n % 2 = 1 <;> simp [h, h']
theorem get_setF {α : Type} : ∀ (f : Nat) (t : Tr α) (n : Nat) (x : Option α) (m : Nat), n < f → (setF f t n x).get m = if m = n then x else t.get m := by
  intro f
  induction f with
  | zero => intro t n x m h; omega
  | succ f ih =>
    intro t n x m h
    rw [setF_succ]
    cases t with
    | nil =>
      dsimp only
      split
      · rename_i h0; subst h0
        rw [get_node]; simp only [get_nil]
        by_cases hm : m = 0
        · rw [if_pos hm, if_pos hm]
        · rw [if_neg hm, if_neg hm]; split <;> rfl
      · split
        · rw [get_node, ih _ _ _ _ (by omega)]; simp only [get_nil]
          split
          · rw [if_neg (by omega)]
          · split
            · by_cases hm : m = n
              · rw [if_pos (by omega), if_pos hm]
              · rw [if_neg (by omega), if_neg hm]
            · rw [if_neg (by omega)]
        · rw [get_node, ih _ _ _ _ (by omega)]; simp only [get_nil]
          split
          · rw [if_neg (by omega)]
          · split
            · rw [if_neg (by omega)]
            · by_cases hm : m = n
              · rw [if_pos (by omega), if_pos hm]
              · rw [if_neg (by omega), if_neg hm]
    | node l v r =>
      dsimp only
      split
      · rename_i h0; subst h0
        rw [get_node, get_node]
        by_cases hm : m = 0
        · rw [if_pos hm, if_pos hm]
        · rw [if_neg hm, if_neg hm, if_neg hm]
      · split
        · rw [get_node, get_node, ih _ _ _ _ (by omega)]
          by_cases h0 : m = 0
          · rw [if_pos h0, if_neg (by omega), if_pos h0]
          · rw [if_neg h0, if_neg h0]
            split
            · by_cases hm : m = n
              · rw [if_pos (by omega), if_pos hm]
              · rw [if_neg (by omega), if_neg hm]
            · rw [if_neg (by omega)]
        · rw [get_node, get_node, ih _ _ _ _ (by omega)]
          by_cases h0 : m = 0
          · rw [if_pos h0, if_neg (by omega), if_pos h0]
          · rw [if_neg h0, if_neg h0]
            split
            · rw [if_neg (by omega)]
            · by_cases hm : m = n
              · rw [if_pos (by omega), if_pos hm]
              · rw [if_neg (by omega), if_neg hm]
theorem setF_fuel {α : Type} : ∀ (f f' : Nat) (t : Tr α) (n : Nat) (x : Option α), n < f → n < f' → setF f t n x = setF f' t n x := by
  intro f
  induction f with
  | zero => intro f' t n x h; omega
  | succ f ih =>
    intro f' t n x h h'
    obtain ⟨f', rfl⟩ : ∃ k, f' = k + 1 := ⟨f' - 1, by omega⟩
    rw [setF_succ, setF_succ]
    by_cases h0 : n = 0
    · cases t <;> simp [h0]
    · by_cases h1 : n % 2 = 1
      · cases t <;> simp only [h0, h1, if_true, if_false] <;> rw [ih f' _ _ _ (by omega) (by omega)]
      · cases t <;> simp only [h0, h1, if_false] <;> rw [ih f' _ _ _ (by omega) (by omega)]
theorem put_eq {α : Type} : ∀ (t : Tr α) (n : Nat) (x : Option α), t.put n x = setF (n + 1) t n x := by
  intro t
  induction t with
  | nil => intro n x; rfl
  | node l v r ihl ihr =>
    intro n x
    have h : (Tr.node l v r).put n x = cond (Nat.beq n 0) (.node l x r) (cond (Nat.beq (n % 2) 1) (.node (l.put (n / 2) x) v r) (.node l v (r.put (n / 2 - 1) x))) := rfl
    have h1 : Nat.beq n 0 = decide (n = 0) := by
      by_cases h : n = 0
      · subst h; rfl
      · rw [decide_eq_false h]; exact Bool.eq_false_iff.2 fun e => h (Nat.eq_of_beq_eq_true e)
    have h2 : Nat.beq (n % 2) 1 = decide (n % 2 = 1) := by
      by_cases h : n % 2 = 1
      · rw [h]; rfl
      · rw [decide_eq_false h]; exact Bool.eq_false_iff.2 fun e => h (Nat.eq_of_beq_eq_true e)
    rw [h, h1, h2, setF_succ, ihl, ihr]
    by_cases h0 : n = 0
    · simp [h0]
    · by_cases h1 : n % 2 = 1
      · simp only [h0, h1, decide_false, decide_true, cond_false, cond_true, if_false, if_true]
        rw [setF_fuel (n / 2 + 1) n l _ _ (by omega) (by omega)]
      · simp only [h0, h1, decide_false, cond_false, if_false]
        rw [setF_fuel (n / 2 - 1 + 1) n r _ _ (by omega) (by omega)]
theorem get_put {α : Type} (t : Tr α) (n : Nat) (x : Option α) (m : Nat) : (t.put n x).get m = if m = n then x else t.get m := by
  rw [put_eq]; exact get_setF _ _ _ _ _ (Nat.lt_succ_self n)
theorem get_set {α : Type} (t : Tr α) (n : Nat) (x : α) (m : Nat) : (t.set n x).get m = if m = n then some x else t.get m := get_put _ _ _ _
theorem get_filter {α : Type} (p : Nat → α → Bool) : ∀ (t : Tr α) (a b m : Nat) (x : α), (t.filter p a b).get m = some x → t.get m = some x ∧ p (a * m + b) x = true := by
  intro t
  induction t with
  | nil => intro a b m x h; simp [filter, get_nil] at h
  | node l v r ihl ihr =>
    intro a b m x h
    simp only [filter] at h
    rw [get_node] at h ⊢
    by_cases h0 : m = 0
    · subst h0
      simp only [if_true] at h ⊢
      cases v with
      | none => simp at h
      | some y =>
        simp only at h
        cases hp : p b y with
        | false => simp [hp] at h
        | true =>
          simp only [hp, cond_true, Option.some.injEq] at h
          subst h
          exact ⟨rfl, by simpa using hp⟩
    · rw [if_neg h0] at h ⊢
      by_cases h1 : m % 2 = 1
      · rw [if_pos h1] at h ⊢
        have := ihl _ _ _ _ h
        refine ⟨this.1, ?_⟩
        have e : 2 * a * (m / 2) + (b + a) = a * m + b := by
          have : m = 2 * (m / 2) + 1 := by omega
          rw [this, Nat.mul_add, ← Nat.mul_assoc, Nat.mul_comm a 2, show (2 * (m / 2) + 1) / 2 = m / 2 by omega]
          omega
        rw [← e]; exact this.2
      · rw [if_neg h1] at h ⊢
        have := ihr _ _ _ _ h
        refine ⟨this.1, ?_⟩
        have e : 2 * a * (m / 2 - 1) + (b + 2 * a) = a * m + b := by
          have : m = 2 * (m / 2 - 1) + 2 := by omega
          rw [this, Nat.mul_add, ← Nat.mul_assoc, Nat.mul_comm a 2, show (2 * (m / 2 - 1) + 2) / 2 - 1 = m / 2 - 1 by omega]
          omega
        rw [← e]; exact this.2
end Tr

/-! ### Blocks, objects, tokens -/
inductive Kind where
  | free
  | obj (id : Nat)
  | map (id : Nat)
  | data (f : Nat → Option Value) (t : Option Nat)

structure Hist where
  b : Nat
  e : Nat
  sz : Nat
  tot : Nat

structure Mu where
  blk : Nat → Kind
  at_ : Nat → Option (Nat × Nat)
  hist : Nat → Option Hist

def Mu.fro (μ : Mu) (b o : Nat) : Option Value :=
  match μ.blk b with
  | .data f _ => f o
  | _ => none

def TokOK (μ : Mu) (a : Option Addr) (len cap : Nat) : Tok → Prop
  | .nil => a = none ∧ len = 0 ∧ cap = 0
  | .ro => True
  | .full => a.isSome = true ∧ cap = len
  | .tk id => ∃ b o h, a = some ⟨b, o, none⟩ ∧ μ.hist id = some h ∧ h.b = b ∧ o + len * h.sz = h.e ∧ o + cap * h.sz = h.tot

inductive RV (μ : Mu) : AV → Value → Prop where
  | any (c : Value) : RV μ .any c
  | lit (v : Value) : RV μ (.lit v) v
  | str (l : List UInt8) : RV μ (.str l) (.string ⟨⟨l⟩⟩)
  | agg (cs : List AV) (C : Array Value) (h1 : C.size = cs.length) (h2 : ∀ v, v ∈ cs → v.isCell = true)
      (h3 : ∀ i v, cs[i]? = some v → RV μ v (C.getD i undef)) : RV μ (.agg cs) (.agg C)
  | tup (vs : List AV) (C : Array Value) (h1 : C.size = vs.length)
      (h3 : ∀ i v, vs[i]? = some v → RV μ v (C.getD i undef)) : RV μ (.tup vs) (.tuple C)
  | sl (tk : Tok) (es : List AV) (a : Option Addr) (cap sz b o : Nat) (d : Nat → Value)
      (hne : es ≠ [] → a = some ⟨b, o, none⟩) (hsz : ∀ e, e ∈ es → e.cells.length = sz) (hcl : ∀ e, e ∈ es → ∀ c, c ∈ e.cells → c.isCell = true)
      (hfro : ∀ (i : Nat) (e : AV) (j : Nat) (c : AV), es[i]? = some e → e.cells[j]? = some c → μ.fro b (o + i * sz + j) = some (d (i * sz + j)))
      (hrv : ∀ (i : Nat) (e : AV) (j : Nat) (c : AV), es[i]? = some e → e.cells[j]? = some c → RV μ c (d (i * sz + j)))
      (hcap : es.length ≤ cap) (htok : TokOK μ a es.length cap tk) (htk : ∀ id h, tk = .tk id → μ.hist id = some h → sz = h.sz) : RV μ (.sl tk es) (.slice a es.length cap)
  | vp (cs : List AV) (off b o : Nat) (d : Nat → Value) (hcl : ∀ c, c ∈ cs → c.isCell = true)
      (hfro : ∀ (j : Nat) (c : AV), cs[j]? = some c → μ.fro b (o + j) = some (d j))
      (hrv : ∀ (j : Nat) (c : AV), cs[j]? = some c → RV μ c (d j)) : RV μ (.vp cs off) (.pointer (some ⟨b, o + off, none⟩))
  | hp (id off b tot : Nat) (h : μ.at_ id = some (b, tot)) : RV μ (.hp id off) (.pointer (some ⟨b, off, none⟩))
  | rs (e : TypeId) (sz id off len : Nat) (a : Option Addr) (cap : Nat) (hcap : len ≤ cap)
      (h : 0 < len → ∃ b tot, μ.at_ id = some (b, tot) ∧ a = some ⟨b, off, none⟩ ∧ off + cap * sz ≤ tot) : RV μ (.rs e sz id off len) (.slice a len cap)
  | mp (id b tot : Nat) (h : μ.at_ id = some (b, tot)) : RV μ (.mp id) (.map (some b))
  | fn (f : FuncId) (caps : List AV) (C : Array Value) (h1 : C.size = caps.length)
      (h3 : ∀ i v, caps[i]? = some v → RV μ v (C.getD i undef)) : RV μ (.fn f caps) (.func (.func f) #[] C)

/-- Is this value of the model one cell of memory? -/
def isCellV : Value → Bool
  | .agg _ => false
  | .tuple _ => false
  | _ => true

theorem RV.cellV {μ : Mu} {v : AV} {c : Value} (h : RV μ v c) (hv : v.isCell = true) : isCellV c = true := by
  cases h with
  | lit => cases c <;> first | rfl | (simp [AV.isCell] at hv)
  | _ => first | rfl | (simp [AV.isCell] at hv)

theorem cells_of_isCell {v : AV} (h : v.isCell = true) : v.cells = [v] := by
  cases v <;> first | rfl | (simp [AV.isCell] at h)

theorem RV.cells {μ : Mu} {v : AV} {c : Value} (h : RV μ v c) (hv : v.isPart = true) :
    c.cells.size = v.cells.length ∧ (∀ x, x ∈ v.cells → x.isCell = true) ∧ ∀ i x, v.cells[i]? = some x → RV μ x (c.cells.getD i undef) := by
  have plain : v.isCell = true → (c.cells.size = v.cells.length ∧ (∀ x, x ∈ v.cells → x.isCell = true) ∧ ∀ i x, v.cells[i]? = some x → RV μ x (c.cells.getD i undef)) := by
    intro hc
    have hcv := h.cellV hc
    have e : c.cells = #[c] := by cases c <;> first | rfl | (simp [isCellV] at hcv)
    rw [cells_of_isCell hc, e]
    refine ⟨rfl, fun x hx => by simp at hx; subst hx; exact hc, fun i x hi => ?_⟩
    cases i with
    | zero => simp at hi; subst hi; simpa using h
    | succ i => simp at hi
  cases h with
  | agg cs C h1 h2 h3 => exact ⟨h1, h2, h3⟩
  | any => simp [AV.isPart, AV.isCell] at hv
  | tup => simp [AV.isPart, AV.isCell] at hv
  | _ => exact plain hv

/-! ### What may turn from one state to the next -/
def still (μ : Mu) (lock b : Nat) : Prop :=
  match μ.blk b with
  | .free => True
  | .obj id => id < lock
  | .map id => id < lock
  | .data _ none => True
  | .data _ (some id) => id < lock

structure Step (n lock : Nat) (μ : Mu) (w : World) (μ' : Mu) (w' : World) : Prop where
  at_ : ∀ id x, μ.at_ id = some x → μ'.at_ id = some x
  hist : ∀ id x, μ.hist id = some x → μ'.hist id = some x
  data : ∀ b f t, μ.blk b = .data f t → ∃ f' t', μ'.blk b = .data f' t' ∧ ∀ o v, f o = some v → f' o = some v
  kind : ∀ b, b < n → still μ lock b → μ'.blk b = μ.blk b
  heap : ∀ b, b < n → still μ lock b → w'.heap[b]? = w.heap[b]?
  size : w.heap.size ≤ w'.heap.size
  os : w'.os = w.os
  tape : w'.tape = w.tape
  output : w'.output = w.output

theorem Step.refl (n lock : Nat) (μ : Mu) (w : World) : Step n lock μ w μ w :=
  ⟨fun _ _ h => h, fun _ _ h => h, fun _ f t h => ⟨f, t, h, fun _ _ h => h⟩, fun _ _ _ => rfl, fun _ _ _ => rfl, Nat.le_refl _, rfl, rfl, rfl⟩

theorem still_eq {μ μ' : Mu} {lock b : Nat} (h : μ'.blk b = μ.blk b) : still μ' lock b ↔ still μ lock b := by
  unfold still; rw [h]

theorem Step.trans {n n' lock lock' : Nat} {μ μ1 μ2 : Mu} {w w1 w2 : World} (h : Step n lock μ w μ1 w1) (h' : Step n' lock' μ1 w1 μ2 w2) (hn : n ≤ n') (hl : lock ≤ lock') :
    Step n lock μ w μ2 w2 := by
  have up : ∀ b, still μ1 lock b → still μ1 lock' b := fun b hb => by
    unfold still at *
    split <;> rename_i e <;> simp only [e] at hb <;> omega
  refine ⟨fun id x h0 => h'.at_ _ _ (h.at_ _ _ h0), fun id x h0 => h'.hist _ _ (h.hist _ _ h0), fun b f t h0 => ?_, fun b hb hs => ?_, fun b hb hs => ?_,
    Nat.le_trans h.size h'.size, h'.os.trans h.os, h'.tape.trans h.tape, h'.output.trans h.output⟩
  · obtain ⟨f1, t1, e1, g1⟩ := h.data b f t h0
    obtain ⟨f2, t2, e2, g2⟩ := h'.data b f1 t1 e1
    exact ⟨f2, t2, e2, fun o v hv => g2 o v (g1 o v hv)⟩
  · have e := h.kind b hb hs
    rw [h'.kind b (by omega) (up b ((still_eq e).2 hs)), e]
  · have e := h.kind b hb hs
    rw [h'.heap b (by omega) (up b ((still_eq e).2 hs)), h.heap b hb hs]

theorem Step.fro {n lock : Nat} {μ μ' : Mu} {w w' : World} (h : Step n lock μ w μ' w') {b o : Nat} {v : Value} (hv : μ.fro b o = some v) : μ'.fro b o = some v := by
  unfold Mu.fro at *
  cases e : μ.blk b with
  | data f t =>
    obtain ⟨f', t', e', g⟩ := h.data b f t e
    rw [e]  at hv
    rw [e']; exact g o v hv
  | _ => rw [e] at hv; simp at hv

theorem TokOK.mono {n lock : Nat} {μ μ' : Mu} {w w' : World} (h : Step n lock μ w μ' w') {a : Option Addr} {len cap : Nat} {tk : Tok} (ht : TokOK μ a len cap tk) : TokOK μ' a len cap tk := by
  cases tk with
  | tk id =>
    obtain ⟨b, o, x, h1, h2, h3, h4, h5⟩ := ht
    exact ⟨b, o, x, h1, h.hist _ _ h2, h3, h4, h5⟩
  | _ => exact ht

theorem RV.mono {n lock : Nat} {μ μ' : Mu} {w w' : World} (h : Step n lock μ w μ' w') {v : AV} {c : Value} (hv : RV μ v c) : RV μ' v c := by
  induction hv with
  | any c => exact .any c
  | lit v => exact .lit v
  | str l => exact .str l
  | agg cs C h1 h2 h3 ih => exact .agg cs C h1 h2 ih
  | tup vs C h1 h3 ih => exact .tup vs C h1 ih
  | sl tk es a cap sz b o d hne hsz hcl hfro hrv hcap htok htk ih =>
    refine .sl tk es a cap sz b o d hne hsz hcl (fun i e j c h1 h2 => h.fro (hfro i e j c h1 h2)) ih hcap (htok.mono h) (fun id x e hx => ?_)
    subst e
    obtain ⟨_, _, y, _, hy, _⟩ := htok
    have := h.hist _ _ hy
    rw [hx] at this; injection this with this; subst this
    exact htk id _ rfl hy
  | vp cs off b o d hcl hfro hrv ih => exact .vp cs off b o d hcl (fun j c h1 => h.fro (hfro j c h1)) ih
  | hp id off b tot e => exact .hp id off b tot (h.at_ _ _ e)
  | rs e sz id off len a cap hcap h0 => exact .rs e sz id off len a cap hcap fun hl => by obtain ⟨b, tot, h1, h2, h3⟩ := h0 hl; exact ⟨b, tot, h.at_ _ _ h1, h2, h3⟩
  | mp id b tot e => exact .mp id b tot (h.at_ _ _ e)
  | fn f caps C h1 h3 ih => exact .fn f caps C h1 ih

/-! ### The store and the memory -/
def CellsRel (μ : Mu) (cs : List AV) (C : Array Value) : Prop := ∀ j v, cs[j]? = some v → v.isCell = true ∧ RV μ v (C.getD j undef)

/-- The entries were made one by one, and none has gone. -/
def Born (es : Array MapEntry) (clk : Nat) : Prop := clk = es.size ∧ ∀ (i : Nat) (e : MapEntry), es[i]? = some e → e.born = i

def MapRel (μ : Mu) (kvs : List (AV × AV)) (es : Array MapEntry) (clk : Nat) : Prop :=
  es.size = kvs.length ∧ (∀ (i : Nat) (k v : AV), kvs[i]? = some (k, v) → ∃ e : MapEntry, es[i]? = some e ∧ RV μ k e.key ∧ RV μ v e.val) ∧ Born es clk

structure WRel (μ : Mu) (s : St) (w : World) : Prop where
  fro : ∀ b o v, μ.fro b o = some v → w.cell? ⟨b, o, none⟩ = some v
  bnd : ∀ b, μ.blk b ≠ .free → b < w.heap.size
  nxt : ∀ id, s.next ≤ id → s.objs.get id = none ∧ μ.at_ id = none ∧ μ.hist id = none
  lck : s.lock ≤ s.next
  obj : ∀ id cs, s.objs.get id = some (.cells cs) → ∃ b tot, μ.at_ id = some (b, tot) ∧ μ.blk b = .obj id ∧
    ∃ C T, w.heap[b]? = some (.cells C T (0, 0)) ∧ C.size = tot ∧ cs.length ≤ tot ∧ CellsRel μ cs C
  map : ∀ id kvs, s.objs.get id = some (.map kvs) → ∃ b tot, μ.at_ id = some (b, tot) ∧ μ.blk b = .map id ∧
    ∃ es clk, w.heap[b]? = some (.map es clk) ∧ MapRel μ kvs es clk
  tok : ∀ id sz, s.objs.get id = some (.grow sz) → ∃ b e tot f, μ.hist id = some ⟨b, e, sz, tot⟩ ∧ μ.blk b = .data f (some id) ∧ (∀ o, e ≤ o → f o = none) ∧ 0 < sz ∧ e ≤ tot ∧
    ∃ C T, w.heap[b]? = some (.cells C T (0, 0)) ∧ C.size = tot

/-- The local lies in the frame's own block. -/
def LObj.mine : LObj → Bool
  | .fwd _ => false
  | _ => true

/-- Where a frame's locals lie. -/
abbrev Loc := Nat → Option Nat

def RL (μ : Mu) (ℓ : Loc) (v : AV) (c : Value) : Prop :=
  match v with
  | .lp t off => ∃ b, ℓ t = some b ∧ c = .pointer (some ⟨b, off, none⟩)
  | .lm t => ∃ b, ℓ t = some b ∧ c = .map (some b)
  | .ls _ _ t len => ∃ b, ℓ t = some b ∧ c = .slice (some ⟨b, 0, none⟩) len len
  | v => RV μ v c

def LoRel (n : Nat) (μ : Mu) (w : World) (b : Nat) : LObj → Prop
  | .own cs => n ≤ b ∧ b < w.heap.size ∧ μ.blk b = .free ∧ ∃ C T, w.heap[b]? = some (.cells C T (0, 0)) ∧ C.size = cs.length ∧ CellsRel μ cs C
  | .fwd id => ∃ tot, μ.at_ id = some (b, tot)
  | .map0 => n ≤ b ∧ b < w.heap.size ∧ μ.blk b = .free ∧ w.heap[b]? = some (.map #[] 0)

structure FRel (n : Nat) (μ : Mu) (ℓ : Loc) (g : Fr) (w : World) (tmps : Array Value) : Prop where
  tm : ∀ t v, g.tm.get t = some v → RL μ ℓ v (tmps.getD t undef)
  nt : tmps.size = g.nt
  lo : ∀ t o, g.lo.get t = some o → ∃ b, ℓ t = some b ∧ LoRel n μ w b o
  inj : ∀ t t' o o' b, g.lo.get t = some o → g.lo.get t' = some o' → o.mine = true → o'.mine = true → ℓ t = some b → ℓ t' = some b → t = t'
  dom : ∀ t b, ℓ t = some b → ∃ o, g.lo.get t = some o

theorem RL.of_RV {μ : Mu} {ℓ : Loc} {v : AV} {c : Value} (h : RV μ v c) : RL μ ℓ v c := by
  cases v with
  | lp t off => cases h
  | lm t => cases h
  | ls e sz t len => cases h
  | _ => exact h

theorem RL.toRV {μ : Mu} {ℓ : Loc} {v : AV} {c : Value} (h : RL μ ℓ v c) (hv : v.isLp = false) : RV μ v c := by
  cases v <;> first | exact h | (simp [AV.isLp] at hv)

theorem RL.mono {n lock : Nat} {μ μ' : Mu} {w w' : World} (h : Step n lock μ w μ' w') {ℓ : Loc} {v : AV} {c : Value} (hv : RL μ ℓ v c) : RL μ' ℓ v c := by
  cases v with
  | lp t off => exact hv
  | lm t => exact hv
  | ls e sz t len => exact hv
  | _ => exact RV.mono h hv

theorem CellsRel.mono {n lock : Nat} {μ μ' : Mu} {w w' : World} (h : Step n lock μ w μ' w') {cs : List AV} {C : Array Value} (hc : CellsRel μ cs C) : CellsRel μ' cs C :=
  fun j v hj => ⟨(hc j v hj).1, (hc j v hj).2.mono h⟩

theorem MapRel.mono {n lock : Nat} {μ μ' : Mu} {w w' : World} (h : Step n lock μ w μ' w') {kvs : List (AV × AV)} {es : Array MapEntry} {clk : Nat} (hc : MapRel μ kvs es clk) : MapRel μ' kvs es clk :=
  ⟨hc.1, fun i k v hi => by obtain ⟨e, h1, h2, h3⟩ := hc.2.1 i k v hi; exact ⟨e, h1, h2.mono h, h3.mono h⟩, hc.2.2⟩

end
end Go.Vm

namespace Go.Vm
noncomputable section

theorem cell_of {w : World} {b : Nat} {C : Array Value} {T : TypeId} {fr : Nat × Nat} (h : w.heap[b]? = some (.cells C T fr)) (o : Nat) : w.cell? ⟨b, o, none⟩ = C[o]? := by
  unfold World.cell?; simp [h]
theorem frozen_of {w : World} {b : Nat} {C : Array Value} {T : TypeId} (h : w.heap[b]? = some (.cells C T (0, 0))) (o : Nat) : w.frozen? ⟨b, o, none⟩ = false := by
  unfold World.frozen?; simp [h]
theorem cell_heap {w w' : World} {b o : Nat} (h : w'.heap[b]? = w.heap[b]?) : w'.cell? ⟨b, o, none⟩ = w.cell? ⟨b, o, none⟩ := by
  unfold World.cell?; simp [h]

theorem WRel.free {μ : Mu} {s : St} {w : World} (H : WRel μ s w) {b : Nat} (h : w.heap.size ≤ b) : μ.blk b = .free := by
  cases e : μ.blk b with
  | free => rfl
  | _ => have := H.bnd b (by rw [e]; simp); omega

/-! ### What a larger memory keeps -/
structure Grow (μ : Mu) (w : World) (μ' : Mu) (w' : World) : Prop where
  at_ : ∀ id x, μ.at_ id = some x → μ'.at_ id = some x
  hist : ∀ id x, μ.hist id = some x → μ'.hist id = some x
  blk : ∀ b, b < w.heap.size → μ'.blk b = μ.blk b
  heap : ∀ b, b < w.heap.size → w'.heap[b]? = w.heap[b]?
  size : w.heap.size ≤ w'.heap.size
  os : w'.os = w.os
  tape : w'.tape = w.tape
  output : w'.output = w.output

theorem Grow.step {μ μ' : Mu} {s : St} {w w' : World} (H : WRel μ s w) (h : Grow μ w μ' w') (n lock : Nat) (hn : n ≤ w.heap.size) : Step n lock μ w μ' w' :=
  ⟨h.at_, h.hist, fun b f t e => ⟨f, t, by rw [h.blk b (H.bnd b (by rw [e]; simp))]; exact e, fun _ _ hv => hv⟩, fun b hb _ => h.blk b (by omega), fun b hb _ => h.heap b (by omega),
    h.size, h.os, h.tape, h.output⟩

theorem Grow.refl (μ : Mu) (w : World) : Grow μ w μ w := ⟨fun _ _ h => h, fun _ _ h => h, fun _ _ => rfl, fun _ _ => rfl, Nat.le_refl _, rfl, rfl, rfl⟩

theorem Grow.fro {μ μ' : Mu} {s : St} {w w' : World} (H : WRel μ s w) (h : Grow μ w μ' w') {b o : Nat} {v : Value} (hb : b < w.heap.size) (hv : μ'.fro b o = some v) : w'.cell? ⟨b, o, none⟩ = some v := by
  rw [cell_heap (h.heap b hb)]
  refine H.fro b o v ?_
  unfold Mu.fro at *
  rw [h.blk b hb] at hv; exact hv

theorem Grow.obj {μ μ' : Mu} {s : St} {w w' : World} (H : WRel μ s w) (h : Grow μ w μ' w') {id : Nat} {cs : List AV} (hi : s.objs.get id = some (.cells cs)) :
    ∃ b tot, μ'.at_ id = some (b, tot) ∧ μ'.blk b = .obj id ∧ ∃ C T, w'.heap[b]? = some (.cells C T (0, 0)) ∧ C.size = tot ∧ cs.length ≤ tot ∧ CellsRel μ' cs C := by
  obtain ⟨b, tot, h1, h2, C, T, h3, h4, h5, h6⟩ := H.obj id cs hi
  have hb := H.bnd b (by rw [h2]; simp)
  exact ⟨b, tot, h.at_ _ _ h1, (h.blk b hb).trans h2, C, T, (h.heap b hb).trans h3, h4, h5, h6.mono (h.step H 0 0 (Nat.zero_le _))⟩

theorem Grow.map {μ μ' : Mu} {s : St} {w w' : World} (H : WRel μ s w) (h : Grow μ w μ' w') {id : Nat} {kvs : List (AV × AV)} (hi : s.objs.get id = some (.map kvs)) :
    ∃ b tot, μ'.at_ id = some (b, tot) ∧ μ'.blk b = .map id ∧ ∃ es clk, w'.heap[b]? = some (.map es clk) ∧ MapRel μ' kvs es clk := by
  obtain ⟨b, tot, h1, h2, es, clk, h3, h4⟩ := H.map id kvs hi
  have hb := H.bnd b (by rw [h2]; simp)
  exact ⟨b, tot, h.at_ _ _ h1, (h.blk b hb).trans h2, es, clk, (h.heap b hb).trans h3, h4.mono (h.step H 0 0 (Nat.zero_le _))⟩

theorem Grow.tok {μ μ' : Mu} {s : St} {w w' : World} (H : WRel μ s w) (h : Grow μ w μ' w') {id sz : Nat} (hi : s.objs.get id = some (.grow sz)) :
    ∃ b e tot f, μ'.hist id = some ⟨b, e, sz, tot⟩ ∧ μ'.blk b = .data f (some id) ∧ (∀ o, e ≤ o → f o = none) ∧ 0 < sz ∧ e ≤ tot ∧
      ∃ C T, w'.heap[b]? = some (.cells C T (0, 0)) ∧ C.size = tot := by
  obtain ⟨b, e, tot, f, h1, h2, h3, h4, h5, C, T, h6, h7⟩ := H.tok id sz hi
  have hb := H.bnd b (by rw [h2]; simp)
  exact ⟨b, e, tot, f, h.hist _ _ h1, (h.blk b hb).trans h2, h3, h4, h5, C, T, (h.heap b hb).trans h6, h7⟩

/-- What is told of a frame's locals holds in the larger memory. -/
theorem Grow.lo {μ μ' : Mu} {s : St} {w w' : World} (H : WRel μ s w) (h : Grow μ w μ' w') {n b : Nat} {o : LObj} (hl : LoRel n μ w b o) : LoRel n μ' w' b o := by
  cases o with
  | own cs =>
    obtain ⟨h1, h2, h3, C, T, h4, h5, h6⟩ := hl
    exact ⟨h1, Nat.lt_of_lt_of_le h2 h.size, (h.blk b h2).trans h3, C, T, (h.heap b h2).trans h4, h5, h6.mono (h.step H 0 0 (Nat.zero_le _))⟩
  | fwd id =>
    obtain ⟨tot, h1⟩ := hl
    exact ⟨tot, h.at_ _ _ h1⟩
  | map0 =>
    obtain ⟨h1, h2, h3, h4⟩ := hl
    exact ⟨h1, Nat.lt_of_lt_of_le h2 h.size, (h.blk b h2).trans h3, (h.heap b h2).trans h4⟩

theorem FRel.grow {μ μ' : Mu} {s : St} {w w' : World} (H : WRel μ s w) (h : Grow μ w μ' w') {n : Nat} {ℓ : Loc} {g : Fr} {tmps : Array Value} (F : FRel n μ ℓ g w tmps) : FRel n μ' ℓ g w' tmps :=
  ⟨fun t v ht => (F.tm t v ht).mono (h.step H 0 0 (Nat.zero_le _)), F.nt, fun t o ht => by obtain ⟨b, h1, h2⟩ := F.lo t o ht; exact ⟨b, h1, h.lo H h2⟩, F.inj, F.dom⟩

/-! ### New blocks -/
def Mu.setBlk (μ : Mu) (b : Nat) (k : Kind) : Mu := { μ with blk := fun x => if x = b then k else μ.blk x }
def Mu.setAt (μ : Mu) (id : Nat) (x : Nat × Nat) : Mu := { μ with at_ := fun y => if y = id then some x else μ.at_ y }
def Mu.setHist (μ : Mu) (id : Nat) (x : Hist) : Mu := { μ with hist := fun y => if y = id then some x else μ.hist y }

/-- A world with one block more. -/
structure Pushed (w w' : World) (o : Go.Obj) : Prop where
  heap : w'.heap = w.heap.push o
  os : w'.os = w.os
  tape : w'.tape = w.tape
  output : w'.output = w.output

theorem Pushed.old {w w' : World} {o : Go.Obj} (h : Pushed w w' o) {b : Nat} (hb : b < w.heap.size) : w'.heap[b]? = w.heap[b]? := by
  rw [h.heap, Array.getElem?_push, if_neg (by omega)]
theorem Pushed.new {w w' : World} {o : Go.Obj} (h : Pushed w w' o) : w'.heap[w.heap.size]? = some o := by
  rw [h.heap]; simp
theorem Pushed.size {w w' : World} {o : Go.Obj} (h : Pushed w w' o) : w'.heap.size = w.heap.size + 1 := by
  rw [h.heap]; simp

/-- A new block of what no one will write. -/
theorem WRel.pushData {μ : Mu} {s : St} {w w' : World} (H : WRel μ s w) {C : Array Value} {T : TypeId} {fr : Nat × Nat} (hp : Pushed w w' (.cells C T fr)) :
    WRel (μ.setBlk w.heap.size (.data (fun o => C[o]?) none)) s w' ∧ Grow μ w (μ.setBlk w.heap.size (.data (fun o => C[o]?) none)) w' := by
  have hg : Grow μ w (μ.setBlk w.heap.size (.data (fun o => C[o]?) none)) w' :=
    ⟨fun _ _ h => h, fun _ _ h => h, fun b hb => by simp only [Mu.setBlk]; rw [if_neg (by omega)], fun b hb => hp.old hb, by rw [hp.size]; omega, hp.os, hp.tape, hp.output⟩
  refine ⟨⟨?_, ?_, H.nxt, H.lck, fun id cs h => hg.obj H h, fun id kvs h => hg.map H h, fun id sz h => hg.tok H h⟩, hg⟩
  · intro b o v hv
    by_cases hb : b < w.heap.size
    · exact hg.fro H hb hv
    · by_cases he : b = w.heap.size
      · subst he
        rw [cell_of hp.new]
        simpa [Mu.fro, Mu.setBlk] using hv
      · simp only [Mu.fro, Mu.setBlk, if_neg he, H.free (b := b) (by omega)] at hv
        simp at hv
  · intro b hb
    by_cases he : b = w.heap.size
    · rw [hp.size]; omega
    · simp only [Mu.setBlk, if_neg he] at hb
      have := H.bnd b hb; rw [hp.size]; omega

/-- A new object of cells. -/
theorem WRel.pushObj {μ : Mu} {s : St} {w w' : World} (H : WRel μ s w) {C : Array Value} {T : TypeId} {cs : List AV} (hp : Pushed w w' (.cells C T (0, 0))) (hl : cs.length ≤ C.size) (hc : CellsRel μ cs C) :
    let μ' := (μ.setBlk w.heap.size (.obj s.next)).setAt s.next (w.heap.size, C.size)
    WRel μ' { s with next := s.next + 1, objs := s.objs.set s.next (.cells cs) } w' ∧ Grow μ w μ' w' := by
  intro μ'
  have hg : Grow μ w μ' w' :=
    ⟨fun id x h => by
        show (if id = s.next then _ else _) = _
        rw [if_neg]
        · exact h
        · intro e; subst e; rw [(H.nxt s.next (Nat.le_refl _)).2.1] at h; exact (nomatch h),
      fun _ _ h => h, fun b hb => by show (if b = w.heap.size then _ else _) = _; rw [if_neg (by omega)], fun b hb => hp.old hb, by rw [hp.size]; omega, hp.os, hp.tape, hp.output⟩
  refine ⟨⟨?_, ?_, ?_, ?_, ?_, ?_, ?_⟩, hg⟩
  · intro b o v hv
    by_cases hb : b < w.heap.size
    · exact hg.fro H hb hv
    · by_cases he : b = w.heap.size
      · subst he; simp [Mu.fro, μ', Mu.setAt, Mu.setBlk] at hv
      · simp only [Mu.fro, μ', Mu.setAt, Mu.setBlk, if_neg he, H.free (b := b) (by omega)] at hv
        simp at hv
  · intro b hb
    by_cases he : b = w.heap.size
    · rw [hp.size]; omega
    · simp only [μ', Mu.setAt, Mu.setBlk, if_neg he] at hb
      have := H.bnd b hb; rw [hp.size]; omega
  · intro id hid
    have hid : s.next + 1 ≤ id := hid
    have := H.nxt id (by omega)
    refine ⟨?_, ?_, this.2.2⟩
    · show (s.objs.set _ _).get _ = _
      rw [Tr.get_set, if_neg (by omega)]; exact this.1
    · show (if id = s.next then _ else _) = _
      rw [if_neg (by omega)]; exact this.2.1
  · have := H.lck; show s.lock ≤ s.next + 1; omega
  · intro id cs' h
    have h : (s.objs.set s.next (.cells cs)).get id = _ := h
    rw [Tr.get_set] at h
    by_cases he : id = s.next
    · subst he
      rw [if_pos rfl] at h
      injection h with h; injection h with h; subst h
      refine ⟨w.heap.size, C.size, by simp [μ', Mu.setAt], by simp [μ', Mu.setAt, Mu.setBlk], C, T, hp.new, rfl, hl, hc.mono (hg.step H 0 0 (Nat.zero_le _))⟩
    · rw [if_neg he] at h; exact hg.obj H h
  · intro id kvs h
    have h : (s.objs.set s.next (.cells cs)).get id = _ := h
    rw [Tr.get_set] at h
    by_cases he : id = s.next
    · rw [if_pos he] at h; injection h with h; injection h
    · rw [if_neg he] at h; exact hg.map H h
  · intro id sz h
    have h : (s.objs.set s.next (.cells cs)).get id = _ := h
    rw [Tr.get_set] at h
    by_cases he : id = s.next
    · rw [if_pos he] at h; injection h with h; injection h
    · rw [if_neg he] at h; exact hg.tok H h

/-- A new map. -/
theorem WRel.pushMap {μ : Mu} {s : St} {w w' : World} (H : WRel μ s w) (hp : Pushed w w' (.map #[] 0)) :
    let μ' := (μ.setBlk w.heap.size (.map s.next)).setAt s.next (w.heap.size, 0)
    WRel μ' { s with next := s.next + 1, objs := s.objs.set s.next (.map []) } w' ∧ Grow μ w μ' w' := by
  intro μ'
  have hg : Grow μ w μ' w' :=
    ⟨fun id x h => by
        show (if id = s.next then _ else _) = _
        rw [if_neg]
        · exact h
        · intro e; subst e; rw [(H.nxt s.next (Nat.le_refl _)).2.1] at h; exact (nomatch h),
      fun _ _ h => h, fun b hb => by show (if b = w.heap.size then _ else _) = _; rw [if_neg (by omega)], fun b hb => hp.old hb, by rw [hp.size]; omega, hp.os, hp.tape, hp.output⟩
  refine ⟨⟨?_, ?_, ?_, ?_, ?_, ?_, ?_⟩, hg⟩
  · intro b o v hv
    by_cases hb : b < w.heap.size
    · exact hg.fro H hb hv
    · by_cases he : b = w.heap.size
      · subst he; simp [Mu.fro, μ', Mu.setAt, Mu.setBlk] at hv
      · simp only [Mu.fro, μ', Mu.setAt, Mu.setBlk, if_neg he, H.free (b := b) (by omega)] at hv
        simp at hv
  · intro b hb
    by_cases he : b = w.heap.size
    · rw [hp.size]; omega
    · simp only [μ', Mu.setAt, Mu.setBlk, if_neg he] at hb
      have := H.bnd b hb; rw [hp.size]; omega
  · intro id hid
    have hid : s.next + 1 ≤ id := hid
    have := H.nxt id (by omega)
    refine ⟨?_, ?_, this.2.2⟩
    · show (s.objs.set _ _).get _ = _
      rw [Tr.get_set, if_neg (by omega)]; exact this.1
    · show (if id = s.next then _ else _) = _
      rw [if_neg (by omega)]; exact this.2.1
  · have := H.lck; show s.lock ≤ s.next + 1; omega
  · intro id cs' h
    have h : (s.objs.set s.next (.map [])).get id = _ := h
    rw [Tr.get_set] at h
    by_cases he : id = s.next
    · rw [if_pos he] at h; injection h with h; injection h
    · rw [if_neg he] at h; exact hg.obj H h
  · intro id kvs h
    have h : (s.objs.set s.next (.map [])).get id = _ := h
    rw [Tr.get_set] at h
    by_cases he : id = s.next
    · subst he
      rw [if_pos rfl] at h
      injection h with h; injection h with h; subst h
      exact ⟨w.heap.size, 0, by simp [μ', Mu.setAt], by simp [μ', Mu.setAt, Mu.setBlk], #[], 0, hp.new, rfl, fun i k v hi => by simp at hi, rfl, fun i e h => by simp at h⟩
    · rw [if_neg he] at h; exact hg.map H h
  · intro id sz h
    have h : (s.objs.set s.next (.map [])).get id = _ := h
    rw [Tr.get_set] at h
    by_cases he : id = s.next
    · rw [if_pos he] at h; injection h with h; injection h
    · rw [if_neg he] at h; exact hg.tok H h

/-- A new row, told up to e cells, with room behind. -/
theorem WRel.pushTok {μ : Mu} {s : St} {w w' : World} (H : WRel μ s w) {C : Array Value} {T : TypeId} (hp : Pushed w w' (.cells C T (0, 0))) (sz e : Nat) (hsz : 0 < sz) (he : e ≤ C.size) :
    let μ' := (μ.setBlk w.heap.size (.data (fun o => if o < e then C[o]? else none) (some s.next))).setHist s.next ⟨w.heap.size, e, sz, C.size⟩
    WRel μ' { s with next := s.next + 1, objs := s.objs.set s.next (.grow sz) } w' ∧ Grow μ w μ' w' := by
  intro μ'
  have hg : Grow μ w μ' w' :=
    ⟨fun _ _ h => h, fun id x h => by
        show (if id = s.next then _ else _) = _
        rw [if_neg]
        · exact h
        · intro e; subst e; rw [(H.nxt s.next (Nat.le_refl _)).2.2] at h; exact (nomatch h),
      fun b hb => by show (if b = w.heap.size then _ else _) = _; rw [if_neg (by omega)], fun b hb => hp.old hb, by rw [hp.size]; omega, hp.os, hp.tape, hp.output⟩
  refine ⟨⟨?_, ?_, ?_, ?_, ?_, ?_, ?_⟩, hg⟩
  · intro b o x hv
    by_cases hb : b < w.heap.size
    · exact hg.fro H hb hv
    · by_cases he : b = w.heap.size
      · subst he
        rw [cell_of hp.new]
        simp only [Mu.fro, μ', Mu.setHist, Mu.setBlk, if_true] at hv
        split at hv
        · exact hv
        · cases hv
      · simp only [Mu.fro, μ', Mu.setHist, Mu.setBlk, if_neg he, H.free (b := b) (by omega)] at hv
        simp at hv
  · intro b hb
    by_cases he : b = w.heap.size
    · rw [hp.size]; omega
    · simp only [μ', Mu.setHist, Mu.setBlk, if_neg he] at hb
      have := H.bnd b hb; rw [hp.size]; omega
  · intro id hid
    have hid : s.next + 1 ≤ id := hid
    have := H.nxt id (by omega)
    refine ⟨?_, this.2.1, ?_⟩
    · show (s.objs.set _ _).get _ = _
      rw [Tr.get_set, if_neg (by omega)]; exact this.1
    · show (if id = s.next then _ else _) = _
      rw [if_neg (by omega)]; exact this.2.2
  · have := H.lck; show s.lock ≤ s.next + 1; omega
  · intro id cs' h
    have h : (s.objs.set s.next (.grow sz)).get id = _ := h
    rw [Tr.get_set] at h
    by_cases he : id = s.next
    · rw [if_pos he] at h; injection h with h; injection h
    · rw [if_neg he] at h; exact hg.obj H h
  · intro id kvs h
    have h : (s.objs.set s.next (.grow sz)).get id = _ := h
    rw [Tr.get_set] at h
    by_cases he : id = s.next
    · rw [if_pos he] at h; injection h with h; injection h
    · rw [if_neg he] at h; exact hg.map H h
  · intro id z h
    have h : (s.objs.set s.next (.grow sz)).get id = _ := h
    rw [Tr.get_set] at h
    by_cases hi : id = s.next
    · subst hi
      rw [if_pos rfl] at h
      injection h with h; injection h with h; subst h
      refine ⟨w.heap.size, e, C.size, fun o => if o < e then C[o]? else none, by simp [μ', Mu.setHist], by simp [μ', Mu.setHist, Mu.setBlk], fun o ho => ?_, hsz, he, C, T, hp.new, rfl⟩
      show (if o < e then _ else _) = _
      rw [if_neg (by omega)]
    · rw [if_neg hi] at h; exact hg.tok H h

/-- Only the draws, the same memory. -/
theorem WRel.same {μ : Mu} {s : St} {w w' : World} (H : WRel μ s w) (h1 : w'.heap = w.heap) (h2 : w'.os = w.os) (h3 : w'.tape = w.tape) (h4 : w'.output = w.output) : WRel μ s w' ∧ Grow μ w μ w' := by
  have hg : Grow μ w μ w' := ⟨fun _ _ h => h, fun _ _ h => h, fun _ _ => rfl, fun b _ => by rw [h1], by rw [h1]; exact Nat.le_refl _, h2, h3, h4⟩
  refine ⟨⟨fun b o v hv => ?_, fun b hb => by rw [h1]; exact H.bnd b hb, H.nxt, H.lck, fun id cs h => hg.obj H h, fun id kvs h => hg.map H h, fun id sz h => hg.tok H h⟩, hg⟩
  rw [cell_heap (w := w) (by rw [h1])]; exact H.fro b o v hv

end
end Go.Vm

namespace Go.Vm
noncomputable section

theorem oneCell_of {v : Value} (h : isCellV v = true) : v.oneCell' = true := by cases v <;> first | rfl | (simp [isCellV] at h)
theorem isCellV_of {v : Value} (h : v.oneCell' = true) : isCellV v = true := by cases v <;> first | rfl | (simp [Value.oneCell'] at h)

theorem setAll_length : ∀ (vs cs : List AV) (o : Nat), (setAll cs o vs).length = cs.length
  | [], cs, o => rfl
  | v :: vs, cs, o => by simp only [setAll]; rw [setAll_length vs, List.length_set]

theorem setAll_get : ∀ (vs cs : List AV) (o j : Nat), o + vs.length ≤ cs.length → (setAll cs o vs)[j]? = if o ≤ j ∧ j < o + vs.length then vs[j - o]? else cs[j]?
  | [], cs, o, j, h => by
    simp only [setAll, List.length_nil, Nat.add_zero]
    rw [if_neg (by omega)]
  | v :: vs, cs, o, j, h => by
    simp only [setAll]
    simp only [List.length_cons] at h
    rw [setAll_get vs _ _ _ (by rw [List.length_set]; omega)]
    simp only [List.length_cons]
    by_cases h1 : o + 1 ≤ j ∧ j < o + 1 + vs.length
    · rw [if_pos h1, if_pos (by omega), show j - o = (j - (o + 1)) + 1 by omega, List.getElem?_cons_succ]
    · rw [if_neg h1]
      by_cases h2 : j = o
      · subst h2
        rw [if_pos (by omega), List.getElem?_set_self (by omega), Nat.sub_self, List.getElem?_cons_zero]
      · rw [if_neg (by omega), List.getElem?_set_ne (by omega)]

/-- The row with the values laid over it from o on. -/
def laid (C : Array Value) (o : Nat) (vs : List Value) : Array Value := (C.toList.take o ++ vs ++ C.toList.drop (o + vs.length)).toArray

theorem laid_size (C : Array Value) (o : Nat) (vs : List Value) (h : o + vs.length ≤ C.size) : (laid C o vs).size = C.size := by
  have : C.toList.length = C.size := Array.length_toList
  simp [laid]; omega

theorem laid_get (C : Array Value) (o : Nat) (vs : List Value) (h : o + vs.length ≤ C.size) (j : Nat) : (laid C o vs)[j]? = if o ≤ j ∧ j < o + vs.length then vs[j - o]? else C[j]? := by
  have hl : C.toList.length = C.size := Array.length_toList
  simp only [laid, List.getElem?_toArray]
  by_cases h1 : o ≤ j ∧ j < o + vs.length
  · rw [if_pos h1, List.append_assoc, List.getElem?_append_right (by simp; omega), List.getElem?_append_left (by simp; omega)]
    congr 1; simp; omega
  · rw [if_neg h1]
    by_cases h2 : j < o
    · rw [List.append_assoc, List.getElem?_append_left (by simp; omega), List.getElem?_take, if_pos h2]; simp
    · rw [List.getElem?_append_right (by simp; omega), List.getElem?_drop]
      simp
      congr 1
      omega

theorem getD_of {C : Array Value} {j : Nat} {v : Value} (h : C[j]? = some v) : C.getD j undef = v := by
  simp [Array.getD_eq_getD_getElem?, h]

theorem CellsRel.laid {μ : Mu} {cs vs : List AV} {C : Array Value} {cv : List Value} {o : Nat} (hc : CellsRel μ cs C) (hl : cv.length = vs.length) (ho : o + vs.length ≤ cs.length) (hC : cs.length ≤ C.size)
    (hv : ∀ (j : Nat) (v : AV), vs[j]? = some v → v.isCell = true ∧ RV μ v (cv.getD j undef)) : CellsRel μ (setAll cs o vs) (Vm.laid C o cv) := by
  intro j v hj
  rw [setAll_get _ _ _ _ ho] at hj
  have hg := laid_get C o cv (by omega) j
  by_cases h1 : o ≤ j ∧ j < o + vs.length
  · rw [if_pos h1] at hj
    rw [if_pos (by omega)] at hg
    have := hv _ _ hj
    rw [Array.getD_eq_getD_getElem?, hg]
    simpa [List.getD_eq_getElem?_getD] using this
  · rw [if_neg h1] at hj
    rw [if_neg (by omega)] at hg
    have := hc _ _ hj
    rw [Array.getD_eq_getD_getElem?, hg, ← Array.getD_eq_getD_getElem?]
    exact this

theorem run_storeCells_laid {P : Program} {w : World} {b o : Nat} {C : Array Value} {T : TypeId} (vs : List Value) (hg : w.heap[b]? = some (.cells C T (0, 0))) (hl : o + vs.length ≤ C.size) (h1 : ∀ v ∈ vs, isCellV v = true) :
    (storeCells ⟨b, o, none⟩ vs).run P w = .ok () (w.setRow b (laid C o vs)) := by
  have := run_storeCells_at P b o T vs 0 C w hg (by simpa using hl) (fun v hv => oneCell_of (h1 v hv))
  simpa [laid] using this

/-! ### A frame whose locals lie beside what turns -/
theorem LoRel.step {n n0 lock b : Nat} {μ μ' : Mu} {w w' : World} (h : Step n0 lock μ w μ' w') (hb : μ.blk b = .free → b < w.heap.size → μ'.blk b = .free ∧ w'.heap[b]? = w.heap[b]?) {o : LObj} (hl : LoRel n μ w b o) :
    LoRel n μ' w' b o := by
  cases o with
  | own cs =>
    obtain ⟨h1, h2, h3, C, T, h4, h5, h6⟩ := hl
    obtain ⟨e1, e2⟩ := hb h3 h2
    exact ⟨h1, Nat.lt_of_lt_of_le h2 h.size, e1, C, T, e2.trans h4, h5, h6.mono h⟩
  | fwd id =>
    obtain ⟨tot, h1⟩ := hl
    exact ⟨tot, h.at_ _ _ h1⟩
  | map0 =>
    obtain ⟨h1, h2, h3, h4⟩ := hl
    obtain ⟨e1, e2⟩ := hb h3 h2
    exact ⟨h1, Nat.lt_of_lt_of_le h2 h.size, e1, e2.trans h4⟩

theorem FRel.step {n n0 lock : Nat} {μ μ' : Mu} {w w' : World} {ℓ : Loc} {g : Fr} {tmps : Array Value} (F : FRel n μ ℓ g w tmps) (h : Step n0 lock μ w μ' w')
    (hb : ∀ b, μ.blk b = .free → b < w.heap.size → μ'.blk b = .free ∧ w'.heap[b]? = w.heap[b]?) : FRel n μ' ℓ g w' tmps :=
  ⟨fun t v ht => (F.tm t v ht).mono h, F.nt, fun t o ht => by obtain ⟨b, h1, h2⟩ := F.lo t o ht; exact ⟨b, h1, h2.step h (hb b)⟩, F.inj, F.dom⟩

/-! ### Into an object of cells -/
theorem WRel.store {μ : Mu} {s : St} {w : World} (H : WRel μ s w) {id b tot : Nat} {cs cs' : List AV} {C C' : Array Value} {T : TypeId}
    (hid : s.objs.get id = some (.cells cs)) (hat : μ.at_ id = some (b, tot)) (hg : w.heap[b]? = some (.cells C T (0, 0))) (hs : C'.size = C.size) (hl : cs'.length = cs.length) (hc : CellsRel μ cs' C') (hlock : s.lock ≤ id) (n : Nat) :
    WRel μ { s with objs := s.objs.set id (.cells cs') } (w.setRow b C') ∧ Step n s.lock μ w μ (w.setRow b C') ∧ ∀ x, μ.blk x = .free → (w.setRow b C').heap[x]? = w.heap[x]? := by
  obtain ⟨b', tot', h1, h2, C0, T0, h3, h4, h5, h6⟩ := H.obj id cs hid
  rw [hat] at h1; injection h1 with h1; injection h1 with e1 e2; subst e1; subst e2
  rw [hg] at h3; injection h3 with h3; injection h3 with e1 e2 _; subst e1; subst e2
  have hnew := setRow_heap w b C C' T (0, 0) hg
  have hold : ∀ x, x ≠ b → (w.setRow b C').heap[x]? = w.heap[x]? := fun x hx => setRow_other w b x C' hx
  have hst : Step n s.lock μ w μ (w.setRow b C') := by
    refine ⟨fun _ _ h => h, fun _ _ h => h, fun _ f t h => ⟨f, t, h, fun _ _ h => h⟩, fun _ _ _ => rfl, fun x hx hs => ?_, by simp, rfl, rfl, rfl⟩
    refine hold x fun e => ?_
    subst e
    unfold still at hs
    rw [h2] at hs
    simp only at hs; omega
  refine ⟨⟨?_, ?_, ?_, H.lck, ?_, ?_, ?_⟩, hst, fun x hx => hold x fun e => by subst e; rw [h2] at hx; cases hx⟩
  · intro x o v hv
    have hx : x ≠ b := fun e => by subst e; unfold Mu.fro at hv; rw [h2] at hv; simp at hv
    rw [cell_heap (hold x hx)]; exact H.fro x o v hv
  · intro x hx; have := H.bnd x hx; simpa using this
  · intro i hi
    have hlt : id < s.next := by
      apply Nat.lt_of_not_le; intro hc; rw [(H.nxt id hc).1] at hid; cases hid
    refine ⟨?_, (H.nxt i hi).2⟩
    show (s.objs.set id _).get i = _
    have : s.next ≤ i := hi
    rw [Tr.get_set, if_neg (by omega)]; exact (H.nxt i hi).1
  · intro i ds h
    have h : (s.objs.set id (.cells cs')).get i = _ := h
    rw [Tr.get_set] at h
    by_cases he : i = id
    · subst he
      rw [if_pos rfl] at h; injection h with h; injection h with h; subst h
      exact ⟨b, tot, hat, h2, C', T, hnew, by omega, by omega, hc⟩
    · rw [if_neg he] at h
      obtain ⟨x, t, g1, g2, D, U, g3, g4⟩ := H.obj i ds h
      exact ⟨x, t, g1, g2, D, U, by rw [hold x (fun e => by subst e; rw [h2] at g2; injection g2 with g2; omega)]; exact g3, g4⟩
  · intro i kvs h
    have h : (s.objs.set id (.cells cs')).get i = _ := h
    rw [Tr.get_set] at h
    by_cases he : i = id
    · rw [if_pos he] at h; injection h with h; injection h
    · rw [if_neg he] at h
      obtain ⟨x, t, g1, g2, es, clk, g3, g4⟩ := H.map i kvs h
      exact ⟨x, t, g1, g2, es, clk, by rw [hold x (fun e => by subst e; rw [h2] at g2; cases g2)]; exact g3, g4⟩
  · intro i sz h
    have h : (s.objs.set id (.cells cs')).get i = _ := h
    rw [Tr.get_set] at h
    by_cases he : i = id
    · rw [if_pos he] at h; injection h with h; injection h
    · rw [if_neg he] at h
      obtain ⟨x, e, t, f, g1, g2, g3, g4, g5, D, U, g6, g7⟩ := H.tok i sz h
      exact ⟨x, e, t, f, g1, g2, g3, g4, g5, D, U, by rw [hold x (fun e => by subst e; rw [h2] at g2; cases g2)]; exact g6, g7⟩

/-! ### Into a map -/
/-- A world in which one block that is no row of cells is another. -/
structure Reset (w w' : World) (b : Nat) (o : Go.Obj) : Prop where
  new : w'.heap[b]? = some o
  old : ∀ x, x ≠ b → w'.heap[x]? = w.heap[x]?
  size : w'.heap.size = w.heap.size
  os : w'.os = w.os
  tape : w'.tape = w.tape
  output : w'.output = w.output

theorem WRel.storeMap {μ : Mu} {s : St} {w w' : World} (H : WRel μ s w) {id b tot : Nat} {kvs kvs' : List (AV × AV)} {es es' : Array MapEntry} {clk clk' : Nat}
    (hid : s.objs.get id = some (.map kvs)) (hat : μ.at_ id = some (b, tot)) (hw : Reset w w' b (.map es' clk')) (hc : MapRel μ kvs' es' clk') (hlock : s.lock ≤ id) (n : Nat) :
    WRel μ { s with objs := s.objs.set id (.map kvs') } w' ∧ Step n s.lock μ w μ w' ∧ ∀ x, μ.blk x = .free → w'.heap[x]? = w.heap[x]? := by
  obtain ⟨b', tot', h1, h2, es0, clk0, h3, h4⟩ := H.map id kvs hid
  rw [hat] at h1; injection h1 with h1; injection h1 with e1 e2; subst e1; subst e2
  have hold := hw.old
  have hst : Step n s.lock μ w μ w' := by
    refine ⟨fun _ _ h => h, fun _ _ h => h, fun _ f t h => ⟨f, t, h, fun _ _ h => h⟩, fun _ _ _ => rfl, fun x hx hs => ?_, by rw [hw.size]; exact Nat.le_refl _, hw.os, hw.tape, hw.output⟩
    refine hold x fun e => ?_
    subst e
    unfold still at hs
    rw [h2] at hs
    simp only at hs; omega
  refine ⟨⟨?_, ?_, ?_, H.lck, ?_, ?_, ?_⟩, hst, fun x hx => hold x fun e => by subst e; rw [h2] at hx; cases hx⟩
  · intro x o v hv
    have hx : x ≠ b := fun e => by subst e; unfold Mu.fro at hv; rw [h2] at hv; simp at hv
    rw [cell_heap (hold x hx)]; exact H.fro x o v hv
  · intro x hx; have := H.bnd x hx; rw [hw.size]; exact this
  · intro i hi
    have hlt : id < s.next := by
      apply Nat.lt_of_not_le; intro hc; rw [(H.nxt id hc).1] at hid; cases hid
    refine ⟨?_, (H.nxt i hi).2⟩
    show (s.objs.set id _).get i = _
    have : s.next ≤ i := hi
    rw [Tr.get_set, if_neg (by omega)]; exact (H.nxt i hi).1
  · intro i ds h
    have h : (s.objs.set id (.map kvs')).get i = _ := h
    rw [Tr.get_set] at h
    by_cases he : i = id
    · rw [if_pos he] at h; injection h with h; injection h
    · rw [if_neg he] at h
      obtain ⟨x, t, g1, g2, D, U, g3, g4⟩ := H.obj i ds h
      exact ⟨x, t, g1, g2, D, U, by rw [hold x (fun e => by subst e; rw [h2] at g2; cases g2)]; exact g3, g4⟩
  · intro i kvs1 h
    have h : (s.objs.set id (.map kvs')).get i = _ := h
    rw [Tr.get_set] at h
    by_cases he : i = id
    · subst he
      rw [if_pos rfl] at h; injection h with h; injection h with h; subst h
      exact ⟨b, tot, hat, h2, es', clk', hw.new, hc⟩
    · rw [if_neg he] at h
      obtain ⟨x, t, g1, g2, es, clk, g3, g4⟩ := H.map i kvs1 h
      exact ⟨x, t, g1, g2, es, clk, by rw [hold x (fun e => by subst e; rw [h2] at g2; injection g2 with g2; omega)]; exact g3, g4⟩
  · intro i sz h
    have h : (s.objs.set id (.map kvs')).get i = _ := h
    rw [Tr.get_set] at h
    by_cases he : i = id
    · rw [if_pos he] at h; injection h with h; injection h
    · rw [if_neg he] at h
      obtain ⟨x, e, t, f, g1, g2, g3, g4, g5, D, U, g6, g7⟩ := H.tok i sz h
      exact ⟨x, e, t, f, g1, g2, g3, g4, g5, D, U, by rw [hold x (fun e => by subst e; rw [h2] at g2; cases g2)]; exact g6, g7⟩

/-! ### Into a local variable -/
theorem WRel.local {μ : Mu} {s : St} {w : World} (H : WRel μ s w) {b : Nat} {C C' : Array Value} {T : TypeId} (hb : μ.blk b = .free) (hg : w.heap[b]? = some (.cells C T (0, 0))) (n lock : Nat) (hn : n ≤ b) :
    WRel μ s (w.setRow b C') ∧ Step n lock μ w μ (w.setRow b C') := by
  have hold : ∀ x, x ≠ b → (w.setRow b C').heap[x]? = w.heap[x]? := fun x hx => setRow_other w b x C' hx
  have hne : ∀ x, μ.blk x ≠ .free → x ≠ b := fun x hx e => by subst e; exact hx hb
  refine ⟨⟨?_, ?_, H.nxt, H.lck, ?_, ?_, ?_⟩, ⟨fun _ _ h => h, fun _ _ h => h, fun _ f t h => ⟨f, t, h, fun _ _ h => h⟩, fun _ _ _ => rfl, fun x hx _ => hold x (by omega), by simp, rfl, rfl, rfl⟩⟩
  · intro x o v hv
    have hx : x ≠ b := hne x fun e => by unfold Mu.fro at hv; rw [e] at hv; simp at hv
    rw [cell_heap (hold x hx)]; exact H.fro x o v hv
  · intro x hx; have := H.bnd x hx; simpa using this
  · intro i ds h
    obtain ⟨x, t, g1, g2, D, U, g3, g4⟩ := H.obj i ds h
    exact ⟨x, t, g1, g2, D, U, by rw [hold x (hne x (by rw [g2]; simp))]; exact g3, g4⟩
  · intro i kvs h
    obtain ⟨x, t, g1, g2, es, clk, g3, g4⟩ := H.map i kvs h
    exact ⟨x, t, g1, g2, es, clk, by rw [hold x (hne x (by rw [g2]; simp))]; exact g3, g4⟩
  · intro i sz h
    obtain ⟨x, e, t, f, g1, g2, g3, g4, g5, D, U, g6, g7⟩ := H.tok i sz h
    exact ⟨x, e, t, f, g1, g2, g3, g4, g5, D, U, by rw [hold x (hne x (by rw [g2]; simp))]; exact g6, g7⟩

/-! ### A local that goes to the store -/
theorem WRel.promote {μ : Mu} {s : St} {w : World} (H : WRel μ s w) {b : Nat} {C : Array Value} {T : TypeId} {cs : List AV} (hb : μ.blk b = .free) (hlt : b < w.heap.size) (hg : w.heap[b]? = some (.cells C T (0, 0)))
    (hl : C.size = cs.length) (hc : CellsRel μ cs C) (n lock : Nat) (hn : n ≤ b) :
    let μ' := (μ.setBlk b (.obj s.next)).setAt s.next (b, C.size)
    WRel μ' { s with next := s.next + 1, objs := s.objs.set s.next (.cells cs) } w ∧ Step n lock μ w μ' w := by
  intro μ'
  have hst : Step n lock μ w μ' w := by
    refine ⟨fun id x h => ?_, fun _ _ h => h, fun x f t h => ⟨f, t, ?_, fun _ _ h => h⟩, fun x hx _ => ?_, fun _ _ _ => rfl, Nat.le_refl _, rfl, rfl, rfl⟩
    · show (if id = s.next then _ else _) = _
      rw [if_neg]
      · exact h
      · intro e; subst e; rw [(H.nxt s.next (Nat.le_refl _)).2.1] at h; cases h
    · show (if x = b then _ else _) = _
      rw [if_neg (fun e => by subst e; rw [hb] at h; cases h)]; exact h
    · show (if x = b then _ else _) = _
      rw [if_neg (by omega)]
  have hne : ∀ x, μ.blk x ≠ .free → x ≠ b := fun x hx e => by subst e; exact hx hb
  have hk : ∀ x, μ.blk x ≠ .free → μ'.blk x = μ.blk x := fun x hx => by
    show (if x = b then _ else _) = _
    rw [if_neg (hne x hx)]
  refine ⟨⟨?_, ?_, ?_, ?_, ?_, ?_, ?_⟩, hst⟩
  · intro x o v hv
    refine H.fro x o v ?_
    unfold Mu.fro at *
    by_cases e : x = b
    · subst e; simp [μ', Mu.setAt, Mu.setBlk] at hv
    · have : μ'.blk x = μ.blk x := by show (if x = b then _ else _) = _; rw [if_neg e]
      rw [this] at hv; exact hv
  · intro x hx
    by_cases e : x = b
    · omega
    · have : μ'.blk x = μ.blk x := by show (if x = b then _ else _) = _; rw [if_neg e]
      rw [this] at hx; exact H.bnd x hx
  · intro id hid
    have hid : s.next + 1 ≤ id := hid
    have := H.nxt id (by omega)
    refine ⟨?_, ?_, this.2.2⟩
    · show (s.objs.set _ _).get _ = _
      rw [Tr.get_set, if_neg (by omega)]; exact this.1
    · show (if id = s.next then _ else _) = _
      rw [if_neg (by omega)]; exact this.2.1
  · have := H.lck; show s.lock ≤ s.next + 1; omega
  · intro id ds h
    have h : (s.objs.set s.next (.cells cs)).get id = _ := h
    rw [Tr.get_set] at h
    by_cases he : id = s.next
    · subst he
      rw [if_pos rfl] at h; injection h with h; injection h with h; subst h
      exact ⟨b, C.size, by simp [μ', Mu.setAt], by simp [μ', Mu.setAt, Mu.setBlk], C, T, hg, rfl, by omega, hc.mono hst⟩
    · rw [if_neg he] at h
      obtain ⟨x, t, g1, g2, D, U, g3, g4, g5, g6⟩ := H.obj id ds h
      exact ⟨x, t, hst.at_ _ _ g1, (hk x (by rw [g2]; simp)).trans g2, D, U, g3, g4, g5, g6.mono hst⟩
  · intro id kvs h
    have h : (s.objs.set s.next (.cells cs)).get id = _ := h
    rw [Tr.get_set] at h
    by_cases he : id = s.next
    · rw [if_pos he] at h; injection h with h; injection h
    · rw [if_neg he] at h
      obtain ⟨x, t, g1, g2, es, clk, g3, g4⟩ := H.map id kvs h
      exact ⟨x, t, hst.at_ _ _ g1, (hk x (by rw [g2]; simp)).trans g2, es, clk, g3, g4.mono hst⟩
  · intro id sz h
    have h : (s.objs.set s.next (.cells cs)).get id = _ := h
    rw [Tr.get_set] at h
    by_cases he : id = s.next
    · rw [if_pos he] at h; injection h with h; injection h
    · rw [if_neg he] at h
      obtain ⟨x, e, t, f, g1, g2, g3, g4, g5, D, U, g6, g7⟩ := H.tok id sz h
      exact ⟨x, e, t, f, g1, (hk x (by rw [g2]; simp)).trans g2, g3, g4, g5, D, U, g6, g7⟩

theorem WRel.promoteMap {μ : Mu} {s : St} {w : World} (H : WRel μ s w) {b : Nat} (hb : μ.blk b = .free) (hlt : b < w.heap.size) (hg : w.heap[b]? = some (.map #[] 0)) (n lock : Nat) (hn : n ≤ b) :
    let μ' := (μ.setBlk b (.map s.next)).setAt s.next (b, 0)
    WRel μ' { s with next := s.next + 1, objs := s.objs.set s.next (.map []) } w ∧ Step n lock μ w μ' w := by
  intro μ'
  have hst : Step n lock μ w μ' w := by
    refine ⟨fun id x h => ?_, fun _ _ h => h, fun x f t h => ⟨f, t, ?_, fun _ _ h => h⟩, fun x hx _ => ?_, fun _ _ _ => rfl, Nat.le_refl _, rfl, rfl, rfl⟩
    · show (if id = s.next then _ else _) = _
      rw [if_neg]
      · exact h
      · intro e; subst e; rw [(H.nxt s.next (Nat.le_refl _)).2.1] at h; cases h
    · show (if x = b then _ else _) = _
      rw [if_neg (fun e => by subst e; rw [hb] at h; cases h)]; exact h
    · show (if x = b then _ else _) = _
      rw [if_neg (by omega)]
  have hne : ∀ x, μ.blk x ≠ .free → x ≠ b := fun x hx e => by subst e; exact hx hb
  have hk : ∀ x, μ.blk x ≠ .free → μ'.blk x = μ.blk x := fun x hx => by
    show (if x = b then _ else _) = _
    rw [if_neg (hne x hx)]
  refine ⟨⟨?_, ?_, ?_, ?_, ?_, ?_, ?_⟩, hst⟩
  · intro x o v hv
    refine H.fro x o v ?_
    unfold Mu.fro at *
    by_cases e : x = b
    · subst e; simp [μ', Mu.setAt, Mu.setBlk] at hv
    · have : μ'.blk x = μ.blk x := by show (if x = b then _ else _) = _; rw [if_neg e]
      rw [this] at hv; exact hv
  · intro x hx
    by_cases e : x = b
    · omega
    · have : μ'.blk x = μ.blk x := by show (if x = b then _ else _) = _; rw [if_neg e]
      rw [this] at hx; exact H.bnd x hx
  · intro id hid
    have hid : s.next + 1 ≤ id := hid
    have := H.nxt id (by omega)
    refine ⟨?_, ?_, this.2.2⟩
    · show (s.objs.set _ _).get _ = _
      rw [Tr.get_set, if_neg (by omega)]; exact this.1
    · show (if id = s.next then _ else _) = _
      rw [if_neg (by omega)]; exact this.2.1
  · have := H.lck; show s.lock ≤ s.next + 1; omega
  · intro id ds h
    have h : (s.objs.set s.next (.map [])).get id = _ := h
    rw [Tr.get_set] at h
    by_cases he : id = s.next
    · rw [if_pos he] at h; injection h with h; injection h
    · rw [if_neg he] at h
      obtain ⟨x, t, g1, g2, D, U, g3, g4, g5, g6⟩ := H.obj id ds h
      exact ⟨x, t, hst.at_ _ _ g1, (hk x (by rw [g2]; simp)).trans g2, D, U, g3, g4, g5, g6.mono hst⟩
  · intro id kvs h
    have h : (s.objs.set s.next (.map [])).get id = _ := h
    rw [Tr.get_set] at h
    by_cases he : id = s.next
    · subst he
      rw [if_pos rfl] at h; injection h with h; injection h with h; subst h
      exact ⟨b, 0, by simp [μ', Mu.setAt], by simp [μ', Mu.setAt, Mu.setBlk], #[], 0, hg, rfl, fun i k v hi => by simp at hi, rfl, fun i e h => by simp at h⟩
    · rw [if_neg he] at h
      obtain ⟨x, t, g1, g2, es, clk, g3, g4⟩ := H.map id kvs h
      exact ⟨x, t, hst.at_ _ _ g1, (hk x (by rw [g2]; simp)).trans g2, es, clk, g3, g4.mono hst⟩
  · intro id sz h
    have h : (s.objs.set s.next (.map [])).get id = _ := h
    rw [Tr.get_set] at h
    by_cases he : id = s.next
    · rw [if_pos he] at h; injection h with h; injection h
    · rw [if_neg he] at h
      obtain ⟨x, e, t, f, g1, g2, g3, g4, g5, D, U, g6, g7⟩ := H.tok id sz h
      exact ⟨x, e, t, f, g1, (hk x (by rw [g2]; simp)).trans g2, g3, g4, g5, D, U, g6, g7⟩

/-! ### Into a row's room -/
theorem WRel.intoRoom {μ : Mu} {s : St} {w : World} (H : WRel μ s w) {id sz b e tot : Nat} {news : List Value}
    (hid : s.objs.get id = some (.grow sz)) (hh : μ.hist id = some ⟨b, e, sz, tot⟩) (hl : e + news.length ≤ tot) (hlock : s.lock ≤ id) (n : Nat) :
    ∃ C T f, w.heap[b]? = some (.cells C T (0, 0)) ∧ C.size = tot ∧ μ.blk b = .data f (some id) ∧
    let μ' := (μ.setBlk b (.data (fun o => if e ≤ o ∧ o < e + news.length then news[o - e]? else f o) (some s.next))).setHist s.next ⟨b, e + news.length, sz, tot⟩
    WRel μ' { s with next := s.next + 1, objs := (s.objs.put id none).set s.next (.grow sz) } (w.setRow b (laid C e news)) ∧ Step n s.lock μ w μ' (w.setRow b (laid C e news)) ∧
    ∀ x, μ.blk x = .free → μ'.blk x = .free ∧ (w.setRow b (laid C e news)).heap[x]? = w.heap[x]? := by
  obtain ⟨b', e', tot', f, h1, h2, h3, h4, h5, C, T, h6, h7⟩ := H.tok id sz hid
  rw [hh] at h1; injection h1 with h1; injection h1 with e1 e2 _ e3; subst e1; subst e2; subst e3
  have hlt : id < s.next := by
    apply Nat.lt_of_not_le; intro hc; rw [(H.nxt id hc).1] at hid; cases hid
  refine ⟨C, T, f, h6, h7, h2, ?_⟩
  intro μ'
  have hnew := setRow_heap w b C (laid C e news) T (0, 0) h6
  have hold : ∀ x, x ≠ b → (w.setRow b (laid C e news)).heap[x]? = w.heap[x]? := fun x hx => setRow_other w b x _ hx
  have hk : ∀ x, x ≠ b → μ'.blk x = μ.blk x := fun x hx => by
    show (if x = b then _ else _) = _
    rw [if_neg hx]
  have hkb : μ'.blk b = .data (fun o => if e ≤ o ∧ o < e + news.length then news[o - e]? else f o) (some s.next) := by
    show (if b = b then _ else _) = _
    rw [if_pos rfl]
  have hst : Step n s.lock μ w μ' (w.setRow b (laid C e news)) := by
    refine ⟨fun _ _ h => h, fun i x h => ?_, fun x g t h => ?_, fun x hx hs => ?_, fun x hx hs => ?_, by simp, rfl, rfl, rfl⟩
    · show (if i = s.next then _ else _) = _
      rw [if_neg]
      · exact h
      · intro e; subst e; rw [(H.nxt s.next (Nat.le_refl _)).2.2] at h; cases h
    · by_cases ex : x = b
      · subst ex
        rw [h2] at h; injection h with h _; subst h
        refine ⟨_, _, hkb, fun o v hv => ?_⟩
        show (if _ then _ else _) = _
        rw [if_neg]
        · exact hv
        · intro hc; rw [h3 o hc.1] at hv; cases hv
      · exact ⟨g, t, (hk x ex).trans h, fun _ _ h => h⟩
    · refine hk x fun ex => ?_
      subst ex; unfold still at hs; rw [h2] at hs; simp only at hs; omega
    · refine hold x fun ex => ?_
      subst ex; unfold still at hs; rw [h2] at hs; simp only at hs; omega
  refine ⟨⟨?_, ?_, ?_, ?_, ?_, ?_, ?_⟩, hst, fun x hx => ?_⟩
  · intro x o v hv
    by_cases ex : x = b
    · subst ex
      rw [cell_of hnew, laid_get C e news (by omega)]
      unfold Mu.fro at hv; rw [hkb] at hv; simp only at hv
      split
      · rename_i hc; rw [if_pos hc] at hv; exact hv
      · rename_i hc; rw [if_neg hc] at hv
        have := H.fro x o v (by unfold Mu.fro; rw [h2]; exact hv)
        rw [cell_of h6] at this; exact this
    · rw [cell_heap (hold x ex)]
      refine H.fro x o v ?_
      unfold Mu.fro at *; rw [hk x ex] at hv; exact hv
  · intro x hx
    by_cases ex : x = b
    · subst ex; have := H.bnd x (by rw [h2]; simp); simpa using this
    · rw [hk x ex] at hx; have := H.bnd x hx; simpa using this
  · intro i hi
    have hi : s.next + 1 ≤ i := hi
    have := H.nxt i (by omega)
    refine ⟨?_, this.2.1, ?_⟩
    · show ((s.objs.put id none).set _ _).get _ = _
      rw [Tr.get_set, if_neg (by omega), Tr.get_put, if_neg (by omega)]; exact this.1
    · show (if i = s.next then _ else _) = _
      rw [if_neg (by omega)]; exact this.2.2
  · have := H.lck; show s.lock ≤ s.next + 1; omega
  · intro i ds h
    have h : ((s.objs.put id none).set s.next (.grow sz)).get i = _ := h
    rw [Tr.get_set] at h
    by_cases he : i = s.next
    · rw [if_pos he] at h; injection h with h; injection h
    · rw [if_neg he, Tr.get_put] at h
      split at h
      · cases h
      · obtain ⟨x, t, g1, g2, D, U, g3, g4, g5, g6⟩ := H.obj i ds h
        have ex : x ≠ b := fun e => by subst e; rw [h2] at g2; cases g2
        exact ⟨x, t, g1, (hk x ex).trans g2, D, U, (hold x ex).trans g3, g4, g5, g6.mono hst⟩
  · intro i kvs h
    have h : ((s.objs.put id none).set s.next (.grow sz)).get i = _ := h
    rw [Tr.get_set] at h
    by_cases he : i = s.next
    · rw [if_pos he] at h; injection h with h; injection h
    · rw [if_neg he, Tr.get_put] at h
      split at h
      · cases h
      · obtain ⟨x, t, g1, g2, es, clk, g3, g4⟩ := H.map i kvs h
        have ex : x ≠ b := fun e => by subst e; rw [h2] at g2; cases g2
        exact ⟨x, t, g1, (hk x ex).trans g2, es, clk, (hold x ex).trans g3, g4.mono hst⟩
  · intro i z h
    have h : ((s.objs.put id none).set s.next (.grow sz)).get i = _ := h
    rw [Tr.get_set] at h
    by_cases he : i = s.next
    · subst he
      rw [if_pos rfl] at h; injection h with h; injection h with h; subst h
      refine ⟨b, e + news.length, tot, _, by simp [μ', Mu.setHist], hkb, fun o ho => ?_, h4, hl, laid C e news, T, hnew, ?_⟩
      · show (if _ then _ else _) = _
        rw [if_neg (by omega)]; exact h3 o (by omega)
      · rw [laid_size C e news (by omega)]; exact h7
    · rw [if_neg he, Tr.get_put] at h
      split at h
      · cases h
      · obtain ⟨x, e', t, f', g1, g2, g3, g4, g5, D, U, g6, g7⟩ := H.tok i z h
        have ex : x ≠ b := fun e => by subst e; rw [h2] at g2; injection g2 with _ g2; injection g2 with g2; omega
        exact ⟨x, e', t, f', hst.hist _ _ g1, (hk x ex).trans g2, g3, g4, g5, D, U, (hold x ex).trans g6, g7⟩
  · have ex : x ≠ b := fun e => by subst e; rw [h2] at hx; cases hx
    exact ⟨(hk x ex).trans hx, hold x ex⟩

/-- A row of the store's own that is appended to where it lies. -/
theorem WRel.ontoObj {μ : Mu} {s : St} {w : World} (H : WRel μ s w) {id b tot : Nat} {cs vs : List AV} {C : Array Value} {T : TypeId} {news : List Value}
    (hid : s.objs.get id = some (.cells cs)) (hat : μ.at_ id = some (b, tot)) (hg : w.heap[b]? = some (.cells C T (0, 0))) (hl : news.length = vs.length) (hfit : cs.length + news.length ≤ tot)
    (hv : ∀ (j : Nat) (v : AV), vs[j]? = some v → v.isCell = true ∧ RV μ v (news.getD j undef)) (hlock : s.lock ≤ id) (n : Nat) :
    let μ' := (μ.setBlk b (.obj s.next)).setAt s.next (b, tot)
    WRel μ' { s with next := s.next + 1, objs := (s.objs.put id none).set s.next (.cells (cs ++ vs)) } (w.setRow b (laid C cs.length news)) ∧ Step n s.lock μ w μ' (w.setRow b (laid C cs.length news)) ∧
    ∀ x, μ.blk x = .free → μ'.blk x = .free ∧ (w.setRow b (laid C cs.length news)).heap[x]? = w.heap[x]? := by
  intro μ'
  obtain ⟨b', tot', h1, h2, C0, T0, h3, h4, h5, h6⟩ := H.obj id cs hid
  rw [hat] at h1; injection h1 with h1; injection h1 with e1 e2; subst e1; subst e2
  rw [hg] at h3; injection h3 with h3; injection h3 with e1 e2 _; subst e1; subst e2
  have hlt : id < s.next := by
    apply Nat.lt_of_not_le; intro hc; rw [(H.nxt id hc).1] at hid; cases hid
  have hnew := setRow_heap w b C (laid C cs.length news) T (0, 0) hg
  have hold : ∀ x, x ≠ b → (w.setRow b (laid C cs.length news)).heap[x]? = w.heap[x]? := fun x hx => setRow_other w b x _ hx
  have hk : ∀ x, x ≠ b → μ'.blk x = μ.blk x := fun x hx => by
    show (if x = b then _ else _) = _
    rw [if_neg hx]
  have hkb : μ'.blk b = .obj s.next := by
    show (if b = b then _ else _) = _
    rw [if_pos rfl]
  have hst : Step n s.lock μ w μ' (w.setRow b (laid C cs.length news)) := by
    refine ⟨fun i x h => ?_, fun _ _ h => h, fun x g t h => ⟨g, t, ?_, fun _ _ h => h⟩, fun x hx hs => ?_, fun x hx hs => ?_, by simp, rfl, rfl, rfl⟩
    · show (if i = s.next then _ else _) = _
      rw [if_neg]
      · exact h
      · intro e; subst e; rw [(H.nxt s.next (Nat.le_refl _)).2.1] at h; cases h
    · rw [hk x (fun e => by subst e; rw [h2] at h; cases h)]; exact h
    · refine hk x fun ex => ?_
      subst ex; unfold still at hs; rw [h2] at hs; simp only at hs; omega
    · refine hold x fun ex => ?_
      subst ex; unfold still at hs; rw [h2] at hs; simp only at hs; omega
  have hcells : CellsRel μ (cs ++ vs) (laid C cs.length news) := by
    intro j v hj
    have hg := laid_get C cs.length news (by omega) j
    rw [Array.getD_eq_getD_getElem?, hg]
    by_cases hjl : j < cs.length
    · rw [List.getElem?_append_left hjl] at hj
      rw [if_neg (by omega), ← Array.getD_eq_getD_getElem?]
      exact h6 j v hj
    · rw [List.getElem?_append_right (by omega)] at hj
      have hlt := (List.getElem?_eq_some_iff.1 hj).1
      rw [if_pos (by omega)]
      have := hv _ _ hj
      simpa [List.getD_eq_getElem?_getD] using this
  refine ⟨⟨?_, ?_, ?_, ?_, ?_, ?_, ?_⟩, hst, fun x hx => ?_⟩
  · intro x o v hv
    have ex : x ≠ b := fun e => by subst e; unfold Mu.fro at hv; rw [hkb] at hv; simp at hv
    rw [cell_heap (hold x ex)]
    refine H.fro x o v ?_
    unfold Mu.fro at *; rw [hk x ex] at hv; exact hv
  · intro x hx
    by_cases ex : x = b
    · subst ex; have := H.bnd x (by rw [h2]; simp); simpa using this
    · rw [hk x ex] at hx; have := H.bnd x hx; simpa using this
  · intro i hi
    have hi : s.next + 1 ≤ i := hi
    have := H.nxt i (by omega)
    refine ⟨?_, ?_, this.2.2⟩
    · show ((s.objs.put id none).set _ _).get _ = _
      rw [Tr.get_set, if_neg (by omega), Tr.get_put, if_neg (by omega)]; exact this.1
    · show (if i = s.next then _ else _) = _
      rw [if_neg (by omega)]; exact this.2.1
  · have := H.lck; show s.lock ≤ s.next + 1; omega
  · intro i ds h
    have h : ((s.objs.put id none).set s.next (.cells (cs ++ vs))).get i = _ := h
    rw [Tr.get_set] at h
    by_cases he : i = s.next
    · subst he
      rw [if_pos rfl] at h; injection h with h; injection h with h; subst h
      refine ⟨b, tot, by simp [μ', Mu.setAt], hkb, laid C cs.length news, T, hnew, ?_, ?_, hcells.mono hst⟩
      · rw [laid_size C cs.length news (by omega)]; exact h4
      · simp only [List.length_append]; omega
    · rw [if_neg he, Tr.get_put] at h
      split at h
      · cases h
      · rename_i hne
        obtain ⟨x, t, g1, g2, D, U, g3, g4, g5, g6⟩ := H.obj i ds h
        have ex : x ≠ b := fun e => by subst e; rw [h2] at g2; injection g2 with g2; omega
        exact ⟨x, t, hst.at_ _ _ g1, (hk x ex).trans g2, D, U, (hold x ex).trans g3, g4, g5, g6.mono hst⟩
  · intro i kvs h
    have h : ((s.objs.put id none).set s.next (.cells (cs ++ vs))).get i = _ := h
    rw [Tr.get_set] at h
    by_cases he : i = s.next
    · rw [if_pos he] at h; injection h with h; injection h
    · rw [if_neg he, Tr.get_put] at h
      split at h
      · cases h
      · obtain ⟨x, t, g1, g2, es, clk, g3, g4⟩ := H.map i kvs h
        have ex : x ≠ b := fun e => by subst e; rw [h2] at g2; cases g2
        exact ⟨x, t, hst.at_ _ _ g1, (hk x ex).trans g2, es, clk, (hold x ex).trans g3, g4.mono hst⟩
  · intro i z h
    have h : ((s.objs.put id none).set s.next (.cells (cs ++ vs))).get i = _ := h
    rw [Tr.get_set] at h
    by_cases he : i = s.next
    · rw [if_pos he] at h; injection h with h; injection h
    · rw [if_neg he, Tr.get_put] at h
      split at h
      · cases h
      · obtain ⟨x, e', t, f', g1, g2, g3, g4, g5, D, U, g6, g7⟩ := H.tok i z h
        have ex : x ≠ b := fun e => by subst e; rw [h2] at g2; cases g2
        exact ⟨x, e', t, f', hst.hist _ _ g1, (hk x ex).trans g2, g3, g4, g5, D, U, (hold x ex).trans g6, g7⟩
  · have ex : x ≠ b := fun e => by subst e; rw [h2] at hx; cases hx
    exact ⟨(hk x ex).trans hx, hold x ex⟩

end
end Go.Vm

namespace Go.Vm
noncomputable section

structure Ctx.Ok (Γ : Ctx) (P : Program) : Prop where
  mixed : P.follows .mixedOrders = true
  fn : ∀ f fn, Γ.fn f = some fn → P.funcs[f]? = some fn ∧ (fn.name == "runtime.NumGoroutine") = false
  ty : ∀ t i, Γ.ty t = some i → ∃ info, P.info? t = some info ∧ P.underlying t = some i.und ∧ info.size = i.size ∧ info.bytes = i.bytes ∧ info.zero = i.zero
  plain : ∀ t i, Γ.ty t = some i → i.plain = true → P.eqGuardType P.depth t = false ∧ P.stoodInHeld t = false

section
variable {P : Program} {Γ : Ctx} (hΓ : Γ.Ok P)
include hΓ

theorem run_und {t : TypeId} {i : TI} (h : Γ.ty t = some i) (w : World) : (underlying t).run P w = .ok i.und w := by
  obtain ⟨info, h1, h2, _⟩ := hΓ.ty t i h
  simp [underlying, h2]
theorem run_info {t : TypeId} {i : TI} (h : Γ.ty t = some i) (w : World) : ∃ info, (typeInfo t).run P w = .ok info w ∧ info.size = i.size ∧ info.bytes = i.bytes ∧ info.zero = i.zero := by
  obtain ⟨info, h1, h2, h3⟩ := hΓ.ty t i h
  exact ⟨info, by simp [typeInfo, h1], h3⟩
theorem run_size {t : TypeId} {i : TI} (h : Γ.ty t = some i) (w : World) : (sizeOf t).run P w = .ok i.size w := by
  obtain ⟨info, h1, h2, _⟩ := run_info hΓ h w
  simp [sizeOf, h1, h2]
theorem run_zero {t : TypeId} {i : TI} (h : Γ.ty t = some i) {z : Value} (hz : i.zero = some z) (w : World) : (zeroValue t).run P w = .ok z w := by
  obtain ⟨info, h1, h2, h3, h4⟩ := run_info hΓ h w
  simp [zeroValue, h1, h4, hz]
theorem run_isAgg {t : TypeId} {i : TI} (h : Γ.ty t = some i) (w : World) : (isAgg t).run P w = .ok i.isAgg w := by
  simp only [isAgg, Sem.run_bind, run_und hΓ h, Result.andThen_ok, TI.isAgg]
  cases i.und <;> rfl
end

theorem addr_add (b o n : Nat) : (⟨b, o, none⟩ : Addr).add n = ⟨b, o + n, none⟩ := by
  unfold Addr.add
  split <;> simp_all

/-! ### Values that stand in the text -/
theorem RV.ofCell {μ : Mu} (v : Value) : RV μ (AV.ofCell v) v := by
  unfold AV.ofCell
  split
  · exact .sl .nil [] none 0 0 0 0 (fun _ => undef) (fun h => absurd rfl h) (fun e he => by simp at he) (fun e he => by simp at he) (fun i e j c h => by simp at h) (fun i e j c h => by simp at h) (Nat.zero_le _) ⟨rfl, rfl, rfl⟩ (fun _ _ e => by cases e)
  · rename_i s
    exact (RV.str s.data.toList : RV μ _ (.string ⟨⟨s.data.toList⟩⟩))
  · exact .lit _

theorem isCell_ofCell {v : Value} (h : v.oneCell' = true) : (AV.ofCell v).isCell = true := by
  unfold AV.ofCell
  split
  · rfl
  · rfl
  · cases v <;> first | rfl | (simp [Value.oneCell'] at h)

theorem RV.ofValue {μ : Mu} (v : Value) : RV μ (AV.ofValue v) v := by
  unfold AV.ofValue
  split
  · rename_i cs
    cases h : cs.toList.all Value.oneCell' with
    | true =>
      rw [cond_true]
      refine .agg _ _ (by simp) (fun x hx => ?_) (fun i x hi => ?_)
      · obtain ⟨y, hy, rfl⟩ := List.mem_map.1 hx
        exact isCell_ofCell (List.all_eq_true.1 h y hy)
      · rw [List.getElem?_map] at hi
        cases hc : cs.toList[i]? with
        | none => rw [hc] at hi; cases hi
        | some y =>
          rw [hc] at hi; simp only [Option.map_some, Option.some.injEq] at hi; subst hi
          rw [Array.getElem?_toList] at hc
          rw [getD_of hc]; exact .ofCell y
    | false => exact .lit _
  · rename_i vs
    refine .tup _ _ (by simp) (fun i x hi => ?_)
    rw [List.getElem?_map] at hi
    cases hc : vs.toList[i]? with
    | none => rw [hc] at hi; cases hi
    | some y =>
      rw [hc] at hi; simp only [Option.map_some, Option.some.injEq] at hi; subst hi
      rw [Array.getElem?_toList] at hc
      rw [getD_of hc]; exact .ofCell y
  · exact .ofCell _

theorem FRel.ev {n : Nat} {μ : Mu} {ℓ : Loc} {g : Fr} {w : World} {a : Act} (F : FRel n μ ℓ g w a.tmps) (x : Operand) : RL μ ℓ (g.ev x) (a.eval x) := by
  cases x with
  | tmp t =>
    show RL μ ℓ ((g.tm.get t).getD .any) (a.tmps.getD t undef)
    cases h : g.tm.get t with
    | none => exact RV.any _
    | some v => exact F.tm t v h
  | const v => exact RL.of_RV (.ofValue v)
  | global g => exact RV.any _
  | func f => exact (RV.fn f [] #[] rfl (fun i v h => by simp at h) : RV μ _ _)

/-! ### Lists of values -/
theorem exists_list {Q : Nat → Value → Prop} : ∀ n, (∀ j, j < n → ∃ d, Q j d) → ∃ D : List Value, D.length = n ∧ ∀ (j : Nat) (d : Value), D[j]? = some d → Q j d
  | 0, _ => ⟨[], rfl, fun j d h => by simp at h⟩
  | n + 1, h => by
    obtain ⟨D, h1, h2⟩ := exists_list n (fun j hj => h j (by omega))
    obtain ⟨d, hd⟩ := h n (by omega)
    refine ⟨D ++ [d], by simp [h1], fun j e he => ?_⟩
    by_cases hj : j < n
    · rw [List.getElem?_append_left (by omega)] at he; exact h2 j e he
    · rw [List.getElem?_append_right (by omega), h1] at he
      have hlt := (List.getElem?_eq_some_iff.1 he).1
      simp at hlt
      have : j = n := by omega
      subst this
      simp at he; subst he; exact hd

/-! ### Reading through a pointer -/
/-- The cells that the machine tells lie in memory from block b, place o on. -/
def At (μ : Mu) (w : World) (b o : Nat) (cs : List AV) : Prop := ∀ j x, cs[j]? = some x → x.isCell = true ∧ ∃ d, w.cell? ⟨b, o + j, none⟩ = some d ∧ RV μ x d

theorem CellsRel.at_ {μ : Mu} {w : World} {b : Nat} {C : Array Value} {T : TypeId} {fr : Nat × Nat} {cs : List AV} (hg : w.heap[b]? = some (.cells C T fr)) (hl : cs.length ≤ C.size) (h : CellsRel μ cs C) : At μ w b 0 cs := by
  intro j x hj
  have hlt := (List.getElem?_eq_some_iff.1 hj).1
  refine ⟨(h j x hj).1, C.getD j undef, ?_, (h j x hj).2⟩
  rw [Nat.zero_add, cell_of hg, Array.getD_eq_getD_getElem?, Array.getElem?_eq_getElem (by omega)]
  rfl

theorem WRel.cellsAt {μ : Mu} {s : St} {w : World} (H : WRel μ s w) {id : Nat} {cs : List AV} (h : s.cellsAt id = some cs) : s.objs.get id = some (.cells cs) := by
  unfold St.cellsAt at h
  split at h
  · rename_i e; injection h with h; subst h; exact e
  · cases h

theorem deref_sound {n : Nat} {μ : Mu} {ℓ : Loc} {g : Fr} {s : St} {w : World} {tmps : Array Value} (H : WRel μ s w) (F : FRel n μ ℓ g w tmps) {p : AV} {c : Value} (hp : RL μ ℓ p c) {cs : List AV} {off : Nat} (h : deref g s p = some (cs, off)) :
    ∃ b o, c = .pointer (some ⟨b, o + off, none⟩) ∧ At μ w b o cs := by
  have inSt : ∀ id, (s.cellsAt id).map (fun cs => (cs, off)) = some (cs, off) → ∀ b tot, μ.at_ id = some (b, tot) → At μ w b 0 cs := by
    intro id hm b tot hat
    cases hc : s.cellsAt id with
    | none => rw [hc] at hm; cases hm
    | some cs' =>
      rw [hc] at hm; simp only [Option.map_some, Option.some.injEq, Prod.mk.injEq, and_true] at hm; subst hm
      obtain ⟨b', tot', h1, h2, C, T, h3, h4, h5, h6⟩ := H.obj id _ (H.cellsAt hc)
      rw [hat] at h1; injection h1 with h1; injection h1 with e1 e2; subst e1; subst e2
      exact h6.at_ h3 (by omega)
  cases p with
  | vp cs' off' =>
    simp only [deref, Option.some.injEq, Prod.mk.injEq] at h
    obtain ⟨rfl, rfl⟩ := h
    cases (hp : RV μ _ c) with
    | vp _ _ b o d hcl hfro hrv =>
      refine ⟨b, o, rfl, fun j x hj => ⟨hcl x (List.mem_of_getElem? hj), d j, H.fro b (o + j) (d j) (hfro j x hj), hrv j x hj⟩⟩
  | hp id off' =>
    simp only [deref] at h
    cases (hp : RV μ _ c) with
    | hp _ _ b tot hat =>
      have : off' = off := by
        cases hc : s.cellsAt id with
        | none => rw [hc] at h; cases h
        | some cs' => rw [hc] at h; simp only [Option.map_some, Option.some.injEq, Prod.mk.injEq] at h; exact h.2
      subst this
      exact ⟨b, 0, by simp, inSt id h b tot hat⟩
  | lp t off' =>
    obtain ⟨b, hb, rfl⟩ := (hp : ∃ b, ℓ t = some b ∧ c = _)
    simp only [deref] at h
    cases ho : g.lo.get t with
    | none => rw [ho] at h; cases h
    | some o =>
      rw [ho] at h
      obtain ⟨b', hb', hl⟩ := F.lo t o ho
      rw [hb] at hb'; injection hb' with hb'; subst hb'
      cases o with
      | own cs' =>
        simp only [Option.some.injEq, Prod.mk.injEq] at h
        obtain ⟨rfl, rfl⟩ := h
        obtain ⟨_, _, _, C, T, h4, h5, h6⟩ := hl
        exact ⟨b, 0, by simp, h6.at_ h4 (by omega)⟩
      | fwd id =>
        obtain ⟨tot, hat⟩ := hl
        have : off' = off := by
          cases hc : s.cellsAt id with
          | none => simp only [hc] at h; cases h
          | some cs' => simp only [hc, Option.map_some, Option.some.injEq, Prod.mk.injEq] at h; exact h.2
        subst this
        exact ⟨b, 0, by simp, inSt id h b tot hat⟩
      | map0 => cases h
  | _ => simp [deref] at h

/-- Cells in a row, as the model reads them. -/
theorem At.list {μ : Mu} {w : World} {b o : Nat} {cs : List AV} (h : At μ w b o cs) : ∃ D : List Value, D.length = cs.length ∧ (∀ (j : Nat) (d : Value), D[j]? = some d → w.cell? ⟨b, o + j, none⟩ = some d) ∧
    ∀ (j : Nat) (x : AV), cs[j]? = some x → x.isCell = true ∧ ∃ d : Value, D[j]? = some d ∧ RV μ x d := by
  obtain ⟨D, h1, h2⟩ := exists_list (Q := fun j d => w.cell? ⟨b, o + j, none⟩ = some d ∧ ∀ x, cs[j]? = some x → RV μ x d) cs.length (fun j hj => by
    obtain ⟨_, d, h1, h2⟩ := h j cs[j] (List.getElem?_eq_getElem hj)
    refine ⟨d, h1, fun x hx => ?_⟩
    rw [List.getElem?_eq_getElem hj] at hx; injection hx with hx; subst hx; exact h2)
  refine ⟨D, h1, fun j d hd => (h2 j d hd).1, fun j x hx => ⟨(h j x hx).1, ?_⟩⟩
  have hlt := (List.getElem?_eq_some_iff.1 hx).1
  exact ⟨D[j], List.getElem?_eq_getElem (by omega), (h2 j _ (List.getElem?_eq_getElem (by omega))).2 x hx⟩

theorem run_loadCells_at {P : Program} {w : World} {b o n : Nat} {D : List Value} (hl : D.length = n) (h : ∀ (j : Nat) (d : Value), D[j]? = some d → w.cell? ⟨b, o + j, none⟩ = some d) :
    (loadCells ⟨b, o, none⟩ n).run P w = .ok D.toArray w := by
  subst hl
  exact run_loadCells_list w _ D fun j v hj => by rw [addr_add]; exact h j v hj

theorem At.sub {μ : Mu} {w : World} {b o : Nat} {cs : List AV} (h : At μ w b o cs) (off n : Nat) : At μ w b (o + off) ((cs.drop off).take n) := by
  intro j x hj
  rw [List.getElem?_take] at hj
  split at hj
  · rw [List.getElem?_drop] at hj
    have := h _ x hj
    rwa [Nat.add_assoc]
  · cases hj

theorem RV.agg_of_list {μ : Mu} {cs : List AV} {D : List Value} (hl : D.length = cs.length) (h : ∀ (j : Nat) (x : AV), cs[j]? = some x → x.isCell = true ∧ ∃ d : Value, D[j]? = some d ∧ RV μ x d) : RV μ (.agg cs) (.agg D.toArray) := by
  refine .agg cs _ (by simp [hl]) (fun x hx => ?_) (fun i x hi => ?_)
  · obtain ⟨j, hj⟩ := List.getElem?_of_mem hx
    exact (h j x hj).1
  · obtain ⟨_, d, h1, h2⟩ := h i x hi
    rw [getD_of (by simpa using h1)]; exact h2

theorem partAt_sound {P : Program} {Γ : Ctx} (hΓ : Γ.Ok P) {μ : Mu} {w : World} {b o : Nat} {cs : List AV} (h : At μ w b o cs) {t : TypeId} {i : TI} (hi : Γ.ty t = some i) {off : Nat} {v : AV} (hv : partAt i cs off = some v) :
    ∃ cv, (loadVar t ⟨b, o + off, none⟩).run P w = .ok cv w ∧ RV μ v cv := by
  unfold partAt at hv
  simp only [loadVar, Sem.run_bind, run_isAgg hΓ hi, Result.andThen_ok]
  cases hg : i.isAgg with
  | true =>
    rw [hg, cond_true] at hv
    unfold takeAt at hv
    cases hb : Nat.ble (off + i.size) cs.length with
    | false => rw [hb] at hv; cases hv
    | true =>
      rw [hb, cond_true] at hv; injection hv with hv; subst hv
      have hle := Nat.le_of_ble_eq_true hb
      obtain ⟨D, h1, h2, h3⟩ := (h.sub off i.size).list
      refine ⟨.agg D.toArray, ?_, RV.agg_of_list h1 h3⟩
      have hn : D.length = i.size := by rw [h1]; simp; omega
      simp only [if_true, Sem.run_bind, run_size hΓ hi, Result.andThen_ok, run_loadCells_at hn h2, Sem.run_pure]
  | false =>
    rw [hg, cond_false] at hv
    obtain ⟨_, d, h1, h2⟩ := h off v hv
    refine ⟨d, ?_, h2⟩
    simp [run_load, h1]

end
end Go.Vm

namespace Go.Vm
noncomputable section

theorem RV.lit_inv {μ : Mu} {v c : Value} (h : RV μ (.lit v) c) : c = v := by cases h; rfl
theorem RV.str_inv {μ : Mu} {l : List UInt8} {c : Value} (h : RV μ (.str l) c) : c = .string ⟨⟨l⟩⟩ := by cases h; rfl

/-- The guard ahead of '==' lets all pass but two nil interface values, and structs of such. -/
theorem run_eqGuard_plain {P : Program} (op : BinOp) (t : TypeId) (xo yo : Operand) (a b : Value) (w : World) (h1 : a ≠ .nilIface ∨ b ≠ .nilIface) (h2 : (∀ x, a ≠ .agg x) ∨ ∀ x, b ≠ .agg x) :
    (eqGuard op t xo yo a b).run P w = .ok () w := by
  have hm : ∀ (r1 r2 : Sem Unit) (r3 : Sem Unit), r3.run P w = .ok () w → Sem.run P (match a, b with | .nilIface, .nilIface => r1 | .agg _, .agg _ => r2 | _, _ => r3) w = .ok () w := by
    intro r1 r2 r3 hr
    split
    · simp at h1
    · rename_i x y
      rcases h2 with h2 | h2
      · exact absurd rfl (h2 x)
      · exact absurd rfl (h2 y)
    · exact hr
  cases op <;> first
    | rfl
    | exact hm _ _ _ rfl

theorem intBin_sound {P : Program} (op : BinOp) (t : TypeId) (k : IntKind) (a b : Int) (v : AV) (w : World) (h : intBin op k a b = some v) (h1 : op ≠ .shl) (h2 : op ≠ .shr) (μ : Mu) :
    ∃ cv, (binOp op t (.int k a) (.int k b)).run P w = .ok cv w ∧ RV μ v cv := by
  cases op <;> simp only [intBin, Option.some.injEq, reduceCtorEq] at h <;> first
    | (exact absurd rfl h1)
    | (exact absurd rfl h2)
    | (split at h
       · cases h
       · rename_i hb
         injection h with h; subst h
         refine ⟨_, ?_, .lit _⟩
         simp [binOp, Op.intDiv, hb]; done)
    | (subst h
       refine ⟨_, ?_, .lit _⟩
       simp [binOp, Op.intArith, Op.intCmp, Op.intBits]; done)

theorem shiftBin_sound {P : Program} (op : BinOp) (t : TypeId) (k k' : IntKind) (a b : Int) (v : AV) (w : World) (h : shiftBin op k a b = some v) (ho : op = .shl ∨ op = .shr) (μ : Mu) :
    ∃ cv, (binOp op t (.int k a) (.int k' b)).run P w = .ok cv w ∧ RV μ v cv := by
  unfold shiftBin at h
  split at h
  · cases h
  · rename_i hb
    rcases ho with rfl | rfl
    all_goals
      simp only [Option.some.injEq] at h; subst h
      refine ⟨_, ?_, .lit _⟩
      simp [binOp, Op.shift, hb]

theorem toList_mk (l : List UInt8) : (⟨⟨l⟩⟩ : ByteArray).toList = l := by
  rw [ByteArray.toList_eq]

theorem strBin_sound {P : Program} (op : BinOp) (t : TypeId) (a b : List UInt8) (v : AV) (w : World) (h : strBin op a b = some v) (μ : Mu) :
    ∃ cv, (binOp op t (.string ⟨⟨a⟩⟩) (.string ⟨⟨b⟩⟩)).run P w = .ok cv w ∧ RV μ v cv := by
  have hs : (⟨⟨a⟩⟩ : ByteArray).size + (⟨⟨b⟩⟩ : ByteArray).size = a.length + b.length := rfl
  have he : (⟨⟨a⟩⟩ : ByteArray) ++ ⟨⟨b⟩⟩ = ⟨⟨a ++ b⟩⟩ := by
    apply ByteArray.ext
    apply Array.ext'
    simp
  cases op <;> simp only [strBin, Option.some.injEq, reduceCtorEq] at h
  case add =>
    cases hb : Nat.ble (a.length + b.length) 9223372036854775807 with
    | false => rw [hb] at h; cases h
    | true =>
      rw [hb, cond_true] at h; injection h with h; subst h
      refine ⟨_, ?_, .str _⟩
      have hle := Nat.le_of_ble_eq_true hb
      have : ¬ (((a.length + b.length : Nat) : Int) > IntKind.i64.max) := by
        simp [IntKind.max, IntKind.signed, IntKind.bits]; omega
      simp only [binOp, Op.stringOp, hs, if_neg this, he, Sem.run_pure]
  all_goals
    subst h
    refine ⟨_, ?_, .lit _⟩
    simp [binOp, Op.stringOp, toList_mk]

end
end Go.Vm

namespace Go.Vm
noncomputable section

/-- The value v reads, from place i on, as the cells tell. -/
def VR (μ : Mu) (ti : TI) (xs : List AV) (i : Nat) (v : Value) : Prop :=
  if ti.isAgg then ∃ X : Array Value, v = .agg X ∧ ∀ (k : Nat) (u : AV), k < ti.size → xs[i + k]? = some u → ∃ d : Value, X[k]? = some d ∧ RV μ u d
  else ∀ u, xs[i]? = some u → RV μ u v

theorem VR.of_agg {μ : Mu} {ti : TI} {cs : List AV} {c : Value} (ha : ti.isAgg = true) (h : RV μ (.agg cs) c) : VR μ ti cs 0 c := by
  cases h with
  | agg _ C h1 h2 h3 =>
    unfold VR
    rw [if_pos ha]
    refine ⟨C, rfl, fun k u hk hu => ?_⟩
    rw [Nat.zero_add] at hu
    have hlt := (List.getElem?_eq_some_iff.1 hu).1
    refine ⟨C.getD k undef, ?_, h3 k u hu⟩
    rw [Array.getD_eq_getD_getElem?, Array.getElem?_eq_getElem (by omega)]; rfl

theorem sameAt_cell {Γ : Ctx} {n : Nat} {t : TypeId} {ti : TI} {xs ys : List AV} {i j : Nat} {r : Bool} (ht : Γ.ty t = some ti) (h : sameAt Γ n t xs i ys j = some r) (ha : ti.isAgg = false) :
    (∃ u, xs[i]? = some u) ∧ ∃ u, ys[j]? = some u := by
  cases n with
  | zero => simp [sameAt] at h
  | succ n =>
    simp only [sameAt, ht] at h
    unfold TI.isAgg at ha
    split at h
    · rename_i e; rw [e] at ha; cases ha
    · rename_i e; rw [e] at ha; cases ha
    · split at h
      · rename_i e1 e2; exact ⟨⟨_, e1⟩, ⟨_, e2⟩⟩
      · cases h

section
variable {P : Program} {Γ : Ctx} (hΓ : Γ.Ok P)
include hΓ

theorem part_VR {μ : Mu} {ti fi : TI} {t : TypeId} {xs : List AV} {i off : Nat} {X : Array Value} (hX : ∀ (k : Nat) (u : AV), k < ti.size → xs[i + k]? = some u → ∃ d : Value, X[k]? = some d ∧ RV μ u d)
    (hf : Γ.ty t = some fi) (hle : off + fi.size ≤ ti.size) (hsc : fi.isAgg = false → ∃ u, xs[i + off]? = some u) (hpos : fi.isAgg = false → off < ti.size) (w : World) :
    ∃ v, (part t X off).run P w = .ok v w ∧ VR μ fi xs (i + off) v := by
  simp only [part, Sem.run_bind, run_isAgg hΓ hf, Result.andThen_ok]
  cases hg : fi.isAgg with
  | true =>
    simp only [if_true, Sem.run_bind, run_size hΓ hf, Result.andThen_ok, Sem.run_pure]
    refine ⟨_, rfl, ?_⟩
    unfold VR
    rw [hg]
    simp only [if_true]
    refine ⟨_, rfl, fun k u hk hu => ?_⟩
    obtain ⟨d, h1, h2⟩ := hX (off + k) u (by omega) (by rw [← Nat.add_assoc]; exact hu)
    refine ⟨d, ?_, h2⟩
    rw [Array.getElem?_extract]
    have hlt := (Array.getElem?_eq_some_iff.1 h1).1
    rw [if_pos (by omega)]; exact h1
  | false =>
    obtain ⟨u, hu⟩ := hsc hg
    obtain ⟨d, h1, h2⟩ := hX off u (hpos hg) hu
    simp only [Bool.false_eq_true, if_false, h1, Sem.run_pure]
    refine ⟨d, rfl, ?_⟩
    unfold VR
    rw [hg]
    simp only [Bool.false_eq_true, if_false]
    intro u' hu'
    rw [hu] at hu'; injection hu' with hu'; subst hu'; exact h2

theorem sameCell_sound {μ : Mu} {t : TypeId} {ti : TI} (ht : Γ.ty t = some ti) {x y : AV} {a c : Value} (hx : RV μ x a) (hy : RV μ y c) {b : Bool} (h : sameCell ti.und x y = some b) (d : Nat) (w : World) :
    (Op.equalIn (d + 1) t a c).run P w = .ok b w := by
  obtain ⟨_, _, hu, _⟩ := hΓ.ty t ti ht
  unfold sameCell at h
  split at h
  · rename_i k0 k p k' q e
    rw [e] at hu
    have := hx.lit_inv; subst this
    have := hy.lit_inv; subst this
    split at h
    · rename_i hk; injection h with h; subst h; subst hk; exact run_equalIn_int w d t k k0 p q hu
    · cases h
  · rename_i p q e
    rw [e] at hu
    have := hx.lit_inv; subst this
    have := hy.lit_inv; subst this
    injection h with h; subst h; exact run_equalIn_bool' w d t p q hu
  · rename_i p q e
    rw [e] at hu
    have := hx.str_inv; subst this
    have := hy.str_inv; subst this
    injection h with h; subst h
    rw [run_equalIn_string w d t _ _ hu, toList_mk, toList_mk]
  · cases h

/-- Two parts, taken out and held against each other. -/
theorem pair_VR {μ : Mu} {n d : Nat} {ti fi : TI} {t : TypeId} {xs ys : List AV} {i j off : Nat} {X Y : Array Value} {r : Bool}
    (hX : ∀ (k : Nat) (u : AV), k < ti.size → xs[i + k]? = some u → ∃ d : Value, X[k]? = some d ∧ RV μ u d) (hY : ∀ (k : Nat) (u : AV), k < ti.size → ys[j + k]? = some u → ∃ d : Value, Y[k]? = some d ∧ RV μ u d)
    (hf : Γ.ty t = some fi) (hle : off + fi.size ≤ ti.size) (hsz : fi.isAgg = true ∨ 0 < fi.size) (hs : sameAt Γ n t xs (i + off) ys (j + off) = some r)
    (ih : ∀ vx vy (w : World), VR μ fi xs (i + off) vx → VR μ fi ys (j + off) vy → (Op.equalIn d t vx vy).run P w = .ok r w) (w : World) :
    ∃ vx vy, (Go.part t X off).run P w = .ok vx w ∧ (Go.part t Y off).run P w = .ok vy w ∧ (Op.equalIn d t vx vy).run P w = .ok r w := by
  have hc := fun e => sameAt_cell hf hs e
  have hp : fi.isAgg = false → off < ti.size := fun e => by
    rcases hsz with h | h
    · rw [e] at h; cases h
    · omega
  obtain ⟨vx, h1, h2⟩ := part_VR hΓ hX hf hle (fun e => (hc e).1) hp w
  obtain ⟨vy, h3, h4⟩ := part_VR hΓ hY hf hle (fun e => (hc e).2) hp w
  exact ⟨vx, vy, h1, h3, ih vx vy w h2 h4⟩

theorem sameAt_sound {μ : Mu} : ∀ (n : Nat) (t : TypeId) (ti : TI) (xs : List AV) (i : Nat) (ys : List AV) (j : Nat) (b : Bool) (vx vy : Value) (d : Nat) (w : World), sameAt Γ n t xs i ys j = some b → Γ.ty t = some ti →
    VR μ ti xs i vx → VR μ ti ys j vy → n ≤ d → (Op.equalIn d t vx vy).run P w = .ok b w := by
  intro n
  induction n with
  | zero => intro t ti xs i ys j b vx vy d w h; simp [sameAt] at h
  | succ n ih =>
    intro t ti xs i ys j b vx vy d w h ht hx hy hd
    obtain ⟨d, rfl⟩ : ∃ m, d = m + 1 := ⟨d - 1, by omega⟩
    obtain ⟨info, hinfo, hu, _⟩ := hΓ.ty t ti ht
    simp only [sameAt, ht] at h
    split at h
    · rename_i fs hfs
      have hagg : ti.isAgg = true := by simp [TI.isAgg, hfs]
      unfold VR at hx hy
      rw [if_pos hagg] at hx hy
      obtain ⟨X, rfl, hX⟩ := hx
      obtain ⟨Y, rfl, hY⟩ := hy
      have hpl : ti.plain = true := by
        cases hp : ti.plain with
        | true => rfl
        | false => rw [hp] at h; cases h
      rw [hpl] at h
      simp only [Bool.not_true, cond_false] at h
      have hfo : P.fieldsOf t = fs := by simp [Program.fieldsOf, hu, hfs]
      rw [run_equalIn_struct w d t X Y (by rw [hfo, ← hfs]; exact hu) (hΓ.plain t ti ht hpl).2, hfo]
      generalize fs.toList = l at h
      clear hfs hfo
      induction l generalizing b with
      | nil => simp at h; subst h; rfl
      | cons f l ihl =>
        simp only [List.foldr_cons] at h
        simp only [Op.eqFields]
        by_cases hname : f.name = "_"
        · rw [if_neg (by simpa using hname)]
          rw [show (f.name == "_") = true by simpa using hname] at h
          simp only [cond_true] at h
          exact ihl b h
        · rw [if_pos hname]
          rw [show (f.name == "_") = false by simpa using hname] at h
          simp only [cond_false] at h
          cases hf : Γ.ty f.type with
          | none => rw [hf] at h; simp at h
          | some fi =>
            rw [hf] at h
            simp only at h
            cases hle : Nat.ble (f.offset + fi.size) ti.size && (fi.isAgg || Nat.blt 0 fi.size) with
            | false => rw [hle] at h; simp at h
            | true =>
              rw [hle] at h
              simp only [cond_true] at h
              simp only [Bool.and_eq_true, Bool.or_eq_true] at hle
              have hle1 := Nat.le_of_ble_eq_true hle.1
              have hle2 : fi.isAgg = true ∨ 0 < fi.size := hle.2.imp id (fun e => Nat.le_of_ble_eq_true e)
              cases hs : sameAt Γ n f.type xs (i + f.offset) ys (j + f.offset) with
              | none => rw [hs] at h; simp at h
              | some r =>
                obtain ⟨v1, v2, e1, e2, e3⟩ := pair_VR hΓ hX hY hf hle1 hle2 hs (d := d) (fun vx vy w h1 h2 => ih f.type fi xs _ ys _ r vx vy d w hs hf h1 h2 (by omega)) w
                simp only [Sem.run_bind, e1, Result.andThen_ok, e2, e3, Sem.run_ite]
                rw [hs] at h
                cases r with
                | true => simp only [Bool.not_true, Bool.false_eq_true, if_false]; exact ihl b h
                | false => simp only [Option.some.injEq] at h; subst h; simp
    · rename_i m e he
      have hagg : ti.isAgg = true := by simp [TI.isAgg, he]
      unfold VR at hx hy
      rw [if_pos hagg] at hx hy
      obtain ⟨X, rfl, hX⟩ := hx
      obtain ⟨Y, rfl, hY⟩ := hy
      cases hf : Γ.ty e with
      | none => rw [hf] at h; simp at h
      | some ei =>
        rw [hf] at h
        simp only at h
        obtain ⟨einfo, hei, _, hes, _⟩ := hΓ.ty e ei hf
        have hco : P.cellsOf e = ei.size := by simp [Program.cellsOf, hei, hes]
        rw [run_equalIn_array (w := w) d X Y (by rw [← he]; exact hu) hei, hco]
        generalize List.range m = l at h
        clear he
        induction l generalizing b with
        | nil => simp at h; subst h; rfl
        | cons q l ihl =>
          simp only [List.foldr_cons] at h
          simp only [Op.eqItems]
          cases hle : Nat.ble (q * ei.size + ei.size) ti.size && (ei.isAgg || Nat.blt 0 ei.size) with
          | false => rw [hle] at h; simp at h
          | true =>
            rw [hle] at h
            simp only [cond_true] at h
            simp only [Bool.and_eq_true, Bool.or_eq_true] at hle
            have hle1 := Nat.le_of_ble_eq_true hle.1
            have hle2 : ei.isAgg = true ∨ 0 < ei.size := hle.2.imp id (fun e => Nat.le_of_ble_eq_true e)
            cases hs : sameAt Γ n e xs (i + q * ei.size) ys (j + q * ei.size) with
            | none => rw [hs] at h; simp at h
            | some r =>
              obtain ⟨v1, v2, e1, e2, e3⟩ := pair_VR hΓ hX hY hf hle1 hle2 hs (d := d) (fun vx vy w h1 h2 => ih e ei xs _ ys _ r vx vy d w hs hf h1 h2 (by omega)) w
              simp only [Sem.run_bind, e1, Result.andThen_ok, e2, e3, Sem.run_ite]
              rw [hs] at h
              cases r with
              | true => simp only [Bool.not_true, Bool.false_eq_true, if_false]; exact ihl b h
              | false => simp only [Option.some.injEq] at h; subst h; simp
    · rename_i h1 h2
      split at h
      · rename_i x y e1 e2
        have hagg : ti.isAgg = false := by
          unfold TI.isAgg
          split
          · rename_i fs e; exact absurd e (h1 fs)
          · rename_i m e' e; exact absurd e (h2 m e')
          · rfl
        unfold VR at hx hy
        rw [hagg] at hx hy
        simp only [Bool.false_eq_true, if_false] at hx hy
        exact sameCell_sound hΓ ht (hx x e1) (hy y e2) h d w
      · cases h

end

/-- Nil, as the model's values tell it. -/
def nilV : Value → Option Bool
  | .slice a _ _ => some a.isNone
  | .map r => some r.isNone
  | .pointer a => some a.isNone
  | .nilFunc => some true
  | .func _ _ _ => some false
  | _ => none

def nilShape (u : TypeDesc) (a : Value) : Prop :=
  match u with
  | .slice _ => ∃ p n c, a = .slice p n c
  | .map _ _ => ∃ r, a = .map r
  | .pointer _ => ∃ p, a = .pointer p
  | .func _ _ _ => a = .nilFunc ∨ ∃ f p q, a = .func f p q
  | _ => False

theorem nilOf_sound {μ : Mu} {ℓ : Loc} {u : TypeDesc} {x : AV} {a : Value} (hx : RL μ ℓ x a) {b : Bool} (h : nilOf u x = some b) :
    nilV a = some b ∧ nilShape u a := by
  unfold nilOf at h
  split at h <;> simp only [Option.some.injEq, reduceCtorEq] at h <;> subst h
  · cases (hx : RV μ _ a) with
    | sl _ es p cap sz b o d hne hsz hcl hfro hrv hcap htok htk => obtain ⟨rfl, _, _⟩ := htok; exact ⟨rfl, _, _, _, rfl⟩
  · cases (hx : RV μ _ a) with
    | sl _ es p cap sz b o d hne hsz hcl hfro hrv hcap htok htk =>
      obtain ⟨hp, _⟩ := htok
      refine ⟨?_, _, _, _, rfl⟩
      cases p with
      | none => cases hp
      | some p => rfl
  · cases (hx : RV μ _ a) with
    | sl _ es p cap sz b o d hne hsz hcl hfro hrv hcap htok htk => obtain ⟨_, _, _, rfl, _⟩ := htok; exact ⟨rfl, _, _, _, rfl⟩
  · cases (hx : RV μ _ a) with
    | sl _ es p cap sz b o d hne hsz hcl hfro hrv hcap htok htk => have := hne (by simp); subst this; exact ⟨rfl, _, _, _, rfl⟩
  · have := RV.lit_inv hx; subst this; exact ⟨rfl, _, rfl⟩
  · cases (hx : RV μ _ a) with
    | mp => exact ⟨rfl, _, rfl⟩
  · have := RV.lit_inv hx; subst this; exact ⟨rfl, _, rfl⟩
  · cases (hx : RV μ _ a) with
    | hp => exact ⟨rfl, _, rfl⟩
  · cases (hx : RV μ _ a) with
    | vp => exact ⟨rfl, _, rfl⟩
  · obtain ⟨b, _, rfl⟩ := (hx : ∃ b, ℓ _ = some b ∧ a = _); exact ⟨rfl, _, rfl⟩
  · have := RV.lit_inv hx; subst this; exact ⟨rfl, .inl rfl⟩
  · cases (hx : RV μ _ a) with
    | fn => exact ⟨rfl, .inr ⟨_, _, _, rfl⟩⟩

theorem equalIn_nil {P : Program} (w : World) (d : Nat) {t : TypeId} {u : TypeDesc} (hu : P.underlying t = some u) {a c : Value} (h1 : nilShape u a) (h2 : nilShape u c) {p q b : Bool} (hp : nilV a = some p) (hq : nilV c = some q)
    (hb : q = true ∧ b = p ∨ p = true ∧ b = q) : (Op.equalIn (d + 1) t a c).run P w = .ok b w := by
  cases u with
  | slice e =>
    obtain ⟨pa, n1, c1, rfl⟩ := h1
    obtain ⟨pc, n2, c2, rfl⟩ := h2
    simp only [nilV, Option.some.injEq] at hp hq
    subst hp; subst hq
    cases pa <;> cases pc <;> simp at hb <;> subst hb <;> simp [Op.equalIn, run_underlying hu]
  | map k e =>
    obtain ⟨pa, rfl⟩ := h1
    obtain ⟨pc, rfl⟩ := h2
    simp only [nilV, Option.some.injEq] at hp hq
    subst hp; subst hq
    cases pa <;> cases pc <;> simp at hb <;> subst hb <;> simp [Op.equalIn, run_underlying hu]
  | pointer e =>
    obtain ⟨pa, rfl⟩ := h1
    obtain ⟨pc, rfl⟩ := h2
    simp only [nilV, Option.some.injEq] at hp hq
    subst hp; subst hq
    cases pa <;> cases pc <;> simp at hb <;> subst hb <;> simp [Op.equalIn, run_underlying hu]
  | func ps rs v =>
    rcases h1 with rfl | ⟨f1, p1, q1, rfl⟩ <;> rcases h2 with rfl | ⟨f2, p2, q2, rfl⟩ <;> simp only [nilV, Option.some.injEq] at hp hq <;> subst hp <;> subst hq <;> simp at hb <;> (try subst hb) <;> simp [Op.equalIn, run_underlying hu]
  | _ => exact False.elim h1

section
variable {P : Program} {Γ : Ctx} (hΓ : Γ.Ok P)
include hΓ

theorem nilEq_sound {μ : Mu} {ℓ : Loc} {t : TypeId} {ti : TI} (ht : Γ.ty t = some ti) {x y : AV} {a c : Value} (hx : RL μ ℓ x a) (hy : RL μ ℓ y c) {b : Bool} (h : nilEq ti.und x y = some b)
    (d : Nat) (w : World) : (Op.equalIn (d + 1) t a c).run P w = .ok b w := by
  obtain ⟨_, _, hu, _⟩ := hΓ.ty t ti ht
  unfold nilEq at h
  split at h
  · rename_i p e1 e2
    injection h with h; subst h
    exact equalIn_nil w d hu (nilOf_sound hx e1).2 (nilOf_sound hy e2).2 (nilOf_sound hx e1).1 (nilOf_sound hy e2).1 (.inl ⟨rfl, rfl⟩)
  · rename_i q e1 e2
    injection h with h; subst h
    exact equalIn_nil w d hu (nilOf_sound hx e1).2 (nilOf_sound hy e2).2 (nilOf_sound hx e1).1 (nilOf_sound hy e2).1 (.inr ⟨rfl, rfl⟩)
  · cases h

theorem eqBin_sound {μ : Mu} {ℓ : Loc} {t : TypeId} {x y : AV} {a c : Value} (hx : RL μ ℓ x a) (hy : RL μ ℓ y c) {b : Bool} (h : eqBin Γ t x y = some b) (op : BinOp) (xo yo : Operand) (w : World) :
    (Op.equal t a c).run P w = .ok b w ∧ (eqGuard op t xo yo a c).run P w = .ok () w := by
  unfold eqBin at h
  split at h
  · cases h
  · rename_i ti ht
    have nilCase : nilEq ti.und x y = some b → (Op.equal t a c).run P w = .ok b w ∧ (eqGuard op t xo yo a c).run P w = .ok () w := by
      intro hn
      refine ⟨nilEq_sound hΓ ht hx hy hn 9999 w, ?_⟩
      unfold nilEq at hn
      have hs : ∃ p, nilOf ti.und x = some p := by
        split at hn
        · rename_i e _; exact ⟨_, e⟩
        · rename_i e _; exact ⟨_, e⟩
        · cases hn
      obtain ⟨p, hp⟩ := hs
      have := nilOf_sound hx hp
      have hne : a ≠ .nilIface := fun e => by rw [e] at this; simp [nilV] at this
      have hna : ∀ z, a ≠ .agg z := fun z e => by rw [e] at this; simp [nilV] at this
      exact run_eqGuard_plain op t xo yo a c w (.inl hne) (.inl hna)
    split at h
    · rename_i p q hk
      obtain ⟨_, _, hu, _⟩ := hΓ.ty t ti ht
      rw [hk] at hu
      have := RV.lit_inv hx; subst this
      have := RV.lit_inv hy; subst this
      injection h with h; subst h
      exact ⟨run_equalIn_bool' w 9999 t p q hu, run_eqGuard_plain op t xo yo _ _ w (.inl (by simp)) (.inl (by simp))⟩
    · rename_i fs xs ys hk
      cases hp : ti.plain with
      | false => rw [hp] at h; cases h
      | true =>
        rw [hp, cond_true] at h
        have ha : ti.isAgg = true := by simp [TI.isAgg, hk]
        refine ⟨sameAt_sound hΓ 100 t ti xs 0 ys 0 b a c 10000 w h ht (VR.of_agg ha hx) (VR.of_agg ha hy) (by omega), ?_⟩
        cases (hx : RV μ _ a) with
        | agg => cases (hy : RV μ _ c) with
          | agg => exact run_eqGuard_agg w op t xo yo _ _ (hΓ.plain t ti ht hp).1
    · rename_i m e xs ys hk
      cases hp : ti.plain with
      | false => rw [hp] at h; cases h
      | true =>
        rw [hp, cond_true] at h
        have ha : ti.isAgg = true := by simp [TI.isAgg, hk]
        refine ⟨sameAt_sound hΓ 100 t ti xs 0 ys 0 b a c 10000 w h ht (VR.of_agg ha hx) (VR.of_agg ha hy) (by omega), ?_⟩
        cases (hx : RV μ _ a) with
        | agg => cases (hy : RV μ _ c) with
          | agg => exact run_eqGuard_agg w op t xo yo _ _ (hΓ.plain t ti ht hp).1
    · rename_i e hk; exact nilCase (by rw [hk]; exact h)
    · rename_i k e hk; exact nilCase (by rw [hk]; exact h)
    · rename_i e hk; exact nilCase (by rw [hk]; exact h)
    · rename_i p r v hk; exact nilCase (by rw [hk]; exact h)
    · cases h

theorem bin_sound {μ : Mu} {ℓ : Loc} {op : BinOp} {t : TypeId} {x y v : AV} {a c : Value} (hx : RL μ ℓ x a) (hy : RL μ ℓ y c) (h : bin Γ op t x y = some v) (xo yo : Operand) (w : World) :
    ∃ cv, (do eqGuard op t xo yo a c; binOp op t a c).run P w = .ok cv w ∧ RV μ v cv := by
  unfold bin at h
  split at h
  · rename_i k p k' q
    have := RV.lit_inv hx; subst this
    have := RV.lit_inv hy; subst this
    have hg := run_eqGuard_plain (P := P) op t xo yo (.int k p) (.int k' q) w (.inl (by simp)) (.inl (by simp))
    simp only [Sem.run_bind, hg, Result.andThen_ok]
    split at h
    · exact shiftBin_sound .shl t k k' p q v w h (.inl rfl) μ
    · exact shiftBin_sound .shr t k k' p q v w h (.inr rfl) μ
    · rename_i h1 h2
      split at h
      · rename_i hk; subst hk
        exact intBin_sound op t k p q v w h (fun e => h1 e) (fun e => h2 e) μ
      · cases h
  · rename_i p q
    have := RV.str_inv hx; subst this
    have := RV.str_inv hy; subst this
    have hg := run_eqGuard_plain (P := P) op t xo yo (.string ⟨⟨p⟩⟩) (.string ⟨⟨q⟩⟩) w (.inl (by simp)) (.inl (by simp))
    simp only [Sem.run_bind, hg, Result.andThen_ok]
    exact strBin_sound op t p q v w h μ
  · rename_i n1 n2
    have hno : ∀ b, eqBin Γ t x y = some b → (∀ k p, a ≠ .int k p) ∧ (∀ k p, a ≠ .float k p) ∧ (∀ k p q, a ≠ .complex k p q) ∧ (∀ s, a ≠ .string s) := by
      intro b hb
      unfold eqBin at hb
      split at hb
      · cases hb
      · rename_i ti ht
        have nilCase : nilEq ti.und x y = some b → (∀ k p, a ≠ .int k p) ∧ (∀ k p, a ≠ .float k p) ∧ (∀ k p q, a ≠ .complex k p q) ∧ (∀ s, a ≠ .string s) := by
          intro hn
          unfold nilEq at hn
          have hs : ∃ p, nilOf ti.und x = some p := by
            split at hn
            · rename_i e _; exact ⟨_, e⟩
            · rename_i e _; exact ⟨_, e⟩
            · cases hn
          obtain ⟨p, hp⟩ := hs
          have := (nilOf_sound hx hp).1
          refine ⟨fun k p e => ?_, fun k p e => ?_, fun k p q e => ?_, fun s e => ?_⟩ <;> (rw [e] at this; simp [nilV] at this)
        split at hb
        · have := RV.lit_inv hx; subst this; simp
        · cases (hx : RV μ _ a); simp
        · cases (hx : RV μ _ a); simp
        · rename_i e hk; exact nilCase (by rw [hk]; exact hb)
        · rename_i k e hk; exact nilCase (by rw [hk]; exact hb)
        · rename_i e hk; exact nilCase (by rw [hk]; exact hb)
        · rename_i p r v hk; exact nilCase (by rw [hk]; exact hb)
        · cases hb
    split at h
    · cases hb : eqBin Γ t x y with
      | none => rw [hb] at h; cases h
      | some b =>
        rw [hb] at h; simp only [Option.map_some, Option.some.injEq] at h; subst h
        obtain ⟨e1, e2⟩ := eqBin_sound hΓ hx hy hb .eql xo yo w
        obtain ⟨g1, g2, g3, g4⟩ := hno b hb
        refine ⟨.bool b, ?_, .lit _⟩
        simp only [Sem.run_bind, e2, Result.andThen_ok]
        have : binOp .eql t a c = (do pure (.bool (← Op.equal t a c))) := by
          unfold binOp
          split <;> simp_all
        rw [this]; simp [e1]
    · cases hb : eqBin Γ t x y with
      | none => rw [hb] at h; cases h
      | some b =>
        rw [hb] at h; simp only [Option.map_some, Option.some.injEq] at h; subst h
        obtain ⟨e1, e2⟩ := eqBin_sound hΓ hx hy hb .neq xo yo w
        obtain ⟨g1, g2, g3, g4⟩ := hno b hb
        refine ⟨.bool (!b), ?_, .lit _⟩
        simp only [Sem.run_bind, e2, Result.andThen_ok]
        have : binOp .neq t a c = (do pure (.bool (!(← Op.equal t a c)))) := by
          unfold binOp
          split <;> simp_all
        rw [this]; simp [e1]
    · cases h
end

theorem un_sound {P : Program} {μ : Mu} {ℓ : Loc} {op : UnOp} {x v : AV} {a : Value} (hx : RL μ ℓ x a) (h : un op x = some v) (w : World) : ∃ cv, (Op.unary op a).run P w = .ok cv w ∧ RV μ v cv := by
  unfold un at h
  split at h
  · have := RV.lit_inv hx; subst this
    split at h
    · injection h with h; subst h; exact ⟨_, rfl, .lit _⟩
    · injection h with h; subst h; exact ⟨_, rfl, .lit _⟩
    · cases h
  · have := RV.lit_inv hx; subst this
    split at h
    · injection h with h; subst h; exact ⟨_, rfl, .lit _⟩
    · cases h
  · cases h

end
end Go.Vm

namespace Go.Vm
noncomputable section

theorem asNat_sound {μ : Mu} {ℓ : Loc} {x : AV} {a : Value} (hx : RL μ ℓ x a) {n : Nat} (h : asNat x = some n) : ∃ k, a = .int k (n : Int) := by
  unfold asNat at h
  split at h
  · have := RV.lit_inv hx; subst this
    split at h
    · rename_i k m hm; injection h with h; subst h; exact ⟨k, by rw [Int.toNat_of_nonneg hm]⟩
    · cases h
  · cases h

theorem ptrAdd_sound {μ : Mu} {ℓ : Loc} {p q : AV} {c : Value} (hp : RL μ ℓ p c) {n : Nat} (h : ptrAdd n p = some q) :
    ∃ b o, c = .pointer (some ⟨b, o, none⟩) ∧ RL μ ℓ q (.pointer (some ⟨b, o + n, none⟩)) := by
  cases p <;> simp only [ptrAdd, Option.some.injEq, reduceCtorEq] at h
  case vp cs off =>
    subst h
    cases (hp : RV μ _ c) with
    | vp _ _ b o d hcl hfro hrv =>
      refine ⟨b, o + off, rfl, ?_⟩
      rw [Nat.add_assoc]
      exact RV.vp cs (off + n) b o d hcl hfro hrv
  case hp id off =>
    subst h
    cases (hp : RV μ _ c) with
    | hp _ _ b tot hat => exact ⟨b, off, rfl, RV.hp id (off + n) b tot hat⟩
  case lp t off =>
    subst h
    obtain ⟨b, hb, rfl⟩ := (hp : ∃ b, ℓ t = some b ∧ c = _)
    exact ⟨b, off, rfl, b, hb, rfl⟩

theorem run_asIntOf {P : Program} (k : IntKind) (n : Int) (w : World) : (asIntOf (.int k n)).run P w = .ok (k, n) w := rfl

section
variable {P : Program} {Γ : Ctx} (hΓ : Γ.Ok P)
include hΓ

theorem fieldAddr_sound {μ : Mu} {ℓ : Loc} {t : TypeId} {x v : AV} {a : Value} (hx : RL μ ℓ x a) {j : Nat} (h : fieldAddr Γ t x j = some v) (w : World) :
    ∃ cv, (Instr.fieldAt t a j).run P w = .ok cv w ∧ RL μ ℓ v cv := by
  unfold fieldAddr at h
  split at h
  · cases h
  · rename_i ti ht
    split at h
    · rename_i fs hfs
      split at h
      · rename_i f hf
        split at h
        · rename_i fi hfi
          cases hz : Nat.beq fi.size 0 with
          | true => rw [hz] at h; cases h
          | false =>
            rw [hz, cond_false] at h
            have hz : fi.size ≠ 0 := fun e => by rw [e] at hz; cases hz
            obtain ⟨b, o, rfl, hv⟩ := ptrAdd_sound hx h
            refine ⟨_, ?_, hv⟩
            simp only [Instr.fieldAt, Sem.run_bind, run_und hΓ ht, Result.andThen_ok, hfs, hf, Instr.sureAddr, Sem.run_pure, fieldPlace, run_size hΓ hfi, if_neg hz, addr_add]
        · cases h
      · cases h
    · cases h

theorem partCells_sound {μ : Mu} {cs : List AV} {C : Array Value} (h : RV μ (.agg cs) (.agg C)) {t : TypeId} {i : TI} (hi : Γ.ty t = some i) {off : Nat} {v : AV} (hv : partAt i cs off = some v) (w : World) :
    ∃ cv, (Go.part t C off).run P w = .ok cv w ∧ RV μ v cv := by
  cases h with
  | agg _ _ h1 h2 h3 =>
    unfold partAt at hv
    simp only [Go.part, Sem.run_bind, run_isAgg hΓ hi, Result.andThen_ok]
    cases hg : i.isAgg with
    | true =>
      rw [hg, cond_true] at hv
      unfold takeAt at hv
      cases hb : Nat.ble (off + i.size) cs.length with
      | false => rw [hb] at hv; cases hv
      | true =>
        rw [hb, cond_true] at hv; injection hv with hv; subst hv
        have hle := Nat.le_of_ble_eq_true hb
        refine ⟨.agg (C.extract off (off + i.size)), ?_, ?_⟩
        · simp only [if_true, Sem.run_bind, run_size hΓ hi, Result.andThen_ok, Sem.run_pure]
        · refine .agg _ _ ?_ (fun x hx => h2 x (List.mem_of_mem_drop (List.mem_of_mem_take hx))) (fun k x hk => ?_)
          · simp; omega
          · rw [List.getElem?_take] at hk
            split at hk
            · rw [List.getElem?_drop] at hk
              have := h3 _ _ hk
              rw [Array.getD_eq_getD_getElem?, Array.getElem?_extract, if_pos (by omega), ← Array.getD_eq_getD_getElem?]
              exact this
            · cases hk
    | false =>
      rw [hg, cond_false] at hv
      have hlt := (List.getElem?_eq_some_iff.1 hv).1
      have := h3 _ _ hv
      refine ⟨C.getD off undef, ?_, this⟩
      have e : C[off]? = some (C.getD off undef) := by
        rw [Array.getD_eq_getD_getElem?, Array.getElem?_eq_getElem (by omega)]; rfl
      simp only [Bool.false_eq_true, if_false, e, Sem.run_pure]

theorem field_sound {μ : Mu} {ℓ : Loc} {t : TypeId} {x v : AV} {a : Value} (hx : RL μ ℓ x a) {j : Nat} (h : field Γ t x j = some v) (w : World) :
    ∃ cv, (Instr.field t a j).run P w = .ok cv w ∧ RV μ v cv := by
  unfold field at h
  split at h
  · cases h
  · rename_i ti ht
    split at h
    · rename_i fs cs hfs
      split at h
      · rename_i f hf
        split at h
        · rename_i fi hfi
          have hx' : RV μ (.agg cs) a := hx
          obtain ⟨C, rfl⟩ : ∃ C, a = .agg C := by cases hx'; exact ⟨_, rfl⟩
          obtain ⟨cv, h1, h2⟩ := partCells_sound hΓ hx' hfi h w
          refine ⟨cv, ?_, h2⟩
          simp only [Instr.field, Sem.run_bind, run_und hΓ ht, Result.andThen_ok, hfs, hf, asAgg, Sem.run_pure, h1]
        · cases h
      · cases h
    · cases h

theorem indexAddr_sound {μ : Mu} {ℓ : Loc} {t : TypeId} {x i v : AV} {a c : Value} (hx : RL μ ℓ x a) (hi : RL μ ℓ i c) (h : indexAddr Γ t x i = some v) (w : World) :
    ∃ cv, (Instr.indexAt t a c).run P w = .ok cv w ∧ RL μ ℓ v cv := by
  unfold indexAddr at h
  split at h
  · rename_i ti n ht hn
    obtain ⟨k, rfl⟩ := asNat_sound hi hn
    split at h
    · rename_i len e he
      split at h
      · rename_i ei hei
        cases hb : Nat.blt n len with
        | false => rw [hb] at h; cases h
        | true =>
          rw [hb, cond_true] at h
          have hlt : n < len := Nat.le_of_ble_eq_true hb
          obtain ⟨b, o, rfl, hv⟩ := ptrAdd_sound hx h
          refine ⟨_, ?_, hv⟩
          simp only [Instr.indexAt, Sem.run_bind, run_asIntOf, run_und hΓ ht, Result.andThen_ok, he, Instr.sureAddr, Sem.run_pure]
          rw [if_pos ⟨by omega, by omega⟩]
          simp [run_size hΓ hei, addr_add]
      · cases h
    · rename_i e he
      split at h
      · rename_i ei tk es hei
        split at h
        · rename_i y hy
          cases hb : Nat.beq y.cells.length ei.size with
          | false => rw [hb] at h; cases h
          | true =>
            rw [hb, cond_true] at h; injection h with h; subst h
            have hsz := Nat.eq_of_beq_eq_true hb
            cases (hx : RV μ _ a) with
            | sl _ _ p cap sz b o d hne hsl hcl hfro hrv hcap htok htk =>
              have hmem := List.mem_of_getElem? hy
              have hlt := (List.getElem?_eq_some_iff.1 hy).1
              have := hne (fun e => by rw [e] at hmem; cases hmem)
              subst this
              have hse : sz = ei.size := by rw [← hsl y hmem, hsz]
              subst hse
              refine ⟨.pointer (some ⟨b, o + n * ei.size + 0, none⟩), ?_, RV.vp y.cells 0 b (o + n * ei.size) (fun j => d (n * ei.size + j)) (hcl y hmem) (fun j c hc => hfro n y j c hy hc) (fun j c hc => hrv n y j c hy hc)⟩
              simp only [Instr.indexAt, Sem.run_bind, run_asIntOf, run_und hΓ ht, Result.andThen_ok, he, Sem.run_pure]
              rw [if_pos ⟨by omega, by omega⟩]
              simp [run_size hΓ hei, addr_add]
        · cases h
      · rename_i ei e' sz' id off len hei
        cases hb : Nat.blt n len with
        | false => rw [hb] at h; cases h
        | true =>
          rw [hb, cond_true] at h; injection h with h; subst h
          have hlt : n < len := Nat.le_of_ble_eq_true hb
          cases (hx : RV μ _ a) with
          | rs _ _ _ _ _ p cap hcap h0 =>
            obtain ⟨b, tot, hat, rfl, _⟩ := h0 (by omega)
            refine ⟨.pointer (some ⟨b, off + n * ei.size, none⟩), ?_, RV.hp id (off + n * ei.size) b tot hat⟩
            simp only [Instr.indexAt, Sem.run_bind, run_asIntOf, run_und hΓ ht, Result.andThen_ok, he, Sem.run_pure]
            rw [if_pos ⟨by omega, by omega⟩]
            simp [run_size hΓ hei, addr_add]
      · cases h
    · cases h
  · cases h

theorem index_sound {μ : Mu} {ℓ : Loc} {t : TypeId} {x i v : AV} {a c : Value} (hx : RL μ ℓ x a) (hi : RL μ ℓ i c) (h : index Γ t x i = some v) (w : World) :
    ∃ cv, (Instr.index t a c).run P w = .ok cv w ∧ RV μ v cv := by
  unfold index at h
  split at h
  · rename_i ti n ht hn
    obtain ⟨k, rfl⟩ := asNat_sound hi hn
    split at h
    · rename_i len e cs he
      split at h
      · rename_i ei hei
        cases hb : Nat.blt n len with
        | false => rw [hb] at h; cases h
        | true =>
          rw [hb, cond_true] at h
          have hlt : n < len := Nat.le_of_ble_eq_true hb
          have hx' : RV μ (.agg cs) a := hx
          obtain ⟨C, rfl⟩ : ∃ C, a = .agg C := by cases hx'; exact ⟨_, rfl⟩
          obtain ⟨cv, h1, h2⟩ := partCells_sound hΓ hx' hei h w
          refine ⟨cv, ?_, h2⟩
          simp only [Instr.index, Sem.run_bind, run_asIntOf, run_und hΓ ht, Result.andThen_ok, he]
          rw [if_pos ⟨by omega, by omega⟩]
          simp only [Sem.run_bind, run_size hΓ hei, Result.andThen_ok, Int.toNat_natCast, h1]
      · cases h
    · rename_i s he
      cases hs : s[n]? with
      | none => rw [hs] at h; cases h
      | some u =>
        rw [hs] at h; simp only [Option.map_some, Option.some.injEq] at h; subst h
        have := RV.str_inv hx; subst this
        refine ⟨_, ?_, .lit _⟩
        simp only [Instr.index, Sem.run_bind, run_asIntOf, run_und hΓ ht, Result.andThen_ok, he]
        rw [if_pos (by omega)]
        have hgs : ((⟨⟨s⟩⟩ : ByteArray)[((n : Int).toNat)]? : Option UInt8) = some u := by
          have hlt := (List.getElem?_eq_some_iff.1 hs).1
          rw [Int.toNat_natCast]
          have : n < (⟨⟨s⟩⟩ : ByteArray).size := hlt
          rw [getElem?_pos (⟨⟨s⟩⟩ : ByteArray) n this]
          exact congrArg some (List.getElem?_eq_some_iff.1 hs).2
        simp only [hgs, Sem.run_pure]
    · cases h
  · cases h

end
end
end Go.Vm

namespace Go.Vm
noncomputable section

theorem natOpt_sound {μ : Mu} {ℓ : Loc} {g : Fr} {ρ : Operand → Value} (hρ : ∀ x, RL μ ℓ (g.ev x) (ρ x)) {o : Option Operand} {n : Option Nat} (h : natOpt (o.map g.ev) = some n) :
    (o.map ρ = none ∧ n = none) ∨ ∃ k m, o.map ρ = some (.int k ((m : Nat) : Int)) ∧ n = some m := by
  cases o with
  | none => simp [natOpt] at h; exact .inl ⟨rfl, h.symm⟩
  | some x =>
    simp only [Option.map_some, natOpt] at h
    cases hn : asNat (g.ev x) with
    | none => rw [hn] at h; cases h
    | some m =>
      rw [hn] at h; simp only [Option.map_some, Option.some.injEq] at h; subst h
      obtain ⟨k, hk⟩ := asNat_sound (hρ x) hn
      exact .inr ⟨k, m, by simp [hk], rfl⟩

theorem run_sliceBound_ok {P : Program} {k : IntKind} {m y : Nat} (h : m ≤ y) (code : BoundsCode) (w : World) : (Instr.sliceBound (.int k (m : Int)) y code).run P w = .ok m w := by
  simp only [Instr.sliceBound, Sem.run_bind, run_asIntOf, Result.andThen_ok]
  rw [if_pos ⟨by omega, by omega⟩]
  simp

theorem run_sliceBounds_ok {P : Program} {isS : Bool} {len cap : Nat} {lo hi : Option Value} {l h : Option Nat} (hl : (lo = none ∧ l = none) ∨ ∃ k m, lo = some (.int k ((m : Nat) : Int)) ∧ l = some m)
    (hh : (hi = none ∧ h = none) ∨ ∃ k m, hi = some (.int k ((m : Nat) : Int)) ∧ h = some m) (h1 : h.getD len ≤ cap) (h2 : l.getD 0 ≤ h.getD len) (w : World) :
    (Instr.sliceBounds isS len cap lo hi none).run P w = .ok (l.getD 0, h.getD len, cap) w := by
  rcases hl with ⟨rfl, rfl⟩ | ⟨k, m, rfl, rfl⟩ <;> rcases hh with ⟨rfl, rfl⟩ | ⟨k', m', rfl, rfl⟩ <;> simp only [Option.getD_none, Option.getD_some] at h1 h2
  · simp [Instr.sliceBounds]
  · cases isS <;> simp [Instr.sliceBounds, run_sliceBound_ok h1]
  · cases isS <;> simp [Instr.sliceBounds, run_sliceBound_ok h2]
  · cases isS <;> simp [Instr.sliceBounds, run_sliceBound_ok h1, run_sliceBound_ok h2]

theorem extract_mk (s : List UInt8) (l h : Nat) : (⟨⟨s⟩⟩ : ByteArray).extract l h = ⟨⟨(s.take h).drop l⟩⟩ := by
  apply ByteArray.ext
  apply Array.ext'
  simp [ByteArray.data_extract, Array.toList_extract, List.take_drop]
  by_cases hc : l ≤ h
  · rw [show l + (h - l) = h by omega]
  · rw [show l + (h - l) = l by omega, List.drop_eq_nil_of_le (by simp; omega), List.drop_eq_nil_of_le (by simp; omega)]

section
variable {P : Program} {Γ : Ctx} (hΓ : Γ.Ok P)
include hΓ

theorem slice_sound {μ : Mu} {ℓ : Loc} {g : Fr} {s : St} {w : World} (H : WRel μ s w) {ρ : Operand → Value} (hρ : ∀ x, RL μ ℓ (g.ev x) (ρ x)) {t : TypeId} {x v : AV} {a : Value} (hx : RL μ ℓ x a) {lo hi : Option Operand}
    (h : slice Γ s t x (lo.map g.ev) (hi.map g.ev) = some v) :
    ∃ cv, (Instr.sliceAt t a (lo.map ρ) (hi.map ρ) none).run P w = .ok cv w ∧ RV μ v cv := by
  unfold slice at h
  split at h
  · rename_i ti l m ht hl hm
    have bl := natOpt_sound hρ hl
    have bm := natOpt_sound hρ hm
    split at h
    · rename_i u hu
      cases hb : Nat.ble (m.getD u.length) u.length && Nat.ble (l.getD 0) (m.getD u.length) with
      | false => rw [hb] at h; cases h
      | true =>
        rw [hb, cond_true] at h; injection h with h; subst h
        simp only [Bool.and_eq_true] at hb
        have h1 := Nat.le_of_ble_eq_true hb.1
        have h2 := Nat.le_of_ble_eq_true hb.2
        have := RV.str_inv hx; subst this
        have hbd := run_sliceBounds_ok (P := P) (isS := false) (len := u.length) (cap := u.length) bl bm h1 h2 w
        refine ⟨.string ((⟨⟨u⟩⟩ : ByteArray).extract (l.getD 0) (m.getD u.length)), ?_, ?_⟩
        · have hsz : (⟨⟨u⟩⟩ : ByteArray).size = u.length := rfl
          simp only [Instr.sliceAt, Instr.slice, Sem.run_bind, run_und hΓ ht, Result.andThen_ok, hu, hsz, Option.isSome_none, Bool.false_eq_true, if_false, hbd, Sem.run_pure]
        · rw [extract_mk]
          have e : (List.drop (l.getD 0) (List.take (m.getD u.length) u)) = (let s1 := m.elim u u.take; l.elim s1 s1.drop) := by
            cases l <;> cases m <;> simp
          rw [e]; exact .str _
    · rename_i e tk es hu
      split at h
      · rename_i ei hei
        cases hb : Nat.ble (m.getD es.length) es.length && Nat.ble (l.getD 0) (m.getD es.length) && (l.isNone || es.all fun v => Nat.beq v.cells.length ei.size) with
        | false => rw [hb] at h; cases h
        | true =>
          rw [hb, cond_true] at h; injection h with h; subst h
          simp only [Bool.and_eq_true, Bool.or_eq_true] at hb
          have h1 := Nat.le_of_ble_eq_true hb.1.1
          have h2 := Nat.le_of_ble_eq_true hb.1.2
          have h3 := hb.2
          cases (hx : RV μ _ a) with
          | sl _ _ p cap sz b o d hne hsl hcl hfro hrv hcap htok htk =>
            have hbd := run_sliceBounds_ok (P := P) (isS := true) (len := es.length) (cap := cap) bl bm (by omega) h2 w
            refine ⟨.slice (if cap = l.getD 0 then p else p.map (·.add (l.getD 0 * ei.size))) (m.getD es.length - l.getD 0) (cap - l.getD 0), ?_, ?_⟩
            · simp only [Instr.sliceAt, Instr.slice, Sem.run_bind, run_und hΓ ht, Result.andThen_ok, hu, hbd, run_size hΓ hei, Sem.run_pure]
            · have hes : (l.elim (m.elim es es.take) (m.elim es es.take).drop) = (es.take (m.getD es.length)).drop (l.getD 0) := by
                cases l <;> cases m <;> simp
              rw [hes]
              have hlen : ((es.take (m.getD es.length)).drop (l.getD 0)).length = m.getD es.length - l.getD 0 := by simp; omega
              rw [← hlen]
              have hget : ∀ (i : Nat) (y : AV), ((es.take (m.getD es.length)).drop (l.getD 0))[i]? = some y → es[i + l.getD 0]? = some y := by
                intro i y hy
                rw [List.getElem?_drop, List.getElem?_take] at hy
                split at hy
                · rw [Nat.add_comm]; exact hy
                · cases hy
              have hmem : ∀ y, y ∈ (es.take (m.getD es.length)).drop (l.getD 0) → y ∈ es := fun y hy => List.mem_of_mem_take (List.mem_of_mem_drop hy)
              have hshift : l.getD 0 = 0 ∨ ∀ y, y ∈ es → sz = ei.size := by
                rcases h3 with h3 | h3
                · left; cases l with
                  | none => rfl
                  | some _ => cases h3
                · right; intro y hy
                  rw [← hsl y hy]; exact Nat.eq_of_beq_eq_true (List.all_eq_true.1 h3 y hy)
              refine .sl _ _ _ _ sz b (o + l.getD 0 * sz) (fun k => d (l.getD 0 * sz + k)) (fun hn => ?_) (fun y hy => hsl y (hmem y hy)) (fun y hy => hcl y (hmem y hy)) (fun i y j c hy hc => ?_) (fun i y j c hy hc => ?_) (by rw [hlen]; omega) ?_ ?_
              · have hex : ∃ y, y ∈ (es.take (m.getD es.length)).drop (l.getD 0) := List.exists_mem_of_ne_nil _ hn
                obtain ⟨y, hy⟩ := hex
                have hpos : 0 < ((es.take (m.getD es.length)).drop (l.getD 0)).length := List.length_pos_of_mem hy
                have := hne (fun e => by have := hmem y hy; rw [e] at this; cases this)
                subst this
                rw [if_neg (by omega)]
                simp only [Option.map_some, addr_add]
                rcases hshift with h0 | h0
                · rw [h0]; simp
                · rw [h0 y (hmem y hy)]
              · have := hfro _ y j c (hget i y hy) hc
                rw [show (i + l.getD 0) * sz = l.getD 0 * sz + i * sz by rw [Nat.add_mul, Nat.add_comm]] at this
                rw [show o + l.getD 0 * sz + i * sz + j = o + (l.getD 0 * sz + i * sz) + j by omega, show l.getD 0 * sz + (i * sz + j) = l.getD 0 * sz + i * sz + j by omega]
                exact this
              · have := hrv _ y j c (hget i y hy) hc
                rw [show (i + l.getD 0) * sz = l.getD 0 * sz + i * sz by rw [Nat.add_mul, Nat.add_comm]] at this
                show RV μ c (d (l.getD 0 * sz + (i * sz + j)))
                rw [show l.getD 0 * sz + (i * sz + j) = l.getD 0 * sz + i * sz + j by omega]
                exact this
              · rw [hlen]
                have ht1 : ∀ tk', (m.elim tk fun q => cond (Nat.beq q es.length) tk .ro) = tk' → tk' = .ro ∨ (tk' = tk ∧ m.getD es.length = es.length) := by
                  intro tk' e
                  cases m with
                  | none => exact .inr ⟨e.symm, rfl⟩
                  | some q =>
                    simp only [Option.elim_some] at e
                    cases hq : Nat.beq q es.length with
                    | true => rw [hq, cond_true] at e; exact .inr ⟨e.symm, by simpa using Nat.eq_of_beq_eq_true hq⟩
                    | false => rw [hq, cond_false] at e; exact .inl e.symm
                generalize htk' : (m.elim tk fun q => cond (Nat.beq q es.length) tk .ro) = tk'
                rcases ht1 tk' htk' with rfl | ⟨rfl, hfull⟩
                · cases l <;> exact trivial
                · cases l with
                  | none =>
                    simp only [Option.elim_none, Option.getD_none, Nat.sub_zero]
                    rw [hfull]
                    have : (if cap = 0 then p else p.map (·.add (0 * ei.size))) = p := by
                      split
                      · rfl
                      · cases p <;> simp [Addr.add]
                    rw [this]; exact htok
                  | some q =>
                    simp only [Option.elim_some, Option.getD_some] at *
                    cases tk' with
                    | nil =>
                      obtain ⟨rfl, e1, e2⟩ := htok
                      refine ⟨by split <;> rfl, by omega, by omega⟩
                    | ro => trivial
                    | full =>
                      obtain ⟨e1, e2⟩ := htok
                      refine ⟨?_, by omega⟩
                      split
                      · exact e1
                      · cases p with
                        | none => cases e1
                        | some _ => rfl
                    | tk id => trivial
              · intro id h0 e hh
                cases l with
                | none =>
                  simp only [Option.elim_none] at e
                  cases m with
                  | none => exact htk id h0 e hh
                  | some q =>
                    simp only [Option.elim_some] at e
                    cases hq : Nat.beq q es.length with
                    | true => rw [hq, cond_true] at e; exact htk id h0 e hh
                    | false => rw [hq, cond_false] at e; cases e
                | some q =>
                  simp only [Option.elim_some] at e
                  generalize (m.elim tk fun q => cond (Nat.beq q es.length) tk .ro) = t' at e
                  cases t' <;> cases e
      · cases h
    · rename_i e e' sz' id off len hu
      split at h
      · rename_i ei hei
        cases hb : Nat.ble (m.getD len) len && Nat.ble (l.getD 0) (m.getD len) && Nat.beq ei.size sz' with
        | false => rw [hb] at h; cases h
        | true =>
          rw [hb, cond_true] at h; injection h with h; subst h
          simp only [Bool.and_eq_true] at hb
          have h1 := Nat.le_of_ble_eq_true hb.1.1
          have h2 := Nat.le_of_ble_eq_true hb.1.2
          have h3 := Nat.eq_of_beq_eq_true hb.2
          subst h3
          cases (hx : RV μ _ a) with
          | rs _ _ _ _ _ p cap hcap h0 =>
            have hbd := run_sliceBounds_ok (P := P) (isS := true) (len := len) (cap := cap) bl bm (by omega) h2 w
            refine ⟨.slice (if cap = l.getD 0 then p else p.map (·.add (l.getD 0 * ei.size))) (m.getD len - l.getD 0) (cap - l.getD 0), ?_, ?_⟩
            · simp only [Instr.sliceAt, Instr.slice, Sem.run_bind, run_und hΓ ht, Result.andThen_ok, hu, hbd, run_size hΓ hei, Sem.run_pure]
            · refine .rs _ _ _ _ _ _ _ (by omega) fun hp => ?_
              obtain ⟨b, tot, hat, rfl, htot⟩ := h0 (by omega)
              refine ⟨b, tot, hat, ?_, ?_⟩
              · rw [if_neg (by omega)]; simp [addr_add]
              · rw [Nat.sub_mul]
                have : l.getD 0 * ei.size ≤ cap * ei.size := Nat.mul_le_mul_right _ (by omega)
                omega
      · cases h
    · rename_i n e id off hu
      split at h
      · rename_i ei cs hei hcs
        cases hb : Nat.ble (m.getD n) n && Nat.ble (l.getD 0) (m.getD n) && Nat.ble (off + n * ei.size) cs.length with
        | false => rw [hb] at h; cases h
        | true =>
          rw [hb, cond_true] at h; injection h with h; subst h
          simp only [Bool.and_eq_true] at hb
          have h1 := Nat.le_of_ble_eq_true hb.1.1
          have h2 := Nat.le_of_ble_eq_true hb.1.2
          have h3 := Nat.le_of_ble_eq_true hb.2
          cases (hx : RV μ _ a) with
          | hp _ _ b tot hat =>
            have hbd := run_sliceBounds_ok (P := P) (isS := false) (len := n) (cap := n) bl bm h1 h2 w
            refine ⟨.slice (some (if n = l.getD 0 then ⟨b, off, none⟩ else (⟨b, off, none⟩ : Addr).add (l.getD 0 * ei.size))) (m.getD n - l.getD 0) (n - l.getD 0), ?_, ?_⟩
            · simp only [Instr.sliceAt, Instr.sureAddr, Sem.run_bind, run_und hΓ ht, Result.andThen_ok, hu, hbd, run_size hΓ hei, Sem.run_pure]
            · refine .rs _ _ _ _ _ _ _ (by omega) fun hp => ?_
              obtain ⟨b', tot', g1, g2, C, T, g3, g4, g5, g6⟩ := H.obj id cs (H.cellsAt hcs)
              rw [hat] at g1; injection g1 with g1; injection g1 with e1 e2; subst e1; subst e2
              refine ⟨b, tot, hat, ?_, ?_⟩
              · rw [if_neg (by omega), addr_add]
              · rw [Nat.sub_mul]
                have : l.getD 0 * ei.size ≤ n * ei.size := Nat.mul_le_mul_right _ (by omega)
                omega
      · cases h
    · cases h
  · cases h

end
end
end Go.Vm

namespace Go.Vm
noncomputable section

/-! ### Struct and array literals -/
theorem foldl_set : ∀ (D : List Value) (off j0 : Nat) (C : Array Value), ((D.zipIdx j0).foldl (fun cs p => cs.setIfInBounds (off + p.2) p.1) C).size = C.size ∧
    ∀ k, ((D.zipIdx j0).foldl (fun cs p => cs.setIfInBounds (off + p.2) p.1) C)[k]? = if off + j0 ≤ k ∧ k < off + j0 + D.length ∧ k < C.size then D[k - (off + j0)]? else C[k]?
  | [], off, j0, C => by
    refine ⟨rfl, fun k => ?_⟩
    rw [if_neg (by simp; omega)]; rfl
  | v :: D, off, j0, C => by
    obtain ⟨h1, h2⟩ := foldl_set D off (j0 + 1) (C.setIfInBounds (off + j0) v)
    simp only [List.zipIdx_cons, List.foldl_cons]
    refine ⟨by rw [h1]; simp, fun k => ?_⟩
    rw [h2]
    simp only [Array.size_setIfInBounds, List.length_cons, Array.getElem?_setIfInBounds]
    by_cases hk : k = off + j0
    · subst hk
      rw [if_neg (by omega), if_pos rfl]
      by_cases hlt : off + j0 < C.size
      · rw [if_pos hlt, if_pos (by omega)]; simp
      · rw [if_neg hlt, if_neg (by omega)]
        exact (Array.getElem?_eq_none (by omega)).symm
    · by_cases hr : off + (j0 + 1) ≤ k ∧ k < off + (j0 + 1) + D.length ∧ k < C.size
      · rw [if_pos hr, if_pos (by omega), show k - (off + j0) = (k - (off + (j0 + 1))) + 1 by omega, List.getElem?_cons_succ]
      · rw [if_neg hr, if_neg (by omega), if_neg (by omega)]

/-- One part laid into a literal's cells. -/
def laid1 (C : Array Value) (off : Nat) (v : Value) : Array Value := v.cells.zipIdx.foldl (fun cs (c, j) => cs.setIfInBounds (off + j) c) C

theorem laid1_spec (C : Array Value) (off : Nat) (v : Value) (h : off + v.cells.size ≤ C.size) : (laid1 C off v).size = C.size ∧ ∀ k, (laid1 C off v)[k]? = if off ≤ k ∧ k < off + v.cells.size then v.cells[k - off]? else C[k]? := by
  have e : laid1 C off v = (v.cells.toList.zipIdx 0).foldl (fun cs p => cs.setIfInBounds (off + p.2) p.1) C := by
    unfold laid1
    rw [← Array.foldl_toList, Array.toList_zipIdx]
  obtain ⟨h1, h2⟩ := foldl_set v.cells.toList off 0 C
  rw [e]
  refine ⟨h1, fun k => ?_⟩
  rw [h2]
  simp only [Nat.add_zero, Array.length_toList, Array.getElem?_toList]
  by_cases hc : off ≤ k ∧ k < off + v.cells.size
  · rw [if_pos ⟨hc.1, hc.2, by omega⟩, if_pos hc]
  · rw [if_neg (fun x => hc ⟨x.1, x.2.1⟩), if_neg hc]

theorem CellsRel.laid1 {μ : Mu} {cs : List AV} {C : Array Value} (hs : C.size = cs.length) (hc : CellsRel μ cs C) {x : AV} {c : Value} (hx : RV μ x c) (hp : x.isPart = true) {off : Nat} (hle : off + x.cells.length ≤ cs.length) :
    (Vm.laid1 C off c).size = (setAll cs off x.cells).length ∧ CellsRel μ (setAll cs off x.cells) (Vm.laid1 C off c) := by
  obtain ⟨h1, h2, h3⟩ := hx.cells hp
  obtain ⟨g1, g2⟩ := laid1_spec C off c (by omega)
  refine ⟨by rw [g1, setAll_length]; exact hs, fun j v hj => ?_⟩
  rw [setAll_get _ _ _ _ hle] at hj
  have g := g2 j
  by_cases hr : off ≤ j ∧ j < off + x.cells.length
  · rw [if_pos hr] at hj
    rw [if_pos (by omega)] at g
    refine ⟨h2 v (List.mem_of_getElem? hj), ?_⟩
    rw [Array.getD_eq_getD_getElem?, g, ← Array.getD_eq_getD_getElem?]
    exact h3 _ _ hj
  · rw [if_neg hr] at hj
    rw [if_neg (by omega)] at g
    rw [Array.getD_eq_getD_getElem?, g, ← Array.getD_eq_getD_getElem?]
    exact hc j v hj

/-- The parts of a literal, told and true. -/
def Parts (μ : Mu) : List (Nat × AV) → List (Nat × Value) → Prop
  | [], [] => True
  | p :: ps, q :: qs => p.1 = q.1 ∧ (p.2.isLp = false → RV μ p.2 q.2) ∧ Parts μ ps qs
  | _, _ => False

theorem isLp_of_isPart {v : AV} (h : v.isPart = true) : v.isLp = false := by cases v <;> first | rfl | (simp [AV.isPart, AV.isCell] at h)

theorem Parts.of {μ : Mu} {ℓ : Loc} {g : Fr} {ρ : Operand → Value} (hρ : ∀ x, RL μ ℓ (g.ev x) (ρ x)) (ps : List (Nat × Operand)) : Parts μ (ps.map fun p => (p.1, g.ev p.2)) (ps.map fun p => (p.1, ρ p.2)) := by
  induction ps with
  | nil => trivial
  | cons p ps ih => exact ⟨rfl, fun h => (hρ p.2).toRV h, ih⟩

theorem zero_CellsRel {μ : Mu} {z : Array Value} (hz : z.toList.all Value.oneCell' = true) : CellsRel μ (z.toList.map AV.ofCell) z := by
  intro j v hj
  rw [List.getElem?_map] at hj
  cases hc : z.toList[j]? with
  | none => rw [hc] at hj; cases hj
  | some y =>
    rw [hc] at hj; simp only [Option.map_some, Option.some.injEq] at hj; subst hj
    refine ⟨isCell_ofCell (List.all_eq_true.1 hz y (List.mem_of_getElem? hc)), ?_⟩
    rw [Array.getElem?_toList] at hc
    rw [getD_of hc]; exact .ofCell y

theorem RV.of_cells {μ : Mu} {cs : List AV} {C : Array Value} (hs : C.size = cs.length) (hc : CellsRel μ cs C) : RV μ (.agg cs) (.agg C) :=
  .agg cs C hs (fun v hv => by obtain ⟨j, hj⟩ := List.getElem?_of_mem hv; exact (hc j v hj).1) (fun i v hi => (hc i v hi).2)

theorem layParts_sound {μ : Mu} {pl pl' : Nat → Option (Nat × Nat)} (hpl : ∀ i q, pl i = some q → pl' i = some q) : ∀ (ps : List (Nat × AV)) (qs : List (Nat × Value)) (cs cs' : List AV) (C : Array Value), Parts μ ps qs → layParts pl ps cs = some cs' →
    C.size = cs.length → CellsRel μ cs C → ∃ C', Instr.fill pl' C qs = some C' ∧ C'.size = cs'.length ∧ CellsRel μ cs' C'
  | [], [], cs, cs', C, _, h, hs, hc => by simp only [layParts, Option.some.injEq] at h; subst h; exact ⟨C, rfl, hs, hc⟩
  | [], _ :: _, _, _, _, hp, _, _, _ => hp.elim
  | _ :: _, [], _, _, _, hp, _, _, _ => hp.elim
  | (i, v) :: ps, (i', c) :: qs, cs, cs', C, hp, h, hs, hc => by
    obtain ⟨e, hv, hp⟩ := hp
    simp only at e; subst e
    simp only [layParts] at h
    cases hq : pl i with
    | none => rw [hq] at h; cases h
    | some q =>
      rw [hq] at h
      simp only at h
      cases hb : v.isPart && Nat.beq v.cells.length q.2 && Nat.ble (q.1 + q.2) cs.length with
      | false => rw [hb] at h; cases h
      | true =>
        rw [hb, cond_true] at h
        simp only [Bool.and_eq_true] at hb
        have h1 : v.cells.length = q.2 := Nat.eq_of_beq_eq_true hb.1.2
        have h2 := Nat.le_of_ble_eq_true hb.2
        have hrv : RV μ v c := hv (isLp_of_isPart hb.1.1)
        obtain ⟨g1, g2⟩ := CellsRel.laid1 hs hc hrv hb.1.1 (off := q.1) (by omega)
        obtain ⟨C', g3, g4⟩ := layParts_sound hpl ps qs _ cs' _ hp h g1 g2
        refine ⟨C', ?_, g4⟩
        have hsz : c.cells.size = v.cells.length := (hrv.cells hb.1.1).1
        simp only [Instr.fill, hpl i q hq]
        have hd : (decide (c.cells.size ≠ q.2) || decide (q.1 + c.cells.size > C.size)) = false := by
          simp; omega
        rw [hd]
        exact g3

/-! ### Slice literals -/
theorem RV.stripC {μ : Mu} {v : AV} {c : Value} (h : RV μ v c) : RV μ v.stripC c := by
  cases v with
  | sl tk es =>
    cases h with
    | sl _ _ a cap sz b o d hne hsz hcl hfro hrv hcap htok htk => exact .sl .ro es a cap sz b o d hne hsz hcl hfro hrv hcap trivial (fun _ _ e => by cases e)
  | _ => exact h

theorem isCell_stripC {v : AV} (h : v.isCell = true) : v.stripC.isCell = true := by cases v <;> first | exact h | rfl

theorem RV.strip {μ : Mu} {v : AV} {c : Value} (h : RV μ v c) : RV μ v.strip c := by
  cases v with
  | sl tk es => exact RV.stripC h
  | agg cs =>
    cases h with
    | agg _ C h1 h2 h3 =>
      refine .agg _ C (by simp [h1]) (fun x hx => ?_) (fun i x hi => ?_)
      · obtain ⟨y, hy, rfl⟩ := List.mem_map.1 hx
        exact isCell_stripC (h2 y hy)
      · rw [List.getElem?_map] at hi
        cases hc : cs[i]? with
        | none => rw [hc] at hi; cases hi
        | some y => rw [hc] at hi; simp only [Option.map_some, Option.some.injEq] at hi; subst hi; exact (h3 i y hc).stripC
  | _ => exact h

theorem strip_cells (v : AV) : v.strip.cells = v.cells.map AV.stripC := by cases v <;> rfl
theorem isPart_strip {v : AV} (h : v.isPart = true) : v.strip.isPart = true := by cases v <;> first | exact h | rfl

/-- Elements side by side in a row of cells. -/
structure ElemsRel (μ : Mu) (sz : Nat) (es : List AV) (C : Array Value) : Prop where
  size : C.size = es.length * sz
  len : ∀ e, e ∈ es → e.cells.length = sz
  cell : ∀ e, e ∈ es → ∀ c, c ∈ e.cells → c.isCell = true
  rv : ∀ (i : Nat) (e : AV) (j : Nat) (c : AV), es[i]? = some e → e.cells[j]? = some c → RV μ c (C.getD (i * sz + j) undef)

theorem idx_eq {sz i j i' j' : Nat} (hj : j < sz) (hj' : j' < sz) (h : i * sz + j = i' * sz + j') : i = i' ∧ j = j' := by
  have h1 : (i * sz + j) / sz = i := by rw [Nat.mul_comm, Nat.mul_add_div (by omega), Nat.div_eq_of_lt hj, Nat.add_zero]
  have h2 : (i' * sz + j') / sz = i' := by rw [Nat.mul_comm, Nat.mul_add_div (by omega), Nat.div_eq_of_lt hj', Nat.add_zero]
  have : i = i' := by rw [← h1, ← h2, h]
  subst this
  exact ⟨rfl, by omega⟩

theorem ElemsRel.set {μ : Mu} {sz : Nat} {es : List AV} {C : Array Value} (h : ElemsRel μ sz es C) {n : Nat} (hn : n < es.length) {x : AV} {c : Value} (hx : RV μ x c) (hp : x.isPart = true) (hl : x.cells.length = sz) :
    ElemsRel μ sz (es.set n x) (laid1 C (n * sz) c) := by
  obtain ⟨h1, h2, h3⟩ := hx.cells hp
  have hfit : n * sz + c.cells.size ≤ C.size := by
    rw [h.size, h1, hl, ← Nat.succ_mul]
    exact Nat.mul_le_mul_right _ hn
  obtain ⟨g1, g2⟩ := laid1_spec C (n * sz) c hfit
  refine ⟨by rw [g1, h.size, List.length_set], fun e he => ?_, fun e he => ?_, fun i e j d hi hj => ?_⟩
  · rcases List.mem_or_eq_of_mem_set he with he | rfl
    · exact h.len e he
    · exact hl
  · rcases List.mem_or_eq_of_mem_set he with he | rfl
    · exact h.cell e he
    · exact h2
  · have hjl := (List.getElem?_eq_some_iff.1 hj).1
    rw [List.getElem?_set] at hi
    by_cases hin : n = i
    · subst hin
      rw [if_pos rfl, if_pos hn] at hi
      injection hi with hi; subst hi
      have g := g2 (n * sz + j)
      rw [if_pos (by omega), Nat.add_sub_cancel_left] at g
      rw [Array.getD_eq_getD_getElem?, g, ← Array.getD_eq_getD_getElem?]
      exact h3 _ _ hj
    · rw [if_neg hin] at hi
      have hel := h.len e (List.mem_of_getElem? hi)
      have g := g2 (i * sz + j)
      rw [if_neg] at g
      · rw [Array.getD_eq_getD_getElem?, g, ← Array.getD_eq_getD_getElem?]
        exact h.rv i e j d hi hj
      · intro hc
        have := idx_eq (i := i) (j := j) (i' := n) (j' := i * sz + j - n * sz) (sz := sz) (by omega) (by omega) (by omega)
        omega

theorem layElems_sound {μ : Mu} {ei : TI} : ∀ (ps : List (Nat × AV)) (qs : List (Nat × Value)) (es es' : List AV) (C : Array Value), Parts μ ps qs → layElems ei ps es = some es' → ElemsRel μ ei.size es C →
    ∃ C', Instr.fill (fun i => some (i * ei.size, ei.size)) C qs = some C' ∧ es'.length = es.length ∧ ElemsRel μ ei.size es' C'
  | [], [], es, es', C, _, h, hc => by simp only [layElems, Option.some.injEq] at h; subst h; exact ⟨C, rfl, rfl, hc⟩
  | [], _ :: _, _, _, _, hp, _, _ => hp.elim
  | _ :: _, [], _, _, _, hp, _, _ => hp.elim
  | (i, v) :: ps, (i', c) :: qs, es, es', C, hp, h, hc => by
    obtain ⟨e, hv, hp⟩ := hp
    simp only at e; subst e
    simp only [layElems] at h
    cases hb : fits ei v && Nat.blt i es.length with
    | false => rw [hb] at h; cases h
    | true =>
      rw [hb, cond_true] at h
      simp only [Bool.and_eq_true, fits] at hb
      have h1 : v.cells.length = ei.size := Nat.eq_of_beq_eq_true hb.1.1.2
      have h2 : i < es.length := Nat.le_of_ble_eq_true hb.2
      have hrv : RV μ v c := hv (isLp_of_isPart hb.1.1.1)
      have hst : v.strip.cells.length = ei.size := by rw [strip_cells, List.length_map]; exact h1
      have hset := hc.set h2 hrv.strip (isPart_strip hb.1.1.1) hst
      obtain ⟨C', g3, g4, g5⟩ := layElems_sound ps qs _ es' _ hp h hset
      refine ⟨C', ?_, by rw [g4, List.length_set], g5⟩
      have hsz : c.cells.size = v.cells.length := (hrv.cells hb.1.1.1).1
      simp only [Instr.fill]
      have hfit : i * ei.size + c.cells.size ≤ C.size := by
        rw [hc.size, hsz, h1, ← Nat.succ_mul]
        exact Nat.mul_le_mul_right _ h2
      have hd : (decide (c.cells.size ≠ ei.size) || decide (i * ei.size + c.cells.size > C.size)) = false := by
        simp; omega
      rw [hd]
      exact g3

theorem zeros_ElemsRel {μ : Mu} {sz n : Nat} {z : Value} (hsz : 0 < sz) (hp : (AV.ofValue z).isPart = true) (hl : (AV.ofValue z).cells.length = sz) :
    ElemsRel μ sz (List.replicate n (AV.ofValue z).strip) ((Array.range (n * sz)).map (z.cells[· % z.cells.size]!)) := by
  obtain ⟨h1, h2, h3⟩ := (RV.ofValue (μ := μ) z).strip.cells (isPart_strip hp)
  have hs : z.cells.size = sz := by rw [h1, strip_cells, List.length_map, hl]
  refine ⟨by simp, fun e he => ?_, fun e he => ?_, fun i e j c hi hj => ?_⟩
  · obtain ⟨_, rfl⟩ := List.mem_replicate.1 he; rw [strip_cells, List.length_map, hl]
  · obtain ⟨_, rfl⟩ := List.mem_replicate.1 he; exact h2
  · rw [List.getElem?_replicate] at hi
    split at hi
    · rename_i hin
      injection hi with hi; subst hi
      have hjl := (List.getElem?_eq_some_iff.1 hj).1
      rw [strip_cells, List.length_map, hl] at hjl
      have hlt : i * sz + j < n * sz := by
        have : i * sz + sz ≤ n * sz := by rw [← Nat.succ_mul]; exact Nat.mul_le_mul_right _ hin
        omega
      have := h3 j c hj
      rw [Array.getD_eq_getD_getElem?, Array.getElem?_map, Array.getElem?_range, if_pos hlt]
      simp only [Option.map_some, Option.getD_some]
      rw [hs, Nat.add_comm, Nat.add_mul_mod_self_right, Nat.mod_eq_of_lt hjl]
      rw [Array.getD_eq_getD_getElem?, Array.getElem?_eq_getElem (by omega)] at this
      rw [getElem!_pos z.cells j (by omega)]
      exact this
    · cases hi

theorem Array_mapM_list {α β : Type} (f : α → Sem β) (xs : Array α) : xs.mapM f = List.toArray <$> xs.toList.mapM f := by
  rw [Array.mapM_eq_mapM_toList]

section
variable {P : Program} {Γ : Ctx} (hΓ : Γ.Ok P)
include hΓ

theorem run_places (w : World) : ∀ (fs : List Field), (fs.all fun f => (Γ.ty f.type).isSome) = true →
    ∃ ps : List (Nat × Nat), (fs.mapM (fun f => (do pure (f.offset, ← sizeOf f.type) : Sem (Nat × Nat)))).run P w = .ok ps w ∧ ∀ (i : Nat) (f : Field) (fi : TI), fs[i]? = some f → Γ.ty f.type = some fi → ps[i]? = some (f.offset, fi.size)
  | [], _ => ⟨[], rfl, fun i f fi h => by simp at h⟩
  | f :: fs, h => by
    simp only [List.all_cons, Bool.and_eq_true] at h
    obtain ⟨ps, h1, h2⟩ := run_places w fs h.2
    obtain ⟨fi, hfi⟩ := Option.isSome_iff_exists.1 h.1
    refine ⟨(f.offset, fi.size) :: ps, ?_, fun i g gi hg hgi => ?_⟩
    · simp only [List.mapM_cons, Sem.run_bind, run_size hΓ hfi, Result.andThen_ok, Sem.run_pure, h1]
    · cases i with
      | zero => simp only [List.getElem?_cons_zero, Option.some.injEq] at hg ⊢; subst hg; rw [hfi] at hgi; injection hgi with hgi; subst hgi; rfl
      | succ i => simp only [List.getElem?_cons_succ] at hg ⊢; exact h2 i g gi hg hgi

theorem build_sound {μ : Mu} {t : TypeId} {ps : List (Nat × AV)} {qs : Array (Nat × Value)} (hp : Parts μ ps qs.toList) {v : AV} (h : build Γ t ps = some v) (w : World) :
    ∃ cv, (Instr.build t qs).run P w = .ok cv w ∧ RV μ v cv := by
  unfold build at h
  split at h
  · cases h
  · rename_i ti ht
    split at h
    · rename_i z hz
      cases hzc : z.toList.all Value.oneCell' with
      | false => rw [hzc] at h; cases h
      | true =>
        rw [hzc, cond_true] at h
        have hz0 : CellsRel μ (z.toList.map AV.ofCell) z := zero_CellsRel hzc
        have hzs : z.size = (z.toList.map AV.ofCell).length := by simp
        split at h
        · rename_i fs hfs
          cases hall : fs.toList.all fun f => (Γ.ty f.type).isSome with
          | false => rw [hall] at h; cases h
          | true =>
            rw [hall, cond_true] at h
            obtain ⟨pl, hpl, hpl2⟩ := run_places hΓ w fs.toList hall
            cases hl : layParts (fieldPlaces Γ fs) ps (z.toList.map AV.ofCell) with
            | none => rw [hl] at h; cases h
            | some cs =>
              rw [hl] at h; simp only [Option.map_some, Option.some.injEq] at h; subst h
              have hfp : ∀ i q, fieldPlaces Γ fs i = some q → (pl.toArray[i]? : Option (Nat × Nat)) = some q := by
                intro i q hq
                unfold fieldPlaces at hq
                split at hq
                · rename_i f hf
                  split at hq
                  · rename_i fi hfi
                    injection hq with hq; subst hq
                    simp only [List.getElem?_toArray]
                    exact hpl2 i f fi (by rw [Array.getElem?_toList]; exact hf) hfi
                  · cases hq
                · cases hq
              obtain ⟨C, g1, g2, g3⟩ := layParts_sound hfp ps qs.toList _ cs z hp hl hzs hz0
              refine ⟨.agg C, ?_, RV.of_cells g2 g3⟩
              simp only [Instr.build, Sem.run_bind, run_zero hΓ ht hz, run_und hΓ ht, Result.andThen_ok, hfs, Array_mapM_list, Sem.run_map, hpl, Value.cells, g1, Sem.run_pure]
        · rename_i n e he
          split at h
          · rename_i ei hei
            cases hl : layParts (fun i => some (i * ei.size, ei.size)) ps (z.toList.map AV.ofCell) with
            | none => rw [hl] at h; cases h
            | some cs =>
              rw [hl] at h; simp only [Option.map_some, Option.some.injEq] at h; subst h
              obtain ⟨C, g1, g2, g3⟩ := layParts_sound (pl := fun i => some (i * ei.size, ei.size)) (pl' := fun i => some (i * ei.size, ei.size)) (fun _ _ h => h) ps qs.toList _ cs z hp hl hzs hz0
              refine ⟨.agg C, ?_, RV.of_cells g2 g3⟩
              simp only [Instr.build, Sem.run_bind, run_zero hΓ ht hz, run_und hΓ ht, Result.andThen_ok, he, run_size hΓ hei, Value.cells, g1, Sem.run_pure]
          · cases h
        · cases h
    · cases h

theorem buildElems_sound {μ : Mu} {t e : TypeId} {ti : TI} (ht : Γ.ty t = some ti) (he : ti.und = .slice e) {len : Nat} {ps : List (Nat × AV)} {qs : Array (Nat × Value)} (hp : Parts μ ps qs.toList) {es : List AV} (h : buildElems Γ e len ps = some es) (w : World) :
    ∃ C sz, (Instr.buildSlice t len qs).run P w = .ok (.slice (some ⟨w.heap.size, 0, none⟩) len len) { w with heap := w.heap.push (.cells C e) } ∧ es.length = len ∧ ElemsRel μ sz es C ∧ (∃ ei, Γ.ty e = some ei ∧ sz = ei.size) := by
  unfold buildElems at h
  split at h
  · cases h
  · rename_i ei hei
    cases hb : Nat.ble (len * ei.size) 16777216 && Nat.blt 0 ei.size with
    | false => rw [hb] at h; cases h
    | true =>
      rw [hb, cond_true] at h
      simp only [Bool.and_eq_true] at hb
      have h1 := Nat.le_of_ble_eq_true hb.1
      have h2 : 0 < ei.size := Nat.le_of_ble_eq_true hb.2
      split at h
      · rename_i z hz
        cases hf : fits ei (.ofValue z) with
        | false => rw [hf] at h; cases h
        | true =>
          rw [hf, cond_true] at h
          simp only [fits, Bool.and_eq_true] at hf
          have hz0 := zeros_ElemsRel (μ := μ) (n := len) h2 hf.1.1 (Nat.eq_of_beq_eq_true hf.1.2)
          obtain ⟨C, g1, g2, g3⟩ := layElems_sound ps qs.toList _ es _ hp h hz0
          refine ⟨C, ei.size, ?_, by rw [g2]; simp, g3, ei, hei, rfl⟩
          simp only [Instr.buildSlice, Sem.run_bind, run_und hΓ ht, Result.andThen_ok, he, run_size hΓ hei]
          rw [if_neg (by omega)]
          by_cases h0 : len * ei.size = 0
          · have hl0 : len = 0 := by
              rcases Nat.mul_eq_zero.1 h0 with h | h
              · exact h
              · omega
            subst hl0
            simp only [Nat.zero_mul, if_true, Sem.run_pure, Result.andThen_ok, Sem.run_bind]
            have e0 : (Array.map (fun x => (#[] : Array Value)[x % (#[] : Array Value).size]!) (Array.range 0)) = Array.map (fun x => z.cells[x % z.cells.size]!) (Array.range (0 * ei.size)) := by simp
            rw [e0, g1]
            simp only [newRow, Sem.run_bind, run_newObj, Result.andThen_ok, Sem.run_pure]
          · rw [if_neg h0]
            simp only [Sem.run_bind, run_zero hΓ hei hz, Sem.run_pure, Result.andThen_ok, g1, newRow, run_newObj]
      · cases h
end
end
end Go.Vm
