/-
  A small symbolic executor over the model's elaborated code: abstract values, abstract heap, decision trees, and the executor itself. Generic over the program. No theorem here leans on a translation.
-/
import Derived.WalkKit
import Derived.Orders
namespace Go.Sx

/-- Abstract values: plain scalars, pointers to the call's own boxes by key, closures, structs, tuples, any other closed value. -/
inductive AV where
  | bool (b : Bool)
  | int (k : IntKind) (n : Int)
  | ptr (key off : Nat)
  | val (v : Value)
  | fn (f : Fn) (first caps : List AV)
  | agg (cs : List AV)
  | tup (vs : List AV)

abbrev Env := Nat → Nat

mutual
def AV.den (E : Env) : AV → Value
  | .bool b => .bool b
  | .int k n => .int k n
  | .ptr key off => .pointer (some ⟨E key, off, none⟩)
  | .val v => v
  | .fn f first caps => .func f (AV.denL E first).toArray (AV.denL E caps).toArray
  | .agg cs => .agg (AV.denL E cs).toArray
  | .tup vs => .tuple (AV.denL E vs).toArray
def AV.denL (E : Env) : List AV → List Value
  | [] => []
  | a :: r => AV.den E a :: AV.denL E r
end

mutual
/-- All keys in it are such. -/
def AV.all (p : Nat → Prop) : AV → Prop
  | .ptr key _ => p key
  | .fn _ first caps => AV.allL p first ∧ AV.allL p caps
  | .agg cs => AV.allL p cs
  | .tup vs => AV.allL p vs
  | _ => True
def AV.allL (p : Nat → Prop) : List AV → Prop
  | [] => True
  | a :: r => AV.all p a ∧ AV.allL p r
end
/-- All keys in it are below n. -/
abbrev AV.lt (n : Nat) (v : AV) : Prop := AV.all (fun k => k < n) v
abbrev AV.ltL (n : Nat) (l : List AV) : Prop := AV.allL (fun k => k < n) l

mutual
/-- It holds no key at all. -/
def AV.flat : AV → Bool
  | .ptr _ _ => false
  | .fn _ first caps => AV.flatL first && AV.flatL caps
  | .agg cs => AV.flatL cs
  | .tup vs => AV.flatL vs
  | _ => true
def AV.flatL : List AV → Bool
  | [] => true
  | a :: r => AV.flat a && AV.flatL r
end

def AV.cells : AV → List AV
  | .agg cs => cs
  | v => [v]

/-- The value of one cell (no struct, no tuple). -/
def AV.scalar : AV → Bool
  | .agg _ | .tup _ => false
  | .val (.agg _) | .val (.tuple _) => false
  | _ => true

/-- What an AV stands for has the cells that its cells stand for (all but a closed struct). -/
def AV.plainCells : AV → Bool
  | .val (.agg _) => false
  | _ => true

/-- A constant is known: it stays a closed value. -/
def ofScalar (v : Value) : AV := .val v
def ofValue : Value → AV
  | .agg cs => .agg (cs.toList.map ofScalar)
  | v => ofScalar v

mutual
/-- Known integers and bools as any others. -/
def AV.weak : AV → AV
  | .val (.bool b) => .bool b
  | .val (.int k n) => .int k n
  | .agg cs => .agg (AV.weakL cs)
  | .tup vs => .tup (AV.weakL vs)
  | v => v
def AV.weakL : List AV → List AV
  | [] => []
  | a :: r => AV.weak a :: AV.weakL r
end
/-- An integer or a bool that is known. -/
def AV.strong : AV → AV
  | .bool b => .val (.bool b)
  | .int k n => .val (.int k n)
  | v => v
def knownA : Option AV → Bool
  | some (.val (.bool _)) | some (.val (.int _ _)) => true
  | _ => false

structure Obj where
  key : Nat
  cells : List AV

structure Heap where
  objs : List Obj
  next : Nat

def findObj (key : Nat) : List Obj → Option Obj
  | [] => none
  | o :: r => if Nat.beq o.key key then some o else findObj key r

/-- cells with new ones laid over them from place off on -/
def setFrom (cs : List AV) (off : Nat) (vs : List AV) : List AV := cs.take off ++ vs ++ cs.drop (off + vs.length)

def putObj (key off : Nat) (vs : List AV) (l : List Obj) : List Obj :=
  l.map fun o => if Nat.beq o.key key then { o with cells := setFrom o.cells off vs } else o

/-- What an operation does. -/
inductive R where
  | val (v : AV)
  | chk (p : Prop) (v : AV)
  | new (cells : List AV)
  | st (key off : Nat) (cs : List AV)
  | bad

inductive Tree (α : Type) where
  | ret (a : α)
  | br (b : Bool) (t e : Tree α)
  | need (p : Prop) (t : Tree α)
  | bad

namespace Tree
def bind {α β : Type} : Tree α → (α → Tree β) → Tree β
  | .ret a, f => f a
  | .br b t e, f => .br b (t.bind f) (e.bind f)
  | .need p t, f => .need p (t.bind f)
  | .bad, _ => .bad
def holds {α : Type} : Tree α → (α → Prop) → Prop
  | .ret a, Q => Q a
  | .br b t e, Q => (b = true → t.holds Q) ∧ (b = false → e.holds Q)
  | .need p t, Q => p ∧ t.holds Q
  | .bad, _ => False
end Tree

section ops
variable (P : Program)

def sizeA (t : TypeId) : Option Nat := (P.info? t).map (·.size)
def isAggA (t : TypeId) : Option Bool := (P.underlying t).map fun | .struct _ | .array _ _ => true | _ => false
def zeroA (t : TypeId) : Option AV := match P.info? t with
  | some i => i.zero.map ofValue
  | none => none

/-- The part of type t from place off on. -/
def partA (t : TypeId) (cs : List AV) (off : Nat) : Option AV :=
  match isAggA P t, sizeA P t with
  | some true, some n => if off + n ≤ cs.length then some (.agg ((cs.drop off).take n)) else none
  | some false, some _ => cs[off]?
  | _, _ => none

def fieldOf (s : TypeId) (f : Nat) : Option Field :=
  match P.underlying s with
  | some (.struct fields) => fields[f]?
  | _ => none

/-- Where the parts of a struct or an array lie, and how many cells each has. -/
def placesA (t : TypeId) : Option (Nat → Option (Nat × Nat)) :=
  match P.underlying t with
  | some (.array _ e) => (P.info? e).map fun ie i => some (i * ie.size, ie.size)
  | some (.struct fields) => (fields.toList.mapM (fun f => (P.info? f.type).map fun i => (f.offset, i.size))).map fun places i => places.toArray[i]?
  | _ => none
/-- Parts laid into the zero cells. -/
def fillA (place : Nat → Option (Nat × Nat)) : List (Nat × AV) → List AV → Option (List AV)
  | [], cs => some cs
  | (i, v) :: rest, cs =>
    match place i with
    | none => none
    | some (off, n) => if v.cells.length = n ∧ off + v.cells.length ≤ cs.length ∧ v.plainCells = true then fillA place rest (setFrom cs off v.cells) else none

def readParts (ρ : Operand → Option AV) : List (Nat × Operand) → Option (List (Nat × AV))
  | [] => some []
  | (i, x) :: r => match ρ x, readParts ρ r with
    | some v, some vs => some ((i, v) :: vs)
    | _, _ => none

def readL (ρ : Operand → Option AV) : List Operand → Option (List AV)
  | [] => some []
  | x :: r => match ρ x, readL ρ r with
    | some v, some vs => some (v :: vs)
    | _, _ => none

/-- Equality of two values of type t: scalars, structs and arrays of these. -/
def eqFields (eq : TypeId → AV → AV → Option Bool) (xs ys : List AV) : List Field → Option Bool
  | [] => some true
  | f :: r =>
    if f.name = "_" then none else
    match partA P f.type xs f.offset, partA P f.type ys f.offset with
    | some a, some b => match eq f.type a b, eqFields eq xs ys r with
      | some u, some v => some (u && v)
      | _, _ => none
    | _, _ => none
def eqItems (eq : TypeId → AV → AV → Option Bool) (e : TypeId) (c : Nat) (xs ys : List AV) : List Nat → Option Bool
  | [] => some true
  | i :: r =>
    match partA P e xs (i * c), partA P e ys (i * c) with
    | some a, some b => match eq e a b, eqItems eq e c xs ys r with
      | some u, some v => some (u && v)
      | _, _ => none
    | _, _ => none
def eqA : Nat → TypeId → AV → AV → Option Bool
  | 0, _, _, _ => none
  | d + 1, t, x, y =>
    match P.underlying t, x, y with
    | some .bool, .bool a, .bool b => some (a == b)
    | some (.int _), .int k a, .int k' b => if k = k' then some (a == b) else none
    | some (.struct fs), .agg xs, .agg ys => if P.stoodInHeld t = false then eqFields P (eqA d) xs ys fs.toList else none
    | some (.array n e), .agg xs, .agg ys => match P.info? e with
      | some i => eqItems P (eqA d) e i.size xs ys (List.range n)
      | none => none
    | _, _, _ => none

def intOp (op : BinOp) (k : IntKind) (a b : Int) : R :=
  match op with
  | .add => .val (.int k (k.wrap (a + b)))
  | .sub => .val (.int k (k.wrap (a - b)))
  | .mul => .val (.int k (k.wrap (a * b)))
  | .quo => .chk (b ≠ 0) (.int k (k.wrap (a.tdiv b)))
  | .rem => .chk (b ≠ 0) (.int k (a.tmod b))
  | .eql => .val (.bool (a == b))
  | .neq => .val (.bool (a != b))
  | .lss => .val (.bool (a < b))
  | .leq => .val (.bool (a ≤ b))
  | .gtr => .val (.bool (a > b))
  | .geq => .val (.bool (a ≥ b))
  | _ => .bad

/-- min, max of integers -/
def imin (x y : Int) : Int := if y < x then y else x
def imax (x y : Int) : Int := if y > x then y else x
def mm (op : Int → Int → Int) (k : IntKind) : Int → List AV → Option AV
  | a, [] => some (.int k a)
  | a, .int k' b :: r => if k = k' then mm op k (op a b) r else none
  | _, _ => none

def absOp0 (ρ : Operand → Option AV) (H : Heap) : Op → R
  | .move x | .assign x => match ρ x with | some v => .val v | none => .bad
  | .alloc t => match zeroA P t with | some z => .new z.cells | none => .bad
  | .box _ x => match ρ x with | some v => if v.plainCells = true then .new v.cells else .bad | none => .bad
  | .build t parts =>
    match zeroA P t, placesA P t, readParts ρ parts.toList with
    | some z, some place, some ps => match fillA place ps z.cells with | some cs => .val (.agg cs) | none => .bad
    | _, _, _ => .bad
  | .load t x => match ρ x with
    | some (.ptr key off) => match findObj key H.objs with
      | some o => match partA P t o.cells off with | some v => .val v | none => .bad
      | none => .bad
    | _ => .bad
  | .store t x y => match ρ x, ρ y with
    | some (.ptr key off), some v => match findObj key H.objs, sizeA P t with
      | some o, some n => if v.cells.length = n ∧ off + v.cells.length ≤ o.cells.length ∧ v.cells.all AV.scalar = true then .st key off v.cells else .bad
      | _, _ => .bad
    | _, _ => .bad
  | .nilCheck x => match ρ x with
    | some (.ptr key off) => .val (.ptr key off)
    | some (.fn (.func f) a b) => .val (.fn (.func f) a b)
    | _ => .bad
  | .binOp op t x y _ => match ρ x, ρ y with
    | some (.int k a), some (.int k' b) => if k = k' then intOp op k a b else .bad
    | some (.bool a), some (.bool b) => (match op with
      | .eql => match eqA P 9 t (.bool a) (.bool b) with | some e => .val (.bool e) | none => .bad
      | .neq => match eqA P 9 t (.bool a) (.bool b) with | some e => .val (.bool !e) | none => .bad
      | _ => .bad)
    | some (.agg a), some (.agg b) => if P.eqGuardType P.depth t = false then (match op with
      | .eql => match eqA P 9 t (.agg a) (.agg b) with | some e => .val (.bool e) | none => .bad
      | .neq => match eqA P 9 t (.agg a) (.agg b) with | some e => .val (.bool !e) | none => .bad
      | _ => .bad) else .bad
    | _, _ => .bad
  | .unOp .not _ x => match ρ x with | some (.bool b) => .val (.bool !b) | _ => .bad
  | .unOp .neg _ x => match ρ x with | some (.int k n) => .val (.int k (k.wrap (0 - n))) | _ => .bad
  | .makeFunc f first caps => match readL ρ first.toList, readL ρ caps.toList with
    | some a, some b => .val (.fn f a b)
    | _, _ => .bad
  | .fieldAddr s x f => match ρ x, fieldOf P s f with
    | some (.ptr key off), some fd => match sizeA P fd.type with
      | some (_ + 1) => .val (.ptr key (off + fd.offset))
      | _ => .bad
    | _, _ => .bad
  | .field s x f => match ρ x, fieldOf P s f with
    | some (.agg cs), some fd => match partA P fd.type cs fd.offset with | some v => .val v | none => .bad
    | _, _ => .bad
  | .index t x i => match ρ x, ρ i, P.underlying t with
    | some (.agg cs), some (.val (.int _ n)), some (.array len e) => match sizeA P e with
      | some sz => if 0 ≤ n ∧ n < (len : Int) then match partA P e cs (n.toNat * sz) with | some v => .val v | none => .bad else .bad
      | none => .bad
    | _, _, _ => .bad
  | .indexAddr t x i => match ρ x, ρ i, P.underlying t with
    | some (.ptr key off), some (.val (.int _ n)), some (.array len e) => match sizeA P e with
      | some sz => if 0 ≤ n ∧ n < (len : Int) then .val (.ptr key (off + n.toNat * sz)) else .bad
      | none => .bad
    | _, _, _ => .bad
  | .extract x i => match ρ x with
    | some (.tup vs) => match vs[i]? with | some v => .val v | none => .bad
    | _ => .bad
  | .call { callee := .builtin b, args, .. } => match readL ρ args.toList with
    | some vs => match b with
      | .min => match vs with
        | .int k a :: r => match mm imin k a r with | some v => .val v | none => .bad
        | _ => .bad
      | .max => match vs with
        | .int k a :: r => match mm imax k a r with | some v => .val v | none => .bad
        | _ => .bad
      | _ => .bad
    | none => .bad
  | _ => .bad
def R.strong : R → R
  | .val v => .val v.strong
  | .chk p v => .chk p v.strong
  | r => r
def R.weak : R → R
  | .val v => .val v.weak
  | .chk p v => .chk p v.weak
  | r => r
/-- An operation: known operands lead to a known value. -/
def absOp (ρ : Operand → Option AV) (H : Heap) (op : Op) : R :=
  match op with
  | .binOp _ _ x y _ => if knownA (ρ x) && knownA (ρ y) then (absOp0 P (fun z => (ρ z).map AV.weak) H op).strong else absOp0 P (fun z => (ρ z).map AV.weak) H op
  | .unOp _ _ x => if knownA (ρ x) then (absOp0 P (fun z => (ρ z).map AV.weak) H op).strong else absOp0 P (fun z => (ρ z).map AV.weak) H op
  | .call _ => absOp0 P (fun z => (ρ z).map AV.weak) H op
  | _ => absOp0 P ρ H op
end ops

end Go.Sx
