/-
  A symbolic executor over the model's elaborated code, with rows, loops and iterators: abstract values, abstract heap, decision trees, operations. Generic over the program. No theorem here leans on a translation.
-/
import Derived.WalkKit
import Derived.Laws.Slices
import Derived.Orders
namespace Go.Sy

/-- Abstract values: plain scalars, pointers to boxes by key, closures, structs, tuples, slices (a whole row), places in a row, a loop's yield, maps, any other closed value. -/
inductive AV where
  | bool (b : Bool)
  | int (k : IntKind) (n : Int)
  | ptr (key off : Nat)
  | val (v : Value)
  | fn (f : Fn) (first caps : List AV)
  | agg (cs : List AV)
  | tup (vs : List AV)
  | sl (key : Nat)
  /-- a place in element i of a row whose elements have sz cells; kn: i is known -/
  | ix (key sz : Nat) (kn : Bool) (i : Int) (off : Nat)
  | yl (key : Nat)
  /-- a part of a row whose elements have sz cells: from lo (none: its start) to below hi -/
  | vw (key sz : Nat) (lo : Option Int) (hi : Int)

/-- What stands for a key: a pointer for a box, a slice for a row. -/
abbrev Env := Nat → Value

/-- The block of a pointer or a slice. -/
def blk : Value → Nat
  | .pointer (some a) => a.block
  | .slice (some a) _ _ => a.block
  | _ => 0
def headOf : Value → Option Addr
  | .slice a _ _ => a
  | _ => none

def loN : Option Int → Nat
  | none => 0
  | some x => x.toNat
/-- A part of a slice. -/
def partOf (v : Value) (sz lo hi : Nat) : Value :=
  match v with
  | .slice a _ c => sliced a lo hi c sz
  | v => v

mutual
def AV.den (E : Env) : AV → Value
  | .bool b => .bool b
  | .int k n => .int k n
  | .ptr key off => .pointer (some ⟨blk (E key), off, none⟩)
  | .val v => v
  | .fn f first caps => .func f (AV.denL E first).toArray (AV.denL E caps).toArray
  | .agg cs => .agg (AV.denL E cs).toArray
  | .tup vs => .tuple (AV.denL E vs).toArray
  | .sl key => E key
  | .ix key sz _ i off => .pointer ((headOf (E key)).map fun a => a.add (i.toNat * sz + off))
  | .yl key => .func (.yield (blk (E key))) #[] #[]
  | .vw key sz lo hi => partOf (E key) sz (loN lo) hi.toNat
def AV.denL (E : Env) : List AV → List Value
  | [] => []
  | a :: r => AV.den E a :: AV.denL E r
end

mutual
/-- All keys in it are such. -/
def AV.all (p : Nat → Prop) : AV → Prop
  | .ptr key _ => p key
  | .fn _ first caps => AV.allL p first ∧ AV.allL p caps
  | .agg cs => AV.allL p cs
  | .tup vs => AV.allL p vs
  | .sl key => p key
  | .ix key _ _ _ _ => p key
  | .yl key => p key
  | .vw key _ _ _ => p key
  | _ => True
def AV.allL (p : Nat → Prop) : List AV → Prop
  | [] => True
  | a :: r => AV.all p a ∧ AV.allL p r
end
/-- All keys in it are below n. -/
abbrev AV.lt (n : Nat) (v : AV) : Prop := AV.all (fun k => k < n) v
abbrev AV.ltL (n : Nat) (l : List AV) : Prop := AV.allL (fun k => k < n) l

mutual
/-- Its keys, in order. -/
def AV.keys : AV → List Nat
  | .ptr key _ => [key]
  | .fn _ first caps => AV.keysL first ++ AV.keysL caps
  | .agg cs => AV.keysL cs
  | .tup vs => AV.keysL vs
  | .sl key => [key]
  | .ix key _ _ _ _ => [key]
  | .yl key => [key]
  | .vw key _ _ _ => [key]
  | _ => []
def AV.keysL : List AV → List Nat
  | [] => []
  | a :: r => AV.keys a ++ AV.keysL r
end
mutual
/-- Its keys under other names. -/
def AV.ren (f : Nat → Nat) : AV → AV
  | .ptr key off => .ptr (f key) off
  | .fn g first caps => .fn g (AV.renL f first) (AV.renL f caps)
  | .agg cs => .agg (AV.renL f cs)
  | .tup vs => .tup (AV.renL f vs)
  | .sl key => .sl (f key)
  | .ix key sz kn i off => .ix (f key) sz kn i off
  | .yl key => .yl (f key)
  | .vw key sz lo hi => .vw (f key) sz lo hi
  | v => v
def AV.renL (f : Nat → Nat) : List AV → List AV
  | [] => []
  | a :: r => AV.ren f a :: AV.renL f r
end

def AV.cells : AV → List AV
  | .agg cs => cs
  | v => [v]

/-- The value of one cell (no struct, no tuple). -/
def AV.scalar : AV → Bool
  | .agg _ | .tup _ => false
  | .val (.agg _) | .val (.tuple _) => false
  | _ => true

/-- What an AV stands for has the cells that its cells stand for (all but a closed struct). -/
def AV.plainCells : AV → Bool
  | .val (.agg _) => false
  | _ => true

/-- A constant is known: it stays a closed value. -/
def ofScalar (v : Value) : AV := .val v
def ofValue : Value → AV
  | .agg cs => .agg (cs.toList.map ofScalar)
  | v => ofScalar v

mutual
/-- Known integers and bools as any others. -/
def AV.weak : AV → AV
  | .val (.bool b) => .bool b
  | .val (.int k n) => .int k n
  | .agg cs => .agg (AV.weakL cs)
  | .tup vs => .tup (AV.weakL vs)
  | v => v
def AV.weakL : List AV → List AV
  | [] => []
  | a :: r => AV.weak a :: AV.weakL r
end
/-- An integer or a bool that is known. -/
def AV.strong : AV → AV
  | .bool b => .val (.bool b)
  | .int k n => .val (.int k n)
  | v => v
def knownA : Option AV → Bool
  | some (.val (.bool _)) | some (.val (.int _ _)) => true
  | _ => false

/-! ### plain data -/
/-- Numbers within a kind's bounds. -/
def keyWf (q : IntKind) (ns : List Int) : Prop := ∀ n ∈ ns, (Lit.int q n).wf = true
/-- The kind of a cell of plain data. -/
inductive CK where
  | int (k : IntKind)
  | bool
  deriving DecidableEq
/-- A cell of plain data, out of its number. -/
def CK.cell : CK → Int → AV
  | .int k, n => .int k n
  | .bool, n => .bool (n != 0)
def CK.val : CK → Int → Value
  | .int k, n => .int k n
  | .bool, n => .bool (n != 0)
/-- The cells of an element from the j-th on. -/
def elA : List CK → Nat → List Int → List AV
  | [], _, _ => []
  | k :: ks, j, el => k.cell (el.getD j 0) :: elA ks (j + 1) el
def elV : List CK → Nat → List Int → List Value
  | [], _, _ => []
  | k :: ks, j, el => k.val (el.getD j 0) :: elV ks (j + 1) el
/-- The cells of all elements. -/
def rowV (ks : List CK) (l : List (List Int)) : List Value := l.flatMap (elV ks 0)
def codeC : CK → AV → Option Int
  | .int k, .int k' n => if k = k' then some n else none
  | .int k, .val (.int k' n) => if k = k' then some n else none
  | .bool, .bool b => some (bif b then 1 else 0)
  | .bool, .val (.bool b) => some (bif b then 1 else 0)
  | _, _ => none
def codeL : List CK → List AV → Option (List Int)
  | [], [] => some []
  | k :: ks, v :: vs => match codeC k v, codeL ks vs with
    | some n, some ns => some (n :: ns)
    | _, _ => none
  | _, _ => none
def codeR (ks : List CK) : List (List AV) → Option (List (List Int))
  | [] => some []
  | el :: els => match codeL ks el, codeR ks els with
    | some n, some ns => some (n :: ns)
    | _, _ => none

/-- A box with its cells; a row of plain data: the element's type, its cells' kinds, the elements; a row of known length; the record of a loop over a function. -/
inductive Body where
  | cells (cs : List AV)
  | row (e : TypeId) (ks : List CK) (l : List (List Int))
  | arr (e : TypeId) (sz : Nat) (els : List (List AV))
  /-- a nil slice -/
  | nil
  /-- a map: the key's type (an array of m integers), the element's type (a struct of plain data), the entries: the key's numbers, then the element's -/
  | mp (kt et : TypeId) (q : IntKind) (m : Nat) (ke : List CK) (l : List (List Int))
  /-- st: 0 ready, 1 busy, 2 left; N: the frame's slots -/
  | loop (st : Nat) (pend : Option Code) (N : Nat) (tm : Nat → Option AV) (params : Array Tmp) (assign body : Code)
  /-- a loop over a function of which no round runs or comes: its state, its jump -/
  | fin (st : Nat) (pend : Option Code)
/-- own: it may be written; ver: below it nothing was turned since -/
structure Obj where
  key : Nat
  ver : Nat
  own : Bool
  body : Body
def Body.cellsOf : Body → List AV
  | .cells cs => cs
  | .arr _ _ els => els.flatten
  | _ => []

structure Heap where
  objs : List Obj
  next : Nat

def findObj (key : Nat) : List Obj → Option Obj
  | [] => none
  | o :: r => if Nat.beq o.key key then some o else findObj key r

/-- cells with new ones laid over them from place off on -/
def setFrom (cs : List AV) (off : Nat) (vs : List AV) : List AV := cs.take off ++ vs ++ cs.drop (off + vs.length)

/-- What an operation does: what must hold; the objects that go; how many keys are new; the objects that come; the value. -/
structure Eff where
  p : Option Prop
  rm : List Nat
  nk : Nat
  add : List Obj
  v : AV
/-- the objects behind it -/
def effObjs (x : Eff) (l : List Obj) : List Obj := x.add ++ l.filter (fun o => !(x.rm.any (Nat.beq o.key)))
def okE (v : AV) : Option Eff := some ⟨none, [], 0, [], v⟩
def chkE (p : Prop) (v : AV) : Option Eff := some ⟨some p, [], 0, [], v⟩
/-- It turns no object. -/
def Eff.pure (x : Eff) : Bool := x.rm.isEmpty && x.add.isEmpty && Nat.beq x.nk 0
def Eff.holds (x : Eff) : Prop := match x.p with | none => True | some p => p

inductive Tree (α : Type) where
  | ret (a : α)
  | br (b : Bool) (t e : Tree α)
  | need (p : Prop) (t : Tree α)
  /-- one of two ways, not told which; the first one only if p -/
  | ask (p : Prop) (t e : Tree α)
  | bad

namespace Tree
def bind {α β : Type} : Tree α → (α → Tree β) → Tree β
  | .ret a, f => f a
  | .br b t e, f => .br b (t.bind f) (e.bind f)
  | .need p t, f => .need p (t.bind f)
  | .ask p t e, f => .ask p (t.bind f) (e.bind f)
  | .bad, _ => .bad
def holds {α : Type} : Tree α → (α → Prop) → Prop
  | .ret a, Q => Q a
  | .br b t e, Q => (b = true → t.holds Q) ∧ (b = false → e.holds Q)
  | .need p t, Q => p ∧ t.holds Q
  | .ask p t e, Q => (p → t.holds Q) ∧ e.holds Q
  | .bad, _ => False
end Tree
noncomputable def guardP {α : Type} (p : Prop) (o : Option α) : Option α := by classical exact if p then o else none
noncomputable def Tree.opt {α : Type} : Tree α → Option α
  | .ret a => some a
  | .br b t e => bif b then t.opt else e.opt
  | .need p t => guardP p t.opt
  | .ask p t e => guardP (p → t.opt = e.opt) e.opt
  | .bad => none

section ops
variable (P : Program)

def sizeA (t : TypeId) : Option Nat := (P.info? t).map (·.size)
def isAggA (t : TypeId) : Option Bool := (P.underlying t).map fun | .struct _ | .array _ _ => true | _ => false
def zeroA (t : TypeId) : Option AV := match P.info? t with
  | some i => i.zero.map ofValue
  | none => none

/-- The part of type t from place off on. -/
def partA (t : TypeId) (cs : List AV) (off : Nat) : Option AV :=
  match isAggA P t, sizeA P t with
  | some true, some n => if off + n ≤ cs.length then some (.agg ((cs.drop off).take n)) else none
  | some false, some _ => cs[off]?
  | _, _ => none

def fieldOf (s : TypeId) (f : Nat) : Option Field :=
  match P.underlying s with
  | some (.struct fields) => fields[f]?
  | _ => none

/-- Where the parts of a struct or an array lie, and how many cells each has. -/
def placesA (t : TypeId) : Option (Nat → Option (Nat × Nat)) :=
  match P.underlying t with
  | some (.array _ e) => (P.info? e).map fun ie i => some (i * ie.size, ie.size)
  | some (.struct fields) => (fields.toList.mapM (fun f => (P.info? f.type).map fun i => (f.offset, i.size))).map fun places i => places.toArray[i]?
  | _ => none
/-- Parts laid into the zero cells. -/
def fillA (place : Nat → Option (Nat × Nat)) : List (Nat × AV) → List AV → Option (List AV)
  | [], cs => some cs
  | (i, v) :: rest, cs =>
    match place i with
    | none => none
    | some (off, n) => if v.cells.length = n ∧ off + v.cells.length ≤ cs.length ∧ v.plainCells = true then fillA place rest (setFrom cs off v.cells) else none

def readParts (ρ : Operand → Option AV) : List (Nat × Operand) → Option (List (Nat × AV))
  | [] => some []
  | (i, x) :: r => match ρ x, readParts ρ r with
    | some v, some vs => some ((i, v) :: vs)
    | _, _ => none

def readL (ρ : Operand → Option AV) : List Operand → Option (List AV)
  | [] => some []
  | x :: r => match ρ x, readL ρ r with
    | some v, some vs => some (v :: vs)
    | _, _ => none

/-- The kinds of the cells of plain data of type t. -/
def kindsF (rec_ : TypeId → Option (List CK)) : List Field → Nat → Option (List CK)
  | [], _ => some []
  | f :: r, off =>
    if f.offset = off then
      match rec_ f.type with
      | some ks => if ks.length = P.cellsOf f.type then (match kindsF rec_ r (off + ks.length) with | some ks' => some (ks ++ ks') | none => none) else none
      | none => none
    else none
def repL (n : Nat) (l : List CK) : List CK := (List.replicate n l).flatten
def kinds : Nat → TypeId → Option (List CK)
  | 0, _ => none
  | n + 1, t => match P.underlying t with
    | some .bool => some [.bool]
    | some (.int k) => some [.int k]
    | some (.struct fs) => match kindsF P (kinds n) fs.toList 0 with
      | some ks => if ks.length = P.cellsOf t then some ks else none
      | none => none
    | some (.array m e) => match kinds n e with
      | some ks => if ks.length = P.cellsOf e ∧ (repL m ks).length = P.cellsOf t then some (repL m ks) else none
      | none => none
    | _ => none

/-- The parts of a slice's literal, each element once, in order. -/
def readEls (ρ : Operand → Option AV) (sz : Nat) : Nat → List (Nat × Operand) → Option (List (List AV))
  | _, [] => some []
  | j, (i, x) :: r => if i = j then (match ρ x with
    | some v => if v.plainCells = true ∧ v.cells.length = sz ∧ v.cells.all AV.scalar = true then (match readEls ρ sz (j + 1) r with
      | some els => some (v.cells :: els)
      | none => none) else none
    | none => none) else none

/-- Equality of two values of type t: scalars, structs and arrays of these. -/
def eqFields (eq : TypeId → AV → AV → Option Bool) (xs ys : List AV) : List Field → Option Bool
  | [] => some true
  | f :: r =>
    if f.name = "_" then none else
    match partA P f.type xs f.offset, partA P f.type ys f.offset with
    | some a, some b => match eq f.type a b, eqFields eq xs ys r with
      | some u, some v => some (u && v)
      | _, _ => none
    | _, _ => none
def eqItems (eq : TypeId → AV → AV → Option Bool) (e : TypeId) (c : Nat) (xs ys : List AV) : List Nat → Option Bool
  | [] => some true
  | i :: r =>
    match partA P e xs (i * c), partA P e ys (i * c) with
    | some a, some b => match eq e a b, eqItems eq e c xs ys r with
      | some u, some v => some (u && v)
      | _, _ => none
    | _, _ => none
def eqA : Nat → TypeId → AV → AV → Option Bool
  | 0, _, _, _ => none
  | d + 1, t, x, y =>
    match P.underlying t, x, y with
    | some .bool, .bool a, .bool b => some (a == b)
    | some (.int _), .int k a, .int k' b => if k = k' then some (a == b) else none
    | some (.struct fs), .agg xs, .agg ys => if P.stoodInHeld t = false then eqFields P (eqA d) xs ys fs.toList else none
    | some (.array n e), .agg xs, .agg ys => match P.info? e with
      | some i => eqItems P (eqA d) e i.size xs ys (List.range n)
      | none => none
    | _, _, _ => none

def intOp (op : BinOp) (k : IntKind) (a b : Int) : Option Eff :=
  match op with
  | .add => okE (.int k (k.wrap (a + b)))
  | .sub => okE (.int k (k.wrap (a - b)))
  | .mul => okE (.int k (k.wrap (a * b)))
  | .quo => chkE (b ≠ 0) (.int k (k.wrap (a.tdiv b)))
  | .rem => chkE (b ≠ 0) (.int k (a.tmod b))
  | .eql => okE (.bool (a == b))
  | .neq => okE (.bool (a != b))
  | .lss => okE (.bool (a < b))
  | .leq => okE (.bool (a ≤ b))
  | .gtr => okE (.bool (a > b))
  | .geq => okE (.bool (a ≥ b))
  | .shr => chkE (0 ≤ b) (.int k (a.fdiv (2 ^ (min b.toNat k.bits))))
  | _ => none

/-- min, max of integers -/
def imin (x y : Int) : Int := if y < x then y else x
def imax (x y : Int) : Int := if y > x then y else x
def mm (op : Int → Int → Int) (k : IntKind) : Int → List AV → Option AV
  | a, [] => some (.int k a)
  | a, .int k' b :: r => if k = k' then mm op k (op a b) r else none
  | _, _ => none

/-- an element with numbers laid over it from place off on -/
def setEl (sz : Nat) (el : List Int) (off : Nat) (ns : List Int) : List Int := (List.range sz).map fun j => if off ≤ j ∧ j < off + ns.length then ns.getD (j - off) 0 else el.getD j 0
/-- i is the number of an element of l -/
def inR (i : Int) (l : List (List Int)) : Prop := 0 ≤ i ∧ i < (l.length : Int)
/-- The bounds of an append: elements in all. -/
def fitsA (bytes n : Nat) : Prop := n * bytes ≤ 140737488355328 ∧ n ≤ maxLen
instance (bytes n : Nat) : Decidable (fitsA bytes n) := by unfold fitsA; infer_instance
/-- The content of a row as plain data. -/
def rowOf : Body → Option (TypeId × List CK × List (List Int))
  | .row e ks l => some (e, ks, l)
  | .arr e sz els => match kinds P 9 e with
    | some ks => if ks.length = sz then (codeR ks els).map fun l => (e, ks, l) else none
    | none => none
  | _ => none
/-- What is appended has the type's cells, and these are some. -/
def appOk (e : TypeId) (ie : TypeInfo) (b : Body) : Bool :=
  (match ie.zero with | some z => Nat.beq z.cells.size ie.size | none => false) &&
  match b with
  | .row e2 ks _ => Nat.beq e2 e && Nat.beq ks.length ie.size && !(Nat.beq ie.size 0)
  | .arr e2 sz _ => Nat.beq e2 e && Nat.beq sz ie.size && !(Nat.beq ie.size 0)
  | _ => false
/-- append: onto nil, or onto an own row whose object is given. K: the new key. -/
def appendA (K : Nat) (bytes : Nat) (s : AV) (o : Option Obj) (key2 : Nat) (b2 : Body) : Option Eff :=
  match s, o, b2 with
  | .sl key, some ⟨_, _, true, .nil⟩, .arr e sz els2 => if key ≠ key2 ∧ fitsA bytes els2.length then some ⟨none, [key], 1, [⟨K, K, true, .arr e sz els2⟩], .sl K⟩ else none
  | .sl key, some ⟨_, _, true, .nil⟩, .row e ks l2 => if key ≠ key2 then some ⟨some (fitsA bytes l2.length), [key], 1, [⟨K, K, true, .row e ks l2⟩], .sl K⟩ else none
  | .val (.slice none 0 0), _, .arr e sz els2 => if fitsA bytes els2.length then some ⟨none, [], 1, [⟨K, K, true, .arr e sz els2⟩], .sl K⟩ else none
  | .val (.slice none 0 0), _, .row e ks l2 => some ⟨some (fitsA bytes l2.length), [], 1, [⟨K, K, true, .row e ks l2⟩], .sl K⟩
  | .sl key, some ⟨_, _, true, .arr e sz els⟩, .arr e2 sz2 els2 => if key ≠ key2 ∧ e = e2 ∧ sz = sz2 ∧ fitsA bytes (els.length + els2.length) then some ⟨none, [key], 1, [⟨K, K, true, .arr e sz (els ++ els2)⟩], .sl K⟩ else none
  | .sl key, some ⟨_, _, true, b⟩, b2 => match rowOf P b, rowOf P b2 with
    | some (e, ks, l), some (e2, ks2, l2) => if key ≠ key2 ∧ e = e2 ∧ ks = ks2 then some ⟨some (fitsA bytes (l.length + l2.length)), [key], 1, [⟨K, K, true, .row e ks (l ++ l2)⟩], .sl K⟩ else none
    | _, _ => none
  | _, _, _ => none

/-- s[lo:hi] of n elements: what must hold, and the bounds. -/
def boundsA (n : Int) : Option Int → Option Int → Prop × Option Int × Int
  | none, none => (True, none, n)
  | none, some h => ((0 ≤ h ∧ h ≤ n), none, h)
  | some lo, none => ((0 ≤ lo ∧ lo ≤ n), some lo, n)
  | some lo, some h => ((0 ≤ lo ∧ lo ≤ h ∧ h ≤ n), some lo, h)
/-- The elements of a part. -/
def cutV (l : List (List Int)) (lo : Option Int) (hi : Int) : List (List Int) := (l.take hi.toNat).drop (loN lo)
/-- It is a part of l. -/
def cutOk (l : List (List Int)) (lo : Option Int) (hi : Int) : Prop := (loN lo : Int) ≤ hi ∧ hi ≤ (l.length : Int)
/-- i is the number of an element of a part of l. -/
def inV (i : Int) (lo : Option Int) (hi : Int) (l : List (List Int)) : Prop := 0 ≤ i ∧ (loN lo : Int) + i < hi ∧ hi ≤ (l.length : Int)
def shI (lo : Option Int) (i : Int) : Int := match lo with | none => i | some x => (x.toNat : Int) + i
def intA : AV → Option Int
  | .int _ n => some n
  | .val (.int _ n) => some n
  | _ => none
/-- An optional bound. -/
def readB (ρ : Operand → Option AV) : Option Operand → Option (Option Int)
  | none => some none
  | some x => match ρ x with
    | some v => (intA v).map some
    | none => none

/-- a load -/
def loadA (objs : List Obj) (t : TypeId) : AV → Option Eff
  | .ptr key off => match findObj key objs with
    | some ⟨_, _, _, .cells cs⟩ => match partA P t cs off with | some v => okE v | none => none
    | _ => none
  | .ix key sz kn i off => match findObj key objs with
    | some ⟨_, _, _, .arr e sz' els⟩ => (match kn with
      | true => (match els[i.toNat]? with
        | some el => if sz' = sz ∧ sz ≠ 0 then (match partA P t el off with | some v => okE v | none => none) else none
        | none => none)
      | false => (match rowOf P (.arr e sz' els) with
        | some (_, ks, l) => if ks.length = sz ∧ sz ≠ 0 then (match partA P t (elA ks 0 (l.getD i.toNat [])) off with | some v => chkE (inR i l) v | none => none) else none
        | none => none))
    | some ⟨_, _, _, .row _ ks l⟩ => if ks.length = sz ∧ sz ≠ 0 then (match partA P t (elA ks 0 (l.getD i.toNat [])) off with | some v => chkE (inR i l) v | none => none) else none
    | _ => none
  | _ => none
/-- a store -/
def storeA (objs : List Obj) (K : Nat) (t : TypeId) (v : AV) : AV → Option Eff
  | .ptr key off => match findObj key objs, sizeA P t with
    | some ⟨_, _, true, .cells cs⟩, some n => if v.cells.length = n ∧ off + v.cells.length ≤ cs.length ∧ v.cells.all AV.scalar = true then some ⟨none, [key], 0, [⟨key, K, true, .cells (setFrom cs off v.cells)⟩], .val undef⟩ else none
    | _, _ => none
  | .ix key sz _ i off => match findObj key objs, sizeA P t with
    | some ⟨_, _, true, b⟩, some n => match rowOf P b with
      | some (e, ks, l) => match codeL ((ks.drop off).take n) v.cells with
        | some ns => if ks.length = sz ∧ sz ≠ 0 ∧ off + n ≤ sz ∧ v.cells.length = n then some ⟨some (inR i l), [key], 0, [⟨key, K, true, .row e ks (l.set i.toNat (setEl sz (l.getD i.toNat []) off ns))⟩], .val undef⟩ else none
        | none => none
      | none => none
    | _, _ => none
  | _ => none
/-- the address of an element -/
def indexAddrA (objs : List Obj) (t : TypeId) (x i : AV) : Option Eff :=
  match P.underlying t with
  | some (.array len e) => (match x, i, sizeA P e with
    | .ptr key off, .val (.int _ n), some sz => if 0 ≤ n ∧ n < (len : Int) then okE (.ptr key (off + n.toNat * sz)) else none
    | _, _, _ => none)
  | some (.slice e) => (match x, intA i, sizeA P e with
    | .sl key, some n, some (s + 1) => (match findObj key objs with
      | some ⟨_, _, _, .arr e' sz els⟩ => if sz = s + 1 then (match knownA (some i) with
        | true => if 0 ≤ n ∧ n < (els.length : Int) then okE (.ix key (s + 1) true n 0) else none
        | false => (match rowOf P (.arr e' sz els) with
          | some (_, _, l) => chkE (inR n l) (.ix key (s + 1) false n 0)
          | none => none)) else none
      | some ⟨_, _, _, .row _ ks l⟩ => if ks.length = s + 1 then chkE (inR n l) (.ix key (s + 1) false n 0) else none
      | _ => none)
    | .vw key sz lo hi, some n, some (s + 1) => (match findObj key objs with
      | some o => (match rowOf P o.body with
        | some (_, ks, l) => if ks.length = s + 1 ∧ sz = s + 1 then chkE (inV n lo hi l) (.ix key (s + 1) false (shI lo n) 0) else none
        | none => none)
      | none => none)
    | _, _, _ => none)
  | _ => none
/-- the address of a field -/
def fieldAddrA (objs : List Obj) (d : Nat) : AV → Option Eff
  | .ptr key off => okE (.ptr key (off + d))
  | .ix key sz kn i off => match findObj key objs with
    | some o => match o.body with
      | .arr e sz' els => (match kn with
        | true => if i.toNat < els.length ∧ sz' ≠ 0 then okE (.ix key sz true i (off + d)) else none
        | false => (match rowOf P (.arr e sz' els) with
          | some (_, ks, l) => if ks ≠ [] then chkE (inR i l) (.ix key sz false i (off + d)) else none
          | none => none))
      | .row _ ks l => if ks ≠ [] then chkE (inR i l) (.ix key sz kn i (off + d)) else none
      | _ => none
    | none => none
  | _ => none
/-- a slice's literal -/
def buildSliceA (ρ : Operand → Option AV) (K : Nat) (t : TypeId) (len : Nat) (parts : List (Nat × Operand)) : Option Eff :=
  match P.underlying t with
  | some (.slice e) => match sizeA P e, zeroA P e with
    | some (n + 1), some z => match readEls ρ (n + 1) 0 parts with
      | some els => if els.length = len ∧ z.cells.length = n + 1 ∧ z.plainCells = true ∧ len * (n + 1) ≤ 16777216 then some ⟨none, [], 1, [⟨K, K, true, .arr e (n + 1) els⟩], .sl K⟩ else none
      | none => none
    | _, _ => none
  | _ => none
/-- s[lo:hi] of a row or of its first elements -/
def sliceRowA (objs : List Obj) (t : TypeId) (key : Nat) (sz : Option Nat) (lo hi : Option Int) : Option Eff :=
  match findObj key objs with
  | some o => match rowOf P o.body with
    | some (e, ks, l) => match P.underlying t with
      | some (.slice e') => if e = e' ∧ (sizeA P e) = some ks.length ∧ (sz = none ∨ sz = some ks.length) then chkE (boundsA l.length lo hi).1 (.vw key ks.length (boundsA l.length lo hi).2.1 (boundsA l.length lo hi).2.2) else none
      | _ => none
    | none => none
  | none => none
/-- s[lo:hi] -/
def sliceA (objs : List Obj) (t : TypeId) (x : AV) (lo hi : Option Int) : Option Eff :=
  match x with
  | .sl key => sliceRowA P objs t key none lo hi
  | .vw key sz none h => sliceRowA P objs t key (some sz) lo (some (hi.getD h))
  | _ => none
/-- s[:0:0]: an empty own row -/
def slice0A (objs : List Obj) (K : Nat) (t : TypeId) (x : AV) : Option Eff :=
  match P.underlying t with
  | some (.slice e') => match sizeA P e' with
    | some _ => match x with
      | .sl key => match findObj key objs with
        | some o => match o.body with
          | .nil => some ⟨none, [], 1, [⟨K, K, true, .nil⟩], .sl K⟩
          | b => match rowOf P b with
            | some (e, ks, _) => if e = e' then some ⟨none, [], 1, [⟨K, K, true, .row e ks []⟩], .sl K⟩ else none
            | none => none
        | none => none
      | .val (.slice none 0 0) => some ⟨none, [], 1, [⟨K, K, true, .nil⟩], .sl K⟩
      | _ => none
    | none => none
  | _ => none
def isZeroA : Option AV → Bool
  | some (.val (.int _ n)) => decide (n = 0)
  | _ => false
/-- len -/
def lenA (objs : List Obj) (t : Option TypeDesc) (x : AV) : Option Eff :=
  match t, x with
  | some (.slice _), .sl key => (match findObj key objs with
    | some ⟨_, _, _, .arr _ _ els⟩ => okE (.val (.int .i64 els.length))
    | some ⟨_, _, _, .row _ _ l⟩ => okE (.int .i64 l.length)
    | some ⟨_, _, _, .nil⟩ => okE (.val (.int .i64 0))
    | _ => none)
  | some (.slice _), .val (.slice _ n _) => okE (.val (.int .i64 n))
  | some (.slice _), .vw key _ lo hi => (match findObj key objs with
    | some o => (match rowOf P o.body with
      | some _ => okE (.int .i64 ((hi.toNat - loN lo : Nat) : Int))
      | none => none)
    | none => none)
  | _, _ => none
/-- What is appended: its key, its content, what must hold. -/
def srcA (objs : List Obj) : AV → Option (Nat × Body × Option Prop)
  | .sl key => match findObj key objs with
    | some o => some (key, o.body, none)
    | none => none
  | .vw key sz lo hi => match findObj key objs with
    | some o => match rowOf P o.body with
      | some (e, ks, l) => if ks.length = sz then some (key, .row e ks (cutV l lo hi), some (cutOk l lo hi)) else none
      | none => none
    | none => none
  | _ => none
/-- The object appended to. -/
def tgtA (objs : List Obj) : AV → Option Obj
  | .sl key => findObj key objs
  | _ => none
def holdsO : Option Prop → Prop
  | none => True
  | some p => p
def conjP : Option Prop → Option Prop → Option Prop
  | none, q => q
  | some p, none => some p
  | some p, some q => some (p ∧ q)
/-- append -/
def appendOpA (objs : List Obj) (K : Nat) (t : TypeId) (s x : AV) : Option Eff :=
  match srcA P objs x with
  | some (key2, b2, p) => match P.underlying t with
    | some (.slice e) => match P.info? e with
      | some ie => if appOk e ie b2 = true then (appendA P K ie.bytes s (tgtA objs s) key2 b2).map fun z => { z with p := conjP p z.p } else none
      | none => none
    | _ => none
  | none => none

def isVw : AV → Bool
  | .vw _ _ _ _ => true
  | _ => false
/-- append onto a part, in place: what stands behind it is written over. -/
def appendVwA (objs : List Obj) (K : Nat) (t : TypeId) (s x : AV) : Option Eff :=
  match s with
  | .vw key sz lo hi => match srcA P objs x with
    | some (_, b2, p) => match rowOf P b2, findObj key objs, P.underlying t with
      | some (e2, ks2, l2), some ⟨_, _, true, b⟩, some (.slice e') => match rowOf P b, P.info? e' with
        | some (e, ks, l), some ie => if e = e' ∧ e2 = e ∧ ks2 = ks ∧ sz = ks.length ∧ ie.size = ks.length ∧ ks.length ≠ 0 then
            some ⟨conjP p (some (cutOk l lo hi ∧ hi.toNat + l2.length ≤ l.length)), [key], 0, [⟨key, K, true, .row e ks (l.take hi.toNat ++ l2 ++ l.drop (hi.toNat + l2.length))⟩], .vw key sz lo ((hi.toNat + l2.length : Nat) : Int)⟩ else none
        | _, _ => none
      | _, _, _ => none
    | none => none
  | _ => none
def clearRowA (objs : List Obj) (K : Nat) (e' : TypeId) (key : Nat) (sz : Option Nat) (lo hi : Option Int) : Option Eff :=
  match findObj key objs with
  | some ⟨_, _, true, b⟩ => match rowOf P b, zeroA P e' with
    | some (e, ks, l), some z => match codeL ks z.cells with
      | some zc => if e = e' ∧ (sz = none ∨ sz = some ks.length) then
          some ⟨some (cutOk l lo (hi.getD l.length)), [key], 0, [⟨key, K, true, .row e ks (l.take (loN lo) ++ List.replicate ((hi.getD l.length).toNat - loN lo) zc ++ l.drop (hi.getD l.length).toNat)⟩], .tup []⟩ else none
      | none => none
    | _, _ => none
  | _ => none
/-- clear -/
def clearA (objs : List Obj) (K : Nat) (t : TypeId) (x : AV) : Option Eff :=
  match P.underlying t with
  | some (.slice e') => match x with
    | .sl key => clearRowA P objs K e' key none none none
    | .vw key sz lo hi => clearRowA P objs K e' key (some sz) lo (some hi)
    | _ => none
  | _ => none
/-- s[lo:hi:mx]: looked at no more. -/
def slice3A (objs : List Obj) (K : Nat) (t : TypeId) (x : AV) (lo : Option Int) (hi mx : Int) : Option Eff :=
  match x with
  | .sl key => match findObj key objs with
    | some o => match rowOf P o.body with
      | some (e, ks, l) => match P.underlying t with
        | some (.slice e') => if e = e' ∧ (sizeA P e) = some ks.length then some ⟨some (0 ≤ lo.getD 0 ∧ lo.getD 0 ≤ hi ∧ hi ≤ mx ∧ mx ≤ (l.length : Int)), [], 1, [], .sl K⟩ else none
        | _ => none
      | none => none
    | none => none
  | _ => none
/-- A part from the start of an own row as an own row, the row itself gone. -/
def settleA (objs : List Obj) (K : Nat) (v : AV) : Option Eff :=
  match v with
  | .vw key sz none hi => match findObj key objs with
    | some ⟨_, _, true, b⟩ => match rowOf P b with
      | some (e, ks, l) => if sz = ks.length then some ⟨some (0 ≤ hi ∧ hi ≤ (l.length : Int)), [key], 1, [⟨K, K, true, .row e ks (l.take hi.toNat)⟩], .sl K⟩ else none
      | none => none
    | _ => none
  | _ => none

/-- The types of maps that are known here: keys are arrays of m integers, elements structs of plain data. -/
def keyQ (kt : TypeId) : Option (Nat × IntKind) :=
  match P.underlying kt with
  | some (.array m e) => match P.underlying e with
    | some (.int q) => if P.cellsOf e = 1 ∧ P.cellsOf kt = m ∧ P.keyType kt = true ∧ P.types.size ≠ 0 then some (m, q) else none
    | _ => none
  | _ => none
/-- What stands at a key. -/
def findRow (m : Nat) (key : List Int) (l : List (List Int)) : Option (List Int) := (l.find? fun r => decide (r.take m = key)).map fun r => r.drop m
def putRow (m : Nat) (key val : List Int) (l : List (List Int)) : List (List Int) :=
  bif (findRow m key l).isSome then l.map (fun r => bif decide (r.take m = key) then key ++ val else r) else l ++ [key ++ val]
def makeMapA (K : Nat) (t : TypeId) : Option Eff :=
  match P.underlying t with
  | some (.map kt et) => match keyQ P kt, kinds P 9 et, isAggA P et with
    | some (m, q), some ke, some true => some ⟨none, [], 1, [⟨K, K, true, .mp kt et q m ke []⟩], .sl K⟩
    | _, _, _ => none
  | _ => none
def isMapA (t kt et : TypeId) : Bool := match P.underlying t with | some (.map k e) => Nat.beq k kt && Nat.beq e et | _ => false
/-- A key's numbers. -/
def keyA (q : IntKind) (m : Nat) : AV → Option (List Int)
  | .agg cs => codeL (List.replicate m (.int q)) cs
  | _ => none
def lookupA (objs : List Obj) (t : TypeId) (x ix : AV) (ok : Bool) : Option Eff :=
  match x with
  | .sl key => match findObj key objs with
    | some ⟨_, _, _, .mp kt et q m ke l⟩ => match keyA q m ix, zeroA P et with
      | some kc, some (.agg z) => match codeL ke z with
        | some zc => if isMapA P t kt et = true ∧ keyQ P kt = some (m, q) then
            (match ok with
            | true => chkE (keyWf q kc) (.tup [.agg (elA ke 0 ((findRow m kc l).getD zc)), .bool (findRow m kc l).isSome])
            | false => chkE (keyWf q kc) (.agg (elA ke 0 ((findRow m kc l).getD zc)))) else none
        | none => none
      | _, _ => none
    | _ => none
  | _ => none
def mapUpdateA (objs : List Obj) (K : Nat) (t : TypeId) (x ix v : AV) : Option Eff :=
  match x with
  | .sl key => match findObj key objs with
    | some ⟨_, _, true, .mp kt et q m ke l⟩ => match keyA q m ix, v with
      | some kc, .agg cs => match codeL ke cs with
        | some vc => if isMapA P t kt et = true ∧ keyQ P kt = some (m, q) then some ⟨some (keyWf q kc), [key], 0, [⟨key, K, true, .mp kt et q m ke (putRow m kc vc l)⟩], .val undef⟩ else none
        | none => none
      | _, _ => none
    | _ => none
  | _ => none

def absOp0 (ρ : Operand → Option AV) (objs : List Obj) (K : Nat) : Op → Option Eff
  | .move x | .assign x => match ρ x with | some v => okE v | none => none
  | .alloc t => match zeroA P t with | some z => some ⟨none, [], 1, [⟨K, K, true, .cells z.cells⟩], .ptr K 0⟩ | none => none
  | .box _ x => match ρ x with | some v => if v.plainCells = true then some ⟨none, [], 1, [⟨K, K, true, .cells v.cells⟩], .ptr K 0⟩ else none | none => none
  | .buildSlice t len parts => buildSliceA P ρ K t len parts.toList
  | .build t parts =>
    match zeroA P t, placesA P t, readParts ρ parts.toList with
    | some z, some place, some ps => match fillA place ps z.cells with | some cs => okE (.agg cs) | none => none
    | _, _, _ => none
  | .load t x => match ρ x with | some v => loadA P objs t v | none => none
  | .store t x y => match ρ x, ρ y with | some a, some v => storeA P objs K t v a | _, _ => none
  | .nilCheck x => match ρ x with
    | some (.ptr key off) => okE (.ptr key off)
    | some (.fn (.func f) a b) => okE (.fn (.func f) a b)
    | some (.yl key) => okE (.yl key)
    | _ => none
  | .binOp op t x y _ => match ρ x, ρ y with
    | some (.int k a), some (.int k' b) => if k = k' then intOp op k a b else none
    | some (.bool a), some (.bool b) => (match op with
      | .eql => match eqA P 9 t (.bool a) (.bool b) with | some e => okE (.bool e) | none => none
      | .neq => match eqA P 9 t (.bool a) (.bool b) with | some e => okE (.bool !e) | none => none
      | _ => none)
    | some (.agg a), some (.agg b) => if P.eqGuardType P.depth t = false then (match op with
      | .eql => match eqA P 9 t (.agg a) (.agg b) with | some e => okE (.bool e) | none => none
      | .neq => match eqA P 9 t (.agg a) (.agg b) with | some e => okE (.bool !e) | none => none
      | _ => none) else none
    | _, _ => none
  | .unOp .not _ x => match ρ x with | some (.bool b) => okE (.bool !b) | _ => none
  | .unOp .neg _ x => match ρ x with | some (.int k n) => okE (.int k (k.wrap (0 - n))) | _ => none
  | .convert src dst x => match ρ x, P.underlying src, P.underlying dst with
    | some (.int k n), some (.int k1), some (.int k2) => if k = k1 then okE (.int k2 (k2.wrap n)) else none
    | _, _, _ => none
  | .makeFunc f first caps => match readL ρ first.toList, readL ρ caps.toList with
    | some a, some b => okE (.fn f a b)
    | _, _ => none
  | .fieldAddr s x f => match ρ x, fieldOf P s f with
    | some v, some fd => match sizeA P fd.type with
      | some (_ + 1) => fieldAddrA P objs fd.offset v
      | _ => none
    | _, _ => none
  | .field s x f => match ρ x, fieldOf P s f with
    | some (.agg cs), some fd => match partA P fd.type cs fd.offset with | some v => okE v | none => none
    | _, _ => none
  | .index t x i => match ρ x, ρ i, P.underlying t with
    | some (.agg cs), some (.val (.int _ n)), some (.array len e) => match sizeA P e with
      | some sz => if 0 ≤ n ∧ n < (len : Int) then match partA P e cs (n.toNat * sz) with | some v => okE v | none => none else none
      | none => none
    | _, _, _ => none
  | .indexAddr t x i => match ρ x, ρ i with | some v, some n => indexAddrA P objs t v n | _, _ => none
  | .extract x i => match ρ x with
    | some (.tup vs) => match vs[i]? with | some v => okE v | none => none
    | _ => none
  | .slice t x lo hi none => match ρ x, readB ρ lo, readB ρ hi with
    | some v, some lo, some hi => sliceA P objs t v lo hi
    | _, _, _ => none
  | .slice t x lo hi (some mx) => match ρ x with
    | some v => if lo.isNone && isZeroA (hi.bind ρ) && isZeroA (ρ mx) then slice0A P objs K t v else
      match readB ρ lo, readB ρ hi, (ρ mx).bind intA with
      | some lo, some (some hi), some mx => slice3A P objs K t v lo hi mx
      | _, _, _ => none
    | none => none
  | .makeMap t none => makeMapA P K t
  | .lookup t x ix ok => match ρ x, ρ ix with | some v, some k => lookupA P objs t v k ok | _, _ => none
  | .mapUpdate t x ix y => match ρ x, ρ ix, ρ y with | some v, some k, some u => mapUpdateA P objs K t v k u | _, _, _ => none
  | .call { callee := .builtin b, args, argTypes } => match readL ρ args.toList with
    | some vs => match b with
      | .min => match vs with
        | .int k a :: r => match mm imin k a r with | some v => okE v | none => none
        | _ => none
      | .max => match vs with
        | .int k a :: r => match mm imax k a r with | some v => okE v | none => none
        | _ => none
      | .len => match vs with
        | [x] => lenA P objs ((argTypes[0]?).bind P.underlying) x
        | _ => none
      | .append => match vs, argTypes.toList with
        | [s, x], [t, t'] => if t = t' then (match isVw s with | true => appendVwA P objs K t s x | false => appendOpA P objs K t s x) else none
        | _, _ => none
      | .clear => match vs, argTypes.toList with
        | [x], [t] => clearA P objs K t x
        | _, _ => none
      | _ => none
    | none => none
  | _ => none

def Eff.strong (x : Eff) : Eff := { x with v := x.v.strong }
/-- An operation: known operands lead to a known value. -/
def absOp (ρ : Operand → Option AV) (objs : List Obj) (K : Nat) (op : Op) : Option Eff :=
  match op with
  | .binOp _ _ x y _ => if knownA (ρ x) && knownA (ρ y) then (absOp0 P (fun z => (ρ z).map AV.weak) objs K op).map Eff.strong else absOp0 P (fun z => (ρ z).map AV.weak) objs K op
  | .unOp _ _ x => if knownA (ρ x) then (absOp0 P (fun z => (ρ z).map AV.weak) objs K op).map Eff.strong else absOp0 P (fun z => (ρ z).map AV.weak) objs K op
  | .convert _ _ x => if knownA (ρ x) then (absOp0 P (fun z => (ρ z).map AV.weak) objs K op).map Eff.strong else absOp0 P (fun z => (ρ z).map AV.weak) objs K op
  | .call { callee := .builtin .min, .. } | .call { callee := .builtin .max, .. } => absOp0 P (fun z => (ρ z).map AV.weak) objs K op
  | _ => absOp0 P ρ objs K op
end ops

end Go.Sy
