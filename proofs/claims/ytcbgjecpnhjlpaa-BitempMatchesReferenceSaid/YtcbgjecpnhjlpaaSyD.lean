/-
  The executor: regions, code, loops, calls, functions.
-/
import Derived.Test.YtcbgjecpnhjlpaaSyA
import Derived.CheckFast
set_option linter.unusedVariables false
namespace Go.Sy

inductive Slot where
  | is (v : AV)
  | when (g : Nat) (want : Bool) (v : AV)
  | junk

abbrev Slots := Nat → Slot

def upd {α : Type} (s : Nat → α) (d : Nat) (v : α) : Nat → α := fun t => match Nat.beq t d with | true => v | false => s t
def put (s : Slots) (d : Option Nat) (v : Slot) : Slots := match d with | some d => upd s d v | none => s

/-- The guards under which an operation runs, the innermost first: the guard's slot, the wanted value, the guard's Bool. -/
abbrev Ctx := List (Nat × Bool × Bool)

/-- What an operand stands for under guards. -/
def readS (ctx : Ctx) (s : Slots) : Operand → Option AV
  | .tmp t => match s t with
    | .is v => some v
    | .when g want v => if ctx.any (fun c => Nat.beq c.1 g && (c.2.1 == want)) then some v else none
    | .junk => none
  | .const v => some (ofValue v)
  | .global g => some (.val (.pointer (some ⟨g, 0, none⟩)))
  | .func f => some (.fn (.func f) [] [])

def pickSide (ctx : Ctx) (s : Slots) (c : Operand) (side : Bool) : Operand → Option AV
  | .tmp t => match s t with
    | .is v => some v
    | .when g want v => if ctx.any (fun c => Nat.beq c.1 g && (c.2.1 == want)) then some v else match c with
      | .tmp g' => if Nat.beq g g' && (want == side) then some v else none
      | _ => none
    | .junk => none
  | x => readS ctx s x
def isLit (b : Bool) : Operand → Bool
  | .const (.bool b') => b' == b
  | _ => false
def boolA : AV → Option AV
  | .bool b => some (.bool b)
  | .val (.bool b) => some (.val (.bool b))
  | _ => none
def litV (b : Bool) : Option AV → Bool
  | some (.val (.bool b')) => b' == b
  | _ => false
/-- It is known whatever the condition is: both ways are the same. -/
def shortA (ctx : Ctx) (s : Slots) (c a b : Operand) : Option Bool :=
  match readS ctx s c with
  | some (.bool _) => if isLit false b && litV false (pickSide ctx s c true a) then some false else if isLit true a && litV true (pickSide ctx s c false b) then some true else none
  | _ => none
def pickA0 (ctx : Ctx) (s : Slots) (c a b : Operand) : Option AV :=
  match readS ctx s c with
  | some (.val (.bool k)) => (match k with | true => (pickSide ctx s c true a).bind boolA | false => (pickSide ctx s c false b).bind boolA)
  | some (.bool cb) => match (pickSide ctx s c true a).map AV.weak, (pickSide ctx s c false b).map AV.weak with
    | some (.bool x), some (.bool y) =>
      if isLit true a then some (.bool (cb || y)) else if isLit false b then some (.bool (cb && x)) else some (.bool (bif cb then x else y))
    | _, _ => none
  | _ => none

def pickA (ctx : Ctx) (s : Slots) (c a b : Operand) : Option AV :=
  match shortA ctx s c a b with
  | some v => some (.val (.bool v))
  | none => pickA0 ctx s c a b

/-- The guard's slot and the wanted value. -/
def guardOf (ops : Array Oper) (o : Oper) : Option (Option (Nat × Bool)) :=
  match o.guard with
  | none => some none
  | some (j, want) => match ops[j]? with
    | some oj => match oj.dst with
      | some d => some (some (d, want))
      | none => none
    | none => none

def Heap.eff (H : Heap) (x : Eff) : Heap := ⟨effObjs x H.objs, H.next + x.nk⟩

abbrev RCfg := Slots × Heap

/-- The guards of an operation: those of its own guard's slot too. -/
def guardChain (s : Slots) : Nat → Nat → Bool → Option Ctx
  | 0, _, _ => none
  | n + 1, g, want => match s g with
    | .is v => match v.weak with
      | .bool b => some [(g, want, b)]
      | _ => none
    | .when g1 w1 v => match v.weak with
      | .bool b => (guardChain s n g1 w1).map ((g, want, b) :: ·)
      | _ => none
    | .junk => none
/-- A guard that is known: does the operation run? -/
def guardKnown (s : Slots) (g : Nat) (want : Bool) : Option Bool :=
  match s g with
  | .is (.val (.bool b)) => some (b == want)
  | .is (.val _) => some false
  | _ => none
def condsB : Ctx → Bool
  | [] => true
  | [(_, want, b)] => b == want
  | (_, want, b) :: r => (b == want) && condsB r
def condsP : Ctx → Prop → Prop
  | [], p => p
  | (_, want, b) :: r, p => condsP r (b = want → p)
def slotOf (ctx : Ctx) (v : AV) : Slot := match ctx with | [] => .is v | (g, want, _) :: _ => .when g want v
def needO {α : Type} (ctx : Ctx) (p : Option Prop) (t : Tree α) : Tree α := match p with | none => t | some p => .need (condsP ctx p) t

/-- A guard's value is known from here on. -/
def learn (g : Nat) (v : Bool) (s : Slots) : Slots :=
  upd (fun t => match s t with
    | .when g' w x => if Nat.beq g' g then (match w == v with | true => .is x | false => .is (.val undef)) else .when g' w x
    | y => y) g (.is (.val (.bool v)))
/-- A way for each guard, the outermost first. -/
def brG : Ctx → Slots → (Slots → Tree RCfg) → (Slots → Tree RCfg) → Tree RCfg
  | [], s, t, _ => t s
  | (g, want, b) :: rest, s, t, e => .br (b == want) (brG rest (learn g want s) t e) (e (learn g (!want) s))

/-- An operation's outcome laid into the state. -/
def applyE (s : Slots) (H : Heap) (dst : Option Nat) (ctx : Ctx) (x : Eff) : Tree RCfg :=
  if x.pure then needO ctx x.p (.ret (put s dst (slotOf ctx x.v), H))
  else match ctx with
    | [] => needO [] x.p (.ret (put s dst (.is x.v), H.eff x))
    | c :: r => brG (c :: r).reverse s (fun s => needO [] x.p (.ret (put s dst (.is x.v), H.eff x))) (fun s => .ret (put s dst (.is (.val undef)), H))

/-! ### a tree of results as one result -/
def idxOf (k : Nat) : List (Option Nat) → Nat → Option Nat
  | [], _ => none
  | some k' :: r, i => if Nat.beq k k' then some i else idxOf k r (i + 1)
  | none :: r, i => idxOf k r (i + 1)
mutual
/-- The slices of a result that are new, under the names K, K+1 .. -/
def packV (K : Nat) : AV → List (Option Nat) → Option (AV × List (Option Nat))
  | .sl k, acc => if Nat.blt k K then some (.sl k, acc) else match idxOf k acc 0 with
    | some i => some (.sl (K + i), acc)
    | none => some (.sl (K + acc.length), acc ++ [some k])
  | .val (.slice none 0 0), acc => some (.sl (K + acc.length), acc ++ [none])
  | .ptr k off, acc => if Nat.blt k K then some (.ptr k off, acc) else none
  | .yl k, acc => if Nat.blt k K then some (.yl k, acc) else none
  | .fn _ _ _, _ => none
  | .ix _ _ _ _ _, _ => none
  | .vw k sz lo hi, acc => if Nat.blt k K then some (.vw k sz lo hi, acc) else none
  | .agg cs, acc => match packL K cs acc with | some (cs', acc') => some (.agg cs', acc') | none => none
  | .tup cs, acc => match packL K cs acc with | some (cs', acc') => some (.tup cs', acc') | none => none
  | v, acc => some (v, acc)
def packL (K : Nat) : List AV → List (Option Nat) → Option (List AV × List (Option Nat))
  | [], acc => some ([], acc)
  | a :: r, acc => match packV K a acc with
    | some (a', acc') => match packL K r acc' with
      | some (r', acc'') => some (a' :: r', acc'')
      | none => none
    | none => none
end
def packO (P : Program) (K : Nat) (objs : List Obj) : Nat → List (Option Nat) → Option (List Obj)
  | _, [] => some []
  | i, none :: r => (packO P K objs (i + 1) r).map (⟨K + i, K, true, .nil⟩ :: ·)
  | i, some k :: r => match findObj k objs with
    | some ⟨_, _, true, b⟩ => match b with
      | .nil => (packO P K objs (i + 1) r).map (⟨K + i, K, true, .nil⟩ :: ·)
      | b => match rowOf P b with
        | some (e, ks, l) => (packO P K objs (i + 1) r).map (⟨K + i, K, true, .row e ks l⟩ :: ·)
        | none => none
    | _ => none
/-- One way's result. -/
def pack (P : Program) (K : Nat) (y : AV × Heap) : Option Eff :=
  match packV K y.1 [] with
  | some (v, acc) => (packO P K y.2.objs 0 acc).map fun add => ⟨none, [], acc.length, add, v⟩
  | none => none

mutual
def merge (b : Bool) : AV → AV → Option AV
  | .bool x, .bool y => some (.bool (bif b then x else y))
  | .int k x, .int k' y => if k = k' then some (.int k (bif b then x else y)) else none
  | .agg xs, .agg ys => (mergeL b xs ys).map .agg
  | .tup xs, .tup ys => (mergeL b xs ys).map .tup
  | .sl x, .sl y => if x = y then some (.sl x) else none
  | _, _ => none
def mergeL (b : Bool) : List AV → List AV → Option (List AV)
  | [], [] => some []
  | x :: xs, y :: ys => match merge b x y, mergeL b xs ys with
    | some z, some zs => some (z :: zs)
    | _, _ => none
  | _, _ => none
end
def mergeB (b : Bool) : Body → Body → Option Body
  | .nil, .nil => some .nil
  | .nil, .row e ks l => some (.row e ks (bif b then [] else l))
  | .row e ks l, .nil => some (.row e ks (bif b then l else []))
  | .row e ks l, .row e' ks' l' => if e = e' ∧ ks = ks' then some (.row e ks (bif b then l else l')) else none
  | _, _ => none
def mergeO (b : Bool) : List Obj → List Obj → Option (List Obj)
  | [], [] => some []
  | ⟨k, v, true, x⟩ :: xs, ⟨k', _, true, y⟩ :: ys => if k = k' then (match mergeB b x y, mergeO b xs ys with
    | some z, some zs => some (⟨k, v, true, z⟩ :: zs)
    | _, _ => none) else none
  | _, _ => none
def mergeP (b : Bool) : Option Prop → Option Prop → Option Prop
  | none, none => none
  | some p, none => some (b = true → p)
  | none, some q => some (b = false → q)
  | some p, some q => some ((b = true → p) ∧ (b = false → q))
def mergeE (b : Bool) (x y : Eff) : Option Eff :=
  match merge b x.v.weak y.v.weak, mergeO b x.add y.add with
  | some v, some add => if x.rm.isEmpty && y.rm.isEmpty && Nat.beq x.nk y.nk then some ⟨mergeP b x.p y.p, [], x.nk, add, v⟩ else none
  | _, _ => none
def andP (p : Prop) : Option Prop → Option Prop
  | none => some p
  | some q => some (p ∧ q)
/-- The same outcome, if .. -/
def sameB : Body → Body → Option Prop
  | .nil, .nil => some True
  | .nil, .row _ _ l => some (l = [])
  | .row e ks l, .row e' ks' l' => if e = e' ∧ ks = ks' then some (l = l') else none
  | _, _ => none
def sameO : List Obj → List Obj → Option Prop
  | [], [] => some True
  | ⟨k, _, true, x⟩ :: xs, ⟨k', _, true, y⟩ :: ys => if k = k' then (match sameB x y, sameO xs ys with
    | some p, some q => some (p ∧ q)
    | _, _ => none) else none
  | _, _ => none
def sameV : AV → AV → Bool
  | .sl a, .sl b => Nat.beq a b
  | _, _ => false
def askE (p : Prop) (x y : Eff) : Option Eff :=
  match sameO x.add y.add with
  | some q => if sameV x.v y.v && Nat.beq x.nk y.nk then some { y with p := andP (p → holdsO x.p ∧ q) y.p } else none
  | none => none
/-- It panics, whatever the way (a panic stands as .ask False .bad .bad). -/
def dead {α : Type} : Tree α → Bool
  | .bad => false
  | .br _ t e => dead t && dead e
  | .need _ t => dead t
  | .ask _ .bad .bad => true
  | .ask _ t e => dead t && dead e
  | .ret _ => false
/-- A tree of results as one result. -/
def collapse (P : Program) (K : Nat) : Tree (AV × Heap) → Option Eff
  | .ret y => pack P K y
  | .br b t e => match collapse P K t, collapse P K e with
    | some x, some y => mergeE b x y
    | some x, none => if dead e then some { x with p := andP (b = true) x.p } else none
    | none, some y => if dead t then some { y with p := andP (b = false) y.p } else none
    | none, none => none
  | .need p t => (collapse P K t).map fun x => { x with p := andP p x.p }
  | .ask p t e => match collapse P K t, collapse P K e with
    | some x, some y => askE p x y
    | _, _ => none
  | .bad => none

/-! ### calls by contract -/
/-- The types of the cells of type t. -/
def cellTypes (P : Program) : Nat → TypeId → List TypeId
  | 0, t => [t]
  | n + 1, t => match P.underlying t with
    | some (.struct fs) => fs.toList.flatMap fun f => cellTypes P n f.type
    | some (.array m e) => (List.replicate m (cellTypes P n e)).flatten
    | _ => [t]
structure Entry where
  key : Option Nat
  own : Bool
  body : Body
def findEntry (k : Nat) : List Entry → Nat → Option Nat
  | [], _ => none
  | x :: r, i => match x.key with
    | some k' => if Nat.beq k k' then some i else findEntry k r (i + 1)
    | none => findEntry k r (i + 1)
/-- A nil slice of type t as an empty row. -/
def nilBody (P : Program) (t : Option TypeId) : Body :=
  match t.bind P.underlying with
  | some (.slice e) => match kinds P 9 e with
    | some (k :: ks) => .row e (k :: ks) []
    | _ => .nil
  | _ => .nil
def canK (P : Program) (objs : List Obj) (t : Option TypeId) (k : Nat) (acc : List Entry) : Option (Nat × List Entry) :=
  match findEntry k acc 0 with
  | some i => some (i, acc)
  | none => match findObj k objs with
    | some o => some (acc.length, acc ++ [⟨some k, o.own, match o.body with | .nil => nilBody P t | b => b⟩])
    | none => none
mutual
def canV (P : Program) (objs : List Obj) (ts : Option TypeId) : AV → List Entry → Option (AV × List Entry)
  | .sl k, acc => match canK P objs ts k acc with | some (i, acc') => some (.sl i, acc') | none => none
  | .ptr k off, acc => match canK P objs none k acc with | some (i, acc') => some (.ptr i off, acc') | none => none
  | .val (.slice none 0 0), acc => match ts.bind P.underlying with
    | some (.slice _) => some (.sl acc.length, acc ++ [⟨none, true, nilBody P ts⟩])
    | _ => some (.val (.slice none 0 0), acc)
  | .fn f first caps, acc => match canL P objs [] first acc with
    | some (first', acc') => match canL P objs [] caps acc' with
      | some (caps', acc'') => some (.fn f first' caps', acc'')
      | none => none
    | none => none
  | .agg cs, acc => match canL P objs (match ts with | some t => cellTypes P 9 t | none => []) cs acc with
    | some (cs', acc') => some (.agg cs', acc')
    | none => none
  | .tup cs, acc => match canL P objs [] cs acc with
    | some (cs', acc') => some (.tup cs', acc')
    | none => none
  | .yl _, _ => none
  | .ix _ _ _ _ _, _ => none
  | .vw _ _ _ _, _ => none
  | v, acc => some (v, acc)
def canL (P : Program) (objs : List Obj) : List TypeId → List AV → List Entry → Option (List AV × List Entry)
  | _, [], acc => some ([], acc)
  | ts, a :: r, acc => match canV P objs ts.head? a acc with
    | some (a', acc') => match canL P objs ts.tail r acc' with
      | some (r', acc'') => some (a' :: r', acc'')
      | none => none
    | none => none
end
def flatBody : Body → Bool
  | .row _ _ _ => true
  | .nil => true
  | _ => false
/-- The objects handed to a contract: rows of plain data alone. -/
def canObjs : Nat → List Entry → Option (List Obj)
  | _, [] => some []
  | i, x :: r => match x.body with
    | .loop .. => none
    | b => (canObjs (i + 1) r).map (⟨i, 0, x.own, b⟩ :: ·)
def canRows (P : Program) : List Entry → Option (List Entry)
  | [] => some []
  | x :: r => match x.body with
    | .row _ _ _ | .nil => (canRows P r).map (x :: ·)
    | .arr e sz els => match rowOf P (.arr e sz els) with
      | some (e, ks, l) => (canRows P r).map ({ x with body := .row e ks l } :: ·)
      | none => none
    | _ => none

abbrev CallFn := FuncId → List AV → Heap → Tree (AV × Heap)
/-- Contracts: of a function, its arguments and the rows that they name (the i-th under the key i). -/
abbrev Con := FuncId → List AV → List Obj → Option Eff

def Body.ren (f : Nat → Nat) : Body → Body
  | .cells cs => .cells (AV.renL f cs)
  | .arr e sz els => .arr e sz (els.map (AV.renL f))
  | b => b
/-- The key that stands for a contract's key. -/
def conKey (K : Nat) (es : List Entry) (i : Nat) : Nat :=
  match es[i]? with
  | some ⟨some k, _, _⟩ => k
  | some ⟨none, _, _⟩ => 0
  | none => K + (i - es.length)
/-- A contract's outcome under the caller's keys. Its new objects are own rows; what it turns must be the caller's own. -/
def conEff (K : Nat) (es : List Entry) (x : Eff) : Option Eff :=
  if x.rm.isEmpty && x.add.all (fun o => Nat.ble es.length o.key && flatBody o.body) && (AV.keys x.v).all (fun i => match es[i]? with | some ⟨none, _, _⟩ => false | _ => true) then
    some ⟨x.p, [], x.nk, x.add.map fun o => ⟨conKey K es o.key, K, o.own, o.body⟩, x.v.ren (conKey K es)⟩
  else none

section exec
variable (P : Program) (Γ : Con) (call : CallFn) (yld : Nat → List AV → Heap → Tree (AV × Heap))

def paramsOf (f : FuncId) : List TypeId := match P.funcs[f]? with | some fn => fn.params.toList | none => []
/-- There is a contract for just these values, nil among them. -/
def nilMode (f : FuncId) (args : List AV) : Bool :=
  args.any (fun a => match a with | .val (.slice none 0 0) => true | _ => false) && (AV.keysL args).isEmpty && (Γ f (AV.weakL args) []).isSome
/-- A call by contract: the keys that it reads, what it does. -/
def callK (f : FuncId) (args : List AV) (objs : List Obj) (K : Nat) : Option (List Nat × Eff) :=
  match canL P objs (match nilMode Γ f args with | true => [] | false => paramsOf P f) args [] with
  | some (args', es0) => match canRows P es0 with
    | some es => match canObjs 0 es with
      | some objs' => match Γ f (AV.weakL args') objs' with
        | some x => match conEff K es x with
          | some y => some (es.filterMap (·.key), y)
          | none => none
        | none => none
      | none => none
    | none => none
  | none => none
/-- Parts of rows among the arguments as rows of their own, under the keys from K on. -/
def viewsA (objs : List Obj) : Nat → List AV → Option (List AV × List Obj × List Nat × Option Prop)
  | _, [] => some ([], [], [], none)
  | K, a :: r => match isVw a with
    | true => match srcA P objs a, viewsA objs (K + 1) r with
      | some (k, b, p), some (r', add, ft, q) => some (.sl K :: r', ⟨K, 0, false, b⟩ :: add, k :: ft, conjP p q)
      | _, _ => none
    | false => match viewsA objs K r with
      | some (r', add, ft, q) => some (a :: r', add, ft, q)
      | none => none
/-- The same, parts of rows among the arguments. -/
def callC (f : FuncId) (args : List AV) (objs : List Obj) (K : Nat) : Option (List Nat × Eff) :=
  match args.any isVw with
  | false => callK P Γ f args objs K
  | true => match viewsA P objs K args with
    | some (args', add, ft, p) => match callK P Γ f args' (add ++ objs.filter fun o => Nat.blt o.key K) (K + add.length) with
      | some (ft', x) => some (ft ++ ft'.filter fun k => Nat.blt k K, { x with p := conjP p x.p, nk := match Nat.beq x.nk 0 && x.add.isEmpty && (AV.keys x.v).all (fun k => Nat.blt k K) with | true => 0 | false => add.length + x.nk })
      | none => none
    | none => none
def frozen (l : List Obj) : List Obj := l.map fun o => { o with own := false }
def anyLeaf {α : Type} (p : α → Bool) : Tree α → Bool
  | .ret a => p a
  | .br _ t e => anyLeaf p t || anyLeaf p e
  | .need _ t => anyLeaf p t
  | .ask _ t e => anyLeaf p t || anyLeaf p e
  | .bad => false
/-- Own rows among the arguments. -/
def ownArgs (args : List AV) (objs : List Obj) : List Obj := objs.filter fun o => o.own && (AV.keysL args).any (Nat.beq o.key)
/-- A call turns one of the own rows that it is given. -/
def turnsT (own : List Obj) (t : Tree (AV × Heap)) : Bool := anyLeaf (fun x => own.any fun o => !(x.2.objs.any fun o' => Nat.beq o'.key o.key && Nat.beq o'.ver o.ver)) t
/-- A call as one result: by contract, or in place where all ways can be laid into one and nothing old is turned. -/
def callE (f : FuncId) (args : List AV) (objs : List Obj) (K : Nat) : Option Eff :=
  match callC P Γ f args objs K with
  | some (_, x) => some x
  | none => match !(ownArgs args objs).isEmpty && turnsT (ownArgs args objs) (call f args ⟨objs, K⟩) with
    | true => none
    | false => collapse P K (call f args ⟨frozen objs, K⟩)

def isYl : AV → Bool
  | .yl _ => true
  | _ => false
/-- What is handed a loop's yield is walked in place. -/
def callY (f : FuncId) (args : List AV) (objs : List Obj) (K : Nat) : Option Eff := match args.any isYl with | true => none | false => callE P Γ call f args objs K

/-- A call by the contract of a function that turns an own row, its first argument, in place. -/
def callR (f : FuncId) (args : List AV) (objs : List Obj) (K : Nat) : Option Eff :=
  match args with
  | .sl key :: rest => match AV.keysL rest with
    | [] => match findObj key objs with
      | some ⟨_, _, true, b⟩ => match rowOf P b with
        | some (e, ks, l) => match Γ f (.sl 0 :: AV.weakL rest) [⟨0, 0, true, .row e ks l⟩] with
          | some x => match x.rm, x.add with
            | [_], [⟨_, _, _, .row e' ks' l'⟩] => some ⟨x.p, [key], 0, [⟨key, K, true, .row e' ks' l'⟩], x.v.ren fun _ => key⟩
            | _, _ => none
          | none => none
        | none => none
      | _ => none
    | _ => none
  | _ => none
def isNilC : Option AV → Bool
  | some (.val (.slice none 0 0)) => true
  | _ => false
/-- Is a row nil? If so it has no elements. -/
def nilAsk (rd : Operand → Option AV) (objs : List Obj) (op : BinOp) (t : TypeId) (x y : Operand) : Option (Prop × Bool) :=
  match (match op with | .eql => some true | .neq => some false | _ => none), P.underlying t with
  | some b, some (.slice _) => if isNilC (rd y) then (match rd x with
    | some (.sl key) => match findObj key objs with
      | some o => match rowOf P o.body with
        | some (_, _ :: _, l) => some (l = [], b)
        | _ => none
      | none => none
    | _ => none) else none
  | _, _ => none
def stepO (o : Oper) (s : Slots) (H : Heap) (ctx : Ctx) : Tree RCfg :=
  let rd := readS ctx s
  match o.op with
  | .pick c a b => match pickA ctx s c a b with
    | some v => .ret (put s o.dst (slotOf ctx v), H)
    | none => .bad
  | .call { callee := .value f, args, .. } => match rd f, readL rd args.toList with
    | some (.fn (.func fi) first caps), some vs =>
      match callR P Γ fi (first ++ vs ++ caps) H.objs H.next with
      | some x => applyE s H o.dst ctx x
      | none => match callY P Γ call fi (first ++ vs ++ caps) H.objs H.next with
      | some x => applyE s H o.dst ctx x
      | none => match ctx with
        | [] => (call fi (first ++ vs ++ caps) H).bind fun (v, H') => .ret (put s o.dst (.is v), H')
        | c :: r => brG (c :: r).reverse s (fun s => (call fi (first ++ vs ++ caps) H).bind fun (v, H') => .ret (put s o.dst (.is v), H')) (fun s => .ret (put s o.dst (.is (.val undef)), H))
    | some (.yl key), some vs =>
      match ctx with
      | [] => (yld key vs H).bind fun (v, H') => .ret (put s o.dst (.is v), H')
      | c :: r => brG (c :: r).reverse s (fun s => (yld key vs H).bind fun (v, H') => .ret (put s o.dst (.is v), H')) (fun s => .ret (put s o.dst (.is (.val undef)), H))
    | _, _ => .bad
  | op => match absOp P rd H.objs H.next op with
    | some x => applyE s H o.dst ctx x
    | none => match op with
      | .binOp bo t x y _ => match nilAsk P rd H.objs bo t x y with
        | some (p, v) => .ask p (.ret (put s o.dst (slotOf ctx (.val (.bool v))), H)) (.ret (put s o.dst (slotOf ctx (.val (.bool !v))), H))
        | none => .bad
      | _ => .bad

/-- The slots written so far in a region, with one more; none if it was written before or is not there. -/
def seenAdd (N : Nat) (d : Option Nat) (seen : List Nat) : Option (List Nat) :=
  match d with
  | none => some seen
  | some d => if Nat.blt d N && !(seen.any (Nat.beq d)) then some (d :: seen) else none

def execOps (N : Nat) (ops : Array Oper) : List Oper → List Nat → Slots → Heap → Tree RCfg
  | [], _, s, H => .ret (s, H)
  | o :: rest, seen, s, H =>
    match seenAdd N o.dst seen with
    | none => .bad
    | some seen' =>
      match guardOf ops o with
      | some none => (stepO P Γ call yld o s H []).bind fun (s', H') => execOps N ops rest seen' s' H'
      | some (some (g, want)) =>
        if seen.any (Nat.beq g) then
          match guardKnown s g want with
          | some true => (stepO P Γ call yld o s H []).bind fun (s', H') => execOps N ops rest seen' s' H'
          | some false => execOps N ops rest seen' (put s o.dst (.is (.val undef))) H
          | none => match guardChain s 9 g want with
            | some ctx => (stepO P Γ call yld o s H ctx).bind fun (s', H') => execOps N ops rest seen' s' H'
            | none => .bad
        else .bad
      | none => .bad

/-! ### regions that draw their order -/
structure Item where
  o : Oper
  ctx : Ctx
  x : Eff
  key : Nat
  /-- it reads whatever was there when the region began -/
  all : Bool
  /-- it reads these objects -/
  foot : List Nat
  /-- its guard surely holds -/
  sure : Bool := false

def Item.slot (it : Item) : Slot := if it.x.pure then slotOf it.ctx it.x.v else .is it.x.v
def Item.touch (it : Item) (key : Nat) : Bool := it.x.rm.any (Nat.beq key) || (Nat.ble it.key key && Nat.blt key (it.key + it.x.nk))
/-- what must hold for it -/
def Item.need (it : Item) : Option Prop := it.x.p.map (condsP it.ctx)
def notLoop : Body → Bool
  | .loop .. => false
  | _ => true
/-- Its form: what it turns was there or is its own; it names nothing that comes later. -/
def Item.fine (it : Item) : Bool :=
  (it.x.pure || it.ctx.isEmpty || it.sure) && it.x.rm.all (fun k => Nat.blt k it.key) &&
  it.x.add.all (fun o => it.touch o.key && Nat.ble it.key o.ver && notLoop o.body && (AV.keysL o.body.cellsOf).all fun k => Nat.blt k (it.key + it.x.nk)) &&
  (AV.keys it.x.v).all (fun k => Nat.blt k (it.key + it.x.nk))

def keyOf : Option AV → List Nat
  | some (.ptr key _) => [key]
  | some (.ix key _ _ _ _) => [key]
  | some (.sl key) => [key]
  | some (.vw key _ _ _) => [key]
  | _ => []
def footOf (rd : Operand → Option AV) : Op → List Nat
  | .load _ x => keyOf (rd x)
  | .store _ x _ => keyOf (rd x)
  | .indexAddr _ x _ => keyOf (rd x)
  | .fieldAddr _ x _ => keyOf (rd x)
  | .slice _ x _ _ _ => keyOf (rd x)
  | .lookup _ x _ _ => keyOf (rd x)
  | .mapUpdate _ x _ _ => keyOf (rd x)
  | .call { args, .. } => args.toList.flatMap fun x => keyOf (rd x)
  | _ => []

def stepD (o : Oper) (s : Slots) (objs0 : List Obj) (H : Heap) (ctx : Ctx) : Option Item :=
  let rd := readS ctx s
  match o.op with
  | .pick c a b => match pickA ctx s c a b with
    | some v => some ⟨o, ctx, ⟨none, [], 0, [], v⟩, H.next, false, [], false⟩
    | none => none
  | .call { callee := .value f, args, .. } => match rd f, readL rd args.toList with
    | some (.fn (.func fi) first caps), some vs =>
      match callC P Γ fi (first ++ vs ++ caps) H.objs H.next with
      | some (ft, x) => some ⟨o, ctx, x, H.next, false, ft, false⟩
      | none => match collapse P H.next (call fi (first ++ vs ++ caps) ⟨frozen objs0, H.next⟩) with
        | some x => some ⟨o, ctx, x, H.next, true, [], false⟩
        | none => none
    | _, _ => none
  | op => match absOp P rd H.objs H.next op with
    | some x => some ⟨o, ctx, x, H.next, false, footOf rd op, false⟩
    | none => none

def ctxOf (ops : Array Oper) (o : Oper) (s : Slots) (seen : List Nat) : Option Ctx :=
  match guardOf ops o with
  | some none => some []
  | some (some (g, want)) => if seen.any (Nat.beq g) then guardChain s 9 g want else none
  | none => none

/-- A guard whose value is taken as known. -/
def assume (as : List (Nat × Bool)) (it : Item) : Item :=
  match it.o.dst with
  | some d => match as.find? (fun y => Nat.beq y.1 d) with
    | some (_, v) => (match it.x.v with
      | .bool b => { it with x := { it.x with p := conjP it.x.p (some (b = v)), v := .val (.bool v) } }
      | _ => it)
    | none => it
  | none => it
/-- Is the operation's guard known? -/
def knownG (ops : Array Oper) (o : Oper) (s : Slots) : Option Bool :=
  match guardOf ops o with
  | some (some (g, want)) => guardKnown s g want
  | _ => none
/-- What an operation comes to, its guards looked at. -/
def stepK (as : List (Nat × Bool)) (ops : Array Oper) (o : Oper) (s : Slots) (objs0 : List Obj) (H : Heap) (ctx : Ctx) : Option Item :=
  match knownG ops o s with
  | some false => some ⟨o, ctx, ⟨none, [], 0, [], .val undef⟩, H.next, false, [], false⟩
  | some true => (stepD P Γ call o s objs0 H ctx).map fun it => { assume as it with sure := true }
  | none => (stepD P Γ call o s objs0 H ctx).map fun it => { assume as it with sure := false }
def runD (as : List (Nat × Bool)) (N : Nat) (ops : Array Oper) (objs0 : List Obj) : List Oper → List Nat → Slots → Heap → Option (List Item)
  | [], _, _, _ => some []
  | o :: rest, seen, s, H =>
    match seenAdd N o.dst seen, ctxOf ops o s seen with
    | some seen', some ctx => match stepK P Γ call as ops o s objs0 H ctx with
      | some it => if it.fine then (match runD as N ops objs0 rest seen' (put s o.dst it.slot) (H.eff it.x) with | some l => some (it :: l) | none => none) else none
      | none => none
    | _, _ => none
/-- The first guard that has to be known. -/
def firstG (as : List (Nat × Bool)) (N : Nat) (ops : Array Oper) (objs0 : List Obj) : List Oper → List Nat → Slots → Heap → Option (Nat × Bool)
  | [], _, _, _ => none
  | o :: rest, seen, s, H =>
    match seenAdd N o.dst seen, ctxOf ops o s seen with
    | some seen', some ctx => match stepK P Γ call as ops o s objs0 H ctx with
      | some it => if it.fine then firstG as N ops objs0 rest seen' (put s o.dst it.slot) (H.eff it.x) else match ctx.getLast? with
        | some (g, _, b) => if as.any (fun y => Nat.beq y.1 g) then none else some (g, b)
        | none => none
      | none => none
    | _, _ => none

/-- The slots that an operation looks at. -/
def looks (it : Item) : List Nat :=
  (it.o.op.operands.toList.filterMap fun | .tmp t => some t | _ => none) ++ it.ctx.map (·.1)
/-- i waits for m, by way of the edges: the masks of what each waits for -/
def masksGo : List Oper → List Nat → List Nat
  | [], acc => acc
  | o :: r, acc => CheckFast.force (CheckFast.one (fun i => acc.getD i 0) o) fun v => masksGo r (acc ++ [v])
def ordered (M : List Nat) (j m : Nat) : Bool := if Nat.blt m j then (M.getD j 0).testBit m else (M.getD m 0).testBit j
/-- It names a key from lo on below hi. -/
def Item.names (it : Item) (lo hi : Nat) : Bool :=
  ((AV.keys it.x.v) ++ it.x.add.flatMap fun o => o.key :: AV.keysL o.body.cellsOf).any fun k => Nat.ble lo k && Nat.blt k hi
def meets (l : List Nat) (y : Item) : Bool := l.any y.touch
def pairOk (M : List Nat) (next0 : Nat) (j : Nat) (x : Item) (m : Nat) (y : Item) : Bool :=
  Nat.beq j m || ordered M j m ||
  ((match y.o.dst with | some d => !((looks x).any (Nat.beq d)) | none => true) &&
   !(meets x.foot y) &&
   (!x.all || y.x.rm.all (Nat.ble next0)) &&
   !(x.x.rm.any y.touch) &&
   (Nat.beq x.x.nk 0 || !(y.names x.key (x.key + x.x.nk))))
/-- an item that reads all waits for no item behind it -/
def allOk (M : List Nat) (next0 : Nat) (j : Nat) (x : Item) (m : Nat) (y : Item) : Bool :=
  !x.all || y.x.rm.all (Nat.ble next0) || Nat.blt j m
def orderOk (next0 : Nat) (ops : Array Oper) (L : List Item) : Bool :=
  let M := masksGo ops.toList []
  (ops.toList.zipIdx.all fun (o, i) => o.after.all fun e => !Region.binds .any e || Nat.blt e.on i) &&
  L.zipIdx.all fun (x, j) => L.zipIdx.all fun (y, m) => pairOk M next0 j x m y && allOk M next0 j x m y

def slotsS (S : Nat → Bool) : Nat → List Item → Slots → Slots
  | _, [], s => s
  | i, it :: r, s => slotsS S (i + 1) r (if S i then put s it.o.dst it.slot else s)
def objsS (S : Nat → Bool) : Nat → List Item → List Obj → List Obj
  | _, [], l => l
  | i, it :: r, l => objsS S (i + 1) r (if S i then effObjs it.x l else l)
def nextS : List Item → Nat → Nat
  | [], n => n
  | it :: r, n => nextS r (n + it.x.nk)
def needs {α : Type} : List Item → Tree α → Tree α
  | [], t => t
  | it :: r, t => match it.need with | some p => .need p (needs r t) | none => needs r t

def drawBr (N : Nat) (ops : Array Oper) (s : Slots) (H : Heap) : Nat → List (Nat × Bool) → Tree RCfg
  | 0, _ => .bad
  | n + 1, as => match runD P Γ call as N ops H.objs ops.toList [] s H with
    | some L => if P.follows .mixedOrders && orderOk H.next ops L then needs L (.ret (slotsS (fun _ => true) 0 L s, ⟨objsS (fun _ => true) 0 L H.objs, nextS L H.next⟩)) else .bad
    | none => match firstG P Γ call as N ops H.objs ops.toList [] s H with
      | some (g, b) => .br b (drawBr N ops s H n ((g, true) :: as)) (drawBr N ops s H n ((g, false) :: as))
      | none => .bad
def drawRegion (N : Nat) (ops : Array Oper) (s : Slots) (H : Heap) : Tree RCfg := drawBr P Γ call N ops s H 6 []

structure Cfg where
  tmps : Nat → Option AV
  heap : Heap

def toSlots (f : Nat → Option AV) : Slots := fun t => match f t with | some v => .is v | none => .junk
def ofSlots (s : Slots) : Nat → Option AV := fun t => match s t with | .is v => some v | _ => none

inductive AExit where
  | normal
  | exit (id : Nat)
  | ret
end exec

/-! ### loops whose rounds are not known -/
/-- A leaf that a loop carries. -/
inductive U where
  | i (n : Int)
  | b (b : Bool)
  | r (l : List (List Int))
  deriving Inhabited
def gi (xs : List U) (j : Nat) : Int := match xs[j]? with | some (.i n) => n | _ => 0
def gb (xs : List U) (j : Nat) : Bool := match xs[j]? with | some (.b b) => b | _ => false
def gr (xs : List U) (j : Nat) : List (List Int) := match xs[j]? with | some (.r l) => l | _ => []

/-- Rounds of a step: 0 goes on. -/
def iterO (step : List U → Option (Nat × List U)) : Nat → List U → Option (Nat × List U)
  | 0, _ => none
  | n + 1, xs => match step xs with
    | some (0, ys) => iterO step n ys
    | some (m + 1, ys) => some (m + 1, ys)
    | none => none
def loopOk (step : List U → Option (Nat × List U)) (xs : List U) : Prop := ∃ n r, iterO step n xs = some r
noncomputable def loopGet (step : List U → Option (Nat × List U)) (xs : List U) : Nat × List U := by
  classical exact if h : loopOk step xs then h.choose_spec.choose else (0, [])

/-- What a loop carries: slots and objects by their shape; rows under new names from base on; the keys that go. -/
structure Spec where
  slots : List (Nat × AV)
  objs : List Obj
  rows : List (TypeId × List CK)
  base : Nat
  drop : List Nat

mutual
/-- A shape filled with leaves from the j-th on. -/
def fillV (xs : List U) : AV → Nat → AV × Nat
  | .bool _, j => (.bool (gb xs j), j + 1)
  | .int k _, j => (.int k (gi xs j), j + 1)
  | .fn f a b, j => match fillL xs a j with | (a', j1) => match fillL xs b j1 with | (b', j2) => (.fn f a' b', j2)
  | .agg cs, j => match fillL xs cs j with | (cs', j1) => (.agg cs', j1)
  | .tup cs, j => match fillL xs cs j with | (cs', j1) => (.tup cs', j1)
  | v, j => (v, j)
def fillL (xs : List U) : List AV → Nat → List AV × Nat
  | [], j => ([], j)
  | a :: r, j => match fillV xs a j with | (a', j1) => match fillL xs r j1 with | (r', j2) => (a' :: r', j2)
end
def fillLL (xs : List U) : List (List AV) → Nat → List (List AV) × Nat
  | [], j => ([], j)
  | a :: r, j => match fillL xs a j with | (a', j1) => match fillLL xs r j1 with | (r', j2) => (a' :: r', j2)
def fillB (xs : List U) : Body → Nat → Body × Nat
  | .cells cs, j => match fillL xs cs j with | (cs', j1) => (.cells cs', j1)
  | .row e ks _, j => (.row e ks (gr xs j), j + 1)
  | .mp kt et q m ke _, j => (.mp kt et q m ke (gr xs j), j + 1)
  | .arr e sz els, j => match fillLL xs els j with | (els', j1) => (.arr e sz els', j1)
  | b, j => (b, j)
def fillSlots (xs : List U) : List (Nat × AV) → Nat → List (Nat × AV) × Nat
  | [], j => ([], j)
  | (t, v) :: r, j => match fillV xs v j with | (v', j1) => match fillSlots xs r j1 with | (r', j2) => ((t, v') :: r', j2)
def fillObjs (ver : Nat) (xs : List U) : List Obj → Nat → List Obj × Nat
  | [], j => ([], j)
  | o :: r, j => match fillB xs o.body j with | (b, j1) => match fillObjs ver xs r j1 with | (r', j2) => (⟨o.key, ver, o.own, b⟩ :: r', j2)
def fillRows (ver : Nat) (xs : List U) : Nat → List (TypeId × List CK) → Nat → List Obj
  | _, [], _ => []
  | k, (e, ks) :: r, j => ⟨k, ver, true, .row e ks (gr xs j)⟩ :: fillRows ver xs (k + 1) r (j + 1)
def lookupT (t : Nat) : List (Nat × AV) → Option AV
  | [] => none
  | (t', v) :: r => if Nat.beq t t' then some v else lookupT t r
def hasKey (k : Nat) : List Obj → Bool
  | [] => false
  | o :: r => Nat.beq o.key k || hasKey k r
/-- The objects that a loop leaves alone. -/
def Spec.still (S : Spec) (l : List Obj) : List Obj := l.filter fun o => !(hasKey o.key S.objs) && !(S.drop.any (Nat.beq o.key))
/-- A state of some shape: its leaves; the objects beside it; the slots that are not kept; the other slots. -/
def Spec.gen (S : Spec) (st : List Obj) (wr : List Nat) (tm : Nat → Option AV) (xs : List U) : Cfg :=
  match fillSlots xs S.slots 0 with
  | (sl, j1) => match fillObjs S.base xs S.objs j1 with
    | (ob, j2) => ⟨fun t => match lookupT t sl with | some v => some v | none => if wr.any (Nat.beq t) then none else tm t,
        ⟨ob ++ fillRows S.base xs S.base S.rows j2 ++ st, S.base + S.rows.length + 1⟩⟩

/-- Names of a loop's rows, and the leaves read so far, the last first. -/
structure MS where
  km : List (Nat × Option Nat)
  us : List U
def lookK (k : Nat) : List (Nat × Option Nat) → Option (Option Nat)
  | [] => none
  | (k', v) :: r => if Nat.beq k k' then some v else lookK k r
def addK (k : Nat) (v : Option Nat) (m : MS) : Option MS :=
  match lookK k m.km with
  | none => some { m with km := (k, v) :: m.km }
  | some u => if u = v then some m else none
/-- Two constants that are surely the same. -/
def sameC : Value → Value → Bool
  | .bool a, .bool b => a == b
  | .int k a, .int k' b => if k = k' then decide (a = b) else false
  | .pointer none, .pointer none => true
  | .slice none 0 0, .slice none 0 0 => true
  | .map none, .map none => true
  | .nilFunc, .nilFunc => true
  | .nilIface, .nilIface => true
  | _, _ => false
mutual
/-- The leaves of a value of some shape. -/
def matchV (base : Nat) : AV → AV → MS → Option MS
  | .bool _, v, m => match v.weak with | .bool b => some { m with us := .b b :: m.us } | _ => none
  | .int k _, v, m => match v.weak with | .int k' n => if k = k' then some { m with us := .i n :: m.us } else none | _ => none
  | .val c, .val c', m => if sameC c c' then some m else none
  | .ptr k off, .ptr k' off', m => if k = k' ∧ off = off' ∧ k < base then some m else none
  | .yl k, .yl k', m => if k = k' ∧ k < base then some m else none
  | .sl k, .sl k', m => if Nat.blt k base then (if k = k' then some m else none) else addK k (some k') m
  | .sl k, .val (.slice none 0 0), m => if Nat.blt k base then none else addK k none m
  | .fn f a b, .fn f' a' b', m => if f = f' then (match matchL base a a' m with | some m' => matchL base b b' m' | none => none) else none
  | .agg cs, .agg cs', m => matchL base cs cs' m
  | .tup cs, .tup cs', m => matchL base cs cs' m
  | _, _, _ => none
def matchL (base : Nat) : List AV → List AV → MS → Option MS
  | [], [], m => some m
  | a :: r, a' :: r', m => match matchV base a a' m with | some m' => matchL base r r' m' | none => none
  | _, _, _ => none
end
def matchLL (base : Nat) : List (List AV) → List (List AV) → MS → Option MS
  | [], [], m => some m
  | a :: r, a' :: r', m => match matchL base a a' m with | some m' => matchLL base r r' m' | none => none
  | _, _, _ => none
/-- Two jumps that are surely the same. -/
def samePend : Option Code → Option Code → Bool
  | none, none => true
  | some .ret, some .ret => true
  | some (.exit a), some (.exit b) => Nat.beq a b
  | _, _ => false
def matchB (P : Program) (base : Nat) : Body → Body → MS → Option MS
  | .cells cs, .cells cs', m => matchL base cs cs' m
  | .row e ks _, b, m => match b with
    | .nil => some { m with us := .r [] :: m.us }
    | b => match rowOf P b with
      | some (e', ks', l) => if e = e' ∧ ks = ks' then some { m with us := .r l :: m.us } else none
      | none => none
  | .arr e sz els, .arr e' sz' els', m => if e = e' ∧ sz = sz' then matchLL base els els' m else none
  | .nil, .nil, m => some m
  | .mp kt et q n ke _, .mp kt' et' q' n' ke' l, m => if kt = kt' ∧ et = et' ∧ q = q' ∧ n = n' ∧ ke = ke' then some { m with us := .r l :: m.us } else none
  | .fin st pend, .fin st' pend', m => if Nat.beq st st' && samePend pend pend' then some m else none
  | _, _, _ => none
def matchSlots (base : Nat) (tmps : Nat → Option AV) : List (Nat × AV) → MS → Option MS
  | [], m => some m
  | (t, s) :: r, m => match tmps t with
    | some v => match matchV base s v m with | some m' => matchSlots base tmps r m' | none => none
    | none => none
def matchObjs (P : Program) (base : Nat) (objs : List Obj) : List Obj → MS → Option MS
  | [], m => some m
  | o :: r, m => match findObj o.key objs with
    | some o' => if o.own = o'.own ∨ o.own = false then (match matchB P base o.body o'.body m with | some m' => matchObjs P base objs r m' | none => none) else none
    | none => none
def matchRows (P : Program) (objs : List Obj) : Nat → List (TypeId × List CK) → MS → Option MS
  | _, [], m => some m
  | k, (e, ks) :: r, m => match lookK k m.km with
    | some (some k') => match findObj k' objs with
      | some ⟨_, _, true, b⟩ => match matchB P 0 (.row e ks []) b m with | some m' => matchRows P objs (k + 1) r m' | none => none
      | _ => none
    | _ => matchRows P objs (k + 1) r { m with us := .r [] :: m.us }
def distinctN : List Nat → Bool
  | [] => true
  | a :: r => !(r.any (Nat.beq a)) && distinctN r
def stillOk (objs : List Obj) (ver : Nat) : List Obj → Bool
  | [] => true
  | o :: r => (match findObj o.key objs with | some o' => Nat.blt o'.ver ver | none => false) && stillOk objs ver r
/-- The leaves of a state of some shape, with some objects beside it that were not turned. -/
def Spec.match_ (P : Program) (S : Spec) (st : List Obj) (ver : Nat) (c : Cfg) : Option (List U) :=
  match matchSlots S.base c.tmps S.slots ⟨[], []⟩ with
  | some m1 => match matchObjs P S.base c.heap.objs S.objs m1 with
    | some m2 => match matchRows P c.heap.objs S.base S.rows m2 with
      | some m3 =>
        if distinctN (m2.km.filterMap (·.2)) && (m2.km.all fun x => Nat.blt x.1 (S.base + S.rows.length) && Nat.ble S.base x.1) && ((m2.km.filterMap (·.2)).all fun k => !(hasKey k S.objs) && !(hasKey k st)) &&
          distinctN (S.objs.map (·.key)) && (S.objs.all fun o => Nat.blt o.key S.base && !(hasKey o.key st)) && stillOk c.heap.objs ver st
        then some m3.us.reverse else none
      | none => none
    | none => none
  | none => none

def AExit.same : AExit → AExit → Bool
  | .normal, .normal => true
  | .ret, .ret => true
  | .exit a, .exit b => Nat.beq a b
  | _, _ => false

def leaves {α : Type} : Tree α → List α
  | .ret a => [a]
  | .br _ t e => leaves t ++ leaves e
  | .need _ t => leaves t
  | .ask _ t e => leaves t ++ leaves e
  | .bad => []

/-- The slots that code writes. -/
def writes : Code → List Nat
  | .region _ ops _ => ops.toList.filterMap (·.dst)
  | .seq a b => writes a ++ writes b
  | .cond _ a b => writes a ++ writes b
  | .block _ a => writes a
  | .loop a => writes a
  | .scope a => writes a
  | _ => []

/-- The keys that can be come to from some. -/
def reachK (objs : List Obj) : Nat → List Nat → List Nat → List Nat
  | 0, _, acc => acc
  | _ + 1, [], acc => acc
  | n + 1, k :: r, acc => if acc.any (Nat.beq k) then reachK objs n r acc else
    match findObj k objs with
    | some o => reachK objs n (AV.keysL o.body.cellsOf ++ r) (k :: acc)
    | none => reachK objs n r (k :: acc)
/-- Of the objects those that were there before, and those that can be come to. -/
def restrict (next : Nat) (roots : List Nat) (H : Heap) : Heap :=
  let old := H.objs.filter fun o => Nat.blt o.key next
  let ks := reachK H.objs 200 (roots ++ old.flatMap fun o => AV.keysL o.body.cellsOf) []
  { H with objs := H.objs.filter fun o => Nat.blt o.key next || ks.any (Nat.beq o.key) }

def dedupN : List Nat → List Nat → List Nat
  | [], acc => acc.reverse
  | a :: r, acc => if acc.any (Nat.beq a) then dedupN r acc else dedupN r (a :: acc)

/-! the search for a loop's shape (nothing is proved of it: what it finds is looked at by 'match_') -/
mutual
def joinV (P : Program) (base : Nat) (H0 H1 : List Obj) (rows : List (TypeId × List CK)) : AV → AV → Option (AV × List (TypeId × List CK))
  | .val c, .val c' => if sameC c c' then some (.val c, rows) else
    (match (AV.val c).weak, (AV.val c').weak with
    | .bool b, .bool _ => some (.bool b, rows)
    | .int k n, .int k' _ => if k = k' then some (.int k n, rows) else none
    | _, _ => none)
  | .val (.bool b), .bool _ => some (.bool b, rows)
  | .val (.int k n), .int _ _ => some (.int k n, rows)
  | .bool b, v => match v.weak with | .bool _ => some (.bool b, rows) | _ => none
  | .int k n, v => match v.weak with | .int k' _ => if k = k' then some (.int k n, rows) else none | _ => none
  | .ptr k off, .ptr k' off' => if k = k' ∧ off = off' then some (.ptr k off, rows) else none
  | .yl k, .yl k' => if k = k' then some (.yl k, rows) else none
  | .sl k, .sl k' => if Nat.ble base k then some (.sl k, rows) else if k = k' then some (.sl k, rows) else
    (match (findObj k' H1).bind fun o => rowOf P o.body with
    | some (e, ks, _) => some (.sl (base + rows.length), rows ++ [(e, ks)])
    | none => none)
  | .val (.slice none 0 0), .sl k' => (match (findObj k' H1).bind fun o => rowOf P o.body with
    | some (e, ks, _) => some (.sl (base + rows.length), rows ++ [(e, ks)])
    | none => none)
  | .sl k, .val (.slice none 0 0) => if Nat.ble base k then some (.sl k, rows) else
    (match (findObj k H0).bind fun o => rowOf P o.body with
    | some (e, ks, _) => some (.sl (base + rows.length), rows ++ [(e, ks)])
    | none => none)
  | .fn f a b, .fn f' a' b' => if f = f' then (match joinL P base H0 H1 rows a a' with
    | some (x, rows1) => match joinL P base H0 H1 rows1 b b' with
      | some (y, rows2) => some (.fn f x y, rows2)
      | none => none
    | none => none) else none
  | .agg cs, .agg cs' => (match joinL P base H0 H1 rows cs cs' with | some (x, r) => some (.agg x, r) | none => none)
  | .tup cs, .tup cs' => (match joinL P base H0 H1 rows cs cs' with | some (x, r) => some (.tup x, r) | none => none)
  | _, _ => none
def joinL (P : Program) (base : Nat) (H0 H1 : List Obj) (rows : List (TypeId × List CK)) : List AV → List AV → Option (List AV × List (TypeId × List CK))
  | [], [] => some ([], rows)
  | a :: r, a' :: r' => match joinV P base H0 H1 rows a a' with
    | some (x, rows1) => match joinL P base H0 H1 rows1 r r' with
      | some (y, rows2) => some (x :: y, rows2)
      | none => none
    | none => none
  | _, _ => none
end
def joinLL (P : Program) (base : Nat) (H0 H1 : List Obj) (rows : List (TypeId × List CK)) : List (List AV) → List (List AV) → Option (List (List AV) × List (TypeId × List CK))
  | [], [] => some ([], rows)
  | a :: r, a' :: r' => match joinL P base H0 H1 rows a a' with
    | some (x, rows1) => match joinLL P base H0 H1 rows1 r r' with
      | some (y, rows2) => some (x :: y, rows2)
      | none => none
    | none => none
  | _, _ => none
def joinB (P : Program) (base : Nat) (H0 H1 : List Obj) (rows : List (TypeId × List CK)) (x y : Body) : Option (Body × List (TypeId × List CK)) :=
  match x, y with
  | .cells cs, .cells cs' => (joinL P base H0 H1 rows cs cs').map fun z => (.cells z.1, z.2)
  | .mp kt et q m ke l, .mp _ _ _ _ _ _ => some (.mp kt et q m ke l, rows)
  | .arr e sz els, .arr e' sz' els' => (match joinLL P base H0 H1 rows els els' with
    | some z => some (.arr e sz z.1, z.2)
    | none => match rowOf P (.arr e sz els), rowOf P (.arr e' sz' els') with
      | some (e, ks, l), some _ => some (.row e ks l, rows)
      | _, _ => none)
  | x, y => match rowOf P x, rowOf P y with
    | some (e, ks, l), some _ => some (.row e ks l, rows)
    | _, _ => none
def joinSlots (P : Program) (base : Nat) (H0 H1 : List Obj) (tmps : Nat → Option AV) : List (TypeId × List CK) → List (Nat × AV) → List (Nat × AV) × List (TypeId × List CK)
  | rows, [] => ([], rows)
  | rows, (t, v) :: r => match (tmps t).bind (joinV P base H0 H1 rows v) with
    | some (v', rows1) => match joinSlots P base H0 H1 tmps rows1 r with | (r', rows2) => ((t, v') :: r', rows2)
    | none => joinSlots P base H0 H1 tmps rows r
def joinObjs (P : Program) (base ver : Nat) (H0 H1 : List Obj) : List Obj → Spec → Spec
  | [], S => S
  | o :: r, S => joinObjs P base ver H0 H1 r (
    match findObj o.key H1 with
    | none => if S.drop.any (Nat.beq o.key) then S else { S with drop := o.key :: S.drop, objs := S.objs.filter fun x => !(Nat.beq x.key o.key) }
    | some o' => if hasKey o.key S.objs || S.drop.any (Nat.beq o.key) then S else if Nat.blt o'.ver ver then S else
      match joinB P base H0 H1 S.rows o.body o'.body with
      | some (b, rows) => { S with objs := S.objs ++ [⟨o.key, 0, o.own && o'.own, b⟩], rows := rows }
      | none => S)
def rejoin (P : Program) (base : Nat) (H0 H1 : List Obj) : List Obj → Spec → Spec
  | [], S => S
  | o :: r, S => match (findObj o.key H1).bind fun o' => (joinB P base H0 H1 S.rows o.body o'.body).map fun z => (z, o'.own) with
    | some ((b, rows), ow) => rejoin P base H0 H1 r { S with objs := S.objs ++ [⟨o.key, 0, o.own && ow, b⟩], rows := rows }
    | none => rejoin P base H0 H1 r S
/-- What a state behind a round turns of a loop's shape. -/
def Spec.join (P : Program) (S : Spec) (c0 c1 : Cfg) : Spec :=
  let ver := S.base + S.rows.length + 1
  match joinSlots P S.base c0.heap.objs c1.heap.objs c1.tmps S.rows S.slots with
  | (sl, rows) =>
    let S1 := rejoin P S.base c0.heap.objs c1.heap.objs S.objs { S with slots := sl, rows := rows, objs := [] }
    joinObjs P S.base ver c0.heap.objs c1.heap.objs (S.still c0.heap.objs) S1
def Spec.size (S : Spec) : Nat := S.slots.length + 1000 * (S.objs.length + S.rows.length + S.drop.length)
/-- At the loop's entry: rows that slots and objects name go under their new names. -/
def Spec.enter (P : Program) (S : Spec) (c0 : Cfg) : Spec :=
  match matchSlots S.base c0.tmps S.slots ⟨[], []⟩ with
  | some m1 => match matchObjs P S.base c0.heap.objs S.objs m1 with
    | some m2 => let ks := m2.km.filterMap (·.2); { S with drop := S.drop ++ ks.filter fun k => !(S.drop.any (Nat.beq k)), objs := S.objs.filter fun o => !(ks.any (Nat.beq o.key)) }
    | none => S
  | none => S
def normals : List (AExit × Cfg) → List Cfg
  | [] => []
  | (.normal, c) :: r => c :: normals r
  | _ :: r => normals r
def outs_ : List (AExit × Cfg) → List Cfg
  | [] => []
  | (.normal, _) :: r => outs_ r
  | (_, c) :: r => c :: outs_ r
/-- What a way out turns of a loop's shape: the objects that it turns. -/
def joinOut (P : Program) (base ver : Nat) (H0 H1 : List Obj) : List Obj → Spec → Spec
  | [], S => S
  | o :: r, S => joinOut P base ver H0 H1 r (
    if hasKey o.key S.objs || S.drop.any (Nat.beq o.key) then S else
    if (match findObj o.key H1 with | some o' => Nat.blt o'.ver ver | none => false) then S else
    match joinB P base H0 H0 S.rows o.body o.body with
    | some (b, rows) => { S with objs := S.objs ++ [⟨o.key, 0, o.own, b⟩], rows := rows }
    | none => S)
def Spec.search (P : Program) (wr : List Nat) (c0 : Cfg) (body : Cfg → Tree (AExit × Cfg)) : Nat → Spec → Spec
  | 0, S => S
  | n + 1, S =>
    let ls := leaves (body (S.gen (S.still c0.heap.objs) wr c0.tmps []))
    let S1 := (normals ls).foldl (fun S c1 => S.join P c0 c1) S
    let S' := S1.enter P c0
    if Nat.beq S'.size S.size then S' else Spec.search P wr c0 body n S'
def startSlots (tmps : Nat → Option AV) : List Nat → List (Nat × AV)
  | [] => []
  | t :: r => match tmps t with
    | some (.val (.tuple _)) => startSlots tmps r
    | some v => (t, v.weak) :: startSlots tmps r
    | none => startSlots tmps r
def isUndef : AV → Bool
  | .val v => match v with
    | .bool _ | .int _ _ | .string _ | .slice _ _ _ | .pointer _ | .map _ | .nilFunc | .nilIface | .agg _ | .func _ _ _ => false
    | _ => true
  | _ => false

def outSlots (tmps : Nat → Option AV) : List Nat → List (Nat × AV)
  | [] => []
  | t :: r => match tmps t with
    | some v => if isUndef v then outSlots tmps r else (t, v) :: outSlots tmps r
    | none => outSlots tmps r
/-- The ways out of a loop, by their numbers in the tree of a round. -/
def outsOf (S : Spec) (st : List Obj) (ver : Nat) (res : List Nat) : Nat → List (AExit × Cfg) → List (Nat × AExit × Spec)
  | _, [] => []
  | n, (x, c) :: r => match x with
    | .normal => outsOf S st ver res (n + 1) r
    | x =>
      let ts := match x with | .ret => res | _ => S.slots.map (·.1)
      let sl := outSlots c.tmps ts
      let H := restrict S.base (sl.flatMap fun y => AV.keys y.2) c.heap
      (n + 1, x, ⟨sl, H.objs.filter fun o => !(hasKey o.key st) || !(Nat.blt o.ver ver), [], c.heap.next, (st.filter fun o => !(hasKey o.key H.objs)).map (·.key)⟩) :: outsOf S st ver res (n + 1) r
/-- The tree of a round, its ways numbered. -/
def number (P : Program) (S : Spec) (st : List Obj) (ver : Nat) (outs : List (Nat × AExit × Spec)) : Tree (AExit × Cfg) → Nat → Tree (Nat × List U) × Nat
  | .ret (x, c), n => match x with
    | .normal => (match S.match_ P st ver c with | some us => .ret (0, us) | none => .bad, n + 1)
    | x => (match outs.find? (fun y => Nat.beq y.1 (n + 1)) with
      | some (_, y, T) => if y.same x && Nat.ble c.heap.next T.base then (match T.match_ P (T.still st) ver c with | some us => .ret (n + 1, us) | none => .bad) else .bad
      | none => .bad, n + 1)
  | .br b t e, n => match number P S st ver outs t n with | (t', n1) => match number P S st ver outs e n1 with | (e', n2) => (.br b t' e', n2)
  | .need p t, n => match number P S st ver outs t n with | (t', n1) => (.need p t', n1)
  | .ask p t e, n => match number P S st ver outs t n with | (t', n1) => match number P S st ver outs e n1 with | (e', n2) => (.ask p t' e', n2)
  | .bad, n => (.bad, n)
/-- The other slots behind a way out: none are asked for behind a return. -/
def tmOf (y : AExit) (tm : Nat → Option AV) : Nat → Option AV := match y with | .ret => fun _ => none | _ => tm
def brs (st : List Obj) (wr : List Nat) (tm : Nat → Option AV) (r : Nat × List U) : List (Nat × AExit × Spec) → Tree (AExit × Cfg)
  | [] => .bad
  | [(_, y, T)] => .ret (y, T.gen (T.still st) wr (tmOf y tm) r.2)
  | (n, y, T) :: rest => .br (Nat.beq r.1 n) (.ret (y, T.gen (T.still st) wr (tmOf y tm) r.2)) (brs st wr tm r rest)
/-- The shape's slots are among those written. -/
def slotsIn (wr : List Nat) (S : Spec) : Bool := S.slots.all fun x => wr.any (Nat.beq x.1)
def outsIn (wr : List Nat) (outs : List (Nat × AExit × Spec)) : Bool := outs.all fun y => match y.2.1 with | .ret => true | _ => slotsIn wr y.2.2

/-- Is the first thing that the code asks known? -/
inductive Ask where
  | known
  | unknown
  | on (c : Cfg)
section exec
variable (P : Program) (Γ : Con) (call : CallFn) (yld : Nat → List AV → Heap → Tree (AV × Heap))
def isPanic (o : Oper) : Bool := match o.op with
  | .panic _ => true
  | _ => false
def execRegion (N : Nat) (ops : Array Oper) (draw : Bool) (c : Cfg) : Tree RCfg :=
  match ops.toList.any isPanic with
  | true => .ask False .bad .bad
  | false => if draw = false then execOps P Γ call yld N ops ops.toList [] (toSlots c.tmps) c.heap else drawRegion P Γ call N ops (toSlots c.tmps) c.heap
def firstRet : Tree RCfg → Option RCfg
  | .ret x => some x
  | .need _ t => firstRet t
  | .ask _ _ e => firstRet e
  | _ => none
def ask (N : Nat) : Code → Cfg → Ask
  | .skip, c => .on c
  | .region _ ops draw, c => match firstRet (execRegion P Γ call yld N ops draw c) with
    | some (s, H) => .on ⟨ofSlots s, H⟩
    | none => .unknown
  | .seq a b, c => match ask N a c with
    | .on c' => ask N b c'
    | x => x
  | .cond x _ _, c => match readS [] (toSlots c.tmps) x with
    | some (.val (.bool _)) => .known
    | _ => .unknown
  | .block _ a, c => ask N a c
  | _, _ => .unknown

/-! at a round's end: an own row of which a slot keeps just the first elements goes under a new name -/
def cutK (key sz : Nat) (hi : Int) (H : Heap) : Option (Prop × Heap) :=
  match findObj key H.objs with
  | some ⟨_, _, true, .row e ks l⟩ => if Nat.beq ks.length sz then some ((0 ≤ hi ∧ hi ≤ (l.length : Int)), ⟨⟨H.next, H.next, true, .row e ks (l.take hi.toNat)⟩ :: H.objs.filter (fun o => !(Nat.beq o.key key)), H.next + 1⟩) else none
  | _ => none
def settleT : List Nat → Cfg → Tree Cfg
  | [], c => .ret c
  | t :: r, c => match c.tmps t with
    | some (.vw key sz none hi) => (match cutK key sz hi c.heap with
      | some (p, H) => .need p (settleT r ⟨upd c.tmps t (some (.sl c.heap.next)), H⟩)
      | none => settleT r c)
    | _ => settleT r c
def isRowA : Option AV → Bool
  | some (.sl _) => true
  | some (.val (.slice none 0 0)) => true
  | _ => false
def settle (wr : List Nat) (c : Cfg) (r : AExit × Cfg) : Tree (AExit × Cfg) :=
  match r.1 with
  | .ret => .ret r
  | x => (settleT (wr.filter fun t => isRowA (c.tmps t)) r.2).bind fun c' => .ret (x, c')
/-- A loop whose number of rounds is not known. -/
noncomputable def genLoop (res wr : List Nat) (body : Cfg → Tree (AExit × Cfg)) (c0 : Cfg) : Tree (AExit × Cfg) :=
  let S := Spec.search P wr c0 body 4 ⟨(startSlots c0.tmps wr).filter (fun x => !isUndef x.2), [], [], c0.heap.next, []⟩
  let st := S.still c0.heap.objs
  let ver := S.base + S.rows.length + 1
  let outs := outsOf S st ver res 0 (leaves (body (S.gen st wr c0.tmps [])))
  match S.match_ P st (c0.heap.next + 1) c0 with
  | some xs0 => if Nat.beq S.base c0.heap.next && slotsIn wr S && outsIn wr outs then
      .need (loopOk (fun xs => (number P S st ver outs (body (S.gen st wr c0.tmps xs)) 0).1.opt) xs0)
        (brs st wr c0.tmps (loopGet (fun xs => (number P S st ver outs (body (S.gen st wr c0.tmps xs)) 0).1.opt) xs0) outs)
    else .bad
  | none => .bad
/-- At most one way leads to a further round. -/
def oneNormal : List (AExit × Cfg) → Bool
  | [] => true
  | (.normal, _) :: r => r.all fun x => match x.1 with | .normal => false | _ => true
  | _ :: r => oneNormal r
/-- A loop, round by round as long as what it asks is known. -/
def execLoop (known : Cfg → Bool) (gen : Cfg → Tree (AExit × Cfg)) (body : Cfg → Tree (AExit × Cfg)) : Nat → Cfg → Tree (AExit × Cfg)
  | 0, _ => .bad
  | n + 1, c => if known c then (body c).bind fun (x, c') => match x with
      | .normal => execLoop known gen body n c'
      | x => .ret (x, c')
    else gen c

/-- What a jump out of a round stands for. -/
def pendOf : AExit → Option Code
  | .normal => none
  | .exit id => some (.exit id)
  | .ret => some .ret
def exitOf : Option Code → Option AExit
  | none => some .normal
  | some (.exit id) => some (.exit id)
  | some .ret => some .ret
  | _ => none

/-- The state of a loop over a function, and its jump. -/
def loopEnd : Option Obj → Option (Nat × Option Code)
  | some ⟨_, _, true, .loop st pend _ _ _ _ _⟩ => some (st, pend)
  | some ⟨_, _, true, .fin st pend⟩ => some (st, pend)
  | _ => none

noncomputable def execCode (rnd : Bool) (res : List Nat) (N : Nat) : Code → Cfg → Tree (AExit × Cfg)
  | .skip, c => .ret (.normal, c)
  | .region _ ops draw, c => (execRegion P Γ call yld N ops draw c).bind fun (s, H) => .ret (.normal, ⟨ofSlots s, H⟩)
  | .seq a b, c => (execCode rnd res N a c).bind fun (x, c') => match x with
    | .normal => execCode rnd res N b c'
    | x => .ret (x, c')
  | .cond x t e, c => match readS [] (toSlots c.tmps) x with
    | some (.bool b) => .br b (execCode rnd res N t c) (execCode rnd res N e c)
    | some (.val (.bool b)) => (match b with | true => execCode rnd res N t c | false => execCode rnd res N e c)
    | _ => .bad
  | .block id body, c => (execCode rnd res N body c).bind fun (x, c') => match x with
    | .exit id' => if Nat.beq id' id then .ret (.normal, c') else .ret (.exit id', c')
    | x => .ret (x, c')
  | .loop body, c => execLoop (fun c => match ask P Γ call yld N body c with | .known => oneNormal (leaves (execCode rnd res N body c)) | _ => false) (genLoop P res (dedupN (writes body) []) fun c => (execCode rnd res N body c).bind (settle (dedupN (writes body) []) c)) (fun c => execCode rnd res N body c) 100 c
  | .rangeFunc f params assign body, c => if rnd then .bad else match readS [] (toSlots c.tmps) f with
    | some (.fn (.func g) first caps) =>
      (call g (first ++ [.yl c.heap.next] ++ caps) ⟨⟨c.heap.next, c.heap.next, true, .loop 0 none N c.tmps params assign body⟩ :: c.heap.objs, c.heap.next + 1⟩).bind fun (_, H2) =>
        match loopEnd (findObj c.heap.next H2.objs) with
        | some (st, pend) => if Nat.beq st 1 then .bad else match exitOf pend with
          | some x => .ret (x, ⟨c.tmps, ⟨H2.objs.filter fun o => !(Nat.beq o.key c.heap.next), H2.next⟩⟩)
          | none => .bad
        | none => .bad
    | _ => .bad
  | .exit id, c => .ret (.exit id, c)
  | .ret, c => .ret (.ret, c)
  | .scope body, c => execCode rnd res N body c
  | .label _, c => .ret (.normal, c)
  | _, _ => .bad

def readResult (c : Cfg) : ResultVar → Option AV
  | .tmp t => c.tmps t
  | .cell a t => match c.tmps a with
    | some (.ptr key off) => match findObj key c.heap.objs with
      | some ⟨_, _, _, .cells cs⟩ => partA P t cs off
      | _ => none
    | _ => none
def readResults (c : Cfg) : List ResultVar → Option (List AV)
  | [] => some []
  | r :: rs => match readResult P c r, readResults c rs with
    | some v, some vs => some (v :: vs)
    | _, _ => none
end exec

/-- The slots that a function's results lie in. -/
def resTmps (l : List ResultVar) : List Nat := l.flatMap fun | .tmp t => [t] | .cell a _ => [a]
def paramTmps (params : List Nat) (vs : List AV) (tm : Nat → Option AV) : Nat → Option AV :=
  match params, vs with
  | p :: ps, v :: vs => paramTmps ps vs (upd tm p (some v))
  | _, _ => tm
def dropKey (key : Nat) (H : Heap) : Heap := ⟨H.objs.filter (fun o => !(Nat.beq o.key key)), H.next⟩
/-- The loop's record put back. -/
def backLoop (v : AV) (o : Obj) (H : Heap) : Tree (AV × Heap) := if hasKey o.key H.objs then .bad else .ret (v, ⟨o :: H.objs, H.next⟩)

/-- A call of a loop's yield. While the round runs no one sees the record. -/
noncomputable def execYield (P : Program) (Γ : Con) (call : CallFn) (yld : Nat → List AV → Heap → Tree (AV × Heap)) (key : Nat) (args : List AV) (H : Heap) : Tree (AV × Heap) :=
  match findObj key H.objs with
  | some ⟨_, ver, true, .loop 0 none N tm params assign body⟩ =>
    if args.length = params.size ∧ (params.toList.all fun p => Nat.blt p N) = true then
      (execCode P Γ call yld true [] N assign ⟨paramTmps params.toList args tm, dropKey key H⟩).bind fun (x, c1) =>
        match x with
        | .normal => (execCode P Γ call yld true [] N body c1).bind fun (x, c2) =>
            match x with
            | .normal => backLoop (.val (.bool true)) ⟨key, ver, true, .loop 0 none N tm params assign body⟩ c2.heap
            | x => backLoop (.val (.bool false)) ⟨key, c2.heap.next, true, .fin 2 (pendOf x)⟩ c2.heap
        | _ => .bad
    else .bad
  | _ => .bad

/-! ### functions that hand the elements of a list to a loop's yield -/
/-- What is handed: rows of kinds ks; what must hold; the loop's key. -/
structure SeqQ where
  p : Prop
  key : Nat
  e : TypeId
  ks : List CK
  L : List (List (List Int))
abbrev SeqCon := FuncId → List AV → List Obj → Option SeqQ
def noSeq : SeqCon := fun _ _ _ => none
def seqTm (j : Int) : Nat → Option AV := fun t => match t with | 0 => some (.int .i64 j) | _ => none
/-- A round: slot 0 counts. -/
def seqBodyL (yld : Nat → List AV → Heap → Tree (AV × Heap)) (key : Nat) (e : TypeId) (ks : List CK) (L : List (List (List Int))) (c : Cfg) : Tree (AExit × Cfg) :=
  match (c.tmps 0).map AV.weak with
  | some (.int .i64 j) => .br (decide (j < (L.length : Int)))
      ((yld key [.sl c.heap.next] ⟨⟨c.heap.next, c.heap.next, true, .row e ks (L.getD j.toNat [])⟩ :: c.heap.objs, c.heap.next + 1⟩).bind fun y => match y.1 with
        | .val (.bool true) => .ret (.normal, ⟨upd c.tmps 0 (some (.int .i64 (j + 1))), y.2⟩)
        | .val (.bool false) => .ret (.exit 0, ⟨c.tmps, y.2⟩)
        | _ => .bad)
      (.ret (.exit 1, c))
  | _ => .bad
def seqBody (yld : Nat → List AV → Heap → Tree (AV × Heap)) (q : SeqQ) (c : Cfg) : Tree (AExit × Cfg) := seqBodyL yld q.key q.e q.ks q.L c
def seqEnd (y : AExit × Cfg) : Tree (AV × Heap) :=
  match y.1 with
  | .exit 0 => .ret (.val (.bool false), y.2.heap)
  | .exit 1 => .ret (.val (.bool true), y.2.heap)
  | _ => .bad
noncomputable def seqTreeL (P : Program) (yld : Nat → List AV → Heap → Tree (AV × Heap)) (p : Prop) (key : Nat) (e : TypeId) (ks : List CK) (L : List (List (List Int))) (H : Heap) : Tree (AV × Heap) :=
  .need p ((genLoop P [] [0] (seqBodyL yld key e ks L) ⟨seqTm 0, H⟩).bind seqEnd)
noncomputable def seqTree (P : Program) (yld : Nat → List AV → Heap → Tree (AV × Heap)) (q : SeqQ) (H : Heap) : Tree (AV × Heap) := seqTreeL P yld q.p q.key q.e q.ks q.L H

mutual
noncomputable def execFn (P : Program) (Γ : Con) (Ξ : SeqCon) : Nat → CallFn
  | 0, _, _, _ => .bad
  | n + 1, f, args, H =>
    match Ξ f args H.objs with
    | some ⟨p, key, e, ks, L⟩ => seqTreeL P (execYl P Γ Ξ n) p key e ks L H
    | none =>
    match P.funcs[f]? with
    | none => .bad
    | some fn =>
      match fn.body with
      | none => .bad
      | some code =>
        if fn.name ≠ "runtime.NumGoroutine" ∧ args.length ≤ fn.ntmps then
          (execCode P Γ (execFn P Γ Ξ n) (execYl P Γ Ξ n) false (resTmps fn.results.toList) fn.ntmps code ⟨fun t => match args[t]? with | some v => some v | none => some (.val undef), H⟩).bind fun (x, c) =>
            match x with
            | .exit _ => .bad
            | _ => match readResults P c fn.results.toList with
              | some [v] => (match settleA P c.heap.objs c.heap.next v with
                | some x => needO [] x.p (.ret (x.v, restrict H.next (AV.keys x.v) (c.heap.eff x)))
                | none => .ret (v, restrict H.next (AV.keys v) c.heap))
              | some vs => .ret (.tup vs, restrict H.next (AV.keysL vs) c.heap)
              | none => .bad
        else .bad
noncomputable def execYl (P : Program) (Γ : Con) (Ξ : SeqCon) : Nat → Nat → List AV → Heap → Tree (AV × Heap)
  | 0, _, _, _ => .bad
  | n + 1, key, args, H => execYield P Γ (execFn P Γ Ξ n) (execYl P Γ Ξ n) key args H
end
end Go.Sy
