/-
  The executor: regions, code, functions.
-/
import Derived.Test.YtbopeaebdlmapaaSxC
import Derived.CheckFast
namespace Go.Sx

inductive Slot where
  | is (v : AV)
  | when (g : Nat) (want : Bool) (v : AV)
  | junk

abbrev Slots := Nat → Slot

def upd {α : Type} (s : Nat → α) (d : Nat) (v : α) : Nat → α := fun t => match Nat.beq t d with | true => v | false => s t
def put (s : Slots) (d : Option Nat) (v : Slot) : Slots := match d with | some d => upd s d v | none => s

/-- The guards under which an operation runs, the innermost first: the guard's slot, the wanted value, the guard's Bool. -/
abbrev Ctx := List (Nat × Bool × Bool)

/-- What an operand stands for under guards. -/
def readS (ctx : Ctx) (s : Slots) : Operand → Option AV
  | .tmp t => match s t with
    | .is v => some v
    | .when g want v => if ctx.any (fun c => Nat.beq c.1 g && (c.2.1 == want)) then some v else none
    | .junk => none
  | .const v => some (ofValue v)
  | .global g => some (.val (.pointer (some ⟨g, 0, none⟩)))
  | .func f => some (.fn (.func f) [] [])

def pickSide (ctx : Ctx) (s : Slots) (c : Operand) (side : Bool) : Operand → Option AV
  | .tmp t => match s t with
    | .is v => some v
    | .when g want v => if ctx.any (fun c => Nat.beq c.1 g && (c.2.1 == want)) then some v else match c with
      | .tmp g' => if Nat.beq g g' && (want == side) then some v else none
      | _ => none
    | .junk => none
  | x => readS ctx s x
def isLit (b : Bool) : Operand → Bool
  | .const (.bool b') => b' == b
  | _ => false
def boolA : AV → Option AV
  | .bool b => some (.bool b)
  | .val (.bool b) => some (.val (.bool b))
  | _ => none
def pickA (ctx : Ctx) (s : Slots) (c a b : Operand) : Option AV :=
  match readS ctx s c with
  | some (.val (.bool k)) => (match k with | true => (pickSide ctx s c true a).bind boolA | false => (pickSide ctx s c false b).bind boolA)
  | some (.bool cb) => match (pickSide ctx s c true a).map AV.weak, (pickSide ctx s c false b).map AV.weak with
    | some (.bool x), some (.bool y) =>
      if isLit true a then some (.bool (cb || y)) else if isLit false b then some (.bool (cb && x)) else some (.bool (bif cb then x else y))
    | _, _ => none
  | _ => none

/-- The guard's slot and the wanted value. -/
def guardOf (ops : Array Oper) (o : Oper) : Option (Option (Nat × Bool)) :=
  match o.guard with
  | none => some none
  | some (j, want) => match ops[j]? with
    | some oj => match oj.dst with
      | some d => some (some (d, want))
      | none => none
    | none => none

def Heap.alloc (H : Heap) (cs : List AV) : Heap := { H with objs := ⟨H.next, cs⟩ :: H.objs, next := H.next + 1 }
def Heap.store (H : Heap) (key off : Nat) (cs : List AV) : Heap := { H with objs := putObj key off cs H.objs }

abbrev RCfg := Slots × Heap

/-- The guards of an operation: those of its own guard's slot too. -/
def guardChain (s : Slots) : Nat → Nat → Bool → Option Ctx
  | 0, _, _ => none
  | n + 1, g, want => match s g with
    | .is v => match v.weak with
      | .bool b => some [(g, want, b)]
      | _ => none
    | .when g1 w1 v => match v.weak with
      | .bool b => (guardChain s n g1 w1).map ((g, want, b) :: ·)
      | _ => none
    | .junk => none
/-- A guard that is known: does the operation run? -/
def guardKnown (s : Slots) (g : Nat) (want : Bool) : Option Bool :=
  match s g with
  | .is (.val (.bool b)) => some (b == want)
  | .is (.val _) => some false
  | _ => none
def condsB : Ctx → Bool
  | [] => true
  | [(_, want, b)] => b == want
  | (_, want, b) :: r => (b == want) && condsB r
def condsP : Ctx → Prop → Prop
  | [], p => p
  | (_, want, b) :: r, p => condsP r (b = want → p)
def slotOf (ctx : Ctx) (v : AV) : Slot := match ctx with | [] => .is v | (g, want, _) :: _ => .when g want v

/-- An operation's outcome laid into the state. 'ro': objects below it are not written. -/
def applyR (ro : Nat) (s : Slots) (H : Heap) (dst : Option Nat) (ctx : Ctx) : R → Tree RCfg
  | .val v => .ret (put s dst (slotOf ctx v), H)
  | .chk p v => .need (condsP ctx p) (.ret (put s dst (slotOf ctx v), H))
  | .new cs => match ctx with
    | [] => .ret (put s dst (.is (.ptr H.next 0)), H.alloc cs)
    | c :: r => .br (condsB (c :: r)) (.ret (put s dst (.is (.ptr H.next 0)), H.alloc cs)) (.ret (put s dst (.is (.val undef)), H))
  | .st key off cs => if Nat.ble ro key then (match ctx with
    | [] => .ret (put s dst (.is (.val undef)), H.store key off cs)
    | c :: r => .br (condsB (c :: r)) (.ret (put s dst (.is (.val undef)), H.store key off cs)) (.ret (put s dst (.is (.val undef)), H))) else .bad
  | .bad => .bad

mutual
def merge (b : Bool) : AV → AV → Option AV
  | .bool x, .bool y => some (.bool (bif b then x else y))
  | .int k x, .int k' y => if k = k' then some (.int k (bif b then x else y)) else none
  | .agg xs, .agg ys => (mergeL b xs ys).map .agg
  | .tup xs, .tup ys => (mergeL b xs ys).map .tup
  | _, _ => none
def mergeL (b : Bool) : List AV → List AV → Option (List AV)
  | [], [] => some []
  | x :: xs, y :: ys => match merge b x y, mergeL b xs ys with
    | some z, some zs => some (z :: zs)
    | _, _ => none
  | _, _ => none
end

/-- A tree of results as one result. -/
def collapse : Tree (AV × Heap) → Option R
  | .ret (v, _) => if v.flat = true then some (.val v) else none
  | .br b t e => match collapse t, collapse e with
    | some (.val x), some (.val y) => (merge b x.weak y.weak).map .val
    | some (.chk p x), some (.val y) => (merge b x.weak y.weak).map (.chk (b = true → p))
    | some (.val x), some (.chk q y) => (merge b x.weak y.weak).map (.chk (b = false → q))
    | some (.chk p x), some (.chk q y) => (merge b x.weak y.weak).map (.chk ((b = true → p) ∧ (b = false → q)))
    | _, _ => none
  | .need p t => match collapse t with
    | some (.val v) => some (.chk p v)
    | some (.chk q v) => some (.chk (p ∧ q) v)
    | _ => none
  | .bad => none

abbrev CallFn := Nat → FuncId → List AV → Heap → Tree (AV × Heap)   -- the first number: 'ro'
abbrev Con := FuncId → List AV → Option R

section exec
variable (P : Program) (Γ : Con) (call : CallFn) (ro : Nat)

def flatR : R → Option R
  | .val v => if v.flat = true then some (.val v) else none
  | .chk p v => if v.flat = true then some (.chk p v) else none
  | _ => none
/-- A call as one result: by contract, or in place where all ways can be laid into one value and nothing old is written. -/
def callR (f : FuncId) (args : List AV) (H : Heap) : Option R :=
  match Γ f (AV.weakL args) with
  | some r => flatR r
  | none => match collapse (call H.next f args H) with
    | some r => flatR r
    | none => none

def stepO (o : Oper) (s : Slots) (H : Heap) (ctx : Ctx) : Tree RCfg :=
  let rd := readS ctx s
  match o.op with
  | .pick c a b => match pickA ctx s c a b with
    | some v => .ret (put s o.dst (slotOf ctx v), H)
    | none => .bad
  | .call { callee := .value f, args, .. } => match rd f, readL rd args.toList with
    | some (.fn (.func fi) first caps), some vs =>
      match callR Γ call fi (first ++ vs ++ caps) H with
      | some r => applyR ro s H o.dst ctx r
      | none => match ctx with
        | [] => (call ro fi (first ++ vs ++ caps) H).bind fun (v, H') => .ret (put s o.dst (.is v), H')
        | c :: r => .br (condsB (c :: r)) ((call ro fi (first ++ vs ++ caps) H).bind fun (v, H') => .ret (put s o.dst (.is v), H')) (.ret (put s o.dst (.is (.val undef)), H))
    | _, _ => .bad
  | op => applyR ro s H o.dst ctx (absOp P rd H op)

/-- The slots written so far in a region, with one more; none if it was written before or is not there. -/
def seenAdd (N : Nat) (d : Option Nat) (seen : List Nat) : Option (List Nat) :=
  match d with
  | none => some seen
  | some d => if Nat.blt d N && !(seen.any (Nat.beq d)) then some (d :: seen) else none

def execOps (N : Nat) (ops : Array Oper) : List Oper → List Nat → Slots → Heap → Tree RCfg
  | [], _, s, H => .ret (s, H)
  | o :: rest, seen, s, H =>
    match seenAdd N o.dst seen with
    | none => .bad
    | some seen' =>
      match guardOf ops o with
      | some none => (stepO P Γ call ro o s H []).bind fun (s', H') => execOps N ops rest seen' s' H'
      | some (some (g, want)) =>
        if seen.any (Nat.beq g) then
          match guardKnown s g want with
          | some true => (stepO P Γ call ro o s H []).bind fun (s', H') => execOps N ops rest seen' s' H'
          | some false => execOps N ops rest seen' (put s o.dst (.is (.val undef))) H
          | none => match guardChain s 9 g want with
            | some ctx => (stepO P Γ call ro o s H ctx).bind fun (s', H') => execOps N ops rest seen' s' H'
            | none => .bad
        else .bad
      | none => .bad

/-! ### regions that draw their order -/
structure Item where
  o : Oper
  ctx : Ctx
  r : R
  key : Nat
  /-- it reads boxes: all of them that were there when the region began -/
  all : Bool
  /-- it reads this box -/
  foot : Option Nat

def Item.slot (it : Item) : Slot :=
  match it.r with
  | .val v | .chk _ v => slotOf it.ctx v
  | .new _ => .is (.ptr it.key 0)
  | .st _ _ _ => .is (.val undef)
  | .bad => .junk
def Item.eff (it : Item) (l : List Obj) : List Obj :=
  match it.r with
  | .new cs => ⟨it.key, cs⟩ :: l
  | .st key off vs => putObj key off vs l
  | _ => l
def Item.touch (it : Item) (key : Nat) : Bool :=
  match it.r with
  | .new _ => Nat.beq it.key key
  | .st k _ _ => Nat.beq k key
  | _ => false
/-- what must hold for it -/
def Item.need (it : Item) : Option Prop :=
  match it.r with
  | .chk p _ => some (condsP it.ctx p)
  | _ => none
def Item.fine (ro : Nat) (it : Item) : Bool :=
  match it.r with
  | .val _ | .chk _ _ => true
  | .new _ => it.ctx.isEmpty
  | .st key _ _ => it.ctx.isEmpty && Nat.ble ro key
  | .bad => false
def effNext (it : Item) (n : Nat) : Nat := match it.r with | .new _ => n + 1 | _ => n

def footOf (rd : Operand → Option AV) : Op → Option Nat
  | .load _ x => match rd x with | some (.ptr key _) => some key | _ => none
  | .store _ x _ => match rd x with | some (.ptr key _) => some key | _ => none
  | _ => none

def stepD (o : Oper) (s : Slots) (objs0 : List Obj) (H : Heap) (ctx : Ctx) : Option Item :=
  let rd := readS ctx s
  match o.op with
  | .pick c a b => match pickA ctx s c a b with
    | some v => some ⟨o, ctx, .val v, H.next, false, none⟩
    | none => none
  | .call { callee := .value f, args, .. } => match rd f, readL rd args.toList with
    | some (.fn (.func fi) first caps), some vs =>
      match callR Γ call fi (first ++ vs ++ caps) ⟨objs0, H.next⟩ with
      | some r => some ⟨o, ctx, r, H.next, (match Γ fi (AV.weakL (first ++ vs ++ caps)) with | some _ => false | none => true), none⟩
      | none => none
    | _, _ => none
  | op => some ⟨o, ctx, absOp P rd H op, H.next, false, footOf rd op⟩

def ctxOf (ops : Array Oper) (o : Oper) (s : Slots) (seen : List Nat) : Option Ctx :=
  match guardOf ops o with
  | some none => some []
  | some (some (g, want)) => if seen.any (Nat.beq g) then guardChain s 9 g want else none
  | none => none

def runD (N : Nat) (ops : Array Oper) (objs0 : List Obj) : List Oper → List Nat → Slots → Heap → Option (List Item)
  | [], _, _, _ => some []
  | o :: rest, seen, s, H =>
    match seenAdd N o.dst seen, ctxOf ops o s seen with
    | some seen', some ctx => match stepD P Γ call o s objs0 H ctx with
      | some it => if it.fine ro then (match runD N ops objs0 rest seen' (put s o.dst it.slot) ⟨it.eff H.objs, effNext it H.next⟩ with | some l => some (it :: l) | none => none) else none
      | none => none
    | _, _ => none

/-- The slots that an operation looks at. -/
def looks (it : Item) : List Nat :=
  (it.o.op.operands.toList.filterMap fun | .tmp t => some t | _ => none) ++ it.ctx.map (·.1)
/-- i waits for m, by way of the edges: the masks of what each waits for -/
def masksGo : List Oper → List Nat → List Nat
  | [], acc => acc
  | o :: r, acc => CheckFast.force (CheckFast.one (fun i => acc.getD i 0) o) fun v => masksGo r (acc ++ [v])
def ordered (M : List Nat) (j m : Nat) : Bool := if Nat.blt m j then (M.getD j 0).testBit m else (M.getD m 0).testBit j
def Item.flat (it : Item) : Bool :=
  match it.r with
  | .val v | .chk _ v => v.flat
  | .new cs => AV.flatL cs
  | .st _ _ cs => AV.flatL cs
  | .bad => true
def pairOk (M : List Nat) (next0 : Nat) (j : Nat) (x : Item) (m : Nat) (y : Item) : Bool :=
  Nat.beq j m ||
  ((match y.o.dst with | some d => !((looks x).any (Nat.beq d)) || ordered M j m | none => true) &&
   (match x.foot with | some key => !(y.touch key) || ordered M j m | none => true) &&
   (!x.all || (match y.r with | .st key _ _ => Nat.ble next0 key || (Nat.blt j m && ordered M j m) | _ => true)) &&
   (match x.r with | .st key _ _ => !(y.touch key) || ordered M j m | .new _ => (!(y.touch x.key) || ordered M j m) && (Nat.blt m j || y.flat || ordered M j m) | _ => true))
def orderOk (next0 : Nat) (ops : Array Oper) (L : List Item) : Bool :=
  let M := masksGo ops.toList []
  (ops.toList.zipIdx.all fun (o, i) => o.after.all fun e => !Region.binds .any e || Nat.blt e.on i) &&
  L.zipIdx.all fun (x, j) => L.zipIdx.all fun (y, m) => pairOk M next0 j x m y

def slotsS (S : Nat → Bool) : Nat → List Item → Slots → Slots
  | _, [], s => s
  | i, it :: r, s => slotsS S (i + 1) r (if S i then put s it.o.dst it.slot else s)
def objsS (S : Nat → Bool) : Nat → List Item → List Obj → List Obj
  | _, [], l => l
  | i, it :: r, l => objsS S (i + 1) r (if S i then it.eff l else l)
def nextS : List Item → Nat → Nat
  | [], n => n
  | it :: r, n => nextS r (effNext it n)
def needs {α : Type} : List Item → Tree α → Tree α
  | [], t => t
  | it :: r, t => match it.need with | some p => .need p (needs r t) | none => needs r t

def noSelects (ops : Array Oper) : Bool := ops.toList.all fun o => match o.op with | .select _ _ => false | _ => true

def drawRegion (N : Nat) (ops : Array Oper) (s : Slots) (H : Heap) : Tree RCfg :=
  match runD P Γ call ro N ops H.objs ops.toList [] s H with
  | some L => if P.follows .mixedOrders && orderOk H.next ops L then needs L (.ret (slotsS (fun _ => true) 0 L s, ⟨objsS (fun _ => true) 0 L H.objs, nextS L H.next⟩)) else .bad
  | none => .bad

structure Cfg where
  tmps : Nat → Option AV
  heap : Heap

def toSlots (f : Nat → Option AV) : Slots := fun t => match f t with | some v => .is v | none => .junk
def ofSlots (s : Slots) : Nat → Option AV := fun t => match s t with | .is v => some v | _ => none

inductive AExit where
  | normal
  | exit (id : Nat)
  | ret

/-- A loop, round by round. -/
def execLoop (body : Cfg → Tree (AExit × Cfg)) : Nat → Cfg → Tree (AExit × Cfg)
  | 0, _ => .bad
  | n + 1, c => (body c).bind fun (x, c') => match x with
    | .normal => execLoop body n c'
    | x => .ret (x, c')

def execCode (N : Nat) : Code → Cfg → Tree (AExit × Cfg)
  | .skip, c => .ret (.normal, c)
  | .region _ ops draw, c =>
    (if draw = false then execOps P Γ call ro N ops ops.toList [] (toSlots c.tmps) c.heap
      else drawRegion P Γ call ro N ops (toSlots c.tmps) c.heap).bind fun (s, H) => .ret (.normal, ⟨ofSlots s, H⟩)
  | .seq a b, c => (execCode N a c).bind fun (x, c') => match x with
    | .normal => execCode N b c'
    | x => .ret (x, c')
  | .cond x t e, c => match readS [] (toSlots c.tmps) x with
    | some (.bool b) => .br b (execCode N t c) (execCode N e c)
    | some (.val (.bool b)) => (match b with | true => execCode N t c | false => execCode N e c)
    | _ => .bad
  | .block id body, c => (execCode N body c).bind fun (x, c') => match x with
    | .exit id' => if Nat.beq id' id then .ret (.normal, c') else .ret (.exit id', c')
    | x => .ret (x, c')
  | .loop body, c => execLoop (fun c => execCode N body c) 100 c
  | .exit id, c => .ret (.exit id, c)
  | .ret, c => .ret (.ret, c)
  | _, _ => .bad

def readResult (c : Cfg) : ResultVar → Option AV
  | .tmp t => c.tmps t
  | .cell a t => match c.tmps a with
    | some (.ptr key off) => match findObj key c.heap.objs with
      | some o => partA P t o.cells off
      | none => none
    | _ => none
def readResults (c : Cfg) : List ResultVar → Option (List AV)
  | [] => some []
  | r :: rs => match readResult P c r, readResults c rs with
    | some v, some vs => some (v :: vs)
    | _, _ => none

/-- Of the objects those that were there before the call, and the others only if the result may name them. -/
def restrict (next : Nat) (v : AV) (H : Heap) : Heap :=
  if v.flat then { H with objs := H.objs.filter fun o => Nat.blt o.key next } else H
end exec

def execFn (P : Program) (Γ : Con) : Nat → CallFn
  | 0, _, _, _, _ => .bad
  | n + 1, ro, f, args, H =>
    match P.funcs[f]? with
    | none => .bad
    | some fn =>
      match fn.body with
      | none => .bad
      | some code =>
        if fn.name ≠ "runtime.NumGoroutine" ∧ args.length ≤ fn.ntmps then
          (execCode P Γ (execFn P Γ n) ro fn.ntmps code ⟨fun t => match args[t]? with | some v => some v | none => some (.val undef), H⟩).bind fun (x, c) =>
            match x with
            | .exit _ => .bad
            | _ => match readResults P c fn.results.toList with
              | some [v] => .ret (v, restrict H.next v c.heap)
              | some vs => .ret (.tup vs, restrict H.next (.tup vs) c.heap)
              | none => .bad
        else .bad
end Go.Sx
