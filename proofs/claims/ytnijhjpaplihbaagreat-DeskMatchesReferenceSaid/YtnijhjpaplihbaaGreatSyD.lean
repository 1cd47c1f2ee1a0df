/-
 The executor: regions, code, loops, calls, functions.
-/
import Derived.Test.YtnijhjpaplihbaaGreatSyA
import Derived.CheckFast
set_option linter.unusedVariables false
namespace Go.Sy
noncomputable section
inductive Slot where
 | is (v : AV)
 | when (g : Nat) (want : Bool) (v : AV)
 | junk
abbrev xaY := Nat → Slot
def upd {α : Type} (s : Nat → α) (d : Nat) (v : α) : Nat → α := fun t => match Nat.beq t d with | true => v | false => s t
def put (s : xaY) (d : Option Nat) (v : Slot) : xaY := match d with | some d => upd s d v | none => s
abbrev Ctx := List (Nat × Bool × Bool)
def readS (ctx : Ctx) (s : xaY) : Operand → Option AV
 | .tmp t => match s t with
  | .is v => some v
  | .when g want v => if ctx.any (fun c => Nat.beq c.1 g && (c.2.1 == want)) then some v else none
  | .junk => none
 | .const v => some (ofValue v)
 | .global g => some (.val (.pointer (some ⟨g, 0, none⟩)))
 | .func f => some (.fn (.func f) [] [])
def xg3 (ctx : Ctx) (s : xaY) (c : Operand) (side : Bool) : Operand → Option AV
 | .tmp t => match s t with
  | .is v => some v
  | .when g want v => if ctx.any (fun c => Nat.beq c.1 g && (c.2.1 == want)) then some v else match c with
   | .tmp g' => if Nat.beq g g' && (want == side) then some v else none
   | _ => none
  | .junk => none
 | x => readS ctx s x
def xz1 (b : Bool) : Operand → Bool
 | .const (.bool b') => b' == b
 | _ => false
def xyI : AV → Option AV
 | .bool b => some (.bool b)
 | .val (.bool b) => some (.val (.bool b))
 | _ => none
def litV (b : Bool) : Option AV → Bool
 | some (.val (.bool b')) => b' == b
 | _ => false
def xAx (ctx : Ctx) (s : xaY) (c a b : Operand) : Option Bool :=
 match readS ctx s c with
 | some (.bool _) => if xz1 false b && litV false (xg3 ctx s c true a) then some false else if xz1 true a && litV true (xg3 ctx s c false b) then some true else none
 | _ => none
def xwX (ctx : Ctx) (s : xaY) (c a b : Operand) : Option AV :=
 match readS ctx s c with
 | some (.val (.bool k)) => (match k with | true => (xg3 ctx s c true a).bind xyI | false => (xg3 ctx s c false b).bind xyI)
 | some (.bool cb) => match (xg3 ctx s c true a).map AV.weak, (xg3 ctx s c false b).map AV.weak with
  | some (.bool x), some (.bool y) =>
   if xz1 true a then some (.bool (cb || y)) else if xz1 false b then some (.bool (cb && x)) else some (.bool (bif cb then x else y))
  | _, _ => none
 | _ => none
def xvP (ctx : Ctx) (s : xaY) (c a b : Operand) : Option AV :=
 match xAx ctx s c a b with
 | some v => some (.val (.bool v))
 | none => xwX ctx s c a b
def xoI (ops : Array Oper) (o : Oper) : Option (Option (Nat × Bool)) :=
 match o.guard with
 | none => some none
 | some (j, want) => match ops[j]? with
  | some oj => match oj.dst with
   | some d => some (some (d, want))
   | none => none
  | none => none
def Heap.eff (H : Heap) (x : Eff) : Heap := ⟨xhc x H.objs, H.next + x.nk⟩
abbrev RCfg := xaY × Heap
def xbo (s : xaY) : Nat → Nat → Bool → Option Ctx
 | 0, _, _ => none
 | n + 1, g, want => match s g with
  | .is v => match v.weak with
   | .bool b => some [(g, want, b)]
   | _ => none
  | .when g1 w1 v => match v.weak with
   | .bool b => (xbo s n g1 w1).map ((g, want, b) :: ·)
   | _ => none
  | .junk => none
def xlm (s : xaY) (g : Nat) (want : Bool) : Option Bool :=
 match s g with
 | .is (.val (.bool b)) => some (b == want)
 | .is (.val _) => some false
 | _ => none
def xEr : Ctx → Bool
 | [] => true
 | [(_, want, b)] => b == want
 | (_, want, b) :: r => (b == want) && xEr r
def xxB : Ctx → Prop → Prop
 | [], p => p
 | (_, want, b) :: r, p => xxB r (b = want → p)
def xkY (ctx : Ctx) (v : AV) : Slot := match ctx with | [] => .is v | (g, want, _) :: _ => .when g want v
def xw4 {α : Type} (ctx : Ctx) (p : Option Prop) (t : Tree α) : Tree α := match p with | none => t | some p => .need (xxB ctx p) t
def xs6 (g : Nat) (v : Bool) (s : xaY) : xaY :=
 upd (fun t => match s t with
  | .when g' w x => if Nat.beq g' g then (match w == v with | true => .is x | false => .is (.val undef)) else .when g' w x
  | y => y) g (.is (.val (.bool v)))
def brG : Ctx → xaY → (xaY → Tree RCfg) → (xaY → Tree RCfg) → Tree RCfg
 | [], s, t, _ => t s
 | (g, want, b) :: rest, s, t, e => .br (b == want) (brG rest (xs6 g want s) t e) (e (xs6 g (!want) s))
def xtL (s : xaY) (H : Heap) (dst : Option Nat) (ctx : Ctx) (x : Eff) : Tree RCfg :=
 if x.pure then xw4 ctx x.p (.ret (put s dst (xkY ctx x.v), H))
 else match ctx with
  | [] => xw4 [] x.p (.ret (put s dst (.is x.v), H.eff x))
  | c :: r => brG (c :: r).reverse s (fun s => xw4 [] x.p (.ret (put s dst (.is x.v), H.eff x))) (fun s => .ret (put s dst (.is (.val undef)), H))
def xv7 (k : Nat) : List (Option Nat) → Nat → Option Nat
 | [], _ => none
 | some k' :: r, i => if Nat.beq k k' then some i else xv7 k r (i + 1)
 | none :: r, i => xv7 k r (i + 1)
mutual
/-- The slices of a result that are new, under the names K, K+1 .. -/
def xqv (K : Nat) : AV → List (Option Nat) → Option (AV × List (Option Nat))
 | .sl k, acc => if Nat.blt k K then some (.sl k, acc) else match xv7 k acc 0 with
  | some i => some (.sl (K + i), acc)
  | none => some (.sl (K + acc.length), acc ++ [some k])
 | .val (.slice none 0 0), acc => some (.sl (K + acc.length), acc ++ [none])
 | .ptr k off, acc => if Nat.blt k K then some (.ptr k off, acc) else none
 | .yl k, acc => if Nat.blt k K then some (.yl k, acc) else none
 | .fn _ _ _, _ => none
 | .ix _ _ _ _ _, _ => none
 | .vw k sz lo hi, acc => if Nat.blt k K then some (.vw k sz lo hi, acc) else none
 | .agg cs, acc => match xAV K cs acc with | some (cs', acc') => some (.agg cs', acc') | none => none
 | .tup cs, acc => match xAV K cs acc with | some (cs', acc') => some (.tup cs', acc') | none => none
 | v, acc => some (v, acc)
def xAV (K : Nat) : List AV → List (Option Nat) → Option (List AV × List (Option Nat))
 | [], acc => some ([], acc)
 | a :: r, acc => match xqv K a acc with
  | some (a', acc') => match xAV K r acc' with
   | some (r', acc'') => some (a' :: r', acc'')
   | none => none
  | none => none
end
def xmP (P : Program) (K : Nat) (objs : List Obj) : Nat → List (Option Nat) → Option (List Obj)
 | _, [] => some []
 | i, none :: r => (xmP P K objs (i + 1) r).map (⟨K + i, K, true, .nil⟩ :: ·)
 | i, some k :: r => match xai k objs with
  | some ⟨_, _, true, b⟩ => match b with
   | .nil => (xmP P K objs (i + 1) r).map (⟨K + i, K, true, .nil⟩ :: ·)
   | .nst e ks l => (xmP P K objs (i + 1) r).map (⟨K + i, K, true, .nst e ks l⟩ :: ·)
   | b => match xe6 P b with
    | some (e, ks, l) => (xmP P K objs (i + 1) r).map (⟨K + i, K, true, .row e ks l⟩ :: ·)
    | none => none
  | some ⟨_, _, false, .sub e ks l⟩ => (xmP P K objs (i + 1) r).map (⟨K + i, K, false, .sub e ks l⟩ :: ·)
  | _ => none
def pack (P : Program) (K : Nat) (y : AV × Heap) : Option Eff :=
 match xqv K y.1 [] with
 | some (v, acc) => (xmP P K y.2.objs 0 acc).map fun add => ⟨none, [], acc.length, add, v⟩
 | none => none
mutual
def xiS (b : Bool) : AV → AV → Option AV
 | .bool x, .bool y => some (.bool (bif b then x else y))
 | .int k x, .int k' y => if k = k' then some (.int k (bif b then x else y)) else none
 | .agg xs, .agg ys => (xrl b xs ys).map .agg
 | .tup xs, .tup ys => (xrl b xs ys).map .tup
 | .sl x, .sl y => if x = y then some (.sl x) else none
 | _, _ => none
def xrl (b : Bool) : List AV → List AV → Option (List AV)
 | [], [] => some []
 | x :: xs, y :: ys => match xiS b x y, xrl b xs ys with
  | some z, some zs => some (z :: zs)
  | _, _ => none
 | _, _ => none
end
def xBa (b : Bool) : Body → Body → Option Body
 | .nil, .nil => some .nil
 | .nil, .row e ks l => some (.row e ks (bif b then [] else l))
 | .row e ks l, .nil => some (.row e ks (bif b then l else []))
 | .row e ks l, .row e' ks' l' => if e = e' ∧ ks = ks' then some (.row e ks (bif b then l else l')) else none
 | .nil, .nst e ks l => some (.nst e ks (bif b then [] else l))
 | .nst e ks l, .nil => some (.nst e ks (bif b then l else []))
 | .nst e ks l, .nst e' ks' l' => if e = e' ∧ ks = ks' then some (.nst e ks (bif b then l else l')) else none
 | _, _ => none
def xA7 (b : Bool) : Body → Body → Option Body
 | .sub e ks l, .sub e' ks' l' => if e = e' ∧ ks = ks' then some (.sub e ks (bif b then l else l')) else none
 | .sub e ks l, .row e' ks' l' => if e = e' ∧ ks = ks' then some (.sub e ks (bif b then l else l')) else none
 | .row e ks l, .sub e' ks' l' => if e = e' ∧ ks = ks' then some (.sub e ks (bif b then l else l')) else none
 | .sub e ks l, .nil => some (.sub e ks (bif b then l else []))
 | .nil, .sub e ks l => some (.sub e ks (bif b then [] else l))
 | _, _ => none
def xuQ (b : Bool) : List Obj → List Obj → Option (List Obj)
 | [], [] => some []
 | ⟨k, v, o, x⟩ :: xs, ⟨k', _, o', y⟩ :: ys => if k = k' then (match (match o && o' with | true => (xBa b x y).map fun z => (true, z) | false => (xA7 b x y).map fun z => (false, z)), xuQ b xs ys with
  | some z, some zs => some (⟨k, v, z.1, z.2⟩ :: zs)
  | _, _ => none) else none
 | _, _ => none
def xCN (b : Bool) : Option Prop → Option Prop → Option Prop
 | none, none => none
 | some p, none => some (b = true → p)
 | none, some q => some (b = false → q)
 | some p, some q => some ((b = true → p) ∧ (b = false → q))
def xA8 (b : Bool) (x y : Eff) : Option Eff :=
 match xiS b x.v.weak y.v.weak, xuQ b x.add y.add with
 | some v, some add => if x.rm.isEmpty && y.rm.isEmpty && Nat.beq x.nk y.nk then some ⟨xCN b x.p y.p, [], x.nk, add, v⟩ else none
 | _, _ => none
def andP (p : Prop) : Option Prop → Option Prop
 | none => some p
 | some q => some (p ∧ q)
def xDb : Body → Body → Option Prop
 | .nil, .nil => some True
 | .nil, .row _ _ l => some (l = [])
 | .row e ks l, .row e' ks' l' => if e = e' ∧ ks = ks' then some (l = l') else none
 | .nil, .nst _ _ l => some (l = [])
 | .nst e ks l, .nst e' ks' l' => if e = e' ∧ ks = ks' then some (l = l') else none
 | .sub e ks l, .sub e' ks' l' => if e = e' ∧ ks = ks' then some (l = l') else none
 | _, _ => none
def xzK : List Obj → List Obj → Option Prop
 | [], [] => some True
 | ⟨k, _, o, x⟩ :: xs, ⟨k', _, o', y⟩ :: ys => if k = k' ∧ o = o' then (match xDb x y, xzK xs ys with
  | some p, some q => some (p ∧ q)
  | _, _ => none) else none
 | _, _ => none
def xDa : AV → AV → Bool
 | .sl a, .sl b => Nat.beq a b
 | _, _ => false
def askE (p : Prop) (x y : Eff) : Option Eff :=
 match xzK x.add y.add with
 | some q => if xDa x.v y.v && Nat.beq x.nk y.nk then some { y with p := andP (p → xpB x.p ∧ q) y.p } else none
 | none => none
def dead {α : Type} : Tree α → Bool
 | .bad => false
 | .br _ t e => dead t && dead e
 | .need _ t => dead t
 | .ask _ .bad .bad => true
 | .ask _ t e => dead t && dead e
 | .ret _ => false
def xae (P : Program) (K : Nat) : Tree (AV × Heap) → Option Eff
 | .ret y => pack P K y
 | .br b t e => match xae P K t, xae P K e with
  | some x, some y => xA8 b x y
  | some x, none => if dead e then some { x with p := andP (b = true) x.p } else none
  | none, some y => if dead t then some { y with p := andP (b = false) y.p } else none
  | none, none => none
 | .need p t => (xae P K t).map fun x => { x with p := andP p x.p }
 | .ask p t e => match xae P K t, xae P K e with
  | some x, some y => askE p x y
  | _, _ => none
 | .bad => none
def xtB (P : Program) : Nat → TypeId → List TypeId
 | 0, t => [t]
 | n + 1, t => match P.underlying t with
  | some (.struct fs) => fs.toList.flatMap fun f => xtB P n f.type
  | some (.array m e) => (List.replicate m (xtB P n e)).flatten
  | _ => [t]
structure xfu where
 key : Option Nat
 own : Bool
 body : Body
def xm3 (k : Nat) : List xfu → Nat → Option Nat
 | [], _ => none
 | x :: r, i => match x.key with
  | some k' => if Nat.beq k k' then some i else xm3 k r (i + 1)
  | none => xm3 k r (i + 1)
def xiu (P : Program) (t : Option TypeId) : Body :=
 match t.bind P.underlying with
 | some (.slice e) => match xrP P 9 e with
  | some (k :: ks) => .row e (k :: ks) []
  | _ => .nil
 | _ => .nil
def canK (P : Program) (objs : List Obj) (t : Option TypeId) (k : Nat) (acc : List xfu) : Option (Nat × List xfu) :=
 match xm3 k acc 0 with
 | some i => some (i, acc)
 | none => match xai k objs with
  | some o => some (acc.length, acc ++ [⟨some k, o.own, match o.body with | .nil => xiu P t | b => b⟩])
  | none => none
mutual
def canV (P : Program) (objs : List Obj) (ts : Option TypeId) : AV → List xfu → Option (AV × List xfu)
 | .sl k, acc => match canK P objs ts k acc with | some (i, acc') => some (.sl i, acc') | none => none
 | .ptr k off, acc => match canK P objs none k acc with | some (i, acc') => some (.ptr i off, acc') | none => none
 | .val (.slice none 0 0), acc => match ts.bind P.underlying with
  | some (.slice _) => some (.sl acc.length, acc ++ [⟨none, true, xiu P ts⟩])
  | _ => some (.val (.slice none 0 0), acc)
 | .fn f first caps, acc => match canL P objs [] first acc with
  | some (first', acc') => match canL P objs [] caps acc' with
   | some (caps', acc'') => some (.fn f first' caps', acc'')
   | none => none
  | none => none
 | .agg cs, acc => match canL P objs (match ts with | some t => xtB P 9 t | none => []) cs acc with
  | some (cs', acc') => some (.agg cs', acc')
  | none => none
 | .tup cs, acc => match canL P objs [] cs acc with
  | some (cs', acc') => some (.tup cs', acc')
  | none => none
 | .yl _, _ => none
 | .ix _ _ _ _ _, _ => none
 | .vw _ _ _ _, _ => none
 | v, acc => some (v, acc)
def canL (P : Program) (objs : List Obj) : List TypeId → List AV → List xfu → Option (List AV × List xfu)
 | _, [], acc => some ([], acc)
 | ts, a :: r, acc => match canV P objs ts.head? a acc with
  | some (a', acc') => match canL P objs ts.tail r acc' with
   | some (r', acc'') => some (a' :: r', acc'')
   | none => none
  | none => none
end
def xbG : Body → Bool
 | .row _ _ _ => true
 | .nst _ _ _ => true
 | .sub _ _ _ => true
 | .nil => true
 | _ => false
def xtC : Nat → List xfu → Option (List Obj)
 | _, [] => some []
 | i, x :: r => match x.body with
  | .loop .. => none
  | b => (xtC (i + 1) r).map (⟨i, 0, x.own, b⟩ :: ·)
def xi9 (P : Program) : List xfu → Option (List xfu)
 | [] => some []
 | x :: r => match x.body with
  | .row _ _ _ | .nil | .nst _ _ _ => (xi9 P r).map (x :: ·)
  | .sub e ks l => (xi9 P r).map ({ x with body := .row e ks l } :: ·)
  | .arr e sz els => match xe6 P (.arr e sz els) with
   | some (e, ks, l) => (xi9 P r).map ({ x with body := .row e ks l } :: ·)
   | none => none
  | _ => none
abbrev xie := FuncId → List AV → Heap → Tree (AV × Heap)
abbrev Con := FuncId → List AV → List Obj → Option Eff
def xma (K : Nat) (es : List xfu) (i : Nat) : Nat :=
 match es[i]? with
 | some ⟨some k, _, _⟩ => k
 | some ⟨none, _, _⟩ => 0
 | none => K + (i - es.length)
def xzq (K : Nat) (es : List xfu) (x : Eff) : Option Eff :=
 if x.rm.isEmpty && x.add.all (fun o => Nat.ble es.length o.key && xbG o.body) && (AV.keys x.v).all (fun i => match es[i]? with | some ⟨none, _, _⟩ => false | _ => true) then
  some ⟨x.p, [], x.nk, x.add.map fun o => ⟨xma K es o.key, K, o.own, o.body⟩, x.v.ren (xma K es)⟩
 else none
section exec
variable (P : Program) (Γ : Con) (call : xie) (yld : Nat → List AV → Heap → Tree (AV × Heap))
def xCg (f : FuncId) : List TypeId := match P.funcs[f]? with | some fn => fn.params.toList | none => []
def xDo (f : FuncId) (args : List AV) : Bool :=
 args.any (fun a => match a with | .val (.slice none 0 0) => true | _ => false) && (AV.keysL args).isEmpty && (Γ f (AV.weakL args) []).isSome
def xxH (f : FuncId) (args : List AV) (objs : List Obj) (K : Nat) : Option (List Nat × Eff) :=
 match canL P objs (match xDo Γ f args with | true => [] | false => xCg P f) args [] with
 | some (args', es0) => match xi9 P es0 with
  | some es => match xtC 0 es with
   | some objs' => match Γ f (AV.weakL args') objs' with
    | some x => match xzq K es x with
     | some y => some (es.filterMap (·.key), y)
     | none => none
    | none => none
   | none => none
  | none => none
 | none => none
def xqW (objs : List Obj) : Nat → List AV → Option (List AV × List Obj × List Nat × Option Prop)
 | _, [] => some ([], [], [], none)
 | K, a :: r => match isVw a with
  | true => match srcA P objs a, xqW objs (K + 1) r with
   | some (k, b, p), some (r', add, ft, q) => some (.sl K :: r', ⟨K, 0, false, b⟩ :: add, k :: ft, xuz p q)
   | _, _ => none
  | false => match xqW objs K r with
   | some (r', add, ft, q) => some (a :: r', add, ft, q)
   | none => none
def xyH (f : FuncId) (args : List AV) (objs : List Obj) (K : Nat) : Option (List Nat × Eff) :=
 match args.any isVw with
 | false => xxH P Γ f args objs K
 | true => match xqW P objs K args with
  | some (args', add, ft, p) => match xxH P Γ f args' (add ++ objs.filter fun o => Nat.blt o.key K) (K + add.length) with
   | some (ft', x) => some (ft ++ ft'.filter fun k => Nat.blt k K, { x with p := xuz p x.p, nk := match Nat.beq x.nk 0 && x.add.isEmpty && (AV.keys x.v).all (fun k => Nat.blt k K) with | true => 0 | false => add.length + x.nk })
   | none => none
  | none => none
def frozen (l : List Obj) : List Obj := l.map fun o => { o with own := false, body := xAq o.body }
def xqS {α : Type} (p : α → Bool) : Tree α → Bool
 | .ret a => p a
 | .br _ t e => xqS p t || xqS p e
 | .need _ t => xqS p t
 | .ask _ t e => xqS p t || xqS p e
 | .bad => false
def xAW (args : List AV) (objs : List Obj) : List Obj := objs.filter fun o => o.own && (AV.keysL args).any (Nat.beq o.key)
def xD0 (own : List Obj) (t : Tree (AV × Heap)) : Bool := xqS (fun x => own.any fun o => !(x.2.objs.any fun o' => Nat.beq o'.key o.key && Nat.beq o'.ver o.ver)) t
def xCA (f : FuncId) (args : List AV) (objs : List Obj) (K : Nat) : Option Eff :=
 match xyH P Γ f args objs K with
 | some (_, x) => some x
 | none => match !(xAW args objs).isEmpty && xD0 (xAW args objs) (call f args ⟨objs, K⟩) with
  | true => none
  | false => xae P K (call f args ⟨frozen objs, K⟩)
def isYl : AV → Bool
 | .yl _ => true
 | _ => false
def xEv (f : FuncId) (args : List AV) (objs : List Obj) (K : Nat) : Option Eff := match args.any isYl with | true => none | false => xCA P Γ call f args objs K
def xDL (f : FuncId) (args : List AV) (objs : List Obj) (K : Nat) : Option Eff :=
 match args with
 | .sl key :: rest => match AV.keysL rest with
  | [] => match xai key objs with
   | some ⟨_, _, true, b⟩ => match xe6 P b with
    | some (e, ks, l) => match Γ f (.sl 0 :: AV.weakL rest) [⟨0, 0, true, .row e ks l⟩] with
     | some x => match x.rm, x.add with
      | [_], [⟨_, _, _, .row e' ks' l'⟩] => some ⟨x.p, [key], 0, [⟨key, K, true, .row e' ks' l'⟩], x.v.ren fun _ => key⟩
      | _, _ => none
     | none => none
    | none => none
   | _ => none
  | _ => none
 | _ => none
def xCR : Option AV → Bool
 | some (.val (.slice none 0 0)) => true
 | _ => false
def xA2 (rd : Operand → Option AV) (objs : List Obj) (op : BinOp) (t : TypeId) (x y : Operand) : Option (Prop × Bool) :=
 match (match op with | .eql => some true | .neq => some false | _ => none), P.underlying t with
 | some b, some (.slice _) => if xCR (rd y) then (match rd x with
  | some (.sl key) => match xai key objs with
   | some o => match xe6 P o.body with
    | some (_, _ :: _, l) => some (l = [], b)
    | _ => none
   | none => none
  | _ => none) else none
 | _, _ => none
def xtZ (o : Oper) (s : xaY) (H : Heap) (ctx : Ctx) : Tree RCfg :=
 let rd := readS ctx s
 match o.op with
 | .pick c a b => match xvP ctx s c a b with
  | some v => .ret (put s o.dst (xkY ctx v), H)
  | none => .bad
 | .call { callee := .value f, args, .. } => match rd f, xmM rd args.toList with
  | some (.fn (.func fi) first caps), some vs =>
   match xDL P Γ fi (first ++ vs ++ caps) H.objs H.next with
   | some x => xtL s H o.dst ctx x
   | none => match xEv P Γ call fi (first ++ vs ++ caps) H.objs H.next with
   | some x => xtL s H o.dst ctx x
   | none => match ctx with
    | [] => (call fi (first ++ vs ++ caps) H).bind fun (v, H') => .ret (put s o.dst (.is v), H')
    | c :: r => brG (c :: r).reverse s (fun s => (call fi (first ++ vs ++ caps) H).bind fun (v, H') => .ret (put s o.dst (.is v), H')) (fun s => .ret (put s o.dst (.is (.val undef)), H))
  | some (.yl key), some vs =>
   match ctx with
   | [] => (yld key vs H).bind fun (v, H') => .ret (put s o.dst (.is v), H')
   | c :: r => brG (c :: r).reverse s (fun s => (yld key vs H).bind fun (v, H') => .ret (put s o.dst (.is v), H')) (fun s => .ret (put s o.dst (.is (.val undef)), H))
  | _, _ => .bad
 | op => match xp9 P rd H.objs H.next op with
  | some x => xtL s H o.dst ctx x
  | none => match op with
   | .binOp bo t x y _ => match xA2 P rd H.objs bo t x y with
    | some (p, v) => .ask p (.ret (put s o.dst (xkY ctx (.val (.bool v))), H)) (.ret (put s o.dst (xkY ctx (.val (.bool !v))), H))
    | none => .bad
   | _ => .bad
def xgh (N : Nat) (d : Option Nat) (seen : List Nat) : Option (List Nat) :=
 match d with
 | none => some seen
 | some d => if Nat.blt d N && !(seen.any (Nat.beq d)) then some (d :: seen) else none
def xjX (N : Nat) (ops : Array Oper) : List Oper → List Nat → xaY → Heap → Tree RCfg
 | [], _, s, H => .ret (s, H)
 | o :: rest, seen, s, H =>
  match xgh N o.dst seen with
  | none => .bad
  | some seen' =>
   match xoI ops o with
   | some none => (xtZ P Γ call yld o s H []).bind fun (s', H') => xjX N ops rest seen' s' H'
   | some (some (g, want)) =>
    if seen.any (Nat.beq g) then
     match xlm s g want with
     | some true => (xtZ P Γ call yld o s H []).bind fun (s', H') => xjX N ops rest seen' s' H'
     | some false => xjX N ops rest seen' (put s o.dst (.is (.val undef))) H
     | none => match xbo s 9 g want with
      | some ctx => (xtZ P Γ call yld o s H ctx).bind fun (s', H') => xjX N ops rest seen' s' H'
      | none => .bad
    else .bad
   | none => .bad
structure Item where
 o : Oper
 ctx : Ctx
 x : Eff
 key : Nat
 /-- it reads whatever was there when the region began -/
 all : Bool
 /-- it reads these objects -/
 foot : List Nat
 /-- its guard surely holds -/
 sure : Bool := false
def Item.slot (it : Item) : Slot := if it.x.pure then xkY it.ctx it.x.v else .is it.x.v
def Item.touch (it : Item) (key : Nat) : Bool := it.x.rm.any (Nat.beq key) || (Nat.ble it.key key && Nat.blt key (it.key + it.x.nk))
def Item.need (it : Item) : Option Prop := it.x.p.map (xxB it.ctx)
def xx7 : Body → Bool
 | .loop .. => false
 | _ => true
def Item.fine (it : Item) : Bool :=
 (it.x.pure || it.ctx.isEmpty || it.sure) && it.x.rm.all (fun k => Nat.blt k it.key) &&
 it.x.add.all (fun o => it.touch o.key && Nat.ble it.key o.ver && xx7 o.body && (AV.keysL o.body.cellsOf).all fun k => Nat.blt k (it.key + it.x.nk)) &&
 (AV.keys it.x.v).all (fun k => Nat.blt k (it.key + it.x.nk))
def keyOf : Option AV → List Nat
 | some (.ptr key _) => [key]
 | some (.ix key _ _ _ _) => [key]
 | some (.sl key) => [key]
 | some (.vw key _ _ _) => [key]
 | _ => []
def xxi : Option AV → List Nat
 | some v => AV.keysL v.cells
 | none => []
def xte (rd : Operand → Option AV) : Op → List Nat
 | .load _ x => keyOf (rd x)
 | .store _ x _ => keyOf (rd x)
 | .indexAddr _ x _ => keyOf (rd x)
 | .fieldAddr _ x _ => keyOf (rd x)
 | .slice _ x _ _ _ => keyOf (rd x)
 | .lookup _ x _ _ => keyOf (rd x)
 | .mapUpdate _ x _ _ => keyOf (rd x)
 | .call { args, .. } => args.toList.flatMap fun x => keyOf (rd x)
 | .buildSlice _ _ parts => parts.toList.flatMap fun p => xxi (rd p.2)
 | _ => []
def xwE (o : Oper) (s : xaY) (objs0 : List Obj) (H : Heap) (ctx : Ctx) : Option Item :=
 let rd := readS ctx s
 match o.op with
 | .pick c a b => match xvP ctx s c a b with
  | some v => some ⟨o, ctx, ⟨none, [], 0, [], v⟩, H.next, false, [], false⟩
  | none => none
 | .call { callee := .value f, args, .. } => match rd f, xmM rd args.toList with
  | some (.fn (.func fi) first caps), some vs =>
   match xyH P Γ fi (first ++ vs ++ caps) H.objs H.next with
   | some (ft, x) => some ⟨o, ctx, x, H.next, false, ft, false⟩
   | none => match xae P H.next (call fi (first ++ vs ++ caps) ⟨frozen objs0, H.next⟩) with
    | some x => some ⟨o, ctx, x, H.next, true, [], false⟩
    | none => none
  | _, _ => none
 | op => match xp9 P rd H.objs H.next op with
  | some x => some ⟨o, ctx, x, H.next, false, xte rd op, false⟩
  | none => none
def xyA (ops : Array Oper) (o : Oper) (s : xaY) (seen : List Nat) : Option Ctx :=
 match xoI ops o with
 | some none => some []
 | some (some (g, want)) => if seen.any (Nat.beq g) then xbo s 9 g want else none
 | none => none
def xzx (as : List (Nat × Bool)) (it : Item) : Item :=
 match it.o.dst with
 | some d => match as.find? (fun y => Nat.beq y.1 d) with
  | some (_, v) => (match it.x.v with
   | .bool b => { it with x := { it.x with p := xuz it.x.p (some (b = v)), v := .val (.bool v) } }
   | _ => it)
  | none => it
 | none => it
def xBi (ops : Array Oper) (o : Oper) (s : xaY) : Option Bool :=
 match xoI ops o with
 | some (some (g, want)) => xlm s g want
 | _ => none
def xB0 (as : List (Nat × Bool)) (ops : Array Oper) (o : Oper) (s : xaY) (objs0 : List Obj) (H : Heap) (ctx : Ctx) : Option Item :=
 match xBi ops o s with
 | some false => some ⟨o, ctx, ⟨none, [], 0, [], .val undef⟩, H.next, false, [], false⟩
 | some true => (xwE P Γ call o s objs0 H ctx).map fun it => { xzx as it with sure := true }
 | none => (xwE P Γ call o s objs0 H ctx).map fun it => { xzx as it with sure := false }
def runD (as : List (Nat × Bool)) (N : Nat) (ops : Array Oper) (objs0 : List Obj) : List Oper → List Nat → xaY → Heap → Option (List Item)
 | [], _, _, _ => some []
 | o :: rest, seen, s, H =>
  match xgh N o.dst seen, xyA ops o s seen with
  | some seen', some ctx => match xB0 P Γ call as ops o s objs0 H ctx with
   | some it => if it.fine then (match runD as N ops objs0 rest seen' (put s o.dst it.slot) (H.eff it.x) with | some l => some (it :: l) | none => none) else none
   | none => none
  | _, _ => none
def xCT (as : List (Nat × Bool)) (N : Nat) (ops : Array Oper) (objs0 : List Obj) : List Oper → List Nat → xaY → Heap → Option (Nat × Bool)
 | [], _, _, _ => none
 | o :: rest, seen, s, H =>
  match xgh N o.dst seen, xyA ops o s seen with
  | some seen', some ctx => match xB0 P Γ call as ops o s objs0 H ctx with
   | some it => if it.fine then xCT as N ops objs0 rest seen' (put s o.dst it.slot) (H.eff it.x) else match ctx.getLast? with
    | some (g, _, b) => if as.any (fun y => Nat.beq y.1 g) then none else some (g, b)
    | none => none
   | none => none
  | _, _ => none
def xrO (it : Item) : List Nat :=
 (it.o.op.operands.toList.filterMap fun | .tmp t => some t | _ => none) ++ it.ctx.map (·.1)
def xgj : List Oper → List Nat → List Nat
 | [], acc => acc
 | o :: r, acc => CheckFast.force (CheckFast.one (fun i => acc.getD i 0) o) fun v => xgj r (acc ++ [v])
def xkL (M : List Nat) (j m : Nat) : Bool := if Nat.blt m j then (M.getD j 0).testBit m else (M.getD m 0).testBit j
def Item.names (it : Item) (lo hi : Nat) : Bool :=
 ((AV.keys it.x.v) ++ it.x.add.flatMap fun o => o.key :: AV.keysL o.body.cellsOf).any fun k => Nat.ble lo k && Nat.blt k hi
def xEb (l : List Nat) (y : Item) : Bool := l.any y.touch
def xy4 (M : List Nat) (next0 : Nat) (j : Nat) (x : Item) (m : Nat) (y : Item) : Bool :=
 Nat.beq j m || xkL M j m ||
 ((match y.o.dst with | some d => !((xrO x).any (Nat.beq d)) | none => true) &&
  !(xEb x.foot y) &&
  (!x.all || y.x.rm.all (Nat.ble next0)) &&
  !(x.x.rm.any y.touch) &&
  (Nat.beq x.x.nk 0 || !(y.names x.key (x.key + x.x.nk))))
def xDN (M : List Nat) (next0 : Nat) (j : Nat) (x : Item) (m : Nat) (y : Item) : Bool :=
 !x.all || y.x.rm.all (Nat.ble next0) || Nat.blt j m
def xAZ (next0 : Nat) (ops : Array Oper) (L : List Item) : Bool :=
 let M := xgj ops.toList []
 (ops.toList.zipIdx.all fun (o, i) => o.after.all fun e => !Region.binds .any e || Nat.blt e.on i) &&
 L.zipIdx.all fun (x, j) => L.zipIdx.all fun (y, m) => xy4 M next0 j x m y && xDN M next0 j x m y
def xbJ (S : Nat → Bool) : Nat → List Item → xaY → xaY
 | _, [], s => s
 | i, it :: r, s => xbJ S (i + 1) r (if S i then put s it.o.dst it.slot else s)
def xfS (S : Nat → Bool) : Nat → List Item → List Obj → List Obj
 | _, [], l => l
 | i, it :: r, l => xfS S (i + 1) r (if S i then xhc it.x l else l)
def xif : List Item → Nat → Nat
 | [], n => n
 | it :: r, n => xif r (n + it.x.nk)
def xya {α : Type} : List Item → Tree α → Tree α
 | [], t => t
 | it :: r, t => match it.need with | some p => .need p (xya r t) | none => xya r t
def xtt (N : Nat) (ops : Array Oper) (s : xaY) (H : Heap) : Nat → List (Nat × Bool) → Tree RCfg
 | 0, _ => .bad
 | n + 1, as => match runD P Γ call as N ops H.objs ops.toList [] s H with
  | some L => if P.follows .mixedOrders && xAZ H.next ops L then xya L (.ret (xbJ (fun _ => true) 0 L s, ⟨xfS (fun _ => true) 0 L H.objs, xif L H.next⟩)) else .bad
  | none => match xCT P Γ call as N ops H.objs ops.toList [] s H with
   | some (g, b) => .br b (xtt N ops s H n ((g, true) :: as)) (xtt N ops s H n ((g, false) :: as))
   | none => .bad
def xqM (N : Nat) (ops : Array Oper) (s : xaY) (H : Heap) : Tree RCfg := xtt P Γ call N ops s H 6 []
structure Cfg where
 tmps : Nat → Option AV
 heap : Heap
def xas (f : Nat → Option AV) : xaY := fun t => match f t with | some v => .is v | none => .junk
def xhY (s : xaY) : Nat → Option AV := fun t => match s t with | .is v => some v | _ => none
inductive xdI where
 | normal
 | exit (id : Nat)
 | ret
end exec
inductive U where
 | i (n : Int)
 | b (b : Bool)
 | r (l : List (List Int))
 deriving Inhabited
def gi (xs : List U) (j : Nat) : Int := match xs[j]? with | some (.i n) => n | _ => 0
def gb (xs : List U) (j : Nat) : Bool := match xs[j]? with | some (.b b) => b | _ => false
def gr (xs : List U) (j : Nat) : List (List Int) := match xs[j]? with | some (.r l) => l | _ => []
def xkg (step : List U → Option (Nat × List U)) : Nat → List U → Option (Nat × List U)
 | 0, _ => none
 | n + 1, xs => match step xs with
  | some (0, ys) => xkg step n ys
  | some (m + 1, ys) => some (m + 1, ys)
  | none => none
def xay (step : List U → Option (Nat × List U)) (xs : List U) : Prop := ∃ n r, xkg step n xs = some r
noncomputable def xaC (step : List U → Option (Nat × List U)) (xs : List U) : Nat × List U := by
 classical exact if h : xay step xs then h.choose_spec.choose else (0, [])
inductive RT where
 | row (e : TypeId) (ks : List CK)
 | nst (e : TypeId) (ks : List NK)
 | sub (e : TypeId) (ks : List CK)
def RT.body : RT → List (List Int) → Body
 | .row e ks, l => .row e ks l
 | .nst e ks, l => .nst e ks l
 | .sub e ks, l => .sub e ks l
def RT.own : RT → Bool
 | .sub _ _ => false
 | _ => true
def rtOf (P : Program) (b : Body) : Option RT :=
 match xe6 P b with
 | some (e, ks, _) => some (match xqD b with | true => .sub e ks | false => .row e ks)
 | none => match b with
  | .nst e ks _ => some (.nst e ks)
  | _ => none
def RT.join : RT → RT → RT
 | .row e ks, .sub _ _ => .sub e ks
 | t, _ => t
structure Spec where
 slots : List (Nat × AV)
 objs : List Obj
 rows : List RT
 base : Nat
 drop : List Nat
mutual
/-- A shape filled with xlg from the j-th on. -/
def xhb (xs : List U) : AV → Nat → AV × Nat
 | .bool _, j => (.bool (gb xs j), j + 1)
 | .int k _, j => (.int k (gi xs j), j + 1)
 | .fn f a b, j => match xe2 xs a j with | (a', j1) => match xe2 xs b j1 with | (b', j2) => (.fn f a' b', j2)
 | .agg cs, j => match xe2 xs cs j with | (cs', j1) => (.agg cs', j1)
 | .tup cs, j => match xe2 xs cs j with | (cs', j1) => (.tup cs', j1)
 | v, j => (v, j)
def xe2 (xs : List U) : List AV → Nat → List AV × Nat
 | [], j => ([], j)
 | a :: r, j => match xhb xs a j with | (a', j1) => match xe2 xs r j1 with | (r', j2) => (a' :: r', j2)
end
def xln (xs : List U) : List (List AV) → Nat → List (List AV) × Nat
 | [], j => ([], j)
 | a :: r, j => match xe2 xs a j with | (a', j1) => match xln xs r j1 with | (r', j2) => (a' :: r', j2)
def xjV (xs : List U) : Body → Nat → Body × Nat
 | .cells cs, j => match xe2 xs cs j with | (cs', j1) => (.cells cs', j1)
 | .row e ks _, j => (.row e ks (gr xs j), j + 1)
 | .nst e ks _, j => (.nst e ks (gr xs j), j + 1)
 | .sub e ks _, j => (.sub e ks (gr xs j), j + 1)
 | .mp kt et q m ke _, j => (.mp kt et q m ke (gr xs j), j + 1)
 | .arr e sz els, j => match xln xs els j with | (els', j1) => (.arr e sz els', j1)
 | b, j => (b, j)
def xbq (xs : List U) : List (Nat × AV) → Nat → List (Nat × AV) × Nat
 | [], j => ([], j)
 | (t, v) :: r, j => match xhb xs v j with | (v', j1) => match xbq xs r j1 with | (r', j2) => ((t, v') :: r', j2)
def xbQ (ver : Nat) (xs : List U) : List Obj → Nat → List Obj × Nat
 | [], j => ([], j)
 | o :: r, j => match xjV xs o.body j with | (b, j1) => match xbQ ver xs r j1 with | (r', j2) => (⟨o.key, ver, o.own, b⟩ :: r', j2)
def xeC (ver : Nat) (xs : List U) : Nat → List RT → Nat → List Obj
 | _, [], _ => []
 | k, t :: r, j => ⟨k, ver, t.own, t.body (gr xs j)⟩ :: xeC ver xs (k + 1) r (j + 1)
def xgO (t : Nat) : List (Nat × AV) → Option AV
 | [] => none
 | (t', v) :: r => if Nat.beq t t' then some v else xgO t r
def xii (k : Nat) : List Obj → Bool
 | [] => false
 | o :: r => Nat.beq o.key k || xii k r
def xtc (k : Nat) : List Obj → Bool
 | [] => false
 | o :: r => (Nat.beq o.key k && o.own) || xtc k r
def Spec.still (S : Spec) (l : List Obj) : List Obj := l.filter fun o => !(xii o.key S.objs) && !(S.drop.any (Nat.beq o.key))
def Spec.gen (S : Spec) (st : List Obj) (wr : List Nat) (tm : Nat → Option AV) (xs : List U) : Cfg :=
 match xbq xs S.slots 0 with
 | (sl, j1) => match xbQ S.base xs S.objs j1 with
  | (ob, j2) => ⟨fun t => match xgO t sl with | some v => some v | none => if wr.any (Nat.beq t) then none else tm t,
    ⟨ob ++ xeC S.base xs S.base S.rows j2 ++ st, S.base + S.rows.length + 1⟩⟩
structure MS where
 km : List (Nat × Option Nat)
 us : List U
def xiT (k : Nat) : List (Nat × Option Nat) → Option (Option Nat)
 | [] => none
 | (k', v) :: r => if Nat.beq k k' then some v else xiT k r
def addK (k : Nat) (v : Option Nat) (m : MS) : Option MS :=
 match xiT k m.km with
 | none => some { m with km := (k, v) :: m.km }
 | some u => if u = v then some m else none
def xB7 : Value → Value → Bool
 | .bool a, .bool b => a == b
 | .int k a, .int k' b => if k = k' then decide (a = b) else false
 | .pointer none, .pointer none => true
 | .slice none 0 0, .slice none 0 0 => true
 | .map none, .map none => true
 | .nilFunc, .nilFunc => true
 | .nilIface, .nilIface => true
 | _, _ => false
mutual
/-- The xlg of a value of some shape. -/
def xgr (base : Nat) : AV → AV → MS → Option MS
 | .bool _, v, m => match v.weak with | .bool b => some { m with us := .b b :: m.us } | _ => none
 | .int k _, v, m => match v.weak with | .int k' n => if k = k' then some { m with us := .i n :: m.us } else none | _ => none
 | .val c, .val c', m => if xB7 c c' then some m else none
 | .ptr k off, .ptr k' off', m => if k = k' ∧ off = off' ∧ k < base then some m else none
 | .yl k, .yl k', m => if k = k' ∧ k < base then some m else none
 | .sl k, .sl k', m => if Nat.blt k base then (if k = k' then some m else none) else addK k (some k') m
 | .sl k, .val (.slice none 0 0), m => if Nat.blt k base then none else addK k none m
 | .fn f a b, .fn f' a' b', m => if f = f' then (match xmW base a a' m with | some m' => xmW base b b' m' | none => none) else none
 | .agg cs, .agg cs', m => xmW base cs cs' m
 | .tup cs, .tup cs', m => xmW base cs cs' m
 | _, _, _ => none
def xmW (base : Nat) : List AV → List AV → MS → Option MS
 | [], [], m => some m
 | a :: r, a' :: r', m => match xgr base a a' m with | some m' => xmW base r r' m' | none => none
 | _, _, _ => none
end
def xqz (base : Nat) : List (List AV) → List (List AV) → MS → Option MS
 | [], [], m => some m
 | a :: r, a' :: r', m => match xmW base a a' m with | some m' => xqz base r r' m' | none => none
 | _, _, _ => none
def xvA : Option Code → Option Code → Bool
 | none, none => true
 | some .ret, some .ret => true
 | some (.exit a), some (.exit b) => Nat.beq a b
 | _, _ => false
def xfT (P : Program) (base : Nat) : Body → Body → MS → Option MS
 | .cells cs, .cells cs', m => xmW base cs cs' m
 | .row e ks _, b, m => match b with
  | .nil => some { m with us := .r [] :: m.us }
  | b => match xe6 P b with
   | some (e', ks', l) => if e = e' ∧ ks = ks' then some { m with us := .r l :: m.us } else none
   | none => none
 | .nst e ks _, b, m => match b with
  | .nil => some { m with us := .r [] :: m.us }
  | .nst e' ks' l => if e = e' ∧ ks = ks' then some { m with us := .r l :: m.us } else none
  | _ => none
 | .sub e ks _, .sub e' ks' l, m => if e = e' ∧ ks = ks' then some { m with us := .r l :: m.us } else none
 | .arr e sz els, .arr e' sz' els', m => if e = e' ∧ sz = sz' then xqz base els els' m else none
 | .nil, .nil, m => some m
 | .mp kt et q n ke _, .mp kt' et' q' n' ke' l, m => if kt = kt' ∧ et = et' ∧ q = q' ∧ n = n' ∧ ke = ke' then some { m with us := .r l :: m.us } else none
 | .fin st pend, .fin st' pend', m => if Nat.beq st st' && xvA pend pend' then some m else none
 | _, _, _ => none
def xlf (base : Nat) (tmps : Nat → Option AV) : List (Nat × AV) → MS → Option MS
 | [], m => some m
 | (t, s) :: r, m => match tmps t with
  | some v => match xgr base s v m with | some m' => xlf base tmps r m' | none => none
  | none => none
def xmV (P : Program) (base : Nat) (objs : List Obj) : List Obj → MS → Option MS
 | [], m => some m
 | o :: r, m => match xai o.key objs with
  | some o' => if o.own = o'.own ∨ o.own = false then (match xfT P base o.body o'.body m with | some m' => xmV P base objs r m' | none => none) else none
  | none => none
def xw9 (P : Program) (t : RT) (own : Bool) (b : Body) (m : MS) : Option MS :=
 match t with
 | .sub e ks => (match own || xqD b with | true => xfT P 0 (.row e ks []) b m | false => none)
 | .row e ks => (match own with | true => xfT P 0 (.row e ks []) b m | false => none)
 | .nst e ks => (match own with | true => xfT P 0 (.nst e ks []) b m | false => none)
def xmT (P : Program) (objs : List Obj) : Nat → List RT → MS → Option MS
 | _, [], m => some m
 | k, t :: r, m => match xiT k m.km with
  | some (some k') => match xai k' objs with
   | some ⟨_, _, own, b⟩ => match xw9 P t own b m with | some m' => xmT P objs (k + 1) r m' | none => none
   | _ => none
  | _ => xmT P objs (k + 1) r { m with us := .r [] :: m.us }
def xm9 : List Nat → Bool
 | [] => true
 | a :: r => !(r.any (Nat.beq a)) && xm9 r
def xsi (objs : List Obj) (ver : Nat) : List Obj → Bool
 | [] => true
 | o :: r => (match xai o.key objs with | some o' => Nat.blt o'.ver ver | none => false) && xsi objs ver r
def Spec.match_ (P : Program) (S : Spec) (st : List Obj) (ver : Nat) (c : Cfg) : Option (List U) :=
 match xlf S.base c.tmps S.slots ⟨[], []⟩ with
 | some m1 => match xmV P S.base c.heap.objs S.objs m1 with
  | some m2 => match xmT P c.heap.objs S.base S.rows m2 with
   | some m3 =>
    if xm9 (m2.km.filterMap (·.2)) && (m2.km.all fun x => Nat.blt x.1 (S.base + S.rows.length) && Nat.ble S.base x.1) && ((m2.km.filterMap (·.2)).all fun k => !(xii k S.objs) && !(xtc k st)) &&
     xm9 (S.objs.map (·.key)) && (S.objs.all fun o => Nat.blt o.key S.base && !(xii o.key st)) && xsi c.heap.objs ver st
    then some m3.us.reverse else none
   | none => none
  | none => none
 | none => none
def xdI.same : xdI → xdI → Bool
 | .normal, .normal => true
 | .ret, .ret => true
 | .exit a, .exit b => Nat.beq a b
 | _, _ => false
def xlg {α : Type} : Tree α → List α
 | .ret a => [a]
 | .br _ t e => xlg t ++ xlg e
 | .need _ t => xlg t
 | .ask _ t e => xlg t ++ xlg e
 | .bad => []
def xdG : Code → List Nat
 | .region _ ops _ => ops.toList.filterMap (·.dst)
 | .seq a b => xdG a ++ xdG b
 | .cond _ a b => xdG a ++ xdG b
 | .block _ a => xdG a
 | .loop a => xdG a
 | .scope a => xdG a
 | _ => []
def xy2 (objs : List Obj) : Nat → List Nat → List Nat → List Nat
 | 0, _, acc => acc
 | _ + 1, [], acc => acc
 | n + 1, k :: r, acc => if acc.any (Nat.beq k) then xy2 objs n r acc else
  match xai k objs with
  | some o => xy2 objs n (AV.keysL o.body.cellsOf ++ r) (k :: acc)
  | none => xy2 objs n r (k :: acc)
def restrict (next : Nat) (roots : List Nat) (H : Heap) : Heap :=
 let old := H.objs.filter fun o => Nat.blt o.key next
 let ks := xy2 H.objs 200 (roots ++ old.flatMap fun o => AV.keysL o.body.cellsOf) []
 { H with objs := H.objs.filter fun o => Nat.blt o.key next || ks.any (Nat.beq o.key) }
def xib : List Nat → List Nat → List Nat
 | [], acc => acc.reverse
 | a :: r, acc => if acc.any (Nat.beq a) then xib r acc else xib r (a :: acc)
mutual
def xEd (P : Program) (base : Nat) (H0 H1 : List Obj) (rows : List RT) : AV → AV → Option (AV × List RT)
 | .val c, .val c' => if xB7 c c' then some (.val c, rows) else
  (match (AV.val c).weak, (AV.val c').weak with
  | .bool b, .bool _ => some (.bool b, rows)
  | .int k n, .int k' _ => if k = k' then some (.int k n, rows) else none
  | _, _ => none)
 | .val (.bool b), .bool _ => some (.bool b, rows)
 | .val (.int k n), .int _ _ => some (.int k n, rows)
 | .bool b, v => match v.weak with | .bool _ => some (.bool b, rows) | _ => none
 | .int k n, v => match v.weak with | .int k' _ => if k = k' then some (.int k n, rows) else none | _ => none
 | .ptr k off, .ptr k' off' => if k = k' ∧ off = off' then some (.ptr k off, rows) else none
 | .yl k, .yl k' => if k = k' then some (.yl k, rows) else none
 | .sl k, .sl k' => if Nat.ble base k then some (.sl k, rows) else if k = k' then some (.sl k, rows) else
  (match (xai k' H1).bind fun o => rtOf P o.body with
  | some t => some (.sl (base + rows.length), rows ++ [match (xai k H0).bind fun o => rtOf P o.body with | some t' => t.join t' | none => t])
  | none => none)
 | .val (.slice none 0 0), .sl k' => (match (xai k' H1).bind fun o => rtOf P o.body with
  | some t => some (.sl (base + rows.length), rows ++ [t])
  | none => none)
 | .sl k, .val (.slice none 0 0) => if Nat.ble base k then some (.sl k, rows) else
  (match (xai k H0).bind fun o => rtOf P o.body with
  | some t => some (.sl (base + rows.length), rows ++ [t])
  | none => none)
 | .fn f a b, .fn f' a' b' => if f = f' then (match xyo P base H0 H1 rows a a' with
  | some (x, rows1) => match xyo P base H0 H1 rows1 b b' with
   | some (y, rows2) => some (.fn f x y, rows2)
   | none => none
  | none => none) else none
 | .agg cs, .agg cs' => (match xyo P base H0 H1 rows cs cs' with | some (x, r) => some (.agg x, r) | none => none)
 | .tup cs, .tup cs' => (match xyo P base H0 H1 rows cs cs' with | some (x, r) => some (.tup x, r) | none => none)
 | _, _ => none
def xyo (P : Program) (base : Nat) (H0 H1 : List Obj) (rows : List RT) : List AV → List AV → Option (List AV × List RT)
 | [], [] => some ([], rows)
 | a :: r, a' :: r' => match xEd P base H0 H1 rows a a' with
  | some (x, rows1) => match xyo P base H0 H1 rows1 r r' with
   | some (y, rows2) => some (x :: y, rows2)
   | none => none
  | none => none
 | _, _ => none
end
def xCP (P : Program) (base : Nat) (H0 H1 : List Obj) (rows : List RT) : List (List AV) → List (List AV) → Option (List (List AV) × List RT)
 | [], [] => some ([], rows)
 | a :: r, a' :: r' => match xyo P base H0 H1 rows a a' with
  | some (x, rows1) => match xCP P base H0 H1 rows1 r r' with
   | some (y, rows2) => some (x :: y, rows2)
   | none => none
  | none => none
 | _, _ => none
def xEe (P : Program) (base : Nat) (H0 H1 : List Obj) (rows : List RT) (x y : Body) : Option (Body × List RT) :=
 match x, y with
 | .cells cs, .cells cs' => (xyo P base H0 H1 rows cs cs').map fun z => (.cells z.1, z.2)
 | .mp kt et q m ke l, .mp _ _ _ _ _ _ => some (.mp kt et q m ke l, rows)
 | .nst e ks l, .nst _ _ _ => some (.nst e ks l, rows)
 | .arr e sz els, .arr e' sz' els' => (match xCP P base H0 H1 rows els els' with
  | some z => some (.arr e sz z.1, z.2)
  | none => match xe6 P (.arr e sz els), xe6 P (.arr e' sz' els') with
   | some (e, ks, l), some _ => some (.row e ks l, rows)
   | _, _ => none)
 | x, y => match xe6 P x, xe6 P y with
  | some (e, ks, l), some _ => some (.row e ks l, rows)
  | _, _ => none
def xs8 (P : Program) (base : Nat) (H0 H1 : List Obj) (tmps : Nat → Option AV) : List RT → List (Nat × AV) → List (Nat × AV) × List RT
 | rows, [] => ([], rows)
 | rows, (t, v) :: r => match (tmps t).bind (xEd P base H0 H1 rows v) with
  | some (v', rows1) => match xs8 P base H0 H1 tmps rows1 r with | (r', rows2) => ((t, v') :: r', rows2)
  | none => xs8 P base H0 H1 tmps rows r
def xzg (P : Program) (base ver : Nat) (H0 H1 : List Obj) : List Obj → Spec → Spec
 | [], S => S
 | o :: r, S => xzg P base ver H0 H1 r (
  match xai o.key H1 with
  | none => if S.drop.any (Nat.beq o.key) then S else { S with drop := o.key :: S.drop, objs := S.objs.filter fun x => !(Nat.beq x.key o.key) }
  | some o' => if xii o.key S.objs || S.drop.any (Nat.beq o.key) then S else if Nat.blt o'.ver ver then S else
   match xEe P base H0 H1 S.rows o.body o'.body with
   | some (b, rows) => { S with objs := S.objs ++ [⟨o.key, 0, o.own && o'.own, b⟩], rows := rows }
   | none => S)
def xAP (P : Program) (base : Nat) (H0 H1 : List Obj) : List Obj → Spec → Spec
 | [], S => S
 | o :: r, S => match (xai o.key H1).bind fun o' => (xEe P base H0 H1 S.rows o.body o'.body).map fun z => (z, o'.own) with
  | some ((b, rows), ow) => xAP P base H0 H1 r { S with objs := S.objs ++ [⟨o.key, 0, o.own && ow, b⟩], rows := rows }
  | none => xAP P base H0 H1 r S
def Spec.join (P : Program) (S : Spec) (c0 c1 : Cfg) : Spec :=
 let ver := S.base + S.rows.length + 1
 match xs8 P S.base c0.heap.objs c1.heap.objs c1.tmps S.rows S.slots with
 | (sl, rows) =>
  let S1 := xAP P S.base c0.heap.objs c1.heap.objs S.objs { S with slots := sl, rows := rows, objs := [] }
  xzg P S.base ver c0.heap.objs c1.heap.objs (S.still c0.heap.objs) S1
def Spec.size (S : Spec) : Nat := S.slots.length + 1000 * (S.objs.length + S.rows.length + S.drop.length)
def Spec.enter (P : Program) (S : Spec) (c0 : Cfg) : Spec :=
 match xlf S.base c0.tmps S.slots ⟨[], []⟩ with
 | some m1 => match xmV P S.base c0.heap.objs S.objs m1 with
  | some m2 => let ks := (m2.km.filterMap (·.2)).filter fun k => xtc k c0.heap.objs; { S with drop := S.drop ++ ks.filter fun k => !(S.drop.any (Nat.beq k)), objs := S.objs.filter fun o => !(ks.any (Nat.beq o.key)) }
  | none => S
 | none => S
def xx8 : List (xdI × Cfg) → List Cfg
 | [] => []
 | (.normal, c) :: r => c :: xx8 r
 | _ :: r => xx8 r
def Spec.search (P : Program) (wr : List Nat) (c0 : Cfg) (body : Cfg → Tree (xdI × Cfg)) : Nat → Spec → Spec
 | 0, S => S
 | n + 1, S =>
  let ls := xlg (body (S.gen (S.still c0.heap.objs) wr c0.tmps []))
  let S1 := (xx8 ls).foldl (fun S c1 => S.join P c0 c1) S
  let S' := S1.enter P c0
  if Nat.beq S'.size S.size then S' else Spec.search P wr c0 body n S'
def xju (tmps : Nat → Option AV) : List Nat → List (Nat × AV)
 | [] => []
 | t :: r => match tmps t with
  | some (.val (.tuple _)) => xju tmps r
  | some v => (t, v.weak) :: xju tmps r
  | none => xju tmps r
def xv6 : AV → Bool
 | .val v => match v with
  | .bool _ | .int _ _ | .string _ | .slice _ _ _ | .pointer _ | .map _ | .nilFunc | .nilIface | .agg _ | .func _ _ _ => false
  | _ => true
 | _ => false
def xrZ (tmps : Nat → Option AV) : List Nat → List (Nat × AV)
 | [] => []
 | t :: r => match tmps t with
  | some v => if xv6 v then xrZ tmps r else (t, v) :: xrZ tmps r
  | none => xrZ tmps r
def xwZ (S : Spec) (st : List Obj) (ver : Nat) (res : List Nat) : Nat → List (xdI × Cfg) → List (Nat × xdI × Spec)
 | _, [] => []
 | n, (x, c) :: r => match x with
  | .normal => xwZ S st ver res (n + 1) r
  | x =>
   let ts := match x with | .ret => res | _ => S.slots.map (·.1)
   let sl := xrZ c.tmps ts
   let H := restrict S.base (sl.flatMap fun y => AV.keys y.2) c.heap
   (n + 1, x, ⟨sl, H.objs.filter fun o => !(xii o.key st) || !(Nat.blt o.ver ver), [], c.heap.next, (st.filter fun o => !(xii o.key H.objs)).map (·.key)⟩) :: xwZ S st ver res (n + 1) r
def xbL (P : Program) (S : Spec) (st : List Obj) (ver : Nat) (outs : List (Nat × xdI × Spec)) : Tree (xdI × Cfg) → Nat → Tree (Nat × List U) × Nat
 | .ret (x, c), n => match x with
  | .normal => (match S.match_ P st ver c with | some us => .ret (0, us) | none => .bad, n + 1)
  | x => (match outs.find? (fun y => Nat.beq y.1 (n + 1)) with
   | some (_, y, T) => if y.same x && Nat.ble c.heap.next T.base then (match T.match_ P (T.still st) ver c with | some us => .ret (n + 1, us) | none => .bad) else .bad
   | none => .bad, n + 1)
 | .br b t e, n => match xbL P S st ver outs t n with | (t', n1) => match xbL P S st ver outs e n1 with | (e', n2) => (.br b t' e', n2)
 | .need p t, n => match xbL P S st ver outs t n with | (t', n1) => (.need p t', n1)
 | .ask p t e, n => match xbL P S st ver outs t n with | (t', n1) => match xbL P S st ver outs e n1 with | (e', n2) => (.ask p t' e', n2)
 | .bad, n => (.bad, n)
def tmOf (y : xdI) (tm : Nat → Option AV) : Nat → Option AV := match y with | .ret => fun _ => none | _ => tm
def brs (st : List Obj) (wr : List Nat) (tm : Nat → Option AV) (r : Nat × List U) : List (Nat × xdI × Spec) → Tree (xdI × Cfg)
 | [] => .bad
 | [(_, y, T)] => .ret (y, T.gen (T.still st) wr (tmOf y tm) r.2)
 | (n, y, T) :: rest => .br (Nat.beq r.1 n) (.ret (y, T.gen (T.still st) wr (tmOf y tm) r.2)) (brs st wr tm r rest)
def xvq (wr : List Nat) (S : Spec) : Bool := S.slots.all fun x => wr.any (Nat.beq x.1)
def xy5 (wr : List Nat) (outs : List (Nat × xdI × Spec)) : Bool := outs.all fun y => match y.2.1 with | .ret => true | _ => xvq wr y.2.2
inductive Ask where
 | known
 | unknown
 | on (c : Cfg)
section exec
variable (P : Program) (Γ : Con) (call : xie) (yld : Nat → List AV → Heap → Tree (AV × Heap))
def xDx (o : Oper) : Bool := match o.op with
 | .panic _ => true
 | _ => false
def xlo (N : Nat) (ops : Array Oper) (draw : Bool) (c : Cfg) : Tree RCfg :=
 match ops.toList.any xDx with
 | true => .ask False .bad .bad
 | false => if draw = false then xjX P Γ call yld N ops ops.toList [] (xas c.tmps) c.heap else xqM P Γ call N ops (xas c.tmps) c.heap
def xwd : Tree RCfg → Option RCfg
 | .ret x => some x
 | .need _ t => xwd t
 | .ask _ _ e => xwd e
 | _ => none
def ask (N : Nat) : Code → Cfg → Ask
 | .skip, c => .on c
 | .region _ ops draw, c => match xwd (xlo P Γ call yld N ops draw c) with
  | some (s, H) => .on ⟨xhY s, H⟩
  | none => .unknown
 | .seq a b, c => match ask N a c with
  | .on c' => ask N b c'
  | x => x
 | .cond x _ _, c => match readS [] (xas c.tmps) x with
  | some (.val (.bool _)) => .known
  | _ => .unknown
 | .block _ a, c => ask N a c
 | _, _ => .unknown
def cutK (key sz : Nat) (hi : Int) (H : Heap) : Option (Prop × Heap) :=
 match xai key H.objs with
 | some ⟨_, _, true, .row e ks l⟩ => if Nat.beq ks.length sz then some ((0 ≤ hi ∧ hi ≤ (l.length : Int)), ⟨⟨H.next, H.next, true, .row e ks (l.take hi.toNat)⟩ :: H.objs.filter (fun o => !(Nat.beq o.key key)), H.next + 1⟩) else none
 | _ => none
def xmj : List Nat → Cfg → Tree Cfg
 | [], c => .ret c
 | t :: r, c => match c.tmps t with
  | some (.vw key sz none hi) => (match cutK key sz hi c.heap with
   | some (p, H) => .need p (xmj r ⟨upd c.tmps t (some (.sl c.heap.next)), H⟩)
   | none => xmj r c)
  | _ => xmj r c
def xCQ : Option AV → Bool
 | some (.sl _) => true
 | some (.val (.slice none 0 0)) => true
 | _ => false
def xwL (wr : List Nat) (c : Cfg) (r : xdI × Cfg) : Tree (xdI × Cfg) :=
 match r.1 with
 | .ret => .ret r
 | x => (xmj (wr.filter fun t => xCQ (c.tmps t)) r.2).bind fun c' => .ret (x, c')
noncomputable def xh1 (res wr : List Nat) (body : Cfg → Tree (xdI × Cfg)) (c0 : Cfg) : Tree (xdI × Cfg) :=
 let S := Spec.search P wr c0 body 4 ⟨(xju c0.tmps wr).filter (fun x => !xv6 x.2), [], [], c0.heap.next, []⟩
 let st := S.still c0.heap.objs
 let ver := S.base + S.rows.length + 1
 let outs := xwZ S st ver res 0 (xlg (body (S.gen st wr c0.tmps [])))
 match S.match_ P st (c0.heap.next + 1) c0 with
 | some xs0 => if Nat.beq S.base c0.heap.next && xvq wr S && xy5 wr outs then
   .need (xay (fun xs => (xbL P S st ver outs (body (S.gen st wr c0.tmps xs)) 0).1.opt) xs0)
    (brs st wr c0.tmps (xaC (fun xs => (xbL P S st ver outs (body (S.gen st wr c0.tmps xs)) 0).1.opt) xs0) outs)
  else .bad
 | none => .bad
def xw2 : List (xdI × Cfg) → Bool
 | [] => true
 | (.normal, _) :: r => r.all fun x => match x.1 with | .normal => false | _ => true
 | _ :: r => xw2 r
def xny (known : Cfg → Bool) (gen : Cfg → Tree (xdI × Cfg)) (body : Cfg → Tree (xdI × Cfg)) : Nat → Cfg → Tree (xdI × Cfg)
 | 0, _ => .bad
 | n + 1, c => if known c then (body c).bind fun (x, c') => match x with
   | .normal => xny known gen body n c'
   | x => .ret (x, c')
  else gen c
def xD8 : xdI → Option Code
 | .normal => none
 | .exit id => some (.exit id)
 | .ret => some .ret
def xEo : Option Code → Option xdI
 | none => some .normal
 | some (.exit id) => some (.exit id)
 | some .ret => some .ret
 | _ => none
def xyf : Option Obj → Option (Nat × Option Code)
 | some ⟨_, _, true, .loop st pend _ _ _ _ _⟩ => some (st, pend)
 | some ⟨_, _, true, .fin st pend⟩ => some (st, pend)
 | _ => none
noncomputable def xaX (rnd : Bool) (res : List Nat) (N : Nat) : Code → Cfg → Tree (xdI × Cfg)
 | .skip, c => .ret (.normal, c)
 | .region _ ops draw, c => (xlo P Γ call yld N ops draw c).bind fun (s, H) => .ret (.normal, ⟨xhY s, H⟩)
 | .seq a b, c => (xaX rnd res N a c).bind fun (x, c') => match x with
  | .normal => xaX rnd res N b c'
  | x => .ret (x, c')
 | .cond x t e, c => match readS [] (xas c.tmps) x with
  | some (.bool b) => .br b (xaX rnd res N t c) (xaX rnd res N e c)
  | some (.val (.bool b)) => (match b with | true => xaX rnd res N t c | false => xaX rnd res N e c)
  | _ => .bad
 | .block id body, c => (xaX rnd res N body c).bind fun (x, c') => match x with
  | .exit id' => if Nat.beq id' id then .ret (.normal, c') else .ret (.exit id', c')
  | x => .ret (x, c')
 | .loop body, c => xny (fun c => match ask P Γ call yld N body c with | .known => xw2 (xlg (xaX rnd res N body c)) | _ => false) (xh1 P res (xib (xdG body) []) fun c => (xaX rnd res N body c).bind (xwL (xib (xdG body) []) c)) (fun c => xaX rnd res N body c) 100 c
 | .rangeFunc f params assign body, c => if rnd then .bad else match readS [] (xas c.tmps) f with
  | some (.fn (.func g) first caps) =>
   (call g (first ++ [.yl c.heap.next] ++ caps) ⟨⟨c.heap.next, c.heap.next, true, .loop 0 none N c.tmps params assign body⟩ :: c.heap.objs, c.heap.next + 1⟩).bind fun (_, H2) =>
    match xyf (xai c.heap.next H2.objs) with
    | some (st, pend) => if Nat.beq st 1 then .bad else match xEo pend with
     | some x => .ret (x, ⟨c.tmps, ⟨H2.objs.filter fun o => !(Nat.beq o.key c.heap.next), H2.next⟩⟩)
     | none => .bad
    | none => .bad
  | _ => .bad
 | .exit id, c => .ret (.exit id, c)
 | .ret, c => .ret (.ret, c)
 | .scope body, c => xaX rnd res N body c
 | .label _, c => .ret (.normal, c)
 | _, _ => .bad
def xqt (c : Cfg) : ResultVar → Option AV
 | .tmp t => c.tmps t
 | .cell a t => match c.tmps a with
  | some (.ptr key off) => match xai key c.heap.objs with
   | some ⟨_, _, _, .cells cs⟩ => xjk P t cs off
   | _ => none
  | _ => none
def xis (c : Cfg) : List ResultVar → Option (List AV)
 | [] => some []
 | r :: rs => match xqt P c r, xis c rs with
  | some v, some vs => some (v :: vs)
  | _, _ => none
end exec
def xDe (l : List ResultVar) : List Nat := l.flatMap fun | .tmp t => [t] | .cell a _ => [a]
def xiQ (params : List Nat) (vs : List AV) (tm : Nat → Option AV) : Nat → Option AV :=
 match params, vs with
 | p :: ps, v :: vs => xiQ ps vs (upd tm p (some v))
 | _, _ => tm
def xwl (key : Nat) (H : Heap) : Heap := ⟨H.objs.filter (fun o => !(Nat.beq o.key key)), H.next⟩
def xr9 (v : AV) (o : Obj) (H : Heap) : Tree (AV × Heap) := if xii o.key H.objs then .bad else .ret (v, ⟨o :: H.objs, H.next⟩)
noncomputable def xtn (P : Program) (Γ : Con) (call : xie) (yld : Nat → List AV → Heap → Tree (AV × Heap)) (key : Nat) (args : List AV) (H : Heap) : Tree (AV × Heap) :=
 match xai key H.objs with
 | some ⟨_, ver, true, .loop 0 none N tm params assign body⟩ =>
  if args.length = params.size ∧ (params.toList.all fun p => Nat.blt p N) = true then
   (xaX P Γ call yld true [] N assign ⟨xiQ params.toList args tm, xwl key H⟩).bind fun (x, c1) =>
    match x with
    | .normal => (xaX P Γ call yld true [] N body c1).bind fun (x, c2) =>
      match x with
      | .normal => xr9 (.val (.bool true)) ⟨key, ver, true, .loop 0 none N tm params assign body⟩ c2.heap
      | x => xr9 (.val (.bool false)) ⟨key, c2.heap.next, true, .fin 2 (xD8 x)⟩ c2.heap
    | _ => .bad
  else .bad
 | _ => .bad
structure SeqQ where
 p : Prop
 key : Nat
 e : TypeId
 ks : List CK
 L : List (List (List Int))
abbrev xvf := FuncId → List AV → List Obj → Option SeqQ
def xec : xvf := fun _ _ _ => none
def xxX (j : Int) : Nat → Option AV := fun t => match t with | 0 => some (.int .i64 j) | _ => none
def xo3 (yld : Nat → List AV → Heap → Tree (AV × Heap)) (key : Nat) (e : TypeId) (ks : List CK) (L : List (List (List Int))) (c : Cfg) : Tree (xdI × Cfg) :=
 match (c.tmps 0).map AV.weak with
 | some (.int .i64 j) => .br (decide (j < (L.length : Int)))
   ((yld key [.sl c.heap.next] ⟨⟨c.heap.next, c.heap.next, true, .row e ks (L.getD j.toNat [])⟩ :: c.heap.objs, c.heap.next + 1⟩).bind fun y => match y.1 with
    | .val (.bool true) => .ret (.normal, ⟨upd c.tmps 0 (some (.int .i64 (j + 1))), y.2⟩)
    | .val (.bool false) => .ret (.exit 0, ⟨c.tmps, y.2⟩)
    | _ => .bad)
   (.ret (.exit 1, c))
 | _ => .bad
def xmk (yld : Nat → List AV → Heap → Tree (AV × Heap)) (q : SeqQ) (c : Cfg) : Tree (xdI × Cfg) := xo3 yld q.key q.e q.ks q.L c
def xCK (y : xdI × Cfg) : Tree (AV × Heap) :=
 match y.1 with
 | .exit 0 => .ret (.val (.bool false), y.2.heap)
 | .exit 1 => .ret (.val (.bool true), y.2.heap)
 | _ => .bad
noncomputable def xyT (P : Program) (yld : Nat → List AV → Heap → Tree (AV × Heap)) (p : Prop) (key : Nat) (e : TypeId) (ks : List CK) (L : List (List (List Int))) (H : Heap) : Tree (AV × Heap) :=
 .need p ((xh1 P [] [0] (xo3 yld key e ks L) ⟨xxX 0, H⟩).bind xCK)
noncomputable def xAB (P : Program) (yld : Nat → List AV → Heap → Tree (AV × Heap)) (q : SeqQ) (H : Heap) : Tree (AV × Heap) := xyT P yld q.p q.key q.e q.ks q.L H
mutual
noncomputable def xat (P : Program) (Γ : Con) (Ξ : xvf) : Nat → xie
 | 0, _, _, _ => .bad
 | n + 1, f, args, H =>
  match Ξ f args H.objs with
  | some ⟨p, key, e, ks, L⟩ => xyT P (xtl P Γ Ξ n) p key e ks L H
  | none =>
  match P.funcs[f]? with
  | none => .bad
  | some fn =>
   match fn.body with
   | none => .bad
   | some code =>
    if fn.name ≠ "runtime.NumGoroutine" ∧ args.length ≤ fn.ntmps then
     (xaX P Γ (xat P Γ Ξ n) (xtl P Γ Ξ n) false (xDe fn.results.toList) fn.ntmps code ⟨fun t => match args[t]? with | some v => some v | none => some (.val undef), H⟩).bind fun (x, c) =>
      match x with
      | .exit _ => .bad
      | _ => match xis P c fn.results.toList with
       | some [v] => (match xvy P c.heap.objs c.heap.next v with
        | some x => xw4 [] x.p (.ret (x.v, restrict H.next (AV.keys x.v) (c.heap.eff x)))
        | none => .ret (v, restrict H.next (AV.keys v) c.heap))
       | some vs => .ret (.tup vs, restrict H.next (AV.keysL vs) c.heap)
       | none => .bad
    else .bad
noncomputable def xtl (P : Program) (Γ : Con) (Ξ : xvf) : Nat → Nat → List AV → Heap → Tree (AV × Heap)
 | 0, _, _, _ => .bad
 | n + 1, key, args, H => xtn P Γ (xat P Γ Ξ n) (xtl P Γ Ξ n) key args H
end
end
end Go.Sy
