/-
 A symbolic executor over the model's elaborated code, with rows, loops and iterators: abstract values, abstract heap, decision trees, operations. Generic over the program. No theorem here leans on a translation.
-/
import Derived.WalkKit
import Derived.Laws.Slices
import Derived.Orders
namespace Go.Sy
inductive AV where
 | bool (b : Bool)
 | int (k : IntKind) (n : Int)
 | ptr (key off : Nat)
 | val (v : Value)
 | fn (f : Fn) (first caps : List AV)
 | agg (cs : List AV)
 | tup (vs : List AV)
 | sl (key : Nat)
 /-- a place in element i of a row whose elements have sz cells; kn: i is known -/
 | ix (key sz : Nat) (kn : Bool) (i : Int) (off : Nat)
 | yl (key : Nat)
 /-- a part of a row whose elements have sz cells: from lo (none: its start) to below hi -/
 | vw (key sz : Nat) (lo : Option Int) (hi : Int)
abbrev Env := Nat → Value
def blk : Value → Nat
 | .pointer (some a) => a.block
 | .slice (some a) _ _ => a.block
 | _ => 0
def xoe : Value → Option Addr
 | .slice a _ _ => a
 | _ => none
def loN : Option Int → Nat
 | none => 0
 | some x => x.toNat
def xgJ (v : Value) (sz lo hi : Nat) : Value :=
 match v with
 | .slice a _ c => sliced a lo hi c sz
 | v => v
mutual
def AV.den (E : Env) : AV → Value
 | .bool b => .bool b
 | .int k n => .int k n
 | .ptr key off => .pointer (some ⟨blk (E key), off, none⟩)
 | .val v => v
 | .fn f first caps => .func f (AV.denL E first).toArray (AV.denL E caps).toArray
 | .agg cs => .agg (AV.denL E cs).toArray
 | .tup vs => .tuple (AV.denL E vs).toArray
 | .sl key => E key
 | .ix key sz _ i off => .pointer ((xoe (E key)).map fun a => a.add (i.toNat * sz + off))
 | .yl key => .func (.yield (blk (E key))) #[] #[]
 | .vw key sz lo hi => xgJ (E key) sz (loN lo) hi.toNat
def AV.denL (E : Env) : List AV → List Value
 | [] => []
 | a :: r => AV.den E a :: AV.denL E r
end
mutual
/-- All keys in it are such. -/
def AV.all (p : Nat → Prop) : AV → Prop
 | .ptr key _ => p key
 | .fn _ first caps => AV.allL p first ∧ AV.allL p caps
 | .agg cs => AV.allL p cs
 | .tup vs => AV.allL p vs
 | .sl key => p key
 | .ix key _ _ _ _ => p key
 | .yl key => p key
 | .vw key _ _ _ => p key
 | _ => True
def AV.allL (p : Nat → Prop) : List AV → Prop
 | [] => True
 | a :: r => AV.all p a ∧ AV.allL p r
end
abbrev AV.lt (n : Nat) (v : AV) : Prop := AV.all (fun k => k < n) v
abbrev AV.ltL (n : Nat) (l : List AV) : Prop := AV.allL (fun k => k < n) l
mutual
/-- Its keys, in order. -/
def AV.keys : AV → List Nat
 | .ptr key _ => [key]
 | .fn _ first caps => AV.keysL first ++ AV.keysL caps
 | .agg cs => AV.keysL cs
 | .tup vs => AV.keysL vs
 | .sl key => [key]
 | .ix key _ _ _ _ => [key]
 | .yl key => [key]
 | .vw key _ _ _ => [key]
 | _ => []
def AV.keysL : List AV → List Nat
 | [] => []
 | a :: r => AV.keys a ++ AV.keysL r
end
mutual
/-- Its keys under other names. -/
def AV.ren (f : Nat → Nat) : AV → AV
 | .ptr key off => .ptr (f key) off
 | .fn g first caps => .fn g (AV.renL f first) (AV.renL f caps)
 | .agg cs => .agg (AV.renL f cs)
 | .tup vs => .tup (AV.renL f vs)
 | .sl key => .sl (f key)
 | .ix key sz kn i off => .ix (f key) sz kn i off
 | .yl key => .yl (f key)
 | .vw key sz lo hi => .vw (f key) sz lo hi
 | v => v
def AV.renL (f : Nat → Nat) : List AV → List AV
 | [] => []
 | a :: r => AV.ren f a :: AV.renL f r
end
def AV.cells : AV → List AV
 | .agg cs => cs
 | v => [v]
def AV.scalar : AV → Bool
 | .agg _ | .tup _ => false
 | .val (.agg _) | .val (.tuple _) => false
 | _ => true
def AV.plainCells : AV → Bool
 | .val (.agg _) => false
 | _ => true
def xpv (v : Value) : AV := .val v
def ofValue : Value → AV
 | .agg cs => .agg (cs.toList.map xpv)
 | v => xpv v
mutual
/-- Known integers and bools as any others. -/
def AV.weak : AV → AV
 | .val (.bool b) => .bool b
 | .val (.int k n) => .int k n
 | .agg cs => .agg (AV.weakL cs)
 | .tup vs => .tup (AV.weakL vs)
 | v => v
def AV.weakL : List AV → List AV
 | [] => []
 | a :: r => AV.weak a :: AV.weakL r
end
def AV.strong : AV → AV
 | .bool b => .val (.bool b)
 | .int k n => .val (.int k n)
 | v => v
def xxg : Option AV → Bool
 | some (.val (.bool _)) | some (.val (.int _ _)) => true
 | _ => false
def xqC (q : IntKind) (ns : List Int) : Prop := ∀ n ∈ ns, (Lit.int q n).wf = true
inductive CK where
 | int (k : IntKind)
 | bool
 deriving DecidableEq
def CK.cell : CK → Int → AV
 | .int k, n => .int k n
 | .bool, n => .bool (n != 0)
def CK.val : CK → Int → Value
 | .int k, n => .int k n
 | .bool, n => .bool (n != 0)
def elA : List CK → Nat → List Int → List AV
 | [], _, _ => []
 | k :: ks, j, el => k.cell (el.getD j 0) :: elA ks (j + 1) el
def elV : List CK → Nat → List Int → List Value
 | [], _, _ => []
 | k :: ks, j, el => k.val (el.getD j 0) :: elV ks (j + 1) el
def rowV (ks : List CK) (l : List (List Int)) : List Value := l.flatMap (elV ks 0)
def xBL : CK → AV → Option Int
 | .int k, .int k' n => if k = k' then some n else none
 | .int k, .val (.int k' n) => if k = k' then some n else none
 | .bool, .bool b => some (bif b then 1 else 0)
 | .bool, .val (.bool b) => some (bif b then 1 else 0)
 | _, _ => none
def xp2 : List CK → List AV → Option (List Int)
 | [], [] => some []
 | k :: ks, v :: vs => match xBL k v, xp2 ks vs with
  | some n, some ns => some (n :: ns)
  | _, _ => none
 | _, _ => none
def xxC (ks : List CK) : List (List AV) → Option (List (List Int))
 | [] => some []
 | el :: els => match xp2 ks el, xxC ks els with
  | some n, some ns => some (n :: ns)
  | _, _ => none
def zig : Int → Nat
 | .ofNat n => 2 * n
 | .negSucc n => 2 * n + 1
theorem xC0 {a b : Int} (h : zig a = zig b) : a = b := by
 cases a <;> cases b <;> simp only [zig] at h <;> first | (exfalso; omega) | (congr 1; omega)
def encN : List Nat → Nat
 | [] => 0
 | x :: r => 2 ^ x * (2 * encN r + 1)
theorem xsR : ∀ {x y a b : Nat}, 2 ^ x * (2 * a + 1) = 2 ^ y * (2 * b + 1) → x = y ∧ a = b
 | 0, 0, a, b, h => by simp at h; exact ⟨rfl, by omega⟩
 | 0, y + 1, a, b, h => by
  exfalso
  rw [Nat.pow_succ, Nat.pow_zero, Nat.mul_comm (2 ^ y) 2, Nat.mul_assoc] at h
  omega
 | x + 1, 0, a, b, h => by
  exfalso
  rw [Nat.pow_succ, Nat.pow_zero, Nat.mul_comm (2 ^ x) 2, Nat.mul_assoc] at h
  omega
 | x + 1, y + 1, a, b, h => by
  rw [Nat.pow_succ, Nat.pow_succ, Nat.mul_comm (2 ^ x) 2, Nat.mul_comm (2 ^ y) 2, Nat.mul_assoc, Nat.mul_assoc] at h
  obtain ⟨h1, h2⟩ := xsR (Nat.eq_of_mul_eq_mul_left (by omega) h)
  exact ⟨by rw [h1], h2⟩
theorem xwi : ∀ {l l' : List Nat}, encN l = encN l' → l = l'
 | [], [], _ => rfl
 | [], y :: r, h => by
  exfalso
  have : 0 < 2 ^ y * (2 * encN r + 1) := Nat.mul_pos (Nat.pow_pos (by omega)) (by omega)
  simp only [encN] at h
  omega
 | x :: r, [], h => by
  exfalso
  have : 0 < 2 ^ x * (2 * encN r + 1) := Nat.mul_pos (Nat.pow_pos (by omega)) (by omega)
  simp only [encN] at h
  omega
 | x :: r, y :: r', h => by
  obtain ⟨h1, h2⟩ := xsR h
  rw [h1, xwi h2]
theorem xye {α β : Type} {f : α → β} (hf : ∀ a b, f a = f b → a = b) : ∀ {l l' : List α}, l.map f = l'.map f → l = l'
 | [], [], _ => rfl
 | [], _ :: _, h => by cases h
 | _ :: _, [], h => by cases h
 | x :: r, y :: r', h => by
  have h := List.cons.inj h
  rw [hf _ _ h.1, xye hf h.2]
theorem xyB : ∃ p : (List (List Int) → Int) × (Int → List (List Int)), ∀ l, p.2 (p.1 l) = l := by
 classical
 have inj : ∀ l l' : List (List Int), ((encN (l.map fun r => encN (r.map zig)) : Nat) : Int) = ((encN (l'.map fun r => encN (r.map zig)) : Nat) : Int) → l = l' := fun l l' h =>
  xye (fun a b hab => xye (fun _ _ => xC0) (xwi hab)) (xwi (Int.ofNat.inj h))
 refine ⟨(fun l => ((encN (l.map fun r => encN (r.map zig)) : Nat) : Int), fun n => if h : ∃ l : List (List Int), ((encN (l.map fun r => encN (r.map zig)) : Nat) : Int) = n then h.choose else []), fun l => ?_⟩
 have hx : ∃ l' : List (List Int), ((encN (l'.map fun r => encN (r.map zig)) : Nat) : Int) = ((encN (l.map fun r => encN (r.map zig)) : Nat) : Int) := ⟨l, rfl⟩
 show (if h : ∃ l' : List (List Int), ((encN (l'.map fun r => encN (r.map zig)) : Nat) : Int) = ((encN (l.map fun r => encN (r.map zig)) : Nat) : Int) then h.choose else []) = l
 rw [dif_pos hx]
 exact inj _ _ hx.choose_spec
noncomputable def encL (l : List (List Int)) : Int := xyB.choose.1 l
noncomputable def decL (n : Int) : List (List Int) := xyB.choose.2 n
theorem xtv (l : List (List Int)) : decL (encL l) = l := xyB.choose_spec l
inductive NK where
 | c (k : CK)
 | s (e : TypeId) (ks : List CK)
 deriving DecidableEq
inductive Body where
 | cells (cs : List AV)
 | row (e : TypeId) (ks : List CK) (l : List (List Int))
 | arr (e : TypeId) (sz : Nat) (els : List (List AV))
 /-- a nil slice -/
 | nil
 /-- a map: the key's type (an array of m integers), the element's type (a struct of plain data), the entries: the key's numbers, then the element's -/
 | mp (kt et : TypeId) (q : IntKind) (m : Nat) (ke : List CK) (l : List (List Int))
 /-- a row whose elements hold slices of plain data: the element's type, its cells' xrP, the elements -/
 | nst (e : TypeId) (ks : List NK) (l : List (List Int))
 /-- a row that is only read, in a block that is new since the call's start -/
 | sub (e : TypeId) (ks : List CK) (l : List (List Int))
 /-- st: 0 ready, 1 busy, 2 left; N: the frame's slots -/
 | loop (st : Nat) (pend : Option Code) (N : Nat) (tm : Nat → Option AV) (params : Array Tmp) (assign body : Code)
 /-- a loop over a function of which no round runs or comes: its state, its jump -/
 | fin (st : Nat) (pend : Option Code)
structure Obj where
 key : Nat
 ver : Nat
 own : Bool
 body : Body
def Body.cellsOf : Body → List AV
 | .cells cs => cs
 | .arr _ _ els => els.flatten
 | _ => []
structure Heap where
 objs : List Obj
 next : Nat
def xai (key : Nat) : List Obj → Option Obj
 | [] => none
 | o :: r => if Nat.beq o.key key then some o else xai key r
def xoy (cs : List AV) (off : Nat) (vs : List AV) : List AV := cs.take off ++ vs ++ cs.drop (off + vs.length)
structure Eff where
 p : Option Prop
 rm : List Nat
 nk : Nat
 add : List Obj
 v : AV
def xhc (x : Eff) (l : List Obj) : List Obj := x.add ++ l.filter (fun o => !(x.rm.any (Nat.beq o.key)))
def okE (v : AV) : Option Eff := some ⟨none, [], 0, [], v⟩
def chkE (p : Prop) (v : AV) : Option Eff := some ⟨some p, [], 0, [], v⟩
def Eff.pure (x : Eff) : Bool := x.rm.isEmpty && x.add.isEmpty && Nat.beq x.nk 0
def Eff.holds (x : Eff) : Prop := match x.p with | none => True | some p => p
inductive Tree (α : Type) where
 | ret (a : α)
 | br (b : Bool) (t e : Tree α)
 | need (p : Prop) (t : Tree α)
 /-- one of two ways, not told which; the first one only if p -/
 | ask (p : Prop) (t e : Tree α)
 | bad
namespace Tree
def bind {α β : Type} : Tree α → (α → Tree β) → Tree β
 | .ret a, f => f a
 | .br b t e, f => .br b (t.bind f) (e.bind f)
 | .need p t, f => .need p (t.bind f)
 | .ask p t e, f => .ask p (t.bind f) (e.bind f)
 | .bad, _ => .bad
def holds {α : Type} : Tree α → (α → Prop) → Prop
 | .ret a, Q => Q a
 | .br b t e, Q => (b = true → t.holds Q) ∧ (b = false → e.holds Q)
 | .need p t, Q => p ∧ t.holds Q
 | .ask p t e, Q => (p → t.holds Q) ∧ e.holds Q
 | .bad, _ => False
end Tree
noncomputable def xab {α : Type} (p : Prop) (o : Option α) : Option α := by classical exact if p then o else none
noncomputable def Tree.opt {α : Type} : Tree α → Option α
 | .ret a => some a
 | .br b t e => bif b then t.opt else e.opt
 | .need p t => xab p t.opt
 | .ask p t e => xab (p → t.opt = e.opt) e.opt
 | .bad => none
section ops
variable (P : Program)
def xkG (t : TypeId) : Option Nat := (P.info? t).map (·.size)
def xzi (t : TypeId) : Option Bool := (P.underlying t).map fun | .struct _ | .array _ _ => true | _ => false
def xqa (t : TypeId) : Option AV := match P.info? t with
 | some i => i.zero.map ofValue
 | none => none
def xjk (t : TypeId) (cs : List AV) (off : Nat) : Option AV :=
 match xzi P t, xkG P t with
 | some true, some n => if off + n ≤ cs.length then some (.agg ((cs.drop off).take n)) else none
 | some false, some _ => cs[off]?
 | _, _ => none
def xwe (s : TypeId) (f : Nat) : Option Field :=
 match P.underlying s with
 | some (.struct fields) => fields[f]?
 | _ => none
def xAU (t : TypeId) : Option (Nat → Option (Nat × Nat)) :=
 match P.underlying t with
 | some (.array _ e) => (P.info? e).map fun ie i => some (i * ie.size, ie.size)
 | some (.struct fields) => (fields.toList.mapM (fun f => (P.info? f.type).map fun i => (f.offset, i.size))).map fun places i => places.toArray[i]?
 | _ => none
def xz6 (place : Nat → Option (Nat × Nat)) : List (Nat × AV) → List AV → Option (List AV)
 | [], cs => some cs
 | (i, v) :: rest, cs =>
  match place i with
  | none => none
  | some (off, n) => if v.cells.length = n ∧ off + v.cells.length ≤ cs.length ∧ v.plainCells = true then xz6 place rest (xoy cs off v.cells) else none
def xhW (ρ : Operand → Option AV) : List (Nat × Operand) → Option (List (Nat × AV))
 | [] => some []
 | (i, x) :: r => match ρ x, xhW ρ r with
  | some v, some vs => some ((i, v) :: vs)
  | _, _ => none
def xmM (ρ : Operand → Option AV) : List Operand → Option (List AV)
 | [] => some []
 | x :: r => match ρ x, xmM ρ r with
  | some v, some vs => some (v :: vs)
  | _, _ => none
def xxh (rec_ : TypeId → Option (List CK)) : List Field → Nat → Option (List CK)
 | [], _ => some []
 | f :: r, off =>
  if f.offset = off then
   match rec_ f.type with
   | some ks => if ks.length = P.cellsOf f.type then (match xxh rec_ r (off + ks.length) with | some ks' => some (ks ++ ks') | none => none) else none
   | none => none
  else none
def repL (n : Nat) (l : List CK) : List CK := (List.replicate n l).flatten
def xrP : Nat → TypeId → Option (List CK)
 | 0, _ => none
 | n + 1, t => match P.underlying t with
  | some .bool => some [.bool]
  | some (.int k) => some [.int k]
  | some (.struct fs) => match xxh P (xrP n) fs.toList 0 with
   | some ks => if ks.length = P.cellsOf t then some ks else none
   | none => none
  | some (.array m e) => match xrP n e with
   | some ks => if ks.length = P.cellsOf e ∧ (repL m ks).length = P.cellsOf t then some (repL m ks) else none
   | none => none
  | _ => none
def xi7 (ρ : Operand → Option AV) (sz : Nat) : Nat → List (Nat × Operand) → Option (List (List AV))
 | _, [] => some []
 | j, (i, x) :: r => if i = j then (match ρ x with
  | some v => if v.plainCells = true ∧ v.cells.length = sz ∧ v.cells.all AV.scalar = true then (match xi7 ρ sz (j + 1) r with
   | some els => some (v.cells :: els)
   | none => none) else none
  | none => none) else none
def eqFields (eq : TypeId → AV → AV → Option Bool) (xs ys : List AV) : List Field → Option Bool
 | [] => some true
 | f :: r =>
  if f.name = "_" then none else
  match xjk P f.type xs f.offset, xjk P f.type ys f.offset with
  | some a, some b => match eq f.type a b, eqFields eq xs ys r with
   | some u, some v => some (u && v)
   | _, _ => none
  | _, _ => none
def eqItems (eq : TypeId → AV → AV → Option Bool) (e : TypeId) (c : Nat) (xs ys : List AV) : List Nat → Option Bool
 | [] => some true
 | i :: r =>
  match xjk P e xs (i * c), xjk P e ys (i * c) with
  | some a, some b => match eq e a b, eqItems eq e c xs ys r with
   | some u, some v => some (u && v)
   | _, _ => none
  | _, _ => none
def eqA : Nat → TypeId → AV → AV → Option Bool
 | 0, _, _, _ => none
 | d + 1, t, x, y =>
  match P.underlying t, x, y with
  | some .bool, .bool a, .bool b => some (a == b)
  | some (.int _), .int k a, .int k' b => if k = k' then some (a == b) else none
  | some (.struct fs), .agg xs, .agg ys => if P.stoodInHeld t = false then eqFields P (eqA d) xs ys fs.toList else none
  | some (.array n e), .agg xs, .agg ys => match P.info? e with
   | some i => eqItems P (eqA d) e i.size xs ys (List.range n)
   | none => none
  | _, _, _ => none
def xDz (op : BinOp) (k : IntKind) (a b : Int) : Option Eff :=
 match op with
 | .add => okE (.int k (k.wrap (a + b)))
 | .sub => okE (.int k (k.wrap (a - b)))
 | .mul => okE (.int k (k.wrap (a * b)))
 | .quo => chkE (b ≠ 0) (.int k (k.wrap (a.tdiv b)))
 | .rem => chkE (b ≠ 0) (.int k (a.tmod b))
 | .eql => okE (.bool (a == b))
 | .neq => okE (.bool (a != b))
 | .lss => okE (.bool (a < b))
 | .leq => okE (.bool (a ≤ b))
 | .gtr => okE (.bool (a > b))
 | .geq => okE (.bool (a ≥ b))
 | .shr => chkE (0 ≤ b) (.int k (a.fdiv (2 ^ (min b.toNat k.bits))))
 | _ => none
def imin (x y : Int) : Int := if y < x then y else x
def imax (x y : Int) : Int := if y > x then y else x
def mm (op : Int → Int → Int) (k : IntKind) : Int → List AV → Option AV
 | a, [] => some (.int k a)
 | a, .int k' b :: r => if k = k' then mm op k (op a b) r else none
 | _, _ => none
def xqm (sz : Nat) (el : List Int) (off : Nat) (ns : List Int) : List Int := (List.range sz).map fun j => if off ≤ j ∧ j < off + ns.length then ns.getD (j - off) 0 else el.getD j 0
def inR (i : Int) (l : List (List Int)) : Prop := 0 ≤ i ∧ i < (l.length : Int)
def xcI (bytes n : Nat) : Prop := n * bytes ≤ 140737488355328 ∧ n ≤ maxLen
instance (bytes n : Nat) : Decidable (xcI bytes n) := by unfold xcI; infer_instance
def xe6 : Body → Option (TypeId × List CK × List (List Int))
 | .row e ks l => some (e, ks, l)
 | .sub e ks l => some (e, ks, l)
 | .arr e sz els => match xrP P 9 e with
  | some ks => if ks.length = sz then (xxC ks els).map fun l => (e, ks, l) else none
  | none => none
 | _ => none
def xtR (e : TypeId) (ie : TypeInfo) (b : Body) : Bool :=
 (match ie.zero with | some z => Nat.beq z.cells.size ie.size | none => false) &&
 match b with
 | .row e2 ks _ => Nat.beq e2 e && Nat.beq ks.length ie.size && !(Nat.beq ie.size 0)
 | .arr e2 sz _ => Nat.beq e2 e && Nat.beq sz ie.size && !(Nat.beq ie.size 0)
 | _ => false
def xoN (K : Nat) (bytes : Nat) (s : AV) (o : Option Obj) (key2 : Nat) (b2 : Body) : Option Eff :=
 match s, o, b2 with
 | .sl key, some ⟨_, _, true, .nil⟩, .arr e sz els2 => if key ≠ key2 ∧ xcI bytes els2.length then some ⟨none, [key], 1, [⟨K, K, true, .arr e sz els2⟩], .sl K⟩ else none
 | .sl key, some ⟨_, _, true, .nil⟩, .row e ks l2 => if key ≠ key2 then some ⟨some (xcI bytes l2.length), [key], 1, [⟨K, K, true, .row e ks l2⟩], .sl K⟩ else none
 | .val (.slice none 0 0), _, .arr e sz els2 => if xcI bytes els2.length then some ⟨none, [], 1, [⟨K, K, true, .arr e sz els2⟩], .sl K⟩ else none
 | .val (.slice none 0 0), _, .row e ks l2 => some ⟨some (xcI bytes l2.length), [], 1, [⟨K, K, true, .row e ks l2⟩], .sl K⟩
 | .sl key, some ⟨_, _, true, .arr e sz els⟩, .arr e2 sz2 els2 => if key ≠ key2 ∧ e = e2 ∧ sz = sz2 ∧ xcI bytes (els.length + els2.length) then some ⟨none, [key], 1, [⟨K, K, true, .arr e sz (els ++ els2)⟩], .sl K⟩ else none
 | .sl key, some ⟨_, _, true, b⟩, b2 => match xe6 P b, xe6 P b2 with
  | some (e, ks, l), some (e2, ks2, l2) => if key ≠ key2 ∧ e = e2 ∧ ks = ks2 then some ⟨some (xcI bytes (l.length + l2.length)), [key], 1, [⟨K, K, true, .row e ks (l ++ l2)⟩], .sl K⟩ else none
  | _, _ => none
 | _, _, _ => none
def xaz (n : Int) : Option Int → Option Int → Prop × Option Int × Int
 | none, none => (True, none, n)
 | none, some h => ((0 ≤ h ∧ h ≤ n), none, h)
 | some lo, none => ((0 ≤ lo ∧ lo ≤ n), some lo, n)
 | some lo, some h => ((0 ≤ lo ∧ lo ≤ h ∧ h ≤ n), some lo, h)
def cutV (l : List (List Int)) (lo : Option Int) (hi : Int) : List (List Int) := (l.take hi.toNat).drop (loN lo)
def xAa (l : List (List Int)) (lo : Option Int) (hi : Int) : Prop := (loN lo : Int) ≤ hi ∧ hi ≤ (l.length : Int)
def inV (i : Int) (lo : Option Int) (hi : Int) (l : List (List Int)) : Prop := 0 ≤ i ∧ (loN lo : Int) + i < hi ∧ hi ≤ (l.length : Int)
def shI (lo : Option Int) (i : Int) : Int := match lo with | none => i | some x => (x.toNat : Int) + i
def intA : AV → Option Int
 | .int _ n => some n
 | .val (.int _ n) => some n
 | _ => none
def xvM (ρ : Operand → Option AV) : Option Operand → Option (Option Int)
 | none => some none
 | some x => match ρ x with
  | some v => (intA v).map some
  | none => none
def xzX (objs : List Obj) (t : TypeId) : AV → Option Eff
 | .ptr key off => match xai key objs with
  | some ⟨_, _, _, .cells cs⟩ => match xjk P t cs off with | some v => okE v | none => none
  | _ => none
 | .ix key sz kn i off => match xai key objs with
  | some ⟨_, _, _, .arr e sz' els⟩ => (match kn with
   | true => (match els[i.toNat]? with
    | some el => if sz' = sz ∧ sz ≠ 0 then (match xjk P t el off with | some v => okE v | none => none) else none
    | none => none)
   | false => (match xe6 P (.arr e sz' els) with
    | some (_, ks, l) => if ks.length = sz ∧ sz ≠ 0 then (match xjk P t (elA ks 0 (l.getD i.toNat [])) off with | some v => chkE (inR i l) v | none => none) else none
    | none => none))
  | some ⟨_, _, _, .row _ ks l⟩ => if ks.length = sz ∧ sz ≠ 0 then (match xjk P t (elA ks 0 (l.getD i.toNat [])) off with | some v => chkE (inR i l) v | none => none) else none
  | some ⟨_, _, _, .sub _ ks l⟩ => if ks.length = sz ∧ sz ≠ 0 then (match xjk P t (elA ks 0 (l.getD i.toNat [])) off with | some v => chkE (inR i l) v | none => none) else none
  | _ => none
 | _ => none
def xsh (objs : List Obj) (K : Nat) (t : TypeId) (v : AV) : AV → Option Eff
 | .ptr key off => match xai key objs, xkG P t with
  | some ⟨_, _, true, .cells cs⟩, some n => if v.cells.length = n ∧ off + v.cells.length ≤ cs.length ∧ v.cells.all AV.scalar = true then some ⟨none, [key], 0, [⟨key, K, true, .cells (xoy cs off v.cells)⟩], .val undef⟩ else none
  | _, _ => none
 | .ix key sz _ i off => match xai key objs, xkG P t with
  | some ⟨_, _, true, b⟩, some n => match xe6 P b with
   | some (e, ks, l) => match xp2 ((ks.drop off).take n) v.cells with
    | some ns => if ks.length = sz ∧ sz ≠ 0 ∧ off + n ≤ sz ∧ v.cells.length = n then some ⟨some (inR i l), [key], 0, [⟨key, K, true, .row e ks (l.set i.toNat (xqm sz (l.getD i.toNat []) off ns))⟩], .val undef⟩ else none
    | none => none
   | none => none
  | _, _ => none
 | _ => none
def xjz (objs : List Obj) (t : TypeId) (x i : AV) : Option Eff :=
 match P.underlying t with
 | some (.array len e) => (match x, i, xkG P e with
  | .ptr key off, .val (.int _ n), some sz => if 0 ≤ n ∧ n < (len : Int) then okE (.ptr key (off + n.toNat * sz)) else none
  | _, _, _ => none)
 | some (.slice e) => (match x, intA i, xkG P e with
  | .sl key, some n, some (s + 1) => (match xai key objs with
   | some ⟨_, _, _, .arr e' sz els⟩ => if sz = s + 1 then (match xxg (some i) with
    | true => if 0 ≤ n ∧ n < (els.length : Int) then okE (.ix key (s + 1) true n 0) else none
    | false => (match xe6 P (.arr e' sz els) with
     | some (_, _, l) => chkE (inR n l) (.ix key (s + 1) false n 0)
     | none => none)) else none
   | some ⟨_, _, _, .row _ ks l⟩ => if ks.length = s + 1 then chkE (inR n l) (.ix key (s + 1) false n 0) else none
   | some ⟨_, _, _, .sub _ ks l⟩ => if ks.length = s + 1 then chkE (inR n l) (.ix key (s + 1) false n 0) else none
   | some ⟨_, _, _, .nst _ ks l⟩ => if ks.length = s + 1 then chkE (inR n l) (.ix key (s + 1) false n 0) else none
   | _ => none)
  | .vw key sz lo hi, some n, some (s + 1) => (match xai key objs with
   | some o => (match xe6 P o.body with
    | some (_, ks, l) => if ks.length = s + 1 ∧ sz = s + 1 then chkE (inV n lo hi l) (.ix key (s + 1) false (shI lo n) 0) else none
    | none => none)
   | none => none)
  | _, _, _ => none)
 | _ => none
def xjC (objs : List Obj) (d : Nat) : AV → Option Eff
 | .ptr key off => okE (.ptr key (off + d))
 | .ix key sz kn i off => match xai key objs with
  | some o => match o.body with
   | .arr e sz' els => (match kn with
    | true => if i.toNat < els.length ∧ sz' ≠ 0 then okE (.ix key sz true i (off + d)) else none
    | false => (match xe6 P (.arr e sz' els) with
     | some (_, ks, l) => if ks ≠ [] then chkE (inR i l) (.ix key sz false i (off + d)) else none
     | none => none))
   | .row _ ks l => if ks ≠ [] then chkE (inR i l) (.ix key sz kn i (off + d)) else none
   | .sub _ ks l => if ks ≠ [] then chkE (inR i l) (.ix key sz kn i (off + d)) else none
   | .nst _ ks l => if ks ≠ [] then chkE (inR i l) (.ix key sz kn i (off + d)) else none
   | _ => none
  | none => none
 | _ => none
def xef (ρ : Operand → Option AV) (K : Nat) (t : TypeId) (len : Nat) (parts : List (Nat × Operand)) : Option Eff :=
 match P.underlying t with
 | some (.slice e) => match xkG P e, xqa P e with
  | some (n + 1), some z => match xi7 ρ (n + 1) 0 parts with
   | some els => if els.length = len ∧ z.cells.length = n + 1 ∧ z.plainCells = true ∧ len * (n + 1) ≤ 16777216 then some ⟨none, [], 1, [⟨K, K, true, .arr e (n + 1) els⟩], .sl K⟩ else none
   | none => none
  | _, _ => none
 | _ => none
def xkZ (objs : List Obj) (t : TypeId) (key : Nat) (sz : Option Nat) (lo hi : Option Int) : Option Eff :=
 match xai key objs with
 | some o => match xe6 P o.body with
  | some (e, ks, l) => match P.underlying t with
   | some (.slice e') => if e = e' ∧ (xkG P e) = some ks.length ∧ (sz = none ∨ sz = some ks.length) then chkE (xaz l.length lo hi).1 (.vw key ks.length (xaz l.length lo hi).2.1 (xaz l.length lo hi).2.2) else none
   | _ => none
  | none => none
 | none => none
def xsm (objs : List Obj) (t : TypeId) (x : AV) (lo hi : Option Int) : Option Eff :=
 match x with
 | .sl key => xkZ P objs t key none lo hi
 | .vw key sz none h => xkZ P objs t key (some sz) lo (some (hi.getD h))
 | _ => none
def xqh (objs : List Obj) (K : Nat) (t : TypeId) (x : AV) : Option Eff :=
 match P.underlying t with
 | some (.slice e') => match xkG P e' with
  | some _ => match x with
   | .sl key => match xai key objs with
    | some o => match o.body with
     | .nil => some ⟨none, [], 1, [⟨K, K, true, .nil⟩], .sl K⟩
     | b => match xe6 P b with
      | some (e, ks, _) => if e = e' then some ⟨none, [], 1, [⟨K, K, true, .row e ks []⟩], .sl K⟩ else none
      | none => none
    | none => none
   | .val (.slice none 0 0) => some ⟨none, [], 1, [⟨K, K, true, .nil⟩], .sl K⟩
   | _ => none
  | none => none
 | _ => none
def xv5 : Option AV → Bool
 | some (.val (.int _ n)) => decide (n = 0)
 | _ => false
def lenA (objs : List Obj) (t : Option TypeDesc) (x : AV) : Option Eff :=
 match t, x with
 | some (.slice _), .sl key => (match xai key objs with
  | some ⟨_, _, _, .arr _ _ els⟩ => okE (.val (.int .i64 els.length))
  | some ⟨_, _, _, .row _ _ l⟩ => okE (.int .i64 l.length)
  | some ⟨_, _, _, .sub _ _ l⟩ => okE (.int .i64 l.length)
  | some ⟨_, _, _, .nst _ _ l⟩ => okE (.int .i64 l.length)
  | some ⟨_, _, _, .nil⟩ => okE (.val (.int .i64 0))
  | _ => none)
 | some (.slice _), .val (.slice _ n _) => okE (.val (.int .i64 n))
 | some (.slice _), .vw key _ lo hi => (match xai key objs with
  | some o => (match xe6 P o.body with
   | some _ => okE (.int .i64 ((hi.toNat - loN lo : Nat) : Int))
   | none => none)
  | none => none)
 | _, _ => none
def xAq : Body → Body
 | .sub e ks l => .row e ks l
 | b => b
def srcA (objs : List Obj) : AV → Option (Nat × Body × Option Prop)
 | .sl key => match xai key objs with
  | some o => some (key, xAq o.body, none)
  | none => none
 | .vw key sz lo hi => match xai key objs with
  | some o => match xe6 P o.body with
   | some (e, ks, l) => if ks.length = sz then some (key, .row e ks (cutV l lo hi), some (xAa l lo hi)) else none
   | none => none
  | none => none
 | _ => none
def tgtA (objs : List Obj) : AV → Option Obj
 | .sl key => xai key objs
 | _ => none
def xpB : Option Prop → Prop
 | none => True
 | some p => p
def xuz : Option Prop → Option Prop → Option Prop
 | none, q => q
 | some p, none => some p
 | some p, some q => some (p ∧ q)
def xi4 (objs : List Obj) (K : Nat) (t : TypeId) (s x : AV) : Option Eff :=
 match srcA P objs x with
 | some (key2, b2, p) => match P.underlying t with
  | some (.slice e) => match P.info? e with
   | some ie => if xtR e ie b2 = true then (xoN P K ie.bytes s (tgtA objs s) key2 b2).map fun z => { z with p := xuz p z.p } else none
   | none => none
  | _ => none
 | none => none
def xBj (rec_ : TypeId → Option (List NK)) : List Field → Option (List NK)
 | [] => some []
 | f :: r => match rec_ f.type, xBj rec_ r with
  | some a, some b => some (a ++ b)
  | _, _ => none
def xBk : Nat → TypeId → Option (List NK)
 | 0, _ => none
 | n + 1, t => match xrP P 9 t with
  | some ks => some (ks.map .c)
  | none => match P.underlying t with
   | some (.slice e) => (match xrP P 9 e with
    | some (k :: ks) => some [.s e (k :: ks)]
    | _ => none)
   | some (.struct fs) => xBj (xBk n) fs.toList
   | some (.array m e) => (xBk n e).map fun ks => (List.replicate m ks).flatten
   | _ => none
def isS : NK → Bool
 | .s _ _ => true
 | .c _ => false
def xqD : Body → Bool
 | .sub _ _ _ => true
 | _ => false
noncomputable def encK (objs : List Obj) (K : Nat) : NK → AV → Option (Int × List Nat × List Obj)
 | .c k, v => match xBL k v with | some n => some (n, [], []) | none => none
 | .s e ks, .sl key => match xai key objs with
  | some ⟨_, _, own, b⟩ => match xe6 P b with
   | some (e', ks', l) => if e' = e ∧ ks' = ks then (match own with
    | true => some (encL l, [key], [⟨key, K, false, .sub e ks l⟩])
    | false => if xqD b then some (encL l, [], []) else none) else none
   | none => match b with
    | .nil => some (encL [], [], [])
    | _ => none
  | none => none
 | .s _ _, .val (.slice none 0 0) => some (encL [], [], [])
 | _, _ => none
noncomputable def encE (objs : List Obj) (K : Nat) : List NK → List AV → Option (List Int × List Nat × List Obj)
 | [], [] => some ([], [], [])
 | k :: ks, v :: vs => match encK P objs K k v, encE objs K ks vs with
  | some (n, r, s), some (ns, rs, ss) => some (n :: ns, r ++ rs, s ++ ss)
  | _, _ => none
 | _, _ => none
noncomputable def encR (objs : List Obj) (K : Nat) (ks : List NK) : List (List AV) → Option (List (List Int) × List Nat × List Obj)
 | [] => some ([], [], [])
 | el :: els => match encE P objs K ks el, encR objs K ks els with
  | some (n, r, s), some (ns, rs, ss) => some (n :: ns, r ++ rs, s ++ ss)
  | _, _ => none
noncomputable def xtY (objs : List Obj) (K : Nat) (x : Eff) : Option Eff :=
 match x with
 | ⟨none, [], 1, [⟨k, ver, true, .arr e sz els⟩], v⟩ => if k = K ∧ ver = K then (match xBk P 9 e with
  | some ks => if ks.any isS && Nat.beq ks.length sz then (match encR P objs K ks els with
   | some (l, rm, subs) => some ⟨none, rm, 1, ⟨K, K, true, .nst e ks l⟩ :: subs, v⟩
   | none => none) else none
  | none => none) else none
 | _ => none
def nksA (K : Nat) : List NK → Nat → List Int → List AV
 | [], _, _ => []
 | .c k :: r, j, el => k.cell (el.getD j 0) :: nksA K r (j + 1) el
 | .s _ _ :: r, j, el => .sl K :: nksA K r (j + 1) el
def slN : List NK → Nat → List Int → List (TypeId × List CK × Int)
 | [], _, _ => []
 | .c _ :: r, j, el => slN r (j + 1) el
 | .s e ks :: r, j, el => (e, ks, el.getD j 0) :: slN r (j + 1) el
noncomputable def xuV (objs : List Obj) (K : Nat) (t : TypeId) : AV → Option Eff
 | .ix key sz _ i off => match xai key objs, xkG P t with
  | some ⟨_, _, own, .nst _ ks l⟩, some m => if ks.length = sz ∧ sz ≠ 0 ∧ off + m ≤ sz ∧ 0 < m then
    (match xjk P t (nksA K ((ks.drop off).take m) off (l.getD i.toNat [])) 0, slN ((ks.drop off).take m) off (l.getD i.toNat []) with
    | some v, [] => chkE (inR i l) v
    | some v, [(e', ks', n)] => some ⟨some (inR i l), [], 1, [⟨K, K, false, match own with | true => .sub e' ks' (decL n) | false => .row e' ks' (decL n)⟩], v⟩
    | _, _ => none) else none
  | _, _ => none
 | _ => none
def xCH (ie : TypeInfo) : Bool := match ie.zero with | some z => Nat.beq z.cells.size ie.size | none => false
def xnC (objs : List Obj) (K : Nat) (t : TypeId) (s x : AV) : Option Eff :=
 match x with
 | .sl key2 => match xai key2 objs, P.underlying t with
  | some ⟨_, _, true, .nst e2 ks2 l2⟩, some (.slice e) => match P.info? e with
   | some ie => if e2 = e ∧ ks2.length = ie.size ∧ ie.size ≠ 0 ∧ xCH ie = true then (match s with
    | .val (.slice none 0 0) => some ⟨some (xcI ie.bytes l2.length), [], 1, [⟨K, K, true, .nst e2 ks2 l2⟩], .sl K⟩
    | .sl key => if key ≠ key2 then (match tgtA objs s with
     | some ⟨_, _, true, .nil⟩ => some ⟨some (xcI ie.bytes l2.length), [key], 1, [⟨K, K, true, .nst e2 ks2 l2⟩], .sl K⟩
     | some ⟨_, _, true, .nst e1 ks1 l1⟩ => if e1 = e2 ∧ ks1 = ks2 then some ⟨some (xcI ie.bytes (l1.length + l2.length)), [key], 1, [⟨K, K, true, .nst e1 ks1 (l1 ++ l2)⟩], .sl K⟩ else none
     | _ => none) else none
    | _ => none) else none
   | none => none
  | _, _ => none
 | _ => none
def isVw : AV → Bool
 | .vw _ _ _ _ => true
 | _ => false
def xlu (objs : List Obj) (K : Nat) (t : TypeId) (s x : AV) : Option Eff :=
 match s with
 | .vw key sz lo hi => match srcA P objs x with
  | some (_, b2, p) => match xe6 P b2, xai key objs, P.underlying t with
   | some (e2, ks2, l2), some ⟨_, _, true, b⟩, some (.slice e') => match xe6 P b, P.info? e' with
    | some (e, ks, l), some ie => if e = e' ∧ e2 = e ∧ ks2 = ks ∧ sz = ks.length ∧ ie.size = ks.length ∧ ks.length ≠ 0 then
      some ⟨xuz p (some (xAa l lo hi ∧ hi.toNat + l2.length ≤ l.length)), [key], 0, [⟨key, K, true, .row e ks (l.take hi.toNat ++ l2 ++ l.drop (hi.toNat + l2.length))⟩], .vw key sz lo ((hi.toNat + l2.length : Nat) : Int)⟩ else none
    | _, _ => none
   | _, _, _ => none
  | none => none
 | _ => none
def xnf (objs : List Obj) (K : Nat) (e' : TypeId) (key : Nat) (sz : Option Nat) (lo hi : Option Int) : Option Eff :=
 match xai key objs with
 | some ⟨_, _, true, b⟩ => match xe6 P b, xqa P e' with
  | some (e, ks, l), some z => match xp2 ks z.cells with
   | some zc => if e = e' ∧ (sz = none ∨ sz = some ks.length) then
     some ⟨some (xAa l lo (hi.getD l.length)), [key], 0, [⟨key, K, true, .row e ks (l.take (loN lo) ++ List.replicate ((hi.getD l.length).toNat - loN lo) zc ++ l.drop (hi.getD l.length).toNat)⟩], .tup []⟩ else none
   | none => none
  | _, _ => none
 | _ => none
def xu7 (objs : List Obj) (K : Nat) (t : TypeId) (x : AV) : Option Eff :=
 match P.underlying t with
 | some (.slice e') => match x with
  | .sl key => xnf P objs K e' key none none none
  | .vw key sz lo hi => xnf P objs K e' key (some sz) lo (some hi)
  | _ => none
 | _ => none
def xqg (objs : List Obj) (K : Nat) (t : TypeId) (x : AV) (lo : Option Int) (hi mx : Int) : Option Eff :=
 match x with
 | .sl key => match xai key objs with
  | some o => match xe6 P o.body with
   | some (e, ks, l) => match P.underlying t with
    | some (.slice e') => if e = e' ∧ (xkG P e) = some ks.length then some ⟨some (0 ≤ lo.getD 0 ∧ lo.getD 0 ≤ hi ∧ hi ≤ mx ∧ mx ≤ (l.length : Int)), [], 1, [], .sl K⟩ else none
    | _ => none
   | none => none
  | none => none
 | _ => none
def xvy (objs : List Obj) (K : Nat) (v : AV) : Option Eff :=
 match v with
 | .vw key sz none hi => match xai key objs with
  | some ⟨_, _, true, b⟩ => match xe6 P b with
   | some (e, ks, l) => if sz = ks.length then some ⟨some (0 ≤ hi ∧ hi ≤ (l.length : Int)), [key], 1, [⟨K, K, true, .row e ks (l.take hi.toNat)⟩], .sl K⟩ else none
   | none => none
  | _ => none
 | _ => none
def keyQ (kt : TypeId) : Option (Nat × IntKind) :=
 match P.underlying kt with
 | some (.array m e) => match P.underlying e with
  | some (.int q) => if P.cellsOf e = 1 ∧ P.cellsOf kt = m ∧ P.keyType kt = true ∧ P.types.size ≠ 0 then some (m, q) else none
  | _ => none
 | _ => none
def xc5 (m : Nat) (key : List Int) (l : List (List Int)) : Option (List Int) := (l.find? fun r => decide (r.take m = key)).map fun r => r.drop m
def xl4 (m : Nat) (key val : List Int) (l : List (List Int)) : List (List Int) :=
 bif (xc5 m key l).isSome then l.map (fun r => bif decide (r.take m = key) then key ++ val else r) else l ++ [key ++ val]
def xvR (K : Nat) (t : TypeId) : Option Eff :=
 match P.underlying t with
 | some (.map kt et) => match keyQ P kt, xrP P 9 et, xzi P et with
  | some (m, q), some ke, some true => some ⟨none, [], 1, [⟨K, K, true, .mp kt et q m ke []⟩], .sl K⟩
  | _, _, _ => none
 | _ => none
def xzh (t kt et : TypeId) : Bool := match P.underlying t with | some (.map k e) => Nat.beq k kt && Nat.beq e et | _ => false
def keyA (q : IntKind) (m : Nat) : AV → Option (List Int)
 | .agg cs => xp2 (List.replicate m (.int q)) cs
 | _ => none
def xqA (objs : List Obj) (t : TypeId) (x ix : AV) (ok : Bool) : Option Eff :=
 match x with
 | .sl key => match xai key objs with
  | some ⟨_, _, _, .mp kt et q m ke l⟩ => match keyA q m ix, xqa P et with
   | some kc, some (.agg z) => match xp2 ke z with
    | some zc => if xzh P t kt et = true ∧ keyQ P kt = some (m, q) then
      (match ok with
      | true => chkE (xqC q kc) (.tup [.agg (elA ke 0 ((xc5 m kc l).getD zc)), .bool (xc5 m kc l).isSome])
      | false => chkE (xqC q kc) (.agg (elA ke 0 ((xc5 m kc l).getD zc)))) else none
    | none => none
   | _, _ => none
  | _ => none
 | _ => none
def xjy (objs : List Obj) (K : Nat) (t : TypeId) (x ix v : AV) : Option Eff :=
 match x with
 | .sl key => match xai key objs with
  | some ⟨_, _, true, .mp kt et q m ke l⟩ => match keyA q m ix, v with
   | some kc, .agg cs => match xp2 ke cs with
    | some vc => if xzh P t kt et = true ∧ keyQ P kt = some (m, q) then some ⟨some (xqC q kc), [key], 0, [⟨key, K, true, .mp kt et q m ke (xl4 m kc vc l)⟩], .val undef⟩ else none
    | none => none
   | _, _ => none
  | _ => none
 | _ => none
noncomputable def xhk (ρ : Operand → Option AV) (objs : List Obj) (K : Nat) : Op → Option Eff
 | .move x | .assign x => match ρ x with | some v => okE v | none => none
 | .alloc t => match xqa P t with | some z => some ⟨none, [], 1, [⟨K, K, true, .cells z.cells⟩], .ptr K 0⟩ | none => none
 | .box _ x => match ρ x with | some v => if v.plainCells = true then some ⟨none, [], 1, [⟨K, K, true, .cells v.cells⟩], .ptr K 0⟩ else none | none => none
 | .buildSlice t len parts => (xef P ρ K t len parts.toList).map fun x => (xtY P objs K x).getD x
 | .build t parts =>
  match xqa P t, xAU P t, xhW ρ parts.toList with
  | some z, some place, some ps => match xz6 place ps z.cells with | some cs => okE (.agg cs) | none => none
  | _, _, _ => none
 | .load t x => match ρ x with
  | some v => (match xuV P objs K t v with | some z => some z | none => xzX P objs t v)
  | none => none
 | .store t x y => match ρ x, ρ y with | some a, some v => xsh P objs K t v a | _, _ => none
 | .nilCheck x => match ρ x with
  | some (.ptr key off) => okE (.ptr key off)
  | some (.fn (.func f) a b) => okE (.fn (.func f) a b)
  | some (.yl key) => okE (.yl key)
  | _ => none
 | .binOp op t x y _ => match ρ x, ρ y with
  | some (.int k a), some (.int k' b) => if k = k' then xDz op k a b else none
  | some (.bool a), some (.bool b) => (match op with
   | .eql => match eqA P 9 t (.bool a) (.bool b) with | some e => okE (.bool e) | none => none
   | .neq => match eqA P 9 t (.bool a) (.bool b) with | some e => okE (.bool !e) | none => none
   | _ => none)
  | some (.agg a), some (.agg b) => if P.eqGuardType P.depth t = false then (match op with
   | .eql => match eqA P 9 t (.agg a) (.agg b) with | some e => okE (.bool e) | none => none
   | .neq => match eqA P 9 t (.agg a) (.agg b) with | some e => okE (.bool !e) | none => none
   | _ => none) else none
  | _, _ => none
 | .unOp .not _ x => match ρ x with | some (.bool b) => okE (.bool !b) | _ => none
 | .unOp .neg _ x => match ρ x with | some (.int k n) => okE (.int k (k.wrap (0 - n))) | _ => none
 | .convert src dst x => match ρ x, P.underlying src, P.underlying dst with
  | some (.int k n), some (.int k1), some (.int k2) => if k = k1 then okE (.int k2 (k2.wrap n)) else none
  | _, _, _ => none
 | .makeFunc f first caps => match xmM ρ first.toList, xmM ρ caps.toList with
  | some a, some b => okE (.fn f a b)
  | _, _ => none
 | .fieldAddr s x f => match ρ x, xwe P s f with
  | some v, some fd => match xkG P fd.type with
   | some (_ + 1) => xjC P objs fd.offset v
   | _ => none
  | _, _ => none
 | .field s x f => match ρ x, xwe P s f with
  | some (.agg cs), some fd => match xjk P fd.type cs fd.offset with | some v => okE v | none => none
  | _, _ => none
 | .index t x i => match ρ x, ρ i, P.underlying t with
  | some (.agg cs), some (.val (.int _ n)), some (.array len e) => match xkG P e with
   | some sz => if 0 ≤ n ∧ n < (len : Int) then match xjk P e cs (n.toNat * sz) with | some v => okE v | none => none else none
   | none => none
  | _, _, _ => none
 | .indexAddr t x i => match ρ x, ρ i with | some v, some n => xjz P objs t v n | _, _ => none
 | .extract x i => match ρ x with
  | some (.tup vs) => match vs[i]? with | some v => okE v | none => none
  | _ => none
 | .slice t x lo hi none => match ρ x, xvM ρ lo, xvM ρ hi with
  | some v, some lo, some hi => xsm P objs t v lo hi
  | _, _, _ => none
 | .slice t x lo hi (some mx) => match ρ x with
  | some v => if lo.isNone && xv5 (hi.bind ρ) && xv5 (ρ mx) then xqh P objs K t v else
   match xvM ρ lo, xvM ρ hi, (ρ mx).bind intA with
   | some lo, some (some hi), some mx => xqg P objs K t v lo hi mx
   | _, _, _ => none
  | none => none
 | .makeMap t none => xvR P K t
 | .lookup t x ix ok => match ρ x, ρ ix with | some v, some k => xqA P objs t v k ok | _, _ => none
 | .mapUpdate t x ix y => match ρ x, ρ ix, ρ y with | some v, some k, some u => xjy P objs K t v k u | _, _, _ => none
 | .call { callee := .builtin b, args, argTypes } => match xmM ρ args.toList with
  | some vs => match b with
   | .min => match vs with
    | .int k a :: r => match mm imin k a r with | some v => okE v | none => none
    | _ => none
   | .max => match vs with
    | .int k a :: r => match mm imax k a r with | some v => okE v | none => none
    | _ => none
   | .len => match vs with
    | [x] => lenA P objs ((argTypes[0]?).bind P.underlying) x
    | _ => none
   | .append => match vs, argTypes.toList with
    | [s, x], [t, t'] => if t = t' then (match isVw s with | true => xlu P objs K t s x | false => (match xnC P objs K t s x with | some z => some z | none => xi4 P objs K t s x)) else none
    | _, _ => none
   | .clear => match vs, argTypes.toList with
    | [x], [t] => xu7 P objs K t x
    | _, _ => none
   | _ => none
  | none => none
 | _ => none
def Eff.strong (x : Eff) : Eff := { x with v := x.v.strong }
noncomputable def xp9 (ρ : Operand → Option AV) (objs : List Obj) (K : Nat) (op : Op) : Option Eff :=
 match op with
 | .binOp _ _ x y _ => if xxg (ρ x) && xxg (ρ y) then (xhk P (fun z => (ρ z).map AV.weak) objs K op).map Eff.strong else xhk P (fun z => (ρ z).map AV.weak) objs K op
 | .unOp _ _ x => if xxg (ρ x) then (xhk P (fun z => (ρ z).map AV.weak) objs K op).map Eff.strong else xhk P (fun z => (ρ z).map AV.weak) objs K op
 | .convert _ _ x => if xxg (ρ x) then (xhk P (fun z => (ρ z).map AV.weak) objs K op).map Eff.strong else xhk P (fun z => (ρ z).map AV.weak) objs K op
 | .call { callee := .builtin .min, .. } | .call { callee := .builtin .max, .. } => xhk P (fun z => (ρ z).map AV.weak) objs K op
 | _ => xhk P ρ objs K op
end ops
end Go.Sy
