/- Several texts in one (wip/pack.py): XSyA XSyB XSyC XSyE XSyG XSyI XSyS XSyI2. -/
import Derived.WalkKit
import Derived.Laws.Slices
import Derived.Orders
import Derived.MapKept
import Derived.WideKeyArr
namespace Go.Sy
inductive AV where
 | bool (b:Bool)
 | int (k:IntKind) (n:Int)
 | ptr (key off:Nat)
 | val (v:Value)
 | fn (f:Fn) (first caps:List AV)
 | agg (cs:List AV)
 | tup (vs:List AV)
 | sl (key:Nat)
 /-- a place in element i of a row whose elements have sz cells; kn: i is known -/
 | ix (key sz:Nat) (kn:Bool) (i:Int) (off:Nat)
 | yl (key:Nat)
 /-- a part of a row whose elements have sz cells: from lo (none: its start) to below hi -/
 | vw (key sz:Nat) (lo:Option Int) (hi:Int)
 /-- the function that a table of functions has at a number -/
 | fs (n:Int) (ents:List (Int×FuncId))
 /-- a value behind an interface, its type known -/
 | ifc (t:TypeId) (v:AV)
abbrev Env:=Nat→Value
def blk:Value→Nat
 | .pointer (some a)=>a.block
 | .slice (some a) _ _=>a.block
 | _=>0
def xnL:Value→Option Addr
 | .slice a _ _=>a
 | _=>none
def loN:Option Int→Nat
 | none=>0
 | some x=>x.toNat
def xfE (v:Value) (sz lo hi:Nat):Value :=
 match v with
 | .slice a _ c=>sliced a lo hi c sz
 | v=>v
def xxW (n:Int) (ents:List (Int×FuncId)):Value :=
 match ents.find? (fun p=>decide (p.1=n)) with
 | some p=>.func (.func p.2) #[] #[]
 | none=>.nilFunc
mutual
def AV.den (E:Env):AV→Value
 | .bool b=>.bool b
 | .int k n=>.int k n
 | .ptr key off=>.pointer (some ⟨blk (E key),off,none⟩)
 | .val v=>v
 | .fn f first caps=>.func f (AV.denL E first).toArray (AV.denL E caps).toArray
 | .agg cs=>.agg (AV.denL E cs).toArray
 | .tup vs=>.tuple (AV.denL E vs).toArray
 | .sl key=>E key
 | .ix key sz _ i off=>.pointer ((xnL (E key)).map fun a=>a.add (i.toNat*sz+off))
 | .yl key=>.func (.yield (blk (E key))) #[] #[]
 | .vw key sz lo hi=>xfE (E key) sz (loN lo) hi.toNat
 | .fs n ents=>xxW n ents
 | .ifc t v=>.iface t (AV.den E v)
def AV.denL (E:Env):List AV→List Value
 | []=>[]
 | a::r=>AV.den E a::AV.denL E r
end
mutual
/-- All keys in it are such. -/
def AV.all (p:Nat→Prop):AV→Prop
 | .ptr key _=>p key
 | .fn _ first caps=>AV.allL p first∧AV.allL p caps
 | .agg cs=>AV.allL p cs
 | .tup vs=>AV.allL p vs
 | .sl key=>p key
 | .ix key _ _ _ _=>p key
 | .yl key=>p key
 | .vw key _ _ _=>p key
 | .ifc _ v=>AV.all p v
 | _=>True
def AV.allL (p:Nat→Prop):List AV→Prop
 | []=>True
 | a::r=>AV.all p a∧AV.allL p r
end
abbrev AV.lt (n:Nat) (v:AV):Prop:=AV.all (fun k=>k<n) v
abbrev AV.ltL (n:Nat) (l:List AV):Prop:=AV.allL (fun k=>k<n) l
mutual
/-- Its keys, in order. -/
def AV.keys:AV→List Nat
 | .ptr key _=>[key]
 | .fn _ first caps=>AV.keysL first++AV.keysL caps
 | .agg cs=>AV.keysL cs
 | .tup vs=>AV.keysL vs
 | .sl key=>[key]
 | .ix key _ _ _ _=>[key]
 | .yl key=>[key]
 | .vw key _ _ _=>[key]
 | .ifc _ v=>AV.keys v
 | _=>[]
def AV.keysL:List AV→List Nat
 | []=>[]
 | a::r=>AV.keys a++AV.keysL r
end
mutual
/-- Its keys under other names. -/
def AV.ren (f:Nat→Nat):AV→AV
 | .ptr key off=>.ptr (f key) off
 | .fn g first caps=>.fn g (AV.renL f first) (AV.renL f caps)
 | .agg cs=>.agg (AV.renL f cs)
 | .tup vs=>.tup (AV.renL f vs)
 | .sl key=>.sl (f key)
 | .ix key sz kn i off=>.ix (f key) sz kn i off
 | .yl key=>.yl (f key)
 | .vw key sz lo hi=>.vw (f key) sz lo hi
 | .ifc t v=>.ifc t (AV.ren f v)
 | v=>v
def AV.renL (f:Nat→Nat):List AV→List AV
 | []=>[]
 | a::r=>AV.ren f a::AV.renL f r
end
def AV.cells:AV→List AV
 | .agg cs=>cs
 | v=>[v]
def AV.scalar:AV→Bool
 | .agg _ | .tup _=>false
 | .val (.agg _) | .val (.tuple _)=>false
 | _=>true
def AV.plainCells:AV→Bool
 | .val (.agg _)=>false
 | _=>true
def xoM (v:Value):AV:=.val v
def ofValue:Value→AV
 | .agg cs=>.agg (cs.toList.map xoM)
 | v=>xoM v
mutual
/-- Known integers and bools as any others. -/
def AV.weak:AV→AV
 | .val (.bool b)=>.bool b
 | .val (.int k n)=>.int k n
 | .agg cs=>.agg (AV.weakL cs)
 | .tup vs=>.tup (AV.weakL vs)
 | v=>v
def AV.weakL:List AV→List AV
 | []=>[]
 | a::r=>AV.weak a::AV.weakL r
end
def AV.strong:AV→AV
 | .bool b=>.val (.bool b)
 | .int k n=>.val (.int k n)
 | v=>v
def xxL:Option AV→Bool
 | some (.val (.bool _)) | some (.val (.int _ _))=>true
 | _=>false
def xpQ (q:IntKind) (ns:List Int):Prop:=∀ n∈ns,(Lit.int q n).wf=true
inductive CK where
 | int (k:IntKind)
 | bool
 deriving DecidableEq
def CK.cell:CK→Int→AV
 | .int k,n=>.int k n
 | .bool,n=>.bool (n !=0)
def CK.val:CK→Int→Value
 | .int k,n=>.int k n
 | .bool,n=>.bool (n !=0)
def elA:List CK→Nat→List Int→List AV
 | [],_,_=>[]
 | k::ks,j,el=>k.cell (el.getD j 0)::elA ks (j+1) el
def elV:List CK→Nat→List Int→List Value
 | [],_,_=>[]
 | k::ks,j,el=>k.val (el.getD j 0)::elV ks (j+1) el
def rowV (ks:List CK) (l:List (List Int)):List Value:=l.flatMap (elV ks 0)
def xA0:CK→AV→Option Int
 | .int k,.int k' n=>if k=k' then some n else none
 | .int k,.val (.int k' n)=>if k=k' then some n else none
 | .bool,.bool b=>some (bif b then 1 else 0)
 | .bool,.val (.bool b)=>some (bif b then 1 else 0)
 | _,_=>none
def xpf:List CK→List AV→Option (List Int)
 | [],[]=>some []
 | k::ks,v::vs=>match xA0 k v,xpf ks vs with
  | some n,some ns=>some (n::ns)
  | _,_=>none
 | _,_=>none
def xyi (ks:List CK):List (List AV)→Option (List (List Int))
 | []=>some []
 | el::els=>match xpf ks el,xyi ks els with
  | some n,some ns=>some (n::ns)
  | _,_=>none
def zig:Int→Nat
 | .ofNat n=>2*n
 | .negSucc n=>2*n+1
theorem xD5 {a b:Int} (h:zig a=zig b):a=b:=by
 cases a<;>cases b<;>simp only [zig] at h<;>first | (exfalso; omega) | (congr 1; omega)
def encN:List Nat→Nat
 | []=>0
 | x::r=>2 ^ x*(2*encN r+1)
theorem xrI:∀ {x y a b:Nat},2 ^ x*(2*a+1)=2 ^ y*(2*b+1)→x=y∧a=b
 | 0,0,a,b,h=>by simp at h; exact ⟨rfl,by omega⟩
 | 0,y+1,a,b,h=>by
  exfalso
  rw [Nat.pow_succ,Nat.pow_zero,Nat.mul_comm (2 ^ y) 2,Nat.mul_assoc] at h
  omega
 | x+1,0,a,b,h=>by
  exfalso
  rw [Nat.pow_succ,Nat.pow_zero,Nat.mul_comm (2 ^ x) 2,Nat.mul_assoc] at h
  omega
 | x+1,y+1,a,b,h=>by
  rw [Nat.pow_succ,Nat.pow_succ,Nat.mul_comm (2 ^ x) 2,Nat.mul_comm (2 ^ y) 2,Nat.mul_assoc,Nat.mul_assoc] at h
  obtain ⟨h1,h2⟩:=xrI (Nat.eq_of_mul_eq_mul_left (by omega) h)
  exact ⟨by rw [h1],h2⟩
theorem xwH:∀ {l l':List Nat},encN l=encN l'→l=l'
 | [],[],_=>rfl
 | [],y::r,h=>by
  exfalso
  have:0<2 ^ y*(2*encN r+1):=Nat.mul_pos (Nat.pow_pos (by omega)) (by omega)
  simp only [encN] at h
  omega
 | x::r,[],h=>by
  exfalso
  have:0<2 ^ x*(2*encN r+1):=Nat.mul_pos (Nat.pow_pos (by omega)) (by omega)
  simp only [encN] at h
  omega
 | x::r,y::r',h=>by
  obtain ⟨h1,h2⟩:=xrI h
  rw [h1,xwH h2]
theorem xyU {α β:Type} {f:α→β} (hf:∀ a b,f a=f b→a=b):∀ {l l':List α},l.map f=l'.map f→l=l'
 | [],[],_=>rfl
 | [],_::_,h=>by cases h
 | _::_,[],h=>by cases h
 | x::r,y::r',h=>by
  have h:=List.cons.inj h
  rw [hf _ _ h.1,xyU hf h.2]
theorem xzf:∃ p:(List (List Int)→Int)×(Int→List (List Int)),∀ l,p.2 (p.1 l)=l:=by
 classical
 have inj:∀ l l':List (List Int),((encN (l.map fun r=>encN (r.map zig)):Nat):Int)=((encN (l'.map fun r=>encN (r.map zig)):Nat):Int)→l=l':=fun l l' h =>
  xyU (fun a b hab=>xyU (fun _ _=>xD5) (xwH hab)) (xwH (Int.ofNat.inj h))
 refine ⟨(fun l=>((encN (l.map fun r=>encN (r.map zig)):Nat):Int),fun n=>if h:∃ l:List (List Int),((encN (l.map fun r=>encN (r.map zig)):Nat):Int)=n then h.choose else []),fun l=>?_⟩
 have hx:∃ l':List (List Int),((encN (l'.map fun r=>encN (r.map zig)):Nat):Int)=((encN (l.map fun r=>encN (r.map zig)):Nat):Int):=⟨l,rfl⟩
 show (if h:∃ l':List (List Int),((encN (l'.map fun r=>encN (r.map zig)):Nat):Int)=((encN (l.map fun r=>encN (r.map zig)):Nat):Int) then h.choose else [])=l
 rw [dif_pos hx]
 exact inj _ _ hx.choose_spec
noncomputable def encL (l:List (List Int)):Int:=xzf.choose.1 l
noncomputable def decL (n:Int):List (List Int):=xzf.choose.2 n
theorem xtQ (l:List (List Int)):decL (encL l)=l:=xzf.choose_spec l
inductive NK where
 | c (k:CK)
 | s (e:TypeId) (ks:List CK)
 deriving DecidableEq
inductive Body where
 | cells (cs:List AV)
 | row (e:TypeId) (ks:List CK) (l:List (List Int))
 | arr (e:TypeId) (sz:Nat) (els:List (List AV))
 /-- a nil slice -/
 | nil
 /-- a map: the key's type (an array of m integers), the element's type (a struct of plain data), the entries: the key's numbers, then the element's -/
 | mp (kt et:TypeId) (q:IntKind) (m:Nat) (ke:List CK) (l:List (List Int))
 /-- a row whose elements hold slices of plain data: the element's type, its cells' xq0, the elements -/
 | nst (e:TypeId) (ks:List NK) (l:List (List Int))
 /-- a map whose keys are integers and whose values hold slices: the key's and the element's type, the entries: the key, then the value's numbers -/
 | mq (kt et:TypeId) (q:IntKind) (ks:List NK) (l:List (List Int))
 /-- a map of integers to functions: the key's and the element's type, the entries -/
 | mf (kt et:TypeId) (q:IntKind) (ents:List (Int×FuncId))
 /-- a row that is only read, in a block that is new since the call's start -/
 | sub (e:TypeId) (ks:List CK) (l:List (List Int))
 /-- st: 0 ready, 1 busy, 2 left; N: the frame's slots -/
 | loop (st:Nat) (pend:Option Code) (N:Nat) (tm:Nat→Option AV) (params:Array Tmp) (assign body:Code)
 /-- a loop over a function of which no round runs or comes: its state, its jump -/
 | fin (st:Nat) (pend:Option Code)
structure Obj where
 key:Nat
 ver:Nat
 own:Bool
 body:Body
def Body.cellsOf:Body→List AV
 | .cells cs=>cs
 | .arr _ _ els=>els.flatten
 | _=>[]
structure Heap where
 objs:List Obj
 next:Nat
def xap (key:Nat):List Obj→Option Obj
 | []=>none
 | o::r=>if Nat.beq o.key key then some o else xap key r
def xn2 (cs:List AV) (off:Nat) (vs:List AV):List AV:=cs.take off++vs++cs.drop (off+vs.length)
structure Eff where
 p:Option Prop
 rm:List Nat
 nk:Nat
 add:List Obj
 v:AV
def xfu (x:Eff) (l:List Obj):List Obj:=x.add++l.filter (fun o=>!(x.rm.any (Nat.beq o.key)))
def okE (v:AV):Option Eff:=some ⟨none,[],0,[],v⟩
def chkE (p:Prop) (v:AV):Option Eff:=some ⟨some p,[],0,[],v⟩
def Eff.pure (x:Eff):Bool:=x.rm.isEmpty&&x.add.isEmpty&&Nat.beq x.nk 0
def Eff.holds (x:Eff):Prop:=match x.p with | none=>True | some p=>p
inductive Tree (α:Type) where
 | ret (a:α)
 | br (b:Bool) (t e:Tree α)
 | need (p:Prop) (t:Tree α)
 /-- one of two ways, not told which; the first one only if p -/
 | ask (p:Prop) (t e:Tree α)
 | bad
namespace Tree
def bind {α β:Type}:Tree α→(α→Tree β)→Tree β
 | .ret a,f=>f a
 | .br b t e,f=>.br b (t.bind f) (e.bind f)
 | .need p t,f=>.need p (t.bind f)
 | .ask p t e,f=>.ask p (t.bind f) (e.bind f)
 | .bad,_=>.bad
def holds {α:Type}:Tree α→(α→Prop)→Prop
 | .ret a,Q=>Q a
 | .br b t e,Q=>(b=true→t.holds Q)∧(b=false→e.holds Q)
 | .need p t,Q=>p∧t.holds Q
 | .ask p t e,Q=>(p→t.holds Q)∧e.holds Q
 | .bad,_=>False
end Tree
noncomputable def xaH {α:Type} (p:Prop) (o:Option α):Option α:=by classical exact if p then o else none
noncomputable def Tree.opt {α:Type}:Tree α→Option α
 | .ret a=>some a
 | .br b t e=>bif b then t.opt else e.opt
 | .need p t=>xaH p t.opt
 | .ask p t e=>xaH (p→t.opt=e.opt) e.opt
 | .bad=>none
section ops
variable (P:Program)
def xjY (t:TypeId):Option Nat:=(P.info? t).map (·.size)
def xxS (t:TypeId):Option Bool:=(P.underlying t).map fun | .struct _ | .array _ _=>true | _=>false
def xnm (t:TypeId):Option AV:=match P.info? t with
 | some i=>i.zero.map ofValue
 | none=>none
def xi1 (t:TypeId) (cs:List AV) (off:Nat):Option AV :=
 match xxS P t,xjY P t with
 | some true,some n=>if off+n≤cs.length then some (.agg ((cs.drop off).take n)) else none
 | some false,some _=>cs[off]?
 | _,_=>none
def xwD (s:TypeId) (f:Nat):Option Field :=
 match P.underlying s with
 | some (.struct fields)=>fields[f]?
 | _=>none
def xBB (t:TypeId):Option (Nat→Option (Nat×Nat)) :=
 match P.underlying t with
 | some (.array _ e)=>(P.info? e).map fun ie i=>some (i*ie.size,ie.size)
 | some (.struct fields)=>(fields.toList.mapM (fun f=>(P.info? f.type).map fun i=>(f.offset,i.size))).map fun un i=>un.toArray[i]?
 | _=>none
def xAO (place:Nat→Option (Nat×Nat)):List (Nat×AV)→List AV→Option (List AV)
 | [],cs=>some cs
 | (i,v)::rest,cs =>
  match place i with
  | none=>none
  | some (off,n)=>if v.cells.length=n∧off+v.cells.length≤cs.length∧v.plainCells=true then xAO place rest (xn2 cs off v.cells) else none
def xgI (ρ:Operand→Option AV):List (Nat×Operand)→Option (List (Nat×AV))
 | []=>some []
 | (i,x)::r=>match ρ x,xgI ρ r with
  | some v,some vs=>some ((i,v)::vs)
  | _,_=>none
def xlY (ρ:Operand→Option AV):List Operand→Option (List AV)
 | []=>some []
 | x::r=>match ρ x,xlY ρ r with
  | some v,some vs=>some (v::vs)
  | _,_=>none
def xxM (rec_:TypeId→Option (List CK)):List Field→Nat→Option (List CK)
 | [],_=>some []
 | f::r,off =>
  if f.offset=off then
   match rec_ f.type with
   | some ks=>if ks.length=P.cellsOf f.type then (match xxM rec_ r (off+ks.length) with | some ks'=>some (ks++ks') | none=>none) else none
   | none=>none
  else none
def repL (n:Nat) (l:List CK):List CK:=(List.replicate n l).flatten
def xq0:Nat→TypeId→Option (List CK)
 | 0,_=>none
 | n+1,t=>match P.underlying t with
  | some .bool=>some [.bool]
  | some (.int k)=>some [.int k]
  | some (.struct fs)=>match xxM P (xq0 n) fs.toList 0 with
   | some ks=>if ks.length=P.cellsOf t then some ks else none
   | none=>none
  | some (.array m e)=>match xq0 n e with
   | some ks=>if ks.length=P.cellsOf e∧(repL m ks).length=P.cellsOf t then some (repL m ks) else none
   | none=>none
  | _=>none
def xiJ (ρ:Operand→Option AV) (sz:Nat):Nat→List (Nat×Operand)→Option (List (List AV))
 | _,[]=>some []
 | j,(i,x)::r=>if i=j then (match ρ x with
  | some v=>if v.plainCells=true∧v.cells.length=sz∧v.cells.all AV.scalar=true then (match xiJ ρ sz (j+1) r with
   | some els=>some (v.cells::els)
   | none=>none) else none
  | none=>none) else none
def eqFields (eq:TypeId→AV→AV→Option Bool) (xs ys:List AV):List Field→Option Bool
 | []=>some true
 | f::r =>
  if f.name = "_" then none else
  match xi1 P f.type xs f.offset,xi1 P f.type ys f.offset with
  | some a,some b=>match eq f.type a b,eqFields eq xs ys r with
   | some u,some v=>some (u&&v)
   | _,_=>none
  | _,_=>none
def eqItems (eq:TypeId→AV→AV→Option Bool) (e:TypeId) (c:Nat) (xs ys:List AV):List Nat→Option Bool
 | []=>some true
 | i::r =>
  match xi1 P e xs (i*c),xi1 P e ys (i*c) with
  | some a,some b=>match eq e a b,eqItems eq e c xs ys r with
   | some u,some v=>some (u&&v)
   | _,_=>none
  | _,_=>none
def eqA:Nat→TypeId→AV→AV→Option Bool
 | 0,_,_,_=>none
 | d+1,t,x,y =>
  match P.underlying t,x,y with
  | some .bool,.bool a,.bool b=>some (a==b)
  | some (.int _),.int k a,.int k' b=>if k=k' then some (a==b) else none
  | some (.struct fs),.agg xs,.agg ys=>if P.stoodInHeld t=false then eqFields P (eqA d) xs ys fs.toList else none
  | some (.array n e),.agg xs,.agg ys=>match P.info? e with
   | some i=>eqItems P (eqA d) e i.size xs ys (List.range n)
   | none=>none
  | _,_,_=>none
def bAnd (k:IntKind) (a b:Int):Int:=k.wrap (BitVec.ofInt k.bits a &&& BitVec.ofInt k.bits b).toNat
def bOr (k:IntKind) (a b:Int):Int:=k.wrap (BitVec.ofInt k.bits a ||| BitVec.ofInt k.bits b).toNat
def bXor (k:IntKind) (a b:Int):Int:=k.wrap (BitVec.ofInt k.bits a ^^^ BitVec.ofInt k.bits b).toNat
def bNot (k:IntKind) (a b:Int):Int:=k.wrap (BitVec.ofInt k.bits a &&& ~~~(BitVec.ofInt k.bits b)).toNat
def bShl (k:IntKind) (a b:Int):Int:=k.wrap (a*2 ^ min b.toNat k.bits)
def xwt:BinOp→Bool
 | .shl | .shr=>true
 | _=>false
def xDq (op:BinOp) (k:IntKind) (a b:Int):Option Eff :=
 match op with
 | .and=>okE (.int k (bAnd k a b))
 | .or=>okE (.int k (bOr k a b))
 | .xor=>okE (.int k (bXor k a b))
 | .andNot=>okE (.int k (bNot k a b))
 | .shl=>chkE (0≤b) (.int k (bShl k a b))
 | .add=>okE (.int k (k.wrap (a+b)))
 | .sub=>okE (.int k (k.wrap (a-b)))
 | .mul=>okE (.int k (k.wrap (a*b)))
 | .quo=>chkE (b≠0) (.int k (k.wrap (a.tdiv b)))
 | .rem=>chkE (b≠0) (.int k (a.tmod b))
 | .eql=>okE (.bool (a==b))
 | .neq=>okE (.bool (a !=b))
 | .lss=>okE (.bool (a<b))
 | .leq=>okE (.bool (a≤b))
 | .gtr=>okE (.bool (a>b))
 | .geq=>okE (.bool (a≥b))
 | .shr=>chkE (0≤b) (.int k (a.fdiv (2 ^ (min b.toNat k.bits))))
def imin (x y:Int):Int:=if y<x then y else x
def imax (x y:Int):Int:=if y>x then y else x
def mm (op:Int→Int→Int) (k:IntKind):Int→List AV→Option AV
 | a,[]=>some (.int k a)
 | a,.int k' b::r=>if k=k' then mm op k (op a b) r else none
 | _,_=>none
def xuu (sz:Nat) (el:List Int) (off:Nat) (ns:List Int):List Int:=(List.range sz).map fun j=>if off≤j∧j<off+ns.length then ns.getD (j-off) 0 else el.getD j 0
def inR (i:Int) (l:List (List Int)):Prop:=0≤i∧i<(l.length:Int)
def xdo (bytes n:Nat):Prop:=n*bytes≤140737488355328∧n≤maxLen
instance (bytes n:Nat):Decidable (xdo bytes n):=by unfold xdo; infer_instance
def xes:Body→Option (TypeId×List CK×List (List Int))
 | .row e ks l=>some (e,ks,l)
 | .sub e ks l=>some (e,ks,l)
 | .arr e sz els=>match xq0 P 9 e with
  | some ks=>if ks.length=sz then (xyi ks els).map fun l=>(e,ks,l) else none
  | none=>none
 | _=>none
def xub (e:TypeId) (ie:TypeInfo) (b:Body):Bool :=
 (match ie.zero with | some z=>Nat.beq z.cells.size ie.size | none=>false) &&
 match b with
 | .row e2 ks _=>Nat.beq e2 e&&Nat.beq ks.length ie.size&&!(Nat.beq ie.size 0)
 | .arr e2 sz _=>Nat.beq e2 e&&Nat.beq sz ie.size&&!(Nat.beq ie.size 0)
 | _=>false
def xol (K:Nat) (bytes:Nat) (s:AV) (o:Option Obj) (key2:Nat) (b2:Body):Option Eff :=
 match s,o,b2 with
 | .sl key,some ⟨_,_,true,.nil⟩,.arr e sz els2=>if key≠key2∧xdo bytes els2.length then some ⟨none,[key],1,[⟨K,K,true,.arr e sz els2⟩],.sl K⟩ else none
 | .sl key,some ⟨_,_,true,.nil⟩,.row e ks l2=>if key≠key2 then some ⟨some (xdo bytes l2.length),[key],1,[⟨K,K,true,.row e ks l2⟩],.sl K⟩ else none
 | .val (.slice none 0 0),_,.arr e sz els2=>if xdo bytes els2.length then some ⟨none,[],1,[⟨K,K,true,.arr e sz els2⟩],.sl K⟩ else none
 | .val (.slice none 0 0),_,.row e ks l2=>some ⟨some (xdo bytes l2.length),[],1,[⟨K,K,true,.row e ks l2⟩],.sl K⟩
 | .sl key,some ⟨_,_,true,.arr e sz els⟩,.arr e2 sz2 els2=>if key≠key2∧e=e2∧sz=sz2∧xdo bytes (els.length+els2.length) then some ⟨none,[key],1,[⟨K,K,true,.arr e sz (els++els2)⟩],.sl K⟩ else none
 | .sl key,some ⟨_,_,true,b⟩,b2=>match xes P b,xes P b2 with
  | some (e,ks,l),some (e2,ks2,l2)=>if key≠key2∧e=e2∧ks=ks2 then some ⟨some (xdo bytes (l.length+l2.length)),[key],1,[⟨K,K,true,.row e ks (l++l2)⟩],.sl K⟩ else none
  | _,_=>none
 | _,_,_=>none
def xdu (n:Int):Option Int→Option Int→Prop×Option Int×Int
 | none,none=>(True,none,n)
 | none,some h=>((0≤h∧h≤n),none,h)
 | some lo,none=>((0≤lo∧lo≤n),some lo,n)
 | some lo,some h=>((0≤lo∧lo≤h∧h≤n),some lo,h)
def cutV (l:List (List Int)) (lo:Option Int) (hi:Int):List (List Int):=(l.take hi.toNat).drop (loN lo)
def xAU (l:List (List Int)) (lo:Option Int) (hi:Int):Prop:=(loN lo:Int)≤hi∧hi≤(l.length:Int)
def inV (i:Int) (lo:Option Int) (hi:Int) (l:List (List Int)):Prop:=0≤i∧(loN lo:Int)+i<hi∧hi≤(l.length:Int)
def shI (lo:Option Int) (i:Int):Int:=match lo with | none=>i | some x=>(x.toNat:Int)+i
def intA:AV→Option Int
 | .int _ n=>some n
 | .val (.int _ n)=>some n
 | _=>none
def xv2 (ρ:Operand→Option AV):Option Operand→Option (Option Int)
 | none=>some none
 | some x=>match ρ x with
  | some v=>(intA v).map some
  | none=>none
def xAA (objs:List Obj) (t:TypeId):AV→Option Eff
 | .ptr key off=>match xap key objs with
  | some ⟨_,_,_,.cells cs⟩=>match xi1 P t cs off with | some v=>okE v | none=>none
  | _=>none
 | .ix key sz kn i off=>match xap key objs with
  | some ⟨_,_,_,.arr e sz' els⟩=>(match kn with
   | true=>(match els[i.toNat]? with
    | some el=>if sz'=sz∧sz≠0 then (match xi1 P t el off with | some v=>okE v | none=>none) else none
    | none=>none)
   | false=>(match xes P (.arr e sz' els) with
    | some (_,ks,l)=>if ks.length=sz∧sz≠0 then (match xi1 P t (elA ks 0 (l.getD i.toNat [])) off with | some v=>chkE (inR i l) v | none=>none) else none
    | none=>none))
  | some ⟨_,_,_,.row _ ks l⟩=>if ks.length=sz∧sz≠0 then (match xi1 P t (elA ks 0 (l.getD i.toNat [])) off with | some v=>chkE (inR i l) v | none=>none) else none
  | some ⟨_,_,_,.sub _ ks l⟩=>if ks.length=sz∧sz≠0 then (match xi1 P t (elA ks 0 (l.getD i.toNat [])) off with | some v=>chkE (inR i l) v | none=>none) else none
  | _=>none
 | _=>none
def xru (objs:List Obj) (K:Nat) (t:TypeId) (v:AV):AV→Option Eff
 | .ptr key off=>match xap key objs,xjY P t with
  | some ⟨_,_,true,.cells cs⟩,some n=>if v.cells.length=n∧off+v.cells.length≤cs.length∧v.cells.all AV.scalar=true then some ⟨none,[key],0,[⟨key,K,true,.cells (xn2 cs off v.cells)⟩],.val undef⟩ else none
  | _,_=>none
 | .ix key sz _ i off=>match xap key objs,xjY P t with
  | some ⟨_,_,true,b⟩,some n=>match xes P b with
   | some (e,ks,l)=>match xpf ((ks.drop off).take n) v.cells with
    | some ns=>if ks.length=sz∧sz≠0∧off+n≤sz∧v.cells.length=n then some ⟨some (inR i l),[key],0,[⟨key,K,true,.row e ks (l.set i.toNat (xuu sz (l.getD i.toNat []) off ns))⟩],.val undef⟩ else none
    | none=>none
   | none=>none
  | _,_=>none
 | _=>none
def xjh (objs:List Obj) (t:TypeId) (x i:AV):Option Eff :=
 match P.underlying t with
 | some (.array len e)=>(match x,i,xjY P e with
  | .ptr key off,.val (.int _ n),some sz=>if 0≤n∧n<(len:Int) then okE (.ptr key (off+n.toNat*sz)) else none
  | _,_,_=>none)
 | some (.slice e)=>(match x,intA i,xjY P e with
  | .sl key,some n,some (s+1)=>(match xap key objs with
   | some ⟨_,_,_,.arr e' sz els⟩=>if sz=s+1 then (match xxL (some i) with
    | true=>if 0≤n∧n<(els.length:Int) then okE (.ix key (s+1) true n 0) else none
    | false=>(match xes P (.arr e' sz els) with
     | some (_,_,l)=>chkE (inR n l) (.ix key (s+1) false n 0)
     | none=>none)) else none
   | some ⟨_,_,_,.row _ ks l⟩=>if ks.length=s+1 then chkE (inR n l) (.ix key (s+1) false n 0) else none
   | some ⟨_,_,_,.sub _ ks l⟩=>if ks.length=s+1 then chkE (inR n l) (.ix key (s+1) false n 0) else none
   | some ⟨_,_,_,.nst _ ks l⟩=>if ks.length=s+1 then chkE (inR n l) (.ix key (s+1) false n 0) else none
   | _=>none)
  | .vw key sz lo hi,some n,some (s+1)=>(match xap key objs with
   | some o=>(match xes P o.body with
    | some (_,ks,l)=>if ks.length=s+1∧sz=s+1 then chkE (inV n lo hi l) (.ix key (s+1) false (shI lo n) 0) else none
    | none=>none)
   | none=>none)
  | _,_,_=>none)
 | _=>none
def xhu (objs:List Obj) (d:Nat):AV→Option Eff
 | .ptr key off=>okE (.ptr key (off+d))
 | .ix key sz kn i off=>match xap key objs with
  | some o=>match o.body with
   | .arr e sz' els=>(match kn with
    | true=>if i.toNat<els.length∧sz'≠0 then okE (.ix key sz true i (off+d)) else none
    | false=>(match xes P (.arr e sz' els) with
     | some (_,ks,l)=>if ks≠[] then chkE (inR i l) (.ix key sz false i (off+d)) else none
     | none=>none))
   | .row _ ks l=>if ks≠[] then chkE (inR i l) (.ix key sz kn i (off+d)) else none
   | .sub _ ks l=>if ks≠[] then chkE (inR i l) (.ix key sz kn i (off+d)) else none
   | .nst _ ks l=>if ks≠[] then chkE (inR i l) (.ix key sz kn i (off+d)) else none
   | _=>none
  | none=>none
 | _=>none
def xGo (t:TypeId) (x i:AV):Option Nat :=
 match P.underlying t,x,i with
 | some (.array len e),.ix _ _ _ _ _,.val (.int _ n)=>(match xjY P e with
  | some sz=>if 0≤n∧n<(len:Int) then some (n.toNat*sz) else none
  | none=>none)
 | _,_,_=>none
def xjg (objs:List Obj) (t:TypeId) (x i:AV):Option Eff :=
 match xGo P t x i with
 | some d=>xhu P objs d x
 | none=>xjh P objs t x i
def xdQ (ρ:Operand→Option AV) (K:Nat) (t:TypeId) (len:Nat) (parts:List (Nat×Operand)):Option Eff :=
 match P.underlying t with
 | some (.slice e)=>match xjY P e,xnm P e with
  | some (n+1),some z=>match xiJ ρ (n+1) 0 parts with
   | some els=>if els.length=len∧z.cells.length=n+1∧z.plainCells=true∧len*(n+1)≤16777216 then some ⟨none,[],1,[⟨K,K,true,.arr e (n+1) els⟩],.sl K⟩ else none
   | none=>none
  | _,_=>none
 | _=>none
def xkG (objs:List Obj) (t:TypeId) (key:Nat) (sz:Option Nat) (lo hi:Option Int):Option Eff :=
 match xap key objs with
 | some o=>match xes P o.body with
  | some (e,ks,l)=>match P.underlying t with
   | some (.slice e')=>if e=e'∧(xjY P e)=some ks.length∧(sz=none∨sz=some ks.length) then chkE (xdu l.length lo hi).1 (.vw key ks.length (xdu l.length lo hi).2.1 (xdu l.length lo hi).2.2) else none
   | _=>none
  | none=>none
 | none=>none
def xrA (objs:List Obj) (t:TypeId) (x:AV) (lo hi:Option Int):Option Eff :=
 match x with
 | .sl key=>xkG P objs t key none lo hi
 | .vw key sz none h=>xkG P objs t key (some sz) lo (some (hi.getD h))
 | _=>none
def xpw (objs:List Obj) (K:Nat) (t:TypeId) (x:AV):Option Eff :=
 match P.underlying t with
 | some (.slice e')=>match xjY P e' with
  | some _=>match x with
   | .sl key=>match xap key objs with
    | some o=>match o.body with
     | .nil=>some ⟨none,[],1,[⟨K,K,true,.nil⟩],.sl K⟩
     | b=>match xes P b with
      | some (e,ks,_)=>if e=e' then some ⟨none,[],1,[⟨K,K,true,.row e ks []⟩],.sl K⟩ else none
      | none=>none
    | none=>none
   | .val (.slice none 0 0)=>some ⟨none,[],1,[⟨K,K,true,.nil⟩],.sl K⟩
   | _=>none
  | none=>none
 | _=>none
def xwr:Option AV→Bool
 | some (.val (.int _ n))=>decide (n=0)
 | _=>false
def lenA (objs:List Obj) (t:Option TypeDesc) (x:AV):Option Eff :=
 match t,x with
 | some (.slice _),.sl key=>(match xap key objs with
  | some ⟨_,_,_,.arr _ _ els⟩=>okE (.val (.int .i64 els.length))
  | some ⟨_,_,_,.row _ _ l⟩=>okE (.int .i64 l.length)
  | some ⟨_,_,_,.sub _ _ l⟩=>okE (.int .i64 l.length)
  | some ⟨_,_,_,.nst _ _ l⟩=>okE (.int .i64 l.length)
  | some ⟨_,_,_,.nil⟩=>okE (.val (.int .i64 0))
  | _=>none)
 | some (.slice _),.val (.slice _ n _)=>okE (.val (.int .i64 n))
 | some (.slice _),.vw key _ lo hi=>(match xap key objs with
  | some o=>(match xes P o.body with
   | some _=>okE (.int .i64 ((hi.toNat-loN lo:Nat):Int))
   | none=>none)
  | none=>none)
 | _,_=>none
def xAh:Body→Body
 | .sub e ks l=>.row e ks l
 | b=>b
def srcA (objs:List Obj):AV→Option (Nat×Body×Option Prop)
 | .sl key=>match xap key objs with
  | some o=>some (key,xAh o.body,none)
  | none=>none
 | .vw key sz lo hi=>match xap key objs with
  | some o=>match xes P o.body with
   | some (e,ks,l)=>if ks.length=sz then some (key,.row e ks (cutV l lo hi),some (xAU l lo hi)) else none
   | none=>none
  | none=>none
 | _=>none
def tgtA (objs:List Obj):AV→Option Obj
 | .sl key=>xap key objs
 | _=>none
def xjG:Option Prop→Prop
 | none=>True
 | some p=>p
def xuR:Option Prop→Option Prop→Option Prop
 | none,q=>q
 | some p,none=>some p
 | some p,some q=>some (p∧q)
def xiB (objs:List Obj) (K:Nat) (t:TypeId) (s x:AV):Option Eff :=
 match srcA P objs x with
 | some (key2,b2,p)=>match P.underlying t with
  | some (.slice e)=>match P.info? e with
   | some ie=>if xub e ie b2=true then (xol P K ie.bytes s (tgtA objs s) key2 b2).map fun z=>{ z with p:=xuR p z.p } else none
   | none=>none
  | _=>none
 | none=>none
def xB7 (rec_:TypeId→Option (List NK)):List Field→Option (List NK)
 | []=>some []
 | f::r=>match rec_ f.type,xB7 rec_ r with
  | some a,some b=>some (a++b)
  | _,_=>none
def xzV:Nat→TypeId→Option (List NK)
 | 0,_=>none
 | n+1,t=>match xq0 P 9 t with
  | some ks=>some (ks.map .c)
  | none=>match P.underlying t with
   | some (.slice e)=>(match xq0 P 9 e with
    | some (k::ks)=>some [.s e (k::ks)]
    | _=>none)
   | some (.struct fs)=>xB7 (xzV n) fs.toList
   | some (.array m e)=>(xzV n e).map fun ks=>(List.replicate m ks).flatten
   | _=>none
def isS:NK→Bool
 | .s _ _=>true
 | .c _=>false
def xoW:Body→Bool
 | .sub _ _ _=>true
 | _=>false
noncomputable def encK (objs:List Obj) (K:Nat):NK→AV→Option (Int×List Nat×List Obj)
 | .c k,v=>match xA0 k v with | some n=>some (n,[],[]) | none=>none
 | .s e ks,.sl key=>match xap key objs with
  | some ⟨_,_,own,b⟩=>match xes P b with
   | some (e',ks',l)=>if e'=e∧ks'=ks then (match own with
    | true=>some (encL l,[key],[⟨key,K,false,.sub e ks l⟩])
    | false=>if xoW b then some (encL l,[],[]) else none) else none
   | none=>match b with
    | .nil=>some (encL [],[],[])
    | _=>none
  | none=>none
 | .s _ _,.val (.slice none 0 0)=>some (encL [],[],[])
 | _,_=>none
noncomputable def encE (objs:List Obj) (K:Nat):List NK→List AV→Option (List Int×List Nat×List Obj)
 | [],[]=>some ([],[],[])
 | k::ks,v::vs=>match encK P objs K k v,encE objs K ks vs with
  | some (n,r,s),some (ns,rs,ss)=>some (n::ns,r++rs,s++ss)
  | _,_=>none
 | _,_=>none
noncomputable def encR (objs:List Obj) (K:Nat) (ks:List NK):List (List AV)→Option (List (List Int)×List Nat×List Obj)
 | []=>some ([],[],[])
 | el::els=>match encE P objs K ks el,encR objs K ks els with
  | some (n,r,s),some (ns,rs,ss)=>some (n::ns,r++rs,s++ss)
  | _,_=>none
noncomputable def xup (objs:List Obj) (K:Nat) (x:Eff):Option Eff :=
 match x with
 | ⟨none,[],1,[⟨k,ver,true,.arr e sz els⟩],v⟩=>if k=K∧ver=K then (match xzV P 9 e with
  | some ks=>if ks.any isS&&Nat.beq ks.length sz then (match encR P objs K ks els with
   | some (l,rm,subs)=>some ⟨none,rm,1,⟨K,K,true,.nst e ks l⟩::subs,v⟩
   | none=>none) else none
  | none=>none) else none
 | _=>none
def nksA (K:Nat):List NK→Nat→List Int→List AV
 | [],_,_=>[]
 | .c k::r,j,el=>k.cell (el.getD j 0)::nksA K r (j+1) el
 | .s _ _::r,j,el=>.sl K::nksA K r (j+1) el
def slN:List NK→Nat→List Int→List (TypeId×List CK×Int)
 | [],_,_=>[]
 | .c _::r,j,el=>slN r (j+1) el
 | .s e ks::r,j,el=>(e,ks,el.getD j 0)::slN r (j+1) el
noncomputable def xr0 (objs:List Obj) (K:Nat) (t:TypeId):AV→Option Eff
 | .ix key sz _ i off=>match xap key objs,xjY P t with
  | some ⟨_,_,own,.nst _ ks l⟩,some m=>if ks.length=sz∧sz≠0∧off+m≤sz∧0<m then
    (match xi1 P t (nksA K ((ks.drop off).take m) off (l.getD i.toNat [])) 0,slN ((ks.drop off).take m) off (l.getD i.toNat []) with
    | some v,[]=>chkE (inR i l) v
    | some v,[(e',ks',n)]=>some ⟨some (inR i l),[],1,[⟨K,K,false,match own with | true=>.sub e' ks' (decL n) | false=>.row e' ks' (decL n)⟩],v⟩
    | _,_=>none) else none
  | _,_=>none
 | _=>none
def xDG (ie:TypeInfo):Bool:=match ie.zero with | some z=>Nat.beq z.cells.size ie.size | none=>false
def xnk (objs:List Obj) (K:Nat) (t:TypeId) (s x:AV):Option Eff :=
 match x with
 | .sl key2=>match xap key2 objs,P.underlying t with
  | some ⟨_,_,true,.nst e2 ks2 l2⟩,some (.slice e)=>match P.info? e with
   | some ie=>if e2=e∧ks2.length=ie.size∧ie.size≠0∧xDG ie=true then (match s with
    | .val (.slice none 0 0)=>some ⟨some (xdo ie.bytes l2.length),[],1,[⟨K,K,true,.nst e2 ks2 l2⟩],.sl K⟩
    | .sl key=>if key≠key2 then (match tgtA objs s with
     | some ⟨_,_,true,.nil⟩=>some ⟨some (xdo ie.bytes l2.length),[key],1,[⟨K,K,true,.nst e2 ks2 l2⟩],.sl K⟩
     | some ⟨_,_,true,.nst e1 ks1 l1⟩=>if e1=e2∧ks1=ks2 then some ⟨some (xdo ie.bytes (l1.length+l2.length)),[key],1,[⟨K,K,true,.nst e1 ks1 (l1++l2)⟩],.sl K⟩ else none
     | _=>none) else none
    | _=>none) else none
   | none=>none
  | _,_=>none
 | _=>none
def isVw:AV→Bool
 | .vw _ _ _ _=>true
 | _=>false
def xlb (objs:List Obj) (K:Nat) (t:TypeId) (s x:AV):Option Eff :=
 match s with
 | .vw key sz lo hi=>match srcA P objs x with
  | some (_,b2,p)=>match xes P b2,xap key objs,P.underlying t with
   | some (e2,ks2,l2),some ⟨_,_,true,b⟩,some (.slice e')=>match xes P b,P.info? e' with
    | some (e,ks,l),some ie=>if e=e'∧e2=e∧ks2=ks∧sz=ks.length∧ie.size=ks.length∧ks.length≠0 then
      some ⟨xuR p (some (xAU l lo hi∧hi.toNat+l2.length≤l.length)),[key],0,[⟨key,K,true,.row e ks (l.take hi.toNat++l2++l.drop (hi.toNat+l2.length))⟩],.vw key sz lo ((hi.toNat+l2.length:Nat):Int)⟩ else none
    | _,_=>none
   | _,_,_=>none
  | none=>none
 | _=>none
def xm0 (objs:List Obj) (K:Nat) (e':TypeId) (key:Nat) (sz:Option Nat) (lo hi:Option Int):Option Eff :=
 match xap key objs with
 | some ⟨_,_,true,b⟩=>match xes P b,xnm P e' with
  | some (e,ks,l),some z=>match xpf ks z.cells with
   | some zc=>if e=e'∧(sz=none∨sz=some ks.length) then
     some ⟨some (xAU l lo (hi.getD l.length)),[key],0,[⟨key,K,true,.row e ks (l.take (loN lo)++List.replicate ((hi.getD l.length).toNat-loN lo) zc++l.drop (hi.getD l.length).toNat)⟩],.tup []⟩ else none
   | none=>none
  | _,_=>none
 | _=>none
def xvs (objs:List Obj) (K:Nat) (t:TypeId) (x:AV):Option Eff :=
 match P.underlying t with
 | some (.slice e')=>match x with
  | .sl key=>xm0 P objs K e' key none none none
  | .vw key sz lo hi=>xm0 P objs K e' key (some sz) lo (some hi)
  | _=>none
 | _=>none
def xpv (objs:List Obj) (K:Nat) (t:TypeId) (x:AV) (lo:Option Int) (hi mx:Int):Option Eff :=
 match x with
 | .sl key=>match xap key objs with
  | some o=>match xes P o.body with
   | some (e,ks,l)=>match P.underlying t with
    | some (.slice e')=>if e=e'∧(xjY P e)=some ks.length then some ⟨some (0≤lo.getD 0∧lo.getD 0≤hi∧hi≤mx∧mx≤(l.length:Int)),[],1,[],.sl K⟩ else none
    | _=>none
   | none=>none
  | none=>none
 | _=>none
def xvU (objs:List Obj) (K:Nat) (v:AV):Option Eff :=
 match v with
 | .vw key sz none hi=>match xap key objs with
  | some ⟨_,_,true,b⟩=>match xes P b with
   | some (e,ks,l)=>if sz=ks.length then some ⟨some (0≤hi∧hi≤(l.length:Int)),[key],1,[⟨K,K,true,.row e ks (l.take hi.toNat)⟩],.sl K⟩ else none
   | none=>none
  | _=>none
 | _=>none
def keyQ (kt:TypeId):Option (Nat×IntKind) :=
 match P.underlying kt with
 | some (.array m e)=>match P.underlying e with
  | some (.int q)=>if P.cellsOf e=1∧P.cellsOf kt=m∧P.keyType kt=true∧P.types.size≠0 then some (m,q) else none
  | _=>none
 | _=>none
def xaO (m:Nat) (key:List Int) (l:List (List Int)):Option (List Int):=(l.find? fun r=>decide (r.take m=key)).map fun r=>r.drop m
def xdU (m:Nat) (key val:List Int) (l:List (List Int)):List (List Int) :=
 bif (xaO m key l).isSome then l.map (fun r=>bif decide (r.take m=key) then key++val else r) else l++[key++val]
def xwh (K:Nat) (t:TypeId):Option Eff :=
 match P.underlying t with
 | some (.map kt et)=>match keyQ P kt,xq0 P 9 et,xxS P et with
  | some (m,q),some ke,some true=>some ⟨none,[],1,[⟨K,K,true,.mp kt et q m ke []⟩],.sl K⟩
  | _,_,_=>none
 | _=>none
def xoX (t kt et:TypeId):Bool:=match P.underlying t with | some (.map k e)=>Nat.beq k kt&&Nat.beq e et | _=>false
def keyA (q:IntKind) (m:Nat):AV→Option (List Int)
 | .agg cs=>xpf (List.replicate m (.int q)) cs
 | _=>none
def xpP (objs:List Obj) (t:TypeId) (x ix:AV) (ok:Bool):Option Eff :=
 match x with
 | .sl key=>match xap key objs with
  | some ⟨_,_,_,.mp kt et q m ke l⟩=>match keyA q m ix,xnm P et with
   | some kc,some (.agg z)=>match xpf ke z with
    | some zc=>if xoX P t kt et=true∧keyQ P kt=some (m,q) then
      (match ok with
      | true=>chkE (xpQ q kc) (.tup [.agg (elA ke 0 ((xaO m kc l).getD zc)),.bool (xaO m kc l).isSome])
      | false=>chkE (xpQ q kc) (.agg (elA ke 0 ((xaO m kc l).getD zc)))) else none
    | none=>none
   | _,_=>none
  | _=>none
 | _=>none
def xje (objs:List Obj) (K:Nat) (t:TypeId) (x ix v:AV):Option Eff :=
 match x with
 | .sl key=>match xap key objs with
  | some ⟨_,_,true,.mp kt et q m ke l⟩=>match keyA q m ix,v with
   | some kc,.agg cs=>match xpf ke cs with
    | some vc=>if xoX P t kt et=true∧keyQ P kt=some (m,q) then some ⟨some (xpQ q kc),[key],0,[⟨key,K,true,.mp kt et q m ke (xdU m kc vc l)⟩],.val undef⟩ else none
    | none=>none
   | _,_=>none
  | _=>none
 | _=>none
def keyI (kt:TypeId):Option IntKind :=
 match P.underlying kt with
 | some (.int q)=>some q
 | _=>none
noncomputable def encQ (objs:List Obj):NK→AV→Option Int
 | .c k,v=>xA0 k v
 | .s e ks,.sl key=>match xap key objs with
  | some ⟨_,_,false,b⟩=>match xes P b with
   | some (e',ks',l)=>if e'=e∧ks'=ks then some (encL l) else none
   | none=>none
  | _=>none
 | .s _ _,.val (.slice none 0 0)=>some (encL [])
 | _,_=>none
noncomputable def xuN (objs:List Obj):List NK→List AV→Option (List Int)
 | [],[]=>some []
 | k::ks,v::vs=>match encQ P objs k v,xuN objs ks vs with
  | some n,some ns=>some (n::ns)
  | _,_=>none
 | _,_=>none
def xwf (K:Nat) (t:TypeId):Option Eff :=
 match P.underlying t with
 | some (.map kt et)=>match keyI P kt,xzV P 9 et,xxS P et with
  | some q,some ks,some true=>some ⟨none,[],1,[⟨K,K,true,.mq kt et q ks []⟩],.sl K⟩
  | _,_,_=>none
 | _=>none
def xiz (m:Nat) (key:List Int) (l:List (List Int)):List (List Int):=l.filter fun r=>!decide (r.take m=key)
def intK (q:IntKind):AV→Option Int
 | .int k n=>if k=q then some n else none
 | .val (.int k n)=>if k=q then some n else none
 | _=>none
def okV (ok:Bool) (v:AV) (b:Bool):AV:=match ok with | true=>.tup [v,.bool b] | false=>v
noncomputable def xpN (objs:List Obj) (K:Nat) (t:TypeId) (x ix:AV) (ok:Bool):Option Eff :=
 match x with
 | .sl key=>match xap key objs with
  | some ⟨_,_,_,.mq kt et q ks l⟩=>match intK q ix,xnm P et with
   | some n,some (.agg z)=>match xuN P objs ks z with
    | some zc=>if xoX P t kt et=true∧keyI P kt=some q then (match slN ks 0 ((xaO 1 [n] l).getD zc) with
      | []=>okE (okV ok (.agg (nksA K ks 0 ((xaO 1 [n] l).getD zc))) (xaO 1 [n] l).isSome)
      | [(e',ks',m)]=>some ⟨none,[],1,[⟨K,K,false,.row e' ks' (decL m)⟩],okV ok (.agg (nksA K ks 0 ((xaO 1 [n] l).getD zc))) (xaO 1 [n] l).isSome⟩
      | _=>none) else none
    | none=>none
   | _,_=>none
  | _=>none
 | _=>none
noncomputable def xjd (objs:List Obj) (K:Nat) (t:TypeId) (x ix v:AV):Option Eff :=
 match x with
 | .sl key=>match xap key objs with
  | some ⟨_,_,true,.mq kt et q ks l⟩=>match intK q ix,v with
   | some n,.agg cs=>match xuN P objs ks cs with
    | some vc=>if xoX P t kt et=true∧keyI P kt=some q then some ⟨none,[key],0,[⟨key,K,true,.mq kt et q ks (xdU 1 [n] vc l)⟩],.val undef⟩ else none
    | none=>none
   | _,_=>none
  | _=>none
 | _=>none
def xp4 (objs:List Obj) (K:Nat) (t:TypeId) (x ix:AV):Option Eff :=
 match x with
 | .sl key=>match xap key objs with
  | some ⟨_,_,true,.mq kt et q ks l⟩=>match intK q ix with
   | some n=>if xoX P t kt et=true∧keyI P kt=some q then some ⟨none,[key],0,[⟨key,K,true,.mq kt et q ks (xiz 1 [n] l)⟩],.tup []⟩ else none
   | none=>none
  | _=>none
 | _=>none
def xwg (K:Nat) (t:TypeId):Option Eff :=
 match P.underlying t with
 | some (.map kt et)=>match keyI P kt with
  | some q=>some ⟨none,[],1,[⟨K,K,true,.mf kt et q []⟩],.sl K⟩
  | none=>none
 | _=>none
def xpR (objs:List Obj) (K:Nat) (t:TypeId) (x ix v:AV):Option Eff :=
 match x with
 | .sl key=>match xap key objs with
  | some ⟨_,_,true,.mf kt et q ents⟩=>match ix,v with
   | .val (.int k n),.agg [.fn (.func g) [] []]=>if k=q∧xoX P t kt et=true∧keyI P kt=some q∧(ents.all fun p=>!decide (p.1=n))=true then some ⟨none,[key],0,[⟨key,K,true,.mf kt et q (ents++[(n,g)])⟩],.val undef⟩ else none
   | _,_=>none
  | _=>none
 | _=>none
def xpO (objs:List Obj) (t:TypeId) (x ix:AV) (ok:Bool):Option Eff :=
 match x with
 | .sl key=>match xap key objs with
  | some ⟨_,_,_,.mf kt et q ents⟩=>match intK q ix with
   | some n=>if ok=false∧xoX P t kt et=true∧keyI P kt=some q then chkE ((ents.any fun p=>decide (p.1=n))=true) (.agg [.fs n ents]) else none
   | none=>none
  | _=>none
 | _=>none
def xwb (t:TypeId) (name:String):Option FuncId :=
 match P.info? t with
 | some i=>match i.methods.find? (fun m=>m.name==name) with
  | some m=>match m.path.toList,m.func,P.underlying t with
   | [],some (f,false),some (.pointer _)=>none
   | [],some (f,false),some _=>some f
   | _,_,_=>none
  | none=>none
 | none=>none
noncomputable def xfR (ρ:Operand→Option AV) (objs:List Obj) (K:Nat):Op→Option Eff
 | .move x | .assign x=>match ρ x with | some v=>okE v | none=>none
 | .alloc t=>match xnm P t with | some z=>some ⟨none,[],1,[⟨K,K,true,.cells z.cells⟩],.ptr K 0⟩ | none=>none
 | .box _ x=>match ρ x with | some v=>if v.plainCells=true then some ⟨none,[],1,[⟨K,K,true,.cells v.cells⟩],.ptr K 0⟩ else none | none=>none
 | .buildSlice t len parts=>(xdQ P ρ K t len parts.toList).map fun x=>(xup P objs K x).getD x
 | .build t parts =>
  match xnm P t,xBB P t,xgI ρ parts.toList with
  | some z,some place,some ps=>match xAO place ps z.cells with | some cs=>okE (.agg cs) | none=>none
  | _,_,_=>none
 | .load t x=>match ρ x with
  | some v=>(match xr0 P objs K t v with | some z=>some z | none=>xAA P objs t v)
  | none=>none
 | .store t x y=>match ρ x,ρ y with | some a,some v=>xru P objs K t v a | _,_=>none
 | .nilCheck x=>match ρ x with
  | some (.ptr key off)=>okE (.ptr key off)
  | some (.fn (.func f) a b)=>okE (.fn (.func f) a b)
  | some (.yl key)=>okE (.yl key)
  | _=>none
 | .binOp op t x y _=>match ρ x,ρ y with
  | some (.int k a),some (.int k' b)=>if k=k'∨xwt op=true then xDq op k a b else none
  | some (.bool a),some (.bool b)=>(match op with
   | .eql=>match eqA P 9 t (.bool a) (.bool b) with | some e=>okE (.bool e) | none=>none
   | .neq=>match eqA P 9 t (.bool a) (.bool b) with | some e=>okE (.bool !e) | none=>none
   | _=>none)
  | some (.agg a),some (.agg b)=>if P.eqGuardType P.depth t=false then (match op with
   | .eql=>match eqA P 9 t (.agg a) (.agg b) with | some e=>okE (.bool e) | none=>none
   | .neq=>match eqA P 9 t (.agg a) (.agg b) with | some e=>okE (.bool !e) | none=>none
   | _=>none) else none
  | _,_=>none
 | .unOp .not _ x=>match ρ x with | some (.bool b)=>okE (.bool !b) | _=>none
 | .unOp .neg _ x=>match ρ x with | some (.int k n)=>okE (.int k (k.wrap (0-n))) | _=>none
 | .convert src dst x=>match ρ x,P.underlying src,P.underlying dst with
  | some (.int k n),some (.int k1),some (.int k2)=>if k=k1 then okE (.int k2 (k2.wrap n)) else none
  | _,_,_=>none
 | .makeInterface t x=>match ρ x,P.underlying t with
  | some v,some (.interface _)=>none
  | some v,some _=>okE (.ifc t v)
  | _,_=>none
 | .makeFunc f first caps=>match xlY ρ first.toList,xlY ρ caps.toList with
  | some a,some b=>okE (.fn f a b)
  | _,_=>none
 | .fieldAddr s x f=>match ρ x,xwD P s f with
  | some v,some fd=>match xjY P fd.type with
   | some (_+1)=>xhu P objs fd.offset v
   | _=>none
  | _,_=>none
 | .field s x f=>match ρ x,xwD P s f with
  | some (.agg cs),some fd=>match xi1 P fd.type cs fd.offset with | some v=>okE v | none=>none
  | _,_=>none
 | .index t x i=>match ρ x,ρ i,P.underlying t with
  | some (.agg cs),some (.val (.int _ n)),some (.array len e)=>match xjY P e with
   | some sz=>if 0≤n∧n<(len:Int) then match xi1 P e cs (n.toNat*sz) with | some v=>okE v | none=>none else none
   | none=>none
  | _,_,_=>none
 | .indexAddr t x i=>match ρ x,ρ i with | some v,some n=>xjg P objs t v n | _,_=>none
 | .extract x i=>match ρ x with
  | some (.tup vs)=>match vs[i]? with | some v=>okE v | none=>none
  | _=>none
 | .slice t x lo hi none=>match ρ x,xv2 ρ lo,xv2 ρ hi with
  | some v,some lo,some hi=>xrA P objs t v lo hi
  | _,_,_=>none
 | .slice t x lo hi (some mx)=>match ρ x with
  | some v=>if lo.isNone&&xwr (hi.bind ρ)&&xwr (ρ mx) then xpw P objs K t v else
   match xv2 ρ lo,xv2 ρ hi,(ρ mx).bind intA with
   | some lo,some (some hi),some mx=>xpv P objs K t v lo hi mx
   | _,_,_=>none
  | none=>none
 | .makeMap t none=>(match xwf P K t with | some z=>some z | none=>match xwh P K t with | some z=>some z | none=>xwg P K t)
 | .lookup t x ix ok=>match ρ x,ρ ix with | some v,some k=>(match xpN P objs K t v k ok with | some z=>some z | none=>match xpP P objs t v k ok with | some z=>some z | none=>xpO P objs t v k ok) | _,_=>none
 | .insert t x ix y=>match ρ x,ρ ix,ρ y with | some v,some k,some u=>xpR P objs K t v k u | _,_,_=>none
 | .mapUpdate t x ix y=>match ρ x,ρ ix,ρ y with | some v,some k,some u=>(match xjd P objs K t v k u with | some z=>some z | none=>xje P objs K t v k u) | _,_,_=>none
 | .call { callee:=.builtin b,args,argTypes }=>match xlY ρ args.toList with
  | some vs=>match b with
   | .min=>match vs with
    | .int k a::r=>match mm imin k a r with | some v=>okE v | none=>none
    | _=>none
   | .max=>match vs with
    | .int k a::r=>match mm imax k a r with | some v=>okE v | none=>none
    | _=>none
   | .len=>match vs with
    | [x]=>lenA P objs ((argTypes[0]?).bind P.underlying) x
    | _=>none
   | .append=>match vs,argTypes.toList with
    | [s,x],[t,t']=>if t=t' then (match isVw s with | true=>xlb P objs K t s x | false=>(match xnk P objs K t s x with | some z=>some z | none=>xiB P objs K t s x)) else none
    | _,_=>none
   | .delete=>match vs,argTypes.toList with
    | [x,k],t::_=>xp4 P objs K t x k
    | _,_=>none
   | .clear=>match vs,argTypes.toList with
    | [x],[t]=>xvs P objs K t x
    | _,_=>none
   | _=>none
  | none=>none
 | _=>none
def Eff.strong (x:Eff):Eff:={ x with v:=x.v.strong }
noncomputable def xm2 (ρ:Operand→Option AV) (objs:List Obj) (K:Nat) (op:Op):Option Eff :=
 match op with
 | .binOp _ _ x y _=>if xxL (ρ x)&&xxL (ρ y) then (xfR P (fun z=>(ρ z).map AV.weak) objs K op).map Eff.strong else xfR P (fun z=>(ρ z).map AV.weak) objs K op
 | .unOp _ _ x=>if xxL (ρ x) then (xfR P (fun z=>(ρ z).map AV.weak) objs K op).map Eff.strong else xfR P (fun z=>(ρ z).map AV.weak) objs K op
 | .convert _ _ x=>if xxL (ρ x) then (xfR P (fun z=>(ρ z).map AV.weak) objs K op).map Eff.strong else xfR P (fun z=>(ρ z).map AV.weak) objs K op
 | .call { callee:=.builtin .min,.. } | .call { callee:=.builtin .max,.. }=>xfR P (fun z=>(ρ z).map AV.weak) objs K op
 | _=>xfR P ρ objs K op
end ops
end Go.Sy
set_option linter.unusedVariables false
namespace Go.Sy
open Go.RowKit
theorem xaJ (E:Env):∀ l:List AV,AV.denL E l=l.map (AV.den E)
 | []=>rfl
 | a::r=>by simp [AV.denL,xaJ E r]
theorem xe9 (p:Nat→Prop):∀ l:List AV,AV.allL p l↔∀ a∈l,AV.all p a
 | []=>by simp [AV.allL]
 | a::r=>by simp [AV.allL,xe9 p r]
theorem xdM (n:Nat):∀ l:List AV,AV.ltL n l↔∀ a∈l,AV.lt n a:=xe9 _
mutual
theorem xdt {E E':Env} {p:Nat→Prop} (h:∀ k,p k→E' k=E k):∀ v:AV,AV.all p v→v.den E'=v.den E
 | .bool _,_=>rfl
 | .int _ _,_=>rfl
 | .ptr key off,hv=>by simp [AV.den,h key hv]
 | .val _,_=>rfl
 | .fn f a b,hv=>by simp [AV.den,xcl h a hv.1,xcl h b hv.2]
 | .agg cs,hv=>by simp [AV.den,xcl h cs hv]
 | .tup cs,hv=>by simp [AV.den,xcl h cs hv]
 | .sl key,hv=>by simp [AV.den,h key hv]
 | .ix key _ _ _ _,hv=>by simp [AV.den,h key hv]
 | .yl key,hv=>by simp [AV.den,h key hv]
 | .vw key _ _ _,hv=>by simp [AV.den,h key hv]
 | .fs _ _,_=>rfl
 | .ifc t v,hv=>by simp [AV.den,xdt h v hv]
theorem xcl {E E':Env} {p:Nat→Prop} (h:∀ k,p k→E' k=E k):∀ l:List AV,AV.allL p l→AV.denL E' l=AV.denL E l
 | [],_=>rfl
 | a::r,hl=>by simp [AV.denL,xdt h a hl.1,xcl h r hl.2]
end
theorem xg9 {E E':Env} {n:Nat} (h:∀ k,k<n→E' k=E k) (v:AV) (hv:AV.lt n v):v.den E'=v.den E:=xdt h v hv
mutual
theorem xwN {E E':Env} {f:Nat→Nat} {p:Nat→Prop} (h:∀ k,p k→E' (f k)=E k):∀ v:AV,AV.all p v→(v.ren f).den E'=v.den E
 | .bool _,_=>rfl
 | .int _ _,_=>rfl
 | .ptr key off,hv=>by simp [AV.den,AV.ren,h key hv]
 | .val _,_=>rfl
 | .fn g a b,hv=>by simp [AV.den,AV.ren,xpd h a hv.1,xpd h b hv.2]
 | .agg cs,hv=>by simp [AV.den,AV.ren,xpd h cs hv]
 | .tup cs,hv=>by simp [AV.den,AV.ren,xpd h cs hv]
 | .sl key,hv=>by simp [AV.den,AV.ren,h key hv]
 | .ix key _ _ _ _,hv=>by simp [AV.den,AV.ren,h key hv]
 | .yl key,hv=>by simp [AV.den,AV.ren,h key hv]
 | .vw key _ _ _,hv=>by simp [AV.den,AV.ren,h key hv]
 | .fs _ _,_=>rfl
 | .ifc t v,hv=>by simp [AV.den,AV.ren,xwN h v hv]
theorem xpd {E E':Env} {f:Nat→Nat} {p:Nat→Prop} (h:∀ k,p k→E' (f k)=E k):∀ l:List AV,AV.allL p l→AV.denL E' (AV.renL f l)=AV.denL E l
 | [],_=>rfl
 | a::r,hl=>by simp [AV.denL,AV.renL,xwN h a hl.1,xpd h r hl.2]
end
mutual
theorem xwW {f:Nat→Nat} {p q:Nat→Prop} (h:∀ k,p k→q (f k)):∀ v:AV,AV.all p v→AV.all q (v.ren f)
 | .bool _,_=>trivial
 | .int _ _,_=>trivial
 | .ptr key off,hv=>h key hv
 | .val _,_=>trivial
 | .fn _ a b,hv=>⟨xpk h a hv.1,xpk h b hv.2⟩
 | .agg cs,hv=>xpk h cs hv
 | .tup cs,hv=>xpk h cs hv
 | .sl key,hv=>h key hv
 | .ix key _ _ _ _,hv=>h key hv
 | .yl key,hv=>h key hv
 | .vw key _ _ _,hv=>h key hv
 | .fs _ _,_=>trivial
 | .ifc _ v,hv=>xwW h v hv
theorem xpk {f:Nat→Nat} {p q:Nat→Prop} (h:∀ k,p k→q (f k)):∀ l:List AV,AV.allL p l→AV.allL q (AV.renL f l)
 | [],_=>trivial
 | a::r,hl=>⟨xwW h a hl.1,xpk h r hl.2⟩
end
mutual
theorem xeD {p:Nat→Prop}:∀ v:AV,AV.all p v↔∀ k∈v.keys,p k
 | .bool _=>by simp [AV.all,AV.keys]
 | .int _ _=>by simp [AV.all,AV.keys]
 | .ptr key off=>by simp [AV.all,AV.keys]
 | .val _=>by simp [AV.all,AV.keys]
 | .fn _ a b=>by
  simp only [AV.all,AV.keys,xc3 a,xc3 b,List.mem_append]
  exact ⟨fun h k hk=>hk.elim (h.1 k) (h.2 k),fun h=>⟨fun k hk=>h k (.inl hk),fun k hk=>h k (.inr hk)⟩⟩
 | .agg cs=>by simp only [AV.all,AV.keys,xc3 cs]
 | .tup cs=>by simp only [AV.all,AV.keys,xc3 cs]
 | .sl key=>by simp [AV.all,AV.keys]
 | .ix key _ _ _ _=>by simp [AV.all,AV.keys]
 | .yl key=>by simp [AV.all,AV.keys]
 | .vw key _ _ _=>by simp [AV.all,AV.keys]
 | .fs _ _=>by simp [AV.all,AV.keys]
 | .ifc _ v=>by simp only [AV.all,AV.keys,xeD v]
theorem xc3 {p:Nat→Prop}:∀ l:List AV,AV.allL p l↔∀ k∈AV.keysL l,p k
 | []=>by simp [AV.allL,AV.keysL]
 | a::r=>by
  simp only [AV.allL,AV.keysL,xeD a,xc3 r,List.mem_append]
  exact ⟨fun h k hk=>hk.elim (h.1 k) (h.2 k),fun h=>⟨fun k hk=>h k (.inl hk),fun k hk=>h k (.inr hk)⟩⟩
end
theorem xeT {p q:Nat→Prop} (h:∀ k,p k→q k) (v:AV) (hv:AV.all p v):AV.all q v:=(xeD v).2 fun k hk=>h k ((xeD v).1 hv k hk)
theorem xlF {p q:Nat→Prop} (h:∀ k,p k→q k) (l:List AV) (hv:AV.allL p l):AV.allL q l:=(xc3 l).2 fun k hk=>h k ((xc3 l).1 hv k hk)
theorem xeM {n m:Nat} (h:n≤m) (v:AV) (hv:AV.lt n v):AV.lt m v:=xeT (fun _ hk=>Nat.lt_of_lt_of_le hk h) v hv
theorem xzR {n m:Nat} (h:n≤m) (l:List AV) (hv:AV.ltL n l):AV.ltL m l:=xlF (fun _ hk=>Nat.lt_of_lt_of_le hk h) l hv
theorem xyd (E:Env) (v:Value):(xoM v).den E=v:=rfl
theorem xhw (E:Env) (v:Value):(ofValue v).den E=v:=by
 cases v with
 | agg cs =>
  simp only [ofValue,AV.den,xaJ,List.map_map]
  have:(cs.toList.map (AV.den E∘xoM))=cs.toList:=by
   conv=>rhs; rw [← List.map_id cs.toList]
   exact List.map_congr_left fun v _=>xyd E v
  rw [this]
 | _=>rfl
theorem xys (p:Nat→Prop) (v:Value):AV.all p (xoM v):=trivial
theorem xgr (p:Nat→Prop) (v:Value):AV.all p (ofValue v):=by
 cases v with
 | agg cs =>
  show AV.allL p _
  rw [xe9]
  intro a ha
  obtain ⟨x,_,rfl⟩:=List.mem_map.1 ha
  exact xys p x
 | _=>trivial
mutual
theorem xe7 (E:Env):∀ v:AV,v.weak.den E=v.den E
 | .bool _ | .int _ _ | .ptr _ _ | .fn _ _ _ | .sl _ | .ix _ _ _ _ _ | .yl _ | .vw _ _ _ _ | .fs _ _ | .ifc _ _=>rfl
 | .val v=>by cases v<;>rfl
 | .agg cs=>by simp only [AV.weak,AV.den,xmW E cs]
 | .tup cs=>by simp only [AV.weak,AV.den,xmW E cs]
theorem xmW (E:Env):∀ l:List AV,AV.denL E (AV.weakL l)=AV.denL E l
 | []=>rfl
 | a::r=>by simp only [AV.weakL,AV.denL,xe7 E a,xmW E r]
end
mutual
theorem xnl {p:Nat→Prop}:∀ v:AV,AV.all p v→AV.all p v.weak
 | .bool _,h | .int _ _,h | .ptr _ _,h | .fn _ _ _,h | .sl _,h | .ix _ _ _ _ _,h | .yl _,h | .vw _ _ _ _,h | .fs _ _,h | .ifc _ _,h=>h
 | .val v,_=>by cases v<;>trivial
 | .agg cs,h=>xue cs h
 | .tup cs,h=>xue cs h
theorem xue {p:Nat→Prop}:∀ l:List AV,AV.allL p l→AV.allL p (AV.weakL l)
 | [],_=>trivial
 | a::r,h=>⟨xnl a h.1,xue r h.2⟩
end
theorem xAT (E:Env) (v:AV):v.strong.den E=v.den E:=by cases v<;>rfl
theorem xA8 {p:Nat→Prop} {v:AV} (h:AV.all p v):AV.all p v.strong:=by cases v<;>first | trivial | exact h
theorem xpF {v:Value} (h:v.oneCell'=true) (sz lo hi:Nat):(xfE v sz lo hi).oneCell'=true:=by
 cases v<;>first | exact h | rfl
theorem xxr {v:Value} (h:v.oneCell'=true) (sz lo hi:Nat):(xfE v sz lo hi).cells=#[xfE v sz lo hi]:=by
 cases v<;>first | (simp [Value.oneCell'] at h; done) | rfl
theorem xCc (n:Int) (ents:List (Int×FuncId)):(xxW n ents).oneCell'=true:=by
 unfold xxW
 split<;>rfl
theorem xy7 (n:Int) (ents:List (Int×FuncId)):(xxW n ents).cells=#[xxW n ents]:=by
 unfold xxW
 split<;>rfl
theorem xhc {v:AV} (h:v.plainCells=true) {E:Env} (hE:∀ k,(E k).oneCell'=true):(v.den E).cells=(AV.denL E v.cells).toArray:=by
 cases v with
 | val x=>cases x<;>first | rfl | cases h
 | sl k =>
  have:=hE k
  simp only [AV.cells,AV.denL,AV.den]
  cases he:E k<;>simp [he,Value.oneCell'] at this<;>rfl
 | vw k sz lo hi =>
  simp only [AV.cells,AV.denL,AV.den]
  exact xxr (hE k) _ _ _
 | fs n ents=>exact xy7 n ents
 | _=>simp [AV.cells,AV.denL,AV.den,Value.cells]
theorem xlc {p:Nat→Prop} {v:AV} (h:AV.all p v):AV.allL p v.cells:=by
 cases v with
 | agg cs=>exact h
 | _=>exact ⟨h,trivial⟩
theorem xgb {k m:Nat} (h:k≠m):Nat.beq k m=false:=by
 cases hb:Nat.beq k m with
 | false=>rfl
 | true=>exact absurd (Nat.eq_of_beq_eq_true hb) h
theorem xdh (k:Nat):Nat.beq k k=true:=by
 cases hb:Nat.beq k k with
 | true=>rfl
 | false=>exact absurd rfl (Nat.ne_of_beq_eq_false hb)
theorem xkA {k:Nat} {l:List Nat}:l.any (Nat.beq k)=true↔k∈l:=by
 rw [List.any_eq_true]
 exact ⟨fun ⟨x,hx,hb⟩=>by rw [Nat.eq_of_beq_eq_true hb]; exact hx,fun h=>⟨k,h,xdh k⟩⟩
def blkO:Value→Option Nat
 | .pointer (some a)=>some a.block
 | .slice (some a) _ c=>if c=0 then none else some a.block
 | .map (some b)=>some b
 | _=>none
abbrev dr (_:World):Nat:=0
structure Blw (B:Nat) (w w':World):Prop extends Below B w w' where
 drawn:dr w≤dr w'
theorem Blw.refl (B:Nat) (w:World):Blw B w w:=⟨Below.refl B w,Nat.le_refl _⟩
theorem Blw.trans {B:Nat} {a b c:World} (h:Blw B a b) (k:Blw B b c):Blw B a c:=⟨h.toBelow.trans k.toBelow,Nat.le_trans h.drawn k.drawn⟩
theorem Blw.mono {B B':Nat} {w w':World} (h:Blw B w w') (hB:B'≤B):Blw B' w w':=⟨h.toBelow.mono hB,h.drawn⟩
theorem Blw.drew {B:Nat} {a w:World} (h:Blw B a w):Blw B a w.drew:=⟨h.toBelow.drew,Nat.le_refl _⟩
theorem Blw.alloc {B:Nat} {a w:World} (h:Blw B a w) (hB:B≤w.heap.size) (o:Go.Obj):Blw B a (w.alloc o):=⟨h.toBelow.alloc hB o,h.drawn⟩
structure Chg (w w':World) (bs:List Nat):Prop where
 drawn:dr w≤dr w'
 os:w'.os=w.os
 tape:w'.tape=w.tape
 output:w'.output=w.output
 size:w.heap.size≤w'.heap.size
 block:∀ k,k<w.heap.size→k∉bs→w'.heap[k]?=w.heap[k]?
theorem Chg.refl (w:World) (bs:List Nat):Chg w w bs:=⟨Nat.le_refl _,rfl,rfl,rfl,Nat.le_refl _,fun _ _ _=>rfl⟩
theorem Chg.of_below {w w':World} (h:Blw w.heap.size w w') (bs:List Nat):Chg w w' bs:=⟨h.drawn,h.os,h.tape,h.output,h.size,fun k hk _=>h.block k hk⟩
theorem Chg.of_grown {w w':World} {row:Option Nat} (hd:dr w≤dr w') (h:w.grownBy w' row) {bs:List Nat} (hb:∀ k,row=some k→k∈bs):Chg w w' bs :=
 ⟨hd,h.os,h.tape,h.output,h.size,fun k hk hn=>h.block k hk fun e=>hn (hb k e.symm)⟩
theorem Blw.chg {w0 w w':World} {bs:List Nat} (h:Blw w0.heap.size w0 w) (hc:Chg w w' bs) (hb:∀ k∈bs,w0.heap.size≤k):Blw w0.heap.size w0 w' :=
 h.trans ⟨⟨hc.os,hc.tape,hc.output,hc.size,fun k hk=>hc.block k (Nat.lt_of_lt_of_le hk h.size) fun hm=>by have:=hb k hm; omega⟩,hc.drawn⟩
structure xyu (w:World) (v:Value) (n:Nat) (vs:List Value):Prop where
 is:∃ a c,v=.slice a n c∧n≤c∧c≤maxLen
 cell:∀ j u,vs[j]?=some u→∃ a,xnL v=some a∧w.cell? (a.add j)=some u
 blk:∀ b,blkO v=some b→b<w.heap.size
def xm4 (w:World) (e:TypeId) (sz:Nat) (v:Value) (n:Nat) (vs:List Value):Prop :=
 (∃ a,v=.slice a 0 0∧n=0) ∨
 ∃ g cap cur,v=.slice (some ⟨g,0,none⟩) n cap∧w.heap[g]?=some (.cells cur e (0,0))∧n≤cap∧cap≤maxLen∧cur.size=cap*sz∧cur.toList.take (n*sz)=vs
structure xa8 (w:World) (own:Bool) (e:TypeId) (sz:Nat) (v:Value) (n:Nat) (vs:List Value):Prop where
 reads:xyu w v n vs
 len:vs.length=n*sz
 own:own=true→xm4 w e sz v n vs
def stOf:Nat→LoopState
 | 0=>.ready
 | 1=>.busy
 | 2=>.done
 | _=>.exhausted
def mpK (q:IntKind) (m:Nat) (r:List Int):Value:=.agg ((r.take m).map (Value.int q)).toArray
def mpV (ke:List CK) (m:Nat) (r:List Int):Value:=.agg (elV ke 0 (r.drop m)).toArray
structure xDF (w:World) (v:Value) (q:IntKind) (m:Nat) (ke:List CK) (l:List (List Int)) (b:Nat) (es:Array MapEntry) (clock:Nat):Prop where
 is:v=.map (some b)
 at_:w.heap[b]?=some (.map es clock)
 ents:es.toList.map (fun e=>(e.key,e.val))=l.map fun r=>(mpK q m r,mpV ke m r)
 wf:∀ r∈l,(r.take m).length=m∧xpQ q (r.take m)
 nodup:(l.map (fun r=>r.take m)).Nodup
def xfU (w:World):NK→Int→Value→Prop
 | .c k,n,v=>v=k.val n
 | .s e ks,n,v=>v.oneCell'=true∧xa8 w false e ks.length v (decL n).length (rowV ks (decL n))
structure xiO (w:World) (own:Bool) (e:TypeId) (ks:List NK) (v:Value) (l:List (List Int)) (vs:List Value):Prop where
 row:xa8 w own e ks.length v l.length vs
 cell:∀ (i j:Nat) (k:NK),i<l.length→ks[j]?=some k→∃ u,vs[i*ks.length+j]?=some u∧xfU w k ((l.getD i []).getD j 0) u
structure MqOk (w:World) (v:Value) (q:IntKind) (ks:List NK) (l:List (List Int)) (b:Nat) (es:Array MapEntry) (clock:Nat):Prop where
 is:v=.map (some b)
 at_:w.heap[b]?=some (.map es clock)
 len:es.toList.length=l.length
 ents:∀ (i:Nat) (e:MapEntry),es.toList[i]?=some e→e.key=.int q ((l.getD i []).getD 0 0)∧∃ cs:List Value,e.val=.agg cs.toArray∧cs.length=ks.length∧∀ (j:Nat) (k:NK),ks[j]?=some k→∃ u,cs[j]?=some u∧xfU w k ((l.getD i []).getD (j+1) 0) u
 wf:∀ r∈l,r≠[]
 nodup:(l.map fun r=>r.take 1).Nodup
 stamp:Go.MapKept.Stamped es clock
structure MfOk (w:World) (v:Value) (q:IntKind) (ents:List (Int×FuncId)) (b:Nat) (es:Array MapEntry) (clock:Nat):Prop where
 is:v=.map (some b)
 at_:w.heap[b]?=some (.map es clock)
 tab:es.toList.map (fun e=>(e.key,e.val))=ents.map fun p=>(.int q p.1,.agg #[.func (.func p.2) #[] #[]])
 nodup:(ents.map fun p=>p.1).Nodup
def Inn (E:Env) (w:World) (key:Nat):Body→Nat→Prop
 | .nst _ ks l,b=>∃ a j u,xnL (E key)=some a∧j<l.length*ks.length∧w.cell? (a.add j)=some u∧blkO u=some b
 | .mq _ _ _ _ _,b=>∃ m es clock,E key=.map (some m)∧w.heap[m]?=some (.map es clock)∧∃ e∈es.toList,∃ cs:List Value,e.val=.agg cs.toArray∧∃ u∈cs,blkO u=some b
 | _,_=>False
def xbm (E:Env) (w:World) (key:Nat) (own:Bool):Body→Prop
 | .cells cs=>∃ b T,E key=.pointer (some ⟨b,0,none⟩)∧w.heap[b]?=some (.cells (AV.denL E cs).toArray T (0,0))
 | .row e ks l=>xa8 w own e ks.length (E key) l.length (rowV ks l)
 | .arr e sz els=>xa8 w own e sz (E key) els.length (AV.denL E els.flatten)∧(∀ el∈els,el.length=sz)∧els.flatten.all AV.scalar=true
 | .nil=>E key=.slice none 0 0
 | .nst e ks l=>∃ vs,xiO w own e ks (E key) l vs
 | .sub e ks l=>own=false∧xa8 w own e ks.length (E key) l.length (rowV ks l)
 | .mp kt et q m ke l=>∃ b es clock,xDF w (E key) q m ke l b es clock
 | .mq kt et q ks l=>∃ b es clock,MqOk w (E key) q ks l b es clock
 | .mf kt et q ents=>∃ b es clock,MfOk w (E key) q ents b es clock
 | .loop st pend N tm params assign body=>∃ l fn tmps dfr,E key=.pointer (some ⟨l,0,none⟩)∧w.heap[l]?=some (.loop { state:=stOf st,pending:=pend,fn:=fn,tmps:=tmps,params:=params,assign:=assign,body:=body,defers:=dfr })∧N≤tmps.size∧∀ t v,tm t=some v→tmps.getD t undef=v.den E
 | .fin st pend=>∃ l r,E key=.pointer (some ⟨l,0,none⟩)∧w.heap[l]?=some (.loop r)∧r.state=stOf st∧r.pending=pend
def xuI:Body→Bool
 | .nst _ _ _=>true
 | _=>false
def Fr (E:Env) (w:World) (o:Obj) (b:Nat):Prop:=(xoW o.body=true∧blkO (E o.key)=some b)∨((o.own=true∧xuI o.body=true)∧Inn E w o.key o.body b)
def xq5:Body→Bool
 | .nst _ _ _=>false
 | .sub _ _ _=>false
 | .mq _ _ _ _ _=>false
 | _=>true
theorem xcC {E:Env} {w:World} {key:Nat} {b:Body} (h:xq5 b=true) {g:Nat} (hi:Inn E w key b g) {C:Prop}:C:=by
 cases b<;>first | exact hi.elim | cases h
theorem xmK {E:Env} {w:World} {o:Obj} (h:xq5 o.body=true) {g:Nat} (hi:Fr E w o g) {C:Prop}:C:=by
 obtain ⟨k,v,own,b⟩:=o
 rcases hi with hi | hi
 ·have h:xq5 b=true:=h
  have h1:xoW b=true:=hi.1
  cases b<;>first | (cases h; done) | (cases h1; done)
 ·exact xcC h hi.2
def xbn (p:Nat→Prop):Body→Prop
 | .loop _ _ _ tm _ _ _=>∀ t v,tm t=some v→AV.all p v
 | b=>AV.allL p b.cellsOf
theorem xaY {p q:Nat→Prop} (h:∀ k,p k→q k) {b:Body} (hb:xbn p b):xbn q b:=by
 cases b with
 | loop=>exact fun t v ht=>xeT h v (hb t v ht)
 | cells cs=>exact xlF h _ hb
 | arr e sz els=>exact xlF h _ hb
 | row=>trivial
 | nil=>trivial
 | nst=>trivial
 | sub=>trivial
 | mp=>trivial
 | mf=>trivial
 | mq=>trivial
 | fin=>trivial
theorem xok {p:Nat→Prop}:xbn p .nil:=trivial
theorem xb4 {p:Nat→Prop} {e:TypeId} {ks:List CK} {l:List (List Int)}:xbn p (.row e ks l):=trivial
structure xae (X:List (Nat×Go.Obj)) (E:Env) (w0:World) (H:Heap) (w:World):Prop where
 below:Blw w0.heap.size w0 w
 env:∀ k,(E k).oneCell'=true
 objs:∀ o∈H.objs,xbm E w o.key o.own o.body
 high:∀ o∈H.objs,o.own=true→∀ b,blkO (E o.key)=some b→w0.heap.size≤b
 inj:∀ o∈H.objs,∀ o'∈H.objs,o.own=true→o.key≠o'.key→∀ b,blkO (E o.key)=some b→blkO (E o'.key)≠some b
 uniq:∀ o∈H.objs,∀ o'∈H.objs,o.key=o'.key→o=o'
 lt:∀ o∈H.objs,o.key<H.next∧xbn (fun k=>k<H.next) o.body
 prot:∀ x∈X,w.heap[x.1]?=some x.2∧∀ o∈H.objs,blkO (E o.key)≠some x.1
 deep:∀ o∈H.objs,∀ b,Inn E w o.key o.body b→∀ o'∈H.objs,o'.own=true→blkO (E o'.key)≠some b
 protD:∀ x∈X,∀ o∈H.objs,¬ Inn E w o.key o.body x.1
 fsh:∀ o∈H.objs,∀ b,Fr E w o b→w0.heap.size≤b
theorem xan {key:Nat}:∀ {l:List Obj} {o:Obj},xap key l=some o→o∈l∧o.key=key
 | [],o,h=>by cases h
 | x::r,o,h=>by
  unfold xap at h
  split at h
  ·rename_i hb
   cases h
   exact ⟨List.mem_cons_self,by simpa using hb⟩
  ·obtain ⟨h1,h2⟩:=xan h
   exact ⟨List.mem_cons_of_mem _ h1,h2⟩
theorem xtV {w w':World} {a:Addr} (h:w'.heap[a.block]?=w.heap[a.block]?):w'.cell? a=w.cell? a:=by simp [World.cell?,h]
theorem xhd (a:Addr) (j:Nat):(a.add j).block=a.block:=by unfold Addr.add; split<;>rfl
theorem xa8.move {w w':World} {own:Bool} {e:TypeId} {sz:Nat} {v:Value} {n:Nat} {vs:List Value} (hr:xa8 w own e sz v n vs) (hw:∀ g,blkO v=some g→w'.heap[g]?=w.heap[g]?) (hs:w.heap.size≤w'.heap.size):xa8 w' own e sz v n vs:=by
 refine ⟨⟨hr.reads.is,?_,fun b hb=>Nat.lt_of_lt_of_le (hr.reads.blk b hb) hs⟩,hr.len,?_⟩
 ·intro j u hj
  obtain ⟨a,ha,hc⟩:=hr.reads.cell j u hj
  refine ⟨a,ha,?_⟩
  rw [xtV]
  ·exact hc
  ·rw [xhd]
   obtain ⟨a',c,hv,hn,_⟩:=hr.reads.is
   rw [hv] at ha
   have ha:a'=some a:=ha
   subst ha
   have hc0:c≠0:=by
    intro h0
    have hn0:n=0:=by omega
    have hlen:vs.length=0:=by rw [hr.len,hn0,Nat.zero_mul]
    rw [List.eq_nil_of_length_eq_zero hlen] at hj
    simp at hj
   exact hw _ (by rw [hv]; simp [blkO,hc0])
 ·intro ho
  rcases hr.own ho with h1 | ⟨g,cap,cur,hv,hg,h2,h3,h4⟩
  ·exact .inl h1
  ·by_cases hc:cap=0
   ·subst hc
    have:n=0:=by omega
    subst this
    exact .inl ⟨_,hv,rfl⟩
   ·exact .inr ⟨g,cap,cur,hv,by rw [hw g (by rw [hv]; simp [blkO,hc])]; exact hg,h2,h3,h4⟩
theorem xyu.blkHead {w:World} {v:Value} {n sz:Nat} {vs:List Value} (h:xyu w v n vs) (hl:vs.length=n*sz) {j:Nat} {u:Value} (hj:vs[j]?=some u):∃ a,xnL v=some a∧w.cell? (a.add j)=some u∧blkO v=some a.block:=by
 obtain ⟨a,ha,hc⟩:=h.cell j u hj
 refine ⟨a,ha,hc,?_⟩
 obtain ⟨a',c,hv,hn,_⟩:=h.is
 rw [hv] at ha
 have ha:a'=some a:=ha
 subst ha
 have hc0:c≠0:=by
  intro h0
  have hn0:n=0:=by omega
  have hlen:vs.length=0:=by rw [hl,hn0,Nat.zero_mul]
  rw [List.eq_nil_of_length_eq_zero hlen] at hj
  simp at hj
 rw [hv]; simp [blkO,hc0]
theorem xiO.get {w:World} {own:Bool} {e:TypeId} {ks:List NK} {v:Value} {l:List (List Int)} {vs:List Value} (h:xiO w own e ks v l vs) {q:Nat} {u:Value} (hq:vs[q]?=some u):q<l.length*ks.length∧∃ k n,xfU w k n u:=by
 have hlt:q<l.length*ks.length:=by
  have:=(List.getElem?_eq_some_iff.1 hq).1
  rw [h.row.len] at this; exact this
 have h0:0<ks.length:=by
  rcases Nat.eq_zero_or_pos ks.length with h | h
  ·rw [h,Nat.mul_zero] at hlt; omega
  ·exact h
 have hi:q/ks.length<l.length:=(Nat.div_lt_iff_lt_mul h0).2 hlt
 have hm:q%ks.length<ks.length:=Nat.mod_lt _ h0
 obtain ⟨u',hu',hc⟩:=h.cell (q/ks.length) (q%ks.length) ks[q%ks.length] hi (List.getElem?_eq_getElem hm)
 rw [Nat.div_add_mod'] at hu'
 rw [hq] at hu'
 cases hu'
 exact ⟨hlt,_,_,hc⟩
theorem xfU.lt {w:World} {k:NK} {n:Int} {u:Value} (h:xfU w k n u) {b:Nat} (hb:blkO u=some b):b<w.heap.size:=by
 cases k with
 | c k =>
  have h:u=k.val n:=h
  rw [h] at hb
  cases k<;>cases hb
 | s e ks=>exact h.2.reads.blk b hb
theorem xiX {E:Env} {w:World} {key:Nat} {own:Bool} {b:Body} {g:Nat} (hb:xbm E w key own b) (hg:blkO (E key)=some g):g<w.heap.size:=by
 cases b with
 | cells cs=>obtain ⟨g',T,h1,h2⟩:=hb; rw [h1] at hg; cases hg; exact (Array.getElem?_eq_some_iff.1 h2).1
 | row e ks l=>exact hb.reads.blk g hg
 | arr e sz els=>exact hb.1.reads.blk g hg
 | nil=>have hb:E key=_:=hb; rw [hb] at hg; cases hg
 | nst e ks l=>obtain ⟨vs,hb⟩:=hb; exact hb.row.reads.blk g hg
 | sub e ks l=>exact hb.2.reads.blk g hg
 | mp kt et q m ke l=>obtain ⟨g',es,clock,h1,h2,_⟩:=hb; rw [h1] at hg; cases hg; exact (Array.getElem?_eq_some_iff.1 h2).1
 | mf kt et q ents=>obtain ⟨g',es,clock,hM⟩:=hb; rw [hM.is] at hg; cases hg; exact (Array.getElem?_eq_some_iff.1 hM.at_).1
 | mq kt et q ks l=>obtain ⟨g',es,clock,hM⟩:=hb; rw [hM.is] at hg; cases hg; exact (Array.getElem?_eq_some_iff.1 hM.at_).1
 | fin st pend=>obtain ⟨g',r,h1,h2,_⟩:=hb; rw [h1] at hg; cases hg; exact (Array.getElem?_eq_some_iff.1 h2).1
 | loop st pend N tm params assign body=>obtain ⟨g',fn,tmps,dfr,h1,h2,_⟩:=hb; rw [h1] at hg; cases hg; exact (Array.getElem?_eq_some_iff.1 h2).1
theorem MqOk.cellAt {w:World} {v:Value} {q:IntKind} {ks:List NK} {l:List (List Int)} {b:Nat} {es:Array MapEntry} {clock:Nat} (h:MqOk w v q ks l b es clock) {e:MapEntry} (he:e∈es.toList) {cs:List Value} (hv:e.val=.agg cs.toArray) {u:Value} (hu:u∈cs):∃ k n,xfU w k n u:=by
 obtain ⟨i,hi⟩:=List.mem_iff_getElem?.1 he
 obtain ⟨_,cs',h2,h3,h4⟩:=h.ents i e hi
 rw [hv] at h2
 have e1:cs=cs':=by
  have:=Value.agg.inj h2
  simpa using congrArg Array.toList this
 subst e1
 obtain ⟨j,hj⟩:=List.mem_iff_getElem?.1 hu
 have hjl:j<ks.length:=by rw [← h3]; exact (List.getElem?_eq_some_iff.1 hj).1
 obtain ⟨u',hu',hc⟩:=h4 j ks[j] (List.getElem?_eq_getElem hjl)
 rw [hj] at hu'
 cases hu'
 exact ⟨_,_,hc⟩
theorem xkZ {E:Env} {w:World} {key:Nat} {own:Bool} {b:Body} (h:xbm E w key own b) {g:Nat} (hg:Inn E w key b g):g<w.heap.size:=by
 cases b with
 | nst e ks l =>
  obtain ⟨vs,h⟩:=h
  obtain ⟨a,j,u,ha,hj,hc,hb⟩:=hg
  have hjv:j<vs.length:=by rw [h.row.len]; exact hj
  obtain ⟨a',ha',hc'⟩:=h.row.reads.cell j vs[j] (List.getElem?_eq_getElem hjv)
  rw [ha] at ha'
  cases ha'
  rw [hc] at hc'
  have e:u=vs[j]:=Option.some.inj hc'
  obtain ⟨_,k,n,hk⟩:=h.get (q:=j) (u:=u) (by rw [e]; exact List.getElem?_eq_getElem hjv)
  exact hk.lt hb
 | mq kt et q ks l =>
  obtain ⟨bm,es,clock,hM⟩:=h
  obtain ⟨m,es',clock',h1,h2,e,he,cs,hv,u,hu,hb⟩:=hg
  rw [hM.is] at h1
  cases h1
  rw [hM.at_] at h2
  cases h2
  obtain ⟨k,n,hk⟩:=hM.cellAt he hv hu
  exact hk.lt hb
 | _=>exact hg.elim
theorem xgN {E E':Env} {w w':World} {key:Nat} {own:Bool} {b:Body} (h:xbm E w key own b) (hk:E' key=E key) (hw:∀ g,blkO (E key)=some g→w'.heap[g]?=w.heap[g]?) {g:Nat} (hg:Inn E' w' key b g):Inn E w key b g:=by
 cases b with
 | nst e ks l =>
  obtain ⟨vs,h⟩:=h
  obtain ⟨a,j,u,ha,hj,hc,hb⟩:=hg
  rw [hk] at ha
  have hjv:j<vs.length:=by rw [h.row.len]; exact hj
  obtain ⟨a',ha',hc',hblk⟩:=h.row.reads.blkHead h.row.len (List.getElem?_eq_getElem hjv)
  rw [ha] at ha'
  cases ha'
  refine ⟨a,j,u,ha,hj,?_,hb⟩
  rw [← hc]
  exact (xtV (by rw [xhd]; exact hw _ hblk)).symm
 | mq kt et q ks l =>
  obtain ⟨m,es,clock,h1,h2,rest⟩:=hg
  rw [hk] at h1
  exact ⟨m,es,clock,h1,by rw [← hw m (by rw [h1]; rfl)]; exact h2,rest⟩
 | _=>exact hg.elim
theorem xbm.keep {E E':Env} {w w':World} {key:Nat} {own:Bool} {b:Body} (h:xbm E w key own b) (hk:E' key=E key)
  (hall:xbn (fun k=>E' k=E k) b) (hw:∀ g,blkO (E key)=some g→w'.heap[g]?=w.heap[g]?) (hs:w.heap.size≤w'.heap.size) (hd:∀ g,Inn E w key b g→w'.heap[g]?=w.heap[g]?):xbm E' w' key own b:=by
 have hden:∀ l:List AV,AV.allL (fun k=>E' k=E k) l→AV.denL E' l=AV.denL E l:=fun l hl=>xcl (fun k hk=>hk) l hl
 have row:∀ {e sz n vs},xa8 w own e sz (E key) n vs→xa8 w' own e sz (E' key) n vs:=by
  intro e sz n vs hr
  rw [hk]
  exact hr.move hw hs
 cases b with
 | cells cs =>
  obtain ⟨g,T,h1,h2⟩:=h
  exact ⟨g,T,hk.trans h1,by rw [hw g (by rw [h1]; rfl),hden cs hall]; exact h2⟩
 | row e ks l=>exact row h
 | sub e ks l=>exact ⟨h.1,row h.2⟩
 | arr e sz els=>exact ⟨by rw [hden els.flatten hall]; exact row h.1,h.2⟩
 | nil=>exact hk.trans h
 | nst e ks l =>
  obtain ⟨vs,h⟩:=h
  refine ⟨vs,row h.row,fun i j k hi hj=>?_⟩
  obtain ⟨u,hu,hc⟩:=h.cell i j k hi hj
  refine ⟨u,hu,?_⟩
  cases k with
  | c k=>exact hc
  | s e' ks' =>
   refine ⟨hc.1,hc.2.move (fun g hg=>hd g ?_) hs⟩
   obtain ⟨a,ha,hc',_⟩:=h.row.reads.blkHead h.row.len hu
   exact ⟨a,i*ks.length+j,u,ha,(h.get hu).1,hc',hg⟩
 | mq kt et q ks l =>
  obtain ⟨b,es,clock,hM⟩:=h
  refine ⟨b,es,clock,hk.trans hM.is,by rw [hw b (by rw [hM.is]; rfl)]; exact hM.at_,hM.len,fun i e he=>?_,hM.wf,hM.nodup,hM.stamp⟩
  obtain ⟨h1,cs,h2,h3,h4⟩:=hM.ents i e he
  refine ⟨h1,cs,h2,h3,fun j k hj=>?_⟩
  obtain ⟨u,hu,hc⟩:=h4 j k hj
  refine ⟨u,hu,?_⟩
  cases k with
  | c k=>exact hc
  | s e' ks'=>exact ⟨hc.1,hc.2.move (fun g hg=>hd g ⟨b,es,clock,hM.is,hM.at_,e,List.mem_of_getElem? he,cs,h2,u,List.mem_of_getElem? hu,hg⟩) hs⟩
 | mf kt et q ents =>
  obtain ⟨b,es,clock,hM⟩:=h
  exact ⟨b,es,clock,hk.trans hM.is,by rw [hw b (by rw [hM.is]; rfl)]; exact hM.at_,hM.tab,hM.nodup⟩
 | mp kt et q m ke l =>
  obtain ⟨b,es,clock,h1,h2,h3,h4,h5⟩:=h
  exact ⟨b,es,clock,hk.trans h1,by rw [hw b (by rw [h1]; rfl)]; exact h2,h3,h4,h5⟩
 | fin st pend =>
  obtain ⟨l,r,h1,h2,h3⟩:=h
  exact ⟨l,r,hk.trans h1,by rw [hw l (by rw [h1]; rfl)]; exact h2,h3⟩
 | loop st pend N tm params assign body =>
  obtain ⟨l,fn,tmps,dfr,h1,h2,h3,h4⟩:=h
  refine ⟨l,fn,tmps,dfr,hk.trans h1,by rw [hw l (by rw [h1]; rfl)]; exact h2,h3,fun t v ht=>?_⟩
  rw [h4 t v ht]
  exact (xdt (fun k hk=>hk) v (hall t v ht)).symm
section ops
variable {P:Program} {E:Env} {w0 w:World} {H:Heap} {ρ:Operand→Option AV} {e:Operand→Value}
theorem xcm {t:TypeId} {n:Nat} (h:xjY P t=some n) (w:World):(sizeOf t).run P w=.ok n w:=by
 unfold xjY at h
 cases hi:P.info? t with
 | none=>simp [hi] at h
 | some i=>simp [hi] at h; simp [sizeOf,typeInfo,hi,h]
theorem xjb {t:TypeId} {b:Bool} (h:xxS P t=some b) (w:World):(isAgg t).run P w=.ok b w:=by
 unfold xxS at h
 cases hu:P.underlying t with
 | none=>simp [hu] at h
 | some d =>
  simp only [hu,Option.map_some,Option.some.injEq] at h
  subst h
  simp only [isAgg,Sem.run_bind,run_underlying hu,Result.andThen_ok]
  cases d<;>rfl
theorem xmf {t:TypeId} {z:AV} (h:xnm P t=some z) (E:Env) (w:World):(zeroValue t).run P w=.ok (z.den E) w:=by
 unfold xnm at h
 cases hi:P.info? t with
 | none=>simp [hi] at h
 | some i =>
  simp only [hi] at h
  cases hz:i.zero with
  | none=>simp [hz] at h
  | some v =>
   simp only [hz,Option.map_some,Option.some.injEq] at h
   subst h
   simp [zeroValue,typeInfo,hi,hz,xhw]
theorem xuc {t:TypeId} {z:AV} (h:xnm P t=some z) (p:Nat→Prop):AV.all p z:=by
 unfold xnm at h
 cases hi:P.info? t with
 | none=>simp [hi] at h
 | some i =>
  simp only [hi] at h
  cases hz:i.zero with
  | none=>simp [hz] at h
  | some v=>simp only [hz,Option.map_some,Option.some.injEq] at h; subst h; exact xgr p v
theorem xv6 (v:Value):(ofValue v).plainCells=true:=by
 cases v<;>rfl
theorem xkK {t:TypeId} {cs:List AV} {off:Nat} {v:AV} (h:xi1 P t cs off=some v) (E:Env) (w:World) :
  (part t (AV.denL E cs).toArray off).run P w=.ok (v.den E) w:=by
 unfold xi1 at h
 split at h
 ·rename_i n ha hs
  split at h
  ·rename_i hl
   cases h
   simp only [part,Sem.run_bind,xjb ha,Result.andThen_ok,if_true,xcm hs]
   simp [xaJ,AV.den,List.map_drop,List.map_take]
  ·cases h
 ·rename_i n ha hs
  have hc:(AV.denL E cs).toArray[off]?=some (v.den E):=by simp [xaJ,h]
  simp [part,xjb ha,hc]
 ·cases h
theorem xiC {t:TypeId} {cs:List AV} {off:Nat} {p:Nat→Prop} {v:AV} (h:xi1 P t cs off=some v) (hl:AV.allL p cs):AV.all p v:=by
 rw [xe9] at hl
 unfold xi1 at h
 split at h
 ·split at h
  ·cases h
   show AV.allL p _
   rw [xe9]
   exact fun a ha=>hl a (List.mem_of_mem_drop (List.mem_of_mem_take ha))
  ·cases h
 ·exact hl v (List.mem_of_getElem? h)
 ·cases h
theorem xse (off:Nat):∀ (vs:List Value) (k:Nat) (cs:Array Value),off+k+vs.length≤cs.size →
  ((vs.zipIdx k).foldl (fun (cs:Array Value) (c,j)=>cs.setIfInBounds (off+j) c) cs).toList=cs.toList.take (off+k)++vs++cs.toList.drop (off+k+vs.length)
 | [],k,cs,_=>by simp
 | v::r,k,cs,h=>by
  simp only [List.zipIdx_cons,List.foldl_cons]
  rw [xse off r (k+1) _ (by simp at h ⊢; omega)]
  have e:=list_seg_step cs.toList (off+k) v r (by simp at h ⊢; omega)
  simpa [Array.toList_setIfInBounds,Nat.add_assoc] using e
theorem xvl (E:Env) (hE:∀ k,(E k).oneCell'=true) {place:Nat→Option (Nat×Nat)}:∀ (ps:List (Nat×AV)) (cs out:List AV),xAO place ps cs=some out →
  Instr.fill place (AV.denL E cs).toArray (ps.map fun p=>(p.1,p.2.den E))=some (AV.denL E out).toArray
 | [],cs,out,h=>by cases h; rfl
 | (i,v)::rest,cs,out,h=>by
  unfold xAO at h
  cases hp:place i with
  | none=>simp [hp] at h
  | some on =>
   obtain ⟨off,n⟩:=on
   simp only [hp] at h
   split at h
   ·rename_i hc
    obtain ⟨h1,h2,h3⟩:=hc
    have ih:=xvl E hE rest _ out h
    simp only [List.map_cons,Instr.fill,hp]
    rw [xhc h3 hE]
    have hs:((AV.denL E v.cells).toArray.size≠n||decide (off+(AV.denL E v.cells).toArray.size>(AV.denL E cs).toArray.size))=false:=by
     simp [xaJ,h1]; omega
    rw [if_neg (by rw [hs]; exact Bool.false_ne_true)]
    rw [← ih]
    congr 1
    apply Array.ext'
    have:=xse off (AV.denL E v.cells) 0 (AV.denL E cs).toArray (by simp [xaJ]; omega)
    simp only [Nat.add_zero] at this
    have e2:((AV.denL E v.cells).toArray.zipIdx.foldl (fun (cs:Array Value) x=>match x with | (c,j)=>cs.setIfInBounds (off+j) c) (AV.denL E cs).toArray).toList=(AV.denL E cs).take off++AV.denL E v.cells++(AV.denL E cs).drop (off+(AV.denL E v.cells).length):=by
     rw [← Array.foldl_toList,Array.toList_zipIdx]
     exact this
    refine e2.trans ?_
    simp [xn2,xaJ]
   ·cases h
theorem xqH {p:Nat→Prop} {off:Nat} {cs vs:List AV} (h:AV.allL p cs) (hv:AV.allL p vs):AV.allL p (xn2 cs off vs):=by
 rw [xe9] at *
 intro a ha
 simp only [xn2,List.mem_append] at ha
 rcases ha with (ha | ha) | ha
 ·exact h a (List.mem_of_mem_take ha)
 ·exact hv a ha
 ·exact h a (List.mem_of_mem_drop ha)
theorem xAd {q:Nat→Prop} {place:Nat→Option (Nat×Nat)}:∀ (ps:List (Nat×AV)) (cs out:List AV),xAO place ps cs=some out→(∀ p∈ps,AV.all q p.2)→AV.allL q cs→AV.allL q out
 | [],cs,out,h,_,hc=>by cases h; exact hc
 | (i,v)::rest,cs,out,h,hp,hc=>by
  unfold xAO at h
  split at h
  ·cases h
  ·split at h
   ·exact xAd rest _ out h (fun p hp'=>hp p (by simp [hp'])) (xqH hc (xlc (hp (i,v) (by simp))))
   ·cases h
theorem xmh (hρ:∀ x v,ρ x=some v→e x=v.den E):∀ (l:List (Nat×Operand)) (ps:List (Nat×AV)),xgI ρ l=some ps→(l.map fun p=>(p.1,e p.2))=ps.map fun p=>(p.1,p.2.den E)
 | [],ps,h=>by cases h; rfl
 | (i,x)::r,ps,h=>by
  unfold xgI at h
  split at h
  ·rename_i v vs h1 h2
   cases h
   simp [hρ x v h1,xmh hρ r vs h2]
  ·cases h
theorem xoG {Q:AV→Prop} (hρ:∀ x v,ρ x=some v→Q v):∀ (l:List (Nat×Operand)) (ps:List (Nat×AV)),xgI ρ l=some ps→∀ p∈ps,Q p.2
 | [],ps,h=>by cases h; simp
 | (i,x)::r,ps,h=>by
  unfold xgI at h
  split at h
  ·rename_i v vs h1 h2
   cases h
   intro p hp
   rcases List.mem_cons.1 hp with rfl | hp
   ·exact hρ x v h1
   ·exact xoG hρ r vs h2 p hp
  ·cases h
theorem xe0 (hρ:∀ x v,ρ x=some v→e x=v.den E):∀ (l:List Operand) (vs:List AV),xlY ρ l=some vs→l.map e=AV.denL E vs
 | [],vs,h=>by cases h; rfl
 | x::r,vs,h=>by
  unfold xlY at h
  split at h
  ·rename_i v ws h1 h2
   cases h
   simp [AV.denL,hρ x v h1,xe0 hρ r ws h2]
  ·cases h
theorem xjy {Q:AV→Prop} (hρ:∀ x v,ρ x=some v→Q v):∀ (l:List Operand) (vs:List AV),xlY ρ l=some vs→∀ v∈vs,Q v
 | [],vs,h=>by cases h; simp
 | x::r,vs,h=>by
  unfold xlY at h
  split at h
  ·rename_i v ws h1 h2
   cases h
   intro p hp
   rcases List.mem_cons.1 hp with rfl | hp
   ·exact hρ x p h1
   ·exact xjy hρ r ws h2 p hp
  ·cases h
theorem xqi {t:TypeId} {cs:List AV} {b off:Nat} {T:TypeId} {v:AV} (hb:w.heap[b]?=some (.cells (AV.denL E cs).toArray T (0,0))) (h:xi1 P t cs off=some v) :
  (loadVar t ⟨b,off,none⟩).run P w=.ok (v.den E) w:=by
 have hadd:∀ i,(⟨b,off,none⟩:Addr).add i=⟨b,off+i,none⟩:=fun i=>by unfold Addr.add; split<;>simp_all
 unfold xi1 at h
 split at h
 ·rename_i n ha hs
  split at h
  ·rename_i hl
   cases h
   have hlen:((AV.denL E cs).drop off |>.take n).length=n:=by simp [xaJ]; omega
   have hr:=run_loadCells_list (P:=P) w ⟨b,off,none⟩ ((AV.denL E cs).drop off |>.take n) (fun j u hj=>by
    rw [hadd]
    simp only [List.getElem?_take,List.getElem?_drop] at hj
    split at hj
    ·simp [World.cell?,hb,hj]
    ·cases hj)
   rw [hlen] at hr
   simp only [loadVar,Sem.run_bind,xjb ha,Result.andThen_ok,if_true,xcm hs,hr]
   simp [AV.den,xaJ,List.map_drop,List.map_take]
  ·cases h
 ·rename_i n ha hs
  have hc:w.cell? ⟨b,off,none⟩=some (v.den E):=by simp [World.cell?,hb,xaJ,h]
  simp [loadVar,xjb ha,hc,run_load]
 ·cases h
theorem xu2 {v:AV} (h:v.scalar=true) {E:Env} (hE:∀ k,(E k).oneCell'=true):(v.den E).oneCell'=true:=by
 cases v with
 | sl k=>exact hE k
 | vw k sz lo hi=>exact xpF (hE k) _ _ _
 | fs n ents=>exact xCc n ents
 | val x=>cases x<;>first | rfl | cases h
 | agg _=>cases h
 | tup _=>cases h
 | _=>rfl
theorem xqU {v:AV} (h:v.cells.all AV.scalar=true):v.plainCells=true:=by
 cases v with
 | val x=>cases x<;>first | rfl | (simp [AV.cells,AV.scalar] at h)
 | _=>rfl
end ops
end Go.Sy
set_option linter.unusedVariables false
namespace Go.Sy
open Go.RowKit
theorem xik (b off i:Nat):(⟨b,off,none⟩:Addr).add i=⟨b,off+i,none⟩:=by unfold Addr.add; split<;>simp_all
theorem xlG (a:Addr) (m n:Nat):(a.add m).add n=a.add (m+n):=by
 unfold Addr.add
 by_cases hm:m=0
 ·subst hm; simp
 ·by_cases hn:n=0
  ·subst hn; simp
  ·have:¬ (m+n=0):=by omega
   simp [hm,hn,Nat.add_assoc]
theorem xd1:∀ (ks:List CK) (j:Nat) (el:List Int),(elV ks j el).length=ks.length
 | [],_,_=>rfl
 | k::ks,j,el=>by simp [elV,xd1 ks (j+1) el]
theorem xvo:∀ (ks:List CK) (j:Nat) (el:List Int),(elA ks j el).length=ks.length
 | [],_,_=>rfl
 | k::ks,j,el=>by simp [elA,xvo ks (j+1) el]
theorem xwS (E:Env) (k:CK) (n:Int):(k.cell n).den E=k.val n:=by cases k<;>rfl
theorem xwI (E:Env):∀ (ks:List CK) (j:Nat) (el:List Int),AV.denL E (elA ks j el)=elV ks j el
 | [],_,_=>rfl
 | k::ks,j,el=>by simp [elA,elV,AV.denL,xwS,xwI E ks (j+1) el]
theorem xwJ (p:Nat→Prop):∀ (ks:List CK) (j:Nat) (el:List Int),AV.allL p (elA ks j el)
 | [],_,_=>trivial
 | k::ks,j,el=>⟨by cases k<;>trivial,xwJ p ks (j+1) el⟩
theorem xtK:∀ (ks:List CK) (j:Nat) (el:List Int) (i:Nat),(elV ks j el)[i]?=(ks[i]?).map fun k=>k.val (el.getD (j+i) 0)
 | [],_,_,_=>by simp [elV]
 | k::ks,j,el,0=>by simp [elV]
 | k::ks,j,el,i+1=>by simp [elV,xtK ks (j+1) el i,Nat.add_comm,Nat.add_left_comm]
theorem xy9:∀ (ks:List CK) (j:Nat) (el:List Int),∀ u∈elV ks j el,u.oneCell'=true
 | [],_,_,u,h=>by simp [elV] at h
 | k::ks,j,el,u,h=>by
  rcases List.mem_cons.1 h with rfl | h
  ·cases k<;>rfl
  ·exact xy9 ks (j+1) el u h
theorem xbu (ks:List CK):∀ l:List (List Int),(rowV ks l).length=l.length*ks.length
 | []=>by simp [rowV]
 | a::r=>by
  have:=xbu ks r
  simp only [rowV,List.flatMap_cons,List.length_append,xd1,List.length_cons] at *
  rw [this,Nat.add_mul,Nat.one_mul,Nat.add_comm]
theorem xn4 (ks:List CK) (l l':List (List Int)):rowV ks (l++l')=rowV ks l++rowV ks l':=by simp [rowV]
theorem xoD (ks:List CK) (l:List (List Int)):∀ u∈rowV ks l,u.oneCell'=true:=by
 intro u h
 simp only [rowV,List.mem_flatMap] at h
 obtain ⟨el,_,h⟩:=h
 exact xy9 ks 0 el u h
theorem xna (ks:List CK):∀ (l:List (List Int)) (i j:Nat),j<ks.length→i<l.length→(rowV ks l)[i*ks.length+j]?=(elV ks 0 (l.getD i []))[j]?
 | [],i,j,_,h=>by simp at h
 | a::r,0,j,hj,_=>by
  simp only [rowV,List.flatMap_cons,Nat.zero_mul,Nat.zero_add]
  rw [List.getElem?_append_left (by rw [xd1]; exact hj)]
  simp
 | a::r,i+1,j,hj,h=>by
  have:=xna ks r i j hj (by simpa using h)
  simp only [rowV,List.flatMap_cons] at *
  rw [List.getElem?_append_right (by rw [xd1,Nat.add_mul,Nat.one_mul]; omega),xd1]
  rw [show (i+1)*ks.length+j-ks.length=i*ks.length+j from by rw [Nat.add_mul,Nat.one_mul]; omega,this]
  simp
theorem xwQ (E:Env) {k:CK} {v:AV} {n:Int} (h:xA0 k v=some n):v.den E=k.val n:=by
 unfold xA0 at h
 split at h
 ·split at h
  ·rename_i hk; cases h; subst hk; rfl
  ·cases h
 ·split at h
  ·rename_i hk; cases h; subst hk; rfl
  ·cases h
 ·cases h; rename_i b; cases b<;>rfl
 ·cases h; rename_i b; cases b<;>rfl
 ·cases h
theorem xjU (E:Env):∀ {ks:List CK} {vs:List AV} {ns:List Int} (pre:List Int),xpf ks vs=some ns→AV.denL E vs=elV ks pre.length (pre++ns)
 | [],[],ns,pre,h=>by cases h; rfl
 | k::ks,v::vs,ns,pre,h=>by
  unfold xpf at h
  split at h
  ·rename_i n ms h1 h2
   cases h
   have ih:=xjU E (pre++[n]) h2
   simp only [AV.denL,elV,xwQ E h1]
   congr 1
   ·congr 1; simp
   ·rw [ih]; simp
  ·cases h
 | [],_::_,_,_,h=>by cases h
 | _::_,[],_,_,h=>by cases h
theorem xmY:∀ {ks:List CK} {vs:List AV} {ns:List Int},xpf ks vs=some ns→vs.length=ks.length∧ns.length=ks.length
 | [],[],ns,h=>by cases h; exact ⟨rfl,rfl⟩
 | k::ks,v::vs,ns,h=>by
  unfold xpf at h
  split at h
  ·rename_i n ms h1 h2
   cases h
   have:=xmY h2
   simp [this.1,this.2]
  ·cases h
 | [],_::_,_,h=>by cases h
 | _::_,[],_,h=>by cases h
theorem xpe (E:Env):∀ {ks:List CK} {els:List (List AV)} {l:List (List Int)},xyi ks els=some l→AV.denL E els.flatten=rowV ks l∧l.length=els.length
 | ks,[],l,h=>by cases h; exact ⟨rfl,rfl⟩
 | ks,el::els,l,h=>by
  unfold xyi at h
  split at h
  ·rename_i n ms h1 h2
   cases h
   obtain ⟨e1,e2⟩:=xpe E h2
   have e3:=xjU E [] h1
   simp only [List.length_nil,List.nil_append] at e3
   refine ⟨?_,by simp [e2]⟩
   rw [List.flatten_cons,xaJ,List.map_append,← xaJ,← xaJ,e1,e3]
   simp [rowV]
  ·cases h
theorem xBp (sz:Nat) (el:List Int) (off:Nat) (ns:List Int) (j:Nat) (h:j<sz):(xuu sz el off ns).getD j 0=if off≤j∧j<off+ns.length then ns.getD (j-off) 0 else el.getD j 0:=by
 simp [xuu,List.getD_eq_getElem?_getD,List.getElem?_map,List.getElem?_range,h]
theorem xDd {ks:List CK} {l:List (List Int)} {i off:Nat} {ns:List Int} (hi:i<l.length) (ho:off+ns.length≤ks.length) {vs:List Value} (hvs:vs=elV ((ks.drop off).take ns.length) 0 ns) :
  rowV ks (l.set i (xuu ks.length (l.getD i []) off ns))=(rowV ks l).take (i*ks.length+off)++vs++(rowV ks l).drop (i*ks.length+off+vs.length):=by
 have hvl:vs.length=ns.length:=by rw [hvs,xd1]; simp; omega
 have hpos:ks.length=0∨0<ks.length:=by omega
 have hil:(i+1)*ks.length≤l.length*ks.length:=Nat.mul_le_mul_right _ hi
 have hil2:(i+1)*ks.length=i*ks.length+ks.length:=by rw [Nat.add_mul,Nat.one_mul]
 apply List.ext_getElem?
 intro k
 by_cases hk:k<l.length*ks.length
 ·have hz:0<ks.length:=by
   rcases hpos with h | h
   ·rw [h,Nat.mul_zero] at hk; omega
   ·exact h
  have hk1:k/ks.length<l.length:=(Nat.div_lt_iff_lt_mul hz).2 hk
  have hk2:k%ks.length<ks.length:=Nat.mod_lt _ hz
  have hk3:k=k/ks.length*ks.length+k%ks.length:=by rw [Nat.mul_comm]; exact (Nat.div_add_mod k ks.length).symm
  have lhs:=xna ks (l.set i (xuu ks.length (l.getD i []) off ns)) (k/ks.length) (k%ks.length) hk2 (by simpa using hk1)
  have rhs:=xna ks l (k/ks.length) (k%ks.length) hk2 hk1
  rw [← hk3] at lhs rhs
  rw [lhs]
  have hlen:(rowV ks l).length=l.length*ks.length:=xbu ks l
  by_cases hki:k/ks.length=i
  ·rw [hki] at rhs lhs ⊢
   have hgd:(l.set i (xuu ks.length (l.getD i []) off ns)).getD i []=xuu ks.length (l.getD i []) off ns:=by
    rw [List.getD_eq_getElem?_getD,List.getElem?_set_self hi]; rfl
   rw [hgd,xtK]
   have hkk:k=i*ks.length+k%ks.length:=by rw [← hki]; exact hk3
   simp only [Nat.zero_add]
   rw [xBp _ _ _ _ _ hk2]
   by_cases hin:off≤k%ks.length∧k%ks.length<off+ns.length
   ·rw [if_pos hin]
    rw [List.append_assoc,List.getElem?_append_right (by simp; omega),List.getElem?_append_left (by simp; omega)]
    simp only [List.length_take,hlen]
    rw [show k-min (i*ks.length+off) (l.length*ks.length)=k%ks.length-off from by omega]
    rw [hvs,xtK]
    rw [List.getElem?_take,if_pos (by omega),List.getElem?_drop,Nat.zero_add]
    rw [show off+(k%ks.length-off)=k%ks.length from by omega]
   ·rw [if_neg hin]
    rw [xtK] at rhs
    simp only [Nat.zero_add] at rhs
    rw [← rhs]
    by_cases hlo:k%ks.length<off
    ·rw [List.append_assoc,List.getElem?_append_left (by simp; omega),List.getElem?_take,if_pos (by omega)]
    ·rw [List.getElem?_append_right (by simp; omega),List.getElem?_drop]
     congr 1
     simp [hlen]
     omega
  ·have hgd:(l.set i (xuu ks.length (l.getD i []) off ns)).getD (k/ks.length) []=l.getD (k/ks.length) []:=by
    rw [List.getD_eq_getElem?_getD,List.getElem?_set_ne (fun e=>hki e.symm),← List.getD_eq_getElem?_getD]
   rw [hgd,← rhs]
   by_cases hlo:k/ks.length<i
   ·have:(k/ks.length+1)*ks.length≤i*ks.length:=Nat.mul_le_mul_right _ hlo
    rw [Nat.add_mul,Nat.one_mul] at this
    rw [List.append_assoc,List.getElem?_append_left (by simp; omega),List.getElem?_take,if_pos (by omega)]
   ·have:(i+1)*ks.length≤k/ks.length*ks.length:=Nat.mul_le_mul_right _ (by omega)
    rw [List.getElem?_append_right (by simp; omega),List.getElem?_drop]
    congr 1
    simp [hlen]
    omega
 ·have h1:(rowV ks (l.set i (xuu ks.length (l.getD i []) off ns)))[k]?=none:=List.getElem?_eq_none (by rw [xbu]; simp; omega)
  rw [h1]
  symm
  apply List.getElem?_eq_none
  simp [xbu]
  omega
section
variable {P:Program} {E:Env} {w0 w:World} {H:Heap} {ρ:Operand→Option AV} {e:Operand→Value}
theorem xbR {b:Body} {e:TypeId} {ks:List CK} {l:List (List Int)} (h:xes P b=some (e,ks,l)) {key:Nat} {own:Bool} (hb:xbm E w key own b):xa8 w own e ks.length (E key) l.length (rowV ks l):=by
 cases b with
 | row e' ks' l'=>cases h; exact hb
 | sub e' ks' l'=>cases h; exact hb.2
 | arr e' sz els =>
  simp only [xes] at h
  cases hk:xq0 P 9 e' with
  | none=>rw [hk] at h; cases h
  | some ks' =>
   rw [hk] at h
   simp only [] at h
   split at h
   ·rename_i hl
    cases hc:xyi ks' els with
    | none=>rw [hc] at h; cases h
    | some l' =>
     rw [hc] at h
     cases h
     obtain ⟨e1,e2⟩:=xpe E hc
     obtain ⟨h1,_,_⟩:=hb
     rw [e1,← e2,← hl] at h1
     exact h1
   ·cases h
 | cells=>cases h
 | nil=>cases h
 | nst=>cases h
 | mp=>cases h
 | mf=>cases h
 | mq=>cases h
 | fin=>cases h
 | loop=>cases h
theorem xoC {t:TypeId} {cs:List AV} {a0:Addr} {off:Nat} {v:AV} (hc:∀ j u,(AV.denL E cs)[j]?=some u→w.cell? (a0.add j)=some u) (h:xi1 P t cs off=some v) :
  (loadVar t (a0.add off)).run P w=.ok (v.den E) w:=by
 unfold xi1 at h
 split at h
 ·rename_i n ha hs
  split at h
  ·rename_i hl
   cases h
   have hlen:((AV.denL E cs).drop off |>.take n).length=n:=by simp [xaJ]; omega
   have hr:=run_loadCells_list (P:=P) w (a0.add off) ((AV.denL E cs).drop off |>.take n) (fun j u hj=>by
    rw [xlG]
    simp only [List.getElem?_take,List.getElem?_drop] at hj
    split at hj
    ·exact hc _ _ hj
    ·cases hj)
   rw [hlen] at hr
   simp only [loadVar,Sem.run_bind,xjb ha,Result.andThen_ok,if_true,xcm hs,hr]
   simp [AV.den,xaJ,List.map_drop,List.map_take]
  ·cases h
 ·rename_i n ha hs
  have hc:=hc off (v.den E) (by simp [xaJ,h])
  simp [loadVar,xjb ha,hc,run_load]
 ·cases h
def Shr (E:Env) (objs:List Obj) (w:World) (rm:List Nat) (b:Nat):Prop :=
 w.heap.size≤b∨(∃ k∈rm,blkO (E k)=some b)∨(∃ o'∈objs,o'.own=false∧o'.key∉rm∧blkO (E o'.key)=some b)∨∃ o'∈objs,Inn E w o'.key o'.body b
def Fsh (E:Env) (objs:List Obj) (w:World) (rm:List Nat) (b:Nat):Prop :=
 w.heap.size≤b∨(∃ k∈rm,blkO (E k)=some b)∨∃ o'∈objs,Fr E w o' b
structure xeW (E:Env) (objs:List Obj) (w:World) (K:Nat) (x:Eff) (E':Env) (w':World):Prop where
 agree:∀ k,(k<K∨K+x.nk≤k)→E' k=E k
 env:∀ k,(E' k).oneCell'=true
 chg:Chg w w' (x.rm.filterMap fun k=>blkO (E k))
 bodies:∀ o∈x.add,xbm E' w' o.key o.own o.body
 own:∀ o∈x.add,o.own=true→∀ b,blkO (E' o.key)=some b→w.heap.size≤b∨∃ k∈x.rm,blkO (E k)=some b
 ro:∀ o∈x.add,o.own=false→∀ b,blkO (E' o.key)=some b→Shr E objs w x.rm b
 inj:∀ o∈x.add,∀ o'∈x.add,o.own=true→o.key≠o'.key→∀ b,blkO (E' o.key)=some b→blkO (E' o'.key)≠some b
 dp:∀ o∈x.add,∀ b,Inn E' w' o.key o.body b→Shr E objs w x.rm b
 dq:∀ o∈x.add,∀ b,Inn E' w' o.key o.body b→∀ o'∈x.add,o'.own=true→blkO (E' o'.key)≠some b
 df:∀ o∈x.add,∀ b,Fr E' w' o b→Fsh E objs w x.rm b
structure xdq (n:Nat) (objs:List Obj) (K:Nat) (x:Eff):Prop where
 rm:∀ k∈x.rm,∃ o∈objs,o.key=k∧o.own=true
 key:∀ o∈x.add,o.key∈x.rm∨(K≤o.key∧o.key<K+x.nk)
 uniq:∀ o∈x.add,∀ o'∈x.add,o.key=o'.key→o=o'
 all:∀ o∈x.add,xbn (fun k=>k<n∨k<K+x.nk) o.body
 val:AV.all (fun k=>k<n∨k<K+x.nk) x.v
 ver:∀ o∈x.add,K≤o.ver
def OpOk (P:Program) (E:Env) (objs:List Obj) (w:World) (K:Nat) (e:Operand→Value) (o:Oper) (x:Eff):Prop :=
 x.holds→∃ E' w' nx,(execOp e o).run P w=.ok nx w'∧(nx=.value (x.v.den E')∨(nx=.skip∧x.v.den E'=undef))∧xeW E objs w K x E' w'
theorem xjl {objs:List Obj} {K:Nat} (hE:∀ k,(E k).oneCell'=true) (p:Option Prop) (v:AV):xeW E objs w K ⟨p,[],0,[],v⟩ E w :=
 ⟨fun _ _=>rfl,hE,Chg.refl _ _,by simp,by simp,by simp,by simp,by simp,by simp,by simp⟩
theorem xjk {n K:Nat} {objs:List Obj} (p:Option Prop) {v:AV} (h:AV.all (fun k=>k<n∨k<K+0) v):xdq n objs K ⟨p,[],0,[],v⟩ :=
 ⟨by simp,by simp,by simp,by simp,h,by simp⟩
theorem xae.effAt {X:List (Nat×Go.Obj)} {l:List Obj} {n K:Nat} {x:Eff} {E':Env} {w':World} (h:xae X E w0 ⟨l,n⟩ w) (hw:xdq n l K x) (he:xeW E l w K x E' w')
  (hfr:∀ o∈l,(o.key<K∨K+x.nk≤o.key)∧xbn (fun k=>k<K∨K+x.nk≤k) o.body) {n':Nat} (hn:n≤n') (hn2:K+x.nk≤n'):xae X E' w0 ⟨xfu x l,n'⟩ w':=by
 have hrm:∀ g∈(x.rm.filterMap fun k=>blkO (E k)),∃ o∈l,o.own=true∧o.key∈x.rm∧blkO (E o.key)=some g:=by
  intro g hg
  obtain ⟨k,hk,hb⟩:=List.mem_filterMap.1 hg
  obtain ⟨o,ho,rfl,hown⟩:=hw.rm k hk
  exact ⟨o,ho,hown,hk,hb⟩
 have hsz:∀ o∈l,∀ b,blkO (E o.key)=some b→b<w.heap.size:=fun o ho b hg=>xiX (h.objs o ho) hg
 have hnb:∀ o∈l,o.key∉x.rm→∀ g,blkO (E o.key)=some g→w'.heap[g]?=w.heap[g]?:=by
  intro o ho hnr g hg
  refine he.chg.block g (hsz o ho g hg) fun hm=>?_
  obtain ⟨o',ho',hown',hk',hb'⟩:=hrm g hm
  exact h.inj o' ho' o ho hown' (fun e=>hnr (by rw [← e]; exact hk')) g hb' hg
 have hni:∀ o∈l,∀ g,Inn E w o.key o.body g→w'.heap[g]?=w.heap[g]?:=by
  intro o ho g hg
  refine he.chg.block g (xkZ (h.objs o ho) hg) fun hm=>?_
  obtain ⟨o',ho',hown',hk',hb'⟩:=hrm g hm
  exact h.deep o ho g hg o' ho' hown' hb'
 have hold:∀ o∈l,o.key∉x.rm→E' o.key=E o.key∧xbm E' w' o.key o.own o.body:=by
  intro o ho hnr
  obtain ⟨f1,f2⟩:=hfr o ho
  exact ⟨he.agree _ f1,(h.objs o ho).keep (he.agree _ f1) (xaY (fun k hk=>he.agree k hk) f2) (hnb o ho hnr) he.chg.size (hni o ho)⟩
 have hinn:∀ o∈l,o.key∉x.rm→∀ g,Inn E' w' o.key o.body g→Inn E w o.key o.body g:=fun o ho hnr g hg =>
  xgN (h.objs o ho) (he.agree _ (hfr o ho).1) (hnb o ho hnr) hg
 have mem:∀ o,o∈xfu x l→o∈x.add∨(o∈l∧o.key∉x.rm):=by
  intro o ho
  rcases List.mem_append.1 ho with ho | ho
  ·exact .inl ho
  ·obtain ⟨h1,h2⟩:=List.mem_filter.1 ho
   refine .inr ⟨h1,fun hm=>?_⟩
   rw [xkA.2 hm] at h2
   cases h2
 have hshr:∀ b,Shr E l w x.rm b→∀ o∈l,o.own=true→o.key∉x.rm→blkO (E o.key)≠some b:=by
  intro b hs o ho hown hnr hb
  rcases hs with h1 | ⟨k,hk,h1⟩ | ⟨o2,ho2,hr2,hn2,h1⟩ | ⟨o2,ho2,h1⟩
  ·have:=hsz o ho b hb; omega
  ·obtain ⟨o2,ho2,rfl,hown2⟩:=hw.rm k hk
   exact h.inj o ho o2 ho2 hown (fun e=>hnr (by rw [e]; exact hk)) b hb h1
  ·exact h.inj o ho o2 ho2 hown (fun e=>by
    have:=h.uniq o ho o2 ho2 e
    rw [← this,hown] at hr2
    cases hr2) b hb h1
  ·exact h.deep o2 ho2 b h1 o ho hown hb
 have hshx:∀ y∈X,¬ Shr E l w x.rm y.1:=by
  intro y hy hs
  obtain ⟨p1,p2⟩:=h.prot y hy
  have hyl:y.1<w.heap.size:=(Array.getElem?_eq_some_iff.1 p1).1
  rcases hs with h1 | ⟨k,hk,h1⟩ | ⟨o2,ho2,_,_,h1⟩ | ⟨o2,ho2,h1⟩
  ·omega
  ·obtain ⟨o2,ho2,rfl,hown2⟩:=hw.rm k hk
   exact p2 o2 ho2 h1
  ·exact p2 o2 ho2 h1
  ·exact h.protD y hy o2 ho2 h1
 refine ⟨Blw.chg h.below he.chg ?_,he.env,?_,?_,?_,?_,?_,?_,?_,?_,?_⟩
 ·intro g hg
  obtain ⟨o,ho,hown,_,hb⟩:=hrm g hg
  exact h.high o ho hown g hb
 ·intro o ho
  rcases mem o ho with ho | ⟨ho,hnr⟩
  ·exact he.bodies o ho
  ·exact (hold o ho hnr).2
 ·intro o ho hown b hb
  rcases mem o ho with ho | ⟨ho,hnr⟩
  ·rcases he.own o ho hown b hb with h1 | ⟨k,hk,h1⟩
   ·exact Nat.le_trans h.below.size h1
   ·obtain ⟨o',ho',rfl,hown'⟩:=hw.rm k hk
    exact h.high o' ho' hown' b h1
  ·rw [(hold o ho hnr).1] at hb
   exact h.high o ho hown b hb
 ·intro o ho o' ho' hown hne b hb hb'
  rcases mem o ho with ho | ⟨ho,hnr⟩<;>rcases mem o' ho' with ho' | ⟨ho',hnr'⟩
  ·exact he.inj o ho o' ho' hown hne b hb hb'
  ·rw [(hold o' ho' hnr').1] at hb'
   rcases he.own o ho hown b hb with h1 | ⟨k,hk,h1⟩
   ·have:=hsz o' ho' b hb'; omega
   ·obtain ⟨o2,ho2,rfl,hown2⟩:=hw.rm k hk
    exact h.inj o2 ho2 o' ho' hown2 (fun e=>hnr' (by rw [← e]; exact hk)) b h1 hb'
  ·rw [(hold o ho hnr).1] at hb
   have hbs:=hsz o ho b hb
   cases hown':o'.own with
   | true =>
    rcases he.own o' ho' hown' b hb' with h1 | ⟨k,hk,h1⟩
    ·omega
    ·obtain ⟨o2,ho2,rfl,hown2⟩:=hw.rm k hk
     exact h.inj o ho o2 ho2 hown (fun e=>hnr (by rw [e]; exact hk)) b hb h1
   | false=>exact hshr b (he.ro o' ho' hown' b hb') o ho hown hnr hb
  ·rw [(hold o ho hnr).1] at hb
   rw [(hold o' ho' hnr').1] at hb'
   exact h.inj o ho o' ho' hown hne b hb hb'
 ·intro o ho o' ho' hk
  rcases mem o ho with ho | ⟨ho,hnr⟩<;>rcases mem o' ho' with ho' | ⟨ho',hnr'⟩
  ·exact hw.uniq o ho o' ho' hk
  ·exfalso
   rcases hw.key o ho with h1 | h1
   ·exact hnr' (by rw [← hk]; exact h1)
   ·have:=(hfr o' ho').1; omega
  ·exfalso
   rcases hw.key o' ho' with h1 | h1
   ·exact hnr (by rw [hk]; exact h1)
   ·have:=(hfr o ho).1; omega
  ·exact h.uniq o ho o' ho' hk
 ·intro o ho
  rcases mem o ho with ho | ⟨ho,hnr⟩
  ·refine ⟨?_,xaY (fun k hk=>by show k<n'; rcases hk with hk | hk<;>omega) (hw.all o ho)⟩
   rcases hw.key o ho with h1 | h1
   ·obtain ⟨o2,ho2,e,_⟩:=hw.rm _ h1
    have:=(h.lt o2 ho2).1
    show o.key<n'
    rw [← e]
    exact Nat.lt_of_lt_of_le this hn
   ·show o.key<n'; omega
  ·exact ⟨Nat.lt_of_lt_of_le (h.lt o ho).1 hn,xaY (fun k hk=>Nat.lt_of_lt_of_le hk hn) (h.lt o ho).2⟩
 ·intro y hy
  obtain ⟨p1,p2⟩:=h.prot y hy
  have hyl:y.1<w.heap.size:=(Array.getElem?_eq_some_iff.1 p1).1
  refine ⟨?_,?_⟩
  ·rw [he.chg.block y.1 hyl fun hm=>?_]
   ·exact p1
   ·obtain ⟨o,ho,hown,_,hb⟩:=hrm _ hm
    exact p2 o ho hb
  ·intro o ho hb
   rcases mem o ho with ho | ⟨ho,hnr⟩
   ·cases hown:o.own with
    | true =>
     rcases he.own o ho hown _ hb with h1 | ⟨k,hk,h1⟩
     ·omega
     ·obtain ⟨o2,ho2,rfl,hown2⟩:=hw.rm k hk
      exact p2 o2 ho2 h1
    | false=>exact hshx y hy (he.ro o ho hown _ hb)
   ·rw [(hold o ho hnr).1] at hb
    exact p2 o ho hb
 ·intro o ho b hi o' ho' hown' hb'
  rcases mem o ho with ho | ⟨ho,hnr⟩<;>rcases mem o' ho' with ho' | ⟨ho',hnr'⟩
  ·exact he.dq o ho b hi o' ho' hown' hb'
  ·rw [(hold o' ho' hnr').1] at hb'
   exact hshr b (he.dp o ho b hi) o' ho' hown' hnr' hb'
  ·have hi:=hinn o ho hnr b hi
   rcases he.own o' ho' hown' b hb' with h1 | ⟨k,hk,h1⟩
   ·have:=xkZ (h.objs o ho) hi; omega
   ·obtain ⟨o2,ho2,rfl,hown2⟩:=hw.rm k hk
    exact h.deep o ho b hi o2 ho2 hown2 h1
  ·rw [(hold o' ho' hnr').1] at hb'
   exact h.deep o ho b (hinn o ho hnr b hi) o' ho' hown' hb'
 ·intro y hy o ho hi
  rcases mem o ho with ho | ⟨ho,hnr⟩
  ·exact hshx y hy (he.dp o ho _ hi)
  ·exact h.protD y hy o ho (hinn o ho hnr _ hi)
 ·intro o ho b hi
  rcases mem o ho with ho | ⟨ho,hnr⟩
  ·rcases he.df o ho b hi with h1 | ⟨k,hk,h1⟩ | ⟨o2,ho2,h1⟩
   ·exact Nat.le_trans h.below.size h1
   ·obtain ⟨o2,ho2,rfl,hown2⟩:=hw.rm k hk
    exact h.high o2 ho2 hown2 b h1
   ·exact h.fsh o2 ho2 b h1
  ·refine h.fsh o ho b ?_
   rcases hi with ⟨h1,h2⟩ | ⟨h1,h2⟩
   ·exact .inl ⟨h1,by rw [← (hold o ho hnr).1]; exact h2⟩
   ·exact .inr ⟨h1,hinn o ho hnr _ h2⟩
theorem xnS {d:Nat} {eq:TypeId→AV→AV→Option Bool} (heq:∀ t x y r,eq t x y=some r→∀ w,(Op.equalIn d t (x.den E) (y.den E)).run P w=.ok r w) (xs ys:List AV) :
  ∀ (fs:List Field) (r:Bool),eqFields P eq xs ys fs=some r→∀ w,(Op.eqFields d (AV.denL E xs).toArray (AV.denL E ys).toArray fs).run P w=.ok r w
 | [],r,h,w=>by cases h; rfl
 | f::fs,r,h,w=>by
  unfold eqFields at h
  split at h
  ·cases h
  ·rename_i hn
   split at h
   ·rename_i a b ha hb
    split at h
    ·rename_i u v hu hv
     cases h
     have ih:=xnS heq xs ys fs v hv w
     simp only [Op.eqFields,ne_eq,hn,not_false_eq_true,if_true,Sem.run_bind,xkK ha,xkK hb,Result.andThen_ok,heq _ _ _ _ hu]
     cases u
     ·simp
     ·simpa using ih
    ·cases h
   ·cases h
theorem xo3 {d:Nat} {eq:TypeId→AV→AV→Option Bool} (heq:∀ t x y r,eq t x y=some r→∀ w,(Op.equalIn d t (x.den E) (y.den E)).run P w=.ok r w) (t:TypeId) (c:Nat) (xs ys:List AV) :
  ∀ (is:List Nat) (r:Bool),eqItems P eq t c xs ys is=some r→∀ w,(Op.eqItems d t c (AV.denL E xs).toArray (AV.denL E ys).toArray is).run P w=.ok r w
 | [],r,h,w=>by cases h; rfl
 | i::is,r,h,w=>by
  unfold eqItems at h
  split at h
  ·rename_i a b ha hb
   split at h
   ·rename_i u v hu hv
    cases h
    have ih:=xo3 heq t c xs ys is v hv w
    simp only [Op.eqItems,Sem.run_bind,xkK ha,xkK hb,Result.andThen_ok,heq _ _ _ _ hu]
    cases u
    ·simp
    ·simpa using ih
   ·cases h
  ·cases h
theorem xmR:∀ (d:Nat) (t:TypeId) (x y:AV) (r:Bool),eqA P d t x y=some r→∀ (m:Nat) (w:World),(Op.equalIn (d+m) t (x.den E) (y.den E)).run P w=.ok r w
 | 0,t,x,y,r,h,_,_=>by cases h
 | d+1,t,x,y,r,h,m,w=>by
  have ih:∀ t x y r,eqA P d t x y=some r→∀ w,(Op.equalIn (d+m) t (x.den E) (y.den E)).run P w=.ok r w:=fun t x y r h w=>xmR d t x y r h m w
  have ed:d+1+m=(d+m)+1:=by omega
  rw [ed]
  unfold eqA at h
  split at h
  ·rename_i hu
   cases h
   simp [AV.den,Op.equalIn,run_underlying hu]
  ·rename_i hu
   split at h
   ·rename_i hk
    subst hk
    cases h
    simp [AV.den,Op.equalIn,run_underlying hu]
   ·cases h
  ·rename_i fs xs ys hu
   split at h
   ·rename_i hs
    have hf:P.fieldsOf t=fs:=by simp [Program.fieldsOf,hu]
    simp only [AV.den]
    rw [run_equalIn_struct w (d+m) t _ _ (by rw [hf]; exact hu) hs,hf]
    exact xnS ih xs ys fs.toList r h w
   ·cases h
  ·rename_i n te xs ys hu
   split at h
   ·rename_i i hi
    simp only [AV.den]
    rw [run_equalIn_array w (d+m) _ _ hu hi]
    have hc:P.cellsOf te=i.size:=by simp [Program.cellsOf,hi]
    rw [hc]
    exact xo3 ih te i.size xs ys (List.range n) r h w
   ·cases h
  ·cases h
theorem xwa {op:Int→Int→Int} {f:Value→Value→Sem Value} (hf:∀ k a b,f (.int k a) (.int k b)=pure (.int k (op a b))) (k:IntKind):∀ (l:List AV) (a:Int) (v:AV),mm op k a l=some v→∀ w,((AV.denL E l).foldlM f (.int k a)).run P w=.ok (v.den E) w
 | [],a,v,h,w=>by cases h; rfl
 | .int k' b::r,a,v,h,w=>by
  unfold mm at h
  split at h
  ·rename_i hk
   subst hk
   have ih:=xwa hf k r _ v h w
   simpa [AV.denL,AV.den,hf] using ih
  ·cases h
 | .bool _::_,_,_,h,_=>by simp [mm] at h
 | .ptr _ _::_,_,_,h,_=>by simp [mm] at h
 | .val _::_,_,_,h,_=>by simp [mm] at h
 | .fn _ _ _::_,_,_,h,_=>by simp [mm] at h
 | .agg _::_,_,_,h,_=>by simp [mm] at h
 | .tup _::_,_,_,h,_=>by simp [mm] at h
 | .sl _::_,_,_,h,_=>by simp [mm] at h
 | .ix _ _ _ _ _::_,_,_,h,_=>by simp [mm] at h
 | .vw _ _ _ _::_,_,_,h,_=>by simp [mm] at h
 | .yl _::_,_,_,h,_=>by simp [mm] at h
theorem xBL {op:Int→Int→Int} {k:IntKind}:∀ {l:List AV} {a:Int} {v:AV},mm op k a l=some v→∃ n,v=.int k n
 | [],a,v,h=>by cases h; exact ⟨_,rfl⟩
 | .int k' b::r,a,v,h=>by
  unfold mm at h
  split at h
  ·exact xBL h
  ·cases h
 | .bool _::_,_,_,h=>by simp [mm] at h
 | .ptr _ _::_,_,_,h=>by simp [mm] at h
 | .val _::_,_,_,h=>by simp [mm] at h
 | .fn _ _ _::_,_,_,h=>by simp [mm] at h
 | .agg _::_,_,_,h=>by simp [mm] at h
 | .tup _::_,_,_,h=>by simp [mm] at h
 | .sl _::_,_,_,h=>by simp [mm] at h
 | .ix _ _ _ _ _::_,_,_,h=>by simp [mm] at h
 | .vw _ _ _ _::_,_,_,h=>by simp [mm] at h
 | .yl _::_,_,_,h=>by simp [mm] at h
end
end Go.Sy
set_option linter.unusedVariables false
namespace Go.Sy
open Go.RowKit
section
variable {P:Program} {X:List (Nat×Go.Obj)} {E:Env} {w0 w:World} {objs:List Obj} {n K:Nat}
theorem xod {α:Type} {sz:Nat}:∀ (els:List (List α)) (i j:Nat) (el:List α),(∀ x∈els,x.length=sz)→els[i]?=some el→j<sz→els.flatten[i*sz+j]?=el[j]?
 | [],i,j,el,_,h,_=>by simp at h
 | a::r,0,j,el,hl,h,hj=>by
  simp only [List.getElem?_cons_zero,Option.some.injEq] at h
  subst h
  rw [List.flatten_cons,Nat.zero_mul,Nat.zero_add,List.getElem?_append_left (by rw [hl a (by simp)]; exact hj)]
 | a::r,i+1,j,el,hl,h,hj=>by
  have ih:=xod r i j el (fun x hx=>hl x (by simp [hx])) (by simpa using h) hj
  have ha:=hl a (by simp)
  rw [List.flatten_cons,List.getElem?_append_right (by rw [ha,Nat.add_mul,Nat.one_mul]; omega),ha]
  rw [show (i+1)*sz+j-sz=i*sz+j from by rw [Nat.add_mul,Nat.one_mul]; omega]
  exact ih
theorem xrC {t:TypeId} {own:Bool} {e:TypeId} {sz:Nat} {v:Value} {m:Nat} {vs:List Value} (hr:xa8 w own e sz v m vs) {i off:Nat} {cs:List AV} (hsz:cs.length=sz) (h0:sz≠0)
  (hc:∀ j,j<sz→vs[i*sz+j]?=(AV.denL E cs)[j]?) {u:AV} (hu:xi1 P t cs off=some u) :
  (Instr.loadAt t (.pointer ((xnL v).map fun a=>a.add (i*sz+off)))).run P w=.ok (u.den E) w:=by
 have hlen:(AV.denL E cs).length=sz:=by simp [xaJ,hsz]
 obtain ⟨u0,h1⟩:∃ u0,(AV.denL E cs)[0]?=some u0:=⟨_,List.getElem?_eq_getElem (by omega)⟩
 obtain ⟨a,ha,_⟩:=hr.reads.cell (i*sz+0) u0 (by rw [hc 0 (by omega)]; exact h1)
 have hcell:∀ j u,(AV.denL E cs)[j]?=some u→w.cell? ((a.add (i*sz)).add j)=some u:=by
  intro j u hj
  have hjl:j<sz:=by rw [← hlen]; exact (List.getElem?_eq_some_iff.1 hj).1
  obtain ⟨a',ha',hc'⟩:=hr.reads.cell (i*sz+j) u (by rw [hc j hjl]; exact hj)
  rw [ha] at ha'
  cases ha'
  rw [xlG]
  exact hc'
 have:=xoC (P:=P) (t:=t) (off:=off) hcell hu
 rw [xlG] at this
 simp [Instr.loadAt,ha,Instr.sureAddr,this]
theorem xyX (hH:xae X E w0 ⟨objs,n⟩ w) {t:TypeId} {v:AV} {x:Eff} (h:xAA P objs t v=some x) :
  ∃ p u,x=⟨p,[],0,[],u⟩∧AV.all (fun k=>k<n) u∧(x.holds→(Instr.loadAt t (v.den E)).run P w=.ok (u.den E) w):=by
 have rowload:∀ {key:Nat} {own:Bool} {b:Body} {e:TypeId} {ks:List CK} {l:List (List Int)} {sz:Nat} {kn:Bool} {i:Int} {off:Nat},xbm E w key own b→xes P b=some (e,ks,l) →
   (if ks.length=sz∧sz≠0 then (match xi1 P t (elA ks 0 (l.getD i.toNat [])) off with | some v=>chkE (inR i l) v | none=>none) else none)=some x →
   ∃ p u,x=⟨p,[],0,[],u⟩∧AV.all (fun k=>k<n) u∧(x.holds→(Instr.loadAt t ((AV.ix key sz kn i off).den E)).run P w=.ok (u.den E) w):=by
  intro key own b e ks l sz kn i off hb hr h
  split at h
  ·rename_i hsz
   obtain ⟨rfl,h0⟩:=hsz
   split at h
   ·rename_i u hu
    cases h
    refine ⟨_,u,rfl,xiC hu (xwJ _ _ _ _),fun hp=>?_⟩
    have hp:inR i l:=hp
    have hrow:=xbR hr hb
    have:=xrC (P:=P) (E:=E) (t:=t) hrow (i:=i.toNat) (off:=off) (cs:=elA ks 0 (l.getD i.toNat [])) (xvo _ _ _) h0 (fun j hj=>by
     rw [xwI]
     exact xna ks l i.toNat j hj (by have:=hp.1; have:=hp.2; omega)) hu
    simpa [AV.den] using this
   ·cases h
  ·cases h
 unfold xAA at h
 split at h
 ·rename_i key off
  split at h
  ·rename_i k0 ver own cs hf
   split at h
   ·rename_i u hu
    cases h
    obtain ⟨hm,hk⟩:=xan hf
    obtain ⟨b,T,h1,h2⟩:=hH.objs _ hm
    have hk:k0=key:=hk
    subst hk
    have h1:E k0=.pointer (some ⟨b,0,none⟩):=h1
    refine ⟨_,u,rfl,xiC hu (hH.lt _ hm).2,fun _=>?_⟩
    have:=xqi (P:=P) h2 hu
    simp [AV.den,h1,blk,Instr.loadAt,Instr.sureAddr,this]
   ·cases h
  ·cases h
 ·rename_i key sz kn i off
  split at h
  ·rename_i k0 ver own e sz' els hf
   obtain ⟨hm,hk⟩:=xan hf
   have hk:k0=key:=hk
   subst hk
   have hb:=hH.objs _ hm
   split at h
   ·split at h
    ·rename_i el hel
     split at h
     ·rename_i hc
      obtain ⟨rfl,h0⟩:=hc
      split at h
      ·rename_i u hu
       cases h
       obtain ⟨hr,hls,_⟩:=hb
       have hls:∀ el∈els,el.length=sz':=hls
       have hmem:el∈els:=List.mem_of_getElem? hel
       refine ⟨_,u,rfl,xiC hu ?_,fun _=>?_⟩
       ·have:=(hH.lt _ hm).2
        have this:AV.allL (fun k=>k<n) els.flatten:=this
        rw [xe9] at this ⊢
        exact fun a ha=>this a (List.mem_flatten.2 ⟨el,hmem,ha⟩)
       ·have:=xrC (P:=P) (E:=E) (t:=t) hr (i:=i.toNat) (off:=off) (cs:=el) (hls el hmem) h0 (fun j hj=>by
         rw [xaJ,xaJ,List.getElem?_map,List.getElem?_map,xod els i.toNat j el hls hel hj]) hu
        simpa [AV.den] using this
      ·cases h
     ·cases h
    ·cases h
   ·split at h
    ·rename_i e' ks l hr
     exact rowload hb hr h
    ·cases h
  ·rename_i k0 ver own e ks l hf
   obtain ⟨hm,hk⟩:=xan hf
   have hk:k0=key:=hk
   subst hk
   exact rowload (hH.objs _ hm) (b:=.row e ks l) rfl h
  ·rename_i k0 ver own e ks l hf
   obtain ⟨hm,hk⟩:=xan hf
   have hk:k0=key:=hk
   subst hk
   exact rowload (hH.objs _ hm) (b:=.sub e ks l) rfl h
  ·cases h
 ·cases h
theorem xrs {α:Type} (c vs:List α) (A N:Nat) (h1:A+vs.length≤N) (h2:N≤c.length):(c.take A++vs++c.drop (A+vs.length)).take N=(c.take N).take A++vs++(c.take N).drop (A+vs.length):=by
 have hA:(c.take A).length=A:=by simp; omega
 rw [List.append_assoc,List.take_append,List.take_append,hA,List.take_take,Nat.min_eq_right (by omega),List.take_take,Nat.min_eq_left (by omega),List.take_of_length_le (by omega:vs.length≤N-A),List.append_assoc,List.drop_take]
 congr 3
 omega
theorem xk6 (hE:∀ k,(E k).oneCell'=true) {key:Nat} {b:Body} {p:Option Prop} {v:AV} {w':World}
  (hb:xbm E w' key true b) (hc:∃ g,blkO (E key)=some g∧Chg w w' [g]∨Chg w w' []) (hf:xq5 b=true:=by rfl):xeW E objs w K ⟨p,[key],0,[⟨key,K,true,b⟩],v⟩ E w':=by
 refine ⟨fun _ _=>rfl,hE,?_,?_,?_,?_,?_,?_,?_,?_⟩
 ·obtain ⟨g,⟨h1,h2⟩ | h2⟩:=hc
  ·simpa [h1] using h2
  ·exact ⟨h2.drawn,h2.os,h2.tape,h2.output,h2.size,fun k hk _=>h2.block k hk (by simp)⟩
 ·intro o ho; simp at ho; subst ho; exact hb
 ·intro o ho _ g hg; simp at ho; subst ho; exact .inr ⟨key,by simp,hg⟩
 ·intro o ho hf; simp at ho; subst ho; cases hf
 ·intro o ho o' ho' _ hne; simp at ho ho'; subst ho; subst ho'; exact absurd rfl hne
 ·intro o ho g hg; simp at ho; subst ho; exact xcC hf hg
 ·intro o ho g hg; simp at ho; subst ho; exact xcC hf hg
 ·intro o ho g hg; simp at ho; subst ho; exact xmK hf hg
theorem xmS {key:Nat} {b:Body} {p:Option Prop} {v:AV} (ho:∃ o∈objs,o.key=key∧o.own=true) (hb:xbn (fun k=>k<n) b) (hv:AV.all (fun k=>k<n) v):xdq n objs K ⟨p,[key],0,[⟨key,K,true,b⟩],v⟩:=by
 refine ⟨?_,?_,?_,?_,xeT (fun k hk=>.inl hk) v hv,?_⟩
 ·intro k hk; simp at hk; subst hk; exact ho
 ·intro o ho; simp at ho; subst ho; simp
 ·intro o ho o' ho' _; simp at ho ho'; subst ho; subst ho'; rfl
 ·intro o ho; simp at ho; subst ho; exact xaY (fun k hk=>.inl hk) hb
 ·intro o ho; simp at ho; subst ho; exact Nat.le_refl _
theorem xjn (w:World) (g:Nat) (cs:Array Value):Chg w (w.setRow g cs) [g] :=
 ⟨Nat.le_of_eq (by simp),rfl,rfl,rfl,by simp [World.setRow],fun k _ hk=>by
  simp only [World.setRow,Array.getElem?_modify]
  rw [if_neg (by simp at hk; omega)]⟩
theorem xv5 {ks:List CK} {v:AV} {ns:List Int} (h:xpf ks v.cells=some ns):v.plainCells=true:=by
 cases v with
 | val x =>
  cases x with
  | agg cs =>
   exfalso
   cases ks with
   | nil=>cases h
   | cons k ks =>
    simp only [AV.cells,xpf] at h
    cases k<;>simp [xA0] at h
  | _=>rfl
 | _=>rfl
theorem xw4 (hH:xae X E w0 ⟨objs,n⟩ w) {t:TypeId} {a v:AV} {x:Eff} (hv:AV.all (fun k=>k<n) v) (h:xru P objs K t v a=some x) :
  xdq n objs K x∧x.v=.val undef∧(x.holds→∃ w',(Instr.storeAt t (a.den E) (v.den E)).run P w=.ok () w'∧xeW E objs w K x E w'):=by
 unfold xru at h
 split at h
 ·rename_i key off
  split at h
  ·rename_i k0 ver cs m hf hs
   split at h
   ·rename_i hc
    obtain ⟨h1,h2,h3⟩:=hc
    cases h
    obtain ⟨hm,hk⟩:=xan hf
    have hk:k0=key:=hk
    subst hk
    obtain ⟨g,T,hg,hT⟩:=hH.objs _ hm
    have hg:E k0=.pointer (some ⟨g,0,none⟩):=hg
    have hpl:=xqU h3
    refine ⟨xmS ⟨_,hm,rfl,rfl⟩ (xqH (hH.lt _ hm).2 (xlc hv)) trivial,rfl,fun _=>?_⟩
    have hst:=run_storeCells_at P g off T (AV.denL E v.cells) 0 (AV.denL E cs).toArray w hT (by simp [xaJ]; omega) (by
     intro u hu
     rw [xaJ] at hu
     obtain ⟨c,hc,rfl⟩:=List.mem_map.1 hu
     exact xu2 (List.all_eq_true.1 h3 c hc) hH.env)
    refine ⟨_,?_,xk6 hH.env (w':=w.setRow g (AV.denL E (xn2 cs off v.cells)).toArray) ?_ ⟨g,.inl ⟨by rw [hg]; rfl,xjn _ _ _⟩⟩⟩
    ·have hsz:(AV.denL E v.cells).toArray.size=m:=by simp [xaJ,h1]
     simp only [AV.den,hg,blk,Instr.storeAt,Instr.sureAddr,storeVar,Sem.run_bind,Sem.run_pure,Result.andThen_ok,xcm hs,xhc hpl hH.env]
     rw [if_neg (by simp [hsz])]
     simp only [hst]
     simp [xn2,xaJ]
    ·exact ⟨g,T,hg,setRow_heap w g _ _ T _ hT⟩
   ·cases h
  ·cases h
 ·rename_i key sz kn i off
  split at h
  ·rename_i k0 ver b m hf hs
   split at h
   ·rename_i e ks l hr
    split at h
    ·rename_i ns hns
     split at h
     ·rename_i hc
      obtain ⟨rfl,h0,h1,h2⟩:=hc
      cases h
      obtain ⟨hm,hk⟩:=xan hf
      have hk:k0=key:=hk
      subst hk
      have hrow:=xbR hr (hH.objs _ hm)
      have hrow:xa8 w true e ks.length (E k0) l.length (rowV ks l):=hrow
      refine ⟨xmS ⟨_,hm,rfl,rfl⟩ xb4 trivial,rfl,fun hp=>?_⟩
      have hp:inR i l:=hp
      have hi:i.toNat<l.length:=by have:=hp.1; have:=hp.2; omega
      obtain ⟨hnl1,hnl2⟩:=xmY hns
      have hnl:ns.length=m:=by rw [← h2,hnl1,hnl2]
      have hden:AV.denL E v.cells=elV ((ks.drop off).take ns.length) 0 ns:=by
       have:=xjU E [] hns
       rw [hnl]
       simpa using this
      have hvl:(AV.denL E v.cells).length=m:=by rw [xaJ,List.length_map,h2]
      have hposl:0<l.length*ks.length:=Nat.mul_pos (by omega) (by omega)
      have hstep:i.toNat*ks.length+off+m≤l.length*ks.length:=by
       have:=Nat.mul_le_mul_right ks.length (show i.toNat+1≤l.length from hi)
       rw [Nat.add_mul,Nat.one_mul] at this
       omega
      rcases hrow.own rfl with ⟨a,ha,hn⟩ | ⟨g,cap,cur,hE,hg,hcap,hmax,hcs,htk⟩
      ·omega
      ·have hcur:(cur.toList.take (l.length*ks.length))=rowV ks l:=htk
       have hcl:l.length*ks.length≤cur.size:=by rw [hcs]; exact Nat.mul_le_mul_right _ hcap
       have hst:=run_storeCells_at P g (i.toNat*ks.length+off) e (AV.denL E v.cells) 0 cur w hg (by rw [hvl]; omega) (by
        intro u hu; rw [hden] at hu; exact xy9 _ _ _ u hu)
       simp only [Nat.add_zero] at hst
       have hset:=xDd (ks:=ks) (l:=l) (i:=i.toNat) (off:=off) (ns:=ns) hi (by omega) hden
       have hcap0:cap≠0:=fun e0=>by subst e0; simp at hcap; rw [hcap] at hi; simp at hi
       have hdl:(rowV ks l).length=l.length*ks.length:=xbu ks l
       have htake:(cur.toList.take (i.toNat*ks.length+off)++AV.denL E v.cells++cur.toList.drop (i.toNat*ks.length+off+(AV.denL E v.cells).length)).take (l.length*ks.length)=rowV ks (l.set i.toNat (xuu ks.length (l.getD i.toNat []) off ns)):=by
        rw [hset,← hcur]
        exact xrs cur.toList (AV.denL E v.cells) _ _ (by omega) (by simpa using hcl)
       refine ⟨_,?_,xk6 hH.env (w':=w.setRow g (cur.toList.take (i.toNat*ks.length+off)++AV.denL E v.cells++cur.toList.drop (i.toNat*ks.length+off+(AV.denL E v.cells).length)).toArray) ?_ ⟨g,.inl ⟨by rw [hE]; simp [blkO,hcap0],xjn _ _ _⟩⟩⟩
       ·have hsz:(AV.denL E v.cells).toArray.size=m:=by simp [hvl]
        simp only [AV.den,hE,xnL,Option.map_some,Instr.storeAt,Instr.sureAddr,storeVar,Sem.run_bind,Sem.run_pure,Result.andThen_ok,xcm hs,xhc (xv5 hns) hH.env]
        rw [if_neg (by simp [hsz])]
        simp only [xik,Nat.zero_add]
        exact hst
       ·have hnew:=setRow_heap w g cur (cur.toList.take (i.toNat*ks.length+off)++AV.denL E v.cells++cur.toList.drop (i.toNat*ks.length+off+(AV.denL E v.cells).length)).toArray e _ hg
        show xa8 _ true e ks.length (E k0) _ _
        rw [List.length_set]
        refine ⟨⟨⟨_,_,hE,hcap,hmax⟩,?_,?_⟩,by rw [xbu,List.length_set],fun _=>.inr ⟨g,cap,_,hE,hnew,hcap,hmax,?_,by simpa using htake⟩⟩
        ·intro j u hj
         refine ⟨⟨g,0,none⟩,by rw [hE]; rfl,?_⟩
         rw [xik,Nat.zero_add]
         rw [← htake,List.getElem?_take] at hj
         split at hj
         ·simp only [World.cell?,hnew]
          simpa using hj
         ·cases hj
        ·intro b hb
         rw [hE] at hb
         simp [blkO,hcap0] at hb
         subst hb
         exact (Array.getElem?_eq_some_iff.1 hnew).1
        ·simp only [List.size_toArray,List.length_append,List.length_take,List.length_drop,Array.length_toList,hvl]
         omega
     ·cases h
    ·cases h
   ·cases h
  ·cases h
 ·cases h
end
end Go.Sy
set_option linter.unusedVariables false
namespace Go.Sy
open Go.RowKit
section
variable {P:Program} {X:List (Nat×Go.Obj)} {E:Env} {w0 w:World} {objs:List Obj} {n K:Nat} {ρ:Operand→Option AV} {e:Operand→Value}
theorem xri {i:AV} {m:Int} (h:intA i=some m) (E:Env):∃ k,i.den E=.int k m:=by
 unfold intA at h
 split at h
 ·cases h; exact ⟨_,rfl⟩
 ·cases h; exact ⟨_,rfl⟩
 ·cases h
theorem xjx {t te:TypeId} (hu:P.underlying t=some (.slice te)) {s:Nat} (hs:xjY P te=some (s+1)) {own:Bool} {e':TypeId} {v:Value} {m:Nat} {vs:List Value} (hr:xa8 w own e' (s+1) v m vs)
  {k:IntKind} {i:Int} (h0:0≤i) (h1:i<(m:Int)):(Instr.indexAt t v (.int k i)).run P w=.ok (.pointer ((xnL v).map fun a=>a.add (i.toNat*(s+1)+0))) w:=by
 obtain ⟨a,c,hv,hmc,_⟩:=hr.reads.is
 have hlen:0<vs.length:=by rw [hr.len]; exact Nat.mul_pos (by omega) (by omega)
 obtain ⟨a0,ha,_⟩:=hr.reads.cell 0 vs[0] (List.getElem?_eq_getElem hlen)
 rw [hv] at ha
 have ha:a=some a0:=ha
 subst ha
 subst hv
 simp only [Instr.indexAt,asIntOf,Sem.run_bind,Sem.run_pure,Result.andThen_ok,run_underlying hu]
 rw [if_pos ⟨h0,h1⟩]
 simp [xcm hs,xnL]
theorem xuv {t te:TypeId} (hu:P.underlying t=some (.slice te)) {s:Nat} (hs:xjY P te=some (s+1)) {own:Bool} {e':TypeId} {ks:List CK} {key:Nat} {l:List (List Int)} (hr:xa8 w own e' ks.length (E key) l.length (rowV ks l))
  {sz:Nat} (hks:ks.length=s+1) (hsz:sz=s+1) {lo:Option Int} {hi:Int} {k:IntKind} {i:Int} (hp:inV i lo hi l):(Instr.indexAt t ((AV.vw key sz lo hi).den E) (.int k i)).run P w=.ok ((AV.ix key (s+1) false (shI lo i) 0).den E) w:=by
 obtain ⟨h0,h1,h2⟩:=hp
 obtain ⟨a,c,hv,hmc,_⟩:=hr.reads.is
 subst hsz
 have hn:0<l.length:=by omega
 have hlen:0<(rowV ks l).length:=by rw [hr.len,hks]; exact Nat.mul_pos hn (by omega)
 obtain ⟨a0,ha,_⟩:=hr.reads.cell 0 (rowV ks l)[0] (List.getElem?_eq_getElem hlen)
 rw [hv] at ha
 have ha:a=some a0:=ha
 subst ha
 have hne:¬ c=loN lo:=by omega
 simp only [AV.den,xfE,hv,sliced,if_neg hne,Option.map_some,xnL]
 simp only [Instr.indexAt,asIntOf,Sem.run_bind,Sem.run_pure,Result.andThen_ok,run_underlying hu]
 rw [if_pos ⟨h0,by omega⟩]
 simp only [xcm hs,Result.andThen_ok,Sem.run_pure,Sem.run_bind,xlG]
 have hsh:(shI lo i).toNat=loN lo+i.toNat:=by
  unfold shI
  cases lo with
  | none=>simp [loN]
  | some x=>simp only [loN]; omega
 rw [hsh,Nat.add_mul]
 rfl
theorem xq3 (hH:xae X E w0 ⟨objs,n⟩ w) {t:TypeId} {a i:AV} {x:Eff} (ha:AV.all (fun k=>k<n) a) (h:xjh P objs t a i=some x) :
  ∃ p u,x=⟨p,[],0,[],u⟩∧AV.all (fun k=>k<n) u∧(x.holds→(Instr.indexAt t (a.den E) (i.den E)).run P w=.ok (u.den E) w):=by
 unfold xjh at h
 split at h
 ·rename_i len te hu
  split at h
  ·rename_i key off k m sz hsz
   split at h
   ·rename_i hb
    cases h
    refine ⟨_,_,rfl,ha,fun _=>?_⟩
    simp only [Instr.indexAt,AV.den,asIntOf,Instr.sureAddr,Sem.run_bind,Sem.run_pure,Result.andThen_ok,run_underlying hu,if_pos hb,xcm hsz,xik]
   ·cases h
  ·cases h
 ·rename_i te hu
  split at h
  ·rename_i key m s hi hsz
   obtain ⟨k,hk⟩:=xri hi E
   split at h
   ·rename_i k0 ver own e' sz els hf
    obtain ⟨hm,hkk⟩:=xan hf
    have hkk:k0=key:=hkk
    subst hkk
    have hb:=hH.objs _ hm
    split at h
    ·rename_i hs1
     subst hs1
     split at h
     ·split at h
      ·rename_i hin
       cases h
       refine ⟨_,_,rfl,ha,fun _=>?_⟩
       obtain ⟨hr,_,_⟩:=hb
       rw [hk]
       exact xjx hu hsz hr hin.1 hin.2
      ·cases h
     ·split at h
      ·rename_i e2 ks l hr
       cases h
       refine ⟨_,_,rfl,ha,fun hp=>?_⟩
       have hp:inR m l:=hp
       obtain ⟨hr2,_,_⟩:=hb
       have hl:l.length=els.length:=by
        simp only [xes] at hr
        cases hks:xq0 P 9 e' with
        | none=>rw [hks] at hr; cases hr
        | some ks' =>
         rw [hks] at hr
         simp only [] at hr
         split at hr
         ·cases hc:xyi ks' els with
          | none=>rw [hc] at hr; cases hr
          | some l'=>rw [hc] at hr; cases hr; exact (xpe E hc).2
         ·cases hr
       rw [hk]
       exact xjx hu hsz hr2 hp.1 (by rw [← hl]; exact hp.2)
      ·cases h
    ·cases h
   ·rename_i k0 ver own e' ks l hf
    obtain ⟨hm,hkk⟩:=xan hf
    have hkk:k0=key:=hkk
    subst hkk
    have hb:=hH.objs _ hm
    split at h
    ·rename_i hs1
     cases h
     refine ⟨_,_,rfl,ha,fun hp=>?_⟩
     have hp:inR m l:=hp
     have hr:xa8 w own e' ks.length (E k0) l.length (rowV ks l):=hb
     rw [hs1] at hr
     rw [hk]
     exact xjx hu hsz hr hp.1 hp.2
    ·cases h
   ·rename_i k0 ver own e' ks l hf
    obtain ⟨hm,hkk⟩:=xan hf
    have hkk:k0=key:=hkk
    subst hkk
    have hb:=hH.objs _ hm
    split at h
    ·rename_i hs1
     cases h
     refine ⟨_,_,rfl,ha,fun hp=>?_⟩
     have hp:inR m l:=hp
     have hr:xa8 w own e' ks.length (E k0) l.length (rowV ks l):=hb.2
     rw [hs1] at hr
     rw [hk]
     exact xjx hu hsz hr hp.1 hp.2
    ·cases h
   ·rename_i k0 ver own e' ks l hf
    obtain ⟨hm,hkk⟩:=xan hf
    have hkk:k0=key:=hkk
    subst hkk
    have hb:=hH.objs _ hm
    split at h
    ·rename_i hs1
     cases h
     refine ⟨_,_,rfl,ha,fun hp=>?_⟩
     have hp:inR m l:=hp
     obtain ⟨vs,hb⟩:=hb
     have hr:xa8 w own e' ks.length (E k0) l.length vs:=hb.row
     rw [hs1] at hr
     rw [hk]
     exact xjx hu hsz hr hp.1 hp.2
    ·cases h
   ·cases h
  ·rename_i key sz lo hi m s hi' hsz
   obtain ⟨k,hk⟩:=xri hi' E
   split at h
   ·rename_i o hf
    obtain ⟨hm,hkk⟩:=xan hf
    subst hkk
    split at h
    ·rename_i e2 ks l hr
     split at h
     ·rename_i hc
      cases h
      refine ⟨_,_,rfl,ha,fun hp=>?_⟩
      have hp:inV m lo hi l:=hp
      have hrow:=xbR hr (hH.objs _ hm)
      rw [hk]
      exact xuv hu hsz hrow hc.1 hc.2 hp
     ·cases h
    ·cases h
   ·cases h
  ·cases h
 ·cases h
theorem xk7 (hE:∀ k,(E k).oneCell'=true) {b:Body} {p:Option Prop} {u:Value} {w':World} (hu:u.oneCell'=true)
  (hb:xbm (fun k=>if k=K then u else E k) w' K true b) (hc:Blw w.heap.size w w') (hblk:∀ g,blkO u=some g→w.heap.size≤g) (v:AV) (hf:xq5 b=true:=by rfl):xeW E objs w K ⟨p,[],1,[⟨K,K,true,b⟩],v⟩ (fun k=>if k=K then u else E k) w':=by
 refine ⟨fun k hk=>if_neg (by simp at hk; omega),fun k=>?_,Chg.of_below hc _,?_,?_,?_,?_,?_,?_,?_⟩
 ·by_cases hk:k=K
  ·simp [hk,hu]
  ·simp [hk,hE k]
 ·intro o ho; simp at ho; subst ho; exact hb
 ·intro o ho _ g hg; simp at ho; subst ho; simp at hg; exact .inl (hblk g hg)
 ·intro o ho hf; simp at ho; subst ho; cases hf
 ·intro o ho o' ho' _ hne; simp at ho ho'; subst ho; subst ho'; exact absurd rfl hne
 ·intro o ho g hg; simp at ho; subst ho; exact xcC hf hg
 ·intro o ho g hg; simp at ho; subst ho; exact xcC hf hg
 ·intro o ho g hg; simp at ho; subst ho; exact xmK hf hg
theorem xjJ {b:Body} {p:Option Prop} {v:AV} (hb:xbn (fun k=>k<n) b) (hv:AV.all (fun k=>k<K+1) v):xdq n objs K ⟨p,[],1,[⟨K,K,true,b⟩],v⟩:=by
 refine ⟨by simp,?_,?_,?_,xeT (fun k hk=>.inr hk) v hv,?_⟩
 ·intro o ho; simp at ho; subst ho; exact .inr ⟨Nat.le_refl _,Nat.lt_succ_self _⟩
 ·intro o ho o' ho' _; simp at ho ho'; subst ho; subst ho'; rfl
 ·intro o ho; simp at ho; subst ho; exact xaY (fun k hk=>.inl hk) hb
 ·intro o ho; simp at ho; subst ho; exact Nat.le_refl _
theorem xbb (w:World) (o:Go.Obj):(w.alloc o).heap[w.heap.size]?=some o:=by
 show (w.heap.push o)[w.heap.size]?=some o
 simp
theorem xbo (w:World) (o:Go.Obj):Blw w.heap.size w (w.alloc o):=(Blw.refl _ _).alloc (Nat.le_refl _) _
theorem xz0 (hE:∀ k,(E k).oneCell'=true) (hρ:∀ x v,ρ x=some v→e x=v.den E) {sz:Nat}:∀ (parts:List (Nat×Operand)) (j:Nat) (els:List (List AV)) (arr:Array Value),xiJ ρ sz j parts=some els→(j+els.length)*sz≤arr.size →
  Instr.fill (fun i=>some (i*sz,sz)) arr (parts.map fun p=>(p.1,e p.2))=some (arr.toList.take (j*sz)++AV.denL E els.flatten++arr.toList.drop ((j+els.length)*sz)).toArray
 | [],j,els,arr,h,_=>by
  cases h
  simp [Instr.fill,AV.denL]
 | (i,x)::r,j,els,arr,h,hsz=>by
  unfold xiJ at h
  split at h
  ·rename_i hij
   subst hij
   split at h
   ·rename_i v hv
    split at h
    ·rename_i hc
     obtain ⟨h1,h2,h3⟩:=hc
     split at h
     ·rename_i els' hels
      cases h
      have hvc:(v.den E).cells=(AV.denL E v.cells).toArray:=xhc h1 hE
      have hvl:(AV.denL E v.cells).length=sz:=by rw [xaJ,List.length_map,h2]
      have hsz':(i+1+els'.length)*sz≤arr.size:=by simpa [Nat.add_comm,Nat.add_left_comm] using hsz
      have hsz1:i*sz+sz≤arr.size:=by
       have:(i+1)*sz≤(i+1+els'.length)*sz:=Nat.mul_le_mul_right _ (by omega)
       rw [Nat.add_mul,Nat.one_mul] at this
       omega
      simp only [List.map_cons,Instr.fill,hρ x v hv,hvc]
      rw [if_neg (by simp [hvl]; omega)]
      have hf:=xse (i*sz) (AV.denL E v.cells) 0 arr (by omega)
      simp only [Nat.add_zero] at hf
      have e2:((AV.denL E v.cells).toArray.zipIdx.foldl (fun (cs:Array Value) x=>match x with | (c,j)=>cs.setIfInBounds (i*sz+j) c) arr).toList=arr.toList.take (i*sz)++AV.denL E v.cells++arr.toList.drop (i*sz+(AV.denL E v.cells).length):=by
       rw [← Array.foldl_toList,Array.toList_zipIdx]
       exact hf
      have ih:=xz0 hE hρ r (i+1) els' ((AV.denL E v.cells).toArray.zipIdx.foldl (fun (cs:Array Value) x=>match x with | (c,j)=>cs.setIfInBounds (i*sz+j) c) arr) hels (by
       rw [← Array.length_toList,e2]; simp [hvl]; omega)
      refine ih.trans ?_
      rw [e2,hvl]
      have hA:(arr.toList.take (i*sz)).length=i*sz:=by simp; omega
      congr 2
      have hmul:(i+1)*sz=i*sz+sz:=by rw [Nat.add_mul,Nat.one_mul]
      have hmul2:(i+1+els'.length)*sz=i*sz+sz+els'.length*sz:=by rw [Nat.add_mul,hmul]
      have hmul3:(i+(v.cells::els').length)*sz=i*sz+sz+els'.length*sz:=by rw [← hmul2]; simp [Nat.add_comm,Nat.add_left_comm]
      rw [hmul,hmul2,hmul3,List.flatten_cons]
      rw [xaJ,xaJ,xaJ,List.map_append,← xaJ,← xaJ]
      have t1:(arr.toList.take (i*sz)++AV.denL E v.cells++arr.toList.drop (i*sz+sz)).take (i*sz+sz)=arr.toList.take (i*sz)++AV.denL E v.cells:=by
       rw [List.take_append_of_le_length (by simp [hvl]; omega)]
       exact List.take_of_length_le (by simp [hvl]; omega)
      have t2:(arr.toList.take (i*sz)++AV.denL E v.cells++arr.toList.drop (i*sz+sz)).drop (i*sz+sz+els'.length*sz)=arr.toList.drop (i*sz+sz+els'.length*sz):=by
       rw [List.drop_append,List.drop_drop]
       rw [List.drop_of_length_le (by simp [hvl]; omega),List.nil_append]
       congr 1
       simp [hvl]
       omega
      rw [t1,t2]
      simp
     ·cases h
    ·cases h
   ·cases h
  ·cases h
theorem xqj {sz:Nat} {Q:AV→Prop} (hρ:∀ x v,ρ x=some v→Q v):∀ (parts:List (Nat×Operand)) (j:Nat) (els:List (List AV)),xiJ ρ sz j parts=some els→(∀ el∈els,el.length=sz)∧els.flatten.all AV.scalar=true∧(∀ el∈els,∃ v,Q v∧el=v.cells)
 | [],j,els,h=>by cases h; simp
 | (i,x)::r,j,els,h=>by
  unfold xiJ at h
  split at h
  ·split at h
   ·rename_i v hv
    split at h
    ·rename_i hc
     split at h
     ·rename_i els' hels
      cases h
      obtain ⟨a,b,c⟩:=xqj hρ r (j+1) els' hels
      refine ⟨fun el hel=>?_,?_,fun el hel=>?_⟩
      ·rcases List.mem_cons.1 hel with rfl | hel
       ·exact hc.2.1
       ·exact a el hel
      ·rw [List.flatten_cons,List.all_append,hc.2.2,b]; rfl
      ·rcases List.mem_cons.1 hel with rfl | hel
       ·exact ⟨v,hρ x v hv,rfl⟩
       ·exact c el hel
     ·cases h
    ·cases h
   ·cases h
  ·cases h
theorem xp8 (hH:xae X E w0 ⟨objs,n⟩ w) (hρ:∀ x v,ρ x=some v→e x=v.den E∧AV.lt K v) (hKn:K≤n) {t:TypeId} {len:Nat} {parts:Array (Nat×Operand)} {x:Eff} (h:xdQ P ρ K t len parts.toList=some x) :
  xdq n objs K x∧∃ E' w',(Instr.buildSlice t len (parts.map fun (i,x)=>(i,e x))).run P w=.ok (x.v.den E') w'∧xeW E objs w K x E' w':=by
 unfold xdQ at h
 split at h
 ·rename_i te hu
  split at h
  ·rename_i s z hs hz
   split at h
   ·rename_i els hels
    split at h
    ·rename_i hc
     obtain ⟨rfl,hzl,hzp,h24⟩:=hc
     cases h
     obtain ⟨r1,r2,r3⟩:=xqj (Q:=AV.lt K) (fun x v hx=>(hρ x v hx).2) _ _ _ hels
     have hall:AV.allL (fun k=>k<K) els.flatten:=by
      rw [xe9]
      intro a ha
      obtain ⟨el,hel,hae⟩:=List.mem_flatten.1 ha
      obtain ⟨v,hv,rfl⟩:=r3 el hel
      exact (xe9 _ _).1 (xlc hv) a hae
     refine ⟨xjJ (xlF (fun k hk=>Nat.lt_of_lt_of_le hk hKn) _ hall) (Nat.lt_succ_self K),?_⟩
     let u:Value:=.slice (some ⟨w.heap.size,0,none⟩) els.length els.length
     have hdl:(AV.denL E els.flatten).length=els.length*(s+1):=by
      rw [xaJ,List.length_map]
      clear hels r2 r3 hall h24
      induction els with
      | nil=>simp
      | cons a r ih =>
       rw [List.flatten_cons,List.length_append,ih (fun el hel=>r1 el (by simp [hel])),r1 a (by simp),List.length_cons,Nat.add_mul,Nat.one_mul,Nat.add_comm]
     refine ⟨fun k=>if k=K then u else E k,w.alloc (.cells (AV.denL E els.flatten).toArray te),?_,xk7 hH.env rfl ?_ (xbo _ _) ?_ _⟩
     ·have hmap:(parts.map fun (i,x)=>(i,e x)).toList=parts.toList.map fun p=>(p.1,e p.2):=by simp
      have hzr:=xmf (P:=P) hz E w
      have hzc:(z.den E).cells.size=s+1:=by rw [xhc hzp hH.env]; simp [xaJ,hzl]
      have h24':¬ (els.length*(s+1)>2 ^ 24):=by omega
      simp only [Instr.buildSlice,Sem.run_bind,run_underlying hu,Result.andThen_ok,xcm hs,Nat.succ_eq_add_one,if_neg h24']
      by_cases h0:els.length*(s+1)=0
      ·have e0:els=[]:=by
        rcases Nat.mul_eq_zero.1 h0 with h1 | h1
        ·exact List.eq_nil_of_length_eq_zero h1
        ·omega
       subst e0
       have hp:parts=#[]:=by
        cases hpl:parts.toList with
        | nil=>simpa using hpl
        | cons a r =>
         exfalso
         rw [hpl] at hels
         obtain ⟨i,y⟩:=a
         simp only [xiJ] at hels
         split at hels
         ·split at hels
          ·split at hels
           ·split at hels<;>cases hels
           ·cases hels
          ·cases hels
         ·cases hels
       subst hp
       have hz0:(Array.range 0).map (fun _=>(default:Value))=#[]:=Array.eq_empty_of_size_eq_zero (by simp)
       simp [Instr.fill,newRow,AV.den,AV.denL,u,hz0]
      ·rw [if_neg h0]
       have hf:=xz0 hH.env (fun x v hx=>(hρ x v hx).1) (e:=e) parts.toList 0 els ((Array.range (els.length*(s+1))).map ((z.den E).cells[·%(z.den E).cells.size]!)) hels (by simp)
       simp only [Nat.zero_mul,Nat.zero_add,List.take_zero,List.nil_append] at hf
       simp only [Sem.run_bind,hzr,Sem.run_pure,Result.andThen_ok,hmap,hf]
       have hd:(Array.map (fun x=>(z.den E).cells[x%(z.den E).cells.size]!) (Array.range (els.length*(s+1)))).toList.drop (els.length*(s+1))=[]:=List.drop_of_length_le (by simp)
       rw [hd]
       simp [newRow,AV.den,u]
     ·have hnew:=xbb w (.cells (AV.denL E els.flatten).toArray te)
      have hden:AV.denL (fun k=>if k=K then u else E k) els.flatten=AV.denL E els.flatten:=xcl (fun k (hk:k<K)=>if_neg (by omega)) _ hall
      refine ⟨?_,r1,r2⟩
      rw [hden]
      simp only [if_true]
      have hmax:els.length≤maxLen:=by
       have:els.length*1≤els.length*(s+1):=Nat.mul_le_mul_left _ (by omega)
       simp only [maxLen]; omega
      refine ⟨⟨⟨_,_,rfl,Nat.le_refl _,hmax⟩,fun j v hj=>⟨_,rfl,?_⟩,fun b hb=>?_⟩,hdl,fun _=>.inr ⟨w.heap.size,els.length,_,rfl,hnew,Nat.le_refl _,hmax,by simp [hdl],by simp [← hdl]⟩⟩
      ·rw [xik,Nat.zero_add]
       simp only [World.cell?,hnew]
       simpa using hj
      ·have hb:(if els.length=0 then none else some w.heap.size)=some b:=hb
       split at hb
       ·cases hb
       ·cases hb; simp
     ·intro g hg
      have hg:(if els.length=0 then none else some w.heap.size)=some g:=hg
      split at hg
      ·cases hg
      ·cases hg; exact Nat.le_refl _
    ·cases h
   ·cases h
  ·cases h
 ·cases h
end
end Go.Sy
set_option linter.unusedVariables false
namespace Go.Sy
open Go.RowKit
section
variable {P:Program} {X:List (Nat×Go.Obj)} {E:Env} {w0 w:World} {objs:List Obj} {n K:Nat} {ρ:Operand→Option AV} {e:Operand→Value}
theorem xv1 (ks:List CK) (l:List (List Int)) (lo hi:Nat):rowV ks ((l.take hi).drop lo)=((rowV ks l).take (hi*ks.length)).drop (lo*ks.length):=by
 have hdrop:∀ (l:List (List Int)) (k:Nat),rowV ks (l.drop k)=(rowV ks l).drop (k*ks.length):=by
  intro l
  induction l with
  | nil=>intro k; simp [rowV]
  | cons a r ih =>
   intro k
   cases k with
   | zero=>simp
   | succ k =>
    have:=ih k
    simp only [rowV,List.flatMap_cons,List.drop_succ_cons] at *
    rw [this,List.drop_append,xd1,List.drop_of_length_le (l:=elV ks 0 a) (by rw [xd1,Nat.add_mul,Nat.one_mul]; omega),List.nil_append]
    congr 1
    rw [Nat.add_mul,Nat.one_mul]; omega
 have htake:∀ (l:List (List Int)) (k:Nat),rowV ks (l.take k)=(rowV ks l).take (k*ks.length):=by
  intro l
  induction l with
  | nil=>intro k; simp [rowV]
  | cons a r ih =>
   intro k
   cases k with
   | zero=>simp [rowV]
   | succ k =>
    have:=ih k
    simp only [rowV,List.flatMap_cons,List.take_succ_cons] at *
    rw [this,List.take_append,xd1,List.take_of_length_le (l:=elV ks 0 a) (by rw [xd1,Nat.add_mul,Nat.one_mul]; omega)]
    congr 2
    rw [Nat.add_mul,Nat.one_mul]; omega
 rw [hdrop,htake]
theorem xzo {a:Option Addr} {lo hi c s m b:Nat} (h:blkO (sliced a lo hi c s)=some b):blkO (.slice a m c)=some b:=by
 unfold sliced at h
 cases a with
 | none=>split at h<;>cases h
 | some a =>
  by_cases hc:c=lo
  ·subst hc
   simp [blkO] at h
  ·rw [if_neg hc] at h
   simp only [Option.map_some,blkO] at h
   split at h
   ·cases h
   ·rename_i hne
    cases h
    simp [blkO,xhd]
    omega
theorem xAt {own:Bool} {te:TypeId} {ks:List CK} {v:Value} {l:List (List Int)} {a:Option Addr} {c:Nat} (hr:xa8 w own te ks.length v l.length (rowV ks l)) (hv:v=.slice a l.length c) {lo hi:Nat} (h1:lo≤hi) (h2:hi≤l.length) :
  xa8 w false te ks.length (sliced a lo hi c ks.length) ((l.take hi).drop lo).length (rowV ks ((l.take hi).drop lo)):=by
 obtain ⟨a',c',hv',hmc,hmax⟩:=hr.reads.is
 rw [hv] at hv'
 cases hv'
 have hlen:((l.take hi).drop lo).length=hi-lo:=by simp; omega
 refine ⟨⟨⟨_,_,by rw [hlen]; rfl,by rw [hlen]; omega,by omega⟩,?_,fun b hb=>hr.reads.blk b (by rw [hv]; exact xzo hb)⟩,by rw [xbu],fun h=>by cases h⟩
 intro j u hj
 rw [xv1,List.getElem?_drop,List.getElem?_take] at hj
 split at hj
 ·rename_i hjl
  obtain ⟨b,hb,hc⟩:=hr.reads.cell _ _ hj
  rw [hv] at hb
  have hb:a=some b:=hb
  subst hb
  have hne:¬ (c=lo):=by
   intro e
   subst e
   have:(rowV ks l).length=l.length*ks.length:=xbu ks l
   have h3:=(List.getElem?_eq_some_iff.1 hj).1
   have h4:l.length*ks.length≤c*ks.length:=Nat.mul_le_mul_right _ hmc
   omega
  refine ⟨b.add (lo*ks.length),by simp [sliced,hne,xnL],?_⟩
  rw [xlG]
  exact hc
 ·cases hj
theorem xyp {n:Nat} {lo hi:Option Int} (hp:(xdu n lo hi).1):∃ a b:Nat,a≤b∧b≤n∧loN (xdu n lo hi).2.1=a∧(xdu n lo hi).2.2.toNat=b∧(match lo with | none=>a=0 | some x=>0≤x∧x=(a:Int))∧(match hi with | none=>b=n | some x=>0≤x∧x=(b:Int)):=by
 cases lo with
 | none=>cases hi with
  | none=>exact ⟨0,n,Nat.zero_le _,Nat.le_refl _,rfl,by simp [xdu],rfl,rfl⟩
  | some x =>
   have hp:0≤x∧x≤(n:Int):=hp
   exact ⟨0,x.toNat,Nat.zero_le _,by omega,rfl,rfl,rfl,hp.1,by omega⟩
 | some y=>cases hi with
  | none =>
   have hp:0≤y∧y≤(n:Int):=hp
   exact ⟨y.toNat,n,by omega,Nat.le_refl _,rfl,by simp [xdu],⟨hp.1,by omega⟩,rfl⟩
  | some x =>
   have hp:0≤y∧y≤x∧x≤(n:Int):=hp
   exact ⟨y.toNat,x.toNat,by omega,by omega,rfl,rfl,⟨hp.1,by omega⟩,by omega,by omega⟩
def xwX (v:Option Value):Option Int→Prop
 | none=>v=none
 | some m=>∃ k,v=some (.int k m)
theorem xln (hρ:∀ x v,ρ x=some v→e x=v.den E) {x:Option Operand} {y:Option Int} (h:xv2 ρ x=some y):xwX (x.map e) y:=by
 cases x with
 | none=>cases h; rfl
 | some o =>
  simp only [xv2] at h
  cases hv:ρ o with
  | none=>rw [hv] at h; cases h
  | some v =>
   rw [hv] at h
   simp only [] at h
   cases hi:intA v with
   | none=>rw [hi] at h; cases h
   | some m =>
    rw [hi] at h
    cases h
    obtain ⟨k,hk⟩:=xri hi E
    exact ⟨k,by simp [hρ o v hv,hk]⟩
theorem xu3 {t te:TypeId} (hu:P.underlying t=some (.slice te)) {sz:Nat} (hs:xjY P te=some sz) {a:Option Addr} {len c:Nat} {lo hi:Option Value} {x y:Nat} (h1:x≤y) (h2:y≤c)
  (hlo:(lo=none∧x=0)∨∃ k m,lo=some (.int k m)∧m=(x:Int)) (hhi:(hi=none∧y=len)∨∃ k m,hi=some (.int k m)∧m=(y:Int)) :
  (Instr.sliceAt t (.slice a len c) lo hi none).run P w=.ok (sliced a x y c sz) w:=by
 have he:P.elem t=te:=by simp [Program.elem,hu]
 have ht:P.underlying t=some (.slice (P.elem t)):=by rw [he]; exact hu
 rw [run_sliceAt_slice w t _ _ _ _ ht]
 rcases hlo with ⟨rfl,rfl⟩ | ⟨k,m,rfl,rfl⟩<;>rcases hhi with ⟨rfl,rfl⟩ | ⟨k',m',rfl,rfl⟩
 ·rw [run_slice_all w t a _ c ht,he,xcm hs]; rfl
 ·rw [run_slice_h w t a len c ht k' _ (by omega) (by omega),he,xcm hs]; simp [Result.andThen]
 ·rw [run_slice_l w t a _ c ht k _ (by omega) (by omega),he,xcm hs]; simp [Result.andThen]
 ·rw [run_slice_lh w t a len c ht k k' _ _ (by omega) (by omega) (by omega),he,xcm hs]; simp [Result.andThen]
theorem xxH (a:Option Addr) (sz:Nat):a.map (·.add (0*sz))=a:=by
 rw [Nat.zero_mul]
 cases a with
 | none=>rfl
 | some a=>rfl
theorem xxc (hH:xae X E w0 ⟨objs,n⟩ w) {t:TypeId} {v:AV} {lo hi:Option Int} {x:Eff} (hv:AV.all (fun k=>k<n) v) (h:xrA P objs t v lo hi=some x) {lov hiv:Option Value}
  (hlo:xwX lov lo) (hhi:xwX hiv hi) :
  ∃ p u,x=⟨p,[],0,[],u⟩∧AV.all (fun k=>k<n) u∧(x.holds→(Instr.sliceAt t (v.den E) lov hiv none).run P w=.ok (u.den E) w):=by
 have key:∀ (k0:Nat) (sz:Option Nat) (hi':Option Int),xkG P objs t k0 sz lo hi'=some x→k0<n→(sz=none→v=.sl k0∧hi'=hi)→(∀ s,sz=some s→∃ h0,v=.vw k0 s none h0∧hi'=some (hi.getD h0)) →
   ∃ p u,x=⟨p,[],0,[],u⟩∧AV.all (fun k=>k<n) u∧(x.holds→(Instr.sliceAt t (v.den E) lov hiv none).run P w=.ok (u.den E) w):=by
  intro k0 sz hi' h hv hn hsome
  unfold xkG at h
  cases hf:xap k0 objs with
  | none=>rw [hf] at h; cases h
  | some o =>
  rw [hf] at h
  simp only [] at h
  cases hr:xes P o.body with
  | none=>rw [hr] at h; cases h
  | some y =>
  obtain ⟨e',ks,l⟩:=y
  rw [hr] at h
  simp only [] at h
  split at h
  case h_2=>cases h
  rename_i te hu
  by_cases hc:e'=te∧xjY P e'=some ks.length∧(sz=none∨sz=some ks.length)
  case neg=>rw [if_neg hc] at h; cases h
  rw [if_pos hc] at h
  cases h
  obtain ⟨rfl,hs,hsz⟩:=hc
  obtain ⟨hm,hk⟩:=xan hf
  subst hk
  have hrow:xa8 w o.own e' ks.length (E o.key) l.length (rowV ks l):=xbR hr (hH.objs _ hm)
  obtain ⟨a,c,hEk,hlc,hmax⟩:=hrow.reads.is
  refine ⟨_,_,rfl,hv,fun hp=>?_⟩
  obtain ⟨x,y,h1,h2,h3,h4,h5,h6⟩:=xyp hp
  have hden:(AV.vw o.key ks.length (xdu l.length lo hi').2.1 (xdu l.length lo hi').2.2).den E=sliced a x y c ks.length:=by
   simp only [AV.den,xfE,hEk,h3,h4]
  rw [hden]
  rcases hsz with rfl | rfl
  ·obtain ⟨rfl,rfl⟩:=hn rfl
   simp only [AV.den]
   rw [hEk]
   refine xu3 hu hs h1 (Nat.le_trans h2 hlc) ?_ ?_
   ·cases lo with
    | none=>exact .inl ⟨hlo,h5⟩
    | some m=>obtain ⟨k,hk⟩:=hlo; exact .inr ⟨k,m,hk,h5.2⟩
   ·cases hi' with
    | none=>exact .inl ⟨hhi,h6⟩
    | some m=>obtain ⟨k,hk⟩:=hhi; exact .inr ⟨k,m,hk,h6.2⟩
  ·obtain ⟨h0,rfl,rfl⟩:=hsome _ rfl
   have e0:(AV.vw o.key ks.length none h0).den E=.slice a h0.toNat c:=by
    simp only [AV.den,xfE,hEk,sliced,loN,xxH,ite_self,Nat.sub_zero]
   rw [e0]
   refine xu3 hu hs h1 (Nat.le_trans h2 hlc) ?_ ?_
   ·cases lo with
    | none=>exact .inl ⟨hlo,h5⟩
    | some m=>obtain ⟨k,hk⟩:=hlo; exact .inr ⟨k,m,hk,h5.2⟩
   ·have h6:0≤hi.getD h0∧hi.getD h0=(y:Int):=h6
    cases hi with
    | none=>exact .inl ⟨hhi,by have:=h6.2; simp only [Option.getD_none] at this; omega⟩
    | some m=>obtain ⟨k,hk⟩:=hhi; exact .inr ⟨k,m,hk,h6.2⟩
 unfold xrA at h
 split at h
 ·rename_i k0
  exact key k0 none hi h hv (fun _=>⟨rfl,rfl⟩) (fun s hs=>by cases hs)
 ·rename_i k0 sz h0
  exact key k0 (some sz) _ h hv (fun hs=>by cases hs) (fun s hs=>by cases hs; exact ⟨h0,rfl,rfl⟩)
 ·cases h
theorem xDc {own:Bool} {te:TypeId} {ks:List CK} {key:Nat} {l:List (List Int)} (hr:xa8 w own te ks.length (E key) l.length (rowV ks l)) {lo:Option Int} {hi:Int} (hp:xAU l lo hi) :
  xa8 w false te ks.length ((AV.vw key ks.length lo hi).den E) (cutV l lo hi).length (rowV ks (cutV l lo hi)):=by
 obtain ⟨a,c,hv,_,_⟩:=hr.reads.is
 obtain ⟨h1,h2⟩:=hp
 simp only [AV.den,xfE,hv]
 exact xAt hr hv (by omega) (by omega)
theorem xAs {t te:TypeId} (hu:P.underlying t=some (.slice te)) {sz:Nat} (hs:xjY P te=some sz) {a:Option Addr} {len c:Nat} {k k':IntKind} :
  (Instr.sliceAt t (.slice a len c) none (some (.int k 0)) (some (.int k' 0))).run P w=.ok (.slice a 0 0) w:=by
 simp [Instr.sliceAt,Instr.slice,Instr.sliceBounds,Instr.sliceBound,run_underlying hu,xcm hs,asIntOf]
theorem xd6 {te:TypeId} {sz:Nat} {v:Value} {m:Nat} {vs:List Value} (ho:xm4 w te sz v m vs) (hl:vs.length=m*sz):xa8 w true te sz v m vs:=by
 refine ⟨?_,hl,fun _=>ho⟩
 rcases ho with ⟨a,rfl,rfl⟩ | ⟨g,cap,cur,rfl,hg,h1,h2,h3,h4⟩
 ·have:vs=[]:=List.eq_nil_of_length_eq_zero (by simpa using hl)
  subst this
  refine ⟨⟨_,_,rfl,Nat.le_refl _,Nat.zero_le _⟩,by simp,fun b hb=>?_⟩
  cases a<;>cases hb
 ·refine ⟨⟨_,_,rfl,h1,h2⟩,fun j u hj=>⟨⟨g,0,none⟩,rfl,?_⟩,fun b hb=>?_⟩
  ·rw [xik,Nat.zero_add]
   rw [← h4,List.getElem?_take] at hj
   split at hj
   ·simp only [World.cell?,hg]
    simpa using hj
   ·cases hj
  ·have hb:(if cap=0 then none else some g)=some b:=hb
   split at hb
   ·cases hb
   ·cases hb; exact (Array.getElem?_eq_some_iff.1 hg).1
theorem xAw {te:TypeId} {sz:Nat} {v:Value} {m:Nat} {vs:List Value} (h:w.ownsRow 0 te sz v m vs):xm4 w te sz v m vs:=by
 rcases h.2 with ⟨rfl,rfl⟩ | ⟨g,cap,cur,rfl,_,hg,h1,h2,h3,h4⟩
 ·exact .inl ⟨none,rfl,rfl⟩
 ·exact .inr ⟨g,cap,cur,rfl,hg,h1,h2,h3,h4⟩
theorem xvw {t ty te:TypeId} {ie:TypeInfo} (ht:P.underlying t=some (.slice te)) (hi:P.info? te=some ie) {z:Value} (hz:ie.zero=some z) (hzs:z.cells.size=ie.size) (h0:ie.size≠0)
  {v v2:Value} {m m2:Nat} {vs ws:List Value} (ho:xm4 w te ie.size v m vs) (hl:vs.length=m*ie.size) (hs:xyu w v2 m2 ws) (hwl:ws.length=m2*ie.size) (h1:∀ u∈ws,u.oneCell'=true) (hf:xdo ie.bytes (m+m2)) :
  ∃ v' w',(Builtin.append_ #[t,t] ty #[v,v2]).run P w=.ok v' w'∧xm4 w' te ie.size v' (m+m2) (vs++ws)∧Chg w w' (blkO v).toList∧(∀ b,blkO v'=some b→w.heap.size≤b∨blkO v=some b)∧v'.oneCell'=true:=by
 obtain ⟨f1,f2⟩:=hf
 obtain ⟨a2,c2,rfl,_,_⟩:=hs.is
 by_cases hm2:m2=0
 ·subst hm2
  have hws:ws=[]:=List.eq_nil_of_length_eq_zero (by simpa using hwl)
  subst hws
  have run0:∀ (a:Option Addr) (len c:Nat),len≤c→(Builtin.append_ #[t,t] ty #[.slice a len c,.slice a2 0 c2]).run P w=.ok (.slice a len c) w:=by
   intro a len c hlc
   cases a with
   | none=>cases a2<;>simp [Builtin.append_,run_underlying ht,sizeOf,typeInfo,hi,Builtin.lenOf,Builtin.firstCells,loadCells,loadCellsFrom,hlc]
   | some a=>cases a2<;>simp [Builtin.append_,run_underlying ht,sizeOf,typeInfo,hi,Builtin.lenOf,Builtin.firstCells,loadCells,loadCellsFrom,storeCells,hlc]
  rcases ho with ⟨a,rfl,rfl⟩ | ⟨g,cap,cur,rfl,hg,g1,g2,g3,g4⟩
  ·exact ⟨_,w,run0 a 0 0 (Nat.le_refl _),.inl ⟨a,rfl,rfl⟩,Chg.refl _ _,fun b hb=>.inr hb,rfl⟩
  ·exact ⟨_,w,run0 _ m cap g1,.inr ⟨g,cap,cur,rfl,hg,g1,g2,g3,by simpa using g4⟩,Chg.refl _ _,fun b hb=>.inr hb,rfl⟩
 ·have hne:ws≠[]:=by
   intro e
   rw [e] at hwl
   have:=(Nat.mul_eq_zero.1 hwl.symm)
   omega
  obtain ⟨u0,hu0⟩:∃ u0,ws[0]?=some u0:=⟨_,List.getElem?_eq_getElem (List.length_pos_iff.2 hne)⟩
  obtain ⟨ad,had,_⟩:=hs.cell 0 u0 hu0
  have had:a2=some ad:=had
  subst had
  have hnews:∀ j u,ws[j]?=some u→w.cell? (ad.add j)=some u:=by
   intro j u hj
   obtain ⟨a',ha',hc⟩:=hs.cell j u hj
   cases ha'
   exact hc
  have kit:∀ {v:Value},w.ownsRow 0 te ie.size v m vs→(blkO v=v.ownBlock)→∃ v' w',(Builtin.append_ #[t,t] ty #[v,.slice (some ad) m2 c2]).run P w=.ok v' w'∧xm4 w' te ie.size v' (m+m2) (vs++ws)∧Chg w w' (blkO v).toList∧(∀ b,blkO v'=some b→w.heap.size≤b∨blkO v=some b)∧v'.oneCell'=true:=by
   intro v hown hbo
   obtain ⟨v',w',hr,hown',hg,_⟩:=run_append_own (P:=P) w 0 t ty te ie z ie.size ie.bytes ht hi hz rfl rfl hzs (by omega) v m vs hown ad m2 c2 ws hwl hnews h1 f2 f1 (Nat.zero_le _)
   have hdr:dr w≤dr w':=Nat.le_refl _
   refine ⟨v',w',hr,xAw hown',Chg.of_grown hdr hg (fun k hk=>by rw [hbo,hk]; simp),?_,?_⟩
   ·intro b hb
    rcases hown.2 with ⟨rfl,rfl⟩ | ⟨g,cap,cur,rfl,_,hgg,g1,g2,g3,g4⟩
    ·have hx:vs=[]:=List.eq_nil_of_length_eq_zero (by simpa using hown.1)
     subst hx
     have hr2:=run_append_nil (P:=P) w t ty te ie z ht hi hz ad m2 c2 ws hwl hnews (by omega) (by simp only [maxLen] at f2; omega) (by simp only [Nat.zero_add] at f1; omega)
     rw [hr2] at hr
     cases hr
     have hb:(if grownCap w m2 0 te=0 then none else some w.heap.size)=some b:=hb
     split at hb
     ·cases hb
     ·cases hb; exact .inl (Nat.le_refl _)
    ·by_cases hroom:m+m2≤cap
     ·have hfit:m*ie.size+ws.length≤cur.size:=by rw [hwl,g3,← Nat.add_mul]; exact Nat.mul_le_mul_right _ hroom
      have hr2:=run_append_room (P:=P) w t ty te ie ht hi g m cap cur hgg ad m2 c2 ws hwl hnews h1 hroom hfit
      rw [hr2] at hr
      cases hr
      have hb:(if cap=0 then none else some g)=some b:=hb
      exact .inr hb
     ·have hx:vs.length=m*ie.size:=hown.1
      have holds:∀ j u,vs[j]?=some u→w.cell? ((⟨g,0,none⟩:Addr).add j)=some u:=hown.cells (g:=g) rfl
      have hr2:=run_append_grow (P:=P) w t ty te ie z ht hi hz ⟨g,0,none⟩ m cap vs hx holds ad m2 c2 ws hwl hnews (by omega) (by simp only [maxLen] at f2; omega) (growslice_fits (by omega) f1)
      rw [hr2] at hr
      cases hr
      have hb:(if grownCap w (m+m2) cap te=0 then none else some w.heap.size)=some b:=hb
      split at hb
      ·cases hb
      ·cases hb; exact .inl (Nat.le_refl _)
   ·rcases hown'.2 with ⟨rfl,_⟩ | ⟨g,cap,cur,rfl,_⟩<;>rfl
  rcases ho with ⟨a,rfl,rfl⟩ | ⟨g,cap,cur,rfl,hg,g1,g2,g3,g4⟩
  ·have hx:vs=[]:=List.eq_nil_of_length_eq_zero (by simpa using hl)
   subst hx
   cases a with
   | none=>exact kit (v:=.slice none 0 0) ⟨by simp,.inl ⟨rfl,rfl⟩⟩ rfl
   | some a =>
    have hr:=run_append_grow (P:=P) w t ty te ie z ht hi hz a 0 0 [] (by simp) (by simp) ad m2 c2 ws hwl hnews (by omega) (by simp only [maxLen] at f2; omega) (growslice_fits (by omega) f1)
    refine ⟨_,_,hr,?_,?_,?_,rfl⟩
    ·have hge:=grownCap_ge w (0+m2) 0 te
     have hcm:=grownCap_le_maxLen w (0+m2) 0 te f2
     refine .inr ⟨w.heap.size,_,_,rfl,xbb w.drew _,hge,hcm,?_,?_⟩
     ·simp only [Array.size_append,List.size_toArray,size_zeroCells,hzs,hwl,List.length_nil]
      rw [show (0:Nat)+m2*ie.size+(grownCap w (0+m2) 0 te-(0+m2))*ie.size=(m2+(grownCap w (0+m2) 0 te-(0+m2)))*ie.size from by rw [Nat.add_mul]; omega]
      congr 1
      omega
     ·simp only [Array.toList_append,List.nil_append,Nat.zero_add]
      rw [← hwl]
      simp
    ·exact Chg.of_below ((Blw.refl _ _).drew.alloc (Nat.le_refl _) _) _
    ·intro b hb
     have hb:(if grownCap w (0+m2) 0 te=0 then none else some w.heap.size)=some b:=hb
     split at hb
     ·cases hb
     ·cases hb; exact .inl (Nat.le_refl _)
  ·by_cases hc0:cap=0
   ·subst hc0
    have hm0:m=0:=by omega
    subst hm0
    have hx:vs=[]:=List.eq_nil_of_length_eq_zero (by simpa using hl)
    subst hx
    have hr:=run_append_grow (P:=P) w t ty te ie z ht hi hz ⟨g,0,none⟩ 0 0 [] (by simp) (by simp) ad m2 c2 ws hwl hnews (by omega) (by simp only [maxLen] at f2; omega) (growslice_fits (by omega) f1)
    refine ⟨_,_,hr,?_,?_,?_,rfl⟩
    ·have hge:=grownCap_ge w (0+m2) 0 te
     have hcm:=grownCap_le_maxLen w (0+m2) 0 te f2
     refine .inr ⟨w.heap.size,_,_,rfl,xbb w.drew _,hge,hcm,?_,?_⟩
     ·simp only [Array.size_append,List.size_toArray,size_zeroCells,hzs,hwl,List.length_nil]
      rw [show (0:Nat)+m2*ie.size+(grownCap w (0+m2) 0 te-(0+m2))*ie.size=(m2+(grownCap w (0+m2) 0 te-(0+m2)))*ie.size from by rw [Nat.add_mul]; omega]
      congr 1
      omega
     ·simp only [Array.toList_append,List.nil_append,Nat.zero_add]
      rw [← hwl]
      simp
    ·exact Chg.of_below ((Blw.refl _ _).drew.alloc (Nat.le_refl _) _) _
    ·intro b hb
     have hb:(if grownCap w (0+m2) 0 te=0 then none else some w.heap.size)=some b:=hb
     split at hb
     ·cases hb
     ·cases hb; exact .inl (Nat.le_refl _)
   ·exact kit (v:=.slice (some ⟨g,0,none⟩) m cap) ⟨hl,.inr ⟨g,cap,cur,rfl,Nat.zero_le _,hg,g1,g2,g3,g4⟩⟩ (by simp [blkO,hc0,Value.ownBlock])
end
end Go.Sy
set_option linter.unusedVariables false
namespace Go.Sy
open Go.RowKit
section
variable {P:Program} {X:List (Nat×Go.Obj)} {E:Env} {w0 w:World} {objs:List Obj} {n K:Nat}
theorem xxO {kt m:Nat} {q:IntKind} (h:keyQ P kt=some (m,q)):∃ e,P.underlying kt=some (.array m e)∧P.underlying e=some (.int q)∧P.cellsOf e=1∧P.cellsOf kt=m∧P.keyType kt=true∧P.types.size≠0:=by
 unfold keyQ at h
 split at h
 ·rename_i m' e hu
  split at h
  ·rename_i q' hq
   split at h
   ·rename_i hc
    cases h
    exact ⟨e,hu,hq,hc.1,hc.2.1,hc.2.2.1,hc.2.2.2⟩
   ·cases h
  ·cases h
 ·cases h
theorem xzW {kt m:Nat} {q:IntKind} (h:keyQ P kt=some (m,q)):WideMaps.KeyLaw P kt:=by
 obtain ⟨e,h1,h2,h3,h4,_⟩:=xxO h
 exact WideMaps.ArrKey.law (e:=e) (n:=m) ⟨h1,by simp [Program.plainKey,h2],h3,h4⟩
theorem xzP {α β:Type} {f:α→Option β}:∀ {l:List α},(∀ x∈l,∃ y,f x=some y)→∃ ys,l.mapM f=some ys
 | [],_=>⟨[],by simp⟩
 | a::r,h=>by
  obtain ⟨y,hy⟩:=h a (by simp)
  obtain ⟨ys,hys⟩:=xzP (l:=r) (fun x hx=>h x (by simp [hx]))
  exact ⟨y::ys,by simp [List.mapM_cons,hy,hys]⟩
theorem xnf {kt m:Nat} {q:IntKind} (h:keyQ P kt=some (m,q)) {ns:List Int} (hl:ns.length=m) (hw:xpQ q ns):∃ l,keyOf P kt (.agg (ns.map (Value.int q)).toArray)=some l:=by
 obtain ⟨e,h1,h2,h3,h4,h5,h6⟩:=xxO h
 have hsz:∃ d,P.types.size=d+1:=by
  cases hs:P.types.size with
  | succ d=>exact ⟨d,rfl⟩
  | zero=>exact absurd hs h6
 obtain ⟨d,hd⟩:=hsz
 unfold keyOf
 rw [h1]
 have hf:(Value.agg (ns.map (Value.int q)).toArray).formed P kt=true:=by simp [Value.formed,h1,h4,hl]
 simp only [h5,hf,Bool.and_self,if_true]
 have hlits:∃ ls,P.keyLits (P.types.size+1) kt (Value.agg (ns.map (Value.int q)).toArray).cells.toList=some ls:=by
  unfold Program.keyLits
  rw [h1]
  simp only [Value.cells,List.length_map,hl,h4,if_true]
  obtain ⟨ys,hys⟩:=xzP (f:=fun i=>P.keyLits P.types.size e (((ns.map (Value.int q)).drop (i*P.cellsOf e)).take (P.cellsOf e))) (l:=List.range m) (fun i hi=>by
   have hi:i<ns.length:=by rw [hl]; simpa using hi
   rw [hd,h3,Nat.mul_one]
   have:((ns.map (Value.int q)).drop i).take 1=[Value.int q ns[i]]:=by
    rw [List.drop_eq_getElem_cons (by simpa using hi)]
    simp
   rw [this]
   unfold Program.keyLits
   rw [h2]
   exact ⟨[Lit.int q ns[i]],by simp [hw _ (List.getElem_mem hi)]⟩)
  exact ⟨ys.flatten,by simp [hys]⟩
 obtain ⟨ls,hls⟩:=hlits
 exact ⟨_,by rw [hls]; rfl⟩
theorem xyQ {q:IntKind} {m:Nat} {r kc:List Int}:mpK q m r=.agg (kc.map (Value.int q)).toArray↔r.take m=kc:=by
 unfold mpK
 constructor
 ·intro h
  have h:(r.take m).map (Value.int q)=kc.map (Value.int q):=by
   have:=Value.agg.inj h
   simpa using congrArg Array.toList this
  exact (List.map_inj_right (fun a b hab=>(Value.int.inj hab).2)).1 h
 ·intro h; rw [h]
theorem xzX {q:IntKind} {m:Nat} {v:AV} {kc:List Int} (h:keyA q m v=some kc):v.den E=.agg (kc.map (Value.int q)).toArray∧kc.length=m:=by
 unfold keyA at h
 split at h
 ·rename_i cs
  have h1:=xjU E [] h
  have h2:=xmY h
  simp only [List.length_nil,List.nil_append] at h1
  have h3:kc.length=m:=by rw [h2.2]; simp
  refine ⟨?_,h3⟩
  simp only [AV.den,h1]
  congr 2
  apply List.ext_getElem?
  intro i
  rw [xtK,List.getElem?_map]
  by_cases hi:i<m
  ·rw [List.getElem?_replicate,if_pos hi,List.getElem?_eq_getElem (by omega:i<kc.length)]
   simp [CK.val,List.getD_eq_getElem?_getD,List.getElem?_eq_getElem (by omega:i<kc.length)]
  ·rw [List.getElem?_replicate,if_neg hi,List.getElem?_eq_none (by omega)]
   rfl
 ·cases h
theorem xgq {t kt et:TypeId} (h:xoX P t kt et=true):P.underlying t=some (.map kt et):=by
 unfold xoX at h
 split at h
 ·rename_i k e hu
  rw [Bool.and_eq_true] at h
  rw [hu,Nat.eq_of_beq_eq_true h.1,Nat.eq_of_beq_eq_true h.2]
 ·cases h
theorem xx2 {kt m:Nat} {q:IntKind} (hq:keyQ P kt=some (m,q)) {v:Value} {ke:List CK} {l:List (List Int)} {b:Nat} {es:Array MapEntry} {clock:Nat} (hM:xDF w v q m ke l b es clock) {kc:List Int} (hl:kc.length=m) (hw:xpQ q kc) :
  ((Instr.findKey kt (.agg (kc.map (Value.int q)).toArray) es.toList).run P w=.ok none w∧xaO m kc l=none∧∀ r∈l,r.take m≠kc) ∨
  ∃ j r e,(Instr.findKey kt (.agg (kc.map (Value.int q)).toArray) es.toList).run P w=.ok (some (j,mpV ke m r)) w∧l[j]?=some r∧r.take m=kc∧es.toList[j]?=some e∧e.key=.agg (kc.map (Value.int q)).toArray∧xaO m kc l=some (r.drop m):=by
 obtain ⟨lx,hx⟩:=xnf hq hl hw
 have hlen:es.toList.length=l.length:=by simpa using congrArg List.length hM.ents
 have pt:∀ (i:Nat) e r,es.toList[i]?=some e→l[i]?=some r→e.key=mpK q m r∧e.val=mpV ke m r:=by
  intro i e r he hr
  have:=congrArg (fun z=>z[i]?) hM.ents
  simp only [List.getElem?_map,he,hr,Option.map_some,Option.some.injEq,Prod.mk.injEq] at this
  exact this
 have hkeys:∀ e∈es.toList,∃ l',keyOf P kt e.key=some l':=by
  intro e he
  obtain ⟨i,hi⟩:=List.mem_iff_getElem?.1 he
  have hil:i<l.length:=by rw [← hlen]; exact (List.getElem?_eq_some_iff.1 hi).1
  have hr:l[i]?=some l[i]:=List.getElem?_eq_getElem hil
  rw [(pt i e _ hi hr).1]
  have:=hM.wf _ (List.getElem_mem hil)
  exact xnf hq this.1 this.2
 rcases (xzW hq).find w hx es.toList hkeys with ⟨h1,h2⟩ | ⟨j,e,h1,h2,h3⟩
 ·have hno:∀ r∈l,r.take m≠kc:=by
   intro r hr hk
   obtain ⟨i,hi⟩:=List.mem_iff_getElem?.1 hr
   have hil:i<es.toList.length:=by rw [hlen]; exact (List.getElem?_eq_some_iff.1 hi).1
   have he:es.toList[i]?=some es.toList[i]:=List.getElem?_eq_getElem hil
   exact h2 _ (List.getElem_mem hil) (by rw [(pt i _ r he hi).1]; exact xyQ.2 hk)
  refine .inl ⟨h1,?_,hno⟩
  unfold xaO
  rw [List.find?_eq_none.2 (fun r hr=>by simpa using hno r hr)]
  rfl
 ·have hjl:j<l.length:=by rw [← hlen]; exact (List.getElem?_eq_some_iff.1 h2).1
  have hr:l[j]?=some l[j]:=List.getElem?_eq_getElem hjl
  obtain ⟨k1,k2⟩:=pt j e _ h2 hr
  have hk:l[j].take m=kc:=xyQ.1 (by rw [← k1,h3])
  refine .inr ⟨j,l[j],e,by rw [h1,k2],hr,hk,h2,h3,?_⟩
  unfold xaO
  cases hf:l.find? (fun r=>decide (r.take m=kc)) with
  | none=>exact absurd hk (by simpa using List.find?_eq_none.1 hf _ (List.getElem_mem hjl))
  | some r' =>
   have h4:=List.mem_of_find?_eq_some hf
   have h5:r'.take m=kc:=by simpa using List.find?_some hf
   obtain ⟨i,hi⟩:=List.mem_iff_getElem?.1 h4
   have hij:i=j:=by
    have hil:=(List.getElem?_eq_some_iff.1 hi).1
    have e1:l[i]=r':=(List.getElem?_eq_some_iff.1 hi).2
    have hpw:=List.pairwise_iff_getElem.1 hM.nodup
    rcases Nat.lt_trichotomy i j with hlt | hlt | hlt
    ·exact (hpw i j (by simpa using hil) (by simpa using hjl) hlt (by simp only [List.getElem_map,e1,h5,hk])).elim
    ·exact hlt
    ·exact (hpw j i (by simpa using hjl) (by simpa using hil) hlt (by simp only [List.getElem_map,e1,h5,hk])).elim
   subst hij
   rw [hr] at hi
   cases hi
   rfl
theorem xuH (hH:xae X E w0 ⟨objs,n⟩ w) {t:TypeId} {x:Eff} (h:xwh P K t=some x) :
  xdq n objs K x∧x.nk≤1∧(x.holds→∃ E' w',(Instr.makeMap t none).run P w=.ok (x.v.den E') w'∧xeW E objs w K x E' w'):=by
 unfold xwh at h
 split at h
 case h_2=>cases h
 rename_i kt et hu
 split at h
 case h_2=>cases h
 rename_i m q ke hq hke hag
 cases h
 refine ⟨xjJ (b:=.mp kt et q m ke []) trivial (Nat.lt_succ_self K),Nat.le_refl _,fun _=>⟨_,w.alloc (.map #[] 0),?_,xk7 (b:=.mp kt et q m ke []) (u:=.map (some w.heap.size)) hH.env rfl ?_ (xbo _ _) ?_ _⟩⟩
 ·simp [Instr.makeMap,Sem.run_bind,run_newObj_alloc,AV.den]
 ·exact ⟨w.heap.size,#[],0,if_pos rfl,xbb w _,rfl,(fun r hr=>by cases hr),List.nodup_nil⟩
 ·intro g hg; cases hg; exact Nat.le_refl _
theorem xwm (hH:xae X E w0 ⟨objs,n⟩ w) {t:TypeId} {v k:AV} {ok:Bool} {x:Eff} (h:xpP P objs t v k ok=some x) :
  x.rm=[]∧x.add=[]∧x.nk=0∧AV.all (fun _=>False) x.v∧(x.holds→(Instr.lookup t (v.den E) (k.den E) ok).run P w=.ok (x.v.den E) w):=by
 unfold xpP at h
 split at h
 case h_2=>cases h
 rename_i key
 split at h
 case h_2=>cases h
 rename_i k0 ver own kt et q m ke l hf
 split at h
 case h_2=>cases h
 rename_i kc z hkc hz
 split at h
 case h_2=>cases h
 rename_i zc hzc
 split at h
 case isFalse=>cases h
 rename_i hc
 obtain ⟨hm,hk⟩:=xan hf
 simp only [] at hk
 subst hk
 obtain ⟨b,es,clock,hM⟩:=hH.objs _ hm
 have hM:xDF w (E k0) q m ke l b es clock:=hM
 obtain ⟨hkd,hkl⟩:=xzX (E:=E) hkc
 have hu:=xgq hc.1
 have hzd:=xjU E [] hzc
 simp only [List.length_nil,List.nil_append] at hzd
 have hzr:=xmf (P:=P) hz E w
 have run:xpQ q kc→(Instr.lookup t ((AV.sl k0).den E) (k.den E) ok).run P w=.ok (if ok then .tuple #[.agg (elV ke 0 ((xaO m kc l).getD zc)).toArray,.bool (xaO m kc l).isSome] else .agg (elV ke 0 ((xaO m kc l).getD zc)).toArray) w:=by
  intro hw
  obtain ⟨lx,hx⟩:=xnf hc.2 hkl hw
  have hck:=(xzW hc.2).check w es.isEmpty hx
  have hv:(AV.sl k0).den E=.map (some b):=hM.is
  rw [hv,hkd]
  unfold Instr.lookup
  rcases xx2 hc.2 hM hkl hw with ⟨h1,h2,_⟩ | ⟨j,r,e,h1,_,_,_,_,h2⟩
  ·simp only [Sem.run_bind,run_underlying hu,Result.andThen_ok,Go.MapKept.run_getObj_map hM.at_,Sem.run_pure,hck,h1,hzr,h2,AV.den,hzd]
   cases ok<;>rfl
  ·simp only [Sem.run_bind,run_underlying hu,Result.andThen_ok,Go.MapKept.run_getObj_map hM.at_,Sem.run_pure,hck,h1,h2]
   cases ok<;>rfl
 cases ok with
 | true =>
  cases h
  refine ⟨rfl,rfl,rfl,⟨xwJ _ _ _ _,trivial,trivial⟩,fun hp=>?_⟩
  rw [run hp]
  simp [AV.den,AV.denL,xwI]
 | false =>
  cases h
  refine ⟨rfl,rfl,rfl,xwJ _ _ _ _,fun hp=>?_⟩
  rw [run hp]
  simp [AV.den,xwI]
theorem xqX (hH:xae X E w0 ⟨objs,n⟩ w) {t:TypeId} {v k u:AV} {x:Eff} (h:xje P objs K t v k u=some x) :
  xdq n objs K x∧x.nk≤1∧x.v=.val undef∧(x.holds→∃ w',(Instr.mapUpdate t (v.den E) (k.den E) (u.den E)).run P w=.ok () w'∧xeW E objs w K x E w'):=by
 unfold xje at h
 split at h
 case h_2=>cases h
 rename_i key
 split at h
 case h_2=>cases h
 rename_i k0 ver kt et q m ke l hf
 split at h
 case h_2=>cases h
 rename_i kc cs hkc
 split at h
 case h_2=>cases h
 rename_i vc hvc
 split at h
 case isFalse=>cases h
 rename_i hc
 cases h
 obtain ⟨hm,hk⟩:=xan hf
 simp only [] at hk
 subst hk
 obtain ⟨b,es,clock,hM⟩:=hH.objs _ hm
 have hM:xDF w (E k0) q m ke l b es clock:=hM
 obtain ⟨hkd,hkl⟩:=xzX (E:=E) hkc
 have hu:=xgq hc.1
 have hvd:=xjU E [] hvc
 simp only [List.length_nil,List.nil_append] at hvd
 have hblk:blkO (E k0)=some b:=by rw [hM.is]; rfl
 have hbl:b<w.heap.size:=(Array.getElem?_eq_some_iff.1 hM.at_).1
 refine ⟨⟨?_,?_,?_,?_,trivial,?_⟩,Nat.zero_le _,rfl,fun hp=>?_⟩
 ·intro k hk; simp at hk; subst hk; exact ⟨_,hm,rfl,rfl⟩
 ·intro o ho; simp at ho; subst ho; exact .inl (by simp)
 ·intro o ho o' ho' _; simp at ho ho'; subst ho; subst ho'; rfl
 ·intro o ho; simp at ho; subst ho; trivial
 ·intro o ho; simp at ho; subst ho; exact Nat.le_refl _
 have hw:xpQ q kc:=hp
 obtain ⟨lx,hx⟩:=xnf hc.2 hkl hw
 have hck:=(xzW hc.2).check w false hx
 have hv:(AV.sl k0).den E=.map (some b):=hM.is
 have hrow:mpK q m (kc++vc)=.agg (kc.map (Value.int q)).toArray∧mpV ke m (kc++vc)=.agg (elV ke 0 vc).toArray:=by
  constructor
  ·exact xyQ.2 (by rw [← hkl]; simp)
  ·unfold mpV; rw [← hkl]; simp
 have fin:∀ (es':Array MapEntry) (clock':Nat),es'.toList.map (fun e=>(e.key,e.val))=(xdU m kc vc l).map (fun r=>(mpK q m r,mpV ke m r))→(∀ r∈xdU m kc vc l,(r.take m).length=m∧xpQ q (r.take m))→((xdU m kc vc l).map (fun r=>r.take m)).Nodup →
   xeW E objs w K ⟨some (xpQ q kc),[k0],0,[⟨k0,K,true,.mp kt et q m ke (xdU m kc vc l)⟩],.val undef⟩ E { w with heap:=w.heap.setIfInBounds b (.map es' clock') }:=by
  intro es' clock' h1 h2 h3
  refine ⟨fun _ _=>rfl,hH.env,⟨Nat.le_refl _,rfl,rfl,rfl,by simp,fun g hg hne=>?_⟩,?_,?_,?_,?_,?_,?_,?_⟩
  ·have:g≠b:=fun e=>hne (by simp [hblk,e])
   simp [Array.getElem?_setIfInBounds_ne (fun e=>this e.symm)]
  ·intro o ho; simp at ho; subst ho
   exact ⟨b,es',clock',hM.is,by simp [hbl],h1,h2,h3⟩
  ·intro o ho _ g hg; simp at ho; subst ho; exact .inr ⟨k0,by simp,hg⟩
  ·intro o ho hf; simp at ho; subst ho; cases hf
  ·intro o ho o' ho' _ hne; simp at ho ho'; subst ho; subst ho'; exact absurd rfl hne
  ·intro o ho g hg; simp at ho; subst ho; exact xcC rfl hg
  ·intro o ho g hg; simp at ho; subst ho; exact xcC rfl hg
  ·intro o ho g hg; simp at ho; subst ho; exact xmK rfl hg
 rw [hv,hkd]
 simp only [AV.den,hvd]
 rcases xx2 hc.2 hM hkl hw with ⟨h1,h2,h3⟩ | ⟨j,r,e,h1,h2,h3,h4,h5,h6⟩
 ·have hput:xdU m kc vc l=l++[kc++vc]:=by unfold xdU; rw [h2]; rfl
  refine ⟨_,?_,fin (es.push { key:=.agg (kc.map (Value.int q)).toArray,val:=.agg (elV ke 0 vc).toArray,born:=clock }) (clock+1) ?_ ?_ ?_⟩
  ·simp only [Instr.mapUpdate,Sem.run_bind,run_underlying hu,Result.andThen_ok,Go.MapKept.run_getObj_map hM.at_,hck,h1,Go.MapKept.run_setObj_map _ hM.at_]
  ·rw [hput]
   simp [hM.ents,hrow.1,hrow.2]
  ·rw [hput]
   intro r hr
   rcases List.mem_append.1 hr with hr | hr
   ·exact hM.wf r hr
   ·rw [List.mem_singleton.1 hr]
    have:(kc++vc).take m=kc:=by rw [← hkl]; simp
    rw [this]; exact ⟨hkl,hw⟩
  ·rw [hput,List.map_append]
   refine List.nodup_append.2 ⟨hM.nodup,by simp,fun a ha b hb=>?_⟩
   have hb:b=(kc++vc).take m:=by simpa using hb
   have:(kc++vc).take m=kc:=by rw [← hkl]; simp
   obtain ⟨r,hr,rfl⟩:=List.mem_map.1 ha
   rw [hb,this]
   exact h3 r hr
 ·have hput:xdU m kc vc l=l.map (fun r=>bif decide (r.take m=kc) then kc++vc else r):=by unfold xdU; rw [h6]; rfl
  have htk:∀ r:List Int,(bif decide (r.take m=kc) then kc++vc else r).take m=r.take m:=by
   intro r
   by_cases h:r.take m=kc
   ·have:(kc++vc).take m=kc:=by rw [← hkl]; simp
    simp [h,this]
   ·simp [h]
  have hst:=(xzW hc.2).stays w hx
  have hesj:es[j]?=some e:=by simpa using h4
  refine ⟨_,?_,fin (es.modify j fun e=>{ e with key:=.agg (kc.map (Value.int q)).toArray,val:=.agg (elV ke 0 vc).toArray }) clock ?_ ?_ ?_⟩
  ·simp only [Instr.mapUpdate,Sem.run_bind,run_underlying hu,Result.andThen_ok,Go.MapKept.run_getObj_map hM.at_,hck,h1,hesj,Option.map_some,Option.getD_some,h5,hst,Go.MapKept.run_setObj_map _ hM.at_]
  ·rw [hput,List.map_map]
   apply List.ext_getElem?
   intro i
   have hle:es.toList.length=l.length:=by simpa using congrArg List.length hM.ents
   have hpt:=congrArg (fun z=>z[i]?) hM.ents
   simp only [List.getElem?_map] at hpt ⊢
   by_cases hij:i=j
   ·subst hij
    rw [h2]
    simp [Array.toList_modify,h4,h3,hrow.1,hrow.2]
   ·have hl:(es.modify j fun e=>{ e with key:=.agg (kc.map (Value.int q)).toArray,val:=.agg (elV ke 0 vc).toArray }).toList[i]?=es.toList[i]?:=by
     have hji:¬ j=i:=fun e=>hij e.symm
     rw [Array.toList_modify,List.getElem?_modify]
     simp only [hji,if_false]
     cases es.toList[i]?<;>rfl
    rw [hl,hpt]
    cases hr:l[i]? with
    | none=>rfl
    | some r' =>
     have hne:r'.take m≠kc:=fun hk=>by
      have hil:=(List.getElem?_eq_some_iff.1 hr).1
      have hjl:=(List.getElem?_eq_some_iff.1 h2).1
      have e1:l[i]=r':=(List.getElem?_eq_some_iff.1 hr).2
      have e2:l[j]=r:=(List.getElem?_eq_some_iff.1 h2).2
      have hpw:=List.pairwise_iff_getElem.1 hM.nodup
      rcases Nat.lt_trichotomy i j with hlt | hlt | hlt
      ·exact hpw i j (by simpa using hil) (by simpa using hjl) hlt (by simp only [List.getElem_map,e1,e2,hk,h3])
      ·exact hij hlt
      ·exact hpw j i (by simpa using hjl) (by simpa using hil) hlt (by simp only [List.getElem_map,e1,e2,hk,h3])
     simp [hne]
  ·rw [hput]
   intro r hr
   obtain ⟨r0,hr0,rfl⟩:=List.mem_map.1 hr
   rw [htk]; exact hM.wf r0 hr0
  ·rw [hput,List.map_map]
   have:((fun r:List Int=>r.take m)∘fun r=>bif decide (r.take m=kc) then kc++vc else r)=fun r=>r.take m:=by funext r; exact htk r
   rw [this]; exact hM.nodup
end
end Go.Sy
set_option linter.unusedVariables false
namespace Go.Sy
open Go.RowKit
section
variable {P:Program} {X:List (Nat×Go.Obj)} {E:Env} {w0 w:World} {objs:List Obj} {n K:Nat}
theorem xnY {t:TypeId} {z:AV} (hz:xnm P t=some z):z.plainCells=true:=by
 unfold xnm at hz
 split at hz
 ·rename_i i _
  cases h2:i.zero with
  | none=>simp [h2] at hz
  | some v=>simp [h2] at hz; subst hz; exact xv6 v
 ·cases hz
theorem xuf (a:Addr):a.add 0=a:=by unfold Addr.add; simp
theorem xrD (ks:List CK) (l:List (List Int)) (k:Nat):rowV ks (l.take k)=(rowV ks l).take (k*ks.length):=by
 have:=xv1 ks l 0 k
 simpa using this
theorem xBv (ks:List CK) (l:List (List Int)) (k:Nat):rowV ks (l.drop k)=(rowV ks l).drop (k*ks.length):=by
 have:=xv1 ks l k l.length
 rw [List.take_length,List.take_of_length_le (by rw [xbu]; exact Nat.le_refl _)] at this
 exact this
def xiP (l:List (List Int)) (lo:Nat) (m:List (List Int)):List (List Int):=l.take lo++m++l.drop (lo+m.length)
theorem xvI {l:List (List Int)} {lo:Nat} {m:List (List Int)} (h:lo+m.length≤l.length):(xiP l lo m).length=l.length:=by
 simp [xiP]; omega
theorem xyI (ks:List CK) (l:List (List Int)) (lo:Nat) (m:List (List Int)):rowV ks (xiP l lo m)=(rowV ks l).take (lo*ks.length)++rowV ks m++(rowV ks l).drop (lo*ks.length+(rowV ks m).length):=by
 rw [xiP,xn4,xn4,xrD,xBv,xbu ks m,Nat.add_mul]
theorem xvb {g cap:Nat} {cur:Array Value} {e:TypeId} {ks:List CK} {l:List (List Int)} {v:Value} (hv:v=.slice (some ⟨g,0,none⟩) l.length cap) (hg:w.heap[g]?=some (.cells cur e (0,0))) (hcap:l.length≤cap) (hmax:cap≤maxLen)
  (hcs:cur.size=cap*ks.length) (htk:cur.toList.take (l.length*ks.length)=rowV ks l) {lo:Nat} {m:List (List Int)} (h:lo+m.length≤l.length) :
  xa8 (w.setRow g (cur.toList.take (lo*ks.length)++rowV ks m++cur.toList.drop (lo*ks.length+(rowV ks m).length)).toArray) true e ks.length v (xiP l lo m).length (rowV ks (xiP l lo m)):=by
 have hml:(rowV ks m).length=m.length*ks.length:=xbu ks m
 have hcl:l.length*ks.length≤cur.size:=by rw [hcs]; exact Nat.mul_le_mul_right _ hcap
 have hfit:lo*ks.length+(rowV ks m).length≤l.length*ks.length:=by rw [hml,← Nat.add_mul]; exact Nat.mul_le_mul_right _ h
 have hnew:=setRow_heap w g cur (cur.toList.take (lo*ks.length)++rowV ks m++cur.toList.drop (lo*ks.length+(rowV ks m).length)).toArray e _ hg
 have htake:(cur.toList.take (lo*ks.length)++rowV ks m++cur.toList.drop (lo*ks.length+(rowV ks m).length)).take (l.length*ks.length)=rowV ks (xiP l lo m):=by
  rw [xyI,← htk]
  exact xrs cur.toList (rowV ks m) _ _ hfit (by simpa using hcl)
 refine xd6 ?_ (by rw [xbu])
 rw [xvI h]
 exact .inr ⟨g,cap,_,hv,hnew,hcap,hmax,by simp only [List.size_toArray,List.length_append,List.length_take,List.length_drop,Array.length_toList]; omega,by simpa using htake⟩
theorem xuj (ks:List CK) (zc:List Int) (m:Nat) (h0:zc.length=ks.length):(Builtin.zeroCells (elV ks 0 zc).toArray m).toList=rowV ks (List.replicate m zc):=by
 apply List.ext_getElem?
 intro i
 simp only [Builtin.zeroCells,Array.toList_map,Array.toList_range,List.getElem?_map]
 have hsz:(elV ks 0 zc).toArray.size=ks.length:=by simp [xd1]
 rw [hsz]
 by_cases hi:i<m*ks.length
 ·have hpos:0<ks.length:=by
   rcases Nat.eq_zero_or_pos ks.length with h | h
   ·rw [h] at hi; simp at hi
   ·exact h
  have hq:i/ks.length<m:=Nat.div_lt_of_lt_mul (by rw [Nat.mul_comm]; exact hi)
  have hr:i%ks.length<ks.length:=Nat.mod_lt _ hpos
  have:=xna ks (List.replicate m zc) (i/ks.length) (i%ks.length) hr (by simpa using hq)
  rw [Nat.div_add_mod'] at this
  rw [this,List.getElem?_range hi]
  have hgd:(List.replicate m zc).getD (i/ks.length) []=zc:=by simp [List.getD_eq_getElem?_getD,hq]
  rw [hgd]
  have hlt:i%ks.length<(elV ks 0 zc).length:=by rw [xd1]; exact hr
  simp only [Option.map_some]
  rw [List.getElem?_eq_getElem hlt]
  congr 1
  rw [getElem!_pos _ _ (by simpa using hlt)]
  simp
 ·rw [List.getElem?_eq_none (by simpa using hi),List.getElem?_eq_none (by rw [xbu]; simpa using hi)]
  rfl
theorem xvY {t ty te:TypeId} (ht:P.underlying t=some (.slice te)) {z:AV} (hz:xnm P te=some z) (hpl:z.plainCells=true) (hE:∀ k,(E k).oneCell'=true) {ks:List CK} {zc:List Int} (hc:xpf ks z.cells=some zc) {key:Nat} {l:List (List Int)}
  (hr:xa8 w true te ks.length (E key) l.length (rowV ks l)) {lo hi:Nat} (h1:lo≤hi) (h2:hi≤l.length) :
  ∃ w',(Builtin.clear_ #[t] ty #[xfE (E key) ks.length lo hi]).run P w=.ok (.tuple #[]) w'∧xa8 w' true te ks.length (E key) (xiP l lo (List.replicate (hi-lo) zc)).length (rowV ks (xiP l lo (List.replicate (hi-lo) zc)))∧Chg w w' (blkO (E key)).toList:=by
 obtain ⟨a,c,hv,hmc,_⟩:=hr.reads.is
 by_cases he:hi=lo
 ·subst he
  have hs:xiP l hi (List.replicate (hi-hi) zc)=l:=by simp [xiP]
  rw [hs]
  refine ⟨w,?_,hr,Chg.refl _ _⟩
  simp only [xfE,hv,sliced,Nat.sub_self]
  split
  ·cases a<;>simp [Builtin.clear_,run_underlying ht]
  ·cases a<;>simp [Builtin.clear_,run_underlying ht]
 ·rcases hr.own rfl with ⟨a',ha,hn⟩ | ⟨g,cap,cur,hE',hg,hcap,hmax,hcs,htk⟩
  ·omega
  ·have hne:¬ cap=lo:=by omega
   have hcap0:cap≠0:=by omega
   have hzl:=(xmY hc).1
   have hzn:=(xmY hc).2
   have hden:(z.den E).cells=(elV ks 0 zc).toArray:=by
    rw [xhc hpl hE]
    have:=xjU E [] hc
    rw [this]; rfl
   have hspl:=xvb (w:=w) hE' hg hcap hmax hcs htk (lo:=lo) (m:=List.replicate (hi-lo) zc) (by simp; omega)
   have hfit:lo*ks.length+(rowV ks (List.replicate (hi-lo) zc)).length≤cur.size:=by
    rw [xbu,List.length_replicate,← Nat.add_mul,hcs]
    exact Nat.mul_le_mul_right _ (by omega)
   have hst:=run_storeCells_at P g (lo*ks.length) te (rowV ks (List.replicate (hi-lo) zc)) 0 cur w hg (by simpa using hfit) (xoD _ _)
   simp only [Nat.add_zero] at hst
   refine ⟨_,?_,hspl,?_⟩
   ·obtain ⟨m,hm⟩:∃ m,hi-lo=m+1:=⟨hi-lo-1,by omega⟩
    simp only [xfE,hE',sliced,if_neg hne,Option.map_some,xik,Nat.zero_add,hm]
    rw [hm] at hst
    simp only [Builtin.clear_,run_underlying ht,Sem.run_bind,Sem.run_pure,Result.andThen_ok,List.getElem?_toArray,List.getElem?_cons_zero,xmf hz E,hden,xuj ks zc (m+1) hzn,hst]
   ·rw [hE']
    have:(blkO (.slice (some ⟨g,0,none⟩) l.length cap)).toList=[g]:=by simp [blkO,hcap0]
    rw [this]
    exact xjn _ _ _
theorem xmZ (hH:xae X E w0 ⟨objs,n⟩ w) {t ty te:TypeId} (ht:P.underlying t=some (.slice te)) {key:Nat} {sz:Option Nat} {lo hi:Option Int} {x:Eff} (h:xm0 P objs K te key sz lo hi=some x) :
  xdq n objs K x∧x.nk=0∧x.v=.tup []∧∃ l:List (List Int),(∃ a c,E key=.slice a l.length c)∧∃ k:Nat,(sz=none∨sz=some k)∧(x.holds→(loN lo:Int)≤hi.getD l.length∧hi.getD l.length≤(l.length:Int)∧∃ w',(Builtin.clear_ #[t] ty #[xfE (E key) k (loN lo) (hi.getD l.length).toNat]).run P w=.ok (.tuple #[]) w'∧xeW E objs w K x E w'):=by
 unfold xm0 at h
 split at h
 case h_2=>cases h
 rename_i k0 ver b hf
 split at h
 case h_2=>cases h
 rename_i e ks l z hr hz
 split at h
 case h_2=>cases h
 rename_i zc hc
 split at h
 case isFalse=>cases h
 rename_i hcond
 cases h
 obtain ⟨rfl,hsz⟩:=hcond
 obtain ⟨hm,hk⟩:=xan hf
 have hk:k0=key:=hk
 subst hk
 have hrow:xa8 w true e ks.length (E k0) l.length (rowV ks l):=xbR hr (hH.objs _ hm)
 obtain ⟨a,c,hv,_,_⟩:=hrow.reads.is
 refine ⟨xmS ⟨_,hm,rfl,rfl⟩ xb4 trivial,rfl,rfl,l,⟨a,c,hv⟩,ks.length,hsz,fun hp=>?_⟩
 obtain ⟨h1,h2⟩:xAU l lo (hi.getD l.length):=hp
 obtain ⟨w',r1,r2,r3⟩:=xvY (ty:=ty) ht hz (xnY hz) hH.env hc hrow (lo:=loN lo) (hi:=(hi.getD l.length).toNat) (by omega) (by omega)
 refine ⟨h1,h2,w',r1,xk6 hH.env ?_ ?_⟩
 ·have:xiP l (loN lo) (List.replicate ((hi.getD l.length).toNat-loN lo) zc)=l.take (loN lo)++List.replicate ((hi.getD l.length).toNat-loN lo) zc++l.drop (hi.getD l.length).toNat:=by
   simp only [xiP,List.length_replicate]
   congr 2
   omega
  rw [this] at r2
  exact r2
 ·rw [hv] at r3 ⊢
  cases hb:blkO (.slice a l.length c) with
  | none=>rw [hb] at r3; exact ⟨0,.inr r3⟩
  | some g=>rw [hb] at r3; exact ⟨g,.inl ⟨rfl,by simpa using r3⟩⟩
theorem xyj (hH:xae X E w0 ⟨objs,n⟩ w) {t ty:TypeId} {v:AV} {x:Eff} (h:xvs P objs K t v=some x) :
  xdq n objs K x∧x.nk=0∧x.v=.tup []∧(x.holds→∃ w',(Builtin.clear_ #[t] ty #[v.den E]).run P w=.ok (.tuple #[]) w'∧xeW E objs w K x E w'):=by
 unfold xvs at h
 split at h
 case h_2=>cases h
 rename_i te ht
 split at h
 ·rename_i key
  obtain ⟨a1,a2,a3,l,⟨a,c,hv⟩,k,_,a4⟩:=xmZ (ty:=ty) hH ht h
  refine ⟨a1,a2,a3,fun hp=>?_⟩
  obtain ⟨_,_,w',r1,r2⟩:=a4 hp
  refine ⟨w',?_,r2⟩
  have e:xfE (E key) k (loN none) ((none:Option Int).getD l.length).toNat=E key:=by
   simp only [xfE,hv,sliced,loN,Option.getD_none,Int.toNat_natCast,Nat.sub_zero,Nat.zero_mul]
   split
   ·rfl
   ·cases a with
    | none=>rfl
    | some a=>simp only [Option.map_some,xuf]
  rw [e] at r1
  exact r1
 ·rename_i key sz lo hi
  obtain ⟨a1,a2,a3,l,⟨a,c,hv⟩,k,hk,a4⟩:=xmZ (ty:=ty) hH ht h
  have hk:sz=k:=by rcases hk with hk | hk<;>cases hk; rfl
  subst hk
  exact ⟨a1,a2,a3,fun hp=>by obtain ⟨_,_,w',r1,r2⟩:=a4 hp; exact ⟨w',r1,r2⟩⟩
 ·cases h
theorem xvO (hH:xae X E w0 ⟨objs,n⟩ w) {t:TypeId} {v:AV} {lo:Option Int} {hi mx:Int} {x:Eff} (h:xpv P objs K t v lo hi mx=some x) {lov:Option Value} (hlo:xwX lov lo) {hiv mxv:Value} (h1:∃ k,hiv=.int k hi) (h2:∃ k,mxv=.int k mx) :
  xdq n objs K x∧x.nk=1∧(x.holds→∃ E' w',(Instr.sliceAt t (v.den E) lov (some hiv) (some mxv)).run P w=.ok (x.v.den E') w'∧xeW E objs w K x E' w'):=by
 obtain ⟨k,rfl⟩:=h1
 obtain ⟨k',rfl⟩:=h2
 unfold xpv at h
 split at h
 case h_2=>cases h
 rename_i key
 split at h
 case h_2=>cases h
 rename_i o hf
 split at h
 case h_2=>cases h
 rename_i e ks l hr
 split at h
 case h_2=>cases h
 rename_i te hu
 split at h
 case isFalse=>cases h
 rename_i hc
 cases h
 obtain ⟨rfl,hs⟩:=hc
 obtain ⟨hm,hk⟩:=xan hf
 subst hk
 obtain ⟨a,c,hv,hmc,_⟩:=(xbR hr (hH.objs _ hm)).reads.is
 refine ⟨⟨by simp,by simp,by simp,by simp,Or.inr (Nat.lt_succ_self K),by simp⟩,rfl,fun hp=>?_⟩
 obtain ⟨q1,q2,q3,q4⟩:0≤lo.getD 0∧lo.getD 0≤hi∧hi≤mx∧mx≤(l.length:Int):=hp
 obtain ⟨M,rfl⟩:∃ M:Nat,mx=M:=⟨mx.toNat,by omega⟩
 obtain ⟨H,rfl⟩:∃ H:Nat,hi=H:=⟨hi.toNat,by omega⟩
 have b1:M≤c:=by omega
 have b2:H≤M:=by omega
 let L:Nat:=(lo.getD 0).toNat
 let u:Value:=.slice (if M=L then a else a.map (·.add (L*ks.length))) (H-L) (M-L)
 refine ⟨fun k=>if k=K then u else E k,w,?_,fun k hk=>if_neg (by simp at hk; omega),fun k=>?_,Chg.refl _ _,by simp,by simp,by simp,by simp,by simp,by simp,by simp⟩
 ·simp only [AV.den,if_true,hv]
  cases lo with
  | none =>
   have hlo:lov=none:=hlo
   subst hlo
   have hL:L=0:=rfl
   simp [Instr.sliceAt,Instr.slice,Instr.sliceBounds,Instr.sliceBound,run_underlying hu,xcm hs,asIntOf,b1,b2,u,hL]
  | some m =>
   obtain ⟨k2,rfl⟩:=hlo
   obtain ⟨L',rfl⟩:∃ L':Nat,m=L':=⟨m.toNat,by simp at q1; omega⟩
   have b3:L'≤H:=by simp at q2; omega
   have hL:L=L':=rfl
   simp [Instr.sliceAt,Instr.slice,Instr.sliceBounds,Instr.sliceBound,run_underlying hu,xcm hs,asIntOf,b1,b2,b3,u,hL]
 ·by_cases hk:k=K
  ·simp [hk]; rfl
  ·simp [hk,hH.env k]
end
end Go.Sy
