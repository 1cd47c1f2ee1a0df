/-
  The executor's operations are sound: what stands for what; what the heap holds; small laws.
-/
import Derived.Test.YtcbgjecpnhjlpaaSyA
set_option linter.unusedVariables false
namespace Go.Sy
open Go.RowKit

theorem denL_map (E : Env) : ∀ l : List AV, AV.denL E l = l.map (AV.den E)
  | [] => rfl
  | a :: r => by simp [AV.denL, denL_map E r]
theorem allL_iff (p : Nat → Prop) : ∀ l : List AV, AV.allL p l ↔ ∀ a ∈ l, AV.all p a
  | [] => by simp [AV.allL]
  | a :: r => by simp [AV.allL, allL_iff p r]
theorem ltL_all (n : Nat) : ∀ l : List AV, AV.ltL n l ↔ ∀ a ∈ l, AV.lt n a := allL_iff _
theorem renL_map (f : Nat → Nat) : ∀ l : List AV, AV.renL f l = l.map (AV.ren f)
  | [] => rfl
  | a :: r => by simp [AV.renL, renL_map f r]
theorem keysL_map : ∀ l : List AV, AV.keysL l = l.flatMap AV.keys
  | [] => rfl
  | a :: r => by simp [AV.keysL, keysL_map r]

mutual
theorem den_congr_all {E E' : Env} {p : Nat → Prop} (h : ∀ k, p k → E' k = E k) : ∀ v : AV, AV.all p v → v.den E' = v.den E
  | .bool _, _ => rfl
  | .int _ _, _ => rfl
  | .ptr key off, hv => by simp [AV.den, h key hv]
  | .val _, _ => rfl
  | .fn f a b, hv => by simp [AV.den, denL_congr_all h a hv.1, denL_congr_all h b hv.2]
  | .agg cs, hv => by simp [AV.den, denL_congr_all h cs hv]
  | .tup cs, hv => by simp [AV.den, denL_congr_all h cs hv]
  | .sl key, hv => by simp [AV.den, h key hv]
  | .ix key _ _ _ _, hv => by simp [AV.den, h key hv]
  | .yl key, hv => by simp [AV.den, h key hv]
  | .vw key _ _ _, hv => by simp [AV.den, h key hv]
theorem denL_congr_all {E E' : Env} {p : Nat → Prop} (h : ∀ k, p k → E' k = E k) : ∀ l : List AV, AV.allL p l → AV.denL E' l = AV.denL E l
  | [], _ => rfl
  | a :: r, hl => by simp [AV.denL, den_congr_all h a hl.1, denL_congr_all h r hl.2]
end
theorem den_congr {E E' : Env} {n : Nat} (h : ∀ k, k < n → E' k = E k) (v : AV) (hv : AV.lt n v) : v.den E' = v.den E := den_congr_all h v hv
theorem denL_congr {E E' : Env} {n : Nat} (h : ∀ k, k < n → E' k = E k) (l : List AV) (hl : AV.ltL n l) : AV.denL E' l = AV.denL E l := denL_congr_all h l hl

mutual
theorem den_ren {E E' : Env} {f : Nat → Nat} {p : Nat → Prop} (h : ∀ k, p k → E' (f k) = E k) : ∀ v : AV, AV.all p v → (v.ren f).den E' = v.den E
  | .bool _, _ => rfl
  | .int _ _, _ => rfl
  | .ptr key off, hv => by simp [AV.den, AV.ren, h key hv]
  | .val _, _ => rfl
  | .fn g a b, hv => by simp [AV.den, AV.ren, denL_ren h a hv.1, denL_ren h b hv.2]
  | .agg cs, hv => by simp [AV.den, AV.ren, denL_ren h cs hv]
  | .tup cs, hv => by simp [AV.den, AV.ren, denL_ren h cs hv]
  | .sl key, hv => by simp [AV.den, AV.ren, h key hv]
  | .ix key _ _ _ _, hv => by simp [AV.den, AV.ren, h key hv]
  | .yl key, hv => by simp [AV.den, AV.ren, h key hv]
  | .vw key _ _ _, hv => by simp [AV.den, AV.ren, h key hv]
theorem denL_ren {E E' : Env} {f : Nat → Nat} {p : Nat → Prop} (h : ∀ k, p k → E' (f k) = E k) : ∀ l : List AV, AV.allL p l → AV.denL E' (AV.renL f l) = AV.denL E l
  | [], _ => rfl
  | a :: r, hl => by simp [AV.denL, AV.renL, den_ren h a hl.1, denL_ren h r hl.2]
end
mutual
theorem all_ren {f : Nat → Nat} {p q : Nat → Prop} (h : ∀ k, p k → q (f k)) : ∀ v : AV, AV.all p v → AV.all q (v.ren f)
  | .bool _, _ => trivial
  | .int _ _, _ => trivial
  | .ptr key off, hv => h key hv
  | .val _, _ => trivial
  | .fn _ a b, hv => ⟨allL_ren h a hv.1, allL_ren h b hv.2⟩
  | .agg cs, hv => allL_ren h cs hv
  | .tup cs, hv => allL_ren h cs hv
  | .sl key, hv => h key hv
  | .ix key _ _ _ _, hv => h key hv
  | .yl key, hv => h key hv
  | .vw key _ _ _, hv => h key hv
theorem allL_ren {f : Nat → Nat} {p q : Nat → Prop} (h : ∀ k, p k → q (f k)) : ∀ l : List AV, AV.allL p l → AV.allL q (AV.renL f l)
  | [], _ => trivial
  | a :: r, hl => ⟨all_ren h a hl.1, allL_ren h r hl.2⟩
end
mutual
theorem all_keys {p : Nat → Prop} : ∀ v : AV, AV.all p v ↔ ∀ k ∈ v.keys, p k
  | .bool _ => by simp [AV.all, AV.keys]
  | .int _ _ => by simp [AV.all, AV.keys]
  | .ptr key off => by simp [AV.all, AV.keys]
  | .val _ => by simp [AV.all, AV.keys]
  | .fn _ a b => by
    simp only [AV.all, AV.keys, allL_keys a, allL_keys b, List.mem_append]
    exact ⟨fun h k hk => hk.elim (h.1 k) (h.2 k), fun h => ⟨fun k hk => h k (.inl hk), fun k hk => h k (.inr hk)⟩⟩
  | .agg cs => by simp only [AV.all, AV.keys, allL_keys cs]
  | .tup cs => by simp only [AV.all, AV.keys, allL_keys cs]
  | .sl key => by simp [AV.all, AV.keys]
  | .ix key _ _ _ _ => by simp [AV.all, AV.keys]
  | .yl key => by simp [AV.all, AV.keys]
  | .vw key _ _ _ => by simp [AV.all, AV.keys]
theorem allL_keys {p : Nat → Prop} : ∀ l : List AV, AV.allL p l ↔ ∀ k ∈ AV.keysL l, p k
  | [] => by simp [AV.allL, AV.keysL]
  | a :: r => by
    simp only [AV.allL, AV.keysL, all_keys a, allL_keys r, List.mem_append]
    exact ⟨fun h k hk => hk.elim (h.1 k) (h.2 k), fun h => ⟨fun k hk => h k (.inl hk), fun k hk => h k (.inr hk)⟩⟩
end
theorem all_imp {p q : Nat → Prop} (h : ∀ k, p k → q k) (v : AV) (hv : AV.all p v) : AV.all q v := (all_keys v).2 fun k hk => h k ((all_keys v).1 hv k hk)
theorem allL_imp {p q : Nat → Prop} (h : ∀ k, p k → q k) (l : List AV) (hv : AV.allL p l) : AV.allL q l := (allL_keys l).2 fun k hk => h k ((allL_keys l).1 hv k hk)
theorem lt_mono {n m : Nat} (h : n ≤ m) (v : AV) (hv : AV.lt n v) : AV.lt m v := all_imp (fun _ hk => Nat.lt_of_lt_of_le hk h) v hv
theorem ltL_mono {n m : Nat} (h : n ≤ m) (l : List AV) (hv : AV.ltL n l) : AV.ltL m l := allL_imp (fun _ hk => Nat.lt_of_lt_of_le hk h) l hv

theorem den_ofScalar (E : Env) (v : Value) : (ofScalar v).den E = v := rfl
theorem den_ofValue (E : Env) (v : Value) : (ofValue v).den E = v := by
  cases v with
  | agg cs =>
    simp only [ofValue, AV.den, denL_map, List.map_map]
    have : (cs.toList.map (AV.den E ∘ ofScalar)) = cs.toList := by
      conv => rhs; rw [← List.map_id cs.toList]
      exact List.map_congr_left fun v _ => den_ofScalar E v
    rw [this]
  | _ => rfl
theorem all_ofScalar (p : Nat → Prop) (v : Value) : AV.all p (ofScalar v) := trivial
theorem all_ofValue (p : Nat → Prop) (v : Value) : AV.all p (ofValue v) := by
  cases v with
  | agg cs =>
    show AV.allL p _
    rw [allL_iff]
    intro a ha
    obtain ⟨x, _, rfl⟩ := List.mem_map.1 ha
    exact all_ofScalar p x
  | _ => trivial

/-! ### known values -/
mutual
theorem den_weak (E : Env) : ∀ v : AV, v.weak.den E = v.den E
  | .bool _ | .int _ _ | .ptr _ _ | .fn _ _ _ | .sl _ | .ix _ _ _ _ _ | .yl _ | .vw _ _ _ _ => rfl
  | .val v => by cases v <;> rfl
  | .agg cs => by simp only [AV.weak, AV.den, denL_weak E cs]
  | .tup cs => by simp only [AV.weak, AV.den, denL_weak E cs]
theorem denL_weak (E : Env) : ∀ l : List AV, AV.denL E (AV.weakL l) = AV.denL E l
  | [] => rfl
  | a :: r => by simp only [AV.weakL, AV.denL, den_weak E a, denL_weak E r]
end
mutual
theorem all_weak {p : Nat → Prop} : ∀ v : AV, AV.all p v → AV.all p v.weak
  | .bool _, h | .int _ _, h | .ptr _ _, h | .fn _ _ _, h | .sl _, h | .ix _ _ _ _ _, h | .yl _, h | .vw _ _ _ _, h => h
  | .val v, _ => by cases v <;> trivial
  | .agg cs, h => allL_weak cs h
  | .tup cs, h => allL_weak cs h
theorem allL_weak {p : Nat → Prop} : ∀ l : List AV, AV.allL p l → AV.allL p (AV.weakL l)
  | [], _ => trivial
  | a :: r, h => ⟨all_weak a h.1, allL_weak r h.2⟩
end
theorem den_strong (E : Env) (v : AV) : v.strong.den E = v.den E := by cases v <;> rfl
theorem all_strong {p : Nat → Prop} {v : AV} (h : AV.all p v) : AV.all p v.strong := by cases v <;> first | trivial | exact h

theorem partOf_one {v : Value} (h : v.oneCell' = true) (sz lo hi : Nat) : (partOf v sz lo hi).oneCell' = true := by
  cases v <;> first | exact h | rfl
theorem partOf_cells {v : Value} (h : v.oneCell' = true) (sz lo hi : Nat) : (partOf v sz lo hi).cells = #[partOf v sz lo hi] := by
  cases v <;> first | (simp [Value.oneCell'] at h; done) | rfl
theorem cells_den {v : AV} (h : v.plainCells = true) {E : Env} (hE : ∀ k, (E k).oneCell' = true) : (v.den E).cells = (AV.denL E v.cells).toArray := by
  cases v with
  | val x => cases x <;> first | rfl | cases h
  | sl k =>
    have := hE k
    simp only [AV.cells, AV.denL, AV.den]
    cases he : E k <;> simp [he, Value.oneCell'] at this <;> rfl
  | vw k sz lo hi =>
    simp only [AV.cells, AV.denL, AV.den]
    exact partOf_cells (hE k) _ _ _
  | _ => simp [AV.cells, AV.denL, AV.den, Value.cells]
theorem all_cells {p : Nat → Prop} {v : AV} (h : AV.all p v) : AV.allL p v.cells := by
  cases v with
  | agg cs => exact h
  | _ => exact ⟨h, trivial⟩

theorem beq_ne {k m : Nat} (h : k ≠ m) : Nat.beq k m = false := by
  cases hb : Nat.beq k m with
  | false => rfl
  | true => exact absurd (Nat.eq_of_beq_eq_true hb) h
theorem beq_self (k : Nat) : Nat.beq k k = true := by
  cases hb : Nat.beq k k with
  | true => rfl
  | false => exact absurd rfl (Nat.ne_of_beq_eq_false hb)
theorem any_beq {k : Nat} {l : List Nat} : l.any (Nat.beq k) = true ↔ k ∈ l := by
  rw [List.any_eq_true]
  exact ⟨fun ⟨x, hx, hb⟩ => by rw [Nat.eq_of_beq_eq_true hb]; exact hx, fun h => ⟨k, h, beq_self k⟩⟩

/-! ### the heap -/
/-- The block of an object's value. -/
def blkO : Value → Option Nat
  | .pointer (some a) => some a.block
  | .slice (some a) _ c => if c = 0 then none else some a.block
  | .map (some b) => some b
  | _ => none
/-- Below a place nothing has turned, and no draw is taken back. -/
structure Blw (B : Nat) (w w' : World) : Prop extends Below B w w' where
  drawn : w.drawn ≤ w'.drawn
theorem Blw.refl (B : Nat) (w : World) : Blw B w w := ⟨Below.refl B w, Nat.le_refl _⟩
theorem Blw.trans {B : Nat} {a b c : World} (h : Blw B a b) (k : Blw B b c) : Blw B a c := ⟨h.toBelow.trans k.toBelow, Nat.le_trans h.drawn k.drawn⟩
theorem Blw.mono {B B' : Nat} {w w' : World} (h : Blw B w w') (hB : B' ≤ B) : Blw B' w w' := ⟨h.toBelow.mono hB, h.drawn⟩
theorem Blw.drew {B : Nat} {a w : World} (h : Blw B a w) : Blw B a w.drew := ⟨h.toBelow.drew, Nat.le_succ_of_le h.drawn⟩
theorem Blw.alloc {B : Nat} {a w : World} (h : Blw B a w) (hB : B ≤ w.heap.size) (o : Go.Obj) : Blw B a (w.alloc o) := ⟨h.toBelow.alloc hB o, h.drawn⟩
theorem Blw.setCell {B : Nat} {a w : World} (h : Blw B a w) {p : Addr} (hp : B ≤ p.block) (u : Value) : Blw B a (w.setCell p u) := ⟨h.toBelow.setCell hp u, h.drawn⟩
/-- The world has turned in some blocks alone. -/
structure Chg (w w' : World) (bs : List Nat) : Prop where
  drawn : w.drawn ≤ w'.drawn
  os : w'.os = w.os
  tape : w'.tape = w.tape
  output : w'.output = w.output
  size : w.heap.size ≤ w'.heap.size
  block : ∀ k, k < w.heap.size → k ∉ bs → w'.heap[k]? = w.heap[k]?
theorem Chg.refl (w : World) (bs : List Nat) : Chg w w bs := ⟨Nat.le_refl _, rfl, rfl, rfl, Nat.le_refl _, fun _ _ _ => rfl⟩
theorem Chg.of_below {w w' : World} (h : Blw w.heap.size w w') (bs : List Nat) : Chg w w' bs := ⟨h.drawn, h.os, h.tape, h.output, h.size, fun k hk _ => h.block k hk⟩
theorem Chg.of_grown {w w' : World} {row : Option Nat} (hd : w.drawn ≤ w'.drawn) (h : w.grownBy w' row) {bs : List Nat} (hb : ∀ k, row = some k → k ∈ bs) : Chg w w' bs :=
  ⟨hd, h.os, h.tape, h.output, h.size, fun k hk hn => h.block k hk fun e => hn (hb k e.symm)⟩
theorem Blw.chg {w0 w w' : World} {bs : List Nat} (h : Blw w0.heap.size w0 w) (hc : Chg w w' bs) (hb : ∀ k ∈ bs, w0.heap.size ≤ k) : Blw w0.heap.size w0 w' :=
  h.trans ⟨⟨hc.os, hc.tape, hc.output, hc.size, fun k hk => hc.block k (Nat.lt_of_lt_of_le hk h.size) fun hm => by have := hb k hm; omega⟩, hc.drawn⟩

/-- The value is a slice of n elements whose cells are these. -/
structure Reads (w : World) (v : Value) (n : Nat) (vs : List Value) : Prop where
  is : ∃ a c, v = .slice a n c ∧ n ≤ c ∧ c ≤ maxLen
  cell : ∀ j u, vs[j]? = some u → ∃ a, headOf v = some a ∧ w.cell? (a.add j) = some u
  blk : ∀ b, blkO v = some b → b < w.heap.size
/-- It owns its block whole. -/
def OwnRow (w : World) (e : TypeId) (sz : Nat) (v : Value) (n : Nat) (vs : List Value) : Prop :=
  (∃ a, v = .slice a 0 0 ∧ n = 0) ∨
  ∃ g cap cur, v = .slice (some ⟨g, 0, none⟩) n cap ∧ w.heap[g]? = some (.cells cur e (0, 0)) ∧ n ≤ cap ∧ cap ≤ maxLen ∧ cur.size = cap * sz ∧ cur.toList.take (n * sz) = vs
structure RowOk (w : World) (own : Bool) (e : TypeId) (sz : Nat) (v : Value) (n : Nat) (vs : List Value) : Prop where
  reads : Reads w v n vs
  len : vs.length = n * sz
  own : own = true → OwnRow w e sz v n vs
def stOf : Nat → LoopState
  | 0 => .ready
  | 1 => .busy
  | 2 => .done
  | _ => .exhausted
/-- An entry's key, and its element. -/
def mpK (q : IntKind) (m : Nat) (r : List Int) : Value := .agg ((r.take m).map (Value.int q)).toArray
def mpV (ke : List CK) (m : Nat) (r : List Int) : Value := .agg (elV ke 0 (r.drop m)).toArray
structure MapOk (w : World) (v : Value) (q : IntKind) (m : Nat) (ke : List CK) (l : List (List Int)) (b : Nat) (es : Array MapEntry) (clock : Nat) : Prop where
  is : v = .map (some b)
  at_ : w.heap[b]? = some (.map es clock)
  ents : es.toList.map (fun e => (e.key, e.val)) = l.map fun r => (mpK q m r, mpV ke m r)
  wf : ∀ r ∈ l, (r.take m).length = m ∧ keyWf q (r.take m)
  nodup : (l.map (fun r => r.take m)).Nodup
def BodyOk (E : Env) (w : World) (key : Nat) (own : Bool) : Body → Prop
  | .cells cs => ∃ b T, E key = .pointer (some ⟨b, 0, none⟩) ∧ w.heap[b]? = some (.cells (AV.denL E cs).toArray T (0, 0))
  | .row e ks l => RowOk w own e ks.length (E key) l.length (rowV ks l)
  | .arr e sz els => RowOk w own e sz (E key) els.length (AV.denL E els.flatten) ∧ (∀ el ∈ els, el.length = sz) ∧ els.flatten.all AV.scalar = true
  | .nil => E key = .slice none 0 0
  | .mp kt et q m ke l => ∃ b es clock, MapOk w (E key) q m ke l b es clock
  | .loop st pend N tm params assign body => ∃ l fn tmps dfr, E key = .pointer (some ⟨l, 0, none⟩) ∧ w.heap[l]? = some (.loop { state := stOf st, pending := pend, fn := fn, tmps := tmps, params := params, assign := assign, body := body, defers := dfr }) ∧ N ≤ tmps.size ∧ ∀ t v, tm t = some v → tmps.getD t undef = v.den E
  | .fin st pend => ∃ l r, E key = .pointer (some ⟨l, 0, none⟩) ∧ w.heap[l]? = some (.loop r) ∧ r.state = stOf st ∧ r.pending = pend
/-- All keys in a body are such. -/
def BodyAll (p : Nat → Prop) : Body → Prop
  | .loop _ _ _ tm _ _ _ => ∀ t v, tm t = some v → AV.all p v
  | b => AV.allL p b.cellsOf
theorem bodyAll_imp {p q : Nat → Prop} (h : ∀ k, p k → q k) {b : Body} (hb : BodyAll p b) : BodyAll q b := by
  cases b with
  | loop => exact fun t v ht => all_imp h v (hb t v ht)
  | cells cs => exact allL_imp h _ hb
  | arr e sz els => exact allL_imp h _ hb
  | row => trivial
  | nil => trivial
  | mp => trivial
  | fin => trivial
theorem bodyAll_nil {p : Nat → Prop} : BodyAll p .nil := trivial
theorem bodyAll_row {p : Nat → Prop} {e : TypeId} {ks : List CK} {l : List (List Int)} : BodyAll p (.row e ks l) := trivial

/-- What the heap holds. Objects that are the call's own lie above all that was there in w0 (they may be written), apart from all others; the others are only read. X: blocks that are no object's own. -/
structure HeapOk (X : List (Nat × Go.Obj)) (E : Env) (w0 : World) (H : Heap) (w : World) : Prop where
  below : Blw w0.heap.size w0 w
  env : ∀ k, (E k).oneCell' = true
  objs : ∀ o ∈ H.objs, BodyOk E w o.key o.own o.body
  high : ∀ o ∈ H.objs, o.own = true → ∀ b, blkO (E o.key) = some b → w0.heap.size ≤ b
  inj : ∀ o ∈ H.objs, ∀ o' ∈ H.objs, o.own = true → o.key ≠ o'.key → ∀ b, blkO (E o.key) = some b → blkO (E o'.key) ≠ some b
  uniq : ∀ o ∈ H.objs, ∀ o' ∈ H.objs, o.key = o'.key → o = o'
  lt : ∀ o ∈ H.objs, o.key < H.next ∧ BodyAll (fun k => k < H.next) o.body
  prot : ∀ x ∈ X, w.heap[x.1]? = some x.2 ∧ ∀ o ∈ H.objs, blkO (E o.key) ≠ some x.1

theorem findObj_mem {key : Nat} : ∀ {l : List Obj} {o : Obj}, findObj key l = some o → o ∈ l ∧ o.key = key
  | [], o, h => by cases h
  | x :: r, o, h => by
    unfold findObj at h
    split at h
    · rename_i hb
      cases h
      exact ⟨List.mem_cons_self, by simpa using hb⟩
    · obtain ⟨h1, h2⟩ := findObj_mem h
      exact ⟨List.mem_cons_of_mem _ h1, h2⟩

theorem cell_same {w w' : World} {a : Addr} (h : w'.heap[a.block]? = w.heap[a.block]?) : w'.cell? a = w.cell? a := by simp [World.cell?, h]
theorem add_block (a : Addr) (j : Nat) : (a.add j).block = a.block := by unfold Addr.add; split <;> rfl

/-- What a body says stands as long as its own block is as it was, and the values of the keys in it. -/
theorem BodyOk.keep {E E' : Env} {w w' : World} {key : Nat} {own : Bool} {b : Body} (h : BodyOk E w key own b) (hk : E' key = E key)
    (hall : BodyAll (fun k => E' k = E k) b) (hw : ∀ g, blkO (E key) = some g → w'.heap[g]? = w.heap[g]?) (hs : w.heap.size ≤ w'.heap.size) : BodyOk E' w' key own b := by
  have hden : ∀ l : List AV, AV.allL (fun k => E' k = E k) l → AV.denL E' l = AV.denL E l := fun l hl => denL_congr_all (fun k hk => hk) l hl
  have row : ∀ {e sz n vs}, RowOk w own e sz (E key) n vs → RowOk w' own e sz (E' key) n vs := by
    intro e sz n vs hr
    rw [hk]
    refine ⟨⟨hr.reads.is, ?_, fun b hb => Nat.lt_of_lt_of_le (hr.reads.blk b hb) hs⟩, hr.len, ?_⟩
    · intro j u hj
      obtain ⟨a, ha, hc⟩ := hr.reads.cell j u hj
      refine ⟨a, ha, ?_⟩
      rw [cell_same]
      · exact hc
      · rw [add_block]
        obtain ⟨a', c, hv, hn, _⟩ := hr.reads.is
        rw [hv] at ha
        have ha : a' = some a := ha
        subst ha
        have hc0 : c ≠ 0 := by
          intro h0
          have hn0 : n = 0 := by omega
          have hlen : vs.length = 0 := by rw [hr.len, hn0, Nat.zero_mul]
          rw [List.eq_nil_of_length_eq_zero hlen] at hj
          simp at hj
        exact hw _ (by rw [hv]; simp [blkO, hc0])
    · intro ho
      rcases hr.own ho with h1 | ⟨g, cap, cur, hv, hg, h2, h3, h4⟩
      · exact .inl h1
      · by_cases hc : cap = 0
        · subst hc
          have : n = 0 := by omega
          subst this
          exact .inl ⟨_, hv, rfl⟩
        · exact .inr ⟨g, cap, cur, hv, by rw [hw g (by rw [hv]; simp [blkO, hc])]; exact hg, h2, h3, h4⟩
  cases b with
  | cells cs =>
    obtain ⟨g, T, h1, h2⟩ := h
    exact ⟨g, T, hk.trans h1, by rw [hw g (by rw [h1]; rfl), hden cs hall]; exact h2⟩
  | row e ks l => exact row h
  | arr e sz els => exact ⟨by rw [hden els.flatten hall]; exact row h.1, h.2⟩
  | nil => exact hk.trans h
  | mp kt et q m ke l =>
    obtain ⟨b, es, clock, h1, h2, h3, h4, h5⟩ := h
    exact ⟨b, es, clock, hk.trans h1, by rw [hw b (by rw [h1]; rfl)]; exact h2, h3, h4, h5⟩
  | fin st pend =>
    obtain ⟨l, r, h1, h2, h3⟩ := h
    exact ⟨l, r, hk.trans h1, by rw [hw l (by rw [h1]; rfl)]; exact h2, h3⟩
  | loop st pend N tm params assign body =>
    obtain ⟨l, fn, tmps, dfr, h1, h2, h3, h4⟩ := h
    refine ⟨l, fn, tmps, dfr, hk.trans h1, by rw [hw l (by rw [h1]; rfl)]; exact h2, h3, fun t v ht => ?_⟩
    rw [h4 t v ht]
    exact (den_congr_all (fun k hk => hk) v (hall t v ht)).symm

section ops
variable {P : Program} {E : Env} {w0 w : World} {H : Heap} {ρ : Operand → Option AV} {e : Operand → Value}

theorem run_sizeA {t : TypeId} {n : Nat} (h : sizeA P t = some n) (w : World) : (sizeOf t).run P w = .ok n w := by
  unfold sizeA at h
  cases hi : P.info? t with
  | none => simp [hi] at h
  | some i => simp [hi] at h; simp [sizeOf, typeInfo, hi, h]
theorem run_isAggA {t : TypeId} {b : Bool} (h : isAggA P t = some b) (w : World) : (isAgg t).run P w = .ok b w := by
  unfold isAggA at h
  cases hu : P.underlying t with
  | none => simp [hu] at h
  | some d =>
    simp only [hu, Option.map_some, Option.some.injEq] at h
    subst h
    simp only [isAgg, Sem.run_bind, run_underlying hu, Result.andThen_ok]
    cases d <;> rfl
theorem run_zeroA {t : TypeId} {z : AV} (h : zeroA P t = some z) (E : Env) (w : World) : (zeroValue t).run P w = .ok (z.den E) w := by
  unfold zeroA at h
  cases hi : P.info? t with
  | none => simp [hi] at h
  | some i =>
    simp only [hi] at h
    cases hz : i.zero with
    | none => simp [hz] at h
    | some v =>
      simp only [hz, Option.map_some, Option.some.injEq] at h
      subst h
      simp [zeroValue, typeInfo, hi, hz, den_ofValue]
theorem all_zeroA {t : TypeId} {z : AV} (h : zeroA P t = some z) (p : Nat → Prop) : AV.all p z := by
  unfold zeroA at h
  cases hi : P.info? t with
  | none => simp [hi] at h
  | some i =>
    simp only [hi] at h
    cases hz : i.zero with
    | none => simp [hz] at h
    | some v => simp only [hz, Option.map_some, Option.some.injEq] at h; subst h; exact all_ofValue p v
theorem plain_ofValue (v : Value) : (ofValue v).plainCells = true := by
  cases v <;> rfl

theorem run_partA {t : TypeId} {cs : List AV} {off : Nat} {v : AV} (h : partA P t cs off = some v) (E : Env) (w : World) :
    (part t (AV.denL E cs).toArray off).run P w = .ok (v.den E) w := by
  unfold partA at h
  split at h
  · rename_i n ha hs
    split at h
    · rename_i hl
      cases h
      simp only [part, Sem.run_bind, run_isAggA ha, Result.andThen_ok, if_true, run_sizeA hs]
      simp [denL_map, AV.den, List.map_drop, List.map_take]
    · cases h
  · rename_i n ha hs
    have hc : (AV.denL E cs).toArray[off]? = some (v.den E) := by simp [denL_map, h]
    simp [part, run_isAggA ha, hc]
  · cases h
theorem all_partA {t : TypeId} {cs : List AV} {off : Nat} {p : Nat → Prop} {v : AV} (h : partA P t cs off = some v) (hl : AV.allL p cs) : AV.all p v := by
  rw [allL_iff] at hl
  unfold partA at h
  split at h
  · split at h
    · cases h
      show AV.allL p _
      rw [allL_iff]
      exact fun a ha => hl a (List.mem_of_mem_drop (List.mem_of_mem_take ha))
    · cases h
  · exact hl v (List.mem_of_getElem? h)
  · cases h

/-! ### build -/
theorem foldl_set (off : Nat) : ∀ (vs : List Value) (k : Nat) (cs : Array Value), off + k + vs.length ≤ cs.size →
    ((vs.zipIdx k).foldl (fun (cs : Array Value) (c, j) => cs.setIfInBounds (off + j) c) cs).toList = cs.toList.take (off + k) ++ vs ++ cs.toList.drop (off + k + vs.length)
  | [], k, cs, _ => by simp
  | v :: r, k, cs, h => by
    simp only [List.zipIdx_cons, List.foldl_cons]
    rw [foldl_set off r (k + 1) _ (by simp at h ⊢; omega)]
    have e := list_seg_step cs.toList (off + k) v r (by simp at h ⊢; omega)
    simpa [Array.toList_setIfInBounds, Nat.add_assoc] using e
theorem fill_sound (E : Env) (hE : ∀ k, (E k).oneCell' = true) {place : Nat → Option (Nat × Nat)} : ∀ (ps : List (Nat × AV)) (cs out : List AV), fillA place ps cs = some out →
    Instr.fill place (AV.denL E cs).toArray (ps.map fun p => (p.1, p.2.den E)) = some (AV.denL E out).toArray
  | [], cs, out, h => by cases h; rfl
  | (i, v) :: rest, cs, out, h => by
    unfold fillA at h
    cases hp : place i with
    | none => simp [hp] at h
    | some on =>
      obtain ⟨off, n⟩ := on
      simp only [hp] at h
      split at h
      · rename_i hc
        obtain ⟨h1, h2, h3⟩ := hc
        have ih := fill_sound E hE rest _ out h
        simp only [List.map_cons, Instr.fill, hp]
        rw [cells_den h3 hE]
        have hs : ((AV.denL E v.cells).toArray.size ≠ n || decide (off + (AV.denL E v.cells).toArray.size > (AV.denL E cs).toArray.size)) = false := by
          simp [denL_map, h1]; omega
        rw [if_neg (by rw [hs]; exact Bool.false_ne_true)]
        rw [← ih]
        congr 1
        apply Array.ext'
        have := foldl_set off (AV.denL E v.cells) 0 (AV.denL E cs).toArray (by simp [denL_map]; omega)
        simp only [Nat.add_zero] at this
        have e2 : ((AV.denL E v.cells).toArray.zipIdx.foldl (fun (cs : Array Value) x => match x with | (c, j) => cs.setIfInBounds (off + j) c) (AV.denL E cs).toArray).toList = (AV.denL E cs).take off ++ AV.denL E v.cells ++ (AV.denL E cs).drop (off + (AV.denL E v.cells).length) := by
          rw [← Array.foldl_toList, Array.toList_zipIdx]
          exact this
        refine e2.trans ?_
        simp [setFrom, denL_map]
      · cases h
theorem allL_setFrom {p : Nat → Prop} {off : Nat} {cs vs : List AV} (h : AV.allL p cs) (hv : AV.allL p vs) : AV.allL p (setFrom cs off vs) := by
  rw [allL_iff] at *
  intro a ha
  simp only [setFrom, List.mem_append] at ha
  rcases ha with (ha | ha) | ha
  · exact h a (List.mem_of_mem_take ha)
  · exact hv a ha
  · exact h a (List.mem_of_mem_drop ha)
theorem all_fill {q : Nat → Prop} {place : Nat → Option (Nat × Nat)} : ∀ (ps : List (Nat × AV)) (cs out : List AV), fillA place ps cs = some out → (∀ p ∈ ps, AV.all q p.2) → AV.allL q cs → AV.allL q out
  | [], cs, out, h, _, hc => by cases h; exact hc
  | (i, v) :: rest, cs, out, h, hp, hc => by
    unfold fillA at h
    split at h
    · cases h
    · split at h
      · exact all_fill rest _ out h (fun p hp' => hp p (by simp [hp'])) (allL_setFrom hc (all_cells (hp (i, v) (by simp))))
      · cases h
theorem readParts_sound (hρ : ∀ x v, ρ x = some v → e x = v.den E) : ∀ (l : List (Nat × Operand)) (ps : List (Nat × AV)), readParts ρ l = some ps → (l.map fun p => (p.1, e p.2)) = ps.map fun p => (p.1, p.2.den E)
  | [], ps, h => by cases h; rfl
  | (i, x) :: r, ps, h => by
    unfold readParts at h
    split at h
    · rename_i v vs h1 h2
      cases h
      simp [hρ x v h1, readParts_sound hρ r vs h2]
    · cases h
theorem readParts_all {Q : AV → Prop} (hρ : ∀ x v, ρ x = some v → Q v) : ∀ (l : List (Nat × Operand)) (ps : List (Nat × AV)), readParts ρ l = some ps → ∀ p ∈ ps, Q p.2
  | [], ps, h => by cases h; simp
  | (i, x) :: r, ps, h => by
    unfold readParts at h
    split at h
    · rename_i v vs h1 h2
      cases h
      intro p hp
      rcases List.mem_cons.1 hp with rfl | hp
      · exact hρ x v h1
      · exact readParts_all hρ r vs h2 p hp
    · cases h
theorem readL_sound (hρ : ∀ x v, ρ x = some v → e x = v.den E) : ∀ (l : List Operand) (vs : List AV), readL ρ l = some vs → l.map e = AV.denL E vs
  | [], vs, h => by cases h; rfl
  | x :: r, vs, h => by
    unfold readL at h
    split at h
    · rename_i v ws h1 h2
      cases h
      simp [AV.denL, hρ x v h1, readL_sound hρ r ws h2]
    · cases h
theorem readL_all {Q : AV → Prop} (hρ : ∀ x v, ρ x = some v → Q v) : ∀ (l : List Operand) (vs : List AV), readL ρ l = some vs → ∀ v ∈ vs, Q v
  | [], vs, h => by cases h; simp
  | x :: r, vs, h => by
    unfold readL at h
    split at h
    · rename_i v ws h1 h2
      cases h
      intro p hp
      rcases List.mem_cons.1 hp with rfl | hp
      · exact hρ x p h1
      · exact readL_all hρ r ws h2 p hp
    · cases h

/-! ### loads and stores -/
theorem run_load_obj {t : TypeId} {cs : List AV} {b off : Nat} {T : TypeId} {v : AV} (hb : w.heap[b]? = some (.cells (AV.denL E cs).toArray T (0, 0))) (h : partA P t cs off = some v) :
    (loadVar t ⟨b, off, none⟩).run P w = .ok (v.den E) w := by
  have hadd : ∀ i, (⟨b, off, none⟩ : Addr).add i = ⟨b, off + i, none⟩ := fun i => by unfold Addr.add; split <;> simp_all
  unfold partA at h
  split at h
  · rename_i n ha hs
    split at h
    · rename_i hl
      cases h
      have hlen : ((AV.denL E cs).drop off |>.take n).length = n := by simp [denL_map]; omega
      have hr := run_loadCells_list (P := P) w ⟨b, off, none⟩ ((AV.denL E cs).drop off |>.take n) (fun j u hj => by
        rw [hadd]
        simp only [List.getElem?_take, List.getElem?_drop] at hj
        split at hj
        · simp [World.cell?, hb, hj]
        · cases hj)
      rw [hlen] at hr
      simp only [loadVar, Sem.run_bind, run_isAggA ha, Result.andThen_ok, if_true, run_sizeA hs, hr]
      simp [AV.den, denL_map, List.map_drop, List.map_take]
    · cases h
  · rename_i n ha hs
    have hc : w.cell? ⟨b, off, none⟩ = some (v.den E) := by simp [World.cell?, hb, denL_map, h]
    simp [loadVar, run_isAggA ha, hc, run_load]
  · cases h

theorem scalar_one {v : AV} (h : v.scalar = true) {E : Env} (hE : ∀ k, (E k).oneCell' = true) : (v.den E).oneCell' = true := by
  cases v with
  | sl k => exact hE k
  | vw k sz lo hi => exact partOf_one (hE k) _ _ _
  | val x => cases x <;> first | rfl | cases h
  | agg _ => cases h
  | tup _ => cases h
  | _ => rfl
theorem plain_of_scalars {v : AV} (h : v.cells.all AV.scalar = true) : v.plainCells = true := by
  cases v with
  | val x => cases x <;> first | rfl | (simp [AV.cells, AV.scalar] at h)
  | _ => rfl
end ops

end Go.Sy
