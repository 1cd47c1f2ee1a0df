/-
 The executor's operations are sound: what stands for what; what the heap holds; small laws.
-/
import Derived.Test.YtnijhjpaplihbaaGreatSyA
set_option linter.unusedVariables false
namespace Go.Sy
open Go.RowKit
theorem xax (E : Env) : ∀ l : List AV, AV.denL E l = l.map (AV.den E)
 | [] => rfl
 | a :: r => by simp [AV.denL, xax E r]
theorem xfQ (p : Nat → Prop) : ∀ l : List AV, AV.allL p l ↔ ∀ a ∈ l, AV.all p a
 | [] => by simp [AV.allL]
 | a :: r => by simp [AV.allL, xfQ p r]
theorem xha (n : Nat) : ∀ l : List AV, AV.ltL n l ↔ ∀ a ∈ l, AV.lt n a := xfQ _
mutual
theorem xfN {E E' : Env} {p : Nat → Prop} (h : ∀ k, p k → E' k = E k) : ∀ v : AV, AV.all p v → v.den E' = v.den E
 | .bool _, _ => rfl
 | .int _ _, _ => rfl
 | .ptr key off, hv => by simp [AV.den, h key hv]
 | .val _, _ => rfl
 | .fn f a b, hv => by simp [AV.den, xcC h a hv.1, xcC h b hv.2]
 | .agg cs, hv => by simp [AV.den, xcC h cs hv]
 | .tup cs, hv => by simp [AV.den, xcC h cs hv]
 | .sl key, hv => by simp [AV.den, h key hv]
 | .ix key _ _ _ _, hv => by simp [AV.den, h key hv]
 | .yl key, hv => by simp [AV.den, h key hv]
 | .vw key _ _ _, hv => by simp [AV.den, h key hv]
theorem xcC {E E' : Env} {p : Nat → Prop} (h : ∀ k, p k → E' k = E k) : ∀ l : List AV, AV.allL p l → AV.denL E' l = AV.denL E l
 | [], _ => rfl
 | a :: r, hl => by simp [AV.denL, xfN h a hl.1, xcC h r hl.2]
end
theorem xj8 {E E' : Env} {n : Nat} (h : ∀ k, k < n → E' k = E k) (v : AV) (hv : AV.lt n v) : v.den E' = v.den E := xfN h v hv
mutual
theorem xyy {E E' : Env} {f : Nat → Nat} {p : Nat → Prop} (h : ∀ k, p k → E' (f k) = E k) : ∀ v : AV, AV.all p v → (v.ren f).den E' = v.den E
 | .bool _, _ => rfl
 | .int _ _, _ => rfl
 | .ptr key off, hv => by simp [AV.den, AV.ren, h key hv]
 | .val _, _ => rfl
 | .fn g a b, hv => by simp [AV.den, AV.ren, xpY h a hv.1, xpY h b hv.2]
 | .agg cs, hv => by simp [AV.den, AV.ren, xpY h cs hv]
 | .tup cs, hv => by simp [AV.den, AV.ren, xpY h cs hv]
 | .sl key, hv => by simp [AV.den, AV.ren, h key hv]
 | .ix key _ _ _ _, hv => by simp [AV.den, AV.ren, h key hv]
 | .yl key, hv => by simp [AV.den, AV.ren, h key hv]
 | .vw key _ _ _, hv => by simp [AV.den, AV.ren, h key hv]
theorem xpY {E E' : Env} {f : Nat → Nat} {p : Nat → Prop} (h : ∀ k, p k → E' (f k) = E k) : ∀ l : List AV, AV.allL p l → AV.denL E' (AV.renL f l) = AV.denL E l
 | [], _ => rfl
 | a :: r, hl => by simp [AV.denL, AV.renL, xyy h a hl.1, xpY h r hl.2]
end
mutual
theorem xyO {f : Nat → Nat} {p q : Nat → Prop} (h : ∀ k, p k → q (f k)) : ∀ v : AV, AV.all p v → AV.all q (v.ren f)
 | .bool _, _ => trivial
 | .int _ _, _ => trivial
 | .ptr key off, hv => h key hv
 | .val _, _ => trivial
 | .fn _ a b, hv => ⟨xp8 h a hv.1, xp8 h b hv.2⟩
 | .agg cs, hv => xp8 h cs hv
 | .tup cs, hv => xp8 h cs hv
 | .sl key, hv => h key hv
 | .ix key _ _ _ _, hv => h key hv
 | .yl key, hv => h key hv
 | .vw key _ _ _, hv => h key hv
theorem xp8 {f : Nat → Nat} {p q : Nat → Prop} (h : ∀ k, p k → q (f k)) : ∀ l : List AV, AV.allL p l → AV.allL q (AV.renL f l)
 | [], _ => trivial
 | a :: r, hl => ⟨xyO h a hl.1, xp8 h r hl.2⟩
end
mutual
theorem xhp {p : Nat → Prop} : ∀ v : AV, AV.all p v ↔ ∀ k ∈ v.keys, p k
 | .bool _ => by simp [AV.all, AV.keys]
 | .int _ _ => by simp [AV.all, AV.keys]
 | .ptr key off => by simp [AV.all, AV.keys]
 | .val _ => by simp [AV.all, AV.keys]
 | .fn _ a b => by
  simp only [AV.all, AV.keys, xeg a, xeg b, List.mem_append]
  exact ⟨fun h k hk => hk.elim (h.1 k) (h.2 k), fun h => ⟨fun k hk => h k (.inl hk), fun k hk => h k (.inr hk)⟩⟩
 | .agg cs => by simp only [AV.all, AV.keys, xeg cs]
 | .tup cs => by simp only [AV.all, AV.keys, xeg cs]
 | .sl key => by simp [AV.all, AV.keys]
 | .ix key _ _ _ _ => by simp [AV.all, AV.keys]
 | .yl key => by simp [AV.all, AV.keys]
 | .vw key _ _ _ => by simp [AV.all, AV.keys]
theorem xeg {p : Nat → Prop} : ∀ l : List AV, AV.allL p l ↔ ∀ k ∈ AV.keysL l, p k
 | [] => by simp [AV.allL, AV.keysL]
 | a :: r => by
  simp only [AV.allL, AV.keysL, xhp a, xeg r, List.mem_append]
  exact ⟨fun h k hk => hk.elim (h.1 k) (h.2 k), fun h => ⟨fun k hk => h k (.inl hk), fun k hk => h k (.inr hk)⟩⟩
end
theorem xgk {p q : Nat → Prop} (h : ∀ k, p k → q k) (v : AV) (hv : AV.all p v) : AV.all q v := (xhp v).2 fun k hk => h k ((xhp v).1 hv k hk)
theorem xlU {p q : Nat → Prop} (h : ∀ k, p k → q k) (l : List AV) (hv : AV.allL p l) : AV.allL q l := (xeg l).2 fun k hk => h k ((xeg l).1 hv k hk)
theorem xg9 {n m : Nat} (h : n ≤ m) (v : AV) (hv : AV.lt n v) : AV.lt m v := xgk (fun _ hk => Nat.lt_of_lt_of_le hk h) v hv
theorem xzb {n m : Nat} (h : n ≤ m) (l : List AV) (hv : AV.ltL n l) : AV.ltL m l := xlU (fun _ hk => Nat.lt_of_lt_of_le hk h) l hv
theorem xxA (E : Env) (v : Value) : (xpv v).den E = v := rfl
theorem xj7 (E : Env) (v : Value) : (ofValue v).den E = v := by
 cases v with
 | agg cs =>
  simp only [ofValue, AV.den, xax, List.map_map]
  have : (cs.toList.map (AV.den E ∘ xpv)) = cs.toList := by
   conv => rhs; rw [← List.map_id cs.toList]
   exact List.map_congr_left fun v _ => xxA E v
  rw [this]
 | _ => rfl
theorem xxM (p : Nat → Prop) (v : Value) : AV.all p (xpv v) := trivial
theorem xiy (p : Nat → Prop) (v : Value) : AV.all p (ofValue v) := by
 cases v with
 | agg cs =>
  show AV.allL p _
  rw [xfQ]
  intro a ha
  obtain ⟨x, _, rfl⟩ := List.mem_map.1 ha
  exact xxM p x
 | _ => trivial
mutual
theorem xg8 (E : Env) : ∀ v : AV, v.weak.den E = v.den E
 | .bool _ | .int _ _ | .ptr _ _ | .fn _ _ _ | .sl _ | .ix _ _ _ _ _ | .yl _ | .vw _ _ _ _ => rfl
 | .val v => by cases v <;> rfl
 | .agg cs => by simp only [AV.weak, AV.den, xnc E cs]
 | .tup cs => by simp only [AV.weak, AV.den, xnc E cs]
theorem xnc (E : Env) : ∀ l : List AV, AV.denL E (AV.weakL l) = AV.denL E l
 | [] => rfl
 | a :: r => by simp only [AV.weakL, AV.denL, xg8 E a, xnc E r]
end
mutual
theorem xsa {p : Nat → Prop} : ∀ v : AV, AV.all p v → AV.all p v.weak
 | .bool _, h | .int _ _, h | .ptr _ _, h | .fn _ _ _, h | .sl _, h | .ix _ _ _ _ _, h | .yl _, h | .vw _ _ _ _, h => h
 | .val v, _ => by cases v <;> trivial
 | .agg cs, h => xtT cs h
 | .tup cs, h => xtT cs h
theorem xtT {p : Nat → Prop} : ∀ l : List AV, AV.allL p l → AV.allL p (AV.weakL l)
 | [], _ => trivial
 | a :: r, h => ⟨xsa a h.1, xtT r h.2⟩
end
theorem xz9 (E : Env) (v : AV) : v.strong.den E = v.den E := by cases v <;> rfl
theorem xAk {p : Nat → Prop} {v : AV} (h : AV.all p v) : AV.all p v.strong := by cases v <;> first | trivial | exact h
theorem xqu {v : Value} (h : v.oneCell' = true) (sz lo hi : Nat) : (xgJ v sz lo hi).oneCell' = true := by
 cases v <;> first | exact h | rfl
theorem xwY {v : Value} (h : v.oneCell' = true) (sz lo hi : Nat) : (xgJ v sz lo hi).cells = #[xgJ v sz lo hi] := by
 cases v <;> first | (simp [Value.oneCell'] at h; done) | rfl
theorem xic {v : AV} (h : v.plainCells = true) {E : Env} (hE : ∀ k, (E k).oneCell' = true) : (v.den E).cells = (AV.denL E v.cells).toArray := by
 cases v with
 | val x => cases x <;> first | rfl | cases h
 | sl k =>
  have := hE k
  simp only [AV.cells, AV.denL, AV.den]
  cases he : E k <;> simp [he, Value.oneCell'] at this <;> rfl
 | vw k sz lo hi =>
  simp only [AV.cells, AV.denL, AV.den]
  exact xwY (hE k) _ _ _
 | _ => simp [AV.cells, AV.denL, AV.den, Value.cells]
theorem xlw {p : Nat → Prop} {v : AV} (h : AV.all p v) : AV.allL p v.cells := by
 cases v with
 | agg cs => exact h
 | _ => exact ⟨h, trivial⟩
theorem xil {k m : Nat} (h : k ≠ m) : Nat.beq k m = false := by
 cases hb : Nat.beq k m with
 | false => rfl
 | true => exact absurd (Nat.eq_of_beq_eq_true hb) h
theorem xdM (k : Nat) : Nat.beq k k = true := by
 cases hb : Nat.beq k k with
 | true => rfl
 | false => exact absurd rfl (Nat.ne_of_beq_eq_false hb)
theorem xkT {k : Nat} {l : List Nat} : l.any (Nat.beq k) = true ↔ k ∈ l := by
 rw [List.any_eq_true]
 exact ⟨fun ⟨x, hx, hb⟩ => by rw [Nat.eq_of_beq_eq_true hb]; exact hx, fun h => ⟨k, h, xdM k⟩⟩
def blkO : Value → Option Nat
 | .pointer (some a) => some a.block
 | .slice (some a) _ c => if c = 0 then none else some a.block
 | .map (some b) => some b
 | _ => none
structure Blw (B : Nat) (w w' : World) : Prop extends Below B w w' where
 drawn : w.drawn ≤ w'.drawn
theorem Blw.refl (B : Nat) (w : World) : Blw B w w := ⟨Below.refl B w, Nat.le_refl _⟩
theorem Blw.trans {B : Nat} {a b c : World} (h : Blw B a b) (k : Blw B b c) : Blw B a c := ⟨h.toBelow.trans k.toBelow, Nat.le_trans h.drawn k.drawn⟩
theorem Blw.mono {B B' : Nat} {w w' : World} (h : Blw B w w') (hB : B' ≤ B) : Blw B' w w' := ⟨h.toBelow.mono hB, h.drawn⟩
theorem Blw.drew {B : Nat} {a w : World} (h : Blw B a w) : Blw B a w.drew := ⟨h.toBelow.drew, Nat.le_succ_of_le h.drawn⟩
theorem Blw.alloc {B : Nat} {a w : World} (h : Blw B a w) (hB : B ≤ w.heap.size) (o : Go.Obj) : Blw B a (w.alloc o) := ⟨h.toBelow.alloc hB o, h.drawn⟩
structure Chg (w w' : World) (bs : List Nat) : Prop where
 drawn : w.drawn ≤ w'.drawn
 os : w'.os = w.os
 tape : w'.tape = w.tape
 output : w'.output = w.output
 size : w.heap.size ≤ w'.heap.size
 block : ∀ k, k < w.heap.size → k ∉ bs → w'.heap[k]? = w.heap[k]?
theorem Chg.refl (w : World) (bs : List Nat) : Chg w w bs := ⟨Nat.le_refl _, rfl, rfl, rfl, Nat.le_refl _, fun _ _ _ => rfl⟩
theorem Chg.of_below {w w' : World} (h : Blw w.heap.size w w') (bs : List Nat) : Chg w w' bs := ⟨h.drawn, h.os, h.tape, h.output, h.size, fun k hk _ => h.block k hk⟩
theorem Chg.of_grown {w w' : World} {row : Option Nat} (hd : w.drawn ≤ w'.drawn) (h : w.grownBy w' row) {bs : List Nat} (hb : ∀ k, row = some k → k ∈ bs) : Chg w w' bs :=
 ⟨hd, h.os, h.tape, h.output, h.size, fun k hk hn => h.block k hk fun e => hn (hb k e.symm)⟩
theorem Blw.chg {w0 w w' : World} {bs : List Nat} (h : Blw w0.heap.size w0 w) (hc : Chg w w' bs) (hb : ∀ k ∈ bs, w0.heap.size ≤ k) : Blw w0.heap.size w0 w' :=
 h.trans ⟨⟨hc.os, hc.tape, hc.output, hc.size, fun k hk => hc.block k (Nat.lt_of_lt_of_le hk h.size) fun hm => by have := hb k hm; omega⟩, hc.drawn⟩
structure xxN (w : World) (v : Value) (n : Nat) (vs : List Value) : Prop where
 is : ∃ a c, v = .slice a n c ∧ n ≤ c ∧ c ≤ maxLen
 cell : ∀ j u, vs[j]? = some u → ∃ a, xoe v = some a ∧ w.cell? (a.add j) = some u
 blk : ∀ b, blkO v = some b → b < w.heap.size
def xor (w : World) (e : TypeId) (sz : Nat) (v : Value) (n : Nat) (vs : List Value) : Prop :=
 (∃ a, v = .slice a 0 0 ∧ n = 0) ∨
 ∃ g cap cur, v = .slice (some ⟨g, 0, none⟩) n cap ∧ w.heap[g]? = some (.cells cur e (0, 0)) ∧ n ≤ cap ∧ cap ≤ maxLen ∧ cur.size = cap * sz ∧ cur.toList.take (n * sz) = vs
structure xbc (w : World) (own : Bool) (e : TypeId) (sz : Nat) (v : Value) (n : Nat) (vs : List Value) : Prop where
 reads : xxN w v n vs
 len : vs.length = n * sz
 own : own = true → xor w e sz v n vs
def stOf : Nat → LoopState
 | 0 => .ready
 | 1 => .busy
 | 2 => .done
 | _ => .exhausted
def mpK (q : IntKind) (m : Nat) (r : List Int) : Value := .agg ((r.take m).map (Value.int q)).toArray
def mpV (ke : List CK) (m : Nat) (r : List Int) : Value := .agg (elV ke 0 (r.drop m)).toArray
structure xCF (w : World) (v : Value) (q : IntKind) (m : Nat) (ke : List CK) (l : List (List Int)) (b : Nat) (es : Array MapEntry) (clock : Nat) : Prop where
 is : v = .map (some b)
 at_ : w.heap[b]? = some (.map es clock)
 ents : es.toList.map (fun e => (e.key, e.val)) = l.map fun r => (mpK q m r, mpV ke m r)
 wf : ∀ r ∈ l, (r.take m).length = m ∧ xqC q (r.take m)
 nodup : (l.map (fun r => r.take m)).Nodup
def xnj (w : World) : NK → Int → Value → Prop
 | .c k, n, v => v = k.val n
 | .s e ks, n, v => v.oneCell' = true ∧ xbc w false e ks.length v (decL n).length (rowV ks (decL n))
structure xjr (w : World) (own : Bool) (e : TypeId) (ks : List NK) (v : Value) (l : List (List Int)) (vs : List Value) : Prop where
 row : xbc w own e ks.length v l.length vs
 cell : ∀ (i j : Nat) (k : NK), i < l.length → ks[j]? = some k → ∃ u, vs[i * ks.length + j]? = some u ∧ xnj w k ((l.getD i []).getD j 0) u
def Inn (E : Env) (w : World) (key : Nat) : Body → Nat → Prop
 | .nst _ ks l, b => ∃ a j u, xoe (E key) = some a ∧ j < l.length * ks.length ∧ w.cell? (a.add j) = some u ∧ blkO u = some b
 | _, _ => False
def xbi (E : Env) (w : World) (key : Nat) (own : Bool) : Body → Prop
 | .cells cs => ∃ b T, E key = .pointer (some ⟨b, 0, none⟩) ∧ w.heap[b]? = some (.cells (AV.denL E cs).toArray T (0, 0))
 | .row e ks l => xbc w own e ks.length (E key) l.length (rowV ks l)
 | .arr e sz els => xbc w own e sz (E key) els.length (AV.denL E els.flatten) ∧ (∀ el ∈ els, el.length = sz) ∧ els.flatten.all AV.scalar = true
 | .nil => E key = .slice none 0 0
 | .nst e ks l => ∃ vs, xjr w own e ks (E key) l vs
 | .sub e ks l => own = false ∧ xbc w own e ks.length (E key) l.length (rowV ks l)
 | .mp kt et q m ke l => ∃ b es clock, xCF w (E key) q m ke l b es clock
 | .loop st pend N tm params assign body => ∃ l fn tmps dfr, E key = .pointer (some ⟨l, 0, none⟩) ∧ w.heap[l]? = some (.loop { state := stOf st, pending := pend, fn := fn, tmps := tmps, params := params, assign := assign, body := body, defers := dfr }) ∧ N ≤ tmps.size ∧ ∀ t v, tm t = some v → tmps.getD t undef = v.den E
 | .fin st pend => ∃ l r, E key = .pointer (some ⟨l, 0, none⟩) ∧ w.heap[l]? = some (.loop r) ∧ r.state = stOf st ∧ r.pending = pend
def Fr (E : Env) (w : World) (o : Obj) (b : Nat) : Prop := (xqD o.body = true ∧ blkO (E o.key) = some b) ∨ (o.own = true ∧ Inn E w o.key o.body b)
def xv9 : Body → Bool
 | .nst _ _ _ => false
 | .sub _ _ _ => false
 | _ => true
theorem xe9 {E : Env} {w : World} {key : Nat} {b : Body} (h : xv9 b = true) {g : Nat} (hi : Inn E w key b g) {C : Prop} : C := by
 cases b <;> first | exact hi.elim | cases h
theorem xm1 {E : Env} {w : World} {o : Obj} (h : xv9 o.body = true) {g : Nat} (hi : Fr E w o g) {C : Prop} : C := by
 obtain ⟨k, v, own, b⟩ := o
 rcases hi with hi | hi
 ·have h : xv9 b = true := h
  have h1 : xqD b = true := hi.1
  cases b <;> first | (cases h; done) | (cases h1; done)
 ·exact xe9 h hi.2
def xbh (p : Nat → Prop) : Body → Prop
 | .loop _ _ _ tm _ _ _ => ∀ t v, tm t = some v → AV.all p v
 | b => AV.allL p b.cellsOf
theorem xa3 {p q : Nat → Prop} (h : ∀ k, p k → q k) {b : Body} (hb : xbh p b) : xbh q b := by
 cases b with
 | loop => exact fun t v ht => xgk h v (hb t v ht)
 | cells cs => exact xlU h _ hb
 | arr e sz els => exact xlU h _ hb
 | row => trivial
 | nil => trivial
 | nst => trivial
 | sub => trivial
 | mp => trivial
 | fin => trivial
theorem xoM {p : Nat → Prop} : xbh p .nil := trivial
theorem xb0 {p : Nat → Prop} {e : TypeId} {ks : List CK} {l : List (List Int)} : xbh p (.row e ks l) := trivial
structure xag (X : List (Nat × Go.Obj)) (E : Env) (w0 : World) (H : Heap) (w : World) : Prop where
 below : Blw w0.heap.size w0 w
 env : ∀ k, (E k).oneCell' = true
 objs : ∀ o ∈ H.objs, xbi E w o.key o.own o.body
 high : ∀ o ∈ H.objs, o.own = true → ∀ b, blkO (E o.key) = some b → w0.heap.size ≤ b
 inj : ∀ o ∈ H.objs, ∀ o' ∈ H.objs, o.own = true → o.key ≠ o'.key → ∀ b, blkO (E o.key) = some b → blkO (E o'.key) ≠ some b
 uniq : ∀ o ∈ H.objs, ∀ o' ∈ H.objs, o.key = o'.key → o = o'
 lt : ∀ o ∈ H.objs, o.key < H.next ∧ xbh (fun k => k < H.next) o.body
 prot : ∀ x ∈ X, w.heap[x.1]? = some x.2 ∧ ∀ o ∈ H.objs, blkO (E o.key) ≠ some x.1
 deep : ∀ o ∈ H.objs, ∀ b, Inn E w o.key o.body b → ∀ o' ∈ H.objs, o'.own = true → blkO (E o'.key) ≠ some b
 protD : ∀ x ∈ X, ∀ o ∈ H.objs, ¬ Inn E w o.key o.body x.1
 fsh : ∀ o ∈ H.objs, ∀ b, Fr E w o b → w0.heap.size ≤ b
theorem xah {key : Nat} : ∀ {l : List Obj} {o : Obj}, xai key l = some o → o ∈ l ∧ o.key = key
 | [], o, h => by cases h
 | x :: r, o, h => by
  unfold xai at h
  split at h
  ·rename_i hb
   cases h
   exact ⟨List.mem_cons_self, by simpa using hb⟩
  ·obtain ⟨h1, h2⟩ := xah h
   exact ⟨List.mem_cons_of_mem _ h1, h2⟩
theorem xtA {w w' : World} {a : Addr} (h : w'.heap[a.block]? = w.heap[a.block]?) : w'.cell? a = w.cell? a := by simp [World.cell?, h]
theorem xka (a : Addr) (j : Nat) : (a.add j).block = a.block := by unfold Addr.add; split <;> rfl
theorem xbc.move {w w' : World} {own : Bool} {e : TypeId} {sz : Nat} {v : Value} {n : Nat} {vs : List Value} (hr : xbc w own e sz v n vs) (hw : ∀ g, blkO v = some g → w'.heap[g]? = w.heap[g]?) (hs : w.heap.size ≤ w'.heap.size) : xbc w' own e sz v n vs := by
 refine ⟨⟨hr.reads.is, ?_, fun b hb => Nat.lt_of_lt_of_le (hr.reads.blk b hb) hs⟩, hr.len, ?_⟩
 ·intro j u hj
  obtain ⟨a, ha, hc⟩ := hr.reads.cell j u hj
  refine ⟨a, ha, ?_⟩
  rw [xtA]
  ·exact hc
  ·rw [xka]
   obtain ⟨a', c, hv, hn, _⟩ := hr.reads.is
   rw [hv] at ha
   have ha : a' = some a := ha
   subst ha
   have hc0 : c ≠ 0 := by
    intro h0
    have hn0 : n = 0 := by omega
    have hlen : vs.length = 0 := by rw [hr.len, hn0, Nat.zero_mul]
    rw [List.eq_nil_of_length_eq_zero hlen] at hj
    simp at hj
   exact hw _ (by rw [hv]; simp [blkO, hc0])
 ·intro ho
  rcases hr.own ho with h1 | ⟨g, cap, cur, hv, hg, h2, h3, h4⟩
  ·exact .inl h1
  ·by_cases hc : cap = 0
   ·subst hc
    have : n = 0 := by omega
    subst this
    exact .inl ⟨_, hv, rfl⟩
   ·exact .inr ⟨g, cap, cur, hv, by rw [hw g (by rw [hv]; simp [blkO, hc])]; exact hg, h2, h3, h4⟩
theorem xxN.blkHead {w : World} {v : Value} {n sz : Nat} {vs : List Value} (h : xxN w v n vs) (hl : vs.length = n * sz) {j : Nat} {u : Value} (hj : vs[j]? = some u) : ∃ a, xoe v = some a ∧ w.cell? (a.add j) = some u ∧ blkO v = some a.block := by
 obtain ⟨a, ha, hc⟩ := h.cell j u hj
 refine ⟨a, ha, hc, ?_⟩
 obtain ⟨a', c, hv, hn, _⟩ := h.is
 rw [hv] at ha
 have ha : a' = some a := ha
 subst ha
 have hc0 : c ≠ 0 := by
  intro h0
  have hn0 : n = 0 := by omega
  have hlen : vs.length = 0 := by rw [hl, hn0, Nat.zero_mul]
  rw [List.eq_nil_of_length_eq_zero hlen] at hj
  simp at hj
 rw [hv]; simp [blkO, hc0]
theorem xjr.get {w : World} {own : Bool} {e : TypeId} {ks : List NK} {v : Value} {l : List (List Int)} {vs : List Value} (h : xjr w own e ks v l vs) {q : Nat} {u : Value} (hq : vs[q]? = some u) : q < l.length * ks.length ∧ ∃ k n, xnj w k n u := by
 have hlt : q < l.length * ks.length := by
  have := (List.getElem?_eq_some_iff.1 hq).1
  rw [h.row.len] at this; exact this
 have h0 : 0 < ks.length := by
  rcases Nat.eq_zero_or_pos ks.length with h | h
  ·rw [h, Nat.mul_zero] at hlt; omega
  ·exact h
 have hi : q / ks.length < l.length := (Nat.div_lt_iff_lt_mul h0).2 hlt
 have hm : q % ks.length < ks.length := Nat.mod_lt _ h0
 obtain ⟨u', hu', hc⟩ := h.cell (q / ks.length) (q % ks.length) ks[q % ks.length] hi (List.getElem?_eq_getElem hm)
 rw [Nat.div_add_mod'] at hu'
 rw [hq] at hu'
 cases hu'
 exact ⟨hlt, _, _, hc⟩
theorem xnj.lt {w : World} {k : NK} {n : Int} {u : Value} (h : xnj w k n u) {b : Nat} (hb : blkO u = some b) : b < w.heap.size := by
 cases k with
 | c k =>
  have h : u = k.val n := h
  rw [h] at hb
  cases k <;> cases hb
 | s e ks => exact h.2.reads.blk b hb
theorem xlt {E : Env} {w : World} {key : Nat} {own : Bool} {b : Body} {g : Nat} (hb : xbi E w key own b) (hg : blkO (E key) = some g) : g < w.heap.size := by
 cases b with
 | cells cs => obtain ⟨g', T, h1, h2⟩ := hb; rw [h1] at hg; cases hg; exact (Array.getElem?_eq_some_iff.1 h2).1
 | row e ks l => exact hb.reads.blk g hg
 | arr e sz els => exact hb.1.reads.blk g hg
 | nil => have hb : E key = _ := hb; rw [hb] at hg; cases hg
 | nst e ks l => obtain ⟨vs, hb⟩ := hb; exact hb.row.reads.blk g hg
 | sub e ks l => exact hb.2.reads.blk g hg
 | mp kt et q m ke l => obtain ⟨g', es, clock, h1, h2, _⟩ := hb; rw [h1] at hg; cases hg; exact (Array.getElem?_eq_some_iff.1 h2).1
 | fin st pend => obtain ⟨g', r, h1, h2, _⟩ := hb; rw [h1] at hg; cases hg; exact (Array.getElem?_eq_some_iff.1 h2).1
 | loop st pend N tm params assign body => obtain ⟨g', fn, tmps, dfr, h1, h2, _⟩ := hb; rw [h1] at hg; cases hg; exact (Array.getElem?_eq_some_iff.1 h2).1
theorem xod {E : Env} {w : World} {key : Nat} {own : Bool} {b : Body} (h : xbi E w key own b) {g : Nat} (hg : Inn E w key b g) : g < w.heap.size := by
 cases b with
 | nst e ks l =>
  obtain ⟨vs, h⟩ := h
  obtain ⟨a, j, u, ha, hj, hc, hb⟩ := hg
  have hjv : j < vs.length := by rw [h.row.len]; exact hj
  obtain ⟨a', ha', hc'⟩ := h.row.reads.cell j vs[j] (List.getElem?_eq_getElem hjv)
  rw [ha] at ha'
  cases ha'
  rw [hc] at hc'
  have e : u = vs[j] := Option.some.inj hc'
  obtain ⟨_, k, n, hk⟩ := h.get (q := j) (u := u) (by rw [e]; exact List.getElem?_eq_getElem hjv)
  exact hk.lt hb
 | _ => exact hg.elim
theorem xjl {E E' : Env} {w w' : World} {key : Nat} {own : Bool} {b : Body} (h : xbi E w key own b) (hk : E' key = E key) (hw : ∀ g, blkO (E key) = some g → w'.heap[g]? = w.heap[g]?) {g : Nat} (hg : Inn E' w' key b g) : Inn E w key b g := by
 cases b with
 | nst e ks l =>
  obtain ⟨vs, h⟩ := h
  obtain ⟨a, j, u, ha, hj, hc, hb⟩ := hg
  rw [hk] at ha
  have hjv : j < vs.length := by rw [h.row.len]; exact hj
  obtain ⟨a', ha', hc', hblk⟩ := h.row.reads.blkHead h.row.len (List.getElem?_eq_getElem hjv)
  rw [ha] at ha'
  cases ha'
  refine ⟨a, j, u, ha, hj, ?_, hb⟩
  rw [← hc]
  exact (xtA (by rw [xka]; exact hw _ hblk)).symm
 | _ => exact hg.elim
theorem xbi.keep {E E' : Env} {w w' : World} {key : Nat} {own : Bool} {b : Body} (h : xbi E w key own b) (hk : E' key = E key)
  (hall : xbh (fun k => E' k = E k) b) (hw : ∀ g, blkO (E key) = some g → w'.heap[g]? = w.heap[g]?) (hs : w.heap.size ≤ w'.heap.size) (hd : ∀ g, Inn E w key b g → w'.heap[g]? = w.heap[g]?) : xbi E' w' key own b := by
 have hden : ∀ l : List AV, AV.allL (fun k => E' k = E k) l → AV.denL E' l = AV.denL E l := fun l hl => xcC (fun k hk => hk) l hl
 have row : ∀ {e sz n vs}, xbc w own e sz (E key) n vs → xbc w' own e sz (E' key) n vs := by
  intro e sz n vs hr
  rw [hk]
  exact hr.move hw hs
 cases b with
 | cells cs =>
  obtain ⟨g, T, h1, h2⟩ := h
  exact ⟨g, T, hk.trans h1, by rw [hw g (by rw [h1]; rfl), hden cs hall]; exact h2⟩
 | row e ks l => exact row h
 | sub e ks l => exact ⟨h.1, row h.2⟩
 | arr e sz els => exact ⟨by rw [hden els.flatten hall]; exact row h.1, h.2⟩
 | nil => exact hk.trans h
 | nst e ks l =>
  obtain ⟨vs, h⟩ := h
  refine ⟨vs, row h.row, fun i j k hi hj => ?_⟩
  obtain ⟨u, hu, hc⟩ := h.cell i j k hi hj
  refine ⟨u, hu, ?_⟩
  cases k with
  | c k => exact hc
  | s e' ks' =>
   refine ⟨hc.1, hc.2.move (fun g hg => hd g ?_) hs⟩
   obtain ⟨a, ha, hc', _⟩ := h.row.reads.blkHead h.row.len hu
   exact ⟨a, i * ks.length + j, u, ha, (h.get hu).1, hc', hg⟩
 | mp kt et q m ke l =>
  obtain ⟨b, es, clock, h1, h2, h3, h4, h5⟩ := h
  exact ⟨b, es, clock, hk.trans h1, by rw [hw b (by rw [h1]; rfl)]; exact h2, h3, h4, h5⟩
 | fin st pend =>
  obtain ⟨l, r, h1, h2, h3⟩ := h
  exact ⟨l, r, hk.trans h1, by rw [hw l (by rw [h1]; rfl)]; exact h2, h3⟩
 | loop st pend N tm params assign body =>
  obtain ⟨l, fn, tmps, dfr, h1, h2, h3, h4⟩ := h
  refine ⟨l, fn, tmps, dfr, hk.trans h1, by rw [hw l (by rw [h1]; rfl)]; exact h2, h3, fun t v ht => ?_⟩
  rw [h4 t v ht]
  exact (xfN (fun k hk => hk) v (hall t v ht)).symm
section ops
variable {P : Program} {E : Env} {w0 w : World} {H : Heap} {ρ : Operand → Option AV} {e : Operand → Value}
theorem xcV {t : TypeId} {n : Nat} (h : xkG P t = some n) (w : World) : (sizeOf t).run P w = .ok n w := by
 unfold xkG at h
 cases hi : P.info? t with
 | none => simp [hi] at h
 | some i => simp [hi] at h; simp [sizeOf, typeInfo, hi, h]
theorem xjw {t : TypeId} {b : Bool} (h : xzi P t = some b) (w : World) : (isAgg t).run P w = .ok b w := by
 unfold xzi at h
 cases hu : P.underlying t with
 | none => simp [hu] at h
 | some d =>
  simp only [hu, Option.map_some, Option.some.injEq] at h
  subst h
  simp only [isAgg, Sem.run_bind, run_underlying hu, Result.andThen_ok]
  cases d <;> rfl
theorem xo5 {t : TypeId} {z : AV} (h : xqa P t = some z) (E : Env) (w : World) : (zeroValue t).run P w = .ok (z.den E) w := by
 unfold xqa at h
 cases hi : P.info? t with
 | none => simp [hi] at h
 | some i =>
  simp only [hi] at h
  cases hz : i.zero with
  | none => simp [hz] at h
  | some v =>
   simp only [hz, Option.map_some, Option.some.injEq] at h
   subst h
   simp [zeroValue, typeInfo, hi, hz, xj7]
theorem xxL {t : TypeId} {z : AV} (h : xqa P t = some z) (p : Nat → Prop) : AV.all p z := by
 unfold xqa at h
 cases hi : P.info? t with
 | none => simp [hi] at h
 | some i =>
  simp only [hi] at h
  cases hz : i.zero with
  | none => simp [hz] at h
  | some v => simp only [hz, Option.map_some, Option.some.injEq] at h; subst h; exact xiy p v
theorem xvO (v : Value) : (ofValue v).plainCells = true := by
 cases v <;> rfl
theorem xk3 {t : TypeId} {cs : List AV} {off : Nat} {v : AV} (h : xjk P t cs off = some v) (E : Env) (w : World) :
  (part t (AV.denL E cs).toArray off).run P w = .ok (v.den E) w := by
 unfold xjk at h
 split at h
 ·rename_i n ha hs
  split at h
  ·rename_i hl
   cases h
   simp only [part, Sem.run_bind, xjw ha, Result.andThen_ok, if_true, xcV hs]
   simp [xax, AV.den, List.map_drop, List.map_take]
  ·cases h
 ·rename_i n ha hs
  have hc : (AV.denL E cs).toArray[off]? = some (v.den E) := by simp [xax, h]
  simp [part, xjw ha, hc]
 ·cases h
theorem xi5 {t : TypeId} {cs : List AV} {off : Nat} {p : Nat → Prop} {v : AV} (h : xjk P t cs off = some v) (hl : AV.allL p cs) : AV.all p v := by
 rw [xfQ] at hl
 unfold xjk at h
 split at h
 ·split at h
  ·cases h
   show AV.allL p _
   rw [xfQ]
   exact fun a ha => hl a (List.mem_of_mem_drop (List.mem_of_mem_take ha))
  ·cases h
 ·exact hl v (List.mem_of_getElem? h)
 ·cases h
theorem xtf (off : Nat) : ∀ (vs : List Value) (k : Nat) (cs : Array Value), off + k + vs.length ≤ cs.size →
  ((vs.zipIdx k).foldl (fun (cs : Array Value) (c, j) => cs.setIfInBounds (off + j) c) cs).toList = cs.toList.take (off + k) ++ vs ++ cs.toList.drop (off + k + vs.length)
 | [], k, cs, _ => by simp
 | v :: r, k, cs, h => by
  simp only [List.zipIdx_cons, List.foldl_cons]
  rw [xtf off r (k + 1) _ (by simp at h ⊢; omega)]
  have e := list_seg_step cs.toList (off + k) v r (by simp at h ⊢; omega)
  simpa [Array.toList_setIfInBounds, Nat.add_assoc] using e
theorem xuZ (E : Env) (hE : ∀ k, (E k).oneCell' = true) {place : Nat → Option (Nat × Nat)} : ∀ (ps : List (Nat × AV)) (cs out : List AV), xz6 place ps cs = some out →
  Instr.fill place (AV.denL E cs).toArray (ps.map fun p => (p.1, p.2.den E)) = some (AV.denL E out).toArray
 | [], cs, out, h => by cases h; rfl
 | (i, v) :: rest, cs, out, h => by
  unfold xz6 at h
  cases hp : place i with
  | none => simp [hp] at h
  | some on =>
   obtain ⟨off, n⟩ := on
   simp only [hp] at h
   split at h
   ·rename_i hc
    obtain ⟨h1, h2, h3⟩ := hc
    have ih := xuZ E hE rest _ out h
    simp only [List.map_cons, Instr.fill, hp]
    rw [xic h3 hE]
    have hs : ((AV.denL E v.cells).toArray.size ≠ n || decide (off + (AV.denL E v.cells).toArray.size > (AV.denL E cs).toArray.size)) = false := by
     simp [xax, h1]; omega
    rw [if_neg (by rw [hs]; exact Bool.false_ne_true)]
    rw [← ih]
    congr 1
    apply Array.ext'
    have := xtf off (AV.denL E v.cells) 0 (AV.denL E cs).toArray (by simp [xax]; omega)
    simp only [Nat.add_zero] at this
    have e2 : ((AV.denL E v.cells).toArray.zipIdx.foldl (fun (cs : Array Value) x => match x with | (c, j) => cs.setIfInBounds (off + j) c) (AV.denL E cs).toArray).toList = (AV.denL E cs).take off ++ AV.denL E v.cells ++ (AV.denL E cs).drop (off + (AV.denL E v.cells).length) := by
     rw [← Array.foldl_toList, Array.toList_zipIdx]
     exact this
    refine e2.trans ?_
    simp [xoy, xax]
   ·cases h
theorem xrx {p : Nat → Prop} {off : Nat} {cs vs : List AV} (h : AV.allL p cs) (hv : AV.allL p vs) : AV.allL p (xoy cs off vs) := by
 rw [xfQ] at *
 intro a ha
 simp only [xoy, List.mem_append] at ha
 rcases ha with (ha | ha) | ha
 ·exact h a (List.mem_of_mem_take ha)
 ·exact hv a ha
 ·exact h a (List.mem_of_mem_drop ha)
theorem xzz {q : Nat → Prop} {place : Nat → Option (Nat × Nat)} : ∀ (ps : List (Nat × AV)) (cs out : List AV), xz6 place ps cs = some out → (∀ p ∈ ps, AV.all q p.2) → AV.allL q cs → AV.allL q out
 | [], cs, out, h, _, hc => by cases h; exact hc
 | (i, v) :: rest, cs, out, h, hp, hc => by
  unfold xz6 at h
  split at h
  ·cases h
  ·split at h
   ·exact xzz rest _ out h (fun p hp' => hp p (by simp [hp'])) (xrx hc (xlw (hp (i, v) (by simp))))
   ·cases h
theorem xmJ (hρ : ∀ x v, ρ x = some v → e x = v.den E) : ∀ (l : List (Nat × Operand)) (ps : List (Nat × AV)), xhW ρ l = some ps → (l.map fun p => (p.1, e p.2)) = ps.map fun p => (p.1, p.2.den E)
 | [], ps, h => by cases h; rfl
 | (i, x) :: r, ps, h => by
  unfold xhW at h
  split at h
  ·rename_i v vs h1 h2
   cases h
   simp [hρ x v h1, xmJ hρ r vs h2]
  ·cases h
theorem xpr {Q : AV → Prop} (hρ : ∀ x v, ρ x = some v → Q v) : ∀ (l : List (Nat × Operand)) (ps : List (Nat × AV)), xhW ρ l = some ps → ∀ p ∈ ps, Q p.2
 | [], ps, h => by cases h; simp
 | (i, x) :: r, ps, h => by
  unfold xhW at h
  split at h
  ·rename_i v vs h1 h2
   cases h
   intro p hp
   rcases List.mem_cons.1 hp with rfl | hp
   ·exact hρ x v h1
   ·exact xpr hρ r vs h2 p hp
  ·cases h
theorem xht (hρ : ∀ x v, ρ x = some v → e x = v.den E) : ∀ (l : List Operand) (vs : List AV), xmM ρ l = some vs → l.map e = AV.denL E vs
 | [], vs, h => by cases h; rfl
 | x :: r, vs, h => by
  unfold xmM at h
  split at h
  ·rename_i v ws h1 h2
   cases h
   simp [AV.denL, hρ x v h1, xht hρ r ws h2]
  ·cases h
theorem xmL {Q : AV → Prop} (hρ : ∀ x v, ρ x = some v → Q v) : ∀ (l : List Operand) (vs : List AV), xmM ρ l = some vs → ∀ v ∈ vs, Q v
 | [], vs, h => by cases h; simp
 | x :: r, vs, h => by
  unfold xmM at h
  split at h
  ·rename_i v ws h1 h2
   cases h
   intro p hp
   rcases List.mem_cons.1 hp with rfl | hp
   ·exact hρ x p h1
   ·exact xmL hρ r ws h2 p hp
  ·cases h
theorem xq0 {t : TypeId} {cs : List AV} {b off : Nat} {T : TypeId} {v : AV} (hb : w.heap[b]? = some (.cells (AV.denL E cs).toArray T (0, 0))) (h : xjk P t cs off = some v) :
  (loadVar t ⟨b, off, none⟩).run P w = .ok (v.den E) w := by
 have hadd : ∀ i, (⟨b, off, none⟩ : Addr).add i = ⟨b, off + i, none⟩ := fun i => by unfold Addr.add; split <;> simp_all
 unfold xjk at h
 split at h
 ·rename_i n ha hs
  split at h
  ·rename_i hl
   cases h
   have hlen : ((AV.denL E cs).drop off |>.take n).length = n := by simp [xax]; omega
   have hr := run_loadCells_list (P := P) w ⟨b, off, none⟩ ((AV.denL E cs).drop off |>.take n) (fun j u hj => by
    rw [hadd]
    simp only [List.getElem?_take, List.getElem?_drop] at hj
    split at hj
    ·simp [World.cell?, hb, hj]
    ·cases hj)
   rw [hlen] at hr
   simp only [loadVar, Sem.run_bind, xjw ha, Result.andThen_ok, if_true, xcV hs, hr]
   simp [AV.den, xax, List.map_drop, List.map_take]
  ·cases h
 ·rename_i n ha hs
  have hc : w.cell? ⟨b, off, none⟩ = some (v.den E) := by simp [World.cell?, hb, xax, h]
  simp [loadVar, xjw ha, hc, run_load]
 ·cases h
theorem xuI {v : AV} (h : v.scalar = true) {E : Env} (hE : ∀ k, (E k).oneCell' = true) : (v.den E).oneCell' = true := by
 cases v with
 | sl k => exact hE k
 | vw k sz lo hi => exact xqu (hE k) _ _ _
 | val x => cases x <;> first | rfl | cases h
 | agg _ => cases h
 | tup _ => cases h
 | _ => rfl
theorem xrL {v : AV} (h : v.cells.all AV.scalar = true) : v.plainCells = true := by
 cases v with
 | val x => cases x <;> first | rfl | (simp [AV.cells, AV.scalar] at h)
 | _ => rfl
end ops
end Go.Sy
