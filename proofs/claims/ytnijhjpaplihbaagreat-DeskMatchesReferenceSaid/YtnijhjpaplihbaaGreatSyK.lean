/-
 The executor is sound: known values; trees; calls as one result (in place, or by contract).
-/
import Derived.Test.YtnijhjpaplihbaaGreatSyJ
import Derived.Test.YtnijhjpaplihbaaGreatSyD
set_option linter.unusedVariables false
namespace Go.Sy
open Go.RowKit
section
variable {P : Program} {X : List (Nat × Go.Obj)} {E : Env} {w0 w : World} {objs : List Obj} {n K : Nat} {ρ : Operand → Option AV} {e : Operand → Value}
theorem xwB {o : Oper} {z : Eff} (h : xe7 n objs K z ∧ OpOk P E objs w K e o z ∧ z.nk ≤ 1) : xe7 n objs K z.strong ∧ OpOk P E objs w K e o z.strong ∧ z.strong.nk ≤ 1 := by
 obtain ⟨h1, h2, h3⟩ := h
 refine ⟨⟨h1.rm, h1.key, h1.uniq, h1.all, xAk h1.val, h1.ver⟩, fun hp => ?_, h3⟩
 obtain ⟨E', w', nx, hr, hv, he⟩ := h2 hp
 refine ⟨E', w', nx, hr, ?_, ⟨he.agree, he.env, he.chg, he.bodies, he.own, he.ro, he.inj, he.dp, he.dq, he.df⟩⟩
 show nx = .value (z.v.strong.den E') ∨ (nx = .skip ∧ z.v.strong.den E' = undef)
 rw [xz9]; exact hv
theorem xkc (hH : xag X E w0 ⟨objs, n⟩ w) (hρ : ∀ x v, ρ x = some v → e x = v.den E ∧ AV.lt K v) (hKn : K ≤ n) (o : Oper) {z : Eff} (h : xp9 P ρ objs K o.op = some z) (hfr : z.nk ≠ 0 → ∀ o ∈ objs, o.key ≠ K ∧ xbh (fun k => k ≠ K) o.body) :
  xe7 n objs K z ∧ OpOk P E objs w K e o z ∧ z.nk ≤ 1 := by
 have hρ' : ∀ x v, (ρ x).map AV.weak = some v → e x = v.den E ∧ AV.lt K v := by
  intro x v hx
  cases hv : ρ x with
  | none => rw [hv] at hx; cases hx
  | some u =>
   rw [hv] at hx
   cases hx
   exact ⟨by rw [xg8]; exact (hρ x u hv).1, xsa u (hρ x u hv).2⟩
 have wk : ∀ {z : Eff}, (z.nk ≠ 0 → ∀ o ∈ objs, o.key ≠ K ∧ xbh (fun k => k ≠ K) o.body) → xhk P (fun z => (ρ z).map AV.weak) objs K o.op = some z → xe7 n objs K z ∧ OpOk P E objs w K e o z ∧ z.nk ≤ 1 := fun hfr h => xry hH hρ' hKn o h hfr
 have st : ∀ {z : Eff}, (z.nk ≠ 0 → ∀ o ∈ objs, o.key ≠ K ∧ xbh (fun k => k ≠ K) o.body) → (xhk P (fun z => (ρ z).map AV.weak) objs K o.op).map Eff.strong = some z → xe7 n objs K z ∧ OpOk P E objs w K e o z ∧ z.nk ≤ 1 := by
  intro z hfr h
  cases hz : xhk P (fun z => (ρ z).map AV.weak) objs K o.op with
  | none => rw [hz] at h; cases h
  | some z0 =>
   rw [hz] at h
   cases h
   exact xwB (wk hfr hz)
 unfold xp9 at h
 split at h
 ·split at h
  ·exact st hfr h
  ·exact wk hfr h
 ·split at h
  ·exact st hfr h
  ·exact wk hfr h
 ·split at h
  ·exact st hfr h
  ·exact wk hfr h
 ·exact wk hfr h
 ·exact wk hfr h
 ·exact xry hH hρ hKn o h hfr
theorem xCC (hH : xag X E w0 ⟨objs, n⟩ w) (hρ : ∀ x v, ρ x = some v → AV.lt K v) (hKn : K ≤ n) (op : Op) {z : Eff} (h : xp9 P ρ objs K op = some z) (hfr : z.nk ≠ 0 → ∀ o ∈ objs, o.key ≠ K ∧ xbh (fun k => k ≠ K) o.body) : xe7 n objs K z ∧ z.nk ≤ 1 := by
 obtain ⟨h1, _, h3⟩ := xkc (P := P) (e := fun x => match ρ x with | some v => v.den E | none => undef) hH (fun x v hx => ⟨by simp [hx], hρ x v hx⟩) hKn { (default : Oper) with op := op } h hfr
 exact ⟨h1, h3⟩
theorem xaT {α : Type} {Q Q' : α → Prop} (h : ∀ a, Q a → Q' a) : ∀ {t : Tree α}, t.holds Q → t.holds Q'
 | .ret a, ht => h a ht
 | .br _ _ _, ht => ⟨fun hb => xaT h (ht.1 hb), fun hb => xaT h (ht.2 hb)⟩
 | .need _ _, ht => ⟨ht.1, xaT h ht.2⟩
 | .ask _ _ _, ht => ⟨fun hp => xaT h (ht.1 hp), xaT h ht.2⟩
 | .bad, ht => ht
theorem xbz {α β : Type} {f : α → Tree β} {Q : β → Prop} : ∀ {t : Tree α}, (t.bind f).holds Q → t.holds fun a => (f a).holds Q
 | .ret _, ht => ht
 | .br _ _ _, ht => ⟨fun hb => xbz (ht.1 hb), fun hb => xbz (ht.2 hb)⟩
 | .need _ _, ht => ⟨ht.1, xbz ht.2⟩
 | .ask _ _ _, ht => ⟨fun hp => xbz (ht.1 hp), xbz ht.2⟩
 | .bad, ht => ht
def Tree.all {α : Type} : Tree α → (α → Prop) → Prop
 | .ret a, Q => Q a
 | .br _ t e, Q => t.all Q ∧ e.all Q
 | .need _ t, Q => t.all Q
 | .ask _ t e, Q => t.all Q ∧ e.all Q
 | .bad, _ => True
theorem xdN {α β : Type} {f : α → Tree β} {Q : β → Prop} : ∀ {t : Tree α}, (t.all fun a => (f a).all Q) → (t.bind f).all Q
 | .ret _, ht => ht
 | .br _ _ _, ht => ⟨xdN ht.1, xdN ht.2⟩
 | .need _ t, ht => xdN (t := t) ht
 | .ask _ _ _, ht => ⟨xdN ht.1, xdN ht.2⟩
 | .bad, ht => ht
theorem xcS {α : Type} {Q Q' : α → Prop} (h : ∀ a, Q a → Q' a) : ∀ {t : Tree α}, t.all Q → t.all Q'
 | .ret a, ht => h a ht
 | .br _ _ _, ht => ⟨xcS h ht.1, xcS h ht.2⟩
 | .need _ t, ht => xcS h (t := t) ht
 | .ask _ _ _, ht => ⟨xcS h ht.1, xcS h ht.2⟩
 | .bad, ht => ht
theorem xll {α : Type} {Q Q' : α → Prop} : ∀ {t : Tree α}, t.holds Q → t.all Q' → t.holds fun a => Q a ∧ Q' a
 | .ret _, h, h' => ⟨h, h'⟩
 | .br _ _ _, h, h' => ⟨fun hb => xll (h.1 hb) h'.1, fun hb => xll (h.2 hb) h'.2⟩
 | .need _ t, h, h' => ⟨h.1, xll (t := t) h.2 h'⟩
 | .ask _ _ _, h, h' => ⟨fun hp => xll (h.1 hp) h'.1, xll h.2 h'.2⟩
 | .bad, h, _ => h
theorem xiF {α : Type} {Q : α → Prop} (h : ∀ a, Q a) : ∀ (t : Tree α), t.all Q
 | .ret a => h a
 | .br _ t e => ⟨xiF h t, xiF h e⟩
 | .need _ t => xiF h t
 | .ask _ t e => ⟨xiF h t, xiF h e⟩
 | .bad => trivial
theorem xjU {α : Type} {p : Prop} {o : Option α} {a : α} (h : xab p o = some a) : p ∧ o = some a := by
 unfold xab at h
 split at h
 ·rename_i hp; exact ⟨hp, h⟩
 ·cases h
theorem xaa {α : Type} {p : Prop} (hp : p) (o : Option α) : xab p o = o := by unfold xab; exact if_pos hp
def xe5 (P : Program) (f : FuncId) : Prop := ∃ fn, P.funcs[f]? = some fn ∧ fn.name ≠ "runtime.NumGoroutine" ∧ fn.body.isSome = true
def Old (H H' : Heap) : Prop := ∀ o' ∈ H'.objs, o'.ver < H.next → o' ∈ H.objs
theorem Old.refl (H : Heap) : Old H H := fun o h _ => h
theorem Old.trans {A B C : Heap} (h : Old A B) (k : Old B C) (hn : A.next ≤ B.next) : Old A C := fun o ho hv => h o (k o ho (Nat.lt_of_lt_of_le hv hn)) hv
theorem Old.eff {H : Heap} {x : Eff} (hv : ∀ o ∈ x.add, H.next ≤ o.ver) : Old H (H.eff x) := by
 intro o ho hlt
 rcases List.mem_append.1 ho with ho | ho
 ·exact absurd (hv o ho) (by omega)
 ·exact (List.mem_filter.1 ho).1
def xkF (P : Program) (call : xie) : Prop := ∀ (X : List (Nat × Go.Obj)) (w0 : World) (f : FuncId) (args : List AV) (H : Heap) (E : Env) (w : World) (R : Ending → World → Prop),
 xag X E w0 H w → AV.ltL H.next args →
 (call f args H).holds (fun x => ∀ E' w', (∀ k, k < H.next → E' k = E k) → xag X E' w0 x.2 w' → AV.lt x.2.next x.1 → H.next ≤ x.2.next → Old H x.2 → R (.returned (x.1.den E')) w') →
 Calls P f (AV.denL E args).toArray w R
def xhl (P : Program) (call : xie) : Prop := ∀ f args H, call f args H ≠ .bad → xe5 P f
structure xxO (E : Env) (w : World) (K : Nat) (x : Eff) (E' : Env) (w' : World) : Prop where
 agree : ∀ k, k < K → E' k = E k
 env : ∀ k, (E' k).oneCell' = true
 below : Blw w.heap.size w w'
 bodies : ∀ o ∈ x.add, xbi E' w' o.key o.own o.body
 own : ∀ o ∈ x.add, ∀ b, blkO (E' o.key) = some b → w.heap.size ≤ b
 inj : ∀ o ∈ x.add, ∀ o' ∈ x.add, o.own = true → o.key ≠ o'.key → ∀ b, blkO (E' o.key) = some b → blkO (E' o'.key) ≠ some b
 inn : ∀ o ∈ x.add, ∀ b, Inn E' w' o.key o.body b → w.heap.size ≤ b
 dq : ∀ o ∈ x.add, ∀ b, Inn E' w' o.key o.body b → ∀ o' ∈ x.add, o'.own = true → blkO (E' o'.key) ≠ some b
structure xke (K : Nat) (x : Eff) : Prop where
 rm : x.rm = []
 key : ∀ o ∈ x.add, K ≤ o.key ∧ o.key < K + x.nk
 uniq : (x.add.map fun o => o.key).Nodup
 flat : ∀ o ∈ x.add, xbG o.body = true
 val : AV.lt (K + x.nk) x.v
 ver : ∀ o ∈ x.add, K ≤ o.ver
theorem xkE {p : Nat → Prop} {b : Body} (h : xbG b = true) : xbh p b := by
 cases b <;> first | trivial | cases h
theorem xjn : ∀ {xs : List Obj} {o o' : Obj}, (xs.map (fun o => o.key)).Nodup → o ∈ xs → o' ∈ xs → o.key = o'.key → o = o'
 | x :: xs, o, o', hn, ho, ho', hk => by
  rw [List.map_cons, List.nodup_cons] at hn
  rcases List.mem_cons.1 ho with h1 | h1 <;> rcases List.mem_cons.1 ho' with h2 | h2
  ·rw [h1, h2]
  ·exact absurd (List.mem_map.2 ⟨o', h2, by rw [← hk, h1]⟩) hn.1
  ·exact absurd (List.mem_map.2 ⟨o, h1, by rw [hk, h2]⟩) hn.1
  ·exact xjn hn.2 h1 h2 hk
theorem xke.eff {x : Eff} (h : xke K x) : xe7 n objs K x :=
 ⟨by rw [h.rm]; simp, fun o ho => .inr (h.key o ho), fun o ho o' ho' hk => xjn h.uniq ho ho' hk, fun o ho => xkE (h.flat o ho), xgk (fun k hk => .inr hk) _ h.val, h.ver⟩
theorem xlM {E1 E2 : Env} {w : World} {key : Nat} {b : Body} (hk : E2 key = E1 key) {g : Nat} (h : Inn E2 w key b g) : Inn E1 w key b g := by
 cases b with
 | nst e ks l => obtain ⟨a, j, u, h1, h2⟩ := h; exact ⟨a, j, u, by rw [← hk]; exact h1, h2⟩
 | _ => exact h.elim
theorem xBn {E1 E2 : Env} {w : World} {k1 k2 : Nat} {b : Body} (hk : E2 k2 = E1 k1) {g : Nat} (h : Inn E2 w k2 b g) : Inn E1 w k1 b g := by
 cases b with
 | nst e ks l => obtain ⟨a, j, u, h1, h2⟩ := h; exact ⟨a, j, u, by rw [← hk]; exact h1, h2⟩
 | _ => exact h.elim
theorem xoL {E1 E2 : Env} {w : World} {key : Nat} {own : Bool} {b : Body} (hf : xbG b = true) (hk : E2 key = E1 key) (h : xbi E1 w key own b) : xbi E2 w key own b := by
 cases b with
 | row e ks l => show xbc w own e ks.length (E2 key) l.length (rowV ks l); rw [hk]; exact h
 | nil => exact hk.trans h
 | nst e ks l => obtain ⟨vs, h⟩ := h; exact ⟨vs, by rw [hk]; exact h⟩
 | sub e ks l => exact ⟨h.1, by rw [hk]; exact h.2⟩
 | cells => cases hf
 | arr => cases hf
 | mp => cases hf
 | fin => cases hf
 | loop => cases hf
theorem xxO.effOk {x : Eff} {E' : Env} {w' : World} (hE : ∀ k, (E k).oneCell' = true) (hw : xke K x) (h : xxO E w K x E' w') : xhI E objs w K x (fun k => if K + x.nk ≤ k then E k else E' k) w' ∧ x.v.den (fun k => if K + x.nk ≤ k then E k else E' k) = x.v.den E' := by
 have hkey : ∀ o ∈ x.add, (if K + x.nk ≤ o.key then E o.key else E' o.key) = E' o.key := fun o ho => if_neg (by have := (hw.key o ho).2; omega)
 refine ⟨⟨fun k hk => ?_, fun k => ?_, ?_, fun o ho => xoL (hw.flat o ho) (hkey o ho) (h.bodies o ho), ?_, ?_, ?_, ?_, ?_, ?_⟩, xfN (fun k (hk : k < K + x.nk) => if_neg (by omega)) _ hw.val⟩
 ·rcases hk with hk | hk
  ·show (if K + x.nk ≤ k then E k else E' k) = E k
   rw [if_neg (by omega)]; exact h.agree k hk
  ·exact if_pos hk
 ·show (if K + x.nk ≤ k then E k else E' k).oneCell' = true
  split
  ·exact hE k
  ·exact h.env k
 ·rw [hw.rm]; exact Chg.of_below h.below _
 ·intro o ho _ b hb; simp only [hkey o ho] at hb; exact .inl (h.own o ho b hb)
 ·intro o ho _ b hb; simp only [hkey o ho] at hb; exact .inl (h.own o ho b hb)
 ·intro o ho o' ho' hown hne b hb; simp only [hkey o ho] at hb; simp only [hkey o' ho']; exact h.inj o ho o' ho' hown hne b hb
 ·intro o ho b hb; exact .inl (h.inn o ho b (xlM (hkey o ho) hb))
 ·intro o ho b hb o' ho' hown; simp only [hkey o' ho']; exact h.dq o ho b (xlM (hkey o ho) hb) o' ho' hown
 ·intro o ho b hb
  rcases hb with ⟨_, hb⟩ | ⟨_, hb⟩
  ·simp only [hkey o ho] at hb; exact .inl (h.own o ho b hb)
  ·exact .inl (h.inn o ho b (xlM (hkey o ho) hb))
def xfp (E : Env) : Option Nat → Value
 | some k => E k
 | none => .slice none 0 0
theorem xqE {k : Nat} : ∀ {l : List (Option Nat)} {i j : Nat}, xv7 k l i = some j → ∃ m, j = i + m ∧ l[m]? = some (some k)
 | [], i, j, h => by cases h
 | some k' :: r, i, j, h => by
  unfold xv7 at h
  split at h
  ·rename_i hb; cases h; exact ⟨0, rfl, by simp [Nat.eq_of_beq_eq_true hb]⟩
  ·obtain ⟨m, h1, h2⟩ := xqE h
   exact ⟨m + 1, by omega, by simpa using h2⟩
 | none :: r, i, j, h => by
  unfold xv7 at h
  obtain ⟨m, h1, h2⟩ := xqE h
  exact ⟨m + 1, by omega, by simpa using h2⟩
theorem xqF {k : Nat} : ∀ {l : List (Option Nat)} {i : Nat}, xv7 k l i = none → some k ∉ l
 | [], i, h => by simp
 | some k' :: r, i, h => by
  unfold xv7 at h
  split at h
  ·cases h
  ·rename_i hb
   intro hm
   rcases List.mem_cons.1 hm with hm | hm
   ·cases hm; exact hb (xdM k)
   ·exact xqF h hm
 | none :: r, i, h => by
  unfold xv7 at h
  intro hm
  rcases List.mem_cons.1 hm with hm | hm
  ·cases hm
  ·exact xqF h hm
structure xei (acc acc' : List (Option Nat)) : Prop where
 ext : ∃ r, acc' = acc ++ r
 nodup : (∀ i j k : Nat, acc[i]? = some (some k) → acc[j]? = some (some k) → i = j) → ∀ i j k : Nat, acc'[i]? = some (some k) → acc'[j]? = some (some k) → i = j
theorem xei.refl (acc : List (Option Nat)) : xei acc acc := ⟨⟨[], by simp⟩, fun h => h⟩
theorem xei.trans {a b c : List (Option Nat)} (h : xei a b) (k : xei b c) : xei a c := by
 obtain ⟨r, rfl⟩ := h.ext
 obtain ⟨s, rfl⟩ := k.ext
 exact ⟨⟨r ++ s, by simp⟩, fun hn => k.nodup (h.nodup hn)⟩
theorem xei.le {a b : List (Option Nat)} (h : xei a b) : a.length ≤ b.length := by obtain ⟨r, rfl⟩ := h.ext; simp
theorem xei.get {a b : List (Option Nat)} (h : xei a b) {i : Nat} {o : Option Nat} (hi : a[i]? = some o) : b[i]? = some o := by
 obtain ⟨r, rfl⟩ := h.ext
 rw [List.getElem?_append_left (List.getElem?_eq_some_iff.1 hi).1]; exact hi
theorem xmQ {acc : List (Option Nat)} {o : Option Nat} (h : ∀ k, o = some k → some k ∉ acc) : xei acc (acc ++ [o]) := by
 refine ⟨⟨[o], rfl⟩, fun hn i j k hi hj => ?_⟩
 have key : ∀ i k : Nat, (acc ++ [o])[i]? = some (some k) → (i < acc.length ∧ acc[i]? = some (some k)) ∨ (i = acc.length ∧ o = some k) := by
  intro i k hi
  by_cases hl : i < acc.length
  ·rw [List.getElem?_append_left hl] at hi; exact .inl ⟨hl, hi⟩
  ·rw [List.getElem?_append_right (by omega)] at hi
   have : i - acc.length = 0 := by have := (List.getElem?_eq_some_iff.1 hi).1; simp at this; omega
   rw [this] at hi
   simp at hi
   exact .inr ⟨by omega, hi⟩
 rcases key i k hi with ⟨_, h1⟩ | ⟨e1, h1⟩ <;> rcases key j k hj with ⟨_, h2⟩ | ⟨e2, h2⟩
 ·exact hn i j k h1 h2
 ·exact absurd (List.mem_of_getElem? h1) (h k h2)
 ·exact absurd (List.mem_of_getElem? h2) (h k h1)
 ·omega
mutual
theorem xoC {K : Nat} {E1 : Env} : ∀ (v : AV) (acc : List (Option Nat)) (v' : AV) (acc' : List (Option Nat)), xqv K v acc = some (v', acc') →
  xei acc acc' ∧ AV.lt (K + acc'.length) v' ∧ ∀ E' : Env, (∀ k, k < K → E' k = E1 k) → (∀ i o, acc'[i]? = some o → E' (K + i) = xfp E1 o) → v'.den E' = v.den E1
 | .sl k, acc, v', acc', h => by
  unfold xqv at h
  split at h
  ·rename_i hk
   cases h
   have hk : k < K := by simpa using hk
   exact ⟨xei.refl _, show k < _ by omega, fun E' h1 _ => h1 k hk⟩
  ·split at h
   ·rename_i i hi
    cases h
    obtain ⟨m, h1, h2⟩ := xqE hi
    have hm : i = m := by omega
    subst hm
    have hlt := (List.getElem?_eq_some_iff.1 h2).1
    exact ⟨xei.refl _, show K + i < _ by omega, fun E' _ h3 => h3 i _ h2⟩
   ·rename_i hi
    cases h
    refine ⟨xmQ (fun k' hk' => by cases hk'; exact xqF hi), show K + acc.length < K + (acc ++ [some k]).length by simp, fun E' _ h3 => h3 acc.length (some k) (by simp)⟩
 | .val (.slice none 0 0), acc, v', acc', h => by
  simp only [xqv] at h
  cases h
  exact ⟨xmQ (fun k' hk' => by cases hk'), show K + acc.length < K + (acc ++ [none]).length by simp, fun E' _ h3 => h3 acc.length none (by simp)⟩
 | .ptr k off, acc, v', acc', h => by
  unfold xqv at h
  split at h
  ·rename_i hk
   cases h
   have hk : k < K := by simpa using hk
   exact ⟨xei.refl _, show k < _ by omega, fun E' h1 _ => by simp [AV.den, h1 k hk]⟩
  ·cases h
 | .yl k, acc, v', acc', h => by
  unfold xqv at h
  split at h
  ·rename_i hk
   cases h
   have hk : k < K := by simpa using hk
   exact ⟨xei.refl _, show k < _ by omega, fun E' h1 _ => by simp [AV.den, h1 k hk]⟩
  ·cases h
 | .vw k sz lo hi, acc, v', acc', h => by
  unfold xqv at h
  split at h
  ·rename_i hk
   cases h
   have hk : k < K := by simpa using hk
   exact ⟨xei.refl _, show k < _ by omega, fun E' h1 _ => by simp [AV.den, h1 k hk]⟩
  ·cases h
 | .fn _ _ _, acc, v', acc', h => by cases h
 | .ix _ _ _ _ _, acc, v', acc', h => by cases h
 | .agg cs, acc, v', acc', h => by
  unfold xqv at h
  split at h
  ·rename_i cs' acc1 hl
   cases h
   obtain ⟨h1, h2, h3⟩ := xoD (E1 := E1) cs acc cs' acc' hl
   exact ⟨h1, h2, fun E' a b => by simp [AV.den, h3 E' a b]⟩
  ·cases h
 | .tup cs, acc, v', acc', h => by
  unfold xqv at h
  split at h
  ·rename_i cs' acc1 hl
   cases h
   obtain ⟨h1, h2, h3⟩ := xoD (E1 := E1) cs acc cs' acc' hl
   exact ⟨h1, h2, fun E' a b => by simp [AV.den, h3 E' a b]⟩
  ·cases h
 | .bool b, acc, v', acc', h => by simp only [xqv] at h; cases h; exact ⟨xei.refl _, trivial, fun _ _ _ => rfl⟩
 | .int k b, acc, v', acc', h => by simp only [xqv] at h; cases h; exact ⟨xei.refl _, trivial, fun _ _ _ => rfl⟩
 | .val v, acc, v', acc', h => by
  unfold xqv at h
  split at h <;> first
   | (cases h; done)
   | (rename_i heq; cases heq)
   | skip
  all_goals first
   | (cases h; exact ⟨xmQ (fun k' hk' => by cases hk'), (by show K + _ < K + _; simp), fun E' _ h3 => h3 _ none (by simp)⟩)
   | (cases h; exact ⟨xei.refl _, trivial, fun _ _ _ => rfl⟩)
theorem xoD {K : Nat} {E1 : Env} : ∀ (l : List AV) (acc : List (Option Nat)) (l' : List AV) (acc' : List (Option Nat)), xAV K l acc = some (l', acc') →
  xei acc acc' ∧ AV.ltL (K + acc'.length) l' ∧ ∀ E' : Env, (∀ k, k < K → E' k = E1 k) → (∀ i o, acc'[i]? = some o → E' (K + i) = xfp E1 o) → AV.denL E' l' = AV.denL E1 l
 | [], acc, l', acc', h => by cases h; exact ⟨xei.refl _, trivial, fun _ _ _ => rfl⟩
 | a :: r, acc, l', acc', h => by
  unfold xAV at h
  split at h
  ·rename_i a' acc1 ha
   split at h
   ·rename_i r' acc2 hr
    cases h
    obtain ⟨a1, a2, a3⟩ := xoC (E1 := E1) a acc a' acc1 ha
    obtain ⟨b1, b2, b3⟩ := xoD (E1 := E1) r acc1 r' acc' hr
    have := b1.le
    refine ⟨a1.trans b1, ⟨xg9 (by omega) _ a2, b2⟩, fun E' h1 h2 => ?_⟩
    rw [AV.denL, AV.denL, a3 E' h1 (fun i o hi => h2 i o (b1.get hi)), b3 E' h1 h2]
   ·cases h
  ·cases h
end
end
end Go.Sy
