/-
  The executor is sound: known values; trees; calls as one result (in place, or by contract).
-/
import Derived.Test.YtcbgjecpnhjlpaaSyJ
import Derived.Test.YtcbgjecpnhjlpaaSyD
set_option linter.unusedVariables false
namespace Go.Sy
open Go.RowKit
section
variable {P : Program} {X : List (Nat × Go.Obj)} {E : Env} {w0 w : World} {objs : List Obj} {n K : Nat} {ρ : Operand → Option AV} {e : Operand → Value}

/-! ### known values -/
theorem strong_sound {o : Oper} {z : Eff} (h : EffWf n objs K z ∧ OpOk P E objs w K e o z ∧ z.nk ≤ 1) : EffWf n objs K z.strong ∧ OpOk P E objs w K e o z.strong ∧ z.strong.nk ≤ 1 := by
  obtain ⟨h1, h2, h3⟩ := h
  refine ⟨⟨h1.rm, h1.key, h1.uniq, h1.all, all_strong h1.val, h1.ver⟩, fun hp => ?_, h3⟩
  obtain ⟨E', w', nx, hr, hv, he⟩ := h2 hp
  refine ⟨E', w', nx, hr, ?_, ⟨he.agree, he.env, he.chg, he.bodies, he.own, he.ro, he.inj⟩⟩
  show nx = .value (z.v.strong.den E') ∨ (nx = .skip ∧ z.v.strong.den E' = undef)
  rw [den_strong]; exact hv
theorem absOp_sound (hH : HeapOk X E w0 ⟨objs, n⟩ w) (hρ : ∀ x v, ρ x = some v → e x = v.den E ∧ AV.lt K v) (hKn : K ≤ n) (o : Oper) {z : Eff} (h : absOp P ρ objs K o.op = some z) (hfr : z.nk ≠ 0 → ∀ o ∈ objs, o.key ≠ K ∧ BodyAll (fun k => k ≠ K) o.body) :
    EffWf n objs K z ∧ OpOk P E objs w K e o z ∧ z.nk ≤ 1 := by
  have hρ' : ∀ x v, (ρ x).map AV.weak = some v → e x = v.den E ∧ AV.lt K v := by
    intro x v hx
    cases hv : ρ x with
    | none => rw [hv] at hx; cases hx
    | some u =>
      rw [hv] at hx
      cases hx
      exact ⟨by rw [den_weak]; exact (hρ x u hv).1, all_weak u (hρ x u hv).2⟩
  have wk : ∀ {z : Eff}, (z.nk ≠ 0 → ∀ o ∈ objs, o.key ≠ K ∧ BodyAll (fun k => k ≠ K) o.body) → absOp0 P (fun z => (ρ z).map AV.weak) objs K o.op = some z → EffWf n objs K z ∧ OpOk P E objs w K e o z ∧ z.nk ≤ 1 := fun hfr h => absOp0_sound hH hρ' hKn o h hfr
  have st : ∀ {z : Eff}, (z.nk ≠ 0 → ∀ o ∈ objs, o.key ≠ K ∧ BodyAll (fun k => k ≠ K) o.body) → (absOp0 P (fun z => (ρ z).map AV.weak) objs K o.op).map Eff.strong = some z → EffWf n objs K z ∧ OpOk P E objs w K e o z ∧ z.nk ≤ 1 := by
    intro z hfr h
    cases hz : absOp0 P (fun z => (ρ z).map AV.weak) objs K o.op with
    | none => rw [hz] at h; cases h
    | some z0 =>
      rw [hz] at h
      cases h
      exact strong_sound (wk hfr hz)
  unfold absOp at h
  split at h
  · split at h
    · exact st hfr h
    · exact wk hfr h
  · split at h
    · exact st hfr h
    · exact wk hfr h
  · split at h
    · exact st hfr h
    · exact wk hfr h
  · exact wk hfr h
  · exact wk hfr h
  · exact absOp0_sound hH hρ hKn o h hfr
/-- Its form, whatever the operands stand for. -/
theorem absOp_wf (hH : HeapOk X E w0 ⟨objs, n⟩ w) (hρ : ∀ x v, ρ x = some v → AV.lt K v) (hKn : K ≤ n) (op : Op) {z : Eff} (h : absOp P ρ objs K op = some z) (hfr : z.nk ≠ 0 → ∀ o ∈ objs, o.key ≠ K ∧ BodyAll (fun k => k ≠ K) o.body) : EffWf n objs K z ∧ z.nk ≤ 1 := by
  obtain ⟨h1, _, h3⟩ := absOp_sound (P := P) (e := fun x => match ρ x with | some v => v.den E | none => undef) hH (fun x v hx => ⟨by simp [hx], hρ x v hx⟩) hKn { (default : Oper) with op := op } h hfr
  exact ⟨h1, h3⟩

/-! ### trees -/
theorem holds_mono {α : Type} {Q Q' : α → Prop} (h : ∀ a, Q a → Q' a) : ∀ {t : Tree α}, t.holds Q → t.holds Q'
  | .ret a, ht => h a ht
  | .br _ _ _, ht => ⟨fun hb => holds_mono h (ht.1 hb), fun hb => holds_mono h (ht.2 hb)⟩
  | .need _ _, ht => ⟨ht.1, holds_mono h ht.2⟩
  | .ask _ _ _, ht => ⟨fun hp => holds_mono h (ht.1 hp), holds_mono h ht.2⟩
  | .bad, ht => ht
theorem holds_bind {α β : Type} {f : α → Tree β} {Q : β → Prop} : ∀ {t : Tree α}, (t.bind f).holds Q → t.holds fun a => (f a).holds Q
  | .ret _, ht => ht
  | .br _ _ _, ht => ⟨fun hb => holds_bind (ht.1 hb), fun hb => holds_bind (ht.2 hb)⟩
  | .need _ _, ht => ⟨ht.1, holds_bind ht.2⟩
  | .ask _ _ _, ht => ⟨fun hp => holds_bind (ht.1 hp), holds_bind ht.2⟩
  | .bad, ht => ht
/-- Of all results, reachable or not. -/
def Tree.all {α : Type} : Tree α → (α → Prop) → Prop
  | .ret a, Q => Q a
  | .br _ t e, Q => t.all Q ∧ e.all Q
  | .need _ t, Q => t.all Q
  | .ask _ t e, Q => t.all Q ∧ e.all Q
  | .bad, _ => True
theorem all_bind {α β : Type} {f : α → Tree β} {Q : β → Prop} : ∀ {t : Tree α}, (t.all fun a => (f a).all Q) → (t.bind f).all Q
  | .ret _, ht => ht
  | .br _ _ _, ht => ⟨all_bind ht.1, all_bind ht.2⟩
  | .need _ t, ht => all_bind (t := t) ht
  | .ask _ _ _, ht => ⟨all_bind ht.1, all_bind ht.2⟩
  | .bad, ht => ht
theorem all_mono {α : Type} {Q Q' : α → Prop} (h : ∀ a, Q a → Q' a) : ∀ {t : Tree α}, t.all Q → t.all Q'
  | .ret a, ht => h a ht
  | .br _ _ _, ht => ⟨all_mono h ht.1, all_mono h ht.2⟩
  | .need _ t, ht => all_mono h (t := t) ht
  | .ask _ _ _, ht => ⟨all_mono h ht.1, all_mono h ht.2⟩
  | .bad, ht => ht
theorem holds_all {α : Type} {Q Q' : α → Prop} : ∀ {t : Tree α}, t.holds Q → t.all Q' → t.holds fun a => Q a ∧ Q' a
  | .ret _, h, h' => ⟨h, h'⟩
  | .br _ _ _, h, h' => ⟨fun hb => holds_all (h.1 hb) h'.1, fun hb => holds_all (h.2 hb) h'.2⟩
  | .need _ t, h, h' => ⟨h.1, holds_all (t := t) h.2 h'⟩
  | .ask _ _ _, h, h' => ⟨fun hp => holds_all (h.1 hp) h'.1, holds_all h.2 h'.2⟩
  | .bad, h, _ => h
theorem all_true {α : Type} {Q : α → Prop} (h : ∀ a, Q a) : ∀ (t : Tree α), t.all Q
  | .ret a => h a
  | .br _ t e => ⟨all_true h t, all_true h e⟩
  | .need _ t => all_true h t
  | .ask _ t e => ⟨all_true h t, all_true h e⟩
  | .bad => trivial
theorem guardP_some {α : Type} {p : Prop} {o : Option α} {a : α} (h : guardP p o = some a) : p ∧ o = some a := by
  unfold guardP at h
  split at h
  · rename_i hp; exact ⟨hp, h⟩
  · cases h
theorem guardP_pos {α : Type} {p : Prop} (hp : p) (o : Option α) : guardP p o = o := by unfold guardP; exact if_pos hp
/-- The way that is taken. -/
theorem holds_of_opt {α : Type} {a : α} {Q : α → Prop} (hQ : Q a) : ∀ {t : Tree α}, t.opt = some a → t.holds Q
  | .ret b, h => by cases h; exact hQ
  | .br b t e, h => by
    cases b with
    | true => exact ⟨fun _ => holds_of_opt hQ h, fun hb => (by cases hb)⟩
    | false => exact ⟨fun hb => (by cases hb), fun _ => holds_of_opt hQ h⟩
  | .need p t, h => ⟨(guardP_some h).1, holds_of_opt hQ (guardP_some h).2⟩
  | .ask p t e, h => ⟨fun hp => holds_of_opt hQ (((guardP_some h).1 hp).trans (guardP_some h).2), holds_of_opt hQ (guardP_some h).2⟩
  | .bad, h => by cases h

/-! ### what is called -/
def CallFun (P : Program) (f : FuncId) : Prop := ∃ fn, P.funcs[f]? = some fn ∧ fn.name ≠ "runtime.NumGoroutine" ∧ fn.body.isSome = true
/-- Whatever is older than the heap's mark was there. -/
def Old (H H' : Heap) : Prop := ∀ o' ∈ H'.objs, o'.ver < H.next → o' ∈ H.objs
theorem Old.refl (H : Heap) : Old H H := fun o h _ => h
theorem Old.trans {A B C : Heap} (h : Old A B) (k : Old B C) (hn : A.next ≤ B.next) : Old A C := fun o ho hv => h o (k o ho (Nat.lt_of_lt_of_le hv hn)) hv
theorem Old.eff {H : Heap} {x : Eff} (hv : ∀ o ∈ x.add, H.next ≤ o.ver) : Old H (H.eff x) := by
  intro o ho hlt
  rcases List.mem_append.1 ho with ho | ho
  · exact absurd (hv o ho) (by omega)
  · exact (List.mem_filter.1 ho).1
def CallOk (P : Program) (call : CallFn) : Prop := ∀ (X : List (Nat × Go.Obj)) (w0 : World) (f : FuncId) (args : List AV) (H : Heap) (E : Env) (w : World) (R : Ending → World → Prop),
  HeapOk X E w0 H w → AV.ltL H.next args →
  (call f args H).holds (fun x => ∀ E' w', (∀ k, k < H.next → E' k = E k) → HeapOk X E' w0 x.2 w' → AV.lt x.2.next x.1 → H.next ≤ x.2.next → Old H x.2 → R (.returned (x.1.den E')) w') →
  Calls P f (AV.denL E args).toArray w R
/-- Whatever the executor enters is a function with a body. -/
def CallKnown (P : Program) (call : CallFn) : Prop := ∀ f args H, call f args H ≠ .bad → CallFun P f

/-- What a call with one result leaves: the value, the new objects. -/
structure Gives (E : Env) (w : World) (K : Nat) (x : Eff) (E' : Env) (w' : World) : Prop where
  agree : ∀ k, k < K → E' k = E k
  env : ∀ k, (E' k).oneCell' = true
  below : Blw w.heap.size w w'
  bodies : ∀ o ∈ x.add, BodyOk E' w' o.key o.own o.body
  own : ∀ o ∈ x.add, ∀ b, blkO (E' o.key) = some b → w.heap.size ≤ b
  inj : ∀ o ∈ x.add, ∀ o' ∈ x.add, o.key ≠ o'.key → ∀ b, blkO (E' o.key) = some b → blkO (E' o'.key) ≠ some b
/-- Its form: own rows alone are new. -/
structure GiveWf (K : Nat) (x : Eff) : Prop where
  rm : x.rm = []
  key : ∀ o ∈ x.add, K ≤ o.key ∧ o.key < K + x.nk
  uniq : (x.add.map fun o => o.key).Nodup
  flat : ∀ o ∈ x.add, flatBody o.body = true
  val : AV.lt (K + x.nk) x.v
  ver : ∀ o ∈ x.add, K ≤ o.ver
theorem bodyAll_flat {p : Nat → Prop} {b : Body} (h : flatBody b = true) : BodyAll p b := by
  cases b <;> first | trivial | cases h
theorem eq_of_map_key : ∀ {xs : List Obj} {o o' : Obj}, (xs.map (fun o => o.key)).Nodup → o ∈ xs → o' ∈ xs → o.key = o'.key → o = o'
  | x :: xs, o, o', hn, ho, ho', hk => by
    rw [List.map_cons, List.nodup_cons] at hn
    rcases List.mem_cons.1 ho with h1 | h1 <;> rcases List.mem_cons.1 ho' with h2 | h2
    · rw [h1, h2]
    · exact absurd (List.mem_map.2 ⟨o', h2, by rw [← hk, h1]⟩) hn.1
    · exact absurd (List.mem_map.2 ⟨o, h1, by rw [hk, h2]⟩) hn.1
    · exact eq_of_map_key hn.2 h1 h2 hk
theorem GiveWf.eff {x : Eff} (h : GiveWf K x) : EffWf n objs K x :=
  ⟨by rw [h.rm]; simp, fun o ho => .inr (h.key o ho), fun o ho o' ho' hk => eq_of_map_key h.uniq ho ho' hk, fun o ho => bodyAll_flat (h.flat o ho), all_imp (fun k hk => .inr hk) _ h.val, h.ver⟩
/-- The same, the keys from K on alone turned. -/
theorem bodyOk_flat {E1 E2 : Env} {w : World} {key : Nat} {own : Bool} {b : Body} (hf : flatBody b = true) (hk : E2 key = E1 key) (h : BodyOk E1 w key own b) : BodyOk E2 w key own b := by
  cases b with
  | row e ks l => show RowOk w own e ks.length (E2 key) l.length (rowV ks l); rw [hk]; exact h
  | nil => exact hk.trans h
  | cells => cases hf
  | arr => cases hf
  | mp => cases hf
  | fin => cases hf
  | loop => cases hf
theorem Gives.effOk {x : Eff} {E' : Env} {w' : World} (hE : ∀ k, (E k).oneCell' = true) (hw : GiveWf K x) (h : Gives E w K x E' w') : EffOk E objs w K x (fun k => if K + x.nk ≤ k then E k else E' k) w' ∧ x.v.den (fun k => if K + x.nk ≤ k then E k else E' k) = x.v.den E' := by
  have hkey : ∀ o ∈ x.add, (if K + x.nk ≤ o.key then E o.key else E' o.key) = E' o.key := fun o ho => if_neg (by have := (hw.key o ho).2; omega)
  refine ⟨⟨fun k hk => ?_, fun k => ?_, ?_, fun o ho => bodyOk_flat (hw.flat o ho) (hkey o ho) (h.bodies o ho), ?_, ?_, ?_⟩, den_congr_all (fun k (hk : k < K + x.nk) => if_neg (by omega)) _ hw.val⟩
  · rcases hk with hk | hk
    · show (if K + x.nk ≤ k then E k else E' k) = E k
      rw [if_neg (by omega)]; exact h.agree k hk
    · exact if_pos hk
  · show (if K + x.nk ≤ k then E k else E' k).oneCell' = true
    split
    · exact hE k
    · exact h.env k
  · rw [hw.rm]; exact Chg.of_below h.below _
  · intro o ho _ b hb; simp only [hkey o ho] at hb; exact .inl (h.own o ho b hb)
  · intro o ho _ b hb; simp only [hkey o ho] at hb; exact .inl (h.own o ho b hb)
  · intro o ho o' ho' _ hne b hb; simp only [hkey o ho] at hb; simp only [hkey o' ho']; exact h.inj o ho o' ho' hne b hb

/-! ### one way's result -/
/-- What a name of 'packV' stands for. -/
def packVal (E : Env) : Option Nat → Value
  | some k => E k
  | none => .slice none 0 0
theorem idxOf_spec {k : Nat} : ∀ {l : List (Option Nat)} {i j : Nat}, idxOf k l i = some j → ∃ m, j = i + m ∧ l[m]? = some (some k)
  | [], i, j, h => by cases h
  | some k' :: r, i, j, h => by
    unfold idxOf at h
    split at h
    · rename_i hb; cases h; exact ⟨0, rfl, by simp [Nat.eq_of_beq_eq_true hb]⟩
    · obtain ⟨m, h1, h2⟩ := idxOf_spec h
      exact ⟨m + 1, by omega, by simpa using h2⟩
  | none :: r, i, j, h => by
    unfold idxOf at h
    obtain ⟨m, h1, h2⟩ := idxOf_spec h
    exact ⟨m + 1, by omega, by simpa using h2⟩
theorem idxOf_none {k : Nat} : ∀ {l : List (Option Nat)} {i : Nat}, idxOf k l i = none → some k ∉ l
  | [], i, h => by simp
  | some k' :: r, i, h => by
    unfold idxOf at h
    split at h
    · cases h
    · rename_i hb
      intro hm
      rcases List.mem_cons.1 hm with hm | hm
      · cases hm; exact hb (beq_self k)
      · exact idxOf_none h hm
  | none :: r, i, h => by
    unfold idxOf at h
    intro hm
    rcases List.mem_cons.1 hm with hm | hm
    · cases hm
    · exact idxOf_none h hm
/-- Names grow at the end; no key has two. -/
structure PackExt (acc acc' : List (Option Nat)) : Prop where
  ext : ∃ r, acc' = acc ++ r
  nodup : (∀ i j k : Nat, acc[i]? = some (some k) → acc[j]? = some (some k) → i = j) → ∀ i j k : Nat, acc'[i]? = some (some k) → acc'[j]? = some (some k) → i = j
theorem PackExt.refl (acc : List (Option Nat)) : PackExt acc acc := ⟨⟨[], by simp⟩, fun h => h⟩
theorem PackExt.trans {a b c : List (Option Nat)} (h : PackExt a b) (k : PackExt b c) : PackExt a c := by
  obtain ⟨r, rfl⟩ := h.ext
  obtain ⟨s, rfl⟩ := k.ext
  exact ⟨⟨r ++ s, by simp⟩, fun hn => k.nodup (h.nodup hn)⟩
theorem PackExt.le {a b : List (Option Nat)} (h : PackExt a b) : a.length ≤ b.length := by obtain ⟨r, rfl⟩ := h.ext; simp
theorem PackExt.get {a b : List (Option Nat)} (h : PackExt a b) {i : Nat} {o : Option Nat} (hi : a[i]? = some o) : b[i]? = some o := by
  obtain ⟨r, rfl⟩ := h.ext
  rw [List.getElem?_append_left (List.getElem?_eq_some_iff.1 hi).1]; exact hi
theorem packExt_snoc {acc : List (Option Nat)} {o : Option Nat} (h : ∀ k, o = some k → some k ∉ acc) : PackExt acc (acc ++ [o]) := by
  refine ⟨⟨[o], rfl⟩, fun hn i j k hi hj => ?_⟩
  have key : ∀ i k : Nat, (acc ++ [o])[i]? = some (some k) → (i < acc.length ∧ acc[i]? = some (some k)) ∨ (i = acc.length ∧ o = some k) := by
    intro i k hi
    by_cases hl : i < acc.length
    · rw [List.getElem?_append_left hl] at hi; exact .inl ⟨hl, hi⟩
    · rw [List.getElem?_append_right (by omega)] at hi
      have : i - acc.length = 0 := by have := (List.getElem?_eq_some_iff.1 hi).1; simp at this; omega
      rw [this] at hi
      simp at hi
      exact .inr ⟨by omega, hi⟩
  rcases key i k hi with ⟨_, h1⟩ | ⟨e1, h1⟩ <;> rcases key j k hj with ⟨_, h2⟩ | ⟨e2, h2⟩
  · exact hn i j k h1 h2
  · exact absurd (List.mem_of_getElem? h1) (h k h2)
  · exact absurd (List.mem_of_getElem? h2) (h k h1)
  · omega

mutual
theorem packV_sound {K : Nat} {E1 : Env} : ∀ (v : AV) (acc : List (Option Nat)) (v' : AV) (acc' : List (Option Nat)), packV K v acc = some (v', acc') →
    PackExt acc acc' ∧ AV.lt (K + acc'.length) v' ∧ ∀ E' : Env, (∀ k, k < K → E' k = E1 k) → (∀ i o, acc'[i]? = some o → E' (K + i) = packVal E1 o) → v'.den E' = v.den E1
  | .sl k, acc, v', acc', h => by
    unfold packV at h
    split at h
    · rename_i hk
      cases h
      have hk : k < K := by simpa using hk
      exact ⟨PackExt.refl _, show k < _ by omega, fun E' h1 _ => h1 k hk⟩
    · split at h
      · rename_i i hi
        cases h
        obtain ⟨m, h1, h2⟩ := idxOf_spec hi
        have hm : i = m := by omega
        subst hm
        have hlt := (List.getElem?_eq_some_iff.1 h2).1
        exact ⟨PackExt.refl _, show K + i < _ by omega, fun E' _ h3 => h3 i _ h2⟩
      · rename_i hi
        cases h
        refine ⟨packExt_snoc (fun k' hk' => by cases hk'; exact idxOf_none hi), show K + acc.length < K + (acc ++ [some k]).length by simp, fun E' _ h3 => h3 acc.length (some k) (by simp)⟩
  | .val (.slice none 0 0), acc, v', acc', h => by
    simp only [packV] at h
    cases h
    exact ⟨packExt_snoc (fun k' hk' => by cases hk'), show K + acc.length < K + (acc ++ [none]).length by simp, fun E' _ h3 => h3 acc.length none (by simp)⟩
  | .ptr k off, acc, v', acc', h => by
    unfold packV at h
    split at h
    · rename_i hk
      cases h
      have hk : k < K := by simpa using hk
      exact ⟨PackExt.refl _, show k < _ by omega, fun E' h1 _ => by simp [AV.den, h1 k hk]⟩
    · cases h
  | .yl k, acc, v', acc', h => by
    unfold packV at h
    split at h
    · rename_i hk
      cases h
      have hk : k < K := by simpa using hk
      exact ⟨PackExt.refl _, show k < _ by omega, fun E' h1 _ => by simp [AV.den, h1 k hk]⟩
    · cases h
  | .vw k sz lo hi, acc, v', acc', h => by
    unfold packV at h
    split at h
    · rename_i hk
      cases h
      have hk : k < K := by simpa using hk
      exact ⟨PackExt.refl _, show k < _ by omega, fun E' h1 _ => by simp [AV.den, h1 k hk]⟩
    · cases h
  | .fn _ _ _, acc, v', acc', h => by cases h
  | .ix _ _ _ _ _, acc, v', acc', h => by cases h
  | .agg cs, acc, v', acc', h => by
    unfold packV at h
    split at h
    · rename_i cs' acc1 hl
      cases h
      obtain ⟨h1, h2, h3⟩ := packL_sound (E1 := E1) cs acc cs' acc' hl
      exact ⟨h1, h2, fun E' a b => by simp [AV.den, h3 E' a b]⟩
    · cases h
  | .tup cs, acc, v', acc', h => by
    unfold packV at h
    split at h
    · rename_i cs' acc1 hl
      cases h
      obtain ⟨h1, h2, h3⟩ := packL_sound (E1 := E1) cs acc cs' acc' hl
      exact ⟨h1, h2, fun E' a b => by simp [AV.den, h3 E' a b]⟩
    · cases h
  | .bool b, acc, v', acc', h => by simp only [packV] at h; cases h; exact ⟨PackExt.refl _, trivial, fun _ _ _ => rfl⟩
  | .int k b, acc, v', acc', h => by simp only [packV] at h; cases h; exact ⟨PackExt.refl _, trivial, fun _ _ _ => rfl⟩
  | .val v, acc, v', acc', h => by
    unfold packV at h
    split at h <;> first
      | (cases h; done)
      | (rename_i heq; cases heq)
      | skip
    all_goals first
      | (cases h; exact ⟨packExt_snoc (fun k' hk' => by cases hk'), (by show K + _ < K + _; simp), fun E' _ h3 => h3 _ none (by simp)⟩)
      | (cases h; exact ⟨PackExt.refl _, trivial, fun _ _ _ => rfl⟩)
theorem packL_sound {K : Nat} {E1 : Env} : ∀ (l : List AV) (acc : List (Option Nat)) (l' : List AV) (acc' : List (Option Nat)), packL K l acc = some (l', acc') →
    PackExt acc acc' ∧ AV.ltL (K + acc'.length) l' ∧ ∀ E' : Env, (∀ k, k < K → E' k = E1 k) → (∀ i o, acc'[i]? = some o → E' (K + i) = packVal E1 o) → AV.denL E' l' = AV.denL E1 l
  | [], acc, l', acc', h => by cases h; exact ⟨PackExt.refl _, trivial, fun _ _ _ => rfl⟩
  | a :: r, acc, l', acc', h => by
    unfold packL at h
    split at h
    · rename_i a' acc1 ha
      split at h
      · rename_i r' acc2 hr
        cases h
        obtain ⟨a1, a2, a3⟩ := packV_sound (E1 := E1) a acc a' acc1 ha
        obtain ⟨b1, b2, b3⟩ := packL_sound (E1 := E1) r acc1 r' acc' hr
        have := b1.le
        refine ⟨a1.trans b1, ⟨lt_mono (by omega) _ a2, b2⟩, fun E' h1 h2 => ?_⟩
        rw [AV.denL, AV.denL, a3 E' h1 (fun i o hi => h2 i o (b1.get hi)), b3 E' h1 h2]
      · cases h
    · cases h
end
end
end Go.Sy
