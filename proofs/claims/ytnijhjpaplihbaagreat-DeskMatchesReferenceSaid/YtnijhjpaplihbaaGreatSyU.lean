/-
 The executor is sound: a region that draws its order.
-/
import Derived.Test.YtnijhjpaplihbaaGreatSyT
import Derived.OrdersIn
set_option linter.unusedVariables false
namespace Go.Sy
open Go.RowKit
section
variable {P : Program} {Γ : Con} {call : xie} {N : Nat} {ops : Array Oper} {X : List (Nat × Go.Obj)} {w0 : World} {D : List Deferred} {H : Heap} {s : xaY} {L : List Item} {rnd : Option Nat}
structure Run (P : Program) (Γ : Con) (call : xie) (N : Nat) (ops : Array Oper) (H : Heap) (s : xaY) (L : List Item) : Prop where
 hΓ : xaI P Γ
 hcall : xkF P call
 hk : xhl P call
 hops : L.map (·.o) = ops.toList
 at_ : ∀ k it, L[k]? = some it → ∃ seenk, xCZ P Γ call N ops H.objs 0 k L [] s H it seenk
 hslots : xiH (fun x => x < H.next) s
 nowhen : xmb s []
 hobjs : ∀ o ∈ H.objs, o.key < H.next ∧ xbh (fun k => k < H.next) o.body
 pair : ∀ j x m y, L[j]? = some x → L[m]? = some y → j ≠ m → xy4 (xgj ops.toList []) H.next j x m y = true
 alls : ∀ j x m y, L[j]? = some x → L[m]? = some y → xDN (xgj ops.toList []) H.next j x m y = true
 edge : ∀ i o, ops[i]? = some o → ∀ e ∈ o.after, Region.binds .any e = true → e.on < i
def Inv (N : Nat) (D : List Deferred) (X : List (Nat × Go.Obj)) (w0 : World) (H : Heap) (s : xaY) (L : List Item) (E : Env) (S : Nat → Bool) (a : Act) (w : World) : Prop :=
 ∃ E', (∀ k, k < H.next → E' k = E k) ∧ xaO E' (xif L H.next) N D (xbJ S 0 L s) a ∧ xag X E' w0 ⟨xfS S 0 L H.objs, xif L H.next⟩ w
theorem Run.get (r : Run P Γ call N ops H s L) {j : Nat} {o : Oper} (h : ops[j]? = some o) : ∃ it, L[j]? = some it ∧ it.o = o := by
 have h1 : (L.map (·.o))[j]? = some o := by rw [r.hops]; simpa using h
 rw [List.getElem?_map] at h1
 cases hl : L[j]? with
 | none => rw [hl] at h1; cases h1
 | some it => rw [hl] at h1; simp at h1; exact ⟨it, rfl, h1⟩
theorem Run.back (r : Run P Γ call N ops H s L) {j : Nat} {it : Item} (h : L[j]? = some it) : ops[j]? = some it.o := by
 have h1 : (L.map (·.o))[j]? = some it.o := by rw [List.getElem?_map, h]; rfl
 rw [r.hops] at h1
 simpa using h1
theorem Run.distinct (r : Run P Γ call N ops H s L) {k k' : Nat} {x y : Item} {d : Nat} (h : L[k]? = some x) (h' : L[k']? = some y) (hx : x.o.dst = some d) (hy : y.o.dst = some d) : k = k' := by
 have lt : ∀ {k k' : Nat} {x y : Item}, L[k]? = some x → L[k']? = some y → x.o.dst = some d → y.o.dst = some d → ¬ k < k' := by
  intro k k' x y h h' hx hy hlt
  obtain ⟨seenk, hat⟩ := r.at_ k' y h'
  have hm := hat.has k x d hlt h hx
  obtain ⟨seen', hadd⟩ := hat.add
  rw [hy] at hadd
  simp only [xgh] at hadd
  split at hadd
  ·rename_i hc
   rw [Bool.and_eq_true] at hc
   have h2 : seenk.any (Nat.beq d) = true := List.any_eq_true.2 ⟨d, hm, xdM d⟩
   rw [h2] at hc
   simp at hc
  ·cases hadd
 have h1 := lt h h' hx hy
 have h2 := lt h' h hy hx
 omega
theorem Run.dstN (r : Run P Γ call N ops H s L) {k : Nat} {x : Item} {d : Nat} (h : L[k]? = some x) (hx : x.o.dst = some d) : d < N := by
 obtain ⟨seenk, hat⟩ := r.at_ k x h
 obtain ⟨seen', hadd⟩ := hat.add
 rw [hx] at hadd
 simp only [xgh] at hadd
 split at hadd
 ·rename_i hc
  rw [Bool.and_eq_true] at hc
  simpa using hc.1
 ·cases hadd
theorem Run.key (r : Run P Γ call N ops H s L) {k : Nat} {x : Item} (h : L[k]? = some x) : x.key = xif (L.take k) H.next := by
 obtain ⟨seenk, hat⟩ := r.at_ k x h
 exact hat.key
theorem Run.fine (r : Run P Γ call N ops H s L) {k : Nat} {x : Item} (h : L[k]? = some x) : Fine x := by
 obtain ⟨seenk, hat⟩ := r.at_ k x h
 exact xxt hat.fine
theorem Run.fines (r : Run P Γ call N ops H s L) : ∀ it ∈ L, Fine it := fun it hm => by
 obtain ⟨k, hk⟩ := List.mem_iff_getElem?.1 hm
 exact r.fine hk
theorem Run.keyF (r : Run P Γ call N ops H s L) {k : Nat} {x : Item} (h : L[k]? = some x) : H.next ≤ x.key ∧ x.key + x.x.nk ≤ xif L H.next := by
 rw [r.key h]
 refine ⟨xlK _ _, ?_⟩
 have h1 := xqy L k H.next x h
 have h2 := xqx L (k + 1) L.length H.next (by
  rcases Nat.lt_or_ge k L.length with h' | h'
  ·omega
  ·rw [List.getElem?_eq_none h'] at h; cases h)
 rw [List.take_length, h1] at h2
 exact h2
theorem Run.keyLt (r : Run P Γ call N ops H s L) {j k : Nat} {x y : Item} (hj : L[j]? = some x) (hk : L[k]? = some y) (hlt : j < k) : x.key + x.x.nk ≤ y.key := by
 rw [r.key hj, r.key hk]
 have h1 := xqy L j H.next x hj
 have h2 := xqx L (j + 1) k H.next (by omega)
 rw [h1] at h2
 omega
theorem Run.agree (r : Run P Γ call N ops H s L) {S : Nat → Bool} (hS : xrB ops S) {j : Nat} {oj : Oper} (hj : ops[j]? = some oj) (hSj : S j = false) (hready : ∀ e ∈ oj.after, Region.binds .any e = true → S e.on = true) {m : Nat} {y : Item} (hm : L[m]? = some y) (_hne : j ≠ m)
  (ho : xkL (xgj ops.toList []) j m = true) : S m = decide (m < j) := by
 unfold xkL at ho
 by_cases hlt : m < j
 ·have : Nat.blt m j = true := by simpa using hlt
  rw [this] at ho
  simp only [if_true] at ho
  rw [xkD hS (j + 1) j (by omega) oj hj hready m ho]
  simp [hlt]
 ·have : Nat.blt m j = false := Bool.eq_false_iff.2 (fun hb => hlt (by simpa using hb))
  rw [this] at ho
  simp only [Bool.false_eq_true, if_false] at ho
  cases hSm : S m with
  | false => simp [hlt]
  | true =>
   have hom := r.back hm
   have := xkD hS (m + 1) m (by omega) y.o hom (hS m y.o hom hSm) j ho
   rw [hSj] at this
   cases this
structure xCX (n j : Nat) (x : Item) (m : Nat) (y : Item) : Prop where
 dst : ∀ d, y.o.dst = some d → d ∉ xrO x
 foot : ∀ key ∈ x.foot, y.touch key = false
 all : x.all = true → ∀ k ∈ y.x.rm, n ≤ k
 rm : ∀ k ∈ x.x.rm, y.touch k = false
 names : ∀ k, x.key ≤ k → k < x.key + x.x.nk → k ∉ AV.keys y.x.v ∧ ∀ o ∈ y.x.add, o.key ≠ k ∧ k ∉ AV.keysL o.body.cellsOf
theorem xjS {M : List Nat} {n j m : Nat} {x y : Item} (h : xy4 M n j x m y = true) (hne : j ≠ m) : xkL M j m = true ∨ xCX n j x m y := by
 unfold xy4 at h
 rw [xil hne] at h
 simp only [Bool.false_or, Bool.or_eq_true, Bool.and_eq_true] at h
 rcases h with h | h
 ·exact .inl h
 refine .inr ?_
 obtain ⟨⟨⟨⟨h1, h2⟩, h3⟩, h4⟩, h5⟩ := h
 refine ⟨fun d hd hm => ?_, fun key hk => ?_, fun ha k hk => ?_, fun k hk => ?_, fun k hk1 hk2 => ?_⟩
 ·rw [hd] at h1
  have : (xrO x).any (Nat.beq d) = true := xkT.2 hm
  simp only [this] at h1
  cases h1
 ·cases ht : y.touch key with
  | false => rfl
  | true =>
   have : xEb x.foot y = true := List.any_eq_true.2 ⟨key, hk, ht⟩
   rw [this] at h2
   cases h2
 ·rw [ha] at h3
  rcases h3 with h3 | h3
  ·cases h3
  ·simpa using List.all_eq_true.1 h3 k hk
 ·cases ht : y.touch k with
  | false => rfl
  | true =>
   have : x.x.rm.any y.touch = true := List.any_eq_true.2 ⟨k, hk, ht⟩
   rw [this] at h4
   cases h4
 ·rcases h5 with h5 | h5
  ·have := Nat.eq_of_beq_eq_true h5; omega
  ·have no : k ∉ AV.keys y.x.v ++ y.x.add.flatMap (fun o => o.key :: AV.keysL o.body.cellsOf) := fun hm => by
    have : y.names x.key (x.key + x.x.nk) = true := by
     unfold Item.names
     exact List.any_eq_true.2 ⟨k, hm, by simp [hk1, hk2]⟩
    rw [this] at h5
    cases h5
   rw [List.mem_append, not_or] at no
   refine ⟨no.1, fun o ho => ?_⟩
   have h6 : k ∉ o.key :: AV.keysL o.body.cellsOf := fun hm => no.2 (List.mem_flatMap.2 ⟨o, ho, hm⟩)
   rw [List.mem_cons, not_or] at h6
   exact ⟨fun e => h6.1 e.symm, h6.2⟩
theorem xw1 (M : List Nat) {j m : Nat} (hne : j ≠ m) : xkL M j m = xkL M m j := by
 unfold xkL
 by_cases h : m < j
 ·have h1 : Nat.blt m j = true := by simpa using h
  have h2 : Nat.blt j m = false := Bool.eq_false_iff.2 (fun hb => by have h9 : j < m := (by simpa using hb); omega)
  rw [h1, h2]; rfl
 ·have h1 : Nat.blt m j = false := Bool.eq_false_iff.2 (fun hb => h (by simpa using hb))
  have h2 : Nat.blt j m = true := by simp; omega
  rw [h1, h2]; rfl
theorem Run.touchBoth (r : Run P Γ call N ops H s L) {j m : Nat} {x y : Item} (hj : L[j]? = some x) (hm : L[m]? = some y) (hne : j ≠ m) {key : Nat} (hx : x.touch key = true) (hy : y.touch key = true) : xkL (xgj ops.toList []) j m = true := by
 rcases xjS (r.pair j x m y hj hm hne) hne with h | h
 ·exact h
 ·rcases xjS (r.pair m y j x hm hj (fun e => hne e.symm)) (fun e => hne e.symm) with h' | h'
  ·rw [xw1 _ hne]; exact h'
  ·exfalso
   rcases xoS.1 hx with h1 | h1
   ·have := h.rm _ h1; rw [hy] at this; cases this
   ·rcases xoS.1 hy with h2 | h2
    ·have := h'.rm _ h2; rw [hx] at this; cases this
    ·rcases Nat.lt_or_ge j m with hlt | hlt
     ·have := r.keyLt hj hm hlt; omega
     ·have := r.keyLt hm hj (by omega); omega
theorem Run.pairAgree (r : Run P Γ call N ops H s L) {S : Nat → Bool} (hS : xrB ops S) {j : Nat} {it : Item} (hj : L[j]? = some it) (hSj : S j = false) (hready : ∀ e ∈ it.o.after, Region.binds .any e = true → S e.on = true) {m : Nat} {y : Item} (hm : L[m]? = some y) {C : Prop} (hC : xCX H.next j it m y → C) (hn : ¬ C) : S m = decide (m < j) := by
 by_cases hkj : m = j
 ·subst hkj; rw [hSj]; simp
 ·have hne : j ≠ m := fun e => hkj e.symm
  rcases xjS (r.pair j it m y hj hm hne) hne with h | h
  ·exact r.agree hS (r.back hj) hSj hready hm hne h
  ·exact absurd (hC h) hn
theorem Run.noGuard (r : Run P Γ call N ops H s L) {S : Nat → Bool} (hS : xrB ops S) {j : Nat} {it : Item} (hj : L[j]? = some it) (hSj : S j = false) {d : Nat} (hd : it.o.dst = some d) :
  ∀ t g want v, xbJ S 0 L s t = .when g want v → g ≠ d := by
 intro t g want v ht hg
 subst hg
 rcases xkX L 0 S s with h | ⟨k, y, h1, h2, h3, h4⟩
 ·rw [h] at ht
  exact absurd (r.nowhen t g want v ht) (by simp)
 ·rw [h4] at ht
  have hctx : ∃ b r, y.ctx = (g, want, b) :: r := by
   unfold Item.slot at ht
   split at ht
   ·unfold xkY at ht
    split at ht
    ·cases ht
    ·rename_i g' want' b' r' hc; cases ht; exact ⟨b', r', hc⟩
   ·cases ht
  obtain ⟨b, rr, hc⟩ := hctx
  obtain ⟨seenk, hat⟩ := r.at_ k y h1
  have hgu := hat.guard
  unfold xlV at hgu
  rw [hc] at hgu
  rcases hat.from_ g hgu.1 with h | ⟨k', y', hk', hy', hd'⟩
  ·cases h
  ·have e : k' = j := r.distinct hy' hj hd' hd
   subst e
   have hne : k ≠ k' := by omega
   have ho : xkL (xgj ops.toList []) k k' = true := by
    rcases xjS (r.pair k y k' it h1 hj hne) hne with h | h
    ·exact h
    ·exact absurd (show g ∈ xrO y by unfold xrO; rw [hc]; simp) (h.dst g hd)
   have hk0 : S k = true := by simpa using h2
   have hok := r.back h1
   unfold xkL at ho
   have hb : Nat.blt k' k = true := by simpa using hk'
   rw [hb] at ho
   simp only [if_true] at ho
   have := xkD hS (k + 1) k (by omega) y.o hok (hS k y.o hok hk0) k' ho
   rw [hSj] at this
   cases this
end
end Go.Sy
