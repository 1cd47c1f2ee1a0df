/-
 The executor is sound: regions that draw their order (the items, one by one).
-/
import Derived.Test.YtnijhjpaplihbaaGreatSyR
set_option linter.unusedVariables false
namespace Go.Sy
open Go.RowKit
def xoO (p : Nat → Prop) : Slot → Prop
 | .is v => AV.all p v
 | .when _ _ v => AV.all p v
 | .junk => True
def xiH (p : Nat → Prop) (s : xaY) : Prop := ∀ t, xoO p (s t)
theorem xsl {p q : Nat → Prop} (h : ∀ k, p k → q k) {sl : Slot} (hs : xoO p sl) : xoO q sl := by
 cases sl with
 | is v => exact xgk h v hs
 | when g want v => exact xgk h v hs
 | junk => trivial
theorem xwH {p : Nat → Prop} {s : xaY} (h : xiH p s) {sl : Slot} (hs : xoO p sl) (dst : Option Nat) : xiH p (put s dst sl) := by
 intro t
 cases dst with
 | none => exact h t
 | some d =>
  show xoO p (upd s d sl t)
  by_cases ht : t = d
  ·subst ht; rw [xgl]; exact hs
  ·rw [xgz _ _ ht]; exact h t
theorem xvr {p : Nat → Prop} {s : xaY} (h : xiH p s) (c : Ctx) (x : Operand) (v : AV) (hx : readS c s x = some v) : AV.all p v := by
 cases x with
 | tmp t =>
  simp only [readS] at hx
  have := h t
  split at hx
  ·rename_i v' hs; cases hx; rw [hs] at this; exact this
  ·rename_i g want v' hs
   rw [hs] at this
   split at hx
   ·cases hx; exact this
   ·cases hx
  ·cases hx
 | const c => cases hx; exact xiy _ c
 | global g => cases hx; trivial
 | func f => cases hx; exact ⟨trivial, trivial⟩
theorem xzH {p : Nat → Prop} {ctx : Ctx} {v : AV} (h : AV.all p v) : xoO p (xkY ctx v) := by
 unfold xkY
 split <;> exact h
theorem Item.slotAll {it : Item} {p : Nat → Prop} (h : AV.all p it.x.v) : xoO p it.slot := by
 unfold Item.slot
 split
 ·exact xzH h
 ·exact h
section run
variable {P : Program} {Γ : Con} {call : xie} {N : Nat} {ops : Array Oper} {objs0 : List Obj}
def xlV (ops : Array Oper) (it : Item) (s : xaY) (seen : List Nat) : Prop :=
 match it.ctx with
 | [] => it.o.guard = none
 | (g, want, b) :: r => g ∈ seen ∧ xbo s 9 g want = some ((g, want, b) :: r) ∧ ∃ j oj, it.o.guard = some (j, want) ∧ ops[j]? = some oj ∧ oj.dst = some g
structure Same (it it0 : Item) : Prop where
 o : it.o = it0.o
 ctx : it.ctx = it0.ctx
 key : it.key = it0.key
 all : it.all = it0.all
 foot : it.foot = it0.foot
 rm : it.x.rm = it0.x.rm
 nk : it.x.nk = it0.x.nk
 add : it.x.add = it0.x.add
 v : (it.x.v = it0.x.v ∧ it.x.p = it0.x.p) ∨ ∃ b v, it0.x.v = .bool b ∧ it.x.v = .val (.bool v) ∧ it.x.p = xuz it0.x.p (some (b = v))
theorem xtJ (as : List (Nat × Bool)) (it0 : Item) (sure : Bool) : Same { xzx as it0 with sure := sure } it0 := by
 unfold xzx
 split
 ·split
  ·split
   ·rename_i b hv
    exact ⟨rfl, rfl, rfl, rfl, rfl, rfl, rfl, rfl, .inr ⟨b, _, hv, rfl, rfl⟩⟩
   ·exact ⟨rfl, rfl, rfl, rfl, rfl, rfl, rfl, rfl, .inl ⟨rfl, rfl⟩⟩
  ·exact ⟨rfl, rfl, rfl, rfl, rfl, rfl, rfl, rfl, .inl ⟨rfl, rfl⟩⟩
 ·exact ⟨rfl, rfl, rfl, rfl, rfl, rfl, rfl, rfl, .inl ⟨rfl, rfl⟩⟩
def xBT (P : Program) (Γ : Con) (call : xie) (it : Item) (s : xaY) (objs0 : List Obj) (H : Heap) : Prop :=
 (it.sure = true → xe8 it.ctx) ∧ ((∃ it0, xwE P Γ call it.o s objs0 H it.ctx = some it0 ∧ Same it it0) ∨ ¬ xe8 it.ctx) ∧ it.key = H.next
def xDW (P : Program) (Γ : Con) (call : xie) (N : Nat) (ops : Array Oper) (objs0 : List Obj) : List Item → List Nat → xaY → Heap → Prop
 | [], _, _, _ => True
 | it :: r, seen, s, H => ∃ seen', xgh N it.o.dst seen = some seen' ∧ it.fine = true ∧ xlV ops it s seen ∧ xBT P Γ call it s objs0 H ∧
   xDW P Γ call N ops objs0 r seen' (put s it.o.dst it.slot) (H.eff it.x)
theorem xAw {o : Oper} {s : xaY} {H : Heap} {ctx : Ctx} {it : Item} (h : xwE P Γ call o s objs0 H ctx = some it) : it.o = o ∧ it.ctx = ctx ∧ it.key = H.next := by
 unfold xwE at h
 simp only [] at h
 split at h
 ·split at h
  ·cases h; exact ⟨rfl, rfl, rfl⟩
  ·cases h
 ·split at h
  ·split at h
   ·cases h; exact ⟨rfl, rfl, rfl⟩
   ·split at h
    ·cases h; exact ⟨rfl, rfl, rfl⟩
    ·cases h
  ·cases h
 ·split at h
  ·cases h; exact ⟨rfl, rfl, rfl⟩
  ·cases h
theorem xyz {o : Oper} {s : xaY} {seen : List Nat} {ctx : Ctx} (h : xyA ops o s seen = some ctx) {it : Item} (e1 : it.o = o) (e2 : it.ctx = ctx) : xlV ops it s seen := by
 unfold xyA at h
 unfold xlV
 rw [e1, e2]
 split at h
 ·rename_i hg
  cases h
  exact xrr hg
 ·rename_i g want hg
  split at h
  ·rename_i hseen
   obtain ⟨b, r, rfl⟩ := xtd h
   obtain ⟨x, hx, hb⟩ := List.any_eq_true.1 hseen
   exact ⟨by rw [Nat.eq_of_beq_eq_true hb]; exact hx, h, xrq hg⟩
  ·cases h
 ·cases h
theorem xog {o : Oper} {s : xaY} {seen : List Nat} {ctx : Ctx} {b : Bool} (hc : xyA ops o s seen = some ctx) (hk : xBi ops o s = some b) : xe8 ctx ↔ b = true := by
 unfold xBi at hk
 unfold xyA at hc
 split at hk
 ·rename_i g want hg
  rw [hg] at hc
  simp only [] at hc
  split at hc
  ·unfold xlm at hk
   unfold xbo at hc
   split at hk
   ·rename_i v hv
    rw [hv] at hc
    cases hc
    cases hk
    simp [xe8]
   ·rename_i v hnb hv
    rw [hv] at hc
    simp only [] at hc
    split at hc
    ·rename_i b' hw
     exfalso
     cases v <;> first | (simp [AV.weak] at hw; done) | skip
     rename_i bb
     exact hnb bb rfl
    ·cases hc
   ·cases hk
  ·cases hc
 ·cases hk
theorem xBZ {as : List (Nat × Bool)} {o : Oper} {s : xaY} {seen : List Nat} {H : Heap} {ctx : Ctx} {it : Item} (hc : xyA ops o s seen = some ctx) (h : xB0 P Γ call as ops o s objs0 H ctx = some it) : it.o = o ∧ it.ctx = ctx ∧ xBT P Γ call it s objs0 H := by
 unfold xB0 at h
 split at h
 ·rename_i hk
  cases h
  have := xog hc hk
  exact ⟨rfl, rfl, ⟨fun h => (by cases h), Or.inr (fun h => by have := this.1 h; cases this), rfl⟩⟩
 ·rename_i hk
  have hkc := xog hc hk
  cases hs : xwE P Γ call o s objs0 H ctx with
  | none => rw [hs] at h; cases h
  | some it0 =>
   rw [hs] at h
   cases h
   obtain ⟨e1, e2, e3⟩ := xAw hs
   have sm := xtJ as it0 true
   have s1 := sm.o.trans e1
   have s2 := sm.ctx.trans e2
   exact ⟨s1, s2, ⟨fun _ => by rw [s2]; exact hkc.2 rfl, Or.inl ⟨it0, by rw [s1, s2]; exact hs, sm⟩, sm.key.trans e3⟩⟩
 ·cases hs : xwE P Γ call o s objs0 H ctx with
  | none => rw [hs] at h; cases h
  | some it0 =>
   rw [hs] at h
   cases h
   obtain ⟨e1, e2, e3⟩ := xAw hs
   have sm := xtJ as it0 false
   have s1 := sm.o.trans e1
   have s2 := sm.ctx.trans e2
   exact ⟨s1, s2, ⟨fun h => (by cases h), Or.inl ⟨it0, by rw [s1, s2]; exact hs, sm⟩, sm.key.trans e3⟩⟩
theorem xqo {as : List (Nat × Bool)} : ∀ (l : List Oper) (seen : List Nat) (s : xaY) (H : Heap) (L : List Item), runD P Γ call as N ops objs0 l seen s H = some L → L.map (·.o) = l ∧ xDW P Γ call N ops objs0 L seen s H
 | [], seen, s, H, L, h => by cases h; exact ⟨rfl, trivial⟩
 | o :: rest, seen, s, H, L, h => by
  unfold runD at h
  split at h
  ·rename_i seen' ctx hseen hctx
   split at h
   ·rename_i it hit
    obtain ⟨e1, e2, e3⟩ := xBZ hctx hit
    split at h
    ·rename_i hfine
     split at h
     ·rename_i l hl
      cases h
      obtain ⟨h1, h2⟩ := xqo rest seen' _ _ l hl
      refine ⟨by simp [h1, e1], seen', by rw [e1]; exact hseen, hfine, xyz hctx e1 e2, e3, by rw [e1]; exact h2⟩
     ·cases h
    ·cases h
   ·cases h
  ·cases h
end run
section chain
variable {P : Program} {Γ : Con} {call : xie} {N : Nat} {ops : Array Oper} {objs0 : List Obj}
theorem xow : ∀ (L : List Item) (i : Nat) (S : Nat → Bool) (s : xaY), (∀ m, i ≤ m → S m = false) → xbJ S i L s = s
 | [], _, _, _, _ => rfl
 | it :: r, i, S, s, h => by
  unfold xbJ
  rw [h i (Nat.le_refl _)]
  exact xow r (i + 1) S s (fun m hm => h m (by omega))
theorem xns : ∀ (L : List Item) (i : Nat) (S : Nat → Bool) (l : List Obj), (∀ m, i ≤ m → S m = false) → xfS S i L l = l
 | [], _, _, _, _ => rfl
 | it :: r, i, S, l, h => by
  unfold xfS
  rw [h i (Nat.le_refl _)]
  exact xns r (i + 1) S l (fun m hm => h m (by omega))
theorem xlK : ∀ (L : List Item) (n : Nat), n ≤ xif L n
 | [], n => Nat.le_refl _
 | it :: r, n => by
  unfold xif
  exact Nat.le_trans (by omega) (xlK r _)
theorem xqx : ∀ (L : List Item) (k k' : Nat) (n : Nat), k ≤ k' → xif (L.take k) n ≤ xif (L.take k') n
 | [], k, k', n, _ => by simp
 | it :: r, 0, k', n, _ => by simp only [List.take_zero]; exact xlK _ _
 | it :: r, k + 1, k' + 1, n, h => by
  simp only [List.take_succ_cons]
  exact xqx r k k' _ (by omega)
 | it :: r, k + 1, 0, n, h => by omega
theorem xqy : ∀ (L : List Item) (k : Nat) (n : Nat) (it : Item), L[k]? = some it → xif (L.take (k + 1)) n = xif (L.take k) n + it.x.nk
 | [], k, n, it, h => by simp at h
 | x :: r, 0, n, it, h => by simp at h; subst h; rfl
 | x :: r, k + 1, n, it, h => by
  simp only [List.getElem?_cons_succ] at h
  simp only [List.take_succ_cons]
  exact xqy r k _ it h
structure xCZ (P : Program) (Γ : Con) (call : xie) (N : Nat) (ops : Array Oper) (objs0 : List Obj) (i k : Nat) (L : List Item) (seen : List Nat) (s : xaY) (H : Heap) (it : Item) (seenk : List Nat) : Prop where
 step : xBT P Γ call it (xbJ (fun x => decide (x < i + k)) i L s) objs0 ⟨xfS (fun x => decide (x < i + k)) i L H.objs, xif (L.take k) H.next⟩
 fine : it.fine = true
 guard : xlV ops it (xbJ (fun x => decide (x < i + k)) i L s) seenk
 add : ∃ seen', xgh N it.o.dst seenk = some seen'
 from_ : ∀ d ∈ seenk, d ∈ seen ∨ ∃ k' it', k' < k ∧ L[k']? = some it' ∧ it'.o.dst = some d
 keeps : ∀ d ∈ seen, d ∈ seenk
 has : ∀ k' it' d, k' < k → L[k']? = some it' → it'.o.dst = some d → d ∈ seenk
 key : it.key = xif (L.take k) H.next
 slots : xiH (fun x => x < xif (L.take k) H.next) (xbJ (fun x => decide (x < i + k)) i L s)
theorem xzt : ∀ (L : List Item) (i k : Nat) (seen : List Nat) (s : xaY) (H : Heap) (it : Item), xDW P Γ call N ops objs0 L seen s H → xiH (fun x => x < H.next) s → L[k]? = some it →
  ∃ seenk, xCZ P Γ call N ops objs0 i k L seen s H it seenk
 | [], i, k, seen, s, H, it, _, _, h => by simp at h
 | x :: r, i, 0, seen, s, H, it, hc, hs, h => by
  simp only [List.getElem?_cons_zero, Option.some.injEq] at h
  subst h
  obtain ⟨seen', h1, h2, h3, h4, h5⟩ := hc
  have e1 : xbJ (fun y => decide (y < i + 0)) i (x :: r) s = s := xow _ _ _ _ (fun m hm => by simp; omega)
  have e2 : xfS (fun y => decide (y < i + 0)) i (x :: r) H.objs = H.objs := xns _ _ _ _ (fun m hm => by simp; omega)
  exact ⟨seen, by rw [e1, e2]; exact h4, h2, by rw [e1]; exact h3, ⟨seen', h1⟩, fun d hd => .inl hd, fun d hd => hd, fun k' _ _ hk' => by omega, h4.2.2, by rw [e1]; exact hs⟩
 | x :: r, i, k + 1, seen, s, H, it, hc, hs, h => by
  simp only [List.getElem?_cons_succ] at h
  obtain ⟨seen', h1, h2, h3, h4, h5⟩ := hc
  have hkey : x.key = H.next := h4.2.2
  have hf := xxt h2
  have hs' : xiH (fun y => y < H.next + x.x.nk) (put s x.o.dst x.slot) := by
   refine xwH (fun t => xsl (fun _ hk => by omega) (hs t)) ?_ _
   exact Item.slotAll (by have := hf.val; rw [hkey] at this; exact this)
  obtain ⟨seenk, hat⟩ := xzt r (i + 1) k seen' (put s x.o.dst x.slot) (H.eff x.x) it h5 hs' h
  have ef : (fun y => decide (y < i + (k + 1))) = fun y => decide (y < i + 1 + k) := by funext y; congr 1; apply propext; omega
  have e1 : xbJ (fun y => decide (y < i + (k + 1))) i (x :: r) s = xbJ (fun y => decide (y < i + 1 + k)) (i + 1) r (put s x.o.dst x.slot) := by
   rw [ef]
   show xbJ _ (i + 1) r (if decide (i < i + 1 + k) = true then _ else _) = _
   rw [if_pos (by simp; omega)]
  have e2 : xfS (fun y => decide (y < i + (k + 1))) i (x :: r) H.objs = xfS (fun y => decide (y < i + 1 + k)) (i + 1) r (xhc x.x H.objs) := by
   rw [ef]
   show xfS _ (i + 1) r (if decide (i < i + 1 + k) = true then _ else _) = _
   rw [if_pos (by simp; omega)]
  have e3 : xif ((x :: r).take (k + 1)) H.next = xif (r.take k) (H.next + x.x.nk) := by simp only [List.take_succ_cons]; rfl
  refine ⟨seenk, by rw [e1, e2, e3]; exact hat.step, hat.fine, by rw [e1]; exact hat.guard, hat.add, fun d hd => ?_, fun d hd => hat.keeps d ?_, fun k' it' d hk' hit' hd => ?_, by rw [e3]; exact hat.key, by rw [e1, e3]; exact hat.slots⟩
  ·rcases hat.from_ d hd with h | ⟨k', it', hk', hit', hd'⟩
   ·cases hx : x.o.dst with
    | none => rw [hx] at h1; cases h1; exact .inl h
    | some d' =>
     rw [hx] at h1
     simp only [xgh] at h1
     split at h1
     ·cases h1
      rcases List.mem_cons.1 h with rfl | h
      ·exact .inr ⟨0, x, by omega, by simp, hx⟩
      ·exact .inl h
     ·cases h1
   ·exact .inr ⟨k' + 1, it', by omega, by simpa using hit', hd'⟩
  ·cases hx : x.o.dst with
   | none => rw [hx] at h1; cases h1; exact hd
   | some d' =>
    rw [hx] at h1
    simp only [xgh] at h1
    split at h1
    ·cases h1; exact List.mem_cons_of_mem _ hd
    ·cases h1
  ·match k', hit' with
   | 0, hit' =>
    simp only [List.getElem?_cons_zero, Option.some.injEq] at hit'
    subst hit'
    have hmem : d ∈ seen' := by
     rw [hd] at h1
     simp only [xgh] at h1
     split at h1
     ·cases h1; exact List.mem_cons_self
     ·cases h1
    exact hat.keeps d hmem
   | k' + 1, hit' => exact hat.has k' it' d (by omega) (by simpa using hit') hd
theorem xkX {t : Nat} : ∀ (L : List Item) (i : Nat) (S : Nat → Bool) (s : xaY), xbJ S i L s t = s t ∨ ∃ k it, L[k]? = some it ∧ S (i + k) = true ∧ it.o.dst = some t ∧ xbJ S i L s t = it.slot
 | [], i, S, s => .inl rfl
 | x :: r, i, S, s => by
  unfold xbJ
  rcases xkX r (i + 1) S (if S i then put s x.o.dst x.slot else s) with h | ⟨k, it, h1, h2, h3, h4⟩
  ·rw [h]
   split
   ·rename_i hS
    cases hd : x.o.dst with
    | none => exact .inl rfl
    | some d =>
     by_cases ht : t = d
     ·subst ht
      exact .inr ⟨0, x, by simp, by simpa using hS, hd, by simp [put, xgl]⟩
     ·exact .inl (by simp [put, xgz _ _ ht])
   ·exact .inl rfl
  ·exact .inr ⟨k + 1, it, by simpa using h1, by rw [show i + (k + 1) = i + 1 + k by omega]; exact h2, h3, h4⟩
theorem xsV {Q : Obj → Prop} : ∀ (L : List Item) (i : Nat) (S : Nat → Bool) (l : List Obj), (∀ o ∈ l, Q o) →
  (∀ k it, L[k]? = some it → S (i + k) = true → ∀ o ∈ it.x.add, Q o) → ∀ o ∈ xfS S i L l, Q o
 | [], _, _, _, h, _ => h
 | x :: r, i, S, l, h, hx => by
  unfold xfS
  refine xsV r (i + 1) S _ ?_ (fun k it hk hS => hx (k + 1) it (by simpa using hk) (by rw [show i + (k + 1) = i + 1 + k by omega]; exact hS))
  split
  ·rename_i hS
   have h0 := hx 0 x (by simp) (by simpa using hS)
   intro o ho
   rcases List.mem_append.1 ho with ho | ho
   ·exact h0 o ho
   ·exact h o (List.mem_filter.1 ho).1
  ·exact h
theorem xuH {t j : Nat} {x : Item} : ∀ (L : List Item) (i k : Nat) (S S' : Nat → Bool) (s : xaY), L[k]? = some x → i + k = j → S j = false → (∀ m, S' m = (S m || Nat.beq m j)) →
  (∀ k' it, L[k']? = some it → k' ≠ k → x.o.dst = some t → it.o.dst = some t → False) → xbJ S' i L s t = put (xbJ S i L s) x.o.dst x.slot t
 | [], _, _, _, _, _, h, _, _, _, _ => by simp at h
 | it :: r, i, 0, S, S', s, h, hj, hSj, hS', hd => by
  simp only [List.getElem?_cons_zero, Option.some.injEq] at h
  subst h
  have hj : i = j := by omega
  subst hj
  unfold xbJ
  rw [hS', hSj, xdM]
  simp only [Bool.or_true, if_true, Bool.false_eq_true, if_false]
  have hother : ∀ k' y, r[k']? = some y → S' (i + 1 + k') = S (i + 1 + k') := fun k' y _ => by
   rw [hS', xil (by omega)]; simp
  by_cases ht : it.o.dst = some t
  ·have e : ∀ (S : Nat → Bool) (s : xaY), xbJ S (i + 1) r s t = s t := fun S s => by
    rcases xkX (t := t) r (i + 1) S s with h | ⟨k, y, h1, h2, h3, h4⟩
    ·exact h
    ·exact (hd (k + 1) y (by simpa using h1) (by omega) ht h3).elim
   rw [e]
   simp [put, ht, xgl]
  ·have e : ∀ (s : xaY), put s it.o.dst it.slot t = s t := fun s => by
    cases hdd : it.o.dst with
    | none => rfl
    | some d => exact xgz _ _ (fun e => ht (by rw [hdd, e]))
   rw [e]
   exact xiJ r (i + 1) S' S _ _ (e s) (fun k' y hy _ => hother k' y hy)
 | it :: r, i, k + 1, S, S', s, h, hj, hSj, hS', hd => by
  simp only [List.getElem?_cons_succ] at h
  unfold xbJ
  have e : S' i = S i := by rw [hS', xil (by omega)]; simp
  rw [e]
  exact xuH r (i + 1) k S S' _ h (by omega) hSj hS' (fun k' y hy hne hx hty => hd (k' + 1) y (by simpa using hy) (by omega) hx hty)
theorem xag.sub {X : List (Nat × Go.Obj)} {E : Env} {w0 w : World} {H : Heap} (h : xag X E w0 H w) {l : List Obj} {n : Nat} (hm : ∀ o ∈ l, o ∈ H.objs) (hlt : ∀ o ∈ l, o.key < n ∧ xbh (fun k => k < n) o.body) : xag X E w0 ⟨l, n⟩ w :=
 ⟨h.below, h.env, fun o ho => h.objs o (hm o ho), fun o ho => h.high o (hm o ho), fun o ho o' ho' => h.inj o (hm o ho) o' (hm o' ho'), fun o ho o' ho' => h.uniq o (hm o ho) o' (hm o' ho'), hlt, fun x hx => ⟨(h.prot x hx).1, fun o ho => (h.prot x hx).2 o (hm o ho)⟩, fun o ho b hb o' ho' => h.deep o (hm o ho) b hb o' (hm o' ho'), fun x hx o ho => h.protD x hx o (hm o ho), fun o ho => h.fsh o (hm o ho)⟩
theorem xag.congr {X : List (Nat × Go.Obj)} {E : Env} {w0 w : World} {l l' : List Obj} {n : Nat} (h : xag X E w0 ⟨l, n⟩ w) (he : ∀ key, xhH key l = xhH key l') : xag X E w0 ⟨l', n⟩ w := by
 have hm : ∀ o, o ∈ l' → o ∈ l := fun o ho => by rw [xpx, he, ← xpx]; exact ho
 exact h.sub hm (fun o ho => h.lt o (hm o ho))
theorem xyK {E : Env} {w : World} {key : Nat} {own : Bool} {b : Body} (h : xbi E w key own b) : xbi E w.drew key own b :=
 h.keep rfl (by cases b <;> first | exact fun t v _ => (xhp v).2 fun _ _ => rfl | exact (xeg _).2 fun _ _ => rfl) (fun _ _ => rfl) (Nat.le_refl _) (fun _ _ => rfl)
theorem xag.drew {X : List (Nat × Go.Obj)} {E : Env} {w0 w : World} {H : Heap} (h : xag X E w0 H w) : xag X E w0 H w.drew :=
 ⟨h.below.drew, h.env, fun o ho => xyK (h.objs o ho), h.high, h.inj, h.uniq, h.lt, h.prot, h.deep, h.protD, h.fsh⟩
theorem xaO.point {E : Env} {n N : Nat} {D : List Deferred} {s s' : xaY} {a : Act} (h : xaO E n N D s a) (hs : ∀ t, s' t = s t) : xaO E n N D s' a :=
 ⟨h.defers, h.size, fun t => by rw [hs t]; exact h.ok t⟩
theorem xaO.envAll {E E' : Env} {n N : Nat} {D : List Deferred} {p : Nat → Prop} {s : xaY} {a : Act} (h : xaO E n N D s a) (hE : ∀ k, p k → E' k = E k) (hs : xiH p s) : xaO E' n N D s a := by
 refine ⟨h.defers, h.size, fun t => ?_⟩
 have h1 := h.ok t
 have h2 := hs t
 cases hst : s t with
 | is v => rw [hst] at h1 h2; exact ⟨by rw [xfN hE v h2]; exact h1.1, h1.2⟩
 | when g want v => rw [hst] at h1 h2; exact ⟨h1.1, fun hg => by rw [xfN hE v h2]; exact h1.2.1 hg, h1.2.2⟩
 | junk => trivial
end chain
end Go.Sy
