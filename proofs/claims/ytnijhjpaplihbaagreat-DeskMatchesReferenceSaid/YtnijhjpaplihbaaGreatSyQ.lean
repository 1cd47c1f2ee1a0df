/-
 The executor is sound: regions that draw their order (masks; states after some operations; the same operation in another state).
-/
import Derived.Test.YtnijhjpaplihbaaGreatSyP
set_option linter.unusedVariables false
namespace Go.Sy
open Go.RowKit
theorem xDj {look : Nat → Nat} {o : Oper} {m : Nat} (h : (CheckFast.one look o).testBit m = true) : ∃ e ∈ o.after, Region.binds .any e = true ∧ (e.on = m ∨ (look e.on).testBit m = true) := by
 have key : ∀ (l : List Edge) (s : Nat), (l.foldl (fun s e => if Region.binds .any e then s ||| 2 ^ e.on ||| look e.on else s) s).testBit m = true → s.testBit m = true ∨ ∃ e ∈ l, Region.binds .any e = true ∧ (e.on = m ∨ (look e.on).testBit m = true) := by
  intro l
  induction l with
  | nil => intro s h; exact .inl h
  | cons e r ih =>
   intro s h
   rcases ih _ h with h | ⟨e', he', h2⟩
   ·dsimp only at h
    by_cases hb : Region.binds .any e = true
    ·rw [if_pos hb] at h
     simp only [Nat.testBit_or, Nat.testBit_two_pow, Bool.or_eq_true, decide_eq_true_eq] at h
     rcases h with (h | h) | h
     ·exact .inl h
     ·exact .inr ⟨e, by simp, hb, .inl h⟩
     ·exact .inr ⟨e, by simp, hb, .inr h⟩
    ·rw [if_neg hb] at h
     exact .inl h
   ·exact .inr ⟨e', by simp [he'], h2⟩
 unfold CheckFast.one at h
 rw [← Array.foldl_toList] at h
 rcases key _ _ h with h | ⟨e, he, h2⟩
 ·simp at h
 ·exact ⟨e, by simpa using he, h2⟩
theorem xs5 : ∀ (l : List Oper) (acc : List Nat) (j : Nat), j < acc.length → (xgj l acc).getD j 0 = acc.getD j 0
 | [], acc, j, _ => rfl
 | o :: r, acc, j, h => by
  unfold xgj
  rw [CheckFast.force_eq, xs5 r _ j (by simp; omega)]
  simp [List.getD_eq_getElem?_getD, List.getElem?_append_left h]
theorem xxa : ∀ (l : List Oper) (acc : List Nat) (k : Nat) (o : Oper) (m : Nat), l[k]? = some o → ((xgj l acc).getD (acc.length + k) 0).testBit m = true →
  ∃ e ∈ o.after, Region.binds .any e = true ∧ (e.on = m ∨ (e.on < acc.length + k ∧ ((xgj l acc).getD e.on 0).testBit m = true))
 | [], acc, k, o, m, h, _ => by simp at h
 | x :: r, acc, 0, o, m, h, hb => by
  simp only [List.getElem?_cons_zero, Option.some.injEq] at h
  subst h
  unfold xgj at hb ⊢
  rw [CheckFast.force_eq] at hb ⊢
  rw [xs5 r _ _ (by simp)] at hb
  have hb' : (CheckFast.one (fun i => acc.getD i 0) x).testBit m = true := by simpa [List.getD_eq_getElem?_getD] using hb
  obtain ⟨e, he, h1, h2⟩ := xDj hb'
  refine ⟨e, he, h1, ?_⟩
  rcases h2 with h2 | h2
  ·exact .inl h2
  ·have hlt : e.on < acc.length := by
    rcases Nat.lt_or_ge e.on acc.length with h | h
    ·exact h
    ·simp [List.getD_eq_getElem?_getD, List.getElem?_eq_none h] at h2
   refine .inr ⟨by omega, ?_⟩
   rw [xs5 r _ _ (by simp; omega)]
   simpa [List.getD_eq_getElem?_getD, List.getElem?_append_left hlt] using h2
 | x :: r, acc, k + 1, o, m, h, hb => by
  simp only [List.getElem?_cons_succ] at h
  unfold xgj at hb ⊢
  rw [CheckFast.force_eq] at hb ⊢
  have e1 : acc.length + (k + 1) = (acc ++ [CheckFast.one (fun i => acc.getD i 0) x]).length + k := by simp; omega
  rw [e1] at hb ⊢
  exact xxa r _ k o m h hb
def xrB (ops : Array Oper) (S : Nat → Bool) : Prop := ∀ i o, ops[i]? = some o → S i = true → ∀ e ∈ o.after, Region.binds .any e = true → S e.on = true
theorem xkD {ops : Array Oper} {S : Nat → Bool} (hS : xrB ops S) : ∀ (n j : Nat), j < n → ∀ o, ops[j]? = some o → (∀ e ∈ o.after, Region.binds .any e = true → S e.on = true) → ∀ m, ((xgj ops.toList []).getD j 0).testBit m = true → S m = true
 | 0, j, h, _, _, _, _, _ => by omega
 | n + 1, j, hj, o, ho, hpre, m, hm => by
  have hm' : ((xgj ops.toList []).getD (([] : List Nat).length + j) 0).testBit m = true := by simpa using hm
  obtain ⟨e, he, hb, h2⟩ := xxa ops.toList [] j o m (by simpa using ho) hm'
  rcases h2 with h2 | ⟨h2, h3⟩
  ·rw [← h2]; exact hpre e he hb
  ·have hse := hpre e he hb
   have h2 : e.on < j := by simpa using h2
   cases hoe : ops[e.on]? with
   | none =>
    exfalso
    have hlen : ∀ (l : List Oper) (acc : List Nat), (xgj l acc).length = acc.length + l.length := by
     intro l
     induction l with
     | nil => intro acc; simp [xgj]
     | cons x r ih => intro acc; unfold xgj; rw [CheckFast.force_eq, ih]; simp; omega
    have hge : ops.size ≤ e.on := by
     rcases Nat.lt_or_ge e.on ops.size with h | h
     ·simp [h] at hoe
     ·exact h
    rw [List.getD_eq_getElem?_getD, List.getElem?_eq_none (by rw [hlen]; simpa using hge)] at h3
    simp at h3
   | some oe => exact xkD hS n e.on (by omega) oe hoe (hS e.on oe hoe hse) m h3
theorem xiJ {t : Nat} : ∀ (L : List Item) (i : Nat) (S S' : Nat → Bool) (s s' : xaY), s t = s' t → (∀ k it, L[k]? = some it → it.o.dst = some t → S (i + k) = S' (i + k)) → xbJ S i L s t = xbJ S' i L s' t
 | [], _, _, _, _, _, h, _ => h
 | it :: r, i, S, S', s, s', h, hS => by
  unfold xbJ
  refine xiJ r (i + 1) S S' _ _ ?_ (fun k x hx hd => by have := hS (k + 1) x (by simpa using hx) hd; rwa [show i + (k + 1) = i + 1 + k by omega] at this)
  by_cases hd : it.o.dst = some t
  ·have h0 := hS 0 it (by simp) hd
   simp only [Nat.add_zero] at h0
   rw [h0]
   split
   ·simp [put, hd, xgl]
   ·exact h
  ·have hput : ∀ (s : xaY), put s it.o.dst it.slot t = s t := fun s => by
    unfold put
    cases hdd : it.o.dst with
    | none => rfl
    | some d => exact xgz _ _ (fun e => hd (by rw [hdd, e]))
   split <;> split <;> simp [hput, h]
def xhH (key : Nat) (l : List Obj) : List Obj := l.filter fun o => Nat.beq o.key key
theorem xqI (key : Nat) : ∀ (l : List Obj), xai key l = (xhH key l).head?
 | [] => rfl
 | o :: r => by
  unfold xai xhH
  cases h : Nat.beq o.key key with
  | true => simp [h]
  | false =>
   simp only [List.filter_cons, h, Bool.false_eq_true, if_false]
   exact xqI key r
theorem xpx {o : Obj} {l : List Obj} : o ∈ l ↔ o ∈ xhH o.key l := by
 unfold xhH
 rw [List.mem_filter]
 simp
structure Fine (it : Item) : Prop where
 pure : it.x.pure = true ∨ it.ctx = [] ∨ it.sure = true
 rm : ∀ k ∈ it.x.rm, k < it.key
 touch : ∀ o ∈ it.x.add, it.touch o.key = true
 ver : ∀ o ∈ it.x.add, it.key ≤ o.ver
 noLoop : ∀ o ∈ it.x.add, xx7 o.body = true
 below : ∀ o ∈ it.x.add, AV.ltL (it.key + it.x.nk) o.body.cellsOf
 val : AV.lt (it.key + it.x.nk) it.x.v
theorem xxt {it : Item} (h : it.fine = true) : Fine it := by
 unfold Item.fine at h
 simp only [Bool.and_eq_true, Bool.or_eq_true, List.all_eq_true] at h
 obtain ⟨⟨⟨h1, h2⟩, h3⟩, h4⟩ := h
 refine ⟨by rcases h1 with (h1 | h1) | h1; exact .inl h1; exact .inr (.inl (by simpa using h1)); exact .inr (.inr h1), fun k hk => by simpa using h2 k hk, fun o ho => (h3 o ho).1.1.1, fun o ho => Nat.le_of_ble_eq_true (h3 o ho).1.1.2, fun o ho => (h3 o ho).1.2, fun o ho => (xeg _).2 fun k hk => by simpa using (h3 o ho).2 k hk, (xhp _).2 fun k hk => by simpa using h4 k hk⟩
theorem xoS {it : Item} {key : Nat} : it.touch key = true ↔ key ∈ it.x.rm ∨ (it.key ≤ key ∧ key < it.key + it.x.nk) := by
 unfold Item.touch
 rw [Bool.or_eq_true, Bool.and_eq_true, xkT]
 simp
theorem Fine.addLt {it : Item} (h : Fine it) {o : Obj} (ho : o ∈ it.x.add) : o.key < it.key + it.x.nk := by
 rcases xoS.1 (h.touch o ho) with h1 | h1
 ·have := h.rm _ h1; omega
 ·exact h1.2
theorem xoq {p : Nat → Prop} {b : Body} (h : xx7 b = true) (hl : AV.allL p b.cellsOf) : xbh p b := by
 cases b with
 | loop => cases h
 | _ => exact hl
theorem xmR {it : Item} {key : Nat} (hf : Fine it) (h : it.touch key = false) (l : List Obj) : xhH key (xhc it.x l) = xhH key l := by
 unfold xhH xhc
 rw [List.filter_append]
 have h1 : it.x.add.filter (fun o => Nat.beq o.key key) = [] := by
  rw [List.filter_eq_nil_iff]
  intro o ho hb
  rw [← Nat.eq_of_beq_eq_true hb, hf.touch o ho] at h
  cases h
 rw [h1, List.nil_append, List.filter_filter]
 apply List.filter_congr
 intro o _
 cases hk : Nat.beq o.key key with
 | false => rfl
 | true =>
  rw [Nat.eq_of_beq_eq_true hk]
  have : it.x.rm.any (Nat.beq key) = false := by
   unfold Item.touch at h
   rw [Bool.or_eq_false_iff] at h
   exact h.1
  rw [this]; rfl
theorem xmS {x : Eff} {key : Nat} {l l' : List Obj} (h : xhH key l = xhH key l') : xhH key (xhc x l) = xhH key (xhc x l') := by
 unfold xhc
 have e : ∀ l : List Obj, xhH key (l.filter (fun o => !(x.rm.any (Nat.beq o.key)))) = (xhH key l).filter (fun o => !(x.rm.any (Nat.beq o.key))) := by
  intro l
  unfold xhH
  rw [List.filter_filter, List.filter_filter]
  apply List.filter_congr
  intro o _
  exact Bool.and_comm _ _
 unfold xhH at e ⊢
 rw [List.filter_append, List.filter_append, e, e]
 unfold xhH at h
 rw [h]
theorem xhu {key : Nat} : ∀ (L : List Item) (i : Nat) (S S' : Nat → Bool) (l l' : List Obj), (∀ it ∈ L, Fine it) → xhH key l = xhH key l' → (∀ k it, L[k]? = some it → it.touch key = true → S (i + k) = S' (i + k)) → xhH key (xfS S i L l) = xhH key (xfS S' i L l')
 | [], _, _, _, _, _, _, h, _ => h
 | it :: r, i, S, S', l, l', hf, h, hS => by
  unfold xfS
  refine xhu r (i + 1) S S' _ _ (fun y hy => hf y (by simp [hy])) ?_ (fun k x hx hd => by have := hS (k + 1) x (by simpa using hx) hd; rwa [show i + (k + 1) = i + 1 + k by omega] at this)
  by_cases hd : it.touch key = true
  ·have h0 := hS 0 it (by simp) hd
   simp only [Nat.add_zero] at h0
   rw [h0]
   split
   ·exact xmS h
   ·exact h
  ·have hne : it.touch key = false := by simpa using hd
   split <;> split <;> simp [xmR (hf it (by simp)) hne, h]
theorem xw3 {key : Nat} {j : Nat} {x : Item} : ∀ (L : List Item) (i k : Nat) (S S' : Nat → Bool) (l : List Obj), (∀ it ∈ L, Fine it) → L[k]? = some x → i + k = j → S j = false → (∀ m, S' m = (S m || Nat.beq m j)) →
  (∀ k' it, L[k']? = some it → k < k' → x.touch key = true → it.touch key = true → S (i + k') = false) → xhH key (xfS S' i L l) = xhH key (xhc x.x (xfS S i L l))
 | [], _, _, _, _, _, _, h, _, _, _, _ => by simp at h
 | it :: r, i, 0, S, S', l, hf, h, hj, hSj, hS', hafter => by
  simp only [List.getElem?_cons_zero, Option.some.injEq] at h
  subst h
  have hj : i = j := by omega
  subst hj
  have hfr : ∀ y ∈ r, Fine y := fun y hy => hf y (by simp [hy])
  unfold xfS
  rw [hS', hSj, xdM]
  simp only [Bool.or_true, if_true, Bool.false_eq_true, if_false]
  have hother : ∀ k' y, r[k']? = some y → S' (i + 1 + k') = S (i + 1 + k') := fun k' y _ => by
   rw [hS', xil (by omega)]; simp
  by_cases ht : it.touch key = true
  ·-- nothing behind it touches the key
   have hno : ∀ (l : List Obj), xhH key (xfS S (i + 1) r l) = xhH key l := by
    intro l
    have := xhu (key := key) r (i + 1) S (fun _ => false) l l hfr rfl (fun k' y hy hty => by
     have := hafter (k' + 1) y (by simpa using hy) (by omega) ht hty
     rwa [show i + (k' + 1) = i + 1 + k' by omega] at this)
    rw [this]
    have e : ∀ (L : List Item) (i : Nat) (l : List Obj), xfS (fun _ => false) i L l = l := by
     intro L
     induction L with
     | nil => intro i l; rfl
     | cons y r ih => intro i l; unfold xfS; simp only [Bool.false_eq_true, if_false]; exact ih _ _
    rw [e]
   rw [xhu (key := key) r (i + 1) S' S _ _ hfr rfl (fun k' y hy _ => hother k' y hy), hno]
   exact xmS (x := it.x) (hno l).symm
  ·have hne : it.touch key = false := by simpa using ht
   rw [xmR (hf it (by simp)) hne]
   exact xhu r (i + 1) S' S _ _ hfr (xmR (hf it (by simp)) hne l) (fun k' y hy _ => hother k' y hy)
 | it :: r, i, k + 1, S, S', l, hf, h, hj, hSj, hS', hafter => by
  simp only [List.getElem?_cons_succ] at h
  unfold xfS
  have e : S' i = S i := by rw [hS', xil (by omega)]; simp
  rw [e]
  exact xw3 r (i + 1) k S S' _ (fun y hy => hf y (by simp [hy])) h (by omega) hSj hS' (fun k' y hy hlt hx hty => by
   have := hafter (k' + 1) y (by simpa using hy) (by omega) hx hty
   rwa [show i + (k' + 1) = i + 1 + k' by omega] at this)
end Go.Sy
