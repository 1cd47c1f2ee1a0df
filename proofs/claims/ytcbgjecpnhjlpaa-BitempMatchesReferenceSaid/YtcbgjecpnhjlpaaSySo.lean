/- Several texts in one (wip/merge.py): XSySo XSySt XSyTs. -/
import Derived.Test.YtcbgjecpnhjlpaaSyLq
/-!
  Sorting, in plain Lean: insertion sort; a sorted list is determined by its elements.
-/
set_option linter.unusedVariables false
namespace Go.Sy
section
variable {α : Type} {le : α → α → Bool}
def insB (le : α → α → Bool) (x : α) : List α → List α
  | [] => [x]
  | y :: r => if le x y then x :: y :: r else y :: insB le x r
def isort (le : α → α → Bool) : List α → List α
  | [] => []
  | x :: r => insB le x (isort le r)
theorem insB_perm (x : α) : ∀ l : List α, (insB le x l).Perm (x :: l)
  | [] => .refl _
  | y :: r => by
    unfold insB
    split
    · exact .refl _
    · exact ((insB_perm x r).cons y).trans (.swap x y r)
theorem isort_perm : ∀ l : List α, (isort le l).Perm l
  | [] => .refl _
  | x :: r => (insB_perm x _).trans ((isort_perm r).cons x)
theorem insB_sorted (ht : ∀ a b, le a b = true ∨ le b a = true) (htr : ∀ a b c, le a b = true → le b c = true → le a c = true) (x : α) : ∀ l : List α, l.Pairwise (fun a b => le a b = true) → (insB le x l).Pairwise (fun a b => le a b = true)
  | [], _ => by simp [insB]
  | y :: r, h => by
    unfold insB
    have h1 := List.pairwise_cons.1 h
    split
    · rename_i hxy
      refine List.pairwise_cons.2 ⟨fun z hz => ?_, h⟩
      rcases List.mem_cons.1 hz with rfl | hz
      · exact hxy
      · exact htr _ _ _ hxy (h1.1 z hz)
    · rename_i hxy
      refine List.pairwise_cons.2 ⟨fun z hz => ?_, insB_sorted ht htr x r h1.2⟩
      rcases List.mem_cons.1 ((insB_perm x r).mem_iff.1 hz) with rfl | hz
      · exact (ht y z).resolve_right hxy
      · exact h1.1 z hz
theorem isort_sorted (ht : ∀ a b, le a b = true ∨ le b a = true) (htr : ∀ a b c, le a b = true → le b c = true → le a c = true) : ∀ l : List α, (isort le l).Pairwise (fun a b => le a b = true)
  | [] => List.Pairwise.nil
  | x :: r => insB_sorted ht htr x _ (isort_sorted ht htr r)
theorem isort_unique (ht : ∀ a b, le a b = true ∨ le b a = true) (htr : ∀ a b c, le a b = true → le b c = true → le a c = true) {l l' : List α} (ha : ∀ a ∈ l, ∀ b ∈ l, le a b = true → le b a = true → a = b)
    (hp : l'.Perm l) (hs : l'.Pairwise (fun a b => le a b = true)) : l' = isort le l :=
  List.Perm.eq_of_pairwise (le := fun a b => le a b = true) (fun a b h1 h2 h3 h4 => ha a (hp.mem_iff.1 h1) b ((isort_perm l).mem_iff.1 h2) h3 h4) hs (isort_sorted ht htr l) (hp.trans (isort_perm l).symm)
theorem isort_length (l : List α) : (isort le l).length = l.length := (isort_perm l).length_eq
theorem isort_mem {l : List α} {x : α} : x ∈ isort le l ↔ x ∈ l := (isort_perm l).mem_iff
theorem isort_fix (ht : ∀ a b, le a b = true ∨ le b a = true) (htr : ∀ a b c, le a b = true → le b c = true → le a c = true) {l : List α} (ha : ∀ a ∈ l, ∀ b ∈ l, le a b = true → le b a = true → a = b)
    (hs : l.Pairwise (fun a b => le a b = true)) : isort le l = l := (isort_unique ht htr ha (.refl l) hs).symm
end
/-- The numbers of a row of numbers; and the row of numbers. -/
def nums (l : List (List Int)) : List Int := l.map fun r => r.getD 0 0
def ofNums (zs : List Int) : List (List Int) := zs.map fun z => [z]
def leI (x y : Int) : Bool := decide (x ≤ y)
theorem leI_total (x y : Int) : leI x y = true ∨ leI y x = true := by simp [leI]; omega
theorem leI_trans (x y z : Int) (h : leI x y = true) (k : leI y z = true) : leI x z = true := by simp [leI] at *; omega
theorem leI_anti (x y : Int) (h : leI x y = true) (k : leI y x = true) : x = y := by simp [leI] at *; omega
theorem nums_ofNums (zs : List Int) : nums (ofNums zs) = zs := by
  unfold nums ofNums
  rw [List.map_map]
  exact (List.map_congr_left fun z _ => rfl).trans (List.map_id _)
/-- A row of numbers, sorted. -/
def sortNums (l : List (List Int)) : List (List Int) := ofNums (isort leI (nums l))
/-- Rows in the order of some of their numbers, one behind the other. -/
def leL : List Nat → List Int → List Int → Bool
  | [], _, _ => true
  | k :: ks, a, b => if a.getD k 0 = b.getD k 0 then leL ks a b else decide (a.getD k 0 < b.getD k 0)
theorem leL_total : ∀ (ks : List Nat) (a b : List Int), leL ks a b = true ∨ leL ks b a = true
  | [], _, _ => .inl rfl
  | k :: ks, a, b => by
    unfold leL
    by_cases h : a.getD k 0 = b.getD k 0
    · rw [if_pos h, if_pos h.symm]; exact leL_total ks a b
    · rw [if_neg h, if_neg (Ne.symm h)]; simp only [decide_eq_true_eq]; omega
theorem leL_trans : ∀ (ks : List Nat) (a b c : List Int), leL ks a b = true → leL ks b c = true → leL ks a c = true
  | [], _, _, _, _, _ => rfl
  | k :: ks, a, b, c, h, h' => by
    unfold leL at *
    by_cases e1 : a.getD k 0 = b.getD k 0
    · by_cases e2 : b.getD k 0 = c.getD k 0
      · rw [if_pos e1] at h; rw [if_pos e2] at h'; rw [if_pos (e1.trans e2)]; exact leL_trans ks a b c h h'
      · rw [if_neg e2] at h'; rw [e1, if_neg e2]; exact h'
    · rw [if_neg e1] at h
      simp only [decide_eq_true_eq] at h
      by_cases e2 : b.getD k 0 = c.getD k 0
      · rw [if_neg (by omega)]; simp only [decide_eq_true_eq]; omega
      · rw [if_neg e2] at h'
        simp only [decide_eq_true_eq] at h'
        rw [if_neg (by omega)]; simp only [decide_eq_true_eq]; omega
theorem leL_anti : ∀ (ks : List Nat) (a b : List Int), leL ks a b = true → leL ks b a = true → ∀ k ∈ ks, a.getD k 0 = b.getD k 0
  | [], _, _, _, _, _, hk => by cases hk
  | k :: ks, a, b, h, h', k', hk => by
    unfold leL at *
    by_cases e1 : a.getD k 0 = b.getD k 0
    · rw [if_pos e1] at h; rw [if_pos e1.symm] at h'
      rcases List.mem_cons.1 hk with rfl | hk
      · exact e1
      · exact leL_anti ks a b h h' k' hk
    · rw [if_neg e1] at h; rw [if_neg (Ne.symm e1)] at h'
      simp only [decide_eq_true_eq] at h h'
      omega
/-- A row cut to n numbers. -/
def norm (n : Nat) (r : List Int) : List Int := (List.range n).map fun j => r.getD j 0
theorem norm_length (n : Nat) (r : List Int) : (norm n r).length = n := by simp [norm]
theorem norm_get (n : Nat) (r : List Int) {j : Nat} (h : j < n) : (norm n r).getD j 0 = r.getD j 0 := by
  simp [norm, List.getD_eq_getElem?_getD, h]
theorem norm_eq {n : Nat} {r : List Int} (h : r.length = n) : norm n r = r := by
  apply List.ext_getElem?
  intro j
  by_cases hj : j < n
  · simp [norm, hj, List.getD_eq_getElem?_getD, List.getElem?_eq_getElem (show j < r.length by omega)]
  · rw [List.getElem?_eq_none (by simp [norm]; omega), List.getElem?_eq_none (by omega)]
theorem norm_ext {n : Nat} {a b : List Int} (h : ∀ j, j < n → a.getD j 0 = b.getD j 0) : norm n a = norm n b :=
  List.map_congr_left fun j hj => h j (List.mem_range.1 hj)
theorem elV_norm : ∀ (ks : List CK) (m n : Nat) (r : List Int), m + ks.length ≤ n → elV ks m (norm n r) = elV ks m r
  | [], _, _, _, _ => rfl
  | k :: ks, m, n, r, h => by
    simp only [List.length_cons] at h
    unfold elV
    rw [norm_get n r (by omega), elV_norm ks (m + 1) n r (by omega)]
theorem rowV_norm (ks : List CK) (l : List (List Int)) : rowV ks (l.map (norm ks.length)) = rowV ks l := by
  unfold rowV
  rw [List.flatMap_map]
  congr 1
  funext r
  exact elV_norm ks 0 ks.length r (by omega)
/-- Rows of n numbers, sorted by some of these. -/
def sortRows (n : Nat) (keys : List Nat) (l : List (List Int)) : List (List Int) := isort (leL keys) (l.map (norm n))
theorem map_norm {n : Nat} {l : List (List Int)} (h : ∀ r ∈ l, r.length = n) : l.map (norm n) = l := by
  conv => rhs; rw [← List.map_id l]
  exact List.map_congr_left fun r hr => norm_eq (h r hr)
/-- A list without the numbers that are equal to the one ahead (at the start: p). -/
def dd : Option Int → List Int → List Int
  | _, [] => []
  | p, x :: r => if p = some x then dd (some x) r else x :: dd (some x) r
theorem dd_snoc (x : Int) : ∀ (l : List Int) (p : Option Int), dd p (l ++ [x]) = dd p l ++ (if l.getLast?.or p = some x then [] else [x])
  | [], p => by by_cases h : p = some x <;> simp [dd, h]
  | y :: r, p => by
    have ih := dd_snoc x r (some y)
    have e : (y :: r).getLast?.or p = r.getLast?.or (some y) := by
      cases r with
      | nil => rfl
      | cons a b =>
        rw [List.getLast?_cons_cons]
        cases h : (a :: b).getLast? with
        | none => simp at h
        | some z => rfl
    rw [List.cons_append, e]
    unfold dd
    split
    · exact ih
    · rw [ih, List.cons_append]
theorem dd_length : ∀ (l : List Int) (p : Option Int), (dd p l).length ≤ l.length
  | [], _ => Nat.le_refl _
  | x :: r, p => by
    unfold dd
    have := dd_length r (some x)
    split <;> simp <;> omega
/-- A row of numbers without neighbours that are equal, then zeros; and how many are left. -/
def compNums (l : List (List Int)) : List (List Int) := ofNums (dd none (nums l) ++ List.replicate ((nums l).length - (dd none (nums l)).length) 0)
def compLen (l : List (List Int)) : Int := ((dd none (nums l)).length : Int)
end Go.Sy

/-!
  Stable sorting, in plain Lean: a list that is sorted by a key, and has for each key the same elements in the same order, is determined.
-/
set_option linter.unusedVariables false
namespace Go.Sy
section
variable {α : Type} (k : α → Int)
/-- The same elements, those of each key in the same order. -/
def SameBy (l l' : List α) : Prop := ∀ v : Int, l.filter (fun x => decide (k x = v)) = l'.filter (fun x => decide (k x = v))
def Srt (l : List α) : Prop := l.Pairwise fun x y => k x ≤ k y
variable {k}
theorem SameBy.refl (l : List α) : SameBy k l l := fun _ => rfl
theorem SameBy.symm {l l' : List α} (h : SameBy k l l') : SameBy k l' l := fun v => (h v).symm
theorem SameBy.trans {a b c : List α} (h : SameBy k a b) (h' : SameBy k b c) : SameBy k a c := fun v => (h v).trans (h' v)
theorem SameBy.append {a b c d : List α} (h : SameBy k a b) (h' : SameBy k c d) : SameBy k (a ++ c) (b ++ d) := fun v => by rw [List.filter_append, List.filter_append, h v, h' v]
theorem SameBy.mem {a b : List α} (h : SameBy k a b) {x : α} : x ∈ a ↔ x ∈ b := by
  have := h (k x)
  have e : ∀ l : List α, x ∈ l ↔ x ∈ l.filter (fun y => decide (k y = k x)) := fun l => by simp
  rw [e a, e b, this]
/-- Two parts exchanged of which no element has the same key. -/
theorem same_swap {x y : List α} (h : ∀ a ∈ x, ∀ b ∈ y, k a ≠ k b) : SameBy k (x ++ y) (y ++ x) := fun v => by
  rw [List.filter_append, List.filter_append]
  by_cases hx : x.filter (fun z => decide (k z = v)) = []
  · rw [hx, List.nil_append, List.append_nil]
  · have hy : y.filter (fun z => decide (k z = v)) = [] := by
      obtain ⟨a, ha⟩ := List.exists_mem_of_ne_nil _ hx
      rw [List.mem_filter] at ha
      apply List.filter_eq_nil_iff.2
      intro b hb hk
      exact h a ha.1 b hb (by rw [of_decide_eq_true ha.2, of_decide_eq_true hk])
    rw [hy, List.nil_append, List.append_nil]
/-- A sorted list is determined by its elements of each key. -/
theorem same_unique : ∀ {a b : List α}, SameBy k a b → Srt k a → Srt k b → a = b
  | [], b, h, _, _ => by
    cases b with
    | nil => rfl
    | cons y r => exact absurd ((h.mem (x := y)).2 List.mem_cons_self) (by simp)
  | x :: a, [], h, _, _ => absurd ((h.mem (x := x)).1 List.mem_cons_self) (by simp)
  | x :: a, y :: b, h, ha, hb => by
    have ha' := List.pairwise_cons.1 ha
    have hb' := List.pairwise_cons.1 hb
    have e1 : k x = k y := by
      have h1 : k y ≤ k x := by
        rcases List.mem_cons.1 ((h.mem (x := x)).1 List.mem_cons_self) with rfl | hm
        · exact Int.le_refl _
        · exact hb'.1 x hm
      have h2 : k x ≤ k y := by
        rcases List.mem_cons.1 ((h.mem (x := y)).2 List.mem_cons_self) with rfl | hm
        · exact Int.le_refl _
        · exact ha'.1 y hm
      omega
    have e2 : x = y := by
      have := h (k x)
      simp only [List.filter_cons, decide_true, if_true, e1] at this
      simpa using (List.cons.inj this).1
    subst e2
    congr 1
    refine same_unique (fun v => ?_) ha'.2 hb'.2
    have := h v
    simp only [List.filter_cons] at this
    split at this
    · exact (List.cons.inj this).2
    · exact this
theorem srt_append {a b : List α} : Srt k (a ++ b) ↔ Srt k a ∧ Srt k b ∧ ∀ x ∈ a, ∀ y ∈ b, k x ≤ k y := List.pairwise_append
/-- The stable sort: insertion from the front, ahead of what has the same key. -/
def stab (k : α → Int) (l : List α) : List α := isort (fun x y => decide (k x ≤ k y)) l
theorem same_ins (x : α) : ∀ l : List α, SameBy k (insB (fun x y => decide (k x ≤ k y)) x l) (x :: l)
  | [] => SameBy.refl _
  | y :: r => by
    unfold insB
    split
    · exact SameBy.refl _
    · rename_i hxy
      have hne : k x ≠ k y := fun e => hxy (decide_eq_true (by omega))
      have h1 : SameBy k (y :: insB (fun x y => decide (k x ≤ k y)) x r) (y :: x :: r) := (SameBy.refl [y]).append (same_ins x r)
      refine h1.trans ?_
      have : SameBy k ([y] ++ [x]) ([x] ++ [y]) := same_swap (fun a ha b hb => by
        rw [List.mem_singleton.1 ha, List.mem_singleton.1 hb]; exact fun e => hne e.symm)
      exact this.append (SameBy.refl r)
theorem stab_same : ∀ l : List α, SameBy k (stab k l) l
  | [] => SameBy.refl _
  | x :: r => (same_ins x _).trans ((SameBy.refl [x]).append (stab_same r))
theorem stab_srt (l : List α) : Srt k (stab k l) := by
  have := isort_sorted (le := fun x y => decide (k x ≤ k y)) (fun a b => by simp only [decide_eq_true_eq]; omega) (fun a b c h h' => by simp only [decide_eq_true_eq] at *; omega) l
  exact this.imp fun h => of_decide_eq_true h
theorem stab_unique {l l' : List α} (h : SameBy k l' l) (hs : Srt k l') : l' = stab k l := same_unique (h.trans (stab_same l).symm) hs (stab_srt l)
theorem stab_length (l : List α) : (stab k l).length = l.length := isort_length l
theorem stab_mem {l : List α} {x : α} : x ∈ stab k l ↔ x ∈ l := isort_mem
theorem SameBy.length {a b : List α} (h : SameBy k a b) : a.length = b.length := by
  -- both are sorted to the same list
  have : stab k a = stab k b := stab_unique ((stab_same a).trans h) (stab_srt a)
  rw [← stab_length (k := k) a, this, stab_length]
end
end Go.Sy

/-!
  Stable sorting in place, in plain Lean: parts of lists, merging two neighbouring parts.
-/
set_option linter.unusedVariables false
namespace Go.Sy
section
variable {α : Type}
/-- The elements from a on below b. -/
def seg (l : List α) (a b : Nat) : List α := (l.take b).drop a
theorem seg_len (l : List α) {a b : Nat} (hb : b ≤ l.length) : (seg l a b).length = b - a := by simp [seg]; omega
theorem seg_drop (l : List α) (a b : Nat) : seg l a b = (l.drop a).take (b - a) := by unfold seg; rw [List.drop_take]
theorem seg_app (l : List α) {a m b : Nat} (h : a ≤ m) (h' : m ≤ b) : seg l a b = seg l a m ++ seg l m b := by
  unfold seg
  have e : l.take b = l.take m ++ (l.take b).drop m := by
    have := (List.take_append_drop m (l.take b)).symm
    rwa [List.take_take, Nat.min_eq_left h'] at this
  rw [e, List.drop_append, List.drop_append]
  by_cases hm : m ≤ l.length
  · have e1 : (l.take m).length = m := by simp; omega
    rw [e1]
    have e2 : m - m = 0 := Nat.sub_self m
    have e3 : a - m = 0 := by omega
    have e4 : List.drop m (l.take m) = [] := by simp
    rw [e2, e3, e4, List.drop_zero]
    rfl
  · have e1 : l.take m = l := List.take_of_length_le (by omega)
    have e2 : l.take b = l := List.take_of_length_le (by omega)
    rw [e1, e2]
    have e3 : l.drop m = [] := List.drop_eq_nil_of_le (by omega)
    simp [e3]
theorem seg_nil (l : List α) {a b : Nat} (h : b ≤ a) : seg l a b = [] := by unfold seg; exact List.drop_eq_nil_of_le (by simp; omega)
theorem seg_zero (l : List α) (b : Nat) : seg l 0 b = l.take b := rfl
theorem seg_all (l : List α) : seg l 0 l.length = l := by simp [seg]
theorem seg_split (l : List α) {a b : Nat} (h : a ≤ b) : l = l.take a ++ seg l a b ++ l.drop b := by
  have h1 := (List.take_append_drop b l).symm
  have h2 : l.take b = l.take a ++ seg l a b := by
    have := (List.take_append_drop a (l.take b)).symm
    rwa [List.take_take, Nat.min_eq_left h] at this
  rw [← h2]; exact h1
theorem seg_take {l l' : List α} {m : Nat} (h : l'.take m = l.take m) {a b : Nat} (hb : b ≤ m) : seg l' a b = seg l a b := by
  unfold seg
  have e : ∀ x : List α, x.take b = (x.take m).take b := fun x => by rw [List.take_take, Nat.min_eq_left hb]
  rw [e l', e l, h]
theorem seg_dropped {l l' : List α} {m : Nat} (h : l'.drop m = l.drop m) {a b : Nat} (ha : m ≤ a) : seg l' a b = seg l a b := by
  rw [seg_drop, seg_drop]
  have e : ∀ x : List α, x.drop a = (x.drop m).drop (a - m) := fun x => by rw [List.drop_drop]; congr 1; omega
  rw [e l', e l, h]
variable (d : α)
theorem seg_get (l : List α) {a b i : Nat} (hi : a + i < b) : (seg l a b).getD i d = l.getD (a + i) d := by
  simp only [seg, List.getD_eq_getElem?_getD, List.getElem?_drop, List.getElem?_take]
  rw [if_pos hi]
theorem seg_mem (l : List α) {a b i : Nat} (ha : a ≤ i) (hi : i < b) (hl : i < l.length) : l.getD i d ∈ seg l a b := by
  have h1 : i - a < (seg l a b).length := by simp [seg]; omega
  have e : (seg l a b).getD (i - a) d = l.getD i d := by rw [seg_get d l (by omega)]; congr 1; omega
  rw [← e, List.getD_eq_getElem?_getD, List.getElem?_eq_getElem h1]
  exact List.getElem_mem h1
theorem mem_seg {l : List α} {a b : Nat} {x : α} (hb : b ≤ l.length) (h : x ∈ seg l a b) : ∃ i, a ≤ i ∧ i < b ∧ l.getD i d = x := by
  obtain ⟨j, hj, rfl⟩ := List.mem_iff_getElem.1 h
  rw [seg_len l hb] at hj
  refine ⟨a + j, by omega, by omega, ?_⟩
  rw [← seg_get d l (show a + j < b by omega), List.getD_eq_getElem?_getD, List.getElem?_eq_getElem (by rw [seg_len l hb]; omega)]
  rfl
theorem seg_cons (l : List α) {a b : Nat} (h : a < b) (hb : b ≤ l.length) : seg l a b = l.getD a d :: seg l (a + 1) b := by
  rw [seg_app l (Nat.le_succ a) h]
  have : seg l a (a + 1) = [l.getD a d] := by
    apply List.ext_getElem
    · rw [seg_len l (by omega)]; simp
    · intro i h1 h2
      have hi : i = 0 := by simp at h2; omega
      subst hi
      have := seg_get d l (a := a) (b := a + 1) (i := 0) (by omega)
      rw [List.getD_eq_getElem?_getD, List.getElem?_eq_getElem h1] at this
      simpa using this
  rw [this]; rfl
theorem seg_snoc (l : List α) {a b : Nat} (h : a ≤ b) (hb : b < l.length) : seg l a (b + 1) = seg l a b ++ [l.getD b d] := by
  rw [seg_app l h (Nat.le_succ b), seg_cons d l (Nat.lt_succ_self b) hb, seg_nil l (Nat.le_refl _)]
variable {k : α → Int}
/-- Sorted parts, by indices. -/
theorem srt_seg {l : List α} {a b : Nat} (hb : b ≤ l.length) : Srt k (seg l a b) ↔ ∀ i j, a ≤ i → i < j → j < b → k (l.getD i d) ≤ k (l.getD j d) := by
  unfold Srt
  rw [List.pairwise_iff_getElem]
  have hlen := seg_len l (a := a) hb
  have e : ∀ i (h : i < (seg l a b).length), (seg l a b)[i] = l.getD (a + i) d := fun i h => by
    have h' := h
    rw [hlen] at h'
    rw [← seg_get d l (b := b) (by omega), List.getD_eq_getElem?_getD, List.getElem?_eq_getElem h]; rfl
  constructor
  · intro h i j hi hij hj
    have := h (i - a) (j - a) (by rw [hlen]; omega) (by rw [hlen]; omega) (by omega)
    rw [e, e, show a + (i - a) = i by omega, show a + (j - a) = j by omega] at this
    exact this
  · intro h i j hi hj hij
    rw [e, e]
    exact h _ _ (by omega) (by omega) (by omega)
/-- Merged: the same elsewhere, and a sorted part of the same elements. -/
structure Mrg (k : α → Int) (a b : Nat) (l l' : List α) : Prop where
  len : l'.length = l.length
  lo : l'.take a = l.take a
  hi : l'.drop b = l.drop b
  same : SameBy k (seg l' a b) (seg l a b)
  srt : Srt k (seg l' a b)
/-- Two neighbouring parts exchanged. -/
structure Rot (a m b : Nat) (l l' : List α) : Prop where
  len : l'.length = l.length
  lo : l'.take a = l.take a
  hi : l'.drop b = l.drop b
  is : seg l' a b = seg l m b ++ seg l a m
theorem Rot.refl_left {a b : Nat} (l : List α) : Rot a a b l l := ⟨rfl, rfl, rfl, by rw [seg_nil l (Nat.le_refl a), List.append_nil]⟩
theorem Rot.refl_right {a b : Nat} (l : List α) : Rot a b b l l := ⟨rfl, rfl, rfl, by rw [seg_nil l (Nat.le_refl b), List.nil_append]⟩
theorem merge_parts {A1 A2 B1 B2 C1 C2 : List α} (hA : Srt k (A1 ++ A2)) (hB : Srt k (B1 ++ B2)) (h1 : ∀ x ∈ A1, ∀ y ∈ B2, k x ≤ k y) (h2 : ∀ x ∈ A2, ∀ y ∈ B1, k y < k x)
    (c1 : SameBy k C1 (A1 ++ B1)) (s1 : Srt k C1) (c2 : SameBy k C2 (A2 ++ B2)) (s2 : Srt k C2) : SameBy k (C1 ++ C2) ((A1 ++ A2) ++ (B1 ++ B2)) ∧ Srt k (C1 ++ C2) := by
  constructor
  · have e1 : SameBy k (C1 ++ C2) ((A1 ++ B1) ++ (A2 ++ B2)) := c1.append c2
    have e2 : SameBy k (B1 ++ A2) (A2 ++ B1) := same_swap fun a ha b hb e => by have := h2 b hb a ha; omega
    have e3 : SameBy k (A1 ++ ((B1 ++ A2) ++ B2)) (A1 ++ ((A2 ++ B1) ++ B2)) := (SameBy.refl A1).append (e2.append (SameBy.refl B2))
    have a1 : (A1 ++ B1) ++ (A2 ++ B2) = A1 ++ ((B1 ++ A2) ++ B2) := by simp
    have a2 : (A1 ++ A2) ++ (B1 ++ B2) = A1 ++ ((A2 ++ B1) ++ B2) := by simp
    rw [a2]; rw [a1] at e1
    exact e1.trans e3
  · rw [srt_append]
    refine ⟨s1, s2, fun x hx y hy => ?_⟩
    have gA := (srt_append.1 hA).2.2
    have gB := (srt_append.1 hB).2.2
    rcases List.mem_append.1 ((c1.mem (x := x)).1 hx) with hx | hx
    · rcases List.mem_append.1 ((c2.mem (x := y)).1 hy) with hy | hy
      · exact gA x hx y hy
      · exact h1 x hx y hy
    · rcases List.mem_append.1 ((c2.mem (x := y)).1 hy) with hy | hy
      · exact Int.le_of_lt (h2 y hy x hx)
      · exact gB x hx y hy
/-- The step of the merge: exchanged in the middle, then both halves merged. -/
theorem mrg_step {a s mid m e b : Nat} {l l1 l2 l3 : List α} (hb : b ≤ l.length) (h1 : a ≤ s) (h2 : s ≤ m) (h3 : m ≤ e) (h4 : e ≤ b) (hmid : mid + m = s + e) (h5 : s ≤ mid) (h6 : mid ≤ e)
    (hA : Srt k (seg l a m)) (hB : Srt k (seg l m b)) (hr : Rot s m e l l1)
    (c1 : ∀ x ∈ seg l a s, ∀ y ∈ seg l e b, k x ≤ k y) (c2 : ∀ x ∈ seg l s m, ∀ y ∈ seg l m e, k y < k x)
    (m1 : (a < s ∧ s < mid → Mrg k a mid l1 l2) ∧ (¬ (a < s ∧ s < mid) → l2 = l1)) (m2 : (mid < e ∧ e < b → Mrg k mid b l2 l3) ∧ (¬ (mid < e ∧ e < b) → l3 = l2)) : Mrg k a b l l3 := by
  have hAs := seg_app l h1 h2
  have hBs := seg_app l h3 h4
  have l1len : l1.length = l.length := hr.len
  have e1 : seg l1 a s = seg l a s := seg_take hr.lo (Nat.le_refl s)
  have e2 : seg l1 e b = seg l e b := seg_dropped hr.hi (Nat.le_refl e)
  have hlen1 : (seg l m e).length = mid - s := by rw [seg_len l (by omega)]; omega
  have hlenR : (seg l1 s e).length = e - s := seg_len l1 (by omega)
  have hsplit : seg l1 s mid = seg l m e ∧ seg l1 mid e = seg l s m := by
    have h := hr.is
    rw [seg_app l1 h5 h6] at h
    exact List.append_inj h (by rw [hlen1, seg_len l1 (by omega)])
  have g1 : seg l1 a mid = seg l a s ++ seg l m e := by rw [seg_app l1 h1 h5, e1, hsplit.1]
  have g2 : seg l1 mid b = seg l s m ++ seg l e b := by rw [seg_app l1 h6 h4, e2, hsplit.2]
  rw [hAs] at hA
  rw [hBs] at hB
  have sA := srt_append.1 hA
  have sB := srt_append.1 hB
  -- the left half
  have L : l2.length = l.length ∧ l2.take a = l.take a ∧ l2.drop mid = l1.drop mid ∧ SameBy k (seg l2 a mid) (seg l a s ++ seg l m e) ∧ Srt k (seg l2 a mid) := by
    have lo1 : l1.take a = l.take a := by
      have e : ∀ x : List α, x.take a = (x.take s).take a := fun x => by rw [List.take_take, Nat.min_eq_left h1]
      rw [e l1, e l, hr.lo]
    by_cases hc : a < s ∧ s < mid
    · have q := m1.1 hc
      exact ⟨q.len.trans l1len, q.lo.trans lo1, q.hi, by rw [← g1]; exact q.same, q.srt⟩
    · have q := m1.2 hc
      subst q
      refine ⟨l1len, lo1, rfl, by rw [g1]; exact SameBy.refl _, ?_⟩
      rw [g1]
      by_cases ha : a < s
      · have : s = mid := by
          rcases Nat.lt_or_ge s mid with h | h
          · exact absurd ⟨ha, h⟩ hc
          · omega
        have : seg l m e = [] := seg_nil l (by omega)
        rw [this, List.append_nil]; exact sA.1
      · have : seg l a s = [] := seg_nil l (by omega)
        rw [this, List.nil_append]; exact sB.1
  obtain ⟨L1, L2, L3, L4, L5⟩ := L
  have g2' : seg l2 mid b = seg l s m ++ seg l e b := by rw [← g2]; exact seg_dropped L3 (Nat.le_refl mid)
  have R : l3.length = l.length ∧ l3.take mid = l2.take mid ∧ l3.drop b = l2.drop b ∧ SameBy k (seg l3 mid b) (seg l s m ++ seg l e b) ∧ Srt k (seg l3 mid b) := by
    by_cases hc : mid < e ∧ e < b
    · have q := m2.1 hc
      exact ⟨q.len.trans L1, q.lo, q.hi, by rw [← g2']; exact q.same, q.srt⟩
    · have q := m2.2 hc
      subst q
      refine ⟨L1, rfl, rfl, by rw [g2']; exact SameBy.refl _, ?_⟩
      rw [g2']
      by_cases ha : mid < e
      · have : seg l e b = [] := seg_nil l (by
          rcases Nat.lt_or_ge e b with h | h
          · exact absurd ⟨ha, h⟩ hc
          · omega)
        rw [this, List.append_nil]; exact sA.2.1
      · have : seg l s m = [] := seg_nil l (by omega)
        rw [this, List.nil_append]; exact sB.2.1
  obtain ⟨R1, R2, R3, R4, R5⟩ := R
  have hmb : a ≤ mid ∧ mid ≤ b := ⟨by omega, by omega⟩
  have g3 : seg l3 a b = seg l2 a mid ++ seg l3 mid b := by rw [seg_app l3 hmb.1 hmb.2, seg_take R2 (Nat.le_refl mid)]
  have e5 : seg l a b = (seg l a s ++ seg l s m) ++ (seg l m e ++ seg l e b) := by rw [seg_app l (show a ≤ m by omega) (show m ≤ b by omega), hAs, hBs]
  have F := merge_parts hA hB c1 c2 L4 L5 R4 R5
  refine ⟨R1, ?_, ?_, by rw [g3, e5]; exact F.1, by rw [g3]; exact F.2⟩
  · have e : ∀ x : List α, x.take a = (x.take mid).take a := fun x => by rw [List.take_take, Nat.min_eq_left hmb.1]
    rw [e l3, R2, ← e l2, L2]
  · have f : ∀ x : List α, x.drop b = (x.drop mid).drop (b - mid) := fun x => by rw [List.drop_drop]; congr 1; omega
    have e' : ∀ x : List α, x.drop b = (x.drop e).drop (b - e) := fun x => by rw [List.drop_drop]; congr 1; omega
    rw [R3, f l2, L3, ← f l1, e' l1, hr.hi, ← e' l]
/-- Rows of n numbers in the order of the k-th, those with the same one as they were. -/
def stabRows (n k : Nat) (l : List (List Int)) : List (List Int) := stab (fun r => r.getD k 0) (l.map (norm n))
end
end Go.Sy
