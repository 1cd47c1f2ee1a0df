/-
  Sorting, in plain Lean: insertion sort; a sorted list is determined by its elements.
-/
import Derived.Test.YtnijhjpaplihbaaGreatSyLq
set_option linter.unusedVariables false
namespace Go.Sy
section
variable {α : Type} {le : α → α → Bool}
def insB (le : α → α → Bool) (x : α) : List α → List α
  | [] => [x]
  | y :: r => if le x y then x :: y :: r else y :: insB le x r
def isort (le : α → α → Bool) : List α → List α
  | [] => []
  | x :: r => insB le x (isort le r)
theorem insB_perm (x : α) : ∀ l : List α, (insB le x l).Perm (x :: l)
  | [] => .refl _
  | y :: r => by
    unfold insB
    split
    · exact .refl _
    · exact ((insB_perm x r).cons y).trans (.swap x y r)
theorem isort_perm : ∀ l : List α, (isort le l).Perm l
  | [] => .refl _
  | x :: r => (insB_perm x _).trans ((isort_perm r).cons x)
theorem insB_sorted (ht : ∀ a b, le a b = true ∨ le b a = true) (htr : ∀ a b c, le a b = true → le b c = true → le a c = true) (x : α) : ∀ l : List α, l.Pairwise (fun a b => le a b = true) → (insB le x l).Pairwise (fun a b => le a b = true)
  | [], _ => by simp [insB]
  | y :: r, h => by
    unfold insB
    have h1 := List.pairwise_cons.1 h
    split
    · rename_i hxy
      refine List.pairwise_cons.2 ⟨fun z hz => ?_, h⟩
      rcases List.mem_cons.1 hz with rfl | hz
      · exact hxy
      · exact htr _ _ _ hxy (h1.1 z hz)
    · rename_i hxy
      refine List.pairwise_cons.2 ⟨fun z hz => ?_, insB_sorted ht htr x r h1.2⟩
      rcases List.mem_cons.1 ((insB_perm x r).mem_iff.1 hz) with rfl | hz
      · exact (ht y z).resolve_right hxy
      · exact h1.1 z hz
theorem isort_sorted (ht : ∀ a b, le a b = true ∨ le b a = true) (htr : ∀ a b c, le a b = true → le b c = true → le a c = true) : ∀ l : List α, (isort le l).Pairwise (fun a b => le a b = true)
  | [] => List.Pairwise.nil
  | x :: r => insB_sorted ht htr x _ (isort_sorted ht htr r)
theorem isort_unique (ht : ∀ a b, le a b = true ∨ le b a = true) (htr : ∀ a b c, le a b = true → le b c = true → le a c = true) {l l' : List α} (ha : ∀ a ∈ l, ∀ b ∈ l, le a b = true → le b a = true → a = b)
    (hp : l'.Perm l) (hs : l'.Pairwise (fun a b => le a b = true)) : l' = isort le l :=
  List.Perm.eq_of_pairwise (le := fun a b => le a b = true) (fun a b h1 h2 h3 h4 => ha a (hp.mem_iff.1 h1) b ((isort_perm l).mem_iff.1 h2) h3 h4) hs (isort_sorted ht htr l) (hp.trans (isort_perm l).symm)
theorem isort_length (l : List α) : (isort le l).length = l.length := (isort_perm l).length_eq
theorem isort_mem {l : List α} {x : α} : x ∈ isort le l ↔ x ∈ l := (isort_perm l).mem_iff
theorem isort_fix (ht : ∀ a b, le a b = true ∨ le b a = true) (htr : ∀ a b c, le a b = true → le b c = true → le a c = true) {l : List α} (ha : ∀ a ∈ l, ∀ b ∈ l, le a b = true → le b a = true → a = b)
    (hs : l.Pairwise (fun a b => le a b = true)) : isort le l = l := (isort_unique ht htr ha (.refl l) hs).symm
end
/-- The numbers of a row of numbers; and the row of numbers. -/
def nums (l : List (List Int)) : List Int := l.map fun r => r.getD 0 0
def ofNums (zs : List Int) : List (List Int) := zs.map fun z => [z]
def leI (x y : Int) : Bool := decide (x ≤ y)
theorem leI_total (x y : Int) : leI x y = true ∨ leI y x = true := by simp [leI]; omega
theorem leI_trans (x y z : Int) (h : leI x y = true) (k : leI y z = true) : leI x z = true := by simp [leI] at *; omega
theorem leI_anti (x y : Int) (h : leI x y = true) (k : leI y x = true) : x = y := by simp [leI] at *; omega
theorem nums_ofNums (zs : List Int) : nums (ofNums zs) = zs := by
  unfold nums ofNums
  rw [List.map_map]
  exact (List.map_congr_left fun z _ => rfl).trans (List.map_id _)
/-- A row of numbers, sorted. -/
def sortNums (l : List (List Int)) : List (List Int) := ofNums (isort leI (nums l))
/-- Rows in the order of some of their numbers, one behind the other. -/
def leL : List Nat → List Int → List Int → Bool
  | [], _, _ => true
  | k :: ks, a, b => if a.getD k 0 = b.getD k 0 then leL ks a b else decide (a.getD k 0 < b.getD k 0)
theorem leL_total : ∀ (ks : List Nat) (a b : List Int), leL ks a b = true ∨ leL ks b a = true
  | [], _, _ => .inl rfl
  | k :: ks, a, b => by
    unfold leL
    by_cases h : a.getD k 0 = b.getD k 0
    · rw [if_pos h, if_pos h.symm]; exact leL_total ks a b
    · rw [if_neg h, if_neg (Ne.symm h)]; simp only [decide_eq_true_eq]; omega
theorem leL_trans : ∀ (ks : List Nat) (a b c : List Int), leL ks a b = true → leL ks b c = true → leL ks a c = true
  | [], _, _, _, _, _ => rfl
  | k :: ks, a, b, c, h, h' => by
    unfold leL at *
    by_cases e1 : a.getD k 0 = b.getD k 0
    · by_cases e2 : b.getD k 0 = c.getD k 0
      · rw [if_pos e1] at h; rw [if_pos e2] at h'; rw [if_pos (e1.trans e2)]; exact leL_trans ks a b c h h'
      · rw [if_neg e2] at h'; rw [e1, if_neg e2]; exact h'
    · rw [if_neg e1] at h
      simp only [decide_eq_true_eq] at h
      by_cases e2 : b.getD k 0 = c.getD k 0
      · rw [if_neg (by omega)]; simp only [decide_eq_true_eq]; omega
      · rw [if_neg e2] at h'
        simp only [decide_eq_true_eq] at h'
        rw [if_neg (by omega)]; simp only [decide_eq_true_eq]; omega
theorem leL_anti : ∀ (ks : List Nat) (a b : List Int), leL ks a b = true → leL ks b a = true → ∀ k ∈ ks, a.getD k 0 = b.getD k 0
  | [], _, _, _, _, _, hk => by cases hk
  | k :: ks, a, b, h, h', k', hk => by
    unfold leL at *
    by_cases e1 : a.getD k 0 = b.getD k 0
    · rw [if_pos e1] at h; rw [if_pos e1.symm] at h'
      rcases List.mem_cons.1 hk with rfl | hk
      · exact e1
      · exact leL_anti ks a b h h' k' hk
    · rw [if_neg e1] at h; rw [if_neg (Ne.symm e1)] at h'
      simp only [decide_eq_true_eq] at h h'
      omega
/-- A row cut to n numbers. -/
def norm (n : Nat) (r : List Int) : List Int := (List.range n).map fun j => r.getD j 0
theorem norm_length (n : Nat) (r : List Int) : (norm n r).length = n := by simp [norm]
theorem norm_get (n : Nat) (r : List Int) {j : Nat} (h : j < n) : (norm n r).getD j 0 = r.getD j 0 := by
  simp [norm, List.getD_eq_getElem?_getD, h]
theorem norm_eq {n : Nat} {r : List Int} (h : r.length = n) : norm n r = r := by
  apply List.ext_getElem?
  intro j
  by_cases hj : j < n
  · simp [norm, hj, List.getD_eq_getElem?_getD, List.getElem?_eq_getElem (show j < r.length by omega)]
  · rw [List.getElem?_eq_none (by simp [norm]; omega), List.getElem?_eq_none (by omega)]
theorem norm_ext {n : Nat} {a b : List Int} (h : ∀ j, j < n → a.getD j 0 = b.getD j 0) : norm n a = norm n b :=
  List.map_congr_left fun j hj => h j (List.mem_range.1 hj)
theorem elV_norm : ∀ (ks : List CK) (m n : Nat) (r : List Int), m + ks.length ≤ n → elV ks m (norm n r) = elV ks m r
  | [], _, _, _, _ => rfl
  | k :: ks, m, n, r, h => by
    simp only [List.length_cons] at h
    unfold elV
    rw [norm_get n r (by omega), elV_norm ks (m + 1) n r (by omega)]
theorem rowV_norm (ks : List CK) (l : List (List Int)) : rowV ks (l.map (norm ks.length)) = rowV ks l := by
  unfold rowV
  rw [List.flatMap_map]
  congr 1
  funext r
  exact elV_norm ks 0 ks.length r (by omega)
/-- Rows of n numbers, sorted by some of these. -/
def sortRows (n : Nat) (keys : List Nat) (l : List (List Int)) : List (List Int) := isort (leL keys) (l.map (norm n))
theorem map_norm {n : Nat} {l : List (List Int)} (h : ∀ r ∈ l, r.length = n) : l.map (norm n) = l := by
  conv => rhs; rw [← List.map_id l]
  exact List.map_congr_left fun r hr => norm_eq (h r hr)
/-- A list without the numbers that are equal to the one ahead (at the start: p). -/
def dd : Option Int → List Int → List Int
  | _, [] => []
  | p, x :: r => if p = some x then dd (some x) r else x :: dd (some x) r
theorem dd_snoc (x : Int) : ∀ (l : List Int) (p : Option Int), dd p (l ++ [x]) = dd p l ++ (if l.getLast?.or p = some x then [] else [x])
  | [], p => by by_cases h : p = some x <;> simp [dd, h]
  | y :: r, p => by
    have ih := dd_snoc x r (some y)
    have e : (y :: r).getLast?.or p = r.getLast?.or (some y) := by
      cases r with
      | nil => rfl
      | cons a b =>
        rw [List.getLast?_cons_cons]
        cases h : (a :: b).getLast? with
        | none => simp at h
        | some z => rfl
    rw [List.cons_append, e]
    unfold dd
    split
    · exact ih
    · rw [ih, List.cons_append]
theorem dd_length : ∀ (l : List Int) (p : Option Int), (dd p l).length ≤ l.length
  | [], _ => Nat.le_refl _
  | x :: r, p => by
    unfold dd
    have := dd_length r (some x)
    split <;> simp <;> omega
/-- A row of numbers without neighbours that are equal, then zeros; and how many are left. -/
def compNums (l : List (List Int)) : List (List Int) := ofNums (dd none (nums l) ++ List.replicate ((nums l).length - (dd none (nums l)).length) 0)
def compLen (l : List (List Int)) : Int := ((dd none (nums l)).length : Int)
end Go.Sy
