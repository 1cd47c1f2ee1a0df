/- Several texts in one (wip/merge.py): XDriftU XDriftV XDriftW. -/
import Derived.Test.YtddfnokjnafdpaaGreatDriftL
import Derived.Test.YtddfnokjnafdpaaGreatSySo
/-!
  Boxes that can be joined, and tidied sets.
-/
set_option linter.unusedVariables false
set_option maxRecDepth 100000
namespace Go.Proofs.YtddfnokjnafdpaaGreat
open Go Go.Sy

/-- The hull of two boxes. -/
def jB (a b : List Int) : List Int := [min (a.getD 0 0) (b.getD 0 0), max (a.getD 1 0) (b.getD 1 0), min (a.getD 2 0) (b.getD 2 0), max (a.getD 3 0) (b.getD 3 0)]
/-- They can be joined. -/
def JN (a b : List Int) : Prop := WB a b ∨ WB b a ∨ (MB a b ∧ ((a.getD 0 0 = b.getD 0 0 ∧ a.getD 1 0 = b.getD 1 0) ∨ (a.getD 2 0 = b.getD 2 0 ∧ a.getD 3 0 = b.getD 3 0)))
instance (a b : List Int) : Decidable (JN a b) := by unfold JN; infer_instance
theorem jB_get (a b : List Int) : (jB a b).getD 0 0 = min (a.getD 0 0) (b.getD 0 0) ∧ (jB a b).getD 1 0 = max (a.getD 1 0) (b.getD 1 0) ∧ (jB a b).getD 2 0 = min (a.getD 2 0) (b.getD 2 0) ∧ (jB a b).getD 3 0 = max (a.getD 3 0) (b.getD 3 0) := ⟨rfl, rfl, rfl, rfl⟩
theorem join_eq {s t x y : Int} (h1 : -1000000000000 ≤ s ∧ s ≤ t ∧ t ≤ 1000000000000) (h2 : -1000000000000 ≤ x ∧ x ≤ y ∧ y ≤ 1000000000000) : span_Join_2 s t x y = 0 ∧ span_Join_0 s t x y = min s x ∧ span_Join_1 s t x y = max t y := by
  unfold span_Join_2 span_Join_0 span_Join_1 span_ends_int_0 span_ends_int_1
  rw [span_valid_eq, span_valid_eq, decide_eq_true h1, decide_eq_true h2, imax_max, imin_min]
  exact ⟨rfl, rfl, rfl⟩
theorem joinBox_eq {a b : List Int} (ha : VB a) (hb : VB b) :
    span_JoinBox_0 (a.getD 0 0) (a.getD 1 0) (a.getD 2 0) (a.getD 3 0) (b.getD 0 0) (b.getD 1 0) (b.getD 2 0) (b.getD 3 0) = min (a.getD 0 0) (b.getD 0 0) ∧
    span_JoinBox_1 (a.getD 0 0) (a.getD 1 0) (a.getD 2 0) (a.getD 3 0) (b.getD 0 0) (b.getD 1 0) (b.getD 2 0) (b.getD 3 0) = max (a.getD 1 0) (b.getD 1 0) ∧
    span_JoinBox_2 (a.getD 0 0) (a.getD 1 0) (a.getD 2 0) (a.getD 3 0) (b.getD 0 0) (b.getD 1 0) (b.getD 2 0) (b.getD 3 0) = min (a.getD 2 0) (b.getD 2 0) ∧
    span_JoinBox_3 (a.getD 0 0) (a.getD 1 0) (a.getD 2 0) (a.getD 3 0) (b.getD 0 0) (b.getD 1 0) (b.getD 2 0) (b.getD 3 0) = max (a.getD 3 0) (b.getD 3 0) ∧
    span_JoinBox_4 (a.getD 0 0) (a.getD 1 0) (a.getD 2 0) (a.getD 3 0) (b.getD 0 0) (b.getD 1 0) (b.getD 2 0) (b.getD 3 0) = 0 := by
  unfold span_JoinBox_4 span_JoinBox_3 span_JoinBox_2 span_JoinBox_1 span_JoinBox_0
  rw [vb_eq, vb_eq, decide_eq_true ha, decide_eq_true hb]
  unfold VB at ha hb
  obtain ⟨x1, x2, x3⟩ := join_eq (s := a.getD 0 0) (t := a.getD 1 0) (x := b.getD 0 0) (y := b.getD 1 0) (by omega) (by omega)
  obtain ⟨y1, y2, y3⟩ := join_eq (s := a.getD 2 0) (t := a.getD 3 0) (x := b.getD 2 0) (y := b.getD 3 0) (by omega) (by omega)
  rw [x1, x2, x3, y1, y2, y3, imax_max]
  exact ⟨rfl, rfl, rfl, rfl, rfl⟩
theorem joins_eq {a b : List Int} (ha : VB a) (hb : VB b) : drift_joins_0 (a.getD 0 0) (a.getD 1 0) (a.getD 2 0) (a.getD 3 0) (b.getD 0 0) (b.getD 1 0) (b.getD 2 0) (b.getD 3 0) = decide (JN a b) := by
  obtain ⟨j0, j1, j2, j3, _⟩ := joinBox_eq ha hb
  obtain ⟨m4, _⟩ := meetBox_eq ha hb
  unfold drift_joins_0
  rw [j0, j1, j2, j3, m4, Bool.eq_iff_iff, decide_eq_true_eq]
  unfold JN WB
  by_cases hm : MB a b
  · simp [hm]
    omega
  · simp [hm]
    omega
theorem JN_symm {a b : List Int} (h : JN a b) : JN b a := by
  unfold JN WB MB at *
  omega
theorem hb_j {x y : Int} {a b : List Int} (ha : VB a) (hb : VB b) (h : JN a b) : HB x y (jB a b) ↔ HB x y a ∨ HB x y b := by
  have := jB_get a b
  unfold JN WB MB at h
  unfold VB at ha hb
  unfold HB
  omega
theorem vb_j {a b : List Int} (ha : VB a) (hb : VB b) : VB (jB a b) := by
  have := jB_get a b
  unfold VB at *
  omega
/-- The first one behind i that can be joined with it. -/
def kOf (l : List (List Int)) (i : Nat) : Option Nat := (List.range l.length).find? fun k => decide (i < k) && decide (JN (l.getD i []) (l.getD k []))
/-- The first one that can be joined. -/
def iOf (l : List (List Int)) : Option Nat := (List.range l.length).find? fun i => (kOf l i).isSome
/-- Two are one. -/
def joinAt (l : List (List Int)) (i k : Nat) : List (List Int) := (l.set i (jB (l.getD i []) (l.getD k []))).eraseIdx k
/-- A set with the first two that can be joined as one. -/
def join1 (l : List (List Int)) : Option (List (List Int)) := (iOf l).bind fun i => (kOf l i).map fun k => joinAt l i k
def tidyN : Nat → List (List Int) → List (List Int)
  | 0, l => l
  | n + 1, l => match join1 l with | none => l | some l' => tidyN n l'
/-- A set, tidied. -/
def tid (l : List (List Int)) : List (List Int) := sortRows 4 [0, 2, 1, 3] (tidyN l.length l)
theorem kOf_some {l : List (List Int)} {i k : Nat} : kOf l i = some k ↔ (i < k ∧ k < l.length ∧ JN (l.getD i []) (l.getD k [])) ∧ ∀ j, j < k → ¬ (i < j ∧ JN (l.getD i []) (l.getD j [])) := by
  unfold kOf
  rw [List.find?_range_eq_some]
  simp only [Bool.and_eq_true, decide_eq_true_eq, List.mem_range, Bool.not_eq_true', Bool.and_eq_false_iff, decide_eq_false_iff_not]
  constructor
  · rintro ⟨⟨h1, h2⟩, h3, h4⟩
    exact ⟨⟨h1, h3, h2⟩, fun j hj h => (h4 j hj).elim (fun k => k h.1) (fun k => k h.2)⟩
  · rintro ⟨⟨h1, h3, h2⟩, h4⟩
    refine ⟨⟨h1, h2⟩, h3, fun j hj => ?_⟩
    by_cases h : i < j
    · exact .inr fun k => h4 j hj ⟨h, k⟩
    · exact .inl h
theorem kOf_none {l : List (List Int)} {i : Nat} : kOf l i = none ↔ ∀ k, k < l.length → ¬ (i < k ∧ JN (l.getD i []) (l.getD k [])) := by
  unfold kOf
  rw [List.find?_range_eq_none]
  simp only [Bool.not_eq_true', Bool.and_eq_false_iff, decide_eq_false_iff_not]
  constructor
  · intro h k hk ⟨h1, h2⟩
    exact (h k hk).elim (fun g => g h1) (fun g => g h2)
  · intro h k hk
    by_cases g : i < k
    · exact .inr fun h2 => h k hk ⟨g, h2⟩
    · exact .inl g
theorem join1_some {l l' : List (List Int)} (h : join1 l = some l') : ∃ i k, i < k ∧ k < l.length ∧ JN (l.getD i []) (l.getD k []) ∧ l' = joinAt l i k := by
  unfold join1 at h
  cases hi : iOf l with
  | none => rw [hi] at h; cases h
  | some i =>
    rw [hi] at h
    simp only [Option.bind_some] at h
    cases hk : kOf l i with
    | none => rw [hk] at h; cases h
    | some k =>
      rw [hk] at h
      cases h
      obtain ⟨⟨h1, h2, h3⟩, _⟩ := kOf_some.1 hk
      exact ⟨i, k, h1, h2, h3, rfl⟩
theorem join1_none {l : List (List Int)} (h : join1 l = none) : ∀ i k, i < k → k < l.length → ¬ JN (l.getD i []) (l.getD k []) := by
  intro i k hik hk hj
  have hi : iOf l = none := by
    cases hi : iOf l with
    | none => rfl
    | some i =>
      unfold join1 at h
      rw [hi] at h
      simp only [Option.bind_some] at h
      have := (List.find?_range_eq_some.1 hi).1
      cases hk : kOf l i with
      | none => rw [hk] at this; cases this
      | some k => rw [hk] at h; cases h
  unfold iOf at hi
  rw [List.find?_range_eq_none] at hi
  have := hi i (by omega)
  have hn : kOf l i = none := by
    cases h : kOf l i with
    | none => rfl
    | some _ => rw [h] at this; cases this
  exact kOf_none.1 hn k hk ⟨hik, hj⟩
theorem join1_of_none {l : List (List Int)} (h : ∀ i k, i < k → k < l.length → ¬ JN (l.getD i []) (l.getD k [])) : join1 l = none := by
  cases hj : join1 l with
  | none => rfl
  | some l' =>
    obtain ⟨i, k, h1, h2, h3, _⟩ := join1_some hj
    exact absurd h3 (h i k h1 h2)
theorem joinAt_length {l : List (List Int)} {i k : Nat} (hk : k < l.length) : (joinAt l i k).length = l.length - 1 := by
  unfold joinAt
  rw [List.length_eraseIdx, if_pos (by simpa using hk)]
  simp
theorem mem_joinAt {l : List (List Int)} {i k : Nat} (hik : i < k) (hk : k < l.length) {x : List Int} : x ∈ joinAt l i k ↔ x = jB (l.getD i []) (l.getD k []) ∨ ∃ m, m < l.length ∧ m ≠ i ∧ m ≠ k ∧ l.getD m [] = x := by
  unfold joinAt
  rw [List.mem_eraseIdx_iff_getElem]
  constructor
  · rintro ⟨m, hm, hmk, rfl⟩
    have hm' : m < l.length := by simpa using hm
    rw [List.getElem_set]
    by_cases h : i = m
    · rw [if_pos h]; exact .inl rfl
    · rw [if_neg h]
      exact .inr ⟨m, hm', fun e => h e.symm, hmk, by rw [List.getD_eq_getElem?_getD, List.getElem?_eq_getElem hm']; rfl⟩
  · rintro (rfl | ⟨m, hm, h1, h2, rfl⟩)
    · exact ⟨i, by simp; omega, by omega, by simp⟩
    · refine ⟨m, by simpa using hm, h2, ?_⟩
      rw [List.getElem_set, if_neg (fun e => h1 e.symm)]
      exact (show l.getD m [] = l[m] by rw [List.getD_eq_getElem?_getD, List.getElem?_eq_getElem hm]; rfl).symm
structure Tid (l l' : List (List Int)) : Prop where
  pos : 0 < l'.length
  le : l'.length ≤ l.length
  vb : ∀ b ∈ l', VB b
  four : (∀ b ∈ l, b.length = 4) → ∀ b ∈ l', b.length = 4
  has : ∀ x y, (∃ b ∈ l', HB x y b) ↔ ∃ b ∈ l, HB x y b
theorem Tid.refl {l : List (List Int)} (hp : 0 < l.length) (hv : ∀ b ∈ l, VB b) : Tid l l := ⟨hp, Nat.le_refl _, hv, fun h => h, fun _ _ => Iff.rfl⟩
theorem Tid.trans {a b c : List (List Int)} (h : Tid a b) (k : Tid b c) : Tid a c := ⟨k.pos, Nat.le_trans k.le h.le, k.vb, fun f => k.four (h.four f), fun x y => (k.has x y).trans (h.has x y)⟩
theorem tid_join {l : List (List Int)} {i k : Nat} (hv : ∀ b ∈ l, VB b) (hik : i < k) (hk : k < l.length) (hj : JN (l.getD i []) (l.getD k [])) : Tid l (joinAt l i k) := by
  have hi := getD_mem (show i < l.length by omega)
  have hk' := getD_mem hk
  refine ⟨by rw [joinAt_length hk]; omega, by rw [joinAt_length hk]; omega, fun b hb => ?_, fun f b hb => ?_, fun x y => ?_⟩
  · rcases (mem_joinAt hik hk).1 hb with rfl | ⟨m, hm, _, _, rfl⟩
    · exact vb_j (hv _ hi) (hv _ hk')
    · exact hv _ (getD_mem hm)
  · rcases (mem_joinAt hik hk).1 hb with rfl | ⟨m, hm, _, _, rfl⟩
    · rfl
    · exact f _ (getD_mem hm)
  · have hjb := hb_j (x := x) (y := y) (hv _ hi) (hv _ hk') hj
    constructor
    · rintro ⟨b, hb, h⟩
      rcases (mem_joinAt hik hk).1 hb with rfl | ⟨m, hm, _, _, rfl⟩
      · rcases hjb.1 h with h | h
        · exact ⟨_, hi, h⟩
        · exact ⟨_, hk', h⟩
      · exact ⟨_, getD_mem hm, h⟩
    · rintro ⟨b, hb, h⟩
      obtain ⟨m, hm, rfl⟩ := getD_of_mem hb
      by_cases e : m = i
      · subst e; exact ⟨_, (mem_joinAt hik hk).2 (.inl rfl), hjb.2 (.inl h)⟩
      · by_cases e2 : m = k
        · subst e2; exact ⟨_, (mem_joinAt hik hk).2 (.inl rfl), hjb.2 (.inr h)⟩
        · exact ⟨_, (mem_joinAt hik hk).2 (.inr ⟨m, hm, e, e2, rfl⟩), h⟩
theorem tidyN_tid : ∀ (n : Nat) (l : List (List Int)), 0 < l.length → (∀ b ∈ l, VB b) → Tid l (tidyN n l)
  | 0, l, hp, hv => Tid.refl hp hv
  | n + 1, l, hp, hv => by
    unfold tidyN
    cases h : join1 l with
    | none => exact Tid.refl hp hv
    | some l' =>
      obtain ⟨i, k, h1, h2, h3, rfl⟩ := join1_some h
      have t := tid_join hv h1 h2 h3
      exact t.trans (tidyN_tid n _ t.pos t.vb)
theorem tidyN_none : ∀ (n : Nat) (l : List (List Int)), l.length ≤ n + 1 → join1 (tidyN n l) = none
  | 0, l, h => by
    refine join1_of_none fun i k hik hk => ?_
    have : (tidyN 0 l).length = l.length := rfl
    omega
  | n + 1, l, h => by
    unfold tidyN
    cases hj : join1 l with
    | none => exact hj
    | some l' =>
      obtain ⟨i, k, h1, h2, h3, rfl⟩ := join1_some hj
      exact tidyN_none n _ (by rw [joinAt_length h2]; omega)
theorem tidyN_id {n : Nat} {l : List (List Int)} (h : join1 l = none) : tidyN n l = l := by
  cases n with
  | zero => rfl
  | succ n => unfold tidyN; rw [h]
/-- No two can be joined. -/
def Apart (l : List (List Int)) : Prop := l.Pairwise fun a b => ¬ JN a b
theorem apart_iff {l : List (List Int)} : Apart l ↔ ∀ i k, i < k → k < l.length → ¬ JN (l.getD i []) (l.getD k []) := by
  unfold Apart
  rw [List.pairwise_iff_getElem]
  constructor
  · intro h i k hik hk
    have := h i k (by omega) hk hik
    rw [List.getD_eq_getElem?_getD, List.getD_eq_getElem?_getD, List.getElem?_eq_getElem hk, List.getElem?_eq_getElem (show i < l.length by omega)]
    exact this
  · intro h i k hi hk hik
    have := h i k hik hk
    rw [List.getD_eq_getElem?_getD, List.getD_eq_getElem?_getD, List.getElem?_eq_getElem hk, List.getElem?_eq_getElem hi] at this
    exact this
theorem apart_perm {a b : List (List Int)} (h : a.Perm b) (ha : Apart a) : Apart b := (h.pairwise_iff (fun h k => h (JN_symm k))).1 ha
theorem le4_anti {a b : List Int} (ha : a.length = 4) (hb : b.length = 4) (h : leL [0, 2, 1, 3] a b = true) (k : leL [0, 2, 1, 3] b a = true) : a = b := by
  have := leL_anti _ _ _ h k
  have e := norm_ext (n := 4) (a := a) (b := b) (fun j hj => this j (by
    have : j = 0 ∨ j = 1 ∨ j = 2 ∨ j = 3 := by omega
    rcases this with rfl | rfl | rfl | rfl <;> simp))
  rwa [norm_eq ha, norm_eq hb] at e
theorem sort_tid {l : List (List Int)} (hp : 0 < l.length) (hv : ∀ b ∈ l, VB b) (h4 : ∀ b ∈ l, b.length = 4) : Tid l (sortRows 4 [0, 2, 1, 3] l) ∧ (sortRows 4 [0, 2, 1, 3] l).Perm l := by
  have e : sortRows 4 [0, 2, 1, 3] l = isort (leL [0, 2, 1, 3]) l := by unfold sortRows; rw [map_norm h4]
  rw [e]
  have hm : ∀ b, b ∈ isort (leL [0, 2, 1, 3]) l ↔ b ∈ l := fun b => isort_mem
  refine ⟨⟨by rw [isort_length]; exact hp, by rw [isort_length]; exact Nat.le_refl _, fun b hb => hv b ((hm b).1 hb), fun f b hb => f b ((hm b).1 hb), fun x y => ?_⟩, isort_perm l⟩
  constructor
  · rintro ⟨b, hb, h⟩; exact ⟨b, (hm b).1 hb, h⟩
  · rintro ⟨b, hb, h⟩; exact ⟨b, (hm b).2 hb, h⟩
structure Tidy (l l' : List (List Int)) : Prop extends Tid l l' where
  vl : VL l'
  f4 : ∀ b ∈ l', b.length = 4
  apart : Apart l'
  fix : tid l' = l'
theorem tid_is {l : List (List Int)} (hl : VL l) (h4 : ∀ b ∈ l, b.length = 4) : Tidy l (tid l) := by
  have t := tidyN_tid l.length l hl.1 hl.2.2
  obtain ⟨s, p⟩ := sort_tid t.pos t.vb (t.four h4)
  have ts := t.trans s
  have hn := tidyN_none l.length l (Nat.le_succ _)
  have ha : Apart (tid l) := apart_perm p.symm (apart_iff.2 (join1_none hn))
  have hf4 : ∀ b ∈ tid l, b.length = 4 := ts.four h4
  refine ⟨ts, ⟨ts.pos, Nat.le_trans ts.le hl.2.1, ts.vb⟩, hf4, ha, ?_⟩
  show sortRows 4 [0, 2, 1, 3] (tidyN (tid l).length (tid l)) = tid l
  rw [tidyN_id (join1_of_none (apart_iff.1 ha))]
  unfold sortRows
  rw [map_norm hf4]
  refine isort_fix (leL_total _) (leL_trans _) (fun a ha b hb h k => le4_anti (hf4 a ha) (hf4 b hb) h k) ?_
  show (isort (leL [0, 2, 1, 3]) _).Pairwise _
  exact isort_sorted (leL_total _) (leL_trans _) _
end Go.Proofs.YtddfnokjnafdpaaGreat

/-!
  What two forecasts say together.
-/
set_option linter.unusedVariables false
set_option maxRecDepth 100000
namespace Go.Proofs.YtddfnokjnafdpaaGreat
open Go Go.Sy

/-- The current that has a minute. -/
def atT (l : List (List Int)) (t : Int) : Option (List Int) := l.find? fun c => decide (c.getD 0 0 ≤ t) && decide (t < c.getD 1 0)
theorem atT_cons (c : List Int) (l : List (List Int)) (t : Int) : atT (c :: l) t = if c.getD 0 0 ≤ t ∧ t < c.getD 1 0 then some c else atT l t := by
  unfold atT
  rw [List.find?_cons]
  by_cases h : c.getD 0 0 ≤ t ∧ t < c.getD 1 0
  · rw [if_pos h, decide_eq_true h.1, decide_eq_true h.2]; rfl
  · rw [if_neg h]
    have : (decide (c.getD 0 0 ≤ t) && decide (t < c.getD 1 0)) = false := by
      simp only [Bool.and_eq_false_iff, decide_eq_false_iff_not]
      omega
    rw [this]
theorem atT_some {l : List (List Int)} {t : Int} {c : List Int} (h : atT l t = some c) : c ∈ l ∧ c.getD 0 0 ≤ t ∧ t < c.getD 1 0 := by
  unfold atT at h
  have := List.find?_some h
  simp only [Bool.and_eq_true, decide_eq_true_eq] at this
  exact ⟨List.mem_of_find?_eq_some h, this⟩
theorem atT_none {l : List (List Int)} {t : Int} : atT l t = none ↔ ∀ c ∈ l, ¬ (c.getD 0 0 ≤ t ∧ t < c.getD 1 0) := by
  unfold atT
  rw [List.find?_eq_none]
  simp only [Bool.and_eq_true, decide_eq_true_eq]
theorem mins_1 {t : Int} {c : List Int} : mins t (t + 1) c = if c.getD 0 0 ≤ t ∧ t < c.getD 1 0 then 1 else 0 := by
  unfold mins; split <;> omega
theorem sum_cons (f u : Int) (k : Nat) (c : List Int) (l : List (List Int)) : sumL f u k (c :: l) = mins f u c * c.getD k 0 + sumL f u k l := by simp [sumL]
theorem cov_cons (f u : Int) (c : List Int) (l : List (List Int)) : covL f u (c :: l) = mins f u c + covL f u l := by simp [covL]
theorem sum_after {t : Int} {k : Nat} : ∀ (e : Int) (l : List (List Int)), t < e → CL e l → sumL t (t + 1) k l = 0 ∧ covL t (t + 1) l = 0 ∧ atT l t = none
  | e, [], _, _ => ⟨rfl, rfl, rfl⟩
  | e, c :: l, h, hc => by
    have hco := hc.1
    unfold CO at hco
    obtain ⟨h1, h2, h3⟩ := sum_after (t := t) (k := k) (c.getD 1 0) l (by omega) hc.2
    have hn : ¬ (c.getD 0 0 ≤ t ∧ t < c.getD 1 0) := by omega
    rw [sum_cons, cov_cons, atT_cons, mins_1, if_neg hn, if_neg hn, h1, h2, h3]
    exact ⟨by omega, by omega, rfl⟩
/-- What a current says. -/
def vlA (k : Nat) : Option (List Int) → Int
  | some c => c.getD k 0
  | none => 0
theorem sum_at {t : Int} {k : Nat} : ∀ (e : Int) (l : List (List Int)), CL e l → sumL t (t + 1) k l = vlA k (atT l t) ∧ covL t (t + 1) l = if (atT l t).isSome then 1 else 0
  | e, [], _ => ⟨rfl, rfl⟩
  | e, c :: l, hc => by
    rw [sum_cons, cov_cons, atT_cons, mins_1]
    by_cases hn : c.getD 0 0 ≤ t ∧ t < c.getD 1 0
    · obtain ⟨h1, h2, h3⟩ := sum_after (t := t) (k := k) (c.getD 1 0) l hn.2 hc.2
      rw [if_pos hn, if_pos hn, h1, h2]
      exact ⟨by simp [vlA], rfl⟩
    · obtain ⟨h1, h2⟩ := sum_at (t := t) (k := k) (c.getD 1 0) l hc.2
      rw [if_neg hn, if_neg hn, h1, h2]
      exact ⟨by omega, by omega⟩
theorem sumL_minutes {l l' : List (List Int)} (hv : VC l) (hv' : VC l') (k : Nat) : ∀ (n : Nat) (f : Int), (∀ t, f ≤ t → t < f + n → vlA k (atT l t) ≤ vlA k (atT l' t)) → sumL f (f + n) k l ≤ sumL f (f + n) k l'
  | 0, f, _ => by
    rw [show f + ((0 : Nat) : Int) = f by omega, sumL_none, sumL_none]; exact Int.le_refl _
  | n + 1, f, h => by
    have ih := sumL_minutes hv hv' k n f fun t h1 h2 => h t h1 (by omega)
    have e : f + ((n + 1 : Nat) : Int) = (f + n) + 1 := by omega
    rw [e, sumL_add hv (show f ≤ f + n by omega) (show f + (n : Int) ≤ f + n + 1 by omega), sumL_add hv' (show f ≤ f + n by omega) (show f + (n : Int) ≤ f + n + 1 by omega), (sum_at 0 l hv.1).1, (sum_at 0 l' hv'.1).1]
    have := h (f + n) (by omega) (by omega)
    omega
theorem covL_all {l : List (List Int)} (hv : VC l) : ∀ (n : Nat) (f : Int), (∀ t, f ≤ t → t < f + n → (atT l t).isSome = true) → covL f (f + n) l = n
  | 0, f, _ => by rw [show f + ((0 : Nat) : Int) = f by omega, covL_none]; rfl
  | n + 1, f, h => by
    have ih := covL_all hv n f fun t h1 h2 => h t h1 (by omega)
    have e : f + ((n + 1 : Nat) : Int) = (f + n) + 1 := by omega
    rw [e, covL_add hv (show f ≤ f + n by omega) (show f + (n : Int) ≤ f + n + 1 by omega), (sum_at (k := 0) 0 l hv.1).2, ih, if_pos (h (f + n) (by omega) (by omega))]
    omega
theorem covL_full {l : List (List Int)} (hv : VC l) {f u : Int} (ht : VT f u) : covL f u l = u - f ↔ ∀ t, f ≤ t → t < u → (atT l t).isSome = true := by
  have e : f + ((u - f).toNat : Int) = u := by unfold VT at ht; omega
  constructor
  · intro h t h1 h2
    unfold VT at ht
    have a := covL_add hv (show f ≤ t by omega) (show t ≤ u by omega)
    have b := covL_add hv (show t ≤ t + 1 by omega) (show t + 1 ≤ u by omega)
    have c := covL_le hv (show VT f t by unfold VT; omega)
    have d := covL_le hv (show VT (t + 1) u by unfold VT; omega)
    have g := (sum_at (t := t) (k := 0) 0 l hv.1).2
    cases hs : (atT l t).isSome with
    | true => rfl
    | false =>
      rw [hs] at g
      simp only [Bool.false_eq_true, if_false] at g
      omega
  · intro h
    have := covL_all hv (u - f).toNat f (fun t h1 h2 => h t h1 (by omega))
    rw [e] at this
    rw [this]
    unfold VT at ht
    omega

/-! ### rising times -/
theorem dd_after : ∀ (l : List Int) (p : Int), l.Pairwise (fun a b => a ≤ b) → (∀ x ∈ l, p ≤ x) → (dd (some p) l).Pairwise (fun a b => a < b) ∧ ∀ x, x ∈ dd (some p) l ↔ x ∈ l ∧ p < x
  | [], p, _, _ => by simp [dd]
  | y :: l, p, hs, hp => by
    have hy := hp y List.mem_cons_self
    rw [List.pairwise_cons] at hs
    unfold dd
    by_cases h : p = y
    · subst h
      rw [if_pos rfl]
      obtain ⟨h1, h2⟩ := dd_after l p hs.2 (fun x hx => hp x (List.mem_cons_of_mem _ hx))
      refine ⟨h1, fun x => ?_⟩
      rw [h2, List.mem_cons]
      constructor
      · rintro ⟨h3, h4⟩; exact ⟨.inr h3, h4⟩
      · rintro ⟨rfl | h3, h4⟩
        · omega
        · exact ⟨h3, h4⟩
    · rw [if_neg (by simpa using h)]
      obtain ⟨h1, h2⟩ := dd_after l y hs.2 hs.1
      refine ⟨List.pairwise_cons.2 ⟨fun x hx => ((h2 x).1 hx).2, h1⟩, fun x => ?_⟩
      rw [List.mem_cons, List.mem_cons, h2]
      constructor
      · rintro (rfl | ⟨h3, h4⟩)
        · exact ⟨.inl rfl, by omega⟩
        · exact ⟨.inr h3, by omega⟩
      · rintro ⟨rfl | h3, h4⟩
        · exact .inl rfl
        · have := hs.1 x h3
          by_cases e : x = y
          · exact .inl e
          · exact .inr ⟨h3, by omega⟩
theorem dd_all {l : List Int} (hs : l.Pairwise fun a b => a ≤ b) : (dd none l).Pairwise (fun a b => a < b) ∧ ∀ x, x ∈ dd none l ↔ x ∈ l := by
  cases l with
  | nil => simp [dd]
  | cons y l =>
    rw [List.pairwise_cons] at hs
    have e : dd none (y :: l) = y :: dd (some y) l := by
      rw [show dd none (y :: l) = if (none : Option Int) = some y then dd (some y) l else y :: dd (some y) l from rfl, if_neg (by simp)]
    rw [e]
    obtain ⟨h1, h2⟩ := dd_after l y hs.2 hs.1
    refine ⟨List.pairwise_cons.2 ⟨fun x hx => ((h2 x).1 hx).2, h1⟩, fun x => ?_⟩
    rw [List.mem_cons, List.mem_cons, h2]
    constructor
    · rintro (rfl | ⟨h3, _⟩)
      · exact .inl rfl
      · exact .inr h3
    · rintro (rfl | h3)
      · exact .inl rfl
      · have := hs.1 x h3
        by_cases e : x = y
        · exact .inl e
        · exact .inr ⟨h3, by omega⟩
/-- The ends of currents. -/
def endsL (l : List (List Int)) : List Int := l.flatMap fun c => [c.getD 0 0, c.getD 1 0]
/-- The times at which something begins or ends. -/
def bT (a b : List (List Int)) : List Int := dd none (isort leI (endsL (a ++ b)))
theorem isortI_sorted (l : List Int) : (isort leI l).Pairwise fun a b => a ≤ b := by
  have := isort_sorted leI_total leI_trans l
  exact this.imp fun h => by simpa [leI] using h
theorem bT_rise (a b : List (List Int)) : (bT a b).Pairwise fun x y => x < y := (dd_all (isortI_sorted _)).1
theorem mem_bT {a b : List (List Int)} {x : Int} : x ∈ bT a b ↔ ∃ c, (c ∈ a ∨ c ∈ b) ∧ (x = c.getD 0 0 ∨ x = c.getD 1 0) := by
  unfold bT
  rw [(dd_all (isortI_sorted _)).2, isort_mem, endsL, List.mem_flatMap]
  constructor
  · rintro ⟨c, hc, h⟩
    exact ⟨c, List.mem_append.1 hc, by simpa using h⟩
  · rintro ⟨c, hc, h⟩
    exact ⟨c, List.mem_append.2 hc, by simpa using h⟩
theorem rise_unique : ∀ {l l' : List Int}, l.Pairwise (fun x y => x < y) → l'.Pairwise (fun x y => x < y) → (∀ x, x ∈ l ↔ x ∈ l') → l = l'
  | [], [], _, _, _ => rfl
  | [], y :: l', _, _, h => by have := (h y).2 List.mem_cons_self; cases this
  | x :: l, [], _, _, h => by have := (h x).1 List.mem_cons_self; cases this
  | x :: l, y :: l', h1, h2, h => by
    rw [List.pairwise_cons] at h1 h2
    have hxy : x = y := by
      have a := (h x).1 List.mem_cons_self
      have b := (h y).2 List.mem_cons_self
      rcases List.mem_cons.1 a with e | a
      · exact e
      · rcases List.mem_cons.1 b with e | b
        · exact e.symm
        · have := h1.1 y b
          have := h2.1 x a
          omega
    subst hxy
    congr 1
    refine rise_unique h1.2 h2.2 fun z => ?_
    constructor
    · intro hz
      have := (h z).1 (List.mem_cons_of_mem _ hz)
      rcases List.mem_cons.1 this with e | k
      · have := h1.1 z hz; omega
      · exact k
    · intro hz
      have := (h z).2 (List.mem_cons_of_mem _ hz)
      rcases List.mem_cons.1 this with e | k
      · have := h2.1 z hz; omega
      · exact k
theorem bT_symm (a b : List (List Int)) : bT a b = bT b a := rise_unique (bT_rise a b) (bT_rise b a) fun x => by
  rw [mem_bT, mem_bT]
  constructor <;> rintro ⟨c, h, k⟩ <;> exact ⟨c, h.symm, k⟩
/-- Neighbouring times. -/
def prs : List Int → List (Int × Int)
  | [] => []
  | [_] => []
  | x :: y :: r => (x, y) :: prs (y :: r)
theorem prs_mem : ∀ {l : List Int}, l.Pairwise (fun x y => x < y) → ∀ {p : Int × Int}, p ∈ prs l → p.1 ∈ l ∧ p.2 ∈ l ∧ p.1 < p.2 ∧ ∀ x ∈ l, x ≤ p.1 ∨ p.2 ≤ x
  | [], _, p, h => by cases h
  | [_], _, p, h => by cases h
  | x :: y :: r, hr, p, h => by
    have hr2 := List.pairwise_cons.1 hr
    have hr3 := List.pairwise_cons.1 hr2.2
    unfold prs at h
    rcases List.mem_cons.1 h with rfl | h
    · refine ⟨List.mem_cons_self, List.mem_cons_of_mem _ List.mem_cons_self, hr2.1 y List.mem_cons_self, fun z hz => ?_⟩
      rcases List.mem_cons.1 hz with rfl | hz
      · exact .inl (Int.le_refl _)
      · rcases List.mem_cons.1 hz with rfl | hz
        · exact .inr (Int.le_refl _)
        · exact .inr (Int.le_of_lt (hr3.1 z hz))
    · obtain ⟨h1, h2, h3, h4⟩ := prs_mem hr2.2 h
      refine ⟨List.mem_cons_of_mem _ h1, List.mem_cons_of_mem _ h2, h3, fun z hz => ?_⟩
      rcases List.mem_cons.1 hz with rfl | hz
      · exact .inl (Int.le_of_lt (hr2.1 _ h1))
      · exact h4 z hz
/-- A time between the first and the last one is in a part. -/
theorem prs_find : ∀ {l : List Int}, l.Pairwise (fun x y => x < y) → ∀ {t x y : Int}, x ∈ l → y ∈ l → x ≤ t → t < y → ∃ p ∈ prs l, p.1 ≤ t ∧ t < p.2
  | [], _, t, x, y, h, _, _, _ => by cases h
  | [z], _, t, x, y, h, k, h1, h2 => by
    have a := List.mem_singleton.1 h
    have b := List.mem_singleton.1 k
    omega
  | z :: z' :: r, hr, t, x, y, h, k, h1, h2 => by
    have hr2 := List.pairwise_cons.1 hr
    unfold prs
    by_cases ht : t < z'
    · refine ⟨(z, z'), List.mem_cons_self, ?_, ht⟩
      rcases List.mem_cons.1 h with rfl | h
      · exact h1
      · rcases List.mem_cons.1 h with rfl | h
        · simp only []; omega
        · have := (List.pairwise_cons.1 hr2.2).1 x h
          simp only []; omega
    · have hy : y ∈ z' :: r := by
        rcases List.mem_cons.1 k with rfl | k
        · have := hr2.1 z' List.mem_cons_self
          omega
        · exact k
      obtain ⟨p, hp, h3⟩ := prs_find hr2.2 (t := t) (x := z') List.mem_cons_self hy (by omega) h2
      exact ⟨p, List.mem_cons_of_mem _ hp, h3⟩
end Go.Proofs.YtddfnokjnafdpaaGreat

/-!
  What two forecasts say together: its rows, and what it says at a minute.
-/
set_option linter.unusedVariables false
set_option maxRecDepth 100000
namespace Go.Proofs.YtddfnokjnafdpaaGreat
open Go Go.Sy

/-- What both say at a time, as a current from f to u. -/
def bRow (c d : Option (List Int)) (f u : Int) : Option (List Int) :=
  match c, d with
  | some c, some d => some [f, u, max (c.getD 2 0) (d.getD 2 0), min (c.getD 3 0) (d.getD 3 0), max (c.getD 4 0) (d.getD 4 0), min (c.getD 5 0) (d.getD 5 0)]
  | some c, none => some [f, u, c.getD 2 0, c.getD 3 0, c.getD 4 0, c.getD 5 0]
  | none, some d => some [f, u, d.getD 2 0, d.getD 3 0, d.getD 4 0, d.getD 5 0]
  | none, none => none
/-- They do not contradict one another. -/
def bOk (c d : Option (List Int)) : Prop :=
  match c, d with
  | some c, some d => max (c.getD 2 0) (d.getD 2 0) ≤ min (c.getD 3 0) (d.getD 3 0) ∧ max (c.getD 4 0) (d.getD 4 0) ≤ min (c.getD 5 0) (d.getD 5 0)
  | _, _ => True
instance decBOk : (c d : Option (List Int)) → Decidable (bOk c d)
  | some c, some d => by unfold bOk; infer_instance
  | some _, none => .isTrue trivial
  | none, some _ => .isTrue trivial
  | none, none => .isTrue trivial
theorem bRow_symm (c d : Option (List Int)) (f u : Int) : bRow c d f u = bRow d c f u := by
  cases c <;> cases d <;> first | rfl | skip
  unfold bRow
  simp only [Int.max_comm, Int.min_comm]
theorem bOk_symm (c d : Option (List Int)) : bOk c d ↔ bOk d c := by
  cases c <;> cases d <;> first | exact Iff.rfl | skip
  unfold bOk
  simp only []
  omega
/-- The currents of both. -/
def bAll (a b : List (List Int)) : List (Int × Int) → List (List Int)
  | [] => []
  | p :: r => (bRow (atT a p.1) (atT b p.1) p.1 p.2).toList ++ bAll a b r
def bLie (a b : List (List Int)) : Prop := ∃ p ∈ prs (bT a b), ¬ bOk (atT a p.1) (atT b p.1)
instance (a b : List (List Int)) : Decidable (bLie a b) := by unfold bLie; infer_instance
def betE (a b : List (List Int)) : Int := if ¬ VC a ∨ ¬ VC b then 1 else if bLie a b then 18 else if (bAll a b (prs (bT a b))).length > 60 then 2 else 0
def betL (a b : List (List Int)) : List (List Int) := if betE a b = 0 then bAll a b (prs (bT a b)) else []
theorem bAll_symm (a b : List (List Int)) : ∀ l, bAll a b l = bAll b a l
  | [] => rfl
  | p :: r => by unfold bAll; rw [bRow_symm, bAll_symm a b r]
theorem bLie_symm (a b : List (List Int)) : bLie a b ↔ bLie b a := by
  unfold bLie
  rw [bT_symm]
  constructor <;> rintro ⟨p, hp, h⟩ <;> exact ⟨p, hp, fun k => h ((bOk_symm _ _).1 k)⟩
theorem betE_symm (a b : List (List Int)) : betE a b = betE b a := by
  unfold betE
  have h1 : (¬ VC a ∨ ¬ VC b) ↔ (¬ VC b ∨ ¬ VC a) := Or.comm
  have h2 := bLie_symm a b
  rw [bT_symm a b, bAll_symm a b]
  by_cases g1 : ¬ VC a ∨ ¬ VC b
  · rw [if_pos g1, if_pos (h1.1 g1)]
  · rw [if_neg g1, if_neg (fun k => g1 (h1.2 k))]
    by_cases g2 : bLie a b
    · rw [if_pos g2, if_pos (h2.1 g2)]
    · rw [if_neg g2, if_neg (fun k => g2 (h2.2 k))]
theorem betL_symm (a b : List (List Int)) : betL a b = betL b a := by
  unfold betL
  rw [betE_symm a b, bT_symm a b, bAll_symm a b]
theorem betE_cases (a b : List (List Int)) : betE a b = 1 ∨ betE a b = 18 ∨ betE a b = 2 ∨ (betE a b = 0 ∧ VC a ∧ VC b ∧ ¬ bLie a b ∧ (bAll a b (prs (bT a b))).length ≤ 60 ∧ betL a b = bAll a b (prs (bT a b))) := by
  unfold betL betE
  by_cases g1 : ¬ VC a ∨ ¬ VC b
  · rw [if_pos g1]; exact .inl rfl
  · rw [if_neg g1]
    by_cases g2 : bLie a b
    · rw [if_pos g2]; exact .inr (.inl rfl)
    · rw [if_neg g2]
      by_cases g3 : (bAll a b (prs (bT a b))).length > 60
      · rw [if_pos g3]; exact .inr (.inr (.inl rfl))
      · rw [if_neg g3]
        exact .inr (.inr (.inr ⟨rfl, Decidable.byContradiction fun k => g1 (.inl k), Decidable.byContradiction fun k => g1 (.inr k), g2, by omega, if_pos rfl⟩))
/-- Both as a current of their own. -/
theorem bRow_ok {c d : Option (List Int)} {f u e : Int} {r : List Int} (hc : ∀ x, c = some x → ∃ e, CO e x) (hd : ∀ x, d = some x → ∃ e, CO e x) (ho : bOk c d) (hr : bRow c d f u = some r) (h1 : e ≤ f) (h2 : f < u) (h3 : u ≤ 10000000) : CO e r ∧ r.getD 0 0 = f ∧ r.getD 1 0 = u ∧ r.length = 6 := by
  cases c with
  | none => cases d with
    | none => cases hr
    | some d =>
      cases hr
      obtain ⟨e', h⟩ := hd d rfl
      unfold CO at *
      simp only [List.getD_cons_zero, List.getD_cons_succ]
      exact ⟨by omega, trivial, trivial, rfl⟩
  | some c => cases d with
    | none =>
      cases hr
      obtain ⟨e', h⟩ := hc c rfl
      unfold CO at *
      simp only [List.getD_cons_zero, List.getD_cons_succ]
      exact ⟨by omega, trivial, trivial, rfl⟩
    | some d =>
      cases hr
      obtain ⟨e', h⟩ := hc c rfl
      obtain ⟨e2, g⟩ := hd d rfl
      unfold bOk at ho
      unfold CO at *
      simp only [List.getD_cons_zero, List.getD_cons_succ] at *
      exact ⟨by omega, trivial, trivial, rfl⟩
theorem atT_co {a : List (List Int)} (hv : VC a) {t : Int} : ∀ x, atT a t = some x → ∃ e, CO e x := fun x h => ⟨0, CL_mem hv.1 x (atT_some h).1⟩
theorem bAll_cl {a b : List (List Int)} (ha : VC a) (hb : VC b) : ∀ (l : List (Int × Int)) (e : Int), l.Pairwise (fun p q => p.2 ≤ q.1) → (∀ p ∈ l, e ≤ p.1 ∧ p.1 < p.2 ∧ p.2 ≤ 10000000 ∧ bOk (atT a p.1) (atT b p.1)) → CL e (bAll a b l) ∧ ∀ r ∈ bAll a b l, r.length = 6
  | [], e, _, _ => ⟨trivial, fun r h => by cases h⟩
  | p :: l, e, hw, h => by
    rw [List.pairwise_cons] at hw
    obtain ⟨h1, h2, h3, h4⟩ := h p List.mem_cons_self
    unfold bAll
    cases hr : bRow (atT a p.1) (atT b p.1) p.1 p.2 with
    | none => exact bAll_cl ha hb l e hw.2 fun q hq => h q (List.mem_cons_of_mem _ hq)
    | some r =>
      obtain ⟨g1, g2, g3, g4⟩ := bRow_ok (atT_co ha) (atT_co hb) h4 hr h1 h2 h3
      obtain ⟨k1, k2⟩ := bAll_cl ha hb l p.2 hw.2 fun q hq => by
        have := h q (List.mem_cons_of_mem _ hq)
        exact ⟨hw.1 q hq, this.2⟩
      refine ⟨⟨g1, by rw [g3]; exact k1⟩, fun x hx => ?_⟩
      rcases List.mem_cons.1 hx with rfl | hx
      · exact g4
      · exact k2 x hx
theorem prs_rise : ∀ {l : List Int}, l.Pairwise (fun x y => x < y) → (prs l).Pairwise fun p q => p.2 ≤ q.1
  | [], _ => List.Pairwise.nil
  | [_], _ => List.Pairwise.nil
  | x :: y :: r, h => by
    have h2 := List.pairwise_cons.1 h
    unfold prs
    refine List.pairwise_cons.2 ⟨fun q hq => ?_, prs_rise h2.2⟩
    have := (prs_mem h2.2 hq).1
    rcases List.mem_cons.1 this with e | k
    · simp only []; omega
    · have := (List.pairwise_cons.1 h2.2).1 _ k
      simp only []; omega
theorem bT_bd {a b : List (List Int)} (ha : VC a) (hb : VC b) {x : Int} (h : x ∈ bT a b) : 0 ≤ x ∧ x ≤ 10000000 := by
  obtain ⟨c, hc, h⟩ := mem_bT.1 h
  have : CO 0 c := by rcases hc with hc | hc; exact CL_mem ha.1 c hc; exact CL_mem hb.1 c hc
  unfold CO at this
  omega
/-- In a part between neighbouring times a forecast says the same. -/
theorem atT_part {a b : List (List Int)} {p : Int × Int} (hp : p ∈ prs (bT a b)) {t : Int} (h1 : p.1 ≤ t) (h2 : t < p.2) : atT a t = atT a p.1 ∧ atT b t = atT b p.1 := by
  obtain ⟨_, _, h3, h4⟩ := prs_mem (bT_rise a b) hp
  have key : ∀ l : List (List Int), (∀ c ∈ l, c ∈ a ∨ c ∈ b) → atT l t = atT l p.1 := by
    intro l
    induction l with
    | nil => intro _; rfl
    | cons c l ih =>
      intro hl
      rw [atT_cons, atT_cons, ih fun d hd => hl d (List.mem_cons_of_mem _ hd)]
      have e0 := h4 (c.getD 0 0) (mem_bT.2 ⟨c, hl c List.mem_cons_self, .inl rfl⟩)
      have e1 := h4 (c.getD 1 0) (mem_bT.2 ⟨c, hl c List.mem_cons_self, .inr rfl⟩)
      by_cases hh : c.getD 0 0 ≤ t ∧ t < c.getD 1 0
      · rw [if_pos hh, if_pos (by omega)]
      · rw [if_neg hh, if_neg (by omega)]
  exact ⟨key a fun c hc => .inl hc, key b fun c hc => .inr hc⟩
theorem bAll_at {a b : List (List Int)} (ha : VC a) (hb : VC b) : ∀ (l : List (Int × Int)), l.Pairwise (fun p q => p.2 ≤ q.1) → (∀ p ∈ l, p.1 < p.2) → ∀ {p : Int × Int} {t : Int}, p ∈ l → p.1 ≤ t → t < p.2 → atT (bAll a b l) t = bRow (atT a p.1) (atT b p.1) p.1 p.2
  | [], _, _, p, t, h, _, _ => by cases h
  | q :: l, hw, hlt, p, t, h, h1, h2 => by
    rw [List.pairwise_cons] at hw
    have skip : ∀ r, bRow (atT a q.1) (atT b q.1) q.1 q.2 = some r → r.getD 0 0 = q.1 ∧ r.getD 1 0 = q.2 := by
      intro r hr
      unfold bRow at hr
      split at hr
      · cases hr; exact ⟨rfl, rfl⟩
      · cases hr; exact ⟨rfl, rfl⟩
      · cases hr; exact ⟨rfl, rfl⟩
      · cases hr
    have after : ∀ (l : List (Int × Int)), (∀ p ∈ l, t < p.1) → atT (bAll a b l) t = none := by
      intro l
      induction l with
      | nil => intro _; rfl
      | cons p l ih =>
        intro hl
        have hp := hl p List.mem_cons_self
        have ih := ih fun q hq => hl q (List.mem_cons_of_mem _ hq)
        unfold bAll
        cases hr : bRow (atT a p.1) (atT b p.1) p.1 p.2 with
        | none => exact ih
        | some r =>
          have hr0 : r.getD 0 0 = p.1 := by
            unfold bRow at hr
            split at hr
            · cases hr; rfl
            · cases hr; rfl
            · cases hr; rfl
            · cases hr
          show atT (r :: bAll a b l) t = none
          rw [atT_cons, if_neg (by omega)]
          exact ih
    unfold bAll
    rcases List.mem_cons.1 h with rfl | h
    · cases hr : bRow (atT a p.1) (atT b p.1) p.1 p.2 with
      | none =>
        exact after l fun q hq => by have := hw.1 q hq; omega
      | some r =>
        obtain ⟨r0, r1⟩ := skip r hr
        show atT (r :: bAll a b l) t = some r
        rw [atT_cons, if_pos (by omega)]
    · have hq := hw.1 p h
      have ih := bAll_at ha hb l hw.2 (fun p hp => hlt p (List.mem_cons_of_mem _ hp)) h h1 h2
      cases hr : bRow (atT a q.1) (atT b q.1) q.1 q.2 with
      | none => exact ih
      | some r =>
        obtain ⟨r0, r1⟩ := skip r hr
        show atT (r :: bAll a b l) t = _
        rw [atT_cons, if_neg (by omega)]
        exact ih
/-- What both say together is a forecast; and where one of them says something, it says something that fits. -/
theorem bet_ok {a b : List (List Int)} (h : betE a b = 0) : VC (betL a b) ∧ (∀ r ∈ betL a b, r.length = 6) ∧ ∀ t x, atT a t = some x → ∃ y, atT (betL a b) t = some y ∧ x.getD 2 0 ≤ y.getD 2 0 ∧ y.getD 3 0 ≤ x.getD 3 0 ∧ x.getD 4 0 ≤ y.getD 4 0 ∧ y.getD 5 0 ≤ x.getD 5 0 := by
  rcases betE_cases a b with g | g | g | ⟨_, ha, hb, hl, h60, e⟩
  · rw [h] at g; cases g
  · rw [h] at g; cases g
  · rw [h] at g; cases g
  have hr := prs_rise (bT_rise a b)
  have hm : ∀ p ∈ prs (bT a b), 0 ≤ p.1 ∧ p.1 < p.2 ∧ p.2 ≤ 10000000 ∧ bOk (atT a p.1) (atT b p.1) := by
    intro p hp
    obtain ⟨h1, h2, h3, h4⟩ := prs_mem (bT_rise a b) hp
    exact ⟨(bT_bd ha hb h1).1, h3, (bT_bd ha hb h2).2, Decidable.byContradiction fun k => hl ⟨p, hp, k⟩⟩
  obtain ⟨c1, c2⟩ := bAll_cl ha hb _ 0 hr hm
  rw [e]
  refine ⟨⟨c1, h60⟩, c2, fun t x hx => ?_⟩
  obtain ⟨x1, x2, x3⟩ := atT_some hx
  obtain ⟨p, hp, p1, p2⟩ := prs_find (bT_rise a b) (t := t) (mem_bT.2 ⟨x, .inl x1, .inl rfl⟩) (mem_bT.2 ⟨x, .inl x1, .inr rfl⟩) x2 x3
  rw [bAll_at ha hb _ hr (fun q hq => (hm q hq).2.1) hp p1 p2]
  rw [← (atT_part hp p1 p2).1, hx]
  cases atT b p.1 with
  | none => exact ⟨_, rfl, by simp only [List.getD_cons_zero, List.getD_cons_succ]; omega⟩
  | some d => exact ⟨_, rfl, by simp only [List.getD_cons_zero, List.getD_cons_succ]; omega⟩
/-- The drift by what both say lies within that by one of them. -/
theorem bet_sum {a b : List (List Int)} (h : betE a b = 0) {f u : Int} (hs : sumE f u a = 0) : sumE f u (betL a b) = 0 ∧ sumL f u 2 a ≤ sumL f u 2 (betL a b) ∧ sumL f u 3 (betL a b) ≤ sumL f u 3 a ∧ sumL f u 4 a ≤ sumL f u 4 (betL a b) ∧ sumL f u 5 (betL a b) ≤ sumL f u 5 a := by
  obtain ⟨hv, _, hat⟩ := bet_ok h
  obtain ⟨va, ht, hc⟩ := sumE_ok hs
  have hfull := (covL_full va ht).1 (by have := covL_le va ht; omega)
  have hfull2 : covL f u (betL a b) = u - f := (covL_full hv ht).2 fun t h1 h2 => by
    have := hfull t h1 h2
    cases hx : atT a t with
    | none => rw [hx] at this; cases this
    | some x =>
      obtain ⟨y, hy, _⟩ := hat t x hx
      rw [hy]; rfl
  have hE : sumE f u (betL a b) = 0 := by
    rcases sumE_cases f u (betL a b) with ⟨_, h | h⟩ | ⟨_, _, _, h⟩ | ⟨h, _⟩
    · exact absurd hv h
    · exact absurd ht h
    · omega
    · exact h
  have e : f + ((u - f).toNat : Int) = u := by unfold VT at ht; omega
  have key : ∀ t, f ≤ t → t < f + ((u - f).toNat : Int) → ∃ x y, atT a t = some x ∧ atT (betL a b) t = some y ∧ x.getD 2 0 ≤ y.getD 2 0 ∧ y.getD 3 0 ≤ x.getD 3 0 ∧ x.getD 4 0 ≤ y.getD 4 0 ∧ y.getD 5 0 ≤ x.getD 5 0 := by
    intro t h1 h2
    have := hfull t h1 (by omega)
    cases hx : atT a t with
    | none => rw [hx] at this; cases this
    | some x =>
      obtain ⟨y, hy, h⟩ := hat t x hx
      exact ⟨x, y, rfl, hy, h⟩
  have s2 := sumL_minutes va hv 2 (u - f).toNat f (fun t h1 h2 => by obtain ⟨x, y, hx, hy, h⟩ := key t h1 h2; rw [hx, hy]; exact h.1)
  have s3 := sumL_minutes hv va 3 (u - f).toNat f (fun t h1 h2 => by obtain ⟨x, y, hx, hy, h⟩ := key t h1 h2; rw [hx, hy]; exact h.2.1)
  have s4 := sumL_minutes va hv 4 (u - f).toNat f (fun t h1 h2 => by obtain ⟨x, y, hx, hy, h⟩ := key t h1 h2; rw [hx, hy]; exact h.2.2.1)
  have s5 := sumL_minutes hv va 5 (u - f).toNat f (fun t h1 h2 => by obtain ⟨x, y, hx, hy, h⟩ := key t h1 h2; rw [hx, hy]; exact h.2.2.2)
  rw [e] at s2 s3 s4 s5
  exact ⟨hE, s2, s3, s4, s5⟩
end Go.Proofs.YtddfnokjnafdpaaGreat
