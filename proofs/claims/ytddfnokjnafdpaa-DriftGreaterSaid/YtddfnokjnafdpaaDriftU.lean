/-
  Boxes that can be joined, and tidied sets.
-/
import Derived.Test.YtddfnokjnafdpaaDriftN
import Derived.Test.YtddfnokjnafdpaaSySo
set_option linter.unusedVariables false
set_option maxRecDepth 100000
namespace Go.Proofs.Ytddfnokjnafdpaa
open Go Go.Sy

/-- The hull of two boxes. -/
def jB (a b : List Int) : List Int := [min (a.getD 0 0) (b.getD 0 0), max (a.getD 1 0) (b.getD 1 0), min (a.getD 2 0) (b.getD 2 0), max (a.getD 3 0) (b.getD 3 0)]
/-- They can be joined. -/
def JN (a b : List Int) : Prop := WB a b ∨ WB b a ∨ (MB a b ∧ ((a.getD 0 0 = b.getD 0 0 ∧ a.getD 1 0 = b.getD 1 0) ∨ (a.getD 2 0 = b.getD 2 0 ∧ a.getD 3 0 = b.getD 3 0)))
instance (a b : List Int) : Decidable (JN a b) := by unfold JN; infer_instance
theorem jB_get (a b : List Int) : (jB a b).getD 0 0 = min (a.getD 0 0) (b.getD 0 0) ∧ (jB a b).getD 1 0 = max (a.getD 1 0) (b.getD 1 0) ∧ (jB a b).getD 2 0 = min (a.getD 2 0) (b.getD 2 0) ∧ (jB a b).getD 3 0 = max (a.getD 3 0) (b.getD 3 0) := ⟨rfl, rfl, rfl, rfl⟩
theorem join_eq {s t x y : Int} (h1 : -1000000000000 ≤ s ∧ s ≤ t ∧ t ≤ 1000000000000) (h2 : -1000000000000 ≤ x ∧ x ≤ y ∧ y ≤ 1000000000000) : span_Join_2 s t x y = 0 ∧ span_Join_0 s t x y = min s x ∧ span_Join_1 s t x y = max t y := by
  unfold span_Join_2 span_Join_0 span_Join_1 span_ends_int_0 span_ends_int_1
  rw [span_valid_eq, span_valid_eq, decide_eq_true h1, decide_eq_true h2, imax_max, imin_min]
  exact ⟨rfl, rfl, rfl⟩
theorem joinBox_eq {a b : List Int} (ha : VB a) (hb : VB b) :
    span_JoinBox_0 (a.getD 0 0) (a.getD 1 0) (a.getD 2 0) (a.getD 3 0) (b.getD 0 0) (b.getD 1 0) (b.getD 2 0) (b.getD 3 0) = min (a.getD 0 0) (b.getD 0 0) ∧
    span_JoinBox_1 (a.getD 0 0) (a.getD 1 0) (a.getD 2 0) (a.getD 3 0) (b.getD 0 0) (b.getD 1 0) (b.getD 2 0) (b.getD 3 0) = max (a.getD 1 0) (b.getD 1 0) ∧
    span_JoinBox_2 (a.getD 0 0) (a.getD 1 0) (a.getD 2 0) (a.getD 3 0) (b.getD 0 0) (b.getD 1 0) (b.getD 2 0) (b.getD 3 0) = min (a.getD 2 0) (b.getD 2 0) ∧
    span_JoinBox_3 (a.getD 0 0) (a.getD 1 0) (a.getD 2 0) (a.getD 3 0) (b.getD 0 0) (b.getD 1 0) (b.getD 2 0) (b.getD 3 0) = max (a.getD 3 0) (b.getD 3 0) ∧
    span_JoinBox_4 (a.getD 0 0) (a.getD 1 0) (a.getD 2 0) (a.getD 3 0) (b.getD 0 0) (b.getD 1 0) (b.getD 2 0) (b.getD 3 0) = 0 := by
  unfold span_JoinBox_4 span_JoinBox_3 span_JoinBox_2 span_JoinBox_1 span_JoinBox_0
  rw [vb_eq, vb_eq, decide_eq_true ha, decide_eq_true hb]
  unfold VB at ha hb
  obtain ⟨x1, x2, x3⟩ := join_eq (s := a.getD 0 0) (t := a.getD 1 0) (x := b.getD 0 0) (y := b.getD 1 0) (by omega) (by omega)
  obtain ⟨y1, y2, y3⟩ := join_eq (s := a.getD 2 0) (t := a.getD 3 0) (x := b.getD 2 0) (y := b.getD 3 0) (by omega) (by omega)
  rw [x1, x2, x3, y1, y2, y3, imax_max]
  exact ⟨rfl, rfl, rfl, rfl, rfl⟩
theorem joins_eq {a b : List Int} (ha : VB a) (hb : VB b) : drift_joins_0 (a.getD 0 0) (a.getD 1 0) (a.getD 2 0) (a.getD 3 0) (b.getD 0 0) (b.getD 1 0) (b.getD 2 0) (b.getD 3 0) = decide (JN a b) := by
  obtain ⟨j0, j1, j2, j3, _⟩ := joinBox_eq ha hb
  obtain ⟨m4, _⟩ := meetBox_eq ha hb
  unfold drift_joins_0
  rw [j0, j1, j2, j3, m4, Bool.eq_iff_iff, decide_eq_true_eq]
  unfold JN WB
  by_cases hm : MB a b
  · simp [hm]
    omega
  · simp [hm]
    omega
theorem JN_symm {a b : List Int} (h : JN a b) : JN b a := by
  unfold JN WB MB at *
  omega
theorem hb_j {x y : Int} {a b : List Int} (ha : VB a) (hb : VB b) (h : JN a b) : HB x y (jB a b) ↔ HB x y a ∨ HB x y b := by
  have := jB_get a b
  unfold JN WB MB at h
  unfold VB at ha hb
  unfold HB
  omega
theorem vb_j {a b : List Int} (ha : VB a) (hb : VB b) : VB (jB a b) := by
  have := jB_get a b
  unfold VB at *
  omega
/-- The first one behind i that can be joined with it. -/
def kOf (l : List (List Int)) (i : Nat) : Option Nat := (List.range l.length).find? fun k => decide (i < k) && decide (JN (l.getD i []) (l.getD k []))
/-- The first one that can be joined. -/
def iOf (l : List (List Int)) : Option Nat := (List.range l.length).find? fun i => (kOf l i).isSome
/-- Two are one. -/
def joinAt (l : List (List Int)) (i k : Nat) : List (List Int) := (l.set i (jB (l.getD i []) (l.getD k []))).eraseIdx k
/-- A set with the first two that can be joined as one. -/
def join1 (l : List (List Int)) : Option (List (List Int)) := (iOf l).bind fun i => (kOf l i).map fun k => joinAt l i k
def tidyN : Nat → List (List Int) → List (List Int)
  | 0, l => l
  | n + 1, l => match join1 l with | none => l | some l' => tidyN n l'
/-- A set, tidied. -/
def tid (l : List (List Int)) : List (List Int) := sortRows 4 [0, 2, 1, 3] (tidyN l.length l)
theorem kOf_some {l : List (List Int)} {i k : Nat} : kOf l i = some k ↔ (i < k ∧ k < l.length ∧ JN (l.getD i []) (l.getD k [])) ∧ ∀ j, j < k → ¬ (i < j ∧ JN (l.getD i []) (l.getD j [])) := by
  unfold kOf
  rw [List.find?_range_eq_some]
  simp only [Bool.and_eq_true, decide_eq_true_eq, List.mem_range, Bool.not_eq_true', Bool.and_eq_false_iff, decide_eq_false_iff_not]
  constructor
  · rintro ⟨⟨h1, h2⟩, h3, h4⟩
    exact ⟨⟨h1, h3, h2⟩, fun j hj h => (h4 j hj).elim (fun k => k h.1) (fun k => k h.2)⟩
  · rintro ⟨⟨h1, h3, h2⟩, h4⟩
    refine ⟨⟨h1, h2⟩, h3, fun j hj => ?_⟩
    by_cases h : i < j
    · exact .inr fun k => h4 j hj ⟨h, k⟩
    · exact .inl h
theorem kOf_none {l : List (List Int)} {i : Nat} : kOf l i = none ↔ ∀ k, k < l.length → ¬ (i < k ∧ JN (l.getD i []) (l.getD k [])) := by
  unfold kOf
  rw [List.find?_range_eq_none]
  simp only [Bool.not_eq_true', Bool.and_eq_false_iff, decide_eq_false_iff_not]
  constructor
  · intro h k hk ⟨h1, h2⟩
    exact (h k hk).elim (fun g => g h1) (fun g => g h2)
  · intro h k hk
    by_cases g : i < k
    · exact .inr fun h2 => h k hk ⟨g, h2⟩
    · exact .inl g
theorem join1_some {l l' : List (List Int)} (h : join1 l = some l') : ∃ i k, i < k ∧ k < l.length ∧ JN (l.getD i []) (l.getD k []) ∧ l' = joinAt l i k := by
  unfold join1 at h
  cases hi : iOf l with
  | none => rw [hi] at h; cases h
  | some i =>
    rw [hi] at h
    simp only [Option.bind_some] at h
    cases hk : kOf l i with
    | none => rw [hk] at h; cases h
    | some k =>
      rw [hk] at h
      cases h
      obtain ⟨⟨h1, h2, h3⟩, _⟩ := kOf_some.1 hk
      exact ⟨i, k, h1, h2, h3, rfl⟩
theorem join1_none {l : List (List Int)} (h : join1 l = none) : ∀ i k, i < k → k < l.length → ¬ JN (l.getD i []) (l.getD k []) := by
  intro i k hik hk hj
  have hi : iOf l = none := by
    cases hi : iOf l with
    | none => rfl
    | some i =>
      unfold join1 at h
      rw [hi] at h
      simp only [Option.bind_some] at h
      have := (List.find?_range_eq_some.1 hi).1
      cases hk : kOf l i with
      | none => rw [hk] at this; cases this
      | some k => rw [hk] at h; cases h
  unfold iOf at hi
  rw [List.find?_range_eq_none] at hi
  have := hi i (by omega)
  have hn : kOf l i = none := by
    cases h : kOf l i with
    | none => rfl
    | some _ => rw [h] at this; cases this
  exact kOf_none.1 hn k hk ⟨hik, hj⟩
theorem join1_of_none {l : List (List Int)} (h : ∀ i k, i < k → k < l.length → ¬ JN (l.getD i []) (l.getD k [])) : join1 l = none := by
  cases hj : join1 l with
  | none => rfl
  | some l' =>
    obtain ⟨i, k, h1, h2, h3, _⟩ := join1_some hj
    exact absurd h3 (h i k h1 h2)
theorem joinAt_length {l : List (List Int)} {i k : Nat} (hk : k < l.length) : (joinAt l i k).length = l.length - 1 := by
  unfold joinAt
  rw [List.length_eraseIdx, if_pos (by simpa using hk)]
  simp
theorem mem_joinAt {l : List (List Int)} {i k : Nat} (hik : i < k) (hk : k < l.length) {x : List Int} : x ∈ joinAt l i k ↔ x = jB (l.getD i []) (l.getD k []) ∨ ∃ m, m < l.length ∧ m ≠ i ∧ m ≠ k ∧ l.getD m [] = x := by
  unfold joinAt
  rw [List.mem_eraseIdx_iff_getElem]
  constructor
  · rintro ⟨m, hm, hmk, rfl⟩
    have hm' : m < l.length := by simpa using hm
    rw [List.getElem_set]
    by_cases h : i = m
    · rw [if_pos h]; exact .inl rfl
    · rw [if_neg h]
      exact .inr ⟨m, hm', fun e => h e.symm, hmk, by rw [List.getD_eq_getElem?_getD, List.getElem?_eq_getElem hm']; rfl⟩
  · rintro (rfl | ⟨m, hm, h1, h2, rfl⟩)
    · exact ⟨i, by simp; omega, by omega, by simp⟩
    · refine ⟨m, by simpa using hm, h2, ?_⟩
      rw [List.getElem_set, if_neg (fun e => h1 e.symm)]
      exact (show l.getD m [] = l[m] by rw [List.getD_eq_getElem?_getD, List.getElem?_eq_getElem hm]; rfl).symm
structure Tid (l l' : List (List Int)) : Prop where
  pos : 0 < l'.length
  le : l'.length ≤ l.length
  vb : ∀ b ∈ l', VB b
  four : (∀ b ∈ l, b.length = 4) → ∀ b ∈ l', b.length = 4
  has : ∀ x y, (∃ b ∈ l', HB x y b) ↔ ∃ b ∈ l, HB x y b
theorem Tid.refl {l : List (List Int)} (hp : 0 < l.length) (hv : ∀ b ∈ l, VB b) : Tid l l := ⟨hp, Nat.le_refl _, hv, fun h => h, fun _ _ => Iff.rfl⟩
theorem Tid.trans {a b c : List (List Int)} (h : Tid a b) (k : Tid b c) : Tid a c := ⟨k.pos, Nat.le_trans k.le h.le, k.vb, fun f => k.four (h.four f), fun x y => (k.has x y).trans (h.has x y)⟩
theorem tid_join {l : List (List Int)} {i k : Nat} (hv : ∀ b ∈ l, VB b) (hik : i < k) (hk : k < l.length) (hj : JN (l.getD i []) (l.getD k [])) : Tid l (joinAt l i k) := by
  have hi := getD_mem (show i < l.length by omega)
  have hk' := getD_mem hk
  refine ⟨by rw [joinAt_length hk]; omega, by rw [joinAt_length hk]; omega, fun b hb => ?_, fun f b hb => ?_, fun x y => ?_⟩
  · rcases (mem_joinAt hik hk).1 hb with rfl | ⟨m, hm, _, _, rfl⟩
    · exact vb_j (hv _ hi) (hv _ hk')
    · exact hv _ (getD_mem hm)
  · rcases (mem_joinAt hik hk).1 hb with rfl | ⟨m, hm, _, _, rfl⟩
    · rfl
    · exact f _ (getD_mem hm)
  · have hjb := hb_j (x := x) (y := y) (hv _ hi) (hv _ hk') hj
    constructor
    · rintro ⟨b, hb, h⟩
      rcases (mem_joinAt hik hk).1 hb with rfl | ⟨m, hm, _, _, rfl⟩
      · rcases hjb.1 h with h | h
        · exact ⟨_, hi, h⟩
        · exact ⟨_, hk', h⟩
      · exact ⟨_, getD_mem hm, h⟩
    · rintro ⟨b, hb, h⟩
      obtain ⟨m, hm, rfl⟩ := getD_of_mem hb
      by_cases e : m = i
      · subst e; exact ⟨_, (mem_joinAt hik hk).2 (.inl rfl), hjb.2 (.inl h)⟩
      · by_cases e2 : m = k
        · subst e2; exact ⟨_, (mem_joinAt hik hk).2 (.inl rfl), hjb.2 (.inr h)⟩
        · exact ⟨_, (mem_joinAt hik hk).2 (.inr ⟨m, hm, e, e2, rfl⟩), h⟩
theorem tidyN_tid : ∀ (n : Nat) (l : List (List Int)), 0 < l.length → (∀ b ∈ l, VB b) → Tid l (tidyN n l)
  | 0, l, hp, hv => Tid.refl hp hv
  | n + 1, l, hp, hv => by
    unfold tidyN
    cases h : join1 l with
    | none => exact Tid.refl hp hv
    | some l' =>
      obtain ⟨i, k, h1, h2, h3, rfl⟩ := join1_some h
      have t := tid_join hv h1 h2 h3
      exact t.trans (tidyN_tid n _ t.pos t.vb)
theorem tidyN_none : ∀ (n : Nat) (l : List (List Int)), l.length ≤ n + 1 → join1 (tidyN n l) = none
  | 0, l, h => by
    refine join1_of_none fun i k hik hk => ?_
    have : (tidyN 0 l).length = l.length := rfl
    omega
  | n + 1, l, h => by
    unfold tidyN
    cases hj : join1 l with
    | none => exact hj
    | some l' =>
      obtain ⟨i, k, h1, h2, h3, rfl⟩ := join1_some hj
      exact tidyN_none n _ (by rw [joinAt_length h2]; omega)
theorem tidyN_id {n : Nat} {l : List (List Int)} (h : join1 l = none) : tidyN n l = l := by
  cases n with
  | zero => rfl
  | succ n => unfold tidyN; rw [h]
/-- No two can be joined. -/
def Apart (l : List (List Int)) : Prop := l.Pairwise fun a b => ¬ JN a b
theorem apart_iff {l : List (List Int)} : Apart l ↔ ∀ i k, i < k → k < l.length → ¬ JN (l.getD i []) (l.getD k []) := by
  unfold Apart
  rw [List.pairwise_iff_getElem]
  constructor
  · intro h i k hik hk
    have := h i k (by omega) hk hik
    rw [List.getD_eq_getElem?_getD, List.getD_eq_getElem?_getD, List.getElem?_eq_getElem hk, List.getElem?_eq_getElem (show i < l.length by omega)]
    exact this
  · intro h i k hi hk hik
    have := h i k hik hk
    rw [List.getD_eq_getElem?_getD, List.getD_eq_getElem?_getD, List.getElem?_eq_getElem hk, List.getElem?_eq_getElem hi] at this
    exact this
theorem apart_perm {a b : List (List Int)} (h : a.Perm b) (ha : Apart a) : Apart b := (h.pairwise_iff (fun h k => h (JN_symm k))).1 ha
theorem le4_anti {a b : List Int} (ha : a.length = 4) (hb : b.length = 4) (h : leL [0, 2, 1, 3] a b = true) (k : leL [0, 2, 1, 3] b a = true) : a = b := by
  have := leL_anti _ _ _ h k
  have e := norm_ext (n := 4) (a := a) (b := b) (fun j hj => this j (by
    have : j = 0 ∨ j = 1 ∨ j = 2 ∨ j = 3 := by omega
    rcases this with rfl | rfl | rfl | rfl <;> simp))
  rwa [norm_eq ha, norm_eq hb] at e
theorem sort_tid {l : List (List Int)} (hp : 0 < l.length) (hv : ∀ b ∈ l, VB b) (h4 : ∀ b ∈ l, b.length = 4) : Tid l (sortRows 4 [0, 2, 1, 3] l) ∧ (sortRows 4 [0, 2, 1, 3] l).Perm l := by
  have e : sortRows 4 [0, 2, 1, 3] l = isort (leL [0, 2, 1, 3]) l := by unfold sortRows; rw [map_norm h4]
  rw [e]
  have hm : ∀ b, b ∈ isort (leL [0, 2, 1, 3]) l ↔ b ∈ l := fun b => isort_mem
  refine ⟨⟨by rw [isort_length]; exact hp, by rw [isort_length]; exact Nat.le_refl _, fun b hb => hv b ((hm b).1 hb), fun f b hb => f b ((hm b).1 hb), fun x y => ?_⟩, isort_perm l⟩
  constructor
  · rintro ⟨b, hb, h⟩; exact ⟨b, (hm b).1 hb, h⟩
  · rintro ⟨b, hb, h⟩; exact ⟨b, (hm b).2 hb, h⟩
structure Tidy (l l' : List (List Int)) : Prop extends Tid l l' where
  vl : VL l'
  f4 : ∀ b ∈ l', b.length = 4
  apart : Apart l'
  fix : tid l' = l'
theorem tid_is {l : List (List Int)} (hl : VL l) (h4 : ∀ b ∈ l, b.length = 4) : Tidy l (tid l) := by
  have t := tidyN_tid l.length l hl.1 hl.2.2
  obtain ⟨s, p⟩ := sort_tid t.pos t.vb (t.four h4)
  have ts := t.trans s
  have hn := tidyN_none l.length l (Nat.le_succ _)
  have ha : Apart (tid l) := apart_perm p.symm (apart_iff.2 (join1_none hn))
  have hf4 : ∀ b ∈ tid l, b.length = 4 := ts.four h4
  refine ⟨ts, ⟨ts.pos, Nat.le_trans ts.le hl.2.1, ts.vb⟩, hf4, ha, ?_⟩
  show sortRows 4 [0, 2, 1, 3] (tidyN (tid l).length (tid l)) = tid l
  rw [tidyN_id (join1_of_none (apart_iff.1 ha))]
  unfold sortRows
  rw [map_norm hf4]
  refine isort_fix (leL_total _) (leL_trans _) (fun a ha b hb h k => le4_anti (hf4 a ha) (hf4 b hb) h k) ?_
  show (isort (leL [0, 2, 1, 3]) _).Pairwise _
  exact isort_sorted (leL_total _) (leL_trans _) _
end Go.Proofs.Ytddfnokjnafdpaa
