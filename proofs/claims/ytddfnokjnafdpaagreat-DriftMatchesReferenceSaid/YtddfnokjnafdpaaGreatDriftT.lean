/- Several texts in one (wip/merge.py): XDriftH XDriftT. -/
import Derived.Test.YtddfnokjnafdpaaGreatDriftX
import Derived.Test.YtddfnokjnafdpaaGreatDriftJD
import Derived.Test.YtddfnokjnafdpaaGreatDriftO
/-!
  The examples of the chapter.
-/
set_option linter.unusedVariables false
set_option maxRecDepth 100000
namespace Go.Proofs.YtddfnokjnafdpaaGreat
open Go Go.Sy

def hF : List (List Int) := [[0, 60, -10, 50, 0, 0], [60, 100, 100, 100, -25, 30]]
def hG : List (List Int) := [[50, 70, 0, 100, 0, 5]]
def hT : List (List Int) := [[0, 5, 0, 5], [9, 9, 1, 1], [5, 9, 0, 5]]
theorem hF6 : ∀ c ∈ hF, c.length = 6 := by decide
theorem hG6 : ∀ c ∈ hG, c.length = 6 := by decide
theorem hT4 : ∀ c ∈ hT, c.length = 4 := by decide
theorem h_sum : drift_Sum_pre 0 70 hF ∧ drift_Sum_4 0 70 hF = 0 ∧ drift_Sum_0 0 70 hF = 400 ∧ drift_Sum_1 0 70 hF = 4000 ∧ drift_Sum_2 0 70 hF = -250 ∧ drift_Sum_3 0 70 hF = 300 := by
  obtain ⟨h, h4, h0, h1, h2, h3⟩ := sum_is 0 70 hF (by decide)
  refine ⟨h, h4.trans (by decide), h0.trans (by decide), h1.trans (by decide), h2.trans (by decide), h3.trans (by decide)⟩
theorem h_move : drift_Move_pre 0 70 [[0, 10, 0, 10]] hF ∧ drift_Move_1 0 70 [[0, 10, 0, 10]] hF = 0 ∧ drift_Move_0 0 70 [[0, 10, 0, 10]] hF = [[4, 50, -3, 13]] := by
  obtain ⟨h, h1, h0⟩ := move_is 0 70 [[0, 10, 0, 10]] hF (by decide)
  exact ⟨h, h1.trans (by decide), h0.trans (by decide)⟩
theorem h_move2 : drift_Move_pre 50 101 [[0, 10, 0, 10]] hF ∧ drift_Move_1 50 101 [[0, 10, 0, 10]] hF = 4 := by
  obtain ⟨h, h1, h0⟩ := move_is 50 101 [[0, 10, 0, 10]] hF (by decide)
  exact ⟨h, h1.trans (by decide)⟩
theorem h_all : drift_Allows_pre 0 70 0 0 40 (-2) hF ∧ drift_Allows_1 0 70 0 0 40 (-2) hF = 0 ∧ drift_Allows_0 0 70 0 0 40 (-2) hF = true := by
  obtain ⟨h, h1, h0⟩ := allows_is 0 70 0 0 40 (-2) hF (by decide)
  exact ⟨h, h1.trans (by decide), h0.trans (by decide)⟩
theorem h_all2 : drift_Allows_pre 0 70 0 0 41 0 hF ∧ drift_Allows_1 0 70 0 0 41 0 hF = 0 ∧ drift_Allows_0 0 70 0 0 41 0 hF = false := by
  obtain ⟨h, h1, h0⟩ := allows_is 0 70 0 0 41 0 hF (by decide)
  exact ⟨h, h1.trans (by decide), h0.trans (by decide)⟩
theorem h_tidy : drift_Tidy_pre hT ∧ drift_Tidy_1 hT = 0 ∧ drift_Tidy_0 hT = [[0, 9, 0, 5]] := by
  obtain ⟨h, h1, h0⟩ := tidy_is hT hT4
  exact ⟨h, h1.trans (by decide), h0.trans (by decide +kernel)⟩
theorem h_better : drift_Better_pre hF hG ∧ drift_Better_1 hF hG = 0 ∧ drift_Better_0 hF hG = [[0, 50, -10, 50, 0, 0], [50, 60, 0, 50, 0, 0], [60, 70, 100, 100, 0, 5], [70, 100, 100, 100, -25, 30]] := by
  obtain ⟨h, h1, h0⟩ := better_is hF hG (by decide) (by decide) hF6 hG6
  exact ⟨h, h1.trans (by decide +kernel), h0.trans (by decide +kernel)⟩
theorem head_ok : law23_head_0 = true ∧ law23_head_pre := by
  obtain ⟨s, s4, s0, s1, s2, s3⟩ := h_sum
  obtain ⟨m, m1, m0⟩ := h_move
  obtain ⟨n, n1⟩ := h_move2
  obtain ⟨a, a1, a0⟩ := h_all
  obtain ⟨c, c1, c0⟩ := h_all2
  obtain ⟨t, t1, t0⟩ := h_tidy
  obtain ⟨b, b1, b0⟩ := h_better
  have e5 : law23_head_s5 = 0 := s4
  have e6 : law23_head_s6 = 0 := m1
  have e7 : law23_head_s7 = 0 := a1
  have e8 : law23_head_s8 = 0 := c1
  have e9 : law23_head_s9 = 4 := n1
  have e10 : law23_head_s10 = 0 := b1
  have e11 : law23_head_s11 = 400 := s0
  have e12 : law23_head_s12 = 4000 := s1
  have e13 : law23_head_s13 = -250 := s2
  have e14 : law23_head_s14 = 300 := s3
  have e15 : law23_head_s15 = [[4, 50, -3, 13]] := m0
  have e18 : law23_head_s18 = [[0, 50, -10, 50, 0, 0], [50, 60, 0, 50, 0, 0], [60, 70, 100, 100, 0, 5], [70, 100, 100, 100, -25, 30]] := b0
  have et1 : drift_Tidy_1 [law23_head_s2, law23_head_s3, law23_head_s4] = 0 := t1
  have et0 : drift_Tidy_0 [law23_head_s2, law23_head_s3, law23_head_s4] = [[0, 9, 0, 5]] := t0
  have x17 : [law23_head_s17] = [[0, 9, 0, 5]] := rfl
  have x16 : [law23_box_0 4 50 (-3) 13 :: law23_head_s16] = [[4, 50, -3, 13]] := rfl
  have x21 : law23_head_s21 = [[0, 50, -10, 50, 0, 0], [50, 60, 0, 50, 0, 0], [60, 70, 100, 100, 0, 5], [70, 100, 100, 100, -25, 30]] := rfl
  have sA := same_eq (a := [[4, 50, -3, 13]]) (b := [[4, 50, -3, 13]]) (by decide) (by decide) (by decide)
  have sB := same_eq (a := [[0, 9, 0, 5]]) (b := [[0, 9, 0, 5]]) (by decide) (by decide) (by decide)
  have sC := flows_eq (a := [[0, 50, -10, 50, 0, 0], [50, 60, 0, 50, 0, 0], [60, 70, 100, 100, 0, 5], [70, 100, 100, 100, -25, 30]]) (b := [[0, 50, -10, 50, 0, 0], [50, 60, 0, 50, 0, 0], [60, 70, 100, 100, 0, 5], [70, 100, 100, 100, -25, 30]]) (by decide) (by decide) (by decide)
  have f1 : drift_Allows_0 0 70 0 0 40 (-2) ([0, 60, law23_of_0 (-10) 50, law23_of_1 (-10) 50, 0, 0] :: law23_head_s0) = true := a0
  have f2 : drift_Allows_0 0 70 0 0 41 0 ([0, 60, law23_of_0 (-10) 50, law23_of_1 (-10) 50, 0, 0] :: law23_head_s0) = false := c0
  constructor
  · unfold law23_head_0
    rw [e5, e6, e7, e8, e9, e10, e11, e12, e13, e14, e15, e18, et1, et0, x17, x16, x21, f1, f2, sA, sB, sC]
    decide
  · have pA := (same_is [[4, 50, -3, 13]] [[4, 50, -3, 13]] (by decide)).1
    have pB := (same_is [[0, 9, 0, 5]] [[0, 9, 0, 5]] (by decide)).1
    have pC := (flows_is [[0, 50, -10, 50, 0, 0], [50, 60, 0, 50, 0, 0], [60, 70, 100, 100, 0, 5], [70, 100, 100, 100, -25, 30]] [[0, 50, -10, 50, 0, 0], [50, 60, 0, 50, 0, 0], [60, 70, 100, 100, 0, 5], [70, 100, 100, 100, -25, 30]] (by decide)).1
    unfold law23_head_pre
    rw [e15, e18, et0, x17, x16, x21]
    exact ⟨s, m, a, c, n, t, b, fun hA => ⟨fun hB => ⟨hA, fun _ => pA, hB, fun _ => pB, fun _ => pC⟩, fun hB => ⟨hA, fun _ => pA, hB⟩⟩, fun hA => hA⟩
end Go.Proofs.YtddfnokjnafdpaaGreat

/-!
  DriftMatchesReference, as far as what the functions compute.
-/
set_option linter.unusedVariables false
set_option linter.unusedSimpArgs false
set_option maxRecDepth 100000
namespace Go.Proofs.YtddfnokjnafdpaaGreat
open Go Go.Sy

theorem rowLe {W : World} {own : Bool} {e : TypeId} {k : Nat} {v : Value} {n : Nat} {vs : List Value} (h : RowOk W own e k v n vs) : n ≤ 9223372036854775807 := by
  obtain ⟨a, c, _, h1, h2⟩ := h.reads.is
  unfold maxLen at h2
  omega
theorem same_self (a : List (List Int)) (h : a.length ≤ 1000) : ref23_Same_pre a a ∧ ref23_Same_0 a a = true := by
  obtain ⟨h1, h2⟩ := same_is a a (by omega)
  exact ⟨h1, h2.2 ⟨rfl, fun i _ => by simp [same4]⟩⟩
theorem flows_self (a : List (List Int)) (h : a.length ≤ 1000) : ref23_Flows_pre a a ∧ ref23_Flows_0 a a = true := by
  obtain ⟨h1, h2⟩ := flows_is a a (by omega)
  exact ⟨h1, h2.2 ⟨rfl, fun i _ => by simp [same6]⟩⟩
theorem moveL_len (f u : Int) (l c : List (List Int)) : (moveL f u l c).length ≤ 1000 := by
  unfold moveL
  split
  · rename_i h
    have := (moveE_ok h).1.2.1
    rw [List.length_map]; omega
  · simp
theorem cutL_len (b : List Int) (l : List (List Int)) : (cutL b l).length ≤ 1000 := by
  unfold cutL
  split
  · rename_i h
    unfold cutE at h
    split at h
    · cases h
    · rename_i hv
      have hv := not_or.1 hv
      have := (Classical.not_not.1 hv.1).2.1
      have := cutP_len b l
      omega
  · simp
theorem tidL_len (l : List (List Int)) : (tidL l).length ≤ 1000 := by
  unfold tidL
  split
  · rename_i h
    have := (tidyN_tid l.length l h.1 h.2.2).le
    have := h.2.1
    unfold tid sortRows
    rw [isort_length, List.length_map]; omega
  · simp
theorem betL_len (a b : List (List Int)) : (betL a b).length ≤ 1000 := by
  by_cases h : betE a b = 0
  · obtain ⟨h1, h2, _⟩ := bet_ok h
    have := h1.2
    omega
  · have : betL a b = [] := if_neg h
    rw [this]
    simp
theorem driftMatches_ok (f u px py qx qy c0 c1 c2 c3 : Int) (list a b : List (List Int)) (hla : a.length ≤ 9223372036854775807) (hlb : b.length ≤ 9223372036854775807) (h4 : ∀ r ∈ list, r.length = 4) (ha6 : ∀ c ∈ a, c.length = 6) (hb6 : ∀ c ∈ b, c.length = 6) :
    law23_DriftMatchesReference_0 f u px py qx qy c0 c1 c2 c3 list a b = true ∧ law23_DriftMatchesReference_pre f u px py qx qy c0 c1 c2 c3 list a b := by
  obtain ⟨hh, hp⟩ := head_ok
  have v := valid_is list
  have rv := rvalid_is list
  have c := currents_is a hla
  have rc := rcurrents_is a
  obtain ⟨s0, s1, s2, s3, s4, s5⟩ := sum_is f u a hla
  obtain ⟨t0, t1, t2, t3, t4, t5⟩ := rsum_is f u a
  obtain ⟨m0, m1, m2⟩ := move_is f u list a hla
  obtain ⟨n0, n1, n2⟩ := rmove_is f u list a
  obtain ⟨a0, a1, a2⟩ := allows_is f u px py qx qy a hla
  obtain ⟨b0, b1, b2⟩ := rallows_is f u px py qx qy a
  obtain ⟨x0, x1, x2⟩ := cut_is c0 c1 c2 c3 list
  obtain ⟨y0, y1, y2⟩ := rcut_is c0 c1 c2 c3 list
  obtain ⟨i0, i1, i2⟩ := in_is px py list
  obtain ⟨j0, j1, j2⟩ := rin_is px py list
  obtain ⟨d0, d1, d2⟩ := tidy_is list h4
  obtain ⟨e0, e1, e2⟩ := rtidy_is list h4
  obtain ⟨g0, g1, g2⟩ := better_is a b hla hlb ha6 hb6
  obtain ⟨k0, k1, k2⟩ := rbetter_is a b
  have S1 := same_self (moveL f u list a) (moveL_len f u list a)
  have S2 := same_self (cutL [c0, c1, c2, c3] list) (cutL_len _ _)
  have S3 := same_self (tidL list) (tidL_len _)
  have S4 := flows_self (betL a b) (betL_len _ _)
  unfold law23_DriftMatchesReference_0 law23_DriftMatchesReference_pre
  rw [m2, n2, x2, y2, d2, e2, g2, k2]
  refine ⟨?_, ⟨hp, fun _ => v.1, fun _ => rv.1, fun _ => c.1, fun _ => rc.1, s0, t0, m0, n0, fun _ => S1.1, a0, b0, x0, y0, fun _ => S2.1, i0, j0, d0, e0, fun _ => S3.1, g0, k0, fun _ => S4.1⟩⟩
  rw [hh, v.2, rv.2, c.2, rc.2, s1, s2, s3, s4, s5, t1, t2, t3, t4, t5, m1, n1, a1, a2, b1, b2, x1, y1, i1, i2, j1, j2, d1, e1, g1, k1, S1.2, S2.2, S3.2, S4.2]
  simp
end Go.Proofs.YtddfnokjnafdpaaGreat
