/-
  The examples of the chapter.
-/
import Derived.Test.YtddfnokjnafdpaaDriftX
import Derived.Test.YtddfnokjnafdpaaDriftY
import Derived.Test.YtddfnokjnafdpaaDriftED
set_option linter.unusedVariables false
set_option maxRecDepth 100000
namespace Go.Proofs.Ytddfnokjnafdpaa
open Go Go.Sy

def hF : List (List Int) := [[0, 60, -10, 50, 0, 0], [60, 100, 100, 100, -25, 30]]
def hG : List (List Int) := [[50, 70, 0, 100, 0, 5]]
def hT : List (List Int) := [[0, 5, 0, 5], [9, 9, 1, 1], [5, 9, 0, 5]]
theorem hF6 : ∀ c ∈ hF, c.length = 6 := by decide
theorem hG6 : ∀ c ∈ hG, c.length = 6 := by decide
theorem hT4 : ∀ c ∈ hT, c.length = 4 := by decide
theorem h_sum : drift_Sum_pre 0 70 hF ∧ drift_Sum_4 0 70 hF = 0 ∧ drift_Sum_0 0 70 hF = 400 ∧ drift_Sum_1 0 70 hF = 4000 ∧ drift_Sum_2 0 70 hF = -250 ∧ drift_Sum_3 0 70 hF = 300 := by
  obtain ⟨h, h4, h0, h1, h2, h3⟩ := sum_is 0 70 hF (by decide)
  refine ⟨h, h4.trans (by decide), h0.trans (by decide), h1.trans (by decide), h2.trans (by decide), h3.trans (by decide)⟩
theorem h_move : drift_Move_pre 0 70 [[0, 10, 0, 10]] hF ∧ drift_Move_1 0 70 [[0, 10, 0, 10]] hF = 0 ∧ drift_Move_0 0 70 [[0, 10, 0, 10]] hF = [[4, 50, -3, 13]] := by
  obtain ⟨h, h1, h0⟩ := move_is 0 70 [[0, 10, 0, 10]] hF (by decide)
  exact ⟨h, h1.trans (by decide), h0.trans (by decide)⟩
theorem h_move2 : drift_Move_pre 50 101 [[0, 10, 0, 10]] hF ∧ drift_Move_1 50 101 [[0, 10, 0, 10]] hF = 4 := by
  obtain ⟨h, h1, h0⟩ := move_is 50 101 [[0, 10, 0, 10]] hF (by decide)
  exact ⟨h, h1.trans (by decide)⟩
theorem h_all : drift_Allows_pre 0 70 0 0 40 (-2) hF ∧ drift_Allows_1 0 70 0 0 40 (-2) hF = 0 ∧ drift_Allows_0 0 70 0 0 40 (-2) hF = true := by
  obtain ⟨h, h1, h0⟩ := allows_is 0 70 0 0 40 (-2) hF (by decide)
  exact ⟨h, h1.trans (by decide), h0.trans (by decide)⟩
theorem h_all2 : drift_Allows_pre 0 70 0 0 41 0 hF ∧ drift_Allows_1 0 70 0 0 41 0 hF = 0 ∧ drift_Allows_0 0 70 0 0 41 0 hF = false := by
  obtain ⟨h, h1, h0⟩ := allows_is 0 70 0 0 41 0 hF (by decide)
  exact ⟨h, h1.trans (by decide), h0.trans (by decide)⟩
theorem h_tidy : drift_Tidy_pre hT ∧ drift_Tidy_1 hT = 0 ∧ drift_Tidy_0 hT = [[0, 9, 0, 5]] := by
  obtain ⟨h, h1, h0⟩ := tidy_is hT hT4
  exact ⟨h, h1.trans (by decide), h0.trans (by decide +kernel)⟩
theorem h_better : drift_Better_pre hF hG ∧ drift_Better_1 hF hG = 0 ∧ drift_Better_0 hF hG = [[0, 50, -10, 50, 0, 0], [50, 60, 0, 50, 0, 0], [60, 70, 100, 100, 0, 5], [70, 100, 100, 100, -25, 30]] := by
  obtain ⟨h, h1, h0⟩ := better_is hF hG (by decide) (by decide) hF6 hG6
  exact ⟨h, h1.trans (by decide +kernel), h0.trans (by decide +kernel)⟩
theorem head_ok : law23_head_0 = true ∧ law23_head_pre := by
  obtain ⟨s, s4, s0, s1, s2, s3⟩ := h_sum
  obtain ⟨m, m1, m0⟩ := h_move
  obtain ⟨n, n1⟩ := h_move2
  obtain ⟨a, a1, a0⟩ := h_all
  obtain ⟨c, c1, c0⟩ := h_all2
  obtain ⟨t, t1, t0⟩ := h_tidy
  obtain ⟨b, b1, b0⟩ := h_better
  have e5 : law23_head_s5 = 0 := s4
  have e6 : law23_head_s6 = 0 := m1
  have e7 : law23_head_s7 = 0 := a1
  have e8 : law23_head_s8 = 0 := c1
  have e9 : law23_head_s9 = 4 := n1
  have e10 : law23_head_s10 = 0 := b1
  have e11 : law23_head_s11 = 400 := s0
  have e12 : law23_head_s12 = 4000 := s1
  have e13 : law23_head_s13 = -250 := s2
  have e14 : law23_head_s14 = 300 := s3
  have e15 : law23_head_s15 = [[4, 50, -3, 13]] := m0
  have e18 : law23_head_s18 = [[0, 50, -10, 50, 0, 0], [50, 60, 0, 50, 0, 0], [60, 70, 100, 100, 0, 5], [70, 100, 100, 100, -25, 30]] := b0
  have et1 : drift_Tidy_1 [law23_head_s2, law23_head_s3, law23_head_s4] = 0 := t1
  have et0 : drift_Tidy_0 [law23_head_s2, law23_head_s3, law23_head_s4] = [[0, 9, 0, 5]] := t0
  have x17 : [law23_head_s17] = [[0, 9, 0, 5]] := rfl
  have x16 : [law23_box_0 4 50 (-3) 13 :: law23_head_s16] = [[4, 50, -3, 13]] := rfl
  have x21 : law23_head_s21 = [[0, 50, -10, 50, 0, 0], [50, 60, 0, 50, 0, 0], [60, 70, 100, 100, 0, 5], [70, 100, 100, 100, -25, 30]] := rfl
  have sA := same_eq (a := [[4, 50, -3, 13]]) (b := [[4, 50, -3, 13]]) (by decide) (by decide) (by decide)
  have sB := same_eq (a := [[0, 9, 0, 5]]) (b := [[0, 9, 0, 5]]) (by decide) (by decide) (by decide)
  have sC := flows_eq (a := [[0, 50, -10, 50, 0, 0], [50, 60, 0, 50, 0, 0], [60, 70, 100, 100, 0, 5], [70, 100, 100, 100, -25, 30]]) (b := [[0, 50, -10, 50, 0, 0], [50, 60, 0, 50, 0, 0], [60, 70, 100, 100, 0, 5], [70, 100, 100, 100, -25, 30]]) (by decide) (by decide) (by decide)
  have f1 : drift_Allows_0 0 70 0 0 40 (-2) ([0, 60, law23_of_0 (-10) 50, law23_of_1 (-10) 50, 0, 0] :: law23_head_s0) = true := a0
  have f2 : drift_Allows_0 0 70 0 0 41 0 ([0, 60, law23_of_0 (-10) 50, law23_of_1 (-10) 50, 0, 0] :: law23_head_s0) = false := c0
  constructor
  · unfold law23_head_0
    rw [e5, e6, e7, e8, e9, e10, e11, e12, e13, e14, e15, e18, et1, et0, x17, x16, x21, f1, f2, sA, sB, sC]
    decide
  · have pA := (same_is [[4, 50, -3, 13]] [[4, 50, -3, 13]] (by decide)).1
    have pB := (same_is [[0, 9, 0, 5]] [[0, 9, 0, 5]] (by decide)).1
    have pC := (flows_is [[0, 50, -10, 50, 0, 0], [50, 60, 0, 50, 0, 0], [60, 70, 100, 100, 0, 5], [70, 100, 100, 100, -25, 30]] [[0, 50, -10, 50, 0, 0], [50, 60, 0, 50, 0, 0], [60, 70, 100, 100, 0, 5], [70, 100, 100, 100, -25, 30]] (by decide)).1
    unfold law23_head_pre
    rw [e15, e18, et0, x17, x16, x21]
    exact ⟨s, m, a, c, n, t, b, fun hA => ⟨fun hB => ⟨hA, fun _ => pA, hB, fun _ => pB, fun _ => pC⟩, fun hB => ⟨hA, fun _ => pA, hB⟩⟩, fun hA => hA⟩
end Go.Proofs.Ytddfnokjnafdpaa
