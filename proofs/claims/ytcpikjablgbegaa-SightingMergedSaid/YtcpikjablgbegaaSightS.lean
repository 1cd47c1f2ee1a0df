/-
  Spans, boxes and places as package span has them, said plainly.
-/
import Derived.Test.YtcpikjablgbegaaSight2D
import Derived.Test.YtcpikjablgbegaaSightC
namespace Go.Proofs.Ytcpikjablgbegaa
open Go Go.Sy

def V (a b : Int) : Prop := -1000000000000 ≤ a ∧ a ≤ b ∧ b ≤ 1000000000000
instance (a b : Int) : Decidable (V a b) := by unfold V; infer_instance
def Bx (a b c d : Int) : Prop := -1000000 ≤ a ∧ a ≤ b ∧ b ≤ 1000000 ∧ -1000000 ≤ c ∧ c ≤ d ∧ d ≤ 1000000
instance (a b c d : Int) : Decidable (Bx a b c d) := by unfold Bx; infer_instance

theorem imin_min (x y : Int) : imin x y = min x y := by unfold imin; split <;> omega
theorem imax_max (x y : Int) : imax x y = max x y := by unfold imax; split <;> omega
theorem mx1 : max (0 : Int) 4 = 4 := rfl
theorem mx2 : max (4 : Int) 0 = 4 := rfl
theorem wrap_in {x : Int} (h : -9223372036854775808 ≤ x ∧ x ≤ 9223372036854775807) : IntKind.i64.wrap x = x := i64_wrap h
theorem valid_true {a b : Int} (h : V a b) : span_Valid_0 a b = true := by
  unfold V at h; unfold span_Valid_0; simp; omega
theorem valid_false {a b : Int} (h : ¬ V a b) : span_Valid_0 a b = false := by
  unfold V at h
  cases hb : span_Valid_0 a b with
  | false => rfl
  | true => unfold span_Valid_0 at hb; simp at hb; omega
theorem valid_dec (a b : Int) : span_Valid_0 a b = decide (V a b) := by
  by_cases h : V a b
  · rw [valid_true h]; simp [h]
  · rw [valid_false h]; simp [h]

theorem sub_cases (a b c d : Int) :
    (V a b ∧ V c d ∧ V (a - d) (b - c) ∧ span_Sub_0 a b c d = a - d ∧ span_Sub_1 a b c d = b - c ∧ span_Sub_2 a b c d = 0) ∨
    (V a b ∧ V c d ∧ ¬ V (a - d) (b - c) ∧ span_Sub_0 a b c d = 0 ∧ span_Sub_1 a b c d = 0 ∧ span_Sub_2 a b c d = 3) ∨
    (¬ (V a b ∧ V c d) ∧ span_Sub_0 a b c d = 0 ∧ span_Sub_1 a b c d = 0 ∧ span_Sub_2 a b c d = 1) := by
  unfold span_Sub_0 span_Sub_1 span_Sub_2 span_kept_0 span_kept_1 span_kept_2
  by_cases h1 : V a b <;> by_cases h2 : V c d
  · have e1 : IntKind.i64.wrap (a - d) = a - d := wrap_in (by unfold V at *; omega)
    have e2 : IntKind.i64.wrap (b - c) = b - c := wrap_in (by unfold V at *; omega)
    rw [e1, e2]
    by_cases h3 : V (a - d) (b - c) <;> simp [valid_dec, h1, h2, h3]
  all_goals simp [valid_dec, h1, h2]
theorem meet_cases (a b c d : Int) :
    (V a b ∧ V c d ∧ max a c ≤ min b d ∧ span_Meet_0 a b c d = max a c ∧ span_Meet_1 a b c d = min b d ∧ span_Meet_2 a b c d = 0) ∨
    (V a b ∧ V c d ∧ min b d < max a c ∧ span_Meet_0 a b c d = 0 ∧ span_Meet_1 a b c d = 0 ∧ span_Meet_2 a b c d = 4) ∨
    (¬ (V a b ∧ V c d) ∧ span_Meet_0 a b c d = 0 ∧ span_Meet_1 a b c d = 0 ∧ span_Meet_2 a b c d = 1) := by
  unfold span_Meet_0 span_Meet_1 span_Meet_2
  rw [imin_min, imax_max]
  by_cases h1 : V a b <;> by_cases h2 : V c d
  · by_cases h3 : min b d < max a c
    · simp [valid_dec, h1, h2, h3]
    · have h4 : max a c ≤ min b d := by omega
      simp [valid_dec, h1, h2, h3, h4]
  all_goals simp [valid_dec, h1, h2]
theorem join_cases (a b c d : Int) :
    (V a b ∧ V c d ∧ span_Join_0 a b c d = min a c ∧ span_Join_1 a b c d = max b d ∧ span_Join_2 a b c d = 0) ∨
    (¬ (V a b ∧ V c d) ∧ span_Join_0 a b c d = 0 ∧ span_Join_1 a b c d = 0 ∧ span_Join_2 a b c d = 1) := by
  unfold span_Join_0 span_Join_1 span_Join_2 span_ends_int_0 span_ends_int_1
  rw [imin_min, imax_max]
  by_cases h1 : V a b <;> by_cases h2 : V c d <;> simp [valid_dec, h1, h2]
theorem within_cases (a b c d : Int) :
    (V a b ∧ V c d ∧ span_Within_0 a b c d = decide (c ≤ a ∧ b ≤ d) ∧ span_Within_1 a b c d = 0) ∨
    (¬ (V a b ∧ V c d) ∧ span_Within_0 a b c d = false ∧ span_Within_1 a b c d = 1) := by
  unfold span_Within_0 span_Within_1 span_ends_int_0 span_ends_int_1
  rw [imin_min, imax_max]
  by_cases h1 : V a b <;> by_cases h2 : V c d
  · left
    refine ⟨h1, h2, ?_, by simp [valid_dec, h1, h2]⟩
    rw [Bool.eq_iff_iff]
    simp [valid_dec, h1, h2]
    unfold V at *
    omega
  all_goals (right; simp [valid_dec, h1, h2])
theorem validBox_dec (a b c d : Int) : span_ValidBox_0 a b c d = decide (Bx a b c d) := by
  have hall : V (-1000000) 1000000 := by unfold V; omega
  unfold span_ValidBox_0
  by_cases h : Bx a b c d
  · rcases within_cases a b (-1000000) 1000000 with ⟨_, _, e0, e1⟩ | ⟨h', _⟩
    · rcases within_cases c d (-1000000) 1000000 with ⟨_, _, e2, e3⟩ | ⟨h', _⟩
      · rw [e0, e1, e2, e3, Bool.eq_iff_iff]
        simp [h]
        unfold Bx at h
        omega
      · exact absurd ⟨by unfold Bx V at *; omega, hall⟩ h'
    · exact absurd ⟨by unfold Bx V at *; omega, hall⟩ h'
  · simp only [h, decide_false]
    rcases within_cases a b (-1000000) 1000000 with ⟨h1, _, e0, e1⟩ | ⟨_, e0, e1⟩ <;> rcases within_cases c d (-1000000) 1000000 with ⟨h2, _, e2, e3⟩ | ⟨_, e2, e3⟩ <;> rw [e0, e1, e2, e3]
    · rw [Bool.eq_false_iff]
      simp
      unfold Bx V at *
      omega
    all_goals simp
theorem bx_v {a b c d : Int} (h : Bx a b c d) : V a b ∧ V c d := by unfold Bx V at *; omega
theorem meetBox_cases (a b c d e f g h : Int) :
    (Bx a b c d ∧ Bx e f g h ∧ max a e ≤ min b f ∧ max c g ≤ min d h ∧ span_MeetBox_0 a b c d e f g h = max a e ∧ span_MeetBox_1 a b c d e f g h = min b f ∧ span_MeetBox_2 a b c d e f g h = max c g ∧ span_MeetBox_3 a b c d e f g h = min d h ∧ span_MeetBox_4 a b c d e f g h = 0) ∨
    (Bx a b c d ∧ Bx e f g h ∧ (min b f < max a e ∨ min d h < max c g) ∧ span_MeetBox_0 a b c d e f g h = 0 ∧ span_MeetBox_1 a b c d e f g h = 0 ∧ span_MeetBox_2 a b c d e f g h = 0 ∧ span_MeetBox_3 a b c d e f g h = 0 ∧ span_MeetBox_4 a b c d e f g h = 4) ∨
    (¬ (Bx a b c d ∧ Bx e f g h) ∧ span_MeetBox_0 a b c d e f g h = 0 ∧ span_MeetBox_1 a b c d e f g h = 0 ∧ span_MeetBox_2 a b c d e f g h = 0 ∧ span_MeetBox_3 a b c d e f g h = 0 ∧ span_MeetBox_4 a b c d e f g h = 1) := by
  unfold span_MeetBox_0 span_MeetBox_1 span_MeetBox_2 span_MeetBox_3 span_MeetBox_4
  rw [imax_max]
  by_cases h1 : Bx a b c d <;> by_cases h2 : Bx e f g h
  · obtain ⟨v1, v2⟩ := bx_v h1
    obtain ⟨v3, v4⟩ := bx_v h2
    rcases meet_cases a b e f with ⟨_, _, m1, e0, e1, e2⟩ | ⟨_, _, m1, e0, e1, e2⟩ | ⟨h', _⟩
    · rcases meet_cases c d g h with ⟨_, _, m2, e3, e4, e5⟩ | ⟨_, _, m2, e3, e4, e5⟩ | ⟨h', _⟩
      · left; simp [validBox_dec, h1, h2, e0, e1, e2, e3, e4, e5]; omega
      · right; left; simp [validBox_dec, h1, h2, e2, e5, mx1]; omega
      · exact absurd ⟨v2, v4⟩ h'
    · right; left
      rcases meet_cases c d g h with ⟨_, _, m2, e3, e4, e5⟩ | ⟨_, _, m2, e3, e4, e5⟩ | ⟨h', _⟩
      · simp [validBox_dec, h1, h2, e2, e5, mx2]; omega
      · simp [validBox_dec, h1, h2, e2, e5]; omega
      · exact absurd ⟨v2, v4⟩ h'
    · exact absurd ⟨v1, v3⟩ h'
  all_goals simp [validBox_dec, h1, h2]
def Pt (x y : Int) : Prop := -1000000 ≤ x ∧ x ≤ 1000000 ∧ -1000000 ≤ y ∧ y ≤ 1000000
instance (x y : Int) : Decidable (Pt x y) := by unfold Pt; infer_instance
theorem pt_bx (x y : Int) : Pt x y ↔ Bx x x y y := by unfold Pt Bx; omega
theorem withinBox_cases (a b c d e f g h : Int) :
    (Bx a b c d ∧ Bx e f g h ∧ span_WithinBox_0 a b c d e f g h = decide (e ≤ a ∧ b ≤ f ∧ g ≤ c ∧ d ≤ h) ∧ span_WithinBox_1 a b c d e f g h = 0) ∨
    (¬ (Bx a b c d ∧ Bx e f g h) ∧ span_WithinBox_0 a b c d e f g h = false ∧ span_WithinBox_1 a b c d e f g h = 1) := by
  unfold span_WithinBox_0 span_WithinBox_1
  rw [imax_max]
  by_cases h1 : Bx a b c d <;> by_cases h2 : Bx e f g h
  · left
    obtain ⟨v1, v2⟩ := bx_v h1
    obtain ⟨v3, v4⟩ := bx_v h2
    rcases join_cases a b e f with ⟨_, _, e0, e1, e2⟩ | ⟨h', _⟩
    · rcases join_cases c d g h with ⟨_, _, e3, e4, e5⟩ | ⟨h', _⟩
      · refine ⟨h1, h2, ?_, by simp [validBox_dec, h1, h2, e2, e5]⟩
        rw [Bool.eq_iff_iff]
        simp [validBox_dec, h1, h2, e0, e1, e2, e3, e4, e5]
        unfold Bx at *
        omega
      · exact absurd ⟨v2, v4⟩ h'
    · exact absurd ⟨v1, v3⟩ h'
  all_goals (right; simp [validBox_dec, h1, h2])
theorem inBox_cases (x y a b c d : Int) :
    (Pt x y ∧ Bx a b c d ∧ span_InBox_0 x y a b c d = decide (a ≤ x ∧ x ≤ b ∧ c ≤ y ∧ y ≤ d) ∧ span_InBox_1 x y a b c d = 0) ∨
    (¬ (Pt x y ∧ Bx a b c d) ∧ span_InBox_0 x y a b c d = false ∧ span_InBox_1 x y a b c d = 1) := by
  rw [pt_bx]
  have := withinBox_cases x x y y a b c d
  unfold span_WithinBox_0 span_WithinBox_1 at this
  unfold span_InBox_0 span_InBox_1
  exact this
theorem mul_bd {x n A B : Int} (h1 : -A ≤ x) (h2 : x ≤ A) (h3 : -B ≤ n) (h4 : n ≤ B) : -(A * B) ≤ x * n ∧ x * n ≤ A * B := by
  have a0 : 0 ≤ A := by omega
  have b0 : 0 ≤ B := by omega
  have k1 : 0 ≤ (A - x) * (B + n) := Int.mul_nonneg (by omega) (by omega)
  have k2 : 0 ≤ (A + x) * (B - n) := Int.mul_nonneg (by omega) (by omega)
  have k3 : 0 ≤ (A - x) * (B - n) := Int.mul_nonneg (by omega) (by omega)
  have k4 : 0 ≤ (A + x) * (B + n) := Int.mul_nonneg (by omega) (by omega)
  have e1 : (A - x) * (B + n) = A * B + A * n - x * B - x * n := by rw [Int.sub_mul, Int.mul_add, Int.mul_add]; omega
  have e2 : (A + x) * (B - n) = A * B - A * n + x * B - x * n := by rw [Int.add_mul, Int.mul_sub, Int.mul_sub]; omega
  have e3 : (A - x) * (B - n) = A * B - A * n - x * B + x * n := by rw [Int.sub_mul, Int.mul_sub, Int.mul_sub]; omega
  have e4 : (A + x) * (B + n) = A * B + A * n + x * B + x * n := by rw [Int.add_mul, Int.mul_add, Int.mul_add]; omega
  omega
end Go.Proofs.Ytcpikjablgbegaa
