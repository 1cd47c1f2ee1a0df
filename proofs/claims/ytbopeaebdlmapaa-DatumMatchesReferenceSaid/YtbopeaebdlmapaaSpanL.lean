/-
  What the functions of package span compute, said plainly.
-/
import Derived.Test.YtbopeaebdlmapaaSpanD
namespace Go.Proofs.Ytbopeaebdlmapaa
open Go Go.Sx

def V (a b : Int) : Prop := -1000000000000 ≤ a ∧ a ≤ b ∧ b ≤ 1000000000000
instance (a b : Int) : Decidable (V a b) := by unfold V; infer_instance
def Bx (a b c d : Int) : Prop := -1000000 ≤ a ∧ a ≤ b ∧ b ≤ 1000000 ∧ -1000000 ≤ c ∧ c ≤ d ∧ d ≤ 1000000
instance (a b c d : Int) : Decidable (Bx a b c d) := by unfold Bx; infer_instance

theorem imin_min (x y : Int) : imin x y = min x y := by unfold imin; split <;> omega
theorem imax_max (x y : Int) : imax x y = max x y := by unfold imax; split <;> omega
theorem mx1 : max (0 : Int) 4 = 4 := rfl
theorem mx2 : max (4 : Int) 0 = 4 := rfl
theorem wrap_in {x : Int} (h : -9223372036854775808 ≤ x ∧ x ≤ 9223372036854775807) : IntKind.i64.wrap x = x := IntWalk.i64_in x h

theorem valid_true {a b : Int} (h : V a b) : span_Valid_0 a b = true := by
  unfold V at h; unfold span_Valid_0; simp; omega
theorem valid_false {a b : Int} (h : ¬ V a b) : span_Valid_0 a b = false := by
  unfold V at h
  cases hb : span_Valid_0 a b with
  | false => rfl
  | true => unfold span_Valid_0 at hb; simp at hb; omega
theorem valid_dec (a b : Int) : span_Valid_0 a b = decide (V a b) := by
  by_cases h : V a b
  · rw [valid_true h]; simp [h]
  · rw [valid_false h]; simp [h]

theorem add_cases (a b c d : Int) :
    (V a b ∧ V c d ∧ V (a + c) (b + d) ∧ span_Add_0 a b c d = a + c ∧ span_Add_1 a b c d = b + d ∧ span_Add_2 a b c d = 0) ∨
    (V a b ∧ V c d ∧ ¬ V (a + c) (b + d) ∧ span_Add_0 a b c d = 0 ∧ span_Add_1 a b c d = 0 ∧ span_Add_2 a b c d = 3) ∨
    (¬ (V a b ∧ V c d) ∧ span_Add_0 a b c d = 0 ∧ span_Add_1 a b c d = 0 ∧ span_Add_2 a b c d = 1) := by
  unfold span_Add_0 span_Add_1 span_Add_2 span_kept_0 span_kept_1 span_kept_2
  by_cases h1 : V a b <;> by_cases h2 : V c d
  · have e1 : IntKind.i64.wrap (a + c) = a + c := wrap_in (by unfold V at *; omega)
    have e2 : IntKind.i64.wrap (b + d) = b + d := wrap_in (by unfold V at *; omega)
    rw [e1, e2]
    by_cases h3 : V (a + c) (b + d) <;> simp [valid_dec, h1, h2, h3]
  all_goals simp [valid_dec, h1, h2]
theorem sub_cases (a b c d : Int) :
    (V a b ∧ V c d ∧ V (a - d) (b - c) ∧ span_Sub_0 a b c d = a - d ∧ span_Sub_1 a b c d = b - c ∧ span_Sub_2 a b c d = 0) ∨
    (V a b ∧ V c d ∧ ¬ V (a - d) (b - c) ∧ span_Sub_0 a b c d = 0 ∧ span_Sub_1 a b c d = 0 ∧ span_Sub_2 a b c d = 3) ∨
    (¬ (V a b ∧ V c d) ∧ span_Sub_0 a b c d = 0 ∧ span_Sub_1 a b c d = 0 ∧ span_Sub_2 a b c d = 1) := by
  unfold span_Sub_0 span_Sub_1 span_Sub_2 span_kept_0 span_kept_1 span_kept_2
  by_cases h1 : V a b <;> by_cases h2 : V c d
  · have e1 : IntKind.i64.wrap (a - d) = a - d := wrap_in (by unfold V at *; omega)
    have e2 : IntKind.i64.wrap (b - c) = b - c := wrap_in (by unfold V at *; omega)
    rw [e1, e2]
    by_cases h3 : V (a - d) (b - c) <;> simp [valid_dec, h1, h2, h3]
  all_goals simp [valid_dec, h1, h2]
theorem meet_cases (a b c d : Int) :
    (V a b ∧ V c d ∧ max a c ≤ min b d ∧ span_Meet_0 a b c d = max a c ∧ span_Meet_1 a b c d = min b d ∧ span_Meet_2 a b c d = 0) ∨
    (V a b ∧ V c d ∧ min b d < max a c ∧ span_Meet_0 a b c d = 0 ∧ span_Meet_1 a b c d = 0 ∧ span_Meet_2 a b c d = 4) ∨
    (¬ (V a b ∧ V c d) ∧ span_Meet_0 a b c d = 0 ∧ span_Meet_1 a b c d = 0 ∧ span_Meet_2 a b c d = 1) := by
  unfold span_Meet_0 span_Meet_1 span_Meet_2
  rw [imin_min, imax_max]
  by_cases h1 : V a b <;> by_cases h2 : V c d
  · by_cases h3 : min b d < max a c
    · simp [valid_dec, h1, h2, h3]
    · have h4 : max a c ≤ min b d := by omega
      simp [valid_dec, h1, h2, h3, h4]
  all_goals simp [valid_dec, h1, h2]
theorem join_cases (a b c d : Int) :
    (V a b ∧ V c d ∧ span_Join_0 a b c d = min a c ∧ span_Join_1 a b c d = max b d ∧ span_Join_2 a b c d = 0) ∨
    (¬ (V a b ∧ V c d) ∧ span_Join_0 a b c d = 0 ∧ span_Join_1 a b c d = 0 ∧ span_Join_2 a b c d = 1) := by
  unfold span_Join_0 span_Join_1 span_Join_2 span_ends_int_0 span_ends_int_1
  rw [imin_min, imax_max]
  by_cases h1 : V a b <;> by_cases h2 : V c d <;> simp [valid_dec, h1, h2]
theorem within_cases (a b c d : Int) :
    (V a b ∧ V c d ∧ span_Within_0 a b c d = decide (c ≤ a ∧ b ≤ d) ∧ span_Within_1 a b c d = 0) ∨
    (¬ (V a b ∧ V c d) ∧ span_Within_0 a b c d = false ∧ span_Within_1 a b c d = 1) := by
  unfold span_Within_0 span_Within_1
  rcases join_cases a b c d with ⟨h1, h2, e0, e1, e2⟩ | ⟨h, e0, e1, e2⟩
  · left
    refine ⟨h1, h2, ?_, e2⟩
    rw [e0, e1, e2, Bool.eq_iff_iff]
    simp
    unfold V at *
    omega
  · right; simp [h, e2]
theorem validBox_dec (a b c d : Int) : span_ValidBox_0 a b c d = decide (Bx a b c d) := by
  have hall : V (-1000000) 1000000 := by unfold V; omega
  unfold span_ValidBox_0
  by_cases h : Bx a b c d
  · rcases within_cases a b (-1000000) 1000000 with ⟨_, _, e0, e1⟩ | ⟨h', _⟩
    · rcases within_cases c d (-1000000) 1000000 with ⟨_, _, e2, e3⟩ | ⟨h', _⟩
      · rw [e0, e1, e2, e3, Bool.eq_iff_iff]
        simp [h]
        unfold Bx at h
        omega
      · exact absurd ⟨by unfold Bx V at *; omega, hall⟩ h'
    · exact absurd ⟨by unfold Bx V at *; omega, hall⟩ h'
  · simp only [h, decide_false]
    rcases within_cases a b (-1000000) 1000000 with ⟨h1, _, e0, e1⟩ | ⟨_, e0, e1⟩ <;> rcases within_cases c d (-1000000) 1000000 with ⟨h2, _, e2, e3⟩ | ⟨_, e2, e3⟩ <;> rw [e0, e1, e2, e3]
    · rw [Bool.eq_false_iff]
      simp
      unfold Bx V at *
      omega
    all_goals simp
theorem bx_v {a b c d : Int} (h : Bx a b c d) : V a b ∧ V c d := by unfold Bx V at *; omega
theorem meetBox_cases (a b c d e f g h : Int) :
    (Bx a b c d ∧ Bx e f g h ∧ max a e ≤ min b f ∧ max c g ≤ min d h ∧ span_MeetBox_0 a b c d e f g h = max a e ∧ span_MeetBox_1 a b c d e f g h = min b f ∧ span_MeetBox_2 a b c d e f g h = max c g ∧ span_MeetBox_3 a b c d e f g h = min d h ∧ span_MeetBox_4 a b c d e f g h = 0) ∨
    (Bx a b c d ∧ Bx e f g h ∧ (min b f < max a e ∨ min d h < max c g) ∧ span_MeetBox_0 a b c d e f g h = 0 ∧ span_MeetBox_1 a b c d e f g h = 0 ∧ span_MeetBox_2 a b c d e f g h = 0 ∧ span_MeetBox_3 a b c d e f g h = 0 ∧ span_MeetBox_4 a b c d e f g h = 4) ∨
    (¬ (Bx a b c d ∧ Bx e f g h) ∧ span_MeetBox_0 a b c d e f g h = 0 ∧ span_MeetBox_1 a b c d e f g h = 0 ∧ span_MeetBox_2 a b c d e f g h = 0 ∧ span_MeetBox_3 a b c d e f g h = 0 ∧ span_MeetBox_4 a b c d e f g h = 1) := by
  unfold span_MeetBox_0 span_MeetBox_1 span_MeetBox_2 span_MeetBox_3 span_MeetBox_4
  rw [imax_max]
  by_cases h1 : Bx a b c d <;> by_cases h2 : Bx e f g h
  · obtain ⟨v1, v2⟩ := bx_v h1
    obtain ⟨v3, v4⟩ := bx_v h2
    rcases meet_cases a b e f with ⟨_, _, m1, e0, e1, e2⟩ | ⟨_, _, m1, e0, e1, e2⟩ | ⟨h', _⟩
    · rcases meet_cases c d g h with ⟨_, _, m2, e3, e4, e5⟩ | ⟨_, _, m2, e3, e4, e5⟩ | ⟨h', _⟩
      · left; simp [validBox_dec, h1, h2, e0, e1, e2, e3, e4, e5]; omega
      · right; left; simp [validBox_dec, h1, h2, e2, e5, mx1]; omega
      · exact absurd ⟨v2, v4⟩ h'
    · right; left
      rcases meet_cases c d g h with ⟨_, _, m2, e3, e4, e5⟩ | ⟨_, _, m2, e3, e4, e5⟩ | ⟨h', _⟩
      · simp [validBox_dec, h1, h2, e2, e5, mx2]; omega
      · simp [validBox_dec, h1, h2, e2, e5]; omega
      · exact absurd ⟨v2, v4⟩ h'
    · exact absurd ⟨v1, v3⟩ h'
  all_goals simp [validBox_dec, h1, h2]
theorem joinBox_cases (a b c d e f g h : Int) :
    (Bx a b c d ∧ Bx e f g h ∧ span_JoinBox_0 a b c d e f g h = min a e ∧ span_JoinBox_1 a b c d e f g h = max b f ∧ span_JoinBox_2 a b c d e f g h = min c g ∧ span_JoinBox_3 a b c d e f g h = max d h ∧ span_JoinBox_4 a b c d e f g h = 0) ∨
    (¬ (Bx a b c d ∧ Bx e f g h) ∧ span_JoinBox_0 a b c d e f g h = 0 ∧ span_JoinBox_1 a b c d e f g h = 0 ∧ span_JoinBox_2 a b c d e f g h = 0 ∧ span_JoinBox_3 a b c d e f g h = 0 ∧ span_JoinBox_4 a b c d e f g h = 1) := by
  unfold span_JoinBox_0 span_JoinBox_1 span_JoinBox_2 span_JoinBox_3 span_JoinBox_4
  rw [imax_max]
  by_cases h1 : Bx a b c d <;> by_cases h2 : Bx e f g h
  · obtain ⟨v1, v2⟩ := bx_v h1
    obtain ⟨v3, v4⟩ := bx_v h2
    rcases join_cases a b e f with ⟨_, _, e0, e1, e2⟩ | ⟨h', _⟩
    · rcases join_cases c d g h with ⟨_, _, e3, e4, e5⟩ | ⟨h', _⟩
      · left; simp [validBox_dec, h1, h2, e0, e1, e2, e3, e4, e5]
      · exact absurd ⟨v2, v4⟩ h'
    · exact absurd ⟨v1, v3⟩ h'
  all_goals simp [validBox_dec, h1, h2]
theorem withinBox_cases (a b c d e f g h : Int) :
    (Bx a b c d ∧ Bx e f g h ∧ span_WithinBox_0 a b c d e f g h = decide (e ≤ a ∧ b ≤ f ∧ g ≤ c ∧ d ≤ h) ∧ span_WithinBox_1 a b c d e f g h = 0) ∨
    (¬ (Bx a b c d ∧ Bx e f g h) ∧ span_WithinBox_0 a b c d e f g h = false ∧ span_WithinBox_1 a b c d e f g h = 1) := by
  unfold span_WithinBox_0 span_WithinBox_1
  rcases joinBox_cases a b c d e f g h with ⟨h1, h2, e0, e1, e2, e3, e4⟩ | ⟨h', e0, e1, e2, e3, e4⟩
  · left
    refine ⟨h1, h2, ?_, e4⟩
    rw [e0, e1, e2, e3, e4, Bool.eq_iff_iff]
    simp
    unfold Bx at *
    omega
  · right; simp [h', e4]
/-- A place. -/
def Pt (x y : Int) : Prop := -1000000 ≤ x ∧ x ≤ 1000000 ∧ -1000000 ≤ y ∧ y ≤ 1000000
instance (x y : Int) : Decidable (Pt x y) := by unfold Pt; infer_instance
theorem pt_bx (x y : Int) : Pt x y ↔ Bx x x y y := by unfold Pt Bx; omega
theorem inBox_cases (x y a b c d : Int) :
    (Pt x y ∧ Bx a b c d ∧ span_InBox_0 x y a b c d = decide (a ≤ x ∧ x ≤ b ∧ c ≤ y ∧ y ≤ d) ∧ span_InBox_1 x y a b c d = 0) ∨
    (¬ (Pt x y ∧ Bx a b c d) ∧ span_InBox_0 x y a b c d = false ∧ span_InBox_1 x y a b c d = 1) := by
  unfold span_InBox_0 span_InBox_1
  rw [pt_bx]
  exact withinBox_cases x x y y a b c d
theorem growBox_cases (a b c d n : Int) :
    (Bx a b c d ∧ 0 ≤ n ∧ n ≤ 3000000 ∧ Bx (a - n) (b + n) (c - n) (d + n) ∧ span_GrowBox_0 a b c d n = a - n ∧ span_GrowBox_1 a b c d n = b + n ∧ span_GrowBox_2 a b c d n = c - n ∧ span_GrowBox_3 a b c d n = d + n ∧ span_GrowBox_4 a b c d n = 0) ∨
    (Bx a b c d ∧ 0 ≤ n ∧ n ≤ 3000000 ∧ ¬ Bx (a - n) (b + n) (c - n) (d + n) ∧ span_GrowBox_0 a b c d n = 0 ∧ span_GrowBox_1 a b c d n = 0 ∧ span_GrowBox_2 a b c d n = 0 ∧ span_GrowBox_3 a b c d n = 0 ∧ span_GrowBox_4 a b c d n = 3) ∨
    (¬ (Bx a b c d ∧ 0 ≤ n ∧ n ≤ 3000000) ∧ span_GrowBox_0 a b c d n = 0 ∧ span_GrowBox_1 a b c d n = 0 ∧ span_GrowBox_2 a b c d n = 0 ∧ span_GrowBox_3 a b c d n = 0 ∧ span_GrowBox_4 a b c d n = 1) := by
  unfold span_GrowBox_0 span_GrowBox_1 span_GrowBox_2 span_GrowBox_3 span_GrowBox_4
  by_cases h : Bx a b c d ∧ 0 ≤ n ∧ n ≤ 3000000
  · obtain ⟨h1, h2, h3⟩ := h
    have e1 : IntKind.i64.wrap (a - n) = a - n := wrap_in (by unfold Bx at *; omega)
    have e2 : IntKind.i64.wrap (b + n) = b + n := wrap_in (by unfold Bx at *; omega)
    have e3 : IntKind.i64.wrap (c - n) = c - n := wrap_in (by unfold Bx at *; omega)
    have e4 : IntKind.i64.wrap (d + n) = d + n := wrap_in (by unfold Bx at *; omega)
    rw [e1, e2, e3, e4]
    have n1 : ¬ n < 0 := by omega
    have n2 : ¬ n > 3000000 := by omega
    by_cases h4 : Bx (a - n) (b + n) (c - n) (d + n) <;> simp [validBox_dec, h1, h2, h3, h4, n1, n2]
  · right; right
    have hc : (!span_ValidBox_0 a b c d || decide (n < 0) || decide (n > 3000000)) = true := by
      rw [validBox_dec]
      by_cases h1 : Bx a b c d
      · by_cases h2 : n < 0
        · simp [h2]
        · have h3 : n > 3000000 := by
            by_cases h4 : n ≤ 3000000
            · exact absurd ⟨h1, by omega, h4⟩ h
            · omega
          simp [h3]
      · simp [h1]
    rw [hc]
    exact ⟨h, rfl, rfl, rfl, rfl, rfl⟩

/-- Numbers that Scale takes. -/
def SA (a b n d : Int) : Prop := V a b ∧ -1000000 ≤ n ∧ n ≤ 1000000 ∧ 1 ≤ d ∧ d ≤ 1000000
theorem mul_bd {x n A B : Int} (h1 : -A ≤ x) (h2 : x ≤ A) (h3 : -B ≤ n) (h4 : n ≤ B) : -(A * B) ≤ x * n ∧ x * n ≤ A * B := by
  have a0 : 0 ≤ A := by omega
  have b0 : 0 ≤ B := by omega
  have k1 : 0 ≤ (A - x) * (B + n) := Int.mul_nonneg (by omega) (by omega)
  have k2 : 0 ≤ (A + x) * (B - n) := Int.mul_nonneg (by omega) (by omega)
  have k3 : 0 ≤ (A - x) * (B - n) := Int.mul_nonneg (by omega) (by omega)
  have k4 : 0 ≤ (A + x) * (B + n) := Int.mul_nonneg (by omega) (by omega)
  have e1 : (A - x) * (B + n) = A * B + A * n - x * B - x * n := by rw [Int.sub_mul, Int.mul_add, Int.mul_add]; omega
  have e2 : (A + x) * (B - n) = A * B - A * n + x * B - x * n := by rw [Int.add_mul, Int.mul_sub, Int.mul_sub]; omega
  have e3 : (A - x) * (B - n) = A * B - A * n - x * B + x * n := by rw [Int.sub_mul, Int.mul_sub, Int.mul_sub]; omega
  have e4 : (A + x) * (B + n) = A * B + A * n + x * B + x * n := by rw [Int.add_mul, Int.mul_add, Int.mul_add]; omega
  omega
theorem tdiv_bd (L d : Int) : -(L.natAbs : Int) ≤ L.tdiv d ∧ L.tdiv d ≤ L.natAbs := by
  have := Int.natAbs_tdiv_le_natAbs L d
  omega
theorem tdiv_eq (L d : Int) : L.tdiv d * d + L.tmod d = L := by
  rw [Int.mul_comm]; exact Int.mul_tdiv_add_tmod L d
theorem floor_spec {L d : Int} (hd : 1 ≤ d) : (L.tmod d < 0 → (L.tdiv d - 1) * d ≤ L ∧ L < (L.tdiv d - 1 + 1) * d) ∧ (¬ L.tmod d < 0 → L.tdiv d * d ≤ L ∧ L < (L.tdiv d + 1) * d) := by
  have h := tdiv_eq L d
  have h1 := Int.tmod_lt_of_pos L (b := d) (by omega)
  have h2 := Int.lt_tmod_of_pos L (b := d) (by omega)
  have e1 : (L.tdiv d - 1) * d = L.tdiv d * d - d := by rw [Int.sub_mul]; omega
  have e2 : (L.tdiv d - 1 + 1) * d = L.tdiv d * d := by rw [Int.sub_add_cancel]
  have e3 : (L.tdiv d + 1) * d = L.tdiv d * d + d := by rw [Int.add_mul]; omega
  omega
theorem ceil_spec {L d : Int} (hd : 1 ≤ d) : (L.tmod d > 0 → (L.tdiv d + 1 - 1) * d < L ∧ L ≤ (L.tdiv d + 1) * d) ∧ (¬ L.tmod d > 0 → (L.tdiv d - 1) * d < L ∧ L ≤ L.tdiv d * d) := by
  have h := tdiv_eq L d
  have h1 := Int.tmod_lt_of_pos L (b := d) (by omega)
  have h2 := Int.lt_tmod_of_pos L (b := d) (by omega)
  have e1 : (L.tdiv d - 1) * d = L.tdiv d * d - d := by rw [Int.sub_mul]; omega
  have e2 : (L.tdiv d + 1 - 1) * d = L.tdiv d * d := by rw [Int.add_sub_cancel]
  have e3 : (L.tdiv d + 1) * d = L.tdiv d * d + d := by rw [Int.add_mul]; omega
  omega
theorem kept_cases (p q : Int) : (V p q ∧ span_kept_0 p q = p ∧ span_kept_1 p q = q ∧ span_kept_2 p q = 0) ∨ (¬ V p q ∧ span_kept_0 p q = 0 ∧ span_kept_1 p q = 0 ∧ span_kept_2 p q = 3) := by
  unfold span_kept_0 span_kept_1 span_kept_2
  by_cases h : V p q <;> simp [valid_dec, h]
/-- The lower and the upper end of what is scaled. -/
def Lw (a b n : Int) : Int := min (a * n) (b * n)
def Up (a b n : Int) : Int := max (a * n) (b * n)
theorem scale_bd {a b n d : Int} (h : SA a b n d) : (-1000000000000000000 ≤ a * n ∧ a * n ≤ 1000000000000000000) ∧ (-1000000000000000000 ≤ b * n ∧ b * n ≤ 1000000000000000000) := by
  unfold SA V at h
  have h1 := @mul_bd a n 1000000000000 1000000 (by omega) (by omega) (by omega) (by omega)
  have h2 := @mul_bd b n 1000000000000 1000000 (by omega) (by omega) (by omega) (by omega)
  omega
theorem scale_cases (a b n d : Int) :
    (SA a b n d ∧ ∃ p q, V p q ∧ (p * d ≤ Lw a b n ∧ Lw a b n < (p + 1) * d) ∧ ((q - 1) * d < Up a b n ∧ Up a b n ≤ q * d) ∧ span_Scale_0 a b n d = p ∧ span_Scale_1 a b n d = q ∧ span_Scale_2 a b n d = 0) ∨
    (SA a b n d ∧ (∃ p q, ¬ V p q ∧ (p * d ≤ Lw a b n ∧ Lw a b n < (p + 1) * d) ∧ ((q - 1) * d < Up a b n ∧ Up a b n ≤ q * d)) ∧ span_Scale_0 a b n d = 0 ∧ span_Scale_1 a b n d = 0 ∧ span_Scale_2 a b n d = 3) ∨
    (¬ SA a b n d ∧ span_Scale_0 a b n d = 0 ∧ span_Scale_1 a b n d = 0 ∧ span_Scale_2 a b n d = 1) := by
  unfold span_Scale_0 span_Scale_1 span_Scale_2
  by_cases h : SA a b n d
  · have hb := scale_bd h
    have w1 : IntKind.i64.wrap (a * n) = a * n := wrap_in (by omega)
    have w2 : IntKind.i64.wrap (b * n) = b * n := wrap_in (by omega)
    have g : (!span_Valid_0 a b || decide (n < -1000000) || decide (n > 1000000) || decide (d < 1) || decide (d > 1000000)) = false := by
      unfold SA at h; rw [valid_true h.1]; simp; omega
    rw [w1, w2, g]
    unfold span_ends_int_0 span_ends_int_1
    rw [imin_min, imax_max]
    change (SA a b n d ∧ ∃ p q, V p q ∧ (p * d ≤ Lw a b n ∧ Lw a b n < (p + 1) * d) ∧ ((q - 1) * d < Up a b n ∧ Up a b n ≤ q * d) ∧ _) ∨ _
    have e1 : min (a * n) (b * n) = Lw a b n := rfl
    have e2 : max (a * n) (b * n) = Up a b n := rfl
    rw [e1, e2]
    have l1 : -1000000000000000000 ≤ Lw a b n ∧ Lw a b n ≤ 1000000000000000000 := by unfold Lw; omega
    have l2 : -1000000000000000000 ≤ Up a b n ∧ Up a b n ≤ 1000000000000000000 := by unfold Up; omega
    generalize Lw a b n = L at *
    generalize Up a b n = H at *
    have d1 : 1 ≤ d := h.2.2.2.1
    have f1 := floor_spec (L := L) d1
    have f2 := ceil_spec (L := H) d1
    have b1 := tdiv_bd L d
    have b2 := tdiv_bd H d
    have u1 : IntKind.i64.wrap (L.tdiv d) = L.tdiv d := wrap_in (by omega)
    have u2 : IntKind.i64.wrap (H.tdiv d) = H.tdiv d := wrap_in (by omega)
    have u3 : IntKind.i64.wrap (L.tdiv d - 1) = L.tdiv d - 1 := wrap_in (by omega)
    have u4 : IntKind.i64.wrap (H.tdiv d + 1) = H.tdiv d + 1 := wrap_in (by omega)
    rw [u1, u2, u3, u4]
    have fin : ∀ p q, (p * d ≤ L ∧ L < (p + 1) * d) → ((q - 1) * d < H ∧ H ≤ q * d) →
        (SA a b n d ∧ ∃ p' q', V p' q' ∧ (p' * d ≤ L ∧ L < (p' + 1) * d) ∧ ((q' - 1) * d < H ∧ H ≤ q' * d) ∧ span_kept_0 p q = p' ∧ span_kept_1 p q = q' ∧ span_kept_2 p q = 0) ∨
        (SA a b n d ∧ (∃ p q, ¬ V p q ∧ (p * d ≤ L ∧ L < (p + 1) * d) ∧ ((q - 1) * d < H ∧ H ≤ q * d)) ∧ span_kept_0 p q = 0 ∧ span_kept_1 p q = 0 ∧ span_kept_2 p q = 3) ∨
        (¬ SA a b n d ∧ span_kept_0 p q = 0 ∧ span_kept_1 p q = 0 ∧ span_kept_2 p q = 1) := by
      intro p q hp hq
      rcases kept_cases p q with ⟨k, k0, k1, k2⟩ | ⟨k, k0, k1, k2⟩
      · exact .inl ⟨h, p, q, k, hp, hq, k0, k1, k2⟩
      · exact .inr (.inl ⟨h, ⟨p, q, k, hp, hq⟩, k0, k1, k2⟩)
    by_cases c1 : L.tmod d < 0 <;> by_cases c2 : H.tmod d > 0 <;> simp only [c1, c2, decide_true, decide_false, cond_true, cond_false]
    · exact fin _ _ (f1.1 c1) (f2.1 c2)
    · exact fin _ _ (f1.1 c1) (f2.2 c2)
    · exact fin _ _ (f1.2 c1) (f2.1 c2)
    · exact fin _ _ (f1.2 c1) (f2.2 c2)
  · have g : (!span_Valid_0 a b || decide (n < -1000000) || decide (n > 1000000) || decide (d < 1) || decide (d > 1000000)) = true := by
      cases hg : (!span_Valid_0 a b || decide (n < -1000000) || decide (n > 1000000) || decide (d < 1) || decide (d > 1000000)) with
      | true => rfl
      | false =>
        rw [valid_dec] at hg
        simp at hg
        exact absurd (by unfold SA; exact ⟨hg.1.1.1.1, by omega⟩) h
    rw [g]
    exact .inr (.inr ⟨h, rfl, rfl, rfl⟩)
end Go.Proofs.Ytbopeaebdlmapaa
