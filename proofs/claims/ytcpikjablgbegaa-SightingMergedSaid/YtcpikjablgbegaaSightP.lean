/-
  Sightings: what the functions of package sighting answer, said plainly.
-/
import Derived.Test.YtcpikjablgbegaaSightL
import Derived.Test.YtcpikjablgbegaaSightS
namespace Go.Proofs.Ytcpikjablgbegaa
open Go Go.Sy

/-- A valid report. -/
def RV (s n t b a1 a2 c1 c2 fx fy tx ty F : Int) : Prop :=
  (1 ≤ s ∧ s ≤ 100000) ∧ (1 ≤ n ∧ n ≤ 100000) ∧ (1 ≤ b ∧ b ≤ 100000) ∧ (0 ≤ t ∧ t ≤ 10000000) ∧ (0 ≤ F ∧ F ≤ 1000000) ∧ Bx a1 a2 c1 c2 ∧ Pt fx fy ∧ Pt tx ty ∧ 0 < cr fx fy tx ty
instance (s n t b a1 a2 c1 c2 fx fy tx ty F : Int) : Decidable (RV s n t b a1 a2 c1 c2 fx fy tx ty F) := by unfold RV; infer_instance
theorem cross_is {a b c d : Int} (h1 : Pt a b) (h2 : Pt c d) : sighting_cross_0 a b c d = cr a b c d := by
  unfold Pt at h1 h2
  have m1 := @mul_bd a d 1000000 1000000 (by omega) (by omega) (by omega) (by omega)
  have m2 := @mul_bd b c 1000000 1000000 (by omega) (by omega) (by omega) (by omega)
  unfold sighting_cross_0 cr
  simp (disch := omega) only [wrap_in]
theorem rcross_is {a b c d : Int} (h1 : Pt a b) (h2 : Pt c d) : ref01_Cross_0 a b c d = cr a b c d := cross_is h1 h2
theorem plane_dec (x y : Int) : plane_Valid_0 x y = decide (Pt x y) := by
  unfold plane_Valid_0; rw [imax_max, imin_min, Bool.eq_iff_iff]; simp; unfold Pt; omega
theorem isDir_dec (x y : Int) : sighting_isDirection_0 x y = decide (Pt x y) := plane_dec x y
theorem rpt_dec (x y : Int) : ref01_Valid_0 x y = decide (Pt x y) := by
  unfold ref01_Valid_0; rw [Bool.eq_iff_iff]; simp; unfold Pt; omega
theorem rdir_dec (x y : Int) : ref24_direction_0 x y = decide (Pt x y) := rpt_dec x y
theorem rbox_dec (a b c d : Int) : ref02_ValidBox_0 a b c d = decide (Bx a b c d) := by
  unfold ref02_ValidBox_0 ref02_coords_0; rw [Bool.eq_iff_iff]; simp; unfold Bx; omega
theorem sval_dec (s n t b a1 a2 c1 c2 fx fy tx ty F : Int) : sighting_Valid_0 s n t b a1 a2 c1 c2 fx fy tx ty F = decide (RV s n t b a1 a2 c1 c2 fx fy tx ty F) := by
  unfold sighting_Valid_0 sighting_isID_0
  rw [isDir_dec, isDir_dec, validBox_dec]
  by_cases h1 : Pt fx fy <;> by_cases h2 : Pt tx ty <;> by_cases h3 : Bx a1 a2 c1 c2
  · rw [cross_is h1 h2, Bool.eq_iff_iff]
    simp [h1, h2, h3, RV]
    omega
  all_goals
    rw [Bool.eq_iff_iff]
    simp [h1, h2, h3, RV]
theorem rval_dec (s n t b a1 a2 c1 c2 fx fy tx ty F : Int) : ref24_Valid_0 s n t b a1 a2 c1 c2 fx fy tx ty F = decide (RV s n t b a1 a2 c1 c2 fx fy tx ty F) := by
  unfold ref24_Valid_0 ref24_ID_0
  rw [rdir_dec, rdir_dec, rbox_dec]
  by_cases h1 : Pt fx fy <;> by_cases h2 : Pt tx ty <;> by_cases h3 : Bx a1 a2 c1 c2
  · rw [rcross_is h1 h2, Bool.eq_iff_iff]
    simp [h1, h2, h3, RV]
    omega
  all_goals
    rw [Bool.eq_iff_iff]
    simp [h1, h2, h3, RV]

/-- A valid report allows some point of a valid box. -/
def Sees (a1 a2 c1 c2 fx fy tx ty F b1 b2 d1 d2 : Int) : Prop :=
  max (b1 - a2) (-F) ≤ min (b2 - a1) F ∧ max (d1 - c2) (-F) ≤ min (d2 - c1) F ∧ Core fx fy tx ty (max (b1 - a2) (-F)) (min (b2 - a1) F) (max (d1 - c2) (-F)) (min (d2 - c1) F)
instance (a1 a2 c1 c2 fx fy tx ty F b1 b2 d1 d2 : Int) : Decidable (Sees a1 a2 c1 c2 fx fy tx ty F b1 b2 d1 d2) := by unfold Sees; infer_instance
theorem meets_dec {fx fy tx ty xl xh yl yh : Int} (hf : Pt fx fy) (ht : Pt tx ty) (h1 : Pt xl yl) (h2 : Pt xl yh) (h3 : Pt xh yl) (h4 : Pt xh yh) : sighting_cone_meets_0 fx fy tx ty xl xh yl yh = decide (Core fx fy tx ty xl xh yl yh) := by
  unfold sighting_cone_meets_0 sighting_leads_0
  rw [cross_is hf h1, cross_is hf h2, cross_is hf h3, cross_is hf h4, cross_is h1 ht, cross_is h2 ht, cross_is h3 ht, cross_is h4 ht, Bool.eq_iff_iff]
  simp only [Bool.cond_true_left, Bool.cond_false_right, Bool.or_false, Bool.and_true]
  simp only [Bool.and_eq_true, Bool.or_eq_true, decide_eq_true_eq]
  unfold Core
  omega
theorem rcone_dec {fx fy tx ty xl xh yl yh : Int} (hf : Pt fx fy) (ht : Pt tx ty) (h1 : Pt xl yl) (h2 : Pt xl yh) (h3 : Pt xh yl) (h4 : Pt xh yh) : ref24_cone_0 fx fy tx ty xl xh yl yh = decide (xl ≤ xh ∧ yl ≤ yh ∧ Core fx fy tx ty xl xh yl yh) := by
  unfold ref24_cone_0
  rw [rcross_is hf h1, rcross_is hf h2, rcross_is hf h3, rcross_is hf h4, rcross_is h1 ht, rcross_is h2 ht, rcross_is h3 ht, rcross_is h4 ht, Bool.eq_iff_iff]
  simp only [Bool.cond_false_left, Bool.and_eq_true, Bool.or_eq_true, decide_eq_true_eq, Bool.not_eq_true', Bool.or_eq_false_iff, Bool.and_eq_false_imp, decide_eq_false_iff_not]
  unfold Core
  omega
theorem sees_dec {s n t b a1 a2 c1 c2 fx fy tx ty F b1 b2 d1 d2 : Int} (h : RV s n t b a1 a2 c1 c2 fx fy tx ty F) (hb : Bx b1 b2 d1 d2) : sighting_sees_0 s n t b a1 a2 c1 c2 fx fy tx ty F b1 b2 d1 d2 = decide (Sees a1 a2 c1 c2 fx fy tx ty F b1 b2 d1 d2) := by
  obtain ⟨_, _, _, _, hF, hA, hf, ht, _⟩ := h
  unfold sighting_sees_0
  rw [wrap_in (show -9223372036854775808 ≤ 0 - F ∧ 0 - F ≤ 9223372036854775807 by omega), Int.zero_sub]
  have vF : V (-F) F := by unfold V; omega
  rcases sub_cases b1 b2 a1 a2 with ⟨_, _, v1, e1, e2, _⟩ | ⟨_, _, v1, _⟩ | ⟨v1, _⟩
  · rcases sub_cases d1 d2 c1 c2 with ⟨_, _, v2, e3, e4, _⟩ | ⟨_, _, v2, _⟩ | ⟨v2, _⟩
    · rw [e1, e2, e3, e4]
      rcases meet_cases (b1 - a2) (b2 - a1) (-F) F with ⟨_, _, m1, k0, k1, k2⟩ | ⟨_, _, m1, k0, k1, k2⟩ | ⟨m1, _⟩
      · rcases meet_cases (d1 - c2) (d2 - c1) (-F) F with ⟨_, _, m2, k3, k4, k5⟩ | ⟨_, _, m2, k3, k4, k5⟩ | ⟨m2, _⟩
        · rw [k0, k1, k2, k3, k4, k5]
          have p : ∀ x y, (x = max (b1 - a2) (-F) ∨ x = min (b2 - a1) F) → (y = max (d1 - c2) (-F) ∨ y = min (d2 - c1) F) → Pt x y := by
            intro x y h1 h2; unfold Pt; omega
          rw [meets_dec hf ht (p _ _ (Or.inl rfl) (Or.inl rfl)) (p _ _ (Or.inl rfl) (Or.inr rfl)) (p _ _ (Or.inr rfl) (Or.inl rfl)) (p _ _ (Or.inr rfl) (Or.inr rfl))]
          simp [Sees, m1, m2]
        · rw [k5]
          have : ¬ Sees a1 a2 c1 c2 fx fy tx ty F b1 b2 d1 d2 := fun h => by have := h.2.1; omega
          simp [this]
        · exact absurd ⟨v2, vF⟩ m2
      · rw [k2]
        have : ¬ Sees a1 a2 c1 c2 fx fy tx ty F b1 b2 d1 d2 := fun h => by have := h.1; omega
        simp [this]
      · exact absurd ⟨v1, vF⟩ m1
    · exact absurd (by unfold Bx at *; unfold V; omega) v2
    · exact absurd (by unfold Bx at *; unfold V; omega) v2
  · exact absurd (by unfold Bx at *; unfold V; omega) v1
  · exact absurd (by unfold Bx at *; unfold V; omega) v1
theorem rsees_dec {s n t b a1 a2 c1 c2 fx fy tx ty F b1 b2 d1 d2 : Int} (h : RV s n t b a1 a2 c1 c2 fx fy tx ty F) (hb : Bx b1 b2 d1 d2) : ref24_sees_0 s n t b a1 a2 c1 c2 fx fy tx ty F b1 b2 d1 d2 = decide (Sees a1 a2 c1 c2 fx fy tx ty F b1 b2 d1 d2) := by
  obtain ⟨_, _, _, _, hF, hA, hf, ht, _⟩ := h
  unfold ref24_sees_0
  unfold Bx at hA hb
  simp (disch := omega) only [wrap_in, Int.zero_sub, imax_max, imin_min]
  by_cases m1 : max (b1 - a2) (-F) ≤ min (b2 - a1) F
  · by_cases m2 : max (d1 - c2) (-F) ≤ min (d2 - c1) F
    · have p : ∀ x y, (x = max (b1 - a2) (-F) ∨ x = min (b2 - a1) F) → (y = max (d1 - c2) (-F) ∨ y = min (d2 - c1) F) → Pt x y := by
        intro x y h1 h2; unfold Pt; omega
      rw [rcone_dec hf ht (p _ _ (Or.inl rfl) (Or.inl rfl)) (p _ _ (Or.inl rfl) (Or.inr rfl)) (p _ _ (Or.inr rfl) (Or.inl rfl)) (p _ _ (Or.inr rfl) (Or.inr rfl))]
      rfl
    · have : ¬ Sees a1 a2 c1 c2 fx fy tx ty F b1 b2 d1 d2 := fun h => m2 h.2.1
      unfold ref24_cone_0
      have e : decide (max (d1 - c2) (-F) > min (d2 - c1) F) = true := by simp; omega
      simp [this, e]
  · have : ¬ Sees a1 a2 c1 c2 fx fy tx ty F b1 b2 d1 d2 := fun h => m1 h.1
    unfold ref24_cone_0
    have e : decide (max (b1 - a2) (-F) > min (b2 - a1) F) = true := by simp; omega
    simp [this, e]

theorem allows_dec (s n t b a1 a2 c1 c2 fx fy tx ty F x y : Int) : sighting_Allows_0 s n t b a1 a2 c1 c2 fx fy tx ty F x y = decide (RV s n t b a1 a2 c1 c2 fx fy tx ty F ∧ Pt x y ∧ Sees a1 a2 c1 c2 fx fy tx ty F x x y y) := by
  unfold sighting_Allows_0
  rw [sval_dec, plane_dec]
  by_cases h1 : RV s n t b a1 a2 c1 c2 fx fy tx ty F <;> by_cases h2 : Pt x y
  · rw [sees_dec h1 ((pt_bx x y).1 h2)]; simp [h1, h2]
  all_goals simp [h1, h2]
theorem allows_err (s n t b a1 a2 c1 c2 fx fy tx ty F x y : Int) : sighting_Allows_1 s n t b a1 a2 c1 c2 fx fy tx ty F x y = if RV s n t b a1 a2 c1 c2 fx fy tx ty F ∧ Pt x y then 0 else 1 := by
  unfold sighting_Allows_1
  rw [sval_dec, plane_dec]
  by_cases h1 : RV s n t b a1 a2 c1 c2 fx fy tx ty F <;> by_cases h2 : Pt x y <;> simp [h1, h2]
theorem rallows_dec (s n t b a1 a2 c1 c2 fx fy tx ty F x y : Int) : ref24_Allows_0 s n t b a1 a2 c1 c2 fx fy tx ty F x y = decide (RV s n t b a1 a2 c1 c2 fx fy tx ty F ∧ Pt x y ∧ Sees a1 a2 c1 c2 fx fy tx ty F x x y y) := by
  unfold ref24_Allows_0
  rw [rval_dec, rpt_dec]
  by_cases h1 : RV s n t b a1 a2 c1 c2 fx fy tx ty F <;> by_cases h2 : Pt x y
  · rw [rsees_dec h1 ((pt_bx x y).1 h2)]; simp [h1, h2]
  all_goals simp [h1, h2]
theorem rallows_err (s n t b a1 a2 c1 c2 fx fy tx ty F x y : Int) : ref24_Allows_1 s n t b a1 a2 c1 c2 fx fy tx ty F x y = if RV s n t b a1 a2 c1 c2 fx fy tx ty F ∧ Pt x y then 0 else 1 := by
  unfold ref24_Allows_1
  rw [rval_dec, rpt_dec]
  by_cases h1 : RV s n t b a1 a2 c1 c2 fx fy tx ty F <;> by_cases h2 : Pt x y <;> simp [h1, h2]
theorem wedge_dec (s n t b a1 a2 c1 c2 fx fy tx ty F b1 b2 d1 d2 : Int) : sighting_Wedge_0 s n t b a1 a2 c1 c2 fx fy tx ty F b1 b2 d1 d2 = decide (RV s n t b a1 a2 c1 c2 fx fy tx ty F ∧ Bx b1 b2 d1 d2 ∧ Sees a1 a2 c1 c2 fx fy tx ty F b1 b2 d1 d2) := by
  unfold sighting_Wedge_0
  rw [sval_dec, validBox_dec]
  by_cases h1 : RV s n t b a1 a2 c1 c2 fx fy tx ty F <;> by_cases h2 : Bx b1 b2 d1 d2
  · rw [sees_dec h1 h2]; simp [h1, h2]
  all_goals simp [h1, h2]
theorem wedge_err (s n t b a1 a2 c1 c2 fx fy tx ty F b1 b2 d1 d2 : Int) : sighting_Wedge_1 s n t b a1 a2 c1 c2 fx fy tx ty F b1 b2 d1 d2 = if RV s n t b a1 a2 c1 c2 fx fy tx ty F ∧ Bx b1 b2 d1 d2 then 0 else 1 := by
  unfold sighting_Wedge_1
  rw [sval_dec, validBox_dec]
  by_cases h1 : RV s n t b a1 a2 c1 c2 fx fy tx ty F <;> by_cases h2 : Bx b1 b2 d1 d2 <;> simp [h1, h2]
theorem rwedge_dec (s n t b a1 a2 c1 c2 fx fy tx ty F b1 b2 d1 d2 : Int) : ref24_Wedge_0 s n t b a1 a2 c1 c2 fx fy tx ty F b1 b2 d1 d2 = decide (RV s n t b a1 a2 c1 c2 fx fy tx ty F ∧ Bx b1 b2 d1 d2 ∧ Sees a1 a2 c1 c2 fx fy tx ty F b1 b2 d1 d2) := by
  unfold ref24_Wedge_0
  rw [rval_dec, rbox_dec]
  by_cases h1 : RV s n t b a1 a2 c1 c2 fx fy tx ty F <;> by_cases h2 : Bx b1 b2 d1 d2
  · rw [rsees_dec h1 h2]; simp [h1, h2]
  all_goals simp [h1, h2]
theorem rwedge_err (s n t b a1 a2 c1 c2 fx fy tx ty F b1 b2 d1 d2 : Int) : ref24_Wedge_1 s n t b a1 a2 c1 c2 fx fy tx ty F b1 b2 d1 d2 = if RV s n t b a1 a2 c1 c2 fx fy tx ty F ∧ Bx b1 b2 d1 d2 then 0 else 1 := by
  unfold ref24_Wedge_1
  rw [rval_dec, rbox_dec]
  by_cases h1 : RV s n t b a1 a2 c1 c2 fx fy tx ty F <;> by_cases h2 : Bx b1 b2 d1 d2 <;> simp [h1, h2]

/-- The ends of a Box. -/
def rlo (a F u v : Int) : Int := if u < 0 ∨ v < 0 then max (a - F) (-1000000) else a
def rhi (a F u v : Int) : Int := if u > 0 ∨ v > 0 then min (a + F) 1000000 else a
theorem reach_is {a1 a2 u v F : Int} (h1 : -1000000 ≤ a1) (h2 : a2 ≤ 1000000) (h3 : a1 ≤ a2) (hF : 0 ≤ F ∧ F ≤ 1000000) : sighting_reach_0 a1 a2 u v F = rlo a1 F u v ∧ sighting_reach_1 a1 a2 u v F = rhi a2 F u v := by
  unfold sighting_reach_0 sighting_reach_1 rlo rhi
  simp (disch := omega) only [wrap_in, imax_max, imin_min]
  by_cases e1 : u < 0 ∨ v < 0 <;> by_cases e2 : u > 0 ∨ v > 0
  · rw [decide_eq_true (show min u v < 0 by omega), decide_eq_true (show max u v > 0 by omega)]; simp [e1, e2]
  · rw [decide_eq_true (show min u v < 0 by omega), decide_eq_false (show ¬ max u v > 0 by omega)]; simp [e1, e2]
  · rw [decide_eq_false (show ¬ min u v < 0 by omega), decide_eq_true (show max u v > 0 by omega)]; simp [e1, e2]
  · rw [decide_eq_false (show ¬ min u v < 0 by omega), decide_eq_false (show ¬ max u v > 0 by omega)]; simp [e1, e2]
theorem rreach_is {a1 a2 u v F : Int} (h1 : -1000000 ≤ a1) (h2 : a2 ≤ 1000000) (h3 : a1 ≤ a2) (hF : 0 ≤ F ∧ F ≤ 1000000) : ref24_reach_0 a1 a2 u v F = rlo a1 F u v ∧ ref24_reach_1 a1 a2 u v F = rhi a2 F u v := by
  unfold ref24_reach_0 ref24_reach_1 rlo rhi
  simp (disch := omega) only [wrap_in, imax_max, imin_min]
  have e0 : (decide (u < 0) || decide (v < 0)) = decide (u < 0 ∨ v < 0) := by rw [Bool.eq_iff_iff]; simp
  have e3 : (decide (u > 0) || decide (v > 0)) = decide (u > 0 ∨ v > 0) := by rw [Bool.eq_iff_iff]; simp
  rw [e0, e3]
  by_cases e1 : u < 0 ∨ v < 0 <;> by_cases e2 : u > 0 ∨ v > 0 <;> simp [e1, e2]
theorem box_cases (s n t b a1 a2 c1 c2 fx fy tx ty F : Int) :
    (RV s n t b a1 a2 c1 c2 fx fy tx ty F ∧ sighting_Box_0 s n t b a1 a2 c1 c2 fx fy tx ty F = rlo a1 F fx tx ∧ sighting_Box_1 s n t b a1 a2 c1 c2 fx fy tx ty F = rhi a2 F fx tx ∧ sighting_Box_2 s n t b a1 a2 c1 c2 fx fy tx ty F = rlo c1 F fy ty ∧ sighting_Box_3 s n t b a1 a2 c1 c2 fx fy tx ty F = rhi c2 F fy ty ∧ sighting_Box_4 s n t b a1 a2 c1 c2 fx fy tx ty F = 0) ∨
    (¬ RV s n t b a1 a2 c1 c2 fx fy tx ty F ∧ sighting_Box_0 s n t b a1 a2 c1 c2 fx fy tx ty F = 0 ∧ sighting_Box_1 s n t b a1 a2 c1 c2 fx fy tx ty F = 0 ∧ sighting_Box_2 s n t b a1 a2 c1 c2 fx fy tx ty F = 0 ∧ sighting_Box_3 s n t b a1 a2 c1 c2 fx fy tx ty F = 0 ∧ sighting_Box_4 s n t b a1 a2 c1 c2 fx fy tx ty F = 1) := by
  unfold sighting_Box_0 sighting_Box_1 sighting_Box_2 sighting_Box_3 sighting_Box_4
  rw [sval_dec]
  by_cases h : RV s n t b a1 a2 c1 c2 fx fy tx ty F
  · obtain ⟨_, _, _, _, hF, hA, _⟩ := id h
    unfold Bx at hA
    have e1 := @reach_is a1 a2 fx tx F (by omega) (by omega) (by omega) hF
    have e2 := @reach_is c1 c2 fy ty F (by omega) (by omega) (by omega) hF
    rw [e1.1, e1.2, e2.1, e2.2]
    simp [h]
  · simp [h]
theorem rbox_cases (s n t b a1 a2 c1 c2 fx fy tx ty F : Int) :
    (RV s n t b a1 a2 c1 c2 fx fy tx ty F ∧ ref24_Box_0 s n t b a1 a2 c1 c2 fx fy tx ty F = rlo a1 F fx tx ∧ ref24_Box_1 s n t b a1 a2 c1 c2 fx fy tx ty F = rhi a2 F fx tx ∧ ref24_Box_2 s n t b a1 a2 c1 c2 fx fy tx ty F = rlo c1 F fy ty ∧ ref24_Box_3 s n t b a1 a2 c1 c2 fx fy tx ty F = rhi c2 F fy ty ∧ ref24_Box_4 s n t b a1 a2 c1 c2 fx fy tx ty F = 0) ∨
    (¬ RV s n t b a1 a2 c1 c2 fx fy tx ty F ∧ ref24_Box_0 s n t b a1 a2 c1 c2 fx fy tx ty F = 0 ∧ ref24_Box_1 s n t b a1 a2 c1 c2 fx fy tx ty F = 0 ∧ ref24_Box_2 s n t b a1 a2 c1 c2 fx fy tx ty F = 0 ∧ ref24_Box_3 s n t b a1 a2 c1 c2 fx fy tx ty F = 0 ∧ ref24_Box_4 s n t b a1 a2 c1 c2 fx fy tx ty F = 1) := by
  unfold ref24_Box_0 ref24_Box_1 ref24_Box_2 ref24_Box_3 ref24_Box_4
  rw [rval_dec]
  by_cases h : RV s n t b a1 a2 c1 c2 fx fy tx ty F
  · obtain ⟨_, _, _, _, hF, hA, _⟩ := id h
    unfold Bx at hA
    have e1 := @rreach_is a1 a2 fx tx F (by omega) (by omega) (by omega) hF
    have e2 := @rreach_is c1 c2 fy ty F (by omega) (by omega) (by omega) hF
    rw [e1.1, e1.2, e2.1, e2.2]
    simp [h]
  · simp [h]

/-! ### the lists are treated alike -/
theorem sval_rval (e : List Int) : sval e = rval e := by unfold sval rval; rw [sval_dec, rval_dec]
theorem sall_rall (x y : Int) (e : List Int) : sall x y e = rall x y e := by unfold sall rall; rw [allows_dec, rallows_dec]
theorem valid_reports (l : List (List Int)) : sighting_valid_0 l = ref24_Reports_0 l := by
  rw [(valid_is l).2, (reports_is l).2, show sval = rval from funext sval_rval]
theorem mrgs_MI : ∀ (l : List (List Int)) (i : Nat) (s : List (List Int) × List (List Int)), (∀ e ∈ l, e.length = 13) → MI i s → MI (i + l.length) (mrgs i l s)
  | [], i, s, _, h => h
  | r :: l, i, s, hl, h => by
    have := mrgs_MI l (i + 1) (mrg i r s) (fun e he => hl e (List.mem_cons_of_mem _ he)) (mrg_MI (hl r List.mem_cons_self) h)
    rw [List.length_cons, show i + (l.length + 1) = i + 1 + l.length by omega]
    exact this
theorem mrgs_MI0 {l : List (List Int)} (h : ∀ e ∈ l, e.length = 13) : MI l.length (mrgs 0 l ([], [])) := by
  have := mrgs_MI l 0 ([], []) h (by simp [MI])
  rwa [Nat.zero_add] at this
theorem noIdx_one (p : List Int → Bool) : ∀ (l : List (List Int)) (i : Nat), ∀ e ∈ noIdx p i l, e.length = 1
  | [], i, e, he => by cases he
  | r :: l, i, e, he => by
    unfold noIdx at he
    cases hp : p r with
    | true => rw [hp] at he; exact noIdx_one p l (i + 1) e he
    | false =>
      rw [hp] at he
      rcases List.mem_cons.1 he with rfl | he
      · rfl
      · exact noIdx_one p l (i + 1) e he

/-! ### the head -/
def L3 : List (List Int) := [[1, 1, 0, 1, 0, 2, 0, 0, 1, 0, 1, 1, 10], [1, 1, 0, 1, 0, 2, 0, 0, 1, 0, 1, 1, 10], [1, 1, 0, 1, 0, 2, 0, 0, 1, 0, 1, 1, 9]]
def L2 : List (List Int) := [[1, 1, 0, 1, 0, 2, 0, 0, 1, 0, 1, 1, 10], [1, 1, 0, 1, 0, 2, 0, 0, 1, 0, 1, 1, 9]]
theorem L3_el : El13 L3 := by
  intro e he
  unfold L3 at he
  simp only [List.mem_cons, List.not_mem_nil, or_false] at he
  rcases he with rfl | rfl | rfl <;> (unfold elOk; repeat first | exact trivial | refine ⟨by decide, ?_⟩ | unfold elOk)
theorem L3_valid : sighting_valid_0 L3 = true := by rw [(valid_is L3).2]; decide +kernel
theorem L2_valid : sighting_valid_0 L2 = true := by rw [(valid_is L2).2]; decide +kernel
theorem L3_m0 : sighting_Merge_0 L3 = [[1, 1, 0, 1, 0, 2, 0, 0, 1, 0, 1, 1, 10]] := by rw [(smerge_0 L3 L3_el).1, L3_valid]; decide +kernel
theorem L3_m1 : sighting_Merge_1 L3 = [[2]] := by rw [(smerge_0 L3 L3_el).2, L3_valid]; decide +kernel
theorem L3_m2 : sighting_Merge_2 L3 = 0 := by unfold sighting_Merge_2; rw [L3_valid]; rfl
theorem L2_w0 : sighting_Wrong_0 10 10 L2 = [[1]] := by rw [swrong_0, L2_valid]; decide +kernel
theorem L2_w1 : sighting_Wrong_1 10 10 L2 = 0 := by unfold sighting_Wrong_1; rw [L2_valid]; decide +kernel
theorem same_L : ref24_Same_0 [[1, 1, 0, 1, 0, 2, 0, 0, 1, 0, 1, 1, 10]] [[1, 1, 0, 1, 0, 2, 0, 0, 1, 0, 1, 1, 10]] = true := by
  rw [same_eq (by decide) (by decide) (by decide)]; decide
theorem ints_L (n : Int) : ref24_Ints_0 [[n]] [[n]] = true := by
  rw [ints_eq (by simp) (by simp) (by simp)]; simp
theorem head_true : law24_head_0 = true := by
  unfold law24_head_0
  have e1 : sighting_Merge_2 [[(1 : Int), (1 : Int), (0 : Int), (1 : Int), (0 : Int), (2 : Int), (0 : Int), (0 : Int), (1 : Int), (0 : Int), (1 : Int), (1 : Int), (10 : Int)], [(1 : Int), (1 : Int), (0 : Int), (1 : Int), (0 : Int), (2 : Int), (0 : Int), (0 : Int), (1 : Int), (0 : Int), (1 : Int), (1 : Int), (10 : Int)], [(1 : Int), (1 : Int), (0 : Int), (1 : Int), (0 : Int), (2 : Int), (0 : Int), (0 : Int), (1 : Int), (0 : Int), (1 : Int), (1 : Int), (9 : Int)]] = 0 := L3_m2
  have e2 : sighting_Merge_0 [[(1 : Int), (1 : Int), (0 : Int), (1 : Int), (0 : Int), (2 : Int), (0 : Int), (0 : Int), (1 : Int), (0 : Int), (1 : Int), (1 : Int), (10 : Int)], [(1 : Int), (1 : Int), (0 : Int), (1 : Int), (0 : Int), (2 : Int), (0 : Int), (0 : Int), (1 : Int), (0 : Int), (1 : Int), (1 : Int), (10 : Int)], [(1 : Int), (1 : Int), (0 : Int), (1 : Int), (0 : Int), (2 : Int), (0 : Int), (0 : Int), (1 : Int), (0 : Int), (1 : Int), (1 : Int), (9 : Int)]] = _ := L3_m0
  have e3 : sighting_Merge_1 [[(1 : Int), (1 : Int), (0 : Int), (1 : Int), (0 : Int), (2 : Int), (0 : Int), (0 : Int), (1 : Int), (0 : Int), (1 : Int), (1 : Int), (10 : Int)], [(1 : Int), (1 : Int), (0 : Int), (1 : Int), (0 : Int), (2 : Int), (0 : Int), (0 : Int), (1 : Int), (0 : Int), (1 : Int), (1 : Int), (10 : Int)], [(1 : Int), (1 : Int), (0 : Int), (1 : Int), (0 : Int), (2 : Int), (0 : Int), (0 : Int), (1 : Int), (0 : Int), (1 : Int), (1 : Int), (9 : Int)]] = _ := L3_m1
  have e4 : sighting_Wrong_0 10 10 [[(1 : Int), (1 : Int), (0 : Int), (1 : Int), (0 : Int), (2 : Int), (0 : Int), (0 : Int), (1 : Int), (0 : Int), (1 : Int), (1 : Int), (10 : Int)], [(1 : Int), (1 : Int), (0 : Int), (1 : Int), (0 : Int), (2 : Int), (0 : Int), (0 : Int), (1 : Int), (0 : Int), (1 : Int), (1 : Int), (9 : Int)]] = _ := L2_w0
  have e5 : sighting_Wrong_1 10 10 [[(1 : Int), (1 : Int), (0 : Int), (1 : Int), (0 : Int), (2 : Int), (0 : Int), (0 : Int), (1 : Int), (0 : Int), (1 : Int), (1 : Int), (10 : Int)], [(1 : Int), (1 : Int), (0 : Int), (1 : Int), (0 : Int), (2 : Int), (0 : Int), (0 : Int), (1 : Int), (0 : Int), (1 : Int), (1 : Int), (9 : Int)]] = _ := L2_w1
  rw [e1, e2, e3, e4, e5, same_L, ints_L, ints_L]
  decide +kernel
theorem head_pre : law24_head_pre := by
  unfold law24_head_pre
  refine ⟨smerge_pre L3 L3_el, swrong_pre _ _ _, fun _ => ⟨?_, fun _ => ⟨?_, fun _ => ?_⟩⟩⟩
  · exact (same_is _ _ (show (sighting_Merge_0 L3).length < _ by rw [L3_m0]; decide)).1
  · exact (ints_is _ _ (show (sighting_Merge_1 L3).length < _ by rw [L3_m1]; decide)).1
  · exact (ints_is _ _ (show (sighting_Wrong_0 10 10 L2).length < _ by rw [L2_w0]; decide)).1
end Go.Proofs.Ytcpikjablgbegaa
