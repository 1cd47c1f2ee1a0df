/-
  The laws of package sighting on what the code computes.
-/
import Derived.Test.YtcpikjablgbegaaSightP
namespace Go.Proofs.Ytcpikjablgbegaa
open Go Go.Sy

theorem u32_bd {n : Int} (h : (Lit.int .u32 n).wf = true) : 0 ≤ n ∧ n ≤ 4294967295 := by
  have h1 : IntKind.u32.min = 0 := by decide
  have h2 : IntKind.u32.max = 4294967295 := by decide
  simp only [Lit.wf, h1, h2, Bool.and_eq_true, decide_eq_true_eq] at h
  exact h
theorem cr_self (a b : Int) : cr a b a b = 0 := by unfold cr; grind
/-- What a report allows, one that says less does. -/
theorem sees_wider {a1 a2 c1 c2 fx fy tx ty F a1' a2' c1' c2' fx' fy' tx' ty' F' b1 b2 d1 d2 b1' b2' d1' d2' : Int} (hD : 0 < cr fx fy tx ty) (hD' : 0 < cr fx' fy' tx' ty') (hF : 0 ≤ F) (hA : a1 ≤ a2 ∧ c1 ≤ c2) (hb : b1 ≤ b2 ∧ d1 ≤ d2)
    (h : Sees a1 a2 c1 c2 fx fy tx ty F b1 b2 d1 d2) (wA : a1' ≤ a1 ∧ a2 ≤ a2' ∧ c1' ≤ c1 ∧ c2 ≤ c2') (wF : F ≤ F') (wb : b1' ≤ b1 ∧ b2 ≤ b2' ∧ d1' ≤ d1 ∧ d2 ≤ d2')
    (k1 : 0 ≤ cr fx' fy' fx fy) (k2 : 0 ≤ cr fx' fy' tx ty) (k3 : 0 ≤ cr fx fy tx' ty') (k4 : 0 ≤ cr tx ty tx' ty') : Sees a1' a2' c1' c2' fx' fy' tx' ty' F' b1' b2' d1' d2' := by
  obtain ⟨m1, m2, h⟩ := h
  refine ⟨by omega, by omega, (core_iff hD' (by omega) (by omega)).2 (hit_wider hD ((core_iff hD m1 m2).1 h) (by omega) (by omega) (by omega) (by omega) k1 k2 k3 k4)⟩
theorem sees_mono {a1 a2 c1 c2 fx fy tx ty F b1 b2 d1 d2 b1' b2' d1' d2' : Int} (hD : 0 < cr fx fy tx ty) (hF : 0 ≤ F) (hA : a1 ≤ a2 ∧ c1 ≤ c2) (hb : b1 ≤ b2 ∧ d1 ≤ d2)
    (h : Sees a1 a2 c1 c2 fx fy tx ty F b1 b2 d1 d2) (wb : b1' ≤ b1 ∧ b2 ≤ b2' ∧ d1' ≤ d1 ∧ d2 ≤ d2') : Sees a1 a2 c1 c2 fx fy tx ty F b1' b2' d1' d2' :=
  sees_wider hD hD hF hA hb h (by omega) (by omega) wb (by rw [cr_self]; omega) (by omega) (by omega) (by rw [cr_self]; omega)
theorem box_bx {a1 a2 c1 c2 fx fy tx ty F : Int} (hA : Bx a1 a2 c1 c2) (hF : 0 ≤ F ∧ F ≤ 1000000) : Bx (rlo a1 F fx tx) (rhi a2 F fx tx) (rlo c1 F fy ty) (rhi c2 F fy ty) ∧ rlo a1 F fx tx ≤ a1 ∧ a2 ≤ rhi a2 F fx tx ∧ rlo c1 F fy ty ≤ c1 ∧ c2 ≤ rhi c2 F fy ty := by
  unfold Bx at *
  unfold rlo rhi
  split <;> split <;> split <;> split <;> omega
theorem reach_meet {a1 a2 b1 b2 F u v : Int} (ha : -1000000 ≤ a1 ∧ a1 ≤ a2 ∧ a2 ≤ 1000000) (hb : -1000000 ≤ b1 ∧ b1 ≤ b2 ∧ b2 ≤ 1000000) (hF : 0 ≤ F ∧ F ≤ 1000000) (m : max (b1 - a2) (-F) ≤ min (b2 - a1) F)
    (l1 : max (b1 - a2) (-F) ≤ 0 ∨ u > 0 ∨ v > 0) (l2 : min (b2 - a1) F ≥ 0 ∨ u < 0 ∨ v < 0) : max b1 (rlo a1 F u v) ≤ min b2 (rhi a2 F u v) := by
  have m1 : b1 - a2 ≤ F := by omega
  have m2 : -F ≤ b2 - a1 := by omega
  have k1 : b1 ≤ a2 ∨ (u > 0 ∨ v > 0) := by rcases l1 with h | h; (left; omega); exact Or.inr h
  have k2 : a1 ≤ b2 ∨ (u < 0 ∨ v < 0) := by rcases l2 with h | h; (left; omega); exact Or.inr h
  clear m l1 l2
  unfold rlo rhi
  by_cases c1 : u < 0 ∨ v < 0 <;> by_cases c2 : u > 0 ∨ v > 0
  · rw [if_pos c1, if_pos c2]; clear k1 k2 c1 c2; omega
  · rw [if_pos c1, if_neg c2]
    rcases k1 with k | k
    · clear k2 c1 c2; omega
    · exact absurd k c2
  · rw [if_neg c1, if_pos c2]
    rcases k2 with k | k
    · clear k1 c1 c2; omega
    · exact absurd k c1
  · rw [if_neg c1, if_neg c2]
    rcases k1 with k | k
    · rcases k2 with k' | k'
      · clear c1 c2; omega
      · exact absurd k' c1
    · exact absurd k c2
theorem sees_box {a1 a2 c1 c2 fx fy tx ty F b1 b2 d1 d2 : Int} (hA : Bx a1 a2 c1 c2) (hb : Bx b1 b2 d1 d2) (hF : 0 ≤ F ∧ F ≤ 1000000) (h : Sees a1 a2 c1 c2 fx fy tx ty F b1 b2 d1 d2) :
    max b1 (rlo a1 F fx tx) ≤ min b2 (rhi a2 F fx tx) ∧ max d1 (rlo c1 F fy ty) ≤ min d2 (rhi c2 F fy ty) := by
  obtain ⟨m1, m2, l1, l2, l3, l4, _⟩ := h
  obtain ⟨x1, x2, x3, x4, x5, x6⟩ := hA
  obtain ⟨y1, y2, y3, y4, y5, y6⟩ := hb
  exact ⟨reach_meet ⟨x1, x2, x3⟩ ⟨y1, y2, y3⟩ hF m1 l1 l2, reach_meet ⟨x4, x5, x6⟩ ⟨y4, y5, y6⟩ hF m2 l3 l4⟩

theorem sightingTrue_ok (s n t b a1 a2 c1 c2 fx fy tx ty F x y vx vy : Int) (hx : 0 ≤ x ∧ x ≤ 4294967295) (hy : 0 ≤ y ∧ y ≤ 4294967295) : law24_SightingTrue_0 s n t b a1 a2 c1 c2 fx fy tx ty F x y vx vy = true ∧ law24_SightingTrue_pre s n t b a1 a2 c1 c2 fx fy tx ty F x y vx vy := by
  unfold law24_SightingTrue_pre law24_SightingTrue_0
  rw [rval_dec, head_true]
  by_cases h : RV s n t b a1 a2 c1 c2 fx fy tx ty F
  · obtain ⟨_, _, _, _, hF, hA, hf, ht, hD⟩ := id h
    unfold Bx at hA
    have e0 : IntKind.i64.wrap (0 - F) = -F := by rw [wrap_in (by omega)]; omega
    have e1 : IntKind.i64.wrap x = x := wrap_in (by omega)
    have e2 : IntKind.i64.wrap y = y := wrap_in (by omega)
    have e3 : IntKind.i64.wrap (IntKind.i64.wrap (a2 - a1) + 1) = a2 - a1 + 1 := by simp (disch := omega) only [wrap_in]
    have e4 : IntKind.i64.wrap (IntKind.i64.wrap (c2 - c1) + 1) = c2 - c1 + 1 := by simp (disch := omega) only [wrap_in]
    rw [e0, e1, e2, e3, e4]
    refine ⟨?_, head_pre, fun _ => ⟨by omega, by omega⟩⟩
    have t1 := Int.tmod_nonneg (a2 - a1 + 1) hx.1
    have t2 := Int.tmod_lt_of_pos x (show 0 < a2 - a1 + 1 by omega)
    have t3 := Int.tmod_nonneg (c2 - c1 + 1) hy.1
    have t4 := Int.tmod_lt_of_pos y (show 0 < c2 - c1 + 1 by omega)
    generalize x.tmod (a2 - a1 + 1) = p at *
    generalize y.tmod (c2 - c1 + 1) = q at *
    by_cases hv : -F ≤ vx ∧ vx ≤ F ∧ -F ≤ vy ∧ vy ≤ F
    · have hv' : Pt vx vy := by unfold Pt; omega
      have e5 : IntKind.i64.wrap (IntKind.i64.wrap (a1 + p) + vx) = a1 + p + vx := by simp (disch := omega) only [wrap_in]
      have e6 : IntKind.i64.wrap (IntKind.i64.wrap (c1 + q) + vy) = c1 + q + vy := by simp (disch := omega) only [wrap_in]
      rw [rcross_is hf hv', rcross_is hv' ht, e5, e6, rpt_dec, allows_dec, allows_err]
      by_cases c1_ : cr fx fy vx vy < 0
      · simp [c1_]
      by_cases c2_ : cr vx vy tx ty < 0
      · simp [c2_]
      by_cases hp : Pt (a1 + p + vx) (c1 + q + vy)
      · have hs : Sees a1 a2 c1 c2 fx fy tx ty F (a1 + p + vx) (a1 + p + vx) (c1 + q + vy) (c1 + q + vy) :=
          ⟨by omega, by omega, (core_iff hD (by omega) (by omega)).2 ⟨vx, vy, 1, by omega, by omega, by omega, by omega, by omega, by omega, by omega⟩⟩
        simp [h, hp, hs]
      · simp [hp]
    · have : vx < -F ∨ vx > F ∨ vy < -F ∨ vy > F := by omega
      rcases this with h | h | h | h <;> simp [h]
  · refine ⟨by simp [h], head_pre, fun hb => ?_⟩
    simp [h] at hb

theorem sightingBox_ok (s n t b a1 a2 c1 c2 fx fy tx ty F x y : Int) : law24_SightingBox_0 s n t b a1 a2 c1 c2 fx fy tx ty F x y = true ∧ law24_SightingBox_pre s n t b a1 a2 c1 c2 fx fy tx ty F x y := by
  refine ⟨?_, head_pre⟩
  unfold law24_SightingBox_0
  rw [head_true, allows_dec, allows_err]
  rcases box_cases s n t b a1 a2 c1 c2 fx fy tx ty F with ⟨h, e0, e1, e2, e3, e4⟩ | ⟨h, e0, e1, e2, e3, e4⟩
  · rw [e0, e1, e2, e3, e4]
    obtain ⟨_, _, _, _, hF, hA, hf, ht, hD⟩ := id h
    obtain ⟨k1, k2⟩ := @box_bx a1 a2 c1 c2 fx fy tx ty F hA hF
    rcases withinBox_cases a1 a2 c1 c2 (rlo a1 F fx tx) (rhi a2 F fx tx) (rlo c1 F fy ty) (rhi c2 F fy ty) with ⟨_, _, w0, w1⟩ | ⟨w, _⟩
    · rw [w0, w1]
      by_cases hp : Pt x y
      · by_cases hs : Sees a1 a2 c1 c2 fx fy tx ty F x x y y
        · have := sees_box hA ((pt_bx x y).1 hp) hF hs
          rcases inBox_cases x y (rlo a1 F fx tx) (rhi a2 F fx tx) (rlo c1 F fy ty) (rhi c2 F fy ty) with ⟨_, _, i0, i1⟩ | ⟨w, _⟩
          · rw [i0, i1]
            simp [h, hp, hs, k2]
            omega
          · exact absurd ⟨hp, k1⟩ w
        · simp [hs, k2]
      · simp [hp, k2]
    · exact absurd ⟨hA, k1⟩ w
  · rw [e4]; rfl

theorem sightingWedge_ok (s n t b a1 a2 c1 c2 fx fy tx ty F x y b1 b2 d1 d2 g1 g2 h1 h2 : Int) : law24_SightingWedge_0 s n t b a1 a2 c1 c2 fx fy tx ty F x y b1 b2 d1 d2 g1 g2 h1 h2 = true ∧ law24_SightingWedge_pre s n t b a1 a2 c1 c2 fx fy tx ty F x y b1 b2 d1 d2 g1 g2 h1 h2 := by
  refine ⟨?_, head_pre⟩
  unfold law24_SightingWedge_0
  rw [head_true]
  simp only [allows_dec, allows_err, wedge_dec, wedge_err, rbox_dec]
  by_cases h : RV s n t b a1 a2 c1 c2 fx fy tx ty F
  · by_cases hb : Bx b1 b2 d1 d2
    · by_cases hg : Bx g1 g2 h1 h2
      · by_cases hp : Pt x y
        · obtain ⟨_, _, _, _, hF, hA, hf, ht, hD⟩ := id h
          have hpb := (pt_bx x y).1 hp
          obtain ⟨k1, k2⟩ := @box_bx a1 a2 c1 c2 fx fy tx ty F hA hF
          rcases box_cases s n t b a1 a2 c1 c2 fx fy tx ty F with ⟨_, e0, e1, e2, e3, e4⟩ | ⟨h', _⟩
          · rcases inBox_cases x y b1 b2 d1 d2 with ⟨_, _, i0, i1⟩ | ⟨w, _⟩
            · rcases withinBox_cases b1 b2 d1 d2 g1 g2 h1 h2 with ⟨_, _, w0, w1⟩ | ⟨w, _⟩
              · rw [e0, e1, e2, e3, e4, i0, i1, w0, w1]
                have hA' : a1 ≤ a2 ∧ c1 ≤ c2 := by unfold Bx at hA; omega
                have s1 : Sees a1 a2 c1 c2 fx fy tx ty F x x y y → (b1 ≤ x ∧ x ≤ b2 ∧ d1 ≤ y ∧ y ≤ d2) → Sees a1 a2 c1 c2 fx fy tx ty F b1 b2 d1 d2 := fun hs hi => sees_mono hD hF.1 hA' (by omega) hs hi
                have s2 : Sees a1 a2 c1 c2 fx fy tx ty F b1 b2 d1 d2 → (g1 ≤ b1 ∧ b2 ≤ g2 ∧ h1 ≤ d1 ∧ d2 ≤ h2) → Sees a1 a2 c1 c2 fx fy tx ty F g1 g2 h1 h2 := fun hs hi => sees_mono hD hF.1 hA' (by unfold Bx at hb; omega) hs hi
                have s3 : Sees a1 a2 c1 c2 fx fy tx ty F b1 b2 d1 d2 → _ := sees_box hA hb hF
                rcases meetBox_cases b1 b2 d1 d2 (rlo a1 F fx tx) (rhi a2 F fx tx) (rlo c1 F fy ty) (rhi c2 F fy ty) with ⟨_, _, m1, m2, q0, q1, q2, q3, q4⟩ | ⟨_, _, m1, q0, q1, q2, q3, q4⟩ | ⟨w, _⟩
                · rw [q0, q1, q2, q3, q4]
                  have bm : Bx (max b1 (rlo a1 F fx tx)) (min b2 (rhi a2 F fx tx)) (max d1 (rlo c1 F fy ty)) (min d2 (rhi c2 F fy ty)) := by unfold Bx at *; omega
                  simp [h, hb, hg, hp, hpb, bm]
                  refine ⟨?_, ?_⟩
                  · by_cases u1 : Sees a1 a2 c1 c2 fx fy tx ty F x x y y
                    · by_cases u2 : b1 ≤ x ∧ x ≤ b2 ∧ d1 ≤ y ∧ y ≤ d2
                      · right; exact s1 u1 u2
                      · left; right; omega
                    · left; left; exact u1
                  · by_cases u1 : Sees a1 a2 c1 c2 fx fy tx ty F b1 b2 d1 d2
                    · by_cases u2 : g1 ≤ b1 ∧ b2 ≤ g2 ∧ h1 ≤ d1 ∧ d2 ≤ h2
                      · right; exact s2 u1 u2
                      · left; right; omega
                    · left; left; exact u1
                · have ns : ¬ Sees a1 a2 c1 c2 fx fy tx ty F b1 b2 d1 d2 := fun hs => by have := s3 hs; omega
                  simp [h, hb, hg, hp, hpb, ns]
                  by_cases u1 : Sees a1 a2 c1 c2 fx fy tx ty F x x y y
                  · by_cases u2 : b1 ≤ x ∧ x ≤ b2 ∧ d1 ≤ y ∧ y ≤ d2
                    · exact absurd (s1 u1 u2) ns
                    · right; omega
                  · left; exact u1
                · exact absurd ⟨hb, k1⟩ w
              · exact absurd ⟨hb, hg⟩ w
            · exact absurd ⟨hp, hb⟩ w
          · exact absurd h h'
        · simp [hp]
      · simp [hg]
    · simp [hb]
  · simp [h]

theorem sightingWider_ok (s n t b a1 a2 c1 c2 fx fy tx ty F s_ n_ t_ b_ a1_ a2_ c1_ c2_ fx_ fy_ tx_ ty_ F_ x y b1 b2 d1 d2 : Int) : law24_SightingWider_0 s n t b a1 a2 c1 c2 fx fy tx ty F s_ n_ t_ b_ a1_ a2_ c1_ c2_ fx_ fy_ tx_ ty_ F_ x y b1 b2 d1 d2 = true ∧ law24_SightingWider_pre s n t b a1 a2 c1 c2 fx fy tx ty F s_ n_ t_ b_ a1_ a2_ c1_ c2_ fx_ fy_ tx_ ty_ F_ x y b1 b2 d1 d2 := by
  refine ⟨?_, head_pre⟩
  unfold law24_SightingWider_0
  rw [head_true]
  simp only [allows_dec, allows_err, wedge_dec, wedge_err, rval_dec]
  by_cases h : RV s n t b a1 a2 c1 c2 fx fy tx ty F
  · by_cases g : RV s_ n_ t_ b_ a1_ a2_ c1_ c2_ fx_ fy_ tx_ ty_ F_
    · obtain ⟨_, _, _, _, hF, hA, hf, ht, hD⟩ := id h
      obtain ⟨_, _, _, _, hF', hA', hf', ht', hD'⟩ := id g
      rw [rcross_is hf' hf, rcross_is hf ht', rcross_is hf' ht, rcross_is ht ht']
      by_cases w1 : F_ < F
      · simp [w1]
      by_cases w2 : a1_ ≤ a1 ∧ a2 ≤ a2_ ∧ c1_ ≤ c1 ∧ c2 ≤ c2_
      · by_cases w3 : cr fx_ fy_ fx fy ≥ 0 ∧ cr fx fy tx_ ty_ ≥ 0 ∧ cr fx_ fy_ tx ty ≥ 0 ∧ cr tx ty tx_ ty_ ≥ 0
        · have hAo : a1 ≤ a2 ∧ c1 ≤ c2 := by unfold Bx at hA; omega
          have up : ∀ b1 b2 d1 d2 : Int, Bx b1 b2 d1 d2 → Sees a1 a2 c1 c2 fx fy tx ty F b1 b2 d1 d2 → Sees a1_ a2_ c1_ c2_ fx_ fy_ tx_ ty_ F_ b1 b2 d1 d2 := fun b1 b2 d1 d2 hb hs =>
            sees_wider hD hD' hF.1 hAo (by unfold Bx at hb; omega) hs w2 (by omega) (by omega) w3.1 w3.2.2.1 w3.2.1 w3.2.2.2
          have u1 : ¬ (RV s n t b a1 a2 c1 c2 fx fy tx ty F ∧ Pt x y ∧ Sees a1 a2 c1 c2 fx fy tx ty F x x y y) ∨ (RV s_ n_ t_ b_ a1_ a2_ c1_ c2_ fx_ fy_ tx_ ty_ F_ ∧ Pt x y ∧ Sees a1_ a2_ c1_ c2_ fx_ fy_ tx_ ty_ F_ x x y y) := by
            by_cases q : RV s n t b a1 a2 c1 c2 fx fy tx ty F ∧ Pt x y ∧ Sees a1 a2 c1 c2 fx fy tx ty F x x y y
            · exact Or.inr ⟨g, q.2.1, up _ _ _ _ ((pt_bx x y).1 q.2.1) q.2.2⟩
            · exact Or.inl q
          have u2 : ¬ (RV s n t b a1 a2 c1 c2 fx fy tx ty F ∧ Bx b1 b2 d1 d2 ∧ Sees a1 a2 c1 c2 fx fy tx ty F b1 b2 d1 d2) ∨ (RV s_ n_ t_ b_ a1_ a2_ c1_ c2_ fx_ fy_ tx_ ty_ F_ ∧ Bx b1 b2 d1 d2 ∧ Sees a1_ a2_ c1_ c2_ fx_ fy_ tx_ ty_ F_ b1 b2 d1 d2) := by
            by_cases q : RV s n t b a1 a2 c1 c2 fx fy tx ty F ∧ Bx b1 b2 d1 d2 ∧ Sees a1 a2 c1 c2 fx fy tx ty F b1 b2 d1 d2
            · exact Or.inr ⟨g, q.2.1, up _ _ _ _ q.2.1 q.2.2⟩
            · exact Or.inl q
          have v1 : (!decide (RV s n t b a1 a2 c1 c2 fx fy tx ty F ∧ Pt x y ∧ Sees a1 a2 c1 c2 fx fy tx ty F x x y y) || decide (RV s_ n_ t_ b_ a1_ a2_ c1_ c2_ fx_ fy_ tx_ ty_ F_ ∧ Pt x y ∧ Sees a1_ a2_ c1_ c2_ fx_ fy_ tx_ ty_ F_ x x y y)) = true := by
            rcases u1 with u | u <;> simp [u]
          have v2 : (!decide (RV s n t b a1 a2 c1 c2 fx fy tx ty F ∧ Bx b1 b2 d1 d2 ∧ Sees a1 a2 c1 c2 fx fy tx ty F b1 b2 d1 d2) || decide (RV s_ n_ t_ b_ a1_ a2_ c1_ c2_ fx_ fy_ tx_ ty_ F_ ∧ Bx b1 b2 d1 d2 ∧ Sees a1_ a2_ c1_ c2_ fx_ fy_ tx_ ty_ F_ b1 b2 d1 d2)) = true := by
            rcases u2 with u | u <;> simp [u]
          rw [v1, v2]
          simp [h, g]
        · have : cr fx_ fy_ fx fy < 0 ∨ cr fx fy tx_ ty_ < 0 ∨ cr fx_ fy_ tx ty < 0 ∨ cr tx ty tx_ ty_ < 0 := by omega
          rcases this with u | u | u | u <;> simp [u, Int.not_le.2 u]
      · have : a1 < a1_ ∨ a2_ < a2 ∨ c1 < c1_ ∨ c2_ < c2 := by omega
        rcases this with u | u | u | u <;> simp [Int.not_le.2 u]
    · simp [g]
  · simp [h]

theorem crot (a b c d : Int) : cr (-b) a (-d) c = cr a b c d := by unfold cr; grind
theorem core_rot {fx fy tx ty xl xh yl yh : Int} : Core (-fy) fx (-ty) tx (-yh) (-yl) xl xh ↔ Core fx fy tx ty xl xh yl yh := by
  unfold Core
  rw [crot, crot, crot, crot, crot, crot, crot, crot]
  omega
theorem sees_rot {a1 a2 c1 c2 fx fy tx ty F b1 b2 d1 d2 u v : Int} : Sees (u - c2) (u - c1) (v + a1) (v + a2) (-fy) fx (-ty) tx F (u - d2) (u - d1) (v + b1) (v + b2) ↔ Sees a1 a2 c1 c2 fx fy tx ty F b1 b2 d1 d2 := by
  unfold Sees
  have e1 : max (u - d2 - (u - c1)) (-F) = -(min (d2 - c1) F) := by omega
  have e2 : min (u - d1 - (u - c2)) F = -(max (d1 - c2) (-F)) := by omega
  have e3 : max (v + b1 - (v + a2)) (-F) = max (b1 - a2) (-F) := by omega
  have e4 : min (v + b2 - (v + a1)) F = min (b2 - a1) F := by omega
  rw [e1, e2, e3, e4, core_rot]
  constructor
  · rintro ⟨h1, h2, h3⟩; exact ⟨h2, by omega, h3⟩
  · rintro ⟨h1, h2, h3⟩; exact ⟨by omega, h1, h3⟩
theorem sightingTurned_ok (s n t b a1 a2 c1 c2 fx fy tx ty F x y b1 b2 d1 d2 u v : Int) : law24_SightingTurned_0 s n t b a1 a2 c1 c2 fx fy tx ty F x y b1 b2 d1 d2 u v = true ∧ law24_SightingTurned_pre s n t b a1 a2 c1 c2 fx fy tx ty F x y b1 b2 d1 d2 u v := by
  refine ⟨?_, head_pre⟩
  unfold law24_SightingTurned_0
  rw [head_true, rval_dec, rpt_dec, rbox_dec, rpt_dec u v]
  by_cases h : RV s n t b a1 a2 c1 c2 fx fy tx ty F
  · by_cases hp : Pt x y
    · by_cases hb : Bx b1 b2 d1 d2
      · by_cases hu : Pt u v
        · obtain ⟨_, _, _, _, hF, hA, hf, ht, hD⟩ := id h
          have t0 : ∀ p q : Int, Pt p q → law24_turned_0 p q 0 0 = -q := fun p q hq => by unfold Pt at hq; unfold law24_turned_0; rw [wrap_in (by omega)]; omega
          have t1 : ∀ p q : Int, Pt p q → law24_turned_1 p q 0 0 = p := fun p q hq => by unfold Pt at hq; unfold law24_turned_1; rw [wrap_in (by omega)]; omega
          have p0 : law24_turned_0 x y u v = u - y := by unfold Pt at hu hp; unfold law24_turned_0; rw [wrap_in (by omega)]
          have p1 : law24_turned_1 x y u v = v + x := by unfold Pt at hu hp; unfold law24_turned_1; rw [wrap_in (by omega)]
          have r0 : ∀ a1 a2 c1 c2 : Int, Bx a1 a2 c1 c2 → law24_around_0 a1 a2 c1 c2 u v = u - c2 := fun a1 a2 c1 c2 hq => by unfold Pt at hu; unfold Bx at hq; unfold law24_around_0; rw [wrap_in (by omega)]
          have r1 : ∀ a1 a2 c1 c2 : Int, Bx a1 a2 c1 c2 → law24_around_1 a1 a2 c1 c2 u v = u - c1 := fun a1 a2 c1 c2 hq => by unfold Pt at hu; unfold Bx at hq; unfold law24_around_1; rw [wrap_in (by omega)]
          have r2 : ∀ a1 a2 c1 c2 : Int, Bx a1 a2 c1 c2 → law24_around_2 a1 a2 c1 c2 u v = v + a1 := fun a1 a2 c1 c2 hq => by unfold Pt at hu; unfold Bx at hq; unfold law24_around_2; rw [wrap_in (by omega)]
          have r3 : ∀ a1 a2 c1 c2 : Int, Bx a1 a2 c1 c2 → law24_around_3 a1 a2 c1 c2 u v = v + a2 := fun a1 a2 c1 c2 hq => by unfold Pt at hu; unfold Bx at hq; unfold law24_around_3; rw [wrap_in (by omega)]
          rw [t0 _ _ hf, t1 _ _ hf, t0 _ _ ht, t1 _ _ ht, p0, p1, r0 _ _ _ _ hA, r1 _ _ _ _ hA, r2 _ _ _ _ hA, r3 _ _ _ _ hA, r0 _ _ _ _ hb, r1 _ _ _ _ hb, r2 _ _ _ _ hb, r3 _ _ _ _ hb, rval_dec, rpt_dec, rbox_dec]
          by_cases g : RV s n t b (u - c2) (u - c1) (v + a1) (v + a2) (-fy) fx (-ty) tx F
          · by_cases gp : Pt (u - y) (v + x)
            · by_cases gb_ : Bx (u - d2) (u - d1) (v + b1) (v + b2)
              · rw [allows_err, allows_err, wedge_err, wedge_err, allows_dec, allows_dec, wedge_dec, wedge_dec]
                obtain ⟨_, _, _, _, _, gA, _⟩ := id g
                rcases box_cases s n t b a1 a2 c1 c2 fx fy tx ty F with ⟨_, e0, e1, e2, e3, e4⟩ | ⟨h', _⟩
                · rcases box_cases s n t b (u - c2) (u - c1) (v + a1) (v + a2) (-fy) fx (-ty) tx F with ⟨_, q0, q1, q2, q3, q4⟩ | ⟨h', _⟩
                  · obtain ⟨k1, k2⟩ := @box_bx a1 a2 c1 c2 fx fy tx ty F hA hF
                    rw [e0, e1, e2, e3, e4, q0, q1, q2, q3, q4, r0 _ _ _ _ k1, r1 _ _ _ _ k1, r2 _ _ _ _ k1, r3 _ _ _ _ k1]
                    simp only [sees_rot]
                    simp only [h, hp, hb, hu, g, gp, gb_, true_and, and_self, if_true, decide_true, Bool.not_true, Bool.or_false, cond_false, Bool.true_and, beq_self_eq_true, Bool.and_true]
                    simp only [Bool.or_eq_true, Bool.and_eq_true, beq_iff_eq]
                    clear e0 e1 e2 e3 e4 q0 q1 q2 q3 q4 k1 k2 r0 r1 r2 r3 t0 t1 p0 p1 h g hD hf ht gp gb_ hp hb
                    unfold Bx at hA gA
                    unfold Pt at hu
                    unfold rlo rhi
                    by_cases z1 : fx < 0 ∨ tx < 0 <;> by_cases z2 : fx > 0 ∨ tx > 0 <;> by_cases z3 : fy < 0 ∨ ty < 0 <;> by_cases z4 : fy > 0 ∨ ty > 0 <;>
                      simp only [z1, z2, z3, z4, if_true, if_false, true_and, and_true, or_true, show (-fy < 0 ∨ -ty < 0) ↔ (fy > 0 ∨ ty > 0) by omega, show (-fy > 0 ∨ -ty > 0) ↔ (fy < 0 ∨ ty < 0) by omega] <;> omega
                  · exact absurd g h'
                · exact absurd h h'
              · simp [gb_]
            · simp [gp]
          · simp [g]
        · simp [hu]
      · simp [hb]
    · simp [hp]
  · simp [h]

theorem sightingMatches_ok (s n t b a1 a2 c1 c2 fx fy tx ty F x y b1 b2 d1 d2 : Int) (list : List (List Int)) (h13 : El13 list) : law24_SightingMatchesReference_0 s n t b a1 a2 c1 c2 fx fy tx ty F x y b1 b2 d1 d2 list = true ∧ law24_SightingMatchesReference_pre s n t b a1 a2 c1 c2 fx fy tx ty F x y b1 b2 d1 d2 list := by
  have m := mrgs_MI0 h13.len
  have sm0 := (smerge_0 list h13).1
  have sm1 := (smerge_0 list h13).2
  have rm0 := (rmerge_0 list h13.len).1
  have rm1 := (rmerge_0 list h13.len).2
  have sw0 := swrong_0 x y list
  have rw0 := rwrong_0 x y list
  have em0 : ref24_Merge_0 list = sighting_Merge_0 list := by rw [sm0, rm0, valid_reports]
  have em1 : ref24_Merge_1 list = sighting_Merge_1 list := by rw [sm1, rm1, valid_reports]
  have em2 : ref24_Merge_2 list = sighting_Merge_2 list := by unfold ref24_Merge_2 sighting_Merge_2; rw [valid_reports]
  have ew0 : ref24_Wrong_0 x y list = sighting_Wrong_0 x y list := by rw [sw0, rw0, valid_reports, plane_dec, rpt_dec, show sall x y = rall x y from funext (sall_rall x y)]
  have ew1 : ref24_Wrong_1 x y list = sighting_Wrong_1 x y list := by unfold ref24_Wrong_1 sighting_Wrong_1; rw [valid_reports, plane_dec, rpt_dec]
  have small : ∀ {X : List (List Int)}, (sighting_valid_0 list = true → X.length ≤ list.length) → (sighting_valid_0 list = false → X = []) → X.length < 4611686018427387904 := by
    intro X h1 h2
    cases hv : sighting_valid_0 list with
    | false => rw [h2 hv]; decide
    | true =>
      have h3 := h1 hv
      rw [(valid_is list).2] at hv
      simp only [Bool.and_eq_true, decide_eq_true_eq] at hv
      omega
  have b0 : (sighting_Merge_0 list).length < 4611686018427387904 := small (fun hv => by rw [sm0, hv]; exact m.1) (fun hv => by rw [sm0, hv]; rfl)
  have b1_ : (sighting_Merge_1 list).length < 4611686018427387904 := small (fun hv => by rw [sm1, hv]; exact m.2.1) (fun hv => by rw [sm1, hv]; rfl)
  have b2_ : (sighting_Wrong_0 x y list).length < 4611686018427387904 := small (fun hv => by rw [sw0, hv]; cases plane_Valid_0 x y with | false => simp | true => exact noIdx_len _ _ _) (fun hv => by rw [sw0, hv]; rfl)
  have f0 : ∀ e ∈ sighting_Merge_0 list, e.length = 13 := by rw [sm0]; cases sighting_valid_0 list with | false => intro e he; cases he | true => exact m.2.2.1
  have f1 : ∀ e ∈ sighting_Merge_1 list, e.length = 1 := by rw [sm1]; cases sighting_valid_0 list with | false => intro e he; cases he | true => exact m.2.2.2
  have f2 : ∀ e ∈ sighting_Wrong_0 x y list, e.length = 1 := by
    rw [sw0]
    cases (!sighting_valid_0 list || !plane_Valid_0 x y) with
    | true => intro e he; cases he
    | false => exact noIdx_one _ _ _
  constructor
  · unfold law24_SightingMatchesReference_0
    rw [em0, em1, em2, ew0, ew1, same_eq b0 f0 f0, ints_eq b1_ f1 f1, ints_eq b2_ f2 f2, head_true]
    simp only [sval_dec, rval_dec, allows_dec, allows_err, rallows_dec, rallows_err, wedge_dec, wedge_err, rwedge_dec, rwedge_err]
    rcases box_cases s n t b a1 a2 c1 c2 fx fy tx ty F with ⟨h, e0, e1, e2, e3, e4⟩ | ⟨h, e0, e1, e2, e3, e4⟩ <;> rcases rbox_cases s n t b a1 a2 c1 c2 fx fy tx ty F with ⟨h', q0, q1, q2, q3, q4⟩ | ⟨h', q0, q1, q2, q3, q4⟩
    · rw [e0, e1, e2, e3, e4, q0, q1, q2, q3, q4]; simp
    · exact absurd h h'
    · exact absurd h' h
    · rw [e0, e1, e2, e3, e4, q0, q1, q2, q3, q4]; simp
  · unfold law24_SightingMatchesReference_pre
    exact ⟨head_pre, smerge_pre list h13, rmerge_pre list h13.len, fun _ => (same_is _ _ b0).1, fun _ => (ints_is _ _ b1_).1, swrong_pre _ _ _, rwrong_pre _ _ _, fun _ => (ints_is _ _ b2_).1⟩

/-! ### Wrong -/
theorem mem_noIdx (p : List Int → Bool) : ∀ (l : List (List Int)) (i j : Nat), ([((j : Nat) : Int)] ∈ noIdx p i l ↔ i ≤ j ∧ j < i + l.length ∧ p (l.getD (j - i) []) = false)
  | [], i, j => by simp [noIdx]; omega
  | r :: l, i, j => by
    have ih := mem_noIdx p l (i + 1) j
    unfold noIdx
    by_cases e : j = i
    · subst e
      have ih' : ¬ [((j : Nat) : Int)] ∈ noIdx p (j + 1) l := fun h => by have := ih.1 h; omega
      cases hp : p r with
      | true => simp [ih', hp]
      | false => simp [hp]
    · have e2 : (r :: l).getD (j - i) [] = l.getD (j - (i + 1)) [] ∨ j < i := by
        by_cases hj : i < j
        · left; rw [show j - i = (j - (i + 1)) + 1 by omega]; rfl
        · right; omega
      have e3 : ([((j : Nat) : Int)] ∈ ((bif p r then noIdx p (i + 1) l else [(i : Int)] :: noIdx p (i + 1) l) : List (List Int))) ↔ [((j : Nat) : Int)] ∈ noIdx p (i + 1) l := by
        cases p r with
        | true => rfl
        | false =>
          simp only [cond_false, List.mem_cons]
          constructor
          · rintro (h | h)
            · exfalso; simp at h; omega
            · exact h
          · exact Or.inr
      rw [e3, ih]
      rcases e2 with e2 | e2
      · rw [e2, List.length_cons]
        by_cases hj : i < j
        · constructor <;> rintro ⟨h1, h2, h3⟩ <;> exact ⟨by omega, by omega, h3⟩
        · constructor <;> rintro ⟨h1, h2, h3⟩ <;> omega
      · constructor <;> rintro ⟨h1, h2, h3⟩ <;> omega
/-- A loop that looks for a number in a list of numbers. -/
theorem upto_any (l : List (List Int)) (z : Int) : ∀ i, i ≤ l.length → upto (fun i s => s || (l.getD i []).getD 0 0 == z) i false = (l.take i).any fun e => e.getD 0 0 == z
  | 0, _ => by simp [upto]
  | i + 1, h => by rw [upto, upto_any l z i (by omega), take_succ' (by omega), List.any_append]; simp
theorem swrongl1_is (x y b1 b2 d1 d2 : Int) (list : List (List Int)) (y0 : List U) (hl : (sighting_Wrong_0 x y list).length ≤ 60) :
    loopOk (law24_SightingWrong_l1_step x y b1 b2 d1 d2 list y0) (law24_SightingWrong_l1_init x y b1 b2 d1 d2 list y0) ∧ gb (law24_SightingWrong_l1 x y b1 b2 d1 d2 list y0).snd 0 = (sighting_Wrong_0 x y list).any fun e => e.getD 0 0 == gi y0 1 := by
  have key := loop_fold (step := law24_SightingWrong_l1_step x y b1 b2 d1 d2 list y0) (sighting_Wrong_0 x y list).length (fun i s => [.b s, .i i]) (fun i s => s || ((sighting_Wrong_0 x y list).getD i []).getD 0 0 == gi y0 1) (fun _ _ => True) 1 (fun s => [.b s, .i (sighting_Wrong_0 x y list).length])
    (fun _ _ _ _ => trivial)
    (fun i s hi _ => by
      unfold law24_SightingWrong_l1_step
      simp only [gi_1, gi_z, gb_z, dlt hi, guardP_pos (inR_of hi), Int.toNat_natCast, wrap_succ (show i < 4611686018427387904 by omega)])
    (fun s _ => by
      unfold law24_SightingWrong_l1_step
      simp only [gi_1, gi_z, gb_z, dnlt]) (s := false) trivial
  refine ⟨key.1, ?_⟩
  have e : law24_SightingWrong_l1 x y b1 b2 d1 d2 list y0 = _ := key.2.1
  rw [e]
  simp only [gb_z]
  rw [upto_any _ _ _ (Nat.le_refl _), List.take_length]
theorem sightingWrong_ok (x y b1 b2 d1 d2 : Int) (list : List (List Int)) : law24_SightingWrong_0 x y b1 b2 d1 d2 list = true ∧ law24_SightingWrong_pre x y b1 b2 d1 d2 list := by
  unfold law24_SightingWrong_0 law24_SightingWrong_pre
  rw [head_true]
  by_cases hv : sighting_valid_0 list = true ∧ Pt x y
  · obtain ⟨hv, hp⟩ := hv
    have hv' := hv
    rw [(valid_is list).2] at hv'
    simp only [Bool.and_eq_true, decide_eq_true_eq, List.all_eq_true] at hv'
    have w1 : sighting_Wrong_1 x y list = 0 := by unfold sighting_Wrong_1; rw [hv, plane_dec]; simp [hp]
    have w0 : sighting_Wrong_0 x y list = noIdx (sall x y) 0 list := by rw [swrong_0, hv, plane_dec]; simp [hp]
    have hlen : (sighting_Wrong_0 x y list).length ≤ list.length := by rw [w0]; exact noIdx_len _ _ _
    have any_is : ∀ i, i < list.length → ((sighting_Wrong_0 x y list).any fun e => e.getD 0 0 == (i : Int)) = !sall x y (list.getD i []) := by
      intro i hi
      have : ((sighting_Wrong_0 x y list).any fun e => e.getD 0 0 == (i : Int)) = decide ([(i : Int)] ∈ sighting_Wrong_0 x y list) := by
        rw [Bool.eq_iff_iff, List.any_eq_true, decide_eq_true_eq]
        constructor
        · rintro ⟨e, he, h⟩
          have h1 : e.length = 1 := by rw [w0] at he; exact noIdx_one _ _ _ e he
          match e, h1, he, h with
          | [a], _, he, h => simp at h; rw [← h]; exact he
        · intro h; exact ⟨_, h, by simp⟩
      rw [this, Bool.eq_iff_iff, decide_eq_true_eq, w0, mem_noIdx]
      simp [hi]
    have key := loop_fold (step := law24_SightingWrong_l0_step x y b1 b2 d1 d2 list) list.length (fun i s => [.b s, .i i]) (fun _ s => s) (fun _ _ => True) 1 (fun s => [.b s, .i list.length])
      (fun _ _ _ _ => trivial)
      (fun i s hi _ => by
        unfold law24_SightingWrong_l0_step
        have l1 := swrongl1_is x y b1 b2 d1 d2 list [.b s, .i i] (by omega)
        rw [l1.2]
        simp only [gi_1, gi_z, gb_z, dlt hi, guardP_pos (inR_of hi), guardP_pos l1.1, Int.toNat_natCast, wrap_succ (show i < 4611686018427387904 by omega), any_is i hi]
        have hr := hv'.2 _ (getD_mem hi)
        unfold sval at hr
        rw [sval_dec, decide_eq_true_eq] at hr
        unfold sall
        simp only [allows_dec, allows_err, wedge_dec, wedge_err]
        simp only [hr, hp, true_and, if_true, beq_self_eq_true, Bool.and_true, and_self]
        obtain ⟨_, _, _, _, hF, hA, hf, ht, hD⟩ := hr
        generalize (list.getD i []).getD 4 0 = a1 at *
        generalize (list.getD i []).getD 5 0 = a2 at *
        generalize (list.getD i []).getD 6 0 = c1 at *
        generalize (list.getD i []).getD 7 0 = c2 at *
        generalize (list.getD i []).getD 8 0 = fx at *
        generalize (list.getD i []).getD 9 0 = fy at *
        generalize (list.getD i []).getD 10 0 = tx at *
        generalize (list.getD i []).getD 11 0 = ty at *
        generalize (list.getD i []).getD 12 0 = F at *
        have hA' : a1 ≤ a2 ∧ c1 ≤ c2 := by unfold Bx at hA; omega
        by_cases hb : Bx b1 b2 d1 d2
        · have s1 : Sees a1 a2 c1 c2 fx fy tx ty F x x y y → (b1 ≤ x ∧ x ≤ b2 ∧ d1 ≤ y ∧ y ≤ d2) → Sees a1 a2 c1 c2 fx fy tx ty F b1 b2 d1 d2 := fun hs hi => sees_mono hD hF.1 hA' (by omega) hs hi
          by_cases u1 : Sees a1 a2 c1 c2 fx fy tx ty F x x y y
          · by_cases u2 : b1 ≤ x ∧ x ≤ b2 ∧ d1 ≤ y ∧ y ≤ d2
            · have u3 := s1 u1 u2
              simp [hb, u1, u3]
            · have u3 : b1 ≤ x → x ≤ b2 → d1 ≤ y → y ≤ d2 → False := fun a b c d => u2 ⟨a, b, c, d⟩
              have u4 : (decide (b1 ≤ x) && decide (x ≤ b2) && decide (d1 ≤ y) && decide (y ≤ d2)) = false := by
                rw [Bool.eq_false_iff]; simp; omega
              simp [hb, u1, u4]
          · simp [hb, u1]
        · simp [hb])
      (fun s _ => by
        unfold law24_SightingWrong_l0_step
        simp only [gi_1, gi_z, gb_z, dnlt]) (s := true) trivial
    have hstay : ∀ n, upto (fun (_ : Nat) (s : Bool) => s) n true = true := fun n => by
      induction n with
      | zero => rfl
      | succ n ih => exact ih
    have init : law24_SightingWrong_l0_init x y b1 b2 d1 d2 list = [.b true, .i 0] := by unfold law24_SightingWrong_l0_init; rw [head_true]
    have e : law24_SightingWrong_l0 x y b1 b2 d1 d2 list = (2, [.b (upto (fun (_ : Nat) (s : Bool) => s) list.length true), .i list.length]) := by
      unfold law24_SightingWrong_l0
      rw [init]
      exact key.2.1
    rw [e, init, w1, hstay]
    refine ⟨?_, head_pre, swrong_pre _ _ _, fun _ => key.1⟩
    have n60 : decide ((list.length : Int) > 60) = false := by simp; omega
    rw [n60]
    simp [gb_z]
    omega
  · have w1 : sighting_Wrong_1 x y list = 1 := by
      unfold sighting_Wrong_1
      rw [plane_dec]
      by_cases h1 : sighting_valid_0 list = true
      · have h2 : ¬ Pt x y := fun h => hv ⟨h1, h⟩
        simp [h2]
      · simp [h1]
    rw [w1]
    refine ⟨by simp, head_pre, swrong_pre _ _ _, fun h => ?_⟩
    simp at h
end Go.Proofs.Ytcpikjablgbegaa
