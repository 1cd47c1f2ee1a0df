/-
  A cone and a box of vectors: the tests of package sighting hold exactly if they have a (rational) vector in common.
-/
import Derived.Test.YtcpikjablgbegaaSyLq
namespace Go.Proofs.Ytcpikjablgbegaa
open Go Go.Sy

/-- Cross product. -/
def cr (a b c d : Int) : Int := a * d - b * c
/-- The tests. -/
def Core (fx fy tx ty xl xh yl yh : Int) : Prop :=
  (xl ≤ 0 ∨ fx > 0 ∨ tx > 0) ∧ (xh ≥ 0 ∨ fx < 0 ∨ tx < 0) ∧ (yl ≤ 0 ∨ fy > 0 ∨ ty > 0) ∧ (yh ≥ 0 ∨ fy < 0 ∨ ty < 0) ∧
  (cr fx fy xl yl ≥ 0 ∨ cr fx fy xl yh ≥ 0 ∨ cr fx fy xh yl ≥ 0 ∨ cr fx fy xh yh ≥ 0) ∧
  (cr xl yl tx ty ≥ 0 ∨ cr xl yh tx ty ≥ 0 ∨ cr xh yl tx ty ≥ 0 ∨ cr xh yh tx ty ≥ 0)
instance (fx fy tx ty xl xh yl yh : Int) : Decidable (Core fx fy tx ty xl xh yl yh) := by unfold Core; infer_instance
/-- A vector of both, times d. -/
def Hit (fx fy tx ty xl xh yl yh : Int) : Prop :=
  ∃ vx vy d, 0 < d ∧ d * xl ≤ vx ∧ vx ≤ d * xh ∧ d * yl ≤ vy ∧ vy ≤ d * yh ∧ 0 ≤ cr fx fy vx vy ∧ 0 ≤ cr vx vy tx ty

theorem mul_le {d a b : Int} (hd : 0 ≤ d) (h : a ≤ b) : d * a ≤ d * b := Int.mul_le_mul_of_nonneg_left h hd
/-- Behind the two corners: one between them is in the cone. -/
theorem between {fx fy tx ty xl xh yl yh ax ay bx by_ : Int} (hD : 0 < cr fx fy tx ty) (ha : xl ≤ ax ∧ ax ≤ xh ∧ yl ≤ ay ∧ ay ≤ yh) (hb : xl ≤ bx ∧ bx ≤ xh ∧ yl ≤ by_ ∧ by_ ≤ yh)
    (fa : 0 ≤ cr fx fy ax ay) (gb : 0 ≤ cr bx by_ tx ty)
    (hf : ∀ vx vy d, 0 < d → d * xl ≤ vx → vx ≤ d * xh → d * yl ≤ vy → vy ≤ d * yh → cr fx fy vx vy = 0 → 0 ≤ cr vx vy tx ty ∨ ∀ vx vy d, 0 < d → d * xl ≤ vx → vx ≤ d * xh → d * yl ≤ vy → vy ≤ d * yh → cr vx vy tx ty = 0 → 0 ≤ cr fx fy vx vy) :
    Hit fx fy tx ty xl xh yl yh := by
  by_cases ga : 0 ≤ cr ax ay tx ty
  · exact ⟨ax, ay, 1, by omega, by omega, by omega, by omega, by omega, fa, ga⟩
  by_cases fb : 0 ≤ cr fx fy bx by_
  · exact ⟨bx, by_, 1, by omega, by omega, by omega, by omega, by omega, fb, gb⟩
  -- f a ≥ 0 > f b; g b ≥ 0 > g a
  have mix : ∀ s t : Int, 0 ≤ s → 0 ≤ t → 0 < s + t → (s + t) * xl ≤ s * ax + t * bx ∧ s * ax + t * bx ≤ (s + t) * xh ∧ (s + t) * yl ≤ s * ay + t * by_ ∧ s * ay + t * by_ ≤ (s + t) * yh := by
    intro s t hs ht _
    have h1 := mul_le hs ha.1
    have h2 := mul_le ht hb.1
    have h3 := mul_le hs ha.2.1
    have h4 := mul_le ht hb.2.1
    have h5 := mul_le hs ha.2.2.1
    have h6 := mul_le ht hb.2.2.1
    have h7 := mul_le hs ha.2.2.2
    have h8 := mul_le ht hb.2.2.2
    rw [Int.add_mul, Int.add_mul, Int.add_mul, Int.add_mul]
    omega
  have hs1 : 0 ≤ -cr fx fy bx by_ := by omega
  have ht1 : 0 ≤ cr fx fy ax ay := fa
  have hd1 : 0 < -cr fx fy bx by_ + cr fx fy ax ay := by omega
  obtain ⟨m1, m2, m3, m4⟩ := mix _ _ hs1 ht1 hd1
  have z1 : cr fx fy (-cr fx fy bx by_ * ax + cr fx fy ax ay * bx) (-cr fx fy bx by_ * ay + cr fx fy ax ay * by_) = 0 := by unfold cr; grind
  rcases hf _ _ _ hd1 m1 m2 m3 m4 z1 with h | h
  · exact ⟨_, _, _, hd1, m1, m2, m3, m4, by rw [z1]; omega, h⟩
  · have hs2 : 0 ≤ cr bx by_ tx ty := gb
    have ht2 : 0 ≤ -cr ax ay tx ty := by omega
    have hd2 : 0 < cr bx by_ tx ty + -cr ax ay tx ty := by omega
    obtain ⟨k1, k2, k3, k4⟩ := mix _ _ hs2 ht2 hd2
    have z2 : cr (cr bx by_ tx ty * ax + -cr ax ay tx ty * bx) (cr bx by_ tx ty * ay + -cr ax ay tx ty * by_) tx ty = 0 := by unfold cr; grind
    exact ⟨_, _, _, hd2, k1, k2, k3, k4, h _ _ _ hd2 k1 k2 k3 k4 z2, by rw [z2]; omega⟩

theorem id_x (fx fy tx ty vx vy : Int) : cr fx fy tx ty * vx = cr vx vy tx ty * fx + cr fx fy vx vy * tx := by unfold cr; grind
theorem id_y (fx fy tx ty vx vy : Int) : cr fx fy tx ty * vy = cr vx vy tx ty * fy + cr fx fy vx vy * ty := by unfold cr; grind
theorem pos_of_mul {a b : Int} (h : 0 < a * b) (hb : 0 < b) : 0 ≤ a := by
  by_cases h' : 0 ≤ a
  · exact h'
  · have := Int.mul_le_mul_of_nonneg_right (show a ≤ 0 by omega) (show 0 ≤ b by omega)
    omega
theorem pos_of_mul' {a b : Int} (h : a * b < 0) (hb : b < 0) : 0 ≤ a := by
  have : 0 < a * -b := by rw [Int.mul_neg]; omega
  exact pos_of_mul this (by omega)
theorem mul_neg_of {a b : Int} (ha : 0 < a) (hb : b < 0) : a * b < 0 := Int.mul_neg_of_pos_of_neg ha hb

theorem hit_of_core {fx fy tx ty xl xh yl yh : Int} (hD : 0 < cr fx fy tx ty) (hx : xl ≤ xh) (hy : yl ≤ yh) (h : Core fx fy tx ty xl xh yl yh) : Hit fx fy tx ty xl xh yl yh := by
  obtain ⟨h1, h2, h3, h4, h5, h6⟩ := h
  have ca : ∃ ax ay, (xl ≤ ax ∧ ax ≤ xh ∧ yl ≤ ay ∧ ay ≤ yh) ∧ 0 ≤ cr fx fy ax ay := by
    rcases h5 with h | h | h | h
    · exact ⟨xl, yl, by omega, h⟩
    · exact ⟨xl, yh, by omega, h⟩
    · exact ⟨xh, yl, by omega, h⟩
    · exact ⟨xh, yh, by omega, h⟩
  have cb : ∃ bx by_, (xl ≤ bx ∧ bx ≤ xh ∧ yl ≤ by_ ∧ by_ ≤ yh) ∧ 0 ≤ cr bx by_ tx ty := by
    rcases h6 with h | h | h | h
    · exact ⟨xl, yl, by omega, h⟩
    · exact ⟨xl, yh, by omega, h⟩
    · exact ⟨xh, yl, by omega, h⟩
    · exact ⟨xh, yh, by omega, h⟩
  obtain ⟨ax, ay, ha, fa⟩ := ca
  obtain ⟨bx, by_, hb, gb⟩ := cb
  by_cases o1 : 0 < xl
  · refine between hD ha hb fa gb fun vx vy d hd v1 v2 v3 v4 z => ?_
    rcases h1 with h | h | h
    · omega
    · left
      have e := id_x fx fy tx ty vx vy
      rw [z, Int.zero_mul, Int.add_zero] at e
      have p1 := Int.mul_pos hd o1
      have p2 := Int.mul_pos hD (show 0 < vx by omega)
      exact pos_of_mul (by omega) h
    · right
      intro vx vy d hd v1 v2 v3 v4 z
      have e := id_x fx fy tx ty vx vy
      rw [z, Int.zero_mul, Int.zero_add] at e
      have p1 := Int.mul_pos hd o1
      have p2 := Int.mul_pos hD (show 0 < vx by omega)
      exact pos_of_mul (by omega) h
  by_cases o2 : xh < 0
  · refine between hD ha hb fa gb fun vx vy d hd v1 v2 v3 v4 z => ?_
    rcases h2 with h | h | h
    · omega
    · left
      have e := id_x fx fy tx ty vx vy
      rw [z, Int.zero_mul, Int.add_zero] at e
      have p1 := mul_neg_of hd o2
      have p2 := mul_neg_of hD (show vx < 0 by omega)
      exact pos_of_mul' (by omega) h
    · right
      intro vx vy d hd v1 v2 v3 v4 z
      have e := id_x fx fy tx ty vx vy
      rw [z, Int.zero_mul, Int.zero_add] at e
      have p1 := mul_neg_of hd o2
      have p2 := mul_neg_of hD (show vx < 0 by omega)
      exact pos_of_mul' (by omega) h
  by_cases o3 : 0 < yl
  · refine between hD ha hb fa gb fun vx vy d hd v1 v2 v3 v4 z => ?_
    rcases h3 with h | h | h
    · omega
    · left
      have e := id_y fx fy tx ty vx vy
      rw [z, Int.zero_mul, Int.add_zero] at e
      have p1 := Int.mul_pos hd o3
      have p2 := Int.mul_pos hD (show 0 < vy by omega)
      exact pos_of_mul (by omega) h
    · right
      intro vx vy d hd v1 v2 v3 v4 z
      have e := id_y fx fy tx ty vx vy
      rw [z, Int.zero_mul, Int.zero_add] at e
      have p1 := Int.mul_pos hd o3
      have p2 := Int.mul_pos hD (show 0 < vy by omega)
      exact pos_of_mul (by omega) h
  by_cases o4 : yh < 0
  · refine between hD ha hb fa gb fun vx vy d hd v1 v2 v3 v4 z => ?_
    rcases h4 with h | h | h
    · omega
    · left
      have e := id_y fx fy tx ty vx vy
      rw [z, Int.zero_mul, Int.add_zero] at e
      have p1 := mul_neg_of hd o4
      have p2 := mul_neg_of hD (show vy < 0 by omega)
      exact pos_of_mul' (by omega) h
    · right
      intro vx vy d hd v1 v2 v3 v4 z
      have e := id_y fx fy tx ty vx vy
      rw [z, Int.zero_mul, Int.zero_add] at e
      have p1 := mul_neg_of hd o4
      have p2 := mul_neg_of hD (show vy < 0 by omega)
      exact pos_of_mul' (by omega) h
  · exact ⟨0, 0, 1, by omega, by omega, by omega, by omega, by omega, by unfold cr; omega, by unfold cr; omega⟩

/-- Some corner is at least as far to one side. -/
theorem corner_max {p q xl xh yl yh vx vy d : Int} (hd : 0 < d) (h1 : d * xl ≤ vx) (h2 : vx ≤ d * xh) (h3 : d * yl ≤ vy) (h4 : vy ≤ d * yh) (h : 0 ≤ p * vx + q * vy) :
    0 ≤ p * xl + q * yl ∨ 0 ≤ p * xl + q * yh ∨ 0 ≤ p * xh + q * yl ∨ 0 ≤ p * xh + q * yh := by
  have cx : p * vx ≤ d * (p * xl) ∨ p * vx ≤ d * (p * xh) := by
    by_cases hp : 0 ≤ p
    · right
      have := mul_le hp h2
      have e : p * (d * xh) = d * (p * xh) := by grind
      omega
    · left
      have := mul_le (show 0 ≤ -p by omega) h1
      have e : -p * (d * xl) = -(d * (p * xl)) := by grind
      have e2 : -p * vx = -(p * vx) := by grind
      omega
  have cy : q * vy ≤ d * (q * yl) ∨ q * vy ≤ d * (q * yh) := by
    by_cases hp : 0 ≤ q
    · right
      have := mul_le hp h4
      have e : q * (d * yh) = d * (q * yh) := by grind
      omega
    · left
      have := mul_le (show 0 ≤ -q by omega) h3
      have e : -q * (d * yl) = -(d * (q * yl)) := by grind
      have e2 : -q * vy = -(q * vy) := by grind
      omega
  have up : ∀ z : Int, 0 ≤ d * z → 0 ≤ z := fun z hz => by
    by_cases h' : 0 ≤ z
    · exact h'
    · have := mul_neg_of hd (show z < 0 by omega)
      omega
  rcases cx with cx | cx <;> rcases cy with cy | cy
  · left; exact up _ (by rw [Int.mul_add]; omega)
  · right; left; exact up _ (by rw [Int.mul_add]; omega)
  · right; right; left; exact up _ (by rw [Int.mul_add]; omega)
  · right; right; right; exact up _ (by rw [Int.mul_add]; omega)

theorem core_of_hit {fx fy tx ty xl xh yl yh : Int} (hD : 0 < cr fx fy tx ty) (h : Hit fx fy tx ty xl xh yl yh) : Core fx fy tx ty xl xh yl yh := by
  obtain ⟨vx, vy, d, hd, v1, v2, v3, v4, f, g⟩ := h
  have nonpos : ∀ {a b : Int}, 0 ≤ a → b ≤ 0 → a * b ≤ 0 := fun ha hb => Int.mul_nonpos_of_nonneg_of_nonpos ha hb
  have ex := id_x fx fy tx ty vx vy
  have ey := id_y fx fy tx ty vx vy
  refine ⟨?_, ?_, ?_, ?_, ?_, ?_⟩
  · by_cases o : xl ≤ 0
    · exact Or.inl o
    · have p1 := Int.mul_pos hd (show 0 < xl by omega)
      have p2 := Int.mul_pos hD (show 0 < vx by omega)
      by_cases a : fx > 0
      · exact Or.inr (Or.inl a)
      · by_cases b : tx > 0
        · exact Or.inr (Or.inr b)
        · have := nonpos g (show fx ≤ 0 by omega)
          have := nonpos f (show tx ≤ 0 by omega)
          omega
  · by_cases o : xh ≥ 0
    · exact Or.inl o
    · have p1 := mul_neg_of hd (show xh < 0 by omega)
      have p2 := mul_neg_of hD (show vx < 0 by omega)
      by_cases a : fx < 0
      · exact Or.inr (Or.inl a)
      · by_cases b : tx < 0
        · exact Or.inr (Or.inr b)
        · have := Int.mul_nonneg g (show 0 ≤ fx by omega)
          have := Int.mul_nonneg f (show 0 ≤ tx by omega)
          omega
  · by_cases o : yl ≤ 0
    · exact Or.inl o
    · have p1 := Int.mul_pos hd (show 0 < yl by omega)
      have p2 := Int.mul_pos hD (show 0 < vy by omega)
      by_cases a : fy > 0
      · exact Or.inr (Or.inl a)
      · by_cases b : ty > 0
        · exact Or.inr (Or.inr b)
        · have := nonpos g (show fy ≤ 0 by omega)
          have := nonpos f (show ty ≤ 0 by omega)
          omega
  · by_cases o : yh ≥ 0
    · exact Or.inl o
    · have p1 := mul_neg_of hd (show yh < 0 by omega)
      have p2 := mul_neg_of hD (show vy < 0 by omega)
      by_cases a : fy < 0
      · exact Or.inr (Or.inl a)
      · by_cases b : ty < 0
        · exact Or.inr (Or.inr b)
        · have := Int.mul_nonneg g (show 0 ≤ fy by omega)
          have := Int.mul_nonneg f (show 0 ≤ ty by omega)
          omega
  · have := @corner_max (-fy) fx xl xh yl yh vx vy d hd v1 v2 v3 v4 (by unfold cr at f; grind)
    unfold cr
    have e : ∀ x y : Int, -fy * x + fx * y = fx * y - fy * x := fun x y => by grind
    rw [e, e, e, e] at this
    omega
  · have := @corner_max ty (-tx) xl xh yl yh vx vy d hd v1 v2 v3 v4 (by unfold cr at g; grind)
    unfold cr
    have e : ∀ x y : Int, ty * x + -tx * y = x * ty - y * tx := fun x y => by grind
    rw [e, e, e, e] at this
    omega
theorem core_iff {fx fy tx ty xl xh yl yh : Int} (hD : 0 < cr fx fy tx ty) (hx : xl ≤ xh) (hy : yl ≤ yh) : Core fx fy tx ty xl xh yl yh ↔ Hit fx fy tx ty xl xh yl yh :=
  ⟨hit_of_core hD hx hy, core_of_hit hD⟩
/-- A greater box, a wider cone. -/
theorem hit_wider {fx fy tx ty fx' fy' tx' ty' xl xh yl yh xl' xh' yl' yh' : Int} (hD : 0 < cr fx fy tx ty) (h : Hit fx fy tx ty xl xh yl yh) (b1 : xl' ≤ xl) (b2 : xh ≤ xh') (b3 : yl' ≤ yl) (b4 : yh ≤ yh')
    (c1 : 0 ≤ cr fx' fy' fx fy) (c2 : 0 ≤ cr fx' fy' tx ty) (c3 : 0 ≤ cr fx fy tx' ty') (c4 : 0 ≤ cr tx ty tx' ty') : Hit fx' fy' tx' ty' xl' xh' yl' yh' := by
  obtain ⟨vx, vy, d, hd, v1, v2, v3, v4, f, g⟩ := h
  have m1 := mul_le (show 0 ≤ d by omega) b1
  have m2 := mul_le (show 0 ≤ d by omega) b2
  have m3 := mul_le (show 0 ≤ d by omega) b3
  have m4 := mul_le (show 0 ≤ d by omega) b4
  have up : ∀ z : Int, 0 ≤ cr fx fy tx ty * z → 0 ≤ z := fun z hz => by
    by_cases h' : 0 ≤ z
    · exact h'
    · have := mul_neg_of hD (show z < 0 by omega)
      omega
  refine ⟨vx, vy, d, hd, by omega, by omega, by omega, by omega, up _ ?_, up _ ?_⟩
  · have e : cr fx fy tx ty * cr fx' fy' vx vy = cr vx vy tx ty * cr fx' fy' fx fy + cr fx fy vx vy * cr fx' fy' tx ty := by unfold cr; grind
    have := Int.mul_nonneg g c1
    have := Int.mul_nonneg f c2
    omega
  · have e : cr fx fy tx ty * cr vx vy tx' ty' = cr vx vy tx ty * cr fx fy tx' ty' + cr fx fy vx vy * cr tx ty tx' ty' := by unfold cr; grind
    have := Int.mul_nonneg g c3
    have := Int.mul_nonneg f c4
    omega
end Go.Proofs.Ytcpikjablgbegaa
