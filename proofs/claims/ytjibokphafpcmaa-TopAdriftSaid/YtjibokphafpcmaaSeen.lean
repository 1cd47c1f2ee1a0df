/-
  Reports of ships: Valid, Box, Allows, Merge of package sighting (turned from wip/c24).
-/
import Derived.Test.YtjibokphafpcmaaSyLq
import Derived.Test.YtjibokphafpcmaaSyH
import Derived.Test.YtjibokphafpcmaaSight1D
set_option linter.unusedVariables false
set_option linter.unusedSimpArgs false
set_option linter.unusedSectionVars false
namespace Go.Proofs.Ytjibokphafpcmaa.Si
open Go Go.Sy

/-- Cross product. -/
def cr (a b c d : Int) : Int := a * d - b * c
/-- The tests. -/
def Core (fx fy tx ty xl xh yl yh : Int) : Prop :=
  (xl ≤ 0 ∨ fx > 0 ∨ tx > 0) ∧ (xh ≥ 0 ∨ fx < 0 ∨ tx < 0) ∧ (yl ≤ 0 ∨ fy > 0 ∨ ty > 0) ∧ (yh ≥ 0 ∨ fy < 0 ∨ ty < 0) ∧
  (cr fx fy xl yl ≥ 0 ∨ cr fx fy xl yh ≥ 0 ∨ cr fx fy xh yl ≥ 0 ∨ cr fx fy xh yh ≥ 0) ∧
  (cr xl yl tx ty ≥ 0 ∨ cr xl yh tx ty ≥ 0 ∨ cr xh yl tx ty ≥ 0 ∨ cr xh yh tx ty ≥ 0)
instance (fx fy tx ty xl xh yl yh : Int) : Decidable (Core fx fy tx ty xl xh yl yh) := by unfold Core; infer_instance
/-- A vector of both, times d. -/
def Hit (fx fy tx ty xl xh yl yh : Int) : Prop :=
  ∃ vx vy d, 0 < d ∧ d * xl ≤ vx ∧ vx ≤ d * xh ∧ d * yl ≤ vy ∧ vy ≤ d * yh ∧ 0 ≤ cr fx fy vx vy ∧ 0 ≤ cr vx vy tx ty

theorem mul_le {d a b : Int} (hd : 0 ≤ d) (h : a ≤ b) : d * a ≤ d * b := Int.mul_le_mul_of_nonneg_left h hd
/-- Behind the two corners: one between them is in the cone. -/
theorem between {fx fy tx ty xl xh yl yh ax ay bx by_ : Int} (hD : 0 < cr fx fy tx ty) (ha : xl ≤ ax ∧ ax ≤ xh ∧ yl ≤ ay ∧ ay ≤ yh) (hb : xl ≤ bx ∧ bx ≤ xh ∧ yl ≤ by_ ∧ by_ ≤ yh)
    (fa : 0 ≤ cr fx fy ax ay) (gb : 0 ≤ cr bx by_ tx ty)
    (hf : ∀ vx vy d, 0 < d → d * xl ≤ vx → vx ≤ d * xh → d * yl ≤ vy → vy ≤ d * yh → cr fx fy vx vy = 0 → 0 ≤ cr vx vy tx ty ∨ ∀ vx vy d, 0 < d → d * xl ≤ vx → vx ≤ d * xh → d * yl ≤ vy → vy ≤ d * yh → cr vx vy tx ty = 0 → 0 ≤ cr fx fy vx vy) :
    Hit fx fy tx ty xl xh yl yh := by
  by_cases ga : 0 ≤ cr ax ay tx ty
  · exact ⟨ax, ay, 1, by omega, by omega, by omega, by omega, by omega, fa, ga⟩
  by_cases fb : 0 ≤ cr fx fy bx by_
  · exact ⟨bx, by_, 1, by omega, by omega, by omega, by omega, by omega, fb, gb⟩
  -- f a ≥ 0 > f b; g b ≥ 0 > g a
  have mix : ∀ s t : Int, 0 ≤ s → 0 ≤ t → 0 < s + t → (s + t) * xl ≤ s * ax + t * bx ∧ s * ax + t * bx ≤ (s + t) * xh ∧ (s + t) * yl ≤ s * ay + t * by_ ∧ s * ay + t * by_ ≤ (s + t) * yh := by
    intro s t hs ht _
    have h1 := mul_le hs ha.1
    have h2 := mul_le ht hb.1
    have h3 := mul_le hs ha.2.1
    have h4 := mul_le ht hb.2.1
    have h5 := mul_le hs ha.2.2.1
    have h6 := mul_le ht hb.2.2.1
    have h7 := mul_le hs ha.2.2.2
    have h8 := mul_le ht hb.2.2.2
    rw [Int.add_mul, Int.add_mul, Int.add_mul, Int.add_mul]
    omega
  have hs1 : 0 ≤ -cr fx fy bx by_ := by omega
  have ht1 : 0 ≤ cr fx fy ax ay := fa
  have hd1 : 0 < -cr fx fy bx by_ + cr fx fy ax ay := by omega
  obtain ⟨m1, m2, m3, m4⟩ := mix _ _ hs1 ht1 hd1
  have z1 : cr fx fy (-cr fx fy bx by_ * ax + cr fx fy ax ay * bx) (-cr fx fy bx by_ * ay + cr fx fy ax ay * by_) = 0 := by unfold cr; grind
  rcases hf _ _ _ hd1 m1 m2 m3 m4 z1 with h | h
  · exact ⟨_, _, _, hd1, m1, m2, m3, m4, by rw [z1]; omega, h⟩
  · have hs2 : 0 ≤ cr bx by_ tx ty := gb
    have ht2 : 0 ≤ -cr ax ay tx ty := by omega
    have hd2 : 0 < cr bx by_ tx ty + -cr ax ay tx ty := by omega
    obtain ⟨k1, k2, k3, k4⟩ := mix _ _ hs2 ht2 hd2
    have z2 : cr (cr bx by_ tx ty * ax + -cr ax ay tx ty * bx) (cr bx by_ tx ty * ay + -cr ax ay tx ty * by_) tx ty = 0 := by unfold cr; grind
    exact ⟨_, _, _, hd2, k1, k2, k3, k4, h _ _ _ hd2 k1 k2 k3 k4 z2, by rw [z2]; omega⟩

theorem id_x (fx fy tx ty vx vy : Int) : cr fx fy tx ty * vx = cr vx vy tx ty * fx + cr fx fy vx vy * tx := by unfold cr; grind
theorem id_y (fx fy tx ty vx vy : Int) : cr fx fy tx ty * vy = cr vx vy tx ty * fy + cr fx fy vx vy * ty := by unfold cr; grind
theorem pos_of_mul {a b : Int} (h : 0 < a * b) (hb : 0 < b) : 0 ≤ a := by
  by_cases h' : 0 ≤ a
  · exact h'
  · have := Int.mul_le_mul_of_nonneg_right (show a ≤ 0 by omega) (show 0 ≤ b by omega)
    omega
theorem pos_of_mul' {a b : Int} (h : a * b < 0) (hb : b < 0) : 0 ≤ a := by
  have : 0 < a * -b := by rw [Int.mul_neg]; omega
  exact pos_of_mul this (by omega)
theorem mul_neg_of {a b : Int} (ha : 0 < a) (hb : b < 0) : a * b < 0 := Int.mul_neg_of_pos_of_neg ha hb

theorem hit_of_core {fx fy tx ty xl xh yl yh : Int} (hD : 0 < cr fx fy tx ty) (hx : xl ≤ xh) (hy : yl ≤ yh) (h : Core fx fy tx ty xl xh yl yh) : Hit fx fy tx ty xl xh yl yh := by
  obtain ⟨h1, h2, h3, h4, h5, h6⟩ := h
  have ca : ∃ ax ay, (xl ≤ ax ∧ ax ≤ xh ∧ yl ≤ ay ∧ ay ≤ yh) ∧ 0 ≤ cr fx fy ax ay := by
    rcases h5 with h | h | h | h
    · exact ⟨xl, yl, by omega, h⟩
    · exact ⟨xl, yh, by omega, h⟩
    · exact ⟨xh, yl, by omega, h⟩
    · exact ⟨xh, yh, by omega, h⟩
  have cb : ∃ bx by_, (xl ≤ bx ∧ bx ≤ xh ∧ yl ≤ by_ ∧ by_ ≤ yh) ∧ 0 ≤ cr bx by_ tx ty := by
    rcases h6 with h | h | h | h
    · exact ⟨xl, yl, by omega, h⟩
    · exact ⟨xl, yh, by omega, h⟩
    · exact ⟨xh, yl, by omega, h⟩
    · exact ⟨xh, yh, by omega, h⟩
  obtain ⟨ax, ay, ha, fa⟩ := ca
  obtain ⟨bx, by_, hb, gb⟩ := cb
  by_cases o1 : 0 < xl
  · refine between hD ha hb fa gb fun vx vy d hd v1 v2 v3 v4 z => ?_
    rcases h1 with h | h | h
    · omega
    · left
      have e := id_x fx fy tx ty vx vy
      rw [z, Int.zero_mul, Int.add_zero] at e
      have p1 := Int.mul_pos hd o1
      have p2 := Int.mul_pos hD (show 0 < vx by omega)
      exact pos_of_mul (by omega) h
    · right
      intro vx vy d hd v1 v2 v3 v4 z
      have e := id_x fx fy tx ty vx vy
      rw [z, Int.zero_mul, Int.zero_add] at e
      have p1 := Int.mul_pos hd o1
      have p2 := Int.mul_pos hD (show 0 < vx by omega)
      exact pos_of_mul (by omega) h
  by_cases o2 : xh < 0
  · refine between hD ha hb fa gb fun vx vy d hd v1 v2 v3 v4 z => ?_
    rcases h2 with h | h | h
    · omega
    · left
      have e := id_x fx fy tx ty vx vy
      rw [z, Int.zero_mul, Int.add_zero] at e
      have p1 := mul_neg_of hd o2
      have p2 := mul_neg_of hD (show vx < 0 by omega)
      exact pos_of_mul' (by omega) h
    · right
      intro vx vy d hd v1 v2 v3 v4 z
      have e := id_x fx fy tx ty vx vy
      rw [z, Int.zero_mul, Int.zero_add] at e
      have p1 := mul_neg_of hd o2
      have p2 := mul_neg_of hD (show vx < 0 by omega)
      exact pos_of_mul' (by omega) h
  by_cases o3 : 0 < yl
  · refine between hD ha hb fa gb fun vx vy d hd v1 v2 v3 v4 z => ?_
    rcases h3 with h | h | h
    · omega
    · left
      have e := id_y fx fy tx ty vx vy
      rw [z, Int.zero_mul, Int.add_zero] at e
      have p1 := Int.mul_pos hd o3
      have p2 := Int.mul_pos hD (show 0 < vy by omega)
      exact pos_of_mul (by omega) h
    · right
      intro vx vy d hd v1 v2 v3 v4 z
      have e := id_y fx fy tx ty vx vy
      rw [z, Int.zero_mul, Int.zero_add] at e
      have p1 := Int.mul_pos hd o3
      have p2 := Int.mul_pos hD (show 0 < vy by omega)
      exact pos_of_mul (by omega) h
  by_cases o4 : yh < 0
  · refine between hD ha hb fa gb fun vx vy d hd v1 v2 v3 v4 z => ?_
    rcases h4 with h | h | h
    · omega
    · left
      have e := id_y fx fy tx ty vx vy
      rw [z, Int.zero_mul, Int.add_zero] at e
      have p1 := mul_neg_of hd o4
      have p2 := mul_neg_of hD (show vy < 0 by omega)
      exact pos_of_mul' (by omega) h
    · right
      intro vx vy d hd v1 v2 v3 v4 z
      have e := id_y fx fy tx ty vx vy
      rw [z, Int.zero_mul, Int.zero_add] at e
      have p1 := mul_neg_of hd o4
      have p2 := mul_neg_of hD (show vy < 0 by omega)
      exact pos_of_mul' (by omega) h
  · exact ⟨0, 0, 1, by omega, by omega, by omega, by omega, by omega, by unfold cr; omega, by unfold cr; omega⟩

/-- Some corner is at least as far to one side. -/
theorem corner_max {p q xl xh yl yh vx vy d : Int} (hd : 0 < d) (h1 : d * xl ≤ vx) (h2 : vx ≤ d * xh) (h3 : d * yl ≤ vy) (h4 : vy ≤ d * yh) (h : 0 ≤ p * vx + q * vy) :
    0 ≤ p * xl + q * yl ∨ 0 ≤ p * xl + q * yh ∨ 0 ≤ p * xh + q * yl ∨ 0 ≤ p * xh + q * yh := by
  have cx : p * vx ≤ d * (p * xl) ∨ p * vx ≤ d * (p * xh) := by
    by_cases hp : 0 ≤ p
    · right
      have := mul_le hp h2
      have e : p * (d * xh) = d * (p * xh) := by grind
      omega
    · left
      have := mul_le (show 0 ≤ -p by omega) h1
      have e : -p * (d * xl) = -(d * (p * xl)) := by grind
      have e2 : -p * vx = -(p * vx) := by grind
      omega
  have cy : q * vy ≤ d * (q * yl) ∨ q * vy ≤ d * (q * yh) := by
    by_cases hp : 0 ≤ q
    · right
      have := mul_le hp h4
      have e : q * (d * yh) = d * (q * yh) := by grind
      omega
    · left
      have := mul_le (show 0 ≤ -q by omega) h3
      have e : -q * (d * yl) = -(d * (q * yl)) := by grind
      have e2 : -q * vy = -(q * vy) := by grind
      omega
  have up : ∀ z : Int, 0 ≤ d * z → 0 ≤ z := fun z hz => by
    by_cases h' : 0 ≤ z
    · exact h'
    · have := mul_neg_of hd (show z < 0 by omega)
      omega
  rcases cx with cx | cx <;> rcases cy with cy | cy
  · left; exact up _ (by rw [Int.mul_add]; omega)
  · right; left; exact up _ (by rw [Int.mul_add]; omega)
  · right; right; left; exact up _ (by rw [Int.mul_add]; omega)
  · right; right; right; exact up _ (by rw [Int.mul_add]; omega)

theorem core_of_hit {fx fy tx ty xl xh yl yh : Int} (hD : 0 < cr fx fy tx ty) (h : Hit fx fy tx ty xl xh yl yh) : Core fx fy tx ty xl xh yl yh := by
  obtain ⟨vx, vy, d, hd, v1, v2, v3, v4, f, g⟩ := h
  have nonpos : ∀ {a b : Int}, 0 ≤ a → b ≤ 0 → a * b ≤ 0 := fun ha hb => Int.mul_nonpos_of_nonneg_of_nonpos ha hb
  have ex := id_x fx fy tx ty vx vy
  have ey := id_y fx fy tx ty vx vy
  refine ⟨?_, ?_, ?_, ?_, ?_, ?_⟩
  · by_cases o : xl ≤ 0
    · exact Or.inl o
    · have p1 := Int.mul_pos hd (show 0 < xl by omega)
      have p2 := Int.mul_pos hD (show 0 < vx by omega)
      by_cases a : fx > 0
      · exact Or.inr (Or.inl a)
      · by_cases b : tx > 0
        · exact Or.inr (Or.inr b)
        · have := nonpos g (show fx ≤ 0 by omega)
          have := nonpos f (show tx ≤ 0 by omega)
          omega
  · by_cases o : xh ≥ 0
    · exact Or.inl o
    · have p1 := mul_neg_of hd (show xh < 0 by omega)
      have p2 := mul_neg_of hD (show vx < 0 by omega)
      by_cases a : fx < 0
      · exact Or.inr (Or.inl a)
      · by_cases b : tx < 0
        · exact Or.inr (Or.inr b)
        · have := Int.mul_nonneg g (show 0 ≤ fx by omega)
          have := Int.mul_nonneg f (show 0 ≤ tx by omega)
          omega
  · by_cases o : yl ≤ 0
    · exact Or.inl o
    · have p1 := Int.mul_pos hd (show 0 < yl by omega)
      have p2 := Int.mul_pos hD (show 0 < vy by omega)
      by_cases a : fy > 0
      · exact Or.inr (Or.inl a)
      · by_cases b : ty > 0
        · exact Or.inr (Or.inr b)
        · have := nonpos g (show fy ≤ 0 by omega)
          have := nonpos f (show ty ≤ 0 by omega)
          omega
  · by_cases o : yh ≥ 0
    · exact Or.inl o
    · have p1 := mul_neg_of hd (show yh < 0 by omega)
      have p2 := mul_neg_of hD (show vy < 0 by omega)
      by_cases a : fy < 0
      · exact Or.inr (Or.inl a)
      · by_cases b : ty < 0
        · exact Or.inr (Or.inr b)
        · have := Int.mul_nonneg g (show 0 ≤ fy by omega)
          have := Int.mul_nonneg f (show 0 ≤ ty by omega)
          omega
  · have := @corner_max (-fy) fx xl xh yl yh vx vy d hd v1 v2 v3 v4 (by unfold cr at f; grind)
    unfold cr
    have e : ∀ x y : Int, -fy * x + fx * y = fx * y - fy * x := fun x y => by grind
    rw [e, e, e, e] at this
    omega
  · have := @corner_max ty (-tx) xl xh yl yh vx vy d hd v1 v2 v3 v4 (by unfold cr at g; grind)
    unfold cr
    have e : ∀ x y : Int, ty * x + -tx * y = x * ty - y * tx := fun x y => by grind
    rw [e, e, e, e] at this
    omega
theorem core_iff {fx fy tx ty xl xh yl yh : Int} (hD : 0 < cr fx fy tx ty) (hx : xl ≤ xh) (hy : yl ≤ yh) : Core fx fy tx ty xl xh yl yh ↔ Hit fx fy tx ty xl xh yl yh :=
  ⟨hit_of_core hD hx hy, core_of_hit hD⟩
/-- A greater box, a wider cone. -/
theorem hit_wider {fx fy tx ty fx' fy' tx' ty' xl xh yl yh xl' xh' yl' yh' : Int} (hD : 0 < cr fx fy tx ty) (h : Hit fx fy tx ty xl xh yl yh) (b1 : xl' ≤ xl) (b2 : xh ≤ xh') (b3 : yl' ≤ yl) (b4 : yh ≤ yh')
    (c1 : 0 ≤ cr fx' fy' fx fy) (c2 : 0 ≤ cr fx' fy' tx ty) (c3 : 0 ≤ cr fx fy tx' ty') (c4 : 0 ≤ cr tx ty tx' ty') : Hit fx' fy' tx' ty' xl' xh' yl' yh' := by
  obtain ⟨vx, vy, d, hd, v1, v2, v3, v4, f, g⟩ := h
  have m1 := mul_le (show 0 ≤ d by omega) b1
  have m2 := mul_le (show 0 ≤ d by omega) b2
  have m3 := mul_le (show 0 ≤ d by omega) b3
  have m4 := mul_le (show 0 ≤ d by omega) b4
  have up : ∀ z : Int, 0 ≤ cr fx fy tx ty * z → 0 ≤ z := fun z hz => by
    by_cases h' : 0 ≤ z
    · exact h'
    · have := mul_neg_of hD (show z < 0 by omega)
      omega
  refine ⟨vx, vy, d, hd, by omega, by omega, by omega, by omega, up _ ?_, up _ ?_⟩
  · have e : cr fx fy tx ty * cr fx' fy' vx vy = cr vx vy tx ty * cr fx' fy' fx fy + cr fx fy vx vy * cr fx' fy' tx ty := by unfold cr; grind
    have := Int.mul_nonneg g c1
    have := Int.mul_nonneg f c2
    omega
  · have e : cr fx fy tx ty * cr vx vy tx' ty' = cr vx vy tx ty * cr fx fy tx' ty' + cr fx fy vx vy * cr tx ty tx' ty' := by unfold cr; grind
    have := Int.mul_nonneg g c3
    have := Int.mul_nonneg f c4
    omega
theorem ints_is (a b : List (List Int)) (ha : a.length < 4611686018427387904) :
    ref24_Ints_pre a b ∧ (ref24_Ints_0 a b = true ↔ a.length = b.length ∧ ∀ i, i < a.length → (a.getD i []).getD 0 0 = (b.getD i []).getD 0 0) := by
  unfold ref24_Ints_pre ref24_Ints_0
  by_cases hl : a.length = b.length
  · have hl' : ((a.length : Int) != (b.length : Int)) = false := by simp [hl]
    have key := loop_search (step := ref24_Ints_l0_step a b) a.length (fun i => (a.getD i []).getD 0 (0 : Int) != (b.getD i []).getD 0 (0 : Int)) (fun i => [.b false, .i i]) (fun _ => []) 0 2 [.b false, .i a.length]
      (fun i hi => by
        unfold ref24_Ints_l0_step
        simp only [gi_1, gi_z, gb_z, dlt hi, guardP_pos (inR_of hi), guardP_pos (inR_of (hl ▸ hi : i < b.length)), Int.toNat_natCast, wrap_succ (show i < 4611686018427387904 by omega)]
        try rfl)
      (by
        unfold ref24_Ints_l0_step
        simp only [gi_1, gi_z, gb_z, dnlt]
        try rfl)
    rw [hl']
    refine ⟨fun _ => key.1, ?_⟩
    rcases key.2 with ⟨i, h1, h2, h3, h4⟩ | ⟨h3, h4⟩
    · have e : ref24_Ints_l0 a b = (1, []) := h4
      rw [e]
      simp only [cond_false, Nat.beq]
      constructor
      · intro h; cases h
      · rintro ⟨_, h⟩
        have := h i h1
        rw [bne_iff_ne] at h2
        exact absurd this h2
    · have e : ref24_Ints_l0 a b = (3, [.b false, .i a.length]) := h4
      rw [e]
      simp only [cond_false, Nat.beq]
      refine ⟨fun _ => ⟨hl, fun i hi => ?_⟩, fun _ => by trivial⟩
      have := h3 i hi
      simpa using this
  · have hl' : ((a.length : Int) != (b.length : Int)) = true := by simp; omega
    rw [hl']
    refine ⟨fun h => (Bool.noConfusion h), ?_⟩
    simp only [cond_true]
    constructor
    · intro h; cases h
    · exact fun h => absurd h.1 hl

/-- A report out of its numbers. -/
theorem el13 {el : List Int} (h : el.length = 13) : [el.getD 0 0, el.getD 1 0, el.getD 2 0, el.getD 3 0, el.getD 4 0, el.getD 5 0, el.getD 6 0, el.getD 7 0, el.getD 8 0, el.getD 9 0, el.getD 10 0, el.getD 11 0, el.getD 12 0] = el := by
  match el, h with
  | [_, _, _, _, _, _, _, _, _, _, _, _, _], _ => rfl
/-- Equality as the code has it. -/
def same13 (a b : List Int) : Bool :=
  (a.getD 0 (0 : Int) == b.getD 0 (0 : Int) &&
    (a.getD 1 (0 : Int) == b.getD 1 (0 : Int) &&
      (a.getD 2 (0 : Int) == b.getD 2 (0 : Int) &&
        (a.getD 3 (0 : Int) == b.getD 3 (0 : Int) &&
          (a.getD 4 (0 : Int) == b.getD 4 (0 : Int) &&
                (a.getD 5 (0 : Int) == b.getD 5 (0 : Int) && true) &&
              (a.getD 6 (0 : Int) == b.getD 6 (0 : Int) &&
                  (a.getD 7 (0 : Int) == b.getD 7 (0 : Int) && true) &&
                true) &&
            (a.getD 8 (0 : Int) == b.getD 8 (0 : Int) &&
                (a.getD 9 (0 : Int) == b.getD 9 (0 : Int) && true) &&
              (a.getD 10 (0 : Int) == b.getD 10 (0 : Int) &&
                  (a.getD 11 (0 : Int) == b.getD 11 (0 : Int) && true) &&
                (a.getD 12 (0 : Int) == b.getD 12 (0 : Int) && true))))))))
theorem same13_is {a b : List Int} (ha : a.length = 13) (hb : b.length = 13) : same13 a b = decide (a = b) := by
  match a, ha, b, hb with
  | [_, _, _, _, _, _, _, _, _, _, _, _, _], _, [_, _, _, _, _, _, _, _, _, _, _, _, _], _ =>
    rw [Bool.eq_iff_iff]
    simp [same13, and_assoc]

/-- Lists of equal elements. -/
theorem list_eq_of {a b : List (List Int)} (hl : a.length = b.length) (h : ∀ i, i < a.length → a.getD i [] = b.getD i []) : a = b := by
  apply List.ext_getElem hl
  intro i h1 h2
  have := h i h1
  rwa [List.getD_eq_getElem?_getD, List.getD_eq_getElem?_getD, List.getElem?_eq_getElem h1, List.getElem?_eq_getElem h2] at this
theorem getD_mem {l : List (List Int)} {i : Nat} (h : i < l.length) : l.getD i [] ∈ l := by
  rw [List.getD_eq_getElem?_getD, List.getElem?_eq_getElem h]
  exact List.getElem_mem h
theorem ints_eq {a b : List (List Int)} (ha : a.length < 4611686018427387904) (h1 : ∀ e ∈ a, e.length = 1) (h2 : ∀ e ∈ b, e.length = 1) : ref24_Ints_0 a b = decide (a = b) := by
  rw [Bool.eq_iff_iff, (ints_is a b ha).2, decide_eq_true_eq]
  constructor
  · rintro ⟨hl, h⟩
    refine list_eq_of hl fun i hi => ?_
    have e1 := h1 _ (getD_mem hi)
    have e2 := h2 _ (getD_mem (hl ▸ hi : i < b.length))
    have e := h i hi
    match a.getD i [], b.getD i [], e1, e2, e with
    | [x], [y], _, _, e => simpa using e
  · rintro rfl; exact ⟨rfl, fun _ _ => rfl⟩
/-- The same sighting. -/
def sameKey (r o : List Int) : Bool := o.getD 0 (0 : Int) == r.getD 0 (0 : Int) && o.getD 1 (0 : Int) == r.getD 1 (0 : Int)
/-- The index of the first one. -/
def fnd (l : List (List Int)) (r : List Int) : Int := match l.findIdx? (sameKey r) with | some k => (k : Int) | none => -1
/-- Lists of valid reports. -/
noncomputable def sval (e : List Int) : Bool := sighting_Valid_0 (e.getD 0 0) (e.getD 1 0) (e.getD 2 0) (e.getD 3 0) (e.getD 4 0) (e.getD 5 0) (e.getD 6 0) (e.getD 7 0) (e.getD 8 0) (e.getD 9 0) (e.getD 10 0) (e.getD 11 0) (e.getD 12 0)
theorem valid_is (l : List (List Int)) : sighting_valid_pre l ∧ sighting_valid_0 l = (decide (l.length ≤ 60) && l.all sval) := by
  unfold sighting_valid_pre sighting_valid_0
  by_cases hl : l.length ≤ 60
  · have hl' : decide ((l.length : Int) ≤ 60) = true := by simp; omega
    have key := loop_search (step := sighting_valid_l0_step l) l.length (fun i => !sval (l.getD i [])) (fun i => [.i 0, .i i]) (fun i => [.i i]) 0 2 [.i 0, .i l.length]
      (fun i hi => by
        unfold sighting_valid_l0_step
        simp only [gi_1, gi_z, gb_z, dlt hi, guardP_pos (inR_of hi), Int.toNat_natCast, wrap_succ (show i < 4611686018427387904 by omega)]
        try rfl)
      (by
        unfold sighting_valid_l0_step
        simp only [gi_1, gi_z, gb_z, dnlt]
        try rfl)
    rw [hl']
    refine ⟨fun _ => key.1, ?_⟩
    have gd : ∀ j (h : j < l.length), l[j] = l.getD j [] := fun j h => by rw [List.getD_eq_getElem?_getD, List.getElem?_eq_getElem h]; rfl
    rcases key.2 with ⟨i, h1, h2, h3, h4⟩ | ⟨h3, h4⟩
    · have e : sighting_valid_l0 l = (1, [.i i]) := h4
      rw [e]
      have : l.all sval = false := by
        rw [List.all_eq_false]
        refine ⟨_, getD_mem h1, ?_⟩
        simpa using h2
      rw [this]; simp [Nat.beq, gi_z]
    · have e : sighting_valid_l0 l = (3, [.i 0, .i l.length]) := h4
      rw [e]
      have : l.all sval = true := by
        rw [List.all_eq_true]
        intro x hx
        obtain ⟨j, hj, rfl⟩ := List.getElem_of_mem hx
        rw [gd j hj]
        simpa using h3 j hj
      rw [this]; simp [Nat.beq, hl]
  · have hl' : decide ((l.length : Int) ≤ 60) = false := by simp; omega
    rw [hl']
    refine ⟨fun h => (Bool.noConfusion h), ?_⟩
    simp [hl]

noncomputable def sall (x y : Int) (e : List Int) : Bool := sighting_Allows_0 (e.getD 0 0) (e.getD 1 0) (e.getD 2 0) (e.getD 3 0) (e.getD 4 0) (e.getD 5 0) (e.getD 6 0) (e.getD 7 0) (e.getD 8 0) (e.getD 9 0) (e.getD 10 0) (e.getD 11 0) (e.getD 12 0) x y
/-- The indices of the elements that are not p, from the i-th on. -/
def noIdx (p : List Int → Bool) : Nat → List (List Int) → List (List Int)
  | _, [] => []
  | i, e :: r => bif p e then noIdx p (i + 1) r else [(i : Int)] :: noIdx p (i + 1) r
theorem noIdx_append (p : List Int → Bool) : ∀ (a b : List (List Int)) (i : Nat), noIdx p i (a ++ b) = noIdx p i a ++ noIdx p (i + a.length) b
  | [], b, i => by simp [noIdx]
  | e :: a, b, i => by
    simp only [List.cons_append, noIdx, List.length_cons]
    rw [noIdx_append p a b (i + 1), show i + 1 + a.length = i + (a.length + 1) by omega]
    cases p e <;> rfl
theorem noIdx_len (p : List Int → Bool) : ∀ (a : List (List Int)) (i : Nat), (noIdx p i a).length ≤ a.length
  | [], i => Nat.le_refl _
  | e :: a, i => by
    have := noIdx_len p a (i + 1)
    simp only [noIdx, List.length_cons]
    cases p e <;> simp <;> omega
theorem take_succ' {l : List (List Int)} {i : Nat} (h : i < l.length) : l.take (i + 1) = l.take i ++ [l.getD i []] := by
  rw [List.take_succ_eq_append_getElem h, List.getD_eq_getElem?_getD, List.getElem?_eq_getElem h]; rfl
theorem upto_noIdx (p : List Int → Bool) (l : List (List Int)) : ∀ i, i ≤ l.length → upto (fun i s => bif !p (l.getD i []) then s ++ [[(i : Int)]] else s) i [] = noIdx p 0 (l.take i)
  | 0, _ => by simp [upto, noIdx]
  | i + 1, h => by
    rw [upto, upto_noIdx p l i (by omega), take_succ' (by omega), noIdx_append]
    simp only [noIdx, List.length_take, Nat.zero_add, Nat.min_eq_left (show i ≤ l.length by omega)]
    cases p (l.getD i []) <;> simp
/-- One report more. -/
def mrg (i : Nat) (r : List Int) (s : List (List Int) × List (List Int)) : List (List Int) × List (List Int) :=
  match s.1.find? (sameKey r) with
  | none => (s.1 ++ [r], s.2)
  | some o => bif !same13 o r then (s.1, s.2 ++ [[(i : Int)]]) else s
/-- The reports from the i-th on. -/
def mrgs : Nat → List (List Int) → List (List Int) × List (List Int) → List (List Int) × List (List Int)
  | _, [], s => s
  | i, r :: l, s => mrgs (i + 1) l (mrg i r s)
theorem mrgs_append : ∀ (a b : List (List Int)) (i : Nat) (s : List (List Int) × List (List Int)), mrgs i (a ++ b) s = mrgs (i + a.length) b (mrgs i a s)
  | [], b, i, s => by simp [mrgs]
  | e :: a, b, i, s => by
    simp only [List.cons_append, mrgs, List.length_cons]
    rw [mrgs_append a b (i + 1), show i + 1 + a.length = i + (a.length + 1) by omega]
theorem upto_mrgs (l : List (List Int)) (s : List (List Int) × List (List Int)) : ∀ i, i ≤ l.length → upto (fun i s => mrg i (l.getD i []) s) i s = mrgs 0 (l.take i) s
  | 0, _ => by simp [upto, mrgs]
  | i + 1, h => by
    rw [upto, upto_mrgs l s i (by omega), take_succ' (by omega), mrgs_append]
    simp only [mrgs, List.length_take, Nat.zero_add, Nat.min_eq_left (show i ≤ l.length by omega)]
/-- What stays so: as many as there were; all of them reports. -/
def MI (i : Nat) (s : List (List Int) × List (List Int)) : Prop := s.1.length ≤ i ∧ s.2.length ≤ i ∧ (∀ e ∈ s.1, e.length = 13) ∧ ∀ e ∈ s.2, e.length = 1
theorem mrg_MI {i : Nat} {r : List Int} {s : List (List Int) × List (List Int)} (hr : r.length = 13) (h : MI i s) : MI (i + 1) (mrg i r s) := by
  obtain ⟨h1, h2, h3, h4⟩ := h
  unfold mrg
  split
  · refine ⟨by simp; omega, by show s.2.length ≤ i + 1; omega, fun e he => ?_, h4⟩
    rcases List.mem_append.1 he with he | he
    · exact h3 e he
    · rw [List.mem_singleton.1 he]; exact hr
  · rename_i o _
    cases same13 o r with
    | true => exact ⟨by show s.1.length ≤ i + 1; omega, by show s.2.length ≤ i + 1; omega, h3, h4⟩
    | false =>
      refine ⟨by show s.1.length ≤ i + 1; omega, by simp; omega, h3, fun e he => ?_⟩
      rcases List.mem_append.1 he with he | he
      · exact h4 e he
      · rw [List.mem_singleton.1 he]; rfl
/-- A report with its key ahead, as the map has it. -/
def keyed (r : List Int) : List Int := [r.getD 0 0, r.getD 1 0] ++ r
theorem find_keyed (r : List Int) : ∀ out : List (List Int), findRow 2 [r.getD 0 0, r.getD 1 0] (out.map keyed) = out.find? (sameKey r)
  | [] => rfl
  | o :: out => by
    have ih := find_keyed r out
    unfold findRow at ih ⊢
    rw [List.map_cons, List.find?_cons, List.find?_cons]
    have e : decide (List.take 2 (keyed o) = [r.getD 0 0, r.getD 1 0]) = sameKey r o := by
      unfold sameKey keyed
      rw [Bool.eq_iff_iff]
      simp
    rw [e]
    cases sameKey r o with
    | true => rfl
    | false => exact ih
theorem put_keyed {r : List Int} {out : List (List Int)} (h : out.find? (sameKey r) = none) : putRow 2 [r.getD 0 0, r.getD 1 0] r (out.map keyed) = (out ++ [r]).map keyed := by
  unfold putRow
  rw [find_keyed, h]
  simp [keyed]
theorem find_fnd {l : List (List Int)} {r : List Int} : (l.find? (sameKey r) = none ∧ fnd l r = -1) ∨ ∃ k : Nat, k < l.length ∧ l.find? (sameKey r) = some (l.getD k []) ∧ fnd l r = k := by
  unfold fnd
  cases h : l.findIdx? (sameKey r) with
  | none =>
    left
    refine ⟨?_, rfl⟩
    rw [List.findIdx?_eq_none_iff] at h
    rw [List.find?_eq_none]
    intro x hx; simp [h x hx]
  | some k =>
    right
    rw [List.findIdx?_eq_some_iff_getElem] at h
    obtain ⟨h1, h2, h3⟩ := h
    refine ⟨k, h1, ?_, rfl⟩
    rw [List.find?_eq_some_iff_getElem]
    refine ⟨?_, k, h1, ?_, fun j hj => ?_⟩
    · rw [List.getD_eq_getElem?_getD, List.getElem?_eq_getElem h1]; exact h2
    · rw [List.getD_eq_getElem?_getD, List.getElem?_eq_getElem h1]; rfl
    · have := h3 j hj
      simpa using this
/-- The reports that come. -/
def El13 (l : List (List Int)) : Prop := ∀ e ∈ l, elOk [.int .i64, .int .i64, .int .i64, .int .i64, .int .i64, .int .i64, .int .i64, .int .i64, .int .i64, .int .i64, .int .i64, .int .i64, .int .i64] e
theorem El13.len {l : List (List Int)} (h : El13 l) : ∀ e ∈ l, e.length = 13 := fun e he => elOk_length (h e he)
theorem fnd_key (l : List (List Int)) (r : List Int) : fnd l [r.getD 0 0, r.getD 1 0] = fnd l r := rfl
theorem key_wf {l : List (List Int)} (h : El13 l) {i : Nat} (hi : i < l.length) : keyWf IntKind.i64 [(l.getD i []).getD 0 0, (l.getD i []).getD 1 0] := by
  have := h _ (getD_mem hi)
  match l.getD i [], elOk_length this, this with
  | [a, b, _, _, _, _, _, _, _, _, _, _, _], _, h =>
    intro n hn
    simp at hn
    rcases hn with rfl | rfl
    · exact h.1
    · exact h.2.1
theorem smerge_is (l : List (List Int)) (h13 : El13 l) (hv : l.length ≤ 60) :
    loopOk (sighting_Merge_l0_step l) (sighting_Merge_l0_init l) ∧ gr (sighting_Merge_l0 l).snd 2 = (mrgs 0 l ([], [])).1 ∧ gr (sighting_Merge_l0 l).snd 3 = (mrgs 0 l ([], [])).2 := by
  have key := loop_fold (step := sighting_Merge_l0_step l) l.length (fun i s => [.i i, .r (s.1.map keyed), .r s.1, .r s.2]) (fun i s => mrg i (l.getD i []) s) MI 3 (fun s => [.i l.length, .r (s.1.map keyed), .r s.1, .r s.2])
    (fun i s hi h => mrg_MI (h13.len _ (getD_mem hi)) h)
    (fun i s hi h => by
      unfold sighting_Merge_l0_step
      have hr := el13 (h13.len _ (getD_mem hi))
      simp only [gi_1, gi_z, gr_1, gr_2, gr_3, gr_z, dlt hi, guardP_pos (inR_of hi), guardP_pos (key_wf h13 hi), Int.toNat_natCast, wrap_succ (show i < 4611686018427387904 by omega), hr, find_keyed]
      unfold mrg
      cases e : s.1.find? (sameKey (l.getD i [])) with
      | none =>
        have hf : fitsA 104 (s.1.length + [l.getD i []].length) := by have := h.1; unfold fitsA; simp [maxLen] <;> omega
        rw [guardP_pos hf, put_keyed e]
        rfl
      | some o =>
        have hf : fitsA 8 (s.2.length + [[(i : Int)]].length) := by have := h.2.1; unfold fitsA; simp [maxLen] <;> omega
        rw [guardP_pos hf]
        show (bif !same13 o (l.getD i []) then _ else _) = _
        dsimp only
        cases same13 o (l.getD i []) <;> rfl)
    (fun s _ => by
      unfold sighting_Merge_l0_step
      simp only [gi_1, gi_z, gr_1, gr_2, gr_3, gr_z, dnlt]) (s := ([], [])) (by simp [MI])
  refine ⟨key.1, ?_⟩
  have e : sighting_Merge_l0 l = _ := key.2.1
  rw [e]
  simp only [gr_1, gr_2, gr_3, gr_z]
  rw [upto_mrgs _ _ _ (Nat.le_refl _), List.take_length]
  exact ⟨rfl, rfl⟩
theorem smerge_pre (l : List (List Int)) (h : El13 l) : sighting_Merge_pre l := by
  unfold sighting_Merge_pre
  refine ⟨(valid_is l).1, fun hb => (smerge_is l h ?_).1⟩
  have hv : sighting_valid_0 l = true := by simpa using hb
  rw [(valid_is l).2] at hv
  simp only [Bool.and_eq_true, decide_eq_true_eq] at hv
  exact hv.1
theorem smerge_0 (l : List (List Int)) (h : El13 l) : sighting_Merge_0 l = (bif !sighting_valid_0 l then [] else (mrgs 0 l ([], [])).1) ∧ sighting_Merge_1 l = bif !sighting_valid_0 l then [] else (mrgs 0 l ([], [])).2 := by
  unfold sighting_Merge_0 sighting_Merge_1
  cases hv : sighting_valid_0 l with
  | false => exact ⟨rfl, rfl⟩
  | true =>
    rw [(valid_is l).2] at hv
    simp only [Bool.and_eq_true, decide_eq_true_eq] at hv
    have := smerge_is l h hv.1
    rw [this.2.1, this.2.2]
    exact ⟨rfl, rfl⟩
def V (a b : Int) : Prop := -1000000000000 ≤ a ∧ a ≤ b ∧ b ≤ 1000000000000
instance (a b : Int) : Decidable (V a b) := by unfold V; infer_instance
def Bx (a b c d : Int) : Prop := -1000000 ≤ a ∧ a ≤ b ∧ b ≤ 1000000 ∧ -1000000 ≤ c ∧ c ≤ d ∧ d ≤ 1000000
instance (a b c d : Int) : Decidable (Bx a b c d) := by unfold Bx; infer_instance

theorem imin_min (x y : Int) : imin x y = min x y := by unfold imin; split <;> omega
theorem imax_max (x y : Int) : imax x y = max x y := by unfold imax; split <;> omega
theorem mx1 : max (0 : Int) 4 = 4 := rfl
theorem mx2 : max (4 : Int) 0 = 4 := rfl
theorem wrap_in {x : Int} (h : -9223372036854775808 ≤ x ∧ x ≤ 9223372036854775807) : IntKind.i64.wrap x = x := i64_wrap h
theorem valid_true {a b : Int} (h : V a b) : span_Valid_0 a b = true := by
  unfold V at h; unfold span_Valid_0; simp; omega
theorem valid_false {a b : Int} (h : ¬ V a b) : span_Valid_0 a b = false := by
  unfold V at h
  cases hb : span_Valid_0 a b with
  | false => rfl
  | true => unfold span_Valid_0 at hb; simp at hb; omega
theorem valid_dec (a b : Int) : span_Valid_0 a b = decide (V a b) := by
  by_cases h : V a b
  · rw [valid_true h]; simp [h]
  · rw [valid_false h]; simp [h]

theorem sub_cases (a b c d : Int) :
    (V a b ∧ V c d ∧ V (a - d) (b - c) ∧ span_Sub_0 a b c d = a - d ∧ span_Sub_1 a b c d = b - c ∧ span_Sub_2 a b c d = 0) ∨
    (V a b ∧ V c d ∧ ¬ V (a - d) (b - c) ∧ span_Sub_0 a b c d = 0 ∧ span_Sub_1 a b c d = 0 ∧ span_Sub_2 a b c d = 3) ∨
    (¬ (V a b ∧ V c d) ∧ span_Sub_0 a b c d = 0 ∧ span_Sub_1 a b c d = 0 ∧ span_Sub_2 a b c d = 1) := by
  unfold span_Sub_0 span_Sub_1 span_Sub_2 span_kept_0 span_kept_1 span_kept_2
  by_cases h1 : V a b <;> by_cases h2 : V c d
  · have e1 : IntKind.i64.wrap (a - d) = a - d := wrap_in (by unfold V at *; omega)
    have e2 : IntKind.i64.wrap (b - c) = b - c := wrap_in (by unfold V at *; omega)
    rw [e1, e2]
    by_cases h3 : V (a - d) (b - c) <;> simp [valid_dec, h1, h2, h3]
  all_goals simp [valid_dec, h1, h2]
theorem meet_cases (a b c d : Int) :
    (V a b ∧ V c d ∧ max a c ≤ min b d ∧ span_Meet_0 a b c d = max a c ∧ span_Meet_1 a b c d = min b d ∧ span_Meet_2 a b c d = 0) ∨
    (V a b ∧ V c d ∧ min b d < max a c ∧ span_Meet_0 a b c d = 0 ∧ span_Meet_1 a b c d = 0 ∧ span_Meet_2 a b c d = 4) ∨
    (¬ (V a b ∧ V c d) ∧ span_Meet_0 a b c d = 0 ∧ span_Meet_1 a b c d = 0 ∧ span_Meet_2 a b c d = 1) := by
  unfold span_Meet_0 span_Meet_1 span_Meet_2
  rw [imin_min, imax_max]
  by_cases h1 : V a b <;> by_cases h2 : V c d
  · by_cases h3 : min b d < max a c
    · simp [valid_dec, h1, h2, h3]
    · have h4 : max a c ≤ min b d := by omega
      simp [valid_dec, h1, h2, h3, h4]
  all_goals simp [valid_dec, h1, h2]
theorem join_cases (a b c d : Int) :
    (V a b ∧ V c d ∧ span_Join_0 a b c d = min a c ∧ span_Join_1 a b c d = max b d ∧ span_Join_2 a b c d = 0) ∨
    (¬ (V a b ∧ V c d) ∧ span_Join_0 a b c d = 0 ∧ span_Join_1 a b c d = 0 ∧ span_Join_2 a b c d = 1) := by
  unfold span_Join_0 span_Join_1 span_Join_2 span_ends_int_0 span_ends_int_1
  rw [imin_min, imax_max]
  by_cases h1 : V a b <;> by_cases h2 : V c d <;> simp [valid_dec, h1, h2]
theorem within_cases (a b c d : Int) :
    (V a b ∧ V c d ∧ span_Within_0 a b c d = decide (c ≤ a ∧ b ≤ d) ∧ span_Within_1 a b c d = 0) ∨
    (¬ (V a b ∧ V c d) ∧ span_Within_0 a b c d = false ∧ span_Within_1 a b c d = 1) := by
  unfold span_Within_0 span_Within_1 span_Join_2 span_Join_0 span_Join_1 span_ends_int_0 span_ends_int_1
  rw [imin_min, imax_max]
  by_cases h1 : V a b <;> by_cases h2 : V c d
  · left
    refine ⟨h1, h2, ?_, by simp [valid_dec, h1, h2]⟩
    rw [Bool.eq_iff_iff]
    simp [valid_dec, h1, h2]
    unfold V at *
    omega
  all_goals (right; simp [valid_dec, h1, h2])
theorem validBox_dec (a b c d : Int) : span_ValidBox_0 a b c d = decide (Bx a b c d) := by
  have hall : V (-1000000) 1000000 := by unfold V; omega
  unfold span_ValidBox_0
  by_cases h : Bx a b c d
  · rcases within_cases a b (-1000000) 1000000 with ⟨_, _, e0, e1⟩ | ⟨h', _⟩
    · rcases within_cases c d (-1000000) 1000000 with ⟨_, _, e2, e3⟩ | ⟨h', _⟩
      · rw [e0, e1, e2, e3, Bool.eq_iff_iff]
        simp [h]
        unfold Bx at h
        omega
      · exact absurd ⟨by unfold Bx V at *; omega, hall⟩ h'
    · exact absurd ⟨by unfold Bx V at *; omega, hall⟩ h'
  · simp only [h, decide_false]
    rcases within_cases a b (-1000000) 1000000 with ⟨h1, _, e0, e1⟩ | ⟨_, e0, e1⟩ <;> rcases within_cases c d (-1000000) 1000000 with ⟨h2, _, e2, e3⟩ | ⟨_, e2, e3⟩ <;> rw [e0, e1, e2, e3]
    · rw [Bool.eq_false_iff]
      simp
      unfold Bx V at *
      omega
    all_goals simp
theorem bx_v {a b c d : Int} (h : Bx a b c d) : V a b ∧ V c d := by unfold Bx V at *; omega
def Pt (x y : Int) : Prop := -1000000 ≤ x ∧ x ≤ 1000000 ∧ -1000000 ≤ y ∧ y ≤ 1000000
instance (x y : Int) : Decidable (Pt x y) := by unfold Pt; infer_instance
theorem pt_bx (x y : Int) : Pt x y ↔ Bx x x y y := by unfold Pt Bx; omega
theorem mul_bd {x n A B : Int} (h1 : -A ≤ x) (h2 : x ≤ A) (h3 : -B ≤ n) (h4 : n ≤ B) : -(A * B) ≤ x * n ∧ x * n ≤ A * B := by
  have a0 : 0 ≤ A := by omega
  have b0 : 0 ≤ B := by omega
  have k1 : 0 ≤ (A - x) * (B + n) := Int.mul_nonneg (by omega) (by omega)
  have k2 : 0 ≤ (A + x) * (B - n) := Int.mul_nonneg (by omega) (by omega)
  have k3 : 0 ≤ (A - x) * (B - n) := Int.mul_nonneg (by omega) (by omega)
  have k4 : 0 ≤ (A + x) * (B + n) := Int.mul_nonneg (by omega) (by omega)
  have e1 : (A - x) * (B + n) = A * B + A * n - x * B - x * n := by rw [Int.sub_mul, Int.mul_add, Int.mul_add]; omega
  have e2 : (A + x) * (B - n) = A * B - A * n + x * B - x * n := by rw [Int.add_mul, Int.mul_sub, Int.mul_sub]; omega
  have e3 : (A - x) * (B - n) = A * B - A * n - x * B + x * n := by rw [Int.sub_mul, Int.mul_sub, Int.mul_sub]; omega
  have e4 : (A + x) * (B + n) = A * B + A * n + x * B + x * n := by rw [Int.add_mul, Int.mul_add, Int.mul_add]; omega
  omega
/-- A valid report. -/
def RV (s n t b a1 a2 c1 c2 fx fy tx ty F : Int) : Prop :=
  (1 ≤ s ∧ s ≤ 100000) ∧ (1 ≤ n ∧ n ≤ 100000) ∧ (1 ≤ b ∧ b ≤ 100000) ∧ (0 ≤ t ∧ t ≤ 10000000) ∧ (0 ≤ F ∧ F ≤ 1000000) ∧ Bx a1 a2 c1 c2 ∧ Pt fx fy ∧ Pt tx ty ∧ 0 < cr fx fy tx ty
instance (s n t b a1 a2 c1 c2 fx fy tx ty F : Int) : Decidable (RV s n t b a1 a2 c1 c2 fx fy tx ty F) := by unfold RV; infer_instance
theorem cross_is {a b c d : Int} (h1 : Pt a b) (h2 : Pt c d) : sighting_cross_0 a b c d = cr a b c d := by
  unfold Pt at h1 h2
  have m1 := @mul_bd a d 1000000 1000000 (by omega) (by omega) (by omega) (by omega)
  have m2 := @mul_bd b c 1000000 1000000 (by omega) (by omega) (by omega) (by omega)
  unfold sighting_cross_0 cr
  simp (disch := omega) only [wrap_in]
theorem plane_dec (x y : Int) : plane_Valid_0 x y = decide (Pt x y) := by
  unfold plane_Valid_0; rw [imax_max, imin_min, Bool.eq_iff_iff]; simp; unfold Pt; omega
theorem isDir_dec (x y : Int) : sighting_isDirection_0 x y = decide (Pt x y) := plane_dec x y
theorem sval_dec (s n t b a1 a2 c1 c2 fx fy tx ty F : Int) : sighting_Valid_0 s n t b a1 a2 c1 c2 fx fy tx ty F = decide (RV s n t b a1 a2 c1 c2 fx fy tx ty F) := by
  unfold sighting_Valid_0 sighting_isID_0
  rw [isDir_dec, isDir_dec, validBox_dec]
  by_cases h1 : Pt fx fy <;> by_cases h2 : Pt tx ty <;> by_cases h3 : Bx a1 a2 c1 c2
  · rw [cross_is h1 h2, Bool.eq_iff_iff]
    simp [h1, h2, h3, RV]
    omega
  all_goals
    rw [Bool.eq_iff_iff]
    simp [h1, h2, h3, RV]
/-- A valid report allows some point of a valid box. -/
def Sees (a1 a2 c1 c2 fx fy tx ty F b1 b2 d1 d2 : Int) : Prop :=
  max (b1 - a2) (-F) ≤ min (b2 - a1) F ∧ max (d1 - c2) (-F) ≤ min (d2 - c1) F ∧ Core fx fy tx ty (max (b1 - a2) (-F)) (min (b2 - a1) F) (max (d1 - c2) (-F)) (min (d2 - c1) F)
instance (a1 a2 c1 c2 fx fy tx ty F b1 b2 d1 d2 : Int) : Decidable (Sees a1 a2 c1 c2 fx fy tx ty F b1 b2 d1 d2) := by unfold Sees; infer_instance
theorem meets_dec {fx fy tx ty xl xh yl yh : Int} (hf : Pt fx fy) (ht : Pt tx ty) (h1 : Pt xl yl) (h2 : Pt xl yh) (h3 : Pt xh yl) (h4 : Pt xh yh) : sighting_cone_meets_0 fx fy tx ty xl xh yl yh = decide (Core fx fy tx ty xl xh yl yh) := by
  unfold sighting_cone_meets_0 sighting_leads_0
  rw [cross_is hf h1, cross_is hf h2, cross_is hf h3, cross_is hf h4, cross_is h1 ht, cross_is h2 ht, cross_is h3 ht, cross_is h4 ht, Bool.eq_iff_iff]
  simp only [Bool.cond_true_left, Bool.cond_false_right, Bool.or_false, Bool.and_true]
  simp only [Bool.and_eq_true, Bool.or_eq_true, decide_eq_true_eq]
  unfold Core
  omega
theorem sees_dec {s n t b a1 a2 c1 c2 fx fy tx ty F b1 b2 d1 d2 : Int} (h : RV s n t b a1 a2 c1 c2 fx fy tx ty F) (hb : Bx b1 b2 d1 d2) : sighting_sees_0 s n t b a1 a2 c1 c2 fx fy tx ty F b1 b2 d1 d2 = decide (Sees a1 a2 c1 c2 fx fy tx ty F b1 b2 d1 d2) := by
  obtain ⟨_, _, _, _, hF, hA, hf, ht, _⟩ := h
  unfold sighting_sees_0
  rw [wrap_in (show -9223372036854775808 ≤ 0 - F ∧ 0 - F ≤ 9223372036854775807 by omega), Int.zero_sub]
  have vF : V (-F) F := by unfold V; omega
  rcases sub_cases b1 b2 a1 a2 with ⟨_, _, v1, e1, e2, _⟩ | ⟨_, _, v1, _⟩ | ⟨v1, _⟩
  · rcases sub_cases d1 d2 c1 c2 with ⟨_, _, v2, e3, e4, _⟩ | ⟨_, _, v2, _⟩ | ⟨v2, _⟩
    · rw [e1, e2, e3, e4]
      rcases meet_cases (b1 - a2) (b2 - a1) (-F) F with ⟨_, _, m1, k0, k1, k2⟩ | ⟨_, _, m1, k0, k1, k2⟩ | ⟨m1, _⟩
      · rcases meet_cases (d1 - c2) (d2 - c1) (-F) F with ⟨_, _, m2, k3, k4, k5⟩ | ⟨_, _, m2, k3, k4, k5⟩ | ⟨m2, _⟩
        · rw [k0, k1, k2, k3, k4, k5]
          have p : ∀ x y, (x = max (b1 - a2) (-F) ∨ x = min (b2 - a1) F) → (y = max (d1 - c2) (-F) ∨ y = min (d2 - c1) F) → Pt x y := by
            intro x y h1 h2; unfold Pt; omega
          rw [meets_dec hf ht (p _ _ (Or.inl rfl) (Or.inl rfl)) (p _ _ (Or.inl rfl) (Or.inr rfl)) (p _ _ (Or.inr rfl) (Or.inl rfl)) (p _ _ (Or.inr rfl) (Or.inr rfl))]
          simp [Sees, m1, m2]
        · rw [k5]
          have : ¬ Sees a1 a2 c1 c2 fx fy tx ty F b1 b2 d1 d2 := fun h => by have := h.2.1; omega
          simp [this]
        · exact absurd ⟨v2, vF⟩ m2
      · rw [k2]
        have : ¬ Sees a1 a2 c1 c2 fx fy tx ty F b1 b2 d1 d2 := fun h => by have := h.1; omega
        simp [this]
      · exact absurd ⟨v1, vF⟩ m1
    · exact absurd (by unfold Bx at *; unfold V; omega) v2
    · exact absurd (by unfold Bx at *; unfold V; omega) v2
  · exact absurd (by unfold Bx at *; unfold V; omega) v1
  · exact absurd (by unfold Bx at *; unfold V; omega) v1
theorem allows_dec (s n t b a1 a2 c1 c2 fx fy tx ty F x y : Int) : sighting_Allows_0 s n t b a1 a2 c1 c2 fx fy tx ty F x y = decide (RV s n t b a1 a2 c1 c2 fx fy tx ty F ∧ Pt x y ∧ Sees a1 a2 c1 c2 fx fy tx ty F x x y y) := by
  unfold sighting_Allows_0
  rw [sval_dec, plane_dec]
  by_cases h1 : RV s n t b a1 a2 c1 c2 fx fy tx ty F <;> by_cases h2 : Pt x y
  · rw [sees_dec h1 ((pt_bx x y).1 h2)]; simp [h1, h2]
  all_goals simp [h1, h2]
theorem allows_err (s n t b a1 a2 c1 c2 fx fy tx ty F x y : Int) : sighting_Allows_1 s n t b a1 a2 c1 c2 fx fy tx ty F x y = if RV s n t b a1 a2 c1 c2 fx fy tx ty F ∧ Pt x y then 0 else 1 := by
  unfold sighting_Allows_1
  rw [sval_dec, plane_dec]
  by_cases h1 : RV s n t b a1 a2 c1 c2 fx fy tx ty F <;> by_cases h2 : Pt x y <;> simp [h1, h2]
/-- The ends of a Box. -/
def rlo (a F u v : Int) : Int := if u < 0 ∨ v < 0 then max (a - F) (-1000000) else a
def rhi (a F u v : Int) : Int := if u > 0 ∨ v > 0 then min (a + F) 1000000 else a
theorem reach_is {a1 a2 u v F : Int} (h1 : -1000000 ≤ a1) (h2 : a2 ≤ 1000000) (h3 : a1 ≤ a2) (hF : 0 ≤ F ∧ F ≤ 1000000) : sighting_reach_0 a1 a2 u v F = rlo a1 F u v ∧ sighting_reach_1 a1 a2 u v F = rhi a2 F u v := by
  unfold sighting_reach_0 sighting_reach_1 rlo rhi
  simp (disch := omega) only [wrap_in, imax_max, imin_min]
  by_cases e1 : u < 0 ∨ v < 0 <;> by_cases e2 : u > 0 ∨ v > 0
  · rw [decide_eq_true (show min u v < 0 by omega), decide_eq_true (show max u v > 0 by omega)]; simp [e1, e2]
  · rw [decide_eq_true (show min u v < 0 by omega), decide_eq_false (show ¬ max u v > 0 by omega)]; simp [e1, e2]
  · rw [decide_eq_false (show ¬ min u v < 0 by omega), decide_eq_true (show max u v > 0 by omega)]; simp [e1, e2]
  · rw [decide_eq_false (show ¬ min u v < 0 by omega), decide_eq_false (show ¬ max u v > 0 by omega)]; simp [e1, e2]
theorem box_cases (s n t b a1 a2 c1 c2 fx fy tx ty F : Int) :
    (RV s n t b a1 a2 c1 c2 fx fy tx ty F ∧ sighting_Box_0 s n t b a1 a2 c1 c2 fx fy tx ty F = rlo a1 F fx tx ∧ sighting_Box_1 s n t b a1 a2 c1 c2 fx fy tx ty F = rhi a2 F fx tx ∧ sighting_Box_2 s n t b a1 a2 c1 c2 fx fy tx ty F = rlo c1 F fy ty ∧ sighting_Box_3 s n t b a1 a2 c1 c2 fx fy tx ty F = rhi c2 F fy ty ∧ sighting_Box_4 s n t b a1 a2 c1 c2 fx fy tx ty F = 0) ∨
    (¬ RV s n t b a1 a2 c1 c2 fx fy tx ty F ∧ sighting_Box_0 s n t b a1 a2 c1 c2 fx fy tx ty F = 0 ∧ sighting_Box_1 s n t b a1 a2 c1 c2 fx fy tx ty F = 0 ∧ sighting_Box_2 s n t b a1 a2 c1 c2 fx fy tx ty F = 0 ∧ sighting_Box_3 s n t b a1 a2 c1 c2 fx fy tx ty F = 0 ∧ sighting_Box_4 s n t b a1 a2 c1 c2 fx fy tx ty F = 1) := by
  unfold sighting_Box_0 sighting_Box_1 sighting_Box_2 sighting_Box_3 sighting_Box_4
  rw [sval_dec]
  by_cases h : RV s n t b a1 a2 c1 c2 fx fy tx ty F
  · obtain ⟨_, _, _, _, hF, hA, _⟩ := id h
    unfold Bx at hA
    have e1 := @reach_is a1 a2 fx tx F (by omega) (by omega) (by omega) hF
    have e2 := @reach_is c1 c2 fy ty F (by omega) (by omega) (by omega) hF
    rw [e1.1, e1.2, e2.1, e2.2]
    simp [h]
  · simp [h]
theorem mrgs_MI : ∀ (l : List (List Int)) (i : Nat) (s : List (List Int) × List (List Int)), (∀ e ∈ l, e.length = 13) → MI i s → MI (i + l.length) (mrgs i l s)
  | [], i, s, _, h => h
  | r :: l, i, s, hl, h => by
    have := mrgs_MI l (i + 1) (mrg i r s) (fun e he => hl e (List.mem_cons_of_mem _ he)) (mrg_MI (hl r List.mem_cons_self) h)
    rw [List.length_cons, show i + (l.length + 1) = i + 1 + l.length by omega]
    exact this
theorem mrgs_MI0 {l : List (List Int)} (h : ∀ e ∈ l, e.length = 13) : MI l.length (mrgs 0 l ([], [])) := by
  have := mrgs_MI l 0 ([], []) h (by simp [MI])
  rwa [Nat.zero_add] at this
theorem noIdx_one (p : List Int → Bool) : ∀ (l : List (List Int)) (i : Nat), ∀ e ∈ noIdx p i l, e.length = 1
  | [], i, e, he => by cases he
  | r :: l, i, e, he => by
    unfold noIdx at he
    cases hp : p r with
    | true => rw [hp] at he; exact noIdx_one p l (i + 1) e he
    | false =>
      rw [hp] at he
      rcases List.mem_cons.1 he with rfl | he
      · rfl
      · exact noIdx_one p l (i + 1) e he

theorem ints_L (n : Int) : ref24_Ints_0 [[n]] [[n]] = true := by
  rw [ints_eq (by simp) (by simp) (by simp)]; simp
theorem u32_bd {n : Int} (h : (Lit.int .u32 n).wf = true) : 0 ≤ n ∧ n ≤ 4294967295 := by
  have h1 : IntKind.u32.min = 0 := by decide
  have h2 : IntKind.u32.max = 4294967295 := by decide
  simp only [Lit.wf, h1, h2, Bool.and_eq_true, decide_eq_true_eq] at h
  exact h
theorem cr_self (a b : Int) : cr a b a b = 0 := by unfold cr; grind
/-- What a report allows, one that says less does. -/
theorem sees_wider {a1 a2 c1 c2 fx fy tx ty F a1' a2' c1' c2' fx' fy' tx' ty' F' b1 b2 d1 d2 b1' b2' d1' d2' : Int} (hD : 0 < cr fx fy tx ty) (hD' : 0 < cr fx' fy' tx' ty') (hF : 0 ≤ F) (hA : a1 ≤ a2 ∧ c1 ≤ c2) (hb : b1 ≤ b2 ∧ d1 ≤ d2)
    (h : Sees a1 a2 c1 c2 fx fy tx ty F b1 b2 d1 d2) (wA : a1' ≤ a1 ∧ a2 ≤ a2' ∧ c1' ≤ c1 ∧ c2 ≤ c2') (wF : F ≤ F') (wb : b1' ≤ b1 ∧ b2 ≤ b2' ∧ d1' ≤ d1 ∧ d2 ≤ d2')
    (k1 : 0 ≤ cr fx' fy' fx fy) (k2 : 0 ≤ cr fx' fy' tx ty) (k3 : 0 ≤ cr fx fy tx' ty') (k4 : 0 ≤ cr tx ty tx' ty') : Sees a1' a2' c1' c2' fx' fy' tx' ty' F' b1' b2' d1' d2' := by
  obtain ⟨m1, m2, h⟩ := h
  refine ⟨by omega, by omega, (core_iff hD' (by omega) (by omega)).2 (hit_wider hD ((core_iff hD m1 m2).1 h) (by omega) (by omega) (by omega) (by omega) k1 k2 k3 k4)⟩
theorem sees_mono {a1 a2 c1 c2 fx fy tx ty F b1 b2 d1 d2 b1' b2' d1' d2' : Int} (hD : 0 < cr fx fy tx ty) (hF : 0 ≤ F) (hA : a1 ≤ a2 ∧ c1 ≤ c2) (hb : b1 ≤ b2 ∧ d1 ≤ d2)
    (h : Sees a1 a2 c1 c2 fx fy tx ty F b1 b2 d1 d2) (wb : b1' ≤ b1 ∧ b2 ≤ b2' ∧ d1' ≤ d1 ∧ d2 ≤ d2') : Sees a1 a2 c1 c2 fx fy tx ty F b1' b2' d1' d2' :=
  sees_wider hD hD hF hA hb h (by omega) (by omega) wb (by rw [cr_self]; omega) (by omega) (by omega) (by rw [cr_self]; omega)
theorem box_bx {a1 a2 c1 c2 fx fy tx ty F : Int} (hA : Bx a1 a2 c1 c2) (hF : 0 ≤ F ∧ F ≤ 1000000) : Bx (rlo a1 F fx tx) (rhi a2 F fx tx) (rlo c1 F fy ty) (rhi c2 F fy ty) ∧ rlo a1 F fx tx ≤ a1 ∧ a2 ≤ rhi a2 F fx tx ∧ rlo c1 F fy ty ≤ c1 ∧ c2 ≤ rhi c2 F fy ty := by
  unfold Bx at *
  unfold rlo rhi
  split <;> split <;> split <;> split <;> omega
theorem reach_meet {a1 a2 b1 b2 F u v : Int} (ha : -1000000 ≤ a1 ∧ a1 ≤ a2 ∧ a2 ≤ 1000000) (hb : -1000000 ≤ b1 ∧ b1 ≤ b2 ∧ b2 ≤ 1000000) (hF : 0 ≤ F ∧ F ≤ 1000000) (m : max (b1 - a2) (-F) ≤ min (b2 - a1) F)
    (l1 : max (b1 - a2) (-F) ≤ 0 ∨ u > 0 ∨ v > 0) (l2 : min (b2 - a1) F ≥ 0 ∨ u < 0 ∨ v < 0) : max b1 (rlo a1 F u v) ≤ min b2 (rhi a2 F u v) := by
  have m1 : b1 - a2 ≤ F := by omega
  have m2 : -F ≤ b2 - a1 := by omega
  have k1 : b1 ≤ a2 ∨ (u > 0 ∨ v > 0) := by rcases l1 with h | h; (left; omega); exact Or.inr h
  have k2 : a1 ≤ b2 ∨ (u < 0 ∨ v < 0) := by rcases l2 with h | h; (left; omega); exact Or.inr h
  clear m l1 l2
  unfold rlo rhi
  by_cases c1 : u < 0 ∨ v < 0 <;> by_cases c2 : u > 0 ∨ v > 0
  · rw [if_pos c1, if_pos c2]; clear k1 k2 c1 c2; omega
  · rw [if_pos c1, if_neg c2]
    rcases k1 with k | k
    · clear k2 c1 c2; omega
    · exact absurd k c2
  · rw [if_neg c1, if_pos c2]
    rcases k2 with k | k
    · clear k1 c1 c2; omega
    · exact absurd k c1
  · rw [if_neg c1, if_neg c2]
    rcases k1 with k | k
    · rcases k2 with k' | k'
      · clear c1 c2; omega
      · exact absurd k' c1
    · exact absurd k c2
theorem sees_box {a1 a2 c1 c2 fx fy tx ty F b1 b2 d1 d2 : Int} (hA : Bx a1 a2 c1 c2) (hb : Bx b1 b2 d1 d2) (hF : 0 ≤ F ∧ F ≤ 1000000) (h : Sees a1 a2 c1 c2 fx fy tx ty F b1 b2 d1 d2) :
    max b1 (rlo a1 F fx tx) ≤ min b2 (rhi a2 F fx tx) ∧ max d1 (rlo c1 F fy ty) ≤ min d2 (rhi c2 F fy ty) := by
  obtain ⟨m1, m2, l1, l2, l3, l4, _⟩ := h
  obtain ⟨x1, x2, x3, x4, x5, x6⟩ := hA
  obtain ⟨y1, y2, y3, y4, y5, y6⟩ := hb
  exact ⟨reach_meet ⟨x1, x2, x3⟩ ⟨y1, y2, y3⟩ hF m1 l1 l2, reach_meet ⟨x4, x5, x6⟩ ⟨y4, y5, y6⟩ hF m2 l3 l4⟩

theorem crot (a b c d : Int) : cr (-b) a (-d) c = cr a b c d := by unfold cr; grind
theorem core_rot {fx fy tx ty xl xh yl yh : Int} : Core (-fy) fx (-ty) tx (-yh) (-yl) xl xh ↔ Core fx fy tx ty xl xh yl yh := by
  unfold Core
  rw [crot, crot, crot, crot, crot, crot, crot, crot]
  omega
theorem sees_rot {a1 a2 c1 c2 fx fy tx ty F b1 b2 d1 d2 u v : Int} : Sees (u - c2) (u - c1) (v + a1) (v + a2) (-fy) fx (-ty) tx F (u - d2) (u - d1) (v + b1) (v + b2) ↔ Sees a1 a2 c1 c2 fx fy tx ty F b1 b2 d1 d2 := by
  unfold Sees
  have e1 : max (u - d2 - (u - c1)) (-F) = -(min (d2 - c1) F) := by omega
  have e2 : min (u - d1 - (u - c2)) F = -(max (d1 - c2) (-F)) := by omega
  have e3 : max (v + b1 - (v + a2)) (-F) = max (b1 - a2) (-F) := by omega
  have e4 : min (v + b2 - (v + a1)) F = min (b2 - a1) F := by omega
  rw [e1, e2, e3, e4, core_rot]
  constructor
  · rintro ⟨h1, h2, h3⟩; exact ⟨h2, by omega, h3⟩
  · rintro ⟨h1, h2, h3⟩; exact ⟨by omega, h1, h3⟩
theorem mem_noIdx (p : List Int → Bool) : ∀ (l : List (List Int)) (i j : Nat), ([((j : Nat) : Int)] ∈ noIdx p i l ↔ i ≤ j ∧ j < i + l.length ∧ p (l.getD (j - i) []) = false)
  | [], i, j => by simp [noIdx]; omega
  | r :: l, i, j => by
    have ih := mem_noIdx p l (i + 1) j
    unfold noIdx
    by_cases e : j = i
    · subst e
      have ih' : ¬ [((j : Nat) : Int)] ∈ noIdx p (j + 1) l := fun h => by have := ih.1 h; omega
      cases hp : p r with
      | true => simp [ih', hp]
      | false => simp [hp]
    · have e2 : (r :: l).getD (j - i) [] = l.getD (j - (i + 1)) [] ∨ j < i := by
        by_cases hj : i < j
        · left; rw [show j - i = (j - (i + 1)) + 1 by omega]; rfl
        · right; omega
      have e3 : ([((j : Nat) : Int)] ∈ ((bif p r then noIdx p (i + 1) l else [(i : Int)] :: noIdx p (i + 1) l) : List (List Int))) ↔ [((j : Nat) : Int)] ∈ noIdx p (i + 1) l := by
        cases p r with
        | true => rfl
        | false =>
          simp only [cond_false, List.mem_cons]
          constructor
          · rintro (h | h)
            · exfalso; simp at h; omega
            · exact h
          · exact Or.inr
      rw [e3, ih]
      rcases e2 with e2 | e2
      · rw [e2, List.length_cons]
        by_cases hj : i < j
        · constructor <;> rintro ⟨h1, h2, h3⟩ <;> exact ⟨by omega, by omega, h3⟩
        · constructor <;> rintro ⟨h1, h2, h3⟩ <;> omega
      · constructor <;> rintro ⟨h1, h2, h3⟩ <;> omega
/-- A loop that looks for a number in a list of numbers. -/
theorem upto_any (l : List (List Int)) (z : Int) : ∀ i, i ≤ l.length → upto (fun i s => s || (l.getD i []).getD 0 0 == z) i false = (l.take i).any fun e => e.getD 0 0 == z
  | 0, _ => by simp [upto]
  | i + 1, h => by rw [upto, upto_any l z i (by omega), take_succ' (by omega), List.any_append]; simp
end Go.Proofs.Ytjibokphafpcmaa.Si
