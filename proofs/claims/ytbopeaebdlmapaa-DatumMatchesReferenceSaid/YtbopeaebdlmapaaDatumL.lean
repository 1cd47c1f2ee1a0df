/-
  What the functions of package datum compute, said plainly.
-/
import Derived.Test.YtbopeaebdlmapaaDatumBD
import Derived.Test.YtbopeaebdlmapaaSpanL
namespace Go.Proofs.Ytbopeaebdlmapaa
open Go Go.Sx

/-- A valid datum. -/
def DV (a b c d e f r : Int) : Prop := (-2000000 ≤ a ∧ a ≤ 2000000) ∧ (-2000000 ≤ b ∧ b ≤ 2000000) ∧ (-2000000 ≤ d ∧ d ≤ 2000000) ∧ (-2000000 ≤ e ∧ e ≤ 2000000) ∧
  250000000000 ≤ a * e - b * d ∧ (-100000 ≤ c ∧ c ≤ 100000) ∧ (-100000 ≤ f ∧ f ≤ 100000) ∧ 0 ≤ r ∧ r ≤ 1000
instance (a b c d e f r : Int) : Decidable (DV a b c d e f r) := by unfold DV; infer_instance
def Fa (a : Int) : Prop := -2000000 ≤ a ∧ a ≤ 2000000
theorem fa_mul {a b : Int} (h1 : Fa a) (h2 : Fa b) : -4000000000000 ≤ a * b ∧ a * b ≤ 4000000000000 := by
  have := @mul_bd a b 2000000 2000000 h1.1 h1.2 h2.1 h2.2
  omega
theorem det_eq {a b c d e f r : Int} (h1 : Fa a) (h2 : Fa b) (h3 : Fa d) (h4 : Fa e) : datum_det_0 a b c d e f r = a * e - b * d := by
  have m1 := fa_mul h1 h4
  have m2 := fa_mul h2 h3
  unfold datum_det_0
  simp (disch := omega) only [wrap_in]
theorem dvalid_dec (a b c d e f r : Int) : datum_Valid_0 a b c d e f r = decide (DV a b c d e f r) := by
  unfold datum_Valid_0
  have no : ∀ {x : Int}, ¬ Fa x → (decide (x < -2000000) || decide (x > 2000000)) = true := fun {x} h => by unfold Fa at h; simp; omega
  have yes : ∀ {x : Int}, Fa x → (decide (x < -2000000) || decide (x > 2000000)) = false := fun {x} h => by unfold Fa at h; simp; omega
  by_cases h1 : Fa a
  · rw [yes h1]
    by_cases h2 : Fa b
    · rw [yes h2]
      by_cases h3 : Fa d
      · rw [yes h3]
        by_cases h4 : Fa e
        · rw [yes h4, det_eq h1 h2 h3 h4, imin_min, imax_max, Bool.eq_iff_iff]
          simp only [cond_false, Bool.and_eq_true, decide_eq_true_eq]
          unfold Fa at h1 h2 h3 h4
          unfold DV
          omega
        · rw [no h4]
          have : ¬ DV a b c d e f r := fun h => h4 h.2.2.2.1
          simp [this]
      · rw [no h3]
        have : ¬ DV a b c d e f r := fun h => h3 h.2.2.1
        simp [this]
    · rw [no h2]
      have : ¬ DV a b c d e f r := fun h => h2 h.2.1
      simp [this]
  · rw [no h1]
    have : ¬ DV a b c d e f r := fun h => h1 h.1
    simp [this]
theorem dv_det {a b c d e f r : Int} (h : DV a b c d e f r) : datum_det_0 a b c d e f r = a * e - b * d ∧ 250000000000 ≤ a * e - b * d ∧ a * e - b * d ≤ 8000000000000 := by
  have m1 := fa_mul h.1 h.2.2.2.1
  have m2 := fa_mul h.2.1 h.2.2.1
  exact ⟨det_eq h.1 h.2.1 h.2.2.1 h.2.2.2.1, h.2.2.2.2.1, by omega⟩
theorem place_dec (x y : Int) : plane_Valid_0 x y = decide (Pt x y) := by
  unfold plane_Valid_0
  rw [imin_min, imax_max, Bool.eq_iff_iff]
  simp only [Bool.and_eq_true, decide_eq_true_eq]
  unfold Pt
  omega

/-! ### division -/
theorem ediv_of {n d q : Int} (hd : 1 ≤ d) (h1 : q * d ≤ n) (h2 : n < (q + 1) * d) : n / d = q := by
  have a := (Int.le_ediv_iff_mul_le (show 0 < d by omega)).2 h1
  have b := (Int.ediv_lt_iff_lt_mul (show 0 < d by omega)).2 h2
  omega
theorem down_eq {n d : Int} (hd : 1 ≤ d) (hn : -9223372036854775807 ≤ n ∧ n ≤ 9223372036854775806) : datum_down_0 n d = n / d := by
  have f := floor_spec (L := n) hd
  have b := tdiv_bd n d
  unfold datum_down_0
  simp (disch := omega) only [wrap_in]
  by_cases c : n.tmod d < 0
  · simp only [c, decide_true, cond_true]
    exact (ediv_of hd (f.1 c).1 (f.1 c).2).symm
  · simp only [c, decide_false, cond_false]
    exact (ediv_of hd (f.2 c).1 (f.2 c).2).symm
theorem ediv_bd {n d : Int} (hd : 1 ≤ d) {B : Int} (hB : 0 ≤ B) (hn : -B ≤ n ∧ n ≤ B) : -B ≤ n / d ∧ n / d ≤ B := by
  constructor
  · refine (Int.le_ediv_iff_mul_le (show 0 < d by omega)).2 ?_
    have := Int.mul_le_mul_of_nonneg_left hd hB
    have e : -B * d = -(B * d) := by rw [Int.neg_mul]
    omega
  · have := Int.mul_le_mul_of_nonneg_left hd hB
    have h : n < (B + 1) * d := by rw [Int.add_mul]; omega
    have := (Int.ediv_lt_iff_lt_mul (show 0 < d by omega)).2 h
    omega
theorem up_eq {n d : Int} (hd : 1 ≤ d) (hn : -9223372036854775806 ≤ n ∧ n ≤ 9223372036854775806) : datum_up_0 n d = -((-n) / d) := by
  unfold datum_up_0
  have e : IntKind.i64.wrap (0 - n) = -n := by rw [wrap_in (by omega)]; omega
  rw [e, down_eq hd (by omega)]
  have := ediv_bd (n := -n) hd (B := 9223372036854775806) (by omega) (by omega)
  rw [wrap_in (by omega)]
  omega
theorem round_eq {n d : Int} (hd : 1 ≤ d) (hd2 : d ≤ 10000000000000) (hn : -4500000000000000000 ≤ n ∧ n ≤ 4500000000000000000) : datum_round_0 n d = (2 * n + d) / (2 * d) := by
  unfold datum_round_0
  simp (disch := omega) only [wrap_in]
  rw [down_eq (by omega) (by omega)]
theorem rdown (n d : Int) : ref04_Down_0 n d = datum_down_0 n d := rfl
theorem rup (n d : Int) : ref04_Up_0 n d = datum_up_0 n d := rfl
theorem ediv_split (n d : Int) (hd : 1 ≤ d) : n / d * d ≤ n ∧ n < n / d * d + d := by
  have h1 := Int.mul_ediv_add_emod n d
  have h2 := Int.emod_nonneg n (show d ≠ 0 by omega)
  have h3 := Int.emod_lt_of_pos n (show 0 < d by omega)
  rw [Int.mul_comm] at h1
  omega
theorem rround_eq {n d : Int} (hd : 1 ≤ d) (hd2 : d ≤ 10000000000000) (hn : -4500000000000000000 ≤ n ∧ n ≤ 4500000000000000000) : ref04_Round_0 n d = (2 * n + d) / (2 * d) := by
  unfold ref04_Round_0
  rw [rdown, down_eq hd (by omega)]
  have s := ediv_split n d hd
  have b := ediv_bd (n := n) hd (B := 4500000000000000000) (by omega) hn
  have e1 : (n / d + 1) * (2 * d) = 2 * (n / d * d) + 2 * d := by rw [Int.add_mul, Int.mul_left_comm]; omega
  have e2 : (n / d) * (2 * d) = 2 * (n / d * d) := by rw [Int.mul_left_comm]
  have e3 : (n / d + 1 + 1) * (2 * d) = 2 * (n / d * d) + 2 * d + 2 * d := by rw [Int.add_mul, e1]; omega
  simp (disch := omega) only [wrap_in]
  by_cases c : 2 * (n - n / d * d) ≥ d
  · simp only [c, decide_true, cond_true]
    exact (ediv_of (by omega) (by omega) (by omega)).symm
  · simp only [c, decide_false, cond_false]
    exact (ediv_of (by omega) (by omega) (by omega)).symm

/-! ### rows -/
def Mn (x l h : Int) : Int := min (x * l) (x * h)
def Mx (x l h : Int) : Int := max (x * l) (x * h)
/-- A coordinate, or one that is moved by a datum. -/
def Co (x : Int) : Prop := -1200000 ≤ x ∧ x ≤ 1200000
def Mo (x : Int) : Prop := -100000 ≤ x ∧ x ≤ 100000
theorem fc_mul {a x : Int} (h1 : Fa a) (h2 : Co x) : -2400000000000 ≤ a * x ∧ a * x ≤ 2400000000000 := by
  have := @mul_bd a x 2000000 1200000 h1.1 h1.2 h2.1 h2.2
  omega
theorem mn_bd {a l h : Int} (h1 : Fa a) (h2 : Co l) (h3 : Co h) : -2400000000000 ≤ Mn a l h ∧ Mn a l h ≤ 2400000000000 := by
  have := fc_mul h1 h2
  have := fc_mul h1 h3
  unfold Mn; omega
theorem mx_bd {a l h : Int} (h1 : Fa a) (h2 : Co l) (h3 : Co h) : -2400000000000 ≤ Mx a l h ∧ Mx a l h ≤ 2400000000000 := by
  have := fc_mul h1 h2
  have := fc_mul h1 h3
  unfold Mx; omega
theorem at_eq {x y m p q : Int} (h1 : Fa x) (h2 : Fa y) (h3 : Mo m) (h4 : Co p) (h5 : Co q) : datum_row_at_0 x y m p q = x * p + y * q + 1000000 * m := by
  have m1 := fc_mul h1 h4
  have m2 := fc_mul h2 h5
  unfold Mo at h3
  unfold datum_row_at_0
  simp (disch := omega) only [wrap_in]
theorem least_eq {x y m l h l' h' : Int} (h1 : Fa x) (h2 : Fa y) (h3 : Mo m) (c1 : Co l) (c2 : Co h) (c3 : Co l') (c4 : Co h') : datum_row_least_0 x y m l h l' h' = Mn x l h + Mn y l' h' + 1000000 * m := by
  have m1 := fc_mul h1 c1
  have m2 := fc_mul h1 c2
  have m3 := fc_mul h2 c3
  have m4 := fc_mul h2 c4
  unfold Mo at h3
  unfold datum_row_least_0 Mn
  rw [imin_min, imin_min]
  simp (disch := omega) only [wrap_in]
theorem most_eq {x y m l h l' h' : Int} (h1 : Fa x) (h2 : Fa y) (h3 : Mo m) (c1 : Co l) (c2 : Co h) (c3 : Co l') (c4 : Co h') : datum_row_most_0 x y m l h l' h' = Mx x l h + Mx y l' h' + 1000000 * m := by
  have m1 := fc_mul h1 c1
  have m2 := fc_mul h1 c2
  have m3 := fc_mul h2 c3
  have m4 := fc_mul h2 c4
  unfold Mo at h3
  unfold datum_row_most_0 Mx
  rw [imax_max, imax_max]
  simp (disch := omega) only [wrap_in]
theorem fa_neg {x : Int} (h : Fa x) : Fa (-x) := by unfold Fa at *; omega

/-! ### Fits -/
/-- How far a place is from the middle, in millionths. -/
def Dx (a b c p q x : Int) : Int := 1000000 * x - (a * p + b * q + 1000000 * c)
def FitsAt (a b c d e f r p q x y : Int) : Prop := (-(1000000 * r) ≤ Dx a b c p q x ∧ Dx a b c p q x ≤ 1000000 * r) ∧ (-(1000000 * r) ≤ Dx d e f p q y ∧ Dx d e f p q y ≤ 1000000 * r)
instance (a b c d e f r p q x y : Int) : Decidable (FitsAt a b c d e f r p q x y) := by unfold FitsAt; infer_instance
theorem pt_co {x y : Int} (h : Pt x y) : Co x ∧ Co y := by unfold Pt at h; unfold Co; omega
theorem fits_cases (a b c d e f r p q x y : Int) :
    (DV a b c d e f r ∧ Pt p q ∧ Pt x y ∧ datum_Fits_0 a b c d e f r p q x y = decide (FitsAt a b c d e f r p q x y) ∧ datum_Fits_1 a b c d e f r p q x y = 0) ∨
    (¬ (DV a b c d e f r ∧ Pt p q ∧ Pt x y) ∧ datum_Fits_0 a b c d e f r p q x y = false ∧ datum_Fits_1 a b c d e f r p q x y = 1) := by
  unfold datum_Fits_0 datum_Fits_1
  rw [dvalid_dec, place_dec, place_dec]
  by_cases h1 : DV a b c d e f r
  · by_cases h2 : Pt p q
    · by_cases h3 : Pt x y
      · left
        obtain ⟨c1, c2⟩ := pt_co h2
        have b1 := fc_mul h1.1 c1
        have b2 := fc_mul h1.2.1 c2
        have b3 := fc_mul h1.2.2.1 c1
        have b4 := fc_mul h1.2.2.2.1 c2
        refine ⟨h1, h2, h3, ?_, by simp [h1, h2, h3]⟩
        simp only [h1, h2, h3, decide_true, Bool.not_true, Bool.or_self, cond_false]
        rw [at_eq h1.1 h1.2.1 h1.2.2.2.2.2.1 c1 c2, at_eq h1.2.2.1 h1.2.2.2.1 h1.2.2.2.2.2.2.1 c1 c2]
        have hp := h3
        have hv := h1.2.2.2.2.2
        unfold Pt at hp
        simp (disch := omega) only [wrap_in]
        simp only [imax_max]
        rw [Bool.eq_iff_iff]
        simp only [decide_eq_true_eq]
        unfold FitsAt Dx
        omega
      · right; simp [h3]
    · right; simp [h2]
  · right; simp [h1]

/-! ### Carry -/
def cLo (a b c r l h l' h' : Int) : Int := (Mn a l h + Mn b l' h' + 1000000 * c - 1000000 * r) / 1000000
def cHi (a b c r l h l' h' : Int) : Int := -((-(Mx a l h + Mx b l' h' + 1000000 * c + 1000000 * r)) / 1000000)
theorem bx_co {l h l' h' : Int} (k : Bx l h l' h') : Co l ∧ Co h ∧ Co l' ∧ Co h' := by unfold Bx at k; unfold Co; omega
theorem cLo_eq {a b c r l h l' h' : Int} (h1 : Fa a) (h2 : Fa b) (h3 : Mo c) (hr : 0 ≤ r ∧ r ≤ 1000) (k : Bx l h l' h') :
    datum_down_0 (IntKind.i64.wrap (datum_row_least_0 a b c l h l' h' - IntKind.i64.wrap (1000000 * r))) 1000000 = cLo a b c r l h l' h' := by
  obtain ⟨c1, c2, c3, c4⟩ := bx_co k
  rw [least_eq h1 h2 h3 c1 c2 c3 c4]
  have b1 := mn_bd h1 c1 c2
  have b2 := mn_bd h2 c3 c4
  unfold Mo at h3
  simp (disch := omega) only [wrap_in]
  rw [down_eq (by omega) (by omega)]
  rfl
theorem cHi_eq {a b c r l h l' h' : Int} (h1 : Fa a) (h2 : Fa b) (h3 : Mo c) (hr : 0 ≤ r ∧ r ≤ 1000) (k : Bx l h l' h') :
    datum_up_0 (IntKind.i64.wrap (datum_row_most_0 a b c l h l' h' + IntKind.i64.wrap (1000000 * r))) 1000000 = cHi a b c r l h l' h' := by
  obtain ⟨c1, c2, c3, c4⟩ := bx_co k
  rw [most_eq h1 h2 h3 c1 c2 c3 c4]
  have b1 := mx_bd h1 c1 c2
  have b2 := mx_bd h2 c3 c4
  unfold Mo at h3
  simp (disch := omega) only [wrap_in]
  rw [up_eq (by omega) (by omega)]
  rfl
theorem carry_cases (a b c d e f r l h l' h' : Int) :
    (DV a b c d e f r ∧ Bx l h l' h' ∧ Bx (cLo a b c r l h l' h') (cHi a b c r l h l' h') (cLo d e f r l h l' h') (cHi d e f r l h l' h') ∧
      datum_Carry_0 a b c d e f r l h l' h' = cLo a b c r l h l' h' ∧ datum_Carry_1 a b c d e f r l h l' h' = cHi a b c r l h l' h' ∧ datum_Carry_2 a b c d e f r l h l' h' = cLo d e f r l h l' h' ∧ datum_Carry_3 a b c d e f r l h l' h' = cHi d e f r l h l' h' ∧ datum_Carry_4 a b c d e f r l h l' h' = 0) ∨
    (DV a b c d e f r ∧ Bx l h l' h' ∧ ¬ Bx (cLo a b c r l h l' h') (cHi a b c r l h l' h') (cLo d e f r l h l' h') (cHi d e f r l h l' h') ∧
      datum_Carry_0 a b c d e f r l h l' h' = 0 ∧ datum_Carry_1 a b c d e f r l h l' h' = 0 ∧ datum_Carry_2 a b c d e f r l h l' h' = 0 ∧ datum_Carry_3 a b c d e f r l h l' h' = 0 ∧ datum_Carry_4 a b c d e f r l h l' h' = 3) ∨
    (¬ (DV a b c d e f r ∧ Bx l h l' h') ∧
      datum_Carry_0 a b c d e f r l h l' h' = 0 ∧ datum_Carry_1 a b c d e f r l h l' h' = 0 ∧ datum_Carry_2 a b c d e f r l h l' h' = 0 ∧ datum_Carry_3 a b c d e f r l h l' h' = 0 ∧ datum_Carry_4 a b c d e f r l h l' h' = 1) := by
  unfold datum_Carry_0 datum_Carry_1 datum_Carry_2 datum_Carry_3 datum_Carry_4
  rw [dvalid_dec, validBox_dec l h l' h']
  by_cases h1 : DV a b c d e f r
  · by_cases h2 : Bx l h l' h'
    · rw [cLo_eq h1.1 h1.2.1 h1.2.2.2.2.2.1 h1.2.2.2.2.2.2.2 h2, cHi_eq h1.1 h1.2.1 h1.2.2.2.2.2.1 h1.2.2.2.2.2.2.2 h2, cLo_eq h1.2.2.1 h1.2.2.2.1 h1.2.2.2.2.2.2.1 h1.2.2.2.2.2.2.2 h2, cHi_eq h1.2.2.1 h1.2.2.2.1 h1.2.2.2.2.2.2.1 h1.2.2.2.2.2.2.2 h2, validBox_dec]
      by_cases h3 : Bx (cLo a b c r l h l' h') (cHi a b c r l h l' h') (cLo d e f r l h l' h') (cHi d e f r l h l' h')
      · left; simp [h1, h2, h3]
      · right; left; simp [h1, h2, h3]
    · right; right; simp [h2]
  · right; right; simp [h1]

/-! ### Back -/
/-- The least and the greatest number whose product with D lies between a million times the ends. -/
def bLo (x y l h l' h' D : Int) : Int := max (-((-(1000000 * (Mn x l h + Mn y l' h'))) / D)) (-1000000)
def bHi (x y l h l' h' D : Int) : Int := min ((1000000 * (Mx x l h + Mx y l' h')) / D) 1000000
theorem bLo_eq {x y l h l' h' D : Int} (h1 : Fa x) (h2 : Fa y) (c1 : Co l) (c2 : Co h) (c3 : Co l') (c4 : Co h') (hD : 1 ≤ D) :
    imax (datum_up_0 (IntKind.i64.wrap (1000000 * datum_row_least_0 x y 0 l h l' h')) D) (-1000000) = bLo x y l h l' h' D := by
  rw [least_eq h1 h2 (by unfold Mo; omega) c1 c2 c3 c4, imax_max]
  have b1 := mn_bd h1 c1 c2
  have b2 := mn_bd h2 c3 c4
  simp (disch := omega) only [wrap_in]
  rw [up_eq hD (by omega)]
  simp only [Int.mul_zero, Int.add_zero]
  rfl
theorem bHi_eq {x y l h l' h' D : Int} (h1 : Fa x) (h2 : Fa y) (c1 : Co l) (c2 : Co h) (c3 : Co l') (c4 : Co h') (hD : 1 ≤ D) :
    imin (datum_down_0 (IntKind.i64.wrap (1000000 * datum_row_most_0 x y 0 l h l' h')) D) 1000000 = bHi x y l h l' h' D := by
  rw [most_eq h1 h2 (by unfold Mo; omega) c1 c2 c3 c4, imin_min]
  have b1 := mx_bd h1 c1 c2
  have b2 := mx_bd h2 c3 c4
  simp (disch := omega) only [wrap_in]
  rw [down_eq hD (by omega)]
  simp only [Int.mul_zero, Int.add_zero]
  rfl
/-- The ends that Back returns. -/
def k0 (a b c d e f r l h l' h' : Int) : Int := bLo e (-b) (l - c - r) (h - c + r) (l' - f - r) (h' - f + r) (a * e - b * d)
def k1 (a b c d e f r l h l' h' : Int) : Int := bHi e (-b) (l - c - r) (h - c + r) (l' - f - r) (h' - f + r) (a * e - b * d)
def k2 (a b c d e f r l h l' h' : Int) : Int := bLo (-d) a (l - c - r) (h - c + r) (l' - f - r) (h' - f + r) (a * e - b * d)
def k3 (a b c d e f r l h l' h' : Int) : Int := bHi (-d) a (l - c - r) (h - c + r) (l' - f - r) (h' - f + r) (a * e - b * d)
theorem k_bd (a b c d e f r l h l' h' : Int) : -1000000 ≤ k0 a b c d e f r l h l' h' ∧ k1 a b c d e f r l h l' h' ≤ 1000000 ∧ -1000000 ≤ k2 a b c d e f r l h l' h' ∧ k3 a b c d e f r l h l' h' ≤ 1000000 := by
  unfold k0 k1 k2 k3 bLo bHi; omega
theorem back_cases (a b c d e f r l h l' h' : Int) :
    (DV a b c d e f r ∧ Bx l h l' h' ∧ Bx (k0 a b c d e f r l h l' h') (k1 a b c d e f r l h l' h') (k2 a b c d e f r l h l' h') (k3 a b c d e f r l h l' h') ∧
      datum_Back_0 a b c d e f r l h l' h' = k0 a b c d e f r l h l' h' ∧ datum_Back_1 a b c d e f r l h l' h' = k1 a b c d e f r l h l' h' ∧ datum_Back_2 a b c d e f r l h l' h' = k2 a b c d e f r l h l' h' ∧ datum_Back_3 a b c d e f r l h l' h' = k3 a b c d e f r l h l' h' ∧ datum_Back_4 a b c d e f r l h l' h' = 0) ∨
    (DV a b c d e f r ∧ Bx l h l' h' ∧ ¬ Bx (k0 a b c d e f r l h l' h') (k1 a b c d e f r l h l' h') (k2 a b c d e f r l h l' h') (k3 a b c d e f r l h l' h') ∧
      datum_Back_0 a b c d e f r l h l' h' = 0 ∧ datum_Back_1 a b c d e f r l h l' h' = 0 ∧ datum_Back_2 a b c d e f r l h l' h' = 0 ∧ datum_Back_3 a b c d e f r l h l' h' = 0 ∧ datum_Back_4 a b c d e f r l h l' h' = 4) ∨
    (¬ (DV a b c d e f r ∧ Bx l h l' h') ∧
      datum_Back_0 a b c d e f r l h l' h' = 0 ∧ datum_Back_1 a b c d e f r l h l' h' = 0 ∧ datum_Back_2 a b c d e f r l h l' h' = 0 ∧ datum_Back_3 a b c d e f r l h l' h' = 0 ∧ datum_Back_4 a b c d e f r l h l' h' = 1) := by
  unfold datum_Back_0 datum_Back_1 datum_Back_2 datum_Back_3 datum_Back_4
  rw [dvalid_dec, validBox_dec l h l' h']
  by_cases h1 : DV a b c d e f r
  · by_cases h2 : Bx l h l' h'
    · obtain ⟨hd, hd1, hd2⟩ := dv_det h1
      have hv := h1
      have hb := h2
      unfold DV at hv
      unfold Bx at hb
      have e0 : IntKind.i64.wrap (0 - b) = -b := by rw [wrap_in (by omega)]; omega
      have e1 : IntKind.i64.wrap (0 - d) = -d := by rw [wrap_in (by omega)]; omega
      have e2 : IntKind.i64.wrap (IntKind.i64.wrap (l - c) - r) = l - c - r := by simp (disch := omega) only [wrap_in]
      have e3 : IntKind.i64.wrap (IntKind.i64.wrap (h - c) + r) = h - c + r := by simp (disch := omega) only [wrap_in]
      have e4 : IntKind.i64.wrap (IntKind.i64.wrap (l' - f) - r) = l' - f - r := by simp (disch := omega) only [wrap_in]
      have e5 : IntKind.i64.wrap (IntKind.i64.wrap (h' - f) + r) = h' - f + r := by simp (disch := omega) only [wrap_in]
      have c1 : Co (l - c - r) := by unfold Co; omega
      have c2 : Co (h - c + r) := by unfold Co; omega
      have c3 : Co (l' - f - r) := by unfold Co; omega
      have c4 : Co (h' - f + r) := by unfold Co; omega
      have hD : 1 ≤ a * e - b * d := by omega
      rw [e0, e1, e2, e3, e4, e5, hd, bLo_eq h1.2.2.2.1 (fa_neg h1.2.1) c1 c2 c3 c4 hD, bHi_eq h1.2.2.2.1 (fa_neg h1.2.1) c1 c2 c3 c4 hD, bLo_eq (fa_neg h1.2.2.1) h1.1 c1 c2 c3 c4 hD, bHi_eq (fa_neg h1.2.2.1) h1.1 c1 c2 c3 c4 hD]
      have kb := k_bd a b c d e f r l h l' h'
      have q0 : bLo e (-b) (l - c - r) (h - c + r) (l' - f - r) (h' - f + r) (a * e - b * d) = k0 a b c d e f r l h l' h' := rfl
      have q1 : bHi e (-b) (l - c - r) (h - c + r) (l' - f - r) (h' - f + r) (a * e - b * d) = k1 a b c d e f r l h l' h' := rfl
      have q2 : bLo (-d) a (l - c - r) (h - c + r) (l' - f - r) (h' - f + r) (a * e - b * d) = k2 a b c d e f r l h l' h' := rfl
      have q3 : bHi (-d) a (l - c - r) (h - c + r) (l' - f - r) (h' - f + r) (a * e - b * d) = k3 a b c d e f r l h l' h' := rfl
      rw [q0, q1, q2, q3]
      clear q0 q1 q2 q3 e0 e1 e2 e3 e4 e5
      generalize k0 a b c d e f r l h l' h' = x0 at *
      generalize k1 a b c d e f r l h l' h' = x1 at *
      generalize k2 a b c d e f r l h l' h' = x2 at *
      generalize k3 a b c d e f r l h l' h' = x3 at *
      have hall : Bx (-1000000) 1000000 (-1000000) 1000000 := by unfold Bx; omega
      by_cases h3 : Bx x0 x1 x2 x3
      · left
        rcases meetBox_cases x0 x1 x2 x3 (-1000000) 1000000 (-1000000) 1000000 with ⟨_, _, m1, m2, g0, g1, g2, g3, g4⟩ | ⟨_, _, m, _⟩ | ⟨m, _⟩
        · refine ⟨h1, h2, h3, ?_, ?_, ?_, ?_, ?_⟩ <;> simp [h1, h2, g0, g1, g2, g3, g4] <;> omega
        · exfalso; unfold Bx at h3; omega
        · exact absurd ⟨h3, hall⟩ m
      · right; left
        have g4 : span_MeetBox_4 x0 x1 x2 x3 (-1000000) 1000000 (-1000000) 1000000 = 1 := by
          rcases meetBox_cases x0 x1 x2 x3 (-1000000) 1000000 (-1000000) 1000000 with ⟨m, _⟩ | ⟨m, _⟩ | ⟨m, _, _, _, _, g⟩
          · exact absurd m h3
          · exact absurd m h3
          · exact g
        refine ⟨h1, h2, h3, ?_, ?_, ?_, ?_, ?_⟩ <;> simp [h1, h2, g4]
    · right; right; simp [h2]
  · right; right; simp [h1]

/-! ### Then, Undo -/
theorem ediv_le {n d B K : Int} (hK : 1 ≤ K) (hd : K ≤ d) (hB : 0 ≤ B) (hn : -(B * K) ≤ n ∧ n ≤ B * K) : -B ≤ n / d ∧ n / d ≤ B := by
  have m := Int.mul_le_mul_of_nonneg_left hd hB
  constructor
  · refine (Int.le_ediv_iff_mul_le (show 0 < d by omega)).2 ?_
    have e : -B * d = -(B * d) := by rw [Int.neg_mul]
    omega
  · have h : n < (B + 1) * d := by rw [Int.add_mul]; omega
    have := (Int.ediv_lt_iff_lt_mul (show 0 < d by omega)).2 h
    omega
def rdm (x : Int) : Int := (2 * x + 1000000) / 2000000
def Wt (x y : Int) : Int := max x (-x) + max y (-y)
def grow (a b d e r k : Int) : Int := -((-((max (Wt a b) (Wt d e) + k) * r)) / 1000000)
theorem rdm_eq {n : Int} (hn : -4500000000000000000 ≤ n ∧ n ≤ 4500000000000000000) : datum_round_0 n 1000000 = rdm n := round_eq (by omega) (by omega) hn
theorem rrdm_eq {n : Int} (hn : -4500000000000000000 ≤ n ∧ n ≤ 4500000000000000000) : ref04_Round_0 n 1000000 = rdm n := rround_eq (by omega) (by omega) hn
/-- Eight millions, or a bit more. -/
def Ga (a : Int) : Prop := -8100000 ≤ a ∧ a ≤ 8100000
theorem fa_ga {a : Int} (h : Fa a) : Ga a := by unfold Fa at h; unfold Ga; omega
theorem weight_eq {x y m : Int} (h1 : Ga x) (h2 : Ga y) : datum_row_weight_0 x y m = Wt x y := by
  unfold Ga at h1 h2
  have e1 : IntKind.i64.wrap (0 - x) = -x := by rw [wrap_in (by omega)]; omega
  have e2 : IntKind.i64.wrap (0 - y) = -y := by rw [wrap_in (by omega)]; omega
  unfold datum_row_weight_0 Wt
  rw [e1, e2, imax_max, imax_max, wrap_in (by omega)]
theorem wt_bd {x y : Int} (h1 : Ga x) (h2 : Ga y) : 0 ≤ Wt x y ∧ Wt x y ≤ 16200000 := by
  unfold Ga at h1 h2
  unfold Wt
  omega
theorem grow_pre {a b d e r k : Int} (h1 : Ga a) (h2 : Ga b) (h3 : Ga d) (h4 : Ga e) (hr : 0 ≤ r ∧ r ≤ 1000) (hk : 0 ≤ k ∧ k ≤ 1) : 0 ≤ (max (Wt a b) (Wt d e) + k) * r ∧ (max (Wt a b) (Wt d e) + k) * r ≤ 16300000000 := by
  have b1 := wt_bd h1 h2
  have b2 := wt_bd h3 h4
  have m := @mul_bd (max (Wt a b) (Wt d e) + k) r 16300000 1000 (by omega) (by omega) (by omega) (by omega)
  have p := Int.mul_nonneg (show 0 ≤ max (Wt a b) (Wt d e) + k by omega) hr.1
  omega
theorem grown_eq {a b c d e f r k : Int} (h1 : Ga a) (h2 : Ga b) (h3 : Ga d) (h4 : Ga e) (hr : 0 ≤ r ∧ r ≤ 1000) (hk : 0 ≤ k ∧ k ≤ 1) : datum_rows_grown_0 a b c d e f r k = grow a b d e r k := by
  unfold datum_rows_grown_0
  rw [weight_eq h1 h2, weight_eq h3 h4, imax_max]
  have b1 := wt_bd h1 h2
  have b2 := wt_bd h3 h4
  have p := grow_pre h1 h2 h3 h4 hr hk
  simp (disch := omega) only [wrap_in]
  rw [up_eq (by omega) (by omega)]
  rfl
theorem grow_bd {a b d e r k : Int} (h1 : Ga a) (h2 : Ga b) (h3 : Ga d) (h4 : Ga e) (hr : 0 ≤ r ∧ r ≤ 1000) (hk : 0 ≤ k ∧ k ≤ 1) : 0 ≤ grow a b d e r k ∧ grow a b d e r k ≤ 16300 := by
  have p := grow_pre h1 h2 h3 h4 hr hk
  unfold grow
  omega
theorem pre_rd {x y u v : Int} (h1 : Fa x) (h2 : Fa y) (h3 : Fa u) (h4 : Fa v) : IntKind.i64.wrap (IntKind.i64.wrap (x * u) + IntKind.i64.wrap (y * v)) = x * u + y * v ∧ (-8000000000000 ≤ x * u + y * v ∧ x * u + y * v ≤ 8000000000000) := by
  have b1 := fa_mul h1 h3
  have b2 := fa_mul h2 h4
  refine ⟨?_, by omega⟩
  simp (disch := omega) only [wrap_in]
theorem after_eq {x y z a b c d e f r : Int} (h1 : Fa x) (h2 : Fa y) (hz : Mo z) (hm : DV a b c d e f r) :
    datum_row_after_0 x y z a b c d e f r = rdm (x * a + y * d) ∧ datum_row_after_1 x y z a b c d e f r = rdm (x * b + y * e) ∧ datum_row_after_2 x y z a b c d e f r = rdm (x * c + y * f) + z := by
  have hc : Fa c := by have := hm.2.2.2.2.2.1; unfold Fa; omega
  have hf : Fa f := by have := hm.2.2.2.2.2.2.1; unfold Fa; omega
  obtain ⟨e1, b1⟩ := pre_rd h1 h2 hm.1 hm.2.2.1
  obtain ⟨e2, b2⟩ := pre_rd h1 h2 hm.2.1 hm.2.2.2.1
  obtain ⟨e3, b3⟩ := pre_rd h1 h2 hc hf
  unfold datum_row_after_0 datum_row_after_1 datum_row_after_2
  rw [e1, e2, e3, rdm_eq (by omega), rdm_eq (by omega), rdm_eq (by omega)]
  refine ⟨rfl, rfl, wrap_in ?_⟩
  unfold rdm
  unfold Mo at hz
  omega
theorem write_cases (a b c d e f r : Int) :
    (DV a b c d e f r ∧ datum_affine_write_0 a b c d e f r = a ∧ datum_affine_write_1 a b c d e f r = b ∧ datum_affine_write_2 a b c d e f r = c ∧ datum_affine_write_3 a b c d e f r = d ∧ datum_affine_write_4 a b c d e f r = e ∧ datum_affine_write_5 a b c d e f r = f ∧ datum_affine_write_6 a b c d e f r = r ∧ datum_affine_write_7 a b c d e f r = 0) ∨
    (¬ DV a b c d e f r ∧ datum_affine_write_0 a b c d e f r = 0 ∧ datum_affine_write_1 a b c d e f r = 0 ∧ datum_affine_write_2 a b c d e f r = 0 ∧ datum_affine_write_3 a b c d e f r = 0 ∧ datum_affine_write_4 a b c d e f r = 0 ∧ datum_affine_write_5 a b c d e f r = 0 ∧ datum_affine_write_6 a b c d e f r = 0 ∧ datum_affine_write_7 a b c d e f r = 3) := by
  unfold datum_affine_write_0 datum_affine_write_1 datum_affine_write_2 datum_affine_write_3 datum_affine_write_4 datum_affine_write_5 datum_affine_write_6 datum_affine_write_7
  rw [dvalid_dec]
  by_cases h : DV a b c d e f r <;> simp [h]
/-- What Then returns, if it returns a datum. -/
def TV (a b c d e f r a' b' c' d' e' f' s : Int) : Prop :=
  DV (rdm (a' * a + b' * d)) (rdm (a' * b + b' * e)) (rdm (a' * c + b' * f) + c') (rdm (d' * a + e' * d)) (rdm (d' * b + e' * e)) (rdm (d' * c + e' * f) + f') (grow a' b' d' e' r 0 + s + 2)
instance (a b c d e f r a' b' c' d' e' f' s : Int) : Decidable (TV a b c d e f r a' b' c' d' e' f' s) := by unfold TV; infer_instance
theorem then_cases (a b c d e f r a' b' c' d' e' f' s : Int) :
    (DV a b c d e f r ∧ DV a' b' c' d' e' f' s ∧ TV a b c d e f r a' b' c' d' e' f' s ∧
      datum_Then_0 a b c d e f r a' b' c' d' e' f' s = rdm (a' * a + b' * d) ∧ datum_Then_1 a b c d e f r a' b' c' d' e' f' s = rdm (a' * b + b' * e) ∧ datum_Then_2 a b c d e f r a' b' c' d' e' f' s = rdm (a' * c + b' * f) + c' ∧
      datum_Then_3 a b c d e f r a' b' c' d' e' f' s = rdm (d' * a + e' * d) ∧ datum_Then_4 a b c d e f r a' b' c' d' e' f' s = rdm (d' * b + e' * e) ∧ datum_Then_5 a b c d e f r a' b' c' d' e' f' s = rdm (d' * c + e' * f) + f' ∧
      datum_Then_6 a b c d e f r a' b' c' d' e' f' s = grow a' b' d' e' r 0 + s + 2 ∧ datum_Then_7 a b c d e f r a' b' c' d' e' f' s = 0) ∨
    (DV a b c d e f r ∧ DV a' b' c' d' e' f' s ∧ ¬ TV a b c d e f r a' b' c' d' e' f' s ∧
      datum_Then_0 a b c d e f r a' b' c' d' e' f' s = 0 ∧ datum_Then_1 a b c d e f r a' b' c' d' e' f' s = 0 ∧ datum_Then_2 a b c d e f r a' b' c' d' e' f' s = 0 ∧
      datum_Then_3 a b c d e f r a' b' c' d' e' f' s = 0 ∧ datum_Then_4 a b c d e f r a' b' c' d' e' f' s = 0 ∧ datum_Then_5 a b c d e f r a' b' c' d' e' f' s = 0 ∧
      datum_Then_6 a b c d e f r a' b' c' d' e' f' s = 0 ∧ datum_Then_7 a b c d e f r a' b' c' d' e' f' s = 3) ∨
    (¬ (DV a b c d e f r ∧ DV a' b' c' d' e' f' s) ∧
      datum_Then_0 a b c d e f r a' b' c' d' e' f' s = 0 ∧ datum_Then_1 a b c d e f r a' b' c' d' e' f' s = 0 ∧ datum_Then_2 a b c d e f r a' b' c' d' e' f' s = 0 ∧
      datum_Then_3 a b c d e f r a' b' c' d' e' f' s = 0 ∧ datum_Then_4 a b c d e f r a' b' c' d' e' f' s = 0 ∧ datum_Then_5 a b c d e f r a' b' c' d' e' f' s = 0 ∧
      datum_Then_6 a b c d e f r a' b' c' d' e' f' s = 0 ∧ datum_Then_7 a b c d e f r a' b' c' d' e' f' s = 1) := by
  unfold datum_Then_0 datum_Then_1 datum_Then_2 datum_Then_3 datum_Then_4 datum_Then_5 datum_Then_6 datum_Then_7
  rw [dvalid_dec, dvalid_dec]
  by_cases h1 : DV a b c d e f r
  · by_cases h2 : DV a' b' c' d' e' f' s
    · obtain ⟨p0, p1, p2⟩ := after_eq h2.1 h2.2.1 h2.2.2.2.2.2.1 h1
      obtain ⟨p3, p4, p5⟩ := after_eq h2.2.2.1 h2.2.2.2.1 h2.2.2.2.2.2.2.1 h1
      have g0 := grown_eq (c := c') (f := f') (k := 0) (fa_ga h2.1) (fa_ga h2.2.1) (fa_ga h2.2.2.1) (fa_ga h2.2.2.2.1) h1.2.2.2.2.2.2.2 (by omega)
      have g1 := grow_bd (k := 0) (fa_ga h2.1) (fa_ga h2.2.1) (fa_ga h2.2.2.1) (fa_ga h2.2.2.2.1) h1.2.2.2.2.2.2.2 (by omega)
      have hs := h2.2.2.2.2.2.2.2
      have w : IntKind.i64.wrap (IntKind.i64.wrap (grow a' b' d' e' r 0 + s) + 2) = grow a' b' d' e' r 0 + s + 2 := by simp (disch := omega) only [wrap_in]
      rw [p0, p1, p2, p3, p4, p5, g0, w]
      simp only [h1, h2, decide_true, Bool.not_true, Bool.or_self, cond_false, true_and, and_true]
      rcases write_cases (rdm (a' * a + b' * d)) (rdm (a' * b + b' * e)) (rdm (a' * c + b' * f) + c') (rdm (d' * a + e' * d)) (rdm (d' * b + e' * e)) (rdm (d' * c + e' * f) + f') (grow a' b' d' e' r 0 + s + 2) with h | h
      · exact .inl h
      · exact .inr (.inl h)
    · right; right; simp [h2]
  · right; right; simp [h1]
def ud (n D : Int) : Int := (2 * (1000000000000 * n) + D) / (2 * D)
theorem ud_bd {n D : Int} (h : Fa n) (hD : 250000000000 ≤ D ∧ D ≤ 8000000000000) : Ga (ud n D) := by
  unfold Fa at h
  unfold ud Ga
  exact ediv_le (K := 500000000000) (B := 8100000) (by omega) (by omega) (by omega) (by omega)
theorem part_eq {n D : Int} (h : Fa n) (hD : 250000000000 ≤ D ∧ D ≤ 8000000000000) : datum_round_0 (IntKind.i64.wrap (1000000000000 * n)) D = ud n D := by
  unfold Fa at h
  rw [wrap_in (by omega), round_eq (by omega) (by omega) (by omega)]
  rfl
def um (x y c f : Int) : Int := rdm (-(x * c + y * f))
theorem gm_mul {a x : Int} (h1 : Ga a) (h2 : Mo x) : -810000000000 ≤ a * x ∧ a * x ≤ 810000000000 := by
  have := @mul_bd a x 8100000 100000 h1.1 h1.2 h2.1 h2.2
  omega
theorem um_eq {x y c f : Int} (h1 : Ga x) (h2 : Ga y) (h3 : Mo c) (h4 : Mo f) : datum_round_0 (IntKind.i64.wrap (0 - IntKind.i64.wrap (IntKind.i64.wrap (x * c) + IntKind.i64.wrap (y * f)))) 1000000 = um x y c f := by
  have b1 := gm_mul h1 h3
  have b2 := gm_mul h2 h4
  have e : IntKind.i64.wrap (0 - IntKind.i64.wrap (IntKind.i64.wrap (x * c) + IntKind.i64.wrap (y * f))) = -(x * c + y * f) := by
    simp (disch := omega) only [wrap_in]; omega
  rw [e, rdm_eq (by omega)]
  rfl
def UV (a b c d e f r : Int) : Prop :=
  DV (ud e (a * e - b * d)) (ud (-b) (a * e - b * d)) (um (ud e (a * e - b * d)) (ud (-b) (a * e - b * d)) c f) (ud (-d) (a * e - b * d)) (ud a (a * e - b * d)) (um (ud (-d) (a * e - b * d)) (ud a (a * e - b * d)) c f)
    (grow (ud e (a * e - b * d)) (ud (-b) (a * e - b * d)) (ud (-d) (a * e - b * d)) (ud a (a * e - b * d)) r 1 + 2)
instance (a b c d e f r : Int) : Decidable (UV a b c d e f r) := by unfold UV; infer_instance
theorem undo_cases (a b c d e f r : Int) :
    (DV a b c d e f r ∧ UV a b c d e f r ∧ datum_Undo_0 a b c d e f r = ud e (a * e - b * d) ∧ datum_Undo_1 a b c d e f r = ud (-b) (a * e - b * d) ∧ datum_Undo_2 a b c d e f r = um (ud e (a * e - b * d)) (ud (-b) (a * e - b * d)) c f ∧
      datum_Undo_3 a b c d e f r = ud (-d) (a * e - b * d) ∧ datum_Undo_4 a b c d e f r = ud a (a * e - b * d) ∧ datum_Undo_5 a b c d e f r = um (ud (-d) (a * e - b * d)) (ud a (a * e - b * d)) c f ∧
      datum_Undo_6 a b c d e f r = grow (ud e (a * e - b * d)) (ud (-b) (a * e - b * d)) (ud (-d) (a * e - b * d)) (ud a (a * e - b * d)) r 1 + 2 ∧ datum_Undo_7 a b c d e f r = 0) ∨
    (DV a b c d e f r ∧ ¬ UV a b c d e f r ∧ datum_Undo_0 a b c d e f r = 0 ∧ datum_Undo_1 a b c d e f r = 0 ∧ datum_Undo_2 a b c d e f r = 0 ∧ datum_Undo_3 a b c d e f r = 0 ∧ datum_Undo_4 a b c d e f r = 0 ∧ datum_Undo_5 a b c d e f r = 0 ∧
      datum_Undo_6 a b c d e f r = 0 ∧ datum_Undo_7 a b c d e f r = 3) ∨
    (¬ DV a b c d e f r ∧ datum_Undo_0 a b c d e f r = 0 ∧ datum_Undo_1 a b c d e f r = 0 ∧ datum_Undo_2 a b c d e f r = 0 ∧ datum_Undo_3 a b c d e f r = 0 ∧ datum_Undo_4 a b c d e f r = 0 ∧ datum_Undo_5 a b c d e f r = 0 ∧
      datum_Undo_6 a b c d e f r = 0 ∧ datum_Undo_7 a b c d e f r = 1) := by
  unfold datum_Undo_0 datum_Undo_1 datum_Undo_2 datum_Undo_3 datum_Undo_4 datum_Undo_5 datum_Undo_6 datum_Undo_7
  rw [dvalid_dec]
  by_cases h1 : DV a b c d e f r
  · obtain ⟨hd, hd1, hd2⟩ := dv_det h1
    have e0 : IntKind.i64.wrap (0 - b) = -b := by have := h1.2.1; rw [wrap_in (by omega)]; omega
    have e1 : IntKind.i64.wrap (0 - d) = -d := by have := h1.2.2.1; rw [wrap_in (by omega)]; omega
    have g1 := ud_bd h1.2.2.2.1 ⟨hd1, hd2⟩
    have g2 := ud_bd (fa_neg h1.2.1) ⟨hd1, hd2⟩
    have g3 := ud_bd (fa_neg h1.2.2.1) ⟨hd1, hd2⟩
    have g4 := ud_bd h1.1 ⟨hd1, hd2⟩
    rw [e0, e1, hd, part_eq h1.2.2.2.1 ⟨hd1, hd2⟩, part_eq (fa_neg h1.2.1) ⟨hd1, hd2⟩, part_eq (fa_neg h1.2.2.1) ⟨hd1, hd2⟩, part_eq h1.1 ⟨hd1, hd2⟩,
      um_eq g1 g2 h1.2.2.2.2.2.1 h1.2.2.2.2.2.2.1, um_eq g3 g4 h1.2.2.2.2.2.1 h1.2.2.2.2.2.2.1, grown_eq g1 g2 g3 g4 h1.2.2.2.2.2.2.2 (by omega)]
    have gb := grow_bd (k := 1) g1 g2 g3 g4 h1.2.2.2.2.2.2.2 (by omega)
    rw [wrap_in (by omega)]
    simp only [h1, decide_true, Bool.not_true, cond_false, true_and]
    rcases write_cases (ud e (a * e - b * d)) (ud (-b) (a * e - b * d)) (um (ud e (a * e - b * d)) (ud (-b) (a * e - b * d)) c f) (ud (-d) (a * e - b * d)) (ud a (a * e - b * d)) (um (ud (-d) (a * e - b * d)) (ud a (a * e - b * d)) c f)
      (grow (ud e (a * e - b * d)) (ud (-b) (a * e - b * d)) (ud (-d) (a * e - b * d)) (ud a (a * e - b * d)) r 1 + 2) with h | h
    · exact .inl h
    · exact .inr (.inl h)
  · right; right; simp [h1]
end Go.Proofs.Ytbopeaebdlmapaa
