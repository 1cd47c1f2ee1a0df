/-
  The laws of package datum, on what its functions compute.
-/
import Derived.Test.YtbopeaebdlmapaaDatumL
namespace Go.Proofs.Ytbopeaebdlmapaa
open Go Go.Sx

theorem head04 : law04_head_0 = true := by decide

/-! ### products -/
theorem mnx_mid {x l h t : Int} (h1 : l ≤ t) (h2 : t ≤ h) : Mn x l h ≤ x * t ∧ x * t ≤ Mx x l h := by
  unfold Mn Mx
  by_cases hx : 0 ≤ x
  · have k1 := Int.mul_le_mul_of_nonneg_left h1 hx
    have k2 := Int.mul_le_mul_of_nonneg_left h2 hx
    omega
  · have k1 := Int.mul_le_mul_of_nonpos_left (show x ≤ 0 by omega) h1
    have k2 := Int.mul_le_mul_of_nonpos_left (show x ≤ 0 by omega) h2
    omega
theorem mn_mono {x l h l' h' : Int} (h1 : l' ≤ l) (h2 : h ≤ h') (h3 : l ≤ h) : Mn x l' h' ≤ Mn x l h ∧ Mx x l h ≤ Mx x l' h' := by
  have a := mnx_mid (x := x) (l := l') (h := h') (t := l) h1 (by omega)
  have b := mnx_mid (x := x) (l := l') (h := h') (t := h) (by omega) h2
  have e1 : Mn x l h = min (x * l) (x * h) := rfl
  have e2 : Mx x l h = max (x * l) (x * h) := rfl
  omega
theorem mnx_scaled {x l h t : Int} (h1 : 1000000 * l ≤ t) (h2 : t ≤ 1000000 * h) : 1000000 * Mn x l h ≤ x * t ∧ x * t ≤ 1000000 * Mx x l h := by
  have := mnx_mid (x := x) h1 h2
  have e1 : x * (1000000 * l) = 1000000 * (x * l) := Int.mul_left_comm _ _ _
  have e2 : x * (1000000 * h) = 1000000 * (x * h) := Int.mul_left_comm _ _ _
  unfold Mn Mx at *
  omega
theorem up_le {S D p : Int} (hD : 1 ≤ D) (h : S ≤ p * D) : -((-S) / D) ≤ p := by
  have : -p ≤ (-S) / D := (Int.le_ediv_iff_mul_le (show 0 < D by omega)).2 (by rw [Int.neg_mul]; omega)
  omega
theorem le_down {S D p : Int} (hD : 1 ≤ D) (h : p * D ≤ S) : p ≤ S / D := (Int.le_ediv_iff_mul_le (show 0 < D by omega)).2 h
theorem down_mono {S T D : Int} (hD : 1 ≤ D) (h : S ≤ T) : S / D ≤ T / D := Int.ediv_le_ediv (by omega) h
theorem up_mono {S T D : Int} (hD : 1 ≤ D) (h : S ≤ T) : -((-S) / D) ≤ -((-T) / D) := by
  have := Int.ediv_le_ediv (show 0 < D by omega) (show -T ≤ -S by omega)
  omega

/-! ### what contains what -/
theorem carry_has {a b c r l h l' h' p q x : Int} (k1 : l ≤ p ∧ p ≤ h) (k2 : l' ≤ q ∧ q ≤ h') (hf : -(1000000 * r) ≤ Dx a b c p q x ∧ Dx a b c p q x ≤ 1000000 * r) :
    cLo a b c r l h l' h' ≤ x ∧ x ≤ cHi a b c r l h l' h' := by
  have m1 := mnx_mid (x := a) k1.1 k1.2
  have m2 := mnx_mid (x := b) k2.1 k2.2
  unfold Dx at hf
  unfold cLo cHi
  omega
theorem carry_mono {a b c r l h l' h' m n m' n' : Int} (k1 : m ≤ l ∧ h ≤ n ∧ l ≤ h) (k2 : m' ≤ l' ∧ h' ≤ n' ∧ l' ≤ h') :
    cLo a b c r m n m' n' ≤ cLo a b c r l h l' h' ∧ cHi a b c r l h l' h' ≤ cHi a b c r m n m' n' := by
  have m1 := mn_mono (x := a) k1.1 k1.2.1 k1.2.2
  have m2 := mn_mono (x := b) k2.1 k2.2.1 k2.2.2
  unfold cLo cHi
  omega
theorem det_p (a b d e p q : Int) : p * (a * e - b * d) = e * (a * p + b * q) + (-b) * (d * p + e * q) := by grind
theorem det_q (a b d e p q : Int) : q * (a * e - b * d) = (-d) * (a * p + b * q) + a * (d * p + e * q) := by grind
/-- What lies between the ends in millionths has its place in what Back returns. -/
theorem back_has {a b c d e f r l h l' h' p q : Int} (hv : DV a b c d e f r) (hp : Pt p q) (h1 : 1000000 * (l - c - r) ≤ a * p + b * q ∧ a * p + b * q ≤ 1000000 * (h - c + r))
    (h2 : 1000000 * (l' - f - r) ≤ d * p + e * q ∧ d * p + e * q ≤ 1000000 * (h' - f + r)) :
    (k0 a b c d e f r l h l' h' ≤ p ∧ p ≤ k1 a b c d e f r l h l' h') ∧ (k2 a b c d e f r l h l' h' ≤ q ∧ q ≤ k3 a b c d e f r l h l' h') := by
  have hD : 1 ≤ a * e - b * d := by have := hv.2.2.2.2.1; omega
  have i1 := det_p a b d e p q
  have i2 := det_q a b d e p q
  have a1 := mnx_scaled (x := e) h1.1 h1.2
  have a2 := mnx_scaled (x := -b) h2.1 h2.2
  have a3 := mnx_scaled (x := -d) h1.1 h1.2
  have a4 := mnx_scaled (x := a) h2.1 h2.2
  have b1 := up_le (p := p) (S := 1000000 * (Mn e (l - c - r) (h - c + r) + Mn (-b) (l' - f - r) (h' - f + r))) hD (by omega)
  have b2 := le_down (p := p) (S := 1000000 * (Mx e (l - c - r) (h - c + r) + Mx (-b) (l' - f - r) (h' - f + r))) hD (by omega)
  have b3 := up_le (p := q) (S := 1000000 * (Mn (-d) (l - c - r) (h - c + r) + Mn a (l' - f - r) (h' - f + r))) hD (by omega)
  have b4 := le_down (p := q) (S := 1000000 * (Mx (-d) (l - c - r) (h - c + r) + Mx a (l' - f - r) (h' - f + r))) hD (by omega)
  unfold Pt at hp
  unfold k0 k1 k2 k3 bLo bHi
  omega
theorem back_mono {a b c d e f r l h l' h' m n m' n' : Int} (hv : DV a b c d e f r) (k1' : m ≤ l ∧ h ≤ n ∧ l ≤ h) (k2' : m' ≤ l' ∧ h' ≤ n' ∧ l' ≤ h') :
    k0 a b c d e f r m n m' n' ≤ k0 a b c d e f r l h l' h' ∧ k1 a b c d e f r l h l' h' ≤ k1 a b c d e f r m n m' n' ∧ k2 a b c d e f r m n m' n' ≤ k2 a b c d e f r l h l' h' ∧ k3 a b c d e f r l h l' h' ≤ k3 a b c d e f r m n m' n' := by
  have hD : 1 ≤ a * e - b * d := by have := hv.2.2.2.2.1; omega
  have hr := hv.2.2.2.2.2.2.2
  have q1 : m - c - r ≤ l - c - r ∧ h - c + r ≤ n - c + r ∧ l - c - r ≤ h - c + r := by omega
  have q2 : m' - f - r ≤ l' - f - r ∧ h' - f + r ≤ n' - f + r ∧ l' - f - r ≤ h' - f + r := by omega
  have a1 := mn_mono (x := e) q1.1 q1.2.1 q1.2.2
  have a2 := mn_mono (x := -b) q2.1 q2.2.1 q2.2.2
  have a3 := mn_mono (x := -d) q1.1 q1.2.1 q1.2.2
  have a4 := mn_mono (x := a) q2.1 q2.2.1 q2.2.2
  have b1 := up_mono hD (show 1000000 * (Mn e (m - c - r) (n - c + r) + Mn (-b) (m' - f - r) (n' - f + r)) ≤ 1000000 * (Mn e (l - c - r) (h - c + r) + Mn (-b) (l' - f - r) (h' - f + r)) by omega)
  have b2 := down_mono hD (show 1000000 * (Mx e (l - c - r) (h - c + r) + Mx (-b) (l' - f - r) (h' - f + r)) ≤ 1000000 * (Mx e (m - c - r) (n - c + r) + Mx (-b) (m' - f - r) (n' - f + r)) by omega)
  have b3 := up_mono hD (show 1000000 * (Mn (-d) (m - c - r) (n - c + r) + Mn a (m' - f - r) (n' - f + r)) ≤ 1000000 * (Mn (-d) (l - c - r) (h - c + r) + Mn a (l' - f - r) (h' - f + r)) by omega)
  have b4 := down_mono hD (show 1000000 * (Mx (-d) (l - c - r) (h - c + r) + Mx a (l' - f - r) (h' - f + r)) ≤ 1000000 * (Mx (-d) (m - c - r) (n - c + r) + Mx a (m' - f - r) (n' - f + r)) by omega)
  unfold k0 k1 k2 k3 bLo bHi
  omega

/-! ### cases that are known -/
theorem carry_ok {a b c d e f r l h l' h' : Int} (h1 : DV a b c d e f r) (h2 : Bx l h l' h') :
    (Bx (cLo a b c r l h l' h') (cHi a b c r l h l' h') (cLo d e f r l h l' h') (cHi d e f r l h l' h') ∧
      datum_Carry_0 a b c d e f r l h l' h' = cLo a b c r l h l' h' ∧ datum_Carry_1 a b c d e f r l h l' h' = cHi a b c r l h l' h' ∧ datum_Carry_2 a b c d e f r l h l' h' = cLo d e f r l h l' h' ∧ datum_Carry_3 a b c d e f r l h l' h' = cHi d e f r l h l' h' ∧ datum_Carry_4 a b c d e f r l h l' h' = 0) ∨
    datum_Carry_4 a b c d e f r l h l' h' = 3 := by
  rcases carry_cases a b c d e f r l h l' h' with ⟨_, _, h⟩ | ⟨_, _, _, _, _, _, _, h⟩ | ⟨h, _⟩
  · exact .inl h
  · exact .inr h
  · exact absurd ⟨h1, h2⟩ h
theorem pt_bx' {p q : Int} (h : Pt p q) : Bx p p q q := (pt_bx p q).1 h
theorem in_dec (l h l' h' p q : Int) : law04_in_0 l h l' h' p q = decide (l ≤ p ∧ p ≤ h ∧ l' ≤ q ∧ q ≤ h') := by
  unfold law04_in_0
  rw [Bool.eq_iff_iff]
  simp only [Bool.and_eq_true, decide_eq_true_eq]
  omega
theorem within_dec (l h l' h' m n m' n' : Int) : law04_within_0 l h l' h' m n m' n' = decide (m ≤ l ∧ h ≤ n ∧ m' ≤ l' ∧ h' ≤ n') := by
  unfold law04_within_0
  rw [Bool.eq_iff_iff]
  simp only [Bool.and_eq_true, decide_eq_true_eq]
  omega

theorem datumLosesNothing_true (a b c d e f r p q x y l h l' h' m n m' n' : Int) : law04_DatumLosesNothing_0 a b c d e f r p q x y l h l' h' m n m' n' = true := by
  unfold law04_DatumLosesNothing_0
  rw [head04]
  unfold datum_Apply_0 datum_Apply_1 datum_Apply_2 datum_Apply_3 datum_Apply_4
  rcases fits_cases a b c d e f r p q x y with ⟨hv, hp, hq, e0, e1⟩ | ⟨_, e0, e1⟩
  · rw [e0, e1]
    by_cases hf : FitsAt a b c d e f r p q x y
    · simp only [hf, decide_true]
      have A : (datum_Carry_4 a b c d e f r p p q q == 0 && law04_in_0 (datum_Carry_0 a b c d e f r p p q q) (datum_Carry_1 a b c d e f r p p q q) (datum_Carry_2 a b c d e f r p p q q) (datum_Carry_3 a b c d e f r p p q q) x y || datum_Carry_4 a b c d e f r p p q q == 3) = true := by
        rcases carry_ok hv (pt_bx' hp) with ⟨_, g0, g1, g2, g3, g4⟩ | g
        · have c1 := carry_has (l := p) (h := p) (l' := q) (h' := q) ⟨Int.le_refl _, Int.le_refl _⟩ ⟨Int.le_refl _, Int.le_refl _⟩ hf.1
          have c2 := carry_has (l := p) (h := p) (l' := q) (h' := q) ⟨Int.le_refl _, Int.le_refl _⟩ ⟨Int.le_refl _, Int.le_refl _⟩ hf.2
          rw [g0, g1, g2, g3, g4, in_dec]
          simp
          omega
        · rw [g]; simp
      have B : (law04_in_0 l h l' h' p q && datum_Carry_4 a b c d e f r l h l' h' != 1) = true → (datum_Carry_4 a b c d e f r l h l' h' == 0 && law04_in_0 (datum_Carry_0 a b c d e f r l h l' h') (datum_Carry_1 a b c d e f r l h l' h') (datum_Carry_2 a b c d e f r l h l' h') (datum_Carry_3 a b c d e f r l h l' h') x y || datum_Carry_4 a b c d e f r l h l' h' == 3) = true := by
        intro hc
        rw [in_dec, Bool.and_eq_true, decide_eq_true_eq] at hc
        obtain ⟨hin, hne⟩ := hc
        rcases carry_cases a b c d e f r l h l' h' with ⟨_, _, _, g0, g1, g2, g3, g4⟩ | ⟨_, _, _, _, _, _, _, g⟩ | ⟨_, _, _, _, _, g⟩
        · have c1 := carry_has (l := l) (h := h) (l' := l') (h' := h') ⟨hin.1, hin.2.1⟩ ⟨hin.2.2.1, hin.2.2.2⟩ hf.1
          have c2 := carry_has (l := l) (h := h) (l' := l') (h' := h') ⟨hin.1, hin.2.1⟩ ⟨hin.2.2.1, hin.2.2.2⟩ hf.2
          rw [g0, g1, g2, g3, g4, in_dec]
          simp
          omega
        · rw [g]; simp
        · rw [g] at hne; simp at hne
      have C : (law04_in_0 m n m' n' x y && datum_Back_4 a b c d e f r m n m' n' != 1) = true → datum_Back_4 a b c d e f r m n m' n' = 0 ∧ law04_in_0 (datum_Back_0 a b c d e f r m n m' n') (datum_Back_1 a b c d e f r m n m' n') (datum_Back_2 a b c d e f r m n m' n') (datum_Back_3 a b c d e f r m n m' n') p q = true := by
        intro hc
        rw [in_dec, Bool.and_eq_true, decide_eq_true_eq] at hc
        obtain ⟨hin, hne⟩ := hc
        have hh := back_has (l := m) (h := n) (l' := m') (h' := n') hv hp (by have := hf.1; unfold Dx at this; omega) (by have := hf.2; unfold Dx at this; omega)
        have kb := k_bd a b c d e f r m n m' n'
        rcases back_cases a b c d e f r m n m' n' with ⟨_, _, _, g0, g1, g2, g3, g4⟩ | ⟨_, _, hn, _⟩ | ⟨_, _, _, _, _, g⟩
        · rw [g0, g1, g2, g3, g4, in_dec]
          simp
          omega
        · exact absurd (by unfold Bx; omega) hn
        · rw [g] at hne; simp at hne
      cases hB : (law04_in_0 l h l' h' p q && datum_Carry_4 a b c d e f r l h l' h' != 1) with
      | true =>
        cases hC : (law04_in_0 m n m' n' x y && datum_Back_4 a b c d e f r m n m' n' != 1) with
        | true => rw [A, B hB, (C hC).1, (C hC).2]; simp
        | false => rw [A, B hB]; simp
      | false =>
        cases hC : (law04_in_0 m n m' n' x y && datum_Back_4 a b c d e f r m n m' n' != 1) with
        | true => rw [A, (C hC).1, (C hC).2]; simp
        | false => rw [A]; simp
    · simp [hf]
  · rw [e0, e1]; simp

theorem datumBoxes_true (a b c d e f r p q l h l' h' m n m' n' : Int) : law04_DatumBoxes_0 a b c d e f r p q l h l' h' m n m' n' = true := by
  unfold law04_DatumBoxes_0
  rw [head04]
  unfold datum_Apply_0 datum_Apply_1 datum_Apply_2 datum_Apply_3 datum_Apply_4 law04_box_0 law04_box_1 law04_box_2 law04_box_3
  rw [within_dec]
  by_cases hw : m ≤ l ∧ h ≤ n ∧ m' ≤ l' ∧ h' ≤ n'
  · have A : (datum_Carry_4 a b c d e f r l h l' h' != 0 || datum_Carry_4 a b c d e f r m n m' n' != 0 || law04_within_0 (datum_Carry_0 a b c d e f r l h l' h') (datum_Carry_1 a b c d e f r l h l' h') (datum_Carry_2 a b c d e f r l h l' h') (datum_Carry_3 a b c d e f r l h l' h') (datum_Carry_0 a b c d e f r m n m' n') (datum_Carry_1 a b c d e f r m n m' n') (datum_Carry_2 a b c d e f r m n m' n') (datum_Carry_3 a b c d e f r m n m' n')) = true := by
      rcases carry_cases a b c d e f r l h l' h' with ⟨hv, hb, _, g0, g1, g2, g3, g4⟩ | ⟨_, _, _, _, _, _, _, g⟩ | ⟨_, _, _, _, _, g⟩
      · rcases carry_cases a b c d e f r m n m' n' with ⟨_, _, _, i0, i1, i2, i3, i4⟩ | ⟨_, _, _, _, _, _, _, g⟩ | ⟨_, _, _, _, _, g⟩
        · unfold Bx at hb
          have c1 := carry_mono (a := a) (b := b) (c := c) (r := r) (l := l) (h := h) (l' := l') (h' := h') (m := m) (n := n) (m' := m') (n' := n') (by omega) (by omega)
          have c2 := carry_mono (a := d) (b := e) (c := f) (r := r) (l := l) (h := h) (l' := l') (h' := h') (m := m) (n := n) (m' := m') (n' := n') (by omega) (by omega)
          rw [g0, g1, g2, g3, g4, i0, i1, i2, i3, i4, within_dec]
          simp
          omega
        · rw [g]; simp
        · rw [g]; simp
      · rw [g]; simp
      · rw [g]; simp
    have B : (datum_Back_4 a b c d e f r l h l' h' != 0 || datum_Back_4 a b c d e f r m n m' n' != 0 || law04_within_0 (datum_Back_0 a b c d e f r l h l' h') (datum_Back_1 a b c d e f r l h l' h') (datum_Back_2 a b c d e f r l h l' h') (datum_Back_3 a b c d e f r l h l' h') (datum_Back_0 a b c d e f r m n m' n') (datum_Back_1 a b c d e f r m n m' n') (datum_Back_2 a b c d e f r m n m' n') (datum_Back_3 a b c d e f r m n m' n')) = true := by
      rcases back_cases a b c d e f r l h l' h' with ⟨hv, hb, _, g0, g1, g2, g3, g4⟩ | ⟨_, _, _, _, _, _, _, g⟩ | ⟨_, _, _, _, _, g⟩
      · rcases back_cases a b c d e f r m n m' n' with ⟨_, _, _, i0, i1, i2, i3, i4⟩ | ⟨_, _, _, _, _, _, _, g⟩ | ⟨_, _, _, _, _, g⟩
        · unfold Bx at hb
          have c1 := back_mono (l := l) (h := h) (l' := l') (h' := h') (m := m) (n := n) (m' := m') (n' := n') hv (by omega) (by omega)
          rw [g0, g1, g2, g3, g4, i0, i1, i2, i3, i4, within_dec]
          simp
          omega
        · rw [g]; simp
        · rw [g]; simp
      · rw [g]; simp
      · rw [g]; simp
    rw [A, B]; simp
  · simp [hw]

/-! ### Then -/
theorem rdm_err (x : Int) : -500000 ≤ 1000000 * rdm x - x ∧ 1000000 * rdm x - x ≤ 500000 := by unfold rdm; omega
theorem grow_ge {a b d e r k : Int} : (max (Wt a b) (Wt d e) + k) * r ≤ 1000000 * grow a b d e r k := by unfold grow; omega
theorem abs_max (x : Int) : -(max x (-x)) ≤ x ∧ x ≤ max x (-x) := by omega
/-- Two products of factors with two deviations. -/
theorem wt_mul {a b u v r : Int} (hu : -(1000000 * r) ≤ u ∧ u ≤ 1000000 * r) (hv : -(1000000 * r) ≤ v ∧ v ≤ 1000000 * r) :
    -(1000000 * (Wt a b * r)) ≤ a * u + b * v ∧ a * u + b * v ≤ 1000000 * (Wt a b * r) := by
  have m1 := mul_bd (abs_max a).1 (abs_max a).2 hu.1 hu.2
  have m2 := mul_bd (abs_max b).1 (abs_max b).2 hv.1 hv.2
  have e : 1000000 * (Wt a b * r) = max a (-a) * (1000000 * r) + max b (-b) * (1000000 * r) := by unfold Wt; grind
  omega
theorem then_id (a b c d e f p q x y X A B C u v w : Int) : 1000000 * (1000000 * X - (A * p + B * q + 1000000 * (C + w))) =
    1000000 * (1000000 * X - (u * x + v * y + 1000000 * w)) + (u * (1000000 * x - (a * p + b * q + 1000000 * c)) + v * (1000000 * y - (d * p + e * q + 1000000 * f)))
     - (1000000 * A - (u * a + v * d)) * p - (1000000 * B - (u * b + v * e)) * q - 1000000 * (1000000 * C - (u * c + v * f)) := by grind
/-- One row of two maps, one behind the other. W: the greater weight. -/
theorem then_row {a b c d e f r p q x y X u v w s G W : Int} (hr : 0 ≤ r) (hp : Pt p q) (hW : Wt u v ≤ W) (hG : W * r ≤ 1000000 * G)
    (h1 : -(1000000 * r) ≤ Dx a b c p q x ∧ Dx a b c p q x ≤ 1000000 * r) (h2 : -(1000000 * r) ≤ Dx d e f p q y ∧ Dx d e f p q y ≤ 1000000 * r)
    (h3 : -(1000000 * s) ≤ Dx u v w x y X ∧ Dx u v w x y X ≤ 1000000 * s) :
    -(1000000 * (G + s + 2)) ≤ Dx (rdm (u * a + v * d)) (rdm (u * b + v * e)) (rdm (u * c + v * f) + w) p q X ∧ Dx (rdm (u * a + v * d)) (rdm (u * b + v * e)) (rdm (u * c + v * f) + w) p q X ≤ 1000000 * (G + s + 2) := by
  have id := then_id a b c d e f p q x y X (rdm (u * a + v * d)) (rdm (u * b + v * e)) (rdm (u * c + v * f)) u v w
  have b1 := wt_mul (a := u) (b := v) h1 h2
  have e1 := rdm_err (u * a + v * d)
  have e2 := rdm_err (u * b + v * e)
  have e3 := rdm_err (u * c + v * f)
  have hp' := hp
  unfold Pt at hp'
  have m1 := @mul_bd (1000000 * rdm (u * a + v * d) - (u * a + v * d)) p 500000 1000000 (by omega) (by omega) (by omega) (by omega)
  have m2 := @mul_bd (1000000 * rdm (u * b + v * e) - (u * b + v * e)) q 500000 1000000 (by omega) (by omega) (by omega) (by omega)
  have m3 := Int.mul_le_mul_of_nonneg_right hW hr
  unfold Dx at *
  omega
theorem datumThen_true (a b c d e f r a' b' c' d' e' f' s p q x y X Y : Int) : law04_DatumThen_0 a b c d e f r a' b' c' d' e' f' s p q x y X Y = true := by
  unfold law04_DatumThen_0
  rw [head04]
  rcases fits_cases a b c d e f r p q x y with ⟨hv, hp, hq, e0, e1⟩ | ⟨_, e0, e1⟩
  · rcases fits_cases a' b' c' d' e' f' s x y X Y with ⟨hv', _, hQ, g0, g1⟩ | ⟨_, g0, g1⟩
    · rw [e0, e1, g0, g1]
      by_cases hf : FitsAt a b c d e f r p q x y
      · by_cases hg : FitsAt a' b' c' d' e' f' s x y X Y
        · simp only [hf, hg, decide_true]
          rcases then_cases a b c d e f r a' b' c' d' e' f' s with ⟨_, _, ht, t0, t1, t2, t3, t4, t5, t6, t7⟩ | ⟨_, _, _, t0, t1, t2, t3, t4, t5, t6, t7⟩ | ⟨hn, _⟩
          · rw [t0, t1, t2, t3, t4, t5, t6, t7]
            have ht' := ht
            unfold TV at ht'
            have hr := hv.2.2.2.2.2.2.2
            have hG := grow_ge (a := a') (b := b') (d := d') (e := e') (r := r) (k := 0)
            have r1 := then_row (w := c') (W := max (Wt a' b') (Wt d' e') + 0) hr.1 hp (by omega) hG hf.1 hf.2 hg.1
            have r2 := then_row (w := f') (W := max (Wt a' b') (Wt d' e') + 0) hr.1 hp (by omega) hG hf.1 hf.2 hg.2
            rcases fits_cases (rdm (a' * a + b' * d)) (rdm (a' * b + b' * e)) (rdm (a' * c + b' * f) + c') (rdm (d' * a + e' * d)) (rdm (d' * b + e' * e)) (rdm (d' * c + e' * f) + f') (grow a' b' d' e' r 0 + s + 2) p q X Y with ⟨_, _, _, i0, i1⟩ | ⟨hn, _⟩
            · rw [i0, i1, dvalid_dec]
              have hfit : FitsAt (rdm (a' * a + b' * d)) (rdm (a' * b + b' * e)) (rdm (a' * c + b' * f) + c') (rdm (d' * a + e' * d)) (rdm (d' * b + e' * e)) (rdm (d' * c + e' * f) + f') (grow a' b' d' e' r 0 + s + 2) p q X Y := ⟨r1, r2⟩
              simp [ht', hfit]
            · exact absurd ⟨ht', hp, hQ⟩ hn
          · rw [t0, t1, t2, t3, t4, t5, t6, t7]; simp
          · exact absurd ⟨hv, hv'⟩ hn
        · simp [hg]
      · simp [hf]
    · rw [g1]; simp
  · rw [e1]; simp

/-! ### Undo -/
theorem ud_err {n D : Int} (hD : 1 ≤ D) : -D ≤ 2 * (ud n D * D - 1000000000000 * n) ∧ 2 * (ud n D * D - 1000000000000 * n) ≤ D := by
  have h := ediv_split (2 * (1000000000000 * n) + D) (2 * D) (by omega)
  have e : (2 * (1000000000000 * n) + D) / (2 * D) = ud n D := rfl
  rw [e] at h
  have e2 : ud n D * (2 * D) = 2 * (ud n D * D) := Int.mul_left_comm _ _ _
  omega
theorem undo_id (U V D g h x y c f t s P : Int) (hid : P * D = g * t + h * s) :
    2 * (1000000 * (D * (1000000 * P - (U * (x - c) + V * (y - f))))) =
      -(2 * (D * (U * (1000000 * (x - c) - t) + V * (1000000 * (y - f) - s)))) + 2 * (U * D - 1000000000000 * g) * (1000000 * (x - c) - t) + 2 * (V * D - 1000000000000 * h) * (1000000 * (y - f) - s)
      - 1000000 * (2 * (U * D - 1000000000000 * g) * (x - c)) - 1000000 * (2 * (V * D - 1000000000000 * h) * (y - f)) := by grind
theorem le_of_mul {D K M : Int} (hD : 1 ≤ D) (h : D * K ≤ D * M) : K ≤ M := Int.le_of_mul_le_mul_left h (by omega)
/-- One row of the map that leads back. -/
theorem undo_row {D g h x y c f t s P r G W : Int} (hD : 1 ≤ D) (hr : 0 ≤ r) (hid : P * D = g * t + h * s) (hW : Wt (ud g D) (ud h D) ≤ W) (hG : (W + 1) * r ≤ 1000000 * G)
    (h1 : -(1000000 * r) ≤ 1000000 * (x - c) - t ∧ 1000000 * (x - c) - t ≤ 1000000 * r) (h2 : -(1000000 * r) ≤ 1000000 * (y - f) - s ∧ 1000000 * (y - f) - s ≤ 1000000 * r)
    (hx : -1100000 ≤ x - c ∧ x - c ≤ 1100000) (hy : -1100000 ≤ y - f ∧ y - f ≤ 1100000) :
    -(1000000 * (G + 2)) ≤ Dx (ud g D) (ud h D) (um (ud g D) (ud h D) c f) x y P ∧ Dx (ud g D) (ud h D) (um (ud g D) (ud h D) c f) x y P ≤ 1000000 * (G + 2) := by
  have e1 := ud_err (n := g) hD
  have e2 := ud_err (n := h) hD
  have e3 := rdm_err (-(ud g D * c + ud h D * f))
  have e4 : rdm (-(ud g D * c + ud h D * f)) = um (ud g D) (ud h D) c f := rfl
  rw [e4] at e3
  generalize um (ud g D) (ud h D) c f = Z at *
  generalize ud g D = U at *
  generalize ud h D = V at *
  have id := undo_id U V D g h x y c f t s P hid
  have b1 := wt_mul (a := U) (b := V) h1 h2
  have b2 := Int.mul_le_mul_of_nonneg_left b1.1 (show 0 ≤ D by omega)
  have b3 := Int.mul_le_mul_of_nonneg_left b1.2 (show 0 ≤ D by omega)
  have m1 := mul_bd e1.1 e1.2 h1.1 h1.2
  have m2 := mul_bd e2.1 e2.2 h2.1 h2.2
  have m3 := mul_bd e1.1 e1.2 hx.1 hx.2
  have m4 := mul_bd e2.1 e2.2 hy.1 hy.2
  have w1 := Int.mul_le_mul_of_nonneg_right (show Wt U V + 1 ≤ W + 1 by omega) hr
  have f1 : D * (2 * (1000000 * (1000000 * P - (U * (x - c) + V * (y - f))))) = 2 * (1000000 * (D * (1000000 * P - (U * (x - c) + V * (y - f))))) := by grind
  have f2 : D * (2 * (1000000 * ((Wt U V + 1) * r)) + 2200000000000) = 2 * (D * (1000000 * (Wt U V * r))) + 2 * (D * (1000000 * r)) + 2000000 * (D * 1100000) := by grind
  have f3 : D * -(1000000 * (Wt U V * r)) = -(D * (1000000 * (Wt U V * r))) := Int.mul_neg _ _
  have f4 : D * (-(2 * (1000000 * ((Wt U V + 1) * r)) + 2200000000000)) = -(D * (2 * (1000000 * ((Wt U V + 1) * r)) + 2200000000000)) := Int.mul_neg _ _
  have u1 := le_of_mul (K := 2 * (1000000 * (1000000 * P - (U * (x - c) + V * (y - f))))) (M := 2 * (1000000 * ((Wt U V + 1) * r)) + 2200000000000) hD (by omega)
  have u2 := le_of_mul (K := -(2 * (1000000 * ((Wt U V + 1) * r)) + 2200000000000)) (M := 2 * (1000000 * (1000000 * P - (U * (x - c) + V * (y - f))))) hD (by omega)
  have f5 : U * (x - c) + V * (y - f) = U * x + V * y - (U * c + V * f) := by grind
  unfold Dx
  omega
theorem datumUndone_true (a b c d e f r p q x y : Int) : law04_DatumUndone_0 a b c d e f r p q x y = true := by
  unfold law04_DatumUndone_0
  rw [head04, dvalid_dec a b c d e f r]
  have no : ∀ z : Int, z = 0 ∨ z = 3 → (z == 1) = false := fun z h => by rcases h with h | h <;> subst h <;> rfl
  have K : ((datum_Undo_7 a b c d e f r == 1) == !decide (DV a b c d e f r)) = true := by
    rcases undo_cases a b c d e f r with ⟨h, _, _, _, _, _, _, _, _, g⟩ | ⟨h, _, _, _, _, _, _, _, _, g⟩ | ⟨h, _, _, _, _, _, _, _, g⟩
    · simp [h, g]
    · simp [h, g]
    · simp [h, g]
  rcases fits_cases a b c d e f r p q x y with ⟨hv, hp, hq, e0, e1⟩ | ⟨_, e0, e1⟩
  · rw [e0, e1]
    by_cases hf : FitsAt a b c d e f r p q x y
    · simp only [hf, decide_true]
      rcases undo_cases a b c d e f r with ⟨_, hu, t0, t1, t2, t3, t4, t5, t6, t7⟩ | ⟨_, _, t0, t1, t2, t3, t4, t5, t6, t7⟩ | ⟨hn, _⟩
      · rw [t0, t1, t2, t3, t4, t5, t6, t7]
        have hu' := hu
        unfold UV at hu'
        have hD : 1 ≤ a * e - b * d := by have := hv.2.2.2.2.1; omega
        have hr := hv.2.2.2.2.2.2.2
        have hc := hv.2.2.2.2.2.1
        have hff := hv.2.2.2.2.2.2.1
        have hq' := hq
        unfold Pt at hq'
        have hG := grow_ge (a := ud e (a * e - b * d)) (b := ud (-b) (a * e - b * d)) (d := ud (-d) (a * e - b * d)) (e := ud a (a * e - b * d)) (r := r) (k := 1)
        have d1 : -(1000000 * r) ≤ 1000000 * (x - c) - (a * p + b * q) ∧ 1000000 * (x - c) - (a * p + b * q) ≤ 1000000 * r := by have := hf.1; unfold Dx at this; omega
        have d2 : -(1000000 * r) ≤ 1000000 * (y - f) - (d * p + e * q) ∧ 1000000 * (y - f) - (d * p + e * q) ≤ 1000000 * r := by have := hf.2; unfold Dx at this; omega
        have r1 := undo_row (x := x) (y := y) (c := c) (f := f) hD hr.1 (det_p a b d e p q) (W := max (Wt (ud e (a * e - b * d)) (ud (-b) (a * e - b * d))) (Wt (ud (-d) (a * e - b * d)) (ud a (a * e - b * d)))) (by omega) hG d1 d2 (by omega) (by omega)
        have r2 := undo_row (x := x) (y := y) (c := c) (f := f) hD hr.1 (det_q a b d e p q) (W := max (Wt (ud e (a * e - b * d)) (ud (-b) (a * e - b * d))) (Wt (ud (-d) (a * e - b * d)) (ud a (a * e - b * d)))) (by omega) hG d1 d2 (by omega) (by omega)
        generalize um (ud e (a * e - b * d)) (ud (-b) (a * e - b * d)) c f = z3 at *
        generalize um (ud (-d) (a * e - b * d)) (ud a (a * e - b * d)) c f = z6 at *
        generalize grow (ud e (a * e - b * d)) (ud (-b) (a * e - b * d)) (ud (-d) (a * e - b * d)) (ud a (a * e - b * d)) r 1 = z7 at *
        generalize ud e (a * e - b * d) = z1 at *
        generalize ud (-b) (a * e - b * d) = z2 at *
        generalize ud (-d) (a * e - b * d) = z4 at *
        generalize ud a (a * e - b * d) = z5 at *
        rcases fits_cases z1 z2 z3 z4 z5 z6 (z7 + 2) x y p q with ⟨_, _, _, i0, i1⟩ | ⟨hn, _⟩
        · rw [i0, i1, dvalid_dec]
          have hfit : FitsAt z1 z2 z3 z4 z5 z6 (z7 + 2) x y p q := ⟨r1, r2⟩
          simp [hu', hfit]
        · exact absurd ⟨hu', hq, hp⟩ hn
      · rw [t0, t1, t2, t3, t4, t5, t6, t7]; simp
      · exact absurd hv hn
    · simp only [hf, decide_false, Bool.not_false, Bool.or_true, cond_true, K, Bool.and_self]
  · rw [e0, e1]
    simp only [Bool.not_false, Bool.or_true, cond_true, K, Bool.and_self]

/-! ### Wider, Moved, There -/
theorem datumWider_true (a b c d e f r more p q x y X Y : Int) : law04_DatumWider_0 a b c d e f r more p q x y X Y = true := by
  unfold law04_DatumWider_0
  rw [head04]
  rcases fits_cases a b c d e f r p q x y with ⟨hv, hp, hq, e0, e1⟩ | ⟨_, e0, e1⟩
  · rw [e0, e1]
    by_cases hf : FitsAt a b c d e f r p q x y
    · simp only [hf, decide_true]
      have hr := hv.2.2.2.2.2.2.2
      have hq' := hq
      unfold Pt at hq'
      have A : (datum_Fits_1 a b c d e f r p q X Y == 0 && datum_Fits_0 a b c d e f r p q X Y) = true →
          decide (imax (IntKind.i64.wrap (x - X)) (IntKind.i64.wrap (0 - IntKind.i64.wrap (x - X))) ≤ IntKind.i64.wrap (2 * r)) = true ∧ decide (imax (IntKind.i64.wrap (y - Y)) (IntKind.i64.wrap (0 - IntKind.i64.wrap (y - Y))) ≤ IntKind.i64.wrap (2 * r)) = true := by
        intro hc
        rcases fits_cases a b c d e f r p q X Y with ⟨_, _, hQ, g0, g1⟩ | ⟨_, g0, g1⟩
        · rw [g0, g1] at hc
          simp at hc
          unfold Pt at hQ
          have h1 := hf.1
          have h2 := hf.2
          have h3 := hc.1
          have h4 := hc.2
          unfold Dx at h1 h2 h3 h4
          simp (disch := omega) only [wrap_in]
          rw [imax_max, imax_max, decide_eq_true_eq, decide_eq_true_eq]
          omega
        · rw [g1] at hc; simp at hc
      have B : (decide (more < 0) || decide (more > 1000)) = false → datum_Fits_1 a b c d e f (imin 1000 (IntKind.i64.wrap (r + more))) p q x y = 0 ∧ datum_Fits_0 a b c d e f (imin 1000 (IntKind.i64.wrap (r + more))) p q x y = true := by
        intro hc
        simp at hc
        rw [wrap_in (by omega), imin_min]
        rcases fits_cases a b c d e f (min 1000 (r + more)) p q x y with ⟨_, _, _, g0, g1⟩ | ⟨hn, _⟩
        · refine ⟨g1, ?_⟩
          rw [g0, decide_eq_true_eq]
          unfold FitsAt at hf ⊢
          omega
        · exact absurd ⟨by unfold DV at hv ⊢; omega, hp, hq⟩ hn
      cases hA : (datum_Fits_1 a b c d e f r p q X Y == 0 && datum_Fits_0 a b c d e f r p q X Y) with
      | true =>
        cases hB : (decide (more < 0) || decide (more > 1000)) with
        | true => rw [(A hA).1, (A hA).2]; simp
        | false => rw [(A hA).1, (A hA).2, (B hB).1, (B hB).2]; simp
      | false =>
        cases hB : (decide (more < 0) || decide (more > 1000)) with
        | true => simp
        | false => rw [(B hB).1, (B hB).2]; simp
    · simp [hf]
  · rw [e1]; simp

theorem datumMoved_true (a b c d e f r p q x y v w : Int) : law04_DatumMoved_0 a b c d e f r p q x y v w = true := by
  unfold law04_DatumMoved_0
  rw [head04]
  unfold datum_Apply_0 datum_Apply_1 datum_Apply_2 datum_Apply_3 datum_Apply_4 law04_box_0 law04_box_1 law04_box_2 law04_box_3
  cases hvw : (decide (v < -200000) || decide (v > 200000) || decide (w < -200000) || decide (w > 200000)) with
  | true => rfl
  | false =>
    simp at hvw
    rcases fits_cases a b c d e f r p q x y with ⟨hv, hp, hq, e0, e1⟩ | ⟨_, e0, e1⟩
    · rw [e0, e1]
      have hc := hv.2.2.2.2.2.1
      have hff := hv.2.2.2.2.2.2.1
      have hq' := hq
      unfold Pt at hq'
      have w1 : IntKind.i64.wrap (c + v) = c + v := wrap_in (by omega)
      have w2 : IntKind.i64.wrap (f + w) = f + w := wrap_in (by omega)
      have w3 : IntKind.i64.wrap (x + v) = x + v := wrap_in (by omega)
      have w4 : IntKind.i64.wrap (y + w) = y + w := wrap_in (by omega)
      rw [w1, w2, w3, w4, dvalid_dec]
      by_cases hn : DV a b (c + v) d e (f + w) r
      · simp only [hn, decide_true]
        have A : (datum_Fits_1 a b (c + v) d e (f + w) r p q (x + v) (y + w) != 0 || decide (FitsAt a b c d e f r p q x y) == datum_Fits_0 a b (c + v) d e (f + w) r p q (x + v) (y + w)) = true := by
          rcases fits_cases a b (c + v) d e (f + w) r p q (x + v) (y + w) with ⟨_, _, _, g0, g1⟩ | ⟨_, _, g1⟩
          · rw [g0, g1]
            have : decide (FitsAt a b c d e f r p q x y) = decide (FitsAt a b (c + v) d e (f + w) r p q (x + v) (y + w)) := by
              rw [Bool.eq_iff_iff, decide_eq_true_eq, decide_eq_true_eq]
              unfold FitsAt Dx
              omega
            rw [this]; simp
          · rw [g1]; simp
        rw [A]
        cases hB : (datum_Carry_4 a b c d e f r p p q q != 0 || datum_Carry_4 a b (c + v) d e (f + w) r p p q q != 0) with
        | true => simp
        | false =>
          simp at hB
          rcases carry_ok hv (pt_bx' hp) with ⟨hb, g0, g1, g2, g3, g4⟩ | g
          · rcases carry_ok hn (pt_bx' hp) with ⟨_, i0, i1, i2, i3, i4⟩ | g
            · rw [g0, g1, g2, g3, i0, i1, i2, i3]
              have q0 : cLo a b (c + v) r p p q q = cLo a b c r p p q q + v := by unfold cLo; omega
              have q1 : cHi a b (c + v) r p p q q = cHi a b c r p p q q + v := by unfold cHi; omega
              have q2 : cLo d e (f + w) r p p q q = cLo d e f r p p q q + w := by unfold cLo; omega
              have q3 : cHi d e (f + w) r p p q q = cHi d e f r p p q q + w := by unfold cHi; omega
              rw [q0, q1, q2, q3]
              unfold Bx at hb
              simp (disch := omega) only [wrap_in]
              simp
            · omega
          · omega
      · simp [hn]
    · rw [e1]; simp

theorem datumThere_true (a b c d e f r p q : Int) : law04_DatumThere_0 a b c d e f r p q = true := by
  unfold law04_DatumThere_0
  rw [head04]
  unfold datum_Apply_0 datum_Apply_1 datum_Apply_2 datum_Apply_3 datum_Apply_4
  rcases carry_cases a b c d e f r p p q q with ⟨hv, hb, hc, g0, g1, g2, g3, g4⟩ | ⟨_, _, _, g0, g1, g2, g3, g4⟩ | ⟨_, g0, g1, g2, g3, g4⟩
  · rw [g0, g1, g2, g3, g4]
    have hp : Pt p q := (pt_bx p q).2 hb
    have hr := hv.2.2.2.2.2.2.2
    have hh := back_has (l := cLo a b c r p p q q) (h := cHi a b c r p p q q) (l' := cLo d e f r p p q q) (h' := cHi d e f r p p q q) hv hp
      (by unfold cLo cHi Mn Mx; omega) (by unfold cLo cHi Mn Mx; omega)
    have kb := k_bd a b c d e f r (cLo a b c r p p q q) (cHi a b c r p p q q) (cLo d e f r p p q q) (cHi d e f r p p q q)
    rcases back_cases a b c d e f r (cLo a b c r p p q q) (cHi a b c r p p q q) (cLo d e f r p p q q) (cHi d e f r p p q q) with ⟨_, _, hk, i0, i1, i2, i3, i4⟩ | ⟨_, _, hn, _⟩ | ⟨hn, _⟩
    · rw [i0, i1, i2, i3, i4, in_dec]
      generalize k0 a b c d e f r (cLo a b c r p p q q) (cHi a b c r p p q q) (cLo d e f r p p q q) (cHi d e f r p p q q) = x0 at *
      generalize k1 a b c d e f r (cLo a b c r p p q q) (cHi a b c r p p q q) (cLo d e f r p p q q) (cHi d e f r p p q q) = x1 at *
      generalize k2 a b c d e f r (cLo a b c r p p q q) (cHi a b c r p p q q) (cLo d e f r p p q q) (cHi d e f r p p q q) = x2 at *
      generalize k3 a b c d e f r (cLo a b c r p p q q) (cHi a b c r p p q q) (cLo d e f r p p q q) (cHi d e f r p p q q) = x3 at *
      have hin : x0 ≤ p ∧ p ≤ x1 ∧ x2 ≤ q ∧ q ≤ x3 := by omega
      simp only [hin]
      rcases carry_ok hv hk with ⟨_, j0, j1, j2, j3, j4⟩ | g
      · rw [j0, j1, j2, j3, j4, within_dec]
        have c1 := carry_mono (a := a) (b := b) (c := c) (r := r) (l := p) (h := p) (l' := q) (h' := q) (m := x0) (n := x1) (m' := x2) (n' := x3) (by omega) (by omega)
        have c2 := carry_mono (a := d) (b := e) (c := f) (r := r) (l := p) (h := p) (l' := q) (h' := q) (m := x0) (n := x1) (m' := x2) (n' := x3) (by omega) (by omega)
        simp
        omega
      · rw [g]; simp
    · exact absurd (by unfold Bx; omega) hn
    · exact absurd ⟨hv, hc⟩ hn
  · rw [g0, g1, g2, g3, g4]; simp
  · rw [g0, g1, g2, g3, g4]; simp
end Go.Proofs.Ytbopeaebdlmapaa
