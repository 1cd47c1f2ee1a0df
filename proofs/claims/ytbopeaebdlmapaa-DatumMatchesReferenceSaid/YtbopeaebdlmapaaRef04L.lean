/-
  Package datum computes what its reference computes.
-/
import Derived.Test.YtbopeaebdlmapaaDatumM
namespace Go.Proofs.Ytbopeaebdlmapaa
open Go Go.Sx

instance (x : Int) : Decidable (Fa x) := by unfold Fa; infer_instance
theorem rfactor (x : Int) : ref04_Factor_0 x = decide (Fa x) := by
  unfold ref04_Factor_0
  rw [Bool.eq_iff_iff]
  simp only [Bool.and_eq_true, decide_eq_true_eq]
  unfold Fa
  omega
theorem rdv_dec (a b c d e f r : Int) : ref04_Valid_0 a b c d e f r = decide (DV a b c d e f r) := by
  unfold ref04_Valid_0
  rw [rfactor, rfactor, rfactor, rfactor]
  by_cases h : Fa a ∧ Fa b ∧ Fa d ∧ Fa e
  · have hd : ref04_Det_0 a b c d e f r = a * e - b * d := det_eq (c := c) (f := f) (r := r) h.1 h.2.1 h.2.2.1 h.2.2.2
    rw [hd]
    simp only [h, decide_true, Bool.not_true, Bool.false_or]
    obtain ⟨h1, h2, h3, h4⟩ := h
    by_cases hD : a * e - b * d < 250000000000
    · have : ¬ DV a b c d e f r := fun k => by have := k.2.2.2.2.1; omega
      simp [hD, this]
    · simp only [hD, decide_false, cond_false]
      rw [Bool.eq_iff_iff]
      simp only [Bool.and_eq_true, decide_eq_true_eq]
      unfold Fa at h1 h2 h3 h4
      unfold DV
      omega
  · have hn : ¬ DV a b c d e f r := fun k => h ⟨k.1, k.2.1, k.2.2.1, k.2.2.2.1⟩
    have : (!decide (Fa a) || !decide (Fa b) || !decide (Fa d) || !decide (Fa e)) = true := by
      by_cases h1 : Fa a
      · by_cases h2 : Fa b
        · by_cases h3 : Fa d
          · by_cases h4 : Fa e
            · exact absurd ⟨h1, h2, h3, h4⟩ h
            · simp [h4]
          · simp [h3]
        · simp [h2]
      · simp [h1]
    rw [this]
    simp [hn]
theorem rplace01 (x y : Int) : ref01_Valid_0 x y = decide (Pt x y) := by
  unfold ref01_Valid_0
  rw [Bool.eq_iff_iff]
  simp only [Bool.and_eq_true, decide_eq_true_eq]
  unfold Pt
  omega
theorem rbox_dec (a b c d : Int) : ref04_Box_0 a b c d = decide (Bx a b c d) := by
  unfold ref04_Box_0 ref04_Ends_0
  rw [Bool.eq_iff_iff]
  simp only [Bool.and_eq_true, decide_eq_true_eq]
  unfold Bx
  omega
theorem rfits (a b c d e f r p q x y : Int) : datum_Fits_0 a b c d e f r p q x y = ref04_Fits_0 a b c d e f r p q x y ∧ datum_Fits_1 a b c d e f r p q x y = ref04_Fits_1 a b c d e f r p q x y := by
  unfold ref04_Fits_0 ref04_Fits_1
  rw [rdv_dec, rplace01, rplace01]
  rcases fits_cases a b c d e f r p q x y with ⟨h1, h2, h3, e0, e1⟩ | ⟨hn, e0, e1⟩
  · rw [e0, e1]
    simp only [h1, h2, h3, decide_true, Bool.not_true, Bool.or_self, cond_false, and_true]
    obtain ⟨c1, c2⟩ := pt_co h2
    have b1 := fc_mul h1.1 c1
    have b2 := fc_mul h1.2.1 c2
    have b3 := fc_mul h1.2.2.1 c1
    have b4 := fc_mul h1.2.2.2.1 c2
    have hp := h3
    have hv := h1.2.2.2.2.2
    unfold Pt at hp
    simp (disch := omega) only [wrap_in]
    rw [Bool.eq_iff_iff]
    simp only [Bool.and_eq_true, decide_eq_true_eq]
    unfold FitsAt Dx
    omega
  · rw [e0, e1]
    have : (!decide (DV a b c d e f r) || !decide (Pt p q) || !decide (Pt x y)) = true := by
      by_cases h1 : DV a b c d e f r
      · by_cases h2 : Pt p q
        · have h3 : ¬ Pt x y := fun k => hn ⟨h1, h2, k⟩
          simp [h3]
        · simp [h2]
      · simp [h1]
    rw [this]
    exact ⟨rfl, rfl⟩
theorem times_eq {n l h : Int} (h1 : Fa n) (c1 : Co l) (c2 : Co h) : ref04_Times_0 n l h = Mn n l h ∧ ref04_Times_1 n l h = Mx n l h := by
  have m1 := fc_mul h1 c1
  have m2 := fc_mul h1 c2
  unfold ref04_Times_0 ref04_Times_1 Mn Mx
  rw [imin_min, imax_max]
  simp (disch := omega) only [wrap_in]
  exact ⟨trivial, trivial⟩
theorem row_eq {a b c r l h l' h' : Int} (h1 : Fa a) (h2 : Fa b) (h3 : Mo c) (hr : 0 ≤ r ∧ r ≤ 1000) (k : Bx l h l' h') :
    ref04_Row_0 a b c r l h l' h' = cLo a b c r l h l' h' ∧ ref04_Row_1 a b c r l h l' h' = cHi a b c r l h l' h' := by
  obtain ⟨c1, c2, c3, c4⟩ := bx_co k
  unfold ref04_Row_0 ref04_Row_1
  rw [(times_eq h1 c1 c2).1, (times_eq h1 c1 c2).2, (times_eq h2 c3 c4).1, (times_eq h2 c3 c4).2]
  have b1 := mn_bd h1 c1 c2
  have b2 := mn_bd h2 c3 c4
  have b3 := mx_bd h1 c1 c2
  have b4 := mx_bd h2 c3 c4
  unfold Mo at h3
  rw [wrap_in (x := Mn a l h + Mn b l' h') (by omega), wrap_in (x := Mx a l h + Mx b l' h') (by omega), rdown, rup, down_eq (by omega) (by omega), up_eq (by omega) (by omega)]
  simp (disch := omega) only [wrap_in]
  unfold cLo cHi
  omega
theorem rcarry (a b c d e f r l h l' h' : Int) : datum_Carry_0 a b c d e f r l h l' h' = ref04_Carry_0 a b c d e f r l h l' h' ∧ datum_Carry_1 a b c d e f r l h l' h' = ref04_Carry_1 a b c d e f r l h l' h' ∧ datum_Carry_2 a b c d e f r l h l' h' = ref04_Carry_2 a b c d e f r l h l' h' ∧ datum_Carry_3 a b c d e f r l h l' h' = ref04_Carry_3 a b c d e f r l h l' h' ∧ datum_Carry_4 a b c d e f r l h l' h' = ref04_Carry_4 a b c d e f r l h l' h' := by
  unfold ref04_Carry_0 ref04_Carry_1 ref04_Carry_2 ref04_Carry_3 ref04_Carry_4
  rw [rdv_dec, rbox_dec l h l' h']
  have rows : DV a b c d e f r → Bx l h l' h' → (ref04_Row_0 a b c r l h l' h' = cLo a b c r l h l' h' ∧ ref04_Row_1 a b c r l h l' h' = cHi a b c r l h l' h') ∧ (ref04_Row_0 d e f r l h l' h' = cLo d e f r l h l' h' ∧ ref04_Row_1 d e f r l h l' h' = cHi d e f r l h l' h') :=
    fun h1 h2 => ⟨row_eq h1.1 h1.2.1 h1.2.2.2.2.2.1 h1.2.2.2.2.2.2.2 h2, row_eq h1.2.2.1 h1.2.2.2.1 h1.2.2.2.2.2.2.1 h1.2.2.2.2.2.2.2 h2⟩
  rcases carry_cases a b c d e f r l h l' h' with ⟨h1, h2, h3, g0, g1, g2, g3, g4⟩ | ⟨h1, h2, h3, g0, g1, g2, g3, g4⟩ | ⟨hn, g0, g1, g2, g3, g4⟩
  · obtain ⟨⟨r0, r1⟩, r2, r3⟩ := rows h1 h2
    rw [g0, g1, g2, g3, g4, r0, r1, r2, r3, rbox_dec]
    simp [h1, h2, h3]
  · obtain ⟨⟨r0, r1⟩, r2, r3⟩ := rows h1 h2
    rw [g0, g1, g2, g3, g4, r0, r1, r2, r3, rbox_dec]
    simp [h1, h2, h3]
  · rw [g0, g1, g2, g3, g4]
    have : (!decide (DV a b c d e f r) || !decide (Bx l h l' h')) = true := by
      by_cases h1 : DV a b c d e f r
      · have h2 : ¬ Bx l h l' h' := fun k => hn ⟨h1, k⟩
        simp [h2]
      · simp [h1]
    rw [this]
    exact ⟨rfl, rfl, rfl, rfl, rfl⟩
theorem rapply (a b c d e f r p q : Int) : datum_Apply_0 a b c d e f r p q = ref04_Apply_0 a b c d e f r p q ∧ datum_Apply_1 a b c d e f r p q = ref04_Apply_1 a b c d e f r p q ∧ datum_Apply_2 a b c d e f r p q = ref04_Apply_2 a b c d e f r p q ∧ datum_Apply_3 a b c d e f r p q = ref04_Apply_3 a b c d e f r p q ∧ datum_Apply_4 a b c d e f r p q = ref04_Apply_4 a b c d e f r p q := by
  unfold datum_Apply_0 datum_Apply_1 datum_Apply_2 datum_Apply_3 datum_Apply_4 ref04_Apply_0 ref04_Apply_1 ref04_Apply_2 ref04_Apply_3 ref04_Apply_4 ref04_One_0 ref04_One_1 ref04_One_2 ref04_One_3
  rw [rplace01]
  by_cases h : Pt p q
  · simp only [h, decide_true, Bool.not_true, cond_false]
    exact rcarry a b c d e f r p p q q
  · have hb : ¬ Bx p p q q := fun k => h ((pt_bx p q).2 k)
    rcases carry_cases a b c d e f r p p q q with ⟨_, h2, _⟩ | ⟨_, h2, _⟩ | ⟨_, g0, g1, g2, g3, g4⟩
    · exact absurd h2 hb
    · exact absurd h2 hb
    · rw [g0, g1, g2, g3, g4]; simp [h]
theorem column_eq {x y l h l' h' D : Int} (h1 : Fa x) (h2 : Fa y) (c1 : Co l) (c2 : Co h) (c3 : Co l') (c4 : Co h') (hD : 1 ≤ D) :
    ref04_Column_0 x l h y l' h' D = bLo x y l h l' h' D ∧ ref04_Column_1 x l h y l' h' D = bHi x y l h l' h' D := by
  unfold ref04_Column_0 ref04_Column_1
  rw [(times_eq h1 c1 c2).1, (times_eq h1 c1 c2).2, (times_eq h2 c3 c4).1, (times_eq h2 c3 c4).2, imin_min, imax_max]
  have b1 := mn_bd h1 c1 c2
  have b2 := mn_bd h2 c3 c4
  have b3 := mx_bd h1 c1 c2
  have b4 := mx_bd h2 c3 c4
  simp (disch := omega) only [wrap_in]
  rw [rdown, rup, down_eq hD (by omega), up_eq hD (by omega)]
  unfold bLo bHi
  omega
theorem rback (a b c d e f r l h l' h' : Int) : datum_Back_0 a b c d e f r l h l' h' = ref04_Back_0 a b c d e f r l h l' h' ∧ datum_Back_1 a b c d e f r l h l' h' = ref04_Back_1 a b c d e f r l h l' h' ∧ datum_Back_2 a b c d e f r l h l' h' = ref04_Back_2 a b c d e f r l h l' h' ∧ datum_Back_3 a b c d e f r l h l' h' = ref04_Back_3 a b c d e f r l h l' h' ∧ datum_Back_4 a b c d e f r l h l' h' = ref04_Back_4 a b c d e f r l h l' h' := by
  unfold ref04_Back_0 ref04_Back_1 ref04_Back_2 ref04_Back_3 ref04_Back_4
  rw [rdv_dec, rbox_dec l h l' h']
  by_cases h1 : DV a b c d e f r
  · by_cases h2 : Bx l h l' h'
    · have hd : ref04_Det_0 a b c d e f r = a * e - b * d := (dv_det h1).1
      have hv := h1
      have hb := h2
      unfold DV at hv
      unfold Bx at hb
      have e0 : IntKind.i64.wrap (0 - b) = -b := by rw [wrap_in (by omega)]; omega
      have e1 : IntKind.i64.wrap (0 - d) = -d := by rw [wrap_in (by omega)]; omega
      have e2 : IntKind.i64.wrap (IntKind.i64.wrap (l - c) - r) = l - c - r := by simp (disch := omega) only [wrap_in]
      have e3 : IntKind.i64.wrap (IntKind.i64.wrap (h - c) + r) = h - c + r := by simp (disch := omega) only [wrap_in]
      have e4 : IntKind.i64.wrap (IntKind.i64.wrap (l' - f) - r) = l' - f - r := by simp (disch := omega) only [wrap_in]
      have e5 : IntKind.i64.wrap (IntKind.i64.wrap (h' - f) + r) = h' - f + r := by simp (disch := omega) only [wrap_in]
      have c1 : Co (l - c - r) := by unfold Co; omega
      have c2 : Co (h - c + r) := by unfold Co; omega
      have c3 : Co (l' - f - r) := by unfold Co; omega
      have c4 : Co (h' - f + r) := by unfold Co; omega
      have hD : 1 ≤ a * e - b * d := by omega
      rw [e0, e1, e2, e3, e4, e5, hd, (column_eq h1.2.2.2.1 (fa_neg h1.2.1) c1 c2 c3 c4 hD).1, (column_eq h1.2.2.2.1 (fa_neg h1.2.1) c1 c2 c3 c4 hD).2, (column_eq (fa_neg h1.2.2.1) h1.1 c1 c2 c3 c4 hD).1, (column_eq (fa_neg h1.2.2.1) h1.1 c1 c2 c3 c4 hD).2]
      have kb := k_bd a b c d e f r l h l' h'
      have q0 : bLo e (-b) (l - c - r) (h - c + r) (l' - f - r) (h' - f + r) (a * e - b * d) = k0 a b c d e f r l h l' h' := rfl
      have q1 : bHi e (-b) (l - c - r) (h - c + r) (l' - f - r) (h' - f + r) (a * e - b * d) = k1 a b c d e f r l h l' h' := rfl
      have q2 : bLo (-d) a (l - c - r) (h - c + r) (l' - f - r) (h' - f + r) (a * e - b * d) = k2 a b c d e f r l h l' h' := rfl
      have q3 : bHi (-d) a (l - c - r) (h - c + r) (l' - f - r) (h' - f + r) (a * e - b * d) = k3 a b c d e f r l h l' h' := rfl
      rw [q0, q1, q2, q3]
      clear q0 q1 q2 q3 e0 e1 e2 e3 e4 e5
      rcases back_cases a b c d e f r l h l' h' with ⟨_, _, h3, g0, g1, g2, g3, g4⟩ | ⟨_, _, h3, g0, g1, g2, g3, g4⟩ | ⟨hn, _⟩
      · rw [g0, g1, g2, g3, g4]
        have z : (decide (k0 a b c d e f r l h l' h' > k1 a b c d e f r l h l' h') || decide (k2 a b c d e f r l h l' h' > k3 a b c d e f r l h l' h')) = false := by
          unfold Bx at h3; simp; omega
        rw [z]
        simp [h1, h2]
      · rw [g0, g1, g2, g3, g4]
        have z : (decide (k0 a b c d e f r l h l' h' > k1 a b c d e f r l h l' h') || decide (k2 a b c d e f r l h l' h' > k3 a b c d e f r l h l' h')) = true := by
          unfold Bx at h3; simp; omega
        rw [z]
        simp [h1, h2]
      · exact absurd ⟨h1, h2⟩ hn
    · rcases back_cases a b c d e f r l h l' h' with ⟨_, k, _⟩ | ⟨_, k, _⟩ | ⟨_, g0, g1, g2, g3, g4⟩
      · exact absurd k h2
      · exact absurd k h2
      · rw [g0, g1, g2, g3, g4]; simp [h2]
  · rcases back_cases a b c d e f r l h l' h' with ⟨k, _⟩ | ⟨k, _⟩ | ⟨_, g0, g1, g2, g3, g4⟩
    · exact absurd k h1
    · exact absurd k h1
    · rw [g0, g1, g2, g3, g4]; simp [h1]
theorem size_eq {x : Int} (h : Ga x) : ref04_Size_0 x = max x (-x) := by
  unfold Ga at h
  unfold ref04_Size_0
  have e1 : IntKind.i64.wrap (0 - x) = -x := by rw [wrap_in (by omega)]; omega
  rw [e1, imax_max]
theorem size2_eq {x y : Int} (h1 : Ga x) (h2 : Ga y) : IntKind.i64.wrap (ref04_Size_0 x + ref04_Size_0 y) = Wt x y := by
  rw [size_eq h1, size_eq h2]
  unfold Ga at h1 h2
  exact wrap_in (by omega)
theorem rgrow0 {a b d e r : Int} (h1 : Ga a) (h2 : Ga b) (h3 : Ga d) (h4 : Ga e) (hr : 0 ≤ r ∧ r ≤ 1000) :
    ref04_Up_0 (IntKind.i64.wrap (imax (IntKind.i64.wrap (ref04_Size_0 a + ref04_Size_0 b)) (IntKind.i64.wrap (ref04_Size_0 d + ref04_Size_0 e)) * r)) 1000000 = grow a b d e r 0 := by
  have p := grow_pre (k := 0) h1 h2 h3 h4 hr (by omega)
  rw [Int.add_zero] at p
  rw [size2_eq h1 h2, size2_eq h3 h4, imax_max, wrap_in (by omega), rup, up_eq (by omega) (by omega)]
  unfold grow
  rw [Int.add_zero]
theorem rgrow1 {a b d e r : Int} (h1 : Ga a) (h2 : Ga b) (h3 : Ga d) (h4 : Ga e) (hr : 0 ≤ r ∧ r ≤ 1000) :
    ref04_Up_0 (IntKind.i64.wrap (imax (IntKind.i64.wrap (IntKind.i64.wrap (ref04_Size_0 a + ref04_Size_0 b) + 1)) (IntKind.i64.wrap (IntKind.i64.wrap (ref04_Size_0 d + ref04_Size_0 e) + 1)) * r)) 1000000 = grow a b d e r 1 := by
  have p := grow_pre (k := 1) h1 h2 h3 h4 hr (by omega)
  have b1 := wt_bd h1 h2
  have b2 := wt_bd h3 h4
  have em : max (Wt a b + 1) (Wt d e + 1) = max (Wt a b) (Wt d e) + 1 := by omega
  rw [size2_eq h1 h2, size2_eq h3 h4, imax_max, wrap_in (x := Wt a b + 1) (by omega), wrap_in (x := Wt d e + 1) (by omega), em, wrap_in (by omega), rup, up_eq (by omega) (by omega)]
  rfl
theorem rthen (a b c d e f r a' b' c' d' e' f' s : Int) : datum_Then_0 a b c d e f r a' b' c' d' e' f' s = ref04_Then_0 a b c d e f r a' b' c' d' e' f' s ∧ datum_Then_1 a b c d e f r a' b' c' d' e' f' s = ref04_Then_1 a b c d e f r a' b' c' d' e' f' s ∧
    datum_Then_2 a b c d e f r a' b' c' d' e' f' s = ref04_Then_2 a b c d e f r a' b' c' d' e' f' s ∧ datum_Then_3 a b c d e f r a' b' c' d' e' f' s = ref04_Then_3 a b c d e f r a' b' c' d' e' f' s ∧ datum_Then_4 a b c d e f r a' b' c' d' e' f' s = ref04_Then_4 a b c d e f r a' b' c' d' e' f' s ∧
    datum_Then_5 a b c d e f r a' b' c' d' e' f' s = ref04_Then_5 a b c d e f r a' b' c' d' e' f' s ∧ datum_Then_6 a b c d e f r a' b' c' d' e' f' s = ref04_Then_6 a b c d e f r a' b' c' d' e' f' s ∧ datum_Then_7 a b c d e f r a' b' c' d' e' f' s = ref04_Then_7 a b c d e f r a' b' c' d' e' f' s := by
  unfold ref04_Then_0 ref04_Then_1 ref04_Then_2 ref04_Then_3 ref04_Then_4 ref04_Then_5 ref04_Then_6 ref04_Then_7
  rw [rdv_dec a b c d e f r, rdv_dec a' b' c' d' e' f' s]
  by_cases h1 : DV a b c d e f r
  · by_cases h2 : DV a' b' c' d' e' f' s
    · have hc : Fa c := by have := h1.2.2.2.2.2.1; unfold Fa; omega
      have hf : Fa f := by have := h1.2.2.2.2.2.2.1; unfold Fa; omega
      obtain ⟨e1, b1⟩ := pre_rd h2.1 h2.2.1 h1.1 h1.2.2.1
      obtain ⟨e2, b2⟩ := pre_rd h2.1 h2.2.1 h1.2.1 h1.2.2.2.1
      obtain ⟨e3, b3⟩ := pre_rd h2.1 h2.2.1 hc hf
      obtain ⟨e4, b4⟩ := pre_rd h2.2.2.1 h2.2.2.2.1 h1.1 h1.2.2.1
      obtain ⟨e5, b5⟩ := pre_rd h2.2.2.1 h2.2.2.2.1 h1.2.1 h1.2.2.2.1
      obtain ⟨e6, b6⟩ := pre_rd h2.2.2.1 h2.2.2.2.1 hc hf
      have g1 := grow_bd (k := 0) (fa_ga h2.1) (fa_ga h2.2.1) (fa_ga h2.2.2.1) (fa_ga h2.2.2.2.1) h1.2.2.2.2.2.2.2 (by omega)
      have hs := h2.2.2.2.2.2.2.2
      have hc' := h2.2.2.2.2.2.1
      have hf' := h2.2.2.2.2.2.2.1
      have w3 : IntKind.i64.wrap (rdm (a' * c + b' * f) + c') = rdm (a' * c + b' * f) + c' := wrap_in (by unfold rdm; omega)
      have w6 : IntKind.i64.wrap (rdm (d' * c + e' * f) + f') = rdm (d' * c + e' * f) + f' := wrap_in (by unfold rdm; omega)
      have w7 : IntKind.i64.wrap (IntKind.i64.wrap (grow a' b' d' e' r 0 + s) + 2) = grow a' b' d' e' r 0 + s + 2 := by simp (disch := omega) only [wrap_in]
      rw [e1, e2, e3, e4, e5, e6, rrdm_eq (n := a' * a + b' * d) (by omega), rrdm_eq (n := a' * b + b' * e) (by omega), rrdm_eq (n := a' * c + b' * f) (by omega), rrdm_eq (n := d' * a + e' * d) (by omega), rrdm_eq (n := d' * b + e' * e) (by omega), rrdm_eq (n := d' * c + e' * f) (by omega),
        w3, w6, rgrow0 (fa_ga h2.1) (fa_ga h2.2.1) (fa_ga h2.2.2.1) (fa_ga h2.2.2.2.1) h1.2.2.2.2.2.2.2, w7, rdv_dec]
      rcases then_cases a b c d e f r a' b' c' d' e' f' s with ⟨_, _, ht, t0, t1, t2, t3, t4, t5, t6, t7⟩ | ⟨_, _, ht, t0, t1, t2, t3, t4, t5, t6, t7⟩ | ⟨hn, _⟩
      · unfold TV at ht
        rw [t0, t1, t2, t3, t4, t5, t6, t7]; simp [h1, h2, ht]
      · unfold TV at ht
        rw [t0, t1, t2, t3, t4, t5, t6, t7]; simp [h1, h2, ht]
      · exact absurd ⟨h1, h2⟩ hn
    · rcases then_cases a b c d e f r a' b' c' d' e' f' s with ⟨_, k, _⟩ | ⟨_, k, _⟩ | ⟨_, t0, t1, t2, t3, t4, t5, t6, t7⟩
      · exact absurd k h2
      · exact absurd k h2
      · rw [t0, t1, t2, t3, t4, t5, t6, t7]; simp [h2]
  · rcases then_cases a b c d e f r a' b' c' d' e' f' s with ⟨k, _⟩ | ⟨k, _⟩ | ⟨_, t0, t1, t2, t3, t4, t5, t6, t7⟩
    · exact absurd k h1
    · exact absurd k h1
    · rw [t0, t1, t2, t3, t4, t5, t6, t7]; simp [h1]
theorem rpart_eq {n D : Int} (h : Fa n) (hD : 250000000000 ≤ D ∧ D ≤ 8000000000000) : ref04_Round_0 (IntKind.i64.wrap (n * 1000000000000)) D = ud n D := by
  unfold Fa at h
  have e : n * 1000000000000 = 1000000000000 * n := Int.mul_comm _ _
  rw [e, wrap_in (by omega), rround_eq (by omega) (by omega) (by omega)]
  rfl
theorem rum_eq {x y c f : Int} (h1 : Ga x) (h2 : Ga y) (h3 : Mo c) (h4 : Mo f) : ref04_Round_0 (IntKind.i64.wrap (0 - IntKind.i64.wrap (IntKind.i64.wrap (x * c) + IntKind.i64.wrap (y * f)))) 1000000 = um x y c f := by
  have b1 := gm_mul h1 h3
  have b2 := gm_mul h2 h4
  have e : IntKind.i64.wrap (0 - IntKind.i64.wrap (IntKind.i64.wrap (x * c) + IntKind.i64.wrap (y * f))) = -(x * c + y * f) := by
    simp (disch := omega) only [wrap_in]; omega
  rw [e, rrdm_eq (by omega)]
  rfl
theorem rundo (a b c d e f r : Int) : datum_Undo_0 a b c d e f r = ref04_Undo_0 a b c d e f r ∧ datum_Undo_1 a b c d e f r = ref04_Undo_1 a b c d e f r ∧ datum_Undo_2 a b c d e f r = ref04_Undo_2 a b c d e f r ∧ datum_Undo_3 a b c d e f r = ref04_Undo_3 a b c d e f r ∧
    datum_Undo_4 a b c d e f r = ref04_Undo_4 a b c d e f r ∧ datum_Undo_5 a b c d e f r = ref04_Undo_5 a b c d e f r ∧ datum_Undo_6 a b c d e f r = ref04_Undo_6 a b c d e f r ∧ datum_Undo_7 a b c d e f r = ref04_Undo_7 a b c d e f r := by
  unfold ref04_Undo_0 ref04_Undo_1 ref04_Undo_2 ref04_Undo_3 ref04_Undo_4 ref04_Undo_5 ref04_Undo_6 ref04_Undo_7
  rw [rdv_dec a b c d e f r]
  by_cases h1 : DV a b c d e f r
  · obtain ⟨hd0, hd1, hd2⟩ := dv_det h1
    have hd : ref04_Det_0 a b c d e f r = a * e - b * d := hd0
    have e0 : IntKind.i64.wrap (0 - b) = -b := by have := h1.2.1; rw [wrap_in (by omega)]; omega
    have e1 : IntKind.i64.wrap (0 - d) = -d := by have := h1.2.2.1; rw [wrap_in (by omega)]; omega
    have g1 := ud_bd h1.2.2.2.1 ⟨hd1, hd2⟩
    have g2 := ud_bd (fa_neg h1.2.1) ⟨hd1, hd2⟩
    have g3 := ud_bd (fa_neg h1.2.2.1) ⟨hd1, hd2⟩
    have g4 := ud_bd h1.1 ⟨hd1, hd2⟩
    rw [e0, e1, hd, rpart_eq h1.2.2.2.1 ⟨hd1, hd2⟩, rpart_eq (fa_neg h1.2.1) ⟨hd1, hd2⟩, rpart_eq (fa_neg h1.2.2.1) ⟨hd1, hd2⟩, rpart_eq h1.1 ⟨hd1, hd2⟩,
      rum_eq g1 g2 h1.2.2.2.2.2.1 h1.2.2.2.2.2.2.1, rum_eq g3 g4 h1.2.2.2.2.2.1 h1.2.2.2.2.2.2.1, rgrow1 g1 g2 g3 g4 h1.2.2.2.2.2.2.2]
    have gb := grow_bd (k := 1) g1 g2 g3 g4 h1.2.2.2.2.2.2.2 (by omega)
    rw [wrap_in (x := grow (ud e (a * e - b * d)) (ud (-b) (a * e - b * d)) (ud (-d) (a * e - b * d)) (ud a (a * e - b * d)) r 1 + 2) (by omega), rdv_dec]
    rcases undo_cases a b c d e f r with ⟨_, ht, t0, t1, t2, t3, t4, t5, t6, t7⟩ | ⟨_, ht, t0, t1, t2, t3, t4, t5, t6, t7⟩ | ⟨hn, _⟩
    · unfold UV at ht
      rw [t0, t1, t2, t3, t4, t5, t6, t7]; simp [h1, ht]
    · unfold UV at ht
      rw [t0, t1, t2, t3, t4, t5, t6, t7]; simp [h1, ht]
    · exact absurd h1 hn
  · rcases undo_cases a b c d e f r with ⟨k, _⟩ | ⟨k, _⟩ | ⟨_, t0, t1, t2, t3, t4, t5, t6, t7⟩
    · exact absurd k h1
    · exact absurd k h1
    · rw [t0, t1, t2, t3, t4, t5, t6, t7]; simp [h1]

theorem datumMatchesReference_true (a b c d e f r a' b' c' d' e' f' s p q x y l h l' h' : Int) : law04_DatumMatchesReference_0 a b c d e f r a' b' c' d' e' f' s p q x y l h l' h' = true := by
  unfold law04_DatumMatchesReference_0
  obtain ⟨f0, f1⟩ := rfits a b c d e f r p q x y
  obtain ⟨a0, a1, a2, a3, a4⟩ := rapply a b c d e f r p q
  obtain ⟨c0, c1, c2, c3, c4⟩ := rcarry a b c d e f r l h l' h'
  obtain ⟨b0, b1, b2, b3, b4⟩ := rback a b c d e f r l h l' h'
  obtain ⟨t0, t1, t2, t3, t4, t5, t6, t7⟩ := rthen a b c d e f r a' b' c' d' e' f' s
  obtain ⟨u0, u1, u2, u3, u4, u5, u6, u7⟩ := rundo a b c d e f r
  rw [head04, dvalid_dec, rdv_dec, ← f0, ← f1, ← a0, ← a1, ← a2, ← a3, ← a4, ← c0, ← c1, ← c2, ← c3, ← c4, ← b0, ← b1, ← b2, ← b3, ← b4, ← t0, ← t1, ← t2, ← t3, ← t4, ← t5, ← t6, ← t7, ← u0, ← u1, ← u2, ← u3, ← u4, ← u5, ← u6, ← u7]
  simp
end Go.Proofs.Ytbopeaebdlmapaa
