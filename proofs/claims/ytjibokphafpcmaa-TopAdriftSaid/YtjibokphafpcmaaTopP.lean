/-
  TopAdrift, as far as what the functions compute.
-/
import Derived.Test.YtjibokphafpcmaaDeskT
import Derived.Test.YtjibokphafpcmaaTop1D
set_option linter.unusedVariables false
set_option linter.unusedSimpArgs false
set_option linter.unusedSectionVars false
set_option maxRecDepth 100000
namespace Go.Proofs.Ytjibokphafpcmaa
open Go Go.Sy

/-- A loop that goes down. -/
theorem loop_down {step : List U → Option (Nat × List U)} (μ : List U → Nat) (Inv : List U → Prop) (Post : Nat × List U → Prop)
    (hs : ∀ xs, Inv xs → (∃ ys, step xs = some (0, ys) ∧ Inv ys ∧ μ ys < μ xs) ∨ ∃ m ys, step xs = some (m + 1, ys) ∧ Post (m + 1, ys)) {xs : List U} (h0 : Inv xs) : loopOk step xs ∧ Post (loopGet step xs) := by
  have key : ∀ k xs, μ xs ≤ k → Inv xs → ∃ n r, iterO step n xs = some r ∧ Post r := by
    intro k
    induction k with
    | zero =>
      intro xs hk hi
      rcases hs xs hi with ⟨ys, _, _, h3⟩ | ⟨m, ys, h1, h2⟩
      · omega
      · exact ⟨1, _, iter_out h1, h2⟩
    | succ k ih =>
      intro xs hk hi
      rcases hs xs hi with ⟨ys, h1, h2, h3⟩ | ⟨m, ys, h1, h2⟩
      · obtain ⟨n, r, h4, h5⟩ := ih ys (by omega) h2
        exact ⟨n + 1, r, iter_next h1 h4, h5⟩
      · exact ⟨1, _, iter_out h1, h2⟩
  obtain ⟨n, r, h1, h2⟩ := key (μ xs) xs (Nat.le_refl _) h0
  obtain ⟨h3, h4⟩ := loop_is h1
  exact ⟨h3, by rw [h4]; exact h2⟩

/-! ### the mooring -/
theorem sq_mono {a b : Int} (h0 : 0 ≤ a) (h : a ≤ b) : a * a ≤ b * b := Int.mul_le_mul h h h0 (by omega)
theorem sq_nn (z : Int) : 0 ≤ z * z := by
  rcases Int.le_total 0 z with h | h
  · exact Int.mul_nonneg h h
  · have := Int.mul_nonneg (show 0 ≤ -z by omega) (show 0 ≤ -z by omega)
    have e : (-z) * (-z) = z * z := by grind
    omega
theorem sq_le {a r : Int} (hr : 0 ≤ r) (h : a * a ≤ r * r) : -r ≤ a ∧ a ≤ r := by
  constructor
  · refine Int.not_lt.1 fun k => ?_
    have h1 : (r + 1) * (r + 1) ≤ (-a) * (-a) := sq_mono (by omega) (by omega)
    have h2 : (-a) * (-a) = a * a := by grind
    have h3 : (r + 1) * (r + 1) = r * r + 2 * r + 1 := by grind
    omega
  · refine Int.not_lt.1 fun k => ?_
    have h1 : (r + 1) * (r + 1) ≤ a * a := sq_mono (by omega) (by omega)
    have h3 : (r + 1) * (r + 1) = r * r + 2 * r + 1 := by grind
    omega
theorem sq_lt {a b : Int} (h0 : 0 ≤ a) (h : a ≤ b) : 100 * (a * a) ≤ 100 * (b * b) := by have := sq_mono h0 h; omega
def RAD (free r : Int) : Prop := 0 ≤ r ∧ r ≤ 100000 ∧ free ≤ 100 * (r * r) ∧ ∀ q, 0 ≤ q → q < r → 100 * (q * q) < free
theorem half {i j : Int} (h0 : 0 ≤ i) (h1 : i < j) (h2 : j ≤ 100000) :
    IntKind.i64.wrap ((IntKind.u64.wrap (IntKind.i64.wrap (i + j))).fdiv ((2 : Int) ^ min (Int.toNat (1 : Int)) IntKind.u64.bits)) = (i + j) / 2 := by
  have e1 : IntKind.i64.wrap (i + j) = i + j := i64_wrap (by omega)
  have e2 : IntKind.u64.wrap (i + j) = i + j := by
    unfold IntKind.wrap
    simp only [IntKind.signed, IntKind.bits]
    try simp
    omega
  have e3 : ((2 : Int) ^ min (Int.toNat (1 : Int)) IntKind.u64.bits) = 2 := by decide
  rw [e1, e2, e3, Int.fdiv_eq_ediv_of_nonneg _ (by decide)]
  exact i64_wrap (by omega)
theorem rad_is (x y d0 d1 c w0 w1 : Int) (hc : 0 ≤ c ∧ c ≤ 1000000) (hw : 0 ≤ w0 ∧ w0 ≤ 200000) :
    mooring_afloat_radius_pre x y d0 d1 c w0 w1 ∧ RAD (c * c - w0 * w0) (mooring_afloat_radius_0 x y d0 d1 c w0 w1) := by
  have hcc := Si.mul_bd (A := 1000000) (B := 1000000) (x := c) (n := c) (by omega) hc.2 (by omega) hc.2
  have hww := Si.mul_bd (A := 200000) (B := 200000) (x := w0) (n := w0) (by omega) hw.2 (by omega) hw.2
  have key := loop_down (step := mooring_afloat_radius_l0_step x y d0 d1 c w0 w1) (fun xs => (gi xs 1 - gi xs 0).toNat)
    (fun xs => ∃ i j, xs = [.i i, .i j] ∧ 0 ≤ i ∧ i ≤ j ∧ j ≤ 100000 ∧ (∀ q, 0 ≤ q → q < i → 100 * (q * q) < c * c - w0 * w0) ∧ (j = 100000 ∨ c * c - w0 * w0 ≤ 100 * (j * j)))
    (fun res => RAD (c * c - w0 * w0) (gi res.2 0))
    (fun xs ⟨i, j, e, h0, h1, h2, h3, h4⟩ => by
      subst e
      unfold mooring_afloat_radius_l0_step
      by_cases hij : i < j
      · left
        have hh := half h0 hij h2
        have b1 := Si.mul_bd (A := 100000) (B := 100000) (x := (i + j) / 2) (n := (i + j) / 2) (by omega) (by omega) (by omega) (by omega)
        have e0 : mooring_afloat_radius_s0 x y d0 d1 c w0 w1 [.i i, .i j] = 100 * ((i + j) / 2 * ((i + j) / 2)) := by
          unfold mooring_afloat_radius_s0
          simp only [gi_z, gi_1]
          rw [hh, i64_wrap (by omega)]
          grind
        rw [e0]
        simp only [gi_z, gi_1]
        rw [hh, decide_eq_true hij, cond_true, guardP_pos (by decide), i64_wrap (x := 100 * ((i + j) / 2 * ((i + j) / 2))) (by omega), i64_wrap (x := c * c) (by omega), i64_wrap (x := w0 * w0) (by omega), i64_wrap (x := c * c - w0 * w0) (by omega), i64_wrap (x := (i + j) / 2 + 1) (by omega)]
        by_cases hg : 100 * ((i + j) / 2 * ((i + j) / 2)) ≥ c * c - w0 * w0
        · rw [decide_eq_true hg, Bool.not_true, cond_false]
          refine ⟨_, rfl, ⟨i, (i + j) / 2, rfl, h0, by omega, by omega, h3, .inr hg⟩, ?_⟩
          simp only [gi_z, gi_1]
          omega
        · rw [decide_eq_false hg, Bool.not_false, cond_true]
          refine ⟨_, rfl, ⟨(i + j) / 2 + 1, j, rfl, by omega, by omega, h2, fun q q0 q1 => ?_, h4⟩, ?_⟩
          · have := sq_lt q0 (show q ≤ (i + j) / 2 by omega)
            omega
          · simp only [gi_z, gi_1]
            omega
      · right
        have e : i = j := by omega
        subst e
        refine ⟨2, [.i i, .i i], ?_, ?_⟩
        · simp only [gi_z, gi_1]
          rw [decide_eq_false hij, cond_false]
        · show RAD _ (gi [U.i i, U.i i] 0)
          rw [gi_z]
          refine ⟨h0, h2, ?_, h3⟩
          rcases h4 with h4 | h4
          · have := sq_nn w0
            subst h4; omega
          · exact h4)
    (xs := mooring_afloat_radius_l0_init x y d0 d1 c w0 w1) ⟨0, 100000, rfl, by omega, by omega, by omega, fun q q0 q1 => by omega, .inl rfl⟩
  exact ⟨key.1, key.2⟩
def MV (x y d0 d1 c : Int) : Prop := Si.Pt x y ∧ (0 ≤ d0 ∧ d0 ≤ d1 ∧ d1 ≤ 100000) ∧ 0 ≤ c ∧ c ≤ 1000000
instance (x y d0 d1 c : Int) : Decidable (MV x y d0 d1 c) := by unfold MV; infer_instance
def HT (t0 t1 : Int) : Prop := -100000 ≤ t0 ∧ t0 ≤ t1 ∧ t1 ≤ 100000
instance (t0 t1 : Int) : Decidable (HT t0 t1) := by unfold HT; infer_instance
theorem ht_is (t0 t1 : Int) : mooring_isHeights_0 t0 t1 = decide (HT t0 t1) := by
  unfold mooring_isHeights_0 mooring_within_0
  rw [span_valid_eq, Bool.eq_iff_iff, decide_eq_true_eq]
  unfold HT
  simp only [Bool.and_eq_true, decide_eq_true_eq]
  omega
theorem mv_is (x y d0 d1 c : Int) : mooring_Valid_0 x y d0 d1 c = decide (MV x y d0 d1 c) := by
  unfold mooring_Valid_0 mooring_isDepths_0 mooring_within_0
  rw [Si.plane_dec, span_valid_eq, Bool.eq_iff_iff, decide_eq_true_eq]
  unfold MV
  simp only [Bool.and_eq_true, decide_eq_true_eq]
  by_cases h : Si.Pt x y
  · simp only [h, true_and]; omega
  · simp only [h, false_and]
def mbx (x y r : Int) : List Int := [x - r, x + r, y - r, y + r]
theorem grow_is (x y r : Int) (hp : Si.Pt x y) (hr : 0 ≤ r ∧ r ≤ 100000) :
    span_GrowBox_4 x x y y r = (if VB (mbx x y r) then 0 else 3) ∧ (VB (mbx x y r) → span_GrowBox_0 x x y y r = x - r ∧ span_GrowBox_1 x x y y r = x + r ∧ span_GrowBox_2 x x y y r = y - r ∧ span_GrowBox_3 x x y y r = y + r) := by
  have hp' := hp
  unfold Si.Pt at hp
  have v1 : span_ValidBox_0 x x y y = true := (vb_eq [x, x, y, y]).trans (decide_eq_true (by unfold VB; simp only [List.getD_cons_zero, List.getD_cons_succ]; omega))
  have v2 : span_ValidBox_0 (x - r) (x + r) (y - r) (y + r) = decide (VB (mbx x y r)) := vb_eq (mbx x y r)
  have w1 : IntKind.i64.wrap (x - r) = x - r := i64_wrap (by omega)
  have w2 : IntKind.i64.wrap (x + r) = x + r := i64_wrap (by omega)
  have w3 : IntKind.i64.wrap (y - r) = y - r := i64_wrap (by omega)
  have w4 : IntKind.i64.wrap (y + r) = y + r := i64_wrap (by omega)
  have n1 : decide (r < 0) = false := decide_eq_false (by omega)
  have n2 : decide (r > 3000000) = false := decide_eq_false (by omega)
  unfold span_GrowBox_4 span_GrowBox_0 span_GrowBox_1 span_GrowBox_2 span_GrowBox_3 span_GrowBox_s0 span_GrowBox_s1 span_GrowBox_s2 span_GrowBox_s3 span_GrowBox_s4
  rw [v1, w1, w2, w3, w4, v2, n1, n2]
  by_cases h : VB (mbx x y r)
  · rw [decide_eq_true h, if_pos h]
    exact ⟨rfl, fun _ => ⟨rfl, rfl, rfl, rfl⟩⟩
  · rw [decide_eq_false h, if_neg h]
    exact ⟨rfl, fun k => absurd k h⟩
theorem mbox_is (x y d0 d1 c t0 t1 : Int) : mooring_Box_pre x y d0 d1 c t0 t1 ∧
    ((mooring_Box_4 x y d0 d1 c t0 t1 ≠ 0 ∧ ¬ (MV x y d0 d1 c ∧ HT t0 t1 ∧ max 0 (d1 + t1) ≤ c)) ∨
     (MV x y d0 d1 c ∧ HT t0 t1 ∧ ∃ r, RAD (c * c - max 0 (d0 + t0) * max 0 (d0 + t0)) r ∧ mooring_Box_4 x y d0 d1 c t0 t1 = (if VB (mbx x y r) then 0 else 3) ∧
       (VB (mbx x y r) → mooring_Box_0 x y d0 d1 c t0 t1 = x - r ∧ mooring_Box_1 x y d0 d1 c t0 t1 = x + r ∧ mooring_Box_2 x y d0 d1 c t0 t1 = y - r ∧ mooring_Box_3 x y d0 d1 c t0 t1 = y + r))) := by
  unfold mooring_Box_pre mooring_Box_4 mooring_Box_0 mooring_Box_1 mooring_Box_2 mooring_Box_3 mooring_Radius_pre mooring_Radius_1 mooring_Radius_0 mooring_Radius_s0 mooring_in_0 mooring_in_1 mooring_in_2 mooring_in_3 mooring_in_4 mooring_in_5 mooring_in_6
  rw [mv_is, ht_is]
  by_cases h1 : MV x y d0 d1 c
  · by_cases h2 : HT t0 t1
    · rw [decide_eq_true h1, decide_eq_true h2]
      have e5 : imax 0 (IntKind.i64.wrap (d0 + t0)) = max 0 (d0 + t0) := by unfold MV HT at *; rw [i64_wrap (by omega), imax_max]
      have e6 : imax 0 (IntKind.i64.wrap (d1 + t1)) = max 0 (d1 + t1) := by unfold MV HT at *; rw [i64_wrap (by omega), imax_max]
      rw [e5, e6]
      by_cases h3 : c < max 0 (d1 + t1)
      · rw [decide_eq_true h3]
        exact ⟨fun _ k => (by cases k), .inl ⟨fun k => absurd (show (6 : Int) = 0 from k) (by decide), fun k => by omega⟩⟩
      · rw [decide_eq_false h3]
        obtain ⟨r1, r2⟩ := rad_is x y d0 d1 c (max 0 (d0 + t0)) (max 0 (d1 + t1)) (by unfold MV at h1; omega) (by unfold MV HT at *; omega)
        refine ⟨fun _ _ => r1, .inr ⟨h1, h2, _, r2, ?_⟩⟩
        exact grow_is x y _ h1.1 ⟨r2.1, r2.2.1⟩
    · rw [decide_eq_true h1, decide_eq_false h2]
      exact ⟨fun k => (by cases k), .inl ⟨fun k => absurd (show (1 : Int) = 0 from k) (by decide), fun k => h2 k.2.1⟩⟩
  · rw [decide_eq_false h1]
    exact ⟨fun k => (by cases k), .inl ⟨by simp, fun k => h1 k.1⟩⟩
theorem holds_box {x y d0 d1 c t0 t1 h px py r : Int} (hh : t0 ≤ h ∧ h ≤ t1) (h1 : mooring_Holds_1 x y d0 d1 c h px py = 0) (h2 : mooring_Holds_0 x y d0 d1 c h px py = true) (hr : RAD (c * c - max 0 (d0 + t0) * max 0 (d0 + t0)) r) : VP px py ∧ HB px py (mbx x y r) := by
  unfold mooring_Holds_1 at h1
  unfold mooring_Holds_0 at h2
  rw [mv_is, ht_is, Si.plane_dec] at h1 h2
  by_cases k1 : MV x y d0 d1 c
  · by_cases k2 : HT h h
    · by_cases k3 : Si.Pt px py
      · rw [decide_eq_true k1, decide_eq_true k2, decide_eq_true k3] at h2
        refine ⟨k3, ?_⟩
        unfold mooring_afloat_has_0 mooring_in_4 mooring_in_5 at h2
        unfold MV HT Si.Pt at *
        obtain ⟨r0, _, r1, _⟩ := hr
        have w1 : IntKind.i64.wrap (px - x) = px - x := i64_wrap (by omega)
        have w2 : IntKind.i64.wrap (py - y) = py - y := i64_wrap (by omega)
        have w3 : imax 0 (IntKind.i64.wrap (d0 + h)) = max 0 (d0 + h) := by rw [i64_wrap (by omega), imax_max]
        rw [w1, w2, w3] at h2
        have b1 := Si.mul_bd (A := 2000000) (B := 2000000) (x := px - x) (n := px - x) (by omega) (by omega) (by omega) (by omega)
        have b2 := Si.mul_bd (A := 2000000) (B := 2000000) (x := py - y) (n := py - y) (by omega) (by omega) (by omega) (by omega)
        have b3 := Si.mul_bd (A := 200000) (B := 200000) (x := max 0 (d0 + h)) (n := max 0 (d0 + h)) (by omega) (by omega) (by omega) (by omega)
        have b4 := Si.mul_bd (A := 1000000) (B := 1000000) (x := c) (n := c) (by omega) (by omega) (by omega) (by omega)
        have s1 : max 0 (d0 + t0) * max 0 (d0 + t0) ≤ max 0 (d0 + h) * max 0 (d0 + h) := sq_mono (by omega) (by omega)
        have p1 : 0 ≤ (px - x) * (px - x) := by
          have := sq_nn (px - x); exact this
        have p2 : 0 ≤ (py - y) * (py - y) := by
          have := sq_nn (py - y); exact this
        have h3 : 100 * ((px - x) * (px - x) + (py - y) * (py - y)) + max 0 (d0 + h) * max 0 (d0 + h) ≤ c * c := by
          have := h2
          simp only [Bool.not_true, Bool.or_false, cond_false, decide_eq_true_eq] at this
          rw [i64_wrap (x := (px - x) * (px - x)) (by omega), i64_wrap (x := (py - y) * (py - y)) (by omega), i64_wrap (x := (px - x) * (px - x) + (py - y) * (py - y)) (by omega), i64_wrap (x := 100 * ((px - x) * (px - x) + (py - y) * (py - y))) (by omega), i64_wrap (x := max 0 (d0 + h) * max 0 (d0 + h)) (by omega), i64_wrap (x := c * c) (by omega), i64_wrap (by omega)] at this
          exact this
        have q1 := sq_le r0 (show (px - x) * (px - x) ≤ r * r by omega)
        have q2 := sq_le r0 (show (py - y) * (py - y) ≤ r * r by omega)
        unfold HB mbx
        simp only [List.getD_cons_zero, List.getD_cons_succ]
        omega
      · rw [decide_eq_true k1, decide_eq_true k2, decide_eq_false k3] at h1; cases h1
    · rw [decide_eq_true k1, decide_eq_false k2] at h1; cases h1
  · rw [decide_eq_false k1] at h1; cases h1

/-! ### a track that is told -/
def tb (c wr tr : List (List Int)) : List (List Int) → Nat → Int → Bool → Bool
  | [], _, _, t => t
  | r :: rs, i, at_, t => tb c wr tr rs (i + 1) (r.getD 2 0) (t && allE at_ (r.getD 2 0) (pX tr i) (pY tr i) (pX tr (i + 1)) (pY tr (i + 1)) c == 0 && decide (allB at_ (r.getD 2 0) (pX tr i) (pY tr i) (pX tr (i + 1)) (pY tr (i + 1)) c) && decide (RVr r ∧ Si.Pt (pX tr (i + 1)) (pY tr (i + 1))) && (decide (seesP r (pX tr (i + 1)) (pY tr (i + 1))) || isW wr i))
theorem tb_cons (c wr tr : List (List Int)) (r : List Int) (rs : List (List Int)) (i : Nat) (at_ : Int) (t : Bool) : tb c wr tr (r :: rs) i at_ t = tb c wr tr rs (i + 1) (r.getD 2 0) (t && allE at_ (r.getD 2 0) (pX tr i) (pY tr i) (pX tr (i + 1)) (pY tr (i + 1)) c == 0 && decide (allB at_ (r.getD 2 0) (pX tr i) (pY tr i) (pX tr (i + 1)) (pY tr (i + 1)) c) && decide (RVr r ∧ Si.Pt (pX tr (i + 1)) (pY tr (i + 1))) && (decide (seesP r (pX tr (i + 1)) (pY tr (i + 1))) || isW wr i)) := rfl
theorem tb_true {c wr tr : List (List Int)} : ∀ (rs : List (List Int)) (i : Nat) (at_ : Int) (t : Bool), tb c wr tr rs i at_ t = true → t = true
  | [], _, _, _, h => h
  | r :: rs, i, at_, t, h => by
    have := tb_true rs _ _ _ h
    simp only [Bool.and_eq_true] at this
    exact this.1.1.1.1
theorem tb_ck {c wr tr : List (List Int)} : ∀ (rs : List (List Int)) (i : Nat) (at_ : Int) (t u : Bool), tb c wr tr rs i at_ t = true → ck c wr tr rs i at_ u = (0, u)
  | [], _, _, _, _, _ => rfl
  | r :: rs, i, at_, t, u, h => by
    have h1 := tb_true rs _ _ _ h
    simp only [Bool.and_eq_true, beq_iff_eq] at h1
    obtain ⟨⟨⟨⟨_, h2⟩, h3⟩, h4⟩, h5⟩ := h1
    rw [ck_cons, if_neg (fun k => k h2), h3, h4, h5, Bool.and_true, Bool.and_true, Bool.and_true]
    exact tb_ck rs _ _ _ u h
section
variable (x y d0 d1 c h f : Int) (fc rp wr tr : List (List Int))
theorem told_l1 (hw : wr.length ≤ 9223372036854775807) (y0 : List U) : loopOk (top_told25r14_l1_step x y d0 d1 c h f fc rp wr tr y0) (top_told25r14_l1_init x y d0 d1 c h f fc rp wr tr y0) ∧ gb (top_told25r14_l1 x y d0 d1 c h f fc rp wr tr y0).2 0 = isW wr (gi y0 2) := by
  have key := loop_fold (σ := Bool) (step := top_told25r14_l1_step x y d0 d1 c h f fc rp wr tr y0) wr.length (fun j s => [.b s, .i (j : Int)]) (fun j s => s || (wr.getD j []).getD 0 0 == gi y0 2) (fun _ _ => True) 1 (fun s => [.b s, .i wr.length])
    (fun _ _ _ _ => trivial)
    (fun j s hj _ => by
      unfold top_told25r14_l1_step
      simp only [gb_z, gi_1, gi_z, dlt hj, guardP_pos (inR_of hj), Int.toNat_natCast, wrap_succ' (show j < 9223372036854775807 by omega)])
    (fun s _ => by
      unfold top_told25r14_l1_step
      simp only [gb_z, gi_1, gi_z, dnlt])
    (s := false) trivial
  refine ⟨key.1, ?_⟩
  have e : top_told25r14_l1 x y d0 d1 c h f fc rp wr tr y0 = _ := key.2.1
  rw [e]
  simp only [gb_z]
  rw [Si.upto_any wr (gi y0 2) wr.length (Nat.le_refl _), List.take_length, isW_any]
theorem told_l0 (hf : fc.length ≤ 9223372036854775807) (hn : rp.length ≤ 8) (hw : wr.length ≤ 9223372036854775807) (ht : tr.length = rp.length + 1) (b : Bool) (hb : top_told25r14_l0_init x y d0 d1 c h f fc rp wr tr = [.b b, .i f, .i 0]) :
    loopOk (top_told25r14_l0_step x y d0 d1 c h f fc rp wr tr) (top_told25r14_l0_init x y d0 d1 c h f fc rp wr tr) ∧ gb (top_told25r14_l0 x y d0 d1 c h f fc rp wr tr).2 0 = tb fc wr tr rp 0 f b := by
  refine loop_for (step := top_told25r14_l0_step x y d0 d1 c h f fc rp wr tr) rp.length (fun j xs => ∃ t at_, xs = [.b t, .i at_, .i (j : Int)] ∧ tb fc wr tr rp 0 f b = tb fc wr tr (rp.drop j) j at_ t)
    (fun res => gb res.2 0 = tb fc wr tr rp 0 f b)
    (fun j xs hj ⟨t, at_, e, hk⟩ => ?_) (fun xs ⟨t, at_, e, hk⟩ => ?_) (xs := top_told25r14_l0_init x y d0 d1 c h f fc rp wr tr) ⟨b, f, hb, rfl⟩
  · subst e
    left
    rw [drop_cons1 hj, tb_cons] at hk
    have w1 := wrap_succ (show j < 4611686018427387904 by omega)
    obtain ⟨a1, a2, a3⟩ := allows_is at_ ((rp.getD j []).getD 2 0) (pX tr j) (pY tr j) (pX tr (j + 1)) (pY tr (j + 1)) fc hf
    obtain ⟨l1, l2⟩ := told_l1 x y d0 d1 c h f fc rp wr tr hw [.b t, .i at_, .i (j : Int)]
    have eg : gi [U.b t, U.i at_, U.i (j : Int)] 2 = (j : Int) := by rw [gi_2, gi_z]
    have eg1 : gi [U.b t, U.i at_, U.i (j : Int)] 1 = at_ := by rw [gi_1, gi_z]
    have e_0 : top_told25r14_s0 x y d0 d1 c h f fc rp wr tr [.b t, .i at_, .i (j : Int)] = allE at_ ((rp.getD j []).getD 2 0) (pX tr j) (pY tr j) (pX tr (j + 1)) (pY tr (j + 1)) fc := by
      unfold top_told25r14_s0; rw [eg, eg1, w1, Int.toNat_natCast, Int.toNat_natCast]; exact a2
    have e_1 : top_told25r14_s1 x y d0 d1 c h f fc rp wr tr [.b t, .i at_, .i (j : Int)] = if RVr (rp.getD j []) ∧ Si.Pt (pX tr (j + 1)) (pY tr (j + 1)) then 0 else 1 := by
      unfold top_told25r14_s1; rw [eg, w1, Int.toNat_natCast, Int.toNat_natCast]; exact Si.allows_err _ _ _ _ _ _ _ _ _ _ _ _ _ _ _
    unfold top_told25r14_l0_step
    rw [l2, e_0, e_1]
    simp only [eg, eg1]
    rw [guardP_pos l1]
    rw [Si.allows_dec]
    have a1' : drift_Allows_pre at_ ((rp.getD j []).getD 2 0) ((tr.getD j []).getD 0 0) ((tr.getD j []).getD 1 0) ((tr.getD (j + 1) []).getD 0 0) ((tr.getD (j + 1) []).getD 1 0) fc := a1
    have a3' : drift_Allows_0 at_ ((rp.getD j []).getD 2 0) ((tr.getD j []).getD 0 0) ((tr.getD j []).getD 1 0) ((tr.getD (j + 1) []).getD 0 0) ((tr.getD (j + 1) []).getD 1 0) fc = _ := a3
    simp only [gb_z, dlt hj, guardP_pos (inR_of hj), w1, Int.toNat_natCast, guardP_pos (inR_of (show j < tr.length by omega)), guardP_pos (inR_of (show j + 1 < tr.length by omega)), guardP_pos a1', a3']
    refine ⟨_, rfl, _, _, rfl, ?_⟩
    rw [hk]
    congr 1
    by_cases h5 : RVr (rp.getD j []) ∧ Si.Pt (pX tr (j + 1)) (pY tr (j + 1))
    · rw [if_pos h5, decide_eq_true h5]
      have : decide (Si.RV ((rp.getD j []).getD 0 0) ((rp.getD j []).getD 1 0) ((rp.getD j []).getD 2 0) ((rp.getD j []).getD 3 0) ((rp.getD j []).getD 4 0) ((rp.getD j []).getD 5 0) ((rp.getD j []).getD 6 0) ((rp.getD j []).getD 7 0) ((rp.getD j []).getD 8 0) ((rp.getD j []).getD 9 0) ((rp.getD j []).getD 10 0) ((rp.getD j []).getD 11 0) ((rp.getD j []).getD 12 0) ∧ Si.Pt ((tr.getD (j + 1) []).getD 0 0) ((tr.getD (j + 1) []).getD 1 0) ∧ Si.Sees ((rp.getD j []).getD 4 0) ((rp.getD j []).getD 5 0) ((rp.getD j []).getD 6 0) ((rp.getD j []).getD 7 0) ((rp.getD j []).getD 8 0) ((rp.getD j []).getD 9 0) ((rp.getD j []).getD 10 0) ((rp.getD j []).getD 11 0) ((rp.getD j []).getD 12 0) ((tr.getD (j + 1) []).getD 0 0) ((tr.getD (j + 1) []).getD 0 0) ((tr.getD (j + 1) []).getD 1 0) ((tr.getD (j + 1) []).getD 1 0)) = decide (seesP (rp.getD j []) (pX tr (j + 1)) (pY tr (j + 1))) := by
        rw [decide_eq_decide]
        exact ⟨fun k => k.2.2, fun k => ⟨h5.1, h5.2, k⟩⟩
      rw [this]
      rfl
    · rw [if_neg h5, decide_eq_false h5]
      simp
  · subst e
    refine ⟨1, [.b t, .i at_, .i rp.length], ?_, ?_⟩
    · unfold top_told25r14_l0_step
      simp only [gb_z, gi_2, gi_1, gi_z, dnlt]
    · rw [hk, List.drop_length, gb_z]
      rfl
theorem told_is (hf : fc.length ≤ 9223372036854775807) (hn : rp.length ≤ 8) (hw : wr.length ≤ 9223372036854775807) :
    top_told25r14_pre x y d0 d1 c h f fc rp wr tr ∧ (top_told25r14_0 x y d0 d1 c h f fc rp wr tr = true → tr.length = rp.length + 1 ∧ mooring_Holds_1 x y d0 d1 c h (pX tr 0) (pY tr 0) = 0 ∧ mooring_Holds_0 x y d0 d1 c h (pX tr 0) (pY tr 0) = true ∧ tb fc wr tr rp 0 f true = true) := by
  unfold top_told25r14_pre top_told25r14_0
  have wl : IntKind.i64.wrap ((rp.length : Int) + 1) = ((rp.length + 1 : Nat) : Int) := wrap_succ (by omega)
  rw [wl]
  by_cases ht : tr.length = rp.length + 1
  · have b1 : ((tr.length : Int) != ((rp.length + 1 : Nat) : Int)) = false := by rw [bne_eq_false_iff_eq, ht]
    rw [b1, cond_false]
    have hr : inR (0 : Int) tr := by unfold inR; omega
    obtain ⟨l1, l2⟩ := told_l0 x y d0 d1 c h f fc rp wr tr hf hn hw ht (mooring_Holds_1 x y d0 d1 c h (pX tr 0) (pY tr 0) == 0 && mooring_Holds_0 x y d0 d1 c h (pX tr 0) (pY tr 0)) rfl
    refine ⟨fun _ => ⟨hr, hr, l1⟩, fun k => ?_⟩
    rw [l2] at k
    have k1 := tb_true _ _ _ _ k
    rw [k1] at k
    rw [Bool.and_eq_true, beq_iff_eq] at k1
    exact ⟨ht, k1.1, k1.2, k⟩
  · have b1 : ((tr.length : Int) != ((rp.length + 1 : Nat) : Int)) = true := by rw [bne_iff_ne]; omega
    rw [b1, cond_true]
    exact ⟨fun k => (by cases k), fun k => (by cases k)⟩
end

/-! ### the desk -/
section
variable {f : Int} {base fc rp wr tr : List (List Int)}
theorem ch_top (ht : tb fc wr tr rp 0 f true = true) (hv : VP (pX tr 0) (pY tr 0)) (h0 : ∃ b ∈ base, HB (pX tr 0) (pY tr 0) b) : (chX f base fc rp wr tr).1 = 1 ∨ (chX f base fc rp wr tr).1 = 5 ∨ chX f base fc rp wr tr = (0, true) := by
  unfold chX
  split
  · exact .inl rfl
  · rename_i h1
    split
    · rename_i h2
      right; left
      rcases sv_cases f base fc rp with ⟨e, _⟩ | ⟨e, _⟩ | ⟨e, _⟩
      · exact absurd (.inl e) h1
      · exact e
      · exact absurd e h2
    · rename_i h2
      right; right
      rw [tb_ck _ _ _ _ _ ht]
      have hvl : VL base := by
        rcases sv_cases f base fc rp with ⟨e, _⟩ | ⟨_, g, _⟩ | ⟨_, g, _⟩
        · exact absurd (.inl e) h1
        · exact g.vl
        · exact g.vl
      rw [decide_eq_true]
      refine ⟨?_, h0⟩
      unfold inE
      rw [if_neg (fun k => by rcases k with k | k; exact k hvl; exact k hv)]
theorem wh_top (h13 : Si.El13 rp) (hf : fc.length ≤ 9223372036854775807) (T : Told f base fc rp wr tr) (hn : rp.length ≤ 12) (h1 : ∀ e ∈ wr, e.length = 1) (m3 : wr.length ≤ 3) :
    desk_Where_pre f (wr.length : Int) base fc rp ∧ (desk_Where_4 f (wr.length : Int) base fc rp = 3 ∨
    (desk_Where_4 f (wr.length : Int) base fc rp = 0 ∧ VB [desk_Where_0 f (wr.length : Int) base fc rp, desk_Where_1 f (wr.length : Int) base fc rp, desk_Where_2 f (wr.length : Int) base fc rp, desk_Where_3 f (wr.length : Int) base fc rp] ∧
      HB (pX tr rp.length) (pY tr rp.length) [desk_Where_0 f (wr.length : Int) base fc rp, desk_Where_1 f (wr.length : Int) base fc rp, desk_Where_2 f (wr.length : Int) base fc rp, desk_Where_3 f (wr.length : Int) base fc rp] ∧ (exR f (wr.length : Int) base fc rp).2.2 = 0 ∧ (exR f (wr.length : Int) base fc rp).1.length ≤ wr.length)) := by
  have ha : askE f (wr.length : Int) base fc rp = 0 := ask_of T.sv (by omega) (by omega) hn
  have hin : wr ∈ alls rp.length ((wr.length : Int).toNat + 1) := in_alls h1 T.wb (by omega)
  obtain ⟨hp, hcase⟩ := where_is f (wr.length : Int) base fc rp h13 hf
  refine ⟨hp, ?_⟩
  rcases hcase with ⟨k, _⟩ | ⟨_, w, k1, k2, k3⟩ | ⟨_, k1, k2, _⟩ | ⟨_, k1, k2, k3, k4, k5, k6, k7⟩
  · exact absurd ha k
  · left
    rw [k3]
    rcases cv_lg fc w rp 0 base f (tl_cv rp 0 f T.tl) with k | k | k
    · exact absurd (.inl k) k2
    · exact k
    · exact absurd (.inr k) k2
  all_goals
    have hok := k1 wr hin
    rcases told_in T with k | ⟨k, _, _, b, hb, hB⟩
    · have k' : (lw f base fc rp wr).1 = 3 := k
      rw [k'] at hok
      exact absurd hok (by decide)
    have hm : b ∈ (alls rp.length ((wr.length : Int).toNat + 1)).flatMap fun w => (lw f base fc rp w).2 := List.mem_flatMap.2 ⟨wr, hin, hb⟩
  · rw [k2] at hm; cases hm
  · right
    have hH := hb_wb hB (hull_ge hm)
    have hV : VB (hull ((alls rp.length ((wr.length : Int).toNat + 1)).flatMap fun w => (lw f base fc rp w).2)) := vb_hull k2 (fun b hb => by
      obtain ⟨w, _, hb⟩ := List.mem_flatMap.1 hb
      exact lw_vb T.gs b hb)
    rw [k4, k5, k6, k7]
    refine ⟨k3, hV, hH, ?_⟩
    rcases told_ex (most := (wr.length : Int)) T hn h1 (by omega) (by omega) (Int.le_refl _) with k | k
    · exact k
    · exfalso
      unfold exR at k
      rw [ha, if_neg (by decide)] at k
      cases hF : (alls rp.length ((wr.length : Int).toNat + 1)).find? (fun w => (lw f base fc rp w).1 != 18) with
      | none => rw [hF] at k; cases k
      | some w =>
        rw [hF] at k
        simp only at k
        have hw := k1 w (List.mem_of_find?_eq_some hF)
        by_cases h0 : (lw f base fc rp w).1 = 0
        · rw [if_neg (fun kk => kk h0)] at k; cases k
        · rw [if_pos h0] at k
          have k' : (lw f base fc rp w).1 = 3 := k
          rw [k'] at hw
          exact absurd hw (by decide)
end
theorem inBox_err {x y : Int} {b : List Int} (hp : VP x y) (hb : VB b) : span_InBox_1 x y (b.getD 0 0) (b.getD 1 0) (b.getD 2 0) (b.getD 3 0) = 0 := by
  have := (join_is (a := [x, x, y, y]) (b := b) (by unfold VB VP at *; simp only [List.getD_cons_zero, List.getD_cons_succ]; omega) hb).1
  exact this

/-! ### the example at the head -/
def tB : List (List Int) := [[-4, 4, -4, 4]]
def tF : List (List Int) := [[0, 100, 100, 200, 0, 0]]
def tR1 : List (List Int) := [[1, 1, 50, 1, 70, 70, 0, 0, -1, 1, -1, -1, 20]]
def tT : List (List Int) := [[4, 0], [60, 0]]
theorem t_box : mooring_Box_pre 0 0 30 40 50 0 0 ∧ mooring_Box_4 0 0 30 40 50 0 0 = 0 ∧ mooring_Box_0 0 0 30 40 50 0 0 = -4 ∧ mooring_Box_1 0 0 30 40 50 0 0 = 4 ∧ mooring_Box_2 0 0 30 40 50 0 0 = -4 ∧ mooring_Box_3 0 0 30 40 50 0 0 = 4 := by
  obtain ⟨h1, h2⟩ := mbox_is 0 0 30 40 50 0 0
  refine ⟨h1, ?_⟩
  rcases h2 with ⟨_, k⟩ | ⟨_, _, r, ⟨r0, r1, r2, r3⟩, k1, k2⟩
  · exact absurd (by decide) k
  · have e : r = 4 := by
      have a1 : ¬ 4 < r := fun k => by have := r3 4 (by decide) k; exact absurd this (by decide)
      have a2 : ¬ r ≤ 3 := fun k => by
        have := sq_mono r0 k
        have e2 : (max 0 (30 + 0) : Int) = 30 := by decide
        rw [e2] at r2
        omega
      omega
    subst e
    rw [if_pos (by decide)] at k1
    exact ⟨k1, k2 (by decide)⟩
theorem t13 : Si.El13 tR1 := h13_of (by decide +kernel)
theorem tgs : GS 0 tB tF tR1 := ⟨by decide +kernel, by decide +kernel, by decide, by decide +kernel, by decide, by decide⟩
theorem tsv : svE 0 tB tF tR1 = 0 := by
  rcases sv_cases 0 tB tF tR1 with ⟨_, k⟩ | ⟨_, g, k⟩ | ⟨e, _⟩
  · exact absurd tgs k
  · rw [merge_len t13 g.rv g.ln] at k; exact absurd k (by decide +kernel)
  · exact e
theorem t_fo : desk_Follow_pre 0 tB tF tR1 [] ∧ desk_Follow_1 0 tB tF tR1 [] = 0 ∧ desk_Follow_0 0 tB tF tR1 [] = [[50, 70, -4, 4]] := by
  obtain ⟨h1, h2, h3⟩ := follow_is 0 tB tF tR1 [] t13 (by decide) (by decide)
  obtain ⟨x1, x2⟩ := fE_ok (wr := []) tsv (by decide)
  exact ⟨h1, (h2.trans x1).trans (by decide +kernel), (h3.trans x2).trans (by decide +kernel)⟩
theorem t_ch : desk_Check_pre 0 tB tF tR1 [] tT ∧ desk_Check_1 0 tB tF tR1 [] tT = 0 ∧ desk_Check_0 0 tB tF tR1 [] tT = true := by
  obtain ⟨k1, k2, k3⟩ := check_is 0 tB tF tR1 [] tT t13 (by decide) (by decide)
  have h2 : ck tF [] tT tR1 0 0 (decide (inB (pX tT 0) (pY tT 0) tB)) = (0, true) := by decide +kernel
  have e : chX 0 tB tF tR1 [] tT = (0, true) := by
    unfold chX
    rw [tsv, if_neg (by decide +kernel), if_neg (by decide), h2]
  rw [e] at k2 k3
  exact ⟨k1, k2, k3⟩
theorem t_head : top_head25r14_0 = true ∧ top_head25r14_pre := by
  obtain ⟨b, b4, b0, b1, b2, b3⟩ := t_box
  obtain ⟨p, p1, p0⟩ := t_fo
  obtain ⟨q, q1, q0⟩ := t_ch
  have e1 : [top_head25r14_s1] = tB := by unfold top_head25r14_s1 top_head25r14_s0; rw [b0, b1, b2, b3]; rfl
  have e2 : [(1 : Int) :: (1 : Int) :: (50 : Int) :: top_head25r14_s2] = tR1 := rfl
  have e3 : top_head25r14_s3 = 0 := by unfold top_head25r14_s3; rw [e1, e2]; exact p1
  have e4 : top_head25r14_s4 = 0 := by unfold top_head25r14_s4; rw [e1, e2]; exact q1
  have e5 : top_head25r14_s5 = [[50, 70, -4, 4]] := by unfold top_head25r14_s5; rw [e1, e2]; exact p0
  have q0' : desk_Check_0 (0 : Int) tB [[(0 : Int), (100 : Int), (100 : Int), (200 : Int), (0 : Int), (0 : Int)]] tR1 [] [[(4 : Int), (0 : Int)], [(60 : Int), (0 : Int)]] = true := q0
  constructor
  · unfold top_head25r14_0
    rw [b4, e3, e4, e5, e1, e2, q0']
    decide
  · unfold top_head25r14_pre
    rw [b4, e3, e4, e5, e1, e2]
    have hr : inR (0 : Int) [[(50 : Int), 70, -4, 4]] := by unfold inR; decide
    exact ⟨b, p, q, fun _ => ⟨fun _ => hr, fun _ => hr⟩⟩
set_option maxHeartbeats 4000000 in
theorem topAdrift_ok (x y d0 d1 c t0 t1 h f : Int) (fc rp wr tr : List (List Int)) (h13 : Si.El13 rp) (hf : fc.length ≤ 9223372036854775807) (hw : wr.length ≤ 9223372036854775807) (h1 : ∀ e ∈ wr, e.length = 1) :
    top_TopAdrift_0 x y d0 d1 c t0 t1 h f fc rp wr tr = true ∧ top_TopAdrift_pre x y d0 d1 c t0 t1 h f fc rp wr tr := by
  obtain ⟨hh, hp⟩ := t_head
  unfold top_TopAdrift_0 top_TopAdrift_pre top_TopAdrift_s0 top_TopAdrift_s1
  rw [hh]
  cases hC : (decide ((rp.length : Int) > 8) || decide ((wr.length : Int) > 3) || decide ((tr.length : Int) > 9) || decide ((fc.length : Int) > 12) || decide (h < t0) || decide (h > t1)) with
  | true => exact ⟨rfl, hp, fun k => (by cases k)⟩
  | false =>
    simp only [Bool.or_eq_false_iff, decide_eq_false_iff_not] at hC
    obtain ⟨⟨⟨⟨⟨n1, n2⟩, n3⟩, n4⟩, n5⟩, n6⟩ := hC
    rw [cond_false]
    obtain ⟨b1, b2⟩ := mbox_is x y d0 d1 c t0 t1
    obtain ⟨o1, o2⟩ := told_is x y d0 d1 c h f fc rp wr tr hf (by omega) hw
    cases hD : (mooring_Box_4 x y d0 d1 c t0 t1 != 0 || !top_told25r14_0 x y d0 d1 c h f fc rp wr tr) with
    | true => exact ⟨rfl, hp, fun _ => ⟨b1, fun _ => o1, fun k => (by cases k)⟩⟩
    | false =>
      rw [Bool.or_eq_false_iff, bne_eq_false_iff_eq, Bool.not_eq_false'] at hD
      obtain ⟨hb4, ht⟩ := hD
      obtain ⟨tn, hd1, hd0, htb⟩ := o2 ht
      rcases b2 with ⟨k, _⟩ | ⟨_, _, r, hr, k1, k2⟩
      · exact absurd hb4 k
      · have hVB : VB (mbx x y r) := by
          rw [hb4] at k1
          exact Decidable.byContradiction fun k => by rw [if_neg k] at k1; cases k1
        obtain ⟨q0, q1, q2, q3⟩ := k2 hVB
        obtain ⟨hv0, hB0⟩ := holds_box (h := h) (t1 := t1) ⟨by omega, by omega⟩ hd1 hd0 hr
        have eB : [[mooring_Box_0 x y d0 d1 c t0 t1, mooring_Box_1 x y d0 d1 c t0 t1, mooring_Box_2 x y d0 d1 c t0 t1, mooring_Box_3 x y d0 d1 c t0 t1]] = [mbx x y r] := by rw [q0, q1, q2, q3]; rfl
        rw [eB, cond_false]
        have h0 : ∃ b ∈ [mbx x y r], HB (pX tr 0) (pY tr 0) b := ⟨_, by simp, hB0⟩
        generalize [mbx x y r] = base at h0 ⊢
        obtain ⟨c1, c2, c3⟩ := check_is f base fc rp wr tr h13 hf hw
        obtain ⟨f1, f2, f3⟩ := follow_is f base fc rp wr h13 hf hw
        obtain ⟨x1, x2, x3, x4⟩ := explain_is f (wr.length : Int) base fc rp h13 hf
        have x1' : desk_Explain_pre f (wr.length : Int) base fc rp := x1
        have x2' : desk_Explain_0 f (wr.length : Int) base fc rp = (exR f (wr.length : Int) base fc rp).1 := x2
        have x4' : desk_Explain_2 f (wr.length : Int) base fc rp = (exR f (wr.length : Int) base fc rp).2.2 := x4
        rw [c2, c3, f2, f3, x2', x4']
        rcases ch_top (base := base) htb hv0 h0 with k | k | k
        · rw [k]
          exact ⟨rfl, hp, fun _ => ⟨b1, fun _ => o1, fun _ => ⟨c1, fun k => (by cases k)⟩⟩⟩
        · rw [k]
          exact ⟨rfl, hp, fun _ => ⟨b1, fun _ => o1, fun _ => ⟨c1, fun k => (by cases k)⟩⟩⟩
        · have T := told_of (show (chX f base fc rp wr tr).2 = true by rw [k])
          obtain ⟨g1, g2⟩ := told_fE T
          have li := last_ix T.tn T.gs.ln
          have hri : inR (rp.length : Int) tr := inR_of (by have := T.tn; omega)
          have hvl := tl_vp rp 0 f T.tl T.v0
          rw [Nat.zero_add] at hvl
          obtain ⟨wp, wc⟩ := wh_top h13 hf T (by omega) h1 (by omega)
          rw [k, g1, g2, li, Int.toNat_natCast]
          obtain ⟨i1, i2, i3⟩ := in_is (pX tr rp.length) (pY tr rp.length) (lg fc wr rp 0 base f).2
          -- the box
          have hW : (desk_Where_4 f (wr.length : Int) base fc rp = 3) ∨ (desk_Where_4 f (wr.length : Int) base fc rp = 0 ∧ span_InBox_1 (pX tr rp.length) (pY tr rp.length) (desk_Where_0 f (wr.length : Int) base fc rp) (desk_Where_1 f (wr.length : Int) base fc rp) (desk_Where_2 f (wr.length : Int) base fc rp) (desk_Where_3 f (wr.length : Int) base fc rp) = 0 ∧
              span_InBox_0 (pX tr rp.length) (pY tr rp.length) (desk_Where_0 f (wr.length : Int) base fc rp) (desk_Where_1 f (wr.length : Int) base fc rp) (desk_Where_2 f (wr.length : Int) base fc rp) (desk_Where_3 f (wr.length : Int) base fc rp) = true ∧ (exR f (wr.length : Int) base fc rp).2.2 = 0 ∧ decide (((exR f (wr.length : Int) base fc rp).1.length : Int) ≤ (wr.length : Int)) = true) := by
            rcases wc with w | ⟨w1, w2, w3, w4, w5⟩
            · exact .inl w
            · have z1 := inBox_err hvl w2
              have z2 := (inBox_eq hvl w2).trans (decide_eq_true w3)
              exact .inr ⟨w1, z1, z2, w4, decide_eq_true (by omega)⟩
          have hpre : top_head25r14_pre ∧ (false = false → mooring_Box_pre x y d0 d1 c t0 t1 ∧ True) := ⟨hp, fun _ => ⟨b1, trivial⟩⟩
          rcases told_in T with e | ⟨e, e1, e2, e3⟩
          · rw [e]
            refine ⟨?_, hp, fun _ => ⟨b1, fun _ => o1, fun _ => ⟨c1, fun _ => ⟨hri, hri, f1, fun k => (by cases k), fun _ => ⟨wp, x1'⟩⟩⟩⟩⟩
            rcases hW with w | ⟨w1, w2, w3, w4, w5⟩
            · rw [w]; rfl
            · unfold pX pY at w2 w3
              rw [w1, w2, w3, w4, w5]; rfl
          · have j2 : drift_In_1 ((tr.getD rp.length []).getD 0 0) ((tr.getD rp.length []).getD 1 0) (lg fc wr rp 0 base f).2 = 0 := i2.trans (by unfold inE; rw [if_neg (fun k => by rcases k with k | k; exact k e1; exact k e2)])
            have j3 : drift_In_0 ((tr.getD rp.length []).getD 0 0) ((tr.getD rp.length []).getD 1 0) (lg fc wr rp 0 base f).2 = true := i3.trans (decide_eq_true ⟨by unfold inE; rw [if_neg (fun k => by rcases k with k | k; exact k e1; exact k e2)], e3⟩)
            rw [e, j2, j3]
            refine ⟨?_, hp, fun _ => ⟨b1, fun _ => o1, fun _ => ⟨c1, fun _ => ⟨hri, hri, f1, fun _ => ⟨i1, wp, x1'⟩, fun k => (by cases k)⟩⟩⟩⟩
            rcases hW with w | ⟨w1, w2, w3, w4, w5⟩
            · rw [w]; rfl
            · unfold pX pY at w2 w3
              rw [w1, w2, w3, w4, w5]; rfl
end Go.Proofs.Ytjibokphafpcmaa
