/- Several texts in one (wip/merge.py): XDriftL XDriftM XDriftN. -/
import Derived.Test.YtddfnokjnafdpaaGreatSyLq
import Derived.Test.YtddfnokjnafdpaaGreatSyH
import Derived.Test.YtddfnokjnafdpaaGreatDrift1D
/-!
  The loops of package drift as functions on lists.
-/
set_option linter.unusedVariables false
namespace Go.Proofs.YtddfnokjnafdpaaGreat
open Go Go.Sy

theorem wrap_succ' {i : Nat} (h : i < 9223372036854775807) : IntKind.i64.wrap ((i : Int) + 1) = ((i + 1 : Nat) : Int) := by
  rw [i64_wrap (by omega)]; rfl
theorem imin_eq (a b : Int) : imin a b = if a ≤ b then a else b := by unfold imin; split <;> split <;> omega
theorem imax_eq (a b : Int) : imax a b = if a ≤ b then b else a := by unfold imax; split <;> split <;> omega
theorem span_valid_iff (a b : Int) : span_Valid_0 a b = true ↔ -1000000000000 ≤ a ∧ a ≤ b ∧ b ≤ 1000000000000 := by
  unfold span_Valid_0; simp [and_assoc]
theorem span_valid_eq (a b : Int) : span_Valid_0 a b = decide (-1000000000000 ≤ a ∧ a ≤ b ∧ b ≤ 1000000000000) := by
  rw [Bool.eq_iff_iff, span_valid_iff, decide_eq_true_eq]
/-- Within the span from -k to k. -/
theorem within_iff (a b k : Int) (hk : 0 ≤ k ∧ k ≤ 1000000000000) : (span_Within_1 a b (-k) k == (0 : Int)) = true ∧ span_Within_0 a b (-k) k = true ↔ -k ≤ a ∧ a ≤ b ∧ b ≤ k := by
  unfold span_Within_1 span_Within_0 span_Join_2 span_Join_0 span_Join_1 span_ends_int_0 span_ends_int_1
  rw [span_valid_eq, span_valid_eq, imin_eq, imax_eq]
  rw [decide_eq_true (show -1000000000000 ≤ -k ∧ -k ≤ k ∧ k ≤ 1000000000000 by omega)]
  by_cases h : -1000000000000 ≤ a ∧ a ≤ b ∧ b ≤ 1000000000000
  · rw [decide_eq_true h]
    simp
    omega
  · rw [decide_eq_false h]
    simp
    omega
/-- A box. -/
def VB (b : List Int) : Prop := -1000000 ≤ b.getD 0 0 ∧ b.getD 0 0 ≤ b.getD 1 0 ∧ b.getD 1 0 ≤ 1000000 ∧ -1000000 ≤ b.getD 2 0 ∧ b.getD 2 0 ≤ b.getD 3 0 ∧ b.getD 3 0 ≤ 1000000
instance (b : List Int) : Decidable (VB b) := by unfold VB; infer_instance
theorem validBox_eq (a b c d : Int) : span_ValidBox_0 a b c d = decide (-1000000 ≤ a ∧ a ≤ b ∧ b ≤ 1000000 ∧ -1000000 ≤ c ∧ c ≤ d ∧ d ≤ 1000000) := by
  rw [Bool.eq_iff_iff, decide_eq_true_eq]
  have h1 := within_iff a b 1000000 (by omega)
  have h2 := within_iff c d 1000000 (by omega)
  unfold span_ValidBox_0
  simp only [Bool.and_eq_true] at *
  constructor
  · rintro ⟨⟨⟨g1, g2⟩, g3⟩, g4⟩
    have := h1.1 ⟨g1, g3⟩
    have := h2.1 ⟨g2, g4⟩
    omega
  · rintro h
    have k1 := h1.2 (by omega)
    have k2 := h2.2 (by omega)
    exact ⟨⟨⟨k1.1, k2.1⟩, k1.2⟩, k2.2⟩
theorem vb_eq (b : List Int) : span_ValidBox_0 (b.getD 0 0) (b.getD 1 0) (b.getD 2 0) (b.getD 3 0) = decide (VB b) := validBox_eq _ _ _ _
/-- A place. -/
def VP (x y : Int) : Prop := -1000000 ≤ x ∧ x ≤ 1000000 ∧ -1000000 ≤ y ∧ y ≤ 1000000
instance (x y : Int) : Decidable (VP x y) := by unfold VP; infer_instance
theorem place_eq (x y : Int) : drift_place_0 x y = decide (VP x y) := by
  unfold drift_place_0
  rw [validBox_eq]
  unfold VP
  by_cases h : -1000000 ≤ x ∧ x ≤ 1000000 ∧ -1000000 ≤ y ∧ y ≤ 1000000
  · rw [decide_eq_true h, decide_eq_true (by omega)]
  · rw [decide_eq_false h, decide_eq_false (by omega)]
/-- A set. -/
def VL (l : List (List Int)) : Prop := 0 < l.length ∧ l.length ≤ 16 ∧ ∀ b ∈ l, VB b
instance (l : List (List Int)) : Decidable (VL l) := by unfold VL; infer_instance
theorem getD_mem {l : List (List Int)} {i : Nat} (h : i < l.length) : l.getD i [] ∈ l := by
  rw [List.getD_eq_getElem?_getD, List.getElem?_eq_getElem h]
  exact List.getElem_mem h
theorem getD_of_mem {l : List (List Int)} {x : List Int} (h : x ∈ l) : ∃ i, i < l.length ∧ l.getD i [] = x := by
  obtain ⟨j, hj, rfl⟩ := List.getElem_of_mem h
  exact ⟨j, hj, by rw [List.getD_eq_getElem?_getD, List.getElem?_eq_getElem hj]; rfl⟩
theorem take_succ' {l : List (List Int)} {i : Nat} (h : i < l.length) : l.take (i + 1) = l.take i ++ [l.getD i []] := by
  rw [List.take_succ_eq_append_getElem h, List.getD_eq_getElem?_getD, List.getElem?_eq_getElem h]; rfl
theorem list_eq_of {a b : List (List Int)} (hl : a.length = b.length) (h : ∀ i, i < a.length → a.getD i [] = b.getD i []) : a = b := by
  apply List.ext_getElem hl
  intro i h1 h2
  have := h i h1
  rwa [List.getD_eq_getElem?_getD, List.getD_eq_getElem?_getD, List.getElem?_eq_getElem h1, List.getElem?_eq_getElem h2] at this

theorem valid_is (l : List (List Int)) : drift_Valid_pre l ∧ drift_Valid_0 l = decide (VL l) := by
  unfold drift_Valid_pre drift_Valid_0
  by_cases hl : 0 < l.length ∧ l.length ≤ 16
  · have hl' : (decide ((l.length : Int) > 0) && decide ((l.length : Int) ≤ 16)) = true := by simp; omega
    have key := loop_search (step := drift_Valid_l0_step l) l.length (fun i => !decide (VB (l.getD i []))) (fun i => [.i 0, .i i]) (fun i => [.i i]) 0 2 [.i 0, .i l.length]
      (fun i hi => by
        unfold drift_Valid_l0_step
        simp only [gi_1, gi_z, gb_z, dlt hi, guardP_pos (inR_of hi), Int.toNat_natCast, wrap_succ (show i < 4611686018427387904 by omega), vb_eq]
        try rfl)
      (by
        unfold drift_Valid_l0_step
        simp only [gi_1, gi_z, gb_z, dnlt]
        try rfl)
    rw [hl']
    refine ⟨fun _ => key.1, ?_⟩
    rw [Bool.true_and]
    rcases key.2 with ⟨i, h1, h2, h3, h4⟩ | ⟨h3, h4⟩
    · have e : drift_Valid_l0 l = (1, [.i i]) := h4
      rw [e]
      have : ¬ VL l := fun h => by
        have := h.2.2 _ (getD_mem h1)
        rw [decide_eq_true this] at h2; cases h2
      rw [decide_eq_false this]; simp [Nat.beq, gi_z]
    · have e : drift_Valid_l0 l = (3, [.i 0, .i l.length]) := h4
      rw [e]
      have : VL l := by
        refine ⟨hl.1, hl.2, fun x hx => ?_⟩
        obtain ⟨j, hj, rfl⟩ := getD_of_mem hx
        simpa using h3 j hj
      rw [decide_eq_true this]; simp [Nat.beq]
  · have hl' : (decide ((l.length : Int) > 0) && decide ((l.length : Int) ≤ 16)) = false := by simp; omega
    rw [hl']
    refine ⟨fun h => (Bool.noConfusion h), ?_⟩
    have : ¬ VL l := fun h => hl ⟨h.1, h.2.1⟩
    rw [decide_eq_false this]; rfl

/-! ### forecasts -/
/-- A current behind a time. -/
def CO (e : Int) (c : List Int) : Prop := (-1000 ≤ c.getD 2 0 ∧ c.getD 2 0 ≤ c.getD 3 0 ∧ c.getD 3 0 ≤ 1000) ∧ (-1000 ≤ c.getD 4 0 ∧ c.getD 4 0 ≤ c.getD 5 0 ∧ c.getD 5 0 ≤ 1000) ∧ e ≤ c.getD 0 0 ∧ c.getD 0 0 < c.getD 1 0 ∧ c.getD 1 0 ≤ 10000000
instance (e : Int) (c : List Int) : Decidable (CO e c) := by unfold CO; infer_instance
/-- Currents behind a time. -/
def CL : Int → List (List Int) → Prop
  | _, [] => True
  | e, c :: l => CO e c ∧ CL (c.getD 1 0) l
instance decCL : (e : Int) → (l : List (List Int)) → Decidable (CL e l)
  | _, [] => .isTrue trivial
  | e, c :: l => by unfold CL; exact @instDecidableAnd _ _ _ (decCL _ l)
/-- A forecast. -/
def VC (l : List (List Int)) : Prop := CL 0 l ∧ l.length ≤ 60
instance (l : List (List Int)) : Decidable (VC l) := by unfold VC; infer_instance
/-- The end of the first i. -/
def endOf (e : Int) : List (List Int) → Int
  | [] => e
  | c :: l => endOf (c.getD 1 0) l
theorem endOf_append (e : Int) (a b : List (List Int)) : endOf e (a ++ b) = endOf (endOf e a) b := by
  induction a generalizing e with
  | nil => rfl
  | cons c a ih => exact ih _
theorem CL_append (e : Int) (a b : List (List Int)) : CL e (a ++ b) ↔ CL e a ∧ CL (endOf e a) b := by
  induction a generalizing e with
  | nil => simp [CL, endOf]
  | cons c a ih => simp [CL, endOf, ih, and_assoc]
theorem co_eq (e : Int) (c : List Int) : (span_Within_1 (c.getD 2 0) (c.getD 3 0) (-1000) 1000 != 0 || span_Within_1 (c.getD 4 0) (c.getD 5 0) (-1000) 1000 != 0 || !span_Within_0 (c.getD 2 0) (c.getD 3 0) (-1000) 1000 || !span_Within_0 (c.getD 4 0) (c.getD 5 0) (-1000) 1000 || decide (c.getD 0 0 < e) || decide (c.getD 1 0 ≤ c.getD 0 0) || decide (c.getD 1 0 > 10000000)) = !decide (CO e c) := by
  have h1 := within_iff (c.getD 2 0) (c.getD 3 0) 1000 (by omega)
  have h2 := within_iff (c.getD 4 0) (c.getD 5 0) 1000 (by omega)
  have hCO : CO e c ↔ (((span_Within_1 (c.getD 2 0) (c.getD 3 0) (-1000) 1000 == (0 : Int)) = true ∧ span_Within_0 (c.getD 2 0) (c.getD 3 0) (-1000) 1000 = true) ∧ ((span_Within_1 (c.getD 4 0) (c.getD 5 0) (-1000) 1000 == (0 : Int)) = true ∧ span_Within_0 (c.getD 4 0) (c.getD 5 0) (-1000) 1000 = true) ∧ e ≤ c.getD 0 0 ∧ c.getD 0 0 < c.getD 1 0 ∧ c.getD 1 0 ≤ 10000000) := by
    rw [h1, h2]; rfl
  rw [Bool.eq_iff_iff]
  simp only [hCO, Bool.or_eq_true, Bool.not_eq_true', decide_eq_true_eq, decide_eq_false_iff_not, bne_iff_ne, beq_iff_eq]
  generalize span_Within_0 (c.getD 2 0) (c.getD 3 0) (-1000) 1000 = p
  generalize span_Within_0 (c.getD 4 0) (c.getD 5 0) (-1000) 1000 = q
  cases p <;> cases q <;> simp <;> omega
theorem currents_is (l : List (List Int)) (hl : l.length ≤ 9223372036854775807) : drift_Currents_pre l ∧ drift_Currents_0 l = decide (VC l) := by
  have key := loop_search (step := drift_Currents_l0_step l) l.length (fun i => !decide (CO (endOf 0 (l.take i)) (l.getD i []))) (fun i => [.b false, .i (endOf 0 (l.take i)), .i i]) (fun i => []) 0 2 [.b false, .i (endOf 0 l), .i l.length]
    (fun i hi => by
      unfold drift_Currents_l0_step
      simp only [gi_1, gi_2, gi_z, gb_z, dlt hi, guardP_pos (inR_of hi), Int.toNat_natCast, wrap_succ' (show i < 9223372036854775807 by omega), co_eq]
      rw [take_succ' hi, endOf_append]
      rfl)
    (by
      unfold drift_Currents_l0_step
      simp only [gi_1, gi_2, gi_z, gb_z, dnlt, List.take_length])
  refine ⟨key.1, ?_⟩
  unfold drift_Currents_0
  rcases key.2 with ⟨i, h1, h2, h3, h4⟩ | ⟨h3, h4⟩
  · have e : drift_Currents_l0 l = (1, []) := h4
    rw [e]
    have : ¬ VC l := fun h => by
      have h := h.1
      rw [← List.take_append_drop i l, CL_append] at h
      have h := h.2
      rw [List.drop_eq_getElem_cons h1] at h
      have hg : l[i] = l.getD i [] := by rw [List.getD_eq_getElem?_getD, List.getElem?_eq_getElem h1]; rfl
      rw [hg] at h
      rw [decide_eq_true h.1] at h2
      cases h2
    rw [decide_eq_false this]; simp [Nat.beq]
  · have e : drift_Currents_l0 l = (3, [.b false, .i (endOf 0 l), .i l.length]) := h4
    rw [e]
    have hcl : ∀ i, i ≤ l.length → CL 0 (l.take i) := by
      intro i
      induction i with
      | zero => intro _; simp [CL]
      | succ i ih =>
        intro hi
        rw [take_succ' hi, CL_append]
        refine ⟨ih (by omega), ?_, trivial⟩
        simpa using h3 i hi
    have := hcl _ (Nat.le_refl _)
    rw [List.take_length] at this
    by_cases h60 : l.length ≤ 60
    · rw [decide_eq_true (show VC l from ⟨this, h60⟩)]; simp [Nat.beq]; omega
    · rw [decide_eq_false (show ¬ VC l from fun h => h60 h.2)]; simp [Nat.beq]; omega

/-! ### the drift between two times -/
/-- The minutes of a current. -/
def mins (f u : Int) (c : List Int) : Int := max 0 (min (c.getD 1 0) u - max (c.getD 0 0) f)
def sumL (f u : Int) (k : Nat) (l : List (List Int)) : Int := (l.map fun c => mins f u c * c.getD k 0).sum
def covL (f u : Int) (l : List (List Int)) : Int := (l.map fun c => mins f u c).sum
theorem CL_mem {e : Int} {l : List (List Int)} (h : CL e l) : ∀ c ∈ l, CO e c := by
  induction l generalizing e with
  | nil => intro c hc; cases hc
  | cons d l ih =>
    intro c hc
    rcases List.mem_cons.1 hc with rfl | hc
    · exact h.1
    · have h1 := ih h.2 c hc
      have h2 := h.1
      unfold CO at *
      omega
/-- The times are possible. -/
def VT (f u : Int) : Prop := 0 ≤ f ∧ f ≤ u ∧ u ≤ 10000000
instance (f u : Int) : Decidable (VT f u) := by unfold VT; infer_instance
theorem mins_bd {f u e : Int} {c : List Int} (h : VT f u) (hc : CO e c) : 0 ≤ mins f u c ∧ mins f u c ≤ 10000000 := by
  unfold mins VT CO at *; omega
theorem mul_bd {n x : Int} (h1 : 0 ≤ n) (h2 : n ≤ 10000000) (h3 : -1000 ≤ x) (h4 : x ≤ 1000) : -10000000000 ≤ n * x ∧ n * x ≤ 10000000000 := by
  have a := Int.mul_le_mul_of_nonneg_left h4 h1
  have b := Int.mul_le_mul_of_nonneg_left h3 h1
  omega
theorem sum_snoc (a : List Int) (x : Int) : (a ++ [x]).sum = a.sum + x := by simp
theorem sumL_succ (f u : Int) (k : Nat) {l : List (List Int)} {i : Nat} (hi : i < l.length) : sumL f u k (l.take (i + 1)) = sumL f u k (l.take i) + mins f u (l.getD i []) * (l.getD i []).getD k 0 := by
  unfold sumL; rw [take_succ' hi, List.map_append, List.map_cons, List.map_nil, sum_snoc]
theorem covL_succ (f u : Int) {l : List (List Int)} {i : Nat} (hi : i < l.length) : covL f u (l.take (i + 1)) = covL f u (l.take i) + mins f u (l.getD i []) := by
  unfold covL; rw [take_succ' hi, List.map_append, List.map_cons, List.map_nil, sum_snoc]
theorem sum_fold (f u : Int) (l : List (List Int)) (hv : VC l) (ht : VT f u) : loopOk (drift_Sum_l0_step f u l) (drift_Sum_l0_init f u l) ∧
    drift_Sum_l0 f u l = (3, [.i l.length, .i (u - f - covL f u l), .i (sumL f u 4 l), .i (sumL f u 5 l), .i (sumL f u 2 l), .i (sumL f u 3 l)]) := by
  have key := loop_fold (σ := Unit) (step := drift_Sum_l0_step f u l) l.length
    (fun i _ => [.i i, .i (u - f - covL f u (l.take i)), .i (sumL f u 4 (l.take i)), .i (sumL f u 5 (l.take i)), .i (sumL f u 2 (l.take i)), .i (sumL f u 3 (l.take i))]) (fun _ s => s)
    (fun i _ => (0 ≤ covL f u (l.take i) ∧ covL f u (l.take i) ≤ 10000000 * i) ∧ ∀ k, k = 2 ∨ k = 3 ∨ k = 4 ∨ k = 5 → -10000000000 * i ≤ sumL f u k (l.take i) ∧ sumL f u k (l.take i) ≤ 10000000000 * i) 2
    (fun _ => [.i l.length, .i (u - f - covL f u l), .i (sumL f u 4 l), .i (sumL f u 5 l), .i (sumL f u 2 l), .i (sumL f u 3 l)])
    (fun i s hi ⟨h, h2⟩ => by
      have hc := CL_mem hv.1 _ (getD_mem hi)
      have hm := mins_bd ht hc
      refine ⟨?_, fun k hk => ?_⟩
      · rw [covL_succ f u hi]
        omega
      · have := h2 k hk
        have hb : -1000 ≤ (l.getD i []).getD k 0 ∧ (l.getD i []).getD k 0 ≤ 1000 := by
          unfold CO at hc
          rcases hk with rfl | rfl | rfl | rfl <;> omega
        have := mul_bd hm.1 hm.2 hb.1 hb.2
        rw [sumL_succ f u k hi]
        omega)
    (fun i s hi ⟨h, h2⟩ => by
      have hc := CL_mem hv.1 _ (getD_mem hi)
      have hm := mins_bd ht hc
      have h60 := hv.2
      have p2 := h2 2 (by simp)
      have p3 := h2 3 (by simp)
      have p4 := h2 4 (by simp)
      have p5 := h2 5 (by simp)
      have m2 := mul_bd (x := (l.getD i []).getD 2 0) hm.1 hm.2 (by unfold CO at hc; omega) (by unfold CO at hc; omega)
      have m3 := mul_bd (x := (l.getD i []).getD 3 0) hm.1 hm.2 (by unfold CO at hc; omega) (by unfold CO at hc; omega)
      have m4 := mul_bd (x := (l.getD i []).getD 4 0) hm.1 hm.2 (by unfold CO at hc; omega) (by unfold CO at hc; omega)
      have m5 := mul_bd (x := (l.getD i []).getD 5 0) hm.1 hm.2 (by unfold CO at hc; omega) (by unfold CO at hc; omega)
      unfold drift_Sum_l0_step
      simp only [gi_z, gi_1, gi_2, gi_3, gi_4, dlt hi, guardP_pos (inR_of hi), Int.toNat_natCast, wrap_succ (show i < 4611686018427387904 by omega)]
      have g5 : ∀ a b c d e f : Int, gi [.i a, .i b, .i c, .i d, .i e, .i f] 5 = f := fun _ _ _ _ _ _ => rfl
      simp only [g5, sumL_succ f u _ hi, covL_succ f u hi]
      generalize hmm : mins f u (l.getD i []) = M at *
      have hw : IntKind.i64.wrap (imin ((l.getD i []).getD 1 0) u - imax ((l.getD i []).getD 0 0) f) = min ((l.getD i []).getD 1 0) u - max ((l.getD i []).getD 0 0) f := by
        rw [i64_wrap (by rw [imin_eq, imax_eq]; unfold CO VT at *; split <;> split <;> omega), imin_eq, imax_eq]
        split <;> split <;> omega
      rw [hw]
      by_cases hp : min ((l.getD i []).getD 1 0) u - max ((l.getD i []).getD 0 0) f > 0
      · have eM : min ((l.getD i []).getD 1 0) u - max ((l.getD i []).getD 0 0) f = M := by unfold mins at hmm; omega
        rw [decide_eq_true hp, eM]
        simp only [beq_self_eq_true, cond_true]
        rw [i64_wrap (show _ ≤ M * (l.getD i []).getD 2 0 ∧ _ by omega), i64_wrap (show _ ≤ M * (l.getD i []).getD 3 0 ∧ _ by omega), i64_wrap (show _ ≤ M * (l.getD i []).getD 4 0 ∧ _ by omega), i64_wrap (show _ ≤ M * (l.getD i []).getD 5 0 ∧ _ by omega)]
        have : (0 : Int) ≤ i ∧ (i : Int) ≤ 60 := by omega
        unfold VT at ht
        rw [i64_wrap (by omega), i64_wrap (by omega), i64_wrap (by omega), i64_wrap (by omega), i64_wrap (by omega)]
        simp only [Option.some.injEq, Prod.mk.injEq, List.cons.injEq, U.i.injEq, and_true, true_and]
        omega
      · have eM : M = 0 := by unfold mins at hmm; omega
        rw [decide_eq_false hp, eM]
        simp)
    (fun s _ => by
      unfold drift_Sum_l0_step
      simp only [gi_z, gi_1, gi_2, gi_3, gi_4, dnlt, List.take_length]
      rfl) (s := ()) (by simp [covL, sumL])
  have e0 : drift_Sum_l0_init f u l = [.i ((0 : Nat) : Int), .i (u - f - covL f u (l.take 0)), .i (sumL f u 4 (l.take 0)), .i (sumL f u 5 (l.take 0)), .i (sumL f u 2 (l.take 0)), .i (sumL f u 3 (l.take 0))] := by
    unfold drift_Sum_l0_init
    rw [i64_wrap (by unfold VT at ht; omega)]
    simp [covL, sumL]
  unfold drift_Sum_l0
  rw [e0]
  exact ⟨key.1, key.2.1⟩
/-- What Sum says. -/
def sumE (f u : Int) (l : List (List Int)) : Int := if ¬ VC l ∨ ¬ VT f u then 1 else if u - f - covL f u l > 0 then 4 else 0
/-- An end of what Sum says. -/
def sumV (f u : Int) (k : Nat) (l : List (List Int)) : Int := if sumE f u l = 0 then sumL f u k l else 0
theorem sum_args (f u : Int) (l : List (List Int)) (hl : l.length ≤ 9223372036854775807) : (!drift_Currents_0 l || decide (f < 0) || decide (u < f) || decide (u > 10000000)) = decide (¬ VC l ∨ ¬ VT f u) := by
  rw [(currents_is l hl).2]
  by_cases h : VC l
  · rw [decide_eq_true h]
    unfold VT
    by_cases h2 : 0 ≤ f ∧ f ≤ u ∧ u ≤ 10000000
    · rw [decide_eq_false (show ¬ f < 0 by omega), decide_eq_false (show ¬ u < f by omega), decide_eq_false (show ¬ u > 10000000 by omega), decide_eq_false (by simp [h, h2])]; rfl
    · rw [decide_eq_true (show ¬ VC l ∨ _ from .inr h2)]
      simp only [Bool.not_true, Bool.false_or, Bool.or_eq_true, decide_eq_true_eq]
      omega
  · rw [decide_eq_false h, decide_eq_true (show ¬ VC l ∨ ¬ VT f u from .inl h)]; rfl
theorem sum_is (f u : Int) (l : List (List Int)) (hl : l.length ≤ 9223372036854775807) : drift_Sum_pre f u l ∧ drift_Sum_4 f u l = sumE f u l ∧ drift_Sum_0 f u l = sumV f u 2 l ∧ drift_Sum_1 f u l = sumV f u 3 l ∧ drift_Sum_2 f u l = sumV f u 4 l ∧ drift_Sum_3 f u l = sumV f u 5 l := by
  unfold drift_Sum_pre drift_Sum_4 drift_Sum_0 drift_Sum_1 drift_Sum_2 drift_Sum_3 sumV sumE
  rw [sum_args f u l hl]
  by_cases h : ¬ VC l ∨ ¬ VT f u
  · rw [decide_eq_true h]
    refine ⟨⟨(currents_is l hl).1, fun h => by cases h⟩, ?_⟩
    simp [if_pos h]
  · rw [decide_eq_false h, if_neg h]
    have hv : VC l := Decidable.byContradiction fun hn => h (.inl hn)
    have ht : VT f u := Decidable.byContradiction fun hn => h (.inr hn)
    obtain ⟨h1, h2⟩ := sum_fold f u l hv ht
    refine ⟨⟨(currents_is l hl).1, fun _ => h1⟩, ?_⟩
    rw [h2]
    have g5 : ∀ a b c d e f : Int, gi [.i a, .i b, .i c, .i d, .i e, .i f] 5 = f := fun _ _ _ _ _ _ => rfl
    simp only [gi_1, gi_2, gi_3, gi_4, gi_z, cond_false, g5]
    by_cases hc : u - f - covL f u l > 0
    · rw [decide_eq_true hc, if_pos hc]; exact ⟨rfl, rfl, rfl, rfl, rfl⟩
    · rw [decide_eq_false hc, if_neg hc]; exact ⟨rfl, rfl, rfl, rfl, rfl⟩
end Go.Proofs.YtddfnokjnafdpaaGreat

/-!
  Move, Allows, In, Cut and the comparisons as functions on lists.
-/
set_option linter.unusedVariables false
set_option maxRecDepth 100000
namespace Go.Proofs.YtddfnokjnafdpaaGreat
open Go Go.Sy

theorem tdiv_nn {n : Int} (h : 0 ≤ n) : n.tdiv 100 = n / 100 := Int.tdiv_eq_ediv_of_nonneg h
/-- Rounding down, as the code has it. -/
noncomputable def dnW (n : Int) : Int := bif decide (n < (0 : Int)) then IntKind.i64.wrap ((0 : Int) - IntKind.i64.wrap ((IntKind.i64.wrap ((99 : Int) - n)).tdiv (100 : Int))) else IntKind.i64.wrap (n.tdiv (100 : Int))
theorem dnW_eq {n : Int} (h : -1000000000000000 ≤ n ∧ n ≤ 1000000000000000) : dnW n = n / 100 := by
  unfold dnW
  by_cases hn : n < 0
  · rw [decide_eq_true hn, cond_true, i64_wrap (x := 99 - n) (by omega), tdiv_nn (by omega), i64_wrap (x := (99 - n) / 100) (by omega), i64_wrap (by omega)]
    omega
  · rw [decide_eq_false hn, cond_false, tdiv_nn (by omega), i64_wrap (by omega)]
noncomputable def loW (x s : Int) : Int := dnW (IntKind.i64.wrap (IntKind.i64.wrap ((100 : Int) * x) + s))
noncomputable def hiW (x s : Int) : Int := IntKind.i64.wrap ((0 : Int) - dnW (IntKind.i64.wrap ((0 : Int) - IntKind.i64.wrap (IntKind.i64.wrap ((100 : Int) * x) + s))))
/-- The lower end, moved. -/
def lo (x s : Int) : Int := (100 * x + s) / 100
/-- The upper end, moved. -/
def hi (x s : Int) : Int := -((-(100 * x + s)) / 100)
theorem loW_eq {x s : Int} (hx : -1000000 ≤ x ∧ x ≤ 1000000) (hs : -600000000000 ≤ s ∧ s ≤ 600000000000) : loW x s = lo x s := by
  unfold loW lo
  rw [i64_wrap (x := 100 * x) (by omega), i64_wrap (by omega), dnW_eq (by omega)]
theorem hiW_eq {x s : Int} (hx : -1000000 ≤ x ∧ x ≤ 1000000) (hs : -600000000000 ≤ s ∧ s ≤ 600000000000) : hiW x s = hi x s := by
  unfold hiW hi
  rw [i64_wrap (x := 100 * x) (by omega), i64_wrap (x := 100 * x + s) (by omega), i64_wrap (x := 0 - (100 * x + s)) (by omega), dnW_eq (by omega), i64_wrap (by omega)]
  omega
/-- A box, moved. -/
def mvB (x0 x1 y0 y1 : Int) (b : List Int) : List Int := [lo (b.getD 0 0) x0, hi (b.getD 1 0) x1, lo (b.getD 2 0) y0, hi (b.getD 3 0) y1]
noncomputable def mvW (x0 x1 y0 y1 : Int) (b : List Int) : List Int := [loW (b.getD 0 0) x0, hiW (b.getD 1 0) x1, loW (b.getD 2 0) y0, hiW (b.getD 3 0) y1]
theorem sumL_bd {f u : Int} {l : List (List Int)} (hv : VC l) (ht : VT f u) {k : Nat} (hk : k = 2 ∨ k = 3 ∨ k = 4 ∨ k = 5) : -600000000000 ≤ sumL f u k l ∧ sumL f u k l ≤ 600000000000 := by
  have key : ∀ i, i ≤ l.length → -10000000000 * (i : Int) ≤ sumL f u k (l.take i) ∧ sumL f u k (l.take i) ≤ 10000000000 * (i : Int) := by
    intro i
    induction i with
    | zero => intro _; simp [sumL]
    | succ i ih =>
      intro hi
      have := ih (by omega)
      have hc := CL_mem hv.1 _ (getD_mem hi)
      have hm := mins_bd ht hc
      have hb : -1000 ≤ (l.getD i []).getD k 0 ∧ (l.getD i []).getD k 0 ≤ 1000 := by
        unfold CO at hc
        rcases hk with rfl | rfl | rfl | rfl <;> omega
      have := mul_bd hm.1 hm.2 hb.1 hb.2
      rw [sumL_succ f u k hi]
      omega
  have := key _ (Nat.le_refl _)
  rw [List.take_length] at this
  have := hv.2
  omega
theorem sumE_ok {f u : Int} {l : List (List Int)} (h : sumE f u l = 0) : VC l ∧ VT f u ∧ u - f ≤ covL f u l := by
  unfold sumE at h
  split at h
  · cases h
  · rename_i hn
    split at h
    · cases h
    · exact ⟨Decidable.byContradiction fun k => hn (.inl k), Decidable.byContradiction fun k => hn (.inr k), by omega⟩
theorem sumV_bd (f u : Int) (l : List (List Int)) {k : Nat} (hk : k = 2 ∨ k = 3 ∨ k = 4 ∨ k = 5) : -600000000000 ≤ sumV f u k l ∧ sumV f u k l ≤ 600000000000 := by
  unfold sumV
  by_cases h : sumE f u l = 0
  · rw [if_pos h]
    have := sumE_ok h
    exact sumL_bd this.1 this.2.1 hk
  · rw [if_neg h]; omega
/-- What a forecast does to a box. -/
def mvF (f u : Int) (c : List (List Int)) (b : List Int) : List Int := mvB (sumV f u 2 c) (sumV f u 3 c) (sumV f u 4 c) (sumV f u 5 c) b
def moveE (f u : Int) (l c : List (List Int)) : Int := if ¬ VL l then 1 else if sumE f u c ≠ 0 then sumE f u c else if ∃ b ∈ l, ¬ VB (mvF f u c b) then 3 else 0
def moveL (f u : Int) (l c : List (List Int)) : List (List Int) := if moveE f u l c = 0 then l.map (mvF f u c) else []
theorem move_fold (f u : Int) (l c : List (List Int)) (hl : VL l) (hc : c.length ≤ 9223372036854775807) : loopOk (drift_Move_l0_step f u l c) (drift_Move_l0_init f u l c) ∧
    ((∃ b ∈ l, ¬ VB (mvF f u c b)) ∧ drift_Move_l0 f u l c = (1, []) ∨ (¬ ∃ b ∈ l, ¬ VB (mvF f u c b)) ∧ drift_Move_l0 f u l c = (3, [.i 0, .i l.length, .r (l.map (mvF f u c))])) := by
  obtain ⟨_, _, s0, s1, s2, s3⟩ := sum_is f u c hc
  have hlen := hl.2.1
  have key := loop_search (step := drift_Move_l0_step f u l c) l.length (fun i => !decide (VB (mvF f u c (l.getD i [])))) (fun i => [.i 0, .i i, .r ((l.take i).map (mvF f u c))]) (fun i => []) 0 2 [.i 0, .i l.length, .r (l.map (mvF f u c))]
    (fun i hi => by
      have hb := hl.2.2 _ (getD_mem hi)
      have hw : mvW (sumV f u 2 c) (sumV f u 3 c) (sumV f u 4 c) (sumV f u 5 c) (l.getD i []) = mvF f u c (l.getD i []) := by
        unfold mvW mvF mvB
        unfold VB at hb
        rw [loW_eq (by omega) (sumV_bd f u c (by simp)), hiW_eq (by omega) (sumV_bd f u c (by simp)), loW_eq (by omega) (sumV_bd f u c (by simp)), hiW_eq (by omega) (sumV_bd f u c (by simp))]
      unfold drift_Move_l0_step
      simp only [gi_z, gi_1, gi_2, gr_z, gr_1, gr_2, dlt hi, guardP_pos (inR_of hi), Int.toNat_natCast, wrap_succ (show i < 4611686018427387904 by omega), s0, s1, s2, s3]
      rw [guardP_pos ⟨⟨fun _ => by decide, fun _ => by decide⟩, fun _ => by decide, fun _ => by decide⟩, guardP_pos ⟨⟨fun _ => by decide, fun _ => by decide⟩, fun _ => by decide, fun _ => by decide⟩]
      rw [guardP_pos (by simp only [List.length_map, List.length_take, List.length_cons, List.length_nil, fitsA]; simp [maxLen]; omega)]
      show (bif !span_ValidBox_0 ((mvW (sumV f u 2 c) (sumV f u 3 c) (sumV f u 4 c) (sumV f u 5 c) (l.getD i [])).getD 0 0) ((mvW (sumV f u 2 c) (sumV f u 3 c) (sumV f u 4 c) (sumV f u 5 c) (l.getD i [])).getD 1 0) ((mvW (sumV f u 2 c) (sumV f u 3 c) (sumV f u 4 c) (sumV f u 5 c) (l.getD i [])).getD 2 0) ((mvW (sumV f u 2 c) (sumV f u 3 c) (sumV f u 4 c) (sumV f u 5 c) (l.getD i [])).getD 3 0) then (some (1, []) : Option (Nat × List U)) else some (0, [.i 0, .i ((i + 1 : Nat) : Int), .r ((l.take i).map (mvF f u c) ++ [mvW (sumV f u 2 c) (sumV f u 3 c) (sumV f u 4 c) (sumV f u 5 c) (l.getD i [])])])) = _
      rw [hw, vb_eq, take_succ' hi, List.map_append]
      rfl)
    (by
      unfold drift_Move_l0_step
      simp only [gi_z, gi_1, gr_z, gr_1, gr_2, dnlt, List.take_length])
  refine ⟨key.1, ?_⟩
  rcases key.2 with ⟨i, h1, h2, h3, h4⟩ | ⟨h3, h4⟩
  · exact .inl ⟨⟨_, getD_mem h1, by simpa using h2⟩, h4⟩
  · refine .inr ⟨?_, h4⟩
    rintro ⟨b, hb, hn⟩
    obtain ⟨j, hj, rfl⟩ := getD_of_mem hb
    have := h3 j hj
    rw [decide_eq_false hn] at this
    cases this
theorem move_is (f u : Int) (l c : List (List Int)) (hc : c.length ≤ 9223372036854775807) : drift_Move_pre f u l c ∧ drift_Move_1 f u l c = moveE f u l c ∧ drift_Move_0 f u l c = moveL f u l c := by
  obtain ⟨sp, s4, s0, s1, s2, s3⟩ := sum_is f u c hc
  have hv := valid_is l
  unfold drift_Move_pre drift_Move_1 drift_Move_0
  rw [hv.2, s4]
  by_cases hl : VL l
  · have E : moveE f u l c = if sumE f u c ≠ 0 then sumE f u c else if ∃ b ∈ l, ¬ VB (mvF f u c b) then 3 else 0 := if_neg (fun h => h hl)
    obtain ⟨k1, k2⟩ := move_fold f u l c hl hc
    rw [decide_eq_true hl]
    simp only [Bool.not_true, cond_false]
    by_cases hs : sumE f u c = 0
    · rw [hs] at E
      rw [if_neg (by simp)] at E
      rw [hs]
      simp only [bne_self_eq_false, cond_false]
      rcases k2 with ⟨g1, g2⟩ | ⟨g1, g2⟩
      · rw [if_pos g1] at E
        rw [g2]
        refine ⟨⟨hv.1, fun _ => ⟨sp, fun _ => k1⟩⟩, E.symm, ?_⟩
        unfold moveL
        rw [E, if_neg (by decide)]
        rfl
      · rw [if_neg g1] at E
        rw [g2]
        refine ⟨⟨hv.1, fun _ => ⟨sp, fun _ => k1⟩⟩, E.symm, ?_⟩
        unfold moveL
        rw [if_pos E]
        rfl
    · have hb : (sumE f u c != 0) = true := by simpa using hs
      rw [if_pos hs] at E
      rw [hb]
      refine ⟨⟨hv.1, fun _ => ⟨sp, fun h => by cases h⟩⟩, E.symm, ?_⟩
      unfold moveL
      rw [E, if_neg hs]
      rfl
  · have E : moveE f u l c = 1 := if_pos hl
    rw [decide_eq_false hl]
    refine ⟨⟨hv.1, fun h => by cases h⟩, E.symm, ?_⟩
    unfold moveL
    rw [E, if_neg (by decide)]
    rfl

/-! ### Allows -/
def allE (f u x y z w : Int) (c : List (List Int)) : Int := if ¬ VP x y ∨ ¬ VP z w then 1 else sumE f u c
def allB (f u x y z w : Int) (c : List (List Int)) : Prop := allE f u x y z w c = 0 ∧ sumL f u 2 c ≤ 100 * (z - x) ∧ 100 * (z - x) ≤ sumL f u 3 c ∧ sumL f u 4 c ≤ 100 * (w - y) ∧ 100 * (w - y) ≤ sumL f u 5 c
instance (f u x y z w : Int) (c : List (List Int)) : Decidable (allB f u x y z w c) := by unfold allB; infer_instance
theorem allows_is (f u x y z w : Int) (c : List (List Int)) (hc : c.length ≤ 9223372036854775807) : drift_Allows_pre f u x y z w c ∧ drift_Allows_1 f u x y z w c = allE f u x y z w c ∧ drift_Allows_0 f u x y z w c = decide (allB f u x y z w c) := by
  obtain ⟨sp, s4, s0, s1, s2, s3⟩ := sum_is f u c hc
  unfold drift_Allows_pre drift_Allows_1 drift_Allows_0 allB allE
  rw [place_eq, place_eq, s4, s0, s1, s2, s3]
  by_cases h1 : VP x y
  · by_cases h2 : VP z w
    · rw [decide_eq_true h1, decide_eq_true h2]
      simp only [Bool.not_true, Bool.or_self, cond_false, h1, h2, not_true, or_self, if_false]
      refine ⟨fun _ => sp, ?_⟩
      by_cases hs : sumE f u c = 0
      · unfold sumV
        rw [hs]
        simp only [bne_self_eq_false, cond_false, if_true, true_and]
        unfold VP at h1 h2
        rw [i64_wrap (x := z - x) (by omega), i64_wrap (x := w - y) (by omega), i64_wrap (x := 100 * (z - x)) (by omega), i64_wrap (x := 100 * (w - y)) (by omega)]
        rw [Bool.eq_iff_iff]
        simp [and_assoc]
      · have : (sumE f u c != 0) = true := by simpa using hs
        rw [this]
        simp [hs]
    · rw [decide_eq_true h1, decide_eq_false h2]
      simp [h1, h2]
  · rw [decide_eq_false h1]
    simp [h1]

/-! ### In -/
/-- A place is in a box. -/
def HB (x y : Int) (b : List Int) : Prop := b.getD 0 0 ≤ x ∧ x ≤ b.getD 1 0 ∧ b.getD 2 0 ≤ y ∧ y ≤ b.getD 3 0
instance (x y : Int) (b : List Int) : Decidable (HB x y b) := by unfold HB; infer_instance
theorem inBox_eq {x y : Int} {b : List Int} (hp : VP x y) (hb : VB b) : span_InBox_0 x y (b.getD 0 0) (b.getD 1 0) (b.getD 2 0) (b.getD 3 0) = decide (HB x y b) := by
  have hp' : span_ValidBox_0 x x y y = true := by
    have := place_eq x y
    unfold drift_place_0 at this
    rw [this, decide_eq_true hp]
  unfold span_InBox_0 span_Join_2 span_Join_0 span_Join_1 span_ends_int_0 span_ends_int_1
  rw [hp', vb_eq, decide_eq_true hb]
  unfold VB VP HB at *
  rw [span_valid_eq, span_valid_eq, span_valid_eq, span_valid_eq]
  rw [decide_eq_true (show -1000000000000 ≤ x ∧ _ by omega), decide_eq_true (show -1000000000000 ≤ y ∧ _ by omega), decide_eq_true (show -1000000000000 ≤ b.getD 0 0 ∧ _ by omega), decide_eq_true (show -1000000000000 ≤ b.getD 2 0 ∧ _ by omega)]
  simp only [Bool.not_true, Bool.or_self, cond_false, imax_eq, imin_eq]
  rw [Bool.eq_iff_iff]
  simp
  omega
def inE (x y : Int) (l : List (List Int)) : Int := if ¬ VL l ∨ ¬ VP x y then 1 else 0
def inB (x y : Int) (l : List (List Int)) : Prop := inE x y l = 0 ∧ ∃ b ∈ l, HB x y b
instance (x y : Int) (l : List (List Int)) : Decidable (inB x y l) := by unfold inB; infer_instance
theorem in_is (x y : Int) (l : List (List Int)) : drift_In_pre x y l ∧ drift_In_1 x y l = inE x y l ∧ drift_In_0 x y l = decide (inB x y l) := by
  have hv := valid_is l
  unfold drift_In_pre drift_In_1 drift_In_0 inB inE
  rw [hv.2, place_eq]
  by_cases h1 : VL l
  · by_cases h2 : VP x y
    · have key := loop_search (step := drift_In_l0_step x y l) l.length (fun i => decide (HB x y (l.getD i []))) (fun i => [.i 0, .i i]) (fun i => [.i i]) 0 2 [.i 0, .i l.length]
        (fun i hi => by
          have := h1.2.1
          unfold drift_In_l0_step
          simp only [gi_1, gi_z, gb_z, dlt hi, guardP_pos (inR_of hi), Int.toNat_natCast, wrap_succ (show i < 4611686018427387904 by omega), inBox_eq h2 (h1.2.2 _ (getD_mem hi))]
          try rfl)
        (by
          unfold drift_In_l0_step
          simp only [gi_1, gi_z, gb_z, dnlt]
          try rfl)
      rw [decide_eq_true h1, decide_eq_true h2]
      simp only [Bool.not_true, Bool.or_self, cond_false, h1, h2, not_true, or_self, if_false, true_and]
      refine ⟨⟨hv.1, fun _ => key.1⟩, ?_⟩
      rcases key.2 with ⟨i, g1, g2, g3, g4⟩ | ⟨g3, g4⟩
      · have e : drift_In_l0 x y l = (1, [.i i]) := g4
        rw [e, decide_eq_true (show ∃ b ∈ l, HB x y b from ⟨_, getD_mem g1, by simpa using g2⟩)]
        simp [Nat.beq, gi_z]
      · have e : drift_In_l0 x y l = (3, [.i 0, .i l.length]) := g4
        rw [e, decide_eq_false (show ¬ ∃ b ∈ l, HB x y b from by
          rintro ⟨b, hb, hn⟩
          obtain ⟨j, hj, rfl⟩ := getD_of_mem hb
          have := g3 j hj
          rw [decide_eq_true hn] at this
          cases this)]
        simp [Nat.beq]
    · rw [decide_eq_true h1, decide_eq_false h2]
      simp [h1, h2, hv.1]
  · rw [decide_eq_false h1]
    simp [h1, hv.1]

/-! ### Cut -/
/-- What two boxes have in common. -/
def mtB (a b : List Int) : List Int := [max (a.getD 0 0) (b.getD 0 0), min (a.getD 1 0) (b.getD 1 0), max (a.getD 2 0) (b.getD 2 0), min (a.getD 3 0) (b.getD 3 0)]
def MB (a b : List Int) : Prop := max (a.getD 0 0) (b.getD 0 0) ≤ min (a.getD 1 0) (b.getD 1 0) ∧ max (a.getD 2 0) (b.getD 2 0) ≤ min (a.getD 3 0) (b.getD 3 0)
instance (a b : List Int) : Decidable (MB a b) := by unfold MB; infer_instance
theorem imax_max (a b : Int) : imax a b = max a b := by rw [imax_eq]; split <;> omega
theorem imin_min (a b : Int) : imin a b = min a b := by rw [imin_eq]; split <;> omega
theorem meet_eq {s t x y : Int} (h1 : -1000000000000 ≤ s ∧ s ≤ t ∧ t ≤ 1000000000000) (h2 : -1000000000000 ≤ x ∧ x ≤ y ∧ y ≤ 1000000000000) :
    span_Meet_2 s t x y = (if max s x ≤ min t y then 0 else 4) ∧ (max s x ≤ min t y → span_Meet_0 s t x y = max s x ∧ span_Meet_1 s t x y = min t y) := by
  unfold span_Meet_2 span_Meet_0 span_Meet_1
  rw [span_valid_eq, span_valid_eq, decide_eq_true h1, decide_eq_true h2, imax_max, imin_min]
  by_cases h : max s x ≤ min t y
  · rw [decide_eq_false (by omega)]; simp [h]
  · rw [decide_eq_true (show min t y < max s x by omega)]; simp [h]
theorem meetBox_eq {a b : List Int} (ha : VB a) (hb : VB b) :
    span_MeetBox_4 (a.getD 0 0) (a.getD 1 0) (a.getD 2 0) (a.getD 3 0) (b.getD 0 0) (b.getD 1 0) (b.getD 2 0) (b.getD 3 0) = (if MB a b then 0 else 4) ∧
    (MB a b → [span_MeetBox_0 (a.getD 0 0) (a.getD 1 0) (a.getD 2 0) (a.getD 3 0) (b.getD 0 0) (b.getD 1 0) (b.getD 2 0) (b.getD 3 0), span_MeetBox_1 (a.getD 0 0) (a.getD 1 0) (a.getD 2 0) (a.getD 3 0) (b.getD 0 0) (b.getD 1 0) (b.getD 2 0) (b.getD 3 0),
      span_MeetBox_2 (a.getD 0 0) (a.getD 1 0) (a.getD 2 0) (a.getD 3 0) (b.getD 0 0) (b.getD 1 0) (b.getD 2 0) (b.getD 3 0), span_MeetBox_3 (a.getD 0 0) (a.getD 1 0) (a.getD 2 0) (a.getD 3 0) (b.getD 0 0) (b.getD 1 0) (b.getD 2 0) (b.getD 3 0)] = mtB a b) := by
  unfold span_MeetBox_4 span_MeetBox_3 span_MeetBox_2 span_MeetBox_1 span_MeetBox_0
  rw [vb_eq, vb_eq, decide_eq_true ha, decide_eq_true hb]
  unfold VB at ha hb
  obtain ⟨x1, x2⟩ := meet_eq (s := a.getD 0 0) (t := a.getD 1 0) (x := b.getD 0 0) (y := b.getD 1 0) (by omega) (by omega)
  obtain ⟨y1, y2⟩ := meet_eq (s := a.getD 2 0) (t := a.getD 3 0) (x := b.getD 2 0) (y := b.getD 3 0) (by omega) (by omega)
  rw [x1, y1, imax_max]
  simp only [Bool.not_true, Bool.or_self, cond_false]
  by_cases h1 : max (a.getD 0 0) (b.getD 0 0) ≤ min (a.getD 1 0) (b.getD 1 0)
  · obtain ⟨x3, x4⟩ := x2 h1
    by_cases h2 : max (a.getD 2 0) (b.getD 2 0) ≤ min (a.getD 3 0) (b.getD 3 0)
    · obtain ⟨y3, y4⟩ := y2 h2
      rw [if_pos h1, if_pos h2, if_pos (show MB a b from ⟨h1, h2⟩)]
      refine ⟨rfl, fun _ => ?_⟩
      rw [x3, x4, y3, y4]
      rfl
    · rw [if_pos h1, if_neg h2, if_neg (show ¬ MB a b from fun h => h2 h.2)]
      exact ⟨rfl, fun h => absurd h.2 h2⟩
  · rw [if_neg h1, if_neg (show ¬ MB a b from fun h => h1 h.1)]
    refine ⟨?_, fun h => absurd h.1 h1⟩
    by_cases h2 : max (a.getD 2 0) (b.getD 2 0) ≤ min (a.getD 3 0) (b.getD 3 0)
    · rw [if_pos h2]; rfl
    · rw [if_neg h2]; rfl
/-- The parts of a set that are in a box. -/
def cutP (b : List Int) (l : List (List Int)) : List (List Int) := l.filterMap fun c => if MB c b then some (mtB c b) else none
def cutE (b : List Int) (l : List (List Int)) : Int := if ¬ VL l ∨ ¬ VB b then 1 else if cutP b l = [] then 4 else 0
def cutL (b : List Int) (l : List (List Int)) : List (List Int) := if cutE b l = 0 then cutP b l else []
theorem cutP_len (b : List Int) (l : List (List Int)) : (cutP b l).length ≤ l.length := List.length_filterMap_le _ _
theorem cut_is (a0 a1 a2 a3 : Int) (l : List (List Int)) : drift_Cut_pre a0 a1 a2 a3 l ∧ drift_Cut_1 a0 a1 a2 a3 l = cutE [a0, a1, a2, a3] l ∧ drift_Cut_0 a0 a1 a2 a3 l = cutL [a0, a1, a2, a3] l := by
  have hv := valid_is l
  have hb : span_ValidBox_0 a0 a1 a2 a3 = decide (VB [a0, a1, a2, a3]) := vb_eq [a0, a1, a2, a3]
  unfold drift_Cut_pre drift_Cut_1 drift_Cut_0 cutL cutE
  rw [hv.2, hb]
  by_cases h1 : VL l
  · by_cases h2 : VB [a0, a1, a2, a3]
    · have hlen := h1.2.1
      have key := loop_fold (σ := Unit) (step := drift_Cut_l0_step a0 a1 a2 a3 l) l.length (fun i _ => [.i i, .r (cutP [a0, a1, a2, a3] (l.take i))]) (fun _ s => s) (fun _ _ => True) 2 (fun _ => [.i l.length, .r (cutP [a0, a1, a2, a3] l)])
        (fun _ _ _ _ => trivial)
        (fun i s hi _ => by
          have hc := h1.2.2 _ (getD_mem hi)
          obtain ⟨m1, m2⟩ := meetBox_eq hc h2
          unfold drift_Cut_l0_step
          simp only [gi_z, gi_1, gr_z, gr_1, dlt hi, guardP_pos (inR_of hi), Int.toNat_natCast, wrap_succ (show i < 4611686018427387904 by omega)]
          have e : cutP [a0, a1, a2, a3] (l.take (i + 1)) = cutP [a0, a1, a2, a3] (l.take i) ++ (if MB (l.getD i []) [a0, a1, a2, a3] then [mtB (l.getD i []) [a0, a1, a2, a3]] else []) := by
            unfold cutP
            rw [take_succ' hi, List.filterMap_append]
            by_cases hm : MB (l.getD i []) [a0, a1, a2, a3]
            · simp only [List.filterMap, if_pos hm]
            · simp only [List.filterMap, if_neg hm]
          have hle := cutP_len [a0, a1, a2, a3] (l.take i)
          rw [List.length_take] at hle
          rw [e]
          have m1 : span_MeetBox_4 ((l.getD i []).getD 0 0) ((l.getD i []).getD 1 0) ((l.getD i []).getD 2 0) ((l.getD i []).getD 3 0) a0 a1 a2 a3 = _ := m1
          rw [m1]
          by_cases hm : MB (l.getD i []) [a0, a1, a2, a3]
          · have m2 := m2 hm
            simp only [if_pos hm, beq_self_eq_true, cond_true]
            have m2 : [span_MeetBox_0 ((l.getD i []).getD 0 0) ((l.getD i []).getD 1 0) ((l.getD i []).getD 2 0) ((l.getD i []).getD 3 0) a0 a1 a2 a3, _, _, _] = _ := m2
            rw [guardP_pos (by simp only [List.length_cons, List.length_nil, fitsA]; simp [maxLen]; omega)]
            rw [← m2]
            rfl
          · simp only [if_neg hm, List.append_nil]
            rfl)
        (fun s _ => by
          unfold drift_Cut_l0_step
          simp only [gi_z, gi_1, gr_z, gr_1, dnlt, List.take_length]) (s := ()) trivial
      rw [decide_eq_true h1, decide_eq_true h2]
      have e : drift_Cut_l0 a0 a1 a2 a3 l = _ := key.2.1
      rw [e]
      simp only [Bool.not_true, Bool.or_self, cond_false, h1, h2, not_true, or_self, if_false, gr_z, gr_1]
      refine ⟨⟨hv.1, fun _ => key.1⟩, ?_⟩
      cases hcp : cutP [a0, a1, a2, a3] l with
      | nil => simp
      | cons x r =>
        have : (((x :: r).length : Int) == (0 : Int)) = false := by simp; omega
        rw [this]
        simp
    · rw [decide_eq_true h1, decide_eq_false h2]
      simp [h1, h2, hv.1]
  · rw [decide_eq_false h1]
    simp [h1, hv.1]

/-! ### comparisons -/
def WB (a b : List Int) : Prop := b.getD 0 0 ≤ a.getD 0 0 ∧ a.getD 1 0 ≤ b.getD 1 0 ∧ b.getD 2 0 ≤ a.getD 2 0 ∧ a.getD 3 0 ≤ b.getD 3 0
instance (a b : List Int) : Decidable (WB a b) := by unfold WB; infer_instance
theorem within_is (a b : List (List Int)) (ha : a.length < 4611686018427387904) : law23_within_pre a b ∧ (law23_within_0 a b = true ↔ a.length = b.length ∧ ∀ i, i < a.length → WB (a.getD i []) (b.getD i [])) := by
  unfold law23_within_pre law23_within_0
  by_cases hl : a.length = b.length
  · have hl' : ((a.length : Int) != (b.length : Int)) = false := by simp [hl]
    have key := loop_search (step := law23_within_l0_step a b) a.length (fun i => !decide (WB (a.getD i []) (b.getD i []))) (fun i => [.b false, .i i]) (fun _ => []) 0 2 [.b false, .i a.length]
      (fun i hi => by
        have hi' : i < b.length := hl ▸ hi
        unfold law23_within_l0_step
        simp only [gi_1, gi_z, gb_z, dlt hi, guardP_pos (inR_of hi), guardP_pos (inR_of hi'), guardP_pos (fun _ => inR_of hi), guardP_pos (fun _ => inR_of hi'), Int.toNat_natCast, wrap_succ (show i < 4611686018427387904 by omega)]
        congr 1
        unfold WB
        rw [Bool.eq_iff_iff]
        simp
        omega)
      (by
        unfold law23_within_l0_step
        simp only [gi_1, gi_z, gb_z, dnlt]
        try rfl)
    rw [hl']
    refine ⟨fun _ => key.1, ?_⟩
    rcases key.2 with ⟨i, h1, h2, h3, h4⟩ | ⟨h3, h4⟩
    · have e : law23_within_l0 a b = (1, []) := h4
      rw [e]
      simp only [cond_false, Nat.beq]
      constructor
      · intro h; cases h
      · rintro ⟨_, h⟩
        have := h i h1
        rw [decide_eq_true this] at h2
        cases h2
    · have e : law23_within_l0 a b = (3, [.b false, .i a.length]) := h4
      rw [e]
      simp only [cond_false, Nat.beq]
      refine ⟨fun _ => ⟨hl, fun i hi => ?_⟩, fun _ => by trivial⟩
      have := h3 i hi
      simpa using this
  · have hl' : ((a.length : Int) != (b.length : Int)) = true := by simp; omega
    rw [hl']
    refine ⟨fun h => (Bool.noConfusion h), ?_⟩
    simp only [cond_true]
    constructor
    · intro h; cases h
    · exact fun h => absurd h.1 hl
/-- Equality as the code has it. -/
def same4 (a b : List Int) : Bool := (a.getD 0 (0 : Int) == b.getD 0 (0 : Int) && (a.getD 1 (0 : Int) == b.getD 1 (0 : Int) && true) && (a.getD 2 (0 : Int) == b.getD 2 (0 : Int) && (a.getD 3 (0 : Int) == b.getD 3 (0 : Int) && true) && true))
theorem same4_is {a b : List Int} (ha : a.length = 4) (hb : b.length = 4) : same4 a b = decide (a = b) := by
  match a, ha, b, hb with
  | [_, _, _, _], _, [_, _, _, _], _ =>
    rw [Bool.eq_iff_iff]
    simp [same4, and_assoc]
def same6 (a b : List Int) : Bool := (a.getD 0 (0 : Int) == b.getD 0 (0 : Int) && (a.getD 1 (0 : Int) == b.getD 1 (0 : Int) && (a.getD 2 (0 : Int) == b.getD 2 (0 : Int) && (a.getD 3 (0 : Int) == b.getD 3 (0 : Int) && true) && (a.getD 4 (0 : Int) == b.getD 4 (0 : Int) && (a.getD 5 (0 : Int) == b.getD 5 (0 : Int) && true) && true))))
theorem same6_is {a b : List Int} (ha : a.length = 6) (hb : b.length = 6) : same6 a b = decide (a = b) := by
  match a, ha, b, hb with
  | [_, _, _, _, _, _], _, [_, _, _, _, _, _], _ =>
    rw [Bool.eq_iff_iff]
    simp [same6, and_assoc]
theorem same_is (a b : List (List Int)) (ha : a.length < 4611686018427387904) :
    ref23_Same_pre a b ∧ (ref23_Same_0 a b = true ↔ a.length = b.length ∧ ∀ i, i < a.length → same4 (a.getD i []) (b.getD i []) = true) := by
  unfold ref23_Same_pre ref23_Same_0
  by_cases hl : a.length = b.length
  · have hl' : ((a.length : Int) != (b.length : Int)) = false := by simp [hl]
    have key := loop_search (step := ref23_Same_l0_step a b) a.length (fun i => !same4 (a.getD i []) (b.getD i [])) (fun i => [.b false, .i i]) (fun _ => []) 0 2 [.b false, .i a.length]
      (fun i hi => by
        unfold ref23_Same_l0_step
        simp only [gi_1, gi_z, gb_z, dlt hi, guardP_pos (inR_of hi), guardP_pos (inR_of (hl ▸ hi : i < b.length)), Int.toNat_natCast, wrap_succ (show i < 4611686018427387904 by omega)]
        try rfl)
      (by
        unfold ref23_Same_l0_step
        simp only [gi_1, gi_z, gb_z, dnlt]
        try rfl)
    rw [hl']
    refine ⟨fun _ => key.1, ?_⟩
    rcases key.2 with ⟨i, h1, h2, h3, h4⟩ | ⟨h3, h4⟩
    · have e : ref23_Same_l0 a b = (1, []) := h4
      rw [e]
      simp only [cond_false, Nat.beq]
      constructor
      · intro h; cases h
      · rintro ⟨_, h⟩
        have := h i h1
        rw [this] at h2
        cases h2
    · have e : ref23_Same_l0 a b = (3, [.b false, .i a.length]) := h4
      rw [e]
      simp only [cond_false, Nat.beq]
      refine ⟨fun _ => ⟨hl, fun i hi => ?_⟩, fun _ => by trivial⟩
      have := h3 i hi
      simpa using this
  · have hl' : ((a.length : Int) != (b.length : Int)) = true := by simp; omega
    rw [hl']
    refine ⟨fun h => (Bool.noConfusion h), ?_⟩
    simp only [cond_true]
    constructor
    · intro h; cases h
    · exact fun h => absurd h.1 hl
theorem flows_is (a b : List (List Int)) (ha : a.length < 4611686018427387904) :
    ref23_Flows_pre a b ∧ (ref23_Flows_0 a b = true ↔ a.length = b.length ∧ ∀ i, i < a.length → same6 (a.getD i []) (b.getD i []) = true) := by
  unfold ref23_Flows_pre ref23_Flows_0
  by_cases hl : a.length = b.length
  · have hl' : ((a.length : Int) != (b.length : Int)) = false := by simp [hl]
    have key := loop_search (step := ref23_Flows_l0_step a b) a.length (fun i => !same6 (a.getD i []) (b.getD i [])) (fun i => [.b false, .i i]) (fun _ => []) 0 2 [.b false, .i a.length]
      (fun i hi => by
        unfold ref23_Flows_l0_step
        simp only [gi_1, gi_z, gb_z, dlt hi, guardP_pos (inR_of hi), guardP_pos (inR_of (hl ▸ hi : i < b.length)), Int.toNat_natCast, wrap_succ (show i < 4611686018427387904 by omega)]
        try rfl)
      (by
        unfold ref23_Flows_l0_step
        simp only [gi_1, gi_z, gb_z, dnlt]
        try rfl)
    rw [hl']
    refine ⟨fun _ => key.1, ?_⟩
    rcases key.2 with ⟨i, h1, h2, h3, h4⟩ | ⟨h3, h4⟩
    · have e : ref23_Flows_l0 a b = (1, []) := h4
      rw [e]
      simp only [cond_false, Nat.beq]
      constructor
      · intro h; cases h
      · rintro ⟨_, h⟩
        have := h i h1
        rw [this] at h2
        cases h2
    · have e : ref23_Flows_l0 a b = (3, [.b false, .i a.length]) := h4
      rw [e]
      simp only [cond_false, Nat.beq]
      refine ⟨fun _ => ⟨hl, fun i hi => ?_⟩, fun _ => by trivial⟩
      have := h3 i hi
      simpa using this
  · have hl' : ((a.length : Int) != (b.length : Int)) = true := by simp; omega
    rw [hl']
    refine ⟨fun h => (Bool.noConfusion h), ?_⟩
    simp only [cond_true]
    constructor
    · intro h; cases h
    · exact fun h => absurd h.1 hl
theorem same_eq {a b : List (List Int)} (ha : a.length < 4611686018427387904) (h1 : ∀ e ∈ a, e.length = 4) (h2 : ∀ e ∈ b, e.length = 4) : ref23_Same_0 a b = decide (a = b) := by
  rw [Bool.eq_iff_iff, (same_is a b ha).2, decide_eq_true_eq]
  constructor
  · rintro ⟨hl, h⟩
    refine list_eq_of hl fun i hi => ?_
    have e := h i hi
    rw [same4_is (h1 _ (getD_mem hi)) (h2 _ (getD_mem (hl ▸ hi : i < b.length)))] at e
    simpa using e
  · rintro rfl
    refine ⟨rfl, fun i hi => ?_⟩
    rw [same4_is (h1 _ (getD_mem hi)) (h1 _ (getD_mem hi))]
    simp
theorem flows_eq {a b : List (List Int)} (ha : a.length < 4611686018427387904) (h1 : ∀ e ∈ a, e.length = 6) (h2 : ∀ e ∈ b, e.length = 6) : ref23_Flows_0 a b = decide (a = b) := by
  rw [Bool.eq_iff_iff, (flows_is a b ha).2, decide_eq_true_eq]
  constructor
  · rintro ⟨hl, h⟩
    refine list_eq_of hl fun i hi => ?_
    have e := h i hi
    rw [same6_is (h1 _ (getD_mem hi)) (h2 _ (getD_mem (hl ▸ hi : i < b.length)))] at e
    simpa using e
  · rintro rfl
    refine ⟨rfl, fun i hi => ?_⟩
    rw [same6_is (h1 _ (getD_mem hi)) (h1 _ (getD_mem hi))]
    simp
end Go.Proofs.YtddfnokjnafdpaaGreat

/-!
  What the drift over times comes to.
-/
set_option linter.unusedVariables false
set_option maxRecDepth 100000
namespace Go.Proofs.YtddfnokjnafdpaaGreat
open Go Go.Sy

theorem mins_add {f m u e : Int} {c : List Int} (hc : CO e c) (h1 : f ≤ m) (h2 : m ≤ u) : mins f u c = mins f m c + mins m u c := by
  unfold mins CO at *; omega
theorem sum_map_add {α : Type} (l : List α) (p q r : α → Int) (h : ∀ x ∈ l, p x = q x + r x) : (l.map p).sum = (l.map q).sum + (l.map r).sum := by
  induction l with
  | nil => rfl
  | cons x l ih =>
    simp only [List.map_cons, List.sum_cons]
    rw [ih fun y hy => h y (List.mem_cons_of_mem _ hy), h x List.mem_cons_self]
    omega
theorem sum_map_le {α : Type} (l : List α) (p q : α → Int) (h : ∀ x ∈ l, p x ≤ q x) : (l.map p).sum ≤ (l.map q).sum := by
  induction l with
  | nil => exact Int.le_refl _
  | cons x l ih =>
    simp only [List.map_cons, List.sum_cons]
    have := ih fun y hy => h y (List.mem_cons_of_mem _ hy)
    have := h x List.mem_cons_self
    omega
theorem sumL_add {f m u : Int} {l : List (List Int)} (hv : VC l) (h1 : f ≤ m) (h2 : m ≤ u) (k : Nat) : sumL f u k l = sumL f m k l + sumL m u k l :=
  sum_map_add _ _ _ _ fun c hc => by rw [mins_add (CL_mem hv.1 c hc) h1 h2, Int.add_mul]
theorem covL_add {f m u : Int} {l : List (List Int)} (hv : VC l) (h1 : f ≤ m) (h2 : m ≤ u) : covL f u l = covL f m l + covL m u l :=
  sum_map_add _ _ _ _ fun c hc => mins_add (CL_mem hv.1 c hc) h1 h2
theorem covL_cl {f u : Int} : ∀ (e : Int) (l : List (List Int)), CL e l → covL f u l ≤ max 0 (u - max e f)
  | e, [], _ => by simp [covL]; omega
  | e, c :: l, h => by
    have ih := covL_cl (f := f) (u := u) (c.getD 1 0) l h.2
    have hc := h.1
    have e1 : covL f u (c :: l) = mins f u c + covL f u l := by simp [covL]
    rw [e1]
    unfold CO at hc
    unfold mins
    omega
theorem covL_le {f u : Int} {l : List (List Int)} (hv : VC l) (ht : VT f u) : covL f u l ≤ u - f := by
  have := covL_cl (f := f) (u := u) 0 l hv.1
  unfold VT at ht
  omega
theorem covL_nn {f u : Int} {l : List (List Int)} : 0 ≤ covL f u l := by
  unfold covL
  induction l with
  | nil => simp
  | cons c l ih => simp only [List.map_cons, List.sum_cons]; unfold mins at *; omega
theorem mins_nn (f u : Int) (c : List Int) : 0 ≤ mins f u c := by unfold mins; omega
theorem sumL_le {f u : Int} {l : List (List Int)} (hv : VC l) {j k : Nat} (h : ∀ c ∈ l, c.getD j 0 ≤ c.getD k 0) : sumL f u j l ≤ sumL f u k l :=
  sum_map_le _ _ _ fun c hc => Int.mul_le_mul_of_nonneg_left (h c hc) (mins_nn f u c)
theorem sumL_x {f u : Int} {l : List (List Int)} (hv : VC l) : sumL f u 2 l ≤ sumL f u 3 l := sumL_le hv fun c hc => by have := CL_mem hv.1 c hc; unfold CO at this; omega
theorem sumL_y {f u : Int} {l : List (List Int)} (hv : VC l) : sumL f u 4 l ≤ sumL f u 5 l := sumL_le hv fun c hc => by have := CL_mem hv.1 c hc; unfold CO at this; omega
theorem mins_none (f : Int) (c : List Int) : mins f f c = 0 := by unfold mins; omega
theorem sumL_none (f : Int) (k : Nat) (l : List (List Int)) : sumL f f k l = 0 := by
  unfold sumL
  induction l with
  | nil => rfl
  | cons c l ih => simp only [List.map_cons, List.sum_cons, mins_none] at *; omega
theorem covL_none (f : Int) (l : List (List Int)) : covL f f l = 0 := by
  unfold covL
  induction l with
  | nil => rfl
  | cons c l ih => simp only [List.map_cons, List.sum_cons, mins_none] at *; omega
theorem sumE_cases (f u : Int) (l : List (List Int)) : (sumE f u l = 1 ∧ (¬ VC l ∨ ¬ VT f u)) ∨ (sumE f u l = 4 ∧ VC l ∧ VT f u ∧ covL f u l < u - f) ∨ (sumE f u l = 0 ∧ VC l ∧ VT f u ∧ covL f u l = u - f) := by
  unfold sumE
  by_cases h : ¬ VC l ∨ ¬ VT f u
  · rw [if_pos h]; exact .inl ⟨rfl, h⟩
  · have hv : VC l := Decidable.byContradiction fun hn => h (.inl hn)
    have ht : VT f u := Decidable.byContradiction fun hn => h (.inr hn)
    rw [if_neg h]
    have := covL_le hv ht
    by_cases hc : u - f - covL f u l > 0
    · rw [if_pos hc]; exact .inr (.inl ⟨rfl, hv, ht, by omega⟩)
    · rw [if_neg hc]; exact .inr (.inr ⟨rfl, hv, ht, by omega⟩)
theorem sumE_self {f : Int} {l : List (List Int)} (hv : VC l) (ht : VT f f) : sumE f f l = 0 := by
  rcases sumE_cases f f l with ⟨_, h | h⟩ | ⟨_, _, _, h⟩ | ⟨h, _⟩
  · exact absurd hv h
  · exact absurd ht h
  · rw [covL_none] at h; omega
  · exact h
/-- Two steps. -/
theorem sumE_two {f m u : Int} {l : List (List Int)} (h1 : sumE f m l = 0) (h2 : sumE m u l = 0) : sumE f u l = 0 := by
  have a := sumE_ok h1
  have b := sumE_ok h2
  have ht : VT f u := by have := a.2.1; have := b.2.1; unfold VT at *; omega
  have hm : f ≤ m ∧ m ≤ u := by have := a.2.1; have := b.2.1; unfold VT at *; omega
  have := covL_add a.1 hm.1 hm.2
  rcases sumE_cases f u l with ⟨_, h | h⟩ | ⟨_, _, _, h⟩ | ⟨h, _⟩
  · exact absurd a.1 h
  · exact absurd ht h
  · omega
  · exact h
theorem sumV_ok {f u : Int} {l : List (List Int)} (h : sumE f u l = 0) (k : Nat) : sumV f u k l = sumL f u k l := by unfold sumV; rw [if_pos h]
/-- What a box is moved to, as one may see it. -/
theorem mvF_get (f u : Int) (c : List (List Int)) (b : List Int) : (mvF f u c b).getD 0 0 = lo (b.getD 0 0) (sumV f u 2 c) ∧ (mvF f u c b).getD 1 0 = hi (b.getD 1 0) (sumV f u 3 c) ∧ (mvF f u c b).getD 2 0 = lo (b.getD 2 0) (sumV f u 4 c) ∧ (mvF f u c b).getD 3 0 = hi (b.getD 3 0) (sumV f u 5 c) := ⟨rfl, rfl, rfl, rfl⟩
theorem moveE_cases (f u : Int) (l c : List (List Int)) : (moveE f u l c = 1 ∧ (¬ VL l ∨ ¬ VC c ∨ ¬ VT f u)) ∨ (moveE f u l c = 4 ∧ VL l ∧ sumE f u c = 4) ∨ (moveE f u l c = 3 ∧ VL l ∧ sumE f u c = 0 ∧ ∃ b ∈ l, ¬ VB (mvF f u c b)) ∨ (moveE f u l c = 0 ∧ VL l ∧ sumE f u c = 0 ∧ ∀ b ∈ l, VB (mvF f u c b)) := by
  unfold moveE
  by_cases hl : VL l
  · rcases sumE_cases f u c with ⟨h, h2⟩ | ⟨h, _⟩ | ⟨h, _⟩
    · left; simp [hl, h, h2]
    · right; left; simp [hl, h]
    · right; right
      by_cases hb : ∃ b ∈ l, ¬ VB (mvF f u c b)
      · left; rw [if_neg (fun k => k hl), if_neg (fun k => k h), if_pos hb]; exact ⟨rfl, hl, h, hb⟩
      · right; rw [if_neg (fun k => k hl), if_neg (fun k => k h), if_neg hb]; exact ⟨rfl, hl, h, fun b hb' => Decidable.byContradiction fun hn => hb ⟨b, hb', hn⟩⟩
  · left; simp [hl]
theorem moveE_ok {f u : Int} {l c : List (List Int)} (h : moveE f u l c = 0) : VL l ∧ sumE f u c = 0 ∧ (∀ b ∈ l, VB (mvF f u c b)) ∧ moveL f u l c = l.map (mvF f u c) := by
  have e : moveL f u l c = l.map (mvF f u c) := by unfold moveL; rw [if_pos h]
  rcases moveE_cases f u l c with ⟨g, _⟩ | ⟨g, _⟩ | ⟨g, _⟩ | ⟨_, h1, h2, h3⟩
  · rw [h] at g; cases g
  · rw [h] at g; cases g
  · rw [h] at g; cases g
  · exact ⟨h1, h2, h3, e⟩
theorem moveE_of {f u : Int} {l c : List (List Int)} (h1 : VL l) (h2 : sumE f u c = 0) (h3 : ∀ b ∈ l, VB (mvF f u c b)) : moveE f u l c = 0 := by
  rcases moveE_cases f u l c with ⟨g, h | h | h⟩ | ⟨g, _, h⟩ | ⟨g, _, _, b, hb, hn⟩ | ⟨g, _⟩
  · exact absurd h1 h
  · exact absurd (sumE_ok h2).1 h
  · exact absurd (sumE_ok h2).2.1 h
  · rw [h2] at h; cases h
  · exact absurd (h3 b hb) hn
  · exact g
theorem moveE_ne {f u : Int} {l c : List (List Int)} (h : moveE f u l c ≠ 0) : moveL f u l c = [] := by unfold moveL; rw [if_neg h]
theorem VL_map {l : List (List Int)} {g : List Int → List Int} (h : VL l) (hg : ∀ b ∈ l, VB (g b)) : VL (l.map g) := by
  refine ⟨by simpa using h.1, by simpa using h.2.1, fun b hb => ?_⟩
  obtain ⟨a, ha, rfl⟩ := List.mem_map.1 hb
  exact hg a ha
theorem allE_cases (f u x y z w : Int) (c : List (List Int)) : (allE f u x y z w c = 1 ∧ (¬ VP x y ∨ ¬ VP z w)) ∨ (allE f u x y z w c = sumE f u c ∧ VP x y ∧ VP z w) := by
  unfold allE
  by_cases h : ¬ VP x y ∨ ¬ VP z w
  · rw [if_pos h]; exact .inl ⟨rfl, h⟩
  · rw [if_neg h]; exact .inr ⟨rfl, Decidable.byContradiction fun hn => h (.inl hn), Decidable.byContradiction fun hn => h (.inr hn)⟩
theorem inE_cases (x y : Int) (l : List (List Int)) : (inE x y l = 1 ∧ (¬ VL l ∨ ¬ VP x y)) ∨ (inE x y l = 0 ∧ VL l ∧ VP x y) := by
  unfold inE
  by_cases h : ¬ VL l ∨ ¬ VP x y
  · rw [if_pos h]; exact .inl ⟨rfl, h⟩
  · rw [if_neg h]; exact .inr ⟨rfl, Decidable.byContradiction fun hn => h (.inl hn), Decidable.byContradiction fun hn => h (.inr hn)⟩
theorem cutE_cases (b : List Int) (l : List (List Int)) : (cutE b l = 1 ∧ (¬ VL l ∨ ¬ VB b)) ∨ (cutE b l = 4 ∧ VL l ∧ VB b ∧ cutP b l = []) ∨ (cutE b l = 0 ∧ VL l ∧ VB b ∧ cutP b l ≠ [] ∧ cutL b l = cutP b l) := by
  unfold cutL cutE
  by_cases h : ¬ VL l ∨ ¬ VB b
  · rw [if_pos h]; exact .inl ⟨rfl, h⟩
  · have h1 : VL l := Decidable.byContradiction fun hn => h (.inl hn)
    have h2 : VB b := Decidable.byContradiction fun hn => h (.inr hn)
    rw [if_neg h]
    by_cases hc : cutP b l = []
    · rw [if_pos hc]; exact .inr (.inl ⟨rfl, h1, h2, hc⟩)
    · rw [if_neg hc]; exact .inr (.inr ⟨rfl, h1, h2, hc, if_pos rfl⟩)
theorem mem_cutP {b x : List Int} {l : List (List Int)} : x ∈ cutP b l ↔ ∃ c ∈ l, MB c b ∧ x = mtB c b := by
  unfold cutP
  rw [List.mem_filterMap]
  constructor
  · rintro ⟨c, hc, h⟩
    split at h
    · rename_i hm; cases h; exact ⟨c, hc, hm, rfl⟩
    · cases h
  · rintro ⟨c, hc, hm, rfl⟩
    exact ⟨c, hc, if_pos hm⟩
theorem mtB_get (a b : List Int) : (mtB a b).getD 0 0 = max (a.getD 0 0) (b.getD 0 0) ∧ (mtB a b).getD 1 0 = min (a.getD 1 0) (b.getD 1 0) ∧ (mtB a b).getD 2 0 = max (a.getD 2 0) (b.getD 2 0) ∧ (mtB a b).getD 3 0 = min (a.getD 3 0) (b.getD 3 0) := ⟨rfl, rfl, rfl, rfl⟩
theorem hb_mt {x y : Int} {a b : List Int} : HB x y (mtB a b) ↔ HB x y a ∧ HB x y b := by
  have := mtB_get a b
  unfold HB; omega
theorem mb_of {x y : Int} {a b : List Int} (h1 : HB x y a) (h2 : HB x y b) : MB a b := by
  unfold HB MB at *; omega
theorem vb_mt {a b : List Int} (h1 : VB a) (h2 : VB b) (h : MB a b) : VB (mtB a b) := by
  have := mtB_get a b
  unfold VB MB at *; omega
theorem in_cut (x y : Int) (b : List Int) (l : List (List Int)) : (∃ c ∈ cutP b l, HB x y c) ↔ (∃ c ∈ l, HB x y c) ∧ HB x y b := by
  constructor
  · rintro ⟨c, hc, h⟩
    obtain ⟨a, ha, hm, rfl⟩ := mem_cutP.1 hc
    have := hb_mt.1 h
    exact ⟨⟨a, ha, this.1⟩, this.2⟩
  · rintro ⟨⟨a, ha, h1⟩, h2⟩
    exact ⟨_, mem_cutP.2 ⟨a, ha, mb_of h1 h2, rfl⟩, hb_mt.2 ⟨h1, h2⟩⟩
theorem vl_cut {b : List Int} {l : List (List Int)} (h1 : VL l) (h2 : VB b) (h3 : cutP b l ≠ []) : VL (cutP b l) := by
  refine ⟨List.length_pos_iff.2 h3, Nat.le_trans (cutP_len b l) h1.2.1, fun x hx => ?_⟩
  obtain ⟨a, ha, hm, rfl⟩ := mem_cutP.1 hx
  exact vb_mt (h1.2.2 a ha) h2 hm
end Go.Proofs.YtddfnokjnafdpaaGreat
