/-
  The loops of package drift as functions on lists.
-/
import Derived.Test.YtddfnokjnafdpaaSyLq
import Derived.Test.YtddfnokjnafdpaaSyH
import Derived.Test.YtddfnokjnafdpaaDrift1D
set_option linter.unusedVariables false
namespace Go.Proofs.Ytddfnokjnafdpaa
open Go Go.Sy

theorem wrap_succ' {i : Nat} (h : i < 9223372036854775807) : IntKind.i64.wrap ((i : Int) + 1) = ((i + 1 : Nat) : Int) := by
  rw [i64_wrap (by omega)]; rfl
theorem imin_eq (a b : Int) : imin a b = if a ≤ b then a else b := by unfold imin; split <;> split <;> omega
theorem imax_eq (a b : Int) : imax a b = if a ≤ b then b else a := by unfold imax; split <;> split <;> omega
theorem span_valid_iff (a b : Int) : span_Valid_0 a b = true ↔ -1000000000000 ≤ a ∧ a ≤ b ∧ b ≤ 1000000000000 := by
  unfold span_Valid_0; simp [and_assoc]
theorem span_valid_eq (a b : Int) : span_Valid_0 a b = decide (-1000000000000 ≤ a ∧ a ≤ b ∧ b ≤ 1000000000000) := by
  rw [Bool.eq_iff_iff, span_valid_iff, decide_eq_true_eq]
/-- Within the span from -k to k. -/
theorem within_iff (a b k : Int) (hk : 0 ≤ k ∧ k ≤ 1000000000000) : (span_Within_1 a b (-k) k == (0 : Int)) = true ∧ span_Within_0 a b (-k) k = true ↔ -k ≤ a ∧ a ≤ b ∧ b ≤ k := by
  unfold span_Within_1 span_Within_0 span_Join_2 span_Join_0 span_Join_1 span_ends_int_0 span_ends_int_1
  rw [span_valid_eq, span_valid_eq, imin_eq, imax_eq]
  rw [decide_eq_true (show -1000000000000 ≤ -k ∧ -k ≤ k ∧ k ≤ 1000000000000 by omega)]
  by_cases h : -1000000000000 ≤ a ∧ a ≤ b ∧ b ≤ 1000000000000
  · rw [decide_eq_true h]
    simp
    omega
  · rw [decide_eq_false h]
    simp
    omega
/-- A box. -/
def VB (b : List Int) : Prop := -1000000 ≤ b.getD 0 0 ∧ b.getD 0 0 ≤ b.getD 1 0 ∧ b.getD 1 0 ≤ 1000000 ∧ -1000000 ≤ b.getD 2 0 ∧ b.getD 2 0 ≤ b.getD 3 0 ∧ b.getD 3 0 ≤ 1000000
instance (b : List Int) : Decidable (VB b) := by unfold VB; infer_instance
theorem validBox_eq (a b c d : Int) : span_ValidBox_0 a b c d = decide (-1000000 ≤ a ∧ a ≤ b ∧ b ≤ 1000000 ∧ -1000000 ≤ c ∧ c ≤ d ∧ d ≤ 1000000) := by
  rw [Bool.eq_iff_iff, decide_eq_true_eq]
  have h1 := within_iff a b 1000000 (by omega)
  have h2 := within_iff c d 1000000 (by omega)
  unfold span_ValidBox_0
  simp only [Bool.and_eq_true] at *
  constructor
  · rintro ⟨⟨⟨g1, g2⟩, g3⟩, g4⟩
    have := h1.1 ⟨g1, g3⟩
    have := h2.1 ⟨g2, g4⟩
    omega
  · rintro h
    have k1 := h1.2 (by omega)
    have k2 := h2.2 (by omega)
    exact ⟨⟨⟨k1.1, k2.1⟩, k1.2⟩, k2.2⟩
theorem vb_eq (b : List Int) : span_ValidBox_0 (b.getD 0 0) (b.getD 1 0) (b.getD 2 0) (b.getD 3 0) = decide (VB b) := validBox_eq _ _ _ _
/-- A place. -/
def VP (x y : Int) : Prop := -1000000 ≤ x ∧ x ≤ 1000000 ∧ -1000000 ≤ y ∧ y ≤ 1000000
instance (x y : Int) : Decidable (VP x y) := by unfold VP; infer_instance
theorem place_eq (x y : Int) : drift_place_0 x y = decide (VP x y) := by
  unfold drift_place_0
  rw [validBox_eq]
  unfold VP
  by_cases h : -1000000 ≤ x ∧ x ≤ 1000000 ∧ -1000000 ≤ y ∧ y ≤ 1000000
  · rw [decide_eq_true h, decide_eq_true (by omega)]
  · rw [decide_eq_false h, decide_eq_false (by omega)]
/-- A set. -/
def VL (l : List (List Int)) : Prop := 0 < l.length ∧ l.length ≤ 16 ∧ ∀ b ∈ l, VB b
instance (l : List (List Int)) : Decidable (VL l) := by unfold VL; infer_instance
theorem getD_mem {l : List (List Int)} {i : Nat} (h : i < l.length) : l.getD i [] ∈ l := by
  rw [List.getD_eq_getElem?_getD, List.getElem?_eq_getElem h]
  exact List.getElem_mem h
theorem getD_of_mem {l : List (List Int)} {x : List Int} (h : x ∈ l) : ∃ i, i < l.length ∧ l.getD i [] = x := by
  obtain ⟨j, hj, rfl⟩ := List.getElem_of_mem h
  exact ⟨j, hj, by rw [List.getD_eq_getElem?_getD, List.getElem?_eq_getElem hj]; rfl⟩
theorem take_succ' {l : List (List Int)} {i : Nat} (h : i < l.length) : l.take (i + 1) = l.take i ++ [l.getD i []] := by
  rw [List.take_succ_eq_append_getElem h, List.getD_eq_getElem?_getD, List.getElem?_eq_getElem h]; rfl
theorem list_eq_of {a b : List (List Int)} (hl : a.length = b.length) (h : ∀ i, i < a.length → a.getD i [] = b.getD i []) : a = b := by
  apply List.ext_getElem hl
  intro i h1 h2
  have := h i h1
  rwa [List.getD_eq_getElem?_getD, List.getD_eq_getElem?_getD, List.getElem?_eq_getElem h1, List.getElem?_eq_getElem h2] at this

theorem valid_is (l : List (List Int)) : drift_Valid_pre l ∧ drift_Valid_0 l = decide (VL l) := by
  unfold drift_Valid_pre drift_Valid_0
  by_cases hl : 0 < l.length ∧ l.length ≤ 16
  · have hl' : (decide ((l.length : Int) > 0) && decide ((l.length : Int) ≤ 16)) = true := by simp; omega
    have key := loop_search (step := drift_Valid_l0_step l) l.length (fun i => !decide (VB (l.getD i []))) (fun i => [.i 0, .i i]) (fun i => [.i i]) 0 2 [.i 0, .i l.length]
      (fun i hi => by
        unfold drift_Valid_l0_step
        simp only [gi_1, gi_z, gb_z, dlt hi, guardP_pos (inR_of hi), Int.toNat_natCast, wrap_succ (show i < 4611686018427387904 by omega), vb_eq]
        try rfl)
      (by
        unfold drift_Valid_l0_step
        simp only [gi_1, gi_z, gb_z, dnlt]
        try rfl)
    rw [hl']
    refine ⟨fun _ => key.1, ?_⟩
    rw [Bool.true_and]
    rcases key.2 with ⟨i, h1, h2, h3, h4⟩ | ⟨h3, h4⟩
    · have e : drift_Valid_l0 l = (1, [.i i]) := h4
      rw [e]
      have : ¬ VL l := fun h => by
        have := h.2.2 _ (getD_mem h1)
        rw [decide_eq_true this] at h2; cases h2
      rw [decide_eq_false this]; simp [Nat.beq, gi_z]
    · have e : drift_Valid_l0 l = (3, [.i 0, .i l.length]) := h4
      rw [e]
      have : VL l := by
        refine ⟨hl.1, hl.2, fun x hx => ?_⟩
        obtain ⟨j, hj, rfl⟩ := getD_of_mem hx
        simpa using h3 j hj
      rw [decide_eq_true this]; simp [Nat.beq]
  · have hl' : (decide ((l.length : Int) > 0) && decide ((l.length : Int) ≤ 16)) = false := by simp; omega
    rw [hl']
    refine ⟨fun h => (Bool.noConfusion h), ?_⟩
    have : ¬ VL l := fun h => hl ⟨h.1, h.2.1⟩
    rw [decide_eq_false this]; rfl

/-! ### forecasts -/
/-- A current behind a time. -/
def CO (e : Int) (c : List Int) : Prop := (-1000 ≤ c.getD 2 0 ∧ c.getD 2 0 ≤ c.getD 3 0 ∧ c.getD 3 0 ≤ 1000) ∧ (-1000 ≤ c.getD 4 0 ∧ c.getD 4 0 ≤ c.getD 5 0 ∧ c.getD 5 0 ≤ 1000) ∧ e ≤ c.getD 0 0 ∧ c.getD 0 0 < c.getD 1 0 ∧ c.getD 1 0 ≤ 10000000
instance (e : Int) (c : List Int) : Decidable (CO e c) := by unfold CO; infer_instance
/-- Currents behind a time. -/
def CL : Int → List (List Int) → Prop
  | _, [] => True
  | e, c :: l => CO e c ∧ CL (c.getD 1 0) l
instance decCL : (e : Int) → (l : List (List Int)) → Decidable (CL e l)
  | _, [] => .isTrue trivial
  | e, c :: l => by unfold CL; exact @instDecidableAnd _ _ _ (decCL _ l)
/-- A forecast. -/
def VC (l : List (List Int)) : Prop := CL 0 l ∧ l.length ≤ 60
instance (l : List (List Int)) : Decidable (VC l) := by unfold VC; infer_instance
/-- The end of the first i. -/
def endOf (e : Int) : List (List Int) → Int
  | [] => e
  | c :: l => endOf (c.getD 1 0) l
theorem endOf_append (e : Int) (a b : List (List Int)) : endOf e (a ++ b) = endOf (endOf e a) b := by
  induction a generalizing e with
  | nil => rfl
  | cons c a ih => exact ih _
theorem CL_append (e : Int) (a b : List (List Int)) : CL e (a ++ b) ↔ CL e a ∧ CL (endOf e a) b := by
  induction a generalizing e with
  | nil => simp [CL, endOf]
  | cons c a ih => simp [CL, endOf, ih, and_assoc]
theorem co_eq (e : Int) (c : List Int) : (span_Within_1 (c.getD 2 0) (c.getD 3 0) (-1000) 1000 != 0 || span_Within_1 (c.getD 4 0) (c.getD 5 0) (-1000) 1000 != 0 || !span_Within_0 (c.getD 2 0) (c.getD 3 0) (-1000) 1000 || !span_Within_0 (c.getD 4 0) (c.getD 5 0) (-1000) 1000 || decide (c.getD 0 0 < e) || decide (c.getD 1 0 ≤ c.getD 0 0) || decide (c.getD 1 0 > 10000000)) = !decide (CO e c) := by
  have h1 := within_iff (c.getD 2 0) (c.getD 3 0) 1000 (by omega)
  have h2 := within_iff (c.getD 4 0) (c.getD 5 0) 1000 (by omega)
  have hCO : CO e c ↔ (((span_Within_1 (c.getD 2 0) (c.getD 3 0) (-1000) 1000 == (0 : Int)) = true ∧ span_Within_0 (c.getD 2 0) (c.getD 3 0) (-1000) 1000 = true) ∧ ((span_Within_1 (c.getD 4 0) (c.getD 5 0) (-1000) 1000 == (0 : Int)) = true ∧ span_Within_0 (c.getD 4 0) (c.getD 5 0) (-1000) 1000 = true) ∧ e ≤ c.getD 0 0 ∧ c.getD 0 0 < c.getD 1 0 ∧ c.getD 1 0 ≤ 10000000) := by
    rw [h1, h2]; rfl
  rw [Bool.eq_iff_iff]
  simp only [hCO, Bool.or_eq_true, Bool.not_eq_true', decide_eq_true_eq, decide_eq_false_iff_not, bne_iff_ne, beq_iff_eq]
  generalize span_Within_0 (c.getD 2 0) (c.getD 3 0) (-1000) 1000 = p
  generalize span_Within_0 (c.getD 4 0) (c.getD 5 0) (-1000) 1000 = q
  cases p <;> cases q <;> simp <;> omega
theorem currents_is (l : List (List Int)) (hl : l.length ≤ 9223372036854775807) : drift_Currents_pre l ∧ drift_Currents_0 l = decide (VC l) := by
  have key := loop_search (step := drift_Currents_l0_step l) l.length (fun i => !decide (CO (endOf 0 (l.take i)) (l.getD i []))) (fun i => [.b false, .i (endOf 0 (l.take i)), .i i]) (fun i => []) 0 2 [.b false, .i (endOf 0 l), .i l.length]
    (fun i hi => by
      unfold drift_Currents_l0_step
      simp only [gi_1, gi_2, gi_z, gb_z, dlt hi, guardP_pos (inR_of hi), Int.toNat_natCast, wrap_succ' (show i < 9223372036854775807 by omega), co_eq]
      rw [take_succ' hi, endOf_append]
      rfl)
    (by
      unfold drift_Currents_l0_step
      simp only [gi_1, gi_2, gi_z, gb_z, dnlt, List.take_length])
  refine ⟨key.1, ?_⟩
  unfold drift_Currents_0
  rcases key.2 with ⟨i, h1, h2, h3, h4⟩ | ⟨h3, h4⟩
  · have e : drift_Currents_l0 l = (1, []) := h4
    rw [e]
    have : ¬ VC l := fun h => by
      have h := h.1
      rw [← List.take_append_drop i l, CL_append] at h
      have h := h.2
      rw [List.drop_eq_getElem_cons h1] at h
      have hg : l[i] = l.getD i [] := by rw [List.getD_eq_getElem?_getD, List.getElem?_eq_getElem h1]; rfl
      rw [hg] at h
      rw [decide_eq_true h.1] at h2
      cases h2
    rw [decide_eq_false this]; simp [Nat.beq]
  · have e : drift_Currents_l0 l = (3, [.b false, .i (endOf 0 l), .i l.length]) := h4
    rw [e]
    have hcl : ∀ i, i ≤ l.length → CL 0 (l.take i) := by
      intro i
      induction i with
      | zero => intro _; simp [CL]
      | succ i ih =>
        intro hi
        rw [take_succ' hi, CL_append]
        refine ⟨ih (by omega), ?_, trivial⟩
        simpa using h3 i hi
    have := hcl _ (Nat.le_refl _)
    rw [List.take_length] at this
    by_cases h60 : l.length ≤ 60
    · rw [decide_eq_true (show VC l from ⟨this, h60⟩)]; simp [Nat.beq]; omega
    · rw [decide_eq_false (show ¬ VC l from fun h => h60 h.2)]; simp [Nat.beq]; omega

/-! ### the drift between two times -/
/-- The minutes of a current. -/
def mins (f u : Int) (c : List Int) : Int := max 0 (min (c.getD 1 0) u - max (c.getD 0 0) f)
def sumL (f u : Int) (k : Nat) (l : List (List Int)) : Int := (l.map fun c => mins f u c * c.getD k 0).sum
def covL (f u : Int) (l : List (List Int)) : Int := (l.map fun c => mins f u c).sum
theorem CL_mem {e : Int} {l : List (List Int)} (h : CL e l) : ∀ c ∈ l, CO e c := by
  induction l generalizing e with
  | nil => intro c hc; cases hc
  | cons d l ih =>
    intro c hc
    rcases List.mem_cons.1 hc with rfl | hc
    · exact h.1
    · have h1 := ih h.2 c hc
      have h2 := h.1
      unfold CO at *
      omega
/-- The times are possible. -/
def VT (f u : Int) : Prop := 0 ≤ f ∧ f ≤ u ∧ u ≤ 10000000
instance (f u : Int) : Decidable (VT f u) := by unfold VT; infer_instance
theorem mins_bd {f u e : Int} {c : List Int} (h : VT f u) (hc : CO e c) : 0 ≤ mins f u c ∧ mins f u c ≤ 10000000 := by
  unfold mins VT CO at *; omega
theorem mul_bd {n x : Int} (h1 : 0 ≤ n) (h2 : n ≤ 10000000) (h3 : -1000 ≤ x) (h4 : x ≤ 1000) : -10000000000 ≤ n * x ∧ n * x ≤ 10000000000 := by
  have a := Int.mul_le_mul_of_nonneg_left h4 h1
  have b := Int.mul_le_mul_of_nonneg_left h3 h1
  omega
theorem sum_snoc (a : List Int) (x : Int) : (a ++ [x]).sum = a.sum + x := by simp
theorem sumL_succ (f u : Int) (k : Nat) {l : List (List Int)} {i : Nat} (hi : i < l.length) : sumL f u k (l.take (i + 1)) = sumL f u k (l.take i) + mins f u (l.getD i []) * (l.getD i []).getD k 0 := by
  unfold sumL; rw [take_succ' hi, List.map_append, List.map_cons, List.map_nil, sum_snoc]
theorem covL_succ (f u : Int) {l : List (List Int)} {i : Nat} (hi : i < l.length) : covL f u (l.take (i + 1)) = covL f u (l.take i) + mins f u (l.getD i []) := by
  unfold covL; rw [take_succ' hi, List.map_append, List.map_cons, List.map_nil, sum_snoc]
theorem sum_fold (f u : Int) (l : List (List Int)) (hv : VC l) (ht : VT f u) : loopOk (drift_Sum_l0_step f u l) (drift_Sum_l0_init f u l) ∧
    drift_Sum_l0 f u l = (3, [.i l.length, .i (u - f - covL f u l), .i (sumL f u 4 l), .i (sumL f u 5 l), .i (sumL f u 2 l), .i (sumL f u 3 l)]) := by
  have key := loop_fold (σ := Unit) (step := drift_Sum_l0_step f u l) l.length
    (fun i _ => [.i i, .i (u - f - covL f u (l.take i)), .i (sumL f u 4 (l.take i)), .i (sumL f u 5 (l.take i)), .i (sumL f u 2 (l.take i)), .i (sumL f u 3 (l.take i))]) (fun _ s => s)
    (fun i _ => (0 ≤ covL f u (l.take i) ∧ covL f u (l.take i) ≤ 10000000 * i) ∧ ∀ k, k = 2 ∨ k = 3 ∨ k = 4 ∨ k = 5 → -10000000000 * i ≤ sumL f u k (l.take i) ∧ sumL f u k (l.take i) ≤ 10000000000 * i) 2
    (fun _ => [.i l.length, .i (u - f - covL f u l), .i (sumL f u 4 l), .i (sumL f u 5 l), .i (sumL f u 2 l), .i (sumL f u 3 l)])
    (fun i s hi ⟨h, h2⟩ => by
      have hc := CL_mem hv.1 _ (getD_mem hi)
      have hm := mins_bd ht hc
      refine ⟨?_, fun k hk => ?_⟩
      · rw [covL_succ f u hi]
        omega
      · have := h2 k hk
        have hb : -1000 ≤ (l.getD i []).getD k 0 ∧ (l.getD i []).getD k 0 ≤ 1000 := by
          unfold CO at hc
          rcases hk with rfl | rfl | rfl | rfl <;> omega
        have := mul_bd hm.1 hm.2 hb.1 hb.2
        rw [sumL_succ f u k hi]
        omega)
    (fun i s hi ⟨h, h2⟩ => by
      have hc := CL_mem hv.1 _ (getD_mem hi)
      have hm := mins_bd ht hc
      have h60 := hv.2
      have p2 := h2 2 (by simp)
      have p3 := h2 3 (by simp)
      have p4 := h2 4 (by simp)
      have p5 := h2 5 (by simp)
      have m2 := mul_bd (x := (l.getD i []).getD 2 0) hm.1 hm.2 (by unfold CO at hc; omega) (by unfold CO at hc; omega)
      have m3 := mul_bd (x := (l.getD i []).getD 3 0) hm.1 hm.2 (by unfold CO at hc; omega) (by unfold CO at hc; omega)
      have m4 := mul_bd (x := (l.getD i []).getD 4 0) hm.1 hm.2 (by unfold CO at hc; omega) (by unfold CO at hc; omega)
      have m5 := mul_bd (x := (l.getD i []).getD 5 0) hm.1 hm.2 (by unfold CO at hc; omega) (by unfold CO at hc; omega)
      unfold drift_Sum_l0_step
      simp only [gi_z, gi_1, gi_2, gi_3, gi_4, dlt hi, guardP_pos (inR_of hi), Int.toNat_natCast, wrap_succ (show i < 4611686018427387904 by omega)]
      have g5 : ∀ a b c d e f : Int, gi [.i a, .i b, .i c, .i d, .i e, .i f] 5 = f := fun _ _ _ _ _ _ => rfl
      simp only [g5, sumL_succ f u _ hi, covL_succ f u hi]
      generalize hmm : mins f u (l.getD i []) = M at *
      have hw : IntKind.i64.wrap (imin ((l.getD i []).getD 1 0) u - imax ((l.getD i []).getD 0 0) f) = min ((l.getD i []).getD 1 0) u - max ((l.getD i []).getD 0 0) f := by
        rw [i64_wrap (by rw [imin_eq, imax_eq]; unfold CO VT at *; split <;> split <;> omega), imin_eq, imax_eq]
        split <;> split <;> omega
      rw [hw]
      by_cases hp : min ((l.getD i []).getD 1 0) u - max ((l.getD i []).getD 0 0) f > 0
      · have eM : min ((l.getD i []).getD 1 0) u - max ((l.getD i []).getD 0 0) f = M := by unfold mins at hmm; omega
        rw [decide_eq_true hp, eM]
        simp only [beq_self_eq_true, cond_true]
        rw [i64_wrap (show _ ≤ M * (l.getD i []).getD 2 0 ∧ _ by omega), i64_wrap (show _ ≤ M * (l.getD i []).getD 3 0 ∧ _ by omega), i64_wrap (show _ ≤ M * (l.getD i []).getD 4 0 ∧ _ by omega), i64_wrap (show _ ≤ M * (l.getD i []).getD 5 0 ∧ _ by omega)]
        have : (0 : Int) ≤ i ∧ (i : Int) ≤ 60 := by omega
        unfold VT at ht
        rw [i64_wrap (by omega), i64_wrap (by omega), i64_wrap (by omega), i64_wrap (by omega), i64_wrap (by omega)]
        simp only [Option.some.injEq, Prod.mk.injEq, List.cons.injEq, U.i.injEq, and_true, true_and]
        omega
      · have eM : M = 0 := by unfold mins at hmm; omega
        rw [decide_eq_false hp, eM]
        simp)
    (fun s _ => by
      unfold drift_Sum_l0_step
      simp only [gi_z, gi_1, gi_2, gi_3, gi_4, dnlt, List.take_length]
      rfl) (s := ()) (by simp [covL, sumL])
  have e0 : drift_Sum_l0_init f u l = [.i ((0 : Nat) : Int), .i (u - f - covL f u (l.take 0)), .i (sumL f u 4 (l.take 0)), .i (sumL f u 5 (l.take 0)), .i (sumL f u 2 (l.take 0)), .i (sumL f u 3 (l.take 0))] := by
    unfold drift_Sum_l0_init
    rw [i64_wrap (by unfold VT at ht; omega)]
    simp [covL, sumL]
  unfold drift_Sum_l0
  rw [e0]
  exact ⟨key.1, key.2.1⟩
/-- What Sum says. -/
def sumE (f u : Int) (l : List (List Int)) : Int := if ¬ VC l ∨ ¬ VT f u then 1 else if u - f - covL f u l > 0 then 4 else 0
/-- An end of what Sum says. -/
def sumV (f u : Int) (k : Nat) (l : List (List Int)) : Int := if sumE f u l = 0 then sumL f u k l else 0
theorem sum_args (f u : Int) (l : List (List Int)) (hl : l.length ≤ 9223372036854775807) : (!drift_Currents_0 l || decide (f < 0) || decide (u < f) || decide (u > 10000000)) = decide (¬ VC l ∨ ¬ VT f u) := by
  rw [(currents_is l hl).2]
  by_cases h : VC l
  · rw [decide_eq_true h]
    unfold VT
    by_cases h2 : 0 ≤ f ∧ f ≤ u ∧ u ≤ 10000000
    · rw [decide_eq_false (show ¬ f < 0 by omega), decide_eq_false (show ¬ u < f by omega), decide_eq_false (show ¬ u > 10000000 by omega), decide_eq_false (by simp [h, h2])]; rfl
    · rw [decide_eq_true (show ¬ VC l ∨ _ from .inr h2)]
      simp only [Bool.not_true, Bool.false_or, Bool.or_eq_true, decide_eq_true_eq]
      omega
  · rw [decide_eq_false h, decide_eq_true (show ¬ VC l ∨ ¬ VT f u from .inl h)]; rfl
theorem sum_is (f u : Int) (l : List (List Int)) (hl : l.length ≤ 9223372036854775807) : drift_Sum_pre f u l ∧ drift_Sum_4 f u l = sumE f u l ∧ drift_Sum_0 f u l = sumV f u 2 l ∧ drift_Sum_1 f u l = sumV f u 3 l ∧ drift_Sum_2 f u l = sumV f u 4 l ∧ drift_Sum_3 f u l = sumV f u 5 l := by
  unfold drift_Sum_pre drift_Sum_4 drift_Sum_0 drift_Sum_1 drift_Sum_2 drift_Sum_3 sumV sumE
  rw [sum_args f u l hl]
  by_cases h : ¬ VC l ∨ ¬ VT f u
  · rw [decide_eq_true h]
    refine ⟨⟨(currents_is l hl).1, fun h => by cases h⟩, ?_⟩
    simp [if_pos h]
  · rw [decide_eq_false h, if_neg h]
    have hv : VC l := Decidable.byContradiction fun hn => h (.inl hn)
    have ht : VT f u := Decidable.byContradiction fun hn => h (.inr hn)
    obtain ⟨h1, h2⟩ := sum_fold f u l hv ht
    refine ⟨⟨(currents_is l hl).1, fun _ => h1⟩, ?_⟩
    rw [h2]
    have g5 : ∀ a b c d e f : Int, gi [.i a, .i b, .i c, .i d, .i e, .i f] 5 = f := fun _ _ _ _ _ _ => rfl
    simp only [gi_1, gi_2, gi_3, gi_4, gi_z, cond_false, g5]
    by_cases hc : u - f - covL f u l > 0
    · rw [decide_eq_true hc, if_pos hc]; exact ⟨rfl, rfl, rfl, rfl, rfl⟩
    · rw [decide_eq_false hc, if_neg hc]; exact ⟨rfl, rfl, rfl, rfl, rfl⟩
end Go.Proofs.Ytddfnokjnafdpaa
