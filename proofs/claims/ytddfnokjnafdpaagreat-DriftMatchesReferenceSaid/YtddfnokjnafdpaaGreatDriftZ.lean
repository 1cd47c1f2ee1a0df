/-
  The reference's functions are those of the layer: sets, forecasts, the drift, Move, Allows, Cut, In.
-/
import Derived.Test.YtddfnokjnafdpaaGreatDriftL
import Derived.Test.YtddfnokjnafdpaaGreatDriftFD
import Derived.Test.YtddfnokjnafdpaaGreatDriftX
set_option linter.unusedVariables false
set_option maxRecDepth 100000
namespace Go.Proofs.YtddfnokjnafdpaaGreat
open Go Go.Sy

theorem rvb_eq (b : List Int) : ref02_ValidBox_0 (b.getD 0 0) (b.getD 1 0) (b.getD 2 0) (b.getD 3 0) = decide (VB b) := by
  unfold ref02_ValidBox_0 ref02_coords_0
  rw [Bool.eq_iff_iff]
  simp only [Bool.and_eq_true, decide_eq_true_eq]
  unfold VB
  omega
theorem rplace_eq (x y : Int) : ref02_Place_0 x y = decide (VP x y) := by
  unfold ref02_Place_0
  rw [Bool.eq_iff_iff]
  simp only [Bool.and_eq_true, decide_eq_true_eq]
  unfold VP
  omega
theorem rvalid_is (l : List (List Int)) : ref23_Valid_pre l ∧ ref23_Valid_0 l = decide (VL l) := by
  unfold ref23_Valid_pre ref23_Valid_0
  by_cases hl : 0 < l.length ∧ l.length ≤ 16
  · have hl' : (decide ((l.length : Int) < 1) || decide ((l.length : Int) > 16)) = false := by
      rw [Bool.or_eq_false_iff]; exact ⟨decide_eq_false (by omega), decide_eq_false (by omega)⟩
    have key := loop_search (step := ref23_Valid_l0_step l) l.length (fun i => !decide (VB (l.getD i []))) (fun i => [.b false, .i i]) (fun i => []) 0 2 [.b false, .i l.length]
      (fun i hi => by
        unfold ref23_Valid_l0_step
        simp only [gi_1, gi_z, gb_z, dlt hi, guardP_pos (inR_of hi), Int.toNat_natCast, wrap_succ (show i < 4611686018427387904 by omega), rvb_eq])
      (by
        unfold ref23_Valid_l0_step
        simp only [gi_1, gi_z, gb_z, dnlt])
    rw [hl']
    refine ⟨fun _ => key.1, ?_⟩
    rcases key.2 with ⟨i, h1, h2, h3, h4⟩ | ⟨h3, h4⟩
    · have e : ref23_Valid_l0 l = (1, []) := h4
      rw [e, decide_eq_false (show ¬ VL l from fun h => by
        have := h.2.2 _ (getD_mem h1)
        rw [decide_eq_true this] at h2; cases h2)]
      rfl
    · have e : ref23_Valid_l0 l = (3, [.b false, .i l.length]) := h4
      rw [e, decide_eq_true (show VL l from ⟨hl.1, hl.2, fun x hx => by
        obtain ⟨j, hj, rfl⟩ := getD_of_mem hx
        simpa using h3 j hj⟩)]
      rfl
  · have hl' : (decide ((l.length : Int) < 1) || decide ((l.length : Int) > 16)) = true := by
      rw [Bool.or_eq_true, decide_eq_true_eq, decide_eq_true_eq]; omega
    rw [hl']
    refine ⟨fun h => (by cases h), ?_⟩
    rw [decide_eq_false (show ¬ VL l from fun h => hl ⟨h.1, h.2.1⟩)]
    rfl
theorem endOf_last : ∀ (l : List (List Int)) (e : Int) (i : Nat), i < l.length → endOf e (l.take (i + 1)) = (l.getD i []).getD 1 0 := by
  intro l e i hi
  rw [take_succ' hi, endOf_append]
  rfl
theorem rcurrents_is (l : List (List Int)) : ref23_Currents_pre l ∧ ref23_Currents_0 l = decide (VC l) := by
  unfold ref23_Currents_pre ref23_Currents_0
  by_cases h60 : l.length ≤ 60
  · have hl' : decide ((l.length : Int) > 60) = false := decide_eq_false (by omega)
    have key := loop_for (step := ref23_Currents_l0_step l) l.length (fun i xs => xs = [.b false, .i i] ∧ CL 0 (l.take i)) (fun r => (r.1 = 4 ∧ VC l) ∨ ((r.1 = 1 ∨ r.1 = 2) ∧ ¬ VC l))
      (fun i xs hi ⟨hx, hcl⟩ => by
        subst hx
        have nvc : ¬ CO (endOf 0 (l.take i)) (l.getD i []) → ¬ VC l := fun hn h => by
          have h := h.1
          rw [← List.take_append_drop i l, CL_append] at h
          have h := h.2
          rw [List.drop_eq_getElem_cons hi] at h
          have hg : l[i] = l.getD i [] := by rw [List.getD_eq_getElem?_getD, List.getElem?_eq_getElem hi]; rfl
          rw [hg] at h
          exact hn h.1
        unfold ref23_Currents_l0_step ref23_speed_0
        simp only [gi_1, gi_z, gb_z, dlt hi, guardP_pos (inR_of hi), Int.toNat_natCast, wrap_succ (show i < 4611686018427387904 by omega)]
        cases hA : (decide ((l.getD i []).getD 0 0 < 0) || decide ((l.getD i []).getD 0 0 ≥ (l.getD i []).getD 1 0) || decide ((l.getD i []).getD 1 0 > 10000000) ||
          !(decide ((l.getD i []).getD 2 0 ≥ -1000) && decide ((l.getD i []).getD 2 0 ≤ (l.getD i []).getD 3 0) && decide ((l.getD i []).getD 3 0 ≤ 1000)) ||
          !(decide ((l.getD i []).getD 4 0 ≥ -1000) && decide ((l.getD i []).getD 4 0 ≤ (l.getD i []).getD 5 0) && decide ((l.getD i []).getD 5 0 ≤ 1000))) with
        | true =>
          refine .inr ⟨0, [], rfl, .inr ⟨.inl rfl, nvc fun hc => ?_⟩⟩
          unfold CO at hc
          have he : 0 ≤ endOf 0 (l.take i) := by
            cases i with
            | zero => simp [endOf]
            | succ i =>
              have hi' : i < l.length := by omega
              rw [endOf_last l 0 i hi']
              have := CL_mem hcl (l.getD i []) (by rw [take_succ' hi']; simp)
              unfold CO at this
              omega
          simp only [Bool.or_eq_true, decide_eq_true_eq, Bool.not_eq_true', Bool.and_eq_false_iff, decide_eq_false_iff_not] at hA
          omega
        | false =>
          simp only [Bool.or_eq_false_iff, decide_eq_false_iff_not, Bool.not_eq_false', Bool.and_eq_true, decide_eq_true_eq] at hA
          simp only [cond_false]
          cases i with
          | zero =>
            rw [guardP_pos (fun h => by simp at h), guardP_pos (fun h => by simp at h), guardP_pos (fun h => by simp at h)]
            refine .inl ⟨_, rfl, rfl, ?_⟩
            rw [take_succ' hi, CL_append]
            refine ⟨hcl, ?_, trivial⟩
            simp only [List.take_zero, endOf]
            unfold CO
            omega
          | succ i =>
            have hi' : i < l.length := by omega
            have ew : IntKind.i64.wrap (((i + 1 : Nat) : Int) - 1) = (i : Int) := by rw [i64_wrap (by omega)]; omega
            simp only [ew, Int.toNat_natCast]
            rw [guardP_pos (fun _ => inR_of hi'), guardP_pos (fun _ => inR_of hi'), guardP_pos (fun _ => inR_of hi')]
            have hd : decide (((i + 1 : Nat) : Int) > 0) = true := decide_eq_true (by omega)
            rw [hd, Bool.true_and]
            have he := endOf_last l 0 i hi'
            by_cases hlt : (l.getD (i + 1) []).getD 0 0 < (l.getD i []).getD 1 0
            · rw [decide_eq_true hlt]
              refine .inr ⟨1, [], rfl, .inr ⟨.inr rfl, nvc fun hc => ?_⟩⟩
              rw [he] at hc
              unfold CO at hc
              omega
            · rw [decide_eq_false hlt]
              refine .inl ⟨_, rfl, rfl, ?_⟩
              rw [take_succ' hi, CL_append]
              refine ⟨hcl, ?_, trivial⟩
              rw [he]
              unfold CO
              omega)
      (fun xs ⟨hx, hcl⟩ => by
        subst hx
        rw [List.take_length] at hcl
        refine ⟨3, [.b false, .i l.length], ?_, .inl ⟨rfl, hcl, h60⟩⟩
        unfold ref23_Currents_l0_step
        simp only [gi_1, gi_z, gb_z, dnlt]) (xs := ref23_Currents_l0_init l) ⟨rfl, by simp [CL]⟩
    rw [hl']
    refine ⟨fun _ => key.1, ?_⟩
    have k2 : ((ref23_Currents_l0 l).1 = 4 ∧ VC l) ∨ (((ref23_Currents_l0 l).1 = 1 ∨ (ref23_Currents_l0 l).1 = 2) ∧ ¬ VC l) := key.2
    rcases k2 with ⟨e, hv⟩ | ⟨e | e, hv⟩
    · rw [e, decide_eq_true hv]; rfl
    · rw [e, decide_eq_false hv]; rfl
    · rw [e, decide_eq_false hv]; rfl
  · have hl' : decide ((l.length : Int) > 60) = true := decide_eq_true (by omega)
    rw [hl']
    refine ⟨fun h => (by cases h), ?_⟩
    rw [decide_eq_false (show ¬ VC l from fun h => h60 h.2)]
    rfl
theorem rtimes_eq (f u : Int) : ref23_Times_0 f u = decide (VT f u) := by
  unfold ref23_Times_0
  rw [Bool.eq_iff_iff]
  simp only [Bool.and_eq_true, decide_eq_true_eq]
  unfold VT
  omega
theorem rsum_fold (f u : Int) (l : List (List Int)) (hv : VC l) (ht : VT f u) : loopOk (ref23_Sum_l0_step f u l) (ref23_Sum_l0_init f u l) ∧
    ref23_Sum_l0 f u l = (2, [.i (covL f u l), .i l.length, .i (sumL f u 4 l), .i (sumL f u 5 l), .i (sumL f u 2 l), .i (sumL f u 3 l)]) := by
  have key := loop_fold (σ := Unit) (step := ref23_Sum_l0_step f u l) l.length
    (fun i _ => [.i (covL f u (l.take i)), .i i, .i (sumL f u 4 (l.take i)), .i (sumL f u 5 (l.take i)), .i (sumL f u 2 (l.take i)), .i (sumL f u 3 (l.take i))]) (fun _ s => s)
    (fun i _ => (0 ≤ covL f u (l.take i) ∧ covL f u (l.take i) ≤ 10000000 * i) ∧ ∀ k, k = 2 ∨ k = 3 ∨ k = 4 ∨ k = 5 → -10000000000 * i ≤ sumL f u k (l.take i) ∧ sumL f u k (l.take i) ≤ 10000000000 * i) 1
    (fun _ => [.i (covL f u l), .i l.length, .i (sumL f u 4 l), .i (sumL f u 5 l), .i (sumL f u 2 l), .i (sumL f u 3 l)])
    (fun i s hi ⟨h, h2⟩ => by
      have hc := CL_mem hv.1 _ (getD_mem hi)
      have hm := mins_bd ht hc
      refine ⟨?_, fun k hk => ?_⟩
      · rw [covL_succ f u hi]
        omega
      · have := h2 k hk
        have hb : -1000 ≤ (l.getD i []).getD k 0 ∧ (l.getD i []).getD k 0 ≤ 1000 := by
          unfold CO at hc
          rcases hk with rfl | rfl | rfl | rfl <;> omega
        have := mul_bd hm.1 hm.2 hb.1 hb.2
        rw [sumL_succ f u k hi]
        omega)
    (fun i s hi ⟨h, h2⟩ => by
      have hc := CL_mem hv.1 _ (getD_mem hi)
      have hm := mins_bd ht hc
      have h60 := hv.2
      have p2 := h2 2 (by simp)
      have p3 := h2 3 (by simp)
      have p4 := h2 4 (by simp)
      have p5 := h2 5 (by simp)
      have m2 := mul_bd (x := (l.getD i []).getD 2 0) hm.1 hm.2 (by unfold CO at hc; omega) (by unfold CO at hc; omega)
      have m3 := mul_bd (x := (l.getD i []).getD 3 0) hm.1 hm.2 (by unfold CO at hc; omega) (by unfold CO at hc; omega)
      have m4 := mul_bd (x := (l.getD i []).getD 4 0) hm.1 hm.2 (by unfold CO at hc; omega) (by unfold CO at hc; omega)
      have m5 := mul_bd (x := (l.getD i []).getD 5 0) hm.1 hm.2 (by unfold CO at hc; omega) (by unfold CO at hc; omega)
      have hw : imax 0 (IntKind.i64.wrap (imin ((l.getD i []).getD 1 0) u - imax ((l.getD i []).getD 0 0) f)) = mins f u (l.getD i []) := by
        unfold mins
        rw [imin_min, imax_max, imax_max, i64_wrap (by unfold CO VT at *; omega)]
      unfold ref23_Sum_l0_step ref23_Sum_s0 ref23_Sum_s1 ref23_Sum_s2 ref23_Sum_s3 ref23_Sum_s4
      have g5 : ∀ a b c d e f : Int, gi [.i a, .i b, .i c, .i d, .i e, .i f] 5 = f := fun _ _ _ _ _ _ => rfl
      simp only [gi_z, gi_1, gi_2, gi_3, gi_4, g5, dlt hi, guardP_pos (inR_of hi), Int.toNat_natCast, wrap_succ (show i < 4611686018427387904 by omega), sumL_succ f u _ hi, covL_succ f u hi, hw]
      generalize hmm : mins f u (l.getD i []) = M at *
      rw [i64_wrap (show _ ≤ M * (l.getD i []).getD 2 0 ∧ _ by omega), i64_wrap (show _ ≤ M * (l.getD i []).getD 3 0 ∧ _ by omega), i64_wrap (show _ ≤ M * (l.getD i []).getD 4 0 ∧ _ by omega), i64_wrap (show _ ≤ M * (l.getD i []).getD 5 0 ∧ _ by omega)]
      have : (0 : Int) ≤ i ∧ (i : Int) ≤ 60 := by omega
      rw [i64_wrap (by omega), i64_wrap (by omega), i64_wrap (by omega), i64_wrap (by omega), i64_wrap (by omega)])
    (fun s _ => by
      unfold ref23_Sum_l0_step
      have g5 : ∀ a b c d e f : Int, gi [.i a, .i b, .i c, .i d, .i e, .i f] 5 = f := fun _ _ _ _ _ _ => rfl
      simp only [gi_z, gi_1, gi_2, gi_3, gi_4, g5, dnlt, List.take_length]) (s := ()) (by simp [covL, sumL])
  have e0 : ref23_Sum_l0_init f u l = [.i (covL f u (l.take 0)), .i ((0 : Nat) : Int), .i (sumL f u 4 (l.take 0)), .i (sumL f u 5 (l.take 0)), .i (sumL f u 2 (l.take 0)), .i (sumL f u 3 (l.take 0))] := by
    unfold ref23_Sum_l0_init
    simp [covL, sumL]
  unfold ref23_Sum_l0
  rw [e0]
  exact ⟨key.1, key.2.1⟩
theorem rsum_is (f u : Int) (l : List (List Int)) : ref23_Sum_pre f u l ∧ ref23_Sum_4 f u l = sumE f u l ∧ ref23_Sum_0 f u l = sumV f u 2 l ∧ ref23_Sum_1 f u l = sumV f u 3 l ∧ ref23_Sum_2 f u l = sumV f u 4 l ∧ ref23_Sum_3 f u l = sumV f u 5 l := by
  have rc := rcurrents_is l
  have ra : (!ref23_Currents_0 l || !ref23_Times_0 f u) = decide (¬ VC l ∨ ¬ VT f u) := by
    rw [rc.2, rtimes_eq, Bool.eq_iff_iff]
    simp
  unfold ref23_Sum_pre ref23_Sum_4 ref23_Sum_s9 ref23_Sum_0 ref23_Sum_s5 ref23_Sum_1 ref23_Sum_s6 ref23_Sum_2 ref23_Sum_s7 ref23_Sum_3 ref23_Sum_s8 sumV sumE
  rw [ra]
  by_cases h : ¬ VC l ∨ ¬ VT f u
  · rw [decide_eq_true h]
    refine ⟨⟨rc.1, fun h => by cases h⟩, ?_⟩
    simp [if_pos h]
  · rw [decide_eq_false h, if_neg h]
    have hv : VC l := Decidable.byContradiction fun hn => h (.inl hn)
    have ht : VT f u := Decidable.byContradiction fun hn => h (.inr hn)
    obtain ⟨h1, h2⟩ := rsum_fold f u l hv ht
    refine ⟨⟨rc.1, fun _ => h1⟩, ?_⟩
    rw [h2]
    have g5 : ∀ a b c d e f : Int, gi [.i a, .i b, .i c, .i d, .i e, .i f] 5 = f := fun _ _ _ _ _ _ => rfl
    have hw : IntKind.i64.wrap (u - f) = u - f := i64_wrap (by unfold VT at ht; omega)
    simp only [gi_1, gi_2, gi_3, gi_4, gi_z, cond_false, g5, hw]
    by_cases hc : u - f - covL f u l > 0
    · rw [decide_eq_true (show covL f u l < u - f by omega), if_pos hc]; exact ⟨rfl, rfl, rfl, rfl, rfl⟩
    · rw [decide_eq_false (show ¬ covL f u l < u - f by omega), if_neg hc]; exact ⟨rfl, rfl, rfl, rfl, rfl⟩
theorem down_eq {n : Int} (h : -1000000000000000 ≤ n ∧ n ≤ 1000000000000000) : ref02_Down_0 n 100 = n / 100 := by
  unfold ref02_Down_0
  have h1 := Int.mul_tdiv_add_tmod n 100
  by_cases hn : 0 ≤ n
  · have e1 : n.tdiv 100 = n / 100 := Int.tdiv_eq_ediv_of_nonneg hn
    have e2 : ¬ n.tmod 100 < 0 := by rw [e1] at h1; omega
    rw [decide_eq_false e2, e1, cond_false, i64_wrap (by omega)]
  · have e1 : n.tdiv 100 = -((-n) / 100) := by
      rw [show n = -(-n) by omega, Int.neg_tdiv, Int.tdiv_eq_ediv_of_nonneg (by omega)]
      simp
    rw [e1] at h1 ⊢
    by_cases e2 : n.tmod 100 < 0
    · rw [decide_eq_true e2, cond_true, i64_wrap (x := -((-n) / 100)) (by omega), i64_wrap (by omega)]
      omega
    · rw [decide_eq_false e2, cond_false, i64_wrap (by omega)]
      omega
theorem up_eq {n : Int} (h : -1000000000000000 ≤ n ∧ n ≤ 1000000000000000) : ref02_Up_0 n 100 = -((-n) / 100) := by
  unfold ref02_Up_0
  have h1 := Int.mul_tdiv_add_tmod n 100
  by_cases hn : 0 ≤ n
  · have e1 : n.tdiv 100 = n / 100 := Int.tdiv_eq_ediv_of_nonneg hn
    rw [e1] at h1 ⊢
    by_cases e2 : n.tmod 100 > 0
    · rw [decide_eq_true e2, cond_true, i64_wrap (x := n / 100) (by omega), i64_wrap (by omega)]
      omega
    · rw [decide_eq_false e2, cond_false, i64_wrap (by omega)]
      omega
  · have e1 : n.tdiv 100 = -((-n) / 100) := by
      rw [show n = -(-n) by omega, Int.neg_tdiv, Int.tdiv_eq_ediv_of_nonneg (by omega)]
      simp
    rw [e1] at h1 ⊢
    have e2 : ¬ n.tmod 100 > 0 := by omega
    rw [decide_eq_false e2, cond_false, i64_wrap (by omega)]
theorem moved_eq {x y s t : Int} (hx : -1000000 ≤ x ∧ x ≤ 1000000) (hy : -1000000 ≤ y ∧ y ≤ 1000000) (hs : -600000000000 ≤ s ∧ s ≤ 600000000000) (ht : -600000000000 ≤ t ∧ t ≤ 600000000000) :
    ref23_moved_pre x y s t ∧ ref23_moved_0 x y s t = lo x s ∧ ref23_moved_1 x y s t = hi y t := by
  unfold ref23_moved_pre ref23_moved_0 ref23_moved_1 lo hi
  rw [i64_wrap (x := 100 * x) (by omega), i64_wrap (x := 100 * y) (by omega), i64_wrap (x := 100 * x + s) (by omega), i64_wrap (x := 100 * y + t) (by omega), down_eq (by omega), up_eq (by omega)]
  exact ⟨⟨⟨by decide, by decide⟩, by decide, by decide⟩, rfl, rfl⟩
theorem rmove_is (f u : Int) (l c : List (List Int)) : ref23_Move_pre f u l c ∧ ref23_Move_1 f u l c = moveE f u l c ∧ ref23_Move_0 f u l c = moveL f u l c := by
  obtain ⟨sp, s4, s0, s1, s2, s3⟩ := rsum_is f u c
  have hv := rvalid_is l
  unfold ref23_Move_pre ref23_Move_1 ref23_Move_0 ref23_Move_s2
  rw [hv.2, s4]
  by_cases hl : VL l
  · have E : moveE f u l c = if sumE f u c ≠ 0 then sumE f u c else if ∃ b ∈ l, ¬ VB (mvF f u c b) then 3 else 0 := if_neg (fun h => h hl)
    rw [decide_eq_true hl]
    by_cases hs : sumE f u c = 0
    · rw [hs] at E
      rw [if_neg (by simp)] at E
      have hlen := hl.2.1
      have key := loop_search (step := ref23_Move_l0_step f u l c) l.length (fun i => !decide (VB (mvF f u c (l.getD i [])))) (fun i => [.i 0, .i i, .r ((l.take i).map (mvF f u c))]) (fun i => []) 0 2 [.i 0, .i l.length, .r (l.map (mvF f u c))]
        (fun i hin => by
          have hb := hl.2.2 _ (getD_mem hin)
          unfold VB at hb
          obtain ⟨px, x0, x1⟩ := moved_eq (x := (l.getD i []).getD 0 0) (y := (l.getD i []).getD 1 0) (by omega) (by omega) (sumV_bd f u c (k := 2) (by simp)) (sumV_bd f u c (k := 3) (by simp))
          obtain ⟨py, y0, y1⟩ := moved_eq (x := (l.getD i []).getD 2 0) (y := (l.getD i []).getD 3 0) (by omega) (by omega) (sumV_bd f u c (k := 4) (by simp)) (sumV_bd f u c (k := 5) (by simp))
          have em : ref23_Move_s1 f u l c [.i 0, .i i, .r ((l.take i).map (mvF f u c))] = mvF f u c (l.getD i []) := by
            unfold ref23_Move_s1 ref23_Move_s0
            simp only [gi_1, gi_z, Int.toNat_natCast, s0, s1, s2, s3, x0, x1, y0, y1]
            rfl
          unfold ref23_Move_l0_step
          rw [em]
          simp only [gi_z, gi_1, gi_2, gr_z, gr_1, gr_2, dlt hin, guardP_pos (inR_of hin), Int.toNat_natCast, wrap_succ (show i < 4611686018427387904 by omega), s0, s1, s2, s3, guardP_pos px, guardP_pos py, x0, x1, y0, y1]
          have ev : ref02_ValidBox_0 (lo ((l.getD i []).getD 0 0) (sumV f u 2 c)) (hi ((l.getD i []).getD 1 0) (sumV f u 3 c)) (lo ((l.getD i []).getD 2 0) (sumV f u 4 c)) (hi ((l.getD i []).getD 3 0) (sumV f u 5 c)) = decide (VB (mvF f u c (l.getD i []))) := rvb_eq (mvF f u c (l.getD i []))
          rw [ev, guardP_pos (fits_le (by decide) (by simp only [List.length_map, List.length_take, List.length_cons, List.length_nil]; omega)), take_succ' hin, List.map_append]
          rfl)
        (by
          unfold ref23_Move_l0_step
          simp only [gi_z, gi_1, gr_z, gr_1, gr_2, dnlt, List.take_length])
      have e1 : (!true || sumE f u c == (1 : Int)) = false := by rw [hs]; rfl
      rw [e1, hs]
      refine ⟨⟨hv.1, sp, fun _ _ => key.1⟩, ?_⟩
      rcases key.2 with ⟨i, h1, h2, h3, h4⟩ | ⟨h3, h4⟩
      · have g1 : ∃ b ∈ l, ¬ VB (mvF f u c b) := ⟨_, getD_mem h1, by simpa using h2⟩
        rw [if_pos g1] at E
        have e : ref23_Move_l0 f u l c = (1, []) := h4
        rw [e]
        refine ⟨E.symm, ?_⟩
        unfold moveL
        rw [E, if_neg (by decide)]
        rfl
      · have g1 : ¬ ∃ b ∈ l, ¬ VB (mvF f u c b) := by
          rintro ⟨b, hb, hn⟩
          obtain ⟨j, hj, rfl⟩ := getD_of_mem hb
          have := h3 j hj
          rw [decide_eq_false hn] at this
          cases this
        rw [if_neg g1] at E
        have e : ref23_Move_l0 f u l c = (3, [.i 0, .i l.length, .r (l.map (mvF f u c))]) := h4
        rw [e]
        refine ⟨E.symm, ?_⟩
        unfold moveL
        rw [if_pos E]
        rfl
    · rw [if_pos hs] at E
      have hb : (sumE f u c != 0) = true := by simpa using hs
      refine ⟨⟨hv.1, sp, fun _ h => ?_⟩, ?_⟩
      · rw [hb] at h; cases h
      · unfold moveL
        rw [E, if_neg hs, hb]
        by_cases h1 : sumE f u c = 1
        · rw [h1]; exact ⟨rfl, rfl⟩
        · have : (!true || sumE f u c == (1 : Int)) = false := by simpa using h1
          rw [this]
          exact ⟨rfl, rfl⟩
  · have E : moveE f u l c = 1 := if_pos hl
    rw [decide_eq_false hl]
    refine ⟨⟨hv.1, sp, fun h => ?_⟩, E.symm, ?_⟩
    · simp at h
    · unfold moveL
      rw [E, if_neg (by decide)]
      rfl
theorem rallows_is (f u x y z w : Int) (c : List (List Int)) : ref23_Allows_pre f u x y z w c ∧ ref23_Allows_1 f u x y z w c = allE f u x y z w c ∧ ref23_Allows_0 f u x y z w c = decide (allB f u x y z w c) := by
  obtain ⟨sp, s4, s0, s1, s2, s3⟩ := rsum_is f u c
  refine ⟨sp, ?_⟩
  unfold ref23_Allows_1 ref23_Allows_0 ref02_Has_0
  rw [rplace_eq, rplace_eq, s4, s0, s1, s2, s3]
  by_cases hn : ¬ VP x y ∨ ¬ VP z w
  · have E : allE f u x y z w c = 1 := if_pos hn
    have hb : (!decide (VP x y) || !decide (VP z w) || sumE f u c == (1 : Int)) = true := by
      rcases hn with h | h
      · rw [decide_eq_false h]; rfl
      · rw [decide_eq_false h]; simp
    rw [hb, E, decide_eq_false (show ¬ allB f u x y z w c from fun k => by have := k.1; rw [E] at this; cases this)]
    exact ⟨rfl, rfl⟩
  · have h1 : VP x y := Decidable.byContradiction fun k => hn (.inl k)
    have h2 : VP z w := Decidable.byContradiction fun k => hn (.inr k)
    have E : allE f u x y z w c = sumE f u c := if_neg hn
    rw [E, decide_eq_true h1, decide_eq_true h2]
    by_cases hs : sumE f u c = 0
    · rw [sumV_ok hs, sumV_ok hs, sumV_ok hs, sumV_ok hs, hs]
      unfold VP at h1 h2
      rw [i64_wrap (x := z - x) (by omega), i64_wrap (x := w - y) (by omega), i64_wrap (x := 100 * (z - x)) (by omega), i64_wrap (x := 100 * (w - y)) (by omega)]
      refine ⟨rfl, ?_⟩
      rw [Bool.eq_iff_iff, decide_eq_true_eq]
      unfold allB
      rw [E, hs]
      simp [and_assoc]
    · rw [decide_eq_false (show ¬ allB f u x y z w c from fun k => by have := k.1; rw [E] at this; exact hs this)]
      by_cases h3 : sumE f u c = 1
      · rw [h3]; exact ⟨rfl, rfl⟩
      · have e1 : (!true || !true || sumE f u c == (1 : Int)) = false := by simpa using h3
        have e2 : (sumE f u c != (0 : Int)) = true := by simpa using hs
        rw [e1, e2]
        exact ⟨rfl, rfl⟩
theorem rhas_is (x y : Int) (l : List (List Int)) (hl : l.length < 4611686018427387904) : ref23_Has_pre x y l ∧ ref23_Has_0 x y l = decide (∃ b ∈ l, HB x y b) := by
  have hd : ∀ b : List Int, ref02_Holds_0 (b.getD 0 0) (b.getD 1 0) (b.getD 2 0) (b.getD 3 0) x y = decide (HB x y b) := fun b => by
    unfold ref02_Holds_0 ref02_Has_0 HB
    rw [Bool.eq_iff_iff]
    simp [and_assoc]
  have key := loop_search (step := ref23_Has_l0_step x y l) l.length (fun i => decide (HB x y (l.getD i []))) (fun i => [.b false, .i i]) (fun i => []) 0 2 [.b false, .i l.length]
    (fun i hi => by
      unfold ref23_Has_l0_step
      simp only [gi_1, gi_z, gb_z, dlt hi, guardP_pos (inR_of hi), Int.toNat_natCast, wrap_succ (show i < 4611686018427387904 by omega), hd])
    (by
      unfold ref23_Has_l0_step
      simp only [gi_1, gi_z, gb_z, dnlt])
  refine ⟨key.1, ?_⟩
  unfold ref23_Has_0
  rcases key.2 with ⟨i, g1, g2, g3, g4⟩ | ⟨g3, g4⟩
  · have e : ref23_Has_l0 x y l = (1, []) := g4
    rw [e, decide_eq_true (show ∃ b ∈ l, HB x y b from ⟨_, getD_mem g1, by simpa using g2⟩)]
    rfl
  · have e : ref23_Has_l0 x y l = (3, [.b false, .i l.length]) := g4
    rw [e, decide_eq_false (show ¬ ∃ b ∈ l, HB x y b from by
      rintro ⟨b, hb, hn⟩
      obtain ⟨j, hj, rfl⟩ := getD_of_mem hb
      have := g3 j hj
      rw [decide_eq_true hn] at this
      cases this)]
    rfl
theorem rin_is (x y : Int) (l : List (List Int)) : ref23_In_pre x y l ∧ ref23_In_1 x y l = inE x y l ∧ ref23_In_0 x y l = decide (inB x y l) := by
  have hv := rvalid_is l
  unfold ref23_In_pre ref23_In_1 ref23_In_0
  rw [hv.2, rplace_eq]
  by_cases hn : ¬ VL l ∨ ¬ VP x y
  · have E : inE x y l = 1 := if_pos hn
    have hb : (!decide (VL l) || !decide (VP x y)) = true := by
      rcases hn with h | h
      · rw [decide_eq_false h]; rfl
      · rw [decide_eq_false h]; simp
    rw [hb, E, decide_eq_false (show ¬ inB x y l from fun k => by have := k.1; rw [E] at this; cases this)]
    exact ⟨⟨hv.1, fun h => by cases h⟩, rfl, rfl⟩
  · have h1 : VL l := Decidable.byContradiction fun k => hn (.inl k)
    have h2 : VP x y := Decidable.byContradiction fun k => hn (.inr k)
    have E : inE x y l = 0 := if_neg hn
    have hh := rhas_is x y l (by have := h1.2.1; omega)
    rw [E, decide_eq_true h1, decide_eq_true h2, hh.2]
    refine ⟨⟨hv.1, fun _ => hh.1⟩, rfl, ?_⟩
    rw [Bool.eq_iff_iff]
    simp only [Bool.not_true, Bool.or_self, cond_false, decide_eq_true_eq]
    unfold inB
    rw [E]
    simp
theorem rmeet_eq {s t x y : Int} (h1 : -1000000000000 ≤ s ∧ s ≤ t ∧ t ≤ 1000000000000) (h2 : -1000000000000 ≤ x ∧ x ≤ y ∧ y ≤ 1000000000000) :
    ref02_Meet_2 s t x y = (if max s x ≤ min t y then 0 else 4) ∧ (max s x ≤ min t y → ref02_Meet_0 s t x y = max s x ∧ ref02_Meet_1 s t x y = min t y) := by
  have v1 : ref02_Valid_0 s t = true := by unfold ref02_Valid_0; simp only [Bool.and_eq_true, decide_eq_true_eq]; omega
  have v2 : ref02_Valid_0 x y = true := by unfold ref02_Valid_0; simp only [Bool.and_eq_true, decide_eq_true_eq]; omega
  unfold ref02_Meet_2 ref02_Meet_0 ref02_Meet_1 ref02_Both_0
  rw [v1, v2, imax_max, imin_min]
  by_cases h : max s x ≤ min t y
  · rw [decide_eq_false (show ¬ max s x > min t y by omega)]; simp [h]
  · rw [decide_eq_true (show max s x > min t y by omega)]; simp [h]
theorem rmeetBox_eq {a b : List Int} (ha : VB a) (hb : VB b) :
    ref02_MeetBox_4 (a.getD 0 0) (a.getD 1 0) (a.getD 2 0) (a.getD 3 0) (b.getD 0 0) (b.getD 1 0) (b.getD 2 0) (b.getD 3 0) = (if MB a b then 0 else 4) ∧
    (MB a b → [ref02_MeetBox_0 (a.getD 0 0) (a.getD 1 0) (a.getD 2 0) (a.getD 3 0) (b.getD 0 0) (b.getD 1 0) (b.getD 2 0) (b.getD 3 0), ref02_MeetBox_1 (a.getD 0 0) (a.getD 1 0) (a.getD 2 0) (a.getD 3 0) (b.getD 0 0) (b.getD 1 0) (b.getD 2 0) (b.getD 3 0),
      ref02_MeetBox_2 (a.getD 0 0) (a.getD 1 0) (a.getD 2 0) (a.getD 3 0) (b.getD 0 0) (b.getD 1 0) (b.getD 2 0) (b.getD 3 0), ref02_MeetBox_3 (a.getD 0 0) (a.getD 1 0) (a.getD 2 0) (a.getD 3 0) (b.getD 0 0) (b.getD 1 0) (b.getD 2 0) (b.getD 3 0)] = mtB a b) := by
  unfold ref02_MeetBox_4 ref02_MeetBox_3 ref02_MeetBox_2 ref02_MeetBox_1 ref02_MeetBox_0 ref02_BothBoxes_0
  rw [rvb_eq, rvb_eq, decide_eq_true ha, decide_eq_true hb]
  unfold VB at ha hb
  obtain ⟨x1, x2⟩ := rmeet_eq (s := a.getD 0 0) (t := a.getD 1 0) (x := b.getD 0 0) (y := b.getD 1 0) (by omega) (by omega)
  obtain ⟨y1, y2⟩ := rmeet_eq (s := a.getD 2 0) (t := a.getD 3 0) (x := b.getD 2 0) (y := b.getD 3 0) (by omega) (by omega)
  rw [x1, y1]
  simp only [Bool.and_self, Bool.not_true, cond_false]
  by_cases h1 : max (a.getD 0 0) (b.getD 0 0) ≤ min (a.getD 1 0) (b.getD 1 0)
  · obtain ⟨x3, x4⟩ := x2 h1
    by_cases h2 : max (a.getD 2 0) (b.getD 2 0) ≤ min (a.getD 3 0) (b.getD 3 0)
    · obtain ⟨y3, y4⟩ := y2 h2
      rw [if_pos h1, if_pos h2, if_pos (show MB a b from ⟨h1, h2⟩)]
      refine ⟨rfl, fun _ => ?_⟩
      rw [x3, x4, y3, y4]
      rfl
    · rw [if_pos h1, if_neg h2, if_neg (show ¬ MB a b from fun h => h2 h.2)]
      exact ⟨rfl, fun h => absurd h.2 h2⟩
  · rw [if_neg h1, if_neg (show ¬ MB a b from fun h => h1 h.1)]
    exact ⟨rfl, fun h => absurd h.1 h1⟩
theorem rcut_is (a0 a1 a2 a3 : Int) (l : List (List Int)) : ref23_Cut_pre a0 a1 a2 a3 l ∧ ref23_Cut_1 a0 a1 a2 a3 l = cutE [a0, a1, a2, a3] l ∧ ref23_Cut_0 a0 a1 a2 a3 l = cutL [a0, a1, a2, a3] l := by
  have hv := rvalid_is l
  have hb : ref02_ValidBox_0 a0 a1 a2 a3 = decide (VB [a0, a1, a2, a3]) := rvb_eq [a0, a1, a2, a3]
  unfold ref23_Cut_pre ref23_Cut_1 ref23_Cut_0 cutL cutE
  rw [hv.2, hb]
  by_cases h1 : VL l
  · by_cases h2 : VB [a0, a1, a2, a3]
    · have hlen := h1.2.1
      have key := loop_fold (σ := Unit) (step := ref23_Cut_l0_step a0 a1 a2 a3 l) l.length (fun i _ => [.i i, .r (cutP [a0, a1, a2, a3] (l.take i))]) (fun _ s => s) (fun _ _ => True) 2 (fun _ => [.i l.length, .r (cutP [a0, a1, a2, a3] l)])
        (fun _ _ _ _ => trivial)
        (fun i s hi _ => by
          have hc := h1.2.2 _ (getD_mem hi)
          obtain ⟨m1, m2⟩ := rmeetBox_eq hc h2
          have e : cutP [a0, a1, a2, a3] (l.take (i + 1)) = cutP [a0, a1, a2, a3] (l.take i) ++ (if MB (l.getD i []) [a0, a1, a2, a3] then [mtB (l.getD i []) [a0, a1, a2, a3]] else []) := by
            unfold cutP
            rw [take_succ' hi, List.filterMap_append]
            by_cases hm : MB (l.getD i []) [a0, a1, a2, a3]
            · simp only [List.filterMap, if_pos hm]
            · simp only [List.filterMap, if_neg hm]
          have hle := cutP_len [a0, a1, a2, a3] (l.take i)
          rw [List.length_take] at hle
          unfold ref23_Cut_l0_step ref23_Cut_s0 ref23_Cut_s1 ref23_Cut_s2 ref23_Cut_s3 ref23_Cut_s4
          rw [e]
          simp only [gi_z, gi_1, gr_z, gr_1, dlt hi, guardP_pos (inR_of hi), Int.toNat_natCast, wrap_succ (show i < 4611686018427387904 by omega)]
          have m1 : ref02_MeetBox_4 ((l.getD i []).getD 0 0) ((l.getD i []).getD 1 0) ((l.getD i []).getD 2 0) ((l.getD i []).getD 3 0) a0 a1 a2 a3 = _ := m1
          rw [m1]
          by_cases hm : MB (l.getD i []) [a0, a1, a2, a3]
          · have m2 := m2 hm
            simp only [if_pos hm, beq_self_eq_true, cond_true]
            have m2 : [ref02_MeetBox_0 ((l.getD i []).getD 0 0) ((l.getD i []).getD 1 0) ((l.getD i []).getD 2 0) ((l.getD i []).getD 3 0) a0 a1 a2 a3, _, _, _] = _ := m2
            rw [guardP_pos (fits_le (by decide) (by simp only [List.length_cons, List.length_nil]; omega))]
            rw [← m2]
            rfl
          · simp only [if_neg hm, List.append_nil]
            rfl)
        (fun s _ => by
          unfold ref23_Cut_l0_step
          simp only [gi_z, gi_1, gr_z, gr_1, dnlt, List.take_length]) (s := ()) trivial
      rw [decide_eq_true h1, decide_eq_true h2]
      have e : ref23_Cut_l0 a0 a1 a2 a3 l = _ := key.2.1
      rw [e]
      simp only [Bool.not_true, Bool.or_self, cond_false, h1, h2, not_true, or_self, if_false, gr_z, gr_1]
      refine ⟨⟨hv.1, fun _ => key.1⟩, ?_⟩
      cases hcp : cutP [a0, a1, a2, a3] l with
      | nil => simp
      | cons x r =>
        have : (((x :: r).length : Int) == (0 : Int)) = false := by simp; omega
        rw [this]
        simp
    · rw [decide_eq_true h1, decide_eq_false h2]
      simp [h1, h2, hv.1]
  · rw [decide_eq_false h1]
    simp [h1, hv.1]
end Go.Proofs.YtddfnokjnafdpaaGreat
