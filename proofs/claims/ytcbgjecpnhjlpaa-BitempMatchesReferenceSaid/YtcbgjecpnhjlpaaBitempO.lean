/- Several texts in one (wip/merge.py): XBitempR XBitempE XBitempF XBitempO. -/
import Derived.Test.YtcbgjecpnhjlpaaBitempK
import Derived.Test.YtcbgjecpnhjlpaaBitemp5D
/-!
  The reference's functions are those of the layer: lists of rows, Say, At; rising lists of integers.
-/
set_option linter.unusedVariables false
set_option linter.unusedSimpArgs false
set_option linter.unusedSectionVars false
set_option maxRecDepth 100000
namespace Go.Proofs.Ytcbgjecpnhjlpaa
open Go Go.Sy

theorem rTime_eq (t : Int) : ref27_Time_0 t = decide (TM t) := by
  unfold ref27_Time_0
  rw [Bool.eq_iff_iff, Bool.and_eq_true, decide_eq_true_eq, decide_eq_true_eq, decide_eq_true_eq]
  exact Iff.rfl
theorem rItem_eq (t : Int) : ref27_Item_0 t = decide (IT t) := by
  unfold ref27_Item_0
  rw [Bool.eq_iff_iff, Bool.and_eq_true, decide_eq_true_eq, decide_eq_true_eq, decide_eq_true_eq]
  exact Iff.rfl
theorem rValue_eq (t : Int) : ref27_Value_0 t = decide (VA t) := by
  unfold ref27_Value_0
  rw [Bool.eq_iff_iff, Bool.and_eq_true, decide_eq_true_eq, decide_eq_true_eq, decide_eq_true_eq]
  exact Iff.rfl
theorem rRow_eq (a b c d e : Int) : ref27_Row_0 a b c d e = decide (RO5 a b c d e) := by
  unfold ref27_Row_0
  rw [rItem_eq, rValue_eq, rTime_eq, rTime_eq, rTime_eq]
  rw [Bool.eq_iff_iff]
  simp only [Bool.and_eq_true, decide_eq_true_eq]
  unfold RO5
  constructor
  · rintro ⟨⟨⟨⟨⟨h1, h2⟩, h3⟩, h4⟩, h5⟩, h6⟩; exact ⟨h1, h2, h3, h4, h6, h5⟩
  · rintro ⟨h1, h2, h3, h4, h6, h5⟩; exact ⟨⟨⟨⟨⟨h1, h2⟩, h3⟩, h4⟩, h5⟩, h6⟩
theorem ro_row (r : List Int) : ref27_Row_0 (r.getD 0 0) (r.getD 1 0) (r.getD 2 0) (r.getD 3 0) (r.getD 4 0) = decide (RO r) := rRow_eq _ _ _ _ _
theorem rvalid_is (l : List (List Int)) : ref27_Valid_pre l ∧ ref27_Valid_0 l = decide (VR l) := by
  unfold ref27_Valid_pre ref27_Valid_0
  by_cases hl : l.length ≤ 200
  · rw [decide_eq_false (show ¬ (l.length : Int) > 200 by omega)]
    have key := loop_search (step := ref27_Valid_l0_step l) l.length (fun i => !decide (RO (l.getD i [])) || (decide (0 < i) && decide (kn (l.getD i []) < kn (l.getD (i - 1) [])))) (fun i => [.b false, .i i]) (fun i => []) 0 2 [.b false, .i l.length]
      (fun i hi => by
        unfold ref27_Valid_l0_step
        simp only [gi_1, gi_z, gb_z, dlt hi, guardP_pos (inR_of hi), guardP_pos (fun _ _ => inR_of hi), Int.toNat_natCast, wrap_succ (show i < 4611686018427387904 by omega), ro_row]
        by_cases h0 : 0 < i
        · have w1 : IntKind.i64.wrap ((i : Int) - 1) = ((i - 1 : Nat) : Int) := by rw [i64_wrap (by omega)]; omega
          have r2 : inR ((i - 1 : Nat) : Int) l := inR_of (by omega)
          rw [w1]
          simp only [guardP_pos (fun _ _ => r2), Int.toNat_natCast]
          rw [decide_eq_true (show (i : Int) > 0 by omega), decide_eq_true h0]
        · have z : decide ((i : Int) > 0) = false := decide_eq_false (by omega)
          rw [z, decide_eq_false h0]
          rw [guardP_pos (fun _ h => by cases h), guardP_pos (fun _ h => by cases h), guardP_pos (fun _ h => by cases h)]
          simp only [Bool.false_and])
      (by
        unfold ref27_Valid_l0_step
        simp only [gi_1, gi_z, gb_z, dnlt])
    refine ⟨fun _ => key.1, ?_⟩
    rcases key.2 with ⟨i, h1, h2, h3, h4⟩ | ⟨h3, h4⟩
    · have e : ref27_Valid_l0 l = (1, []) := h4
      rw [e, decide_eq_false]
      · rfl
      · intro hv
        rw [Bool.or_eq_true] at h2
        rcases h2 with h2 | h2
        · have := hv.2.1 _ (getD_mem h1)
          rw [decide_eq_true this] at h2; cases h2
        · rw [Bool.and_eq_true] at h2
          have a := of_decide_eq_true h2.1
          have b := of_decide_eq_true h2.2
          have := pairwise_getD hv.2.2 (show i - 1 < i by omega) h1
          omega
    · have e : ref27_Valid_l0 l = (3, [.b false, .i l.length]) := h4
      rw [e, decide_eq_true]
      · rfl
      · have hall : ∀ i, i < l.length → RO (l.getD i []) ∧ (0 < i → kn (l.getD (i - 1) []) ≤ kn (l.getD i [])) := fun i hi => by
          have := h3 i hi
          rw [Bool.or_eq_false_iff] at this
          refine ⟨by simpa using this.1, fun h0 => ?_⟩
          have h2 := this.2
          rw [decide_eq_true h0, Bool.true_and] at h2
          have := of_decide_eq_false h2
          omega
        refine ⟨hl, fun r hr => ?_, ?_⟩
        · obtain ⟨i, hi, rfl⟩ := getD_of_mem hr
          exact (hall i hi).1
        · have mono : ∀ d i, i + d < l.length → kn (l.getD i []) ≤ kn (l.getD (i + d) []) := by
            intro d
            induction d with
            | zero => intro i _; exact Int.le_refl _
            | succ d ih =>
              intro i hi
              have := (hall (i + d + 1) (by omega)).2 (by omega)
              have h2 := ih i (by omega)
              rw [show i + d + 1 - 1 = i + d by omega] at this
              rw [show i + (d + 1) = i + d + 1 by omega]
              omega
          refine pairwise_of_getD fun i j hij hj => ?_
          have := mono (j - i) i (by omega)
          rwa [show i + (j - i) = j by omega] at this
  · rw [decide_eq_true (show (l.length : Int) > 200 by omega)]
    refine ⟨fun h => (by cases h), ?_⟩
    rw [decide_eq_false (fun h : VR l => hl h.1)]
    rfl
theorem rat_is (i t k : Int) (l : List (List Int)) (hl : l.length ≤ 1000000) : ref27_at_pre i t k l ∧ ref27_at_1 i t k l = (HO l i t k).isSome ∧ ref27_at_0 i t k l = (SV l i t k).getD 0 := by
  have e0 : ref27_at_l0_init i t k l = [.i 0, .b false, .i ((l.length : Int) - 1)] := by
    unfold ref27_at_l0_init
    rw [i64_wrap (by omega)]
  have key : ∀ n, n ≤ l.length → HO l i t k = HO (l.take n) i t k → ∃ m r, iterO (ref27_at_l0_step i t k l) m [.i 0, .b false, .i ((n : Int) - 1)] = some r ∧ ((∃ x, HO l i t k = some x ∧ r = (1, [.i (va x)])) ∨ (HO l i t k = none ∧ r = (3, [.i 0, .b false, .i (-1)]))) := by
    intro n
    induction n with
    | zero =>
      intro _ hH
      refine ⟨1, _, iter_out (m := 2) (ys := [.i 0, .b false, .i (-1)]) ?_, .inr ⟨by rw [hH]; rfl, rfl⟩⟩
      unfold ref27_at_l0_step
      have e1 : gi [U.i 0, U.b false, U.i (((0 : Nat) : Int) - 1)] 2 = -1 := rfl
      have e2 : gi [U.i 0, U.b false, U.i (((0 : Nat) : Int) - 1)] 0 = 0 := rfl
      have e3 : gb [U.i 0, U.b false, U.i (((0 : Nat) : Int) - 1)] 1 = false := rfl
      rw [e1, e2, e3]
      rfl
    | succ n ih =>
      intro hn hH
      have hn' : n < l.length := by omega
      rw [take_succ' hn', HO_snoc] at hH
      have e1 : gi [U.i 0, U.b false, U.i (((n + 1 : Nat) : Int) - 1)] 2 = (n : Int) := by show ((n + 1 : Nat) : Int) - 1 = n; omega
      have e2 : gi [U.i 0, U.b false, U.i (((n + 1 : Nat) : Int) - 1)] 0 = 0 := rfl
      have e3 : gb [U.i 0, U.b false, U.i (((n + 1 : Nat) : Int) - 1)] 1 = false := rfl
      have hst : ref27_at_l0_step i t k l [.i 0, .b false, .i (((n + 1 : Nat) : Int) - 1)] = bif says i t k (l.getD n []) then some (1, [.i (va (l.getD n []))]) else some (0, [.i 0, .b false, .i ((n : Int) - 1)]) := by
        unfold ref27_at_l0_step
        rw [e1, e2, e3, decide_eq_true (show (n : Int) ≥ 0 by omega), cond_true, guardP_pos (inR_of hn'), guardP_pos (inR_of hn'), i64_wrap (by omega)]
        simp only [Int.toNat_natCast]
        have : ((((l.getD n []).getD 0 0 == i && decide ((l.getD n []).getD 2 0 ≤ t)) && decide (t < (l.getD n []).getD 3 0)) && decide ((l.getD n []).getD 4 0 ≤ k)) = says i t k (l.getD n []) := by
          unfold says
          rw [Bool.eq_iff_iff]
          simp only [Bool.and_eq_true]
          constructor
          · rintro ⟨⟨⟨h1, h2⟩, h3⟩, h4⟩; exact ⟨⟨⟨h1, h4⟩, h2⟩, h3⟩
          · rintro ⟨⟨⟨h1, h4⟩, h2⟩, h3⟩; exact ⟨⟨⟨h1, h2⟩, h3⟩, h4⟩
        rw [this]
      cases hs : says i t k (l.getD n []) with
      | true =>
        rw [hs, cond_true] at hst
        rw [hs, if_pos rfl] at hH
        exact ⟨1, _, iter_out hst, .inl ⟨_, hH, rfl⟩⟩
      | false =>
        rw [hs, cond_false] at hst
        rw [hs, if_neg (by simp)] at hH
        obtain ⟨m, r, q1, q2⟩ := ih (by omega) hH
        exact ⟨m + 1, r, iter_next hst q1, q2⟩
  obtain ⟨m, r, q1, q2⟩ := key l.length (Nat.le_refl _) (by rw [List.take_length])
  obtain ⟨k1, k2⟩ := loop_is q1
  unfold ref27_at_pre ref27_at_1 ref27_at_0 ref27_at_l0 SV
  rw [e0, k2]
  refine ⟨k1, ?_⟩
  rcases q2 with ⟨x, hx, rfl⟩ | ⟨hx, rfl⟩
  · rw [hx]; exact ⟨rfl, rfl⟩
  · rw [hx]; exact ⟨rfl, rfl⟩
theorem rAt_is (i t k : Int) (l : List (List Int)) : ref27_At_pre i t k l ∧ ref27_At_0 i t k l = bitemp_At_0 i t k l ∧ ref27_At_1 i t k l = bitemp_At_1 i t k l := by
  have ha := at_is i t k l
  unfold ref27_At_pre ref27_At_0 ref27_At_1
  rw [(rvalid_is l).2, rItem_eq, rTime_eq, rTime_eq, ha.2.1, ha.2.2]
  by_cases h : AOK l i t k
  · have hr := rat_is i t k l (by have := h.1.1; omega)
    rw [decide_eq_true h.1, decide_eq_true h.2.1, decide_eq_true h.2.2.1, decide_eq_true h.2.2.2, hr.2.1, hr.2.2, if_pos h, if_pos h]
    refine ⟨⟨(rvalid_is l).1, fun _ => hr.1⟩, ?_⟩
    cases hH : HO l i t k with
    | none => exact ⟨rfl, rfl⟩
    | some x => unfold SV; rw [hH]; exact ⟨rfl, rfl⟩
  · have : (!decide (VR l) || !decide (IT i) || !decide (TM t) || !decide (TM k)) = true := by
      cases hb : (!decide (VR l) || !decide (IT i) || !decide (TM t) || !decide (TM k)) with
      | true => rfl
      | false =>
        simp only [Bool.or_eq_false_iff, Bool.not_eq_false', decide_eq_true_eq] at hb
        exact absurd ⟨hb.1.1.1, hb.1.1.2, hb.1.2, hb.2⟩ h
    rw [this, if_neg h, if_neg h]
    exact ⟨⟨(rvalid_is l).1, fun h => by cases h⟩, rfl, rfl⟩
end Go.Proofs.Ytcbgjecpnhjlpaa

/-!
  The reference's rising lists: put, ends; Say, Changed.
-/
set_option linter.unusedVariables false
set_option linter.unusedSimpArgs false
set_option linter.unusedSectionVars false
set_option maxRecDepth 100000
namespace Go.Proofs.Ytcbgjecpnhjlpaa
open Go Go.Sy

theorem fits8 {n : Nat} (h : n ≤ 1000000) : fitsA 8 n := by unfold fitsA maxLen; omega
theorem fits40 {n : Nat} (h : n ≤ 1000000) : fitsA 40 n := by unfold fitsA maxLen; omega
theorem ofNums_get (l : List Int) (i : Nat) : ((ofNums l).getD i []).getD 0 0 = l.getD i 0 := by
  unfold ofNums
  by_cases h : i < l.length
  · simp [List.getD_eq_getElem?_getD, List.getElem?_eq_getElem h]
  · simp [List.getD_eq_getElem?_getD, List.getElem?_eq_none (show l.length ≤ i by omega)]
theorem ofNums_len (l : List Int) : (ofNums l).length = l.length := by simp [ofNums]
theorem ofNums_app (a b : List Int) : ofNums (a ++ b) = ofNums a ++ ofNums b := by simp [ofNums]
theorem takeI_succ {l : List Int} {i : Nat} (h : i < l.length) : l.take (i + 1) = l.take i ++ [l.getD i 0] := by
  rw [List.take_add_one, List.getElem?_eq_getElem h]
  simp [List.getD_eq_getElem?_getD, List.getElem?_eq_getElem h]
theorem dropI_cons {l : List Int} {i : Nat} (h : i < l.length) : l.drop i = l.getD i 0 :: l.drop (i + 1) := by
  rw [List.getD_eq_getElem?_getD, List.getElem?_eq_getElem h, Option.getD_some, List.getElem_cons_drop]
theorem put_l1 (n : Int) (z : List Int) (hz : z.length ≤ 1000) : ∀ d j (w : List Int), j + d = z.length → w.length ≤ 1000 + j → ∃ m, iterO (ref27_put_l1_step n (ofNums z)) m [.i (j : Int), .r (ofNums w)] = some (3, [.i (z.length : Int), .r (ofNums (w ++ (z.drop j).filter (fun x => decide (x ≠ n))))])
  | 0, j, w, hj, hw => by
    refine ⟨1, iter_out ?_⟩
    unfold ref27_put_l1_step
    simp only [gi_z, gr_1, gr_z, ofNums_len]
    rw [decide_eq_false (by omega), cond_false, List.drop_eq_nil_of_le (by omega), List.filter_nil, List.append_nil, show j = z.length by omega]
  | d + 1, j, w, hj, hw => by
    have hlt : j < (ofNums z).length := by rw [ofNums_len]; omega
    rw [dropI_cons (show j < z.length by omega), List.filter_cons]
    by_cases h : z.getD j 0 = n
    · obtain ⟨m, hm⟩ := put_l1 n z hz d (j + 1) w (by omega) (by omega)
      rw [decide_eq_false (fun e => e h)]
      refine ⟨m + 1, iter_next ?_ hm⟩
      unfold ref27_put_l1_step
      simp only [gi_z, gr_1, gr_z, ofNums_len, ofNums_get, Int.toNat_natCast]
      have e : (z.getD j 0 != n) = false := by simpa using h
      rw [decide_eq_true (by omega), cond_true, guardP_pos (inR_of hlt), guardP_pos (inR_of hlt), e, cond_false, wrap_succ (by omega)]
    · obtain ⟨m, hm⟩ := put_l1 n z hz d (j + 1) (w ++ [z.getD j 0]) (by omega) (by simp; omega)
      rw [decide_eq_true h, if_pos rfl]
      refine ⟨m + 1, iter_next (ys := [.i ((j + 1 : Nat) : Int), .r (ofNums (w ++ [z.getD j 0]))]) ?_ (by rw [hm]; simp)⟩
      unfold ref27_put_l1_step
      simp only [gi_z, gr_1, gr_z, ofNums_len, ofNums_get, Int.toNat_natCast]
      have e : (z.getD j 0 != n) = true := by simpa using h
      rw [decide_eq_true (by omega), cond_true, guardP_pos (inR_of hlt), guardP_pos (inR_of hlt), e, cond_true, guardP_pos (inR_of hlt), guardP_pos (inR_of hlt), guardP_pos (fits8 (by simp only [List.length_cons, List.length_nil]; omega)), wrap_succ (by omega), ofNums_app]
      rfl
theorem put_is (n : Int) {z : List Int} (hz : z.length ≤ 1000) (hr : z.Pairwise (· < ·)) : ref27_put_pre n (ofNums z) ∧ ∃ w : List Int, ref27_put_0 n (ofNums z) = ofNums w ∧ w.length ≤ z.length + 1 ∧ w.Pairwise (· < ·) ∧ ∀ x, x ∈ w ↔ x = n ∨ x ∈ z := by
  have key := loop_search (step := ref27_put_l0_step n (ofNums z)) z.length (fun i => !decide (z.getD i 0 < n)) (fun i => [.i (i : Int), .r (ofNums (z.take i))]) (fun i => [.i (i : Int), .r (ofNums (z.take i))]) 1 1 [.i (z.length : Int), .r (ofNums (z.take z.length))]
    (fun i hi => by
      have hlt : i < (ofNums z).length := by rw [ofNums_len]; omega
      unfold ref27_put_l0_step
      simp only [gi_z, gr_1, gr_z, ofNums_len, ofNums_get, Int.toNat_natCast]
      rw [guardP_pos (fun _ => inR_of hlt), guardP_pos (fun _ => inR_of hlt), decide_eq_true (show (i : Int) < (z.length : Int) by omega), Bool.true_and]
      by_cases h : z.getD i 0 < n
      · rw [decide_eq_true h, cond_true, guardP_pos (inR_of hlt), guardP_pos (inR_of hlt), guardP_pos (fits8 (by simp; omega)), wrap_succ (by omega), takeI_succ hi, ofNums_app]
        rfl
      · rw [decide_eq_false h]; rfl)
    (by
      unfold ref27_put_l0_step
      simp only [gi_z, gr_1, gr_z, ofNums_len]
      have e : decide ((z.length : Int) < (z.length : Int)) = false := decide_eq_false (by omega)
      rw [e, guardP_pos (fun h => by cases h), guardP_pos (fun h => by cases h)]
      rfl)
  have hp : ∃ p, p ≤ z.length ∧ ref27_put_l0 n (ofNums z) = (2, [.i (p : Int), .r (ofNums (z.take p))]) ∧ (∀ x ∈ z.take p, x < n) ∧ (∀ x ∈ z.drop p, n ≤ x) := by
    have small : ∀ p, (∀ j, j < p → z.getD j 0 < n) → p ≤ z.length → ∀ x ∈ z.take p, x < n := fun p h hp x hx => by
      obtain ⟨j, hj, rfl⟩ := List.mem_iff_getElem.1 hx
      have hj' : j < p := by simp at hj; omega
      have := h j hj'
      rw [List.getD_eq_getElem?_getD, List.getElem?_eq_getElem (by omega)] at this
      simpa using this
    rcases key.2 with ⟨i, h1, h2, h3, h4⟩ | ⟨h3, h4⟩
    · refine ⟨i, by omega, h4, small i (fun j hj => by simpa using h3 j hj) (by omega), fun x hx => ?_⟩
      have hn : ¬ z.getD i 0 < n := by simpa using h2
      obtain ⟨j, hj, rfl⟩ := List.mem_iff_getElem.1 hx
      rw [List.getElem_drop]
      have hj' : i + j < z.length := by simp at hj; omega
      rw [List.getD_eq_getElem?_getD, List.getElem?_eq_getElem h1] at hn
      simp only [Option.getD_some] at hn
      by_cases h0 : j = 0
      · subst h0; simpa using hn
      · have := List.pairwise_iff_getElem.1 hr i (i + j) h1 hj' (by omega)
        omega
    · refine ⟨z.length, Nat.le_refl _, h4, small _ (fun j hj => by simpa using h3 j hj) (Nat.le_refl _), fun x hx => ?_⟩
      rw [List.drop_length] at hx; cases hx
  obtain ⟨p, hpl, e0, lo, hi⟩ := hp
  obtain ⟨m, hm⟩ := put_l1 n z hz (z.length - p) p (z.take p ++ [n]) (by omega) (by simp; omega)
  obtain ⟨k1, k2⟩ := loop_is hm
  have ei : ref27_put_l1_init n (ofNums z) = [.i (p : Int), .r (ofNums (z.take p ++ [n]))] := by
    unfold ref27_put_l1_init
    rw [e0, ofNums_app]
    rfl
  unfold ref27_put_pre ref27_put_0
  refine ⟨⟨key.1, ?_, by rw [ei]; exact k1⟩, z.take p ++ [n] ++ (z.drop p).filter (fun x => decide (x ≠ n)), ?_, ?_, ?_, ?_⟩
  · rw [e0]
    exact fits8 (by simp only [gr_1, gr_z, ofNums_len, List.length_take, List.length_cons, List.length_nil]; omega)
  · unfold ref27_put_l1
    rw [ei, k2]
    simp only [gr_1, gr_z]
  · have := List.length_filter_le (fun x => decide (x ≠ n)) (z.drop p)
    simp at *; omega
  · have hs := hr
    rw [← List.take_append_drop p z] at hs
    obtain ⟨s1, s2, s3⟩ := List.pairwise_append.1 hs
    rw [List.append_assoc]
    refine List.pairwise_append.2 ⟨s1, List.pairwise_cons.2 ⟨fun x hx => ?_, List.Pairwise.filter _ s2⟩, fun x hx y hy => ?_⟩
    · have h1 := List.mem_filter.1 hx
      have := hi x h1.1
      have := of_decide_eq_true h1.2
      omega
    · rcases List.mem_cons.1 hy with rfl | hy
      · exact lo x hx
      · exact s3 x hx y (List.mem_filter.1 hy).1
  · intro x
    conv => rhs; rw [← List.take_append_drop p z]
    simp only [List.mem_append, List.mem_filter, List.mem_singleton, decide_eq_true_eq]
    constructor
    · rintro ((h | h) | h)
      · exact .inr (.inl h)
      · exact .inl h
      · exact .inr (.inr h.1)
    · rintro (h | h | h)
      · exact .inl (.inr h)
      · exact .inl (.inl h)
      · by_cases hx : x = n
        · exact .inl (.inr hx)
        · exact .inr ⟨h, hx⟩
/-- The ends of the rows of an item. -/
theorem ends_is (i : Int) (l : List (List Int)) (hl : l.length ≤ 200) : ref27_ends_pre i l ∧ ∃ c : List Int, ref27_ends_0 i l = ofNums c ∧ c.length ≤ 400 ∧ c.Pairwise (· < ·) ∧ ∀ x, x ∈ c ↔ ∃ r ∈ l, it r = i ∧ (x = fr r ∨ x = un r) := by
  have key := loop_for (step := ref27_ends_l0_step i l) l.length (fun j xs => ∃ c : List Int, xs = [.i (j : Int), .r (ofNums c)] ∧ c.length ≤ 2 * j ∧ c.Pairwise (· < ·) ∧ ∀ x, x ∈ c ↔ ∃ r ∈ l.take j, it r = i ∧ (x = fr r ∨ x = un r))
    (fun res => ∃ c : List Int, res = (3, [.i (l.length : Int), .r (ofNums c)]) ∧ c.length ≤ 400 ∧ c.Pairwise (· < ·) ∧ ∀ x, x ∈ c ↔ ∃ r ∈ l, it r = i ∧ (x = fr r ∨ x = un r))
    (fun j xs hj ⟨c, e, h1, h2, h3⟩ => by
      subst e
      have m3 : ∀ x, (∃ r ∈ l.take (j + 1), it r = i ∧ (x = fr r ∨ x = un r)) ↔ (x ∈ c ∨ (it (l.getD j []) = i ∧ (x = fr (l.getD j []) ∨ x = un (l.getD j [])))) := fun x => by
        rw [h3, take_succ' hj]
        simp only [List.mem_append, List.mem_singleton]
        constructor
        · rintro ⟨r, hr | rfl, h⟩
          · exact .inl ⟨r, hr, h⟩
          · exact .inr h
        · rintro (⟨r, hr, h⟩ | h)
          · exact ⟨r, .inl hr, h⟩
          · exact ⟨_, .inr rfl, h⟩
      by_cases hi : it (l.getD j []) = i
      · obtain ⟨p1, c1, q1, q2, q3, q4⟩ := put_is (fr (l.getD j [])) (z := c) (by omega) h2
        obtain ⟨p2, c2, s1, s2, s3, s4⟩ := put_is (un (l.getD j [])) (z := c1) (by omega) q3
        refine .inl ⟨[.i ((j + 1 : Nat) : Int), .r (ofNums c2)], ?_, c2, rfl, by omega, s3, fun x => ?_⟩
        · unfold ref27_ends_l0_step
          simp only [gi_z, gr_1, gr_z, dlt hj, guardP_pos (inR_of hj), Int.toNat_natCast, wrap_succ (show j < 4611686018427387904 by omega)]
          have e : ((l.getD j []).getD 0 0 == i) = true := by simpa using hi
          rw [e, cond_true, guardP_pos p1, q1, guardP_pos p2, s1]
        · rw [m3, s4, q4]
          constructor
          · rintro (h | h | h)
            · exact .inr ⟨hi, .inr h⟩
            · exact .inr ⟨hi, .inl h⟩
            · exact .inl h
          · rintro (h | ⟨_, h | h⟩)
            · exact .inr (.inr h)
            · exact .inr (.inl h)
            · exact .inl h
      · refine .inl ⟨[.i ((j + 1 : Nat) : Int), .r (ofNums c)], ?_, c, rfl, by omega, h2, fun x => ?_⟩
        · unfold ref27_ends_l0_step
          simp only [gi_z, gr_1, gr_z, dlt hj, guardP_pos (inR_of hj), Int.toNat_natCast, wrap_succ (show j < 4611686018427387904 by omega)]
          have e : ((l.getD j []).getD 0 0 == i) = false := by simpa using hi
          rw [e, cond_false]
        · rw [m3]
          constructor
          · exact .inl
          · rintro (h | h)
            · exact h
            · exact absurd h.1 hi)
    (fun xs ⟨c, e, h1, h2, h3⟩ => by
      subst e
      refine ⟨2, _, ?_, c, rfl, by omega, h2, by rw [List.take_length] at h3; exact h3⟩
      unfold ref27_ends_l0_step
      simp only [gi_z, gr_1, gr_z, dnlt]) (xs := ref27_ends_l0_init i l) ⟨[], rfl, by simp, List.Pairwise.nil, by simp⟩
  obtain ⟨k1, c, k2, k3, k4, k5⟩ := key
  unfold ref27_ends_pre ref27_ends_0 ref27_ends_l0
  refine ⟨k1, c, ?_, k3, k4, k5⟩
  rw [k2]
  simp only [gr_1, gr_z]
/-- Changed. -/
theorem rChanged_is (i t : Int) (l : List (List Int)) : ref27_Changed_pre i t l ∧ ref27_Changed_0 i t l = bitemp_Changed_0 i t l ∧ ref27_Changed_1 i t l = bitemp_Changed_1 i t l := by
  obtain ⟨c0, c1, c, c2, c3, c4, c5⟩ := Changed_is i t l
  unfold ref27_Changed_pre ref27_Changed_0 ref27_Changed_1
  rw [(rvalid_is l).2, rItem_eq, rTime_eq, c1, c2]
  have hb : (!decide (VR l) || !decide (IT i) || !decide (TM t)) = !decide (IOK l i t) := by
    by_cases h : IOK l i t
    · rw [decide_eq_true h, decide_eq_true h.1, decide_eq_true h.2.1, decide_eq_true h.2.2]; rfl
    · rw [decide_eq_false h]
      cases hb : (!decide (VR l) || !decide (IT i) || !decide (TM t)) with
      | true => rfl
      | false =>
        simp only [Bool.or_eq_false_iff, Bool.not_eq_false', decide_eq_true_eq] at hb
        exact absurd ⟨hb.1.1, hb.1.2, hb.2⟩ h
  rw [hb]
  by_cases h : IOK l i t
  case neg =>
    rw [decide_eq_false h, if_neg h, c4 h]
    exact ⟨⟨(rvalid_is l).1, fun h => by cases h⟩, rfl, rfl⟩
  have hl : l.length ≤ 200 := h.1.1
  rw [decide_eq_true h, if_pos h]
  have key := loop_for (step := ref27_Changed_l0_step i t l) l.length (fun j xs => ∃ c : List Int, xs = [.i (j : Int), .r (ofNums c)] ∧ c.length ≤ j ∧ c.Pairwise (· < ·) ∧ ∀ x, x ∈ c ↔ (∃ r ∈ l.take j, kn r = x) ∧ SV l i t x ≠ SV l i t (x - 1))
    (fun res => ∃ c : List Int, res = (3, [.i (l.length : Int), .r (ofNums c)]) ∧ c.Pairwise (· < ·) ∧ ∀ x, x ∈ c ↔ (∃ r ∈ l, kn r = x) ∧ SV l i t x ≠ SV l i t (x - 1))
    (fun j xs hj ⟨c, e, h1, h2, h3⟩ => by
      subst e
      have hro := h.1.2.1 _ (getD_mem hj)
      have hkt : TM (kn (l.getD j [])) := hro.2.2.2.2.2
      unfold TM at hkt
      have w : IntKind.i64.wrap (kn (l.getD j []) - 1) = kn (l.getD j []) - 1 := i64_wrap (by omega)
      have a1 := rat_is i t (kn (l.getD j [])) l (by omega)
      have a2 := rat_is i t (kn (l.getD j []) - 1) l (by omega)
      have m3 : ∀ x, ((∃ r ∈ l.take (j + 1), kn r = x) ∧ SV l i t x ≠ SV l i t (x - 1)) ↔ (x ∈ c ∨ (x = kn (l.getD j []) ∧ SV l i t x ≠ SV l i t (x - 1))) := fun x => by
        rw [h3, take_succ' hj]
        simp only [List.mem_append, List.mem_singleton]
        constructor
        · rintro ⟨⟨r, hr | rfl, h⟩, hne⟩
          · exact .inl ⟨⟨r, hr, h⟩, hne⟩
          · exact .inr ⟨h.symm, hne⟩
        · rintro (⟨⟨r, hr, h⟩, hne⟩ | ⟨h, hne⟩)
          · exact ⟨⟨r, .inl hr, h⟩, hne⟩
          · exact ⟨⟨_, .inr rfl, h.symm⟩, hne⟩
      have hsv : ∀ k, (HO l i t k).isSome = ob (SV l i t k) := fun k => by unfold ob SV; rw [Option.isSome_map]
      have cond : (!ref27_at_1 i t (kn (l.getD j [])) l == ref27_at_1 i t (kn (l.getD j []) - 1) l || ref27_at_0 i t (kn (l.getD j [])) l != ref27_at_0 i t (kn (l.getD j []) - 1) l) = decide (SV l i t (kn (l.getD j [])) ≠ SV l i t (kn (l.getD j []) - 1)) := by
        rw [a1.2.1, a1.2.2, a2.2.1, a2.2.2, hsv, hsv]
        exact ob_ov
      have hstep : ref27_Changed_l0_step i t l [.i (j : Int), .r (ofNums c)] = bif decide (SV l i t (kn (l.getD j [])) ≠ SV l i t (kn (l.getD j []) - 1)) then guardP (ref27_put_pre (kn (l.getD j [])) (ofNums c)) (some (0, [.i ((j + 1 : Nat) : Int), .r (ref27_put_0 (kn (l.getD j [])) (ofNums c))])) else some (0, [.i ((j + 1 : Nat) : Int), .r (ofNums c)]) := by
        rw [← cond]
        unfold ref27_Changed_l0_step
        simp only [gi_z, gr_1, gr_z, dlt hj, guardP_pos (inR_of hj), Int.toNat_natCast, wrap_succ (show j < 4611686018427387904 by omega)]
        have w' : IntKind.i64.wrap ((l.getD j []).getD 4 0 - 1) = kn (l.getD j []) - 1 := w
        rw [w', guardP_pos a1.1, guardP_pos a2.1]
      by_cases hne : SV l i t (kn (l.getD j [])) ≠ SV l i t (kn (l.getD j []) - 1)
      · obtain ⟨p1, c1, q1, q2, q3, q4⟩ := put_is (kn (l.getD j [])) (z := c) (by omega) h2
        refine .inl ⟨[.i ((j + 1 : Nat) : Int), .r (ofNums c1)], ?_, c1, rfl, by omega, q3, fun x => ?_⟩
        · rw [hstep, decide_eq_true hne, cond_true, guardP_pos p1, q1]
        · rw [m3, q4]
          constructor
          · rintro (h | h)
            · exact .inr ⟨h, by rw [h]; exact hne⟩
            · exact .inl h
          · rintro (h | ⟨h, _⟩)
            · exact .inr h
            · exact .inl h
      · refine .inl ⟨[.i ((j + 1 : Nat) : Int), .r (ofNums c)], ?_, c, rfl, by omega, h2, fun x => ?_⟩
        · rw [hstep, decide_eq_false hne, cond_false]
        · rw [m3]
          constructor
          · exact .inl
          · rintro (h | ⟨h, h'⟩)
            · exact h
            · rw [h] at h'; exact absurd h' hne)
    (fun xs ⟨c, e, h1, h2, h3⟩ => by
      subst e
      refine ⟨2, _, ?_, c, rfl, h2, by rw [List.take_length] at h3; exact h3⟩
      unfold ref27_Changed_l0_step
      simp only [gi_z, gr_1, gr_z, dnlt]) (xs := ref27_Changed_l0_init i t l) ⟨[], rfl, by simp, List.Pairwise.nil, by simp⟩
  obtain ⟨k1, c', k2, k3, k4⟩ := key
  have : c' = c := inc_eq k3 (c5 h).1 fun k => by rw [k4, (c5 h).2]
  refine ⟨⟨(rvalid_is l).1, fun _ => k1⟩, ?_, rfl⟩
  unfold ref27_Changed_l0
  rw [k2, this]
  simp only [Bool.not_true, cond_false, gr_1, gr_z]
/-- Say. -/
theorem rSay_is (a b c d e : Int) (l : List (List Int)) (h5 : F5 l) : ref27_Say_pre a b c d e l ∧ ref27_Say_0 a b c d e l = bitemp_Say_0 a b c d e l ∧ ref27_Say_1 a b c d e l = bitemp_Say_1 a b c d e l := by
  unfold ref27_Say_pre ref27_Say_0 ref27_Say_1 ref27_Say_s2 bitemp_Say_0 bitemp_Say_1 bitemp_Say_s0 bitemp_Say_s1
  rw [(rvalid_is l).2, rRow_eq, (valid_is l).2, isRow_eq]
  by_cases hv : VR l ∧ RO5 a b c d e
  case neg =>
    have e0 : (!decide (VR l) || !decide (RO5 a b c d e)) = true := by
      cases hb : (!decide (VR l) || !decide (RO5 a b c d e)) with
      | true => rfl
      | false => simp at hb; exact absurd hb hv
    rw [e0]
    exact ⟨⟨(rvalid_is l).1, fun h => by cases h⟩, rfl, rfl⟩
  have hl : l.length ≤ 200 := hv.1.1
  rw [decide_eq_true hv.1, decide_eq_true hv.2]
  by_cases h2 : l.length = 200
  · have e1 : ((l.length : Int) == 200) = true := by simp; omega
    rw [e1]
    exact ⟨⟨(rvalid_is l).1, fun _ h => by cases h⟩, rfl, rfl⟩
  have e1 : ((l.length : Int) == 200) = false := by simp; omega
  rw [e1]
  have key := loop_search (step := ref27_Say_l0_step a b c d e l) l.length (fun j => decide (kn (l.getD j []) > e)) (fun j => [.i 0, .i (j : Int), .r (l.take j)]) (fun j => []) 0 2 [.i 0, .i (l.length : Int), .r (l.take l.length)]
    (fun j hj => by
      unfold ref27_Say_l0_step ref27_Say_s1 ref27_Say_s0
      simp only [gi_z, gi_1, gr_2, gr_1, gr_z, dlt hj, guardP_pos (inR_of hj), Int.toNat_natCast, wrap_succ (show j < 4611686018427387904 by omega)]
      by_cases hk : (l.getD j []).getD 4 0 > e
      · rw [decide_eq_true hk]; rfl
      · rw [decide_eq_false hk, cond_false, guardP_pos (fits40 (by simp; omega)), take_succ' hj]
        have : [(l.getD j []).getD 0 0, (l.getD j []).getD 1 0, (l.getD j []).getD 2 0, (l.getD j []).getD 3 0, (l.getD j []).getD 4 0] = l.getD j [] := n5_eq (h5 _ (getD_mem hj))
        rw [this]
        rfl)
    (by
      unfold ref27_Say_l0_step
      simp only [gi_z, gi_1, gr_2, gr_1, gr_z, dnlt])
  have hlast : (∃ j, j < l.length ∧ kn (l.getD j []) > e) ↔ (decide ((l.length : Int) > 0) && decide ((l.getD (IntKind.i64.wrap ((l.length : Int) - 1)).toNat []).getD 4 0 > e)) = true := by
    by_cases h0 : 0 < l.length
    · have w : IntKind.i64.wrap ((l.length : Int) - 1) = ((l.length - 1 : Nat) : Int) := by rw [i64_wrap (by omega)]; omega
      rw [w, decide_eq_true (show (l.length : Int) > 0 by omega), Bool.true_and, decide_eq_true_eq, Int.toNat_natCast]
      constructor
      · rintro ⟨j, hj, hk⟩
        by_cases hj1 : j = l.length - 1
        · rw [← hj1]; exact hk
        · have := pairwise_getD hv.1.2.2 (show j < l.length - 1 by omega) (show l.length - 1 < l.length by omega)
          show kn (l.getD (l.length - 1) []) > e
          omega
      · intro hk
        exact ⟨l.length - 1, by omega, hk⟩
    · rw [decide_eq_false (show ¬ (l.length : Int) > 0 by omega)]
      constructor
      · rintro ⟨j, hj, _⟩; omega
      · intro h; cases h
  rcases key.2 with ⟨j, g1, g2, g3, g4⟩ | ⟨g3, g4⟩
  · have e2 : ref27_Say_l0 a b c d e l = (1, []) := g4
    have e3 := hlast.1 ⟨j, g1, of_decide_eq_true g2⟩
    rw [e2, e3]
    exact ⟨⟨(rvalid_is l).1, fun _ _ => ⟨key.1, fun h => by cases h⟩⟩, rfl, rfl⟩
  · have e2 : ref27_Say_l0 a b c d e l = (3, [.i 0, .i (l.length : Int), .r (l.take l.length)]) := g4
    have e3 : (decide ((l.length : Int) > 0) && decide ((l.getD (IntKind.i64.wrap ((l.length : Int) - 1)).toNat []).getD 4 0 > e)) = false := by
      cases hb : (decide ((l.length : Int) > 0) && decide ((l.getD (IntKind.i64.wrap ((l.length : Int) - 1)).toNat []).getD 4 0 > e)) with
      | false => rfl
      | true =>
        obtain ⟨j, hj, hk⟩ := hlast.2 hb
        have := g3 j hj
        rw [decide_eq_true hk] at this; cases this
    rw [e2, e3, List.take_length]
    refine ⟨⟨(rvalid_is l).1, fun _ _ => ⟨key.1, fun _ => fits40 (by simp only [gr_2, gr_1, gr_z, List.length_cons, List.length_nil]; omega)⟩⟩, ?_, rfl⟩
    simp only [gr_2, gr_1, gr_z]
    rfl
end Go.Proofs.Ytcbgjecpnhjlpaa

/-!
  The reference's History, Knew and Merge; BitempMatchesReference, as far as what the functions compute.
-/
set_option linter.unusedVariables false
set_option linter.unusedSimpArgs false
set_option linter.unusedSectionVars false
set_option maxRecDepth 100000
namespace Go.Proofs.Ytcbgjecpnhjlpaa
open Go Go.Sy

/-- The integers are the ends of the rows of an item. -/
def Ends (l : List (List Int)) (i : Int) (c : List Int) : Prop := ∀ x, x ∈ c ↔ ∃ r ∈ l, it r = i ∧ (x = fr r ∨ x = un r)
/-- Between two ends the same holds. -/
theorem sv_flat {l : List (List Int)} {i k x t : Int} (hxt : x ≤ t) (h : ∀ r ∈ l, it r = i → ¬ (x < fr r ∧ fr r ≤ t) ∧ ¬ (x < un r ∧ un r ≤ t)) : SV l i t k = SV l i x k := by
  unfold SV
  rw [HO_congr fun r hr => ?_]
  unfold says
  by_cases hi : it r = i
  · obtain ⟨h1, h2⟩ := h r hr hi
    have e1 : decide (fr r ≤ t) = decide (fr r ≤ x) := decide_eq_decide.2 (by omega)
    have e2 : decide (t < un r) = decide (x < un r) := decide_eq_decide.2 (by omega)
    rw [e1, e2]
  · have : (it r == i) = false := by simpa using hi
    rw [this]; simp
theorem sv_none {l : List (List Int)} {i k t : Int} (h : ∀ r ∈ l, it r = i → t < fr r ∨ un r ≤ t) : SV l i t k = none := by
  unfold SV
  rw [Option.map_eq_none_iff, HO_none]
  intro r hr
  unfold says
  by_cases hi : it r = i
  · rcases h r hr hi with q | q
    · rw [decide_eq_false (show ¬ fr r ≤ t by omega)]; simp
    · rw [decide_eq_false (show ¬ t < un r by omega)]; simp
  · have : (it r == i) = false := by simpa using hi
    rw [this]; simp
theorem sv_va {l : List (List Int)} (hl : VR l) {i t k v : Int} (h : SV l i t k = some v) : VA v ∧ ∃ r ∈ l, it r = i ∧ fr r ≤ t ∧ t < un r := by
  unfold SV at h
  cases hH : HO l i t k with
  | none => rw [hH] at h; cases h
  | some r =>
    rw [hH] at h
    obtain ⟨h1, h2⟩ := HO_some hH
    unfold says at h2
    simp only [Bool.and_eq_true, beq_iff_eq, decide_eq_true_eq] at h2
    have : va r = v := Option.some.inj h
    exact ⟨by rw [← this]; exact (hl.2.1 r h1).2.1, r, h1, by omega, by omega, by omega⟩
theorem guardP_idem {α : Type} {p : Prop} {o : Option α} : guardP p (guardP p o) = guardP p o := by
  unfold guardP
  split <;> rfl
/-! ### History -/
theorem rhist_is (i k : Int) {l : List (List Int)} (hl : VR l) (hk : TM k) : ref27_ends_pre i l ∧ loopOk (ref27_History_l0_step i k l) (ref27_History_l0_init i k l) ∧ gr (ref27_History_l0 i k l).snd 1 = bitemp_history_0 i k l := by
  obtain ⟨e0, E, e1, e2, e3, e4⟩ := ends_is i l hl.1
  have hll := hl.1
  have etm : ∀ x ∈ E, TM x := fun x hx => by
    obtain ⟨r, hr, _, h⟩ := (e4 x).1 hx
    have := hl.2.1 r hr
    unfold RO at this
    rcases h with rfl | rfl
    · exact this.2.2.1
    · exact this.2.2.2.1
  have eget : ∀ j, j < E.length → E.getD j 0 ∈ E := fun j hj => by
    rw [List.getD_eq_getElem?_getD, List.getElem?_eq_getElem hj]; exact List.getElem_mem hj
  have emono : ∀ {j j' : Nat}, j < j' → j' < E.length → E.getD j 0 < E.getD j' 0 := fun {j j'} h h' => by
    have := List.pairwise_iff_getElem.1 e3 j j' (by omega) h' h
    rw [List.getD_eq_getElem?_getD, List.getD_eq_getElem?_getD, List.getElem?_eq_getElem (by omega), List.getElem?_eq_getElem h']
    exact this
  have enot : ∀ {j : Nat}, j + 1 < E.length → ∀ x ∈ E, ¬ (E.getD j 0 < x ∧ x < E.getD (j + 1) 0) := fun {j} hj x hx ⟨h1, h2⟩ => by
    obtain ⟨q, hq, rfl⟩ := List.mem_iff_getElem.1 hx
    have eq : E[q] = E.getD q 0 := by rw [List.getD_eq_getElem?_getD, List.getElem?_eq_getElem hq]; rfl
    rw [eq] at h1 h2
    rcases Nat.lt_or_ge q (j + 1) with h | h
    · rcases Nat.lt_or_ge q j with h' | h'
      · have := emono h' (by omega); omega
      · have : q = j := by omega
        subst this; omega
    · rcases Nat.lt_or_ge (j + 1) q with h' | h'
      · have := emono h' hq; omega
      · have : q = j + 1 := by omega
        subst this; omega
  have flat : ∀ {j : Nat}, j + 1 < E.length → ∀ t, E.getD j 0 ≤ t → t < E.getD (j + 1) 0 → SV l i t k = SV l i (E.getD j 0) k := fun {j} hj t h1 h2 =>
    sv_flat h1 fun r hr hi => by
      have a := enot hj (fr r) ((e4 _).2 ⟨r, hr, hi, .inl rfl⟩)
      have b := enot hj (un r) ((e4 _).2 ⟨r, hr, hi, .inr rfl⟩)
      omega
  have hElen : (ref27_ends_0 i l).length = E.length := by rw [e1, ofNums_len]
  have low : ∀ t, (∀ j, j < E.length → t < E.getD j 0) → SV l i t k = none := fun t h => sv_none fun r hr hi => by
    have := (e4 (fr r)).2 ⟨r, hr, hi, .inl rfl⟩
    obtain ⟨q, hq, hq'⟩ := List.mem_iff_getElem.1 this
    have := h q hq
    rw [List.getD_eq_getElem?_getD, List.getElem?_eq_getElem hq] at this
    simp only [Option.getD_some] at this
    left; omega
  have key := loop_for (step := ref27_History_l0_step i k l) (E.length - 1) (fun j xs => ∃ out : List (List Int), xs = [.i (j : Int), .r out] ∧ CAN i k out ∧ out.length ≤ j ∧ (j < E.length → (∀ x ∈ out, un x ≤ E.getD j 0) ∧ ∀ t v, hasV out t v ↔ t < E.getD j 0 ∧ SV l i t k = some v) ∧ (E.length = 0 → out = []))
    (fun res => gr res.2 1 = bitemp_history_0 i k l)
    (fun j xs hj ⟨out, e, hC, hlen, hI, _⟩ => by
      subst e
      have hj1 : j + 1 < E.length := by omega
      obtain ⟨hun, hV⟩ := hI (by omega)
      have hat := rat_is i (E.getD j 0) k l (by omega)
      have r1 : inR (j : Int) (ref27_ends_0 i l) := inR_of (by omega)
      have r2 : inR ((j + 1 : Nat) : Int) (ref27_ends_0 i l) := inR_of (by omega)
      have eI : ((ref27_ends_0 i l).getD j []).getD 0 0 = E.getD j 0 := by rw [e1]; exact ofNums_get _ _
      have eJ : ((ref27_ends_0 i l).getD (j + 1) []).getD 0 0 = E.getD (j + 1) 0 := by rw [e1]; exact ofNums_get _ _
      have hlt : E.getD j 0 < E.getD (j + 1) 0 := emono (show j < j + 1 by omega) hj1
      have hsv : ref27_at_1 i (E.getD j 0) k l = (SV l i (E.getD j 0) k).isSome := by rw [hat.2.1]; unfold SV; rw [Option.isSome_map]
      have w1 : 0 < out.length → IntKind.i64.wrap ((out.length : Int) - 1) = ((out.length - 1 : Nat) : Int) := fun h => by rw [i64_wrap (by omega)]; omega
      have rl : 0 < out.length → inR (IntKind.i64.wrap ((out.length : Int) - 1)) out := fun h => by rw [w1 h]; exact inR_of (by omega)
      have rl' : ∀ {c d : Bool}, (c && decide ((out.length : Int) > 0) && d) = true → inR (IntKind.i64.wrap ((out.length : Int) - 1)) out := fun {c d} h => rl (by
        simp only [Bool.and_eq_true, decide_eq_true_eq] at h; omega)
      have rl'' : ∀ {c : Bool}, (c && decide ((out.length : Int) > 0)) = true → inR (IntKind.i64.wrap ((out.length : Int) - 1)) out := fun {c} h => rl (by
        simp only [Bool.and_eq_true, decide_eq_true_eq] at h; omega)
      -- what a round comes to
      have hstep : ref27_History_l0_step i k l [.i (j : Int), .r out] = bif (SV l i (E.getD j 0) k).isSome && decide ((out.length : Int) > 0) && ((out.getD (IntKind.i64.wrap ((out.length : Int) - 1)).toNat []).getD 3 0 == E.getD j 0) && ((out.getD (IntKind.i64.wrap ((out.length : Int) - 1)).toNat []).getD 1 0 == (SV l i (E.getD j 0) k).getD 0) then guardP (inR (IntKind.i64.wrap ((out.length : Int) - 1)) out) (some (0, [.i ((j + 1 : Nat) : Int), .r (out.set (IntKind.i64.wrap ((out.length : Int) - 1)).toNat (setEl 5 (out.getD (IntKind.i64.wrap ((out.length : Int) - 1)).toNat []) 3 [E.getD (j + 1) 0]))]))
          else bif (SV l i (E.getD j 0) k).isSome then some (0, [.i ((j + 1 : Nat) : Int), .r (out ++ [[i, (SV l i (E.getD j 0) k).getD 0, E.getD j 0, E.getD (j + 1) 0, k]])]) else some (0, [.i ((j + 1 : Nat) : Int), .r out]) := by
        unfold ref27_History_l0_step ref27_History_s0 ref27_History_s1
        simp only [gi_z, gr_1, gr_z, hElen, wrap_succ (show j < 4611686018427387904 by omega), Int.toNat_natCast, eI, eJ, guardP_pos r1, guardP_pos r2, guardP_pos hat.1, hsv, hat.2.2]
        rw [decide_eq_true (show ((j + 1 : Nat) : Int) < (E.length : Int) by omega), cond_true]
        rw [guardP_pos (fun h => rl'' h), guardP_pos (fun h => rl'' h), guardP_pos (fun h => rl'' h), guardP_pos (fun _ => r1), guardP_pos (fun _ => r1), guardP_pos (fun h => rl' h), guardP_pos (fun h => rl' h), guardP_pos (fun h => rl' h)]
        rw [guardP_idem, guardP_idem, guardP_pos (p := fitsA 40 _) (fits40 (by simp only [List.length_cons, List.length_nil]; omega))]
      cases hs : SV l i (E.getD j 0) k with
      | none =>
        rw [hs] at hstep
        refine .inl ⟨_, hstep, out, rfl, hC, by omega, fun _ => ⟨fun x hx => by have := hun x hx; omega, fun t v => ?_⟩, fun h => by omega⟩
        rw [hV]
        constructor
        · rintro ⟨h1, h2⟩; exact ⟨by omega, h2⟩
        · rintro ⟨h1, h2⟩
          refine ⟨?_, h2⟩
          apply Classical.byContradiction
          intro hge
          rw [flat hj1 t (by omega) h1, hs] at h2
          cases h2
      | some v =>
        rw [hs] at hstep
        have hEj := etm _ (eget j (by omega))
        have hEj1 := etm _ (eget (j + 1) hj1)
        have hva := (sv_va hl hs).1
        -- what holds up to the next end
        have upto1 : ∀ t v', (t < E.getD (j + 1) 0 ∧ SV l i t k = some v') ↔ ((t < E.getD j 0 ∧ SV l i t k = some v') ∨ (E.getD j 0 ≤ t ∧ t < E.getD (j + 1) 0 ∧ v' = v)) := fun t v' => by
          constructor
          · rintro ⟨h1, h2⟩
            by_cases hlt' : t < E.getD j 0
            · exact .inl ⟨hlt', h2⟩
            · rw [flat hj1 t (by omega) h1, hs] at h2
              exact .inr ⟨by omega, h1, (Option.some.inj h2).symm⟩
          · rintro (⟨h1, h2⟩ | ⟨h1, h2, rfl⟩)
            · exact ⟨by omega, h2⟩
            · exact ⟨h2, by rw [flat hj1 t h1 h2, hs]⟩
        by_cases hm : ∃ P L, out = P ++ [L] ∧ un L = E.getD j 0 ∧ va L = v
        · obtain ⟨P, L, rfl, hL1, hL2⟩ := hm
          have hn : (P ++ [L]).length = P.length + 1 := by simp
          have w : IntKind.i64.wrap (((P ++ [L]).length : Int) - 1) = (P.length : Int) := by rw [hn, i64_wrap (by omega)]; omega
          have gl : (P ++ [L]).getD P.length [] = L := by simp [List.getD_eq_getElem?_getD]
          have sl : ∀ z, (P ++ [L]).set P.length z = P ++ [z] := fun z => by rw [List.set_append_right _ _ (Nat.le_refl _)]; simp
          have hrL := hC.1 L (by simp)
          have b1 : (L.getD 3 0 == E.getD j 0) = true := by simpa using hL1
          have b2 : (L.getD 1 0 == v) = true := by simpa using hL2
          rw [w] at hstep
          simp only [Int.toNat_natCast, gl, sl, Option.isSome_some, Option.getD_some, b1, b2, Bool.true_and, Bool.and_true, setEl_3 hrL.1] at hstep
          rw [decide_eq_true (by rw [hn]; omega), cond_true, guardP_pos (inR_of (by rw [hn]; omega))] at hstep
          obtain ⟨c1, c2, c3⟩ := List.pairwise_append.1 hC.2
          unfold HR at hrL
          have hL' : HR i k [it L, va L, fr L, E.getD (j + 1) 0, kn L] := ⟨rfl, hrL.2.1, hrL.2.2.1, hrL.2.2.2.1, hrL.2.2.2.2.1, hEj1, by show fr L < E.getD (j + 1) 0; omega⟩
          refine .inl ⟨_, hstep, P ++ [[it L, va L, fr L, E.getD (j + 1) 0, kn L]], rfl, ⟨?_, ?_⟩, by simp at hlen ⊢; omega, fun _ => ⟨?_, fun t v' => ?_⟩, fun h => by omega⟩
          · intro x hx
            rcases List.mem_append.1 hx with hx | hx
            · exact hC.1 x (List.mem_append.2 (.inl hx))
            · rw [List.mem_singleton.1 hx]; exact hL'
          · refine List.pairwise_append.2 ⟨c1, by simp, fun x hx y hy => ?_⟩
            rw [List.mem_singleton.1 hy]
            exact c3 x hx L (by simp)
          · intro x hx
            rcases List.mem_append.1 hx with hx | hx
            · have := hun x (List.mem_append.2 (.inl hx)); omega
            · rw [List.mem_singleton.1 hx]; exact Int.le_refl _
          · rw [upto1, ← hV]
            unfold hasV
            constructor
            · rintro ⟨x, hx, h1, h2, h3⟩
              rcases List.mem_append.1 hx with hx | hx
              · exact .inl ⟨x, List.mem_append.2 (.inl hx), h1, h2, h3⟩
              · rw [List.mem_singleton.1 hx] at h1 h2 h3
                have h1 : fr L ≤ t := h1
                have h2 : t < E.getD (j + 1) 0 := h2
                have h3 : va L = v' := h3
                by_cases hlt' : t < E.getD j 0
                · exact .inl ⟨L, by simp, h1, by omega, h3⟩
                · exact .inr ⟨by omega, h2, by omega⟩
            · rintro (⟨x, hx, h1, h2, h3⟩ | ⟨h1, h2, rfl⟩)
              · rcases List.mem_append.1 hx with hx | hx
                · exact ⟨x, List.mem_append.2 (.inl hx), h1, h2, h3⟩
                · rw [List.mem_singleton.1 hx] at h1 h2 h3
                  exact ⟨_, List.mem_append.2 (.inr (List.mem_singleton.2 rfl)), h1, by show t < E.getD (j + 1) 0; omega, h3⟩
              · exact ⟨_, List.mem_append.2 (.inr (List.mem_singleton.2 rfl)), by show fr L ≤ t; omega, h2, hL2⟩
        · have hcond : ((some v : Option Int).isSome && decide ((out.length : Int) > 0) && ((out.getD (IntKind.i64.wrap ((out.length : Int) - 1)).toNat []).getD 3 0 == E.getD j 0) && ((out.getD (IntKind.i64.wrap ((out.length : Int) - 1)).toNat []).getD 1 0 == (some v : Option Int).getD 0)) = false := by
            cases hb : ((some v : Option Int).isSome && decide ((out.length : Int) > 0) && ((out.getD (IntKind.i64.wrap ((out.length : Int) - 1)).toNat []).getD 3 0 == E.getD j 0) && ((out.getD (IntKind.i64.wrap ((out.length : Int) - 1)).toNat []).getD 1 0 == (some v : Option Int).getD 0)) with
            | false => rfl
            | true =>
              simp only [Option.isSome_some, Bool.true_and, Bool.and_eq_true, decide_eq_true_eq, beq_iff_eq, Option.getD_some] at hb
              obtain ⟨⟨b0, b1⟩, b2⟩ := hb
              have h0 : 0 < out.length := by omega
              rw [w1 h0, Int.toNat_natCast] at b1 b2
              exfalso
              apply hm
              refine ⟨out.take (out.length - 1), out.getD (out.length - 1) [], ?_, b1, b2⟩
              have := take_succ' (show out.length - 1 < out.length by omega)
              rw [← this, show out.length - 1 + 1 = out.length by omega, List.take_length]
          rw [hcond, cond_false] at hstep
          simp only [Option.isSome_some, cond_true, Option.getD_some] at hstep
          have hN : HR i k [i, v, E.getD j 0, E.getD (j + 1) 0, k] := ⟨rfl, rfl, rfl, hva, hEj, hEj1, hlt⟩
          refine .inl ⟨_, hstep, out ++ [[i, v, E.getD j 0, E.getD (j + 1) 0, k]], rfl, ⟨?_, ?_⟩, by simp; omega, fun _ => ⟨?_, fun t v' => ?_⟩, fun h => by omega⟩
          · intro x hx
            rcases List.mem_append.1 hx with hx | hx
            · exact hC.1 x hx
            · rw [List.mem_singleton.1 hx]; exact hN
          · refine List.pairwise_append.2 ⟨hC.2, by simp, fun x hx y hy => ?_⟩
            rw [List.mem_singleton.1 hy]
            show un x < E.getD j 0 ∨ (un x = E.getD j 0 ∧ va x ≠ v)
            have hux := hun x hx
            by_cases hlt' : un x < E.getD j 0
            · exact .inl hlt'
            · right
              refine ⟨by omega, fun hv' => ?_⟩
              -- x is the last one
              obtain ⟨q, hq, rfl⟩ := getD_of_mem hx
              apply hm
              by_cases hlast : q + 1 = out.length
              · refine ⟨out.take q, out.getD q [], ?_, by omega, hv'⟩
                have := take_succ' hq
                rw [← this, hlast, List.take_length]
              · have hql : q < out.length - 1 := by omega
                have c := pairwise_getD hC.2 hql (show out.length - 1 < out.length by omega)
                have hz := hC.1 _ (getD_mem (show out.length - 1 < out.length by omega))
                have hz2 := hun _ (getD_mem (show out.length - 1 < out.length by omega))
                unfold HR at hz
                unfold CR at c
                omega
          · intro x hx
            rcases List.mem_append.1 hx with hx | hx
            · have := hun x hx; omega
            · rw [List.mem_singleton.1 hx]; exact Int.le_refl _
          · rw [upto1, ← hV]
            unfold hasV
            constructor
            · rintro ⟨x, hx, h1, h2, h3⟩
              rcases List.mem_append.1 hx with hx | hx
              · exact .inl ⟨x, hx, h1, h2, h3⟩
              · rw [List.mem_singleton.1 hx] at h1 h2 h3
                exact .inr ⟨h1, h2, h3.symm⟩
            · rintro (⟨x, hx, h1, h2, h3⟩ | ⟨h1, h2, rfl⟩)
              · exact ⟨x, List.mem_append.2 (.inl hx), h1, h2, h3⟩
              · exact ⟨_, List.mem_append.2 (.inr (List.mem_singleton.2 rfl)), h1, h2, rfl⟩)
    (fun xs ⟨out, e, hC, hlen, hI, hz⟩ => by
      subst e
      refine ⟨3, [.i ((E.length - 1 : Nat) : Int), .r out], ?_, ?_⟩
      · unfold ref27_History_l0_step
        simp only [gi_z, gr_1, gr_z, hElen, wrap_succ (show E.length - 1 < 4611686018427387904 by omega)]
        rw [decide_eq_false (by omega), cond_false]
      · show out = _
        obtain ⟨_, hc2, hc3⟩ := history_is i k l hl
        refine can_eq hC hc2 fun t v => ?_
        rw [hc3, HV_iff]
        by_cases hE : E.length = 0
        · rw [hz hE]
          constructor
          · rintro ⟨x, hx, _⟩; cases hx
          · intro h
            obtain ⟨_, r, hr, hi, _⟩ := sv_va hl h
            have := (e4 (fr r)).2 ⟨r, hr, hi, .inl rfl⟩
            rw [List.eq_nil_of_length_eq_zero hE] at this
            cases this
        · obtain ⟨_, hV⟩ := hI (by omega)
          rw [hV]
          refine ⟨fun h => h.2, fun h => ⟨?_, h⟩⟩
          obtain ⟨_, r, hr, hi, _, hu⟩ := sv_va hl h
          have := (e4 (un r)).2 ⟨r, hr, hi, .inr rfl⟩
          obtain ⟨q, hq, hq'⟩ := List.mem_iff_getElem.1 this
          have eq : E[q] = E.getD q 0 := by rw [List.getD_eq_getElem?_getD, List.getElem?_eq_getElem hq]; rfl
          rw [eq] at hq'
          by_cases hq1 : q = E.length - 1
          · rw [← hq1]; omega
          · have := emono (show q < E.length - 1 by omega) (show E.length - 1 < E.length by omega)
            omega) (xs := ref27_History_l0_init i k l) ⟨[], rfl, ⟨by simp, List.Pairwise.nil⟩, by simp, fun h => ⟨by simp, fun t v => by
        constructor
        · rintro ⟨x, hx, _⟩; cases hx
        · rintro ⟨h1, h2⟩
          have := low t fun j hj => by
            rcases Nat.eq_zero_or_pos j with h | h'
            · subst h; exact h1
            · have := emono h' hj; omega
          rw [this] at h2; cases h2⟩, fun _ => rfl⟩
  exact ⟨e0, key.1, key.2⟩
theorem rHistory_is (i k : Int) (l : List (List Int)) : ref27_History_pre i k l ∧ ref27_History_0 i k l = bitemp_History_0 i k l ∧ ref27_History_1 i k l = bitemp_History_1 i k l := by
  have hH := History_is i k l
  unfold ref27_History_pre ref27_History_0 ref27_History_1
  rw [(rvalid_is l).2, rItem_eq, rTime_eq, hH.2.1, hH.2.2]
  have hb : (!decide (VR l) || !decide (IT i) || !decide (TM k)) = !decide (IOK l i k) := by
    by_cases h : IOK l i k
    · rw [decide_eq_true h, decide_eq_true h.1, decide_eq_true h.2.1, decide_eq_true h.2.2]; rfl
    · rw [decide_eq_false h]
      cases hb : (!decide (VR l) || !decide (IT i) || !decide (TM k)) with
      | true => rfl
      | false =>
        simp only [Bool.or_eq_false_iff, Bool.not_eq_false', decide_eq_true_eq] at hb
        exact absurd ⟨hb.1.1, hb.1.2, hb.2⟩ h
  rw [hb]
  by_cases h : IOK l i k
  · rw [decide_eq_true h, if_pos h, if_pos h]
    obtain ⟨h1, h2, h3⟩ := rhist_is i k h.1 h.2.2
    exact ⟨⟨(rvalid_is l).1, fun _ => ⟨h1, h2⟩⟩, h3, rfl⟩
  · rw [decide_eq_false h, if_neg h, if_neg h]
    exact ⟨⟨(rvalid_is l).1, fun h => by cases h⟩, rfl, rfl⟩
/-! ### Knew -/
theorem exists_max {w : List Int} {t : Int} (h : ∃ x ∈ w, x ≤ t) : ∃ x ∈ w, x ≤ t ∧ ∀ y ∈ w, y ≤ t → y ≤ x := by
  induction w with
  | nil => obtain ⟨x, hx, _⟩ := h; cases hx
  | cons a w ih =>
    by_cases hw : ∃ x ∈ w, x ≤ t
    · obtain ⟨x, hx, h1, h2⟩ := ih hw
      by_cases ha : a ≤ t ∧ x < a
      · refine ⟨a, List.mem_cons_self, ha.1, fun y hy hyt => ?_⟩
        rcases List.mem_cons.1 hy with rfl | hy
        · exact Int.le_refl _
        · have := h2 y hy hyt; omega
      · refine ⟨x, List.mem_cons_of_mem _ hx, h1, fun y hy hyt => ?_⟩
        rcases List.mem_cons.1 hy with rfl | hy
        · omega
        · exact h2 y hy hyt
    · obtain ⟨x, hx, hxt⟩ := h
      rcases List.mem_cons.1 hx with rfl | hx
      · refine ⟨x, List.mem_cons_self, hxt, fun y hy hyt => ?_⟩
        rcases List.mem_cons.1 hy with rfl | hy
        · exact Int.le_refl _
        · exact absurd ⟨y, hy, hyt⟩ hw
      · exact absurd ⟨x, hx, hxt⟩ hw
theorem rall_is {l : List (List Int)} (hl : VR l) (i a b v k : Int) (hab : a < b) : ref27_all_pre i a b v k l ∧ (ref27_all_0 i a b v k l = true ↔ ∀ t, a ≤ t → t < b → SV l i t k = some v) := by
  obtain ⟨e0, E, e1, e2, e3, e4⟩ := ends_is i l hl.1
  obtain ⟨p0, w, w1, w2, w3, w4⟩ := put_is a (z := E) (by omega) e3
  have hll := hl.1
  have hW : ref27_put_0 a (ref27_ends_0 i l) = ofNums w := by rw [e1]; exact w1
  have hwl : (ref27_put_0 a (ref27_ends_0 i l)).length = w.length := by rw [hW, ofNums_len]
  have key := loop_search (step := ref27_all_l0_step i a b v k l) w.length (fun j => decide (w.getD j 0 ≥ a) && decide (w.getD j 0 < b) && (!(SV l i (w.getD j 0) k).isSome || ((SV l i (w.getD j 0) k).getD 0 != v))) (fun j => [.b false, .i (j : Int)]) (fun j => []) 0 2 [.b false, .i (w.length : Int)]
    (fun j hj => by
      have r1 : inR (j : Int) (ref27_put_0 a (ref27_ends_0 i l)) := inR_of (by omega)
      have eI : ((ref27_put_0 a (ref27_ends_0 i l)).getD j []).getD 0 0 = w.getD j 0 := by rw [hW]; exact ofNums_get _ _
      have hat := rat_is i (w.getD j 0) k l (by omega)
      have hsv : ref27_at_1 i (w.getD j 0) k l = (SV l i (w.getD j 0) k).isSome := by rw [hat.2.1]; unfold SV; rw [Option.isSome_map]
      unfold ref27_all_l0_step
      simp only [gi_1, gi_z, gb_z, hwl, dlt hj, guardP_pos r1, guardP_pos (fun _ => r1), Int.toNat_natCast, wrap_succ (show j < 4611686018427387904 by omega), eI, guardP_pos hat.1, hsv, hat.2.2])
    (by
      unfold ref27_all_l0_step
      simp only [gi_1, gi_z, gb_z, hwl, dnlt])
  unfold ref27_all_pre ref27_all_0
  refine ⟨⟨e0, by rw [e1]; exact p0, key.1⟩, ?_⟩
  have wget : ∀ x ∈ w, ∃ j, j < w.length ∧ w.getD j 0 = x := fun x hx => by
    obtain ⟨j, hj, rfl⟩ := List.mem_iff_getElem.1 hx
    exact ⟨j, hj, by rw [List.getD_eq_getElem?_getD, List.getElem?_eq_getElem hj]; rfl⟩
  have bad : ∀ x, (!(SV l i x k).isSome || ((SV l i x k).getD 0 != v)) = true ↔ SV l i x k ≠ some v := fun x => by
    cases SV l i x k with
    | none => simp
    | some y => simp
  rcases key.2 with ⟨j, g1, g2, g3, g4⟩ | ⟨g3, g4⟩
  · have e : ref27_all_l0 i a b v k l = (1, []) := g4
    rw [e]
    rw [Bool.and_eq_true, Bool.and_eq_true] at g2
    obtain ⟨⟨h1, h2⟩, h3⟩ := g2
    constructor
    · intro h; cases h
    · intro h
      exact absurd (h _ (of_decide_eq_true h1) (of_decide_eq_true h2)) ((bad _).1 h3)
  · have e : ref27_all_l0 i a b v k l = (3, [.b false, .i (w.length : Int)]) := g4
    rw [e]
    refine ⟨fun _ t h1 h2 => ?_, fun _ => rfl⟩
    obtain ⟨x, hx, hxt, hmax⟩ := exists_max (w := w) (t := t) ⟨a, (w4 a).2 (.inl rfl), h1⟩
    have hax : a ≤ x := hmax a ((w4 a).2 (.inl rfl)) h1
    have fl : SV l i t k = SV l i x k := sv_flat hxt fun r hr hi => by
      have m1 : fr r ∈ w := (w4 _).2 (.inr ((e4 _).2 ⟨r, hr, hi, .inl rfl⟩))
      have m2 : un r ∈ w := (w4 _).2 (.inr ((e4 _).2 ⟨r, hr, hi, .inr rfl⟩))
      refine ⟨fun h => ?_, fun h => ?_⟩
      · have := hmax _ m1 h.2; omega
      · have := hmax _ m2 h.2; omega
    rw [fl]
    obtain ⟨j, hj, rfl⟩ := wget x hx
    have g := g3 j hj
    rw [decide_eq_true (show w.getD j 0 ≥ a from hax), decide_eq_true (show w.getD j 0 < b by omega), Bool.true_and, Bool.true_and] at g
    apply Classical.byContradiction
    intro hne
    rw [(bad _).2 hne] at g
    cases g
theorem rKnew_is (i a b v : Int) (l : List (List Int)) : ref27_Knew_pre i a b v l ∧ ref27_Knew_0 i a b v l = bitemp_Knew_0 i a b v l ∧ ref27_Knew_1 i a b v l = bitemp_Knew_1 i a b v l := by
  obtain ⟨q0, q1, q2⟩ := Knew_is i a b v l
  have hb : (!decide (VR l) || !decide (IT i) || !decide (TM a) || !decide (TM b) || !decide (VA v) || decide (a ≥ b)) = !decide (KOK l i a b v) := by
    by_cases h : KOK l i a b v
    · rw [decide_eq_true h]
      obtain ⟨h1, h2, h3, h4, h5, h6⟩ := h
      rw [decide_eq_true h1, decide_eq_true h2, decide_eq_true h3, decide_eq_true h4, decide_eq_true h6, decide_eq_false (show ¬ a ≥ b by omega)]; rfl
    · rw [decide_eq_false h]
      cases hb : (!decide (VR l) || !decide (IT i) || !decide (TM a) || !decide (TM b) || !decide (VA v) || decide (a ≥ b)) with
      | true => rfl
      | false =>
        simp only [Bool.or_eq_false_iff, Bool.not_eq_false', decide_eq_true_eq, decide_eq_false_iff_not] at hb
        exact absurd ⟨hb.1.1.1.1.1, hb.1.1.1.1.2, hb.1.1.1.2, hb.1.1.2, by omega, hb.1.2⟩ h
  unfold ref27_Knew_pre ref27_Knew_0 ref27_Knew_1
  rw [(rvalid_is l).2, rItem_eq, rTime_eq, rTime_eq, rValue_eq, hb]
  by_cases h : KOK l i a b v
  case neg =>
    rw [decide_eq_false h, q1 h]
    refine ⟨⟨(rvalid_is l).1, fun h => by cases h⟩, ?_, rfl⟩
    unfold bitemp_Knew_0
    rw [kok_b, decide_eq_false h]
    rfl
  have hl : l.length ≤ 200 := h.1.1
  have hab := h.2.2.2.2.1
  rw [decide_eq_true h]
  have key := loop_search (step := ref27_Knew_l0_step i a b v l) l.length (fun j => ref27_all_0 i a b v (kn (l.getD j [])) l) (fun j => [.i 0, .i 0, .i (j : Int)]) (fun j => [.i (kn (l.getD j []))]) 0 2 [.i 0, .i 0, .i (l.length : Int)]
    (fun j hj => by
      have ha := rall_is h.1 i a b v (kn (l.getD j [])) hab
      unfold ref27_Knew_l0_step
      have e2 : ∀ x, gi [U.i 0, U.i 0, U.i x] 2 = x := fun _ => rfl
      have e1 : ∀ x, gi [U.i 0, U.i 0, U.i x] 1 = 0 := fun _ => rfl
      have e0 : ∀ x, gi [U.i 0, U.i 0, U.i x] 0 = 0 := fun _ => rfl
      simp only [e2, e1, e0, dlt hj, guardP_pos (inR_of hj), Int.toNat_natCast, wrap_succ (show j < 4611686018427387904 by omega)]
      rw [guardP_pos ha.1])
    (by
      unfold ref27_Knew_l0_step
      have e2 : ∀ x, gi [U.i 0, U.i 0, U.i x] 2 = x := fun _ => rfl
      have e1 : ∀ x, gi [U.i 0, U.i 0, U.i x] 1 = 0 := fun _ => rfl
      have e0 : ∀ x, gi [U.i 0, U.i 0, U.i x] 0 = 0 := fun _ => rfl
      simp only [e2, e1, e0, dnlt])
  have eqv : ∀ j, ref27_all_0 i a b v (kn (l.getD j [])) l = true ↔ WH (bitemp_history_0 i (kn (l.getD j [])) l) a b v := fun j => by
    rw [(rall_is h.1 i a b v (kn (l.getD j [])) hab).2, wh_sv h.1 hab]
  refine ⟨⟨(rvalid_is l).1, fun _ => key.1⟩, ?_⟩
  rcases key.2 with ⟨j, g1, g2, g3, g4⟩ | ⟨g3, g4⟩
  · have e : ref27_Knew_l0 i a b v l = (1, [.i (kn (l.getD j []))]) := g4
    rw [e]
    rcases q2 h with ⟨j', r1, r2, r3, r4, r5⟩ | ⟨r1, _⟩
    · have : j = j' := by
        rcases Nat.lt_trichotomy j j' with hlt | he | hgt
        · exact absurd ((eqv j).1 g2) (r3 j hlt)
        · exact he
        · have := g3 j' hgt
          rw [(eqv j').2 r2] at this; cases this
      subst this
      rw [r4, r5]
      exact ⟨rfl, rfl⟩
    · exact absurd ((eqv j).1 g2) (r1 j g1)
  · have e : ref27_Knew_l0 i a b v l = (3, [.i 0, .i 0, .i (l.length : Int)]) := g4
    rw [e]
    rcases q2 h with ⟨j', r1, r2, r3, r4, r5⟩ | ⟨r1, r2, r3⟩
    · have := g3 j' r1
      rw [(eqv j').2 r2] at this; cases this
    · rw [r2, r3]
      exact ⟨rfl, rfl⟩
end Go.Proofs.Ytcbgjecpnhjlpaa

/-!
  The reference's Merge; BitempMatchesReference, as far as what the functions compute.
-/
set_option linter.unusedVariables false
set_option linter.unusedSimpArgs false
set_option linter.unusedSectionVars false
set_option maxRecDepth 100000
namespace Go.Proofs.Ytcbgjecpnhjlpaa
open Go Go.Sy

theorem rlie_eq {x y : List Int} (hx : RO x) (hy : RO y) : ref27_lie_0 (x.getD 0 0) (x.getD 1 0) (x.getD 2 0) (x.getD 3 0) (x.getD 4 0) (y.getD 0 0) (y.getD 1 0) (y.getD 2 0) (y.getD 3 0) (y.getD 4 0) = LI x y := by
  rw [Bool.eq_iff_iff, li_iff]
  unfold ref27_lie_0
  unfold RO at hx hy
  simp only [Bool.and_eq_true, beq_iff_eq, bne_iff_ne, ne_eq, decide_eq_true_eq, imin_eq, imax_eq]
  constructor
  · rintro ⟨⟨⟨⟨h1, h2⟩, h3⟩, h4⟩, h5⟩
    refine ⟨h1, h2, h3, ?_⟩
    have h4 : fr x < un y := h4
    have h5 : fr y < un x := h5
    split <;> split <;> omega
  · rintro ⟨h1, h2, h3, h4⟩
    have : fr x < un y ∧ fr y < un x := by
      split at h4 <;> split at h4 <;> omega
    exact ⟨⟨⟨⟨h1, h2⟩, h3⟩, this.1⟩, this.2⟩
theorem rmg_l0 {a b : List (List Int)} (ha : VR a) (hb : VR b) : loopOk (ref27_Merge_l0_step a b) (ref27_Merge_l0_init a b) ∧ ((Lies a b ∧ ref27_Merge_l0 a b = (1, [])) ∨ (¬ Lies a b ∧ ref27_Merge_l0 a b = (3, [.i 0, .i (a.length : Int)]))) := by
  have hal := ha.1
  have hbl := hb.1
  have inner : ∀ i, i < a.length → loopOk (ref27_Merge_l1_step a b [.i 0, .i (i : Int)]) (ref27_Merge_l1_init a b [.i 0, .i (i : Int)]) ∧ (((∃ y ∈ b, LI (a.getD i []) y = true) ∧ ref27_Merge_l1 a b [.i 0, .i (i : Int)] = (1, [])) ∨ ((∀ y ∈ b, LI (a.getD i []) y = false) ∧ ref27_Merge_l1 a b [.i 0, .i (i : Int)] = (3, [.i 0, .i (b.length : Int)]))) := fun i hi => by
    have key := loop_search (step := ref27_Merge_l1_step a b [.i 0, .i (i : Int)]) b.length (fun j => LI (a.getD i []) (b.getD j [])) (fun j => [.i 0, .i (j : Int)]) (fun j => []) 0 2 [.i 0, .i (b.length : Int)]
      (fun j hj => by
        unfold ref27_Merge_l1_step
        simp only [gi_1, gi_z, dlt hj, guardP_pos (inR_of hj), guardP_pos (inR_of hi), Int.toNat_natCast, wrap_succ (show j < 4611686018427387904 by omega)]
        rw [rlie_eq (ha.2.1 _ (getD_mem hi)) (hb.2.1 _ (getD_mem hj))])
      (by
        unfold ref27_Merge_l1_step
        simp only [gi_1, gi_z, dnlt])
    refine ⟨key.1, ?_⟩
    rcases key.2 with ⟨j, g1, g2, g3, g4⟩ | ⟨g3, g4⟩
    · exact .inl ⟨⟨_, getD_mem g1, g2⟩, g4⟩
    · refine .inr ⟨fun y hy => ?_, g4⟩
      obtain ⟨j, hj, rfl⟩ := getD_of_mem hy
      exact g3 j hj
  open Classical in
  have key := loop_search (step := ref27_Merge_l0_step a b) a.length (fun i => decide (∃ y ∈ b, LI (a.getD i []) y = true)) (fun i => [.i 0, .i (i : Int)]) (fun i => []) 0 2 [.i 0, .i (a.length : Int)]
    (fun i hi => by
      obtain ⟨k1, k2⟩ := inner i hi
      unfold ref27_Merge_l0_step
      simp only [gi_1, gi_z, dlt hi, wrap_succ (show i < 4611686018427387904 by omega)]
      rw [guardP_pos k1]
      rcases k2 with ⟨h1, h2⟩ | ⟨h1, h2⟩
      · rw [h2, decide_eq_true h1]; rfl
      · rw [h2, decide_eq_false (fun ⟨y, hy, h⟩ => by rw [h1 y hy] at h; cases h)]; rfl)
    (by
      unfold ref27_Merge_l0_step
      simp only [gi_1, gi_z, dnlt])
  refine ⟨key.1, ?_⟩
  rcases key.2 with ⟨i, g1, g2, g3, g4⟩ | ⟨g3, g4⟩
  · obtain ⟨y, hy, h⟩ := of_decide_eq_true g2
    exact .inl ⟨⟨y, hy, _, getD_mem g1, h⟩, g4⟩
  · refine .inr ⟨?_, g4⟩
    rintro ⟨y, hy, x, hx, h⟩
    obtain ⟨i, hi, rfl⟩ := getD_of_mem hx
    have := g3 i hi
    rw [decide_eq_true ⟨y, hy, h⟩] at this
    cases this
/-- The first k of the others that are not there. -/
def fb (a b : List (List Int)) (k : Nat) : List (List Int) := (b.take k).filter fun y => !has5 a y
/-- So far merged: i of the one list, k of the other one. -/
structure MInv (a b : List (List Int)) (i k : Nat) (out : List (List Int)) : Prop where
  same : SameBy kn out (a.take i ++ fb a b k)
  srt : Srt kn out
  lt : ∀ y ∈ b.take k, ∀ j, i ≤ j → j < a.length → kn y < kn (a.getD j [])
  le : ∀ x ∈ a.take i, ∀ j, k ≤ j → j < b.length → kn x ≤ kn (b.getD j [])
  kle : k ≤ b.length
  ile : i ≤ a.length
theorem MInv.len {a b : List (List Int)} {i k : Nat} {out : List (List Int)} (h : MInv a b i k out) : out.length ≤ a.length + b.length := by
  have h1 := h.same.length
  have h2 := List.length_filter_le (fun y => !has5 a y) (b.take k)
  have h3 := h.ile
  have h4 := h.kle
  unfold fb at h1
  simp at h1 h2
  omega
theorem MInv.mem {a b : List (List Int)} {i k : Nat} {out : List (List Int)} (h : MInv a b i k out) {x : List Int} (hx : x ∈ out) : x ∈ a.take i ∨ x ∈ b.take k := by
  rcases List.mem_append.1 ((h.same.mem (x := x)).1 hx) with h | h
  · exact .inl h
  · exact .inr (List.mem_filter.1 h).1
section
variable {a b : List (List Int)} (ha : VR a) (hb : VR b) (fa : F5 a) (f5 : F5 b)
include ha hb fa f5
/-- One of the others is gone past. -/
theorem minv_b {i k : Nat} {out : List (List Int)} (h : MInv a b i k out) (hk : k < b.length) (hlt : i < a.length → kn (b.getD k []) < kn (a.getD i [])) :
    MInv a b i (k + 1) (out ++ if has5 a (b.getD k []) then [] else [b.getD k []]) := by
  have hf : fb a b (k + 1) = fb a b k ++ if has5 a (b.getD k []) then [] else [b.getD k []] := by
    unfold fb
    rw [take_succ' hk, List.filter_append]
    congr 1
    cases hq : has5 a (b.getD k []) with
    | true => rw [List.filter_cons_of_neg (by rw [hq]; simp)]; rfl
    | false => rw [List.filter_cons_of_pos (by rw [hq]; rfl)]; rfl
  refine ⟨?_, ?_, fun y hy j hj hja => ?_, fun x hx j hj hjb => h.le x hx j (by omega) hjb, hk, h.ile⟩
  · rw [hf, ← List.append_assoc]
    exact h.same.append (SameBy.refl _)
  · rw [srt_append]
    refine ⟨h.srt, ?_, fun x hx y hy => ?_⟩
    · split <;> simp [Srt]
    · split at hy
      · cases hy
      · rw [List.mem_singleton.1 hy]
        rcases h.mem hx with hx | hx
        · exact h.le x hx k (Nat.le_refl _) hk
        · obtain ⟨q, hq, rfl⟩ := List.mem_iff_getElem.1 hx
          have hq' : q < k := by simp at hq; omega
          have := pairwise_getD hb.2.2 hq' hk
          have e : (b.take k)[q] = b.getD q [] := by simp [List.getD_eq_getElem?_getD, List.getElem?_eq_getElem (show q < b.length by omega)]
          rw [e]; exact this
  · rw [take_succ' hk] at hy
    rcases List.mem_append.1 hy with hy | hy
    · exact h.lt y hy j hj hja
    · rw [List.mem_singleton.1 hy]
      have h1 := hlt (by omega)
      by_cases hji : j = i
      · rw [hji]; exact h1
      · have := pairwise_getD ha.2.2 (show i < j by omega) hja
        omega
/-- One of the first list is taken. -/
theorem minv_a {i k : Nat} {out : List (List Int)} (h : MInv a b i k out) (hi : i < a.length) (hex : k < b.length → kn (a.getD i []) ≤ kn (b.getD k [])) : MInv a b (i + 1) k (out ++ [a.getD i []]) := by
  refine ⟨?_, ?_, fun y hy j hj hja => h.lt y hy j (by omega) hja, fun x hx j hj hjb => ?_, h.kle, hi⟩
  · rw [take_succ' hi]
    have s1 : SameBy kn (out ++ [a.getD i []]) ((a.take i ++ fb a b k) ++ [a.getD i []]) := h.same.append (SameBy.refl _)
    have s2 : SameBy kn (fb a b k ++ [a.getD i []]) ([a.getD i []] ++ fb a b k) := same_swap fun y hy z hz e => by
      rw [List.mem_singleton.1 hz] at e
      have := h.lt y (List.mem_filter.1 hy).1 i (Nat.le_refl _) hi
      omega
    have s3 := (SameBy.refl (k := kn) (a.take i)).append s2
    rw [List.append_assoc] at s1
    rw [List.append_assoc]
    exact s1.trans s3
  · rw [srt_append]
    refine ⟨h.srt, by simp [Srt], fun x hx y hy => ?_⟩
    rw [List.mem_singleton.1 hy]
    rcases h.mem hx with hx | hx
    · obtain ⟨q, hq, rfl⟩ := List.mem_iff_getElem.1 hx
      have hq' : q < i := by simp at hq; omega
      have := pairwise_getD ha.2.2 hq' hi
      have e : (a.take i)[q] = a.getD q [] := by simp [List.getD_eq_getElem?_getD, List.getElem?_eq_getElem (show q < a.length by omega)]
      rw [e]; exact this
    · have := h.lt x hx i (Nat.le_refl _) hi; omega
  · rw [take_succ' hi] at hx
    rcases List.mem_append.1 hx with hx | hx
    · exact h.le x hx j hj hjb
    · rw [List.mem_singleton.1 hx]
      have h1 := hex (by omega)
      by_cases hjk : j = k
      · rw [hjk]; exact h1
      · have := pairwise_getD hb.2.2 (show k < j by omega) hjb
        omega
theorem has_b {k : Nat} (hk : k < b.length) : ref27_Has_pre ((b.getD k []).getD 0 0) ((b.getD k []).getD 1 0) ((b.getD k []).getD 2 0) ((b.getD k []).getD 3 0) ((b.getD k []).getD 4 0) a ∧ ref27_Has_0 ((b.getD k []).getD 0 0) ((b.getD k []).getD 1 0) ((b.getD k []).getD 2 0) ((b.getD k []).getD 3 0) ((b.getD k []).getD 4 0) a = has5 a (b.getD k []) := by
  have hal := ha.1
  have := has_is ((b.getD k []).getD 0 0) ((b.getD k []).getD 1 0) ((b.getD k []).getD 2 0) ((b.getD k []).getD 3 0) ((b.getD k []).getD 4 0) a (by omega)
  refine ⟨this.1, this.2.trans ?_⟩
  unfold has5
  rw [Bool.eq_iff_iff, decide_eq_true_eq, List.any_eq_true, nn5]
  constructor
  · rintro ⟨x, hx, h⟩; exact ⟨x, hx, decide_eq_true h.symm⟩
  · rintro ⟨x, hx, h⟩; exact ⟨x, hx, (of_decide_eq_true h).symm⟩
theorem rmg_l3 {i : Nat} (hi : i < a.length) (u v : U) : ∀ d k out, k + d = b.length → MInv a b i k out → ∃ (m k' : Nat) (out' : List (List Int)), iterO (ref27_Merge_l3_step a b [u, .i (i : Int), v]) m [.i (k : Int), .r out] = some (3, [.i (k' : Int), .r out']) ∧ MInv a b i k' out' ∧ (k' < b.length → kn (a.getD i []) ≤ kn (b.getD k' [])) := by
  have hal := ha.1
  have hbl := hb.1
  have ei : gi [u, .i (i : Int), v] 1 = (i : Int) := rfl
  intro d
  induction d with
  | zero =>
    intro k out hk h
    refine ⟨1, k, out, iter_out ?_, h, fun h => by omega⟩
    unfold ref27_Merge_l3_step
    simp only [gi_z, gr_1, gr_z, ei]
    rw [decide_eq_false (show ¬ (k : Int) < (b.length : Int) by omega)]
    rw [guardP_pos (fun h => by cases h), guardP_pos (fun h => by cases h), guardP_pos (fun h => by cases h), guardP_pos (fun h => by cases h), guardP_pos (fun h => by cases h), guardP_pos (fun h => by cases h)]
    rfl
  | succ d ih =>
    intro k out hk h
    have hkb : k < b.length := by omega
    have hol := h.len
    obtain ⟨g1, g2⟩ := has_b ha hb fa f5 hkb
    have n5b : [(b.getD k []).getD 0 0, (b.getD k []).getD 1 0, (b.getD k []).getD 2 0, (b.getD k []).getD 3 0, (b.getD k []).getD 4 0] = b.getD k [] := n5_eq (f5 _ (getD_mem hkb))
    have hst : ref27_Merge_l3_step a b [u, .i (i : Int), v] [.i (k : Int), .r out] = bif decide (kn (b.getD k []) < kn (a.getD i [])) then some (0, [.i ((k + 1 : Nat) : Int), .r (out ++ if has5 a (b.getD k []) then [] else [b.getD k []])]) else some (3, [.i (k : Int), .r out]) := by
      unfold ref27_Merge_l3_step ref27_Merge_s1 ref27_Merge_s0
      simp only [gi_z, gr_1, gr_z, ei, Int.toNat_natCast, guardP_pos (fun _ => inR_of hkb), guardP_pos (fun _ => inR_of hi), guardP_pos (inR_of hkb), guardP_pos g1, wrap_succ (show k < 4611686018427387904 by omega), g2]
      rw [decide_eq_true (show (k : Int) < (b.length : Int) by omega), Bool.true_and]
      cases hq : has5 a (b.getD k []) with
      | true =>
        simp only [Bool.not_true, cond_false, if_true, List.append_nil]
      | false =>
        simp only [Bool.not_false, cond_true, n5b]
        rw [guardP_pos (fits40 (by simp only [List.length_cons, List.length_nil]; omega))]
        rfl
    by_cases hlt : kn (b.getD k []) < kn (a.getD i [])
    · rw [decide_eq_true hlt, cond_true] at hst
      obtain ⟨m, k', out', q1, q2⟩ := ih (k + 1) _ (by omega) (minv_b ha hb fa f5 h hkb (fun _ => hlt))
      exact ⟨m + 1, k', out', iter_next hst q1, q2⟩
    · rw [decide_eq_false hlt, cond_false] at hst
      exact ⟨1, k, out, iter_out hst, h, fun _ => by omega⟩
theorem rmg_l2 : ∃ (k : Nat) (out : List (List Int)), loopOk (ref27_Merge_l2_step a b) (ref27_Merge_l2_init a b) ∧ ref27_Merge_l2 a b = (2, [.i (k : Int), .i (a.length : Int), .r out]) ∧ MInv a b a.length k out := by
  have hal := ha.1
  have hbl := hb.1
  have h0 : MInv a b 0 0 [] := ⟨by unfold fb; simp; exact SameBy.refl _, by simp [Srt], by simp, by simp, Nat.zero_le _, Nat.zero_le _⟩
  have key := loop_for (step := ref27_Merge_l2_step a b) a.length (fun i xs => ∃ (k : Nat) (out : List (List Int)), xs = [.i (k : Int), .i (i : Int), .r out] ∧ MInv a b i k out)
    (fun res => ∃ (k : Nat) (out : List (List Int)), res = (2, [.i (k : Int), .i (a.length : Int), .r out]) ∧ MInv a b a.length k out)
    (fun i xs hi ⟨k, out, e, h⟩ => by
      subst e
      obtain ⟨m, k', out', q1, q2, q3⟩ := rmg_l3 ha hb fa f5 hi (.i (k : Int)) (.r out) (b.length - k) k out (by have := h.kle; omega) h
      obtain ⟨p1, p2⟩ := loop_is q1
      have n5a : [(a.getD i []).getD 0 0, (a.getD i []).getD 1 0, (a.getD i []).getD 2 0, (a.getD i []).getD 3 0, (a.getD i []).getD 4 0] = a.getD i [] := n5_eq (fa _ (getD_mem hi))
      have hol := q2.len
      refine .inl ⟨[.i (k' : Int), .i ((i + 1 : Nat) : Int), .r (out' ++ [a.getD i []])], ?_, k', _, rfl, minv_a ha hb fa f5 q2 hi q3⟩
      have e3 : ref27_Merge_l3 a b [.i (k : Int), .i (i : Int), .r out] = (3, [.i (k' : Int), .r out']) := by
        unfold ref27_Merge_l3
        rw [show ref27_Merge_l3_init a b [.i (k : Int), .i (i : Int), .r out] = [.i (k : Int), .r out] from rfl, p2]
      have p1' : loopOk (ref27_Merge_l3_step a b [.i (k : Int), .i (i : Int), .r out]) (ref27_Merge_l3_init a b [.i (k : Int), .i (i : Int), .r out]) := p1
      unfold ref27_Merge_l2_step ref27_Merge_s3 ref27_Merge_s2
      rw [e3]
      simp only [gi_z, gi_1, gr_1, gr_z, dlt hi, guardP_pos p1', guardP_pos (inR_of hi), Int.toNat_natCast, n5a, wrap_succ (show i < 4611686018427387904 by omega)]
      rw [guardP_pos (fits40 (by simp only [List.length_cons, List.length_nil]; omega))])
    (fun xs ⟨k, out, e, h⟩ => by
      subst e
      refine ⟨1, [.i (k : Int), .i (a.length : Int), .r out], ?_, k, out, rfl, h⟩
      unfold ref27_Merge_l2_step
      simp only [gi_z, gi_1, gr_2, gr_1, gr_z, dnlt]) (xs := ref27_Merge_l2_init a b) ⟨0, [], rfl, h0⟩
  obtain ⟨k1, k, out, k2, k3⟩ := key
  exact ⟨k, out, k1, k2, k3⟩
theorem rmg_l4 : loopOk (ref27_Merge_l4_step a b) (ref27_Merge_l4_init a b) ∧ gr (ref27_Merge_l4 a b).snd 1 = stab kn (mrg a b) := by
  have hal := ha.1
  have hbl := hb.1
  obtain ⟨k, out, _, e2, h⟩ := rmg_l2 ha hb fa f5
  have go : ∀ d k out, k + d = b.length → MInv a b a.length k out → ∃ (m : Nat) (out' : List (List Int)), iterO (ref27_Merge_l4_step a b) m [.i (k : Int), .r out] = some (3, [.i (b.length : Int), .r out']) ∧ MInv a b a.length b.length out' := by
    intro d
    induction d with
    | zero =>
      intro k out hk h
      obtain rfl : k = b.length := by omega
      refine ⟨1, out, iter_out ?_, h⟩
      unfold ref27_Merge_l4_step
      simp only [gi_z, gr_1, gr_z, dnlt]
    | succ d ih =>
      intro k out hk h
      have hkb : k < b.length := by omega
      have hol := h.len
      obtain ⟨g1, g2⟩ := has_b ha hb fa f5 hkb
      have n5b : [(b.getD k []).getD 0 0, (b.getD k []).getD 1 0, (b.getD k []).getD 2 0, (b.getD k []).getD 3 0, (b.getD k []).getD 4 0] = b.getD k [] := n5_eq (f5 _ (getD_mem hkb))
      obtain ⟨m, out', q1, q2⟩ := ih (k + 1) _ (by omega) (minv_b ha hb fa f5 h hkb (fun h => by omega))
      refine ⟨m + 1, out', iter_next ?_ q1, q2⟩
      unfold ref27_Merge_l4_step ref27_Merge_s5 ref27_Merge_s4
      simp only [gi_z, gr_1, gr_z, Int.toNat_natCast, dlt hkb, guardP_pos (inR_of hkb), guardP_pos g1, wrap_succ (show k < 4611686018427387904 by omega), g2]
      cases hq : has5 a (b.getD k []) with
      | true => simp only [Bool.not_true, cond_false, if_true, List.append_nil]
      | false =>
        simp only [Bool.not_false, cond_true, n5b]
        rw [guardP_pos (fits40 (by simp only [List.length_cons, List.length_nil]; omega))]
        rfl
  obtain ⟨m, out', q1, q2⟩ := go (b.length - k) k out (by have := h.kle; omega) h
  obtain ⟨p1, p2⟩ := loop_is q1
  have e0 : ref27_Merge_l4_init a b = [.i (k : Int), .r out] := by unfold ref27_Merge_l4_init; rw [e2]; rfl
  refine ⟨by rw [e0]; exact p1, ?_⟩
  unfold ref27_Merge_l4
  rw [e0, p2]
  simp only [gr_1, gr_z]
  refine stab_unique ?_ q2.srt
  have := q2.same
  unfold fb at this
  rw [List.take_length, List.take_length] at this
  rw [mrg_eq f5]
  exact this
end
theorem rMerge_is {a b : List (List Int)} (fa : F5 a) (f5 : F5 b) : ref27_Merge_pre a b ∧ ref27_Merge_1 a b = mgE a b ∧ ref27_Merge_0 a b = mgL a b := by
  unfold ref27_Merge_pre ref27_Merge_0 ref27_Merge_1 ref27_Merge_s6 ref27_Merge_s7 mgL mgE
  rw [(rvalid_is a).2, (rvalid_is b).2]
  by_cases h : VR a ∧ VR b
  case neg =>
    have e0 : (!decide (VR a) || !decide (VR b)) = true := by
      cases hb : (!decide (VR a) || !decide (VR b)) with
      | true => rfl
      | false => simp at hb; exact absurd hb h
    rw [e0, if_neg h]
    exact ⟨⟨(rvalid_is a).1, (rvalid_is b).1, fun h => by cases h⟩, rfl, rfl⟩
  obtain ⟨ha, hb⟩ := h
  rw [decide_eq_true ha, decide_eq_true hb, if_pos ⟨ha, hb⟩]
  obtain ⟨p0, p1⟩ := rmg_l0 ha hb
  obtain ⟨k, out, p2, _, _⟩ := rmg_l2 ha hb fa f5
  obtain ⟨p3, p4⟩ := rmg_l4 ha hb fa f5
  refine ⟨⟨(rvalid_is a).1, (rvalid_is b).1, fun _ => ⟨p0, fun _ => ⟨p2, p3⟩⟩⟩, ?_⟩
  rw [p4, stab_length]
  rcases p1 with ⟨h1, h2⟩ | ⟨h1, h2⟩
  · rw [h2, if_pos h1]
    exact ⟨rfl, rfl⟩
  · rw [h2, if_neg h1]
    by_cases hlen : 200 < (mrg a b).length
    · rw [decide_eq_true (by omega), if_pos hlen]; exact ⟨rfl, rfl⟩
    · rw [decide_eq_false (by omega), if_neg hlen, if_pos rfl, stab_f5 (mrg_f5 fa f5)]; exact ⟨rfl, rfl⟩
theorem ints_self (a : List (List Int)) (h : a.length ≤ 1000000000) : ref27_Ints_pre a a ∧ ref27_Ints_0 a a = true := by
  obtain ⟨h1, h2⟩ := ints_is a a (by omega)
  exact ⟨h1, by rw [h2, decide_eq_true rfl]⟩
theorem same_self' (a : List (List Int)) (h : a.length ≤ 1000000000) : ref27_Same_pre a a ∧ ref27_Same_0 a a = true := by
  obtain ⟨h1, h2⟩ := same_is a a (by omega)
  exact ⟨h1, by rw [h2, decide_eq_true rfl]⟩
theorem bitempMatches_ok (a b c d e item time known value : Int) (list other : List (List Int)) (h5 : F5 list) (g5 : F5 other) : law27_BitempMatchesReference_0 a b c d e item time known value list other = true ∧ law27_BitempMatchesReference_pre a b c d e item time known value list other := by
  obtain ⟨hh, hp⟩ := head_ok
  have v := valid_is list
  have rv := rvalid_is list
  obtain ⟨s0, s1⟩ := say_is a b c d e list
  obtain ⟨t0, t1, t2⟩ := rSay_is a b c d e list h5
  have at0 := at_is item time known list
  obtain ⟨u0, u1, u2⟩ := rAt_is item time known list
  have hi := History_is item known list
  obtain ⟨w0, w1, w2⟩ := rHistory_is item known list
  obtain ⟨c0, c1, cl, c2, c3, _⟩ := Changed_is item time list
  obtain ⟨x0, x1, x2⟩ := rChanged_is item time list
  obtain ⟨k0, _⟩ := Knew_is item time known value list
  obtain ⟨y0, y1, y2⟩ := rKnew_is item time known value list
  obtain ⟨m0, m1, m2⟩ := merge_is list other
  obtain ⟨n0, n1, n2⟩ := rMerge_is h5 g5
  have hsl : (bitemp_Say_0 a b c d e list).length ≤ 1000000000 := by
    unfold bitemp_Say_0 bitemp_Say_s0
    by_cases hv : VR list
    · have := hv.1
      cases (!bitemp_Valid_0 list || !bitemp_isRow_0 a b c d e) <;> cases ((list.length : Int) == 200) <;> cases (decide ((list.length : Int) > 0) && decide ((list.getD (IntKind.i64.wrap ((list.length : Int) - 1)).toNat []).getD 4 0 > e)) <;> simp <;> omega
    · rw [v.2, decide_eq_false hv]; simp
  have hml : (mgL list other).length ≤ 1000000000 := by
    unfold mgL
    split
    · rename_i h
      have := (mgE_ok h).2.2.2
      rw [stab_f5 (mrg_f5 h5 g5), stab_length]; omega
    · simp
  have hcl : (bitemp_Changed_0 item time list).length ≤ 1000000000 := by rw [c2, ofNums_len]; omega
  have S1 := same_self' _ hsl
  have hHl : (bitemp_History_0 item known list).length ≤ 1000000000 := by
    rw [hi.2.1]
    split
    · rename_i h
      have := (history_is item known list h.1).2.1.hi.len
      omega
    · simp
  have S2 := same_self' _ hHl
  have S3 := same_self' _ hml
  have S4 := ints_self _ hcl
  unfold law27_BitempMatchesReference_0 law27_BitempMatchesReference_pre
  rw [m2, n2, w1, x1, t1]
  by_cases hg : (decide ((list.length : Int) > 60) && decide ((list.length : Int) ≤ 200) || decide ((other.length : Int) > 60) && decide ((other.length : Int) ≤ 200)) = true
  · rw [hg]
    exact ⟨hh, hp, fun h => by cases h⟩
  · have hg : (decide ((list.length : Int) > 60) && decide ((list.length : Int) ≤ 200) || decide ((other.length : Int) > 60) && decide ((other.length : Int) ≤ 200)) = false := by simpa using hg
    rw [hg]
    refine ⟨?_, hp, fun _ => ⟨fun _ => v.1, fun _ => rv.1, s0, t0, fun _ => S1.1, at0.1, u0, hi.1, w0, fun _ => S2.1, c0, x0, fun _ => S4.1, k0, y0, m0, n0, fun _ => S3.1⟩⟩
    rw [cond_false, hh, v.2, rv.2, t2, u1, u2, w2, x2, y1, y2, m1, n1, S1.2, S2.2, S3.2, S4.2]
    simp
end Go.Proofs.Ytcbgjecpnhjlpaa
