/-
  The laws Never, Said, Items of package bitemp, in plain Lean.
-/
import Derived.Test.YtcbgjecpnhjlpaaBitempH
set_option linter.unusedVariables false
namespace Go.Proofs.Ytcbgjecpnhjlpaa
open Go Go.Sy

theorem Hist_len (i k : Int) (l : List (List Int)) : (bitemp_History_0 i k l).length ≤ 4611686018427387904 := by
  rw [(History_is i k l).2.1]
  split
  · rename_i h
    have := (history_is i k l h.1).2.1.hi.len
    omega
  · simp
/-- Of two lists of which the same holds the histories are the same. -/
theorem hist_eq {i k : Int} {l l' : List (List Int)} (h : VR l) (h' : VR l') (he : ∀ t, SV l i t k = SV l' i t k) : bitemp_history_0 i k l = bitemp_history_0 i k l' := by
  obtain ⟨_, g1, g2⟩ := history_is i k l h
  obtain ⟨_, g3, g4⟩ := history_is i k l' h'
  refine can_eq g1 g3 fun t v => ?_
  rw [g2, g4, HV_iff, HV_iff, he]
theorem At_eq {i t k k' : Int} {l l' : List (List Int)} (h : AOK l i t k ↔ AOK l' i t k') (he : SV l i t k = SV l' i t k') : bitemp_At_0 i t k l = bitemp_At_0 i t k' l' ∧ bitemp_At_1 i t k l = bitemp_At_1 i t k' l' := by
  obtain ⟨_, g1, g2⟩ := at_is i t k l
  obtain ⟨_, g3, g4⟩ := at_is i t k' l'
  have e2 : (HO l i t k).isSome = (HO l' i t k').isSome := by
    have := congrArg Option.isSome he
    simpa [SV] using this
  have e1 : va ((HO l i t k).getD []) = va ((HO l' i t k').getD []) := by
    unfold SV at he
    cases h1 : HO l i t k with
    | none =>
      cases h2 : HO l' i t k' with
      | none => rfl
      | some r => rw [h1, h2] at he; cases he
    | some r =>
      cases h2 : HO l' i t k' with
      | none => rw [h1, h2] at he; cases he
      | some r' =>
        rw [h1, h2] at he
        simp only [Option.map_some, Option.some.injEq] at he
        exact he
  rw [g1, g2, g3, g4, e1, e2]
  by_cases h1 : AOK l i t k
  · rw [if_pos h1, if_pos h1, if_pos (h.1 h1), if_pos (h.1 h1)]; exact ⟨rfl, rfl⟩
  · rw [if_neg h1, if_neg h1, if_neg (fun h2 => h1 (h.2 h2)), if_neg (fun h2 => h1 (h.2 h2))]; exact ⟨rfl, rfl⟩
theorem Hist_eq {i k : Int} {l l' : List (List Int)} (h : VR l) (h' : VR l') (he : ∀ t, SV l i t k = SV l' i t k) : bitemp_History_0 i k l = bitemp_History_0 i k l' ∧ bitemp_History_1 i k l = bitemp_History_1 i k l' := by
  rw [(History_is i k l).2.1, (History_is i k l').2.1, (History_is i k l).2.2, (History_is i k l').2.2, hist_eq h h' he]
  have : IOK l i k ↔ IOK l' i k := by unfold IOK; simp [h, h']
  by_cases h1 : IOK l i k
  · rw [if_pos h1, if_pos h1, if_pos (this.1 h1), if_pos (this.1 h1)]; exact ⟨rfl, rfl⟩
  · rw [if_neg h1, if_neg h1, if_neg (fun h2 => h1 (this.2 h2)), if_neg (fun h2 => h1 (this.2 h2))]; exact ⟨rfl, rfl⟩
theorem same_self (a : List (List Int)) (ha : a.length ≤ 4611686018427387904) : ref27_Same_0 a a = true := by rw [(same_is a a ha).2]; simp

theorem bitempNever_ok (a b c d e item time known : Int) (list : List (List Int)) : law27_BitempNever_0 a b c d e item time known list = true ∧ law27_BitempNever_pre a b c d e item time known list := by
  obtain ⟨hh, hp⟩ := head_ok
  have hs := say_is a b c d e list
  unfold law27_BitempNever_0 law27_BitempNever_pre
  rw [hh]
  by_cases hl : list.length > 60
  · rw [decide_eq_true (show (list.length : Int) > 60 by omega)]
    exact ⟨rfl, hp, fun h => (by cases h)⟩
  · rw [decide_eq_false (show ¬ (list.length : Int) > 60 by omega)]
    by_cases hc : (bitemp_Say_1 a b c d e list != 0 || decide (known ≥ e)) = true
    · rw [hc]
      exact ⟨rfl, hp, fun _ => ⟨hs.1, fun h => (by cases h)⟩⟩
    · rw [Bool.eq_false_iff.2 hc]
      have hc1 : bitemp_Say_1 a b c d e list = 0 ∧ ¬ known ≥ e := by
        simp only [Bool.or_eq_true, bne_iff_ne, ne_eq, decide_eq_true_eq, not_or, Decidable.not_not] at hc
        exact hc
      obtain ⟨h1, h2, h3, h4⟩ := hs.2 hc1.1
      rw [h3]
      have hsv : ∀ t, SV list item t known = SV (list ++ [[a, b, c, d, e]]) item t known := fun t => by
        unfold SV
        rw [HO_snoc, if_neg]
        intro h
        unfold says at h
        simp only [Bool.and_eq_true, decide_eq_true_eq, beq_iff_eq] at h
        have : e ≤ known := h.1.1.2
        omega
      obtain ⟨g1, g2⟩ := At_eq (i := item) (t := time) (k := known) (k' := known) (l := list) (l' := list ++ [[a, b, c, d, e]]) (by unfold AOK; simp [h1, h4]) (hsv time)
      obtain ⟨g3, g4⟩ := Hist_eq h1 h4 hsv
      rw [← g1, ← g2, ← g3, ← g4]
      refine ⟨?_, hp, fun _ => ⟨hs.1, fun _ => ⟨(at_is _ _ _ _).1, (at_is _ _ _ _).1, (History_is _ _ _).1, (History_is _ _ _).1, fun _ => (same_is _ _ (Hist_len _ _ _)).1⟩⟩⟩
      rw [same_self _ (Hist_len _ _ _)]
      simp
theorem bitempSaid_ok (a b c d e item time known : Int) (list : List (List Int)) : law27_BitempSaid_0 a b c d e item time known list = true ∧ law27_BitempSaid_pre a b c d e item time known list := by
  obtain ⟨hh, hp⟩ := head_ok
  have hs := say_is a b c d e list
  unfold law27_BitempSaid_0 law27_BitempSaid_pre
  rw [hh]
  by_cases hl : list.length > 60
  · rw [decide_eq_true (show (list.length : Int) > 60 by omega)]
    exact ⟨rfl, hp, fun h => (by cases h)⟩
  · rw [decide_eq_false (show ¬ (list.length : Int) > 60 by omega)]
    by_cases hc : (bitemp_Say_1 a b c d e list != 0 || decide (known < e)) = true
    · rw [hc]
      exact ⟨rfl, hp, fun _ => ⟨hs.1, fun h => (by cases h)⟩⟩
    · rw [Bool.eq_false_iff.2 hc]
      have hc1 : bitemp_Say_1 a b c d e list = 0 ∧ ¬ known < e := by
        simp only [Bool.or_eq_true, bne_iff_ne, ne_eq, decide_eq_true_eq, not_or, Decidable.not_not] at hc
        exact hc
      obtain ⟨h1, h2, h3, h4⟩ := hs.2 hc1.1
      rw [h3]
      refine ⟨?_, hp, fun _ => ⟨hs.1, fun _ => ⟨(at_is _ _ _ _).1, (at_is _ _ _ _).1⟩⟩⟩
      have hao : AOK list item time known ↔ AOK (list ++ [[a, b, c, d, e]]) item time known := by unfold AOK; simp [h1, h4]
      have hsay : says item time known [a, b, c, d, e] = (item == a && decide (c ≤ time) && decide (time < d)) := by
        unfold says
        show (a == item && decide (e ≤ known) && decide (c ≤ time) && decide (time < d)) = _
        rw [decide_eq_true (show e ≤ known by omega), Bool.and_true]
        have : (a == item) = (item == a) := by rw [Bool.eq_iff_iff, beq_iff_eq, beq_iff_eq]; exact eq_comm
        rw [this]
      by_cases hok : AOK list item time known
      · have e1 : bitemp_At_1 item time known list ≠ 1 := by
          rw [(at_is _ _ _ _).2.2, if_pos hok]; split <;> decide
        have e2 : bitemp_At_1 item time known (list ++ [[a, b, c, d, e]]) ≠ 1 := by
          rw [(at_is _ _ _ _).2.2, if_pos (hao.1 hok)]; split <;> decide
        have e3 : (bitemp_At_1 item time known list == 1 || bitemp_At_1 item time known (list ++ [[a, b, c, d, e]]) == 1) = false := by simp [e1, e2]
        rw [cond_false, cond_false, e3, cond_false]
        by_cases hb : (item == a && decide (c ≤ time) && decide (time < d)) = true
        · have hho : HO (list ++ [[a, b, c, d, e]]) item time known = some [a, b, c, d, e] := by rw [HO_snoc, if_pos (by rw [hsay]; exact hb)]
          rw [hb, cond_true, (at_is _ _ _ (list ++ [[a, b, c, d, e]])).2.1, (at_is _ _ _ (list ++ [[a, b, c, d, e]])).2.2, if_pos (hao.1 hok), if_pos (hao.1 hok), hho]
          show (true && ((0 : Int) == 0) && (b == b)) = true
          simp
        · rw [Bool.eq_false_iff.2 hb, cond_false]
          obtain ⟨g1, g2⟩ := At_eq hao (by
            unfold SV
            rw [HO_snoc, if_neg (by rw [hsay]; exact hb)])
          rw [g1, g2]; simp
      · have e1 : bitemp_At_1 item time known list = 1 := by rw [(at_is _ _ _ _).2.2, if_neg hok]
        have e2 : bitemp_At_1 item time known (list ++ [[a, b, c, d, e]]) = 1 := by rw [(at_is _ _ _ _).2.2, if_neg (fun h => hok (hao.2 h))]
        rw [e1, e2]
        rfl

theorem HO_filter (l : List (List Int)) (i t k : Int) : HO (l.filter fun r => it r == i) i t k = HO l i t k := by
  unfold HO
  rw [← List.filter_reverse, List.find?_filter]
  congr 1
  funext r
  unfold says
  cases it r == i <;> simp
theorem SV_filter (l : List (List Int)) (i t k : Int) : SV (l.filter fun r => it r == i) i t k = SV l i t k := by unfold SV; rw [HO_filter]
theorem vr_filter {l : List (List Int)} (h : VR l) (p : List Int → Bool) : VR (l.filter p) :=
  ⟨Nat.le_trans (List.length_filter_le _ _) h.1, fun r hr => h.2.1 r (List.mem_filter.1 hr).1, h.2.2.filter _⟩
theorem changed_row {l : List (List Int)} {i t k : Int} (h : SV l i t k ≠ SV l i t (k - 1)) : ∃ r ∈ l, it r = i ∧ kn r = k := by
  refine Classical.byContradiction fun hn => h ?_
  refine SV_congr fun r hr hi => ?_
  have : kn r ≠ k := fun h2 => hn ⟨r, hr, hi, h2⟩
  omega
theorem bitempItems_ok (item time known : Int) (list : List (List Int)) (h5 : ∀ r ∈ list, r.length = 5) : law27_BitempItems_0 item time known list = true ∧ law27_BitempItems_pre item time known list := by
  obtain ⟨hh, hp⟩ := head_ok
  unfold law27_BitempItems_0 law27_BitempItems_pre
  rw [hh, (valid_is list).2]
  by_cases hl : list.length > 60
  · rw [decide_eq_true (show (list.length : Int) > 60 by omega)]
    exact ⟨rfl, hp, fun h => (by cases h), fun h => (by cases h)⟩
  · rw [decide_eq_false (show ¬ (list.length : Int) > 60 by omega)]
    by_cases hv : VR list
    · rw [decide_eq_true hv]
      have key := loop_for (step := law27_BitempItems_l0_step item time known list) list.length (fun j xs => xs = [.i (j : Int), .r ((list.take j).filter fun r => it r == item)]) (fun res => res = (3, [.i (list.length : Int), .r (list.filter fun r => it r == item)]))
        (fun j xs hj e => by
          subst e
          refine .inl ⟨_, ?_, rfl⟩
          have hlen : ((list.take j).filter fun r => it r == item).length ≤ 200 := Nat.le_trans (List.length_filter_le _ _) (by rw [List.length_take]; have := hv.1; omega)
          rw [take_succ' hj, List.filter_append]
          generalize (list.take j).filter (fun r => it r == item) = out at hlen
          have e1 : law27_BitempItems_s1 item time known list [U.i (j : Int), U.r out] = out ++ [list.getD j []] := by
            unfold law27_BitempItems_s1 law27_BitempItems_s0
            simp only [gi_1, gi_z, gr_1, gr_z, Int.toNat_natCast]
            congr 2
            exact n5_eq (h5 _ (getD_mem hj))
          have hfit : fitsA 40 (out.length + [(list.getD j []).getD 0 0 :: (list.getD j []).getD 1 0 :: law27_BitempItems_s0 item time known list [U.i (j : Int), U.r out]].length) := by
            unfold fitsA maxLen; simp only [List.length_cons, List.length_nil]; omega
          unfold law27_BitempItems_l0_step
          simp only [gi_1, gi_z, gr_1, gr_z, dlt hj, guardP_pos (inR_of hj), Int.toNat_natCast, wrap_succ (show j < 4611686018427387904 by omega), e1]
          cases hb : (list.getD j []).getD 0 0 == item with
          | true =>
            rw [cond_true, guardP_pos hfit]
            have : List.filter (fun r => it r == item) [list.getD j []] = [list.getD j []] := by
              rw [List.filter_cons_of_pos (by exact hb)]; rfl
            rw [this]
          | false =>
            rw [cond_false]
            have : List.filter (fun r => it r == item) [list.getD j []] = [] := by
              rw [List.filter_cons_of_neg (by rw [show (it (list.getD j []) == item) = false from hb]; simp)]; rfl
            rw [this, List.append_nil])
        (fun xs e => by
          subst e
          refine ⟨2, [.i (list.length : Int), .r (list.filter fun r => it r == item)], ?_, rfl⟩
          unfold law27_BitempItems_l0_step
          simp only [gi_1, gi_z, gr_1, gr_z, dnlt, List.take_length])
        (xs := law27_BitempItems_l0_init item time known list) rfl
      have e : law27_BitempItems_l0 item time known list = (3, [.i (list.length : Int), .r (list.filter fun r => it r == item)]) := key.2
      rw [e]
      have eg : gr ((3, [U.i (list.length : Int), U.r (list.filter fun r => it r == item)]) : Nat × List U).2 1 = list.filter fun r => it r == item := by simp only [gr_1, gr_z]
      rw [eg]
      have hv2 := vr_filter hv (fun r => it r == item)
      have hsv : ∀ t k, SV (list.filter fun r => it r == item) item t k = SV list item t k := fun t k => SV_filter list item t k
      have hmem : ∀ r, r ∈ (list.filter fun r => it r == item) ↔ r ∈ list ∧ it r = item := fun r => by rw [List.mem_filter, beq_iff_eq]
      generalize (list.filter fun r => it r == item) = own at hv2 hsv hmem
      obtain ⟨g1, g2⟩ := At_eq (i := item) (t := time) (k := known) (k' := known) (l := list) (l' := own) (by unfold AOK; simp [hv, hv2]) (hsv _ _).symm
      obtain ⟨g3, g4⟩ := Hist_eq (i := item) (k := known) hv hv2 (fun t => (hsv t _).symm)
      have hio : IOK list item time ↔ IOK own item time := by unfold IOK; simp [hv, hv2]
      obtain ⟨p1, q1, c1, q2, q3, q4, q5⟩ := Changed_is item time list
      obtain ⟨p2, r1, c2, r2, r3, r4, r5⟩ := Changed_is item time own
      have hcc : c1 = c2 := by
        by_cases hi : IOK list item time
        · refine inc_eq (q5 hi).1 (r5 (hio.1 hi)).1 fun k => ?_
          rw [(q5 hi).2 k, (r5 (hio.1 hi)).2 k, hsv, hsv]
          constructor
          · rintro ⟨_, h⟩
            obtain ⟨r, hr, h1, h2⟩ := changed_row h
            exact ⟨⟨r, (hmem r).2 ⟨hr, h1⟩, h2⟩, h⟩
          · rintro ⟨⟨r, hr, h2⟩, h⟩
            exact ⟨⟨r, ((hmem r).1 hr).1, h2⟩, h⟩
        · rw [q4 hi, r4 (fun h => hi (hio.2 h))]
      have g5 : bitemp_Changed_1 item time list = bitemp_Changed_1 item time own := by
        rw [q1, r1]
        by_cases hi : IOK list item time
        · rw [if_pos hi, if_pos (hio.1 hi)]
        · rw [if_neg hi, if_neg (fun h => hi (hio.2 h))]
      have hcl : (ofNums c1).length ≤ 4611686018427387904 := by simp [ofNums]; omega
      rw [← g1, ← g2, ← g3, ← g4, ← g5, q2, r2, ← hcc]
      refine ⟨?_, hp, fun _ => (valid_is list).1, fun _ => ⟨key.1, (at_is _ _ _ _).1, (at_is _ _ _ _).1, (History_is _ _ _).1, (History_is _ _ _).1, p1, p2, fun _ => (same_is _ _ (Hist_len _ _ _)).1, fun _ => (ints_is _ _ hcl).1⟩⟩
      rw [same_self _ (Hist_len _ _ _), (ints_is _ _ hcl).2]
      simp
    · rw [decide_eq_false hv]
      exact ⟨rfl, hp, fun _ => (valid_is list).1, fun h => (by cases h)⟩
end Go.Proofs.Ytcbgjecpnhjlpaa
