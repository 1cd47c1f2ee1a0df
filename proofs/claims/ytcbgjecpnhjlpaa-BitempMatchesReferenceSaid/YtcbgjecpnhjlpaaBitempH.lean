/-
  Merge of package bitemp; the chapter's examples.
-/
import Derived.Test.YtcbgjecpnhjlpaaBitempL
import Derived.Test.YtcbgjecpnhjlpaaBitemp4D
set_option linter.unusedVariables false
namespace Go.Proofs.Ytcbgjecpnhjlpaa
open Go Go.Sy

noncomputable def LI (x y : List Int) : Bool := bitemp_lie_0 (it x) (va x) (fr x) (un x) (kn x) (it y) (va y) (fr y) (un y) (kn y)
def has5 (a : List (List Int)) (y : List Int) : Bool := a.any fun x => decide (n5 y = n5 x)
def mrg (a b : List (List Int)) : List (List Int) := a ++ (b.filter fun y => !has5 a y).map n5
theorem mrg_snoc (a b : List (List Int)) (y : List Int) : mrg a (b ++ [y]) = if has5 a y = true then mrg a b else mrg a b ++ [n5 y] := by
  unfold mrg
  rw [List.filter_append, List.map_append]
  cases h : has5 a y <;> simp [h]
theorem mrg_len (a b : List (List Int)) : (mrg a b).length ≤ a.length + b.length := by
  unfold mrg
  have := List.length_filter_le (fun y => !has5 a y) b
  simp
  omega
theorem merge_loop (a b : List (List Int)) (ha : a.length ≤ 200) (hb : b.length ≤ 200) : loopOk (bitemp_Merge_l0_step a b) (bitemp_Merge_l0_init a b) ∧
    (((∃ y ∈ b, ∃ x ∈ a, LI x y = true) ∧ bitemp_Merge_l0 a b = (1, [])) ∨ ((∀ y ∈ b, ∀ x ∈ a, LI x y = false) ∧ bitemp_Merge_l0 a b = (4, [.i 0, .i b.length, .r (mrg a b)]))) := by
  have key := loop_for (step := bitemp_Merge_l0_step a b) b.length (fun j xs => xs = [.i 0, .i (j : Int), .r (mrg a (b.take j))] ∧ ∀ y ∈ b.take j, ∀ x ∈ a, LI x y = false)
    (fun res => ((∃ y ∈ b, ∃ x ∈ a, LI x y = true) ∧ res = (1, [])) ∨ ((∀ y ∈ b, ∀ x ∈ a, LI x y = false) ∧ res = (4, [.i 0, .i b.length, .r (mrg a b)])))
    (fun j xs hj ⟨e, hno⟩ => by
      subst e
      have eq2 : gr [U.i 0, U.i (j : Int), U.r (mrg a (b.take j))] 2 = mrg a (b.take j) := rfl
      have eq1 : gi [U.i 0, U.i (j : Int), U.r (mrg a (b.take j))] 1 = (j : Int) := rfl
      have key1 := loop_search (step := bitemp_Merge_l1_step a b [U.i 0, U.i (j : Int), U.r (mrg a (b.take j))]) a.length (fun q => LI (a.getD q []) (b.getD j [])) (fun q => [.i 0, .i q]) (fun q => [.i q]) 0 2 [.i 0, .i a.length]
        (fun q hq => by
          unfold bitemp_Merge_l1_step
          simp only [eq1, Int.toNat_natCast, gi_1, gi_z, dlt hq, guardP_pos (inR_of hq), wrap_succ (show q < 4611686018427387904 by omega)]
          rfl)
        (by
          unfold bitemp_Merge_l1_step
          simp only [eq1, Int.toNat_natCast, gi_1, gi_z, dnlt])
      have key2 := loop_search (step := bitemp_Merge_l2_step a b [U.i 0, U.i (j : Int), U.r (mrg a (b.take j))]) a.length (fun q => decide (n5 (b.getD j []) = n5 (a.getD q []))) (fun q => [.i 0, .i q]) (fun q => [.i q]) 0 2 [.i 0, .i a.length]
        (fun q hq => by
          unfold bitemp_Merge_l2_step
          simp only [eq1, Int.toNat_natCast, gi_1, gi_z, dlt hq, guardP_pos (inR_of hq), wrap_succ (show q < 4611686018427387904 by omega), eq5])
        (by
          unfold bitemp_Merge_l2_step
          simp only [eq1, Int.toNat_natCast, gi_1, gi_z, dnlt])
      unfold bitemp_Merge_l0_step
      simp only [eq1, eq2, dlt hj, guardP_pos (inR_of hj), Int.toNat_natCast, wrap_succ (show j < 4611686018427387904 by omega), gi_z]
      rw [guardP_pos (show loopOk _ (bitemp_Merge_l1_init a b [U.i 0, U.i (j : Int), U.r (mrg a (b.take j))]) from key1.1)]
      rcases key1.2 with ⟨q, q1, q2, q3, q4⟩ | ⟨q3, q4⟩
      · have e : bitemp_Merge_l1 a b [U.i 0, U.i (j : Int), U.r (mrg a (b.take j))] = (1, [.i q]) := q4
        have hd : decide ((bif (bitemp_Merge_l1 a b [U.i 0, U.i (j : Int), U.r (mrg a (b.take j))]).1.beq 1 then gi (bitemp_Merge_l1 a b [U.i 0, U.i (j : Int), U.r (mrg a (b.take j))]).2 0 else -1) ≥ (0 : Int)) = true := by
          rw [e]; simp [Nat.beq, gi_z]
        rw [hd]
        exact .inr ⟨0, [], rfl, .inl ⟨⟨_, getD_mem hj, _, getD_mem q1, q2⟩, rfl⟩⟩
      · have e : bitemp_Merge_l1 a b [U.i 0, U.i (j : Int), U.r (mrg a (b.take j))] = (3, [.i 0, .i a.length]) := q4
        have hd : decide ((bif (bitemp_Merge_l1 a b [U.i 0, U.i (j : Int), U.r (mrg a (b.take j))]).1.beq 1 then gi (bitemp_Merge_l1 a b [U.i 0, U.i (j : Int), U.r (mrg a (b.take j))]).2 0 else -1) ≥ (0 : Int)) = false := by
          rw [e]; simp [Nat.beq]
        have hno' : ∀ y ∈ b.take (j + 1), ∀ x ∈ a, LI x y = false := by
          intro y hy x hx
          rw [take_succ' hj] at hy
          rcases List.mem_append.1 hy with hy | hy
          · exact hno y hy x hx
          · simp only [List.mem_singleton] at hy
            subst hy
            obtain ⟨q, hq, rfl⟩ := getD_of_mem hx
            exact q3 q hq
        have hm := mrg_len a (b.take j)
        rw [List.length_take] at hm
        have hfit : fitsA 40 ((mrg a (b.take j)).length + [(b.getD j []).getD 0 0 :: (b.getD j []).getD 1 0 :: bitemp_Merge_s0 a b [U.i 0, U.i (j : Int), U.r (mrg a (b.take j))]].length) := by
          unfold fitsA maxLen; simp only [List.length_cons, List.length_nil]; omega
        have hs1 : bitemp_Merge_s1 a b [U.i 0, U.i (j : Int), U.r (mrg a (b.take j))] = mrg a (b.take j) ++ [n5 (b.getD j [])] := by
          unfold bitemp_Merge_s1 bitemp_Merge_s0
          simp only [eq1, eq2, Int.toNat_natCast]
          rfl
        rw [hd, cond_false, guardP_pos (show loopOk _ (bitemp_Merge_l2_init a b [U.i 0, U.i (j : Int), U.r (mrg a (b.take j))]) from key2.1)]
        rcases key2.2 with ⟨q, q1, q2, q3', q4'⟩ | ⟨q3', q4'⟩
        · have e2 : bitemp_Merge_l2 a b [U.i 0, U.i (j : Int), U.r (mrg a (b.take j))] = (1, [.i q]) := q4'
          have hd2 : (!decide ((bif (bitemp_Merge_l2 a b [U.i 0, U.i (j : Int), U.r (mrg a (b.take j))]).1.beq 1 then gi (bitemp_Merge_l2 a b [U.i 0, U.i (j : Int), U.r (mrg a (b.take j))]).2 0 else -1) ≥ (0 : Int))) = false := by
            rw [e2]; simp [Nat.beq, gi_z]
          have hh : has5 a (b.getD j []) = true := List.any_eq_true.2 ⟨_, getD_mem q1, q2⟩
          rw [hd2, cond_false]
          refine .inl ⟨_, rfl, ?_, hno'⟩
          rw [take_succ' hj, mrg_snoc, if_pos hh]
        · have e2 : bitemp_Merge_l2 a b [U.i 0, U.i (j : Int), U.r (mrg a (b.take j))] = (3, [.i 0, .i a.length]) := q4'
          have hd2 : (!decide ((bif (bitemp_Merge_l2 a b [U.i 0, U.i (j : Int), U.r (mrg a (b.take j))]).1.beq 1 then gi (bitemp_Merge_l2 a b [U.i 0, U.i (j : Int), U.r (mrg a (b.take j))]).2 0 else -1) ≥ (0 : Int))) = true := by
            rw [e2]; simp [Nat.beq]
          have hh : ¬ has5 a (b.getD j []) = true := fun h => by
            obtain ⟨x, hx, h⟩ := List.any_eq_true.1 h
            obtain ⟨q, hq, rfl⟩ := getD_of_mem hx
            have := q3' q hq
            rw [h] at this; cases this
          rw [hd2, cond_true, guardP_pos hfit, hs1]
          refine .inl ⟨_, rfl, ?_, hno'⟩
          rw [take_succ' hj, mrg_snoc, if_neg hh])
    (fun xs ⟨e, hno⟩ => by
      subst e
      rw [List.take_length] at hno
      refine ⟨3, [.i 0, .i b.length, .r (mrg a b)], ?_, .inr ⟨hno, rfl⟩⟩
      unfold bitemp_Merge_l0_step
      rw [List.take_length]
      have eq2 : gr [U.i 0, U.i (b.length : Int), U.r (mrg a b)] 2 = mrg a b := rfl
      have eq1 : gi [U.i 0, U.i (b.length : Int), U.r (mrg a b)] 1 = (b.length : Int) := rfl
      simp only [eq1, eq2, dnlt, gi_z])
    (xs := bitemp_Merge_l0_init a b) ⟨by unfold bitemp_Merge_l0_init; simp [mrg], by simp⟩
  exact key

/-! ### the examples -/
theorem rows_eq : law27_rows_0 = [[1, 5, 10, 30, 12], [1, 7, 20, 25, 40], [2, 9, 0, 100, 50]] := rfl
theorem rows_vr : VR law27_rows_0 := by rw [rows_eq]; decide
theorem ho_rows (t k : Int) : HO law27_rows_0 1 t k = if 40 ≤ k ∧ 20 ≤ t ∧ t < 25 then some [1, 7, 20, 25, 40] else if 12 ≤ k ∧ 10 ≤ t ∧ t < 30 then some [1, 5, 10, 30, 12] else none := by
  have e : law27_rows_0 = (([] ++ [[1, 5, 10, 30, 12]]) ++ [[1, 7, 20, 25, 40]]) ++ [[2, 9, 0, 100, 50]] := rfl
  rw [e, HO_snoc, HO_snoc, HO_snoc, HO_nil]
  have h2 : ¬ says 1 t k [2, 9, 0, 100, 50] = true := by intro h; unfold says at h; simp only [Bool.and_eq_true, beq_iff_eq] at h; exact absurd h.1.1.1 (by decide)
  have h1 : says 1 t k [1, 7, 20, 25, 40] = true ↔ 40 ≤ k ∧ 20 ≤ t ∧ t < 25 := by
    unfold says; simp only [Bool.and_eq_true, beq_iff_eq, decide_eq_true_eq]
    show (((1 : Int) = 1 ∧ (40 : Int) ≤ k) ∧ (20 : Int) ≤ t) ∧ t < 25 ↔ _
    simp [and_assoc]
  have h0 : says 1 t k [1, 5, 10, 30, 12] = true ↔ 12 ≤ k ∧ 10 ≤ t ∧ t < 30 := by
    unfold says; simp only [Bool.and_eq_true, beq_iff_eq, decide_eq_true_eq]
    show (((1 : Int) = 1 ∧ (12 : Int) ≤ k) ∧ (10 : Int) ≤ t) ∧ t < 30 ↔ _
    simp [and_assoc]
  rw [if_neg h2]
  by_cases c1 : 40 ≤ k ∧ 20 ≤ t ∧ t < 25
  · rw [if_pos c1, if_pos (h1.2 c1)]
  · rw [if_neg c1, if_neg (fun h => c1 (h1.1 h))]
    by_cases c0 : 12 ≤ k ∧ 10 ≤ t ∧ t < 30
    · rw [if_pos c0, if_pos (h0.2 c0)]
    · rw [if_neg c0, if_neg (fun h => c0 (h0.1 h))]
theorem sv_rows (t k : Int) : SV law27_rows_0 1 t k = if 40 ≤ k ∧ 20 ≤ t ∧ t < 25 then some 7 else if 12 ≤ k ∧ 10 ≤ t ∧ t < 30 then some 5 else none := by
  unfold SV
  rw [ho_rows]
  split
  · rfl
  · split <;> rfl
theorem aok_rows {t k : Int} (ht : TM t) (hk : TM k) : AOK law27_rows_0 1 t k := ⟨rows_vr, by decide, ht, hk⟩
theorem at_39 : bitemp_At_0 1 22 39 law27_rows_0 = 5 ∧ bitemp_At_1 1 22 39 law27_rows_0 = 0 := by
  have h := (at_is 1 22 39 law27_rows_0).2
  rw [if_pos (aok_rows (by decide) (by decide)), if_pos (aok_rows (by decide) (by decide)), ho_rows] at h
  exact ⟨h.1.trans (by decide), h.2.trans (by decide)⟩
theorem at_40 : bitemp_At_0 1 22 40 law27_rows_0 = 7 ∧ bitemp_At_1 1 22 40 law27_rows_0 = 0 := by
  have h := (at_is 1 22 40 law27_rows_0).2
  rw [if_pos (aok_rows (by decide) (by decide)), if_pos (aok_rows (by decide) (by decide)), ho_rows] at h
  exact ⟨h.1.trans (by decide), h.2.trans (by decide)⟩
theorem at_50 : bitemp_At_1 1 30 50 law27_rows_0 = 4 := by
  have h := (at_is 1 30 50 law27_rows_0).2
  rw [if_pos (aok_rows (by decide) (by decide)), if_pos (aok_rows (by decide) (by decide)), ho_rows] at h
  exact h.2.trans (by decide)
def want : List (List Int) := [[1, 5, 10, 20, 60], [1, 7, 20, 25, 60], [1, 5, 25, 30, 60]]
theorem hist_rows : bitemp_history_0 1 60 law27_rows_0 = want := by
  obtain ⟨_, h1, h2⟩ := history_is 1 60 law27_rows_0 rows_vr
  refine can_eq h1 ⟨?_, ?_⟩ fun t v => ?_
  · intro x hx
    unfold want at hx
    simp only [List.mem_cons, List.not_mem_nil, or_false] at hx
    rcases hx with rfl | rfl | rfl <;> exact ⟨rfl, rfl, rfl, by decide, by decide, by decide, by decide⟩
  · unfold want CR
    refine List.pairwise_cons.2 ⟨fun y hy => ?_, List.pairwise_cons.2 ⟨fun y hy => ?_, List.pairwise_singleton _ _⟩⟩
    · simp only [List.mem_cons, List.not_mem_nil, or_false] at hy
      rcases hy with rfl | rfl
      · exact .inr ⟨rfl, by decide⟩
      · exact .inl (by decide)
    · simp only [List.mem_cons, List.not_mem_nil, or_false] at hy
      subst hy
      exact .inr ⟨rfl, by decide⟩
  · rw [h2 t v, HV_iff, sv_rows]
    constructor
    · intro h
      by_cases c1 : (40 : Int) ≤ 60 ∧ 20 ≤ t ∧ t < 25
      · rw [if_pos c1] at h
        cases h
        exact ⟨[1, 7, 20, 25, 60], by simp [want], c1.2.1, c1.2.2, rfl⟩
      · rw [if_neg c1] at h
        by_cases c0 : (12 : Int) ≤ 60 ∧ 10 ≤ t ∧ t < 30
        · rw [if_pos c0] at h
          cases h
          by_cases c2 : t < 20
          · exact ⟨[1, 5, 10, 20, 60], by simp [want], c0.2.1, c2, rfl⟩
          · exact ⟨[1, 5, 25, 30, 60], by simp [want], (show (25 : Int) ≤ t by omega), c0.2.2, rfl⟩
        · rw [if_neg c0] at h; cases h
    · rintro ⟨x, hx, x1, x2, x3⟩
      unfold want at hx
      simp only [List.mem_cons, List.not_mem_nil, or_false] at hx
      rcases hx with rfl | rfl | rfl
      · have x1 : (10 : Int) ≤ t := x1
        have x2 : t < 20 := x2
        have x3 : (5 : Int) = v := x3
        rw [if_neg (by omega), if_pos (by omega), x3]
      · have x1 : (20 : Int) ≤ t := x1
        have x2 : t < 25 := x2
        have x3 : (7 : Int) = v := x3
        rw [if_pos (by omega), x3]
      · have x1 : (25 : Int) ≤ t := x1
        have x2 : t < 30 := x2
        have x3 : (5 : Int) = v := x3
        rw [if_neg (by omega), if_pos (by omega), x3]
theorem iok_rows {k : Int} (hk : TM k) : IOK law27_rows_0 1 k := ⟨rows_vr, by decide, hk⟩
theorem Hist_rows : bitemp_History_0 1 60 law27_rows_0 = want ∧ bitemp_History_1 1 60 law27_rows_0 = 0 := by
  have h := (History_is 1 60 law27_rows_0).2
  rw [if_pos (iok_rows (by decide)), if_pos (iok_rows (by decide)), hist_rows] at h
  exact h
theorem chg_rows : bitemp_Changed_0 1 22 law27_rows_0 = [[12], [40]] ∧ bitemp_Changed_1 1 22 law27_rows_0 = 0 := by
  obtain ⟨_, h1, c, h2, _, _, h3⟩ := Changed_is 1 22 law27_rows_0
  rw [if_pos (iok_rows (by decide))] at h1
  obtain ⟨h4, h5⟩ := h3 (iok_rows (by decide))
  have : c = [12, 40] := inc_eq h4 (by decide) fun k => by
    rw [h5 k, rows_eq]
    rw [← rows_eq, sv_rows, sv_rows]
    constructor
    · rintro ⟨⟨r, hr, rfl⟩, hne⟩
      rw [rows_eq] at hr
      simp only [List.mem_cons, List.not_mem_nil, or_false] at hr
      rcases hr with rfl | rfl | rfl
      · simp
      · simp
      · exact absurd (by decide) hne
    · intro hk
      simp only [List.mem_cons, List.not_mem_nil, or_false] at hk
      rcases hk with rfl | rfl
      · exact ⟨⟨[1, 5, 10, 30, 12], by rw [rows_eq]; simp, rfl⟩, by decide⟩
      · exact ⟨⟨[1, 7, 20, 25, 40], by rw [rows_eq]; simp, rfl⟩, by decide⟩
  rw [h2, this]
  exact ⟨rfl, h1⟩
theorem knew_rows : bitemp_Knew_0 1 20 25 7 law27_rows_0 = 40 ∧ bitemp_Knew_1 1 20 25 7 law27_rows_0 = 0 := by
  have hk : KOK law27_rows_0 1 20 25 7 := ⟨rows_vr, by decide, by decide, by decide, by decide, by decide⟩
  have n0 : ¬ WH (bitemp_history_0 1 (kn (law27_rows_0.getD 0 [])) law27_rows_0) 20 25 7 := fun h => by
    have := (wh_sv rows_vr (by decide)).1 h 20 (by decide) (by decide)
    rw [sv_rows] at this
    exact absurd this (by decide)
  have y1 : WH (bitemp_history_0 1 (kn (law27_rows_0.getD 1 [])) law27_rows_0) 20 25 7 := (wh_sv rows_vr (by decide)).2 fun t h1 h2 => by
    rw [sv_rows, if_pos ⟨by decide, h1, h2⟩]
  rcases (Knew_is 1 20 25 7 law27_rows_0).2.2 hk with ⟨j, h1, h2, h3, h4, h5⟩ | ⟨h3, h4, h5⟩
  · have : j = 1 := by
      rcases Nat.lt_trichotomy j 1 with h | h | h
      · have : j = 0 := by omega
        subst this
        exact absurd h2 n0
      · exact h
      · exact absurd y1 (h3 1 h)
    subst this
    exact ⟨h4, h5⟩
  · exact absurd y1 (h3 1 (by decide))
theorem say_rows : bitemp_Say_1 3 0 0 1 49 law27_rows_0 = 13 := by
  unfold bitemp_Say_1 bitemp_Say_s1
  rw [(valid_is _).2, isRow_eq, rows_eq]
  rfl
def mA : List (List Int) := [[1, 7, 20, 25, 40]]
def mB : List (List Int) := [[1, 5, 10, 30, 12], [2, 9, 0, 100, 50]]
theorem mA_eq : cutV law27_rows_0 (boundsA (↑3 : Int) (some (1 : Int)) (some (2 : Int))).snd.fst (boundsA (↑3 : Int) (some (1 : Int)) (some (2 : Int))).snd.snd = mA := rfl
theorem mB_eq : law27_head_s3 = mB := rfl
theorem m_loop : loopOk (bitemp_Merge_l0_step mA mB) (bitemp_Merge_l0_init mA mB) ∧ bitemp_Merge_l0 mA mB = (4, [.i 0, .i 2, .r [[1, 7, 20, 25, 40], [1, 5, 10, 30, 12], [2, 9, 0, 100, 50]]]) := by
  have h := merge_loop mA mB (by decide) (by decide)
  refine ⟨h.1, ?_⟩
  rcases h.2 with ⟨⟨y, hy, x, hx, h2⟩, _⟩ | ⟨_, h2⟩
  · unfold mA at hx
    unfold mB at hy
    simp only [List.mem_cons, List.not_mem_nil, or_false] at hx hy
    subst hx
    rcases hy with rfl | rfl
    · exact absurd h2 (by unfold LI bitemp_lie_0; decide)
    · exact absurd h2 (by unfold LI bitemp_lie_0; decide)
  · rw [h2]; rfl
theorem mA_vr : VR mA := by decide
theorem mB_vr : VR mB := by decide
theorem merge_rows : bitemp_Merge_pre mA mB ∧ bitemp_Merge_0 mA mB = law27_rows_0 ∧ bitemp_Merge_1 mA mB = 0 := by
  unfold bitemp_Merge_pre bitemp_Merge_0 bitemp_Merge_1 bitemp_Merge_s2 bitemp_Merge_s3
  rw [(valid_is mA).2, (valid_is mB).2, decide_eq_true mA_vr, decide_eq_true mB_vr, m_loop.2]
  have eg : gr ((4, [U.i 0, U.i 2, U.r [[1, 7, 20, 25, 40], [1, 5, 10, 30, 12], [2, 9, 0, 100, 50]]]) : Nat × List U).2 2 = [[1, 7, 20, 25, 40], [1, 5, 10, 30, 12], [2, 9, 0, 100, 50]] := rfl
  rw [eg]
  refine ⟨⟨(valid_is mA).1, fun _ => (valid_is mB).1, fun _ => ⟨⟨fun h => (by cases h), by decide⟩, m_loop.1, fun _ _ => by decide⟩⟩, ?_, rfl⟩
  rw [rows_eq]
  decide
theorem head_ok : law27_head_0 = true ∧ law27_head_pre := by
  have hlen : ∀ {l : List (List Int)}, l.length ≤ 10 → l.length ≤ 4611686018427387904 := fun h => by omega
  have hs1 : ref27_Same_0 want want = true := by rw [(same_is _ _ (hlen (by decide))).2]; simp
  have hs2 : ref27_Same_0 law27_rows_0 law27_rows_0 = true := by rw [(same_is _ _ (hlen (by rw [rows_eq]; decide))).2]; simp
  have hi : ref27_Ints_0 [[12], [40]] [[12], [40]] = true := by rw [(ints_is _ _ (hlen (by decide))).2]; simp
  have hv : bitemp_Valid_0 law27_rows_0 = true := by rw [(valid_is _).2, decide_eq_true rows_vr]
  have hv0 : bitemp_Valid_0 [[0, 0, 0, 0, 0]] = false := by rw [(valid_is _).2]; decide
  have hw : ([1, 5, 10, 20, 60] :: law27_head_s0) = want := rfl
  have a1 := at_39
  have a2 := at_40
  have a3 := at_50
  have a4 := Hist_rows
  have a5 := chg_rows
  have a6 := knew_rows
  have a7 := say_rows
  have a8 := merge_rows
  constructor
  · unfold law27_head_0
    rw [mA_eq, mB_eq, a1.1, a1.2, a2.1, a2.2, a3, a4.1, a4.2, a5.1, a5.2, a6.1, a6.2, a7, a8.2.1, a8.2.2, hw, hs1, hs2, hi, hv, hv0]
    rfl
  · have p1 := (at_is 1 22 39 law27_rows_0).1
    have p2 := (at_is 1 22 40 law27_rows_0).1
    have p3 := (at_is 1 30 50 law27_rows_0).1
    have p4 := (History_is 1 60 law27_rows_0).1
    have p5 := (Changed_is 1 22 law27_rows_0).1
    have p6 := (Knew_is 1 20 25 7 law27_rows_0).1
    have p7 := (say_is 3 0 0 1 49 law27_rows_0).1
    have i0 : inR (0 : Int) law27_rows_0 := by rw [rows_eq]; unfold inR; decide
    have i2 : inR (2 : Int) law27_rows_0 := by rw [rows_eq]; unfold inR; decide
    unfold law27_head_pre
    rw [mA_eq, mB_eq, a4.1, a5.1, a8.2.1, hw]
    refine ⟨p1, p2, p3, p4, p5, p6, fun _ => (same_is _ _ (hlen (by decide))).1, fun _ => ⟨(ints_is _ _ (hlen (by decide))).1, p7, by decide, i0, i0, i2, i2, ⟨by decide, a8.1⟩, fun _ => ⟨(same_is _ _ (hlen (by rw [rows_eq]; decide))).1, fun _ => ⟨(valid_is _).1, fun _ => (valid_is _).1⟩⟩⟩, fun h => ?_⟩
    rw [a1.1, a1.2, a2.1, a2.2, a3, a4.2, a5.2, a6.2, hs1] at h
    cases h
end Go.Proofs.Ytcbgjecpnhjlpaa
