/-
  The laws History, Changed, Knew of package bitemp, in plain Lean.
-/
import Derived.Test.YtcbgjecpnhjlpaaBitempP
set_option linter.unusedVariables false
namespace Go.Proofs.Ytcbgjecpnhjlpaa
open Go Go.Sy

/-! ### histories -/
theorem can_vr {i k : Int} {h : List (List Int)} (hc : CAN i k h) (hi : IT i) (hk : TM k) (hl : h.length ≤ 200) : VR h := by
  refine ⟨hl, fun r hr => ?_, ?_⟩
  · obtain ⟨h1, h2, h3, h4, h5, h6, h7⟩ := hc.1 r hr
    exact ⟨by rw [h2]; exact hi, h4, h5, h6, h7, by rw [h3]; exact hk⟩
  · refine List.Pairwise.imp_of_mem (R := CR) (fun {a b} ha hb _ => ?_) hc.2
    rw [(hc.1 a ha).2.2.1, (hc.1 b hb).2.2.1]
    exact Int.le_refl _
theorem sv_can {i k : Int} {h : List (List Int)} (hc : CAN i k h) (t v : Int) : SV h i t k = some v ↔ hasV h t v := by
  have hs : ∀ r ∈ h, says i t k r = true ↔ fr r ≤ t ∧ t < un r := fun r hr => by
    obtain ⟨_, h2, h3, _⟩ := hc.1 r hr
    unfold says
    simp only [Bool.and_eq_true, decide_eq_true_eq, beq_iff_eq]
    constructor
    · intro h; exact ⟨h.1.2, h.2⟩
    · intro h; exact ⟨⟨⟨h2, by omega⟩, h.1⟩, h.2⟩
  unfold SV
  cases ho : HO h i t k with
  | none =>
    refine ⟨fun h => (by cases h), fun ⟨x, hx, h1, h2, h3⟩ => ?_⟩
    have := HO_none.1 ho x hx
    rw [(hs x hx).2 ⟨h1, h2⟩] at this
    cases this
  | some r =>
    obtain ⟨h1, h2⟩ := HO_some ho
    have h3 := (hs r h1).1 h2
    have hv : hasV h t (va r) := ⟨r, h1, h3.1, h3.2, rfl⟩
    simp only [Option.map_some, Option.some.injEq]
    constructor
    · rintro rfl; exact hv
    · intro h; exact hasV_one hc hv h
theorem again_is {i k : Int} {h : List (List Int)} (hc : CAN i k h) (hi : IT i) (hk : TM k) (hl : h.length ≤ 200) : bitemp_History_0 i k h = h ∧ bitemp_History_1 i k h = 0 := by
  have hv := can_vr hc hi hk hl
  have hok : IOK h i k := ⟨hv, hi, hk⟩
  rw [(History_is i k h).2.1, (History_is i k h).2.2, if_pos hok, if_pos hok]
  obtain ⟨_, g1, g2⟩ := history_is i k h hv
  exact ⟨can_eq g1 hc fun t v => by rw [g2, HV_iff, sv_can hc], rfl⟩
theorem at_sv {i t k : Int} {l : List (List Int)} (h : AOK l i t k) : bitemp_At_0 i t k l = (SV l i t k).getD 0 ∧ bitemp_At_1 i t k l = if (SV l i t k).isSome = true then 0 else 4 := by
  rw [(at_is i t k l).2.1, (at_is i t k l).2.2, if_pos h, if_pos h]
  unfold SV
  cases HO l i t k with
  | none => exact ⟨rfl, rfl⟩
  | some r => exact ⟨rfl, rfl⟩

theorem history_loop (item time known : Int) (list : List (List Int)) (hok : AOK list item time known) : loopOk (law27_BitempHistory_l0_step item time known list) (law27_BitempHistory_l0_init item time known list) ∧
    law27_BitempHistory_l0 item time known list = (3, [.b true, .b (SV list item time known).isSome, .i (bitemp_History_0 item known list).length]) := by
  obtain ⟨hh, hp⟩ := head_ok
  have hik : IOK list item known := ⟨hok.1, hok.2.1, hok.2.2.2⟩
  have hH : bitemp_History_0 item known list = bitemp_history_0 item known list := by rw [(History_is item known list).2.1, if_pos hik]
  obtain ⟨_, hc, hv⟩ := history_is item known list hok.1
  rw [← hH] at hc hv
  have hlen := hc.hi.len
  obtain ⟨ha0, ha1⟩ := at_sv hok
  have key := loop_for (step := law27_BitempHistory_l0_step item time known list) (bitemp_History_0 item known list).length
    (fun j xs => ∃ c : Bool, xs = [.b true, .b c, .i (j : Int)] ∧ (c = true ↔ ∃ q, q < j ∧ fr ((bitemp_History_0 item known list).getD q []) ≤ time ∧ time < un ((bitemp_History_0 item known list).getD q [])))
    (fun res => ∃ c : Bool, res = (3, [.b true, .b c, .i (bitemp_History_0 item known list).length]) ∧ (c = true ↔ ∃ q, q < (bitemp_History_0 item known list).length ∧ fr ((bitemp_History_0 item known list).getD q []) ≤ time ∧ time < un ((bitemp_History_0 item known list).getD q [])))
    (fun j xs hj ⟨c, e, hcv⟩ => by
      subst e
      refine .inl ?_
      unfold law27_BitempHistory_l0_step
      have hmem := getD_mem hj
      obtain ⟨_, f0, f4, _, _, _, f2⟩ := hc.1 _ hmem
      have hval : fr ((bitemp_History_0 item known list).getD j []) ≤ time → time < un ((bitemp_History_0 item known list).getD j []) → SV list item time known = some (va ((bitemp_History_0 item known list).getD j [])) := fun h1 h2 =>
        HV_iff.1 ((hv time _).1 ⟨_, hmem, h1, h2, rfl⟩)
      have hcr : ∀ q, q + 1 = j → CR ((bitemp_History_0 item known list).getD q []) ((bitemp_History_0 item known list).getD j []) := fun q hq => pairwise_getD hc.2 (by omega) hj
      generalize hX : bitemp_History_0 item known list = H at *
      have hw : ((j : Int) == 0) = false → IntKind.i64.wrap ((j : Int) - 1) = ((j - 1 : Nat) : Int) := fun h => by
        have : (j : Int) ≠ 0 := by simpa using h
        rw [i64_wrap (by omega)]; omega
      have hin : ((j : Int) == 0) = false → inR (IntKind.i64.wrap ((j : Int) - 1)) H := fun h => by
        rw [hw h]; exact inR_of (by omega)
      have hin2 : ∀ {b : Bool}, (((j : Int) == 0) || b) = false → inR (IntKind.i64.wrap ((j : Int) - 1)) H := fun {b} h => by
        rw [Bool.or_eq_false_iff] at h
        exact hin h.1
      have hprev : (((j : Int) == 0) || decide ((H.getD (IntKind.i64.wrap ((j : Int) - 1)).toNat []).getD 3 0 < (H.getD j []).getD 2 0) || ((H.getD (IntKind.i64.wrap ((j : Int) - 1)).toNat []).getD 3 0 == (H.getD j []).getD 2 0 && (H.getD (IntKind.i64.wrap ((j : Int) - 1)).toNat []).getD 1 0 != (H.getD j []).getD 1 0)) = true := by
        by_cases h0 : (j : Int) = 0
        · rw [show ((j : Int) == 0) = true by simpa using h0]; rfl
        · rw [hw (by simpa using h0), Int.toNat_natCast]
          rcases hcr (j - 1) (by omega) with h | ⟨h, h'⟩
          · have : decide ((H.getD (j - 1) []).getD 3 0 < (H.getD j []).getD 2 0) = true := decide_eq_true h
            rw [this, Bool.or_true, Bool.true_or]
          · have e1 : ((H.getD (j - 1) []).getD 3 0 == (H.getD j []).getD 2 0) = true := by rw [beq_iff_eq]; exact h
            have e2 : ((H.getD (j - 1) []).getD 1 0 != (H.getD j []).getD 1 0) = true := by rw [bne_iff_ne]; exact h'
            rw [e1, e2, Bool.true_and, Bool.or_true]
      simp only [gi_2, gi_z, gb_1, gb_z, dlt hj, guardP_pos (inR_of hj), Int.toNat_natCast, wrap_succ (show j < 4611686018427387904 by omega)]
      rw [guardP_pos (fun _ h => hin h), guardP_pos (fun _ h => hin h), guardP_pos (fun _ h => hin h), guardP_pos (fun _ h => hin2 h), guardP_pos (fun _ h => hin2 h), guardP_pos (fun _ h => hin2 h), guardP_pos (fun _ h _ => hin2 h), guardP_pos (fun _ h _ => hin2 h), guardP_pos (fun _ h _ => hin2 h)]
      have f0' : ((H.getD j []).getD 0 0 == item) = true := by rw [beq_iff_eq]; exact f0
      have f4' : ((H.getD j []).getD 4 0 == known) = true := by rw [beq_iff_eq]; exact f4
      have f2' : decide ((H.getD j []).getD 2 0 < (H.getD j []).getD 3 0) = true := decide_eq_true f2
      rw [f0', f4', f2', hprev]
      by_cases ht : fr (H.getD j []) ≤ time ∧ time < un (H.getD j [])
      · have hsv := hval ht.1 ht.2
        have hb : (decide ((H.getD j []).getD 2 0 ≤ time) && decide (time < (H.getD j []).getD 3 0)) = true := by
          rw [decide_eq_true ht.1, decide_eq_true ht.2]; rfl
        have e0 : bitemp_At_0 item time known list = (H.getD j []).getD 1 0 := by rw [ha0, hsv]; rfl
        have e1 : bitemp_At_1 item time known list = 0 := by rw [ha1, hsv]; rfl
        rw [hb, cond_true, e0, e1]
        refine ⟨_, rfl, true, ?_, fun _ => ⟨j, by omega, ht⟩, fun _ => rfl⟩
        simp
      · have hb : (decide ((H.getD j []).getD 2 0 ≤ time) && decide (time < (H.getD j []).getD 3 0)) = false := by
          rw [Bool.eq_false_iff]; intro h; simp at h; exact ht h
        rw [hb, cond_false]
        refine ⟨_, rfl, c, rfl, hcv.trans ⟨fun ⟨q, h1, h2⟩ => ⟨q, by omega, h2⟩, fun ⟨q, h1, h2⟩ => ⟨q, ?_, h2⟩⟩⟩
        by_cases e : q = j
        · subst e; exact absurd h2 ht
        · omega)
    (fun xs ⟨c, e, hcv⟩ => by
      subst e
      refine ⟨2, [.b true, .b c, .i (bitemp_History_0 item known list).length], ?_, c, rfl, hcv⟩
      unfold law27_BitempHistory_l0_step
      simp only [gi_2, gi_z, gb_1, gb_z, dnlt])
    (xs := law27_BitempHistory_l0_init item time known list) ⟨false, by unfold law27_BitempHistory_l0_init; rw [hh]; rfl, fun h => (by cases h), fun ⟨q, h, _⟩ => absurd h (Nat.not_lt_zero _)⟩
  refine ⟨key.1, ?_⟩
  obtain ⟨c, e, hcv⟩ := key.2
  have hce : c = (SV list item time known).isSome := by
    rw [Bool.eq_iff_iff, hcv]
    constructor
    · rintro ⟨q, h1, h2, h3⟩
      rw [HV_iff.1 ((hv time _).1 ⟨_, getD_mem h1, h2, h3, rfl⟩)]; rfl
    · intro h
      obtain ⟨v, hsv⟩ := Option.isSome_iff_exists.1 h
      obtain ⟨x, hx, h1, h2, _⟩ := (hv time v).2 (HV_iff.2 hsv)
      obtain ⟨q, hq, rfl⟩ := getD_of_mem hx
      exact ⟨q, hq, h1, h2⟩
  unfold law27_BitempHistory_l0
  rw [e, hce]
theorem at_bad {l : List (List Int)} {i t k : Int} (h : ¬ AOK l i t k) : bitemp_At_1 i t k l = 1 := by rw [(at_is i t k l).2.2, if_neg h]
theorem bitempHistory_ok (item time known : Int) (list : List (List Int)) : law27_BitempHistory_0 item time known list = true ∧ law27_BitempHistory_pre item time known list := by
  obtain ⟨hh, hp⟩ := head_ok
  unfold law27_BitempHistory_0 law27_BitempHistory_pre
  rw [hh]
  by_cases hl : list.length > 60
  · rw [decide_eq_true (show (list.length : Int) > 60 by omega)]
    exact ⟨rfl, hp, fun h => (by cases h)⟩
  · rw [decide_eq_false (show ¬ (list.length : Int) > 60 by omega)]
    by_cases hok : AOK list item time known
    · have hik : IOK list item known := ⟨hok.1, hok.2.1, hok.2.2.2⟩
      have hH : bitemp_History_0 item known list = bitemp_history_0 item known list := by rw [(History_is item known list).2.1, if_pos hik]
      have hH1 : bitemp_History_1 item known list = 0 := by rw [(History_is item known list).2.2, if_pos hik]
      obtain ⟨_, hc, _⟩ := history_is item known list hok.1
      rw [← hH] at hc
      obtain ⟨hlo, hle⟩ := history_loop item time known list hok
      obtain ⟨ha0, ha1⟩ := at_sv hok
      have hA : (bitemp_At_1 item time known list == 1) = false := by rw [ha1]; split <;> rfl
      have hcd : (bitemp_History_1 item known list != 0 || bitemp_At_1 item time known list == 1) = false := by rw [hH1, hA]; rfl
      rw [hcd, cond_false, cond_false, hle]
      have g0 : gb ((3, [U.b true, U.b (SV list item time known).isSome, U.i (bitemp_History_0 item known list).length]) : Nat × List U).2 0 = true := gb_z _ _
      have g1 : gb ((3, [U.b true, U.b (SV list item time known).isSome, U.i (bitemp_History_0 item known list).length]) : Nat × List U).2 1 = (SV list item time known).isSome := by rw [gb_1, gb_z]
      rw [g0, g1]
      have hco : ((SV list item time known).isSome == (bitemp_At_1 item time known list == 0)) = true := by
        rw [ha1]; cases SV list item time known <;> rfl
      rw [hco]
      by_cases hl2 : (bitemp_History_0 item known list).length ≤ 200
      · obtain ⟨h1, h2⟩ := again_is hc hok.2.1 hok.2.2.2 hl2
        rw [h1, h2, same_self _ (by omega)]
        refine ⟨by simp, hp, fun _ => ⟨(History_is _ _ _).1, (at_is _ _ _ _).1, fun _ => ⟨hlo, (History_is _ _ _).1, fun _ _ _ => (same_is _ _ (by omega)).1⟩⟩⟩
      · have hd : decide (((bitemp_History_0 item known list).length : Int) > 200) = true := decide_eq_true (by omega)
        rw [hd]
        exact ⟨rfl, hp, fun _ => ⟨(History_is _ _ _).1, (at_is _ _ _ _).1, fun _ => ⟨hlo, (History_is _ _ _).1, fun _ h => (by cases h)⟩⟩⟩
    · have hA := at_bad hok
      have hcd : (bitemp_History_1 item known list != 0 || bitemp_At_1 item time known list == 1) = true := by rw [hA]; simp
      rw [hcd]
      refine ⟨?_, hp, fun _ => ⟨(History_is _ _ _).1, (at_is _ _ _ _).1, fun h => (by cases h)⟩⟩
      rw [hA]; simp

/-! ### changes -/
theorem on_len (c : List Int) : (ofNums c).length = c.length := by simp [ofNums]
theorem on_get {c : List Int} {j : Nat} (h : j < c.length) : ((ofNums c).getD j []).getD 0 0 = c.getD j 0 := by
  unfold ofNums
  rw [List.getD_eq_getElem?_getD (l := c.map _), List.getElem?_map, List.getElem?_eq_getElem h, List.getD_eq_getElem?_getD (l := c), List.getElem?_eq_getElem h]
  rfl
theorem take_succ_i {l : List Int} {i : Nat} (h : i < l.length) : l.take (i + 1) = l.take i ++ [l.getD i 0] := by
  rw [List.take_succ_eq_append_getElem h, List.getD_eq_getElem?_getD, List.getElem?_eq_getElem h]; rfl
def inB (one two k : Int) : Bool := decide (k > one) && decide (k ≤ two)
def inA (one k : Int) : Bool := decide (k ≤ one)
theorem countP_snoc (p : Int → Bool) (l : List Int) (x : Int) : (l ++ [x]).countP p = l.countP p + (if p x then 1 else 0) := by
  rw [List.countP_append, List.countP_cons, List.countP_nil, Nat.zero_add]
theorem changed_loop (item time one two : Int) (list : List (List Int)) (c : List Int) (hce : bitemp_Changed_0 item time list = ofNums c) (hcl : c.length ≤ 200) (hcp : c.Pairwise (· < ·)) :
    loopOk (law27_BitempChanged_l0_step item time one two list) (law27_BitempChanged_l0_init item time one two list) ∧
    law27_BitempChanged_l0 item time one two list = (5, [.b true, .i (c.countP (inB one two)), .i (c.countP (inA one)), .i c.length]) := by
  obtain ⟨hh, hp⟩ := head_ok
  have key := loop_for (step := law27_BitempChanged_l0_step item time one two list) c.length
    (fun j xs => xs = [.b true, .i ((c.take j).countP (inB one two)), .i ((c.take j).countP (inA one)), .i (j : Int)])
    (fun res => res = (5, [.b true, .i (c.countP (inB one two)), .i (c.countP (inA one)), .i c.length]))
    (fun j xs hj e => by
      subst e
      refine .inl ?_
      have l1 : (c.take j).countP (inB one two) ≤ 200 := Nat.le_trans List.countP_le_length (by rw [List.length_take]; omega)
      have l2 : (c.take j).countP (inA one) ≤ 200 := Nat.le_trans List.countP_le_length (by rw [List.length_take]; omega)
      rw [take_succ_i hj, countP_snoc, countP_snoc]
      unfold law27_BitempChanged_l0_step
      rw [hce]
      have hj' : j < (ofNums c).length := by rw [on_len]; exact hj
      have hw : ((j : Int) == 0) = false → IntKind.i64.wrap ((j : Int) - 1) = ((j - 1 : Nat) : Int) := fun h => by
        have : (j : Int) ≠ 0 := by simpa using h
        rw [i64_wrap (by omega)]; omega
      have hin : ((j : Int) == 0) = false → inR (IntKind.i64.wrap ((j : Int) - 1)) (ofNums c) := fun h => by
        rw [hw h]; exact inR_of (by omega)
      have hprev : (((j : Int) == 0) || decide (((ofNums c).getD (IntKind.i64.wrap ((j : Int) - 1)).toNat []).getD 0 0 < c.getD j 0)) = true := by
        by_cases h0 : (j : Int) = 0
        · rw [show ((j : Int) == 0) = true by simpa using h0]; rfl
        · rw [hw (by simpa using h0), Int.toNat_natCast, on_get (by omega), Bool.or_eq_true, decide_eq_true_eq]
          refine .inr ?_
          have := List.pairwise_iff_getElem.1 hcp (j - 1) j (by omega) hj (by omega)
          rwa [List.getD_eq_getElem?_getD, List.getD_eq_getElem?_getD, List.getElem?_eq_getElem (by omega), List.getElem?_eq_getElem hj]
      simp only [gi_1, gi_2, gi_3, gi_z, gb_z, dlt hj', guardP_pos (inR_of hj'), Int.toNat_natCast, wrap_succ (show j < 4611686018427387904 by omega), on_get hj]
      rw [guardP_pos (fun _ h => hin h), guardP_pos (fun _ h => hin h), hprev]
      generalize (c.take j).countP (inB one two) = n1 at l1
      generalize (c.take j).countP (inA one) = n2 at l2
      rw [wrap_succ (show n1 < 4611686018427387904 by omega), wrap_succ (show n2 < 4611686018427387904 by omega)]
      unfold inB inA
      by_cases h1 : c.getD j 0 > one <;> by_cases h2 : c.getD j 0 ≤ two <;> by_cases h3 : c.getD j 0 ≤ one <;> simp only [h1, h2, h3, decide_true, decide_false, Bool.and_true, Bool.true_and, Bool.and_false, Bool.false_and, cond_true, cond_false, if_true, Bool.false_eq_true, if_false, Nat.add_zero] <;> exact ⟨_, rfl, rfl⟩)
    (fun xs e => by
      subst e
      refine ⟨4, [.b true, .i (c.countP (inB one two)), .i (c.countP (inA one)), .i c.length], ?_, rfl⟩
      unfold law27_BitempChanged_l0_step
      rw [hce]
      simp only [gi_1, gi_2, gi_3, gi_z, gb_z, on_len, dnlt, List.take_length])
    (xs := law27_BitempChanged_l0_init item time one two list) (by unfold law27_BitempChanged_l0_init; rw [hh]; rfl)
  exact key
theorem sv_const {l : List (List Int)} {i t : Int} {c : List Int} (hc : ∀ k, k ∈ c ↔ (∃ r ∈ l, kn r = k) ∧ SV l i t k ≠ SV l i t (k - 1)) (a : Int) : ∀ n : Nat, (∀ k, a < k → k ≤ a + n → k ∉ c) → SV l i t a = SV l i t (a + n) := by
  intro n
  induction n with
  | zero => intro _; rw [Int.natCast_zero, Int.add_zero]
  | succ n ih =>
    intro h
    rw [ih fun k h1 h2 => h k h1 (by omega)]
    refine Classical.byContradiction fun hne => ?_
    have e : a + ((n + 1 : Nat) : Int) - 1 = a + n := by omega
    have hk : SV l i t (a + ((n + 1 : Nat) : Int)) ≠ SV l i t (a + ((n + 1 : Nat) : Int) - 1) := by rw [e]; exact fun h2 => hne h2.symm
    obtain ⟨r, hr, _, h2⟩ := changed_row hk
    exact h _ (by omega) (Int.le_refl _) ((hc _).2 ⟨⟨r, hr, h2⟩, hk⟩)
theorem sv_const' {l : List (List Int)} {i t : Int} {c : List Int} (hc : ∀ k, k ∈ c ↔ (∃ r ∈ l, kn r = k) ∧ SV l i t k ≠ SV l i t (k - 1)) {a b : Int} (hab : a ≤ b) (h : ∀ k, a < k → k ≤ b → k ∉ c) : SV l i t a = SV l i t b := by
  have := sv_const hc a (b - a).toNat fun k h1 h2 => h k h1 (by omega)
  rwa [show a + ((b - a).toNat : Int) = b by omega] at this
theorem sv_low {l : List (List Int)} (hl : VR l) (i t : Int) : SV l i t (-1) = none := by
  unfold SV
  rw [HO_none.2 fun r hr => ?_]
  · rfl
  · have := (hl.2.1 r hr).2.2.2.2.2
    unfold TM at this
    unfold says
    rw [decide_eq_false (show ¬ kn r ≤ -1 by omega)]
    simp
theorem count_one {p : Int → Bool} {c : List Int} (h : c.countP p = 1) : ∃ k ∈ c, p k = true ∧ ∀ k' ∈ c, p k' = true → k' = k := by
  rw [List.countP_eq_length_filter] at h
  obtain ⟨k, hk⟩ := List.length_eq_one_iff.1 h
  have hm : ∀ x, x ∈ c.filter p ↔ x ∈ c ∧ p x = true := fun x => List.mem_filter
  rw [hk] at hm
  exact ⟨k, ((hm k).1 (by simp)).1, ((hm k).1 (by simp)).2, fun k' h1 h2 => by simpa using (hm k').2 ⟨h1, h2⟩⟩
theorem same_sv {i t k k' : Int} {l : List (List Int)} (h : AOK l i t k) (h' : AOK l i t k') : (bitemp_At_0 i t k l == bitemp_At_0 i t k' l && bitemp_At_1 i t k l == bitemp_At_1 i t k' l) = decide (SV l i t k = SV l i t k') := by
  rw [(at_sv h).1, (at_sv h).2, (at_sv h').1, (at_sv h').2, Bool.eq_iff_iff, decide_eq_true_eq]
  cases SV l i t k <;> cases SV l i t k' <;> simp
theorem bitempChanged_ok (item time one two : Int) (list : List (List Int)) : law27_BitempChanged_0 item time one two list = true ∧ law27_BitempChanged_pre item time one two list := by
  obtain ⟨hh, hp⟩ := head_ok
  unfold law27_BitempChanged_0 law27_BitempChanged_pre
  rw [hh]
  by_cases hl : list.length > 60 ∨ one > two
  · have hd : (decide ((list.length : Int) > 60) || decide (one > two)) = true := by
      rw [Bool.or_eq_true, decide_eq_true_eq, decide_eq_true_eq]; omega
    rw [hd]
    exact ⟨rfl, hp, fun h => (by cases h)⟩
  · have hd : (decide ((list.length : Int) > 60) || decide (one > two)) = false := by
      rw [Bool.or_eq_false_iff, decide_eq_false_iff_not, decide_eq_false_iff_not]; omega
    rw [hd]
    obtain ⟨p1, q1, c, q2, q3, q4, q5⟩ := Changed_is item time list
    have hall := fun k => (at_is item time k list).1
    by_cases hok : AOK list item time one ∧ AOK list item time two
    · have hio : IOK list item time := ⟨hok.1.1, hok.1.2.1, hok.1.2.2.1⟩
      obtain ⟨q6, q7⟩ := q5 hio
      obtain ⟨hlo, hle⟩ := changed_loop item time one two list c q2 q3 q6
      obtain ⟨a0, a1⟩ := at_sv hok.1
      obtain ⟨b0, b1⟩ := at_sv hok.2
      have hA : (bitemp_At_1 item time one list == 1) = false := by rw [a1]; split <;> rfl
      have hB : (bitemp_At_1 item time two list == 1) = false := by rw [b1]; split <;> rfl
      have hcd : (bitemp_Changed_1 item time list != 0 || bitemp_At_1 item time one list == 1 || bitemp_At_1 item time two list == 1) = false := by rw [hA, hB, q1, if_pos hio]; rfl
      rw [hcd, cond_false, cond_false, hle, same_sv hok.1 hok.2]
      refine ⟨?_, hp, fun _ => ⟨p1, hall _, hall _, fun _ => hlo⟩⟩
      have g0 : gb ((5, [U.b true, U.i (c.countP (inB one two)), U.i (c.countP (inA one)), U.i c.length]) : Nat × List U).2 0 = true := gb_z _ _
      have g1 : gi ((5, [U.b true, U.i (c.countP (inB one two)), U.i (c.countP (inA one)), U.i c.length]) : Nat × List U).2 1 = (c.countP (inB one two) : Int) := by rw [gi_1, gi_z]
      have g2 : gi ((5, [U.b true, U.i (c.countP (inB one two)), U.i (c.countP (inA one)), U.i c.length]) : Nat × List U).2 2 = (c.countP (inA one) : Int) := by rw [gi_2, gi_z]
      rw [g0, g1, g2, Bool.true_and, Bool.and_eq_true, Bool.and_eq_true]
      have hmemB : ∀ k, inB one two k = true ↔ one < k ∧ k ≤ two := fun k => by unfold inB; rw [Bool.and_eq_true, decide_eq_true_eq, decide_eq_true_eq]
      have hmemA : ∀ k, inA one k = true ↔ k ≤ one := fun k => by unfold inA; rw [decide_eq_true_eq]
      refine ⟨⟨?_, ?_⟩, ?_⟩
      · by_cases h0 : c.countP (inB one two) = 0
        · rw [Bool.or_eq_true, decide_eq_true_eq]
          refine .inr (sv_const' q7 (by omega) fun k h1 h2 hk => ?_)
          exact List.countP_eq_zero.1 h0 k hk ((hmemB k).2 ⟨h1, h2⟩)
        · have : ((c.countP (inB one two) : Int) != 0) = true := by rw [bne_iff_ne]; omega
          rw [this]; rfl
      · by_cases h0 : c.countP (inB one two) = 1
        · obtain ⟨k, hk, h1, h2⟩ := count_one h0
          have h3 := (hmemB k).1 h1
          have h4 := ((q7 k).1 hk).2
          have e1 : SV list item time one = SV list item time (k - 1) := sv_const' q7 (by omega) fun k' g1 g2 g3 => by
            have := h2 k' g3 ((hmemB k').2 ⟨by omega, by omega⟩)
            omega
          have e2 : SV list item time k = SV list item time two := sv_const' q7 (by omega) fun k' g1 g2 g3 => by
            have := h2 k' g3 ((hmemB k').2 ⟨by omega, by omega⟩)
            omega
          rw [Bool.or_eq_true]
          refine .inr ?_
          rw [e1, ← e2, decide_eq_false (fun h => h4 h.symm)]
          rfl
        · have : ((c.countP (inB one two) : Int) != 1) = true := by rw [bne_iff_ne]; omega
          rw [this]; rfl
      · by_cases h0 : c.countP (inA one) = 0
        · have h1 : SV list item time (-1) = SV list item time one := sv_const' q7 (by have := hok.1.2.2.2; unfold TM at this; omega) fun k h1 h2 hk => 
            List.countP_eq_zero.1 h0 k hk ((hmemA k).2 h2)
          rw [sv_low hok.1.1] at h1
          rw [a1, ← h1, Bool.or_eq_true]
          exact .inr rfl
        · rw [decide_eq_true (show (c.countP (inA one) : Int) > 0 by omega)]; rfl
    · have hcd : (bitemp_Changed_1 item time list != 0 || bitemp_At_1 item time one list == 1 || bitemp_At_1 item time two list == 1) = true := by
        by_cases h1 : AOK list item time one
        · rw [at_bad (fun h2 => hok ⟨h1, h2⟩ : ¬ AOK list item time two)]; simp
        · rw [at_bad h1]; simp
      have hcd2 : (bitemp_Changed_1 item time list == 1 || bitemp_At_1 item time one list == 1 || bitemp_At_1 item time two list == 1) = true := by
        by_cases h1 : AOK list item time one
        · rw [at_bad (fun h2 => hok ⟨h1, h2⟩ : ¬ AOK list item time two)]; simp
        · rw [at_bad h1]; simp
      rw [hcd, hcd2]
      exact ⟨rfl, hp, fun _ => ⟨p1, hall _, hall _, fun h => (by cases h)⟩⟩

/-! ### since when it was known -/
noncomputable def wkStep (H : List (List Int)) (value : Int) (y0 : List U) : Option (Nat × List U) :=
  (bif decide (gi y0 1 < (↑H.length : Int)) then guardP (inR (gi y0 1) H) (guardP (inR (gi y0 1) H) ((bif decide ((H.getD (gi y0 1).toNat []).getD 2 (0 : Int) ≤ gi y0 0) &&
    decide (gi y0 0 < (H.getD (gi y0 1).toNat []).getD 3 (0 : Int)) &&
  (H.getD (gi y0 1).toNat []).getD 1 (0 : Int) == value then some (0, [.i ((H.getD (gi y0 1).toNat []).getD 3 (0 : Int)), .i (IntKind.i64.wrap (gi y0 1 + (1 : Int)))]) else some (0, [.i (gi y0 0), .i (IntKind.i64.wrap (gi y0 1 + (1 : Int)))])))) else some (3, [.i (gi y0 0), .i (gi y0 1)]))
theorem walk_is {i k : Int} {H : List (List Int)} (hc : CAN i k H) (a v : Int) : loopOk (wkStep H v) [.i a, .i 0] ∧ ∀ b, a < b → (decide (gi (loopGet (wkStep H v) [.i a, .i 0]).2 0 ≥ b) = true ↔ WH H a b v) := by
  have hlen := hc.hi.len
  have key := loop_for (step := wkStep H v) H.length
    (fun j xs => ∃ n, xs = [.i n, .i (j : Int)] ∧ ((n = a ∧ ∀ q, q < j → ¬ (fr (H.getD q []) ≤ a ∧ a < un (H.getD q []) ∧ va (H.getD q []) = v)) ∨
      (∃ q, q < j ∧ fr (H.getD q []) ≤ a ∧ a < un (H.getD q []) ∧ va (H.getD q []) = v ∧ n = un (H.getD q []))))
    (fun res => ∃ n, gi res.2 0 = n ∧ ((n = a ∧ ∀ q, q < H.length → ¬ (fr (H.getD q []) ≤ a ∧ a < un (H.getD q []) ∧ va (H.getD q []) = v)) ∨
      (∃ q, q < H.length ∧ fr (H.getD q []) ≤ a ∧ a < un (H.getD q []) ∧ va (H.getD q []) = v ∧ n = un (H.getD q []))))
    (fun j xs hj ⟨n, e, hinv⟩ => by
      subst e
      refine .inl ?_
      unfold wkStep
      simp only [gi_1, gi_z, dlt hj, guardP_pos (inR_of hj), Int.toNat_natCast, wrap_succ (show j < 4611686018427387904 by omega)]
      by_cases hm : fr (H.getD j []) ≤ n ∧ n < un (H.getD j []) ∧ va (H.getD j []) = v
      · have hb : (decide ((H.getD j []).getD 2 0 ≤ n) && decide (n < (H.getD j []).getD 3 0) && (H.getD j []).getD 1 0 == v) = true := by
          rw [decide_eq_true hm.1, decide_eq_true hm.2.1, Bool.and_true, Bool.true_and, beq_iff_eq]; exact hm.2.2
        rw [hb, cond_true]
        rcases hinv with ⟨rfl, _⟩ | ⟨q, h1, h2, h3, h4, h5⟩
        · exact ⟨_, rfl, _, rfl, .inr ⟨j, by omega, hm.1, hm.2.1, hm.2.2, rfl⟩⟩
        · subst h5
          rcases pairwise_getD hc.2 h1 hj with h6 | ⟨h6, h7⟩
          · omega
          · exact absurd (by rw [h4, hm.2.2]) h7
      · have hb : (decide ((H.getD j []).getD 2 0 ≤ n) && decide (n < (H.getD j []).getD 3 0) && (H.getD j []).getD 1 0 == v) = false := by
          rw [Bool.eq_false_iff]; intro h
          rw [Bool.and_eq_true, Bool.and_eq_true, decide_eq_true_eq, decide_eq_true_eq, beq_iff_eq] at h
          exact hm ⟨h.1.1, h.1.2, h.2⟩
        rw [hb, cond_false]
        refine ⟨_, rfl, n, rfl, ?_⟩
        rcases hinv with ⟨rfl, h1⟩ | ⟨q, h1, h2⟩
        · refine .inl ⟨rfl, fun q hq => ?_⟩
          by_cases e : q = j
          · subst e; exact hm
          · exact h1 q (by omega)
        · exact .inr ⟨q, by omega, h2⟩)
    (fun xs ⟨n, e, hinv⟩ => by
      subst e
      refine ⟨2, [.i n, .i H.length], ?_, n, gi_z _ _, hinv⟩
      unfold wkStep
      simp only [gi_1, gi_z, dnlt])
    (xs := [.i a, .i 0]) ⟨a, rfl, .inl ⟨rfl, fun q hq => absurd hq (Nat.not_lt_zero _)⟩⟩
  refine ⟨key.1, fun b hab => ?_⟩
  obtain ⟨n, e, hinv⟩ := key.2
  rw [e, decide_eq_true_eq]
  rcases hinv with ⟨rfl, h1⟩ | ⟨q, h1, h2, h3, h4, rfl⟩
  · constructor
    · intro h; omega
    · rintro ⟨x, hx, x1, x2, x3⟩
      obtain ⟨q, hq, rfl⟩ := getD_of_mem hx
      exact absurd ⟨x1, by omega, x3⟩ (h1 q hq)
  · constructor
    · intro h; exact ⟨_, getD_mem h1, h2, h, h4⟩
    · rintro ⟨x, hx, x1, x2, x3⟩
      obtain ⟨p, hp, rfl⟩ := getD_of_mem hx
      rcases Nat.lt_trichotomy p q with h5 | h5 | h5
      · have := pairwise_getD hc.hi.2 h5 h1; omega
      · subst h5; exact x2
      · have := pairwise_getD hc.hi.2 h5 hp; omega
theorem l0_eq (item a b v t k : Int) (l : List (List Int)) : law27_BitempKnew_l0_step item a b v t k l = wkStep (bitemp_History_0 item k l) v := rfl
theorem l1_eq (item a b v t k : Int) (l : List (List Int)) : law27_BitempKnew_l1_step item a b v t k l = wkStep (bitemp_History_0 item (bitemp_Knew_0 item a b v l) l) v := rfl
theorem l2_eq (item a b v t k : Int) (l : List (List Int)) : law27_BitempKnew_l2_step item a b v t k l = wkStep (bitemp_History_0 item (IntKind.i64.wrap (bitemp_Knew_0 item a b v l - (1 : Int))) l) v := rfl
theorem all_is {l : List (List Int)} {item a b v k : Int} (hk : KOK l item a b v) (ht : TM k) : bitemp_History_1 item k l = 0 ∧ loopOk (wkStep (bitemp_History_0 item k l) v) [.i a, .i 0] ∧
    (decide (gi (loopGet (wkStep (bitemp_History_0 item k l) v) [.i a, .i 0]).2 0 ≥ b) = true ↔ WH (bitemp_history_0 item k l) a b v) := by
  have hik : IOK l item k := ⟨hk.1, hk.2.1, ht⟩
  rw [(History_is item k l).2.1, (History_is item k l).2.2, if_pos hik, if_pos hik]
  obtain ⟨_, hc, _⟩ := history_is item k l hk.1
  obtain ⟨g1, g2⟩ := walk_is hc a v
  exact ⟨rfl, g1, g2 b hk.2.2.2.2.1⟩
theorem bitempKnew_ok (item a b v time known : Int) (list : List (List Int)) : law27_BitempKnew_0 item a b v time known list = true ∧ law27_BitempKnew_pre item a b v time known list := by
  obtain ⟨hh, hp⟩ := head_ok
  unfold law27_BitempKnew_0 law27_BitempKnew_pre
  rw [hh]
  by_cases hl : list.length > 60
  · rw [decide_eq_true (show (list.length : Int) > 60 by omega)]
    exact ⟨rfl, hp, fun h => (by cases h)⟩
  · rw [decide_eq_false (show ¬ (list.length : Int) > 60 by omega)]
    obtain ⟨p1, p2, p3⟩ := Knew_is item a b v list
    by_cases hk : KOK list item a b v
    · have hall := fun {k : Int} (h : TM k) => all_is hk h
      have hi0 : law27_BitempKnew_l0 item a b v time known list = loopGet (wkStep (bitemp_History_0 item known list) v) [.i a, .i 0] := rfl
      have hi1 : law27_BitempKnew_l1 item a b v time known list = loopGet (wkStep (bitemp_History_0 item (bitemp_Knew_0 item a b v list) list) v) [.i a, .i 0] := rfl
      have hi2 : law27_BitempKnew_l2 item a b v time known list = loopGet (wkStep (bitemp_History_0 item (IntKind.i64.wrap (bitemp_Knew_0 item a b v list - (1 : Int))) list) v) [.i a, .i 0] := rfl
      rw [hi0, hi1, hi2, l0_eq, l1_eq, l2_eq]
      have hj0 : law27_BitempKnew_l0_init item a b v time known list = [.i a, .i 0] := rfl
      have hj1 : law27_BitempKnew_l1_init item a b v time known list = [.i a, .i 0] := rfl
      have hj2 : law27_BitempKnew_l2_init item a b v time known list = [.i a, .i 0] := rfl
      rw [hj0, hj1, hj2]
      rcases p3 hk with ⟨j, h1, h2, h3, h4, h5⟩ | ⟨h3, h4, h5⟩
      · have htk : TM (kn (list.getD j [])) := (hk.1.2.1 _ (getD_mem h1)).2.2.2.2.2
        rw [h4, h5]
        have c1 : ((0 : Int) == 1) = false := rfl
        have c2 : ((0 : Int) != 0) = false := rfl
        rw [c1, c2]
        obtain ⟨a1, a2, a3⟩ := hall htk
        have hyes := a3.2 h2
        rw [a1, hyes]
        have hno : (kn (list.getD j []) == 0) = false → IntKind.i64.wrap (kn (list.getD j []) - 1) = kn (list.getD j []) - 1 ∧ TM (kn (list.getD j []) - 1) ∧ ¬ WH (bitemp_history_0 item (kn (list.getD j []) - 1) list) a b v := fun h => by
          have h0 : kn (list.getD j []) ≠ 0 := by simpa using h
          have htk' := htk
          unfold TM at htk'
          refine ⟨i64_wrap (by omega), by unfold TM; omega, fun hw => ?_⟩
          obtain ⟨j', g1, g2, g3⟩ := wh_back hk.1 hk.2.2.2.2.1 hw
          refine h3 j' ?_ g3
          rcases Nat.lt_or_ge j' j with h | h
          · exact h
          · rcases Nat.lt_or_ge j j' with h6 | h6
            · have := pairwise_getD hk.1.2.2 h6 g1; omega
            · have : j' = j := by omega
              subst this; omega
        have hor : (kn (list.getD j []) == 0 || !(bitemp_History_1 item (IntKind.i64.wrap (kn (list.getD j []) - 1)) list == 0 && decide (gi (loopGet (wkStep (bitemp_History_0 item (IntKind.i64.wrap (kn (list.getD j []) - 1)) list) v) [.i a, .i 0]).2 0 ≥ b))) = true := by
          by_cases h0 : (kn (list.getD j []) == 0) = true
          · rw [h0]; rfl
          · have h0' := Bool.eq_false_iff.2 h0
            obtain ⟨g1, g2, g3⟩ := hno h0'
            obtain ⟨b1, b2, b3⟩ := hall g2
            have : decide (gi (loopGet (wkStep (bitemp_History_0 item (kn (list.getD j []) - 1) list) v) [.i a, .i 0]).2 0 ≥ b) = false := by
              rw [Bool.eq_false_iff]; exact fun h => g3 (b3.1 h)
            rw [h0', g1, this]
            simp
        rw [hor]
        have hpre : (true && ((0 : Int) == 0 && true)) = true → (kn (list.getD j []) == 0) = false → bitemp_History_pre item (IntKind.i64.wrap (kn (list.getD j []) - 1)) list ∧ loopOk (wkStep (bitemp_History_0 item (IntKind.i64.wrap (kn (list.getD j []) - 1)) list) v) [.i a, .i 0] := fun _ h0 => by
          obtain ⟨g1, g2, g3⟩ := hno h0
          rw [g1]
          exact ⟨(History_is _ _ _).1, (hall g2).2.1⟩
        refine ⟨?_, hp, fun _ => ⟨p1, fun _ => ⟨fun h => (by cases h), fun _ => ⟨fun _ => ⟨(History_is _ _ _).1, a2⟩, hpre, fun _ => (at_is _ _ _ _).1⟩⟩⟩⟩
        by_cases hti : time < a ∨ time ≥ b
        · have : (decide (time < a) || decide (time ≥ b)) = true := by rw [Bool.or_eq_true, decide_eq_true_eq, decide_eq_true_eq]; exact hti
          rw [this]; rfl
        · have : (decide (time < a) || decide (time ≥ b)) = false := by rw [Bool.or_eq_false_iff, decide_eq_false_iff_not, decide_eq_false_iff_not]; omega
          rw [this]
          have hsv := (wh_sv hk.1 hk.2.2.2.2.1).1 h2 time (by omega) (by omega)
          have hao : AOK list item time (kn (list.getD j [])) := ⟨hk.1, hk.2.1, by
            have g1 := hk.2.2.1
            have g2 := hk.2.2.2.1
            unfold TM at g1 g2 ⊢
            omega, htk⟩
          rw [(at_sv hao).1, (at_sv hao).2, hsv]
          simp
      · rw [h5]
        have c1 : ((4 : Int) == 1) = false := rfl
        have c2 : ((4 : Int) != 0) = true := rfl
        rw [c1, c2]
        have hno : ∀ k, ¬ WH (bitemp_history_0 item k list) a b v := fun k hw => by
          obtain ⟨j', g1, _, g3⟩ := wh_back hk.1 hk.2.2.2.2.1 hw
          exact h3 j' g1 g3
        have hkk : (decide (known < 0) || decide (known > 10000000)) = false → TM known := fun h => by
          rw [Bool.or_eq_false_iff, decide_eq_false_iff_not, decide_eq_false_iff_not] at h
          unfold TM; omega
        refine ⟨?_, hp, fun _ => ⟨p1, fun _ => ⟨fun _ _ h => ⟨(History_is _ _ _).1, (hall (hkk h)).2.1⟩, fun h => (by cases h)⟩⟩⟩
        by_cases h0 : (decide (known < 0) || decide (known > 10000000)) = true
        · rw [h0]; rfl
        · have h0' := Bool.eq_false_iff.2 h0
          obtain ⟨b1, b2, b3⟩ := hall (hkk h0')
          have : decide (gi (loopGet (wkStep (bitemp_History_0 item known list) v) [.i a, .i 0]).2 0 ≥ b) = false := by
            rw [Bool.eq_false_iff]; exact fun h => hno _ (b3.1 h)
          rw [h0', this]
          simp
    · rw [p2 hk]
      exact ⟨rfl, hp, fun _ => ⟨p1, fun h => (by cases h)⟩⟩
end Go.Proofs.Ytcbgjecpnhjlpaa
