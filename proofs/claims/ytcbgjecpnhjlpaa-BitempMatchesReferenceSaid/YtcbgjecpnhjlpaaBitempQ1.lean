/-
  Lemmas on what the functions of the chapter say of equal lists.
-/
import Derived.Test.YtcbgjecpnhjlpaaBitempH
set_option linter.unusedVariables false
set_option maxRecDepth 100000
namespace Go.Proofs.Ytcbgjecpnhjlpaa
open Go Go.Sy

theorem Hist_len (i k : Int) (l : List (List Int)) : (bitemp_History_0 i k l).length ≤ 4611686018427387904 := by
  rw [(History_is i k l).2.1]
  split
  · rename_i h
    have := (history_is i k l h.1).2.1.hi.len
    omega
  · simp
/-- Of two lists of which the same holds the histories are the same. -/
theorem hist_eq {i k : Int} {l l' : List (List Int)} (h : VR l) (h' : VR l') (he : ∀ t, SV l i t k = SV l' i t k) : bitemp_history_0 i k l = bitemp_history_0 i k l' := by
  obtain ⟨_, g1, g2⟩ := history_is i k l h
  obtain ⟨_, g3, g4⟩ := history_is i k l' h'
  refine can_eq g1 g3 fun t v => ?_
  rw [g2, g4, HV_iff, HV_iff, he]
theorem At_eq {i t k k' : Int} {l l' : List (List Int)} (h : AOK l i t k ↔ AOK l' i t k') (he : SV l i t k = SV l' i t k') : bitemp_At_0 i t k l = bitemp_At_0 i t k' l' ∧ bitemp_At_1 i t k l = bitemp_At_1 i t k' l' := by
  obtain ⟨_, g1, g2⟩ := at_is i t k l
  obtain ⟨_, g3, g4⟩ := at_is i t k' l'
  have e2 : (HO l i t k).isSome = (HO l' i t k').isSome := by
    have := congrArg Option.isSome he
    simpa [SV] using this
  have e1 : va ((HO l i t k).getD []) = va ((HO l' i t k').getD []) := by
    unfold SV at he
    cases h1 : HO l i t k with
    | none =>
      cases h2 : HO l' i t k' with
      | none => rfl
      | some r => rw [h1, h2] at he; cases he
    | some r =>
      cases h2 : HO l' i t k' with
      | none => rw [h1, h2] at he; cases he
      | some r' =>
        rw [h1, h2] at he
        simp only [Option.map_some, Option.some.injEq] at he
        exact he
  rw [g1, g2, g3, g4, e1, e2]
  by_cases h1 : AOK l i t k
  · rw [if_pos h1, if_pos h1, if_pos (h.1 h1), if_pos (h.1 h1)]; exact ⟨rfl, rfl⟩
  · rw [if_neg h1, if_neg h1, if_neg (fun h2 => h1 (h.2 h2)), if_neg (fun h2 => h1 (h.2 h2))]; exact ⟨rfl, rfl⟩
theorem Hist_eq {i k : Int} {l l' : List (List Int)} (h : VR l) (h' : VR l') (he : ∀ t, SV l i t k = SV l' i t k) : bitemp_History_0 i k l = bitemp_History_0 i k l' ∧ bitemp_History_1 i k l = bitemp_History_1 i k l' := by
  rw [(History_is i k l).2.1, (History_is i k l').2.1, (History_is i k l).2.2, (History_is i k l').2.2, hist_eq h h' he]
  have : IOK l i k ↔ IOK l' i k := by unfold IOK; simp [h, h']
  by_cases h1 : IOK l i k
  · rw [if_pos h1, if_pos h1, if_pos (this.1 h1), if_pos (this.1 h1)]; exact ⟨rfl, rfl⟩
  · rw [if_neg h1, if_neg h1, if_neg (fun h2 => h1 (this.2 h2)), if_neg (fun h2 => h1 (this.2 h2))]; exact ⟨rfl, rfl⟩
theorem same_self (a : List (List Int)) (ha : a.length ≤ 4611686018427387904) : ref27_Same_0 a a = true := by rw [(same_is a a ha).2]; simp

theorem HO_filter (l : List (List Int)) (i t k : Int) : HO (l.filter fun r => it r == i) i t k = HO l i t k := by
  unfold HO
  rw [← List.filter_reverse, List.find?_filter]
  congr 1
  funext r
  unfold says
  cases it r == i <;> simp
theorem SV_filter (l : List (List Int)) (i t k : Int) : SV (l.filter fun r => it r == i) i t k = SV l i t k := by unfold SV; rw [HO_filter]
theorem vr_filter {l : List (List Int)} (h : VR l) (p : List Int → Bool) : VR (l.filter p) :=
  ⟨Nat.le_trans (List.length_filter_le _ _) h.1, fun r hr => h.2.1 r (List.mem_filter.1 hr).1, h.2.2.filter _⟩
theorem changed_row {l : List (List Int)} {i t k : Int} (h : SV l i t k ≠ SV l i t (k - 1)) : ∃ r ∈ l, it r = i ∧ kn r = k := by
  refine Classical.byContradiction fun hn => h ?_
  refine SV_congr fun r hr hi => ?_
  have : kn r ≠ k := fun h2 => hn ⟨r, hr, hi, h2⟩
  omega
theorem can_vr {i k : Int} {h : List (List Int)} (hc : CAN i k h) (hi : IT i) (hk : TM k) (hl : h.length ≤ 200) : VR h := by
  refine ⟨hl, fun r hr => ?_, ?_⟩
  · obtain ⟨h1, h2, h3, h4, h5, h6, h7⟩ := hc.1 r hr
    exact ⟨by rw [h2]; exact hi, h4, h5, h6, h7, by rw [h3]; exact hk⟩
  · refine List.Pairwise.imp_of_mem (R := CR) (fun {a b} ha hb _ => ?_) hc.2
    rw [(hc.1 a ha).2.2.1, (hc.1 b hb).2.2.1]
    exact Int.le_refl _
theorem sv_can {i k : Int} {h : List (List Int)} (hc : CAN i k h) (t v : Int) : SV h i t k = some v ↔ hasV h t v := by
  have hs : ∀ r ∈ h, says i t k r = true ↔ fr r ≤ t ∧ t < un r := fun r hr => by
    obtain ⟨_, h2, h3, _⟩ := hc.1 r hr
    unfold says
    simp only [Bool.and_eq_true, decide_eq_true_eq, beq_iff_eq]
    constructor
    · intro h; exact ⟨h.1.2, h.2⟩
    · intro h; exact ⟨⟨⟨h2, by omega⟩, h.1⟩, h.2⟩
  unfold SV
  cases ho : HO h i t k with
  | none =>
    refine ⟨fun h => (by cases h), fun ⟨x, hx, h1, h2, h3⟩ => ?_⟩
    have := HO_none.1 ho x hx
    rw [(hs x hx).2 ⟨h1, h2⟩] at this
    cases this
  | some r =>
    obtain ⟨h1, h2⟩ := HO_some ho
    have h3 := (hs r h1).1 h2
    have hv : hasV h t (va r) := ⟨r, h1, h3.1, h3.2, rfl⟩
    simp only [Option.map_some, Option.some.injEq]
    constructor
    · rintro rfl; exact hv
    · intro h; exact hasV_one hc hv h
theorem again_is {i k : Int} {h : List (List Int)} (hc : CAN i k h) (hi : IT i) (hk : TM k) (hl : h.length ≤ 200) : bitemp_History_0 i k h = h ∧ bitemp_History_1 i k h = 0 := by
  have hv := can_vr hc hi hk hl
  have hok : IOK h i k := ⟨hv, hi, hk⟩
  rw [(History_is i k h).2.1, (History_is i k h).2.2, if_pos hok, if_pos hok]
  obtain ⟨_, g1, g2⟩ := history_is i k h hv
  exact ⟨can_eq g1 hc fun t v => by rw [g2, HV_iff, sv_can hc], rfl⟩
theorem at_sv {i t k : Int} {l : List (List Int)} (h : AOK l i t k) : bitemp_At_0 i t k l = (SV l i t k).getD 0 ∧ bitemp_At_1 i t k l = if (SV l i t k).isSome = true then 0 else 4 := by
  rw [(at_is i t k l).2.1, (at_is i t k l).2.2, if_pos h, if_pos h]
  unfold SV
  cases HO l i t k with
  | none => exact ⟨rfl, rfl⟩
  | some r => exact ⟨rfl, rfl⟩

theorem at_bad {l : List (List Int)} {i t k : Int} (h : ¬ AOK l i t k) : bitemp_At_1 i t k l = 1 := by rw [(at_is i t k l).2.2, if_neg h]
theorem on_len (c : List Int) : (ofNums c).length = c.length := by simp [ofNums]
theorem on_get {c : List Int} {j : Nat} (h : j < c.length) : ((ofNums c).getD j []).getD 0 0 = c.getD j 0 := by
  unfold ofNums
  rw [List.getD_eq_getElem?_getD (l := c.map _), List.getElem?_map, List.getElem?_eq_getElem h, List.getD_eq_getElem?_getD (l := c), List.getElem?_eq_getElem h]
  rfl
theorem take_succ_i {l : List Int} {i : Nat} (h : i < l.length) : l.take (i + 1) = l.take i ++ [l.getD i 0] := by
  rw [List.take_succ_eq_append_getElem h, List.getD_eq_getElem?_getD, List.getElem?_eq_getElem h]; rfl
theorem sv_const {l : List (List Int)} {i t : Int} {c : List Int} (hc : ∀ k, k ∈ c ↔ (∃ r ∈ l, kn r = k) ∧ SV l i t k ≠ SV l i t (k - 1)) (a : Int) : ∀ n : Nat, (∀ k, a < k → k ≤ a + n → k ∉ c) → SV l i t a = SV l i t (a + n) := by
  intro n
  induction n with
  | zero => intro _; rw [Int.natCast_zero, Int.add_zero]
  | succ n ih =>
    intro h
    rw [ih fun k h1 h2 => h k h1 (by omega)]
    refine Classical.byContradiction fun hne => ?_
    have e : a + ((n + 1 : Nat) : Int) - 1 = a + n := by omega
    have hk : SV l i t (a + ((n + 1 : Nat) : Int)) ≠ SV l i t (a + ((n + 1 : Nat) : Int) - 1) := by rw [e]; exact fun h2 => hne h2.symm
    obtain ⟨r, hr, _, h2⟩ := changed_row hk
    exact h _ (by omega) (Int.le_refl _) ((hc _).2 ⟨⟨r, hr, h2⟩, hk⟩)
theorem sv_const' {l : List (List Int)} {i t : Int} {c : List Int} (hc : ∀ k, k ∈ c ↔ (∃ r ∈ l, kn r = k) ∧ SV l i t k ≠ SV l i t (k - 1)) {a b : Int} (hab : a ≤ b) (h : ∀ k, a < k → k ≤ b → k ∉ c) : SV l i t a = SV l i t b := by
  have := sv_const hc a (b - a).toNat fun k h1 h2 => h k h1 (by omega)
  rwa [show a + ((b - a).toNat : Int) = b by omega] at this
theorem sv_low {l : List (List Int)} (hl : VR l) (i t : Int) : SV l i t (-1) = none := by
  unfold SV
  rw [HO_none.2 fun r hr => ?_]
  · rfl
  · have := (hl.2.1 r hr).2.2.2.2.2
    unfold TM at this
    unfold says
    rw [decide_eq_false (show ¬ kn r ≤ -1 by omega)]
    simp
theorem count_one {p : Int → Bool} {c : List Int} (h : c.countP p = 1) : ∃ k ∈ c, p k = true ∧ ∀ k' ∈ c, p k' = true → k' = k := by
  rw [List.countP_eq_length_filter] at h
  obtain ⟨k, hk⟩ := List.length_eq_one_iff.1 h
  have hm : ∀ x, x ∈ c.filter p ↔ x ∈ c ∧ p x = true := fun x => List.mem_filter
  rw [hk] at hm
  exact ⟨k, ((hm k).1 (by simp)).1, ((hm k).1 (by simp)).2, fun k' h1 h2 => by simpa using (hm k').2 ⟨h1, h2⟩⟩
theorem same_sv {i t k k' : Int} {l : List (List Int)} (h : AOK l i t k) (h' : AOK l i t k') : (bitemp_At_0 i t k l == bitemp_At_0 i t k' l && bitemp_At_1 i t k l == bitemp_At_1 i t k' l) = decide (SV l i t k = SV l i t k') := by
  rw [(at_sv h).1, (at_sv h).2, (at_sv h').1, (at_sv h').2, Bool.eq_iff_iff, decide_eq_true_eq]
  cases SV l i t k <;> cases SV l i t k' <;> simp
end Go.Proofs.Ytcbgjecpnhjlpaa
