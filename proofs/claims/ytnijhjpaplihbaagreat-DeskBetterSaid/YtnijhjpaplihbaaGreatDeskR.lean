/- Several texts in one (wip/merge.py): XDeskP XDeskQ XDeskR. -/
import Derived.Test.YtnijhjpaplihbaaGreatSeen
import Derived.Test.YtnijhjpaplihbaaGreatDesk1D
/-!
  Package desk as functions on lists: valid stories, wrong reports, what is left.
-/
set_option linter.unusedVariables false
set_option linter.unusedSimpArgs false
set_option linter.unusedSectionVars false
namespace Go.Proofs.YtnijhjpaplihbaaGreat
open Go Go.Sy

theorem drop_cons1 {l : List (List Int)} {i : Nat} (h : i < l.length) : l.drop i = l.getD i [] :: l.drop (i + 1) := by
  rw [List.drop_eq_getElem_cons h, List.getD_eq_getElem?_getD, List.getElem?_eq_getElem h]; rfl
/-- The times do not fall, the buoy is one. -/
def tsB (b0 : Int) : Int → List (List Int) → Bool
  | _, [] => true
  | last, r :: rs => decide (last ≤ r.getD 2 0) && (r.getD 3 0 == b0) && tsB b0 (r.getD 2 0) rs
theorem tsB_cons (b0 last : Int) (r : List Int) (rs : List (List Int)) : tsB b0 last (r :: rs) = (decide (last ≤ r.getD 2 0) && (r.getD 3 0 == b0) && tsB b0 (r.getD 2 0) rs) := rfl
noncomputable def svE (f : Int) (base fc rp : List (List Int)) : Int :=
  if sighting_valid_0 rp = true ∧ VL base ∧ VC fc ∧ 0 ≤ f ∧ f ≤ 10000000 then (if tsB ((rp.getD 0 []).getD 3 0) f rp = true then (if (sighting_Merge_0 rp).length < rp.length then 5 else 0) else 1) else 1
theorem merge2 (l : List (List Int)) : sighting_Merge_2 l = bif sighting_valid_0 l then 0 else 1 := by
  unfold sighting_Merge_2
  cases sighting_valid_0 l <;> rfl
theorem sv_loop (f : Int) (base fc rp : List (List Int)) (hl : rp.length ≤ 60) : loopOk (desk_story_valid_l0_step f base fc rp) (desk_story_valid_l0_init f base fc rp) ∧ (desk_story_valid_l0 f base fc rp).1.beq 1 = !tsB ((rp.getD 0 []).getD 3 0) f rp := by
  refine loop_for (step := desk_story_valid_l0_step f base fc rp) rp.length (fun j xs => ∃ last, xs = [.i 0, .i last, .i (j : Int)] ∧ tsB ((rp.getD 0 []).getD 3 0) f rp = tsB ((rp.getD 0 []).getD 3 0) last (rp.drop j))
    (fun res => res.1.beq 1 = !tsB ((rp.getD 0 []).getD 3 0) f rp)
    (fun j xs hj ⟨last, e, hts⟩ => ?_) (fun xs ⟨last, e, hts⟩ => ?_) (xs := desk_story_valid_l0_init f base fc rp) ⟨f, rfl, rfl⟩
  · subst e
    have h0 : inR (0 : Int) rp := by unfold inR; omega
    rw [drop_cons1 hj] at hts
    rw [tsB_cons] at hts
    unfold desk_story_valid_l0_step
    simp only [gi_1, gi_2, gi_z, dlt hj, guardP_pos (inR_of hj), Int.toNat_natCast, wrap_succ (show j < 4611686018427387904 by omega), Int.toNat_zero]
    rw [guardP_pos (fun _ => h0), guardP_pos (fun _ => h0), guardP_pos (fun _ => h0)]
    by_cases h1 : (rp.getD j []).getD 2 0 < last
    · rw [decide_eq_true h1, Bool.true_or, cond_true]
      refine .inr ⟨0, [], rfl, ?_⟩
      rw [hts, decide_eq_false (show ¬ last ≤ (rp.getD j []).getD 2 0 by omega)]
      rfl
    · rw [decide_eq_false h1, Bool.false_or]
      by_cases h2 : (rp.getD j []).getD 3 0 = (rp.getD 0 []).getD 3 0
      · have e2 : ((rp.getD j []).getD 3 0 != (rp.getD 0 []).getD 3 0) = false := by simp only [h2, bne_self_eq_false]
        rw [e2, cond_false]
        refine .inl ⟨_, rfl, _, rfl, ?_⟩
        rw [hts, decide_eq_true (show last ≤ (rp.getD j []).getD 2 0 by omega), h2]
        simp
      · have e2 : ((rp.getD j []).getD 3 0 != (rp.getD 0 []).getD 3 0) = true := by rw [bne_iff_ne]; exact h2
        rw [e2, cond_true]
        refine .inr ⟨0, [], rfl, ?_⟩
        have e3 : ((rp.getD j []).getD 3 0 == (rp.getD 0 []).getD 3 0) = false := by rw [beq_eq_false_iff_ne]; exact h2
        rw [hts, e3]
        simp
  · subst e
    refine ⟨2, [.i 0, .i last, .i rp.length], ?_, ?_⟩
    · unfold desk_story_valid_l0_step
      simp only [gi_1, gi_2, gi_z, dnlt]
    · rw [hts, List.drop_length]
      rfl
theorem sv_is (f : Int) (base fc rp : List (List Int)) (h13 : Si.El13 rp) (hf : fc.length ≤ 9223372036854775807) : desk_story_valid_pre f base fc rp ∧ desk_story_valid_0 f base fc rp = svE f base fc rp := by
  have hm := Si.smerge_pre rp h13
  have hv := (Si.valid_is rp).2
  have hb := valid_is base
  have hc := currents_is fc hf
  unfold desk_story_valid_pre desk_story_valid_0 desk_story_valid_s0 svE
  rw [merge2, hb.2, hc.2]
  have hcond : ((bif sighting_valid_0 rp then (0 : Int) else 1) != 0 || !decide (VL base) || !decide (VC fc) || decide (f < 0) || decide (f > 10000000)) = !decide (sighting_valid_0 rp = true ∧ VL base ∧ VC fc ∧ 0 ≤ f ∧ f ≤ 10000000) := by
    rw [Bool.eq_iff_iff]
    cases sighting_valid_0 rp <;> by_cases h2 : VL base <;> by_cases h3 : VC fc <;> simp [h2, h3] <;> omega
  rw [hcond]
  by_cases h : sighting_valid_0 rp = true ∧ VL base ∧ VC fc ∧ 0 ≤ f ∧ f ≤ 10000000
  · have hl : rp.length ≤ 60 := by
      have := h.1
      rw [hv, Bool.and_eq_true, decide_eq_true_eq] at this
      exact this.1
    obtain ⟨g1, g2⟩ := sv_loop f base fc rp hl
    rw [decide_eq_true h, if_pos h, g2]
    refine ⟨⟨hm, fun _ => hb.1, fun _ => hc.1, fun _ => g1⟩, ?_⟩
    rw [Bool.not_true, cond_false]
    cases tsB ((rp.getD 0 []).getD 3 0) f rp with
    | false => rfl
    | true =>
      rw [Bool.not_true, cond_false, if_pos rfl]
      by_cases hlt : (sighting_Merge_0 rp).length < rp.length
      · rw [decide_eq_true (by omega), if_pos hlt]; rfl
      · rw [decide_eq_false (by omega), if_neg hlt]; rfl
  · rw [decide_eq_false h, if_neg h]
    exact ⟨⟨hm, fun _ => hb.1, fun _ => hc.1, fun h => (by cases h)⟩, rfl⟩

/-! ### wrong reports -/
def wB (m : Int) : Int → List (List Int) → Bool
  | _, [] => true
  | last, e :: r => decide (last < e.getD 0 0) && decide (e.getD 0 0 < m) && wB m (e.getD 0 0) r
theorem wB_cons (m last : Int) (e : List Int) (r : List (List Int)) : wB m last (e :: r) = (decide (last < e.getD 0 0) && decide (e.getD 0 0 < m) && wB m (e.getD 0 0) r) := rfl
theorem wr_is (f : Int) (base fc rp wr : List (List Int)) (hw : wr.length ≤ 9223372036854775807) : desk_story_wrongs_pre f base fc rp wr ∧ desk_story_wrongs_0 f base fc rp wr = wB rp.length (-1) wr := by
  have key := loop_for (step := desk_story_wrongs_l0_step f base fc rp wr) wr.length (fun j xs => ∃ last, xs = [.b false, .i last, .i (j : Int)] ∧ wB rp.length (-1) wr = wB rp.length last (wr.drop j))
    (fun res => res.1.beq 1 = !wB rp.length (-1) wr)
    (fun j xs hj ⟨last, e, hts⟩ => by
      subst e
      rw [drop_cons1 hj] at hts
      rw [wB_cons] at hts
      unfold desk_story_wrongs_l0_step
      simp only [gi_1, gi_2, gi_z, gb_z, dlt hj, guardP_pos (inR_of hj), Int.toNat_natCast, wrap_succ' (show j < 9223372036854775807 by omega)]
      by_cases h1 : last < (wr.getD j []).getD 0 0 ∧ (wr.getD j []).getD 0 0 < rp.length
      · rw [decide_eq_false (show ¬ (wr.getD j []).getD 0 0 ≤ last by omega), decide_eq_false (show ¬ (wr.getD j []).getD 0 0 ≥ (rp.length : Int) by omega), Bool.false_or, cond_false]
        refine .inl ⟨_, rfl, _, rfl, ?_⟩
        rw [hts, decide_eq_true h1.1, decide_eq_true h1.2]
        rfl
      · have : (decide ((wr.getD j []).getD 0 0 ≤ last) || decide ((wr.getD j []).getD 0 0 ≥ (rp.length : Int))) = true := by
          rw [Bool.or_eq_true, decide_eq_true_eq, decide_eq_true_eq]; omega
        rw [this, cond_true]
        refine .inr ⟨0, [], rfl, ?_⟩
        have : (decide (last < (wr.getD j []).getD 0 0) && decide ((wr.getD j []).getD 0 0 < (rp.length : Int))) = false := by
          rw [Bool.and_eq_false_iff, decide_eq_false_iff_not, decide_eq_false_iff_not]; omega
        rw [hts, this]
        rfl)
    (fun xs ⟨last, e, hts⟩ => by
      subst e
      refine ⟨2, [.b false, .i last, .i wr.length], ?_, ?_⟩
      · unfold desk_story_wrongs_l0_step
        simp only [gi_1, gi_2, gi_z, gb_z, dnlt]
      · rw [hts, List.drop_length]
        rfl)
    (xs := desk_story_wrongs_l0_init f base fc rp wr) ⟨-1, rfl, rfl⟩
  refine ⟨key.1, ?_⟩
  have e : (desk_story_wrongs_l0 f base fc rp wr).1.beq 1 = !wB rp.length (-1) wr := key.2
  unfold desk_story_wrongs_0
  rw [e]
  cases wB rp.length (-1) wr <;> rfl
/-- An index is among the wrong ones. -/
def isW (wr : List (List Int)) (i : Int) : Bool := wr.any fun e => i == e.getD 0 0
theorem wB_len {m : Int} : ∀ (wr : List (List Int)) (last : Int), wB m last wr = true → -1 ≤ last → last < m → last + wr.length < m ∨ wr = []
  | [], _, _, _, _ => .inr rfl
  | e :: r, last, h, h0, h1 => by
    unfold wB at h
    simp only [Bool.and_eq_true, decide_eq_true_eq] at h
    rcases wB_len r (e.getD 0 0) h.2 (by omega) (by omega) with h2 | h2
    · left; simp only [List.length_cons]; omega
    · left; subst h2; simp only [List.length_cons, List.length_nil]; omega
theorem wB_len' {m : Nat} {wr : List (List Int)} (h : wB m (-1) wr = true) : wr.length ≤ m := by
  rcases wB_len wr (-1) h (by omega) (by omega) with h1 | h1
  · omega
  · subst h1; exact Nat.zero_le _
theorem any_getD {wr : List (List Int)} {p : List Int → Bool} : wr.any p = true ↔ ∃ i, i < wr.length ∧ p (wr.getD i []) = true := by
  rw [List.any_eq_true]
  constructor
  · rintro ⟨x, hx, h⟩
    obtain ⟨i, hi, rfl⟩ := getD_of_mem hx
    exact ⟨i, hi, h⟩
  · rintro ⟨i, hi, h⟩
    exact ⟨_, getD_mem hi, h⟩
theorem left_l1 (f : Int) (base fc rp wr : List (List Int)) (hw : wr.length ≤ 9223372036854775806) (y0 : List U) :
    loopOk (desk_story_left_l1_step f base fc rp wr y0) (desk_story_left_l1_init f base fc rp wr y0) ∧
    decide ((bif (desk_story_left_l1 f base fc rp wr y0).1.beq 1 then gi (desk_story_left_l1 f base fc rp wr y0).2 0 else -1) ≥ (0 : Int)) = isW wr (gi y0 2) := by
  have key := loop_search (step := desk_story_left_l1_step f base fc rp wr y0) wr.length (fun q => gi y0 2 == (wr.getD q []).getD 0 0) (fun q => [.i 0, .i q]) (fun q => [.i q]) 0 2 [.i 0, .i wr.length]
    (fun q hq => by
      unfold desk_story_left_l1_step
      simp only [gi_1, gi_z, dlt hq, guardP_pos (inR_of hq), Int.toNat_natCast, wrap_succ' (show q < 9223372036854775807 by omega)])
    (by
      unfold desk_story_left_l1_step
      simp only [gi_1, gi_z, dnlt])
  refine ⟨key.1, ?_⟩
  rcases key.2 with ⟨q, q1, q2, q3, q4⟩ | ⟨q3, q4⟩
  · have e : desk_story_left_l1 f base fc rp wr y0 = (1, [.i q]) := q4
    rw [e]
    have : isW wr (gi y0 2) = true := any_getD.2 ⟨q, q1, q2⟩
    rw [this]
    simp [Nat.beq, gi_z]
  · have e : desk_story_left_l1 f base fc rp wr y0 = (3, [.i 0, .i wr.length]) := q4
    rw [e]
    have : isW wr (gi y0 2) = false := by
      rw [Bool.eq_false_iff]
      intro h
      obtain ⟨q, hq, h2⟩ := any_getD.1 h
      rw [q3 q hq] at h2
      cases h2
    rw [this]
    simp [Nat.beq]

/-! ### what is left -/
noncomputable def bxE (r : List Int) : Int := sighting_Box_4 (r.getD 0 0) (r.getD 1 0) (r.getD 2 0) (r.getD 3 0) (r.getD 4 0) (r.getD 5 0) (r.getD 6 0) (r.getD 7 0) (r.getD 8 0) (r.getD 9 0) (r.getD 10 0) (r.getD 11 0) (r.getD 12 0)
noncomputable def bx0 (r : List Int) : Int := sighting_Box_0 (r.getD 0 0) (r.getD 1 0) (r.getD 2 0) (r.getD 3 0) (r.getD 4 0) (r.getD 5 0) (r.getD 6 0) (r.getD 7 0) (r.getD 8 0) (r.getD 9 0) (r.getD 10 0) (r.getD 11 0) (r.getD 12 0)
noncomputable def bx1 (r : List Int) : Int := sighting_Box_1 (r.getD 0 0) (r.getD 1 0) (r.getD 2 0) (r.getD 3 0) (r.getD 4 0) (r.getD 5 0) (r.getD 6 0) (r.getD 7 0) (r.getD 8 0) (r.getD 9 0) (r.getD 10 0) (r.getD 11 0) (r.getD 12 0)
noncomputable def bx2 (r : List Int) : Int := sighting_Box_2 (r.getD 0 0) (r.getD 1 0) (r.getD 2 0) (r.getD 3 0) (r.getD 4 0) (r.getD 5 0) (r.getD 6 0) (r.getD 7 0) (r.getD 8 0) (r.getD 9 0) (r.getD 10 0) (r.getD 11 0) (r.getD 12 0)
noncomputable def bx3 (r : List Int) : Int := sighting_Box_3 (r.getD 0 0) (r.getD 1 0) (r.getD 2 0) (r.getD 3 0) (r.getD 4 0) (r.getD 5 0) (r.getD 6 0) (r.getD 7 0) (r.getD 8 0) (r.getD 9 0) (r.getD 10 0) (r.getD 11 0) (r.getD 12 0)
noncomputable def bxL (r : List Int) : List Int := [bx0 r, bx1 r, bx2 r, bx3 r]
/-- What is left of a set behind some reports. -/
noncomputable def lf (c wr : List (List Int)) : List (List Int) → Nat → List (List Int) → Int → Int × List (List Int)
  | [], _, set, _ => (0, set)
  | r :: rs, i, set, at_ =>
    if moveE at_ (r.getD 2 0) set c ≠ 0 then (moveE at_ (r.getD 2 0) set c, [])
    else if isW wr i = true then lf c wr rs (i + 1) (moveL at_ (r.getD 2 0) set c) (r.getD 2 0)
    else if bxE r ≠ 0 then (bxE r, [])
    else if cutE (bxL r) (moveL at_ (r.getD 2 0) set c) ≠ 0 then (18, [])
    else lf c wr rs (i + 1) (cutL (bxL r) (moveL at_ (r.getD 2 0) set c)) (r.getD 2 0)
theorem lf_cons (c wr : List (List Int)) (r : List Int) (rs : List (List Int)) (i : Nat) (set : List (List Int)) (at_ : Int) : lf c wr (r :: rs) i set at_ =
    if moveE at_ (r.getD 2 0) set c ≠ 0 then (moveE at_ (r.getD 2 0) set c, [])
    else if isW wr i = true then lf c wr rs (i + 1) (moveL at_ (r.getD 2 0) set c) (r.getD 2 0)
    else if bxE r ≠ 0 then (bxE r, [])
    else if cutE (bxL r) (moveL at_ (r.getD 2 0) set c) ≠ 0 then (18, [])
    else lf c wr rs (i + 1) (cutL (bxL r) (moveL at_ (r.getD 2 0) set c)) (r.getD 2 0) := rfl
theorem left_is (f : Int) (base fc rp wr : List (List Int)) (hb : base.length ≤ 16) (hf : fc.length ≤ 9223372036854775807) (hr : rp.length ≤ 60) (hw : wr.length ≤ 9223372036854775806) :
    desk_story_left_pre f base fc rp wr ∧ desk_story_left_1 f base fc rp wr = (lf fc wr rp 0 base f).1 ∧ desk_story_left_0 f base fc rp wr = (lf fc wr rp 0 base f).2 := by
  have key := loop_for (step := desk_story_left_l0_step f base fc rp wr) rp.length (fun j xs => ∃ e0 at_ set, xs = [.i e0, .i at_, .i (j : Int), .r set] ∧ lf fc wr rp 0 base f = lf fc wr (rp.drop j) j set at_)
    (fun res => (res.1 = 1 ∧ lf fc wr rp 0 base f = (gi res.2 0, [])) ∨ (res.1 = 3 ∧ lf fc wr rp 0 base f = (gi res.2 0, [])) ∨ (res.1 = 4 ∧ lf fc wr rp 0 base f = (18, [])) ∨ (res.1 = 6 ∧ lf fc wr rp 0 base f = (0, gr res.2 3)))
    (fun j xs hj ⟨e0, at_, set, e, hl⟩ => by
      subst e
      rw [drop_cons1 hj] at hl
      rw [lf_cons] at hl
      obtain ⟨m1, m2, m3⟩ := move_is at_ ((rp.getD j []).getD 2 0) set fc hf
      obtain ⟨l1, l2⟩ := left_l1 f base fc rp wr hw [.i e0, .i at_, .i (j : Int), .r set]
      have eg : gi [U.i e0, U.i at_, U.i (j : Int), U.r set] 2 = (j : Int) := by rw [gi_2, gi_z]
      have e_0 : desk_story_left_s0 f base fc rp wr [U.i e0, U.i at_, U.i (j : Int), U.r set] = bxE (rp.getD j []) := by
        unfold desk_story_left_s0 bxE; rw [eg, Int.toNat_natCast]
      have e_1 : desk_story_left_s1 f base fc rp wr [U.i e0, U.i at_, U.i (j : Int), U.r set] = bx0 (rp.getD j []) := by
        unfold desk_story_left_s1 bx0; rw [eg, Int.toNat_natCast]
      have e_2 : desk_story_left_s2 f base fc rp wr [U.i e0, U.i at_, U.i (j : Int), U.r set] = bx1 (rp.getD j []) := by
        unfold desk_story_left_s2 bx1; rw [eg, Int.toNat_natCast]
      have e_3 : desk_story_left_s3 f base fc rp wr [U.i e0, U.i at_, U.i (j : Int), U.r set] = bx2 (rp.getD j []) := by
        unfold desk_story_left_s3 bx2; rw [eg, Int.toNat_natCast]
      have e_4 : desk_story_left_s4 f base fc rp wr [U.i e0, U.i at_, U.i (j : Int), U.r set] = bx3 (rp.getD j []) := by
        unfold desk_story_left_s4 bx3; rw [eg, Int.toNat_natCast]
      obtain ⟨c1, c2, c3⟩ := cut_is (bx0 (rp.getD j [])) (bx1 (rp.getD j [])) (bx2 (rp.getD j [])) (bx3 (rp.getD j [])) (moveL at_ ((rp.getD j []).getD 2 0) set fc)
      unfold desk_story_left_l0_step
      rw [l2, e_0, e_1, e_2, e_3, e_4]
      rw [guardP_pos l1]
      simp only [gi_1, gi_2, gi_z, gr_3, gr_z, dlt hj, guardP_pos (inR_of hj), Int.toNat_natCast, wrap_succ (show j < 4611686018427387904 by omega), guardP_pos m1, m2, m3, guardP_pos c1, c2, c3]
      by_cases h1 : moveE at_ ((rp.getD j []).getD 2 0) set fc = 0
      · rw [if_neg (by simpa using h1)] at hl
        have b1 : (moveE at_ ((rp.getD j []).getD 2 0) set fc != 0) = false := by rw [bne_eq_false_iff_eq]; exact h1
        rw [b1, cond_false]
        cases hW : isW wr j with
        | true =>
          rw [if_pos hW] at hl
          rw [cond_true]
          exact .inl ⟨_, rfl, _, _, _, rfl, hl⟩
        | false =>
          rw [if_neg (by rw [hW]; simp)] at hl
          rw [cond_false]
          by_cases h2 : bxE (rp.getD j []) = 0
          · rw [if_neg (by simpa using h2)] at hl
            have b2 : (bxE (rp.getD j []) != 0) = false := by rw [bne_eq_false_iff_eq]; exact h2
            rw [b2, cond_false]
            by_cases h3 : cutE (bxL (rp.getD j [])) (moveL at_ ((rp.getD j []).getD 2 0) set fc) = 0
            · rw [if_neg (by simpa using h3)] at hl
              have b3 : (cutE [bx0 (rp.getD j []), bx1 (rp.getD j []), bx2 (rp.getD j []), bx3 (rp.getD j [])] (moveL at_ ((rp.getD j []).getD 2 0) set fc) != 0) = false := by
                rw [bne_eq_false_iff_eq]; exact h3
              rw [b3, cond_false]
              exact .inl ⟨_, rfl, _, _, _, rfl, hl⟩
            · rw [if_pos (by simpa using h3)] at hl
              have b3 : (cutE [bx0 (rp.getD j []), bx1 (rp.getD j []), bx2 (rp.getD j []), bx3 (rp.getD j [])] (moveL at_ ((rp.getD j []).getD 2 0) set fc) != 0) = true := by
                rw [bne_iff_ne]; exact h3
              rw [b3, cond_true]
              exact .inr ⟨3, [], rfl, .inr (.inr (.inl ⟨rfl, hl⟩))⟩
          · rw [if_pos (by simpa using h2)] at hl
            have b2 : (bxE (rp.getD j []) != 0) = true := by rw [bne_iff_ne]; exact h2
            rw [b2, cond_true]
            exact .inr ⟨2, _, rfl, .inr (.inl ⟨rfl, by rw [hl, gi_z]⟩)⟩
      · rw [if_pos (by simpa using h1)] at hl
        have b1 : (moveE at_ ((rp.getD j []).getD 2 0) set fc != 0) = true := by rw [bne_iff_ne]; exact h1
        rw [b1, cond_true]
        exact .inr ⟨0, _, rfl, .inl ⟨rfl, by rw [hl, gi_z]⟩⟩)
    (fun xs ⟨e0, at_, set, e, hl⟩ => by
      subst e
      refine ⟨5, [.i e0, .i at_, .i rp.length, .r set], ?_, .inr (.inr (.inr ⟨rfl, ?_⟩))⟩
      · unfold desk_story_left_l0_step
        simp only [gi_1, gi_2, gi_z, gr_3, gr_z, dnlt]
      · rw [hl, List.drop_length, gr_3, gr_z]
        rfl)
    (xs := desk_story_left_l0_init f base fc rp wr) ⟨0, f, base, rfl, rfl⟩
  refine ⟨⟨⟨fun h => ⟨trivial, by rw [h]; rfl, trivial⟩, by unfold fitsA maxLen; omega⟩, key.1⟩, ?_⟩
  unfold desk_story_left_1 desk_story_left_0 desk_story_left_s6 desk_story_left_s5
  have hk : ((desk_story_left_l0 f base fc rp wr).1 = 1 ∧ lf fc wr rp 0 base f = (gi (desk_story_left_l0 f base fc rp wr).2 0, [])) ∨ ((desk_story_left_l0 f base fc rp wr).1 = 3 ∧ lf fc wr rp 0 base f = (gi (desk_story_left_l0 f base fc rp wr).2 0, [])) ∨ ((desk_story_left_l0 f base fc rp wr).1 = 4 ∧ lf fc wr rp 0 base f = (18, [])) ∨ ((desk_story_left_l0 f base fc rp wr).1 = 6 ∧ lf fc wr rp 0 base f = (0, gr (desk_story_left_l0 f base fc rp wr).2 3)) := key.2
  rcases hk with ⟨h1, h2⟩ | ⟨h1, h2⟩ | ⟨h1, h2⟩ | ⟨h1, h2⟩ <;> rw [h1, h2] <;> exact ⟨rfl, rfl⟩
end Go.Proofs.YtnijhjpaplihbaaGreat

/-!
  Package desk: what is left in plain words, and what a track tells.
-/
set_option linter.unusedVariables false
namespace Go.Proofs.YtnijhjpaplihbaaGreat
open Go Go.Sy

def RVr (r : List Int) : Prop := Si.RV (r.getD 0 0) (r.getD 1 0) (r.getD 2 0) (r.getD 3 0) (r.getD 4 0) (r.getD 5 0) (r.getD 6 0) (r.getD 7 0) (r.getD 8 0) (r.getD 9 0) (r.getD 10 0) (r.getD 11 0) (r.getD 12 0)
instance (r : List Int) : Decidable (RVr r) := by unfold RVr; infer_instance
theorem sval_is (r : List Int) : Si.sval r = decide (RVr r) := Si.sval_dec _ _ _ _ _ _ _ _ _ _ _ _ _
/-- The box of a report. -/
def bxD (r : List Int) : List Int := [Si.rlo (r.getD 4 0) (r.getD 12 0) (r.getD 8 0) (r.getD 10 0), Si.rhi (r.getD 5 0) (r.getD 12 0) (r.getD 8 0) (r.getD 10 0), Si.rlo (r.getD 6 0) (r.getD 12 0) (r.getD 9 0) (r.getD 11 0), Si.rhi (r.getD 7 0) (r.getD 12 0) (r.getD 9 0) (r.getD 11 0)]
theorem bx_is {r : List Int} (h : RVr r) : bxE r = 0 ∧ bxL r = bxD r ∧ VB (bxD r) := by
  rcases Si.box_cases (r.getD 0 0) (r.getD 1 0) (r.getD 2 0) (r.getD 3 0) (r.getD 4 0) (r.getD 5 0) (r.getD 6 0) (r.getD 7 0) (r.getD 8 0) (r.getD 9 0) (r.getD 10 0) (r.getD 11 0) (r.getD 12 0) with ⟨_, b0, b1, b2, b3, b4⟩ | ⟨h', _⟩
  · refine ⟨b4, ?_, ?_⟩
    · unfold bxL bx0 bx1 bx2 bx3 bxD
      rw [b0, b1, b2, b3]
    · unfold RVr Si.RV at h
      exact (Si.box_bx h.2.2.2.2.2.1 h.2.2.2.2.1).1
  · exact absurd h h'
/-- A story that is looked at. -/
structure GS (f : Int) (base fc rp : List (List Int)) : Prop where
  vl : VL base
  vc : VC fc
  f0 : 0 ≤ f ∧ f ≤ 10000000
  rv : ∀ r ∈ rp, RVr r
  ln : rp.length ≤ 60
  ts : tsB ((rp.getD 0 []).getD 3 0) f rp = true
theorem svalid_iff (rp : List (List Int)) : sighting_valid_0 rp = true ↔ rp.length ≤ 60 ∧ ∀ r ∈ rp, RVr r := by
  rw [(Si.valid_is rp).2, Bool.and_eq_true, decide_eq_true_eq, List.all_eq_true]
  constructor
  · rintro ⟨h1, h2⟩
    exact ⟨h1, fun r hr => by have := h2 r hr; rw [sval_is, decide_eq_true_eq] at this; exact this⟩
  · rintro ⟨h1, h2⟩
    exact ⟨h1, fun r hr => by rw [sval_is, decide_eq_true_eq]; exact h2 r hr⟩
theorem sv_cases (f : Int) (base fc rp : List (List Int)) :
    (svE f base fc rp = 1 ∧ ¬ GS f base fc rp) ∨ (svE f base fc rp = 5 ∧ GS f base fc rp ∧ (sighting_Merge_0 rp).length < rp.length) ∨ (svE f base fc rp = 0 ∧ GS f base fc rp ∧ ¬ (sighting_Merge_0 rp).length < rp.length) := by
  unfold svE
  by_cases h : sighting_valid_0 rp = true ∧ VL base ∧ VC fc ∧ 0 ≤ f ∧ f ≤ 10000000
  · rw [if_pos h]
    by_cases ht : tsB ((rp.getD 0 []).getD 3 0) f rp = true
    · rw [if_pos ht]
      have g : GS f base fc rp := ⟨h.2.1, h.2.2.1, h.2.2.2, ((svalid_iff rp).1 h.1).2, ((svalid_iff rp).1 h.1).1, ht⟩
      by_cases hm : (sighting_Merge_0 rp).length < rp.length
      · rw [if_pos hm]; exact .inr (.inl ⟨rfl, g, hm⟩)
      · rw [if_neg hm]; exact .inr (.inr ⟨rfl, g, hm⟩)
    · rw [if_neg ht]; exact .inl ⟨rfl, fun g => ht g.ts⟩
  · rw [if_neg h]
    exact .inl ⟨rfl, fun g => h ⟨(svalid_iff rp).2 ⟨g.ln, g.rv⟩, g.vl, g.vc, g.f0⟩⟩

/-! ### what is left -/
def lg (c wr : List (List Int)) : List (List Int) → Nat → List (List Int) → Int → Int × List (List Int)
  | [], _, set, _ => (0, set)
  | r :: rs, i, set, at_ =>
    if sumE at_ (r.getD 2 0) c ≠ 0 then (sumE at_ (r.getD 2 0) c, [])
    else if ∃ b ∈ set, ¬ VB (mvF at_ (r.getD 2 0) c b) then (3, [])
    else if isW wr i = true then lg c wr rs (i + 1) (set.map (mvF at_ (r.getD 2 0) c)) (r.getD 2 0)
    else if cutP (bxD r) (set.map (mvF at_ (r.getD 2 0) c)) = [] then (18, [])
    else lg c wr rs (i + 1) (cutP (bxD r) (set.map (mvF at_ (r.getD 2 0) c))) (r.getD 2 0)
theorem lg_cons (c wr : List (List Int)) (r : List Int) (rs : List (List Int)) (i : Nat) (set : List (List Int)) (at_ : Int) : lg c wr (r :: rs) i set at_ =
    if sumE at_ (r.getD 2 0) c ≠ 0 then (sumE at_ (r.getD 2 0) c, [])
    else if ∃ b ∈ set, ¬ VB (mvF at_ (r.getD 2 0) c b) then (3, [])
    else if isW wr i = true then lg c wr rs (i + 1) (set.map (mvF at_ (r.getD 2 0) c)) (r.getD 2 0)
    else if cutP (bxD r) (set.map (mvF at_ (r.getD 2 0) c)) = [] then (18, [])
    else lg c wr rs (i + 1) (cutP (bxD r) (set.map (mvF at_ (r.getD 2 0) c))) (r.getD 2 0) := rfl
/-- One round of lg, in cases. -/
theorem lg_step (c wr : List (List Int)) (r : List Int) (rs : List (List Int)) (i : Nat) (set : List (List Int)) (at_ : Int) :
    (sumE at_ (r.getD 2 0) c ≠ 0 ∧ lg c wr (r :: rs) i set at_ = (sumE at_ (r.getD 2 0) c, [])) ∨
    (sumE at_ (r.getD 2 0) c = 0 ∧ (∃ b ∈ set, ¬ VB (mvF at_ (r.getD 2 0) c b)) ∧ lg c wr (r :: rs) i set at_ = (3, [])) ∨
    (sumE at_ (r.getD 2 0) c = 0 ∧ (∀ b ∈ set, VB (mvF at_ (r.getD 2 0) c b)) ∧ isW wr i = true ∧ lg c wr (r :: rs) i set at_ = lg c wr rs (i + 1) (set.map (mvF at_ (r.getD 2 0) c)) (r.getD 2 0)) ∨
    (sumE at_ (r.getD 2 0) c = 0 ∧ (∀ b ∈ set, VB (mvF at_ (r.getD 2 0) c b)) ∧ isW wr i = false ∧ cutP (bxD r) (set.map (mvF at_ (r.getD 2 0) c)) = [] ∧ lg c wr (r :: rs) i set at_ = (18, [])) ∨
    (sumE at_ (r.getD 2 0) c = 0 ∧ (∀ b ∈ set, VB (mvF at_ (r.getD 2 0) c b)) ∧ isW wr i = false ∧ cutP (bxD r) (set.map (mvF at_ (r.getD 2 0) c)) ≠ [] ∧ lg c wr (r :: rs) i set at_ = lg c wr rs (i + 1) (cutP (bxD r) (set.map (mvF at_ (r.getD 2 0) c))) (r.getD 2 0)) := by
  rw [lg_cons]
  by_cases h1 : sumE at_ (r.getD 2 0) c = 0
  · rw [if_neg (fun k => k h1)]
    by_cases h2 : ∃ b ∈ set, ¬ VB (mvF at_ (r.getD 2 0) c b)
    · rw [if_pos h2]; exact .inr (.inl ⟨h1, h2, rfl⟩)
    · rw [if_neg h2]
      have h2' : ∀ b ∈ set, VB (mvF at_ (r.getD 2 0) c b) := fun b hb => Decidable.byContradiction fun k => h2 ⟨b, hb, k⟩
      cases h3 : isW wr i with
      | true => rw [if_pos rfl]; exact .inr (.inr (.inl ⟨h1, h2', rfl, rfl⟩))
      | false =>
        rw [if_neg (by simp)]
        by_cases h4 : cutP (bxD r) (set.map (mvF at_ (r.getD 2 0) c)) = []
        · rw [if_pos h4]; exact .inr (.inr (.inr (.inl ⟨h1, h2', rfl, h4, rfl⟩)))
        · rw [if_neg h4]; exact .inr (.inr (.inr (.inr ⟨h1, h2', rfl, h4, rfl⟩)))
  · rw [if_pos h1]; exact .inl ⟨h1, rfl⟩
theorem lf_lg (c wr : List (List Int)) : ∀ (rs : List (List Int)) (i : Nat) (set : List (List Int)) (at_ : Int), VL set → (∀ r ∈ rs, RVr r) → lf c wr rs i set at_ = lg c wr rs i set at_
  | [], _, _, _, _, _ => rfl
  | r :: rs, i, set, at_, hv, hr => by
    have hb := bx_is (hr r (by simp))
    rw [lf_cons]
    rcases lg_step c wr r rs i set at_ with ⟨h1, e⟩ | ⟨h1, h2, e⟩ | ⟨h1, h2, h3, e⟩ | ⟨h1, h2, h3, h4, e⟩ | ⟨h1, h2, h3, h4, e⟩
    · have : moveE at_ (r.getD 2 0) set c = sumE at_ (r.getD 2 0) c := by unfold moveE; rw [if_neg (fun k => k hv), if_pos h1]
      rw [e, this, if_pos h1]
    · have : moveE at_ (r.getD 2 0) set c = 3 := by unfold moveE; rw [if_neg (fun k => k hv), if_neg (fun k => k h1), if_pos h2]
      rw [e, this, if_pos (by decide)]
    all_goals
      have hm := moveE_of hv h1 h2
      have hl := (moveE_ok hm).2.2.2
      have hv' : VL (set.map (mvF at_ (r.getD 2 0) c)) := VL_map hv h2
      rw [e, if_neg (fun k => k hm), hl]
    · rw [if_pos h3]
      exact lf_lg c wr rs _ _ _ hv' (fun r hr' => hr r (by simp [hr']))
    · rw [if_neg (by rw [h3]; simp), if_neg (fun k => k hb.1), hb.2.1]
      have : cutE (bxD r) (set.map (mvF at_ (r.getD 2 0) c)) = 4 := by
        rcases cutE_cases (bxD r) (set.map (mvF at_ (r.getD 2 0) c)) with ⟨_, k⟩ | ⟨k, _⟩ | ⟨_, _, _, k, _⟩
        · rcases k with k | k
          · exact absurd hv' k
          · exact absurd hb.2.2 k
        · exact k
        · exact absurd h4 k
      rw [this, if_pos (by decide)]
    · rw [if_neg (by rw [h3]; simp), if_neg (fun k => k hb.1), hb.2.1]
      have : cutE (bxD r) (set.map (mvF at_ (r.getD 2 0) c)) = 0 ∧ cutL (bxD r) (set.map (mvF at_ (r.getD 2 0) c)) = cutP (bxD r) (set.map (mvF at_ (r.getD 2 0) c)) := by
        rcases cutE_cases (bxD r) (set.map (mvF at_ (r.getD 2 0) c)) with ⟨_, k⟩ | ⟨_, _, _, k⟩ | ⟨k1, _, _, _, k2⟩
        · rcases k with k | k
          · exact absurd hv' k
          · exact absurd hb.2.2 k
        · exact absurd k h4
        · exact ⟨k1, k2⟩
      rw [this.1, if_neg (by simp), this.2]
      exact lf_lg c wr rs _ _ _ (vl_cut hv' hb.2.2 h4) (fun r hr' => hr r (by simp [hr']))
theorem lg_vl (c wr : List (List Int)) : ∀ (rs : List (List Int)) (i : Nat) (set : List (List Int)) (at_ : Int), VL set → (∀ r ∈ rs, RVr r) → ((lg c wr rs i set at_).1 = 0 → VL (lg c wr rs i set at_).2) ∧ ((lg c wr rs i set at_).1 ≠ 0 → (lg c wr rs i set at_).2 = [])
  | [], _, _, _, hv, _ => ⟨fun _ => hv, fun h => absurd rfl h⟩
  | r :: rs, i, set, at_, hv, hr => by
    have hb := bx_is (hr r (by simp))
    rcases lg_step c wr r rs i set at_ with ⟨h1, e⟩ | ⟨h1, h2, e⟩ | ⟨h1, h2, h3, e⟩ | ⟨h1, h2, h3, h4, e⟩ | ⟨h1, h2, h3, h4, e⟩
    · rw [e]; exact ⟨fun h => absurd h h1, fun _ => rfl⟩
    · rw [e]; exact ⟨fun h => absurd h (by decide), fun _ => rfl⟩
    · rw [e]; exact lg_vl c wr rs _ _ _ (VL_map hv h2) (fun r hr' => hr r (by simp [hr']))
    · rw [e]; exact ⟨fun h => absurd h (by decide), fun _ => rfl⟩
    · rw [e]; exact lg_vl c wr rs _ _ _ (vl_cut (VL_map hv h2) hb.2.2 h4) (fun r hr' => hr r (by simp [hr']))
/-- The forecast covers all times. -/
def cv (c : List (List Int)) : List (List Int) → Int → Prop
  | [], _ => True
  | r :: rs, at_ => sumE at_ (r.getD 2 0) c = 0 ∧ cv c rs (r.getD 2 0)
theorem lg_cv (c wr : List (List Int)) : ∀ (rs : List (List Int)) (i : Nat) (set : List (List Int)) (at_ : Int), (lg c wr rs i set at_).1 = 0 → cv c rs at_
  | [], _, _, _, _ => trivial
  | r :: rs, i, set, at_, h => by
    rcases lg_step c wr r rs i set at_ with ⟨h1, e⟩ | ⟨h1, h2, e⟩ | ⟨h1, h2, h3, e⟩ | ⟨h1, h2, h3, h4, e⟩ | ⟨h1, h2, h3, h4, e⟩ <;> rw [e] at h
    · exact absurd h h1
    · exact absurd h (by decide)
    · exact ⟨h1, lg_cv c wr rs _ _ _ h⟩
    · exact absurd h (by decide)
    · exact ⟨h1, lg_cv c wr rs _ _ _ h⟩
theorem cv_lg (c wr : List (List Int)) : ∀ (rs : List (List Int)) (i : Nat) (set : List (List Int)) (at_ : Int), cv c rs at_ → (lg c wr rs i set at_).1 = 0 ∨ (lg c wr rs i set at_).1 = 3 ∨ (lg c wr rs i set at_).1 = 18
  | [], _, _, _, _ => .inl rfl
  | r :: rs, i, set, at_, h => by
    rcases lg_step c wr r rs i set at_ with ⟨h1, e⟩ | ⟨h1, h2, e⟩ | ⟨h1, h2, h3, e⟩ | ⟨h1, h2, h3, h4, e⟩ | ⟨h1, h2, h3, h4, e⟩ <;> rw [e]
    · exact absurd h.1 h1
    · exact .inr (.inl rfl)
    · exact cv_lg c wr rs _ _ _ h.2
    · exact .inr (.inr rfl)
    · exact cv_lg c wr rs _ _ _ h.2
/-- All the ways in which it may end. -/
theorem lg_err {c : List (List Int)} (hc : VC c) (wr : List (List Int)) (b0 : Int) : ∀ (rs : List (List Int)) (i : Nat) (set : List (List Int)) (at_ : Int), 0 ≤ at_ → (∀ r ∈ rs, RVr r) → tsB b0 at_ rs = true → (lg c wr rs i set at_).1 = 0 ∨ (lg c wr rs i set at_).1 = 3 ∨ (lg c wr rs i set at_).1 = 4 ∨ (lg c wr rs i set at_).1 = 18
  | [], _, _, _, _, _, _ => .inl rfl
  | r :: rs, i, set, at_, h0, hr, ht => by
    rw [tsB_cons] at ht
    simp only [Bool.and_eq_true, decide_eq_true_eq] at ht
    have hR := hr r (by simp)
    unfold RVr Si.RV at hR
    have hT : VT at_ (r.getD 2 0) := ⟨h0, ht.1.1, hR.2.2.2.1.2⟩
    have rec' := fun i set => lg_err hc wr b0 rs i set (r.getD 2 0) (by omega) (fun r hr' => hr r (by simp [hr'])) ht.2
    rcases lg_step c wr r rs i set at_ with ⟨h1, e⟩ | ⟨h1, h2, e⟩ | ⟨h1, h2, h3, e⟩ | ⟨h1, h2, h3, h4, e⟩ | ⟨h1, h2, h3, h4, e⟩ <;> rw [e]
    · rcases sumE_cases at_ (r.getD 2 0) c with ⟨_, k⟩ | ⟨k, _⟩ | ⟨k, _⟩
      · rcases k with k | k
        · exact absurd hc k
        · exact absurd hT k
      · exact .inr (.inr (.inl k))
      · exact absurd k h1
    · exact .inr (.inl rfl)
    · exact rec' _ _
    · exact .inr (.inr (.inr rfl))
    · exact rec' _ _

/-! ### what a track tells -/
def pX (tr : List (List Int)) (i : Nat) : Int := (tr.getD i []).getD 0 0
def pY (tr : List (List Int)) (i : Nat) : Int := (tr.getD i []).getD 1 0
/-- The report allows a place. -/
def seesP (r : List Int) (x y : Int) : Prop := Si.Sees (r.getD 4 0) (r.getD 5 0) (r.getD 6 0) (r.getD 7 0) (r.getD 8 0) (r.getD 9 0) (r.getD 10 0) (r.getD 11 0) (r.getD 12 0) x x y y
instance (r : List Int) (x y : Int) : Decidable (seesP r x y) := by unfold seesP; infer_instance
def tl (c wr tr : List (List Int)) : List (List Int) → Nat → Int → Prop
  | [], _, _ => True
  | r :: rs, i, at_ => allB at_ (r.getD 2 0) (pX tr i) (pY tr i) (pX tr (i + 1)) (pY tr (i + 1)) c ∧ (isW wr i = false → seesP r (pX tr (i + 1)) (pY tr (i + 1))) ∧ tl c wr tr rs (i + 1) (r.getD 2 0)
theorem hb_mv {at_ t x y z w : Int} {c : List (List Int)} {b : List Int} (h : allB at_ t x y z w c) (hb : HB x y b) : sumE at_ t c = 0 ∧ VP z w ∧ HB z w (mvF at_ t c b) := by
  unfold allB at h
  obtain ⟨h0, h1, h2, h3, h4⟩ := h
  rcases allE_cases at_ t x y z w c with ⟨k, _⟩ | ⟨k, _, k2⟩
  · rw [k] at h0; exact absurd h0 (by decide)
  · rw [k] at h0
    refine ⟨h0, k2, ?_⟩
    have g := mvF_get at_ t c b
    have s2 := sumV_ok h0 2
    have s3 := sumV_ok h0 3
    have s4 := sumV_ok h0 4
    have s5 := sumV_ok h0 5
    unfold lo hi at g
    unfold HB at *
    omega
theorem hb_bx {r : List Int} (hr : RVr r) {x y : Int} (hp : VP x y) (h : seesP r x y) : HB x y (bxD r) := by
  unfold RVr Si.RV at hr
  have := Si.sees_box hr.2.2.2.2.2.1 ((Si.pt_bx x y).1 hp) hr.2.2.2.2.1 h
  unfold HB bxD
  simp only [List.getD_cons_zero, List.getD_cons_succ]
  omega
theorem tl_lg {c wr tr : List (List Int)} : ∀ (rs : List (List Int)) (i : Nat) (set : List (List Int)) (at_ : Int), (∀ r ∈ rs, RVr r) → tl c wr tr rs i at_ → (∃ b ∈ set, HB (pX tr i) (pY tr i) b) →
    (lg c wr rs i set at_).1 = 3 ∨ ((lg c wr rs i set at_).1 = 0 ∧ ∃ b ∈ (lg c wr rs i set at_).2, HB (pX tr (i + rs.length)) (pY tr (i + rs.length)) b)
  | [], i, set, at_, _, _, hb => .inr ⟨rfl, hb⟩
  | r :: rs, i, set, at_, hr, ht, hb => by
    obtain ⟨t1, t2, t3⟩ := ht
    obtain ⟨b, hbm, hb⟩ := hb
    obtain ⟨s1, s2, s3⟩ := hb_mv t1 hb
    have hm : ∃ b ∈ set.map (mvF at_ (r.getD 2 0) c), HB (pX tr (i + 1)) (pY tr (i + 1)) b := ⟨_, List.mem_map.2 ⟨b, hbm, rfl⟩, s3⟩
    have el : i + (r :: rs).length = i + 1 + rs.length := by simp only [List.length_cons]; omega
    rw [el]
    rcases lg_step c wr r rs i set at_ with ⟨h1, e⟩ | ⟨h1, h2, e⟩ | ⟨h1, h2, h3, e⟩ | ⟨h1, h2, h3, h4, e⟩ | ⟨h1, h2, h3, h4, e⟩ <;> rw [e]
    · exact absurd s1 h1
    · exact .inl rfl
    · exact tl_lg rs _ _ _ (fun r hr' => hr r (by simp [hr'])) t3 hm
    · have hx := (in_cut _ _ (bxD r) _).2 ⟨hm, hb_bx (hr r (by simp)) s2 (t2 h3)⟩
      rw [h4] at hx
      obtain ⟨_, k, _⟩ := hx
      cases k
    · exact tl_lg rs _ _ _ (fun r hr' => hr r (by simp [hr'])) t3 ((in_cut _ _ (bxD r) _).2 ⟨hm, hb_bx (hr r (by simp)) s2 (t2 h3)⟩)
theorem tl_cv {c wr tr : List (List Int)} : ∀ (rs : List (List Int)) (i : Nat) (at_ : Int), tl c wr tr rs i at_ → cv c rs at_
  | [], _, _, _ => trivial
  | r :: rs, i, at_, ⟨t1, _, t3⟩ => by
    refine ⟨?_, tl_cv rs _ _ t3⟩
    unfold allB at t1
    rcases allE_cases at_ (r.getD 2 0) (pX tr i) (pY tr i) (pX tr (i + 1)) (pY tr (i + 1)) c with ⟨k, _⟩ | ⟨k, _, _⟩
    · rw [k] at t1; exact absurd t1.1 (by decide)
    · rw [k] at t1; exact t1.1
theorem tl_vp {c wr tr : List (List Int)} : ∀ (rs : List (List Int)) (i : Nat) (at_ : Int), tl c wr tr rs i at_ → VP (pX tr i) (pY tr i) → VP (pX tr (i + rs.length)) (pY tr (i + rs.length))
  | [], _, _, _, h => h
  | r :: rs, i, at_, ⟨t1, _, t3⟩, h => by
    have el : i + (r :: rs).length = i + 1 + rs.length := by simp only [List.length_cons]; omega
    rw [el]
    refine tl_vp rs _ _ t3 ?_
    unfold allB at t1
    rcases allE_cases at_ (r.getD 2 0) (pX tr i) (pY tr i) (pX tr (i + 1)) (pY tr (i + 1)) c with ⟨k, _⟩ | ⟨k, _, k2⟩
    · rw [k] at t1; exact absurd t1.1 (by decide)
    · exact k2
/-- What Check finds. -/
def ck (c wr tr : List (List Int)) : List (List Int) → Nat → Int → Bool → Int × Bool
  | [], _, _, t => (0, t)
  | r :: rs, i, at_, t =>
    if allE at_ (r.getD 2 0) (pX tr i) (pY tr i) (pX tr (i + 1)) (pY tr (i + 1)) c ≠ 0 then (allE at_ (r.getD 2 0) (pX tr i) (pY tr i) (pX tr (i + 1)) (pY tr (i + 1)) c, false)
    else ck c wr tr rs (i + 1) (r.getD 2 0) (t && decide (allB at_ (r.getD 2 0) (pX tr i) (pY tr i) (pX tr (i + 1)) (pY tr (i + 1)) c) && decide (RVr r ∧ Si.Pt (pX tr (i + 1)) (pY tr (i + 1))) && (decide (seesP r (pX tr (i + 1)) (pY tr (i + 1))) || isW wr i))
theorem ck_cons (c wr tr : List (List Int)) (r : List Int) (rs : List (List Int)) (i : Nat) (at_ : Int) (t : Bool) : ck c wr tr (r :: rs) i at_ t =
    if allE at_ (r.getD 2 0) (pX tr i) (pY tr i) (pX tr (i + 1)) (pY tr (i + 1)) c ≠ 0 then (allE at_ (r.getD 2 0) (pX tr i) (pY tr i) (pX tr (i + 1)) (pY tr (i + 1)) c, false)
    else ck c wr tr rs (i + 1) (r.getD 2 0) (t && decide (allB at_ (r.getD 2 0) (pX tr i) (pY tr i) (pX tr (i + 1)) (pY tr (i + 1)) c) && decide (RVr r ∧ Si.Pt (pX tr (i + 1)) (pY tr (i + 1))) && (decide (seesP r (pX tr (i + 1)) (pY tr (i + 1))) || isW wr i)) := rfl
theorem ck_tl {c wr tr : List (List Int)} : ∀ (rs : List (List Int)) (i : Nat) (at_ : Int) (t : Bool), (ck c wr tr rs i at_ t).2 = true → t = true ∧ tl c wr tr rs i at_
  | [], _, _, _, h => ⟨h, trivial⟩
  | r :: rs, i, at_, t, h => by
    rw [ck_cons] at h
    split at h
    · cases h
    · obtain ⟨h1, h2⟩ := ck_tl rs _ _ _ h
      simp only [Bool.and_eq_true, Bool.or_eq_true, decide_eq_true_eq] at h1
      obtain ⟨⟨⟨h3, h4⟩, h5⟩, h6⟩ := h1
      refine ⟨h3, h4, fun hw => ?_, h2⟩
      rcases h6 with h6 | h6
      · exact h6
      · rw [hw] at h6; cases h6
end Go.Proofs.YtnijhjpaplihbaaGreat

/-!
  Package desk: Follow and Check.
-/
set_option linter.unusedVariables false
namespace Go.Proofs.YtnijhjpaplihbaaGreat
open Go Go.Sy

/-! ### Follow -/
noncomputable def fE (f : Int) (base fc rp wr : List (List Int)) : Int :=
  if svE f base fc rp = 1 ∨ wB rp.length (-1) wr = false then 1 else if svE f base fc rp ≠ 0 then svE f base fc rp else (lg fc wr rp 0 base f).1
noncomputable def fL (f : Int) (base fc rp wr : List (List Int)) : List (List Int) :=
  if svE f base fc rp = 0 ∧ wB rp.length (-1) wr = true then (lg fc wr rp 0 base f).2 else []
/-- left, in a story that is looked at. -/
theorem left_gs {f : Int} {base fc rp : List (List Int)} (g : GS f base fc rp) (hf : fc.length ≤ 9223372036854775807) (wr : List (List Int)) (hw : wr.length ≤ 9223372036854775806) :
    desk_story_left_pre f base fc rp wr ∧ desk_story_left_1 f base fc rp wr = (lg fc wr rp 0 base f).1 ∧ desk_story_left_0 f base fc rp wr = (lg fc wr rp 0 base f).2 := by
  obtain ⟨h1, h2, h3⟩ := left_is f base fc rp wr g.vl.2.1 hf g.ln hw
  rw [lf_lg fc wr rp 0 base f g.vl g.rv] at h2 h3
  exact ⟨h1, h2, h3⟩
theorem follow_is (f : Int) (base fc rp wr : List (List Int)) (h13 : Si.El13 rp) (hf : fc.length ≤ 9223372036854775807) (hw : wr.length ≤ 9223372036854775807) :
    desk_Follow_pre f base fc rp wr ∧ desk_Follow_1 f base fc rp wr = fE f base fc rp wr ∧ desk_Follow_0 f base fc rp wr = fL f base fc rp wr := by
  obtain ⟨v1, v2⟩ := sv_is f base fc rp h13 hf
  obtain ⟨w1, w2⟩ := wr_is f base fc rp wr hw
  unfold desk_Follow_pre desk_Follow_1 desk_Follow_0 fE fL
  rw [v2, w2]
  rcases sv_cases f base fc rp with ⟨e, _⟩ | ⟨e, g, _⟩ | ⟨e, g, _⟩ <;> rw [e]
  · exact ⟨⟨v1, fun h => (by cases h), fun h => (by cases h)⟩, rfl, rfl⟩
  · cases hW : wB rp.length (-1) wr with
    | false => exact ⟨⟨v1, fun _ => w1, fun h => (by cases h)⟩, rfl, rfl⟩
    | true => exact ⟨⟨v1, fun _ => w1, fun _ h => (by cases h)⟩, rfl, rfl⟩
  · cases hW : wB rp.length (-1) wr with
    | false => exact ⟨⟨v1, fun _ => w1, fun h => (by cases h)⟩, rfl, rfl⟩
    | true =>
      have hl := wB_len' hW
      have := g.ln
      obtain ⟨l1, l2, l3⟩ := left_gs g hf wr (by omega)
      refine ⟨⟨v1, fun _ => w1, fun _ _ => l1⟩, ?_, ?_⟩
      · exact l2
      · exact l3

/-! ### Check -/
noncomputable def chX (f : Int) (base fc rp wr tr : List (List Int)) : Int × Bool :=
  if svE f base fc rp = 1 ∨ wB rp.length (-1) wr = false ∨ tr.length ≠ rp.length + 1 ∨ ∃ p ∈ tr, ¬ VP (p.getD 0 0) (p.getD 1 0) then (1, false)
  else if svE f base fc rp ≠ 0 then (svE f base fc rp, false)
  else ck fc wr tr rp 0 f (decide (inB (pX tr 0) (pY tr 0) base))
theorem chk_l0 (f : Int) (base fc rp wr tr : List (List Int)) (ht : tr.length ≤ 61) : loopOk (desk_Check_l0_step f base fc rp wr tr) (desk_Check_l0_init f base fc rp wr tr) ∧
    decide ((bif (desk_Check_l0 f base fc rp wr tr).1.beq 1 then gi (desk_Check_l0 f base fc rp wr tr).2 0 else -1) ≥ (0 : Int)) = decide (∃ p ∈ tr, ¬ VP (p.getD 0 0) (p.getD 1 0)) := by
  have key := loop_search (step := desk_Check_l0_step f base fc rp wr tr) tr.length (fun q => !decide (VP ((tr.getD q []).getD 0 0) ((tr.getD q []).getD 1 0))) (fun q => [.i 0, .i q]) (fun q => [.i q]) 0 2 [.i 0, .i tr.length]
    (fun q hq => by
      unfold desk_Check_l0_step
      rw [Si.plane_dec]
      simp only [gi_1, gi_z, dlt hq, guardP_pos (inR_of hq), Int.toNat_natCast, wrap_succ (show q < 4611686018427387904 by omega)]
      rfl)
    (by
      unfold desk_Check_l0_step
      simp only [gi_1, gi_z, dnlt])
  refine ⟨key.1, ?_⟩
  rcases key.2 with ⟨q, q1, q2, q3, q4⟩ | ⟨q3, q4⟩
  · have e : desk_Check_l0 f base fc rp wr tr = (1, [.i q]) := q4
    rw [e, decide_eq_true (show ∃ p ∈ tr, ¬ VP (p.getD 0 0) (p.getD 1 0) from ⟨_, getD_mem q1, by simpa using q2⟩)]
    simp [Nat.beq, gi_z]
  · have e : desk_Check_l0 f base fc rp wr tr = (3, [.i 0, .i tr.length]) := q4
    rw [e, decide_eq_false (show ¬ ∃ p ∈ tr, ¬ VP (p.getD 0 0) (p.getD 1 0) from fun ⟨p, hp, h⟩ => by
      obtain ⟨q, hq, rfl⟩ := getD_of_mem hp
      exact h (by simpa using q3 q hq))]
    simp [Nat.beq]
theorem chk_l2 (f : Int) (base fc rp wr tr : List (List Int)) (hw : wr.length ≤ 9223372036854775806) (y0 : List U) :
    loopOk (desk_Check_l2_step f base fc rp wr tr y0) (desk_Check_l2_init f base fc rp wr tr y0) ∧
    decide ((bif (desk_Check_l2 f base fc rp wr tr y0).1.beq 1 then gi (desk_Check_l2 f base fc rp wr tr y0).2 0 else -1) ≥ (0 : Int)) = isW wr (gi y0 4) := by
  have key := loop_search (step := desk_Check_l2_step f base fc rp wr tr y0) wr.length (fun q => gi y0 4 == (wr.getD q []).getD 0 0) (fun q => [.i 0, .i q]) (fun q => [.i q]) 0 2 [.i 0, .i wr.length]
    (fun q hq => by
      unfold desk_Check_l2_step
      simp only [gi_1, gi_z, dlt hq, guardP_pos (inR_of hq), Int.toNat_natCast, wrap_succ' (show q < 9223372036854775807 by omega)])
    (by
      unfold desk_Check_l2_step
      simp only [gi_1, gi_z, dnlt])
  refine ⟨key.1, ?_⟩
  rcases key.2 with ⟨q, q1, q2, q3, q4⟩ | ⟨q3, q4⟩
  · have e : desk_Check_l2 f base fc rp wr tr y0 = (1, [.i q]) := q4
    rw [e]
    have : isW wr (gi y0 4) = true := any_getD.2 ⟨q, q1, q2⟩
    rw [this]
    simp [Nat.beq, gi_z]
  · have e : desk_Check_l2 f base fc rp wr tr y0 = (3, [.i 0, .i wr.length]) := q4
    rw [e]
    have : isW wr (gi y0 4) = false := by
      rw [Bool.eq_false_iff]
      intro h
      obtain ⟨q, hq, h2⟩ := any_getD.1 h
      rw [q3 q hq] at h2
      cases h2
    rw [this]
    simp [Nat.beq]
theorem chk_l1 {f : Int} {base fc rp wr tr : List (List Int)} (hr : ∀ r ∈ rp, RVr r) (hl : rp.length ≤ 60) (ht : tr.length = rp.length + 1) (hf : fc.length ≤ 9223372036854775807) (hw : wr.length ≤ 9223372036854775806) :
    loopOk (desk_Check_l1_step f base fc rp wr tr) (desk_Check_l1_init f base fc rp wr tr) ∧
    (((desk_Check_l1 f base fc rp wr tr).1 = 1 ∧ ck fc wr tr rp 0 f (decide (inB (pX tr 0) (pY tr 0) base)) = (gi (desk_Check_l1 f base fc rp wr tr).2 0, false) ∧ gi (desk_Check_l1 f base fc rp wr tr).2 0 ≠ 0) ∨
     ((desk_Check_l1 f base fc rp wr tr).1 = 3 ∧ ck fc wr tr rp 0 f (decide (inB (pX tr 0) (pY tr 0) base)) = (0, gb (desk_Check_l1 f base fc rp wr tr).2 2))) := by
  refine loop_for (step := desk_Check_l1_step f base fc rp wr tr) rp.length (fun j xs => ∃ b0 e0 t at_, xs = [.b b0, .i e0, .b t, .i at_, .i (j : Int)] ∧ ck fc wr tr rp 0 f (decide (inB (pX tr 0) (pY tr 0) base)) = ck fc wr tr (rp.drop j) j at_ t)
    (fun res => (res.1 = 1 ∧ ck fc wr tr rp 0 f (decide (inB (pX tr 0) (pY tr 0) base)) = (gi res.2 0, false) ∧ gi res.2 0 ≠ 0) ∨ (res.1 = 3 ∧ ck fc wr tr rp 0 f (decide (inB (pX tr 0) (pY tr 0) base)) = (0, gb res.2 2)))
    (fun j xs hj ⟨b0, e0, t, at_, e, hk⟩ => ?_) (fun xs ⟨b0, e0, t, at_, e, hk⟩ => ?_) (xs := desk_Check_l1_init f base fc rp wr tr) ⟨false, 0, _, f, rfl, ?_⟩
  · subst e
    rw [drop_cons1 hj, ck_cons] at hk
    have hR := hr _ (getD_mem hj)
    have hj1 : (j : Int) + 1 = ((j + 1 : Nat) : Int) := rfl
    have w1 := wrap_succ (show j < 4611686018427387904 by omega)
    obtain ⟨a1, a2, a3⟩ := allows_is at_ ((rp.getD j []).getD 2 0) (pX tr j) (pY tr j) (pX tr (j + 1)) (pY tr (j + 1)) fc hf
    obtain ⟨l1, l2⟩ := chk_l2 f base fc rp wr tr hw [.b b0, .i e0, .b t, .i at_, .i (j : Int)]
    have eg : gi [U.b b0, U.i e0, U.b t, U.i at_, U.i (j : Int)] 4 = (j : Int) := by rw [gi_4, gi_z]
    have eg3 : gi [U.b b0, U.i e0, U.b t, U.i at_, U.i (j : Int)] 3 = at_ := by rw [gi_3, gi_z]
    have e_0 : desk_Check_s0 f base fc rp wr tr [.b b0, .i e0, .b t, .i at_, .i (j : Int)] = allE at_ ((rp.getD j []).getD 2 0) (pX tr j) (pY tr j) (pX tr (j + 1)) (pY tr (j + 1)) fc := by
      unfold desk_Check_s0; rw [eg, eg3, w1, Int.toNat_natCast, Int.toNat_natCast]; exact a2
    have e_1 : desk_Check_s1 f base fc rp wr tr [.b b0, .i e0, .b t, .i at_, .i (j : Int)] = if RVr (rp.getD j []) ∧ Si.Pt (pX tr (j + 1)) (pY tr (j + 1)) then 0 else 1 := by
      unfold desk_Check_s1; rw [eg, w1, Int.toNat_natCast, Int.toNat_natCast]; exact Si.allows_err _ _ _ _ _ _ _ _ _ _ _ _ _ _ _
    unfold desk_Check_l1_step
    rw [l2, e_0, e_1]
    simp only [eg, eg3]
    rw [guardP_pos (fun _ _ => l1)]
    rw [Si.allows_dec]
    simp only [gb_z, gb_2, gb_1, gi_1, gi_z, dlt hj, guardP_pos (inR_of hj), w1, Int.toNat_natCast, guardP_pos (inR_of (show j < tr.length by omega)), guardP_pos (inR_of (show j + 1 < tr.length by omega))]
    have a1' : drift_Allows_pre at_ ((rp.getD j []).getD 2 0) ((tr.getD j []).getD 0 0) ((tr.getD j []).getD 1 0) ((tr.getD (j + 1) []).getD 0 0) ((tr.getD (j + 1) []).getD 1 0) fc := a1
    have a3' : drift_Allows_0 at_ ((rp.getD j []).getD 2 0) ((tr.getD j []).getD 0 0) ((tr.getD j []).getD 1 0) ((tr.getD (j + 1) []).getD 0 0) ((tr.getD (j + 1) []).getD 1 0) fc = _ := a3
    rw [guardP_pos a1', a3']
    by_cases h1 : allE at_ ((rp.getD j []).getD 2 0) (pX tr j) (pY tr j) (pX tr (j + 1)) (pY tr (j + 1)) fc = 0
    · rw [if_neg (fun k => k h1)] at hk
      have b1 : (allE at_ ((rp.getD j []).getD 2 0) (pX tr j) (pY tr j) (pX tr (j + 1)) (pY tr (j + 1)) fc != 0) = false := by rw [bne_eq_false_iff_eq]; exact h1
      rw [b1, cond_false]
      refine .inl ⟨_, rfl, _, _, _, _, rfl, ?_⟩
      rw [hk]
      congr 1
      by_cases h5 : RVr (rp.getD j []) ∧ Si.Pt (pX tr (j + 1)) (pY tr (j + 1))
      · rw [if_pos h5, decide_eq_true h5]
        have : decide (Si.RV ((rp.getD j []).getD 0 0) ((rp.getD j []).getD 1 0) ((rp.getD j []).getD 2 0) ((rp.getD j []).getD 3 0) ((rp.getD j []).getD 4 0) ((rp.getD j []).getD 5 0) ((rp.getD j []).getD 6 0) ((rp.getD j []).getD 7 0) ((rp.getD j []).getD 8 0) ((rp.getD j []).getD 9 0) ((rp.getD j []).getD 10 0) ((rp.getD j []).getD 11 0) ((rp.getD j []).getD 12 0) ∧ Si.Pt ((tr.getD (j + 1) []).getD 0 0) ((tr.getD (j + 1) []).getD 1 0) ∧ Si.Sees ((rp.getD j []).getD 4 0) ((rp.getD j []).getD 5 0) ((rp.getD j []).getD 6 0) ((rp.getD j []).getD 7 0) ((rp.getD j []).getD 8 0) ((rp.getD j []).getD 9 0) ((rp.getD j []).getD 10 0) ((rp.getD j []).getD 11 0) ((rp.getD j []).getD 12 0) ((tr.getD (j + 1) []).getD 0 0) ((tr.getD (j + 1) []).getD 0 0) ((tr.getD (j + 1) []).getD 1 0) ((tr.getD (j + 1) []).getD 1 0)) = decide (seesP (rp.getD j []) (pX tr (j + 1)) (pY tr (j + 1))) := by
          rw [decide_eq_decide]
          exact ⟨fun k => k.2.2, fun k => ⟨h5.1, h5.2, k⟩⟩
        rw [this]
        rfl
      · rw [if_neg h5, decide_eq_false h5]
        simp
    · rw [if_pos h1] at hk
      have b1 : (allE at_ ((rp.getD j []).getD 2 0) (pX tr j) (pY tr j) (pX tr (j + 1)) (pY tr (j + 1)) fc != 0) = true := by rw [bne_iff_ne]; exact h1
      rw [b1, cond_true]
      exact .inr ⟨0, _, rfl, .inl ⟨rfl, by rw [hk, gi_z], by rw [gi_z]; exact h1⟩⟩
  · subst e
    refine ⟨2, [.b b0, .i e0, .b t, .i at_, .i rp.length], ?_, .inr ⟨rfl, ?_⟩⟩
    · unfold desk_Check_l1_step
      simp only [gb_z, gb_2, gb_1, gi_4, gi_3, gi_1, gi_z, dnlt]
    · rw [hk, List.drop_length, gb_2, gb_z]
      rfl
  · rw [(in_is _ _ base).2.2]
    rfl
theorem ck_bool {c wr tr : List (List Int)} : ∀ (rs : List (List Int)) (i : Nat) (at_ : Int) (t : Bool), (ck c wr tr rs i at_ t).1 ≠ 0 → (ck c wr tr rs i at_ t).2 = false
  | [], _, _, _, h => absurd rfl h
  | r :: rs, i, at_, t, h => by
    rw [ck_cons] at h ⊢
    split
    · rfl
    · rename_i h1
      rw [if_neg h1] at h
      exact ck_bool rs _ _ _ h
theorem check_is (f : Int) (base fc rp wr tr : List (List Int)) (h13 : Si.El13 rp) (hf : fc.length ≤ 9223372036854775807) (hw : wr.length ≤ 9223372036854775807) :
    desk_Check_pre f base fc rp wr tr ∧ desk_Check_1 f base fc rp wr tr = (chX f base fc rp wr tr).1 ∧ desk_Check_0 f base fc rp wr tr = (chX f base fc rp wr tr).2 := by
  obtain ⟨v1, v2⟩ := sv_is f base fc rp h13 hf
  obtain ⟨w1, w2⟩ := wr_is f base fc rp wr hw
  unfold desk_Check_pre desk_Check_1 desk_Check_0 desk_Check_s3 desk_Check_s2 chX
  rw [v2, w2]
  have main : ∀ e : Int, GS f base fc rp → (e = 5 ∨ e = 0) →
      (((e == (1 : Int)) = false → desk_story_wrongs_pre f base fc rp wr) ∧
      ((e == (1 : Int) || !wB rp.length (-1) wr || (tr.length : Int) != IntKind.i64.wrap ((rp.length : Int) + 1)) = false → loopOk (desk_Check_l0_step f base fc rp wr tr) (desk_Check_l0_init f base fc rp wr tr)) ∧
      ((e == (1 : Int) || !wB rp.length (-1) wr || (tr.length : Int) != IntKind.i64.wrap ((rp.length : Int) + 1) || decide ((bif (desk_Check_l0 f base fc rp wr tr).1.beq 1 then gi (desk_Check_l0 f base fc rp wr tr).2 0 else -1) ≥ (0 : Int))) = false →
        (e != (0 : Int)) = false → inR 0 tr ∧ inR 0 tr ∧ drift_In_pre ((tr.getD (Int.toNat 0) []).getD 0 0) ((tr.getD (Int.toNat 0) []).getD 1 0) base ∧
          ((drift_In_1 ((tr.getD (Int.toNat 0) []).getD 0 0) ((tr.getD (Int.toNat 0) []).getD 1 0) base != (0 : Int)) = false → loopOk (desk_Check_l1_step f base fc rp wr tr) (desk_Check_l1_init f base fc rp wr tr)))) ∧
      (bif e == (1 : Int) || !wB rp.length (-1) wr || (tr.length : Int) != IntKind.i64.wrap ((rp.length : Int) + 1) || decide ((bif (desk_Check_l0 f base fc rp wr tr).1.beq 1 then gi (desk_Check_l0 f base fc rp wr tr).2 0 else -1) ≥ (0 : Int)) then (1 : Int)
        else bif e != (0 : Int) then e else bif drift_In_1 ((tr.getD (Int.toNat 0) []).getD 0 0) ((tr.getD (Int.toNat 0) []).getD 1 0) base != (0 : Int) then drift_In_1 ((tr.getD (Int.toNat 0) []).getD 0 0) ((tr.getD (Int.toNat 0) []).getD 1 0) base
          else bif (desk_Check_l1 f base fc rp wr tr).1.beq 1 then gi (desk_Check_l1 f base fc rp wr tr).2 0 else 0) =
        (if e = 1 ∨ wB rp.length (-1) wr = false ∨ tr.length ≠ rp.length + 1 ∨ ∃ p ∈ tr, ¬ VP (p.getD 0 0) (p.getD 1 0) then (1, false) else if e ≠ 0 then (e, false) else ck fc wr tr rp 0 f (decide (inB (pX tr 0) (pY tr 0) base))).1 ∧
      (bif e == (1 : Int) || !wB rp.length (-1) wr || (tr.length : Int) != IntKind.i64.wrap ((rp.length : Int) + 1) || decide ((bif (desk_Check_l0 f base fc rp wr tr).1.beq 1 then gi (desk_Check_l0 f base fc rp wr tr).2 0 else -1) ≥ (0 : Int)) then false
        else bif e != (0 : Int) then false else bif drift_In_1 ((tr.getD (Int.toNat 0) []).getD 0 0) ((tr.getD (Int.toNat 0) []).getD 1 0) base != (0 : Int) then false
          else bif (desk_Check_l1 f base fc rp wr tr).1.beq 1 then false else gb (desk_Check_l1 f base fc rp wr tr).2 2) =
        (if e = 1 ∨ wB rp.length (-1) wr = false ∨ tr.length ≠ rp.length + 1 ∨ ∃ p ∈ tr, ¬ VP (p.getD 0 0) (p.getD 1 0) then (1, false) else if e ≠ 0 then (e, false) else ck fc wr tr rp 0 f (decide (inB (pX tr 0) (pY tr 0) base))).2 := fun e g he => by
    have hl := g.ln
    have wl : IntKind.i64.wrap ((rp.length : Int) + 1) = ((rp.length + 1 : Nat) : Int) := wrap_succ (by omega)
    have e1 : (e == (1 : Int)) = false := by rcases he with rfl | rfl <;> rfl
    have e1' : ¬ e = 1 := by rcases he with rfl | rfl <;> decide
    rw [wl, e1, Bool.false_or]
    cases hW : wB rp.length (-1) wr with
    | false =>
      rw [if_pos (.inr (.inl rfl))]
      exact ⟨⟨fun _ => w1, fun h => (by cases h), fun h => (by cases h)⟩, rfl, rfl⟩
    | true =>
      have hwl : wr.length ≤ 9223372036854775806 := by have := wB_len' hW; omega
      rw [Bool.not_true, Bool.false_or]
      by_cases ht : tr.length = rp.length + 1
      · have b1 : ((tr.length : Int) != ((rp.length + 1 : Nat) : Int)) = false := by rw [bne_eq_false_iff_eq, ht]
        obtain ⟨l1, l2⟩ := chk_l0 f base fc rp wr tr (by omega)
        rw [b1, Bool.false_or, l2]
        by_cases hp : ∃ p ∈ tr, ¬ VP (p.getD 0 0) (p.getD 1 0)
        · rw [if_pos (.inr (.inr (.inr hp))), decide_eq_true hp]
          exact ⟨⟨fun _ => w1, fun _ => l1, fun h => (by cases h)⟩, rfl, rfl⟩
        · rw [if_neg (fun k => by
          rcases k with k | k | k | k
          · exact e1' k
          · cases k
          · exact k ht
          · exact hp k), decide_eq_false hp, cond_false, cond_false]
          rcases he with rfl | rfl
          · exact ⟨⟨fun _ => w1, fun _ => l1, fun _ h => (by cases h)⟩, rfl, rfl⟩
          · have hr0 : inR (0 : Int) tr := by unfold inR; omega
            obtain ⟨c1, c2⟩ := chk_l1 (base := base) (f := f) g.rv hl ht hf hwl
            obtain ⟨i1, i2, i3⟩ := in_is (pX tr 0) (pY tr 0) base
            have i4 : inE (pX tr 0) (pY tr 0) base = 0 := by
              unfold inE
              rw [if_neg]
              rintro (k | k)
              · exact k g.vl
              · exact hp ⟨_, getD_mem (show 0 < tr.length by omega), k⟩
            have i2' : drift_In_1 ((tr.getD (Int.toNat 0) []).getD 0 0) ((tr.getD (Int.toNat 0) []).getD 1 0) base = 0 := i2.trans i4
            rw [i2']
            refine ⟨⟨fun _ => w1, fun _ => l1, fun _ _ => ⟨hr0, hr0, i1, fun _ => c1⟩⟩, ?_⟩
            rcases c2 with ⟨k1, k2, k3⟩ | ⟨k1, k2⟩
            · rw [k1, if_neg (by simp), k2]; exact ⟨rfl, rfl⟩
            · rw [k1, if_neg (by simp), k2]; exact ⟨rfl, rfl⟩
      · have b1 : ((tr.length : Int) != ((rp.length + 1 : Nat) : Int)) = true := by rw [bne_iff_ne]; omega
        rw [b1, Bool.true_or, if_pos (.inr (.inr (.inl ht)))]
        exact ⟨⟨fun _ => w1, fun h => (by cases h), fun h => (by cases h)⟩, rfl, rfl⟩
  rcases sv_cases f base fc rp with ⟨e, _⟩ | ⟨e, g, _⟩ | ⟨e, g, _⟩ <;> rw [e]
  · rw [if_pos (.inl rfl)]
    exact ⟨⟨v1, fun h => (by cases h), fun h => (by cases h), fun h => (by cases h)⟩, rfl, rfl⟩
  · obtain ⟨m1, m2, m3⟩ := main 5 g (.inl rfl)
    exact ⟨⟨v1, m1⟩, m2, m3⟩
  · obtain ⟨m1, m2, m3⟩ := main 0 g (.inr rfl)
    exact ⟨⟨v1, m1⟩, m2, m3⟩
/-- What it means that a track tells a story. -/
structure Told (f : Int) (base fc rp wr tr : List (List Int)) : Prop where
  sv : svE f base fc rp = 0
  gs : GS f base fc rp
  wb : wB rp.length (-1) wr = true
  tn : tr.length = rp.length + 1
  p0 : ∃ b ∈ base, HB (pX tr 0) (pY tr 0) b
  v0 : VP (pX tr 0) (pY tr 0)
  tl : tl fc wr tr rp 0 f
theorem told_of {f : Int} {base fc rp wr tr : List (List Int)} (h : (chX f base fc rp wr tr).2 = true) : Told f base fc rp wr tr := by
  unfold chX at h
  split at h
  · cases h
  · rename_i h1
    split at h
    · cases h
    · rename_i h2
      have h2' : svE f base fc rp = 0 := Decidable.byContradiction h2
      obtain ⟨h3, h4⟩ := ck_tl _ _ _ _ h
      rw [decide_eq_true_eq] at h3
      have g : GS f base fc rp := by
        rcases sv_cases f base fc rp with ⟨e, _⟩ | ⟨e, g, _⟩ | ⟨e, g, _⟩
        · rw [e] at h2'; cases h2'
        · exact g
        · exact g
      unfold inB at h3
      refine ⟨h2', g, ?_, ?_, h3.2, ?_, h4⟩
      · cases hw : wB rp.length (-1) wr with
        | true => rfl
        | false => exact absurd (.inr (.inl hw)) h1
      · exact Decidable.byContradiction fun k => h1 (.inr (.inr (.inl k)))
      · rcases inE_cases (pX tr 0) (pY tr 0) base with ⟨k, _⟩ | ⟨_, _, k⟩
        · rw [k] at h3; exact absurd h3.1 (by decide)
        · exact k
end Go.Proofs.YtnijhjpaplihbaaGreat
