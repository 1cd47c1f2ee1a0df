/-
  DeskWhere, as far as what the functions compute.
-/
import Derived.Test.YtnijhjpaplihbaaDeskI
set_option linter.unusedVariables false
set_option maxRecDepth 100000
set_option linter.unusedSimpArgs false
set_option linter.unusedSectionVars false
namespace Go.Proofs.Ytnijhjpaplihbaa
open Go Go.Sy

theorem wb_trans {a b c : List Int} (h1 : WB a b) (h2 : WB b c) : WB a c := by unfold WB at *; omega
theorem wb_hul (a b : List Int) : WB a (hul a b) ∧ WB b (hul a b) := by
  unfold WB hul
  simp only [List.getD_cons_zero, List.getD_cons_succ]
  omega
theorem hul_wb {a b c : List Int} (h1 : WB a c) (h2 : WB b c) : WB (hul a b) c := by
  unfold WB hul at *
  simp only [List.getD_cons_zero, List.getD_cons_succ]
  omega
theorem fold_ge : ∀ (L : List (List Int)) (a : List Int), WB a (L.foldl hul a) ∧ ∀ x ∈ L, WB x (L.foldl hul a)
  | [], a => ⟨by unfold WB; simp, fun x hx => by cases hx⟩
  | y :: L, a => by
    obtain ⟨h1, h2⟩ := fold_ge L (hul a y)
    refine ⟨wb_trans (wb_hul a y).1 h1, fun x hx => ?_⟩
    rcases List.mem_cons.1 hx with rfl | hx
    · exact wb_trans (wb_hul a x).2 h1
    · exact h2 x hx
theorem fold_le : ∀ (L : List (List Int)) (a c : List Int), WB a c → (∀ x ∈ L, WB x c) → WB (L.foldl hul a) c
  | [], _, _, h, _ => h
  | y :: L, a, c, h, hL => fold_le L (hul a y) c (hul_wb h (hL y (by simp))) (fun x hx => hL x (by simp [hx]))
theorem wb_q4 (b : List Int) : WB b (q4 b) ∧ WB (q4 b) b := by unfold WB q4; simp
theorem hull_ge {L : List (List Int)} {x : List Int} (h : x ∈ L) : WB x (hull L) := by
  cases L with
  | nil => cases h
  | cons b L =>
    obtain ⟨h1, h2⟩ := fold_ge L (q4 b)
    rcases List.mem_cons.1 h with rfl | h
    · exact wb_trans (wb_q4 _).1 h1
    · exact h2 x h
theorem hull_le {L : List (List Int)} {c : List Int} (hn : L ≠ []) (h : ∀ x ∈ L, WB x c) : WB (hull L) c := by
  cases L with
  | nil => exact absurd rfl hn
  | cons b L => exact fold_le L (q4 b) c (wb_trans (wb_q4 b).2 (h b (by simp))) (fun x hx => h x (by simp [hx]))
theorem hb_wb {x y : Int} {a b : List Int} (h : HB x y a) (hw : WB a b) : HB x y b := by unfold HB WB at *; omega
section
variable {f most : Int} {base fc rp wr tr : List (List Int)} (h13 : Si.El13 rp) (hf : fc.length ≤ 9223372036854775807)
include h13 hf
theorem wh_told (T : Told f base fc rp wr tr) (hn : rp.length ≤ 12) (h1 : ∀ e ∈ wr, e.length = 1) (m0 : 0 ≤ most) (m3 : most ≤ 3) (hl : (wr.length : Int) ≤ most) :
    (desk_Where_4 f most base fc rp = 0 ∧ law25_in_0 (desk_Where_0 f most base fc rp) (desk_Where_1 f most base fc rp) (desk_Where_2 f most base fc rp) (desk_Where_3 f most base fc rp) (pX tr rp.length) (pY tr rp.length) = true) ∨ desk_Where_4 f most base fc rp = 3 := by
  have ha : askE f most base fc rp = 0 := ask_of T.sv m0 m3 hn
  have hin : wr ∈ alls rp.length (most.toNat + 1) := in_alls h1 T.wb (by omega)
  rcases (where_is f most base fc rp h13 hf).2 with ⟨k, _⟩ | ⟨_, w, k1, k2, k3⟩ | ⟨_, k1, k2, _⟩ | ⟨_, k1, k2, k3, k4, k5, k6, k7⟩
  · exact absurd ha k
  · right
    rw [k3]
    rcases cv_lg fc w rp 0 base f (tl_cv rp 0 f T.tl) with k | k | k
    · exact absurd (.inl k) k2
    · exact k
    · exact absurd (.inr k) k2
  all_goals
    have hok := k1 wr hin
    rcases told_in T with k | ⟨k, _, _, b, hb, hB⟩
    · have k' : (lw f base fc rp wr).1 = 3 := k
      rw [k'] at hok
      exact absurd hok (by decide)
    have hm : b ∈ (alls rp.length (most.toNat + 1)).flatMap fun w => (lw f base fc rp w).2 := List.mem_flatMap.2 ⟨wr, hin, hb⟩
  · rw [k2] at hm; cases hm
  · have hH := hb_wb hB (hull_ge hm)
    refine .inl ⟨k3, ?_⟩
    rw [k4, k5, k6, k7]
    unfold HB at hH
    unfold law25_in_0
    rw [decide_eq_true hH.1, decide_eq_true hH.2.1, decide_eq_true hH.2.2.1, decide_eq_true hH.2.2.2]
    rfl
theorem wh_more (hw : desk_Where_4 f most base fc rp = 0) (hw' : desk_Where_4 f (IntKind.i64.wrap (most + 1)) base fc rp = 0) :
    desk_Where_0 f (IntKind.i64.wrap (most + 1)) base fc rp ≤ desk_Where_0 f most base fc rp ∧ desk_Where_1 f most base fc rp ≤ desk_Where_1 f (IntKind.i64.wrap (most + 1)) base fc rp ∧ desk_Where_2 f (IntKind.i64.wrap (most + 1)) base fc rp ≤ desk_Where_2 f most base fc rp ∧ desk_Where_3 f most base fc rp ≤ desk_Where_3 f (IntKind.i64.wrap (most + 1)) base fc rp := by
  have good : ∀ n, desk_Where_4 f n base fc rp = 0 → askE f n base fc rp = 0 ∧ ((alls rp.length (n.toNat + 1)).flatMap fun w => (lw f base fc rp w).2) ≠ [] ∧
       desk_Where_0 f n base fc rp = (hull ((alls rp.length (n.toNat + 1)).flatMap fun w => (lw f base fc rp w).2)).getD 0 0 ∧ desk_Where_1 f n base fc rp = (hull ((alls rp.length (n.toNat + 1)).flatMap fun w => (lw f base fc rp w).2)).getD 1 0 ∧
       desk_Where_2 f n base fc rp = (hull ((alls rp.length (n.toNat + 1)).flatMap fun w => (lw f base fc rp w).2)).getD 2 0 ∧ desk_Where_3 f n base fc rp = (hull ((alls rp.length (n.toNat + 1)).flatMap fun w => (lw f base fc rp w).2)).getD 3 0 := fun n hn => by
    rcases (where_is f n base fc rp h13 hf).2 with ⟨k, k'⟩ | ⟨_, w, k1, k2, k3⟩ | ⟨_, k1, k2, k3⟩ | ⟨k0, k1, k2, k3, k4, k5, k6, k7⟩
    · rw [hn] at k'; exact absurd k'.symm k
    · rw [hn] at k3; exact absurd (.inl k3.symm) k2
    · rw [hn] at k3; cases k3
    · exact ⟨k0, k2, k4, k5, k6, k7⟩
  obtain ⟨a0, a1, a2, a3, a4, a5⟩ := good most hw
  obtain ⟨_, _, m0, m3, _⟩ := ask_ok a0
  have ew : IntKind.i64.wrap (most + 1) = most + 1 := i64_wrap (by omega)
  rw [ew] at hw' ⊢
  obtain ⟨b0, b1, b2, b3, b4, b5⟩ := good (most + 1) hw'
  have hsub : WB (hull ((alls rp.length (most.toNat + 1)).flatMap fun w => (lw f base fc rp w).2)) (hull ((alls rp.length ((most + 1).toNat + 1)).flatMap fun w => (lw f base fc rp w).2)) := by
    refine hull_le a1 fun x hx => hull_ge ?_
    obtain ⟨w, hw, hx⟩ := List.mem_flatMap.1 hx
    refine List.mem_flatMap.2 ⟨w, ?_, hx⟩
    obtain ⟨s, hs, hd⟩ := mem_alls.1 hw
    exact mem_alls.2 ⟨s, by omega, hd⟩
  rw [a2, a3, a4, a5, b2, b3, b4, b5]
  unfold WB at hsub
  exact hsub
end
theorem deskWhere_ok (f most : Int) (base fc rp wr tr : List (List Int)) (h13 : Si.El13 rp) (hf : fc.length ≤ 9223372036854775807) (hw : wr.length ≤ 9223372036854775807) (h1 : ∀ e ∈ wr, e.length = 1) :
    law25_DeskWhere_0 f most base fc rp wr tr = true ∧ law25_DeskWhere_pre f most base fc rp wr tr := by
  obtain ⟨hh, hp⟩ := head_ok
  have wp := (where_is f most base fc rp h13 hf).1
  have wp' := (where_is f (IntKind.i64.wrap (most + 1)) base fc rp h13 hf).1
  obtain ⟨c1, c2, c3⟩ := check_is f base fc rp wr tr h13 hf hw
  have hm := wh_more (f := f) (most := most) (base := base) h13 hf
  unfold law25_DeskWhere_0 law25_DeskWhere_pre law25_few_0
  rw [hh, c2, c3]
  by_cases hn : rp.length ≤ 8
  · have n0 : decide ((rp.length : Int) ≤ 8) = true := by rw [decide_eq_true_eq]; omega
    rw [n0, Bool.not_true, cond_false]
    have hX : ((chX f base fc rp wr tr).1 != 0 || !(chX f base fc rp wr tr).2 || (tr.length : Int) == 0 || decide (most < 0) || decide (most > 3) || decide ((wr.length : Int) > most)) = true ∨
        (inR (IntKind.i64.wrap ((tr.length : Int) - 1)) tr ∧ ((desk_Where_4 f most base fc rp = 0 ∧ law25_in_0 (desk_Where_0 f most base fc rp) (desk_Where_1 f most base fc rp) (desk_Where_2 f most base fc rp) (desk_Where_3 f most base fc rp) ((tr.getD (IntKind.i64.wrap ((tr.length : Int) - 1)).toNat []).getD 0 0) ((tr.getD (IntKind.i64.wrap ((tr.length : Int) - 1)).toNat []).getD 1 0) = true) ∨ desk_Where_4 f most base fc rp = 3)) := by
      cases hc : ((chX f base fc rp wr tr).1 != 0 || !(chX f base fc rp wr tr).2 || (tr.length : Int) == 0 || decide (most < 0) || decide (most > 3) || decide ((wr.length : Int) > most)) with
      | true => exact .inl rfl
      | false =>
        simp only [Bool.or_eq_false_iff, decide_eq_false_iff_not, Bool.not_eq_false'] at hc
        obtain ⟨⟨⟨⟨⟨k1, k2⟩, k3⟩, k4⟩, k5⟩, k6⟩ := hc
        have T := told_of k2
        have li := last_ix T.tn T.gs.ln
        rw [li, Int.toNat_natCast]
        exact .inr ⟨inR_of (by have := T.tn; omega), wh_told h13 hf T (by omega) h1 (by omega) (by omega) (by omega)⟩
    revert hX
    generalize ((chX f base fc rp wr tr).1 != 0 || !(chX f base fc rp wr tr).2 || (tr.length : Int) == 0 || decide (most < 0) || decide (most > 3) || decide ((wr.length : Int) > most)) = C
    intro hX
    cases hB : (desk_Where_4 f most base fc rp == 0 && desk_Where_4 f (IntKind.i64.wrap (most + 1)) base fc rp == 0) with
    | true =>
      rw [Bool.and_eq_true, beq_iff_eq, beq_iff_eq] at hB
      obtain ⟨x0, x1, x2, x3⟩ := hm hB.1 hB.2
      rw [cond_true, decide_eq_true x0, decide_eq_true x1, decide_eq_true x2, decide_eq_true x3, hB.1]
      rcases hX with rfl | ⟨k1, k2⟩
      · exact ⟨rfl, hp, fun _ => ⟨wp, wp', fun _ => ⟨c1, fun k => (by cases k)⟩, fun k => (by cases k)⟩⟩
      · refine ⟨?_, hp, fun _ => ⟨wp, wp', fun _ => ⟨c1, fun _ => ⟨fun _ _ => k1, fun _ _ => k1⟩⟩, fun k => (by cases k)⟩⟩
        rcases k2 with ⟨_, k2⟩ | k2
        · rw [k2]; cases C <;> rfl
        · rw [hB.1] at k2; cases k2
    | false =>
      rw [cond_false]
      rcases hX with rfl | ⟨k1, k2⟩
      · exact ⟨rfl, hp, fun _ => ⟨wp, wp', fun k => (by cases k), fun _ => ⟨c1, fun k => (by cases k)⟩⟩⟩
      · refine ⟨?_, hp, fun _ => ⟨wp, wp', fun k => (by cases k), fun _ => ⟨c1, fun _ => ⟨fun _ _ => k1, fun _ _ => k1⟩⟩⟩⟩
        rcases k2 with ⟨k2, k3⟩ | k2
        · rw [k3, k2]; cases C <;> rfl
        · rw [k2]; cases C
          · simp
          · rfl
  · have n0 : decide ((rp.length : Int) ≤ 8) = false := by rw [decide_eq_false_iff_not]; omega
    rw [n0]
    exact ⟨rfl, hp, fun h => (by cases h)⟩
end Go.Proofs.Ytnijhjpaplihbaa
