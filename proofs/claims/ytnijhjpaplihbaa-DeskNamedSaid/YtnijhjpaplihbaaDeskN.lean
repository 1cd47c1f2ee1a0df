/-
  DeskNamed, as far as what the functions compute.
-/
import Derived.Test.YtnijhjpaplihbaaDeskI
set_option linter.unusedVariables false
set_option maxRecDepth 100000
set_option linter.unusedSimpArgs false
set_option linter.unusedSectionVars false
namespace Go.Proofs.Ytnijhjpaplihbaa
open Go Go.Sy

theorem fold_nm {f : Int} {base fc rp : List (List Int)} : ∀ (D : List (List (List Int))) (out : List (List Int)) (e : List Int), e ∈ D.foldl (nmF f base fc rp) out → e ∈ out ∧ ∀ W ∈ D, (lw f base fc rp W).1 = 0 → kp W e = true
  | [], out, e, h => ⟨h, fun W hW => by cases hW⟩
  | W :: D, out, e, h => by
    obtain ⟨h1, h2⟩ := fold_nm D (nmF f base fc rp out W) e h
    unfold nmF at h1
    by_cases h0 : (lw f base fc rp W).1 = 0
    · rw [if_pos h0] at h1
      obtain ⟨k1, k2⟩ := List.mem_filter.1 h1
      refine ⟨k1, fun X hX hx => ?_⟩
      rcases List.mem_cons.1 hX with rfl | hX
      · exact k2
      · exact h2 X hX hx
    · rw [if_neg h0] at h1
      refine ⟨h1, fun X hX hx => ?_⟩
      rcases List.mem_cons.1 hX with rfl | hX
      · exact absurd hx h0
      · exact h2 X hX hx
theorem isW_mem {l : List (List Int)} {e : List Int} (h : e ∈ l) : isW l (e.getD 0 0) = true := by
  unfold isW
  exact List.any_eq_true.2 ⟨e, h, by simp⟩
theorem deskNamed_ok (f most : Int) (base fc rp wr tr : List (List Int)) (h13 : Si.El13 rp) (hf : fc.length ≤ 9223372036854775807) (hw : wr.length ≤ 9223372036854775807) (h1 : ∀ e ∈ wr, e.length = 1) :
    law25_DeskNamed_0 f most base fc rp wr tr = true ∧ law25_DeskNamed_pre f most base fc rp wr tr := by
  obtain ⟨hh, hp⟩ := head_ok
  obtain ⟨e1, e2, e3, e4⟩ := explain_is f most base fc rp h13 hf
  have e2' : desk_Explain_0 f most base fc rp = (exR f most base fc rp).1 := e2
  have e4' : desk_Explain_2 f most base fc rp = (exR f most base fc rp).2.2 := e4
  have e1' : desk_Explain_pre f most base fc rp := e1
  obtain ⟨c1, c2, c3⟩ := check_is f base fc rp wr tr h13 hf hw
  obtain ⟨n1, n2⟩ := named_is f most base fc rp h13 hf
  unfold law25_DeskNamed_0 law25_DeskNamed_pre law25_few_0
  rw [hh, e4']
  by_cases hn : rp.length ≤ 8
  · have n0 : decide ((rp.length : Int) ≤ 8) = true := by rw [decide_eq_true_eq]; omega
    rw [n0, Bool.not_true, cond_false]
    rcases n2 with ⟨k1, k2, k3⟩ | ⟨k1, ⟨w, k2, k3, k4⟩, k5⟩ | ⟨k1, k2, k3, k4⟩
    · have b : ((exR f most base fc rp).2.2 != 0) = true := by rw [bne_iff_ne]; exact k1
      rw [b, k2, k3]
      refine ⟨by simp, hp, fun _ => ⟨e1', n1, c1, fun k => (by cases k)⟩⟩
    · obtain ⟨_, _, _, h0, _⟩ := ex_ok k1
      have h3 : (lw f base fc rp w).1 = 3 := by
        rcases cv_lg fc w rp 0 base f (lg_cv fc (exR f most base fc rp).1 rp 0 base f h0) with k | k | k
        · exact absurd (.inl k) k3
        · exact k
        · exact absurd (.inr k) k3
      rw [k1, k4, h3, k5]
      exact ⟨rfl, hp, fun _ => ⟨e1', n1, c1, fun _ k => (by cases k)⟩⟩
    · obtain ⟨ha, hm, hF, h0, hL⟩ := ex_ok k1
      obtain ⟨sv, g, m0, m3, hl⟩ := ask_ok ha
      obtain ⟨o1, o2, _⟩ := alls_one hm
      have hlen : (desk_Named_0 f most base fc rp).length ≤ 9223372036854775807 := by
        have hsub : ∀ (D : List (List (List Int))) (out : List (List Int)), (D.foldl (nmF f base fc rp) out).length ≤ out.length := fun D => by
          induction D with
          | nil => exact fun out => Nat.le_refl _
          | cons W D ih =>
            intro out
            refine Nat.le_trans (ih _) ?_
            unfold nmF
            split
            · exact List.length_filter_le _ _
            · exact Nat.le_refl _
        have := hsub (dsets rp.length ((exR f most base fc rp).1.length : Int)) (exR f most base fc rp).1
        rw [k4]
        omega
      -- each named one
      have each : ∀ i, i < (desk_Named_0 f most base fc rp).length → isW (exR f most base fc rp).1 (((desk_Named_0 f most base fc rp).getD i []).getD 0 0) = true ∧ (((chX f base fc rp wr tr).1 == 0 && (chX f base fc rp wr tr).2 && (wr.length : Int) == ((exR f most base fc rp).1.length : Int)) = true → isW wr (((desk_Named_0 f most base fc rp).getD i []).getD 0 0) = true) := fun i hi => by
        have hmem := getD_mem hi
        rw [k4] at hmem
        obtain ⟨q1, q2⟩ := fold_nm _ _ _ hmem
        rw [← k4] at q1 q2
        refine ⟨isW_mem q1, fun hc => ?_⟩
        simp only [Bool.and_eq_true, beq_iff_eq] at hc
        obtain ⟨⟨_, kt⟩, kl⟩ := hc
        have T := told_of kt
        have hd : wr ∈ dsets rp.length ((exR f most base fc rp).1.length : Int) := by
          rw [← kl]; exact wB_dsets h1 T.wb
        refine q2 wr hd ?_
        have hok := k2 wr hd
        rcases told_in T with k | ⟨k, _⟩
        · have k' : (lw f base fc rp wr).1 = 3 := k
          rw [k'] at hok
          exact absurd hok (by decide)
        · exact k
      have hle : (exR f most base fc rp).1.length ≤ 9223372036854775807 := by omega
      rw [k1, k3]
      have key := loop_for (step := law25_DeskNamed_l0_step f most base fc rp wr tr) (desk_Named_0 f most base fc rp).length (fun j xs => xs = [.b true, .i (j : Int)]) (fun res => gb res.2 0 = true)
        (fun j xs hj e => by
          subst e
          obtain ⟨x1, x2⟩ := each j hj
          obtain ⟨y1, y2⟩ := has_is (((desk_Named_0 f most base fc rp).getD j []).getD 0 0) (exR f most base fc rp).1 hle
          obtain ⟨z1, z2⟩ := has_is (((desk_Named_0 f most base fc rp).getD j []).getD 0 0) wr hw
          unfold law25_DeskNamed_l0_step
          rw [e2', c2, c3]
          simp only [gb_z, gi_1, gi_z, dlt hj, Int.toNat_natCast, guardP_pos (fun _ => inR_of hj), guardP_pos (fun _ => y1), guardP_pos (fun _ => z1), y2, z2, x1, wrap_succ' (show j < 9223372036854775807 by omega)]
          cases hc : ((chX f base fc rp wr tr).1 == 0 && (chX f base fc rp wr tr).2 && (wr.length : Int) == ((exR f most base fc rp).1.length : Int)) with
          | true =>
            rw [x2 hc]
            exact .inl ⟨_, rfl, rfl⟩
          | false => exact .inl ⟨_, rfl, rfl⟩)
        (fun xs e => by
          subst e
          refine ⟨2, [.b true, .i (desk_Named_0 f most base fc rp).length], ?_, by rw [gb_z]⟩
          unfold law25_DeskNamed_l0_step
          simp only [gb_z, gi_1, gi_z, dnlt])
        (xs := law25_DeskNamed_l0_init f most base fc rp wr tr) (by unfold law25_DeskNamed_l0_init; rw [hh]; rfl)
      exact ⟨key.2, hp, fun _ => ⟨e1', n1, c1, fun _ _ => key.1⟩⟩
  · have n0 : decide ((rp.length : Int) ≤ 8) = false := by rw [decide_eq_false_iff_not]; omega
    rw [n0]
    exact ⟨rfl, hp, fun h => (by cases h)⟩
end Go.Proofs.Ytnijhjpaplihbaa
