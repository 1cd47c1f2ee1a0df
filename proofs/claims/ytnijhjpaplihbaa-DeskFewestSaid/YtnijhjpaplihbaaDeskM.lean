/-
  DeskFewest, as far as what the functions compute.
-/
import Derived.Test.YtnijhjpaplihbaaDeskI
set_option linter.unusedVariables false
set_option maxRecDepth 100000
set_option linter.unusedSimpArgs false
set_option linter.unusedSectionVars false
namespace Go.Proofs.Ytnijhjpaplihbaa
open Go Go.Sy

def lexL : List (List Int) → List (List Int) → Bool
  | x :: r, y :: s => if x.getD 0 0 ≠ y.getD 0 0 then decide (x.getD 0 0 < y.getD 0 0) else lexL r s
  | _, _ => false
def befB (a b : List (List Int)) : Bool := if a.length ≠ b.length then decide (a.length < b.length) else lexL a b
theorem lexL_cons (x y : List Int) (r s : List (List Int)) : lexL (x :: r) (y :: s) = if x.getD 0 0 ≠ y.getD 0 0 then decide (x.getD 0 0 < y.getD 0 0) else lexL r s := rfl
theorem lexL_nil (b : List (List Int)) : lexL [] b = false := by cases b <;> rfl
theorem lexL_asymm : ∀ a b : List (List Int), lexL a b = true → lexL b a = false
  | [], b, h => by rw [lexL_nil] at h; cases h
  | a :: r, [], h => rfl
  | x :: r, y :: s, h => by
    rw [lexL_cons] at h ⊢
    by_cases e : x.getD 0 0 = y.getD 0 0
    · rw [if_neg (fun k => k e)] at h
      rw [if_neg (fun k => k e.symm)]
      exact lexL_asymm r s h
    · rw [if_pos e, decide_eq_true_eq] at h
      rw [if_pos (fun k => e k.symm), decide_eq_false_iff_not]
      omega
theorem befB_asymm {a b : List (List Int)} (h : befB a b = true) : befB b a = false := by
  unfold befB at h ⊢
  by_cases e : a.length = b.length
  · rw [if_neg (fun k => k e)] at h
    rw [if_neg (fun k => k e.symm)]
    exact lexL_asymm a b h
  · rw [if_pos e, decide_eq_true_eq] at h
    rw [if_pos (fun k => e k.symm), decide_eq_false_iff_not]
    omega
theorem befB_len {a b : List (List Int)} (h : befB a b = true) : a.length ≤ b.length := by
  unfold befB at h
  by_cases e : a.length = b.length
  · omega
  · rw [if_pos e, decide_eq_true_eq] at h
    omega
theorem before_is (a b : List (List Int)) (ha : a.length ≤ 9223372036854775807) : law25_before_pre a b ∧ law25_before_0 a b = befB a b := by
  unfold law25_before_pre law25_before_0 befB
  by_cases e : a.length = b.length
  · have b0 : ((a.length : Int) != (b.length : Int)) = false := by rw [bne_eq_false_iff_eq, e]
    rw [b0, cond_false, if_neg (fun k => k e)]
    have key := loop_for (step := law25_before_l0_step a b) a.length (fun j xs => xs = [.b false, .i (j : Int)] ∧ lexL a b = lexL (a.drop j) (b.drop j))
      (fun res => (bif res.1.beq 1 then gb res.2 0 else false) = lexL a b)
      (fun j xs hj ⟨ex, h⟩ => by
        subst ex
        have hj' : j < b.length := by omega
        rw [drop_cons1 hj, drop_cons1 hj', lexL_cons] at h
        unfold law25_before_l0_step
        simp only [gb_z, gi_1, gi_z, dlt hj, guardP_pos (inR_of hj), guardP_pos (inR_of hj'), Int.toNat_natCast, wrap_succ' (show j < 9223372036854775807 by omega)]
        by_cases k : (a.getD j []).getD 0 0 = (b.getD j []).getD 0 0
        · have b1 : ((a.getD j []).getD 0 0 != (b.getD j []).getD 0 0) = false := by rw [bne_eq_false_iff_eq]; exact k
          rw [if_neg (fun kk => kk k)] at h
          rw [b1, cond_false]
          exact .inl ⟨_, rfl, rfl, h⟩
        · have b1 : ((a.getD j []).getD 0 0 != (b.getD j []).getD 0 0) = true := by rw [bne_iff_ne]; exact k
          rw [if_pos k] at h
          rw [b1, cond_true]
          exact .inr ⟨0, _, rfl, by rw [h, gb_z]; rfl⟩)
      (fun xs ⟨ex, h⟩ => by
        subst ex
        refine ⟨2, [.b false, .i a.length], ?_, ?_⟩
        · unfold law25_before_l0_step
          simp only [gb_z, gi_1, gi_z, dnlt]
        · rw [h, List.drop_length, lexL_nil]; rfl)
      (xs := law25_before_l0_init a b) ⟨rfl, rfl⟩
    exact ⟨fun _ => key.1, key.2⟩
  · have b0 : ((a.length : Int) != (b.length : Int)) = true := by rw [bne_iff_ne]; omega
    rw [b0, cond_true, if_pos e]
    refine ⟨fun h => (by cases h), ?_⟩
    rw [decide_eq_decide]
    omega
/-! ### the sets are in order -/
theorem lexL_nums : ∀ c d : List Nat, lexL (ofNums (c.map fun (x : Nat) => (x : Int))) (ofNums (d.map fun (x : Nat) => (x : Int))) = lexN c d
  | [], d => by
    show lexL [] _ = _
    rw [lexL_nil]
    cases d <;> rfl
  | a :: c, [] => rfl
  | a :: c, b :: d => by
    show lexL ([(a : Int)] :: ofNums (c.map fun (x : Nat) => (x : Int))) ([(b : Int)] :: ofNums (d.map fun (x : Nat) => (x : Int))) = (decide (a < b) || (decide (a = b) && lexN c d))
    rw [lexL_cons, lexL_nums c d]
    show (if (a : Int) ≠ (b : Int) then decide ((a : Int) < (b : Int)) else lexN c d) = _
    by_cases e : a = b
    · subst e
      rw [if_neg (by simp)]
      simp
    · rw [if_pos (by omega), decide_eq_false e, Bool.false_and, Bool.or_false, decide_eq_decide]
      omega
theorem dsets_pw (m : Nat) (n : Int) : (dsets m n).Pairwise fun a b => befB a b = true := by
  unfold dsets
  rw [List.pairwise_map]
  have h1 := cmbs_lex m n.toNat 0
  have h2 : ∀ c ∈ cmbs m n.toNat 0, c.length = n.toNat := fun c hc => ((mem_cmbs _ _ _ _).1 hc).1
  refine h1.imp_of_mem fun {a b} ha hb h => ?_
  unfold befB
  rw [if_neg, lexL_nums]
  · exact h
  · unfold ofNums
    simp [h2 a ha, h2 b hb]
theorem alls_pw (m : Nat) : ∀ n, (alls m n).Pairwise fun a b => befB a b = true
  | 0 => List.Pairwise.nil
  | n + 1 => by
    show (alls m n ++ dsets m n).Pairwise _
    refine List.pairwise_append.2 ⟨alls_pw m n, dsets_pw m n, fun a ha b hb => ?_⟩
    have h1 := (alls_one ha).1
    have h2 := dsets_len hb
    unfold befB
    rw [if_pos (by omega), decide_eq_true_eq]
    omega
/-- What is found first: all sets ahead of it are no explanations; others that are come behind it. -/
theorem first_is {m n : Nat} {p : List (List Int) → Bool} {w x : List (List Int)} (h : (alls m n).find? p = some w) (hx : x ∈ alls m n) : (p x = true → w.length ≤ x.length) ∧ (befB x w = true → p x = false) := by
  obtain ⟨h1, pre_, post_, h2, h3⟩ := List.find?_eq_some_iff_append.1 h
  have hp := alls_pw m n
  rw [h2] at hx hp
  obtain ⟨_, p2, p3⟩ := List.pairwise_append.1 hp
  rcases List.mem_append.1 hx with hx | hx
  · have := h3 x hx
    have h4 : p x = false := by simpa using this
    exact ⟨fun k => (by rw [h4] at k; cases k), fun _ => h4⟩
  · rcases List.mem_cons.1 hx with rfl | hx
    · refine ⟨fun _ => Nat.le_refl _, fun k => ?_⟩
      rw [befB_asymm k] at k; cases k
    · have hb := (List.pairwise_cons.1 p2).1 x hx
      refine ⟨fun _ => befB_len hb, fun k => ?_⟩
      rw [befB_asymm hb] at k; cases k
section
variable {f most : Int} {base fc rp wr tr : List (List Int)}
theorem told_ex (T : Told f base fc rp wr tr) (hn : rp.length ≤ 12) (h1 : ∀ e ∈ wr, e.length = 1) (m0 : 0 ≤ most) (m3 : most ≤ 3) (hl : (wr.length : Int) ≤ most) :
    ((exR f most base fc rp).2.2 = 0 ∧ (exR f most base fc rp).1.length ≤ wr.length) ∨ (exR f most base fc rp).2.2 = 3 := by
  have ha : askE f most base fc rp = 0 := ask_of T.sv m0 m3 hn
  have hin : wr ∈ alls rp.length (most.toNat + 1) := in_alls h1 T.wb (by omega)
  have hne : (lw f base fc rp wr).1 ≠ 18 := by
    rcases told_in T with h | ⟨h, _⟩ <;> unfold lw <;> rw [h] <;> decide
  cases hF : (alls rp.length (most.toNat + 1)).find? (fun w => (lw f base fc rp w).1 != 18) with
  | none =>
    have := List.find?_eq_none.1 hF wr hin
    exact absurd (bne_iff_ne.2 hne) this
  | some w =>
    have hw := (first_is hF hin).1 (bne_iff_ne.2 hne)
    have hw18 : (lw f base fc rp w).1 ≠ 18 := by
      have := List.find?_some hF
      exact bne_iff_ne.1 this
    unfold exR
    rw [ha, hF, if_neg (by decide)]
    simp only
    rcases cv_lg fc w rp 0 base f (tl_cv rp 0 f T.tl) with k | k | k
    · rw [if_neg (fun kk => kk k)]
      exact .inl ⟨rfl, hw⟩
    · have k' : (lw f base fc rp w).1 = 3 := k
      rw [if_pos (by rw [k']; decide), k']
      exact .inr rfl
    · exact absurd k hw18
theorem same_refl (a : List (List Int)) (h : a.length < 4611686018427387904) : ref23_Same_pre a a ∧ ref23_Same_0 a a = true := by
  obtain ⟨h1, h2⟩ := same_is a a h
  refine ⟨h1, h2.2 ⟨rfl, fun i _ => ?_⟩⟩
  unfold same4
  simp
theorem ex_follow (h : (exR f most base fc rp).2.2 = 0) : fE f base fc rp (exR f most base fc rp).1 = 0 ∧ fL f base fc rp (exR f most base fc rp).1 = (exR f most base fc rp).2.1 ∧ (exR f most base fc rp).2.1.length ≤ 16 ∧ 0 < (exR f most base fc rp).2.1.length ∧ ((exR f most base fc rp).1.length : Int) ≤ most := by
  obtain ⟨ha, hm, hF, h0, hL⟩ := ex_ok h
  obtain ⟨sv, g, m0, m3, hl⟩ := ask_ok ha
  obtain ⟨o1, o2, _⟩ := alls_one hm
  obtain ⟨x1, x2⟩ := fE_ok sv (dsets_wB o2)
  have v := (lg_vl fc (exR f most base fc rp).1 rp 0 base f g.vl g.rv).1 h0
  refine ⟨x1.trans h0, x2.trans hL.symm, ?_, ?_, by omega⟩
  · rw [hL]; exact v.2.1
  · rw [hL]; exact v.1
theorem ex_before (h : (exR f most base fc rp).2.2 = 0) {o : List (List Int)} (h1 : ∀ e ∈ o, e.length = 1) (hb : befB o (exR f most base fc rp).1 = true) : fE f base fc rp o = 18 ∨ fE f base fc rp o = 1 := by
  obtain ⟨ha, hm, hF, h0, hL⟩ := ex_ok h
  obtain ⟨sv, g, m0, m3, hl⟩ := ask_ok ha
  obtain ⟨o1, _, _⟩ := alls_one hm
  have hlen := befB_len hb
  cases hW : wB rp.length (-1) o with
  | false =>
    right
    unfold fE
    rw [if_pos (.inr hW)]
  | true =>
    have hx := (first_is hF (in_alls h1 hW (by omega))).2 hb
    rw [bne_eq_false_iff_eq] at hx
    exact .inl ((fE_ok sv hW).1.trans hx)
end
theorem deskFewest_ok (f most : Int) (base fc rp wr tr o : List (List Int)) (h13 : Si.El13 rp) (hf : fc.length ≤ 9223372036854775807) (hw : wr.length ≤ 9223372036854775807) (h1 : ∀ e ∈ wr, e.length = 1) (ho : o.length ≤ 9223372036854775807) (ho1 : ∀ e ∈ o, e.length = 1) :
    law25_DeskFewest_0 f most base fc rp wr tr o = true ∧ law25_DeskFewest_pre f most base fc rp wr tr o := by
  obtain ⟨hh, hp⟩ := head_ok
  obtain ⟨e1, e2, e3, e4⟩ := explain_is f most base fc rp h13 hf
  have e2' : desk_Explain_0 f most base fc rp = (exR f most base fc rp).1 := e2
  have e3' : desk_Explain_1 f most base fc rp = (exR f most base fc rp).2.1 := e3
  have e4' : desk_Explain_2 f most base fc rp = (exR f most base fc rp).2.2 := e4
  have e1' : desk_Explain_pre f most base fc rp := e1
  obtain ⟨c1, c2, c3⟩ := check_is f base fc rp wr tr h13 hf hw
  obtain ⟨o1, o2, _⟩ := follow_is f base fc rp o h13 hf ho
  obtain ⟨b1, b2⟩ := before_is o (exR f most base fc rp).1 ho
  unfold law25_DeskFewest_0 law25_DeskFewest_pre law25_few_0
  rw [hh, e2', e3', e4', c2, c3, o2, b2]
  by_cases hn : rp.length ≤ 8
  · have n0 : decide ((rp.length : Int) ≤ 8) = true := by rw [decide_eq_true_eq]; omega
    rw [n0, Bool.not_true, cond_false]
    -- the explanation
    have exq : (exR f most base fc rp).2.2 ≠ 0 ∧ (exR f most base fc rp).1 = [] ∧ (exR f most base fc rp).2.1 = [] ∨ (exR f most base fc rp).2.2 = 0 := by
      by_cases k : (exR f most base fc rp).2.2 = 0
      · exact .inr k
      · exact .inl ⟨k, ex_bad k⟩
    have hlx : (exR f most base fc rp).1.length ≤ 9223372036854775807 := by
      rcases exq with ⟨_, k, _⟩ | k
      · rw [k]; decide
      · have := (ex_follow k).2.2.2.2
        obtain ⟨ha, _⟩ := ex_ok k
        obtain ⟨_, _, _, m3, _⟩ := ask_ok ha
        omega
    obtain ⟨g1, g2, g3⟩ := follow_is f base fc rp (exR f most base fc rp).1 h13 hf hlx
    rw [g2, g3]
    have tail : (exR f most base fc rp).2.2 = 0 → decide (((exR f most base fc rp).1.length : Int) ≤ most) = true ∧ (fE f base fc rp (exR f most base fc rp).1 == 0) = true ∧ ref23_Same_0 (fL f base fc rp (exR f most base fc rp).1) (exR f most base fc rp).2.1 = true ∧
        ref23_Same_pre (fL f base fc rp (exR f most base fc rp).1) (exR f most base fc rp).2.1 ∧ decide (((exR f most base fc rp).2.1.length : Int) > 0) = true ∧ (!befB o (exR f most base fc rp).1 || fE f base fc rp o == 18 || fE f base fc rp o == 1) = true := fun k => by
      obtain ⟨x1, x2, x3, x4, x5⟩ := ex_follow k
      obtain ⟨s1, s2⟩ := same_refl (exR f most base fc rp).2.1 (by omega)
      rw [x1, x2]
      refine ⟨decide_eq_true x5, rfl, s2, s1, decide_eq_true (by omega), ?_⟩
      cases hb : befB o (exR f most base fc rp).1 with
      | false => rfl
      | true => rcases ex_before k ho1 hb with k' | k' <;> rw [k'] <;> rfl
    cases hc : ((chX f base fc rp wr tr).1 == 0 && (chX f base fc rp wr tr).2 && decide (most ≥ 0) && decide (most ≤ 3) && decide ((wr.length : Int) ≤ most)) with
    | true =>
      simp only [Bool.and_eq_true, decide_eq_true_eq, beq_iff_eq] at hc
      obtain ⟨⟨⟨⟨k1, k2⟩, k3⟩, k4⟩, k5⟩ := hc
      have T := told_of k2
      have hx := told_ex (most := most) T (by omega) h1 k3 k4 k5
      rw [cond_true]
      rcases exq with ⟨q1, q2, q3⟩ | q
      · have q4 : (exR f most base fc rp).2.2 = 3 := by
          rcases hx with ⟨k, _⟩ | k
          · exact absurd k q1
          · exact k
        rw [q2, q3, q4]
        exact ⟨rfl, hp, fun _ => ⟨e1', c1, fun _ k => (by cases k), fun k => (by cases k)⟩⟩
      · obtain ⟨t1, t2, t3, t4, t5, t6⟩ := tail q
        have hx' : decide (((exR f most base fc rp).1.length : Int) ≤ (wr.length : Int)) = true := by
          rcases hx with ⟨_, k⟩ | k
          · rw [decide_eq_true_eq]; omega
          · rw [q] at k; cases k
        rw [q, t1, t2, t3, t5, t6, hx']
        exact ⟨rfl, hp, fun _ => ⟨e1', c1, fun _ _ => ⟨g1, o1, fun _ => t4, fun _ => b1⟩, fun k => (by cases k)⟩⟩
    | false =>
      rw [cond_false]
      rcases exq with ⟨q1, q2, q3⟩ | q
      · have bq : ((exR f most base fc rp).2.2 != 0) = true := by rw [bne_iff_ne]; exact q1
        rw [bq, q2, q3]
        exact ⟨rfl, hp, fun _ => ⟨e1', c1, fun k => (by cases k), fun _ k => (by cases k)⟩⟩
      · obtain ⟨t1, t2, t3, t4, t5, t6⟩ := tail q
        rw [q, t1, t2, t3, t5, t6]
        exact ⟨rfl, hp, fun _ => ⟨e1', c1, fun k => (by cases k), fun _ _ => ⟨g1, o1, fun _ => t4, fun _ => b1⟩⟩⟩
  · have n0 : decide ((rp.length : Int) ≤ 8) = false := by rw [decide_eq_false_iff_not]; omega
    rw [n0]
    exact ⟨rfl, hp, fun h => (by cases h)⟩
end Go.Proofs.Ytnijhjpaplihbaa
