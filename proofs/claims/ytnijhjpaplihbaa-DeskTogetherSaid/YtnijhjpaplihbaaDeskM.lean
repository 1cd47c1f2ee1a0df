/- Several texts in one (wip/merge.py): XDeskM XDeskT XDeskU. -/
import Derived.Test.YtnijhjpaplihbaaDeskI
/-!
  DeskFewest, as far as what the functions compute.
-/
set_option linter.unusedVariables false
set_option maxRecDepth 100000
set_option linter.unusedSimpArgs false
set_option linter.unusedSectionVars false
namespace Go.Proofs.Ytnijhjpaplihbaa
open Go Go.Sy

def lexL : List (List Int) → List (List Int) → Bool
  | x :: r, y :: s => if x.getD 0 0 ≠ y.getD 0 0 then decide (x.getD 0 0 < y.getD 0 0) else lexL r s
  | _, _ => false
def befB (a b : List (List Int)) : Bool := if a.length ≠ b.length then decide (a.length < b.length) else lexL a b
theorem lexL_cons (x y : List Int) (r s : List (List Int)) : lexL (x :: r) (y :: s) = if x.getD 0 0 ≠ y.getD 0 0 then decide (x.getD 0 0 < y.getD 0 0) else lexL r s := rfl
theorem lexL_nil (b : List (List Int)) : lexL [] b = false := by cases b <;> rfl
theorem lexL_asymm : ∀ a b : List (List Int), lexL a b = true → lexL b a = false
  | [], b, h => by rw [lexL_nil] at h; cases h
  | a :: r, [], h => rfl
  | x :: r, y :: s, h => by
    rw [lexL_cons] at h ⊢
    by_cases e : x.getD 0 0 = y.getD 0 0
    · rw [if_neg (fun k => k e)] at h
      rw [if_neg (fun k => k e.symm)]
      exact lexL_asymm r s h
    · rw [if_pos e, decide_eq_true_eq] at h
      rw [if_pos (fun k => e k.symm), decide_eq_false_iff_not]
      omega
theorem befB_asymm {a b : List (List Int)} (h : befB a b = true) : befB b a = false := by
  unfold befB at h ⊢
  by_cases e : a.length = b.length
  · rw [if_neg (fun k => k e)] at h
    rw [if_neg (fun k => k e.symm)]
    exact lexL_asymm a b h
  · rw [if_pos e, decide_eq_true_eq] at h
    rw [if_pos (fun k => e k.symm), decide_eq_false_iff_not]
    omega
theorem befB_len {a b : List (List Int)} (h : befB a b = true) : a.length ≤ b.length := by
  unfold befB at h
  by_cases e : a.length = b.length
  · omega
  · rw [if_pos e, decide_eq_true_eq] at h
    omega
theorem before_is (a b : List (List Int)) (ha : a.length ≤ 9223372036854775807) : law25_before_pre a b ∧ law25_before_0 a b = befB a b := by
  unfold law25_before_pre law25_before_0 befB
  by_cases e : a.length = b.length
  · have b0 : ((a.length : Int) != (b.length : Int)) = false := by rw [bne_eq_false_iff_eq, e]
    rw [b0, cond_false, if_neg (fun k => k e)]
    have key := loop_for (step := law25_before_l0_step a b) a.length (fun j xs => xs = [.b false, .i (j : Int)] ∧ lexL a b = lexL (a.drop j) (b.drop j))
      (fun res => (bif res.1.beq 1 then gb res.2 0 else false) = lexL a b)
      (fun j xs hj ⟨ex, h⟩ => by
        subst ex
        have hj' : j < b.length := by omega
        rw [drop_cons1 hj, drop_cons1 hj', lexL_cons] at h
        unfold law25_before_l0_step
        simp only [gb_z, gi_1, gi_z, dlt hj, guardP_pos (inR_of hj), guardP_pos (inR_of hj'), Int.toNat_natCast, wrap_succ' (show j < 9223372036854775807 by omega)]
        by_cases k : (a.getD j []).getD 0 0 = (b.getD j []).getD 0 0
        · have b1 : ((a.getD j []).getD 0 0 != (b.getD j []).getD 0 0) = false := by rw [bne_eq_false_iff_eq]; exact k
          rw [if_neg (fun kk => kk k)] at h
          rw [b1, cond_false]
          exact .inl ⟨_, rfl, rfl, h⟩
        · have b1 : ((a.getD j []).getD 0 0 != (b.getD j []).getD 0 0) = true := by rw [bne_iff_ne]; exact k
          rw [if_pos k] at h
          rw [b1, cond_true]
          exact .inr ⟨0, _, rfl, by rw [h, gb_z]; rfl⟩)
      (fun xs ⟨ex, h⟩ => by
        subst ex
        refine ⟨2, [.b false, .i a.length], ?_, ?_⟩
        · unfold law25_before_l0_step
          simp only [gb_z, gi_1, gi_z, dnlt]
        · rw [h, List.drop_length, lexL_nil]; rfl)
      (xs := law25_before_l0_init a b) ⟨rfl, rfl⟩
    exact ⟨fun _ => key.1, key.2⟩
  · have b0 : ((a.length : Int) != (b.length : Int)) = true := by rw [bne_iff_ne]; omega
    rw [b0, cond_true, if_pos e]
    refine ⟨fun h => (by cases h), ?_⟩
    rw [decide_eq_decide]
    omega
/-! ### the sets are in order -/
theorem lexL_nums : ∀ c d : List Nat, lexL (ofNums (c.map fun (x : Nat) => (x : Int))) (ofNums (d.map fun (x : Nat) => (x : Int))) = lexN c d
  | [], d => by
    show lexL [] _ = _
    rw [lexL_nil]
    cases d <;> rfl
  | a :: c, [] => rfl
  | a :: c, b :: d => by
    show lexL ([(a : Int)] :: ofNums (c.map fun (x : Nat) => (x : Int))) ([(b : Int)] :: ofNums (d.map fun (x : Nat) => (x : Int))) = (decide (a < b) || (decide (a = b) && lexN c d))
    rw [lexL_cons, lexL_nums c d]
    show (if (a : Int) ≠ (b : Int) then decide ((a : Int) < (b : Int)) else lexN c d) = _
    by_cases e : a = b
    · subst e
      rw [if_neg (by simp)]
      simp
    · rw [if_pos (by omega), decide_eq_false e, Bool.false_and, Bool.or_false, decide_eq_decide]
      omega
theorem dsets_pw (m : Nat) (n : Int) : (dsets m n).Pairwise fun a b => befB a b = true := by
  unfold dsets
  rw [List.pairwise_map]
  have h1 := cmbs_lex m n.toNat 0
  have h2 : ∀ c ∈ cmbs m n.toNat 0, c.length = n.toNat := fun c hc => ((mem_cmbs _ _ _ _).1 hc).1
  refine h1.imp_of_mem fun {a b} ha hb h => ?_
  unfold befB
  rw [if_neg, lexL_nums]
  · exact h
  · unfold ofNums
    simp [h2 a ha, h2 b hb]
theorem alls_pw (m : Nat) : ∀ n, (alls m n).Pairwise fun a b => befB a b = true
  | 0 => List.Pairwise.nil
  | n + 1 => by
    show (alls m n ++ dsets m n).Pairwise _
    refine List.pairwise_append.2 ⟨alls_pw m n, dsets_pw m n, fun a ha b hb => ?_⟩
    have h1 := (alls_one ha).1
    have h2 := dsets_len hb
    unfold befB
    rw [if_pos (by omega), decide_eq_true_eq]
    omega
/-- What is found first: all sets ahead of it are no explanations; others that are come behind it. -/
theorem first_is {m n : Nat} {p : List (List Int) → Bool} {w x : List (List Int)} (h : (alls m n).find? p = some w) (hx : x ∈ alls m n) : (p x = true → w.length ≤ x.length) ∧ (befB x w = true → p x = false) := by
  obtain ⟨h1, pre_, post_, h2, h3⟩ := List.find?_eq_some_iff_append.1 h
  have hp := alls_pw m n
  rw [h2] at hx hp
  obtain ⟨_, p2, p3⟩ := List.pairwise_append.1 hp
  rcases List.mem_append.1 hx with hx | hx
  · have := h3 x hx
    have h4 : p x = false := by simpa using this
    exact ⟨fun k => (by rw [h4] at k; cases k), fun _ => h4⟩
  · rcases List.mem_cons.1 hx with rfl | hx
    · refine ⟨fun _ => Nat.le_refl _, fun k => ?_⟩
      rw [befB_asymm k] at k; cases k
    · have hb := (List.pairwise_cons.1 p2).1 x hx
      refine ⟨fun _ => befB_len hb, fun k => ?_⟩
      rw [befB_asymm hb] at k; cases k
section
variable {f most : Int} {base fc rp wr tr : List (List Int)}
theorem told_ex (T : Told f base fc rp wr tr) (hn : rp.length ≤ 12) (h1 : ∀ e ∈ wr, e.length = 1) (m0 : 0 ≤ most) (m3 : most ≤ 3) (hl : (wr.length : Int) ≤ most) :
    ((exR f most base fc rp).2.2 = 0 ∧ (exR f most base fc rp).1.length ≤ wr.length) ∨ (exR f most base fc rp).2.2 = 3 := by
  have ha : askE f most base fc rp = 0 := ask_of T.sv m0 m3 hn
  have hin : wr ∈ alls rp.length (most.toNat + 1) := in_alls h1 T.wb (by omega)
  have hne : (lw f base fc rp wr).1 ≠ 18 := by
    rcases told_in T with h | ⟨h, _⟩ <;> unfold lw <;> rw [h] <;> decide
  cases hF : (alls rp.length (most.toNat + 1)).find? (fun w => (lw f base fc rp w).1 != 18) with
  | none =>
    have := List.find?_eq_none.1 hF wr hin
    exact absurd (bne_iff_ne.2 hne) this
  | some w =>
    have hw := (first_is hF hin).1 (bne_iff_ne.2 hne)
    have hw18 : (lw f base fc rp w).1 ≠ 18 := by
      have := List.find?_some hF
      exact bne_iff_ne.1 this
    unfold exR
    rw [ha, hF, if_neg (by decide)]
    simp only
    rcases cv_lg fc w rp 0 base f (tl_cv rp 0 f T.tl) with k | k | k
    · rw [if_neg (fun kk => kk k)]
      exact .inl ⟨rfl, hw⟩
    · have k' : (lw f base fc rp w).1 = 3 := k
      rw [if_pos (by rw [k']; decide), k']
      exact .inr rfl
    · exact absurd k hw18
theorem same_refl (a : List (List Int)) (h : a.length < 4611686018427387904) : ref23_Same_pre a a ∧ ref23_Same_0 a a = true := by
  obtain ⟨h1, h2⟩ := same_is a a h
  refine ⟨h1, h2.2 ⟨rfl, fun i _ => ?_⟩⟩
  unfold same4
  simp
theorem ex_follow (h : (exR f most base fc rp).2.2 = 0) : fE f base fc rp (exR f most base fc rp).1 = 0 ∧ fL f base fc rp (exR f most base fc rp).1 = (exR f most base fc rp).2.1 ∧ (exR f most base fc rp).2.1.length ≤ 16 ∧ 0 < (exR f most base fc rp).2.1.length ∧ ((exR f most base fc rp).1.length : Int) ≤ most := by
  obtain ⟨ha, hm, hF, h0, hL⟩ := ex_ok h
  obtain ⟨sv, g, m0, m3, hl⟩ := ask_ok ha
  obtain ⟨o1, o2, _⟩ := alls_one hm
  obtain ⟨x1, x2⟩ := fE_ok sv (dsets_wB o2)
  have v := (lg_vl fc (exR f most base fc rp).1 rp 0 base f g.vl g.rv).1 h0
  refine ⟨x1.trans h0, x2.trans hL.symm, ?_, ?_, by omega⟩
  · rw [hL]; exact v.2.1
  · rw [hL]; exact v.1
theorem ex_before (h : (exR f most base fc rp).2.2 = 0) {o : List (List Int)} (h1 : ∀ e ∈ o, e.length = 1) (hb : befB o (exR f most base fc rp).1 = true) : fE f base fc rp o = 18 ∨ fE f base fc rp o = 1 := by
  obtain ⟨ha, hm, hF, h0, hL⟩ := ex_ok h
  obtain ⟨sv, g, m0, m3, hl⟩ := ask_ok ha
  obtain ⟨o1, _, _⟩ := alls_one hm
  have hlen := befB_len hb
  cases hW : wB rp.length (-1) o with
  | false =>
    right
    unfold fE
    rw [if_pos (.inr hW)]
  | true =>
    have hx := (first_is hF (in_alls h1 hW (by omega))).2 hb
    rw [bne_eq_false_iff_eq] at hx
    exact .inl ((fE_ok sv hW).1.trans hx)
end
theorem deskFewest_ok (f most : Int) (base fc rp wr tr o : List (List Int)) (h13 : Si.El13 rp) (hf : fc.length ≤ 9223372036854775807) (hw : wr.length ≤ 9223372036854775807) (h1 : ∀ e ∈ wr, e.length = 1) (ho : o.length ≤ 9223372036854775807) (ho1 : ∀ e ∈ o, e.length = 1) :
    law25_DeskFewest_0 f most base fc rp wr tr o = true ∧ law25_DeskFewest_pre f most base fc rp wr tr o := by
  obtain ⟨hh, hp⟩ := head_ok
  obtain ⟨e1, e2, e3, e4⟩ := explain_is f most base fc rp h13 hf
  have e2' : desk_Explain_0 f most base fc rp = (exR f most base fc rp).1 := e2
  have e3' : desk_Explain_1 f most base fc rp = (exR f most base fc rp).2.1 := e3
  have e4' : desk_Explain_2 f most base fc rp = (exR f most base fc rp).2.2 := e4
  have e1' : desk_Explain_pre f most base fc rp := e1
  obtain ⟨c1, c2, c3⟩ := check_is f base fc rp wr tr h13 hf hw
  obtain ⟨o1, o2, _⟩ := follow_is f base fc rp o h13 hf ho
  obtain ⟨b1, b2⟩ := before_is o (exR f most base fc rp).1 ho
  unfold law25_DeskFewest_0 law25_DeskFewest_pre law25_few_0
  rw [hh, e2', e3', e4', c2, c3, o2, b2]
  by_cases hn : rp.length ≤ 8
  · have n0 : decide ((rp.length : Int) ≤ 8) = true := by rw [decide_eq_true_eq]; omega
    rw [n0, Bool.not_true, cond_false]
    -- the explanation
    have exq : (exR f most base fc rp).2.2 ≠ 0 ∧ (exR f most base fc rp).1 = [] ∧ (exR f most base fc rp).2.1 = [] ∨ (exR f most base fc rp).2.2 = 0 := by
      by_cases k : (exR f most base fc rp).2.2 = 0
      · exact .inr k
      · exact .inl ⟨k, ex_bad k⟩
    have hlx : (exR f most base fc rp).1.length ≤ 9223372036854775807 := by
      rcases exq with ⟨_, k, _⟩ | k
      · rw [k]; decide
      · have := (ex_follow k).2.2.2.2
        obtain ⟨ha, _⟩ := ex_ok k
        obtain ⟨_, _, _, m3, _⟩ := ask_ok ha
        omega
    obtain ⟨g1, g2, g3⟩ := follow_is f base fc rp (exR f most base fc rp).1 h13 hf hlx
    rw [g2, g3]
    have tail : (exR f most base fc rp).2.2 = 0 → decide (((exR f most base fc rp).1.length : Int) ≤ most) = true ∧ (fE f base fc rp (exR f most base fc rp).1 == 0) = true ∧ ref23_Same_0 (fL f base fc rp (exR f most base fc rp).1) (exR f most base fc rp).2.1 = true ∧
        ref23_Same_pre (fL f base fc rp (exR f most base fc rp).1) (exR f most base fc rp).2.1 ∧ decide (((exR f most base fc rp).2.1.length : Int) > 0) = true ∧ (!befB o (exR f most base fc rp).1 || fE f base fc rp o == 18 || fE f base fc rp o == 1) = true := fun k => by
      obtain ⟨x1, x2, x3, x4, x5⟩ := ex_follow k
      obtain ⟨s1, s2⟩ := same_refl (exR f most base fc rp).2.1 (by omega)
      rw [x1, x2]
      refine ⟨decide_eq_true x5, rfl, s2, s1, decide_eq_true (by omega), ?_⟩
      cases hb : befB o (exR f most base fc rp).1 with
      | false => rfl
      | true => rcases ex_before k ho1 hb with k' | k' <;> rw [k'] <;> rfl
    cases hc : ((chX f base fc rp wr tr).1 == 0 && (chX f base fc rp wr tr).2 && decide (most ≥ 0) && decide (most ≤ 3) && decide ((wr.length : Int) ≤ most)) with
    | true =>
      simp only [Bool.and_eq_true, decide_eq_true_eq, beq_iff_eq] at hc
      obtain ⟨⟨⟨⟨k1, k2⟩, k3⟩, k4⟩, k5⟩ := hc
      have T := told_of k2
      have hx := told_ex (most := most) T (by omega) h1 k3 k4 k5
      rw [cond_true]
      rcases exq with ⟨q1, q2, q3⟩ | q
      · have q4 : (exR f most base fc rp).2.2 = 3 := by
          rcases hx with ⟨k, _⟩ | k
          · exact absurd k q1
          · exact k
        rw [q2, q3, q4]
        exact ⟨rfl, hp, fun _ => ⟨e1', c1, fun _ k => (by cases k), fun k => (by cases k)⟩⟩
      · obtain ⟨t1, t2, t3, t4, t5, t6⟩ := tail q
        have hx' : decide (((exR f most base fc rp).1.length : Int) ≤ (wr.length : Int)) = true := by
          rcases hx with ⟨_, k⟩ | k
          · rw [decide_eq_true_eq]; omega
          · rw [q] at k; cases k
        rw [q, t1, t2, t3, t5, t6, hx']
        exact ⟨rfl, hp, fun _ => ⟨e1', c1, fun _ _ => ⟨g1, o1, fun _ => t4, fun _ => b1⟩, fun k => (by cases k)⟩⟩
    | false =>
      rw [cond_false]
      rcases exq with ⟨q1, q2, q3⟩ | q
      · have bq : ((exR f most base fc rp).2.2 != 0) = true := by rw [bne_iff_ne]; exact q1
        rw [bq, q2, q3]
        exact ⟨rfl, hp, fun _ => ⟨e1', c1, fun k => (by cases k), fun _ k => (by cases k)⟩⟩
      · obtain ⟨t1, t2, t3, t4, t5, t6⟩ := tail q
        rw [q, t1, t2, t3, t5, t6]
        exact ⟨rfl, hp, fun _ => ⟨e1', c1, fun k => (by cases k), fun _ _ => ⟨g1, o1, fun _ => t4, fun _ => b1⟩⟩⟩
  · have n0 : decide ((rp.length : Int) ≤ 8) = false := by rw [decide_eq_false_iff_not]; omega
    rw [n0]
    exact ⟨rfl, hp, fun h => (by cases h)⟩
end Go.Proofs.Ytnijhjpaplihbaa

/-!
  DeskTogether, as far as what the functions compute.
-/
set_option linter.unusedVariables false
set_option linter.unusedSimpArgs false
set_option linter.unusedSectionVars false
set_option maxRecDepth 100000
namespace Go.Proofs.Ytnijhjpaplihbaa
open Go Go.Sy

/-! ### one report, and two -/
def cutO (w : Bool) (d : List Int) (S : List (List Int)) : Option (List (List Int)) := if w = true then some S else if cutP d S = [] then none else some (cutP d S)
def lgO (c wr rs : List (List Int)) (i : Nat) (t : Int) : Option (List (List Int)) → Int × List (List Int)
  | none => (18, [])
  | some S => lg c wr rs i S t
theorem lg_cut (c wr : List (List Int)) (r : List Int) (rs : List (List Int)) (i : Nat) (set : List (List Int)) (at_ : Int) : lg c wr (r :: rs) i set at_ =
    if sumE at_ (r.getD 2 0) c ≠ 0 then (sumE at_ (r.getD 2 0) c, [])
    else if ∃ b ∈ set, ¬ VB (mvF at_ (r.getD 2 0) c b) then (3, [])
    else lgO c wr rs (i + 1) (r.getD 2 0) (cutO (isW wr i) (bxD r) (set.map (mvF at_ (r.getD 2 0) c))) := by
  rw [lg_cons]
  by_cases h1 : sumE at_ (r.getD 2 0) c ≠ 0
  · rw [if_pos h1, if_pos h1]
  · rw [if_neg h1, if_neg h1]
    by_cases h2 : ∃ b ∈ set, ¬ VB (mvF at_ (r.getD 2 0) c b)
    · rw [if_pos h2, if_pos h2]
    · rw [if_neg h2, if_neg h2]
      unfold cutO
      by_cases h3 : isW wr i = true
      · rw [if_pos h3, if_pos h3]; rfl
      · rw [if_neg h3, if_neg h3]
        by_cases h4 : cutP (bxD r) (set.map (mvF at_ (r.getD 2 0) c)) = []
        · rw [if_pos h4, if_pos h4]; rfl
        · rw [if_neg h4, if_neg h4]; rfl
theorem mv_none {t : Int} {c : List (List Int)} (h : sumE t t c = 0) {b : List Int} (hb : b.length = 4) : mvF t t c b = b := by
  have z : ∀ k, sumV t t k c = 0 := fun k => by rw [sumV_ok h, sumL_none]
  match b, hb with
  | [x, y, u, v], _ =>
    unfold mvF mvB lo hi
    rw [z, z, z, z]
    simp only [List.getD_cons_zero, List.getD_cons_succ]
    congr 1
    · omega
    · congr 1
      · omega
      · congr 1
        · omega
        · congr 1
          omega
theorem mv_len (f u : Int) (c : List (List Int)) (b : List Int) : (mvF f u c b).length = 4 := rfl
theorem cut4 {d : List Int} {S : List (List Int)} : ∀ b ∈ cutP d S, b.length = 4 := by
  intro b hb
  obtain ⟨x, _, _, rfl⟩ := mem_cutP.1 hb
  rfl
theorem map_none {t : Int} {c : List (List Int)} (h : sumE t t c = 0) : ∀ S : List (List Int), (∀ b ∈ S, b.length = 4) → S.map (mvF t t c) = S
  | [], _ => rfl
  | b :: S, h4 => by rw [List.map_cons, mv_none h (h4 b (by simp)), map_none h S (fun x hx => h4 x (by simp [hx]))]
/-- A further report of the same time. -/
theorem lg_same {c wr : List (List Int)} {r : List Int} {rs : List (List Int)} {i : Nat} {S : List (List Int)} {t : Int} (ht : r.getD 2 0 = t) (hs : sumE t t c = 0) (h4 : ∀ b ∈ S, b.length = 4) (hv : ∀ b ∈ S, VB b) :
    lg c wr (r :: rs) i S t = lgO c wr rs (i + 1) t (cutO (isW wr i) (bxD r) S) := by
  rw [lg_cut, ht, if_neg (fun k => k hs), map_none hs S h4, if_neg]
  rintro ⟨b, hb, k⟩
  rw [mv_none hs (h4 b hb)] at k
  exact k (hv b hb)
theorem cut_comm (a b : List Int) (S : List (List Int)) : cutP b (cutP a S) = cutP a (cutP b S) := by
  unfold cutP
  rw [List.filterMap_filterMap, List.filterMap_filterMap]
  congr 1
  funext x
  have key : ∀ p q : List Int, ((if MB x p then some (mtB x p) else none).bind fun y => if MB y q then some (mtB y q) else none) = if MB (mtB x p) q then some (mtB (mtB x p) q) else none := fun p q => by
    by_cases h : MB x p
    · rw [if_pos h]; rfl
    · rw [if_neg h, if_neg]
      · rfl
      · intro k
        apply h
        have g := mtB_get x p
        unfold MB at *
        omega
  rw [key, key]
  have e : mtB (mtB x a) b = mtB (mtB x b) a := by
    unfold mtB
    simp only [List.getD_cons_zero, List.getD_cons_succ]
    congr 1
    · omega
    · congr 1
      · omega
      · congr 1
        · omega
        · congr 1
          omega
  have m : MB (mtB x a) b ↔ MB (mtB x b) a := by
    have g := mtB_get x a
    have g' := mtB_get x b
    unfold MB
    rw [g.1, g.2.1, g.2.2.1, g.2.2.2, g'.1, g'.2.1, g'.2.2.1, g'.2.2.2]
    simp only [Int.max_le, Int.le_min]
    constructor <;> intro h <;> omega
  rw [e]
  by_cases h : MB (mtB x a) b
  · rw [if_pos h, if_pos (m.1 h)]
  · rw [if_neg h, if_neg (fun k => h (m.2 k))]
theorem cut_nil (d : List Int) : cutP d [] = [] := rfl
theorem cutO_comm (w w' : Bool) (a b : List Int) (S : List (List Int)) : (cutO w a S).bind (cutO w' b) = (cutO w' b S).bind (cutO w a) := by
  have hc := cut_comm a b S
  unfold cutO
  cases w <;> cases w'
  · simp only [Bool.false_eq_true, if_false]
    by_cases ha : cutP a S = [] <;> by_cases hb : cutP b S = []
    · rw [if_pos ha, if_pos hb]; rfl
    · rw [if_pos ha, if_neg hb]
      show none = if cutP a (cutP b S) = [] then none else some (cutP a (cutP b S))
      rw [← hc, ha, cut_nil, if_pos rfl]
    · rw [if_neg ha, if_pos hb]
      show (if cutP b (cutP a S) = [] then none else some (cutP b (cutP a S))) = none
      rw [hc, hb, cut_nil, if_pos rfl]
    · rw [if_neg ha, if_neg hb]
      show (if cutP b (cutP a S) = [] then none else some (cutP b (cutP a S))) = if cutP a (cutP b S) = [] then none else some (cutP a (cutP b S))
      rw [hc]
  · simp only [Bool.false_eq_true, if_false, if_true]
    by_cases ha : cutP a S = []
    · rw [if_pos ha]
      show none = if cutP a S = [] then none else some (cutP a S)
      rw [if_pos ha]
    · rw [if_neg ha]
      show some (cutP a S) = if cutP a S = [] then none else some (cutP a S)
      rw [if_neg ha]
  · simp only [Bool.false_eq_true, if_false, if_true]
    by_cases hb : cutP b S = []
    · rw [if_pos hb]
      show (if cutP b S = [] then none else some (cutP b S)) = none
      rw [if_pos hb]
    · rw [if_neg hb]
      show (if cutP b S = [] then none else some (cutP b S)) = some (cutP b S)
      rw [if_neg hb]
  · rfl
theorem cutO_ok {w : Bool} {d : List Int} {S T : List (List Int)} (hd : VB d) (h : cutO w d S = some T) (h4 : ∀ b ∈ S, b.length = 4) (hv : ∀ b ∈ S, VB b) : (∀ b ∈ T, b.length = 4) ∧ ∀ b ∈ T, VB b := by
  unfold cutO at h
  split at h
  · cases h; exact ⟨h4, hv⟩
  · split at h
    · cases h
    · cases h
      refine ⟨cut4, fun b hb => ?_⟩
      obtain ⟨x, hx, hm, rfl⟩ := mem_cutP.1 hb
      exact vb_mt (hv x hx) hd hm
theorem lgO_two {c wr : List (List Int)} {r : List Int} {rs : List (List Int)} {i : Nat} {S : List (List Int)} {t : Int} {w : Bool} {d : List Int} (hd : VB d) (ht : r.getD 2 0 = t) (hs : sumE t t c = 0) (h4 : ∀ b ∈ S, b.length = 4) (hv : ∀ b ∈ S, VB b) :
    lgO c wr (r :: rs) i t (cutO w d S) = lgO c wr rs (i + 1) t ((cutO w d S).bind (cutO (isW wr i) (bxD r))) := by
  cases h : cutO w d S with
  | none => rfl
  | some T =>
    obtain ⟨k4, kv⟩ := cutO_ok hd h h4 hv
    exact lg_same ht hs k4 kv
/-- Two reports exchanged: first of all. -/
theorem lg_swap0 {c wr wr' : List (List Int)} {a b : List Int} {B : List (List Int)} {i : Nat} {S : List (List Int)} {at_ : Int} (ha : RVr a) (hb : RVr b) (ht : a.getD 2 0 = b.getD 2 0)
    (w1 : isW wr' i = isW wr (i + 1 : Nat)) (w2 : isW wr' (i + 1 : Nat) = isW wr i) (w3 : ∀ j, i + 2 ≤ j → j < i + 2 + B.length → isW wr' j = isW wr j) :
    lg c wr (a :: b :: B) i S at_ = lg c wr' (b :: a :: B) i S at_ := by
  rw [lg_cut, lg_cut, ← ht]
  by_cases h1 : sumE at_ (a.getD 2 0) c ≠ 0
  · rw [if_pos h1, if_pos h1]
  · rw [if_neg h1, if_neg h1]
    by_cases h2 : ∃ b ∈ S, ¬ VB (mvF at_ (a.getD 2 0) c b)
    · rw [if_pos h2, if_pos h2]
    · rw [if_neg h2, if_neg h2]
      have h1' : sumE at_ (a.getD 2 0) c = 0 := Decidable.byContradiction h1
      obtain ⟨vc, vt, _⟩ := sumE_ok h1'
      have hs : sumE (a.getD 2 0) (a.getD 2 0) c = 0 := sumE_self vc (by unfold VT at *; omega)
      have h4 : ∀ x ∈ S.map (mvF at_ (a.getD 2 0) c), x.length = 4 := fun x hx => by
        obtain ⟨y, _, rfl⟩ := List.mem_map.1 hx
        rfl
      have hv : ∀ x ∈ S.map (mvF at_ (a.getD 2 0) c), VB x := fun x hx => by
        obtain ⟨y, hy, rfl⟩ := List.mem_map.1 hx
        exact Decidable.byContradiction fun k => h2 ⟨y, hy, k⟩
      rw [lgO_two (bx_is ha).2.2 ht.symm hs h4 hv, lgO_two (bx_is hb).2.2 rfl hs h4 hv]
      have e1 : isW wr' ((i + 1 : Nat) : Int) = isW wr (i : Int) := w2
      rw [show isW wr' (i : Int) = isW wr ((i + 1 : Nat) : Int) from w1, e1, cutO_comm]
      cases (cutO (isW wr ((i + 1 : Nat) : Int)) (bxD b) (S.map (mvF at_ (a.getD 2 0) c))).bind (cutO (isW wr (i : Int)) (bxD a)) with
      | none => rfl
      | some T => exact lg_congr B (i + 1 + 1) T _ (fun j k1 k2 => (w3 j (by omega) (by omega)).symm)
def tau (k j : Nat) : Nat := if j = k then k + 1 else if j = k + 1 then k else j
theorem lg_swap {c wr wr' : List (List Int)} {a b : List Int} {B : List (List Int)} (ha : RVr a) (hb : RVr b) (ht : a.getD 2 0 = b.getD 2 0) : ∀ (A : List (List Int)) (i : Nat) (S : List (List Int)) (at_ : Int),
    (∀ j, i ≤ j → j < i + A.length + 2 + B.length → isW wr' j = isW wr (tau (i + A.length) j : Nat)) → lg c wr (A ++ a :: b :: B) i S at_ = lg c wr' (A ++ b :: a :: B) i S at_
  | [], i, S, at_, h => by
    have l0 : i + ([] : List (List Int)).length = i := rfl
    rw [l0] at h
    refine lg_swap0 ha hb ht ?_ ?_ ?_
    · rw [h i (Nat.le_refl _) (by omega)]; unfold tau; rw [if_pos rfl]
    · rw [h (i + 1) (by omega) (by omega)]; unfold tau; rw [if_neg (by omega), if_pos rfl]
    · intro j k1 k2
      rw [h j (by omega) (by omega)]; unfold tau; rw [if_neg (by omega), if_neg (by omega)]
  | r :: A, i, S, at_, h => by
    have el : i + (r :: A).length = i + 1 + A.length := by simp only [List.length_cons]; omega
    rw [el] at h
    have hi : isW wr' (i : Int) = isW wr (i : Int) := by
      rw [h i (Nat.le_refl _) (by omega)]; unfold tau; rw [if_neg (by omega), if_neg (by omega)]
    have rec' := fun S => lg_swap (c := c) ha hb ht A (i + 1) S (r.getD 2 0) (fun j k1 k2 => h j (by omega) k2)
    rw [List.cons_append, List.cons_append, lg_cons, lg_cons, hi, rec', rec']

/-! ### the story is valid as well -/
theorem tsB_swap {b0 : Int} {a b : List Int} {B : List (List Int)} (ht : a.getD 2 0 = b.getD 2 0) : ∀ (A : List (List Int)) (last : Int), tsB b0 last (A ++ a :: b :: B) = true → tsB b0 last (A ++ b :: a :: B) = true
  | [], last, h => by
    simp only [List.nil_append, tsB_cons, Bool.and_eq_true, decide_eq_true_eq] at h ⊢
    rw [← ht] at h ⊢
    exact ⟨⟨h.1.1, h.2.1.2⟩, ⟨h.2.1.1, h.1.2⟩, h.2.2⟩
  | r :: A, last, h => by
    rw [List.cons_append, tsB_cons, Bool.and_eq_true] at h ⊢
    exact ⟨h.1, tsB_swap ht A _ h.2⟩
theorem tsB_buoy {b0 : Int} : ∀ (l : List (List Int)) (last : Int), tsB b0 last l = true → ∀ r ∈ l, r.getD 3 0 = b0
  | [], _, _, r, hr => by cases hr
  | x :: l, last, h, r, hr => by
    simp only [tsB_cons, Bool.and_eq_true, beq_iff_eq] at h
    rcases List.mem_cons.1 hr with rfl | hr
    · exact h.1.2
    · exact tsB_buoy l _ h.2 r hr
theorem skey_symm {a b : List Int} (h : Si.sameKey a b = false) : Si.sameKey b a = false := by
  unfold Si.sameKey at *
  rw [Bool.eq_false_iff] at *
  intro k
  apply h
  simp only [Bool.and_eq_true, beq_iff_eq] at *
  omega
theorem mrgs_len : ∀ (l : List (List Int)) (i : Nat) (s : List (List Int) × List (List Int)), (Si.mrgs i l s).1.length ≤ s.1.length + l.length ∧
    ((Si.mrgs i l s).1.length = s.1.length + l.length ↔ (∀ y ∈ l, ∀ x ∈ s.1, Si.sameKey y x = false) ∧ l.Pairwise fun x y => Si.sameKey y x = false)
  | [], i, s => by
    refine ⟨Nat.le_refl _, fun _ => ⟨fun y hy => (by cases hy), List.Pairwise.nil⟩, fun _ => rfl⟩
  | r :: l, i, s => by
    show (Si.mrgs (i + 1) l (Si.mrg i r s)).1.length ≤ _ ∧ ((Si.mrgs (i + 1) l (Si.mrg i r s)).1.length = _ ↔ _)
    obtain ⟨h1, h2⟩ := mrgs_len l (i + 1) (Si.mrg i r s)
    rw [List.length_cons]
    cases hf : s.1.find? (Si.sameKey r) with
    | none =>
      have e : Si.mrg i r s = (s.1 ++ [r], s.2) := by unfold Si.mrg; rw [hf]
      rw [e] at h1 h2 ⊢
      have el : (s.1 ++ [r]).length = s.1.length + 1 := by simp
      simp only [el] at h1 h2 ⊢
      refine ⟨by omega, ?_⟩
      have : (Si.mrgs (i + 1) l (s.1 ++ [r], s.2)).1.length = s.1.length + (l.length + 1) ↔ (Si.mrgs (i + 1) l (s.1 ++ [r], s.2)).1.length = s.1.length + 1 + l.length := by omega
      rw [this, h2, List.pairwise_cons]
      have hn := List.find?_eq_none.1 hf
      constructor
      · rintro ⟨k1, k2⟩
        refine ⟨fun y hy x hx => ?_, fun y hy => k1 y hy r (by simp), k2⟩
        rcases List.mem_cons.1 hy with rfl | hy
        · simpa using hn x hx
        · exact k1 y hy x (by simp [hx])
      · rintro ⟨k1, k2, k3⟩
        refine ⟨fun y hy x hx => ?_, k3⟩
        rcases List.mem_append.1 hx with hx | hx
        · exact k1 y (by simp [hy]) x hx
        · rw [List.mem_singleton.1 hx]; exact k2 y hy
    | some o =>
      have e : (Si.mrg i r s).1 = s.1 := by
        unfold Si.mrg; rw [hf]
        simp only
        cases Si.same13 o r <;> rfl
      rw [e] at h1 h2
      refine ⟨by omega, fun k => by omega, fun k => ?_⟩
      have := k.1 r (by simp) o (List.mem_of_find?_eq_some hf)
      rw [List.find?_some hf] at this
      cases this
theorem merge_swap {A B : List (List Int)} {a b : List Int} (h : (Si.mrgs 0 (A ++ a :: b :: B) ([], [])).1.length = (A ++ a :: b :: B).length) : (Si.mrgs 0 (A ++ b :: a :: B) ([], [])).1.length = (A ++ b :: a :: B).length := by
  have h1 := (mrgs_len (A ++ a :: b :: B) 0 ([], [])).2
  have h2 := (mrgs_len (A ++ b :: a :: B) 0 ([], [])).2
  have z : ([] : List (List Int)).length = 0 := rfl
  simp only [z, Nat.zero_add] at h1 h2
  obtain ⟨_, p⟩ := h1.1 h
  refine h2.2 ⟨fun y _ x hx => (by cases hx), ?_⟩
  have hperm : (A ++ a :: b :: B).Perm (A ++ b :: a :: B) := List.Perm.append_left A (List.Perm.swap b a B)
  exact (hperm.pairwise_iff (R := fun x y => Si.sameKey y x = false) (fun {x y} k => skey_symm k)).1 p
theorem sv_swap {f : Int} {base fc A B : List (List Int)} {a b : List Int} (h13 : Si.El13 (A ++ a :: b :: B)) (ht : a.getD 2 0 = b.getD 2 0) (h : svE f base fc (A ++ a :: b :: B) = 0) : svE f base fc (A ++ b :: a :: B) = 0 := by
  have hsub : ∀ r ∈ A ++ b :: a :: B, r ∈ A ++ a :: b :: B := fun r hr => by
    simp only [List.mem_append, List.mem_cons] at *
    rcases hr with h | h | h | h <;> simp [h]
  have h13' : Si.El13 (A ++ b :: a :: B) := fun e he => h13 e (hsub e he)
  have el : (A ++ b :: a :: B).length = (A ++ a :: b :: B).length := by simp
  rcases sv_cases f base fc (A ++ a :: b :: B) with ⟨e, _⟩ | ⟨e, _⟩ | ⟨_, g, hm⟩
  · rw [e] at h; cases h
  · rw [e] at h; cases h
  · have rv' : ∀ r ∈ A ++ b :: a :: B, RVr r := fun r hr => g.rv r (hsub r hr)
    have hbu := tsB_buoy _ _ g.ts
    have g' : GS f base fc (A ++ b :: a :: B) := by
      refine ⟨g.vl, g.vc, g.f0, rv', by rw [el]; exact g.ln, ?_⟩
      have hb0 : ((A ++ b :: a :: B).getD 0 []).getD 3 0 = ((A ++ a :: b :: B).getD 0 []).getD 3 0 := by
        have hmem : (A ++ b :: a :: B).getD 0 [] ∈ A ++ b :: a :: B := getD_mem (by simp only [List.length_append, List.length_cons]; omega)
        exact hbu _ (hsub _ hmem)
      rw [hb0]
      exact tsB_swap ht A f g.ts
    rw [merge_len h13 g.rv g.ln] at hm
    have hle := (mrgs_len (A ++ a :: b :: B) 0 ([], [])).1
    have z : ([] : List (List Int)).length = 0 := rfl
    simp only [z, Nat.zero_add] at hle
    have hsw := merge_swap (A := A) (B := B) (a := a) (b := b) (by omega)
    rcases sv_cases f base fc (A ++ b :: a :: B) with ⟨_, k⟩ | ⟨_, _, k⟩ | ⟨e, _⟩
    · exact absurd g' k
    · rw [merge_len h13' rv' g'.ln, hsw] at k
      omega
    · exact e

/-! ### the sets -/
theorem tau_tau (k j : Nat) : tau k (tau k j) = j := by
  unfold tau
  by_cases h1 : j = k
  · rw [if_pos h1, if_neg (by omega), if_pos rfl]; omega
  · by_cases h2 : j = k + 1
    · rw [if_neg h1, if_pos h2, if_pos rfl]; omega
    · rw [if_neg h1, if_neg h2, if_neg h1, if_neg h2]
theorem tau_lt {k n j : Nat} (hk : k + 1 < n) (h : j < n) : tau k j < n := by unfold tau; split <;> (try split) <;> omega
theorem tau_perm {k n : Nat} (hk : k + 1 < n) : ((List.range n).map (tau k)).Perm (List.range n) := by
  refine (List.perm_ext_iff_of_nodup ?_ List.nodup_range).2 fun x => ?_
  · refine List.Pairwise.map _ (fun a b hab => ?_) List.nodup_range
    intro e
    apply hab
    rw [← tau_tau k a, e, tau_tau]
  · rw [List.mem_map, List.mem_range]
    constructor
    · rintro ⟨y, hy, rfl⟩
      exact tau_lt hk (List.mem_range.1 hy)
    · intro hx
      exact ⟨tau k x, List.mem_range.2 (tau_lt hk hx), tau_tau k x⟩
theorem sel_tau (q : Nat → Bool) {k n : Nat} (hk : k + 1 < n) : (selL (fun i => q (tau k i)) n).length = (selL q n).length := by
  unfold selL ofNums
  rw [List.length_map, List.length_map, List.length_map, List.length_map]
  have h1 := ((tau_perm hk).filter q).length_eq
  rw [List.filter_map, List.length_map] at h1
  exact h1
theorem sel_self {n : Nat} {s : Int} {w : List (List Int)} (h : w ∈ dsets n s) : (selL (fun i => isW w i) n).length = w.length := by
  obtain ⟨c, rfl, _, h2, h3⟩ := mem_dsets.1 h
  unfold selL
  have hperm : ((List.range n).filter fun (i : Nat) => isW (ofNums (c.map fun (x : Nat) => (x : Int))) (i : Int)).Perm c := by
    refine (List.perm_ext_iff_of_nodup (List.nodup_range.filter _) (h2.imp fun hab e => by omega)).2 fun x => ?_
    rw [List.mem_filter, List.mem_range]
    have hx : isW (ofNums (c.map fun (x : Nat) => (x : Int))) x = true ↔ x ∈ c := by
      unfold isW ofNums
      rw [List.any_map, List.any_map, List.any_eq_true]
      constructor
      · rintro ⟨y, hy, h⟩
        have : (x : Int) = (y : Int) := by simpa using h
        have : x = y := by omega
        rw [this]; exact hy
      · intro h
        exact ⟨x, h, by simp⟩
    rw [hx]
    exact ⟨fun k => k.2, fun k => ⟨h3 x k, k⟩⟩
  have := hperm.length_eq
  unfold ofNums at *
  simp only [List.length_map] at *
  exact this
end Go.Proofs.Ytnijhjpaplihbaa

/-!
  DeskTogether: the law.
-/
set_option linter.unusedVariables false
set_option linter.unusedSimpArgs false
set_option linter.unusedSectionVars false
set_option maxRecDepth 100000
namespace Go.Proofs.Ytnijhjpaplihbaa
open Go Go.Sy

theorem two_parts {rp : List (List Int)} {K : Nat} (h : K + 1 < rp.length) : ∃ A B, rp = A ++ rp.getD K [] :: rp.getD (K + 1) [] :: B ∧ A.length = K := by
  refine ⟨rp.take K, rp.drop (K + 2), ?_, by rw [List.length_take]; omega⟩
  conv => lhs; rw [← List.take_append_drop K rp, drop_cons1 (show K < rp.length by omega), drop_cons1 h]
theorem set_two (a b : List Int) (B : List (List Int)) : ∀ A : List (List Int), ((A ++ a :: b :: B).set A.length b).set (A.length + 1) a = A ++ b :: a :: B
  | [] => rfl
  | x :: A => by
    show x :: ((A ++ a :: b :: B).set A.length b).set (A.length + 1) a = _
    rw [set_two a b B A]; rfl
theorem el13_mem {l : List (List Int)} (h : Si.El13 l) {e : List Int} (he : e ∈ l) : e.length = 13 := h.len e he
theorem set13 {e : List Int} (h : e.length = 13) (x : List Int) : setEl 13 x 0 [e.getD 0 0, e.getD 1 0, e.getD 2 0, e.getD 3 0, e.getD 4 0, e.getD 5 0, e.getD 6 0, e.getD 7 0, e.getD 8 0, e.getD 9 0, e.getD 10 0, e.getD 11 0, e.getD 12 0] = e := by
  match e, h with
  | [e0, e1, e2, e3, e4, e5, e6, e7, e8, e9, e10, e11, e12], _ => rfl
section
variable {f most : Int} {base fc A B : List (List Int)} {a b : List Int} (h13 : Si.El13 (A ++ a :: b :: B)) (ht : a.getD 2 0 = b.getD 2 0)
theorem swap_len : (A ++ b :: a :: B).length = (A ++ a :: b :: B).length := by simp
theorem swap_mem : ∀ r ∈ A ++ b :: a :: B, r ∈ A ++ a :: b :: B := fun r hr => by
  simp only [List.mem_append, List.mem_cons] at *
  rcases hr with h | h | h | h <;> simp [h]
include ht in
theorem lw_swap {wr wr' : List (List Int)} (g : GS f base fc (A ++ a :: b :: B)) (h : ∀ j, j < (A ++ a :: b :: B).length → isW wr' j = isW wr (tau A.length j : Nat)) : lw f base fc (A ++ a :: b :: B) wr = lw f base fc (A ++ b :: a :: B) wr' := by
  unfold lw
  refine lg_swap (g.rv a (by simp)) (g.rv b (by simp)) ht A 0 base f (fun j _ k => ?_)
  rw [Nat.zero_add]
  refine h j ?_
  simp only [List.length_append, List.length_cons]
  omega
include ht in
theorem ex_swap (g : GS f base fc (A ++ a :: b :: B)) {n : Nat} {w : List (List Int)} (hw : w ∈ alls (A ++ a :: b :: B).length n) :
    ∃ w' ∈ alls (A ++ b :: a :: B).length n, w'.length = w.length ∧ lw f base fc (A ++ b :: a :: B) w' = lw f base fc (A ++ a :: b :: B) w := by
  obtain ⟨o1, o2, o3⟩ := alls_one hw
  have hk : A.length + 1 < (A ++ a :: b :: B).length := by simp only [List.length_append, List.length_cons]; omega
  have hl := sel_tau (fun (i : Nat) => isW w (i : Int)) hk
  have hl2 := sel_self o2
  have e1 : (selL (fun (i : Nat) => isW w ((tau A.length i : Nat) : Int)) (A ++ a :: b :: B).length).length = w.length := hl.trans hl2
  refine ⟨selL (fun (i : Nat) => isW w ((tau A.length i : Nat) : Int)) (A ++ a :: b :: B).length, ?_, e1, ?_⟩
  · rw [swap_len]
    exact in_alls (sel_one _ _) (sel_wB _ _) (by omega)
  · exact (lw_swap ht g (fun j hj => sel_isW (fun (i : Nat) => isW w ((tau A.length i : Nat) : Int)) hj)).symm
include h13 ht in
theorem ex_le (h : (exR f most base fc (A ++ a :: b :: B)).2.2 = 0) : ((exR f most base fc (A ++ b :: a :: B)).2.2 = 0 ∧ (exR f most base fc (A ++ b :: a :: B)).1.length ≤ (exR f most base fc (A ++ a :: b :: B)).1.length) ∨ (exR f most base fc (A ++ b :: a :: B)).2.2 = 3 := by
  obtain ⟨ha, hm, hF, h0, hL⟩ := ex_ok h
  obtain ⟨sv, g, m0, m3, hl⟩ := ask_ok ha
  have sv' := sv_swap h13 ht sv
  have ha' : askE f most base fc (A ++ b :: a :: B) = 0 := ask_of sv' m0 m3 (by rw [swap_len]; exact hl)
  obtain ⟨w', k1, k2, k3⟩ := ex_swap ht g hm
  have k0 : (lw f base fc (A ++ b :: a :: B) w').1 = 0 := by rw [k3]; exact h0
  have hne : ((lw f base fc (A ++ b :: a :: B) w').1 != 18) = true := by rw [k0]; rfl
  have cv' := lg_cv fc w' _ 0 base f k0
  cases hF' : (alls (A ++ b :: a :: B).length (most.toNat + 1)).find? (fun w => (lw f base fc (A ++ b :: a :: B) w).1 != 18) with
  | none => exact absurd hne (List.find?_eq_none.1 hF' w' k1)
  | some w =>
    have hw := (first_is hF' k1).1 hne
    have hw18 : (lw f base fc (A ++ b :: a :: B) w).1 ≠ 18 := by
      have := List.find?_some hF'
      exact bne_iff_ne.1 this
    have e : exR f most base fc (A ++ b :: a :: B) = if (lw f base fc (A ++ b :: a :: B) w).1 ≠ 0 then ([], [], (lw f base fc (A ++ b :: a :: B) w).1) else (w, (lw f base fc (A ++ b :: a :: B) w).2, 0) := by
      conv => lhs; unfold exR
      rw [ha', hF', if_neg (by decide)]
    rw [e]
    rcases cv_lg fc w _ 0 base f cv' with k | k | k
    · have k' : (lw f base fc (A ++ b :: a :: B) w).1 = 0 := k
      rw [if_neg (fun kk => kk k')]
      exact .inl ⟨rfl, by rw [← k2]; exact hw⟩
    · have k' : (lw f base fc (A ++ b :: a :: B) w).1 = 3 := k
      rw [if_pos (by rw [k']; decide), k']
      exact .inr rfl
    · exact absurd k hw18
include h13 ht in
theorem follow_swap {wr t : List (List Int)} (hq : ∀ j, j < (A ++ a :: b :: B).length → isW t j = isW wr (tau A.length j : Nat)) (htw : wB (A ++ b :: a :: B).length (-1) t = true) (h : fE f base fc (A ++ a :: b :: B) wr = 0) :
    fE f base fc (A ++ b :: a :: B) t = 0 ∧ fL f base fc (A ++ b :: a :: B) t = fL f base fc (A ++ a :: b :: B) wr ∧ (fL f base fc (A ++ a :: b :: B) wr).length ≤ 16 := by
  rcases sv_cases f base fc (A ++ a :: b :: B) with ⟨e, _⟩ | ⟨e, _⟩ | ⟨e, g, _⟩
  · exact absurd h (fE_bad (.inl (by rw [e]; decide)))
  · exact absurd h (fE_bad (.inl (by rw [e]; decide)))
  · cases hW : wB (A ++ a :: b :: B).length (-1) wr with
    | false => exact absurd h (fE_bad (.inr hW))
    | true =>
      obtain ⟨x1, x2⟩ := fE_ok e hW
      obtain ⟨y1, y2⟩ := fE_ok (sv_swap h13 ht e) htw
      have hs : lg fc wr (A ++ a :: b :: B) 0 base f = lg fc t (A ++ b :: a :: B) 0 base f := lw_swap ht g hq
      have h0 : (lg fc wr (A ++ a :: b :: B) 0 base f).1 = 0 := x1.symm.trans h
      refine ⟨by rw [y1, ← hs]; exact h0, by rw [y2, x2, hs], ?_⟩
      rw [x2]
      exact ((lg_vl fc wr _ 0 base f g.vl g.rv).1 h0).2.1
end
theorem deskTogether_ok (f at_ most : Int) (base fc rp wr : List (List Int)) (hat : 0 ≤ at_ ∧ at_ ≤ 255) (h13 : Si.El13 rp) (hf : fc.length ≤ 9223372036854775807) (hw : wr.length ≤ 9223372036854775807) :
    law25_DeskTogether_0 f at_ most base fc rp wr = true ∧ law25_DeskTogether_pre f at_ most base fc rp wr := by
  obtain ⟨hh, hp⟩ := head_ok
  by_cases hn : rp.length ≤ 8 ∧ 2 ≤ rp.length
  · have b0 : (!law25_few_0 f base fc rp || decide ((rp.length : Int) < 2)) = false := by
      unfold law25_few_0
      rw [decide_eq_true (show (rp.length : Int) ≤ 8 by omega), decide_eq_false (show ¬ (rp.length : Int) < 2 by omega)]
      rfl
    have wn : IntKind.i64.wrap ((rp.length : Int) - 1) = (rp.length : Int) - 1 := i64_wrap (by omega)
    obtain ⟨K, hK, eK⟩ : ∃ K : Nat, K + 1 < rp.length ∧ (IntKind.i64.wrap at_).tmod (IntKind.i64.wrap ((rp.length : Int) - 1)) = (K : Int) := by
      rw [wn, i64_wrap (by omega), Int.tmod_eq_emod_of_nonneg hat.1]
      have h1 := Int.emod_nonneg at_ (show (rp.length : Int) - 1 ≠ 0 by omega)
      have h2 := Int.emod_lt_of_pos at_ (show (0 : Int) < (rp.length : Int) - 1 by omega)
      exact ⟨(at_ % ((rp.length : Int) - 1)).toNat, by omega, by omega⟩
    have eK1 : IntKind.i64.wrap ((K : Int) + 1) = ((K + 1 : Nat) : Int) := wrap_succ (by omega)
    have t1 : ((K : Int)).toNat = K := Int.toNat_natCast K
    have t2 : (((K + 1 : Nat) : Int)).toNat = K + 1 := Int.toNat_natCast (K + 1)
    -- the exchanged ones
    have e14 : law25_DeskTogether_s14 f at_ most base fc rp wr = rp.getD (K + 1) [] := by
      unfold law25_DeskTogether_s14 law25_DeskTogether_s13 law25_DeskTogether_s0 law25_DeskTogether_s1 law25_DeskTogether_s2 law25_DeskTogether_s3 law25_DeskTogether_s4 law25_DeskTogether_s5 law25_DeskTogether_s6 law25_DeskTogether_s7 law25_DeskTogether_s8 law25_DeskTogether_s9 law25_DeskTogether_s10 law25_DeskTogether_s11 law25_DeskTogether_s12
      rw [eK, eK1, t2, List.nil_append]
      exact set13 (el13_mem h13 (getD_mem hK)) _
    have e22 : law25_DeskTogether_s22 f at_ most base fc rp wr = rp.getD K [] := by
      unfold law25_DeskTogether_s22 law25_DeskTogether_s21 law25_DeskTogether_s20 law25_DeskTogether_s19 law25_DeskTogether_s18 law25_DeskTogether_s17 law25_DeskTogether_s16
      rw [eK, t1, List.nil_append]
      exact set13 (el13_mem h13 (getD_mem (show K < rp.length by omega))) _
    have e23 : law25_DeskTogether_s23 f at_ most base fc rp wr = (rp.set K (rp.getD (K + 1) [])).set (K + 1) (rp.getD K []) := by
      unfold law25_DeskTogether_s23
      rw [e14, e22, eK, eK1, t1, t2, List.nil_append]
    -- the turned set
    have hl0 : loopOk (law25_DeskTogether_l0_step f at_ most base fc rp wr) (law25_DeskTogether_l0_init f at_ most base fc rp wr) ∧ gr (law25_DeskTogether_l0 f at_ most base fc rp wr).2 1 = selL (fun (i : Nat) => isW wr ((tau K i : Nat) : Int)) rp.length := by
      refine loop_for (step := law25_DeskTogether_l0_step f at_ most base fc rp wr) rp.length (fun j xs => xs = [.i (j : Int), .r (selL (fun (i : Nat) => isW wr ((tau K i : Nat) : Int)) j)]) (fun res => gr res.2 1 = selL (fun (i : Nat) => isW wr ((tau K i : Nat) : Int)) rp.length)
        (fun j xs hj e => ?_) (fun xs e => ?_) rfl
      · subst e
        have hs := sel_succ (fun (i : Nat) => isW wr ((tau K i : Nat) : Int)) j
        have hfit : fitsA 8 ((selL (fun (i : Nat) => isW wr ((tau K i : Nat) : Int)) j).length + [[(j : Int)]].length) := by
          have := sel_len (fun (i : Nat) => isW wr ((tau K i : Nat) : Int)) j
          unfold fitsA maxLen
          simp only [List.length_cons, List.length_nil]
          omega
        unfold law25_DeskTogether_l0_step
        rw [eK, eK1]
        simp only [gi_z, gr_1, gr_z, dlt hj, guardP_pos hfit]
        rw [wrap_succ (show j < 4611686018427387904 by omega)]
        have fin : ∀ z : Nat, z = tau K j → (∃ ys, guardP (law25_has_pre (z : Int) wr) (bif law25_has_0 (z : Int) wr then some (0, [U.i ((j + 1 : Nat) : Int), U.r (selL (fun (i : Nat) => isW wr ((tau K i : Nat) : Int)) j ++ [[(j : Int)]])]) else some (0, [U.i ((j + 1 : Nat) : Int), U.r (selL (fun (i : Nat) => isW wr ((tau K i : Nat) : Int)) j)])) = some (0, ys) ∧ ys = [.i ((j + 1 : Nat) : Int), .r (selL (fun (i : Nat) => isW wr ((tau K i : Nat) : Int)) (j + 1))]) := fun z hz => by
          obtain ⟨p1, p2⟩ := has_is (z : Int) wr hw
          rw [guardP_pos p1, p2, hz, hs]
          cases hq : isW wr ((tau K j : Nat) : Int) with
          | true => exact ⟨_, rfl, by rw [if_pos rfl]⟩
          | false => exact ⟨_, rfl, by rw [if_neg (by simp)]⟩
        left
        by_cases c1 : j = K
        · have q1 : ((j : Int) == (K : Int)) = true := by rw [beq_iff_eq]; omega
          have q2 : ((j : Int) == ((K + 1 : Nat) : Int)) = false := by rw [beq_eq_false_iff_ne]; omega
          rw [q1, q2, cond_true, cond_false]
          exact fin (K + 1) (by unfold tau; rw [if_pos c1])
        · have q1 : ((j : Int) == (K : Int)) = false := by rw [beq_eq_false_iff_ne]; omega
          rw [q1, cond_false]
          by_cases c2 : j = K + 1
          · have q2 : ((j : Int) == ((K + 1 : Nat) : Int)) = true := by rw [beq_iff_eq]; omega
            rw [q2, cond_true]
            exact fin K (by unfold tau; rw [if_neg c1, if_pos c2])
          · have q2 : ((j : Int) == ((K + 1 : Nat) : Int)) = false := by rw [beq_eq_false_iff_ne]; omega
            rw [q2, cond_false]
            exact fin j (by unfold tau; rw [if_neg c1, if_neg c2])
      · subst e
        refine ⟨8, [.i (rp.length : Int), .r (selL (fun (i : Nat) => isW wr ((tau K i : Nat) : Int)) rp.length)], ?_, by rw [gr_1, gr_z]⟩
        unfold law25_DeskTogether_l0_step
        simp only [gi_z, gr_1, gr_z, dnlt]
    obtain ⟨hl1, hl2⟩ := hl0
    have r0 : inR (K : Int) rp := inR_of (by omega)
    have r1 : inR ((K + 1 : Nat) : Int) rp := inR_of hK
    have rs : ∀ x, inR ((K + 1 : Nat) : Int) (rp.set K x) := fun x => inR_of (by rw [List.length_set]; exact hK)
    have fit : fitsA 104 (0 + rp.length) := by unfold fitsA maxLen; omega
    unfold law25_DeskTogether_0 law25_DeskTogether_pre
    rw [b0, hh, hl2, e14, e23, eK, eK1, t1, t2, List.nil_append, cond_false]
    have nz : IntKind.i64.wrap ((rp.length : Int) - 1) ≠ 0 := by rw [wn]; omega
    by_cases ht : (rp.getD K []).getD 2 0 = (rp.getD (K + 1) []).getD 2 0
    · have bt : ((rp.getD K []).getD 2 0 != (rp.getD (K + 1) []).getD 2 0) = false := by rw [bne_eq_false_iff_eq]; exact ht
      rw [bt, cond_false]
      obtain ⟨A, B, hAB, hA⟩ := two_parts hK
      -- everything about the exchanged ones
      have hset : (rp.set K (rp.getD (K + 1) [])).set (K + 1) (rp.getD K []) = A ++ rp.getD (K + 1) [] :: rp.getD K [] :: B := by
        conv => lhs; rw [hAB]
        have := set_two (rp.getD K []) (rp.getD (K + 1) []) B A
        rw [hA] at this
        exact (congrArg _ rfl).trans (by
          have g0 : (A ++ rp.getD K [] :: rp.getD (K + 1) [] :: B).getD (K + 1) [] = rp.getD (K + 1) [] := by rw [← hAB]
          have g1 : (A ++ rp.getD K [] :: rp.getD (K + 1) [] :: B).getD K [] = rp.getD K [] := by rw [← hAB]
          rw [g0, g1]; exact this)
      rw [hset]
      clear e14 e22 e23
      revert r0 r1 rs ht bt hAB hset
      generalize rp.getD K [] = a
      generalize rp.getD (K + 1) [] = b
      intro r0 r1 rs ht bt hAB hset
      clear hset
      subst hAB
      subst hA
      have h13' : Si.El13 (A ++ b :: a :: B) := fun e he => h13 e (swap_mem e he)
      have hlen : (A ++ b :: a :: B).length = (A ++ a :: b :: B).length := swap_len
      have hsl := sel_len (fun (i : Nat) => isW wr ((tau A.length i : Nat) : Int)) (A ++ a :: b :: B).length
      obtain ⟨f1, f2, f3⟩ := follow_is f base fc (A ++ a :: b :: B) wr h13 hf hw
      obtain ⟨g1, g2, g3⟩ := follow_is f base fc (A ++ b :: a :: B) (selL (fun (i : Nat) => isW wr ((tau A.length i : Nat) : Int)) (A ++ a :: b :: B).length) h13' hf (by omega)
      obtain ⟨x1, x2, _, x4⟩ := explain_is f most base fc (A ++ a :: b :: B) h13 hf
      obtain ⟨y1, y2, _, y4⟩ := explain_is f most base fc (A ++ b :: a :: B) h13' hf
      have x2' : desk_Explain_0 f most base fc (A ++ a :: b :: B) = (exR f most base fc (A ++ a :: b :: B)).1 := x2
      have x4' : desk_Explain_2 f most base fc (A ++ a :: b :: B) = (exR f most base fc (A ++ a :: b :: B)).2.2 := x4
      have y2' : desk_Explain_0 f most base fc (A ++ b :: a :: B) = (exR f most base fc (A ++ b :: a :: B)).1 := y2
      have y4' : desk_Explain_2 f most base fc (A ++ b :: a :: B) = (exR f most base fc (A ++ b :: a :: B)).2.2 := y4
      have x1' : desk_Explain_pre f most base fc (A ++ a :: b :: B) := x1
      have y1' : desk_Explain_pre f most base fc (A ++ b :: a :: B) := y1
      have le1 := ex_le (f := f) (most := most) (base := base) (fc := fc) h13 ht
      have le2 := ex_le (f := f) (most := most) (base := base) (fc := fc) h13' ht.symm
      have hfol := follow_swap (f := f) (base := base) (fc := fc) (wr := wr) h13 ht (fun j hj => sel_isW (fun (i : Nat) => isW wr ((tau A.length i : Nat) : Int)) hj) (by rw [hlen]; exact sel_wB _ _)
      rw [f2, f3, g2, g3, x2', x4', y2', y4']
      -- what Explain says
      have hX : (((exR f most base fc (A ++ a :: b :: B)).2.2 != 0 || (exR f most base fc (A ++ b :: a :: B)).2.2 != 0) = true ∧ ((((exR f most base fc (A ++ a :: b :: B)).2.2 == 0) == ((exR f most base fc (A ++ b :: a :: B)).2.2 == 0)) = true ∨ ((exR f most base fc (A ++ a :: b :: B)).2.2 == 3 || (exR f most base fc (A ++ b :: a :: B)).2.2 == 3) = true)) ∨
          (((exR f most base fc (A ++ a :: b :: B)).2.2 != 0 || (exR f most base fc (A ++ b :: a :: B)).2.2 != 0) = false ∧ (((exR f most base fc (A ++ a :: b :: B)).1.length : Int) == ((exR f most base fc (A ++ b :: a :: B)).1.length : Int)) = true) := by
        by_cases k1 : (exR f most base fc (A ++ a :: b :: B)).2.2 = 0
        · by_cases k2 : (exR f most base fc (A ++ b :: a :: B)).2.2 = 0
          · right
            rcases le1 k1 with ⟨_, l1⟩ | l1
            · rcases le2 k2 with ⟨_, l2⟩ | l2
              · exact ⟨by rw [k1, k2]; rfl, by rw [beq_iff_eq]; omega⟩
              · rw [k1] at l2; cases l2
            · rw [k2] at l1; cases l1
          · left
            rcases le1 k1 with ⟨l1, _⟩ | l1
            · exact absurd l1 k2
            · exact ⟨by rw [l1, Bool.or_eq_true]; right; rfl, .inr (by rw [l1, Bool.or_eq_true]; right; rfl)⟩
        · left
          have b1 : ((exR f most base fc (A ++ a :: b :: B)).2.2 != 0) = true := by rw [bne_iff_ne]; exact k1
          refine ⟨by rw [b1]; rfl, ?_⟩
          by_cases k2 : (exR f most base fc (A ++ b :: a :: B)).2.2 = 0
          · rcases le2 k2 with ⟨l2, _⟩ | l2
            · exact absurd l2 k1
            · right; rw [l2]; rfl
          · left
            have c1 : ((exR f most base fc (A ++ a :: b :: B)).2.2 == 0) = false := by rw [beq_eq_false_iff_ne]; exact k1
            have c2 : ((exR f most base fc (A ++ b :: a :: B)).2.2 == 0) = false := by rw [beq_eq_false_iff_ne]; exact k2
            rw [c1, c2]; rfl
      by_cases hF : fE f base fc (A ++ a :: b :: B) wr = 0
      · obtain ⟨q1, q2, q3⟩ := hfol hF
        obtain ⟨s1, s2⟩ := same_refl (fL f base fc (A ++ a :: b :: B) wr) (by omega)
        rw [hF, q1, q2, s2]
        refine ⟨?_, hp, fun _ => ⟨nz, r0, r0, r0, r1, r1, r1, fun _ => ⟨fit, r1, r1, r0, r0, r0, r0, rs _, rs _, hl1, f1, g1, fun _ => ⟨fun _ => s1, x1', y1'⟩, fun k => (by cases k)⟩⟩⟩
        rcases hX with ⟨k1, k2⟩ | ⟨k1, k2⟩
        · rw [k1]
          rcases k2 with k2 | k2 <;> rw [k2]
          · rfl
          · simp
        · rw [k1, k2]; rfl
      · have bF : (fE f base fc (A ++ a :: b :: B) wr == 0) = false := by rw [beq_eq_false_iff_ne]; exact hF
        rw [bF]
        refine ⟨?_, hp, fun _ => ⟨nz, r0, r0, r0, r1, r1, r1, fun _ => ⟨fit, r1, r1, r0, r0, r0, r0, rs _, rs _, hl1, f1, g1, fun k => (by cases k), fun _ => ⟨x1', y1'⟩⟩⟩⟩
        rcases hX with ⟨k1, k2⟩ | ⟨k1, k2⟩
        · rw [k1]
          rcases k2 with k2 | k2 <;> rw [k2]
          · rfl
          · simp
        · rw [k1, k2]; rfl
    · have bt : ((rp.getD K []).getD 2 0 != (rp.getD (K + 1) []).getD 2 0) = true := by rw [bne_iff_ne]; exact ht
      rw [bt]
      exact ⟨rfl, hp, fun _ => ⟨nz, r0, r0, r0, r1, r1, r1, fun k => (by cases k)⟩⟩
  · have b0 : (!law25_few_0 f base fc rp || decide ((rp.length : Int) < 2)) = true := by
      unfold law25_few_0
      rw [Bool.or_eq_true, Bool.not_eq_true', decide_eq_false_iff_not, decide_eq_true_eq]
      omega
    unfold law25_DeskTogether_0 law25_DeskTogether_pre
    rw [b0, hh]
    exact ⟨rfl, hp, fun h => (by cases h)⟩
theorem u8_bd {n : Int} (h : (Lit.int .u8 n).wf = true) : 0 ≤ n ∧ n ≤ 255 := by
  have h1 : IntKind.u8.min = 0 := by decide
  have h2 : IntKind.u8.max = 255 := by decide
  simp only [Lit.wf, h1, h2, Bool.and_eq_true, decide_eq_true_eq] at h
  exact h
end Go.Proofs.Ytnijhjpaplihbaa
