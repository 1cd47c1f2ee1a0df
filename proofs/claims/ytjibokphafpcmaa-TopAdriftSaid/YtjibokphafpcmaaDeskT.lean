/- Parts of other texts (wip/strip.py). -/
import Derived.Test.YtjibokphafpcmaaDeskG
import Derived.Test.YtjibokphafpcmaaSyH
/-! Several texts in one (wip/merge.py): XDeskH XDeskI. -/
/-!
  The examples at the head of chapter 25.
-/
set_option linter.unusedVariables false
set_option maxRecDepth 100000
set_option linter.unusedSimpArgs false
set_option linter.unusedSectionVars false
namespace Go.Proofs.Ytjibokphafpcmaa
open Go Go.Sy

def hB : List (List Int) := [[0, 10, 0, 10]]
def hF : List (List Int) := [[0, 100, 0, 0, 0, 0]]
def hR2 : List (List Int) := [[1, 1, 5, 1, 2, 3, 2, 3, 1, 0, 0, 1, 0], [1, 2, 5, 1, 3, 9, 3, 3, 1, 0, 0, 1, 0]]
def hR3 : List (List Int) := [[1, 1, 5, 1, 2, 3, 2, 3, 1, 0, 0, 1, 0], [1, 2, 5, 1, 3, 9, 3, 3, 1, 0, 0, 1, 0], [1, 3, 5, 1, 20, 30, 0, 10, 1, 0, 0, 1, 0]]
def hRR : List (List Int) := [[1, 1, 5, 1, 2, 3, 2, 3, 1, 0, 0, 1, 0], [1, 1, 5, 1, 2, 3, 2, 3, 1, 0, 0, 1, 0]]
def hT : List (List Int) := [[3, 3], [3, 3], [3, 3], [3, 3]]
def elB : List CK → List Int → Bool
  | [], [] => true
  | .int k :: ks, n :: ns => (Lit.int k n).wf && elB ks ns
  | .bool :: ks, n :: ns => decide (n = 0 ∨ n = 1) && elB ks ns
  | _, _ => false
theorem elB_ok : ∀ {ks : List CK} {ns : List Int}, elB ks ns = true → elOk ks ns
  | [], [], _ => trivial
  | .int k :: ks, n :: ns, h => by
    unfold elB at h; unfold elOk
    rw [Bool.and_eq_true] at h
    exact ⟨h.1, elB_ok h.2⟩
  | .bool :: ks, n :: ns, h => by
    unfold elB at h; unfold elOk
    rw [Bool.and_eq_true, decide_eq_true_eq] at h
    exact ⟨h.1, elB_ok h.2⟩
  | [], _ :: _, h => by cases h
  | .int _ :: _, [], h => by cases h
  | .bool :: _, [], h => by cases h
theorem h13_of {l : List (List Int)} (h : l.all (elB [.int .i64, .int .i64, .int .i64, .int .i64, .int .i64, .int .i64, .int .i64, .int .i64, .int .i64, .int .i64, .int .i64, .int .i64, .int .i64]) = true) : Si.El13 l :=
  fun e he => elB_ok (List.all_eq_true.1 h e he)
theorem h13_2 : Si.El13 hR2 := h13_of (by decide +kernel)
theorem h13_3 : Si.El13 hR3 := h13_of (by decide +kernel)
theorem h13_R : Si.El13 hRR := h13_of (by decide +kernel)
theorem gs2 : GS 0 hB hF hR2 := ⟨by decide +kernel, by decide +kernel, by decide, by decide +kernel, by decide, by decide⟩
theorem gs3 : GS 0 hB hF hR3 := ⟨by decide +kernel, by decide +kernel, by decide, by decide +kernel, by decide, by decide⟩
theorem gsR : GS 0 hB hF hRR := ⟨by decide +kernel, by decide +kernel, by decide, by decide +kernel, by decide, by decide⟩
theorem merge_len {rp : List (List Int)} (h13 : Si.El13 rp) (h1 : ∀ r ∈ rp, RVr r) (h2 : rp.length ≤ 60) : (sighting_Merge_0 rp).length = (Si.mrgs 0 rp ([], [])).1.length := by
  rw [(Si.smerge_0 rp h13).1, (svalid_iff rp).2 ⟨h2, h1⟩]
  rfl
theorem sv2 : svE 0 hB hF hR2 = 0 := by
  rcases sv_cases 0 hB hF hR2 with ⟨_, k⟩ | ⟨_, g, k⟩ | ⟨e, _⟩
  · exact absurd gs2 k
  · rw [merge_len h13_2 g.rv g.ln] at k; exact absurd k (by decide +kernel)
  · exact e
theorem sv3 : svE 0 hB hF hR3 = 0 := by
  rcases sv_cases 0 hB hF hR3 with ⟨_, k⟩ | ⟨_, g, k⟩ | ⟨e, _⟩
  · exact absurd gs3 k
  · rw [merge_len h13_3 g.rv g.ln] at k; exact absurd k (by decide +kernel)
  · exact e
theorem svR : svE 0 hB hF hRR = 5 := by
  rcases sv_cases 0 hB hF hRR with ⟨_, k⟩ | ⟨e, _⟩ | ⟨_, g, k⟩
  · exact absurd gsR k
  · exact e
  · rw [merge_len h13_R g.rv g.ln] at k; exact absurd (by decide +kernel) k
theorem hf1 : hF.length ≤ 9223372036854775807 := by decide
theorem h_fo2 : desk_Follow_pre 0 hB hF hR2 [] ∧ desk_Follow_1 0 hB hF hR2 [] = 0 ∧ desk_Follow_0 0 hB hF hR2 [] = [[3, 3, 3, 3]] := by
  obtain ⟨h1, h2, h3⟩ := follow_is 0 hB hF hR2 [] h13_2 hf1 (by decide)
  refine ⟨h1, h2.trans ?_, h3.trans ?_⟩
  · unfold fE; rw [sv2, if_neg (by decide), if_neg (by decide)]; decide +kernel
  · unfold fL; rw [sv2, if_pos (by decide)]; decide +kernel
theorem h_fo3 : desk_Follow_pre 0 hB hF hR3 [] ∧ desk_Follow_1 0 hB hF hR3 [] = 18 := by
  obtain ⟨h1, h2, h3⟩ := follow_is 0 hB hF hR3 [] h13_3 hf1 (by decide)
  refine ⟨h1, h2.trans ?_⟩
  unfold fE; rw [sv3, if_neg (by decide), if_neg (by decide)]; decide +kernel
theorem h_foR : desk_Follow_pre 0 hB hF hRR [] ∧ desk_Follow_1 0 hB hF hRR [] = 5 := by
  obtain ⟨h1, h2, h3⟩ := follow_is 0 hB hF hRR [] h13_R hf1 (by decide)
  refine ⟨h1, h2.trans ?_⟩
  unfold fE; rw [svR, if_neg (by decide), if_pos (by decide)]
theorem h_exR : exR 0 1 hB hF hR3 = ([[2]], [[3, 3, 3, 3]], 0) := by
  have ha : askE 0 1 hB hF hR3 = 0 := ask_of sv3 (by decide) (by decide) (by decide)
  have hfi : (alls hR3.length ((1 : Int).toNat + 1)).find? (fun w => (lw 0 hB hF hR3 w).1 != 18) = some [[2]] := by decide +kernel
  unfold exR
  rw [ha, if_neg (by decide), hfi]
  decide +kernel
theorem h_exR0 : exR 0 0 hB hF hR3 = ([], [], 18) := by
  have ha : askE 0 0 hB hF hR3 = 0 := ask_of sv3 (by decide) (by decide) (by decide)
  have hfi : (alls hR3.length ((0 : Int).toNat + 1)).find? (fun w => (lw 0 hB hF hR3 w).1 != 18) = none := by decide +kernel
  unfold exR
  rw [ha, if_neg (by decide), hfi]
theorem h_ex1 : desk_Explain_pre 0 1 hB hF hR3 ∧ desk_Explain_0 0 1 hB hF hR3 = [[2]] ∧ desk_Explain_1 0 1 hB hF hR3 = [[3, 3, 3, 3]] ∧ desk_Explain_2 0 1 hB hF hR3 = 0 := by
  obtain ⟨h1, h2, h3, h4⟩ := explain_is 0 1 hB hF hR3 h13_3 hf1
  rw [h_exR] at h2 h3 h4
  exact ⟨h1, h2, h3, h4⟩
theorem h_ex0 : desk_Explain_pre 0 0 hB hF hR3 ∧ desk_Explain_2 0 0 hB hF hR3 = 18 := by
  obtain ⟨h1, h2, h3, h4⟩ := explain_is 0 0 hB hF hR3 h13_3 hf1
  rw [h_exR0] at h4
  exact ⟨h1, h4⟩
theorem h_wh (n : Int) (b : List Int) (h0 : 0 ≤ n ∧ n ≤ 3) (hok : ∀ w ∈ alls hR2.length (n.toNat + 1), okE (lw 0 hB hF hR2 w).1) (hh : hull ((alls hR2.length (n.toNat + 1)).flatMap fun w => (lw 0 hB hF hR2 w).2) = b)
    (hn : ((alls hR2.length (n.toNat + 1)).flatMap fun w => (lw 0 hB hF hR2 w).2) ≠ []) :
    desk_Where_pre 0 n hB hF hR2 ∧ desk_Where_4 0 n hB hF hR2 = 0 ∧ desk_Where_0 0 n hB hF hR2 = b.getD 0 0 ∧ desk_Where_1 0 n hB hF hR2 = b.getD 1 0 ∧ desk_Where_2 0 n hB hF hR2 = b.getD 2 0 ∧ desk_Where_3 0 n hB hF hR2 = b.getD 3 0 := by
  obtain ⟨h1, h2⟩ := where_is 0 n hB hF hR2 h13_2 hf1
  have ha : askE 0 n hB hF hR2 = 0 := ask_of sv2 h0.1 h0.2 (by decide)
  rcases h2 with ⟨k, _⟩ | ⟨_, w, k1, k2, _⟩ | ⟨_, _, k, _⟩ | ⟨_, _, _, k⟩
  · exact absurd ha k
  · exact absurd (hok w k1) k2
  · exact absurd k hn
  · rw [hh] at k; exact ⟨h1, k⟩
theorem h_nm : desk_Named_pre 0 1 hB hF hR3 ∧ desk_Named_1 0 1 hB hF hR3 = 0 ∧ desk_Named_0 0 1 hB hF hR3 = [[2]] := by
  obtain ⟨h1, h2⟩ := named_is 0 1 hB hF hR3 h13_3 hf1
  rw [h_exR] at h2
  rcases h2 with ⟨k, _⟩ | ⟨_, ⟨w, k1, k2, _⟩, _⟩ | ⟨_, _, k1, k2⟩
  · exact absurd rfl k
  · exact absurd ((show ∀ w ∈ dsets hR3.length 1, okE (lw 0 hB hF hR3 w).1 by decide +kernel) w k1) k2
  · have e : (dsets hR3.length 1).foldl (fun out W => if (lw 0 hB hF hR3 W).1 = 0 then out.filter (kp W) else out) [[2]] = [[2]] := by decide +kernel
    exact ⟨h1, k1, k2.trans e⟩
theorem h_ch (wr : List (List Int)) (b : Bool) (hw : wr.length ≤ 3) (h1 : wB hR3.length (-1) wr = true) (h2 : ck hF wr hT hR3 0 0 (decide (inB (pX hT 0) (pY hT 0) hB)) = (0, b)) :
    desk_Check_pre 0 hB hF hR3 wr hT ∧ desk_Check_1 0 hB hF hR3 wr hT = 0 ∧ desk_Check_0 0 hB hF hR3 wr hT = b := by
  obtain ⟨k1, k2, k3⟩ := check_is 0 hB hF hR3 wr hT h13_3 hf1 (by omega)
  have e : chX 0 hB hF hR3 wr hT = (0, b) := by
    unfold chX
    rw [sv3, h1, if_neg (by decide +kernel), if_neg (by decide), h2]
  rw [e] at k2 k3
  exact ⟨k1, k2, k3⟩
end Go.Proofs.Ytjibokphafpcmaa

/-! Several texts in one (wip/merge.py): XDeskI XDeskJ. -/
/-!
  DeskTrue, as far as what the functions compute.
-/
set_option linter.unusedVariables false
set_option maxRecDepth 100000
set_option linter.unusedSimpArgs false
set_option linter.unusedSectionVars false
namespace Go.Proofs.Ytjibokphafpcmaa
open Go Go.Sy

theorem rowLe {W : World} {own : Bool} {e : TypeId} {k : Nat} {v : Value} {n : Nat} {vs : List Value} (h : RowOk W own e k v n vs) : n ≤ 9223372036854775807 := by
  obtain ⟨a, c, _, h1, h2⟩ := h.reads.is
  unfold maxLen at h2
  omega
theorem chx_bool {f : Int} {base fc rp wr tr : List (List Int)} (h : (chX f base fc rp wr tr).1 ≠ 0) : (chX f base fc rp wr tr).2 = false := by
  unfold chX at h ⊢
  split
  · rfl
  · rename_i h1
    rw [if_neg h1] at h
    split
    · rfl
    · rename_i h2
      rw [if_neg h2] at h
      exact ck_bool _ _ _ _ h
theorem told_fE {f : Int} {base fc rp wr tr : List (List Int)} (T : Told f base fc rp wr tr) : fE f base fc rp wr = (lg fc wr rp 0 base f).1 ∧ fL f base fc rp wr = (lg fc wr rp 0 base f).2 := by
  unfold fE fL
  rw [T.sv, T.wb, if_neg (by simp), if_neg (by simp), if_pos (by simp)]
  exact ⟨rfl, rfl⟩
theorem told_in {f : Int} {base fc rp wr tr : List (List Int)} (T : Told f base fc rp wr tr) :
    (lg fc wr rp 0 base f).1 = 3 ∨ ((lg fc wr rp 0 base f).1 = 0 ∧ VL (lg fc wr rp 0 base f).2 ∧ VP (pX tr rp.length) (pY tr rp.length) ∧ ∃ b ∈ (lg fc wr rp 0 base f).2, HB (pX tr rp.length) (pY tr rp.length) b) := by
  have h := tl_lg rp 0 base f T.gs.rv T.tl T.p0
  have hp := tl_vp rp 0 f T.tl T.v0
  rw [Nat.zero_add] at h hp
  rcases h with h | ⟨h1, h2⟩
  · exact .inl h
  · exact .inr ⟨h1, (lg_vl fc wr rp 0 base f T.gs.vl T.gs.rv).1 h1, hp, h2⟩
/-- The last place. -/
theorem last_ix {tr : List (List Int)} {n : Nat} (h : tr.length = n + 1) (hn : n ≤ 60) : IntKind.i64.wrap ((tr.length : Int) - 1) = (n : Int) := by
  rw [h, i64_wrap (by omega)]
  omega
end Go.Proofs.Ytjibokphafpcmaa

/-!
  DeskMore, as far as what the functions compute; the sets that the laws make.
-/
set_option linter.unusedVariables false
set_option maxRecDepth 100000
set_option linter.unusedSimpArgs false
set_option linter.unusedSectionVars false
namespace Go.Proofs.Ytjibokphafpcmaa
open Go Go.Sy

theorem isW_any (l : List (List Int)) (n : Int) : isW l n = l.any fun e => e.getD 0 0 == n := by
  unfold isW
  congr 1
  funext e
  rw [Bool.eq_iff_iff, beq_iff_eq, beq_iff_eq]
  exact eq_comm
theorem holds_is (b : List Int) (x y : Int) : ref02_Holds_0 (b.getD 0 0) (b.getD 1 0) (b.getD 2 0) (b.getD 3 0) x y = decide (HB x y b) := by
  rw [Bool.eq_iff_iff, decide_eq_true_eq]
  unfold ref02_Holds_0 HB
  simp only [Bool.and_eq_true, decide_eq_true_eq]
  exact ⟨fun ⟨⟨a, b⟩, c, d⟩ => ⟨a, b, c, d⟩, fun ⟨a, b, c, d⟩ => ⟨⟨a, b⟩, c, d⟩⟩
theorem rhas_is (x y : Int) (l : List (List Int)) (hl : l.length ≤ 9223372036854775807) : ref23_Has_pre x y l ∧ ref23_Has_0 x y l = decide (∃ b ∈ l, HB x y b) := by
  have key := loop_search (step := ref23_Has_l0_step x y l) l.length (fun q => decide (HB x y (l.getD q []))) (fun q => [.b false, .i q]) (fun q => []) 0 2 [.b false, .i l.length]
    (fun q hq => by
      unfold ref23_Has_l0_step
      simp only [gi_1, gi_z, gb_z, dlt hq, guardP_pos (inR_of hq), Int.toNat_natCast, wrap_succ' (show q < 9223372036854775807 by omega), holds_is])
    (by
      unfold ref23_Has_l0_step
      simp only [gi_1, gi_z, gb_z, dnlt])
  refine ⟨key.1, ?_⟩
  unfold ref23_Has_0
  rcases key.2 with ⟨q, q1, q2, q3, q4⟩ | ⟨q3, q4⟩
  · have e : ref23_Has_l0 x y l = (1, []) := q4
    rw [e, decide_eq_true (show ∃ b ∈ l, HB x y b from ⟨_, getD_mem q1, by simpa using q2⟩)]
    rfl
  · have e : ref23_Has_l0 x y l = (3, [.b false, .i l.length]) := q4
    rw [e, decide_eq_false (show ¬ ∃ b ∈ l, HB x y b from fun ⟨b, hb, h⟩ => by
      obtain ⟨q, hq, rfl⟩ := getD_of_mem hb
      have := q3 q hq
      simp only [decide_eq_false_iff_not] at this
      exact this h)]
    rfl

/-! ### sets that are made -/
def selL (q : Nat → Bool) (n : Nat) : List (List Int) := ofNums (((List.range n).filter q).map fun (x : Nat) => (x : Int))
theorem sel_succ (q : Nat → Bool) (j : Nat) : selL q (j + 1) = if q j = true then selL q j ++ [[(j : Int)]] else selL q j := by
  unfold selL ofNums
  rw [List.range_succ, List.filter_append, List.map_append, List.map_append]
  cases h : q j with
  | true => rw [if_pos rfl]; simp [h]
  | false => rw [if_neg (by simp)]; simp [h]
theorem sel_len (q : Nat → Bool) (n : Nat) : (selL q n).length ≤ n := by
  unfold selL ofNums
  rw [List.length_map, List.length_map]
  exact Nat.le_trans (List.length_filter_le _ _) (by simp)
theorem sel_pw (q : Nat → Bool) (n : Nat) : ((List.range n).filter q).Pairwise (· < ·) := (List.pairwise_lt_range).filter _
theorem sel_wB (q : Nat → Bool) (n : Nat) : wB n (-1) (selL q n) = true :=
  wB_of _ n (-1) (sel_pw q n) (fun x hx => by
    have := List.mem_range.1 (List.mem_filter.1 hx).1
    omega)
theorem sel_isW (q : Nat → Bool) {n i : Nat} (h : i < n) : isW (selL q n) i = q i := by
  rw [Bool.eq_iff_iff]
  unfold isW selL ofNums
  rw [List.any_map, List.any_map, List.any_eq_true]
  constructor
  · rintro ⟨x, hx, h2⟩
    have : (i : Int) = (x : Int) := by simpa using h2
    have : i = x := by omega
    subst this
    exact (List.mem_filter.1 hx).2
  · intro h2
    exact ⟨i, List.mem_filter.2 ⟨List.mem_range.2 h, h2⟩, by simp⟩
theorem sel_one (q : Nat → Bool) (n : Nat) : ∀ e ∈ selL q n, e.length = 1 := by
  intro e he
  unfold selL ofNums at he
  obtain ⟨z, _, rfl⟩ := List.mem_map.1 he
  rfl
/-- The wrong reports matter as far as they are reports. -/
theorem lg_congr {c wr wr' : List (List Int)} : ∀ (rs : List (List Int)) (i : Nat) (set : List (List Int)) (at_ : Int), (∀ j, i ≤ j → j < i + rs.length → isW wr j = isW wr' j) → lg c wr rs i set at_ = lg c wr' rs i set at_
  | [], _, _, _, _ => rfl
  | r :: rs, i, set, at_, h => by
    rw [lg_cons, lg_cons, h i (Nat.le_refl _) (by simp)]
    have rec' := fun set => lg_congr (c := c) (wr := wr) (wr' := wr') rs (i + 1) set (r.getD 2 0) (fun j h1 h2 => h j (by omega) (by simp only [List.length_cons]; omega))
    rw [rec', rec']

/-! ### more wrong ones -/
def dom (S T : List (List Int)) : Prop := ∀ b ∈ S, ∃ b' ∈ T, WB b b'
theorem wb_mono {f u : Int} {c : List (List Int)} {p q : List Int} (h : WB p q) : WB (mvF f u c p) (mvF f u c q) := by
  have g1 := mvF_get f u c p
  have g2 := mvF_get f u c q
  unfold lo hi at g1 g2
  unfold WB at *
  omega
theorem wb_cut {b b' d : List Int} (h : WB b b') (hm : MB b d) : MB b' d ∧ WB (mtB b d) (mtB b' d) := by
  have g1 := mtB_get b d
  have g2 := mtB_get b' d
  unfold WB MB at *
  omega
theorem wb_in {b b' d : List Int} (h : WB b b') : WB (mtB b d) b' := by
  have g1 := mtB_get b d
  unfold WB at *
  omega
theorem dom_mv {S T : List (List Int)} (h : dom S T) (f u : Int) (c : List (List Int)) : dom (S.map (mvF f u c)) (T.map (mvF f u c)) := by
  intro b hb
  obtain ⟨x, hx, rfl⟩ := List.mem_map.1 hb
  obtain ⟨y, hy, hw⟩ := h x hx
  exact ⟨_, List.mem_map.2 ⟨y, hy, rfl⟩, wb_mono hw⟩
theorem dom_cut {S T : List (List Int)} (h : dom S T) (d : List Int) : dom (cutP d S) (cutP d T) := by
  intro b hb
  obtain ⟨x, hx, hm, rfl⟩ := mem_cutP.1 hb
  obtain ⟨y, hy, hw⟩ := h x hx
  obtain ⟨m, w⟩ := wb_cut hw hm
  exact ⟨_, mem_cutP.2 ⟨y, hy, m, rfl⟩, w⟩
theorem dom_in {S T : List (List Int)} (h : dom S T) (d : List Int) : dom (cutP d S) T := by
  intro b hb
  obtain ⟨x, hx, hm, rfl⟩ := mem_cutP.1 hb
  obtain ⟨y, hy, hw⟩ := h x hx
  exact ⟨y, hy, wb_in hw⟩
theorem dom_nil {S : List (List Int)} (h : dom S []) : S = [] := by
  cases S with
  | nil => rfl
  | cons a S => obtain ⟨_, k, _⟩ := h a (by simp); cases k
theorem lg_more {c wr wr' : List (List Int)} : ∀ (rs : List (List Int)) (i : Nat) (S T : List (List Int)) (at_ : Int), (∀ j, i ≤ j → j < i + rs.length → isW wr j = true → isW wr' j = true) → dom S T → (lg c wr rs i S at_).1 = 0 →
    (lg c wr' rs i T at_).1 = 3 ∨ ((lg c wr' rs i T at_).1 = 0 ∧ dom (lg c wr rs i S at_).2 (lg c wr' rs i T at_).2)
  | [], _, _, _, _, _, hd, _ => .inr ⟨rfl, hd⟩
  | r :: rs, i, S, T, at_, hw, hd, h => by
    have rec' := fun S T => lg_more (c := c) (wr := wr) (wr' := wr') rs (i + 1) S T (r.getD 2 0) (fun j h1 h2 => hw j (by omega) (by simp only [List.length_cons]; omega))
    have hi := hw i (Nat.le_refl _) (by simp)
    have hm := dom_mv hd at_ (r.getD 2 0) c
    rcases lg_step c wr' r rs i T at_ with ⟨h1, e⟩ | ⟨h1, h2, e⟩ | ⟨h1, h2, h3, e⟩ | ⟨h1, h2, h3, h4, e⟩ | ⟨h1, h2, h3, h4, e⟩ <;>
    rcases lg_step c wr r rs i S at_ with ⟨k1, e'⟩ | ⟨k1, k2, e'⟩ | ⟨k1, k2, k3, e'⟩ | ⟨k1, k2, k3, k4, e'⟩ | ⟨k1, k2, k3, k4, e'⟩ <;>
    rw [e'] at h <;> rw [e, e'] <;>
    first
    | exact absurd h k1
    | exact absurd h (by decide)
    | exact absurd k1 h1
    | exact .inl rfl
    | exact rec' _ _ hm h
    | exact rec' _ _ (dom_in hm (bxD r)) h
    | exact rec' _ _ (dom_cut hm (bxD r)) h
    | (rw [hi k3] at h3; cases h3)
    | (have := dom_cut hm (bxD r); rw [h4] at this; exact absurd (dom_nil this) k4)
theorem dom_refl (S : List (List Int)) : dom S S := fun b hb => ⟨b, hb, by unfold WB; omega⟩
theorem dom_hb {S T : List (List Int)} (h : dom S T) {x y : Int} : (∃ b ∈ S, HB x y b) → ∃ b ∈ T, HB x y b := by
  rintro ⟨b, hb, hx⟩
  obtain ⟨b', hb', hw⟩ := h b hb
  refine ⟨b', hb', ?_⟩
  unfold HB WB at *
  omega
section
variable (f k px py : Int) (base fc rp wr : List (List Int))
def moreQ (i : Nat) : Bool := isW wr i || (i : Int) == k
theorem fE_ok {f : Int} {base fc rp wr : List (List Int)} (h : svE f base fc rp = 0) (hw : wB rp.length (-1) wr = true) : fE f base fc rp wr = (lg fc wr rp 0 base f).1 ∧ fL f base fc rp wr = (lg fc wr rp 0 base f).2 := by
  unfold fE fL
  rw [h, hw, if_neg (by simp), if_neg (by simp), if_pos (by simp)]
  exact ⟨rfl, rfl⟩
theorem fE_bad {f : Int} {base fc rp wr : List (List Int)} (h : svE f base fc rp ≠ 0 ∨ wB rp.length (-1) wr = false) : fE f base fc rp wr ≠ 0 := by
  unfold fE
  split
  · decide
  · rename_i h1
    split
    · assumption
    · rename_i h2
      rcases h with h | h
      · exact absurd h h2
      · exact absurd (.inr h) h1
end
theorem in_alls {m n : Nat} {w : List (List Int)} (h1 : ∀ e ∈ w, e.length = 1) (h2 : wB m (-1) w = true) (h3 : w.length < n) : w ∈ alls m n := mem_alls.2 ⟨w.length, h3, wB_dsets h1 h2⟩
end Go.Proofs.Ytjibokphafpcmaa

/-! Several texts in one (wip/merge.py): XDeskM XDeskW. -/
/-! Several texts in one (wip/merge.py): XDeskM XDeskT XDeskU. -/
/-!
  DeskFewest, as far as what the functions compute.
-/
set_option linter.unusedVariables false
set_option maxRecDepth 100000
set_option linter.unusedSimpArgs false
set_option linter.unusedSectionVars false
namespace Go.Proofs.Ytjibokphafpcmaa
open Go Go.Sy

def lexL : List (List Int) → List (List Int) → Bool
  | x :: r, y :: s => if x.getD 0 0 ≠ y.getD 0 0 then decide (x.getD 0 0 < y.getD 0 0) else lexL r s
  | _, _ => false
def befB (a b : List (List Int)) : Bool := if a.length ≠ b.length then decide (a.length < b.length) else lexL a b
theorem lexL_cons (x y : List Int) (r s : List (List Int)) : lexL (x :: r) (y :: s) = if x.getD 0 0 ≠ y.getD 0 0 then decide (x.getD 0 0 < y.getD 0 0) else lexL r s := rfl
theorem lexL_nil (b : List (List Int)) : lexL [] b = false := by cases b <;> rfl
theorem lexL_asymm : ∀ a b : List (List Int), lexL a b = true → lexL b a = false
  | [], b, h => by rw [lexL_nil] at h; cases h
  | a :: r, [], h => rfl
  | x :: r, y :: s, h => by
    rw [lexL_cons] at h ⊢
    by_cases e : x.getD 0 0 = y.getD 0 0
    · rw [if_neg (fun k => k e)] at h
      rw [if_neg (fun k => k e.symm)]
      exact lexL_asymm r s h
    · rw [if_pos e, decide_eq_true_eq] at h
      rw [if_pos (fun k => e k.symm), decide_eq_false_iff_not]
      omega
theorem befB_asymm {a b : List (List Int)} (h : befB a b = true) : befB b a = false := by
  unfold befB at h ⊢
  by_cases e : a.length = b.length
  · rw [if_neg (fun k => k e)] at h
    rw [if_neg (fun k => k e.symm)]
    exact lexL_asymm a b h
  · rw [if_pos e, decide_eq_true_eq] at h
    rw [if_pos (fun k => e k.symm), decide_eq_false_iff_not]
    omega
theorem befB_len {a b : List (List Int)} (h : befB a b = true) : a.length ≤ b.length := by
  unfold befB at h
  by_cases e : a.length = b.length
  · omega
  · rw [if_pos e, decide_eq_true_eq] at h
    omega
/-! ### the sets are in order -/
theorem lexL_nums : ∀ c d : List Nat, lexL (ofNums (c.map fun (x : Nat) => (x : Int))) (ofNums (d.map fun (x : Nat) => (x : Int))) = lexN c d
  | [], d => by
    show lexL [] _ = _
    rw [lexL_nil]
    cases d <;> rfl
  | a :: c, [] => rfl
  | a :: c, b :: d => by
    show lexL ([(a : Int)] :: ofNums (c.map fun (x : Nat) => (x : Int))) ([(b : Int)] :: ofNums (d.map fun (x : Nat) => (x : Int))) = (decide (a < b) || (decide (a = b) && lexN c d))
    rw [lexL_cons, lexL_nums c d]
    show (if (a : Int) ≠ (b : Int) then decide ((a : Int) < (b : Int)) else lexN c d) = _
    by_cases e : a = b
    · subst e
      rw [if_neg (by simp)]
      simp
    · rw [if_pos (by omega), decide_eq_false e, Bool.false_and, Bool.or_false, decide_eq_decide]
      omega
theorem dsets_pw (m : Nat) (n : Int) : (dsets m n).Pairwise fun a b => befB a b = true := by
  unfold dsets
  rw [List.pairwise_map]
  have h1 := cmbs_lex m n.toNat 0
  have h2 : ∀ c ∈ cmbs m n.toNat 0, c.length = n.toNat := fun c hc => ((mem_cmbs _ _ _ _).1 hc).1
  refine h1.imp_of_mem fun {a b} ha hb h => ?_
  unfold befB
  rw [if_neg, lexL_nums]
  · exact h
  · unfold ofNums
    simp [h2 a ha, h2 b hb]
theorem alls_pw (m : Nat) : ∀ n, (alls m n).Pairwise fun a b => befB a b = true
  | 0 => List.Pairwise.nil
  | n + 1 => by
    show (alls m n ++ dsets m n).Pairwise _
    refine List.pairwise_append.2 ⟨alls_pw m n, dsets_pw m n, fun a ha b hb => ?_⟩
    have h1 := (alls_one ha).1
    have h2 := dsets_len hb
    unfold befB
    rw [if_pos (by omega), decide_eq_true_eq]
    omega
/-- What is found first: all sets ahead of it are no explanations; others that are come behind it. -/
theorem first_is {m n : Nat} {p : List (List Int) → Bool} {w x : List (List Int)} (h : (alls m n).find? p = some w) (hx : x ∈ alls m n) : (p x = true → w.length ≤ x.length) ∧ (befB x w = true → p x = false) := by
  obtain ⟨h1, pre_, post_, h2, h3⟩ := List.find?_eq_some_iff_append.1 h
  have hp := alls_pw m n
  rw [h2] at hx hp
  obtain ⟨_, p2, p3⟩ := List.pairwise_append.1 hp
  rcases List.mem_append.1 hx with hx | hx
  · have := h3 x hx
    have h4 : p x = false := by simpa using this
    exact ⟨fun k => (by rw [h4] at k; cases k), fun _ => h4⟩
  · rcases List.mem_cons.1 hx with rfl | hx
    · refine ⟨fun _ => Nat.le_refl _, fun k => ?_⟩
      rw [befB_asymm k] at k; cases k
    · have hb := (List.pairwise_cons.1 p2).1 x hx
      refine ⟨fun _ => befB_len hb, fun k => ?_⟩
      rw [befB_asymm hb] at k; cases k
section
variable {f most : Int} {base fc rp wr tr : List (List Int)}
theorem told_ex (T : Told f base fc rp wr tr) (hn : rp.length ≤ 12) (h1 : ∀ e ∈ wr, e.length = 1) (m0 : 0 ≤ most) (m3 : most ≤ 3) (hl : (wr.length : Int) ≤ most) :
    ((exR f most base fc rp).2.2 = 0 ∧ (exR f most base fc rp).1.length ≤ wr.length) ∨ (exR f most base fc rp).2.2 = 3 := by
  have ha : askE f most base fc rp = 0 := ask_of T.sv m0 m3 hn
  have hin : wr ∈ alls rp.length (most.toNat + 1) := in_alls h1 T.wb (by omega)
  have hne : (lw f base fc rp wr).1 ≠ 18 := by
    rcases told_in T with h | ⟨h, _⟩ <;> unfold lw <;> rw [h] <;> decide
  cases hF : (alls rp.length (most.toNat + 1)).find? (fun w => (lw f base fc rp w).1 != 18) with
  | none =>
    have := List.find?_eq_none.1 hF wr hin
    exact absurd (bne_iff_ne.2 hne) this
  | some w =>
    have hw := (first_is hF hin).1 (bne_iff_ne.2 hne)
    have hw18 : (lw f base fc rp w).1 ≠ 18 := by
      have := List.find?_some hF
      exact bne_iff_ne.1 this
    unfold exR
    rw [ha, hF, if_neg (by decide)]
    simp only
    rcases cv_lg fc w rp 0 base f (tl_cv rp 0 f T.tl) with k | k | k
    · rw [if_neg (fun kk => kk k)]
      exact .inl ⟨rfl, hw⟩
    · have k' : (lw f base fc rp w).1 = 3 := k
      rw [if_pos (by rw [k']; decide), k']
      exact .inr rfl
    · exact absurd k hw18
theorem same_refl (a : List (List Int)) (h : a.length < 4611686018427387904) : ref23_Same_pre a a ∧ ref23_Same_0 a a = true := by
  obtain ⟨h1, h2⟩ := same_is a a h
  refine ⟨h1, h2.2 ⟨rfl, fun i _ => ?_⟩⟩
  unfold same4
  simp
theorem ex_follow (h : (exR f most base fc rp).2.2 = 0) : fE f base fc rp (exR f most base fc rp).1 = 0 ∧ fL f base fc rp (exR f most base fc rp).1 = (exR f most base fc rp).2.1 ∧ (exR f most base fc rp).2.1.length ≤ 16 ∧ 0 < (exR f most base fc rp).2.1.length ∧ ((exR f most base fc rp).1.length : Int) ≤ most := by
  obtain ⟨ha, hm, hF, h0, hL⟩ := ex_ok h
  obtain ⟨sv, g, m0, m3, hl⟩ := ask_ok ha
  obtain ⟨o1, o2, _⟩ := alls_one hm
  obtain ⟨x1, x2⟩ := fE_ok sv (dsets_wB o2)
  have v := (lg_vl fc (exR f most base fc rp).1 rp 0 base f g.vl g.rv).1 h0
  refine ⟨x1.trans h0, x2.trans hL.symm, ?_, ?_, by omega⟩
  · rw [hL]; exact v.2.1
  · rw [hL]; exact v.1
theorem ex_before (h : (exR f most base fc rp).2.2 = 0) {o : List (List Int)} (h1 : ∀ e ∈ o, e.length = 1) (hb : befB o (exR f most base fc rp).1 = true) : fE f base fc rp o = 18 ∨ fE f base fc rp o = 1 := by
  obtain ⟨ha, hm, hF, h0, hL⟩ := ex_ok h
  obtain ⟨sv, g, m0, m3, hl⟩ := ask_ok ha
  obtain ⟨o1, _, _⟩ := alls_one hm
  have hlen := befB_len hb
  cases hW : wB rp.length (-1) o with
  | false =>
    right
    unfold fE
    rw [if_pos (.inr hW)]
  | true =>
    have hx := (first_is hF (in_alls h1 hW (by omega))).2 hb
    rw [bne_eq_false_iff_eq] at hx
    exact .inl ((fE_ok sv hW).1.trans hx)
end
end Go.Proofs.Ytjibokphafpcmaa

/-!
  DeskTogether, as far as what the functions compute.
-/
set_option linter.unusedVariables false
set_option linter.unusedSimpArgs false
set_option linter.unusedSectionVars false
set_option maxRecDepth 100000
namespace Go.Proofs.Ytjibokphafpcmaa
open Go Go.Sy

/-! ### one report, and two -/
def cutO (w : Bool) (d : List Int) (S : List (List Int)) : Option (List (List Int)) := if w = true then some S else if cutP d S = [] then none else some (cutP d S)
def lgO (c wr rs : List (List Int)) (i : Nat) (t : Int) : Option (List (List Int)) → Int × List (List Int)
  | none => (18, [])
  | some S => lg c wr rs i S t
theorem lg_cut (c wr : List (List Int)) (r : List Int) (rs : List (List Int)) (i : Nat) (set : List (List Int)) (at_ : Int) : lg c wr (r :: rs) i set at_ =
    if sumE at_ (r.getD 2 0) c ≠ 0 then (sumE at_ (r.getD 2 0) c, [])
    else if ∃ b ∈ set, ¬ VB (mvF at_ (r.getD 2 0) c b) then (3, [])
    else lgO c wr rs (i + 1) (r.getD 2 0) (cutO (isW wr i) (bxD r) (set.map (mvF at_ (r.getD 2 0) c))) := by
  rw [lg_cons]
  by_cases h1 : sumE at_ (r.getD 2 0) c ≠ 0
  · rw [if_pos h1, if_pos h1]
  · rw [if_neg h1, if_neg h1]
    by_cases h2 : ∃ b ∈ set, ¬ VB (mvF at_ (r.getD 2 0) c b)
    · rw [if_pos h2, if_pos h2]
    · rw [if_neg h2, if_neg h2]
      unfold cutO
      by_cases h3 : isW wr i = true
      · rw [if_pos h3, if_pos h3]; rfl
      · rw [if_neg h3, if_neg h3]
        by_cases h4 : cutP (bxD r) (set.map (mvF at_ (r.getD 2 0) c)) = []
        · rw [if_pos h4, if_pos h4]; rfl
        · rw [if_neg h4, if_neg h4]; rfl
theorem mv_none {t : Int} {c : List (List Int)} (h : sumE t t c = 0) {b : List Int} (hb : b.length = 4) : mvF t t c b = b := by
  have z : ∀ k, sumV t t k c = 0 := fun k => by rw [sumV_ok h, sumL_none]
  match b, hb with
  | [x, y, u, v], _ =>
    unfold mvF mvB lo hi
    rw [z, z, z, z]
    simp only [List.getD_cons_zero, List.getD_cons_succ]
    congr 1
    · omega
    · congr 1
      · omega
      · congr 1
        · omega
        · congr 1
          omega
theorem mv_len (f u : Int) (c : List (List Int)) (b : List Int) : (mvF f u c b).length = 4 := rfl
theorem cut4 {d : List Int} {S : List (List Int)} : ∀ b ∈ cutP d S, b.length = 4 := by
  intro b hb
  obtain ⟨x, _, _, rfl⟩ := mem_cutP.1 hb
  rfl
theorem map_none {t : Int} {c : List (List Int)} (h : sumE t t c = 0) : ∀ S : List (List Int), (∀ b ∈ S, b.length = 4) → S.map (mvF t t c) = S
  | [], _ => rfl
  | b :: S, h4 => by rw [List.map_cons, mv_none h (h4 b (by simp)), map_none h S (fun x hx => h4 x (by simp [hx]))]
/-- A further report of the same time. -/
theorem lg_same {c wr : List (List Int)} {r : List Int} {rs : List (List Int)} {i : Nat} {S : List (List Int)} {t : Int} (ht : r.getD 2 0 = t) (hs : sumE t t c = 0) (h4 : ∀ b ∈ S, b.length = 4) (hv : ∀ b ∈ S, VB b) :
    lg c wr (r :: rs) i S t = lgO c wr rs (i + 1) t (cutO (isW wr i) (bxD r) S) := by
  rw [lg_cut, ht, if_neg (fun k => k hs), map_none hs S h4, if_neg]
  rintro ⟨b, hb, k⟩
  rw [mv_none hs (h4 b hb)] at k
  exact k (hv b hb)
theorem cut_comm (a b : List Int) (S : List (List Int)) : cutP b (cutP a S) = cutP a (cutP b S) := by
  unfold cutP
  rw [List.filterMap_filterMap, List.filterMap_filterMap]
  congr 1
  funext x
  have key : ∀ p q : List Int, ((if MB x p then some (mtB x p) else none).bind fun y => if MB y q then some (mtB y q) else none) = if MB (mtB x p) q then some (mtB (mtB x p) q) else none := fun p q => by
    by_cases h : MB x p
    · rw [if_pos h]; rfl
    · rw [if_neg h, if_neg]
      · rfl
      · intro k
        apply h
        have g := mtB_get x p
        unfold MB at *
        omega
  rw [key, key]
  have e : mtB (mtB x a) b = mtB (mtB x b) a := by
    unfold mtB
    simp only [List.getD_cons_zero, List.getD_cons_succ]
    congr 1
    · omega
    · congr 1
      · omega
      · congr 1
        · omega
        · congr 1
          omega
  have m : MB (mtB x a) b ↔ MB (mtB x b) a := by
    have g := mtB_get x a
    have g' := mtB_get x b
    unfold MB
    rw [g.1, g.2.1, g.2.2.1, g.2.2.2, g'.1, g'.2.1, g'.2.2.1, g'.2.2.2]
    simp only [Int.max_le, Int.le_min]
    constructor <;> intro h <;> omega
  rw [e]
  by_cases h : MB (mtB x a) b
  · rw [if_pos h, if_pos (m.1 h)]
  · rw [if_neg h, if_neg (fun k => h (m.2 k))]
theorem cut_nil (d : List Int) : cutP d [] = [] := rfl
theorem cutO_comm (w w' : Bool) (a b : List Int) (S : List (List Int)) : (cutO w a S).bind (cutO w' b) = (cutO w' b S).bind (cutO w a) := by
  have hc := cut_comm a b S
  unfold cutO
  cases w <;> cases w'
  · simp only [Bool.false_eq_true, if_false]
    by_cases ha : cutP a S = [] <;> by_cases hb : cutP b S = []
    · rw [if_pos ha, if_pos hb]; rfl
    · rw [if_pos ha, if_neg hb]
      show none = if cutP a (cutP b S) = [] then none else some (cutP a (cutP b S))
      rw [← hc, ha, cut_nil, if_pos rfl]
    · rw [if_neg ha, if_pos hb]
      show (if cutP b (cutP a S) = [] then none else some (cutP b (cutP a S))) = none
      rw [hc, hb, cut_nil, if_pos rfl]
    · rw [if_neg ha, if_neg hb]
      show (if cutP b (cutP a S) = [] then none else some (cutP b (cutP a S))) = if cutP a (cutP b S) = [] then none else some (cutP a (cutP b S))
      rw [hc]
  · simp only [Bool.false_eq_true, if_false, if_true]
    by_cases ha : cutP a S = []
    · rw [if_pos ha]
      show none = if cutP a S = [] then none else some (cutP a S)
      rw [if_pos ha]
    · rw [if_neg ha]
      show some (cutP a S) = if cutP a S = [] then none else some (cutP a S)
      rw [if_neg ha]
  · simp only [Bool.false_eq_true, if_false, if_true]
    by_cases hb : cutP b S = []
    · rw [if_pos hb]
      show (if cutP b S = [] then none else some (cutP b S)) = none
      rw [if_pos hb]
    · rw [if_neg hb]
      show (if cutP b S = [] then none else some (cutP b S)) = some (cutP b S)
      rw [if_neg hb]
  · rfl
theorem cutO_ok {w : Bool} {d : List Int} {S T : List (List Int)} (hd : VB d) (h : cutO w d S = some T) (h4 : ∀ b ∈ S, b.length = 4) (hv : ∀ b ∈ S, VB b) : (∀ b ∈ T, b.length = 4) ∧ ∀ b ∈ T, VB b := by
  unfold cutO at h
  split at h
  · cases h; exact ⟨h4, hv⟩
  · split at h
    · cases h
    · cases h
      refine ⟨cut4, fun b hb => ?_⟩
      obtain ⟨x, hx, hm, rfl⟩ := mem_cutP.1 hb
      exact vb_mt (hv x hx) hd hm
theorem lgO_two {c wr : List (List Int)} {r : List Int} {rs : List (List Int)} {i : Nat} {S : List (List Int)} {t : Int} {w : Bool} {d : List Int} (hd : VB d) (ht : r.getD 2 0 = t) (hs : sumE t t c = 0) (h4 : ∀ b ∈ S, b.length = 4) (hv : ∀ b ∈ S, VB b) :
    lgO c wr (r :: rs) i t (cutO w d S) = lgO c wr rs (i + 1) t ((cutO w d S).bind (cutO (isW wr i) (bxD r))) := by
  cases h : cutO w d S with
  | none => rfl
  | some T =>
    obtain ⟨k4, kv⟩ := cutO_ok hd h h4 hv
    exact lg_same ht hs k4 kv
/-- Two reports exchanged: first of all. -/
theorem lg_swap0 {c wr wr' : List (List Int)} {a b : List Int} {B : List (List Int)} {i : Nat} {S : List (List Int)} {at_ : Int} (ha : RVr a) (hb : RVr b) (ht : a.getD 2 0 = b.getD 2 0)
    (w1 : isW wr' i = isW wr (i + 1 : Nat)) (w2 : isW wr' (i + 1 : Nat) = isW wr i) (w3 : ∀ j, i + 2 ≤ j → j < i + 2 + B.length → isW wr' j = isW wr j) :
    lg c wr (a :: b :: B) i S at_ = lg c wr' (b :: a :: B) i S at_ := by
  rw [lg_cut, lg_cut, ← ht]
  by_cases h1 : sumE at_ (a.getD 2 0) c ≠ 0
  · rw [if_pos h1, if_pos h1]
  · rw [if_neg h1, if_neg h1]
    by_cases h2 : ∃ b ∈ S, ¬ VB (mvF at_ (a.getD 2 0) c b)
    · rw [if_pos h2, if_pos h2]
    · rw [if_neg h2, if_neg h2]
      have h1' : sumE at_ (a.getD 2 0) c = 0 := Decidable.byContradiction h1
      obtain ⟨vc, vt, _⟩ := sumE_ok h1'
      have hs : sumE (a.getD 2 0) (a.getD 2 0) c = 0 := sumE_self vc (by unfold VT at *; omega)
      have h4 : ∀ x ∈ S.map (mvF at_ (a.getD 2 0) c), x.length = 4 := fun x hx => by
        obtain ⟨y, _, rfl⟩ := List.mem_map.1 hx
        rfl
      have hv : ∀ x ∈ S.map (mvF at_ (a.getD 2 0) c), VB x := fun x hx => by
        obtain ⟨y, hy, rfl⟩ := List.mem_map.1 hx
        exact Decidable.byContradiction fun k => h2 ⟨y, hy, k⟩
      rw [lgO_two (bx_is ha).2.2 ht.symm hs h4 hv, lgO_two (bx_is hb).2.2 rfl hs h4 hv]
      have e1 : isW wr' ((i + 1 : Nat) : Int) = isW wr (i : Int) := w2
      rw [show isW wr' (i : Int) = isW wr ((i + 1 : Nat) : Int) from w1, e1, cutO_comm]
      cases (cutO (isW wr ((i + 1 : Nat) : Int)) (bxD b) (S.map (mvF at_ (a.getD 2 0) c))).bind (cutO (isW wr (i : Int)) (bxD a)) with
      | none => rfl
      | some T => exact lg_congr B (i + 1 + 1) T _ (fun j k1 k2 => (w3 j (by omega) (by omega)).symm)
def tau (k j : Nat) : Nat := if j = k then k + 1 else if j = k + 1 then k else j
theorem lg_swap {c wr wr' : List (List Int)} {a b : List Int} {B : List (List Int)} (ha : RVr a) (hb : RVr b) (ht : a.getD 2 0 = b.getD 2 0) : ∀ (A : List (List Int)) (i : Nat) (S : List (List Int)) (at_ : Int),
    (∀ j, i ≤ j → j < i + A.length + 2 + B.length → isW wr' j = isW wr (tau (i + A.length) j : Nat)) → lg c wr (A ++ a :: b :: B) i S at_ = lg c wr' (A ++ b :: a :: B) i S at_
  | [], i, S, at_, h => by
    have l0 : i + ([] : List (List Int)).length = i := rfl
    rw [l0] at h
    refine lg_swap0 ha hb ht ?_ ?_ ?_
    · rw [h i (Nat.le_refl _) (by omega)]; unfold tau; rw [if_pos rfl]
    · rw [h (i + 1) (by omega) (by omega)]; unfold tau; rw [if_neg (by omega), if_pos rfl]
    · intro j k1 k2
      rw [h j (by omega) (by omega)]; unfold tau; rw [if_neg (by omega), if_neg (by omega)]
  | r :: A, i, S, at_, h => by
    have el : i + (r :: A).length = i + 1 + A.length := by simp only [List.length_cons]; omega
    rw [el] at h
    have hi : isW wr' (i : Int) = isW wr (i : Int) := by
      rw [h i (Nat.le_refl _) (by omega)]; unfold tau; rw [if_neg (by omega), if_neg (by omega)]
    have rec' := fun S => lg_swap (c := c) ha hb ht A (i + 1) S (r.getD 2 0) (fun j k1 k2 => h j (by omega) k2)
    rw [List.cons_append, List.cons_append, lg_cons, lg_cons, hi, rec', rec']

/-! ### the story is valid as well -/
theorem tsB_swap {b0 : Int} {a b : List Int} {B : List (List Int)} (ht : a.getD 2 0 = b.getD 2 0) : ∀ (A : List (List Int)) (last : Int), tsB b0 last (A ++ a :: b :: B) = true → tsB b0 last (A ++ b :: a :: B) = true
  | [], last, h => by
    simp only [List.nil_append, tsB_cons, Bool.and_eq_true, decide_eq_true_eq] at h ⊢
    rw [← ht] at h ⊢
    exact ⟨⟨h.1.1, h.2.1.2⟩, ⟨h.2.1.1, h.1.2⟩, h.2.2⟩
  | r :: A, last, h => by
    rw [List.cons_append, tsB_cons, Bool.and_eq_true] at h ⊢
    exact ⟨h.1, tsB_swap ht A _ h.2⟩
theorem tsB_buoy {b0 : Int} : ∀ (l : List (List Int)) (last : Int), tsB b0 last l = true → ∀ r ∈ l, r.getD 3 0 = b0
  | [], _, _, r, hr => by cases hr
  | x :: l, last, h, r, hr => by
    simp only [tsB_cons, Bool.and_eq_true, beq_iff_eq] at h
    rcases List.mem_cons.1 hr with rfl | hr
    · exact h.1.2
    · exact tsB_buoy l _ h.2 r hr
theorem skey_symm {a b : List Int} (h : Si.sameKey a b = false) : Si.sameKey b a = false := by
  unfold Si.sameKey at *
  rw [Bool.eq_false_iff] at *
  intro k
  apply h
  simp only [Bool.and_eq_true, beq_iff_eq] at *
  omega
theorem mrgs_len : ∀ (l : List (List Int)) (i : Nat) (s : List (List Int) × List (List Int)), (Si.mrgs i l s).1.length ≤ s.1.length + l.length ∧
    ((Si.mrgs i l s).1.length = s.1.length + l.length ↔ (∀ y ∈ l, ∀ x ∈ s.1, Si.sameKey y x = false) ∧ l.Pairwise fun x y => Si.sameKey y x = false)
  | [], i, s => by
    refine ⟨Nat.le_refl _, fun _ => ⟨fun y hy => (by cases hy), List.Pairwise.nil⟩, fun _ => rfl⟩
  | r :: l, i, s => by
    show (Si.mrgs (i + 1) l (Si.mrg i r s)).1.length ≤ _ ∧ ((Si.mrgs (i + 1) l (Si.mrg i r s)).1.length = _ ↔ _)
    obtain ⟨h1, h2⟩ := mrgs_len l (i + 1) (Si.mrg i r s)
    rw [List.length_cons]
    cases hf : s.1.find? (Si.sameKey r) with
    | none =>
      have e : Si.mrg i r s = (s.1 ++ [r], s.2) := by unfold Si.mrg; rw [hf]
      rw [e] at h1 h2 ⊢
      have el : (s.1 ++ [r]).length = s.1.length + 1 := by simp
      simp only [el] at h1 h2 ⊢
      refine ⟨by omega, ?_⟩
      have : (Si.mrgs (i + 1) l (s.1 ++ [r], s.2)).1.length = s.1.length + (l.length + 1) ↔ (Si.mrgs (i + 1) l (s.1 ++ [r], s.2)).1.length = s.1.length + 1 + l.length := by omega
      rw [this, h2, List.pairwise_cons]
      have hn := List.find?_eq_none.1 hf
      constructor
      · rintro ⟨k1, k2⟩
        refine ⟨fun y hy x hx => ?_, fun y hy => k1 y hy r (by simp), k2⟩
        rcases List.mem_cons.1 hy with rfl | hy
        · simpa using hn x hx
        · exact k1 y hy x (by simp [hx])
      · rintro ⟨k1, k2, k3⟩
        refine ⟨fun y hy x hx => ?_, k3⟩
        rcases List.mem_append.1 hx with hx | hx
        · exact k1 y (by simp [hy]) x hx
        · rw [List.mem_singleton.1 hx]; exact k2 y hy
    | some o =>
      have e : (Si.mrg i r s).1 = s.1 := by
        unfold Si.mrg; rw [hf]
        simp only
        cases Si.same13 o r <;> rfl
      rw [e] at h1 h2
      refine ⟨by omega, fun k => by omega, fun k => ?_⟩
      have := k.1 r (by simp) o (List.mem_of_find?_eq_some hf)
      rw [List.find?_some hf] at this
      cases this
theorem merge_swap {A B : List (List Int)} {a b : List Int} (h : (Si.mrgs 0 (A ++ a :: b :: B) ([], [])).1.length = (A ++ a :: b :: B).length) : (Si.mrgs 0 (A ++ b :: a :: B) ([], [])).1.length = (A ++ b :: a :: B).length := by
  have h1 := (mrgs_len (A ++ a :: b :: B) 0 ([], [])).2
  have h2 := (mrgs_len (A ++ b :: a :: B) 0 ([], [])).2
  have z : ([] : List (List Int)).length = 0 := rfl
  simp only [z, Nat.zero_add] at h1 h2
  obtain ⟨_, p⟩ := h1.1 h
  refine h2.2 ⟨fun y _ x hx => (by cases hx), ?_⟩
  have hperm : (A ++ a :: b :: B).Perm (A ++ b :: a :: B) := List.Perm.append_left A (List.Perm.swap b a B)
  exact (hperm.pairwise_iff (R := fun x y => Si.sameKey y x = false) (fun {x y} k => skey_symm k)).1 p
theorem sv_swap {f : Int} {base fc A B : List (List Int)} {a b : List Int} (h13 : Si.El13 (A ++ a :: b :: B)) (ht : a.getD 2 0 = b.getD 2 0) (h : svE f base fc (A ++ a :: b :: B) = 0) : svE f base fc (A ++ b :: a :: B) = 0 := by
  have hsub : ∀ r ∈ A ++ b :: a :: B, r ∈ A ++ a :: b :: B := fun r hr => by
    simp only [List.mem_append, List.mem_cons] at *
    rcases hr with h | h | h | h <;> simp [h]
  have h13' : Si.El13 (A ++ b :: a :: B) := fun e he => h13 e (hsub e he)
  have el : (A ++ b :: a :: B).length = (A ++ a :: b :: B).length := by simp
  rcases sv_cases f base fc (A ++ a :: b :: B) with ⟨e, _⟩ | ⟨e, _⟩ | ⟨_, g, hm⟩
  · rw [e] at h; cases h
  · rw [e] at h; cases h
  · have rv' : ∀ r ∈ A ++ b :: a :: B, RVr r := fun r hr => g.rv r (hsub r hr)
    have hbu := tsB_buoy _ _ g.ts
    have g' : GS f base fc (A ++ b :: a :: B) := by
      refine ⟨g.vl, g.vc, g.f0, rv', by rw [el]; exact g.ln, ?_⟩
      have hb0 : ((A ++ b :: a :: B).getD 0 []).getD 3 0 = ((A ++ a :: b :: B).getD 0 []).getD 3 0 := by
        have hmem : (A ++ b :: a :: B).getD 0 [] ∈ A ++ b :: a :: B := getD_mem (by simp only [List.length_append, List.length_cons]; omega)
        exact hbu _ (hsub _ hmem)
      rw [hb0]
      exact tsB_swap ht A f g.ts
    rw [merge_len h13 g.rv g.ln] at hm
    have hle := (mrgs_len (A ++ a :: b :: B) 0 ([], [])).1
    have z : ([] : List (List Int)).length = 0 := rfl
    simp only [z, Nat.zero_add] at hle
    have hsw := merge_swap (A := A) (B := B) (a := a) (b := b) (by omega)
    rcases sv_cases f base fc (A ++ b :: a :: B) with ⟨_, k⟩ | ⟨_, _, k⟩ | ⟨e, _⟩
    · exact absurd g' k
    · rw [merge_len h13' rv' g'.ln, hsw] at k
      omega
    · exact e

/-! ### the sets -/
theorem tau_tau (k j : Nat) : tau k (tau k j) = j := by
  unfold tau
  by_cases h1 : j = k
  · rw [if_pos h1, if_neg (by omega), if_pos rfl]; omega
  · by_cases h2 : j = k + 1
    · rw [if_neg h1, if_pos h2, if_pos rfl]; omega
    · rw [if_neg h1, if_neg h2, if_neg h1, if_neg h2]
theorem tau_lt {k n j : Nat} (hk : k + 1 < n) (h : j < n) : tau k j < n := by unfold tau; split <;> (try split) <;> omega
theorem tau_perm {k n : Nat} (hk : k + 1 < n) : ((List.range n).map (tau k)).Perm (List.range n) := by
  refine (List.perm_ext_iff_of_nodup ?_ List.nodup_range).2 fun x => ?_
  · refine List.Pairwise.map _ (fun a b hab => ?_) List.nodup_range
    intro e
    apply hab
    rw [← tau_tau k a, e, tau_tau]
  · rw [List.mem_map, List.mem_range]
    constructor
    · rintro ⟨y, hy, rfl⟩
      exact tau_lt hk (List.mem_range.1 hy)
    · intro hx
      exact ⟨tau k x, List.mem_range.2 (tau_lt hk hx), tau_tau k x⟩
theorem sel_tau (q : Nat → Bool) {k n : Nat} (hk : k + 1 < n) : (selL (fun i => q (tau k i)) n).length = (selL q n).length := by
  unfold selL ofNums
  rw [List.length_map, List.length_map, List.length_map, List.length_map]
  have h1 := ((tau_perm hk).filter q).length_eq
  rw [List.filter_map, List.length_map] at h1
  exact h1
theorem sel_self {n : Nat} {s : Int} {w : List (List Int)} (h : w ∈ dsets n s) : (selL (fun i => isW w i) n).length = w.length := by
  obtain ⟨c, rfl, _, h2, h3⟩ := mem_dsets.1 h
  unfold selL
  have hperm : ((List.range n).filter fun (i : Nat) => isW (ofNums (c.map fun (x : Nat) => (x : Int))) (i : Int)).Perm c := by
    refine (List.perm_ext_iff_of_nodup (List.nodup_range.filter _) (h2.imp fun hab e => by omega)).2 fun x => ?_
    rw [List.mem_filter, List.mem_range]
    have hx : isW (ofNums (c.map fun (x : Nat) => (x : Int))) x = true ↔ x ∈ c := by
      unfold isW ofNums
      rw [List.any_map, List.any_map, List.any_eq_true]
      constructor
      · rintro ⟨y, hy, h⟩
        have : (x : Int) = (y : Int) := by simpa using h
        have : x = y := by omega
        rw [this]; exact hy
      · intro h
        exact ⟨x, h, by simp⟩
    rw [hx]
    exact ⟨fun k => k.2, fun k => ⟨h3 x k, k⟩⟩
  have := hperm.length_eq
  unfold ofNums at *
  simp only [List.length_map] at *
  exact this
end Go.Proofs.Ytjibokphafpcmaa

/-!
  DeskTogether: the law.
-/
set_option linter.unusedVariables false
set_option linter.unusedSimpArgs false
set_option linter.unusedSectionVars false
set_option maxRecDepth 100000
namespace Go.Proofs.Ytjibokphafpcmaa
open Go Go.Sy

theorem two_parts {rp : List (List Int)} {K : Nat} (h : K + 1 < rp.length) : ∃ A B, rp = A ++ rp.getD K [] :: rp.getD (K + 1) [] :: B ∧ A.length = K := by
  refine ⟨rp.take K, rp.drop (K + 2), ?_, by rw [List.length_take]; omega⟩
  conv => lhs; rw [← List.take_append_drop K rp, drop_cons1 (show K < rp.length by omega), drop_cons1 h]
theorem set_two (a b : List Int) (B : List (List Int)) : ∀ A : List (List Int), ((A ++ a :: b :: B).set A.length b).set (A.length + 1) a = A ++ b :: a :: B
  | [] => rfl
  | x :: A => by
    show x :: ((A ++ a :: b :: B).set A.length b).set (A.length + 1) a = _
    rw [set_two a b B A]; rfl
theorem el13_mem {l : List (List Int)} (h : Si.El13 l) {e : List Int} (he : e ∈ l) : e.length = 13 := h.len e he
theorem set13 {e : List Int} (h : e.length = 13) (x : List Int) : setEl 13 x 0 [e.getD 0 0, e.getD 1 0, e.getD 2 0, e.getD 3 0, e.getD 4 0, e.getD 5 0, e.getD 6 0, e.getD 7 0, e.getD 8 0, e.getD 9 0, e.getD 10 0, e.getD 11 0, e.getD 12 0] = e := by
  match e, h with
  | [e0, e1, e2, e3, e4, e5, e6, e7, e8, e9, e10, e11, e12], _ => rfl
section
variable {f most : Int} {base fc A B : List (List Int)} {a b : List Int} (h13 : Si.El13 (A ++ a :: b :: B)) (ht : a.getD 2 0 = b.getD 2 0)
theorem swap_len : (A ++ b :: a :: B).length = (A ++ a :: b :: B).length := by simp
theorem swap_mem : ∀ r ∈ A ++ b :: a :: B, r ∈ A ++ a :: b :: B := fun r hr => by
  simp only [List.mem_append, List.mem_cons] at *
  rcases hr with h | h | h | h <;> simp [h]
include ht in
theorem lw_swap {wr wr' : List (List Int)} (g : GS f base fc (A ++ a :: b :: B)) (h : ∀ j, j < (A ++ a :: b :: B).length → isW wr' j = isW wr (tau A.length j : Nat)) : lw f base fc (A ++ a :: b :: B) wr = lw f base fc (A ++ b :: a :: B) wr' := by
  unfold lw
  refine lg_swap (g.rv a (by simp)) (g.rv b (by simp)) ht A 0 base f (fun j _ k => ?_)
  rw [Nat.zero_add]
  refine h j ?_
  simp only [List.length_append, List.length_cons]
  omega
include ht in
theorem ex_swap (g : GS f base fc (A ++ a :: b :: B)) {n : Nat} {w : List (List Int)} (hw : w ∈ alls (A ++ a :: b :: B).length n) :
    ∃ w' ∈ alls (A ++ b :: a :: B).length n, w'.length = w.length ∧ lw f base fc (A ++ b :: a :: B) w' = lw f base fc (A ++ a :: b :: B) w := by
  obtain ⟨o1, o2, o3⟩ := alls_one hw
  have hk : A.length + 1 < (A ++ a :: b :: B).length := by simp only [List.length_append, List.length_cons]; omega
  have hl := sel_tau (fun (i : Nat) => isW w (i : Int)) hk
  have hl2 := sel_self o2
  have e1 : (selL (fun (i : Nat) => isW w ((tau A.length i : Nat) : Int)) (A ++ a :: b :: B).length).length = w.length := hl.trans hl2
  refine ⟨selL (fun (i : Nat) => isW w ((tau A.length i : Nat) : Int)) (A ++ a :: b :: B).length, ?_, e1, ?_⟩
  · rw [swap_len]
    exact in_alls (sel_one _ _) (sel_wB _ _) (by omega)
  · exact (lw_swap ht g (fun j hj => sel_isW (fun (i : Nat) => isW w ((tau A.length i : Nat) : Int)) hj)).symm
include h13 ht in
theorem ex_le (h : (exR f most base fc (A ++ a :: b :: B)).2.2 = 0) : ((exR f most base fc (A ++ b :: a :: B)).2.2 = 0 ∧ (exR f most base fc (A ++ b :: a :: B)).1.length ≤ (exR f most base fc (A ++ a :: b :: B)).1.length) ∨ (exR f most base fc (A ++ b :: a :: B)).2.2 = 3 := by
  obtain ⟨ha, hm, hF, h0, hL⟩ := ex_ok h
  obtain ⟨sv, g, m0, m3, hl⟩ := ask_ok ha
  have sv' := sv_swap h13 ht sv
  have ha' : askE f most base fc (A ++ b :: a :: B) = 0 := ask_of sv' m0 m3 (by rw [swap_len]; exact hl)
  obtain ⟨w', k1, k2, k3⟩ := ex_swap ht g hm
  have k0 : (lw f base fc (A ++ b :: a :: B) w').1 = 0 := by rw [k3]; exact h0
  have hne : ((lw f base fc (A ++ b :: a :: B) w').1 != 18) = true := by rw [k0]; rfl
  have cv' := lg_cv fc w' _ 0 base f k0
  cases hF' : (alls (A ++ b :: a :: B).length (most.toNat + 1)).find? (fun w => (lw f base fc (A ++ b :: a :: B) w).1 != 18) with
  | none => exact absurd hne (List.find?_eq_none.1 hF' w' k1)
  | some w =>
    have hw := (first_is hF' k1).1 hne
    have hw18 : (lw f base fc (A ++ b :: a :: B) w).1 ≠ 18 := by
      have := List.find?_some hF'
      exact bne_iff_ne.1 this
    have e : exR f most base fc (A ++ b :: a :: B) = if (lw f base fc (A ++ b :: a :: B) w).1 ≠ 0 then ([], [], (lw f base fc (A ++ b :: a :: B) w).1) else (w, (lw f base fc (A ++ b :: a :: B) w).2, 0) := by
      conv => lhs; unfold exR
      rw [ha', hF', if_neg (by decide)]
    rw [e]
    rcases cv_lg fc w _ 0 base f cv' with k | k | k
    · have k' : (lw f base fc (A ++ b :: a :: B) w).1 = 0 := k
      rw [if_neg (fun kk => kk k')]
      exact .inl ⟨rfl, by rw [← k2]; exact hw⟩
    · have k' : (lw f base fc (A ++ b :: a :: B) w).1 = 3 := k
      rw [if_pos (by rw [k']; decide), k']
      exact .inr rfl
    · exact absurd k hw18
include h13 ht in
theorem follow_swap {wr t : List (List Int)} (hq : ∀ j, j < (A ++ a :: b :: B).length → isW t j = isW wr (tau A.length j : Nat)) (htw : wB (A ++ b :: a :: B).length (-1) t = true) (h : fE f base fc (A ++ a :: b :: B) wr = 0) :
    fE f base fc (A ++ b :: a :: B) t = 0 ∧ fL f base fc (A ++ b :: a :: B) t = fL f base fc (A ++ a :: b :: B) wr ∧ (fL f base fc (A ++ a :: b :: B) wr).length ≤ 16 := by
  rcases sv_cases f base fc (A ++ a :: b :: B) with ⟨e, _⟩ | ⟨e, _⟩ | ⟨e, g, _⟩
  · exact absurd h (fE_bad (.inl (by rw [e]; decide)))
  · exact absurd h (fE_bad (.inl (by rw [e]; decide)))
  · cases hW : wB (A ++ a :: b :: B).length (-1) wr with
    | false => exact absurd h (fE_bad (.inr hW))
    | true =>
      obtain ⟨x1, x2⟩ := fE_ok e hW
      obtain ⟨y1, y2⟩ := fE_ok (sv_swap h13 ht e) htw
      have hs : lg fc wr (A ++ a :: b :: B) 0 base f = lg fc t (A ++ b :: a :: B) 0 base f := lw_swap ht g hq
      have h0 : (lg fc wr (A ++ a :: b :: B) 0 base f).1 = 0 := x1.symm.trans h
      refine ⟨by rw [y1, ← hs]; exact h0, by rw [y2, x2, hs], ?_⟩
      rw [x2]
      exact ((lg_vl fc wr _ 0 base f g.vl g.rv).1 h0).2.1
end
theorem u8_bd {n : Int} (h : (Lit.int .u8 n).wf = true) : 0 ≤ n ∧ n ≤ 255 := by
  have h1 : IntKind.u8.min = 0 := by decide
  have h2 : IntKind.u8.max = 255 := by decide
  simp only [Lit.wf, h1, h2, Bool.and_eq_true, decide_eq_true_eq] at h
  exact h
end Go.Proofs.Ytjibokphafpcmaa

/-!
  DeskWhere, as far as what the functions compute.
-/
set_option linter.unusedVariables false
set_option maxRecDepth 100000
set_option linter.unusedSimpArgs false
set_option linter.unusedSectionVars false
namespace Go.Proofs.Ytjibokphafpcmaa
open Go Go.Sy

theorem wb_trans {a b c : List Int} (h1 : WB a b) (h2 : WB b c) : WB a c := by unfold WB at *; omega
theorem wb_hul (a b : List Int) : WB a (hul a b) ∧ WB b (hul a b) := by
  unfold WB hul
  simp only [List.getD_cons_zero, List.getD_cons_succ]
  omega
theorem hul_wb {a b c : List Int} (h1 : WB a c) (h2 : WB b c) : WB (hul a b) c := by
  unfold WB hul at *
  simp only [List.getD_cons_zero, List.getD_cons_succ]
  omega
theorem fold_ge : ∀ (L : List (List Int)) (a : List Int), WB a (L.foldl hul a) ∧ ∀ x ∈ L, WB x (L.foldl hul a)
  | [], a => ⟨by unfold WB; simp, fun x hx => by cases hx⟩
  | y :: L, a => by
    obtain ⟨h1, h2⟩ := fold_ge L (hul a y)
    refine ⟨wb_trans (wb_hul a y).1 h1, fun x hx => ?_⟩
    rcases List.mem_cons.1 hx with rfl | hx
    · exact wb_trans (wb_hul a x).2 h1
    · exact h2 x hx
theorem fold_le : ∀ (L : List (List Int)) (a c : List Int), WB a c → (∀ x ∈ L, WB x c) → WB (L.foldl hul a) c
  | [], _, _, h, _ => h
  | y :: L, a, c, h, hL => fold_le L (hul a y) c (hul_wb h (hL y (by simp))) (fun x hx => hL x (by simp [hx]))
theorem wb_q4 (b : List Int) : WB b (q4 b) ∧ WB (q4 b) b := by unfold WB q4; simp
theorem hull_ge {L : List (List Int)} {x : List Int} (h : x ∈ L) : WB x (hull L) := by
  cases L with
  | nil => cases h
  | cons b L =>
    obtain ⟨h1, h2⟩ := fold_ge L (q4 b)
    rcases List.mem_cons.1 h with rfl | h
    · exact wb_trans (wb_q4 _).1 h1
    · exact h2 x h
theorem hull_le {L : List (List Int)} {c : List Int} (hn : L ≠ []) (h : ∀ x ∈ L, WB x c) : WB (hull L) c := by
  cases L with
  | nil => exact absurd rfl hn
  | cons b L => exact fold_le L (q4 b) c (wb_trans (wb_q4 b).2 (h b (by simp))) (fun x hx => h x (by simp [hx]))
theorem hb_wb {x y : Int} {a b : List Int} (h : HB x y a) (hw : WB a b) : HB x y b := by unfold HB WB at *; omega
section
variable {f most : Int} {base fc rp wr tr : List (List Int)} (h13 : Si.El13 rp) (hf : fc.length ≤ 9223372036854775807)
include h13 hf
theorem wh_more (hw : desk_Where_4 f most base fc rp = 0) (hw' : desk_Where_4 f (IntKind.i64.wrap (most + 1)) base fc rp = 0) :
    desk_Where_0 f (IntKind.i64.wrap (most + 1)) base fc rp ≤ desk_Where_0 f most base fc rp ∧ desk_Where_1 f most base fc rp ≤ desk_Where_1 f (IntKind.i64.wrap (most + 1)) base fc rp ∧ desk_Where_2 f (IntKind.i64.wrap (most + 1)) base fc rp ≤ desk_Where_2 f most base fc rp ∧ desk_Where_3 f most base fc rp ≤ desk_Where_3 f (IntKind.i64.wrap (most + 1)) base fc rp := by
  have good : ∀ n, desk_Where_4 f n base fc rp = 0 → askE f n base fc rp = 0 ∧ ((alls rp.length (n.toNat + 1)).flatMap fun w => (lw f base fc rp w).2) ≠ [] ∧
       desk_Where_0 f n base fc rp = (hull ((alls rp.length (n.toNat + 1)).flatMap fun w => (lw f base fc rp w).2)).getD 0 0 ∧ desk_Where_1 f n base fc rp = (hull ((alls rp.length (n.toNat + 1)).flatMap fun w => (lw f base fc rp w).2)).getD 1 0 ∧
       desk_Where_2 f n base fc rp = (hull ((alls rp.length (n.toNat + 1)).flatMap fun w => (lw f base fc rp w).2)).getD 2 0 ∧ desk_Where_3 f n base fc rp = (hull ((alls rp.length (n.toNat + 1)).flatMap fun w => (lw f base fc rp w).2)).getD 3 0 := fun n hn => by
    rcases (where_is f n base fc rp h13 hf).2 with ⟨k, k'⟩ | ⟨_, w, k1, k2, k3⟩ | ⟨_, k1, k2, k3⟩ | ⟨k0, k1, k2, k3, k4, k5, k6, k7⟩
    · rw [hn] at k'; exact absurd k'.symm k
    · rw [hn] at k3; exact absurd (.inl k3.symm) k2
    · rw [hn] at k3; cases k3
    · exact ⟨k0, k2, k4, k5, k6, k7⟩
  obtain ⟨a0, a1, a2, a3, a4, a5⟩ := good most hw
  obtain ⟨_, _, m0, m3, _⟩ := ask_ok a0
  have ew : IntKind.i64.wrap (most + 1) = most + 1 := i64_wrap (by omega)
  rw [ew] at hw' ⊢
  obtain ⟨b0, b1, b2, b3, b4, b5⟩ := good (most + 1) hw'
  have hsub : WB (hull ((alls rp.length (most.toNat + 1)).flatMap fun w => (lw f base fc rp w).2)) (hull ((alls rp.length ((most + 1).toNat + 1)).flatMap fun w => (lw f base fc rp w).2)) := by
    refine hull_le a1 fun x hx => hull_ge ?_
    obtain ⟨w, hw, hx⟩ := List.mem_flatMap.1 hx
    refine List.mem_flatMap.2 ⟨w, ?_, hx⟩
    obtain ⟨s, hs, hd⟩ := mem_alls.1 hw
    exact mem_alls.2 ⟨s, by omega, hd⟩
  rw [a2, a3, a4, a5, b2, b3, b4, b5]
  unfold WB at hsub
  exact hsub
end
end Go.Proofs.Ytjibokphafpcmaa

