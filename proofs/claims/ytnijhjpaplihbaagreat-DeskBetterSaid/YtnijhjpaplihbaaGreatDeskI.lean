/- Parts of other texts (wip/strip.py). -/
import Derived.Test.YtnijhjpaplihbaaGreatDeskG
import Derived.Test.YtnijhjpaplihbaaGreatDesk4D
import Derived.Test.YtnijhjpaplihbaaGreatSyH
/-! Several texts in one (wip/merge.py): XDeskH XDeskI. -/
/-!
  The examples at the head of chapter 25.
-/
set_option linter.unusedVariables false
set_option maxRecDepth 100000
set_option linter.unusedSimpArgs false
set_option linter.unusedSectionVars false
namespace Go.Proofs.YtnijhjpaplihbaaGreat
open Go Go.Sy

def hB : List (List Int) := [[0, 10, 0, 10]]
def hF : List (List Int) := [[0, 100, 0, 0, 0, 0]]
def hR2 : List (List Int) := [[1, 1, 5, 1, 2, 3, 2, 3, 1, 0, 0, 1, 0], [1, 2, 5, 1, 3, 9, 3, 3, 1, 0, 0, 1, 0]]
def hR3 : List (List Int) := [[1, 1, 5, 1, 2, 3, 2, 3, 1, 0, 0, 1, 0], [1, 2, 5, 1, 3, 9, 3, 3, 1, 0, 0, 1, 0], [1, 3, 5, 1, 20, 30, 0, 10, 1, 0, 0, 1, 0]]
def hRR : List (List Int) := [[1, 1, 5, 1, 2, 3, 2, 3, 1, 0, 0, 1, 0], [1, 1, 5, 1, 2, 3, 2, 3, 1, 0, 0, 1, 0]]
def hT : List (List Int) := [[3, 3], [3, 3], [3, 3], [3, 3]]
def elB : List CK → List Int → Bool
  | [], [] => true
  | .int k :: ks, n :: ns => (Lit.int k n).wf && elB ks ns
  | .bool :: ks, n :: ns => decide (n = 0 ∨ n = 1) && elB ks ns
  | _, _ => false
theorem elB_ok : ∀ {ks : List CK} {ns : List Int}, elB ks ns = true → elOk ks ns
  | [], [], _ => trivial
  | .int k :: ks, n :: ns, h => by
    unfold elB at h; unfold elOk
    rw [Bool.and_eq_true] at h
    exact ⟨h.1, elB_ok h.2⟩
  | .bool :: ks, n :: ns, h => by
    unfold elB at h; unfold elOk
    rw [Bool.and_eq_true, decide_eq_true_eq] at h
    exact ⟨h.1, elB_ok h.2⟩
  | [], _ :: _, h => by cases h
  | .int _ :: _, [], h => by cases h
  | .bool :: _, [], h => by cases h
theorem h13_of {l : List (List Int)} (h : l.all (elB [.int .i64, .int .i64, .int .i64, .int .i64, .int .i64, .int .i64, .int .i64, .int .i64, .int .i64, .int .i64, .int .i64, .int .i64, .int .i64]) = true) : Si.El13 l :=
  fun e he => elB_ok (List.all_eq_true.1 h e he)
theorem h13_2 : Si.El13 hR2 := h13_of (by decide +kernel)
theorem h13_3 : Si.El13 hR3 := h13_of (by decide +kernel)
theorem h13_R : Si.El13 hRR := h13_of (by decide +kernel)
theorem gs2 : GS 0 hB hF hR2 := ⟨by decide +kernel, by decide +kernel, by decide, by decide +kernel, by decide, by decide⟩
theorem gs3 : GS 0 hB hF hR3 := ⟨by decide +kernel, by decide +kernel, by decide, by decide +kernel, by decide, by decide⟩
theorem gsR : GS 0 hB hF hRR := ⟨by decide +kernel, by decide +kernel, by decide, by decide +kernel, by decide, by decide⟩
theorem merge_len {rp : List (List Int)} (h13 : Si.El13 rp) (h1 : ∀ r ∈ rp, RVr r) (h2 : rp.length ≤ 60) : (sighting_Merge_0 rp).length = (Si.mrgs 0 rp ([], [])).1.length := by
  rw [(Si.smerge_0 rp h13).1, (svalid_iff rp).2 ⟨h2, h1⟩]
  rfl
theorem sv2 : svE 0 hB hF hR2 = 0 := by
  rcases sv_cases 0 hB hF hR2 with ⟨_, k⟩ | ⟨_, g, k⟩ | ⟨e, _⟩
  · exact absurd gs2 k
  · rw [merge_len h13_2 g.rv g.ln] at k; exact absurd k (by decide +kernel)
  · exact e
theorem sv3 : svE 0 hB hF hR3 = 0 := by
  rcases sv_cases 0 hB hF hR3 with ⟨_, k⟩ | ⟨_, g, k⟩ | ⟨e, _⟩
  · exact absurd gs3 k
  · rw [merge_len h13_3 g.rv g.ln] at k; exact absurd k (by decide +kernel)
  · exact e
theorem svR : svE 0 hB hF hRR = 5 := by
  rcases sv_cases 0 hB hF hRR with ⟨_, k⟩ | ⟨e, _⟩ | ⟨_, g, k⟩
  · exact absurd gsR k
  · exact e
  · rw [merge_len h13_R g.rv g.ln] at k; exact absurd (by decide +kernel) k
theorem hf1 : hF.length ≤ 9223372036854775807 := by decide
theorem h_fo2 : desk_Follow_pre 0 hB hF hR2 [] ∧ desk_Follow_1 0 hB hF hR2 [] = 0 ∧ desk_Follow_0 0 hB hF hR2 [] = [[3, 3, 3, 3]] := by
  obtain ⟨h1, h2, h3⟩ := follow_is 0 hB hF hR2 [] h13_2 hf1 (by decide)
  refine ⟨h1, h2.trans ?_, h3.trans ?_⟩
  · unfold fE; rw [sv2, if_neg (by decide), if_neg (by decide)]; decide +kernel
  · unfold fL; rw [sv2, if_pos (by decide)]; decide +kernel
theorem h_fo3 : desk_Follow_pre 0 hB hF hR3 [] ∧ desk_Follow_1 0 hB hF hR3 [] = 18 := by
  obtain ⟨h1, h2, h3⟩ := follow_is 0 hB hF hR3 [] h13_3 hf1 (by decide)
  refine ⟨h1, h2.trans ?_⟩
  unfold fE; rw [sv3, if_neg (by decide), if_neg (by decide)]; decide +kernel
theorem h_foR : desk_Follow_pre 0 hB hF hRR [] ∧ desk_Follow_1 0 hB hF hRR [] = 5 := by
  obtain ⟨h1, h2, h3⟩ := follow_is 0 hB hF hRR [] h13_R hf1 (by decide)
  refine ⟨h1, h2.trans ?_⟩
  unfold fE; rw [svR, if_neg (by decide), if_pos (by decide)]
theorem h_exR : exR 0 1 hB hF hR3 = ([[2]], [[3, 3, 3, 3]], 0) := by
  have ha : askE 0 1 hB hF hR3 = 0 := ask_of sv3 (by decide) (by decide) (by decide)
  have hfi : (alls hR3.length ((1 : Int).toNat + 1)).find? (fun w => (lw 0 hB hF hR3 w).1 != 18) = some [[2]] := by decide +kernel
  unfold exR
  rw [ha, if_neg (by decide), hfi]
  decide +kernel
theorem h_exR0 : exR 0 0 hB hF hR3 = ([], [], 18) := by
  have ha : askE 0 0 hB hF hR3 = 0 := ask_of sv3 (by decide) (by decide) (by decide)
  have hfi : (alls hR3.length ((0 : Int).toNat + 1)).find? (fun w => (lw 0 hB hF hR3 w).1 != 18) = none := by decide +kernel
  unfold exR
  rw [ha, if_neg (by decide), hfi]
theorem h_ex1 : desk_Explain_pre 0 1 hB hF hR3 ∧ desk_Explain_0 0 1 hB hF hR3 = [[2]] ∧ desk_Explain_1 0 1 hB hF hR3 = [[3, 3, 3, 3]] ∧ desk_Explain_2 0 1 hB hF hR3 = 0 := by
  obtain ⟨h1, h2, h3, h4⟩ := explain_is 0 1 hB hF hR3 h13_3 hf1
  rw [h_exR] at h2 h3 h4
  exact ⟨h1, h2, h3, h4⟩
theorem h_ex0 : desk_Explain_pre 0 0 hB hF hR3 ∧ desk_Explain_2 0 0 hB hF hR3 = 18 := by
  obtain ⟨h1, h2, h3, h4⟩ := explain_is 0 0 hB hF hR3 h13_3 hf1
  rw [h_exR0] at h4
  exact ⟨h1, h4⟩
theorem h_wh (n : Int) (b : List Int) (h0 : 0 ≤ n ∧ n ≤ 3) (hok : ∀ w ∈ alls hR2.length (n.toNat + 1), okE (lw 0 hB hF hR2 w).1) (hh : hull ((alls hR2.length (n.toNat + 1)).flatMap fun w => (lw 0 hB hF hR2 w).2) = b)
    (hn : ((alls hR2.length (n.toNat + 1)).flatMap fun w => (lw 0 hB hF hR2 w).2) ≠ []) :
    desk_Where_pre 0 n hB hF hR2 ∧ desk_Where_4 0 n hB hF hR2 = 0 ∧ desk_Where_0 0 n hB hF hR2 = b.getD 0 0 ∧ desk_Where_1 0 n hB hF hR2 = b.getD 1 0 ∧ desk_Where_2 0 n hB hF hR2 = b.getD 2 0 ∧ desk_Where_3 0 n hB hF hR2 = b.getD 3 0 := by
  obtain ⟨h1, h2⟩ := where_is 0 n hB hF hR2 h13_2 hf1
  have ha : askE 0 n hB hF hR2 = 0 := ask_of sv2 h0.1 h0.2 (by decide)
  rcases h2 with ⟨k, _⟩ | ⟨_, w, k1, k2, _⟩ | ⟨_, _, k, _⟩ | ⟨_, _, _, k⟩
  · exact absurd ha k
  · exact absurd (hok w k1) k2
  · exact absurd k hn
  · rw [hh] at k; exact ⟨h1, k⟩
theorem h_nm : desk_Named_pre 0 1 hB hF hR3 ∧ desk_Named_1 0 1 hB hF hR3 = 0 ∧ desk_Named_0 0 1 hB hF hR3 = [[2]] := by
  obtain ⟨h1, h2⟩ := named_is 0 1 hB hF hR3 h13_3 hf1
  rw [h_exR] at h2
  rcases h2 with ⟨k, _⟩ | ⟨_, ⟨w, k1, k2, _⟩, _⟩ | ⟨_, _, k1, k2⟩
  · exact absurd rfl k
  · exact absurd ((show ∀ w ∈ dsets hR3.length 1, okE (lw 0 hB hF hR3 w).1 by decide +kernel) w k1) k2
  · have e : (dsets hR3.length 1).foldl (fun out W => if (lw 0 hB hF hR3 W).1 = 0 then out.filter (kp W) else out) [[2]] = [[2]] := by decide +kernel
    exact ⟨h1, k1, k2.trans e⟩
theorem h_ch (wr : List (List Int)) (b : Bool) (hw : wr.length ≤ 3) (h1 : wB hR3.length (-1) wr = true) (h2 : ck hF wr hT hR3 0 0 (decide (inB (pX hT 0) (pY hT 0) hB)) = (0, b)) :
    desk_Check_pre 0 hB hF hR3 wr hT ∧ desk_Check_1 0 hB hF hR3 wr hT = 0 ∧ desk_Check_0 0 hB hF hR3 wr hT = b := by
  obtain ⟨k1, k2, k3⟩ := check_is 0 hB hF hR3 wr hT h13_3 hf1 (by omega)
  have e : chX 0 hB hF hR3 wr hT = (0, b) := by
    unfold chX
    rw [sv3, h1, if_neg (by decide +kernel), if_neg (by decide), h2]
  rw [e] at k2 k3
  exact ⟨k1, k2, k3⟩
theorem head_ok : law25_head_0 = true ∧ law25_head_pre := by
  obtain ⟨f2, f2e, f2l⟩ := h_fo2
  obtain ⟨f3, f3e⟩ := h_fo3
  obtain ⟨fR, fRe⟩ := h_foR
  obtain ⟨x1, x1w, x1l, x1e⟩ := h_ex1
  obtain ⟨x0, x0e⟩ := h_ex0
  obtain ⟨w1, w1e, w10, w11, w12, w13⟩ := h_wh 1 [2, 9, 2, 3] (by decide) (by decide +kernel) (by decide +kernel) (by decide +kernel)
  obtain ⟨w2, w2e, w20, w21, w22, w23⟩ := h_wh 2 [0, 10, 0, 10] (by decide) (by decide +kernel) (by decide +kernel) (by decide +kernel)
  obtain ⟨n1, n1e, n1l⟩ := h_nm
  obtain ⟨c1, c1e, c1b⟩ := h_ch [[2]] true (by decide) (by decide) (by decide +kernel)
  obtain ⟨c0, c0e, c0b⟩ := h_ch [] false (by decide) (by decide) (by decide +kernel)
  have e21 : law25_head_s21 = 0 := f2e
  have e22 : law25_head_s22 = 18 := f3e
  have e23 : law25_head_s23 = 0 := x1e
  have e24 : law25_head_s24 = 18 := x0e
  have e25 : law25_head_s25 = 0 := w1e
  have e26 : law25_head_s26 = 0 := w2e
  have e27 : law25_head_s27 = 0 := n1e
  have e28 : law25_head_s28 = 0 := c1e
  have e29 : law25_head_s29 = 0 := c0e
  have e30 : law25_head_s30 = 5 := fRe
  have e31 : law25_head_s31 = [[3, 3, 3, 3]] := f2l
  have e32 : law25_head_s32 = [3, 3, 3, 3] := rfl
  have e33 : law25_head_s33 = [[2]] := x1w
  have e34 : law25_head_s34 = [[3, 3, 3, 3]] := x1l
  have e35 : law25_head_s35 = 2 := w10
  have e36 : law25_head_s36 = 9 := w11
  have e37 : law25_head_s37 = 2 := w12
  have e38 : law25_head_s38 = 3 := w13
  have e39 : law25_head_s39 = 0 := w20
  have e40 : law25_head_s40 = 10 := w21
  have e41 : law25_head_s41 = 0 := w22
  have e42 : law25_head_s42 = 10 := w23
  have e43 : law25_head_s43 = [[2]] := n1l
  have d1 : desk_Check_0 (0 : Int) [law25_head_s0] [[(0 : Int), (100 : Int), (0 : Int), (0 : Int), (0 : Int), (0 : Int)]] law25_head_s19 [[(2 : Int)]] law25_head_s20 = true := c1b
  have d0 : desk_Check_0 (0 : Int) [law25_head_s0] [[(0 : Int), (100 : Int), (0 : Int), (0 : Int), (0 : Int), (0 : Int)]] law25_head_s19 [] law25_head_s20 = false := c0b
  have sA := same_eq (a := [[3, 3, 3, 3]]) (b := [[3, 3, 3, 3]]) (by decide) (by decide) (by decide)
  have pA := (same_is [[3, 3, 3, 3]] [[3, 3, 3, 3]] (by decide)).1
  have iA := Si.ints_L 2
  have qA := (Si.ints_is [[2]] [[2]] (by decide)).1
  constructor
  · unfold law25_head_0
    rw [e21, e22, e23, e24, e25, e26, e27, e28, e29, e30, e31, e32, e33, e34, e35, e36, e37, e38, e39, e40, e41, e42, e43, sA, iA, d1, d0]
    decide
  · unfold law25_head_pre
    rw [e21, e22, e23, e24, e25, e26, e27, e28, e29, e30, e31, e32, e33, e34, e35, e36, e37, e38, e39, e40, e41, e42, e43, sA, iA]
    refine ⟨by decide, ⟨by decide, f2⟩, f3, x1, x0, by decide, ⟨by decide, w1⟩, by decide, ⟨by decide, w2⟩, n1, c1, c0, fR, fun hA => ⟨fun hB => ⟨fun _ => pA, hA, fun _ => qA, fun _ => pA, hB, fun _ => qA⟩, fun hB => absurd hB (by decide)⟩, fun hA => absurd hA (by decide)⟩
end Go.Proofs.YtnijhjpaplihbaaGreat

/-! Several texts in one (wip/merge.py): XDeskI XDeskJ. -/
/-!
  DeskTrue, as far as what the functions compute.
-/
set_option linter.unusedVariables false
set_option maxRecDepth 100000
set_option linter.unusedSimpArgs false
set_option linter.unusedSectionVars false
namespace Go.Proofs.YtnijhjpaplihbaaGreat
open Go Go.Sy

theorem rowLe {W : World} {own : Bool} {e : TypeId} {k : Nat} {v : Value} {n : Nat} {vs : List Value} (h : RowOk W own e k v n vs) : n ≤ 9223372036854775807 := by
  obtain ⟨a, c, _, h1, h2⟩ := h.reads.is
  unfold maxLen at h2
  omega
theorem chx_bool {f : Int} {base fc rp wr tr : List (List Int)} (h : (chX f base fc rp wr tr).1 ≠ 0) : (chX f base fc rp wr tr).2 = false := by
  unfold chX at h ⊢
  split
  · rfl
  · rename_i h1
    rw [if_neg h1] at h
    split
    · rfl
    · rename_i h2
      rw [if_neg h2] at h
      exact ck_bool _ _ _ _ h
theorem told_fE {f : Int} {base fc rp wr tr : List (List Int)} (T : Told f base fc rp wr tr) : fE f base fc rp wr = (lg fc wr rp 0 base f).1 ∧ fL f base fc rp wr = (lg fc wr rp 0 base f).2 := by
  unfold fE fL
  rw [T.sv, T.wb, if_neg (by simp), if_neg (by simp), if_pos (by simp)]
  exact ⟨rfl, rfl⟩
theorem told_in {f : Int} {base fc rp wr tr : List (List Int)} (T : Told f base fc rp wr tr) :
    (lg fc wr rp 0 base f).1 = 3 ∨ ((lg fc wr rp 0 base f).1 = 0 ∧ VL (lg fc wr rp 0 base f).2 ∧ VP (pX tr rp.length) (pY tr rp.length) ∧ ∃ b ∈ (lg fc wr rp 0 base f).2, HB (pX tr rp.length) (pY tr rp.length) b) := by
  have h := tl_lg rp 0 base f T.gs.rv T.tl T.p0
  have hp := tl_vp rp 0 f T.tl T.v0
  rw [Nat.zero_add] at h hp
  rcases h with h | ⟨h1, h2⟩
  · exact .inl h
  · exact .inr ⟨h1, (lg_vl fc wr rp 0 base f T.gs.vl T.gs.rv).1 h1, hp, h2⟩
/-- The last place. -/
theorem last_ix {tr : List (List Int)} {n : Nat} (h : tr.length = n + 1) (hn : n ≤ 60) : IntKind.i64.wrap ((tr.length : Int) - 1) = (n : Int) := by
  rw [h, i64_wrap (by omega)]
  omega
end Go.Proofs.YtnijhjpaplihbaaGreat

/-!
  DeskMore, as far as what the functions compute; the sets that the laws make.
-/
set_option linter.unusedVariables false
set_option maxRecDepth 100000
set_option linter.unusedSimpArgs false
set_option linter.unusedSectionVars false
namespace Go.Proofs.YtnijhjpaplihbaaGreat
open Go Go.Sy

theorem isW_any (l : List (List Int)) (n : Int) : isW l n = l.any fun e => e.getD 0 0 == n := by
  unfold isW
  congr 1
  funext e
  rw [Bool.eq_iff_iff, beq_iff_eq, beq_iff_eq]
  exact eq_comm
theorem has_is (n : Int) (l : List (List Int)) (hl : l.length ≤ 9223372036854775807) : law25_has_pre n l ∧ law25_has_0 n l = isW l n := by
  have key := loop_search (step := law25_has_l0_step n l) l.length (fun q => (l.getD q []).getD 0 0 == n) (fun q => [.b false, .i q]) (fun q => []) 0 2 [.b false, .i l.length]
    (fun q hq => by
      unfold law25_has_l0_step
      simp only [gi_1, gi_z, gb_z, dlt hq, guardP_pos (inR_of hq), Int.toNat_natCast, wrap_succ' (show q < 9223372036854775807 by omega)])
    (by
      unfold law25_has_l0_step
      simp only [gi_1, gi_z, gb_z, dnlt])
  refine ⟨key.1, ?_⟩
  rw [isW_any]
  unfold law25_has_0
  rcases key.2 with ⟨q, q1, q2, q3, q4⟩ | ⟨q3, q4⟩
  · have e : law25_has_l0 n l = (1, []) := q4
    rw [e, show (l.any fun e => e.getD 0 0 == n) = true from any_getD.2 ⟨q, q1, q2⟩]
    rfl
  · have e : law25_has_l0 n l = (3, [.b false, .i l.length]) := q4
    rw [e]
    have : (l.any fun e => e.getD 0 0 == n) = false := by
      rw [Bool.eq_false_iff]
      intro h
      obtain ⟨q, hq, h2⟩ := any_getD.1 h
      rw [q3 q hq] at h2
      cases h2
    rw [this]
    rfl
theorem holds_is (b : List Int) (x y : Int) : ref02_Holds_0 (b.getD 0 0) (b.getD 1 0) (b.getD 2 0) (b.getD 3 0) x y = decide (HB x y b) := by
  rw [Bool.eq_iff_iff, decide_eq_true_eq]
  unfold ref02_Holds_0 HB
  simp only [Bool.and_eq_true, decide_eq_true_eq]
  exact ⟨fun ⟨⟨a, b⟩, c, d⟩ => ⟨a, b, c, d⟩, fun ⟨a, b, c, d⟩ => ⟨⟨a, b⟩, c, d⟩⟩
theorem rhas_is (x y : Int) (l : List (List Int)) (hl : l.length ≤ 9223372036854775807) : ref23_Has_pre x y l ∧ ref23_Has_0 x y l = decide (∃ b ∈ l, HB x y b) := by
  have key := loop_search (step := ref23_Has_l0_step x y l) l.length (fun q => decide (HB x y (l.getD q []))) (fun q => [.b false, .i q]) (fun q => []) 0 2 [.b false, .i l.length]
    (fun q hq => by
      unfold ref23_Has_l0_step
      simp only [gi_1, gi_z, gb_z, dlt hq, guardP_pos (inR_of hq), Int.toNat_natCast, wrap_succ' (show q < 9223372036854775807 by omega), holds_is])
    (by
      unfold ref23_Has_l0_step
      simp only [gi_1, gi_z, gb_z, dnlt])
  refine ⟨key.1, ?_⟩
  unfold ref23_Has_0
  rcases key.2 with ⟨q, q1, q2, q3, q4⟩ | ⟨q3, q4⟩
  · have e : ref23_Has_l0 x y l = (1, []) := q4
    rw [e, decide_eq_true (show ∃ b ∈ l, HB x y b from ⟨_, getD_mem q1, by simpa using q2⟩)]
    rfl
  · have e : ref23_Has_l0 x y l = (3, [.b false, .i l.length]) := q4
    rw [e, decide_eq_false (show ¬ ∃ b ∈ l, HB x y b from fun ⟨b, hb, h⟩ => by
      obtain ⟨q, hq, rfl⟩ := getD_of_mem hb
      have := q3 q hq
      simp only [decide_eq_false_iff_not] at this
      exact this h)]
    rfl

/-! ### sets that are made -/
def selL (q : Nat → Bool) (n : Nat) : List (List Int) := ofNums (((List.range n).filter q).map fun (x : Nat) => (x : Int))
theorem sel_succ (q : Nat → Bool) (j : Nat) : selL q (j + 1) = if q j = true then selL q j ++ [[(j : Int)]] else selL q j := by
  unfold selL ofNums
  rw [List.range_succ, List.filter_append, List.map_append, List.map_append]
  cases h : q j with
  | true => rw [if_pos rfl]; simp [h]
  | false => rw [if_neg (by simp)]; simp [h]
theorem sel_len (q : Nat → Bool) (n : Nat) : (selL q n).length ≤ n := by
  unfold selL ofNums
  rw [List.length_map, List.length_map]
  exact Nat.le_trans (List.length_filter_le _ _) (by simp)
theorem sel_pw (q : Nat → Bool) (n : Nat) : ((List.range n).filter q).Pairwise (· < ·) := (List.pairwise_lt_range).filter _
theorem sel_wB (q : Nat → Bool) (n : Nat) : wB n (-1) (selL q n) = true :=
  wB_of _ n (-1) (sel_pw q n) (fun x hx => by
    have := List.mem_range.1 (List.mem_filter.1 hx).1
    omega)
theorem sel_isW (q : Nat → Bool) {n i : Nat} (h : i < n) : isW (selL q n) i = q i := by
  rw [Bool.eq_iff_iff]
  unfold isW selL ofNums
  rw [List.any_map, List.any_map, List.any_eq_true]
  constructor
  · rintro ⟨x, hx, h2⟩
    have : (i : Int) = (x : Int) := by simpa using h2
    have : i = x := by omega
    subst this
    exact (List.mem_filter.1 hx).2
  · intro h2
    exact ⟨i, List.mem_filter.2 ⟨List.mem_range.2 h, h2⟩, by simp⟩
theorem sel_one (q : Nat → Bool) (n : Nat) : ∀ e ∈ selL q n, e.length = 1 := by
  intro e he
  unfold selL ofNums at he
  obtain ⟨z, _, rfl⟩ := List.mem_map.1 he
  rfl
/-- The wrong reports matter as far as they are reports. -/
theorem lg_congr {c wr wr' : List (List Int)} : ∀ (rs : List (List Int)) (i : Nat) (set : List (List Int)) (at_ : Int), (∀ j, i ≤ j → j < i + rs.length → isW wr j = isW wr' j) → lg c wr rs i set at_ = lg c wr' rs i set at_
  | [], _, _, _, _ => rfl
  | r :: rs, i, set, at_, h => by
    rw [lg_cons, lg_cons, h i (Nat.le_refl _) (by simp)]
    have rec' := fun set => lg_congr (c := c) (wr := wr) (wr' := wr') rs (i + 1) set (r.getD 2 0) (fun j h1 h2 => h j (by omega) (by simp only [List.length_cons]; omega))
    rw [rec', rec']

/-! ### more wrong ones -/
def dom (S T : List (List Int)) : Prop := ∀ b ∈ S, ∃ b' ∈ T, WB b b'
theorem wb_mono {f u : Int} {c : List (List Int)} {p q : List Int} (h : WB p q) : WB (mvF f u c p) (mvF f u c q) := by
  have g1 := mvF_get f u c p
  have g2 := mvF_get f u c q
  unfold lo hi at g1 g2
  unfold WB at *
  omega
theorem wb_cut {b b' d : List Int} (h : WB b b') (hm : MB b d) : MB b' d ∧ WB (mtB b d) (mtB b' d) := by
  have g1 := mtB_get b d
  have g2 := mtB_get b' d
  unfold WB MB at *
  omega
theorem wb_in {b b' d : List Int} (h : WB b b') : WB (mtB b d) b' := by
  have g1 := mtB_get b d
  unfold WB at *
  omega
theorem dom_mv {S T : List (List Int)} (h : dom S T) (f u : Int) (c : List (List Int)) : dom (S.map (mvF f u c)) (T.map (mvF f u c)) := by
  intro b hb
  obtain ⟨x, hx, rfl⟩ := List.mem_map.1 hb
  obtain ⟨y, hy, hw⟩ := h x hx
  exact ⟨_, List.mem_map.2 ⟨y, hy, rfl⟩, wb_mono hw⟩
theorem dom_cut {S T : List (List Int)} (h : dom S T) (d : List Int) : dom (cutP d S) (cutP d T) := by
  intro b hb
  obtain ⟨x, hx, hm, rfl⟩ := mem_cutP.1 hb
  obtain ⟨y, hy, hw⟩ := h x hx
  obtain ⟨m, w⟩ := wb_cut hw hm
  exact ⟨_, mem_cutP.2 ⟨y, hy, m, rfl⟩, w⟩
theorem dom_in {S T : List (List Int)} (h : dom S T) (d : List Int) : dom (cutP d S) T := by
  intro b hb
  obtain ⟨x, hx, hm, rfl⟩ := mem_cutP.1 hb
  obtain ⟨y, hy, hw⟩ := h x hx
  exact ⟨y, hy, wb_in hw⟩
theorem dom_nil {S : List (List Int)} (h : dom S []) : S = [] := by
  cases S with
  | nil => rfl
  | cons a S => obtain ⟨_, k, _⟩ := h a (by simp); cases k
theorem lg_more {c wr wr' : List (List Int)} : ∀ (rs : List (List Int)) (i : Nat) (S T : List (List Int)) (at_ : Int), (∀ j, i ≤ j → j < i + rs.length → isW wr j = true → isW wr' j = true) → dom S T → (lg c wr rs i S at_).1 = 0 →
    (lg c wr' rs i T at_).1 = 3 ∨ ((lg c wr' rs i T at_).1 = 0 ∧ dom (lg c wr rs i S at_).2 (lg c wr' rs i T at_).2)
  | [], _, _, _, _, _, hd, _ => .inr ⟨rfl, hd⟩
  | r :: rs, i, S, T, at_, hw, hd, h => by
    have rec' := fun S T => lg_more (c := c) (wr := wr) (wr' := wr') rs (i + 1) S T (r.getD 2 0) (fun j h1 h2 => hw j (by omega) (by simp only [List.length_cons]; omega))
    have hi := hw i (Nat.le_refl _) (by simp)
    have hm := dom_mv hd at_ (r.getD 2 0) c
    rcases lg_step c wr' r rs i T at_ with ⟨h1, e⟩ | ⟨h1, h2, e⟩ | ⟨h1, h2, h3, e⟩ | ⟨h1, h2, h3, h4, e⟩ | ⟨h1, h2, h3, h4, e⟩ <;>
    rcases lg_step c wr r rs i S at_ with ⟨k1, e'⟩ | ⟨k1, k2, e'⟩ | ⟨k1, k2, k3, e'⟩ | ⟨k1, k2, k3, k4, e'⟩ | ⟨k1, k2, k3, k4, e'⟩ <;>
    rw [e'] at h <;> rw [e, e'] <;>
    first
    | exact absurd h k1
    | exact absurd h (by decide)
    | exact absurd k1 h1
    | exact .inl rfl
    | exact rec' _ _ hm h
    | exact rec' _ _ (dom_in hm (bxD r)) h
    | exact rec' _ _ (dom_cut hm (bxD r)) h
    | (rw [hi k3] at h3; cases h3)
    | (have := dom_cut hm (bxD r); rw [h4] at this; exact absurd (dom_nil this) k4)
theorem dom_refl (S : List (List Int)) : dom S S := fun b hb => ⟨b, hb, by unfold WB; omega⟩
theorem dom_hb {S T : List (List Int)} (h : dom S T) {x y : Int} : (∃ b ∈ S, HB x y b) → ∃ b ∈ T, HB x y b := by
  rintro ⟨b, hb, hx⟩
  obtain ⟨b', hb', hw⟩ := h b hb
  refine ⟨b', hb', ?_⟩
  unfold HB WB at *
  omega
section
variable (f k px py : Int) (base fc rp wr : List (List Int))
def moreQ (i : Nat) : Bool := isW wr i || (i : Int) == k
theorem fE_ok {f : Int} {base fc rp wr : List (List Int)} (h : svE f base fc rp = 0) (hw : wB rp.length (-1) wr = true) : fE f base fc rp wr = (lg fc wr rp 0 base f).1 ∧ fL f base fc rp wr = (lg fc wr rp 0 base f).2 := by
  unfold fE fL
  rw [h, hw, if_neg (by simp), if_neg (by simp), if_pos (by simp)]
  exact ⟨rfl, rfl⟩
theorem fE_bad {f : Int} {base fc rp wr : List (List Int)} (h : svE f base fc rp ≠ 0 ∨ wB rp.length (-1) wr = false) : fE f base fc rp wr ≠ 0 := by
  unfold fE
  split
  · decide
  · rename_i h1
    split
    · assumption
    · rename_i h2
      rcases h with h | h
      · exact absurd h h2
      · exact absurd (.inr h) h1
end
theorem in_alls {m n : Nat} {w : List (List Int)} (h1 : ∀ e ∈ w, e.length = 1) (h2 : wB m (-1) w = true) (h3 : w.length < n) : w ∈ alls m n := mem_alls.2 ⟨w.length, h3, wB_dsets h1 h2⟩
end Go.Proofs.YtnijhjpaplihbaaGreat

