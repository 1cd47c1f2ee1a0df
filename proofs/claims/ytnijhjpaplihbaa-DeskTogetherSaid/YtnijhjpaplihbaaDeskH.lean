/-
  The examples at the head of chapter 25.
-/
import Derived.Test.YtnijhjpaplihbaaDeskG
import Derived.Test.YtnijhjpaplihbaaDesk4D
set_option linter.unusedVariables false
set_option maxRecDepth 100000
set_option linter.unusedSimpArgs false
set_option linter.unusedSectionVars false
namespace Go.Proofs.Ytnijhjpaplihbaa
open Go Go.Sy

def hB : List (List Int) := [[0, 10, 0, 10]]
def hF : List (List Int) := [[0, 100, 0, 0, 0, 0]]
def hR2 : List (List Int) := [[1, 1, 5, 1, 2, 3, 2, 3, 1, 0, 0, 1, 0], [1, 2, 5, 1, 3, 9, 3, 3, 1, 0, 0, 1, 0]]
def hR3 : List (List Int) := [[1, 1, 5, 1, 2, 3, 2, 3, 1, 0, 0, 1, 0], [1, 2, 5, 1, 3, 9, 3, 3, 1, 0, 0, 1, 0], [1, 3, 5, 1, 20, 30, 0, 10, 1, 0, 0, 1, 0]]
def hRR : List (List Int) := [[1, 1, 5, 1, 2, 3, 2, 3, 1, 0, 0, 1, 0], [1, 1, 5, 1, 2, 3, 2, 3, 1, 0, 0, 1, 0]]
def hT : List (List Int) := [[3, 3], [3, 3], [3, 3], [3, 3]]
def elB : List CK → List Int → Bool
  | [], [] => true
  | .int k :: ks, n :: ns => (Lit.int k n).wf && elB ks ns
  | .bool :: ks, n :: ns => decide (n = 0 ∨ n = 1) && elB ks ns
  | _, _ => false
theorem elB_ok : ∀ {ks : List CK} {ns : List Int}, elB ks ns = true → elOk ks ns
  | [], [], _ => trivial
  | .int k :: ks, n :: ns, h => by
    unfold elB at h; unfold elOk
    rw [Bool.and_eq_true] at h
    exact ⟨h.1, elB_ok h.2⟩
  | .bool :: ks, n :: ns, h => by
    unfold elB at h; unfold elOk
    rw [Bool.and_eq_true, decide_eq_true_eq] at h
    exact ⟨h.1, elB_ok h.2⟩
  | [], _ :: _, h => by cases h
  | .int _ :: _, [], h => by cases h
  | .bool :: _, [], h => by cases h
theorem h13_of {l : List (List Int)} (h : l.all (elB [.int .i64, .int .i64, .int .i64, .int .i64, .int .i64, .int .i64, .int .i64, .int .i64, .int .i64, .int .i64, .int .i64, .int .i64, .int .i64]) = true) : Si.El13 l :=
  fun e he => elB_ok (List.all_eq_true.1 h e he)
theorem h13_2 : Si.El13 hR2 := h13_of (by decide +kernel)
theorem h13_3 : Si.El13 hR3 := h13_of (by decide +kernel)
theorem h13_R : Si.El13 hRR := h13_of (by decide +kernel)
theorem gs2 : GS 0 hB hF hR2 := ⟨by decide +kernel, by decide +kernel, by decide, by decide +kernel, by decide, by decide⟩
theorem gs3 : GS 0 hB hF hR3 := ⟨by decide +kernel, by decide +kernel, by decide, by decide +kernel, by decide, by decide⟩
theorem gsR : GS 0 hB hF hRR := ⟨by decide +kernel, by decide +kernel, by decide, by decide +kernel, by decide, by decide⟩
theorem merge_len {rp : List (List Int)} (h13 : Si.El13 rp) (h1 : ∀ r ∈ rp, RVr r) (h2 : rp.length ≤ 60) : (sighting_Merge_0 rp).length = (Si.mrgs 0 rp ([], [])).1.length := by
  rw [(Si.smerge_0 rp h13).1, (svalid_iff rp).2 ⟨h2, h1⟩]
  rfl
theorem sv2 : svE 0 hB hF hR2 = 0 := by
  rcases sv_cases 0 hB hF hR2 with ⟨_, k⟩ | ⟨_, g, k⟩ | ⟨e, _⟩
  · exact absurd gs2 k
  · rw [merge_len h13_2 g.rv g.ln] at k; exact absurd k (by decide +kernel)
  · exact e
theorem sv3 : svE 0 hB hF hR3 = 0 := by
  rcases sv_cases 0 hB hF hR3 with ⟨_, k⟩ | ⟨_, g, k⟩ | ⟨e, _⟩
  · exact absurd gs3 k
  · rw [merge_len h13_3 g.rv g.ln] at k; exact absurd k (by decide +kernel)
  · exact e
theorem svR : svE 0 hB hF hRR = 5 := by
  rcases sv_cases 0 hB hF hRR with ⟨_, k⟩ | ⟨e, _⟩ | ⟨_, g, k⟩
  · exact absurd gsR k
  · exact e
  · rw [merge_len h13_R g.rv g.ln] at k; exact absurd (by decide +kernel) k
theorem hf1 : hF.length ≤ 9223372036854775807 := by decide
theorem h_fo2 : desk_Follow_pre 0 hB hF hR2 [] ∧ desk_Follow_1 0 hB hF hR2 [] = 0 ∧ desk_Follow_0 0 hB hF hR2 [] = [[3, 3, 3, 3]] := by
  obtain ⟨h1, h2, h3⟩ := follow_is 0 hB hF hR2 [] h13_2 hf1 (by decide)
  refine ⟨h1, h2.trans ?_, h3.trans ?_⟩
  · unfold fE; rw [sv2, if_neg (by decide), if_neg (by decide)]; decide +kernel
  · unfold fL; rw [sv2, if_pos (by decide)]; decide +kernel
theorem h_fo3 : desk_Follow_pre 0 hB hF hR3 [] ∧ desk_Follow_1 0 hB hF hR3 [] = 18 := by
  obtain ⟨h1, h2, h3⟩ := follow_is 0 hB hF hR3 [] h13_3 hf1 (by decide)
  refine ⟨h1, h2.trans ?_⟩
  unfold fE; rw [sv3, if_neg (by decide), if_neg (by decide)]; decide +kernel
theorem h_foR : desk_Follow_pre 0 hB hF hRR [] ∧ desk_Follow_1 0 hB hF hRR [] = 5 := by
  obtain ⟨h1, h2, h3⟩ := follow_is 0 hB hF hRR [] h13_R hf1 (by decide)
  refine ⟨h1, h2.trans ?_⟩
  unfold fE; rw [svR, if_neg (by decide), if_pos (by decide)]
theorem h_exR : exR 0 1 hB hF hR3 = ([[2]], [[3, 3, 3, 3]], 0) := by
  have ha : askE 0 1 hB hF hR3 = 0 := ask_of sv3 (by decide) (by decide) (by decide)
  have hfi : (alls hR3.length ((1 : Int).toNat + 1)).find? (fun w => (lw 0 hB hF hR3 w).1 != 18) = some [[2]] := by decide +kernel
  unfold exR
  rw [ha, if_neg (by decide), hfi]
  decide +kernel
theorem h_exR0 : exR 0 0 hB hF hR3 = ([], [], 18) := by
  have ha : askE 0 0 hB hF hR3 = 0 := ask_of sv3 (by decide) (by decide) (by decide)
  have hfi : (alls hR3.length ((0 : Int).toNat + 1)).find? (fun w => (lw 0 hB hF hR3 w).1 != 18) = none := by decide +kernel
  unfold exR
  rw [ha, if_neg (by decide), hfi]
theorem h_ex1 : desk_Explain_pre 0 1 hB hF hR3 ∧ desk_Explain_0 0 1 hB hF hR3 = [[2]] ∧ desk_Explain_1 0 1 hB hF hR3 = [[3, 3, 3, 3]] ∧ desk_Explain_2 0 1 hB hF hR3 = 0 := by
  obtain ⟨h1, h2, h3, h4⟩ := explain_is 0 1 hB hF hR3 h13_3 hf1
  rw [h_exR] at h2 h3 h4
  exact ⟨h1, h2, h3, h4⟩
theorem h_ex0 : desk_Explain_pre 0 0 hB hF hR3 ∧ desk_Explain_2 0 0 hB hF hR3 = 18 := by
  obtain ⟨h1, h2, h3, h4⟩ := explain_is 0 0 hB hF hR3 h13_3 hf1
  rw [h_exR0] at h4
  exact ⟨h1, h4⟩
theorem h_wh (n : Int) (b : List Int) (h0 : 0 ≤ n ∧ n ≤ 3) (hok : ∀ w ∈ alls hR2.length (n.toNat + 1), okE (lw 0 hB hF hR2 w).1) (hh : hull ((alls hR2.length (n.toNat + 1)).flatMap fun w => (lw 0 hB hF hR2 w).2) = b)
    (hn : ((alls hR2.length (n.toNat + 1)).flatMap fun w => (lw 0 hB hF hR2 w).2) ≠ []) :
    desk_Where_pre 0 n hB hF hR2 ∧ desk_Where_4 0 n hB hF hR2 = 0 ∧ desk_Where_0 0 n hB hF hR2 = b.getD 0 0 ∧ desk_Where_1 0 n hB hF hR2 = b.getD 1 0 ∧ desk_Where_2 0 n hB hF hR2 = b.getD 2 0 ∧ desk_Where_3 0 n hB hF hR2 = b.getD 3 0 := by
  obtain ⟨h1, h2⟩ := where_is 0 n hB hF hR2 h13_2 hf1
  have ha : askE 0 n hB hF hR2 = 0 := ask_of sv2 h0.1 h0.2 (by decide)
  rcases h2 with ⟨k, _⟩ | ⟨_, w, k1, k2, _⟩ | ⟨_, _, k, _⟩ | ⟨_, _, _, k⟩
  · exact absurd ha k
  · exact absurd (hok w k1) k2
  · exact absurd k hn
  · rw [hh] at k; exact ⟨h1, k⟩
theorem h_nm : desk_Named_pre 0 1 hB hF hR3 ∧ desk_Named_1 0 1 hB hF hR3 = 0 ∧ desk_Named_0 0 1 hB hF hR3 = [[2]] := by
  obtain ⟨h1, h2⟩ := named_is 0 1 hB hF hR3 h13_3 hf1
  rw [h_exR] at h2
  rcases h2 with ⟨k, _⟩ | ⟨_, ⟨w, k1, k2, _⟩, _⟩ | ⟨_, _, k1, k2⟩
  · exact absurd rfl k
  · exact absurd ((show ∀ w ∈ dsets hR3.length 1, okE (lw 0 hB hF hR3 w).1 by decide +kernel) w k1) k2
  · have e : (dsets hR3.length 1).foldl (fun out W => if (lw 0 hB hF hR3 W).1 = 0 then out.filter (kp W) else out) [[2]] = [[2]] := by decide +kernel
    exact ⟨h1, k1, k2.trans e⟩
theorem h_ch (wr : List (List Int)) (b : Bool) (hw : wr.length ≤ 3) (h1 : wB hR3.length (-1) wr = true) (h2 : ck hF wr hT hR3 0 0 (decide (inB (pX hT 0) (pY hT 0) hB)) = (0, b)) :
    desk_Check_pre 0 hB hF hR3 wr hT ∧ desk_Check_1 0 hB hF hR3 wr hT = 0 ∧ desk_Check_0 0 hB hF hR3 wr hT = b := by
  obtain ⟨k1, k2, k3⟩ := check_is 0 hB hF hR3 wr hT h13_3 hf1 (by omega)
  have e : chX 0 hB hF hR3 wr hT = (0, b) := by
    unfold chX
    rw [sv3, h1, if_neg (by decide +kernel), if_neg (by decide), h2]
  rw [e] at k2 k3
  exact ⟨k1, k2, k3⟩
theorem head_ok : law25_head_0 = true ∧ law25_head_pre := by
  obtain ⟨f2, f2e, f2l⟩ := h_fo2
  obtain ⟨f3, f3e⟩ := h_fo3
  obtain ⟨fR, fRe⟩ := h_foR
  obtain ⟨x1, x1w, x1l, x1e⟩ := h_ex1
  obtain ⟨x0, x0e⟩ := h_ex0
  obtain ⟨w1, w1e, w10, w11, w12, w13⟩ := h_wh 1 [2, 9, 2, 3] (by decide) (by decide +kernel) (by decide +kernel) (by decide +kernel)
  obtain ⟨w2, w2e, w20, w21, w22, w23⟩ := h_wh 2 [0, 10, 0, 10] (by decide) (by decide +kernel) (by decide +kernel) (by decide +kernel)
  obtain ⟨n1, n1e, n1l⟩ := h_nm
  obtain ⟨c1, c1e, c1b⟩ := h_ch [[2]] true (by decide) (by decide) (by decide +kernel)
  obtain ⟨c0, c0e, c0b⟩ := h_ch [] false (by decide) (by decide) (by decide +kernel)
  have e21 : law25_head_s21 = 0 := f2e
  have e22 : law25_head_s22 = 18 := f3e
  have e23 : law25_head_s23 = 0 := x1e
  have e24 : law25_head_s24 = 18 := x0e
  have e25 : law25_head_s25 = 0 := w1e
  have e26 : law25_head_s26 = 0 := w2e
  have e27 : law25_head_s27 = 0 := n1e
  have e28 : law25_head_s28 = 0 := c1e
  have e29 : law25_head_s29 = 0 := c0e
  have e30 : law25_head_s30 = 5 := fRe
  have e31 : law25_head_s31 = [[3, 3, 3, 3]] := f2l
  have e32 : law25_head_s32 = [3, 3, 3, 3] := rfl
  have e33 : law25_head_s33 = [[2]] := x1w
  have e34 : law25_head_s34 = [[3, 3, 3, 3]] := x1l
  have e35 : law25_head_s35 = 2 := w10
  have e36 : law25_head_s36 = 9 := w11
  have e37 : law25_head_s37 = 2 := w12
  have e38 : law25_head_s38 = 3 := w13
  have e39 : law25_head_s39 = 0 := w20
  have e40 : law25_head_s40 = 10 := w21
  have e41 : law25_head_s41 = 0 := w22
  have e42 : law25_head_s42 = 10 := w23
  have e43 : law25_head_s43 = [[2]] := n1l
  have d1 : desk_Check_0 (0 : Int) [law25_head_s0] [[(0 : Int), (100 : Int), (0 : Int), (0 : Int), (0 : Int), (0 : Int)]] law25_head_s19 [[(2 : Int)]] law25_head_s20 = true := c1b
  have d0 : desk_Check_0 (0 : Int) [law25_head_s0] [[(0 : Int), (100 : Int), (0 : Int), (0 : Int), (0 : Int), (0 : Int)]] law25_head_s19 [] law25_head_s20 = false := c0b
  have sA := same_eq (a := [[3, 3, 3, 3]]) (b := [[3, 3, 3, 3]]) (by decide) (by decide) (by decide)
  have pA := (same_is [[3, 3, 3, 3]] [[3, 3, 3, 3]] (by decide)).1
  have iA := Si.ints_L 2
  have qA := (Si.ints_is [[2]] [[2]] (by decide)).1
  constructor
  · unfold law25_head_0
    rw [e21, e22, e23, e24, e25, e26, e27, e28, e29, e30, e31, e32, e33, e34, e35, e36, e37, e38, e39, e40, e41, e42, e43, sA, iA, d1, d0]
    decide
  · unfold law25_head_pre
    rw [e21, e22, e23, e24, e25, e26, e27, e28, e29, e30, e31, e32, e33, e34, e35, e36, e37, e38, e39, e40, e41, e42, e43, sA, iA]
    refine ⟨by decide, ⟨by decide, f2⟩, f3, x1, x0, by decide, ⟨by decide, w1⟩, by decide, ⟨by decide, w2⟩, n1, c1, c0, fR, fun hA => ⟨fun hB => ⟨fun _ => pA, hA, fun _ => qA, fun _ => pA, hB, fun _ => qA⟩, fun hB => absurd hB (by decide)⟩, fun hA => absurd hA (by decide)⟩
end Go.Proofs.Ytnijhjpaplihbaa
