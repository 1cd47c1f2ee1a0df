/-
  The laws of the chapter, as far as what the functions compute.
-/
import Derived.Test.YtddfnokjnafdpaaDriftH
set_option linter.unusedVariables false
set_option maxRecDepth 100000
namespace Go.Proofs.Ytddfnokjnafdpaa
open Go Go.Sy

theorem vt_self {f m : Int} (h : VT f m) : VT f f := by unfold VT at *; omega
theorem driftSum_ok (f m u px py qx qy : Int) (l : List (List Int)) (hl : l.length ≤ 9223372036854775807) : law23_DriftSum_0 f m u px py qx qy l = true ∧ law23_DriftSum_pre f m u px py qx qy l := by
  obtain ⟨hh, hp⟩ := head_ok
  obtain ⟨p1, a4, a0, a1, a2, a3⟩ := sum_is f m l hl
  obtain ⟨p2, b4, b0, b1, b2, b3⟩ := sum_is m u l hl
  obtain ⟨p3, c4, c0, c1, c2, c3⟩ := sum_is f u l hl
  obtain ⟨p4, d4, d0, d1, d2, d3⟩ := sum_is f f l hl
  obtain ⟨q, q1, q0⟩ := allows_is f u px py qx qy l hl
  refine ⟨?_, hp, p1, p2, p3, p4, fun _ => q⟩
  unfold law23_DriftSum_0 law23_of_0 law23_of_1
  rw [a4, a0, a1, a2, a3, b4, b0, b1, b2, b3, c4, c0, c1, c2, c3, d4, d0, d1, d2, d3, q1, q0, hh]
  have hX : (sumE f u l == 0 || allE f u px py qx qy l != 0 && !decide (allB f u px py qx qy l)) = true := by
    by_cases h : sumE f u l = 0
    · rw [h]; rfl
    · have : allE f u px py qx qy l ≠ 0 := by
        rcases allE_cases f u px py qx qy l with ⟨e, _⟩ | ⟨e, _⟩
        · rw [e]; decide
        · rw [e]; exact h
      rw [decide_eq_false (show ¬ allB f u px py qx qy l from fun k => this k.1)]
      simp [this]
  rw [hX]
  rcases sumE_cases f f l with ⟨e, h⟩ | ⟨e, _, _, h⟩ | ⟨e, hv, ht, _⟩
  · have : sumE f m l = 1 := if_pos (h.imp id fun k t => k (vt_self t))
    rw [e, this]; rfl
  · rw [covL_none] at h; omega
  · have z : ∀ k, sumV f f k l = 0 := fun k => by rw [sumV_ok e, sumL_none]
    rw [e, z, z, z, z]
    rcases sumE_cases f m l with ⟨x, h1⟩ | ⟨x, xv, xt, h1⟩ | ⟨x, xv, xt, h1⟩
    · rw [x]; rfl
    · rcases sumE_cases m u l with ⟨y, h2⟩ | ⟨y, yv, yt, h2⟩ | ⟨y, yv, yt, h2⟩
      · rw [x, y]; rfl
      · have hc := covL_add hv (f := f) (m := m) (u := u) (by unfold VT at xt; omega) (by unfold VT at yt; omega)
        have hE : sumE f u l = 4 := by
          rcases sumE_cases f u l with ⟨_, h | h⟩ | ⟨h, _⟩ | ⟨_, _, _, h⟩
          · exact absurd hv h
          · exact absurd (show VT f u by unfold VT at *; omega) h
          · exact h
          · omega
        rw [x, y, hE]; rfl
      · have hc := covL_add hv (f := f) (m := m) (u := u) (by unfold VT at xt; omega) (by unfold VT at yt; omega)
        have hE : sumE f u l = 4 := by
          rcases sumE_cases f u l with ⟨_, h | h⟩ | ⟨h, _⟩ | ⟨_, _, _, h⟩
          · exact absurd hv h
          · exact absurd (show VT f u by unfold VT at *; omega) h
          · exact h
          · omega
        rw [x, y, hE]; rfl
    · rcases sumE_cases m u l with ⟨y, h2⟩ | ⟨y, yv, yt, h2⟩ | ⟨y, yv, yt, h2⟩
      · rw [x, y]; rfl
      · have hc := covL_add hv (f := f) (m := m) (u := u) (by unfold VT at xt; omega) (by unfold VT at yt; omega)
        have hE : sumE f u l = 4 := by
          rcases sumE_cases f u l with ⟨_, h | h⟩ | ⟨h, _⟩ | ⟨_, _, _, h⟩
          · exact absurd hv h
          · exact absurd (show VT f u by unfold VT at *; omega) h
          · exact h
          · omega
        rw [x, y, hE]; rfl
      · have hE := sumE_two x y
        have k2 := sumL_add hv (f := f) (m := m) (u := u) (by unfold VT at xt; omega) (by unfold VT at yt; omega)
        rw [x, y, hE, sumV_ok x, sumV_ok x, sumV_ok x, sumV_ok x, sumV_ok y, sumV_ok y, sumV_ok y, sumV_ok y, sumV_ok hE, sumV_ok hE, sumV_ok hE, sumV_ok hE, k2 2, k2 3, k2 4, k2 5]
        have r2 := sumL_bd hv xt (k := 2) (by simp)
        have r3 := sumL_bd hv xt (k := 3) (by simp)
        have r4 := sumL_bd hv xt (k := 4) (by simp)
        have r5 := sumL_bd hv xt (k := 5) (by simp)
        have t2 := sumL_bd hv yt (k := 2) (by simp)
        have t3 := sumL_bd hv yt (k := 3) (by simp)
        have t4 := sumL_bd hv yt (k := 4) (by simp)
        have t5 := sumL_bd hv yt (k := 5) (by simp)
        rw [i64_wrap (by omega), i64_wrap (by omega), i64_wrap (by omega), i64_wrap (by omega)]
        simp
theorem lo_hi {x s y t : Int} (h : x ≤ y) (k : s ≤ t) : lo x s ≤ hi y t := by unfold lo hi; omega
theorem driftHolds_ok (f u px py qx qy : Int) (list c : List (List Int)) (hc : c.length ≤ 9223372036854775807) : law23_DriftHolds_0 f u px py qx qy list c = true ∧ law23_DriftHolds_pre f u px py qx qy list c := by
  obtain ⟨hh, hp⟩ := head_ok
  obtain ⟨p1, m1, m0⟩ := move_is f u list c hc
  obtain ⟨p2, i1, i0⟩ := in_is px py list
  obtain ⟨p3, a1, a0⟩ := allows_is f u px py qx qy c hc
  have j := in_is qx qy (drift_Move_0 f u list c)
  obtain ⟨p4, j1, j0⟩ := j
  refine ⟨?_, hp, p1, p2, p3, fun _ => p4⟩
  unfold law23_DriftHolds_0
  rw [j1, j0, m1, m0, i1, i0, a1, a0, hh]
  by_cases hm : moveE f u list c = 0
  · obtain ⟨vl, hs, hb, hL⟩ := moveE_ok hm
    rcases inE_cases px py list with ⟨e, h⟩ | ⟨e, h, vp⟩
    · rw [hm, e]; rfl
    · rcases allE_cases f u px py qx qy c with ⟨g, _⟩ | ⟨g, _, vq⟩
      · rw [hm, e, g]; rfl
      · have g0 : allE f u px py qx qy c = 0 := g.trans hs
        have vm : VL (moveL f u list c) := by rw [hL]; exact VL_map vl hb
        have ei : inE qx qy (moveL f u list c) = 0 := if_neg (fun k => k.elim (fun k => k vm) (fun k => k vq))
        rw [hm, e, g0, ei]
        by_cases w1 : inB px py list
        · by_cases w2 : allB f u px py qx qy c
          · have w3 : inB qx qy (moveL f u list c) := by
              refine ⟨ei, ?_⟩
              obtain ⟨b, hb', hB⟩ := w1.2
              rw [hL]
              refine ⟨_, List.mem_map_of_mem hb', ?_⟩
              have s := sumV_ok (f := f) (u := u) (l := c) hs
              obtain ⟨_, u2, u3, u4, u5⟩ := w2
              have := mvF_get f u c b
              rw [s 2, s 3, s 4, s 5] at this
              unfold lo hi at this
              unfold HB at hB ⊢
              omega
            rw [decide_eq_true w3]; simp
          · rw [decide_eq_false w2]; simp
        · rw [decide_eq_false w1]; simp
  · have : (moveE f u list c != 0) = true := by simpa using hm
    rw [this]; simp
theorem wbF {f m u : Int} {c : List (List Int)} (h1 : sumE f m c = 0) (h2 : sumE m u c = 0) (b : List Int) : WB (mvF f u c b) (mvF m u c (mvF f m c b)) := by
  have hE := sumE_two h1 h2
  have a := sumE_ok h1
  have bb := sumE_ok h2
  have hm : f ≤ m ∧ m ≤ u := by have := a.2.1; have := bb.2.1; unfold VT at *; omega
  have k := sumL_add a.1 hm.1 hm.2
  have g1 := mvF_get f u c b
  have g2 := mvF_get f m c b
  have g3 := mvF_get m u c (mvF f m c b)
  rw [sumV_ok hE, sumV_ok hE, sumV_ok hE, sumV_ok hE, k 2, k 3, k 4, k 5] at g1
  rw [sumV_ok h1, sumV_ok h1, sumV_ok h1, sumV_ok h1] at g2
  rw [sumV_ok h2, sumV_ok h2, sumV_ok h2, sumV_ok h2, g2.1, g2.2.1, g2.2.2.1, g2.2.2.2] at g3
  unfold lo hi at g1 g3
  unfold WB
  omega
theorem vb_of_wb {f u : Int} {c : List (List Int)} {b x : List Int} (hs : sumE f u c = 0) (hb : VB b) (hw : WB (mvF f u c b) x) (hx : VB x) : VB (mvF f u c b) := by
  have g := mvF_get f u c b
  have hv := (sumE_ok hs).1
  have s2 := sumL_x (f := f) (u := u) hv
  have s4 := sumL_y (f := f) (u := u) hv
  rw [sumV_ok hs, sumV_ok hs, sumV_ok hs, sumV_ok hs] at g
  unfold lo hi at g
  unfold WB at hw
  unfold VB at *
  omega
theorem getD_map {l : List (List Int)} {g : List Int → List Int} {i : Nat} (h : i < l.length) : (l.map g).getD i [] = g (l.getD i []) := by
  simp [List.getD_eq_getElem?_getD, List.getElem?_eq_getElem h]
theorem moveL_len (f u : Int) (l c : List (List Int)) : (moveL f u l c).length ≤ 16 := by
  unfold moveL
  split
  · rename_i h
    have := (moveE_ok h).1.2.1
    simpa using this
  · simp
theorem driftSteps_ok (f m u px py qx qy sx sy : Int) (list c : List (List Int)) (hc : c.length ≤ 9223372036854775807) : law23_DriftSteps_0 f m u px py qx qy sx sy list c = true ∧ law23_DriftSteps_pre f m u px py qx qy sx sy list c := by
  obtain ⟨hh, hp⟩ := head_ok
  obtain ⟨p1, a1, a0⟩ := allows_is f m px py qx qy c hc
  obtain ⟨p2, b1, b0⟩ := allows_is m u qx qy sx sy c hc
  obtain ⟨p3, c1, c0⟩ := allows_is f u px py sx sy c hc
  obtain ⟨p4, d1, d0⟩ := move_is f m list c hc
  obtain ⟨p5, e1, e0⟩ := move_is m u (drift_Move_0 f m list c) c hc
  obtain ⟨p6, g1, g0⟩ := move_is f u list c hc
  have w := within_is (drift_Move_0 f u list c) (drift_Move_0 m u (drift_Move_0 f m list c) c) (by rw [g0]; have := moveL_len f u list c; omega)
  refine ⟨?_, hp, p1, p2, p3, fun _ => ⟨p4, p5, p6, fun _ _ => w.1⟩, fun _ => ⟨p4, p5, p6, fun _ _ => w.1⟩⟩
  unfold law23_DriftSteps_0
  have hA : (allE f m px py qx qy c == 0 && allE m u qx qy sx sy c == 0) = true → allE f u px py sx sy c = 0 ∧ (!decide (allB f m px py qx qy c) || !decide (allB m u qx qy sx sy c) || decide (allB f u px py sx sy c)) = true := by
    intro h
    simp only [Bool.and_eq_true, beq_iff_eq] at h
    obtain ⟨h1, h2⟩ := h
    rcases allE_cases f m px py qx qy c with ⟨g, _⟩ | ⟨g, vp, vq⟩
    · rw [h1] at g; cases g
    rcases allE_cases m u qx qy sx sy c with ⟨k, _⟩ | ⟨k, _, vs⟩
    · rw [h2] at k; cases k
    have s1 : sumE f m c = 0 := g.symm.trans h1
    have s2 : sumE m u c = 0 := k.symm.trans h2
    have s3 := sumE_two s1 s2
    have aE : allE f u px py sx sy c = 0 := (if_neg (fun z => z.elim (fun z => z vp) (fun z => z vs)) : _ = sumE f u c).trans s3
    refine ⟨aE, ?_⟩
    by_cases w1 : allB f m px py qx qy c
    · by_cases w2 : allB m u qx qy sx sy c
      · have w3 : allB f u px py sx sy c := by
          have a := sumE_ok s1
          have b := sumE_ok s2
          have hm : f ≤ m ∧ m ≤ u := by have := a.2.1; have := b.2.1; unfold VT at *; omega
          have k := sumL_add a.1 hm.1 hm.2
          obtain ⟨_, y2, y3, y4, y5⟩ := w1
          obtain ⟨_, z2, z3, z4, z5⟩ := w2
          refine ⟨aE, ?_⟩
          rw [k 2, k 3, k 4, k 5]
          omega
        rw [decide_eq_true w3]; simp
      · rw [decide_eq_false w2]; simp
    · rw [decide_eq_false w1]; simp
  have hM : (moveE f m list c != 0 || moveE m u (moveL f m list c) c != 0) = false → moveE f u list c = 0 ∧ law23_within_0 (moveL f u list c) (moveL m u (moveL f m list c) c) = true := by
    intro h
    simp only [Bool.or_eq_false_iff, bne_eq_false_iff_eq] at h
    obtain ⟨h1, h2⟩ := h
    obtain ⟨vl, s1, b1, L1⟩ := moveE_ok h1
    obtain ⟨vl2, s2, b2, L2⟩ := moveE_ok h2
    rw [L1] at b2 L2
    have s3 := sumE_two s1 s2
    have b3 : ∀ b ∈ list, VB (mvF f u c b) := fun b hb => vb_of_wb s3 (vl.2.2 b hb) (wbF s1 s2 b) (b2 _ (List.mem_map_of_mem hb))
    have h3 := moveE_of vl s3 b3
    refine ⟨h3, ?_⟩
    have L3 := (moveE_ok h3).2.2.2
    rw [L1, L2, L3]
    have h16 := vl.2.1
    rw [(within_is _ _ (by simp; omega)).2]
    refine ⟨by simp, fun i hi => ?_⟩
    have hi : i < list.length := by simpa using hi
    rw [getD_map hi, getD_map (by simpa using hi), getD_map hi]
    exact wbF s1 s2 _
  rw [a1, a0, b1, b0, c1, c0, e1, e0, d1, d0, g1, g0, hh]
  cases hx : (allE f m px py qx qy c == 0 && allE m u qx qy sx sy c == 0) with
  | true =>
    obtain ⟨x1, x2⟩ := hA hx
    rw [x1, x2]
    cases hy : (moveE f m list c != 0 || moveE m u (moveL f m list c) c != 0) with
    | true => rfl
    | false =>
      obtain ⟨y1, y2⟩ := hM hy
      rw [y1, y2]; rfl
  | false =>
    cases hy : (moveE f m list c != 0 || moveE m u (moveL f m list c) c != 0) with
    | true => rfl
    | false =>
      obtain ⟨y1, y2⟩ := hM hy
      rw [y1, y2]; rfl
theorem driftCut_ok (b0 b1 b2 b3 x y : Int) (list : List (List Int)) : law23_DriftCut_0 b0 b1 b2 b3 x y list = true ∧ law23_DriftCut_pre b0 b1 b2 b3 x y list := by
  obtain ⟨hh, hp⟩ := head_ok
  obtain ⟨p1, c1, c0⟩ := cut_is b0 b1 b2 b3 list
  obtain ⟨p2, i1, i0⟩ := in_is x y list
  obtain ⟨p3, j1, j0⟩ := in_is x y [[b0, b1, b2, b3]]
  obtain ⟨p4, k1, k0⟩ := in_is x y (drift_Cut_0 b0 b1 b2 b3 list)
  refine ⟨?_, hp, p1, p2, p3, fun _ _ => p4⟩
  unfold law23_DriftCut_0
  rw [k1, k0, c1, c0, i1, i0, j1, j0, hh]
  have hone : VL [[b0, b1, b2, b3]] ↔ VB [b0, b1, b2, b3] := ⟨fun h => h.2.2 _ List.mem_cons_self, fun h => ⟨by simp, by simp, fun z hz => by rw [List.mem_singleton.1 hz]; exact h⟩⟩
  rcases inE_cases x y list with ⟨e, h⟩ | ⟨e, h, vp⟩
  · rw [e]
    by_cases hl : VL list
    · have vp : ¬ VP x y := h.resolve_left (fun k => k hl)
      have e2 : inE x y [[b0, b1, b2, b3]] = 1 := if_pos (.inr vp)
      rw [e2]; simp
    · have e3 : cutE [b0, b1, b2, b3] list = 1 := if_pos (.inl hl)
      rw [e3]; simp
  · rw [e]
    rcases inE_cases x y [[b0, b1, b2, b3]] with ⟨g, k⟩ | ⟨g, k, _⟩
    · have vb : ¬ VB [b0, b1, b2, b3] := fun z => (k.resolve_right (fun z => z vp)) (hone.2 z)
      have e3 : cutE [b0, b1, b2, b3] list = 1 := if_pos (.inr vb)
      rw [g, e3]; simp
    · have vb := hone.1 k
      rw [g]
      have hin : inB x y [[b0, b1, b2, b3]] ↔ HB x y [b0, b1, b2, b3] := ⟨fun z => by obtain ⟨_, w, hw, hb⟩ := z; rw [List.mem_singleton.1 hw] at hb; exact hb, fun z => ⟨g, _, List.mem_cons_self, z⟩⟩
      have hinl : inB x y list ↔ ∃ b ∈ list, HB x y b := ⟨fun z => z.2, fun z => ⟨e, z⟩⟩
      have hcut := in_cut x y [b0, b1, b2, b3] list
      rcases cutE_cases [b0, b1, b2, b3] list with ⟨q, z⟩ | ⟨q, _, _, z⟩ | ⟨q, _, _, z, zL⟩
      · exact absurd z (fun z => z.elim (fun z => z h) (fun z => z vb))
      · rw [q]
        have : ¬ (inB x y list ∧ inB x y [[b0, b1, b2, b3]]) := by
          rw [hin, hinl, ← hcut, z]
          rintro ⟨_, hm, _⟩
          cases hm
        by_cases w1 : inB x y list
        · rw [decide_eq_true w1, decide_eq_false (fun w2 => this ⟨w1, w2⟩)]; rfl
        · rw [decide_eq_false w1]; rfl
      · rw [q, zL]
        have vc := vl_cut h vb z
        have ei : inE x y (cutP [b0, b1, b2, b3] list) = 0 := if_neg (fun k => k.elim (fun k => k vc) (fun k => k vp))
        have hinc : inB x y (cutP [b0, b1, b2, b3] list) ↔ inB x y list ∧ inB x y [[b0, b1, b2, b3]] := by
          rw [hin, hinl, ← hcut]
          exact ⟨fun z => z.2, fun z => ⟨ei, z⟩⟩
        have hd : decide (inB x y (cutP [b0, b1, b2, b3] list)) = (decide (inB x y list) && decide (inB x y [[b0, b1, b2, b3]])) := by
          rw [Bool.eq_iff_iff]; simp [hinc]
        have hlen := cutP_len [b0, b1, b2, b3] list
        rw [ei, hd]
        simp
        exact_mod_cast hlen
theorem bet_len (a b : List (List Int)) : (betL a b).length ≤ 60 ∧ ∀ r ∈ betL a b, r.length = 6 := by
  by_cases h : betE a b = 0
  · obtain ⟨h1, h2, _⟩ := bet_ok h
    exact ⟨h1.2, h2⟩
  · have : betL a b = [] := if_neg h
    rw [this]
    exact ⟨by simp, by simp⟩
theorem driftBetter_ok (f u px py qx qy : Int) (a b list : List (List Int)) (ha : a.length ≤ 9223372036854775807) (hb : b.length ≤ 9223372036854775807) (ha6 : ∀ c ∈ a, c.length = 6) (hb6 : ∀ c ∈ b, c.length = 6) :
    law23_DriftBetter_0 f u px py qx qy a b list = true ∧ law23_DriftBetter_pre f u px py qx qy a b list := by
  obtain ⟨hh, hp⟩ := head_ok
  obtain ⟨p1, c1, c0⟩ := better_is a b ha hb ha6 hb6
  obtain ⟨p2, d1, d0⟩ := better_is b a hb ha hb6 ha6
  obtain ⟨bl, b6⟩ := bet_len a b
  have hl : (drift_Better_0 a b).length ≤ 9223372036854775807 := by rw [c0]; omega
  obtain ⟨p3, e1, e0⟩ := allows_is f u px py qx qy (drift_Better_0 a b) hl
  obtain ⟨p4, g1, g0⟩ := allows_is f u px py qx qy a ha
  obtain ⟨p5, m1, m0⟩ := move_is f u list (drift_Better_0 a b) hl
  obtain ⟨p6, n1, n0⟩ := move_is f u list a ha
  have w := within_is (drift_Move_0 f u list (drift_Better_0 a b)) (drift_Move_0 f u list a) (by rw [m0]; have := moveL_len f u list (drift_Better_0 a b); omega)
  have fl := flows_is (drift_Better_0 a b) (drift_Better_0 b a) (by rw [c0]; omega)
  refine ⟨?_, hp, p1, p2, fun _ => fl.1, fun _ => ⟨p3, p4, fun _ => ⟨p5, p6, fun _ _ => w.1⟩, fun _ => ⟨p5, p6, fun _ _ => w.1⟩⟩⟩
  unfold law23_DriftBetter_0
  have hf : ref23_Flows_0 (betL a b) (betL b a) = true := by
    rw [← betL_symm a b, flows_eq (by omega) b6 b6]
    simp
  rw [c0] at e1 e0 m1 m0
  rw [c0, d0, e1, e0, m1, m0, c1, d1, g1, g0, n1, n0, hh, hf, ← betE_symm a b]
  by_cases hE : betE a b = 0
  · rw [hE]
    have hM : (moveE f u list a != 0) = false → moveE f u list (betL a b) = 0 ∧ law23_within_0 (moveL f u list (betL a b)) (moveL f u list a) = true := by
      intro h
      have h : moveE f u list a = 0 := by simpa using h
      obtain ⟨vl, s1, b1, L1⟩ := moveE_ok h
      obtain ⟨s2, q2, q3, q4, q5⟩ := bet_sum hE s1
      have hw : ∀ b' : List Int, WB (mvF f u (betL a b) b') (mvF f u a b') := by
        intro b'
        have k1 := mvF_get f u a b'
        have k2 := mvF_get f u (betL a b) b'
        rw [sumV_ok s1, sumV_ok s1, sumV_ok s1, sumV_ok s1] at k1
        rw [sumV_ok s2, sumV_ok s2, sumV_ok s2, sumV_ok s2] at k2
        unfold lo hi at k1 k2
        unfold WB
        omega
      have b2 : ∀ b' ∈ list, VB (mvF f u (betL a b) b') := fun b' hb' => vb_of_wb s2 (vl.2.2 b' hb') (hw b') (b1 b' hb')
      have h2 := moveE_of vl s2 b2
      refine ⟨h2, ?_⟩
      rw [L1, (moveE_ok h2).2.2.2]
      have h16 := vl.2.1
      rw [(within_is _ _ (by simp; omega)).2]
      refine ⟨by simp, fun i hi => ?_⟩
      have hi : i < list.length := by simpa using hi
      rw [getD_map hi, getD_map hi]
      exact hw _
    have hA : (allE f u px py qx qy a == 0) = true → allE f u px py qx qy (betL a b) = 0 ∧ (!decide (allB f u px py qx qy (betL a b)) || decide (allB f u px py qx qy a)) = true := by
      intro h
      have h : allE f u px py qx qy a = 0 := by simpa using h
      rcases allE_cases f u px py qx qy a with ⟨g, _⟩ | ⟨g, vp, vq⟩
      · rw [h] at g; cases g
      have s1 : sumE f u a = 0 := g.symm.trans h
      obtain ⟨s2, q2, q3, q4, q5⟩ := bet_sum hE s1
      have aE : allE f u px py qx qy (betL a b) = 0 := (if_neg (fun z => z.elim (fun z => z vp) (fun z => z vq)) : _ = sumE f u (betL a b)).trans s2
      refine ⟨aE, ?_⟩
      by_cases w1 : allB f u px py qx qy (betL a b)
      · have w2 : allB f u px py qx qy a := by
          obtain ⟨_, y2, y3, y4, y5⟩ := w1
          exact ⟨h, by omega, by omega, by omega, by omega⟩
        rw [decide_eq_true w2]; simp
      · rw [decide_eq_false w1]; simp
    cases hx : (allE f u px py qx qy a == 0) with
    | true =>
      obtain ⟨x1, x2⟩ := hA hx
      rw [x1, x2]
      cases hy : (moveE f u list a != 0) with
      | true => rfl
      | false =>
        obtain ⟨y1, y2⟩ := hM hy
        rw [y1, y2]; rfl
    | false =>
      cases hy : (moveE f u list a != 0) with
      | true => rfl
      | false =>
        obtain ⟨y1, y2⟩ := hM hy
        rw [y1, y2]; rfl
  · rcases betE_cases a b with g | g | g | ⟨g, _⟩
    · rw [g]; rfl
    · rw [g]; rfl
    · rw [g]; rfl
    · exact absurd g hE
end Go.Proofs.Ytddfnokjnafdpaa
