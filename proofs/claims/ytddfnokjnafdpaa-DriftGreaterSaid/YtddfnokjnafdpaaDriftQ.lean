/-
  The law of tidied sets.
-/
import Derived.Test.YtddfnokjnafdpaaDriftP
set_option linter.unusedVariables false
set_option maxRecDepth 100000
namespace Go.Proofs.Ytddfnokjnafdpaa
open Go Go.Sy

theorem rowLe {W : World} {own : Bool} {e : TypeId} {k : Nat} {v : Value} {n : Nat} {vs : List Value} (h : RowOk W own e k v n vs) : n ≤ 9223372036854775807 := by
  obtain ⟨a, c, _, h1, h2⟩ := h.reads.is
  unfold maxLen at h2
  omega
theorem refValidBox {b : List Int} (h : VB b) : ref02_ValidBox_0 (b.getD 0 0) (b.getD 1 0) (b.getD 2 0) (b.getD 3 0) = true := by
  unfold VB at h
  unfold ref02_ValidBox_0 ref02_coords_0
  simp only [Bool.and_eq_true, decide_eq_true_eq]
  omega
theorem refWithin {s t x y : Int} (h1 : -1000000000000 ≤ s ∧ s ≤ t ∧ t ≤ 1000000000000) (h2 : -1000000000000 ≤ x ∧ x ≤ y ∧ y ≤ 1000000000000) : ref02_Within_0 s t x y = (decide (x ≤ s) && decide (t ≤ y)) := by
  have v1 : ref02_Valid_0 s t = true := by unfold ref02_Valid_0; simp only [Bool.and_eq_true, decide_eq_true_eq]; omega
  have v2 : ref02_Valid_0 x y = true := by unfold ref02_Valid_0; simp only [Bool.and_eq_true, decide_eq_true_eq]; omega
  unfold ref02_Within_0 ref02_Both_0
  rw [v1, v2]
  rfl
theorem refWithinBox {a b : List Int} (ha : VB a) (hb : VB b) : ref02_WithinBox_0 (a.getD 0 0) (a.getD 1 0) (a.getD 2 0) (a.getD 3 0) (b.getD 0 0) (b.getD 1 0) (b.getD 2 0) (b.getD 3 0) = decide (WB a b) := by
  unfold ref02_WithinBox_0 ref02_BothBoxes_0
  rw [refValidBox ha, refValidBox hb]
  unfold VB at ha hb
  rw [refWithin (by omega) (by omega), refWithin (by omega) (by omega), Bool.eq_iff_iff]
  simp only [Bool.and_self, Bool.not_true, cond_false, Bool.and_eq_true, decide_eq_true_eq]
  unfold WB
  omega
theorem refJoins {a b : List Int} (ha : VB a) (hb : VB b) : ref23_Joins_0 (a.getD 0 0) (a.getD 1 0) (a.getD 2 0) (a.getD 3 0) (b.getD 0 0) (b.getD 1 0) (b.getD 2 0) (b.getD 3 0) = decide (JN a b) := by
  unfold ref23_Joins_0 ref23_meets_0
  rw [refWithinBox ha hb, refWithinBox hb ha, Bool.eq_iff_iff]
  simp only [Bool.or_eq_true, Bool.and_eq_true, decide_eq_true_eq, beq_iff_eq, and_true]
  unfold VB at ha hb
  unfold JN MB WB
  omega
theorem driftTidy_ok (x y : Int) (list : List (List Int)) (h4 : ∀ b ∈ list, b.length = 4) : law23_DriftTidy_0 x y list = true ∧ law23_DriftTidy_pre x y list := by
  obtain ⟨hh, hp⟩ := head_ok
  obtain ⟨p1, t1, t0⟩ := tidy_is list h4
  have pv := valid_is list
  obtain ⟨p2, i1, i0⟩ := in_is x y list
  by_cases hl : VL list
  · have T := tid_is hl h4
    have eE : tidE list = 0 := if_pos hl
    have eL : tidL list = tid list := if_pos hl
    rw [eL] at t0
    rw [eE] at t1
    obtain ⟨q1, u1, u0⟩ := tidy_is (tid list) T.f4
    have eE2 : tidE (tid list) = 0 := if_pos T.vl
    have eL2 : tidL (tid list) = tid (tid list) := if_pos T.vl
    rw [eL2, T.fix] at u0
    rw [eE2] at u1
    obtain ⟨q2, j1, j0⟩ := in_is x y (tid list)
    have hlen := T.vl.2.1
    have hsame := same_eq (a := tid list) (b := tid list) (by omega) T.f4 T.f4
    have psame := (same_is (tid list) (tid list) (by omega)).1
    have hap := apart_iff.1 T.apart
    have l1 : ∀ i, i < (tid list).length → loopOk (law23_DriftTidy_l1_step x y list [.b true, .i i]) (law23_DriftTidy_l1_init x y list [.b true, .i i]) ∧ law23_DriftTidy_l1 x y list [.b true, .i i] = (2, [.b true, .i i]) := by
      intro i hi
      have key := loop_fold (σ := Unit) (step := law23_DriftTidy_l1_step x y list [.b true, .i i]) i (fun k _ => [.b true, .i k]) (fun _ s => s) (fun _ _ => True) 1 (fun _ => [.b true, .i i])
        (fun _ _ _ _ => trivial)
        (fun k s hk _ => by
          have hk' : k < (tid list).length := by omega
          unfold law23_DriftTidy_l1_step
          rw [t0]
          have hj := refJoins (T.vl.2.2 _ (getD_mem hi)) (T.vl.2.2 _ (getD_mem hk'))
          have hn : decide (JN ((tid list).getD i []) ((tid list).getD k [])) = false := decide_eq_false (fun h => hap k i hk hi (JN_symm h))
          simp only [gi_1, gi_z, gb_z, Int.toNat_natCast, hj, hn, wrap_succ (show k < 4611686018427387904 by omega)]
          rw [decide_eq_true (show (k : Int) < (i : Int) by omega)]
          rw [guardP_pos (fun _ => inR_of hi), guardP_pos (fun _ => inR_of hi), guardP_pos (fun _ => inR_of hk'), guardP_pos (fun _ => inR_of hk')]
          rfl)
        (fun s _ => by
          unfold law23_DriftTidy_l1_step
          simp only [gi_1, gi_z, gb_z]
          rw [decide_eq_false (show ¬ (i : Int) < (i : Int) by omega)]
          rfl) (s := ()) trivial
      exact ⟨key.1, key.2.1⟩
    have e0 : law23_DriftTidy_l0_init x y list = [.b true, .i ((0 : Nat) : Int)] := by
      unfold law23_DriftTidy_l0_init
      rw [t0, u1, u0, hh, hsame]
      simp
    have key := loop_fold (σ := Unit) (step := law23_DriftTidy_l0_step x y list) (tid list).length (fun i _ => [.b true, .i i]) (fun _ s => s) (fun _ _ => True) 1 (fun _ => [.b true, .i (tid list).length])
      (fun _ _ _ _ => trivial)
      (fun i s hi _ => by
        obtain ⟨k1, k2⟩ := l1 i hi
        unfold law23_DriftTidy_l0_step
        rw [t0, guardP_pos k1, k2]
        simp only [gi_1, gi_z, gb_z, dlt hi, wrap_succ (show i < 4611686018427387904 by omega)])
      (fun s _ => by
        unfold law23_DriftTidy_l0_step
        rw [t0]
        simp only [gi_1, gi_z, gb_z, dnlt]) (s := ()) trivial
    have kE : law23_DriftTidy_l0 x y list = (2, [.b true, .i (tid list).length]) := by unfold law23_DriftTidy_l0; rw [e0]; exact key.2.1
    constructor
    · unfold law23_DriftTidy_0
      rw [t1, t0, kE, i1, i0, j1, j0]
      have a1 : (((tid list).length : Int) == 0 || decide (((tid list).length : Int) > (list.length : Int))) = false := by
        have := T.pos
        have := T.le
        rw [Bool.or_eq_false_iff]
        exact ⟨beq_eq_false_iff_ne.2 (by omega), decide_eq_false (by omega)⟩
      rw [a1]
      have eI : inE x y (tid list) = inE x y list := by
        unfold inE
        have : (¬ VL (tid list) ∨ ¬ VP x y) ↔ (¬ VL list ∨ ¬ VP x y) := ⟨fun h => h.imp (fun k => absurd T.vl k) id, fun h => h.imp (fun k => absurd hl k) id⟩
        by_cases g : ¬ VL list ∨ ¬ VP x y
        · rw [if_pos g, if_pos (this.2 g)]
        · rw [if_neg g, if_neg (fun k => g (this.1 k))]
      have eB : decide (inB x y (tid list)) = decide (inB x y list) := by
        rw [Bool.eq_iff_iff]
        simp only [decide_eq_true_eq]
        unfold inB
        rw [eI, T.has x y]
      rw [eI, eB]
      simp [gb_z]
    · refine ⟨hp, p1, fun _ _ => pv.1, fun _ _ => ?_⟩
      rw [t0, u0]
      exact ⟨q1, fun _ => psame, by rw [e0]; exact key.1, p2, q2⟩
  · have eE : tidE list = 1 := if_neg hl
    have eL : tidL list = [] := if_neg hl
    constructor
    · unfold law23_DriftTidy_0
      rw [t1, eE, hh, pv.2, decide_eq_false hl]
      rfl
    · refine ⟨hp, p1, fun _ _ => pv.1, fun h => ?_⟩
      rw [t1, eE] at h
      cases h
end Go.Proofs.Ytddfnokjnafdpaa
