/-
  For all inputs DriftMatchesReference returns true and leaves what it was given as it was.
  Conditions: none.
-/
import Derived.Test.YtddfnokjnafdpaaGreatRows
import Derived.Test.YtddfnokjnafdpaaGreatDriftJ
import Derived.Test.YtddfnokjnafdpaaGreatDriftT

namespace Go.Proofs.YtddfnokjnafdpaaGreat.lawDriftMatchesReference
open Go Go.Sy Go.ChangeShapes Go.WideShapes Go.ChangeAt Go.RowKit
set_option maxRecDepth 100000
set_option linter.unusedVariables false

theorem own : ownKnob Tryz.prog.godebug = none := by kernel_rfl
theorem laidOut : laidOutB Tryz.prog = true := by kernel_rfl

theorem walk (W : World) : ∀ (args : List Value), FitsAll W [.sl 29 [.int .i64, .int .i64, .int .i64, .int .i64], .sl 50 [.int .i64, .int .i64, .int .i64, .int .i64, .int .i64, .int .i64], .sl 50 [.int .i64, .int .i64, .int .i64, .int .i64, .int .i64, .int .i64], .one (.int .i64), .one (.int .i64), .agg [.int .i64, .int .i64], .agg [.int .i64, .int .i64], .agg [.int .i64, .int .i64, .int .i64, .int .i64]] args → Calls Tryz.prog 3 args.toArray W fun e w' => e = .returned (.bool true) ∧ Below W.heap.size W w' := by
  intro args h
  obtain ⟨v0, v1, v2, v3, v4, v5, v6, v7, rfl, h0, h1, h2, h3, h4, h5, h6, h7⟩ := fitsAll_8 h
  obtain ⟨l0, e0, r0⟩ := h0
  obtain ⟨l1, e1, r1⟩ := h1
  obtain ⟨l2, e2, r2⟩ := h2
  obtain ⟨n3_0, rfl, w3⟩ := fitsV_int h3
  obtain ⟨n4_0, rfl, w4⟩ := fitsV_int h4
  obtain ⟨c5_0, rfl, g5⟩ := h5
  obtain ⟨n5_0, c5_1, rfl, w5_0, g5⟩ := fitsC_int g5
  obtain ⟨n5_1, c5_2, rfl, w5_1, g5⟩ := fitsC_int g5
  obtain rfl := fitsC_nil g5
  obtain ⟨c6_0, rfl, g6⟩ := h6
  obtain ⟨n6_0, c6_1, rfl, w6_0, g6⟩ := fitsC_int g6
  obtain ⟨n6_1, c6_2, rfl, w6_1, g6⟩ := fitsC_int g6
  obtain rfl := fitsC_nil g6
  obtain ⟨c7_0, rfl, g7⟩ := h7
  obtain ⟨n7_0, c7_1, rfl, w7_0, g7⟩ := fitsC_int g7
  obtain ⟨n7_1, c7_2, rfl, w7_1, g7⟩ := fitsC_int g7
  obtain ⟨n7_2, c7_3, rfl, w7_2, g7⟩ := fitsC_int g7
  obtain ⟨n7_3, c7_4, rfl, w7_3, g7⟩ := fitsC_int g7
  obtain rfl := fitsC_nil g7
  have hp := driftMatches_ok n3_0 n4_0 n5_0 n5_1 n6_0 n6_1 n7_0 n7_1 n7_2 n7_3 l0 l1 l2 (rowLe r1) (rowLe r2) (fun r hr => elOk_length (e0 r hr)) (fun r hr => elOk_length (e1 r hr)) (fun r hr => elOk_length (e2 r hr))
  have hpre : ConPre (envOf [v0, v1, v2]) W [⟨0, 0, false, .row 29 [.int .i64, .int .i64, .int .i64, .int .i64] l0⟩, ⟨1, 0, false, .row 50 [.int .i64, .int .i64, .int .i64, .int .i64, .int .i64, .int .i64] l1⟩, ⟨2, 0, false, .row 50 [.int .i64, .int .i64, .int .i64, .int .i64, .int .i64, .int .i64] l2⟩] := conPre_of (w := W) [v0, v1, v2] [(29, [.int .i64, .int .i64, .int .i64, .int .i64], l0), (50, [.int .i64, .int .i64, .int .i64, .int .i64, .int .i64, .int .i64], l1), (50, [.int .i64, .int .i64, .int .i64, .int .i64, .int .i64, .int .i64], l2)] rfl fun k v e ks l hv hr => by
    match k, hv, hr with
    | 0, hv, hr => have hv1 : some v0 = some v := hv; have hr1 : some (29, [.int .i64, .int .i64, .int .i64, .int .i64], l0) = some (e, ks, l) := hr; cases hv1; cases hr1; exact r0
    | 1, hv, hr => have hv1 : some v1 = some v := hv; have hr1 : some (50, [.int .i64, .int .i64, .int .i64, .int .i64, .int .i64, .int .i64], l1) = some (e, ks, l) := hr; cases hv1; cases hr1; exact r1
    | 2, hv, hr => have hv1 : some v2 = some v := hv; have hr1 : some (50, [.int .i64, .int .i64, .int .i64, .int .i64, .int .i64, .int .i64], l2) = some (e, ks, l) := hr; cases hv1; cases hr1; exact r2
    | k + 3, hv, hr => exact absurd hv (by simp)
  have hargs : (AV.denL (envOf [v0, v1, v2]) [.sl 0, .sl 1, .sl 2, .int .i64 n3_0, .int .i64 n4_0, .agg [.int .i64 n5_0, .int .i64 n5_1], .agg [.int .i64 n6_0, .int .i64 n6_1], .agg [.int .i64 n7_0, .int .i64 n7_1, .int .i64 n7_2, .int .i64 n7_3]]).toArray = #[v0, v1, v2, .int .i64 n3_0, .int .i64 n4_0, .agg #[.int .i64 n5_0, .int .i64 n5_1], .agg #[.int .i64 n6_0, .int .i64 n6_1], .agg #[.int .i64 n7_0, .int .i64 n7_1, .int .i64 n7_2, .int .i64 n7_3]] := by kernel_rfl
  have hc : D68 3 [.sl 0, .sl 1, .sl 2, .int .i64 n3_0, .int .i64 n4_0, .agg [.int .i64 n5_0, .int .i64 n5_1], .agg [.int .i64 n6_0, .int .i64 n6_1], .agg [.int .i64 n7_0, .int .i64 n7_1, .int .i64 n7_2, .int .i64 n7_3]] [⟨0, 0, false, .row 29 [.int .i64, .int .i64, .int .i64, .int .i64] l0⟩, ⟨1, 0, false, .row 50 [.int .i64, .int .i64, .int .i64, .int .i64, .int .i64, .int .i64] l1⟩, ⟨2, 0, false, .row 50 [.int .i64, .int .i64, .int .i64, .int .i64, .int .i64, .int .i64] l2⟩] = some ⟨some (law23_DriftMatchesReference_pre n3_0 n4_0 n5_0 n5_1 n6_0 n6_1 n7_0 n7_1 n7_2 n7_3 l0 l1 l2), [], 0, [], .bool (law23_DriftMatchesReference_0 n3_0 n4_0 n5_0 n5_1 n6_0 n6_1 n7_0 n7_1 n7_2 n7_3 l0 l1 l2)⟩ := by kernel_rfl
  have hu := law_use D68_ok hc rfl (fun E => congrArg Value.bool hp.1) hp.2 hpre
  rw [hargs] at hu
  exact hu

theorem lifted (os : Os) (started : os.Started) (H : Type) (enc : TypeId × Value → H) :
    ReturnsInHanded {} Tryz.checked os 3 .any (Rows.driftMatchesReferenceSpec.pre6 enc Tryz.prog Tryz.f3 Rows.driftMatchesReferenceRow.domain false) (Rows.driftMatchesReferenceSpec.post enc Tryz.prog Tryz.f3 false true false false) := by
  refine returnsInHanded_of_change (C := Tryz.checked) own started (by kernel_rfl) Tryz.func3
    (ChangeSpec.witness6 (enc := enc) (C := Tryz.checked) false ⟨#[], #[.slice none 0 0, .slice none 0 0, .slice none 0 0, .int .i64 0, .int .i64 0, .agg #[.int .i64 0, .int .i64 0], .agg #[.int .i64 0, .int .i64 0], .agg #[.int .i64 0, .int .i64 0, .int .i64 0, .int .i64 0]], []⟩ 8 (by kernel_rfl) (by kernel_rfl) (by kernel_rfl) (by kernel_rfl)) ?_
  exact law_plain (C := Tryz.checked) (fn := Tryz.f3) (T := 4) (k := 8) (ks := [.sl 29 [.int .i64, .int .i64, .int .i64, .int .i64], .sl 50 [.int .i64, .int .i64, .int .i64, .int .i64, .int .i64, .int .i64], .sl 50 [.int .i64, .int .i64, .int .i64, .int .i64, .int .i64, .int .i64], .one (.int .i64), .one (.int .i64), .agg [.int .i64, .int .i64], .agg [.int .i64, .int .i64], .agg [.int .i64, .int .i64, .int .i64, .int .i64]]) laidOut (by kernel_rfl) (by kernel_rfl) (by kernel_rfl) (by kernel_rfl) rfl (fun H ds h => by match ds, h with | [_, _, _, _, _, _, _, _], _ => rfl) (by kernel_rfl) (fun W args h => walk W args h)

theorem over : Rows.driftMatchesReferenceRow.holds Tryz.pinned (OpenSpec.ofChange Rows.driftMatchesReferenceSpec) :=
  OpenClaim.holds_of_wide 3 Tryz.f3 rfl rfl rfl rfl rfl rfl rfl ⟨rfl, rfl, rfl, rfl, rfl⟩ rfl rfl rfl rfl rfl (by kernel_rfl) Tryz.func3 (by kernel_rfl)
    (of_decide_eq_true (by kernel_rfl)) (by unfold Func.isWrapper; first | (rw [if_pos (by decide +kernel)]; kernel_rfl) | (rw [if_neg (by decide +kernel)]; exact ⟨rfl, rfl⟩))
    (fun os started H enc _ => lifted os started H enc)

/-- The given statement. -/
theorem proved : Rows.DriftMatchesReferenceSaid := over
#print axioms proved
end Go.Proofs.YtddfnokjnafdpaaGreat.lawDriftMatchesReference
