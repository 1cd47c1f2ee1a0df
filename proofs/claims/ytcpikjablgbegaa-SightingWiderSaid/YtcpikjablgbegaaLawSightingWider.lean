/-
  For all inputs SightingWider returns true and leaves what it was given as it was.
  Conditions: none.
-/
import Derived.Test.YtcpikjablgbegaaRows
import Derived.Test.YtcpikjablgbegaaSyH
import Derived.Test.YtcpikjablgbegaaSight2
import Derived.Test.YtcpikjablgbegaaSightM

namespace Go.Proofs.Ytcpikjablgbegaa.lawSightingWider
open Go Go.Sy Go.ChangeShapes Go.WideShapes Go.ChangeAt Go.RowKit
set_option maxRecDepth 100000
set_option linter.unusedVariables false

theorem own : ownKnob Try.prog.godebug = none := by kernel_rfl
theorem laidOut : laidOutB Try.prog = true := by kernel_rfl

theorem walk (W : World) : ∀ (args : List Value), FitsAll W [.agg [.int .i64, .int .i64, .int .i64, .int .i64, .int .i64, .int .i64, .int .i64, .int .i64, .int .i64, .int .i64, .int .i64, .int .i64, .int .i64], .agg [.int .i64, .int .i64, .int .i64, .int .i64, .int .i64, .int .i64, .int .i64, .int .i64, .int .i64, .int .i64, .int .i64, .int .i64, .int .i64], .agg [.int .i64, .int .i64], .agg [.int .i64, .int .i64, .int .i64, .int .i64]] args → Calls Try.prog 5 args.toArray W fun e w' => e = .returned (.bool true) ∧ Below W.heap.size W w' := by
  intro args h
  obtain ⟨v0, v1, v2, v3, rfl, h0, h1, h2, h3⟩ := fitsAll_4 h
  obtain ⟨c0_0, rfl, g0⟩ := h0
  obtain ⟨n0_0, c0_1, rfl, w0_0, g0⟩ := fitsC_int g0
  obtain ⟨n0_1, c0_2, rfl, w0_1, g0⟩ := fitsC_int g0
  obtain ⟨n0_2, c0_3, rfl, w0_2, g0⟩ := fitsC_int g0
  obtain ⟨n0_3, c0_4, rfl, w0_3, g0⟩ := fitsC_int g0
  obtain ⟨n0_4, c0_5, rfl, w0_4, g0⟩ := fitsC_int g0
  obtain ⟨n0_5, c0_6, rfl, w0_5, g0⟩ := fitsC_int g0
  obtain ⟨n0_6, c0_7, rfl, w0_6, g0⟩ := fitsC_int g0
  obtain ⟨n0_7, c0_8, rfl, w0_7, g0⟩ := fitsC_int g0
  obtain ⟨n0_8, c0_9, rfl, w0_8, g0⟩ := fitsC_int g0
  obtain ⟨n0_9, c0_10, rfl, w0_9, g0⟩ := fitsC_int g0
  obtain ⟨n0_10, c0_11, rfl, w0_10, g0⟩ := fitsC_int g0
  obtain ⟨n0_11, c0_12, rfl, w0_11, g0⟩ := fitsC_int g0
  obtain ⟨n0_12, c0_13, rfl, w0_12, g0⟩ := fitsC_int g0
  obtain rfl := fitsC_nil g0
  obtain ⟨c1_0, rfl, g1⟩ := h1
  obtain ⟨n1_0, c1_1, rfl, w1_0, g1⟩ := fitsC_int g1
  obtain ⟨n1_1, c1_2, rfl, w1_1, g1⟩ := fitsC_int g1
  obtain ⟨n1_2, c1_3, rfl, w1_2, g1⟩ := fitsC_int g1
  obtain ⟨n1_3, c1_4, rfl, w1_3, g1⟩ := fitsC_int g1
  obtain ⟨n1_4, c1_5, rfl, w1_4, g1⟩ := fitsC_int g1
  obtain ⟨n1_5, c1_6, rfl, w1_5, g1⟩ := fitsC_int g1
  obtain ⟨n1_6, c1_7, rfl, w1_6, g1⟩ := fitsC_int g1
  obtain ⟨n1_7, c1_8, rfl, w1_7, g1⟩ := fitsC_int g1
  obtain ⟨n1_8, c1_9, rfl, w1_8, g1⟩ := fitsC_int g1
  obtain ⟨n1_9, c1_10, rfl, w1_9, g1⟩ := fitsC_int g1
  obtain ⟨n1_10, c1_11, rfl, w1_10, g1⟩ := fitsC_int g1
  obtain ⟨n1_11, c1_12, rfl, w1_11, g1⟩ := fitsC_int g1
  obtain ⟨n1_12, c1_13, rfl, w1_12, g1⟩ := fitsC_int g1
  obtain rfl := fitsC_nil g1
  obtain ⟨c2_0, rfl, g2⟩ := h2
  obtain ⟨n2_0, c2_1, rfl, w2_0, g2⟩ := fitsC_int g2
  obtain ⟨n2_1, c2_2, rfl, w2_1, g2⟩ := fitsC_int g2
  obtain rfl := fitsC_nil g2
  obtain ⟨c3_0, rfl, g3⟩ := h3
  obtain ⟨n3_0, c3_1, rfl, w3_0, g3⟩ := fitsC_int g3
  obtain ⟨n3_1, c3_2, rfl, w3_1, g3⟩ := fitsC_int g3
  obtain ⟨n3_2, c3_3, rfl, w3_2, g3⟩ := fitsC_int g3
  obtain ⟨n3_3, c3_4, rfl, w3_3, g3⟩ := fitsC_int g3
  obtain rfl := fitsC_nil g3
  have hp := sightingWider_ok n0_0 n0_1 n0_2 n0_3 n0_4 n0_5 n0_6 n0_7 n0_8 n0_9 n0_10 n0_11 n0_12 n1_0 n1_1 n1_2 n1_3 n1_4 n1_5 n1_6 n1_7 n1_8 n1_9 n1_10 n1_11 n1_12 n2_0 n2_1 n3_0 n3_1 n3_2 n3_3 
  have hpre : ConPre (envOf []) W [] := conPre_of (w := W) [] [] rfl fun k v e ks l hv hr => by
    match k, hv, hr with
    | k, hv, hr => exact absurd hv (by simp)
  have hargs : (AV.denL (envOf []) [.agg [.int .i64 n0_0, .int .i64 n0_1, .int .i64 n0_2, .int .i64 n0_3, .int .i64 n0_4, .int .i64 n0_5, .int .i64 n0_6, .int .i64 n0_7, .int .i64 n0_8, .int .i64 n0_9, .int .i64 n0_10, .int .i64 n0_11, .int .i64 n0_12], .agg [.int .i64 n1_0, .int .i64 n1_1, .int .i64 n1_2, .int .i64 n1_3, .int .i64 n1_4, .int .i64 n1_5, .int .i64 n1_6, .int .i64 n1_7, .int .i64 n1_8, .int .i64 n1_9, .int .i64 n1_10, .int .i64 n1_11, .int .i64 n1_12], .agg [.int .i64 n2_0, .int .i64 n2_1], .agg [.int .i64 n3_0, .int .i64 n3_1, .int .i64 n3_2, .int .i64 n3_3]]).toArray = #[.agg #[.int .i64 n0_0, .int .i64 n0_1, .int .i64 n0_2, .int .i64 n0_3, .int .i64 n0_4, .int .i64 n0_5, .int .i64 n0_6, .int .i64 n0_7, .int .i64 n0_8, .int .i64 n0_9, .int .i64 n0_10, .int .i64 n0_11, .int .i64 n0_12], .agg #[.int .i64 n1_0, .int .i64 n1_1, .int .i64 n1_2, .int .i64 n1_3, .int .i64 n1_4, .int .i64 n1_5, .int .i64 n1_6, .int .i64 n1_7, .int .i64 n1_8, .int .i64 n1_9, .int .i64 n1_10, .int .i64 n1_11, .int .i64 n1_12], .agg #[.int .i64 n2_0, .int .i64 n2_1], .agg #[.int .i64 n3_0, .int .i64 n3_1, .int .i64 n3_2, .int .i64 n3_3]] := by kernel_rfl
  have hc : S55 5 [.agg [.int .i64 n0_0, .int .i64 n0_1, .int .i64 n0_2, .int .i64 n0_3, .int .i64 n0_4, .int .i64 n0_5, .int .i64 n0_6, .int .i64 n0_7, .int .i64 n0_8, .int .i64 n0_9, .int .i64 n0_10, .int .i64 n0_11, .int .i64 n0_12], .agg [.int .i64 n1_0, .int .i64 n1_1, .int .i64 n1_2, .int .i64 n1_3, .int .i64 n1_4, .int .i64 n1_5, .int .i64 n1_6, .int .i64 n1_7, .int .i64 n1_8, .int .i64 n1_9, .int .i64 n1_10, .int .i64 n1_11, .int .i64 n1_12], .agg [.int .i64 n2_0, .int .i64 n2_1], .agg [.int .i64 n3_0, .int .i64 n3_1, .int .i64 n3_2, .int .i64 n3_3]] [] = some ⟨some (law24_SightingWider_pre n0_0 n0_1 n0_2 n0_3 n0_4 n0_5 n0_6 n0_7 n0_8 n0_9 n0_10 n0_11 n0_12 n1_0 n1_1 n1_2 n1_3 n1_4 n1_5 n1_6 n1_7 n1_8 n1_9 n1_10 n1_11 n1_12 n2_0 n2_1 n3_0 n3_1 n3_2 n3_3), [], 0, [], .bool (law24_SightingWider_0 n0_0 n0_1 n0_2 n0_3 n0_4 n0_5 n0_6 n0_7 n0_8 n0_9 n0_10 n0_11 n0_12 n1_0 n1_1 n1_2 n1_3 n1_4 n1_5 n1_6 n1_7 n1_8 n1_9 n1_10 n1_11 n1_12 n2_0 n2_1 n3_0 n3_1 n3_2 n3_3)⟩ := by kernel_rfl
  have hu := law_use S55_ok hc (fun E => congrArg Value.bool hp.1) hp.2 hpre
  rw [hargs] at hu
  exact hu

theorem lifted (os : Os) (started : os.Started) (H : Type) (enc : TypeId × Value → H) :
    ReturnsInHanded {} Try.checked os 5 .any (Rows.sightingWiderSpec.pre6 enc Try.prog Try.f5 Rows.sightingWiderRow.domain false) (Rows.sightingWiderSpec.post enc Try.prog Try.f5 false true false false) := by
  refine returnsInHanded_of_change (C := Try.checked) own started (by kernel_rfl) Try.func5
    (ChangeSpec.witness6 (enc := enc) (C := Try.checked) false ⟨#[], #[.agg #[.int .i64 0, .int .i64 0, .int .i64 0, .int .i64 0, .int .i64 0, .int .i64 0, .int .i64 0, .int .i64 0, .int .i64 0, .int .i64 0, .int .i64 0, .int .i64 0, .int .i64 0], .agg #[.int .i64 0, .int .i64 0, .int .i64 0, .int .i64 0, .int .i64 0, .int .i64 0, .int .i64 0, .int .i64 0, .int .i64 0, .int .i64 0, .int .i64 0, .int .i64 0, .int .i64 0], .agg #[.int .i64 0, .int .i64 0], .agg #[.int .i64 0, .int .i64 0, .int .i64 0, .int .i64 0]], []⟩ 8 (by kernel_rfl) (by kernel_rfl) (by kernel_rfl) (by kernel_rfl)) ?_
  exact law_plain (C := Try.checked) (fn := Try.f5) (T := 4) (k := 4) (ks := [.agg [.int .i64, .int .i64, .int .i64, .int .i64, .int .i64, .int .i64, .int .i64, .int .i64, .int .i64, .int .i64, .int .i64, .int .i64, .int .i64], .agg [.int .i64, .int .i64, .int .i64, .int .i64, .int .i64, .int .i64, .int .i64, .int .i64, .int .i64, .int .i64, .int .i64, .int .i64, .int .i64], .agg [.int .i64, .int .i64], .agg [.int .i64, .int .i64, .int .i64, .int .i64]]) laidOut (by kernel_rfl) (by kernel_rfl) (by kernel_rfl) (by kernel_rfl) rfl (fun H ds h => by match ds, h with | [_, _, _, _], _ => rfl) (by kernel_rfl) (fun W args h => walk W args h)

theorem over : Rows.sightingWiderRow.holds Try.pinned (OpenSpec.ofChange Rows.sightingWiderSpec) :=
  OpenClaim.holds_of_wide 5 Try.f5 rfl rfl rfl rfl rfl rfl rfl ⟨rfl, rfl, rfl, rfl, rfl⟩ rfl rfl rfl rfl rfl (by kernel_rfl) Try.func5 (by kernel_rfl)
    (of_decide_eq_true (by kernel_rfl)) (by unfold Func.isWrapper; first | (rw [if_pos (by decide +kernel)]; kernel_rfl) | (rw [if_neg (by decide +kernel)]; exact ⟨rfl, rfl⟩))
    (fun os started H enc _ => lifted os started H enc)

/-- The given statement. -/
theorem proved : Rows.SightingWiderSaid := over
#print axioms proved
end Go.Proofs.Ytcpikjablgbegaa.lawSightingWider
