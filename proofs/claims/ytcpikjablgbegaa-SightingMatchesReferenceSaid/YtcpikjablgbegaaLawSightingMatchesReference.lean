/-
  For all inputs SightingMatchesReference returns true and leaves what it was given as it was.
  Conditions: none.
-/
import Derived.Test.YtcpikjablgbegaaRows
import Derived.Test.YtcpikjablgbegaaSyH
import Derived.Test.YtcpikjablgbegaaSight2
import Derived.Test.YtcpikjablgbegaaSightM

namespace Go.Proofs.Ytcpikjablgbegaa.lawSightingMatchesReference
open Go Go.Sy Go.ChangeShapes Go.WideShapes Go.ChangeAt Go.RowKit
set_option maxRecDepth 100000
set_option linter.unusedVariables false

theorem own : ownKnob Try.prog.godebug = none := by kernel_rfl
theorem laidOut : laidOutB Try.prog = true := by kernel_rfl

theorem walk (W : World) : ∀ (args : List Value), FitsAll W [.agg [.int .i64, .int .i64, .int .i64, .int .i64, .int .i64, .int .i64, .int .i64, .int .i64, .int .i64, .int .i64, .int .i64, .int .i64, .int .i64], .sl 29 [.int .i64, .int .i64, .int .i64, .int .i64, .int .i64, .int .i64, .int .i64, .int .i64, .int .i64, .int .i64, .int .i64, .int .i64, .int .i64], .agg [.int .i64, .int .i64], .agg [.int .i64, .int .i64, .int .i64, .int .i64]] args → Calls Try.prog 3 args.toArray W fun e w' => e = .returned (.bool true) ∧ Below W.heap.size W w' := by
  intro args h
  obtain ⟨v0, v1, v2, v3, rfl, h0, h1, h2, h3⟩ := fitsAll_4 h
  obtain ⟨c0_0, rfl, g0⟩ := h0
  obtain ⟨n0_0, c0_1, rfl, w0_0, g0⟩ := fitsC_int g0
  obtain ⟨n0_1, c0_2, rfl, w0_1, g0⟩ := fitsC_int g0
  obtain ⟨n0_2, c0_3, rfl, w0_2, g0⟩ := fitsC_int g0
  obtain ⟨n0_3, c0_4, rfl, w0_3, g0⟩ := fitsC_int g0
  obtain ⟨n0_4, c0_5, rfl, w0_4, g0⟩ := fitsC_int g0
  obtain ⟨n0_5, c0_6, rfl, w0_5, g0⟩ := fitsC_int g0
  obtain ⟨n0_6, c0_7, rfl, w0_6, g0⟩ := fitsC_int g0
  obtain ⟨n0_7, c0_8, rfl, w0_7, g0⟩ := fitsC_int g0
  obtain ⟨n0_8, c0_9, rfl, w0_8, g0⟩ := fitsC_int g0
  obtain ⟨n0_9, c0_10, rfl, w0_9, g0⟩ := fitsC_int g0
  obtain ⟨n0_10, c0_11, rfl, w0_10, g0⟩ := fitsC_int g0
  obtain ⟨n0_11, c0_12, rfl, w0_11, g0⟩ := fitsC_int g0
  obtain ⟨n0_12, c0_13, rfl, w0_12, g0⟩ := fitsC_int g0
  obtain rfl := fitsC_nil g0
  obtain ⟨l1, e1, r1⟩ := h1
  obtain ⟨c2_0, rfl, g2⟩ := h2
  obtain ⟨n2_0, c2_1, rfl, w2_0, g2⟩ := fitsC_int g2
  obtain ⟨n2_1, c2_2, rfl, w2_1, g2⟩ := fitsC_int g2
  obtain rfl := fitsC_nil g2
  obtain ⟨c3_0, rfl, g3⟩ := h3
  obtain ⟨n3_0, c3_1, rfl, w3_0, g3⟩ := fitsC_int g3
  obtain ⟨n3_1, c3_2, rfl, w3_1, g3⟩ := fitsC_int g3
  obtain ⟨n3_2, c3_3, rfl, w3_2, g3⟩ := fitsC_int g3
  obtain ⟨n3_3, c3_4, rfl, w3_3, g3⟩ := fitsC_int g3
  obtain rfl := fitsC_nil g3
  have hp := sightingMatches_ok n0_0 n0_1 n0_2 n0_3 n0_4 n0_5 n0_6 n0_7 n0_8 n0_9 n0_10 n0_11 n0_12 n2_0 n2_1 n3_0 n3_1 n3_2 n3_3 l1 e1
  have hpre : ConPre (envOf [v1]) W [⟨0, 0, false, .row 29 [.int .i64, .int .i64, .int .i64, .int .i64, .int .i64, .int .i64, .int .i64, .int .i64, .int .i64, .int .i64, .int .i64, .int .i64, .int .i64] l1⟩] := conPre_of (w := W) [v1] [(29, [.int .i64, .int .i64, .int .i64, .int .i64, .int .i64, .int .i64, .int .i64, .int .i64, .int .i64, .int .i64, .int .i64, .int .i64, .int .i64], l1)] rfl fun k v e ks l hv hr => by
    match k, hv, hr with
    | 0, hv, hr => have hv1 : some v1 = some v := hv; have hr1 : some (29, [.int .i64, .int .i64, .int .i64, .int .i64, .int .i64, .int .i64, .int .i64, .int .i64, .int .i64, .int .i64, .int .i64, .int .i64, .int .i64], l1) = some (e, ks, l) := hr; cases hv1; cases hr1; exact r1
    | k + 1, hv, hr => exact absurd hv (by simp)
  have hargs : (AV.denL (envOf [v1]) [.agg [.int .i64 n0_0, .int .i64 n0_1, .int .i64 n0_2, .int .i64 n0_3, .int .i64 n0_4, .int .i64 n0_5, .int .i64 n0_6, .int .i64 n0_7, .int .i64 n0_8, .int .i64 n0_9, .int .i64 n0_10, .int .i64 n0_11, .int .i64 n0_12], .sl 0, .agg [.int .i64 n2_0, .int .i64 n2_1], .agg [.int .i64 n3_0, .int .i64 n3_1, .int .i64 n3_2, .int .i64 n3_3]]).toArray = #[.agg #[.int .i64 n0_0, .int .i64 n0_1, .int .i64 n0_2, .int .i64 n0_3, .int .i64 n0_4, .int .i64 n0_5, .int .i64 n0_6, .int .i64 n0_7, .int .i64 n0_8, .int .i64 n0_9, .int .i64 n0_10, .int .i64 n0_11, .int .i64 n0_12], v1, .agg #[.int .i64 n2_0, .int .i64 n2_1], .agg #[.int .i64 n3_0, .int .i64 n3_1, .int .i64 n3_2, .int .i64 n3_3]] := by kernel_rfl
  have hc : S56 3 [.agg [.int .i64 n0_0, .int .i64 n0_1, .int .i64 n0_2, .int .i64 n0_3, .int .i64 n0_4, .int .i64 n0_5, .int .i64 n0_6, .int .i64 n0_7, .int .i64 n0_8, .int .i64 n0_9, .int .i64 n0_10, .int .i64 n0_11, .int .i64 n0_12], .sl 0, .agg [.int .i64 n2_0, .int .i64 n2_1], .agg [.int .i64 n3_0, .int .i64 n3_1, .int .i64 n3_2, .int .i64 n3_3]] [⟨0, 0, false, .row 29 [.int .i64, .int .i64, .int .i64, .int .i64, .int .i64, .int .i64, .int .i64, .int .i64, .int .i64, .int .i64, .int .i64, .int .i64, .int .i64] l1⟩] = some ⟨some (law24_SightingMatchesReference_pre n0_0 n0_1 n0_2 n0_3 n0_4 n0_5 n0_6 n0_7 n0_8 n0_9 n0_10 n0_11 n0_12 n2_0 n2_1 n3_0 n3_1 n3_2 n3_3 l1), [], 0, [], .bool (law24_SightingMatchesReference_0 n0_0 n0_1 n0_2 n0_3 n0_4 n0_5 n0_6 n0_7 n0_8 n0_9 n0_10 n0_11 n0_12 n2_0 n2_1 n3_0 n3_1 n3_2 n3_3 l1)⟩ := by kernel_rfl
  have hu := law_use S56_ok hc (fun E => congrArg Value.bool hp.1) hp.2 hpre
  rw [hargs] at hu
  exact hu

theorem lifted (os : Os) (started : os.Started) (H : Type) (enc : TypeId × Value → H) :
    ReturnsInHanded {} Try.checked os 3 .any (Rows.sightingMatchesReferenceSpec.pre6 enc Try.prog Try.f3 Rows.sightingMatchesReferenceRow.domain false) (Rows.sightingMatchesReferenceSpec.post enc Try.prog Try.f3 false true false false) := by
  refine returnsInHanded_of_change (C := Try.checked) own started (by kernel_rfl) Try.func3
    (ChangeSpec.witness6 (enc := enc) (C := Try.checked) false ⟨#[], #[.agg #[.int .i64 0, .int .i64 0, .int .i64 0, .int .i64 0, .int .i64 0, .int .i64 0, .int .i64 0, .int .i64 0, .int .i64 0, .int .i64 0, .int .i64 0, .int .i64 0, .int .i64 0], .slice none 0 0, .agg #[.int .i64 0, .int .i64 0], .agg #[.int .i64 0, .int .i64 0, .int .i64 0, .int .i64 0]], []⟩ 8 (by kernel_rfl) (by kernel_rfl) (by kernel_rfl) (by kernel_rfl)) ?_
  exact law_plain (C := Try.checked) (fn := Try.f3) (T := 4) (k := 4) (ks := [.agg [.int .i64, .int .i64, .int .i64, .int .i64, .int .i64, .int .i64, .int .i64, .int .i64, .int .i64, .int .i64, .int .i64, .int .i64, .int .i64], .sl 29 [.int .i64, .int .i64, .int .i64, .int .i64, .int .i64, .int .i64, .int .i64, .int .i64, .int .i64, .int .i64, .int .i64, .int .i64, .int .i64], .agg [.int .i64, .int .i64], .agg [.int .i64, .int .i64, .int .i64, .int .i64]]) laidOut (by kernel_rfl) (by kernel_rfl) (by kernel_rfl) (by kernel_rfl) rfl (fun H ds h => by match ds, h with | [_, _, _, _], _ => rfl) (by kernel_rfl) (fun W args h => walk W args h)

theorem over : Rows.sightingMatchesReferenceRow.holds Try.pinned (OpenSpec.ofChange Rows.sightingMatchesReferenceSpec) :=
  OpenClaim.holds_of_wide 3 Try.f3 rfl rfl rfl rfl rfl rfl rfl ⟨rfl, rfl, rfl, rfl, rfl⟩ rfl rfl rfl rfl rfl (by kernel_rfl) Try.func3 (by kernel_rfl)
    (of_decide_eq_true (by kernel_rfl)) (by unfold Func.isWrapper; first | (rw [if_pos (by decide +kernel)]; kernel_rfl) | (rw [if_neg (by decide +kernel)]; exact ⟨rfl, rfl⟩))
    (fun os started H enc _ => lifted os started H enc)

/-- The given statement. -/
theorem proved : Rows.SightingMatchesReferenceSaid := over
#print axioms proved
end Go.Proofs.Ytcpikjablgbegaa.lawSightingMatchesReference
