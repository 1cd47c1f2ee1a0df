/-
  For all inputs SightingWrong returns true and leaves what it was given as it was.
  Conditions: none.
-/
import Derived.Test.YtcpikjablgbegaaRows
import Derived.Test.YtcpikjablgbegaaSyH
import Derived.Test.YtcpikjablgbegaaSight2
import Derived.Test.YtcpikjablgbegaaSightM

namespace Go.Proofs.Ytcpikjablgbegaa.lawSightingWrong
open Go Go.Sy Go.ChangeShapes Go.WideShapes Go.ChangeAt Go.RowKit
set_option maxRecDepth 100000
set_option linter.unusedVariables false

theorem own : ownKnob Try.prog.godebug = none := by kernel_rfl
theorem laidOut : laidOutB Try.prog = true := by kernel_rfl

theorem walk (W : World) : ∀ (args : List Value), FitsAll W [.sl 29 [.int .i64, .int .i64, .int .i64, .int .i64, .int .i64, .int .i64, .int .i64, .int .i64, .int .i64, .int .i64, .int .i64, .int .i64, .int .i64], .agg [.int .i64, .int .i64], .agg [.int .i64, .int .i64, .int .i64, .int .i64]] args → Calls Try.prog 8 args.toArray W fun e w' => e = .returned (.bool true) ∧ Below W.heap.size W w' := by
  intro args h
  obtain ⟨v0, v1, v2, rfl, h0, h1, h2⟩ := fitsAll_3 h
  obtain ⟨l0, e0, r0⟩ := h0
  obtain ⟨c1_0, rfl, g1⟩ := h1
  obtain ⟨n1_0, c1_1, rfl, w1_0, g1⟩ := fitsC_int g1
  obtain ⟨n1_1, c1_2, rfl, w1_1, g1⟩ := fitsC_int g1
  obtain rfl := fitsC_nil g1
  obtain ⟨c2_0, rfl, g2⟩ := h2
  obtain ⟨n2_0, c2_1, rfl, w2_0, g2⟩ := fitsC_int g2
  obtain ⟨n2_1, c2_2, rfl, w2_1, g2⟩ := fitsC_int g2
  obtain ⟨n2_2, c2_3, rfl, w2_2, g2⟩ := fitsC_int g2
  obtain ⟨n2_3, c2_4, rfl, w2_3, g2⟩ := fitsC_int g2
  obtain rfl := fitsC_nil g2
  have hp := sightingWrong_ok n1_0 n1_1 n2_0 n2_1 n2_2 n2_3 l0 
  have hpre : ConPre (envOf [v0]) W [⟨0, 0, false, .row 29 [.int .i64, .int .i64, .int .i64, .int .i64, .int .i64, .int .i64, .int .i64, .int .i64, .int .i64, .int .i64, .int .i64, .int .i64, .int .i64] l0⟩] := conPre_of (w := W) [v0] [(29, [.int .i64, .int .i64, .int .i64, .int .i64, .int .i64, .int .i64, .int .i64, .int .i64, .int .i64, .int .i64, .int .i64, .int .i64, .int .i64], l0)] rfl fun k v e ks l hv hr => by
    match k, hv, hr with
    | 0, hv, hr => have hv1 : some v0 = some v := hv; have hr1 : some (29, [.int .i64, .int .i64, .int .i64, .int .i64, .int .i64, .int .i64, .int .i64, .int .i64, .int .i64, .int .i64, .int .i64, .int .i64, .int .i64], l0) = some (e, ks, l) := hr; cases hv1; cases hr1; exact r0
    | k + 1, hv, hr => exact absurd hv (by simp)
  have hargs : (AV.denL (envOf [v0]) [.sl 0, .agg [.int .i64 n1_0, .int .i64 n1_1], .agg [.int .i64 n2_0, .int .i64 n2_1, .int .i64 n2_2, .int .i64 n2_3]]).toArray = #[v0, .agg #[.int .i64 n1_0, .int .i64 n1_1], .agg #[.int .i64 n2_0, .int .i64 n2_1, .int .i64 n2_2, .int .i64 n2_3]] := by kernel_rfl
  have hc : S58 8 [.sl 0, .agg [.int .i64 n1_0, .int .i64 n1_1], .agg [.int .i64 n2_0, .int .i64 n2_1, .int .i64 n2_2, .int .i64 n2_3]] [⟨0, 0, false, .row 29 [.int .i64, .int .i64, .int .i64, .int .i64, .int .i64, .int .i64, .int .i64, .int .i64, .int .i64, .int .i64, .int .i64, .int .i64, .int .i64] l0⟩] = some ⟨some (law24_SightingWrong_pre n1_0 n1_1 n2_0 n2_1 n2_2 n2_3 l0), [], 0, [], .bool (law24_SightingWrong_0 n1_0 n1_1 n2_0 n2_1 n2_2 n2_3 l0)⟩ := by kernel_rfl
  have hu := law_use S58_ok hc (fun E => congrArg Value.bool hp.1) hp.2 hpre
  rw [hargs] at hu
  exact hu

theorem lifted (os : Os) (started : os.Started) (H : Type) (enc : TypeId × Value → H) :
    ReturnsInHanded {} Try.checked os 8 .any (Rows.sightingWrongSpec.pre6 enc Try.prog Try.f8 Rows.sightingWrongRow.domain false) (Rows.sightingWrongSpec.post enc Try.prog Try.f8 false true false false) := by
  refine returnsInHanded_of_change (C := Try.checked) own started (by kernel_rfl) Try.func8
    (ChangeSpec.witness6 (enc := enc) (C := Try.checked) false ⟨#[], #[.slice none 0 0, .agg #[.int .i64 0, .int .i64 0], .agg #[.int .i64 0, .int .i64 0, .int .i64 0, .int .i64 0]], []⟩ 8 (by kernel_rfl) (by kernel_rfl) (by kernel_rfl) (by kernel_rfl)) ?_
  exact law_plain (C := Try.checked) (fn := Try.f8) (T := 4) (k := 3) (ks := [.sl 29 [.int .i64, .int .i64, .int .i64, .int .i64, .int .i64, .int .i64, .int .i64, .int .i64, .int .i64, .int .i64, .int .i64, .int .i64, .int .i64], .agg [.int .i64, .int .i64], .agg [.int .i64, .int .i64, .int .i64, .int .i64]]) laidOut (by kernel_rfl) (by kernel_rfl) (by kernel_rfl) (by kernel_rfl) rfl (fun H ds h => by match ds, h with | [_, _, _], _ => rfl) (by kernel_rfl) (fun W args h => walk W args h)

theorem over : Rows.sightingWrongRow.holds Try.pinned (OpenSpec.ofChange Rows.sightingWrongSpec) :=
  OpenClaim.holds_of_wide 8 Try.f8 rfl rfl rfl rfl rfl rfl rfl ⟨rfl, rfl, rfl, rfl, rfl⟩ rfl rfl rfl rfl rfl (by kernel_rfl) Try.func8 (by kernel_rfl)
    (of_decide_eq_true (by kernel_rfl)) (by unfold Func.isWrapper; first | (rw [if_pos (by decide +kernel)]; kernel_rfl) | (rw [if_neg (by decide +kernel)]; exact ⟨rfl, rfl⟩))
    (fun os started H enc _ => lifted os started H enc)

/-- The given statement. -/
theorem proved : Rows.SightingWrongSaid := over
#print axioms proved
end Go.Proofs.Ytcpikjablgbegaa.lawSightingWrong
