/-
  For all inputs DriftTidy returns true and leaves what it was given as it was.
  Conditions: none.
-/
import Derived.Test.YtddfnokjnafdpaaRows
import Derived.Test.YtddfnokjnafdpaaSyH
import Derived.Test.YtddfnokjnafdpaaDriftE
import Derived.Test.YtddfnokjnafdpaaDriftQ

namespace Go.Proofs.Ytddfnokjnafdpaa.lawDriftTidy
open Go Go.Sy Go.ChangeShapes Go.WideShapes Go.ChangeAt Go.RowKit
set_option maxRecDepth 100000
set_option linter.unusedVariables false

theorem own : ownKnob Try.prog.godebug = none := by kernel_rfl
theorem laidOut : laidOutB Try.prog = true := by kernel_rfl

theorem walk (W : World) : ∀ (args : List Value), FitsAll W [.sl 42 [.int .i64, .int .i64, .int .i64, .int .i64], .agg [.int .i64, .int .i64]] args → Calls Try.prog 8 args.toArray W fun e w' => e = .returned (.bool true) ∧ Below W.heap.size W w' := by
  intro args h
  obtain ⟨v0, v1, rfl, h0, h1⟩ := fitsAll_2 h
  obtain ⟨l0, e0, r0⟩ := h0
  obtain ⟨c1_0, rfl, g1⟩ := h1
  obtain ⟨n1_0, c1_1, rfl, w1_0, g1⟩ := fitsC_int g1
  obtain ⟨n1_1, c1_2, rfl, w1_1, g1⟩ := fitsC_int g1
  obtain rfl := fitsC_nil g1
  have hp := driftTidy_ok n1_0 n1_1 l0 (fun c hc => elOk_length (e0 c hc))
  have hpre : ConPre (envOf [v0]) W [⟨0, 0, false, .row 42 [.int .i64, .int .i64, .int .i64, .int .i64] l0⟩] := conPre_of (w := W) [v0] [(42, [.int .i64, .int .i64, .int .i64, .int .i64], l0)] rfl fun k v e ks l hv hr => by
    match k, hv, hr with
    | 0, hv, hr => have hv1 : some v0 = some v := hv; have hr1 : some (42, [.int .i64, .int .i64, .int .i64, .int .i64], l0) = some (e, ks, l) := hr; cases hv1; cases hr1; exact r0
    | k + 1, hv, hr => exact absurd hv (by simp)
  have hargs : (AV.denL (envOf [v0]) [.sl 0, .agg [.int .i64 n1_0, .int .i64 n1_1]]).toArray = #[v0, .agg #[.int .i64 n1_0, .int .i64 n1_1]] := by kernel_rfl
  have hc : D48 8 [.sl 0, .agg [.int .i64 n1_0, .int .i64 n1_1]] [⟨0, 0, false, .row 42 [.int .i64, .int .i64, .int .i64, .int .i64] l0⟩] = some ⟨some (law23_DriftTidy_pre n1_0 n1_1 l0), [], 0, [], .bool (law23_DriftTidy_0 n1_0 n1_1 l0)⟩ := by kernel_rfl
  have hu := law_use D48_ok hc rfl (fun E => congrArg Value.bool hp.1) hp.2 hpre
  rw [hargs] at hu
  exact hu

theorem lifted (os : Os) (started : os.Started) (H : Type) (enc : TypeId × Value → H) :
    ReturnsInHanded {} Try.checked os 8 .any (Rows.driftTidySpec.pre6 enc Try.prog Try.f8 Rows.driftTidyRow.domain false) (Rows.driftTidySpec.post enc Try.prog Try.f8 false true false false) := by
  refine returnsInHanded_of_change (C := Try.checked) own started (by kernel_rfl) Try.func8
    (ChangeSpec.witness6 (enc := enc) (C := Try.checked) false ⟨#[], #[.slice none 0 0, .agg #[.int .i64 0, .int .i64 0]], []⟩ 8 (by kernel_rfl) (by kernel_rfl) (by kernel_rfl) (by kernel_rfl)) ?_
  exact law_plain (C := Try.checked) (fn := Try.f8) (T := 4) (k := 2) (ks := [.sl 42 [.int .i64, .int .i64, .int .i64, .int .i64], .agg [.int .i64, .int .i64]]) laidOut (by kernel_rfl) (by kernel_rfl) (by kernel_rfl) (by kernel_rfl) rfl (fun H ds h => by match ds, h with | [_, _], _ => rfl) (by kernel_rfl) (fun W args h => walk W args h)

theorem over : Rows.driftTidyRow.holds Try.pinned (OpenSpec.ofChange Rows.driftTidySpec) :=
  OpenClaim.holds_of_wide 8 Try.f8 rfl rfl rfl rfl rfl rfl rfl ⟨rfl, rfl, rfl, rfl, rfl⟩ rfl rfl rfl rfl rfl (by kernel_rfl) Try.func8 (by kernel_rfl)
    (of_decide_eq_true (by kernel_rfl)) (by unfold Func.isWrapper; first | (rw [if_pos (by decide +kernel)]; kernel_rfl) | (rw [if_neg (by decide +kernel)]; exact ⟨rfl, rfl⟩))
    (fun os started H enc _ => lifted os started H enc)

/-- The given statement. -/
theorem proved : Rows.DriftTidySaid := over
#print axioms proved
end Go.Proofs.Ytddfnokjnafdpaa.lawDriftTidy
