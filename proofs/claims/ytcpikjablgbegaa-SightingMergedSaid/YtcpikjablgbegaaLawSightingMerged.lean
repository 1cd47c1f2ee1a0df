/-
  For all inputs SightingMerged returns true and leaves what it was given as it was.
  Conditions: none.
-/
import Derived.Test.YtcpikjablgbegaaRows
import Derived.Test.YtcpikjablgbegaaSyH
import Derived.Test.YtcpikjablgbegaaSight2
import Derived.Test.YtcpikjablgbegaaSightG

namespace Go.Proofs.Ytcpikjablgbegaa.lawSightingMerged
open Go Go.Sy Go.ChangeShapes Go.WideShapes Go.ChangeAt Go.RowKit
set_option maxRecDepth 100000
set_option linter.unusedVariables false

theorem own : ownKnob Try.prog.godebug = none := by kernel_rfl
theorem laidOut : laidOutB Try.prog = true := by kernel_rfl

theorem walk (W : World) : ∀ (args : List Value), FitsAll W [.sl 29 [.int .i64, .int .i64, .int .i64, .int .i64, .int .i64, .int .i64, .int .i64, .int .i64, .int .i64, .int .i64, .int .i64, .int .i64, .int .i64]] args → Calls Try.prog 7 args.toArray W fun e w' => e = .returned (.bool true) ∧ Below W.heap.size W w' := by
  intro args h
  obtain ⟨v0, rfl, h0⟩ := fitsAll_1 h
  obtain ⟨l0, e0, r0⟩ := h0
  have hp := sightingMerged_ok l0 e0
  have hpre : ConPre (envOf [v0]) W [⟨0, 0, false, .row 29 [.int .i64, .int .i64, .int .i64, .int .i64, .int .i64, .int .i64, .int .i64, .int .i64, .int .i64, .int .i64, .int .i64, .int .i64, .int .i64] l0⟩] := conPre_of (w := W) [v0] [(29, [.int .i64, .int .i64, .int .i64, .int .i64, .int .i64, .int .i64, .int .i64, .int .i64, .int .i64, .int .i64, .int .i64, .int .i64, .int .i64], l0)] rfl fun k v e ks l hv hr => by
    match k, hv, hr with
    | 0, hv, hr => have hv1 : some v0 = some v := hv; have hr1 : some (29, [.int .i64, .int .i64, .int .i64, .int .i64, .int .i64, .int .i64, .int .i64, .int .i64, .int .i64, .int .i64, .int .i64, .int .i64, .int .i64], l0) = some (e, ks, l) := hr; cases hv1; cases hr1; exact r0
    | k + 1, hv, hr => exact absurd hv (by simp)
  have hargs : (AV.denL (envOf [v0]) [.sl 0]).toArray = #[v0] := by kernel_rfl
  have hc : S57 7 [.sl 0] [⟨0, 0, false, .row 29 [.int .i64, .int .i64, .int .i64, .int .i64, .int .i64, .int .i64, .int .i64, .int .i64, .int .i64, .int .i64, .int .i64, .int .i64, .int .i64] l0⟩] = some ⟨some (law24_SightingMerged_pre l0), [], 0, [], .bool (law24_SightingMerged_0 l0)⟩ := by kernel_rfl
  have hu := law_use S57_ok hc rfl (fun E => congrArg Value.bool hp.1) hp.2 hpre
  rw [hargs] at hu
  exact hu

theorem lifted (os : Os) (started : os.Started) (H : Type) (enc : TypeId × Value → H) :
    ReturnsInHanded {} Try.checked os 7 .any (Rows.sightingMergedSpec.pre6 enc Try.prog Try.f7 Rows.sightingMergedRow.domain false) (Rows.sightingMergedSpec.post enc Try.prog Try.f7 false true false false) := by
  refine returnsInHanded_of_change (C := Try.checked) own started (by kernel_rfl) Try.func7
    (ChangeSpec.witness6 (enc := enc) (C := Try.checked) false ⟨#[], #[.slice none 0 0], []⟩ 8 (by kernel_rfl) (by kernel_rfl) (by kernel_rfl) (by kernel_rfl)) ?_
  exact law_plain (C := Try.checked) (fn := Try.f7) (T := 4) (k := 1) (ks := [.sl 29 [.int .i64, .int .i64, .int .i64, .int .i64, .int .i64, .int .i64, .int .i64, .int .i64, .int .i64, .int .i64, .int .i64, .int .i64, .int .i64]]) laidOut (by kernel_rfl) (by kernel_rfl) (by kernel_rfl) (by kernel_rfl) rfl (fun H ds h => by match ds, h with | [_], _ => rfl) (by kernel_rfl) (fun W args h => walk W args h)

theorem over : Rows.sightingMergedRow.holds Try.pinned (OpenSpec.ofChange Rows.sightingMergedSpec) :=
  OpenClaim.holds_of_wide 7 Try.f7 rfl rfl rfl rfl rfl rfl rfl ⟨rfl, rfl, rfl, rfl, rfl⟩ rfl rfl rfl rfl rfl (by kernel_rfl) Try.func7 (by kernel_rfl)
    (of_decide_eq_true (by kernel_rfl)) (by unfold Func.isWrapper; first | (rw [if_pos (by decide +kernel)]; kernel_rfl) | (rw [if_neg (by decide +kernel)]; exact ⟨rfl, rfl⟩))
    (fun os started H enc _ => lifted os started H enc)

/-- The given statement. -/
theorem proved : Rows.SightingMergedSaid := over
#print axioms proved
end Go.Proofs.Ytcpikjablgbegaa.lawSightingMerged
