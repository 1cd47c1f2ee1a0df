/-
  For all inputs DriftGreater returns true and leaves what it was given as it was.
  Conditions: none.
-/
import Derived.Test.YtddfnokjnafdpaaRows
import Derived.Test.YtddfnokjnafdpaaSyH
import Derived.Test.YtddfnokjnafdpaaDriftE
import Derived.Test.YtddfnokjnafdpaaDriftG

namespace Go.Proofs.Ytddfnokjnafdpaa.lawDriftGreater
open Go Go.Sy Go.ChangeShapes Go.WideShapes Go.ChangeAt Go.RowKit
set_option maxRecDepth 100000
set_option linter.unusedVariables false

theorem own : ownKnob Try.prog.godebug = none := by kernel_rfl
theorem laidOut : laidOutB Try.prog = true := by kernel_rfl

theorem walk (W : World) : ∀ (args : List Value), FitsAll W [.sl 42 [.int .i64, .int .i64, .int .i64, .int .i64], .sl 42 [.int .i64, .int .i64, .int .i64, .int .i64], .sl 56 [.int .i64, .int .i64, .int .i64, .int .i64, .int .i64, .int .i64], .one (.int .i64), .one (.int .i64), .one (.int .i64)] args → Calls Try.prog 5 args.toArray W fun e w' => e = .returned (.bool true) ∧ Below W.heap.size W w' := by
  intro args h
  obtain ⟨v0, v1, v2, v3, v4, v5, rfl, h0, h1, h2, h3, h4, h5⟩ := fitsAll_6 h
  obtain ⟨l0, e0, r0⟩ := h0
  obtain ⟨l1, e1, r1⟩ := h1
  obtain ⟨l2, e2, r2⟩ := h2
  obtain ⟨n3_0, rfl, w3⟩ := fitsV_int h3
  obtain ⟨n4_0, rfl, w4⟩ := fitsV_int h4
  obtain ⟨n5_0, rfl, w5⟩ := fitsV_int h5
  have hp := driftGreater_ok n3_0 n4_0 n5_0 l0 l1 l2 (rowLe r2)
  have hpre : ConPre (envOf [v0, v1, v2]) W [⟨0, 0, false, .row 42 [.int .i64, .int .i64, .int .i64, .int .i64] l0⟩, ⟨1, 0, false, .row 42 [.int .i64, .int .i64, .int .i64, .int .i64] l1⟩, ⟨2, 0, false, .row 56 [.int .i64, .int .i64, .int .i64, .int .i64, .int .i64, .int .i64] l2⟩] := conPre_of (w := W) [v0, v1, v2] [(42, [.int .i64, .int .i64, .int .i64, .int .i64], l0), (42, [.int .i64, .int .i64, .int .i64, .int .i64], l1), (56, [.int .i64, .int .i64, .int .i64, .int .i64, .int .i64, .int .i64], l2)] rfl fun k v e ks l hv hr => by
    match k, hv, hr with
    | 0, hv, hr => have hv1 : some v0 = some v := hv; have hr1 : some (42, [.int .i64, .int .i64, .int .i64, .int .i64], l0) = some (e, ks, l) := hr; cases hv1; cases hr1; exact r0
    | 1, hv, hr => have hv1 : some v1 = some v := hv; have hr1 : some (42, [.int .i64, .int .i64, .int .i64, .int .i64], l1) = some (e, ks, l) := hr; cases hv1; cases hr1; exact r1
    | 2, hv, hr => have hv1 : some v2 = some v := hv; have hr1 : some (56, [.int .i64, .int .i64, .int .i64, .int .i64, .int .i64, .int .i64], l2) = some (e, ks, l) := hr; cases hv1; cases hr1; exact r2
    | k + 3, hv, hr => exact absurd hv (by simp)
  have hargs : (AV.denL (envOf [v0, v1, v2]) [.sl 0, .sl 1, .sl 2, .int .i64 n3_0, .int .i64 n4_0, .int .i64 n5_0]).toArray = #[v0, v1, v2, .int .i64 n3_0, .int .i64 n4_0, .int .i64 n5_0] := by kernel_rfl
  have hc : D49 5 [.sl 0, .sl 1, .sl 2, .int .i64 n3_0, .int .i64 n4_0, .int .i64 n5_0] [⟨0, 0, false, .row 42 [.int .i64, .int .i64, .int .i64, .int .i64] l0⟩, ⟨1, 0, false, .row 42 [.int .i64, .int .i64, .int .i64, .int .i64] l1⟩, ⟨2, 0, false, .row 56 [.int .i64, .int .i64, .int .i64, .int .i64, .int .i64, .int .i64] l2⟩] = some ⟨some (law23_DriftGreater_pre n3_0 n4_0 n5_0 l0 l1 l2), [], 0, [], .bool (law23_DriftGreater_0 n3_0 n4_0 n5_0 l0 l1 l2)⟩ := by kernel_rfl
  have hu := law_use D49_ok hc rfl (fun E => congrArg Value.bool hp.1) hp.2 hpre
  rw [hargs] at hu
  exact hu

theorem lifted (os : Os) (started : os.Started) (H : Type) (enc : TypeId × Value → H) :
    ReturnsInHanded {} Try.checked os 5 .any (Rows.driftGreaterSpec.pre6 enc Try.prog Try.f5 Rows.driftGreaterRow.domain false) (Rows.driftGreaterSpec.post enc Try.prog Try.f5 false true false false) := by
  refine returnsInHanded_of_change (C := Try.checked) own started (by kernel_rfl) Try.func5
    (ChangeSpec.witness6 (enc := enc) (C := Try.checked) false ⟨#[], #[.slice none 0 0, .slice none 0 0, .slice none 0 0, .int .i64 0, .int .i64 0, .int .i64 0], []⟩ 8 (by kernel_rfl) (by kernel_rfl) (by kernel_rfl) (by kernel_rfl)) ?_
  exact law_plain (C := Try.checked) (fn := Try.f5) (T := 4) (k := 6) (ks := [.sl 42 [.int .i64, .int .i64, .int .i64, .int .i64], .sl 42 [.int .i64, .int .i64, .int .i64, .int .i64], .sl 56 [.int .i64, .int .i64, .int .i64, .int .i64, .int .i64, .int .i64], .one (.int .i64), .one (.int .i64), .one (.int .i64)]) laidOut (by kernel_rfl) (by kernel_rfl) (by kernel_rfl) (by kernel_rfl) rfl (fun H ds h => by match ds, h with | [_, _, _, _, _, _], _ => rfl) (by kernel_rfl) (fun W args h => walk W args h)

theorem over : Rows.driftGreaterRow.holds Try.pinned (OpenSpec.ofChange Rows.driftGreaterSpec) :=
  OpenClaim.holds_of_wide 5 Try.f5 rfl rfl rfl rfl rfl rfl rfl ⟨rfl, rfl, rfl, rfl, rfl⟩ rfl rfl rfl rfl rfl (by kernel_rfl) Try.func5 (by kernel_rfl)
    (of_decide_eq_true (by kernel_rfl)) (by unfold Func.isWrapper; first | (rw [if_pos (by decide +kernel)]; kernel_rfl) | (rw [if_neg (by decide +kernel)]; exact ⟨rfl, rfl⟩))
    (fun os started H enc _ => lifted os started H enc)

/-- The given statement. -/
theorem proved : Rows.DriftGreaterSaid := over
#print axioms proved
end Go.Proofs.Ytddfnokjnafdpaa.lawDriftGreater
