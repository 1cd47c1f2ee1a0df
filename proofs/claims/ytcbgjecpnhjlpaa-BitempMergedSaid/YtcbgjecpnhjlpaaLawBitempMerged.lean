/-
  For all inputs BitempMerged returns true and leaves what it was given as it was.
  Conditions: none.
-/
import Derived.Test.YtcbgjecpnhjlpaaRows
import Derived.Test.YtcbgjecpnhjlpaaBitemp4
import Derived.Test.YtcbgjecpnhjlpaaBitempK

namespace Go.Proofs.Ytcbgjecpnhjlpaa.lawBitempMerged
open Go Go.Sy Go.ChangeShapes Go.WideShapes Go.ChangeAt Go.RowKit
set_option maxRecDepth 100000
set_option linter.unusedVariables false

theorem own : ownKnob Try.prog.godebug = none := by kernel_rfl
theorem laidOut : laidOutB Try.prog = true := by kernel_rfl

theorem walk (W : World) : ∀ (args : List Value), FitsAll W [.sl 24 [.int .i64, .int .i64, .int .i64, .int .i64, .int .i64], .sl 24 [.int .i64, .int .i64, .int .i64, .int .i64, .int .i64], .one (.int .i64), .one (.int .i64), .one (.int .i64)] args → Calls Try.prog 9 args.toArray W fun e w' => e = .returned (.bool true) ∧ Below W.heap.size W w' := by
  intro args h
  obtain ⟨v0, v1, v2, v3, v4, rfl, h0, h1, h2, h3, h4⟩ := fitsAll_5 h
  obtain ⟨l0, e0, r0⟩ := h0
  obtain ⟨l1, e1, r1⟩ := h1
  obtain ⟨n2_0, rfl, w2⟩ := fitsV_int h2
  obtain ⟨n3_0, rfl, w3⟩ := fitsV_int h3
  obtain ⟨n4_0, rfl, w4⟩ := fitsV_int h4
  have hp := bitempMerged_ok n2_0 n3_0 n4_0 l0 l1 (fun r hr => elOk_length (e0 r hr)) (fun r hr => elOk_length (e1 r hr))
  have hpre : ConPre (envOf [v0, v1]) W [⟨0, 0, false, .row 24 [.int .i64, .int .i64, .int .i64, .int .i64, .int .i64] l0⟩, ⟨1, 0, false, .row 24 [.int .i64, .int .i64, .int .i64, .int .i64, .int .i64] l1⟩] := conPre_of (w := W) [v0, v1] [(24, [.int .i64, .int .i64, .int .i64, .int .i64, .int .i64], l0), (24, [.int .i64, .int .i64, .int .i64, .int .i64, .int .i64], l1)] rfl fun k v e ks l hv hr => by
    match k, hv, hr with
    | 0, hv, hr => have hv1 : some v0 = some v := hv; have hr1 : some (24, [.int .i64, .int .i64, .int .i64, .int .i64, .int .i64], l0) = some (e, ks, l) := hr; cases hv1; cases hr1; exact r0
    | 1, hv, hr => have hv1 : some v1 = some v := hv; have hr1 : some (24, [.int .i64, .int .i64, .int .i64, .int .i64, .int .i64], l1) = some (e, ks, l) := hr; cases hv1; cases hr1; exact r1
    | k + 2, hv, hr => exact absurd hv (by simp)
  have hargs : (AV.denL (envOf [v0, v1]) [.sl 0, .sl 1, .int .i64 n2_0, .int .i64 n3_0, .int .i64 n4_0]).toArray = #[v0, v1, .int .i64 n2_0, .int .i64 n3_0, .int .i64 n4_0] := by kernel_rfl
  have hc : B27 9 [.sl 0, .sl 1, .int .i64 n2_0, .int .i64 n3_0, .int .i64 n4_0] [⟨0, 0, false, .row 24 [.int .i64, .int .i64, .int .i64, .int .i64, .int .i64] l0⟩, ⟨1, 0, false, .row 24 [.int .i64, .int .i64, .int .i64, .int .i64, .int .i64] l1⟩] = some ⟨some (law27_BitempMerged_pre n2_0 n3_0 n4_0 l0 l1), [], 0, [], .bool (law27_BitempMerged_0 n2_0 n3_0 n4_0 l0 l1)⟩ := by kernel_rfl
  have hu := law_use B27_ok hc rfl (fun E => congrArg Value.bool hp.1) hp.2 hpre
  rw [hargs] at hu
  exact hu

theorem lifted (os : Os) (started : os.Started) (H : Type) (enc : TypeId × Value → H) :
    ReturnsInHanded {} Try.checked os 9 .any (Rows.bitempMergedSpec.pre6 enc Try.prog Try.f9 Rows.bitempMergedRow.domain false) (Rows.bitempMergedSpec.post enc Try.prog Try.f9 false true false false) := by
  refine returnsInHanded_of_change (C := Try.checked) own started (by kernel_rfl) Try.func9
    (ChangeSpec.witness6 (enc := enc) (C := Try.checked) false ⟨#[], #[.slice none 0 0, .slice none 0 0, .int .i64 0, .int .i64 0, .int .i64 0], []⟩ 8 (by kernel_rfl) (by kernel_rfl) (by kernel_rfl) (by kernel_rfl)) ?_
  exact law_plain (C := Try.checked) (fn := Try.f9) (T := 4) (k := 5) (ks := [.sl 24 [.int .i64, .int .i64, .int .i64, .int .i64, .int .i64], .sl 24 [.int .i64, .int .i64, .int .i64, .int .i64, .int .i64], .one (.int .i64), .one (.int .i64), .one (.int .i64)]) laidOut (by kernel_rfl) (by kernel_rfl) (by kernel_rfl) (by kernel_rfl) rfl (fun H ds h => by match ds, h with | [_, _, _, _, _], _ => rfl) (by kernel_rfl) (fun W args h => walk W args h)

theorem over : Rows.bitempMergedRow.holds Try.pinned (OpenSpec.ofChange Rows.bitempMergedSpec) :=
  OpenClaim.holds_of_wide 9 Try.f9 rfl rfl rfl rfl rfl rfl rfl ⟨rfl, rfl, rfl, rfl, rfl⟩ rfl rfl rfl rfl rfl (by kernel_rfl) Try.func9 (by kernel_rfl)
    (of_decide_eq_true (by kernel_rfl)) (by unfold Func.isWrapper; first | (rw [if_pos (by decide +kernel)]; kernel_rfl) | (rw [if_neg (by decide +kernel)]; exact ⟨rfl, rfl⟩))
    (fun os started H enc _ => lifted os started H enc)

/-- The given statement. -/
theorem proved : Rows.BitempMergedSaid := over
#print axioms proved
end Go.Proofs.Ytcbgjecpnhjlpaa.lawBitempMerged
