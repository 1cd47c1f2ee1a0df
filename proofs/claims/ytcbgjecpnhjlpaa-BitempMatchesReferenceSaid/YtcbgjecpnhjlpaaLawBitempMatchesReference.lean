/-
  For all inputs BitempMatchesReference returns true and leaves what it was given as it was.
  Conditions: none.
-/
import Derived.Test.YtcbgjecpnhjlpaaRows
import Derived.Test.YtcbgjecpnhjlpaaBitemp5
import Derived.Test.YtcbgjecpnhjlpaaBitempO

namespace Go.Proofs.Ytcbgjecpnhjlpaa.lawBitempMatchesReference
open Go Go.Sy Go.ChangeShapes Go.WideShapes Go.ChangeAt Go.RowKit
set_option maxRecDepth 100000
set_option linter.unusedVariables false

theorem own : ownKnob Try.prog.godebug = none := by kernel_rfl
theorem laidOut : laidOutB Try.prog = true := by kernel_rfl

theorem walk (W : World) : ∀ (args : List Value), FitsAll W [.sl 24 [.int .i64, .int .i64, .int .i64, .int .i64, .int .i64], .sl 24 [.int .i64, .int .i64, .int .i64, .int .i64, .int .i64], .agg [.int .i64, .int .i64, .int .i64, .int .i64, .int .i64], .one (.int .i64), .one (.int .i64), .one (.int .i64), .one (.int .i64)] args → Calls Try.prog 3 args.toArray W fun e w' => e = .returned (.bool true) ∧ Below W.heap.size W w' := by
  intro args h
  obtain ⟨v0, v1, v2, v3, v4, v5, v6, rfl, h0, h1, h2, h3, h4, h5, h6⟩ := fitsAll_7 h
  obtain ⟨l0, e0, r0⟩ := h0
  obtain ⟨l1, e1, r1⟩ := h1
  obtain ⟨c2_0, rfl, g2⟩ := h2
  obtain ⟨n2_0, c2_1, rfl, w2_0, g2⟩ := fitsC_int g2
  obtain ⟨n2_1, c2_2, rfl, w2_1, g2⟩ := fitsC_int g2
  obtain ⟨n2_2, c2_3, rfl, w2_2, g2⟩ := fitsC_int g2
  obtain ⟨n2_3, c2_4, rfl, w2_3, g2⟩ := fitsC_int g2
  obtain ⟨n2_4, c2_5, rfl, w2_4, g2⟩ := fitsC_int g2
  obtain rfl := fitsC_nil g2
  obtain ⟨n3_0, rfl, w3⟩ := fitsV_int h3
  obtain ⟨n4_0, rfl, w4⟩ := fitsV_int h4
  obtain ⟨n5_0, rfl, w5⟩ := fitsV_int h5
  obtain ⟨n6_0, rfl, w6⟩ := fitsV_int h6
  have hp := bitempMatches_ok n2_0 n2_1 n2_2 n2_3 n2_4 n3_0 n4_0 n5_0 n6_0 l0 l1 (fun r hr => elOk_length (e0 r hr)) (fun r hr => elOk_length (e1 r hr))
  have hpre : ConPre (envOf [v0, v1]) W [⟨0, 0, false, .row 24 [.int .i64, .int .i64, .int .i64, .int .i64, .int .i64] l0⟩, ⟨1, 0, false, .row 24 [.int .i64, .int .i64, .int .i64, .int .i64, .int .i64] l1⟩] := conPre_of (w := W) [v0, v1] [(24, [.int .i64, .int .i64, .int .i64, .int .i64, .int .i64], l0), (24, [.int .i64, .int .i64, .int .i64, .int .i64, .int .i64], l1)] rfl fun k v e ks l hv hr => by
    match k, hv, hr with
    | 0, hv, hr => have hv1 : some v0 = some v := hv; have hr1 : some (24, [.int .i64, .int .i64, .int .i64, .int .i64, .int .i64], l0) = some (e, ks, l) := hr; cases hv1; cases hr1; exact r0
    | 1, hv, hr => have hv1 : some v1 = some v := hv; have hr1 : some (24, [.int .i64, .int .i64, .int .i64, .int .i64, .int .i64], l1) = some (e, ks, l) := hr; cases hv1; cases hr1; exact r1
    | k + 2, hv, hr => exact absurd hv (by simp)
  have hargs : (AV.denL (envOf [v0, v1]) [.sl 0, .sl 1, .agg [.int .i64 n2_0, .int .i64 n2_1, .int .i64 n2_2, .int .i64 n2_3, .int .i64 n2_4], .int .i64 n3_0, .int .i64 n4_0, .int .i64 n5_0, .int .i64 n6_0]).toArray = #[v0, v1, .agg #[.int .i64 n2_0, .int .i64 n2_1, .int .i64 n2_2, .int .i64 n2_3, .int .i64 n2_4], .int .i64 n3_0, .int .i64 n4_0, .int .i64 n5_0, .int .i64 n6_0] := by kernel_rfl
  have hc : B44 3 [.sl 0, .sl 1, .agg [.int .i64 n2_0, .int .i64 n2_1, .int .i64 n2_2, .int .i64 n2_3, .int .i64 n2_4], .int .i64 n3_0, .int .i64 n4_0, .int .i64 n5_0, .int .i64 n6_0] [⟨0, 0, false, .row 24 [.int .i64, .int .i64, .int .i64, .int .i64, .int .i64] l0⟩, ⟨1, 0, false, .row 24 [.int .i64, .int .i64, .int .i64, .int .i64, .int .i64] l1⟩] = some ⟨some (law27_BitempMatchesReference_pre n2_0 n2_1 n2_2 n2_3 n2_4 n3_0 n4_0 n5_0 n6_0 l0 l1), [], 0, [], .bool (law27_BitempMatchesReference_0 n2_0 n2_1 n2_2 n2_3 n2_4 n3_0 n4_0 n5_0 n6_0 l0 l1)⟩ := by kernel_rfl
  have hu := law_use B44_ok hc rfl (fun E => congrArg Value.bool hp.1) hp.2 hpre
  rw [hargs] at hu
  exact hu

theorem lifted (os : Os) (started : os.Started) (H : Type) (enc : TypeId × Value → H) :
    ReturnsInHanded {} Try.checked os 3 .any (Rows.bitempMatchesReferenceSpec.pre6 enc Try.prog Try.f3 Rows.bitempMatchesReferenceRow.domain false) (Rows.bitempMatchesReferenceSpec.post enc Try.prog Try.f3 false true false false) := by
  refine returnsInHanded_of_change (C := Try.checked) own started (by kernel_rfl) Try.func3
    (ChangeSpec.witness6 (enc := enc) (C := Try.checked) false ⟨#[], #[.slice none 0 0, .slice none 0 0, .agg #[.int .i64 0, .int .i64 0, .int .i64 0, .int .i64 0, .int .i64 0], .int .i64 0, .int .i64 0, .int .i64 0, .int .i64 0], []⟩ 8 (by kernel_rfl) (by kernel_rfl) (by kernel_rfl) (by kernel_rfl)) ?_
  exact law_plain (C := Try.checked) (fn := Try.f3) (T := 4) (k := 7) (ks := [.sl 24 [.int .i64, .int .i64, .int .i64, .int .i64, .int .i64], .sl 24 [.int .i64, .int .i64, .int .i64, .int .i64, .int .i64], .agg [.int .i64, .int .i64, .int .i64, .int .i64, .int .i64], .one (.int .i64), .one (.int .i64), .one (.int .i64), .one (.int .i64)]) laidOut (by kernel_rfl) (by kernel_rfl) (by kernel_rfl) (by kernel_rfl) rfl (fun H ds h => by match ds, h with | [_, _, _, _, _, _, _], _ => rfl) (by kernel_rfl) (fun W args h => walk W args h)

theorem over : Rows.bitempMatchesReferenceRow.holds Try.pinned (OpenSpec.ofChange Rows.bitempMatchesReferenceSpec) :=
  OpenClaim.holds_of_wide 3 Try.f3 rfl rfl rfl rfl rfl rfl rfl ⟨rfl, rfl, rfl, rfl, rfl⟩ rfl rfl rfl rfl rfl (by kernel_rfl) Try.func3 (by kernel_rfl)
    (of_decide_eq_true (by kernel_rfl)) (by unfold Func.isWrapper; first | (rw [if_pos (by decide +kernel)]; kernel_rfl) | (rw [if_neg (by decide +kernel)]; exact ⟨rfl, rfl⟩))
    (fun os started H enc _ => lifted os started H enc)

/-- The given statement. -/
theorem proved : Rows.BitempMatchesReferenceSaid := over
#print axioms proved
end Go.Proofs.Ytcbgjecpnhjlpaa.lawBitempMatchesReference
