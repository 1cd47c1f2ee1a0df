/-
  For all inputs SpanMatchesReference returns true and leaves what it was given as it was.
  Conditions: none.
-/
import Derived.Test.YtmpmkeiepfknoaaRows
import Derived.Test.YtmpmkeiepfknoaaRef02
import Derived.Test.YtmpmkeiepfknoaaRef02L

namespace Go.Proofs.Ytmpmkeiepfknoaa.lawSpanMatchesReference
open Go Go.Sx Go.ChangeShapes Go.WideShapes Go.ChangeAt Go.RowKit
set_option maxRecDepth 100000
set_option linter.unusedVariables false

theorem own : ownKnob Try.prog.godebug = none := by kernel_rfl
theorem laidOut : laidOutB Try.prog = true := by kernel_rfl

theorem walk (W : World) : ∀ (args : List Value), FitsAll [.agg [.int .i64, .int .i64], .agg [.int .i64, .int .i64], .one (.int .i64), .one (.int .i64), .agg [.int .i64, .int .i64, .int .i64, .int .i64], .agg [.int .i64, .int .i64, .int .i64, .int .i64], .one (.int .i64), .agg [.int .i64, .int .i64]] args → Calls Try.prog 9 args.toArray W fun e w' => e = .returned (.bool true) ∧ Below W.heap.size W w' := by
  intro args h
  obtain ⟨v0, v1, v2, v3, v4, v5, v6, v7, rfl, h0, h1, h2, h3, h4, h5, h6, h7⟩ := fitsAll_8 h
  obtain ⟨c0_0, rfl, g0⟩ := h0
  obtain ⟨n0_0, c0_1, rfl, w0_0, g0⟩ := fitsC_int g0
  obtain ⟨n0_1, c0_2, rfl, w0_1, g0⟩ := fitsC_int g0
  obtain rfl := fitsC_nil g0
  obtain ⟨c1_0, rfl, g1⟩ := h1
  obtain ⟨n1_0, c1_1, rfl, w1_0, g1⟩ := fitsC_int g1
  obtain ⟨n1_1, c1_2, rfl, w1_1, g1⟩ := fitsC_int g1
  obtain rfl := fitsC_nil g1
  obtain ⟨n2_0, rfl, w2⟩ := fitsV_int h2
  obtain ⟨n3_0, rfl, w3⟩ := fitsV_int h3
  obtain ⟨c4_0, rfl, g4⟩ := h4
  obtain ⟨n4_0, c4_1, rfl, w4_0, g4⟩ := fitsC_int g4
  obtain ⟨n4_1, c4_2, rfl, w4_1, g4⟩ := fitsC_int g4
  obtain ⟨n4_2, c4_3, rfl, w4_2, g4⟩ := fitsC_int g4
  obtain ⟨n4_3, c4_4, rfl, w4_3, g4⟩ := fitsC_int g4
  obtain rfl := fitsC_nil g4
  obtain ⟨c5_0, rfl, g5⟩ := h5
  obtain ⟨n5_0, c5_1, rfl, w5_0, g5⟩ := fitsC_int g5
  obtain ⟨n5_1, c5_2, rfl, w5_1, g5⟩ := fitsC_int g5
  obtain ⟨n5_2, c5_3, rfl, w5_2, g5⟩ := fitsC_int g5
  obtain ⟨n5_3, c5_4, rfl, w5_3, g5⟩ := fitsC_int g5
  obtain rfl := fitsC_nil g5
  obtain ⟨n6_0, rfl, w6⟩ := fitsV_int h6
  obtain ⟨c7_0, rfl, g7⟩ := h7
  obtain ⟨n7_0, c7_1, rfl, w7_0, g7⟩ := fitsC_int g7
  obtain ⟨n7_1, c7_2, rfl, w7_1, g7⟩ := fitsC_int g7
  obtain rfl := fitsC_nil g7
  have := (law02_SpanMatchesReference_at n0_0 n0_1 n1_0 n1_1 n2_0 n3_0 n4_0 n4_1 n4_2 n4_3 n5_0 n5_1 n5_2 n5_3 n6_0 n7_0 n7_1).2 (fun _ => 0) W
  rw [spanMatchesReference_true n0_0 n0_1 n1_0 n1_1 n2_0 n3_0 n4_0 n4_1 n4_2 n4_3 n5_0 n5_1 n5_2 n5_3 n6_0 n7_0 n7_1] at this
  exact this

theorem lifted (os : Os) (started : os.Started) (H : Type) (enc : TypeId × Value → H) :
    ReturnsInHanded {} Try.checked os 9 .any (Rows.spanMatchesReferenceSpec.pre6 enc Try.prog Try.f9 Rows.spanMatchesReferenceRow.domain false) (Rows.spanMatchesReferenceSpec.post enc Try.prog Try.f9 false true false false) := by
  refine returnsInHanded_of_change (C := Try.checked) own started (by kernel_rfl) Try.func9
    (ChangeSpec.witness6 (enc := enc) (C := Try.checked) false ⟨#[], #[.agg #[.int .i64 0, .int .i64 0], .agg #[.int .i64 0, .int .i64 0], .int .i64 0, .int .i64 0, .agg #[.int .i64 0, .int .i64 0, .int .i64 0, .int .i64 0], .agg #[.int .i64 0, .int .i64 0, .int .i64 0, .int .i64 0], .int .i64 0, .agg #[.int .i64 0, .int .i64 0]], []⟩ 8 (by kernel_rfl) (by kernel_rfl) (by kernel_rfl) (by kernel_rfl)) ?_
  exact law_plain (C := Try.checked) (fn := Try.f9) (T := 4) (k := 8) (ks := [.agg [.int .i64, .int .i64], .agg [.int .i64, .int .i64], .one (.int .i64), .one (.int .i64), .agg [.int .i64, .int .i64, .int .i64, .int .i64], .agg [.int .i64, .int .i64, .int .i64, .int .i64], .one (.int .i64), .agg [.int .i64, .int .i64]]) laidOut (by kernel_rfl) (by kernel_rfl) (by kernel_rfl) (by kernel_rfl) rfl (fun H ds h => by match ds, h with | [_, _, _, _, _, _, _, _], _ => rfl) (by kernel_rfl) (fun W args h => walk W args h)

theorem over : Rows.spanMatchesReferenceRow.holds Try.pinned (OpenSpec.ofChange Rows.spanMatchesReferenceSpec) :=
  OpenClaim.holds_of_wide 9 Try.f9 rfl rfl rfl rfl rfl rfl rfl ⟨rfl, rfl, rfl, rfl, rfl⟩ rfl rfl rfl rfl rfl (by kernel_rfl) Try.func9 (by kernel_rfl)
    (of_decide_eq_true (by kernel_rfl)) (by unfold Func.isWrapper; first | (rw [if_pos (by decide +kernel)]; kernel_rfl) | (rw [if_neg (by decide +kernel)]; exact ⟨rfl, rfl⟩))
    (fun os started H enc _ => lifted os started H enc)

/-- The given statement. -/
theorem proved : Rows.SpanMatchesReferenceSaid := over
#print axioms proved
end Go.Proofs.Ytmpmkeiepfknoaa.lawSpanMatchesReference
