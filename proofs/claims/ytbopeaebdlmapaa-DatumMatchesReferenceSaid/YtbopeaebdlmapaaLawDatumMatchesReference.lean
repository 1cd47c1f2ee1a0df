/-
  For all inputs DatumMatchesReference returns true and leaves what it was given as it was.
  Conditions: none.
-/
import Derived.Test.YtbopeaebdlmapaaRows
import Derived.Test.YtbopeaebdlmapaaDatumB
import Derived.Test.YtbopeaebdlmapaaRef04L

namespace Go.Proofs.Ytbopeaebdlmapaa.lawDatumMatchesReference
open Go Go.Sx Go.ChangeShapes Go.WideShapes Go.ChangeAt Go.RowKit
set_option maxRecDepth 100000
set_option linter.unusedVariables false

theorem own : ownKnob Try.prog.godebug = none := by kernel_rfl
theorem laidOut : laidOutB Try.prog = true := by kernel_rfl

theorem walk (W : World) : ∀ (args : List Value), FitsAll [.agg [.int .i64, .int .i64, .int .i64, .int .i64, .int .i64, .int .i64, .int .i64], .agg [.int .i64, .int .i64, .int .i64, .int .i64, .int .i64, .int .i64, .int .i64], .agg [.int .i64, .int .i64], .agg [.int .i64, .int .i64], .agg [.int .i64, .int .i64, .int .i64, .int .i64]] args → Calls Try.prog 3 args.toArray W fun e w' => e = .returned (.bool true) ∧ Below W.heap.size W w' := by
  intro args h
  obtain ⟨v0, v1, v2, v3, v4, rfl, h0, h1, h2, h3, h4⟩ := fitsAll_5 h
  obtain ⟨c0_0, rfl, g0⟩ := h0
  obtain ⟨n0_0, c0_1, rfl, w0_0, g0⟩ := fitsC_int g0
  obtain ⟨n0_1, c0_2, rfl, w0_1, g0⟩ := fitsC_int g0
  obtain ⟨n0_2, c0_3, rfl, w0_2, g0⟩ := fitsC_int g0
  obtain ⟨n0_3, c0_4, rfl, w0_3, g0⟩ := fitsC_int g0
  obtain ⟨n0_4, c0_5, rfl, w0_4, g0⟩ := fitsC_int g0
  obtain ⟨n0_5, c0_6, rfl, w0_5, g0⟩ := fitsC_int g0
  obtain ⟨n0_6, c0_7, rfl, w0_6, g0⟩ := fitsC_int g0
  obtain rfl := fitsC_nil g0
  obtain ⟨c1_0, rfl, g1⟩ := h1
  obtain ⟨n1_0, c1_1, rfl, w1_0, g1⟩ := fitsC_int g1
  obtain ⟨n1_1, c1_2, rfl, w1_1, g1⟩ := fitsC_int g1
  obtain ⟨n1_2, c1_3, rfl, w1_2, g1⟩ := fitsC_int g1
  obtain ⟨n1_3, c1_4, rfl, w1_3, g1⟩ := fitsC_int g1
  obtain ⟨n1_4, c1_5, rfl, w1_4, g1⟩ := fitsC_int g1
  obtain ⟨n1_5, c1_6, rfl, w1_5, g1⟩ := fitsC_int g1
  obtain ⟨n1_6, c1_7, rfl, w1_6, g1⟩ := fitsC_int g1
  obtain rfl := fitsC_nil g1
  obtain ⟨c2_0, rfl, g2⟩ := h2
  obtain ⟨n2_0, c2_1, rfl, w2_0, g2⟩ := fitsC_int g2
  obtain ⟨n2_1, c2_2, rfl, w2_1, g2⟩ := fitsC_int g2
  obtain rfl := fitsC_nil g2
  obtain ⟨c3_0, rfl, g3⟩ := h3
  obtain ⟨n3_0, c3_1, rfl, w3_0, g3⟩ := fitsC_int g3
  obtain ⟨n3_1, c3_2, rfl, w3_1, g3⟩ := fitsC_int g3
  obtain rfl := fitsC_nil g3
  obtain ⟨c4_0, rfl, g4⟩ := h4
  obtain ⟨n4_0, c4_1, rfl, w4_0, g4⟩ := fitsC_int g4
  obtain ⟨n4_1, c4_2, rfl, w4_1, g4⟩ := fitsC_int g4
  obtain ⟨n4_2, c4_3, rfl, w4_2, g4⟩ := fitsC_int g4
  obtain ⟨n4_3, c4_4, rfl, w4_3, g4⟩ := fitsC_int g4
  obtain rfl := fitsC_nil g4
  have := (law04_DatumMatchesReference_at n0_0 n0_1 n0_2 n0_3 n0_4 n0_5 n0_6 n1_0 n1_1 n1_2 n1_3 n1_4 n1_5 n1_6 n2_0 n2_1 n3_0 n3_1 n4_0 n4_1 n4_2 n4_3).2 (fun _ => 0) W
  rw [datumMatchesReference_true n0_0 n0_1 n0_2 n0_3 n0_4 n0_5 n0_6 n1_0 n1_1 n1_2 n1_3 n1_4 n1_5 n1_6 n2_0 n2_1 n3_0 n3_1 n4_0 n4_1 n4_2 n4_3] at this
  exact this

theorem lifted (os : Os) (started : os.Started) (H : Type) (enc : TypeId × Value → H) :
    ReturnsInHanded {} Try.checked os 3 .any (Rows.datumMatchesReferenceSpec.pre6 enc Try.prog Try.f3 Rows.datumMatchesReferenceRow.domain false) (Rows.datumMatchesReferenceSpec.post enc Try.prog Try.f3 false true false false) := by
  refine returnsInHanded_of_change (C := Try.checked) own started (by kernel_rfl) Try.func3
    (ChangeSpec.witness6 (enc := enc) (C := Try.checked) false ⟨#[], #[.agg #[.int .i64 0, .int .i64 0, .int .i64 0, .int .i64 0, .int .i64 0, .int .i64 0, .int .i64 0], .agg #[.int .i64 0, .int .i64 0, .int .i64 0, .int .i64 0, .int .i64 0, .int .i64 0, .int .i64 0], .agg #[.int .i64 0, .int .i64 0], .agg #[.int .i64 0, .int .i64 0], .agg #[.int .i64 0, .int .i64 0, .int .i64 0, .int .i64 0]], []⟩ 8 (by kernel_rfl) (by kernel_rfl) (by kernel_rfl) (by kernel_rfl)) ?_
  exact law_plain (C := Try.checked) (fn := Try.f3) (T := 4) (k := 5) (ks := [.agg [.int .i64, .int .i64, .int .i64, .int .i64, .int .i64, .int .i64, .int .i64], .agg [.int .i64, .int .i64, .int .i64, .int .i64, .int .i64, .int .i64, .int .i64], .agg [.int .i64, .int .i64], .agg [.int .i64, .int .i64], .agg [.int .i64, .int .i64, .int .i64, .int .i64]]) laidOut (by kernel_rfl) (by kernel_rfl) (by kernel_rfl) (by kernel_rfl) rfl (fun H ds h => by match ds, h with | [_, _, _, _, _], _ => rfl) (by kernel_rfl) (fun W args h => walk W args h)

theorem over : Rows.datumMatchesReferenceRow.holds Try.pinned (OpenSpec.ofChange Rows.datumMatchesReferenceSpec) :=
  OpenClaim.holds_of_wide 3 Try.f3 rfl rfl rfl rfl rfl rfl rfl ⟨rfl, rfl, rfl, rfl, rfl⟩ rfl rfl rfl rfl rfl (by kernel_rfl) Try.func3 (by kernel_rfl)
    (of_decide_eq_true (by kernel_rfl)) (by unfold Func.isWrapper; first | (rw [if_pos (by decide +kernel)]; kernel_rfl) | (rw [if_neg (by decide +kernel)]; exact ⟨rfl, rfl⟩))
    (fun os started H enc _ => lifted os started H enc)

/-- The given statement. -/
theorem proved : Rows.DatumMatchesReferenceSaid := over
#print axioms proved
end Go.Proofs.Ytbopeaebdlmapaa.lawDatumMatchesReference
