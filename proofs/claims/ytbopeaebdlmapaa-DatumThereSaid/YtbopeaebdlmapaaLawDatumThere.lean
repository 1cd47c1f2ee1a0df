/-
  For all inputs DatumThere returns true and leaves what it was given as it was.
  Conditions: none.
-/
import Derived.Test.YtbopeaebdlmapaaRows
import Derived.Test.YtbopeaebdlmapaaDatumB
import Derived.Test.YtbopeaebdlmapaaDatumM

namespace Go.Proofs.Ytbopeaebdlmapaa.lawDatumThere
open Go Go.Sx Go.ChangeShapes Go.WideShapes Go.ChangeAt Go.RowKit
set_option maxRecDepth 100000
set_option linter.unusedVariables false

theorem own : ownKnob Try.prog.godebug = none := by kernel_rfl
theorem laidOut : laidOutB Try.prog = true := by kernel_rfl

theorem walk (W : World) : ∀ (args : List Value), FitsAll [.agg [.int .i64, .int .i64, .int .i64, .int .i64, .int .i64, .int .i64, .int .i64], .agg [.int .i64, .int .i64]] args → Calls Try.prog 10 args.toArray W fun e w' => e = .returned (.bool true) ∧ Below W.heap.size W w' := by
  intro args h
  obtain ⟨v0, v1, rfl, h0, h1⟩ := fitsAll_2 h
  obtain ⟨c0_0, rfl, g0⟩ := h0
  obtain ⟨n0_0, c0_1, rfl, w0_0, g0⟩ := fitsC_int g0
  obtain ⟨n0_1, c0_2, rfl, w0_1, g0⟩ := fitsC_int g0
  obtain ⟨n0_2, c0_3, rfl, w0_2, g0⟩ := fitsC_int g0
  obtain ⟨n0_3, c0_4, rfl, w0_3, g0⟩ := fitsC_int g0
  obtain ⟨n0_4, c0_5, rfl, w0_4, g0⟩ := fitsC_int g0
  obtain ⟨n0_5, c0_6, rfl, w0_5, g0⟩ := fitsC_int g0
  obtain ⟨n0_6, c0_7, rfl, w0_6, g0⟩ := fitsC_int g0
  obtain rfl := fitsC_nil g0
  obtain ⟨c1_0, rfl, g1⟩ := h1
  obtain ⟨n1_0, c1_1, rfl, w1_0, g1⟩ := fitsC_int g1
  obtain ⟨n1_1, c1_2, rfl, w1_1, g1⟩ := fitsC_int g1
  obtain rfl := fitsC_nil g1
  have := (law04_DatumThere_at n0_0 n0_1 n0_2 n0_3 n0_4 n0_5 n0_6 n1_0 n1_1).2 (fun _ => 0) W
  rw [datumThere_true n0_0 n0_1 n0_2 n0_3 n0_4 n0_5 n0_6 n1_0 n1_1] at this
  exact this

theorem lifted (os : Os) (started : os.Started) (H : Type) (enc : TypeId × Value → H) :
    ReturnsInHanded {} Try.checked os 10 .any (Rows.datumThereSpec.pre6 enc Try.prog Try.f10 Rows.datumThereRow.domain false) (Rows.datumThereSpec.post enc Try.prog Try.f10 false true false false) := by
  refine returnsInHanded_of_change (C := Try.checked) own started (by kernel_rfl) Try.func10
    (ChangeSpec.witness6 (enc := enc) (C := Try.checked) false ⟨#[], #[.agg #[.int .i64 0, .int .i64 0, .int .i64 0, .int .i64 0, .int .i64 0, .int .i64 0, .int .i64 0], .agg #[.int .i64 0, .int .i64 0]], []⟩ 8 (by kernel_rfl) (by kernel_rfl) (by kernel_rfl) (by kernel_rfl)) ?_
  exact law_plain (C := Try.checked) (fn := Try.f10) (T := 4) (k := 2) (ks := [.agg [.int .i64, .int .i64, .int .i64, .int .i64, .int .i64, .int .i64, .int .i64], .agg [.int .i64, .int .i64]]) laidOut (by kernel_rfl) (by kernel_rfl) (by kernel_rfl) (by kernel_rfl) rfl (fun H ds h => by match ds, h with | [_, _], _ => rfl) (by kernel_rfl) (fun W args h => walk W args h)

theorem over : Rows.datumThereRow.holds Try.pinned (OpenSpec.ofChange Rows.datumThereSpec) :=
  OpenClaim.holds_of_wide 10 Try.f10 rfl rfl rfl rfl rfl rfl rfl ⟨rfl, rfl, rfl, rfl, rfl⟩ rfl rfl rfl rfl rfl (by kernel_rfl) Try.func10 (by kernel_rfl)
    (of_decide_eq_true (by kernel_rfl)) (by unfold Func.isWrapper; first | (rw [if_pos (by decide +kernel)]; kernel_rfl) | (rw [if_neg (by decide +kernel)]; exact ⟨rfl, rfl⟩))
    (fun os started H enc _ => lifted os started H enc)

/-- The given statement. -/
theorem proved : Rows.DatumThereSaid := over
#print axioms proved
end Go.Proofs.Ytbopeaebdlmapaa.lawDatumThere
