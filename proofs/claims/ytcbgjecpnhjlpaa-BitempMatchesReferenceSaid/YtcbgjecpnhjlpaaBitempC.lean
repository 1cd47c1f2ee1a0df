/- Written by program (wip/sygen.py): the contracts of the Go functions. -/
import Derived.Test.YtcbgjecpnhjlpaaRows
import Derived.Test.YtcbgjecpnhjlpaaSyH
import Derived.Test.YtcbgjecpnhjlpaaBitemp1D
import Derived.Test.YtcbgjecpnhjlpaaBitemp1
import Derived.Test.YtcbgjecpnhjlpaaBitempCD
set_option maxRecDepth 100000
set_option linter.unusedVariables false
namespace Go.Proofs.Ytcbgjecpnhjlpaa
open Go Go.Sy
theorem bitemp_cover_1_col (a_Item a_Value a_From a_Until a_Known b_Item b_Value b_From b_Until b_Known : Int) : collapse Try.prog 0 (execFn Try.prog B15 noSeq 9 70 [.agg [.int .i64 a_Item, .int .i64 a_Value, .int .i64 a_From, .int .i64 a_Until, .int .i64 a_Known], .agg [.int .i64 b_Item, .int .i64 b_Value, .int .i64 b_From, .int .i64 b_Until, .int .i64 b_Known]] ⟨[], 0⟩) = some ⟨none, [], 0, [], .int .i64 (bitemp_cover_1_0 a_Item a_Value a_From a_Until a_Known b_Item b_Value b_From b_Until b_Known)⟩ := by kernel_rfl
noncomputable def bitemp_cover_1_eff : List U → Option Eff
  | [.i a_Item, .i a_Value, .i a_From, .i a_Until, .i a_Known, .i b_Item, .i b_Value, .i b_From, .i b_Until, .i b_Known] => some ⟨none, [], 0, [], .int .i64 (bitemp_cover_1_0 a_Item a_Value a_From a_Until a_Known b_Item b_Value b_From b_Until b_Known)⟩
  | _ => Option.none
noncomputable def B16 : Con := ext Try.prog B15 70 [.agg [.int .i64 0, .int .i64 0, .int .i64 0, .int .i64 0, .int .i64 0], .agg [.int .i64 0, .int .i64 0, .int .i64 0, .int .i64 0, .int .i64 0]] [] bitemp_cover_1_eff
theorem B16_ok : ConOk Try.prog B16 := conOk_ext noSeq_ok B15_ok (n := 9) rfl rfl fun us x h => by
  unfold bitemp_cover_1_eff at h
  split at h
  · cases h; exact ⟨none, bitemp_cover_1_col _ _ _ _ _ _ _ _ _ _, fun _ => trivial⟩
  · cases h
theorem bitemp_Merge_2_col (x_Item x_Value x_From x_Until x_Known y_Item y_Value y_From y_Until y_Known : Int) : collapse Try.prog 0 (execFn Try.prog B16 noSeq 9 56 [.agg [.int .i64 x_Item, .int .i64 x_Value, .int .i64 x_From, .int .i64 x_Until, .int .i64 x_Known], .agg [.int .i64 y_Item, .int .i64 y_Value, .int .i64 y_From, .int .i64 y_Until, .int .i64 y_Known]] ⟨[], 0⟩) = some ⟨none, [], 0, [], .int .i64 (bitemp_Merge_2_0 x_Item x_Value x_From x_Until x_Known y_Item y_Value y_From y_Until y_Known)⟩ := by kernel_rfl
noncomputable def bitemp_Merge_2_eff : List U → Option Eff
  | [.i x_Item, .i x_Value, .i x_From, .i x_Until, .i x_Known, .i y_Item, .i y_Value, .i y_From, .i y_Until, .i y_Known] => some ⟨none, [], 0, [], .int .i64 (bitemp_Merge_2_0 x_Item x_Value x_From x_Until x_Known y_Item y_Value y_From y_Until y_Known)⟩
  | _ => Option.none
noncomputable def B17 : Con := ext Try.prog B16 56 [.agg [.int .i64 0, .int .i64 0, .int .i64 0, .int .i64 0, .int .i64 0], .agg [.int .i64 0, .int .i64 0, .int .i64 0, .int .i64 0, .int .i64 0]] [] bitemp_Merge_2_eff
theorem B17_ok : ConOk Try.prog B17 := conOk_ext noSeq_ok B16_ok (n := 9) rfl rfl fun us x h => by
  unfold bitemp_Merge_2_eff at h
  split at h
  · cases h; exact ⟨none, bitemp_Merge_2_col _ _ _ _ _ _ _ _ _ _, fun _ => trivial⟩
  · cases h
end Go.Proofs.Ytcbgjecpnhjlpaa
