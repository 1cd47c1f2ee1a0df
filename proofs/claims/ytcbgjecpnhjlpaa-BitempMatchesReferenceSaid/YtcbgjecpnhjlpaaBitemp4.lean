/- Written by program (wip/sygen.py): the contracts of the Go functions. -/
import Derived.Test.YtcbgjecpnhjlpaaRows
import Derived.Test.YtcbgjecpnhjlpaaSyH
import Derived.Test.YtcbgjecpnhjlpaaBitemp1D
import Derived.Test.YtcbgjecpnhjlpaaBitemp1
import Derived.Test.YtcbgjecpnhjlpaaSySo
import Derived.Test.YtcbgjecpnhjlpaaBitempCD
import Derived.Test.YtcbgjecpnhjlpaaBitempC
import Derived.Test.YtcbgjecpnhjlpaaBitempS
import Derived.Test.YtcbgjecpnhjlpaaBitemp2D
import Derived.Test.YtcbgjecpnhjlpaaBitemp2
import Derived.Test.YtcbgjecpnhjlpaaBitemp4D
set_option maxRecDepth 100000
set_option linter.unusedVariables false
namespace Go.Proofs.Ytcbgjecpnhjlpaa
open Go Go.Sy
theorem law27_head_col  : collapse Try.prog 0 (execFn Try.prog B25 noSeq 9 11 [] ⟨[], 0⟩) = some ⟨some (law27_head_pre), [], 0, [], .bool (law27_head_0)⟩ := by kernel_rfl
noncomputable def law27_head_eff : List U → Option Eff
  | [] => some ⟨some (law27_head_pre), [], 0, [], .bool (law27_head_0)⟩
  | _ => Option.none
noncomputable def B26 : Con := ext Try.prog B25 11 [] [] law27_head_eff
theorem B26_ok : ConOk Try.prog B26 := conOk_ext noSeq_ok B25_ok (n := 9) rfl rfl fun us x h => by
  unfold law27_head_eff at h
  split at h
  · cases h; exact ⟨some (law27_head_pre), law27_head_col, fun h => h⟩
  · cases h
theorem law27_BitempMerged_col (item time known : Int) (a b : List (List Int)) : collapse Try.prog 2 (execFn Try.prog B26 noSeq 9 9 [.sl 0, .sl 1, .int .i64 item, .int .i64 time, .int .i64 known] ⟨[⟨0, 2, false, .row 24 [.int .i64, .int .i64, .int .i64, .int .i64, .int .i64] a⟩, ⟨1, 2, false, .row 24 [.int .i64, .int .i64, .int .i64, .int .i64, .int .i64] b⟩], 2⟩) = some ⟨some (law27_BitempMerged_pre item time known a b), [], 0, [], .bool (law27_BitempMerged_0 item time known a b)⟩ := by kernel_rfl
noncomputable def law27_BitempMerged_eff : List U → Option Eff
  | [.i item, .i time, .i known, .r a, .r b] => some ⟨some (law27_BitempMerged_pre item time known a b), [], 0, [], .bool (law27_BitempMerged_0 item time known a b)⟩
  | _ => Option.none
noncomputable def B27 : Con := ext Try.prog B26 9 [.sl 0, .sl 1, .int .i64 0, .int .i64 0, .int .i64 0] [⟨0, 0, false, .row 24 [.int .i64, .int .i64, .int .i64, .int .i64, .int .i64] []⟩, ⟨1, 0, false, .row 24 [.int .i64, .int .i64, .int .i64, .int .i64, .int .i64] []⟩] law27_BitempMerged_eff
theorem B27_ok : ConOk Try.prog B27 := conOk_ext noSeq_ok B26_ok (n := 9) rfl rfl fun us x h => by
  unfold law27_BitempMerged_eff at h
  split at h
  · cases h; exact ⟨some (law27_BitempMerged_pre _ _ _ _ _), law27_BitempMerged_col _ _ _ _ _, fun h => h⟩
  · cases h
end Go.Proofs.Ytcbgjecpnhjlpaa
