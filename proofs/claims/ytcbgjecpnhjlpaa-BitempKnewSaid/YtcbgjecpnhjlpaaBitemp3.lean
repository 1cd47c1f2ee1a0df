/- Written by program (wip/sygen.py): the contracts of the Go functions. -/
import Derived.Test.YtcbgjecpnhjlpaaRows
import Derived.Test.YtcbgjecpnhjlpaaSyH
import Derived.Test.YtcbgjecpnhjlpaaBitemp1D
import Derived.Test.YtcbgjecpnhjlpaaBitemp1
import Derived.Test.YtcbgjecpnhjlpaaSySo
import Derived.Test.YtcbgjecpnhjlpaaBitempCD
import Derived.Test.YtcbgjecpnhjlpaaBitempC
import Derived.Test.YtcbgjecpnhjlpaaBitempS
import Derived.Test.YtcbgjecpnhjlpaaBitemp2D
import Derived.Test.YtcbgjecpnhjlpaaBitemp2
import Derived.Test.YtcbgjecpnhjlpaaBitemp3D
set_option maxRecDepth 100000
set_option linter.unusedVariables false
namespace Go.Proofs.Ytcbgjecpnhjlpaa
open Go Go.Sy
theorem law27_head_col  : collapse Try.prog 0 (execFn Try.prog B25 9 11 [] ⟨[], 0⟩) = some ⟨some (law27_head_pre), [], 0, [], .bool (law27_head_0)⟩ := by kernel_rfl
noncomputable def law27_head_eff : List U → Option Eff
  | [] => some ⟨some (law27_head_pre), [], 0, [], .bool (law27_head_0)⟩
  | _ => Option.none
noncomputable def B26 : Con := ext Try.prog B25 11 [] [] law27_head_eff
theorem B26_ok : ConOk Try.prog B26 := conOk_ext B25_ok (n := 9) rfl rfl fun us x h => by
  unfold law27_head_eff at h
  split at h
  · cases h; exact ⟨some (law27_head_pre), law27_head_col, fun h => h⟩
  · cases h
theorem law27_BitempNever_col (r_Item r_Value r_From r_Until r_Known item time known : Int) (list : List (List Int)) : collapse Try.prog 1 (execFn Try.prog B26 9 4 [.sl 0, .agg [.int .i64 r_Item, .int .i64 r_Value, .int .i64 r_From, .int .i64 r_Until, .int .i64 r_Known], .int .i64 item, .int .i64 time, .int .i64 known] ⟨[⟨0, 1, false, .row 24 [.int .i64, .int .i64, .int .i64, .int .i64, .int .i64] list⟩], 1⟩) = some ⟨some (law27_BitempNever_pre r_Item r_Value r_From r_Until r_Known item time known list), [], 0, [], .bool (law27_BitempNever_0 r_Item r_Value r_From r_Until r_Known item time known list)⟩ := by kernel_rfl
noncomputable def law27_BitempNever_eff : List U → Option Eff
  | [.i r_Item, .i r_Value, .i r_From, .i r_Until, .i r_Known, .i item, .i time, .i known, .r list] => some ⟨some (law27_BitempNever_pre r_Item r_Value r_From r_Until r_Known item time known list), [], 0, [], .bool (law27_BitempNever_0 r_Item r_Value r_From r_Until r_Known item time known list)⟩
  | _ => Option.none
noncomputable def B27 : Con := ext Try.prog B26 4 [.sl 0, .agg [.int .i64 0, .int .i64 0, .int .i64 0, .int .i64 0, .int .i64 0], .int .i64 0, .int .i64 0, .int .i64 0] [⟨0, 0, false, .row 24 [.int .i64, .int .i64, .int .i64, .int .i64, .int .i64] []⟩] law27_BitempNever_eff
theorem B27_ok : ConOk Try.prog B27 := conOk_ext B26_ok (n := 9) rfl rfl fun us x h => by
  unfold law27_BitempNever_eff at h
  split at h
  · cases h; exact ⟨some (law27_BitempNever_pre _ _ _ _ _ _ _ _ _), law27_BitempNever_col _ _ _ _ _ _ _ _ _, fun h => h⟩
  · cases h
theorem law27_BitempSaid_col (r_Item r_Value r_From r_Until r_Known item time known : Int) (list : List (List Int)) : collapse Try.prog 1 (execFn Try.prog B27 9 5 [.sl 0, .agg [.int .i64 r_Item, .int .i64 r_Value, .int .i64 r_From, .int .i64 r_Until, .int .i64 r_Known], .int .i64 item, .int .i64 time, .int .i64 known] ⟨[⟨0, 1, false, .row 24 [.int .i64, .int .i64, .int .i64, .int .i64, .int .i64] list⟩], 1⟩) = some ⟨some (law27_BitempSaid_pre r_Item r_Value r_From r_Until r_Known item time known list), [], 0, [], .bool (law27_BitempSaid_0 r_Item r_Value r_From r_Until r_Known item time known list)⟩ := by kernel_rfl
noncomputable def law27_BitempSaid_eff : List U → Option Eff
  | [.i r_Item, .i r_Value, .i r_From, .i r_Until, .i r_Known, .i item, .i time, .i known, .r list] => some ⟨some (law27_BitempSaid_pre r_Item r_Value r_From r_Until r_Known item time known list), [], 0, [], .bool (law27_BitempSaid_0 r_Item r_Value r_From r_Until r_Known item time known list)⟩
  | _ => Option.none
noncomputable def B28 : Con := ext Try.prog B27 5 [.sl 0, .agg [.int .i64 0, .int .i64 0, .int .i64 0, .int .i64 0, .int .i64 0], .int .i64 0, .int .i64 0, .int .i64 0] [⟨0, 0, false, .row 24 [.int .i64, .int .i64, .int .i64, .int .i64, .int .i64] []⟩] law27_BitempSaid_eff
theorem B28_ok : ConOk Try.prog B28 := conOk_ext B27_ok (n := 9) rfl rfl fun us x h => by
  unfold law27_BitempSaid_eff at h
  split at h
  · cases h; exact ⟨some (law27_BitempSaid_pre _ _ _ _ _ _ _ _ _), law27_BitempSaid_col _ _ _ _ _ _ _ _ _, fun h => h⟩
  · cases h
theorem law27_BitempHistory_col (item time known : Int) (list : List (List Int)) : collapse Try.prog 1 (execFn Try.prog B28 9 6 [.sl 0, .int .i64 item, .int .i64 time, .int .i64 known] ⟨[⟨0, 1, false, .row 24 [.int .i64, .int .i64, .int .i64, .int .i64, .int .i64] list⟩], 1⟩) = some ⟨some (law27_BitempHistory_pre item time known list), [], 0, [], .bool (law27_BitempHistory_0 item time known list)⟩ := by kernel_rfl
noncomputable def law27_BitempHistory_eff : List U → Option Eff
  | [.i item, .i time, .i known, .r list] => some ⟨some (law27_BitempHistory_pre item time known list), [], 0, [], .bool (law27_BitempHistory_0 item time known list)⟩
  | _ => Option.none
noncomputable def B29 : Con := ext Try.prog B28 6 [.sl 0, .int .i64 0, .int .i64 0, .int .i64 0] [⟨0, 0, false, .row 24 [.int .i64, .int .i64, .int .i64, .int .i64, .int .i64] []⟩] law27_BitempHistory_eff
theorem B29_ok : ConOk Try.prog B29 := conOk_ext B28_ok (n := 9) rfl rfl fun us x h => by
  unfold law27_BitempHistory_eff at h
  split at h
  · cases h; exact ⟨some (law27_BitempHistory_pre _ _ _ _), law27_BitempHistory_col _ _ _ _, fun h => h⟩
  · cases h
theorem law27_BitempChanged_col (item time one two : Int) (list : List (List Int)) : collapse Try.prog 1 (execFn Try.prog B29 9 7 [.sl 0, .int .i64 item, .int .i64 time, .int .i64 one, .int .i64 two] ⟨[⟨0, 1, false, .row 24 [.int .i64, .int .i64, .int .i64, .int .i64, .int .i64] list⟩], 1⟩) = some ⟨some (law27_BitempChanged_pre item time one two list), [], 0, [], .bool (law27_BitempChanged_0 item time one two list)⟩ := by kernel_rfl
noncomputable def law27_BitempChanged_eff : List U → Option Eff
  | [.i item, .i time, .i one, .i two, .r list] => some ⟨some (law27_BitempChanged_pre item time one two list), [], 0, [], .bool (law27_BitempChanged_0 item time one two list)⟩
  | _ => Option.none
noncomputable def B30 : Con := ext Try.prog B29 7 [.sl 0, .int .i64 0, .int .i64 0, .int .i64 0, .int .i64 0] [⟨0, 0, false, .row 24 [.int .i64, .int .i64, .int .i64, .int .i64, .int .i64] []⟩] law27_BitempChanged_eff
theorem B30_ok : ConOk Try.prog B30 := conOk_ext B29_ok (n := 9) rfl rfl fun us x h => by
  unfold law27_BitempChanged_eff at h
  split at h
  · cases h; exact ⟨some (law27_BitempChanged_pre _ _ _ _ _), law27_BitempChanged_col _ _ _ _ _, fun h => h⟩
  · cases h
theorem law27_BitempKnew_col (item from_ until_ value time known : Int) (list : List (List Int)) : collapse Try.prog 1 (execFn Try.prog B30 9 8 [.sl 0, .int .i64 item, .int .i64 from_, .int .i64 until_, .int .i64 value, .int .i64 time, .int .i64 known] ⟨[⟨0, 1, false, .row 24 [.int .i64, .int .i64, .int .i64, .int .i64, .int .i64] list⟩], 1⟩) = some ⟨some (law27_BitempKnew_pre item from_ until_ value time known list), [], 0, [], .bool (law27_BitempKnew_0 item from_ until_ value time known list)⟩ := by kernel_rfl
noncomputable def law27_BitempKnew_eff : List U → Option Eff
  | [.i item, .i from_, .i until_, .i value, .i time, .i known, .r list] => some ⟨some (law27_BitempKnew_pre item from_ until_ value time known list), [], 0, [], .bool (law27_BitempKnew_0 item from_ until_ value time known list)⟩
  | _ => Option.none
noncomputable def B31 : Con := ext Try.prog B30 8 [.sl 0, .int .i64 0, .int .i64 0, .int .i64 0, .int .i64 0, .int .i64 0, .int .i64 0] [⟨0, 0, false, .row 24 [.int .i64, .int .i64, .int .i64, .int .i64, .int .i64] []⟩] law27_BitempKnew_eff
theorem B31_ok : ConOk Try.prog B31 := conOk_ext B30_ok (n := 9) rfl rfl fun us x h => by
  unfold law27_BitempKnew_eff at h
  split at h
  · cases h; exact ⟨some (law27_BitempKnew_pre _ _ _ _ _ _ _), law27_BitempKnew_col _ _ _ _ _ _ _, fun h => h⟩
  · cases h
theorem law27_BitempItems_col (item time known : Int) (list : List (List Int)) : collapse Try.prog 1 (execFn Try.prog B31 9 10 [.sl 0, .int .i64 item, .int .i64 time, .int .i64 known] ⟨[⟨0, 1, false, .row 24 [.int .i64, .int .i64, .int .i64, .int .i64, .int .i64] list⟩], 1⟩) = some ⟨some (law27_BitempItems_pre item time known list), [], 0, [], .bool (law27_BitempItems_0 item time known list)⟩ := by kernel_rfl
noncomputable def law27_BitempItems_eff : List U → Option Eff
  | [.i item, .i time, .i known, .r list] => some ⟨some (law27_BitempItems_pre item time known list), [], 0, [], .bool (law27_BitempItems_0 item time known list)⟩
  | _ => Option.none
noncomputable def B32 : Con := ext Try.prog B31 10 [.sl 0, .int .i64 0, .int .i64 0, .int .i64 0] [⟨0, 0, false, .row 24 [.int .i64, .int .i64, .int .i64, .int .i64, .int .i64] []⟩] law27_BitempItems_eff
theorem B32_ok : ConOk Try.prog B32 := conOk_ext B31_ok (n := 9) rfl rfl fun us x h => by
  unfold law27_BitempItems_eff at h
  split at h
  · cases h; exact ⟨some (law27_BitempItems_pre _ _ _ _), law27_BitempItems_col _ _ _ _, fun h => h⟩
  · cases h
end Go.Proofs.Ytcbgjecpnhjlpaa
