/- Written by program (wip/sygen.py): the contracts of the Go functions. -/
import Derived.Test.YtcbgjecpnhjlpaaRows
import Derived.Test.YtcbgjecpnhjlpaaSyH
import Derived.Test.YtcbgjecpnhjlpaaBitemp1D
import Derived.Test.YtcbgjecpnhjlpaaBitemp1
import Derived.Test.YtcbgjecpnhjlpaaSySo
import Derived.Test.YtcbgjecpnhjlpaaBitempCD
import Derived.Test.YtcbgjecpnhjlpaaBitempC
import Derived.Test.YtcbgjecpnhjlpaaBitempS
import Derived.Test.YtcbgjecpnhjlpaaBitemp2D
import Derived.Test.YtcbgjecpnhjlpaaBitemp2
import Derived.Test.YtcbgjecpnhjlpaaBitemp4D
import Derived.Test.YtcbgjecpnhjlpaaBitemp4
import Derived.Test.YtcbgjecpnhjlpaaBitemp5D
set_option maxRecDepth 100000
set_option linter.unusedVariables false
namespace Go.Proofs.Ytcbgjecpnhjlpaa
open Go Go.Sy
theorem ref27_Time_col (t : Int) : collapse Try.prog 0 (execFn Try.prog B27 noSeq 9 43 [.int .i64 t] ⟨[], 0⟩) = some ⟨none, [], 0, [], .bool (ref27_Time_0 t)⟩ := by kernel_rfl
noncomputable def ref27_Time_eff : List U → Option Eff
  | [.i t] => some ⟨none, [], 0, [], .bool (ref27_Time_0 t)⟩
  | _ => Option.none
noncomputable def B28 : Con := ext Try.prog B27 43 [.int .i64 0] [] ref27_Time_eff
theorem B28_ok : ConOk Try.prog B28 := conOk_ext noSeq_ok B27_ok (n := 9) rfl rfl fun us x h => by
  unfold ref27_Time_eff at h
  split at h
  · cases h; exact ⟨none, ref27_Time_col _, fun _ => trivial⟩
  · cases h
theorem ref27_Item_col (n : Int) : collapse Try.prog 0 (execFn Try.prog B28 noSeq 9 42 [.int .i64 n] ⟨[], 0⟩) = some ⟨none, [], 0, [], .bool (ref27_Item_0 n)⟩ := by kernel_rfl
noncomputable def ref27_Item_eff : List U → Option Eff
  | [.i n] => some ⟨none, [], 0, [], .bool (ref27_Item_0 n)⟩
  | _ => Option.none
noncomputable def B29 : Con := ext Try.prog B28 42 [.int .i64 0] [] ref27_Item_eff
theorem B29_ok : ConOk Try.prog B29 := conOk_ext noSeq_ok B28_ok (n := 9) rfl rfl fun us x h => by
  unfold ref27_Item_eff at h
  split at h
  · cases h; exact ⟨none, ref27_Item_col _, fun _ => trivial⟩
  · cases h
theorem ref27_Value_col (v : Int) : collapse Try.prog 0 (execFn Try.prog B29 noSeq 9 50 [.int .i64 v] ⟨[], 0⟩) = some ⟨none, [], 0, [], .bool (ref27_Value_0 v)⟩ := by kernel_rfl
noncomputable def ref27_Value_eff : List U → Option Eff
  | [.i v] => some ⟨none, [], 0, [], .bool (ref27_Value_0 v)⟩
  | _ => Option.none
noncomputable def B30 : Con := ext Try.prog B29 50 [.int .i64 0] [] ref27_Value_eff
theorem B30_ok : ConOk Try.prog B30 := conOk_ext noSeq_ok B29_ok (n := 9) rfl rfl fun us x h => by
  unfold ref27_Value_eff at h
  split at h
  · cases h; exact ⟨none, ref27_Value_col _, fun _ => trivial⟩
  · cases h
theorem ref27_Row_col (r_Item r_Value r_From r_Until r_Known : Int) : collapse Try.prog 0 (execFn Try.prog B30 noSeq 9 37 [.agg [.int .i64 r_Item, .int .i64 r_Value, .int .i64 r_From, .int .i64 r_Until, .int .i64 r_Known]] ⟨[], 0⟩) = some ⟨none, [], 0, [], .bool (ref27_Row_0 r_Item r_Value r_From r_Until r_Known)⟩ := by kernel_rfl
noncomputable def ref27_Row_eff : List U → Option Eff
  | [.i r_Item, .i r_Value, .i r_From, .i r_Until, .i r_Known] => some ⟨none, [], 0, [], .bool (ref27_Row_0 r_Item r_Value r_From r_Until r_Known)⟩
  | _ => Option.none
noncomputable def B31 : Con := ext Try.prog B30 37 [.agg [.int .i64 0, .int .i64 0, .int .i64 0, .int .i64 0, .int .i64 0]] [] ref27_Row_eff
theorem B31_ok : ConOk Try.prog B31 := conOk_ext noSeq_ok B30_ok (n := 9) rfl rfl fun us x h => by
  unfold ref27_Row_eff at h
  split at h
  · cases h; exact ⟨none, ref27_Row_col _ _ _ _ _, fun _ => trivial⟩
  · cases h
theorem ref27_Valid_col (list : List (List Int)) : collapse Try.prog 1 (execFn Try.prog B31 noSeq 9 13 [.sl 0] ⟨[⟨0, 1, false, .row 24 [.int .i64, .int .i64, .int .i64, .int .i64, .int .i64] list⟩], 1⟩) = some ⟨some (ref27_Valid_pre list), [], 0, [], .bool (ref27_Valid_0 list)⟩ := by kernel_rfl
noncomputable def ref27_Valid_eff : List U → Option Eff
  | [.r list] => some ⟨some (ref27_Valid_pre list), [], 0, [], .bool (ref27_Valid_0 list)⟩
  | _ => Option.none
noncomputable def B32 : Con := ext Try.prog B31 13 [.sl 0] [⟨0, 0, false, .row 24 [.int .i64, .int .i64, .int .i64, .int .i64, .int .i64] []⟩] ref27_Valid_eff
theorem B32_ok : ConOk Try.prog B32 := conOk_ext noSeq_ok B31_ok (n := 9) rfl rfl fun us x h => by
  unfold ref27_Valid_eff at h
  split at h
  · cases h; exact ⟨some (ref27_Valid_pre _), ref27_Valid_col _, fun h => h⟩
  · cases h
theorem ref27_Say_col (r_Item r_Value r_From r_Until r_Known : Int) (list : List (List Int)) : collapse Try.prog 1 (execFn Try.prog B32 noSeq 9 15 [.sl 0, .agg [.int .i64 r_Item, .int .i64 r_Value, .int .i64 r_From, .int .i64 r_Until, .int .i64 r_Known]] ⟨[⟨0, 1, false, .row 24 [.int .i64, .int .i64, .int .i64, .int .i64, .int .i64] list⟩], 1⟩) = some ⟨some (ref27_Say_pre r_Item r_Value r_From r_Until r_Known list), [], 1, [⟨1, 1, true, .row 24 [.int .i64, .int .i64, .int .i64, .int .i64, .int .i64] (ref27_Say_0 r_Item r_Value r_From r_Until r_Known list)⟩], .tup [.sl 1, .int .i64 (ref27_Say_1 r_Item r_Value r_From r_Until r_Known list)]⟩ := by kernel_rfl
noncomputable def ref27_Say_eff : List U → Option Eff
  | [.i r_Item, .i r_Value, .i r_From, .i r_Until, .i r_Known, .r list] => some ⟨some (ref27_Say_pre r_Item r_Value r_From r_Until r_Known list), [], 1, [⟨1, 1, true, .row 24 [.int .i64, .int .i64, .int .i64, .int .i64, .int .i64] (ref27_Say_0 r_Item r_Value r_From r_Until r_Known list)⟩], .tup [.sl 1, .int .i64 (ref27_Say_1 r_Item r_Value r_From r_Until r_Known list)]⟩
  | _ => Option.none
noncomputable def B33 : Con := ext Try.prog B32 15 [.sl 0, .agg [.int .i64 0, .int .i64 0, .int .i64 0, .int .i64 0, .int .i64 0]] [⟨0, 0, false, .row 24 [.int .i64, .int .i64, .int .i64, .int .i64, .int .i64] []⟩] ref27_Say_eff
theorem B33_ok : ConOk Try.prog B33 := conOk_ext noSeq_ok B32_ok (n := 9) rfl rfl fun us x h => by
  unfold ref27_Say_eff at h
  split at h
  · cases h; exact ⟨some (ref27_Say_pre _ _ _ _ _ _), ref27_Say_col _ _ _ _ _ _, fun h => h⟩
  · cases h
theorem ref27_at_col (item time known : Int) (list : List (List Int)) : collapse Try.prog 1 (execFn Try.prog B33 noSeq 9 44 [.sl 0, .int .i64 item, .int .i64 time, .int .i64 known] ⟨[⟨0, 1, false, .row 24 [.int .i64, .int .i64, .int .i64, .int .i64, .int .i64] list⟩], 1⟩) = some ⟨some (ref27_at_pre item time known list), [], 0, [], .tup [.int .i64 (ref27_at_0 item time known list), .bool (ref27_at_1 item time known list)]⟩ := by kernel_rfl
noncomputable def ref27_at_eff : List U → Option Eff
  | [.i item, .i time, .i known, .r list] => some ⟨some (ref27_at_pre item time known list), [], 0, [], .tup [.int .i64 (ref27_at_0 item time known list), .bool (ref27_at_1 item time known list)]⟩
  | _ => Option.none
noncomputable def B34 : Con := ext Try.prog B33 44 [.sl 0, .int .i64 0, .int .i64 0, .int .i64 0] [⟨0, 0, false, .row 24 [.int .i64, .int .i64, .int .i64, .int .i64, .int .i64] []⟩] ref27_at_eff
theorem B34_ok : ConOk Try.prog B34 := conOk_ext noSeq_ok B33_ok (n := 9) rfl rfl fun us x h => by
  unfold ref27_at_eff at h
  split at h
  · cases h; exact ⟨some (ref27_at_pre _ _ _ _), ref27_at_col _ _ _ _, fun h => h⟩
  · cases h
theorem ref27_At_col (item time known : Int) (list : List (List Int)) : collapse Try.prog 1 (execFn Try.prog B34 noSeq 9 18 [.sl 0, .int .i64 item, .int .i64 time, .int .i64 known] ⟨[⟨0, 1, false, .row 24 [.int .i64, .int .i64, .int .i64, .int .i64, .int .i64] list⟩], 1⟩) = some ⟨some (ref27_At_pre item time known list), [], 0, [], .tup [.int .i64 (ref27_At_0 item time known list), .int .i64 (ref27_At_1 item time known list)]⟩ := by kernel_rfl
noncomputable def ref27_At_eff : List U → Option Eff
  | [.i item, .i time, .i known, .r list] => some ⟨some (ref27_At_pre item time known list), [], 0, [], .tup [.int .i64 (ref27_At_0 item time known list), .int .i64 (ref27_At_1 item time known list)]⟩
  | _ => Option.none
noncomputable def B35 : Con := ext Try.prog B34 18 [.sl 0, .int .i64 0, .int .i64 0, .int .i64 0] [⟨0, 0, false, .row 24 [.int .i64, .int .i64, .int .i64, .int .i64, .int .i64] []⟩] ref27_At_eff
theorem B35_ok : ConOk Try.prog B35 := conOk_ext noSeq_ok B34_ok (n := 9) rfl rfl fun us x h => by
  unfold ref27_At_eff at h
  split at h
  · cases h; exact ⟨some (ref27_At_pre _ _ _ _), ref27_At_col _ _ _ _, fun h => h⟩
  · cases h
theorem ref27_put_col (n : Int) (l : List (List Int)) : collapse Try.prog 1 (execFn Try.prog B35 noSeq 9 47 [.sl 0, .int .i64 n] ⟨[⟨0, 1, false, .row 3 [.int .i64] l⟩], 1⟩) = some ⟨some (ref27_put_pre n l), [], 1, [⟨1, 1, true, .row 3 [.int .i64] (ref27_put_0 n l)⟩], .sl 1⟩ := by kernel_rfl
noncomputable def ref27_put_eff : List U → Option Eff
  | [.i n, .r l] => some ⟨some (ref27_put_pre n l), [], 1, [⟨1, 1, true, .row 3 [.int .i64] (ref27_put_0 n l)⟩], .sl 1⟩
  | _ => Option.none
noncomputable def B36 : Con := ext Try.prog B35 47 [.sl 0, .int .i64 0] [⟨0, 0, false, .row 3 [.int .i64] []⟩] ref27_put_eff
theorem B36_ok : ConOk Try.prog B36 := conOk_ext noSeq_ok B35_ok (n := 9) rfl rfl fun us x h => by
  unfold ref27_put_eff at h
  split at h
  · cases h; exact ⟨some (ref27_put_pre _ _), ref27_put_col _ _, fun h => h⟩
  · cases h
theorem ref27_ends_col (item : Int) (list : List (List Int)) : collapse Try.prog 1 (execFn Try.prog B36 noSeq 9 46 [.sl 0, .int .i64 item] ⟨[⟨0, 1, false, .row 24 [.int .i64, .int .i64, .int .i64, .int .i64, .int .i64] list⟩], 1⟩) = some ⟨some (ref27_ends_pre item list), [], 1, [⟨1, 1, true, .row 3 [.int .i64] (ref27_ends_0 item list)⟩], .sl 1⟩ := by kernel_rfl
noncomputable def ref27_ends_eff : List U → Option Eff
  | [.i item, .r list] => some ⟨some (ref27_ends_pre item list), [], 1, [⟨1, 1, true, .row 3 [.int .i64] (ref27_ends_0 item list)⟩], .sl 1⟩
  | _ => Option.none
noncomputable def B37 : Con := ext Try.prog B36 46 [.sl 0, .int .i64 0] [⟨0, 0, false, .row 24 [.int .i64, .int .i64, .int .i64, .int .i64, .int .i64] []⟩] ref27_ends_eff
theorem B37_ok : ConOk Try.prog B37 := conOk_ext noSeq_ok B36_ok (n := 9) rfl rfl fun us x h => by
  unfold ref27_ends_eff at h
  split at h
  · cases h; exact ⟨some (ref27_ends_pre _ _), ref27_ends_col _ _, fun h => h⟩
  · cases h
theorem ref27_History_col (item known : Int) (list : List (List Int)) : collapse Try.prog 1 (execFn Try.prog B37 noSeq 9 20 [.sl 0, .int .i64 item, .int .i64 known] ⟨[⟨0, 1, false, .row 24 [.int .i64, .int .i64, .int .i64, .int .i64, .int .i64] list⟩], 1⟩) = some ⟨some (ref27_History_pre item known list), [], 1, [⟨1, 1, true, .row 24 [.int .i64, .int .i64, .int .i64, .int .i64, .int .i64] (ref27_History_0 item known list)⟩], .tup [.sl 1, .int .i64 (ref27_History_1 item known list)]⟩ := by kernel_rfl
noncomputable def ref27_History_eff : List U → Option Eff
  | [.i item, .i known, .r list] => some ⟨some (ref27_History_pre item known list), [], 1, [⟨1, 1, true, .row 24 [.int .i64, .int .i64, .int .i64, .int .i64, .int .i64] (ref27_History_0 item known list)⟩], .tup [.sl 1, .int .i64 (ref27_History_1 item known list)]⟩
  | _ => Option.none
noncomputable def B38 : Con := ext Try.prog B37 20 [.sl 0, .int .i64 0, .int .i64 0] [⟨0, 0, false, .row 24 [.int .i64, .int .i64, .int .i64, .int .i64, .int .i64] []⟩] ref27_History_eff
theorem B38_ok : ConOk Try.prog B38 := conOk_ext noSeq_ok B37_ok (n := 9) rfl rfl fun us x h => by
  unfold ref27_History_eff at h
  split at h
  · cases h; exact ⟨some (ref27_History_pre _ _ _), ref27_History_col _ _ _, fun h => h⟩
  · cases h
theorem ref27_Changed_col (item time : Int) (list : List (List Int)) : collapse Try.prog 1 (execFn Try.prog B38 noSeq 9 22 [.sl 0, .int .i64 item, .int .i64 time] ⟨[⟨0, 1, false, .row 24 [.int .i64, .int .i64, .int .i64, .int .i64, .int .i64] list⟩], 1⟩) = some ⟨some (ref27_Changed_pre item time list), [], 1, [⟨1, 1, true, .row 3 [.int .i64] (ref27_Changed_0 item time list)⟩], .tup [.sl 1, .int .i64 (ref27_Changed_1 item time list)]⟩ := by kernel_rfl
noncomputable def ref27_Changed_eff : List U → Option Eff
  | [.i item, .i time, .r list] => some ⟨some (ref27_Changed_pre item time list), [], 1, [⟨1, 1, true, .row 3 [.int .i64] (ref27_Changed_0 item time list)⟩], .tup [.sl 1, .int .i64 (ref27_Changed_1 item time list)]⟩
  | _ => Option.none
noncomputable def B39 : Con := ext Try.prog B38 22 [.sl 0, .int .i64 0, .int .i64 0] [⟨0, 0, false, .row 24 [.int .i64, .int .i64, .int .i64, .int .i64, .int .i64] []⟩] ref27_Changed_eff
theorem B39_ok : ConOk Try.prog B39 := conOk_ext noSeq_ok B38_ok (n := 9) rfl rfl fun us x h => by
  unfold ref27_Changed_eff at h
  split at h
  · cases h; exact ⟨some (ref27_Changed_pre _ _ _), ref27_Changed_col _ _ _, fun h => h⟩
  · cases h
theorem ref27_all_col (item from_ until_ value known : Int) (list : List (List Int)) : collapse Try.prog 1 (execFn Try.prog B39 noSeq 9 51 [.sl 0, .int .i64 item, .int .i64 from_, .int .i64 until_, .int .i64 value, .int .i64 known] ⟨[⟨0, 1, false, .row 24 [.int .i64, .int .i64, .int .i64, .int .i64, .int .i64] list⟩], 1⟩) = some ⟨some (ref27_all_pre item from_ until_ value known list), [], 0, [], .bool (ref27_all_0 item from_ until_ value known list)⟩ := by kernel_rfl
noncomputable def ref27_all_eff : List U → Option Eff
  | [.i item, .i from_, .i until_, .i value, .i known, .r list] => some ⟨some (ref27_all_pre item from_ until_ value known list), [], 0, [], .bool (ref27_all_0 item from_ until_ value known list)⟩
  | _ => Option.none
noncomputable def B40 : Con := ext Try.prog B39 51 [.sl 0, .int .i64 0, .int .i64 0, .int .i64 0, .int .i64 0, .int .i64 0] [⟨0, 0, false, .row 24 [.int .i64, .int .i64, .int .i64, .int .i64, .int .i64] []⟩] ref27_all_eff
theorem B40_ok : ConOk Try.prog B40 := conOk_ext noSeq_ok B39_ok (n := 9) rfl rfl fun us x h => by
  unfold ref27_all_eff at h
  split at h
  · cases h; exact ⟨some (ref27_all_pre _ _ _ _ _ _), ref27_all_col _ _ _ _ _ _, fun h => h⟩
  · cases h
theorem ref27_Knew_col (item from_ until_ value : Int) (list : List (List Int)) : collapse Try.prog 1 (execFn Try.prog B40 noSeq 9 25 [.sl 0, .int .i64 item, .int .i64 from_, .int .i64 until_, .int .i64 value] ⟨[⟨0, 1, false, .row 24 [.int .i64, .int .i64, .int .i64, .int .i64, .int .i64] list⟩], 1⟩) = some ⟨some (ref27_Knew_pre item from_ until_ value list), [], 0, [], .tup [.int .i64 (ref27_Knew_0 item from_ until_ value list), .int .i64 (ref27_Knew_1 item from_ until_ value list)]⟩ := by kernel_rfl
noncomputable def ref27_Knew_eff : List U → Option Eff
  | [.i item, .i from_, .i until_, .i value, .r list] => some ⟨some (ref27_Knew_pre item from_ until_ value list), [], 0, [], .tup [.int .i64 (ref27_Knew_0 item from_ until_ value list), .int .i64 (ref27_Knew_1 item from_ until_ value list)]⟩
  | _ => Option.none
noncomputable def B41 : Con := ext Try.prog B40 25 [.sl 0, .int .i64 0, .int .i64 0, .int .i64 0, .int .i64 0] [⟨0, 0, false, .row 24 [.int .i64, .int .i64, .int .i64, .int .i64, .int .i64] []⟩] ref27_Knew_eff
theorem B41_ok : ConOk Try.prog B41 := conOk_ext noSeq_ok B40_ok (n := 9) rfl rfl fun us x h => by
  unfold ref27_Knew_eff at h
  split at h
  · cases h; exact ⟨some (ref27_Knew_pre _ _ _ _ _), ref27_Knew_col _ _ _ _ _, fun h => h⟩
  · cases h
theorem ref27_lie_col (a_Item a_Value a_From a_Until a_Known b_Item b_Value b_From b_Until b_Known : Int) : collapse Try.prog 0 (execFn Try.prog B41 noSeq 9 57 [.agg [.int .i64 a_Item, .int .i64 a_Value, .int .i64 a_From, .int .i64 a_Until, .int .i64 a_Known], .agg [.int .i64 b_Item, .int .i64 b_Value, .int .i64 b_From, .int .i64 b_Until, .int .i64 b_Known]] ⟨[], 0⟩) = some ⟨none, [], 0, [], .bool (ref27_lie_0 a_Item a_Value a_From a_Until a_Known b_Item b_Value b_From b_Until b_Known)⟩ := by kernel_rfl
noncomputable def ref27_lie_eff : List U → Option Eff
  | [.i a_Item, .i a_Value, .i a_From, .i a_Until, .i a_Known, .i b_Item, .i b_Value, .i b_From, .i b_Until, .i b_Known] => some ⟨none, [], 0, [], .bool (ref27_lie_0 a_Item a_Value a_From a_Until a_Known b_Item b_Value b_From b_Until b_Known)⟩
  | _ => Option.none
noncomputable def B42 : Con := ext Try.prog B41 57 [.agg [.int .i64 0, .int .i64 0, .int .i64 0, .int .i64 0, .int .i64 0], .agg [.int .i64 0, .int .i64 0, .int .i64 0, .int .i64 0, .int .i64 0]] [] ref27_lie_eff
theorem B42_ok : ConOk Try.prog B42 := conOk_ext noSeq_ok B41_ok (n := 9) rfl rfl fun us x h => by
  unfold ref27_lie_eff at h
  split at h
  · cases h; exact ⟨none, ref27_lie_col _ _ _ _ _ _ _ _ _ _, fun _ => trivial⟩
  · cases h
theorem ref27_Merge_col (a b : List (List Int)) : collapse Try.prog 2 (execFn Try.prog B42 noSeq 9 27 [.sl 0, .sl 1] ⟨[⟨0, 2, false, .row 24 [.int .i64, .int .i64, .int .i64, .int .i64, .int .i64] a⟩, ⟨1, 2, false, .row 24 [.int .i64, .int .i64, .int .i64, .int .i64, .int .i64] b⟩], 2⟩) = some ⟨some (ref27_Merge_pre a b), [], 1, [⟨2, 2, true, .row 24 [.int .i64, .int .i64, .int .i64, .int .i64, .int .i64] (ref27_Merge_0 a b)⟩], .tup [.sl 2, .int .i64 (ref27_Merge_1 a b)]⟩ := by kernel_rfl
noncomputable def ref27_Merge_eff : List U → Option Eff
  | [.r a, .r b] => some ⟨some (ref27_Merge_pre a b), [], 1, [⟨2, 2, true, .row 24 [.int .i64, .int .i64, .int .i64, .int .i64, .int .i64] (ref27_Merge_0 a b)⟩], .tup [.sl 2, .int .i64 (ref27_Merge_1 a b)]⟩
  | _ => Option.none
noncomputable def B43 : Con := ext Try.prog B42 27 [.sl 0, .sl 1] [⟨0, 0, false, .row 24 [.int .i64, .int .i64, .int .i64, .int .i64, .int .i64] []⟩, ⟨1, 0, false, .row 24 [.int .i64, .int .i64, .int .i64, .int .i64, .int .i64] []⟩] ref27_Merge_eff
theorem B43_ok : ConOk Try.prog B43 := conOk_ext noSeq_ok B42_ok (n := 9) rfl rfl fun us x h => by
  unfold ref27_Merge_eff at h
  split at h
  · cases h; exact ⟨some (ref27_Merge_pre _ _), ref27_Merge_col _ _, fun h => h⟩
  · cases h
theorem law27_BitempMatchesReference_col (r_Item r_Value r_From r_Until r_Known item time known value : Int) (list other : List (List Int)) : collapse Try.prog 2 (execFn Try.prog B43 noSeq 9 3 [.sl 0, .sl 1, .agg [.int .i64 r_Item, .int .i64 r_Value, .int .i64 r_From, .int .i64 r_Until, .int .i64 r_Known], .int .i64 item, .int .i64 time, .int .i64 known, .int .i64 value] ⟨[⟨0, 2, false, .row 24 [.int .i64, .int .i64, .int .i64, .int .i64, .int .i64] list⟩, ⟨1, 2, false, .row 24 [.int .i64, .int .i64, .int .i64, .int .i64, .int .i64] other⟩], 2⟩) = some ⟨some (law27_BitempMatchesReference_pre r_Item r_Value r_From r_Until r_Known item time known value list other), [], 0, [], .bool (law27_BitempMatchesReference_0 r_Item r_Value r_From r_Until r_Known item time known value list other)⟩ := by kernel_rfl
noncomputable def law27_BitempMatchesReference_eff : List U → Option Eff
  | [.i r_Item, .i r_Value, .i r_From, .i r_Until, .i r_Known, .i item, .i time, .i known, .i value, .r list, .r other] => some ⟨some (law27_BitempMatchesReference_pre r_Item r_Value r_From r_Until r_Known item time known value list other), [], 0, [], .bool (law27_BitempMatchesReference_0 r_Item r_Value r_From r_Until r_Known item time known value list other)⟩
  | _ => Option.none
noncomputable def B44 : Con := ext Try.prog B43 3 [.sl 0, .sl 1, .agg [.int .i64 0, .int .i64 0, .int .i64 0, .int .i64 0, .int .i64 0], .int .i64 0, .int .i64 0, .int .i64 0, .int .i64 0] [⟨0, 0, false, .row 24 [.int .i64, .int .i64, .int .i64, .int .i64, .int .i64] []⟩, ⟨1, 0, false, .row 24 [.int .i64, .int .i64, .int .i64, .int .i64, .int .i64] []⟩] law27_BitempMatchesReference_eff
theorem B44_ok : ConOk Try.prog B44 := conOk_ext noSeq_ok B43_ok (n := 9) rfl rfl fun us x h => by
  unfold law27_BitempMatchesReference_eff at h
  split at h
  · cases h; exact ⟨some (law27_BitempMatchesReference_pre _ _ _ _ _ _ _ _ _ _ _), law27_BitempMatchesReference_col _ _ _ _ _ _ _ _ _ _ _, fun h => h⟩
  · cases h
end Go.Proofs.Ytcbgjecpnhjlpaa
