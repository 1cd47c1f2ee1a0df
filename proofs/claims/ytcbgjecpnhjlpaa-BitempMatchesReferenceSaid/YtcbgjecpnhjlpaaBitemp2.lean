/- Written by program (wip/sygen.py): the contracts of the Go functions. -/
import Derived.Test.YtcbgjecpnhjlpaaRows
import Derived.Test.YtcbgjecpnhjlpaaSyH
import Derived.Test.YtcbgjecpnhjlpaaBitemp1D
import Derived.Test.YtcbgjecpnhjlpaaBitemp1
import Derived.Test.YtcbgjecpnhjlpaaSySo
import Derived.Test.YtcbgjecpnhjlpaaBitempCD
import Derived.Test.YtcbgjecpnhjlpaaBitempC
import Derived.Test.YtcbgjecpnhjlpaaBitempS
import Derived.Test.YtcbgjecpnhjlpaaBitemp2D
set_option maxRecDepth 100000
set_option linter.unusedVariables false
namespace Go.Proofs.Ytcbgjecpnhjlpaa
open Go Go.Sy
theorem bitemp_cover_col (r_Item r_Value r_From r_Until r_Known : Int) (h : List (List Int)) : collapse Try.prog 1 (execFn Try.prog B19 noSeq 9 63 [.sl 0, .agg [.int .i64 r_Item, .int .i64 r_Value, .int .i64 r_From, .int .i64 r_Until, .int .i64 r_Known]] ⟨[⟨0, 1, false, .row 24 [.int .i64, .int .i64, .int .i64, .int .i64, .int .i64] h⟩], 1⟩) = some ⟨some (bitemp_cover_pre r_Item r_Value r_From r_Until r_Known h), [], 1, [⟨1, 1, true, .row 24 [.int .i64, .int .i64, .int .i64, .int .i64, .int .i64] (bitemp_cover_0 r_Item r_Value r_From r_Until r_Known h)⟩], .sl 1⟩ := by kernel_rfl
noncomputable def bitemp_cover_eff : List U → Option Eff
  | [.i r_Item, .i r_Value, .i r_From, .i r_Until, .i r_Known, .r h] => some ⟨some (bitemp_cover_pre r_Item r_Value r_From r_Until r_Known h), [], 1, [⟨1, 1, true, .row 24 [.int .i64, .int .i64, .int .i64, .int .i64, .int .i64] (bitemp_cover_0 r_Item r_Value r_From r_Until r_Known h)⟩], .sl 1⟩
  | _ => Option.none
noncomputable def B20 : Con := ext Try.prog B19 63 [.sl 0, .agg [.int .i64 0, .int .i64 0, .int .i64 0, .int .i64 0, .int .i64 0]] [⟨0, 0, false, .row 24 [.int .i64, .int .i64, .int .i64, .int .i64, .int .i64] []⟩] bitemp_cover_eff
theorem B20_ok : ConOk Try.prog B20 := conOk_ext noSeq_ok B19_ok (n := 9) rfl rfl fun us x h => by
  unfold bitemp_cover_eff at h
  split at h
  · cases h; exact ⟨some (bitemp_cover_pre _ _ _ _ _ _), bitemp_cover_col _ _ _ _ _ _, fun h => h⟩
  · cases h
theorem bitemp_history_col (item at_ : Int) (list : List (List Int)) : collapse Try.prog 1 (execFn Try.prog B20 noSeq 9 45 [.sl 0, .int .i64 item, .int .i64 at_] ⟨[⟨0, 1, false, .row 24 [.int .i64, .int .i64, .int .i64, .int .i64, .int .i64] list⟩], 1⟩) = some ⟨some (bitemp_history_pre item at_ list), [], 1, [⟨1, 1, true, .row 24 [.int .i64, .int .i64, .int .i64, .int .i64, .int .i64] (bitemp_history_0 item at_ list)⟩], .sl 1⟩ := by kernel_rfl
noncomputable def bitemp_history_eff : List U → Option Eff
  | [.i item, .i at_, .r list] => some ⟨some (bitemp_history_pre item at_ list), [], 1, [⟨1, 1, true, .row 24 [.int .i64, .int .i64, .int .i64, .int .i64, .int .i64] (bitemp_history_0 item at_ list)⟩], .sl 1⟩
  | _ => Option.none
noncomputable def B21 : Con := ext Try.prog B20 45 [.sl 0, .int .i64 0, .int .i64 0] [⟨0, 0, false, .row 24 [.int .i64, .int .i64, .int .i64, .int .i64, .int .i64] []⟩] bitemp_history_eff
theorem B21_ok : ConOk Try.prog B21 := conOk_ext noSeq_ok B20_ok (n := 9) rfl rfl fun us x h => by
  unfold bitemp_history_eff at h
  split at h
  · cases h; exact ⟨some (bitemp_history_pre _ _ _), bitemp_history_col _ _ _, fun h => h⟩
  · cases h
theorem bitemp_History_col (item known : Int) (list : List (List Int)) : collapse Try.prog 1 (execFn Try.prog B21 noSeq 9 19 [.sl 0, .int .i64 item, .int .i64 known] ⟨[⟨0, 1, false, .row 24 [.int .i64, .int .i64, .int .i64, .int .i64, .int .i64] list⟩], 1⟩) = some ⟨some (bitemp_History_pre item known list), [], 1, [⟨1, 1, true, .row 24 [.int .i64, .int .i64, .int .i64, .int .i64, .int .i64] (bitemp_History_0 item known list)⟩], .tup [.sl 1, .int .i64 (bitemp_History_1 item known list)]⟩ := by kernel_rfl
noncomputable def bitemp_History_eff : List U → Option Eff
  | [.i item, .i known, .r list] => some ⟨some (bitemp_History_pre item known list), [], 1, [⟨1, 1, true, .row 24 [.int .i64, .int .i64, .int .i64, .int .i64, .int .i64] (bitemp_History_0 item known list)⟩], .tup [.sl 1, .int .i64 (bitemp_History_1 item known list)]⟩
  | _ => Option.none
noncomputable def B22 : Con := ext Try.prog B21 19 [.sl 0, .int .i64 0, .int .i64 0] [⟨0, 0, false, .row 24 [.int .i64, .int .i64, .int .i64, .int .i64, .int .i64] []⟩] bitemp_History_eff
theorem B22_ok : ConOk Try.prog B22 := conOk_ext noSeq_ok B21_ok (n := 9) rfl rfl fun us x h => by
  unfold bitemp_History_eff at h
  split at h
  · cases h; exact ⟨some (bitemp_History_pre _ _ _), bitemp_History_col _ _ _, fun h => h⟩
  · cases h
theorem bitemp_Changed_col (item time : Int) (list : List (List Int)) : collapse Try.prog 1 (execFn Try.prog B22 noSeq 9 21 [.sl 0, .int .i64 item, .int .i64 time] ⟨[⟨0, 1, false, .row 24 [.int .i64, .int .i64, .int .i64, .int .i64, .int .i64] list⟩], 1⟩) = some ⟨some (bitemp_Changed_pre item time list), [], 1, [⟨1, 1, true, .row 3 [.int .i64] (bitemp_Changed_0 item time list)⟩], .tup [.sl 1, .int .i64 (bitemp_Changed_1 item time list)]⟩ := by kernel_rfl
noncomputable def bitemp_Changed_eff : List U → Option Eff
  | [.i item, .i time, .r list] => some ⟨some (bitemp_Changed_pre item time list), [], 1, [⟨1, 1, true, .row 3 [.int .i64] (bitemp_Changed_0 item time list)⟩], .tup [.sl 1, .int .i64 (bitemp_Changed_1 item time list)]⟩
  | _ => Option.none
noncomputable def B23 : Con := ext Try.prog B22 21 [.sl 0, .int .i64 0, .int .i64 0] [⟨0, 0, false, .row 24 [.int .i64, .int .i64, .int .i64, .int .i64, .int .i64] []⟩] bitemp_Changed_eff
theorem B23_ok : ConOk Try.prog B23 := conOk_ext noSeq_ok B22_ok (n := 9) rfl rfl fun us x h => by
  unfold bitemp_Changed_eff at h
  split at h
  · cases h; exact ⟨some (bitemp_Changed_pre _ _ _), bitemp_Changed_col _ _ _, fun h => h⟩
  · cases h
theorem bitemp_Knew_col (item from_ until_ value : Int) (list : List (List Int)) : collapse Try.prog 1 (execFn Try.prog B23 noSeq 9 24 [.sl 0, .int .i64 item, .int .i64 from_, .int .i64 until_, .int .i64 value] ⟨[⟨0, 1, false, .row 24 [.int .i64, .int .i64, .int .i64, .int .i64, .int .i64] list⟩], 1⟩) = some ⟨some (bitemp_Knew_pre item from_ until_ value list), [], 0, [], .tup [.int .i64 (bitemp_Knew_0 item from_ until_ value list), .int .i64 (bitemp_Knew_1 item from_ until_ value list)]⟩ := by kernel_rfl
noncomputable def bitemp_Knew_eff : List U → Option Eff
  | [.i item, .i from_, .i until_, .i value, .r list] => some ⟨some (bitemp_Knew_pre item from_ until_ value list), [], 0, [], .tup [.int .i64 (bitemp_Knew_0 item from_ until_ value list), .int .i64 (bitemp_Knew_1 item from_ until_ value list)]⟩
  | _ => Option.none
noncomputable def B24 : Con := ext Try.prog B23 24 [.sl 0, .int .i64 0, .int .i64 0, .int .i64 0, .int .i64 0] [⟨0, 0, false, .row 24 [.int .i64, .int .i64, .int .i64, .int .i64, .int .i64] []⟩] bitemp_Knew_eff
theorem B24_ok : ConOk Try.prog B24 := conOk_ext noSeq_ok B23_ok (n := 9) rfl rfl fun us x h => by
  unfold bitemp_Knew_eff at h
  split at h
  · cases h; exact ⟨some (bitemp_Knew_pre _ _ _ _ _), bitemp_Knew_col _ _ _ _ _, fun h => h⟩
  · cases h
theorem bitemp_Merge_col (a b : List (List Int)) : collapse Try.prog 2 (execFn Try.prog B24 noSeq 9 26 [.sl 0, .sl 1] ⟨[⟨0, 2, false, .row 24 [.int .i64, .int .i64, .int .i64, .int .i64, .int .i64] a⟩, ⟨1, 2, false, .row 24 [.int .i64, .int .i64, .int .i64, .int .i64, .int .i64] b⟩], 2⟩) = some ⟨some (bitemp_Merge_pre a b), [], 1, [⟨2, 2, true, .row 24 [.int .i64, .int .i64, .int .i64, .int .i64, .int .i64] (bitemp_Merge_0 a b)⟩], .tup [.sl 2, .int .i64 (bitemp_Merge_1 a b)]⟩ := by kernel_rfl
noncomputable def bitemp_Merge_eff : List U → Option Eff
  | [.r a, .r b] => some ⟨some (bitemp_Merge_pre a b), [], 1, [⟨2, 2, true, .row 24 [.int .i64, .int .i64, .int .i64, .int .i64, .int .i64] (bitemp_Merge_0 a b)⟩], .tup [.sl 2, .int .i64 (bitemp_Merge_1 a b)]⟩
  | _ => Option.none
noncomputable def B25 : Con := ext Try.prog B24 26 [.sl 0, .sl 1] [⟨0, 0, false, .row 24 [.int .i64, .int .i64, .int .i64, .int .i64, .int .i64] []⟩, ⟨1, 0, false, .row 24 [.int .i64, .int .i64, .int .i64, .int .i64, .int .i64] []⟩] bitemp_Merge_eff
theorem B25_ok : ConOk Try.prog B25 := conOk_ext noSeq_ok B24_ok (n := 9) rfl rfl fun us x h => by
  unfold bitemp_Merge_eff at h
  split at h
  · cases h; exact ⟨some (bitemp_Merge_pre _ _), bitemp_Merge_col _ _, fun h => h⟩
  · cases h
end Go.Proofs.Ytcbgjecpnhjlpaa
