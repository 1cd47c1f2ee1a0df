/- Written by program (wip/sygen.py): the contracts of the Go functions. -/
import Derived.Test.YtcbgjecpnhjlpaaRows
import Derived.Test.YtcbgjecpnhjlpaaSyH
import Derived.Test.YtcbgjecpnhjlpaaBitemp1D
set_option maxRecDepth 100000
set_option linter.unusedVariables false
namespace Go.Proofs.Ytcbgjecpnhjlpaa
open Go Go.Sy
noncomputable def B0 : Con := Con.none
theorem B0_ok : ConOk Try.prog B0 := conOk_none _
theorem bitemp_isTime_col (t : Int) : collapse Try.prog 0 (execFn Try.prog B0 noSeq 9 40 [.int .i64 t] ⟨[], 0⟩) = some ⟨none, [], 0, [], .bool (bitemp_isTime_0 t)⟩ := by kernel_rfl
noncomputable def bitemp_isTime_eff : List U → Option Eff
  | [.i t] => some ⟨none, [], 0, [], .bool (bitemp_isTime_0 t)⟩
  | _ => Option.none
noncomputable def B1 : Con := ext Try.prog B0 40 [.int .i64 0] [] bitemp_isTime_eff
theorem B1_ok : ConOk Try.prog B1 := conOk_ext noSeq_ok B0_ok (n := 9) rfl rfl fun us x h => by
  unfold bitemp_isTime_eff at h
  split at h
  · cases h; exact ⟨none, bitemp_isTime_col _, fun _ => trivial⟩
  · cases h
theorem bitemp_isItem_col (n : Int) : collapse Try.prog 0 (execFn Try.prog B1 noSeq 9 39 [.int .i64 n] ⟨[], 0⟩) = some ⟨none, [], 0, [], .bool (bitemp_isItem_0 n)⟩ := by kernel_rfl
noncomputable def bitemp_isItem_eff : List U → Option Eff
  | [.i n] => some ⟨none, [], 0, [], .bool (bitemp_isItem_0 n)⟩
  | _ => Option.none
noncomputable def B2 : Con := ext Try.prog B1 39 [.int .i64 0] [] bitemp_isItem_eff
theorem B2_ok : ConOk Try.prog B2 := conOk_ext noSeq_ok B1_ok (n := 9) rfl rfl fun us x h => by
  unfold bitemp_isItem_eff at h
  split at h
  · cases h; exact ⟨none, bitemp_isItem_col _, fun _ => trivial⟩
  · cases h
theorem bitemp_isValue_col (v : Int) : collapse Try.prog 0 (execFn Try.prog B2 noSeq 9 48 [.int .i64 v] ⟨[], 0⟩) = some ⟨none, [], 0, [], .bool (bitemp_isValue_0 v)⟩ := by kernel_rfl
noncomputable def bitemp_isValue_eff : List U → Option Eff
  | [.i v] => some ⟨none, [], 0, [], .bool (bitemp_isValue_0 v)⟩
  | _ => Option.none
noncomputable def B3 : Con := ext Try.prog B2 48 [.int .i64 0] [] bitemp_isValue_eff
theorem B3_ok : ConOk Try.prog B3 := conOk_ext noSeq_ok B2_ok (n := 9) rfl rfl fun us x h => by
  unfold bitemp_isValue_eff at h
  split at h
  · cases h; exact ⟨none, bitemp_isValue_col _, fun _ => trivial⟩
  · cases h
theorem bitemp_isRow_col (r_Item r_Value r_From r_Until r_Known : Int) : collapse Try.prog 0 (execFn Try.prog B3 noSeq 9 32 [.agg [.int .i64 r_Item, .int .i64 r_Value, .int .i64 r_From, .int .i64 r_Until, .int .i64 r_Known]] ⟨[], 0⟩) = some ⟨none, [], 0, [], .bool (bitemp_isRow_0 r_Item r_Value r_From r_Until r_Known)⟩ := by kernel_rfl
noncomputable def bitemp_isRow_eff : List U → Option Eff
  | [.i r_Item, .i r_Value, .i r_From, .i r_Until, .i r_Known] => some ⟨none, [], 0, [], .bool (bitemp_isRow_0 r_Item r_Value r_From r_Until r_Known)⟩
  | _ => Option.none
noncomputable def B4 : Con := ext Try.prog B3 32 [.agg [.int .i64 0, .int .i64 0, .int .i64 0, .int .i64 0, .int .i64 0]] [] bitemp_isRow_eff
theorem B4_ok : ConOk Try.prog B4 := conOk_ext noSeq_ok B3_ok (n := 9) rfl rfl fun us x h => by
  unfold bitemp_isRow_eff at h
  split at h
  · cases h; exact ⟨none, bitemp_isRow_col _ _ _ _ _, fun _ => trivial⟩
  · cases h
theorem cmp_Compare_int_col (x y : Int) : collapse Try.prog 0 (execFn Try.prog B4 noSeq 9 34 [.int .i64 x, .int .i64 y] ⟨[], 0⟩) = some ⟨none, [], 0, [], .int .i64 (cmp_Compare_int_0 x y)⟩ := by kernel_rfl
noncomputable def cmp_Compare_int_eff : List U → Option Eff
  | [.i x, .i y] => some ⟨none, [], 0, [], .int .i64 (cmp_Compare_int_0 x y)⟩
  | _ => Option.none
noncomputable def B5 : Con := ext Try.prog B4 34 [.int .i64 0, .int .i64 0] [] cmp_Compare_int_eff
theorem B5_ok : ConOk Try.prog B5 := conOk_ext noSeq_ok B4_ok (n := 9) rfl rfl fun us x h => by
  unfold cmp_Compare_int_eff at h
  split at h
  · cases h; exact ⟨none, cmp_Compare_int_col _ _, fun _ => trivial⟩
  · cases h
theorem bitemp_Valid_col (list : List (List Int)) : collapse Try.prog 1 (execFn Try.prog B5 noSeq 9 12 [.sl 0] ⟨[⟨0, 1, false, .row 24 [.int .i64, .int .i64, .int .i64, .int .i64, .int .i64] list⟩], 1⟩) = some ⟨some (bitemp_Valid_pre list), [], 0, [], .bool (bitemp_Valid_0 list)⟩ := by kernel_rfl
noncomputable def bitemp_Valid_eff : List U → Option Eff
  | [.r list] => some ⟨some (bitemp_Valid_pre list), [], 0, [], .bool (bitemp_Valid_0 list)⟩
  | _ => Option.none
noncomputable def B6 : Con := ext Try.prog B5 12 [.sl 0] [⟨0, 0, false, .row 24 [.int .i64, .int .i64, .int .i64, .int .i64, .int .i64] []⟩] bitemp_Valid_eff
theorem B6_ok : ConOk Try.prog B6 := conOk_ext noSeq_ok B5_ok (n := 9) rfl rfl fun us x h => by
  unfold bitemp_Valid_eff at h
  split at h
  · cases h; exact ⟨some (bitemp_Valid_pre _), bitemp_Valid_col _, fun h => h⟩
  · cases h
theorem bitemp_Say_col (r_Item r_Value r_From r_Until r_Known : Int) (list : List (List Int)) : collapse Try.prog 1 (execFn Try.prog B6 noSeq 9 14 [.sl 0, .agg [.int .i64 r_Item, .int .i64 r_Value, .int .i64 r_From, .int .i64 r_Until, .int .i64 r_Known]] ⟨[⟨0, 1, false, .row 24 [.int .i64, .int .i64, .int .i64, .int .i64, .int .i64] list⟩], 1⟩) = some ⟨some (bitemp_Say_pre r_Item r_Value r_From r_Until r_Known list), [], 1, [⟨1, 1, true, .row 24 [.int .i64, .int .i64, .int .i64, .int .i64, .int .i64] (bitemp_Say_0 r_Item r_Value r_From r_Until r_Known list)⟩], .tup [.sl 1, .int .i64 (bitemp_Say_1 r_Item r_Value r_From r_Until r_Known list)]⟩ := by kernel_rfl
noncomputable def bitemp_Say_eff : List U → Option Eff
  | [.i r_Item, .i r_Value, .i r_From, .i r_Until, .i r_Known, .r list] => some ⟨some (bitemp_Say_pre r_Item r_Value r_From r_Until r_Known list), [], 1, [⟨1, 1, true, .row 24 [.int .i64, .int .i64, .int .i64, .int .i64, .int .i64] (bitemp_Say_0 r_Item r_Value r_From r_Until r_Known list)⟩], .tup [.sl 1, .int .i64 (bitemp_Say_1 r_Item r_Value r_From r_Until r_Known list)]⟩
  | _ => Option.none
noncomputable def B7 : Con := ext Try.prog B6 14 [.sl 0, .agg [.int .i64 0, .int .i64 0, .int .i64 0, .int .i64 0, .int .i64 0]] [⟨0, 0, false, .row 24 [.int .i64, .int .i64, .int .i64, .int .i64, .int .i64] []⟩] bitemp_Say_eff
theorem B7_ok : ConOk Try.prog B7 := conOk_ext noSeq_ok B6_ok (n := 9) rfl rfl fun us x h => by
  unfold bitemp_Say_eff at h
  split at h
  · cases h; exact ⟨some (bitemp_Say_pre _ _ _ _ _ _), bitemp_Say_col _ _ _ _ _ _, fun h => h⟩
  · cases h
theorem bitemp_holds_col (item time known : Int) (list : List (List Int)) : collapse Try.prog 1 (execFn Try.prog B7 noSeq 9 41 [.sl 0, .int .i64 item, .int .i64 time, .int .i64 known] ⟨[⟨0, 1, false, .row 24 [.int .i64, .int .i64, .int .i64, .int .i64, .int .i64] list⟩], 1⟩) = some ⟨some (bitemp_holds_pre item time known list), [], 0, [], .tup [.agg [.int .i64 (bitemp_holds_0 item time known list), .int .i64 (bitemp_holds_1 item time known list), .int .i64 (bitemp_holds_2 item time known list), .int .i64 (bitemp_holds_3 item time known list), .int .i64 (bitemp_holds_4 item time known list)], .bool (bitemp_holds_5 item time known list)]⟩ := by kernel_rfl
noncomputable def bitemp_holds_eff : List U → Option Eff
  | [.i item, .i time, .i known, .r list] => some ⟨some (bitemp_holds_pre item time known list), [], 0, [], .tup [.agg [.int .i64 (bitemp_holds_0 item time known list), .int .i64 (bitemp_holds_1 item time known list), .int .i64 (bitemp_holds_2 item time known list), .int .i64 (bitemp_holds_3 item time known list), .int .i64 (bitemp_holds_4 item time known list)], .bool (bitemp_holds_5 item time known list)]⟩
  | _ => Option.none
noncomputable def B8 : Con := ext Try.prog B7 41 [.sl 0, .int .i64 0, .int .i64 0, .int .i64 0] [⟨0, 0, false, .row 24 [.int .i64, .int .i64, .int .i64, .int .i64, .int .i64] []⟩] bitemp_holds_eff
theorem B8_ok : ConOk Try.prog B8 := conOk_ext noSeq_ok B7_ok (n := 9) rfl rfl fun us x h => by
  unfold bitemp_holds_eff at h
  split at h
  · cases h; exact ⟨some (bitemp_holds_pre _ _ _ _), bitemp_holds_col _ _ _ _, fun h => h⟩
  · cases h
theorem bitemp_At_col (item time known : Int) (list : List (List Int)) : collapse Try.prog 1 (execFn Try.prog B8 noSeq 9 17 [.sl 0, .int .i64 item, .int .i64 time, .int .i64 known] ⟨[⟨0, 1, false, .row 24 [.int .i64, .int .i64, .int .i64, .int .i64, .int .i64] list⟩], 1⟩) = some ⟨some (bitemp_At_pre item time known list), [], 0, [], .tup [.int .i64 (bitemp_At_0 item time known list), .int .i64 (bitemp_At_1 item time known list)]⟩ := by kernel_rfl
noncomputable def bitemp_At_eff : List U → Option Eff
  | [.i item, .i time, .i known, .r list] => some ⟨some (bitemp_At_pre item time known list), [], 0, [], .tup [.int .i64 (bitemp_At_0 item time known list), .int .i64 (bitemp_At_1 item time known list)]⟩
  | _ => Option.none
noncomputable def B9 : Con := ext Try.prog B8 17 [.sl 0, .int .i64 0, .int .i64 0, .int .i64 0] [⟨0, 0, false, .row 24 [.int .i64, .int .i64, .int .i64, .int .i64, .int .i64] []⟩] bitemp_At_eff
theorem B9_ok : ConOk Try.prog B9 := conOk_ext noSeq_ok B8_ok (n := 9) rfl rfl fun us x h => by
  unfold bitemp_At_eff at h
  split at h
  · cases h; exact ⟨some (bitemp_At_pre _ _ _ _), bitemp_At_col _ _ _ _, fun h => h⟩
  · cases h
theorem bitemp_join_col (h : List (List Int)) : collapse Try.prog 1 (execFn Try.prog B9 noSeq 9 64 [.sl 0] ⟨[⟨0, 1, false, .row 24 [.int .i64, .int .i64, .int .i64, .int .i64, .int .i64] h⟩], 1⟩) = some ⟨some (bitemp_join_pre h), [], 1, [⟨1, 1, true, .row 24 [.int .i64, .int .i64, .int .i64, .int .i64, .int .i64] (bitemp_join_0 h)⟩], .sl 1⟩ := by kernel_rfl
noncomputable def bitemp_join_eff : List U → Option Eff
  | [.r h] => some ⟨some (bitemp_join_pre h), [], 1, [⟨1, 1, true, .row 24 [.int .i64, .int .i64, .int .i64, .int .i64, .int .i64] (bitemp_join_0 h)⟩], .sl 1⟩
  | _ => Option.none
noncomputable def B10 : Con := ext Try.prog B9 64 [.sl 0] [⟨0, 0, false, .row 24 [.int .i64, .int .i64, .int .i64, .int .i64, .int .i64] []⟩] bitemp_join_eff
theorem B10_ok : ConOk Try.prog B10 := conOk_ext noSeq_ok B9_ok (n := 9) rfl rfl fun us x h => by
  unfold bitemp_join_eff at h
  split at h
  · cases h; exact ⟨some (bitemp_join_pre _), bitemp_join_col _, fun h => h⟩
  · cases h
theorem bitemp_lie_col (a_Item a_Value a_From a_Until a_Known b_Item b_Value b_From b_Until b_Known : Int) : collapse Try.prog 0 (execFn Try.prog B10 noSeq 9 53 [.agg [.int .i64 a_Item, .int .i64 a_Value, .int .i64 a_From, .int .i64 a_Until, .int .i64 a_Known], .agg [.int .i64 b_Item, .int .i64 b_Value, .int .i64 b_From, .int .i64 b_Until, .int .i64 b_Known]] ⟨[], 0⟩) = some ⟨none, [], 0, [], .bool (bitemp_lie_0 a_Item a_Value a_From a_Until a_Known b_Item b_Value b_From b_Until b_Known)⟩ := by kernel_rfl
noncomputable def bitemp_lie_eff : List U → Option Eff
  | [.i a_Item, .i a_Value, .i a_From, .i a_Until, .i a_Known, .i b_Item, .i b_Value, .i b_From, .i b_Until, .i b_Known] => some ⟨none, [], 0, [], .bool (bitemp_lie_0 a_Item a_Value a_From a_Until a_Known b_Item b_Value b_From b_Until b_Known)⟩
  | _ => Option.none
noncomputable def B11 : Con := ext Try.prog B10 53 [.agg [.int .i64 0, .int .i64 0, .int .i64 0, .int .i64 0, .int .i64 0], .agg [.int .i64 0, .int .i64 0, .int .i64 0, .int .i64 0, .int .i64 0]] [] bitemp_lie_eff
theorem B11_ok : ConOk Try.prog B11 := conOk_ext noSeq_ok B10_ok (n := 9) rfl rfl fun us x h => by
  unfold bitemp_lie_eff at h
  split at h
  · cases h; exact ⟨none, bitemp_lie_col _ _ _ _ _ _ _ _ _ _, fun _ => trivial⟩
  · cases h
theorem ref27_Has_col (r_Item r_Value r_From r_Until r_Known : Int) (list : List (List Int)) : collapse Try.prog 1 (execFn Try.prog B11 noSeq 9 29 [.sl 0, .agg [.int .i64 r_Item, .int .i64 r_Value, .int .i64 r_From, .int .i64 r_Until, .int .i64 r_Known]] ⟨[⟨0, 1, false, .row 24 [.int .i64, .int .i64, .int .i64, .int .i64, .int .i64] list⟩], 1⟩) = some ⟨some (ref27_Has_pre r_Item r_Value r_From r_Until r_Known list), [], 0, [], .bool (ref27_Has_0 r_Item r_Value r_From r_Until r_Known list)⟩ := by kernel_rfl
noncomputable def ref27_Has_eff : List U → Option Eff
  | [.i r_Item, .i r_Value, .i r_From, .i r_Until, .i r_Known, .r list] => some ⟨some (ref27_Has_pre r_Item r_Value r_From r_Until r_Known list), [], 0, [], .bool (ref27_Has_0 r_Item r_Value r_From r_Until r_Known list)⟩
  | _ => Option.none
noncomputable def B12 : Con := ext Try.prog B11 29 [.sl 0, .agg [.int .i64 0, .int .i64 0, .int .i64 0, .int .i64 0, .int .i64 0]] [⟨0, 0, false, .row 24 [.int .i64, .int .i64, .int .i64, .int .i64, .int .i64] []⟩] ref27_Has_eff
theorem B12_ok : ConOk Try.prog B12 := conOk_ext noSeq_ok B11_ok (n := 9) rfl rfl fun us x h => by
  unfold ref27_Has_eff at h
  split at h
  · cases h; exact ⟨some (ref27_Has_pre _ _ _ _ _ _), ref27_Has_col _ _ _ _ _ _, fun h => h⟩
  · cases h
theorem ref27_Same_col (a b : List (List Int)) : collapse Try.prog 2 (execFn Try.prog B12 noSeq 9 16 [.sl 0, .sl 1] ⟨[⟨0, 2, false, .row 24 [.int .i64, .int .i64, .int .i64, .int .i64, .int .i64] a⟩, ⟨1, 2, false, .row 24 [.int .i64, .int .i64, .int .i64, .int .i64, .int .i64] b⟩], 2⟩) = some ⟨some (ref27_Same_pre a b), [], 0, [], .bool (ref27_Same_0 a b)⟩ := by kernel_rfl
noncomputable def ref27_Same_eff : List U → Option Eff
  | [.r a, .r b] => some ⟨some (ref27_Same_pre a b), [], 0, [], .bool (ref27_Same_0 a b)⟩
  | _ => Option.none
noncomputable def B13 : Con := ext Try.prog B12 16 [.sl 0, .sl 1] [⟨0, 0, false, .row 24 [.int .i64, .int .i64, .int .i64, .int .i64, .int .i64] []⟩, ⟨1, 0, false, .row 24 [.int .i64, .int .i64, .int .i64, .int .i64, .int .i64] []⟩] ref27_Same_eff
theorem B13_ok : ConOk Try.prog B13 := conOk_ext noSeq_ok B12_ok (n := 9) rfl rfl fun us x h => by
  unfold ref27_Same_eff at h
  split at h
  · cases h; exact ⟨some (ref27_Same_pre _ _), ref27_Same_col _ _, fun h => h⟩
  · cases h
theorem ref27_Ints_col (a b : List (List Int)) : collapse Try.prog 2 (execFn Try.prog B13 noSeq 9 23 [.sl 0, .sl 1] ⟨[⟨0, 2, false, .row 3 [.int .i64] a⟩, ⟨1, 2, false, .row 3 [.int .i64] b⟩], 2⟩) = some ⟨some (ref27_Ints_pre a b), [], 0, [], .bool (ref27_Ints_0 a b)⟩ := by kernel_rfl
noncomputable def ref27_Ints_eff : List U → Option Eff
  | [.r a, .r b] => some ⟨some (ref27_Ints_pre a b), [], 0, [], .bool (ref27_Ints_0 a b)⟩
  | _ => Option.none
noncomputable def B14 : Con := ext Try.prog B13 23 [.sl 0, .sl 1] [⟨0, 0, false, .row 3 [.int .i64] []⟩, ⟨1, 0, false, .row 3 [.int .i64] []⟩] ref27_Ints_eff
theorem B14_ok : ConOk Try.prog B14 := conOk_ext noSeq_ok B13_ok (n := 9) rfl rfl fun us x h => by
  unfold ref27_Ints_eff at h
  split at h
  · cases h; exact ⟨some (ref27_Ints_pre _ _), ref27_Ints_col _ _, fun h => h⟩
  · cases h
theorem law27_rows_col  : collapse Try.prog 0 (execFn Try.prog B14 noSeq 9 30 [] ⟨[], 0⟩) = some ⟨none, [], 1, [⟨0, 0, true, .row 24 [.int .i64, .int .i64, .int .i64, .int .i64, .int .i64] (law27_rows_0)⟩], .sl 0⟩ := by kernel_rfl
noncomputable def law27_rows_eff : List U → Option Eff
  | [] => some ⟨none, [], 1, [⟨0, 0, true, .row 24 [.int .i64, .int .i64, .int .i64, .int .i64, .int .i64] (law27_rows_0)⟩], .sl 0⟩
  | _ => Option.none
noncomputable def B15 : Con := ext Try.prog B14 30 [] [] law27_rows_eff
theorem B15_ok : ConOk Try.prog B15 := conOk_ext noSeq_ok B14_ok (n := 9) rfl rfl fun us x h => by
  unfold law27_rows_eff at h
  split at h
  · cases h; exact ⟨none, law27_rows_col, fun _ => trivial⟩
  · cases h
end Go.Proofs.Ytcbgjecpnhjlpaa
