/- Written by program (wip/sygen.py): the contracts of the Go functions. -/
import Derived.Test.YtddfnokjnafdpaaGreatRows
import Derived.Test.YtddfnokjnafdpaaGreatSyH
import Derived.Test.YtddfnokjnafdpaaGreatDrift1D
import Derived.Test.YtddfnokjnafdpaaGreatDrift1
import Derived.Test.YtddfnokjnafdpaaGreatSySo
import Derived.Test.YtddfnokjnafdpaaGreatDriftR
import Derived.Test.YtddfnokjnafdpaaGreatDriftCD
import Derived.Test.YtddfnokjnafdpaaGreatDriftC
import Derived.Test.YtddfnokjnafdpaaGreatDriftS
import Derived.Test.YtddfnokjnafdpaaGreatDriftBD
import Derived.Test.YtddfnokjnafdpaaGreatDriftB
import Derived.Test.YtddfnokjnafdpaaGreatDriftFD
import Derived.Test.YtddfnokjnafdpaaGreatDriftF
import Derived.Test.YtddfnokjnafdpaaGreatDriftKD
import Derived.Test.YtddfnokjnafdpaaGreatDriftK
import Derived.Test.YtddfnokjnafdpaaGreatDriftJD
set_option maxRecDepth 100000
set_option linter.unusedVariables false
namespace Go.Proofs.YtddfnokjnafdpaaGreat
open Go Go.Sy
theorem ref23_at_col (time : Int) (forecast : List (List Int)) : collapse Tryz.prog 1 (execFn Tryz.prog D63 noSeq 9 61 [.sl 0, .int .i64 time] ⟨[⟨0, 1, false, .row 50 [.int .i64, .int .i64, .int .i64, .int .i64, .int .i64, .int .i64] forecast⟩], 1⟩) = some ⟨some (ref23_at_pre time forecast), [], 0, [], .tup [.agg [.int .i64 (ref23_at_0 time forecast), .int .i64 (ref23_at_1 time forecast), .int .i64 (ref23_at_2 time forecast), .int .i64 (ref23_at_3 time forecast), .int .i64 (ref23_at_4 time forecast), .int .i64 (ref23_at_5 time forecast)], .bool (ref23_at_6 time forecast)]⟩ := by kernel_rfl
noncomputable def ref23_at_eff : List U → Option Eff
  | [.i time, .r forecast] => some ⟨some (ref23_at_pre time forecast), [], 0, [], .tup [.agg [.int .i64 (ref23_at_0 time forecast), .int .i64 (ref23_at_1 time forecast), .int .i64 (ref23_at_2 time forecast), .int .i64 (ref23_at_3 time forecast), .int .i64 (ref23_at_4 time forecast), .int .i64 (ref23_at_5 time forecast)], .bool (ref23_at_6 time forecast)]⟩
  | _ => Option.none
noncomputable def D64 : Con := ext Tryz.prog D63 61 [.sl 0, .int .i64 0] [⟨0, 0, false, .row 50 [.int .i64, .int .i64, .int .i64, .int .i64, .int .i64, .int .i64] []⟩] ref23_at_eff
theorem D64_ok : ConOk Tryz.prog D64 := conOk_ext noSeq_ok D63_ok (n := 9) rfl rfl fun us x h => by
  unfold ref23_at_eff at h
  split at h
  · cases h; exact ⟨some (ref23_at_pre _ _), ref23_at_col _ _, fun h => h⟩
  · cases h
theorem ref23_bounds_col (a b : List (List Int)) : collapse Tryz.prog 2 (execFn Tryz.prog D64 noSeq 9 60 [.sl 0, .sl 1] ⟨[⟨0, 2, false, .row 50 [.int .i64, .int .i64, .int .i64, .int .i64, .int .i64, .int .i64] a⟩, ⟨1, 2, false, .row 50 [.int .i64, .int .i64, .int .i64, .int .i64, .int .i64, .int .i64] b⟩], 2⟩) = some ⟨some (ref23_bounds_pre a b), [], 1, [⟨2, 2, true, .row 3 [.int .i64] (ref23_bounds_0 a b)⟩], .sl 2⟩ := by kernel_rfl
noncomputable def ref23_bounds_eff : List U → Option Eff
  | [.r a, .r b] => some ⟨some (ref23_bounds_pre a b), [], 1, [⟨2, 2, true, .row 3 [.int .i64] (ref23_bounds_0 a b)⟩], .sl 2⟩
  | _ => Option.none
noncomputable def D65 : Con := ext Tryz.prog D64 60 [.sl 0, .sl 1] [⟨0, 0, false, .row 50 [.int .i64, .int .i64, .int .i64, .int .i64, .int .i64, .int .i64] []⟩, ⟨1, 0, false, .row 50 [.int .i64, .int .i64, .int .i64, .int .i64, .int .i64, .int .i64] []⟩] ref23_bounds_eff
theorem D65_ok : ConOk Tryz.prog D65 := conOk_ext noSeq_ok D64_ok (n := 9) rfl rfl fun us x h => by
  unfold ref23_bounds_eff at h
  split at h
  · cases h; exact ⟨some (ref23_bounds_pre _ _), ref23_bounds_col _ _, fun h => h⟩
  · cases h
theorem ref23_Better_col (a b : List (List Int)) : collapse Tryz.prog 2 (execFn Tryz.prog D65 noSeq 9 23 [.sl 0, .sl 1] ⟨[⟨0, 2, false, .row 50 [.int .i64, .int .i64, .int .i64, .int .i64, .int .i64, .int .i64] a⟩, ⟨1, 2, false, .row 50 [.int .i64, .int .i64, .int .i64, .int .i64, .int .i64, .int .i64] b⟩], 2⟩) = some ⟨some (ref23_Better_pre a b), [], 1, [⟨2, 2, true, .row 50 [.int .i64, .int .i64, .int .i64, .int .i64, .int .i64, .int .i64] (ref23_Better_0 a b)⟩], .tup [.sl 2, .int .i64 (ref23_Better_1 a b)]⟩ := by kernel_rfl
noncomputable def ref23_Better_eff : List U → Option Eff
  | [.r a, .r b] => some ⟨some (ref23_Better_pre a b), [], 1, [⟨2, 2, true, .row 50 [.int .i64, .int .i64, .int .i64, .int .i64, .int .i64, .int .i64] (ref23_Better_0 a b)⟩], .tup [.sl 2, .int .i64 (ref23_Better_1 a b)]⟩
  | _ => Option.none
noncomputable def D66 : Con := ext Tryz.prog D65 23 [.sl 0, .sl 1] [⟨0, 0, false, .row 50 [.int .i64, .int .i64, .int .i64, .int .i64, .int .i64, .int .i64] []⟩, ⟨1, 0, false, .row 50 [.int .i64, .int .i64, .int .i64, .int .i64, .int .i64, .int .i64] []⟩] ref23_Better_eff
theorem D66_ok : ConOk Tryz.prog D66 := conOk_ext noSeq_ok D65_ok (n := 9) rfl rfl fun us x h => by
  unfold ref23_Better_eff at h
  split at h
  · cases h; exact ⟨some (ref23_Better_pre _ _), ref23_Better_col _ _, fun h => h⟩
  · cases h
theorem law23_head_col  : collapse Tryz.prog 0 (execFn Tryz.prog D66 noSeq 9 4 [] ⟨[], 0⟩) = some ⟨some (law23_head_pre), [], 0, [], .bool (law23_head_0)⟩ := by kernel_rfl
noncomputable def law23_head_eff : List U → Option Eff
  | [] => some ⟨some (law23_head_pre), [], 0, [], .bool (law23_head_0)⟩
  | _ => Option.none
noncomputable def D67 : Con := ext Tryz.prog D66 4 [] [] law23_head_eff
theorem D67_ok : ConOk Tryz.prog D67 := conOk_ext noSeq_ok D66_ok (n := 9) rfl rfl fun us x h => by
  unfold law23_head_eff at h
  split at h
  · cases h; exact ⟨some (law23_head_pre), law23_head_col, fun h => h⟩
  · cases h
theorem law23_DriftMatchesReference_col (from_ until_ p_X p_Y q_X q_Y c_X_Lo c_X_Hi c_Y_Lo c_Y_Hi : Int) (list a b : List (List Int)) : collapse Tryz.prog 3 (execFn Tryz.prog D67 noSeq 9 3 [.sl 0, .sl 1, .sl 2, .int .i64 from_, .int .i64 until_, .agg [.int .i64 p_X, .int .i64 p_Y], .agg [.int .i64 q_X, .int .i64 q_Y], .agg [.int .i64 c_X_Lo, .int .i64 c_X_Hi, .int .i64 c_Y_Lo, .int .i64 c_Y_Hi]] ⟨[⟨0, 3, false, .row 29 [.int .i64, .int .i64, .int .i64, .int .i64] list⟩, ⟨1, 3, false, .row 50 [.int .i64, .int .i64, .int .i64, .int .i64, .int .i64, .int .i64] a⟩, ⟨2, 3, false, .row 50 [.int .i64, .int .i64, .int .i64, .int .i64, .int .i64, .int .i64] b⟩], 3⟩) = some ⟨some (law23_DriftMatchesReference_pre from_ until_ p_X p_Y q_X q_Y c_X_Lo c_X_Hi c_Y_Lo c_Y_Hi list a b), [], 0, [], .bool (law23_DriftMatchesReference_0 from_ until_ p_X p_Y q_X q_Y c_X_Lo c_X_Hi c_Y_Lo c_Y_Hi list a b)⟩ := by kernel_rfl
noncomputable def law23_DriftMatchesReference_eff : List U → Option Eff
  | [.i from_, .i until_, .i p_X, .i p_Y, .i q_X, .i q_Y, .i c_X_Lo, .i c_X_Hi, .i c_Y_Lo, .i c_Y_Hi, .r list, .r a, .r b] => some ⟨some (law23_DriftMatchesReference_pre from_ until_ p_X p_Y q_X q_Y c_X_Lo c_X_Hi c_Y_Lo c_Y_Hi list a b), [], 0, [], .bool (law23_DriftMatchesReference_0 from_ until_ p_X p_Y q_X q_Y c_X_Lo c_X_Hi c_Y_Lo c_Y_Hi list a b)⟩
  | _ => Option.none
noncomputable def D68 : Con := ext Tryz.prog D67 3 [.sl 0, .sl 1, .sl 2, .int .i64 0, .int .i64 0, .agg [.int .i64 0, .int .i64 0], .agg [.int .i64 0, .int .i64 0], .agg [.int .i64 0, .int .i64 0, .int .i64 0, .int .i64 0]] [⟨0, 0, false, .row 29 [.int .i64, .int .i64, .int .i64, .int .i64] []⟩, ⟨1, 0, false, .row 50 [.int .i64, .int .i64, .int .i64, .int .i64, .int .i64, .int .i64] []⟩, ⟨2, 0, false, .row 50 [.int .i64, .int .i64, .int .i64, .int .i64, .int .i64, .int .i64] []⟩] law23_DriftMatchesReference_eff
theorem D68_ok : ConOk Tryz.prog D68 := conOk_ext noSeq_ok D67_ok (n := 9) rfl rfl fun us x h => by
  unfold law23_DriftMatchesReference_eff at h
  split at h
  · cases h; exact ⟨some (law23_DriftMatchesReference_pre _ _ _ _ _ _ _ _ _ _ _ _ _), law23_DriftMatchesReference_col _ _ _ _ _ _ _ _ _ _ _ _ _, fun h => h⟩
  · cases h
end Go.Proofs.YtddfnokjnafdpaaGreat
