/- Written by program (wip/sygen.py): the contracts of the Go functions. -/
import Derived.Test.YtddfnokjnafdpaaGreatRows
import Derived.Test.YtddfnokjnafdpaaGreatSyH
import Derived.Test.YtddfnokjnafdpaaGreatDrift1D
import Derived.Test.YtddfnokjnafdpaaGreatDrift1
import Derived.Test.YtddfnokjnafdpaaGreatSySo
import Derived.Test.YtddfnokjnafdpaaGreatDriftR
import Derived.Test.YtddfnokjnafdpaaGreatDriftCD
set_option maxRecDepth 100000
set_option linter.unusedVariables false
namespace Go.Proofs.YtddfnokjnafdpaaGreat
open Go Go.Sy
theorem cmp_Compare_int_col (x y : Int) : collapse Tryz.prog 0 (execFn Tryz.prog D35 noSeq 9 53 [.int .i64 x, .int .i64 y] ⟨[], 0⟩) = some ⟨none, [], 0, [], .int .i64 (cmp_Compare_int_0 x y)⟩ := by kernel_rfl
noncomputable def cmp_Compare_int_eff : List U → Option Eff
  | [.i x, .i y] => some ⟨none, [], 0, [], .int .i64 (cmp_Compare_int_0 x y)⟩
  | _ => Option.none
noncomputable def D36 : Con := ext Tryz.prog D35 53 [.int .i64 0, .int .i64 0] [] cmp_Compare_int_eff
theorem D36_ok : ConOk Tryz.prog D36 := conOk_ext noSeq_ok D35_ok (n := 9) rfl rfl fun us x h => by
  unfold cmp_Compare_int_eff at h
  split at h
  · cases h; exact ⟨none, cmp_Compare_int_col _ _, fun _ => trivial⟩
  · cases h
theorem cmp_Or_int_col (vals : List (List Int)) : collapse Tryz.prog 1 (execFn Tryz.prog D36 noSeq 9 52 [.sl 0] ⟨[⟨0, 1, false, .row 3 [.int .i64] vals⟩], 1⟩) = some ⟨some (cmp_Or_int_pre vals), [], 0, [], .int .i64 (cmp_Or_int_0 vals)⟩ := by kernel_rfl
noncomputable def cmp_Or_int_eff : List U → Option Eff
  | [.r vals] => some ⟨some (cmp_Or_int_pre vals), [], 0, [], .int .i64 (cmp_Or_int_0 vals)⟩
  | _ => Option.none
noncomputable def D37 : Con := ext Tryz.prog D36 52 [.sl 0] [⟨0, 0, false, .row 3 [.int .i64] []⟩] cmp_Or_int_eff
theorem D37_ok : ConOk Tryz.prog D37 := conOk_ext noSeq_ok D36_ok (n := 9) rfl rfl fun us x h => by
  unfold cmp_Or_int_eff at h
  split at h
  · cases h; exact ⟨some (cmp_Or_int_pre _), cmp_Or_int_col _, fun h => h⟩
  · cases h
theorem drift_Tidy_1_col (a_X_Lo a_X_Hi a_Y_Lo a_Y_Hi b_X_Lo b_X_Hi b_Y_Lo b_Y_Hi : Int) : collapse Tryz.prog 0 (execFn Tryz.prog D37 noSeq 9 51 [.agg [.int .i64 a_X_Lo, .int .i64 a_X_Hi, .int .i64 a_Y_Lo, .int .i64 a_Y_Hi], .agg [.int .i64 b_X_Lo, .int .i64 b_X_Hi, .int .i64 b_Y_Lo, .int .i64 b_Y_Hi]] ⟨[], 0⟩) = some ⟨some (drift_Tidy_1_pre a_X_Lo a_X_Hi a_Y_Lo a_Y_Hi b_X_Lo b_X_Hi b_Y_Lo b_Y_Hi), [], 0, [], .int .i64 (drift_Tidy_1_0 a_X_Lo a_X_Hi a_Y_Lo a_Y_Hi b_X_Lo b_X_Hi b_Y_Lo b_Y_Hi)⟩ := by kernel_rfl
noncomputable def drift_Tidy_1_eff : List U → Option Eff
  | [.i a_X_Lo, .i a_X_Hi, .i a_Y_Lo, .i a_Y_Hi, .i b_X_Lo, .i b_X_Hi, .i b_Y_Lo, .i b_Y_Hi] => some ⟨some (drift_Tidy_1_pre a_X_Lo a_X_Hi a_Y_Lo a_Y_Hi b_X_Lo b_X_Hi b_Y_Lo b_Y_Hi), [], 0, [], .int .i64 (drift_Tidy_1_0 a_X_Lo a_X_Hi a_Y_Lo a_Y_Hi b_X_Lo b_X_Hi b_Y_Lo b_Y_Hi)⟩
  | _ => Option.none
noncomputable def D38 : Con := ext Tryz.prog D37 51 [.agg [.int .i64 0, .int .i64 0, .int .i64 0, .int .i64 0], .agg [.int .i64 0, .int .i64 0, .int .i64 0, .int .i64 0]] [] drift_Tidy_1_eff
theorem D38_ok : ConOk Tryz.prog D38 := conOk_ext noSeq_ok D37_ok (n := 9) rfl rfl fun us x h => by
  unfold drift_Tidy_1_eff at h
  split at h
  · cases h; exact ⟨some (drift_Tidy_1_pre _ _ _ _ _ _ _ _), drift_Tidy_1_col _ _ _ _ _ _ _ _, fun h => h⟩
  · cases h
end Go.Proofs.YtddfnokjnafdpaaGreat
