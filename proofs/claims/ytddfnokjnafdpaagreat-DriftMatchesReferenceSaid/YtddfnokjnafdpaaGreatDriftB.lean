/- Written by program (wip/sygen.py): the contracts of the Go functions. -/
import Derived.Test.YtddfnokjnafdpaaGreatRows
import Derived.Test.YtddfnokjnafdpaaGreatSyH
import Derived.Test.YtddfnokjnafdpaaGreatDrift1D
import Derived.Test.YtddfnokjnafdpaaGreatDrift1
import Derived.Test.YtddfnokjnafdpaaGreatSySo
import Derived.Test.YtddfnokjnafdpaaGreatDriftR
import Derived.Test.YtddfnokjnafdpaaGreatDriftCD
import Derived.Test.YtddfnokjnafdpaaGreatDriftC
import Derived.Test.YtddfnokjnafdpaaGreatDriftS
import Derived.Test.YtddfnokjnafdpaaGreatDriftBD
set_option maxRecDepth 100000
set_option linter.unusedVariables false
namespace Go.Proofs.YtddfnokjnafdpaaGreat
open Go Go.Sy
theorem drift_Better_col (a b : List (List Int)) : collapse Tryz.prog 2 (execFn Tryz.prog D39 noSeq 9 22 [.sl 0, .sl 1] ⟨[⟨0, 2, false, .row 50 [.int .i64, .int .i64, .int .i64, .int .i64, .int .i64, .int .i64] a⟩, ⟨1, 2, false, .row 50 [.int .i64, .int .i64, .int .i64, .int .i64, .int .i64, .int .i64] b⟩], 2⟩) = some ⟨some (drift_Better_pre a b), [], 1, [⟨2, 2, true, .row 50 [.int .i64, .int .i64, .int .i64, .int .i64, .int .i64, .int .i64] (drift_Better_0 a b)⟩], .tup [.sl 2, .int .i64 (drift_Better_1 a b)]⟩ := by kernel_rfl
noncomputable def drift_Better_eff : List U → Option Eff
  | [.r a, .r b] => some ⟨some (drift_Better_pre a b), [], 1, [⟨2, 2, true, .row 50 [.int .i64, .int .i64, .int .i64, .int .i64, .int .i64, .int .i64] (drift_Better_0 a b)⟩], .tup [.sl 2, .int .i64 (drift_Better_1 a b)]⟩
  | _ => Option.none
noncomputable def D40 : Con := ext Tryz.prog D39 22 [.sl 0, .sl 1] [⟨0, 0, false, .row 50 [.int .i64, .int .i64, .int .i64, .int .i64, .int .i64, .int .i64] []⟩, ⟨1, 0, false, .row 50 [.int .i64, .int .i64, .int .i64, .int .i64, .int .i64, .int .i64] []⟩] drift_Better_eff
theorem D40_ok : ConOk Tryz.prog D40 := conOk_ext noSeq_ok D39_ok (n := 9) rfl rfl fun us x h => by
  unfold drift_Better_eff at h
  split at h
  · cases h; exact ⟨some (drift_Better_pre _ _), drift_Better_col _ _, fun h => h⟩
  · cases h
theorem drift_Tidy_col (list : List (List Int)) : collapse Tryz.prog 1 (execFn Tryz.prog D40 noSeq 9 20 [.sl 0] ⟨[⟨0, 1, false, .row 29 [.int .i64, .int .i64, .int .i64, .int .i64] list⟩], 1⟩) = some ⟨some (drift_Tidy_pre list), [], 1, [⟨1, 1, true, .row 29 [.int .i64, .int .i64, .int .i64, .int .i64] (drift_Tidy_0 list)⟩], .tup [.sl 1, .int .i64 (drift_Tidy_1 list)]⟩ := by kernel_rfl
noncomputable def drift_Tidy_eff : List U → Option Eff
  | [.r list] => some ⟨some (drift_Tidy_pre list), [], 1, [⟨1, 1, true, .row 29 [.int .i64, .int .i64, .int .i64, .int .i64] (drift_Tidy_0 list)⟩], .tup [.sl 1, .int .i64 (drift_Tidy_1 list)]⟩
  | _ => Option.none
noncomputable def D41 : Con := ext Tryz.prog D40 20 [.sl 0] [⟨0, 0, false, .row 29 [.int .i64, .int .i64, .int .i64, .int .i64] []⟩] drift_Tidy_eff
theorem D41_ok : ConOk Tryz.prog D41 := conOk_ext noSeq_ok D40_ok (n := 9) rfl rfl fun us x h => by
  unfold drift_Tidy_eff at h
  split at h
  · cases h; exact ⟨some (drift_Tidy_pre _), drift_Tidy_col _, fun h => h⟩
  · cases h
end Go.Proofs.YtddfnokjnafdpaaGreat
