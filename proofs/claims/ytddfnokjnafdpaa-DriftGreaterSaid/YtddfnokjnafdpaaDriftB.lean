/- Written by program (wip/sygen.py): the contracts of the Go functions. -/
import Derived.Test.YtddfnokjnafdpaaRows
import Derived.Test.YtddfnokjnafdpaaSyH
import Derived.Test.YtddfnokjnafdpaaDrift1D
import Derived.Test.YtddfnokjnafdpaaDrift1
import Derived.Test.YtddfnokjnafdpaaSySo
import Derived.Test.YtddfnokjnafdpaaDriftR
import Derived.Test.YtddfnokjnafdpaaDriftCD
import Derived.Test.YtddfnokjnafdpaaDriftC
import Derived.Test.YtddfnokjnafdpaaDriftS
import Derived.Test.YtddfnokjnafdpaaDriftBD
set_option maxRecDepth 100000
set_option linter.unusedVariables false
namespace Go.Proofs.Ytddfnokjnafdpaa
open Go Go.Sy
theorem drift_Better_col (a b : List (List Int)) : collapse Try.prog 2 (execFn Try.prog D39 9 14 [.sl 0, .sl 1] ⟨[⟨0, 2, false, .row 56 [.int .i64, .int .i64, .int .i64, .int .i64, .int .i64, .int .i64] a⟩, ⟨1, 2, false, .row 56 [.int .i64, .int .i64, .int .i64, .int .i64, .int .i64, .int .i64] b⟩], 2⟩) = some ⟨some (drift_Better_pre a b), [], 1, [⟨2, 2, true, .row 56 [.int .i64, .int .i64, .int .i64, .int .i64, .int .i64, .int .i64] (drift_Better_0 a b)⟩], .tup [.sl 2, .int .i64 (drift_Better_1 a b)]⟩ := by kernel_rfl
noncomputable def drift_Better_eff : List U → Option Eff
  | [.r a, .r b] => some ⟨some (drift_Better_pre a b), [], 1, [⟨2, 2, true, .row 56 [.int .i64, .int .i64, .int .i64, .int .i64, .int .i64, .int .i64] (drift_Better_0 a b)⟩], .tup [.sl 2, .int .i64 (drift_Better_1 a b)]⟩
  | _ => Option.none
noncomputable def D40 : Con := ext Try.prog D39 14 [.sl 0, .sl 1] [⟨0, 0, false, .row 56 [.int .i64, .int .i64, .int .i64, .int .i64, .int .i64, .int .i64] []⟩, ⟨1, 0, false, .row 56 [.int .i64, .int .i64, .int .i64, .int .i64, .int .i64, .int .i64] []⟩] drift_Better_eff
theorem D40_ok : ConOk Try.prog D40 := conOk_ext D39_ok (n := 9) rfl rfl fun us x h => by
  unfold drift_Better_eff at h
  split at h
  · cases h; exact ⟨some (drift_Better_pre _ _), drift_Better_col _ _, fun h => h⟩
  · cases h
theorem drift_Tidy_col (list : List (List Int)) : collapse Try.prog 1 (execFn Try.prog D40 9 21 [.sl 0] ⟨[⟨0, 1, false, .row 42 [.int .i64, .int .i64, .int .i64, .int .i64] list⟩], 1⟩) = some ⟨some (drift_Tidy_pre list), [], 1, [⟨1, 1, true, .row 42 [.int .i64, .int .i64, .int .i64, .int .i64] (drift_Tidy_0 list)⟩], .tup [.sl 1, .int .i64 (drift_Tidy_1 list)]⟩ := by kernel_rfl
noncomputable def drift_Tidy_eff : List U → Option Eff
  | [.r list] => some ⟨some (drift_Tidy_pre list), [], 1, [⟨1, 1, true, .row 42 [.int .i64, .int .i64, .int .i64, .int .i64] (drift_Tidy_0 list)⟩], .tup [.sl 1, .int .i64 (drift_Tidy_1 list)]⟩
  | _ => Option.none
noncomputable def D41 : Con := ext Try.prog D40 21 [.sl 0] [⟨0, 0, false, .row 42 [.int .i64, .int .i64, .int .i64, .int .i64] []⟩] drift_Tidy_eff
theorem D41_ok : ConOk Try.prog D41 := conOk_ext D40_ok (n := 9) rfl rfl fun us x h => by
  unfold drift_Tidy_eff at h
  split at h
  · cases h; exact ⟨some (drift_Tidy_pre _), drift_Tidy_col _, fun h => h⟩
  · cases h
end Go.Proofs.Ytddfnokjnafdpaa
