/- Written by program (wip/sygen.py): the contracts of the Go functions. -/
import Derived.Test.YtddfnokjnafdpaaGreatRows
import Derived.Test.YtddfnokjnafdpaaGreatSyH
import Derived.Test.YtddfnokjnafdpaaGreatDrift1D
import Derived.Test.YtddfnokjnafdpaaGreatDrift1
import Derived.Test.YtddfnokjnafdpaaGreatSySo
import Derived.Test.YtddfnokjnafdpaaGreatDriftR
import Derived.Test.YtddfnokjnafdpaaGreatDriftCD
import Derived.Test.YtddfnokjnafdpaaGreatDriftC
import Derived.Test.YtddfnokjnafdpaaGreatDriftS
import Derived.Test.YtddfnokjnafdpaaGreatDriftBD
import Derived.Test.YtddfnokjnafdpaaGreatDriftB
import Derived.Test.YtddfnokjnafdpaaGreatDriftFD
import Derived.Test.YtddfnokjnafdpaaGreatDriftF
import Derived.Test.YtddfnokjnafdpaaGreatDriftKD
set_option maxRecDepth 100000
set_option linter.unusedVariables false
namespace Go.Proofs.YtddfnokjnafdpaaGreat
open Go Go.Sy
theorem ref23_Tidy_col (list : List (List Int)) : collapse Tryz.prog 1 (execFn Tryz.prog D62 noSeq 9 21 [.sl 0] ⟨[⟨0, 1, false, .row 29 [.int .i64, .int .i64, .int .i64, .int .i64] list⟩], 1⟩) = some ⟨some (ref23_Tidy_pre list), [], 1, [⟨1, 1, true, .row 29 [.int .i64, .int .i64, .int .i64, .int .i64] (ref23_Tidy_0 list)⟩], .tup [.sl 1, .int .i64 (ref23_Tidy_1 list)]⟩ := by kernel_rfl
noncomputable def ref23_Tidy_eff : List U → Option Eff
  | [.r list] => some ⟨some (ref23_Tidy_pre list), [], 1, [⟨1, 1, true, .row 29 [.int .i64, .int .i64, .int .i64, .int .i64] (ref23_Tidy_0 list)⟩], .tup [.sl 1, .int .i64 (ref23_Tidy_1 list)]⟩
  | _ => Option.none
noncomputable def D63 : Con := ext Tryz.prog D62 21 [.sl 0] [⟨0, 0, false, .row 29 [.int .i64, .int .i64, .int .i64, .int .i64] []⟩] ref23_Tidy_eff
theorem D63_ok : ConOk Tryz.prog D63 := conOk_ext noSeq_ok D62_ok (n := 9) rfl rfl fun us x h => by
  unfold ref23_Tidy_eff at h
  split at h
  · cases h; exact ⟨some (ref23_Tidy_pre _), ref23_Tidy_col _, fun h => h⟩
  · cases h
end Go.Proofs.YtddfnokjnafdpaaGreat
