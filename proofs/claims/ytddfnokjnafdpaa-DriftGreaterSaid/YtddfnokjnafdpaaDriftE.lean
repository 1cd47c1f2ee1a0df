/- Written by program (wip/sygen.py): the contracts of the Go functions. -/
import Derived.Test.YtddfnokjnafdpaaRows
import Derived.Test.YtddfnokjnafdpaaSyH
import Derived.Test.YtddfnokjnafdpaaDrift1D
import Derived.Test.YtddfnokjnafdpaaDrift1
import Derived.Test.YtddfnokjnafdpaaSySo
import Derived.Test.YtddfnokjnafdpaaDriftR
import Derived.Test.YtddfnokjnafdpaaDriftCD
import Derived.Test.YtddfnokjnafdpaaDriftC
import Derived.Test.YtddfnokjnafdpaaDriftS
import Derived.Test.YtddfnokjnafdpaaDriftBD
import Derived.Test.YtddfnokjnafdpaaDriftB
import Derived.Test.YtddfnokjnafdpaaDriftED
set_option maxRecDepth 100000
set_option linter.unusedVariables false
namespace Go.Proofs.Ytddfnokjnafdpaa
open Go Go.Sy
theorem law23_head_col  : collapse Try.prog 0 (execFn Try.prog D41 9 10 [] ⟨[], 0⟩) = some ⟨some (law23_head_pre), [], 0, [], .bool (law23_head_0)⟩ := by kernel_rfl
noncomputable def law23_head_eff : List U → Option Eff
  | [] => some ⟨some (law23_head_pre), [], 0, [], .bool (law23_head_0)⟩
  | _ => Option.none
noncomputable def D42 : Con := ext Try.prog D41 10 [] [] law23_head_eff
theorem D42_ok : ConOk Try.prog D42 := conOk_ext D41_ok (n := 9) rfl rfl fun us x h => by
  unfold law23_head_eff at h
  split at h
  · cases h; exact ⟨some (law23_head_pre), law23_head_col, fun h => h⟩
  · cases h
theorem law23_DriftSum_col (from_ mid until_ p_X p_Y q_X q_Y : Int) (forecast : List (List Int)) : collapse Try.prog 1 (execFn Try.prog D42 9 6 [.sl 0, .int .i64 from_, .int .i64 mid, .int .i64 until_, .agg [.int .i64 p_X, .int .i64 p_Y], .agg [.int .i64 q_X, .int .i64 q_Y]] ⟨[⟨0, 1, false, .row 56 [.int .i64, .int .i64, .int .i64, .int .i64, .int .i64, .int .i64] forecast⟩], 1⟩) = some ⟨some (law23_DriftSum_pre from_ mid until_ p_X p_Y q_X q_Y forecast), [], 0, [], .bool (law23_DriftSum_0 from_ mid until_ p_X p_Y q_X q_Y forecast)⟩ := by kernel_rfl
noncomputable def law23_DriftSum_eff : List U → Option Eff
  | [.i from_, .i mid, .i until_, .i p_X, .i p_Y, .i q_X, .i q_Y, .r forecast] => some ⟨some (law23_DriftSum_pre from_ mid until_ p_X p_Y q_X q_Y forecast), [], 0, [], .bool (law23_DriftSum_0 from_ mid until_ p_X p_Y q_X q_Y forecast)⟩
  | _ => Option.none
noncomputable def D43 : Con := ext Try.prog D42 6 [.sl 0, .int .i64 0, .int .i64 0, .int .i64 0, .agg [.int .i64 0, .int .i64 0], .agg [.int .i64 0, .int .i64 0]] [⟨0, 0, false, .row 56 [.int .i64, .int .i64, .int .i64, .int .i64, .int .i64, .int .i64] []⟩] law23_DriftSum_eff
theorem D43_ok : ConOk Try.prog D43 := conOk_ext D42_ok (n := 9) rfl rfl fun us x h => by
  unfold law23_DriftSum_eff at h
  split at h
  · cases h; exact ⟨some (law23_DriftSum_pre _ _ _ _ _ _ _ _), law23_DriftSum_col _ _ _ _ _ _ _ _, fun h => h⟩
  · cases h
theorem law23_DriftHolds_col (from_ until_ p_X p_Y q_X q_Y : Int) (list forecast : List (List Int)) : collapse Try.prog 2 (execFn Try.prog D43 9 7 [.sl 0, .sl 1, .int .i64 from_, .int .i64 until_, .agg [.int .i64 p_X, .int .i64 p_Y], .agg [.int .i64 q_X, .int .i64 q_Y]] ⟨[⟨0, 2, false, .row 42 [.int .i64, .int .i64, .int .i64, .int .i64] list⟩, ⟨1, 2, false, .row 56 [.int .i64, .int .i64, .int .i64, .int .i64, .int .i64, .int .i64] forecast⟩], 2⟩) = some ⟨some (law23_DriftHolds_pre from_ until_ p_X p_Y q_X q_Y list forecast), [], 0, [], .bool (law23_DriftHolds_0 from_ until_ p_X p_Y q_X q_Y list forecast)⟩ := by kernel_rfl
noncomputable def law23_DriftHolds_eff : List U → Option Eff
  | [.i from_, .i until_, .i p_X, .i p_Y, .i q_X, .i q_Y, .r list, .r forecast] => some ⟨some (law23_DriftHolds_pre from_ until_ p_X p_Y q_X q_Y list forecast), [], 0, [], .bool (law23_DriftHolds_0 from_ until_ p_X p_Y q_X q_Y list forecast)⟩
  | _ => Option.none
noncomputable def D44 : Con := ext Try.prog D43 7 [.sl 0, .sl 1, .int .i64 0, .int .i64 0, .agg [.int .i64 0, .int .i64 0], .agg [.int .i64 0, .int .i64 0]] [⟨0, 0, false, .row 42 [.int .i64, .int .i64, .int .i64, .int .i64] []⟩, ⟨1, 0, false, .row 56 [.int .i64, .int .i64, .int .i64, .int .i64, .int .i64, .int .i64] []⟩] law23_DriftHolds_eff
theorem D44_ok : ConOk Try.prog D44 := conOk_ext D43_ok (n := 9) rfl rfl fun us x h => by
  unfold law23_DriftHolds_eff at h
  split at h
  · cases h; exact ⟨some (law23_DriftHolds_pre _ _ _ _ _ _ _ _), law23_DriftHolds_col _ _ _ _ _ _ _ _, fun h => h⟩
  · cases h
theorem law23_DriftSteps_col (from_ mid until_ p_X p_Y q_X q_Y s_X s_Y : Int) (list forecast : List (List Int)) : collapse Try.prog 2 (execFn Try.prog D44 9 3 [.sl 0, .sl 1, .int .i64 from_, .int .i64 mid, .int .i64 until_, .agg [.int .i64 p_X, .int .i64 p_Y], .agg [.int .i64 q_X, .int .i64 q_Y], .agg [.int .i64 s_X, .int .i64 s_Y]] ⟨[⟨0, 2, false, .row 42 [.int .i64, .int .i64, .int .i64, .int .i64] list⟩, ⟨1, 2, false, .row 56 [.int .i64, .int .i64, .int .i64, .int .i64, .int .i64, .int .i64] forecast⟩], 2⟩) = some ⟨some (law23_DriftSteps_pre from_ mid until_ p_X p_Y q_X q_Y s_X s_Y list forecast), [], 0, [], .bool (law23_DriftSteps_0 from_ mid until_ p_X p_Y q_X q_Y s_X s_Y list forecast)⟩ := by kernel_rfl
noncomputable def law23_DriftSteps_eff : List U → Option Eff
  | [.i from_, .i mid, .i until_, .i p_X, .i p_Y, .i q_X, .i q_Y, .i s_X, .i s_Y, .r list, .r forecast] => some ⟨some (law23_DriftSteps_pre from_ mid until_ p_X p_Y q_X q_Y s_X s_Y list forecast), [], 0, [], .bool (law23_DriftSteps_0 from_ mid until_ p_X p_Y q_X q_Y s_X s_Y list forecast)⟩
  | _ => Option.none
noncomputable def D45 : Con := ext Try.prog D44 3 [.sl 0, .sl 1, .int .i64 0, .int .i64 0, .int .i64 0, .agg [.int .i64 0, .int .i64 0], .agg [.int .i64 0, .int .i64 0], .agg [.int .i64 0, .int .i64 0]] [⟨0, 0, false, .row 42 [.int .i64, .int .i64, .int .i64, .int .i64] []⟩, ⟨1, 0, false, .row 56 [.int .i64, .int .i64, .int .i64, .int .i64, .int .i64, .int .i64] []⟩] law23_DriftSteps_eff
theorem D45_ok : ConOk Try.prog D45 := conOk_ext D44_ok (n := 9) rfl rfl fun us x h => by
  unfold law23_DriftSteps_eff at h
  split at h
  · cases h; exact ⟨some (law23_DriftSteps_pre _ _ _ _ _ _ _ _ _ _ _), law23_DriftSteps_col _ _ _ _ _ _ _ _ _ _ _, fun h => h⟩
  · cases h
theorem law23_DriftCut_col (b_X_Lo b_X_Hi b_Y_Lo b_Y_Hi p_X p_Y : Int) (list : List (List Int)) : collapse Try.prog 1 (execFn Try.prog D45 9 9 [.sl 0, .agg [.int .i64 b_X_Lo, .int .i64 b_X_Hi, .int .i64 b_Y_Lo, .int .i64 b_Y_Hi], .agg [.int .i64 p_X, .int .i64 p_Y]] ⟨[⟨0, 1, false, .row 42 [.int .i64, .int .i64, .int .i64, .int .i64] list⟩], 1⟩) = some ⟨some (law23_DriftCut_pre b_X_Lo b_X_Hi b_Y_Lo b_Y_Hi p_X p_Y list), [], 0, [], .bool (law23_DriftCut_0 b_X_Lo b_X_Hi b_Y_Lo b_Y_Hi p_X p_Y list)⟩ := by kernel_rfl
noncomputable def law23_DriftCut_eff : List U → Option Eff
  | [.i b_X_Lo, .i b_X_Hi, .i b_Y_Lo, .i b_Y_Hi, .i p_X, .i p_Y, .r list] => some ⟨some (law23_DriftCut_pre b_X_Lo b_X_Hi b_Y_Lo b_Y_Hi p_X p_Y list), [], 0, [], .bool (law23_DriftCut_0 b_X_Lo b_X_Hi b_Y_Lo b_Y_Hi p_X p_Y list)⟩
  | _ => Option.none
noncomputable def D46 : Con := ext Try.prog D45 9 [.sl 0, .agg [.int .i64 0, .int .i64 0, .int .i64 0, .int .i64 0], .agg [.int .i64 0, .int .i64 0]] [⟨0, 0, false, .row 42 [.int .i64, .int .i64, .int .i64, .int .i64] []⟩] law23_DriftCut_eff
theorem D46_ok : ConOk Try.prog D46 := conOk_ext D45_ok (n := 9) rfl rfl fun us x h => by
  unfold law23_DriftCut_eff at h
  split at h
  · cases h; exact ⟨some (law23_DriftCut_pre _ _ _ _ _ _ _), law23_DriftCut_col _ _ _ _ _ _ _, fun h => h⟩
  · cases h
theorem law23_DriftBetter_col (from_ until_ p_X p_Y q_X q_Y : Int) (a b list : List (List Int)) : collapse Try.prog 3 (execFn Try.prog D46 9 4 [.sl 0, .sl 1, .sl 2, .int .i64 from_, .int .i64 until_, .agg [.int .i64 p_X, .int .i64 p_Y], .agg [.int .i64 q_X, .int .i64 q_Y]] ⟨[⟨0, 3, false, .row 56 [.int .i64, .int .i64, .int .i64, .int .i64, .int .i64, .int .i64] a⟩, ⟨1, 3, false, .row 56 [.int .i64, .int .i64, .int .i64, .int .i64, .int .i64, .int .i64] b⟩, ⟨2, 3, false, .row 42 [.int .i64, .int .i64, .int .i64, .int .i64] list⟩], 3⟩) = some ⟨some (law23_DriftBetter_pre from_ until_ p_X p_Y q_X q_Y a b list), [], 0, [], .bool (law23_DriftBetter_0 from_ until_ p_X p_Y q_X q_Y a b list)⟩ := by kernel_rfl
noncomputable def law23_DriftBetter_eff : List U → Option Eff
  | [.i from_, .i until_, .i p_X, .i p_Y, .i q_X, .i q_Y, .r a, .r b, .r list] => some ⟨some (law23_DriftBetter_pre from_ until_ p_X p_Y q_X q_Y a b list), [], 0, [], .bool (law23_DriftBetter_0 from_ until_ p_X p_Y q_X q_Y a b list)⟩
  | _ => Option.none
noncomputable def D47 : Con := ext Try.prog D46 4 [.sl 0, .sl 1, .sl 2, .int .i64 0, .int .i64 0, .agg [.int .i64 0, .int .i64 0], .agg [.int .i64 0, .int .i64 0]] [⟨0, 0, false, .row 56 [.int .i64, .int .i64, .int .i64, .int .i64, .int .i64, .int .i64] []⟩, ⟨1, 0, false, .row 56 [.int .i64, .int .i64, .int .i64, .int .i64, .int .i64, .int .i64] []⟩, ⟨2, 0, false, .row 42 [.int .i64, .int .i64, .int .i64, .int .i64] []⟩] law23_DriftBetter_eff
theorem D47_ok : ConOk Try.prog D47 := conOk_ext D46_ok (n := 9) rfl rfl fun us x h => by
  unfold law23_DriftBetter_eff at h
  split at h
  · cases h; exact ⟨some (law23_DriftBetter_pre _ _ _ _ _ _ _ _ _), law23_DriftBetter_col _ _ _ _ _ _ _ _ _, fun h => h⟩
  · cases h
theorem law23_DriftTidy_col (p_X p_Y : Int) (list : List (List Int)) : collapse Try.prog 1 (execFn Try.prog D47 9 8 [.sl 0, .agg [.int .i64 p_X, .int .i64 p_Y]] ⟨[⟨0, 1, false, .row 42 [.int .i64, .int .i64, .int .i64, .int .i64] list⟩], 1⟩) = some ⟨some (law23_DriftTidy_pre p_X p_Y list), [], 0, [], .bool (law23_DriftTidy_0 p_X p_Y list)⟩ := by kernel_rfl
noncomputable def law23_DriftTidy_eff : List U → Option Eff
  | [.i p_X, .i p_Y, .r list] => some ⟨some (law23_DriftTidy_pre p_X p_Y list), [], 0, [], .bool (law23_DriftTidy_0 p_X p_Y list)⟩
  | _ => Option.none
noncomputable def D48 : Con := ext Try.prog D47 8 [.sl 0, .agg [.int .i64 0, .int .i64 0]] [⟨0, 0, false, .row 42 [.int .i64, .int .i64, .int .i64, .int .i64] []⟩] law23_DriftTidy_eff
theorem D48_ok : ConOk Try.prog D48 := conOk_ext D47_ok (n := 9) rfl rfl fun us x h => by
  unfold law23_DriftTidy_eff at h
  split at h
  · cases h; exact ⟨some (law23_DriftTidy_pre _ _ _), law23_DriftTidy_col _ _ _, fun h => h⟩
  · cases h
theorem law23_DriftGreater_col (from_ until_ by_ : Int) (a b forecast : List (List Int)) : collapse Try.prog 3 (execFn Try.prog D48 9 5 [.sl 0, .sl 1, .sl 2, .int .i64 from_, .int .i64 until_, .int .i64 by_] ⟨[⟨0, 3, false, .row 42 [.int .i64, .int .i64, .int .i64, .int .i64] a⟩, ⟨1, 3, false, .row 42 [.int .i64, .int .i64, .int .i64, .int .i64] b⟩, ⟨2, 3, false, .row 56 [.int .i64, .int .i64, .int .i64, .int .i64, .int .i64, .int .i64] forecast⟩], 3⟩) = some ⟨some (law23_DriftGreater_pre from_ until_ by_ a b forecast), [], 0, [], .bool (law23_DriftGreater_0 from_ until_ by_ a b forecast)⟩ := by kernel_rfl
noncomputable def law23_DriftGreater_eff : List U → Option Eff
  | [.i from_, .i until_, .i by_, .r a, .r b, .r forecast] => some ⟨some (law23_DriftGreater_pre from_ until_ by_ a b forecast), [], 0, [], .bool (law23_DriftGreater_0 from_ until_ by_ a b forecast)⟩
  | _ => Option.none
noncomputable def D49 : Con := ext Try.prog D48 5 [.sl 0, .sl 1, .sl 2, .int .i64 0, .int .i64 0, .int .i64 0] [⟨0, 0, false, .row 42 [.int .i64, .int .i64, .int .i64, .int .i64] []⟩, ⟨1, 0, false, .row 42 [.int .i64, .int .i64, .int .i64, .int .i64] []⟩, ⟨2, 0, false, .row 56 [.int .i64, .int .i64, .int .i64, .int .i64, .int .i64, .int .i64] []⟩] law23_DriftGreater_eff
theorem D49_ok : ConOk Try.prog D49 := conOk_ext D48_ok (n := 9) rfl rfl fun us x h => by
  unfold law23_DriftGreater_eff at h
  split at h
  · cases h; exact ⟨some (law23_DriftGreater_pre _ _ _ _ _ _), law23_DriftGreater_col _ _ _ _ _ _, fun h => h⟩
  · cases h
end Go.Proofs.Ytddfnokjnafdpaa
