/- Written by program (wip/sygen.py): the contracts of the Go functions. -/
import Derived.Test.YtnijhjpaplihbaaGreatRows
import Derived.Test.YtnijhjpaplihbaaGreatSyH
import Derived.Test.YtnijhjpaplihbaaGreatSight1D
import Derived.Test.YtnijhjpaplihbaaGreatSight1
import Derived.Test.YtnijhjpaplihbaaGreatDesk1D
set_option maxRecDepth 100000
set_option linter.unusedVariables false
namespace Go.Proofs.YtnijhjpaplihbaaGreat
open Go Go.Sy
theorem desk_story_valid_col (s_from : Int) (s_base s_forecast s_reports : List (List Int)) : collapse Tryz.prog 3 (execFn Tryz.prog K35 noSeq 9 22 [.agg [.sl 0, .sl 1, .int .i64 s_from, .sl 2]] ⟨[⟨0, 3, false, .row 42 [.int .i64, .int .i64, .int .i64, .int .i64] s_base⟩, ⟨1, 3, false, .row 56 [.int .i64, .int .i64, .int .i64, .int .i64, .int .i64, .int .i64] s_forecast⟩, ⟨2, 3, false, .row 58 [.int .i64, .int .i64, .int .i64, .int .i64, .int .i64, .int .i64, .int .i64, .int .i64, .int .i64, .int .i64, .int .i64, .int .i64, .int .i64] s_reports⟩], 3⟩) = some ⟨some (desk_story_valid_pre s_from s_base s_forecast s_reports), [], 0, [], .int .i64 (desk_story_valid_0 s_from s_base s_forecast s_reports)⟩ := by kernel_rfl
noncomputable def desk_story_valid_eff : List U → Option Eff
  | [.i s_from, .r s_base, .r s_forecast, .r s_reports] => some ⟨some (desk_story_valid_pre s_from s_base s_forecast s_reports), [], 0, [], .int .i64 (desk_story_valid_0 s_from s_base s_forecast s_reports)⟩
  | _ => Option.none
noncomputable def K36 : Con := ext Tryz.prog K35 22 [.agg [.sl 0, .sl 1, .int .i64 0, .sl 2]] [⟨0, 0, false, .row 42 [.int .i64, .int .i64, .int .i64, .int .i64] []⟩, ⟨1, 0, false, .row 56 [.int .i64, .int .i64, .int .i64, .int .i64, .int .i64, .int .i64] []⟩, ⟨2, 0, false, .row 58 [.int .i64, .int .i64, .int .i64, .int .i64, .int .i64, .int .i64, .int .i64, .int .i64, .int .i64, .int .i64, .int .i64, .int .i64, .int .i64] []⟩] desk_story_valid_eff
theorem K36_ok : ConOk Tryz.prog K36 := conOk_ext noSeq_ok K35_ok (n := 9) rfl rfl fun us x h => by
  unfold desk_story_valid_eff at h
  split at h
  · cases h; exact ⟨some (desk_story_valid_pre _ _ _ _), desk_story_valid_col _ _ _ _, fun h => h⟩
  · cases h
theorem desk_story_wrongs_col (s_from : Int) (s_base s_forecast s_reports list : List (List Int)) : collapse Tryz.prog 4 (execFn Tryz.prog K36 noSeq 9 23 [.agg [.sl 0, .sl 1, .int .i64 s_from, .sl 2], .sl 3] ⟨[⟨0, 4, false, .row 42 [.int .i64, .int .i64, .int .i64, .int .i64] s_base⟩, ⟨1, 4, false, .row 56 [.int .i64, .int .i64, .int .i64, .int .i64, .int .i64, .int .i64] s_forecast⟩, ⟨2, 4, false, .row 58 [.int .i64, .int .i64, .int .i64, .int .i64, .int .i64, .int .i64, .int .i64, .int .i64, .int .i64, .int .i64, .int .i64, .int .i64, .int .i64] s_reports⟩, ⟨3, 4, false, .row 3 [.int .i64] list⟩], 4⟩) = some ⟨some (desk_story_wrongs_pre s_from s_base s_forecast s_reports list), [], 0, [], .bool (desk_story_wrongs_0 s_from s_base s_forecast s_reports list)⟩ := by kernel_rfl
noncomputable def desk_story_wrongs_eff : List U → Option Eff
  | [.i s_from, .r s_base, .r s_forecast, .r s_reports, .r list] => some ⟨some (desk_story_wrongs_pre s_from s_base s_forecast s_reports list), [], 0, [], .bool (desk_story_wrongs_0 s_from s_base s_forecast s_reports list)⟩
  | _ => Option.none
noncomputable def K37 : Con := ext Tryz.prog K36 23 [.agg [.sl 0, .sl 1, .int .i64 0, .sl 2], .sl 3] [⟨0, 0, false, .row 42 [.int .i64, .int .i64, .int .i64, .int .i64] []⟩, ⟨1, 0, false, .row 56 [.int .i64, .int .i64, .int .i64, .int .i64, .int .i64, .int .i64] []⟩, ⟨2, 0, false, .row 58 [.int .i64, .int .i64, .int .i64, .int .i64, .int .i64, .int .i64, .int .i64, .int .i64, .int .i64, .int .i64, .int .i64, .int .i64, .int .i64] []⟩, ⟨3, 0, false, .row 3 [.int .i64] []⟩] desk_story_wrongs_eff
theorem K37_ok : ConOk Tryz.prog K37 := conOk_ext noSeq_ok K36_ok (n := 9) rfl rfl fun us x h => by
  unfold desk_story_wrongs_eff at h
  split at h
  · cases h; exact ⟨some (desk_story_wrongs_pre _ _ _ _ _), desk_story_wrongs_col _ _ _ _ _, fun h => h⟩
  · cases h
theorem desk_story_left_col (s_from : Int) (s_base s_forecast s_reports wrong : List (List Int)) : collapse Tryz.prog 4 (execFn Tryz.prog K37 noSeq 9 24 [.agg [.sl 0, .sl 1, .int .i64 s_from, .sl 2], .sl 3] ⟨[⟨0, 4, false, .row 42 [.int .i64, .int .i64, .int .i64, .int .i64] s_base⟩, ⟨1, 4, false, .row 56 [.int .i64, .int .i64, .int .i64, .int .i64, .int .i64, .int .i64] s_forecast⟩, ⟨2, 4, false, .row 58 [.int .i64, .int .i64, .int .i64, .int .i64, .int .i64, .int .i64, .int .i64, .int .i64, .int .i64, .int .i64, .int .i64, .int .i64, .int .i64] s_reports⟩, ⟨3, 4, false, .row 3 [.int .i64] wrong⟩], 4⟩) = some ⟨some (desk_story_left_pre s_from s_base s_forecast s_reports wrong), [], 1, [⟨4, 4, true, .row 42 [.int .i64, .int .i64, .int .i64, .int .i64] (desk_story_left_0 s_from s_base s_forecast s_reports wrong)⟩], .tup [.sl 4, .int .i64 (desk_story_left_1 s_from s_base s_forecast s_reports wrong)]⟩ := by kernel_rfl
noncomputable def desk_story_left_eff : List U → Option Eff
  | [.i s_from, .r s_base, .r s_forecast, .r s_reports, .r wrong] => some ⟨some (desk_story_left_pre s_from s_base s_forecast s_reports wrong), [], 1, [⟨4, 4, true, .row 42 [.int .i64, .int .i64, .int .i64, .int .i64] (desk_story_left_0 s_from s_base s_forecast s_reports wrong)⟩], .tup [.sl 4, .int .i64 (desk_story_left_1 s_from s_base s_forecast s_reports wrong)]⟩
  | _ => Option.none
noncomputable def K38 : Con := ext Tryz.prog K37 24 [.agg [.sl 0, .sl 1, .int .i64 0, .sl 2], .sl 3] [⟨0, 0, false, .row 42 [.int .i64, .int .i64, .int .i64, .int .i64] []⟩, ⟨1, 0, false, .row 56 [.int .i64, .int .i64, .int .i64, .int .i64, .int .i64, .int .i64] []⟩, ⟨2, 0, false, .row 58 [.int .i64, .int .i64, .int .i64, .int .i64, .int .i64, .int .i64, .int .i64, .int .i64, .int .i64, .int .i64, .int .i64, .int .i64, .int .i64] []⟩, ⟨3, 0, false, .row 3 [.int .i64] []⟩] desk_story_left_eff
theorem K38_ok : ConOk Tryz.prog K38 := conOk_ext noSeq_ok K37_ok (n := 9) rfl rfl fun us x h => by
  unfold desk_story_left_eff at h
  split at h
  · cases h; exact ⟨some (desk_story_left_pre _ _ _ _ _), desk_story_left_col _ _ _ _ _, fun h => h⟩
  · cases h
theorem desk_story_asked_col (s_from most : Int) (s_base s_forecast s_reports : List (List Int)) : collapse Tryz.prog 3 (execFn Tryz.prog K38 noSeq 9 42 [.agg [.sl 0, .sl 1, .int .i64 s_from, .sl 2], .int .i64 most] ⟨[⟨0, 3, false, .row 42 [.int .i64, .int .i64, .int .i64, .int .i64] s_base⟩, ⟨1, 3, false, .row 56 [.int .i64, .int .i64, .int .i64, .int .i64, .int .i64, .int .i64] s_forecast⟩, ⟨2, 3, false, .row 58 [.int .i64, .int .i64, .int .i64, .int .i64, .int .i64, .int .i64, .int .i64, .int .i64, .int .i64, .int .i64, .int .i64, .int .i64, .int .i64] s_reports⟩], 3⟩) = some ⟨some (desk_story_asked_pre s_from most s_base s_forecast s_reports), [], 0, [], .int .i64 (desk_story_asked_0 s_from most s_base s_forecast s_reports)⟩ := by kernel_rfl
noncomputable def desk_story_asked_eff : List U → Option Eff
  | [.i s_from, .i most, .r s_base, .r s_forecast, .r s_reports] => some ⟨some (desk_story_asked_pre s_from most s_base s_forecast s_reports), [], 0, [], .int .i64 (desk_story_asked_0 s_from most s_base s_forecast s_reports)⟩
  | _ => Option.none
noncomputable def K39 : Con := ext Tryz.prog K38 42 [.agg [.sl 0, .sl 1, .int .i64 0, .sl 2], .int .i64 0] [⟨0, 0, false, .row 42 [.int .i64, .int .i64, .int .i64, .int .i64] []⟩, ⟨1, 0, false, .row 56 [.int .i64, .int .i64, .int .i64, .int .i64, .int .i64, .int .i64] []⟩, ⟨2, 0, false, .row 58 [.int .i64, .int .i64, .int .i64, .int .i64, .int .i64, .int .i64, .int .i64, .int .i64, .int .i64, .int .i64, .int .i64, .int .i64, .int .i64] []⟩] desk_story_asked_eff
theorem K39_ok : ConOk Tryz.prog K39 := conOk_ext noSeq_ok K38_ok (n := 9) rfl rfl fun us x h => by
  unfold desk_story_asked_eff at h
  split at h
  · cases h; exact ⟨some (desk_story_asked_pre _ _ _ _ _), desk_story_asked_col _ _ _ _ _, fun h => h⟩
  · cases h
end Go.Proofs.YtnijhjpaplihbaaGreat
