/- Written by program (wip/sygen.py): the contracts of the Go functions. -/
import Derived.Test.YtnijhjpaplihbaaGreatRows
import Derived.Test.YtnijhjpaplihbaaGreatSyH
import Derived.Test.YtnijhjpaplihbaaGreatDesk1D
import Derived.Test.YtnijhjpaplihbaaGreatDesk1
import Derived.Test.YtnijhjpaplihbaaGreatDeskS
import Derived.Test.YtnijhjpaplihbaaGreatDeskZ
import Derived.Test.YtnijhjpaplihbaaGreatDesk3D
set_option maxRecDepth 100000
set_option linter.unusedVariables false
namespace Go.Proofs.YtnijhjpaplihbaaGreat
open Go Go.Sy
theorem desk_story_explain_col (s_from most : Int) (s_base s_forecast s_reports : List (List Int)) : collapse Tryz.prog 3 (execFn Tryz.prog K50 deskSeq 12 39 [.agg [.sl 0, .sl 1, .int .i64 s_from, .sl 2], .int .i64 most] ⟨[⟨0, 3, false, .row 42 [.int .i64, .int .i64, .int .i64, .int .i64] s_base⟩, ⟨1, 3, false, .row 56 [.int .i64, .int .i64, .int .i64, .int .i64, .int .i64, .int .i64] s_forecast⟩, ⟨2, 3, false, .row 58 [.int .i64, .int .i64, .int .i64, .int .i64, .int .i64, .int .i64, .int .i64, .int .i64, .int .i64, .int .i64, .int .i64, .int .i64, .int .i64] s_reports⟩], 3⟩) = some ⟨some (desk_story_explain_pre s_from most s_base s_forecast s_reports), [], 2, [⟨3, 3, true, .row 3 [.int .i64] (desk_story_explain_0 s_from most s_base s_forecast s_reports)⟩, ⟨4, 3, true, .row 42 [.int .i64, .int .i64, .int .i64, .int .i64] (desk_story_explain_1 s_from most s_base s_forecast s_reports)⟩], .tup [.sl 3, .sl 4, .int .i64 (desk_story_explain_2 s_from most s_base s_forecast s_reports)]⟩ := by kernel_rfl
noncomputable def desk_story_explain_eff : List U → Option Eff
  | [.i s_from, .i most, .r s_base, .r s_forecast, .r s_reports] => some ⟨some (desk_story_explain_pre s_from most s_base s_forecast s_reports), [], 2, [⟨3, 3, true, .row 3 [.int .i64] (desk_story_explain_0 s_from most s_base s_forecast s_reports)⟩, ⟨4, 3, true, .row 42 [.int .i64, .int .i64, .int .i64, .int .i64] (desk_story_explain_1 s_from most s_base s_forecast s_reports)⟩], .tup [.sl 3, .sl 4, .int .i64 (desk_story_explain_2 s_from most s_base s_forecast s_reports)]⟩
  | _ => Option.none
noncomputable def K51 : Con := ext Tryz.prog K50 39 [.agg [.sl 0, .sl 1, .int .i64 0, .sl 2], .int .i64 0] [⟨0, 0, false, .row 42 [.int .i64, .int .i64, .int .i64, .int .i64] []⟩, ⟨1, 0, false, .row 56 [.int .i64, .int .i64, .int .i64, .int .i64, .int .i64, .int .i64] []⟩, ⟨2, 0, false, .row 58 [.int .i64, .int .i64, .int .i64, .int .i64, .int .i64, .int .i64, .int .i64, .int .i64, .int .i64, .int .i64, .int .i64, .int .i64, .int .i64] []⟩] desk_story_explain_eff
theorem K51_ok : ConOk Tryz.prog K51 := conOk_ext deskSeq_ok K50_ok (n := 12) rfl rfl fun us x h => by
  unfold desk_story_explain_eff at h
  split at h
  · cases h; exact ⟨some (desk_story_explain_pre _ _ _ _ _), desk_story_explain_col _ _ _ _ _, fun h => h⟩
  · cases h
theorem desk_Explain_col (from_ most : Int) (base forecast reports : List (List Int)) : collapse Tryz.prog 3 (execFn Tryz.prog K51 deskSeq 12 11 [.sl 0, .sl 1, .int .i64 from_, .sl 2, .int .i64 most] ⟨[⟨0, 3, false, .row 42 [.int .i64, .int .i64, .int .i64, .int .i64] base⟩, ⟨1, 3, false, .row 56 [.int .i64, .int .i64, .int .i64, .int .i64, .int .i64, .int .i64] forecast⟩, ⟨2, 3, false, .row 58 [.int .i64, .int .i64, .int .i64, .int .i64, .int .i64, .int .i64, .int .i64, .int .i64, .int .i64, .int .i64, .int .i64, .int .i64, .int .i64] reports⟩], 3⟩) = some ⟨some (desk_Explain_pre from_ most base forecast reports), [], 2, [⟨3, 3, true, .row 3 [.int .i64] (desk_Explain_0 from_ most base forecast reports)⟩, ⟨4, 3, true, .row 42 [.int .i64, .int .i64, .int .i64, .int .i64] (desk_Explain_1 from_ most base forecast reports)⟩], .tup [.sl 3, .sl 4, .int .i64 (desk_Explain_2 from_ most base forecast reports)]⟩ := by kernel_rfl
noncomputable def desk_Explain_eff : List U → Option Eff
  | [.i from_, .i most, .r base, .r forecast, .r reports] => some ⟨some (desk_Explain_pre from_ most base forecast reports), [], 2, [⟨3, 3, true, .row 3 [.int .i64] (desk_Explain_0 from_ most base forecast reports)⟩, ⟨4, 3, true, .row 42 [.int .i64, .int .i64, .int .i64, .int .i64] (desk_Explain_1 from_ most base forecast reports)⟩], .tup [.sl 3, .sl 4, .int .i64 (desk_Explain_2 from_ most base forecast reports)]⟩
  | _ => Option.none
noncomputable def K52 : Con := ext Tryz.prog K51 11 [.sl 0, .sl 1, .int .i64 0, .sl 2, .int .i64 0] [⟨0, 0, false, .row 42 [.int .i64, .int .i64, .int .i64, .int .i64] []⟩, ⟨1, 0, false, .row 56 [.int .i64, .int .i64, .int .i64, .int .i64, .int .i64, .int .i64] []⟩, ⟨2, 0, false, .row 58 [.int .i64, .int .i64, .int .i64, .int .i64, .int .i64, .int .i64, .int .i64, .int .i64, .int .i64, .int .i64, .int .i64, .int .i64, .int .i64] []⟩] desk_Explain_eff
theorem K52_ok : ConOk Tryz.prog K52 := conOk_ext deskSeq_ok K51_ok (n := 12) rfl rfl fun us x h => by
  unfold desk_Explain_eff at h
  split at h
  · cases h; exact ⟨some (desk_Explain_pre _ _ _ _ _), desk_Explain_col _ _ _ _ _, fun h => h⟩
  · cases h
theorem desk_Where_col (from_ most : Int) (base forecast reports : List (List Int)) : collapse Tryz.prog 3 (execFn Tryz.prog K52 deskSeq 12 14 [.sl 0, .sl 1, .int .i64 from_, .sl 2, .int .i64 most] ⟨[⟨0, 3, false, .row 42 [.int .i64, .int .i64, .int .i64, .int .i64] base⟩, ⟨1, 3, false, .row 56 [.int .i64, .int .i64, .int .i64, .int .i64, .int .i64, .int .i64] forecast⟩, ⟨2, 3, false, .row 58 [.int .i64, .int .i64, .int .i64, .int .i64, .int .i64, .int .i64, .int .i64, .int .i64, .int .i64, .int .i64, .int .i64, .int .i64, .int .i64] reports⟩], 3⟩) = some ⟨some (desk_Where_pre from_ most base forecast reports), [], 0, [], .tup [.agg [.int .i64 (desk_Where_0 from_ most base forecast reports), .int .i64 (desk_Where_1 from_ most base forecast reports), .int .i64 (desk_Where_2 from_ most base forecast reports), .int .i64 (desk_Where_3 from_ most base forecast reports)], .int .i64 (desk_Where_4 from_ most base forecast reports)]⟩ := by kernel_rfl
noncomputable def desk_Where_eff : List U → Option Eff
  | [.i from_, .i most, .r base, .r forecast, .r reports] => some ⟨some (desk_Where_pre from_ most base forecast reports), [], 0, [], .tup [.agg [.int .i64 (desk_Where_0 from_ most base forecast reports), .int .i64 (desk_Where_1 from_ most base forecast reports), .int .i64 (desk_Where_2 from_ most base forecast reports), .int .i64 (desk_Where_3 from_ most base forecast reports)], .int .i64 (desk_Where_4 from_ most base forecast reports)]⟩
  | _ => Option.none
noncomputable def K53 : Con := ext Tryz.prog K52 14 [.sl 0, .sl 1, .int .i64 0, .sl 2, .int .i64 0] [⟨0, 0, false, .row 42 [.int .i64, .int .i64, .int .i64, .int .i64] []⟩, ⟨1, 0, false, .row 56 [.int .i64, .int .i64, .int .i64, .int .i64, .int .i64, .int .i64] []⟩, ⟨2, 0, false, .row 58 [.int .i64, .int .i64, .int .i64, .int .i64, .int .i64, .int .i64, .int .i64, .int .i64, .int .i64, .int .i64, .int .i64, .int .i64, .int .i64] []⟩] desk_Where_eff
theorem K53_ok : ConOk Tryz.prog K53 := conOk_ext deskSeq_ok K52_ok (n := 12) rfl rfl fun us x h => by
  unfold desk_Where_eff at h
  split at h
  · cases h; exact ⟨some (desk_Where_pre _ _ _ _ _), desk_Where_col _ _ _ _ _, fun h => h⟩
  · cases h
end Go.Proofs.YtnijhjpaplihbaaGreat
