/- Written by program (wip/sygen.py): the contracts of the Go functions. -/
import Derived.Test.YtnijhjpaplihbaaGreatRows
import Derived.Test.YtnijhjpaplihbaaGreatSyH
import Derived.Test.YtnijhjpaplihbaaGreatDesk4D
import Derived.Test.YtnijhjpaplihbaaGreatDesk4
import Derived.Test.YtnijhjpaplihbaaGreatSySo
import Derived.Test.YtnijhjpaplihbaaGreatDeskY
import Derived.Test.YtnijhjpaplihbaaGreatDesk6D
set_option maxRecDepth 100000
set_option linter.unusedVariables false
namespace Go.Proofs.YtnijhjpaplihbaaGreat
open Go Go.Sy
theorem drift_Better_col (a b : List (List Int)) : collapse Tryz.prog 2 (execFn Tryz.prog Q3 noSeq 12 18 [.sl 0, .sl 1] ⟨[⟨0, 2, false, .row 56 [.int .i64, .int .i64, .int .i64, .int .i64, .int .i64, .int .i64] a⟩, ⟨1, 2, false, .row 56 [.int .i64, .int .i64, .int .i64, .int .i64, .int .i64, .int .i64] b⟩], 2⟩) = some ⟨some (drift_Better_pre a b), [], 1, [⟨2, 2, true, .row 56 [.int .i64, .int .i64, .int .i64, .int .i64, .int .i64, .int .i64] (drift_Better_0 a b)⟩], .tup [.sl 2, .int .i64 (drift_Better_1 a b)]⟩ := by kernel_rfl
noncomputable def drift_Better_eff : List U → Option Eff
  | [.r a, .r b] => some ⟨some (drift_Better_pre a b), [], 1, [⟨2, 2, true, .row 56 [.int .i64, .int .i64, .int .i64, .int .i64, .int .i64, .int .i64] (drift_Better_0 a b)⟩], .tup [.sl 2, .int .i64 (drift_Better_1 a b)]⟩
  | _ => Option.none
noncomputable def Q4 : Con := ext Tryz.prog Q3 18 [.sl 0, .sl 1] [⟨0, 0, false, .row 56 [.int .i64, .int .i64, .int .i64, .int .i64, .int .i64, .int .i64] []⟩, ⟨1, 0, false, .row 56 [.int .i64, .int .i64, .int .i64, .int .i64, .int .i64, .int .i64] []⟩] drift_Better_eff
theorem Q4_ok : ConOk Tryz.prog Q4 := conOk_ext noSeq_ok Q3_ok (n := 12) rfl rfl fun us x h => by
  unfold drift_Better_eff at h
  split at h
  · cases h; exact ⟨some (drift_Better_pre _ _), drift_Better_col _ _, fun h => h⟩
  · cases h
theorem law25_DeskBetter_col (s_From p_X p_Y : Int) (s_Base s_Forecast s_Reports more wrong : List (List Int)) : collapse Tryz.prog 5 (execFn Tryz.prog Q4 noSeq 12 4 [.agg [.sl 0, .sl 1, .int .i64 s_From, .sl 2], .sl 3, .sl 4, .agg [.int .i64 p_X, .int .i64 p_Y]] ⟨[⟨0, 5, false, .row 42 [.int .i64, .int .i64, .int .i64, .int .i64] s_Base⟩, ⟨1, 5, false, .row 56 [.int .i64, .int .i64, .int .i64, .int .i64, .int .i64, .int .i64] s_Forecast⟩, ⟨2, 5, false, .row 58 [.int .i64, .int .i64, .int .i64, .int .i64, .int .i64, .int .i64, .int .i64, .int .i64, .int .i64, .int .i64, .int .i64, .int .i64, .int .i64] s_Reports⟩, ⟨3, 5, false, .row 56 [.int .i64, .int .i64, .int .i64, .int .i64, .int .i64, .int .i64] more⟩, ⟨4, 5, false, .row 3 [.int .i64] wrong⟩], 5⟩) = some ⟨some (law25_DeskBetter_pre s_From p_X p_Y s_Base s_Forecast s_Reports more wrong), [], 0, [], .bool (law25_DeskBetter_0 s_From p_X p_Y s_Base s_Forecast s_Reports more wrong)⟩ := by kernel_rfl
noncomputable def law25_DeskBetter_eff : List U → Option Eff
  | [.i s_From, .i p_X, .i p_Y, .r s_Base, .r s_Forecast, .r s_Reports, .r more, .r wrong] => some ⟨some (law25_DeskBetter_pre s_From p_X p_Y s_Base s_Forecast s_Reports more wrong), [], 0, [], .bool (law25_DeskBetter_0 s_From p_X p_Y s_Base s_Forecast s_Reports more wrong)⟩
  | _ => Option.none
noncomputable def Q5 : Con := ext Tryz.prog Q4 4 [.agg [.sl 0, .sl 1, .int .i64 0, .sl 2], .sl 3, .sl 4, .agg [.int .i64 0, .int .i64 0]] [⟨0, 0, false, .row 42 [.int .i64, .int .i64, .int .i64, .int .i64] []⟩, ⟨1, 0, false, .row 56 [.int .i64, .int .i64, .int .i64, .int .i64, .int .i64, .int .i64] []⟩, ⟨2, 0, false, .row 58 [.int .i64, .int .i64, .int .i64, .int .i64, .int .i64, .int .i64, .int .i64, .int .i64, .int .i64, .int .i64, .int .i64, .int .i64, .int .i64] []⟩, ⟨3, 0, false, .row 56 [.int .i64, .int .i64, .int .i64, .int .i64, .int .i64, .int .i64] []⟩, ⟨4, 0, false, .row 3 [.int .i64] []⟩] law25_DeskBetter_eff
theorem Q5_ok : ConOk Tryz.prog Q5 := conOk_ext noSeq_ok Q4_ok (n := 12) rfl rfl fun us x h => by
  unfold law25_DeskBetter_eff at h
  split at h
  · cases h; exact ⟨some (law25_DeskBetter_pre _ _ _ _ _ _ _ _), law25_DeskBetter_col _ _ _ _ _ _ _ _, fun h => h⟩
  · cases h
end Go.Proofs.YtnijhjpaplihbaaGreat
