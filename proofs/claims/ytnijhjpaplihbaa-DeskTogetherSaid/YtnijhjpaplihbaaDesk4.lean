/- Written by program (wip/sygen.py): the contracts of the Go functions. -/
import Derived.Test.YtnijhjpaplihbaaRows
import Derived.Test.YtnijhjpaplihbaaSyH
import Derived.Test.YtnijhjpaplihbaaDesk3D
import Derived.Test.YtnijhjpaplihbaaDesk3
import Derived.Test.YtnijhjpaplihbaaDeskS
import Derived.Test.YtnijhjpaplihbaaDeskZ
import Derived.Test.YtnijhjpaplihbaaDesk4D
set_option maxRecDepth 100000
set_option linter.unusedVariables false
namespace Go.Proofs.Ytnijhjpaplihbaa
open Go Go.Sy
theorem law25_head_col  : collapse Try.prog 0 (execFn Try.prog K54 deskSeq 12 9 [] ⟨[], 0⟩) = some ⟨some (law25_head_pre), [], 0, [], .bool (law25_head_0)⟩ := by kernel_rfl
noncomputable def law25_head_eff : List U → Option Eff
  | [] => some ⟨some (law25_head_pre), [], 0, [], .bool (law25_head_0)⟩
  | _ => Option.none
noncomputable def K55 : Con := ext Try.prog K54 9 [] [] law25_head_eff
theorem K55_ok : ConOk Try.prog K55 := conOk_ext deskSeq_ok K54_ok (n := 12) rfl rfl fun us x h => by
  unfold law25_head_eff at h
  split at h
  · cases h; exact ⟨some (law25_head_pre), law25_head_col, fun h => h⟩
  · cases h
theorem law25_DeskTrue_col (s_From : Int) (s_Base s_Forecast s_Reports wrong track : List (List Int)) : collapse Try.prog 5 (execFn Try.prog K55 deskSeq 12 3 [.agg [.sl 0, .sl 1, .int .i64 s_From, .sl 2], .sl 3, .sl 4] ⟨[⟨0, 5, false, .row 48 [.int .i64, .int .i64, .int .i64, .int .i64] s_Base⟩, ⟨1, 5, false, .row 63 [.int .i64, .int .i64, .int .i64, .int .i64, .int .i64, .int .i64] s_Forecast⟩, ⟨2, 5, false, .row 59 [.int .i64, .int .i64, .int .i64, .int .i64, .int .i64, .int .i64, .int .i64, .int .i64, .int .i64, .int .i64, .int .i64, .int .i64, .int .i64] s_Reports⟩, ⟨3, 5, false, .row 3 [.int .i64] wrong⟩, ⟨4, 5, false, .row 37 [.int .i64, .int .i64] track⟩], 5⟩) = some ⟨some (law25_DeskTrue_pre s_From s_Base s_Forecast s_Reports wrong track), [], 0, [], .bool (law25_DeskTrue_0 s_From s_Base s_Forecast s_Reports wrong track)⟩ := by kernel_rfl
noncomputable def law25_DeskTrue_eff : List U → Option Eff
  | [.i s_From, .r s_Base, .r s_Forecast, .r s_Reports, .r wrong, .r track] => some ⟨some (law25_DeskTrue_pre s_From s_Base s_Forecast s_Reports wrong track), [], 0, [], .bool (law25_DeskTrue_0 s_From s_Base s_Forecast s_Reports wrong track)⟩
  | _ => Option.none
noncomputable def K56 : Con := ext Try.prog K55 3 [.agg [.sl 0, .sl 1, .int .i64 0, .sl 2], .sl 3, .sl 4] [⟨0, 0, false, .row 48 [.int .i64, .int .i64, .int .i64, .int .i64] []⟩, ⟨1, 0, false, .row 63 [.int .i64, .int .i64, .int .i64, .int .i64, .int .i64, .int .i64] []⟩, ⟨2, 0, false, .row 59 [.int .i64, .int .i64, .int .i64, .int .i64, .int .i64, .int .i64, .int .i64, .int .i64, .int .i64, .int .i64, .int .i64, .int .i64, .int .i64] []⟩, ⟨3, 0, false, .row 3 [.int .i64] []⟩, ⟨4, 0, false, .row 37 [.int .i64, .int .i64] []⟩] law25_DeskTrue_eff
theorem K56_ok : ConOk Try.prog K56 := conOk_ext deskSeq_ok K55_ok (n := 12) rfl rfl fun us x h => by
  unfold law25_DeskTrue_eff at h
  split at h
  · cases h; exact ⟨some (law25_DeskTrue_pre _ _ _ _ _ _), law25_DeskTrue_col _ _ _ _ _ _, fun h => h⟩
  · cases h
theorem law25_DeskFewest_col (s_From most : Int) (s_Base s_Forecast s_Reports wrong track other : List (List Int)) : collapse Try.prog 6 (execFn Try.prog K56 deskSeq 12 4 [.agg [.sl 0, .sl 1, .int .i64 s_From, .sl 2], .sl 3, .sl 4, .int .i64 most, .sl 5] ⟨[⟨0, 6, false, .row 48 [.int .i64, .int .i64, .int .i64, .int .i64] s_Base⟩, ⟨1, 6, false, .row 63 [.int .i64, .int .i64, .int .i64, .int .i64, .int .i64, .int .i64] s_Forecast⟩, ⟨2, 6, false, .row 59 [.int .i64, .int .i64, .int .i64, .int .i64, .int .i64, .int .i64, .int .i64, .int .i64, .int .i64, .int .i64, .int .i64, .int .i64, .int .i64] s_Reports⟩, ⟨3, 6, false, .row 3 [.int .i64] wrong⟩, ⟨4, 6, false, .row 37 [.int .i64, .int .i64] track⟩, ⟨5, 6, false, .row 3 [.int .i64] other⟩], 6⟩) = some ⟨some (law25_DeskFewest_pre s_From most s_Base s_Forecast s_Reports wrong track other), [], 0, [], .bool (law25_DeskFewest_0 s_From most s_Base s_Forecast s_Reports wrong track other)⟩ := by kernel_rfl
noncomputable def law25_DeskFewest_eff : List U → Option Eff
  | [.i s_From, .i most, .r s_Base, .r s_Forecast, .r s_Reports, .r wrong, .r track, .r other] => some ⟨some (law25_DeskFewest_pre s_From most s_Base s_Forecast s_Reports wrong track other), [], 0, [], .bool (law25_DeskFewest_0 s_From most s_Base s_Forecast s_Reports wrong track other)⟩
  | _ => Option.none
noncomputable def K57 : Con := ext Try.prog K56 4 [.agg [.sl 0, .sl 1, .int .i64 0, .sl 2], .sl 3, .sl 4, .int .i64 0, .sl 5] [⟨0, 0, false, .row 48 [.int .i64, .int .i64, .int .i64, .int .i64] []⟩, ⟨1, 0, false, .row 63 [.int .i64, .int .i64, .int .i64, .int .i64, .int .i64, .int .i64] []⟩, ⟨2, 0, false, .row 59 [.int .i64, .int .i64, .int .i64, .int .i64, .int .i64, .int .i64, .int .i64, .int .i64, .int .i64, .int .i64, .int .i64, .int .i64, .int .i64] []⟩, ⟨3, 0, false, .row 3 [.int .i64] []⟩, ⟨4, 0, false, .row 37 [.int .i64, .int .i64] []⟩, ⟨5, 0, false, .row 3 [.int .i64] []⟩] law25_DeskFewest_eff
theorem K57_ok : ConOk Try.prog K57 := conOk_ext deskSeq_ok K56_ok (n := 12) rfl rfl fun us x h => by
  unfold law25_DeskFewest_eff at h
  split at h
  · cases h; exact ⟨some (law25_DeskFewest_pre _ _ _ _ _ _ _ _), law25_DeskFewest_col _ _ _ _ _ _ _ _, fun h => h⟩
  · cases h
theorem law25_DeskWhere_col (s_From most : Int) (s_Base s_Forecast s_Reports wrong track : List (List Int)) : collapse Try.prog 5 (execFn Try.prog K57 deskSeq 12 5 [.agg [.sl 0, .sl 1, .int .i64 s_From, .sl 2], .sl 3, .sl 4, .int .i64 most] ⟨[⟨0, 5, false, .row 48 [.int .i64, .int .i64, .int .i64, .int .i64] s_Base⟩, ⟨1, 5, false, .row 63 [.int .i64, .int .i64, .int .i64, .int .i64, .int .i64, .int .i64] s_Forecast⟩, ⟨2, 5, false, .row 59 [.int .i64, .int .i64, .int .i64, .int .i64, .int .i64, .int .i64, .int .i64, .int .i64, .int .i64, .int .i64, .int .i64, .int .i64, .int .i64] s_Reports⟩, ⟨3, 5, false, .row 3 [.int .i64] wrong⟩, ⟨4, 5, false, .row 37 [.int .i64, .int .i64] track⟩], 5⟩) = some ⟨some (law25_DeskWhere_pre s_From most s_Base s_Forecast s_Reports wrong track), [], 0, [], .bool (law25_DeskWhere_0 s_From most s_Base s_Forecast s_Reports wrong track)⟩ := by kernel_rfl
noncomputable def law25_DeskWhere_eff : List U → Option Eff
  | [.i s_From, .i most, .r s_Base, .r s_Forecast, .r s_Reports, .r wrong, .r track] => some ⟨some (law25_DeskWhere_pre s_From most s_Base s_Forecast s_Reports wrong track), [], 0, [], .bool (law25_DeskWhere_0 s_From most s_Base s_Forecast s_Reports wrong track)⟩
  | _ => Option.none
noncomputable def K58 : Con := ext Try.prog K57 5 [.agg [.sl 0, .sl 1, .int .i64 0, .sl 2], .sl 3, .sl 4, .int .i64 0] [⟨0, 0, false, .row 48 [.int .i64, .int .i64, .int .i64, .int .i64] []⟩, ⟨1, 0, false, .row 63 [.int .i64, .int .i64, .int .i64, .int .i64, .int .i64, .int .i64] []⟩, ⟨2, 0, false, .row 59 [.int .i64, .int .i64, .int .i64, .int .i64, .int .i64, .int .i64, .int .i64, .int .i64, .int .i64, .int .i64, .int .i64, .int .i64, .int .i64] []⟩, ⟨3, 0, false, .row 3 [.int .i64] []⟩, ⟨4, 0, false, .row 37 [.int .i64, .int .i64] []⟩] law25_DeskWhere_eff
theorem K58_ok : ConOk Try.prog K58 := conOk_ext deskSeq_ok K57_ok (n := 12) rfl rfl fun us x h => by
  unfold law25_DeskWhere_eff at h
  split at h
  · cases h; exact ⟨some (law25_DeskWhere_pre _ _ _ _ _ _ _), law25_DeskWhere_col _ _ _ _ _ _ _, fun h => h⟩
  · cases h
theorem law25_DeskNamed_col (s_From most : Int) (s_Base s_Forecast s_Reports wrong track : List (List Int)) : collapse Try.prog 5 (execFn Try.prog K58 deskSeq 12 6 [.agg [.sl 0, .sl 1, .int .i64 s_From, .sl 2], .sl 3, .sl 4, .int .i64 most] ⟨[⟨0, 5, false, .row 48 [.int .i64, .int .i64, .int .i64, .int .i64] s_Base⟩, ⟨1, 5, false, .row 63 [.int .i64, .int .i64, .int .i64, .int .i64, .int .i64, .int .i64] s_Forecast⟩, ⟨2, 5, false, .row 59 [.int .i64, .int .i64, .int .i64, .int .i64, .int .i64, .int .i64, .int .i64, .int .i64, .int .i64, .int .i64, .int .i64, .int .i64, .int .i64] s_Reports⟩, ⟨3, 5, false, .row 3 [.int .i64] wrong⟩, ⟨4, 5, false, .row 37 [.int .i64, .int .i64] track⟩], 5⟩) = some ⟨some (law25_DeskNamed_pre s_From most s_Base s_Forecast s_Reports wrong track), [], 0, [], .bool (law25_DeskNamed_0 s_From most s_Base s_Forecast s_Reports wrong track)⟩ := by kernel_rfl
noncomputable def law25_DeskNamed_eff : List U → Option Eff
  | [.i s_From, .i most, .r s_Base, .r s_Forecast, .r s_Reports, .r wrong, .r track] => some ⟨some (law25_DeskNamed_pre s_From most s_Base s_Forecast s_Reports wrong track), [], 0, [], .bool (law25_DeskNamed_0 s_From most s_Base s_Forecast s_Reports wrong track)⟩
  | _ => Option.none
noncomputable def K59 : Con := ext Try.prog K58 6 [.agg [.sl 0, .sl 1, .int .i64 0, .sl 2], .sl 3, .sl 4, .int .i64 0] [⟨0, 0, false, .row 48 [.int .i64, .int .i64, .int .i64, .int .i64] []⟩, ⟨1, 0, false, .row 63 [.int .i64, .int .i64, .int .i64, .int .i64, .int .i64, .int .i64] []⟩, ⟨2, 0, false, .row 59 [.int .i64, .int .i64, .int .i64, .int .i64, .int .i64, .int .i64, .int .i64, .int .i64, .int .i64, .int .i64, .int .i64, .int .i64, .int .i64] []⟩, ⟨3, 0, false, .row 3 [.int .i64] []⟩, ⟨4, 0, false, .row 37 [.int .i64, .int .i64] []⟩] law25_DeskNamed_eff
theorem K59_ok : ConOk Try.prog K59 := conOk_ext deskSeq_ok K58_ok (n := 12) rfl rfl fun us x h => by
  unfold law25_DeskNamed_eff at h
  split at h
  · cases h; exact ⟨some (law25_DeskNamed_pre _ _ _ _ _ _ _), law25_DeskNamed_col _ _ _ _ _ _ _, fun h => h⟩
  · cases h
theorem law25_DeskMore_col (s_From k p_X p_Y : Int) (s_Base s_Forecast s_Reports wrong : List (List Int)) : collapse Try.prog 4 (execFn Try.prog K59 deskSeq 12 7 [.agg [.sl 0, .sl 1, .int .i64 s_From, .sl 2], .sl 3, .int .i64 k, .agg [.int .i64 p_X, .int .i64 p_Y]] ⟨[⟨0, 4, false, .row 48 [.int .i64, .int .i64, .int .i64, .int .i64] s_Base⟩, ⟨1, 4, false, .row 63 [.int .i64, .int .i64, .int .i64, .int .i64, .int .i64, .int .i64] s_Forecast⟩, ⟨2, 4, false, .row 59 [.int .i64, .int .i64, .int .i64, .int .i64, .int .i64, .int .i64, .int .i64, .int .i64, .int .i64, .int .i64, .int .i64, .int .i64, .int .i64] s_Reports⟩, ⟨3, 4, false, .row 3 [.int .i64] wrong⟩], 4⟩) = some ⟨some (law25_DeskMore_pre s_From k p_X p_Y s_Base s_Forecast s_Reports wrong), [], 0, [], .bool (law25_DeskMore_0 s_From k p_X p_Y s_Base s_Forecast s_Reports wrong)⟩ := by kernel_rfl
noncomputable def law25_DeskMore_eff : List U → Option Eff
  | [.i s_From, .i k, .i p_X, .i p_Y, .r s_Base, .r s_Forecast, .r s_Reports, .r wrong] => some ⟨some (law25_DeskMore_pre s_From k p_X p_Y s_Base s_Forecast s_Reports wrong), [], 0, [], .bool (law25_DeskMore_0 s_From k p_X p_Y s_Base s_Forecast s_Reports wrong)⟩
  | _ => Option.none
noncomputable def K60 : Con := ext Try.prog K59 7 [.agg [.sl 0, .sl 1, .int .i64 0, .sl 2], .sl 3, .int .i64 0, .agg [.int .i64 0, .int .i64 0]] [⟨0, 0, false, .row 48 [.int .i64, .int .i64, .int .i64, .int .i64] []⟩, ⟨1, 0, false, .row 63 [.int .i64, .int .i64, .int .i64, .int .i64, .int .i64, .int .i64] []⟩, ⟨2, 0, false, .row 59 [.int .i64, .int .i64, .int .i64, .int .i64, .int .i64, .int .i64, .int .i64, .int .i64, .int .i64, .int .i64, .int .i64, .int .i64, .int .i64] []⟩, ⟨3, 0, false, .row 3 [.int .i64] []⟩] law25_DeskMore_eff
theorem K60_ok : ConOk Try.prog K60 := conOk_ext deskSeq_ok K59_ok (n := 12) rfl rfl fun us x h => by
  unfold law25_DeskMore_eff at h
  split at h
  · cases h; exact ⟨some (law25_DeskMore_pre _ _ _ _ _ _ _ _), law25_DeskMore_col _ _ _ _ _ _ _ _, fun h => h⟩
  · cases h
theorem law25_DeskTogether_col (s_From at_ most : Int) (s_Base s_Forecast s_Reports wrong : List (List Int)) : collapse Try.prog 4 (execFn Try.prog K60 deskSeq 12 8 [.agg [.sl 0, .sl 1, .int .i64 s_From, .sl 2], .int .u8 at_, .sl 3, .int .i64 most] ⟨[⟨0, 4, false, .row 48 [.int .i64, .int .i64, .int .i64, .int .i64] s_Base⟩, ⟨1, 4, false, .row 63 [.int .i64, .int .i64, .int .i64, .int .i64, .int .i64, .int .i64] s_Forecast⟩, ⟨2, 4, false, .row 59 [.int .i64, .int .i64, .int .i64, .int .i64, .int .i64, .int .i64, .int .i64, .int .i64, .int .i64, .int .i64, .int .i64, .int .i64, .int .i64] s_Reports⟩, ⟨3, 4, false, .row 3 [.int .i64] wrong⟩], 4⟩) = some ⟨some (law25_DeskTogether_pre s_From at_ most s_Base s_Forecast s_Reports wrong), [], 0, [], .bool (law25_DeskTogether_0 s_From at_ most s_Base s_Forecast s_Reports wrong)⟩ := by kernel_rfl
noncomputable def law25_DeskTogether_eff : List U → Option Eff
  | [.i s_From, .i at_, .i most, .r s_Base, .r s_Forecast, .r s_Reports, .r wrong] => some ⟨some (law25_DeskTogether_pre s_From at_ most s_Base s_Forecast s_Reports wrong), [], 0, [], .bool (law25_DeskTogether_0 s_From at_ most s_Base s_Forecast s_Reports wrong)⟩
  | _ => Option.none
noncomputable def K61 : Con := ext Try.prog K60 8 [.agg [.sl 0, .sl 1, .int .i64 0, .sl 2], .int .u8 0, .sl 3, .int .i64 0] [⟨0, 0, false, .row 48 [.int .i64, .int .i64, .int .i64, .int .i64] []⟩, ⟨1, 0, false, .row 63 [.int .i64, .int .i64, .int .i64, .int .i64, .int .i64, .int .i64] []⟩, ⟨2, 0, false, .row 59 [.int .i64, .int .i64, .int .i64, .int .i64, .int .i64, .int .i64, .int .i64, .int .i64, .int .i64, .int .i64, .int .i64, .int .i64, .int .i64] []⟩, ⟨3, 0, false, .row 3 [.int .i64] []⟩] law25_DeskTogether_eff
theorem K61_ok : ConOk Try.prog K61 := conOk_ext deskSeq_ok K60_ok (n := 12) rfl rfl fun us x h => by
  unfold law25_DeskTogether_eff at h
  split at h
  · cases h; exact ⟨some (law25_DeskTogether_pre _ _ _ _ _ _ _), law25_DeskTogether_col _ _ _ _ _ _ _, fun h => h⟩
  · cases h
end Go.Proofs.Ytnijhjpaplihbaa
