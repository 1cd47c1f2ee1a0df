/- Written by program (wip/sygen.py): the contracts of the Go functions. -/
import Derived.Test.YtjibokphafpcmaaRows
import Derived.Test.YtjibokphafpcmaaSyH
import Derived.Test.YtjibokphafpcmaaDesk0D
import Derived.Test.YtjibokphafpcmaaDesk0
import Derived.Test.YtjibokphafpcmaaDesk1D
set_option maxRecDepth 100000
set_option linter.unusedVariables false
namespace Go.Proofs.Ytjibokphafpcmaa
open Go Go.Sy
theorem desk_Follow_col (from_ : Int) (base forecast reports wrong : List (List Int)) : collapse Try.prog 4 (execFn Try.prog K39 noSeq 9 8 [.sl 0, .sl 1, .int .i64 from_, .sl 2, .sl 3] ⟨[⟨0, 4, false, .row 34 [.int .i64, .int .i64, .int .i64, .int .i64] base⟩, ⟨1, 4, false, .row 79 [.int .i64, .int .i64, .int .i64, .int .i64, .int .i64, .int .i64] forecast⟩, ⟨2, 4, false, .row 51 [.int .i64, .int .i64, .int .i64, .int .i64, .int .i64, .int .i64, .int .i64, .int .i64, .int .i64, .int .i64, .int .i64, .int .i64, .int .i64] reports⟩, ⟨3, 4, false, .row 3 [.int .i64] wrong⟩], 4⟩) = some ⟨some (desk_Follow_pre from_ base forecast reports wrong), [], 1, [⟨4, 4, true, .row 34 [.int .i64, .int .i64, .int .i64, .int .i64] (desk_Follow_0 from_ base forecast reports wrong)⟩], .tup [.sl 4, .int .i64 (desk_Follow_1 from_ base forecast reports wrong)]⟩ := by kernel_rfl
noncomputable def desk_Follow_eff : List U → Option Eff
  | [.i from_, .r base, .r forecast, .r reports, .r wrong] => some ⟨some (desk_Follow_pre from_ base forecast reports wrong), [], 1, [⟨4, 4, true, .row 34 [.int .i64, .int .i64, .int .i64, .int .i64] (desk_Follow_0 from_ base forecast reports wrong)⟩], .tup [.sl 4, .int .i64 (desk_Follow_1 from_ base forecast reports wrong)]⟩
  | _ => Option.none
noncomputable def K40 : Con := ext Try.prog K39 8 [.sl 0, .sl 1, .int .i64 0, .sl 2, .sl 3] [⟨0, 0, false, .row 34 [.int .i64, .int .i64, .int .i64, .int .i64] []⟩, ⟨1, 0, false, .row 79 [.int .i64, .int .i64, .int .i64, .int .i64, .int .i64, .int .i64] []⟩, ⟨2, 0, false, .row 51 [.int .i64, .int .i64, .int .i64, .int .i64, .int .i64, .int .i64, .int .i64, .int .i64, .int .i64, .int .i64, .int .i64, .int .i64, .int .i64] []⟩, ⟨3, 0, false, .row 3 [.int .i64] []⟩] desk_Follow_eff
theorem K40_ok : ConOk Try.prog K40 := conOk_ext noSeq_ok K39_ok (n := 9) rfl rfl fun us x h => by
  unfold desk_Follow_eff at h
  split at h
  · cases h; exact ⟨some (desk_Follow_pre _ _ _ _ _), desk_Follow_col _ _ _ _ _, fun h => h⟩
  · cases h
theorem desk_Check_col (from_ : Int) (base forecast reports wrong track : List (List Int)) : collapse Try.prog 5 (execFn Try.prog K40 noSeq 9 7 [.sl 0, .sl 1, .int .i64 from_, .sl 2, .sl 3, .sl 4] ⟨[⟨0, 5, false, .row 34 [.int .i64, .int .i64, .int .i64, .int .i64] base⟩, ⟨1, 5, false, .row 79 [.int .i64, .int .i64, .int .i64, .int .i64, .int .i64, .int .i64] forecast⟩, ⟨2, 5, false, .row 51 [.int .i64, .int .i64, .int .i64, .int .i64, .int .i64, .int .i64, .int .i64, .int .i64, .int .i64, .int .i64, .int .i64, .int .i64, .int .i64] reports⟩, ⟨3, 5, false, .row 3 [.int .i64] wrong⟩, ⟨4, 5, false, .row 23 [.int .i64, .int .i64] track⟩], 5⟩) = some ⟨some (desk_Check_pre from_ base forecast reports wrong track), [], 0, [], .tup [.bool (desk_Check_0 from_ base forecast reports wrong track), .int .i64 (desk_Check_1 from_ base forecast reports wrong track)]⟩ := by kernel_rfl
noncomputable def desk_Check_eff : List U → Option Eff
  | [.i from_, .r base, .r forecast, .r reports, .r wrong, .r track] => some ⟨some (desk_Check_pre from_ base forecast reports wrong track), [], 0, [], .tup [.bool (desk_Check_0 from_ base forecast reports wrong track), .int .i64 (desk_Check_1 from_ base forecast reports wrong track)]⟩
  | _ => Option.none
noncomputable def K41 : Con := ext Try.prog K40 7 [.sl 0, .sl 1, .int .i64 0, .sl 2, .sl 3, .sl 4] [⟨0, 0, false, .row 34 [.int .i64, .int .i64, .int .i64, .int .i64] []⟩, ⟨1, 0, false, .row 79 [.int .i64, .int .i64, .int .i64, .int .i64, .int .i64, .int .i64] []⟩, ⟨2, 0, false, .row 51 [.int .i64, .int .i64, .int .i64, .int .i64, .int .i64, .int .i64, .int .i64, .int .i64, .int .i64, .int .i64, .int .i64, .int .i64, .int .i64] []⟩, ⟨3, 0, false, .row 3 [.int .i64] []⟩, ⟨4, 0, false, .row 23 [.int .i64, .int .i64] []⟩] desk_Check_eff
theorem K41_ok : ConOk Try.prog K41 := conOk_ext noSeq_ok K40_ok (n := 9) rfl rfl fun us x h => by
  unfold desk_Check_eff at h
  split at h
  · cases h; exact ⟨some (desk_Check_pre _ _ _ _ _ _), desk_Check_col _ _ _ _ _ _, fun h => h⟩
  · cases h
noncomputable def K42 : Con := K41
theorem K42_ok : ConOk Try.prog K42 := K41_ok
noncomputable def K43 : Con := K42
theorem K43_ok : ConOk Try.prog K43 := K42_ok
noncomputable def K44 : Con := K43
theorem K44_ok : ConOk Try.prog K44 := K43_ok
noncomputable def K45 : Con := K44
theorem K45_ok : ConOk Try.prog K45 := K44_ok
noncomputable def K46 : Con := K45
theorem K46_ok : ConOk Try.prog K46 := K45_ok
noncomputable def K47 : Con := K46
theorem K47_ok : ConOk Try.prog K47 := K46_ok
noncomputable def K48 : Con := K47
theorem K48_ok : ConOk Try.prog K48 := K47_ok
noncomputable def K49 : Con := K48
theorem K49_ok : ConOk Try.prog K49 := K48_ok
noncomputable def K50 : Con := K49
theorem K50_ok : ConOk Try.prog K50 := K49_ok
end Go.Proofs.Ytjibokphafpcmaa
