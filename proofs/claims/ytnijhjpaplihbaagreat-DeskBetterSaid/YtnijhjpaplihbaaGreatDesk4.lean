/- Several texts in one (wip/merge.py): XDesk3 XDesk4. -/
import Derived.Test.YtnijhjpaplihbaaGreatRows
import Derived.Test.YtnijhjpaplihbaaGreatSyH
import Derived.Test.YtnijhjpaplihbaaGreatDesk3D
import Derived.Test.YtnijhjpaplihbaaGreatDesk2
import Derived.Test.YtnijhjpaplihbaaGreatDeskS
import Derived.Test.YtnijhjpaplihbaaGreatDeskZ
import Derived.Test.YtnijhjpaplihbaaGreatDesk4D
/-! Written by program (wip/sygen.py): the contracts of the Go functions. -/
set_option maxRecDepth 100000
set_option linter.unusedVariables false
namespace Go.Proofs.YtnijhjpaplihbaaGreat
open Go Go.Sy
theorem desk_Named_col (from_ most : Int) (base forecast reports : List (List Int)) : collapse Tryz.prog 3 (execFn Tryz.prog K53 deskSeq 12 16 [.sl 0, .sl 1, .int .i64 from_, .sl 2, .int .i64 most] ⟨[⟨0, 3, false, .row 42 [.int .i64, .int .i64, .int .i64, .int .i64] base⟩, ⟨1, 3, false, .row 56 [.int .i64, .int .i64, .int .i64, .int .i64, .int .i64, .int .i64] forecast⟩, ⟨2, 3, false, .row 58 [.int .i64, .int .i64, .int .i64, .int .i64, .int .i64, .int .i64, .int .i64, .int .i64, .int .i64, .int .i64, .int .i64, .int .i64, .int .i64] reports⟩], 3⟩) = some ⟨some (desk_Named_pre from_ most base forecast reports), [], 1, [⟨3, 3, true, .row 3 [.int .i64] (desk_Named_0 from_ most base forecast reports)⟩], .tup [.sl 3, .int .i64 (desk_Named_1 from_ most base forecast reports)]⟩ := by kernel_rfl
noncomputable def desk_Named_eff : List U → Option Eff
  | [.i from_, .i most, .r base, .r forecast, .r reports] => some ⟨some (desk_Named_pre from_ most base forecast reports), [], 1, [⟨3, 3, true, .row 3 [.int .i64] (desk_Named_0 from_ most base forecast reports)⟩], .tup [.sl 3, .int .i64 (desk_Named_1 from_ most base forecast reports)]⟩
  | _ => Option.none
noncomputable def K54 : Con := ext Tryz.prog K53 16 [.sl 0, .sl 1, .int .i64 0, .sl 2, .int .i64 0] [⟨0, 0, false, .row 42 [.int .i64, .int .i64, .int .i64, .int .i64] []⟩, ⟨1, 0, false, .row 56 [.int .i64, .int .i64, .int .i64, .int .i64, .int .i64, .int .i64] []⟩, ⟨2, 0, false, .row 58 [.int .i64, .int .i64, .int .i64, .int .i64, .int .i64, .int .i64, .int .i64, .int .i64, .int .i64, .int .i64, .int .i64, .int .i64, .int .i64] []⟩] desk_Named_eff
theorem K54_ok : ConOk Tryz.prog K54 := conOk_ext deskSeq_ok K53_ok (n := 12) rfl rfl fun us x h => by
  unfold desk_Named_eff at h
  split at h
  · cases h; exact ⟨some (desk_Named_pre _ _ _ _ _), desk_Named_col _ _ _ _ _, fun h => h⟩
  · cases h
end Go.Proofs.YtnijhjpaplihbaaGreat

/-! Written by program (wip/sygen.py): the contracts of the Go functions. -/
set_option maxRecDepth 100000
set_option linter.unusedVariables false
namespace Go.Proofs.YtnijhjpaplihbaaGreat
open Go Go.Sy
theorem law25_head_col  : collapse Tryz.prog 0 (execFn Tryz.prog K54 deskSeq 12 5 [] ⟨[], 0⟩) = some ⟨some (law25_head_pre), [], 0, [], .bool (law25_head_0)⟩ := by kernel_rfl
noncomputable def law25_head_eff : List U → Option Eff
  | [] => some ⟨some (law25_head_pre), [], 0, [], .bool (law25_head_0)⟩
  | _ => Option.none
noncomputable def K55 : Con := ext Tryz.prog K54 5 [] [] law25_head_eff
theorem K55_ok : ConOk Tryz.prog K55 := conOk_ext deskSeq_ok K54_ok (n := 12) rfl rfl fun us x h => by
  unfold law25_head_eff at h
  split at h
  · cases h; exact ⟨some (law25_head_pre), law25_head_col, fun h => h⟩
  · cases h
noncomputable def K56 : Con := K55
theorem K56_ok : ConOk Tryz.prog K56 := K55_ok
noncomputable def K57 : Con := K56
theorem K57_ok : ConOk Tryz.prog K57 := K56_ok
noncomputable def K58 : Con := K57
theorem K58_ok : ConOk Tryz.prog K58 := K57_ok
noncomputable def K59 : Con := K58
theorem K59_ok : ConOk Tryz.prog K59 := K58_ok
noncomputable def K60 : Con := K59
theorem K60_ok : ConOk Tryz.prog K60 := K59_ok
noncomputable def K61 : Con := K60
theorem K61_ok : ConOk Tryz.prog K61 := K60_ok
end Go.Proofs.YtnijhjpaplihbaaGreat
