/- Written by program (wip/sygen.py): the contracts of the Go functions. -/
import Derived.Test.YtnijhjpaplihbaaRows
import Derived.Test.YtnijhjpaplihbaaSyH
import Derived.Test.YtnijhjpaplihbaaDesk2D
import Derived.Test.YtnijhjpaplihbaaDesk2
import Derived.Test.YtnijhjpaplihbaaDeskS
import Derived.Test.YtnijhjpaplihbaaDeskZ
import Derived.Test.YtnijhjpaplihbaaDesk3D
set_option maxRecDepth 100000
set_option linter.unusedVariables false
namespace Go.Proofs.Ytnijhjpaplihbaa
open Go Go.Sy
theorem desk_Named_col (from_ most : Int) (base forecast reports : List (List Int)) : collapse Try.prog 3 (execFn Try.prog K53 deskSeq 12 19 [.sl 0, .sl 1, .int .i64 from_, .sl 2, .int .i64 most] ⟨[⟨0, 3, false, .row 48 [.int .i64, .int .i64, .int .i64, .int .i64] base⟩, ⟨1, 3, false, .row 63 [.int .i64, .int .i64, .int .i64, .int .i64, .int .i64, .int .i64] forecast⟩, ⟨2, 3, false, .row 59 [.int .i64, .int .i64, .int .i64, .int .i64, .int .i64, .int .i64, .int .i64, .int .i64, .int .i64, .int .i64, .int .i64, .int .i64, .int .i64] reports⟩], 3⟩) = some ⟨some (desk_Named_pre from_ most base forecast reports), [], 1, [⟨3, 3, true, .row 3 [.int .i64] (desk_Named_0 from_ most base forecast reports)⟩], .tup [.sl 3, .int .i64 (desk_Named_1 from_ most base forecast reports)]⟩ := by kernel_rfl
noncomputable def desk_Named_eff : List U → Option Eff
  | [.i from_, .i most, .r base, .r forecast, .r reports] => some ⟨some (desk_Named_pre from_ most base forecast reports), [], 1, [⟨3, 3, true, .row 3 [.int .i64] (desk_Named_0 from_ most base forecast reports)⟩], .tup [.sl 3, .int .i64 (desk_Named_1 from_ most base forecast reports)]⟩
  | _ => Option.none
noncomputable def K54 : Con := ext Try.prog K53 19 [.sl 0, .sl 1, .int .i64 0, .sl 2, .int .i64 0] [⟨0, 0, false, .row 48 [.int .i64, .int .i64, .int .i64, .int .i64] []⟩, ⟨1, 0, false, .row 63 [.int .i64, .int .i64, .int .i64, .int .i64, .int .i64, .int .i64] []⟩, ⟨2, 0, false, .row 59 [.int .i64, .int .i64, .int .i64, .int .i64, .int .i64, .int .i64, .int .i64, .int .i64, .int .i64, .int .i64, .int .i64, .int .i64, .int .i64] []⟩] desk_Named_eff
theorem K54_ok : ConOk Try.prog K54 := conOk_ext deskSeq_ok K53_ok (n := 12) rfl rfl fun us x h => by
  unfold desk_Named_eff at h
  split at h
  · cases h; exact ⟨some (desk_Named_pre _ _ _ _ _), desk_Named_col _ _ _ _ _, fun h => h⟩
  · cases h
end Go.Proofs.Ytnijhjpaplihbaa
