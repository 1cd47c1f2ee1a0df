/- Several texts in one (wip/xiS.py): XDesk3 XDesk4. -/
import Derived.Test.YtnijhjpaplihbaaGreatRows
import Derived.Test.YtnijhjpaplihbaaGreatSyH
import Derived.Test.YtnijhjpaplihbaaGreatDesk3D
import Derived.Test.YtnijhjpaplihbaaGreatDesk2
import Derived.Test.YtnijhjpaplihbaaGreatDeskS
import Derived.Test.YtnijhjpaplihbaaGreatDeskZ
import Derived.Test.YtnijhjpaplihbaaGreatDesk4D
set_option maxRecDepth 100000
set_option linter.unusedVariables false
namespace Go.Proofs.YtnijhjpaplihbaaGreat
open Go Go.Sy
theorem xuw (from_ most : Int) (base forecast reports : List (List Int)) : xae Tryz.prog 3 (xat Tryz.prog K53 xaU 12 16 [.sl 0, .sl 1, .int .i64 from_, .sl 2, .int .i64 most] ⟨[⟨0, 3, false, .row 42 [.int .i64, .int .i64, .int .i64, .int .i64] base⟩, ⟨1, 3, false, .row 56 [.int .i64, .int .i64, .int .i64, .int .i64, .int .i64, .int .i64] forecast⟩, ⟨2, 3, false, .row 58 [.int .i64, .int .i64, .int .i64, .int .i64, .int .i64, .int .i64, .int .i64, .int .i64, .int .i64, .int .i64, .int .i64, .int .i64, .int .i64] reports⟩], 3⟩) = some ⟨some (xdV from_ most base forecast reports), [], 1, [⟨3, 3, true, .row 3 [.int .i64] (xcn from_ most base forecast reports)⟩], .tup [.sl 3, .int .i64 (xdW from_ most base forecast reports)]⟩ := by kernel_rfl
noncomputable def xon : List U → Option Eff
 | [.i from_, .i most, .r base, .r forecast, .r reports] => some ⟨some (xdV from_ most base forecast reports), [], 1, [⟨3, 3, true, .row 3 [.int .i64] (xcn from_ most base forecast reports)⟩], .tup [.sl 3, .int .i64 (xdW from_ most base forecast reports)]⟩
 | _ => Option.none
noncomputable def K54 : Con := ext Tryz.prog K53 16 [.sl 0, .sl 1, .int .i64 0, .sl 2, .int .i64 0] [⟨0, 0, false, .row 42 [.int .i64, .int .i64, .int .i64, .int .i64] []⟩, ⟨1, 0, false, .row 56 [.int .i64, .int .i64, .int .i64, .int .i64, .int .i64, .int .i64] []⟩, ⟨2, 0, false, .row 58 [.int .i64, .int .i64, .int .i64, .int .i64, .int .i64, .int .i64, .int .i64, .int .i64, .int .i64, .int .i64, .int .i64, .int .i64, .int .i64] []⟩] xon
theorem xFj : xaI Tryz.prog K54 := xad xar xFk (n := 12) rfl rfl fun us x h => by
 unfold xon at h
 split at h
 ·cases h; exact ⟨some (xdV _ _ _ _ _), xuw _ _ _ _ _, fun h => h⟩
 ·cases h
end Go.Proofs.YtnijhjpaplihbaaGreat
set_option maxRecDepth 100000
set_option linter.unusedVariables false
namespace Go.Proofs.YtnijhjpaplihbaaGreat
open Go Go.Sy
theorem xus  : xae Tryz.prog 0 (xat Tryz.prog K54 xaU 12 5 [] ⟨[], 0⟩) = some ⟨some (xge), [], 0, [], .bool (xdU)⟩ := by kernel_rfl
noncomputable def xob : List U → Option Eff
 | [] => some ⟨some (xge), [], 0, [], .bool (xdU)⟩
 | _ => Option.none
noncomputable def K55 : Con := ext Tryz.prog K54 5 [] [] xob
theorem xFi : xaI Tryz.prog K55 := xad xar xFj (n := 12) rfl rfl fun us x h => by
 unfold xob at h
 split at h
 ·cases h; exact ⟨some (xge), xus, fun h => h⟩
 ·cases h
noncomputable def K56 : Con := K55
theorem xFh : xaI Tryz.prog K56 := xFi
noncomputable def K57 : Con := K56
theorem xFg : xaI Tryz.prog K57 := xFh
noncomputable def K58 : Con := K57
theorem xFf : xaI Tryz.prog K58 := xFg
noncomputable def K59 : Con := K58
theorem xFe : xaI Tryz.prog K59 := xFf
noncomputable def K60 : Con := K59
theorem xFd : xaI Tryz.prog K60 := xFe
noncomputable def K61 : Con := K60
theorem xFc : xaI Tryz.prog K61 := xFd
end Go.Proofs.YtnijhjpaplihbaaGreat
