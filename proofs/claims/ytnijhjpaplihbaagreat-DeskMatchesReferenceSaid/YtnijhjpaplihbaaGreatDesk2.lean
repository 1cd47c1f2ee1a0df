/- Written by program (wip/sygen.py): the contracts of the Go functions. -/
import Derived.Test.YtnijhjpaplihbaaGreatRows
import Derived.Test.YtnijhjpaplihbaaGreatSyH
import Derived.Test.YtnijhjpaplihbaaGreatDesk1D
import Derived.Test.YtnijhjpaplihbaaGreatDesk1
import Derived.Test.YtnijhjpaplihbaaGreatDeskS
import Derived.Test.YtnijhjpaplihbaaGreatDeskZ
import Derived.Test.YtnijhjpaplihbaaGreatDesk3D
set_option maxRecDepth 100000
set_option linter.unusedVariables false
namespace Go.Proofs.YtnijhjpaplihbaaGreat
open Go Go.Sy
theorem xmc (a6 a1 : Int) (a7 a3 a5 : List (List Int)) : xae Tryz.prog 3 (xat Tryz.prog K50 xaU 12 39 [.agg [.sl 0, .sl 1, .int .i64 a6, .sl 2], .int .i64 a1] ⟨[⟨0, 3, false, .row 42 [.int .i64, .int .i64, .int .i64, .int .i64] a7⟩, ⟨1, 3, false, .row 56 [.int .i64, .int .i64, .int .i64, .int .i64, .int .i64, .int .i64] a3⟩, ⟨2, 3, false, .row 58 [.int .i64, .int .i64, .int .i64, .int .i64, .int .i64, .int .i64, .int .i64, .int .i64, .int .i64, .int .i64, .int .i64, .int .i64, .int .i64] a5⟩], 3⟩) = some ⟨some (xbD a6 a1 a7 a3 a5), [], 2, [⟨3, 3, true, .row 3 [.int .i64] (xaf a6 a1 a7 a3 a5)⟩, ⟨4, 3, true, .row 42 [.int .i64, .int .i64, .int .i64, .int .i64] (xdH a6 a1 a7 a3 a5)⟩], .tup [.sl 3, .sl 4, .int .i64 (xbl a6 a1 a7 a3 a5)]⟩ := by kernel_rfl
noncomputable def xik : List U → Option Eff
 | [.i a6, .i a1, .r a7, .r a3, .r a5] => some ⟨some (xbD a6 a1 a7 a3 a5), [], 2, [⟨3, 3, true, .row 3 [.int .i64] (xaf a6 a1 a7 a3 a5)⟩, ⟨4, 3, true, .row 42 [.int .i64, .int .i64, .int .i64, .int .i64] (xdH a6 a1 a7 a3 a5)⟩], .tup [.sl 3, .sl 4, .int .i64 (xbl a6 a1 a7 a3 a5)]⟩
 | _ => Option.none
noncomputable def K51 : Con := ext Tryz.prog K50 39 [.agg [.sl 0, .sl 1, .int .i64 0, .sl 2], .int .i64 0] [⟨0, 0, false, .row 42 [.int .i64, .int .i64, .int .i64, .int .i64] []⟩, ⟨1, 0, false, .row 56 [.int .i64, .int .i64, .int .i64, .int .i64, .int .i64, .int .i64] []⟩, ⟨2, 0, false, .row 58 [.int .i64, .int .i64, .int .i64, .int .i64, .int .i64, .int .i64, .int .i64, .int .i64, .int .i64, .int .i64, .int .i64, .int .i64, .int .i64] []⟩] xik
theorem xFm : xaI Tryz.prog K51 := xad xar xFn (n := 12) rfl rfl fun us x h => by
 unfold xik at h
 split at h
 ·cases h; exact ⟨some (xbD _ _ _ _ _), xmc _ _ _ _ _, fun h => h⟩
 ·cases h
theorem xrW (a2 a1 : Int) (a4 a a0 : List (List Int)) : xae Tryz.prog 3 (xat Tryz.prog K51 xaU 12 11 [.sl 0, .sl 1, .int .i64 a2, .sl 2, .int .i64 a1] ⟨[⟨0, 3, false, .row 42 [.int .i64, .int .i64, .int .i64, .int .i64] a4⟩, ⟨1, 3, false, .row 56 [.int .i64, .int .i64, .int .i64, .int .i64, .int .i64, .int .i64] a⟩, ⟨2, 3, false, .row 58 [.int .i64, .int .i64, .int .i64, .int .i64, .int .i64, .int .i64, .int .i64, .int .i64, .int .i64, .int .i64, .int .i64, .int .i64, .int .i64] a0⟩], 3⟩) = some ⟨some (xcc a2 a1 a4 a a0), [], 2, [⟨3, 3, true, .row 3 [.int .i64] (xdb a2 a1 a4 a a0)⟩, ⟨4, 3, true, .row 42 [.int .i64, .int .i64, .int .i64, .int .i64] (xdX a2 a1 a4 a a0)⟩], .tup [.sl 3, .sl 4, .int .i64 (xda a2 a1 a4 a a0)]⟩ := by kernel_rfl
noncomputable def xl9 : List U → Option Eff
 | [.i a2, .i a1, .r a4, .r a, .r a0] => some ⟨some (xcc a2 a1 a4 a a0), [], 2, [⟨3, 3, true, .row 3 [.int .i64] (xdb a2 a1 a4 a a0)⟩, ⟨4, 3, true, .row 42 [.int .i64, .int .i64, .int .i64, .int .i64] (xdX a2 a1 a4 a a0)⟩], .tup [.sl 3, .sl 4, .int .i64 (xda a2 a1 a4 a a0)]⟩
 | _ => Option.none
noncomputable def K52 : Con := ext Tryz.prog K51 11 [.sl 0, .sl 1, .int .i64 0, .sl 2, .int .i64 0] [⟨0, 0, false, .row 42 [.int .i64, .int .i64, .int .i64, .int .i64] []⟩, ⟨1, 0, false, .row 56 [.int .i64, .int .i64, .int .i64, .int .i64, .int .i64, .int .i64] []⟩, ⟨2, 0, false, .row 58 [.int .i64, .int .i64, .int .i64, .int .i64, .int .i64, .int .i64, .int .i64, .int .i64, .int .i64, .int .i64, .int .i64, .int .i64, .int .i64] []⟩] xl9
theorem xFl : xaI Tryz.prog K52 := xad xar xFm (n := 12) rfl rfl fun us x h => by
 unfold xl9 at h
 split at h
 ·cases h; exact ⟨some (xcc _ _ _ _ _), xrW _ _ _ _ _, fun h => h⟩
 ·cases h
theorem xuv (a2 a1 : Int) (a4 a a0 : List (List Int)) : xae Tryz.prog 3 (xat Tryz.prog K52 xaU 12 14 [.sl 0, .sl 1, .int .i64 a2, .sl 2, .int .i64 a1] ⟨[⟨0, 3, false, .row 42 [.int .i64, .int .i64, .int .i64, .int .i64] a4⟩, ⟨1, 3, false, .row 56 [.int .i64, .int .i64, .int .i64, .int .i64, .int .i64, .int .i64] a⟩, ⟨2, 3, false, .row 58 [.int .i64, .int .i64, .int .i64, .int .i64, .int .i64, .int .i64, .int .i64, .int .i64, .int .i64, .int .i64, .int .i64, .int .i64, .int .i64] a0⟩], 3⟩) = some ⟨some (xc9 a2 a1 a4 a a0), [], 0, [], .tup [.agg [.int .i64 (xcm a2 a1 a4 a a0), .int .i64 (xcl a2 a1 a4 a a0), .int .i64 (xck a2 a1 a4 a a0), .int .i64 (xcj a2 a1 a4 a a0)], .int .i64 (xci a2 a1 a4 a a0)]⟩ := by kernel_rfl
noncomputable def xom : List U → Option Eff
 | [.i a2, .i a1, .r a4, .r a, .r a0] => some ⟨some (xc9 a2 a1 a4 a a0), [], 0, [], .tup [.agg [.int .i64 (xcm a2 a1 a4 a a0), .int .i64 (xcl a2 a1 a4 a a0), .int .i64 (xck a2 a1 a4 a a0), .int .i64 (xcj a2 a1 a4 a a0)], .int .i64 (xci a2 a1 a4 a a0)]⟩
 | _ => Option.none
noncomputable def K53 : Con := ext Tryz.prog K52 14 [.sl 0, .sl 1, .int .i64 0, .sl 2, .int .i64 0] [⟨0, 0, false, .row 42 [.int .i64, .int .i64, .int .i64, .int .i64] []⟩, ⟨1, 0, false, .row 56 [.int .i64, .int .i64, .int .i64, .int .i64, .int .i64, .int .i64] []⟩, ⟨2, 0, false, .row 58 [.int .i64, .int .i64, .int .i64, .int .i64, .int .i64, .int .i64, .int .i64, .int .i64, .int .i64, .int .i64, .int .i64, .int .i64, .int .i64] []⟩] xom
theorem xFk : xaI Tryz.prog K53 := xad xar xFl (n := 12) rfl rfl fun us x h => by
 unfold xom at h
 split at h
 ·cases h; exact ⟨some (xc9 _ _ _ _ _), xuv _ _ _ _ _, fun h => h⟩
 ·cases h
end Go.Proofs.YtnijhjpaplihbaaGreat
