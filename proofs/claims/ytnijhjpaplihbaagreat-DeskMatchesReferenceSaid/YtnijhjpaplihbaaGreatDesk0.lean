/- Written by program (wip/sygen.py): the contracts of the Go functions. -/
import Derived.Test.YtnijhjpaplihbaaGreatRows
import Derived.Test.YtnijhjpaplihbaaGreatSyH
import Derived.Test.YtnijhjpaplihbaaGreatSight1D
import Derived.Test.YtnijhjpaplihbaaGreatSight1
import Derived.Test.YtnijhjpaplihbaaGreatDesk1D
set_option maxRecDepth 100000
set_option linter.unusedVariables false
namespace Go.Proofs.YtnijhjpaplihbaaGreat
open Go Go.Sy
theorem xnF (a1 : Int) (a2 a a0 : List (List Int)) : xae Tryz.prog 3 (xat Tryz.prog K35 xec 9 22 [.agg [.sl 0, .sl 1, .int .i64 a1, .sl 2]] ⟨[⟨0, 3, false, .row 42 [.int .i64, .int .i64, .int .i64, .int .i64] a2⟩, ⟨1, 3, false, .row 56 [.int .i64, .int .i64, .int .i64, .int .i64, .int .i64, .int .i64] a⟩, ⟨2, 3, false, .row 58 [.int .i64, .int .i64, .int .i64, .int .i64, .int .i64, .int .i64, .int .i64, .int .i64, .int .i64, .int .i64, .int .i64, .int .i64, .int .i64] a0⟩], 3⟩) = some ⟨some (xbC a1 a2 a a0), [], 0, [], .int .i64 (xao a1 a2 a a0)⟩ := by kernel_rfl
noncomputable def xjf : List U → Option Eff
 | [.i a1, .r a2, .r a, .r a0] => some ⟨some (xbC a1 a2 a a0), [], 0, [], .int .i64 (xao a1 a2 a a0)⟩
 | _ => Option.none
noncomputable def K36 : Con := ext Tryz.prog K35 22 [.agg [.sl 0, .sl 1, .int .i64 0, .sl 2]] [⟨0, 0, false, .row 42 [.int .i64, .int .i64, .int .i64, .int .i64] []⟩, ⟨1, 0, false, .row 56 [.int .i64, .int .i64, .int .i64, .int .i64, .int .i64, .int .i64] []⟩, ⟨2, 0, false, .row 58 [.int .i64, .int .i64, .int .i64, .int .i64, .int .i64, .int .i64, .int .i64, .int .i64, .int .i64, .int .i64, .int .i64, .int .i64, .int .i64] []⟩] xjf
theorem xFB : xaI Tryz.prog K36 := xad xaP xCY (n := 9) rfl rfl fun us x h => by
 unfold xjf at h
 split at h
 ·cases h; exact ⟨some (xbC _ _ _ _), xnF _ _ _ _, fun h => h⟩
 ·cases h
theorem xna (a1 : Int) (a2 a a0 a4 : List (List Int)) : xae Tryz.prog 4 (xat Tryz.prog K36 xec 9 23 [.agg [.sl 0, .sl 1, .int .i64 a1, .sl 2], .sl 3] ⟨[⟨0, 4, false, .row 42 [.int .i64, .int .i64, .int .i64, .int .i64] a2⟩, ⟨1, 4, false, .row 56 [.int .i64, .int .i64, .int .i64, .int .i64, .int .i64, .int .i64] a⟩, ⟨2, 4, false, .row 58 [.int .i64, .int .i64, .int .i64, .int .i64, .int .i64, .int .i64, .int .i64, .int .i64, .int .i64, .int .i64, .int .i64, .int .i64, .int .i64] a0⟩, ⟨3, 4, false, .row 3 [.int .i64] a4⟩], 4⟩) = some ⟨some (xbM a1 a2 a a0 a4), [], 0, [], .bool (xa2 a1 a2 a a0 a4)⟩ := by kernel_rfl
noncomputable def xi0 : List U → Option Eff
 | [.i a1, .r a2, .r a, .r a0, .r a4] => some ⟨some (xbM a1 a2 a a0 a4), [], 0, [], .bool (xa2 a1 a2 a a0 a4)⟩
 | _ => Option.none
noncomputable def K37 : Con := ext Tryz.prog K36 23 [.agg [.sl 0, .sl 1, .int .i64 0, .sl 2], .sl 3] [⟨0, 0, false, .row 42 [.int .i64, .int .i64, .int .i64, .int .i64] []⟩, ⟨1, 0, false, .row 56 [.int .i64, .int .i64, .int .i64, .int .i64, .int .i64, .int .i64] []⟩, ⟨2, 0, false, .row 58 [.int .i64, .int .i64, .int .i64, .int .i64, .int .i64, .int .i64, .int .i64, .int .i64, .int .i64, .int .i64, .int .i64, .int .i64, .int .i64] []⟩, ⟨3, 0, false, .row 3 [.int .i64] []⟩] xi0
theorem xFA : xaI Tryz.prog K37 := xad xaP xFB (n := 9) rfl rfl fun us x h => by
 unfold xi0 at h
 split at h
 ·cases h; exact ⟨some (xbM _ _ _ _ _), xna _ _ _ _ _, fun h => h⟩
 ·cases h
theorem xoK (a1 : Int) (a2 a a0 a3 : List (List Int)) : xae Tryz.prog 4 (xat Tryz.prog K37 xec 9 24 [.agg [.sl 0, .sl 1, .int .i64 a1, .sl 2], .sl 3] ⟨[⟨0, 4, false, .row 42 [.int .i64, .int .i64, .int .i64, .int .i64] a2⟩, ⟨1, 4, false, .row 56 [.int .i64, .int .i64, .int .i64, .int .i64, .int .i64, .int .i64] a⟩, ⟨2, 4, false, .row 58 [.int .i64, .int .i64, .int .i64, .int .i64, .int .i64, .int .i64, .int .i64, .int .i64, .int .i64, .int .i64, .int .i64, .int .i64, .int .i64] a0⟩, ⟨3, 4, false, .row 3 [.int .i64] a3⟩], 4⟩) = some ⟨some (xbg a1 a2 a a0 a3), [], 1, [⟨4, 4, true, .row 42 [.int .i64, .int .i64, .int .i64, .int .i64] (xbp a1 a2 a a0 a3)⟩], .tup [.sl 4, .int .i64 (xaG a1 a2 a a0 a3)]⟩ := by kernel_rfl
noncomputable def xj5 : List U → Option Eff
 | [.i a1, .r a2, .r a, .r a0, .r a3] => some ⟨some (xbg a1 a2 a a0 a3), [], 1, [⟨4, 4, true, .row 42 [.int .i64, .int .i64, .int .i64, .int .i64] (xbp a1 a2 a a0 a3)⟩], .tup [.sl 4, .int .i64 (xaG a1 a2 a a0 a3)]⟩
 | _ => Option.none
noncomputable def K38 : Con := ext Tryz.prog K37 24 [.agg [.sl 0, .sl 1, .int .i64 0, .sl 2], .sl 3] [⟨0, 0, false, .row 42 [.int .i64, .int .i64, .int .i64, .int .i64] []⟩, ⟨1, 0, false, .row 56 [.int .i64, .int .i64, .int .i64, .int .i64, .int .i64, .int .i64] []⟩, ⟨2, 0, false, .row 58 [.int .i64, .int .i64, .int .i64, .int .i64, .int .i64, .int .i64, .int .i64, .int .i64, .int .i64, .int .i64, .int .i64, .int .i64, .int .i64] []⟩, ⟨3, 0, false, .row 3 [.int .i64] []⟩] xj5
theorem xFz : xaI Tryz.prog K38 := xad xaP xFA (n := 9) rfl rfl fun us x h => by
 unfold xj5 at h
 split at h
 ·cases h; exact ⟨some (xbg _ _ _ _ _), xoK _ _ _ _ _, fun h => h⟩
 ·cases h
theorem xnG (a1 a5 : Int) (a2 a a0 : List (List Int)) : xae Tryz.prog 3 (xat Tryz.prog K38 xec 9 42 [.agg [.sl 0, .sl 1, .int .i64 a1, .sl 2], .int .i64 a5] ⟨[⟨0, 3, false, .row 42 [.int .i64, .int .i64, .int .i64, .int .i64] a2⟩, ⟨1, 3, false, .row 56 [.int .i64, .int .i64, .int .i64, .int .i64, .int .i64, .int .i64] a⟩, ⟨2, 3, false, .row 58 [.int .i64, .int .i64, .int .i64, .int .i64, .int .i64, .int .i64, .int .i64, .int .i64, .int .i64, .int .i64, .int .i64, .int .i64, .int .i64] a0⟩], 3⟩) = some ⟨some (xbZ a1 a5 a2 a a0), [], 0, [], .int .i64 (xaE a1 a5 a2 a a0)⟩ := by kernel_rfl
noncomputable def xjg : List U → Option Eff
 | [.i a1, .i a5, .r a2, .r a, .r a0] => some ⟨some (xbZ a1 a5 a2 a a0), [], 0, [], .int .i64 (xaE a1 a5 a2 a a0)⟩
 | _ => Option.none
noncomputable def K39 : Con := ext Tryz.prog K38 42 [.agg [.sl 0, .sl 1, .int .i64 0, .sl 2], .int .i64 0] [⟨0, 0, false, .row 42 [.int .i64, .int .i64, .int .i64, .int .i64] []⟩, ⟨1, 0, false, .row 56 [.int .i64, .int .i64, .int .i64, .int .i64, .int .i64, .int .i64] []⟩, ⟨2, 0, false, .row 58 [.int .i64, .int .i64, .int .i64, .int .i64, .int .i64, .int .i64, .int .i64, .int .i64, .int .i64, .int .i64, .int .i64, .int .i64, .int .i64] []⟩] xjg
theorem xFy : xaI Tryz.prog K39 := xad xaP xFz (n := 9) rfl rfl fun us x h => by
 unfold xjg at h
 split at h
 ·cases h; exact ⟨some (xbZ _ _ _ _ _), xnG _ _ _ _ _, fun h => h⟩
 ·cases h
end Go.Proofs.YtnijhjpaplihbaaGreat
