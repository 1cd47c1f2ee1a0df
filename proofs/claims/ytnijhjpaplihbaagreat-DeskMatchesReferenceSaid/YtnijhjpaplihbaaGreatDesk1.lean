/- Written by program (wip/sygen.py): the contracts of the Go functions. -/
import Derived.Test.YtnijhjpaplihbaaGreatRows
import Derived.Test.YtnijhjpaplihbaaGreatSyH
import Derived.Test.YtnijhjpaplihbaaGreatDesk1D
import Derived.Test.YtnijhjpaplihbaaGreatDesk0
set_option maxRecDepth 100000
set_option linter.unusedVariables false
namespace Go.Proofs.YtnijhjpaplihbaaGreat
open Go Go.Sy
theorem xtu (a6 : Int) (a8 a0 a1 a7 : List (List Int)) : xae Tryz.prog 4 (xat Tryz.prog K39 xec 9 6 [.sl 0, .sl 1, .int .i64 a6, .sl 2, .sl 3] ⟨[⟨0, 4, false, .row 42 [.int .i64, .int .i64, .int .i64, .int .i64] a8⟩, ⟨1, 4, false, .row 56 [.int .i64, .int .i64, .int .i64, .int .i64, .int .i64, .int .i64] a0⟩, ⟨2, 4, false, .row 58 [.int .i64, .int .i64, .int .i64, .int .i64, .int .i64, .int .i64, .int .i64, .int .i64, .int .i64, .int .i64, .int .i64, .int .i64, .int .i64] a1⟩, ⟨3, 4, false, .row 3 [.int .i64] a7⟩], 4⟩) = some ⟨some (xbx a6 a8 a0 a1 a7), [], 1, [⟨4, 4, true, .row 42 [.int .i64, .int .i64, .int .i64, .int .i64] (xcb a6 a8 a0 a1 a7)⟩], .tup [.sl 4, .int .i64 (xbw a6 a8 a0 a1 a7)]⟩ := by kernel_rfl
noncomputable def xnb : List U → Option Eff
 | [.i a6, .r a8, .r a0, .r a1, .r a7] => some ⟨some (xbx a6 a8 a0 a1 a7), [], 1, [⟨4, 4, true, .row 42 [.int .i64, .int .i64, .int .i64, .int .i64] (xcb a6 a8 a0 a1 a7)⟩], .tup [.sl 4, .int .i64 (xbw a6 a8 a0 a1 a7)]⟩
 | _ => Option.none
noncomputable def K40 : Con := ext Tryz.prog K39 6 [.sl 0, .sl 1, .int .i64 0, .sl 2, .sl 3] [⟨0, 0, false, .row 42 [.int .i64, .int .i64, .int .i64, .int .i64] []⟩, ⟨1, 0, false, .row 56 [.int .i64, .int .i64, .int .i64, .int .i64, .int .i64, .int .i64] []⟩, ⟨2, 0, false, .row 58 [.int .i64, .int .i64, .int .i64, .int .i64, .int .i64, .int .i64, .int .i64, .int .i64, .int .i64, .int .i64, .int .i64, .int .i64, .int .i64] []⟩, ⟨3, 0, false, .row 3 [.int .i64] []⟩] xnb
theorem xFx : xaI Tryz.prog K40 := xad xaP xFy (n := 9) rfl rfl fun us x h => by
 unfold xnb at h
 split at h
 ·cases h; exact ⟨some (xbx _ _ _ _ _), xtu _ _ _ _ _, fun h => h⟩
 ·cases h
theorem xux (a6 : Int) (a8 a0 a1 a7 a9 : List (List Int)) : xae Tryz.prog 5 (xat Tryz.prog K40 xec 9 9 [.sl 0, .sl 1, .int .i64 a6, .sl 2, .sl 3, .sl 4] ⟨[⟨0, 5, false, .row 42 [.int .i64, .int .i64, .int .i64, .int .i64] a8⟩, ⟨1, 5, false, .row 56 [.int .i64, .int .i64, .int .i64, .int .i64, .int .i64, .int .i64] a0⟩, ⟨2, 5, false, .row 58 [.int .i64, .int .i64, .int .i64, .int .i64, .int .i64, .int .i64, .int .i64, .int .i64, .int .i64, .int .i64, .int .i64, .int .i64, .int .i64] a1⟩, ⟨3, 5, false, .row 3 [.int .i64] a7⟩, ⟨4, 5, false, .row 49 [.int .i64, .int .i64] a9⟩], 5⟩) = some ⟨some (xdc a6 a8 a0 a1 a7 a9), [], 0, [], .tup [.bool (xb3 a6 a8 a0 a1 a7 a9), .int .i64 (xcP a6 a8 a0 a1 a7 a9)]⟩ := by kernel_rfl
noncomputable def xoo : List U → Option Eff
 | [.i a6, .r a8, .r a0, .r a1, .r a7, .r a9] => some ⟨some (xdc a6 a8 a0 a1 a7 a9), [], 0, [], .tup [.bool (xb3 a6 a8 a0 a1 a7 a9), .int .i64 (xcP a6 a8 a0 a1 a7 a9)]⟩
 | _ => Option.none
noncomputable def K41 : Con := ext Tryz.prog K40 9 [.sl 0, .sl 1, .int .i64 0, .sl 2, .sl 3, .sl 4] [⟨0, 0, false, .row 42 [.int .i64, .int .i64, .int .i64, .int .i64] []⟩, ⟨1, 0, false, .row 56 [.int .i64, .int .i64, .int .i64, .int .i64, .int .i64, .int .i64] []⟩, ⟨2, 0, false, .row 58 [.int .i64, .int .i64, .int .i64, .int .i64, .int .i64, .int .i64, .int .i64, .int .i64, .int .i64, .int .i64, .int .i64, .int .i64, .int .i64] []⟩, ⟨3, 0, false, .row 3 [.int .i64] []⟩, ⟨4, 0, false, .row 49 [.int .i64, .int .i64] []⟩] xoo
theorem xFw : xaI Tryz.prog K41 := xad xaP xFx (n := 9) rfl rfl fun us x h => by
 unfold xoo at h
 split at h
 ·cases h; exact ⟨some (xdc _ _ _ _ _ _), xux _ _ _ _ _ _, fun h => h⟩
 ·cases h
theorem xsJ (a2 a3 a4 a5 b1 b2 : Int) : xae Tryz.prog 0 (xat Tryz.prog K41 xec 9 55 [.agg [.int .i64 a2, .int .i64 a3, .int .i64 a4, .int .i64 a5], .agg [.int .i64 b1, .int .i64 b2]] ⟨[], 0⟩) = some ⟨none, [], 0, [], .bool (xhV a2 a3 a4 a5 b1 b2)⟩ := by kernel_rfl
noncomputable def xmG : List U → Option Eff
 | [.i a2, .i a3, .i a4, .i a5, .i b1, .i b2] => some ⟨none, [], 0, [], .bool (xhV a2 a3 a4 a5 b1 b2)⟩
 | _ => Option.none
noncomputable def K42 : Con := ext Tryz.prog K41 55 [.agg [.int .i64 0, .int .i64 0, .int .i64 0, .int .i64 0], .agg [.int .i64 0, .int .i64 0]] [] xmG
theorem xFv : xaI Tryz.prog K42 := xad xaP xFw (n := 9) rfl rfl fun us x h => by
 unfold xmG at h
 split at h
 ·cases h; exact ⟨none, xsJ _ _ _ _ _ _, fun _ => trivial⟩
 ·cases h
theorem xvL (b4 b5 x : Int) : xae Tryz.prog 0 (xat Tryz.prog K42 xec 9 79 [.agg [.int .i64 b4, .int .i64 b5], .int .i64 x] ⟨[], 0⟩) = some ⟨none, [], 0, [], .bool (xjP b4 b5 x)⟩ := by kernel_rfl
noncomputable def xpq : List U → Option Eff
 | [.i b4, .i b5, .i x] => some ⟨none, [], 0, [], .bool (xjP b4 b5 x)⟩
 | _ => Option.none
noncomputable def K43 : Con := ext Tryz.prog K42 79 [.agg [.int .i64 0, .int .i64 0], .int .i64 0] [] xpq
theorem xFu : xaI Tryz.prog K43 := xad xaP xFv (n := 9) rfl rfl fun us x h => by
 unfold xpq at h
 split at h
 ·cases h; exact ⟨none, xvL _ _ _, fun _ => trivial⟩
 ·cases h
theorem xvJ (b1 b2 : Int) (b3 : List (List Int)) : xae Tryz.prog 1 (xat Tryz.prog K43 xec 9 19 [.sl 0, .agg [.int .i64 b1, .int .i64 b2]] ⟨[⟨0, 1, false, .row 42 [.int .i64, .int .i64, .int .i64, .int .i64] b3⟩], 1⟩) = some ⟨some (xg0 b1 b2 b3), [], 0, [], .bool (xeb b1 b2 b3)⟩ := by kernel_rfl
noncomputable def xpm : List U → Option Eff
 | [.i b1, .i b2, .r b3] => some ⟨some (xg0 b1 b2 b3), [], 0, [], .bool (xeb b1 b2 b3)⟩
 | _ => Option.none
noncomputable def K44 : Con := ext Tryz.prog K43 19 [.sl 0, .agg [.int .i64 0, .int .i64 0]] [⟨0, 0, false, .row 42 [.int .i64, .int .i64, .int .i64, .int .i64] []⟩] xpm
theorem xFt : xaI Tryz.prog K44 := xad xaP xFu (n := 9) rfl rfl fun us x h => by
 unfold xpm at h
 split at h
 ·cases h; exact ⟨some (xg0 _ _ _), xvJ _ _ _, fun h => h⟩
 ·cases h
noncomputable def K45 : Con := K44
theorem xFs : xaI Tryz.prog K45 := xFt
theorem xv3 (a b c d : Int) : xae Tryz.prog 0 (xat Tryz.prog K45 xec 9 20 [.int .i64 a, .int .i64 b, .int .i64 c, .int .i64 d] ⟨[], 0⟩) = some ⟨none, [], 0, [], .agg [.int .i64 (xaN a b c d), .int .i64 (xaM a b c d), .int .i64 (xaL a b c d), .int .i64 (xaK a b c d)]⟩ := by kernel_rfl
noncomputable def xpz : List U → Option Eff
 | [.i a, .i b, .i c, .i d] => some ⟨none, [], 0, [], .agg [.int .i64 (xaN a b c d), .int .i64 (xaM a b c d), .int .i64 (xaL a b c d), .int .i64 (xaK a b c d)]⟩
 | _ => Option.none
noncomputable def K46 : Con := ext Tryz.prog K45 20 [.int .i64 0, .int .i64 0, .int .i64 0, .int .i64 0] [] xpz
theorem xFr : xaI Tryz.prog K46 := xad xaP xFs (n := 9) rfl rfl fun us x h => by
 unfold xpz at h
 split at h
 ·cases h; exact ⟨none, xv3 _ _ _ _, fun _ => trivial⟩
 ·cases h
theorem xui (b0 a2 a3 a4 a5 : Int) : xae Tryz.prog 0 (xat Tryz.prog K46 xec 9 21 [.int .i64 b0, .agg [.int .i64 a2, .int .i64 a3, .int .i64 a4, .int .i64 a5]] ⟨[], 0⟩) = some ⟨none, [], 0, [], .agg [.val (Value.int IntKind.i64 (1 : Int)), .int .i64 (xiY b0 a2 a3 a4 a5), .val (Value.int IntKind.i64 (5 : Int)), .val (Value.int IntKind.i64 (1 : Int)), .int .i64 (xiX b0 a2 a3 a4 a5), .int .i64 (xiW b0 a2 a3 a4 a5), .int .i64 (xiV b0 a2 a3 a4 a5), .int .i64 (xiU b0 a2 a3 a4 a5), .val (Value.int IntKind.i64 (1 : Int)), .val (Value.int IntKind.i64 (0 : Int)), .val (Value.int IntKind.i64 (0 : Int)), .val (Value.int IntKind.i64 (1 : Int)), .val (Value.int IntKind.i64 (0 : Int))]⟩ := by kernel_rfl
noncomputable def xoa : List U → Option Eff
 | [.i b0, .i a2, .i a3, .i a4, .i a5] => some ⟨none, [], 0, [], .agg [.val (Value.int IntKind.i64 (1 : Int)), .int .i64 (xiY b0 a2 a3 a4 a5), .val (Value.int IntKind.i64 (5 : Int)), .val (Value.int IntKind.i64 (1 : Int)), .int .i64 (xiX b0 a2 a3 a4 a5), .int .i64 (xiW b0 a2 a3 a4 a5), .int .i64 (xiV b0 a2 a3 a4 a5), .int .i64 (xiU b0 a2 a3 a4 a5), .val (Value.int IntKind.i64 (1 : Int)), .val (Value.int IntKind.i64 (0 : Int)), .val (Value.int IntKind.i64 (0 : Int)), .val (Value.int IntKind.i64 (1 : Int)), .val (Value.int IntKind.i64 (0 : Int))]⟩
 | _ => Option.none
noncomputable def K47 : Con := ext Tryz.prog K46 21 [.int .i64 0, .agg [.int .i64 0, .int .i64 0, .int .i64 0, .int .i64 0]] [] xoa
theorem xFq : xaI Tryz.prog K47 := xad xaP xFr (n := 9) rfl rfl fun us x h => by
 unfold xoa at h
 split at h
 ·cases h; exact ⟨none, xui _ _ _ _ _, fun _ => trivial⟩
 ·cases h
noncomputable def K48 : Con := K47
theorem xFp : xaI Tryz.prog K48 := xFq
noncomputable def K49 : Con := K48
theorem xFo : xaI Tryz.prog K49 := xFp
noncomputable def K50 : Con := K49
theorem xFn : xaI Tryz.prog K50 := xFo
end Go.Proofs.YtnijhjpaplihbaaGreat
