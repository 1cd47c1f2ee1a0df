/- Written by program (wip/sygen.py): the contracts of the Go functions. -/
import Derived.Test.YtnijhjpaplihbaaGreatRows
import Derived.Test.YtnijhjpaplihbaaGreatSyH
import Derived.Test.YtnijhjpaplihbaaGreatDrift1D
set_option maxRecDepth 100000
set_option linter.unusedVariables false
namespace Go.Proofs.YtnijhjpaplihbaaGreat
open Go Go.Sy
noncomputable def K0 : Con := Con.none
theorem xGH : xaI Tryz.prog K0 := xAc _
theorem xt1 (b2 b3 : Int) : xae Tryz.prog 0 (xat Tryz.prog K0 xec 9 93 [.agg [.int .i64 b2, .int .i64 b3]] ⟨[], 0⟩) = some ⟨none, [], 0, [], .bool (xaw b2 b3)⟩ := by kernel_rfl
noncomputable def xnI : List U → Option Eff
 | [.i b2, .i b3] => some ⟨none, [], 0, [], .bool (xaw b2 b3)⟩
 | _ => Option.none
noncomputable def K1 : Con := ext Tryz.prog K0 93 [.agg [.int .i64 0, .int .i64 0]] [] xnI
theorem xGG : xaI Tryz.prog K1 := xad xaP xGH (n := 9) rfl rfl fun us x h => by
 unfold xnI at h
 split at h
 ·cases h; exact ⟨none, xt1 _ _, fun _ => trivial⟩
 ·cases h
theorem xqe (a b : Int) : xae Tryz.prog 0 (xat Tryz.prog K1 xec 9 118 [.int .i64 a, .int .i64 b] ⟨[], 0⟩) = some ⟨none, [], 0, [], .tup [.int .i64 (xd4 a b), .int .i64 (xd3 a b)]⟩ := by kernel_rfl
noncomputable def xkV : List U → Option Eff
 | [.i a, .i b] => some ⟨none, [], 0, [], .tup [.int .i64 (xd4 a b), .int .i64 (xd3 a b)]⟩
 | _ => Option.none
noncomputable def K2 : Con := ext Tryz.prog K1 118 [.int .i64 0, .int .i64 0] [] xkV
theorem xGF : xaI Tryz.prog K2 := xad xaP xGG (n := 9) rfl rfl fun us x h => by
 unfold xkV at h
 split at h
 ·cases h; exact ⟨none, xqe _ _, fun _ => trivial⟩
 ·cases h
theorem xvo (b2 b3 b4 b5 : Int) : xae Tryz.prog 0 (xat Tryz.prog K2 xec 9 54 [.agg [.int .i64 b2, .int .i64 b3], .agg [.int .i64 b4, .int .i64 b5]] ⟨[], 0⟩) = some ⟨none, [], 0, [], .tup [.agg [.int .i64 (xdD b2 b3 b4 b5), .int .i64 (xdC b2 b3 b4 b5)], .int .i64 (xa5 b2 b3 b4 b5)]⟩ := by kernel_rfl
noncomputable def xoV : List U → Option Eff
 | [.i b2, .i b3, .i b4, .i b5] => some ⟨none, [], 0, [], .tup [.agg [.int .i64 (xdD b2 b3 b4 b5), .int .i64 (xdC b2 b3 b4 b5)], .int .i64 (xa5 b2 b3 b4 b5)]⟩
 | _ => Option.none
noncomputable def K3 : Con := ext Tryz.prog K2 54 [.agg [.int .i64 0, .int .i64 0], .agg [.int .i64 0, .int .i64 0]] [] xoV
theorem xGE : xaI Tryz.prog K3 := xad xaP xGF (n := 9) rfl rfl fun us x h => by
 unfold xoV at h
 split at h
 ·cases h; exact ⟨none, xvo _ _ _ _, fun _ => trivial⟩
 ·cases h
theorem xvp (b2 b3 b4 b5 : Int) : xae Tryz.prog 0 (xat Tryz.prog K3 xec 9 85 [.agg [.int .i64 b2, .int .i64 b3], .agg [.int .i64 b4, .int .i64 b5]] ⟨[], 0⟩) = some ⟨none, [], 0, [], .tup [.agg [.int .i64 (xcZ b2 b3 b4 b5), .int .i64 (xcY b2 b3 b4 b5)], .int .i64 (xau b2 b3 b4 b5)]⟩ := by kernel_rfl
noncomputable def xoW : List U → Option Eff
 | [.i b2, .i b3, .i b4, .i b5] => some ⟨none, [], 0, [], .tup [.agg [.int .i64 (xcZ b2 b3 b4 b5), .int .i64 (xcY b2 b3 b4 b5)], .int .i64 (xau b2 b3 b4 b5)]⟩
 | _ => Option.none
noncomputable def K4 : Con := ext Tryz.prog K3 85 [.agg [.int .i64 0, .int .i64 0], .agg [.int .i64 0, .int .i64 0]] [] xoW
theorem xGD : xaI Tryz.prog K4 := xad xaP xGE (n := 9) rfl rfl fun us x h => by
 unfold xoW at h
 split at h
 ·cases h; exact ⟨none, xvp _ _ _ _, fun _ => trivial⟩
 ·cases h
theorem xsk (b2 b3 b4 b5 : Int) : xae Tryz.prog 0 (xat Tryz.prog K4 xec 9 88 [.agg [.int .i64 b2, .int .i64 b3], .agg [.int .i64 b4, .int .i64 b5]] ⟨[], 0⟩) = some ⟨none, [], 0, [], .tup [.bool (xbd b2 b3 b4 b5), .int .i64 (xbu b2 b3 b4 b5)]⟩ := by kernel_rfl
noncomputable def xmi : List U → Option Eff
 | [.i b2, .i b3, .i b4, .i b5] => some ⟨none, [], 0, [], .tup [.bool (xbd b2 b3 b4 b5), .int .i64 (xbu b2 b3 b4 b5)]⟩
 | _ => Option.none
noncomputable def K5 : Con := ext Tryz.prog K4 88 [.agg [.int .i64 0, .int .i64 0], .agg [.int .i64 0, .int .i64 0]] [] xmi
theorem xGC : xaI Tryz.prog K5 := xad xaP xGD (n := 9) rfl rfl fun us x h => by
 unfold xmi at h
 split at h
 ·cases h; exact ⟨none, xsk _ _ _ _, fun _ => trivial⟩
 ·cases h
theorem xqf (a0 a1 a2 a3 : Int) : xae Tryz.prog 0 (xat Tryz.prog K5 xec 9 96 [.agg [.int .i64 a0, .int .i64 a1, .int .i64 a2, .int .i64 a3]] ⟨[], 0⟩) = some ⟨none, [], 0, [], .bool (xac a0 a1 a2 a3)⟩ := by kernel_rfl
noncomputable def xkW : List U → Option Eff
 | [.i a0, .i a1, .i a2, .i a3] => some ⟨none, [], 0, [], .bool (xac a0 a1 a2 a3)⟩
 | _ => Option.none
noncomputable def K6 : Con := ext Tryz.prog K5 96 [.agg [.int .i64 0, .int .i64 0, .int .i64 0, .int .i64 0]] [] xkW
theorem xGB : xaI Tryz.prog K6 := xad xaP xGC (n := 9) rfl rfl fun us x h => by
 unfold xkW at h
 split at h
 ·cases h; exact ⟨none, xqf _ _ _ _, fun _ => trivial⟩
 ·cases h
theorem xt2 (b6 b7 a0 a1 a2 a3 : Int) : xae Tryz.prog 0 (xat Tryz.prog K6 xec 9 72 [.agg [.int .i64 b6, .int .i64 b7], .agg [.int .i64 a0, .int .i64 a1, .int .i64 a2, .int .i64 a3]] ⟨[], 0⟩) = some ⟨none, [], 0, [], .tup [.bool (xiI b6 b7 a0 a1 a2 a3), .int .i64 (xqY b6 b7 a0 a1 a2 a3)]⟩ := by kernel_rfl
noncomputable def xnJ : List U → Option Eff
 | [.i b6, .i b7, .i a0, .i a1, .i a2, .i a3] => some ⟨none, [], 0, [], .tup [.bool (xiI b6 b7 a0 a1 a2 a3), .int .i64 (xqY b6 b7 a0 a1 a2 a3)]⟩
 | _ => Option.none
noncomputable def K7 : Con := ext Tryz.prog K6 72 [.agg [.int .i64 0, .int .i64 0], .agg [.int .i64 0, .int .i64 0, .int .i64 0, .int .i64 0]] [] xnJ
theorem xGA : xaI Tryz.prog K7 := xad xaP xGB (n := 9) rfl rfl fun us x h => by
 unfold xnJ at h
 split at h
 ·cases h; exact ⟨none, xt2 _ _ _ _ _ _, fun _ => trivial⟩
 ·cases h
theorem xrD (a8 a9 b0 b1 a0 a1 a2 a3 : Int) : xae Tryz.prog 0 (xat Tryz.prog K7 xec 9 100 [.agg [.int .i64 a8, .int .i64 a9, .int .i64 b0, .int .i64 b1], .agg [.int .i64 a0, .int .i64 a1, .int .i64 a2, .int .i64 a3]] ⟨[], 0⟩) = some ⟨none, [], 0, [], .tup [.agg [.int .i64 (xeP a8 a9 b0 b1 a0 a1 a2 a3), .int .i64 (xf0 a8 a9 b0 b1 a0 a1 a2 a3), .int .i64 (xfZ a8 a9 b0 b1 a0 a1 a2 a3), .int .i64 (xfY a8 a9 b0 b1 a0 a1 a2 a3)], .int .i64 (xfX a8 a9 b0 b1 a0 a1 a2 a3)]⟩ := by kernel_rfl
noncomputable def xlW : List U → Option Eff
 | [.i a8, .i a9, .i b0, .i b1, .i a0, .i a1, .i a2, .i a3] => some ⟨none, [], 0, [], .tup [.agg [.int .i64 (xeP a8 a9 b0 b1 a0 a1 a2 a3), .int .i64 (xf0 a8 a9 b0 b1 a0 a1 a2 a3), .int .i64 (xfZ a8 a9 b0 b1 a0 a1 a2 a3), .int .i64 (xfY a8 a9 b0 b1 a0 a1 a2 a3)], .int .i64 (xfX a8 a9 b0 b1 a0 a1 a2 a3)]⟩
 | _ => Option.none
noncomputable def K8 : Con := ext Tryz.prog K7 100 [.agg [.int .i64 0, .int .i64 0, .int .i64 0, .int .i64 0], .agg [.int .i64 0, .int .i64 0, .int .i64 0, .int .i64 0]] [] xlW
theorem xGz : xaI Tryz.prog K8 := xad xaP xGA (n := 9) rfl rfl fun us x h => by
 unfold xlW at h
 split at h
 ·cases h; exact ⟨none, xrD _ _ _ _ _ _ _ _, fun _ => trivial⟩
 ·cases h
theorem xrE (a8 a9 b0 b1 a0 a1 a2 a3 : Int) : xae Tryz.prog 0 (xat Tryz.prog K8 xec 9 44 [.agg [.int .i64 a8, .int .i64 a9, .int .i64 b0, .int .i64 b1], .agg [.int .i64 a0, .int .i64 a1, .int .i64 a2, .int .i64 a3]] ⟨[], 0⟩) = some ⟨none, [], 0, [], .tup [.agg [.int .i64 (xhg a8 a9 b0 b1 a0 a1 a2 a3), .int .i64 (xhf a8 a9 b0 b1 a0 a1 a2 a3), .int .i64 (xhe a8 a9 b0 b1 a0 a1 a2 a3), .int .i64 (xhd a8 a9 b0 b1 a0 a1 a2 a3)], .int .i64 (xf1 a8 a9 b0 b1 a0 a1 a2 a3)]⟩ := by kernel_rfl
noncomputable def xlX : List U → Option Eff
 | [.i a8, .i a9, .i b0, .i b1, .i a0, .i a1, .i a2, .i a3] => some ⟨none, [], 0, [], .tup [.agg [.int .i64 (xhg a8 a9 b0 b1 a0 a1 a2 a3), .int .i64 (xhf a8 a9 b0 b1 a0 a1 a2 a3), .int .i64 (xhe a8 a9 b0 b1 a0 a1 a2 a3), .int .i64 (xhd a8 a9 b0 b1 a0 a1 a2 a3)], .int .i64 (xf1 a8 a9 b0 b1 a0 a1 a2 a3)]⟩
 | _ => Option.none
noncomputable def K9 : Con := ext Tryz.prog K8 44 [.agg [.int .i64 0, .int .i64 0, .int .i64 0, .int .i64 0], .agg [.int .i64 0, .int .i64 0, .int .i64 0, .int .i64 0]] [] xlX
theorem xGy : xaI Tryz.prog K9 := xad xaP xGz (n := 9) rfl rfl fun us x h => by
 unfold xlX at h
 split at h
 ·cases h; exact ⟨none, xrE _ _ _ _ _ _ _ _, fun _ => trivial⟩
 ·cases h
theorem xua (a b : List (List Int)) : xae Tryz.prog 2 (xat Tryz.prog K9 xec 9 8 [.sl 0, .sl 1] ⟨[⟨0, 2, false, .row 42 [.int .i64, .int .i64, .int .i64, .int .i64] a⟩, ⟨1, 2, false, .row 42 [.int .i64, .int .i64, .int .i64, .int .i64] b⟩], 2⟩) = some ⟨some (xby a b), [], 0, [], .bool (xaS a b)⟩ := by kernel_rfl
noncomputable def xn4 : List U → Option Eff
 | [.r a, .r b] => some ⟨some (xby a b), [], 0, [], .bool (xaS a b)⟩
 | _ => Option.none
noncomputable def K10 : Con := ext Tryz.prog K9 8 [.sl 0, .sl 1] [⟨0, 0, false, .row 42 [.int .i64, .int .i64, .int .i64, .int .i64] []⟩, ⟨1, 0, false, .row 42 [.int .i64, .int .i64, .int .i64, .int .i64] []⟩] xn4
theorem xF0 : xaI Tryz.prog K10 := xad xaP xGy (n := 9) rfl rfl fun us x h => by
 unfold xn4 at h
 split at h
 ·cases h; exact ⟨some (xby _ _), xua _ _, fun h => h⟩
 ·cases h
theorem xts (a7 : List (List Int)) : xae Tryz.prog 1 (xat Tryz.prog K10 xec 9 57 [.sl 0] ⟨[⟨0, 1, false, .row 42 [.int .i64, .int .i64, .int .i64, .int .i64] a7⟩], 1⟩) = some ⟨some (xcJ a7), [], 0, [], .bool (xbk a7)⟩ := by kernel_rfl
noncomputable def xm8 : List U → Option Eff
 | [.r a7] => some ⟨some (xcJ a7), [], 0, [], .bool (xbk a7)⟩
 | _ => Option.none
noncomputable def K11 : Con := ext Tryz.prog K10 57 [.sl 0] [⟨0, 0, false, .row 42 [.int .i64, .int .i64, .int .i64, .int .i64] []⟩] xm8
theorem xFZ : xaI Tryz.prog K11 := xad xaP xF0 (n := 9) rfl rfl fun us x h => by
 unfold xm8 at h
 split at h
 ·cases h; exact ⟨some (xcJ _), xts _, fun h => h⟩
 ·cases h
theorem xpO (a7 : List (List Int)) : xae Tryz.prog 1 (xat Tryz.prog K11 xec 9 49 [.sl 0] ⟨[⟨0, 1, false, .row 56 [.int .i64, .int .i64, .int .i64, .int .i64, .int .i64, .int .i64] a7⟩], 1⟩) = some ⟨some (xdq a7), [], 0, [], .bool (xbb a7)⟩ := by kernel_rfl
noncomputable def xkA : List U → Option Eff
 | [.r a7] => some ⟨some (xdq a7), [], 0, [], .bool (xbb a7)⟩
 | _ => Option.none
noncomputable def K12 : Con := ext Tryz.prog K11 49 [.sl 0] [⟨0, 0, false, .row 56 [.int .i64, .int .i64, .int .i64, .int .i64, .int .i64, .int .i64] []⟩] xkA
theorem xFY : xaI Tryz.prog K12 := xad xaP xFZ (n := 9) rfl rfl fun us x h => by
 unfold xkA at h
 split at h
 ·cases h; exact ⟨some (xdq _), xpO _, fun h => h⟩
 ·cases h
theorem xwm (a6 a5 : Int) (a4 : List (List Int)) : xae Tryz.prog 1 (xat Tryz.prog K12 xec 9 73 [.sl 0, .int .i64 a6, .int .i64 a5] ⟨[⟨0, 1, false, .row 56 [.int .i64, .int .i64, .int .i64, .int .i64, .int .i64, .int .i64] a4⟩], 1⟩) = some ⟨some (xfK a6 a5 a4), [], 0, [], .tup [.agg [.int .i64 (xbY a6 a5 a4), .int .i64 (xbX a6 a5 a4)], .agg [.int .i64 (xbW a6 a5 a4), .int .i64 (xbV a6 a5 a4)], .int .i64 (xee a6 a5 a4)]⟩ := by kernel_rfl
noncomputable def xpM : List U → Option Eff
 | [.i a6, .i a5, .r a4] => some ⟨some (xfK a6 a5 a4), [], 0, [], .tup [.agg [.int .i64 (xbY a6 a5 a4), .int .i64 (xbX a6 a5 a4)], .agg [.int .i64 (xbW a6 a5 a4), .int .i64 (xbV a6 a5 a4)], .int .i64 (xee a6 a5 a4)]⟩
 | _ => Option.none
noncomputable def K13 : Con := ext Tryz.prog K12 73 [.sl 0, .int .i64 0, .int .i64 0] [⟨0, 0, false, .row 56 [.int .i64, .int .i64, .int .i64, .int .i64, .int .i64, .int .i64] []⟩] xpM
theorem xFX : xaI Tryz.prog K13 := xad xaP xFY (n := 9) rfl rfl fun us x h => by
 unfold xpM at h
 split at h
 ·cases h; exact ⟨some (xfK _ _ _), xwm _ _ _, fun h => h⟩
 ·cases h
theorem xtr (b6 b7 : Int) : xae Tryz.prog 0 (xat Tryz.prog K13 xec 9 69 [.agg [.int .i64 b6, .int .i64 b7]] ⟨[], 0⟩) = some ⟨none, [], 0, [], .bool (xbH b6 b7)⟩ := by kernel_rfl
noncomputable def xm7 : List U → Option Eff
 | [.i b6, .i b7] => some ⟨none, [], 0, [], .bool (xbH b6 b7)⟩
 | _ => Option.none
noncomputable def K14 : Con := ext Tryz.prog K13 69 [.agg [.int .i64 0, .int .i64 0]] [] xm7
theorem xFW : xaI Tryz.prog K14 := xad xaP xFX (n := 9) rfl rfl fun us x h => by
 unfold xm7 at h
 split at h
 ·cases h; exact ⟨none, xtr _ _, fun _ => trivial⟩
 ·cases h
theorem xrU (a6 a5 b6 b7 b8 b9 : Int) (a4 : List (List Int)) : xae Tryz.prog 1 (xat Tryz.prog K14 xec 9 32 [.sl 0, .int .i64 a6, .int .i64 a5, .agg [.int .i64 b6, .int .i64 b7], .agg [.int .i64 b8, .int .i64 b9]] ⟨[⟨0, 1, false, .row 56 [.int .i64, .int .i64, .int .i64, .int .i64, .int .i64, .int .i64] a4⟩], 1⟩) = some ⟨some (xdF a6 a5 b6 b7 b8 b9 a4), [], 0, [], .tup [.bool (xe3 a6 a5 b6 b7 b8 b9 a4), .int .i64 (xhj a6 a5 b6 b7 b8 b9 a4)]⟩ := by kernel_rfl
noncomputable def xl8 : List U → Option Eff
 | [.i a6, .i a5, .i b6, .i b7, .i b8, .i b9, .r a4] => some ⟨some (xdF a6 a5 b6 b7 b8 b9 a4), [], 0, [], .tup [.bool (xe3 a6 a5 b6 b7 b8 b9 a4), .int .i64 (xhj a6 a5 b6 b7 b8 b9 a4)]⟩
 | _ => Option.none
noncomputable def K15 : Con := ext Tryz.prog K14 32 [.sl 0, .int .i64 0, .int .i64 0, .agg [.int .i64 0, .int .i64 0], .agg [.int .i64 0, .int .i64 0]] [⟨0, 0, false, .row 56 [.int .i64, .int .i64, .int .i64, .int .i64, .int .i64, .int .i64] []⟩] xl8
theorem xFV : xaI Tryz.prog K15 := xad xaP xFW (n := 9) rfl rfl fun us x h => by
 unfold xl8 at h
 split at h
 ·cases h; exact ⟨some (xdF _ _ _ _ _ _ _), xrU _ _ _ _ _ _ _, fun h => h⟩
 ·cases h
theorem xuu (a6 a5 : Int) (a7 a4 : List (List Int)) : xae Tryz.prog 2 (xat Tryz.prog K15 xec 9 59 [.sl 0, .sl 1, .int .i64 a6, .int .i64 a5] ⟨[⟨0, 2, false, .row 42 [.int .i64, .int .i64, .int .i64, .int .i64] a7⟩, ⟨1, 2, false, .row 56 [.int .i64, .int .i64, .int .i64, .int .i64, .int .i64, .int .i64] a4⟩], 2⟩) = some ⟨some (xgf a6 a5 a7 a4), [], 1, [⟨2, 2, true, .row 42 [.int .i64, .int .i64, .int .i64, .int .i64] (xfy a6 a5 a7 a4)⟩], .tup [.sl 2, .int .i64 (xhF a6 a5 a7 a4)]⟩ := by kernel_rfl
noncomputable def xol : List U → Option Eff
 | [.i a6, .i a5, .r a7, .r a4] => some ⟨some (xgf a6 a5 a7 a4), [], 1, [⟨2, 2, true, .row 42 [.int .i64, .int .i64, .int .i64, .int .i64] (xfy a6 a5 a7 a4)⟩], .tup [.sl 2, .int .i64 (xhF a6 a5 a7 a4)]⟩
 | _ => Option.none
noncomputable def K16 : Con := ext Tryz.prog K15 59 [.sl 0, .sl 1, .int .i64 0, .int .i64 0] [⟨0, 0, false, .row 42 [.int .i64, .int .i64, .int .i64, .int .i64] []⟩, ⟨1, 0, false, .row 56 [.int .i64, .int .i64, .int .i64, .int .i64, .int .i64, .int .i64] []⟩] xol
theorem xFU : xaI Tryz.prog K16 := xad xaP xFV (n := 9) rfl rfl fun us x h => by
 unfold xol at h
 split at h
 ·cases h; exact ⟨some (xgf _ _ _ _), xuu _ _ _ _, fun h => h⟩
 ·cases h
theorem xxy (b6 b7 : Int) (a7 : List (List Int)) : xae Tryz.prog 1 (xat Tryz.prog K16 xec 9 31 [.sl 0, .agg [.int .i64 b6, .int .i64 b7]] ⟨[⟨0, 1, false, .row 42 [.int .i64, .int .i64, .int .i64, .int .i64] a7⟩], 1⟩) = some ⟨some (xgP b6 b7 a7), [], 0, [], .tup [.bool (xlq b6 b7 a7), .int .i64 (xd2 b6 b7 a7)]⟩ := by kernel_rfl
noncomputable def xrt : List U → Option Eff
 | [.i b6, .i b7, .r a7] => some ⟨some (xgP b6 b7 a7), [], 0, [], .tup [.bool (xlq b6 b7 a7), .int .i64 (xd2 b6 b7 a7)]⟩
 | _ => Option.none
noncomputable def K17 : Con := ext Tryz.prog K16 31 [.sl 0, .agg [.int .i64 0, .int .i64 0]] [⟨0, 0, false, .row 42 [.int .i64, .int .i64, .int .i64, .int .i64] []⟩] xrt
theorem xFT : xaI Tryz.prog K17 := xad xaP xFU (n := 9) rfl rfl fun us x h => by
 unfold xrt at h
 split at h
 ·cases h; exact ⟨some (xgP _ _ _), xxy _ _ _, fun h => h⟩
 ·cases h
theorem xwn (a0 a1 a2 a3 : Int) (a7 : List (List Int)) : xae Tryz.prog 1 (xat Tryz.prog K17 xec 9 61 [.sl 0, .agg [.int .i64 a0, .int .i64 a1, .int .i64 a2, .int .i64 a3]] ⟨[⟨0, 1, false, .row 42 [.int .i64, .int .i64, .int .i64, .int .i64] a7⟩], 1⟩) = some ⟨some (xg4 a0 a1 a2 a3 a7), [], 1, [⟨1, 1, true, .row 42 [.int .i64, .int .i64, .int .i64, .int .i64] (xj1 a0 a1 a2 a3 a7)⟩], .tup [.sl 1, .int .i64 (xj0 a0 a1 a2 a3 a7)]⟩ := by kernel_rfl
noncomputable def xpN : List U → Option Eff
 | [.i a0, .i a1, .i a2, .i a3, .r a7] => some ⟨some (xg4 a0 a1 a2 a3 a7), [], 1, [⟨1, 1, true, .row 42 [.int .i64, .int .i64, .int .i64, .int .i64] (xj1 a0 a1 a2 a3 a7)⟩], .tup [.sl 1, .int .i64 (xj0 a0 a1 a2 a3 a7)]⟩
 | _ => Option.none
noncomputable def K18 : Con := ext Tryz.prog K17 61 [.sl 0, .agg [.int .i64 0, .int .i64 0, .int .i64 0, .int .i64 0]] [⟨0, 0, false, .row 42 [.int .i64, .int .i64, .int .i64, .int .i64] []⟩] xpN
theorem xFS : xaI Tryz.prog K18 := xad xaP xFT (n := 9) rfl rfl fun us x h => by
 unfold xpN at h
 split at h
 ·cases h; exact ⟨some (xg4 _ _ _ _ _), xwn _ _ _ _ _, fun h => h⟩
 ·cases h
end Go.Proofs.YtnijhjpaplihbaaGreat
