/- Written by program (wip/sygen.py): the contracts of the Go functions. -/
import Derived.Test.YtnijhjpaplihbaaGreatRows
import Derived.Test.YtnijhjpaplihbaaGreatSyH
import Derived.Test.YtnijhjpaplihbaaGreatDrift1D
import Derived.Test.YtnijhjpaplihbaaGreatDrift1
import Derived.Test.YtnijhjpaplihbaaGreatSight1D
set_option maxRecDepth 100000
set_option linter.unusedVariables false
namespace Go.Proofs.YtnijhjpaplihbaaGreat
open Go Go.Sy
theorem xt9 (a b : List (List Int)) : xae Tryz.prog 2 (xat Tryz.prog K18 xec 9 13 [.sl 0, .sl 1] ⟨[⟨0, 2, false, .row 3 [.int .i64] a⟩, ⟨1, 2, false, .row 3 [.int .i64] b⟩], 2⟩) = some ⟨some (xb7 a b), [], 0, [], .bool (xbe a b)⟩ := by kernel_rfl
noncomputable def xn2 : List U → Option Eff
 | [.r a, .r b] => some ⟨some (xb7 a b), [], 0, [], .bool (xbe a b)⟩
 | _ => Option.none
noncomputable def K19 : Con := ext Tryz.prog K18 13 [.sl 0, .sl 1] [⟨0, 0, false, .row 3 [.int .i64] []⟩, ⟨1, 0, false, .row 3 [.int .i64] []⟩] xn2
theorem xFR : xaI Tryz.prog K19 := xad xaP xFS (n := 9) rfl rfl fun us x h => by
 unfold xn2 at h
 split at h
 ·cases h; exact ⟨some (xb7 _ _), xt9 _ _, fun h => h⟩
 ·cases h
theorem xsS (c0 c1 : Int) : xae Tryz.prog 0 (xat Tryz.prog K19 xec 9 30 [.agg [.int .i64 c0, .int .i64 c1]] ⟨[], 0⟩) = some ⟨none, [], 0, [], .bool (xfJ c0 c1)⟩ := by kernel_rfl
noncomputable def xmO : List U → Option Eff
 | [.i c0, .i c1] => some ⟨none, [], 0, [], .bool (xfJ c0 c1)⟩
 | _ => Option.none
noncomputable def K20 : Con := ext Tryz.prog K19 30 [.agg [.int .i64 0, .int .i64 0]] [] xmO
theorem xFQ : xaI Tryz.prog K20 := xad xaP xFR (n := 9) rfl rfl fun us x h => by
 unfold xmO at h
 split at h
 ·cases h; exact ⟨none, xsS _ _, fun _ => trivial⟩
 ·cases h
theorem xvn (b3 b4 : Int) : xae Tryz.prog 0 (xat Tryz.prog K20 xec 9 140 [.agg [.int .i64 b3, .int .i64 b4]] ⟨[], 0⟩) = some ⟨none, [], 0, [], .tup [.agg [.int .i64 (xlz b3 b4), .int .i64 (xly b3 b4)], .int .i64 (xlx b3 b4)]⟩ := by kernel_rfl
noncomputable def xoU : List U → Option Eff
 | [.i b3, .i b4] => some ⟨none, [], 0, [], .tup [.agg [.int .i64 (xlz b3 b4), .int .i64 (xly b3 b4)], .int .i64 (xlx b3 b4)]⟩
 | _ => Option.none
noncomputable def K21 : Con := ext Tryz.prog K20 140 [.agg [.int .i64 0, .int .i64 0]] [] xoU
theorem xFP : xaI Tryz.prog K21 := xad xaP xFQ (n := 9) rfl rfl fun us x h => by
 unfold xoU at h
 split at h
 ·cases h; exact ⟨none, xvn _ _, fun _ => trivial⟩
 ·cases h
theorem xwF (b3 b4 c4 c5 : Int) : xae Tryz.prog 0 (xat Tryz.prog K21 xec 9 111 [.agg [.int .i64 b3, .int .i64 b4], .agg [.int .i64 c4, .int .i64 c5]] ⟨[], 0⟩) = some ⟨none, [], 0, [], .tup [.agg [.int .i64 (xek b3 b4 c4 c5), .int .i64 (xej b3 b4 c4 c5)], .int .i64 (xjv b3 b4 c4 c5)]⟩ := by kernel_rfl
noncomputable def xqX : List U → Option Eff
 | [.i b3, .i b4, .i c4, .i c5] => some ⟨none, [], 0, [], .tup [.agg [.int .i64 (xek b3 b4 c4 c5), .int .i64 (xej b3 b4 c4 c5)], .int .i64 (xjv b3 b4 c4 c5)]⟩
 | _ => Option.none
noncomputable def K22 : Con := ext Tryz.prog K21 111 [.agg [.int .i64 0, .int .i64 0], .agg [.int .i64 0, .int .i64 0]] [] xqX
theorem xFO : xaI Tryz.prog K22 := xad xaP xFP (n := 9) rfl rfl fun us x h => by
 unfold xqX at h
 split at h
 ·cases h; exact ⟨none, xwF _ _ _ _, fun _ => trivial⟩
 ·cases h
theorem xqj (n : Int) : xae Tryz.prog 0 (xat Tryz.prog K22 xec 9 108 [.int .i64 n] ⟨[], 0⟩) = some ⟨none, [], 0, [], .bool (xfa n)⟩ := by kernel_rfl
noncomputable def xk1 : List U → Option Eff
 | [.i n] => some ⟨none, [], 0, [], .bool (xfa n)⟩
 | _ => Option.none
noncomputable def K23 : Con := ext Tryz.prog K22 108 [.int .i64 0] [] xk1
theorem xFN : xaI Tryz.prog K23 := xad xaP xFO (n := 9) rfl rfl fun us x h => by
 unfold xk1 at h
 split at h
 ·cases h; exact ⟨none, xqj _, fun _ => trivial⟩
 ·cases h
theorem xk2 (c0 c1 : Int) : xae Tryz.prog 0 (xat Tryz.prog K23 xec 9 109 [.agg [.int .i64 c0, .int .i64 c1]] ⟨[], 0⟩) = some ⟨none, [], 0, [], .bool (xcU c0 c1)⟩ := by kernel_rfl
noncomputable def xhw : List U → Option Eff
 | [.i c0, .i c1] => some ⟨none, [], 0, [], .bool (xcU c0 c1)⟩
 | _ => Option.none
noncomputable def K24 : Con := ext Tryz.prog K23 109 [.agg [.int .i64 0, .int .i64 0]] [] xhw
theorem xFM : xaI Tryz.prog K24 := xad xaP xFN (n := 9) rfl rfl fun us x h => by
 unfold xhw at h
 split at h
 ·cases h; exact ⟨none, xk2 _ _, fun _ => trivial⟩
 ·cases h
theorem xo0 (d d0 d1 d2 : Int) : xae Tryz.prog 0 (xat Tryz.prog K24 xec 9 110 [.agg [.int .i64 d, .int .i64 d0], .agg [.int .i64 d1, .int .i64 d2]] ⟨[], 0⟩) = some ⟨none, [], 0, [], .int .i64 (xa7 d d0 d1 d2)⟩ := by kernel_rfl
noncomputable def xkl : List U → Option Eff
 | [.i d, .i d0, .i d1, .i d2] => some ⟨none, [], 0, [], .int .i64 (xa7 d d0 d1 d2)⟩
 | _ => Option.none
noncomputable def K25 : Con := ext Tryz.prog K24 110 [.agg [.int .i64 0, .int .i64 0], .agg [.int .i64 0, .int .i64 0]] [] xkl
theorem xFL : xaI Tryz.prog K25 := xad xaP xFM (n := 9) rfl rfl fun us x h => by
 unfold xkl at h
 split at h
 ·cases h; exact ⟨none, xo0 _ _ _ _, fun _ => trivial⟩
 ·cases h
theorem xo1 (a7 a4 a8 a9 a0 a1 a2 a3 a5 a6 b0 b1 b2 : Int) : xae Tryz.prog 0 (xat Tryz.prog K25 xec 9 74 [.agg [.int .i64 a7, .int .i64 a4, .int .i64 a8, .int .i64 a9, .int .i64 a0, .int .i64 a1, .int .i64 a2, .int .i64 a3, .int .i64 a5, .int .i64 a6, .int .i64 b0, .int .i64 b1, .int .i64 b2]] ⟨[], 0⟩) = some ⟨none, [], 0, [], .bool (xa8 a7 a4 a8 a9 a0 a1 a2 a3 a5 a6 b0 b1 b2)⟩ := by kernel_rfl
noncomputable def xkm : List U → Option Eff
 | [.i a7, .i a4, .i a8, .i a9, .i a0, .i a1, .i a2, .i a3, .i a5, .i a6, .i b0, .i b1, .i b2] => some ⟨none, [], 0, [], .bool (xa8 a7 a4 a8 a9 a0 a1 a2 a3 a5 a6 b0 b1 b2)⟩
 | _ => Option.none
noncomputable def K26 : Con := ext Tryz.prog K25 74 [.agg [.int .i64 0, .int .i64 0, .int .i64 0, .int .i64 0, .int .i64 0, .int .i64 0, .int .i64 0, .int .i64 0, .int .i64 0, .int .i64 0, .int .i64 0, .int .i64 0, .int .i64 0]] [] xkm
theorem xFK : xaI Tryz.prog K26 := xad xaP xFL (n := 9) rfl rfl fun us x h => by
 unfold xkm at h
 split at h
 ·cases h; exact ⟨none, xo1 _ _ _ _ _ _ _ _ _ _ _ _ _, fun _ => trivial⟩
 ·cases h
theorem xoY (b3 b4 b6 c6 c9 : Int) : xae Tryz.prog 0 (xat Tryz.prog K26 xec 9 99 [.agg [.int .i64 b3, .int .i64 b4], .int .i64 b6, .int .i64 c6, .int .i64 c9] ⟨[], 0⟩) = some ⟨none, [], 0, [], .agg [.int .i64 (xem b3 b4 b6 c6 c9), .int .i64 (xel b3 b4 b6 c6 c9)]⟩ := by kernel_rfl
noncomputable def xkj : List U → Option Eff
 | [.i b3, .i b4, .i b6, .i c6, .i c9] => some ⟨none, [], 0, [], .agg [.int .i64 (xem b3 b4 b6 c6 c9), .int .i64 (xel b3 b4 b6 c6 c9)]⟩
 | _ => Option.none
noncomputable def K27 : Con := ext Tryz.prog K26 99 [.agg [.int .i64 0, .int .i64 0], .int .i64 0, .int .i64 0, .int .i64 0] [] xkj
theorem xFJ : xaI Tryz.prog K27 := xad xaP xFK (n := 9) rfl rfl fun us x h => by
 unfold xkj at h
 split at h
 ·cases h; exact ⟨none, xoY _ _ _ _ _, fun _ => trivial⟩
 ·cases h
theorem xrF (a7 a4 a8 a9 a0 a1 a2 a3 a5 a6 b0 b1 b2 : Int) : xae Tryz.prog 0 (xat Tryz.prog K27 xec 9 60 [.agg [.int .i64 a7, .int .i64 a4, .int .i64 a8, .int .i64 a9, .int .i64 a0, .int .i64 a1, .int .i64 a2, .int .i64 a3, .int .i64 a5, .int .i64 a6, .int .i64 b0, .int .i64 b1, .int .i64 b2]] ⟨[], 0⟩) = some ⟨none, [], 0, [], .tup [.agg [.int .i64 (xeU a7 a4 a8 a9 a0 a1 a2 a3 a5 a6 b0 b1 b2), .int .i64 (xeT a7 a4 a8 a9 a0 a1 a2 a3 a5 a6 b0 b1 b2), .int .i64 (xeS a7 a4 a8 a9 a0 a1 a2 a3 a5 a6 b0 b1 b2), .int .i64 (xeR a7 a4 a8 a9 a0 a1 a2 a3 a5 a6 b0 b1 b2)], .int .i64 (xeQ a7 a4 a8 a9 a0 a1 a2 a3 a5 a6 b0 b1 b2)]⟩ := by kernel_rfl
noncomputable def xlY : List U → Option Eff
 | [.i a7, .i a4, .i a8, .i a9, .i a0, .i a1, .i a2, .i a3, .i a5, .i a6, .i b0, .i b1, .i b2] => some ⟨none, [], 0, [], .tup [.agg [.int .i64 (xeU a7 a4 a8 a9 a0 a1 a2 a3 a5 a6 b0 b1 b2), .int .i64 (xeT a7 a4 a8 a9 a0 a1 a2 a3 a5 a6 b0 b1 b2), .int .i64 (xeS a7 a4 a8 a9 a0 a1 a2 a3 a5 a6 b0 b1 b2), .int .i64 (xeR a7 a4 a8 a9 a0 a1 a2 a3 a5 a6 b0 b1 b2)], .int .i64 (xeQ a7 a4 a8 a9 a0 a1 a2 a3 a5 a6 b0 b1 b2)]⟩
 | _ => Option.none
noncomputable def K28 : Con := ext Tryz.prog K27 60 [.agg [.int .i64 0, .int .i64 0, .int .i64 0, .int .i64 0, .int .i64 0, .int .i64 0, .int .i64 0, .int .i64 0, .int .i64 0, .int .i64 0, .int .i64 0, .int .i64 0, .int .i64 0]] [] xlY
theorem xFI : xaI Tryz.prog K28 := xad xaP xFJ (n := 9) rfl rfl fun us x h => by
 unfold xlY at h
 split at h
 ·cases h; exact ⟨none, xrF _ _ _ _ _ _ _ _ _ _ _ _ _, fun _ => trivial⟩
 ·cases h
theorem xoZ (b3 b4 b6 c6 : Int) : xae Tryz.prog 0 (xat Tryz.prog K28 xec 9 141 [.agg [.int .i64 b3, .int .i64 b4], .int .i64 b6, .int .i64 c6] ⟨[], 0⟩) = some ⟨none, [], 0, [], .bool (xfR b3 b4 b6 c6)⟩ := by kernel_rfl
noncomputable def xkk : List U → Option Eff
 | [.i b3, .i b4, .i b6, .i c6] => some ⟨none, [], 0, [], .bool (xfR b3 b4 b6 c6)⟩
 | _ => Option.none
noncomputable def K29 : Con := ext Tryz.prog K28 141 [.agg [.int .i64 0, .int .i64 0], .int .i64 0, .int .i64 0] [] xkk
theorem xFH : xaI Tryz.prog K29 := xad xaP xFI (n := 9) rfl rfl fun us x h => by
 unfold xkk at h
 split at h
 ·cases h; exact ⟨none, xoZ _ _ _ _, fun _ => trivial⟩
 ·cases h
theorem xlA (c2 c3 c7 c8 b7 b8 b9 c : Int) : xae Tryz.prog 0 (xat Tryz.prog K29 xec 9 112 [.agg [.int .i64 c2, .int .i64 c3, .int .i64 c7, .int .i64 c8], .agg [.int .i64 b7, .int .i64 b8, .int .i64 b9, .int .i64 c]] ⟨[], 0⟩) = some ⟨none, [], 0, [], .bool (xde c2 c3 c7 c8 b7 b8 b9 c)⟩ := by kernel_rfl
noncomputable def xhL : List U → Option Eff
 | [.i c2, .i c3, .i c7, .i c8, .i b7, .i b8, .i b9, .i c] => some ⟨none, [], 0, [], .bool (xde c2 c3 c7 c8 b7 b8 b9 c)⟩
 | _ => Option.none
noncomputable def K30 : Con := ext Tryz.prog K29 112 [.agg [.int .i64 0, .int .i64 0, .int .i64 0, .int .i64 0], .agg [.int .i64 0, .int .i64 0, .int .i64 0, .int .i64 0]] [] xhL
theorem xFG : xaI Tryz.prog K30 := xad xaP xFH (n := 9) rfl rfl fun us x h => by
 unfold xhL at h
 split at h
 ·cases h; exact ⟨none, xlA _ _ _ _ _ _ _ _, fun _ => trivial⟩
 ·cases h
theorem xqi (a7 a4 a8 a9 a0 a1 a2 a3 a5 a6 b0 b1 b2 b7 b8 b9 c : Int) : xae Tryz.prog 0 (xat Tryz.prog K30 xec 9 75 [.agg [.int .i64 a7, .int .i64 a4, .int .i64 a8, .int .i64 a9, .int .i64 a0, .int .i64 a1, .int .i64 a2, .int .i64 a3, .int .i64 a5, .int .i64 a6, .int .i64 b0, .int .i64 b1, .int .i64 b2], .agg [.int .i64 b7, .int .i64 b8, .int .i64 b9, .int .i64 c]] ⟨[], 0⟩) = some ⟨none, [], 0, [], .bool (xgA a7 a4 a8 a9 a0 a1 a2 a3 a5 a6 b0 b1 b2 b7 b8 b9 c)⟩ := by kernel_rfl
noncomputable def xk0 : List U → Option Eff
 | [.i a7, .i a4, .i a8, .i a9, .i a0, .i a1, .i a2, .i a3, .i a5, .i a6, .i b0, .i b1, .i b2, .i b7, .i b8, .i b9, .i c] => some ⟨none, [], 0, [], .bool (xgA a7 a4 a8 a9 a0 a1 a2 a3 a5 a6 b0 b1 b2 b7 b8 b9 c)⟩
 | _ => Option.none
noncomputable def K31 : Con := ext Tryz.prog K30 75 [.agg [.int .i64 0, .int .i64 0, .int .i64 0, .int .i64 0, .int .i64 0, .int .i64 0, .int .i64 0, .int .i64 0, .int .i64 0, .int .i64 0, .int .i64 0, .int .i64 0, .int .i64 0], .agg [.int .i64 0, .int .i64 0, .int .i64 0, .int .i64 0]] [] xk0
theorem xFF : xaI Tryz.prog K31 := xad xaP xFG (n := 9) rfl rfl fun us x h => by
 unfold xk0 at h
 split at h
 ·cases h; exact ⟨none, xqi _ _ _ _ _ _ _ _ _ _ _ _ _ _ _ _ _, fun _ => trivial⟩
 ·cases h
theorem xox (a7 a4 a8 a9 a0 a1 a2 a3 a5 a6 b0 b1 b2 c0 c1 : Int) : xae Tryz.prog 0 (xat Tryz.prog K31 xec 9 33 [.agg [.int .i64 a7, .int .i64 a4, .int .i64 a8, .int .i64 a9, .int .i64 a0, .int .i64 a1, .int .i64 a2, .int .i64 a3, .int .i64 a5, .int .i64 a6, .int .i64 b0, .int .i64 b1, .int .i64 b2], .agg [.int .i64 c0, .int .i64 c1]] ⟨[], 0⟩) = some ⟨none, [], 0, [], .tup [.bool (xdY a7 a4 a8 a9 a0 a1 a2 a3 a5 a6 b0 b1 b2 c0 c1), .int .i64 (xfc a7 a4 a8 a9 a0 a1 a2 a3 a5 a6 b0 b1 b2 c0 c1)]⟩ := by kernel_rfl
noncomputable def xjI : List U → Option Eff
 | [.i a7, .i a4, .i a8, .i a9, .i a0, .i a1, .i a2, .i a3, .i a5, .i a6, .i b0, .i b1, .i b2, .i c0, .i c1] => some ⟨none, [], 0, [], .tup [.bool (xdY a7 a4 a8 a9 a0 a1 a2 a3 a5 a6 b0 b1 b2 c0 c1), .int .i64 (xfc a7 a4 a8 a9 a0 a1 a2 a3 a5 a6 b0 b1 b2 c0 c1)]⟩
 | _ => Option.none
noncomputable def K32 : Con := ext Tryz.prog K31 33 [.agg [.int .i64 0, .int .i64 0, .int .i64 0, .int .i64 0, .int .i64 0, .int .i64 0, .int .i64 0, .int .i64 0, .int .i64 0, .int .i64 0, .int .i64 0, .int .i64 0, .int .i64 0], .agg [.int .i64 0, .int .i64 0]] [] xjI
theorem xFE : xaI Tryz.prog K32 := xad xaP xFF (n := 9) rfl rfl fun us x h => by
 unfold xjI at h
 split at h
 ·cases h; exact ⟨none, xox _ _ _ _ _ _ _ _ _ _ _ _ _ _ _, fun _ => trivial⟩
 ·cases h
theorem xoX (b5 : List (List Int)) : xae Tryz.prog 1 (xat Tryz.prog K32 xec 9 94 [.sl 0] ⟨[⟨0, 1, false, .row 58 [.int .i64, .int .i64, .int .i64, .int .i64, .int .i64, .int .i64, .int .i64, .int .i64, .int .i64, .int .i64, .int .i64, .int .i64, .int .i64] b5⟩], 1⟩) = some ⟨some (xdm b5), [], 0, [], .bool (xaq b5)⟩ := by kernel_rfl
noncomputable def xki : List U → Option Eff
 | [.r b5] => some ⟨some (xdm b5), [], 0, [], .bool (xaq b5)⟩
 | _ => Option.none
noncomputable def K33 : Con := ext Tryz.prog K32 94 [.sl 0] [⟨0, 0, false, .row 58 [.int .i64, .int .i64, .int .i64, .int .i64, .int .i64, .int .i64, .int .i64, .int .i64, .int .i64, .int .i64, .int .i64, .int .i64, .int .i64] []⟩] xki
theorem xFD : xaI Tryz.prog K33 := xad xaP xFE (n := 9) rfl rfl fun us x h => by
 unfold xki at h
 split at h
 ·cases h; exact ⟨some (xdm _), xoX _, fun h => h⟩
 ·cases h
theorem xo2 (b5 : List (List Int)) : xae Tryz.prog 1 (xat Tryz.prog K33 xec 9 56 [.sl 0] ⟨[⟨0, 1, false, .row 58 [.int .i64, .int .i64, .int .i64, .int .i64, .int .i64, .int .i64, .int .i64, .int .i64, .int .i64, .int .i64, .int .i64, .int .i64, .int .i64] b5⟩], 1⟩) = some ⟨some (xdn b5), [], 2, [⟨1, 1, true, .row 58 [.int .i64, .int .i64, .int .i64, .int .i64, .int .i64, .int .i64, .int .i64, .int .i64, .int .i64, .int .i64, .int .i64, .int .i64, .int .i64] (xa9 b5)⟩, ⟨2, 1, true, .row 3 [.int .i64] (xhm b5)⟩], .tup [.sl 1, .sl 2, .int .i64 (xcO b5)]⟩ := by kernel_rfl
noncomputable def xkn : List U → Option Eff
 | [.r b5] => some ⟨some (xdn b5), [], 2, [⟨1, 1, true, .row 58 [.int .i64, .int .i64, .int .i64, .int .i64, .int .i64, .int .i64, .int .i64, .int .i64, .int .i64, .int .i64, .int .i64, .int .i64, .int .i64] (xa9 b5)⟩, ⟨2, 1, true, .row 3 [.int .i64] (xhm b5)⟩], .tup [.sl 1, .sl 2, .int .i64 (xcO b5)]⟩
 | _ => Option.none
noncomputable def K34 : Con := ext Tryz.prog K33 56 [.sl 0] [⟨0, 0, false, .row 58 [.int .i64, .int .i64, .int .i64, .int .i64, .int .i64, .int .i64, .int .i64, .int .i64, .int .i64, .int .i64, .int .i64, .int .i64, .int .i64] []⟩] xkn
theorem xFC : xaI Tryz.prog K34 := xad xaP xFD (n := 9) rfl rfl fun us x h => by
 unfold xkn at h
 split at h
 ·cases h; exact ⟨some (xdn _), xo2 _, fun h => h⟩
 ·cases h
theorem xnD (s : List (List Int)) : xae Tryz.prog 1 (xat Tryz.prog K34 xec 9 46 [.sl 0] ⟨[⟨0, 1, false, .row 3 [.int .i64] s⟩], 1⟩) = some ⟨some (xbA s), [], 1, [⟨1, 1, true, .row 3 [.int .i64] (xcD s)⟩], .sl 1⟩ := by kernel_rfl
noncomputable def xjd : List U → Option Eff
 | [.r s] => some ⟨some (xbA s), [], 1, [⟨1, 1, true, .row 3 [.int .i64] (xcD s)⟩], .sl 1⟩
 | _ => Option.none
noncomputable def K35 : Con := ext Tryz.prog K34 46 [.sl 0] [⟨0, 0, false, .row 3 [.int .i64] []⟩] xjd
theorem xCY : xaI Tryz.prog K35 := xad xaP xFC (n := 9) rfl rfl fun us x h => by
 unfold xjd at h
 split at h
 ·cases h; exact ⟨some (xbA _), xnD _, fun h => h⟩
 ·cases h
end Go.Proofs.YtnijhjpaplihbaaGreat
