/- Several texts in one (wip/xiS.py): XDeskM1 XDeskM2 XDeskM3. -/
import Derived.Test.YtnijhjpaplihbaaGreatRows
import Derived.Test.YtnijhjpaplihbaaGreatSyH
import Derived.Test.YtnijhjpaplihbaaGreatDesk4
import Derived.Test.YtnijhjpaplihbaaGreatDeskZ
import Derived.Test.YtnijhjpaplihbaaGreatDeskM1D
set_option maxRecDepth 100000
set_option linter.unusedVariables false
namespace Go.Proofs.YtnijhjpaplihbaaGreat
open Go Go.Sy
theorem xsL (v_X v_Y w_X w_Y : Int) : xae Tryz.prog 0 (xat Tryz.prog K61 xaU 9 116 [.agg [.int .i64 v_X, .int .i64 v_Y], .agg [.int .i64 w_X, .int .i64 w_Y]] ⟨[], 0⟩) = some ⟨none, [], 0, [], .int .i64 (xca v_X v_Y w_X w_Y)⟩ := by kernel_rfl
noncomputable def xmI : List U → Option Eff
 | [.i v_X, .i v_Y, .i w_X, .i w_Y] => some ⟨none, [], 0, [], .int .i64 (xca v_X v_Y w_X w_Y)⟩
 | _ => Option.none
noncomputable def K62 : Con := ext Tryz.prog K61 116 [.agg [.int .i64 0, .int .i64 0], .agg [.int .i64 0, .int .i64 0]] [] xmI
theorem xFb : xaI Tryz.prog K62 := xad xar xFc (n := 9) rfl rfl fun us x h => by
 unfold xmI at h
 split at h
 ·cases h; exact ⟨none, xsL _ _ _ _, fun _ => trivial⟩
 ·cases h
theorem xsK (p_X p_Y : Int) : xae Tryz.prog 0 (xat Tryz.prog K62 xaU 9 35 [.agg [.int .i64 p_X, .int .i64 p_Y]] ⟨[], 0⟩) = some ⟨none, [], 0, [], .bool (xfI p_X p_Y)⟩ := by kernel_rfl
noncomputable def xmH : List U → Option Eff
 | [.i p_X, .i p_Y] => some ⟨none, [], 0, [], .bool (xfI p_X p_Y)⟩
 | _ => Option.none
noncomputable def K63 : Con := ext Tryz.prog K62 35 [.agg [.int .i64 0, .int .i64 0]] [] xmH
theorem xFa : xaI Tryz.prog K63 := xad xar xFb (n := 9) rfl rfl fun us x h => by
 unfold xmH at h
 split at h
 ·cases h; exact ⟨none, xsK _ _, fun _ => trivial⟩
 ·cases h
theorem xrJ (s_Lo s_Hi : Int) : xae Tryz.prog 0 (xat Tryz.prog K63 xaU 9 136 [.agg [.int .i64 s_Lo, .int .i64 s_Hi]] ⟨[], 0⟩) = some ⟨none, [], 0, [], .bool (xf4 s_Lo s_Hi)⟩ := by kernel_rfl
noncomputable def xl3 : List U → Option Eff
 | [.i s_Lo, .i s_Hi] => some ⟨none, [], 0, [], .bool (xf4 s_Lo s_Hi)⟩
 | _ => Option.none
noncomputable def K64 : Con := ext Tryz.prog K63 136 [.agg [.int .i64 0, .int .i64 0]] [] xl3
theorem xE9 : xaI Tryz.prog K64 := xad xar xFa (n := 9) rfl rfl fun us x h => by
 unfold xl3 at h
 split at h
 ·cases h; exact ⟨none, xrJ _ _, fun _ => trivial⟩
 ·cases h
theorem xpp (b_X_Lo b_X_Hi b_Y_Lo b_Y_Hi : Int) : xae Tryz.prog 0 (xat Tryz.prog K64 xaU 9 101 [.agg [.int .i64 b_X_Lo, .int .i64 b_X_Hi, .int .i64 b_Y_Lo, .int .i64 b_Y_Hi]] ⟨[], 0⟩) = some ⟨none, [], 0, [], .bool (xaQ b_X_Lo b_X_Hi b_Y_Lo b_Y_Hi)⟩ := by kernel_rfl
noncomputable def xkt : List U → Option Eff
 | [.i b_X_Lo, .i b_X_Hi, .i b_Y_Lo, .i b_Y_Hi] => some ⟨none, [], 0, [], .bool (xaQ b_X_Lo b_X_Hi b_Y_Lo b_Y_Hi)⟩
 | _ => Option.none
noncomputable def K65 : Con := ext Tryz.prog K64 101 [.agg [.int .i64 0, .int .i64 0, .int .i64 0, .int .i64 0]] [] xkt
theorem xE8 : xaI Tryz.prog K65 := xad xar xE9 (n := 9) rfl rfl fun us x h => by
 unfold xkt at h
 split at h
 ·cases h; exact ⟨none, xpp _ _ _ _, fun _ => trivial⟩
 ·cases h
theorem xsH (s_Lo s_Hi : Int) : xae Tryz.prog 0 (xat Tryz.prog K65 xaU 9 154 [.agg [.int .i64 s_Lo, .int .i64 s_Hi]] ⟨[], 0⟩) = some ⟨none, [], 0, [], .bool (xc8 s_Lo s_Hi)⟩ := by kernel_rfl
noncomputable def xmD : List U → Option Eff
 | [.i s_Lo, .i s_Hi] => some ⟨none, [], 0, [], .bool (xc8 s_Lo s_Hi)⟩
 | _ => Option.none
noncomputable def K66 : Con := ext Tryz.prog K65 154 [.agg [.int .i64 0, .int .i64 0]] [] xmD
theorem xE7 : xaI Tryz.prog K66 := xad xar xE8 (n := 9) rfl rfl fun us x h => by
 unfold xmD at h
 split at h
 ·cases h; exact ⟨none, xsH _ _, fun _ => trivial⟩
 ·cases h
theorem xuf (s_Lo s_Hi t_Lo t_Hi : Int) : xae Tryz.prog 0 (xat Tryz.prog K66 xaU 9 145 [.agg [.int .i64 s_Lo, .int .i64 s_Hi], .agg [.int .i64 t_Lo, .int .i64 t_Hi]] ⟨[], 0⟩) = some ⟨none, [], 0, [], .bool (xdR s_Lo s_Hi t_Lo t_Hi)⟩ := by kernel_rfl
noncomputable def xn9 : List U → Option Eff
 | [.i s_Lo, .i s_Hi, .i t_Lo, .i t_Hi] => some ⟨none, [], 0, [], .bool (xdR s_Lo s_Hi t_Lo t_Hi)⟩
 | _ => Option.none
noncomputable def K67 : Con := ext Tryz.prog K66 145 [.agg [.int .i64 0, .int .i64 0], .agg [.int .i64 0, .int .i64 0]] [] xn9
theorem xE6 : xaI Tryz.prog K67 := xad xar xE7 (n := 9) rfl rfl fun us x h => by
 unfold xn9 at h
 split at h
 ·cases h; exact ⟨none, xuf _ _ _ _, fun _ => trivial⟩
 ·cases h
theorem xoB (a_X_Lo a_X_Hi a_Y_Lo a_Y_Hi b_X_Lo b_X_Hi b_Y_Lo b_Y_Hi : Int) : xae Tryz.prog 0 (xat Tryz.prog K67 xaU 9 119 [.agg [.int .i64 a_X_Lo, .int .i64 a_X_Hi, .int .i64 a_Y_Lo, .int .i64 a_Y_Hi], .agg [.int .i64 b_X_Lo, .int .i64 b_X_Hi, .int .i64 b_Y_Lo, .int .i64 b_Y_Hi]] ⟨[], 0⟩) = some ⟨none, [], 0, [], .bool (xaV a_X_Lo a_X_Hi a_Y_Lo a_Y_Hi b_X_Lo b_X_Hi b_Y_Lo b_Y_Hi)⟩ := by kernel_rfl
noncomputable def xjQ : List U → Option Eff
 | [.i a_X_Lo, .i a_X_Hi, .i a_Y_Lo, .i a_Y_Hi, .i b_X_Lo, .i b_X_Hi, .i b_Y_Lo, .i b_Y_Hi] => some ⟨none, [], 0, [], .bool (xaV a_X_Lo a_X_Hi a_Y_Lo a_Y_Hi b_X_Lo b_X_Hi b_Y_Lo b_Y_Hi)⟩
 | _ => Option.none
noncomputable def K68 : Con := ext Tryz.prog K67 119 [.agg [.int .i64 0, .int .i64 0, .int .i64 0, .int .i64 0], .agg [.int .i64 0, .int .i64 0, .int .i64 0, .int .i64 0]] [] xjQ
theorem xE5 : xaI Tryz.prog K68 := xad xar xE6 (n := 9) rfl rfl fun us x h => by
 unfold xjQ at h
 split at h
 ·cases h; exact ⟨none, xoB _ _ _ _ _ _ _ _, fun _ => trivial⟩
 ·cases h
theorem xue (n d : Int) : xae Tryz.prog 0 (xat Tryz.prog K68 xaU 9 137 [.int .i64 n, .int .i64 d] ⟨[], 0⟩) = some ⟨some (xiB n d), [], 0, [], .int .i64 (xiO n d)⟩ := by kernel_rfl
noncomputable def xn8 : List U → Option Eff
 | [.i n, .i d] => some ⟨some (xiB n d), [], 0, [], .int .i64 (xiO n d)⟩
 | _ => Option.none
noncomputable def K69 : Con := ext Tryz.prog K68 137 [.int .i64 0, .int .i64 0] [] xn8
theorem xE4 : xaI Tryz.prog K69 := xad xar xE5 (n := 9) rfl rfl fun us x h => by
 unfold xn8 at h
 split at h
 ·cases h; exact ⟨some (xiB _ _), xue _ _, fun h => h⟩
 ·cases h
theorem xwT (n d : Int) : xae Tryz.prog 0 (xat Tryz.prog K69 xaU 9 138 [.int .i64 n, .int .i64 d] ⟨[], 0⟩) = some ⟨some (xku n d), [], 0, [], .int .i64 (xla n d)⟩ := by kernel_rfl
noncomputable def xrd : List U → Option Eff
 | [.i n, .i d] => some ⟨some (xku n d), [], 0, [], .int .i64 (xla n d)⟩
 | _ => Option.none
noncomputable def K70 : Con := ext Tryz.prog K69 138 [.int .i64 0, .int .i64 0] [] xrd
theorem xE3 : xaI Tryz.prog K70 := xad xar xE4 (n := 9) rfl rfl fun us x h => by
 unfold xrd at h
 split at h
 ·cases h; exact ⟨some (xku _ _), xwT _ _, fun h => h⟩
 ·cases h
theorem xsI (p_X p_Y : Int) : xae Tryz.prog 0 (xat Tryz.prog K70 xaU 9 77 [.agg [.int .i64 p_X, .int .i64 p_Y]] ⟨[], 0⟩) = some ⟨none, [], 0, [], .bool (xeB p_X p_Y)⟩ := by kernel_rfl
noncomputable def xmE : List U → Option Eff
 | [.i p_X, .i p_Y] => some ⟨none, [], 0, [], .bool (xeB p_X p_Y)⟩
 | _ => Option.none
noncomputable def K71 : Con := ext Tryz.prog K70 77 [.agg [.int .i64 0, .int .i64 0]] [] xmE
theorem xE2 : xaI Tryz.prog K71 := xad xar xE3 (n := 9) rfl rfl fun us x h => by
 unfold xmE at h
 split at h
 ·cases h; exact ⟨none, xsI _ _, fun _ => trivial⟩
 ·cases h
theorem xuc (s_Lo s_Hi t_Lo t_Hi : Int) : xae Tryz.prog 0 (xat Tryz.prog K71 xaU 9 139 [.agg [.int .i64 s_Lo, .int .i64 s_Hi], .agg [.int .i64 t_Lo, .int .i64 t_Hi]] ⟨[], 0⟩) = some ⟨none, [], 0, [], .tup [.agg [.int .i64 (xhD s_Lo s_Hi t_Lo t_Hi), .int .i64 (xhC s_Lo s_Hi t_Lo t_Hi)], .int .i64 (xb2 s_Lo s_Hi t_Lo t_Hi)]⟩ := by kernel_rfl
noncomputable def xn6 : List U → Option Eff
 | [.i s_Lo, .i s_Hi, .i t_Lo, .i t_Hi] => some ⟨none, [], 0, [], .tup [.agg [.int .i64 (xhD s_Lo s_Hi t_Lo t_Hi), .int .i64 (xhC s_Lo s_Hi t_Lo t_Hi)], .int .i64 (xb2 s_Lo s_Hi t_Lo t_Hi)]⟩
 | _ => Option.none
noncomputable def K72 : Con := ext Tryz.prog K71 139 [.agg [.int .i64 0, .int .i64 0], .agg [.int .i64 0, .int .i64 0]] [] xn6
theorem xE1 : xaI Tryz.prog K72 := xad xar xE2 (n := 9) rfl rfl fun us x h => by
 unfold xn6 at h
 split at h
 ·cases h; exact ⟨none, xuc _ _ _ _, fun _ => trivial⟩
 ·cases h
theorem xud (s_Lo s_Hi t_Lo t_Hi : Int) : xae Tryz.prog 0 (xat Tryz.prog K72 xaU 9 120 [.agg [.int .i64 s_Lo, .int .i64 s_Hi], .agg [.int .i64 t_Lo, .int .i64 t_Hi]] ⟨[], 0⟩) = some ⟨none, [], 0, [], .tup [.agg [.int .i64 (xiN s_Lo s_Hi t_Lo t_Hi), .int .i64 (xiM s_Lo s_Hi t_Lo t_Hi)], .int .i64 (xre s_Lo s_Hi t_Lo t_Hi)]⟩ := by kernel_rfl
noncomputable def xn7 : List U → Option Eff
 | [.i s_Lo, .i s_Hi, .i t_Lo, .i t_Hi] => some ⟨none, [], 0, [], .tup [.agg [.int .i64 (xiN s_Lo s_Hi t_Lo t_Hi), .int .i64 (xiM s_Lo s_Hi t_Lo t_Hi)], .int .i64 (xre s_Lo s_Hi t_Lo t_Hi)]⟩
 | _ => Option.none
noncomputable def K73 : Con := ext Tryz.prog K72 120 [.agg [.int .i64 0, .int .i64 0], .agg [.int .i64 0, .int .i64 0]] [] xn7
theorem xE0 : xaI Tryz.prog K73 := xad xar xE1 (n := 9) rfl rfl fun us x h => by
 unfold xn7 at h
 split at h
 ·cases h; exact ⟨none, xud _ _ _ _, fun _ => trivial⟩
 ·cases h
theorem xqr (a_X_Lo a_X_Hi a_Y_Lo a_Y_Hi b_X_Lo b_X_Hi b_Y_Lo b_Y_Hi : Int) : xae Tryz.prog 0 (xat Tryz.prog K73 xaU 9 105 [.agg [.int .i64 a_X_Lo, .int .i64 a_X_Hi, .int .i64 a_Y_Lo, .int .i64 a_Y_Hi], .agg [.int .i64 b_X_Lo, .int .i64 b_X_Hi, .int .i64 b_Y_Lo, .int .i64 b_Y_Hi]] ⟨[], 0⟩) = some ⟨none, [], 0, [], .tup [.agg [.int .i64 (xfo a_X_Lo a_X_Hi a_Y_Lo a_Y_Hi b_X_Lo b_X_Hi b_Y_Lo b_Y_Hi), .int .i64 (xgE a_X_Lo a_X_Hi a_Y_Lo a_Y_Hi b_X_Lo b_X_Hi b_Y_Lo b_Y_Hi), .int .i64 (xgD a_X_Lo a_X_Hi a_Y_Lo a_Y_Hi b_X_Lo b_X_Hi b_Y_Lo b_Y_Hi), .int .i64 (xgC a_X_Lo a_X_Hi a_Y_Lo a_Y_Hi b_X_Lo b_X_Hi b_Y_Lo b_Y_Hi)], .int .i64 (xfn a_X_Lo a_X_Hi a_Y_Lo a_Y_Hi b_X_Lo b_X_Hi b_Y_Lo b_Y_Hi)]⟩ := by kernel_rfl
noncomputable def xlb : List U → Option Eff
 | [.i a_X_Lo, .i a_X_Hi, .i a_Y_Lo, .i a_Y_Hi, .i b_X_Lo, .i b_X_Hi, .i b_Y_Lo, .i b_Y_Hi] => some ⟨none, [], 0, [], .tup [.agg [.int .i64 (xfo a_X_Lo a_X_Hi a_Y_Lo a_Y_Hi b_X_Lo b_X_Hi b_Y_Lo b_Y_Hi), .int .i64 (xgE a_X_Lo a_X_Hi a_Y_Lo a_Y_Hi b_X_Lo b_X_Hi b_Y_Lo b_Y_Hi), .int .i64 (xgD a_X_Lo a_X_Hi a_Y_Lo a_Y_Hi b_X_Lo b_X_Hi b_Y_Lo b_Y_Hi), .int .i64 (xgC a_X_Lo a_X_Hi a_Y_Lo a_Y_Hi b_X_Lo b_X_Hi b_Y_Lo b_Y_Hi)], .int .i64 (xfn a_X_Lo a_X_Hi a_Y_Lo a_Y_Hi b_X_Lo b_X_Hi b_Y_Lo b_Y_Hi)]⟩
 | _ => Option.none
noncomputable def K74 : Con := ext Tryz.prog K73 105 [.agg [.int .i64 0, .int .i64 0, .int .i64 0, .int .i64 0], .agg [.int .i64 0, .int .i64 0, .int .i64 0, .int .i64 0]] [] xlb
theorem xEZ : xaI Tryz.prog K74 := xad xar xE0 (n := 9) rfl rfl fun us x h => by
 unfold xlb at h
 split at h
 ·cases h; exact ⟨none, xqr _ _ _ _ _ _ _ _, fun _ => trivial⟩
 ·cases h
theorem xqs (a_X_Lo a_X_Hi a_Y_Lo a_Y_Hi b_X_Lo b_X_Hi b_Y_Lo b_Y_Hi : Int) : xae Tryz.prog 0 (xat Tryz.prog K74 xaU 9 86 [.agg [.int .i64 a_X_Lo, .int .i64 a_X_Hi, .int .i64 a_Y_Lo, .int .i64 a_Y_Hi], .agg [.int .i64 b_X_Lo, .int .i64 b_X_Hi, .int .i64 b_Y_Lo, .int .i64 b_Y_Hi]] ⟨[], 0⟩) = some ⟨none, [], 0, [], .tup [.agg [.int .i64 (xgI a_X_Lo a_X_Hi a_Y_Lo a_Y_Hi b_X_Lo b_X_Hi b_Y_Lo b_Y_Hi), .int .i64 (xgH a_X_Lo a_X_Hi a_Y_Lo a_Y_Hi b_X_Lo b_X_Hi b_Y_Lo b_Y_Hi), .int .i64 (xgG a_X_Lo a_X_Hi a_Y_Lo a_Y_Hi b_X_Lo b_X_Hi b_Y_Lo b_Y_Hi), .int .i64 (xgF a_X_Lo a_X_Hi a_Y_Lo a_Y_Hi b_X_Lo b_X_Hi b_Y_Lo b_Y_Hi)], .int .i64 (xmF a_X_Lo a_X_Hi a_Y_Lo a_Y_Hi b_X_Lo b_X_Hi b_Y_Lo b_Y_Hi)]⟩ := by kernel_rfl
noncomputable def xlc : List U → Option Eff
 | [.i a_X_Lo, .i a_X_Hi, .i a_Y_Lo, .i a_Y_Hi, .i b_X_Lo, .i b_X_Hi, .i b_Y_Lo, .i b_Y_Hi] => some ⟨none, [], 0, [], .tup [.agg [.int .i64 (xgI a_X_Lo a_X_Hi a_Y_Lo a_Y_Hi b_X_Lo b_X_Hi b_Y_Lo b_Y_Hi), .int .i64 (xgH a_X_Lo a_X_Hi a_Y_Lo a_Y_Hi b_X_Lo b_X_Hi b_Y_Lo b_Y_Hi), .int .i64 (xgG a_X_Lo a_X_Hi a_Y_Lo a_Y_Hi b_X_Lo b_X_Hi b_Y_Lo b_Y_Hi), .int .i64 (xgF a_X_Lo a_X_Hi a_Y_Lo a_Y_Hi b_X_Lo b_X_Hi b_Y_Lo b_Y_Hi)], .int .i64 (xmF a_X_Lo a_X_Hi a_Y_Lo a_Y_Hi b_X_Lo b_X_Hi b_Y_Lo b_Y_Hi)]⟩
 | _ => Option.none
noncomputable def K75 : Con := ext Tryz.prog K74 86 [.agg [.int .i64 0, .int .i64 0, .int .i64 0, .int .i64 0], .agg [.int .i64 0, .int .i64 0, .int .i64 0, .int .i64 0]] [] xlc
theorem xEY : xaI Tryz.prog K75 := xad xar xEZ (n := 9) rfl rfl fun us x h => by
 unfold xlc at h
 split at h
 ·cases h; exact ⟨none, xqs _ _ _ _ _ _ _ _, fun _ => trivial⟩
 ·cases h
theorem xsF (list : List (List Int)) : xae Tryz.prog 1 (xat Tryz.prog K75 xaU 9 62 [.sl 0] ⟨[⟨0, 1, false, .row 42 [.int .i64, .int .i64, .int .i64, .int .i64] list⟩], 1⟩) = some ⟨some (xdi list), [], 0, [], .bool (xbE list)⟩ := by kernel_rfl
noncomputable def xmw : List U → Option Eff
 | [.r list] => some ⟨some (xdi list), [], 0, [], .bool (xbE list)⟩
 | _ => Option.none
noncomputable def K76 : Con := ext Tryz.prog K75 62 [.sl 0] [⟨0, 0, false, .row 42 [.int .i64, .int .i64, .int .i64, .int .i64] []⟩] xmw
theorem xEX : xaI Tryz.prog K76 := xad xar xEY (n := 9) rfl rfl fun us x h => by
 unfold xmw at h
 split at h
 ·cases h; exact ⟨some (xdi _), xsF _, fun h => h⟩
 ·cases h
theorem xsD (s_Lo s_Hi : Int) : xae Tryz.prog 0 (xat Tryz.prog K76 xaU 9 102 [.agg [.int .i64 s_Lo, .int .i64 s_Hi]] ⟨[], 0⟩) = some ⟨none, [], 0, [], .bool (xhT s_Lo s_Hi)⟩ := by kernel_rfl
noncomputable def xmu : List U → Option Eff
 | [.i s_Lo, .i s_Hi] => some ⟨none, [], 0, [], .bool (xhT s_Lo s_Hi)⟩
 | _ => Option.none
noncomputable def K77 : Con := ext Tryz.prog K76 102 [.agg [.int .i64 0, .int .i64 0]] [] xmu
theorem xEW : xaI Tryz.prog K77 := xad xar xEX (n := 9) rfl rfl fun us x h => by
 unfold xmu at h
 split at h
 ·cases h; exact ⟨none, xsD _ _, fun _ => trivial⟩
 ·cases h
theorem xpo (list : List (List Int)) : xae Tryz.prog 1 (xat Tryz.prog K77 xaU 9 63 [.sl 0] ⟨[⟨0, 1, false, .row 56 [.int .i64, .int .i64, .int .i64, .int .i64, .int .i64, .int .i64] list⟩], 1⟩) = some ⟨some (xcH list), [], 0, [], .bool (xa0 list)⟩ := by kernel_rfl
noncomputable def xks : List U → Option Eff
 | [.r list] => some ⟨some (xcH list), [], 0, [], .bool (xa0 list)⟩
 | _ => Option.none
noncomputable def K78 : Con := ext Tryz.prog K77 63 [.sl 0] [⟨0, 0, false, .row 56 [.int .i64, .int .i64, .int .i64, .int .i64, .int .i64, .int .i64] []⟩] xks
theorem xEV : xaI Tryz.prog K78 := xad xar xEW (n := 9) rfl rfl fun us x h => by
 unfold xks at h
 split at h
 ·cases h; exact ⟨some (xcH _), xpo _, fun h => h⟩
 ·cases h
theorem xsG (from_ until_ : Int) : xae Tryz.prog 0 (xat Tryz.prog K78 xaU 9 113 [.int .i64 from_, .int .i64 until_] ⟨[], 0⟩) = some ⟨none, [], 0, [], .bool (xcG from_ until_)⟩ := by kernel_rfl
noncomputable def xmx : List U → Option Eff
 | [.i from_, .i until_] => some ⟨none, [], 0, [], .bool (xcG from_ until_)⟩
 | _ => Option.none
noncomputable def K79 : Con := ext Tryz.prog K78 113 [.int .i64 0, .int .i64 0] [] xmx
theorem xEU : xaI Tryz.prog K79 := xad xar xEV (n := 9) rfl rfl fun us x h => by
 unfold xmx at h
 split at h
 ·cases h; exact ⟨none, xsG _ _, fun _ => trivial⟩
 ·cases h
theorem xvI (from_ until_ : Int) (forecast : List (List Int)) : xae Tryz.prog 1 (xat Tryz.prog K79 xaU 9 78 [.sl 0, .int .i64 from_, .int .i64 until_] ⟨[⟨0, 1, false, .row 56 [.int .i64, .int .i64, .int .i64, .int .i64, .int .i64, .int .i64] forecast⟩], 1⟩) = some ⟨some (xfH from_ until_ forecast), [], 0, [], .tup [.agg [.int .i64 (xeZ from_ until_ forecast), .int .i64 (xeY from_ until_ forecast)], .agg [.int .i64 (xeX from_ until_ forecast), .int .i64 (xeW from_ until_ forecast)], .int .i64 (xbU from_ until_ forecast)]⟩ := by kernel_rfl
noncomputable def xpj : List U → Option Eff
 | [.i from_, .i until_, .r forecast] => some ⟨some (xfH from_ until_ forecast), [], 0, [], .tup [.agg [.int .i64 (xeZ from_ until_ forecast), .int .i64 (xeY from_ until_ forecast)], .agg [.int .i64 (xeX from_ until_ forecast), .int .i64 (xeW from_ until_ forecast)], .int .i64 (xbU from_ until_ forecast)]⟩
 | _ => Option.none
noncomputable def K80 : Con := ext Tryz.prog K79 78 [.sl 0, .int .i64 0, .int .i64 0] [⟨0, 0, false, .row 56 [.int .i64, .int .i64, .int .i64, .int .i64, .int .i64, .int .i64] []⟩] xpj
theorem xET : xaI Tryz.prog K80 := xad xar xEU (n := 9) rfl rfl fun us x h => by
 unfold xpj at h
 split at h
 ·cases h; exact ⟨some (xfH _ _ _), xvI _ _ _, fun h => h⟩
 ·cases h
theorem xsE (s_Lo s_Hi by__Lo by__Hi : Int) : xae Tryz.prog 0 (xat Tryz.prog K80 xaU 9 103 [.agg [.int .i64 s_Lo, .int .i64 s_Hi], .agg [.int .i64 by__Lo, .int .i64 by__Hi]] ⟨[], 0⟩) = some ⟨some (xd9 s_Lo s_Hi by__Lo by__Hi), [], 0, [], .agg [.int .i64 (xey s_Lo s_Hi by__Lo by__Hi), .int .i64 (xex s_Lo s_Hi by__Lo by__Hi)]⟩ := by kernel_rfl
noncomputable def xmv : List U → Option Eff
 | [.i s_Lo, .i s_Hi, .i by__Lo, .i by__Hi] => some ⟨some (xd9 s_Lo s_Hi by__Lo by__Hi), [], 0, [], .agg [.int .i64 (xey s_Lo s_Hi by__Lo by__Hi), .int .i64 (xex s_Lo s_Hi by__Lo by__Hi)]⟩
 | _ => Option.none
noncomputable def K81 : Con := ext Tryz.prog K80 103 [.agg [.int .i64 0, .int .i64 0], .agg [.int .i64 0, .int .i64 0]] [] xmv
theorem xES : xaI Tryz.prog K81 := xad xar xET (n := 9) rfl rfl fun us x h => by
 unfold xmv at h
 split at h
 ·cases h; exact ⟨some (xd9 _ _ _ _), xsE _ _ _ _, fun h => h⟩
 ·cases h
theorem xub (from_ until_ : Int) (list forecast : List (List Int)) : xae Tryz.prog 2 (xat Tryz.prog K81 xaU 9 65 [.sl 0, .sl 1, .int .i64 from_, .int .i64 until_] ⟨[⟨0, 2, false, .row 42 [.int .i64, .int .i64, .int .i64, .int .i64] list⟩, ⟨1, 2, false, .row 56 [.int .i64, .int .i64, .int .i64, .int .i64, .int .i64, .int .i64] forecast⟩], 2⟩) = some ⟨some (xf3 from_ until_ list forecast), [], 1, [⟨2, 2, true, .row 42 [.int .i64, .int .i64, .int .i64, .int .i64] (xfv from_ until_ list forecast)⟩], .tup [.sl 2, .int .i64 (xhB from_ until_ list forecast)]⟩ := by kernel_rfl
noncomputable def xn5 : List U → Option Eff
 | [.i from_, .i until_, .r list, .r forecast] => some ⟨some (xf3 from_ until_ list forecast), [], 1, [⟨2, 2, true, .row 42 [.int .i64, .int .i64, .int .i64, .int .i64] (xfv from_ until_ list forecast)⟩], .tup [.sl 2, .int .i64 (xhB from_ until_ list forecast)]⟩
 | _ => Option.none
noncomputable def K82 : Con := ext Tryz.prog K81 65 [.sl 0, .sl 1, .int .i64 0, .int .i64 0] [⟨0, 0, false, .row 42 [.int .i64, .int .i64, .int .i64, .int .i64] []⟩, ⟨1, 0, false, .row 56 [.int .i64, .int .i64, .int .i64, .int .i64, .int .i64, .int .i64] []⟩] xn5
theorem xER : xaI Tryz.prog K82 := xad xar xES (n := 9) rfl rfl fun us x h => by
 unfold xn5 at h
 split at h
 ·cases h; exact ⟨some (xf3 _ _ _ _), xub _ _ _ _, fun h => h⟩
 ·cases h
theorem xrI (from_ until_ p_X p_Y q_X q_Y : Int) (forecast : List (List Int)) : xae Tryz.prog 1 (xat Tryz.prog K82 xaU 9 36 [.sl 0, .int .i64 from_, .int .i64 until_, .agg [.int .i64 p_X, .int .i64 p_Y], .agg [.int .i64 q_X, .int .i64 q_Y]] ⟨[⟨0, 1, false, .row 56 [.int .i64, .int .i64, .int .i64, .int .i64, .int .i64, .int .i64] forecast⟩], 1⟩) = some ⟨some (xeo from_ until_ p_X p_Y q_X q_Y forecast), [], 0, [], .tup [.bool (xe0 from_ until_ p_X p_Y q_X q_Y forecast), .int .i64 (xhi from_ until_ p_X p_Y q_X q_Y forecast)]⟩ := by kernel_rfl
noncomputable def xl2 : List U → Option Eff
 | [.i from_, .i until_, .i p_X, .i p_Y, .i q_X, .i q_Y, .r forecast] => some ⟨some (xeo from_ until_ p_X p_Y q_X q_Y forecast), [], 0, [], .tup [.bool (xe0 from_ until_ p_X p_Y q_X q_Y forecast), .int .i64 (xhi from_ until_ p_X p_Y q_X q_Y forecast)]⟩
 | _ => Option.none
noncomputable def K83 : Con := ext Tryz.prog K82 36 [.sl 0, .int .i64 0, .int .i64 0, .agg [.int .i64 0, .int .i64 0], .agg [.int .i64 0, .int .i64 0]] [⟨0, 0, false, .row 56 [.int .i64, .int .i64, .int .i64, .int .i64, .int .i64, .int .i64] []⟩] xl2
theorem xEQ : xaI Tryz.prog K83 := xad xar xER (n := 9) rfl rfl fun us x h => by
 unfold xl2 at h
 split at h
 ·cases h; exact ⟨some (xeo _ _ _ _ _ _ _), xrI _ _ _ _ _ _ _, fun h => h⟩
 ·cases h
theorem xvK (b_X_Lo b_X_Hi b_Y_Lo b_Y_Hi : Int) (list : List (List Int)) : xae Tryz.prog 1 (xat Tryz.prog K83 xaU 9 67 [.sl 0, .agg [.int .i64 b_X_Lo, .int .i64 b_X_Hi, .int .i64 b_Y_Lo, .int .i64 b_Y_Hi]] ⟨[⟨0, 1, false, .row 42 [.int .i64, .int .i64, .int .i64, .int .i64] list⟩], 1⟩) = some ⟨some (xg1 b_X_Lo b_X_Hi b_Y_Lo b_Y_Hi list), [], 1, [⟨1, 1, true, .row 42 [.int .i64, .int .i64, .int .i64, .int .i64] (xjO b_X_Lo b_X_Hi b_Y_Lo b_Y_Hi list)⟩], .tup [.sl 1, .int .i64 (xjN b_X_Lo b_X_Hi b_Y_Lo b_Y_Hi list)]⟩ := by kernel_rfl
noncomputable def xpn : List U → Option Eff
 | [.i b_X_Lo, .i b_X_Hi, .i b_Y_Lo, .i b_Y_Hi, .r list] => some ⟨some (xg1 b_X_Lo b_X_Hi b_Y_Lo b_Y_Hi list), [], 1, [⟨1, 1, true, .row 42 [.int .i64, .int .i64, .int .i64, .int .i64] (xjO b_X_Lo b_X_Hi b_Y_Lo b_Y_Hi list)⟩], .tup [.sl 1, .int .i64 (xjN b_X_Lo b_X_Hi b_Y_Lo b_Y_Hi list)]⟩
 | _ => Option.none
noncomputable def K84 : Con := ext Tryz.prog K83 67 [.sl 0, .agg [.int .i64 0, .int .i64 0, .int .i64 0, .int .i64 0]] [⟨0, 0, false, .row 42 [.int .i64, .int .i64, .int .i64, .int .i64] []⟩] xpn
theorem xEP : xaI Tryz.prog K84 := xad xar xEQ (n := 9) rfl rfl fun us x h => by
 unfold xpn at h
 split at h
 ·cases h; exact ⟨some (xg1 _ _ _ _ _), xvK _ _ _ _ _, fun h => h⟩
 ·cases h
theorem xwS (n : Int) : xae Tryz.prog 0 (xat Tryz.prog K84 xaU 9 114 [.int .i64 n] ⟨[], 0⟩) = some ⟨none, [], 0, [], .bool (xjx n)⟩ := by kernel_rfl
noncomputable def xq1 : List U → Option Eff
 | [.i n] => some ⟨none, [], 0, [], .bool (xjx n)⟩
 | _ => Option.none
noncomputable def K85 : Con := ext Tryz.prog K84 114 [.int .i64 0] [] xq1
theorem xEO : xaI Tryz.prog K85 := xad xar xEP (n := 9) rfl rfl fun us x h => by
 unfold xq1 at h
 split at h
 ·cases h; exact ⟨none, xwS _, fun _ => trivial⟩
 ·cases h
theorem xoA (p_X p_Y : Int) : xae Tryz.prog 0 (xat Tryz.prog K85 xaU 9 115 [.agg [.int .i64 p_X, .int .i64 p_Y]] ⟨[], 0⟩) = some ⟨none, [], 0, [], .bool (xfi p_X p_Y)⟩ := by kernel_rfl
noncomputable def xjK : List U → Option Eff
 | [.i p_X, .i p_Y] => some ⟨none, [], 0, [], .bool (xfi p_X p_Y)⟩
 | _ => Option.none
noncomputable def K86 : Con := ext Tryz.prog K85 115 [.agg [.int .i64 0, .int .i64 0]] [] xjK
theorem xEN : xaI Tryz.prog K86 := xad xar xEO (n := 9) rfl rfl fun us x h => by
 unfold xjK at h
 split at h
 ·cases h; exact ⟨none, xoA _ _, fun _ => trivial⟩
 ·cases h
theorem xsC (r_Ship r_Number r_Time r_Buoy r_At_X_Lo r_At_X_Hi r_At_Y_Lo r_At_Y_Hi r_From_X r_From_Y r_To_X r_To_Y r_Far : Int) : xae Tryz.prog 0 (xat Tryz.prog K86 xaU 9 80 [.agg [.int .i64 r_Ship, .int .i64 r_Number, .int .i64 r_Time, .int .i64 r_Buoy, .int .i64 r_At_X_Lo, .int .i64 r_At_X_Hi, .int .i64 r_At_Y_Lo, .int .i64 r_At_Y_Hi, .int .i64 r_From_X, .int .i64 r_From_Y, .int .i64 r_To_X, .int .i64 r_To_Y, .int .i64 r_Far]] ⟨[], 0⟩) = some ⟨none, [], 0, [], .bool (xbP r_Ship r_Number r_Time r_Buoy r_At_X_Lo r_At_X_Hi r_At_Y_Lo r_At_Y_Hi r_From_X r_From_Y r_To_X r_To_Y r_Far)⟩ := by kernel_rfl
noncomputable def xmt : List U → Option Eff
 | [.i r_Ship, .i r_Number, .i r_Time, .i r_Buoy, .i r_At_X_Lo, .i r_At_X_Hi, .i r_At_Y_Lo, .i r_At_Y_Hi, .i r_From_X, .i r_From_Y, .i r_To_X, .i r_To_Y, .i r_Far] => some ⟨none, [], 0, [], .bool (xbP r_Ship r_Number r_Time r_Buoy r_At_X_Lo r_At_X_Hi r_At_Y_Lo r_At_Y_Hi r_From_X r_From_Y r_To_X r_To_Y r_Far)⟩
 | _ => Option.none
noncomputable def K87 : Con := ext Tryz.prog K86 80 [.agg [.int .i64 0, .int .i64 0, .int .i64 0, .int .i64 0, .int .i64 0, .int .i64 0, .int .i64 0, .int .i64 0, .int .i64 0, .int .i64 0, .int .i64 0, .int .i64 0, .int .i64 0]] [] xmt
theorem xEM : xaI Tryz.prog K87 := xad xar xEN (n := 9) rfl rfl fun us x h => by
 unfold xmt at h
 split at h
 ·cases h; exact ⟨none, xsC _ _ _ _ _ _ _ _ _ _ _ _ _, fun _ => trivial⟩
 ·cases h
theorem xsB (s_Lo s_Hi from_ to_ far : Int) : xae Tryz.prog 0 (xat Tryz.prog K87 xaU 9 104 [.agg [.int .i64 s_Lo, .int .i64 s_Hi], .int .i64 from_, .int .i64 to_, .int .i64 far] ⟨[], 0⟩) = some ⟨none, [], 0, [], .agg [.int .i64 (xgZ s_Lo s_Hi from_ to_ far), .int .i64 (xgY s_Lo s_Hi from_ to_ far)]⟩ := by kernel_rfl
noncomputable def xms : List U → Option Eff
 | [.i s_Lo, .i s_Hi, .i from_, .i to_, .i far] => some ⟨none, [], 0, [], .agg [.int .i64 (xgZ s_Lo s_Hi from_ to_ far), .int .i64 (xgY s_Lo s_Hi from_ to_ far)]⟩
 | _ => Option.none
noncomputable def K88 : Con := ext Tryz.prog K87 104 [.agg [.int .i64 0, .int .i64 0], .int .i64 0, .int .i64 0, .int .i64 0] [] xms
theorem xEL : xaI Tryz.prog K88 := xad xar xEM (n := 9) rfl rfl fun us x h => by
 unfold xms at h
 split at h
 ·cases h; exact ⟨none, xsB _ _ _ _ _, fun _ => trivial⟩
 ·cases h
theorem xvH (r_Ship r_Number r_Time r_Buoy r_At_X_Lo r_At_X_Hi r_At_Y_Lo r_At_Y_Hi r_From_X r_From_Y r_To_X r_To_Y r_Far : Int) : xae Tryz.prog 0 (xat Tryz.prog K88 xaU 9 66 [.agg [.int .i64 r_Ship, .int .i64 r_Number, .int .i64 r_Time, .int .i64 r_Buoy, .int .i64 r_At_X_Lo, .int .i64 r_At_X_Hi, .int .i64 r_At_Y_Lo, .int .i64 r_At_Y_Hi, .int .i64 r_From_X, .int .i64 r_From_Y, .int .i64 r_To_X, .int .i64 r_To_Y, .int .i64 r_Far]] ⟨[], 0⟩) = some ⟨none, [], 0, [], .tup [.agg [.int .i64 (xiq r_Ship r_Number r_Time r_Buoy r_At_X_Lo r_At_X_Hi r_At_Y_Lo r_At_Y_Hi r_From_X r_From_Y r_To_X r_To_Y r_Far), .int .i64 (xip r_Ship r_Number r_Time r_Buoy r_At_X_Lo r_At_X_Hi r_At_Y_Lo r_At_Y_Hi r_From_X r_From_Y r_To_X r_To_Y r_Far), .int .i64 (xio r_Ship r_Number r_Time r_Buoy r_At_X_Lo r_At_X_Hi r_At_Y_Lo r_At_Y_Hi r_From_X r_From_Y r_To_X r_To_Y r_Far), .int .i64 (xin r_Ship r_Number r_Time r_Buoy r_At_X_Lo r_At_X_Hi r_At_Y_Lo r_At_Y_Hi r_From_X r_From_Y r_To_X r_To_Y r_Far)], .int .i64 (xjL r_Ship r_Number r_Time r_Buoy r_At_X_Lo r_At_X_Hi r_At_Y_Lo r_At_Y_Hi r_From_X r_From_Y r_To_X r_To_Y r_Far)]⟩ := by kernel_rfl
noncomputable def xpi : List U → Option Eff
 | [.i r_Ship, .i r_Number, .i r_Time, .i r_Buoy, .i r_At_X_Lo, .i r_At_X_Hi, .i r_At_Y_Lo, .i r_At_Y_Hi, .i r_From_X, .i r_From_Y, .i r_To_X, .i r_To_Y, .i r_Far] => some ⟨none, [], 0, [], .tup [.agg [.int .i64 (xiq r_Ship r_Number r_Time r_Buoy r_At_X_Lo r_At_X_Hi r_At_Y_Lo r_At_Y_Hi r_From_X r_From_Y r_To_X r_To_Y r_Far), .int .i64 (xip r_Ship r_Number r_Time r_Buoy r_At_X_Lo r_At_X_Hi r_At_Y_Lo r_At_Y_Hi r_From_X r_From_Y r_To_X r_To_Y r_Far), .int .i64 (xio r_Ship r_Number r_Time r_Buoy r_At_X_Lo r_At_X_Hi r_At_Y_Lo r_At_Y_Hi r_From_X r_From_Y r_To_X r_To_Y r_Far), .int .i64 (xin r_Ship r_Number r_Time r_Buoy r_At_X_Lo r_At_X_Hi r_At_Y_Lo r_At_Y_Hi r_From_X r_From_Y r_To_X r_To_Y r_Far)], .int .i64 (xjL r_Ship r_Number r_Time r_Buoy r_At_X_Lo r_At_X_Hi r_At_Y_Lo r_At_Y_Hi r_From_X r_From_Y r_To_X r_To_Y r_Far)]⟩
 | _ => Option.none
noncomputable def K89 : Con := ext Tryz.prog K88 66 [.agg [.int .i64 0, .int .i64 0, .int .i64 0, .int .i64 0, .int .i64 0, .int .i64 0, .int .i64 0, .int .i64 0, .int .i64 0, .int .i64 0, .int .i64 0, .int .i64 0, .int .i64 0]] [] xpi
theorem xEK : xaI Tryz.prog K89 := xad xar xEL (n := 9) rfl rfl fun us x h => by
 unfold xpi at h
 split at h
 ·cases h; exact ⟨none, xvH _ _ _ _ _ _ _ _ _ _ _ _ _, fun _ => trivial⟩
 ·cases h
theorem xt8 (from__X from__Y to__X to__Y b_X_Lo b_X_Hi b_Y_Lo b_Y_Hi : Int) : xae Tryz.prog 0 (xat Tryz.prog K89 xaU 9 117 [.agg [.int .i64 from__X, .int .i64 from__Y], .agg [.int .i64 to__X, .int .i64 to__Y], .agg [.int .i64 b_X_Lo, .int .i64 b_X_Hi, .int .i64 b_Y_Lo, .int .i64 b_Y_Hi]] ⟨[], 0⟩) = some ⟨none, [], 0, [], .bool (xgB from__X from__Y to__X to__Y b_X_Lo b_X_Hi b_Y_Lo b_Y_Hi)⟩ := by kernel_rfl
noncomputable def xn1 : List U → Option Eff
 | [.i from__X, .i from__Y, .i to__X, .i to__Y, .i b_X_Lo, .i b_X_Hi, .i b_Y_Lo, .i b_Y_Hi] => some ⟨none, [], 0, [], .bool (xgB from__X from__Y to__X to__Y b_X_Lo b_X_Hi b_Y_Lo b_Y_Hi)⟩
 | _ => Option.none
noncomputable def K90 : Con := ext Tryz.prog K89 117 [.agg [.int .i64 0, .int .i64 0], .agg [.int .i64 0, .int .i64 0], .agg [.int .i64 0, .int .i64 0, .int .i64 0, .int .i64 0]] [] xn1
theorem xEJ : xaI Tryz.prog K90 := xad xar xEK (n := 9) rfl rfl fun us x h => by
 unfold xn1 at h
 split at h
 ·cases h; exact ⟨none, xt8 _ _ _ _ _ _ _ _, fun _ => trivial⟩
 ·cases h
theorem xt7 (r_Ship r_Number r_Time r_Buoy r_At_X_Lo r_At_X_Hi r_At_Y_Lo r_At_Y_Hi r_From_X r_From_Y r_To_X r_To_Y r_Far b_X_Lo b_X_Hi b_Y_Lo b_Y_Hi : Int) : xae Tryz.prog 0 (xat Tryz.prog K90 xaU 9 81 [.agg [.int .i64 r_Ship, .int .i64 r_Number, .int .i64 r_Time, .int .i64 r_Buoy, .int .i64 r_At_X_Lo, .int .i64 r_At_X_Hi, .int .i64 r_At_Y_Lo, .int .i64 r_At_Y_Hi, .int .i64 r_From_X, .int .i64 r_From_Y, .int .i64 r_To_X, .int .i64 r_To_Y, .int .i64 r_Far], .agg [.int .i64 b_X_Lo, .int .i64 b_X_Hi, .int .i64 b_Y_Lo, .int .i64 b_Y_Hi]] ⟨[], 0⟩) = some ⟨none, [], 0, [], .bool (xiK r_Ship r_Number r_Time r_Buoy r_At_X_Lo r_At_X_Hi r_At_Y_Lo r_At_Y_Hi r_From_X r_From_Y r_To_X r_To_Y r_Far b_X_Lo b_X_Hi b_Y_Lo b_Y_Hi)⟩ := by kernel_rfl
noncomputable def xnX : List U → Option Eff
 | [.i r_Ship, .i r_Number, .i r_Time, .i r_Buoy, .i r_At_X_Lo, .i r_At_X_Hi, .i r_At_Y_Lo, .i r_At_Y_Hi, .i r_From_X, .i r_From_Y, .i r_To_X, .i r_To_Y, .i r_Far, .i b_X_Lo, .i b_X_Hi, .i b_Y_Lo, .i b_Y_Hi] => some ⟨none, [], 0, [], .bool (xiK r_Ship r_Number r_Time r_Buoy r_At_X_Lo r_At_X_Hi r_At_Y_Lo r_At_Y_Hi r_From_X r_From_Y r_To_X r_To_Y r_Far b_X_Lo b_X_Hi b_Y_Lo b_Y_Hi)⟩
 | _ => Option.none
noncomputable def K91 : Con := ext Tryz.prog K90 81 [.agg [.int .i64 0, .int .i64 0, .int .i64 0, .int .i64 0, .int .i64 0, .int .i64 0, .int .i64 0, .int .i64 0, .int .i64 0, .int .i64 0, .int .i64 0, .int .i64 0, .int .i64 0], .agg [.int .i64 0, .int .i64 0, .int .i64 0, .int .i64 0]] [] xnX
theorem xEI : xaI Tryz.prog K91 := xad xar xEJ (n := 9) rfl rfl fun us x h => by
 unfold xnX at h
 split at h
 ·cases h; exact ⟨none, xt7 _ _ _ _ _ _ _ _ _ _ _ _ _ _ _ _ _, fun _ => trivial⟩
 ·cases h
theorem xrH (r_Ship r_Number r_Time r_Buoy r_At_X_Lo r_At_X_Hi r_At_Y_Lo r_At_Y_Hi r_From_X r_From_Y r_To_X r_To_Y r_Far p_X p_Y : Int) : xae Tryz.prog 0 (xat Tryz.prog K91 xaU 9 37 [.agg [.int .i64 r_Ship, .int .i64 r_Number, .int .i64 r_Time, .int .i64 r_Buoy, .int .i64 r_At_X_Lo, .int .i64 r_At_X_Hi, .int .i64 r_At_Y_Lo, .int .i64 r_At_Y_Hi, .int .i64 r_From_X, .int .i64 r_From_Y, .int .i64 r_To_X, .int .i64 r_To_Y, .int .i64 r_Far], .agg [.int .i64 p_X, .int .i64 p_Y]] ⟨[], 0⟩) = some ⟨none, [], 0, [], .tup [.bool (xf2 r_Ship r_Number r_Time r_Buoy r_At_X_Lo r_At_X_Hi r_At_Y_Lo r_At_Y_Hi r_From_X r_From_Y r_To_X r_To_Y r_Far p_X p_Y), .int .i64 (xn3 r_Ship r_Number r_Time r_Buoy r_At_X_Lo r_At_X_Hi r_At_Y_Lo r_At_Y_Hi r_From_X r_From_Y r_To_X r_To_Y r_Far p_X p_Y)]⟩ := by kernel_rfl
noncomputable def xl1 : List U → Option Eff
 | [.i r_Ship, .i r_Number, .i r_Time, .i r_Buoy, .i r_At_X_Lo, .i r_At_X_Hi, .i r_At_Y_Lo, .i r_At_Y_Hi, .i r_From_X, .i r_From_Y, .i r_To_X, .i r_To_Y, .i r_Far, .i p_X, .i p_Y] => some ⟨none, [], 0, [], .tup [.bool (xf2 r_Ship r_Number r_Time r_Buoy r_At_X_Lo r_At_X_Hi r_At_Y_Lo r_At_Y_Hi r_From_X r_From_Y r_To_X r_To_Y r_Far p_X p_Y), .int .i64 (xn3 r_Ship r_Number r_Time r_Buoy r_At_X_Lo r_At_X_Hi r_At_Y_Lo r_At_Y_Hi r_From_X r_From_Y r_To_X r_To_Y r_Far p_X p_Y)]⟩
 | _ => Option.none
noncomputable def K92 : Con := ext Tryz.prog K91 37 [.agg [.int .i64 0, .int .i64 0, .int .i64 0, .int .i64 0, .int .i64 0, .int .i64 0, .int .i64 0, .int .i64 0, .int .i64 0, .int .i64 0, .int .i64 0, .int .i64 0, .int .i64 0], .agg [.int .i64 0, .int .i64 0]] [] xl1
theorem xEH : xaI Tryz.prog K92 := xad xar xEI (n := 9) rfl rfl fun us x h => by
 unfold xl1 at h
 split at h
 ·cases h; exact ⟨none, xrH _ _ _ _ _ _ _ _ _ _ _ _ _ _ _, fun _ => trivial⟩
 ·cases h
theorem xqq (list : List (List Int)) : xae Tryz.prog 1 (xat Tryz.prog K92 xaU 9 64 [.sl 0] ⟨[⟨0, 1, false, .row 58 [.int .i64, .int .i64, .int .i64, .int .i64, .int .i64, .int .i64, .int .i64, .int .i64, .int .i64, .int .i64, .int .i64, .int .i64, .int .i64] list⟩], 1⟩) = some ⟨some (xdZ list), [], 0, [], .bool (xdh list)⟩ := by kernel_rfl
noncomputable def xk7 : List U → Option Eff
 | [.r list] => some ⟨some (xdZ list), [], 0, [], .bool (xdh list)⟩
 | _ => Option.none
noncomputable def K93 : Con := ext Tryz.prog K92 64 [.sl 0] [⟨0, 0, false, .row 58 [.int .i64, .int .i64, .int .i64, .int .i64, .int .i64, .int .i64, .int .i64, .int .i64, .int .i64, .int .i64, .int .i64, .int .i64, .int .i64] []⟩] xk7
theorem xEG : xaI Tryz.prog K93 := xad xar xEH (n := 9) rfl rfl fun us x h => by
 unfold xk7 at h
 split at h
 ·cases h; exact ⟨some (xdZ _), xqq _, fun h => h⟩
 ·cases h
theorem xsx (from_ : Int) (base forecast reports : List (List Int)) : xae Tryz.prog 3 (xat Tryz.prog K93 xaU 9 25 [.sl 0, .sl 1, .int .i64 from_, .sl 2] ⟨[⟨0, 3, false, .row 42 [.int .i64, .int .i64, .int .i64, .int .i64] base⟩, ⟨1, 3, false, .row 56 [.int .i64, .int .i64, .int .i64, .int .i64, .int .i64, .int .i64] forecast⟩, ⟨2, 3, false, .row 58 [.int .i64, .int .i64, .int .i64, .int .i64, .int .i64, .int .i64, .int .i64, .int .i64, .int .i64, .int .i64, .int .i64, .int .i64, .int .i64] reports⟩], 3⟩) = some ⟨some (xdf from_ base forecast reports), [], 0, [], .int .i64 (xaJ from_ base forecast reports)⟩ := by kernel_rfl
noncomputable def xmn : List U → Option Eff
 | [.i from_, .r base, .r forecast, .r reports] => some ⟨some (xdf from_ base forecast reports), [], 0, [], .int .i64 (xaJ from_ base forecast reports)⟩
 | _ => Option.none
noncomputable def K94 : Con := ext Tryz.prog K93 25 [.sl 0, .sl 1, .int .i64 0, .sl 2] [⟨0, 0, false, .row 42 [.int .i64, .int .i64, .int .i64, .int .i64] []⟩, ⟨1, 0, false, .row 56 [.int .i64, .int .i64, .int .i64, .int .i64, .int .i64, .int .i64] []⟩, ⟨2, 0, false, .row 58 [.int .i64, .int .i64, .int .i64, .int .i64, .int .i64, .int .i64, .int .i64, .int .i64, .int .i64, .int .i64, .int .i64, .int .i64, .int .i64] []⟩] xmn
theorem xEF : xaI Tryz.prog K94 := xad xar xEG (n := 9) rfl rfl fun us x h => by
 unfold xmn at h
 split at h
 ·cases h; exact ⟨some (xdf _ _ _ _), xsx _ _ _ _, fun h => h⟩
 ·cases h
theorem xsv (n : Int) (wrong : List (List Int)) : xae Tryz.prog 1 (xat Tryz.prog K94 xaU 9 26 [.sl 0, .int .i64 n] ⟨[⟨0, 1, false, .row 3 [.int .i64] wrong⟩], 1⟩) = some ⟨some (xd5 n wrong), [], 0, [], .bool (xc6 n wrong)⟩ := by kernel_rfl
noncomputable def xml : List U → Option Eff
 | [.i n, .r wrong] => some ⟨some (xd5 n wrong), [], 0, [], .bool (xc6 n wrong)⟩
 | _ => Option.none
noncomputable def K95 : Con := ext Tryz.prog K94 26 [.sl 0, .int .i64 0] [⟨0, 0, false, .row 3 [.int .i64] []⟩] xml
theorem xEE : xaI Tryz.prog K95 := xad xar xEF (n := 9) rfl rfl fun us x h => by
 unfold xml at h
 split at h
 ·cases h; exact ⟨some (xd5 _ _), xsv _ _, fun h => h⟩
 ·cases h
theorem xvG (n : Int) (list : List (List Int)) : xae Tryz.prog 1 (xat Tryz.prog K95 xaU 9 38 [.sl 0, .int .i64 n] ⟨[⟨0, 1, false, .row 3 [.int .i64] list⟩], 1⟩) = some ⟨some (xfF n list), [], 0, [], .bool (xhs n list)⟩ := by kernel_rfl
noncomputable def xph : List U → Option Eff
 | [.i n, .r list] => some ⟨some (xfF n list), [], 0, [], .bool (xhs n list)⟩
 | _ => Option.none
noncomputable def K96 : Con := ext Tryz.prog K95 38 [.sl 0, .int .i64 0] [⟨0, 0, false, .row 3 [.int .i64] []⟩] xph
theorem xED : xaI Tryz.prog K96 := xad xar xEE (n := 9) rfl rfl fun us x h => by
 unfold xph at h
 split at h
 ·cases h; exact ⟨some (xfF _ _), xvG _ _, fun h => h⟩
 ·cases h
theorem xt5 (from_ : Int) (base forecast reports wrong : List (List Int)) : xae Tryz.prog 4 (xat Tryz.prog K96 xaU 9 27 [.sl 0, .sl 1, .int .i64 from_, .sl 2, .sl 3] ⟨[⟨0, 4, false, .row 42 [.int .i64, .int .i64, .int .i64, .int .i64] base⟩, ⟨1, 4, false, .row 56 [.int .i64, .int .i64, .int .i64, .int .i64, .int .i64, .int .i64] forecast⟩, ⟨2, 4, false, .row 58 [.int .i64, .int .i64, .int .i64, .int .i64, .int .i64, .int .i64, .int .i64, .int .i64, .int .i64, .int .i64, .int .i64, .int .i64, .int .i64] reports⟩, ⟨3, 4, false, .row 3 [.int .i64] wrong⟩], 4⟩) = some ⟨some (xco from_ base forecast reports wrong), [], 1, [⟨4, 4, true, .row 42 [.int .i64, .int .i64, .int .i64, .int .i64] (xcg from_ base forecast reports wrong)⟩], .tup [.sl 4, .int .i64 (xbB from_ base forecast reports wrong)]⟩ := by kernel_rfl
noncomputable def xnT : List U → Option Eff
 | [.i from_, .r base, .r forecast, .r reports, .r wrong] => some ⟨some (xco from_ base forecast reports wrong), [], 1, [⟨4, 4, true, .row 42 [.int .i64, .int .i64, .int .i64, .int .i64] (xcg from_ base forecast reports wrong)⟩], .tup [.sl 4, .int .i64 (xbB from_ base forecast reports wrong)]⟩
 | _ => Option.none
noncomputable def K97 : Con := ext Tryz.prog K96 27 [.sl 0, .sl 1, .int .i64 0, .sl 2, .sl 3] [⟨0, 0, false, .row 42 [.int .i64, .int .i64, .int .i64, .int .i64] []⟩, ⟨1, 0, false, .row 56 [.int .i64, .int .i64, .int .i64, .int .i64, .int .i64, .int .i64] []⟩, ⟨2, 0, false, .row 58 [.int .i64, .int .i64, .int .i64, .int .i64, .int .i64, .int .i64, .int .i64, .int .i64, .int .i64, .int .i64, .int .i64, .int .i64, .int .i64] []⟩, ⟨3, 0, false, .row 3 [.int .i64] []⟩] xnT
theorem xEC : xaI Tryz.prog K97 := xad xar xED (n := 9) rfl rfl fun us x h => by
 unfold xnT at h
 split at h
 ·cases h; exact ⟨some (xco _ _ _ _ _), xt5 _ _ _ _ _, fun h => h⟩
 ·cases h
theorem xrG (from_ : Int) (base forecast reports wrong : List (List Int)) : xae Tryz.prog 4 (xat Tryz.prog K97 xaU 9 7 [.sl 0, .sl 1, .int .i64 from_, .sl 2, .sl 3] ⟨[⟨0, 4, false, .row 42 [.int .i64, .int .i64, .int .i64, .int .i64] base⟩, ⟨1, 4, false, .row 56 [.int .i64, .int .i64, .int .i64, .int .i64, .int .i64, .int .i64] forecast⟩, ⟨2, 4, false, .row 58 [.int .i64, .int .i64, .int .i64, .int .i64, .int .i64, .int .i64, .int .i64, .int .i64, .int .i64, .int .i64, .int .i64, .int .i64, .int .i64] reports⟩, ⟨3, 4, false, .row 3 [.int .i64] wrong⟩], 4⟩) = some ⟨some (xen from_ base forecast reports wrong), [], 1, [⟨4, 4, true, .row 42 [.int .i64, .int .i64, .int .i64, .int .i64] (xcp from_ base forecast reports wrong)⟩], .tup [.sl 4, .int .i64 (xc7 from_ base forecast reports wrong)]⟩ := by kernel_rfl
noncomputable def xlZ : List U → Option Eff
 | [.i from_, .r base, .r forecast, .r reports, .r wrong] => some ⟨some (xen from_ base forecast reports wrong), [], 1, [⟨4, 4, true, .row 42 [.int .i64, .int .i64, .int .i64, .int .i64] (xcp from_ base forecast reports wrong)⟩], .tup [.sl 4, .int .i64 (xc7 from_ base forecast reports wrong)]⟩
 | _ => Option.none
noncomputable def K98 : Con := ext Tryz.prog K97 7 [.sl 0, .sl 1, .int .i64 0, .sl 2, .sl 3] [⟨0, 0, false, .row 42 [.int .i64, .int .i64, .int .i64, .int .i64] []⟩, ⟨1, 0, false, .row 56 [.int .i64, .int .i64, .int .i64, .int .i64, .int .i64, .int .i64] []⟩, ⟨2, 0, false, .row 58 [.int .i64, .int .i64, .int .i64, .int .i64, .int .i64, .int .i64, .int .i64, .int .i64, .int .i64, .int .i64, .int .i64, .int .i64, .int .i64] []⟩, ⟨3, 0, false, .row 3 [.int .i64] []⟩] xlZ
theorem xEB : xaI Tryz.prog K98 := xad xar xEC (n := 9) rfl rfl fun us x h => by
 unfold xlZ at h
 split at h
 ·cases h; exact ⟨some (xen _ _ _ _ _), xrG _ _ _ _ _, fun h => h⟩
 ·cases h
theorem xsA (from_ most : Int) (base forecast reports : List (List Int)) : xae Tryz.prog 3 (xat Tryz.prog K98 xaU 9 40 [.sl 0, .sl 1, .int .i64 from_, .sl 2, .int .i64 most] ⟨[⟨0, 3, false, .row 42 [.int .i64, .int .i64, .int .i64, .int .i64] base⟩, ⟨1, 3, false, .row 56 [.int .i64, .int .i64, .int .i64, .int .i64, .int .i64, .int .i64] forecast⟩, ⟨2, 3, false, .row 58 [.int .i64, .int .i64, .int .i64, .int .i64, .int .i64, .int .i64, .int .i64, .int .i64, .int .i64, .int .i64, .int .i64, .int .i64, .int .i64] reports⟩], 3⟩) = some ⟨some (xfh from_ most base forecast reports), [], 0, [], .int .i64 (xbj from_ most base forecast reports)⟩ := by kernel_rfl
noncomputable def xmr : List U → Option Eff
 | [.i from_, .i most, .r base, .r forecast, .r reports] => some ⟨some (xfh from_ most base forecast reports), [], 0, [], .int .i64 (xbj from_ most base forecast reports)⟩
 | _ => Option.none
noncomputable def K99 : Con := ext Tryz.prog K98 40 [.sl 0, .sl 1, .int .i64 0, .sl 2, .int .i64 0] [⟨0, 0, false, .row 42 [.int .i64, .int .i64, .int .i64, .int .i64] []⟩, ⟨1, 0, false, .row 56 [.int .i64, .int .i64, .int .i64, .int .i64, .int .i64, .int .i64] []⟩, ⟨2, 0, false, .row 58 [.int .i64, .int .i64, .int .i64, .int .i64, .int .i64, .int .i64, .int .i64, .int .i64, .int .i64, .int .i64, .int .i64, .int .i64, .int .i64] []⟩] xmr
theorem xEA : xaI Tryz.prog K99 := xad xar xEB (n := 9) rfl rfl fun us x h => by
 unfold xmr at h
 split at h
 ·cases h; exact ⟨some (xfh _ _ _ _ _), xsA _ _ _ _ _, fun h => h⟩
 ·cases h
theorem xt6 (set : List (List Int)) : xae Tryz.prog 1 (xat Tryz.prog K99 xaU 9 45 [.sl 0] ⟨[⟨0, 1, false, .row 42 [.int .i64, .int .i64, .int .i64, .int .i64] set⟩], 1⟩) = some ⟨some (xeV set), [], 0, [], .agg [.int .i64 (xhA set), .int .i64 (xhz set), .int .i64 (xhy set), .int .i64 (xhx set)]⟩ := by kernel_rfl
noncomputable def xnU : List U → Option Eff
 | [.r set] => some ⟨some (xeV set), [], 0, [], .agg [.int .i64 (xhA set), .int .i64 (xhz set), .int .i64 (xhy set), .int .i64 (xhx set)]⟩
 | _ => Option.none
noncomputable def K100 : Con := ext Tryz.prog K99 45 [.sl 0] [⟨0, 0, false, .row 42 [.int .i64, .int .i64, .int .i64, .int .i64] []⟩] xnU
theorem xDV : xaI Tryz.prog K100 := xad xar xEA (n := 9) rfl rfl fun us x h => by
 unfold xnU at h
 split at h
 ·cases h; exact ⟨some (xeV _), xt6 _, fun h => h⟩
 ·cases h
theorem xsz (from_ : Int) (base forecast reports wrong track : List (List Int)) : xae Tryz.prog 5 (xat Tryz.prog K100 xaU 9 10 [.sl 0, .sl 1, .int .i64 from_, .sl 2, .sl 3, .sl 4] ⟨[⟨0, 5, false, .row 42 [.int .i64, .int .i64, .int .i64, .int .i64] base⟩, ⟨1, 5, false, .row 56 [.int .i64, .int .i64, .int .i64, .int .i64, .int .i64, .int .i64] forecast⟩, ⟨2, 5, false, .row 58 [.int .i64, .int .i64, .int .i64, .int .i64, .int .i64, .int .i64, .int .i64, .int .i64, .int .i64, .int .i64, .int .i64, .int .i64, .int .i64] reports⟩, ⟨3, 5, false, .row 3 [.int .i64] wrong⟩, ⟨4, 5, false, .row 49 [.int .i64, .int .i64] track⟩], 5⟩) = some ⟨some (xfg from_ base forecast reports wrong track), [], 0, [], .tup [.bool (xdK from_ base forecast reports wrong track), .int .i64 (xdJ from_ base forecast reports wrong track)]⟩ := by kernel_rfl
noncomputable def xmq : List U → Option Eff
 | [.i from_, .r base, .r forecast, .r reports, .r wrong, .r track] => some ⟨some (xfg from_ base forecast reports wrong track), [], 0, [], .tup [.bool (xdK from_ base forecast reports wrong track), .int .i64 (xdJ from_ base forecast reports wrong track)]⟩
 | _ => Option.none
noncomputable def K101 : Con := ext Tryz.prog K100 10 [.sl 0, .sl 1, .int .i64 0, .sl 2, .sl 3, .sl 4] [⟨0, 0, false, .row 42 [.int .i64, .int .i64, .int .i64, .int .i64] []⟩, ⟨1, 0, false, .row 56 [.int .i64, .int .i64, .int .i64, .int .i64, .int .i64, .int .i64] []⟩, ⟨2, 0, false, .row 58 [.int .i64, .int .i64, .int .i64, .int .i64, .int .i64, .int .i64, .int .i64, .int .i64, .int .i64, .int .i64, .int .i64, .int .i64, .int .i64] []⟩, ⟨3, 0, false, .row 3 [.int .i64] []⟩, ⟨4, 0, false, .row 49 [.int .i64, .int .i64] []⟩] xmq
theorem xDU : xaI Tryz.prog K101 := xad xar xDV (n := 9) rfl rfl fun us x h => by
 unfold xmq at h
 split at h
 ·cases h; exact ⟨some (xfg _ _ _ _ _ _), xsz _ _ _ _ _ _, fun h => h⟩
 ·cases h
end Go.Proofs.YtnijhjpaplihbaaGreat
set_option maxRecDepth 100000
set_option linter.unusedVariables false
namespace Go.Proofs.YtnijhjpaplihbaaGreat
open Go Go.Sy
theorem xt4 (n most : Int) : xae Tryz.prog 0 (xat Tryz.prog K101 xaU 9 41 [.int .i64 n, .int .i64 most] ⟨[], 0⟩) = some ⟨some (xdP n most), [], 1, [⟨0, 0, true, .nst 27 [(.s 3 [.int .i64])] (xal n most)⟩], .sl 0⟩ := by kernel_rfl
noncomputable def xnS : List U → Option Eff
 | [.i n, .i most] => some ⟨some (xdP n most), [], 1, [⟨0, 0, true, .nst 27 [(.s 3 [.int .i64])] (xal n most)⟩], .sl 0⟩
 | _ => Option.none
noncomputable def K102 : Con := ext Tryz.prog K101 41 [.int .i64 0, .int .i64 0] [] xnS
theorem xDT : xaI Tryz.prog K102 := xad xar xDU (n := 9) rfl rfl fun us x h => by
 unfold xnS at h
 split at h
 ·cases h; exact ⟨some (xdP _ _), xt4 _ _, fun h => h⟩
 ·cases h
theorem xqp (from_ most : Int) (base forecast reports : List (List Int)) : xae Tryz.prog 3 (xat Tryz.prog K102 xaU 9 12 [.sl 0, .sl 1, .int .i64 from_, .sl 2, .int .i64 most] ⟨[⟨0, 3, false, .row 42 [.int .i64, .int .i64, .int .i64, .int .i64] base⟩, ⟨1, 3, false, .row 56 [.int .i64, .int .i64, .int .i64, .int .i64, .int .i64, .int .i64] forecast⟩, ⟨2, 3, false, .row 58 [.int .i64, .int .i64, .int .i64, .int .i64, .int .i64, .int .i64, .int .i64, .int .i64, .int .i64, .int .i64, .int .i64, .int .i64, .int .i64] reports⟩], 3⟩) = some ⟨some (xc4 from_ most base forecast reports), [], 2, [⟨3, 3, false, .sub 3 [.int .i64] (xaj from_ most base forecast reports)⟩, ⟨4, 3, true, .row 42 [.int .i64, .int .i64, .int .i64, .int .i64] (xd7 from_ most base forecast reports)⟩], .tup [.sl 3, .sl 4, .int .i64 (xb5 from_ most base forecast reports)]⟩ := by kernel_rfl
noncomputable def xk6 : List U → Option Eff
 | [.i from_, .i most, .r base, .r forecast, .r reports] => some ⟨some (xc4 from_ most base forecast reports), [], 2, [⟨3, 3, false, .sub 3 [.int .i64] (xaj from_ most base forecast reports)⟩, ⟨4, 3, true, .row 42 [.int .i64, .int .i64, .int .i64, .int .i64] (xd7 from_ most base forecast reports)⟩], .tup [.sl 3, .sl 4, .int .i64 (xb5 from_ most base forecast reports)]⟩
 | _ => Option.none
noncomputable def K103 : Con := ext Tryz.prog K102 12 [.sl 0, .sl 1, .int .i64 0, .sl 2, .int .i64 0] [⟨0, 0, false, .row 42 [.int .i64, .int .i64, .int .i64, .int .i64] []⟩, ⟨1, 0, false, .row 56 [.int .i64, .int .i64, .int .i64, .int .i64, .int .i64, .int .i64] []⟩, ⟨2, 0, false, .row 58 [.int .i64, .int .i64, .int .i64, .int .i64, .int .i64, .int .i64, .int .i64, .int .i64, .int .i64, .int .i64, .int .i64, .int .i64, .int .i64] []⟩] xk6
theorem xDS : xaI Tryz.prog K103 := xad xar xDT (n := 9) rfl rfl fun us x h => by
 unfold xk6 at h
 split at h
 ·cases h; exact ⟨some (xc4 _ _ _ _ _), xqp _ _ _ _ _, fun h => h⟩
 ·cases h
theorem xsw (from_ most : Int) (base forecast reports : List (List Int)) : xae Tryz.prog 3 (xat Tryz.prog K103 xaU 9 15 [.sl 0, .sl 1, .int .i64 from_, .sl 2, .int .i64 most] ⟨[⟨0, 3, false, .row 42 [.int .i64, .int .i64, .int .i64, .int .i64] base⟩, ⟨1, 3, false, .row 56 [.int .i64, .int .i64, .int .i64, .int .i64, .int .i64, .int .i64] forecast⟩, ⟨2, 3, false, .row 58 [.int .i64, .int .i64, .int .i64, .int .i64, .int .i64, .int .i64, .int .i64, .int .i64, .int .i64, .int .i64, .int .i64, .int .i64, .int .i64] reports⟩], 3⟩) = some ⟨some (xfd from_ most base forecast reports), [], 0, [], .tup [.agg [.int .i64 (xgV from_ most base forecast reports), .int .i64 (xgU from_ most base forecast reports), .int .i64 (xgT from_ most base forecast reports), .int .i64 (xgS from_ most base forecast reports)], .int .i64 (xgR from_ most base forecast reports)]⟩ := by kernel_rfl
noncomputable def xmm : List U → Option Eff
 | [.i from_, .i most, .r base, .r forecast, .r reports] => some ⟨some (xfd from_ most base forecast reports), [], 0, [], .tup [.agg [.int .i64 (xgV from_ most base forecast reports), .int .i64 (xgU from_ most base forecast reports), .int .i64 (xgT from_ most base forecast reports), .int .i64 (xgS from_ most base forecast reports)], .int .i64 (xgR from_ most base forecast reports)]⟩
 | _ => Option.none
noncomputable def K104 : Con := ext Tryz.prog K103 15 [.sl 0, .sl 1, .int .i64 0, .sl 2, .int .i64 0] [⟨0, 0, false, .row 42 [.int .i64, .int .i64, .int .i64, .int .i64] []⟩, ⟨1, 0, false, .row 56 [.int .i64, .int .i64, .int .i64, .int .i64, .int .i64, .int .i64] []⟩, ⟨2, 0, false, .row 58 [.int .i64, .int .i64, .int .i64, .int .i64, .int .i64, .int .i64, .int .i64, .int .i64, .int .i64, .int .i64, .int .i64, .int .i64, .int .i64] []⟩] xmm
theorem xDR : xaI Tryz.prog K104 := xad xar xDS (n := 9) rfl rfl fun us x h => by
 unfold xmm at h
 split at h
 ·cases h; exact ⟨some (xfd _ _ _ _ _), xsw _ _ _ _ _, fun h => h⟩
 ·cases h
theorem xsy (from_ most : Int) (base forecast reports : List (List Int)) : xae Tryz.prog 3 (xat Tryz.prog K104 xaU 9 17 [.sl 0, .sl 1, .int .i64 from_, .sl 2, .int .i64 most] ⟨[⟨0, 3, false, .row 42 [.int .i64, .int .i64, .int .i64, .int .i64] base⟩, ⟨1, 3, false, .row 56 [.int .i64, .int .i64, .int .i64, .int .i64, .int .i64, .int .i64] forecast⟩, ⟨2, 3, false, .row 58 [.int .i64, .int .i64, .int .i64, .int .i64, .int .i64, .int .i64, .int .i64, .int .i64, .int .i64, .int .i64, .int .i64, .int .i64, .int .i64] reports⟩], 3⟩) = some ⟨some (xfe from_ most base forecast reports), [], 1, [⟨3, 3, false, .sub 3 [.int .i64] (xgW from_ most base forecast reports)⟩], .tup [.sl 3, .int .i64 (xhN from_ most base forecast reports)]⟩ := by kernel_rfl
noncomputable def xmo : List U → Option Eff
 | [.i from_, .i most, .r base, .r forecast, .r reports] => some ⟨some (xfe from_ most base forecast reports), [], 1, [⟨3, 3, false, .sub 3 [.int .i64] (xgW from_ most base forecast reports)⟩], .tup [.sl 3, .int .i64 (xhN from_ most base forecast reports)]⟩
 | _ => Option.none
noncomputable def K105 : Con := ext Tryz.prog K104 17 [.sl 0, .sl 1, .int .i64 0, .sl 2, .int .i64 0] [⟨0, 0, false, .row 42 [.int .i64, .int .i64, .int .i64, .int .i64] []⟩, ⟨1, 0, false, .row 56 [.int .i64, .int .i64, .int .i64, .int .i64, .int .i64, .int .i64] []⟩, ⟨2, 0, false, .row 58 [.int .i64, .int .i64, .int .i64, .int .i64, .int .i64, .int .i64, .int .i64, .int .i64, .int .i64, .int .i64, .int .i64, .int .i64, .int .i64] []⟩] xmo
theorem xDQ : xaI Tryz.prog K105 := xad xar xDR (n := 9) rfl rfl fun us x h => by
 unfold xmo at h
 split at h
 ·cases h; exact ⟨some (xfe _ _ _ _ _), xsy _ _ _ _ _, fun h => h⟩
 ·cases h
end Go.Proofs.YtnijhjpaplihbaaGreat
set_option maxRecDepth 100000
set_option linter.unusedVariables false
namespace Go.Proofs.YtnijhjpaplihbaaGreat
open Go Go.Sy
theorem xiZ (s_From most : Int) (s_Base s_Forecast s_Reports wrong track : List (List Int)) : xae Tryz.prog 5 (xat Tryz.prog K105 xaU 9 3 [.agg [.sl 0, .sl 1, .int .i64 s_From, .sl 2], .sl 3, .int .i64 most, .sl 4] ⟨[⟨0, 5, false, .row 42 [.int .i64, .int .i64, .int .i64, .int .i64] s_Base⟩, ⟨1, 5, false, .row 56 [.int .i64, .int .i64, .int .i64, .int .i64, .int .i64, .int .i64] s_Forecast⟩, ⟨2, 5, false, .row 58 [.int .i64, .int .i64, .int .i64, .int .i64, .int .i64, .int .i64, .int .i64, .int .i64, .int .i64, .int .i64, .int .i64, .int .i64, .int .i64] s_Reports⟩, ⟨3, 5, false, .row 3 [.int .i64] wrong⟩, ⟨4, 5, false, .row 49 [.int .i64, .int .i64] track⟩], 5⟩) = some ⟨some (xa4 s_From most s_Base s_Forecast s_Reports wrong track), [], 0, [], .bool (xbF s_From most s_Base s_Forecast s_Reports wrong track)⟩ := by kernel_rfl
noncomputable def xfx : List U → Option Eff
 | [.i s_From, .i most, .r s_Base, .r s_Forecast, .r s_Reports, .r wrong, .r track] => some ⟨some (xa4 s_From most s_Base s_Forecast s_Reports wrong track), [], 0, [], .bool (xbF s_From most s_Base s_Forecast s_Reports wrong track)⟩
 | _ => Option.none
noncomputable def K106 : Con := ext Tryz.prog K105 3 [.agg [.sl 0, .sl 1, .int .i64 0, .sl 2], .sl 3, .int .i64 0, .sl 4] [⟨0, 0, false, .row 42 [.int .i64, .int .i64, .int .i64, .int .i64] []⟩, ⟨1, 0, false, .row 56 [.int .i64, .int .i64, .int .i64, .int .i64, .int .i64, .int .i64] []⟩, ⟨2, 0, false, .row 58 [.int .i64, .int .i64, .int .i64, .int .i64, .int .i64, .int .i64, .int .i64, .int .i64, .int .i64, .int .i64, .int .i64, .int .i64, .int .i64] []⟩, ⟨3, 0, false, .row 3 [.int .i64] []⟩, ⟨4, 0, false, .row 49 [.int .i64, .int .i64] []⟩] xfx
theorem xDP : xaI Tryz.prog K106 := xad xar xDQ (n := 9) rfl rfl fun us x h => by
 unfold xfx at h
 split at h
 ·cases h; exact ⟨some (xa4 _ _ _ _ _ _ _), xiZ _ _ _ _ _ _ _, fun h => h⟩
 ·cases h
end Go.Proofs.YtnijhjpaplihbaaGreat
