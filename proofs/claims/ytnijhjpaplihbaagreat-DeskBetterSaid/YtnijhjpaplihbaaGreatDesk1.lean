/- Written by program (wip/sygen.py): the contracts of the Go functions. -/
import Derived.Test.YtnijhjpaplihbaaGreatRows
import Derived.Test.YtnijhjpaplihbaaGreatSyH
import Derived.Test.YtnijhjpaplihbaaGreatDesk1D
import Derived.Test.YtnijhjpaplihbaaGreatDesk0
set_option maxRecDepth 100000
set_option linter.unusedVariables false
namespace Go.Proofs.YtnijhjpaplihbaaGreat
open Go Go.Sy
theorem desk_Follow_col (from_ : Int) (base forecast reports wrong : List (List Int)) : collapse Tryz.prog 4 (execFn Tryz.prog K39 noSeq 9 6 [.sl 0, .sl 1, .int .i64 from_, .sl 2, .sl 3] ⟨[⟨0, 4, false, .row 42 [.int .i64, .int .i64, .int .i64, .int .i64] base⟩, ⟨1, 4, false, .row 56 [.int .i64, .int .i64, .int .i64, .int .i64, .int .i64, .int .i64] forecast⟩, ⟨2, 4, false, .row 58 [.int .i64, .int .i64, .int .i64, .int .i64, .int .i64, .int .i64, .int .i64, .int .i64, .int .i64, .int .i64, .int .i64, .int .i64, .int .i64] reports⟩, ⟨3, 4, false, .row 3 [.int .i64] wrong⟩], 4⟩) = some ⟨some (desk_Follow_pre from_ base forecast reports wrong), [], 1, [⟨4, 4, true, .row 42 [.int .i64, .int .i64, .int .i64, .int .i64] (desk_Follow_0 from_ base forecast reports wrong)⟩], .tup [.sl 4, .int .i64 (desk_Follow_1 from_ base forecast reports wrong)]⟩ := by kernel_rfl
noncomputable def desk_Follow_eff : List U → Option Eff
  | [.i from_, .r base, .r forecast, .r reports, .r wrong] => some ⟨some (desk_Follow_pre from_ base forecast reports wrong), [], 1, [⟨4, 4, true, .row 42 [.int .i64, .int .i64, .int .i64, .int .i64] (desk_Follow_0 from_ base forecast reports wrong)⟩], .tup [.sl 4, .int .i64 (desk_Follow_1 from_ base forecast reports wrong)]⟩
  | _ => Option.none
noncomputable def K40 : Con := ext Tryz.prog K39 6 [.sl 0, .sl 1, .int .i64 0, .sl 2, .sl 3] [⟨0, 0, false, .row 42 [.int .i64, .int .i64, .int .i64, .int .i64] []⟩, ⟨1, 0, false, .row 56 [.int .i64, .int .i64, .int .i64, .int .i64, .int .i64, .int .i64] []⟩, ⟨2, 0, false, .row 58 [.int .i64, .int .i64, .int .i64, .int .i64, .int .i64, .int .i64, .int .i64, .int .i64, .int .i64, .int .i64, .int .i64, .int .i64, .int .i64] []⟩, ⟨3, 0, false, .row 3 [.int .i64] []⟩] desk_Follow_eff
theorem K40_ok : ConOk Tryz.prog K40 := conOk_ext noSeq_ok K39_ok (n := 9) rfl rfl fun us x h => by
  unfold desk_Follow_eff at h
  split at h
  · cases h; exact ⟨some (desk_Follow_pre _ _ _ _ _), desk_Follow_col _ _ _ _ _, fun h => h⟩
  · cases h
theorem desk_Check_col (from_ : Int) (base forecast reports wrong track : List (List Int)) : collapse Tryz.prog 5 (execFn Tryz.prog K40 noSeq 9 9 [.sl 0, .sl 1, .int .i64 from_, .sl 2, .sl 3, .sl 4] ⟨[⟨0, 5, false, .row 42 [.int .i64, .int .i64, .int .i64, .int .i64] base⟩, ⟨1, 5, false, .row 56 [.int .i64, .int .i64, .int .i64, .int .i64, .int .i64, .int .i64] forecast⟩, ⟨2, 5, false, .row 58 [.int .i64, .int .i64, .int .i64, .int .i64, .int .i64, .int .i64, .int .i64, .int .i64, .int .i64, .int .i64, .int .i64, .int .i64, .int .i64] reports⟩, ⟨3, 5, false, .row 3 [.int .i64] wrong⟩, ⟨4, 5, false, .row 49 [.int .i64, .int .i64] track⟩], 5⟩) = some ⟨some (desk_Check_pre from_ base forecast reports wrong track), [], 0, [], .tup [.bool (desk_Check_0 from_ base forecast reports wrong track), .int .i64 (desk_Check_1 from_ base forecast reports wrong track)]⟩ := by kernel_rfl
noncomputable def desk_Check_eff : List U → Option Eff
  | [.i from_, .r base, .r forecast, .r reports, .r wrong, .r track] => some ⟨some (desk_Check_pre from_ base forecast reports wrong track), [], 0, [], .tup [.bool (desk_Check_0 from_ base forecast reports wrong track), .int .i64 (desk_Check_1 from_ base forecast reports wrong track)]⟩
  | _ => Option.none
noncomputable def K41 : Con := ext Tryz.prog K40 9 [.sl 0, .sl 1, .int .i64 0, .sl 2, .sl 3, .sl 4] [⟨0, 0, false, .row 42 [.int .i64, .int .i64, .int .i64, .int .i64] []⟩, ⟨1, 0, false, .row 56 [.int .i64, .int .i64, .int .i64, .int .i64, .int .i64, .int .i64] []⟩, ⟨2, 0, false, .row 58 [.int .i64, .int .i64, .int .i64, .int .i64, .int .i64, .int .i64, .int .i64, .int .i64, .int .i64, .int .i64, .int .i64, .int .i64, .int .i64] []⟩, ⟨3, 0, false, .row 3 [.int .i64] []⟩, ⟨4, 0, false, .row 49 [.int .i64, .int .i64] []⟩] desk_Check_eff
theorem K41_ok : ConOk Tryz.prog K41 := conOk_ext noSeq_ok K40_ok (n := 9) rfl rfl fun us x h => by
  unfold desk_Check_eff at h
  split at h
  · cases h; exact ⟨some (desk_Check_pre _ _ _ _ _ _), desk_Check_col _ _ _ _ _ _, fun h => h⟩
  · cases h
theorem ref02_Holds_col (b_X_Lo b_X_Hi b_Y_Lo b_Y_Hi p_X p_Y : Int) : collapse Tryz.prog 0 (execFn Tryz.prog K41 noSeq 9 55 [.agg [.int .i64 b_X_Lo, .int .i64 b_X_Hi, .int .i64 b_Y_Lo, .int .i64 b_Y_Hi], .agg [.int .i64 p_X, .int .i64 p_Y]] ⟨[], 0⟩) = some ⟨none, [], 0, [], .bool (ref02_Holds_0 b_X_Lo b_X_Hi b_Y_Lo b_Y_Hi p_X p_Y)⟩ := by kernel_rfl
noncomputable def ref02_Holds_eff : List U → Option Eff
  | [.i b_X_Lo, .i b_X_Hi, .i b_Y_Lo, .i b_Y_Hi, .i p_X, .i p_Y] => some ⟨none, [], 0, [], .bool (ref02_Holds_0 b_X_Lo b_X_Hi b_Y_Lo b_Y_Hi p_X p_Y)⟩
  | _ => Option.none
noncomputable def K42 : Con := ext Tryz.prog K41 55 [.agg [.int .i64 0, .int .i64 0, .int .i64 0, .int .i64 0], .agg [.int .i64 0, .int .i64 0]] [] ref02_Holds_eff
theorem K42_ok : ConOk Tryz.prog K42 := conOk_ext noSeq_ok K41_ok (n := 9) rfl rfl fun us x h => by
  unfold ref02_Holds_eff at h
  split at h
  · cases h; exact ⟨none, ref02_Holds_col _ _ _ _ _ _, fun _ => trivial⟩
  · cases h
theorem ref02_Has_col (s_Lo s_Hi x : Int) : collapse Tryz.prog 0 (execFn Tryz.prog K42 noSeq 9 79 [.agg [.int .i64 s_Lo, .int .i64 s_Hi], .int .i64 x] ⟨[], 0⟩) = some ⟨none, [], 0, [], .bool (ref02_Has_0 s_Lo s_Hi x)⟩ := by kernel_rfl
noncomputable def ref02_Has_eff : List U → Option Eff
  | [.i s_Lo, .i s_Hi, .i x] => some ⟨none, [], 0, [], .bool (ref02_Has_0 s_Lo s_Hi x)⟩
  | _ => Option.none
noncomputable def K43 : Con := ext Tryz.prog K42 79 [.agg [.int .i64 0, .int .i64 0], .int .i64 0] [] ref02_Has_eff
theorem K43_ok : ConOk Tryz.prog K43 := conOk_ext noSeq_ok K42_ok (n := 9) rfl rfl fun us x h => by
  unfold ref02_Has_eff at h
  split at h
  · cases h; exact ⟨none, ref02_Has_col _ _ _, fun _ => trivial⟩
  · cases h
theorem ref23_Has_col (p_X p_Y : Int) (list : List (List Int)) : collapse Tryz.prog 1 (execFn Tryz.prog K43 noSeq 9 19 [.sl 0, .agg [.int .i64 p_X, .int .i64 p_Y]] ⟨[⟨0, 1, false, .row 42 [.int .i64, .int .i64, .int .i64, .int .i64] list⟩], 1⟩) = some ⟨some (ref23_Has_pre p_X p_Y list), [], 0, [], .bool (ref23_Has_0 p_X p_Y list)⟩ := by kernel_rfl
noncomputable def ref23_Has_eff : List U → Option Eff
  | [.i p_X, .i p_Y, .r list] => some ⟨some (ref23_Has_pre p_X p_Y list), [], 0, [], .bool (ref23_Has_0 p_X p_Y list)⟩
  | _ => Option.none
noncomputable def K44 : Con := ext Tryz.prog K43 19 [.sl 0, .agg [.int .i64 0, .int .i64 0]] [⟨0, 0, false, .row 42 [.int .i64, .int .i64, .int .i64, .int .i64] []⟩] ref23_Has_eff
theorem K44_ok : ConOk Tryz.prog K44 := conOk_ext noSeq_ok K43_ok (n := 9) rfl rfl fun us x h => by
  unfold ref23_Has_eff at h
  split at h
  · cases h; exact ⟨some (ref23_Has_pre _ _ _), ref23_Has_col _ _ _, fun h => h⟩
  · cases h
noncomputable def K45 : Con := K44
theorem K45_ok : ConOk Tryz.prog K45 := K44_ok
theorem law25_box_col (a b c d : Int) : collapse Tryz.prog 0 (execFn Tryz.prog K45 noSeq 9 20 [.int .i64 a, .int .i64 b, .int .i64 c, .int .i64 d] ⟨[], 0⟩) = some ⟨none, [], 0, [], .agg [.int .i64 (law25_box_0 a b c d), .int .i64 (law25_box_1 a b c d), .int .i64 (law25_box_2 a b c d), .int .i64 (law25_box_3 a b c d)]⟩ := by kernel_rfl
noncomputable def law25_box_eff : List U → Option Eff
  | [.i a, .i b, .i c, .i d] => some ⟨none, [], 0, [], .agg [.int .i64 (law25_box_0 a b c d), .int .i64 (law25_box_1 a b c d), .int .i64 (law25_box_2 a b c d), .int .i64 (law25_box_3 a b c d)]⟩
  | _ => Option.none
noncomputable def K46 : Con := ext Tryz.prog K45 20 [.int .i64 0, .int .i64 0, .int .i64 0, .int .i64 0] [] law25_box_eff
theorem K46_ok : ConOk Tryz.prog K46 := conOk_ext noSeq_ok K45_ok (n := 9) rfl rfl fun us x h => by
  unfold law25_box_eff at h
  split at h
  · cases h; exact ⟨none, law25_box_col _ _ _ _, fun _ => trivial⟩
  · cases h
theorem law25_seen_col (number b_X_Lo b_X_Hi b_Y_Lo b_Y_Hi : Int) : collapse Tryz.prog 0 (execFn Tryz.prog K46 noSeq 9 21 [.int .i64 number, .agg [.int .i64 b_X_Lo, .int .i64 b_X_Hi, .int .i64 b_Y_Lo, .int .i64 b_Y_Hi]] ⟨[], 0⟩) = some ⟨none, [], 0, [], .agg [.val (Value.int IntKind.i64 (1 : Int)), .int .i64 (law25_seen_0 number b_X_Lo b_X_Hi b_Y_Lo b_Y_Hi), .val (Value.int IntKind.i64 (5 : Int)), .val (Value.int IntKind.i64 (1 : Int)), .int .i64 (law25_seen_1 number b_X_Lo b_X_Hi b_Y_Lo b_Y_Hi), .int .i64 (law25_seen_2 number b_X_Lo b_X_Hi b_Y_Lo b_Y_Hi), .int .i64 (law25_seen_3 number b_X_Lo b_X_Hi b_Y_Lo b_Y_Hi), .int .i64 (law25_seen_4 number b_X_Lo b_X_Hi b_Y_Lo b_Y_Hi), .val (Value.int IntKind.i64 (1 : Int)), .val (Value.int IntKind.i64 (0 : Int)), .val (Value.int IntKind.i64 (0 : Int)), .val (Value.int IntKind.i64 (1 : Int)), .val (Value.int IntKind.i64 (0 : Int))]⟩ := by kernel_rfl
noncomputable def law25_seen_eff : List U → Option Eff
  | [.i number, .i b_X_Lo, .i b_X_Hi, .i b_Y_Lo, .i b_Y_Hi] => some ⟨none, [], 0, [], .agg [.val (Value.int IntKind.i64 (1 : Int)), .int .i64 (law25_seen_0 number b_X_Lo b_X_Hi b_Y_Lo b_Y_Hi), .val (Value.int IntKind.i64 (5 : Int)), .val (Value.int IntKind.i64 (1 : Int)), .int .i64 (law25_seen_1 number b_X_Lo b_X_Hi b_Y_Lo b_Y_Hi), .int .i64 (law25_seen_2 number b_X_Lo b_X_Hi b_Y_Lo b_Y_Hi), .int .i64 (law25_seen_3 number b_X_Lo b_X_Hi b_Y_Lo b_Y_Hi), .int .i64 (law25_seen_4 number b_X_Lo b_X_Hi b_Y_Lo b_Y_Hi), .val (Value.int IntKind.i64 (1 : Int)), .val (Value.int IntKind.i64 (0 : Int)), .val (Value.int IntKind.i64 (0 : Int)), .val (Value.int IntKind.i64 (1 : Int)), .val (Value.int IntKind.i64 (0 : Int))]⟩
  | _ => Option.none
noncomputable def K47 : Con := ext Tryz.prog K46 21 [.int .i64 0, .agg [.int .i64 0, .int .i64 0, .int .i64 0, .int .i64 0]] [] law25_seen_eff
theorem K47_ok : ConOk Tryz.prog K47 := conOk_ext noSeq_ok K46_ok (n := 9) rfl rfl fun us x h => by
  unfold law25_seen_eff at h
  split at h
  · cases h; exact ⟨none, law25_seen_col _ _ _ _ _, fun _ => trivial⟩
  · cases h
noncomputable def K48 : Con := K47
theorem K48_ok : ConOk Tryz.prog K48 := K47_ok
noncomputable def K49 : Con := K48
theorem K49_ok : ConOk Tryz.prog K49 := K48_ok
noncomputable def K50 : Con := K49
theorem K50_ok : ConOk Tryz.prog K50 := K49_ok
end Go.Proofs.YtnijhjpaplihbaaGreat
