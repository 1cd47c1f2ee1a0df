/- Written by program (wip/sygen.py): the contracts of the Go functions. -/
import Derived.Test.YtnijhjpaplihbaaRows
import Derived.Test.YtnijhjpaplihbaaSyH
import Derived.Test.YtnijhjpaplihbaaDesk0D
import Derived.Test.YtnijhjpaplihbaaDesk0
import Derived.Test.YtnijhjpaplihbaaDesk1D
set_option maxRecDepth 100000
set_option linter.unusedVariables false
namespace Go.Proofs.Ytnijhjpaplihbaa
open Go Go.Sy
theorem desk_Follow_col (from_ : Int) (base forecast reports wrong : List (List Int)) : collapse Try.prog 4 (execFn Try.prog K39 noSeq 9 11 [.sl 0, .sl 1, .int .i64 from_, .sl 2, .sl 3] ⟨[⟨0, 4, false, .row 48 [.int .i64, .int .i64, .int .i64, .int .i64] base⟩, ⟨1, 4, false, .row 63 [.int .i64, .int .i64, .int .i64, .int .i64, .int .i64, .int .i64] forecast⟩, ⟨2, 4, false, .row 59 [.int .i64, .int .i64, .int .i64, .int .i64, .int .i64, .int .i64, .int .i64, .int .i64, .int .i64, .int .i64, .int .i64, .int .i64, .int .i64] reports⟩, ⟨3, 4, false, .row 3 [.int .i64] wrong⟩], 4⟩) = some ⟨some (desk_Follow_pre from_ base forecast reports wrong), [], 1, [⟨4, 4, true, .row 48 [.int .i64, .int .i64, .int .i64, .int .i64] (desk_Follow_0 from_ base forecast reports wrong)⟩], .tup [.sl 4, .int .i64 (desk_Follow_1 from_ base forecast reports wrong)]⟩ := by kernel_rfl
noncomputable def desk_Follow_eff : List U → Option Eff
  | [.i from_, .r base, .r forecast, .r reports, .r wrong] => some ⟨some (desk_Follow_pre from_ base forecast reports wrong), [], 1, [⟨4, 4, true, .row 48 [.int .i64, .int .i64, .int .i64, .int .i64] (desk_Follow_0 from_ base forecast reports wrong)⟩], .tup [.sl 4, .int .i64 (desk_Follow_1 from_ base forecast reports wrong)]⟩
  | _ => Option.none
noncomputable def K40 : Con := ext Try.prog K39 11 [.sl 0, .sl 1, .int .i64 0, .sl 2, .sl 3] [⟨0, 0, false, .row 48 [.int .i64, .int .i64, .int .i64, .int .i64] []⟩, ⟨1, 0, false, .row 63 [.int .i64, .int .i64, .int .i64, .int .i64, .int .i64, .int .i64] []⟩, ⟨2, 0, false, .row 59 [.int .i64, .int .i64, .int .i64, .int .i64, .int .i64, .int .i64, .int .i64, .int .i64, .int .i64, .int .i64, .int .i64, .int .i64, .int .i64] []⟩, ⟨3, 0, false, .row 3 [.int .i64] []⟩] desk_Follow_eff
theorem K40_ok : ConOk Try.prog K40 := conOk_ext noSeq_ok K39_ok (n := 9) rfl rfl fun us x h => by
  unfold desk_Follow_eff at h
  split at h
  · cases h; exact ⟨some (desk_Follow_pre _ _ _ _ _), desk_Follow_col _ _ _ _ _, fun h => h⟩
  · cases h
theorem desk_Check_col (from_ : Int) (base forecast reports wrong track : List (List Int)) : collapse Try.prog 5 (execFn Try.prog K40 noSeq 9 10 [.sl 0, .sl 1, .int .i64 from_, .sl 2, .sl 3, .sl 4] ⟨[⟨0, 5, false, .row 48 [.int .i64, .int .i64, .int .i64, .int .i64] base⟩, ⟨1, 5, false, .row 63 [.int .i64, .int .i64, .int .i64, .int .i64, .int .i64, .int .i64] forecast⟩, ⟨2, 5, false, .row 59 [.int .i64, .int .i64, .int .i64, .int .i64, .int .i64, .int .i64, .int .i64, .int .i64, .int .i64, .int .i64, .int .i64, .int .i64, .int .i64] reports⟩, ⟨3, 5, false, .row 3 [.int .i64] wrong⟩, ⟨4, 5, false, .row 37 [.int .i64, .int .i64] track⟩], 5⟩) = some ⟨some (desk_Check_pre from_ base forecast reports wrong track), [], 0, [], .tup [.bool (desk_Check_0 from_ base forecast reports wrong track), .int .i64 (desk_Check_1 from_ base forecast reports wrong track)]⟩ := by kernel_rfl
noncomputable def desk_Check_eff : List U → Option Eff
  | [.i from_, .r base, .r forecast, .r reports, .r wrong, .r track] => some ⟨some (desk_Check_pre from_ base forecast reports wrong track), [], 0, [], .tup [.bool (desk_Check_0 from_ base forecast reports wrong track), .int .i64 (desk_Check_1 from_ base forecast reports wrong track)]⟩
  | _ => Option.none
noncomputable def K41 : Con := ext Try.prog K40 10 [.sl 0, .sl 1, .int .i64 0, .sl 2, .sl 3, .sl 4] [⟨0, 0, false, .row 48 [.int .i64, .int .i64, .int .i64, .int .i64] []⟩, ⟨1, 0, false, .row 63 [.int .i64, .int .i64, .int .i64, .int .i64, .int .i64, .int .i64] []⟩, ⟨2, 0, false, .row 59 [.int .i64, .int .i64, .int .i64, .int .i64, .int .i64, .int .i64, .int .i64, .int .i64, .int .i64, .int .i64, .int .i64, .int .i64, .int .i64] []⟩, ⟨3, 0, false, .row 3 [.int .i64] []⟩, ⟨4, 0, false, .row 37 [.int .i64, .int .i64] []⟩] desk_Check_eff
theorem K41_ok : ConOk Try.prog K41 := conOk_ext noSeq_ok K40_ok (n := 9) rfl rfl fun us x h => by
  unfold desk_Check_eff at h
  split at h
  · cases h; exact ⟨some (desk_Check_pre _ _ _ _ _ _), desk_Check_col _ _ _ _ _ _, fun h => h⟩
  · cases h
theorem ref02_Holds_col (b_X_Lo b_X_Hi b_Y_Lo b_Y_Hi p_X p_Y : Int) : collapse Try.prog 0 (execFn Try.prog K41 noSeq 9 46 [.agg [.int .i64 b_X_Lo, .int .i64 b_X_Hi, .int .i64 b_Y_Lo, .int .i64 b_Y_Hi], .agg [.int .i64 p_X, .int .i64 p_Y]] ⟨[], 0⟩) = some ⟨none, [], 0, [], .bool (ref02_Holds_0 b_X_Lo b_X_Hi b_Y_Lo b_Y_Hi p_X p_Y)⟩ := by kernel_rfl
noncomputable def ref02_Holds_eff : List U → Option Eff
  | [.i b_X_Lo, .i b_X_Hi, .i b_Y_Lo, .i b_Y_Hi, .i p_X, .i p_Y] => some ⟨none, [], 0, [], .bool (ref02_Holds_0 b_X_Lo b_X_Hi b_Y_Lo b_Y_Hi p_X p_Y)⟩
  | _ => Option.none
noncomputable def K42 : Con := ext Try.prog K41 46 [.agg [.int .i64 0, .int .i64 0, .int .i64 0, .int .i64 0], .agg [.int .i64 0, .int .i64 0]] [] ref02_Holds_eff
theorem K42_ok : ConOk Try.prog K42 := conOk_ext noSeq_ok K41_ok (n := 9) rfl rfl fun us x h => by
  unfold ref02_Holds_eff at h
  split at h
  · cases h; exact ⟨none, ref02_Holds_col _ _ _ _ _ _, fun _ => trivial⟩
  · cases h
theorem ref02_Has_col (s_Lo s_Hi x : Int) : collapse Try.prog 0 (execFn Try.prog K42 noSeq 9 67 [.agg [.int .i64 s_Lo, .int .i64 s_Hi], .int .i64 x] ⟨[], 0⟩) = some ⟨none, [], 0, [], .bool (ref02_Has_0 s_Lo s_Hi x)⟩ := by kernel_rfl
noncomputable def ref02_Has_eff : List U → Option Eff
  | [.i s_Lo, .i s_Hi, .i x] => some ⟨none, [], 0, [], .bool (ref02_Has_0 s_Lo s_Hi x)⟩
  | _ => Option.none
noncomputable def K43 : Con := ext Try.prog K42 67 [.agg [.int .i64 0, .int .i64 0], .int .i64 0] [] ref02_Has_eff
theorem K43_ok : ConOk Try.prog K43 := conOk_ext noSeq_ok K42_ok (n := 9) rfl rfl fun us x h => by
  unfold ref02_Has_eff at h
  split at h
  · cases h; exact ⟨none, ref02_Has_col _ _ _, fun _ => trivial⟩
  · cases h
theorem ref23_Has_col (p_X p_Y : Int) (list : List (List Int)) : collapse Try.prog 1 (execFn Try.prog K43 noSeq 9 21 [.sl 0, .agg [.int .i64 p_X, .int .i64 p_Y]] ⟨[⟨0, 1, false, .row 48 [.int .i64, .int .i64, .int .i64, .int .i64] list⟩], 1⟩) = some ⟨some (ref23_Has_pre p_X p_Y list), [], 0, [], .bool (ref23_Has_0 p_X p_Y list)⟩ := by kernel_rfl
noncomputable def ref23_Has_eff : List U → Option Eff
  | [.i p_X, .i p_Y, .r list] => some ⟨some (ref23_Has_pre p_X p_Y list), [], 0, [], .bool (ref23_Has_0 p_X p_Y list)⟩
  | _ => Option.none
noncomputable def K44 : Con := ext Try.prog K43 21 [.sl 0, .agg [.int .i64 0, .int .i64 0]] [⟨0, 0, false, .row 48 [.int .i64, .int .i64, .int .i64, .int .i64] []⟩] ref23_Has_eff
theorem K44_ok : ConOk Try.prog K44 := conOk_ext noSeq_ok K43_ok (n := 9) rfl rfl fun us x h => by
  unfold ref23_Has_eff at h
  split at h
  · cases h; exact ⟨some (ref23_Has_pre _ _ _), ref23_Has_col _ _ _, fun h => h⟩
  · cases h
theorem law25_few_col (s_From : Int) (s_Base s_Forecast s_Reports : List (List Int)) : collapse Try.prog 3 (execFn Try.prog K44 noSeq 9 13 [.agg [.sl 0, .sl 1, .int .i64 s_From, .sl 2]] ⟨[⟨0, 3, false, .row 48 [.int .i64, .int .i64, .int .i64, .int .i64] s_Base⟩, ⟨1, 3, false, .row 63 [.int .i64, .int .i64, .int .i64, .int .i64, .int .i64, .int .i64] s_Forecast⟩, ⟨2, 3, false, .row 59 [.int .i64, .int .i64, .int .i64, .int .i64, .int .i64, .int .i64, .int .i64, .int .i64, .int .i64, .int .i64, .int .i64, .int .i64, .int .i64] s_Reports⟩], 3⟩) = some ⟨none, [], 0, [], .bool (law25_few_0 s_From s_Base s_Forecast s_Reports)⟩ := by kernel_rfl
noncomputable def law25_few_eff : List U → Option Eff
  | [.i s_From, .r s_Base, .r s_Forecast, .r s_Reports] => some ⟨none, [], 0, [], .bool (law25_few_0 s_From s_Base s_Forecast s_Reports)⟩
  | _ => Option.none
noncomputable def K45 : Con := ext Try.prog K44 13 [.agg [.sl 0, .sl 1, .int .i64 0, .sl 2]] [⟨0, 0, false, .row 48 [.int .i64, .int .i64, .int .i64, .int .i64] []⟩, ⟨1, 0, false, .row 63 [.int .i64, .int .i64, .int .i64, .int .i64, .int .i64, .int .i64] []⟩, ⟨2, 0, false, .row 59 [.int .i64, .int .i64, .int .i64, .int .i64, .int .i64, .int .i64, .int .i64, .int .i64, .int .i64, .int .i64, .int .i64, .int .i64, .int .i64] []⟩] law25_few_eff
theorem K45_ok : ConOk Try.prog K45 := conOk_ext noSeq_ok K44_ok (n := 9) rfl rfl fun us x h => by
  unfold law25_few_eff at h
  split at h
  · cases h; exact ⟨none, law25_few_col _ _ _ _, fun _ => trivial⟩
  · cases h
theorem law25_box_col (a b c d : Int) : collapse Try.prog 0 (execFn Try.prog K45 noSeq 9 22 [.int .i64 a, .int .i64 b, .int .i64 c, .int .i64 d] ⟨[], 0⟩) = some ⟨none, [], 0, [], .agg [.int .i64 (law25_box_0 a b c d), .int .i64 (law25_box_1 a b c d), .int .i64 (law25_box_2 a b c d), .int .i64 (law25_box_3 a b c d)]⟩ := by kernel_rfl
noncomputable def law25_box_eff : List U → Option Eff
  | [.i a, .i b, .i c, .i d] => some ⟨none, [], 0, [], .agg [.int .i64 (law25_box_0 a b c d), .int .i64 (law25_box_1 a b c d), .int .i64 (law25_box_2 a b c d), .int .i64 (law25_box_3 a b c d)]⟩
  | _ => Option.none
noncomputable def K46 : Con := ext Try.prog K45 22 [.int .i64 0, .int .i64 0, .int .i64 0, .int .i64 0] [] law25_box_eff
theorem K46_ok : ConOk Try.prog K46 := conOk_ext noSeq_ok K45_ok (n := 9) rfl rfl fun us x h => by
  unfold law25_box_eff at h
  split at h
  · cases h; exact ⟨none, law25_box_col _ _ _ _, fun _ => trivial⟩
  · cases h
theorem law25_seen_col (number b_X_Lo b_X_Hi b_Y_Lo b_Y_Hi : Int) : collapse Try.prog 0 (execFn Try.prog K46 noSeq 9 23 [.int .i64 number, .agg [.int .i64 b_X_Lo, .int .i64 b_X_Hi, .int .i64 b_Y_Lo, .int .i64 b_Y_Hi]] ⟨[], 0⟩) = some ⟨none, [], 0, [], .agg [.val (Value.int IntKind.i64 (1 : Int)), .int .i64 (law25_seen_0 number b_X_Lo b_X_Hi b_Y_Lo b_Y_Hi), .val (Value.int IntKind.i64 (5 : Int)), .val (Value.int IntKind.i64 (1 : Int)), .int .i64 (law25_seen_1 number b_X_Lo b_X_Hi b_Y_Lo b_Y_Hi), .int .i64 (law25_seen_2 number b_X_Lo b_X_Hi b_Y_Lo b_Y_Hi), .int .i64 (law25_seen_3 number b_X_Lo b_X_Hi b_Y_Lo b_Y_Hi), .int .i64 (law25_seen_4 number b_X_Lo b_X_Hi b_Y_Lo b_Y_Hi), .val (Value.int IntKind.i64 (1 : Int)), .val (Value.int IntKind.i64 (0 : Int)), .val (Value.int IntKind.i64 (0 : Int)), .val (Value.int IntKind.i64 (1 : Int)), .val (Value.int IntKind.i64 (0 : Int))]⟩ := by kernel_rfl
noncomputable def law25_seen_eff : List U → Option Eff
  | [.i number, .i b_X_Lo, .i b_X_Hi, .i b_Y_Lo, .i b_Y_Hi] => some ⟨none, [], 0, [], .agg [.val (Value.int IntKind.i64 (1 : Int)), .int .i64 (law25_seen_0 number b_X_Lo b_X_Hi b_Y_Lo b_Y_Hi), .val (Value.int IntKind.i64 (5 : Int)), .val (Value.int IntKind.i64 (1 : Int)), .int .i64 (law25_seen_1 number b_X_Lo b_X_Hi b_Y_Lo b_Y_Hi), .int .i64 (law25_seen_2 number b_X_Lo b_X_Hi b_Y_Lo b_Y_Hi), .int .i64 (law25_seen_3 number b_X_Lo b_X_Hi b_Y_Lo b_Y_Hi), .int .i64 (law25_seen_4 number b_X_Lo b_X_Hi b_Y_Lo b_Y_Hi), .val (Value.int IntKind.i64 (1 : Int)), .val (Value.int IntKind.i64 (0 : Int)), .val (Value.int IntKind.i64 (0 : Int)), .val (Value.int IntKind.i64 (1 : Int)), .val (Value.int IntKind.i64 (0 : Int))]⟩
  | _ => Option.none
noncomputable def K47 : Con := ext Try.prog K46 23 [.int .i64 0, .agg [.int .i64 0, .int .i64 0, .int .i64 0, .int .i64 0]] [] law25_seen_eff
theorem K47_ok : ConOk Try.prog K47 := conOk_ext noSeq_ok K46_ok (n := 9) rfl rfl fun us x h => by
  unfold law25_seen_eff at h
  split at h
  · cases h; exact ⟨none, law25_seen_col _ _ _ _ _, fun _ => trivial⟩
  · cases h
theorem law25_before_col (a b : List (List Int)) : collapse Try.prog 2 (execFn Try.prog K47 noSeq 9 16 [.sl 0, .sl 1] ⟨[⟨0, 2, false, .row 3 [.int .i64] a⟩, ⟨1, 2, false, .row 3 [.int .i64] b⟩], 2⟩) = some ⟨some (law25_before_pre a b), [], 0, [], .bool (law25_before_0 a b)⟩ := by kernel_rfl
noncomputable def law25_before_eff : List U → Option Eff
  | [.r a, .r b] => some ⟨some (law25_before_pre a b), [], 0, [], .bool (law25_before_0 a b)⟩
  | _ => Option.none
noncomputable def K48 : Con := ext Try.prog K47 16 [.sl 0, .sl 1] [⟨0, 0, false, .row 3 [.int .i64] []⟩, ⟨1, 0, false, .row 3 [.int .i64] []⟩] law25_before_eff
theorem K48_ok : ConOk Try.prog K48 := conOk_ext noSeq_ok K47_ok (n := 9) rfl rfl fun us x h => by
  unfold law25_before_eff at h
  split at h
  · cases h; exact ⟨some (law25_before_pre _ _), law25_before_col _ _, fun h => h⟩
  · cases h
theorem law25_in_col (b_X_Lo b_X_Hi b_Y_Lo b_Y_Hi p_X p_Y : Int) : collapse Try.prog 0 (execFn Try.prog K48 noSeq 9 18 [.agg [.int .i64 b_X_Lo, .int .i64 b_X_Hi, .int .i64 b_Y_Lo, .int .i64 b_Y_Hi], .agg [.int .i64 p_X, .int .i64 p_Y]] ⟨[], 0⟩) = some ⟨none, [], 0, [], .bool (law25_in_0 b_X_Lo b_X_Hi b_Y_Lo b_Y_Hi p_X p_Y)⟩ := by kernel_rfl
noncomputable def law25_in_eff : List U → Option Eff
  | [.i b_X_Lo, .i b_X_Hi, .i b_Y_Lo, .i b_Y_Hi, .i p_X, .i p_Y] => some ⟨none, [], 0, [], .bool (law25_in_0 b_X_Lo b_X_Hi b_Y_Lo b_Y_Hi p_X p_Y)⟩
  | _ => Option.none
noncomputable def K49 : Con := ext Try.prog K48 18 [.agg [.int .i64 0, .int .i64 0, .int .i64 0, .int .i64 0], .agg [.int .i64 0, .int .i64 0]] [] law25_in_eff
theorem K49_ok : ConOk Try.prog K49 := conOk_ext noSeq_ok K48_ok (n := 9) rfl rfl fun us x h => by
  unfold law25_in_eff at h
  split at h
  · cases h; exact ⟨none, law25_in_col _ _ _ _ _ _, fun _ => trivial⟩
  · cases h
theorem law25_has_col (n : Int) (l : List (List Int)) : collapse Try.prog 1 (execFn Try.prog K49 noSeq 9 20 [.sl 0, .int .i64 n] ⟨[⟨0, 1, false, .row 3 [.int .i64] l⟩], 1⟩) = some ⟨some (law25_has_pre n l), [], 0, [], .bool (law25_has_0 n l)⟩ := by kernel_rfl
noncomputable def law25_has_eff : List U → Option Eff
  | [.i n, .r l] => some ⟨some (law25_has_pre n l), [], 0, [], .bool (law25_has_0 n l)⟩
  | _ => Option.none
noncomputable def K50 : Con := ext Try.prog K49 20 [.sl 0, .int .i64 0] [⟨0, 0, false, .row 3 [.int .i64] []⟩] law25_has_eff
theorem K50_ok : ConOk Try.prog K50 := conOk_ext noSeq_ok K49_ok (n := 9) rfl rfl fun us x h => by
  unfold law25_has_eff at h
  split at h
  · cases h; exact ⟨some (law25_has_pre _ _), law25_has_col _ _, fun h => h⟩
  · cases h
end Go.Proofs.Ytnijhjpaplihbaa
