/- Written by program (wip/sygen.py): the contracts of the Go functions. -/
import Derived.Test.YtcpikjablgbegaaRows
import Derived.Test.YtcpikjablgbegaaSyH
import Derived.Test.YtcpikjablgbegaaSight1D
import Derived.Test.YtcpikjablgbegaaSight1
import Derived.Test.YtcpikjablgbegaaSight2D
set_option maxRecDepth 100000
set_option linter.unusedVariables false
namespace Go.Proofs.Ytcpikjablgbegaa
open Go Go.Sy
theorem law24_seen_col  : collapse Try.prog 0 (execFn Try.prog S41 9 37 [] ⟨[], 0⟩) = some ⟨none, [], 0, [], .agg [.val (Value.int IntKind.i64 (1 : Int)), .val (Value.int IntKind.i64 (1 : Int)), .val (Value.int IntKind.i64 (0 : Int)), .val (Value.int IntKind.i64 (1 : Int)), .val (Value.int IntKind.i64 (0 : Int)), .val (Value.int IntKind.i64 (2 : Int)), .val (Value.int IntKind.i64 (0 : Int)), .val (Value.int IntKind.i64 (0 : Int)), .val (Value.int IntKind.i64 (1 : Int)), .val (Value.int IntKind.i64 (0 : Int)), .val (Value.int IntKind.i64 (1 : Int)), .val (Value.int IntKind.i64 (1 : Int)), .val (Value.int IntKind.i64 (10 : Int))]⟩ := by kernel_rfl
noncomputable def law24_seen_eff : List U → Option Eff
  | [] => some ⟨none, [], 0, [], .agg [.val (Value.int IntKind.i64 (1 : Int)), .val (Value.int IntKind.i64 (1 : Int)), .val (Value.int IntKind.i64 (0 : Int)), .val (Value.int IntKind.i64 (1 : Int)), .val (Value.int IntKind.i64 (0 : Int)), .val (Value.int IntKind.i64 (2 : Int)), .val (Value.int IntKind.i64 (0 : Int)), .val (Value.int IntKind.i64 (0 : Int)), .val (Value.int IntKind.i64 (1 : Int)), .val (Value.int IntKind.i64 (0 : Int)), .val (Value.int IntKind.i64 (1 : Int)), .val (Value.int IntKind.i64 (1 : Int)), .val (Value.int IntKind.i64 (10 : Int))]⟩
  | _ => Option.none
noncomputable def S42 : Con := ext Try.prog S41 37 [] [] law24_seen_eff
theorem S42_ok : ConOk Try.prog S42 := conOk_ext S41_ok (n := 9) rfl rfl fun us x h => by
  unfold law24_seen_eff at h
  split at h
  · cases h; exact ⟨none, law24_seen_col, fun _ => trivial⟩
  · cases h
theorem law24_allows_col (x y : Int) : collapse Try.prog 0 (execFn Try.prog S42 9 36 [.int .i64 x, .int .i64 y] ⟨[], 0⟩) = some ⟨none, [], 0, [], .bool (law24_allows_0 x y)⟩ := by kernel_rfl
noncomputable def law24_allows_eff : List U → Option Eff
  | [.i x, .i y] => some ⟨none, [], 0, [], .bool (law24_allows_0 x y)⟩
  | _ => Option.none
noncomputable def S43 : Con := ext Try.prog S42 36 [.int .i64 0, .int .i64 0] [] law24_allows_eff
theorem S43_ok : ConOk Try.prog S43 := conOk_ext S42_ok (n := 9) rfl rfl fun us x h => by
  unfold law24_allows_eff at h
  split at h
  · cases h; exact ⟨none, law24_allows_col _ _, fun _ => trivial⟩
  · cases h
theorem law24_head_col  : collapse Try.prog 0 (execFn Try.prog S43 9 11 [] ⟨[], 0⟩) = some ⟨some (law24_head_pre), [], 0, [], .bool (law24_head_0)⟩ := by kernel_rfl
noncomputable def law24_head_eff : List U → Option Eff
  | [] => some ⟨some (law24_head_pre), [], 0, [], .bool (law24_head_0)⟩
  | _ => Option.none
noncomputable def S44 : Con := ext Try.prog S43 11 [] [] law24_head_eff
theorem S44_ok : ConOk Try.prog S44 := conOk_ext S43_ok (n := 9) rfl rfl fun us x h => by
  unfold law24_head_eff at h
  split at h
  · cases h; exact ⟨some (law24_head_pre), law24_head_col, fun h => h⟩
  · cases h
theorem law24_turned_col (p_X p_Y by__X by__Y : Int) : collapse Try.prog 0 (execFn Try.prog S44 9 30 [.agg [.int .i64 p_X, .int .i64 p_Y], .agg [.int .i64 by__X, .int .i64 by__Y]] ⟨[], 0⟩) = some ⟨none, [], 0, [], .agg [.int .i64 (law24_turned_0 p_X p_Y by__X by__Y), .int .i64 (law24_turned_1 p_X p_Y by__X by__Y)]⟩ := by kernel_rfl
noncomputable def law24_turned_eff : List U → Option Eff
  | [.i p_X, .i p_Y, .i by__X, .i by__Y] => some ⟨none, [], 0, [], .agg [.int .i64 (law24_turned_0 p_X p_Y by__X by__Y), .int .i64 (law24_turned_1 p_X p_Y by__X by__Y)]⟩
  | _ => Option.none
noncomputable def S45 : Con := ext Try.prog S44 30 [.agg [.int .i64 0, .int .i64 0], .agg [.int .i64 0, .int .i64 0]] [] law24_turned_eff
theorem S45_ok : ConOk Try.prog S45 := conOk_ext S44_ok (n := 9) rfl rfl fun us x h => by
  unfold law24_turned_eff at h
  split at h
  · cases h; exact ⟨none, law24_turned_col _ _ _ _, fun _ => trivial⟩
  · cases h
theorem law24_around_col (b_X_Lo b_X_Hi b_Y_Lo b_Y_Hi by__X by__Y : Int) : collapse Try.prog 0 (execFn Try.prog S45 9 29 [.agg [.int .i64 b_X_Lo, .int .i64 b_X_Hi, .int .i64 b_Y_Lo, .int .i64 b_Y_Hi], .agg [.int .i64 by__X, .int .i64 by__Y]] ⟨[], 0⟩) = some ⟨none, [], 0, [], .agg [.int .i64 (law24_around_0 b_X_Lo b_X_Hi b_Y_Lo b_Y_Hi by__X by__Y), .int .i64 (law24_around_1 b_X_Lo b_X_Hi b_Y_Lo b_Y_Hi by__X by__Y), .int .i64 (law24_around_2 b_X_Lo b_X_Hi b_Y_Lo b_Y_Hi by__X by__Y), .int .i64 (law24_around_3 b_X_Lo b_X_Hi b_Y_Lo b_Y_Hi by__X by__Y)]⟩ := by kernel_rfl
noncomputable def law24_around_eff : List U → Option Eff
  | [.i b_X_Lo, .i b_X_Hi, .i b_Y_Lo, .i b_Y_Hi, .i by__X, .i by__Y] => some ⟨none, [], 0, [], .agg [.int .i64 (law24_around_0 b_X_Lo b_X_Hi b_Y_Lo b_Y_Hi by__X by__Y), .int .i64 (law24_around_1 b_X_Lo b_X_Hi b_Y_Lo b_Y_Hi by__X by__Y), .int .i64 (law24_around_2 b_X_Lo b_X_Hi b_Y_Lo b_Y_Hi by__X by__Y), .int .i64 (law24_around_3 b_X_Lo b_X_Hi b_Y_Lo b_Y_Hi by__X by__Y)]⟩
  | _ => Option.none
noncomputable def S46 : Con := ext Try.prog S45 29 [.agg [.int .i64 0, .int .i64 0, .int .i64 0, .int .i64 0], .agg [.int .i64 0, .int .i64 0]] [] law24_around_eff
theorem S46_ok : ConOk Try.prog S46 := conOk_ext S45_ok (n := 9) rfl rfl fun us x h => by
  unfold law24_around_eff at h
  split at h
  · cases h; exact ⟨none, law24_around_col _ _ _ _ _ _, fun _ => trivial⟩
  · cases h
theorem span_Join_col (s_Lo s_Hi t_Lo t_Hi : Int) : collapse Try.prog 0 (execFn Try.prog S46 9 61 [.agg [.int .i64 s_Lo, .int .i64 s_Hi], .agg [.int .i64 t_Lo, .int .i64 t_Hi]] ⟨[], 0⟩) = some ⟨none, [], 0, [], .tup [.agg [.int .i64 (span_Join_0 s_Lo s_Hi t_Lo t_Hi), .int .i64 (span_Join_1 s_Lo s_Hi t_Lo t_Hi)], .int .i64 (span_Join_2 s_Lo s_Hi t_Lo t_Hi)]⟩ := by kernel_rfl
noncomputable def span_Join_eff : List U → Option Eff
  | [.i s_Lo, .i s_Hi, .i t_Lo, .i t_Hi] => some ⟨none, [], 0, [], .tup [.agg [.int .i64 (span_Join_0 s_Lo s_Hi t_Lo t_Hi), .int .i64 (span_Join_1 s_Lo s_Hi t_Lo t_Hi)], .int .i64 (span_Join_2 s_Lo s_Hi t_Lo t_Hi)]⟩
  | _ => Option.none
noncomputable def S47 : Con := ext Try.prog S46 61 [.agg [.int .i64 0, .int .i64 0], .agg [.int .i64 0, .int .i64 0]] [] span_Join_eff
theorem S47_ok : ConOk Try.prog S47 := conOk_ext S46_ok (n := 9) rfl rfl fun us x h => by
  unfold span_Join_eff at h
  split at h
  · cases h; exact ⟨none, span_Join_col _ _ _ _, fun _ => trivial⟩
  · cases h
theorem span_InBox_col (p_X p_Y b_X_Lo b_X_Hi b_Y_Lo b_Y_Hi : Int) : collapse Try.prog 0 (execFn Try.prog S47 9 34 [.agg [.int .i64 p_X, .int .i64 p_Y], .agg [.int .i64 b_X_Lo, .int .i64 b_X_Hi, .int .i64 b_Y_Lo, .int .i64 b_Y_Hi]] ⟨[], 0⟩) = some ⟨none, [], 0, [], .tup [.bool (span_InBox_0 p_X p_Y b_X_Lo b_X_Hi b_Y_Lo b_Y_Hi), .int .i64 (span_InBox_1 p_X p_Y b_X_Lo b_X_Hi b_Y_Lo b_Y_Hi)]⟩ := by kernel_rfl
noncomputable def span_InBox_eff : List U → Option Eff
  | [.i p_X, .i p_Y, .i b_X_Lo, .i b_X_Hi, .i b_Y_Lo, .i b_Y_Hi] => some ⟨none, [], 0, [], .tup [.bool (span_InBox_0 p_X p_Y b_X_Lo b_X_Hi b_Y_Lo b_Y_Hi), .int .i64 (span_InBox_1 p_X p_Y b_X_Lo b_X_Hi b_Y_Lo b_Y_Hi)]⟩
  | _ => Option.none
noncomputable def S48 : Con := ext Try.prog S47 34 [.agg [.int .i64 0, .int .i64 0], .agg [.int .i64 0, .int .i64 0, .int .i64 0, .int .i64 0]] [] span_InBox_eff
theorem S48_ok : ConOk Try.prog S48 := conOk_ext S47_ok (n := 9) rfl rfl fun us x h => by
  unfold span_InBox_eff at h
  split at h
  · cases h; exact ⟨none, span_InBox_col _ _ _ _ _ _, fun _ => trivial⟩
  · cases h
theorem span_MeetBox_col (a_X_Lo a_X_Hi a_Y_Lo a_Y_Hi b_X_Lo b_X_Hi b_Y_Lo b_Y_Hi : Int) : collapse Try.prog 0 (execFn Try.prog S48 9 35 [.agg [.int .i64 a_X_Lo, .int .i64 a_X_Hi, .int .i64 a_Y_Lo, .int .i64 a_Y_Hi], .agg [.int .i64 b_X_Lo, .int .i64 b_X_Hi, .int .i64 b_Y_Lo, .int .i64 b_Y_Hi]] ⟨[], 0⟩) = some ⟨none, [], 0, [], .tup [.agg [.int .i64 (span_MeetBox_0 a_X_Lo a_X_Hi a_Y_Lo a_Y_Hi b_X_Lo b_X_Hi b_Y_Lo b_Y_Hi), .int .i64 (span_MeetBox_1 a_X_Lo a_X_Hi a_Y_Lo a_Y_Hi b_X_Lo b_X_Hi b_Y_Lo b_Y_Hi), .int .i64 (span_MeetBox_2 a_X_Lo a_X_Hi a_Y_Lo a_Y_Hi b_X_Lo b_X_Hi b_Y_Lo b_Y_Hi), .int .i64 (span_MeetBox_3 a_X_Lo a_X_Hi a_Y_Lo a_Y_Hi b_X_Lo b_X_Hi b_Y_Lo b_Y_Hi)], .int .i64 (span_MeetBox_4 a_X_Lo a_X_Hi a_Y_Lo a_Y_Hi b_X_Lo b_X_Hi b_Y_Lo b_Y_Hi)]⟩ := by kernel_rfl
noncomputable def span_MeetBox_eff : List U → Option Eff
  | [.i a_X_Lo, .i a_X_Hi, .i a_Y_Lo, .i a_Y_Hi, .i b_X_Lo, .i b_X_Hi, .i b_Y_Lo, .i b_Y_Hi] => some ⟨none, [], 0, [], .tup [.agg [.int .i64 (span_MeetBox_0 a_X_Lo a_X_Hi a_Y_Lo a_Y_Hi b_X_Lo b_X_Hi b_Y_Lo b_Y_Hi), .int .i64 (span_MeetBox_1 a_X_Lo a_X_Hi a_Y_Lo a_Y_Hi b_X_Lo b_X_Hi b_Y_Lo b_Y_Hi), .int .i64 (span_MeetBox_2 a_X_Lo a_X_Hi a_Y_Lo a_Y_Hi b_X_Lo b_X_Hi b_Y_Lo b_Y_Hi), .int .i64 (span_MeetBox_3 a_X_Lo a_X_Hi a_Y_Lo a_Y_Hi b_X_Lo b_X_Hi b_Y_Lo b_Y_Hi)], .int .i64 (span_MeetBox_4 a_X_Lo a_X_Hi a_Y_Lo a_Y_Hi b_X_Lo b_X_Hi b_Y_Lo b_Y_Hi)]⟩
  | _ => Option.none
noncomputable def S49 : Con := ext Try.prog S48 35 [.agg [.int .i64 0, .int .i64 0, .int .i64 0, .int .i64 0], .agg [.int .i64 0, .int .i64 0, .int .i64 0, .int .i64 0]] [] span_MeetBox_eff
theorem S49_ok : ConOk Try.prog S49 := conOk_ext S48_ok (n := 9) rfl rfl fun us x h => by
  unfold span_MeetBox_eff at h
  split at h
  · cases h; exact ⟨none, span_MeetBox_col _ _ _ _ _ _ _ _, fun _ => trivial⟩
  · cases h
theorem span_WithinBox_col (a_X_Lo a_X_Hi a_Y_Lo a_Y_Hi b_X_Lo b_X_Hi b_Y_Lo b_Y_Hi : Int) : collapse Try.prog 0 (execFn Try.prog S49 9 33 [.agg [.int .i64 a_X_Lo, .int .i64 a_X_Hi, .int .i64 a_Y_Lo, .int .i64 a_Y_Hi], .agg [.int .i64 b_X_Lo, .int .i64 b_X_Hi, .int .i64 b_Y_Lo, .int .i64 b_Y_Hi]] ⟨[], 0⟩) = some ⟨none, [], 0, [], .tup [.bool (span_WithinBox_0 a_X_Lo a_X_Hi a_Y_Lo a_Y_Hi b_X_Lo b_X_Hi b_Y_Lo b_Y_Hi), .int .i64 (span_WithinBox_1 a_X_Lo a_X_Hi a_Y_Lo a_Y_Hi b_X_Lo b_X_Hi b_Y_Lo b_Y_Hi)]⟩ := by kernel_rfl
noncomputable def span_WithinBox_eff : List U → Option Eff
  | [.i a_X_Lo, .i a_X_Hi, .i a_Y_Lo, .i a_Y_Hi, .i b_X_Lo, .i b_X_Hi, .i b_Y_Lo, .i b_Y_Hi] => some ⟨none, [], 0, [], .tup [.bool (span_WithinBox_0 a_X_Lo a_X_Hi a_Y_Lo a_Y_Hi b_X_Lo b_X_Hi b_Y_Lo b_Y_Hi), .int .i64 (span_WithinBox_1 a_X_Lo a_X_Hi a_Y_Lo a_Y_Hi b_X_Lo b_X_Hi b_Y_Lo b_Y_Hi)]⟩
  | _ => Option.none
noncomputable def S50 : Con := ext Try.prog S49 33 [.agg [.int .i64 0, .int .i64 0, .int .i64 0, .int .i64 0], .agg [.int .i64 0, .int .i64 0, .int .i64 0, .int .i64 0]] [] span_WithinBox_eff
theorem S50_ok : ConOk Try.prog S50 := conOk_ext S49_ok (n := 9) rfl rfl fun us x h => by
  unfold span_WithinBox_eff at h
  split at h
  · cases h; exact ⟨none, span_WithinBox_col _ _ _ _ _ _ _ _, fun _ => trivial⟩
  · cases h
theorem law24_SightingTrue_col (r_Ship r_Number r_Time r_Buoy r_At_X_Lo r_At_X_Hi r_At_Y_Lo r_At_Y_Hi r_From_X r_From_Y r_To_X r_To_Y r_Far x y v_X v_Y : Int) : collapse Try.prog 0 (execFn Try.prog S50 9 4 [.agg [.int .i64 r_Ship, .int .i64 r_Number, .int .i64 r_Time, .int .i64 r_Buoy, .int .i64 r_At_X_Lo, .int .i64 r_At_X_Hi, .int .i64 r_At_Y_Lo, .int .i64 r_At_Y_Hi, .int .i64 r_From_X, .int .i64 r_From_Y, .int .i64 r_To_X, .int .i64 r_To_Y, .int .i64 r_Far], .int .u32 x, .int .u32 y, .agg [.int .i64 v_X, .int .i64 v_Y]] ⟨[], 0⟩) = some ⟨some (law24_SightingTrue_pre r_Ship r_Number r_Time r_Buoy r_At_X_Lo r_At_X_Hi r_At_Y_Lo r_At_Y_Hi r_From_X r_From_Y r_To_X r_To_Y r_Far x y v_X v_Y), [], 0, [], .bool (law24_SightingTrue_0 r_Ship r_Number r_Time r_Buoy r_At_X_Lo r_At_X_Hi r_At_Y_Lo r_At_Y_Hi r_From_X r_From_Y r_To_X r_To_Y r_Far x y v_X v_Y)⟩ := by kernel_rfl
noncomputable def law24_SightingTrue_eff : List U → Option Eff
  | [.i r_Ship, .i r_Number, .i r_Time, .i r_Buoy, .i r_At_X_Lo, .i r_At_X_Hi, .i r_At_Y_Lo, .i r_At_Y_Hi, .i r_From_X, .i r_From_Y, .i r_To_X, .i r_To_Y, .i r_Far, .i x, .i y, .i v_X, .i v_Y] => some ⟨some (law24_SightingTrue_pre r_Ship r_Number r_Time r_Buoy r_At_X_Lo r_At_X_Hi r_At_Y_Lo r_At_Y_Hi r_From_X r_From_Y r_To_X r_To_Y r_Far x y v_X v_Y), [], 0, [], .bool (law24_SightingTrue_0 r_Ship r_Number r_Time r_Buoy r_At_X_Lo r_At_X_Hi r_At_Y_Lo r_At_Y_Hi r_From_X r_From_Y r_To_X r_To_Y r_Far x y v_X v_Y)⟩
  | _ => Option.none
noncomputable def S51 : Con := ext Try.prog S50 4 [.agg [.int .i64 0, .int .i64 0, .int .i64 0, .int .i64 0, .int .i64 0, .int .i64 0, .int .i64 0, .int .i64 0, .int .i64 0, .int .i64 0, .int .i64 0, .int .i64 0, .int .i64 0], .int .u32 0, .int .u32 0, .agg [.int .i64 0, .int .i64 0]] [] law24_SightingTrue_eff
theorem S51_ok : ConOk Try.prog S51 := conOk_ext S50_ok (n := 9) rfl rfl fun us x h => by
  unfold law24_SightingTrue_eff at h
  split at h
  · cases h; exact ⟨some (law24_SightingTrue_pre _ _ _ _ _ _ _ _ _ _ _ _ _ _ _ _ _), law24_SightingTrue_col _ _ _ _ _ _ _ _ _ _ _ _ _ _ _ _ _, fun h => h⟩
  · cases h
theorem law24_SightingBox_col (r_Ship r_Number r_Time r_Buoy r_At_X_Lo r_At_X_Hi r_At_Y_Lo r_At_Y_Hi r_From_X r_From_Y r_To_X r_To_Y r_Far p_X p_Y : Int) : collapse Try.prog 0 (execFn Try.prog S51 9 9 [.agg [.int .i64 r_Ship, .int .i64 r_Number, .int .i64 r_Time, .int .i64 r_Buoy, .int .i64 r_At_X_Lo, .int .i64 r_At_X_Hi, .int .i64 r_At_Y_Lo, .int .i64 r_At_Y_Hi, .int .i64 r_From_X, .int .i64 r_From_Y, .int .i64 r_To_X, .int .i64 r_To_Y, .int .i64 r_Far], .agg [.int .i64 p_X, .int .i64 p_Y]] ⟨[], 0⟩) = some ⟨some (law24_SightingBox_pre r_Ship r_Number r_Time r_Buoy r_At_X_Lo r_At_X_Hi r_At_Y_Lo r_At_Y_Hi r_From_X r_From_Y r_To_X r_To_Y r_Far p_X p_Y), [], 0, [], .bool (law24_SightingBox_0 r_Ship r_Number r_Time r_Buoy r_At_X_Lo r_At_X_Hi r_At_Y_Lo r_At_Y_Hi r_From_X r_From_Y r_To_X r_To_Y r_Far p_X p_Y)⟩ := by kernel_rfl
noncomputable def law24_SightingBox_eff : List U → Option Eff
  | [.i r_Ship, .i r_Number, .i r_Time, .i r_Buoy, .i r_At_X_Lo, .i r_At_X_Hi, .i r_At_Y_Lo, .i r_At_Y_Hi, .i r_From_X, .i r_From_Y, .i r_To_X, .i r_To_Y, .i r_Far, .i p_X, .i p_Y] => some ⟨some (law24_SightingBox_pre r_Ship r_Number r_Time r_Buoy r_At_X_Lo r_At_X_Hi r_At_Y_Lo r_At_Y_Hi r_From_X r_From_Y r_To_X r_To_Y r_Far p_X p_Y), [], 0, [], .bool (law24_SightingBox_0 r_Ship r_Number r_Time r_Buoy r_At_X_Lo r_At_X_Hi r_At_Y_Lo r_At_Y_Hi r_From_X r_From_Y r_To_X r_To_Y r_Far p_X p_Y)⟩
  | _ => Option.none
noncomputable def S52 : Con := ext Try.prog S51 9 [.agg [.int .i64 0, .int .i64 0, .int .i64 0, .int .i64 0, .int .i64 0, .int .i64 0, .int .i64 0, .int .i64 0, .int .i64 0, .int .i64 0, .int .i64 0, .int .i64 0, .int .i64 0], .agg [.int .i64 0, .int .i64 0]] [] law24_SightingBox_eff
theorem S52_ok : ConOk Try.prog S52 := conOk_ext S51_ok (n := 9) rfl rfl fun us x h => by
  unfold law24_SightingBox_eff at h
  split at h
  · cases h; exact ⟨some (law24_SightingBox_pre _ _ _ _ _ _ _ _ _ _ _ _ _ _ _), law24_SightingBox_col _ _ _ _ _ _ _ _ _ _ _ _ _ _ _, fun h => h⟩
  · cases h
theorem law24_SightingWedge_col (r_Ship r_Number r_Time r_Buoy r_At_X_Lo r_At_X_Hi r_At_Y_Lo r_At_Y_Hi r_From_X r_From_Y r_To_X r_To_Y r_Far p_X p_Y b_X_Lo b_X_Hi b_Y_Lo b_Y_Hi c_X_Lo c_X_Hi c_Y_Lo c_Y_Hi : Int) : collapse Try.prog 0 (execFn Try.prog S52 9 10 [.agg [.int .i64 r_Ship, .int .i64 r_Number, .int .i64 r_Time, .int .i64 r_Buoy, .int .i64 r_At_X_Lo, .int .i64 r_At_X_Hi, .int .i64 r_At_Y_Lo, .int .i64 r_At_Y_Hi, .int .i64 r_From_X, .int .i64 r_From_Y, .int .i64 r_To_X, .int .i64 r_To_Y, .int .i64 r_Far], .agg [.int .i64 p_X, .int .i64 p_Y], .agg [.int .i64 b_X_Lo, .int .i64 b_X_Hi, .int .i64 b_Y_Lo, .int .i64 b_Y_Hi], .agg [.int .i64 c_X_Lo, .int .i64 c_X_Hi, .int .i64 c_Y_Lo, .int .i64 c_Y_Hi]] ⟨[], 0⟩) = some ⟨some (law24_SightingWedge_pre r_Ship r_Number r_Time r_Buoy r_At_X_Lo r_At_X_Hi r_At_Y_Lo r_At_Y_Hi r_From_X r_From_Y r_To_X r_To_Y r_Far p_X p_Y b_X_Lo b_X_Hi b_Y_Lo b_Y_Hi c_X_Lo c_X_Hi c_Y_Lo c_Y_Hi), [], 0, [], .bool (law24_SightingWedge_0 r_Ship r_Number r_Time r_Buoy r_At_X_Lo r_At_X_Hi r_At_Y_Lo r_At_Y_Hi r_From_X r_From_Y r_To_X r_To_Y r_Far p_X p_Y b_X_Lo b_X_Hi b_Y_Lo b_Y_Hi c_X_Lo c_X_Hi c_Y_Lo c_Y_Hi)⟩ := by kernel_rfl
noncomputable def law24_SightingWedge_eff : List U → Option Eff
  | [.i r_Ship, .i r_Number, .i r_Time, .i r_Buoy, .i r_At_X_Lo, .i r_At_X_Hi, .i r_At_Y_Lo, .i r_At_Y_Hi, .i r_From_X, .i r_From_Y, .i r_To_X, .i r_To_Y, .i r_Far, .i p_X, .i p_Y, .i b_X_Lo, .i b_X_Hi, .i b_Y_Lo, .i b_Y_Hi, .i c_X_Lo, .i c_X_Hi, .i c_Y_Lo, .i c_Y_Hi] => some ⟨some (law24_SightingWedge_pre r_Ship r_Number r_Time r_Buoy r_At_X_Lo r_At_X_Hi r_At_Y_Lo r_At_Y_Hi r_From_X r_From_Y r_To_X r_To_Y r_Far p_X p_Y b_X_Lo b_X_Hi b_Y_Lo b_Y_Hi c_X_Lo c_X_Hi c_Y_Lo c_Y_Hi), [], 0, [], .bool (law24_SightingWedge_0 r_Ship r_Number r_Time r_Buoy r_At_X_Lo r_At_X_Hi r_At_Y_Lo r_At_Y_Hi r_From_X r_From_Y r_To_X r_To_Y r_Far p_X p_Y b_X_Lo b_X_Hi b_Y_Lo b_Y_Hi c_X_Lo c_X_Hi c_Y_Lo c_Y_Hi)⟩
  | _ => Option.none
noncomputable def S53 : Con := ext Try.prog S52 10 [.agg [.int .i64 0, .int .i64 0, .int .i64 0, .int .i64 0, .int .i64 0, .int .i64 0, .int .i64 0, .int .i64 0, .int .i64 0, .int .i64 0, .int .i64 0, .int .i64 0, .int .i64 0], .agg [.int .i64 0, .int .i64 0], .agg [.int .i64 0, .int .i64 0, .int .i64 0, .int .i64 0], .agg [.int .i64 0, .int .i64 0, .int .i64 0, .int .i64 0]] [] law24_SightingWedge_eff
theorem S53_ok : ConOk Try.prog S53 := conOk_ext S52_ok (n := 9) rfl rfl fun us x h => by
  unfold law24_SightingWedge_eff at h
  split at h
  · cases h; exact ⟨some (law24_SightingWedge_pre _ _ _ _ _ _ _ _ _ _ _ _ _ _ _ _ _ _ _ _ _ _ _), law24_SightingWedge_col _ _ _ _ _ _ _ _ _ _ _ _ _ _ _ _ _ _ _ _ _ _ _, fun h => h⟩
  · cases h
theorem law24_SightingTurned_col (r_Ship r_Number r_Time r_Buoy r_At_X_Lo r_At_X_Hi r_At_Y_Lo r_At_Y_Hi r_From_X r_From_Y r_To_X r_To_Y r_Far p_X p_Y b_X_Lo b_X_Hi b_Y_Lo b_Y_Hi by__X by__Y : Int) : collapse Try.prog 0 (execFn Try.prog S53 9 6 [.agg [.int .i64 r_Ship, .int .i64 r_Number, .int .i64 r_Time, .int .i64 r_Buoy, .int .i64 r_At_X_Lo, .int .i64 r_At_X_Hi, .int .i64 r_At_Y_Lo, .int .i64 r_At_Y_Hi, .int .i64 r_From_X, .int .i64 r_From_Y, .int .i64 r_To_X, .int .i64 r_To_Y, .int .i64 r_Far], .agg [.int .i64 p_X, .int .i64 p_Y], .agg [.int .i64 b_X_Lo, .int .i64 b_X_Hi, .int .i64 b_Y_Lo, .int .i64 b_Y_Hi], .agg [.int .i64 by__X, .int .i64 by__Y]] ⟨[], 0⟩) = some ⟨some (law24_SightingTurned_pre r_Ship r_Number r_Time r_Buoy r_At_X_Lo r_At_X_Hi r_At_Y_Lo r_At_Y_Hi r_From_X r_From_Y r_To_X r_To_Y r_Far p_X p_Y b_X_Lo b_X_Hi b_Y_Lo b_Y_Hi by__X by__Y), [], 0, [], .bool (law24_SightingTurned_0 r_Ship r_Number r_Time r_Buoy r_At_X_Lo r_At_X_Hi r_At_Y_Lo r_At_Y_Hi r_From_X r_From_Y r_To_X r_To_Y r_Far p_X p_Y b_X_Lo b_X_Hi b_Y_Lo b_Y_Hi by__X by__Y)⟩ := by kernel_rfl
noncomputable def law24_SightingTurned_eff : List U → Option Eff
  | [.i r_Ship, .i r_Number, .i r_Time, .i r_Buoy, .i r_At_X_Lo, .i r_At_X_Hi, .i r_At_Y_Lo, .i r_At_Y_Hi, .i r_From_X, .i r_From_Y, .i r_To_X, .i r_To_Y, .i r_Far, .i p_X, .i p_Y, .i b_X_Lo, .i b_X_Hi, .i b_Y_Lo, .i b_Y_Hi, .i by__X, .i by__Y] => some ⟨some (law24_SightingTurned_pre r_Ship r_Number r_Time r_Buoy r_At_X_Lo r_At_X_Hi r_At_Y_Lo r_At_Y_Hi r_From_X r_From_Y r_To_X r_To_Y r_Far p_X p_Y b_X_Lo b_X_Hi b_Y_Lo b_Y_Hi by__X by__Y), [], 0, [], .bool (law24_SightingTurned_0 r_Ship r_Number r_Time r_Buoy r_At_X_Lo r_At_X_Hi r_At_Y_Lo r_At_Y_Hi r_From_X r_From_Y r_To_X r_To_Y r_Far p_X p_Y b_X_Lo b_X_Hi b_Y_Lo b_Y_Hi by__X by__Y)⟩
  | _ => Option.none
noncomputable def S54 : Con := ext Try.prog S53 6 [.agg [.int .i64 0, .int .i64 0, .int .i64 0, .int .i64 0, .int .i64 0, .int .i64 0, .int .i64 0, .int .i64 0, .int .i64 0, .int .i64 0, .int .i64 0, .int .i64 0, .int .i64 0], .agg [.int .i64 0, .int .i64 0], .agg [.int .i64 0, .int .i64 0, .int .i64 0, .int .i64 0], .agg [.int .i64 0, .int .i64 0]] [] law24_SightingTurned_eff
theorem S54_ok : ConOk Try.prog S54 := conOk_ext S53_ok (n := 9) rfl rfl fun us x h => by
  unfold law24_SightingTurned_eff at h
  split at h
  · cases h; exact ⟨some (law24_SightingTurned_pre _ _ _ _ _ _ _ _ _ _ _ _ _ _ _ _ _ _ _ _ _), law24_SightingTurned_col _ _ _ _ _ _ _ _ _ _ _ _ _ _ _ _ _ _ _ _ _, fun h => h⟩
  · cases h
theorem law24_SightingWider_col (r_Ship r_Number r_Time r_Buoy r_At_X_Lo r_At_X_Hi r_At_Y_Lo r_At_Y_Hi r_From_X r_From_Y r_To_X r_To_Y r_Far s_Ship s_Number s_Time s_Buoy s_At_X_Lo s_At_X_Hi s_At_Y_Lo s_At_Y_Hi s_From_X s_From_Y s_To_X s_To_Y s_Far p_X p_Y b_X_Lo b_X_Hi b_Y_Lo b_Y_Hi : Int) : collapse Try.prog 0 (execFn Try.prog S54 9 5 [.agg [.int .i64 r_Ship, .int .i64 r_Number, .int .i64 r_Time, .int .i64 r_Buoy, .int .i64 r_At_X_Lo, .int .i64 r_At_X_Hi, .int .i64 r_At_Y_Lo, .int .i64 r_At_Y_Hi, .int .i64 r_From_X, .int .i64 r_From_Y, .int .i64 r_To_X, .int .i64 r_To_Y, .int .i64 r_Far], .agg [.int .i64 s_Ship, .int .i64 s_Number, .int .i64 s_Time, .int .i64 s_Buoy, .int .i64 s_At_X_Lo, .int .i64 s_At_X_Hi, .int .i64 s_At_Y_Lo, .int .i64 s_At_Y_Hi, .int .i64 s_From_X, .int .i64 s_From_Y, .int .i64 s_To_X, .int .i64 s_To_Y, .int .i64 s_Far], .agg [.int .i64 p_X, .int .i64 p_Y], .agg [.int .i64 b_X_Lo, .int .i64 b_X_Hi, .int .i64 b_Y_Lo, .int .i64 b_Y_Hi]] ⟨[], 0⟩) = some ⟨some (law24_SightingWider_pre r_Ship r_Number r_Time r_Buoy r_At_X_Lo r_At_X_Hi r_At_Y_Lo r_At_Y_Hi r_From_X r_From_Y r_To_X r_To_Y r_Far s_Ship s_Number s_Time s_Buoy s_At_X_Lo s_At_X_Hi s_At_Y_Lo s_At_Y_Hi s_From_X s_From_Y s_To_X s_To_Y s_Far p_X p_Y b_X_Lo b_X_Hi b_Y_Lo b_Y_Hi), [], 0, [], .bool (law24_SightingWider_0 r_Ship r_Number r_Time r_Buoy r_At_X_Lo r_At_X_Hi r_At_Y_Lo r_At_Y_Hi r_From_X r_From_Y r_To_X r_To_Y r_Far s_Ship s_Number s_Time s_Buoy s_At_X_Lo s_At_X_Hi s_At_Y_Lo s_At_Y_Hi s_From_X s_From_Y s_To_X s_To_Y s_Far p_X p_Y b_X_Lo b_X_Hi b_Y_Lo b_Y_Hi)⟩ := by kernel_rfl
noncomputable def law24_SightingWider_eff : List U → Option Eff
  | [.i r_Ship, .i r_Number, .i r_Time, .i r_Buoy, .i r_At_X_Lo, .i r_At_X_Hi, .i r_At_Y_Lo, .i r_At_Y_Hi, .i r_From_X, .i r_From_Y, .i r_To_X, .i r_To_Y, .i r_Far, .i s_Ship, .i s_Number, .i s_Time, .i s_Buoy, .i s_At_X_Lo, .i s_At_X_Hi, .i s_At_Y_Lo, .i s_At_Y_Hi, .i s_From_X, .i s_From_Y, .i s_To_X, .i s_To_Y, .i s_Far, .i p_X, .i p_Y, .i b_X_Lo, .i b_X_Hi, .i b_Y_Lo, .i b_Y_Hi] => some ⟨some (law24_SightingWider_pre r_Ship r_Number r_Time r_Buoy r_At_X_Lo r_At_X_Hi r_At_Y_Lo r_At_Y_Hi r_From_X r_From_Y r_To_X r_To_Y r_Far s_Ship s_Number s_Time s_Buoy s_At_X_Lo s_At_X_Hi s_At_Y_Lo s_At_Y_Hi s_From_X s_From_Y s_To_X s_To_Y s_Far p_X p_Y b_X_Lo b_X_Hi b_Y_Lo b_Y_Hi), [], 0, [], .bool (law24_SightingWider_0 r_Ship r_Number r_Time r_Buoy r_At_X_Lo r_At_X_Hi r_At_Y_Lo r_At_Y_Hi r_From_X r_From_Y r_To_X r_To_Y r_Far s_Ship s_Number s_Time s_Buoy s_At_X_Lo s_At_X_Hi s_At_Y_Lo s_At_Y_Hi s_From_X s_From_Y s_To_X s_To_Y s_Far p_X p_Y b_X_Lo b_X_Hi b_Y_Lo b_Y_Hi)⟩
  | _ => Option.none
noncomputable def S55 : Con := ext Try.prog S54 5 [.agg [.int .i64 0, .int .i64 0, .int .i64 0, .int .i64 0, .int .i64 0, .int .i64 0, .int .i64 0, .int .i64 0, .int .i64 0, .int .i64 0, .int .i64 0, .int .i64 0, .int .i64 0], .agg [.int .i64 0, .int .i64 0, .int .i64 0, .int .i64 0, .int .i64 0, .int .i64 0, .int .i64 0, .int .i64 0, .int .i64 0, .int .i64 0, .int .i64 0, .int .i64 0, .int .i64 0], .agg [.int .i64 0, .int .i64 0], .agg [.int .i64 0, .int .i64 0, .int .i64 0, .int .i64 0]] [] law24_SightingWider_eff
theorem S55_ok : ConOk Try.prog S55 := conOk_ext S54_ok (n := 9) rfl rfl fun us x h => by
  unfold law24_SightingWider_eff at h
  split at h
  · cases h; exact ⟨some (law24_SightingWider_pre _ _ _ _ _ _ _ _ _ _ _ _ _ _ _ _ _ _ _ _ _ _ _ _ _ _ _ _ _ _ _ _), law24_SightingWider_col _ _ _ _ _ _ _ _ _ _ _ _ _ _ _ _ _ _ _ _ _ _ _ _ _ _ _ _ _ _ _ _, fun h => h⟩
  · cases h
theorem law24_SightingMatchesReference_col (r_Ship r_Number r_Time r_Buoy r_At_X_Lo r_At_X_Hi r_At_Y_Lo r_At_Y_Hi r_From_X r_From_Y r_To_X r_To_Y r_Far p_X p_Y b_X_Lo b_X_Hi b_Y_Lo b_Y_Hi : Int) (list : List (List Int)) : collapse Try.prog 1 (execFn Try.prog S55 9 3 [.agg [.int .i64 r_Ship, .int .i64 r_Number, .int .i64 r_Time, .int .i64 r_Buoy, .int .i64 r_At_X_Lo, .int .i64 r_At_X_Hi, .int .i64 r_At_Y_Lo, .int .i64 r_At_Y_Hi, .int .i64 r_From_X, .int .i64 r_From_Y, .int .i64 r_To_X, .int .i64 r_To_Y, .int .i64 r_Far], .sl 0, .agg [.int .i64 p_X, .int .i64 p_Y], .agg [.int .i64 b_X_Lo, .int .i64 b_X_Hi, .int .i64 b_Y_Lo, .int .i64 b_Y_Hi]] ⟨[⟨0, 1, false, .row 29 [.int .i64, .int .i64, .int .i64, .int .i64, .int .i64, .int .i64, .int .i64, .int .i64, .int .i64, .int .i64, .int .i64, .int .i64, .int .i64] list⟩], 1⟩) = some ⟨some (law24_SightingMatchesReference_pre r_Ship r_Number r_Time r_Buoy r_At_X_Lo r_At_X_Hi r_At_Y_Lo r_At_Y_Hi r_From_X r_From_Y r_To_X r_To_Y r_Far p_X p_Y b_X_Lo b_X_Hi b_Y_Lo b_Y_Hi list), [], 0, [], .bool (law24_SightingMatchesReference_0 r_Ship r_Number r_Time r_Buoy r_At_X_Lo r_At_X_Hi r_At_Y_Lo r_At_Y_Hi r_From_X r_From_Y r_To_X r_To_Y r_Far p_X p_Y b_X_Lo b_X_Hi b_Y_Lo b_Y_Hi list)⟩ := by kernel_rfl
noncomputable def law24_SightingMatchesReference_eff : List U → Option Eff
  | [.i r_Ship, .i r_Number, .i r_Time, .i r_Buoy, .i r_At_X_Lo, .i r_At_X_Hi, .i r_At_Y_Lo, .i r_At_Y_Hi, .i r_From_X, .i r_From_Y, .i r_To_X, .i r_To_Y, .i r_Far, .i p_X, .i p_Y, .i b_X_Lo, .i b_X_Hi, .i b_Y_Lo, .i b_Y_Hi, .r list] => some ⟨some (law24_SightingMatchesReference_pre r_Ship r_Number r_Time r_Buoy r_At_X_Lo r_At_X_Hi r_At_Y_Lo r_At_Y_Hi r_From_X r_From_Y r_To_X r_To_Y r_Far p_X p_Y b_X_Lo b_X_Hi b_Y_Lo b_Y_Hi list), [], 0, [], .bool (law24_SightingMatchesReference_0 r_Ship r_Number r_Time r_Buoy r_At_X_Lo r_At_X_Hi r_At_Y_Lo r_At_Y_Hi r_From_X r_From_Y r_To_X r_To_Y r_Far p_X p_Y b_X_Lo b_X_Hi b_Y_Lo b_Y_Hi list)⟩
  | _ => Option.none
noncomputable def S56 : Con := ext Try.prog S55 3 [.agg [.int .i64 0, .int .i64 0, .int .i64 0, .int .i64 0, .int .i64 0, .int .i64 0, .int .i64 0, .int .i64 0, .int .i64 0, .int .i64 0, .int .i64 0, .int .i64 0, .int .i64 0], .sl 0, .agg [.int .i64 0, .int .i64 0], .agg [.int .i64 0, .int .i64 0, .int .i64 0, .int .i64 0]] [⟨0, 0, false, .row 29 [.int .i64, .int .i64, .int .i64, .int .i64, .int .i64, .int .i64, .int .i64, .int .i64, .int .i64, .int .i64, .int .i64, .int .i64, .int .i64] []⟩] law24_SightingMatchesReference_eff
theorem S56_ok : ConOk Try.prog S56 := conOk_ext S55_ok (n := 9) rfl rfl fun us x h => by
  unfold law24_SightingMatchesReference_eff at h
  split at h
  · cases h; exact ⟨some (law24_SightingMatchesReference_pre _ _ _ _ _ _ _ _ _ _ _ _ _ _ _ _ _ _ _ _), law24_SightingMatchesReference_col _ _ _ _ _ _ _ _ _ _ _ _ _ _ _ _ _ _ _ _, fun h => h⟩
  · cases h
theorem law24_SightingMerged_col (list : List (List Int)) : collapse Try.prog 1 (execFn Try.prog S56 9 7 [.sl 0] ⟨[⟨0, 1, false, .row 29 [.int .i64, .int .i64, .int .i64, .int .i64, .int .i64, .int .i64, .int .i64, .int .i64, .int .i64, .int .i64, .int .i64, .int .i64, .int .i64] list⟩], 1⟩) = some ⟨some (law24_SightingMerged_pre list), [], 0, [], .bool (law24_SightingMerged_0 list)⟩ := by kernel_rfl
noncomputable def law24_SightingMerged_eff : List U → Option Eff
  | [.r list] => some ⟨some (law24_SightingMerged_pre list), [], 0, [], .bool (law24_SightingMerged_0 list)⟩
  | _ => Option.none
noncomputable def S57 : Con := ext Try.prog S56 7 [.sl 0] [⟨0, 0, false, .row 29 [.int .i64, .int .i64, .int .i64, .int .i64, .int .i64, .int .i64, .int .i64, .int .i64, .int .i64, .int .i64, .int .i64, .int .i64, .int .i64] []⟩] law24_SightingMerged_eff
theorem S57_ok : ConOk Try.prog S57 := conOk_ext S56_ok (n := 9) rfl rfl fun us x h => by
  unfold law24_SightingMerged_eff at h
  split at h
  · cases h; exact ⟨some (law24_SightingMerged_pre _), law24_SightingMerged_col _, fun h => h⟩
  · cases h
theorem law24_SightingWrong_col (p_X p_Y b_X_Lo b_X_Hi b_Y_Lo b_Y_Hi : Int) (list : List (List Int)) : collapse Try.prog 1 (execFn Try.prog S57 9 8 [.sl 0, .agg [.int .i64 p_X, .int .i64 p_Y], .agg [.int .i64 b_X_Lo, .int .i64 b_X_Hi, .int .i64 b_Y_Lo, .int .i64 b_Y_Hi]] ⟨[⟨0, 1, false, .row 29 [.int .i64, .int .i64, .int .i64, .int .i64, .int .i64, .int .i64, .int .i64, .int .i64, .int .i64, .int .i64, .int .i64, .int .i64, .int .i64] list⟩], 1⟩) = some ⟨some (law24_SightingWrong_pre p_X p_Y b_X_Lo b_X_Hi b_Y_Lo b_Y_Hi list), [], 0, [], .bool (law24_SightingWrong_0 p_X p_Y b_X_Lo b_X_Hi b_Y_Lo b_Y_Hi list)⟩ := by kernel_rfl
noncomputable def law24_SightingWrong_eff : List U → Option Eff
  | [.i p_X, .i p_Y, .i b_X_Lo, .i b_X_Hi, .i b_Y_Lo, .i b_Y_Hi, .r list] => some ⟨some (law24_SightingWrong_pre p_X p_Y b_X_Lo b_X_Hi b_Y_Lo b_Y_Hi list), [], 0, [], .bool (law24_SightingWrong_0 p_X p_Y b_X_Lo b_X_Hi b_Y_Lo b_Y_Hi list)⟩
  | _ => Option.none
noncomputable def S58 : Con := ext Try.prog S57 8 [.sl 0, .agg [.int .i64 0, .int .i64 0], .agg [.int .i64 0, .int .i64 0, .int .i64 0, .int .i64 0]] [⟨0, 0, false, .row 29 [.int .i64, .int .i64, .int .i64, .int .i64, .int .i64, .int .i64, .int .i64, .int .i64, .int .i64, .int .i64, .int .i64, .int .i64, .int .i64] []⟩] law24_SightingWrong_eff
theorem S58_ok : ConOk Try.prog S58 := conOk_ext S57_ok (n := 9) rfl rfl fun us x h => by
  unfold law24_SightingWrong_eff at h
  split at h
  · cases h; exact ⟨some (law24_SightingWrong_pre _ _ _ _ _ _ _), law24_SightingWrong_col _ _ _ _ _ _ _, fun h => h⟩
  · cases h
end Go.Proofs.Ytcpikjablgbegaa
