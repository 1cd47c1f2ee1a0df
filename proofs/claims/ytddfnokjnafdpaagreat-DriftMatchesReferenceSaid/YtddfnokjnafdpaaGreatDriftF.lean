/- Written by program (wip/sygen.py): the contracts of the Go functions. -/
import Derived.Test.YtddfnokjnafdpaaGreatRows
import Derived.Test.YtddfnokjnafdpaaGreatSyH
import Derived.Test.YtddfnokjnafdpaaGreatDrift1D
import Derived.Test.YtddfnokjnafdpaaGreatDrift1
import Derived.Test.YtddfnokjnafdpaaGreatSySo
import Derived.Test.YtddfnokjnafdpaaGreatDriftR
import Derived.Test.YtddfnokjnafdpaaGreatDriftCD
import Derived.Test.YtddfnokjnafdpaaGreatDriftC
import Derived.Test.YtddfnokjnafdpaaGreatDriftS
import Derived.Test.YtddfnokjnafdpaaGreatDriftBD
import Derived.Test.YtddfnokjnafdpaaGreatDriftB
import Derived.Test.YtddfnokjnafdpaaGreatDriftFD
set_option maxRecDepth 100000
set_option linter.unusedVariables false
namespace Go.Proofs.YtddfnokjnafdpaaGreat
open Go Go.Sy
theorem ref02_Down_col (n d : Int) : collapse Tryz.prog 0 (execFn Tryz.prog D41 noSeq 9 69 [.int .i64 n, .int .i64 d] ⟨[], 0⟩) = some ⟨some (ref02_Down_pre n d), [], 0, [], .int .i64 (ref02_Down_0 n d)⟩ := by kernel_rfl
noncomputable def ref02_Down_eff : List U → Option Eff
  | [.i n, .i d] => some ⟨some (ref02_Down_pre n d), [], 0, [], .int .i64 (ref02_Down_0 n d)⟩
  | _ => Option.none
noncomputable def D42 : Con := ext Tryz.prog D41 69 [.int .i64 0, .int .i64 0] [] ref02_Down_eff
theorem D42_ok : ConOk Tryz.prog D42 := conOk_ext noSeq_ok D41_ok (n := 9) rfl rfl fun us x h => by
  unfold ref02_Down_eff at h
  split at h
  · cases h; exact ⟨some (ref02_Down_pre _ _), ref02_Down_col _ _, fun h => h⟩
  · cases h
theorem ref02_Up_col (n d : Int) : collapse Tryz.prog 0 (execFn Tryz.prog D42 noSeq 9 70 [.int .i64 n, .int .i64 d] ⟨[], 0⟩) = some ⟨some (ref02_Up_pre n d), [], 0, [], .int .i64 (ref02_Up_0 n d)⟩ := by kernel_rfl
noncomputable def ref02_Up_eff : List U → Option Eff
  | [.i n, .i d] => some ⟨some (ref02_Up_pre n d), [], 0, [], .int .i64 (ref02_Up_0 n d)⟩
  | _ => Option.none
noncomputable def D43 : Con := ext Tryz.prog D42 70 [.int .i64 0, .int .i64 0] [] ref02_Up_eff
theorem D43_ok : ConOk Tryz.prog D43 := conOk_ext noSeq_ok D42_ok (n := 9) rfl rfl fun us x h => by
  unfold ref02_Up_eff at h
  split at h
  · cases h; exact ⟨some (ref02_Up_pre _ _), ref02_Up_col _ _, fun h => h⟩
  · cases h
theorem ref02_Place_col (p_X p_Y : Int) : collapse Tryz.prog 0 (execFn Tryz.prog D43 noSeq 9 39 [.agg [.int .i64 p_X, .int .i64 p_Y]] ⟨[], 0⟩) = some ⟨none, [], 0, [], .bool (ref02_Place_0 p_X p_Y)⟩ := by kernel_rfl
noncomputable def ref02_Place_eff : List U → Option Eff
  | [.i p_X, .i p_Y] => some ⟨none, [], 0, [], .bool (ref02_Place_0 p_X p_Y)⟩
  | _ => Option.none
noncomputable def D44 : Con := ext Tryz.prog D43 39 [.agg [.int .i64 0, .int .i64 0]] [] ref02_Place_eff
theorem D44_ok : ConOk Tryz.prog D44 := conOk_ext noSeq_ok D43_ok (n := 9) rfl rfl fun us x h => by
  unfold ref02_Place_eff at h
  split at h
  · cases h; exact ⟨none, ref02_Place_col _ _, fun _ => trivial⟩
  · cases h
theorem ref02_Has_col (s_Lo s_Hi x : Int) : collapse Tryz.prog 0 (execFn Tryz.prog D44 noSeq 9 40 [.agg [.int .i64 s_Lo, .int .i64 s_Hi], .int .i64 x] ⟨[], 0⟩) = some ⟨none, [], 0, [], .bool (ref02_Has_0 s_Lo s_Hi x)⟩ := by kernel_rfl
noncomputable def ref02_Has_eff : List U → Option Eff
  | [.i s_Lo, .i s_Hi, .i x] => some ⟨none, [], 0, [], .bool (ref02_Has_0 s_Lo s_Hi x)⟩
  | _ => Option.none
noncomputable def D45 : Con := ext Tryz.prog D44 40 [.agg [.int .i64 0, .int .i64 0], .int .i64 0] [] ref02_Has_eff
theorem D45_ok : ConOk Tryz.prog D45 := conOk_ext noSeq_ok D44_ok (n := 9) rfl rfl fun us x h => by
  unfold ref02_Has_eff at h
  split at h
  · cases h; exact ⟨none, ref02_Has_col _ _ _, fun _ => trivial⟩
  · cases h
theorem ref02_Meet_col (s_Lo s_Hi t_Lo t_Hi : Int) : collapse Tryz.prog 0 (execFn Tryz.prog D45 noSeq 9 62 [.agg [.int .i64 s_Lo, .int .i64 s_Hi], .agg [.int .i64 t_Lo, .int .i64 t_Hi]] ⟨[], 0⟩) = some ⟨none, [], 0, [], .tup [.agg [.int .i64 (ref02_Meet_0 s_Lo s_Hi t_Lo t_Hi), .int .i64 (ref02_Meet_1 s_Lo s_Hi t_Lo t_Hi)], .int .i64 (ref02_Meet_2 s_Lo s_Hi t_Lo t_Hi)]⟩ := by kernel_rfl
noncomputable def ref02_Meet_eff : List U → Option Eff
  | [.i s_Lo, .i s_Hi, .i t_Lo, .i t_Hi] => some ⟨none, [], 0, [], .tup [.agg [.int .i64 (ref02_Meet_0 s_Lo s_Hi t_Lo t_Hi), .int .i64 (ref02_Meet_1 s_Lo s_Hi t_Lo t_Hi)], .int .i64 (ref02_Meet_2 s_Lo s_Hi t_Lo t_Hi)]⟩
  | _ => Option.none
noncomputable def D46 : Con := ext Tryz.prog D45 62 [.agg [.int .i64 0, .int .i64 0], .agg [.int .i64 0, .int .i64 0]] [] ref02_Meet_eff
theorem D46_ok : ConOk Tryz.prog D46 := conOk_ext noSeq_ok D45_ok (n := 9) rfl rfl fun us x h => by
  unfold ref02_Meet_eff at h
  split at h
  · cases h; exact ⟨none, ref02_Meet_col _ _ _ _, fun _ => trivial⟩
  · cases h
theorem ref02_Join_col (s_Lo s_Hi t_Lo t_Hi : Int) : collapse Tryz.prog 0 (execFn Tryz.prog D46 noSeq 9 97 [.agg [.int .i64 s_Lo, .int .i64 s_Hi], .agg [.int .i64 t_Lo, .int .i64 t_Hi]] ⟨[], 0⟩) = some ⟨none, [], 0, [], .tup [.agg [.int .i64 (ref02_Join_0 s_Lo s_Hi t_Lo t_Hi), .int .i64 (ref02_Join_1 s_Lo s_Hi t_Lo t_Hi)], .int .i64 (ref02_Join_2 s_Lo s_Hi t_Lo t_Hi)]⟩ := by kernel_rfl
noncomputable def ref02_Join_eff : List U → Option Eff
  | [.i s_Lo, .i s_Hi, .i t_Lo, .i t_Hi] => some ⟨none, [], 0, [], .tup [.agg [.int .i64 (ref02_Join_0 s_Lo s_Hi t_Lo t_Hi), .int .i64 (ref02_Join_1 s_Lo s_Hi t_Lo t_Hi)], .int .i64 (ref02_Join_2 s_Lo s_Hi t_Lo t_Hi)]⟩
  | _ => Option.none
noncomputable def D47 : Con := ext Tryz.prog D46 97 [.agg [.int .i64 0, .int .i64 0], .agg [.int .i64 0, .int .i64 0]] [] ref02_Join_eff
theorem D47_ok : ConOk Tryz.prog D47 := conOk_ext noSeq_ok D46_ok (n := 9) rfl rfl fun us x h => by
  unfold ref02_Join_eff at h
  split at h
  · cases h; exact ⟨none, ref02_Join_col _ _ _ _, fun _ => trivial⟩
  · cases h
theorem ref02_MeetBox_col (a_X_Lo a_X_Hi a_Y_Lo a_Y_Hi b_X_Lo b_X_Hi b_Y_Lo b_Y_Hi : Int) : collapse Tryz.prog 0 (execFn Tryz.prog D47 noSeq 9 42 [.agg [.int .i64 a_X_Lo, .int .i64 a_X_Hi, .int .i64 a_Y_Lo, .int .i64 a_Y_Hi], .agg [.int .i64 b_X_Lo, .int .i64 b_X_Hi, .int .i64 b_Y_Lo, .int .i64 b_Y_Hi]] ⟨[], 0⟩) = some ⟨none, [], 0, [], .tup [.agg [.int .i64 (ref02_MeetBox_0 a_X_Lo a_X_Hi a_Y_Lo a_Y_Hi b_X_Lo b_X_Hi b_Y_Lo b_Y_Hi), .int .i64 (ref02_MeetBox_1 a_X_Lo a_X_Hi a_Y_Lo a_Y_Hi b_X_Lo b_X_Hi b_Y_Lo b_Y_Hi), .int .i64 (ref02_MeetBox_2 a_X_Lo a_X_Hi a_Y_Lo a_Y_Hi b_X_Lo b_X_Hi b_Y_Lo b_Y_Hi), .int .i64 (ref02_MeetBox_3 a_X_Lo a_X_Hi a_Y_Lo a_Y_Hi b_X_Lo b_X_Hi b_Y_Lo b_Y_Hi)], .int .i64 (ref02_MeetBox_4 a_X_Lo a_X_Hi a_Y_Lo a_Y_Hi b_X_Lo b_X_Hi b_Y_Lo b_Y_Hi)]⟩ := by kernel_rfl
noncomputable def ref02_MeetBox_eff : List U → Option Eff
  | [.i a_X_Lo, .i a_X_Hi, .i a_Y_Lo, .i a_Y_Hi, .i b_X_Lo, .i b_X_Hi, .i b_Y_Lo, .i b_Y_Hi] => some ⟨none, [], 0, [], .tup [.agg [.int .i64 (ref02_MeetBox_0 a_X_Lo a_X_Hi a_Y_Lo a_Y_Hi b_X_Lo b_X_Hi b_Y_Lo b_Y_Hi), .int .i64 (ref02_MeetBox_1 a_X_Lo a_X_Hi a_Y_Lo a_Y_Hi b_X_Lo b_X_Hi b_Y_Lo b_Y_Hi), .int .i64 (ref02_MeetBox_2 a_X_Lo a_X_Hi a_Y_Lo a_Y_Hi b_X_Lo b_X_Hi b_Y_Lo b_Y_Hi), .int .i64 (ref02_MeetBox_3 a_X_Lo a_X_Hi a_Y_Lo a_Y_Hi b_X_Lo b_X_Hi b_Y_Lo b_Y_Hi)], .int .i64 (ref02_MeetBox_4 a_X_Lo a_X_Hi a_Y_Lo a_Y_Hi b_X_Lo b_X_Hi b_Y_Lo b_Y_Hi)]⟩
  | _ => Option.none
noncomputable def D48 : Con := ext Tryz.prog D47 42 [.agg [.int .i64 0, .int .i64 0, .int .i64 0, .int .i64 0], .agg [.int .i64 0, .int .i64 0, .int .i64 0, .int .i64 0]] [] ref02_MeetBox_eff
theorem D48_ok : ConOk Tryz.prog D48 := conOk_ext noSeq_ok D47_ok (n := 9) rfl rfl fun us x h => by
  unfold ref02_MeetBox_eff at h
  split at h
  · cases h; exact ⟨none, ref02_MeetBox_col _ _ _ _ _ _ _ _, fun _ => trivial⟩
  · cases h
theorem ref02_JoinBox_col (a_X_Lo a_X_Hi a_Y_Lo a_Y_Hi b_X_Lo b_X_Hi b_Y_Lo b_Y_Hi : Int) : collapse Tryz.prog 0 (execFn Tryz.prog D48 noSeq 9 79 [.agg [.int .i64 a_X_Lo, .int .i64 a_X_Hi, .int .i64 a_Y_Lo, .int .i64 a_Y_Hi], .agg [.int .i64 b_X_Lo, .int .i64 b_X_Hi, .int .i64 b_Y_Lo, .int .i64 b_Y_Hi]] ⟨[], 0⟩) = some ⟨none, [], 0, [], .tup [.agg [.int .i64 (ref02_JoinBox_0 a_X_Lo a_X_Hi a_Y_Lo a_Y_Hi b_X_Lo b_X_Hi b_Y_Lo b_Y_Hi), .int .i64 (ref02_JoinBox_1 a_X_Lo a_X_Hi a_Y_Lo a_Y_Hi b_X_Lo b_X_Hi b_Y_Lo b_Y_Hi), .int .i64 (ref02_JoinBox_2 a_X_Lo a_X_Hi a_Y_Lo a_Y_Hi b_X_Lo b_X_Hi b_Y_Lo b_Y_Hi), .int .i64 (ref02_JoinBox_3 a_X_Lo a_X_Hi a_Y_Lo a_Y_Hi b_X_Lo b_X_Hi b_Y_Lo b_Y_Hi)], .int .i64 (ref02_JoinBox_4 a_X_Lo a_X_Hi a_Y_Lo a_Y_Hi b_X_Lo b_X_Hi b_Y_Lo b_Y_Hi)]⟩ := by kernel_rfl
noncomputable def ref02_JoinBox_eff : List U → Option Eff
  | [.i a_X_Lo, .i a_X_Hi, .i a_Y_Lo, .i a_Y_Hi, .i b_X_Lo, .i b_X_Hi, .i b_Y_Lo, .i b_Y_Hi] => some ⟨none, [], 0, [], .tup [.agg [.int .i64 (ref02_JoinBox_0 a_X_Lo a_X_Hi a_Y_Lo a_Y_Hi b_X_Lo b_X_Hi b_Y_Lo b_Y_Hi), .int .i64 (ref02_JoinBox_1 a_X_Lo a_X_Hi a_Y_Lo a_Y_Hi b_X_Lo b_X_Hi b_Y_Lo b_Y_Hi), .int .i64 (ref02_JoinBox_2 a_X_Lo a_X_Hi a_Y_Lo a_Y_Hi b_X_Lo b_X_Hi b_Y_Lo b_Y_Hi), .int .i64 (ref02_JoinBox_3 a_X_Lo a_X_Hi a_Y_Lo a_Y_Hi b_X_Lo b_X_Hi b_Y_Lo b_Y_Hi)], .int .i64 (ref02_JoinBox_4 a_X_Lo a_X_Hi a_Y_Lo a_Y_Hi b_X_Lo b_X_Hi b_Y_Lo b_Y_Hi)]⟩
  | _ => Option.none
noncomputable def D49 : Con := ext Tryz.prog D48 79 [.agg [.int .i64 0, .int .i64 0, .int .i64 0, .int .i64 0], .agg [.int .i64 0, .int .i64 0, .int .i64 0, .int .i64 0]] [] ref02_JoinBox_eff
theorem D49_ok : ConOk Tryz.prog D49 := conOk_ext noSeq_ok D48_ok (n := 9) rfl rfl fun us x h => by
  unfold ref02_JoinBox_eff at h
  split at h
  · cases h; exact ⟨none, ref02_JoinBox_col _ _ _ _ _ _ _ _, fun _ => trivial⟩
  · cases h
theorem ref02_Holds_col (b_X_Lo b_X_Hi b_Y_Lo b_Y_Hi p_X p_Y : Int) : collapse Tryz.prog 0 (execFn Tryz.prog D49 noSeq 9 74 [.agg [.int .i64 b_X_Lo, .int .i64 b_X_Hi, .int .i64 b_Y_Lo, .int .i64 b_Y_Hi], .agg [.int .i64 p_X, .int .i64 p_Y]] ⟨[], 0⟩) = some ⟨none, [], 0, [], .bool (ref02_Holds_0 b_X_Lo b_X_Hi b_Y_Lo b_Y_Hi p_X p_Y)⟩ := by kernel_rfl
noncomputable def ref02_Holds_eff : List U → Option Eff
  | [.i b_X_Lo, .i b_X_Hi, .i b_Y_Lo, .i b_Y_Hi, .i p_X, .i p_Y] => some ⟨none, [], 0, [], .bool (ref02_Holds_0 b_X_Lo b_X_Hi b_Y_Lo b_Y_Hi p_X p_Y)⟩
  | _ => Option.none
noncomputable def D50 : Con := ext Tryz.prog D49 74 [.agg [.int .i64 0, .int .i64 0, .int .i64 0, .int .i64 0], .agg [.int .i64 0, .int .i64 0]] [] ref02_Holds_eff
theorem D50_ok : ConOk Tryz.prog D50 := conOk_ext noSeq_ok D49_ok (n := 9) rfl rfl fun us x h => by
  unfold ref02_Holds_eff at h
  split at h
  · cases h; exact ⟨none, ref02_Holds_col _ _ _ _ _ _, fun _ => trivial⟩
  · cases h
theorem ref23_Valid_col (list : List (List Int)) : collapse Tryz.prog 1 (execFn Tryz.prog D50 noSeq 9 6 [.sl 0] ⟨[⟨0, 1, false, .row 29 [.int .i64, .int .i64, .int .i64, .int .i64] list⟩], 1⟩) = some ⟨some (ref23_Valid_pre list), [], 0, [], .bool (ref23_Valid_0 list)⟩ := by kernel_rfl
noncomputable def ref23_Valid_eff : List U → Option Eff
  | [.r list] => some ⟨some (ref23_Valid_pre list), [], 0, [], .bool (ref23_Valid_0 list)⟩
  | _ => Option.none
noncomputable def D51 : Con := ext Tryz.prog D50 6 [.sl 0] [⟨0, 0, false, .row 29 [.int .i64, .int .i64, .int .i64, .int .i64] []⟩] ref23_Valid_eff
theorem D51_ok : ConOk Tryz.prog D51 := conOk_ext noSeq_ok D50_ok (n := 9) rfl rfl fun us x h => by
  unfold ref23_Valid_eff at h
  split at h
  · cases h; exact ⟨some (ref23_Valid_pre _), ref23_Valid_col _, fun h => h⟩
  · cases h
theorem ref23_speed_col (s_Lo s_Hi : Int) : collapse Tryz.prog 0 (execFn Tryz.prog D51 noSeq 9 32 [.agg [.int .i64 s_Lo, .int .i64 s_Hi]] ⟨[], 0⟩) = some ⟨none, [], 0, [], .bool (ref23_speed_0 s_Lo s_Hi)⟩ := by kernel_rfl
noncomputable def ref23_speed_eff : List U → Option Eff
  | [.i s_Lo, .i s_Hi] => some ⟨none, [], 0, [], .bool (ref23_speed_0 s_Lo s_Hi)⟩
  | _ => Option.none
noncomputable def D52 : Con := ext Tryz.prog D51 32 [.agg [.int .i64 0, .int .i64 0]] [] ref23_speed_eff
theorem D52_ok : ConOk Tryz.prog D52 := conOk_ext noSeq_ok D51_ok (n := 9) rfl rfl fun us x h => by
  unfold ref23_speed_eff at h
  split at h
  · cases h; exact ⟨none, ref23_speed_col _ _, fun _ => trivial⟩
  · cases h
theorem ref23_Currents_col (list : List (List Int)) : collapse Tryz.prog 1 (execFn Tryz.prog D52 noSeq 9 8 [.sl 0] ⟨[⟨0, 1, false, .row 50 [.int .i64, .int .i64, .int .i64, .int .i64, .int .i64, .int .i64] list⟩], 1⟩) = some ⟨some (ref23_Currents_pre list), [], 0, [], .bool (ref23_Currents_0 list)⟩ := by kernel_rfl
noncomputable def ref23_Currents_eff : List U → Option Eff
  | [.r list] => some ⟨some (ref23_Currents_pre list), [], 0, [], .bool (ref23_Currents_0 list)⟩
  | _ => Option.none
noncomputable def D53 : Con := ext Tryz.prog D52 8 [.sl 0] [⟨0, 0, false, .row 50 [.int .i64, .int .i64, .int .i64, .int .i64, .int .i64, .int .i64] []⟩] ref23_Currents_eff
theorem D53_ok : ConOk Tryz.prog D53 := conOk_ext noSeq_ok D52_ok (n := 9) rfl rfl fun us x h => by
  unfold ref23_Currents_eff at h
  split at h
  · cases h; exact ⟨some (ref23_Currents_pre _), ref23_Currents_col _, fun h => h⟩
  · cases h
theorem ref23_Times_col (from_ until_ : Int) : collapse Tryz.prog 0 (execFn Tryz.prog D53 noSeq 9 34 [.int .i64 from_, .int .i64 until_] ⟨[], 0⟩) = some ⟨none, [], 0, [], .bool (ref23_Times_0 from_ until_)⟩ := by kernel_rfl
noncomputable def ref23_Times_eff : List U → Option Eff
  | [.i from_, .i until_] => some ⟨none, [], 0, [], .bool (ref23_Times_0 from_ until_)⟩
  | _ => Option.none
noncomputable def D54 : Con := ext Tryz.prog D53 34 [.int .i64 0, .int .i64 0] [] ref23_Times_eff
theorem D54_ok : ConOk Tryz.prog D54 := conOk_ext noSeq_ok D53_ok (n := 9) rfl rfl fun us x h => by
  unfold ref23_Times_eff at h
  split at h
  · cases h; exact ⟨none, ref23_Times_col _ _, fun _ => trivial⟩
  · cases h
theorem ref23_Sum_col (from_ until_ : Int) (forecast : List (List Int)) : collapse Tryz.prog 1 (execFn Tryz.prog D54 noSeq 9 10 [.sl 0, .int .i64 from_, .int .i64 until_] ⟨[⟨0, 1, false, .row 50 [.int .i64, .int .i64, .int .i64, .int .i64, .int .i64, .int .i64] forecast⟩], 1⟩) = some ⟨some (ref23_Sum_pre from_ until_ forecast), [], 0, [], .tup [.agg [.int .i64 (ref23_Sum_0 from_ until_ forecast), .int .i64 (ref23_Sum_1 from_ until_ forecast)], .agg [.int .i64 (ref23_Sum_2 from_ until_ forecast), .int .i64 (ref23_Sum_3 from_ until_ forecast)], .int .i64 (ref23_Sum_4 from_ until_ forecast)]⟩ := by kernel_rfl
noncomputable def ref23_Sum_eff : List U → Option Eff
  | [.i from_, .i until_, .r forecast] => some ⟨some (ref23_Sum_pre from_ until_ forecast), [], 0, [], .tup [.agg [.int .i64 (ref23_Sum_0 from_ until_ forecast), .int .i64 (ref23_Sum_1 from_ until_ forecast)], .agg [.int .i64 (ref23_Sum_2 from_ until_ forecast), .int .i64 (ref23_Sum_3 from_ until_ forecast)], .int .i64 (ref23_Sum_4 from_ until_ forecast)]⟩
  | _ => Option.none
noncomputable def D55 : Con := ext Tryz.prog D54 10 [.sl 0, .int .i64 0, .int .i64 0] [⟨0, 0, false, .row 50 [.int .i64, .int .i64, .int .i64, .int .i64, .int .i64, .int .i64] []⟩] ref23_Sum_eff
theorem D55_ok : ConOk Tryz.prog D55 := conOk_ext noSeq_ok D54_ok (n := 9) rfl rfl fun us x h => by
  unfold ref23_Sum_eff at h
  split at h
  · cases h; exact ⟨some (ref23_Sum_pre _ _ _), ref23_Sum_col _ _ _, fun h => h⟩
  · cases h
theorem ref23_moved_col (s_Lo s_Hi by__Lo by__Hi : Int) : collapse Tryz.prog 0 (execFn Tryz.prog D55 noSeq 9 37 [.agg [.int .i64 s_Lo, .int .i64 s_Hi], .agg [.int .i64 by__Lo, .int .i64 by__Hi]] ⟨[], 0⟩) = some ⟨some (ref23_moved_pre s_Lo s_Hi by__Lo by__Hi), [], 0, [], .agg [.int .i64 (ref23_moved_0 s_Lo s_Hi by__Lo by__Hi), .int .i64 (ref23_moved_1 s_Lo s_Hi by__Lo by__Hi)]⟩ := by kernel_rfl
noncomputable def ref23_moved_eff : List U → Option Eff
  | [.i s_Lo, .i s_Hi, .i by__Lo, .i by__Hi] => some ⟨some (ref23_moved_pre s_Lo s_Hi by__Lo by__Hi), [], 0, [], .agg [.int .i64 (ref23_moved_0 s_Lo s_Hi by__Lo by__Hi), .int .i64 (ref23_moved_1 s_Lo s_Hi by__Lo by__Hi)]⟩
  | _ => Option.none
noncomputable def D56 : Con := ext Tryz.prog D55 37 [.agg [.int .i64 0, .int .i64 0], .agg [.int .i64 0, .int .i64 0]] [] ref23_moved_eff
theorem D56_ok : ConOk Tryz.prog D56 := conOk_ext noSeq_ok D55_ok (n := 9) rfl rfl fun us x h => by
  unfold ref23_moved_eff at h
  split at h
  · cases h; exact ⟨some (ref23_moved_pre _ _ _ _), ref23_moved_col _ _ _ _, fun h => h⟩
  · cases h
theorem ref23_Move_col (from_ until_ : Int) (list forecast : List (List Int)) : collapse Tryz.prog 2 (execFn Tryz.prog D56 noSeq 9 12 [.sl 0, .sl 1, .int .i64 from_, .int .i64 until_] ⟨[⟨0, 2, false, .row 29 [.int .i64, .int .i64, .int .i64, .int .i64] list⟩, ⟨1, 2, false, .row 50 [.int .i64, .int .i64, .int .i64, .int .i64, .int .i64, .int .i64] forecast⟩], 2⟩) = some ⟨some (ref23_Move_pre from_ until_ list forecast), [], 1, [⟨2, 2, true, .row 29 [.int .i64, .int .i64, .int .i64, .int .i64] (ref23_Move_0 from_ until_ list forecast)⟩], .tup [.sl 2, .int .i64 (ref23_Move_1 from_ until_ list forecast)]⟩ := by kernel_rfl
noncomputable def ref23_Move_eff : List U → Option Eff
  | [.i from_, .i until_, .r list, .r forecast] => some ⟨some (ref23_Move_pre from_ until_ list forecast), [], 1, [⟨2, 2, true, .row 29 [.int .i64, .int .i64, .int .i64, .int .i64] (ref23_Move_0 from_ until_ list forecast)⟩], .tup [.sl 2, .int .i64 (ref23_Move_1 from_ until_ list forecast)]⟩
  | _ => Option.none
noncomputable def D57 : Con := ext Tryz.prog D56 12 [.sl 0, .sl 1, .int .i64 0, .int .i64 0] [⟨0, 0, false, .row 29 [.int .i64, .int .i64, .int .i64, .int .i64] []⟩, ⟨1, 0, false, .row 50 [.int .i64, .int .i64, .int .i64, .int .i64, .int .i64, .int .i64] []⟩] ref23_Move_eff
theorem D57_ok : ConOk Tryz.prog D57 := conOk_ext noSeq_ok D56_ok (n := 9) rfl rfl fun us x h => by
  unfold ref23_Move_eff at h
  split at h
  · cases h; exact ⟨some (ref23_Move_pre _ _ _ _), ref23_Move_col _ _ _ _, fun h => h⟩
  · cases h
theorem ref23_Allows_col (from_ until_ p_X p_Y q_X q_Y : Int) (forecast : List (List Int)) : collapse Tryz.prog 1 (execFn Tryz.prog D57 noSeq 9 15 [.sl 0, .int .i64 from_, .int .i64 until_, .agg [.int .i64 p_X, .int .i64 p_Y], .agg [.int .i64 q_X, .int .i64 q_Y]] ⟨[⟨0, 1, false, .row 50 [.int .i64, .int .i64, .int .i64, .int .i64, .int .i64, .int .i64] forecast⟩], 1⟩) = some ⟨some (ref23_Allows_pre from_ until_ p_X p_Y q_X q_Y forecast), [], 0, [], .tup [.bool (ref23_Allows_0 from_ until_ p_X p_Y q_X q_Y forecast), .int .i64 (ref23_Allows_1 from_ until_ p_X p_Y q_X q_Y forecast)]⟩ := by kernel_rfl
noncomputable def ref23_Allows_eff : List U → Option Eff
  | [.i from_, .i until_, .i p_X, .i p_Y, .i q_X, .i q_Y, .r forecast] => some ⟨some (ref23_Allows_pre from_ until_ p_X p_Y q_X q_Y forecast), [], 0, [], .tup [.bool (ref23_Allows_0 from_ until_ p_X p_Y q_X q_Y forecast), .int .i64 (ref23_Allows_1 from_ until_ p_X p_Y q_X q_Y forecast)]⟩
  | _ => Option.none
noncomputable def D58 : Con := ext Tryz.prog D57 15 [.sl 0, .int .i64 0, .int .i64 0, .agg [.int .i64 0, .int .i64 0], .agg [.int .i64 0, .int .i64 0]] [⟨0, 0, false, .row 50 [.int .i64, .int .i64, .int .i64, .int .i64, .int .i64, .int .i64] []⟩] ref23_Allows_eff
theorem D58_ok : ConOk Tryz.prog D58 := conOk_ext noSeq_ok D57_ok (n := 9) rfl rfl fun us x h => by
  unfold ref23_Allows_eff at h
  split at h
  · cases h; exact ⟨some (ref23_Allows_pre _ _ _ _ _ _ _), ref23_Allows_col _ _ _ _ _ _ _, fun h => h⟩
  · cases h
theorem ref23_Cut_col (b_X_Lo b_X_Hi b_Y_Lo b_Y_Hi : Int) (list : List (List Int)) : collapse Tryz.prog 1 (execFn Tryz.prog D58 noSeq 9 17 [.sl 0, .agg [.int .i64 b_X_Lo, .int .i64 b_X_Hi, .int .i64 b_Y_Lo, .int .i64 b_Y_Hi]] ⟨[⟨0, 1, false, .row 29 [.int .i64, .int .i64, .int .i64, .int .i64] list⟩], 1⟩) = some ⟨some (ref23_Cut_pre b_X_Lo b_X_Hi b_Y_Lo b_Y_Hi list), [], 1, [⟨1, 1, true, .row 29 [.int .i64, .int .i64, .int .i64, .int .i64] (ref23_Cut_0 b_X_Lo b_X_Hi b_Y_Lo b_Y_Hi list)⟩], .tup [.sl 1, .int .i64 (ref23_Cut_1 b_X_Lo b_X_Hi b_Y_Lo b_Y_Hi list)]⟩ := by kernel_rfl
noncomputable def ref23_Cut_eff : List U → Option Eff
  | [.i b_X_Lo, .i b_X_Hi, .i b_Y_Lo, .i b_Y_Hi, .r list] => some ⟨some (ref23_Cut_pre b_X_Lo b_X_Hi b_Y_Lo b_Y_Hi list), [], 1, [⟨1, 1, true, .row 29 [.int .i64, .int .i64, .int .i64, .int .i64] (ref23_Cut_0 b_X_Lo b_X_Hi b_Y_Lo b_Y_Hi list)⟩], .tup [.sl 1, .int .i64 (ref23_Cut_1 b_X_Lo b_X_Hi b_Y_Lo b_Y_Hi list)]⟩
  | _ => Option.none
noncomputable def D59 : Con := ext Tryz.prog D58 17 [.sl 0, .agg [.int .i64 0, .int .i64 0, .int .i64 0, .int .i64 0]] [⟨0, 0, false, .row 29 [.int .i64, .int .i64, .int .i64, .int .i64] []⟩] ref23_Cut_eff
theorem D59_ok : ConOk Tryz.prog D59 := conOk_ext noSeq_ok D58_ok (n := 9) rfl rfl fun us x h => by
  unfold ref23_Cut_eff at h
  split at h
  · cases h; exact ⟨some (ref23_Cut_pre _ _ _ _ _), ref23_Cut_col _ _ _ _ _, fun h => h⟩
  · cases h
theorem ref23_Has_col (p_X p_Y : Int) (list : List (List Int)) : collapse Tryz.prog 1 (execFn Tryz.prog D59 noSeq 9 45 [.sl 0, .agg [.int .i64 p_X, .int .i64 p_Y]] ⟨[⟨0, 1, false, .row 29 [.int .i64, .int .i64, .int .i64, .int .i64] list⟩], 1⟩) = some ⟨some (ref23_Has_pre p_X p_Y list), [], 0, [], .bool (ref23_Has_0 p_X p_Y list)⟩ := by kernel_rfl
noncomputable def ref23_Has_eff : List U → Option Eff
  | [.i p_X, .i p_Y, .r list] => some ⟨some (ref23_Has_pre p_X p_Y list), [], 0, [], .bool (ref23_Has_0 p_X p_Y list)⟩
  | _ => Option.none
noncomputable def D60 : Con := ext Tryz.prog D59 45 [.sl 0, .agg [.int .i64 0, .int .i64 0]] [⟨0, 0, false, .row 29 [.int .i64, .int .i64, .int .i64, .int .i64] []⟩] ref23_Has_eff
theorem D60_ok : ConOk Tryz.prog D60 := conOk_ext noSeq_ok D59_ok (n := 9) rfl rfl fun us x h => by
  unfold ref23_Has_eff at h
  split at h
  · cases h; exact ⟨some (ref23_Has_pre _ _ _), ref23_Has_col _ _ _, fun h => h⟩
  · cases h
theorem ref23_In_col (p_X p_Y : Int) (list : List (List Int)) : collapse Tryz.prog 1 (execFn Tryz.prog D60 noSeq 9 19 [.sl 0, .agg [.int .i64 p_X, .int .i64 p_Y]] ⟨[⟨0, 1, false, .row 29 [.int .i64, .int .i64, .int .i64, .int .i64] list⟩], 1⟩) = some ⟨some (ref23_In_pre p_X p_Y list), [], 0, [], .tup [.bool (ref23_In_0 p_X p_Y list), .int .i64 (ref23_In_1 p_X p_Y list)]⟩ := by kernel_rfl
noncomputable def ref23_In_eff : List U → Option Eff
  | [.i p_X, .i p_Y, .r list] => some ⟨some (ref23_In_pre p_X p_Y list), [], 0, [], .tup [.bool (ref23_In_0 p_X p_Y list), .int .i64 (ref23_In_1 p_X p_Y list)]⟩
  | _ => Option.none
noncomputable def D61 : Con := ext Tryz.prog D60 19 [.sl 0, .agg [.int .i64 0, .int .i64 0]] [⟨0, 0, false, .row 29 [.int .i64, .int .i64, .int .i64, .int .i64] []⟩] ref23_In_eff
theorem D61_ok : ConOk Tryz.prog D61 := conOk_ext noSeq_ok D60_ok (n := 9) rfl rfl fun us x h => by
  unfold ref23_In_eff at h
  split at h
  · cases h; exact ⟨some (ref23_In_pre _ _ _), ref23_In_col _ _ _, fun h => h⟩
  · cases h
theorem ref23_before_col (a_X_Lo a_X_Hi a_Y_Lo a_Y_Hi b_X_Lo b_X_Hi b_Y_Lo b_Y_Hi : Int) : collapse Tryz.prog 0 (execFn Tryz.prog D61 noSeq 9 55 [.agg [.int .i64 a_X_Lo, .int .i64 a_X_Hi, .int .i64 a_Y_Lo, .int .i64 a_Y_Hi], .agg [.int .i64 b_X_Lo, .int .i64 b_X_Hi, .int .i64 b_Y_Lo, .int .i64 b_Y_Hi]] ⟨[], 0⟩) = some ⟨none, [], 0, [], .bool (ref23_before_0 a_X_Lo a_X_Hi a_Y_Lo a_Y_Hi b_X_Lo b_X_Hi b_Y_Lo b_Y_Hi)⟩ := by kernel_rfl
noncomputable def ref23_before_eff : List U → Option Eff
  | [.i a_X_Lo, .i a_X_Hi, .i a_Y_Lo, .i a_Y_Hi, .i b_X_Lo, .i b_X_Hi, .i b_Y_Lo, .i b_Y_Hi] => some ⟨none, [], 0, [], .bool (ref23_before_0 a_X_Lo a_X_Hi a_Y_Lo a_Y_Hi b_X_Lo b_X_Hi b_Y_Lo b_Y_Hi)⟩
  | _ => Option.none
noncomputable def D62 : Con := ext Tryz.prog D61 55 [.agg [.int .i64 0, .int .i64 0, .int .i64 0, .int .i64 0], .agg [.int .i64 0, .int .i64 0, .int .i64 0, .int .i64 0]] [] ref23_before_eff
theorem D62_ok : ConOk Tryz.prog D62 := conOk_ext noSeq_ok D61_ok (n := 9) rfl rfl fun us x h => by
  unfold ref23_before_eff at h
  split at h
  · cases h; exact ⟨none, ref23_before_col _ _ _ _ _ _ _ _, fun _ => trivial⟩
  · cases h
end Go.Proofs.YtddfnokjnafdpaaGreat
