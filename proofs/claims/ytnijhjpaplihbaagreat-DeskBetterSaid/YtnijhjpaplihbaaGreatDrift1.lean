/- Written by program (wip/sygen.py): the contracts of the Go functions. -/
import Derived.Test.YtnijhjpaplihbaaGreatRows
import Derived.Test.YtnijhjpaplihbaaGreatSyH
import Derived.Test.YtnijhjpaplihbaaGreatDrift1D
set_option maxRecDepth 100000
set_option linter.unusedVariables false
namespace Go.Proofs.YtnijhjpaplihbaaGreat
open Go Go.Sy
noncomputable def K0 : Con := Con.none
theorem K0_ok : ConOk Tryz.prog K0 := conOk_none _
theorem span_Valid_col (s_Lo s_Hi : Int) : collapse Tryz.prog 0 (execFn Tryz.prog K0 noSeq 9 93 [.agg [.int .i64 s_Lo, .int .i64 s_Hi]] ⟨[], 0⟩) = some ⟨none, [], 0, [], .bool (span_Valid_0 s_Lo s_Hi)⟩ := by kernel_rfl
noncomputable def span_Valid_eff : List U → Option Eff
  | [.i s_Lo, .i s_Hi] => some ⟨none, [], 0, [], .bool (span_Valid_0 s_Lo s_Hi)⟩
  | _ => Option.none
noncomputable def K1 : Con := ext Tryz.prog K0 93 [.agg [.int .i64 0, .int .i64 0]] [] span_Valid_eff
theorem K1_ok : ConOk Tryz.prog K1 := conOk_ext noSeq_ok K0_ok (n := 9) rfl rfl fun us x h => by
  unfold span_Valid_eff at h
  split at h
  · cases h; exact ⟨none, span_Valid_col _ _, fun _ => trivial⟩
  · cases h
theorem span_ends_int_col (a b : Int) : collapse Tryz.prog 0 (execFn Tryz.prog K1 noSeq 9 118 [.int .i64 a, .int .i64 b] ⟨[], 0⟩) = some ⟨none, [], 0, [], .tup [.int .i64 (span_ends_int_0 a b), .int .i64 (span_ends_int_1 a b)]⟩ := by kernel_rfl
noncomputable def span_ends_int_eff : List U → Option Eff
  | [.i a, .i b] => some ⟨none, [], 0, [], .tup [.int .i64 (span_ends_int_0 a b), .int .i64 (span_ends_int_1 a b)]⟩
  | _ => Option.none
noncomputable def K2 : Con := ext Tryz.prog K1 118 [.int .i64 0, .int .i64 0] [] span_ends_int_eff
theorem K2_ok : ConOk Tryz.prog K2 := conOk_ext noSeq_ok K1_ok (n := 9) rfl rfl fun us x h => by
  unfold span_ends_int_eff at h
  split at h
  · cases h; exact ⟨none, span_ends_int_col _ _, fun _ => trivial⟩
  · cases h
theorem span_Meet_col (s_Lo s_Hi t_Lo t_Hi : Int) : collapse Tryz.prog 0 (execFn Tryz.prog K2 noSeq 9 54 [.agg [.int .i64 s_Lo, .int .i64 s_Hi], .agg [.int .i64 t_Lo, .int .i64 t_Hi]] ⟨[], 0⟩) = some ⟨none, [], 0, [], .tup [.agg [.int .i64 (span_Meet_0 s_Lo s_Hi t_Lo t_Hi), .int .i64 (span_Meet_1 s_Lo s_Hi t_Lo t_Hi)], .int .i64 (span_Meet_2 s_Lo s_Hi t_Lo t_Hi)]⟩ := by kernel_rfl
noncomputable def span_Meet_eff : List U → Option Eff
  | [.i s_Lo, .i s_Hi, .i t_Lo, .i t_Hi] => some ⟨none, [], 0, [], .tup [.agg [.int .i64 (span_Meet_0 s_Lo s_Hi t_Lo t_Hi), .int .i64 (span_Meet_1 s_Lo s_Hi t_Lo t_Hi)], .int .i64 (span_Meet_2 s_Lo s_Hi t_Lo t_Hi)]⟩
  | _ => Option.none
noncomputable def K3 : Con := ext Tryz.prog K2 54 [.agg [.int .i64 0, .int .i64 0], .agg [.int .i64 0, .int .i64 0]] [] span_Meet_eff
theorem K3_ok : ConOk Tryz.prog K3 := conOk_ext noSeq_ok K2_ok (n := 9) rfl rfl fun us x h => by
  unfold span_Meet_eff at h
  split at h
  · cases h; exact ⟨none, span_Meet_col _ _ _ _, fun _ => trivial⟩
  · cases h
theorem span_Join_col (s_Lo s_Hi t_Lo t_Hi : Int) : collapse Tryz.prog 0 (execFn Tryz.prog K3 noSeq 9 85 [.agg [.int .i64 s_Lo, .int .i64 s_Hi], .agg [.int .i64 t_Lo, .int .i64 t_Hi]] ⟨[], 0⟩) = some ⟨none, [], 0, [], .tup [.agg [.int .i64 (span_Join_0 s_Lo s_Hi t_Lo t_Hi), .int .i64 (span_Join_1 s_Lo s_Hi t_Lo t_Hi)], .int .i64 (span_Join_2 s_Lo s_Hi t_Lo t_Hi)]⟩ := by kernel_rfl
noncomputable def span_Join_eff : List U → Option Eff
  | [.i s_Lo, .i s_Hi, .i t_Lo, .i t_Hi] => some ⟨none, [], 0, [], .tup [.agg [.int .i64 (span_Join_0 s_Lo s_Hi t_Lo t_Hi), .int .i64 (span_Join_1 s_Lo s_Hi t_Lo t_Hi)], .int .i64 (span_Join_2 s_Lo s_Hi t_Lo t_Hi)]⟩
  | _ => Option.none
noncomputable def K4 : Con := ext Tryz.prog K3 85 [.agg [.int .i64 0, .int .i64 0], .agg [.int .i64 0, .int .i64 0]] [] span_Join_eff
theorem K4_ok : ConOk Tryz.prog K4 := conOk_ext noSeq_ok K3_ok (n := 9) rfl rfl fun us x h => by
  unfold span_Join_eff at h
  split at h
  · cases h; exact ⟨none, span_Join_col _ _ _ _, fun _ => trivial⟩
  · cases h
theorem span_Within_col (s_Lo s_Hi t_Lo t_Hi : Int) : collapse Tryz.prog 0 (execFn Tryz.prog K4 noSeq 9 88 [.agg [.int .i64 s_Lo, .int .i64 s_Hi], .agg [.int .i64 t_Lo, .int .i64 t_Hi]] ⟨[], 0⟩) = some ⟨none, [], 0, [], .tup [.bool (span_Within_0 s_Lo s_Hi t_Lo t_Hi), .int .i64 (span_Within_1 s_Lo s_Hi t_Lo t_Hi)]⟩ := by kernel_rfl
noncomputable def span_Within_eff : List U → Option Eff
  | [.i s_Lo, .i s_Hi, .i t_Lo, .i t_Hi] => some ⟨none, [], 0, [], .tup [.bool (span_Within_0 s_Lo s_Hi t_Lo t_Hi), .int .i64 (span_Within_1 s_Lo s_Hi t_Lo t_Hi)]⟩
  | _ => Option.none
noncomputable def K5 : Con := ext Tryz.prog K4 88 [.agg [.int .i64 0, .int .i64 0], .agg [.int .i64 0, .int .i64 0]] [] span_Within_eff
theorem K5_ok : ConOk Tryz.prog K5 := conOk_ext noSeq_ok K4_ok (n := 9) rfl rfl fun us x h => by
  unfold span_Within_eff at h
  split at h
  · cases h; exact ⟨none, span_Within_col _ _ _ _, fun _ => trivial⟩
  · cases h
theorem span_ValidBox_col (b_X_Lo b_X_Hi b_Y_Lo b_Y_Hi : Int) : collapse Tryz.prog 0 (execFn Tryz.prog K5 noSeq 9 96 [.agg [.int .i64 b_X_Lo, .int .i64 b_X_Hi, .int .i64 b_Y_Lo, .int .i64 b_Y_Hi]] ⟨[], 0⟩) = some ⟨none, [], 0, [], .bool (span_ValidBox_0 b_X_Lo b_X_Hi b_Y_Lo b_Y_Hi)⟩ := by kernel_rfl
noncomputable def span_ValidBox_eff : List U → Option Eff
  | [.i b_X_Lo, .i b_X_Hi, .i b_Y_Lo, .i b_Y_Hi] => some ⟨none, [], 0, [], .bool (span_ValidBox_0 b_X_Lo b_X_Hi b_Y_Lo b_Y_Hi)⟩
  | _ => Option.none
noncomputable def K6 : Con := ext Tryz.prog K5 96 [.agg [.int .i64 0, .int .i64 0, .int .i64 0, .int .i64 0]] [] span_ValidBox_eff
theorem K6_ok : ConOk Tryz.prog K6 := conOk_ext noSeq_ok K5_ok (n := 9) rfl rfl fun us x h => by
  unfold span_ValidBox_eff at h
  split at h
  · cases h; exact ⟨none, span_ValidBox_col _ _ _ _, fun _ => trivial⟩
  · cases h
theorem span_InBox_col (p_X p_Y b_X_Lo b_X_Hi b_Y_Lo b_Y_Hi : Int) : collapse Tryz.prog 0 (execFn Tryz.prog K6 noSeq 9 72 [.agg [.int .i64 p_X, .int .i64 p_Y], .agg [.int .i64 b_X_Lo, .int .i64 b_X_Hi, .int .i64 b_Y_Lo, .int .i64 b_Y_Hi]] ⟨[], 0⟩) = some ⟨none, [], 0, [], .tup [.bool (span_InBox_0 p_X p_Y b_X_Lo b_X_Hi b_Y_Lo b_Y_Hi), .int .i64 (span_InBox_1 p_X p_Y b_X_Lo b_X_Hi b_Y_Lo b_Y_Hi)]⟩ := by kernel_rfl
noncomputable def span_InBox_eff : List U → Option Eff
  | [.i p_X, .i p_Y, .i b_X_Lo, .i b_X_Hi, .i b_Y_Lo, .i b_Y_Hi] => some ⟨none, [], 0, [], .tup [.bool (span_InBox_0 p_X p_Y b_X_Lo b_X_Hi b_Y_Lo b_Y_Hi), .int .i64 (span_InBox_1 p_X p_Y b_X_Lo b_X_Hi b_Y_Lo b_Y_Hi)]⟩
  | _ => Option.none
noncomputable def K7 : Con := ext Tryz.prog K6 72 [.agg [.int .i64 0, .int .i64 0], .agg [.int .i64 0, .int .i64 0, .int .i64 0, .int .i64 0]] [] span_InBox_eff
theorem K7_ok : ConOk Tryz.prog K7 := conOk_ext noSeq_ok K6_ok (n := 9) rfl rfl fun us x h => by
  unfold span_InBox_eff at h
  split at h
  · cases h; exact ⟨none, span_InBox_col _ _ _ _ _ _, fun _ => trivial⟩
  · cases h
theorem span_MeetBox_col (a_X_Lo a_X_Hi a_Y_Lo a_Y_Hi b_X_Lo b_X_Hi b_Y_Lo b_Y_Hi : Int) : collapse Tryz.prog 0 (execFn Tryz.prog K7 noSeq 9 100 [.agg [.int .i64 a_X_Lo, .int .i64 a_X_Hi, .int .i64 a_Y_Lo, .int .i64 a_Y_Hi], .agg [.int .i64 b_X_Lo, .int .i64 b_X_Hi, .int .i64 b_Y_Lo, .int .i64 b_Y_Hi]] ⟨[], 0⟩) = some ⟨none, [], 0, [], .tup [.agg [.int .i64 (span_MeetBox_0 a_X_Lo a_X_Hi a_Y_Lo a_Y_Hi b_X_Lo b_X_Hi b_Y_Lo b_Y_Hi), .int .i64 (span_MeetBox_1 a_X_Lo a_X_Hi a_Y_Lo a_Y_Hi b_X_Lo b_X_Hi b_Y_Lo b_Y_Hi), .int .i64 (span_MeetBox_2 a_X_Lo a_X_Hi a_Y_Lo a_Y_Hi b_X_Lo b_X_Hi b_Y_Lo b_Y_Hi), .int .i64 (span_MeetBox_3 a_X_Lo a_X_Hi a_Y_Lo a_Y_Hi b_X_Lo b_X_Hi b_Y_Lo b_Y_Hi)], .int .i64 (span_MeetBox_4 a_X_Lo a_X_Hi a_Y_Lo a_Y_Hi b_X_Lo b_X_Hi b_Y_Lo b_Y_Hi)]⟩ := by kernel_rfl
noncomputable def span_MeetBox_eff : List U → Option Eff
  | [.i a_X_Lo, .i a_X_Hi, .i a_Y_Lo, .i a_Y_Hi, .i b_X_Lo, .i b_X_Hi, .i b_Y_Lo, .i b_Y_Hi] => some ⟨none, [], 0, [], .tup [.agg [.int .i64 (span_MeetBox_0 a_X_Lo a_X_Hi a_Y_Lo a_Y_Hi b_X_Lo b_X_Hi b_Y_Lo b_Y_Hi), .int .i64 (span_MeetBox_1 a_X_Lo a_X_Hi a_Y_Lo a_Y_Hi b_X_Lo b_X_Hi b_Y_Lo b_Y_Hi), .int .i64 (span_MeetBox_2 a_X_Lo a_X_Hi a_Y_Lo a_Y_Hi b_X_Lo b_X_Hi b_Y_Lo b_Y_Hi), .int .i64 (span_MeetBox_3 a_X_Lo a_X_Hi a_Y_Lo a_Y_Hi b_X_Lo b_X_Hi b_Y_Lo b_Y_Hi)], .int .i64 (span_MeetBox_4 a_X_Lo a_X_Hi a_Y_Lo a_Y_Hi b_X_Lo b_X_Hi b_Y_Lo b_Y_Hi)]⟩
  | _ => Option.none
noncomputable def K8 : Con := ext Tryz.prog K7 100 [.agg [.int .i64 0, .int .i64 0, .int .i64 0, .int .i64 0], .agg [.int .i64 0, .int .i64 0, .int .i64 0, .int .i64 0]] [] span_MeetBox_eff
theorem K8_ok : ConOk Tryz.prog K8 := conOk_ext noSeq_ok K7_ok (n := 9) rfl rfl fun us x h => by
  unfold span_MeetBox_eff at h
  split at h
  · cases h; exact ⟨none, span_MeetBox_col _ _ _ _ _ _ _ _, fun _ => trivial⟩
  · cases h
theorem span_JoinBox_col (a_X_Lo a_X_Hi a_Y_Lo a_Y_Hi b_X_Lo b_X_Hi b_Y_Lo b_Y_Hi : Int) : collapse Tryz.prog 0 (execFn Tryz.prog K8 noSeq 9 44 [.agg [.int .i64 a_X_Lo, .int .i64 a_X_Hi, .int .i64 a_Y_Lo, .int .i64 a_Y_Hi], .agg [.int .i64 b_X_Lo, .int .i64 b_X_Hi, .int .i64 b_Y_Lo, .int .i64 b_Y_Hi]] ⟨[], 0⟩) = some ⟨none, [], 0, [], .tup [.agg [.int .i64 (span_JoinBox_0 a_X_Lo a_X_Hi a_Y_Lo a_Y_Hi b_X_Lo b_X_Hi b_Y_Lo b_Y_Hi), .int .i64 (span_JoinBox_1 a_X_Lo a_X_Hi a_Y_Lo a_Y_Hi b_X_Lo b_X_Hi b_Y_Lo b_Y_Hi), .int .i64 (span_JoinBox_2 a_X_Lo a_X_Hi a_Y_Lo a_Y_Hi b_X_Lo b_X_Hi b_Y_Lo b_Y_Hi), .int .i64 (span_JoinBox_3 a_X_Lo a_X_Hi a_Y_Lo a_Y_Hi b_X_Lo b_X_Hi b_Y_Lo b_Y_Hi)], .int .i64 (span_JoinBox_4 a_X_Lo a_X_Hi a_Y_Lo a_Y_Hi b_X_Lo b_X_Hi b_Y_Lo b_Y_Hi)]⟩ := by kernel_rfl
noncomputable def span_JoinBox_eff : List U → Option Eff
  | [.i a_X_Lo, .i a_X_Hi, .i a_Y_Lo, .i a_Y_Hi, .i b_X_Lo, .i b_X_Hi, .i b_Y_Lo, .i b_Y_Hi] => some ⟨none, [], 0, [], .tup [.agg [.int .i64 (span_JoinBox_0 a_X_Lo a_X_Hi a_Y_Lo a_Y_Hi b_X_Lo b_X_Hi b_Y_Lo b_Y_Hi), .int .i64 (span_JoinBox_1 a_X_Lo a_X_Hi a_Y_Lo a_Y_Hi b_X_Lo b_X_Hi b_Y_Lo b_Y_Hi), .int .i64 (span_JoinBox_2 a_X_Lo a_X_Hi a_Y_Lo a_Y_Hi b_X_Lo b_X_Hi b_Y_Lo b_Y_Hi), .int .i64 (span_JoinBox_3 a_X_Lo a_X_Hi a_Y_Lo a_Y_Hi b_X_Lo b_X_Hi b_Y_Lo b_Y_Hi)], .int .i64 (span_JoinBox_4 a_X_Lo a_X_Hi a_Y_Lo a_Y_Hi b_X_Lo b_X_Hi b_Y_Lo b_Y_Hi)]⟩
  | _ => Option.none
noncomputable def K9 : Con := ext Tryz.prog K8 44 [.agg [.int .i64 0, .int .i64 0, .int .i64 0, .int .i64 0], .agg [.int .i64 0, .int .i64 0, .int .i64 0, .int .i64 0]] [] span_JoinBox_eff
theorem K9_ok : ConOk Tryz.prog K9 := conOk_ext noSeq_ok K8_ok (n := 9) rfl rfl fun us x h => by
  unfold span_JoinBox_eff at h
  split at h
  · cases h; exact ⟨none, span_JoinBox_col _ _ _ _ _ _ _ _, fun _ => trivial⟩
  · cases h
theorem ref23_Same_col (a b : List (List Int)) : collapse Tryz.prog 2 (execFn Tryz.prog K9 noSeq 9 8 [.sl 0, .sl 1] ⟨[⟨0, 2, false, .row 42 [.int .i64, .int .i64, .int .i64, .int .i64] a⟩, ⟨1, 2, false, .row 42 [.int .i64, .int .i64, .int .i64, .int .i64] b⟩], 2⟩) = some ⟨some (ref23_Same_pre a b), [], 0, [], .bool (ref23_Same_0 a b)⟩ := by kernel_rfl
noncomputable def ref23_Same_eff : List U → Option Eff
  | [.r a, .r b] => some ⟨some (ref23_Same_pre a b), [], 0, [], .bool (ref23_Same_0 a b)⟩
  | _ => Option.none
noncomputable def K10 : Con := ext Tryz.prog K9 8 [.sl 0, .sl 1] [⟨0, 0, false, .row 42 [.int .i64, .int .i64, .int .i64, .int .i64] []⟩, ⟨1, 0, false, .row 42 [.int .i64, .int .i64, .int .i64, .int .i64] []⟩] ref23_Same_eff
theorem K10_ok : ConOk Tryz.prog K10 := conOk_ext noSeq_ok K9_ok (n := 9) rfl rfl fun us x h => by
  unfold ref23_Same_eff at h
  split at h
  · cases h; exact ⟨some (ref23_Same_pre _ _), ref23_Same_col _ _, fun h => h⟩
  · cases h
theorem drift_Valid_col (list : List (List Int)) : collapse Tryz.prog 1 (execFn Tryz.prog K10 noSeq 9 57 [.sl 0] ⟨[⟨0, 1, false, .row 42 [.int .i64, .int .i64, .int .i64, .int .i64] list⟩], 1⟩) = some ⟨some (drift_Valid_pre list), [], 0, [], .bool (drift_Valid_0 list)⟩ := by kernel_rfl
noncomputable def drift_Valid_eff : List U → Option Eff
  | [.r list] => some ⟨some (drift_Valid_pre list), [], 0, [], .bool (drift_Valid_0 list)⟩
  | _ => Option.none
noncomputable def K11 : Con := ext Tryz.prog K10 57 [.sl 0] [⟨0, 0, false, .row 42 [.int .i64, .int .i64, .int .i64, .int .i64] []⟩] drift_Valid_eff
theorem K11_ok : ConOk Tryz.prog K11 := conOk_ext noSeq_ok K10_ok (n := 9) rfl rfl fun us x h => by
  unfold drift_Valid_eff at h
  split at h
  · cases h; exact ⟨some (drift_Valid_pre _), drift_Valid_col _, fun h => h⟩
  · cases h
theorem drift_Currents_col (list : List (List Int)) : collapse Tryz.prog 1 (execFn Tryz.prog K11 noSeq 9 49 [.sl 0] ⟨[⟨0, 1, false, .row 56 [.int .i64, .int .i64, .int .i64, .int .i64, .int .i64, .int .i64] list⟩], 1⟩) = some ⟨some (drift_Currents_pre list), [], 0, [], .bool (drift_Currents_0 list)⟩ := by kernel_rfl
noncomputable def drift_Currents_eff : List U → Option Eff
  | [.r list] => some ⟨some (drift_Currents_pre list), [], 0, [], .bool (drift_Currents_0 list)⟩
  | _ => Option.none
noncomputable def K12 : Con := ext Tryz.prog K11 49 [.sl 0] [⟨0, 0, false, .row 56 [.int .i64, .int .i64, .int .i64, .int .i64, .int .i64, .int .i64] []⟩] drift_Currents_eff
theorem K12_ok : ConOk Tryz.prog K12 := conOk_ext noSeq_ok K11_ok (n := 9) rfl rfl fun us x h => by
  unfold drift_Currents_eff at h
  split at h
  · cases h; exact ⟨some (drift_Currents_pre _), drift_Currents_col _, fun h => h⟩
  · cases h
theorem drift_Sum_col (from_ until_ : Int) (forecast : List (List Int)) : collapse Tryz.prog 1 (execFn Tryz.prog K12 noSeq 9 73 [.sl 0, .int .i64 from_, .int .i64 until_] ⟨[⟨0, 1, false, .row 56 [.int .i64, .int .i64, .int .i64, .int .i64, .int .i64, .int .i64] forecast⟩], 1⟩) = some ⟨some (drift_Sum_pre from_ until_ forecast), [], 0, [], .tup [.agg [.int .i64 (drift_Sum_0 from_ until_ forecast), .int .i64 (drift_Sum_1 from_ until_ forecast)], .agg [.int .i64 (drift_Sum_2 from_ until_ forecast), .int .i64 (drift_Sum_3 from_ until_ forecast)], .int .i64 (drift_Sum_4 from_ until_ forecast)]⟩ := by kernel_rfl
noncomputable def drift_Sum_eff : List U → Option Eff
  | [.i from_, .i until_, .r forecast] => some ⟨some (drift_Sum_pre from_ until_ forecast), [], 0, [], .tup [.agg [.int .i64 (drift_Sum_0 from_ until_ forecast), .int .i64 (drift_Sum_1 from_ until_ forecast)], .agg [.int .i64 (drift_Sum_2 from_ until_ forecast), .int .i64 (drift_Sum_3 from_ until_ forecast)], .int .i64 (drift_Sum_4 from_ until_ forecast)]⟩
  | _ => Option.none
noncomputable def K13 : Con := ext Tryz.prog K12 73 [.sl 0, .int .i64 0, .int .i64 0] [⟨0, 0, false, .row 56 [.int .i64, .int .i64, .int .i64, .int .i64, .int .i64, .int .i64] []⟩] drift_Sum_eff
theorem K13_ok : ConOk Tryz.prog K13 := conOk_ext noSeq_ok K12_ok (n := 9) rfl rfl fun us x h => by
  unfold drift_Sum_eff at h
  split at h
  · cases h; exact ⟨some (drift_Sum_pre _ _ _), drift_Sum_col _ _ _, fun h => h⟩
  · cases h
theorem drift_place_col (p_X p_Y : Int) : collapse Tryz.prog 0 (execFn Tryz.prog K13 noSeq 9 69 [.agg [.int .i64 p_X, .int .i64 p_Y]] ⟨[], 0⟩) = some ⟨none, [], 0, [], .bool (drift_place_0 p_X p_Y)⟩ := by kernel_rfl
noncomputable def drift_place_eff : List U → Option Eff
  | [.i p_X, .i p_Y] => some ⟨none, [], 0, [], .bool (drift_place_0 p_X p_Y)⟩
  | _ => Option.none
noncomputable def K14 : Con := ext Tryz.prog K13 69 [.agg [.int .i64 0, .int .i64 0]] [] drift_place_eff
theorem K14_ok : ConOk Tryz.prog K14 := conOk_ext noSeq_ok K13_ok (n := 9) rfl rfl fun us x h => by
  unfold drift_place_eff at h
  split at h
  · cases h; exact ⟨none, drift_place_col _ _, fun _ => trivial⟩
  · cases h
theorem drift_Allows_col (from_ until_ p_X p_Y q_X q_Y : Int) (forecast : List (List Int)) : collapse Tryz.prog 1 (execFn Tryz.prog K14 noSeq 9 32 [.sl 0, .int .i64 from_, .int .i64 until_, .agg [.int .i64 p_X, .int .i64 p_Y], .agg [.int .i64 q_X, .int .i64 q_Y]] ⟨[⟨0, 1, false, .row 56 [.int .i64, .int .i64, .int .i64, .int .i64, .int .i64, .int .i64] forecast⟩], 1⟩) = some ⟨some (drift_Allows_pre from_ until_ p_X p_Y q_X q_Y forecast), [], 0, [], .tup [.bool (drift_Allows_0 from_ until_ p_X p_Y q_X q_Y forecast), .int .i64 (drift_Allows_1 from_ until_ p_X p_Y q_X q_Y forecast)]⟩ := by kernel_rfl
noncomputable def drift_Allows_eff : List U → Option Eff
  | [.i from_, .i until_, .i p_X, .i p_Y, .i q_X, .i q_Y, .r forecast] => some ⟨some (drift_Allows_pre from_ until_ p_X p_Y q_X q_Y forecast), [], 0, [], .tup [.bool (drift_Allows_0 from_ until_ p_X p_Y q_X q_Y forecast), .int .i64 (drift_Allows_1 from_ until_ p_X p_Y q_X q_Y forecast)]⟩
  | _ => Option.none
noncomputable def K15 : Con := ext Tryz.prog K14 32 [.sl 0, .int .i64 0, .int .i64 0, .agg [.int .i64 0, .int .i64 0], .agg [.int .i64 0, .int .i64 0]] [⟨0, 0, false, .row 56 [.int .i64, .int .i64, .int .i64, .int .i64, .int .i64, .int .i64] []⟩] drift_Allows_eff
theorem K15_ok : ConOk Tryz.prog K15 := conOk_ext noSeq_ok K14_ok (n := 9) rfl rfl fun us x h => by
  unfold drift_Allows_eff at h
  split at h
  · cases h; exact ⟨some (drift_Allows_pre _ _ _ _ _ _ _), drift_Allows_col _ _ _ _ _ _ _, fun h => h⟩
  · cases h
theorem drift_Move_col (from_ until_ : Int) (list forecast : List (List Int)) : collapse Tryz.prog 2 (execFn Tryz.prog K15 noSeq 9 59 [.sl 0, .sl 1, .int .i64 from_, .int .i64 until_] ⟨[⟨0, 2, false, .row 42 [.int .i64, .int .i64, .int .i64, .int .i64] list⟩, ⟨1, 2, false, .row 56 [.int .i64, .int .i64, .int .i64, .int .i64, .int .i64, .int .i64] forecast⟩], 2⟩) = some ⟨some (drift_Move_pre from_ until_ list forecast), [], 1, [⟨2, 2, true, .row 42 [.int .i64, .int .i64, .int .i64, .int .i64] (drift_Move_0 from_ until_ list forecast)⟩], .tup [.sl 2, .int .i64 (drift_Move_1 from_ until_ list forecast)]⟩ := by kernel_rfl
noncomputable def drift_Move_eff : List U → Option Eff
  | [.i from_, .i until_, .r list, .r forecast] => some ⟨some (drift_Move_pre from_ until_ list forecast), [], 1, [⟨2, 2, true, .row 42 [.int .i64, .int .i64, .int .i64, .int .i64] (drift_Move_0 from_ until_ list forecast)⟩], .tup [.sl 2, .int .i64 (drift_Move_1 from_ until_ list forecast)]⟩
  | _ => Option.none
noncomputable def K16 : Con := ext Tryz.prog K15 59 [.sl 0, .sl 1, .int .i64 0, .int .i64 0] [⟨0, 0, false, .row 42 [.int .i64, .int .i64, .int .i64, .int .i64] []⟩, ⟨1, 0, false, .row 56 [.int .i64, .int .i64, .int .i64, .int .i64, .int .i64, .int .i64] []⟩] drift_Move_eff
theorem K16_ok : ConOk Tryz.prog K16 := conOk_ext noSeq_ok K15_ok (n := 9) rfl rfl fun us x h => by
  unfold drift_Move_eff at h
  split at h
  · cases h; exact ⟨some (drift_Move_pre _ _ _ _), drift_Move_col _ _ _ _, fun h => h⟩
  · cases h
theorem drift_In_col (p_X p_Y : Int) (list : List (List Int)) : collapse Tryz.prog 1 (execFn Tryz.prog K16 noSeq 9 31 [.sl 0, .agg [.int .i64 p_X, .int .i64 p_Y]] ⟨[⟨0, 1, false, .row 42 [.int .i64, .int .i64, .int .i64, .int .i64] list⟩], 1⟩) = some ⟨some (drift_In_pre p_X p_Y list), [], 0, [], .tup [.bool (drift_In_0 p_X p_Y list), .int .i64 (drift_In_1 p_X p_Y list)]⟩ := by kernel_rfl
noncomputable def drift_In_eff : List U → Option Eff
  | [.i p_X, .i p_Y, .r list] => some ⟨some (drift_In_pre p_X p_Y list), [], 0, [], .tup [.bool (drift_In_0 p_X p_Y list), .int .i64 (drift_In_1 p_X p_Y list)]⟩
  | _ => Option.none
noncomputable def K17 : Con := ext Tryz.prog K16 31 [.sl 0, .agg [.int .i64 0, .int .i64 0]] [⟨0, 0, false, .row 42 [.int .i64, .int .i64, .int .i64, .int .i64] []⟩] drift_In_eff
theorem K17_ok : ConOk Tryz.prog K17 := conOk_ext noSeq_ok K16_ok (n := 9) rfl rfl fun us x h => by
  unfold drift_In_eff at h
  split at h
  · cases h; exact ⟨some (drift_In_pre _ _ _), drift_In_col _ _ _, fun h => h⟩
  · cases h
theorem drift_Cut_col (b_X_Lo b_X_Hi b_Y_Lo b_Y_Hi : Int) (list : List (List Int)) : collapse Tryz.prog 1 (execFn Tryz.prog K17 noSeq 9 61 [.sl 0, .agg [.int .i64 b_X_Lo, .int .i64 b_X_Hi, .int .i64 b_Y_Lo, .int .i64 b_Y_Hi]] ⟨[⟨0, 1, false, .row 42 [.int .i64, .int .i64, .int .i64, .int .i64] list⟩], 1⟩) = some ⟨some (drift_Cut_pre b_X_Lo b_X_Hi b_Y_Lo b_Y_Hi list), [], 1, [⟨1, 1, true, .row 42 [.int .i64, .int .i64, .int .i64, .int .i64] (drift_Cut_0 b_X_Lo b_X_Hi b_Y_Lo b_Y_Hi list)⟩], .tup [.sl 1, .int .i64 (drift_Cut_1 b_X_Lo b_X_Hi b_Y_Lo b_Y_Hi list)]⟩ := by kernel_rfl
noncomputable def drift_Cut_eff : List U → Option Eff
  | [.i b_X_Lo, .i b_X_Hi, .i b_Y_Lo, .i b_Y_Hi, .r list] => some ⟨some (drift_Cut_pre b_X_Lo b_X_Hi b_Y_Lo b_Y_Hi list), [], 1, [⟨1, 1, true, .row 42 [.int .i64, .int .i64, .int .i64, .int .i64] (drift_Cut_0 b_X_Lo b_X_Hi b_Y_Lo b_Y_Hi list)⟩], .tup [.sl 1, .int .i64 (drift_Cut_1 b_X_Lo b_X_Hi b_Y_Lo b_Y_Hi list)]⟩
  | _ => Option.none
noncomputable def K18 : Con := ext Tryz.prog K17 61 [.sl 0, .agg [.int .i64 0, .int .i64 0, .int .i64 0, .int .i64 0]] [⟨0, 0, false, .row 42 [.int .i64, .int .i64, .int .i64, .int .i64] []⟩] drift_Cut_eff
theorem K18_ok : ConOk Tryz.prog K18 := conOk_ext noSeq_ok K17_ok (n := 9) rfl rfl fun us x h => by
  unfold drift_Cut_eff at h
  split at h
  · cases h; exact ⟨some (drift_Cut_pre _ _ _ _ _), drift_Cut_col _ _ _ _ _, fun h => h⟩
  · cases h
end Go.Proofs.YtnijhjpaplihbaaGreat
