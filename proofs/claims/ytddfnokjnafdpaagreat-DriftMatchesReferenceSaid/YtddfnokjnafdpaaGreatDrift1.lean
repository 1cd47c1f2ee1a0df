/- Written by program (wip/sygen.py): the contracts of the Go functions. -/
import Derived.Test.YtddfnokjnafdpaaGreatRows
import Derived.Test.YtddfnokjnafdpaaGreatSyH
import Derived.Test.YtddfnokjnafdpaaGreatDrift1D
set_option maxRecDepth 100000
set_option linter.unusedVariables false
namespace Go.Proofs.YtddfnokjnafdpaaGreat
open Go Go.Sy
noncomputable def D0 : Con := Con.none
theorem D0_ok : ConOk Tryz.prog D0 := conOk_none _
theorem span_Valid_col (s_Lo s_Hi : Int) : collapse Tryz.prog 0 (execFn Tryz.prog D0 noSeq 9 82 [.agg [.int .i64 s_Lo, .int .i64 s_Hi]] ⟨[], 0⟩) = some ⟨none, [], 0, [], .bool (span_Valid_0 s_Lo s_Hi)⟩ := by kernel_rfl
noncomputable def span_Valid_eff : List U → Option Eff
  | [.i s_Lo, .i s_Hi] => some ⟨none, [], 0, [], .bool (span_Valid_0 s_Lo s_Hi)⟩
  | _ => Option.none
noncomputable def D1 : Con := ext Tryz.prog D0 82 [.agg [.int .i64 0, .int .i64 0]] [] span_Valid_eff
theorem D1_ok : ConOk Tryz.prog D1 := conOk_ext noSeq_ok D0_ok (n := 9) rfl rfl fun us x h => by
  unfold span_Valid_eff at h
  split at h
  · cases h; exact ⟨none, span_Valid_col _ _, fun _ => trivial⟩
  · cases h
theorem span_ends_int_col (a b : Int) : collapse Tryz.prog 0 (execFn Tryz.prog D1 noSeq 9 84 [.int .i64 a, .int .i64 b] ⟨[], 0⟩) = some ⟨none, [], 0, [], .tup [.int .i64 (span_ends_int_0 a b), .int .i64 (span_ends_int_1 a b)]⟩ := by kernel_rfl
noncomputable def span_ends_int_eff : List U → Option Eff
  | [.i a, .i b] => some ⟨none, [], 0, [], .tup [.int .i64 (span_ends_int_0 a b), .int .i64 (span_ends_int_1 a b)]⟩
  | _ => Option.none
noncomputable def D2 : Con := ext Tryz.prog D1 84 [.int .i64 0, .int .i64 0] [] span_ends_int_eff
theorem D2_ok : ConOk Tryz.prog D2 := conOk_ext noSeq_ok D1_ok (n := 9) rfl rfl fun us x h => by
  unfold span_ends_int_eff at h
  split at h
  · cases h; exact ⟨none, span_ends_int_col _ _, fun _ => trivial⟩
  · cases h
theorem span_Meet_col (s_Lo s_Hi t_Lo t_Hi : Int) : collapse Tryz.prog 0 (execFn Tryz.prog D2 noSeq 9 59 [.agg [.int .i64 s_Lo, .int .i64 s_Hi], .agg [.int .i64 t_Lo, .int .i64 t_Hi]] ⟨[], 0⟩) = some ⟨none, [], 0, [], .tup [.agg [.int .i64 (span_Meet_0 s_Lo s_Hi t_Lo t_Hi), .int .i64 (span_Meet_1 s_Lo s_Hi t_Lo t_Hi)], .int .i64 (span_Meet_2 s_Lo s_Hi t_Lo t_Hi)]⟩ := by kernel_rfl
noncomputable def span_Meet_eff : List U → Option Eff
  | [.i s_Lo, .i s_Hi, .i t_Lo, .i t_Hi] => some ⟨none, [], 0, [], .tup [.agg [.int .i64 (span_Meet_0 s_Lo s_Hi t_Lo t_Hi), .int .i64 (span_Meet_1 s_Lo s_Hi t_Lo t_Hi)], .int .i64 (span_Meet_2 s_Lo s_Hi t_Lo t_Hi)]⟩
  | _ => Option.none
noncomputable def D3 : Con := ext Tryz.prog D2 59 [.agg [.int .i64 0, .int .i64 0], .agg [.int .i64 0, .int .i64 0]] [] span_Meet_eff
theorem D3_ok : ConOk Tryz.prog D3 := conOk_ext noSeq_ok D2_ok (n := 9) rfl rfl fun us x h => by
  unfold span_Meet_eff at h
  split at h
  · cases h; exact ⟨none, span_Meet_col _ _ _ _, fun _ => trivial⟩
  · cases h
theorem span_Join_col (s_Lo s_Hi t_Lo t_Hi : Int) : collapse Tryz.prog 0 (execFn Tryz.prog D3 noSeq 9 65 [.agg [.int .i64 s_Lo, .int .i64 s_Hi], .agg [.int .i64 t_Lo, .int .i64 t_Hi]] ⟨[], 0⟩) = some ⟨none, [], 0, [], .tup [.agg [.int .i64 (span_Join_0 s_Lo s_Hi t_Lo t_Hi), .int .i64 (span_Join_1 s_Lo s_Hi t_Lo t_Hi)], .int .i64 (span_Join_2 s_Lo s_Hi t_Lo t_Hi)]⟩ := by kernel_rfl
noncomputable def span_Join_eff : List U → Option Eff
  | [.i s_Lo, .i s_Hi, .i t_Lo, .i t_Hi] => some ⟨none, [], 0, [], .tup [.agg [.int .i64 (span_Join_0 s_Lo s_Hi t_Lo t_Hi), .int .i64 (span_Join_1 s_Lo s_Hi t_Lo t_Hi)], .int .i64 (span_Join_2 s_Lo s_Hi t_Lo t_Hi)]⟩
  | _ => Option.none
noncomputable def D4 : Con := ext Tryz.prog D3 65 [.agg [.int .i64 0, .int .i64 0], .agg [.int .i64 0, .int .i64 0]] [] span_Join_eff
theorem D4_ok : ConOk Tryz.prog D4 := conOk_ext noSeq_ok D3_ok (n := 9) rfl rfl fun us x h => by
  unfold span_Join_eff at h
  split at h
  · cases h; exact ⟨none, span_Join_col _ _ _ _, fun _ => trivial⟩
  · cases h
theorem span_Within_col (s_Lo s_Hi t_Lo t_Hi : Int) : collapse Tryz.prog 0 (execFn Tryz.prog D4 noSeq 9 31 [.agg [.int .i64 s_Lo, .int .i64 s_Hi], .agg [.int .i64 t_Lo, .int .i64 t_Hi]] ⟨[], 0⟩) = some ⟨none, [], 0, [], .tup [.bool (span_Within_0 s_Lo s_Hi t_Lo t_Hi), .int .i64 (span_Within_1 s_Lo s_Hi t_Lo t_Hi)]⟩ := by kernel_rfl
noncomputable def span_Within_eff : List U → Option Eff
  | [.i s_Lo, .i s_Hi, .i t_Lo, .i t_Hi] => some ⟨none, [], 0, [], .tup [.bool (span_Within_0 s_Lo s_Hi t_Lo t_Hi), .int .i64 (span_Within_1 s_Lo s_Hi t_Lo t_Hi)]⟩
  | _ => Option.none
noncomputable def D5 : Con := ext Tryz.prog D4 31 [.agg [.int .i64 0, .int .i64 0], .agg [.int .i64 0, .int .i64 0]] [] span_Within_eff
theorem D5_ok : ConOk Tryz.prog D5 := conOk_ext noSeq_ok D4_ok (n := 9) rfl rfl fun us x h => by
  unfold span_Within_eff at h
  split at h
  · cases h; exact ⟨none, span_Within_col _ _ _ _, fun _ => trivial⟩
  · cases h
theorem span_ValidBox_col (b_X_Lo b_X_Hi b_Y_Lo b_Y_Hi : Int) : collapse Tryz.prog 0 (execFn Tryz.prog D5 noSeq 9 28 [.agg [.int .i64 b_X_Lo, .int .i64 b_X_Hi, .int .i64 b_Y_Lo, .int .i64 b_Y_Hi]] ⟨[], 0⟩) = some ⟨none, [], 0, [], .bool (span_ValidBox_0 b_X_Lo b_X_Hi b_Y_Lo b_Y_Hi)⟩ := by kernel_rfl
noncomputable def span_ValidBox_eff : List U → Option Eff
  | [.i b_X_Lo, .i b_X_Hi, .i b_Y_Lo, .i b_Y_Hi] => some ⟨none, [], 0, [], .bool (span_ValidBox_0 b_X_Lo b_X_Hi b_Y_Lo b_Y_Hi)⟩
  | _ => Option.none
noncomputable def D6 : Con := ext Tryz.prog D5 28 [.agg [.int .i64 0, .int .i64 0, .int .i64 0, .int .i64 0]] [] span_ValidBox_eff
theorem D6_ok : ConOk Tryz.prog D6 := conOk_ext noSeq_ok D5_ok (n := 9) rfl rfl fun us x h => by
  unfold span_ValidBox_eff at h
  split at h
  · cases h; exact ⟨none, span_ValidBox_col _ _ _ _, fun _ => trivial⟩
  · cases h
theorem span_InBox_col (p_X p_Y b_X_Lo b_X_Hi b_Y_Lo b_Y_Hi : Int) : collapse Tryz.prog 0 (execFn Tryz.prog D6 noSeq 9 44 [.agg [.int .i64 p_X, .int .i64 p_Y], .agg [.int .i64 b_X_Lo, .int .i64 b_X_Hi, .int .i64 b_Y_Lo, .int .i64 b_Y_Hi]] ⟨[], 0⟩) = some ⟨none, [], 0, [], .tup [.bool (span_InBox_0 p_X p_Y b_X_Lo b_X_Hi b_Y_Lo b_Y_Hi), .int .i64 (span_InBox_1 p_X p_Y b_X_Lo b_X_Hi b_Y_Lo b_Y_Hi)]⟩ := by kernel_rfl
noncomputable def span_InBox_eff : List U → Option Eff
  | [.i p_X, .i p_Y, .i b_X_Lo, .i b_X_Hi, .i b_Y_Lo, .i b_Y_Hi] => some ⟨none, [], 0, [], .tup [.bool (span_InBox_0 p_X p_Y b_X_Lo b_X_Hi b_Y_Lo b_Y_Hi), .int .i64 (span_InBox_1 p_X p_Y b_X_Lo b_X_Hi b_Y_Lo b_Y_Hi)]⟩
  | _ => Option.none
noncomputable def D7 : Con := ext Tryz.prog D6 44 [.agg [.int .i64 0, .int .i64 0], .agg [.int .i64 0, .int .i64 0, .int .i64 0, .int .i64 0]] [] span_InBox_eff
theorem D7_ok : ConOk Tryz.prog D7 := conOk_ext noSeq_ok D6_ok (n := 9) rfl rfl fun us x h => by
  unfold span_InBox_eff at h
  split at h
  · cases h; exact ⟨none, span_InBox_col _ _ _ _ _ _, fun _ => trivial⟩
  · cases h
theorem span_MeetBox_col (a_X_Lo a_X_Hi a_Y_Lo a_Y_Hi b_X_Lo b_X_Hi b_Y_Lo b_Y_Hi : Int) : collapse Tryz.prog 0 (execFn Tryz.prog D7 noSeq 9 41 [.agg [.int .i64 a_X_Lo, .int .i64 a_X_Hi, .int .i64 a_Y_Lo, .int .i64 a_Y_Hi], .agg [.int .i64 b_X_Lo, .int .i64 b_X_Hi, .int .i64 b_Y_Lo, .int .i64 b_Y_Hi]] ⟨[], 0⟩) = some ⟨none, [], 0, [], .tup [.agg [.int .i64 (span_MeetBox_0 a_X_Lo a_X_Hi a_Y_Lo a_Y_Hi b_X_Lo b_X_Hi b_Y_Lo b_Y_Hi), .int .i64 (span_MeetBox_1 a_X_Lo a_X_Hi a_Y_Lo a_Y_Hi b_X_Lo b_X_Hi b_Y_Lo b_Y_Hi), .int .i64 (span_MeetBox_2 a_X_Lo a_X_Hi a_Y_Lo a_Y_Hi b_X_Lo b_X_Hi b_Y_Lo b_Y_Hi), .int .i64 (span_MeetBox_3 a_X_Lo a_X_Hi a_Y_Lo a_Y_Hi b_X_Lo b_X_Hi b_Y_Lo b_Y_Hi)], .int .i64 (span_MeetBox_4 a_X_Lo a_X_Hi a_Y_Lo a_Y_Hi b_X_Lo b_X_Hi b_Y_Lo b_Y_Hi)]⟩ := by kernel_rfl
noncomputable def span_MeetBox_eff : List U → Option Eff
  | [.i a_X_Lo, .i a_X_Hi, .i a_Y_Lo, .i a_Y_Hi, .i b_X_Lo, .i b_X_Hi, .i b_Y_Lo, .i b_Y_Hi] => some ⟨none, [], 0, [], .tup [.agg [.int .i64 (span_MeetBox_0 a_X_Lo a_X_Hi a_Y_Lo a_Y_Hi b_X_Lo b_X_Hi b_Y_Lo b_Y_Hi), .int .i64 (span_MeetBox_1 a_X_Lo a_X_Hi a_Y_Lo a_Y_Hi b_X_Lo b_X_Hi b_Y_Lo b_Y_Hi), .int .i64 (span_MeetBox_2 a_X_Lo a_X_Hi a_Y_Lo a_Y_Hi b_X_Lo b_X_Hi b_Y_Lo b_Y_Hi), .int .i64 (span_MeetBox_3 a_X_Lo a_X_Hi a_Y_Lo a_Y_Hi b_X_Lo b_X_Hi b_Y_Lo b_Y_Hi)], .int .i64 (span_MeetBox_4 a_X_Lo a_X_Hi a_Y_Lo a_Y_Hi b_X_Lo b_X_Hi b_Y_Lo b_Y_Hi)]⟩
  | _ => Option.none
noncomputable def D8 : Con := ext Tryz.prog D7 41 [.agg [.int .i64 0, .int .i64 0, .int .i64 0, .int .i64 0], .agg [.int .i64 0, .int .i64 0, .int .i64 0, .int .i64 0]] [] span_MeetBox_eff
theorem D8_ok : ConOk Tryz.prog D8 := conOk_ext noSeq_ok D7_ok (n := 9) rfl rfl fun us x h => by
  unfold span_MeetBox_eff at h
  split at h
  · cases h; exact ⟨none, span_MeetBox_col _ _ _ _ _ _ _ _, fun _ => trivial⟩
  · cases h
theorem span_JoinBox_col (a_X_Lo a_X_Hi a_Y_Lo a_Y_Hi b_X_Lo b_X_Hi b_Y_Lo b_Y_Hi : Int) : collapse Tryz.prog 0 (execFn Tryz.prog D8 noSeq 9 48 [.agg [.int .i64 a_X_Lo, .int .i64 a_X_Hi, .int .i64 a_Y_Lo, .int .i64 a_Y_Hi], .agg [.int .i64 b_X_Lo, .int .i64 b_X_Hi, .int .i64 b_Y_Lo, .int .i64 b_Y_Hi]] ⟨[], 0⟩) = some ⟨none, [], 0, [], .tup [.agg [.int .i64 (span_JoinBox_0 a_X_Lo a_X_Hi a_Y_Lo a_Y_Hi b_X_Lo b_X_Hi b_Y_Lo b_Y_Hi), .int .i64 (span_JoinBox_1 a_X_Lo a_X_Hi a_Y_Lo a_Y_Hi b_X_Lo b_X_Hi b_Y_Lo b_Y_Hi), .int .i64 (span_JoinBox_2 a_X_Lo a_X_Hi a_Y_Lo a_Y_Hi b_X_Lo b_X_Hi b_Y_Lo b_Y_Hi), .int .i64 (span_JoinBox_3 a_X_Lo a_X_Hi a_Y_Lo a_Y_Hi b_X_Lo b_X_Hi b_Y_Lo b_Y_Hi)], .int .i64 (span_JoinBox_4 a_X_Lo a_X_Hi a_Y_Lo a_Y_Hi b_X_Lo b_X_Hi b_Y_Lo b_Y_Hi)]⟩ := by kernel_rfl
noncomputable def span_JoinBox_eff : List U → Option Eff
  | [.i a_X_Lo, .i a_X_Hi, .i a_Y_Lo, .i a_Y_Hi, .i b_X_Lo, .i b_X_Hi, .i b_Y_Lo, .i b_Y_Hi] => some ⟨none, [], 0, [], .tup [.agg [.int .i64 (span_JoinBox_0 a_X_Lo a_X_Hi a_Y_Lo a_Y_Hi b_X_Lo b_X_Hi b_Y_Lo b_Y_Hi), .int .i64 (span_JoinBox_1 a_X_Lo a_X_Hi a_Y_Lo a_Y_Hi b_X_Lo b_X_Hi b_Y_Lo b_Y_Hi), .int .i64 (span_JoinBox_2 a_X_Lo a_X_Hi a_Y_Lo a_Y_Hi b_X_Lo b_X_Hi b_Y_Lo b_Y_Hi), .int .i64 (span_JoinBox_3 a_X_Lo a_X_Hi a_Y_Lo a_Y_Hi b_X_Lo b_X_Hi b_Y_Lo b_Y_Hi)], .int .i64 (span_JoinBox_4 a_X_Lo a_X_Hi a_Y_Lo a_Y_Hi b_X_Lo b_X_Hi b_Y_Lo b_Y_Hi)]⟩
  | _ => Option.none
noncomputable def D9 : Con := ext Tryz.prog D8 48 [.agg [.int .i64 0, .int .i64 0, .int .i64 0, .int .i64 0], .agg [.int .i64 0, .int .i64 0, .int .i64 0, .int .i64 0]] [] span_JoinBox_eff
theorem D9_ok : ConOk Tryz.prog D9 := conOk_ext noSeq_ok D8_ok (n := 9) rfl rfl fun us x h => by
  unfold span_JoinBox_eff at h
  split at h
  · cases h; exact ⟨none, span_JoinBox_col _ _ _ _ _ _ _ _, fun _ => trivial⟩
  · cases h
theorem ref02_coords_col (s_Lo s_Hi : Int) : collapse Tryz.prog 0 (execFn Tryz.prog D9 noSeq 9 64 [.agg [.int .i64 s_Lo, .int .i64 s_Hi]] ⟨[], 0⟩) = some ⟨none, [], 0, [], .bool (ref02_coords_0 s_Lo s_Hi)⟩ := by kernel_rfl
noncomputable def ref02_coords_eff : List U → Option Eff
  | [.i s_Lo, .i s_Hi] => some ⟨none, [], 0, [], .bool (ref02_coords_0 s_Lo s_Hi)⟩
  | _ => Option.none
noncomputable def D10 : Con := ext Tryz.prog D9 64 [.agg [.int .i64 0, .int .i64 0]] [] ref02_coords_eff
theorem D10_ok : ConOk Tryz.prog D10 := conOk_ext noSeq_ok D9_ok (n := 9) rfl rfl fun us x h => by
  unfold ref02_coords_eff at h
  split at h
  · cases h; exact ⟨none, ref02_coords_col _ _, fun _ => trivial⟩
  · cases h
theorem ref02_ValidBox_col (b_X_Lo b_X_Hi b_Y_Lo b_Y_Hi : Int) : collapse Tryz.prog 0 (execFn Tryz.prog D10 noSeq 9 30 [.agg [.int .i64 b_X_Lo, .int .i64 b_X_Hi, .int .i64 b_Y_Lo, .int .i64 b_Y_Hi]] ⟨[], 0⟩) = some ⟨none, [], 0, [], .bool (ref02_ValidBox_0 b_X_Lo b_X_Hi b_Y_Lo b_Y_Hi)⟩ := by kernel_rfl
noncomputable def ref02_ValidBox_eff : List U → Option Eff
  | [.i b_X_Lo, .i b_X_Hi, .i b_Y_Lo, .i b_Y_Hi] => some ⟨none, [], 0, [], .bool (ref02_ValidBox_0 b_X_Lo b_X_Hi b_Y_Lo b_Y_Hi)⟩
  | _ => Option.none
noncomputable def D11 : Con := ext Tryz.prog D10 30 [.agg [.int .i64 0, .int .i64 0, .int .i64 0, .int .i64 0]] [] ref02_ValidBox_eff
theorem D11_ok : ConOk Tryz.prog D11 := conOk_ext noSeq_ok D10_ok (n := 9) rfl rfl fun us x h => by
  unfold ref02_ValidBox_eff at h
  split at h
  · cases h; exact ⟨none, ref02_ValidBox_col _ _ _ _, fun _ => trivial⟩
  · cases h
theorem ref02_Valid_col (s_Lo s_Hi : Int) : collapse Tryz.prog 0 (execFn Tryz.prog D11 noSeq 9 107 [.agg [.int .i64 s_Lo, .int .i64 s_Hi]] ⟨[], 0⟩) = some ⟨none, [], 0, [], .bool (ref02_Valid_0 s_Lo s_Hi)⟩ := by kernel_rfl
noncomputable def ref02_Valid_eff : List U → Option Eff
  | [.i s_Lo, .i s_Hi] => some ⟨none, [], 0, [], .bool (ref02_Valid_0 s_Lo s_Hi)⟩
  | _ => Option.none
noncomputable def D12 : Con := ext Tryz.prog D11 107 [.agg [.int .i64 0, .int .i64 0]] [] ref02_Valid_eff
theorem D12_ok : ConOk Tryz.prog D12 := conOk_ext noSeq_ok D11_ok (n := 9) rfl rfl fun us x h => by
  unfold ref02_Valid_eff at h
  split at h
  · cases h; exact ⟨none, ref02_Valid_col _ _, fun _ => trivial⟩
  · cases h
theorem ref02_Both_col (s_Lo s_Hi t_Lo t_Hi : Int) : collapse Tryz.prog 0 (execFn Tryz.prog D12 noSeq 9 83 [.agg [.int .i64 s_Lo, .int .i64 s_Hi], .agg [.int .i64 t_Lo, .int .i64 t_Hi]] ⟨[], 0⟩) = some ⟨none, [], 0, [], .bool (ref02_Both_0 s_Lo s_Hi t_Lo t_Hi)⟩ := by kernel_rfl
noncomputable def ref02_Both_eff : List U → Option Eff
  | [.i s_Lo, .i s_Hi, .i t_Lo, .i t_Hi] => some ⟨none, [], 0, [], .bool (ref02_Both_0 s_Lo s_Hi t_Lo t_Hi)⟩
  | _ => Option.none
noncomputable def D13 : Con := ext Tryz.prog D12 83 [.agg [.int .i64 0, .int .i64 0], .agg [.int .i64 0, .int .i64 0]] [] ref02_Both_eff
theorem D13_ok : ConOk Tryz.prog D13 := conOk_ext noSeq_ok D12_ok (n := 9) rfl rfl fun us x h => by
  unfold ref02_Both_eff at h
  split at h
  · cases h; exact ⟨none, ref02_Both_col _ _ _ _, fun _ => trivial⟩
  · cases h
theorem ref02_Within_col (s_Lo s_Hi t_Lo t_Hi : Int) : collapse Tryz.prog 0 (execFn Tryz.prog D13 noSeq 9 113 [.agg [.int .i64 s_Lo, .int .i64 s_Hi], .agg [.int .i64 t_Lo, .int .i64 t_Hi]] ⟨[], 0⟩) = some ⟨none, [], 0, [], .tup [.bool (ref02_Within_0 s_Lo s_Hi t_Lo t_Hi), .int .i64 (ref02_Within_1 s_Lo s_Hi t_Lo t_Hi)]⟩ := by kernel_rfl
noncomputable def ref02_Within_eff : List U → Option Eff
  | [.i s_Lo, .i s_Hi, .i t_Lo, .i t_Hi] => some ⟨none, [], 0, [], .tup [.bool (ref02_Within_0 s_Lo s_Hi t_Lo t_Hi), .int .i64 (ref02_Within_1 s_Lo s_Hi t_Lo t_Hi)]⟩
  | _ => Option.none
noncomputable def D14 : Con := ext Tryz.prog D13 113 [.agg [.int .i64 0, .int .i64 0], .agg [.int .i64 0, .int .i64 0]] [] ref02_Within_eff
theorem D14_ok : ConOk Tryz.prog D14 := conOk_ext noSeq_ok D13_ok (n := 9) rfl rfl fun us x h => by
  unfold ref02_Within_eff at h
  split at h
  · cases h; exact ⟨none, ref02_Within_col _ _ _ _, fun _ => trivial⟩
  · cases h
theorem ref02_BothBoxes_col (a_X_Lo a_X_Hi a_Y_Lo a_Y_Hi b_X_Lo b_X_Hi b_Y_Lo b_Y_Hi : Int) : collapse Tryz.prog 0 (execFn Tryz.prog D14 noSeq 9 72 [.agg [.int .i64 a_X_Lo, .int .i64 a_X_Hi, .int .i64 a_Y_Lo, .int .i64 a_Y_Hi], .agg [.int .i64 b_X_Lo, .int .i64 b_X_Hi, .int .i64 b_Y_Lo, .int .i64 b_Y_Hi]] ⟨[], 0⟩) = some ⟨none, [], 0, [], .bool (ref02_BothBoxes_0 a_X_Lo a_X_Hi a_Y_Lo a_Y_Hi b_X_Lo b_X_Hi b_Y_Lo b_Y_Hi)⟩ := by kernel_rfl
noncomputable def ref02_BothBoxes_eff : List U → Option Eff
  | [.i a_X_Lo, .i a_X_Hi, .i a_Y_Lo, .i a_Y_Hi, .i b_X_Lo, .i b_X_Hi, .i b_Y_Lo, .i b_Y_Hi] => some ⟨none, [], 0, [], .bool (ref02_BothBoxes_0 a_X_Lo a_X_Hi a_Y_Lo a_Y_Hi b_X_Lo b_X_Hi b_Y_Lo b_Y_Hi)⟩
  | _ => Option.none
noncomputable def D15 : Con := ext Tryz.prog D14 72 [.agg [.int .i64 0, .int .i64 0, .int .i64 0, .int .i64 0], .agg [.int .i64 0, .int .i64 0, .int .i64 0, .int .i64 0]] [] ref02_BothBoxes_eff
theorem D15_ok : ConOk Tryz.prog D15 := conOk_ext noSeq_ok D14_ok (n := 9) rfl rfl fun us x h => by
  unfold ref02_BothBoxes_eff at h
  split at h
  · cases h; exact ⟨none, ref02_BothBoxes_col _ _ _ _ _ _ _ _, fun _ => trivial⟩
  · cases h
theorem ref02_WithinBox_col (a_X_Lo a_X_Hi a_Y_Lo a_Y_Hi b_X_Lo b_X_Hi b_Y_Lo b_Y_Hi : Int) : collapse Tryz.prog 0 (execFn Tryz.prog D15 noSeq 9 95 [.agg [.int .i64 a_X_Lo, .int .i64 a_X_Hi, .int .i64 a_Y_Lo, .int .i64 a_Y_Hi], .agg [.int .i64 b_X_Lo, .int .i64 b_X_Hi, .int .i64 b_Y_Lo, .int .i64 b_Y_Hi]] ⟨[], 0⟩) = some ⟨none, [], 0, [], .tup [.bool (ref02_WithinBox_0 a_X_Lo a_X_Hi a_Y_Lo a_Y_Hi b_X_Lo b_X_Hi b_Y_Lo b_Y_Hi), .int .i64 (ref02_WithinBox_1 a_X_Lo a_X_Hi a_Y_Lo a_Y_Hi b_X_Lo b_X_Hi b_Y_Lo b_Y_Hi)]⟩ := by kernel_rfl
noncomputable def ref02_WithinBox_eff : List U → Option Eff
  | [.i a_X_Lo, .i a_X_Hi, .i a_Y_Lo, .i a_Y_Hi, .i b_X_Lo, .i b_X_Hi, .i b_Y_Lo, .i b_Y_Hi] => some ⟨none, [], 0, [], .tup [.bool (ref02_WithinBox_0 a_X_Lo a_X_Hi a_Y_Lo a_Y_Hi b_X_Lo b_X_Hi b_Y_Lo b_Y_Hi), .int .i64 (ref02_WithinBox_1 a_X_Lo a_X_Hi a_Y_Lo a_Y_Hi b_X_Lo b_X_Hi b_Y_Lo b_Y_Hi)]⟩
  | _ => Option.none
noncomputable def D16 : Con := ext Tryz.prog D15 95 [.agg [.int .i64 0, .int .i64 0, .int .i64 0, .int .i64 0], .agg [.int .i64 0, .int .i64 0, .int .i64 0, .int .i64 0]] [] ref02_WithinBox_eff
theorem D16_ok : ConOk Tryz.prog D16 := conOk_ext noSeq_ok D15_ok (n := 9) rfl rfl fun us x h => by
  unfold ref02_WithinBox_eff at h
  split at h
  · cases h; exact ⟨none, ref02_WithinBox_col _ _ _ _ _ _ _ _, fun _ => trivial⟩
  · cases h
theorem law23_of_col (lo hi : Int) : collapse Tryz.prog 0 (execFn Tryz.prog D16 noSeq 9 25 [.int .i64 lo, .int .i64 hi] ⟨[], 0⟩) = some ⟨none, [], 0, [], .agg [.int .i64 (law23_of_0 lo hi), .int .i64 (law23_of_1 lo hi)]⟩ := by kernel_rfl
noncomputable def law23_of_eff : List U → Option Eff
  | [.i lo, .i hi] => some ⟨none, [], 0, [], .agg [.int .i64 (law23_of_0 lo hi), .int .i64 (law23_of_1 lo hi)]⟩
  | _ => Option.none
noncomputable def D17 : Con := ext Tryz.prog D16 25 [.int .i64 0, .int .i64 0] [] law23_of_eff
theorem D17_ok : ConOk Tryz.prog D17 := conOk_ext noSeq_ok D16_ok (n := 9) rfl rfl fun us x h => by
  unfold law23_of_eff at h
  split at h
  · cases h; exact ⟨none, law23_of_col _ _, fun _ => trivial⟩
  · cases h
theorem law23_box_col (a b c d : Int) : collapse Tryz.prog 0 (execFn Tryz.prog D17 noSeq 9 26 [.int .i64 a, .int .i64 b, .int .i64 c, .int .i64 d] ⟨[], 0⟩) = some ⟨none, [], 0, [], .agg [.int .i64 (law23_box_0 a b c d), .int .i64 (law23_box_1 a b c d), .int .i64 (law23_box_2 a b c d), .int .i64 (law23_box_3 a b c d)]⟩ := by kernel_rfl
noncomputable def law23_box_eff : List U → Option Eff
  | [.i a, .i b, .i c, .i d] => some ⟨none, [], 0, [], .agg [.int .i64 (law23_box_0 a b c d), .int .i64 (law23_box_1 a b c d), .int .i64 (law23_box_2 a b c d), .int .i64 (law23_box_3 a b c d)]⟩
  | _ => Option.none
noncomputable def D18 : Con := ext Tryz.prog D17 26 [.int .i64 0, .int .i64 0, .int .i64 0, .int .i64 0] [] law23_box_eff
theorem D18_ok : ConOk Tryz.prog D18 := conOk_ext noSeq_ok D17_ok (n := 9) rfl rfl fun us x h => by
  unfold law23_box_eff at h
  split at h
  · cases h; exact ⟨none, law23_box_col _ _ _ _, fun _ => trivial⟩
  · cases h
theorem ref23_Flows_col (a b : List (List Int)) : collapse Tryz.prog 2 (execFn Tryz.prog D18 noSeq 9 24 [.sl 0, .sl 1] ⟨[⟨0, 2, false, .row 50 [.int .i64, .int .i64, .int .i64, .int .i64, .int .i64, .int .i64] a⟩, ⟨1, 2, false, .row 50 [.int .i64, .int .i64, .int .i64, .int .i64, .int .i64, .int .i64] b⟩], 2⟩) = some ⟨some (ref23_Flows_pre a b), [], 0, [], .bool (ref23_Flows_0 a b)⟩ := by kernel_rfl
noncomputable def ref23_Flows_eff : List U → Option Eff
  | [.r a, .r b] => some ⟨some (ref23_Flows_pre a b), [], 0, [], .bool (ref23_Flows_0 a b)⟩
  | _ => Option.none
noncomputable def D19 : Con := ext Tryz.prog D18 24 [.sl 0, .sl 1] [⟨0, 0, false, .row 50 [.int .i64, .int .i64, .int .i64, .int .i64, .int .i64, .int .i64] []⟩, ⟨1, 0, false, .row 50 [.int .i64, .int .i64, .int .i64, .int .i64, .int .i64, .int .i64] []⟩] ref23_Flows_eff
theorem D19_ok : ConOk Tryz.prog D19 := conOk_ext noSeq_ok D18_ok (n := 9) rfl rfl fun us x h => by
  unfold ref23_Flows_eff at h
  split at h
  · cases h; exact ⟨some (ref23_Flows_pre _ _), ref23_Flows_col _ _, fun h => h⟩
  · cases h
theorem ref23_Same_col (a b : List (List Int)) : collapse Tryz.prog 2 (execFn Tryz.prog D19 noSeq 9 13 [.sl 0, .sl 1] ⟨[⟨0, 2, false, .row 29 [.int .i64, .int .i64, .int .i64, .int .i64] a⟩, ⟨1, 2, false, .row 29 [.int .i64, .int .i64, .int .i64, .int .i64] b⟩], 2⟩) = some ⟨some (ref23_Same_pre a b), [], 0, [], .bool (ref23_Same_0 a b)⟩ := by kernel_rfl
noncomputable def ref23_Same_eff : List U → Option Eff
  | [.r a, .r b] => some ⟨some (ref23_Same_pre a b), [], 0, [], .bool (ref23_Same_0 a b)⟩
  | _ => Option.none
noncomputable def D20 : Con := ext Tryz.prog D19 13 [.sl 0, .sl 1] [⟨0, 0, false, .row 29 [.int .i64, .int .i64, .int .i64, .int .i64] []⟩, ⟨1, 0, false, .row 29 [.int .i64, .int .i64, .int .i64, .int .i64] []⟩] ref23_Same_eff
theorem D20_ok : ConOk Tryz.prog D20 := conOk_ext noSeq_ok D19_ok (n := 9) rfl rfl fun us x h => by
  unfold ref23_Same_eff at h
  split at h
  · cases h; exact ⟨some (ref23_Same_pre _ _), ref23_Same_col _ _, fun h => h⟩
  · cases h
theorem ref23_meets_col (s_Lo s_Hi t_Lo t_Hi : Int) : collapse Tryz.prog 0 (execFn Tryz.prog D20 noSeq 9 96 [.agg [.int .i64 s_Lo, .int .i64 s_Hi], .agg [.int .i64 t_Lo, .int .i64 t_Hi]] ⟨[], 0⟩) = some ⟨none, [], 0, [], .bool (ref23_meets_0 s_Lo s_Hi t_Lo t_Hi)⟩ := by kernel_rfl
noncomputable def ref23_meets_eff : List U → Option Eff
  | [.i s_Lo, .i s_Hi, .i t_Lo, .i t_Hi] => some ⟨none, [], 0, [], .bool (ref23_meets_0 s_Lo s_Hi t_Lo t_Hi)⟩
  | _ => Option.none
noncomputable def D21 : Con := ext Tryz.prog D20 96 [.agg [.int .i64 0, .int .i64 0], .agg [.int .i64 0, .int .i64 0]] [] ref23_meets_eff
theorem D21_ok : ConOk Tryz.prog D21 := conOk_ext noSeq_ok D20_ok (n := 9) rfl rfl fun us x h => by
  unfold ref23_meets_eff at h
  split at h
  · cases h; exact ⟨none, ref23_meets_col _ _ _ _, fun _ => trivial⟩
  · cases h
theorem ref23_Joins_col (a_X_Lo a_X_Hi a_Y_Lo a_Y_Hi b_X_Lo b_X_Hi b_Y_Lo b_Y_Hi : Int) : collapse Tryz.prog 0 (execFn Tryz.prog D21 noSeq 9 78 [.agg [.int .i64 a_X_Lo, .int .i64 a_X_Hi, .int .i64 a_Y_Lo, .int .i64 a_Y_Hi], .agg [.int .i64 b_X_Lo, .int .i64 b_X_Hi, .int .i64 b_Y_Lo, .int .i64 b_Y_Hi]] ⟨[], 0⟩) = some ⟨none, [], 0, [], .bool (ref23_Joins_0 a_X_Lo a_X_Hi a_Y_Lo a_Y_Hi b_X_Lo b_X_Hi b_Y_Lo b_Y_Hi)⟩ := by kernel_rfl
noncomputable def ref23_Joins_eff : List U → Option Eff
  | [.i a_X_Lo, .i a_X_Hi, .i a_Y_Lo, .i a_Y_Hi, .i b_X_Lo, .i b_X_Hi, .i b_Y_Lo, .i b_Y_Hi] => some ⟨none, [], 0, [], .bool (ref23_Joins_0 a_X_Lo a_X_Hi a_Y_Lo a_Y_Hi b_X_Lo b_X_Hi b_Y_Lo b_Y_Hi)⟩
  | _ => Option.none
noncomputable def D22 : Con := ext Tryz.prog D21 78 [.agg [.int .i64 0, .int .i64 0, .int .i64 0, .int .i64 0], .agg [.int .i64 0, .int .i64 0, .int .i64 0, .int .i64 0]] [] ref23_Joins_eff
theorem D22_ok : ConOk Tryz.prog D22 := conOk_ext noSeq_ok D21_ok (n := 9) rfl rfl fun us x h => by
  unfold ref23_Joins_eff at h
  split at h
  · cases h; exact ⟨none, ref23_Joins_col _ _ _ _ _ _ _ _, fun _ => trivial⟩
  · cases h
theorem drift_Valid_col (list : List (List Int)) : collapse Tryz.prog 1 (execFn Tryz.prog D22 noSeq 9 5 [.sl 0] ⟨[⟨0, 1, false, .row 29 [.int .i64, .int .i64, .int .i64, .int .i64] list⟩], 1⟩) = some ⟨some (drift_Valid_pre list), [], 0, [], .bool (drift_Valid_0 list)⟩ := by kernel_rfl
noncomputable def drift_Valid_eff : List U → Option Eff
  | [.r list] => some ⟨some (drift_Valid_pre list), [], 0, [], .bool (drift_Valid_0 list)⟩
  | _ => Option.none
noncomputable def D23 : Con := ext Tryz.prog D22 5 [.sl 0] [⟨0, 0, false, .row 29 [.int .i64, .int .i64, .int .i64, .int .i64] []⟩] drift_Valid_eff
theorem D23_ok : ConOk Tryz.prog D23 := conOk_ext noSeq_ok D22_ok (n := 9) rfl rfl fun us x h => by
  unfold drift_Valid_eff at h
  split at h
  · cases h; exact ⟨some (drift_Valid_pre _), drift_Valid_col _, fun h => h⟩
  · cases h
theorem drift_Currents_col (list : List (List Int)) : collapse Tryz.prog 1 (execFn Tryz.prog D23 noSeq 9 7 [.sl 0] ⟨[⟨0, 1, false, .row 50 [.int .i64, .int .i64, .int .i64, .int .i64, .int .i64, .int .i64] list⟩], 1⟩) = some ⟨some (drift_Currents_pre list), [], 0, [], .bool (drift_Currents_0 list)⟩ := by kernel_rfl
noncomputable def drift_Currents_eff : List U → Option Eff
  | [.r list] => some ⟨some (drift_Currents_pre list), [], 0, [], .bool (drift_Currents_0 list)⟩
  | _ => Option.none
noncomputable def D24 : Con := ext Tryz.prog D23 7 [.sl 0] [⟨0, 0, false, .row 50 [.int .i64, .int .i64, .int .i64, .int .i64, .int .i64, .int .i64] []⟩] drift_Currents_eff
theorem D24_ok : ConOk Tryz.prog D24 := conOk_ext noSeq_ok D23_ok (n := 9) rfl rfl fun us x h => by
  unfold drift_Currents_eff at h
  split at h
  · cases h; exact ⟨some (drift_Currents_pre _), drift_Currents_col _, fun h => h⟩
  · cases h
theorem drift_Sum_col (from_ until_ : Int) (forecast : List (List Int)) : collapse Tryz.prog 1 (execFn Tryz.prog D24 noSeq 9 9 [.sl 0, .int .i64 from_, .int .i64 until_] ⟨[⟨0, 1, false, .row 50 [.int .i64, .int .i64, .int .i64, .int .i64, .int .i64, .int .i64] forecast⟩], 1⟩) = some ⟨some (drift_Sum_pre from_ until_ forecast), [], 0, [], .tup [.agg [.int .i64 (drift_Sum_0 from_ until_ forecast), .int .i64 (drift_Sum_1 from_ until_ forecast)], .agg [.int .i64 (drift_Sum_2 from_ until_ forecast), .int .i64 (drift_Sum_3 from_ until_ forecast)], .int .i64 (drift_Sum_4 from_ until_ forecast)]⟩ := by kernel_rfl
noncomputable def drift_Sum_eff : List U → Option Eff
  | [.i from_, .i until_, .r forecast] => some ⟨some (drift_Sum_pre from_ until_ forecast), [], 0, [], .tup [.agg [.int .i64 (drift_Sum_0 from_ until_ forecast), .int .i64 (drift_Sum_1 from_ until_ forecast)], .agg [.int .i64 (drift_Sum_2 from_ until_ forecast), .int .i64 (drift_Sum_3 from_ until_ forecast)], .int .i64 (drift_Sum_4 from_ until_ forecast)]⟩
  | _ => Option.none
noncomputable def D25 : Con := ext Tryz.prog D24 9 [.sl 0, .int .i64 0, .int .i64 0] [⟨0, 0, false, .row 50 [.int .i64, .int .i64, .int .i64, .int .i64, .int .i64, .int .i64] []⟩] drift_Sum_eff
theorem D25_ok : ConOk Tryz.prog D25 := conOk_ext noSeq_ok D24_ok (n := 9) rfl rfl fun us x h => by
  unfold drift_Sum_eff at h
  split at h
  · cases h; exact ⟨some (drift_Sum_pre _ _ _), drift_Sum_col _ _ _, fun h => h⟩
  · cases h
theorem drift_place_col (p_X p_Y : Int) : collapse Tryz.prog 0 (execFn Tryz.prog D25 noSeq 9 38 [.agg [.int .i64 p_X, .int .i64 p_Y]] ⟨[], 0⟩) = some ⟨none, [], 0, [], .bool (drift_place_0 p_X p_Y)⟩ := by kernel_rfl
noncomputable def drift_place_eff : List U → Option Eff
  | [.i p_X, .i p_Y] => some ⟨none, [], 0, [], .bool (drift_place_0 p_X p_Y)⟩
  | _ => Option.none
noncomputable def D26 : Con := ext Tryz.prog D25 38 [.agg [.int .i64 0, .int .i64 0]] [] drift_place_eff
theorem D26_ok : ConOk Tryz.prog D26 := conOk_ext noSeq_ok D25_ok (n := 9) rfl rfl fun us x h => by
  unfold drift_place_eff at h
  split at h
  · cases h; exact ⟨none, drift_place_col _ _, fun _ => trivial⟩
  · cases h
theorem drift_Allows_col (from_ until_ p_X p_Y q_X q_Y : Int) (forecast : List (List Int)) : collapse Tryz.prog 1 (execFn Tryz.prog D26 noSeq 9 14 [.sl 0, .int .i64 from_, .int .i64 until_, .agg [.int .i64 p_X, .int .i64 p_Y], .agg [.int .i64 q_X, .int .i64 q_Y]] ⟨[⟨0, 1, false, .row 50 [.int .i64, .int .i64, .int .i64, .int .i64, .int .i64, .int .i64] forecast⟩], 1⟩) = some ⟨some (drift_Allows_pre from_ until_ p_X p_Y q_X q_Y forecast), [], 0, [], .tup [.bool (drift_Allows_0 from_ until_ p_X p_Y q_X q_Y forecast), .int .i64 (drift_Allows_1 from_ until_ p_X p_Y q_X q_Y forecast)]⟩ := by kernel_rfl
noncomputable def drift_Allows_eff : List U → Option Eff
  | [.i from_, .i until_, .i p_X, .i p_Y, .i q_X, .i q_Y, .r forecast] => some ⟨some (drift_Allows_pre from_ until_ p_X p_Y q_X q_Y forecast), [], 0, [], .tup [.bool (drift_Allows_0 from_ until_ p_X p_Y q_X q_Y forecast), .int .i64 (drift_Allows_1 from_ until_ p_X p_Y q_X q_Y forecast)]⟩
  | _ => Option.none
noncomputable def D27 : Con := ext Tryz.prog D26 14 [.sl 0, .int .i64 0, .int .i64 0, .agg [.int .i64 0, .int .i64 0], .agg [.int .i64 0, .int .i64 0]] [⟨0, 0, false, .row 50 [.int .i64, .int .i64, .int .i64, .int .i64, .int .i64, .int .i64] []⟩] drift_Allows_eff
theorem D27_ok : ConOk Tryz.prog D27 := conOk_ext noSeq_ok D26_ok (n := 9) rfl rfl fun us x h => by
  unfold drift_Allows_eff at h
  split at h
  · cases h; exact ⟨some (drift_Allows_pre _ _ _ _ _ _ _), drift_Allows_col _ _ _ _ _ _ _, fun h => h⟩
  · cases h
theorem drift_Move_col (from_ until_ : Int) (list forecast : List (List Int)) : collapse Tryz.prog 2 (execFn Tryz.prog D27 noSeq 9 11 [.sl 0, .sl 1, .int .i64 from_, .int .i64 until_] ⟨[⟨0, 2, false, .row 29 [.int .i64, .int .i64, .int .i64, .int .i64] list⟩, ⟨1, 2, false, .row 50 [.int .i64, .int .i64, .int .i64, .int .i64, .int .i64, .int .i64] forecast⟩], 2⟩) = some ⟨some (drift_Move_pre from_ until_ list forecast), [], 1, [⟨2, 2, true, .row 29 [.int .i64, .int .i64, .int .i64, .int .i64] (drift_Move_0 from_ until_ list forecast)⟩], .tup [.sl 2, .int .i64 (drift_Move_1 from_ until_ list forecast)]⟩ := by kernel_rfl
noncomputable def drift_Move_eff : List U → Option Eff
  | [.i from_, .i until_, .r list, .r forecast] => some ⟨some (drift_Move_pre from_ until_ list forecast), [], 1, [⟨2, 2, true, .row 29 [.int .i64, .int .i64, .int .i64, .int .i64] (drift_Move_0 from_ until_ list forecast)⟩], .tup [.sl 2, .int .i64 (drift_Move_1 from_ until_ list forecast)]⟩
  | _ => Option.none
noncomputable def D28 : Con := ext Tryz.prog D27 11 [.sl 0, .sl 1, .int .i64 0, .int .i64 0] [⟨0, 0, false, .row 29 [.int .i64, .int .i64, .int .i64, .int .i64] []⟩, ⟨1, 0, false, .row 50 [.int .i64, .int .i64, .int .i64, .int .i64, .int .i64, .int .i64] []⟩] drift_Move_eff
theorem D28_ok : ConOk Tryz.prog D28 := conOk_ext noSeq_ok D27_ok (n := 9) rfl rfl fun us x h => by
  unfold drift_Move_eff at h
  split at h
  · cases h; exact ⟨some (drift_Move_pre _ _ _ _), drift_Move_col _ _ _ _, fun h => h⟩
  · cases h
theorem drift_In_col (p_X p_Y : Int) (list : List (List Int)) : collapse Tryz.prog 1 (execFn Tryz.prog D28 noSeq 9 18 [.sl 0, .agg [.int .i64 p_X, .int .i64 p_Y]] ⟨[⟨0, 1, false, .row 29 [.int .i64, .int .i64, .int .i64, .int .i64] list⟩], 1⟩) = some ⟨some (drift_In_pre p_X p_Y list), [], 0, [], .tup [.bool (drift_In_0 p_X p_Y list), .int .i64 (drift_In_1 p_X p_Y list)]⟩ := by kernel_rfl
noncomputable def drift_In_eff : List U → Option Eff
  | [.i p_X, .i p_Y, .r list] => some ⟨some (drift_In_pre p_X p_Y list), [], 0, [], .tup [.bool (drift_In_0 p_X p_Y list), .int .i64 (drift_In_1 p_X p_Y list)]⟩
  | _ => Option.none
noncomputable def D29 : Con := ext Tryz.prog D28 18 [.sl 0, .agg [.int .i64 0, .int .i64 0]] [⟨0, 0, false, .row 29 [.int .i64, .int .i64, .int .i64, .int .i64] []⟩] drift_In_eff
theorem D29_ok : ConOk Tryz.prog D29 := conOk_ext noSeq_ok D28_ok (n := 9) rfl rfl fun us x h => by
  unfold drift_In_eff at h
  split at h
  · cases h; exact ⟨some (drift_In_pre _ _ _), drift_In_col _ _ _, fun h => h⟩
  · cases h
theorem drift_Cut_col (b_X_Lo b_X_Hi b_Y_Lo b_Y_Hi : Int) (list : List (List Int)) : collapse Tryz.prog 1 (execFn Tryz.prog D29 noSeq 9 16 [.sl 0, .agg [.int .i64 b_X_Lo, .int .i64 b_X_Hi, .int .i64 b_Y_Lo, .int .i64 b_Y_Hi]] ⟨[⟨0, 1, false, .row 29 [.int .i64, .int .i64, .int .i64, .int .i64] list⟩], 1⟩) = some ⟨some (drift_Cut_pre b_X_Lo b_X_Hi b_Y_Lo b_Y_Hi list), [], 1, [⟨1, 1, true, .row 29 [.int .i64, .int .i64, .int .i64, .int .i64] (drift_Cut_0 b_X_Lo b_X_Hi b_Y_Lo b_Y_Hi list)⟩], .tup [.sl 1, .int .i64 (drift_Cut_1 b_X_Lo b_X_Hi b_Y_Lo b_Y_Hi list)]⟩ := by kernel_rfl
noncomputable def drift_Cut_eff : List U → Option Eff
  | [.i b_X_Lo, .i b_X_Hi, .i b_Y_Lo, .i b_Y_Hi, .r list] => some ⟨some (drift_Cut_pre b_X_Lo b_X_Hi b_Y_Lo b_Y_Hi list), [], 1, [⟨1, 1, true, .row 29 [.int .i64, .int .i64, .int .i64, .int .i64] (drift_Cut_0 b_X_Lo b_X_Hi b_Y_Lo b_Y_Hi list)⟩], .tup [.sl 1, .int .i64 (drift_Cut_1 b_X_Lo b_X_Hi b_Y_Lo b_Y_Hi list)]⟩
  | _ => Option.none
noncomputable def D30 : Con := ext Tryz.prog D29 16 [.sl 0, .agg [.int .i64 0, .int .i64 0, .int .i64 0, .int .i64 0]] [⟨0, 0, false, .row 29 [.int .i64, .int .i64, .int .i64, .int .i64] []⟩] drift_Cut_eff
theorem D30_ok : ConOk Tryz.prog D30 := conOk_ext noSeq_ok D29_ok (n := 9) rfl rfl fun us x h => by
  unfold drift_Cut_eff at h
  split at h
  · cases h; exact ⟨some (drift_Cut_pre _ _ _ _ _), drift_Cut_col _ _ _ _ _, fun h => h⟩
  · cases h
theorem drift_joins_col (a_X_Lo a_X_Hi a_Y_Lo a_Y_Hi b_X_Lo b_X_Hi b_Y_Lo b_Y_Hi : Int) : collapse Tryz.prog 0 (execFn Tryz.prog D30 noSeq 9 47 [.agg [.int .i64 a_X_Lo, .int .i64 a_X_Hi, .int .i64 a_Y_Lo, .int .i64 a_Y_Hi], .agg [.int .i64 b_X_Lo, .int .i64 b_X_Hi, .int .i64 b_Y_Lo, .int .i64 b_Y_Hi]] ⟨[], 0⟩) = some ⟨none, [], 0, [], .bool (drift_joins_0 a_X_Lo a_X_Hi a_Y_Lo a_Y_Hi b_X_Lo b_X_Hi b_Y_Lo b_Y_Hi)⟩ := by kernel_rfl
noncomputable def drift_joins_eff : List U → Option Eff
  | [.i a_X_Lo, .i a_X_Hi, .i a_Y_Lo, .i a_Y_Hi, .i b_X_Lo, .i b_X_Hi, .i b_Y_Lo, .i b_Y_Hi] => some ⟨none, [], 0, [], .bool (drift_joins_0 a_X_Lo a_X_Hi a_Y_Lo a_Y_Hi b_X_Lo b_X_Hi b_Y_Lo b_Y_Hi)⟩
  | _ => Option.none
noncomputable def D32 : Con := ext Tryz.prog D30 47 [.agg [.int .i64 0, .int .i64 0, .int .i64 0, .int .i64 0], .agg [.int .i64 0, .int .i64 0, .int .i64 0, .int .i64 0]] [] drift_joins_eff
theorem D32_ok : ConOk Tryz.prog D32 := conOk_ext noSeq_ok D30_ok (n := 9) rfl rfl fun us x h => by
  unfold drift_joins_eff at h
  split at h
  · cases h; exact ⟨none, drift_joins_col _ _ _ _ _ _ _ _, fun _ => trivial⟩
  · cases h
end Go.Proofs.YtddfnokjnafdpaaGreat
