/- Written by program (wip/sygen.py): the contracts of the Go functions. -/
import Derived.Test.YtddfnokjnafdpaaRows
import Derived.Test.YtddfnokjnafdpaaSyH
import Derived.Test.YtddfnokjnafdpaaDrift1D
set_option maxRecDepth 100000
set_option linter.unusedVariables false
namespace Go.Proofs.Ytddfnokjnafdpaa
open Go Go.Sy
noncomputable def D0 : Con := Con.none
theorem D0_ok : ConOk Try.prog D0 := conOk_none _
theorem span_Valid_col (s_Lo s_Hi : Int) : collapse Try.prog 0 (execFn Try.prog D0 9 57 [.agg [.int .i64 s_Lo, .int .i64 s_Hi]] ⟨[], 0⟩) = some ⟨none, [], 0, [], .bool (span_Valid_0 s_Lo s_Hi)⟩ := by kernel_rfl
noncomputable def span_Valid_eff : List U → Option Eff
  | [.i s_Lo, .i s_Hi] => some ⟨none, [], 0, [], .bool (span_Valid_0 s_Lo s_Hi)⟩
  | _ => Option.none
noncomputable def D1 : Con := ext Try.prog D0 57 [.agg [.int .i64 0, .int .i64 0]] [] span_Valid_eff
theorem D1_ok : ConOk Try.prog D1 := conOk_ext D0_ok (n := 9) rfl rfl fun us x h => by
  unfold span_Valid_eff at h
  split at h
  · cases h; exact ⟨none, span_Valid_col _ _, fun _ => trivial⟩
  · cases h
theorem span_ends_int_col (a b : Int) : collapse Try.prog 0 (execFn Try.prog D1 9 77 [.int .i64 a, .int .i64 b] ⟨[], 0⟩) = some ⟨none, [], 0, [], .tup [.int .i64 (span_ends_int_0 a b), .int .i64 (span_ends_int_1 a b)]⟩ := by kernel_rfl
noncomputable def span_ends_int_eff : List U → Option Eff
  | [.i a, .i b] => some ⟨none, [], 0, [], .tup [.int .i64 (span_ends_int_0 a b), .int .i64 (span_ends_int_1 a b)]⟩
  | _ => Option.none
noncomputable def D2 : Con := ext Try.prog D1 77 [.int .i64 0, .int .i64 0] [] span_ends_int_eff
theorem D2_ok : ConOk Try.prog D2 := conOk_ext D1_ok (n := 9) rfl rfl fun us x h => by
  unfold span_ends_int_eff at h
  split at h
  · cases h; exact ⟨none, span_ends_int_col _ _, fun _ => trivial⟩
  · cases h
theorem span_Meet_col (s_Lo s_Hi t_Lo t_Hi : Int) : collapse Try.prog 0 (execFn Try.prog D2 9 34 [.agg [.int .i64 s_Lo, .int .i64 s_Hi], .agg [.int .i64 t_Lo, .int .i64 t_Hi]] ⟨[], 0⟩) = some ⟨none, [], 0, [], .tup [.agg [.int .i64 (span_Meet_0 s_Lo s_Hi t_Lo t_Hi), .int .i64 (span_Meet_1 s_Lo s_Hi t_Lo t_Hi)], .int .i64 (span_Meet_2 s_Lo s_Hi t_Lo t_Hi)]⟩ := by kernel_rfl
noncomputable def span_Meet_eff : List U → Option Eff
  | [.i s_Lo, .i s_Hi, .i t_Lo, .i t_Hi] => some ⟨none, [], 0, [], .tup [.agg [.int .i64 (span_Meet_0 s_Lo s_Hi t_Lo t_Hi), .int .i64 (span_Meet_1 s_Lo s_Hi t_Lo t_Hi)], .int .i64 (span_Meet_2 s_Lo s_Hi t_Lo t_Hi)]⟩
  | _ => Option.none
noncomputable def D3 : Con := ext Try.prog D2 34 [.agg [.int .i64 0, .int .i64 0], .agg [.int .i64 0, .int .i64 0]] [] span_Meet_eff
theorem D3_ok : ConOk Try.prog D3 := conOk_ext D2_ok (n := 9) rfl rfl fun us x h => by
  unfold span_Meet_eff at h
  split at h
  · cases h; exact ⟨none, span_Meet_col _ _ _ _, fun _ => trivial⟩
  · cases h
theorem span_Join_col (s_Lo s_Hi t_Lo t_Hi : Int) : collapse Try.prog 0 (execFn Try.prog D3 9 61 [.agg [.int .i64 s_Lo, .int .i64 s_Hi], .agg [.int .i64 t_Lo, .int .i64 t_Hi]] ⟨[], 0⟩) = some ⟨none, [], 0, [], .tup [.agg [.int .i64 (span_Join_0 s_Lo s_Hi t_Lo t_Hi), .int .i64 (span_Join_1 s_Lo s_Hi t_Lo t_Hi)], .int .i64 (span_Join_2 s_Lo s_Hi t_Lo t_Hi)]⟩ := by kernel_rfl
noncomputable def span_Join_eff : List U → Option Eff
  | [.i s_Lo, .i s_Hi, .i t_Lo, .i t_Hi] => some ⟨none, [], 0, [], .tup [.agg [.int .i64 (span_Join_0 s_Lo s_Hi t_Lo t_Hi), .int .i64 (span_Join_1 s_Lo s_Hi t_Lo t_Hi)], .int .i64 (span_Join_2 s_Lo s_Hi t_Lo t_Hi)]⟩
  | _ => Option.none
noncomputable def D4 : Con := ext Try.prog D3 61 [.agg [.int .i64 0, .int .i64 0], .agg [.int .i64 0, .int .i64 0]] [] span_Join_eff
theorem D4_ok : ConOk Try.prog D4 := conOk_ext D3_ok (n := 9) rfl rfl fun us x h => by
  unfold span_Join_eff at h
  split at h
  · cases h; exact ⟨none, span_Join_col _ _ _ _, fun _ => trivial⟩
  · cases h
theorem span_Within_col (s_Lo s_Hi t_Lo t_Hi : Int) : collapse Try.prog 0 (execFn Try.prog D4 9 52 [.agg [.int .i64 s_Lo, .int .i64 s_Hi], .agg [.int .i64 t_Lo, .int .i64 t_Hi]] ⟨[], 0⟩) = some ⟨none, [], 0, [], .tup [.bool (span_Within_0 s_Lo s_Hi t_Lo t_Hi), .int .i64 (span_Within_1 s_Lo s_Hi t_Lo t_Hi)]⟩ := by kernel_rfl
noncomputable def span_Within_eff : List U → Option Eff
  | [.i s_Lo, .i s_Hi, .i t_Lo, .i t_Hi] => some ⟨none, [], 0, [], .tup [.bool (span_Within_0 s_Lo s_Hi t_Lo t_Hi), .int .i64 (span_Within_1 s_Lo s_Hi t_Lo t_Hi)]⟩
  | _ => Option.none
noncomputable def D5 : Con := ext Try.prog D4 52 [.agg [.int .i64 0, .int .i64 0], .agg [.int .i64 0, .int .i64 0]] [] span_Within_eff
theorem D5_ok : ConOk Try.prog D5 := conOk_ext D4_ok (n := 9) rfl rfl fun us x h => by
  unfold span_Within_eff at h
  split at h
  · cases h; exact ⟨none, span_Within_col _ _ _ _, fun _ => trivial⟩
  · cases h
theorem span_ValidBox_col (b_X_Lo b_X_Hi b_Y_Lo b_Y_Hi : Int) : collapse Try.prog 0 (execFn Try.prog D5 9 28 [.agg [.int .i64 b_X_Lo, .int .i64 b_X_Hi, .int .i64 b_Y_Lo, .int .i64 b_Y_Hi]] ⟨[], 0⟩) = some ⟨none, [], 0, [], .bool (span_ValidBox_0 b_X_Lo b_X_Hi b_Y_Lo b_Y_Hi)⟩ := by kernel_rfl
noncomputable def span_ValidBox_eff : List U → Option Eff
  | [.i b_X_Lo, .i b_X_Hi, .i b_Y_Lo, .i b_Y_Hi] => some ⟨none, [], 0, [], .bool (span_ValidBox_0 b_X_Lo b_X_Hi b_Y_Lo b_Y_Hi)⟩
  | _ => Option.none
noncomputable def D6 : Con := ext Try.prog D5 28 [.agg [.int .i64 0, .int .i64 0, .int .i64 0, .int .i64 0]] [] span_ValidBox_eff
theorem D6_ok : ConOk Try.prog D6 := conOk_ext D5_ok (n := 9) rfl rfl fun us x h => by
  unfold span_ValidBox_eff at h
  split at h
  · cases h; exact ⟨none, span_ValidBox_col _ _ _ _, fun _ => trivial⟩
  · cases h
theorem span_InBox_col (p_X p_Y b_X_Lo b_X_Hi b_Y_Lo b_Y_Hi : Int) : collapse Try.prog 0 (execFn Try.prog D6 9 38 [.agg [.int .i64 p_X, .int .i64 p_Y], .agg [.int .i64 b_X_Lo, .int .i64 b_X_Hi, .int .i64 b_Y_Lo, .int .i64 b_Y_Hi]] ⟨[], 0⟩) = some ⟨none, [], 0, [], .tup [.bool (span_InBox_0 p_X p_Y b_X_Lo b_X_Hi b_Y_Lo b_Y_Hi), .int .i64 (span_InBox_1 p_X p_Y b_X_Lo b_X_Hi b_Y_Lo b_Y_Hi)]⟩ := by kernel_rfl
noncomputable def span_InBox_eff : List U → Option Eff
  | [.i p_X, .i p_Y, .i b_X_Lo, .i b_X_Hi, .i b_Y_Lo, .i b_Y_Hi] => some ⟨none, [], 0, [], .tup [.bool (span_InBox_0 p_X p_Y b_X_Lo b_X_Hi b_Y_Lo b_Y_Hi), .int .i64 (span_InBox_1 p_X p_Y b_X_Lo b_X_Hi b_Y_Lo b_Y_Hi)]⟩
  | _ => Option.none
noncomputable def D7 : Con := ext Try.prog D6 38 [.agg [.int .i64 0, .int .i64 0], .agg [.int .i64 0, .int .i64 0, .int .i64 0, .int .i64 0]] [] span_InBox_eff
theorem D7_ok : ConOk Try.prog D7 := conOk_ext D6_ok (n := 9) rfl rfl fun us x h => by
  unfold span_InBox_eff at h
  split at h
  · cases h; exact ⟨none, span_InBox_col _ _ _ _ _ _, fun _ => trivial⟩
  · cases h
theorem span_MeetBox_col (a_X_Lo a_X_Hi a_Y_Lo a_Y_Hi b_X_Lo b_X_Hi b_Y_Lo b_Y_Hi : Int) : collapse Try.prog 0 (execFn Try.prog D7 9 49 [.agg [.int .i64 a_X_Lo, .int .i64 a_X_Hi, .int .i64 a_Y_Lo, .int .i64 a_Y_Hi], .agg [.int .i64 b_X_Lo, .int .i64 b_X_Hi, .int .i64 b_Y_Lo, .int .i64 b_Y_Hi]] ⟨[], 0⟩) = some ⟨none, [], 0, [], .tup [.agg [.int .i64 (span_MeetBox_0 a_X_Lo a_X_Hi a_Y_Lo a_Y_Hi b_X_Lo b_X_Hi b_Y_Lo b_Y_Hi), .int .i64 (span_MeetBox_1 a_X_Lo a_X_Hi a_Y_Lo a_Y_Hi b_X_Lo b_X_Hi b_Y_Lo b_Y_Hi), .int .i64 (span_MeetBox_2 a_X_Lo a_X_Hi a_Y_Lo a_Y_Hi b_X_Lo b_X_Hi b_Y_Lo b_Y_Hi), .int .i64 (span_MeetBox_3 a_X_Lo a_X_Hi a_Y_Lo a_Y_Hi b_X_Lo b_X_Hi b_Y_Lo b_Y_Hi)], .int .i64 (span_MeetBox_4 a_X_Lo a_X_Hi a_Y_Lo a_Y_Hi b_X_Lo b_X_Hi b_Y_Lo b_Y_Hi)]⟩ := by kernel_rfl
noncomputable def span_MeetBox_eff : List U → Option Eff
  | [.i a_X_Lo, .i a_X_Hi, .i a_Y_Lo, .i a_Y_Hi, .i b_X_Lo, .i b_X_Hi, .i b_Y_Lo, .i b_Y_Hi] => some ⟨none, [], 0, [], .tup [.agg [.int .i64 (span_MeetBox_0 a_X_Lo a_X_Hi a_Y_Lo a_Y_Hi b_X_Lo b_X_Hi b_Y_Lo b_Y_Hi), .int .i64 (span_MeetBox_1 a_X_Lo a_X_Hi a_Y_Lo a_Y_Hi b_X_Lo b_X_Hi b_Y_Lo b_Y_Hi), .int .i64 (span_MeetBox_2 a_X_Lo a_X_Hi a_Y_Lo a_Y_Hi b_X_Lo b_X_Hi b_Y_Lo b_Y_Hi), .int .i64 (span_MeetBox_3 a_X_Lo a_X_Hi a_Y_Lo a_Y_Hi b_X_Lo b_X_Hi b_Y_Lo b_Y_Hi)], .int .i64 (span_MeetBox_4 a_X_Lo a_X_Hi a_Y_Lo a_Y_Hi b_X_Lo b_X_Hi b_Y_Lo b_Y_Hi)]⟩
  | _ => Option.none
noncomputable def D8 : Con := ext Try.prog D7 49 [.agg [.int .i64 0, .int .i64 0, .int .i64 0, .int .i64 0], .agg [.int .i64 0, .int .i64 0, .int .i64 0, .int .i64 0]] [] span_MeetBox_eff
theorem D8_ok : ConOk Try.prog D8 := conOk_ext D7_ok (n := 9) rfl rfl fun us x h => by
  unfold span_MeetBox_eff at h
  split at h
  · cases h; exact ⟨none, span_MeetBox_col _ _ _ _ _ _ _ _, fun _ => trivial⟩
  · cases h
theorem span_JoinBox_col (a_X_Lo a_X_Hi a_Y_Lo a_Y_Hi b_X_Lo b_X_Hi b_Y_Lo b_Y_Hi : Int) : collapse Try.prog 0 (execFn Try.prog D8 9 41 [.agg [.int .i64 a_X_Lo, .int .i64 a_X_Hi, .int .i64 a_Y_Lo, .int .i64 a_Y_Hi], .agg [.int .i64 b_X_Lo, .int .i64 b_X_Hi, .int .i64 b_Y_Lo, .int .i64 b_Y_Hi]] ⟨[], 0⟩) = some ⟨none, [], 0, [], .tup [.agg [.int .i64 (span_JoinBox_0 a_X_Lo a_X_Hi a_Y_Lo a_Y_Hi b_X_Lo b_X_Hi b_Y_Lo b_Y_Hi), .int .i64 (span_JoinBox_1 a_X_Lo a_X_Hi a_Y_Lo a_Y_Hi b_X_Lo b_X_Hi b_Y_Lo b_Y_Hi), .int .i64 (span_JoinBox_2 a_X_Lo a_X_Hi a_Y_Lo a_Y_Hi b_X_Lo b_X_Hi b_Y_Lo b_Y_Hi), .int .i64 (span_JoinBox_3 a_X_Lo a_X_Hi a_Y_Lo a_Y_Hi b_X_Lo b_X_Hi b_Y_Lo b_Y_Hi)], .int .i64 (span_JoinBox_4 a_X_Lo a_X_Hi a_Y_Lo a_Y_Hi b_X_Lo b_X_Hi b_Y_Lo b_Y_Hi)]⟩ := by kernel_rfl
noncomputable def span_JoinBox_eff : List U → Option Eff
  | [.i a_X_Lo, .i a_X_Hi, .i a_Y_Lo, .i a_Y_Hi, .i b_X_Lo, .i b_X_Hi, .i b_Y_Lo, .i b_Y_Hi] => some ⟨none, [], 0, [], .tup [.agg [.int .i64 (span_JoinBox_0 a_X_Lo a_X_Hi a_Y_Lo a_Y_Hi b_X_Lo b_X_Hi b_Y_Lo b_Y_Hi), .int .i64 (span_JoinBox_1 a_X_Lo a_X_Hi a_Y_Lo a_Y_Hi b_X_Lo b_X_Hi b_Y_Lo b_Y_Hi), .int .i64 (span_JoinBox_2 a_X_Lo a_X_Hi a_Y_Lo a_Y_Hi b_X_Lo b_X_Hi b_Y_Lo b_Y_Hi), .int .i64 (span_JoinBox_3 a_X_Lo a_X_Hi a_Y_Lo a_Y_Hi b_X_Lo b_X_Hi b_Y_Lo b_Y_Hi)], .int .i64 (span_JoinBox_4 a_X_Lo a_X_Hi a_Y_Lo a_Y_Hi b_X_Lo b_X_Hi b_Y_Lo b_Y_Hi)]⟩
  | _ => Option.none
noncomputable def D9 : Con := ext Try.prog D8 41 [.agg [.int .i64 0, .int .i64 0, .int .i64 0, .int .i64 0], .agg [.int .i64 0, .int .i64 0, .int .i64 0, .int .i64 0]] [] span_JoinBox_eff
theorem D9_ok : ConOk Try.prog D9 := conOk_ext D8_ok (n := 9) rfl rfl fun us x h => by
  unfold span_JoinBox_eff at h
  split at h
  · cases h; exact ⟨none, span_JoinBox_col _ _ _ _ _ _ _ _, fun _ => trivial⟩
  · cases h
theorem ref02_coords_col (s_Lo s_Hi : Int) : collapse Try.prog 0 (execFn Try.prog D9 9 96 [.agg [.int .i64 s_Lo, .int .i64 s_Hi]] ⟨[], 0⟩) = some ⟨none, [], 0, [], .bool (ref02_coords_0 s_Lo s_Hi)⟩ := by kernel_rfl
noncomputable def ref02_coords_eff : List U → Option Eff
  | [.i s_Lo, .i s_Hi] => some ⟨none, [], 0, [], .bool (ref02_coords_0 s_Lo s_Hi)⟩
  | _ => Option.none
noncomputable def D10 : Con := ext Try.prog D9 96 [.agg [.int .i64 0, .int .i64 0]] [] ref02_coords_eff
theorem D10_ok : ConOk Try.prog D10 := conOk_ext D9_ok (n := 9) rfl rfl fun us x h => by
  unfold ref02_coords_eff at h
  split at h
  · cases h; exact ⟨none, ref02_coords_col _ _, fun _ => trivial⟩
  · cases h
theorem ref02_ValidBox_col (b_X_Lo b_X_Hi b_Y_Lo b_Y_Hi : Int) : collapse Try.prog 0 (execFn Try.prog D10 9 86 [.agg [.int .i64 b_X_Lo, .int .i64 b_X_Hi, .int .i64 b_Y_Lo, .int .i64 b_Y_Hi]] ⟨[], 0⟩) = some ⟨none, [], 0, [], .bool (ref02_ValidBox_0 b_X_Lo b_X_Hi b_Y_Lo b_Y_Hi)⟩ := by kernel_rfl
noncomputable def ref02_ValidBox_eff : List U → Option Eff
  | [.i b_X_Lo, .i b_X_Hi, .i b_Y_Lo, .i b_Y_Hi] => some ⟨none, [], 0, [], .bool (ref02_ValidBox_0 b_X_Lo b_X_Hi b_Y_Lo b_Y_Hi)⟩
  | _ => Option.none
noncomputable def D11 : Con := ext Try.prog D10 86 [.agg [.int .i64 0, .int .i64 0, .int .i64 0, .int .i64 0]] [] ref02_ValidBox_eff
theorem D11_ok : ConOk Try.prog D11 := conOk_ext D10_ok (n := 9) rfl rfl fun us x h => by
  unfold ref02_ValidBox_eff at h
  split at h
  · cases h; exact ⟨none, ref02_ValidBox_col _ _ _ _, fun _ => trivial⟩
  · cases h
theorem ref02_Valid_col (s_Lo s_Hi : Int) : collapse Try.prog 0 (execFn Try.prog D11 9 97 [.agg [.int .i64 s_Lo, .int .i64 s_Hi]] ⟨[], 0⟩) = some ⟨none, [], 0, [], .bool (ref02_Valid_0 s_Lo s_Hi)⟩ := by kernel_rfl
noncomputable def ref02_Valid_eff : List U → Option Eff
  | [.i s_Lo, .i s_Hi] => some ⟨none, [], 0, [], .bool (ref02_Valid_0 s_Lo s_Hi)⟩
  | _ => Option.none
noncomputable def D12 : Con := ext Try.prog D11 97 [.agg [.int .i64 0, .int .i64 0]] [] ref02_Valid_eff
theorem D12_ok : ConOk Try.prog D12 := conOk_ext D11_ok (n := 9) rfl rfl fun us x h => by
  unfold ref02_Valid_eff at h
  split at h
  · cases h; exact ⟨none, ref02_Valid_col _ _, fun _ => trivial⟩
  · cases h
theorem ref02_Both_col (s_Lo s_Hi t_Lo t_Hi : Int) : collapse Try.prog 0 (execFn Try.prog D12 9 87 [.agg [.int .i64 s_Lo, .int .i64 s_Hi], .agg [.int .i64 t_Lo, .int .i64 t_Hi]] ⟨[], 0⟩) = some ⟨none, [], 0, [], .bool (ref02_Both_0 s_Lo s_Hi t_Lo t_Hi)⟩ := by kernel_rfl
noncomputable def ref02_Both_eff : List U → Option Eff
  | [.i s_Lo, .i s_Hi, .i t_Lo, .i t_Hi] => some ⟨none, [], 0, [], .bool (ref02_Both_0 s_Lo s_Hi t_Lo t_Hi)⟩
  | _ => Option.none
noncomputable def D13 : Con := ext Try.prog D12 87 [.agg [.int .i64 0, .int .i64 0], .agg [.int .i64 0, .int .i64 0]] [] ref02_Both_eff
theorem D13_ok : ConOk Try.prog D13 := conOk_ext D12_ok (n := 9) rfl rfl fun us x h => by
  unfold ref02_Both_eff at h
  split at h
  · cases h; exact ⟨none, ref02_Both_col _ _ _ _, fun _ => trivial⟩
  · cases h
theorem ref02_Within_col (s_Lo s_Hi t_Lo t_Hi : Int) : collapse Try.prog 0 (execFn Try.prog D13 9 65 [.agg [.int .i64 s_Lo, .int .i64 s_Hi], .agg [.int .i64 t_Lo, .int .i64 t_Hi]] ⟨[], 0⟩) = some ⟨none, [], 0, [], .tup [.bool (ref02_Within_0 s_Lo s_Hi t_Lo t_Hi), .int .i64 (ref02_Within_1 s_Lo s_Hi t_Lo t_Hi)]⟩ := by kernel_rfl
noncomputable def ref02_Within_eff : List U → Option Eff
  | [.i s_Lo, .i s_Hi, .i t_Lo, .i t_Hi] => some ⟨none, [], 0, [], .tup [.bool (ref02_Within_0 s_Lo s_Hi t_Lo t_Hi), .int .i64 (ref02_Within_1 s_Lo s_Hi t_Lo t_Hi)]⟩
  | _ => Option.none
noncomputable def D14 : Con := ext Try.prog D13 65 [.agg [.int .i64 0, .int .i64 0], .agg [.int .i64 0, .int .i64 0]] [] ref02_Within_eff
theorem D14_ok : ConOk Try.prog D14 := conOk_ext D13_ok (n := 9) rfl rfl fun us x h => by
  unfold ref02_Within_eff at h
  split at h
  · cases h; exact ⟨none, ref02_Within_col _ _ _ _, fun _ => trivial⟩
  · cases h
theorem ref02_BothBoxes_col (a_X_Lo a_X_Hi a_Y_Lo a_Y_Hi b_X_Lo b_X_Hi b_Y_Lo b_Y_Hi : Int) : collapse Try.prog 0 (execFn Try.prog D14 9 64 [.agg [.int .i64 a_X_Lo, .int .i64 a_X_Hi, .int .i64 a_Y_Lo, .int .i64 a_Y_Hi], .agg [.int .i64 b_X_Lo, .int .i64 b_X_Hi, .int .i64 b_Y_Lo, .int .i64 b_Y_Hi]] ⟨[], 0⟩) = some ⟨none, [], 0, [], .bool (ref02_BothBoxes_0 a_X_Lo a_X_Hi a_Y_Lo a_Y_Hi b_X_Lo b_X_Hi b_Y_Lo b_Y_Hi)⟩ := by kernel_rfl
noncomputable def ref02_BothBoxes_eff : List U → Option Eff
  | [.i a_X_Lo, .i a_X_Hi, .i a_Y_Lo, .i a_Y_Hi, .i b_X_Lo, .i b_X_Hi, .i b_Y_Lo, .i b_Y_Hi] => some ⟨none, [], 0, [], .bool (ref02_BothBoxes_0 a_X_Lo a_X_Hi a_Y_Lo a_Y_Hi b_X_Lo b_X_Hi b_Y_Lo b_Y_Hi)⟩
  | _ => Option.none
noncomputable def D15 : Con := ext Try.prog D14 64 [.agg [.int .i64 0, .int .i64 0, .int .i64 0, .int .i64 0], .agg [.int .i64 0, .int .i64 0, .int .i64 0, .int .i64 0]] [] ref02_BothBoxes_eff
theorem D15_ok : ConOk Try.prog D15 := conOk_ext D14_ok (n := 9) rfl rfl fun us x h => by
  unfold ref02_BothBoxes_eff at h
  split at h
  · cases h; exact ⟨none, ref02_BothBoxes_col _ _ _ _ _ _ _ _, fun _ => trivial⟩
  · cases h
theorem ref02_WithinBox_col (a_X_Lo a_X_Hi a_Y_Lo a_Y_Hi b_X_Lo b_X_Hi b_Y_Lo b_Y_Hi : Int) : collapse Try.prog 0 (execFn Try.prog D15 9 47 [.agg [.int .i64 a_X_Lo, .int .i64 a_X_Hi, .int .i64 a_Y_Lo, .int .i64 a_Y_Hi], .agg [.int .i64 b_X_Lo, .int .i64 b_X_Hi, .int .i64 b_Y_Lo, .int .i64 b_Y_Hi]] ⟨[], 0⟩) = some ⟨none, [], 0, [], .tup [.bool (ref02_WithinBox_0 a_X_Lo a_X_Hi a_Y_Lo a_Y_Hi b_X_Lo b_X_Hi b_Y_Lo b_Y_Hi), .int .i64 (ref02_WithinBox_1 a_X_Lo a_X_Hi a_Y_Lo a_Y_Hi b_X_Lo b_X_Hi b_Y_Lo b_Y_Hi)]⟩ := by kernel_rfl
noncomputable def ref02_WithinBox_eff : List U → Option Eff
  | [.i a_X_Lo, .i a_X_Hi, .i a_Y_Lo, .i a_Y_Hi, .i b_X_Lo, .i b_X_Hi, .i b_Y_Lo, .i b_Y_Hi] => some ⟨none, [], 0, [], .tup [.bool (ref02_WithinBox_0 a_X_Lo a_X_Hi a_Y_Lo a_Y_Hi b_X_Lo b_X_Hi b_Y_Lo b_Y_Hi), .int .i64 (ref02_WithinBox_1 a_X_Lo a_X_Hi a_Y_Lo a_Y_Hi b_X_Lo b_X_Hi b_Y_Lo b_Y_Hi)]⟩
  | _ => Option.none
noncomputable def D16 : Con := ext Try.prog D15 47 [.agg [.int .i64 0, .int .i64 0, .int .i64 0, .int .i64 0], .agg [.int .i64 0, .int .i64 0, .int .i64 0, .int .i64 0]] [] ref02_WithinBox_eff
theorem D16_ok : ConOk Try.prog D16 := conOk_ext D15_ok (n := 9) rfl rfl fun us x h => by
  unfold ref02_WithinBox_eff at h
  split at h
  · cases h; exact ⟨none, ref02_WithinBox_col _ _ _ _ _ _ _ _, fun _ => trivial⟩
  · cases h
theorem law23_of_col (lo hi : Int) : collapse Try.prog 0 (execFn Try.prog D16 9 16 [.int .i64 lo, .int .i64 hi] ⟨[], 0⟩) = some ⟨none, [], 0, [], .agg [.int .i64 (law23_of_0 lo hi), .int .i64 (law23_of_1 lo hi)]⟩ := by kernel_rfl
noncomputable def law23_of_eff : List U → Option Eff
  | [.i lo, .i hi] => some ⟨none, [], 0, [], .agg [.int .i64 (law23_of_0 lo hi), .int .i64 (law23_of_1 lo hi)]⟩
  | _ => Option.none
noncomputable def D17 : Con := ext Try.prog D16 16 [.int .i64 0, .int .i64 0] [] law23_of_eff
theorem D17_ok : ConOk Try.prog D17 := conOk_ext D16_ok (n := 9) rfl rfl fun us x h => by
  unfold law23_of_eff at h
  split at h
  · cases h; exact ⟨none, law23_of_col _ _, fun _ => trivial⟩
  · cases h
theorem law23_box_col (a b c d : Int) : collapse Try.prog 0 (execFn Try.prog D17 9 24 [.int .i64 a, .int .i64 b, .int .i64 c, .int .i64 d] ⟨[], 0⟩) = some ⟨none, [], 0, [], .agg [.int .i64 (law23_box_0 a b c d), .int .i64 (law23_box_1 a b c d), .int .i64 (law23_box_2 a b c d), .int .i64 (law23_box_3 a b c d)]⟩ := by kernel_rfl
noncomputable def law23_box_eff : List U → Option Eff
  | [.i a, .i b, .i c, .i d] => some ⟨none, [], 0, [], .agg [.int .i64 (law23_box_0 a b c d), .int .i64 (law23_box_1 a b c d), .int .i64 (law23_box_2 a b c d), .int .i64 (law23_box_3 a b c d)]⟩
  | _ => Option.none
noncomputable def D18 : Con := ext Try.prog D17 24 [.int .i64 0, .int .i64 0, .int .i64 0, .int .i64 0] [] law23_box_eff
theorem D18_ok : ConOk Try.prog D18 := conOk_ext D17_ok (n := 9) rfl rfl fun us x h => by
  unfold law23_box_eff at h
  split at h
  · cases h; exact ⟨none, law23_box_col _ _ _ _, fun _ => trivial⟩
  · cases h
theorem ref23_Flows_col (a b : List (List Int)) : collapse Try.prog 2 (execFn Try.prog D18 9 15 [.sl 0, .sl 1] ⟨[⟨0, 2, false, .row 56 [.int .i64, .int .i64, .int .i64, .int .i64, .int .i64, .int .i64] a⟩, ⟨1, 2, false, .row 56 [.int .i64, .int .i64, .int .i64, .int .i64, .int .i64, .int .i64] b⟩], 2⟩) = some ⟨some (ref23_Flows_pre a b), [], 0, [], .bool (ref23_Flows_0 a b)⟩ := by kernel_rfl
noncomputable def ref23_Flows_eff : List U → Option Eff
  | [.r a, .r b] => some ⟨some (ref23_Flows_pre a b), [], 0, [], .bool (ref23_Flows_0 a b)⟩
  | _ => Option.none
noncomputable def D19 : Con := ext Try.prog D18 15 [.sl 0, .sl 1] [⟨0, 0, false, .row 56 [.int .i64, .int .i64, .int .i64, .int .i64, .int .i64, .int .i64] []⟩, ⟨1, 0, false, .row 56 [.int .i64, .int .i64, .int .i64, .int .i64, .int .i64, .int .i64] []⟩] ref23_Flows_eff
theorem D19_ok : ConOk Try.prog D19 := conOk_ext D18_ok (n := 9) rfl rfl fun us x h => by
  unfold ref23_Flows_eff at h
  split at h
  · cases h; exact ⟨some (ref23_Flows_pre _ _), ref23_Flows_col _ _, fun h => h⟩
  · cases h
theorem ref23_Same_col (a b : List (List Int)) : collapse Try.prog 2 (execFn Try.prog D19 9 18 [.sl 0, .sl 1] ⟨[⟨0, 2, false, .row 42 [.int .i64, .int .i64, .int .i64, .int .i64] a⟩, ⟨1, 2, false, .row 42 [.int .i64, .int .i64, .int .i64, .int .i64] b⟩], 2⟩) = some ⟨some (ref23_Same_pre a b), [], 0, [], .bool (ref23_Same_0 a b)⟩ := by kernel_rfl
noncomputable def ref23_Same_eff : List U → Option Eff
  | [.r a, .r b] => some ⟨some (ref23_Same_pre a b), [], 0, [], .bool (ref23_Same_0 a b)⟩
  | _ => Option.none
noncomputable def D20 : Con := ext Try.prog D19 18 [.sl 0, .sl 1] [⟨0, 0, false, .row 42 [.int .i64, .int .i64, .int .i64, .int .i64] []⟩, ⟨1, 0, false, .row 42 [.int .i64, .int .i64, .int .i64, .int .i64] []⟩] ref23_Same_eff
theorem D20_ok : ConOk Try.prog D20 := conOk_ext D19_ok (n := 9) rfl rfl fun us x h => by
  unfold ref23_Same_eff at h
  split at h
  · cases h; exact ⟨some (ref23_Same_pre _ _), ref23_Same_col _ _, fun h => h⟩
  · cases h
theorem ref23_meets_col (s_Lo s_Hi t_Lo t_Hi : Int) : collapse Try.prog 0 (execFn Try.prog D20 9 48 [.agg [.int .i64 s_Lo, .int .i64 s_Hi], .agg [.int .i64 t_Lo, .int .i64 t_Hi]] ⟨[], 0⟩) = some ⟨none, [], 0, [], .bool (ref23_meets_0 s_Lo s_Hi t_Lo t_Hi)⟩ := by kernel_rfl
noncomputable def ref23_meets_eff : List U → Option Eff
  | [.i s_Lo, .i s_Hi, .i t_Lo, .i t_Hi] => some ⟨none, [], 0, [], .bool (ref23_meets_0 s_Lo s_Hi t_Lo t_Hi)⟩
  | _ => Option.none
noncomputable def D21 : Con := ext Try.prog D20 48 [.agg [.int .i64 0, .int .i64 0], .agg [.int .i64 0, .int .i64 0]] [] ref23_meets_eff
theorem D21_ok : ConOk Try.prog D21 := conOk_ext D20_ok (n := 9) rfl rfl fun us x h => by
  unfold ref23_meets_eff at h
  split at h
  · cases h; exact ⟨none, ref23_meets_col _ _ _ _, fun _ => trivial⟩
  · cases h
theorem ref23_Joins_col (a_X_Lo a_X_Hi a_Y_Lo a_Y_Hi b_X_Lo b_X_Hi b_Y_Lo b_Y_Hi : Int) : collapse Try.prog 0 (execFn Try.prog D21 9 22 [.agg [.int .i64 a_X_Lo, .int .i64 a_X_Hi, .int .i64 a_Y_Lo, .int .i64 a_Y_Hi], .agg [.int .i64 b_X_Lo, .int .i64 b_X_Hi, .int .i64 b_Y_Lo, .int .i64 b_Y_Hi]] ⟨[], 0⟩) = some ⟨none, [], 0, [], .bool (ref23_Joins_0 a_X_Lo a_X_Hi a_Y_Lo a_Y_Hi b_X_Lo b_X_Hi b_Y_Lo b_Y_Hi)⟩ := by kernel_rfl
noncomputable def ref23_Joins_eff : List U → Option Eff
  | [.i a_X_Lo, .i a_X_Hi, .i a_Y_Lo, .i a_Y_Hi, .i b_X_Lo, .i b_X_Hi, .i b_Y_Lo, .i b_Y_Hi] => some ⟨none, [], 0, [], .bool (ref23_Joins_0 a_X_Lo a_X_Hi a_Y_Lo a_Y_Hi b_X_Lo b_X_Hi b_Y_Lo b_Y_Hi)⟩
  | _ => Option.none
noncomputable def D22 : Con := ext Try.prog D21 22 [.agg [.int .i64 0, .int .i64 0, .int .i64 0, .int .i64 0], .agg [.int .i64 0, .int .i64 0, .int .i64 0, .int .i64 0]] [] ref23_Joins_eff
theorem D22_ok : ConOk Try.prog D22 := conOk_ext D21_ok (n := 9) rfl rfl fun us x h => by
  unfold ref23_Joins_eff at h
  split at h
  · cases h; exact ⟨none, ref23_Joins_col _ _ _ _ _ _ _ _, fun _ => trivial⟩
  · cases h
theorem drift_Valid_col (list : List (List Int)) : collapse Try.prog 1 (execFn Try.prog D22 9 17 [.sl 0] ⟨[⟨0, 1, false, .row 42 [.int .i64, .int .i64, .int .i64, .int .i64] list⟩], 1⟩) = some ⟨some (drift_Valid_pre list), [], 0, [], .bool (drift_Valid_0 list)⟩ := by kernel_rfl
noncomputable def drift_Valid_eff : List U → Option Eff
  | [.r list] => some ⟨some (drift_Valid_pre list), [], 0, [], .bool (drift_Valid_0 list)⟩
  | _ => Option.none
noncomputable def D23 : Con := ext Try.prog D22 17 [.sl 0] [⟨0, 0, false, .row 42 [.int .i64, .int .i64, .int .i64, .int .i64] []⟩] drift_Valid_eff
theorem D23_ok : ConOk Try.prog D23 := conOk_ext D22_ok (n := 9) rfl rfl fun us x h => by
  unfold drift_Valid_eff at h
  split at h
  · cases h; exact ⟨some (drift_Valid_pre _), drift_Valid_col _, fun h => h⟩
  · cases h
theorem drift_Currents_col (list : List (List Int)) : collapse Try.prog 1 (execFn Try.prog D23 9 29 [.sl 0] ⟨[⟨0, 1, false, .row 56 [.int .i64, .int .i64, .int .i64, .int .i64, .int .i64, .int .i64] list⟩], 1⟩) = some ⟨some (drift_Currents_pre list), [], 0, [], .bool (drift_Currents_0 list)⟩ := by kernel_rfl
noncomputable def drift_Currents_eff : List U → Option Eff
  | [.r list] => some ⟨some (drift_Currents_pre list), [], 0, [], .bool (drift_Currents_0 list)⟩
  | _ => Option.none
noncomputable def D24 : Con := ext Try.prog D23 29 [.sl 0] [⟨0, 0, false, .row 56 [.int .i64, .int .i64, .int .i64, .int .i64, .int .i64, .int .i64] []⟩] drift_Currents_eff
theorem D24_ok : ConOk Try.prog D24 := conOk_ext D23_ok (n := 9) rfl rfl fun us x h => by
  unfold drift_Currents_eff at h
  split at h
  · cases h; exact ⟨some (drift_Currents_pre _), drift_Currents_col _, fun h => h⟩
  · cases h
theorem drift_Sum_col (from_ until_ : Int) (forecast : List (List Int)) : collapse Try.prog 1 (execFn Try.prog D24 9 19 [.sl 0, .int .i64 from_, .int .i64 until_] ⟨[⟨0, 1, false, .row 56 [.int .i64, .int .i64, .int .i64, .int .i64, .int .i64, .int .i64] forecast⟩], 1⟩) = some ⟨some (drift_Sum_pre from_ until_ forecast), [], 0, [], .tup [.agg [.int .i64 (drift_Sum_0 from_ until_ forecast), .int .i64 (drift_Sum_1 from_ until_ forecast)], .agg [.int .i64 (drift_Sum_2 from_ until_ forecast), .int .i64 (drift_Sum_3 from_ until_ forecast)], .int .i64 (drift_Sum_4 from_ until_ forecast)]⟩ := by kernel_rfl
noncomputable def drift_Sum_eff : List U → Option Eff
  | [.i from_, .i until_, .r forecast] => some ⟨some (drift_Sum_pre from_ until_ forecast), [], 0, [], .tup [.agg [.int .i64 (drift_Sum_0 from_ until_ forecast), .int .i64 (drift_Sum_1 from_ until_ forecast)], .agg [.int .i64 (drift_Sum_2 from_ until_ forecast), .int .i64 (drift_Sum_3 from_ until_ forecast)], .int .i64 (drift_Sum_4 from_ until_ forecast)]⟩
  | _ => Option.none
noncomputable def D25 : Con := ext Try.prog D24 19 [.sl 0, .int .i64 0, .int .i64 0] [⟨0, 0, false, .row 56 [.int .i64, .int .i64, .int .i64, .int .i64, .int .i64, .int .i64] []⟩] drift_Sum_eff
theorem D25_ok : ConOk Try.prog D25 := conOk_ext D24_ok (n := 9) rfl rfl fun us x h => by
  unfold drift_Sum_eff at h
  split at h
  · cases h; exact ⟨some (drift_Sum_pre _ _ _), drift_Sum_col _ _ _, fun h => h⟩
  · cases h
theorem drift_place_col (p_X p_Y : Int) : collapse Try.prog 0 (execFn Try.prog D25 9 25 [.agg [.int .i64 p_X, .int .i64 p_Y]] ⟨[], 0⟩) = some ⟨none, [], 0, [], .bool (drift_place_0 p_X p_Y)⟩ := by kernel_rfl
noncomputable def drift_place_eff : List U → Option Eff
  | [.i p_X, .i p_Y] => some ⟨none, [], 0, [], .bool (drift_place_0 p_X p_Y)⟩
  | _ => Option.none
noncomputable def D26 : Con := ext Try.prog D25 25 [.agg [.int .i64 0, .int .i64 0]] [] drift_place_eff
theorem D26_ok : ConOk Try.prog D26 := conOk_ext D25_ok (n := 9) rfl rfl fun us x h => by
  unfold drift_place_eff at h
  split at h
  · cases h; exact ⟨none, drift_place_col _ _, fun _ => trivial⟩
  · cases h
theorem drift_Allows_col (from_ until_ p_X p_Y q_X q_Y : Int) (forecast : List (List Int)) : collapse Try.prog 1 (execFn Try.prog D26 9 11 [.sl 0, .int .i64 from_, .int .i64 until_, .agg [.int .i64 p_X, .int .i64 p_Y], .agg [.int .i64 q_X, .int .i64 q_Y]] ⟨[⟨0, 1, false, .row 56 [.int .i64, .int .i64, .int .i64, .int .i64, .int .i64, .int .i64] forecast⟩], 1⟩) = some ⟨some (drift_Allows_pre from_ until_ p_X p_Y q_X q_Y forecast), [], 0, [], .tup [.bool (drift_Allows_0 from_ until_ p_X p_Y q_X q_Y forecast), .int .i64 (drift_Allows_1 from_ until_ p_X p_Y q_X q_Y forecast)]⟩ := by kernel_rfl
noncomputable def drift_Allows_eff : List U → Option Eff
  | [.i from_, .i until_, .i p_X, .i p_Y, .i q_X, .i q_Y, .r forecast] => some ⟨some (drift_Allows_pre from_ until_ p_X p_Y q_X q_Y forecast), [], 0, [], .tup [.bool (drift_Allows_0 from_ until_ p_X p_Y q_X q_Y forecast), .int .i64 (drift_Allows_1 from_ until_ p_X p_Y q_X q_Y forecast)]⟩
  | _ => Option.none
noncomputable def D27 : Con := ext Try.prog D26 11 [.sl 0, .int .i64 0, .int .i64 0, .agg [.int .i64 0, .int .i64 0], .agg [.int .i64 0, .int .i64 0]] [⟨0, 0, false, .row 56 [.int .i64, .int .i64, .int .i64, .int .i64, .int .i64, .int .i64] []⟩] drift_Allows_eff
theorem D27_ok : ConOk Try.prog D27 := conOk_ext D26_ok (n := 9) rfl rfl fun us x h => by
  unfold drift_Allows_eff at h
  split at h
  · cases h; exact ⟨some (drift_Allows_pre _ _ _ _ _ _ _), drift_Allows_col _ _ _ _ _ _ _, fun h => h⟩
  · cases h
theorem drift_Move_col (from_ until_ : Int) (list forecast : List (List Int)) : collapse Try.prog 2 (execFn Try.prog D27 9 12 [.sl 0, .sl 1, .int .i64 from_, .int .i64 until_] ⟨[⟨0, 2, false, .row 42 [.int .i64, .int .i64, .int .i64, .int .i64] list⟩, ⟨1, 2, false, .row 56 [.int .i64, .int .i64, .int .i64, .int .i64, .int .i64, .int .i64] forecast⟩], 2⟩) = some ⟨some (drift_Move_pre from_ until_ list forecast), [], 1, [⟨2, 2, true, .row 42 [.int .i64, .int .i64, .int .i64, .int .i64] (drift_Move_0 from_ until_ list forecast)⟩], .tup [.sl 2, .int .i64 (drift_Move_1 from_ until_ list forecast)]⟩ := by kernel_rfl
noncomputable def drift_Move_eff : List U → Option Eff
  | [.i from_, .i until_, .r list, .r forecast] => some ⟨some (drift_Move_pre from_ until_ list forecast), [], 1, [⟨2, 2, true, .row 42 [.int .i64, .int .i64, .int .i64, .int .i64] (drift_Move_0 from_ until_ list forecast)⟩], .tup [.sl 2, .int .i64 (drift_Move_1 from_ until_ list forecast)]⟩
  | _ => Option.none
noncomputable def D28 : Con := ext Try.prog D27 12 [.sl 0, .sl 1, .int .i64 0, .int .i64 0] [⟨0, 0, false, .row 42 [.int .i64, .int .i64, .int .i64, .int .i64] []⟩, ⟨1, 0, false, .row 56 [.int .i64, .int .i64, .int .i64, .int .i64, .int .i64, .int .i64] []⟩] drift_Move_eff
theorem D28_ok : ConOk Try.prog D28 := conOk_ext D27_ok (n := 9) rfl rfl fun us x h => by
  unfold drift_Move_eff at h
  split at h
  · cases h; exact ⟨some (drift_Move_pre _ _ _ _), drift_Move_col _ _ _ _, fun h => h⟩
  · cases h
theorem drift_In_col (p_X p_Y : Int) (list : List (List Int)) : collapse Try.prog 1 (execFn Try.prog D28 9 20 [.sl 0, .agg [.int .i64 p_X, .int .i64 p_Y]] ⟨[⟨0, 1, false, .row 42 [.int .i64, .int .i64, .int .i64, .int .i64] list⟩], 1⟩) = some ⟨some (drift_In_pre p_X p_Y list), [], 0, [], .tup [.bool (drift_In_0 p_X p_Y list), .int .i64 (drift_In_1 p_X p_Y list)]⟩ := by kernel_rfl
noncomputable def drift_In_eff : List U → Option Eff
  | [.i p_X, .i p_Y, .r list] => some ⟨some (drift_In_pre p_X p_Y list), [], 0, [], .tup [.bool (drift_In_0 p_X p_Y list), .int .i64 (drift_In_1 p_X p_Y list)]⟩
  | _ => Option.none
noncomputable def D29 : Con := ext Try.prog D28 20 [.sl 0, .agg [.int .i64 0, .int .i64 0]] [⟨0, 0, false, .row 42 [.int .i64, .int .i64, .int .i64, .int .i64] []⟩] drift_In_eff
theorem D29_ok : ConOk Try.prog D29 := conOk_ext D28_ok (n := 9) rfl rfl fun us x h => by
  unfold drift_In_eff at h
  split at h
  · cases h; exact ⟨some (drift_In_pre _ _ _), drift_In_col _ _ _, fun h => h⟩
  · cases h
theorem drift_Cut_col (b_X_Lo b_X_Hi b_Y_Lo b_Y_Hi : Int) (list : List (List Int)) : collapse Try.prog 1 (execFn Try.prog D29 9 23 [.sl 0, .agg [.int .i64 b_X_Lo, .int .i64 b_X_Hi, .int .i64 b_Y_Lo, .int .i64 b_Y_Hi]] ⟨[⟨0, 1, false, .row 42 [.int .i64, .int .i64, .int .i64, .int .i64] list⟩], 1⟩) = some ⟨some (drift_Cut_pre b_X_Lo b_X_Hi b_Y_Lo b_Y_Hi list), [], 1, [⟨1, 1, true, .row 42 [.int .i64, .int .i64, .int .i64, .int .i64] (drift_Cut_0 b_X_Lo b_X_Hi b_Y_Lo b_Y_Hi list)⟩], .tup [.sl 1, .int .i64 (drift_Cut_1 b_X_Lo b_X_Hi b_Y_Lo b_Y_Hi list)]⟩ := by kernel_rfl
noncomputable def drift_Cut_eff : List U → Option Eff
  | [.i b_X_Lo, .i b_X_Hi, .i b_Y_Lo, .i b_Y_Hi, .r list] => some ⟨some (drift_Cut_pre b_X_Lo b_X_Hi b_Y_Lo b_Y_Hi list), [], 1, [⟨1, 1, true, .row 42 [.int .i64, .int .i64, .int .i64, .int .i64] (drift_Cut_0 b_X_Lo b_X_Hi b_Y_Lo b_Y_Hi list)⟩], .tup [.sl 1, .int .i64 (drift_Cut_1 b_X_Lo b_X_Hi b_Y_Lo b_Y_Hi list)]⟩
  | _ => Option.none
noncomputable def D30 : Con := ext Try.prog D29 23 [.sl 0, .agg [.int .i64 0, .int .i64 0, .int .i64 0, .int .i64 0]] [⟨0, 0, false, .row 42 [.int .i64, .int .i64, .int .i64, .int .i64] []⟩] drift_Cut_eff
theorem D30_ok : ConOk Try.prog D30 := conOk_ext D29_ok (n := 9) rfl rfl fun us x h => by
  unfold drift_Cut_eff at h
  split at h
  · cases h; exact ⟨some (drift_Cut_pre _ _ _ _ _), drift_Cut_col _ _ _ _ _, fun h => h⟩
  · cases h
theorem law23_within_col (a b : List (List Int)) : collapse Try.prog 2 (execFn Try.prog D30 9 13 [.sl 0, .sl 1] ⟨[⟨0, 2, false, .row 42 [.int .i64, .int .i64, .int .i64, .int .i64] a⟩, ⟨1, 2, false, .row 42 [.int .i64, .int .i64, .int .i64, .int .i64] b⟩], 2⟩) = some ⟨some (law23_within_pre a b), [], 0, [], .bool (law23_within_0 a b)⟩ := by kernel_rfl
noncomputable def law23_within_eff : List U → Option Eff
  | [.r a, .r b] => some ⟨some (law23_within_pre a b), [], 0, [], .bool (law23_within_0 a b)⟩
  | _ => Option.none
noncomputable def D31 : Con := ext Try.prog D30 13 [.sl 0, .sl 1] [⟨0, 0, false, .row 42 [.int .i64, .int .i64, .int .i64, .int .i64] []⟩, ⟨1, 0, false, .row 42 [.int .i64, .int .i64, .int .i64, .int .i64] []⟩] law23_within_eff
theorem D31_ok : ConOk Try.prog D31 := conOk_ext D30_ok (n := 9) rfl rfl fun us x h => by
  unfold law23_within_eff at h
  split at h
  · cases h; exact ⟨some (law23_within_pre _ _), law23_within_col _ _, fun h => h⟩
  · cases h
theorem drift_joins_col (a_X_Lo a_X_Hi a_Y_Lo a_Y_Hi b_X_Lo b_X_Hi b_Y_Lo b_Y_Hi : Int) : collapse Try.prog 0 (execFn Try.prog D31 9 40 [.agg [.int .i64 a_X_Lo, .int .i64 a_X_Hi, .int .i64 a_Y_Lo, .int .i64 a_Y_Hi], .agg [.int .i64 b_X_Lo, .int .i64 b_X_Hi, .int .i64 b_Y_Lo, .int .i64 b_Y_Hi]] ⟨[], 0⟩) = some ⟨none, [], 0, [], .bool (drift_joins_0 a_X_Lo a_X_Hi a_Y_Lo a_Y_Hi b_X_Lo b_X_Hi b_Y_Lo b_Y_Hi)⟩ := by kernel_rfl
noncomputable def drift_joins_eff : List U → Option Eff
  | [.i a_X_Lo, .i a_X_Hi, .i a_Y_Lo, .i a_Y_Hi, .i b_X_Lo, .i b_X_Hi, .i b_Y_Lo, .i b_Y_Hi] => some ⟨none, [], 0, [], .bool (drift_joins_0 a_X_Lo a_X_Hi a_Y_Lo a_Y_Hi b_X_Lo b_X_Hi b_Y_Lo b_Y_Hi)⟩
  | _ => Option.none
noncomputable def D32 : Con := ext Try.prog D31 40 [.agg [.int .i64 0, .int .i64 0, .int .i64 0, .int .i64 0], .agg [.int .i64 0, .int .i64 0, .int .i64 0, .int .i64 0]] [] drift_joins_eff
theorem D32_ok : ConOk Try.prog D32 := conOk_ext D31_ok (n := 9) rfl rfl fun us x h => by
  unfold drift_joins_eff at h
  split at h
  · cases h; exact ⟨none, drift_joins_col _ _ _ _ _ _ _ _, fun _ => trivial⟩
  · cases h
end Go.Proofs.Ytddfnokjnafdpaa
