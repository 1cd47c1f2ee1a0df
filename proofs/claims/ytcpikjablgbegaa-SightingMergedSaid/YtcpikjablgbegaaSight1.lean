/- Written by program (wip/sygen.py): the contracts of the Go functions. -/
import Derived.Test.YtcpikjablgbegaaRows
import Derived.Test.YtcpikjablgbegaaSyH
import Derived.Test.YtcpikjablgbegaaSight1D
set_option maxRecDepth 100000
set_option linter.unusedVariables false
namespace Go.Proofs.Ytcpikjablgbegaa
open Go Go.Sy
noncomputable def S0 : Con := Con.none
theorem S0_ok : ConOk Try.prog S0 := conOk_none _
theorem ref24_ID_col (n : Int) : collapse Try.prog 0 (execFn Try.prog S0 9 42 [.int .i64 n] ⟨[], 0⟩) = some ⟨none, [], 0, [], .bool (ref24_ID_0 n)⟩ := by kernel_rfl
noncomputable def ref24_ID_eff : List U → Option Eff
  | [.i n] => some ⟨none, [], 0, [], .bool (ref24_ID_0 n)⟩
  | _ => Option.none
noncomputable def S1 : Con := ext Try.prog S0 42 [.int .i64 0] [] ref24_ID_eff
theorem S1_ok : ConOk Try.prog S1 := conOk_ext S0_ok (n := 9) rfl rfl fun us x h => by
  unfold ref24_ID_eff at h
  split at h
  · cases h; exact ⟨none, ref24_ID_col _, fun _ => trivial⟩
  · cases h
theorem ref24_direction_col (p_X p_Y : Int) : collapse Try.prog 0 (execFn Try.prog S1 9 43 [.agg [.int .i64 p_X, .int .i64 p_Y]] ⟨[], 0⟩) = some ⟨none, [], 0, [], .bool (ref24_direction_0 p_X p_Y)⟩ := by kernel_rfl
noncomputable def ref24_direction_eff : List U → Option Eff
  | [.i p_X, .i p_Y] => some ⟨none, [], 0, [], .bool (ref24_direction_0 p_X p_Y)⟩
  | _ => Option.none
noncomputable def S2 : Con := ext Try.prog S1 43 [.agg [.int .i64 0, .int .i64 0]] [] ref24_direction_eff
theorem S2_ok : ConOk Try.prog S2 := conOk_ext S1_ok (n := 9) rfl rfl fun us x h => by
  unfold ref24_direction_eff at h
  split at h
  · cases h; exact ⟨none, ref24_direction_col _ _, fun _ => trivial⟩
  · cases h
theorem ref24_Ints_col (a b : List (List Int)) : collapse Try.prog 2 (execFn Try.prog S2 9 23 [.sl 0, .sl 1] ⟨[⟨0, 2, false, .row 3 [.int .i64] a⟩, ⟨1, 2, false, .row 3 [.int .i64] b⟩], 2⟩) = some ⟨some (ref24_Ints_pre a b), [], 0, [], .bool (ref24_Ints_0 a b)⟩ := by kernel_rfl
noncomputable def ref24_Ints_eff : List U → Option Eff
  | [.r a, .r b] => some ⟨some (ref24_Ints_pre a b), [], 0, [], .bool (ref24_Ints_0 a b)⟩
  | _ => Option.none
noncomputable def S3 : Con := ext Try.prog S2 23 [.sl 0, .sl 1] [⟨0, 0, false, .row 3 [.int .i64] []⟩, ⟨1, 0, false, .row 3 [.int .i64] []⟩] ref24_Ints_eff
theorem S3_ok : ConOk Try.prog S3 := conOk_ext S2_ok (n := 9) rfl rfl fun us x h => by
  unfold ref24_Ints_eff at h
  split at h
  · cases h; exact ⟨some (ref24_Ints_pre _ _), ref24_Ints_col _ _, fun h => h⟩
  · cases h
theorem ref24_Same_col (a b : List (List Int)) : collapse Try.prog 2 (execFn Try.prog S3 9 22 [.sl 0, .sl 1] ⟨[⟨0, 2, false, .row 29 [.int .i64, .int .i64, .int .i64, .int .i64, .int .i64, .int .i64, .int .i64, .int .i64, .int .i64, .int .i64, .int .i64, .int .i64, .int .i64] a⟩, ⟨1, 2, false, .row 29 [.int .i64, .int .i64, .int .i64, .int .i64, .int .i64, .int .i64, .int .i64, .int .i64, .int .i64, .int .i64, .int .i64, .int .i64, .int .i64] b⟩], 2⟩) = some ⟨some (ref24_Same_pre a b), [], 0, [], .bool (ref24_Same_0 a b)⟩ := by kernel_rfl
noncomputable def ref24_Same_eff : List U → Option Eff
  | [.r a, .r b] => some ⟨some (ref24_Same_pre a b), [], 0, [], .bool (ref24_Same_0 a b)⟩
  | _ => Option.none
noncomputable def S4 : Con := ext Try.prog S3 22 [.sl 0, .sl 1] [⟨0, 0, false, .row 29 [.int .i64, .int .i64, .int .i64, .int .i64, .int .i64, .int .i64, .int .i64, .int .i64, .int .i64, .int .i64, .int .i64, .int .i64, .int .i64] []⟩, ⟨1, 0, false, .row 29 [.int .i64, .int .i64, .int .i64, .int .i64, .int .i64, .int .i64, .int .i64, .int .i64, .int .i64, .int .i64, .int .i64, .int .i64, .int .i64] []⟩] ref24_Same_eff
theorem S4_ok : ConOk Try.prog S4 := conOk_ext S3_ok (n := 9) rfl rfl fun us x h => by
  unfold ref24_Same_eff at h
  split at h
  · cases h; exact ⟨some (ref24_Same_pre _ _), ref24_Same_col _ _, fun h => h⟩
  · cases h
theorem ref24_Find_col (r_Ship r_Number r_Time r_Buoy r_At_X_Lo r_At_X_Hi r_At_Y_Lo r_At_Y_Hi r_From_X r_From_Y r_To_X r_To_Y r_Far : Int) (list : List (List Int)) : collapse Try.prog 1 (execFn Try.prog S4 9 32 [.sl 0, .agg [.int .i64 r_Ship, .int .i64 r_Number, .int .i64 r_Time, .int .i64 r_Buoy, .int .i64 r_At_X_Lo, .int .i64 r_At_X_Hi, .int .i64 r_At_Y_Lo, .int .i64 r_At_Y_Hi, .int .i64 r_From_X, .int .i64 r_From_Y, .int .i64 r_To_X, .int .i64 r_To_Y, .int .i64 r_Far]] ⟨[⟨0, 1, false, .row 29 [.int .i64, .int .i64, .int .i64, .int .i64, .int .i64, .int .i64, .int .i64, .int .i64, .int .i64, .int .i64, .int .i64, .int .i64, .int .i64] list⟩], 1⟩) = some ⟨some (ref24_Find_pre r_Ship r_Number r_Time r_Buoy r_At_X_Lo r_At_X_Hi r_At_Y_Lo r_At_Y_Hi r_From_X r_From_Y r_To_X r_To_Y r_Far list), [], 0, [], .int .i64 (ref24_Find_0 r_Ship r_Number r_Time r_Buoy r_At_X_Lo r_At_X_Hi r_At_Y_Lo r_At_Y_Hi r_From_X r_From_Y r_To_X r_To_Y r_Far list)⟩ := by kernel_rfl
noncomputable def ref24_Find_eff : List U → Option Eff
  | [.i r_Ship, .i r_Number, .i r_Time, .i r_Buoy, .i r_At_X_Lo, .i r_At_X_Hi, .i r_At_Y_Lo, .i r_At_Y_Hi, .i r_From_X, .i r_From_Y, .i r_To_X, .i r_To_Y, .i r_Far, .r list] => some ⟨some (ref24_Find_pre r_Ship r_Number r_Time r_Buoy r_At_X_Lo r_At_X_Hi r_At_Y_Lo r_At_Y_Hi r_From_X r_From_Y r_To_X r_To_Y r_Far list), [], 0, [], .int .i64 (ref24_Find_0 r_Ship r_Number r_Time r_Buoy r_At_X_Lo r_At_X_Hi r_At_Y_Lo r_At_Y_Hi r_From_X r_From_Y r_To_X r_To_Y r_Far list)⟩
  | _ => Option.none
noncomputable def S5 : Con := ext Try.prog S4 32 [.sl 0, .agg [.int .i64 0, .int .i64 0, .int .i64 0, .int .i64 0, .int .i64 0, .int .i64 0, .int .i64 0, .int .i64 0, .int .i64 0, .int .i64 0, .int .i64 0, .int .i64 0, .int .i64 0]] [⟨0, 0, false, .row 29 [.int .i64, .int .i64, .int .i64, .int .i64, .int .i64, .int .i64, .int .i64, .int .i64, .int .i64, .int .i64, .int .i64, .int .i64, .int .i64] []⟩] ref24_Find_eff
theorem S5_ok : ConOk Try.prog S5 := conOk_ext S4_ok (n := 9) rfl rfl fun us x h => by
  unfold ref24_Find_eff at h
  split at h
  · cases h; exact ⟨some (ref24_Find_pre _ _ _ _ _ _ _ _ _ _ _ _ _ _), ref24_Find_col _ _ _ _ _ _ _ _ _ _ _ _ _ _, fun h => h⟩
  · cases h
theorem ref01_Cross_col (v_X v_Y w_X w_Y : Int) : collapse Try.prog 0 (execFn Try.prog S5 9 26 [.agg [.int .i64 v_X, .int .i64 v_Y], .agg [.int .i64 w_X, .int .i64 w_Y]] ⟨[], 0⟩) = some ⟨none, [], 0, [], .int .i64 (ref01_Cross_0 v_X v_Y w_X w_Y)⟩ := by kernel_rfl
noncomputable def ref01_Cross_eff : List U → Option Eff
  | [.i v_X, .i v_Y, .i w_X, .i w_Y] => some ⟨none, [], 0, [], .int .i64 (ref01_Cross_0 v_X v_Y w_X w_Y)⟩
  | _ => Option.none
noncomputable def S6 : Con := ext Try.prog S5 26 [.agg [.int .i64 0, .int .i64 0], .agg [.int .i64 0, .int .i64 0]] [] ref01_Cross_eff
theorem S6_ok : ConOk Try.prog S6 := conOk_ext S5_ok (n := 9) rfl rfl fun us x h => by
  unfold ref01_Cross_eff at h
  split at h
  · cases h; exact ⟨none, ref01_Cross_col _ _ _ _, fun _ => trivial⟩
  · cases h
theorem ref01_Valid_col (p_X p_Y : Int) : collapse Try.prog 0 (execFn Try.prog S6 9 27 [.agg [.int .i64 p_X, .int .i64 p_Y]] ⟨[], 0⟩) = some ⟨none, [], 0, [], .bool (ref01_Valid_0 p_X p_Y)⟩ := by kernel_rfl
noncomputable def ref01_Valid_eff : List U → Option Eff
  | [.i p_X, .i p_Y] => some ⟨none, [], 0, [], .bool (ref01_Valid_0 p_X p_Y)⟩
  | _ => Option.none
noncomputable def S7 : Con := ext Try.prog S6 27 [.agg [.int .i64 0, .int .i64 0]] [] ref01_Valid_eff
theorem S7_ok : ConOk Try.prog S7 := conOk_ext S6_ok (n := 9) rfl rfl fun us x h => by
  unfold ref01_Valid_eff at h
  split at h
  · cases h; exact ⟨none, ref01_Valid_col _ _, fun _ => trivial⟩
  · cases h
theorem ref02_coords_col (s_Lo s_Hi : Int) : collapse Try.prog 0 (execFn Try.prog S7 9 51 [.agg [.int .i64 s_Lo, .int .i64 s_Hi]] ⟨[], 0⟩) = some ⟨none, [], 0, [], .bool (ref02_coords_0 s_Lo s_Hi)⟩ := by kernel_rfl
noncomputable def ref02_coords_eff : List U → Option Eff
  | [.i s_Lo, .i s_Hi] => some ⟨none, [], 0, [], .bool (ref02_coords_0 s_Lo s_Hi)⟩
  | _ => Option.none
noncomputable def S8 : Con := ext Try.prog S7 51 [.agg [.int .i64 0, .int .i64 0]] [] ref02_coords_eff
theorem S8_ok : ConOk Try.prog S8 := conOk_ext S7_ok (n := 9) rfl rfl fun us x h => by
  unfold ref02_coords_eff at h
  split at h
  · cases h; exact ⟨none, ref02_coords_col _ _, fun _ => trivial⟩
  · cases h
theorem ref02_ValidBox_col (b_X_Lo b_X_Hi b_Y_Lo b_Y_Hi : Int) : collapse Try.prog 0 (execFn Try.prog S8 9 28 [.agg [.int .i64 b_X_Lo, .int .i64 b_X_Hi, .int .i64 b_Y_Lo, .int .i64 b_Y_Hi]] ⟨[], 0⟩) = some ⟨none, [], 0, [], .bool (ref02_ValidBox_0 b_X_Lo b_X_Hi b_Y_Lo b_Y_Hi)⟩ := by kernel_rfl
noncomputable def ref02_ValidBox_eff : List U → Option Eff
  | [.i b_X_Lo, .i b_X_Hi, .i b_Y_Lo, .i b_Y_Hi] => some ⟨none, [], 0, [], .bool (ref02_ValidBox_0 b_X_Lo b_X_Hi b_Y_Lo b_Y_Hi)⟩
  | _ => Option.none
noncomputable def S9 : Con := ext Try.prog S8 28 [.agg [.int .i64 0, .int .i64 0, .int .i64 0, .int .i64 0]] [] ref02_ValidBox_eff
theorem S9_ok : ConOk Try.prog S9 := conOk_ext S8_ok (n := 9) rfl rfl fun us x h => by
  unfold ref02_ValidBox_eff at h
  split at h
  · cases h; exact ⟨none, ref02_ValidBox_col _ _ _ _, fun _ => trivial⟩
  · cases h
theorem plane_Valid_col (p_X p_Y : Int) : collapse Try.prog 0 (execFn Try.prog S9 9 44 [.agg [.int .i64 p_X, .int .i64 p_Y]] ⟨[], 0⟩) = some ⟨none, [], 0, [], .bool (plane_Valid_0 p_X p_Y)⟩ := by kernel_rfl
noncomputable def plane_Valid_eff : List U → Option Eff
  | [.i p_X, .i p_Y] => some ⟨none, [], 0, [], .bool (plane_Valid_0 p_X p_Y)⟩
  | _ => Option.none
noncomputable def S10 : Con := ext Try.prog S9 44 [.agg [.int .i64 0, .int .i64 0]] [] plane_Valid_eff
theorem S10_ok : ConOk Try.prog S10 := conOk_ext S9_ok (n := 9) rfl rfl fun us x h => by
  unfold plane_Valid_eff at h
  split at h
  · cases h; exact ⟨none, plane_Valid_col _ _, fun _ => trivial⟩
  · cases h
theorem span_Valid_col (s_Lo s_Hi : Int) : collapse Try.prog 0 (execFn Try.prog S10 9 62 [.agg [.int .i64 s_Lo, .int .i64 s_Hi]] ⟨[], 0⟩) = some ⟨none, [], 0, [], .bool (span_Valid_0 s_Lo s_Hi)⟩ := by kernel_rfl
noncomputable def span_Valid_eff : List U → Option Eff
  | [.i s_Lo, .i s_Hi] => some ⟨none, [], 0, [], .bool (span_Valid_0 s_Lo s_Hi)⟩
  | _ => Option.none
noncomputable def S11 : Con := ext Try.prog S10 62 [.agg [.int .i64 0, .int .i64 0]] [] span_Valid_eff
theorem S11_ok : ConOk Try.prog S11 := conOk_ext S10_ok (n := 9) rfl rfl fun us x h => by
  unfold span_Valid_eff at h
  split at h
  · cases h; exact ⟨none, span_Valid_col _ _, fun _ => trivial⟩
  · cases h
theorem span_kept_col (s_Lo s_Hi : Int) : collapse Try.prog 0 (execFn Try.prog S11 9 63 [.agg [.int .i64 s_Lo, .int .i64 s_Hi]] ⟨[], 0⟩) = some ⟨none, [], 0, [], .tup [.agg [.int .i64 (span_kept_0 s_Lo s_Hi), .int .i64 (span_kept_1 s_Lo s_Hi)], .int .i64 (span_kept_2 s_Lo s_Hi)]⟩ := by kernel_rfl
noncomputable def span_kept_eff : List U → Option Eff
  | [.i s_Lo, .i s_Hi] => some ⟨none, [], 0, [], .tup [.agg [.int .i64 (span_kept_0 s_Lo s_Hi), .int .i64 (span_kept_1 s_Lo s_Hi)], .int .i64 (span_kept_2 s_Lo s_Hi)]⟩
  | _ => Option.none
noncomputable def S12 : Con := ext Try.prog S11 63 [.agg [.int .i64 0, .int .i64 0]] [] span_kept_eff
theorem S12_ok : ConOk Try.prog S12 := conOk_ext S11_ok (n := 9) rfl rfl fun us x h => by
  unfold span_kept_eff at h
  split at h
  · cases h; exact ⟨none, span_kept_col _ _, fun _ => trivial⟩
  · cases h
theorem span_ends_int_col (a b : Int) : collapse Try.prog 0 (execFn Try.prog S12 9 69 [.int .i64 a, .int .i64 b] ⟨[], 0⟩) = some ⟨none, [], 0, [], .tup [.int .i64 (span_ends_int_0 a b), .int .i64 (span_ends_int_1 a b)]⟩ := by kernel_rfl
noncomputable def span_ends_int_eff : List U → Option Eff
  | [.i a, .i b] => some ⟨none, [], 0, [], .tup [.int .i64 (span_ends_int_0 a b), .int .i64 (span_ends_int_1 a b)]⟩
  | _ => Option.none
noncomputable def S13 : Con := ext Try.prog S12 69 [.int .i64 0, .int .i64 0] [] span_ends_int_eff
theorem S13_ok : ConOk Try.prog S13 := conOk_ext S12_ok (n := 9) rfl rfl fun us x h => by
  unfold span_ends_int_eff at h
  split at h
  · cases h; exact ⟨none, span_ends_int_col _ _, fun _ => trivial⟩
  · cases h
theorem span_Sub_col (s_Lo s_Hi t_Lo t_Hi : Int) : collapse Try.prog 0 (execFn Try.prog S13 9 56 [.agg [.int .i64 s_Lo, .int .i64 s_Hi], .agg [.int .i64 t_Lo, .int .i64 t_Hi]] ⟨[], 0⟩) = some ⟨none, [], 0, [], .tup [.agg [.int .i64 (span_Sub_0 s_Lo s_Hi t_Lo t_Hi), .int .i64 (span_Sub_1 s_Lo s_Hi t_Lo t_Hi)], .int .i64 (span_Sub_2 s_Lo s_Hi t_Lo t_Hi)]⟩ := by kernel_rfl
noncomputable def span_Sub_eff : List U → Option Eff
  | [.i s_Lo, .i s_Hi, .i t_Lo, .i t_Hi] => some ⟨none, [], 0, [], .tup [.agg [.int .i64 (span_Sub_0 s_Lo s_Hi t_Lo t_Hi), .int .i64 (span_Sub_1 s_Lo s_Hi t_Lo t_Hi)], .int .i64 (span_Sub_2 s_Lo s_Hi t_Lo t_Hi)]⟩
  | _ => Option.none
noncomputable def S14 : Con := ext Try.prog S13 56 [.agg [.int .i64 0, .int .i64 0], .agg [.int .i64 0, .int .i64 0]] [] span_Sub_eff
theorem S14_ok : ConOk Try.prog S14 := conOk_ext S13_ok (n := 9) rfl rfl fun us x h => by
  unfold span_Sub_eff at h
  split at h
  · cases h; exact ⟨none, span_Sub_col _ _ _ _, fun _ => trivial⟩
  · cases h
theorem span_Meet_col (s_Lo s_Hi t_Lo t_Hi : Int) : collapse Try.prog 0 (execFn Try.prog S14 9 54 [.agg [.int .i64 s_Lo, .int .i64 s_Hi], .agg [.int .i64 t_Lo, .int .i64 t_Hi]] ⟨[], 0⟩) = some ⟨none, [], 0, [], .tup [.agg [.int .i64 (span_Meet_0 s_Lo s_Hi t_Lo t_Hi), .int .i64 (span_Meet_1 s_Lo s_Hi t_Lo t_Hi)], .int .i64 (span_Meet_2 s_Lo s_Hi t_Lo t_Hi)]⟩ := by kernel_rfl
noncomputable def span_Meet_eff : List U → Option Eff
  | [.i s_Lo, .i s_Hi, .i t_Lo, .i t_Hi] => some ⟨none, [], 0, [], .tup [.agg [.int .i64 (span_Meet_0 s_Lo s_Hi t_Lo t_Hi), .int .i64 (span_Meet_1 s_Lo s_Hi t_Lo t_Hi)], .int .i64 (span_Meet_2 s_Lo s_Hi t_Lo t_Hi)]⟩
  | _ => Option.none
noncomputable def S15 : Con := ext Try.prog S14 54 [.agg [.int .i64 0, .int .i64 0], .agg [.int .i64 0, .int .i64 0]] [] span_Meet_eff
theorem S15_ok : ConOk Try.prog S15 := conOk_ext S14_ok (n := 9) rfl rfl fun us x h => by
  unfold span_Meet_eff at h
  split at h
  · cases h; exact ⟨none, span_Meet_col _ _ _ _, fun _ => trivial⟩
  · cases h
theorem span_Within_col (s_Lo s_Hi t_Lo t_Hi : Int) : collapse Try.prog 0 (execFn Try.prog S15 9 55 [.agg [.int .i64 s_Lo, .int .i64 s_Hi], .agg [.int .i64 t_Lo, .int .i64 t_Hi]] ⟨[], 0⟩) = some ⟨none, [], 0, [], .tup [.bool (span_Within_0 s_Lo s_Hi t_Lo t_Hi), .int .i64 (span_Within_1 s_Lo s_Hi t_Lo t_Hi)]⟩ := by kernel_rfl
noncomputable def span_Within_eff : List U → Option Eff
  | [.i s_Lo, .i s_Hi, .i t_Lo, .i t_Hi] => some ⟨none, [], 0, [], .tup [.bool (span_Within_0 s_Lo s_Hi t_Lo t_Hi), .int .i64 (span_Within_1 s_Lo s_Hi t_Lo t_Hi)]⟩
  | _ => Option.none
noncomputable def S16 : Con := ext Try.prog S15 55 [.agg [.int .i64 0, .int .i64 0], .agg [.int .i64 0, .int .i64 0]] [] span_Within_eff
theorem S16_ok : ConOk Try.prog S16 := conOk_ext S15_ok (n := 9) rfl rfl fun us x h => by
  unfold span_Within_eff at h
  split at h
  · cases h; exact ⟨none, span_Within_col _ _ _ _, fun _ => trivial⟩
  · cases h
theorem span_ValidBox_col (b_X_Lo b_X_Hi b_Y_Lo b_Y_Hi : Int) : collapse Try.prog 0 (execFn Try.prog S16 9 39 [.agg [.int .i64 b_X_Lo, .int .i64 b_X_Hi, .int .i64 b_Y_Lo, .int .i64 b_Y_Hi]] ⟨[], 0⟩) = some ⟨none, [], 0, [], .bool (span_ValidBox_0 b_X_Lo b_X_Hi b_Y_Lo b_Y_Hi)⟩ := by kernel_rfl
noncomputable def span_ValidBox_eff : List U → Option Eff
  | [.i b_X_Lo, .i b_X_Hi, .i b_Y_Lo, .i b_Y_Hi] => some ⟨none, [], 0, [], .bool (span_ValidBox_0 b_X_Lo b_X_Hi b_Y_Lo b_Y_Hi)⟩
  | _ => Option.none
noncomputable def S17 : Con := ext Try.prog S16 39 [.agg [.int .i64 0, .int .i64 0, .int .i64 0, .int .i64 0]] [] span_ValidBox_eff
theorem S17_ok : ConOk Try.prog S17 := conOk_ext S16_ok (n := 9) rfl rfl fun us x h => by
  unfold span_ValidBox_eff at h
  split at h
  · cases h; exact ⟨none, span_ValidBox_col _ _ _ _, fun _ => trivial⟩
  · cases h
theorem sighting_isID_col (n : Int) : collapse Try.prog 0 (execFn Try.prog S17 9 38 [.int .i64 n] ⟨[], 0⟩) = some ⟨none, [], 0, [], .bool (sighting_isID_0 n)⟩ := by kernel_rfl
noncomputable def sighting_isID_eff : List U → Option Eff
  | [.i n] => some ⟨none, [], 0, [], .bool (sighting_isID_0 n)⟩
  | _ => Option.none
noncomputable def S18 : Con := ext Try.prog S17 38 [.int .i64 0] [] sighting_isID_eff
theorem S18_ok : ConOk Try.prog S18 := conOk_ext S17_ok (n := 9) rfl rfl fun us x h => by
  unfold sighting_isID_eff at h
  split at h
  · cases h; exact ⟨none, sighting_isID_col _, fun _ => trivial⟩
  · cases h
theorem sighting_isDirection_col (p_X p_Y : Int) : collapse Try.prog 0 (execFn Try.prog S18 9 40 [.agg [.int .i64 p_X, .int .i64 p_Y]] ⟨[], 0⟩) = some ⟨none, [], 0, [], .bool (sighting_isDirection_0 p_X p_Y)⟩ := by kernel_rfl
noncomputable def sighting_isDirection_eff : List U → Option Eff
  | [.i p_X, .i p_Y] => some ⟨none, [], 0, [], .bool (sighting_isDirection_0 p_X p_Y)⟩
  | _ => Option.none
noncomputable def S19 : Con := ext Try.prog S18 40 [.agg [.int .i64 0, .int .i64 0]] [] sighting_isDirection_eff
theorem S19_ok : ConOk Try.prog S19 := conOk_ext S18_ok (n := 9) rfl rfl fun us x h => by
  unfold sighting_isDirection_eff at h
  split at h
  · cases h; exact ⟨none, sighting_isDirection_col _ _, fun _ => trivial⟩
  · cases h
theorem sighting_cross_col (v_X v_Y w_X w_Y : Int) : collapse Try.prog 0 (execFn Try.prog S19 9 41 [.agg [.int .i64 v_X, .int .i64 v_Y], .agg [.int .i64 w_X, .int .i64 w_Y]] ⟨[], 0⟩) = some ⟨none, [], 0, [], .int .i64 (sighting_cross_0 v_X v_Y w_X w_Y)⟩ := by kernel_rfl
noncomputable def sighting_cross_eff : List U → Option Eff
  | [.i v_X, .i v_Y, .i w_X, .i w_Y] => some ⟨none, [], 0, [], .int .i64 (sighting_cross_0 v_X v_Y w_X w_Y)⟩
  | _ => Option.none
noncomputable def S20 : Con := ext Try.prog S19 41 [.agg [.int .i64 0, .int .i64 0], .agg [.int .i64 0, .int .i64 0]] [] sighting_cross_eff
theorem S20_ok : ConOk Try.prog S20 := conOk_ext S19_ok (n := 9) rfl rfl fun us x h => by
  unfold sighting_cross_eff at h
  split at h
  · cases h; exact ⟨none, sighting_cross_col _ _ _ _, fun _ => trivial⟩
  · cases h
theorem sighting_Valid_col (r_Ship r_Number r_Time r_Buoy r_At_X_Lo r_At_X_Hi r_At_Y_Lo r_At_Y_Hi r_From_X r_From_Y r_To_X r_To_Y r_Far : Int) : collapse Try.prog 0 (execFn Try.prog S20 9 12 [.agg [.int .i64 r_Ship, .int .i64 r_Number, .int .i64 r_Time, .int .i64 r_Buoy, .int .i64 r_At_X_Lo, .int .i64 r_At_X_Hi, .int .i64 r_At_Y_Lo, .int .i64 r_At_Y_Hi, .int .i64 r_From_X, .int .i64 r_From_Y, .int .i64 r_To_X, .int .i64 r_To_Y, .int .i64 r_Far]] ⟨[], 0⟩) = some ⟨none, [], 0, [], .bool (sighting_Valid_0 r_Ship r_Number r_Time r_Buoy r_At_X_Lo r_At_X_Hi r_At_Y_Lo r_At_Y_Hi r_From_X r_From_Y r_To_X r_To_Y r_Far)⟩ := by kernel_rfl
noncomputable def sighting_Valid_eff : List U → Option Eff
  | [.i r_Ship, .i r_Number, .i r_Time, .i r_Buoy, .i r_At_X_Lo, .i r_At_X_Hi, .i r_At_Y_Lo, .i r_At_Y_Hi, .i r_From_X, .i r_From_Y, .i r_To_X, .i r_To_Y, .i r_Far] => some ⟨none, [], 0, [], .bool (sighting_Valid_0 r_Ship r_Number r_Time r_Buoy r_At_X_Lo r_At_X_Hi r_At_Y_Lo r_At_Y_Hi r_From_X r_From_Y r_To_X r_To_Y r_Far)⟩
  | _ => Option.none
noncomputable def S21 : Con := ext Try.prog S20 12 [.agg [.int .i64 0, .int .i64 0, .int .i64 0, .int .i64 0, .int .i64 0, .int .i64 0, .int .i64 0, .int .i64 0, .int .i64 0, .int .i64 0, .int .i64 0, .int .i64 0, .int .i64 0]] [] sighting_Valid_eff
theorem S21_ok : ConOk Try.prog S21 := conOk_ext S20_ok (n := 9) rfl rfl fun us x h => by
  unfold sighting_Valid_eff at h
  split at h
  · cases h; exact ⟨none, sighting_Valid_col _ _ _ _ _ _ _ _ _ _ _ _ _, fun _ => trivial⟩
  · cases h
theorem ref24_Valid_col (r_Ship r_Number r_Time r_Buoy r_At_X_Lo r_At_X_Hi r_At_Y_Lo r_At_Y_Hi r_From_X r_From_Y r_To_X r_To_Y r_Far : Int) : collapse Try.prog 0 (execFn Try.prog S21 9 13 [.agg [.int .i64 r_Ship, .int .i64 r_Number, .int .i64 r_Time, .int .i64 r_Buoy, .int .i64 r_At_X_Lo, .int .i64 r_At_X_Hi, .int .i64 r_At_Y_Lo, .int .i64 r_At_Y_Hi, .int .i64 r_From_X, .int .i64 r_From_Y, .int .i64 r_To_X, .int .i64 r_To_Y, .int .i64 r_Far]] ⟨[], 0⟩) = some ⟨none, [], 0, [], .bool (ref24_Valid_0 r_Ship r_Number r_Time r_Buoy r_At_X_Lo r_At_X_Hi r_At_Y_Lo r_At_Y_Hi r_From_X r_From_Y r_To_X r_To_Y r_Far)⟩ := by kernel_rfl
noncomputable def ref24_Valid_eff : List U → Option Eff
  | [.i r_Ship, .i r_Number, .i r_Time, .i r_Buoy, .i r_At_X_Lo, .i r_At_X_Hi, .i r_At_Y_Lo, .i r_At_Y_Hi, .i r_From_X, .i r_From_Y, .i r_To_X, .i r_To_Y, .i r_Far] => some ⟨none, [], 0, [], .bool (ref24_Valid_0 r_Ship r_Number r_Time r_Buoy r_At_X_Lo r_At_X_Hi r_At_Y_Lo r_At_Y_Hi r_From_X r_From_Y r_To_X r_To_Y r_Far)⟩
  | _ => Option.none
noncomputable def S22 : Con := ext Try.prog S21 13 [.agg [.int .i64 0, .int .i64 0, .int .i64 0, .int .i64 0, .int .i64 0, .int .i64 0, .int .i64 0, .int .i64 0, .int .i64 0, .int .i64 0, .int .i64 0, .int .i64 0, .int .i64 0]] [] ref24_Valid_eff
theorem S22_ok : ConOk Try.prog S22 := conOk_ext S21_ok (n := 9) rfl rfl fun us x h => by
  unfold ref24_Valid_eff at h
  split at h
  · cases h; exact ⟨none, ref24_Valid_col _ _ _ _ _ _ _ _ _ _ _ _ _, fun _ => trivial⟩
  · cases h
theorem sighting_reach_col (s_Lo s_Hi from_ to_ far : Int) : collapse Try.prog 0 (execFn Try.prog S22 9 47 [.agg [.int .i64 s_Lo, .int .i64 s_Hi], .int .i64 from_, .int .i64 to_, .int .i64 far] ⟨[], 0⟩) = some ⟨none, [], 0, [], .agg [.int .i64 (sighting_reach_0 s_Lo s_Hi from_ to_ far), .int .i64 (sighting_reach_1 s_Lo s_Hi from_ to_ far)]⟩ := by kernel_rfl
noncomputable def sighting_reach_eff : List U → Option Eff
  | [.i s_Lo, .i s_Hi, .i from_, .i to_, .i far] => some ⟨none, [], 0, [], .agg [.int .i64 (sighting_reach_0 s_Lo s_Hi from_ to_ far), .int .i64 (sighting_reach_1 s_Lo s_Hi from_ to_ far)]⟩
  | _ => Option.none
noncomputable def S23 : Con := ext Try.prog S22 47 [.agg [.int .i64 0, .int .i64 0], .int .i64 0, .int .i64 0, .int .i64 0] [] sighting_reach_eff
theorem S23_ok : ConOk Try.prog S23 := conOk_ext S22_ok (n := 9) rfl rfl fun us x h => by
  unfold sighting_reach_eff at h
  split at h
  · cases h; exact ⟨none, sighting_reach_col _ _ _ _ _, fun _ => trivial⟩
  · cases h
theorem ref24_reach_col (s_Lo s_Hi from_ to_ far : Int) : collapse Try.prog 0 (execFn Try.prog S23 9 48 [.agg [.int .i64 s_Lo, .int .i64 s_Hi], .int .i64 from_, .int .i64 to_, .int .i64 far] ⟨[], 0⟩) = some ⟨none, [], 0, [], .agg [.int .i64 (ref24_reach_0 s_Lo s_Hi from_ to_ far), .int .i64 (ref24_reach_1 s_Lo s_Hi from_ to_ far)]⟩ := by kernel_rfl
noncomputable def ref24_reach_eff : List U → Option Eff
  | [.i s_Lo, .i s_Hi, .i from_, .i to_, .i far] => some ⟨none, [], 0, [], .agg [.int .i64 (ref24_reach_0 s_Lo s_Hi from_ to_ far), .int .i64 (ref24_reach_1 s_Lo s_Hi from_ to_ far)]⟩
  | _ => Option.none
noncomputable def S24 : Con := ext Try.prog S23 48 [.agg [.int .i64 0, .int .i64 0], .int .i64 0, .int .i64 0, .int .i64 0] [] ref24_reach_eff
theorem S24_ok : ConOk Try.prog S24 := conOk_ext S23_ok (n := 9) rfl rfl fun us x h => by
  unfold ref24_reach_eff at h
  split at h
  · cases h; exact ⟨none, ref24_reach_col _ _ _ _ _, fun _ => trivial⟩
  · cases h
theorem sighting_Box_col (r_Ship r_Number r_Time r_Buoy r_At_X_Lo r_At_X_Hi r_At_Y_Lo r_At_Y_Hi r_From_X r_From_Y r_To_X r_To_Y r_Far : Int) : collapse Try.prog 0 (execFn Try.prog S24 9 18 [.agg [.int .i64 r_Ship, .int .i64 r_Number, .int .i64 r_Time, .int .i64 r_Buoy, .int .i64 r_At_X_Lo, .int .i64 r_At_X_Hi, .int .i64 r_At_Y_Lo, .int .i64 r_At_Y_Hi, .int .i64 r_From_X, .int .i64 r_From_Y, .int .i64 r_To_X, .int .i64 r_To_Y, .int .i64 r_Far]] ⟨[], 0⟩) = some ⟨none, [], 0, [], .tup [.agg [.int .i64 (sighting_Box_0 r_Ship r_Number r_Time r_Buoy r_At_X_Lo r_At_X_Hi r_At_Y_Lo r_At_Y_Hi r_From_X r_From_Y r_To_X r_To_Y r_Far), .int .i64 (sighting_Box_1 r_Ship r_Number r_Time r_Buoy r_At_X_Lo r_At_X_Hi r_At_Y_Lo r_At_Y_Hi r_From_X r_From_Y r_To_X r_To_Y r_Far), .int .i64 (sighting_Box_2 r_Ship r_Number r_Time r_Buoy r_At_X_Lo r_At_X_Hi r_At_Y_Lo r_At_Y_Hi r_From_X r_From_Y r_To_X r_To_Y r_Far), .int .i64 (sighting_Box_3 r_Ship r_Number r_Time r_Buoy r_At_X_Lo r_At_X_Hi r_At_Y_Lo r_At_Y_Hi r_From_X r_From_Y r_To_X r_To_Y r_Far)], .int .i64 (sighting_Box_4 r_Ship r_Number r_Time r_Buoy r_At_X_Lo r_At_X_Hi r_At_Y_Lo r_At_Y_Hi r_From_X r_From_Y r_To_X r_To_Y r_Far)]⟩ := by kernel_rfl
noncomputable def sighting_Box_eff : List U → Option Eff
  | [.i r_Ship, .i r_Number, .i r_Time, .i r_Buoy, .i r_At_X_Lo, .i r_At_X_Hi, .i r_At_Y_Lo, .i r_At_Y_Hi, .i r_From_X, .i r_From_Y, .i r_To_X, .i r_To_Y, .i r_Far] => some ⟨none, [], 0, [], .tup [.agg [.int .i64 (sighting_Box_0 r_Ship r_Number r_Time r_Buoy r_At_X_Lo r_At_X_Hi r_At_Y_Lo r_At_Y_Hi r_From_X r_From_Y r_To_X r_To_Y r_Far), .int .i64 (sighting_Box_1 r_Ship r_Number r_Time r_Buoy r_At_X_Lo r_At_X_Hi r_At_Y_Lo r_At_Y_Hi r_From_X r_From_Y r_To_X r_To_Y r_Far), .int .i64 (sighting_Box_2 r_Ship r_Number r_Time r_Buoy r_At_X_Lo r_At_X_Hi r_At_Y_Lo r_At_Y_Hi r_From_X r_From_Y r_To_X r_To_Y r_Far), .int .i64 (sighting_Box_3 r_Ship r_Number r_Time r_Buoy r_At_X_Lo r_At_X_Hi r_At_Y_Lo r_At_Y_Hi r_From_X r_From_Y r_To_X r_To_Y r_Far)], .int .i64 (sighting_Box_4 r_Ship r_Number r_Time r_Buoy r_At_X_Lo r_At_X_Hi r_At_Y_Lo r_At_Y_Hi r_From_X r_From_Y r_To_X r_To_Y r_Far)]⟩
  | _ => Option.none
noncomputable def S25 : Con := ext Try.prog S24 18 [.agg [.int .i64 0, .int .i64 0, .int .i64 0, .int .i64 0, .int .i64 0, .int .i64 0, .int .i64 0, .int .i64 0, .int .i64 0, .int .i64 0, .int .i64 0, .int .i64 0, .int .i64 0]] [] sighting_Box_eff
theorem S25_ok : ConOk Try.prog S25 := conOk_ext S24_ok (n := 9) rfl rfl fun us x h => by
  unfold sighting_Box_eff at h
  split at h
  · cases h; exact ⟨none, sighting_Box_col _ _ _ _ _ _ _ _ _ _ _ _ _, fun _ => trivial⟩
  · cases h
theorem ref24_Box_col (r_Ship r_Number r_Time r_Buoy r_At_X_Lo r_At_X_Hi r_At_Y_Lo r_At_Y_Hi r_From_X r_From_Y r_To_X r_To_Y r_Far : Int) : collapse Try.prog 0 (execFn Try.prog S25 9 19 [.agg [.int .i64 r_Ship, .int .i64 r_Number, .int .i64 r_Time, .int .i64 r_Buoy, .int .i64 r_At_X_Lo, .int .i64 r_At_X_Hi, .int .i64 r_At_Y_Lo, .int .i64 r_At_Y_Hi, .int .i64 r_From_X, .int .i64 r_From_Y, .int .i64 r_To_X, .int .i64 r_To_Y, .int .i64 r_Far]] ⟨[], 0⟩) = some ⟨none, [], 0, [], .tup [.agg [.int .i64 (ref24_Box_0 r_Ship r_Number r_Time r_Buoy r_At_X_Lo r_At_X_Hi r_At_Y_Lo r_At_Y_Hi r_From_X r_From_Y r_To_X r_To_Y r_Far), .int .i64 (ref24_Box_1 r_Ship r_Number r_Time r_Buoy r_At_X_Lo r_At_X_Hi r_At_Y_Lo r_At_Y_Hi r_From_X r_From_Y r_To_X r_To_Y r_Far), .int .i64 (ref24_Box_2 r_Ship r_Number r_Time r_Buoy r_At_X_Lo r_At_X_Hi r_At_Y_Lo r_At_Y_Hi r_From_X r_From_Y r_To_X r_To_Y r_Far), .int .i64 (ref24_Box_3 r_Ship r_Number r_Time r_Buoy r_At_X_Lo r_At_X_Hi r_At_Y_Lo r_At_Y_Hi r_From_X r_From_Y r_To_X r_To_Y r_Far)], .int .i64 (ref24_Box_4 r_Ship r_Number r_Time r_Buoy r_At_X_Lo r_At_X_Hi r_At_Y_Lo r_At_Y_Hi r_From_X r_From_Y r_To_X r_To_Y r_Far)]⟩ := by kernel_rfl
noncomputable def ref24_Box_eff : List U → Option Eff
  | [.i r_Ship, .i r_Number, .i r_Time, .i r_Buoy, .i r_At_X_Lo, .i r_At_X_Hi, .i r_At_Y_Lo, .i r_At_Y_Hi, .i r_From_X, .i r_From_Y, .i r_To_X, .i r_To_Y, .i r_Far] => some ⟨none, [], 0, [], .tup [.agg [.int .i64 (ref24_Box_0 r_Ship r_Number r_Time r_Buoy r_At_X_Lo r_At_X_Hi r_At_Y_Lo r_At_Y_Hi r_From_X r_From_Y r_To_X r_To_Y r_Far), .int .i64 (ref24_Box_1 r_Ship r_Number r_Time r_Buoy r_At_X_Lo r_At_X_Hi r_At_Y_Lo r_At_Y_Hi r_From_X r_From_Y r_To_X r_To_Y r_Far), .int .i64 (ref24_Box_2 r_Ship r_Number r_Time r_Buoy r_At_X_Lo r_At_X_Hi r_At_Y_Lo r_At_Y_Hi r_From_X r_From_Y r_To_X r_To_Y r_Far), .int .i64 (ref24_Box_3 r_Ship r_Number r_Time r_Buoy r_At_X_Lo r_At_X_Hi r_At_Y_Lo r_At_Y_Hi r_From_X r_From_Y r_To_X r_To_Y r_Far)], .int .i64 (ref24_Box_4 r_Ship r_Number r_Time r_Buoy r_At_X_Lo r_At_X_Hi r_At_Y_Lo r_At_Y_Hi r_From_X r_From_Y r_To_X r_To_Y r_Far)]⟩
  | _ => Option.none
noncomputable def S26 : Con := ext Try.prog S25 19 [.agg [.int .i64 0, .int .i64 0, .int .i64 0, .int .i64 0, .int .i64 0, .int .i64 0, .int .i64 0, .int .i64 0, .int .i64 0, .int .i64 0, .int .i64 0, .int .i64 0, .int .i64 0]] [] ref24_Box_eff
theorem S26_ok : ConOk Try.prog S26 := conOk_ext S25_ok (n := 9) rfl rfl fun us x h => by
  unfold ref24_Box_eff at h
  split at h
  · cases h; exact ⟨none, ref24_Box_col _ _ _ _ _ _ _ _ _ _ _ _ _, fun _ => trivial⟩
  · cases h
theorem sighting_leads_col (s_Lo s_Hi from_ to_ : Int) : collapse Try.prog 0 (execFn Try.prog S26 9 64 [.agg [.int .i64 s_Lo, .int .i64 s_Hi], .int .i64 from_, .int .i64 to_] ⟨[], 0⟩) = some ⟨none, [], 0, [], .bool (sighting_leads_0 s_Lo s_Hi from_ to_)⟩ := by kernel_rfl
noncomputable def sighting_leads_eff : List U → Option Eff
  | [.i s_Lo, .i s_Hi, .i from_, .i to_] => some ⟨none, [], 0, [], .bool (sighting_leads_0 s_Lo s_Hi from_ to_)⟩
  | _ => Option.none
noncomputable def S27 : Con := ext Try.prog S26 64 [.agg [.int .i64 0, .int .i64 0], .int .i64 0, .int .i64 0] [] sighting_leads_eff
theorem S27_ok : ConOk Try.prog S27 := conOk_ext S26_ok (n := 9) rfl rfl fun us x h => by
  unfold sighting_leads_eff at h
  split at h
  · cases h; exact ⟨none, sighting_leads_col _ _ _ _, fun _ => trivial⟩
  · cases h
theorem ref24_cone_col (from__X from__Y to__X to__Y b_X_Lo b_X_Hi b_Y_Lo b_Y_Hi : Int) : collapse Try.prog 0 (execFn Try.prog S27 9 58 [.agg [.int .i64 from__X, .int .i64 from__Y], .agg [.int .i64 to__X, .int .i64 to__Y], .agg [.int .i64 b_X_Lo, .int .i64 b_X_Hi, .int .i64 b_Y_Lo, .int .i64 b_Y_Hi]] ⟨[], 0⟩) = some ⟨none, [], 0, [], .bool (ref24_cone_0 from__X from__Y to__X to__Y b_X_Lo b_X_Hi b_Y_Lo b_Y_Hi)⟩ := by kernel_rfl
noncomputable def ref24_cone_eff : List U → Option Eff
  | [.i from__X, .i from__Y, .i to__X, .i to__Y, .i b_X_Lo, .i b_X_Hi, .i b_Y_Lo, .i b_Y_Hi] => some ⟨none, [], 0, [], .bool (ref24_cone_0 from__X from__Y to__X to__Y b_X_Lo b_X_Hi b_Y_Lo b_Y_Hi)⟩
  | _ => Option.none
noncomputable def S28 : Con := ext Try.prog S27 58 [.agg [.int .i64 0, .int .i64 0], .agg [.int .i64 0, .int .i64 0], .agg [.int .i64 0, .int .i64 0, .int .i64 0, .int .i64 0]] [] ref24_cone_eff
theorem S28_ok : ConOk Try.prog S28 := conOk_ext S27_ok (n := 9) rfl rfl fun us x h => by
  unfold ref24_cone_eff at h
  split at h
  · cases h; exact ⟨none, ref24_cone_col _ _ _ _ _ _ _ _, fun _ => trivial⟩
  · cases h
theorem ref24_sees_col (r_Ship r_Number r_Time r_Buoy r_At_X_Lo r_At_X_Hi r_At_Y_Lo r_At_Y_Hi r_From_X r_From_Y r_To_X r_To_Y r_Far b_X_Lo b_X_Hi b_Y_Lo b_Y_Hi : Int) : collapse Try.prog 0 (execFn Try.prog S28 9 46 [.agg [.int .i64 r_Ship, .int .i64 r_Number, .int .i64 r_Time, .int .i64 r_Buoy, .int .i64 r_At_X_Lo, .int .i64 r_At_X_Hi, .int .i64 r_At_Y_Lo, .int .i64 r_At_Y_Hi, .int .i64 r_From_X, .int .i64 r_From_Y, .int .i64 r_To_X, .int .i64 r_To_Y, .int .i64 r_Far], .agg [.int .i64 b_X_Lo, .int .i64 b_X_Hi, .int .i64 b_Y_Lo, .int .i64 b_Y_Hi]] ⟨[], 0⟩) = some ⟨none, [], 0, [], .bool (ref24_sees_0 r_Ship r_Number r_Time r_Buoy r_At_X_Lo r_At_X_Hi r_At_Y_Lo r_At_Y_Hi r_From_X r_From_Y r_To_X r_To_Y r_Far b_X_Lo b_X_Hi b_Y_Lo b_Y_Hi)⟩ := by kernel_rfl
noncomputable def ref24_sees_eff : List U → Option Eff
  | [.i r_Ship, .i r_Number, .i r_Time, .i r_Buoy, .i r_At_X_Lo, .i r_At_X_Hi, .i r_At_Y_Lo, .i r_At_Y_Hi, .i r_From_X, .i r_From_Y, .i r_To_X, .i r_To_Y, .i r_Far, .i b_X_Lo, .i b_X_Hi, .i b_Y_Lo, .i b_Y_Hi] => some ⟨none, [], 0, [], .bool (ref24_sees_0 r_Ship r_Number r_Time r_Buoy r_At_X_Lo r_At_X_Hi r_At_Y_Lo r_At_Y_Hi r_From_X r_From_Y r_To_X r_To_Y r_Far b_X_Lo b_X_Hi b_Y_Lo b_Y_Hi)⟩
  | _ => Option.none
noncomputable def S29 : Con := ext Try.prog S28 46 [.agg [.int .i64 0, .int .i64 0, .int .i64 0, .int .i64 0, .int .i64 0, .int .i64 0, .int .i64 0, .int .i64 0, .int .i64 0, .int .i64 0, .int .i64 0, .int .i64 0, .int .i64 0], .agg [.int .i64 0, .int .i64 0, .int .i64 0, .int .i64 0]] [] ref24_sees_eff
theorem S29_ok : ConOk Try.prog S29 := conOk_ext S28_ok (n := 9) rfl rfl fun us x h => by
  unfold ref24_sees_eff at h
  split at h
  · cases h; exact ⟨none, ref24_sees_col _ _ _ _ _ _ _ _ _ _ _ _ _ _ _ _ _, fun _ => trivial⟩
  · cases h
theorem ref24_Allows_col (r_Ship r_Number r_Time r_Buoy r_At_X_Lo r_At_X_Hi r_At_Y_Lo r_At_Y_Hi r_From_X r_From_Y r_To_X r_To_Y r_Far p_X p_Y : Int) : collapse Try.prog 0 (execFn Try.prog S29 9 15 [.agg [.int .i64 r_Ship, .int .i64 r_Number, .int .i64 r_Time, .int .i64 r_Buoy, .int .i64 r_At_X_Lo, .int .i64 r_At_X_Hi, .int .i64 r_At_Y_Lo, .int .i64 r_At_Y_Hi, .int .i64 r_From_X, .int .i64 r_From_Y, .int .i64 r_To_X, .int .i64 r_To_Y, .int .i64 r_Far], .agg [.int .i64 p_X, .int .i64 p_Y]] ⟨[], 0⟩) = some ⟨none, [], 0, [], .tup [.bool (ref24_Allows_0 r_Ship r_Number r_Time r_Buoy r_At_X_Lo r_At_X_Hi r_At_Y_Lo r_At_Y_Hi r_From_X r_From_Y r_To_X r_To_Y r_Far p_X p_Y), .int .i64 (ref24_Allows_1 r_Ship r_Number r_Time r_Buoy r_At_X_Lo r_At_X_Hi r_At_Y_Lo r_At_Y_Hi r_From_X r_From_Y r_To_X r_To_Y r_Far p_X p_Y)]⟩ := by kernel_rfl
noncomputable def ref24_Allows_eff : List U → Option Eff
  | [.i r_Ship, .i r_Number, .i r_Time, .i r_Buoy, .i r_At_X_Lo, .i r_At_X_Hi, .i r_At_Y_Lo, .i r_At_Y_Hi, .i r_From_X, .i r_From_Y, .i r_To_X, .i r_To_Y, .i r_Far, .i p_X, .i p_Y] => some ⟨none, [], 0, [], .tup [.bool (ref24_Allows_0 r_Ship r_Number r_Time r_Buoy r_At_X_Lo r_At_X_Hi r_At_Y_Lo r_At_Y_Hi r_From_X r_From_Y r_To_X r_To_Y r_Far p_X p_Y), .int .i64 (ref24_Allows_1 r_Ship r_Number r_Time r_Buoy r_At_X_Lo r_At_X_Hi r_At_Y_Lo r_At_Y_Hi r_From_X r_From_Y r_To_X r_To_Y r_Far p_X p_Y)]⟩
  | _ => Option.none
noncomputable def S30 : Con := ext Try.prog S29 15 [.agg [.int .i64 0, .int .i64 0, .int .i64 0, .int .i64 0, .int .i64 0, .int .i64 0, .int .i64 0, .int .i64 0, .int .i64 0, .int .i64 0, .int .i64 0, .int .i64 0, .int .i64 0], .agg [.int .i64 0, .int .i64 0]] [] ref24_Allows_eff
theorem S30_ok : ConOk Try.prog S30 := conOk_ext S29_ok (n := 9) rfl rfl fun us x h => by
  unfold ref24_Allows_eff at h
  split at h
  · cases h; exact ⟨none, ref24_Allows_col _ _ _ _ _ _ _ _ _ _ _ _ _ _ _, fun _ => trivial⟩
  · cases h
theorem ref24_Wedge_col (r_Ship r_Number r_Time r_Buoy r_At_X_Lo r_At_X_Hi r_At_Y_Lo r_At_Y_Hi r_From_X r_From_Y r_To_X r_To_Y r_Far b_X_Lo b_X_Hi b_Y_Lo b_Y_Hi : Int) : collapse Try.prog 0 (execFn Try.prog S30 9 17 [.agg [.int .i64 r_Ship, .int .i64 r_Number, .int .i64 r_Time, .int .i64 r_Buoy, .int .i64 r_At_X_Lo, .int .i64 r_At_X_Hi, .int .i64 r_At_Y_Lo, .int .i64 r_At_Y_Hi, .int .i64 r_From_X, .int .i64 r_From_Y, .int .i64 r_To_X, .int .i64 r_To_Y, .int .i64 r_Far], .agg [.int .i64 b_X_Lo, .int .i64 b_X_Hi, .int .i64 b_Y_Lo, .int .i64 b_Y_Hi]] ⟨[], 0⟩) = some ⟨none, [], 0, [], .tup [.bool (ref24_Wedge_0 r_Ship r_Number r_Time r_Buoy r_At_X_Lo r_At_X_Hi r_At_Y_Lo r_At_Y_Hi r_From_X r_From_Y r_To_X r_To_Y r_Far b_X_Lo b_X_Hi b_Y_Lo b_Y_Hi), .int .i64 (ref24_Wedge_1 r_Ship r_Number r_Time r_Buoy r_At_X_Lo r_At_X_Hi r_At_Y_Lo r_At_Y_Hi r_From_X r_From_Y r_To_X r_To_Y r_Far b_X_Lo b_X_Hi b_Y_Lo b_Y_Hi)]⟩ := by kernel_rfl
noncomputable def ref24_Wedge_eff : List U → Option Eff
  | [.i r_Ship, .i r_Number, .i r_Time, .i r_Buoy, .i r_At_X_Lo, .i r_At_X_Hi, .i r_At_Y_Lo, .i r_At_Y_Hi, .i r_From_X, .i r_From_Y, .i r_To_X, .i r_To_Y, .i r_Far, .i b_X_Lo, .i b_X_Hi, .i b_Y_Lo, .i b_Y_Hi] => some ⟨none, [], 0, [], .tup [.bool (ref24_Wedge_0 r_Ship r_Number r_Time r_Buoy r_At_X_Lo r_At_X_Hi r_At_Y_Lo r_At_Y_Hi r_From_X r_From_Y r_To_X r_To_Y r_Far b_X_Lo b_X_Hi b_Y_Lo b_Y_Hi), .int .i64 (ref24_Wedge_1 r_Ship r_Number r_Time r_Buoy r_At_X_Lo r_At_X_Hi r_At_Y_Lo r_At_Y_Hi r_From_X r_From_Y r_To_X r_To_Y r_Far b_X_Lo b_X_Hi b_Y_Lo b_Y_Hi)]⟩
  | _ => Option.none
noncomputable def S31 : Con := ext Try.prog S30 17 [.agg [.int .i64 0, .int .i64 0, .int .i64 0, .int .i64 0, .int .i64 0, .int .i64 0, .int .i64 0, .int .i64 0, .int .i64 0, .int .i64 0, .int .i64 0, .int .i64 0, .int .i64 0], .agg [.int .i64 0, .int .i64 0, .int .i64 0, .int .i64 0]] [] ref24_Wedge_eff
theorem S31_ok : ConOk Try.prog S31 := conOk_ext S30_ok (n := 9) rfl rfl fun us x h => by
  unfold ref24_Wedge_eff at h
  split at h
  · cases h; exact ⟨none, ref24_Wedge_col _ _ _ _ _ _ _ _ _ _ _ _ _ _ _ _ _, fun _ => trivial⟩
  · cases h
theorem ref24_Reports_col (list : List (List Int)) : collapse Try.prog 1 (execFn Try.prog S31 9 50 [.sl 0] ⟨[⟨0, 1, false, .row 29 [.int .i64, .int .i64, .int .i64, .int .i64, .int .i64, .int .i64, .int .i64, .int .i64, .int .i64, .int .i64, .int .i64, .int .i64, .int .i64] list⟩], 1⟩) = some ⟨some (ref24_Reports_pre list), [], 0, [], .bool (ref24_Reports_0 list)⟩ := by kernel_rfl
noncomputable def ref24_Reports_eff : List U → Option Eff
  | [.r list] => some ⟨some (ref24_Reports_pre list), [], 0, [], .bool (ref24_Reports_0 list)⟩
  | _ => Option.none
noncomputable def S32 : Con := ext Try.prog S31 50 [.sl 0] [⟨0, 0, false, .row 29 [.int .i64, .int .i64, .int .i64, .int .i64, .int .i64, .int .i64, .int .i64, .int .i64, .int .i64, .int .i64, .int .i64, .int .i64, .int .i64] []⟩] ref24_Reports_eff
theorem S32_ok : ConOk Try.prog S32 := conOk_ext S31_ok (n := 9) rfl rfl fun us x h => by
  unfold ref24_Reports_eff at h
  split at h
  · cases h; exact ⟨some (ref24_Reports_pre _), ref24_Reports_col _, fun h => h⟩
  · cases h
theorem ref24_Merge_col (list : List (List Int)) : collapse Try.prog 1 (execFn Try.prog S32 9 21 [.sl 0] ⟨[⟨0, 1, false, .row 29 [.int .i64, .int .i64, .int .i64, .int .i64, .int .i64, .int .i64, .int .i64, .int .i64, .int .i64, .int .i64, .int .i64, .int .i64, .int .i64] list⟩], 1⟩) = some ⟨some (ref24_Merge_pre list), [], 2, [⟨1, 1, true, .row 29 [.int .i64, .int .i64, .int .i64, .int .i64, .int .i64, .int .i64, .int .i64, .int .i64, .int .i64, .int .i64, .int .i64, .int .i64, .int .i64] (ref24_Merge_0 list)⟩, ⟨2, 1, true, .row 3 [.int .i64] (ref24_Merge_1 list)⟩], .tup [.sl 1, .sl 2, .int .i64 (ref24_Merge_2 list)]⟩ := by kernel_rfl
noncomputable def ref24_Merge_eff : List U → Option Eff
  | [.r list] => some ⟨some (ref24_Merge_pre list), [], 2, [⟨1, 1, true, .row 29 [.int .i64, .int .i64, .int .i64, .int .i64, .int .i64, .int .i64, .int .i64, .int .i64, .int .i64, .int .i64, .int .i64, .int .i64, .int .i64] (ref24_Merge_0 list)⟩, ⟨2, 1, true, .row 3 [.int .i64] (ref24_Merge_1 list)⟩], .tup [.sl 1, .sl 2, .int .i64 (ref24_Merge_2 list)]⟩
  | _ => Option.none
noncomputable def S33 : Con := ext Try.prog S32 21 [.sl 0] [⟨0, 0, false, .row 29 [.int .i64, .int .i64, .int .i64, .int .i64, .int .i64, .int .i64, .int .i64, .int .i64, .int .i64, .int .i64, .int .i64, .int .i64, .int .i64] []⟩] ref24_Merge_eff
theorem S33_ok : ConOk Try.prog S33 := conOk_ext S32_ok (n := 9) rfl rfl fun us x h => by
  unfold ref24_Merge_eff at h
  split at h
  · cases h; exact ⟨some (ref24_Merge_pre _), ref24_Merge_col _, fun h => h⟩
  · cases h
theorem ref24_Wrong_col (p_X p_Y : Int) (list : List (List Int)) : collapse Try.prog 1 (execFn Try.prog S33 9 25 [.sl 0, .agg [.int .i64 p_X, .int .i64 p_Y]] ⟨[⟨0, 1, false, .row 29 [.int .i64, .int .i64, .int .i64, .int .i64, .int .i64, .int .i64, .int .i64, .int .i64, .int .i64, .int .i64, .int .i64, .int .i64, .int .i64] list⟩], 1⟩) = some ⟨some (ref24_Wrong_pre p_X p_Y list), [], 1, [⟨1, 1, true, .row 3 [.int .i64] (ref24_Wrong_0 p_X p_Y list)⟩], .tup [.sl 1, .int .i64 (ref24_Wrong_1 p_X p_Y list)]⟩ := by kernel_rfl
noncomputable def ref24_Wrong_eff : List U → Option Eff
  | [.i p_X, .i p_Y, .r list] => some ⟨some (ref24_Wrong_pre p_X p_Y list), [], 1, [⟨1, 1, true, .row 3 [.int .i64] (ref24_Wrong_0 p_X p_Y list)⟩], .tup [.sl 1, .int .i64 (ref24_Wrong_1 p_X p_Y list)]⟩
  | _ => Option.none
noncomputable def S34 : Con := ext Try.prog S33 25 [.sl 0, .agg [.int .i64 0, .int .i64 0]] [⟨0, 0, false, .row 29 [.int .i64, .int .i64, .int .i64, .int .i64, .int .i64, .int .i64, .int .i64, .int .i64, .int .i64, .int .i64, .int .i64, .int .i64, .int .i64] []⟩] ref24_Wrong_eff
theorem S34_ok : ConOk Try.prog S34 := conOk_ext S33_ok (n := 9) rfl rfl fun us x h => by
  unfold ref24_Wrong_eff at h
  split at h
  · cases h; exact ⟨some (ref24_Wrong_pre _ _ _), ref24_Wrong_col _ _ _, fun h => h⟩
  · cases h
theorem sighting_cone_meets_col (c_from_X c_from_Y c_to_X c_to_Y b_X_Lo b_X_Hi b_Y_Lo b_Y_Hi : Int) : collapse Try.prog 0 (execFn Try.prog S34 9 57 [.agg [.int .i64 c_from_X, .int .i64 c_from_Y, .int .i64 c_to_X, .int .i64 c_to_Y], .agg [.int .i64 b_X_Lo, .int .i64 b_X_Hi, .int .i64 b_Y_Lo, .int .i64 b_Y_Hi]] ⟨[], 0⟩) = some ⟨none, [], 0, [], .bool (sighting_cone_meets_0 c_from_X c_from_Y c_to_X c_to_Y b_X_Lo b_X_Hi b_Y_Lo b_Y_Hi)⟩ := by kernel_rfl
noncomputable def sighting_cone_meets_eff : List U → Option Eff
  | [.i c_from_X, .i c_from_Y, .i c_to_X, .i c_to_Y, .i b_X_Lo, .i b_X_Hi, .i b_Y_Lo, .i b_Y_Hi] => some ⟨none, [], 0, [], .bool (sighting_cone_meets_0 c_from_X c_from_Y c_to_X c_to_Y b_X_Lo b_X_Hi b_Y_Lo b_Y_Hi)⟩
  | _ => Option.none
noncomputable def S35 : Con := ext Try.prog S34 57 [.agg [.int .i64 0, .int .i64 0, .int .i64 0, .int .i64 0], .agg [.int .i64 0, .int .i64 0, .int .i64 0, .int .i64 0]] [] sighting_cone_meets_eff
theorem S35_ok : ConOk Try.prog S35 := conOk_ext S34_ok (n := 9) rfl rfl fun us x h => by
  unfold sighting_cone_meets_eff at h
  split at h
  · cases h; exact ⟨none, sighting_cone_meets_col _ _ _ _ _ _ _ _, fun _ => trivial⟩
  · cases h
theorem sighting_sees_col (r_Ship r_Number r_Time r_Buoy r_At_X_Lo r_At_X_Hi r_At_Y_Lo r_At_Y_Hi r_From_X r_From_Y r_To_X r_To_Y r_Far b_X_Lo b_X_Hi b_Y_Lo b_Y_Hi : Int) : collapse Try.prog 0 (execFn Try.prog S35 9 45 [.agg [.int .i64 r_Ship, .int .i64 r_Number, .int .i64 r_Time, .int .i64 r_Buoy, .int .i64 r_At_X_Lo, .int .i64 r_At_X_Hi, .int .i64 r_At_Y_Lo, .int .i64 r_At_Y_Hi, .int .i64 r_From_X, .int .i64 r_From_Y, .int .i64 r_To_X, .int .i64 r_To_Y, .int .i64 r_Far], .agg [.int .i64 b_X_Lo, .int .i64 b_X_Hi, .int .i64 b_Y_Lo, .int .i64 b_Y_Hi]] ⟨[], 0⟩) = some ⟨none, [], 0, [], .bool (sighting_sees_0 r_Ship r_Number r_Time r_Buoy r_At_X_Lo r_At_X_Hi r_At_Y_Lo r_At_Y_Hi r_From_X r_From_Y r_To_X r_To_Y r_Far b_X_Lo b_X_Hi b_Y_Lo b_Y_Hi)⟩ := by kernel_rfl
noncomputable def sighting_sees_eff : List U → Option Eff
  | [.i r_Ship, .i r_Number, .i r_Time, .i r_Buoy, .i r_At_X_Lo, .i r_At_X_Hi, .i r_At_Y_Lo, .i r_At_Y_Hi, .i r_From_X, .i r_From_Y, .i r_To_X, .i r_To_Y, .i r_Far, .i b_X_Lo, .i b_X_Hi, .i b_Y_Lo, .i b_Y_Hi] => some ⟨none, [], 0, [], .bool (sighting_sees_0 r_Ship r_Number r_Time r_Buoy r_At_X_Lo r_At_X_Hi r_At_Y_Lo r_At_Y_Hi r_From_X r_From_Y r_To_X r_To_Y r_Far b_X_Lo b_X_Hi b_Y_Lo b_Y_Hi)⟩
  | _ => Option.none
noncomputable def S36 : Con := ext Try.prog S35 45 [.agg [.int .i64 0, .int .i64 0, .int .i64 0, .int .i64 0, .int .i64 0, .int .i64 0, .int .i64 0, .int .i64 0, .int .i64 0, .int .i64 0, .int .i64 0, .int .i64 0, .int .i64 0], .agg [.int .i64 0, .int .i64 0, .int .i64 0, .int .i64 0]] [] sighting_sees_eff
theorem S36_ok : ConOk Try.prog S36 := conOk_ext S35_ok (n := 9) rfl rfl fun us x h => by
  unfold sighting_sees_eff at h
  split at h
  · cases h; exact ⟨none, sighting_sees_col _ _ _ _ _ _ _ _ _ _ _ _ _ _ _ _ _, fun _ => trivial⟩
  · cases h
theorem sighting_Allows_col (r_Ship r_Number r_Time r_Buoy r_At_X_Lo r_At_X_Hi r_At_Y_Lo r_At_Y_Hi r_From_X r_From_Y r_To_X r_To_Y r_Far p_X p_Y : Int) : collapse Try.prog 0 (execFn Try.prog S36 9 14 [.agg [.int .i64 r_Ship, .int .i64 r_Number, .int .i64 r_Time, .int .i64 r_Buoy, .int .i64 r_At_X_Lo, .int .i64 r_At_X_Hi, .int .i64 r_At_Y_Lo, .int .i64 r_At_Y_Hi, .int .i64 r_From_X, .int .i64 r_From_Y, .int .i64 r_To_X, .int .i64 r_To_Y, .int .i64 r_Far], .agg [.int .i64 p_X, .int .i64 p_Y]] ⟨[], 0⟩) = some ⟨none, [], 0, [], .tup [.bool (sighting_Allows_0 r_Ship r_Number r_Time r_Buoy r_At_X_Lo r_At_X_Hi r_At_Y_Lo r_At_Y_Hi r_From_X r_From_Y r_To_X r_To_Y r_Far p_X p_Y), .int .i64 (sighting_Allows_1 r_Ship r_Number r_Time r_Buoy r_At_X_Lo r_At_X_Hi r_At_Y_Lo r_At_Y_Hi r_From_X r_From_Y r_To_X r_To_Y r_Far p_X p_Y)]⟩ := by kernel_rfl
noncomputable def sighting_Allows_eff : List U → Option Eff
  | [.i r_Ship, .i r_Number, .i r_Time, .i r_Buoy, .i r_At_X_Lo, .i r_At_X_Hi, .i r_At_Y_Lo, .i r_At_Y_Hi, .i r_From_X, .i r_From_Y, .i r_To_X, .i r_To_Y, .i r_Far, .i p_X, .i p_Y] => some ⟨none, [], 0, [], .tup [.bool (sighting_Allows_0 r_Ship r_Number r_Time r_Buoy r_At_X_Lo r_At_X_Hi r_At_Y_Lo r_At_Y_Hi r_From_X r_From_Y r_To_X r_To_Y r_Far p_X p_Y), .int .i64 (sighting_Allows_1 r_Ship r_Number r_Time r_Buoy r_At_X_Lo r_At_X_Hi r_At_Y_Lo r_At_Y_Hi r_From_X r_From_Y r_To_X r_To_Y r_Far p_X p_Y)]⟩
  | _ => Option.none
noncomputable def S37 : Con := ext Try.prog S36 14 [.agg [.int .i64 0, .int .i64 0, .int .i64 0, .int .i64 0, .int .i64 0, .int .i64 0, .int .i64 0, .int .i64 0, .int .i64 0, .int .i64 0, .int .i64 0, .int .i64 0, .int .i64 0], .agg [.int .i64 0, .int .i64 0]] [] sighting_Allows_eff
theorem S37_ok : ConOk Try.prog S37 := conOk_ext S36_ok (n := 9) rfl rfl fun us x h => by
  unfold sighting_Allows_eff at h
  split at h
  · cases h; exact ⟨none, sighting_Allows_col _ _ _ _ _ _ _ _ _ _ _ _ _ _ _, fun _ => trivial⟩
  · cases h
theorem sighting_Wedge_col (r_Ship r_Number r_Time r_Buoy r_At_X_Lo r_At_X_Hi r_At_Y_Lo r_At_Y_Hi r_From_X r_From_Y r_To_X r_To_Y r_Far b_X_Lo b_X_Hi b_Y_Lo b_Y_Hi : Int) : collapse Try.prog 0 (execFn Try.prog S37 9 16 [.agg [.int .i64 r_Ship, .int .i64 r_Number, .int .i64 r_Time, .int .i64 r_Buoy, .int .i64 r_At_X_Lo, .int .i64 r_At_X_Hi, .int .i64 r_At_Y_Lo, .int .i64 r_At_Y_Hi, .int .i64 r_From_X, .int .i64 r_From_Y, .int .i64 r_To_X, .int .i64 r_To_Y, .int .i64 r_Far], .agg [.int .i64 b_X_Lo, .int .i64 b_X_Hi, .int .i64 b_Y_Lo, .int .i64 b_Y_Hi]] ⟨[], 0⟩) = some ⟨none, [], 0, [], .tup [.bool (sighting_Wedge_0 r_Ship r_Number r_Time r_Buoy r_At_X_Lo r_At_X_Hi r_At_Y_Lo r_At_Y_Hi r_From_X r_From_Y r_To_X r_To_Y r_Far b_X_Lo b_X_Hi b_Y_Lo b_Y_Hi), .int .i64 (sighting_Wedge_1 r_Ship r_Number r_Time r_Buoy r_At_X_Lo r_At_X_Hi r_At_Y_Lo r_At_Y_Hi r_From_X r_From_Y r_To_X r_To_Y r_Far b_X_Lo b_X_Hi b_Y_Lo b_Y_Hi)]⟩ := by kernel_rfl
noncomputable def sighting_Wedge_eff : List U → Option Eff
  | [.i r_Ship, .i r_Number, .i r_Time, .i r_Buoy, .i r_At_X_Lo, .i r_At_X_Hi, .i r_At_Y_Lo, .i r_At_Y_Hi, .i r_From_X, .i r_From_Y, .i r_To_X, .i r_To_Y, .i r_Far, .i b_X_Lo, .i b_X_Hi, .i b_Y_Lo, .i b_Y_Hi] => some ⟨none, [], 0, [], .tup [.bool (sighting_Wedge_0 r_Ship r_Number r_Time r_Buoy r_At_X_Lo r_At_X_Hi r_At_Y_Lo r_At_Y_Hi r_From_X r_From_Y r_To_X r_To_Y r_Far b_X_Lo b_X_Hi b_Y_Lo b_Y_Hi), .int .i64 (sighting_Wedge_1 r_Ship r_Number r_Time r_Buoy r_At_X_Lo r_At_X_Hi r_At_Y_Lo r_At_Y_Hi r_From_X r_From_Y r_To_X r_To_Y r_Far b_X_Lo b_X_Hi b_Y_Lo b_Y_Hi)]⟩
  | _ => Option.none
noncomputable def S38 : Con := ext Try.prog S37 16 [.agg [.int .i64 0, .int .i64 0, .int .i64 0, .int .i64 0, .int .i64 0, .int .i64 0, .int .i64 0, .int .i64 0, .int .i64 0, .int .i64 0, .int .i64 0, .int .i64 0, .int .i64 0], .agg [.int .i64 0, .int .i64 0, .int .i64 0, .int .i64 0]] [] sighting_Wedge_eff
theorem S38_ok : ConOk Try.prog S38 := conOk_ext S37_ok (n := 9) rfl rfl fun us x h => by
  unfold sighting_Wedge_eff at h
  split at h
  · cases h; exact ⟨none, sighting_Wedge_col _ _ _ _ _ _ _ _ _ _ _ _ _ _ _ _ _, fun _ => trivial⟩
  · cases h
theorem sighting_valid_col (list : List (List Int)) : collapse Try.prog 1 (execFn Try.prog S38 9 49 [.sl 0] ⟨[⟨0, 1, false, .row 29 [.int .i64, .int .i64, .int .i64, .int .i64, .int .i64, .int .i64, .int .i64, .int .i64, .int .i64, .int .i64, .int .i64, .int .i64, .int .i64] list⟩], 1⟩) = some ⟨some (sighting_valid_pre list), [], 0, [], .bool (sighting_valid_0 list)⟩ := by kernel_rfl
noncomputable def sighting_valid_eff : List U → Option Eff
  | [.r list] => some ⟨some (sighting_valid_pre list), [], 0, [], .bool (sighting_valid_0 list)⟩
  | _ => Option.none
noncomputable def S39 : Con := ext Try.prog S38 49 [.sl 0] [⟨0, 0, false, .row 29 [.int .i64, .int .i64, .int .i64, .int .i64, .int .i64, .int .i64, .int .i64, .int .i64, .int .i64, .int .i64, .int .i64, .int .i64, .int .i64] []⟩] sighting_valid_eff
theorem S39_ok : ConOk Try.prog S39 := conOk_ext S38_ok (n := 9) rfl rfl fun us x h => by
  unfold sighting_valid_eff at h
  split at h
  · cases h; exact ⟨some (sighting_valid_pre _), sighting_valid_col _, fun h => h⟩
  · cases h
theorem sighting_Merge_col (list : List (List Int)) : collapse Try.prog 1 (execFn Try.prog S39 9 20 [.sl 0] ⟨[⟨0, 1, false, .row 29 [.int .i64, .int .i64, .int .i64, .int .i64, .int .i64, .int .i64, .int .i64, .int .i64, .int .i64, .int .i64, .int .i64, .int .i64, .int .i64] list⟩], 1⟩) = some ⟨some (sighting_Merge_pre list), [], 2, [⟨1, 1, true, .row 29 [.int .i64, .int .i64, .int .i64, .int .i64, .int .i64, .int .i64, .int .i64, .int .i64, .int .i64, .int .i64, .int .i64, .int .i64, .int .i64] (sighting_Merge_0 list)⟩, ⟨2, 1, true, .row 3 [.int .i64] (sighting_Merge_1 list)⟩], .tup [.sl 1, .sl 2, .int .i64 (sighting_Merge_2 list)]⟩ := by kernel_rfl
noncomputable def sighting_Merge_eff : List U → Option Eff
  | [.r list] => some ⟨some (sighting_Merge_pre list), [], 2, [⟨1, 1, true, .row 29 [.int .i64, .int .i64, .int .i64, .int .i64, .int .i64, .int .i64, .int .i64, .int .i64, .int .i64, .int .i64, .int .i64, .int .i64, .int .i64] (sighting_Merge_0 list)⟩, ⟨2, 1, true, .row 3 [.int .i64] (sighting_Merge_1 list)⟩], .tup [.sl 1, .sl 2, .int .i64 (sighting_Merge_2 list)]⟩
  | _ => Option.none
noncomputable def S40 : Con := ext Try.prog S39 20 [.sl 0] [⟨0, 0, false, .row 29 [.int .i64, .int .i64, .int .i64, .int .i64, .int .i64, .int .i64, .int .i64, .int .i64, .int .i64, .int .i64, .int .i64, .int .i64, .int .i64] []⟩] sighting_Merge_eff
theorem S40_ok : ConOk Try.prog S40 := conOk_ext S39_ok (n := 9) rfl rfl fun us x h => by
  unfold sighting_Merge_eff at h
  split at h
  · cases h; exact ⟨some (sighting_Merge_pre _), sighting_Merge_col _, fun h => h⟩
  · cases h
theorem sighting_Wrong_col (p_X p_Y : Int) (list : List (List Int)) : collapse Try.prog 1 (execFn Try.prog S40 9 24 [.sl 0, .agg [.int .i64 p_X, .int .i64 p_Y]] ⟨[⟨0, 1, false, .row 29 [.int .i64, .int .i64, .int .i64, .int .i64, .int .i64, .int .i64, .int .i64, .int .i64, .int .i64, .int .i64, .int .i64, .int .i64, .int .i64] list⟩], 1⟩) = some ⟨some (sighting_Wrong_pre p_X p_Y list), [], 1, [⟨1, 1, true, .row 3 [.int .i64] (sighting_Wrong_0 p_X p_Y list)⟩], .tup [.sl 1, .int .i64 (sighting_Wrong_1 p_X p_Y list)]⟩ := by kernel_rfl
noncomputable def sighting_Wrong_eff : List U → Option Eff
  | [.i p_X, .i p_Y, .r list] => some ⟨some (sighting_Wrong_pre p_X p_Y list), [], 1, [⟨1, 1, true, .row 3 [.int .i64] (sighting_Wrong_0 p_X p_Y list)⟩], .tup [.sl 1, .int .i64 (sighting_Wrong_1 p_X p_Y list)]⟩
  | _ => Option.none
noncomputable def S41 : Con := ext Try.prog S40 24 [.sl 0, .agg [.int .i64 0, .int .i64 0]] [⟨0, 0, false, .row 29 [.int .i64, .int .i64, .int .i64, .int .i64, .int .i64, .int .i64, .int .i64, .int .i64, .int .i64, .int .i64, .int .i64, .int .i64, .int .i64] []⟩] sighting_Wrong_eff
theorem S41_ok : ConOk Try.prog S41 := conOk_ext S40_ok (n := 9) rfl rfl fun us x h => by
  unfold sighting_Wrong_eff at h
  split at h
  · cases h; exact ⟨some (sighting_Wrong_pre _ _ _), sighting_Wrong_col _ _ _, fun h => h⟩
  · cases h
end Go.Proofs.Ytcpikjablgbegaa
