/- Written by program (wip/sygen.py): the contracts of the Go functions. -/
import Derived.Test.YtnijhjpaplihbaaGreatRows
import Derived.Test.YtnijhjpaplihbaaGreatSyH
import Derived.Test.YtnijhjpaplihbaaGreatDrift1D
import Derived.Test.YtnijhjpaplihbaaGreatDrift1
import Derived.Test.YtnijhjpaplihbaaGreatSight1D
set_option maxRecDepth 100000
set_option linter.unusedVariables false
namespace Go.Proofs.YtnijhjpaplihbaaGreat
open Go Go.Sy
theorem ref24_Ints_col (a b : List (List Int)) : collapse Tryz.prog 2 (execFn Tryz.prog K18 noSeq 9 13 [.sl 0, .sl 1] ⟨[⟨0, 2, false, .row 3 [.int .i64] a⟩, ⟨1, 2, false, .row 3 [.int .i64] b⟩], 2⟩) = some ⟨some (ref24_Ints_pre a b), [], 0, [], .bool (ref24_Ints_0 a b)⟩ := by kernel_rfl
noncomputable def ref24_Ints_eff : List U → Option Eff
  | [.r a, .r b] => some ⟨some (ref24_Ints_pre a b), [], 0, [], .bool (ref24_Ints_0 a b)⟩
  | _ => Option.none
noncomputable def K19 : Con := ext Tryz.prog K18 13 [.sl 0, .sl 1] [⟨0, 0, false, .row 3 [.int .i64] []⟩, ⟨1, 0, false, .row 3 [.int .i64] []⟩] ref24_Ints_eff
theorem K19_ok : ConOk Tryz.prog K19 := conOk_ext noSeq_ok K18_ok (n := 9) rfl rfl fun us x h => by
  unfold ref24_Ints_eff at h
  split at h
  · cases h; exact ⟨some (ref24_Ints_pre _ _), ref24_Ints_col _ _, fun h => h⟩
  · cases h
theorem plane_Valid_col (p_X p_Y : Int) : collapse Tryz.prog 0 (execFn Tryz.prog K19 noSeq 9 30 [.agg [.int .i64 p_X, .int .i64 p_Y]] ⟨[], 0⟩) = some ⟨none, [], 0, [], .bool (plane_Valid_0 p_X p_Y)⟩ := by kernel_rfl
noncomputable def plane_Valid_eff : List U → Option Eff
  | [.i p_X, .i p_Y] => some ⟨none, [], 0, [], .bool (plane_Valid_0 p_X p_Y)⟩
  | _ => Option.none
noncomputable def K20 : Con := ext Tryz.prog K19 30 [.agg [.int .i64 0, .int .i64 0]] [] plane_Valid_eff
theorem K20_ok : ConOk Tryz.prog K20 := conOk_ext noSeq_ok K19_ok (n := 9) rfl rfl fun us x h => by
  unfold plane_Valid_eff at h
  split at h
  · cases h; exact ⟨none, plane_Valid_col _ _, fun _ => trivial⟩
  · cases h
theorem span_kept_col (s_Lo s_Hi : Int) : collapse Tryz.prog 0 (execFn Tryz.prog K20 noSeq 9 140 [.agg [.int .i64 s_Lo, .int .i64 s_Hi]] ⟨[], 0⟩) = some ⟨none, [], 0, [], .tup [.agg [.int .i64 (span_kept_0 s_Lo s_Hi), .int .i64 (span_kept_1 s_Lo s_Hi)], .int .i64 (span_kept_2 s_Lo s_Hi)]⟩ := by kernel_rfl
noncomputable def span_kept_eff : List U → Option Eff
  | [.i s_Lo, .i s_Hi] => some ⟨none, [], 0, [], .tup [.agg [.int .i64 (span_kept_0 s_Lo s_Hi), .int .i64 (span_kept_1 s_Lo s_Hi)], .int .i64 (span_kept_2 s_Lo s_Hi)]⟩
  | _ => Option.none
noncomputable def K21 : Con := ext Tryz.prog K20 140 [.agg [.int .i64 0, .int .i64 0]] [] span_kept_eff
theorem K21_ok : ConOk Tryz.prog K21 := conOk_ext noSeq_ok K20_ok (n := 9) rfl rfl fun us x h => by
  unfold span_kept_eff at h
  split at h
  · cases h; exact ⟨none, span_kept_col _ _, fun _ => trivial⟩
  · cases h
theorem span_Sub_col (s_Lo s_Hi t_Lo t_Hi : Int) : collapse Tryz.prog 0 (execFn Tryz.prog K21 noSeq 9 111 [.agg [.int .i64 s_Lo, .int .i64 s_Hi], .agg [.int .i64 t_Lo, .int .i64 t_Hi]] ⟨[], 0⟩) = some ⟨none, [], 0, [], .tup [.agg [.int .i64 (span_Sub_0 s_Lo s_Hi t_Lo t_Hi), .int .i64 (span_Sub_1 s_Lo s_Hi t_Lo t_Hi)], .int .i64 (span_Sub_2 s_Lo s_Hi t_Lo t_Hi)]⟩ := by kernel_rfl
noncomputable def span_Sub_eff : List U → Option Eff
  | [.i s_Lo, .i s_Hi, .i t_Lo, .i t_Hi] => some ⟨none, [], 0, [], .tup [.agg [.int .i64 (span_Sub_0 s_Lo s_Hi t_Lo t_Hi), .int .i64 (span_Sub_1 s_Lo s_Hi t_Lo t_Hi)], .int .i64 (span_Sub_2 s_Lo s_Hi t_Lo t_Hi)]⟩
  | _ => Option.none
noncomputable def K22 : Con := ext Tryz.prog K21 111 [.agg [.int .i64 0, .int .i64 0], .agg [.int .i64 0, .int .i64 0]] [] span_Sub_eff
theorem K22_ok : ConOk Tryz.prog K22 := conOk_ext noSeq_ok K21_ok (n := 9) rfl rfl fun us x h => by
  unfold span_Sub_eff at h
  split at h
  · cases h; exact ⟨none, span_Sub_col _ _ _ _, fun _ => trivial⟩
  · cases h
theorem sighting_isID_col (n : Int) : collapse Tryz.prog 0 (execFn Tryz.prog K22 noSeq 9 108 [.int .i64 n] ⟨[], 0⟩) = some ⟨none, [], 0, [], .bool (sighting_isID_0 n)⟩ := by kernel_rfl
noncomputable def sighting_isID_eff : List U → Option Eff
  | [.i n] => some ⟨none, [], 0, [], .bool (sighting_isID_0 n)⟩
  | _ => Option.none
noncomputable def K23 : Con := ext Tryz.prog K22 108 [.int .i64 0] [] sighting_isID_eff
theorem K23_ok : ConOk Tryz.prog K23 := conOk_ext noSeq_ok K22_ok (n := 9) rfl rfl fun us x h => by
  unfold sighting_isID_eff at h
  split at h
  · cases h; exact ⟨none, sighting_isID_col _, fun _ => trivial⟩
  · cases h
theorem sighting_isDirection_col (p_X p_Y : Int) : collapse Tryz.prog 0 (execFn Tryz.prog K23 noSeq 9 109 [.agg [.int .i64 p_X, .int .i64 p_Y]] ⟨[], 0⟩) = some ⟨none, [], 0, [], .bool (sighting_isDirection_0 p_X p_Y)⟩ := by kernel_rfl
noncomputable def sighting_isDirection_eff : List U → Option Eff
  | [.i p_X, .i p_Y] => some ⟨none, [], 0, [], .bool (sighting_isDirection_0 p_X p_Y)⟩
  | _ => Option.none
noncomputable def K24 : Con := ext Tryz.prog K23 109 [.agg [.int .i64 0, .int .i64 0]] [] sighting_isDirection_eff
theorem K24_ok : ConOk Tryz.prog K24 := conOk_ext noSeq_ok K23_ok (n := 9) rfl rfl fun us x h => by
  unfold sighting_isDirection_eff at h
  split at h
  · cases h; exact ⟨none, sighting_isDirection_col _ _, fun _ => trivial⟩
  · cases h
theorem sighting_cross_col (v_X v_Y w_X w_Y : Int) : collapse Tryz.prog 0 (execFn Tryz.prog K24 noSeq 9 110 [.agg [.int .i64 v_X, .int .i64 v_Y], .agg [.int .i64 w_X, .int .i64 w_Y]] ⟨[], 0⟩) = some ⟨none, [], 0, [], .int .i64 (sighting_cross_0 v_X v_Y w_X w_Y)⟩ := by kernel_rfl
noncomputable def sighting_cross_eff : List U → Option Eff
  | [.i v_X, .i v_Y, .i w_X, .i w_Y] => some ⟨none, [], 0, [], .int .i64 (sighting_cross_0 v_X v_Y w_X w_Y)⟩
  | _ => Option.none
noncomputable def K25 : Con := ext Tryz.prog K24 110 [.agg [.int .i64 0, .int .i64 0], .agg [.int .i64 0, .int .i64 0]] [] sighting_cross_eff
theorem K25_ok : ConOk Tryz.prog K25 := conOk_ext noSeq_ok K24_ok (n := 9) rfl rfl fun us x h => by
  unfold sighting_cross_eff at h
  split at h
  · cases h; exact ⟨none, sighting_cross_col _ _ _ _, fun _ => trivial⟩
  · cases h
theorem sighting_Valid_col (r_Ship r_Number r_Time r_Buoy r_At_X_Lo r_At_X_Hi r_At_Y_Lo r_At_Y_Hi r_From_X r_From_Y r_To_X r_To_Y r_Far : Int) : collapse Tryz.prog 0 (execFn Tryz.prog K25 noSeq 9 74 [.agg [.int .i64 r_Ship, .int .i64 r_Number, .int .i64 r_Time, .int .i64 r_Buoy, .int .i64 r_At_X_Lo, .int .i64 r_At_X_Hi, .int .i64 r_At_Y_Lo, .int .i64 r_At_Y_Hi, .int .i64 r_From_X, .int .i64 r_From_Y, .int .i64 r_To_X, .int .i64 r_To_Y, .int .i64 r_Far]] ⟨[], 0⟩) = some ⟨none, [], 0, [], .bool (sighting_Valid_0 r_Ship r_Number r_Time r_Buoy r_At_X_Lo r_At_X_Hi r_At_Y_Lo r_At_Y_Hi r_From_X r_From_Y r_To_X r_To_Y r_Far)⟩ := by kernel_rfl
noncomputable def sighting_Valid_eff : List U → Option Eff
  | [.i r_Ship, .i r_Number, .i r_Time, .i r_Buoy, .i r_At_X_Lo, .i r_At_X_Hi, .i r_At_Y_Lo, .i r_At_Y_Hi, .i r_From_X, .i r_From_Y, .i r_To_X, .i r_To_Y, .i r_Far] => some ⟨none, [], 0, [], .bool (sighting_Valid_0 r_Ship r_Number r_Time r_Buoy r_At_X_Lo r_At_X_Hi r_At_Y_Lo r_At_Y_Hi r_From_X r_From_Y r_To_X r_To_Y r_Far)⟩
  | _ => Option.none
noncomputable def K26 : Con := ext Tryz.prog K25 74 [.agg [.int .i64 0, .int .i64 0, .int .i64 0, .int .i64 0, .int .i64 0, .int .i64 0, .int .i64 0, .int .i64 0, .int .i64 0, .int .i64 0, .int .i64 0, .int .i64 0, .int .i64 0]] [] sighting_Valid_eff
theorem K26_ok : ConOk Tryz.prog K26 := conOk_ext noSeq_ok K25_ok (n := 9) rfl rfl fun us x h => by
  unfold sighting_Valid_eff at h
  split at h
  · cases h; exact ⟨none, sighting_Valid_col _ _ _ _ _ _ _ _ _ _ _ _ _, fun _ => trivial⟩
  · cases h
theorem sighting_reach_col (s_Lo s_Hi from_ to_ far : Int) : collapse Tryz.prog 0 (execFn Tryz.prog K26 noSeq 9 99 [.agg [.int .i64 s_Lo, .int .i64 s_Hi], .int .i64 from_, .int .i64 to_, .int .i64 far] ⟨[], 0⟩) = some ⟨none, [], 0, [], .agg [.int .i64 (sighting_reach_0 s_Lo s_Hi from_ to_ far), .int .i64 (sighting_reach_1 s_Lo s_Hi from_ to_ far)]⟩ := by kernel_rfl
noncomputable def sighting_reach_eff : List U → Option Eff
  | [.i s_Lo, .i s_Hi, .i from_, .i to_, .i far] => some ⟨none, [], 0, [], .agg [.int .i64 (sighting_reach_0 s_Lo s_Hi from_ to_ far), .int .i64 (sighting_reach_1 s_Lo s_Hi from_ to_ far)]⟩
  | _ => Option.none
noncomputable def K27 : Con := ext Tryz.prog K26 99 [.agg [.int .i64 0, .int .i64 0], .int .i64 0, .int .i64 0, .int .i64 0] [] sighting_reach_eff
theorem K27_ok : ConOk Tryz.prog K27 := conOk_ext noSeq_ok K26_ok (n := 9) rfl rfl fun us x h => by
  unfold sighting_reach_eff at h
  split at h
  · cases h; exact ⟨none, sighting_reach_col _ _ _ _ _, fun _ => trivial⟩
  · cases h
theorem sighting_Box_col (r_Ship r_Number r_Time r_Buoy r_At_X_Lo r_At_X_Hi r_At_Y_Lo r_At_Y_Hi r_From_X r_From_Y r_To_X r_To_Y r_Far : Int) : collapse Tryz.prog 0 (execFn Tryz.prog K27 noSeq 9 60 [.agg [.int .i64 r_Ship, .int .i64 r_Number, .int .i64 r_Time, .int .i64 r_Buoy, .int .i64 r_At_X_Lo, .int .i64 r_At_X_Hi, .int .i64 r_At_Y_Lo, .int .i64 r_At_Y_Hi, .int .i64 r_From_X, .int .i64 r_From_Y, .int .i64 r_To_X, .int .i64 r_To_Y, .int .i64 r_Far]] ⟨[], 0⟩) = some ⟨none, [], 0, [], .tup [.agg [.int .i64 (sighting_Box_0 r_Ship r_Number r_Time r_Buoy r_At_X_Lo r_At_X_Hi r_At_Y_Lo r_At_Y_Hi r_From_X r_From_Y r_To_X r_To_Y r_Far), .int .i64 (sighting_Box_1 r_Ship r_Number r_Time r_Buoy r_At_X_Lo r_At_X_Hi r_At_Y_Lo r_At_Y_Hi r_From_X r_From_Y r_To_X r_To_Y r_Far), .int .i64 (sighting_Box_2 r_Ship r_Number r_Time r_Buoy r_At_X_Lo r_At_X_Hi r_At_Y_Lo r_At_Y_Hi r_From_X r_From_Y r_To_X r_To_Y r_Far), .int .i64 (sighting_Box_3 r_Ship r_Number r_Time r_Buoy r_At_X_Lo r_At_X_Hi r_At_Y_Lo r_At_Y_Hi r_From_X r_From_Y r_To_X r_To_Y r_Far)], .int .i64 (sighting_Box_4 r_Ship r_Number r_Time r_Buoy r_At_X_Lo r_At_X_Hi r_At_Y_Lo r_At_Y_Hi r_From_X r_From_Y r_To_X r_To_Y r_Far)]⟩ := by kernel_rfl
noncomputable def sighting_Box_eff : List U → Option Eff
  | [.i r_Ship, .i r_Number, .i r_Time, .i r_Buoy, .i r_At_X_Lo, .i r_At_X_Hi, .i r_At_Y_Lo, .i r_At_Y_Hi, .i r_From_X, .i r_From_Y, .i r_To_X, .i r_To_Y, .i r_Far] => some ⟨none, [], 0, [], .tup [.agg [.int .i64 (sighting_Box_0 r_Ship r_Number r_Time r_Buoy r_At_X_Lo r_At_X_Hi r_At_Y_Lo r_At_Y_Hi r_From_X r_From_Y r_To_X r_To_Y r_Far), .int .i64 (sighting_Box_1 r_Ship r_Number r_Time r_Buoy r_At_X_Lo r_At_X_Hi r_At_Y_Lo r_At_Y_Hi r_From_X r_From_Y r_To_X r_To_Y r_Far), .int .i64 (sighting_Box_2 r_Ship r_Number r_Time r_Buoy r_At_X_Lo r_At_X_Hi r_At_Y_Lo r_At_Y_Hi r_From_X r_From_Y r_To_X r_To_Y r_Far), .int .i64 (sighting_Box_3 r_Ship r_Number r_Time r_Buoy r_At_X_Lo r_At_X_Hi r_At_Y_Lo r_At_Y_Hi r_From_X r_From_Y r_To_X r_To_Y r_Far)], .int .i64 (sighting_Box_4 r_Ship r_Number r_Time r_Buoy r_At_X_Lo r_At_X_Hi r_At_Y_Lo r_At_Y_Hi r_From_X r_From_Y r_To_X r_To_Y r_Far)]⟩
  | _ => Option.none
noncomputable def K28 : Con := ext Tryz.prog K27 60 [.agg [.int .i64 0, .int .i64 0, .int .i64 0, .int .i64 0, .int .i64 0, .int .i64 0, .int .i64 0, .int .i64 0, .int .i64 0, .int .i64 0, .int .i64 0, .int .i64 0, .int .i64 0]] [] sighting_Box_eff
theorem K28_ok : ConOk Tryz.prog K28 := conOk_ext noSeq_ok K27_ok (n := 9) rfl rfl fun us x h => by
  unfold sighting_Box_eff at h
  split at h
  · cases h; exact ⟨none, sighting_Box_col _ _ _ _ _ _ _ _ _ _ _ _ _, fun _ => trivial⟩
  · cases h
theorem sighting_leads_col (s_Lo s_Hi from_ to_ : Int) : collapse Tryz.prog 0 (execFn Tryz.prog K28 noSeq 9 141 [.agg [.int .i64 s_Lo, .int .i64 s_Hi], .int .i64 from_, .int .i64 to_] ⟨[], 0⟩) = some ⟨none, [], 0, [], .bool (sighting_leads_0 s_Lo s_Hi from_ to_)⟩ := by kernel_rfl
noncomputable def sighting_leads_eff : List U → Option Eff
  | [.i s_Lo, .i s_Hi, .i from_, .i to_] => some ⟨none, [], 0, [], .bool (sighting_leads_0 s_Lo s_Hi from_ to_)⟩
  | _ => Option.none
noncomputable def K29 : Con := ext Tryz.prog K28 141 [.agg [.int .i64 0, .int .i64 0], .int .i64 0, .int .i64 0] [] sighting_leads_eff
theorem K29_ok : ConOk Tryz.prog K29 := conOk_ext noSeq_ok K28_ok (n := 9) rfl rfl fun us x h => by
  unfold sighting_leads_eff at h
  split at h
  · cases h; exact ⟨none, sighting_leads_col _ _ _ _, fun _ => trivial⟩
  · cases h
theorem sighting_cone_meets_col (c_from_X c_from_Y c_to_X c_to_Y b_X_Lo b_X_Hi b_Y_Lo b_Y_Hi : Int) : collapse Tryz.prog 0 (execFn Tryz.prog K29 noSeq 9 112 [.agg [.int .i64 c_from_X, .int .i64 c_from_Y, .int .i64 c_to_X, .int .i64 c_to_Y], .agg [.int .i64 b_X_Lo, .int .i64 b_X_Hi, .int .i64 b_Y_Lo, .int .i64 b_Y_Hi]] ⟨[], 0⟩) = some ⟨none, [], 0, [], .bool (sighting_cone_meets_0 c_from_X c_from_Y c_to_X c_to_Y b_X_Lo b_X_Hi b_Y_Lo b_Y_Hi)⟩ := by kernel_rfl
noncomputable def sighting_cone_meets_eff : List U → Option Eff
  | [.i c_from_X, .i c_from_Y, .i c_to_X, .i c_to_Y, .i b_X_Lo, .i b_X_Hi, .i b_Y_Lo, .i b_Y_Hi] => some ⟨none, [], 0, [], .bool (sighting_cone_meets_0 c_from_X c_from_Y c_to_X c_to_Y b_X_Lo b_X_Hi b_Y_Lo b_Y_Hi)⟩
  | _ => Option.none
noncomputable def K30 : Con := ext Tryz.prog K29 112 [.agg [.int .i64 0, .int .i64 0, .int .i64 0, .int .i64 0], .agg [.int .i64 0, .int .i64 0, .int .i64 0, .int .i64 0]] [] sighting_cone_meets_eff
theorem K30_ok : ConOk Tryz.prog K30 := conOk_ext noSeq_ok K29_ok (n := 9) rfl rfl fun us x h => by
  unfold sighting_cone_meets_eff at h
  split at h
  · cases h; exact ⟨none, sighting_cone_meets_col _ _ _ _ _ _ _ _, fun _ => trivial⟩
  · cases h
theorem sighting_sees_col (r_Ship r_Number r_Time r_Buoy r_At_X_Lo r_At_X_Hi r_At_Y_Lo r_At_Y_Hi r_From_X r_From_Y r_To_X r_To_Y r_Far b_X_Lo b_X_Hi b_Y_Lo b_Y_Hi : Int) : collapse Tryz.prog 0 (execFn Tryz.prog K30 noSeq 9 75 [.agg [.int .i64 r_Ship, .int .i64 r_Number, .int .i64 r_Time, .int .i64 r_Buoy, .int .i64 r_At_X_Lo, .int .i64 r_At_X_Hi, .int .i64 r_At_Y_Lo, .int .i64 r_At_Y_Hi, .int .i64 r_From_X, .int .i64 r_From_Y, .int .i64 r_To_X, .int .i64 r_To_Y, .int .i64 r_Far], .agg [.int .i64 b_X_Lo, .int .i64 b_X_Hi, .int .i64 b_Y_Lo, .int .i64 b_Y_Hi]] ⟨[], 0⟩) = some ⟨none, [], 0, [], .bool (sighting_sees_0 r_Ship r_Number r_Time r_Buoy r_At_X_Lo r_At_X_Hi r_At_Y_Lo r_At_Y_Hi r_From_X r_From_Y r_To_X r_To_Y r_Far b_X_Lo b_X_Hi b_Y_Lo b_Y_Hi)⟩ := by kernel_rfl
noncomputable def sighting_sees_eff : List U → Option Eff
  | [.i r_Ship, .i r_Number, .i r_Time, .i r_Buoy, .i r_At_X_Lo, .i r_At_X_Hi, .i r_At_Y_Lo, .i r_At_Y_Hi, .i r_From_X, .i r_From_Y, .i r_To_X, .i r_To_Y, .i r_Far, .i b_X_Lo, .i b_X_Hi, .i b_Y_Lo, .i b_Y_Hi] => some ⟨none, [], 0, [], .bool (sighting_sees_0 r_Ship r_Number r_Time r_Buoy r_At_X_Lo r_At_X_Hi r_At_Y_Lo r_At_Y_Hi r_From_X r_From_Y r_To_X r_To_Y r_Far b_X_Lo b_X_Hi b_Y_Lo b_Y_Hi)⟩
  | _ => Option.none
noncomputable def K31 : Con := ext Tryz.prog K30 75 [.agg [.int .i64 0, .int .i64 0, .int .i64 0, .int .i64 0, .int .i64 0, .int .i64 0, .int .i64 0, .int .i64 0, .int .i64 0, .int .i64 0, .int .i64 0, .int .i64 0, .int .i64 0], .agg [.int .i64 0, .int .i64 0, .int .i64 0, .int .i64 0]] [] sighting_sees_eff
theorem K31_ok : ConOk Tryz.prog K31 := conOk_ext noSeq_ok K30_ok (n := 9) rfl rfl fun us x h => by
  unfold sighting_sees_eff at h
  split at h
  · cases h; exact ⟨none, sighting_sees_col _ _ _ _ _ _ _ _ _ _ _ _ _ _ _ _ _, fun _ => trivial⟩
  · cases h
theorem sighting_Allows_col (r_Ship r_Number r_Time r_Buoy r_At_X_Lo r_At_X_Hi r_At_Y_Lo r_At_Y_Hi r_From_X r_From_Y r_To_X r_To_Y r_Far p_X p_Y : Int) : collapse Tryz.prog 0 (execFn Tryz.prog K31 noSeq 9 33 [.agg [.int .i64 r_Ship, .int .i64 r_Number, .int .i64 r_Time, .int .i64 r_Buoy, .int .i64 r_At_X_Lo, .int .i64 r_At_X_Hi, .int .i64 r_At_Y_Lo, .int .i64 r_At_Y_Hi, .int .i64 r_From_X, .int .i64 r_From_Y, .int .i64 r_To_X, .int .i64 r_To_Y, .int .i64 r_Far], .agg [.int .i64 p_X, .int .i64 p_Y]] ⟨[], 0⟩) = some ⟨none, [], 0, [], .tup [.bool (sighting_Allows_0 r_Ship r_Number r_Time r_Buoy r_At_X_Lo r_At_X_Hi r_At_Y_Lo r_At_Y_Hi r_From_X r_From_Y r_To_X r_To_Y r_Far p_X p_Y), .int .i64 (sighting_Allows_1 r_Ship r_Number r_Time r_Buoy r_At_X_Lo r_At_X_Hi r_At_Y_Lo r_At_Y_Hi r_From_X r_From_Y r_To_X r_To_Y r_Far p_X p_Y)]⟩ := by kernel_rfl
noncomputable def sighting_Allows_eff : List U → Option Eff
  | [.i r_Ship, .i r_Number, .i r_Time, .i r_Buoy, .i r_At_X_Lo, .i r_At_X_Hi, .i r_At_Y_Lo, .i r_At_Y_Hi, .i r_From_X, .i r_From_Y, .i r_To_X, .i r_To_Y, .i r_Far, .i p_X, .i p_Y] => some ⟨none, [], 0, [], .tup [.bool (sighting_Allows_0 r_Ship r_Number r_Time r_Buoy r_At_X_Lo r_At_X_Hi r_At_Y_Lo r_At_Y_Hi r_From_X r_From_Y r_To_X r_To_Y r_Far p_X p_Y), .int .i64 (sighting_Allows_1 r_Ship r_Number r_Time r_Buoy r_At_X_Lo r_At_X_Hi r_At_Y_Lo r_At_Y_Hi r_From_X r_From_Y r_To_X r_To_Y r_Far p_X p_Y)]⟩
  | _ => Option.none
noncomputable def K32 : Con := ext Tryz.prog K31 33 [.agg [.int .i64 0, .int .i64 0, .int .i64 0, .int .i64 0, .int .i64 0, .int .i64 0, .int .i64 0, .int .i64 0, .int .i64 0, .int .i64 0, .int .i64 0, .int .i64 0, .int .i64 0], .agg [.int .i64 0, .int .i64 0]] [] sighting_Allows_eff
theorem K32_ok : ConOk Tryz.prog K32 := conOk_ext noSeq_ok K31_ok (n := 9) rfl rfl fun us x h => by
  unfold sighting_Allows_eff at h
  split at h
  · cases h; exact ⟨none, sighting_Allows_col _ _ _ _ _ _ _ _ _ _ _ _ _ _ _, fun _ => trivial⟩
  · cases h
theorem sighting_valid_col (list : List (List Int)) : collapse Tryz.prog 1 (execFn Tryz.prog K32 noSeq 9 94 [.sl 0] ⟨[⟨0, 1, false, .row 58 [.int .i64, .int .i64, .int .i64, .int .i64, .int .i64, .int .i64, .int .i64, .int .i64, .int .i64, .int .i64, .int .i64, .int .i64, .int .i64] list⟩], 1⟩) = some ⟨some (sighting_valid_pre list), [], 0, [], .bool (sighting_valid_0 list)⟩ := by kernel_rfl
noncomputable def sighting_valid_eff : List U → Option Eff
  | [.r list] => some ⟨some (sighting_valid_pre list), [], 0, [], .bool (sighting_valid_0 list)⟩
  | _ => Option.none
noncomputable def K33 : Con := ext Tryz.prog K32 94 [.sl 0] [⟨0, 0, false, .row 58 [.int .i64, .int .i64, .int .i64, .int .i64, .int .i64, .int .i64, .int .i64, .int .i64, .int .i64, .int .i64, .int .i64, .int .i64, .int .i64] []⟩] sighting_valid_eff
theorem K33_ok : ConOk Tryz.prog K33 := conOk_ext noSeq_ok K32_ok (n := 9) rfl rfl fun us x h => by
  unfold sighting_valid_eff at h
  split at h
  · cases h; exact ⟨some (sighting_valid_pre _), sighting_valid_col _, fun h => h⟩
  · cases h
theorem sighting_Merge_col (list : List (List Int)) : collapse Tryz.prog 1 (execFn Tryz.prog K33 noSeq 9 56 [.sl 0] ⟨[⟨0, 1, false, .row 58 [.int .i64, .int .i64, .int .i64, .int .i64, .int .i64, .int .i64, .int .i64, .int .i64, .int .i64, .int .i64, .int .i64, .int .i64, .int .i64] list⟩], 1⟩) = some ⟨some (sighting_Merge_pre list), [], 2, [⟨1, 1, true, .row 58 [.int .i64, .int .i64, .int .i64, .int .i64, .int .i64, .int .i64, .int .i64, .int .i64, .int .i64, .int .i64, .int .i64, .int .i64, .int .i64] (sighting_Merge_0 list)⟩, ⟨2, 1, true, .row 3 [.int .i64] (sighting_Merge_1 list)⟩], .tup [.sl 1, .sl 2, .int .i64 (sighting_Merge_2 list)]⟩ := by kernel_rfl
noncomputable def sighting_Merge_eff : List U → Option Eff
  | [.r list] => some ⟨some (sighting_Merge_pre list), [], 2, [⟨1, 1, true, .row 58 [.int .i64, .int .i64, .int .i64, .int .i64, .int .i64, .int .i64, .int .i64, .int .i64, .int .i64, .int .i64, .int .i64, .int .i64, .int .i64] (sighting_Merge_0 list)⟩, ⟨2, 1, true, .row 3 [.int .i64] (sighting_Merge_1 list)⟩], .tup [.sl 1, .sl 2, .int .i64 (sighting_Merge_2 list)]⟩
  | _ => Option.none
noncomputable def K34 : Con := ext Tryz.prog K33 56 [.sl 0] [⟨0, 0, false, .row 58 [.int .i64, .int .i64, .int .i64, .int .i64, .int .i64, .int .i64, .int .i64, .int .i64, .int .i64, .int .i64, .int .i64, .int .i64, .int .i64] []⟩] sighting_Merge_eff
theorem K34_ok : ConOk Tryz.prog K34 := conOk_ext noSeq_ok K33_ok (n := 9) rfl rfl fun us x h => by
  unfold sighting_Merge_eff at h
  split at h
  · cases h; exact ⟨some (sighting_Merge_pre _), sighting_Merge_col _, fun h => h⟩
  · cases h
theorem slices_Clone_int_col (s : List (List Int)) : collapse Tryz.prog 1 (execFn Tryz.prog K34 noSeq 9 46 [.sl 0] ⟨[⟨0, 1, false, .row 3 [.int .i64] s⟩], 1⟩) = some ⟨some (slices_Clone_int_pre s), [], 1, [⟨1, 1, true, .row 3 [.int .i64] (slices_Clone_int_0 s)⟩], .sl 1⟩ := by kernel_rfl
noncomputable def slices_Clone_int_eff : List U → Option Eff
  | [.r s] => some ⟨some (slices_Clone_int_pre s), [], 1, [⟨1, 1, true, .row 3 [.int .i64] (slices_Clone_int_0 s)⟩], .sl 1⟩
  | _ => Option.none
noncomputable def K35 : Con := ext Tryz.prog K34 46 [.sl 0] [⟨0, 0, false, .row 3 [.int .i64] []⟩] slices_Clone_int_eff
theorem K35_ok : ConOk Tryz.prog K35 := conOk_ext noSeq_ok K34_ok (n := 9) rfl rfl fun us x h => by
  unfold slices_Clone_int_eff at h
  split at h
  · cases h; exact ⟨some (slices_Clone_int_pre _), slices_Clone_int_col _, fun h => h⟩
  · cases h
end Go.Proofs.YtnijhjpaplihbaaGreat
