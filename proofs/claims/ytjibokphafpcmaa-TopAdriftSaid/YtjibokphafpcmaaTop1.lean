/- Several texts in one (wip/merge.py): XTop1 XTop2. -/
import Derived.Test.YtjibokphafpcmaaRows
import Derived.Test.YtjibokphafpcmaaSyH
import Derived.Test.YtjibokphafpcmaaDesk1D
import Derived.Test.YtjibokphafpcmaaDesk1
import Derived.Test.YtjibokphafpcmaaDeskS
import Derived.Test.YtjibokphafpcmaaDeskZ
import Derived.Test.YtjibokphafpcmaaDesk2D
import Derived.Test.YtjibokphafpcmaaDesk2
import Derived.Test.YtjibokphafpcmaaTop1D
/-! Written by program (wip/sygen.py): the contracts of the Go functions. -/
set_option maxRecDepth 100000
set_option linter.unusedVariables false
namespace Go.Proofs.Ytjibokphafpcmaa
open Go Go.Sy
theorem mooring_within_col (s_Lo s_Hi lo hi : Int) : collapse Try.prog 0 (execFn Try.prog K53 noSeq 12 60 [.agg [.int .i64 s_Lo, .int .i64 s_Hi], .int .i64 lo, .int .i64 hi] ⟨[], 0⟩) = some ⟨none, [], 0, [], .bool (mooring_within_0 s_Lo s_Hi lo hi)⟩ := by kernel_rfl
noncomputable def mooring_within_eff : List U → Option Eff
  | [.i s_Lo, .i s_Hi, .i lo, .i hi] => some ⟨none, [], 0, [], .bool (mooring_within_0 s_Lo s_Hi lo hi)⟩
  | _ => Option.none
noncomputable def K54 : Con := ext Try.prog K53 60 [.agg [.int .i64 0, .int .i64 0], .int .i64 0, .int .i64 0] [] mooring_within_eff
theorem K54_ok : ConOk Try.prog K54 := conOk_ext noSeq_ok K53_ok (n := 12) rfl rfl fun us x h => by
  unfold mooring_within_eff at h
  split at h
  · cases h; exact ⟨none, mooring_within_col _ _ _ _, fun _ => trivial⟩
  · cases h
theorem mooring_isHeights_col (s_Lo s_Hi : Int) : collapse Try.prog 0 (execFn Try.prog K54 noSeq 12 36 [.agg [.int .i64 s_Lo, .int .i64 s_Hi]] ⟨[], 0⟩) = some ⟨none, [], 0, [], .bool (mooring_isHeights_0 s_Lo s_Hi)⟩ := by kernel_rfl
noncomputable def mooring_isHeights_eff : List U → Option Eff
  | [.i s_Lo, .i s_Hi] => some ⟨none, [], 0, [], .bool (mooring_isHeights_0 s_Lo s_Hi)⟩
  | _ => Option.none
noncomputable def K55 : Con := ext Try.prog K54 36 [.agg [.int .i64 0, .int .i64 0]] [] mooring_isHeights_eff
theorem K55_ok : ConOk Try.prog K55 := conOk_ext noSeq_ok K54_ok (n := 12) rfl rfl fun us x h => by
  unfold mooring_isHeights_eff at h
  split at h
  · cases h; exact ⟨none, mooring_isHeights_col _ _, fun _ => trivial⟩
  · cases h
theorem mooring_isDepths_col (s_Lo s_Hi : Int) : collapse Try.prog 0 (execFn Try.prog K55 noSeq 12 59 [.agg [.int .i64 s_Lo, .int .i64 s_Hi]] ⟨[], 0⟩) = some ⟨none, [], 0, [], .bool (mooring_isDepths_0 s_Lo s_Hi)⟩ := by kernel_rfl
noncomputable def mooring_isDepths_eff : List U → Option Eff
  | [.i s_Lo, .i s_Hi] => some ⟨none, [], 0, [], .bool (mooring_isDepths_0 s_Lo s_Hi)⟩
  | _ => Option.none
noncomputable def K56 : Con := ext Try.prog K55 59 [.agg [.int .i64 0, .int .i64 0]] [] mooring_isDepths_eff
theorem K56_ok : ConOk Try.prog K56 := conOk_ext noSeq_ok K55_ok (n := 12) rfl rfl fun us x h => by
  unfold mooring_isDepths_eff at h
  split at h
  · cases h; exact ⟨none, mooring_isDepths_col _ _, fun _ => trivial⟩
  · cases h
theorem mooring_Valid_col (m_At_X m_At_Y m_Depth_Lo m_Depth_Hi m_Chain : Int) : collapse Try.prog 0 (execFn Try.prog K56 noSeq 12 35 [.agg [.int .i64 m_At_X, .int .i64 m_At_Y, .int .i64 m_Depth_Lo, .int .i64 m_Depth_Hi, .int .i64 m_Chain]] ⟨[], 0⟩) = some ⟨none, [], 0, [], .bool (mooring_Valid_0 m_At_X m_At_Y m_Depth_Lo m_Depth_Hi m_Chain)⟩ := by kernel_rfl
noncomputable def mooring_Valid_eff : List U → Option Eff
  | [.i m_At_X, .i m_At_Y, .i m_Depth_Lo, .i m_Depth_Hi, .i m_Chain] => some ⟨none, [], 0, [], .bool (mooring_Valid_0 m_At_X m_At_Y m_Depth_Lo m_Depth_Hi m_Chain)⟩
  | _ => Option.none
noncomputable def K57 : Con := ext Try.prog K56 35 [.agg [.int .i64 0, .int .i64 0, .int .i64 0, .int .i64 0, .int .i64 0]] [] mooring_Valid_eff
theorem K57_ok : ConOk Try.prog K57 := conOk_ext noSeq_ok K56_ok (n := 12) rfl rfl fun us x h => by
  unfold mooring_Valid_eff at h
  split at h
  · cases h; exact ⟨none, mooring_Valid_col _ _ _ _ _, fun _ => trivial⟩
  · cases h
theorem mooring_in_col (m_At_X m_At_Y m_Depth_Lo m_Depth_Hi m_Chain tide_Lo tide_Hi : Int) : collapse Try.prog 0 (execFn Try.prog K57 noSeq 12 37 [.agg [.int .i64 m_At_X, .int .i64 m_At_Y, .int .i64 m_Depth_Lo, .int .i64 m_Depth_Hi, .int .i64 m_Chain], .agg [.int .i64 tide_Lo, .int .i64 tide_Hi]] ⟨[], 0⟩) = some ⟨none, [], 0, [], .agg [.int .i64 (mooring_in_0 m_At_X m_At_Y m_Depth_Lo m_Depth_Hi m_Chain tide_Lo tide_Hi), .int .i64 (mooring_in_1 m_At_X m_At_Y m_Depth_Lo m_Depth_Hi m_Chain tide_Lo tide_Hi), .int .i64 (mooring_in_2 m_At_X m_At_Y m_Depth_Lo m_Depth_Hi m_Chain tide_Lo tide_Hi), .int .i64 (mooring_in_3 m_At_X m_At_Y m_Depth_Lo m_Depth_Hi m_Chain tide_Lo tide_Hi), .int .i64 (mooring_in_4 m_At_X m_At_Y m_Depth_Lo m_Depth_Hi m_Chain tide_Lo tide_Hi), .int .i64 (mooring_in_5 m_At_X m_At_Y m_Depth_Lo m_Depth_Hi m_Chain tide_Lo tide_Hi), .int .i64 (mooring_in_6 m_At_X m_At_Y m_Depth_Lo m_Depth_Hi m_Chain tide_Lo tide_Hi)]⟩ := by kernel_rfl
noncomputable def mooring_in_eff : List U → Option Eff
  | [.i m_At_X, .i m_At_Y, .i m_Depth_Lo, .i m_Depth_Hi, .i m_Chain, .i tide_Lo, .i tide_Hi] => some ⟨none, [], 0, [], .agg [.int .i64 (mooring_in_0 m_At_X m_At_Y m_Depth_Lo m_Depth_Hi m_Chain tide_Lo tide_Hi), .int .i64 (mooring_in_1 m_At_X m_At_Y m_Depth_Lo m_Depth_Hi m_Chain tide_Lo tide_Hi), .int .i64 (mooring_in_2 m_At_X m_At_Y m_Depth_Lo m_Depth_Hi m_Chain tide_Lo tide_Hi), .int .i64 (mooring_in_3 m_At_X m_At_Y m_Depth_Lo m_Depth_Hi m_Chain tide_Lo tide_Hi), .int .i64 (mooring_in_4 m_At_X m_At_Y m_Depth_Lo m_Depth_Hi m_Chain tide_Lo tide_Hi), .int .i64 (mooring_in_5 m_At_X m_At_Y m_Depth_Lo m_Depth_Hi m_Chain tide_Lo tide_Hi), .int .i64 (mooring_in_6 m_At_X m_At_Y m_Depth_Lo m_Depth_Hi m_Chain tide_Lo tide_Hi)]⟩
  | _ => Option.none
noncomputable def K58 : Con := ext Try.prog K57 37 [.agg [.int .i64 0, .int .i64 0, .int .i64 0, .int .i64 0, .int .i64 0], .agg [.int .i64 0, .int .i64 0]] [] mooring_in_eff
theorem K58_ok : ConOk Try.prog K58 := conOk_ext noSeq_ok K57_ok (n := 12) rfl rfl fun us x h => by
  unfold mooring_in_eff at h
  split at h
  · cases h; exact ⟨none, mooring_in_col _ _ _ _ _ _ _, fun _ => trivial⟩
  · cases h
theorem mooring_afloat_has_col (a_Mooring_At_X a_Mooring_At_Y a_Mooring_Depth_Lo a_Mooring_Depth_Hi a_Mooring_Chain a_water_0 a_water_1 x y : Int) : collapse Try.prog 0 (execFn Try.prog K58 noSeq 12 41 [.agg [.int .i64 a_Mooring_At_X, .int .i64 a_Mooring_At_Y, .int .i64 a_Mooring_Depth_Lo, .int .i64 a_Mooring_Depth_Hi, .int .i64 a_Mooring_Chain, .int .i64 a_water_0, .int .i64 a_water_1], .int .i64 x, .int .i64 y] ⟨[], 0⟩) = some ⟨none, [], 0, [], .bool (mooring_afloat_has_0 a_Mooring_At_X a_Mooring_At_Y a_Mooring_Depth_Lo a_Mooring_Depth_Hi a_Mooring_Chain a_water_0 a_water_1 x y)⟩ := by kernel_rfl
noncomputable def mooring_afloat_has_eff : List U → Option Eff
  | [.i a_Mooring_At_X, .i a_Mooring_At_Y, .i a_Mooring_Depth_Lo, .i a_Mooring_Depth_Hi, .i a_Mooring_Chain, .i a_water_0, .i a_water_1, .i x, .i y] => some ⟨none, [], 0, [], .bool (mooring_afloat_has_0 a_Mooring_At_X a_Mooring_At_Y a_Mooring_Depth_Lo a_Mooring_Depth_Hi a_Mooring_Chain a_water_0 a_water_1 x y)⟩
  | _ => Option.none
noncomputable def K59 : Con := ext Try.prog K58 41 [.agg [.int .i64 0, .int .i64 0, .int .i64 0, .int .i64 0, .int .i64 0, .int .i64 0, .int .i64 0], .int .i64 0, .int .i64 0] [] mooring_afloat_has_eff
theorem K59_ok : ConOk Try.prog K59 := conOk_ext noSeq_ok K58_ok (n := 12) rfl rfl fun us x h => by
  unfold mooring_afloat_has_eff at h
  split at h
  · cases h; exact ⟨none, mooring_afloat_has_col _ _ _ _ _ _ _ _ _, fun _ => trivial⟩
  · cases h
theorem mooring_afloat_radius_col (a_Mooring_At_X a_Mooring_At_Y a_Mooring_Depth_Lo a_Mooring_Depth_Hi a_Mooring_Chain a_water_0 a_water_1 : Int) : collapse Try.prog 0 (execFn Try.prog K59 noSeq 12 38 [.agg [.int .i64 a_Mooring_At_X, .int .i64 a_Mooring_At_Y, .int .i64 a_Mooring_Depth_Lo, .int .i64 a_Mooring_Depth_Hi, .int .i64 a_Mooring_Chain, .int .i64 a_water_0, .int .i64 a_water_1]] ⟨[], 0⟩) = some ⟨some (mooring_afloat_radius_pre a_Mooring_At_X a_Mooring_At_Y a_Mooring_Depth_Lo a_Mooring_Depth_Hi a_Mooring_Chain a_water_0 a_water_1), [], 0, [], .int .i64 (mooring_afloat_radius_0 a_Mooring_At_X a_Mooring_At_Y a_Mooring_Depth_Lo a_Mooring_Depth_Hi a_Mooring_Chain a_water_0 a_water_1)⟩ := by kernel_rfl
noncomputable def mooring_afloat_radius_eff : List U → Option Eff
  | [.i a_Mooring_At_X, .i a_Mooring_At_Y, .i a_Mooring_Depth_Lo, .i a_Mooring_Depth_Hi, .i a_Mooring_Chain, .i a_water_0, .i a_water_1] => some ⟨some (mooring_afloat_radius_pre a_Mooring_At_X a_Mooring_At_Y a_Mooring_Depth_Lo a_Mooring_Depth_Hi a_Mooring_Chain a_water_0 a_water_1), [], 0, [], .int .i64 (mooring_afloat_radius_0 a_Mooring_At_X a_Mooring_At_Y a_Mooring_Depth_Lo a_Mooring_Depth_Hi a_Mooring_Chain a_water_0 a_water_1)⟩
  | _ => Option.none
noncomputable def K60 : Con := ext Try.prog K59 38 [.agg [.int .i64 0, .int .i64 0, .int .i64 0, .int .i64 0, .int .i64 0, .int .i64 0, .int .i64 0]] [] mooring_afloat_radius_eff
theorem K60_ok : ConOk Try.prog K60 := conOk_ext noSeq_ok K59_ok (n := 12) rfl rfl fun us x h => by
  unfold mooring_afloat_radius_eff at h
  split at h
  · cases h; exact ⟨some (mooring_afloat_radius_pre _ _ _ _ _ _ _), mooring_afloat_radius_col _ _ _ _ _ _ _, fun h => h⟩
  · cases h
theorem mooring_Radius_col (m_At_X m_At_Y m_Depth_Lo m_Depth_Hi m_Chain tide_Lo tide_Hi : Int) : collapse Try.prog 0 (execFn Try.prog K60 noSeq 12 14 [.agg [.int .i64 m_At_X, .int .i64 m_At_Y, .int .i64 m_Depth_Lo, .int .i64 m_Depth_Hi, .int .i64 m_Chain], .agg [.int .i64 tide_Lo, .int .i64 tide_Hi]] ⟨[], 0⟩) = some ⟨some (mooring_Radius_pre m_At_X m_At_Y m_Depth_Lo m_Depth_Hi m_Chain tide_Lo tide_Hi), [], 0, [], .tup [.int .i64 (mooring_Radius_0 m_At_X m_At_Y m_Depth_Lo m_Depth_Hi m_Chain tide_Lo tide_Hi), .int .i64 (mooring_Radius_1 m_At_X m_At_Y m_Depth_Lo m_Depth_Hi m_Chain tide_Lo tide_Hi)]⟩ := by kernel_rfl
noncomputable def mooring_Radius_eff : List U → Option Eff
  | [.i m_At_X, .i m_At_Y, .i m_Depth_Lo, .i m_Depth_Hi, .i m_Chain, .i tide_Lo, .i tide_Hi] => some ⟨some (mooring_Radius_pre m_At_X m_At_Y m_Depth_Lo m_Depth_Hi m_Chain tide_Lo tide_Hi), [], 0, [], .tup [.int .i64 (mooring_Radius_0 m_At_X m_At_Y m_Depth_Lo m_Depth_Hi m_Chain tide_Lo tide_Hi), .int .i64 (mooring_Radius_1 m_At_X m_At_Y m_Depth_Lo m_Depth_Hi m_Chain tide_Lo tide_Hi)]⟩
  | _ => Option.none
noncomputable def K61 : Con := ext Try.prog K60 14 [.agg [.int .i64 0, .int .i64 0, .int .i64 0, .int .i64 0, .int .i64 0], .agg [.int .i64 0, .int .i64 0]] [] mooring_Radius_eff
theorem K61_ok : ConOk Try.prog K61 := conOk_ext noSeq_ok K60_ok (n := 12) rfl rfl fun us x h => by
  unfold mooring_Radius_eff at h
  split at h
  · cases h; exact ⟨some (mooring_Radius_pre _ _ _ _ _ _ _), mooring_Radius_col _ _ _ _ _ _ _, fun h => h⟩
  · cases h
theorem span_GrowBox_col (b_X_Lo b_X_Hi b_Y_Lo b_Y_Hi n : Int) : collapse Try.prog 0 (execFn Try.prog K61 noSeq 12 15 [.agg [.int .i64 b_X_Lo, .int .i64 b_X_Hi, .int .i64 b_Y_Lo, .int .i64 b_Y_Hi], .int .i64 n] ⟨[], 0⟩) = some ⟨none, [], 0, [], .tup [.agg [.int .i64 (span_GrowBox_0 b_X_Lo b_X_Hi b_Y_Lo b_Y_Hi n), .int .i64 (span_GrowBox_1 b_X_Lo b_X_Hi b_Y_Lo b_Y_Hi n), .int .i64 (span_GrowBox_2 b_X_Lo b_X_Hi b_Y_Lo b_Y_Hi n), .int .i64 (span_GrowBox_3 b_X_Lo b_X_Hi b_Y_Lo b_Y_Hi n)], .int .i64 (span_GrowBox_4 b_X_Lo b_X_Hi b_Y_Lo b_Y_Hi n)]⟩ := by kernel_rfl
noncomputable def span_GrowBox_eff : List U → Option Eff
  | [.i b_X_Lo, .i b_X_Hi, .i b_Y_Lo, .i b_Y_Hi, .i n] => some ⟨none, [], 0, [], .tup [.agg [.int .i64 (span_GrowBox_0 b_X_Lo b_X_Hi b_Y_Lo b_Y_Hi n), .int .i64 (span_GrowBox_1 b_X_Lo b_X_Hi b_Y_Lo b_Y_Hi n), .int .i64 (span_GrowBox_2 b_X_Lo b_X_Hi b_Y_Lo b_Y_Hi n), .int .i64 (span_GrowBox_3 b_X_Lo b_X_Hi b_Y_Lo b_Y_Hi n)], .int .i64 (span_GrowBox_4 b_X_Lo b_X_Hi b_Y_Lo b_Y_Hi n)]⟩
  | _ => Option.none
noncomputable def K62 : Con := ext Try.prog K61 15 [.agg [.int .i64 0, .int .i64 0, .int .i64 0, .int .i64 0], .int .i64 0] [] span_GrowBox_eff
theorem K62_ok : ConOk Try.prog K62 := conOk_ext noSeq_ok K61_ok (n := 12) rfl rfl fun us x h => by
  unfold span_GrowBox_eff at h
  split at h
  · cases h; exact ⟨none, span_GrowBox_col _ _ _ _ _, fun _ => trivial⟩
  · cases h
theorem mooring_Box_col (m_At_X m_At_Y m_Depth_Lo m_Depth_Hi m_Chain tide_Lo tide_Hi : Int) : collapse Try.prog 0 (execFn Try.prog K62 noSeq 12 5 [.agg [.int .i64 m_At_X, .int .i64 m_At_Y, .int .i64 m_Depth_Lo, .int .i64 m_Depth_Hi, .int .i64 m_Chain], .agg [.int .i64 tide_Lo, .int .i64 tide_Hi]] ⟨[], 0⟩) = some ⟨some (mooring_Box_pre m_At_X m_At_Y m_Depth_Lo m_Depth_Hi m_Chain tide_Lo tide_Hi), [], 0, [], .tup [.agg [.int .i64 (mooring_Box_0 m_At_X m_At_Y m_Depth_Lo m_Depth_Hi m_Chain tide_Lo tide_Hi), .int .i64 (mooring_Box_1 m_At_X m_At_Y m_Depth_Lo m_Depth_Hi m_Chain tide_Lo tide_Hi), .int .i64 (mooring_Box_2 m_At_X m_At_Y m_Depth_Lo m_Depth_Hi m_Chain tide_Lo tide_Hi), .int .i64 (mooring_Box_3 m_At_X m_At_Y m_Depth_Lo m_Depth_Hi m_Chain tide_Lo tide_Hi)], .int .i64 (mooring_Box_4 m_At_X m_At_Y m_Depth_Lo m_Depth_Hi m_Chain tide_Lo tide_Hi)]⟩ := by kernel_rfl
noncomputable def mooring_Box_eff : List U → Option Eff
  | [.i m_At_X, .i m_At_Y, .i m_Depth_Lo, .i m_Depth_Hi, .i m_Chain, .i tide_Lo, .i tide_Hi] => some ⟨some (mooring_Box_pre m_At_X m_At_Y m_Depth_Lo m_Depth_Hi m_Chain tide_Lo tide_Hi), [], 0, [], .tup [.agg [.int .i64 (mooring_Box_0 m_At_X m_At_Y m_Depth_Lo m_Depth_Hi m_Chain tide_Lo tide_Hi), .int .i64 (mooring_Box_1 m_At_X m_At_Y m_Depth_Lo m_Depth_Hi m_Chain tide_Lo tide_Hi), .int .i64 (mooring_Box_2 m_At_X m_At_Y m_Depth_Lo m_Depth_Hi m_Chain tide_Lo tide_Hi), .int .i64 (mooring_Box_3 m_At_X m_At_Y m_Depth_Lo m_Depth_Hi m_Chain tide_Lo tide_Hi)], .int .i64 (mooring_Box_4 m_At_X m_At_Y m_Depth_Lo m_Depth_Hi m_Chain tide_Lo tide_Hi)]⟩
  | _ => Option.none
noncomputable def K63 : Con := ext Try.prog K62 5 [.agg [.int .i64 0, .int .i64 0, .int .i64 0, .int .i64 0, .int .i64 0], .agg [.int .i64 0, .int .i64 0]] [] mooring_Box_eff
theorem K63_ok : ConOk Try.prog K63 := conOk_ext noSeq_ok K62_ok (n := 12) rfl rfl fun us x h => by
  unfold mooring_Box_eff at h
  split at h
  · cases h; exact ⟨some (mooring_Box_pre _ _ _ _ _ _ _), mooring_Box_col _ _ _ _ _ _ _, fun h => h⟩
  · cases h
theorem mooring_Holds_col (m_At_X m_At_Y m_Depth_Lo m_Depth_Hi m_Chain tide p_X p_Y : Int) : collapse Try.prog 0 (execFn Try.prog K63 noSeq 12 16 [.agg [.int .i64 m_At_X, .int .i64 m_At_Y, .int .i64 m_Depth_Lo, .int .i64 m_Depth_Hi, .int .i64 m_Chain], .int .i64 tide, .agg [.int .i64 p_X, .int .i64 p_Y]] ⟨[], 0⟩) = some ⟨none, [], 0, [], .tup [.bool (mooring_Holds_0 m_At_X m_At_Y m_Depth_Lo m_Depth_Hi m_Chain tide p_X p_Y), .int .i64 (mooring_Holds_1 m_At_X m_At_Y m_Depth_Lo m_Depth_Hi m_Chain tide p_X p_Y)]⟩ := by kernel_rfl
noncomputable def mooring_Holds_eff : List U → Option Eff
  | [.i m_At_X, .i m_At_Y, .i m_Depth_Lo, .i m_Depth_Hi, .i m_Chain, .i tide, .i p_X, .i p_Y] => some ⟨none, [], 0, [], .tup [.bool (mooring_Holds_0 m_At_X m_At_Y m_Depth_Lo m_Depth_Hi m_Chain tide p_X p_Y), .int .i64 (mooring_Holds_1 m_At_X m_At_Y m_Depth_Lo m_Depth_Hi m_Chain tide p_X p_Y)]⟩
  | _ => Option.none
noncomputable def K64 : Con := ext Try.prog K63 16 [.agg [.int .i64 0, .int .i64 0, .int .i64 0, .int .i64 0, .int .i64 0], .int .i64 0, .agg [.int .i64 0, .int .i64 0]] [] mooring_Holds_eff
theorem K64_ok : ConOk Try.prog K64 := conOk_ext noSeq_ok K63_ok (n := 12) rfl rfl fun us x h => by
  unfold mooring_Holds_eff at h
  split at h
  · cases h; exact ⟨none, mooring_Holds_col _ _ _ _ _ _ _ _, fun _ => trivial⟩
  · cases h
theorem top_told25r14_col (m_At_X m_At_Y m_Depth_Lo m_Depth_Hi m_Chain height from_ : Int) (forecast reports wrong track : List (List Int)) : collapse Try.prog 4 (execFn Try.prog K64 noSeq 12 6 [.agg [.int .i64 m_At_X, .int .i64 m_At_Y, .int .i64 m_Depth_Lo, .int .i64 m_Depth_Hi, .int .i64 m_Chain], .int .i64 height, .sl 0, .int .i64 from_, .sl 1, .sl 2, .sl 3] ⟨[⟨0, 4, false, .row 79 [.int .i64, .int .i64, .int .i64, .int .i64, .int .i64, .int .i64] forecast⟩, ⟨1, 4, false, .row 51 [.int .i64, .int .i64, .int .i64, .int .i64, .int .i64, .int .i64, .int .i64, .int .i64, .int .i64, .int .i64, .int .i64, .int .i64, .int .i64] reports⟩, ⟨2, 4, false, .row 3 [.int .i64] wrong⟩, ⟨3, 4, false, .row 23 [.int .i64, .int .i64] track⟩], 4⟩) = some ⟨some (top_told25r14_pre m_At_X m_At_Y m_Depth_Lo m_Depth_Hi m_Chain height from_ forecast reports wrong track), [], 0, [], .bool (top_told25r14_0 m_At_X m_At_Y m_Depth_Lo m_Depth_Hi m_Chain height from_ forecast reports wrong track)⟩ := by kernel_rfl
noncomputable def top_told25r14_eff : List U → Option Eff
  | [.i m_At_X, .i m_At_Y, .i m_Depth_Lo, .i m_Depth_Hi, .i m_Chain, .i height, .i from_, .r forecast, .r reports, .r wrong, .r track] => some ⟨some (top_told25r14_pre m_At_X m_At_Y m_Depth_Lo m_Depth_Hi m_Chain height from_ forecast reports wrong track), [], 0, [], .bool (top_told25r14_0 m_At_X m_At_Y m_Depth_Lo m_Depth_Hi m_Chain height from_ forecast reports wrong track)⟩
  | _ => Option.none
noncomputable def K65 : Con := ext Try.prog K64 6 [.agg [.int .i64 0, .int .i64 0, .int .i64 0, .int .i64 0, .int .i64 0], .int .i64 0, .sl 0, .int .i64 0, .sl 1, .sl 2, .sl 3] [⟨0, 0, false, .row 79 [.int .i64, .int .i64, .int .i64, .int .i64, .int .i64, .int .i64] []⟩, ⟨1, 0, false, .row 51 [.int .i64, .int .i64, .int .i64, .int .i64, .int .i64, .int .i64, .int .i64, .int .i64, .int .i64, .int .i64, .int .i64, .int .i64, .int .i64] []⟩, ⟨2, 0, false, .row 3 [.int .i64] []⟩, ⟨3, 0, false, .row 23 [.int .i64, .int .i64] []⟩] top_told25r14_eff
theorem K65_ok : ConOk Try.prog K65 := conOk_ext noSeq_ok K64_ok (n := 12) rfl rfl fun us x h => by
  unfold top_told25r14_eff at h
  split at h
  · cases h; exact ⟨some (top_told25r14_pre _ _ _ _ _ _ _ _ _ _ _), top_told25r14_col _ _ _ _ _ _ _ _ _ _ _, fun h => h⟩
  · cases h
end Go.Proofs.Ytjibokphafpcmaa

/-! Written by program (wip/sygen.py): the contracts of the Go functions. -/
set_option maxRecDepth 100000
set_option linter.unusedVariables false
namespace Go.Proofs.Ytjibokphafpcmaa
open Go Go.Sy
theorem top_head25r14_col  : collapse Try.prog 0 (execFn Try.prog K65 noSeq 12 4 [] ⟨[], 0⟩) = some ⟨some (top_head25r14_pre), [], 0, [], .bool (top_head25r14_0)⟩ := by kernel_rfl
noncomputable def top_head25r14_eff : List U → Option Eff
  | [] => some ⟨some (top_head25r14_pre), [], 0, [], .bool (top_head25r14_0)⟩
  | _ => Option.none
noncomputable def K66 : Con := ext Try.prog K65 4 [] [] top_head25r14_eff
theorem K66_ok : ConOk Try.prog K66 := conOk_ext noSeq_ok K65_ok (n := 12) rfl rfl fun us x h => by
  unfold top_head25r14_eff at h
  split at h
  · cases h; exact ⟨some (top_head25r14_pre), top_head25r14_col, fun h => h⟩
  · cases h
theorem top_TopAdrift_col (m_At_X m_At_Y m_Depth_Lo m_Depth_Hi m_Chain heights_Lo heights_Hi height from_ : Int) (forecast reports wrong track : List (List Int)) : collapse Try.prog 4 (execFn Try.prog K66 noSeq 12 3 [.agg [.int .i64 m_At_X, .int .i64 m_At_Y, .int .i64 m_Depth_Lo, .int .i64 m_Depth_Hi, .int .i64 m_Chain], .agg [.int .i64 heights_Lo, .int .i64 heights_Hi], .int .i64 height, .sl 0, .int .i64 from_, .sl 1, .sl 2, .sl 3] ⟨[⟨0, 4, false, .row 79 [.int .i64, .int .i64, .int .i64, .int .i64, .int .i64, .int .i64] forecast⟩, ⟨1, 4, false, .row 51 [.int .i64, .int .i64, .int .i64, .int .i64, .int .i64, .int .i64, .int .i64, .int .i64, .int .i64, .int .i64, .int .i64, .int .i64, .int .i64] reports⟩, ⟨2, 4, false, .row 3 [.int .i64] wrong⟩, ⟨3, 4, false, .row 23 [.int .i64, .int .i64] track⟩], 4⟩) = some ⟨some (top_TopAdrift_pre m_At_X m_At_Y m_Depth_Lo m_Depth_Hi m_Chain heights_Lo heights_Hi height from_ forecast reports wrong track), [], 0, [], .bool (top_TopAdrift_0 m_At_X m_At_Y m_Depth_Lo m_Depth_Hi m_Chain heights_Lo heights_Hi height from_ forecast reports wrong track)⟩ := by kernel_rfl
noncomputable def top_TopAdrift_eff : List U → Option Eff
  | [.i m_At_X, .i m_At_Y, .i m_Depth_Lo, .i m_Depth_Hi, .i m_Chain, .i heights_Lo, .i heights_Hi, .i height, .i from_, .r forecast, .r reports, .r wrong, .r track] => some ⟨some (top_TopAdrift_pre m_At_X m_At_Y m_Depth_Lo m_Depth_Hi m_Chain heights_Lo heights_Hi height from_ forecast reports wrong track), [], 0, [], .bool (top_TopAdrift_0 m_At_X m_At_Y m_Depth_Lo m_Depth_Hi m_Chain heights_Lo heights_Hi height from_ forecast reports wrong track)⟩
  | _ => Option.none
noncomputable def K67 : Con := ext Try.prog K66 3 [.agg [.int .i64 0, .int .i64 0, .int .i64 0, .int .i64 0, .int .i64 0], .agg [.int .i64 0, .int .i64 0], .int .i64 0, .sl 0, .int .i64 0, .sl 1, .sl 2, .sl 3] [⟨0, 0, false, .row 79 [.int .i64, .int .i64, .int .i64, .int .i64, .int .i64, .int .i64] []⟩, ⟨1, 0, false, .row 51 [.int .i64, .int .i64, .int .i64, .int .i64, .int .i64, .int .i64, .int .i64, .int .i64, .int .i64, .int .i64, .int .i64, .int .i64, .int .i64] []⟩, ⟨2, 0, false, .row 3 [.int .i64] []⟩, ⟨3, 0, false, .row 23 [.int .i64, .int .i64] []⟩] top_TopAdrift_eff
theorem K67_ok : ConOk Try.prog K67 := conOk_ext noSeq_ok K66_ok (n := 12) rfl rfl fun us x h => by
  unfold top_TopAdrift_eff at h
  split at h
  · cases h; exact ⟨some (top_TopAdrift_pre _ _ _ _ _ _ _ _ _ _ _ _ _), top_TopAdrift_col _ _ _ _ _ _ _ _ _ _ _ _ _, fun h => h⟩
  · cases h
end Go.Proofs.Ytjibokphafpcmaa
