/- Written by program (wip/gen.py): the contracts of the Go functions. -/
import Derived.Test.YtbopeaebdlmapaaRows
import Derived.Test.YtbopeaebdlmapaaSxN
import Derived.Test.YtbopeaebdlmapaaSpanD
set_option maxRecDepth 100000
set_option linter.unusedVariables false
namespace Go.Proofs.Ytbopeaebdlmapaa
open Go Go.Sx
noncomputable def G0 : Con := Con.none
theorem G0_ok : ConOk Try.prog G0 := conOk_none _
theorem span_Valid_col (s_Lo s_Hi : Int) : collapseW (execFn Try.prog G0 9 0 66 [.agg [.int .i64 s_Lo, .int .i64 s_Hi]] ⟨[], 0⟩) = some (.val (.bool (span_Valid_0 s_Lo s_Hi))) := by kernel_rfl
def span_Valid_con : List AV → Option R
  | [.agg [.int .i64 s_Lo, .int .i64 s_Hi]] => some (.val (.bool (span_Valid_0 s_Lo s_Hi)))
  | _ => Option.none
noncomputable def G1 : Con := G0.add 66 span_Valid_con
theorem span_Valid_at (s_Lo s_Hi : Int) : ConAt Try.prog 66 [.agg [.int .i64 s_Lo, .int .i64 s_Hi]] (.val (.bool (span_Valid_0 s_Lo s_Hi))) := conAt_of G0_ok (span_Valid_col _ _) rfl rfl
theorem G1_ok : ConOk Try.prog G1 := con_add G0_ok fun args r h => by
  unfold span_Valid_con at h
  split at h
  · cases h; exact span_Valid_at _ _
  · cases h
theorem span_ends_int_col (a b : Int) : collapseW (execFn Try.prog G1 9 0 67 [.int .i64 a, .int .i64 b] ⟨[], 0⟩) = some (.val (.tup [.int .i64 (span_ends_int_0 a b), .int .i64 (span_ends_int_1 a b)])) := by kernel_rfl
def span_ends_int_con : List AV → Option R
  | [.int .i64 a, .int .i64 b] => some (.val (.tup [.int .i64 (span_ends_int_0 a b), .int .i64 (span_ends_int_1 a b)]))
  | _ => Option.none
noncomputable def G2 : Con := G1.add 67 span_ends_int_con
theorem span_ends_int_at (a b : Int) : ConAt Try.prog 67 [.int .i64 a, .int .i64 b] (.val (.tup [.int .i64 (span_ends_int_0 a b), .int .i64 (span_ends_int_1 a b)])) := conAt_of G1_ok (span_ends_int_col _ _) rfl rfl
theorem G2_ok : ConOk Try.prog G2 := con_add G1_ok fun args r h => by
  unfold span_ends_int_con at h
  split at h
  · cases h; exact span_ends_int_at _ _
  · cases h
theorem span_Meet_col (s_Lo s_Hi t_Lo t_Hi : Int) : collapseW (execFn Try.prog G2 9 0 63 [.agg [.int .i64 s_Lo, .int .i64 s_Hi], .agg [.int .i64 t_Lo, .int .i64 t_Hi]] ⟨[], 0⟩) = some (.val (.tup [.agg [.int .i64 (span_Meet_0 s_Lo s_Hi t_Lo t_Hi), .int .i64 (span_Meet_1 s_Lo s_Hi t_Lo t_Hi)], .int .i64 (span_Meet_2 s_Lo s_Hi t_Lo t_Hi)])) := by kernel_rfl
def span_Meet_con : List AV → Option R
  | [.agg [.int .i64 s_Lo, .int .i64 s_Hi], .agg [.int .i64 t_Lo, .int .i64 t_Hi]] => some (.val (.tup [.agg [.int .i64 (span_Meet_0 s_Lo s_Hi t_Lo t_Hi), .int .i64 (span_Meet_1 s_Lo s_Hi t_Lo t_Hi)], .int .i64 (span_Meet_2 s_Lo s_Hi t_Lo t_Hi)]))
  | _ => Option.none
noncomputable def G3 : Con := G2.add 63 span_Meet_con
theorem span_Meet_at (s_Lo s_Hi t_Lo t_Hi : Int) : ConAt Try.prog 63 [.agg [.int .i64 s_Lo, .int .i64 s_Hi], .agg [.int .i64 t_Lo, .int .i64 t_Hi]] (.val (.tup [.agg [.int .i64 (span_Meet_0 s_Lo s_Hi t_Lo t_Hi), .int .i64 (span_Meet_1 s_Lo s_Hi t_Lo t_Hi)], .int .i64 (span_Meet_2 s_Lo s_Hi t_Lo t_Hi)])) := conAt_of G2_ok (span_Meet_col _ _ _ _) rfl rfl
theorem G3_ok : ConOk Try.prog G3 := con_add G2_ok fun args r h => by
  unfold span_Meet_con at h
  split at h
  · cases h; exact span_Meet_at _ _ _ _
  · cases h
theorem span_Join_col (s_Lo s_Hi t_Lo t_Hi : Int) : collapseW (execFn Try.prog G3 9 0 65 [.agg [.int .i64 s_Lo, .int .i64 s_Hi], .agg [.int .i64 t_Lo, .int .i64 t_Hi]] ⟨[], 0⟩) = some (.val (.tup [.agg [.int .i64 (span_Join_0 s_Lo s_Hi t_Lo t_Hi), .int .i64 (span_Join_1 s_Lo s_Hi t_Lo t_Hi)], .int .i64 (span_Join_2 s_Lo s_Hi t_Lo t_Hi)])) := by kernel_rfl
def span_Join_con : List AV → Option R
  | [.agg [.int .i64 s_Lo, .int .i64 s_Hi], .agg [.int .i64 t_Lo, .int .i64 t_Hi]] => some (.val (.tup [.agg [.int .i64 (span_Join_0 s_Lo s_Hi t_Lo t_Hi), .int .i64 (span_Join_1 s_Lo s_Hi t_Lo t_Hi)], .int .i64 (span_Join_2 s_Lo s_Hi t_Lo t_Hi)]))
  | _ => Option.none
noncomputable def G4 : Con := G3.add 65 span_Join_con
theorem span_Join_at (s_Lo s_Hi t_Lo t_Hi : Int) : ConAt Try.prog 65 [.agg [.int .i64 s_Lo, .int .i64 s_Hi], .agg [.int .i64 t_Lo, .int .i64 t_Hi]] (.val (.tup [.agg [.int .i64 (span_Join_0 s_Lo s_Hi t_Lo t_Hi), .int .i64 (span_Join_1 s_Lo s_Hi t_Lo t_Hi)], .int .i64 (span_Join_2 s_Lo s_Hi t_Lo t_Hi)])) := conAt_of G3_ok (span_Join_col _ _ _ _) rfl rfl
theorem G4_ok : ConOk Try.prog G4 := con_add G3_ok fun args r h => by
  unfold span_Join_con at h
  split at h
  · cases h; exact span_Join_at _ _ _ _
  · cases h
theorem span_Within_col (s_Lo s_Hi t_Lo t_Hi : Int) : collapseW (execFn Try.prog G4 9 0 58 [.agg [.int .i64 s_Lo, .int .i64 s_Hi], .agg [.int .i64 t_Lo, .int .i64 t_Hi]] ⟨[], 0⟩) = some (.val (.tup [.bool (span_Within_0 s_Lo s_Hi t_Lo t_Hi), .int .i64 (span_Within_1 s_Lo s_Hi t_Lo t_Hi)])) := by kernel_rfl
def span_Within_con : List AV → Option R
  | [.agg [.int .i64 s_Lo, .int .i64 s_Hi], .agg [.int .i64 t_Lo, .int .i64 t_Hi]] => some (.val (.tup [.bool (span_Within_0 s_Lo s_Hi t_Lo t_Hi), .int .i64 (span_Within_1 s_Lo s_Hi t_Lo t_Hi)]))
  | _ => Option.none
noncomputable def G5 : Con := G4.add 58 span_Within_con
theorem span_Within_at (s_Lo s_Hi t_Lo t_Hi : Int) : ConAt Try.prog 58 [.agg [.int .i64 s_Lo, .int .i64 s_Hi], .agg [.int .i64 t_Lo, .int .i64 t_Hi]] (.val (.tup [.bool (span_Within_0 s_Lo s_Hi t_Lo t_Hi), .int .i64 (span_Within_1 s_Lo s_Hi t_Lo t_Hi)])) := conAt_of G4_ok (span_Within_col _ _ _ _) rfl rfl
theorem G5_ok : ConOk Try.prog G5 := con_add G4_ok fun args r h => by
  unfold span_Within_con at h
  split at h
  · cases h; exact span_Within_at _ _ _ _
  · cases h
theorem span_ValidBox_col (b_X_Lo b_X_Hi b_Y_Lo b_Y_Hi : Int) : collapseW (execFn Try.prog G5 9 0 38 [.agg [.int .i64 b_X_Lo, .int .i64 b_X_Hi, .int .i64 b_Y_Lo, .int .i64 b_Y_Hi]] ⟨[], 0⟩) = some (.val (.bool (span_ValidBox_0 b_X_Lo b_X_Hi b_Y_Lo b_Y_Hi))) := by kernel_rfl
def span_ValidBox_con : List AV → Option R
  | [.agg [.int .i64 b_X_Lo, .int .i64 b_X_Hi, .int .i64 b_Y_Lo, .int .i64 b_Y_Hi]] => some (.val (.bool (span_ValidBox_0 b_X_Lo b_X_Hi b_Y_Lo b_Y_Hi)))
  | _ => Option.none
noncomputable def G6 : Con := G5.add 38 span_ValidBox_con
theorem span_ValidBox_at (b_X_Lo b_X_Hi b_Y_Lo b_Y_Hi : Int) : ConAt Try.prog 38 [.agg [.int .i64 b_X_Lo, .int .i64 b_X_Hi, .int .i64 b_Y_Lo, .int .i64 b_Y_Hi]] (.val (.bool (span_ValidBox_0 b_X_Lo b_X_Hi b_Y_Lo b_Y_Hi))) := conAt_of G5_ok (span_ValidBox_col _ _ _ _) rfl rfl
theorem G6_ok : ConOk Try.prog G6 := con_add G5_ok fun args r h => by
  unfold span_ValidBox_con at h
  split at h
  · cases h; exact span_ValidBox_at _ _ _ _
  · cases h
theorem span_MeetBox_col (a_X_Lo a_X_Hi a_Y_Lo a_Y_Hi b_X_Lo b_X_Hi b_Y_Lo b_Y_Hi : Int) : collapseW (execFn Try.prog G6 9 0 47 [.agg [.int .i64 a_X_Lo, .int .i64 a_X_Hi, .int .i64 a_Y_Lo, .int .i64 a_Y_Hi], .agg [.int .i64 b_X_Lo, .int .i64 b_X_Hi, .int .i64 b_Y_Lo, .int .i64 b_Y_Hi]] ⟨[], 0⟩) = some (.val (.tup [.agg [.int .i64 (span_MeetBox_0 a_X_Lo a_X_Hi a_Y_Lo a_Y_Hi b_X_Lo b_X_Hi b_Y_Lo b_Y_Hi), .int .i64 (span_MeetBox_1 a_X_Lo a_X_Hi a_Y_Lo a_Y_Hi b_X_Lo b_X_Hi b_Y_Lo b_Y_Hi), .int .i64 (span_MeetBox_2 a_X_Lo a_X_Hi a_Y_Lo a_Y_Hi b_X_Lo b_X_Hi b_Y_Lo b_Y_Hi), .int .i64 (span_MeetBox_3 a_X_Lo a_X_Hi a_Y_Lo a_Y_Hi b_X_Lo b_X_Hi b_Y_Lo b_Y_Hi)], .int .i64 (span_MeetBox_4 a_X_Lo a_X_Hi a_Y_Lo a_Y_Hi b_X_Lo b_X_Hi b_Y_Lo b_Y_Hi)])) := by kernel_rfl
def span_MeetBox_con : List AV → Option R
  | [.agg [.int .i64 a_X_Lo, .int .i64 a_X_Hi, .int .i64 a_Y_Lo, .int .i64 a_Y_Hi], .agg [.int .i64 b_X_Lo, .int .i64 b_X_Hi, .int .i64 b_Y_Lo, .int .i64 b_Y_Hi]] => some (.val (.tup [.agg [.int .i64 (span_MeetBox_0 a_X_Lo a_X_Hi a_Y_Lo a_Y_Hi b_X_Lo b_X_Hi b_Y_Lo b_Y_Hi), .int .i64 (span_MeetBox_1 a_X_Lo a_X_Hi a_Y_Lo a_Y_Hi b_X_Lo b_X_Hi b_Y_Lo b_Y_Hi), .int .i64 (span_MeetBox_2 a_X_Lo a_X_Hi a_Y_Lo a_Y_Hi b_X_Lo b_X_Hi b_Y_Lo b_Y_Hi), .int .i64 (span_MeetBox_3 a_X_Lo a_X_Hi a_Y_Lo a_Y_Hi b_X_Lo b_X_Hi b_Y_Lo b_Y_Hi)], .int .i64 (span_MeetBox_4 a_X_Lo a_X_Hi a_Y_Lo a_Y_Hi b_X_Lo b_X_Hi b_Y_Lo b_Y_Hi)]))
  | _ => Option.none
noncomputable def G7 : Con := G6.add 47 span_MeetBox_con
theorem span_MeetBox_at (a_X_Lo a_X_Hi a_Y_Lo a_Y_Hi b_X_Lo b_X_Hi b_Y_Lo b_Y_Hi : Int) : ConAt Try.prog 47 [.agg [.int .i64 a_X_Lo, .int .i64 a_X_Hi, .int .i64 a_Y_Lo, .int .i64 a_Y_Hi], .agg [.int .i64 b_X_Lo, .int .i64 b_X_Hi, .int .i64 b_Y_Lo, .int .i64 b_Y_Hi]] (.val (.tup [.agg [.int .i64 (span_MeetBox_0 a_X_Lo a_X_Hi a_Y_Lo a_Y_Hi b_X_Lo b_X_Hi b_Y_Lo b_Y_Hi), .int .i64 (span_MeetBox_1 a_X_Lo a_X_Hi a_Y_Lo a_Y_Hi b_X_Lo b_X_Hi b_Y_Lo b_Y_Hi), .int .i64 (span_MeetBox_2 a_X_Lo a_X_Hi a_Y_Lo a_Y_Hi b_X_Lo b_X_Hi b_Y_Lo b_Y_Hi), .int .i64 (span_MeetBox_3 a_X_Lo a_X_Hi a_Y_Lo a_Y_Hi b_X_Lo b_X_Hi b_Y_Lo b_Y_Hi)], .int .i64 (span_MeetBox_4 a_X_Lo a_X_Hi a_Y_Lo a_Y_Hi b_X_Lo b_X_Hi b_Y_Lo b_Y_Hi)])) := conAt_of G6_ok (span_MeetBox_col _ _ _ _ _ _ _ _) rfl rfl
theorem G7_ok : ConOk Try.prog G7 := con_add G6_ok fun args r h => by
  unfold span_MeetBox_con at h
  split at h
  · cases h; exact span_MeetBox_at _ _ _ _ _ _ _ _
  · cases h
end Go.Proofs.Ytbopeaebdlmapaa
