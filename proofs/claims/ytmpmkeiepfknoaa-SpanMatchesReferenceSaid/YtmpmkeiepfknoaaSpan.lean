/- Written by program (wip/gen.py): the contracts of the Go functions. -/
import Derived.Test.YtmpmkeiepfknoaaRows
import Derived.Test.YtmpmkeiepfknoaaSxN
import Derived.Test.YtmpmkeiepfknoaaSpanD
set_option maxRecDepth 100000
set_option linter.unusedVariables false
namespace Go.Proofs.Ytmpmkeiepfknoaa
open Go Go.Sx
noncomputable def G0 : Con := Con.none
theorem G0_ok : ConOk Try.prog G0 := conOk_none _
theorem span_Valid_col (s_Lo s_Hi : Int) : collapse (execFn Try.prog G0 9 0 16 [.agg [.int .i64 s_Lo, .int .i64 s_Hi]] ⟨[], 0⟩) = some (.val (.bool (span_Valid_0 s_Lo s_Hi))) := by kernel_rfl
def span_Valid_con : List AV → Option R
  | [.agg [.int .i64 s_Lo, .int .i64 s_Hi]] => some (.val (.bool (span_Valid_0 s_Lo s_Hi)))
  | _ => Option.none
noncomputable def G1 : Con := G0.add 16 span_Valid_con
theorem span_Valid_at (s_Lo s_Hi : Int) : ConAt Try.prog 16 [.agg [.int .i64 s_Lo, .int .i64 s_Hi]] (.val (.bool (span_Valid_0 s_Lo s_Hi))) := conAt_of G0_ok (span_Valid_col _ _) rfl rfl
theorem G1_ok : ConOk Try.prog G1 := con_add G0_ok fun args r h => by
  unfold span_Valid_con at h
  split at h
  · cases h; exact span_Valid_at _ _
  · cases h
theorem span_kept_col (s_Lo s_Hi : Int) : collapse (execFn Try.prog G1 9 0 39 [.agg [.int .i64 s_Lo, .int .i64 s_Hi]] ⟨[], 0⟩) = some (.val (.tup [.agg [.int .i64 (span_kept_0 s_Lo s_Hi), .int .i64 (span_kept_1 s_Lo s_Hi)], .int .i64 (span_kept_2 s_Lo s_Hi)])) := by kernel_rfl
def span_kept_con : List AV → Option R
  | [.agg [.int .i64 s_Lo, .int .i64 s_Hi]] => some (.val (.tup [.agg [.int .i64 (span_kept_0 s_Lo s_Hi), .int .i64 (span_kept_1 s_Lo s_Hi)], .int .i64 (span_kept_2 s_Lo s_Hi)]))
  | _ => Option.none
noncomputable def G2 : Con := G1.add 39 span_kept_con
theorem span_kept_at (s_Lo s_Hi : Int) : ConAt Try.prog 39 [.agg [.int .i64 s_Lo, .int .i64 s_Hi]] (.val (.tup [.agg [.int .i64 (span_kept_0 s_Lo s_Hi), .int .i64 (span_kept_1 s_Lo s_Hi)], .int .i64 (span_kept_2 s_Lo s_Hi)])) := conAt_of G1_ok (span_kept_col _ _) rfl rfl
theorem G2_ok : ConOk Try.prog G2 := con_add G1_ok fun args r h => by
  unfold span_kept_con at h
  split at h
  · cases h; exact span_kept_at _ _
  · cases h
theorem span_Add_col (s_Lo s_Hi t_Lo t_Hi : Int) : collapse (execFn Try.prog G2 9 0 12 [.agg [.int .i64 s_Lo, .int .i64 s_Hi], .agg [.int .i64 t_Lo, .int .i64 t_Hi]] ⟨[], 0⟩) = some (.val (.tup [.agg [.int .i64 (span_Add_0 s_Lo s_Hi t_Lo t_Hi), .int .i64 (span_Add_1 s_Lo s_Hi t_Lo t_Hi)], .int .i64 (span_Add_2 s_Lo s_Hi t_Lo t_Hi)])) := by kernel_rfl
def span_Add_con : List AV → Option R
  | [.agg [.int .i64 s_Lo, .int .i64 s_Hi], .agg [.int .i64 t_Lo, .int .i64 t_Hi]] => some (.val (.tup [.agg [.int .i64 (span_Add_0 s_Lo s_Hi t_Lo t_Hi), .int .i64 (span_Add_1 s_Lo s_Hi t_Lo t_Hi)], .int .i64 (span_Add_2 s_Lo s_Hi t_Lo t_Hi)]))
  | _ => Option.none
noncomputable def G3 : Con := G2.add 12 span_Add_con
theorem span_Add_at (s_Lo s_Hi t_Lo t_Hi : Int) : ConAt Try.prog 12 [.agg [.int .i64 s_Lo, .int .i64 s_Hi], .agg [.int .i64 t_Lo, .int .i64 t_Hi]] (.val (.tup [.agg [.int .i64 (span_Add_0 s_Lo s_Hi t_Lo t_Hi), .int .i64 (span_Add_1 s_Lo s_Hi t_Lo t_Hi)], .int .i64 (span_Add_2 s_Lo s_Hi t_Lo t_Hi)])) := conAt_of G2_ok (span_Add_col _ _ _ _) rfl rfl
theorem G3_ok : ConOk Try.prog G3 := con_add G2_ok fun args r h => by
  unfold span_Add_con at h
  split at h
  · cases h; exact span_Add_at _ _ _ _
  · cases h
theorem span_Sub_col (s_Lo s_Hi t_Lo t_Hi : Int) : collapse (execFn Try.prog G3 9 0 13 [.agg [.int .i64 s_Lo, .int .i64 s_Hi], .agg [.int .i64 t_Lo, .int .i64 t_Hi]] ⟨[], 0⟩) = some (.val (.tup [.agg [.int .i64 (span_Sub_0 s_Lo s_Hi t_Lo t_Hi), .int .i64 (span_Sub_1 s_Lo s_Hi t_Lo t_Hi)], .int .i64 (span_Sub_2 s_Lo s_Hi t_Lo t_Hi)])) := by kernel_rfl
def span_Sub_con : List AV → Option R
  | [.agg [.int .i64 s_Lo, .int .i64 s_Hi], .agg [.int .i64 t_Lo, .int .i64 t_Hi]] => some (.val (.tup [.agg [.int .i64 (span_Sub_0 s_Lo s_Hi t_Lo t_Hi), .int .i64 (span_Sub_1 s_Lo s_Hi t_Lo t_Hi)], .int .i64 (span_Sub_2 s_Lo s_Hi t_Lo t_Hi)]))
  | _ => Option.none
noncomputable def G4 : Con := G3.add 13 span_Sub_con
theorem span_Sub_at (s_Lo s_Hi t_Lo t_Hi : Int) : ConAt Try.prog 13 [.agg [.int .i64 s_Lo, .int .i64 s_Hi], .agg [.int .i64 t_Lo, .int .i64 t_Hi]] (.val (.tup [.agg [.int .i64 (span_Sub_0 s_Lo s_Hi t_Lo t_Hi), .int .i64 (span_Sub_1 s_Lo s_Hi t_Lo t_Hi)], .int .i64 (span_Sub_2 s_Lo s_Hi t_Lo t_Hi)])) := conAt_of G3_ok (span_Sub_col _ _ _ _) rfl rfl
theorem G4_ok : ConOk Try.prog G4 := con_add G3_ok fun args r h => by
  unfold span_Sub_con at h
  split at h
  · cases h; exact span_Sub_at _ _ _ _
  · cases h
theorem span_ends_int_col (a b : Int) : collapse (execFn Try.prog G4 9 0 40 [.int .i64 a, .int .i64 b] ⟨[], 0⟩) = some (.val (.tup [.int .i64 (span_ends_int_0 a b), .int .i64 (span_ends_int_1 a b)])) := by kernel_rfl
def span_ends_int_con : List AV → Option R
  | [.int .i64 a, .int .i64 b] => some (.val (.tup [.int .i64 (span_ends_int_0 a b), .int .i64 (span_ends_int_1 a b)]))
  | _ => Option.none
noncomputable def G5 : Con := G4.add 40 span_ends_int_con
theorem span_ends_int_at (a b : Int) : ConAt Try.prog 40 [.int .i64 a, .int .i64 b] (.val (.tup [.int .i64 (span_ends_int_0 a b), .int .i64 (span_ends_int_1 a b)])) := conAt_of G4_ok (span_ends_int_col _ _) rfl rfl
theorem G5_ok : ConOk Try.prog G5 := con_add G4_ok fun args r h => by
  unfold span_ends_int_con at h
  split at h
  · cases h; exact span_ends_int_at _ _
  · cases h
theorem span_Scale_col (s_Lo s_Hi num den : Int) : collapse (execFn Try.prog G5 9 0 14 [.agg [.int .i64 s_Lo, .int .i64 s_Hi], .int .i64 num, .int .i64 den] ⟨[], 0⟩) = some (.chk (span_Scale_pre s_Lo s_Hi num den) (.tup [.agg [.int .i64 (span_Scale_0 s_Lo s_Hi num den), .int .i64 (span_Scale_1 s_Lo s_Hi num den)], .int .i64 (span_Scale_2 s_Lo s_Hi num den)])) := by kernel_rfl
def span_Scale_con : List AV → Option R
  | [.agg [.int .i64 s_Lo, .int .i64 s_Hi], .int .i64 num, .int .i64 den] => some (.val (.tup [.agg [.int .i64 (span_Scale_0 s_Lo s_Hi num den), .int .i64 (span_Scale_1 s_Lo s_Hi num den)], .int .i64 (span_Scale_2 s_Lo s_Hi num den)]))
  | _ => Option.none
noncomputable def G6 : Con := G5.add 14 span_Scale_con
theorem span_Scale_at (s_Lo s_Hi num den : Int) : ConAt Try.prog 14 [.agg [.int .i64 s_Lo, .int .i64 s_Hi], .int .i64 num, .int .i64 den] (.val (.tup [.agg [.int .i64 (span_Scale_0 s_Lo s_Hi num den), .int .i64 (span_Scale_1 s_Lo s_Hi num den)], .int .i64 (span_Scale_2 s_Lo s_Hi num den)])) := conAt_val (conAt_of G5_ok (span_Scale_col _ _ _ _) rfl rfl) (span_Scale_pre_ok _ _ _ _)
theorem G6_ok : ConOk Try.prog G6 := con_add G5_ok fun args r h => by
  unfold span_Scale_con at h
  split at h
  · cases h; exact span_Scale_at _ _ _ _
  · cases h
theorem span_Meet_col (s_Lo s_Hi t_Lo t_Hi : Int) : collapse (execFn Try.prog G6 9 0 15 [.agg [.int .i64 s_Lo, .int .i64 s_Hi], .agg [.int .i64 t_Lo, .int .i64 t_Hi]] ⟨[], 0⟩) = some (.val (.tup [.agg [.int .i64 (span_Meet_0 s_Lo s_Hi t_Lo t_Hi), .int .i64 (span_Meet_1 s_Lo s_Hi t_Lo t_Hi)], .int .i64 (span_Meet_2 s_Lo s_Hi t_Lo t_Hi)])) := by kernel_rfl
def span_Meet_con : List AV → Option R
  | [.agg [.int .i64 s_Lo, .int .i64 s_Hi], .agg [.int .i64 t_Lo, .int .i64 t_Hi]] => some (.val (.tup [.agg [.int .i64 (span_Meet_0 s_Lo s_Hi t_Lo t_Hi), .int .i64 (span_Meet_1 s_Lo s_Hi t_Lo t_Hi)], .int .i64 (span_Meet_2 s_Lo s_Hi t_Lo t_Hi)]))
  | _ => Option.none
noncomputable def G7 : Con := G6.add 15 span_Meet_con
theorem span_Meet_at (s_Lo s_Hi t_Lo t_Hi : Int) : ConAt Try.prog 15 [.agg [.int .i64 s_Lo, .int .i64 s_Hi], .agg [.int .i64 t_Lo, .int .i64 t_Hi]] (.val (.tup [.agg [.int .i64 (span_Meet_0 s_Lo s_Hi t_Lo t_Hi), .int .i64 (span_Meet_1 s_Lo s_Hi t_Lo t_Hi)], .int .i64 (span_Meet_2 s_Lo s_Hi t_Lo t_Hi)])) := conAt_of G6_ok (span_Meet_col _ _ _ _) rfl rfl
theorem G7_ok : ConOk Try.prog G7 := con_add G6_ok fun args r h => by
  unfold span_Meet_con at h
  split at h
  · cases h; exact span_Meet_at _ _ _ _
  · cases h
theorem span_Join_col (s_Lo s_Hi t_Lo t_Hi : Int) : collapse (execFn Try.prog G7 9 0 17 [.agg [.int .i64 s_Lo, .int .i64 s_Hi], .agg [.int .i64 t_Lo, .int .i64 t_Hi]] ⟨[], 0⟩) = some (.val (.tup [.agg [.int .i64 (span_Join_0 s_Lo s_Hi t_Lo t_Hi), .int .i64 (span_Join_1 s_Lo s_Hi t_Lo t_Hi)], .int .i64 (span_Join_2 s_Lo s_Hi t_Lo t_Hi)])) := by kernel_rfl
def span_Join_con : List AV → Option R
  | [.agg [.int .i64 s_Lo, .int .i64 s_Hi], .agg [.int .i64 t_Lo, .int .i64 t_Hi]] => some (.val (.tup [.agg [.int .i64 (span_Join_0 s_Lo s_Hi t_Lo t_Hi), .int .i64 (span_Join_1 s_Lo s_Hi t_Lo t_Hi)], .int .i64 (span_Join_2 s_Lo s_Hi t_Lo t_Hi)]))
  | _ => Option.none
noncomputable def G8 : Con := G7.add 17 span_Join_con
theorem span_Join_at (s_Lo s_Hi t_Lo t_Hi : Int) : ConAt Try.prog 17 [.agg [.int .i64 s_Lo, .int .i64 s_Hi], .agg [.int .i64 t_Lo, .int .i64 t_Hi]] (.val (.tup [.agg [.int .i64 (span_Join_0 s_Lo s_Hi t_Lo t_Hi), .int .i64 (span_Join_1 s_Lo s_Hi t_Lo t_Hi)], .int .i64 (span_Join_2 s_Lo s_Hi t_Lo t_Hi)])) := conAt_of G7_ok (span_Join_col _ _ _ _) rfl rfl
theorem G8_ok : ConOk Try.prog G8 := con_add G7_ok fun args r h => by
  unfold span_Join_con at h
  split at h
  · cases h; exact span_Join_at _ _ _ _
  · cases h
theorem span_Within_col (s_Lo s_Hi t_Lo t_Hi : Int) : collapse (execFn Try.prog G8 9 0 18 [.agg [.int .i64 s_Lo, .int .i64 s_Hi], .agg [.int .i64 t_Lo, .int .i64 t_Hi]] ⟨[], 0⟩) = some (.val (.tup [.bool (span_Within_0 s_Lo s_Hi t_Lo t_Hi), .int .i64 (span_Within_1 s_Lo s_Hi t_Lo t_Hi)])) := by kernel_rfl
def span_Within_con : List AV → Option R
  | [.agg [.int .i64 s_Lo, .int .i64 s_Hi], .agg [.int .i64 t_Lo, .int .i64 t_Hi]] => some (.val (.tup [.bool (span_Within_0 s_Lo s_Hi t_Lo t_Hi), .int .i64 (span_Within_1 s_Lo s_Hi t_Lo t_Hi)]))
  | _ => Option.none
noncomputable def G9 : Con := G8.add 18 span_Within_con
theorem span_Within_at (s_Lo s_Hi t_Lo t_Hi : Int) : ConAt Try.prog 18 [.agg [.int .i64 s_Lo, .int .i64 s_Hi], .agg [.int .i64 t_Lo, .int .i64 t_Hi]] (.val (.tup [.bool (span_Within_0 s_Lo s_Hi t_Lo t_Hi), .int .i64 (span_Within_1 s_Lo s_Hi t_Lo t_Hi)])) := conAt_of G8_ok (span_Within_col _ _ _ _) rfl rfl
theorem G9_ok : ConOk Try.prog G9 := con_add G8_ok fun args r h => by
  unfold span_Within_con at h
  split at h
  · cases h; exact span_Within_at _ _ _ _
  · cases h
theorem span_ValidBox_col (b_X_Lo b_X_Hi b_Y_Lo b_Y_Hi : Int) : collapse (execFn Try.prog G9 9 0 22 [.agg [.int .i64 b_X_Lo, .int .i64 b_X_Hi, .int .i64 b_Y_Lo, .int .i64 b_Y_Hi]] ⟨[], 0⟩) = some (.val (.bool (span_ValidBox_0 b_X_Lo b_X_Hi b_Y_Lo b_Y_Hi))) := by kernel_rfl
def span_ValidBox_con : List AV → Option R
  | [.agg [.int .i64 b_X_Lo, .int .i64 b_X_Hi, .int .i64 b_Y_Lo, .int .i64 b_Y_Hi]] => some (.val (.bool (span_ValidBox_0 b_X_Lo b_X_Hi b_Y_Lo b_Y_Hi)))
  | _ => Option.none
noncomputable def G10 : Con := G9.add 22 span_ValidBox_con
theorem span_ValidBox_at (b_X_Lo b_X_Hi b_Y_Lo b_Y_Hi : Int) : ConAt Try.prog 22 [.agg [.int .i64 b_X_Lo, .int .i64 b_X_Hi, .int .i64 b_Y_Lo, .int .i64 b_Y_Hi]] (.val (.bool (span_ValidBox_0 b_X_Lo b_X_Hi b_Y_Lo b_Y_Hi))) := conAt_of G9_ok (span_ValidBox_col _ _ _ _) rfl rfl
theorem G10_ok : ConOk Try.prog G10 := con_add G9_ok fun args r h => by
  unfold span_ValidBox_con at h
  split at h
  · cases h; exact span_ValidBox_at _ _ _ _
  · cases h
theorem span_MeetBox_col (a_X_Lo a_X_Hi a_Y_Lo a_Y_Hi b_X_Lo b_X_Hi b_Y_Lo b_Y_Hi : Int) : collapse (execFn Try.prog G10 9 0 30 [.agg [.int .i64 a_X_Lo, .int .i64 a_X_Hi, .int .i64 a_Y_Lo, .int .i64 a_Y_Hi], .agg [.int .i64 b_X_Lo, .int .i64 b_X_Hi, .int .i64 b_Y_Lo, .int .i64 b_Y_Hi]] ⟨[], 0⟩) = some (.val (.tup [.agg [.int .i64 (span_MeetBox_0 a_X_Lo a_X_Hi a_Y_Lo a_Y_Hi b_X_Lo b_X_Hi b_Y_Lo b_Y_Hi), .int .i64 (span_MeetBox_1 a_X_Lo a_X_Hi a_Y_Lo a_Y_Hi b_X_Lo b_X_Hi b_Y_Lo b_Y_Hi), .int .i64 (span_MeetBox_2 a_X_Lo a_X_Hi a_Y_Lo a_Y_Hi b_X_Lo b_X_Hi b_Y_Lo b_Y_Hi), .int .i64 (span_MeetBox_3 a_X_Lo a_X_Hi a_Y_Lo a_Y_Hi b_X_Lo b_X_Hi b_Y_Lo b_Y_Hi)], .int .i64 (span_MeetBox_4 a_X_Lo a_X_Hi a_Y_Lo a_Y_Hi b_X_Lo b_X_Hi b_Y_Lo b_Y_Hi)])) := by kernel_rfl
def span_MeetBox_con : List AV → Option R
  | [.agg [.int .i64 a_X_Lo, .int .i64 a_X_Hi, .int .i64 a_Y_Lo, .int .i64 a_Y_Hi], .agg [.int .i64 b_X_Lo, .int .i64 b_X_Hi, .int .i64 b_Y_Lo, .int .i64 b_Y_Hi]] => some (.val (.tup [.agg [.int .i64 (span_MeetBox_0 a_X_Lo a_X_Hi a_Y_Lo a_Y_Hi b_X_Lo b_X_Hi b_Y_Lo b_Y_Hi), .int .i64 (span_MeetBox_1 a_X_Lo a_X_Hi a_Y_Lo a_Y_Hi b_X_Lo b_X_Hi b_Y_Lo b_Y_Hi), .int .i64 (span_MeetBox_2 a_X_Lo a_X_Hi a_Y_Lo a_Y_Hi b_X_Lo b_X_Hi b_Y_Lo b_Y_Hi), .int .i64 (span_MeetBox_3 a_X_Lo a_X_Hi a_Y_Lo a_Y_Hi b_X_Lo b_X_Hi b_Y_Lo b_Y_Hi)], .int .i64 (span_MeetBox_4 a_X_Lo a_X_Hi a_Y_Lo a_Y_Hi b_X_Lo b_X_Hi b_Y_Lo b_Y_Hi)]))
  | _ => Option.none
noncomputable def G11 : Con := G10.add 30 span_MeetBox_con
theorem span_MeetBox_at (a_X_Lo a_X_Hi a_Y_Lo a_Y_Hi b_X_Lo b_X_Hi b_Y_Lo b_Y_Hi : Int) : ConAt Try.prog 30 [.agg [.int .i64 a_X_Lo, .int .i64 a_X_Hi, .int .i64 a_Y_Lo, .int .i64 a_Y_Hi], .agg [.int .i64 b_X_Lo, .int .i64 b_X_Hi, .int .i64 b_Y_Lo, .int .i64 b_Y_Hi]] (.val (.tup [.agg [.int .i64 (span_MeetBox_0 a_X_Lo a_X_Hi a_Y_Lo a_Y_Hi b_X_Lo b_X_Hi b_Y_Lo b_Y_Hi), .int .i64 (span_MeetBox_1 a_X_Lo a_X_Hi a_Y_Lo a_Y_Hi b_X_Lo b_X_Hi b_Y_Lo b_Y_Hi), .int .i64 (span_MeetBox_2 a_X_Lo a_X_Hi a_Y_Lo a_Y_Hi b_X_Lo b_X_Hi b_Y_Lo b_Y_Hi), .int .i64 (span_MeetBox_3 a_X_Lo a_X_Hi a_Y_Lo a_Y_Hi b_X_Lo b_X_Hi b_Y_Lo b_Y_Hi)], .int .i64 (span_MeetBox_4 a_X_Lo a_X_Hi a_Y_Lo a_Y_Hi b_X_Lo b_X_Hi b_Y_Lo b_Y_Hi)])) := conAt_of G10_ok (span_MeetBox_col _ _ _ _ _ _ _ _) rfl rfl
theorem G11_ok : ConOk Try.prog G11 := con_add G10_ok fun args r h => by
  unfold span_MeetBox_con at h
  split at h
  · cases h; exact span_MeetBox_at _ _ _ _ _ _ _ _
  · cases h
theorem span_JoinBox_col (a_X_Lo a_X_Hi a_Y_Lo a_Y_Hi b_X_Lo b_X_Hi b_Y_Lo b_Y_Hi : Int) : collapse (execFn Try.prog G11 9 0 32 [.agg [.int .i64 a_X_Lo, .int .i64 a_X_Hi, .int .i64 a_Y_Lo, .int .i64 a_Y_Hi], .agg [.int .i64 b_X_Lo, .int .i64 b_X_Hi, .int .i64 b_Y_Lo, .int .i64 b_Y_Hi]] ⟨[], 0⟩) = some (.val (.tup [.agg [.int .i64 (span_JoinBox_0 a_X_Lo a_X_Hi a_Y_Lo a_Y_Hi b_X_Lo b_X_Hi b_Y_Lo b_Y_Hi), .int .i64 (span_JoinBox_1 a_X_Lo a_X_Hi a_Y_Lo a_Y_Hi b_X_Lo b_X_Hi b_Y_Lo b_Y_Hi), .int .i64 (span_JoinBox_2 a_X_Lo a_X_Hi a_Y_Lo a_Y_Hi b_X_Lo b_X_Hi b_Y_Lo b_Y_Hi), .int .i64 (span_JoinBox_3 a_X_Lo a_X_Hi a_Y_Lo a_Y_Hi b_X_Lo b_X_Hi b_Y_Lo b_Y_Hi)], .int .i64 (span_JoinBox_4 a_X_Lo a_X_Hi a_Y_Lo a_Y_Hi b_X_Lo b_X_Hi b_Y_Lo b_Y_Hi)])) := by kernel_rfl
def span_JoinBox_con : List AV → Option R
  | [.agg [.int .i64 a_X_Lo, .int .i64 a_X_Hi, .int .i64 a_Y_Lo, .int .i64 a_Y_Hi], .agg [.int .i64 b_X_Lo, .int .i64 b_X_Hi, .int .i64 b_Y_Lo, .int .i64 b_Y_Hi]] => some (.val (.tup [.agg [.int .i64 (span_JoinBox_0 a_X_Lo a_X_Hi a_Y_Lo a_Y_Hi b_X_Lo b_X_Hi b_Y_Lo b_Y_Hi), .int .i64 (span_JoinBox_1 a_X_Lo a_X_Hi a_Y_Lo a_Y_Hi b_X_Lo b_X_Hi b_Y_Lo b_Y_Hi), .int .i64 (span_JoinBox_2 a_X_Lo a_X_Hi a_Y_Lo a_Y_Hi b_X_Lo b_X_Hi b_Y_Lo b_Y_Hi), .int .i64 (span_JoinBox_3 a_X_Lo a_X_Hi a_Y_Lo a_Y_Hi b_X_Lo b_X_Hi b_Y_Lo b_Y_Hi)], .int .i64 (span_JoinBox_4 a_X_Lo a_X_Hi a_Y_Lo a_Y_Hi b_X_Lo b_X_Hi b_Y_Lo b_Y_Hi)]))
  | _ => Option.none
noncomputable def G12 : Con := G11.add 32 span_JoinBox_con
theorem span_JoinBox_at (a_X_Lo a_X_Hi a_Y_Lo a_Y_Hi b_X_Lo b_X_Hi b_Y_Lo b_Y_Hi : Int) : ConAt Try.prog 32 [.agg [.int .i64 a_X_Lo, .int .i64 a_X_Hi, .int .i64 a_Y_Lo, .int .i64 a_Y_Hi], .agg [.int .i64 b_X_Lo, .int .i64 b_X_Hi, .int .i64 b_Y_Lo, .int .i64 b_Y_Hi]] (.val (.tup [.agg [.int .i64 (span_JoinBox_0 a_X_Lo a_X_Hi a_Y_Lo a_Y_Hi b_X_Lo b_X_Hi b_Y_Lo b_Y_Hi), .int .i64 (span_JoinBox_1 a_X_Lo a_X_Hi a_Y_Lo a_Y_Hi b_X_Lo b_X_Hi b_Y_Lo b_Y_Hi), .int .i64 (span_JoinBox_2 a_X_Lo a_X_Hi a_Y_Lo a_Y_Hi b_X_Lo b_X_Hi b_Y_Lo b_Y_Hi), .int .i64 (span_JoinBox_3 a_X_Lo a_X_Hi a_Y_Lo a_Y_Hi b_X_Lo b_X_Hi b_Y_Lo b_Y_Hi)], .int .i64 (span_JoinBox_4 a_X_Lo a_X_Hi a_Y_Lo a_Y_Hi b_X_Lo b_X_Hi b_Y_Lo b_Y_Hi)])) := conAt_of G11_ok (span_JoinBox_col _ _ _ _ _ _ _ _) rfl rfl
theorem G12_ok : ConOk Try.prog G12 := con_add G11_ok fun args r h => by
  unfold span_JoinBox_con at h
  split at h
  · cases h; exact span_JoinBox_at _ _ _ _ _ _ _ _
  · cases h
theorem span_GrowBox_col (b_X_Lo b_X_Hi b_Y_Lo b_Y_Hi n : Int) : collapse (execFn Try.prog G12 9 0 19 [.agg [.int .i64 b_X_Lo, .int .i64 b_X_Hi, .int .i64 b_Y_Lo, .int .i64 b_Y_Hi], .int .i64 n] ⟨[], 0⟩) = some (.val (.tup [.agg [.int .i64 (span_GrowBox_0 b_X_Lo b_X_Hi b_Y_Lo b_Y_Hi n), .int .i64 (span_GrowBox_1 b_X_Lo b_X_Hi b_Y_Lo b_Y_Hi n), .int .i64 (span_GrowBox_2 b_X_Lo b_X_Hi b_Y_Lo b_Y_Hi n), .int .i64 (span_GrowBox_3 b_X_Lo b_X_Hi b_Y_Lo b_Y_Hi n)], .int .i64 (span_GrowBox_4 b_X_Lo b_X_Hi b_Y_Lo b_Y_Hi n)])) := by kernel_rfl
def span_GrowBox_con : List AV → Option R
  | [.agg [.int .i64 b_X_Lo, .int .i64 b_X_Hi, .int .i64 b_Y_Lo, .int .i64 b_Y_Hi], .int .i64 n] => some (.val (.tup [.agg [.int .i64 (span_GrowBox_0 b_X_Lo b_X_Hi b_Y_Lo b_Y_Hi n), .int .i64 (span_GrowBox_1 b_X_Lo b_X_Hi b_Y_Lo b_Y_Hi n), .int .i64 (span_GrowBox_2 b_X_Lo b_X_Hi b_Y_Lo b_Y_Hi n), .int .i64 (span_GrowBox_3 b_X_Lo b_X_Hi b_Y_Lo b_Y_Hi n)], .int .i64 (span_GrowBox_4 b_X_Lo b_X_Hi b_Y_Lo b_Y_Hi n)]))
  | _ => Option.none
noncomputable def G13 : Con := G12.add 19 span_GrowBox_con
theorem span_GrowBox_at (b_X_Lo b_X_Hi b_Y_Lo b_Y_Hi n : Int) : ConAt Try.prog 19 [.agg [.int .i64 b_X_Lo, .int .i64 b_X_Hi, .int .i64 b_Y_Lo, .int .i64 b_Y_Hi], .int .i64 n] (.val (.tup [.agg [.int .i64 (span_GrowBox_0 b_X_Lo b_X_Hi b_Y_Lo b_Y_Hi n), .int .i64 (span_GrowBox_1 b_X_Lo b_X_Hi b_Y_Lo b_Y_Hi n), .int .i64 (span_GrowBox_2 b_X_Lo b_X_Hi b_Y_Lo b_Y_Hi n), .int .i64 (span_GrowBox_3 b_X_Lo b_X_Hi b_Y_Lo b_Y_Hi n)], .int .i64 (span_GrowBox_4 b_X_Lo b_X_Hi b_Y_Lo b_Y_Hi n)])) := conAt_of G12_ok (span_GrowBox_col _ _ _ _ _) rfl rfl
theorem G13_ok : ConOk Try.prog G13 := con_add G12_ok fun args r h => by
  unfold span_GrowBox_con at h
  split at h
  · cases h; exact span_GrowBox_at _ _ _ _ _
  · cases h
theorem span_WithinBox_col (a_X_Lo a_X_Hi a_Y_Lo a_Y_Hi b_X_Lo b_X_Hi b_Y_Lo b_Y_Hi : Int) : collapse (execFn Try.prog G13 9 0 36 [.agg [.int .i64 a_X_Lo, .int .i64 a_X_Hi, .int .i64 a_Y_Lo, .int .i64 a_Y_Hi], .agg [.int .i64 b_X_Lo, .int .i64 b_X_Hi, .int .i64 b_Y_Lo, .int .i64 b_Y_Hi]] ⟨[], 0⟩) = some (.val (.tup [.bool (span_WithinBox_0 a_X_Lo a_X_Hi a_Y_Lo a_Y_Hi b_X_Lo b_X_Hi b_Y_Lo b_Y_Hi), .int .i64 (span_WithinBox_1 a_X_Lo a_X_Hi a_Y_Lo a_Y_Hi b_X_Lo b_X_Hi b_Y_Lo b_Y_Hi)])) := by kernel_rfl
def span_WithinBox_con : List AV → Option R
  | [.agg [.int .i64 a_X_Lo, .int .i64 a_X_Hi, .int .i64 a_Y_Lo, .int .i64 a_Y_Hi], .agg [.int .i64 b_X_Lo, .int .i64 b_X_Hi, .int .i64 b_Y_Lo, .int .i64 b_Y_Hi]] => some (.val (.tup [.bool (span_WithinBox_0 a_X_Lo a_X_Hi a_Y_Lo a_Y_Hi b_X_Lo b_X_Hi b_Y_Lo b_Y_Hi), .int .i64 (span_WithinBox_1 a_X_Lo a_X_Hi a_Y_Lo a_Y_Hi b_X_Lo b_X_Hi b_Y_Lo b_Y_Hi)]))
  | _ => Option.none
noncomputable def G14 : Con := G13.add 36 span_WithinBox_con
theorem span_WithinBox_at (a_X_Lo a_X_Hi a_Y_Lo a_Y_Hi b_X_Lo b_X_Hi b_Y_Lo b_Y_Hi : Int) : ConAt Try.prog 36 [.agg [.int .i64 a_X_Lo, .int .i64 a_X_Hi, .int .i64 a_Y_Lo, .int .i64 a_Y_Hi], .agg [.int .i64 b_X_Lo, .int .i64 b_X_Hi, .int .i64 b_Y_Lo, .int .i64 b_Y_Hi]] (.val (.tup [.bool (span_WithinBox_0 a_X_Lo a_X_Hi a_Y_Lo a_Y_Hi b_X_Lo b_X_Hi b_Y_Lo b_Y_Hi), .int .i64 (span_WithinBox_1 a_X_Lo a_X_Hi a_Y_Lo a_Y_Hi b_X_Lo b_X_Hi b_Y_Lo b_Y_Hi)])) := conAt_of G13_ok (span_WithinBox_col _ _ _ _ _ _ _ _) rfl rfl
theorem G14_ok : ConOk Try.prog G14 := con_add G13_ok fun args r h => by
  unfold span_WithinBox_con at h
  split at h
  · cases h; exact span_WithinBox_at _ _ _ _ _ _ _ _
  · cases h
theorem span_InBox_col (p_X p_Y b_X_Lo b_X_Hi b_Y_Lo b_Y_Hi : Int) : collapse (execFn Try.prog G14 9 0 20 [.agg [.int .i64 p_X, .int .i64 p_Y], .agg [.int .i64 b_X_Lo, .int .i64 b_X_Hi, .int .i64 b_Y_Lo, .int .i64 b_Y_Hi]] ⟨[], 0⟩) = some (.val (.tup [.bool (span_InBox_0 p_X p_Y b_X_Lo b_X_Hi b_Y_Lo b_Y_Hi), .int .i64 (span_InBox_1 p_X p_Y b_X_Lo b_X_Hi b_Y_Lo b_Y_Hi)])) := by kernel_rfl
def span_InBox_con : List AV → Option R
  | [.agg [.int .i64 p_X, .int .i64 p_Y], .agg [.int .i64 b_X_Lo, .int .i64 b_X_Hi, .int .i64 b_Y_Lo, .int .i64 b_Y_Hi]] => some (.val (.tup [.bool (span_InBox_0 p_X p_Y b_X_Lo b_X_Hi b_Y_Lo b_Y_Hi), .int .i64 (span_InBox_1 p_X p_Y b_X_Lo b_X_Hi b_Y_Lo b_Y_Hi)]))
  | _ => Option.none
noncomputable def G15 : Con := G14.add 20 span_InBox_con
theorem span_InBox_at (p_X p_Y b_X_Lo b_X_Hi b_Y_Lo b_Y_Hi : Int) : ConAt Try.prog 20 [.agg [.int .i64 p_X, .int .i64 p_Y], .agg [.int .i64 b_X_Lo, .int .i64 b_X_Hi, .int .i64 b_Y_Lo, .int .i64 b_Y_Hi]] (.val (.tup [.bool (span_InBox_0 p_X p_Y b_X_Lo b_X_Hi b_Y_Lo b_Y_Hi), .int .i64 (span_InBox_1 p_X p_Y b_X_Lo b_X_Hi b_Y_Lo b_Y_Hi)])) := conAt_of G14_ok (span_InBox_col _ _ _ _ _ _) rfl rfl
theorem G15_ok : ConOk Try.prog G15 := con_add G14_ok fun args r h => by
  unfold span_InBox_con at h
  split at h
  · cases h; exact span_InBox_at _ _ _ _ _ _
  · cases h
theorem law02_of_col (lo hi : Int) : collapse (execFn Try.prog G15 9 0 38 [.int .i64 lo, .int .i64 hi] ⟨[], 0⟩) = some (.val (.agg [.int .i64 (law02_of_0 lo hi), .int .i64 (law02_of_1 lo hi)])) := by kernel_rfl
def law02_of_con : List AV → Option R
  | [.int .i64 lo, .int .i64 hi] => some (.val (.agg [.int .i64 (law02_of_0 lo hi), .int .i64 (law02_of_1 lo hi)]))
  | _ => Option.none
noncomputable def G16 : Con := G15.add 38 law02_of_con
theorem law02_of_at (lo hi : Int) : ConAt Try.prog 38 [.int .i64 lo, .int .i64 hi] (.val (.agg [.int .i64 (law02_of_0 lo hi), .int .i64 (law02_of_1 lo hi)])) := conAt_of G15_ok (law02_of_col _ _) rfl rfl
theorem G16_ok : ConOk Try.prog G16 := con_add G15_ok fun args r h => by
  unfold law02_of_con at h
  split at h
  · cases h; exact law02_of_at _ _
  · cases h
theorem law02_head_col  : collapse (execFn Try.prog G16 9 0 11 [] ⟨[], 0⟩) = some (.val (.bool (law02_head_0))) := by kernel_rfl
def law02_head_con : List AV → Option R
  | [] => some (.val (.bool (law02_head_0)))
  | _ => Option.none
noncomputable def G17 : Con := G16.add 11 law02_head_con
theorem law02_head_at  : ConAt Try.prog 11 [] (.val (.bool (law02_head_0))) := conAt_of G16_ok (law02_head_col) rfl rfl
theorem G17_ok : ConOk Try.prog G17 := con_add G16_ok fun args r h => by
  unfold law02_head_con at h
  split at h
  · cases h; exact law02_head_at
  · cases h
theorem law02_SpanSums_col (s_Lo s_Hi t_Lo t_Hi x y : Int) : collapse (execFn Try.prog G17 9 0 3 [.agg [.int .i64 s_Lo, .int .i64 s_Hi], .agg [.int .i64 t_Lo, .int .i64 t_Hi], .int .i64 x, .int .i64 y] ⟨[], 0⟩) = some (.val (.bool (law02_SpanSums_0 s_Lo s_Hi t_Lo t_Hi x y))) := by kernel_rfl
def law02_SpanSums_con : List AV → Option R
  | [.agg [.int .i64 s_Lo, .int .i64 s_Hi], .agg [.int .i64 t_Lo, .int .i64 t_Hi], .int .i64 x, .int .i64 y] => some (.val (.bool (law02_SpanSums_0 s_Lo s_Hi t_Lo t_Hi x y)))
  | _ => Option.none
noncomputable def G18 : Con := G17.add 3 law02_SpanSums_con
theorem law02_SpanSums_at (s_Lo s_Hi t_Lo t_Hi x y : Int) : ConAt Try.prog 3 [.agg [.int .i64 s_Lo, .int .i64 s_Hi], .agg [.int .i64 t_Lo, .int .i64 t_Hi], .int .i64 x, .int .i64 y] (.val (.bool (law02_SpanSums_0 s_Lo s_Hi t_Lo t_Hi x y))) := conAt_of G17_ok (law02_SpanSums_col _ _ _ _ _ _) rfl rfl
theorem G18_ok : ConOk Try.prog G18 := con_add G17_ok fun args r h => by
  unfold law02_SpanSums_con at h
  split at h
  · cases h; exact law02_SpanSums_at _ _ _ _ _ _
  · cases h
theorem law02_SpanScaled_col (s_Lo s_Hi num den x : Int) : collapse (execFn Try.prog G18 9 0 4 [.agg [.int .i64 s_Lo, .int .i64 s_Hi], .int .i64 num, .int .i64 den, .int .i64 x] ⟨[], 0⟩) = some (.val (.bool (law02_SpanScaled_0 s_Lo s_Hi num den x))) := by kernel_rfl
def law02_SpanScaled_con : List AV → Option R
  | [.agg [.int .i64 s_Lo, .int .i64 s_Hi], .int .i64 num, .int .i64 den, .int .i64 x] => some (.val (.bool (law02_SpanScaled_0 s_Lo s_Hi num den x)))
  | _ => Option.none
noncomputable def G19 : Con := G18.add 4 law02_SpanScaled_con
theorem law02_SpanScaled_at (s_Lo s_Hi num den x : Int) : ConAt Try.prog 4 [.agg [.int .i64 s_Lo, .int .i64 s_Hi], .int .i64 num, .int .i64 den, .int .i64 x] (.val (.bool (law02_SpanScaled_0 s_Lo s_Hi num den x))) := conAt_of G18_ok (law02_SpanScaled_col _ _ _ _ _) rfl rfl
theorem G19_ok : ConOk Try.prog G19 := con_add G18_ok fun args r h => by
  unfold law02_SpanScaled_con at h
  split at h
  · cases h; exact law02_SpanScaled_at _ _ _ _ _
  · cases h
theorem law02_SpanMeets_col (s_Lo s_Hi t_Lo t_Hi x : Int) : collapse (execFn Try.prog G19 9 0 5 [.agg [.int .i64 s_Lo, .int .i64 s_Hi], .agg [.int .i64 t_Lo, .int .i64 t_Hi], .int .i64 x] ⟨[], 0⟩) = some (.val (.bool (law02_SpanMeets_0 s_Lo s_Hi t_Lo t_Hi x))) := by kernel_rfl
def law02_SpanMeets_con : List AV → Option R
  | [.agg [.int .i64 s_Lo, .int .i64 s_Hi], .agg [.int .i64 t_Lo, .int .i64 t_Hi], .int .i64 x] => some (.val (.bool (law02_SpanMeets_0 s_Lo s_Hi t_Lo t_Hi x)))
  | _ => Option.none
noncomputable def G20 : Con := G19.add 5 law02_SpanMeets_con
theorem law02_SpanMeets_at (s_Lo s_Hi t_Lo t_Hi x : Int) : ConAt Try.prog 5 [.agg [.int .i64 s_Lo, .int .i64 s_Hi], .agg [.int .i64 t_Lo, .int .i64 t_Hi], .int .i64 x] (.val (.bool (law02_SpanMeets_0 s_Lo s_Hi t_Lo t_Hi x))) := conAt_of G19_ok (law02_SpanMeets_col _ _ _ _ _) rfl rfl
theorem G20_ok : ConOk Try.prog G20 := con_add G19_ok fun args r h => by
  unfold law02_SpanMeets_con at h
  split at h
  · cases h; exact law02_SpanMeets_at _ _ _ _ _
  · cases h
theorem law02_SpanJoined_col (s_Lo s_Hi t_Lo t_Hi u_Lo u_Hi : Int) : collapse (execFn Try.prog G20 9 0 6 [.agg [.int .i64 s_Lo, .int .i64 s_Hi], .agg [.int .i64 t_Lo, .int .i64 t_Hi], .agg [.int .i64 u_Lo, .int .i64 u_Hi]] ⟨[], 0⟩) = some (.val (.bool (law02_SpanJoined_0 s_Lo s_Hi t_Lo t_Hi u_Lo u_Hi))) := by kernel_rfl
def law02_SpanJoined_con : List AV → Option R
  | [.agg [.int .i64 s_Lo, .int .i64 s_Hi], .agg [.int .i64 t_Lo, .int .i64 t_Hi], .agg [.int .i64 u_Lo, .int .i64 u_Hi]] => some (.val (.bool (law02_SpanJoined_0 s_Lo s_Hi t_Lo t_Hi u_Lo u_Hi)))
  | _ => Option.none
noncomputable def G21 : Con := G20.add 6 law02_SpanJoined_con
theorem law02_SpanJoined_at (s_Lo s_Hi t_Lo t_Hi u_Lo u_Hi : Int) : ConAt Try.prog 6 [.agg [.int .i64 s_Lo, .int .i64 s_Hi], .agg [.int .i64 t_Lo, .int .i64 t_Hi], .agg [.int .i64 u_Lo, .int .i64 u_Hi]] (.val (.bool (law02_SpanJoined_0 s_Lo s_Hi t_Lo t_Hi u_Lo u_Hi))) := conAt_of G20_ok (law02_SpanJoined_col _ _ _ _ _ _) rfl rfl
theorem G21_ok : ConOk Try.prog G21 := con_add G20_ok fun args r h => by
  unfold law02_SpanJoined_con at h
  split at h
  · cases h; exact law02_SpanJoined_at _ _ _ _ _ _
  · cases h
theorem law02_SpanOrder_col (s_Lo s_Hi t_Lo t_Hi u_Lo u_Hi num den : Int) : collapse (execFn Try.prog G21 9 0 7 [.agg [.int .i64 s_Lo, .int .i64 s_Hi], .agg [.int .i64 t_Lo, .int .i64 t_Hi], .agg [.int .i64 u_Lo, .int .i64 u_Hi], .int .i64 num, .int .i64 den] ⟨[], 0⟩) = some (.val (.bool (law02_SpanOrder_0 s_Lo s_Hi t_Lo t_Hi u_Lo u_Hi num den))) := by kernel_rfl
def law02_SpanOrder_con : List AV → Option R
  | [.agg [.int .i64 s_Lo, .int .i64 s_Hi], .agg [.int .i64 t_Lo, .int .i64 t_Hi], .agg [.int .i64 u_Lo, .int .i64 u_Hi], .int .i64 num, .int .i64 den] => some (.val (.bool (law02_SpanOrder_0 s_Lo s_Hi t_Lo t_Hi u_Lo u_Hi num den)))
  | _ => Option.none
noncomputable def G22 : Con := G21.add 7 law02_SpanOrder_con
theorem law02_SpanOrder_at (s_Lo s_Hi t_Lo t_Hi u_Lo u_Hi num den : Int) : ConAt Try.prog 7 [.agg [.int .i64 s_Lo, .int .i64 s_Hi], .agg [.int .i64 t_Lo, .int .i64 t_Hi], .agg [.int .i64 u_Lo, .int .i64 u_Hi], .int .i64 num, .int .i64 den] (.val (.bool (law02_SpanOrder_0 s_Lo s_Hi t_Lo t_Hi u_Lo u_Hi num den))) := conAt_of G21_ok (law02_SpanOrder_col _ _ _ _ _ _ _ _) rfl rfl
theorem G22_ok : ConOk Try.prog G22 := con_add G21_ok fun args r h => by
  unfold law02_SpanOrder_con at h
  split at h
  · cases h; exact law02_SpanOrder_at _ _ _ _ _ _ _ _
  · cases h
theorem law02_SpanBoxes_col (a_X_Lo a_X_Hi a_Y_Lo a_Y_Hi b_X_Lo b_X_Hi b_Y_Lo b_Y_Hi p_X p_Y : Int) : collapse (execFn Try.prog G22 9 0 10 [.agg [.int .i64 a_X_Lo, .int .i64 a_X_Hi, .int .i64 a_Y_Lo, .int .i64 a_Y_Hi], .agg [.int .i64 b_X_Lo, .int .i64 b_X_Hi, .int .i64 b_Y_Lo, .int .i64 b_Y_Hi], .agg [.int .i64 p_X, .int .i64 p_Y]] ⟨[], 0⟩) = some (.val (.bool (law02_SpanBoxes_0 a_X_Lo a_X_Hi a_Y_Lo a_Y_Hi b_X_Lo b_X_Hi b_Y_Lo b_Y_Hi p_X p_Y))) := by kernel_rfl
def law02_SpanBoxes_con : List AV → Option R
  | [.agg [.int .i64 a_X_Lo, .int .i64 a_X_Hi, .int .i64 a_Y_Lo, .int .i64 a_Y_Hi], .agg [.int .i64 b_X_Lo, .int .i64 b_X_Hi, .int .i64 b_Y_Lo, .int .i64 b_Y_Hi], .agg [.int .i64 p_X, .int .i64 p_Y]] => some (.val (.bool (law02_SpanBoxes_0 a_X_Lo a_X_Hi a_Y_Lo a_Y_Hi b_X_Lo b_X_Hi b_Y_Lo b_Y_Hi p_X p_Y)))
  | _ => Option.none
noncomputable def G23 : Con := G22.add 10 law02_SpanBoxes_con
theorem law02_SpanBoxes_at (a_X_Lo a_X_Hi a_Y_Lo a_Y_Hi b_X_Lo b_X_Hi b_Y_Lo b_Y_Hi p_X p_Y : Int) : ConAt Try.prog 10 [.agg [.int .i64 a_X_Lo, .int .i64 a_X_Hi, .int .i64 a_Y_Lo, .int .i64 a_Y_Hi], .agg [.int .i64 b_X_Lo, .int .i64 b_X_Hi, .int .i64 b_Y_Lo, .int .i64 b_Y_Hi], .agg [.int .i64 p_X, .int .i64 p_Y]] (.val (.bool (law02_SpanBoxes_0 a_X_Lo a_X_Hi a_Y_Lo a_Y_Hi b_X_Lo b_X_Hi b_Y_Lo b_Y_Hi p_X p_Y))) := conAt_of G22_ok (law02_SpanBoxes_col _ _ _ _ _ _ _ _ _ _) rfl rfl
theorem G23_ok : ConOk Try.prog G23 := con_add G22_ok fun args r h => by
  unfold law02_SpanBoxes_con at h
  split at h
  · cases h; exact law02_SpanBoxes_at _ _ _ _ _ _ _ _ _ _
  · cases h
theorem law02_SpanGrown_col (b_X_Lo b_X_Hi b_Y_Lo b_Y_Hi p_X p_Y m n : Int) : collapse (execFn Try.prog G23 9 0 8 [.agg [.int .i64 b_X_Lo, .int .i64 b_X_Hi, .int .i64 b_Y_Lo, .int .i64 b_Y_Hi], .agg [.int .i64 p_X, .int .i64 p_Y], .int .i64 m, .int .i64 n] ⟨[], 0⟩) = some (.val (.bool (law02_SpanGrown_0 b_X_Lo b_X_Hi b_Y_Lo b_Y_Hi p_X p_Y m n))) := by kernel_rfl
def law02_SpanGrown_con : List AV → Option R
  | [.agg [.int .i64 b_X_Lo, .int .i64 b_X_Hi, .int .i64 b_Y_Lo, .int .i64 b_Y_Hi], .agg [.int .i64 p_X, .int .i64 p_Y], .int .i64 m, .int .i64 n] => some (.val (.bool (law02_SpanGrown_0 b_X_Lo b_X_Hi b_Y_Lo b_Y_Hi p_X p_Y m n)))
  | _ => Option.none
noncomputable def G24 : Con := G23.add 8 law02_SpanGrown_con
theorem law02_SpanGrown_at (b_X_Lo b_X_Hi b_Y_Lo b_Y_Hi p_X p_Y m n : Int) : ConAt Try.prog 8 [.agg [.int .i64 b_X_Lo, .int .i64 b_X_Hi, .int .i64 b_Y_Lo, .int .i64 b_Y_Hi], .agg [.int .i64 p_X, .int .i64 p_Y], .int .i64 m, .int .i64 n] (.val (.bool (law02_SpanGrown_0 b_X_Lo b_X_Hi b_Y_Lo b_Y_Hi p_X p_Y m n))) := conAt_of G23_ok (law02_SpanGrown_col _ _ _ _ _ _ _ _) rfl rfl
theorem G24_ok : ConOk Try.prog G24 := con_add G23_ok fun args r h => by
  unfold law02_SpanGrown_con at h
  split at h
  · cases h; exact law02_SpanGrown_at _ _ _ _ _ _ _ _
  · cases h
end Go.Proofs.Ytmpmkeiepfknoaa
