/- Written by program (wip/gen.py): the contracts of the Go functions. -/
import Derived.Test.YtbopeaebdlmapaaRows
import Derived.Test.YtbopeaebdlmapaaSxN
import Derived.Test.YtbopeaebdlmapaaDatumSpan
import Derived.Test.YtbopeaebdlmapaaDatumD
set_option maxRecDepth 100000
set_option linter.unusedVariables false
namespace Go.Proofs.Ytbopeaebdlmapaa
open Go Go.Sx
theorem plane_Valid_col (p_X p_Y : Int) : collapseW (execFn Try.prog G7 9 0 32 [.agg [.int .i64 p_X, .int .i64 p_Y]] ⟨[], 0⟩) = some (.val (.bool (plane_Valid_0 p_X p_Y))) := by kernel_rfl
def plane_Valid_con : List AV → Option R
  | [.agg [.int .i64 p_X, .int .i64 p_Y]] => some (.val (.bool (plane_Valid_0 p_X p_Y)))
  | _ => Option.none
noncomputable def G8 : Con := G7.add 32 plane_Valid_con
theorem plane_Valid_at (p_X p_Y : Int) : ConAt Try.prog 32 [.agg [.int .i64 p_X, .int .i64 p_Y]] (.val (.bool (plane_Valid_0 p_X p_Y))) := conAt_of G7_ok (plane_Valid_col _ _) rfl rfl
theorem G8_ok : ConOk Try.prog G8 := con_add G7_ok fun args r h => by
  unfold plane_Valid_con at h
  split at h
  · cases h; exact plane_Valid_at _ _
  · cases h
theorem datum_det_col (m_A m_B m_C m_D m_E m_F m_Residue : Int) : collapseW (execFn Try.prog G8 9 0 29 [.agg [.int .i64 m_A, .int .i64 m_B, .int .i64 m_C, .int .i64 m_D, .int .i64 m_E, .int .i64 m_F, .int .i64 m_Residue]] ⟨[], 0⟩) = some (.val (.int .i64 (datum_det_0 m_A m_B m_C m_D m_E m_F m_Residue))) := by kernel_rfl
def datum_det_con : List AV → Option R
  | [.agg [.int .i64 m_A, .int .i64 m_B, .int .i64 m_C, .int .i64 m_D, .int .i64 m_E, .int .i64 m_F, .int .i64 m_Residue]] => some (.val (.int .i64 (datum_det_0 m_A m_B m_C m_D m_E m_F m_Residue)))
  | _ => Option.none
noncomputable def G9 : Con := G8.add 29 datum_det_con
theorem datum_det_at (m_A m_B m_C m_D m_E m_F m_Residue : Int) : ConAt Try.prog 29 [.agg [.int .i64 m_A, .int .i64 m_B, .int .i64 m_C, .int .i64 m_D, .int .i64 m_E, .int .i64 m_F, .int .i64 m_Residue]] (.val (.int .i64 (datum_det_0 m_A m_B m_C m_D m_E m_F m_Residue))) := conAt_of G8_ok (datum_det_col _ _ _ _ _ _ _) rfl rfl
theorem G9_ok : ConOk Try.prog G9 := con_add G8_ok fun args r h => by
  unfold datum_det_con at h
  split at h
  · cases h; exact datum_det_at _ _ _ _ _ _ _
  · cases h
theorem datum_down_col (a b : Int) : collapseW (execFn Try.prog G9 9 0 39 [.int .i64 a, .int .i64 b] ⟨[], 0⟩) = some (.chk (datum_down_pre a b) (.int .i64 (datum_down_0 a b))) := by kernel_rfl
def datum_down_con : List AV → Option R
  | [.int .i64 a, .int .i64 b] => some (.chk (datum_down_pre a b) (.int .i64 (datum_down_0 a b)))
  | _ => Option.none
noncomputable def G10 : Con := G9.add 39 datum_down_con
theorem datum_down_at (a b : Int) : ConAt Try.prog 39 [.int .i64 a, .int .i64 b] (.chk (datum_down_pre a b) (.int .i64 (datum_down_0 a b))) := conAt_of G9_ok (datum_down_col _ _) rfl rfl
theorem G10_ok : ConOk Try.prog G10 := con_add G9_ok fun args r h => by
  unfold datum_down_con at h
  split at h
  · cases h; exact datum_down_at _ _
  · cases h
theorem datum_up_col (a b : Int) : collapseW (execFn Try.prog G10 9 0 40 [.int .i64 a, .int .i64 b] ⟨[], 0⟩) = some (.chk (datum_up_pre a b) (.int .i64 (datum_up_0 a b))) := by kernel_rfl
def datum_up_con : List AV → Option R
  | [.int .i64 a, .int .i64 b] => some (.chk (datum_up_pre a b) (.int .i64 (datum_up_0 a b)))
  | _ => Option.none
noncomputable def G11 : Con := G10.add 40 datum_up_con
theorem datum_up_at (a b : Int) : ConAt Try.prog 40 [.int .i64 a, .int .i64 b] (.chk (datum_up_pre a b) (.int .i64 (datum_up_0 a b))) := conAt_of G10_ok (datum_up_col _ _) rfl rfl
theorem G11_ok : ConOk Try.prog G11 := con_add G10_ok fun args r h => by
  unfold datum_up_con at h
  split at h
  · cases h; exact datum_up_at _ _
  · cases h
theorem datum_round_col (a b : Int) : collapseW (execFn Try.prog G11 9 0 57 [.int .i64 a, .int .i64 b] ⟨[], 0⟩) = some (.chk (datum_round_pre a b) (.int .i64 (datum_round_0 a b))) := by kernel_rfl
def datum_round_con : List AV → Option R
  | [.int .i64 a, .int .i64 b] => some (.chk (datum_round_pre a b) (.int .i64 (datum_round_0 a b)))
  | _ => Option.none
noncomputable def G12 : Con := G11.add 57 datum_round_con
theorem datum_round_at (a b : Int) : ConAt Try.prog 57 [.int .i64 a, .int .i64 b] (.chk (datum_round_pre a b) (.int .i64 (datum_round_0 a b))) := conAt_of G11_ok (datum_round_col _ _) rfl rfl
theorem G12_ok : ConOk Try.prog G12 := con_add G11_ok fun args r h => by
  unfold datum_round_con at h
  split at h
  · cases h; exact datum_round_at _ _
  · cases h
theorem datum_row_at_col (r_x r_y r_move p_X p_Y : Int) : collapseW (execFn Try.prog G12 9 0 34 [.agg [.int .i64 r_x, .int .i64 r_y, .int .i64 r_move], .agg [.int .i64 p_X, .int .i64 p_Y]] ⟨[], 0⟩) = some (.val (.int .i64 (datum_row_at_0 r_x r_y r_move p_X p_Y))) := by kernel_rfl
def datum_row_at_con : List AV → Option R
  | [.agg [.int .i64 r_x, .int .i64 r_y, .int .i64 r_move], .agg [.int .i64 p_X, .int .i64 p_Y]] => some (.val (.int .i64 (datum_row_at_0 r_x r_y r_move p_X p_Y)))
  | _ => Option.none
noncomputable def G13 : Con := G12.add 34 datum_row_at_con
theorem datum_row_at_at (r_x r_y r_move p_X p_Y : Int) : ConAt Try.prog 34 [.agg [.int .i64 r_x, .int .i64 r_y, .int .i64 r_move], .agg [.int .i64 p_X, .int .i64 p_Y]] (.val (.int .i64 (datum_row_at_0 r_x r_y r_move p_X p_Y))) := conAt_of G12_ok (datum_row_at_col _ _ _ _ _) rfl rfl
theorem G13_ok : ConOk Try.prog G13 := con_add G12_ok fun args r h => by
  unfold datum_row_at_con at h
  split at h
  · cases h; exact datum_row_at_at _ _ _ _ _
  · cases h
theorem datum_row_least_col (r_x r_y r_move b_X_Lo b_X_Hi b_Y_Lo b_Y_Hi : Int) : collapseW (execFn Try.prog G13 9 0 42 [.agg [.int .i64 r_x, .int .i64 r_y, .int .i64 r_move], .agg [.int .i64 b_X_Lo, .int .i64 b_X_Hi, .int .i64 b_Y_Lo, .int .i64 b_Y_Hi]] ⟨[], 0⟩) = some (.val (.int .i64 (datum_row_least_0 r_x r_y r_move b_X_Lo b_X_Hi b_Y_Lo b_Y_Hi))) := by kernel_rfl
def datum_row_least_con : List AV → Option R
  | [.agg [.int .i64 r_x, .int .i64 r_y, .int .i64 r_move], .agg [.int .i64 b_X_Lo, .int .i64 b_X_Hi, .int .i64 b_Y_Lo, .int .i64 b_Y_Hi]] => some (.val (.int .i64 (datum_row_least_0 r_x r_y r_move b_X_Lo b_X_Hi b_Y_Lo b_Y_Hi)))
  | _ => Option.none
noncomputable def G14 : Con := G13.add 42 datum_row_least_con
theorem datum_row_least_at (r_x r_y r_move b_X_Lo b_X_Hi b_Y_Lo b_Y_Hi : Int) : ConAt Try.prog 42 [.agg [.int .i64 r_x, .int .i64 r_y, .int .i64 r_move], .agg [.int .i64 b_X_Lo, .int .i64 b_X_Hi, .int .i64 b_Y_Lo, .int .i64 b_Y_Hi]] (.val (.int .i64 (datum_row_least_0 r_x r_y r_move b_X_Lo b_X_Hi b_Y_Lo b_Y_Hi))) := conAt_of G13_ok (datum_row_least_col _ _ _ _ _ _ _) rfl rfl
theorem G14_ok : ConOk Try.prog G14 := con_add G13_ok fun args r h => by
  unfold datum_row_least_con at h
  split at h
  · cases h; exact datum_row_least_at _ _ _ _ _ _ _
  · cases h
theorem datum_row_most_col (r_x r_y r_move b_X_Lo b_X_Hi b_Y_Lo b_Y_Hi : Int) : collapseW (execFn Try.prog G14 9 0 43 [.agg [.int .i64 r_x, .int .i64 r_y, .int .i64 r_move], .agg [.int .i64 b_X_Lo, .int .i64 b_X_Hi, .int .i64 b_Y_Lo, .int .i64 b_Y_Hi]] ⟨[], 0⟩) = some (.val (.int .i64 (datum_row_most_0 r_x r_y r_move b_X_Lo b_X_Hi b_Y_Lo b_Y_Hi))) := by kernel_rfl
def datum_row_most_con : List AV → Option R
  | [.agg [.int .i64 r_x, .int .i64 r_y, .int .i64 r_move], .agg [.int .i64 b_X_Lo, .int .i64 b_X_Hi, .int .i64 b_Y_Lo, .int .i64 b_Y_Hi]] => some (.val (.int .i64 (datum_row_most_0 r_x r_y r_move b_X_Lo b_X_Hi b_Y_Lo b_Y_Hi)))
  | _ => Option.none
noncomputable def G15 : Con := G14.add 43 datum_row_most_con
theorem datum_row_most_at (r_x r_y r_move b_X_Lo b_X_Hi b_Y_Lo b_Y_Hi : Int) : ConAt Try.prog 43 [.agg [.int .i64 r_x, .int .i64 r_y, .int .i64 r_move], .agg [.int .i64 b_X_Lo, .int .i64 b_X_Hi, .int .i64 b_Y_Lo, .int .i64 b_Y_Hi]] (.val (.int .i64 (datum_row_most_0 r_x r_y r_move b_X_Lo b_X_Hi b_Y_Lo b_Y_Hi))) := conAt_of G14_ok (datum_row_most_col _ _ _ _ _ _ _) rfl rfl
theorem G15_ok : ConOk Try.prog G15 := con_add G14_ok fun args r h => by
  unfold datum_row_most_con at h
  split at h
  · cases h; exact datum_row_most_at _ _ _ _ _ _ _
  · cases h
theorem datum_row_weight_col (r_x r_y r_move : Int) : collapseW (execFn Try.prog G15 9 0 64 [.agg [.int .i64 r_x, .int .i64 r_y, .int .i64 r_move]] ⟨[], 0⟩) = some (.val (.int .i64 (datum_row_weight_0 r_x r_y r_move))) := by kernel_rfl
def datum_row_weight_con : List AV → Option R
  | [.agg [.int .i64 r_x, .int .i64 r_y, .int .i64 r_move]] => some (.val (.int .i64 (datum_row_weight_0 r_x r_y r_move)))
  | _ => Option.none
noncomputable def G16 : Con := G15.add 64 datum_row_weight_con
theorem datum_row_weight_at (r_x r_y r_move : Int) : ConAt Try.prog 64 [.agg [.int .i64 r_x, .int .i64 r_y, .int .i64 r_move]] (.val (.int .i64 (datum_row_weight_0 r_x r_y r_move))) := conAt_of G15_ok (datum_row_weight_col _ _ _) rfl rfl
theorem G16_ok : ConOk Try.prog G16 := con_add G15_ok fun args r h => by
  unfold datum_row_weight_con at h
  split at h
  · cases h; exact datum_row_weight_at _ _ _
  · cases h
theorem datum_row_after_col (r_x r_y r_move m_rows_first_x m_rows_first_y m_rows_first_move m_rows_last_x m_rows_last_y m_rows_last_move m_residue : Int) : collapseW (execFn Try.prog G16 9 0 50 [.agg [.int .i64 r_x, .int .i64 r_y, .int .i64 r_move], .agg [.int .i64 m_rows_first_x, .int .i64 m_rows_first_y, .int .i64 m_rows_first_move, .int .i64 m_rows_last_x, .int .i64 m_rows_last_y, .int .i64 m_rows_last_move, .int .i64 m_residue]] ⟨[], 0⟩) = some (.chk (datum_row_after_pre r_x r_y r_move m_rows_first_x m_rows_first_y m_rows_first_move m_rows_last_x m_rows_last_y m_rows_last_move m_residue) (.agg [.int .i64 (datum_row_after_0 r_x r_y r_move m_rows_first_x m_rows_first_y m_rows_first_move m_rows_last_x m_rows_last_y m_rows_last_move m_residue), .int .i64 (datum_row_after_1 r_x r_y r_move m_rows_first_x m_rows_first_y m_rows_first_move m_rows_last_x m_rows_last_y m_rows_last_move m_residue), .int .i64 (datum_row_after_2 r_x r_y r_move m_rows_first_x m_rows_first_y m_rows_first_move m_rows_last_x m_rows_last_y m_rows_last_move m_residue)])) := by kernel_rfl
def datum_row_after_con : List AV → Option R
  | [.agg [.int .i64 r_x, .int .i64 r_y, .int .i64 r_move], .agg [.int .i64 m_rows_first_x, .int .i64 m_rows_first_y, .int .i64 m_rows_first_move, .int .i64 m_rows_last_x, .int .i64 m_rows_last_y, .int .i64 m_rows_last_move, .int .i64 m_residue]] => some (.val (.agg [.int .i64 (datum_row_after_0 r_x r_y r_move m_rows_first_x m_rows_first_y m_rows_first_move m_rows_last_x m_rows_last_y m_rows_last_move m_residue), .int .i64 (datum_row_after_1 r_x r_y r_move m_rows_first_x m_rows_first_y m_rows_first_move m_rows_last_x m_rows_last_y m_rows_last_move m_residue), .int .i64 (datum_row_after_2 r_x r_y r_move m_rows_first_x m_rows_first_y m_rows_first_move m_rows_last_x m_rows_last_y m_rows_last_move m_residue)]))
  | _ => Option.none
noncomputable def G17 : Con := G16.add 50 datum_row_after_con
theorem datum_row_after_at (r_x r_y r_move m_rows_first_x m_rows_first_y m_rows_first_move m_rows_last_x m_rows_last_y m_rows_last_move m_residue : Int) : ConAt Try.prog 50 [.agg [.int .i64 r_x, .int .i64 r_y, .int .i64 r_move], .agg [.int .i64 m_rows_first_x, .int .i64 m_rows_first_y, .int .i64 m_rows_first_move, .int .i64 m_rows_last_x, .int .i64 m_rows_last_y, .int .i64 m_rows_last_move, .int .i64 m_residue]] (.val (.agg [.int .i64 (datum_row_after_0 r_x r_y r_move m_rows_first_x m_rows_first_y m_rows_first_move m_rows_last_x m_rows_last_y m_rows_last_move m_residue), .int .i64 (datum_row_after_1 r_x r_y r_move m_rows_first_x m_rows_first_y m_rows_first_move m_rows_last_x m_rows_last_y m_rows_last_move m_residue), .int .i64 (datum_row_after_2 r_x r_y r_move m_rows_first_x m_rows_first_y m_rows_first_move m_rows_last_x m_rows_last_y m_rows_last_move m_residue)])) := conAt_val (conAt_of G16_ok (datum_row_after_col _ _ _ _ _ _ _ _ _ _) rfl rfl) (datum_row_after_pre_ok _ _ _ _ _ _ _ _ _ _)
theorem G17_ok : ConOk Try.prog G17 := con_add G16_ok fun args r h => by
  unfold datum_row_after_con at h
  split at h
  · cases h; exact datum_row_after_at _ _ _ _ _ _ _ _ _ _
  · cases h
theorem datum_rows_grown_col (r_first_x r_first_y r_first_move r_last_x r_last_y r_last_move residue more : Int) : collapseW (execFn Try.prog G17 9 0 51 [.agg [.int .i64 r_first_x, .int .i64 r_first_y, .int .i64 r_first_move, .int .i64 r_last_x, .int .i64 r_last_y, .int .i64 r_last_move], .int .i64 residue, .int .i64 more] ⟨[], 0⟩) = some (.chk (datum_rows_grown_pre r_first_x r_first_y r_first_move r_last_x r_last_y r_last_move residue more) (.int .i64 (datum_rows_grown_0 r_first_x r_first_y r_first_move r_last_x r_last_y r_last_move residue more))) := by kernel_rfl
def datum_rows_grown_con : List AV → Option R
  | [.agg [.int .i64 r_first_x, .int .i64 r_first_y, .int .i64 r_first_move, .int .i64 r_last_x, .int .i64 r_last_y, .int .i64 r_last_move], .int .i64 residue, .int .i64 more] => some (.val (.int .i64 (datum_rows_grown_0 r_first_x r_first_y r_first_move r_last_x r_last_y r_last_move residue more)))
  | _ => Option.none
noncomputable def G18 : Con := G17.add 51 datum_rows_grown_con
theorem datum_rows_grown_at (r_first_x r_first_y r_first_move r_last_x r_last_y r_last_move residue more : Int) : ConAt Try.prog 51 [.agg [.int .i64 r_first_x, .int .i64 r_first_y, .int .i64 r_first_move, .int .i64 r_last_x, .int .i64 r_last_y, .int .i64 r_last_move], .int .i64 residue, .int .i64 more] (.val (.int .i64 (datum_rows_grown_0 r_first_x r_first_y r_first_move r_last_x r_last_y r_last_move residue more))) := conAt_val (conAt_of G17_ok (datum_rows_grown_col _ _ _ _ _ _ _ _) rfl rfl) (datum_rows_grown_pre_ok _ _ _ _ _ _ _ _)
theorem G18_ok : ConOk Try.prog G18 := con_add G17_ok fun args r h => by
  unfold datum_rows_grown_con at h
  split at h
  · cases h; exact datum_rows_grown_at _ _ _ _ _ _ _ _
  · cases h
theorem datum_Valid_col (m_A m_B m_C m_D m_E m_F m_Residue : Int) : collapseW (execFn Try.prog G18 9 0 12 [.agg [.int .i64 m_A, .int .i64 m_B, .int .i64 m_C, .int .i64 m_D, .int .i64 m_E, .int .i64 m_F, .int .i64 m_Residue]] ⟨[], 0⟩) = some (.val (.bool (datum_Valid_0 m_A m_B m_C m_D m_E m_F m_Residue))) := by kernel_rfl
def datum_Valid_con : List AV → Option R
  | [.agg [.int .i64 m_A, .int .i64 m_B, .int .i64 m_C, .int .i64 m_D, .int .i64 m_E, .int .i64 m_F, .int .i64 m_Residue]] => some (.val (.bool (datum_Valid_0 m_A m_B m_C m_D m_E m_F m_Residue)))
  | _ => Option.none
noncomputable def G19 : Con := G18.add 12 datum_Valid_con
theorem datum_Valid_at (m_A m_B m_C m_D m_E m_F m_Residue : Int) : ConAt Try.prog 12 [.agg [.int .i64 m_A, .int .i64 m_B, .int .i64 m_C, .int .i64 m_D, .int .i64 m_E, .int .i64 m_F, .int .i64 m_Residue]] (.val (.bool (datum_Valid_0 m_A m_B m_C m_D m_E m_F m_Residue))) := conAt_of G18_ok (datum_Valid_col _ _ _ _ _ _ _) rfl rfl
theorem G19_ok : ConOk Try.prog G19 := con_add G18_ok fun args r h => by
  unfold datum_Valid_con at h
  split at h
  · cases h; exact datum_Valid_at _ _ _ _ _ _ _
  · cases h
theorem datum_affine_write_col (a_rows_first_x a_rows_first_y a_rows_first_move a_rows_last_x a_rows_last_y a_rows_last_move a_residue : Int) : collapseW (execFn Try.prog G19 9 0 52 [.agg [.int .i64 a_rows_first_x, .int .i64 a_rows_first_y, .int .i64 a_rows_first_move, .int .i64 a_rows_last_x, .int .i64 a_rows_last_y, .int .i64 a_rows_last_move, .int .i64 a_residue]] ⟨[], 0⟩) = some (.val (.tup [.agg [.int .i64 (datum_affine_write_0 a_rows_first_x a_rows_first_y a_rows_first_move a_rows_last_x a_rows_last_y a_rows_last_move a_residue), .int .i64 (datum_affine_write_1 a_rows_first_x a_rows_first_y a_rows_first_move a_rows_last_x a_rows_last_y a_rows_last_move a_residue), .int .i64 (datum_affine_write_2 a_rows_first_x a_rows_first_y a_rows_first_move a_rows_last_x a_rows_last_y a_rows_last_move a_residue), .int .i64 (datum_affine_write_3 a_rows_first_x a_rows_first_y a_rows_first_move a_rows_last_x a_rows_last_y a_rows_last_move a_residue), .int .i64 (datum_affine_write_4 a_rows_first_x a_rows_first_y a_rows_first_move a_rows_last_x a_rows_last_y a_rows_last_move a_residue), .int .i64 (datum_affine_write_5 a_rows_first_x a_rows_first_y a_rows_first_move a_rows_last_x a_rows_last_y a_rows_last_move a_residue), .int .i64 (datum_affine_write_6 a_rows_first_x a_rows_first_y a_rows_first_move a_rows_last_x a_rows_last_y a_rows_last_move a_residue)], .int .i64 (datum_affine_write_7 a_rows_first_x a_rows_first_y a_rows_first_move a_rows_last_x a_rows_last_y a_rows_last_move a_residue)])) := by kernel_rfl
def datum_affine_write_con : List AV → Option R
  | [.agg [.int .i64 a_rows_first_x, .int .i64 a_rows_first_y, .int .i64 a_rows_first_move, .int .i64 a_rows_last_x, .int .i64 a_rows_last_y, .int .i64 a_rows_last_move, .int .i64 a_residue]] => some (.val (.tup [.agg [.int .i64 (datum_affine_write_0 a_rows_first_x a_rows_first_y a_rows_first_move a_rows_last_x a_rows_last_y a_rows_last_move a_residue), .int .i64 (datum_affine_write_1 a_rows_first_x a_rows_first_y a_rows_first_move a_rows_last_x a_rows_last_y a_rows_last_move a_residue), .int .i64 (datum_affine_write_2 a_rows_first_x a_rows_first_y a_rows_first_move a_rows_last_x a_rows_last_y a_rows_last_move a_residue), .int .i64 (datum_affine_write_3 a_rows_first_x a_rows_first_y a_rows_first_move a_rows_last_x a_rows_last_y a_rows_last_move a_residue), .int .i64 (datum_affine_write_4 a_rows_first_x a_rows_first_y a_rows_first_move a_rows_last_x a_rows_last_y a_rows_last_move a_residue), .int .i64 (datum_affine_write_5 a_rows_first_x a_rows_first_y a_rows_first_move a_rows_last_x a_rows_last_y a_rows_last_move a_residue), .int .i64 (datum_affine_write_6 a_rows_first_x a_rows_first_y a_rows_first_move a_rows_last_x a_rows_last_y a_rows_last_move a_residue)], .int .i64 (datum_affine_write_7 a_rows_first_x a_rows_first_y a_rows_first_move a_rows_last_x a_rows_last_y a_rows_last_move a_residue)]))
  | _ => Option.none
noncomputable def G20 : Con := G19.add 52 datum_affine_write_con
theorem datum_affine_write_at (a_rows_first_x a_rows_first_y a_rows_first_move a_rows_last_x a_rows_last_y a_rows_last_move a_residue : Int) : ConAt Try.prog 52 [.agg [.int .i64 a_rows_first_x, .int .i64 a_rows_first_y, .int .i64 a_rows_first_move, .int .i64 a_rows_last_x, .int .i64 a_rows_last_y, .int .i64 a_rows_last_move, .int .i64 a_residue]] (.val (.tup [.agg [.int .i64 (datum_affine_write_0 a_rows_first_x a_rows_first_y a_rows_first_move a_rows_last_x a_rows_last_y a_rows_last_move a_residue), .int .i64 (datum_affine_write_1 a_rows_first_x a_rows_first_y a_rows_first_move a_rows_last_x a_rows_last_y a_rows_last_move a_residue), .int .i64 (datum_affine_write_2 a_rows_first_x a_rows_first_y a_rows_first_move a_rows_last_x a_rows_last_y a_rows_last_move a_residue), .int .i64 (datum_affine_write_3 a_rows_first_x a_rows_first_y a_rows_first_move a_rows_last_x a_rows_last_y a_rows_last_move a_residue), .int .i64 (datum_affine_write_4 a_rows_first_x a_rows_first_y a_rows_first_move a_rows_last_x a_rows_last_y a_rows_last_move a_residue), .int .i64 (datum_affine_write_5 a_rows_first_x a_rows_first_y a_rows_first_move a_rows_last_x a_rows_last_y a_rows_last_move a_residue), .int .i64 (datum_affine_write_6 a_rows_first_x a_rows_first_y a_rows_first_move a_rows_last_x a_rows_last_y a_rows_last_move a_residue)], .int .i64 (datum_affine_write_7 a_rows_first_x a_rows_first_y a_rows_first_move a_rows_last_x a_rows_last_y a_rows_last_move a_residue)])) := conAt_of G19_ok (datum_affine_write_col _ _ _ _ _ _ _) rfl rfl
theorem G20_ok : ConOk Try.prog G20 := con_add G19_ok fun args r h => by
  unfold datum_affine_write_con at h
  split at h
  · cases h; exact datum_affine_write_at _ _ _ _ _ _ _
  · cases h
theorem datum_Fits_col (m_A m_B m_C m_D m_E m_F m_Residue p_X p_Y q_X q_Y : Int) : collapseW (execFn Try.prog G20 9 0 14 [.agg [.int .i64 m_A, .int .i64 m_B, .int .i64 m_C, .int .i64 m_D, .int .i64 m_E, .int .i64 m_F, .int .i64 m_Residue], .agg [.int .i64 p_X, .int .i64 p_Y], .agg [.int .i64 q_X, .int .i64 q_Y]] ⟨[], 0⟩) = some (.val (.tup [.bool (datum_Fits_0 m_A m_B m_C m_D m_E m_F m_Residue p_X p_Y q_X q_Y), .int .i64 (datum_Fits_1 m_A m_B m_C m_D m_E m_F m_Residue p_X p_Y q_X q_Y)])) := by kernel_rfl
def datum_Fits_con : List AV → Option R
  | [.agg [.int .i64 m_A, .int .i64 m_B, .int .i64 m_C, .int .i64 m_D, .int .i64 m_E, .int .i64 m_F, .int .i64 m_Residue], .agg [.int .i64 p_X, .int .i64 p_Y], .agg [.int .i64 q_X, .int .i64 q_Y]] => some (.val (.tup [.bool (datum_Fits_0 m_A m_B m_C m_D m_E m_F m_Residue p_X p_Y q_X q_Y), .int .i64 (datum_Fits_1 m_A m_B m_C m_D m_E m_F m_Residue p_X p_Y q_X q_Y)]))
  | _ => Option.none
noncomputable def G21 : Con := G20.add 14 datum_Fits_con
theorem datum_Fits_at (m_A m_B m_C m_D m_E m_F m_Residue p_X p_Y q_X q_Y : Int) : ConAt Try.prog 14 [.agg [.int .i64 m_A, .int .i64 m_B, .int .i64 m_C, .int .i64 m_D, .int .i64 m_E, .int .i64 m_F, .int .i64 m_Residue], .agg [.int .i64 p_X, .int .i64 p_Y], .agg [.int .i64 q_X, .int .i64 q_Y]] (.val (.tup [.bool (datum_Fits_0 m_A m_B m_C m_D m_E m_F m_Residue p_X p_Y q_X q_Y), .int .i64 (datum_Fits_1 m_A m_B m_C m_D m_E m_F m_Residue p_X p_Y q_X q_Y)])) := conAt_of G20_ok (datum_Fits_col _ _ _ _ _ _ _ _ _ _ _) rfl rfl
theorem G21_ok : ConOk Try.prog G21 := con_add G20_ok fun args r h => by
  unfold datum_Fits_con at h
  split at h
  · cases h; exact datum_Fits_at _ _ _ _ _ _ _ _ _ _ _
  · cases h
theorem datum_Carry_col (m_A m_B m_C m_D m_E m_F m_Residue b_X_Lo b_X_Hi b_Y_Lo b_Y_Hi : Int) : collapseW (execFn Try.prog G21 9 0 18 [.agg [.int .i64 m_A, .int .i64 m_B, .int .i64 m_C, .int .i64 m_D, .int .i64 m_E, .int .i64 m_F, .int .i64 m_Residue], .agg [.int .i64 b_X_Lo, .int .i64 b_X_Hi, .int .i64 b_Y_Lo, .int .i64 b_Y_Hi]] ⟨[], 0⟩) = some (.chk (datum_Carry_pre m_A m_B m_C m_D m_E m_F m_Residue b_X_Lo b_X_Hi b_Y_Lo b_Y_Hi) (.tup [.agg [.int .i64 (datum_Carry_0 m_A m_B m_C m_D m_E m_F m_Residue b_X_Lo b_X_Hi b_Y_Lo b_Y_Hi), .int .i64 (datum_Carry_1 m_A m_B m_C m_D m_E m_F m_Residue b_X_Lo b_X_Hi b_Y_Lo b_Y_Hi), .int .i64 (datum_Carry_2 m_A m_B m_C m_D m_E m_F m_Residue b_X_Lo b_X_Hi b_Y_Lo b_Y_Hi), .int .i64 (datum_Carry_3 m_A m_B m_C m_D m_E m_F m_Residue b_X_Lo b_X_Hi b_Y_Lo b_Y_Hi)], .int .i64 (datum_Carry_4 m_A m_B m_C m_D m_E m_F m_Residue b_X_Lo b_X_Hi b_Y_Lo b_Y_Hi)])) := by kernel_rfl
def datum_Carry_con : List AV → Option R
  | [.agg [.int .i64 m_A, .int .i64 m_B, .int .i64 m_C, .int .i64 m_D, .int .i64 m_E, .int .i64 m_F, .int .i64 m_Residue], .agg [.int .i64 b_X_Lo, .int .i64 b_X_Hi, .int .i64 b_Y_Lo, .int .i64 b_Y_Hi]] => some (.val (.tup [.agg [.int .i64 (datum_Carry_0 m_A m_B m_C m_D m_E m_F m_Residue b_X_Lo b_X_Hi b_Y_Lo b_Y_Hi), .int .i64 (datum_Carry_1 m_A m_B m_C m_D m_E m_F m_Residue b_X_Lo b_X_Hi b_Y_Lo b_Y_Hi), .int .i64 (datum_Carry_2 m_A m_B m_C m_D m_E m_F m_Residue b_X_Lo b_X_Hi b_Y_Lo b_Y_Hi), .int .i64 (datum_Carry_3 m_A m_B m_C m_D m_E m_F m_Residue b_X_Lo b_X_Hi b_Y_Lo b_Y_Hi)], .int .i64 (datum_Carry_4 m_A m_B m_C m_D m_E m_F m_Residue b_X_Lo b_X_Hi b_Y_Lo b_Y_Hi)]))
  | _ => Option.none
noncomputable def G22 : Con := G21.add 18 datum_Carry_con
theorem datum_Carry_at (m_A m_B m_C m_D m_E m_F m_Residue b_X_Lo b_X_Hi b_Y_Lo b_Y_Hi : Int) : ConAt Try.prog 18 [.agg [.int .i64 m_A, .int .i64 m_B, .int .i64 m_C, .int .i64 m_D, .int .i64 m_E, .int .i64 m_F, .int .i64 m_Residue], .agg [.int .i64 b_X_Lo, .int .i64 b_X_Hi, .int .i64 b_Y_Lo, .int .i64 b_Y_Hi]] (.val (.tup [.agg [.int .i64 (datum_Carry_0 m_A m_B m_C m_D m_E m_F m_Residue b_X_Lo b_X_Hi b_Y_Lo b_Y_Hi), .int .i64 (datum_Carry_1 m_A m_B m_C m_D m_E m_F m_Residue b_X_Lo b_X_Hi b_Y_Lo b_Y_Hi), .int .i64 (datum_Carry_2 m_A m_B m_C m_D m_E m_F m_Residue b_X_Lo b_X_Hi b_Y_Lo b_Y_Hi), .int .i64 (datum_Carry_3 m_A m_B m_C m_D m_E m_F m_Residue b_X_Lo b_X_Hi b_Y_Lo b_Y_Hi)], .int .i64 (datum_Carry_4 m_A m_B m_C m_D m_E m_F m_Residue b_X_Lo b_X_Hi b_Y_Lo b_Y_Hi)])) := conAt_val (conAt_of G21_ok (datum_Carry_col _ _ _ _ _ _ _ _ _ _ _) rfl rfl) (datum_Carry_pre_ok _ _ _ _ _ _ _ _ _ _ _)
theorem G22_ok : ConOk Try.prog G22 := con_add G21_ok fun args r h => by
  unfold datum_Carry_con at h
  split at h
  · cases h; exact datum_Carry_at _ _ _ _ _ _ _ _ _ _ _
  · cases h
theorem datum_Apply_col (m_A m_B m_C m_D m_E m_F m_Residue p_X p_Y : Int) : collapseW (execFn Try.prog G22 9 0 16 [.agg [.int .i64 m_A, .int .i64 m_B, .int .i64 m_C, .int .i64 m_D, .int .i64 m_E, .int .i64 m_F, .int .i64 m_Residue], .agg [.int .i64 p_X, .int .i64 p_Y]] ⟨[], 0⟩) = some (.val (.tup [.agg [.int .i64 (datum_Apply_0 m_A m_B m_C m_D m_E m_F m_Residue p_X p_Y), .int .i64 (datum_Apply_1 m_A m_B m_C m_D m_E m_F m_Residue p_X p_Y), .int .i64 (datum_Apply_2 m_A m_B m_C m_D m_E m_F m_Residue p_X p_Y), .int .i64 (datum_Apply_3 m_A m_B m_C m_D m_E m_F m_Residue p_X p_Y)], .int .i64 (datum_Apply_4 m_A m_B m_C m_D m_E m_F m_Residue p_X p_Y)])) := by kernel_rfl
def datum_Apply_con : List AV → Option R
  | [.agg [.int .i64 m_A, .int .i64 m_B, .int .i64 m_C, .int .i64 m_D, .int .i64 m_E, .int .i64 m_F, .int .i64 m_Residue], .agg [.int .i64 p_X, .int .i64 p_Y]] => some (.val (.tup [.agg [.int .i64 (datum_Apply_0 m_A m_B m_C m_D m_E m_F m_Residue p_X p_Y), .int .i64 (datum_Apply_1 m_A m_B m_C m_D m_E m_F m_Residue p_X p_Y), .int .i64 (datum_Apply_2 m_A m_B m_C m_D m_E m_F m_Residue p_X p_Y), .int .i64 (datum_Apply_3 m_A m_B m_C m_D m_E m_F m_Residue p_X p_Y)], .int .i64 (datum_Apply_4 m_A m_B m_C m_D m_E m_F m_Residue p_X p_Y)]))
  | _ => Option.none
noncomputable def G23 : Con := G22.add 16 datum_Apply_con
theorem datum_Apply_at (m_A m_B m_C m_D m_E m_F m_Residue p_X p_Y : Int) : ConAt Try.prog 16 [.agg [.int .i64 m_A, .int .i64 m_B, .int .i64 m_C, .int .i64 m_D, .int .i64 m_E, .int .i64 m_F, .int .i64 m_Residue], .agg [.int .i64 p_X, .int .i64 p_Y]] (.val (.tup [.agg [.int .i64 (datum_Apply_0 m_A m_B m_C m_D m_E m_F m_Residue p_X p_Y), .int .i64 (datum_Apply_1 m_A m_B m_C m_D m_E m_F m_Residue p_X p_Y), .int .i64 (datum_Apply_2 m_A m_B m_C m_D m_E m_F m_Residue p_X p_Y), .int .i64 (datum_Apply_3 m_A m_B m_C m_D m_E m_F m_Residue p_X p_Y)], .int .i64 (datum_Apply_4 m_A m_B m_C m_D m_E m_F m_Residue p_X p_Y)])) := conAt_of G22_ok (datum_Apply_col _ _ _ _ _ _ _ _ _) rfl rfl
theorem G23_ok : ConOk Try.prog G23 := con_add G22_ok fun args r h => by
  unfold datum_Apply_con at h
  split at h
  · cases h; exact datum_Apply_at _ _ _ _ _ _ _ _ _
  · cases h
end Go.Proofs.Ytbopeaebdlmapaa
