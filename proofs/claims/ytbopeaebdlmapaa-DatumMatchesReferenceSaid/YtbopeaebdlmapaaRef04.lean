/- Written by program (wip/gen.py): the contracts of the Go functions. -/
import Derived.Test.YtbopeaebdlmapaaRows
import Derived.Test.YtbopeaebdlmapaaSxN
import Derived.Test.YtbopeaebdlmapaaDatum
import Derived.Test.YtbopeaebdlmapaaRef04D
set_option maxRecDepth 100000
set_option linter.unusedVariables false
namespace Go.Proofs.Ytbopeaebdlmapaa
open Go Go.Sx
theorem ref01_Valid_col (p_X p_Y : Int) : collapseW (execFn Try.prog G23 9 0 35 [.agg [.int .i64 p_X, .int .i64 p_Y]] ⟨[], 0⟩) = some (.val (.bool (ref01_Valid_0 p_X p_Y))) := by kernel_rfl
def ref01_Valid_con : List AV → Option R
  | [.agg [.int .i64 p_X, .int .i64 p_Y]] => some (.val (.bool (ref01_Valid_0 p_X p_Y)))
  | _ => Option.none
noncomputable def G24 : Con := G23.add 35 ref01_Valid_con
theorem ref01_Valid_at (p_X p_Y : Int) : ConAt Try.prog 35 [.agg [.int .i64 p_X, .int .i64 p_Y]] (.val (.bool (ref01_Valid_0 p_X p_Y))) := conAt_of G23_ok (ref01_Valid_col _ _) rfl rfl
theorem G24_ok : ConOk Try.prog G24 := con_add G23_ok fun args r h => by
  unfold ref01_Valid_con at h
  split at h
  · cases h; exact ref01_Valid_at _ _
  · cases h
theorem ref04_Factor_col (n : Int) : collapseW (execFn Try.prog G24 9 0 30 [.int .i64 n] ⟨[], 0⟩) = some (.val (.bool (ref04_Factor_0 n))) := by kernel_rfl
def ref04_Factor_con : List AV → Option R
  | [.int .i64 n] => some (.val (.bool (ref04_Factor_0 n)))
  | _ => Option.none
noncomputable def G25 : Con := G24.add 30 ref04_Factor_con
theorem ref04_Factor_at (n : Int) : ConAt Try.prog 30 [.int .i64 n] (.val (.bool (ref04_Factor_0 n))) := conAt_of G24_ok (ref04_Factor_col _) rfl rfl
theorem G25_ok : ConOk Try.prog G25 := con_add G24_ok fun args r h => by
  unfold ref04_Factor_con at h
  split at h
  · cases h; exact ref04_Factor_at _
  · cases h
theorem ref04_Det_col (m_A m_B m_C m_D m_E m_F m_Residue : Int) : collapseW (execFn Try.prog G25 9 0 31 [.agg [.int .i64 m_A, .int .i64 m_B, .int .i64 m_C, .int .i64 m_D, .int .i64 m_E, .int .i64 m_F, .int .i64 m_Residue]] ⟨[], 0⟩) = some (.val (.int .i64 (ref04_Det_0 m_A m_B m_C m_D m_E m_F m_Residue))) := by kernel_rfl
def ref04_Det_con : List AV → Option R
  | [.agg [.int .i64 m_A, .int .i64 m_B, .int .i64 m_C, .int .i64 m_D, .int .i64 m_E, .int .i64 m_F, .int .i64 m_Residue]] => some (.val (.int .i64 (ref04_Det_0 m_A m_B m_C m_D m_E m_F m_Residue)))
  | _ => Option.none
noncomputable def G26 : Con := G25.add 31 ref04_Det_con
theorem ref04_Det_at (m_A m_B m_C m_D m_E m_F m_Residue : Int) : ConAt Try.prog 31 [.agg [.int .i64 m_A, .int .i64 m_B, .int .i64 m_C, .int .i64 m_D, .int .i64 m_E, .int .i64 m_F, .int .i64 m_Residue]] (.val (.int .i64 (ref04_Det_0 m_A m_B m_C m_D m_E m_F m_Residue))) := conAt_of G25_ok (ref04_Det_col _ _ _ _ _ _ _) rfl rfl
theorem G26_ok : ConOk Try.prog G26 := con_add G25_ok fun args r h => by
  unfold ref04_Det_con at h
  split at h
  · cases h; exact ref04_Det_at _ _ _ _ _ _ _
  · cases h
theorem ref04_Valid_col (m_A m_B m_C m_D m_E m_F m_Residue : Int) : collapseW (execFn Try.prog G26 9 0 13 [.agg [.int .i64 m_A, .int .i64 m_B, .int .i64 m_C, .int .i64 m_D, .int .i64 m_E, .int .i64 m_F, .int .i64 m_Residue]] ⟨[], 0⟩) = some (.val (.bool (ref04_Valid_0 m_A m_B m_C m_D m_E m_F m_Residue))) := by kernel_rfl
def ref04_Valid_con : List AV → Option R
  | [.agg [.int .i64 m_A, .int .i64 m_B, .int .i64 m_C, .int .i64 m_D, .int .i64 m_E, .int .i64 m_F, .int .i64 m_Residue]] => some (.val (.bool (ref04_Valid_0 m_A m_B m_C m_D m_E m_F m_Residue)))
  | _ => Option.none
noncomputable def G27 : Con := G26.add 13 ref04_Valid_con
theorem ref04_Valid_at (m_A m_B m_C m_D m_E m_F m_Residue : Int) : ConAt Try.prog 13 [.agg [.int .i64 m_A, .int .i64 m_B, .int .i64 m_C, .int .i64 m_D, .int .i64 m_E, .int .i64 m_F, .int .i64 m_Residue]] (.val (.bool (ref04_Valid_0 m_A m_B m_C m_D m_E m_F m_Residue))) := conAt_of G26_ok (ref04_Valid_col _ _ _ _ _ _ _) rfl rfl
theorem G27_ok : ConOk Try.prog G27 := con_add G26_ok fun args r h => by
  unfold ref04_Valid_con at h
  split at h
  · cases h; exact ref04_Valid_at _ _ _ _ _ _ _
  · cases h
theorem ref04_Down_col (a b : Int) : collapseW (execFn Try.prog G27 9 0 61 [.int .i64 a, .int .i64 b] ⟨[], 0⟩) = some (.chk (ref04_Down_pre a b) (.int .i64 (ref04_Down_0 a b))) := by kernel_rfl
def ref04_Down_con : List AV → Option R
  | [.int .i64 a, .int .i64 b] => some (.chk (ref04_Down_pre a b) (.int .i64 (ref04_Down_0 a b)))
  | _ => Option.none
noncomputable def G28 : Con := G27.add 61 ref04_Down_con
theorem ref04_Down_at (a b : Int) : ConAt Try.prog 61 [.int .i64 a, .int .i64 b] (.chk (ref04_Down_pre a b) (.int .i64 (ref04_Down_0 a b))) := conAt_of G27_ok (ref04_Down_col _ _) rfl rfl
theorem G28_ok : ConOk Try.prog G28 := con_add G27_ok fun args r h => by
  unfold ref04_Down_con at h
  split at h
  · cases h; exact ref04_Down_at _ _
  · cases h
theorem ref04_Up_col (a b : Int) : collapseW (execFn Try.prog G28 9 0 54 [.int .i64 a, .int .i64 b] ⟨[], 0⟩) = some (.chk (ref04_Up_pre a b) (.int .i64 (ref04_Up_0 a b))) := by kernel_rfl
def ref04_Up_con : List AV → Option R
  | [.int .i64 a, .int .i64 b] => some (.chk (ref04_Up_pre a b) (.int .i64 (ref04_Up_0 a b)))
  | _ => Option.none
noncomputable def G29 : Con := G28.add 54 ref04_Up_con
theorem ref04_Up_at (a b : Int) : ConAt Try.prog 54 [.int .i64 a, .int .i64 b] (.chk (ref04_Up_pre a b) (.int .i64 (ref04_Up_0 a b))) := conAt_of G28_ok (ref04_Up_col _ _) rfl rfl
theorem G29_ok : ConOk Try.prog G29 := con_add G28_ok fun args r h => by
  unfold ref04_Up_con at h
  split at h
  · cases h; exact ref04_Up_at _ _
  · cases h
theorem ref04_Round_col (a b : Int) : collapseW (execFn Try.prog G29 9 0 53 [.int .i64 a, .int .i64 b] ⟨[], 0⟩) = some (.chk (ref04_Round_pre a b) (.int .i64 (ref04_Round_0 a b))) := by kernel_rfl
def ref04_Round_con : List AV → Option R
  | [.int .i64 a, .int .i64 b] => some (.chk (ref04_Round_pre a b) (.int .i64 (ref04_Round_0 a b)))
  | _ => Option.none
noncomputable def G30 : Con := G29.add 53 ref04_Round_con
theorem ref04_Round_at (a b : Int) : ConAt Try.prog 53 [.int .i64 a, .int .i64 b] (.chk (ref04_Round_pre a b) (.int .i64 (ref04_Round_0 a b))) := conAt_of G29_ok (ref04_Round_col _ _) rfl rfl
theorem G30_ok : ConOk Try.prog G30 := con_add G29_ok fun args r h => by
  unfold ref04_Round_con at h
  split at h
  · cases h; exact ref04_Round_at _ _
  · cases h
theorem ref04_Ends_col (s_Lo s_Hi : Int) : collapseW (execFn Try.prog G30 9 0 59 [.agg [.int .i64 s_Lo, .int .i64 s_Hi]] ⟨[], 0⟩) = some (.val (.bool (ref04_Ends_0 s_Lo s_Hi))) := by kernel_rfl
def ref04_Ends_con : List AV → Option R
  | [.agg [.int .i64 s_Lo, .int .i64 s_Hi]] => some (.val (.bool (ref04_Ends_0 s_Lo s_Hi)))
  | _ => Option.none
noncomputable def G31 : Con := G30.add 59 ref04_Ends_con
theorem ref04_Ends_at (s_Lo s_Hi : Int) : ConAt Try.prog 59 [.agg [.int .i64 s_Lo, .int .i64 s_Hi]] (.val (.bool (ref04_Ends_0 s_Lo s_Hi))) := conAt_of G30_ok (ref04_Ends_col _ _) rfl rfl
theorem G31_ok : ConOk Try.prog G31 := con_add G30_ok fun args r h => by
  unfold ref04_Ends_con at h
  split at h
  · cases h; exact ref04_Ends_at _ _
  · cases h
theorem ref04_Box_col (b_X_Lo b_X_Hi b_Y_Lo b_Y_Hi : Int) : collapseW (execFn Try.prog G31 9 0 45 [.agg [.int .i64 b_X_Lo, .int .i64 b_X_Hi, .int .i64 b_Y_Lo, .int .i64 b_Y_Hi]] ⟨[], 0⟩) = some (.val (.bool (ref04_Box_0 b_X_Lo b_X_Hi b_Y_Lo b_Y_Hi))) := by kernel_rfl
def ref04_Box_con : List AV → Option R
  | [.agg [.int .i64 b_X_Lo, .int .i64 b_X_Hi, .int .i64 b_Y_Lo, .int .i64 b_Y_Hi]] => some (.val (.bool (ref04_Box_0 b_X_Lo b_X_Hi b_Y_Lo b_Y_Hi)))
  | _ => Option.none
noncomputable def G32 : Con := G31.add 45 ref04_Box_con
theorem ref04_Box_at (b_X_Lo b_X_Hi b_Y_Lo b_Y_Hi : Int) : ConAt Try.prog 45 [.agg [.int .i64 b_X_Lo, .int .i64 b_X_Hi, .int .i64 b_Y_Lo, .int .i64 b_Y_Hi]] (.val (.bool (ref04_Box_0 b_X_Lo b_X_Hi b_Y_Lo b_Y_Hi))) := conAt_of G31_ok (ref04_Box_col _ _ _ _) rfl rfl
theorem G32_ok : ConOk Try.prog G32 := con_add G31_ok fun args r h => by
  unfold ref04_Box_con at h
  split at h
  · cases h; exact ref04_Box_at _ _ _ _
  · cases h
theorem ref04_Fits_col (m_A m_B m_C m_D m_E m_F m_Residue p_X p_Y q_X q_Y : Int) : collapseW (execFn Try.prog G32 9 0 15 [.agg [.int .i64 m_A, .int .i64 m_B, .int .i64 m_C, .int .i64 m_D, .int .i64 m_E, .int .i64 m_F, .int .i64 m_Residue], .agg [.int .i64 p_X, .int .i64 p_Y], .agg [.int .i64 q_X, .int .i64 q_Y]] ⟨[], 0⟩) = some (.val (.tup [.bool (ref04_Fits_0 m_A m_B m_C m_D m_E m_F m_Residue p_X p_Y q_X q_Y), .int .i64 (ref04_Fits_1 m_A m_B m_C m_D m_E m_F m_Residue p_X p_Y q_X q_Y)])) := by kernel_rfl
def ref04_Fits_con : List AV → Option R
  | [.agg [.int .i64 m_A, .int .i64 m_B, .int .i64 m_C, .int .i64 m_D, .int .i64 m_E, .int .i64 m_F, .int .i64 m_Residue], .agg [.int .i64 p_X, .int .i64 p_Y], .agg [.int .i64 q_X, .int .i64 q_Y]] => some (.val (.tup [.bool (ref04_Fits_0 m_A m_B m_C m_D m_E m_F m_Residue p_X p_Y q_X q_Y), .int .i64 (ref04_Fits_1 m_A m_B m_C m_D m_E m_F m_Residue p_X p_Y q_X q_Y)]))
  | _ => Option.none
noncomputable def G33 : Con := G32.add 15 ref04_Fits_con
theorem ref04_Fits_at (m_A m_B m_C m_D m_E m_F m_Residue p_X p_Y q_X q_Y : Int) : ConAt Try.prog 15 [.agg [.int .i64 m_A, .int .i64 m_B, .int .i64 m_C, .int .i64 m_D, .int .i64 m_E, .int .i64 m_F, .int .i64 m_Residue], .agg [.int .i64 p_X, .int .i64 p_Y], .agg [.int .i64 q_X, .int .i64 q_Y]] (.val (.tup [.bool (ref04_Fits_0 m_A m_B m_C m_D m_E m_F m_Residue p_X p_Y q_X q_Y), .int .i64 (ref04_Fits_1 m_A m_B m_C m_D m_E m_F m_Residue p_X p_Y q_X q_Y)])) := conAt_of G32_ok (ref04_Fits_col _ _ _ _ _ _ _ _ _ _ _) rfl rfl
theorem G33_ok : ConOk Try.prog G33 := con_add G32_ok fun args r h => by
  unfold ref04_Fits_con at h
  split at h
  · cases h; exact ref04_Fits_at _ _ _ _ _ _ _ _ _ _ _
  · cases h
theorem ref04_Times_col (n s_Lo s_Hi : Int) : collapseW (execFn Try.prog G33 9 0 60 [.int .i64 n, .agg [.int .i64 s_Lo, .int .i64 s_Hi]] ⟨[], 0⟩) = some (.val (.agg [.int .i64 (ref04_Times_0 n s_Lo s_Hi), .int .i64 (ref04_Times_1 n s_Lo s_Hi)])) := by kernel_rfl
def ref04_Times_con : List AV → Option R
  | [.int .i64 n, .agg [.int .i64 s_Lo, .int .i64 s_Hi]] => some (.val (.agg [.int .i64 (ref04_Times_0 n s_Lo s_Hi), .int .i64 (ref04_Times_1 n s_Lo s_Hi)]))
  | _ => Option.none
noncomputable def G34 : Con := G33.add 60 ref04_Times_con
theorem ref04_Times_at (n s_Lo s_Hi : Int) : ConAt Try.prog 60 [.int .i64 n, .agg [.int .i64 s_Lo, .int .i64 s_Hi]] (.val (.agg [.int .i64 (ref04_Times_0 n s_Lo s_Hi), .int .i64 (ref04_Times_1 n s_Lo s_Hi)])) := conAt_of G33_ok (ref04_Times_col _ _ _) rfl rfl
theorem G34_ok : ConOk Try.prog G34 := con_add G33_ok fun args r h => by
  unfold ref04_Times_con at h
  split at h
  · cases h; exact ref04_Times_at _ _ _
  · cases h
theorem ref04_Row_col (a b c residue x_X_Lo x_X_Hi x_Y_Lo x_Y_Hi : Int) : collapseW (execFn Try.prog G34 9 0 46 [.int .i64 a, .int .i64 b, .int .i64 c, .int .i64 residue, .agg [.int .i64 x_X_Lo, .int .i64 x_X_Hi, .int .i64 x_Y_Lo, .int .i64 x_Y_Hi]] ⟨[], 0⟩) = some (.chk (ref04_Row_pre a b c residue x_X_Lo x_X_Hi x_Y_Lo x_Y_Hi) (.agg [.int .i64 (ref04_Row_0 a b c residue x_X_Lo x_X_Hi x_Y_Lo x_Y_Hi), .int .i64 (ref04_Row_1 a b c residue x_X_Lo x_X_Hi x_Y_Lo x_Y_Hi)])) := by kernel_rfl
def ref04_Row_con : List AV → Option R
  | [.int .i64 a, .int .i64 b, .int .i64 c, .int .i64 residue, .agg [.int .i64 x_X_Lo, .int .i64 x_X_Hi, .int .i64 x_Y_Lo, .int .i64 x_Y_Hi]] => some (.val (.agg [.int .i64 (ref04_Row_0 a b c residue x_X_Lo x_X_Hi x_Y_Lo x_Y_Hi), .int .i64 (ref04_Row_1 a b c residue x_X_Lo x_X_Hi x_Y_Lo x_Y_Hi)]))
  | _ => Option.none
noncomputable def G35 : Con := G34.add 46 ref04_Row_con
theorem ref04_Row_at (a b c residue x_X_Lo x_X_Hi x_Y_Lo x_Y_Hi : Int) : ConAt Try.prog 46 [.int .i64 a, .int .i64 b, .int .i64 c, .int .i64 residue, .agg [.int .i64 x_X_Lo, .int .i64 x_X_Hi, .int .i64 x_Y_Lo, .int .i64 x_Y_Hi]] (.val (.agg [.int .i64 (ref04_Row_0 a b c residue x_X_Lo x_X_Hi x_Y_Lo x_Y_Hi), .int .i64 (ref04_Row_1 a b c residue x_X_Lo x_X_Hi x_Y_Lo x_Y_Hi)])) := conAt_val (conAt_of G34_ok (ref04_Row_col _ _ _ _ _ _ _ _) rfl rfl) (ref04_Row_pre_ok _ _ _ _ _ _ _ _)
theorem G35_ok : ConOk Try.prog G35 := con_add G34_ok fun args r h => by
  unfold ref04_Row_con at h
  split at h
  · cases h; exact ref04_Row_at _ _ _ _ _ _ _ _
  · cases h
theorem ref04_Carry_col (m_A m_B m_C m_D m_E m_F m_Residue b_X_Lo b_X_Hi b_Y_Lo b_Y_Hi : Int) : collapseW (execFn Try.prog G35 9 0 19 [.agg [.int .i64 m_A, .int .i64 m_B, .int .i64 m_C, .int .i64 m_D, .int .i64 m_E, .int .i64 m_F, .int .i64 m_Residue], .agg [.int .i64 b_X_Lo, .int .i64 b_X_Hi, .int .i64 b_Y_Lo, .int .i64 b_Y_Hi]] ⟨[], 0⟩) = some (.val (.tup [.agg [.int .i64 (ref04_Carry_0 m_A m_B m_C m_D m_E m_F m_Residue b_X_Lo b_X_Hi b_Y_Lo b_Y_Hi), .int .i64 (ref04_Carry_1 m_A m_B m_C m_D m_E m_F m_Residue b_X_Lo b_X_Hi b_Y_Lo b_Y_Hi), .int .i64 (ref04_Carry_2 m_A m_B m_C m_D m_E m_F m_Residue b_X_Lo b_X_Hi b_Y_Lo b_Y_Hi), .int .i64 (ref04_Carry_3 m_A m_B m_C m_D m_E m_F m_Residue b_X_Lo b_X_Hi b_Y_Lo b_Y_Hi)], .int .i64 (ref04_Carry_4 m_A m_B m_C m_D m_E m_F m_Residue b_X_Lo b_X_Hi b_Y_Lo b_Y_Hi)])) := by kernel_rfl
def ref04_Carry_con : List AV → Option R
  | [.agg [.int .i64 m_A, .int .i64 m_B, .int .i64 m_C, .int .i64 m_D, .int .i64 m_E, .int .i64 m_F, .int .i64 m_Residue], .agg [.int .i64 b_X_Lo, .int .i64 b_X_Hi, .int .i64 b_Y_Lo, .int .i64 b_Y_Hi]] => some (.val (.tup [.agg [.int .i64 (ref04_Carry_0 m_A m_B m_C m_D m_E m_F m_Residue b_X_Lo b_X_Hi b_Y_Lo b_Y_Hi), .int .i64 (ref04_Carry_1 m_A m_B m_C m_D m_E m_F m_Residue b_X_Lo b_X_Hi b_Y_Lo b_Y_Hi), .int .i64 (ref04_Carry_2 m_A m_B m_C m_D m_E m_F m_Residue b_X_Lo b_X_Hi b_Y_Lo b_Y_Hi), .int .i64 (ref04_Carry_3 m_A m_B m_C m_D m_E m_F m_Residue b_X_Lo b_X_Hi b_Y_Lo b_Y_Hi)], .int .i64 (ref04_Carry_4 m_A m_B m_C m_D m_E m_F m_Residue b_X_Lo b_X_Hi b_Y_Lo b_Y_Hi)]))
  | _ => Option.none
noncomputable def G36 : Con := G35.add 19 ref04_Carry_con
theorem ref04_Carry_at (m_A m_B m_C m_D m_E m_F m_Residue b_X_Lo b_X_Hi b_Y_Lo b_Y_Hi : Int) : ConAt Try.prog 19 [.agg [.int .i64 m_A, .int .i64 m_B, .int .i64 m_C, .int .i64 m_D, .int .i64 m_E, .int .i64 m_F, .int .i64 m_Residue], .agg [.int .i64 b_X_Lo, .int .i64 b_X_Hi, .int .i64 b_Y_Lo, .int .i64 b_Y_Hi]] (.val (.tup [.agg [.int .i64 (ref04_Carry_0 m_A m_B m_C m_D m_E m_F m_Residue b_X_Lo b_X_Hi b_Y_Lo b_Y_Hi), .int .i64 (ref04_Carry_1 m_A m_B m_C m_D m_E m_F m_Residue b_X_Lo b_X_Hi b_Y_Lo b_Y_Hi), .int .i64 (ref04_Carry_2 m_A m_B m_C m_D m_E m_F m_Residue b_X_Lo b_X_Hi b_Y_Lo b_Y_Hi), .int .i64 (ref04_Carry_3 m_A m_B m_C m_D m_E m_F m_Residue b_X_Lo b_X_Hi b_Y_Lo b_Y_Hi)], .int .i64 (ref04_Carry_4 m_A m_B m_C m_D m_E m_F m_Residue b_X_Lo b_X_Hi b_Y_Lo b_Y_Hi)])) := conAt_of G35_ok (ref04_Carry_col _ _ _ _ _ _ _ _ _ _ _) rfl rfl
theorem G36_ok : ConOk Try.prog G36 := con_add G35_ok fun args r h => by
  unfold ref04_Carry_con at h
  split at h
  · cases h; exact ref04_Carry_at _ _ _ _ _ _ _ _ _ _ _
  · cases h
theorem ref04_One_col (p_X p_Y : Int) : collapseW (execFn Try.prog G36 9 0 37 [.agg [.int .i64 p_X, .int .i64 p_Y]] ⟨[], 0⟩) = some (.val (.agg [.int .i64 (ref04_One_0 p_X p_Y), .int .i64 (ref04_One_1 p_X p_Y), .int .i64 (ref04_One_2 p_X p_Y), .int .i64 (ref04_One_3 p_X p_Y)])) := by kernel_rfl
def ref04_One_con : List AV → Option R
  | [.agg [.int .i64 p_X, .int .i64 p_Y]] => some (.val (.agg [.int .i64 (ref04_One_0 p_X p_Y), .int .i64 (ref04_One_1 p_X p_Y), .int .i64 (ref04_One_2 p_X p_Y), .int .i64 (ref04_One_3 p_X p_Y)]))
  | _ => Option.none
noncomputable def G37 : Con := G36.add 37 ref04_One_con
theorem ref04_One_at (p_X p_Y : Int) : ConAt Try.prog 37 [.agg [.int .i64 p_X, .int .i64 p_Y]] (.val (.agg [.int .i64 (ref04_One_0 p_X p_Y), .int .i64 (ref04_One_1 p_X p_Y), .int .i64 (ref04_One_2 p_X p_Y), .int .i64 (ref04_One_3 p_X p_Y)])) := conAt_of G36_ok (ref04_One_col _ _) rfl rfl
theorem G37_ok : ConOk Try.prog G37 := con_add G36_ok fun args r h => by
  unfold ref04_One_con at h
  split at h
  · cases h; exact ref04_One_at _ _
  · cases h
theorem ref04_Apply_col (m_A m_B m_C m_D m_E m_F m_Residue p_X p_Y : Int) : collapseW (execFn Try.prog G37 9 0 17 [.agg [.int .i64 m_A, .int .i64 m_B, .int .i64 m_C, .int .i64 m_D, .int .i64 m_E, .int .i64 m_F, .int .i64 m_Residue], .agg [.int .i64 p_X, .int .i64 p_Y]] ⟨[], 0⟩) = some (.val (.tup [.agg [.int .i64 (ref04_Apply_0 m_A m_B m_C m_D m_E m_F m_Residue p_X p_Y), .int .i64 (ref04_Apply_1 m_A m_B m_C m_D m_E m_F m_Residue p_X p_Y), .int .i64 (ref04_Apply_2 m_A m_B m_C m_D m_E m_F m_Residue p_X p_Y), .int .i64 (ref04_Apply_3 m_A m_B m_C m_D m_E m_F m_Residue p_X p_Y)], .int .i64 (ref04_Apply_4 m_A m_B m_C m_D m_E m_F m_Residue p_X p_Y)])) := by kernel_rfl
def ref04_Apply_con : List AV → Option R
  | [.agg [.int .i64 m_A, .int .i64 m_B, .int .i64 m_C, .int .i64 m_D, .int .i64 m_E, .int .i64 m_F, .int .i64 m_Residue], .agg [.int .i64 p_X, .int .i64 p_Y]] => some (.val (.tup [.agg [.int .i64 (ref04_Apply_0 m_A m_B m_C m_D m_E m_F m_Residue p_X p_Y), .int .i64 (ref04_Apply_1 m_A m_B m_C m_D m_E m_F m_Residue p_X p_Y), .int .i64 (ref04_Apply_2 m_A m_B m_C m_D m_E m_F m_Residue p_X p_Y), .int .i64 (ref04_Apply_3 m_A m_B m_C m_D m_E m_F m_Residue p_X p_Y)], .int .i64 (ref04_Apply_4 m_A m_B m_C m_D m_E m_F m_Residue p_X p_Y)]))
  | _ => Option.none
noncomputable def G38 : Con := G37.add 17 ref04_Apply_con
theorem ref04_Apply_at (m_A m_B m_C m_D m_E m_F m_Residue p_X p_Y : Int) : ConAt Try.prog 17 [.agg [.int .i64 m_A, .int .i64 m_B, .int .i64 m_C, .int .i64 m_D, .int .i64 m_E, .int .i64 m_F, .int .i64 m_Residue], .agg [.int .i64 p_X, .int .i64 p_Y]] (.val (.tup [.agg [.int .i64 (ref04_Apply_0 m_A m_B m_C m_D m_E m_F m_Residue p_X p_Y), .int .i64 (ref04_Apply_1 m_A m_B m_C m_D m_E m_F m_Residue p_X p_Y), .int .i64 (ref04_Apply_2 m_A m_B m_C m_D m_E m_F m_Residue p_X p_Y), .int .i64 (ref04_Apply_3 m_A m_B m_C m_D m_E m_F m_Residue p_X p_Y)], .int .i64 (ref04_Apply_4 m_A m_B m_C m_D m_E m_F m_Residue p_X p_Y)])) := conAt_of G37_ok (ref04_Apply_col _ _ _ _ _ _ _ _ _) rfl rfl
theorem G38_ok : ConOk Try.prog G38 := con_add G37_ok fun args r h => by
  unfold ref04_Apply_con at h
  split at h
  · cases h; exact ref04_Apply_at _ _ _ _ _ _ _ _ _
  · cases h
theorem ref04_Column_col (a u_Lo u_Hi b v_Lo v_Hi d : Int) : collapseW (execFn Try.prog G38 9 0 49 [.int .i64 a, .agg [.int .i64 u_Lo, .int .i64 u_Hi], .int .i64 b, .agg [.int .i64 v_Lo, .int .i64 v_Hi], .int .i64 d] ⟨[], 0⟩) = some (.chk (ref04_Column_pre a u_Lo u_Hi b v_Lo v_Hi d) (.agg [.int .i64 (ref04_Column_0 a u_Lo u_Hi b v_Lo v_Hi d), .int .i64 (ref04_Column_1 a u_Lo u_Hi b v_Lo v_Hi d)])) := by kernel_rfl
def ref04_Column_con : List AV → Option R
  | [.int .i64 a, .agg [.int .i64 u_Lo, .int .i64 u_Hi], .int .i64 b, .agg [.int .i64 v_Lo, .int .i64 v_Hi], .int .i64 d] => some (.chk (ref04_Column_pre a u_Lo u_Hi b v_Lo v_Hi d) (.agg [.int .i64 (ref04_Column_0 a u_Lo u_Hi b v_Lo v_Hi d), .int .i64 (ref04_Column_1 a u_Lo u_Hi b v_Lo v_Hi d)]))
  | _ => Option.none
noncomputable def G39 : Con := G38.add 49 ref04_Column_con
theorem ref04_Column_at (a u_Lo u_Hi b v_Lo v_Hi d : Int) : ConAt Try.prog 49 [.int .i64 a, .agg [.int .i64 u_Lo, .int .i64 u_Hi], .int .i64 b, .agg [.int .i64 v_Lo, .int .i64 v_Hi], .int .i64 d] (.chk (ref04_Column_pre a u_Lo u_Hi b v_Lo v_Hi d) (.agg [.int .i64 (ref04_Column_0 a u_Lo u_Hi b v_Lo v_Hi d), .int .i64 (ref04_Column_1 a u_Lo u_Hi b v_Lo v_Hi d)])) := conAt_of G38_ok (ref04_Column_col _ _ _ _ _ _ _) rfl rfl
theorem G39_ok : ConOk Try.prog G39 := con_add G38_ok fun args r h => by
  unfold ref04_Column_con at h
  split at h
  · cases h; exact ref04_Column_at _ _ _ _ _ _ _
  · cases h
theorem ref04_Size_col (n : Int) : collapseW (execFn Try.prog G39 9 0 55 [.int .i64 n] ⟨[], 0⟩) = some (.val (.int .i64 (ref04_Size_0 n))) := by kernel_rfl
def ref04_Size_con : List AV → Option R
  | [.int .i64 n] => some (.val (.int .i64 (ref04_Size_0 n)))
  | _ => Option.none
noncomputable def G40 : Con := G39.add 55 ref04_Size_con
theorem ref04_Size_at (n : Int) : ConAt Try.prog 55 [.int .i64 n] (.val (.int .i64 (ref04_Size_0 n))) := conAt_of G39_ok (ref04_Size_col _) rfl rfl
theorem G40_ok : ConOk Try.prog G40 := con_add G39_ok fun args r h => by
  unfold ref04_Size_con at h
  split at h
  · cases h; exact ref04_Size_at _
  · cases h
end Go.Proofs.Ytbopeaebdlmapaa
