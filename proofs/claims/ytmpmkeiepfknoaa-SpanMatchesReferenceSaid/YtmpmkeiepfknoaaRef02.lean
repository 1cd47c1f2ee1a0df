/- Written by program (wip/gen.py): the contracts of the Go functions. -/
import Derived.Test.YtmpmkeiepfknoaaRows
import Derived.Test.YtmpmkeiepfknoaaSxN
import Derived.Test.YtmpmkeiepfknoaaSpan
import Derived.Test.YtmpmkeiepfknoaaRef02D
set_option maxRecDepth 100000
set_option linter.unusedVariables false
namespace Go.Proofs.Ytmpmkeiepfknoaa
open Go Go.Sx
theorem ref02_Valid_col (s_Lo s_Hi : Int) : collapse (execFn Try.prog G24 9 0 21 [.agg [.int .i64 s_Lo, .int .i64 s_Hi]] ⟨[], 0⟩) = some (.val (.bool (ref02_Valid_0 s_Lo s_Hi))) := by kernel_rfl
def ref02_Valid_con : List AV → Option R
  | [.agg [.int .i64 s_Lo, .int .i64 s_Hi]] => some (.val (.bool (ref02_Valid_0 s_Lo s_Hi)))
  | _ => Option.none
noncomputable def G25 : Con := G24.add 21 ref02_Valid_con
theorem ref02_Valid_at (s_Lo s_Hi : Int) : ConAt Try.prog 21 [.agg [.int .i64 s_Lo, .int .i64 s_Hi]] (.val (.bool (ref02_Valid_0 s_Lo s_Hi))) := conAt_of G24_ok (ref02_Valid_col _ _) rfl rfl
theorem G25_ok : ConOk Try.prog G25 := con_add G24_ok fun args r h => by
  unfold ref02_Valid_con at h
  split at h
  · cases h; exact ref02_Valid_at _ _
  · cases h
theorem ref02_bounded_col (s_Lo s_Hi : Int) : collapse (execFn Try.prog G25 9 0 44 [.agg [.int .i64 s_Lo, .int .i64 s_Hi]] ⟨[], 0⟩) = some (.val (.tup [.agg [.int .i64 (ref02_bounded_0 s_Lo s_Hi), .int .i64 (ref02_bounded_1 s_Lo s_Hi)], .int .i64 (ref02_bounded_2 s_Lo s_Hi)])) := by kernel_rfl
def ref02_bounded_con : List AV → Option R
  | [.agg [.int .i64 s_Lo, .int .i64 s_Hi]] => some (.val (.tup [.agg [.int .i64 (ref02_bounded_0 s_Lo s_Hi), .int .i64 (ref02_bounded_1 s_Lo s_Hi)], .int .i64 (ref02_bounded_2 s_Lo s_Hi)]))
  | _ => Option.none
noncomputable def G26 : Con := G25.add 44 ref02_bounded_con
theorem ref02_bounded_at (s_Lo s_Hi : Int) : ConAt Try.prog 44 [.agg [.int .i64 s_Lo, .int .i64 s_Hi]] (.val (.tup [.agg [.int .i64 (ref02_bounded_0 s_Lo s_Hi), .int .i64 (ref02_bounded_1 s_Lo s_Hi)], .int .i64 (ref02_bounded_2 s_Lo s_Hi)])) := conAt_of G25_ok (ref02_bounded_col _ _) rfl rfl
theorem G26_ok : ConOk Try.prog G26 := con_add G25_ok fun args r h => by
  unfold ref02_bounded_con at h
  split at h
  · cases h; exact ref02_bounded_at _ _
  · cases h
theorem ref02_Both_col (s_Lo s_Hi t_Lo t_Hi : Int) : collapse (execFn Try.prog G26 9 0 43 [.agg [.int .i64 s_Lo, .int .i64 s_Hi], .agg [.int .i64 t_Lo, .int .i64 t_Hi]] ⟨[], 0⟩) = some (.val (.bool (ref02_Both_0 s_Lo s_Hi t_Lo t_Hi))) := by kernel_rfl
def ref02_Both_con : List AV → Option R
  | [.agg [.int .i64 s_Lo, .int .i64 s_Hi], .agg [.int .i64 t_Lo, .int .i64 t_Hi]] => some (.val (.bool (ref02_Both_0 s_Lo s_Hi t_Lo t_Hi)))
  | _ => Option.none
noncomputable def G27 : Con := G26.add 43 ref02_Both_con
theorem ref02_Both_at (s_Lo s_Hi t_Lo t_Hi : Int) : ConAt Try.prog 43 [.agg [.int .i64 s_Lo, .int .i64 s_Hi], .agg [.int .i64 t_Lo, .int .i64 t_Hi]] (.val (.bool (ref02_Both_0 s_Lo s_Hi t_Lo t_Hi))) := conAt_of G26_ok (ref02_Both_col _ _ _ _) rfl rfl
theorem G27_ok : ConOk Try.prog G27 := con_add G26_ok fun args r h => by
  unfold ref02_Both_con at h
  split at h
  · cases h; exact ref02_Both_at _ _ _ _
  · cases h
theorem ref02_Add_col (s_Lo s_Hi t_Lo t_Hi : Int) : collapse (execFn Try.prog G27 9 0 24 [.agg [.int .i64 s_Lo, .int .i64 s_Hi], .agg [.int .i64 t_Lo, .int .i64 t_Hi]] ⟨[], 0⟩) = some (.val (.tup [.agg [.int .i64 (ref02_Add_0 s_Lo s_Hi t_Lo t_Hi), .int .i64 (ref02_Add_1 s_Lo s_Hi t_Lo t_Hi)], .int .i64 (ref02_Add_2 s_Lo s_Hi t_Lo t_Hi)])) := by kernel_rfl
def ref02_Add_con : List AV → Option R
  | [.agg [.int .i64 s_Lo, .int .i64 s_Hi], .agg [.int .i64 t_Lo, .int .i64 t_Hi]] => some (.val (.tup [.agg [.int .i64 (ref02_Add_0 s_Lo s_Hi t_Lo t_Hi), .int .i64 (ref02_Add_1 s_Lo s_Hi t_Lo t_Hi)], .int .i64 (ref02_Add_2 s_Lo s_Hi t_Lo t_Hi)]))
  | _ => Option.none
noncomputable def G28 : Con := G27.add 24 ref02_Add_con
theorem ref02_Add_at (s_Lo s_Hi t_Lo t_Hi : Int) : ConAt Try.prog 24 [.agg [.int .i64 s_Lo, .int .i64 s_Hi], .agg [.int .i64 t_Lo, .int .i64 t_Hi]] (.val (.tup [.agg [.int .i64 (ref02_Add_0 s_Lo s_Hi t_Lo t_Hi), .int .i64 (ref02_Add_1 s_Lo s_Hi t_Lo t_Hi)], .int .i64 (ref02_Add_2 s_Lo s_Hi t_Lo t_Hi)])) := conAt_of G27_ok (ref02_Add_col _ _ _ _) rfl rfl
theorem G28_ok : ConOk Try.prog G28 := con_add G27_ok fun args r h => by
  unfold ref02_Add_con at h
  split at h
  · cases h; exact ref02_Add_at _ _ _ _
  · cases h
theorem ref02_Sub_col (s_Lo s_Hi t_Lo t_Hi : Int) : collapse (execFn Try.prog G28 9 0 25 [.agg [.int .i64 s_Lo, .int .i64 s_Hi], .agg [.int .i64 t_Lo, .int .i64 t_Hi]] ⟨[], 0⟩) = some (.val (.tup [.agg [.int .i64 (ref02_Sub_0 s_Lo s_Hi t_Lo t_Hi), .int .i64 (ref02_Sub_1 s_Lo s_Hi t_Lo t_Hi)], .int .i64 (ref02_Sub_2 s_Lo s_Hi t_Lo t_Hi)])) := by kernel_rfl
def ref02_Sub_con : List AV → Option R
  | [.agg [.int .i64 s_Lo, .int .i64 s_Hi], .agg [.int .i64 t_Lo, .int .i64 t_Hi]] => some (.val (.tup [.agg [.int .i64 (ref02_Sub_0 s_Lo s_Hi t_Lo t_Hi), .int .i64 (ref02_Sub_1 s_Lo s_Hi t_Lo t_Hi)], .int .i64 (ref02_Sub_2 s_Lo s_Hi t_Lo t_Hi)]))
  | _ => Option.none
noncomputable def G29 : Con := G28.add 25 ref02_Sub_con
theorem ref02_Sub_at (s_Lo s_Hi t_Lo t_Hi : Int) : ConAt Try.prog 25 [.agg [.int .i64 s_Lo, .int .i64 s_Hi], .agg [.int .i64 t_Lo, .int .i64 t_Hi]] (.val (.tup [.agg [.int .i64 (ref02_Sub_0 s_Lo s_Hi t_Lo t_Hi), .int .i64 (ref02_Sub_1 s_Lo s_Hi t_Lo t_Hi)], .int .i64 (ref02_Sub_2 s_Lo s_Hi t_Lo t_Hi)])) := conAt_of G28_ok (ref02_Sub_col _ _ _ _) rfl rfl
theorem G29_ok : ConOk Try.prog G29 := con_add G28_ok fun args r h => by
  unfold ref02_Sub_con at h
  split at h
  · cases h; exact ref02_Sub_at _ _ _ _
  · cases h
theorem ref02_Scale_col (s_Lo s_Hi num den : Int) : collapse (execFn Try.prog G29 9 0 26 [.agg [.int .i64 s_Lo, .int .i64 s_Hi], .int .i64 num, .int .i64 den] ⟨[], 0⟩) = some (.chk (ref02_Scale_pre s_Lo s_Hi num den) (.tup [.agg [.int .i64 (ref02_Scale_0 s_Lo s_Hi num den), .int .i64 (ref02_Scale_1 s_Lo s_Hi num den)], .int .i64 (ref02_Scale_2 s_Lo s_Hi num den)])) := by kernel_rfl
def ref02_Scale_con : List AV → Option R
  | [.agg [.int .i64 s_Lo, .int .i64 s_Hi], .int .i64 num, .int .i64 den] => some (.val (.tup [.agg [.int .i64 (ref02_Scale_0 s_Lo s_Hi num den), .int .i64 (ref02_Scale_1 s_Lo s_Hi num den)], .int .i64 (ref02_Scale_2 s_Lo s_Hi num den)]))
  | _ => Option.none
noncomputable def G30 : Con := G29.add 26 ref02_Scale_con
theorem ref02_Scale_at (s_Lo s_Hi num den : Int) : ConAt Try.prog 26 [.agg [.int .i64 s_Lo, .int .i64 s_Hi], .int .i64 num, .int .i64 den] (.val (.tup [.agg [.int .i64 (ref02_Scale_0 s_Lo s_Hi num den), .int .i64 (ref02_Scale_1 s_Lo s_Hi num den)], .int .i64 (ref02_Scale_2 s_Lo s_Hi num den)])) := conAt_val (conAt_of G29_ok (ref02_Scale_col _ _ _ _) rfl rfl) (ref02_Scale_pre_ok _ _ _ _)
theorem G30_ok : ConOk Try.prog G30 := con_add G29_ok fun args r h => by
  unfold ref02_Scale_con at h
  split at h
  · cases h; exact ref02_Scale_at _ _ _ _
  · cases h
theorem ref02_Meet_col (s_Lo s_Hi t_Lo t_Hi : Int) : collapse (execFn Try.prog G30 9 0 27 [.agg [.int .i64 s_Lo, .int .i64 s_Hi], .agg [.int .i64 t_Lo, .int .i64 t_Hi]] ⟨[], 0⟩) = some (.val (.tup [.agg [.int .i64 (ref02_Meet_0 s_Lo s_Hi t_Lo t_Hi), .int .i64 (ref02_Meet_1 s_Lo s_Hi t_Lo t_Hi)], .int .i64 (ref02_Meet_2 s_Lo s_Hi t_Lo t_Hi)])) := by kernel_rfl
def ref02_Meet_con : List AV → Option R
  | [.agg [.int .i64 s_Lo, .int .i64 s_Hi], .agg [.int .i64 t_Lo, .int .i64 t_Hi]] => some (.val (.tup [.agg [.int .i64 (ref02_Meet_0 s_Lo s_Hi t_Lo t_Hi), .int .i64 (ref02_Meet_1 s_Lo s_Hi t_Lo t_Hi)], .int .i64 (ref02_Meet_2 s_Lo s_Hi t_Lo t_Hi)]))
  | _ => Option.none
noncomputable def G31 : Con := G30.add 27 ref02_Meet_con
theorem ref02_Meet_at (s_Lo s_Hi t_Lo t_Hi : Int) : ConAt Try.prog 27 [.agg [.int .i64 s_Lo, .int .i64 s_Hi], .agg [.int .i64 t_Lo, .int .i64 t_Hi]] (.val (.tup [.agg [.int .i64 (ref02_Meet_0 s_Lo s_Hi t_Lo t_Hi), .int .i64 (ref02_Meet_1 s_Lo s_Hi t_Lo t_Hi)], .int .i64 (ref02_Meet_2 s_Lo s_Hi t_Lo t_Hi)])) := conAt_of G30_ok (ref02_Meet_col _ _ _ _) rfl rfl
theorem G31_ok : ConOk Try.prog G31 := con_add G30_ok fun args r h => by
  unfold ref02_Meet_con at h
  split at h
  · cases h; exact ref02_Meet_at _ _ _ _
  · cases h
theorem ref02_Join_col (s_Lo s_Hi t_Lo t_Hi : Int) : collapse (execFn Try.prog G31 9 0 28 [.agg [.int .i64 s_Lo, .int .i64 s_Hi], .agg [.int .i64 t_Lo, .int .i64 t_Hi]] ⟨[], 0⟩) = some (.val (.tup [.agg [.int .i64 (ref02_Join_0 s_Lo s_Hi t_Lo t_Hi), .int .i64 (ref02_Join_1 s_Lo s_Hi t_Lo t_Hi)], .int .i64 (ref02_Join_2 s_Lo s_Hi t_Lo t_Hi)])) := by kernel_rfl
def ref02_Join_con : List AV → Option R
  | [.agg [.int .i64 s_Lo, .int .i64 s_Hi], .agg [.int .i64 t_Lo, .int .i64 t_Hi]] => some (.val (.tup [.agg [.int .i64 (ref02_Join_0 s_Lo s_Hi t_Lo t_Hi), .int .i64 (ref02_Join_1 s_Lo s_Hi t_Lo t_Hi)], .int .i64 (ref02_Join_2 s_Lo s_Hi t_Lo t_Hi)]))
  | _ => Option.none
noncomputable def G32 : Con := G31.add 28 ref02_Join_con
theorem ref02_Join_at (s_Lo s_Hi t_Lo t_Hi : Int) : ConAt Try.prog 28 [.agg [.int .i64 s_Lo, .int .i64 s_Hi], .agg [.int .i64 t_Lo, .int .i64 t_Hi]] (.val (.tup [.agg [.int .i64 (ref02_Join_0 s_Lo s_Hi t_Lo t_Hi), .int .i64 (ref02_Join_1 s_Lo s_Hi t_Lo t_Hi)], .int .i64 (ref02_Join_2 s_Lo s_Hi t_Lo t_Hi)])) := conAt_of G31_ok (ref02_Join_col _ _ _ _) rfl rfl
theorem G32_ok : ConOk Try.prog G32 := con_add G31_ok fun args r h => by
  unfold ref02_Join_con at h
  split at h
  · cases h; exact ref02_Join_at _ _ _ _
  · cases h
theorem ref02_Has_col (s_Lo s_Hi x : Int) : collapse (execFn Try.prog G32 9 0 51 [.agg [.int .i64 s_Lo, .int .i64 s_Hi], .int .i64 x] ⟨[], 0⟩) = some (.val (.bool (ref02_Has_0 s_Lo s_Hi x))) := by kernel_rfl
def ref02_Has_con : List AV → Option R
  | [.agg [.int .i64 s_Lo, .int .i64 s_Hi], .int .i64 x] => some (.val (.bool (ref02_Has_0 s_Lo s_Hi x)))
  | _ => Option.none
noncomputable def G33 : Con := G32.add 51 ref02_Has_con
theorem ref02_Has_at (s_Lo s_Hi x : Int) : ConAt Try.prog 51 [.agg [.int .i64 s_Lo, .int .i64 s_Hi], .int .i64 x] (.val (.bool (ref02_Has_0 s_Lo s_Hi x))) := conAt_of G32_ok (ref02_Has_col _ _ _) rfl rfl
theorem G33_ok : ConOk Try.prog G33 := con_add G32_ok fun args r h => by
  unfold ref02_Has_con at h
  split at h
  · cases h; exact ref02_Has_at _ _ _
  · cases h
theorem ref02_Within_col (s_Lo s_Hi t_Lo t_Hi : Int) : collapse (execFn Try.prog G33 9 0 29 [.agg [.int .i64 s_Lo, .int .i64 s_Hi], .agg [.int .i64 t_Lo, .int .i64 t_Hi]] ⟨[], 0⟩) = some (.val (.tup [.bool (ref02_Within_0 s_Lo s_Hi t_Lo t_Hi), .int .i64 (ref02_Within_1 s_Lo s_Hi t_Lo t_Hi)])) := by kernel_rfl
def ref02_Within_con : List AV → Option R
  | [.agg [.int .i64 s_Lo, .int .i64 s_Hi], .agg [.int .i64 t_Lo, .int .i64 t_Hi]] => some (.val (.tup [.bool (ref02_Within_0 s_Lo s_Hi t_Lo t_Hi), .int .i64 (ref02_Within_1 s_Lo s_Hi t_Lo t_Hi)]))
  | _ => Option.none
noncomputable def G34 : Con := G33.add 29 ref02_Within_con
theorem ref02_Within_at (s_Lo s_Hi t_Lo t_Hi : Int) : ConAt Try.prog 29 [.agg [.int .i64 s_Lo, .int .i64 s_Hi], .agg [.int .i64 t_Lo, .int .i64 t_Hi]] (.val (.tup [.bool (ref02_Within_0 s_Lo s_Hi t_Lo t_Hi), .int .i64 (ref02_Within_1 s_Lo s_Hi t_Lo t_Hi)])) := conAt_of G33_ok (ref02_Within_col _ _ _ _) rfl rfl
theorem G34_ok : ConOk Try.prog G34 := con_add G33_ok fun args r h => by
  unfold ref02_Within_con at h
  split at h
  · cases h; exact ref02_Within_at _ _ _ _
  · cases h
theorem ref02_coords_col (s_Lo s_Hi : Int) : collapse (execFn Try.prog G34 9 0 42 [.agg [.int .i64 s_Lo, .int .i64 s_Hi]] ⟨[], 0⟩) = some (.val (.bool (ref02_coords_0 s_Lo s_Hi))) := by kernel_rfl
def ref02_coords_con : List AV → Option R
  | [.agg [.int .i64 s_Lo, .int .i64 s_Hi]] => some (.val (.bool (ref02_coords_0 s_Lo s_Hi)))
  | _ => Option.none
noncomputable def G35 : Con := G34.add 42 ref02_coords_con
theorem ref02_coords_at (s_Lo s_Hi : Int) : ConAt Try.prog 42 [.agg [.int .i64 s_Lo, .int .i64 s_Hi]] (.val (.bool (ref02_coords_0 s_Lo s_Hi))) := conAt_of G34_ok (ref02_coords_col _ _) rfl rfl
theorem G35_ok : ConOk Try.prog G35 := con_add G34_ok fun args r h => by
  unfold ref02_coords_con at h
  split at h
  · cases h; exact ref02_coords_at _ _
  · cases h
theorem ref02_ValidBox_col (b_X_Lo b_X_Hi b_Y_Lo b_Y_Hi : Int) : collapse (execFn Try.prog G35 9 0 23 [.agg [.int .i64 b_X_Lo, .int .i64 b_X_Hi, .int .i64 b_Y_Lo, .int .i64 b_Y_Hi]] ⟨[], 0⟩) = some (.val (.bool (ref02_ValidBox_0 b_X_Lo b_X_Hi b_Y_Lo b_Y_Hi))) := by kernel_rfl
def ref02_ValidBox_con : List AV → Option R
  | [.agg [.int .i64 b_X_Lo, .int .i64 b_X_Hi, .int .i64 b_Y_Lo, .int .i64 b_Y_Hi]] => some (.val (.bool (ref02_ValidBox_0 b_X_Lo b_X_Hi b_Y_Lo b_Y_Hi)))
  | _ => Option.none
noncomputable def G36 : Con := G35.add 23 ref02_ValidBox_con
theorem ref02_ValidBox_at (b_X_Lo b_X_Hi b_Y_Lo b_Y_Hi : Int) : ConAt Try.prog 23 [.agg [.int .i64 b_X_Lo, .int .i64 b_X_Hi, .int .i64 b_Y_Lo, .int .i64 b_Y_Hi]] (.val (.bool (ref02_ValidBox_0 b_X_Lo b_X_Hi b_Y_Lo b_Y_Hi))) := conAt_of G35_ok (ref02_ValidBox_col _ _ _ _) rfl rfl
theorem G36_ok : ConOk Try.prog G36 := con_add G35_ok fun args r h => by
  unfold ref02_ValidBox_con at h
  split at h
  · cases h; exact ref02_ValidBox_at _ _ _ _
  · cases h
theorem ref02_BothBoxes_col (a_X_Lo a_X_Hi a_Y_Lo a_Y_Hi b_X_Lo b_X_Hi b_Y_Lo b_Y_Hi : Int) : collapse (execFn Try.prog G36 9 0 48 [.agg [.int .i64 a_X_Lo, .int .i64 a_X_Hi, .int .i64 a_Y_Lo, .int .i64 a_Y_Hi], .agg [.int .i64 b_X_Lo, .int .i64 b_X_Hi, .int .i64 b_Y_Lo, .int .i64 b_Y_Hi]] ⟨[], 0⟩) = some (.val (.bool (ref02_BothBoxes_0 a_X_Lo a_X_Hi a_Y_Lo a_Y_Hi b_X_Lo b_X_Hi b_Y_Lo b_Y_Hi))) := by kernel_rfl
def ref02_BothBoxes_con : List AV → Option R
  | [.agg [.int .i64 a_X_Lo, .int .i64 a_X_Hi, .int .i64 a_Y_Lo, .int .i64 a_Y_Hi], .agg [.int .i64 b_X_Lo, .int .i64 b_X_Hi, .int .i64 b_Y_Lo, .int .i64 b_Y_Hi]] => some (.val (.bool (ref02_BothBoxes_0 a_X_Lo a_X_Hi a_Y_Lo a_Y_Hi b_X_Lo b_X_Hi b_Y_Lo b_Y_Hi)))
  | _ => Option.none
noncomputable def G37 : Con := G36.add 48 ref02_BothBoxes_con
theorem ref02_BothBoxes_at (a_X_Lo a_X_Hi a_Y_Lo a_Y_Hi b_X_Lo b_X_Hi b_Y_Lo b_Y_Hi : Int) : ConAt Try.prog 48 [.agg [.int .i64 a_X_Lo, .int .i64 a_X_Hi, .int .i64 a_Y_Lo, .int .i64 a_Y_Hi], .agg [.int .i64 b_X_Lo, .int .i64 b_X_Hi, .int .i64 b_Y_Lo, .int .i64 b_Y_Hi]] (.val (.bool (ref02_BothBoxes_0 a_X_Lo a_X_Hi a_Y_Lo a_Y_Hi b_X_Lo b_X_Hi b_Y_Lo b_Y_Hi))) := conAt_of G36_ok (ref02_BothBoxes_col _ _ _ _ _ _ _ _) rfl rfl
theorem G37_ok : ConOk Try.prog G37 := con_add G36_ok fun args r h => by
  unfold ref02_BothBoxes_con at h
  split at h
  · cases h; exact ref02_BothBoxes_at _ _ _ _ _ _ _ _
  · cases h
theorem ref02_Place_col (p_X p_Y : Int) : collapse (execFn Try.prog G37 9 0 49 [.agg [.int .i64 p_X, .int .i64 p_Y]] ⟨[], 0⟩) = some (.val (.bool (ref02_Place_0 p_X p_Y))) := by kernel_rfl
def ref02_Place_con : List AV → Option R
  | [.agg [.int .i64 p_X, .int .i64 p_Y]] => some (.val (.bool (ref02_Place_0 p_X p_Y)))
  | _ => Option.none
noncomputable def G38 : Con := G37.add 49 ref02_Place_con
theorem ref02_Place_at (p_X p_Y : Int) : ConAt Try.prog 49 [.agg [.int .i64 p_X, .int .i64 p_Y]] (.val (.bool (ref02_Place_0 p_X p_Y))) := conAt_of G37_ok (ref02_Place_col _ _) rfl rfl
theorem G38_ok : ConOk Try.prog G38 := con_add G37_ok fun args r h => by
  unfold ref02_Place_con at h
  split at h
  · cases h; exact ref02_Place_at _ _
  · cases h
theorem ref02_Holds_col (b_X_Lo b_X_Hi b_Y_Lo b_Y_Hi p_X p_Y : Int) : collapse (execFn Try.prog G38 9 0 50 [.agg [.int .i64 b_X_Lo, .int .i64 b_X_Hi, .int .i64 b_Y_Lo, .int .i64 b_Y_Hi], .agg [.int .i64 p_X, .int .i64 p_Y]] ⟨[], 0⟩) = some (.val (.bool (ref02_Holds_0 b_X_Lo b_X_Hi b_Y_Lo b_Y_Hi p_X p_Y))) := by kernel_rfl
def ref02_Holds_con : List AV → Option R
  | [.agg [.int .i64 b_X_Lo, .int .i64 b_X_Hi, .int .i64 b_Y_Lo, .int .i64 b_Y_Hi], .agg [.int .i64 p_X, .int .i64 p_Y]] => some (.val (.bool (ref02_Holds_0 b_X_Lo b_X_Hi b_Y_Lo b_Y_Hi p_X p_Y)))
  | _ => Option.none
noncomputable def G39 : Con := G38.add 50 ref02_Holds_con
theorem ref02_Holds_at (b_X_Lo b_X_Hi b_Y_Lo b_Y_Hi p_X p_Y : Int) : ConAt Try.prog 50 [.agg [.int .i64 b_X_Lo, .int .i64 b_X_Hi, .int .i64 b_Y_Lo, .int .i64 b_Y_Hi], .agg [.int .i64 p_X, .int .i64 p_Y]] (.val (.bool (ref02_Holds_0 b_X_Lo b_X_Hi b_Y_Lo b_Y_Hi p_X p_Y))) := conAt_of G38_ok (ref02_Holds_col _ _ _ _ _ _) rfl rfl
theorem G39_ok : ConOk Try.prog G39 := con_add G38_ok fun args r h => by
  unfold ref02_Holds_con at h
  split at h
  · cases h; exact ref02_Holds_at _ _ _ _ _ _
  · cases h
theorem ref02_MeetBox_col (a_X_Lo a_X_Hi a_Y_Lo a_Y_Hi b_X_Lo b_X_Hi b_Y_Lo b_Y_Hi : Int) : collapse (execFn Try.prog G39 9 0 31 [.agg [.int .i64 a_X_Lo, .int .i64 a_X_Hi, .int .i64 a_Y_Lo, .int .i64 a_Y_Hi], .agg [.int .i64 b_X_Lo, .int .i64 b_X_Hi, .int .i64 b_Y_Lo, .int .i64 b_Y_Hi]] ⟨[], 0⟩) = some (.val (.tup [.agg [.int .i64 (ref02_MeetBox_0 a_X_Lo a_X_Hi a_Y_Lo a_Y_Hi b_X_Lo b_X_Hi b_Y_Lo b_Y_Hi), .int .i64 (ref02_MeetBox_1 a_X_Lo a_X_Hi a_Y_Lo a_Y_Hi b_X_Lo b_X_Hi b_Y_Lo b_Y_Hi), .int .i64 (ref02_MeetBox_2 a_X_Lo a_X_Hi a_Y_Lo a_Y_Hi b_X_Lo b_X_Hi b_Y_Lo b_Y_Hi), .int .i64 (ref02_MeetBox_3 a_X_Lo a_X_Hi a_Y_Lo a_Y_Hi b_X_Lo b_X_Hi b_Y_Lo b_Y_Hi)], .int .i64 (ref02_MeetBox_4 a_X_Lo a_X_Hi a_Y_Lo a_Y_Hi b_X_Lo b_X_Hi b_Y_Lo b_Y_Hi)])) := by kernel_rfl
def ref02_MeetBox_con : List AV → Option R
  | [.agg [.int .i64 a_X_Lo, .int .i64 a_X_Hi, .int .i64 a_Y_Lo, .int .i64 a_Y_Hi], .agg [.int .i64 b_X_Lo, .int .i64 b_X_Hi, .int .i64 b_Y_Lo, .int .i64 b_Y_Hi]] => some (.val (.tup [.agg [.int .i64 (ref02_MeetBox_0 a_X_Lo a_X_Hi a_Y_Lo a_Y_Hi b_X_Lo b_X_Hi b_Y_Lo b_Y_Hi), .int .i64 (ref02_MeetBox_1 a_X_Lo a_X_Hi a_Y_Lo a_Y_Hi b_X_Lo b_X_Hi b_Y_Lo b_Y_Hi), .int .i64 (ref02_MeetBox_2 a_X_Lo a_X_Hi a_Y_Lo a_Y_Hi b_X_Lo b_X_Hi b_Y_Lo b_Y_Hi), .int .i64 (ref02_MeetBox_3 a_X_Lo a_X_Hi a_Y_Lo a_Y_Hi b_X_Lo b_X_Hi b_Y_Lo b_Y_Hi)], .int .i64 (ref02_MeetBox_4 a_X_Lo a_X_Hi a_Y_Lo a_Y_Hi b_X_Lo b_X_Hi b_Y_Lo b_Y_Hi)]))
  | _ => Option.none
noncomputable def G40 : Con := G39.add 31 ref02_MeetBox_con
theorem ref02_MeetBox_at (a_X_Lo a_X_Hi a_Y_Lo a_Y_Hi b_X_Lo b_X_Hi b_Y_Lo b_Y_Hi : Int) : ConAt Try.prog 31 [.agg [.int .i64 a_X_Lo, .int .i64 a_X_Hi, .int .i64 a_Y_Lo, .int .i64 a_Y_Hi], .agg [.int .i64 b_X_Lo, .int .i64 b_X_Hi, .int .i64 b_Y_Lo, .int .i64 b_Y_Hi]] (.val (.tup [.agg [.int .i64 (ref02_MeetBox_0 a_X_Lo a_X_Hi a_Y_Lo a_Y_Hi b_X_Lo b_X_Hi b_Y_Lo b_Y_Hi), .int .i64 (ref02_MeetBox_1 a_X_Lo a_X_Hi a_Y_Lo a_Y_Hi b_X_Lo b_X_Hi b_Y_Lo b_Y_Hi), .int .i64 (ref02_MeetBox_2 a_X_Lo a_X_Hi a_Y_Lo a_Y_Hi b_X_Lo b_X_Hi b_Y_Lo b_Y_Hi), .int .i64 (ref02_MeetBox_3 a_X_Lo a_X_Hi a_Y_Lo a_Y_Hi b_X_Lo b_X_Hi b_Y_Lo b_Y_Hi)], .int .i64 (ref02_MeetBox_4 a_X_Lo a_X_Hi a_Y_Lo a_Y_Hi b_X_Lo b_X_Hi b_Y_Lo b_Y_Hi)])) := conAt_of G39_ok (ref02_MeetBox_col _ _ _ _ _ _ _ _) rfl rfl
theorem G40_ok : ConOk Try.prog G40 := con_add G39_ok fun args r h => by
  unfold ref02_MeetBox_con at h
  split at h
  · cases h; exact ref02_MeetBox_at _ _ _ _ _ _ _ _
  · cases h
theorem ref02_JoinBox_col (a_X_Lo a_X_Hi a_Y_Lo a_Y_Hi b_X_Lo b_X_Hi b_Y_Lo b_Y_Hi : Int) : collapse (execFn Try.prog G40 9 0 33 [.agg [.int .i64 a_X_Lo, .int .i64 a_X_Hi, .int .i64 a_Y_Lo, .int .i64 a_Y_Hi], .agg [.int .i64 b_X_Lo, .int .i64 b_X_Hi, .int .i64 b_Y_Lo, .int .i64 b_Y_Hi]] ⟨[], 0⟩) = some (.val (.tup [.agg [.int .i64 (ref02_JoinBox_0 a_X_Lo a_X_Hi a_Y_Lo a_Y_Hi b_X_Lo b_X_Hi b_Y_Lo b_Y_Hi), .int .i64 (ref02_JoinBox_1 a_X_Lo a_X_Hi a_Y_Lo a_Y_Hi b_X_Lo b_X_Hi b_Y_Lo b_Y_Hi), .int .i64 (ref02_JoinBox_2 a_X_Lo a_X_Hi a_Y_Lo a_Y_Hi b_X_Lo b_X_Hi b_Y_Lo b_Y_Hi), .int .i64 (ref02_JoinBox_3 a_X_Lo a_X_Hi a_Y_Lo a_Y_Hi b_X_Lo b_X_Hi b_Y_Lo b_Y_Hi)], .int .i64 (ref02_JoinBox_4 a_X_Lo a_X_Hi a_Y_Lo a_Y_Hi b_X_Lo b_X_Hi b_Y_Lo b_Y_Hi)])) := by kernel_rfl
def ref02_JoinBox_con : List AV → Option R
  | [.agg [.int .i64 a_X_Lo, .int .i64 a_X_Hi, .int .i64 a_Y_Lo, .int .i64 a_Y_Hi], .agg [.int .i64 b_X_Lo, .int .i64 b_X_Hi, .int .i64 b_Y_Lo, .int .i64 b_Y_Hi]] => some (.val (.tup [.agg [.int .i64 (ref02_JoinBox_0 a_X_Lo a_X_Hi a_Y_Lo a_Y_Hi b_X_Lo b_X_Hi b_Y_Lo b_Y_Hi), .int .i64 (ref02_JoinBox_1 a_X_Lo a_X_Hi a_Y_Lo a_Y_Hi b_X_Lo b_X_Hi b_Y_Lo b_Y_Hi), .int .i64 (ref02_JoinBox_2 a_X_Lo a_X_Hi a_Y_Lo a_Y_Hi b_X_Lo b_X_Hi b_Y_Lo b_Y_Hi), .int .i64 (ref02_JoinBox_3 a_X_Lo a_X_Hi a_Y_Lo a_Y_Hi b_X_Lo b_X_Hi b_Y_Lo b_Y_Hi)], .int .i64 (ref02_JoinBox_4 a_X_Lo a_X_Hi a_Y_Lo a_Y_Hi b_X_Lo b_X_Hi b_Y_Lo b_Y_Hi)]))
  | _ => Option.none
noncomputable def G41 : Con := G40.add 33 ref02_JoinBox_con
theorem ref02_JoinBox_at (a_X_Lo a_X_Hi a_Y_Lo a_Y_Hi b_X_Lo b_X_Hi b_Y_Lo b_Y_Hi : Int) : ConAt Try.prog 33 [.agg [.int .i64 a_X_Lo, .int .i64 a_X_Hi, .int .i64 a_Y_Lo, .int .i64 a_Y_Hi], .agg [.int .i64 b_X_Lo, .int .i64 b_X_Hi, .int .i64 b_Y_Lo, .int .i64 b_Y_Hi]] (.val (.tup [.agg [.int .i64 (ref02_JoinBox_0 a_X_Lo a_X_Hi a_Y_Lo a_Y_Hi b_X_Lo b_X_Hi b_Y_Lo b_Y_Hi), .int .i64 (ref02_JoinBox_1 a_X_Lo a_X_Hi a_Y_Lo a_Y_Hi b_X_Lo b_X_Hi b_Y_Lo b_Y_Hi), .int .i64 (ref02_JoinBox_2 a_X_Lo a_X_Hi a_Y_Lo a_Y_Hi b_X_Lo b_X_Hi b_Y_Lo b_Y_Hi), .int .i64 (ref02_JoinBox_3 a_X_Lo a_X_Hi a_Y_Lo a_Y_Hi b_X_Lo b_X_Hi b_Y_Lo b_Y_Hi)], .int .i64 (ref02_JoinBox_4 a_X_Lo a_X_Hi a_Y_Lo a_Y_Hi b_X_Lo b_X_Hi b_Y_Lo b_Y_Hi)])) := conAt_of G40_ok (ref02_JoinBox_col _ _ _ _ _ _ _ _) rfl rfl
theorem G41_ok : ConOk Try.prog G41 := con_add G40_ok fun args r h => by
  unfold ref02_JoinBox_con at h
  split at h
  · cases h; exact ref02_JoinBox_at _ _ _ _ _ _ _ _
  · cases h
theorem ref02_WithinBox_col (a_X_Lo a_X_Hi a_Y_Lo a_Y_Hi b_X_Lo b_X_Hi b_Y_Lo b_Y_Hi : Int) : collapse (execFn Try.prog G41 9 0 37 [.agg [.int .i64 a_X_Lo, .int .i64 a_X_Hi, .int .i64 a_Y_Lo, .int .i64 a_Y_Hi], .agg [.int .i64 b_X_Lo, .int .i64 b_X_Hi, .int .i64 b_Y_Lo, .int .i64 b_Y_Hi]] ⟨[], 0⟩) = some (.val (.tup [.bool (ref02_WithinBox_0 a_X_Lo a_X_Hi a_Y_Lo a_Y_Hi b_X_Lo b_X_Hi b_Y_Lo b_Y_Hi), .int .i64 (ref02_WithinBox_1 a_X_Lo a_X_Hi a_Y_Lo a_Y_Hi b_X_Lo b_X_Hi b_Y_Lo b_Y_Hi)])) := by kernel_rfl
def ref02_WithinBox_con : List AV → Option R
  | [.agg [.int .i64 a_X_Lo, .int .i64 a_X_Hi, .int .i64 a_Y_Lo, .int .i64 a_Y_Hi], .agg [.int .i64 b_X_Lo, .int .i64 b_X_Hi, .int .i64 b_Y_Lo, .int .i64 b_Y_Hi]] => some (.val (.tup [.bool (ref02_WithinBox_0 a_X_Lo a_X_Hi a_Y_Lo a_Y_Hi b_X_Lo b_X_Hi b_Y_Lo b_Y_Hi), .int .i64 (ref02_WithinBox_1 a_X_Lo a_X_Hi a_Y_Lo a_Y_Hi b_X_Lo b_X_Hi b_Y_Lo b_Y_Hi)]))
  | _ => Option.none
noncomputable def G42 : Con := G41.add 37 ref02_WithinBox_con
theorem ref02_WithinBox_at (a_X_Lo a_X_Hi a_Y_Lo a_Y_Hi b_X_Lo b_X_Hi b_Y_Lo b_Y_Hi : Int) : ConAt Try.prog 37 [.agg [.int .i64 a_X_Lo, .int .i64 a_X_Hi, .int .i64 a_Y_Lo, .int .i64 a_Y_Hi], .agg [.int .i64 b_X_Lo, .int .i64 b_X_Hi, .int .i64 b_Y_Lo, .int .i64 b_Y_Hi]] (.val (.tup [.bool (ref02_WithinBox_0 a_X_Lo a_X_Hi a_Y_Lo a_Y_Hi b_X_Lo b_X_Hi b_Y_Lo b_Y_Hi), .int .i64 (ref02_WithinBox_1 a_X_Lo a_X_Hi a_Y_Lo a_Y_Hi b_X_Lo b_X_Hi b_Y_Lo b_Y_Hi)])) := conAt_of G41_ok (ref02_WithinBox_col _ _ _ _ _ _ _ _) rfl rfl
theorem G42_ok : ConOk Try.prog G42 := con_add G41_ok fun args r h => by
  unfold ref02_WithinBox_con at h
  split at h
  · cases h; exact ref02_WithinBox_at _ _ _ _ _ _ _ _
  · cases h
theorem ref02_InBox_col (p_X p_Y b_X_Lo b_X_Hi b_Y_Lo b_Y_Hi : Int) : collapse (execFn Try.prog G42 9 0 35 [.agg [.int .i64 p_X, .int .i64 p_Y], .agg [.int .i64 b_X_Lo, .int .i64 b_X_Hi, .int .i64 b_Y_Lo, .int .i64 b_Y_Hi]] ⟨[], 0⟩) = some (.val (.tup [.bool (ref02_InBox_0 p_X p_Y b_X_Lo b_X_Hi b_Y_Lo b_Y_Hi), .int .i64 (ref02_InBox_1 p_X p_Y b_X_Lo b_X_Hi b_Y_Lo b_Y_Hi)])) := by kernel_rfl
def ref02_InBox_con : List AV → Option R
  | [.agg [.int .i64 p_X, .int .i64 p_Y], .agg [.int .i64 b_X_Lo, .int .i64 b_X_Hi, .int .i64 b_Y_Lo, .int .i64 b_Y_Hi]] => some (.val (.tup [.bool (ref02_InBox_0 p_X p_Y b_X_Lo b_X_Hi b_Y_Lo b_Y_Hi), .int .i64 (ref02_InBox_1 p_X p_Y b_X_Lo b_X_Hi b_Y_Lo b_Y_Hi)]))
  | _ => Option.none
noncomputable def G43 : Con := G42.add 35 ref02_InBox_con
theorem ref02_InBox_at (p_X p_Y b_X_Lo b_X_Hi b_Y_Lo b_Y_Hi : Int) : ConAt Try.prog 35 [.agg [.int .i64 p_X, .int .i64 p_Y], .agg [.int .i64 b_X_Lo, .int .i64 b_X_Hi, .int .i64 b_Y_Lo, .int .i64 b_Y_Hi]] (.val (.tup [.bool (ref02_InBox_0 p_X p_Y b_X_Lo b_X_Hi b_Y_Lo b_Y_Hi), .int .i64 (ref02_InBox_1 p_X p_Y b_X_Lo b_X_Hi b_Y_Lo b_Y_Hi)])) := conAt_of G42_ok (ref02_InBox_col _ _ _ _ _ _) rfl rfl
theorem G43_ok : ConOk Try.prog G43 := con_add G42_ok fun args r h => by
  unfold ref02_InBox_con at h
  split at h
  · cases h; exact ref02_InBox_at _ _ _ _ _ _
  · cases h
theorem ref02_GrowBox_col (b_X_Lo b_X_Hi b_Y_Lo b_Y_Hi n : Int) : collapse (execFn Try.prog G43 9 0 34 [.agg [.int .i64 b_X_Lo, .int .i64 b_X_Hi, .int .i64 b_Y_Lo, .int .i64 b_Y_Hi], .int .i64 n] ⟨[], 0⟩) = some (.val (.tup [.agg [.int .i64 (ref02_GrowBox_0 b_X_Lo b_X_Hi b_Y_Lo b_Y_Hi n), .int .i64 (ref02_GrowBox_1 b_X_Lo b_X_Hi b_Y_Lo b_Y_Hi n), .int .i64 (ref02_GrowBox_2 b_X_Lo b_X_Hi b_Y_Lo b_Y_Hi n), .int .i64 (ref02_GrowBox_3 b_X_Lo b_X_Hi b_Y_Lo b_Y_Hi n)], .int .i64 (ref02_GrowBox_4 b_X_Lo b_X_Hi b_Y_Lo b_Y_Hi n)])) := by kernel_rfl
def ref02_GrowBox_con : List AV → Option R
  | [.agg [.int .i64 b_X_Lo, .int .i64 b_X_Hi, .int .i64 b_Y_Lo, .int .i64 b_Y_Hi], .int .i64 n] => some (.val (.tup [.agg [.int .i64 (ref02_GrowBox_0 b_X_Lo b_X_Hi b_Y_Lo b_Y_Hi n), .int .i64 (ref02_GrowBox_1 b_X_Lo b_X_Hi b_Y_Lo b_Y_Hi n), .int .i64 (ref02_GrowBox_2 b_X_Lo b_X_Hi b_Y_Lo b_Y_Hi n), .int .i64 (ref02_GrowBox_3 b_X_Lo b_X_Hi b_Y_Lo b_Y_Hi n)], .int .i64 (ref02_GrowBox_4 b_X_Lo b_X_Hi b_Y_Lo b_Y_Hi n)]))
  | _ => Option.none
noncomputable def G44 : Con := G43.add 34 ref02_GrowBox_con
theorem ref02_GrowBox_at (b_X_Lo b_X_Hi b_Y_Lo b_Y_Hi n : Int) : ConAt Try.prog 34 [.agg [.int .i64 b_X_Lo, .int .i64 b_X_Hi, .int .i64 b_Y_Lo, .int .i64 b_Y_Hi], .int .i64 n] (.val (.tup [.agg [.int .i64 (ref02_GrowBox_0 b_X_Lo b_X_Hi b_Y_Lo b_Y_Hi n), .int .i64 (ref02_GrowBox_1 b_X_Lo b_X_Hi b_Y_Lo b_Y_Hi n), .int .i64 (ref02_GrowBox_2 b_X_Lo b_X_Hi b_Y_Lo b_Y_Hi n), .int .i64 (ref02_GrowBox_3 b_X_Lo b_X_Hi b_Y_Lo b_Y_Hi n)], .int .i64 (ref02_GrowBox_4 b_X_Lo b_X_Hi b_Y_Lo b_Y_Hi n)])) := conAt_of G43_ok (ref02_GrowBox_col _ _ _ _ _) rfl rfl
theorem G44_ok : ConOk Try.prog G44 := con_add G43_ok fun args r h => by
  unfold ref02_GrowBox_con at h
  split at h
  · cases h; exact ref02_GrowBox_at _ _ _ _ _
  · cases h
theorem law02_SpanMatchesReference_col (s_Lo s_Hi t_Lo t_Hi num den a_X_Lo a_X_Hi a_Y_Lo a_Y_Hi b_X_Lo b_X_Hi b_Y_Lo b_Y_Hi n p_X p_Y : Int) : collapse (execFn Try.prog G44 9 0 9 [.agg [.int .i64 s_Lo, .int .i64 s_Hi], .agg [.int .i64 t_Lo, .int .i64 t_Hi], .int .i64 num, .int .i64 den, .agg [.int .i64 a_X_Lo, .int .i64 a_X_Hi, .int .i64 a_Y_Lo, .int .i64 a_Y_Hi], .agg [.int .i64 b_X_Lo, .int .i64 b_X_Hi, .int .i64 b_Y_Lo, .int .i64 b_Y_Hi], .int .i64 n, .agg [.int .i64 p_X, .int .i64 p_Y]] ⟨[], 0⟩) = some (.val (.bool (law02_SpanMatchesReference_0 s_Lo s_Hi t_Lo t_Hi num den a_X_Lo a_X_Hi a_Y_Lo a_Y_Hi b_X_Lo b_X_Hi b_Y_Lo b_Y_Hi n p_X p_Y))) := by kernel_rfl
def law02_SpanMatchesReference_con : List AV → Option R
  | [.agg [.int .i64 s_Lo, .int .i64 s_Hi], .agg [.int .i64 t_Lo, .int .i64 t_Hi], .int .i64 num, .int .i64 den, .agg [.int .i64 a_X_Lo, .int .i64 a_X_Hi, .int .i64 a_Y_Lo, .int .i64 a_Y_Hi], .agg [.int .i64 b_X_Lo, .int .i64 b_X_Hi, .int .i64 b_Y_Lo, .int .i64 b_Y_Hi], .int .i64 n, .agg [.int .i64 p_X, .int .i64 p_Y]] => some (.val (.bool (law02_SpanMatchesReference_0 s_Lo s_Hi t_Lo t_Hi num den a_X_Lo a_X_Hi a_Y_Lo a_Y_Hi b_X_Lo b_X_Hi b_Y_Lo b_Y_Hi n p_X p_Y)))
  | _ => Option.none
noncomputable def G45 : Con := G44.add 9 law02_SpanMatchesReference_con
theorem law02_SpanMatchesReference_at (s_Lo s_Hi t_Lo t_Hi num den a_X_Lo a_X_Hi a_Y_Lo a_Y_Hi b_X_Lo b_X_Hi b_Y_Lo b_Y_Hi n p_X p_Y : Int) : ConAt Try.prog 9 [.agg [.int .i64 s_Lo, .int .i64 s_Hi], .agg [.int .i64 t_Lo, .int .i64 t_Hi], .int .i64 num, .int .i64 den, .agg [.int .i64 a_X_Lo, .int .i64 a_X_Hi, .int .i64 a_Y_Lo, .int .i64 a_Y_Hi], .agg [.int .i64 b_X_Lo, .int .i64 b_X_Hi, .int .i64 b_Y_Lo, .int .i64 b_Y_Hi], .int .i64 n, .agg [.int .i64 p_X, .int .i64 p_Y]] (.val (.bool (law02_SpanMatchesReference_0 s_Lo s_Hi t_Lo t_Hi num den a_X_Lo a_X_Hi a_Y_Lo a_Y_Hi b_X_Lo b_X_Hi b_Y_Lo b_Y_Hi n p_X p_Y))) := conAt_of G44_ok (law02_SpanMatchesReference_col _ _ _ _ _ _ _ _ _ _ _ _ _ _ _ _ _) rfl rfl
theorem G45_ok : ConOk Try.prog G45 := con_add G44_ok fun args r h => by
  unfold law02_SpanMatchesReference_con at h
  split at h
  · cases h; exact law02_SpanMatchesReference_at _ _ _ _ _ _ _ _ _ _ _ _ _ _ _ _ _
  · cases h
end Go.Proofs.Ytmpmkeiepfknoaa
