/- Written by program (wip/gen.py): the contracts of the Go functions. -/
import Derived.Test.YtbopeaebdlmapaaRows
import Derived.Test.YtbopeaebdlmapaaSxN
import Derived.Test.YtbopeaebdlmapaaRef04
import Derived.Test.YtbopeaebdlmapaaDatumV
import Derived.Test.YtbopeaebdlmapaaDatumBD
set_option maxRecDepth 100000
set_option linter.unusedVariables false
namespace Go.Proofs.Ytbopeaebdlmapaa
open Go Go.Sx
theorem datum_Back_col (m_A m_B m_C m_D m_E m_F m_Residue b_X_Lo b_X_Hi b_Y_Lo b_Y_Hi : Int) : collapseW (execFn Try.prog G40 9 0 20 [.agg [.int .i64 m_A, .int .i64 m_B, .int .i64 m_C, .int .i64 m_D, .int .i64 m_E, .int .i64 m_F, .int .i64 m_Residue], .agg [.int .i64 b_X_Lo, .int .i64 b_X_Hi, .int .i64 b_Y_Lo, .int .i64 b_Y_Hi]] ⟨[], 0⟩) = some (.chk (datum_Back_pre m_A m_B m_C m_D m_E m_F m_Residue b_X_Lo b_X_Hi b_Y_Lo b_Y_Hi) (.tup [.agg [.int .i64 (datum_Back_0 m_A m_B m_C m_D m_E m_F m_Residue b_X_Lo b_X_Hi b_Y_Lo b_Y_Hi), .int .i64 (datum_Back_1 m_A m_B m_C m_D m_E m_F m_Residue b_X_Lo b_X_Hi b_Y_Lo b_Y_Hi), .int .i64 (datum_Back_2 m_A m_B m_C m_D m_E m_F m_Residue b_X_Lo b_X_Hi b_Y_Lo b_Y_Hi), .int .i64 (datum_Back_3 m_A m_B m_C m_D m_E m_F m_Residue b_X_Lo b_X_Hi b_Y_Lo b_Y_Hi)], .int .i64 (datum_Back_4 m_A m_B m_C m_D m_E m_F m_Residue b_X_Lo b_X_Hi b_Y_Lo b_Y_Hi)])) := by kernel_rfl
def datum_Back_con : List AV → Option R
  | [.agg [.int .i64 m_A, .int .i64 m_B, .int .i64 m_C, .int .i64 m_D, .int .i64 m_E, .int .i64 m_F, .int .i64 m_Residue], .agg [.int .i64 b_X_Lo, .int .i64 b_X_Hi, .int .i64 b_Y_Lo, .int .i64 b_Y_Hi]] => some (.val (.tup [.agg [.int .i64 (datum_Back_0 m_A m_B m_C m_D m_E m_F m_Residue b_X_Lo b_X_Hi b_Y_Lo b_Y_Hi), .int .i64 (datum_Back_1 m_A m_B m_C m_D m_E m_F m_Residue b_X_Lo b_X_Hi b_Y_Lo b_Y_Hi), .int .i64 (datum_Back_2 m_A m_B m_C m_D m_E m_F m_Residue b_X_Lo b_X_Hi b_Y_Lo b_Y_Hi), .int .i64 (datum_Back_3 m_A m_B m_C m_D m_E m_F m_Residue b_X_Lo b_X_Hi b_Y_Lo b_Y_Hi)], .int .i64 (datum_Back_4 m_A m_B m_C m_D m_E m_F m_Residue b_X_Lo b_X_Hi b_Y_Lo b_Y_Hi)]))
  | _ => Option.none
noncomputable def G41 : Con := G40.add 20 datum_Back_con
theorem datum_Back_at (m_A m_B m_C m_D m_E m_F m_Residue b_X_Lo b_X_Hi b_Y_Lo b_Y_Hi : Int) : ConAt Try.prog 20 [.agg [.int .i64 m_A, .int .i64 m_B, .int .i64 m_C, .int .i64 m_D, .int .i64 m_E, .int .i64 m_F, .int .i64 m_Residue], .agg [.int .i64 b_X_Lo, .int .i64 b_X_Hi, .int .i64 b_Y_Lo, .int .i64 b_Y_Hi]] (.val (.tup [.agg [.int .i64 (datum_Back_0 m_A m_B m_C m_D m_E m_F m_Residue b_X_Lo b_X_Hi b_Y_Lo b_Y_Hi), .int .i64 (datum_Back_1 m_A m_B m_C m_D m_E m_F m_Residue b_X_Lo b_X_Hi b_Y_Lo b_Y_Hi), .int .i64 (datum_Back_2 m_A m_B m_C m_D m_E m_F m_Residue b_X_Lo b_X_Hi b_Y_Lo b_Y_Hi), .int .i64 (datum_Back_3 m_A m_B m_C m_D m_E m_F m_Residue b_X_Lo b_X_Hi b_Y_Lo b_Y_Hi)], .int .i64 (datum_Back_4 m_A m_B m_C m_D m_E m_F m_Residue b_X_Lo b_X_Hi b_Y_Lo b_Y_Hi)])) := conAt_val (conAt_of G40_ok (datum_Back_col _ _ _ _ _ _ _ _ _ _ _) rfl rfl) (datum_Back_pre_ok _ _ _ _ _ _ _ _ _ _ _)
theorem G41_ok : ConOk Try.prog G41 := con_add G40_ok fun args r h => by
  unfold datum_Back_con at h
  split at h
  · cases h; exact datum_Back_at _ _ _ _ _ _ _ _ _ _ _
  · cases h
theorem datum_Then_col (m_A m_B m_C m_D m_E m_F m_Residue n_A n_B n_C n_D n_E n_F n_Residue : Int) : collapseW (execFn Try.prog G41 9 0 22 [.agg [.int .i64 m_A, .int .i64 m_B, .int .i64 m_C, .int .i64 m_D, .int .i64 m_E, .int .i64 m_F, .int .i64 m_Residue], .agg [.int .i64 n_A, .int .i64 n_B, .int .i64 n_C, .int .i64 n_D, .int .i64 n_E, .int .i64 n_F, .int .i64 n_Residue]] ⟨[], 0⟩) = some (.val (.tup [.agg [.int .i64 (datum_Then_0 m_A m_B m_C m_D m_E m_F m_Residue n_A n_B n_C n_D n_E n_F n_Residue), .int .i64 (datum_Then_1 m_A m_B m_C m_D m_E m_F m_Residue n_A n_B n_C n_D n_E n_F n_Residue), .int .i64 (datum_Then_2 m_A m_B m_C m_D m_E m_F m_Residue n_A n_B n_C n_D n_E n_F n_Residue), .int .i64 (datum_Then_3 m_A m_B m_C m_D m_E m_F m_Residue n_A n_B n_C n_D n_E n_F n_Residue), .int .i64 (datum_Then_4 m_A m_B m_C m_D m_E m_F m_Residue n_A n_B n_C n_D n_E n_F n_Residue), .int .i64 (datum_Then_5 m_A m_B m_C m_D m_E m_F m_Residue n_A n_B n_C n_D n_E n_F n_Residue), .int .i64 (datum_Then_6 m_A m_B m_C m_D m_E m_F m_Residue n_A n_B n_C n_D n_E n_F n_Residue)], .int .i64 (datum_Then_7 m_A m_B m_C m_D m_E m_F m_Residue n_A n_B n_C n_D n_E n_F n_Residue)])) := by kernel_rfl
def datum_Then_con : List AV → Option R
  | [.agg [.int .i64 m_A, .int .i64 m_B, .int .i64 m_C, .int .i64 m_D, .int .i64 m_E, .int .i64 m_F, .int .i64 m_Residue], .agg [.int .i64 n_A, .int .i64 n_B, .int .i64 n_C, .int .i64 n_D, .int .i64 n_E, .int .i64 n_F, .int .i64 n_Residue]] => some (.val (.tup [.agg [.int .i64 (datum_Then_0 m_A m_B m_C m_D m_E m_F m_Residue n_A n_B n_C n_D n_E n_F n_Residue), .int .i64 (datum_Then_1 m_A m_B m_C m_D m_E m_F m_Residue n_A n_B n_C n_D n_E n_F n_Residue), .int .i64 (datum_Then_2 m_A m_B m_C m_D m_E m_F m_Residue n_A n_B n_C n_D n_E n_F n_Residue), .int .i64 (datum_Then_3 m_A m_B m_C m_D m_E m_F m_Residue n_A n_B n_C n_D n_E n_F n_Residue), .int .i64 (datum_Then_4 m_A m_B m_C m_D m_E m_F m_Residue n_A n_B n_C n_D n_E n_F n_Residue), .int .i64 (datum_Then_5 m_A m_B m_C m_D m_E m_F m_Residue n_A n_B n_C n_D n_E n_F n_Residue), .int .i64 (datum_Then_6 m_A m_B m_C m_D m_E m_F m_Residue n_A n_B n_C n_D n_E n_F n_Residue)], .int .i64 (datum_Then_7 m_A m_B m_C m_D m_E m_F m_Residue n_A n_B n_C n_D n_E n_F n_Residue)]))
  | _ => Option.none
noncomputable def G42 : Con := G41.add 22 datum_Then_con
theorem datum_Then_at (m_A m_B m_C m_D m_E m_F m_Residue n_A n_B n_C n_D n_E n_F n_Residue : Int) : ConAt Try.prog 22 [.agg [.int .i64 m_A, .int .i64 m_B, .int .i64 m_C, .int .i64 m_D, .int .i64 m_E, .int .i64 m_F, .int .i64 m_Residue], .agg [.int .i64 n_A, .int .i64 n_B, .int .i64 n_C, .int .i64 n_D, .int .i64 n_E, .int .i64 n_F, .int .i64 n_Residue]] (.val (.tup [.agg [.int .i64 (datum_Then_0 m_A m_B m_C m_D m_E m_F m_Residue n_A n_B n_C n_D n_E n_F n_Residue), .int .i64 (datum_Then_1 m_A m_B m_C m_D m_E m_F m_Residue n_A n_B n_C n_D n_E n_F n_Residue), .int .i64 (datum_Then_2 m_A m_B m_C m_D m_E m_F m_Residue n_A n_B n_C n_D n_E n_F n_Residue), .int .i64 (datum_Then_3 m_A m_B m_C m_D m_E m_F m_Residue n_A n_B n_C n_D n_E n_F n_Residue), .int .i64 (datum_Then_4 m_A m_B m_C m_D m_E m_F m_Residue n_A n_B n_C n_D n_E n_F n_Residue), .int .i64 (datum_Then_5 m_A m_B m_C m_D m_E m_F m_Residue n_A n_B n_C n_D n_E n_F n_Residue), .int .i64 (datum_Then_6 m_A m_B m_C m_D m_E m_F m_Residue n_A n_B n_C n_D n_E n_F n_Residue)], .int .i64 (datum_Then_7 m_A m_B m_C m_D m_E m_F m_Residue n_A n_B n_C n_D n_E n_F n_Residue)])) := conAt_of G41_ok (datum_Then_col _ _ _ _ _ _ _ _ _ _ _ _ _ _) rfl rfl
theorem G42_ok : ConOk Try.prog G42 := con_add G41_ok fun args r h => by
  unfold datum_Then_con at h
  split at h
  · cases h; exact datum_Then_at _ _ _ _ _ _ _ _ _ _ _ _ _ _
  · cases h
theorem datum_Undo_col (m_A m_B m_C m_D m_E m_F m_Residue : Int) : collapseW (execFn Try.prog G42 9 0 24 [.agg [.int .i64 m_A, .int .i64 m_B, .int .i64 m_C, .int .i64 m_D, .int .i64 m_E, .int .i64 m_F, .int .i64 m_Residue]] ⟨[], 0⟩) = some (.chk (datum_Undo_pre m_A m_B m_C m_D m_E m_F m_Residue) (.tup [.agg [.int .i64 (datum_Undo_0 m_A m_B m_C m_D m_E m_F m_Residue), .int .i64 (datum_Undo_1 m_A m_B m_C m_D m_E m_F m_Residue), .int .i64 (datum_Undo_2 m_A m_B m_C m_D m_E m_F m_Residue), .int .i64 (datum_Undo_3 m_A m_B m_C m_D m_E m_F m_Residue), .int .i64 (datum_Undo_4 m_A m_B m_C m_D m_E m_F m_Residue), .int .i64 (datum_Undo_5 m_A m_B m_C m_D m_E m_F m_Residue), .int .i64 (datum_Undo_6 m_A m_B m_C m_D m_E m_F m_Residue)], .int .i64 (datum_Undo_7 m_A m_B m_C m_D m_E m_F m_Residue)])) := by kernel_rfl
def datum_Undo_con : List AV → Option R
  | [.agg [.int .i64 m_A, .int .i64 m_B, .int .i64 m_C, .int .i64 m_D, .int .i64 m_E, .int .i64 m_F, .int .i64 m_Residue]] => some (.val (.tup [.agg [.int .i64 (datum_Undo_0 m_A m_B m_C m_D m_E m_F m_Residue), .int .i64 (datum_Undo_1 m_A m_B m_C m_D m_E m_F m_Residue), .int .i64 (datum_Undo_2 m_A m_B m_C m_D m_E m_F m_Residue), .int .i64 (datum_Undo_3 m_A m_B m_C m_D m_E m_F m_Residue), .int .i64 (datum_Undo_4 m_A m_B m_C m_D m_E m_F m_Residue), .int .i64 (datum_Undo_5 m_A m_B m_C m_D m_E m_F m_Residue), .int .i64 (datum_Undo_6 m_A m_B m_C m_D m_E m_F m_Residue)], .int .i64 (datum_Undo_7 m_A m_B m_C m_D m_E m_F m_Residue)]))
  | _ => Option.none
noncomputable def G43 : Con := G42.add 24 datum_Undo_con
theorem datum_Undo_at (m_A m_B m_C m_D m_E m_F m_Residue : Int) : ConAt Try.prog 24 [.agg [.int .i64 m_A, .int .i64 m_B, .int .i64 m_C, .int .i64 m_D, .int .i64 m_E, .int .i64 m_F, .int .i64 m_Residue]] (.val (.tup [.agg [.int .i64 (datum_Undo_0 m_A m_B m_C m_D m_E m_F m_Residue), .int .i64 (datum_Undo_1 m_A m_B m_C m_D m_E m_F m_Residue), .int .i64 (datum_Undo_2 m_A m_B m_C m_D m_E m_F m_Residue), .int .i64 (datum_Undo_3 m_A m_B m_C m_D m_E m_F m_Residue), .int .i64 (datum_Undo_4 m_A m_B m_C m_D m_E m_F m_Residue), .int .i64 (datum_Undo_5 m_A m_B m_C m_D m_E m_F m_Residue), .int .i64 (datum_Undo_6 m_A m_B m_C m_D m_E m_F m_Residue)], .int .i64 (datum_Undo_7 m_A m_B m_C m_D m_E m_F m_Residue)])) := conAt_val (conAt_of G42_ok (datum_Undo_col _ _ _ _ _ _ _) rfl rfl) (datum_Undo_pre_ok _ _ _ _ _ _ _)
theorem G43_ok : ConOk Try.prog G43 := con_add G42_ok fun args r h => by
  unfold datum_Undo_con at h
  split at h
  · cases h; exact datum_Undo_at _ _ _ _ _ _ _
  · cases h
theorem ref04_Back_col (m_A m_B m_C m_D m_E m_F m_Residue b_X_Lo b_X_Hi b_Y_Lo b_Y_Hi : Int) : collapseW (execFn Try.prog G43 9 0 21 [.agg [.int .i64 m_A, .int .i64 m_B, .int .i64 m_C, .int .i64 m_D, .int .i64 m_E, .int .i64 m_F, .int .i64 m_Residue], .agg [.int .i64 b_X_Lo, .int .i64 b_X_Hi, .int .i64 b_Y_Lo, .int .i64 b_Y_Hi]] ⟨[], 0⟩) = some (.chk (ref04_Back_pre m_A m_B m_C m_D m_E m_F m_Residue b_X_Lo b_X_Hi b_Y_Lo b_Y_Hi) (.tup [.agg [.int .i64 (ref04_Back_0 m_A m_B m_C m_D m_E m_F m_Residue b_X_Lo b_X_Hi b_Y_Lo b_Y_Hi), .int .i64 (ref04_Back_1 m_A m_B m_C m_D m_E m_F m_Residue b_X_Lo b_X_Hi b_Y_Lo b_Y_Hi), .int .i64 (ref04_Back_2 m_A m_B m_C m_D m_E m_F m_Residue b_X_Lo b_X_Hi b_Y_Lo b_Y_Hi), .int .i64 (ref04_Back_3 m_A m_B m_C m_D m_E m_F m_Residue b_X_Lo b_X_Hi b_Y_Lo b_Y_Hi)], .int .i64 (ref04_Back_4 m_A m_B m_C m_D m_E m_F m_Residue b_X_Lo b_X_Hi b_Y_Lo b_Y_Hi)])) := by kernel_rfl
def ref04_Back_con : List AV → Option R
  | [.agg [.int .i64 m_A, .int .i64 m_B, .int .i64 m_C, .int .i64 m_D, .int .i64 m_E, .int .i64 m_F, .int .i64 m_Residue], .agg [.int .i64 b_X_Lo, .int .i64 b_X_Hi, .int .i64 b_Y_Lo, .int .i64 b_Y_Hi]] => some (.val (.tup [.agg [.int .i64 (ref04_Back_0 m_A m_B m_C m_D m_E m_F m_Residue b_X_Lo b_X_Hi b_Y_Lo b_Y_Hi), .int .i64 (ref04_Back_1 m_A m_B m_C m_D m_E m_F m_Residue b_X_Lo b_X_Hi b_Y_Lo b_Y_Hi), .int .i64 (ref04_Back_2 m_A m_B m_C m_D m_E m_F m_Residue b_X_Lo b_X_Hi b_Y_Lo b_Y_Hi), .int .i64 (ref04_Back_3 m_A m_B m_C m_D m_E m_F m_Residue b_X_Lo b_X_Hi b_Y_Lo b_Y_Hi)], .int .i64 (ref04_Back_4 m_A m_B m_C m_D m_E m_F m_Residue b_X_Lo b_X_Hi b_Y_Lo b_Y_Hi)]))
  | _ => Option.none
noncomputable def G44 : Con := G43.add 21 ref04_Back_con
theorem ref04_Back_at (m_A m_B m_C m_D m_E m_F m_Residue b_X_Lo b_X_Hi b_Y_Lo b_Y_Hi : Int) : ConAt Try.prog 21 [.agg [.int .i64 m_A, .int .i64 m_B, .int .i64 m_C, .int .i64 m_D, .int .i64 m_E, .int .i64 m_F, .int .i64 m_Residue], .agg [.int .i64 b_X_Lo, .int .i64 b_X_Hi, .int .i64 b_Y_Lo, .int .i64 b_Y_Hi]] (.val (.tup [.agg [.int .i64 (ref04_Back_0 m_A m_B m_C m_D m_E m_F m_Residue b_X_Lo b_X_Hi b_Y_Lo b_Y_Hi), .int .i64 (ref04_Back_1 m_A m_B m_C m_D m_E m_F m_Residue b_X_Lo b_X_Hi b_Y_Lo b_Y_Hi), .int .i64 (ref04_Back_2 m_A m_B m_C m_D m_E m_F m_Residue b_X_Lo b_X_Hi b_Y_Lo b_Y_Hi), .int .i64 (ref04_Back_3 m_A m_B m_C m_D m_E m_F m_Residue b_X_Lo b_X_Hi b_Y_Lo b_Y_Hi)], .int .i64 (ref04_Back_4 m_A m_B m_C m_D m_E m_F m_Residue b_X_Lo b_X_Hi b_Y_Lo b_Y_Hi)])) := conAt_val (conAt_of G43_ok (ref04_Back_col _ _ _ _ _ _ _ _ _ _ _) rfl rfl) (ref04_Back_pre_ok _ _ _ _ _ _ _ _ _ _ _)
theorem G44_ok : ConOk Try.prog G44 := con_add G43_ok fun args r h => by
  unfold ref04_Back_con at h
  split at h
  · cases h; exact ref04_Back_at _ _ _ _ _ _ _ _ _ _ _
  · cases h
theorem ref04_Then_col (m_A m_B m_C m_D m_E m_F m_Residue n_A n_B n_C n_D n_E n_F n_Residue : Int) : collapseW (execFn Try.prog G44 9 0 23 [.agg [.int .i64 m_A, .int .i64 m_B, .int .i64 m_C, .int .i64 m_D, .int .i64 m_E, .int .i64 m_F, .int .i64 m_Residue], .agg [.int .i64 n_A, .int .i64 n_B, .int .i64 n_C, .int .i64 n_D, .int .i64 n_E, .int .i64 n_F, .int .i64 n_Residue]] ⟨[], 0⟩) = some (.chk (ref04_Then_pre m_A m_B m_C m_D m_E m_F m_Residue n_A n_B n_C n_D n_E n_F n_Residue) (.tup [.agg [.int .i64 (ref04_Then_0 m_A m_B m_C m_D m_E m_F m_Residue n_A n_B n_C n_D n_E n_F n_Residue), .int .i64 (ref04_Then_1 m_A m_B m_C m_D m_E m_F m_Residue n_A n_B n_C n_D n_E n_F n_Residue), .int .i64 (ref04_Then_2 m_A m_B m_C m_D m_E m_F m_Residue n_A n_B n_C n_D n_E n_F n_Residue), .int .i64 (ref04_Then_3 m_A m_B m_C m_D m_E m_F m_Residue n_A n_B n_C n_D n_E n_F n_Residue), .int .i64 (ref04_Then_4 m_A m_B m_C m_D m_E m_F m_Residue n_A n_B n_C n_D n_E n_F n_Residue), .int .i64 (ref04_Then_5 m_A m_B m_C m_D m_E m_F m_Residue n_A n_B n_C n_D n_E n_F n_Residue), .int .i64 (ref04_Then_6 m_A m_B m_C m_D m_E m_F m_Residue n_A n_B n_C n_D n_E n_F n_Residue)], .int .i64 (ref04_Then_7 m_A m_B m_C m_D m_E m_F m_Residue n_A n_B n_C n_D n_E n_F n_Residue)])) := by kernel_rfl
def ref04_Then_con : List AV → Option R
  | [.agg [.int .i64 m_A, .int .i64 m_B, .int .i64 m_C, .int .i64 m_D, .int .i64 m_E, .int .i64 m_F, .int .i64 m_Residue], .agg [.int .i64 n_A, .int .i64 n_B, .int .i64 n_C, .int .i64 n_D, .int .i64 n_E, .int .i64 n_F, .int .i64 n_Residue]] => some (.val (.tup [.agg [.int .i64 (ref04_Then_0 m_A m_B m_C m_D m_E m_F m_Residue n_A n_B n_C n_D n_E n_F n_Residue), .int .i64 (ref04_Then_1 m_A m_B m_C m_D m_E m_F m_Residue n_A n_B n_C n_D n_E n_F n_Residue), .int .i64 (ref04_Then_2 m_A m_B m_C m_D m_E m_F m_Residue n_A n_B n_C n_D n_E n_F n_Residue), .int .i64 (ref04_Then_3 m_A m_B m_C m_D m_E m_F m_Residue n_A n_B n_C n_D n_E n_F n_Residue), .int .i64 (ref04_Then_4 m_A m_B m_C m_D m_E m_F m_Residue n_A n_B n_C n_D n_E n_F n_Residue), .int .i64 (ref04_Then_5 m_A m_B m_C m_D m_E m_F m_Residue n_A n_B n_C n_D n_E n_F n_Residue), .int .i64 (ref04_Then_6 m_A m_B m_C m_D m_E m_F m_Residue n_A n_B n_C n_D n_E n_F n_Residue)], .int .i64 (ref04_Then_7 m_A m_B m_C m_D m_E m_F m_Residue n_A n_B n_C n_D n_E n_F n_Residue)]))
  | _ => Option.none
noncomputable def G45 : Con := G44.add 23 ref04_Then_con
theorem ref04_Then_at (m_A m_B m_C m_D m_E m_F m_Residue n_A n_B n_C n_D n_E n_F n_Residue : Int) : ConAt Try.prog 23 [.agg [.int .i64 m_A, .int .i64 m_B, .int .i64 m_C, .int .i64 m_D, .int .i64 m_E, .int .i64 m_F, .int .i64 m_Residue], .agg [.int .i64 n_A, .int .i64 n_B, .int .i64 n_C, .int .i64 n_D, .int .i64 n_E, .int .i64 n_F, .int .i64 n_Residue]] (.val (.tup [.agg [.int .i64 (ref04_Then_0 m_A m_B m_C m_D m_E m_F m_Residue n_A n_B n_C n_D n_E n_F n_Residue), .int .i64 (ref04_Then_1 m_A m_B m_C m_D m_E m_F m_Residue n_A n_B n_C n_D n_E n_F n_Residue), .int .i64 (ref04_Then_2 m_A m_B m_C m_D m_E m_F m_Residue n_A n_B n_C n_D n_E n_F n_Residue), .int .i64 (ref04_Then_3 m_A m_B m_C m_D m_E m_F m_Residue n_A n_B n_C n_D n_E n_F n_Residue), .int .i64 (ref04_Then_4 m_A m_B m_C m_D m_E m_F m_Residue n_A n_B n_C n_D n_E n_F n_Residue), .int .i64 (ref04_Then_5 m_A m_B m_C m_D m_E m_F m_Residue n_A n_B n_C n_D n_E n_F n_Residue), .int .i64 (ref04_Then_6 m_A m_B m_C m_D m_E m_F m_Residue n_A n_B n_C n_D n_E n_F n_Residue)], .int .i64 (ref04_Then_7 m_A m_B m_C m_D m_E m_F m_Residue n_A n_B n_C n_D n_E n_F n_Residue)])) := conAt_val (conAt_of G44_ok (ref04_Then_col _ _ _ _ _ _ _ _ _ _ _ _ _ _) rfl rfl) (ref04_Then_pre_ok _ _ _ _ _ _ _ _ _ _ _ _ _ _)
theorem G45_ok : ConOk Try.prog G45 := con_add G44_ok fun args r h => by
  unfold ref04_Then_con at h
  split at h
  · cases h; exact ref04_Then_at _ _ _ _ _ _ _ _ _ _ _ _ _ _
  · cases h
theorem ref04_Undo_col (m_A m_B m_C m_D m_E m_F m_Residue : Int) : collapseW (execFn Try.prog G45 9 0 25 [.agg [.int .i64 m_A, .int .i64 m_B, .int .i64 m_C, .int .i64 m_D, .int .i64 m_E, .int .i64 m_F, .int .i64 m_Residue]] ⟨[], 0⟩) = some (.chk (ref04_Undo_pre m_A m_B m_C m_D m_E m_F m_Residue) (.tup [.agg [.int .i64 (ref04_Undo_0 m_A m_B m_C m_D m_E m_F m_Residue), .int .i64 (ref04_Undo_1 m_A m_B m_C m_D m_E m_F m_Residue), .int .i64 (ref04_Undo_2 m_A m_B m_C m_D m_E m_F m_Residue), .int .i64 (ref04_Undo_3 m_A m_B m_C m_D m_E m_F m_Residue), .int .i64 (ref04_Undo_4 m_A m_B m_C m_D m_E m_F m_Residue), .int .i64 (ref04_Undo_5 m_A m_B m_C m_D m_E m_F m_Residue), .int .i64 (ref04_Undo_6 m_A m_B m_C m_D m_E m_F m_Residue)], .int .i64 (ref04_Undo_7 m_A m_B m_C m_D m_E m_F m_Residue)])) := by kernel_rfl
def ref04_Undo_con : List AV → Option R
  | [.agg [.int .i64 m_A, .int .i64 m_B, .int .i64 m_C, .int .i64 m_D, .int .i64 m_E, .int .i64 m_F, .int .i64 m_Residue]] => some (.val (.tup [.agg [.int .i64 (ref04_Undo_0 m_A m_B m_C m_D m_E m_F m_Residue), .int .i64 (ref04_Undo_1 m_A m_B m_C m_D m_E m_F m_Residue), .int .i64 (ref04_Undo_2 m_A m_B m_C m_D m_E m_F m_Residue), .int .i64 (ref04_Undo_3 m_A m_B m_C m_D m_E m_F m_Residue), .int .i64 (ref04_Undo_4 m_A m_B m_C m_D m_E m_F m_Residue), .int .i64 (ref04_Undo_5 m_A m_B m_C m_D m_E m_F m_Residue), .int .i64 (ref04_Undo_6 m_A m_B m_C m_D m_E m_F m_Residue)], .int .i64 (ref04_Undo_7 m_A m_B m_C m_D m_E m_F m_Residue)]))
  | _ => Option.none
noncomputable def G46 : Con := G45.add 25 ref04_Undo_con
theorem ref04_Undo_at (m_A m_B m_C m_D m_E m_F m_Residue : Int) : ConAt Try.prog 25 [.agg [.int .i64 m_A, .int .i64 m_B, .int .i64 m_C, .int .i64 m_D, .int .i64 m_E, .int .i64 m_F, .int .i64 m_Residue]] (.val (.tup [.agg [.int .i64 (ref04_Undo_0 m_A m_B m_C m_D m_E m_F m_Residue), .int .i64 (ref04_Undo_1 m_A m_B m_C m_D m_E m_F m_Residue), .int .i64 (ref04_Undo_2 m_A m_B m_C m_D m_E m_F m_Residue), .int .i64 (ref04_Undo_3 m_A m_B m_C m_D m_E m_F m_Residue), .int .i64 (ref04_Undo_4 m_A m_B m_C m_D m_E m_F m_Residue), .int .i64 (ref04_Undo_5 m_A m_B m_C m_D m_E m_F m_Residue), .int .i64 (ref04_Undo_6 m_A m_B m_C m_D m_E m_F m_Residue)], .int .i64 (ref04_Undo_7 m_A m_B m_C m_D m_E m_F m_Residue)])) := conAt_val (conAt_of G45_ok (ref04_Undo_col _ _ _ _ _ _ _) rfl rfl) (ref04_Undo_pre_ok _ _ _ _ _ _ _)
theorem G46_ok : ConOk Try.prog G46 := con_add G45_ok fun args r h => by
  unfold ref04_Undo_con at h
  split at h
  · cases h; exact ref04_Undo_at _ _ _ _ _ _ _
  · cases h
theorem law04_box_col (a b c d : Int) : collapseW (execFn Try.prog G46 9 0 27 [.int .i64 a, .int .i64 b, .int .i64 c, .int .i64 d] ⟨[], 0⟩) = some (.val (.agg [.int .i64 (law04_box_0 a b c d), .int .i64 (law04_box_1 a b c d), .int .i64 (law04_box_2 a b c d), .int .i64 (law04_box_3 a b c d)])) := by kernel_rfl
def law04_box_con : List AV → Option R
  | [.int .i64 a, .int .i64 b, .int .i64 c, .int .i64 d] => some (.val (.agg [.int .i64 (law04_box_0 a b c d), .int .i64 (law04_box_1 a b c d), .int .i64 (law04_box_2 a b c d), .int .i64 (law04_box_3 a b c d)]))
  | _ => Option.none
noncomputable def G47 : Con := G46.add 27 law04_box_con
theorem law04_box_at (a b c d : Int) : ConAt Try.prog 27 [.int .i64 a, .int .i64 b, .int .i64 c, .int .i64 d] (.val (.agg [.int .i64 (law04_box_0 a b c d), .int .i64 (law04_box_1 a b c d), .int .i64 (law04_box_2 a b c d), .int .i64 (law04_box_3 a b c d)])) := conAt_of G46_ok (law04_box_col _ _ _ _) rfl rfl
theorem G47_ok : ConOk Try.prog G47 := con_add G46_ok fun args r h => by
  unfold law04_box_con at h
  split at h
  · cases h; exact law04_box_at _ _ _ _
  · cases h
theorem law04_in_col (b_X_Lo b_X_Hi b_Y_Lo b_Y_Hi p_X p_Y : Int) : collapseW (execFn Try.prog G47 9 0 26 [.agg [.int .i64 b_X_Lo, .int .i64 b_X_Hi, .int .i64 b_Y_Lo, .int .i64 b_Y_Hi], .agg [.int .i64 p_X, .int .i64 p_Y]] ⟨[], 0⟩) = some (.val (.bool (law04_in_0 b_X_Lo b_X_Hi b_Y_Lo b_Y_Hi p_X p_Y))) := by kernel_rfl
def law04_in_con : List AV → Option R
  | [.agg [.int .i64 b_X_Lo, .int .i64 b_X_Hi, .int .i64 b_Y_Lo, .int .i64 b_Y_Hi], .agg [.int .i64 p_X, .int .i64 p_Y]] => some (.val (.bool (law04_in_0 b_X_Lo b_X_Hi b_Y_Lo b_Y_Hi p_X p_Y)))
  | _ => Option.none
noncomputable def G48 : Con := G47.add 26 law04_in_con
theorem law04_in_at (b_X_Lo b_X_Hi b_Y_Lo b_Y_Hi p_X p_Y : Int) : ConAt Try.prog 26 [.agg [.int .i64 b_X_Lo, .int .i64 b_X_Hi, .int .i64 b_Y_Lo, .int .i64 b_Y_Hi], .agg [.int .i64 p_X, .int .i64 p_Y]] (.val (.bool (law04_in_0 b_X_Lo b_X_Hi b_Y_Lo b_Y_Hi p_X p_Y))) := conAt_of G47_ok (law04_in_col _ _ _ _ _ _) rfl rfl
theorem G48_ok : ConOk Try.prog G48 := con_add G47_ok fun args r h => by
  unfold law04_in_con at h
  split at h
  · cases h; exact law04_in_at _ _ _ _ _ _
  · cases h
theorem law04_within_col (a_X_Lo a_X_Hi a_Y_Lo a_Y_Hi b_X_Lo b_X_Hi b_Y_Lo b_Y_Hi : Int) : collapseW (execFn Try.prog G48 9 0 28 [.agg [.int .i64 a_X_Lo, .int .i64 a_X_Hi, .int .i64 a_Y_Lo, .int .i64 a_Y_Hi], .agg [.int .i64 b_X_Lo, .int .i64 b_X_Hi, .int .i64 b_Y_Lo, .int .i64 b_Y_Hi]] ⟨[], 0⟩) = some (.val (.bool (law04_within_0 a_X_Lo a_X_Hi a_Y_Lo a_Y_Hi b_X_Lo b_X_Hi b_Y_Lo b_Y_Hi))) := by kernel_rfl
def law04_within_con : List AV → Option R
  | [.agg [.int .i64 a_X_Lo, .int .i64 a_X_Hi, .int .i64 a_Y_Lo, .int .i64 a_Y_Hi], .agg [.int .i64 b_X_Lo, .int .i64 b_X_Hi, .int .i64 b_Y_Lo, .int .i64 b_Y_Hi]] => some (.val (.bool (law04_within_0 a_X_Lo a_X_Hi a_Y_Lo a_Y_Hi b_X_Lo b_X_Hi b_Y_Lo b_Y_Hi)))
  | _ => Option.none
noncomputable def G49 : Con := G48.add 28 law04_within_con
theorem law04_within_at (a_X_Lo a_X_Hi a_Y_Lo a_Y_Hi b_X_Lo b_X_Hi b_Y_Lo b_Y_Hi : Int) : ConAt Try.prog 28 [.agg [.int .i64 a_X_Lo, .int .i64 a_X_Hi, .int .i64 a_Y_Lo, .int .i64 a_Y_Hi], .agg [.int .i64 b_X_Lo, .int .i64 b_X_Hi, .int .i64 b_Y_Lo, .int .i64 b_Y_Hi]] (.val (.bool (law04_within_0 a_X_Lo a_X_Hi a_Y_Lo a_Y_Hi b_X_Lo b_X_Hi b_Y_Lo b_Y_Hi))) := conAt_of G48_ok (law04_within_col _ _ _ _ _ _ _ _) rfl rfl
theorem G49_ok : ConOk Try.prog G49 := con_add G48_ok fun args r h => by
  unfold law04_within_con at h
  split at h
  · cases h; exact law04_within_at _ _ _ _ _ _ _ _
  · cases h
theorem law04_head_col  : collapseW (execFn Try.prog G49 9 0 11 [] ⟨[], 0⟩) = some (.val (.bool (law04_head_0))) := by kernel_rfl
def law04_head_con : List AV → Option R
  | [] => some (.val (.bool (law04_head_0)))
  | _ => Option.none
noncomputable def G50 : Con := G49.add 11 law04_head_con
theorem law04_head_at  : ConAt Try.prog 11 [] (.val (.bool (law04_head_0))) := conAt_of G49_ok (law04_head_col) rfl rfl
theorem G50_ok : ConOk Try.prog G50 := con_add G49_ok fun args r h => by
  unfold law04_head_con at h
  split at h
  · cases h; exact law04_head_at
  · cases h
theorem law04_DatumMatchesReference_col (m_A m_B m_C m_D m_E m_F m_Residue n_A n_B n_C n_D n_E n_F n_Residue p_X p_Y q_X q_Y b_X_Lo b_X_Hi b_Y_Lo b_Y_Hi : Int) : collapseW (execFn Try.prog G50 9 0 3 [.agg [.int .i64 m_A, .int .i64 m_B, .int .i64 m_C, .int .i64 m_D, .int .i64 m_E, .int .i64 m_F, .int .i64 m_Residue], .agg [.int .i64 n_A, .int .i64 n_B, .int .i64 n_C, .int .i64 n_D, .int .i64 n_E, .int .i64 n_F, .int .i64 n_Residue], .agg [.int .i64 p_X, .int .i64 p_Y], .agg [.int .i64 q_X, .int .i64 q_Y], .agg [.int .i64 b_X_Lo, .int .i64 b_X_Hi, .int .i64 b_Y_Lo, .int .i64 b_Y_Hi]] ⟨[], 0⟩) = some (.val (.bool (law04_DatumMatchesReference_0 m_A m_B m_C m_D m_E m_F m_Residue n_A n_B n_C n_D n_E n_F n_Residue p_X p_Y q_X q_Y b_X_Lo b_X_Hi b_Y_Lo b_Y_Hi))) := by kernel_rfl
def law04_DatumMatchesReference_con : List AV → Option R
  | [.agg [.int .i64 m_A, .int .i64 m_B, .int .i64 m_C, .int .i64 m_D, .int .i64 m_E, .int .i64 m_F, .int .i64 m_Residue], .agg [.int .i64 n_A, .int .i64 n_B, .int .i64 n_C, .int .i64 n_D, .int .i64 n_E, .int .i64 n_F, .int .i64 n_Residue], .agg [.int .i64 p_X, .int .i64 p_Y], .agg [.int .i64 q_X, .int .i64 q_Y], .agg [.int .i64 b_X_Lo, .int .i64 b_X_Hi, .int .i64 b_Y_Lo, .int .i64 b_Y_Hi]] => some (.val (.bool (law04_DatumMatchesReference_0 m_A m_B m_C m_D m_E m_F m_Residue n_A n_B n_C n_D n_E n_F n_Residue p_X p_Y q_X q_Y b_X_Lo b_X_Hi b_Y_Lo b_Y_Hi)))
  | _ => Option.none
noncomputable def G51 : Con := G50.add 3 law04_DatumMatchesReference_con
theorem law04_DatumMatchesReference_at (m_A m_B m_C m_D m_E m_F m_Residue n_A n_B n_C n_D n_E n_F n_Residue p_X p_Y q_X q_Y b_X_Lo b_X_Hi b_Y_Lo b_Y_Hi : Int) : ConAt Try.prog 3 [.agg [.int .i64 m_A, .int .i64 m_B, .int .i64 m_C, .int .i64 m_D, .int .i64 m_E, .int .i64 m_F, .int .i64 m_Residue], .agg [.int .i64 n_A, .int .i64 n_B, .int .i64 n_C, .int .i64 n_D, .int .i64 n_E, .int .i64 n_F, .int .i64 n_Residue], .agg [.int .i64 p_X, .int .i64 p_Y], .agg [.int .i64 q_X, .int .i64 q_Y], .agg [.int .i64 b_X_Lo, .int .i64 b_X_Hi, .int .i64 b_Y_Lo, .int .i64 b_Y_Hi]] (.val (.bool (law04_DatumMatchesReference_0 m_A m_B m_C m_D m_E m_F m_Residue n_A n_B n_C n_D n_E n_F n_Residue p_X p_Y q_X q_Y b_X_Lo b_X_Hi b_Y_Lo b_Y_Hi))) := conAt_of G50_ok (law04_DatumMatchesReference_col _ _ _ _ _ _ _ _ _ _ _ _ _ _ _ _ _ _ _ _ _ _) rfl rfl
theorem G51_ok : ConOk Try.prog G51 := con_add G50_ok fun args r h => by
  unfold law04_DatumMatchesReference_con at h
  split at h
  · cases h; exact law04_DatumMatchesReference_at _ _ _ _ _ _ _ _ _ _ _ _ _ _ _ _ _ _ _ _ _ _
  · cases h
theorem law04_DatumLosesNothing_col (m_A m_B m_C m_D m_E m_F m_Residue p_X p_Y q_X q_Y b_X_Lo b_X_Hi b_Y_Lo b_Y_Hi c_X_Lo c_X_Hi c_Y_Lo c_Y_Hi : Int) : collapseW (execFn Try.prog G51 9 0 4 [.agg [.int .i64 m_A, .int .i64 m_B, .int .i64 m_C, .int .i64 m_D, .int .i64 m_E, .int .i64 m_F, .int .i64 m_Residue], .agg [.int .i64 p_X, .int .i64 p_Y], .agg [.int .i64 q_X, .int .i64 q_Y], .agg [.int .i64 b_X_Lo, .int .i64 b_X_Hi, .int .i64 b_Y_Lo, .int .i64 b_Y_Hi], .agg [.int .i64 c_X_Lo, .int .i64 c_X_Hi, .int .i64 c_Y_Lo, .int .i64 c_Y_Hi]] ⟨[], 0⟩) = some (.val (.bool (law04_DatumLosesNothing_0 m_A m_B m_C m_D m_E m_F m_Residue p_X p_Y q_X q_Y b_X_Lo b_X_Hi b_Y_Lo b_Y_Hi c_X_Lo c_X_Hi c_Y_Lo c_Y_Hi))) := by kernel_rfl
def law04_DatumLosesNothing_con : List AV → Option R
  | [.agg [.int .i64 m_A, .int .i64 m_B, .int .i64 m_C, .int .i64 m_D, .int .i64 m_E, .int .i64 m_F, .int .i64 m_Residue], .agg [.int .i64 p_X, .int .i64 p_Y], .agg [.int .i64 q_X, .int .i64 q_Y], .agg [.int .i64 b_X_Lo, .int .i64 b_X_Hi, .int .i64 b_Y_Lo, .int .i64 b_Y_Hi], .agg [.int .i64 c_X_Lo, .int .i64 c_X_Hi, .int .i64 c_Y_Lo, .int .i64 c_Y_Hi]] => some (.val (.bool (law04_DatumLosesNothing_0 m_A m_B m_C m_D m_E m_F m_Residue p_X p_Y q_X q_Y b_X_Lo b_X_Hi b_Y_Lo b_Y_Hi c_X_Lo c_X_Hi c_Y_Lo c_Y_Hi)))
  | _ => Option.none
noncomputable def G52 : Con := G51.add 4 law04_DatumLosesNothing_con
theorem law04_DatumLosesNothing_at (m_A m_B m_C m_D m_E m_F m_Residue p_X p_Y q_X q_Y b_X_Lo b_X_Hi b_Y_Lo b_Y_Hi c_X_Lo c_X_Hi c_Y_Lo c_Y_Hi : Int) : ConAt Try.prog 4 [.agg [.int .i64 m_A, .int .i64 m_B, .int .i64 m_C, .int .i64 m_D, .int .i64 m_E, .int .i64 m_F, .int .i64 m_Residue], .agg [.int .i64 p_X, .int .i64 p_Y], .agg [.int .i64 q_X, .int .i64 q_Y], .agg [.int .i64 b_X_Lo, .int .i64 b_X_Hi, .int .i64 b_Y_Lo, .int .i64 b_Y_Hi], .agg [.int .i64 c_X_Lo, .int .i64 c_X_Hi, .int .i64 c_Y_Lo, .int .i64 c_Y_Hi]] (.val (.bool (law04_DatumLosesNothing_0 m_A m_B m_C m_D m_E m_F m_Residue p_X p_Y q_X q_Y b_X_Lo b_X_Hi b_Y_Lo b_Y_Hi c_X_Lo c_X_Hi c_Y_Lo c_Y_Hi))) := conAt_of G51_ok (law04_DatumLosesNothing_col _ _ _ _ _ _ _ _ _ _ _ _ _ _ _ _ _ _ _) rfl rfl
theorem G52_ok : ConOk Try.prog G52 := con_add G51_ok fun args r h => by
  unfold law04_DatumLosesNothing_con at h
  split at h
  · cases h; exact law04_DatumLosesNothing_at _ _ _ _ _ _ _ _ _ _ _ _ _ _ _ _ _ _ _
  · cases h
theorem law04_DatumBoxes_col (m_A m_B m_C m_D m_E m_F m_Residue p_X p_Y b_X_Lo b_X_Hi b_Y_Lo b_Y_Hi c_X_Lo c_X_Hi c_Y_Lo c_Y_Hi : Int) : collapseW (execFn Try.prog G52 9 0 5 [.agg [.int .i64 m_A, .int .i64 m_B, .int .i64 m_C, .int .i64 m_D, .int .i64 m_E, .int .i64 m_F, .int .i64 m_Residue], .agg [.int .i64 p_X, .int .i64 p_Y], .agg [.int .i64 b_X_Lo, .int .i64 b_X_Hi, .int .i64 b_Y_Lo, .int .i64 b_Y_Hi], .agg [.int .i64 c_X_Lo, .int .i64 c_X_Hi, .int .i64 c_Y_Lo, .int .i64 c_Y_Hi]] ⟨[], 0⟩) = some (.val (.bool (law04_DatumBoxes_0 m_A m_B m_C m_D m_E m_F m_Residue p_X p_Y b_X_Lo b_X_Hi b_Y_Lo b_Y_Hi c_X_Lo c_X_Hi c_Y_Lo c_Y_Hi))) := by kernel_rfl
def law04_DatumBoxes_con : List AV → Option R
  | [.agg [.int .i64 m_A, .int .i64 m_B, .int .i64 m_C, .int .i64 m_D, .int .i64 m_E, .int .i64 m_F, .int .i64 m_Residue], .agg [.int .i64 p_X, .int .i64 p_Y], .agg [.int .i64 b_X_Lo, .int .i64 b_X_Hi, .int .i64 b_Y_Lo, .int .i64 b_Y_Hi], .agg [.int .i64 c_X_Lo, .int .i64 c_X_Hi, .int .i64 c_Y_Lo, .int .i64 c_Y_Hi]] => some (.val (.bool (law04_DatumBoxes_0 m_A m_B m_C m_D m_E m_F m_Residue p_X p_Y b_X_Lo b_X_Hi b_Y_Lo b_Y_Hi c_X_Lo c_X_Hi c_Y_Lo c_Y_Hi)))
  | _ => Option.none
noncomputable def G53 : Con := G52.add 5 law04_DatumBoxes_con
theorem law04_DatumBoxes_at (m_A m_B m_C m_D m_E m_F m_Residue p_X p_Y b_X_Lo b_X_Hi b_Y_Lo b_Y_Hi c_X_Lo c_X_Hi c_Y_Lo c_Y_Hi : Int) : ConAt Try.prog 5 [.agg [.int .i64 m_A, .int .i64 m_B, .int .i64 m_C, .int .i64 m_D, .int .i64 m_E, .int .i64 m_F, .int .i64 m_Residue], .agg [.int .i64 p_X, .int .i64 p_Y], .agg [.int .i64 b_X_Lo, .int .i64 b_X_Hi, .int .i64 b_Y_Lo, .int .i64 b_Y_Hi], .agg [.int .i64 c_X_Lo, .int .i64 c_X_Hi, .int .i64 c_Y_Lo, .int .i64 c_Y_Hi]] (.val (.bool (law04_DatumBoxes_0 m_A m_B m_C m_D m_E m_F m_Residue p_X p_Y b_X_Lo b_X_Hi b_Y_Lo b_Y_Hi c_X_Lo c_X_Hi c_Y_Lo c_Y_Hi))) := conAt_of G52_ok (law04_DatumBoxes_col _ _ _ _ _ _ _ _ _ _ _ _ _ _ _ _ _) rfl rfl
theorem G53_ok : ConOk Try.prog G53 := con_add G52_ok fun args r h => by
  unfold law04_DatumBoxes_con at h
  split at h
  · cases h; exact law04_DatumBoxes_at _ _ _ _ _ _ _ _ _ _ _ _ _ _ _ _ _
  · cases h
theorem law04_DatumThen_col (m_A m_B m_C m_D m_E m_F m_Residue n_A n_B n_C n_D n_E n_F n_Residue p_X p_Y q_X q_Y r_X r_Y : Int) : collapseW (execFn Try.prog G53 9 0 6 [.agg [.int .i64 m_A, .int .i64 m_B, .int .i64 m_C, .int .i64 m_D, .int .i64 m_E, .int .i64 m_F, .int .i64 m_Residue], .agg [.int .i64 n_A, .int .i64 n_B, .int .i64 n_C, .int .i64 n_D, .int .i64 n_E, .int .i64 n_F, .int .i64 n_Residue], .agg [.int .i64 p_X, .int .i64 p_Y], .agg [.int .i64 q_X, .int .i64 q_Y], .agg [.int .i64 r_X, .int .i64 r_Y]] ⟨[], 0⟩) = some (.val (.bool (law04_DatumThen_0 m_A m_B m_C m_D m_E m_F m_Residue n_A n_B n_C n_D n_E n_F n_Residue p_X p_Y q_X q_Y r_X r_Y))) := by kernel_rfl
def law04_DatumThen_con : List AV → Option R
  | [.agg [.int .i64 m_A, .int .i64 m_B, .int .i64 m_C, .int .i64 m_D, .int .i64 m_E, .int .i64 m_F, .int .i64 m_Residue], .agg [.int .i64 n_A, .int .i64 n_B, .int .i64 n_C, .int .i64 n_D, .int .i64 n_E, .int .i64 n_F, .int .i64 n_Residue], .agg [.int .i64 p_X, .int .i64 p_Y], .agg [.int .i64 q_X, .int .i64 q_Y], .agg [.int .i64 r_X, .int .i64 r_Y]] => some (.val (.bool (law04_DatumThen_0 m_A m_B m_C m_D m_E m_F m_Residue n_A n_B n_C n_D n_E n_F n_Residue p_X p_Y q_X q_Y r_X r_Y)))
  | _ => Option.none
noncomputable def G54 : Con := G53.add 6 law04_DatumThen_con
theorem law04_DatumThen_at (m_A m_B m_C m_D m_E m_F m_Residue n_A n_B n_C n_D n_E n_F n_Residue p_X p_Y q_X q_Y r_X r_Y : Int) : ConAt Try.prog 6 [.agg [.int .i64 m_A, .int .i64 m_B, .int .i64 m_C, .int .i64 m_D, .int .i64 m_E, .int .i64 m_F, .int .i64 m_Residue], .agg [.int .i64 n_A, .int .i64 n_B, .int .i64 n_C, .int .i64 n_D, .int .i64 n_E, .int .i64 n_F, .int .i64 n_Residue], .agg [.int .i64 p_X, .int .i64 p_Y], .agg [.int .i64 q_X, .int .i64 q_Y], .agg [.int .i64 r_X, .int .i64 r_Y]] (.val (.bool (law04_DatumThen_0 m_A m_B m_C m_D m_E m_F m_Residue n_A n_B n_C n_D n_E n_F n_Residue p_X p_Y q_X q_Y r_X r_Y))) := conAt_of G53_ok (law04_DatumThen_col _ _ _ _ _ _ _ _ _ _ _ _ _ _ _ _ _ _ _ _) rfl rfl
theorem G54_ok : ConOk Try.prog G54 := con_add G53_ok fun args r h => by
  unfold law04_DatumThen_con at h
  split at h
  · cases h; exact law04_DatumThen_at _ _ _ _ _ _ _ _ _ _ _ _ _ _ _ _ _ _ _ _
  · cases h
theorem law04_DatumUndone_col (m_A m_B m_C m_D m_E m_F m_Residue p_X p_Y q_X q_Y : Int) : collapseW (execFn Try.prog G54 9 0 7 [.agg [.int .i64 m_A, .int .i64 m_B, .int .i64 m_C, .int .i64 m_D, .int .i64 m_E, .int .i64 m_F, .int .i64 m_Residue], .agg [.int .i64 p_X, .int .i64 p_Y], .agg [.int .i64 q_X, .int .i64 q_Y]] ⟨[], 0⟩) = some (.val (.bool (law04_DatumUndone_0 m_A m_B m_C m_D m_E m_F m_Residue p_X p_Y q_X q_Y))) := by kernel_rfl
def law04_DatumUndone_con : List AV → Option R
  | [.agg [.int .i64 m_A, .int .i64 m_B, .int .i64 m_C, .int .i64 m_D, .int .i64 m_E, .int .i64 m_F, .int .i64 m_Residue], .agg [.int .i64 p_X, .int .i64 p_Y], .agg [.int .i64 q_X, .int .i64 q_Y]] => some (.val (.bool (law04_DatumUndone_0 m_A m_B m_C m_D m_E m_F m_Residue p_X p_Y q_X q_Y)))
  | _ => Option.none
noncomputable def G55 : Con := G54.add 7 law04_DatumUndone_con
theorem law04_DatumUndone_at (m_A m_B m_C m_D m_E m_F m_Residue p_X p_Y q_X q_Y : Int) : ConAt Try.prog 7 [.agg [.int .i64 m_A, .int .i64 m_B, .int .i64 m_C, .int .i64 m_D, .int .i64 m_E, .int .i64 m_F, .int .i64 m_Residue], .agg [.int .i64 p_X, .int .i64 p_Y], .agg [.int .i64 q_X, .int .i64 q_Y]] (.val (.bool (law04_DatumUndone_0 m_A m_B m_C m_D m_E m_F m_Residue p_X p_Y q_X q_Y))) := conAt_of G54_ok (law04_DatumUndone_col _ _ _ _ _ _ _ _ _ _ _) rfl rfl
theorem G55_ok : ConOk Try.prog G55 := con_add G54_ok fun args r h => by
  unfold law04_DatumUndone_con at h
  split at h
  · cases h; exact law04_DatumUndone_at _ _ _ _ _ _ _ _ _ _ _
  · cases h
theorem law04_DatumWider_col (m_A m_B m_C m_D m_E m_F m_Residue more p_X p_Y q_X q_Y r_X r_Y : Int) : collapseW (execFn Try.prog G55 9 0 8 [.agg [.int .i64 m_A, .int .i64 m_B, .int .i64 m_C, .int .i64 m_D, .int .i64 m_E, .int .i64 m_F, .int .i64 m_Residue], .int .i64 more, .agg [.int .i64 p_X, .int .i64 p_Y], .agg [.int .i64 q_X, .int .i64 q_Y], .agg [.int .i64 r_X, .int .i64 r_Y]] ⟨[], 0⟩) = some (.val (.bool (law04_DatumWider_0 m_A m_B m_C m_D m_E m_F m_Residue more p_X p_Y q_X q_Y r_X r_Y))) := by kernel_rfl
def law04_DatumWider_con : List AV → Option R
  | [.agg [.int .i64 m_A, .int .i64 m_B, .int .i64 m_C, .int .i64 m_D, .int .i64 m_E, .int .i64 m_F, .int .i64 m_Residue], .int .i64 more, .agg [.int .i64 p_X, .int .i64 p_Y], .agg [.int .i64 q_X, .int .i64 q_Y], .agg [.int .i64 r_X, .int .i64 r_Y]] => some (.val (.bool (law04_DatumWider_0 m_A m_B m_C m_D m_E m_F m_Residue more p_X p_Y q_X q_Y r_X r_Y)))
  | _ => Option.none
noncomputable def G56 : Con := G55.add 8 law04_DatumWider_con
theorem law04_DatumWider_at (m_A m_B m_C m_D m_E m_F m_Residue more p_X p_Y q_X q_Y r_X r_Y : Int) : ConAt Try.prog 8 [.agg [.int .i64 m_A, .int .i64 m_B, .int .i64 m_C, .int .i64 m_D, .int .i64 m_E, .int .i64 m_F, .int .i64 m_Residue], .int .i64 more, .agg [.int .i64 p_X, .int .i64 p_Y], .agg [.int .i64 q_X, .int .i64 q_Y], .agg [.int .i64 r_X, .int .i64 r_Y]] (.val (.bool (law04_DatumWider_0 m_A m_B m_C m_D m_E m_F m_Residue more p_X p_Y q_X q_Y r_X r_Y))) := conAt_of G55_ok (law04_DatumWider_col _ _ _ _ _ _ _ _ _ _ _ _ _ _) rfl rfl
theorem G56_ok : ConOk Try.prog G56 := con_add G55_ok fun args r h => by
  unfold law04_DatumWider_con at h
  split at h
  · cases h; exact law04_DatumWider_at _ _ _ _ _ _ _ _ _ _ _ _ _ _
  · cases h
theorem law04_DatumMoved_col (m_A m_B m_C m_D m_E m_F m_Residue p_X p_Y q_X q_Y v_X v_Y : Int) : collapseW (execFn Try.prog G56 9 0 9 [.agg [.int .i64 m_A, .int .i64 m_B, .int .i64 m_C, .int .i64 m_D, .int .i64 m_E, .int .i64 m_F, .int .i64 m_Residue], .agg [.int .i64 p_X, .int .i64 p_Y], .agg [.int .i64 q_X, .int .i64 q_Y], .agg [.int .i64 v_X, .int .i64 v_Y]] ⟨[], 0⟩) = some (.val (.bool (law04_DatumMoved_0 m_A m_B m_C m_D m_E m_F m_Residue p_X p_Y q_X q_Y v_X v_Y))) := by kernel_rfl
def law04_DatumMoved_con : List AV → Option R
  | [.agg [.int .i64 m_A, .int .i64 m_B, .int .i64 m_C, .int .i64 m_D, .int .i64 m_E, .int .i64 m_F, .int .i64 m_Residue], .agg [.int .i64 p_X, .int .i64 p_Y], .agg [.int .i64 q_X, .int .i64 q_Y], .agg [.int .i64 v_X, .int .i64 v_Y]] => some (.val (.bool (law04_DatumMoved_0 m_A m_B m_C m_D m_E m_F m_Residue p_X p_Y q_X q_Y v_X v_Y)))
  | _ => Option.none
noncomputable def G57 : Con := G56.add 9 law04_DatumMoved_con
theorem law04_DatumMoved_at (m_A m_B m_C m_D m_E m_F m_Residue p_X p_Y q_X q_Y v_X v_Y : Int) : ConAt Try.prog 9 [.agg [.int .i64 m_A, .int .i64 m_B, .int .i64 m_C, .int .i64 m_D, .int .i64 m_E, .int .i64 m_F, .int .i64 m_Residue], .agg [.int .i64 p_X, .int .i64 p_Y], .agg [.int .i64 q_X, .int .i64 q_Y], .agg [.int .i64 v_X, .int .i64 v_Y]] (.val (.bool (law04_DatumMoved_0 m_A m_B m_C m_D m_E m_F m_Residue p_X p_Y q_X q_Y v_X v_Y))) := conAt_of G56_ok (law04_DatumMoved_col _ _ _ _ _ _ _ _ _ _ _ _ _) rfl rfl
theorem G57_ok : ConOk Try.prog G57 := con_add G56_ok fun args r h => by
  unfold law04_DatumMoved_con at h
  split at h
  · cases h; exact law04_DatumMoved_at _ _ _ _ _ _ _ _ _ _ _ _ _
  · cases h
theorem law04_DatumThere_col (m_A m_B m_C m_D m_E m_F m_Residue p_X p_Y : Int) : collapseW (execFn Try.prog G57 9 0 10 [.agg [.int .i64 m_A, .int .i64 m_B, .int .i64 m_C, .int .i64 m_D, .int .i64 m_E, .int .i64 m_F, .int .i64 m_Residue], .agg [.int .i64 p_X, .int .i64 p_Y]] ⟨[], 0⟩) = some (.val (.bool (law04_DatumThere_0 m_A m_B m_C m_D m_E m_F m_Residue p_X p_Y))) := by kernel_rfl
def law04_DatumThere_con : List AV → Option R
  | [.agg [.int .i64 m_A, .int .i64 m_B, .int .i64 m_C, .int .i64 m_D, .int .i64 m_E, .int .i64 m_F, .int .i64 m_Residue], .agg [.int .i64 p_X, .int .i64 p_Y]] => some (.val (.bool (law04_DatumThere_0 m_A m_B m_C m_D m_E m_F m_Residue p_X p_Y)))
  | _ => Option.none
noncomputable def G58 : Con := G57.add 10 law04_DatumThere_con
theorem law04_DatumThere_at (m_A m_B m_C m_D m_E m_F m_Residue p_X p_Y : Int) : ConAt Try.prog 10 [.agg [.int .i64 m_A, .int .i64 m_B, .int .i64 m_C, .int .i64 m_D, .int .i64 m_E, .int .i64 m_F, .int .i64 m_Residue], .agg [.int .i64 p_X, .int .i64 p_Y]] (.val (.bool (law04_DatumThere_0 m_A m_B m_C m_D m_E m_F m_Residue p_X p_Y))) := conAt_of G57_ok (law04_DatumThere_col _ _ _ _ _ _ _ _ _) rfl rfl
theorem G58_ok : ConOk Try.prog G58 := con_add G57_ok fun args r h => by
  unfold law04_DatumThere_con at h
  split at h
  · cases h; exact law04_DatumThere_at _ _ _ _ _ _ _ _ _
  · cases h
end Go.Proofs.Ytbopeaebdlmapaa
