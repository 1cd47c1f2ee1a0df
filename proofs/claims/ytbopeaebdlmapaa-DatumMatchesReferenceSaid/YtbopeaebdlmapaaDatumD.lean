/- Written by program (wip/gen.py): what the Go functions compute, as the executor reads it off their code. -/
import Derived.Test.YtbopeaebdlmapaaSxA
import Derived.Test.YtbopeaebdlmapaaSpanD
set_option linter.unusedVariables false
namespace Go.Proofs.Ytbopeaebdlmapaa
open Go Go.Sx
def plane_Valid_0 (p_X p_Y : Int) : Bool :=
  decide (imax p_X p_Y ≤ 1000000) && decide (imin p_X p_Y ≥ -1000000)
def datum_det_0 (m_A m_B m_C m_D m_E m_F m_Residue : Int) : Int :=
  IntKind.i64.wrap (IntKind.i64.wrap (m_A * m_E) - IntKind.i64.wrap (m_B * m_D))
def datum_down_pre (a b : Int) : Prop :=
  ((((b : Int) = 0) → (False)) ∧ (((b : Int) = 0) → (False)))
def datum_down_0 (a b : Int) : Int :=
  bif decide (a.tmod b < 0) then IntKind.i64.wrap (IntKind.i64.wrap (a.tdiv b) - 1) else IntKind.i64.wrap (a.tdiv b)
def datum_up_pre (a b : Int) : Prop :=
  ((((b : Int) = 0) → (False)) ∧ (((b : Int) = 0) → (False)))
def datum_up_0 (a b : Int) : Int :=
  IntKind.i64.wrap (0 - datum_down_0 (IntKind.i64.wrap (0 - a)) b)
def datum_round_pre (a b : Int) : Prop :=
  ((((IntKind.i64.wrap (2 * b) : Int) = 0) → (False)) ∧ (((IntKind.i64.wrap (2 * b) : Int) = 0) → (False)))
def datum_round_0 (a b : Int) : Int :=
  datum_down_0 (IntKind.i64.wrap (IntKind.i64.wrap (2 * a) + b)) (IntKind.i64.wrap (2 * b))
def datum_row_at_0 (r_x r_y r_move p_X p_Y : Int) : Int :=
  IntKind.i64.wrap (IntKind.i64.wrap (IntKind.i64.wrap (r_x * p_X) + IntKind.i64.wrap (r_y * p_Y)) + IntKind.i64.wrap (1000000 * r_move))
def datum_row_least_0 (r_x r_y r_move b_X_Lo b_X_Hi b_Y_Lo b_Y_Hi : Int) : Int :=
  IntKind.i64.wrap
  (IntKind.i64.wrap (imin (IntKind.i64.wrap (r_x * b_X_Lo)) (IntKind.i64.wrap (r_x * b_X_Hi)) + imin (IntKind.i64.wrap (r_y * b_Y_Lo)) (IntKind.i64.wrap (r_y * b_Y_Hi))) +
    IntKind.i64.wrap (1000000 * r_move))
def datum_row_most_0 (r_x r_y r_move b_X_Lo b_X_Hi b_Y_Lo b_Y_Hi : Int) : Int :=
  IntKind.i64.wrap
  (IntKind.i64.wrap (imax (IntKind.i64.wrap (r_x * b_X_Lo)) (IntKind.i64.wrap (r_x * b_X_Hi)) + imax (IntKind.i64.wrap (r_y * b_Y_Lo)) (IntKind.i64.wrap (r_y * b_Y_Hi))) +
    IntKind.i64.wrap (1000000 * r_move))
def datum_row_weight_0 (r_x r_y r_move : Int) : Int :=
  IntKind.i64.wrap (imax r_x (IntKind.i64.wrap (0 - r_x)) + imax r_y (IntKind.i64.wrap (0 - r_y)))
def datum_row_after_pre (r_x r_y r_move m_rows_first_x m_rows_first_y m_rows_first_move m_rows_last_x m_rows_last_y m_rows_last_move m_residue : Int) : Prop :=
  (((((IntKind.i64.wrap (2 * 1000000) : Int) = 0) → (False)) ∧ (((IntKind.i64.wrap (2 * 1000000) : Int) = 0) → (False))) ∧ (((((IntKind.i64.wrap (2 * 1000000) : Int) = 0) → (False)) ∧ (((IntKind.i64.wrap (2 * 1000000) : Int) = 0) → (False))) ∧ ((((IntKind.i64.wrap (2 * 1000000) : Int) = 0) → (False)) ∧ (((IntKind.i64.wrap (2 * 1000000) : Int) = 0) → (False)))))
def datum_row_after_0 (r_x r_y r_move m_rows_first_x m_rows_first_y m_rows_first_move m_rows_last_x m_rows_last_y m_rows_last_move m_residue : Int) : Int :=
  datum_round_0 (IntKind.i64.wrap (IntKind.i64.wrap (r_x * m_rows_first_x) + IntKind.i64.wrap (r_y * m_rows_last_x))) 1000000
def datum_row_after_1 (r_x r_y r_move m_rows_first_x m_rows_first_y m_rows_first_move m_rows_last_x m_rows_last_y m_rows_last_move m_residue : Int) : Int :=
  datum_round_0 (IntKind.i64.wrap (IntKind.i64.wrap (r_x * m_rows_first_y) + IntKind.i64.wrap (r_y * m_rows_last_y))) 1000000
def datum_row_after_2 (r_x r_y r_move m_rows_first_x m_rows_first_y m_rows_first_move m_rows_last_x m_rows_last_y m_rows_last_move m_residue : Int) : Int :=
  IntKind.i64.wrap (datum_round_0 (IntKind.i64.wrap (IntKind.i64.wrap (r_x * m_rows_first_move) + IntKind.i64.wrap (r_y * m_rows_last_move))) 1000000 + r_move)
theorem datum_row_after_pre_ok (r_x r_y r_move m_rows_first_x m_rows_first_y m_rows_first_move m_rows_last_x m_rows_last_y m_rows_last_move m_residue : Int) : datum_row_after_pre r_x r_y r_move m_rows_first_x m_rows_first_y m_rows_first_move m_rows_last_x m_rows_last_y m_rows_last_move m_residue := by
  unfold datum_row_after_pre
  (first | (simp; done) | (simp; omega) | (simp [IntKind.wrap_i64]; done) | (simp [IntKind.wrap_i64]; omega))
def datum_rows_grown_pre (r_first_x r_first_y r_first_move r_last_x r_last_y r_last_move residue more : Int) : Prop :=
  ((((1000000 : Int) = 0) → (False)) ∧ (((1000000 : Int) = 0) → (False)))
def datum_rows_grown_0 (r_first_x r_first_y r_first_move r_last_x r_last_y r_last_move residue more : Int) : Int :=
  datum_up_0 (IntKind.i64.wrap (IntKind.i64.wrap (imax (datum_row_weight_0 r_first_x r_first_y r_first_move) (datum_row_weight_0 r_last_x r_last_y r_last_move) + more) * residue)) 1000000
theorem datum_rows_grown_pre_ok (r_first_x r_first_y r_first_move r_last_x r_last_y r_last_move residue more : Int) : datum_rows_grown_pre r_first_x r_first_y r_first_move r_last_x r_last_y r_last_move residue more := by
  unfold datum_rows_grown_pre
  (first | (simp; done) | (simp; omega) | (simp [IntKind.wrap_i64]; done) | (simp [IntKind.wrap_i64]; omega))
def datum_Valid_0 (m_A m_B m_C m_D m_E m_F m_Residue : Int) : Bool :=
  bif decide (m_A < -2000000) || decide (m_A > 2000000) then false
else
  bif decide (m_B < -2000000) || decide (m_B > 2000000) then false
  else
    bif decide (m_D < -2000000) || decide (m_D > 2000000) then false
    else
      bif decide (m_E < -2000000) || decide (m_E > 2000000) then false
      else
        decide (datum_det_0 m_A m_B m_C m_D m_E m_F m_Residue ≥ 250000000000) && decide (imin m_C m_F ≥ -100000) && decide (imax m_C m_F ≤ 100000) && decide (m_Residue ≥ 0) &&
          decide (m_Residue ≤ 1000)
def datum_affine_write_0 (a_rows_first_x a_rows_first_y a_rows_first_move a_rows_last_x a_rows_last_y a_rows_last_move a_residue : Int) : Int :=
  bif !datum_Valid_0 a_rows_first_x a_rows_first_y a_rows_first_move a_rows_last_x a_rows_last_y a_rows_last_move a_residue then 0 else a_rows_first_x
def datum_affine_write_1 (a_rows_first_x a_rows_first_y a_rows_first_move a_rows_last_x a_rows_last_y a_rows_last_move a_residue : Int) : Int :=
  bif !datum_Valid_0 a_rows_first_x a_rows_first_y a_rows_first_move a_rows_last_x a_rows_last_y a_rows_last_move a_residue then 0 else a_rows_first_y
def datum_affine_write_2 (a_rows_first_x a_rows_first_y a_rows_first_move a_rows_last_x a_rows_last_y a_rows_last_move a_residue : Int) : Int :=
  bif !datum_Valid_0 a_rows_first_x a_rows_first_y a_rows_first_move a_rows_last_x a_rows_last_y a_rows_last_move a_residue then 0 else a_rows_first_move
def datum_affine_write_3 (a_rows_first_x a_rows_first_y a_rows_first_move a_rows_last_x a_rows_last_y a_rows_last_move a_residue : Int) : Int :=
  bif !datum_Valid_0 a_rows_first_x a_rows_first_y a_rows_first_move a_rows_last_x a_rows_last_y a_rows_last_move a_residue then 0 else a_rows_last_x
def datum_affine_write_4 (a_rows_first_x a_rows_first_y a_rows_first_move a_rows_last_x a_rows_last_y a_rows_last_move a_residue : Int) : Int :=
  bif !datum_Valid_0 a_rows_first_x a_rows_first_y a_rows_first_move a_rows_last_x a_rows_last_y a_rows_last_move a_residue then 0 else a_rows_last_y
def datum_affine_write_5 (a_rows_first_x a_rows_first_y a_rows_first_move a_rows_last_x a_rows_last_y a_rows_last_move a_residue : Int) : Int :=
  bif !datum_Valid_0 a_rows_first_x a_rows_first_y a_rows_first_move a_rows_last_x a_rows_last_y a_rows_last_move a_residue then 0 else a_rows_last_move
def datum_affine_write_6 (a_rows_first_x a_rows_first_y a_rows_first_move a_rows_last_x a_rows_last_y a_rows_last_move a_residue : Int) : Int :=
  bif !datum_Valid_0 a_rows_first_x a_rows_first_y a_rows_first_move a_rows_last_x a_rows_last_y a_rows_last_move a_residue then 0 else a_residue
def datum_affine_write_7 (a_rows_first_x a_rows_first_y a_rows_first_move a_rows_last_x a_rows_last_y a_rows_last_move a_residue : Int) : Int :=
  bif !datum_Valid_0 a_rows_first_x a_rows_first_y a_rows_first_move a_rows_last_x a_rows_last_y a_rows_last_move a_residue then 3 else 0
def datum_Fits_0 (m_A m_B m_C m_D m_E m_F m_Residue p_X p_Y q_X q_Y : Int) : Bool :=
  bif !datum_Valid_0 m_A m_B m_C m_D m_E m_F m_Residue || !plane_Valid_0 p_X p_Y || !plane_Valid_0 q_X q_Y then false
else
  decide
    (imax
        (imax
          (imax (IntKind.i64.wrap (IntKind.i64.wrap (1000000 * q_X) - datum_row_at_0 m_A m_B m_C p_X p_Y))
            (IntKind.i64.wrap (0 - IntKind.i64.wrap (IntKind.i64.wrap (1000000 * q_X) - datum_row_at_0 m_A m_B m_C p_X p_Y))))
          (IntKind.i64.wrap (IntKind.i64.wrap (1000000 * q_Y) - datum_row_at_0 m_D m_E m_F p_X p_Y)))
        (IntKind.i64.wrap (0 - IntKind.i64.wrap (IntKind.i64.wrap (1000000 * q_Y) - datum_row_at_0 m_D m_E m_F p_X p_Y))) ≤
      IntKind.i64.wrap (1000000 * m_Residue))
def datum_Fits_1 (m_A m_B m_C m_D m_E m_F m_Residue p_X p_Y q_X q_Y : Int) : Int :=
  bif !datum_Valid_0 m_A m_B m_C m_D m_E m_F m_Residue || !plane_Valid_0 p_X p_Y || !plane_Valid_0 q_X q_Y then 1 else 0
def datum_Carry_pre (m_A m_B m_C m_D m_E m_F m_Residue b_X_Lo b_X_Hi b_Y_Lo b_Y_Hi : Int) : Prop :=
  (((!datum_Valid_0 m_A m_B m_C m_D m_E m_F m_Residue || !span_ValidBox_0 b_X_Lo b_X_Hi b_Y_Lo b_Y_Hi) = false) → ((((((1000000 : Int) = 0) → (False)) ∧ (((1000000 : Int) = 0) → (False))) ∧ ((((1000000 : Int) = 0) → (False)) ∧ (((1000000 : Int) = 0) → (False)))) ∧ (((((1000000 : Int) = 0) → (False)) ∧ (((1000000 : Int) = 0) → (False))) ∧ ((((1000000 : Int) = 0) → (False)) ∧ (((1000000 : Int) = 0) → (False))))))
def datum_Carry_0 (m_A m_B m_C m_D m_E m_F m_Residue b_X_Lo b_X_Hi b_Y_Lo b_Y_Hi : Int) : Int :=
  bif !datum_Valid_0 m_A m_B m_C m_D m_E m_F m_Residue || !span_ValidBox_0 b_X_Lo b_X_Hi b_Y_Lo b_Y_Hi then 0
else
  bif
      !span_ValidBox_0 (datum_down_0 (IntKind.i64.wrap (datum_row_least_0 m_A m_B m_C b_X_Lo b_X_Hi b_Y_Lo b_Y_Hi - IntKind.i64.wrap (1000000 * m_Residue))) 1000000)
          (datum_up_0 (IntKind.i64.wrap (datum_row_most_0 m_A m_B m_C b_X_Lo b_X_Hi b_Y_Lo b_Y_Hi + IntKind.i64.wrap (1000000 * m_Residue))) 1000000)
          (datum_down_0 (IntKind.i64.wrap (datum_row_least_0 m_D m_E m_F b_X_Lo b_X_Hi b_Y_Lo b_Y_Hi - IntKind.i64.wrap (1000000 * m_Residue))) 1000000)
          (datum_up_0 (IntKind.i64.wrap (datum_row_most_0 m_D m_E m_F b_X_Lo b_X_Hi b_Y_Lo b_Y_Hi + IntKind.i64.wrap (1000000 * m_Residue))) 1000000) then
    0
  else datum_down_0 (IntKind.i64.wrap (datum_row_least_0 m_A m_B m_C b_X_Lo b_X_Hi b_Y_Lo b_Y_Hi - IntKind.i64.wrap (1000000 * m_Residue))) 1000000
def datum_Carry_1 (m_A m_B m_C m_D m_E m_F m_Residue b_X_Lo b_X_Hi b_Y_Lo b_Y_Hi : Int) : Int :=
  bif !datum_Valid_0 m_A m_B m_C m_D m_E m_F m_Residue || !span_ValidBox_0 b_X_Lo b_X_Hi b_Y_Lo b_Y_Hi then 0
else
  bif
      !span_ValidBox_0 (datum_down_0 (IntKind.i64.wrap (datum_row_least_0 m_A m_B m_C b_X_Lo b_X_Hi b_Y_Lo b_Y_Hi - IntKind.i64.wrap (1000000 * m_Residue))) 1000000)
          (datum_up_0 (IntKind.i64.wrap (datum_row_most_0 m_A m_B m_C b_X_Lo b_X_Hi b_Y_Lo b_Y_Hi + IntKind.i64.wrap (1000000 * m_Residue))) 1000000)
          (datum_down_0 (IntKind.i64.wrap (datum_row_least_0 m_D m_E m_F b_X_Lo b_X_Hi b_Y_Lo b_Y_Hi - IntKind.i64.wrap (1000000 * m_Residue))) 1000000)
          (datum_up_0 (IntKind.i64.wrap (datum_row_most_0 m_D m_E m_F b_X_Lo b_X_Hi b_Y_Lo b_Y_Hi + IntKind.i64.wrap (1000000 * m_Residue))) 1000000) then
    0
  else datum_up_0 (IntKind.i64.wrap (datum_row_most_0 m_A m_B m_C b_X_Lo b_X_Hi b_Y_Lo b_Y_Hi + IntKind.i64.wrap (1000000 * m_Residue))) 1000000
def datum_Carry_2 (m_A m_B m_C m_D m_E m_F m_Residue b_X_Lo b_X_Hi b_Y_Lo b_Y_Hi : Int) : Int :=
  bif !datum_Valid_0 m_A m_B m_C m_D m_E m_F m_Residue || !span_ValidBox_0 b_X_Lo b_X_Hi b_Y_Lo b_Y_Hi then 0
else
  bif
      !span_ValidBox_0 (datum_down_0 (IntKind.i64.wrap (datum_row_least_0 m_A m_B m_C b_X_Lo b_X_Hi b_Y_Lo b_Y_Hi - IntKind.i64.wrap (1000000 * m_Residue))) 1000000)
          (datum_up_0 (IntKind.i64.wrap (datum_row_most_0 m_A m_B m_C b_X_Lo b_X_Hi b_Y_Lo b_Y_Hi + IntKind.i64.wrap (1000000 * m_Residue))) 1000000)
          (datum_down_0 (IntKind.i64.wrap (datum_row_least_0 m_D m_E m_F b_X_Lo b_X_Hi b_Y_Lo b_Y_Hi - IntKind.i64.wrap (1000000 * m_Residue))) 1000000)
          (datum_up_0 (IntKind.i64.wrap (datum_row_most_0 m_D m_E m_F b_X_Lo b_X_Hi b_Y_Lo b_Y_Hi + IntKind.i64.wrap (1000000 * m_Residue))) 1000000) then
    0
  else datum_down_0 (IntKind.i64.wrap (datum_row_least_0 m_D m_E m_F b_X_Lo b_X_Hi b_Y_Lo b_Y_Hi - IntKind.i64.wrap (1000000 * m_Residue))) 1000000
def datum_Carry_3 (m_A m_B m_C m_D m_E m_F m_Residue b_X_Lo b_X_Hi b_Y_Lo b_Y_Hi : Int) : Int :=
  bif !datum_Valid_0 m_A m_B m_C m_D m_E m_F m_Residue || !span_ValidBox_0 b_X_Lo b_X_Hi b_Y_Lo b_Y_Hi then 0
else
  bif
      !span_ValidBox_0 (datum_down_0 (IntKind.i64.wrap (datum_row_least_0 m_A m_B m_C b_X_Lo b_X_Hi b_Y_Lo b_Y_Hi - IntKind.i64.wrap (1000000 * m_Residue))) 1000000)
          (datum_up_0 (IntKind.i64.wrap (datum_row_most_0 m_A m_B m_C b_X_Lo b_X_Hi b_Y_Lo b_Y_Hi + IntKind.i64.wrap (1000000 * m_Residue))) 1000000)
          (datum_down_0 (IntKind.i64.wrap (datum_row_least_0 m_D m_E m_F b_X_Lo b_X_Hi b_Y_Lo b_Y_Hi - IntKind.i64.wrap (1000000 * m_Residue))) 1000000)
          (datum_up_0 (IntKind.i64.wrap (datum_row_most_0 m_D m_E m_F b_X_Lo b_X_Hi b_Y_Lo b_Y_Hi + IntKind.i64.wrap (1000000 * m_Residue))) 1000000) then
    0
  else datum_up_0 (IntKind.i64.wrap (datum_row_most_0 m_D m_E m_F b_X_Lo b_X_Hi b_Y_Lo b_Y_Hi + IntKind.i64.wrap (1000000 * m_Residue))) 1000000
def datum_Carry_4 (m_A m_B m_C m_D m_E m_F m_Residue b_X_Lo b_X_Hi b_Y_Lo b_Y_Hi : Int) : Int :=
  bif !datum_Valid_0 m_A m_B m_C m_D m_E m_F m_Residue || !span_ValidBox_0 b_X_Lo b_X_Hi b_Y_Lo b_Y_Hi then 1
else
  bif
      !span_ValidBox_0 (datum_down_0 (IntKind.i64.wrap (datum_row_least_0 m_A m_B m_C b_X_Lo b_X_Hi b_Y_Lo b_Y_Hi - IntKind.i64.wrap (1000000 * m_Residue))) 1000000)
          (datum_up_0 (IntKind.i64.wrap (datum_row_most_0 m_A m_B m_C b_X_Lo b_X_Hi b_Y_Lo b_Y_Hi + IntKind.i64.wrap (1000000 * m_Residue))) 1000000)
          (datum_down_0 (IntKind.i64.wrap (datum_row_least_0 m_D m_E m_F b_X_Lo b_X_Hi b_Y_Lo b_Y_Hi - IntKind.i64.wrap (1000000 * m_Residue))) 1000000)
          (datum_up_0 (IntKind.i64.wrap (datum_row_most_0 m_D m_E m_F b_X_Lo b_X_Hi b_Y_Lo b_Y_Hi + IntKind.i64.wrap (1000000 * m_Residue))) 1000000) then
    3
  else 0
theorem datum_Carry_pre_ok (m_A m_B m_C m_D m_E m_F m_Residue b_X_Lo b_X_Hi b_Y_Lo b_Y_Hi : Int) : datum_Carry_pre m_A m_B m_C m_D m_E m_F m_Residue b_X_Lo b_X_Hi b_Y_Lo b_Y_Hi := by
  unfold datum_Carry_pre
  (first | (simp; done) | (simp; omega) | (simp [IntKind.wrap_i64]; done) | (simp [IntKind.wrap_i64]; omega))
def datum_Apply_0 (m_A m_B m_C m_D m_E m_F m_Residue p_X p_Y : Int) : Int :=
  datum_Carry_0 m_A m_B m_C m_D m_E m_F m_Residue p_X p_X p_Y p_Y
def datum_Apply_1 (m_A m_B m_C m_D m_E m_F m_Residue p_X p_Y : Int) : Int :=
  datum_Carry_1 m_A m_B m_C m_D m_E m_F m_Residue p_X p_X p_Y p_Y
def datum_Apply_2 (m_A m_B m_C m_D m_E m_F m_Residue p_X p_Y : Int) : Int :=
  datum_Carry_2 m_A m_B m_C m_D m_E m_F m_Residue p_X p_X p_Y p_Y
def datum_Apply_3 (m_A m_B m_C m_D m_E m_F m_Residue p_X p_Y : Int) : Int :=
  datum_Carry_3 m_A m_B m_C m_D m_E m_F m_Residue p_X p_X p_Y p_Y
def datum_Apply_4 (m_A m_B m_C m_D m_E m_F m_Residue p_X p_Y : Int) : Int :=
  datum_Carry_4 m_A m_B m_C m_D m_E m_F m_Residue p_X p_X p_Y p_Y
end Go.Proofs.Ytbopeaebdlmapaa
