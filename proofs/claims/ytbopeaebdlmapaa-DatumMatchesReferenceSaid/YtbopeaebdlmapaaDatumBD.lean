/- Written by program (wip/gen.py): what the Go functions compute, as the executor reads it off their code. -/
import Derived.Test.YtbopeaebdlmapaaDatumV
set_option linter.unusedVariables false
namespace Go.Proofs.Ytbopeaebdlmapaa
open Go Go.Sx
def datum_Back_pre (m_A m_B m_C m_D m_E m_F m_Residue b_X_Lo b_X_Hi b_Y_Lo b_Y_Hi : Int) : Prop :=
  (((!datum_Valid_0 m_A m_B m_C m_D m_E m_F m_Residue || !span_ValidBox_0 b_X_Lo b_X_Hi b_Y_Lo b_Y_Hi) = false) → ((((((datum_det_0 m_A m_B m_C m_D m_E m_F m_Residue : Int) = 0) → (False)) ∧ (((datum_det_0 m_A m_B m_C m_D m_E m_F m_Residue : Int) = 0) → (False))) ∧ ((((datum_det_0 m_A m_B m_C m_D m_E m_F m_Residue : Int) = 0) → (False)) ∧ (((datum_det_0 m_A m_B m_C m_D m_E m_F m_Residue : Int) = 0) → (False)))) ∧ (((((datum_det_0 m_A m_B m_C m_D m_E m_F m_Residue : Int) = 0) → (False)) ∧ (((datum_det_0 m_A m_B m_C m_D m_E m_F m_Residue : Int) = 0) → (False))) ∧ ((((datum_det_0 m_A m_B m_C m_D m_E m_F m_Residue : Int) = 0) → (False)) ∧ (((datum_det_0 m_A m_B m_C m_D m_E m_F m_Residue : Int) = 0) → (False))))))
def datum_Back_0 (m_A m_B m_C m_D m_E m_F m_Residue b_X_Lo b_X_Hi b_Y_Lo b_Y_Hi : Int) : Int :=
  bif !datum_Valid_0 m_A m_B m_C m_D m_E m_F m_Residue || !span_ValidBox_0 b_X_Lo b_X_Hi b_Y_Lo b_Y_Hi then 0
else
  bif
      span_MeetBox_4
          (imax
            (datum_up_0
              (IntKind.i64.wrap
                (1000000 *
                  datum_row_least_0 m_E (IntKind.i64.wrap (0 - m_B)) 0 (IntKind.i64.wrap (IntKind.i64.wrap (b_X_Lo - m_C) - m_Residue)) (IntKind.i64.wrap (IntKind.i64.wrap (b_X_Hi - m_C) + m_Residue))
                    (IntKind.i64.wrap (IntKind.i64.wrap (b_Y_Lo - m_F) - m_Residue)) (IntKind.i64.wrap (IntKind.i64.wrap (b_Y_Hi - m_F) + m_Residue))))
              (datum_det_0 m_A m_B m_C m_D m_E m_F m_Residue))
            (-1000000))
          (imin
            (datum_down_0
              (IntKind.i64.wrap
                (1000000 *
                  datum_row_most_0 m_E (IntKind.i64.wrap (0 - m_B)) 0 (IntKind.i64.wrap (IntKind.i64.wrap (b_X_Lo - m_C) - m_Residue)) (IntKind.i64.wrap (IntKind.i64.wrap (b_X_Hi - m_C) + m_Residue))
                    (IntKind.i64.wrap (IntKind.i64.wrap (b_Y_Lo - m_F) - m_Residue)) (IntKind.i64.wrap (IntKind.i64.wrap (b_Y_Hi - m_F) + m_Residue))))
              (datum_det_0 m_A m_B m_C m_D m_E m_F m_Residue))
            1000000)
          (imax
            (datum_up_0
              (IntKind.i64.wrap
                (1000000 *
                  datum_row_least_0 (IntKind.i64.wrap (0 - m_D)) m_A 0 (IntKind.i64.wrap (IntKind.i64.wrap (b_X_Lo - m_C) - m_Residue)) (IntKind.i64.wrap (IntKind.i64.wrap (b_X_Hi - m_C) + m_Residue))
                    (IntKind.i64.wrap (IntKind.i64.wrap (b_Y_Lo - m_F) - m_Residue)) (IntKind.i64.wrap (IntKind.i64.wrap (b_Y_Hi - m_F) + m_Residue))))
              (datum_det_0 m_A m_B m_C m_D m_E m_F m_Residue))
            (-1000000))
          (imin
            (datum_down_0
              (IntKind.i64.wrap
                (1000000 *
                  datum_row_most_0 (IntKind.i64.wrap (0 - m_D)) m_A 0 (IntKind.i64.wrap (IntKind.i64.wrap (b_X_Lo - m_C) - m_Residue)) (IntKind.i64.wrap (IntKind.i64.wrap (b_X_Hi - m_C) + m_Residue))
                    (IntKind.i64.wrap (IntKind.i64.wrap (b_Y_Lo - m_F) - m_Residue)) (IntKind.i64.wrap (IntKind.i64.wrap (b_Y_Hi - m_F) + m_Residue))))
              (datum_det_0 m_A m_B m_C m_D m_E m_F m_Residue))
            1000000)
          (-1000000) 1000000 (-1000000) 1000000 !=
        0 then
    0
  else
    span_MeetBox_0
      (imax
        (datum_up_0
          (IntKind.i64.wrap
            (1000000 *
              datum_row_least_0 m_E (IntKind.i64.wrap (0 - m_B)) 0 (IntKind.i64.wrap (IntKind.i64.wrap (b_X_Lo - m_C) - m_Residue)) (IntKind.i64.wrap (IntKind.i64.wrap (b_X_Hi - m_C) + m_Residue))
                (IntKind.i64.wrap (IntKind.i64.wrap (b_Y_Lo - m_F) - m_Residue)) (IntKind.i64.wrap (IntKind.i64.wrap (b_Y_Hi - m_F) + m_Residue))))
          (datum_det_0 m_A m_B m_C m_D m_E m_F m_Residue))
        (-1000000))
      (imin
        (datum_down_0
          (IntKind.i64.wrap
            (1000000 *
              datum_row_most_0 m_E (IntKind.i64.wrap (0 - m_B)) 0 (IntKind.i64.wrap (IntKind.i64.wrap (b_X_Lo - m_C) - m_Residue)) (IntKind.i64.wrap (IntKind.i64.wrap (b_X_Hi - m_C) + m_Residue))
                (IntKind.i64.wrap (IntKind.i64.wrap (b_Y_Lo - m_F) - m_Residue)) (IntKind.i64.wrap (IntKind.i64.wrap (b_Y_Hi - m_F) + m_Residue))))
          (datum_det_0 m_A m_B m_C m_D m_E m_F m_Residue))
        1000000)
      (imax
        (datum_up_0
          (IntKind.i64.wrap
            (1000000 *
              datum_row_least_0 (IntKind.i64.wrap (0 - m_D)) m_A 0 (IntKind.i64.wrap (IntKind.i64.wrap (b_X_Lo - m_C) - m_Residue)) (IntKind.i64.wrap (IntKind.i64.wrap (b_X_Hi - m_C) + m_Residue))
                (IntKind.i64.wrap (IntKind.i64.wrap (b_Y_Lo - m_F) - m_Residue)) (IntKind.i64.wrap (IntKind.i64.wrap (b_Y_Hi - m_F) + m_Residue))))
          (datum_det_0 m_A m_B m_C m_D m_E m_F m_Residue))
        (-1000000))
      (imin
        (datum_down_0
          (IntKind.i64.wrap
            (1000000 *
              datum_row_most_0 (IntKind.i64.wrap (0 - m_D)) m_A 0 (IntKind.i64.wrap (IntKind.i64.wrap (b_X_Lo - m_C) - m_Residue)) (IntKind.i64.wrap (IntKind.i64.wrap (b_X_Hi - m_C) + m_Residue))
                (IntKind.i64.wrap (IntKind.i64.wrap (b_Y_Lo - m_F) - m_Residue)) (IntKind.i64.wrap (IntKind.i64.wrap (b_Y_Hi - m_F) + m_Residue))))
          (datum_det_0 m_A m_B m_C m_D m_E m_F m_Residue))
        1000000)
      (-1000000) 1000000 (-1000000) 1000000
def datum_Back_1 (m_A m_B m_C m_D m_E m_F m_Residue b_X_Lo b_X_Hi b_Y_Lo b_Y_Hi : Int) : Int :=
  bif !datum_Valid_0 m_A m_B m_C m_D m_E m_F m_Residue || !span_ValidBox_0 b_X_Lo b_X_Hi b_Y_Lo b_Y_Hi then 0
else
  bif
      span_MeetBox_4
          (imax
            (datum_up_0
              (IntKind.i64.wrap
                (1000000 *
                  datum_row_least_0 m_E (IntKind.i64.wrap (0 - m_B)) 0 (IntKind.i64.wrap (IntKind.i64.wrap (b_X_Lo - m_C) - m_Residue)) (IntKind.i64.wrap (IntKind.i64.wrap (b_X_Hi - m_C) + m_Residue))
                    (IntKind.i64.wrap (IntKind.i64.wrap (b_Y_Lo - m_F) - m_Residue)) (IntKind.i64.wrap (IntKind.i64.wrap (b_Y_Hi - m_F) + m_Residue))))
              (datum_det_0 m_A m_B m_C m_D m_E m_F m_Residue))
            (-1000000))
          (imin
            (datum_down_0
              (IntKind.i64.wrap
                (1000000 *
                  datum_row_most_0 m_E (IntKind.i64.wrap (0 - m_B)) 0 (IntKind.i64.wrap (IntKind.i64.wrap (b_X_Lo - m_C) - m_Residue)) (IntKind.i64.wrap (IntKind.i64.wrap (b_X_Hi - m_C) + m_Residue))
                    (IntKind.i64.wrap (IntKind.i64.wrap (b_Y_Lo - m_F) - m_Residue)) (IntKind.i64.wrap (IntKind.i64.wrap (b_Y_Hi - m_F) + m_Residue))))
              (datum_det_0 m_A m_B m_C m_D m_E m_F m_Residue))
            1000000)
          (imax
            (datum_up_0
              (IntKind.i64.wrap
                (1000000 *
                  datum_row_least_0 (IntKind.i64.wrap (0 - m_D)) m_A 0 (IntKind.i64.wrap (IntKind.i64.wrap (b_X_Lo - m_C) - m_Residue)) (IntKind.i64.wrap (IntKind.i64.wrap (b_X_Hi - m_C) + m_Residue))
                    (IntKind.i64.wrap (IntKind.i64.wrap (b_Y_Lo - m_F) - m_Residue)) (IntKind.i64.wrap (IntKind.i64.wrap (b_Y_Hi - m_F) + m_Residue))))
              (datum_det_0 m_A m_B m_C m_D m_E m_F m_Residue))
            (-1000000))
          (imin
            (datum_down_0
              (IntKind.i64.wrap
                (1000000 *
                  datum_row_most_0 (IntKind.i64.wrap (0 - m_D)) m_A 0 (IntKind.i64.wrap (IntKind.i64.wrap (b_X_Lo - m_C) - m_Residue)) (IntKind.i64.wrap (IntKind.i64.wrap (b_X_Hi - m_C) + m_Residue))
                    (IntKind.i64.wrap (IntKind.i64.wrap (b_Y_Lo - m_F) - m_Residue)) (IntKind.i64.wrap (IntKind.i64.wrap (b_Y_Hi - m_F) + m_Residue))))
              (datum_det_0 m_A m_B m_C m_D m_E m_F m_Residue))
            1000000)
          (-1000000) 1000000 (-1000000) 1000000 !=
        0 then
    0
  else
    span_MeetBox_1
      (imax
        (datum_up_0
          (IntKind.i64.wrap
            (1000000 *
              datum_row_least_0 m_E (IntKind.i64.wrap (0 - m_B)) 0 (IntKind.i64.wrap (IntKind.i64.wrap (b_X_Lo - m_C) - m_Residue)) (IntKind.i64.wrap (IntKind.i64.wrap (b_X_Hi - m_C) + m_Residue))
                (IntKind.i64.wrap (IntKind.i64.wrap (b_Y_Lo - m_F) - m_Residue)) (IntKind.i64.wrap (IntKind.i64.wrap (b_Y_Hi - m_F) + m_Residue))))
          (datum_det_0 m_A m_B m_C m_D m_E m_F m_Residue))
        (-1000000))
      (imin
        (datum_down_0
          (IntKind.i64.wrap
            (1000000 *
              datum_row_most_0 m_E (IntKind.i64.wrap (0 - m_B)) 0 (IntKind.i64.wrap (IntKind.i64.wrap (b_X_Lo - m_C) - m_Residue)) (IntKind.i64.wrap (IntKind.i64.wrap (b_X_Hi - m_C) + m_Residue))
                (IntKind.i64.wrap (IntKind.i64.wrap (b_Y_Lo - m_F) - m_Residue)) (IntKind.i64.wrap (IntKind.i64.wrap (b_Y_Hi - m_F) + m_Residue))))
          (datum_det_0 m_A m_B m_C m_D m_E m_F m_Residue))
        1000000)
      (imax
        (datum_up_0
          (IntKind.i64.wrap
            (1000000 *
              datum_row_least_0 (IntKind.i64.wrap (0 - m_D)) m_A 0 (IntKind.i64.wrap (IntKind.i64.wrap (b_X_Lo - m_C) - m_Residue)) (IntKind.i64.wrap (IntKind.i64.wrap (b_X_Hi - m_C) + m_Residue))
                (IntKind.i64.wrap (IntKind.i64.wrap (b_Y_Lo - m_F) - m_Residue)) (IntKind.i64.wrap (IntKind.i64.wrap (b_Y_Hi - m_F) + m_Residue))))
          (datum_det_0 m_A m_B m_C m_D m_E m_F m_Residue))
        (-1000000))
      (imin
        (datum_down_0
          (IntKind.i64.wrap
            (1000000 *
              datum_row_most_0 (IntKind.i64.wrap (0 - m_D)) m_A 0 (IntKind.i64.wrap (IntKind.i64.wrap (b_X_Lo - m_C) - m_Residue)) (IntKind.i64.wrap (IntKind.i64.wrap (b_X_Hi - m_C) + m_Residue))
                (IntKind.i64.wrap (IntKind.i64.wrap (b_Y_Lo - m_F) - m_Residue)) (IntKind.i64.wrap (IntKind.i64.wrap (b_Y_Hi - m_F) + m_Residue))))
          (datum_det_0 m_A m_B m_C m_D m_E m_F m_Residue))
        1000000)
      (-1000000) 1000000 (-1000000) 1000000
def datum_Back_2 (m_A m_B m_C m_D m_E m_F m_Residue b_X_Lo b_X_Hi b_Y_Lo b_Y_Hi : Int) : Int :=
  bif !datum_Valid_0 m_A m_B m_C m_D m_E m_F m_Residue || !span_ValidBox_0 b_X_Lo b_X_Hi b_Y_Lo b_Y_Hi then 0
else
  bif
      span_MeetBox_4
          (imax
            (datum_up_0
              (IntKind.i64.wrap
                (1000000 *
                  datum_row_least_0 m_E (IntKind.i64.wrap (0 - m_B)) 0 (IntKind.i64.wrap (IntKind.i64.wrap (b_X_Lo - m_C) - m_Residue)) (IntKind.i64.wrap (IntKind.i64.wrap (b_X_Hi - m_C) + m_Residue))
                    (IntKind.i64.wrap (IntKind.i64.wrap (b_Y_Lo - m_F) - m_Residue)) (IntKind.i64.wrap (IntKind.i64.wrap (b_Y_Hi - m_F) + m_Residue))))
              (datum_det_0 m_A m_B m_C m_D m_E m_F m_Residue))
            (-1000000))
          (imin
            (datum_down_0
              (IntKind.i64.wrap
                (1000000 *
                  datum_row_most_0 m_E (IntKind.i64.wrap (0 - m_B)) 0 (IntKind.i64.wrap (IntKind.i64.wrap (b_X_Lo - m_C) - m_Residue)) (IntKind.i64.wrap (IntKind.i64.wrap (b_X_Hi - m_C) + m_Residue))
                    (IntKind.i64.wrap (IntKind.i64.wrap (b_Y_Lo - m_F) - m_Residue)) (IntKind.i64.wrap (IntKind.i64.wrap (b_Y_Hi - m_F) + m_Residue))))
              (datum_det_0 m_A m_B m_C m_D m_E m_F m_Residue))
            1000000)
          (imax
            (datum_up_0
              (IntKind.i64.wrap
                (1000000 *
                  datum_row_least_0 (IntKind.i64.wrap (0 - m_D)) m_A 0 (IntKind.i64.wrap (IntKind.i64.wrap (b_X_Lo - m_C) - m_Residue)) (IntKind.i64.wrap (IntKind.i64.wrap (b_X_Hi - m_C) + m_Residue))
                    (IntKind.i64.wrap (IntKind.i64.wrap (b_Y_Lo - m_F) - m_Residue)) (IntKind.i64.wrap (IntKind.i64.wrap (b_Y_Hi - m_F) + m_Residue))))
              (datum_det_0 m_A m_B m_C m_D m_E m_F m_Residue))
            (-1000000))
          (imin
            (datum_down_0
              (IntKind.i64.wrap
                (1000000 *
                  datum_row_most_0 (IntKind.i64.wrap (0 - m_D)) m_A 0 (IntKind.i64.wrap (IntKind.i64.wrap (b_X_Lo - m_C) - m_Residue)) (IntKind.i64.wrap (IntKind.i64.wrap (b_X_Hi - m_C) + m_Residue))
                    (IntKind.i64.wrap (IntKind.i64.wrap (b_Y_Lo - m_F) - m_Residue)) (IntKind.i64.wrap (IntKind.i64.wrap (b_Y_Hi - m_F) + m_Residue))))
              (datum_det_0 m_A m_B m_C m_D m_E m_F m_Residue))
            1000000)
          (-1000000) 1000000 (-1000000) 1000000 !=
        0 then
    0
  else
    span_MeetBox_2
      (imax
        (datum_up_0
          (IntKind.i64.wrap
            (1000000 *
              datum_row_least_0 m_E (IntKind.i64.wrap (0 - m_B)) 0 (IntKind.i64.wrap (IntKind.i64.wrap (b_X_Lo - m_C) - m_Residue)) (IntKind.i64.wrap (IntKind.i64.wrap (b_X_Hi - m_C) + m_Residue))
                (IntKind.i64.wrap (IntKind.i64.wrap (b_Y_Lo - m_F) - m_Residue)) (IntKind.i64.wrap (IntKind.i64.wrap (b_Y_Hi - m_F) + m_Residue))))
          (datum_det_0 m_A m_B m_C m_D m_E m_F m_Residue))
        (-1000000))
      (imin
        (datum_down_0
          (IntKind.i64.wrap
            (1000000 *
              datum_row_most_0 m_E (IntKind.i64.wrap (0 - m_B)) 0 (IntKind.i64.wrap (IntKind.i64.wrap (b_X_Lo - m_C) - m_Residue)) (IntKind.i64.wrap (IntKind.i64.wrap (b_X_Hi - m_C) + m_Residue))
                (IntKind.i64.wrap (IntKind.i64.wrap (b_Y_Lo - m_F) - m_Residue)) (IntKind.i64.wrap (IntKind.i64.wrap (b_Y_Hi - m_F) + m_Residue))))
          (datum_det_0 m_A m_B m_C m_D m_E m_F m_Residue))
        1000000)
      (imax
        (datum_up_0
          (IntKind.i64.wrap
            (1000000 *
              datum_row_least_0 (IntKind.i64.wrap (0 - m_D)) m_A 0 (IntKind.i64.wrap (IntKind.i64.wrap (b_X_Lo - m_C) - m_Residue)) (IntKind.i64.wrap (IntKind.i64.wrap (b_X_Hi - m_C) + m_Residue))
                (IntKind.i64.wrap (IntKind.i64.wrap (b_Y_Lo - m_F) - m_Residue)) (IntKind.i64.wrap (IntKind.i64.wrap (b_Y_Hi - m_F) + m_Residue))))
          (datum_det_0 m_A m_B m_C m_D m_E m_F m_Residue))
        (-1000000))
      (imin
        (datum_down_0
          (IntKind.i64.wrap
            (1000000 *
              datum_row_most_0 (IntKind.i64.wrap (0 - m_D)) m_A 0 (IntKind.i64.wrap (IntKind.i64.wrap (b_X_Lo - m_C) - m_Residue)) (IntKind.i64.wrap (IntKind.i64.wrap (b_X_Hi - m_C) + m_Residue))
                (IntKind.i64.wrap (IntKind.i64.wrap (b_Y_Lo - m_F) - m_Residue)) (IntKind.i64.wrap (IntKind.i64.wrap (b_Y_Hi - m_F) + m_Residue))))
          (datum_det_0 m_A m_B m_C m_D m_E m_F m_Residue))
        1000000)
      (-1000000) 1000000 (-1000000) 1000000
def datum_Back_3 (m_A m_B m_C m_D m_E m_F m_Residue b_X_Lo b_X_Hi b_Y_Lo b_Y_Hi : Int) : Int :=
  bif !datum_Valid_0 m_A m_B m_C m_D m_E m_F m_Residue || !span_ValidBox_0 b_X_Lo b_X_Hi b_Y_Lo b_Y_Hi then 0
else
  bif
      span_MeetBox_4
          (imax
            (datum_up_0
              (IntKind.i64.wrap
                (1000000 *
                  datum_row_least_0 m_E (IntKind.i64.wrap (0 - m_B)) 0 (IntKind.i64.wrap (IntKind.i64.wrap (b_X_Lo - m_C) - m_Residue)) (IntKind.i64.wrap (IntKind.i64.wrap (b_X_Hi - m_C) + m_Residue))
                    (IntKind.i64.wrap (IntKind.i64.wrap (b_Y_Lo - m_F) - m_Residue)) (IntKind.i64.wrap (IntKind.i64.wrap (b_Y_Hi - m_F) + m_Residue))))
              (datum_det_0 m_A m_B m_C m_D m_E m_F m_Residue))
            (-1000000))
          (imin
            (datum_down_0
              (IntKind.i64.wrap
                (1000000 *
                  datum_row_most_0 m_E (IntKind.i64.wrap (0 - m_B)) 0 (IntKind.i64.wrap (IntKind.i64.wrap (b_X_Lo - m_C) - m_Residue)) (IntKind.i64.wrap (IntKind.i64.wrap (b_X_Hi - m_C) + m_Residue))
                    (IntKind.i64.wrap (IntKind.i64.wrap (b_Y_Lo - m_F) - m_Residue)) (IntKind.i64.wrap (IntKind.i64.wrap (b_Y_Hi - m_F) + m_Residue))))
              (datum_det_0 m_A m_B m_C m_D m_E m_F m_Residue))
            1000000)
          (imax
            (datum_up_0
              (IntKind.i64.wrap
                (1000000 *
                  datum_row_least_0 (IntKind.i64.wrap (0 - m_D)) m_A 0 (IntKind.i64.wrap (IntKind.i64.wrap (b_X_Lo - m_C) - m_Residue)) (IntKind.i64.wrap (IntKind.i64.wrap (b_X_Hi - m_C) + m_Residue))
                    (IntKind.i64.wrap (IntKind.i64.wrap (b_Y_Lo - m_F) - m_Residue)) (IntKind.i64.wrap (IntKind.i64.wrap (b_Y_Hi - m_F) + m_Residue))))
              (datum_det_0 m_A m_B m_C m_D m_E m_F m_Residue))
            (-1000000))
          (imin
            (datum_down_0
              (IntKind.i64.wrap
                (1000000 *
                  datum_row_most_0 (IntKind.i64.wrap (0 - m_D)) m_A 0 (IntKind.i64.wrap (IntKind.i64.wrap (b_X_Lo - m_C) - m_Residue)) (IntKind.i64.wrap (IntKind.i64.wrap (b_X_Hi - m_C) + m_Residue))
                    (IntKind.i64.wrap (IntKind.i64.wrap (b_Y_Lo - m_F) - m_Residue)) (IntKind.i64.wrap (IntKind.i64.wrap (b_Y_Hi - m_F) + m_Residue))))
              (datum_det_0 m_A m_B m_C m_D m_E m_F m_Residue))
            1000000)
          (-1000000) 1000000 (-1000000) 1000000 !=
        0 then
    0
  else
    span_MeetBox_3
      (imax
        (datum_up_0
          (IntKind.i64.wrap
            (1000000 *
              datum_row_least_0 m_E (IntKind.i64.wrap (0 - m_B)) 0 (IntKind.i64.wrap (IntKind.i64.wrap (b_X_Lo - m_C) - m_Residue)) (IntKind.i64.wrap (IntKind.i64.wrap (b_X_Hi - m_C) + m_Residue))
                (IntKind.i64.wrap (IntKind.i64.wrap (b_Y_Lo - m_F) - m_Residue)) (IntKind.i64.wrap (IntKind.i64.wrap (b_Y_Hi - m_F) + m_Residue))))
          (datum_det_0 m_A m_B m_C m_D m_E m_F m_Residue))
        (-1000000))
      (imin
        (datum_down_0
          (IntKind.i64.wrap
            (1000000 *
              datum_row_most_0 m_E (IntKind.i64.wrap (0 - m_B)) 0 (IntKind.i64.wrap (IntKind.i64.wrap (b_X_Lo - m_C) - m_Residue)) (IntKind.i64.wrap (IntKind.i64.wrap (b_X_Hi - m_C) + m_Residue))
                (IntKind.i64.wrap (IntKind.i64.wrap (b_Y_Lo - m_F) - m_Residue)) (IntKind.i64.wrap (IntKind.i64.wrap (b_Y_Hi - m_F) + m_Residue))))
          (datum_det_0 m_A m_B m_C m_D m_E m_F m_Residue))
        1000000)
      (imax
        (datum_up_0
          (IntKind.i64.wrap
            (1000000 *
              datum_row_least_0 (IntKind.i64.wrap (0 - m_D)) m_A 0 (IntKind.i64.wrap (IntKind.i64.wrap (b_X_Lo - m_C) - m_Residue)) (IntKind.i64.wrap (IntKind.i64.wrap (b_X_Hi - m_C) + m_Residue))
                (IntKind.i64.wrap (IntKind.i64.wrap (b_Y_Lo - m_F) - m_Residue)) (IntKind.i64.wrap (IntKind.i64.wrap (b_Y_Hi - m_F) + m_Residue))))
          (datum_det_0 m_A m_B m_C m_D m_E m_F m_Residue))
        (-1000000))
      (imin
        (datum_down_0
          (IntKind.i64.wrap
            (1000000 *
              datum_row_most_0 (IntKind.i64.wrap (0 - m_D)) m_A 0 (IntKind.i64.wrap (IntKind.i64.wrap (b_X_Lo - m_C) - m_Residue)) (IntKind.i64.wrap (IntKind.i64.wrap (b_X_Hi - m_C) + m_Residue))
                (IntKind.i64.wrap (IntKind.i64.wrap (b_Y_Lo - m_F) - m_Residue)) (IntKind.i64.wrap (IntKind.i64.wrap (b_Y_Hi - m_F) + m_Residue))))
          (datum_det_0 m_A m_B m_C m_D m_E m_F m_Residue))
        1000000)
      (-1000000) 1000000 (-1000000) 1000000
def datum_Back_4 (m_A m_B m_C m_D m_E m_F m_Residue b_X_Lo b_X_Hi b_Y_Lo b_Y_Hi : Int) : Int :=
  bif !datum_Valid_0 m_A m_B m_C m_D m_E m_F m_Residue || !span_ValidBox_0 b_X_Lo b_X_Hi b_Y_Lo b_Y_Hi then 1
else
  bif
      span_MeetBox_4
          (imax
            (datum_up_0
              (IntKind.i64.wrap
                (1000000 *
                  datum_row_least_0 m_E (IntKind.i64.wrap (0 - m_B)) 0 (IntKind.i64.wrap (IntKind.i64.wrap (b_X_Lo - m_C) - m_Residue)) (IntKind.i64.wrap (IntKind.i64.wrap (b_X_Hi - m_C) + m_Residue))
                    (IntKind.i64.wrap (IntKind.i64.wrap (b_Y_Lo - m_F) - m_Residue)) (IntKind.i64.wrap (IntKind.i64.wrap (b_Y_Hi - m_F) + m_Residue))))
              (datum_det_0 m_A m_B m_C m_D m_E m_F m_Residue))
            (-1000000))
          (imin
            (datum_down_0
              (IntKind.i64.wrap
                (1000000 *
                  datum_row_most_0 m_E (IntKind.i64.wrap (0 - m_B)) 0 (IntKind.i64.wrap (IntKind.i64.wrap (b_X_Lo - m_C) - m_Residue)) (IntKind.i64.wrap (IntKind.i64.wrap (b_X_Hi - m_C) + m_Residue))
                    (IntKind.i64.wrap (IntKind.i64.wrap (b_Y_Lo - m_F) - m_Residue)) (IntKind.i64.wrap (IntKind.i64.wrap (b_Y_Hi - m_F) + m_Residue))))
              (datum_det_0 m_A m_B m_C m_D m_E m_F m_Residue))
            1000000)
          (imax
            (datum_up_0
              (IntKind.i64.wrap
                (1000000 *
                  datum_row_least_0 (IntKind.i64.wrap (0 - m_D)) m_A 0 (IntKind.i64.wrap (IntKind.i64.wrap (b_X_Lo - m_C) - m_Residue)) (IntKind.i64.wrap (IntKind.i64.wrap (b_X_Hi - m_C) + m_Residue))
                    (IntKind.i64.wrap (IntKind.i64.wrap (b_Y_Lo - m_F) - m_Residue)) (IntKind.i64.wrap (IntKind.i64.wrap (b_Y_Hi - m_F) + m_Residue))))
              (datum_det_0 m_A m_B m_C m_D m_E m_F m_Residue))
            (-1000000))
          (imin
            (datum_down_0
              (IntKind.i64.wrap
                (1000000 *
                  datum_row_most_0 (IntKind.i64.wrap (0 - m_D)) m_A 0 (IntKind.i64.wrap (IntKind.i64.wrap (b_X_Lo - m_C) - m_Residue)) (IntKind.i64.wrap (IntKind.i64.wrap (b_X_Hi - m_C) + m_Residue))
                    (IntKind.i64.wrap (IntKind.i64.wrap (b_Y_Lo - m_F) - m_Residue)) (IntKind.i64.wrap (IntKind.i64.wrap (b_Y_Hi - m_F) + m_Residue))))
              (datum_det_0 m_A m_B m_C m_D m_E m_F m_Residue))
            1000000)
          (-1000000) 1000000 (-1000000) 1000000 !=
        0 then
    4
  else 0
theorem datum_Back_pre_ok (m_A m_B m_C m_D m_E m_F m_Residue b_X_Lo b_X_Hi b_Y_Lo b_Y_Hi : Int) : datum_Back_pre m_A m_B m_C m_D m_E m_F m_Residue b_X_Lo b_X_Hi b_Y_Lo b_Y_Hi := by
  unfold datum_Back_pre
  (intro h; have hd := ne_of_det (det_of_valid (vb_left h)); simp [hd])
def datum_Then_0 (m_A m_B m_C m_D m_E m_F m_Residue n_A n_B n_C n_D n_E n_F n_Residue : Int) : Int :=
  bif !datum_Valid_0 m_A m_B m_C m_D m_E m_F m_Residue || !datum_Valid_0 n_A n_B n_C n_D n_E n_F n_Residue then 0
else
  datum_affine_write_0 (datum_row_after_0 n_A n_B n_C m_A m_B m_C m_D m_E m_F m_Residue) (datum_row_after_1 n_A n_B n_C m_A m_B m_C m_D m_E m_F m_Residue)
    (datum_row_after_2 n_A n_B n_C m_A m_B m_C m_D m_E m_F m_Residue) (datum_row_after_0 n_D n_E n_F m_A m_B m_C m_D m_E m_F m_Residue)
    (datum_row_after_1 n_D n_E n_F m_A m_B m_C m_D m_E m_F m_Residue) (datum_row_after_2 n_D n_E n_F m_A m_B m_C m_D m_E m_F m_Residue)
    (IntKind.i64.wrap (IntKind.i64.wrap (datum_rows_grown_0 n_A n_B n_C n_D n_E n_F m_Residue 0 + n_Residue) + 2))
def datum_Then_1 (m_A m_B m_C m_D m_E m_F m_Residue n_A n_B n_C n_D n_E n_F n_Residue : Int) : Int :=
  bif !datum_Valid_0 m_A m_B m_C m_D m_E m_F m_Residue || !datum_Valid_0 n_A n_B n_C n_D n_E n_F n_Residue then 0
else
  datum_affine_write_1 (datum_row_after_0 n_A n_B n_C m_A m_B m_C m_D m_E m_F m_Residue) (datum_row_after_1 n_A n_B n_C m_A m_B m_C m_D m_E m_F m_Residue)
    (datum_row_after_2 n_A n_B n_C m_A m_B m_C m_D m_E m_F m_Residue) (datum_row_after_0 n_D n_E n_F m_A m_B m_C m_D m_E m_F m_Residue)
    (datum_row_after_1 n_D n_E n_F m_A m_B m_C m_D m_E m_F m_Residue) (datum_row_after_2 n_D n_E n_F m_A m_B m_C m_D m_E m_F m_Residue)
    (IntKind.i64.wrap (IntKind.i64.wrap (datum_rows_grown_0 n_A n_B n_C n_D n_E n_F m_Residue 0 + n_Residue) + 2))
def datum_Then_2 (m_A m_B m_C m_D m_E m_F m_Residue n_A n_B n_C n_D n_E n_F n_Residue : Int) : Int :=
  bif !datum_Valid_0 m_A m_B m_C m_D m_E m_F m_Residue || !datum_Valid_0 n_A n_B n_C n_D n_E n_F n_Residue then 0
else
  datum_affine_write_2 (datum_row_after_0 n_A n_B n_C m_A m_B m_C m_D m_E m_F m_Residue) (datum_row_after_1 n_A n_B n_C m_A m_B m_C m_D m_E m_F m_Residue)
    (datum_row_after_2 n_A n_B n_C m_A m_B m_C m_D m_E m_F m_Residue) (datum_row_after_0 n_D n_E n_F m_A m_B m_C m_D m_E m_F m_Residue)
    (datum_row_after_1 n_D n_E n_F m_A m_B m_C m_D m_E m_F m_Residue) (datum_row_after_2 n_D n_E n_F m_A m_B m_C m_D m_E m_F m_Residue)
    (IntKind.i64.wrap (IntKind.i64.wrap (datum_rows_grown_0 n_A n_B n_C n_D n_E n_F m_Residue 0 + n_Residue) + 2))
def datum_Then_3 (m_A m_B m_C m_D m_E m_F m_Residue n_A n_B n_C n_D n_E n_F n_Residue : Int) : Int :=
  bif !datum_Valid_0 m_A m_B m_C m_D m_E m_F m_Residue || !datum_Valid_0 n_A n_B n_C n_D n_E n_F n_Residue then 0
else
  datum_affine_write_3 (datum_row_after_0 n_A n_B n_C m_A m_B m_C m_D m_E m_F m_Residue) (datum_row_after_1 n_A n_B n_C m_A m_B m_C m_D m_E m_F m_Residue)
    (datum_row_after_2 n_A n_B n_C m_A m_B m_C m_D m_E m_F m_Residue) (datum_row_after_0 n_D n_E n_F m_A m_B m_C m_D m_E m_F m_Residue)
    (datum_row_after_1 n_D n_E n_F m_A m_B m_C m_D m_E m_F m_Residue) (datum_row_after_2 n_D n_E n_F m_A m_B m_C m_D m_E m_F m_Residue)
    (IntKind.i64.wrap (IntKind.i64.wrap (datum_rows_grown_0 n_A n_B n_C n_D n_E n_F m_Residue 0 + n_Residue) + 2))
def datum_Then_4 (m_A m_B m_C m_D m_E m_F m_Residue n_A n_B n_C n_D n_E n_F n_Residue : Int) : Int :=
  bif !datum_Valid_0 m_A m_B m_C m_D m_E m_F m_Residue || !datum_Valid_0 n_A n_B n_C n_D n_E n_F n_Residue then 0
else
  datum_affine_write_4 (datum_row_after_0 n_A n_B n_C m_A m_B m_C m_D m_E m_F m_Residue) (datum_row_after_1 n_A n_B n_C m_A m_B m_C m_D m_E m_F m_Residue)
    (datum_row_after_2 n_A n_B n_C m_A m_B m_C m_D m_E m_F m_Residue) (datum_row_after_0 n_D n_E n_F m_A m_B m_C m_D m_E m_F m_Residue)
    (datum_row_after_1 n_D n_E n_F m_A m_B m_C m_D m_E m_F m_Residue) (datum_row_after_2 n_D n_E n_F m_A m_B m_C m_D m_E m_F m_Residue)
    (IntKind.i64.wrap (IntKind.i64.wrap (datum_rows_grown_0 n_A n_B n_C n_D n_E n_F m_Residue 0 + n_Residue) + 2))
def datum_Then_5 (m_A m_B m_C m_D m_E m_F m_Residue n_A n_B n_C n_D n_E n_F n_Residue : Int) : Int :=
  bif !datum_Valid_0 m_A m_B m_C m_D m_E m_F m_Residue || !datum_Valid_0 n_A n_B n_C n_D n_E n_F n_Residue then 0
else
  datum_affine_write_5 (datum_row_after_0 n_A n_B n_C m_A m_B m_C m_D m_E m_F m_Residue) (datum_row_after_1 n_A n_B n_C m_A m_B m_C m_D m_E m_F m_Residue)
    (datum_row_after_2 n_A n_B n_C m_A m_B m_C m_D m_E m_F m_Residue) (datum_row_after_0 n_D n_E n_F m_A m_B m_C m_D m_E m_F m_Residue)
    (datum_row_after_1 n_D n_E n_F m_A m_B m_C m_D m_E m_F m_Residue) (datum_row_after_2 n_D n_E n_F m_A m_B m_C m_D m_E m_F m_Residue)
    (IntKind.i64.wrap (IntKind.i64.wrap (datum_rows_grown_0 n_A n_B n_C n_D n_E n_F m_Residue 0 + n_Residue) + 2))
def datum_Then_6 (m_A m_B m_C m_D m_E m_F m_Residue n_A n_B n_C n_D n_E n_F n_Residue : Int) : Int :=
  bif !datum_Valid_0 m_A m_B m_C m_D m_E m_F m_Residue || !datum_Valid_0 n_A n_B n_C n_D n_E n_F n_Residue then 0
else
  datum_affine_write_6 (datum_row_after_0 n_A n_B n_C m_A m_B m_C m_D m_E m_F m_Residue) (datum_row_after_1 n_A n_B n_C m_A m_B m_C m_D m_E m_F m_Residue)
    (datum_row_after_2 n_A n_B n_C m_A m_B m_C m_D m_E m_F m_Residue) (datum_row_after_0 n_D n_E n_F m_A m_B m_C m_D m_E m_F m_Residue)
    (datum_row_after_1 n_D n_E n_F m_A m_B m_C m_D m_E m_F m_Residue) (datum_row_after_2 n_D n_E n_F m_A m_B m_C m_D m_E m_F m_Residue)
    (IntKind.i64.wrap (IntKind.i64.wrap (datum_rows_grown_0 n_A n_B n_C n_D n_E n_F m_Residue 0 + n_Residue) + 2))
def datum_Then_7 (m_A m_B m_C m_D m_E m_F m_Residue n_A n_B n_C n_D n_E n_F n_Residue : Int) : Int :=
  bif !datum_Valid_0 m_A m_B m_C m_D m_E m_F m_Residue || !datum_Valid_0 n_A n_B n_C n_D n_E n_F n_Residue then 1
else
  datum_affine_write_7 (datum_row_after_0 n_A n_B n_C m_A m_B m_C m_D m_E m_F m_Residue) (datum_row_after_1 n_A n_B n_C m_A m_B m_C m_D m_E m_F m_Residue)
    (datum_row_after_2 n_A n_B n_C m_A m_B m_C m_D m_E m_F m_Residue) (datum_row_after_0 n_D n_E n_F m_A m_B m_C m_D m_E m_F m_Residue)
    (datum_row_after_1 n_D n_E n_F m_A m_B m_C m_D m_E m_F m_Residue) (datum_row_after_2 n_D n_E n_F m_A m_B m_C m_D m_E m_F m_Residue)
    (IntKind.i64.wrap (IntKind.i64.wrap (datum_rows_grown_0 n_A n_B n_C n_D n_E n_F m_Residue 0 + n_Residue) + 2))
def datum_Undo_pre (m_A m_B m_C m_D m_E m_F m_Residue : Int) : Prop :=
  (((!datum_Valid_0 m_A m_B m_C m_D m_E m_F m_Residue) = false) → (((((IntKind.i64.wrap (2 * datum_det_0 m_A m_B m_C m_D m_E m_F m_Residue) : Int) = 0) → (False)) ∧ (((IntKind.i64.wrap (2 * datum_det_0 m_A m_B m_C m_D m_E m_F m_Residue) : Int) = 0) → (False))) ∧ (((((IntKind.i64.wrap (2 * datum_det_0 m_A m_B m_C m_D m_E m_F m_Residue) : Int) = 0) → (False)) ∧ (((IntKind.i64.wrap (2 * datum_det_0 m_A m_B m_C m_D m_E m_F m_Residue) : Int) = 0) → (False))) ∧ (((((IntKind.i64.wrap (2 * datum_det_0 m_A m_B m_C m_D m_E m_F m_Residue) : Int) = 0) → (False)) ∧ (((IntKind.i64.wrap (2 * datum_det_0 m_A m_B m_C m_D m_E m_F m_Residue) : Int) = 0) → (False))) ∧ (((((IntKind.i64.wrap (2 * datum_det_0 m_A m_B m_C m_D m_E m_F m_Residue) : Int) = 0) → (False)) ∧ (((IntKind.i64.wrap (2 * datum_det_0 m_A m_B m_C m_D m_E m_F m_Residue) : Int) = 0) → (False))) ∧ (((((IntKind.i64.wrap (2 * 1000000) : Int) = 0) → (False)) ∧ (((IntKind.i64.wrap (2 * 1000000) : Int) = 0) → (False))) ∧ ((((IntKind.i64.wrap (2 * 1000000) : Int) = 0) → (False)) ∧ (((IntKind.i64.wrap (2 * 1000000) : Int) = 0) → (False)))))))))
def datum_Undo_0 (m_A m_B m_C m_D m_E m_F m_Residue : Int) : Int :=
  bif !datum_Valid_0 m_A m_B m_C m_D m_E m_F m_Residue then 0
else
  datum_affine_write_0 (datum_round_0 (IntKind.i64.wrap (1000000000000 * m_E)) (datum_det_0 m_A m_B m_C m_D m_E m_F m_Residue))
    (datum_round_0 (IntKind.i64.wrap (1000000000000 * IntKind.i64.wrap (0 - m_B))) (datum_det_0 m_A m_B m_C m_D m_E m_F m_Residue))
    (datum_round_0
      (IntKind.i64.wrap
        (0 -
          IntKind.i64.wrap
            (IntKind.i64.wrap (datum_round_0 (IntKind.i64.wrap (1000000000000 * m_E)) (datum_det_0 m_A m_B m_C m_D m_E m_F m_Residue) * m_C) +
              IntKind.i64.wrap (datum_round_0 (IntKind.i64.wrap (1000000000000 * IntKind.i64.wrap (0 - m_B))) (datum_det_0 m_A m_B m_C m_D m_E m_F m_Residue) * m_F))))
      1000000)
    (datum_round_0 (IntKind.i64.wrap (1000000000000 * IntKind.i64.wrap (0 - m_D))) (datum_det_0 m_A m_B m_C m_D m_E m_F m_Residue))
    (datum_round_0 (IntKind.i64.wrap (1000000000000 * m_A)) (datum_det_0 m_A m_B m_C m_D m_E m_F m_Residue))
    (datum_round_0
      (IntKind.i64.wrap
        (0 -
          IntKind.i64.wrap
            (IntKind.i64.wrap (datum_round_0 (IntKind.i64.wrap (1000000000000 * IntKind.i64.wrap (0 - m_D))) (datum_det_0 m_A m_B m_C m_D m_E m_F m_Residue) * m_C) +
              IntKind.i64.wrap (datum_round_0 (IntKind.i64.wrap (1000000000000 * m_A)) (datum_det_0 m_A m_B m_C m_D m_E m_F m_Residue) * m_F))))
      1000000)
    (IntKind.i64.wrap
      (datum_rows_grown_0 (datum_round_0 (IntKind.i64.wrap (1000000000000 * m_E)) (datum_det_0 m_A m_B m_C m_D m_E m_F m_Residue))
          (datum_round_0 (IntKind.i64.wrap (1000000000000 * IntKind.i64.wrap (0 - m_B))) (datum_det_0 m_A m_B m_C m_D m_E m_F m_Residue))
          (datum_round_0
            (IntKind.i64.wrap
              (0 -
                IntKind.i64.wrap
                  (IntKind.i64.wrap (datum_round_0 (IntKind.i64.wrap (1000000000000 * m_E)) (datum_det_0 m_A m_B m_C m_D m_E m_F m_Residue) * m_C) +
                    IntKind.i64.wrap (datum_round_0 (IntKind.i64.wrap (1000000000000 * IntKind.i64.wrap (0 - m_B))) (datum_det_0 m_A m_B m_C m_D m_E m_F m_Residue) * m_F))))
            1000000)
          (datum_round_0 (IntKind.i64.wrap (1000000000000 * IntKind.i64.wrap (0 - m_D))) (datum_det_0 m_A m_B m_C m_D m_E m_F m_Residue))
          (datum_round_0 (IntKind.i64.wrap (1000000000000 * m_A)) (datum_det_0 m_A m_B m_C m_D m_E m_F m_Residue))
          (datum_round_0
            (IntKind.i64.wrap
              (0 -
                IntKind.i64.wrap
                  (IntKind.i64.wrap (datum_round_0 (IntKind.i64.wrap (1000000000000 * IntKind.i64.wrap (0 - m_D))) (datum_det_0 m_A m_B m_C m_D m_E m_F m_Residue) * m_C) +
                    IntKind.i64.wrap (datum_round_0 (IntKind.i64.wrap (1000000000000 * m_A)) (datum_det_0 m_A m_B m_C m_D m_E m_F m_Residue) * m_F))))
            1000000)
          m_Residue 1 +
        2))
def datum_Undo_1 (m_A m_B m_C m_D m_E m_F m_Residue : Int) : Int :=
  bif !datum_Valid_0 m_A m_B m_C m_D m_E m_F m_Residue then 0
else
  datum_affine_write_1 (datum_round_0 (IntKind.i64.wrap (1000000000000 * m_E)) (datum_det_0 m_A m_B m_C m_D m_E m_F m_Residue))
    (datum_round_0 (IntKind.i64.wrap (1000000000000 * IntKind.i64.wrap (0 - m_B))) (datum_det_0 m_A m_B m_C m_D m_E m_F m_Residue))
    (datum_round_0
      (IntKind.i64.wrap
        (0 -
          IntKind.i64.wrap
            (IntKind.i64.wrap (datum_round_0 (IntKind.i64.wrap (1000000000000 * m_E)) (datum_det_0 m_A m_B m_C m_D m_E m_F m_Residue) * m_C) +
              IntKind.i64.wrap (datum_round_0 (IntKind.i64.wrap (1000000000000 * IntKind.i64.wrap (0 - m_B))) (datum_det_0 m_A m_B m_C m_D m_E m_F m_Residue) * m_F))))
      1000000)
    (datum_round_0 (IntKind.i64.wrap (1000000000000 * IntKind.i64.wrap (0 - m_D))) (datum_det_0 m_A m_B m_C m_D m_E m_F m_Residue))
    (datum_round_0 (IntKind.i64.wrap (1000000000000 * m_A)) (datum_det_0 m_A m_B m_C m_D m_E m_F m_Residue))
    (datum_round_0
      (IntKind.i64.wrap
        (0 -
          IntKind.i64.wrap
            (IntKind.i64.wrap (datum_round_0 (IntKind.i64.wrap (1000000000000 * IntKind.i64.wrap (0 - m_D))) (datum_det_0 m_A m_B m_C m_D m_E m_F m_Residue) * m_C) +
              IntKind.i64.wrap (datum_round_0 (IntKind.i64.wrap (1000000000000 * m_A)) (datum_det_0 m_A m_B m_C m_D m_E m_F m_Residue) * m_F))))
      1000000)
    (IntKind.i64.wrap
      (datum_rows_grown_0 (datum_round_0 (IntKind.i64.wrap (1000000000000 * m_E)) (datum_det_0 m_A m_B m_C m_D m_E m_F m_Residue))
          (datum_round_0 (IntKind.i64.wrap (1000000000000 * IntKind.i64.wrap (0 - m_B))) (datum_det_0 m_A m_B m_C m_D m_E m_F m_Residue))
          (datum_round_0
            (IntKind.i64.wrap
              (0 -
                IntKind.i64.wrap
                  (IntKind.i64.wrap (datum_round_0 (IntKind.i64.wrap (1000000000000 * m_E)) (datum_det_0 m_A m_B m_C m_D m_E m_F m_Residue) * m_C) +
                    IntKind.i64.wrap (datum_round_0 (IntKind.i64.wrap (1000000000000 * IntKind.i64.wrap (0 - m_B))) (datum_det_0 m_A m_B m_C m_D m_E m_F m_Residue) * m_F))))
            1000000)
          (datum_round_0 (IntKind.i64.wrap (1000000000000 * IntKind.i64.wrap (0 - m_D))) (datum_det_0 m_A m_B m_C m_D m_E m_F m_Residue))
          (datum_round_0 (IntKind.i64.wrap (1000000000000 * m_A)) (datum_det_0 m_A m_B m_C m_D m_E m_F m_Residue))
          (datum_round_0
            (IntKind.i64.wrap
              (0 -
                IntKind.i64.wrap
                  (IntKind.i64.wrap (datum_round_0 (IntKind.i64.wrap (1000000000000 * IntKind.i64.wrap (0 - m_D))) (datum_det_0 m_A m_B m_C m_D m_E m_F m_Residue) * m_C) +
                    IntKind.i64.wrap (datum_round_0 (IntKind.i64.wrap (1000000000000 * m_A)) (datum_det_0 m_A m_B m_C m_D m_E m_F m_Residue) * m_F))))
            1000000)
          m_Residue 1 +
        2))
def datum_Undo_2 (m_A m_B m_C m_D m_E m_F m_Residue : Int) : Int :=
  bif !datum_Valid_0 m_A m_B m_C m_D m_E m_F m_Residue then 0
else
  datum_affine_write_2 (datum_round_0 (IntKind.i64.wrap (1000000000000 * m_E)) (datum_det_0 m_A m_B m_C m_D m_E m_F m_Residue))
    (datum_round_0 (IntKind.i64.wrap (1000000000000 * IntKind.i64.wrap (0 - m_B))) (datum_det_0 m_A m_B m_C m_D m_E m_F m_Residue))
    (datum_round_0
      (IntKind.i64.wrap
        (0 -
          IntKind.i64.wrap
            (IntKind.i64.wrap (datum_round_0 (IntKind.i64.wrap (1000000000000 * m_E)) (datum_det_0 m_A m_B m_C m_D m_E m_F m_Residue) * m_C) +
              IntKind.i64.wrap (datum_round_0 (IntKind.i64.wrap (1000000000000 * IntKind.i64.wrap (0 - m_B))) (datum_det_0 m_A m_B m_C m_D m_E m_F m_Residue) * m_F))))
      1000000)
    (datum_round_0 (IntKind.i64.wrap (1000000000000 * IntKind.i64.wrap (0 - m_D))) (datum_det_0 m_A m_B m_C m_D m_E m_F m_Residue))
    (datum_round_0 (IntKind.i64.wrap (1000000000000 * m_A)) (datum_det_0 m_A m_B m_C m_D m_E m_F m_Residue))
    (datum_round_0
      (IntKind.i64.wrap
        (0 -
          IntKind.i64.wrap
            (IntKind.i64.wrap (datum_round_0 (IntKind.i64.wrap (1000000000000 * IntKind.i64.wrap (0 - m_D))) (datum_det_0 m_A m_B m_C m_D m_E m_F m_Residue) * m_C) +
              IntKind.i64.wrap (datum_round_0 (IntKind.i64.wrap (1000000000000 * m_A)) (datum_det_0 m_A m_B m_C m_D m_E m_F m_Residue) * m_F))))
      1000000)
    (IntKind.i64.wrap
      (datum_rows_grown_0 (datum_round_0 (IntKind.i64.wrap (1000000000000 * m_E)) (datum_det_0 m_A m_B m_C m_D m_E m_F m_Residue))
          (datum_round_0 (IntKind.i64.wrap (1000000000000 * IntKind.i64.wrap (0 - m_B))) (datum_det_0 m_A m_B m_C m_D m_E m_F m_Residue))
          (datum_round_0
            (IntKind.i64.wrap
              (0 -
                IntKind.i64.wrap
                  (IntKind.i64.wrap (datum_round_0 (IntKind.i64.wrap (1000000000000 * m_E)) (datum_det_0 m_A m_B m_C m_D m_E m_F m_Residue) * m_C) +
                    IntKind.i64.wrap (datum_round_0 (IntKind.i64.wrap (1000000000000 * IntKind.i64.wrap (0 - m_B))) (datum_det_0 m_A m_B m_C m_D m_E m_F m_Residue) * m_F))))
            1000000)
          (datum_round_0 (IntKind.i64.wrap (1000000000000 * IntKind.i64.wrap (0 - m_D))) (datum_det_0 m_A m_B m_C m_D m_E m_F m_Residue))
          (datum_round_0 (IntKind.i64.wrap (1000000000000 * m_A)) (datum_det_0 m_A m_B m_C m_D m_E m_F m_Residue))
          (datum_round_0
            (IntKind.i64.wrap
              (0 -
                IntKind.i64.wrap
                  (IntKind.i64.wrap (datum_round_0 (IntKind.i64.wrap (1000000000000 * IntKind.i64.wrap (0 - m_D))) (datum_det_0 m_A m_B m_C m_D m_E m_F m_Residue) * m_C) +
                    IntKind.i64.wrap (datum_round_0 (IntKind.i64.wrap (1000000000000 * m_A)) (datum_det_0 m_A m_B m_C m_D m_E m_F m_Residue) * m_F))))
            1000000)
          m_Residue 1 +
        2))
def datum_Undo_3 (m_A m_B m_C m_D m_E m_F m_Residue : Int) : Int :=
  bif !datum_Valid_0 m_A m_B m_C m_D m_E m_F m_Residue then 0
else
  datum_affine_write_3 (datum_round_0 (IntKind.i64.wrap (1000000000000 * m_E)) (datum_det_0 m_A m_B m_C m_D m_E m_F m_Residue))
    (datum_round_0 (IntKind.i64.wrap (1000000000000 * IntKind.i64.wrap (0 - m_B))) (datum_det_0 m_A m_B m_C m_D m_E m_F m_Residue))
    (datum_round_0
      (IntKind.i64.wrap
        (0 -
          IntKind.i64.wrap
            (IntKind.i64.wrap (datum_round_0 (IntKind.i64.wrap (1000000000000 * m_E)) (datum_det_0 m_A m_B m_C m_D m_E m_F m_Residue) * m_C) +
              IntKind.i64.wrap (datum_round_0 (IntKind.i64.wrap (1000000000000 * IntKind.i64.wrap (0 - m_B))) (datum_det_0 m_A m_B m_C m_D m_E m_F m_Residue) * m_F))))
      1000000)
    (datum_round_0 (IntKind.i64.wrap (1000000000000 * IntKind.i64.wrap (0 - m_D))) (datum_det_0 m_A m_B m_C m_D m_E m_F m_Residue))
    (datum_round_0 (IntKind.i64.wrap (1000000000000 * m_A)) (datum_det_0 m_A m_B m_C m_D m_E m_F m_Residue))
    (datum_round_0
      (IntKind.i64.wrap
        (0 -
          IntKind.i64.wrap
            (IntKind.i64.wrap (datum_round_0 (IntKind.i64.wrap (1000000000000 * IntKind.i64.wrap (0 - m_D))) (datum_det_0 m_A m_B m_C m_D m_E m_F m_Residue) * m_C) +
              IntKind.i64.wrap (datum_round_0 (IntKind.i64.wrap (1000000000000 * m_A)) (datum_det_0 m_A m_B m_C m_D m_E m_F m_Residue) * m_F))))
      1000000)
    (IntKind.i64.wrap
      (datum_rows_grown_0 (datum_round_0 (IntKind.i64.wrap (1000000000000 * m_E)) (datum_det_0 m_A m_B m_C m_D m_E m_F m_Residue))
          (datum_round_0 (IntKind.i64.wrap (1000000000000 * IntKind.i64.wrap (0 - m_B))) (datum_det_0 m_A m_B m_C m_D m_E m_F m_Residue))
          (datum_round_0
            (IntKind.i64.wrap
              (0 -
                IntKind.i64.wrap
                  (IntKind.i64.wrap (datum_round_0 (IntKind.i64.wrap (1000000000000 * m_E)) (datum_det_0 m_A m_B m_C m_D m_E m_F m_Residue) * m_C) +
                    IntKind.i64.wrap (datum_round_0 (IntKind.i64.wrap (1000000000000 * IntKind.i64.wrap (0 - m_B))) (datum_det_0 m_A m_B m_C m_D m_E m_F m_Residue) * m_F))))
            1000000)
          (datum_round_0 (IntKind.i64.wrap (1000000000000 * IntKind.i64.wrap (0 - m_D))) (datum_det_0 m_A m_B m_C m_D m_E m_F m_Residue))
          (datum_round_0 (IntKind.i64.wrap (1000000000000 * m_A)) (datum_det_0 m_A m_B m_C m_D m_E m_F m_Residue))
          (datum_round_0
            (IntKind.i64.wrap
              (0 -
                IntKind.i64.wrap
                  (IntKind.i64.wrap (datum_round_0 (IntKind.i64.wrap (1000000000000 * IntKind.i64.wrap (0 - m_D))) (datum_det_0 m_A m_B m_C m_D m_E m_F m_Residue) * m_C) +
                    IntKind.i64.wrap (datum_round_0 (IntKind.i64.wrap (1000000000000 * m_A)) (datum_det_0 m_A m_B m_C m_D m_E m_F m_Residue) * m_F))))
            1000000)
          m_Residue 1 +
        2))
def datum_Undo_4 (m_A m_B m_C m_D m_E m_F m_Residue : Int) : Int :=
  bif !datum_Valid_0 m_A m_B m_C m_D m_E m_F m_Residue then 0
else
  datum_affine_write_4 (datum_round_0 (IntKind.i64.wrap (1000000000000 * m_E)) (datum_det_0 m_A m_B m_C m_D m_E m_F m_Residue))
    (datum_round_0 (IntKind.i64.wrap (1000000000000 * IntKind.i64.wrap (0 - m_B))) (datum_det_0 m_A m_B m_C m_D m_E m_F m_Residue))
    (datum_round_0
      (IntKind.i64.wrap
        (0 -
          IntKind.i64.wrap
            (IntKind.i64.wrap (datum_round_0 (IntKind.i64.wrap (1000000000000 * m_E)) (datum_det_0 m_A m_B m_C m_D m_E m_F m_Residue) * m_C) +
              IntKind.i64.wrap (datum_round_0 (IntKind.i64.wrap (1000000000000 * IntKind.i64.wrap (0 - m_B))) (datum_det_0 m_A m_B m_C m_D m_E m_F m_Residue) * m_F))))
      1000000)
    (datum_round_0 (IntKind.i64.wrap (1000000000000 * IntKind.i64.wrap (0 - m_D))) (datum_det_0 m_A m_B m_C m_D m_E m_F m_Residue))
    (datum_round_0 (IntKind.i64.wrap (1000000000000 * m_A)) (datum_det_0 m_A m_B m_C m_D m_E m_F m_Residue))
    (datum_round_0
      (IntKind.i64.wrap
        (0 -
          IntKind.i64.wrap
            (IntKind.i64.wrap (datum_round_0 (IntKind.i64.wrap (1000000000000 * IntKind.i64.wrap (0 - m_D))) (datum_det_0 m_A m_B m_C m_D m_E m_F m_Residue) * m_C) +
              IntKind.i64.wrap (datum_round_0 (IntKind.i64.wrap (1000000000000 * m_A)) (datum_det_0 m_A m_B m_C m_D m_E m_F m_Residue) * m_F))))
      1000000)
    (IntKind.i64.wrap
      (datum_rows_grown_0 (datum_round_0 (IntKind.i64.wrap (1000000000000 * m_E)) (datum_det_0 m_A m_B m_C m_D m_E m_F m_Residue))
          (datum_round_0 (IntKind.i64.wrap (1000000000000 * IntKind.i64.wrap (0 - m_B))) (datum_det_0 m_A m_B m_C m_D m_E m_F m_Residue))
          (datum_round_0
            (IntKind.i64.wrap
              (0 -
                IntKind.i64.wrap
                  (IntKind.i64.wrap (datum_round_0 (IntKind.i64.wrap (1000000000000 * m_E)) (datum_det_0 m_A m_B m_C m_D m_E m_F m_Residue) * m_C) +
                    IntKind.i64.wrap (datum_round_0 (IntKind.i64.wrap (1000000000000 * IntKind.i64.wrap (0 - m_B))) (datum_det_0 m_A m_B m_C m_D m_E m_F m_Residue) * m_F))))
            1000000)
          (datum_round_0 (IntKind.i64.wrap (1000000000000 * IntKind.i64.wrap (0 - m_D))) (datum_det_0 m_A m_B m_C m_D m_E m_F m_Residue))
          (datum_round_0 (IntKind.i64.wrap (1000000000000 * m_A)) (datum_det_0 m_A m_B m_C m_D m_E m_F m_Residue))
          (datum_round_0
            (IntKind.i64.wrap
              (0 -
                IntKind.i64.wrap
                  (IntKind.i64.wrap (datum_round_0 (IntKind.i64.wrap (1000000000000 * IntKind.i64.wrap (0 - m_D))) (datum_det_0 m_A m_B m_C m_D m_E m_F m_Residue) * m_C) +
                    IntKind.i64.wrap (datum_round_0 (IntKind.i64.wrap (1000000000000 * m_A)) (datum_det_0 m_A m_B m_C m_D m_E m_F m_Residue) * m_F))))
            1000000)
          m_Residue 1 +
        2))
def datum_Undo_5 (m_A m_B m_C m_D m_E m_F m_Residue : Int) : Int :=
  bif !datum_Valid_0 m_A m_B m_C m_D m_E m_F m_Residue then 0
else
  datum_affine_write_5 (datum_round_0 (IntKind.i64.wrap (1000000000000 * m_E)) (datum_det_0 m_A m_B m_C m_D m_E m_F m_Residue))
    (datum_round_0 (IntKind.i64.wrap (1000000000000 * IntKind.i64.wrap (0 - m_B))) (datum_det_0 m_A m_B m_C m_D m_E m_F m_Residue))
    (datum_round_0
      (IntKind.i64.wrap
        (0 -
          IntKind.i64.wrap
            (IntKind.i64.wrap (datum_round_0 (IntKind.i64.wrap (1000000000000 * m_E)) (datum_det_0 m_A m_B m_C m_D m_E m_F m_Residue) * m_C) +
              IntKind.i64.wrap (datum_round_0 (IntKind.i64.wrap (1000000000000 * IntKind.i64.wrap (0 - m_B))) (datum_det_0 m_A m_B m_C m_D m_E m_F m_Residue) * m_F))))
      1000000)
    (datum_round_0 (IntKind.i64.wrap (1000000000000 * IntKind.i64.wrap (0 - m_D))) (datum_det_0 m_A m_B m_C m_D m_E m_F m_Residue))
    (datum_round_0 (IntKind.i64.wrap (1000000000000 * m_A)) (datum_det_0 m_A m_B m_C m_D m_E m_F m_Residue))
    (datum_round_0
      (IntKind.i64.wrap
        (0 -
          IntKind.i64.wrap
            (IntKind.i64.wrap (datum_round_0 (IntKind.i64.wrap (1000000000000 * IntKind.i64.wrap (0 - m_D))) (datum_det_0 m_A m_B m_C m_D m_E m_F m_Residue) * m_C) +
              IntKind.i64.wrap (datum_round_0 (IntKind.i64.wrap (1000000000000 * m_A)) (datum_det_0 m_A m_B m_C m_D m_E m_F m_Residue) * m_F))))
      1000000)
    (IntKind.i64.wrap
      (datum_rows_grown_0 (datum_round_0 (IntKind.i64.wrap (1000000000000 * m_E)) (datum_det_0 m_A m_B m_C m_D m_E m_F m_Residue))
          (datum_round_0 (IntKind.i64.wrap (1000000000000 * IntKind.i64.wrap (0 - m_B))) (datum_det_0 m_A m_B m_C m_D m_E m_F m_Residue))
          (datum_round_0
            (IntKind.i64.wrap
              (0 -
                IntKind.i64.wrap
                  (IntKind.i64.wrap (datum_round_0 (IntKind.i64.wrap (1000000000000 * m_E)) (datum_det_0 m_A m_B m_C m_D m_E m_F m_Residue) * m_C) +
                    IntKind.i64.wrap (datum_round_0 (IntKind.i64.wrap (1000000000000 * IntKind.i64.wrap (0 - m_B))) (datum_det_0 m_A m_B m_C m_D m_E m_F m_Residue) * m_F))))
            1000000)
          (datum_round_0 (IntKind.i64.wrap (1000000000000 * IntKind.i64.wrap (0 - m_D))) (datum_det_0 m_A m_B m_C m_D m_E m_F m_Residue))
          (datum_round_0 (IntKind.i64.wrap (1000000000000 * m_A)) (datum_det_0 m_A m_B m_C m_D m_E m_F m_Residue))
          (datum_round_0
            (IntKind.i64.wrap
              (0 -
                IntKind.i64.wrap
                  (IntKind.i64.wrap (datum_round_0 (IntKind.i64.wrap (1000000000000 * IntKind.i64.wrap (0 - m_D))) (datum_det_0 m_A m_B m_C m_D m_E m_F m_Residue) * m_C) +
                    IntKind.i64.wrap (datum_round_0 (IntKind.i64.wrap (1000000000000 * m_A)) (datum_det_0 m_A m_B m_C m_D m_E m_F m_Residue) * m_F))))
            1000000)
          m_Residue 1 +
        2))
def datum_Undo_6 (m_A m_B m_C m_D m_E m_F m_Residue : Int) : Int :=
  bif !datum_Valid_0 m_A m_B m_C m_D m_E m_F m_Residue then 0
else
  datum_affine_write_6 (datum_round_0 (IntKind.i64.wrap (1000000000000 * m_E)) (datum_det_0 m_A m_B m_C m_D m_E m_F m_Residue))
    (datum_round_0 (IntKind.i64.wrap (1000000000000 * IntKind.i64.wrap (0 - m_B))) (datum_det_0 m_A m_B m_C m_D m_E m_F m_Residue))
    (datum_round_0
      (IntKind.i64.wrap
        (0 -
          IntKind.i64.wrap
            (IntKind.i64.wrap (datum_round_0 (IntKind.i64.wrap (1000000000000 * m_E)) (datum_det_0 m_A m_B m_C m_D m_E m_F m_Residue) * m_C) +
              IntKind.i64.wrap (datum_round_0 (IntKind.i64.wrap (1000000000000 * IntKind.i64.wrap (0 - m_B))) (datum_det_0 m_A m_B m_C m_D m_E m_F m_Residue) * m_F))))
      1000000)
    (datum_round_0 (IntKind.i64.wrap (1000000000000 * IntKind.i64.wrap (0 - m_D))) (datum_det_0 m_A m_B m_C m_D m_E m_F m_Residue))
    (datum_round_0 (IntKind.i64.wrap (1000000000000 * m_A)) (datum_det_0 m_A m_B m_C m_D m_E m_F m_Residue))
    (datum_round_0
      (IntKind.i64.wrap
        (0 -
          IntKind.i64.wrap
            (IntKind.i64.wrap (datum_round_0 (IntKind.i64.wrap (1000000000000 * IntKind.i64.wrap (0 - m_D))) (datum_det_0 m_A m_B m_C m_D m_E m_F m_Residue) * m_C) +
              IntKind.i64.wrap (datum_round_0 (IntKind.i64.wrap (1000000000000 * m_A)) (datum_det_0 m_A m_B m_C m_D m_E m_F m_Residue) * m_F))))
      1000000)
    (IntKind.i64.wrap
      (datum_rows_grown_0 (datum_round_0 (IntKind.i64.wrap (1000000000000 * m_E)) (datum_det_0 m_A m_B m_C m_D m_E m_F m_Residue))
          (datum_round_0 (IntKind.i64.wrap (1000000000000 * IntKind.i64.wrap (0 - m_B))) (datum_det_0 m_A m_B m_C m_D m_E m_F m_Residue))
          (datum_round_0
            (IntKind.i64.wrap
              (0 -
                IntKind.i64.wrap
                  (IntKind.i64.wrap (datum_round_0 (IntKind.i64.wrap (1000000000000 * m_E)) (datum_det_0 m_A m_B m_C m_D m_E m_F m_Residue) * m_C) +
                    IntKind.i64.wrap (datum_round_0 (IntKind.i64.wrap (1000000000000 * IntKind.i64.wrap (0 - m_B))) (datum_det_0 m_A m_B m_C m_D m_E m_F m_Residue) * m_F))))
            1000000)
          (datum_round_0 (IntKind.i64.wrap (1000000000000 * IntKind.i64.wrap (0 - m_D))) (datum_det_0 m_A m_B m_C m_D m_E m_F m_Residue))
          (datum_round_0 (IntKind.i64.wrap (1000000000000 * m_A)) (datum_det_0 m_A m_B m_C m_D m_E m_F m_Residue))
          (datum_round_0
            (IntKind.i64.wrap
              (0 -
                IntKind.i64.wrap
                  (IntKind.i64.wrap (datum_round_0 (IntKind.i64.wrap (1000000000000 * IntKind.i64.wrap (0 - m_D))) (datum_det_0 m_A m_B m_C m_D m_E m_F m_Residue) * m_C) +
                    IntKind.i64.wrap (datum_round_0 (IntKind.i64.wrap (1000000000000 * m_A)) (datum_det_0 m_A m_B m_C m_D m_E m_F m_Residue) * m_F))))
            1000000)
          m_Residue 1 +
        2))
def datum_Undo_7 (m_A m_B m_C m_D m_E m_F m_Residue : Int) : Int :=
  bif !datum_Valid_0 m_A m_B m_C m_D m_E m_F m_Residue then 1
else
  datum_affine_write_7 (datum_round_0 (IntKind.i64.wrap (1000000000000 * m_E)) (datum_det_0 m_A m_B m_C m_D m_E m_F m_Residue))
    (datum_round_0 (IntKind.i64.wrap (1000000000000 * IntKind.i64.wrap (0 - m_B))) (datum_det_0 m_A m_B m_C m_D m_E m_F m_Residue))
    (datum_round_0
      (IntKind.i64.wrap
        (0 -
          IntKind.i64.wrap
            (IntKind.i64.wrap (datum_round_0 (IntKind.i64.wrap (1000000000000 * m_E)) (datum_det_0 m_A m_B m_C m_D m_E m_F m_Residue) * m_C) +
              IntKind.i64.wrap (datum_round_0 (IntKind.i64.wrap (1000000000000 * IntKind.i64.wrap (0 - m_B))) (datum_det_0 m_A m_B m_C m_D m_E m_F m_Residue) * m_F))))
      1000000)
    (datum_round_0 (IntKind.i64.wrap (1000000000000 * IntKind.i64.wrap (0 - m_D))) (datum_det_0 m_A m_B m_C m_D m_E m_F m_Residue))
    (datum_round_0 (IntKind.i64.wrap (1000000000000 * m_A)) (datum_det_0 m_A m_B m_C m_D m_E m_F m_Residue))
    (datum_round_0
      (IntKind.i64.wrap
        (0 -
          IntKind.i64.wrap
            (IntKind.i64.wrap (datum_round_0 (IntKind.i64.wrap (1000000000000 * IntKind.i64.wrap (0 - m_D))) (datum_det_0 m_A m_B m_C m_D m_E m_F m_Residue) * m_C) +
              IntKind.i64.wrap (datum_round_0 (IntKind.i64.wrap (1000000000000 * m_A)) (datum_det_0 m_A m_B m_C m_D m_E m_F m_Residue) * m_F))))
      1000000)
    (IntKind.i64.wrap
      (datum_rows_grown_0 (datum_round_0 (IntKind.i64.wrap (1000000000000 * m_E)) (datum_det_0 m_A m_B m_C m_D m_E m_F m_Residue))
          (datum_round_0 (IntKind.i64.wrap (1000000000000 * IntKind.i64.wrap (0 - m_B))) (datum_det_0 m_A m_B m_C m_D m_E m_F m_Residue))
          (datum_round_0
            (IntKind.i64.wrap
              (0 -
                IntKind.i64.wrap
                  (IntKind.i64.wrap (datum_round_0 (IntKind.i64.wrap (1000000000000 * m_E)) (datum_det_0 m_A m_B m_C m_D m_E m_F m_Residue) * m_C) +
                    IntKind.i64.wrap (datum_round_0 (IntKind.i64.wrap (1000000000000 * IntKind.i64.wrap (0 - m_B))) (datum_det_0 m_A m_B m_C m_D m_E m_F m_Residue) * m_F))))
            1000000)
          (datum_round_0 (IntKind.i64.wrap (1000000000000 * IntKind.i64.wrap (0 - m_D))) (datum_det_0 m_A m_B m_C m_D m_E m_F m_Residue))
          (datum_round_0 (IntKind.i64.wrap (1000000000000 * m_A)) (datum_det_0 m_A m_B m_C m_D m_E m_F m_Residue))
          (datum_round_0
            (IntKind.i64.wrap
              (0 -
                IntKind.i64.wrap
                  (IntKind.i64.wrap (datum_round_0 (IntKind.i64.wrap (1000000000000 * IntKind.i64.wrap (0 - m_D))) (datum_det_0 m_A m_B m_C m_D m_E m_F m_Residue) * m_C) +
                    IntKind.i64.wrap (datum_round_0 (IntKind.i64.wrap (1000000000000 * m_A)) (datum_det_0 m_A m_B m_C m_D m_E m_F m_Residue) * m_F))))
            1000000)
          m_Residue 1 +
        2))
theorem datum_Undo_pre_ok (m_A m_B m_C m_D m_E m_F m_Residue : Int) : datum_Undo_pre m_A m_B m_C m_D m_E m_F m_Residue := by
  unfold datum_Undo_pre
  (intro h; have hd := wrap2_ne (det_of_valid (v_left h)); simp [hd, wrap2m_ne])
def ref04_Back_pre (m_A m_B m_C m_D m_E m_F m_Residue b_X_Lo b_X_Hi b_Y_Lo b_Y_Hi : Int) : Prop :=
  (((!ref04_Valid_0 m_A m_B m_C m_D m_E m_F m_Residue || !ref04_Box_0 b_X_Lo b_X_Hi b_Y_Lo b_Y_Hi) = false) → ((((((ref04_Det_0 m_A m_B m_C m_D m_E m_F m_Residue : Int) = 0) → (False)) ∧ (((ref04_Det_0 m_A m_B m_C m_D m_E m_F m_Residue : Int) = 0) → (False))) ∧ ((((ref04_Det_0 m_A m_B m_C m_D m_E m_F m_Residue : Int) = 0) → (False)) ∧ (((ref04_Det_0 m_A m_B m_C m_D m_E m_F m_Residue : Int) = 0) → (False)))) ∧ (((((ref04_Det_0 m_A m_B m_C m_D m_E m_F m_Residue : Int) = 0) → (False)) ∧ (((ref04_Det_0 m_A m_B m_C m_D m_E m_F m_Residue : Int) = 0) → (False))) ∧ ((((ref04_Det_0 m_A m_B m_C m_D m_E m_F m_Residue : Int) = 0) → (False)) ∧ (((ref04_Det_0 m_A m_B m_C m_D m_E m_F m_Residue : Int) = 0) → (False))))))
def ref04_Back_0 (m_A m_B m_C m_D m_E m_F m_Residue b_X_Lo b_X_Hi b_Y_Lo b_Y_Hi : Int) : Int :=
  bif !ref04_Valid_0 m_A m_B m_C m_D m_E m_F m_Residue || !ref04_Box_0 b_X_Lo b_X_Hi b_Y_Lo b_Y_Hi then 0
else
  bif
      decide
          (ref04_Column_0 m_E (IntKind.i64.wrap (IntKind.i64.wrap (b_X_Lo - m_C) - m_Residue)) (IntKind.i64.wrap (IntKind.i64.wrap (b_X_Hi - m_C) + m_Residue)) (IntKind.i64.wrap (0 - m_B))
              (IntKind.i64.wrap (IntKind.i64.wrap (b_Y_Lo - m_F) - m_Residue)) (IntKind.i64.wrap (IntKind.i64.wrap (b_Y_Hi - m_F) + m_Residue)) (ref04_Det_0 m_A m_B m_C m_D m_E m_F m_Residue) >
            ref04_Column_1 m_E (IntKind.i64.wrap (IntKind.i64.wrap (b_X_Lo - m_C) - m_Residue)) (IntKind.i64.wrap (IntKind.i64.wrap (b_X_Hi - m_C) + m_Residue)) (IntKind.i64.wrap (0 - m_B))
              (IntKind.i64.wrap (IntKind.i64.wrap (b_Y_Lo - m_F) - m_Residue)) (IntKind.i64.wrap (IntKind.i64.wrap (b_Y_Hi - m_F) + m_Residue)) (ref04_Det_0 m_A m_B m_C m_D m_E m_F m_Residue)) ||
        decide
          (ref04_Column_0 (IntKind.i64.wrap (0 - m_D)) (IntKind.i64.wrap (IntKind.i64.wrap (b_X_Lo - m_C) - m_Residue)) (IntKind.i64.wrap (IntKind.i64.wrap (b_X_Hi - m_C) + m_Residue)) m_A
              (IntKind.i64.wrap (IntKind.i64.wrap (b_Y_Lo - m_F) - m_Residue)) (IntKind.i64.wrap (IntKind.i64.wrap (b_Y_Hi - m_F) + m_Residue)) (ref04_Det_0 m_A m_B m_C m_D m_E m_F m_Residue) >
            ref04_Column_1 (IntKind.i64.wrap (0 - m_D)) (IntKind.i64.wrap (IntKind.i64.wrap (b_X_Lo - m_C) - m_Residue)) (IntKind.i64.wrap (IntKind.i64.wrap (b_X_Hi - m_C) + m_Residue)) m_A
              (IntKind.i64.wrap (IntKind.i64.wrap (b_Y_Lo - m_F) - m_Residue)) (IntKind.i64.wrap (IntKind.i64.wrap (b_Y_Hi - m_F) + m_Residue)) (ref04_Det_0 m_A m_B m_C m_D m_E m_F m_Residue)) then
    0
  else
    ref04_Column_0 m_E (IntKind.i64.wrap (IntKind.i64.wrap (b_X_Lo - m_C) - m_Residue)) (IntKind.i64.wrap (IntKind.i64.wrap (b_X_Hi - m_C) + m_Residue)) (IntKind.i64.wrap (0 - m_B))
      (IntKind.i64.wrap (IntKind.i64.wrap (b_Y_Lo - m_F) - m_Residue)) (IntKind.i64.wrap (IntKind.i64.wrap (b_Y_Hi - m_F) + m_Residue)) (ref04_Det_0 m_A m_B m_C m_D m_E m_F m_Residue)
def ref04_Back_1 (m_A m_B m_C m_D m_E m_F m_Residue b_X_Lo b_X_Hi b_Y_Lo b_Y_Hi : Int) : Int :=
  bif !ref04_Valid_0 m_A m_B m_C m_D m_E m_F m_Residue || !ref04_Box_0 b_X_Lo b_X_Hi b_Y_Lo b_Y_Hi then 0
else
  bif
      decide
          (ref04_Column_0 m_E (IntKind.i64.wrap (IntKind.i64.wrap (b_X_Lo - m_C) - m_Residue)) (IntKind.i64.wrap (IntKind.i64.wrap (b_X_Hi - m_C) + m_Residue)) (IntKind.i64.wrap (0 - m_B))
              (IntKind.i64.wrap (IntKind.i64.wrap (b_Y_Lo - m_F) - m_Residue)) (IntKind.i64.wrap (IntKind.i64.wrap (b_Y_Hi - m_F) + m_Residue)) (ref04_Det_0 m_A m_B m_C m_D m_E m_F m_Residue) >
            ref04_Column_1 m_E (IntKind.i64.wrap (IntKind.i64.wrap (b_X_Lo - m_C) - m_Residue)) (IntKind.i64.wrap (IntKind.i64.wrap (b_X_Hi - m_C) + m_Residue)) (IntKind.i64.wrap (0 - m_B))
              (IntKind.i64.wrap (IntKind.i64.wrap (b_Y_Lo - m_F) - m_Residue)) (IntKind.i64.wrap (IntKind.i64.wrap (b_Y_Hi - m_F) + m_Residue)) (ref04_Det_0 m_A m_B m_C m_D m_E m_F m_Residue)) ||
        decide
          (ref04_Column_0 (IntKind.i64.wrap (0 - m_D)) (IntKind.i64.wrap (IntKind.i64.wrap (b_X_Lo - m_C) - m_Residue)) (IntKind.i64.wrap (IntKind.i64.wrap (b_X_Hi - m_C) + m_Residue)) m_A
              (IntKind.i64.wrap (IntKind.i64.wrap (b_Y_Lo - m_F) - m_Residue)) (IntKind.i64.wrap (IntKind.i64.wrap (b_Y_Hi - m_F) + m_Residue)) (ref04_Det_0 m_A m_B m_C m_D m_E m_F m_Residue) >
            ref04_Column_1 (IntKind.i64.wrap (0 - m_D)) (IntKind.i64.wrap (IntKind.i64.wrap (b_X_Lo - m_C) - m_Residue)) (IntKind.i64.wrap (IntKind.i64.wrap (b_X_Hi - m_C) + m_Residue)) m_A
              (IntKind.i64.wrap (IntKind.i64.wrap (b_Y_Lo - m_F) - m_Residue)) (IntKind.i64.wrap (IntKind.i64.wrap (b_Y_Hi - m_F) + m_Residue)) (ref04_Det_0 m_A m_B m_C m_D m_E m_F m_Residue)) then
    0
  else
    ref04_Column_1 m_E (IntKind.i64.wrap (IntKind.i64.wrap (b_X_Lo - m_C) - m_Residue)) (IntKind.i64.wrap (IntKind.i64.wrap (b_X_Hi - m_C) + m_Residue)) (IntKind.i64.wrap (0 - m_B))
      (IntKind.i64.wrap (IntKind.i64.wrap (b_Y_Lo - m_F) - m_Residue)) (IntKind.i64.wrap (IntKind.i64.wrap (b_Y_Hi - m_F) + m_Residue)) (ref04_Det_0 m_A m_B m_C m_D m_E m_F m_Residue)
def ref04_Back_2 (m_A m_B m_C m_D m_E m_F m_Residue b_X_Lo b_X_Hi b_Y_Lo b_Y_Hi : Int) : Int :=
  bif !ref04_Valid_0 m_A m_B m_C m_D m_E m_F m_Residue || !ref04_Box_0 b_X_Lo b_X_Hi b_Y_Lo b_Y_Hi then 0
else
  bif
      decide
          (ref04_Column_0 m_E (IntKind.i64.wrap (IntKind.i64.wrap (b_X_Lo - m_C) - m_Residue)) (IntKind.i64.wrap (IntKind.i64.wrap (b_X_Hi - m_C) + m_Residue)) (IntKind.i64.wrap (0 - m_B))
              (IntKind.i64.wrap (IntKind.i64.wrap (b_Y_Lo - m_F) - m_Residue)) (IntKind.i64.wrap (IntKind.i64.wrap (b_Y_Hi - m_F) + m_Residue)) (ref04_Det_0 m_A m_B m_C m_D m_E m_F m_Residue) >
            ref04_Column_1 m_E (IntKind.i64.wrap (IntKind.i64.wrap (b_X_Lo - m_C) - m_Residue)) (IntKind.i64.wrap (IntKind.i64.wrap (b_X_Hi - m_C) + m_Residue)) (IntKind.i64.wrap (0 - m_B))
              (IntKind.i64.wrap (IntKind.i64.wrap (b_Y_Lo - m_F) - m_Residue)) (IntKind.i64.wrap (IntKind.i64.wrap (b_Y_Hi - m_F) + m_Residue)) (ref04_Det_0 m_A m_B m_C m_D m_E m_F m_Residue)) ||
        decide
          (ref04_Column_0 (IntKind.i64.wrap (0 - m_D)) (IntKind.i64.wrap (IntKind.i64.wrap (b_X_Lo - m_C) - m_Residue)) (IntKind.i64.wrap (IntKind.i64.wrap (b_X_Hi - m_C) + m_Residue)) m_A
              (IntKind.i64.wrap (IntKind.i64.wrap (b_Y_Lo - m_F) - m_Residue)) (IntKind.i64.wrap (IntKind.i64.wrap (b_Y_Hi - m_F) + m_Residue)) (ref04_Det_0 m_A m_B m_C m_D m_E m_F m_Residue) >
            ref04_Column_1 (IntKind.i64.wrap (0 - m_D)) (IntKind.i64.wrap (IntKind.i64.wrap (b_X_Lo - m_C) - m_Residue)) (IntKind.i64.wrap (IntKind.i64.wrap (b_X_Hi - m_C) + m_Residue)) m_A
              (IntKind.i64.wrap (IntKind.i64.wrap (b_Y_Lo - m_F) - m_Residue)) (IntKind.i64.wrap (IntKind.i64.wrap (b_Y_Hi - m_F) + m_Residue)) (ref04_Det_0 m_A m_B m_C m_D m_E m_F m_Residue)) then
    0
  else
    ref04_Column_0 (IntKind.i64.wrap (0 - m_D)) (IntKind.i64.wrap (IntKind.i64.wrap (b_X_Lo - m_C) - m_Residue)) (IntKind.i64.wrap (IntKind.i64.wrap (b_X_Hi - m_C) + m_Residue)) m_A
      (IntKind.i64.wrap (IntKind.i64.wrap (b_Y_Lo - m_F) - m_Residue)) (IntKind.i64.wrap (IntKind.i64.wrap (b_Y_Hi - m_F) + m_Residue)) (ref04_Det_0 m_A m_B m_C m_D m_E m_F m_Residue)
def ref04_Back_3 (m_A m_B m_C m_D m_E m_F m_Residue b_X_Lo b_X_Hi b_Y_Lo b_Y_Hi : Int) : Int :=
  bif !ref04_Valid_0 m_A m_B m_C m_D m_E m_F m_Residue || !ref04_Box_0 b_X_Lo b_X_Hi b_Y_Lo b_Y_Hi then 0
else
  bif
      decide
          (ref04_Column_0 m_E (IntKind.i64.wrap (IntKind.i64.wrap (b_X_Lo - m_C) - m_Residue)) (IntKind.i64.wrap (IntKind.i64.wrap (b_X_Hi - m_C) + m_Residue)) (IntKind.i64.wrap (0 - m_B))
              (IntKind.i64.wrap (IntKind.i64.wrap (b_Y_Lo - m_F) - m_Residue)) (IntKind.i64.wrap (IntKind.i64.wrap (b_Y_Hi - m_F) + m_Residue)) (ref04_Det_0 m_A m_B m_C m_D m_E m_F m_Residue) >
            ref04_Column_1 m_E (IntKind.i64.wrap (IntKind.i64.wrap (b_X_Lo - m_C) - m_Residue)) (IntKind.i64.wrap (IntKind.i64.wrap (b_X_Hi - m_C) + m_Residue)) (IntKind.i64.wrap (0 - m_B))
              (IntKind.i64.wrap (IntKind.i64.wrap (b_Y_Lo - m_F) - m_Residue)) (IntKind.i64.wrap (IntKind.i64.wrap (b_Y_Hi - m_F) + m_Residue)) (ref04_Det_0 m_A m_B m_C m_D m_E m_F m_Residue)) ||
        decide
          (ref04_Column_0 (IntKind.i64.wrap (0 - m_D)) (IntKind.i64.wrap (IntKind.i64.wrap (b_X_Lo - m_C) - m_Residue)) (IntKind.i64.wrap (IntKind.i64.wrap (b_X_Hi - m_C) + m_Residue)) m_A
              (IntKind.i64.wrap (IntKind.i64.wrap (b_Y_Lo - m_F) - m_Residue)) (IntKind.i64.wrap (IntKind.i64.wrap (b_Y_Hi - m_F) + m_Residue)) (ref04_Det_0 m_A m_B m_C m_D m_E m_F m_Residue) >
            ref04_Column_1 (IntKind.i64.wrap (0 - m_D)) (IntKind.i64.wrap (IntKind.i64.wrap (b_X_Lo - m_C) - m_Residue)) (IntKind.i64.wrap (IntKind.i64.wrap (b_X_Hi - m_C) + m_Residue)) m_A
              (IntKind.i64.wrap (IntKind.i64.wrap (b_Y_Lo - m_F) - m_Residue)) (IntKind.i64.wrap (IntKind.i64.wrap (b_Y_Hi - m_F) + m_Residue)) (ref04_Det_0 m_A m_B m_C m_D m_E m_F m_Residue)) then
    0
  else
    ref04_Column_1 (IntKind.i64.wrap (0 - m_D)) (IntKind.i64.wrap (IntKind.i64.wrap (b_X_Lo - m_C) - m_Residue)) (IntKind.i64.wrap (IntKind.i64.wrap (b_X_Hi - m_C) + m_Residue)) m_A
      (IntKind.i64.wrap (IntKind.i64.wrap (b_Y_Lo - m_F) - m_Residue)) (IntKind.i64.wrap (IntKind.i64.wrap (b_Y_Hi - m_F) + m_Residue)) (ref04_Det_0 m_A m_B m_C m_D m_E m_F m_Residue)
def ref04_Back_4 (m_A m_B m_C m_D m_E m_F m_Residue b_X_Lo b_X_Hi b_Y_Lo b_Y_Hi : Int) : Int :=
  bif !ref04_Valid_0 m_A m_B m_C m_D m_E m_F m_Residue || !ref04_Box_0 b_X_Lo b_X_Hi b_Y_Lo b_Y_Hi then 1
else
  bif
      decide
          (ref04_Column_0 m_E (IntKind.i64.wrap (IntKind.i64.wrap (b_X_Lo - m_C) - m_Residue)) (IntKind.i64.wrap (IntKind.i64.wrap (b_X_Hi - m_C) + m_Residue)) (IntKind.i64.wrap (0 - m_B))
              (IntKind.i64.wrap (IntKind.i64.wrap (b_Y_Lo - m_F) - m_Residue)) (IntKind.i64.wrap (IntKind.i64.wrap (b_Y_Hi - m_F) + m_Residue)) (ref04_Det_0 m_A m_B m_C m_D m_E m_F m_Residue) >
            ref04_Column_1 m_E (IntKind.i64.wrap (IntKind.i64.wrap (b_X_Lo - m_C) - m_Residue)) (IntKind.i64.wrap (IntKind.i64.wrap (b_X_Hi - m_C) + m_Residue)) (IntKind.i64.wrap (0 - m_B))
              (IntKind.i64.wrap (IntKind.i64.wrap (b_Y_Lo - m_F) - m_Residue)) (IntKind.i64.wrap (IntKind.i64.wrap (b_Y_Hi - m_F) + m_Residue)) (ref04_Det_0 m_A m_B m_C m_D m_E m_F m_Residue)) ||
        decide
          (ref04_Column_0 (IntKind.i64.wrap (0 - m_D)) (IntKind.i64.wrap (IntKind.i64.wrap (b_X_Lo - m_C) - m_Residue)) (IntKind.i64.wrap (IntKind.i64.wrap (b_X_Hi - m_C) + m_Residue)) m_A
              (IntKind.i64.wrap (IntKind.i64.wrap (b_Y_Lo - m_F) - m_Residue)) (IntKind.i64.wrap (IntKind.i64.wrap (b_Y_Hi - m_F) + m_Residue)) (ref04_Det_0 m_A m_B m_C m_D m_E m_F m_Residue) >
            ref04_Column_1 (IntKind.i64.wrap (0 - m_D)) (IntKind.i64.wrap (IntKind.i64.wrap (b_X_Lo - m_C) - m_Residue)) (IntKind.i64.wrap (IntKind.i64.wrap (b_X_Hi - m_C) + m_Residue)) m_A
              (IntKind.i64.wrap (IntKind.i64.wrap (b_Y_Lo - m_F) - m_Residue)) (IntKind.i64.wrap (IntKind.i64.wrap (b_Y_Hi - m_F) + m_Residue)) (ref04_Det_0 m_A m_B m_C m_D m_E m_F m_Residue)) then
    4
  else 0
theorem ref04_Back_pre_ok (m_A m_B m_C m_D m_E m_F m_Residue b_X_Lo b_X_Hi b_Y_Lo b_Y_Hi : Int) : ref04_Back_pre m_A m_B m_C m_D m_E m_F m_Residue b_X_Lo b_X_Hi b_Y_Lo b_Y_Hi := by
  unfold ref04_Back_pre
  (intro h; have hd := ne_of_det (rdet_of_valid (vb_left h)); simp [hd])
def ref04_Then_pre (m_A m_B m_C m_D m_E m_F m_Residue n_A n_B n_C n_D n_E n_F n_Residue : Int) : Prop :=
  (((!ref04_Valid_0 m_A m_B m_C m_D m_E m_F m_Residue || !ref04_Valid_0 n_A n_B n_C n_D n_E n_F n_Residue) = false) → (((((1000000 : Int) = 0) → (False)) ∧ (((1000000 : Int) = 0) → (False))) ∧ (((((1000000 : Int) = 0) → (False)) ∧ (((1000000 : Int) = 0) → (False))) ∧ (((((1000000 : Int) = 0) → (False)) ∧ (((1000000 : Int) = 0) → (False))) ∧ (((((1000000 : Int) = 0) → (False)) ∧ (((1000000 : Int) = 0) → (False))) ∧ (((((1000000 : Int) = 0) → (False)) ∧ (((1000000 : Int) = 0) → (False))) ∧ (((((1000000 : Int) = 0) → (False)) ∧ (((1000000 : Int) = 0) → (False))) ∧ ((((1000000 : Int) = 0) → (False)) ∧ (((1000000 : Int) = 0) → (False))))))))))
def ref04_Then_0 (m_A m_B m_C m_D m_E m_F m_Residue n_A n_B n_C n_D n_E n_F n_Residue : Int) : Int :=
  bif !ref04_Valid_0 m_A m_B m_C m_D m_E m_F m_Residue || !ref04_Valid_0 n_A n_B n_C n_D n_E n_F n_Residue then 0
else
  bif
      !ref04_Valid_0 (ref04_Round_0 (IntKind.i64.wrap (IntKind.i64.wrap (n_A * m_A) + IntKind.i64.wrap (n_B * m_D))) 1000000)
          (ref04_Round_0 (IntKind.i64.wrap (IntKind.i64.wrap (n_A * m_B) + IntKind.i64.wrap (n_B * m_E))) 1000000)
          (IntKind.i64.wrap (ref04_Round_0 (IntKind.i64.wrap (IntKind.i64.wrap (n_A * m_C) + IntKind.i64.wrap (n_B * m_F))) 1000000 + n_C))
          (ref04_Round_0 (IntKind.i64.wrap (IntKind.i64.wrap (n_D * m_A) + IntKind.i64.wrap (n_E * m_D))) 1000000)
          (ref04_Round_0 (IntKind.i64.wrap (IntKind.i64.wrap (n_D * m_B) + IntKind.i64.wrap (n_E * m_E))) 1000000)
          (IntKind.i64.wrap (ref04_Round_0 (IntKind.i64.wrap (IntKind.i64.wrap (n_D * m_C) + IntKind.i64.wrap (n_E * m_F))) 1000000 + n_F))
          (IntKind.i64.wrap
            (IntKind.i64.wrap
                (ref04_Up_0 (IntKind.i64.wrap (imax (IntKind.i64.wrap (ref04_Size_0 n_A + ref04_Size_0 n_B)) (IntKind.i64.wrap (ref04_Size_0 n_D + ref04_Size_0 n_E)) * m_Residue)) 1000000 +
                  n_Residue) +
              2)) then
    0
  else ref04_Round_0 (IntKind.i64.wrap (IntKind.i64.wrap (n_A * m_A) + IntKind.i64.wrap (n_B * m_D))) 1000000
def ref04_Then_1 (m_A m_B m_C m_D m_E m_F m_Residue n_A n_B n_C n_D n_E n_F n_Residue : Int) : Int :=
  bif !ref04_Valid_0 m_A m_B m_C m_D m_E m_F m_Residue || !ref04_Valid_0 n_A n_B n_C n_D n_E n_F n_Residue then 0
else
  bif
      !ref04_Valid_0 (ref04_Round_0 (IntKind.i64.wrap (IntKind.i64.wrap (n_A * m_A) + IntKind.i64.wrap (n_B * m_D))) 1000000)
          (ref04_Round_0 (IntKind.i64.wrap (IntKind.i64.wrap (n_A * m_B) + IntKind.i64.wrap (n_B * m_E))) 1000000)
          (IntKind.i64.wrap (ref04_Round_0 (IntKind.i64.wrap (IntKind.i64.wrap (n_A * m_C) + IntKind.i64.wrap (n_B * m_F))) 1000000 + n_C))
          (ref04_Round_0 (IntKind.i64.wrap (IntKind.i64.wrap (n_D * m_A) + IntKind.i64.wrap (n_E * m_D))) 1000000)
          (ref04_Round_0 (IntKind.i64.wrap (IntKind.i64.wrap (n_D * m_B) + IntKind.i64.wrap (n_E * m_E))) 1000000)
          (IntKind.i64.wrap (ref04_Round_0 (IntKind.i64.wrap (IntKind.i64.wrap (n_D * m_C) + IntKind.i64.wrap (n_E * m_F))) 1000000 + n_F))
          (IntKind.i64.wrap
            (IntKind.i64.wrap
                (ref04_Up_0 (IntKind.i64.wrap (imax (IntKind.i64.wrap (ref04_Size_0 n_A + ref04_Size_0 n_B)) (IntKind.i64.wrap (ref04_Size_0 n_D + ref04_Size_0 n_E)) * m_Residue)) 1000000 +
                  n_Residue) +
              2)) then
    0
  else ref04_Round_0 (IntKind.i64.wrap (IntKind.i64.wrap (n_A * m_B) + IntKind.i64.wrap (n_B * m_E))) 1000000
def ref04_Then_2 (m_A m_B m_C m_D m_E m_F m_Residue n_A n_B n_C n_D n_E n_F n_Residue : Int) : Int :=
  bif !ref04_Valid_0 m_A m_B m_C m_D m_E m_F m_Residue || !ref04_Valid_0 n_A n_B n_C n_D n_E n_F n_Residue then 0
else
  bif
      !ref04_Valid_0 (ref04_Round_0 (IntKind.i64.wrap (IntKind.i64.wrap (n_A * m_A) + IntKind.i64.wrap (n_B * m_D))) 1000000)
          (ref04_Round_0 (IntKind.i64.wrap (IntKind.i64.wrap (n_A * m_B) + IntKind.i64.wrap (n_B * m_E))) 1000000)
          (IntKind.i64.wrap (ref04_Round_0 (IntKind.i64.wrap (IntKind.i64.wrap (n_A * m_C) + IntKind.i64.wrap (n_B * m_F))) 1000000 + n_C))
          (ref04_Round_0 (IntKind.i64.wrap (IntKind.i64.wrap (n_D * m_A) + IntKind.i64.wrap (n_E * m_D))) 1000000)
          (ref04_Round_0 (IntKind.i64.wrap (IntKind.i64.wrap (n_D * m_B) + IntKind.i64.wrap (n_E * m_E))) 1000000)
          (IntKind.i64.wrap (ref04_Round_0 (IntKind.i64.wrap (IntKind.i64.wrap (n_D * m_C) + IntKind.i64.wrap (n_E * m_F))) 1000000 + n_F))
          (IntKind.i64.wrap
            (IntKind.i64.wrap
                (ref04_Up_0 (IntKind.i64.wrap (imax (IntKind.i64.wrap (ref04_Size_0 n_A + ref04_Size_0 n_B)) (IntKind.i64.wrap (ref04_Size_0 n_D + ref04_Size_0 n_E)) * m_Residue)) 1000000 +
                  n_Residue) +
              2)) then
    0
  else IntKind.i64.wrap (ref04_Round_0 (IntKind.i64.wrap (IntKind.i64.wrap (n_A * m_C) + IntKind.i64.wrap (n_B * m_F))) 1000000 + n_C)
def ref04_Then_3 (m_A m_B m_C m_D m_E m_F m_Residue n_A n_B n_C n_D n_E n_F n_Residue : Int) : Int :=
  bif !ref04_Valid_0 m_A m_B m_C m_D m_E m_F m_Residue || !ref04_Valid_0 n_A n_B n_C n_D n_E n_F n_Residue then 0
else
  bif
      !ref04_Valid_0 (ref04_Round_0 (IntKind.i64.wrap (IntKind.i64.wrap (n_A * m_A) + IntKind.i64.wrap (n_B * m_D))) 1000000)
          (ref04_Round_0 (IntKind.i64.wrap (IntKind.i64.wrap (n_A * m_B) + IntKind.i64.wrap (n_B * m_E))) 1000000)
          (IntKind.i64.wrap (ref04_Round_0 (IntKind.i64.wrap (IntKind.i64.wrap (n_A * m_C) + IntKind.i64.wrap (n_B * m_F))) 1000000 + n_C))
          (ref04_Round_0 (IntKind.i64.wrap (IntKind.i64.wrap (n_D * m_A) + IntKind.i64.wrap (n_E * m_D))) 1000000)
          (ref04_Round_0 (IntKind.i64.wrap (IntKind.i64.wrap (n_D * m_B) + IntKind.i64.wrap (n_E * m_E))) 1000000)
          (IntKind.i64.wrap (ref04_Round_0 (IntKind.i64.wrap (IntKind.i64.wrap (n_D * m_C) + IntKind.i64.wrap (n_E * m_F))) 1000000 + n_F))
          (IntKind.i64.wrap
            (IntKind.i64.wrap
                (ref04_Up_0 (IntKind.i64.wrap (imax (IntKind.i64.wrap (ref04_Size_0 n_A + ref04_Size_0 n_B)) (IntKind.i64.wrap (ref04_Size_0 n_D + ref04_Size_0 n_E)) * m_Residue)) 1000000 +
                  n_Residue) +
              2)) then
    0
  else ref04_Round_0 (IntKind.i64.wrap (IntKind.i64.wrap (n_D * m_A) + IntKind.i64.wrap (n_E * m_D))) 1000000
def ref04_Then_4 (m_A m_B m_C m_D m_E m_F m_Residue n_A n_B n_C n_D n_E n_F n_Residue : Int) : Int :=
  bif !ref04_Valid_0 m_A m_B m_C m_D m_E m_F m_Residue || !ref04_Valid_0 n_A n_B n_C n_D n_E n_F n_Residue then 0
else
  bif
      !ref04_Valid_0 (ref04_Round_0 (IntKind.i64.wrap (IntKind.i64.wrap (n_A * m_A) + IntKind.i64.wrap (n_B * m_D))) 1000000)
          (ref04_Round_0 (IntKind.i64.wrap (IntKind.i64.wrap (n_A * m_B) + IntKind.i64.wrap (n_B * m_E))) 1000000)
          (IntKind.i64.wrap (ref04_Round_0 (IntKind.i64.wrap (IntKind.i64.wrap (n_A * m_C) + IntKind.i64.wrap (n_B * m_F))) 1000000 + n_C))
          (ref04_Round_0 (IntKind.i64.wrap (IntKind.i64.wrap (n_D * m_A) + IntKind.i64.wrap (n_E * m_D))) 1000000)
          (ref04_Round_0 (IntKind.i64.wrap (IntKind.i64.wrap (n_D * m_B) + IntKind.i64.wrap (n_E * m_E))) 1000000)
          (IntKind.i64.wrap (ref04_Round_0 (IntKind.i64.wrap (IntKind.i64.wrap (n_D * m_C) + IntKind.i64.wrap (n_E * m_F))) 1000000 + n_F))
          (IntKind.i64.wrap
            (IntKind.i64.wrap
                (ref04_Up_0 (IntKind.i64.wrap (imax (IntKind.i64.wrap (ref04_Size_0 n_A + ref04_Size_0 n_B)) (IntKind.i64.wrap (ref04_Size_0 n_D + ref04_Size_0 n_E)) * m_Residue)) 1000000 +
                  n_Residue) +
              2)) then
    0
  else ref04_Round_0 (IntKind.i64.wrap (IntKind.i64.wrap (n_D * m_B) + IntKind.i64.wrap (n_E * m_E))) 1000000
def ref04_Then_5 (m_A m_B m_C m_D m_E m_F m_Residue n_A n_B n_C n_D n_E n_F n_Residue : Int) : Int :=
  bif !ref04_Valid_0 m_A m_B m_C m_D m_E m_F m_Residue || !ref04_Valid_0 n_A n_B n_C n_D n_E n_F n_Residue then 0
else
  bif
      !ref04_Valid_0 (ref04_Round_0 (IntKind.i64.wrap (IntKind.i64.wrap (n_A * m_A) + IntKind.i64.wrap (n_B * m_D))) 1000000)
          (ref04_Round_0 (IntKind.i64.wrap (IntKind.i64.wrap (n_A * m_B) + IntKind.i64.wrap (n_B * m_E))) 1000000)
          (IntKind.i64.wrap (ref04_Round_0 (IntKind.i64.wrap (IntKind.i64.wrap (n_A * m_C) + IntKind.i64.wrap (n_B * m_F))) 1000000 + n_C))
          (ref04_Round_0 (IntKind.i64.wrap (IntKind.i64.wrap (n_D * m_A) + IntKind.i64.wrap (n_E * m_D))) 1000000)
          (ref04_Round_0 (IntKind.i64.wrap (IntKind.i64.wrap (n_D * m_B) + IntKind.i64.wrap (n_E * m_E))) 1000000)
          (IntKind.i64.wrap (ref04_Round_0 (IntKind.i64.wrap (IntKind.i64.wrap (n_D * m_C) + IntKind.i64.wrap (n_E * m_F))) 1000000 + n_F))
          (IntKind.i64.wrap
            (IntKind.i64.wrap
                (ref04_Up_0 (IntKind.i64.wrap (imax (IntKind.i64.wrap (ref04_Size_0 n_A + ref04_Size_0 n_B)) (IntKind.i64.wrap (ref04_Size_0 n_D + ref04_Size_0 n_E)) * m_Residue)) 1000000 +
                  n_Residue) +
              2)) then
    0
  else IntKind.i64.wrap (ref04_Round_0 (IntKind.i64.wrap (IntKind.i64.wrap (n_D * m_C) + IntKind.i64.wrap (n_E * m_F))) 1000000 + n_F)
def ref04_Then_6 (m_A m_B m_C m_D m_E m_F m_Residue n_A n_B n_C n_D n_E n_F n_Residue : Int) : Int :=
  bif !ref04_Valid_0 m_A m_B m_C m_D m_E m_F m_Residue || !ref04_Valid_0 n_A n_B n_C n_D n_E n_F n_Residue then 0
else
  bif
      !ref04_Valid_0 (ref04_Round_0 (IntKind.i64.wrap (IntKind.i64.wrap (n_A * m_A) + IntKind.i64.wrap (n_B * m_D))) 1000000)
          (ref04_Round_0 (IntKind.i64.wrap (IntKind.i64.wrap (n_A * m_B) + IntKind.i64.wrap (n_B * m_E))) 1000000)
          (IntKind.i64.wrap (ref04_Round_0 (IntKind.i64.wrap (IntKind.i64.wrap (n_A * m_C) + IntKind.i64.wrap (n_B * m_F))) 1000000 + n_C))
          (ref04_Round_0 (IntKind.i64.wrap (IntKind.i64.wrap (n_D * m_A) + IntKind.i64.wrap (n_E * m_D))) 1000000)
          (ref04_Round_0 (IntKind.i64.wrap (IntKind.i64.wrap (n_D * m_B) + IntKind.i64.wrap (n_E * m_E))) 1000000)
          (IntKind.i64.wrap (ref04_Round_0 (IntKind.i64.wrap (IntKind.i64.wrap (n_D * m_C) + IntKind.i64.wrap (n_E * m_F))) 1000000 + n_F))
          (IntKind.i64.wrap
            (IntKind.i64.wrap
                (ref04_Up_0 (IntKind.i64.wrap (imax (IntKind.i64.wrap (ref04_Size_0 n_A + ref04_Size_0 n_B)) (IntKind.i64.wrap (ref04_Size_0 n_D + ref04_Size_0 n_E)) * m_Residue)) 1000000 +
                  n_Residue) +
              2)) then
    0
  else
    IntKind.i64.wrap
      (IntKind.i64.wrap
          (ref04_Up_0 (IntKind.i64.wrap (imax (IntKind.i64.wrap (ref04_Size_0 n_A + ref04_Size_0 n_B)) (IntKind.i64.wrap (ref04_Size_0 n_D + ref04_Size_0 n_E)) * m_Residue)) 1000000 + n_Residue) +
        2)
def ref04_Then_7 (m_A m_B m_C m_D m_E m_F m_Residue n_A n_B n_C n_D n_E n_F n_Residue : Int) : Int :=
  bif !ref04_Valid_0 m_A m_B m_C m_D m_E m_F m_Residue || !ref04_Valid_0 n_A n_B n_C n_D n_E n_F n_Residue then 1
else
  bif
      !ref04_Valid_0 (ref04_Round_0 (IntKind.i64.wrap (IntKind.i64.wrap (n_A * m_A) + IntKind.i64.wrap (n_B * m_D))) 1000000)
          (ref04_Round_0 (IntKind.i64.wrap (IntKind.i64.wrap (n_A * m_B) + IntKind.i64.wrap (n_B * m_E))) 1000000)
          (IntKind.i64.wrap (ref04_Round_0 (IntKind.i64.wrap (IntKind.i64.wrap (n_A * m_C) + IntKind.i64.wrap (n_B * m_F))) 1000000 + n_C))
          (ref04_Round_0 (IntKind.i64.wrap (IntKind.i64.wrap (n_D * m_A) + IntKind.i64.wrap (n_E * m_D))) 1000000)
          (ref04_Round_0 (IntKind.i64.wrap (IntKind.i64.wrap (n_D * m_B) + IntKind.i64.wrap (n_E * m_E))) 1000000)
          (IntKind.i64.wrap (ref04_Round_0 (IntKind.i64.wrap (IntKind.i64.wrap (n_D * m_C) + IntKind.i64.wrap (n_E * m_F))) 1000000 + n_F))
          (IntKind.i64.wrap
            (IntKind.i64.wrap
                (ref04_Up_0 (IntKind.i64.wrap (imax (IntKind.i64.wrap (ref04_Size_0 n_A + ref04_Size_0 n_B)) (IntKind.i64.wrap (ref04_Size_0 n_D + ref04_Size_0 n_E)) * m_Residue)) 1000000 +
                  n_Residue) +
              2)) then
    3
  else 0
theorem ref04_Then_pre_ok (m_A m_B m_C m_D m_E m_F m_Residue n_A n_B n_C n_D n_E n_F n_Residue : Int) : ref04_Then_pre m_A m_B m_C m_D m_E m_F m_Residue n_A n_B n_C n_D n_E n_F n_Residue := by
  unfold ref04_Then_pre
  (first | (simp; done) | (simp; omega) | (simp [IntKind.wrap_i64]; done) | (simp [IntKind.wrap_i64]; omega))
def ref04_Undo_pre (m_A m_B m_C m_D m_E m_F m_Residue : Int) : Prop :=
  (((!ref04_Valid_0 m_A m_B m_C m_D m_E m_F m_Residue) = false) → (((((ref04_Det_0 m_A m_B m_C m_D m_E m_F m_Residue : Int) = 0) → (False)) ∧ (((ref04_Det_0 m_A m_B m_C m_D m_E m_F m_Residue : Int) = 0) → (False))) ∧ (((((ref04_Det_0 m_A m_B m_C m_D m_E m_F m_Residue : Int) = 0) → (False)) ∧ (((ref04_Det_0 m_A m_B m_C m_D m_E m_F m_Residue : Int) = 0) → (False))) ∧ (((((ref04_Det_0 m_A m_B m_C m_D m_E m_F m_Residue : Int) = 0) → (False)) ∧ (((ref04_Det_0 m_A m_B m_C m_D m_E m_F m_Residue : Int) = 0) → (False))) ∧ (((((ref04_Det_0 m_A m_B m_C m_D m_E m_F m_Residue : Int) = 0) → (False)) ∧ (((ref04_Det_0 m_A m_B m_C m_D m_E m_F m_Residue : Int) = 0) → (False))) ∧ (((((1000000 : Int) = 0) → (False)) ∧ (((1000000 : Int) = 0) → (False))) ∧ (((((1000000 : Int) = 0) → (False)) ∧ (((1000000 : Int) = 0) → (False))) ∧ ((((1000000 : Int) = 0) → (False)) ∧ (((1000000 : Int) = 0) → (False))))))))))
def ref04_Undo_0 (m_A m_B m_C m_D m_E m_F m_Residue : Int) : Int :=
  bif !ref04_Valid_0 m_A m_B m_C m_D m_E m_F m_Residue then 0
else
  bif
      !ref04_Valid_0 (ref04_Round_0 (IntKind.i64.wrap (m_E * 1000000000000)) (ref04_Det_0 m_A m_B m_C m_D m_E m_F m_Residue))
          (ref04_Round_0 (IntKind.i64.wrap (IntKind.i64.wrap (0 - m_B) * 1000000000000)) (ref04_Det_0 m_A m_B m_C m_D m_E m_F m_Residue))
          (ref04_Round_0
            (IntKind.i64.wrap
              (0 -
                IntKind.i64.wrap
                  (IntKind.i64.wrap (ref04_Round_0 (IntKind.i64.wrap (m_E * 1000000000000)) (ref04_Det_0 m_A m_B m_C m_D m_E m_F m_Residue) * m_C) +
                    IntKind.i64.wrap (ref04_Round_0 (IntKind.i64.wrap (IntKind.i64.wrap (0 - m_B) * 1000000000000)) (ref04_Det_0 m_A m_B m_C m_D m_E m_F m_Residue) * m_F))))
            1000000)
          (ref04_Round_0 (IntKind.i64.wrap (IntKind.i64.wrap (0 - m_D) * 1000000000000)) (ref04_Det_0 m_A m_B m_C m_D m_E m_F m_Residue))
          (ref04_Round_0 (IntKind.i64.wrap (m_A * 1000000000000)) (ref04_Det_0 m_A m_B m_C m_D m_E m_F m_Residue))
          (ref04_Round_0
            (IntKind.i64.wrap
              (0 -
                IntKind.i64.wrap
                  (IntKind.i64.wrap (ref04_Round_0 (IntKind.i64.wrap (IntKind.i64.wrap (0 - m_D) * 1000000000000)) (ref04_Det_0 m_A m_B m_C m_D m_E m_F m_Residue) * m_C) +
                    IntKind.i64.wrap (ref04_Round_0 (IntKind.i64.wrap (m_A * 1000000000000)) (ref04_Det_0 m_A m_B m_C m_D m_E m_F m_Residue) * m_F))))
            1000000)
          (IntKind.i64.wrap
            (ref04_Up_0
                (IntKind.i64.wrap
                  (imax
                      (IntKind.i64.wrap
                        (IntKind.i64.wrap
                            (ref04_Size_0 (ref04_Round_0 (IntKind.i64.wrap (m_E * 1000000000000)) (ref04_Det_0 m_A m_B m_C m_D m_E m_F m_Residue)) +
                              ref04_Size_0 (ref04_Round_0 (IntKind.i64.wrap (IntKind.i64.wrap (0 - m_B) * 1000000000000)) (ref04_Det_0 m_A m_B m_C m_D m_E m_F m_Residue))) +
                          1))
                      (IntKind.i64.wrap
                        (IntKind.i64.wrap
                            (ref04_Size_0 (ref04_Round_0 (IntKind.i64.wrap (IntKind.i64.wrap (0 - m_D) * 1000000000000)) (ref04_Det_0 m_A m_B m_C m_D m_E m_F m_Residue)) +
                              ref04_Size_0 (ref04_Round_0 (IntKind.i64.wrap (m_A * 1000000000000)) (ref04_Det_0 m_A m_B m_C m_D m_E m_F m_Residue))) +
                          1)) *
                    m_Residue))
                1000000 +
              2)) then
    0
  else ref04_Round_0 (IntKind.i64.wrap (m_E * 1000000000000)) (ref04_Det_0 m_A m_B m_C m_D m_E m_F m_Residue)
def ref04_Undo_1 (m_A m_B m_C m_D m_E m_F m_Residue : Int) : Int :=
  bif !ref04_Valid_0 m_A m_B m_C m_D m_E m_F m_Residue then 0
else
  bif
      !ref04_Valid_0 (ref04_Round_0 (IntKind.i64.wrap (m_E * 1000000000000)) (ref04_Det_0 m_A m_B m_C m_D m_E m_F m_Residue))
          (ref04_Round_0 (IntKind.i64.wrap (IntKind.i64.wrap (0 - m_B) * 1000000000000)) (ref04_Det_0 m_A m_B m_C m_D m_E m_F m_Residue))
          (ref04_Round_0
            (IntKind.i64.wrap
              (0 -
                IntKind.i64.wrap
                  (IntKind.i64.wrap (ref04_Round_0 (IntKind.i64.wrap (m_E * 1000000000000)) (ref04_Det_0 m_A m_B m_C m_D m_E m_F m_Residue) * m_C) +
                    IntKind.i64.wrap (ref04_Round_0 (IntKind.i64.wrap (IntKind.i64.wrap (0 - m_B) * 1000000000000)) (ref04_Det_0 m_A m_B m_C m_D m_E m_F m_Residue) * m_F))))
            1000000)
          (ref04_Round_0 (IntKind.i64.wrap (IntKind.i64.wrap (0 - m_D) * 1000000000000)) (ref04_Det_0 m_A m_B m_C m_D m_E m_F m_Residue))
          (ref04_Round_0 (IntKind.i64.wrap (m_A * 1000000000000)) (ref04_Det_0 m_A m_B m_C m_D m_E m_F m_Residue))
          (ref04_Round_0
            (IntKind.i64.wrap
              (0 -
                IntKind.i64.wrap
                  (IntKind.i64.wrap (ref04_Round_0 (IntKind.i64.wrap (IntKind.i64.wrap (0 - m_D) * 1000000000000)) (ref04_Det_0 m_A m_B m_C m_D m_E m_F m_Residue) * m_C) +
                    IntKind.i64.wrap (ref04_Round_0 (IntKind.i64.wrap (m_A * 1000000000000)) (ref04_Det_0 m_A m_B m_C m_D m_E m_F m_Residue) * m_F))))
            1000000)
          (IntKind.i64.wrap
            (ref04_Up_0
                (IntKind.i64.wrap
                  (imax
                      (IntKind.i64.wrap
                        (IntKind.i64.wrap
                            (ref04_Size_0 (ref04_Round_0 (IntKind.i64.wrap (m_E * 1000000000000)) (ref04_Det_0 m_A m_B m_C m_D m_E m_F m_Residue)) +
                              ref04_Size_0 (ref04_Round_0 (IntKind.i64.wrap (IntKind.i64.wrap (0 - m_B) * 1000000000000)) (ref04_Det_0 m_A m_B m_C m_D m_E m_F m_Residue))) +
                          1))
                      (IntKind.i64.wrap
                        (IntKind.i64.wrap
                            (ref04_Size_0 (ref04_Round_0 (IntKind.i64.wrap (IntKind.i64.wrap (0 - m_D) * 1000000000000)) (ref04_Det_0 m_A m_B m_C m_D m_E m_F m_Residue)) +
                              ref04_Size_0 (ref04_Round_0 (IntKind.i64.wrap (m_A * 1000000000000)) (ref04_Det_0 m_A m_B m_C m_D m_E m_F m_Residue))) +
                          1)) *
                    m_Residue))
                1000000 +
              2)) then
    0
  else ref04_Round_0 (IntKind.i64.wrap (IntKind.i64.wrap (0 - m_B) * 1000000000000)) (ref04_Det_0 m_A m_B m_C m_D m_E m_F m_Residue)
def ref04_Undo_2 (m_A m_B m_C m_D m_E m_F m_Residue : Int) : Int :=
  bif !ref04_Valid_0 m_A m_B m_C m_D m_E m_F m_Residue then 0
else
  bif
      !ref04_Valid_0 (ref04_Round_0 (IntKind.i64.wrap (m_E * 1000000000000)) (ref04_Det_0 m_A m_B m_C m_D m_E m_F m_Residue))
          (ref04_Round_0 (IntKind.i64.wrap (IntKind.i64.wrap (0 - m_B) * 1000000000000)) (ref04_Det_0 m_A m_B m_C m_D m_E m_F m_Residue))
          (ref04_Round_0
            (IntKind.i64.wrap
              (0 -
                IntKind.i64.wrap
                  (IntKind.i64.wrap (ref04_Round_0 (IntKind.i64.wrap (m_E * 1000000000000)) (ref04_Det_0 m_A m_B m_C m_D m_E m_F m_Residue) * m_C) +
                    IntKind.i64.wrap (ref04_Round_0 (IntKind.i64.wrap (IntKind.i64.wrap (0 - m_B) * 1000000000000)) (ref04_Det_0 m_A m_B m_C m_D m_E m_F m_Residue) * m_F))))
            1000000)
          (ref04_Round_0 (IntKind.i64.wrap (IntKind.i64.wrap (0 - m_D) * 1000000000000)) (ref04_Det_0 m_A m_B m_C m_D m_E m_F m_Residue))
          (ref04_Round_0 (IntKind.i64.wrap (m_A * 1000000000000)) (ref04_Det_0 m_A m_B m_C m_D m_E m_F m_Residue))
          (ref04_Round_0
            (IntKind.i64.wrap
              (0 -
                IntKind.i64.wrap
                  (IntKind.i64.wrap (ref04_Round_0 (IntKind.i64.wrap (IntKind.i64.wrap (0 - m_D) * 1000000000000)) (ref04_Det_0 m_A m_B m_C m_D m_E m_F m_Residue) * m_C) +
                    IntKind.i64.wrap (ref04_Round_0 (IntKind.i64.wrap (m_A * 1000000000000)) (ref04_Det_0 m_A m_B m_C m_D m_E m_F m_Residue) * m_F))))
            1000000)
          (IntKind.i64.wrap
            (ref04_Up_0
                (IntKind.i64.wrap
                  (imax
                      (IntKind.i64.wrap
                        (IntKind.i64.wrap
                            (ref04_Size_0 (ref04_Round_0 (IntKind.i64.wrap (m_E * 1000000000000)) (ref04_Det_0 m_A m_B m_C m_D m_E m_F m_Residue)) +
                              ref04_Size_0 (ref04_Round_0 (IntKind.i64.wrap (IntKind.i64.wrap (0 - m_B) * 1000000000000)) (ref04_Det_0 m_A m_B m_C m_D m_E m_F m_Residue))) +
                          1))
                      (IntKind.i64.wrap
                        (IntKind.i64.wrap
                            (ref04_Size_0 (ref04_Round_0 (IntKind.i64.wrap (IntKind.i64.wrap (0 - m_D) * 1000000000000)) (ref04_Det_0 m_A m_B m_C m_D m_E m_F m_Residue)) +
                              ref04_Size_0 (ref04_Round_0 (IntKind.i64.wrap (m_A * 1000000000000)) (ref04_Det_0 m_A m_B m_C m_D m_E m_F m_Residue))) +
                          1)) *
                    m_Residue))
                1000000 +
              2)) then
    0
  else
    ref04_Round_0
      (IntKind.i64.wrap
        (0 -
          IntKind.i64.wrap
            (IntKind.i64.wrap (ref04_Round_0 (IntKind.i64.wrap (m_E * 1000000000000)) (ref04_Det_0 m_A m_B m_C m_D m_E m_F m_Residue) * m_C) +
              IntKind.i64.wrap (ref04_Round_0 (IntKind.i64.wrap (IntKind.i64.wrap (0 - m_B) * 1000000000000)) (ref04_Det_0 m_A m_B m_C m_D m_E m_F m_Residue) * m_F))))
      1000000
def ref04_Undo_3 (m_A m_B m_C m_D m_E m_F m_Residue : Int) : Int :=
  bif !ref04_Valid_0 m_A m_B m_C m_D m_E m_F m_Residue then 0
else
  bif
      !ref04_Valid_0 (ref04_Round_0 (IntKind.i64.wrap (m_E * 1000000000000)) (ref04_Det_0 m_A m_B m_C m_D m_E m_F m_Residue))
          (ref04_Round_0 (IntKind.i64.wrap (IntKind.i64.wrap (0 - m_B) * 1000000000000)) (ref04_Det_0 m_A m_B m_C m_D m_E m_F m_Residue))
          (ref04_Round_0
            (IntKind.i64.wrap
              (0 -
                IntKind.i64.wrap
                  (IntKind.i64.wrap (ref04_Round_0 (IntKind.i64.wrap (m_E * 1000000000000)) (ref04_Det_0 m_A m_B m_C m_D m_E m_F m_Residue) * m_C) +
                    IntKind.i64.wrap (ref04_Round_0 (IntKind.i64.wrap (IntKind.i64.wrap (0 - m_B) * 1000000000000)) (ref04_Det_0 m_A m_B m_C m_D m_E m_F m_Residue) * m_F))))
            1000000)
          (ref04_Round_0 (IntKind.i64.wrap (IntKind.i64.wrap (0 - m_D) * 1000000000000)) (ref04_Det_0 m_A m_B m_C m_D m_E m_F m_Residue))
          (ref04_Round_0 (IntKind.i64.wrap (m_A * 1000000000000)) (ref04_Det_0 m_A m_B m_C m_D m_E m_F m_Residue))
          (ref04_Round_0
            (IntKind.i64.wrap
              (0 -
                IntKind.i64.wrap
                  (IntKind.i64.wrap (ref04_Round_0 (IntKind.i64.wrap (IntKind.i64.wrap (0 - m_D) * 1000000000000)) (ref04_Det_0 m_A m_B m_C m_D m_E m_F m_Residue) * m_C) +
                    IntKind.i64.wrap (ref04_Round_0 (IntKind.i64.wrap (m_A * 1000000000000)) (ref04_Det_0 m_A m_B m_C m_D m_E m_F m_Residue) * m_F))))
            1000000)
          (IntKind.i64.wrap
            (ref04_Up_0
                (IntKind.i64.wrap
                  (imax
                      (IntKind.i64.wrap
                        (IntKind.i64.wrap
                            (ref04_Size_0 (ref04_Round_0 (IntKind.i64.wrap (m_E * 1000000000000)) (ref04_Det_0 m_A m_B m_C m_D m_E m_F m_Residue)) +
                              ref04_Size_0 (ref04_Round_0 (IntKind.i64.wrap (IntKind.i64.wrap (0 - m_B) * 1000000000000)) (ref04_Det_0 m_A m_B m_C m_D m_E m_F m_Residue))) +
                          1))
                      (IntKind.i64.wrap
                        (IntKind.i64.wrap
                            (ref04_Size_0 (ref04_Round_0 (IntKind.i64.wrap (IntKind.i64.wrap (0 - m_D) * 1000000000000)) (ref04_Det_0 m_A m_B m_C m_D m_E m_F m_Residue)) +
                              ref04_Size_0 (ref04_Round_0 (IntKind.i64.wrap (m_A * 1000000000000)) (ref04_Det_0 m_A m_B m_C m_D m_E m_F m_Residue))) +
                          1)) *
                    m_Residue))
                1000000 +
              2)) then
    0
  else ref04_Round_0 (IntKind.i64.wrap (IntKind.i64.wrap (0 - m_D) * 1000000000000)) (ref04_Det_0 m_A m_B m_C m_D m_E m_F m_Residue)
def ref04_Undo_4 (m_A m_B m_C m_D m_E m_F m_Residue : Int) : Int :=
  bif !ref04_Valid_0 m_A m_B m_C m_D m_E m_F m_Residue then 0
else
  bif
      !ref04_Valid_0 (ref04_Round_0 (IntKind.i64.wrap (m_E * 1000000000000)) (ref04_Det_0 m_A m_B m_C m_D m_E m_F m_Residue))
          (ref04_Round_0 (IntKind.i64.wrap (IntKind.i64.wrap (0 - m_B) * 1000000000000)) (ref04_Det_0 m_A m_B m_C m_D m_E m_F m_Residue))
          (ref04_Round_0
            (IntKind.i64.wrap
              (0 -
                IntKind.i64.wrap
                  (IntKind.i64.wrap (ref04_Round_0 (IntKind.i64.wrap (m_E * 1000000000000)) (ref04_Det_0 m_A m_B m_C m_D m_E m_F m_Residue) * m_C) +
                    IntKind.i64.wrap (ref04_Round_0 (IntKind.i64.wrap (IntKind.i64.wrap (0 - m_B) * 1000000000000)) (ref04_Det_0 m_A m_B m_C m_D m_E m_F m_Residue) * m_F))))
            1000000)
          (ref04_Round_0 (IntKind.i64.wrap (IntKind.i64.wrap (0 - m_D) * 1000000000000)) (ref04_Det_0 m_A m_B m_C m_D m_E m_F m_Residue))
          (ref04_Round_0 (IntKind.i64.wrap (m_A * 1000000000000)) (ref04_Det_0 m_A m_B m_C m_D m_E m_F m_Residue))
          (ref04_Round_0
            (IntKind.i64.wrap
              (0 -
                IntKind.i64.wrap
                  (IntKind.i64.wrap (ref04_Round_0 (IntKind.i64.wrap (IntKind.i64.wrap (0 - m_D) * 1000000000000)) (ref04_Det_0 m_A m_B m_C m_D m_E m_F m_Residue) * m_C) +
                    IntKind.i64.wrap (ref04_Round_0 (IntKind.i64.wrap (m_A * 1000000000000)) (ref04_Det_0 m_A m_B m_C m_D m_E m_F m_Residue) * m_F))))
            1000000)
          (IntKind.i64.wrap
            (ref04_Up_0
                (IntKind.i64.wrap
                  (imax
                      (IntKind.i64.wrap
                        (IntKind.i64.wrap
                            (ref04_Size_0 (ref04_Round_0 (IntKind.i64.wrap (m_E * 1000000000000)) (ref04_Det_0 m_A m_B m_C m_D m_E m_F m_Residue)) +
                              ref04_Size_0 (ref04_Round_0 (IntKind.i64.wrap (IntKind.i64.wrap (0 - m_B) * 1000000000000)) (ref04_Det_0 m_A m_B m_C m_D m_E m_F m_Residue))) +
                          1))
                      (IntKind.i64.wrap
                        (IntKind.i64.wrap
                            (ref04_Size_0 (ref04_Round_0 (IntKind.i64.wrap (IntKind.i64.wrap (0 - m_D) * 1000000000000)) (ref04_Det_0 m_A m_B m_C m_D m_E m_F m_Residue)) +
                              ref04_Size_0 (ref04_Round_0 (IntKind.i64.wrap (m_A * 1000000000000)) (ref04_Det_0 m_A m_B m_C m_D m_E m_F m_Residue))) +
                          1)) *
                    m_Residue))
                1000000 +
              2)) then
    0
  else ref04_Round_0 (IntKind.i64.wrap (m_A * 1000000000000)) (ref04_Det_0 m_A m_B m_C m_D m_E m_F m_Residue)
def ref04_Undo_5 (m_A m_B m_C m_D m_E m_F m_Residue : Int) : Int :=
  bif !ref04_Valid_0 m_A m_B m_C m_D m_E m_F m_Residue then 0
else
  bif
      !ref04_Valid_0 (ref04_Round_0 (IntKind.i64.wrap (m_E * 1000000000000)) (ref04_Det_0 m_A m_B m_C m_D m_E m_F m_Residue))
          (ref04_Round_0 (IntKind.i64.wrap (IntKind.i64.wrap (0 - m_B) * 1000000000000)) (ref04_Det_0 m_A m_B m_C m_D m_E m_F m_Residue))
          (ref04_Round_0
            (IntKind.i64.wrap
              (0 -
                IntKind.i64.wrap
                  (IntKind.i64.wrap (ref04_Round_0 (IntKind.i64.wrap (m_E * 1000000000000)) (ref04_Det_0 m_A m_B m_C m_D m_E m_F m_Residue) * m_C) +
                    IntKind.i64.wrap (ref04_Round_0 (IntKind.i64.wrap (IntKind.i64.wrap (0 - m_B) * 1000000000000)) (ref04_Det_0 m_A m_B m_C m_D m_E m_F m_Residue) * m_F))))
            1000000)
          (ref04_Round_0 (IntKind.i64.wrap (IntKind.i64.wrap (0 - m_D) * 1000000000000)) (ref04_Det_0 m_A m_B m_C m_D m_E m_F m_Residue))
          (ref04_Round_0 (IntKind.i64.wrap (m_A * 1000000000000)) (ref04_Det_0 m_A m_B m_C m_D m_E m_F m_Residue))
          (ref04_Round_0
            (IntKind.i64.wrap
              (0 -
                IntKind.i64.wrap
                  (IntKind.i64.wrap (ref04_Round_0 (IntKind.i64.wrap (IntKind.i64.wrap (0 - m_D) * 1000000000000)) (ref04_Det_0 m_A m_B m_C m_D m_E m_F m_Residue) * m_C) +
                    IntKind.i64.wrap (ref04_Round_0 (IntKind.i64.wrap (m_A * 1000000000000)) (ref04_Det_0 m_A m_B m_C m_D m_E m_F m_Residue) * m_F))))
            1000000)
          (IntKind.i64.wrap
            (ref04_Up_0
                (IntKind.i64.wrap
                  (imax
                      (IntKind.i64.wrap
                        (IntKind.i64.wrap
                            (ref04_Size_0 (ref04_Round_0 (IntKind.i64.wrap (m_E * 1000000000000)) (ref04_Det_0 m_A m_B m_C m_D m_E m_F m_Residue)) +
                              ref04_Size_0 (ref04_Round_0 (IntKind.i64.wrap (IntKind.i64.wrap (0 - m_B) * 1000000000000)) (ref04_Det_0 m_A m_B m_C m_D m_E m_F m_Residue))) +
                          1))
                      (IntKind.i64.wrap
                        (IntKind.i64.wrap
                            (ref04_Size_0 (ref04_Round_0 (IntKind.i64.wrap (IntKind.i64.wrap (0 - m_D) * 1000000000000)) (ref04_Det_0 m_A m_B m_C m_D m_E m_F m_Residue)) +
                              ref04_Size_0 (ref04_Round_0 (IntKind.i64.wrap (m_A * 1000000000000)) (ref04_Det_0 m_A m_B m_C m_D m_E m_F m_Residue))) +
                          1)) *
                    m_Residue))
                1000000 +
              2)) then
    0
  else
    ref04_Round_0
      (IntKind.i64.wrap
        (0 -
          IntKind.i64.wrap
            (IntKind.i64.wrap (ref04_Round_0 (IntKind.i64.wrap (IntKind.i64.wrap (0 - m_D) * 1000000000000)) (ref04_Det_0 m_A m_B m_C m_D m_E m_F m_Residue) * m_C) +
              IntKind.i64.wrap (ref04_Round_0 (IntKind.i64.wrap (m_A * 1000000000000)) (ref04_Det_0 m_A m_B m_C m_D m_E m_F m_Residue) * m_F))))
      1000000
def ref04_Undo_6 (m_A m_B m_C m_D m_E m_F m_Residue : Int) : Int :=
  bif !ref04_Valid_0 m_A m_B m_C m_D m_E m_F m_Residue then 0
else
  bif
      !ref04_Valid_0 (ref04_Round_0 (IntKind.i64.wrap (m_E * 1000000000000)) (ref04_Det_0 m_A m_B m_C m_D m_E m_F m_Residue))
          (ref04_Round_0 (IntKind.i64.wrap (IntKind.i64.wrap (0 - m_B) * 1000000000000)) (ref04_Det_0 m_A m_B m_C m_D m_E m_F m_Residue))
          (ref04_Round_0
            (IntKind.i64.wrap
              (0 -
                IntKind.i64.wrap
                  (IntKind.i64.wrap (ref04_Round_0 (IntKind.i64.wrap (m_E * 1000000000000)) (ref04_Det_0 m_A m_B m_C m_D m_E m_F m_Residue) * m_C) +
                    IntKind.i64.wrap (ref04_Round_0 (IntKind.i64.wrap (IntKind.i64.wrap (0 - m_B) * 1000000000000)) (ref04_Det_0 m_A m_B m_C m_D m_E m_F m_Residue) * m_F))))
            1000000)
          (ref04_Round_0 (IntKind.i64.wrap (IntKind.i64.wrap (0 - m_D) * 1000000000000)) (ref04_Det_0 m_A m_B m_C m_D m_E m_F m_Residue))
          (ref04_Round_0 (IntKind.i64.wrap (m_A * 1000000000000)) (ref04_Det_0 m_A m_B m_C m_D m_E m_F m_Residue))
          (ref04_Round_0
            (IntKind.i64.wrap
              (0 -
                IntKind.i64.wrap
                  (IntKind.i64.wrap (ref04_Round_0 (IntKind.i64.wrap (IntKind.i64.wrap (0 - m_D) * 1000000000000)) (ref04_Det_0 m_A m_B m_C m_D m_E m_F m_Residue) * m_C) +
                    IntKind.i64.wrap (ref04_Round_0 (IntKind.i64.wrap (m_A * 1000000000000)) (ref04_Det_0 m_A m_B m_C m_D m_E m_F m_Residue) * m_F))))
            1000000)
          (IntKind.i64.wrap
            (ref04_Up_0
                (IntKind.i64.wrap
                  (imax
                      (IntKind.i64.wrap
                        (IntKind.i64.wrap
                            (ref04_Size_0 (ref04_Round_0 (IntKind.i64.wrap (m_E * 1000000000000)) (ref04_Det_0 m_A m_B m_C m_D m_E m_F m_Residue)) +
                              ref04_Size_0 (ref04_Round_0 (IntKind.i64.wrap (IntKind.i64.wrap (0 - m_B) * 1000000000000)) (ref04_Det_0 m_A m_B m_C m_D m_E m_F m_Residue))) +
                          1))
                      (IntKind.i64.wrap
                        (IntKind.i64.wrap
                            (ref04_Size_0 (ref04_Round_0 (IntKind.i64.wrap (IntKind.i64.wrap (0 - m_D) * 1000000000000)) (ref04_Det_0 m_A m_B m_C m_D m_E m_F m_Residue)) +
                              ref04_Size_0 (ref04_Round_0 (IntKind.i64.wrap (m_A * 1000000000000)) (ref04_Det_0 m_A m_B m_C m_D m_E m_F m_Residue))) +
                          1)) *
                    m_Residue))
                1000000 +
              2)) then
    0
  else
    IntKind.i64.wrap
      (ref04_Up_0
          (IntKind.i64.wrap
            (imax
                (IntKind.i64.wrap
                  (IntKind.i64.wrap
                      (ref04_Size_0 (ref04_Round_0 (IntKind.i64.wrap (m_E * 1000000000000)) (ref04_Det_0 m_A m_B m_C m_D m_E m_F m_Residue)) +
                        ref04_Size_0 (ref04_Round_0 (IntKind.i64.wrap (IntKind.i64.wrap (0 - m_B) * 1000000000000)) (ref04_Det_0 m_A m_B m_C m_D m_E m_F m_Residue))) +
                    1))
                (IntKind.i64.wrap
                  (IntKind.i64.wrap
                      (ref04_Size_0 (ref04_Round_0 (IntKind.i64.wrap (IntKind.i64.wrap (0 - m_D) * 1000000000000)) (ref04_Det_0 m_A m_B m_C m_D m_E m_F m_Residue)) +
                        ref04_Size_0 (ref04_Round_0 (IntKind.i64.wrap (m_A * 1000000000000)) (ref04_Det_0 m_A m_B m_C m_D m_E m_F m_Residue))) +
                    1)) *
              m_Residue))
          1000000 +
        2)
def ref04_Undo_7 (m_A m_B m_C m_D m_E m_F m_Residue : Int) : Int :=
  bif !ref04_Valid_0 m_A m_B m_C m_D m_E m_F m_Residue then 1
else
  bif
      !ref04_Valid_0 (ref04_Round_0 (IntKind.i64.wrap (m_E * 1000000000000)) (ref04_Det_0 m_A m_B m_C m_D m_E m_F m_Residue))
          (ref04_Round_0 (IntKind.i64.wrap (IntKind.i64.wrap (0 - m_B) * 1000000000000)) (ref04_Det_0 m_A m_B m_C m_D m_E m_F m_Residue))
          (ref04_Round_0
            (IntKind.i64.wrap
              (0 -
                IntKind.i64.wrap
                  (IntKind.i64.wrap (ref04_Round_0 (IntKind.i64.wrap (m_E * 1000000000000)) (ref04_Det_0 m_A m_B m_C m_D m_E m_F m_Residue) * m_C) +
                    IntKind.i64.wrap (ref04_Round_0 (IntKind.i64.wrap (IntKind.i64.wrap (0 - m_B) * 1000000000000)) (ref04_Det_0 m_A m_B m_C m_D m_E m_F m_Residue) * m_F))))
            1000000)
          (ref04_Round_0 (IntKind.i64.wrap (IntKind.i64.wrap (0 - m_D) * 1000000000000)) (ref04_Det_0 m_A m_B m_C m_D m_E m_F m_Residue))
          (ref04_Round_0 (IntKind.i64.wrap (m_A * 1000000000000)) (ref04_Det_0 m_A m_B m_C m_D m_E m_F m_Residue))
          (ref04_Round_0
            (IntKind.i64.wrap
              (0 -
                IntKind.i64.wrap
                  (IntKind.i64.wrap (ref04_Round_0 (IntKind.i64.wrap (IntKind.i64.wrap (0 - m_D) * 1000000000000)) (ref04_Det_0 m_A m_B m_C m_D m_E m_F m_Residue) * m_C) +
                    IntKind.i64.wrap (ref04_Round_0 (IntKind.i64.wrap (m_A * 1000000000000)) (ref04_Det_0 m_A m_B m_C m_D m_E m_F m_Residue) * m_F))))
            1000000)
          (IntKind.i64.wrap
            (ref04_Up_0
                (IntKind.i64.wrap
                  (imax
                      (IntKind.i64.wrap
                        (IntKind.i64.wrap
                            (ref04_Size_0 (ref04_Round_0 (IntKind.i64.wrap (m_E * 1000000000000)) (ref04_Det_0 m_A m_B m_C m_D m_E m_F m_Residue)) +
                              ref04_Size_0 (ref04_Round_0 (IntKind.i64.wrap (IntKind.i64.wrap (0 - m_B) * 1000000000000)) (ref04_Det_0 m_A m_B m_C m_D m_E m_F m_Residue))) +
                          1))
                      (IntKind.i64.wrap
                        (IntKind.i64.wrap
                            (ref04_Size_0 (ref04_Round_0 (IntKind.i64.wrap (IntKind.i64.wrap (0 - m_D) * 1000000000000)) (ref04_Det_0 m_A m_B m_C m_D m_E m_F m_Residue)) +
                              ref04_Size_0 (ref04_Round_0 (IntKind.i64.wrap (m_A * 1000000000000)) (ref04_Det_0 m_A m_B m_C m_D m_E m_F m_Residue))) +
                          1)) *
                    m_Residue))
                1000000 +
              2)) then
    3
  else 0
theorem ref04_Undo_pre_ok (m_A m_B m_C m_D m_E m_F m_Residue : Int) : ref04_Undo_pre m_A m_B m_C m_D m_E m_F m_Residue := by
  unfold ref04_Undo_pre
  (intro h; have hd := ne_of_det (rdet_of_valid (v_left h)); simp [hd])
def law04_box_0 (a b c d : Int) : Int :=
  a
def law04_box_1 (a b c d : Int) : Int :=
  b
def law04_box_2 (a b c d : Int) : Int :=
  c
def law04_box_3 (a b c d : Int) : Int :=
  d
def law04_in_0 (b_X_Lo b_X_Hi b_Y_Lo b_Y_Hi p_X p_Y : Int) : Bool :=
  decide (b_X_Lo ≤ p_X) && decide (p_X ≤ b_X_Hi) && decide (b_Y_Lo ≤ p_Y) && decide (p_Y ≤ b_Y_Hi)
def law04_within_0 (a_X_Lo a_X_Hi a_Y_Lo a_Y_Hi b_X_Lo b_X_Hi b_Y_Lo b_Y_Hi : Int) : Bool :=
  decide (b_X_Lo ≤ a_X_Lo) && decide (a_X_Hi ≤ b_X_Hi) && decide (b_Y_Lo ≤ a_Y_Lo) && decide (a_Y_Hi ≤ b_Y_Hi)
def law04_head_0  : Bool :=
  datum_Fits_1 0 (-1000000) 10 1000000 0 0 1 3 4 6 3 == 0 && datum_Fits_1 0 (-1000000) 10 1000000 0 0 1 3 4 8 3 == 0 && datum_Apply_4 0 (-1000000) 10 1000000 0 0 1 3 4 == 0 &&
                                datum_Carry_4 0 (-1000000) 10 1000000 0 0 1 (law04_box_0 0 10 0 20) (law04_box_1 0 10 0 20) (law04_box_2 0 10 0 20) (law04_box_3 0 10 0 20) == 0 &&
                              datum_Back_4 0 (-1000000) 10 1000000 0 0 1 (law04_box_0 6 6 3 3) (law04_box_1 6 6 3 3) (law04_box_2 6 6 3 3) (law04_box_3 6 6 3 3) == 0 &&
                            datum_Then_7 0 (-1000000) 10 1000000 0 0 1 1000000 0 5 0 1000000 5 0 == 0 &&
                          datum_Undo_7 0 (-1000000) 10 1000000 0 0 1 == 0 &&
                        datum_Apply_4 2000000 0 0 0 2000000 0 0 600000 0 == 3 &&
                      datum_Back_4 0 (-1000000) 10 1000000 0 0 1 (law04_box_0 999999 1000000 (-1000000) (-999999)) (law04_box_1 999999 1000000 (-1000000) (-999999))
                          (law04_box_2 999999 1000000 (-1000000) (-999999)) (law04_box_3 999999 1000000 (-1000000) (-999999)) ==
                        0 &&
                    datum_Back_4 500000 0 0 0 500000 0 0 (law04_box_0 999999 1000000 0 0) (law04_box_1 999999 1000000 0 0) (law04_box_2 999999 1000000 0 0) (law04_box_3 999999 1000000 0 0) == 4 &&
                  datum_Fits_0 0 (-1000000) 10 1000000 0 0 1 3 4 6 3 &&
                !datum_Fits_0 0 (-1000000) 10 1000000 0 0 1 3 4 8 3 &&
              (datum_Apply_0 0 (-1000000) 10 1000000 0 0 1 3 4 == law04_box_0 5 7 2 4 && (datum_Apply_1 0 (-1000000) 10 1000000 0 0 1 3 4 == law04_box_1 5 7 2 4 && true) &&
                (datum_Apply_2 0 (-1000000) 10 1000000 0 0 1 3 4 == law04_box_2 5 7 2 4 && (datum_Apply_3 0 (-1000000) 10 1000000 0 0 1 3 4 == law04_box_3 5 7 2 4 && true) && true)) &&
            (datum_Carry_0 0 (-1000000) 10 1000000 0 0 1 (law04_box_0 0 10 0 20) (law04_box_1 0 10 0 20) (law04_box_2 0 10 0 20) (law04_box_3 0 10 0 20) == law04_box_0 (-11) 11 (-1) 11 &&
                (datum_Carry_1 0 (-1000000) 10 1000000 0 0 1 (law04_box_0 0 10 0 20) (law04_box_1 0 10 0 20) (law04_box_2 0 10 0 20) (law04_box_3 0 10 0 20) == law04_box_1 (-11) 11 (-1) 11 && true) &&
              (datum_Carry_2 0 (-1000000) 10 1000000 0 0 1 (law04_box_0 0 10 0 20) (law04_box_1 0 10 0 20) (law04_box_2 0 10 0 20) (law04_box_3 0 10 0 20) == law04_box_2 (-11) 11 (-1) 11 &&
                  (datum_Carry_3 0 (-1000000) 10 1000000 0 0 1 (law04_box_0 0 10 0 20) (law04_box_1 0 10 0 20) (law04_box_2 0 10 0 20) (law04_box_3 0 10 0 20) == law04_box_3 (-11) 11 (-1) 11 &&
                    true) &&
                true)) &&
          (datum_Back_0 0 (-1000000) 10 1000000 0 0 1 (law04_box_0 6 6 3 3) (law04_box_1 6 6 3 3) (law04_box_2 6 6 3 3) (law04_box_3 6 6 3 3) == law04_box_0 2 4 3 5 &&
              (datum_Back_1 0 (-1000000) 10 1000000 0 0 1 (law04_box_0 6 6 3 3) (law04_box_1 6 6 3 3) (law04_box_2 6 6 3 3) (law04_box_3 6 6 3 3) == law04_box_1 2 4 3 5 && true) &&
            (datum_Back_2 0 (-1000000) 10 1000000 0 0 1 (law04_box_0 6 6 3 3) (law04_box_1 6 6 3 3) (law04_box_2 6 6 3 3) (law04_box_3 6 6 3 3) == law04_box_2 2 4 3 5 &&
                (datum_Back_3 0 (-1000000) 10 1000000 0 0 1 (law04_box_0 6 6 3 3) (law04_box_1 6 6 3 3) (law04_box_2 6 6 3 3) (law04_box_3 6 6 3 3) == law04_box_3 2 4 3 5 && true) &&
              true)) &&
        (datum_Then_0 0 (-1000000) 10 1000000 0 0 1 1000000 0 5 0 1000000 5 0 == 0 &&
          (datum_Then_1 0 (-1000000) 10 1000000 0 0 1 1000000 0 5 0 1000000 5 0 == -1000000 &&
            (datum_Then_2 0 (-1000000) 10 1000000 0 0 1 1000000 0 5 0 1000000 5 0 == 15 &&
              (datum_Then_3 0 (-1000000) 10 1000000 0 0 1 1000000 0 5 0 1000000 5 0 == 1000000 &&
                (datum_Then_4 0 (-1000000) 10 1000000 0 0 1 1000000 0 5 0 1000000 5 0 == 0 &&
                  (datum_Then_5 0 (-1000000) 10 1000000 0 0 1 1000000 0 5 0 1000000 5 0 == 5 && (datum_Then_6 0 (-1000000) 10 1000000 0 0 1 1000000 0 5 0 1000000 5 0 == 3 && true))))))) &&
      (datum_Undo_0 0 (-1000000) 10 1000000 0 0 1 == 0 &&
        (datum_Undo_1 0 (-1000000) 10 1000000 0 0 1 == 1000000 &&
          (datum_Undo_2 0 (-1000000) 10 1000000 0 0 1 == 0 &&
            (datum_Undo_3 0 (-1000000) 10 1000000 0 0 1 == -1000000 &&
              (datum_Undo_4 0 (-1000000) 10 1000000 0 0 1 == 0 && (datum_Undo_5 0 (-1000000) 10 1000000 0 0 1 == 10 && (datum_Undo_6 0 (-1000000) 10 1000000 0 0 1 == 4 && true))))))) &&
    datum_Valid_0 0 (-1000000) 10 1000000 0 0 1 &&
  !datum_Valid_0 0 0 0 0 0 0 0
def law04_DatumMatchesReference_0 (m_A m_B m_C m_D m_E m_F m_Residue n_A n_B n_C n_D n_E n_F n_Residue p_X p_Y q_X q_Y b_X_Lo b_X_Hi b_Y_Lo b_Y_Hi : Int) : Bool :=
  law04_head_0 && datum_Valid_0 m_A m_B m_C m_D m_E m_F m_Residue == ref04_Valid_0 m_A m_B m_C m_D m_E m_F m_Residue &&
                        datum_Fits_0 m_A m_B m_C m_D m_E m_F m_Residue p_X p_Y q_X q_Y == ref04_Fits_0 m_A m_B m_C m_D m_E m_F m_Residue p_X p_Y q_X q_Y &&
                      datum_Fits_1 m_A m_B m_C m_D m_E m_F m_Residue p_X p_Y q_X q_Y == ref04_Fits_1 m_A m_B m_C m_D m_E m_F m_Residue p_X p_Y q_X q_Y &&
                    (datum_Apply_0 m_A m_B m_C m_D m_E m_F m_Residue p_X p_Y == ref04_Apply_0 m_A m_B m_C m_D m_E m_F m_Residue p_X p_Y &&
                        (datum_Apply_1 m_A m_B m_C m_D m_E m_F m_Residue p_X p_Y == ref04_Apply_1 m_A m_B m_C m_D m_E m_F m_Residue p_X p_Y && true) &&
                      (datum_Apply_2 m_A m_B m_C m_D m_E m_F m_Residue p_X p_Y == ref04_Apply_2 m_A m_B m_C m_D m_E m_F m_Residue p_X p_Y &&
                          (datum_Apply_3 m_A m_B m_C m_D m_E m_F m_Residue p_X p_Y == ref04_Apply_3 m_A m_B m_C m_D m_E m_F m_Residue p_X p_Y && true) &&
                        true)) &&
                  datum_Apply_4 m_A m_B m_C m_D m_E m_F m_Residue p_X p_Y == ref04_Apply_4 m_A m_B m_C m_D m_E m_F m_Residue p_X p_Y &&
                (datum_Carry_0 m_A m_B m_C m_D m_E m_F m_Residue b_X_Lo b_X_Hi b_Y_Lo b_Y_Hi == ref04_Carry_0 m_A m_B m_C m_D m_E m_F m_Residue b_X_Lo b_X_Hi b_Y_Lo b_Y_Hi &&
                    (datum_Carry_1 m_A m_B m_C m_D m_E m_F m_Residue b_X_Lo b_X_Hi b_Y_Lo b_Y_Hi == ref04_Carry_1 m_A m_B m_C m_D m_E m_F m_Residue b_X_Lo b_X_Hi b_Y_Lo b_Y_Hi && true) &&
                  (datum_Carry_2 m_A m_B m_C m_D m_E m_F m_Residue b_X_Lo b_X_Hi b_Y_Lo b_Y_Hi == ref04_Carry_2 m_A m_B m_C m_D m_E m_F m_Residue b_X_Lo b_X_Hi b_Y_Lo b_Y_Hi &&
                      (datum_Carry_3 m_A m_B m_C m_D m_E m_F m_Residue b_X_Lo b_X_Hi b_Y_Lo b_Y_Hi == ref04_Carry_3 m_A m_B m_C m_D m_E m_F m_Residue b_X_Lo b_X_Hi b_Y_Lo b_Y_Hi && true) &&
                    true)) &&
              datum_Carry_4 m_A m_B m_C m_D m_E m_F m_Residue b_X_Lo b_X_Hi b_Y_Lo b_Y_Hi == ref04_Carry_4 m_A m_B m_C m_D m_E m_F m_Residue b_X_Lo b_X_Hi b_Y_Lo b_Y_Hi &&
            (datum_Back_0 m_A m_B m_C m_D m_E m_F m_Residue b_X_Lo b_X_Hi b_Y_Lo b_Y_Hi == ref04_Back_0 m_A m_B m_C m_D m_E m_F m_Residue b_X_Lo b_X_Hi b_Y_Lo b_Y_Hi &&
                (datum_Back_1 m_A m_B m_C m_D m_E m_F m_Residue b_X_Lo b_X_Hi b_Y_Lo b_Y_Hi == ref04_Back_1 m_A m_B m_C m_D m_E m_F m_Residue b_X_Lo b_X_Hi b_Y_Lo b_Y_Hi && true) &&
              (datum_Back_2 m_A m_B m_C m_D m_E m_F m_Residue b_X_Lo b_X_Hi b_Y_Lo b_Y_Hi == ref04_Back_2 m_A m_B m_C m_D m_E m_F m_Residue b_X_Lo b_X_Hi b_Y_Lo b_Y_Hi &&
                  (datum_Back_3 m_A m_B m_C m_D m_E m_F m_Residue b_X_Lo b_X_Hi b_Y_Lo b_Y_Hi == ref04_Back_3 m_A m_B m_C m_D m_E m_F m_Residue b_X_Lo b_X_Hi b_Y_Lo b_Y_Hi && true) &&
                true)) &&
          datum_Back_4 m_A m_B m_C m_D m_E m_F m_Residue b_X_Lo b_X_Hi b_Y_Lo b_Y_Hi == ref04_Back_4 m_A m_B m_C m_D m_E m_F m_Residue b_X_Lo b_X_Hi b_Y_Lo b_Y_Hi &&
        (datum_Then_0 m_A m_B m_C m_D m_E m_F m_Residue n_A n_B n_C n_D n_E n_F n_Residue == ref04_Then_0 m_A m_B m_C m_D m_E m_F m_Residue n_A n_B n_C n_D n_E n_F n_Residue &&
          (datum_Then_1 m_A m_B m_C m_D m_E m_F m_Residue n_A n_B n_C n_D n_E n_F n_Residue == ref04_Then_1 m_A m_B m_C m_D m_E m_F m_Residue n_A n_B n_C n_D n_E n_F n_Residue &&
            (datum_Then_2 m_A m_B m_C m_D m_E m_F m_Residue n_A n_B n_C n_D n_E n_F n_Residue == ref04_Then_2 m_A m_B m_C m_D m_E m_F m_Residue n_A n_B n_C n_D n_E n_F n_Residue &&
              (datum_Then_3 m_A m_B m_C m_D m_E m_F m_Residue n_A n_B n_C n_D n_E n_F n_Residue == ref04_Then_3 m_A m_B m_C m_D m_E m_F m_Residue n_A n_B n_C n_D n_E n_F n_Residue &&
                (datum_Then_4 m_A m_B m_C m_D m_E m_F m_Residue n_A n_B n_C n_D n_E n_F n_Residue == ref04_Then_4 m_A m_B m_C m_D m_E m_F m_Residue n_A n_B n_C n_D n_E n_F n_Residue &&
                  (datum_Then_5 m_A m_B m_C m_D m_E m_F m_Residue n_A n_B n_C n_D n_E n_F n_Residue == ref04_Then_5 m_A m_B m_C m_D m_E m_F m_Residue n_A n_B n_C n_D n_E n_F n_Residue &&
                    (datum_Then_6 m_A m_B m_C m_D m_E m_F m_Residue n_A n_B n_C n_D n_E n_F n_Residue == ref04_Then_6 m_A m_B m_C m_D m_E m_F m_Residue n_A n_B n_C n_D n_E n_F n_Residue &&
                      true))))))) &&
      datum_Then_7 m_A m_B m_C m_D m_E m_F m_Residue n_A n_B n_C n_D n_E n_F n_Residue == ref04_Then_7 m_A m_B m_C m_D m_E m_F m_Residue n_A n_B n_C n_D n_E n_F n_Residue &&
    (datum_Undo_0 m_A m_B m_C m_D m_E m_F m_Residue == ref04_Undo_0 m_A m_B m_C m_D m_E m_F m_Residue &&
      (datum_Undo_1 m_A m_B m_C m_D m_E m_F m_Residue == ref04_Undo_1 m_A m_B m_C m_D m_E m_F m_Residue &&
        (datum_Undo_2 m_A m_B m_C m_D m_E m_F m_Residue == ref04_Undo_2 m_A m_B m_C m_D m_E m_F m_Residue &&
          (datum_Undo_3 m_A m_B m_C m_D m_E m_F m_Residue == ref04_Undo_3 m_A m_B m_C m_D m_E m_F m_Residue &&
            (datum_Undo_4 m_A m_B m_C m_D m_E m_F m_Residue == ref04_Undo_4 m_A m_B m_C m_D m_E m_F m_Residue &&
              (datum_Undo_5 m_A m_B m_C m_D m_E m_F m_Residue == ref04_Undo_5 m_A m_B m_C m_D m_E m_F m_Residue &&
                (datum_Undo_6 m_A m_B m_C m_D m_E m_F m_Residue == ref04_Undo_6 m_A m_B m_C m_D m_E m_F m_Residue && true))))))) &&
  datum_Undo_7 m_A m_B m_C m_D m_E m_F m_Residue == ref04_Undo_7 m_A m_B m_C m_D m_E m_F m_Residue
def law04_DatumLosesNothing_0 (m_A m_B m_C m_D m_E m_F m_Residue p_X p_Y q_X q_Y b_X_Lo b_X_Hi b_Y_Lo b_Y_Hi c_X_Lo c_X_Hi c_Y_Lo c_Y_Hi : Int) : Bool :=
  bif datum_Fits_1 m_A m_B m_C m_D m_E m_F m_Residue p_X p_Y q_X q_Y != 0 || !datum_Fits_0 m_A m_B m_C m_D m_E m_F m_Residue p_X p_Y q_X q_Y then
  law04_head_0 && !datum_Fits_0 m_A m_B m_C m_D m_E m_F m_Residue p_X p_Y q_X q_Y
else
  bif law04_in_0 b_X_Lo b_X_Hi b_Y_Lo b_Y_Hi p_X p_Y && datum_Carry_4 m_A m_B m_C m_D m_E m_F m_Residue b_X_Lo b_X_Hi b_Y_Lo b_Y_Hi != 1 then
    bif law04_in_0 c_X_Lo c_X_Hi c_Y_Lo c_Y_Hi q_X q_Y && datum_Back_4 m_A m_B m_C m_D m_E m_F m_Residue c_X_Lo c_X_Hi c_Y_Lo c_Y_Hi != 1 then
      law04_head_0 &&
              (datum_Apply_4 m_A m_B m_C m_D m_E m_F m_Residue p_X p_Y == 0 &&
                  law04_in_0 (datum_Apply_0 m_A m_B m_C m_D m_E m_F m_Residue p_X p_Y) (datum_Apply_1 m_A m_B m_C m_D m_E m_F m_Residue p_X p_Y)
                    (datum_Apply_2 m_A m_B m_C m_D m_E m_F m_Residue p_X p_Y) (datum_Apply_3 m_A m_B m_C m_D m_E m_F m_Residue p_X p_Y) q_X q_Y ||
                datum_Apply_4 m_A m_B m_C m_D m_E m_F m_Residue p_X p_Y == 3) &&
            (datum_Carry_4 m_A m_B m_C m_D m_E m_F m_Residue b_X_Lo b_X_Hi b_Y_Lo b_Y_Hi == 0 &&
                law04_in_0 (datum_Carry_0 m_A m_B m_C m_D m_E m_F m_Residue b_X_Lo b_X_Hi b_Y_Lo b_Y_Hi) (datum_Carry_1 m_A m_B m_C m_D m_E m_F m_Residue b_X_Lo b_X_Hi b_Y_Lo b_Y_Hi)
                  (datum_Carry_2 m_A m_B m_C m_D m_E m_F m_Residue b_X_Lo b_X_Hi b_Y_Lo b_Y_Hi) (datum_Carry_3 m_A m_B m_C m_D m_E m_F m_Residue b_X_Lo b_X_Hi b_Y_Lo b_Y_Hi) q_X q_Y ||
              datum_Carry_4 m_A m_B m_C m_D m_E m_F m_Residue b_X_Lo b_X_Hi b_Y_Lo b_Y_Hi == 3) &&
          datum_Back_4 m_A m_B m_C m_D m_E m_F m_Residue c_X_Lo c_X_Hi c_Y_Lo c_Y_Hi == 0 &&
        law04_in_0 (datum_Back_0 m_A m_B m_C m_D m_E m_F m_Residue c_X_Lo c_X_Hi c_Y_Lo c_Y_Hi) (datum_Back_1 m_A m_B m_C m_D m_E m_F m_Residue c_X_Lo c_X_Hi c_Y_Lo c_Y_Hi)
          (datum_Back_2 m_A m_B m_C m_D m_E m_F m_Residue c_X_Lo c_X_Hi c_Y_Lo c_Y_Hi) (datum_Back_3 m_A m_B m_C m_D m_E m_F m_Residue c_X_Lo c_X_Hi c_Y_Lo c_Y_Hi) p_X p_Y
    else
      law04_head_0 &&
          (datum_Apply_4 m_A m_B m_C m_D m_E m_F m_Residue p_X p_Y == 0 &&
              law04_in_0 (datum_Apply_0 m_A m_B m_C m_D m_E m_F m_Residue p_X p_Y) (datum_Apply_1 m_A m_B m_C m_D m_E m_F m_Residue p_X p_Y) (datum_Apply_2 m_A m_B m_C m_D m_E m_F m_Residue p_X p_Y)
                (datum_Apply_3 m_A m_B m_C m_D m_E m_F m_Residue p_X p_Y) q_X q_Y ||
            datum_Apply_4 m_A m_B m_C m_D m_E m_F m_Residue p_X p_Y == 3) &&
        (datum_Carry_4 m_A m_B m_C m_D m_E m_F m_Residue b_X_Lo b_X_Hi b_Y_Lo b_Y_Hi == 0 &&
            law04_in_0 (datum_Carry_0 m_A m_B m_C m_D m_E m_F m_Residue b_X_Lo b_X_Hi b_Y_Lo b_Y_Hi) (datum_Carry_1 m_A m_B m_C m_D m_E m_F m_Residue b_X_Lo b_X_Hi b_Y_Lo b_Y_Hi)
              (datum_Carry_2 m_A m_B m_C m_D m_E m_F m_Residue b_X_Lo b_X_Hi b_Y_Lo b_Y_Hi) (datum_Carry_3 m_A m_B m_C m_D m_E m_F m_Residue b_X_Lo b_X_Hi b_Y_Lo b_Y_Hi) q_X q_Y ||
          datum_Carry_4 m_A m_B m_C m_D m_E m_F m_Residue b_X_Lo b_X_Hi b_Y_Lo b_Y_Hi == 3)
  else
    bif law04_in_0 c_X_Lo c_X_Hi c_Y_Lo c_Y_Hi q_X q_Y && datum_Back_4 m_A m_B m_C m_D m_E m_F m_Residue c_X_Lo c_X_Hi c_Y_Lo c_Y_Hi != 1 then
      law04_head_0 &&
            (datum_Apply_4 m_A m_B m_C m_D m_E m_F m_Residue p_X p_Y == 0 &&
                law04_in_0 (datum_Apply_0 m_A m_B m_C m_D m_E m_F m_Residue p_X p_Y) (datum_Apply_1 m_A m_B m_C m_D m_E m_F m_Residue p_X p_Y) (datum_Apply_2 m_A m_B m_C m_D m_E m_F m_Residue p_X p_Y)
                  (datum_Apply_3 m_A m_B m_C m_D m_E m_F m_Residue p_X p_Y) q_X q_Y ||
              datum_Apply_4 m_A m_B m_C m_D m_E m_F m_Residue p_X p_Y == 3) &&
          datum_Back_4 m_A m_B m_C m_D m_E m_F m_Residue c_X_Lo c_X_Hi c_Y_Lo c_Y_Hi == 0 &&
        law04_in_0 (datum_Back_0 m_A m_B m_C m_D m_E m_F m_Residue c_X_Lo c_X_Hi c_Y_Lo c_Y_Hi) (datum_Back_1 m_A m_B m_C m_D m_E m_F m_Residue c_X_Lo c_X_Hi c_Y_Lo c_Y_Hi)
          (datum_Back_2 m_A m_B m_C m_D m_E m_F m_Residue c_X_Lo c_X_Hi c_Y_Lo c_Y_Hi) (datum_Back_3 m_A m_B m_C m_D m_E m_F m_Residue c_X_Lo c_X_Hi c_Y_Lo c_Y_Hi) p_X p_Y
    else
      law04_head_0 &&
        (datum_Apply_4 m_A m_B m_C m_D m_E m_F m_Residue p_X p_Y == 0 &&
            law04_in_0 (datum_Apply_0 m_A m_B m_C m_D m_E m_F m_Residue p_X p_Y) (datum_Apply_1 m_A m_B m_C m_D m_E m_F m_Residue p_X p_Y) (datum_Apply_2 m_A m_B m_C m_D m_E m_F m_Residue p_X p_Y)
              (datum_Apply_3 m_A m_B m_C m_D m_E m_F m_Residue p_X p_Y) q_X q_Y ||
          datum_Apply_4 m_A m_B m_C m_D m_E m_F m_Residue p_X p_Y == 3)
def law04_DatumBoxes_0 (m_A m_B m_C m_D m_E m_F m_Residue p_X p_Y b_X_Lo b_X_Hi b_Y_Lo b_Y_Hi c_X_Lo c_X_Hi c_Y_Lo c_Y_Hi : Int) : Bool :=
  bif !law04_within_0 b_X_Lo b_X_Hi b_Y_Lo b_Y_Hi c_X_Lo c_X_Hi c_Y_Lo c_Y_Hi then
  law04_head_0 &&
      (datum_Apply_0 m_A m_B m_C m_D m_E m_F m_Residue p_X p_Y ==
            datum_Carry_0 m_A m_B m_C m_D m_E m_F m_Residue (law04_box_0 p_X p_X p_Y p_Y) (law04_box_1 p_X p_X p_Y p_Y) (law04_box_2 p_X p_X p_Y p_Y) (law04_box_3 p_X p_X p_Y p_Y) &&
          (datum_Apply_1 m_A m_B m_C m_D m_E m_F m_Residue p_X p_Y ==
              datum_Carry_1 m_A m_B m_C m_D m_E m_F m_Residue (law04_box_0 p_X p_X p_Y p_Y) (law04_box_1 p_X p_X p_Y p_Y) (law04_box_2 p_X p_X p_Y p_Y) (law04_box_3 p_X p_X p_Y p_Y) &&
            true) &&
        (datum_Apply_2 m_A m_B m_C m_D m_E m_F m_Residue p_X p_Y ==
              datum_Carry_2 m_A m_B m_C m_D m_E m_F m_Residue (law04_box_0 p_X p_X p_Y p_Y) (law04_box_1 p_X p_X p_Y p_Y) (law04_box_2 p_X p_X p_Y p_Y) (law04_box_3 p_X p_X p_Y p_Y) &&
            (datum_Apply_3 m_A m_B m_C m_D m_E m_F m_Residue p_X p_Y ==
                datum_Carry_3 m_A m_B m_C m_D m_E m_F m_Residue (law04_box_0 p_X p_X p_Y p_Y) (law04_box_1 p_X p_X p_Y p_Y) (law04_box_2 p_X p_X p_Y p_Y) (law04_box_3 p_X p_X p_Y p_Y) &&
              true) &&
          true)) &&
    datum_Apply_4 m_A m_B m_C m_D m_E m_F m_Residue p_X p_Y ==
      datum_Carry_4 m_A m_B m_C m_D m_E m_F m_Residue (law04_box_0 p_X p_X p_Y p_Y) (law04_box_1 p_X p_X p_Y p_Y) (law04_box_2 p_X p_X p_Y p_Y) (law04_box_3 p_X p_X p_Y p_Y)
else
  law04_head_0 &&
          (datum_Apply_0 m_A m_B m_C m_D m_E m_F m_Residue p_X p_Y ==
                datum_Carry_0 m_A m_B m_C m_D m_E m_F m_Residue (law04_box_0 p_X p_X p_Y p_Y) (law04_box_1 p_X p_X p_Y p_Y) (law04_box_2 p_X p_X p_Y p_Y) (law04_box_3 p_X p_X p_Y p_Y) &&
              (datum_Apply_1 m_A m_B m_C m_D m_E m_F m_Residue p_X p_Y ==
                  datum_Carry_1 m_A m_B m_C m_D m_E m_F m_Residue (law04_box_0 p_X p_X p_Y p_Y) (law04_box_1 p_X p_X p_Y p_Y) (law04_box_2 p_X p_X p_Y p_Y) (law04_box_3 p_X p_X p_Y p_Y) &&
                true) &&
            (datum_Apply_2 m_A m_B m_C m_D m_E m_F m_Residue p_X p_Y ==
                  datum_Carry_2 m_A m_B m_C m_D m_E m_F m_Residue (law04_box_0 p_X p_X p_Y p_Y) (law04_box_1 p_X p_X p_Y p_Y) (law04_box_2 p_X p_X p_Y p_Y) (law04_box_3 p_X p_X p_Y p_Y) &&
                (datum_Apply_3 m_A m_B m_C m_D m_E m_F m_Residue p_X p_Y ==
                    datum_Carry_3 m_A m_B m_C m_D m_E m_F m_Residue (law04_box_0 p_X p_X p_Y p_Y) (law04_box_1 p_X p_X p_Y p_Y) (law04_box_2 p_X p_X p_Y p_Y) (law04_box_3 p_X p_X p_Y p_Y) &&
                  true) &&
              true)) &&
        datum_Apply_4 m_A m_B m_C m_D m_E m_F m_Residue p_X p_Y ==
          datum_Carry_4 m_A m_B m_C m_D m_E m_F m_Residue (law04_box_0 p_X p_X p_Y p_Y) (law04_box_1 p_X p_X p_Y p_Y) (law04_box_2 p_X p_X p_Y p_Y) (law04_box_3 p_X p_X p_Y p_Y) &&
      (datum_Carry_4 m_A m_B m_C m_D m_E m_F m_Residue b_X_Lo b_X_Hi b_Y_Lo b_Y_Hi != 0 || datum_Carry_4 m_A m_B m_C m_D m_E m_F m_Residue c_X_Lo c_X_Hi c_Y_Lo c_Y_Hi != 0 ||
        law04_within_0 (datum_Carry_0 m_A m_B m_C m_D m_E m_F m_Residue b_X_Lo b_X_Hi b_Y_Lo b_Y_Hi) (datum_Carry_1 m_A m_B m_C m_D m_E m_F m_Residue b_X_Lo b_X_Hi b_Y_Lo b_Y_Hi)
          (datum_Carry_2 m_A m_B m_C m_D m_E m_F m_Residue b_X_Lo b_X_Hi b_Y_Lo b_Y_Hi) (datum_Carry_3 m_A m_B m_C m_D m_E m_F m_Residue b_X_Lo b_X_Hi b_Y_Lo b_Y_Hi)
          (datum_Carry_0 m_A m_B m_C m_D m_E m_F m_Residue c_X_Lo c_X_Hi c_Y_Lo c_Y_Hi) (datum_Carry_1 m_A m_B m_C m_D m_E m_F m_Residue c_X_Lo c_X_Hi c_Y_Lo c_Y_Hi)
          (datum_Carry_2 m_A m_B m_C m_D m_E m_F m_Residue c_X_Lo c_X_Hi c_Y_Lo c_Y_Hi) (datum_Carry_3 m_A m_B m_C m_D m_E m_F m_Residue c_X_Lo c_X_Hi c_Y_Lo c_Y_Hi)) &&
    (datum_Back_4 m_A m_B m_C m_D m_E m_F m_Residue b_X_Lo b_X_Hi b_Y_Lo b_Y_Hi != 0 || datum_Back_4 m_A m_B m_C m_D m_E m_F m_Residue c_X_Lo c_X_Hi c_Y_Lo c_Y_Hi != 0 ||
      law04_within_0 (datum_Back_0 m_A m_B m_C m_D m_E m_F m_Residue b_X_Lo b_X_Hi b_Y_Lo b_Y_Hi) (datum_Back_1 m_A m_B m_C m_D m_E m_F m_Residue b_X_Lo b_X_Hi b_Y_Lo b_Y_Hi)
        (datum_Back_2 m_A m_B m_C m_D m_E m_F m_Residue b_X_Lo b_X_Hi b_Y_Lo b_Y_Hi) (datum_Back_3 m_A m_B m_C m_D m_E m_F m_Residue b_X_Lo b_X_Hi b_Y_Lo b_Y_Hi)
        (datum_Back_0 m_A m_B m_C m_D m_E m_F m_Residue c_X_Lo c_X_Hi c_Y_Lo c_Y_Hi) (datum_Back_1 m_A m_B m_C m_D m_E m_F m_Residue c_X_Lo c_X_Hi c_Y_Lo c_Y_Hi)
        (datum_Back_2 m_A m_B m_C m_D m_E m_F m_Residue c_X_Lo c_X_Hi c_Y_Lo c_Y_Hi) (datum_Back_3 m_A m_B m_C m_D m_E m_F m_Residue c_X_Lo c_X_Hi c_Y_Lo c_Y_Hi))
def law04_DatumThen_0 (m_A m_B m_C m_D m_E m_F m_Residue n_A n_B n_C n_D n_E n_F n_Residue p_X p_Y q_X q_Y r_X r_Y : Int) : Bool :=
  bif
    datum_Fits_1 m_A m_B m_C m_D m_E m_F m_Residue p_X p_Y q_X q_Y != 0 || datum_Fits_1 n_A n_B n_C n_D n_E n_F n_Residue q_X q_Y r_X r_Y != 0 ||
        !datum_Fits_0 m_A m_B m_C m_D m_E m_F m_Residue p_X p_Y q_X q_Y ||
      !datum_Fits_0 n_A n_B n_C n_D n_E n_F n_Residue q_X q_Y r_X r_Y then
  law04_head_0
else
  bif datum_Then_7 m_A m_B m_C m_D m_E m_F m_Residue n_A n_B n_C n_D n_E n_F n_Residue != 0 then
    law04_head_0 && datum_Then_7 m_A m_B m_C m_D m_E m_F m_Residue n_A n_B n_C n_D n_E n_F n_Residue == 3 &&
      (datum_Then_0 m_A m_B m_C m_D m_E m_F m_Residue n_A n_B n_C n_D n_E n_F n_Residue == 0 &&
        (datum_Then_1 m_A m_B m_C m_D m_E m_F m_Residue n_A n_B n_C n_D n_E n_F n_Residue == 0 &&
          (datum_Then_2 m_A m_B m_C m_D m_E m_F m_Residue n_A n_B n_C n_D n_E n_F n_Residue == 0 &&
            (datum_Then_3 m_A m_B m_C m_D m_E m_F m_Residue n_A n_B n_C n_D n_E n_F n_Residue == 0 &&
              (datum_Then_4 m_A m_B m_C m_D m_E m_F m_Residue n_A n_B n_C n_D n_E n_F n_Residue == 0 &&
                (datum_Then_5 m_A m_B m_C m_D m_E m_F m_Residue n_A n_B n_C n_D n_E n_F n_Residue == 0 &&
                  (datum_Then_6 m_A m_B m_C m_D m_E m_F m_Residue n_A n_B n_C n_D n_E n_F n_Residue == 0 && true)))))))
  else
    law04_head_0 &&
          datum_Valid_0 (datum_Then_0 m_A m_B m_C m_D m_E m_F m_Residue n_A n_B n_C n_D n_E n_F n_Residue) (datum_Then_1 m_A m_B m_C m_D m_E m_F m_Residue n_A n_B n_C n_D n_E n_F n_Residue)
            (datum_Then_2 m_A m_B m_C m_D m_E m_F m_Residue n_A n_B n_C n_D n_E n_F n_Residue) (datum_Then_3 m_A m_B m_C m_D m_E m_F m_Residue n_A n_B n_C n_D n_E n_F n_Residue)
            (datum_Then_4 m_A m_B m_C m_D m_E m_F m_Residue n_A n_B n_C n_D n_E n_F n_Residue) (datum_Then_5 m_A m_B m_C m_D m_E m_F m_Residue n_A n_B n_C n_D n_E n_F n_Residue)
            (datum_Then_6 m_A m_B m_C m_D m_E m_F m_Residue n_A n_B n_C n_D n_E n_F n_Residue) &&
        datum_Fits_1 (datum_Then_0 m_A m_B m_C m_D m_E m_F m_Residue n_A n_B n_C n_D n_E n_F n_Residue) (datum_Then_1 m_A m_B m_C m_D m_E m_F m_Residue n_A n_B n_C n_D n_E n_F n_Residue)
            (datum_Then_2 m_A m_B m_C m_D m_E m_F m_Residue n_A n_B n_C n_D n_E n_F n_Residue) (datum_Then_3 m_A m_B m_C m_D m_E m_F m_Residue n_A n_B n_C n_D n_E n_F n_Residue)
            (datum_Then_4 m_A m_B m_C m_D m_E m_F m_Residue n_A n_B n_C n_D n_E n_F n_Residue) (datum_Then_5 m_A m_B m_C m_D m_E m_F m_Residue n_A n_B n_C n_D n_E n_F n_Residue)
            (datum_Then_6 m_A m_B m_C m_D m_E m_F m_Residue n_A n_B n_C n_D n_E n_F n_Residue) p_X p_Y r_X r_Y ==
          0 &&
      datum_Fits_0 (datum_Then_0 m_A m_B m_C m_D m_E m_F m_Residue n_A n_B n_C n_D n_E n_F n_Residue) (datum_Then_1 m_A m_B m_C m_D m_E m_F m_Residue n_A n_B n_C n_D n_E n_F n_Residue)
        (datum_Then_2 m_A m_B m_C m_D m_E m_F m_Residue n_A n_B n_C n_D n_E n_F n_Residue) (datum_Then_3 m_A m_B m_C m_D m_E m_F m_Residue n_A n_B n_C n_D n_E n_F n_Residue)
        (datum_Then_4 m_A m_B m_C m_D m_E m_F m_Residue n_A n_B n_C n_D n_E n_F n_Residue) (datum_Then_5 m_A m_B m_C m_D m_E m_F m_Residue n_A n_B n_C n_D n_E n_F n_Residue)
        (datum_Then_6 m_A m_B m_C m_D m_E m_F m_Residue n_A n_B n_C n_D n_E n_F n_Residue) p_X p_Y r_X r_Y
def law04_DatumUndone_0 (m_A m_B m_C m_D m_E m_F m_Residue p_X p_Y q_X q_Y : Int) : Bool :=
  bif datum_Fits_1 m_A m_B m_C m_D m_E m_F m_Residue p_X p_Y q_X q_Y != 0 || !datum_Fits_0 m_A m_B m_C m_D m_E m_F m_Residue p_X p_Y q_X q_Y then
  law04_head_0 && (datum_Undo_7 m_A m_B m_C m_D m_E m_F m_Residue == 1) == !datum_Valid_0 m_A m_B m_C m_D m_E m_F m_Residue
else
  bif datum_Undo_7 m_A m_B m_C m_D m_E m_F m_Residue != 0 then
    law04_head_0 && datum_Undo_7 m_A m_B m_C m_D m_E m_F m_Residue == 3 &&
      (datum_Undo_0 m_A m_B m_C m_D m_E m_F m_Residue == 0 &&
        (datum_Undo_1 m_A m_B m_C m_D m_E m_F m_Residue == 0 &&
          (datum_Undo_2 m_A m_B m_C m_D m_E m_F m_Residue == 0 &&
            (datum_Undo_3 m_A m_B m_C m_D m_E m_F m_Residue == 0 &&
              (datum_Undo_4 m_A m_B m_C m_D m_E m_F m_Residue == 0 && (datum_Undo_5 m_A m_B m_C m_D m_E m_F m_Residue == 0 && (datum_Undo_6 m_A m_B m_C m_D m_E m_F m_Residue == 0 && true)))))))
  else
    law04_head_0 &&
          datum_Valid_0 (datum_Undo_0 m_A m_B m_C m_D m_E m_F m_Residue) (datum_Undo_1 m_A m_B m_C m_D m_E m_F m_Residue) (datum_Undo_2 m_A m_B m_C m_D m_E m_F m_Residue)
            (datum_Undo_3 m_A m_B m_C m_D m_E m_F m_Residue) (datum_Undo_4 m_A m_B m_C m_D m_E m_F m_Residue) (datum_Undo_5 m_A m_B m_C m_D m_E m_F m_Residue)
            (datum_Undo_6 m_A m_B m_C m_D m_E m_F m_Residue) &&
        datum_Fits_1 (datum_Undo_0 m_A m_B m_C m_D m_E m_F m_Residue) (datum_Undo_1 m_A m_B m_C m_D m_E m_F m_Residue) (datum_Undo_2 m_A m_B m_C m_D m_E m_F m_Residue)
            (datum_Undo_3 m_A m_B m_C m_D m_E m_F m_Residue) (datum_Undo_4 m_A m_B m_C m_D m_E m_F m_Residue) (datum_Undo_5 m_A m_B m_C m_D m_E m_F m_Residue)
            (datum_Undo_6 m_A m_B m_C m_D m_E m_F m_Residue) q_X q_Y p_X p_Y ==
          0 &&
      datum_Fits_0 (datum_Undo_0 m_A m_B m_C m_D m_E m_F m_Residue) (datum_Undo_1 m_A m_B m_C m_D m_E m_F m_Residue) (datum_Undo_2 m_A m_B m_C m_D m_E m_F m_Residue)
        (datum_Undo_3 m_A m_B m_C m_D m_E m_F m_Residue) (datum_Undo_4 m_A m_B m_C m_D m_E m_F m_Residue) (datum_Undo_5 m_A m_B m_C m_D m_E m_F m_Residue)
        (datum_Undo_6 m_A m_B m_C m_D m_E m_F m_Residue) q_X q_Y p_X p_Y
def law04_DatumWider_0 (m_A m_B m_C m_D m_E m_F m_Residue more p_X p_Y q_X q_Y r_X r_Y : Int) : Bool :=
  bif datum_Fits_1 m_A m_B m_C m_D m_E m_F m_Residue p_X p_Y q_X q_Y != 0 || !datum_Fits_0 m_A m_B m_C m_D m_E m_F m_Residue p_X p_Y q_X q_Y then law04_head_0
else
  bif datum_Fits_1 m_A m_B m_C m_D m_E m_F m_Residue p_X p_Y r_X r_Y == 0 && datum_Fits_0 m_A m_B m_C m_D m_E m_F m_Residue p_X p_Y r_X r_Y then
    bif decide (more < 0) || decide (more > 1000) then
      law04_head_0 && decide (imax (IntKind.i64.wrap (q_X - r_X)) (IntKind.i64.wrap (0 - IntKind.i64.wrap (q_X - r_X))) ≤ IntKind.i64.wrap (2 * m_Residue)) &&
        decide (imax (IntKind.i64.wrap (q_Y - r_Y)) (IntKind.i64.wrap (0 - IntKind.i64.wrap (q_Y - r_Y))) ≤ IntKind.i64.wrap (2 * m_Residue))
    else
      law04_head_0 && decide (imax (IntKind.i64.wrap (q_X - r_X)) (IntKind.i64.wrap (0 - IntKind.i64.wrap (q_X - r_X))) ≤ IntKind.i64.wrap (2 * m_Residue)) &&
            decide (imax (IntKind.i64.wrap (q_Y - r_Y)) (IntKind.i64.wrap (0 - IntKind.i64.wrap (q_Y - r_Y))) ≤ IntKind.i64.wrap (2 * m_Residue)) &&
          datum_Fits_1 m_A m_B m_C m_D m_E m_F (imin 1000 (IntKind.i64.wrap (m_Residue + more))) p_X p_Y q_X q_Y == 0 &&
        datum_Fits_0 m_A m_B m_C m_D m_E m_F (imin 1000 (IntKind.i64.wrap (m_Residue + more))) p_X p_Y q_X q_Y
  else
    bif decide (more < 0) || decide (more > 1000) then law04_head_0
    else
      law04_head_0 && datum_Fits_1 m_A m_B m_C m_D m_E m_F (imin 1000 (IntKind.i64.wrap (m_Residue + more))) p_X p_Y q_X q_Y == 0 &&
        datum_Fits_0 m_A m_B m_C m_D m_E m_F (imin 1000 (IntKind.i64.wrap (m_Residue + more))) p_X p_Y q_X q_Y
def law04_DatumMoved_0 (m_A m_B m_C m_D m_E m_F m_Residue p_X p_Y q_X q_Y v_X v_Y : Int) : Bool :=
  bif decide (v_X < -200000) || decide (v_X > 200000) || decide (v_Y < -200000) || decide (v_Y > 200000) then law04_head_0
else
  bif datum_Fits_1 m_A m_B m_C m_D m_E m_F m_Residue p_X p_Y q_X q_Y != 0 || !datum_Valid_0 m_A m_B (IntKind.i64.wrap (m_C + v_X)) m_D m_E (IntKind.i64.wrap (m_F + v_Y)) m_Residue then law04_head_0
  else
    bif datum_Apply_4 m_A m_B m_C m_D m_E m_F m_Residue p_X p_Y != 0 || datum_Apply_4 m_A m_B (IntKind.i64.wrap (m_C + v_X)) m_D m_E (IntKind.i64.wrap (m_F + v_Y)) m_Residue p_X p_Y != 0 then
      law04_head_0 &&
        (datum_Fits_1 m_A m_B (IntKind.i64.wrap (m_C + v_X)) m_D m_E (IntKind.i64.wrap (m_F + v_Y)) m_Residue p_X p_Y (IntKind.i64.wrap (q_X + v_X)) (IntKind.i64.wrap (q_Y + v_Y)) != 0 ||
          datum_Fits_0 m_A m_B m_C m_D m_E m_F m_Residue p_X p_Y q_X q_Y ==
            datum_Fits_0 m_A m_B (IntKind.i64.wrap (m_C + v_X)) m_D m_E (IntKind.i64.wrap (m_F + v_Y)) m_Residue p_X p_Y (IntKind.i64.wrap (q_X + v_X)) (IntKind.i64.wrap (q_Y + v_Y)))
    else
      law04_head_0 &&
          (datum_Fits_1 m_A m_B (IntKind.i64.wrap (m_C + v_X)) m_D m_E (IntKind.i64.wrap (m_F + v_Y)) m_Residue p_X p_Y (IntKind.i64.wrap (q_X + v_X)) (IntKind.i64.wrap (q_Y + v_Y)) != 0 ||
            datum_Fits_0 m_A m_B m_C m_D m_E m_F m_Residue p_X p_Y q_X q_Y ==
              datum_Fits_0 m_A m_B (IntKind.i64.wrap (m_C + v_X)) m_D m_E (IntKind.i64.wrap (m_F + v_Y)) m_Residue p_X p_Y (IntKind.i64.wrap (q_X + v_X)) (IntKind.i64.wrap (q_Y + v_Y))) &&
        (datum_Apply_0 m_A m_B (IntKind.i64.wrap (m_C + v_X)) m_D m_E (IntKind.i64.wrap (m_F + v_Y)) m_Residue p_X p_Y ==
              law04_box_0 (IntKind.i64.wrap (datum_Apply_0 m_A m_B m_C m_D m_E m_F m_Residue p_X p_Y + v_X)) (IntKind.i64.wrap (datum_Apply_1 m_A m_B m_C m_D m_E m_F m_Residue p_X p_Y + v_X))
                (IntKind.i64.wrap (datum_Apply_2 m_A m_B m_C m_D m_E m_F m_Residue p_X p_Y + v_Y)) (IntKind.i64.wrap (datum_Apply_3 m_A m_B m_C m_D m_E m_F m_Residue p_X p_Y + v_Y)) &&
            (datum_Apply_1 m_A m_B (IntKind.i64.wrap (m_C + v_X)) m_D m_E (IntKind.i64.wrap (m_F + v_Y)) m_Residue p_X p_Y ==
                law04_box_1 (IntKind.i64.wrap (datum_Apply_0 m_A m_B m_C m_D m_E m_F m_Residue p_X p_Y + v_X)) (IntKind.i64.wrap (datum_Apply_1 m_A m_B m_C m_D m_E m_F m_Residue p_X p_Y + v_X))
                  (IntKind.i64.wrap (datum_Apply_2 m_A m_B m_C m_D m_E m_F m_Residue p_X p_Y + v_Y)) (IntKind.i64.wrap (datum_Apply_3 m_A m_B m_C m_D m_E m_F m_Residue p_X p_Y + v_Y)) &&
              true) &&
          (datum_Apply_2 m_A m_B (IntKind.i64.wrap (m_C + v_X)) m_D m_E (IntKind.i64.wrap (m_F + v_Y)) m_Residue p_X p_Y ==
                law04_box_2 (IntKind.i64.wrap (datum_Apply_0 m_A m_B m_C m_D m_E m_F m_Residue p_X p_Y + v_X)) (IntKind.i64.wrap (datum_Apply_1 m_A m_B m_C m_D m_E m_F m_Residue p_X p_Y + v_X))
                  (IntKind.i64.wrap (datum_Apply_2 m_A m_B m_C m_D m_E m_F m_Residue p_X p_Y + v_Y)) (IntKind.i64.wrap (datum_Apply_3 m_A m_B m_C m_D m_E m_F m_Residue p_X p_Y + v_Y)) &&
              (datum_Apply_3 m_A m_B (IntKind.i64.wrap (m_C + v_X)) m_D m_E (IntKind.i64.wrap (m_F + v_Y)) m_Residue p_X p_Y ==
                  law04_box_3 (IntKind.i64.wrap (datum_Apply_0 m_A m_B m_C m_D m_E m_F m_Residue p_X p_Y + v_X)) (IntKind.i64.wrap (datum_Apply_1 m_A m_B m_C m_D m_E m_F m_Residue p_X p_Y + v_X))
                    (IntKind.i64.wrap (datum_Apply_2 m_A m_B m_C m_D m_E m_F m_Residue p_X p_Y + v_Y)) (IntKind.i64.wrap (datum_Apply_3 m_A m_B m_C m_D m_E m_F m_Residue p_X p_Y + v_Y)) &&
                true) &&
            true))
def law04_DatumThere_0 (m_A m_B m_C m_D m_E m_F m_Residue p_X p_Y : Int) : Bool :=
  bif datum_Apply_4 m_A m_B m_C m_D m_E m_F m_Residue p_X p_Y != 0 then
  law04_head_0 &&
    (datum_Apply_0 m_A m_B m_C m_D m_E m_F m_Residue p_X p_Y == 0 && (datum_Apply_1 m_A m_B m_C m_D m_E m_F m_Residue p_X p_Y == 0 && true) &&
      (datum_Apply_2 m_A m_B m_C m_D m_E m_F m_Residue p_X p_Y == 0 && (datum_Apply_3 m_A m_B m_C m_D m_E m_F m_Residue p_X p_Y == 0 && true) && true))
else
  bif
      datum_Back_4 m_A m_B m_C m_D m_E m_F m_Residue (datum_Apply_0 m_A m_B m_C m_D m_E m_F m_Residue p_X p_Y) (datum_Apply_1 m_A m_B m_C m_D m_E m_F m_Residue p_X p_Y)
            (datum_Apply_2 m_A m_B m_C m_D m_E m_F m_Residue p_X p_Y) (datum_Apply_3 m_A m_B m_C m_D m_E m_F m_Residue p_X p_Y) !=
          0 ||
        !law04_in_0
            (datum_Back_0 m_A m_B m_C m_D m_E m_F m_Residue (datum_Apply_0 m_A m_B m_C m_D m_E m_F m_Residue p_X p_Y) (datum_Apply_1 m_A m_B m_C m_D m_E m_F m_Residue p_X p_Y)
              (datum_Apply_2 m_A m_B m_C m_D m_E m_F m_Residue p_X p_Y) (datum_Apply_3 m_A m_B m_C m_D m_E m_F m_Residue p_X p_Y))
            (datum_Back_1 m_A m_B m_C m_D m_E m_F m_Residue (datum_Apply_0 m_A m_B m_C m_D m_E m_F m_Residue p_X p_Y) (datum_Apply_1 m_A m_B m_C m_D m_E m_F m_Residue p_X p_Y)
              (datum_Apply_2 m_A m_B m_C m_D m_E m_F m_Residue p_X p_Y) (datum_Apply_3 m_A m_B m_C m_D m_E m_F m_Residue p_X p_Y))
            (datum_Back_2 m_A m_B m_C m_D m_E m_F m_Residue (datum_Apply_0 m_A m_B m_C m_D m_E m_F m_Residue p_X p_Y) (datum_Apply_1 m_A m_B m_C m_D m_E m_F m_Residue p_X p_Y)
              (datum_Apply_2 m_A m_B m_C m_D m_E m_F m_Residue p_X p_Y) (datum_Apply_3 m_A m_B m_C m_D m_E m_F m_Residue p_X p_Y))
            (datum_Back_3 m_A m_B m_C m_D m_E m_F m_Residue (datum_Apply_0 m_A m_B m_C m_D m_E m_F m_Residue p_X p_Y) (datum_Apply_1 m_A m_B m_C m_D m_E m_F m_Residue p_X p_Y)
              (datum_Apply_2 m_A m_B m_C m_D m_E m_F m_Residue p_X p_Y) (datum_Apply_3 m_A m_B m_C m_D m_E m_F m_Residue p_X p_Y))
            p_X p_Y then
    false
  else
    law04_head_0 &&
      (datum_Carry_4 m_A m_B m_C m_D m_E m_F m_Residue
            (datum_Back_0 m_A m_B m_C m_D m_E m_F m_Residue (datum_Apply_0 m_A m_B m_C m_D m_E m_F m_Residue p_X p_Y) (datum_Apply_1 m_A m_B m_C m_D m_E m_F m_Residue p_X p_Y)
              (datum_Apply_2 m_A m_B m_C m_D m_E m_F m_Residue p_X p_Y) (datum_Apply_3 m_A m_B m_C m_D m_E m_F m_Residue p_X p_Y))
            (datum_Back_1 m_A m_B m_C m_D m_E m_F m_Residue (datum_Apply_0 m_A m_B m_C m_D m_E m_F m_Residue p_X p_Y) (datum_Apply_1 m_A m_B m_C m_D m_E m_F m_Residue p_X p_Y)
              (datum_Apply_2 m_A m_B m_C m_D m_E m_F m_Residue p_X p_Y) (datum_Apply_3 m_A m_B m_C m_D m_E m_F m_Residue p_X p_Y))
            (datum_Back_2 m_A m_B m_C m_D m_E m_F m_Residue (datum_Apply_0 m_A m_B m_C m_D m_E m_F m_Residue p_X p_Y) (datum_Apply_1 m_A m_B m_C m_D m_E m_F m_Residue p_X p_Y)
              (datum_Apply_2 m_A m_B m_C m_D m_E m_F m_Residue p_X p_Y) (datum_Apply_3 m_A m_B m_C m_D m_E m_F m_Residue p_X p_Y))
            (datum_Back_3 m_A m_B m_C m_D m_E m_F m_Residue (datum_Apply_0 m_A m_B m_C m_D m_E m_F m_Residue p_X p_Y) (datum_Apply_1 m_A m_B m_C m_D m_E m_F m_Residue p_X p_Y)
              (datum_Apply_2 m_A m_B m_C m_D m_E m_F m_Residue p_X p_Y) (datum_Apply_3 m_A m_B m_C m_D m_E m_F m_Residue p_X p_Y)) ==
          3 ||
        datum_Carry_4 m_A m_B m_C m_D m_E m_F m_Residue
              (datum_Back_0 m_A m_B m_C m_D m_E m_F m_Residue (datum_Apply_0 m_A m_B m_C m_D m_E m_F m_Residue p_X p_Y) (datum_Apply_1 m_A m_B m_C m_D m_E m_F m_Residue p_X p_Y)
                (datum_Apply_2 m_A m_B m_C m_D m_E m_F m_Residue p_X p_Y) (datum_Apply_3 m_A m_B m_C m_D m_E m_F m_Residue p_X p_Y))
              (datum_Back_1 m_A m_B m_C m_D m_E m_F m_Residue (datum_Apply_0 m_A m_B m_C m_D m_E m_F m_Residue p_X p_Y) (datum_Apply_1 m_A m_B m_C m_D m_E m_F m_Residue p_X p_Y)
                (datum_Apply_2 m_A m_B m_C m_D m_E m_F m_Residue p_X p_Y) (datum_Apply_3 m_A m_B m_C m_D m_E m_F m_Residue p_X p_Y))
              (datum_Back_2 m_A m_B m_C m_D m_E m_F m_Residue (datum_Apply_0 m_A m_B m_C m_D m_E m_F m_Residue p_X p_Y) (datum_Apply_1 m_A m_B m_C m_D m_E m_F m_Residue p_X p_Y)
                (datum_Apply_2 m_A m_B m_C m_D m_E m_F m_Residue p_X p_Y) (datum_Apply_3 m_A m_B m_C m_D m_E m_F m_Residue p_X p_Y))
              (datum_Back_3 m_A m_B m_C m_D m_E m_F m_Residue (datum_Apply_0 m_A m_B m_C m_D m_E m_F m_Residue p_X p_Y) (datum_Apply_1 m_A m_B m_C m_D m_E m_F m_Residue p_X p_Y)
                (datum_Apply_2 m_A m_B m_C m_D m_E m_F m_Residue p_X p_Y) (datum_Apply_3 m_A m_B m_C m_D m_E m_F m_Residue p_X p_Y)) ==
            0 &&
          law04_within_0 (datum_Apply_0 m_A m_B m_C m_D m_E m_F m_Residue p_X p_Y) (datum_Apply_1 m_A m_B m_C m_D m_E m_F m_Residue p_X p_Y) (datum_Apply_2 m_A m_B m_C m_D m_E m_F m_Residue p_X p_Y)
            (datum_Apply_3 m_A m_B m_C m_D m_E m_F m_Residue p_X p_Y)
            (datum_Carry_0 m_A m_B m_C m_D m_E m_F m_Residue
              (datum_Back_0 m_A m_B m_C m_D m_E m_F m_Residue (datum_Apply_0 m_A m_B m_C m_D m_E m_F m_Residue p_X p_Y) (datum_Apply_1 m_A m_B m_C m_D m_E m_F m_Residue p_X p_Y)
                (datum_Apply_2 m_A m_B m_C m_D m_E m_F m_Residue p_X p_Y) (datum_Apply_3 m_A m_B m_C m_D m_E m_F m_Residue p_X p_Y))
              (datum_Back_1 m_A m_B m_C m_D m_E m_F m_Residue (datum_Apply_0 m_A m_B m_C m_D m_E m_F m_Residue p_X p_Y) (datum_Apply_1 m_A m_B m_C m_D m_E m_F m_Residue p_X p_Y)
                (datum_Apply_2 m_A m_B m_C m_D m_E m_F m_Residue p_X p_Y) (datum_Apply_3 m_A m_B m_C m_D m_E m_F m_Residue p_X p_Y))
              (datum_Back_2 m_A m_B m_C m_D m_E m_F m_Residue (datum_Apply_0 m_A m_B m_C m_D m_E m_F m_Residue p_X p_Y) (datum_Apply_1 m_A m_B m_C m_D m_E m_F m_Residue p_X p_Y)
                (datum_Apply_2 m_A m_B m_C m_D m_E m_F m_Residue p_X p_Y) (datum_Apply_3 m_A m_B m_C m_D m_E m_F m_Residue p_X p_Y))
              (datum_Back_3 m_A m_B m_C m_D m_E m_F m_Residue (datum_Apply_0 m_A m_B m_C m_D m_E m_F m_Residue p_X p_Y) (datum_Apply_1 m_A m_B m_C m_D m_E m_F m_Residue p_X p_Y)
                (datum_Apply_2 m_A m_B m_C m_D m_E m_F m_Residue p_X p_Y) (datum_Apply_3 m_A m_B m_C m_D m_E m_F m_Residue p_X p_Y)))
            (datum_Carry_1 m_A m_B m_C m_D m_E m_F m_Residue
              (datum_Back_0 m_A m_B m_C m_D m_E m_F m_Residue (datum_Apply_0 m_A m_B m_C m_D m_E m_F m_Residue p_X p_Y) (datum_Apply_1 m_A m_B m_C m_D m_E m_F m_Residue p_X p_Y)
                (datum_Apply_2 m_A m_B m_C m_D m_E m_F m_Residue p_X p_Y) (datum_Apply_3 m_A m_B m_C m_D m_E m_F m_Residue p_X p_Y))
              (datum_Back_1 m_A m_B m_C m_D m_E m_F m_Residue (datum_Apply_0 m_A m_B m_C m_D m_E m_F m_Residue p_X p_Y) (datum_Apply_1 m_A m_B m_C m_D m_E m_F m_Residue p_X p_Y)
                (datum_Apply_2 m_A m_B m_C m_D m_E m_F m_Residue p_X p_Y) (datum_Apply_3 m_A m_B m_C m_D m_E m_F m_Residue p_X p_Y))
              (datum_Back_2 m_A m_B m_C m_D m_E m_F m_Residue (datum_Apply_0 m_A m_B m_C m_D m_E m_F m_Residue p_X p_Y) (datum_Apply_1 m_A m_B m_C m_D m_E m_F m_Residue p_X p_Y)
                (datum_Apply_2 m_A m_B m_C m_D m_E m_F m_Residue p_X p_Y) (datum_Apply_3 m_A m_B m_C m_D m_E m_F m_Residue p_X p_Y))
              (datum_Back_3 m_A m_B m_C m_D m_E m_F m_Residue (datum_Apply_0 m_A m_B m_C m_D m_E m_F m_Residue p_X p_Y) (datum_Apply_1 m_A m_B m_C m_D m_E m_F m_Residue p_X p_Y)
                (datum_Apply_2 m_A m_B m_C m_D m_E m_F m_Residue p_X p_Y) (datum_Apply_3 m_A m_B m_C m_D m_E m_F m_Residue p_X p_Y)))
            (datum_Carry_2 m_A m_B m_C m_D m_E m_F m_Residue
              (datum_Back_0 m_A m_B m_C m_D m_E m_F m_Residue (datum_Apply_0 m_A m_B m_C m_D m_E m_F m_Residue p_X p_Y) (datum_Apply_1 m_A m_B m_C m_D m_E m_F m_Residue p_X p_Y)
                (datum_Apply_2 m_A m_B m_C m_D m_E m_F m_Residue p_X p_Y) (datum_Apply_3 m_A m_B m_C m_D m_E m_F m_Residue p_X p_Y))
              (datum_Back_1 m_A m_B m_C m_D m_E m_F m_Residue (datum_Apply_0 m_A m_B m_C m_D m_E m_F m_Residue p_X p_Y) (datum_Apply_1 m_A m_B m_C m_D m_E m_F m_Residue p_X p_Y)
                (datum_Apply_2 m_A m_B m_C m_D m_E m_F m_Residue p_X p_Y) (datum_Apply_3 m_A m_B m_C m_D m_E m_F m_Residue p_X p_Y))
              (datum_Back_2 m_A m_B m_C m_D m_E m_F m_Residue (datum_Apply_0 m_A m_B m_C m_D m_E m_F m_Residue p_X p_Y) (datum_Apply_1 m_A m_B m_C m_D m_E m_F m_Residue p_X p_Y)
                (datum_Apply_2 m_A m_B m_C m_D m_E m_F m_Residue p_X p_Y) (datum_Apply_3 m_A m_B m_C m_D m_E m_F m_Residue p_X p_Y))
              (datum_Back_3 m_A m_B m_C m_D m_E m_F m_Residue (datum_Apply_0 m_A m_B m_C m_D m_E m_F m_Residue p_X p_Y) (datum_Apply_1 m_A m_B m_C m_D m_E m_F m_Residue p_X p_Y)
                (datum_Apply_2 m_A m_B m_C m_D m_E m_F m_Residue p_X p_Y) (datum_Apply_3 m_A m_B m_C m_D m_E m_F m_Residue p_X p_Y)))
            (datum_Carry_3 m_A m_B m_C m_D m_E m_F m_Residue
              (datum_Back_0 m_A m_B m_C m_D m_E m_F m_Residue (datum_Apply_0 m_A m_B m_C m_D m_E m_F m_Residue p_X p_Y) (datum_Apply_1 m_A m_B m_C m_D m_E m_F m_Residue p_X p_Y)
                (datum_Apply_2 m_A m_B m_C m_D m_E m_F m_Residue p_X p_Y) (datum_Apply_3 m_A m_B m_C m_D m_E m_F m_Residue p_X p_Y))
              (datum_Back_1 m_A m_B m_C m_D m_E m_F m_Residue (datum_Apply_0 m_A m_B m_C m_D m_E m_F m_Residue p_X p_Y) (datum_Apply_1 m_A m_B m_C m_D m_E m_F m_Residue p_X p_Y)
                (datum_Apply_2 m_A m_B m_C m_D m_E m_F m_Residue p_X p_Y) (datum_Apply_3 m_A m_B m_C m_D m_E m_F m_Residue p_X p_Y))
              (datum_Back_2 m_A m_B m_C m_D m_E m_F m_Residue (datum_Apply_0 m_A m_B m_C m_D m_E m_F m_Residue p_X p_Y) (datum_Apply_1 m_A m_B m_C m_D m_E m_F m_Residue p_X p_Y)
                (datum_Apply_2 m_A m_B m_C m_D m_E m_F m_Residue p_X p_Y) (datum_Apply_3 m_A m_B m_C m_D m_E m_F m_Residue p_X p_Y))
              (datum_Back_3 m_A m_B m_C m_D m_E m_F m_Residue (datum_Apply_0 m_A m_B m_C m_D m_E m_F m_Residue p_X p_Y) (datum_Apply_1 m_A m_B m_C m_D m_E m_F m_Residue p_X p_Y)
                (datum_Apply_2 m_A m_B m_C m_D m_E m_F m_Residue p_X p_Y) (datum_Apply_3 m_A m_B m_C m_D m_E m_F m_Residue p_X p_Y))))
end Go.Proofs.Ytbopeaebdlmapaa
