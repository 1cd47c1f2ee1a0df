/- Written by program (wip/sygen.py): what the Go functions compute, as the executor reads it off their code. -/
import Derived.Test.YtddfnokjnafdpaaSyD
import Derived.Test.YtddfnokjnafdpaaDrift1D
import Derived.Test.YtddfnokjnafdpaaSySo
import Derived.Test.YtddfnokjnafdpaaDriftCD
import Derived.Test.YtddfnokjnafdpaaDriftBD
set_option maxRecDepth 100000
set_option linter.unusedVariables false
namespace Go.Proofs.Ytddfnokjnafdpaa
open Go Go.Sy
noncomputable def law23_head_s0  : List (List Int) :=
  [[(60 : Int), (100 : Int), law23_of_0 (100 : Int) (100 : Int), law23_of_1 (100 : Int) (100 : Int), law23_of_0 (-25 : Int) (30 : Int), law23_of_1 (-25 : Int) (30 : Int)]]
noncomputable def law23_head_s1  : List Int :=
  [law23_box_0 (0 : Int) (10 : Int) (0 : Int) (10 : Int), law23_box_1 (0 : Int) (10 : Int) (0 : Int) (10 : Int), law23_box_2 (0 : Int) (10 : Int) (0 : Int) (10 : Int),
  law23_box_3 (0 : Int) (10 : Int) (0 : Int) (10 : Int)]
noncomputable def law23_head_s2  : List Int :=
  [law23_box_0 (0 : Int) (5 : Int) (0 : Int) (5 : Int), law23_box_1 (0 : Int) (5 : Int) (0 : Int) (5 : Int), law23_box_2 (0 : Int) (5 : Int) (0 : Int) (5 : Int),
  law23_box_3 (0 : Int) (5 : Int) (0 : Int) (5 : Int)]
noncomputable def law23_head_s3  : List Int :=
  [law23_box_0 (9 : Int) (9 : Int) (1 : Int) (1 : Int), law23_box_1 (9 : Int) (9 : Int) (1 : Int) (1 : Int), law23_box_2 (9 : Int) (9 : Int) (1 : Int) (1 : Int),
  law23_box_3 (9 : Int) (9 : Int) (1 : Int) (1 : Int)]
noncomputable def law23_head_s4  : List Int :=
  [law23_box_0 (5 : Int) (9 : Int) (0 : Int) (5 : Int), law23_box_1 (5 : Int) (9 : Int) (0 : Int) (5 : Int), law23_box_2 (5 : Int) (9 : Int) (0 : Int) (5 : Int),
  law23_box_3 (5 : Int) (9 : Int) (0 : Int) (5 : Int)]
noncomputable def law23_head_s5  : Int :=
  drift_Sum_4 (0 : Int) (70 : Int) ([(0 : Int), (60 : Int), law23_of_0 (-10 : Int) (50 : Int), law23_of_1 (-10 : Int) (50 : Int), (0 : Int), (0 : Int)] :: (law23_head_s0))
noncomputable def law23_head_s6  : Int :=
  drift_Move_1 (0 : Int) (70 : Int) [(law23_head_s1)] ([(0 : Int), (60 : Int), law23_of_0 (-10 : Int) (50 : Int), law23_of_1 (-10 : Int) (50 : Int), (0 : Int), (0 : Int)] :: (law23_head_s0))
noncomputable def law23_head_s7  : Int :=
  drift_Allows_1 (0 : Int) (70 : Int) (0 : Int) (0 : Int) (40 : Int) (-2 : Int)
  ([(0 : Int), (60 : Int), law23_of_0 (-10 : Int) (50 : Int), law23_of_1 (-10 : Int) (50 : Int), (0 : Int), (0 : Int)] :: (law23_head_s0))
noncomputable def law23_head_s8  : Int :=
  drift_Allows_1 (0 : Int) (70 : Int) (0 : Int) (0 : Int) (41 : Int) (0 : Int)
  ([(0 : Int), (60 : Int), law23_of_0 (-10 : Int) (50 : Int), law23_of_1 (-10 : Int) (50 : Int), (0 : Int), (0 : Int)] :: (law23_head_s0))
noncomputable def law23_head_s9  : Int :=
  drift_Move_1 (50 : Int) (101 : Int) [(law23_head_s1)] ([(0 : Int), (60 : Int), law23_of_0 (-10 : Int) (50 : Int), law23_of_1 (-10 : Int) (50 : Int), (0 : Int), (0 : Int)] :: (law23_head_s0))
noncomputable def law23_head_s10  : Int :=
  drift_Better_1 ([(0 : Int), (60 : Int), law23_of_0 (-10 : Int) (50 : Int), law23_of_1 (-10 : Int) (50 : Int), (0 : Int), (0 : Int)] :: (law23_head_s0))
  [[(50 : Int), (70 : Int), law23_of_0 (0 : Int) (100 : Int), law23_of_1 (0 : Int) (100 : Int), law23_of_0 (0 : Int) (5 : Int), law23_of_1 (0 : Int) (5 : Int)]]
noncomputable def law23_head_s11  : Int :=
  drift_Sum_0 (0 : Int) (70 : Int) ([(0 : Int), (60 : Int), law23_of_0 (-10 : Int) (50 : Int), law23_of_1 (-10 : Int) (50 : Int), (0 : Int), (0 : Int)] :: (law23_head_s0))
noncomputable def law23_head_s12  : Int :=
  drift_Sum_1 (0 : Int) (70 : Int) ([(0 : Int), (60 : Int), law23_of_0 (-10 : Int) (50 : Int), law23_of_1 (-10 : Int) (50 : Int), (0 : Int), (0 : Int)] :: (law23_head_s0))
noncomputable def law23_head_s13  : Int :=
  drift_Sum_2 (0 : Int) (70 : Int) ([(0 : Int), (60 : Int), law23_of_0 (-10 : Int) (50 : Int), law23_of_1 (-10 : Int) (50 : Int), (0 : Int), (0 : Int)] :: (law23_head_s0))
noncomputable def law23_head_s14  : Int :=
  drift_Sum_3 (0 : Int) (70 : Int) ([(0 : Int), (60 : Int), law23_of_0 (-10 : Int) (50 : Int), law23_of_1 (-10 : Int) (50 : Int), (0 : Int), (0 : Int)] :: (law23_head_s0))
noncomputable def law23_head_s15  : List (List Int) :=
  drift_Move_0 (0 : Int) (70 : Int) [(law23_head_s1)] ([(0 : Int), (60 : Int), law23_of_0 (-10 : Int) (50 : Int), law23_of_1 (-10 : Int) (50 : Int), (0 : Int), (0 : Int)] :: (law23_head_s0))
noncomputable def law23_head_s16  : List Int :=
  [law23_box_1 (4 : Int) (50 : Int) (-3 : Int) (13 : Int), law23_box_2 (4 : Int) (50 : Int) (-3 : Int) (13 : Int), law23_box_3 (4 : Int) (50 : Int) (-3 : Int) (13 : Int)]
noncomputable def law23_head_s17  : List Int :=
  [law23_box_0 (0 : Int) (9 : Int) (0 : Int) (5 : Int), law23_box_1 (0 : Int) (9 : Int) (0 : Int) (5 : Int), law23_box_2 (0 : Int) (9 : Int) (0 : Int) (5 : Int),
  law23_box_3 (0 : Int) (9 : Int) (0 : Int) (5 : Int)]
noncomputable def law23_head_s18  : List (List Int) :=
  drift_Better_0 ([(0 : Int), (60 : Int), law23_of_0 (-10 : Int) (50 : Int), law23_of_1 (-10 : Int) (50 : Int), (0 : Int), (0 : Int)] :: (law23_head_s0))
  [[(50 : Int), (70 : Int), law23_of_0 (0 : Int) (100 : Int), law23_of_1 (0 : Int) (100 : Int), law23_of_0 (0 : Int) (5 : Int), law23_of_1 (0 : Int) (5 : Int)]]
noncomputable def law23_head_s19  : List (List Int) :=
  [[(70 : Int), (100 : Int), law23_of_0 (100 : Int) (100 : Int), law23_of_1 (100 : Int) (100 : Int), law23_of_0 (-25 : Int) (30 : Int), law23_of_1 (-25 : Int) (30 : Int)]]
noncomputable def law23_head_s20  : List (List Int) :=
  [(60 : Int), (70 : Int), law23_of_0 (100 : Int) (100 : Int), law23_of_1 (100 : Int) (100 : Int), law23_of_0 (0 : Int) (5 : Int), law23_of_1 (0 : Int) (5 : Int)] :: (law23_head_s19)
noncomputable def law23_head_s21  : List (List Int) :=
  [(0 : Int), (50 : Int), law23_of_0 (-10 : Int) (50 : Int), law23_of_1 (-10 : Int) (50 : Int), (0 : Int), (0 : Int)] ::
  [(50 : Int), (60 : Int), law23_of_0 (0 : Int) (50 : Int), law23_of_1 (0 : Int) (50 : Int), (0 : Int), (0 : Int)] :: (law23_head_s20)
noncomputable def law23_head_0  : Bool :=
  bif
    (law23_head_s5) == (0 : Int) && (law23_head_s6) == (0 : Int) && (law23_head_s7) == (0 : Int) && (law23_head_s8) == (0 : Int) && (law23_head_s9) == (4 : Int) &&
            drift_Tidy_1 [(law23_head_s2), (law23_head_s3), (law23_head_s4)] == (0 : Int) &&
          (law23_head_s10) == (0 : Int) &&
        ((law23_head_s11) == law23_of_0 (400 : Int) (4000 : Int) && ((law23_head_s12) == law23_of_1 (400 : Int) (4000 : Int) && true)) &&
      ((law23_head_s13) == law23_of_0 (-250 : Int) (300 : Int) && ((law23_head_s14) == law23_of_1 (-250 : Int) (300 : Int) && true)) then
  bif
      ref23_Same_0 ((law23_head_s15)) [law23_box_0 (4 : Int) (50 : Int) (-3 : Int) (13 : Int) :: (law23_head_s16)] &&
          drift_Allows_0 (0 : Int) (70 : Int) (0 : Int) (0 : Int) (40 : Int) (-2 : Int)
            ([(0 : Int), (60 : Int), law23_of_0 (-10 : Int) (50 : Int), law23_of_1 (-10 : Int) (50 : Int), (0 : Int), (0 : Int)] :: (law23_head_s0)) &&
        !drift_Allows_0 (0 : Int) (70 : Int) (0 : Int) (0 : Int) (41 : Int) (0 : Int)
            ([(0 : Int), (60 : Int), law23_of_0 (-10 : Int) (50 : Int), law23_of_1 (-10 : Int) (50 : Int), (0 : Int), (0 : Int)] :: (law23_head_s0)) then
    bif ref23_Same_0 (drift_Tidy_0 [(law23_head_s2), (law23_head_s3), (law23_head_s4)]) [(law23_head_s17)] == true then ref23_Flows_0 ((law23_head_s18)) ((law23_head_s21))
    else false
  else false
else false
def law23_head_pre  : Prop :=
  ((drift_Sum_pre (0 : Int) (70 : Int) ([(0 : Int), (60 : Int), law23_of_0 (-10 : Int) (50 : Int), law23_of_1 (-10 : Int) (50 : Int), (0 : Int), (0 : Int)] :: (law23_head_s0))) ∧ ((drift_Move_pre (0 : Int) (70 : Int) [(law23_head_s1)] ([(0 : Int), (60 : Int), law23_of_0 (-10 : Int) (50 : Int), law23_of_1 (-10 : Int) (50 : Int), (0 : Int), (0 : Int)] :: (law23_head_s0))) ∧ ((drift_Allows_pre (0 : Int) (70 : Int) (0 : Int) (0 : Int) (40 : Int) (-2 : Int)
  ([(0 : Int), (60 : Int), law23_of_0 (-10 : Int) (50 : Int), law23_of_1 (-10 : Int) (50 : Int), (0 : Int), (0 : Int)] :: (law23_head_s0))) ∧ ((drift_Allows_pre (0 : Int) (70 : Int) (0 : Int) (0 : Int) (41 : Int) (0 : Int)
  ([(0 : Int), (60 : Int), law23_of_0 (-10 : Int) (50 : Int), law23_of_1 (-10 : Int) (50 : Int), (0 : Int), (0 : Int)] :: (law23_head_s0))) ∧ ((drift_Move_pre (50 : Int) (101 : Int) [(law23_head_s1)] ([(0 : Int), (60 : Int), law23_of_0 (-10 : Int) (50 : Int), law23_of_1 (-10 : Int) (50 : Int), (0 : Int), (0 : Int)] :: (law23_head_s0))) ∧ ((drift_Tidy_pre [(law23_head_s2), (law23_head_s3), (law23_head_s4)]) ∧ ((drift_Better_pre ([(0 : Int), (60 : Int), law23_of_0 (-10 : Int) (50 : Int), law23_of_1 (-10 : Int) (50 : Int), (0 : Int), (0 : Int)] :: (law23_head_s0))
  [[(50 : Int), (70 : Int), law23_of_0 (0 : Int) (100 : Int), law23_of_1 (0 : Int) (100 : Int), law23_of_0 (0 : Int) (5 : Int), law23_of_1 (0 : Int) (5 : Int)]]) ∧ (((((law23_head_s5) == (0 : Int) && (law23_head_s6) == (0 : Int) && (law23_head_s7) == (0 : Int) && (law23_head_s8) == (0 : Int) && (law23_head_s9) == (4 : Int) &&
          drift_Tidy_1 [(law23_head_s2), (law23_head_s3), (law23_head_s4)] == (0 : Int) &&
        (law23_head_s10) == (0 : Int) &&
      ((law23_head_s11) == law23_of_0 (400 : Int) (4000 : Int) && ((law23_head_s12) == law23_of_1 (400 : Int) (4000 : Int) && true)) &&
    ((law23_head_s13) == law23_of_0 (-250 : Int) (300 : Int) && ((law23_head_s14) == law23_of_1 (-250 : Int) (300 : Int) && true))) =
  true) → ((((ref23_Same_0 ((law23_head_s15)) [law23_box_0 (4 : Int) (50 : Int) (-3 : Int) (13 : Int) :: (law23_head_s16)] &&
      drift_Allows_0 (0 : Int) (70 : Int) (0 : Int) (0 : Int) (40 : Int) (-2 : Int)
        ([(0 : Int), (60 : Int), law23_of_0 (-10 : Int) (50 : Int), law23_of_1 (-10 : Int) (50 : Int), (0 : Int), (0 : Int)] :: (law23_head_s0)) &&
    !drift_Allows_0 (0 : Int) (70 : Int) (0 : Int) (0 : Int) (41 : Int) (0 : Int)
        ([(0 : Int), (60 : Int), law23_of_0 (-10 : Int) (50 : Int), law23_of_1 (-10 : Int) (50 : Int), (0 : Int), (0 : Int)] :: (law23_head_s0))) =
  true) → ((((law23_head_s5) == (0 : Int) && (law23_head_s6) == (0 : Int) && (law23_head_s7) == (0 : Int) && (law23_head_s8) == (0 : Int) && (law23_head_s9) == (4 : Int) &&
          drift_Tidy_1 [(law23_head_s2), (law23_head_s3), (law23_head_s4)] == (0 : Int) &&
        (law23_head_s10) == (0 : Int) &&
      ((law23_head_s11) == law23_of_0 (400 : Int) (4000 : Int) && ((law23_head_s12) == law23_of_1 (400 : Int) (4000 : Int) && true)) &&
    ((law23_head_s13) == law23_of_0 (-250 : Int) (300 : Int) && ((law23_head_s14) == law23_of_1 (-250 : Int) (300 : Int) && true))) =
  true) ∧ (((true = true) → (ref23_Same_pre ((law23_head_s15)) [law23_box_0 (4 : Int) (50 : Int) (-3 : Int) (13 : Int) :: (law23_head_s16)])) ∧ (((ref23_Same_0 ((law23_head_s15)) [law23_box_0 (4 : Int) (50 : Int) (-3 : Int) (13 : Int) :: (law23_head_s16)] &&
      drift_Allows_0 (0 : Int) (70 : Int) (0 : Int) (0 : Int) (40 : Int) (-2 : Int)
        ([(0 : Int), (60 : Int), law23_of_0 (-10 : Int) (50 : Int), law23_of_1 (-10 : Int) (50 : Int), (0 : Int), (0 : Int)] :: (law23_head_s0)) &&
    !drift_Allows_0 (0 : Int) (70 : Int) (0 : Int) (0 : Int) (41 : Int) (0 : Int)
        ([(0 : Int), (60 : Int), law23_of_0 (-10 : Int) (50 : Int), law23_of_1 (-10 : Int) (50 : Int), (0 : Int), (0 : Int)] :: (law23_head_s0))) =
  true) ∧ (((true = true) → (ref23_Same_pre (drift_Tidy_0 [(law23_head_s2), (law23_head_s3), (law23_head_s4)]) [(law23_head_s17)])) ∧ (((ref23_Same_0 (drift_Tidy_0 [(law23_head_s2), (law23_head_s3), (law23_head_s4)]) [(law23_head_s17)] == true) = true) → (ref23_Flows_pre ((law23_head_s18)) ((law23_head_s21))))))))) ∧ (((ref23_Same_0 ((law23_head_s15)) [law23_box_0 (4 : Int) (50 : Int) (-3 : Int) (13 : Int) :: (law23_head_s16)] &&
      drift_Allows_0 (0 : Int) (70 : Int) (0 : Int) (0 : Int) (40 : Int) (-2 : Int)
        ([(0 : Int), (60 : Int), law23_of_0 (-10 : Int) (50 : Int), law23_of_1 (-10 : Int) (50 : Int), (0 : Int), (0 : Int)] :: (law23_head_s0)) &&
    !drift_Allows_0 (0 : Int) (70 : Int) (0 : Int) (0 : Int) (41 : Int) (0 : Int)
        ([(0 : Int), (60 : Int), law23_of_0 (-10 : Int) (50 : Int), law23_of_1 (-10 : Int) (50 : Int), (0 : Int), (0 : Int)] :: (law23_head_s0))) =
  false) → ((((law23_head_s5) == (0 : Int) && (law23_head_s6) == (0 : Int) && (law23_head_s7) == (0 : Int) && (law23_head_s8) == (0 : Int) && (law23_head_s9) == (4 : Int) &&
          drift_Tidy_1 [(law23_head_s2), (law23_head_s3), (law23_head_s4)] == (0 : Int) &&
        (law23_head_s10) == (0 : Int) &&
      ((law23_head_s11) == law23_of_0 (400 : Int) (4000 : Int) && ((law23_head_s12) == law23_of_1 (400 : Int) (4000 : Int) && true)) &&
    ((law23_head_s13) == law23_of_0 (-250 : Int) (300 : Int) && ((law23_head_s14) == law23_of_1 (-250 : Int) (300 : Int) && true))) =
  true) ∧ (((true = true) → (ref23_Same_pre ((law23_head_s15)) [law23_box_0 (4 : Int) (50 : Int) (-3 : Int) (13 : Int) :: (law23_head_s16)])) ∧ ((ref23_Same_0 ((law23_head_s15)) [law23_box_0 (4 : Int) (50 : Int) (-3 : Int) (13 : Int) :: (law23_head_s16)] &&
      drift_Allows_0 (0 : Int) (70 : Int) (0 : Int) (0 : Int) (40 : Int) (-2 : Int)
        ([(0 : Int), (60 : Int), law23_of_0 (-10 : Int) (50 : Int), law23_of_1 (-10 : Int) (50 : Int), (0 : Int), (0 : Int)] :: (law23_head_s0)) &&
    !drift_Allows_0 (0 : Int) (70 : Int) (0 : Int) (0 : Int) (41 : Int) (0 : Int)
        ([(0 : Int), (60 : Int), law23_of_0 (-10 : Int) (50 : Int), law23_of_1 (-10 : Int) (50 : Int), (0 : Int), (0 : Int)] :: (law23_head_s0))) =
  false)))))) ∧ ((((law23_head_s5) == (0 : Int) && (law23_head_s6) == (0 : Int) && (law23_head_s7) == (0 : Int) && (law23_head_s8) == (0 : Int) && (law23_head_s9) == (4 : Int) &&
          drift_Tidy_1 [(law23_head_s2), (law23_head_s3), (law23_head_s4)] == (0 : Int) &&
        (law23_head_s10) == (0 : Int) &&
      ((law23_head_s11) == law23_of_0 (400 : Int) (4000 : Int) && ((law23_head_s12) == law23_of_1 (400 : Int) (4000 : Int) && true)) &&
    ((law23_head_s13) == law23_of_0 (-250 : Int) (300 : Int) && ((law23_head_s14) == law23_of_1 (-250 : Int) (300 : Int) && true))) =
  false) → (((law23_head_s5) == (0 : Int) && (law23_head_s6) == (0 : Int) && (law23_head_s7) == (0 : Int) && (law23_head_s8) == (0 : Int) && (law23_head_s9) == (4 : Int) &&
          drift_Tidy_1 [(law23_head_s2), (law23_head_s3), (law23_head_s4)] == (0 : Int) &&
        (law23_head_s10) == (0 : Int) &&
      ((law23_head_s11) == law23_of_0 (400 : Int) (4000 : Int) && ((law23_head_s12) == law23_of_1 (400 : Int) (4000 : Int) && true)) &&
    ((law23_head_s13) == law23_of_0 (-250 : Int) (300 : Int) && ((law23_head_s14) == law23_of_1 (-250 : Int) (300 : Int) && true))) =
  false))))))))))
noncomputable def law23_DriftSum_0 (from_ mid until_ p_X p_Y q_X q_Y : Int) (forecast : List (List Int)) : Bool :=
  bif drift_Sum_4 from_ from_ forecast != (0 : Int) then law23_head_0 && drift_Sum_4 from_ from_ forecast == (1 : Int) && drift_Sum_4 from_ mid forecast == (1 : Int)
else
  bif drift_Sum_4 from_ mid forecast == (0 : Int) && drift_Sum_4 mid until_ forecast == (0 : Int) then
    law23_head_0 && (drift_Sum_0 from_ from_ forecast == (0 : Int) && (drift_Sum_1 from_ from_ forecast == (0 : Int) && true)) &&
              (drift_Sum_2 from_ from_ forecast == (0 : Int) && (drift_Sum_3 from_ from_ forecast == (0 : Int) && true)) &&
            (drift_Sum_4 from_ until_ forecast == (0 : Int) || drift_Allows_1 from_ until_ p_X p_Y q_X q_Y forecast != (0 : Int) && !drift_Allows_0 from_ until_ p_X p_Y q_X q_Y forecast) &&
          drift_Sum_4 from_ until_ forecast == (0 : Int) &&
        (drift_Sum_0 from_ until_ forecast ==
            law23_of_0 (IntKind.i64.wrap (drift_Sum_0 from_ mid forecast + drift_Sum_0 mid until_ forecast)) (IntKind.i64.wrap (drift_Sum_1 from_ mid forecast + drift_Sum_1 mid until_ forecast)) &&
          (drift_Sum_1 from_ until_ forecast ==
              law23_of_1 (IntKind.i64.wrap (drift_Sum_0 from_ mid forecast + drift_Sum_0 mid until_ forecast)) (IntKind.i64.wrap (drift_Sum_1 from_ mid forecast + drift_Sum_1 mid until_ forecast)) &&
            true)) &&
      (drift_Sum_2 from_ until_ forecast ==
          law23_of_0 (IntKind.i64.wrap (drift_Sum_2 from_ mid forecast + drift_Sum_2 mid until_ forecast)) (IntKind.i64.wrap (drift_Sum_3 from_ mid forecast + drift_Sum_3 mid until_ forecast)) &&
        (drift_Sum_3 from_ until_ forecast ==
            law23_of_1 (IntKind.i64.wrap (drift_Sum_2 from_ mid forecast + drift_Sum_2 mid until_ forecast)) (IntKind.i64.wrap (drift_Sum_3 from_ mid forecast + drift_Sum_3 mid until_ forecast)) &&
          true))
  else
    bif drift_Sum_4 from_ mid forecast == (1 : Int) || drift_Sum_4 mid until_ forecast == (1 : Int) then
      law23_head_0 && (drift_Sum_0 from_ from_ forecast == (0 : Int) && (drift_Sum_1 from_ from_ forecast == (0 : Int) && true)) &&
          (drift_Sum_2 from_ from_ forecast == (0 : Int) && (drift_Sum_3 from_ from_ forecast == (0 : Int) && true)) &&
        (drift_Sum_4 from_ until_ forecast == (0 : Int) || drift_Allows_1 from_ until_ p_X p_Y q_X q_Y forecast != (0 : Int) && !drift_Allows_0 from_ until_ p_X p_Y q_X q_Y forecast)
    else
      law23_head_0 && (drift_Sum_0 from_ from_ forecast == (0 : Int) && (drift_Sum_1 from_ from_ forecast == (0 : Int) && true)) &&
            (drift_Sum_2 from_ from_ forecast == (0 : Int) && (drift_Sum_3 from_ from_ forecast == (0 : Int) && true)) &&
          (drift_Sum_4 from_ until_ forecast == (0 : Int) || drift_Allows_1 from_ until_ p_X p_Y q_X q_Y forecast != (0 : Int) && !drift_Allows_0 from_ until_ p_X p_Y q_X q_Y forecast) &&
        drift_Sum_4 from_ until_ forecast == (4 : Int)
def law23_DriftSum_pre (from_ mid until_ p_X p_Y q_X q_Y : Int) (forecast : List (List Int)) : Prop :=
  ((law23_head_pre) ∧ ((drift_Sum_pre from_ mid forecast) ∧ ((drift_Sum_pre mid until_ forecast) ∧ ((drift_Sum_pre from_ until_ forecast) ∧ ((drift_Sum_pre from_ from_ forecast) ∧ (((drift_Sum_4 from_ from_ forecast != (0 : Int)) = false) → (drift_Allows_pre from_ until_ p_X p_Y q_X q_Y forecast)))))))
noncomputable def law23_DriftHolds_0 (from_ until_ p_X p_Y q_X q_Y : Int) (list forecast : List (List Int)) : Bool :=
  bif drift_Move_1 from_ until_ list forecast != (0 : Int) || drift_In_1 p_X p_Y list != (0 : Int) || drift_Allows_1 from_ until_ p_X p_Y q_X q_Y forecast != (0 : Int) then
  law23_head_0 && (drift_Move_1 from_ until_ list forecast != (0 : Int) || drift_In_1 p_X p_Y list == (1 : Int) || drift_Allows_1 from_ until_ p_X p_Y q_X q_Y forecast == (1 : Int))
else
  law23_head_0 && drift_In_1 q_X q_Y (drift_Move_0 from_ until_ list forecast) == (0 : Int) &&
    (!drift_In_0 p_X p_Y list || !drift_Allows_0 from_ until_ p_X p_Y q_X q_Y forecast || drift_In_0 q_X q_Y (drift_Move_0 from_ until_ list forecast))
def law23_DriftHolds_pre (from_ until_ p_X p_Y q_X q_Y : Int) (list forecast : List (List Int)) : Prop :=
  ((law23_head_pre) ∧ ((drift_Move_pre from_ until_ list forecast) ∧ ((drift_In_pre p_X p_Y list) ∧ ((drift_Allows_pre from_ until_ p_X p_Y q_X q_Y forecast) ∧ (((drift_Move_1 from_ until_ list forecast != (0 : Int) || drift_In_1 p_X p_Y list != (0 : Int) || drift_Allows_1 from_ until_ p_X p_Y q_X q_Y forecast != (0 : Int)) = false) → (drift_In_pre q_X q_Y (drift_Move_0 from_ until_ list forecast)))))))
noncomputable def law23_DriftSteps_0 (from_ mid until_ p_X p_Y q_X q_Y s_X s_Y : Int) (list forecast : List (List Int)) : Bool :=
  bif drift_Allows_1 from_ mid p_X p_Y q_X q_Y forecast == (0 : Int) && drift_Allows_1 mid until_ q_X q_Y s_X s_Y forecast == (0 : Int) then
  bif drift_Move_1 from_ mid list forecast != (0 : Int) || drift_Move_1 mid until_ (drift_Move_0 from_ mid list forecast) forecast != (0 : Int) then
    law23_head_0 && drift_Allows_1 from_ until_ p_X p_Y s_X s_Y forecast == (0 : Int) &&
      (!drift_Allows_0 from_ mid p_X p_Y q_X q_Y forecast || !drift_Allows_0 mid until_ q_X q_Y s_X s_Y forecast || drift_Allows_0 from_ until_ p_X p_Y s_X s_Y forecast)
  else
    law23_head_0 && drift_Allows_1 from_ until_ p_X p_Y s_X s_Y forecast == (0 : Int) &&
          (!drift_Allows_0 from_ mid p_X p_Y q_X q_Y forecast || !drift_Allows_0 mid until_ q_X q_Y s_X s_Y forecast || drift_Allows_0 from_ until_ p_X p_Y s_X s_Y forecast) &&
        drift_Move_1 from_ until_ list forecast == (0 : Int) &&
      law23_within_0 (drift_Move_0 from_ until_ list forecast) (drift_Move_0 mid until_ (drift_Move_0 from_ mid list forecast) forecast)
else
  bif drift_Move_1 from_ mid list forecast != (0 : Int) || drift_Move_1 mid until_ (drift_Move_0 from_ mid list forecast) forecast != (0 : Int) then law23_head_0
  else
    law23_head_0 && drift_Move_1 from_ until_ list forecast == (0 : Int) &&
      law23_within_0 (drift_Move_0 from_ until_ list forecast) (drift_Move_0 mid until_ (drift_Move_0 from_ mid list forecast) forecast)
def law23_DriftSteps_pre (from_ mid until_ p_X p_Y q_X q_Y s_X s_Y : Int) (list forecast : List (List Int)) : Prop :=
  ((law23_head_pre) ∧ ((drift_Allows_pre from_ mid p_X p_Y q_X q_Y forecast) ∧ ((drift_Allows_pre mid until_ q_X q_Y s_X s_Y forecast) ∧ ((drift_Allows_pre from_ until_ p_X p_Y s_X s_Y forecast) ∧ ((((drift_Allows_1 from_ mid p_X p_Y q_X q_Y forecast == (0 : Int) && drift_Allows_1 mid until_ q_X q_Y s_X s_Y forecast == (0 : Int)) = true) → ((drift_Move_pre from_ mid list forecast) ∧ ((drift_Move_pre mid until_ (drift_Move_0 from_ mid list forecast) forecast) ∧ ((drift_Move_pre from_ until_ list forecast) ∧ (((drift_Move_1 from_ mid list forecast != (0 : Int) || drift_Move_1 mid until_ (drift_Move_0 from_ mid list forecast) forecast != (0 : Int)) = false) → (((law23_head_0 && drift_Allows_1 from_ until_ p_X p_Y s_X s_Y forecast == (0 : Int) &&
      (!drift_Allows_0 from_ mid p_X p_Y q_X q_Y forecast || !drift_Allows_0 mid until_ q_X q_Y s_X s_Y forecast || drift_Allows_0 from_ until_ p_X p_Y s_X s_Y forecast) &&
    drift_Move_1 from_ until_ list forecast == (0 : Int)) =
  true) → (law23_within_pre (drift_Move_0 from_ until_ list forecast) (drift_Move_0 mid until_ (drift_Move_0 from_ mid list forecast) forecast)))))))) ∧ (((drift_Allows_1 from_ mid p_X p_Y q_X q_Y forecast == (0 : Int) && drift_Allows_1 mid until_ q_X q_Y s_X s_Y forecast == (0 : Int)) = false) → ((drift_Move_pre from_ mid list forecast) ∧ ((drift_Move_pre mid until_ (drift_Move_0 from_ mid list forecast) forecast) ∧ ((drift_Move_pre from_ until_ list forecast) ∧ (((drift_Move_1 from_ mid list forecast != (0 : Int) || drift_Move_1 mid until_ (drift_Move_0 from_ mid list forecast) forecast != (0 : Int)) = false) → (((law23_head_0 && drift_Move_1 from_ until_ list forecast == (0 : Int)) = true) → (law23_within_pre (drift_Move_0 from_ until_ list forecast) (drift_Move_0 mid until_ (drift_Move_0 from_ mid list forecast) forecast)))))))))))))
noncomputable def law23_DriftCut_0 (b_X_Lo b_X_Hi b_Y_Lo b_Y_Hi p_X p_Y : Int) (list : List (List Int)) : Bool :=
  bif drift_In_1 p_X p_Y list != (0 : Int) || drift_In_1 p_X p_Y [[b_X_Lo, b_X_Hi, b_Y_Lo, b_Y_Hi]] != (0 : Int) then
  law23_head_0 &&
    (drift_Cut_1 b_X_Lo b_X_Hi b_Y_Lo b_Y_Hi list == (1 : Int) || (↑list.length : Int) == (0 : Int) ||
      drift_In_1 p_X p_Y list == (1 : Int) && drift_In_1 p_X p_Y [[b_X_Lo, b_X_Hi, b_Y_Lo, b_Y_Hi]] == (1 : Int))
else
  bif drift_Cut_1 b_X_Lo b_X_Hi b_Y_Lo b_Y_Hi list != (0 : Int) then
    law23_head_0 && drift_Cut_1 b_X_Lo b_X_Hi b_Y_Lo b_Y_Hi list == (4 : Int) && !(drift_In_0 p_X p_Y list && drift_In_0 p_X p_Y [[b_X_Lo, b_X_Hi, b_Y_Lo, b_Y_Hi]])
  else
    law23_head_0 && drift_In_1 p_X p_Y (drift_Cut_0 b_X_Lo b_X_Hi b_Y_Lo b_Y_Hi list) == (0 : Int) &&
        drift_In_0 p_X p_Y (drift_Cut_0 b_X_Lo b_X_Hi b_Y_Lo b_Y_Hi list) == (drift_In_0 p_X p_Y list && drift_In_0 p_X p_Y [[b_X_Lo, b_X_Hi, b_Y_Lo, b_Y_Hi]]) &&
      decide ((↑(drift_Cut_0 b_X_Lo b_X_Hi b_Y_Lo b_Y_Hi list).length : Int) ≤ (↑list.length : Int))
def law23_DriftCut_pre (b_X_Lo b_X_Hi b_Y_Lo b_Y_Hi p_X p_Y : Int) (list : List (List Int)) : Prop :=
  ((law23_head_pre) ∧ ((drift_Cut_pre b_X_Lo b_X_Hi b_Y_Lo b_Y_Hi list) ∧ ((drift_In_pre p_X p_Y list) ∧ ((drift_In_pre p_X p_Y [[b_X_Lo, b_X_Hi, b_Y_Lo, b_Y_Hi]]) ∧ (((drift_In_1 p_X p_Y list != (0 : Int) || drift_In_1 p_X p_Y [[b_X_Lo, b_X_Hi, b_Y_Lo, b_Y_Hi]] != (0 : Int)) = false) → (((drift_Cut_1 b_X_Lo b_X_Hi b_Y_Lo b_Y_Hi list != (0 : Int)) = false) → (drift_In_pre p_X p_Y (drift_Cut_0 b_X_Lo b_X_Hi b_Y_Lo b_Y_Hi list))))))))
noncomputable def law23_DriftBetter_0 (from_ until_ p_X p_Y q_X q_Y : Int) (a b list : List (List Int)) : Bool :=
  bif drift_Better_1 a b != (0 : Int) then
  law23_head_0 && ref23_Flows_0 (drift_Better_0 a b) (drift_Better_0 b a) && drift_Better_1 a b == drift_Better_1 b a &&
    (drift_Better_1 a b == (1 : Int) || drift_Better_1 a b == (18 : Int) || drift_Better_1 a b == (2 : Int))
else
  bif drift_Allows_1 from_ until_ p_X p_Y q_X q_Y a == (0 : Int) then
    bif drift_Move_1 from_ until_ list a != (0 : Int) then
      law23_head_0 && ref23_Flows_0 (drift_Better_0 a b) (drift_Better_0 b a) && drift_Better_1 a b == drift_Better_1 b a &&
          drift_Allows_1 from_ until_ p_X p_Y q_X q_Y (drift_Better_0 a b) == (0 : Int) &&
        (!drift_Allows_0 from_ until_ p_X p_Y q_X q_Y (drift_Better_0 a b) || drift_Allows_0 from_ until_ p_X p_Y q_X q_Y a)
    else
      law23_head_0 && ref23_Flows_0 (drift_Better_0 a b) (drift_Better_0 b a) && drift_Better_1 a b == drift_Better_1 b a &&
              drift_Allows_1 from_ until_ p_X p_Y q_X q_Y (drift_Better_0 a b) == (0 : Int) &&
            (!drift_Allows_0 from_ until_ p_X p_Y q_X q_Y (drift_Better_0 a b) || drift_Allows_0 from_ until_ p_X p_Y q_X q_Y a) &&
          drift_Move_1 from_ until_ list (drift_Better_0 a b) == (0 : Int) &&
        law23_within_0 (drift_Move_0 from_ until_ list (drift_Better_0 a b)) (drift_Move_0 from_ until_ list a)
  else
    bif drift_Move_1 from_ until_ list a != (0 : Int) then law23_head_0 && ref23_Flows_0 (drift_Better_0 a b) (drift_Better_0 b a) && drift_Better_1 a b == drift_Better_1 b a
    else
      law23_head_0 && ref23_Flows_0 (drift_Better_0 a b) (drift_Better_0 b a) && drift_Better_1 a b == drift_Better_1 b a && drift_Move_1 from_ until_ list (drift_Better_0 a b) == (0 : Int) &&
        law23_within_0 (drift_Move_0 from_ until_ list (drift_Better_0 a b)) (drift_Move_0 from_ until_ list a)
def law23_DriftBetter_pre (from_ until_ p_X p_Y q_X q_Y : Int) (a b list : List (List Int)) : Prop :=
  ((law23_head_pre) ∧ ((drift_Better_pre a b) ∧ ((drift_Better_pre b a) ∧ (((law23_head_0 = true) → (ref23_Flows_pre (drift_Better_0 a b) (drift_Better_0 b a))) ∧ (((drift_Better_1 a b != (0 : Int)) = false) → ((drift_Allows_pre from_ until_ p_X p_Y q_X q_Y (drift_Better_0 a b)) ∧ ((drift_Allows_pre from_ until_ p_X p_Y q_X q_Y a) ∧ ((((drift_Allows_1 from_ until_ p_X p_Y q_X q_Y a == (0 : Int)) = true) → ((drift_Move_pre from_ until_ list (drift_Better_0 a b)) ∧ ((drift_Move_pre from_ until_ list a) ∧ (((drift_Move_1 from_ until_ list a != (0 : Int)) = false) → (((law23_head_0 && ref23_Flows_0 (drift_Better_0 a b) (drift_Better_0 b a) && drift_Better_1 a b == drift_Better_1 b a && drift_Allows_1 from_ until_ p_X p_Y q_X q_Y (drift_Better_0 a b) == (0 : Int) &&
      (!drift_Allows_0 from_ until_ p_X p_Y q_X q_Y (drift_Better_0 a b) || drift_Allows_0 from_ until_ p_X p_Y q_X q_Y a) &&
    drift_Move_1 from_ until_ list (drift_Better_0 a b) == (0 : Int)) =
  true) → (law23_within_pre (drift_Move_0 from_ until_ list (drift_Better_0 a b)) (drift_Move_0 from_ until_ list a))))))) ∧ (((drift_Allows_1 from_ until_ p_X p_Y q_X q_Y a == (0 : Int)) = false) → ((drift_Move_pre from_ until_ list (drift_Better_0 a b)) ∧ ((drift_Move_pre from_ until_ list a) ∧ (((drift_Move_1 from_ until_ list a != (0 : Int)) = false) → (((law23_head_0 && ref23_Flows_0 (drift_Better_0 a b) (drift_Better_0 b a) && drift_Better_1 a b == drift_Better_1 b a && drift_Move_1 from_ until_ list (drift_Better_0 a b) == (0 : Int)) = true) → (law23_within_pre (drift_Move_0 from_ until_ list (drift_Better_0 a b)) (drift_Move_0 from_ until_ list a)))))))))))))))
noncomputable def law23_DriftTidy_l1_init (p_X p_Y : Int) (list : List (List Int)) (y0 : List U) : List U :=
  [.b (gb y0 0), .i ((0 : Int))]
noncomputable def law23_DriftTidy_l1_step (p_X p_Y : Int) (list : List (List Int)) (y0 : List U) (y1 : List U) : Option (Nat × List U) :=
  (bif decide (gi y1 1 < gi y0 1) then guardP ((gb y1 0 = true) → (inR (gi y0 1) (drift_Tidy_0 list))) (guardP ((gb y1 0 = true) → (inR (gi y0 1) (drift_Tidy_0 list))) (guardP ((gb y1 0 = true) → (inR (gi y1 1) (drift_Tidy_0 list))) (guardP ((gb y1 0 = true) → (inR (gi y1 1) (drift_Tidy_0 list))) (some (0, [.b (gb y1 0 &&
  !ref23_Joins_0 (((drift_Tidy_0 list).getD (gi y0 1).toNat []).getD 0 (0 : Int)) (((drift_Tidy_0 list).getD (gi y0 1).toNat []).getD 1 (0 : Int))
      (((drift_Tidy_0 list).getD (gi y0 1).toNat []).getD 2 (0 : Int)) (((drift_Tidy_0 list).getD (gi y0 1).toNat []).getD 3 (0 : Int))
      (((drift_Tidy_0 list).getD (gi y1 1).toNat []).getD 0 (0 : Int)) (((drift_Tidy_0 list).getD (gi y1 1).toNat []).getD 1 (0 : Int))
      (((drift_Tidy_0 list).getD (gi y1 1).toNat []).getD 2 (0 : Int)) (((drift_Tidy_0 list).getD (gi y1 1).toNat []).getD 3 (0 : Int))), .i (IntKind.i64.wrap (gi y1 1 + (1 : Int)))]))))) else some (2, [.b (gb y1 0), .i (gi y1 1)]))
noncomputable def law23_DriftTidy_l1 (p_X p_Y : Int) (list : List (List Int)) (y0 : List U) : Nat × List U := loopGet (law23_DriftTidy_l1_step p_X p_Y list y0) (law23_DriftTidy_l1_init p_X p_Y list y0)
noncomputable def law23_DriftTidy_l0_init (p_X p_Y : Int) (list : List (List Int)) : List U :=
  [.b (law23_head_0 && drift_Tidy_1 (drift_Tidy_0 list) == (0 : Int) && ref23_Same_0 (drift_Tidy_0 (drift_Tidy_0 list)) (drift_Tidy_0 list)), .i ((0 : Int))]
noncomputable def law23_DriftTidy_l0_step (p_X p_Y : Int) (list : List (List Int)) (y0 : List U) : Option (Nat × List U) :=
  (bif decide (gi y0 1 < (↑(drift_Tidy_0 list).length : Int)) then guardP ((loopOk (law23_DriftTidy_l1_step p_X p_Y list y0) (law23_DriftTidy_l1_init p_X p_Y list y0))) (some (0, [.b (gb (law23_DriftTidy_l1 p_X p_Y list y0).snd 0), .i (IntKind.i64.wrap (gi y0 1 + (1 : Int)))])) else some (2, [.b (gb y0 0), .i (gi y0 1)]))
noncomputable def law23_DriftTidy_l0 (p_X p_Y : Int) (list : List (List Int)) : Nat × List U := loopGet (law23_DriftTidy_l0_step p_X p_Y list) (law23_DriftTidy_l0_init p_X p_Y list)
noncomputable def law23_DriftTidy_0 (p_X p_Y : Int) (list : List (List Int)) : Bool :=
  bif drift_Tidy_1 list != (0 : Int) then law23_head_0 && drift_Tidy_1 list == (1 : Int) && !drift_Valid_0 list
else
  bif (↑(drift_Tidy_0 list).length : Int) == (0 : Int) || decide ((↑(drift_Tidy_0 list).length : Int) > (↑list.length : Int)) then false
  else gb (law23_DriftTidy_l0 p_X p_Y list).snd 0 && drift_In_0 p_X p_Y (drift_Tidy_0 list) == drift_In_0 p_X p_Y list && drift_In_1 p_X p_Y list == drift_In_1 p_X p_Y (drift_Tidy_0 list)
def law23_DriftTidy_pre (p_X p_Y : Int) (list : List (List Int)) : Prop :=
  ((law23_head_pre) ∧ ((drift_Tidy_pre list) ∧ ((((drift_Tidy_1 list != (0 : Int)) = true) → (((law23_head_0 && drift_Tidy_1 list == (1 : Int)) = true) → (drift_Valid_pre list))) ∧ (((drift_Tidy_1 list != (0 : Int)) = false) → ((((↑(drift_Tidy_0 list).length : Int) == (0 : Int) || decide ((↑(drift_Tidy_0 list).length : Int) > (↑list.length : Int))) = false) → ((drift_Tidy_pre (drift_Tidy_0 list)) ∧ ((((law23_head_0 && drift_Tidy_1 (drift_Tidy_0 list) == (0 : Int)) = true) → (ref23_Same_pre (drift_Tidy_0 (drift_Tidy_0 list)) (drift_Tidy_0 list))) ∧ (((loopOk (law23_DriftTidy_l0_step p_X p_Y list) (law23_DriftTidy_l0_init p_X p_Y list))) ∧ ((drift_In_pre p_X p_Y list) ∧ (drift_In_pre p_X p_Y (drift_Tidy_0 list)))))))))))
noncomputable def law23_DriftGreater_s0 (from_ until_ by_ : Int) (a b forecast : List (List Int)) (y0 : List U) : List (List Int) :=
  cutV a (boundsA (↑a.length : Int) (some (gi y0 2)) (some (IntKind.i64.wrap (gi y0 2 + (1 : Int))))).snd.fst
  (boundsA (↑a.length : Int) (some (gi y0 2)) (some (IntKind.i64.wrap (gi y0 2 + (1 : Int))))).snd.snd
noncomputable def law23_DriftGreater_s1 (from_ until_ by_ : Int) (a b forecast : List (List Int)) (y1 : List U) : List (List Int) :=
  cutV b (boundsA (↑b.length : Int) (some (gi y1 2)) (some (IntKind.i64.wrap (gi y1 2 + (1 : Int))))).snd.fst
  (boundsA (↑b.length : Int) (some (gi y1 2)) (some (IntKind.i64.wrap (gi y1 2 + (1 : Int))))).snd.snd
noncomputable def law23_DriftGreater_s2 (from_ until_ by_ : Int) (a b forecast : List (List Int)) (y0 : List U) : List (List Int) :=
  cutV (drift_Move_0 from_ until_ a forecast) (boundsA (↑(drift_Move_0 from_ until_ a forecast).length : Int) (some (gi y0 2)) (some (IntKind.i64.wrap (gi y0 2 + (1 : Int))))).snd.fst
  (boundsA (↑(drift_Move_0 from_ until_ a forecast).length : Int) (some (gi y0 2)) (some (IntKind.i64.wrap (gi y0 2 + (1 : Int))))).snd.snd
noncomputable def law23_DriftGreater_s3 (from_ until_ by_ : Int) (a b forecast : List (List Int)) (y1 : List U) : List (List Int) :=
  cutV (drift_Move_0 from_ until_ b forecast) (boundsA (↑(drift_Move_0 from_ until_ b forecast).length : Int) (some (gi y1 2)) (some (IntKind.i64.wrap (gi y1 2 + (1 : Int))))).snd.fst
  (boundsA (↑(drift_Move_0 from_ until_ b forecast).length : Int) (some (gi y1 2)) (some (IntKind.i64.wrap (gi y1 2 + (1 : Int))))).snd.snd
noncomputable def law23_DriftGreater_l1_init (from_ until_ by_ : Int) (a b forecast : List (List Int)) (y0 : List U) : List U :=
  [.b (gb y0 0), .b (gb y0 1), .i ((0 : Int))]
noncomputable def law23_DriftGreater_l1_step (from_ until_ by_ : Int) (a b forecast : List (List Int)) (y0 : List U) (y1 : List U) : Option (Nat × List U) :=
  (bif decide (gi y1 2 < (↑b.length : Int)) then guardP (((0 : Int) ≤ gi y0 2) ∧ ((gi y0 2 ≤ IntKind.i64.wrap (gi y0 2 + (1 : Int))) ∧ (IntKind.i64.wrap (gi y0 2 + (1 : Int)) ≤ (↑a.length : Int)))) (guardP (((0 : Int) ≤ gi y1 2) ∧ ((gi y1 2 ≤ IntKind.i64.wrap (gi y1 2 + (1 : Int))) ∧ (IntKind.i64.wrap (gi y1 2 + (1 : Int)) ≤ (↑b.length : Int)))) (guardP (((((↑(loN (boundsA (↑a.length : Int) (some (gi y0 2)) (some (IntKind.i64.wrap (gi y0 2 + (1 : Int))))).snd.fst) : Int) ≤
  (boundsA (↑a.length : Int) (some (gi y0 2)) (some (IntKind.i64.wrap (gi y0 2 + (1 : Int))))).snd.snd) ∧ ((boundsA (↑a.length : Int) (some (gi y0 2)) (some (IntKind.i64.wrap (gi y0 2 + (1 : Int))))).snd.snd ≤ (↑a.length : Int))) ∧ (((↑(loN (boundsA (↑b.length : Int) (some (gi y1 2)) (some (IntKind.i64.wrap (gi y1 2 + (1 : Int))))).snd.fst) : Int) ≤
  (boundsA (↑b.length : Int) (some (gi y1 2)) (some (IntKind.i64.wrap (gi y1 2 + (1 : Int))))).snd.snd) ∧ ((boundsA (↑b.length : Int) (some (gi y1 2)) (some (IntKind.i64.wrap (gi y1 2 + (1 : Int))))).snd.snd ≤ (↑b.length : Int)))) ∧ (law23_within_pre ((law23_DriftGreater_s0 from_ until_ by_ a b forecast y0)) ((law23_DriftGreater_s1 from_ until_ by_ a b forecast y1)))) ((bif !law23_within_0 ((law23_DriftGreater_s0 from_ until_ by_ a b forecast y0)) ((law23_DriftGreater_s1 from_ until_ by_ a b forecast y1)) then some (0, [.b (gb y1 0), .b (gb y1 1), .i (IntKind.i64.wrap (gi y1 2 + (1 : Int)))]) else (bif (↑(drift_Move_0 from_ until_ a forecast).length : Int) != (↑a.length : Int) || (↑(drift_Move_0 from_ until_ b forecast).length : Int) != (↑b.length : Int) then some (2, []) else guardP ((gb y1 1 = true) → (((0 : Int) ≤ gi y0 2) ∧ ((gi y0 2 ≤ IntKind.i64.wrap (gi y0 2 + (1 : Int))) ∧ (IntKind.i64.wrap (gi y0 2 + (1 : Int)) ≤ (↑(drift_Move_0 from_ until_ a forecast).length : Int))))) (guardP ((gb y1 1 = true) → (((0 : Int) ≤ gi y1 2) ∧ ((gi y1 2 ≤ IntKind.i64.wrap (gi y1 2 + (1 : Int))) ∧ (IntKind.i64.wrap (gi y1 2 + (1 : Int)) ≤ (↑(drift_Move_0 from_ until_ b forecast).length : Int))))) (guardP ((gb y1 1 = true) → (((((↑(loN (boundsA (↑(drift_Move_0 from_ until_ a forecast).length : Int) (some (gi y0 2)) (some (IntKind.i64.wrap (gi y0 2 + (1 : Int))))).snd.fst) : Int) ≤
  (boundsA (↑(drift_Move_0 from_ until_ a forecast).length : Int) (some (gi y0 2)) (some (IntKind.i64.wrap (gi y0 2 + (1 : Int))))).snd.snd) ∧ ((boundsA (↑(drift_Move_0 from_ until_ a forecast).length : Int) (some (gi y0 2)) (some (IntKind.i64.wrap (gi y0 2 + (1 : Int))))).snd.snd ≤
  (↑(drift_Move_0 from_ until_ a forecast).length : Int))) ∧ (((↑(loN (boundsA (↑(drift_Move_0 from_ until_ b forecast).length : Int) (some (gi y1 2)) (some (IntKind.i64.wrap (gi y1 2 + (1 : Int))))).snd.fst) : Int) ≤
  (boundsA (↑(drift_Move_0 from_ until_ b forecast).length : Int) (some (gi y1 2)) (some (IntKind.i64.wrap (gi y1 2 + (1 : Int))))).snd.snd) ∧ ((boundsA (↑(drift_Move_0 from_ until_ b forecast).length : Int) (some (gi y1 2)) (some (IntKind.i64.wrap (gi y1 2 + (1 : Int))))).snd.snd ≤
  (↑(drift_Move_0 from_ until_ b forecast).length : Int)))) ∧ (law23_within_pre ((law23_DriftGreater_s2 from_ until_ by_ a b forecast y0)) ((law23_DriftGreater_s3 from_ until_ by_ a b forecast y1))))) (some (0, [.b (gb y1 0), .b (gb y1 1 && law23_within_0 ((law23_DriftGreater_s2 from_ until_ by_ a b forecast y0)) ((law23_DriftGreater_s3 from_ until_ by_ a b forecast y1))), .i (IntKind.i64.wrap (gi y1 2 + (1 : Int)))]))))))))) else some (4, [.b (gb y1 0), .b (gb y1 1), .i (gi y1 2)]))
noncomputable def law23_DriftGreater_l1 (from_ until_ by_ : Int) (a b forecast : List (List Int)) (y0 : List U) : Nat × List U := loopGet (law23_DriftGreater_l1_step from_ until_ by_ a b forecast y0) (law23_DriftGreater_l1_init from_ until_ by_ a b forecast y0)
noncomputable def law23_DriftGreater_l0_init (from_ until_ by_ : Int) (a b forecast : List (List Int)) : List U :=
  [.b (false), .b (law23_head_0), .i ((0 : Int))]
noncomputable def law23_DriftGreater_l0_step (from_ until_ by_ : Int) (a b forecast : List (List Int)) (y0 : List U) : Option (Nat × List U) :=
  (bif decide (gi y0 2 < (↑a.length : Int)) && drift_Move_1 from_ until_ b forecast == (0 : Int) then guardP ((loopOk (law23_DriftGreater_l1_step from_ until_ by_ a b forecast y0) (law23_DriftGreater_l1_init from_ until_ by_ a b forecast y0))) ((bif (law23_DriftGreater_l1 from_ until_ by_ a b forecast y0).fst.beq 2 then some (1, []) else some (0, [.b (gb (law23_DriftGreater_l1 from_ until_ by_ a b forecast y0).snd 0), .b (gb (law23_DriftGreater_l1 from_ until_ by_ a b forecast y0).snd 1), .i (IntKind.i64.wrap (gi y0 2 + (1 : Int)))]))) else some (3, [.b (gb y0 0), .b (gb y0 1), .i (gi y0 2)]))
noncomputable def law23_DriftGreater_l0 (from_ until_ by_ : Int) (a b forecast : List (List Int)) : Nat × List U := loopGet (law23_DriftGreater_l0_step from_ until_ by_ a b forecast) (law23_DriftGreater_l0_init from_ until_ by_ a b forecast)
noncomputable def law23_DriftGreater_s4 (from_ until_ by_ : Int) (a b forecast : List (List Int)) (y2 : List U) : List Int :=
  [law23_of_1 (IntKind.i64.wrap ((a.getD (gi y2 0).toNat []).getD 0 (0 : Int) + by_)) (IntKind.i64.wrap ((a.getD (gi y2 0).toNat []).getD 1 (0 : Int) + by_)),
  (a.getD (gi y2 0).toNat []).getD 2 (0 : Int), (a.getD (gi y2 0).toNat []).getD 3 (0 : Int)]
noncomputable def law23_DriftGreater_s5 (from_ until_ by_ : Int) (a b forecast : List (List Int)) (y2 : List U) : List Int :=
  law23_of_0 (IntKind.i64.wrap ((a.getD (gi y2 0).toNat []).getD 0 (0 : Int) + by_)) (IntKind.i64.wrap ((a.getD (gi y2 0).toNat []).getD 1 (0 : Int) + by_)) ::
  (law23_DriftGreater_s4 from_ until_ by_ a b forecast y2)
noncomputable def law23_DriftGreater_l2_init (from_ until_ by_ : Int) (a b forecast : List (List Int)) : List U :=
  [.i ((0 : Int)), .r ([])]
noncomputable def law23_DriftGreater_l2_step (from_ until_ by_ : Int) (a b forecast : List (List Int)) (y2 : List U) : Option (Nat × List U) :=
  (bif decide (gi y2 0 < (↑a.length : Int)) then guardP (inR (gi y2 0) a) (guardP (inR (gi y2 0) a) (guardP (inR (gi y2 0) a) (guardP (inR (gi y2 0) a) (guardP (inR (gi y2 0) a) (guardP (inR (gi y2 0) a) (guardP (inR (gi y2 0) a) (guardP (inR (gi y2 0) a) (guardP (inR (gi y2 0) a) (guardP (inR (gi y2 0) a) (guardP (inR (gi y2 0) a) (guardP (fitsA 32 ((gr y2 1).length + [(law23_DriftGreater_s5 from_ until_ by_ a b forecast y2)].length)) (some (0, [.i (IntKind.i64.wrap (gi y2 0 + (1 : Int))), .r (gr y2 1 ++ [(law23_DriftGreater_s5 from_ until_ by_ a b forecast y2)])]))))))))))))) else some (2, [.i (gi y2 0), .r (gr y2 1)]))
noncomputable def law23_DriftGreater_l2 (from_ until_ by_ : Int) (a b forecast : List (List Int)) : Nat × List U := loopGet (law23_DriftGreater_l2_step from_ until_ by_ a b forecast) (law23_DriftGreater_l2_init from_ until_ by_ a b forecast)
noncomputable def law23_DriftGreater_s6 (from_ until_ by_ : Int) (a b forecast : List (List Int)) (y3 : List U) : Int :=
  law23_of_0 (IntKind.i64.wrap (((drift_Move_0 from_ until_ a forecast).getD (gi y3 0).toNat []).getD 0 (0 : Int) + by_))
  (IntKind.i64.wrap (((drift_Move_0 from_ until_ a forecast).getD (gi y3 0).toNat []).getD 1 (0 : Int) + by_))
noncomputable def law23_DriftGreater_s7 (from_ until_ by_ : Int) (a b forecast : List (List Int)) (y3 : List U) : Int :=
  law23_of_1 (IntKind.i64.wrap (((drift_Move_0 from_ until_ a forecast).getD (gi y3 0).toNat []).getD 0 (0 : Int) + by_))
  (IntKind.i64.wrap (((drift_Move_0 from_ until_ a forecast).getD (gi y3 0).toNat []).getD 1 (0 : Int) + by_))
noncomputable def law23_DriftGreater_s8 (from_ until_ by_ : Int) (a b forecast : List (List Int)) (y3 : List U) : List Int :=
  [(law23_DriftGreater_s6 from_ until_ by_ a b forecast y3), (law23_DriftGreater_s7 from_ until_ by_ a b forecast y3), ((drift_Move_0 from_ until_ a forecast).getD (gi y3 0).toNat []).getD 2 (0 : Int),
  ((drift_Move_0 from_ until_ a forecast).getD (gi y3 0).toNat []).getD 3 (0 : Int)]
noncomputable def law23_DriftGreater_l3_init (from_ until_ by_ : Int) (a b forecast : List (List Int)) : List U :=
  [.i ((0 : Int)), .r ([])]
noncomputable def law23_DriftGreater_l3_step (from_ until_ by_ : Int) (a b forecast : List (List Int)) (y3 : List U) : Option (Nat × List U) :=
  (bif decide (gi y3 0 < (↑(drift_Move_0 from_ until_ a forecast).length : Int)) then guardP (inR (gi y3 0) (drift_Move_0 from_ until_ a forecast)) (guardP (inR (gi y3 0) (drift_Move_0 from_ until_ a forecast)) (guardP (inR (gi y3 0) (drift_Move_0 from_ until_ a forecast)) (guardP (inR (gi y3 0) (drift_Move_0 from_ until_ a forecast)) (guardP (inR (gi y3 0) (drift_Move_0 from_ until_ a forecast)) (guardP (inR (gi y3 0) (drift_Move_0 from_ until_ a forecast)) (guardP (inR (gi y3 0) (drift_Move_0 from_ until_ a forecast)) (guardP (inR (gi y3 0) (drift_Move_0 from_ until_ a forecast)) (guardP (inR (gi y3 0) (drift_Move_0 from_ until_ a forecast)) (guardP (inR (gi y3 0) (drift_Move_0 from_ until_ a forecast)) (guardP (inR (gi y3 0) (drift_Move_0 from_ until_ a forecast)) (guardP (fitsA 32 ((gr y3 1).length + [(law23_DriftGreater_s8 from_ until_ by_ a b forecast y3)].length)) (some (0, [.i (IntKind.i64.wrap (gi y3 0 + (1 : Int))), .r (gr y3 1 ++ [(law23_DriftGreater_s8 from_ until_ by_ a b forecast y3)])]))))))))))))) else some (2, [.i (gi y3 0), .r (gr y3 1)]))
noncomputable def law23_DriftGreater_l3 (from_ until_ by_ : Int) (a b forecast : List (List Int)) : Nat × List U := loopGet (law23_DriftGreater_l3_step from_ until_ by_ a b forecast) (law23_DriftGreater_l3_init from_ until_ by_ a b forecast)
noncomputable def law23_DriftGreater_0 (from_ until_ by_ : Int) (a b forecast : List (List Int)) : Bool :=
  bif drift_Move_1 from_ until_ a forecast != (0 : Int) then law23_head_0 && (↑(drift_Move_0 from_ until_ a forecast).length : Int) == (0 : Int)
else
  bif (law23_DriftGreater_l0 from_ until_ by_ a b forecast).fst.beq 1 then false
  else
    bif decide (by_ < (0 : Int)) || decide (by_ > (3000000 : Int)) then gb (law23_DriftGreater_l0 from_ until_ by_ a b forecast).snd 1
    else
      bif drift_Move_1 from_ until_ (gr (law23_DriftGreater_l2 from_ until_ by_ a b forecast).snd 1) forecast != (0 : Int) then
        gb (law23_DriftGreater_l0 from_ until_ by_ a b forecast).snd 1 &&
          (drift_Move_1 from_ until_ (gr (law23_DriftGreater_l2 from_ until_ by_ a b forecast).snd 1) forecast == (3 : Int) ||
            drift_Move_1 from_ until_ (gr (law23_DriftGreater_l2 from_ until_ by_ a b forecast).snd 1) forecast == (1 : Int) && !drift_Valid_0 (gr (law23_DriftGreater_l2 from_ until_ by_ a b forecast).snd 1))
      else gb (law23_DriftGreater_l0 from_ until_ by_ a b forecast).snd 1 && ref23_Same_0 (drift_Move_0 from_ until_ (gr (law23_DriftGreater_l2 from_ until_ by_ a b forecast).snd 1) forecast) (gr (law23_DriftGreater_l3 from_ until_ by_ a b forecast).snd 1)
def law23_DriftGreater_pre (from_ until_ by_ : Int) (a b forecast : List (List Int)) : Prop :=
  ((law23_head_pre) ∧ ((drift_Move_pre from_ until_ a forecast) ∧ ((drift_Move_pre from_ until_ b forecast) ∧ (((drift_Move_1 from_ until_ a forecast != (0 : Int)) = false) → (((loopOk (law23_DriftGreater_l0_step from_ until_ by_ a b forecast) (law23_DriftGreater_l0_init from_ until_ by_ a b forecast))) ∧ (((law23_DriftGreater_l0 from_ until_ by_ a b forecast).fst.beq 1 = false) → (((decide (by_ < (0 : Int)) || decide (by_ > (3000000 : Int))) = false) → (((loopOk (law23_DriftGreater_l2_step from_ until_ by_ a b forecast) (law23_DriftGreater_l2_init from_ until_ by_ a b forecast))) ∧ ((drift_Move_pre from_ until_ (gr (law23_DriftGreater_l2 from_ until_ by_ a b forecast).snd 1) forecast) ∧ ((((drift_Move_1 from_ until_ (gr (law23_DriftGreater_l2 from_ until_ by_ a b forecast).snd 1) forecast != (0 : Int)) = true) → ((gb (law23_DriftGreater_l0 from_ until_ by_ a b forecast).snd 1 = true) → (((drift_Move_1 from_ until_ (gr (law23_DriftGreater_l2 from_ until_ by_ a b forecast).snd 1) forecast == (3 : Int)) = false) → (((drift_Move_1 from_ until_ (gr (law23_DriftGreater_l2 from_ until_ by_ a b forecast).snd 1) forecast == (1 : Int)) = true) → (drift_Valid_pre (gr (law23_DriftGreater_l2 from_ until_ by_ a b forecast).snd 1)))))) ∧ (((drift_Move_1 from_ until_ (gr (law23_DriftGreater_l2 from_ until_ by_ a b forecast).snd 1) forecast != (0 : Int)) = false) → (((loopOk (law23_DriftGreater_l3_step from_ until_ by_ a b forecast) (law23_DriftGreater_l3_init from_ until_ by_ a b forecast))) ∧ ((gb (law23_DriftGreater_l0 from_ until_ by_ a b forecast).snd 1 = true) → (ref23_Same_pre (drift_Move_0 from_ until_ (gr (law23_DriftGreater_l2 from_ until_ by_ a b forecast).snd 1) forecast) (gr (law23_DriftGreater_l3 from_ until_ by_ a b forecast).snd 1)))))))))))))))
end Go.Proofs.Ytddfnokjnafdpaa
