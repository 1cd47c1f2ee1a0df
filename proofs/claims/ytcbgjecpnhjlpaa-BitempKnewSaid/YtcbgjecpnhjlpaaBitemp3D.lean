/- Written by program (wip/sygen.py): what the Go functions compute, as the executor reads it off their code. -/
import Derived.Test.YtcbgjecpnhjlpaaSyD
import Derived.Test.YtcbgjecpnhjlpaaSySo
import Derived.Test.YtcbgjecpnhjlpaaBitemp1D
import Derived.Test.YtcbgjecpnhjlpaaBitempCD
import Derived.Test.YtcbgjecpnhjlpaaBitemp2D
set_option maxRecDepth 100000
set_option linter.unusedVariables false
namespace Go.Proofs.Ytcbgjecpnhjlpaa
open Go Go.Sy
noncomputable def law27_head_s0  : List (List Int) :=
  [[(1 : Int), (7 : Int), (20 : Int), (25 : Int), (60 : Int)], [(1 : Int), (5 : Int), (25 : Int), (30 : Int), (60 : Int)]]
noncomputable def law27_head_s1  : List Int :=
  [(law27_rows_0.getD (Int.toNat (0 : Int)) []).getD 2 (0 : Int), (law27_rows_0.getD (Int.toNat (0 : Int)) []).getD 3 (0 : Int),
  (law27_rows_0.getD (Int.toNat (0 : Int)) []).getD 4 (0 : Int)]
noncomputable def law27_head_s2  : List Int :=
  [(law27_rows_0.getD (Int.toNat (2 : Int)) []).getD 2 (0 : Int), (law27_rows_0.getD (Int.toNat (2 : Int)) []).getD 3 (0 : Int),
  (law27_rows_0.getD (Int.toNat (2 : Int)) []).getD 4 (0 : Int)]
noncomputable def law27_head_s3  : List (List Int) :=
  [(law27_rows_0.getD (Int.toNat (0 : Int)) []).getD 0 (0 : Int) :: (law27_rows_0.getD (Int.toNat (0 : Int)) []).getD 1 (0 : Int) :: (law27_head_s1),
  (law27_rows_0.getD (Int.toNat (2 : Int)) []).getD 0 (0 : Int) :: (law27_rows_0.getD (Int.toNat (2 : Int)) []).getD 1 (0 : Int) :: (law27_head_s2)]
noncomputable def law27_head_0  : Bool :=
  bif
    (bitemp_At_1 (1 : Int) (22 : Int) (39 : Int) law27_rows_0 == (0 : Int) && bitemp_At_1 (1 : Int) (22 : Int) (40 : Int) law27_rows_0 == (0 : Int) &&
                    bitemp_At_1 (1 : Int) (30 : Int) (50 : Int) law27_rows_0 == (4 : Int) &&
                  bitemp_At_0 (1 : Int) (22 : Int) (39 : Int) law27_rows_0 == (5 : Int) &&
                bitemp_At_0 (1 : Int) (22 : Int) (40 : Int) law27_rows_0 == (7 : Int) &&
              bitemp_History_1 (1 : Int) (60 : Int) law27_rows_0 == (0 : Int) &&
            bitemp_Changed_1 (1 : Int) (22 : Int) law27_rows_0 == (0 : Int) &&
          bitemp_Knew_1 (1 : Int) (20 : Int) (25 : Int) (7 : Int) law27_rows_0 == (0 : Int) &&
        ref27_Same_0 (bitemp_History_0 (1 : Int) (60 : Int) law27_rows_0) ([(1 : Int), (5 : Int), (10 : Int), (20 : Int), (60 : Int)] :: (law27_head_s0))) ==
      true then
  bif
      (ref27_Ints_0 (bitemp_Changed_0 (1 : Int) (22 : Int) law27_rows_0) [[(12 : Int)], [(40 : Int)]] && bitemp_Knew_0 (1 : Int) (20 : Int) (25 : Int) (7 : Int) law27_rows_0 == (40 : Int) &&
            bitemp_Say_1 (3 : Int) (0 : Int) (0 : Int) (1 : Int) (49 : Int) law27_rows_0 == (13 : Int) &&
          bitemp_Merge_1 (cutV law27_rows_0 (boundsA (↑3 : Int) (some (1 : Int)) (some (2 : Int))).snd.fst (boundsA (↑3 : Int) (some (1 : Int)) (some (2 : Int))).snd.snd)
              ((law27_head_s3)) ==
            (0 : Int)) ==
        true then
    bif
        ref27_Same_0
            (bitemp_Merge_0 (cutV law27_rows_0 (boundsA (↑3 : Int) (some (1 : Int)) (some (2 : Int))).snd.fst (boundsA (↑3 : Int) (some (1 : Int)) (some (2 : Int))).snd.snd)
              ((law27_head_s3)))
            law27_rows_0 ==
          true then
      bif bitemp_Valid_0 law27_rows_0 == true then !bitemp_Valid_0 [[(0 : Int), (0 : Int), (0 : Int), (0 : Int), (0 : Int)]] else false
    else false
  else false
else false
def law27_head_pre  : Prop :=
  ((bitemp_At_pre (1 : Int) (22 : Int) (39 : Int) law27_rows_0) ∧ ((bitemp_At_pre (1 : Int) (22 : Int) (40 : Int) law27_rows_0) ∧ ((bitemp_At_pre (1 : Int) (30 : Int) (50 : Int) law27_rows_0) ∧ ((bitemp_History_pre (1 : Int) (60 : Int) law27_rows_0) ∧ ((bitemp_Changed_pre (1 : Int) (22 : Int) law27_rows_0) ∧ ((bitemp_Knew_pre (1 : Int) (20 : Int) (25 : Int) (7 : Int) law27_rows_0) ∧ ((((bitemp_At_1 (1 : Int) (22 : Int) (39 : Int) law27_rows_0 == (0 : Int) && bitemp_At_1 (1 : Int) (22 : Int) (40 : Int) law27_rows_0 == (0 : Int) &&
              bitemp_At_1 (1 : Int) (30 : Int) (50 : Int) law27_rows_0 == (4 : Int) &&
            bitemp_At_0 (1 : Int) (22 : Int) (39 : Int) law27_rows_0 == (5 : Int) &&
          bitemp_At_0 (1 : Int) (22 : Int) (40 : Int) law27_rows_0 == (7 : Int) &&
        bitemp_History_1 (1 : Int) (60 : Int) law27_rows_0 == (0 : Int) &&
      bitemp_Changed_1 (1 : Int) (22 : Int) law27_rows_0 == (0 : Int) &&
    bitemp_Knew_1 (1 : Int) (20 : Int) (25 : Int) (7 : Int) law27_rows_0 == (0 : Int)) =
  true) → (ref27_Same_pre (bitemp_History_0 (1 : Int) (60 : Int) law27_rows_0) ([(1 : Int), (5 : Int), (10 : Int), (20 : Int), (60 : Int)] :: (law27_head_s0)))) ∧ (((((bitemp_At_1 (1 : Int) (22 : Int) (39 : Int) law27_rows_0 == (0 : Int) && bitemp_At_1 (1 : Int) (22 : Int) (40 : Int) law27_rows_0 == (0 : Int) &&
                  bitemp_At_1 (1 : Int) (30 : Int) (50 : Int) law27_rows_0 == (4 : Int) &&
                bitemp_At_0 (1 : Int) (22 : Int) (39 : Int) law27_rows_0 == (5 : Int) &&
              bitemp_At_0 (1 : Int) (22 : Int) (40 : Int) law27_rows_0 == (7 : Int) &&
            bitemp_History_1 (1 : Int) (60 : Int) law27_rows_0 == (0 : Int) &&
          bitemp_Changed_1 (1 : Int) (22 : Int) law27_rows_0 == (0 : Int) &&
        bitemp_Knew_1 (1 : Int) (20 : Int) (25 : Int) (7 : Int) law27_rows_0 == (0 : Int) &&
      ref27_Same_0 (bitemp_History_0 (1 : Int) (60 : Int) law27_rows_0) ([(1 : Int), (5 : Int), (10 : Int), (20 : Int), (60 : Int)] :: (law27_head_s0))) ==
    true) =
  true) → ((ref27_Ints_pre (bitemp_Changed_0 (1 : Int) (22 : Int) law27_rows_0) [[(12 : Int)], [(40 : Int)]]) ∧ ((bitemp_Say_pre (3 : Int) (0 : Int) (0 : Int) (1 : Int) (49 : Int) law27_rows_0) ∧ ((((0 : Int) ≤ (1 : Int)) ∧ (((1 : Int) ≤ (2 : Int)) ∧ ((2 : Int) ≤ (↑3 : Int)))) ∧ ((inR (0 : Int) law27_rows_0) ∧ ((inR (0 : Int) law27_rows_0) ∧ ((inR (2 : Int) law27_rows_0) ∧ ((inR (2 : Int) law27_rows_0) ∧ (((((↑(loN (boundsA (↑3 : Int) (some (1 : Int)) (some (2 : Int))).snd.fst) : Int) ≤ (boundsA (↑3 : Int) (some (1 : Int)) (some (2 : Int))).snd.snd) ∧ ((boundsA (↑3 : Int) (some (1 : Int)) (some (2 : Int))).snd.snd ≤ (↑3 : Int))) ∧ (bitemp_Merge_pre (cutV law27_rows_0 (boundsA (↑3 : Int) (some (1 : Int)) (some (2 : Int))).snd.fst (boundsA (↑3 : Int) (some (1 : Int)) (some (2 : Int))).snd.snd) ((law27_head_s3)))) ∧ ((((ref27_Ints_0 (bitemp_Changed_0 (1 : Int) (22 : Int) law27_rows_0) [[(12 : Int)], [(40 : Int)]] && bitemp_Knew_0 (1 : Int) (20 : Int) (25 : Int) (7 : Int) law27_rows_0 == (40 : Int) &&
        bitemp_Say_1 (3 : Int) (0 : Int) (0 : Int) (1 : Int) (49 : Int) law27_rows_0 == (13 : Int) &&
      bitemp_Merge_1 (cutV law27_rows_0 (boundsA (↑3 : Int) (some (1 : Int)) (some (2 : Int))).snd.fst (boundsA (↑3 : Int) (some (1 : Int)) (some (2 : Int))).snd.snd)
          ((law27_head_s3)) ==
        (0 : Int)) ==
    true) =
  true) → ((ref27_Same_pre
  (bitemp_Merge_0 (cutV law27_rows_0 (boundsA (↑3 : Int) (some (1 : Int)) (some (2 : Int))).snd.fst (boundsA (↑3 : Int) (some (1 : Int)) (some (2 : Int))).snd.snd)
    ((law27_head_s3)))
  law27_rows_0) ∧ (((ref27_Same_0
      (bitemp_Merge_0 (cutV law27_rows_0 (boundsA (↑3 : Int) (some (1 : Int)) (some (2 : Int))).snd.fst (boundsA (↑3 : Int) (some (1 : Int)) (some (2 : Int))).snd.snd)
        ((law27_head_s3)))
      law27_rows_0 ==
    true) =
  true) → ((bitemp_Valid_pre law27_rows_0) ∧ (((bitemp_Valid_0 law27_rows_0 == true) = true) → (bitemp_Valid_pre [[(0 : Int), (0 : Int), (0 : Int), (0 : Int), (0 : Int)]]))))))))))))))) ∧ ((((bitemp_At_1 (1 : Int) (22 : Int) (39 : Int) law27_rows_0 == (0 : Int) && bitemp_At_1 (1 : Int) (22 : Int) (40 : Int) law27_rows_0 == (0 : Int) &&
                  bitemp_At_1 (1 : Int) (30 : Int) (50 : Int) law27_rows_0 == (4 : Int) &&
                bitemp_At_0 (1 : Int) (22 : Int) (39 : Int) law27_rows_0 == (5 : Int) &&
              bitemp_At_0 (1 : Int) (22 : Int) (40 : Int) law27_rows_0 == (7 : Int) &&
            bitemp_History_1 (1 : Int) (60 : Int) law27_rows_0 == (0 : Int) &&
          bitemp_Changed_1 (1 : Int) (22 : Int) law27_rows_0 == (0 : Int) &&
        bitemp_Knew_1 (1 : Int) (20 : Int) (25 : Int) (7 : Int) law27_rows_0 == (0 : Int) &&
      ref27_Same_0 (bitemp_History_0 (1 : Int) (60 : Int) law27_rows_0) ([(1 : Int), (5 : Int), (10 : Int), (20 : Int), (60 : Int)] :: (law27_head_s0))) ==
    true) =
  false) → ((bitemp_Say_pre (3 : Int) (0 : Int) (0 : Int) (1 : Int) (49 : Int) law27_rows_0) ∧ ((((0 : Int) ≤ (1 : Int)) ∧ (((1 : Int) ≤ (2 : Int)) ∧ ((2 : Int) ≤ (↑3 : Int)))) ∧ ((inR (0 : Int) law27_rows_0) ∧ ((inR (0 : Int) law27_rows_0) ∧ ((inR (2 : Int) law27_rows_0) ∧ ((inR (2 : Int) law27_rows_0) ∧ ((((↑(loN (boundsA (↑3 : Int) (some (1 : Int)) (some (2 : Int))).snd.fst) : Int) ≤ (boundsA (↑3 : Int) (some (1 : Int)) (some (2 : Int))).snd.snd) ∧ ((boundsA (↑3 : Int) (some (1 : Int)) (some (2 : Int))).snd.snd ≤ (↑3 : Int))) ∧ (bitemp_Merge_pre (cutV law27_rows_0 (boundsA (↑3 : Int) (some (1 : Int)) (some (2 : Int))).snd.fst (boundsA (↑3 : Int) (some (1 : Int)) (some (2 : Int))).snd.snd) ((law27_head_s3)))))))))))))))))))
noncomputable def law27_BitempNever_0 (r_Item r_Value r_From r_Until r_Known item time known : Int) (list : List (List Int)) : Bool :=
  bif decide ((↑list.length : Int) > (60 : Int)) then law27_head_0
else
  bif bitemp_Say_1 r_Item r_Value r_From r_Until r_Known list != (0 : Int) || decide (known ≥ r_Known) then law27_head_0
  else
    law27_head_0 && bitemp_At_0 item time known list == bitemp_At_0 item time known (bitemp_Say_0 r_Item r_Value r_From r_Until r_Known list) &&
          bitemp_At_1 item time known list == bitemp_At_1 item time known (bitemp_Say_0 r_Item r_Value r_From r_Until r_Known list) &&
        ref27_Same_0 (bitemp_History_0 item known list) (bitemp_History_0 item known (bitemp_Say_0 r_Item r_Value r_From r_Until r_Known list)) &&
      bitemp_History_1 item known list == bitemp_History_1 item known (bitemp_Say_0 r_Item r_Value r_From r_Until r_Known list)
def law27_BitempNever_pre (r_Item r_Value r_From r_Until r_Known item time known : Int) (list : List (List Int)) : Prop :=
  ((law27_head_pre) ∧ ((decide ((↑list.length : Int) > (60 : Int)) = false) → ((bitemp_Say_pre r_Item r_Value r_From r_Until r_Known list) ∧ (((bitemp_Say_1 r_Item r_Value r_From r_Until r_Known list != (0 : Int) || decide (known ≥ r_Known)) = false) → ((bitemp_At_pre item time known list) ∧ ((bitemp_At_pre item time known (bitemp_Say_0 r_Item r_Value r_From r_Until r_Known list)) ∧ ((bitemp_History_pre item known list) ∧ ((bitemp_History_pre item known (bitemp_Say_0 r_Item r_Value r_From r_Until r_Known list)) ∧ (((law27_head_0 && bitemp_At_0 item time known list == bitemp_At_0 item time known (bitemp_Say_0 r_Item r_Value r_From r_Until r_Known list) &&
    bitemp_At_1 item time known list == bitemp_At_1 item time known (bitemp_Say_0 r_Item r_Value r_From r_Until r_Known list)) =
  true) → (ref27_Same_pre (bitemp_History_0 item known list) (bitemp_History_0 item known (bitemp_Say_0 r_Item r_Value r_From r_Until r_Known list))))))))))))
noncomputable def law27_BitempSaid_0 (r_Item r_Value r_From r_Until r_Known item time known : Int) (list : List (List Int)) : Bool :=
  bif decide ((↑list.length : Int) > (60 : Int)) then law27_head_0
else
  bif bitemp_Say_1 r_Item r_Value r_From r_Until r_Known list != (0 : Int) || decide (known < r_Known) then law27_head_0
  else
    bif bitemp_At_1 item time known list == (1 : Int) || bitemp_At_1 item time known (bitemp_Say_0 r_Item r_Value r_From r_Until r_Known list) == (1 : Int) then
      law27_head_0 && bitemp_At_1 item time known list == bitemp_At_1 item time known (bitemp_Say_0 r_Item r_Value r_From r_Until r_Known list)
    else
      bif item == r_Item && decide (r_From ≤ time) && decide (time < r_Until) then
        law27_head_0 && bitemp_At_1 item time known (bitemp_Say_0 r_Item r_Value r_From r_Until r_Known list) == (0 : Int) &&
          bitemp_At_0 item time known (bitemp_Say_0 r_Item r_Value r_From r_Until r_Known list) == r_Value
      else
        law27_head_0 && bitemp_At_0 item time known list == bitemp_At_0 item time known (bitemp_Say_0 r_Item r_Value r_From r_Until r_Known list) &&
          bitemp_At_1 item time known list == bitemp_At_1 item time known (bitemp_Say_0 r_Item r_Value r_From r_Until r_Known list)
def law27_BitempSaid_pre (r_Item r_Value r_From r_Until r_Known item time known : Int) (list : List (List Int)) : Prop :=
  ((law27_head_pre) ∧ ((decide ((↑list.length : Int) > (60 : Int)) = false) → ((bitemp_Say_pre r_Item r_Value r_From r_Until r_Known list) ∧ (((bitemp_Say_1 r_Item r_Value r_From r_Until r_Known list != (0 : Int) || decide (known < r_Known)) = false) → ((bitemp_At_pre item time known list) ∧ (bitemp_At_pre item time known (bitemp_Say_0 r_Item r_Value r_From r_Until r_Known list)))))))
noncomputable def law27_BitempHistory_l0_init (item time known : Int) (list : List (List Int)) : List U :=
  [.b (law27_head_0), .b (false), .i ((0 : Int))]
noncomputable def law27_BitempHistory_l0_step (item time known : Int) (list : List (List Int)) (y0 : List U) : Option (Nat × List U) :=
  (bif decide (gi y0 2 < (↑(bitemp_History_0 item known list).length : Int)) then guardP (inR (gi y0 2) (bitemp_History_0 item known list)) (guardP (inR (gi y0 2) (bitemp_History_0 item known list)) (guardP (((gb y0 0 && ((bitemp_History_0 item known list).getD (gi y0 2).toNat []).getD 0 (0 : Int) == item &&
      ((bitemp_History_0 item known list).getD (gi y0 2).toNat []).getD 4 (0 : Int) == known &&
    decide
      (((bitemp_History_0 item known list).getD (gi y0 2).toNat []).getD 2 (0 : Int) < ((bitemp_History_0 item known list).getD (gi y0 2).toNat []).getD 3 (0 : Int))) =
  true) → (((gi y0 2 == (0 : Int)) = false) → (inR (IntKind.i64.wrap (gi y0 2 - (1 : Int))) (bitemp_History_0 item known list)))) (guardP (((gb y0 0 && ((bitemp_History_0 item known list).getD (gi y0 2).toNat []).getD 0 (0 : Int) == item &&
      ((bitemp_History_0 item known list).getD (gi y0 2).toNat []).getD 4 (0 : Int) == known &&
    decide
      (((bitemp_History_0 item known list).getD (gi y0 2).toNat []).getD 2 (0 : Int) < ((bitemp_History_0 item known list).getD (gi y0 2).toNat []).getD 3 (0 : Int))) =
  true) → (((gi y0 2 == (0 : Int)) = false) → (inR (IntKind.i64.wrap (gi y0 2 - (1 : Int))) (bitemp_History_0 item known list)))) (guardP (((gb y0 0 && ((bitemp_History_0 item known list).getD (gi y0 2).toNat []).getD 0 (0 : Int) == item &&
      ((bitemp_History_0 item known list).getD (gi y0 2).toNat []).getD 4 (0 : Int) == known &&
    decide
      (((bitemp_History_0 item known list).getD (gi y0 2).toNat []).getD 2 (0 : Int) < ((bitemp_History_0 item known list).getD (gi y0 2).toNat []).getD 3 (0 : Int))) =
  true) → (((gi y0 2 == (0 : Int)) = false) → (inR (IntKind.i64.wrap (gi y0 2 - (1 : Int))) (bitemp_History_0 item known list)))) (guardP (((gb y0 0 && ((bitemp_History_0 item known list).getD (gi y0 2).toNat []).getD 0 (0 : Int) == item &&
      ((bitemp_History_0 item known list).getD (gi y0 2).toNat []).getD 4 (0 : Int) == known &&
    decide
      (((bitemp_History_0 item known list).getD (gi y0 2).toNat []).getD 2 (0 : Int) < ((bitemp_History_0 item known list).getD (gi y0 2).toNat []).getD 3 (0 : Int))) =
  true) → (((gi y0 2 == (0 : Int) ||
    decide
      (((bitemp_History_0 item known list).getD (IntKind.i64.wrap (gi y0 2 - (1 : Int))).toNat []).getD 3 (0 : Int) <
        ((bitemp_History_0 item known list).getD (gi y0 2).toNat []).getD 2 (0 : Int))) =
  false) → (inR (IntKind.i64.wrap (gi y0 2 - (1 : Int))) (bitemp_History_0 item known list)))) (guardP (((gb y0 0 && ((bitemp_History_0 item known list).getD (gi y0 2).toNat []).getD 0 (0 : Int) == item &&
      ((bitemp_History_0 item known list).getD (gi y0 2).toNat []).getD 4 (0 : Int) == known &&
    decide
      (((bitemp_History_0 item known list).getD (gi y0 2).toNat []).getD 2 (0 : Int) < ((bitemp_History_0 item known list).getD (gi y0 2).toNat []).getD 3 (0 : Int))) =
  true) → (((gi y0 2 == (0 : Int) ||
    decide
      (((bitemp_History_0 item known list).getD (IntKind.i64.wrap (gi y0 2 - (1 : Int))).toNat []).getD 3 (0 : Int) <
        ((bitemp_History_0 item known list).getD (gi y0 2).toNat []).getD 2 (0 : Int))) =
  false) → (inR (IntKind.i64.wrap (gi y0 2 - (1 : Int))) (bitemp_History_0 item known list)))) (guardP (((gb y0 0 && ((bitemp_History_0 item known list).getD (gi y0 2).toNat []).getD 0 (0 : Int) == item &&
      ((bitemp_History_0 item known list).getD (gi y0 2).toNat []).getD 4 (0 : Int) == known &&
    decide
      (((bitemp_History_0 item known list).getD (gi y0 2).toNat []).getD 2 (0 : Int) < ((bitemp_History_0 item known list).getD (gi y0 2).toNat []).getD 3 (0 : Int))) =
  true) → (((gi y0 2 == (0 : Int) ||
    decide
      (((bitemp_History_0 item known list).getD (IntKind.i64.wrap (gi y0 2 - (1 : Int))).toNat []).getD 3 (0 : Int) <
        ((bitemp_History_0 item known list).getD (gi y0 2).toNat []).getD 2 (0 : Int))) =
  false) → (inR (IntKind.i64.wrap (gi y0 2 - (1 : Int))) (bitemp_History_0 item known list)))) (guardP (((gb y0 0 && ((bitemp_History_0 item known list).getD (gi y0 2).toNat []).getD 0 (0 : Int) == item &&
      ((bitemp_History_0 item known list).getD (gi y0 2).toNat []).getD 4 (0 : Int) == known &&
    decide
      (((bitemp_History_0 item known list).getD (gi y0 2).toNat []).getD 2 (0 : Int) < ((bitemp_History_0 item known list).getD (gi y0 2).toNat []).getD 3 (0 : Int))) =
  true) → (((gi y0 2 == (0 : Int) ||
    decide
      (((bitemp_History_0 item known list).getD (IntKind.i64.wrap (gi y0 2 - (1 : Int))).toNat []).getD 3 (0 : Int) <
        ((bitemp_History_0 item known list).getD (gi y0 2).toNat []).getD 2 (0 : Int))) =
  false) → (((((bitemp_History_0 item known list).getD (IntKind.i64.wrap (gi y0 2 - (1 : Int))).toNat []).getD 3 (0 : Int) ==
    ((bitemp_History_0 item known list).getD (gi y0 2).toNat []).getD 2 (0 : Int)) =
  true) → (inR (IntKind.i64.wrap (gi y0 2 - (1 : Int))) (bitemp_History_0 item known list))))) (guardP (((gb y0 0 && ((bitemp_History_0 item known list).getD (gi y0 2).toNat []).getD 0 (0 : Int) == item &&
      ((bitemp_History_0 item known list).getD (gi y0 2).toNat []).getD 4 (0 : Int) == known &&
    decide
      (((bitemp_History_0 item known list).getD (gi y0 2).toNat []).getD 2 (0 : Int) < ((bitemp_History_0 item known list).getD (gi y0 2).toNat []).getD 3 (0 : Int))) =
  true) → (((gi y0 2 == (0 : Int) ||
    decide
      (((bitemp_History_0 item known list).getD (IntKind.i64.wrap (gi y0 2 - (1 : Int))).toNat []).getD 3 (0 : Int) <
        ((bitemp_History_0 item known list).getD (gi y0 2).toNat []).getD 2 (0 : Int))) =
  false) → (((((bitemp_History_0 item known list).getD (IntKind.i64.wrap (gi y0 2 - (1 : Int))).toNat []).getD 3 (0 : Int) ==
    ((bitemp_History_0 item known list).getD (gi y0 2).toNat []).getD 2 (0 : Int)) =
  true) → (inR (IntKind.i64.wrap (gi y0 2 - (1 : Int))) (bitemp_History_0 item known list))))) (guardP (((gb y0 0 && ((bitemp_History_0 item known list).getD (gi y0 2).toNat []).getD 0 (0 : Int) == item &&
      ((bitemp_History_0 item known list).getD (gi y0 2).toNat []).getD 4 (0 : Int) == known &&
    decide
      (((bitemp_History_0 item known list).getD (gi y0 2).toNat []).getD 2 (0 : Int) < ((bitemp_History_0 item known list).getD (gi y0 2).toNat []).getD 3 (0 : Int))) =
  true) → (((gi y0 2 == (0 : Int) ||
    decide
      (((bitemp_History_0 item known list).getD (IntKind.i64.wrap (gi y0 2 - (1 : Int))).toNat []).getD 3 (0 : Int) <
        ((bitemp_History_0 item known list).getD (gi y0 2).toNat []).getD 2 (0 : Int))) =
  false) → (((((bitemp_History_0 item known list).getD (IntKind.i64.wrap (gi y0 2 - (1 : Int))).toNat []).getD 3 (0 : Int) ==
    ((bitemp_History_0 item known list).getD (gi y0 2).toNat []).getD 2 (0 : Int)) =
  true) → (inR (IntKind.i64.wrap (gi y0 2 - (1 : Int))) (bitemp_History_0 item known list))))) ((bif decide (((bitemp_History_0 item known list).getD (gi y0 2).toNat []).getD 2 (0 : Int) ≤ time) &&
  decide (time < ((bitemp_History_0 item known list).getD (gi y0 2).toNat []).getD 3 (0 : Int)) then some (0, [.b (gb y0 0 && ((bitemp_History_0 item known list).getD (gi y0 2).toNat []).getD 0 (0 : Int) == item &&
          ((bitemp_History_0 item known list).getD (gi y0 2).toNat []).getD 4 (0 : Int) == known &&
        decide
          (((bitemp_History_0 item known list).getD (gi y0 2).toNat []).getD 2 (0 : Int) <
            ((bitemp_History_0 item known list).getD (gi y0 2).toNat []).getD 3 (0 : Int)) &&
      (gi y0 2 == (0 : Int) ||
          decide
            (((bitemp_History_0 item known list).getD (IntKind.i64.wrap (gi y0 2 - (1 : Int))).toNat []).getD 3 (0 : Int) <
              ((bitemp_History_0 item known list).getD (gi y0 2).toNat []).getD 2 (0 : Int)) ||
        ((bitemp_History_0 item known list).getD (IntKind.i64.wrap (gi y0 2 - (1 : Int))).toNat []).getD 3 (0 : Int) ==
            ((bitemp_History_0 item known list).getD (gi y0 2).toNat []).getD 2 (0 : Int) &&
          ((bitemp_History_0 item known list).getD (IntKind.i64.wrap (gi y0 2 - (1 : Int))).toNat []).getD 1 (0 : Int) !=
            ((bitemp_History_0 item known list).getD (gi y0 2).toNat []).getD 1 (0 : Int)) &&
    bitemp_At_1 item time known list == (0 : Int) &&
  ((bitemp_History_0 item known list).getD (gi y0 2).toNat []).getD 1 (0 : Int) == bitemp_At_0 item time known list), .b (true), .i (IntKind.i64.wrap (gi y0 2 + (1 : Int)))]) else some (0, [.b (gb y0 0 && ((bitemp_History_0 item known list).getD (gi y0 2).toNat []).getD 0 (0 : Int) == item &&
      ((bitemp_History_0 item known list).getD (gi y0 2).toNat []).getD 4 (0 : Int) == known &&
    decide
      (((bitemp_History_0 item known list).getD (gi y0 2).toNat []).getD 2 (0 : Int) < ((bitemp_History_0 item known list).getD (gi y0 2).toNat []).getD 3 (0 : Int)) &&
  (gi y0 2 == (0 : Int) ||
      decide
        (((bitemp_History_0 item known list).getD (IntKind.i64.wrap (gi y0 2 - (1 : Int))).toNat []).getD 3 (0 : Int) <
          ((bitemp_History_0 item known list).getD (gi y0 2).toNat []).getD 2 (0 : Int)) ||
    ((bitemp_History_0 item known list).getD (IntKind.i64.wrap (gi y0 2 - (1 : Int))).toNat []).getD 3 (0 : Int) ==
        ((bitemp_History_0 item known list).getD (gi y0 2).toNat []).getD 2 (0 : Int) &&
      ((bitemp_History_0 item known list).getD (IntKind.i64.wrap (gi y0 2 - (1 : Int))).toNat []).getD 1 (0 : Int) !=
        ((bitemp_History_0 item known list).getD (gi y0 2).toNat []).getD 1 (0 : Int))), .b (gb y0 1), .i (IntKind.i64.wrap (gi y0 2 + (1 : Int)))]))))))))))))) else some (3, [.b (gb y0 0), .b (gb y0 1), .i (gi y0 2)]))
noncomputable def law27_BitempHistory_l0 (item time known : Int) (list : List (List Int)) : Nat × List U := loopGet (law27_BitempHistory_l0_step item time known list) (law27_BitempHistory_l0_init item time known list)
noncomputable def law27_BitempHistory_0 (item time known : Int) (list : List (List Int)) : Bool :=
  bif decide ((↑list.length : Int) > (60 : Int)) then law27_head_0
else
  bif bitemp_History_1 item known list != (0 : Int) || bitemp_At_1 item time known list == (1 : Int) then
    law27_head_0 && (bitemp_History_1 item known list == (1 : Int) || bitemp_At_1 item time known list == (1 : Int))
  else
    gb (law27_BitempHistory_l0 item time known list).snd 0 && gb (law27_BitempHistory_l0 item time known list).snd 1 == (bitemp_At_1 item time known list == (0 : Int)) &&
      (decide ((↑(bitemp_History_0 item known list).length : Int) > (200 : Int)) ||
        bitemp_History_1 item known (bitemp_History_0 item known list) == (0 : Int) && ref27_Same_0 (bitemp_History_0 item known list) (bitemp_History_0 item known (bitemp_History_0 item known list)))
def law27_BitempHistory_pre (item time known : Int) (list : List (List Int)) : Prop :=
  ((law27_head_pre) ∧ ((decide ((↑list.length : Int) > (60 : Int)) = false) → ((bitemp_History_pre item known list) ∧ ((bitemp_At_pre item time known list) ∧ (((bitemp_History_1 item known list != (0 : Int) || bitemp_At_1 item time known list == (1 : Int)) = false) → (((loopOk (law27_BitempHistory_l0_step item time known list) (law27_BitempHistory_l0_init item time known list))) ∧ ((bitemp_History_pre item known (bitemp_History_0 item known list)) ∧ (((gb (law27_BitempHistory_l0 item time known list).snd 0 && gb (law27_BitempHistory_l0 item time known list).snd 1 == (bitemp_At_1 item time known list == (0 : Int))) = true) → ((decide ((↑(bitemp_History_0 item known list).length : Int) > (200 : Int)) = false) → (((bitemp_History_1 item known (bitemp_History_0 item known list) == (0 : Int)) = true) → (ref27_Same_pre (bitemp_History_0 item known list) (bitemp_History_0 item known (bitemp_History_0 item known list)))))))))))))
noncomputable def law27_BitempChanged_l0_init (item time one two : Int) (list : List (List Int)) : List U :=
  [.b (law27_head_0), .i ((0 : Int)), .i ((0 : Int)), .i ((0 : Int))]
noncomputable def law27_BitempChanged_l0_step (item time one two : Int) (list : List (List Int)) (y0 : List U) : Option (Nat × List U) :=
  (bif decide (gi y0 3 < (↑(bitemp_Changed_0 item time list).length : Int)) then guardP (inR (gi y0 3) (bitemp_Changed_0 item time list)) (guardP (inR (gi y0 3) (bitemp_Changed_0 item time list)) (guardP ((gb y0 0 = true) → (((gi y0 3 == (0 : Int)) = false) → (inR (IntKind.i64.wrap (gi y0 3 - (1 : Int))) (bitemp_Changed_0 item time list)))) (guardP ((gb y0 0 = true) → (((gi y0 3 == (0 : Int)) = false) → (inR (IntKind.i64.wrap (gi y0 3 - (1 : Int))) (bitemp_Changed_0 item time list)))) ((bif decide (((bitemp_Changed_0 item time list).getD (gi y0 3).toNat []).getD 0 (0 : Int) > one) &&
  decide (((bitemp_Changed_0 item time list).getD (gi y0 3).toNat []).getD 0 (0 : Int) ≤ two) then (bif decide (((bitemp_Changed_0 item time list).getD (gi y0 3).toNat []).getD 0 (0 : Int) ≤ one) then some (0, [.b (gb y0 0 &&
  (gi y0 3 == (0 : Int) ||
    decide
      (((bitemp_Changed_0 item time list).getD (IntKind.i64.wrap (gi y0 3 - (1 : Int))).toNat []).getD 0 (0 : Int) <
        ((bitemp_Changed_0 item time list).getD (gi y0 3).toNat []).getD 0 (0 : Int)))), .i (IntKind.i64.wrap (gi y0 1 + (1 : Int))), .i (IntKind.i64.wrap (gi y0 2 + (1 : Int))), .i (IntKind.i64.wrap (gi y0 3 + (1 : Int)))]) else some (0, [.b (gb y0 0 &&
  (gi y0 3 == (0 : Int) ||
    decide
      (((bitemp_Changed_0 item time list).getD (IntKind.i64.wrap (gi y0 3 - (1 : Int))).toNat []).getD 0 (0 : Int) <
        ((bitemp_Changed_0 item time list).getD (gi y0 3).toNat []).getD 0 (0 : Int)))), .i (IntKind.i64.wrap (gi y0 1 + (1 : Int))), .i (gi y0 2), .i (IntKind.i64.wrap (gi y0 3 + (1 : Int)))])) else (bif decide (((bitemp_Changed_0 item time list).getD (gi y0 3).toNat []).getD 0 (0 : Int) ≤ one) then some (0, [.b (gb y0 0 &&
  (gi y0 3 == (0 : Int) ||
    decide
      (((bitemp_Changed_0 item time list).getD (IntKind.i64.wrap (gi y0 3 - (1 : Int))).toNat []).getD 0 (0 : Int) <
        ((bitemp_Changed_0 item time list).getD (gi y0 3).toNat []).getD 0 (0 : Int)))), .i (gi y0 1), .i (IntKind.i64.wrap (gi y0 2 + (1 : Int))), .i (IntKind.i64.wrap (gi y0 3 + (1 : Int)))]) else some (0, [.b (gb y0 0 &&
  (gi y0 3 == (0 : Int) ||
    decide
      (((bitemp_Changed_0 item time list).getD (IntKind.i64.wrap (gi y0 3 - (1 : Int))).toNat []).getD 0 (0 : Int) <
        ((bitemp_Changed_0 item time list).getD (gi y0 3).toNat []).getD 0 (0 : Int)))), .i (gi y0 1), .i (gi y0 2), .i (IntKind.i64.wrap (gi y0 3 + (1 : Int)))]))))))) else some (5, [.b (gb y0 0), .i (gi y0 1), .i (gi y0 2), .i (gi y0 3)]))
noncomputable def law27_BitempChanged_l0 (item time one two : Int) (list : List (List Int)) : Nat × List U := loopGet (law27_BitempChanged_l0_step item time one two list) (law27_BitempChanged_l0_init item time one two list)
noncomputable def law27_BitempChanged_0 (item time one two : Int) (list : List (List Int)) : Bool :=
  bif decide ((↑list.length : Int) > (60 : Int)) || decide (one > two) then law27_head_0
else
  bif bitemp_Changed_1 item time list != (0 : Int) || bitemp_At_1 item time one list == (1 : Int) || bitemp_At_1 item time two list == (1 : Int) then
    law27_head_0 && (bitemp_Changed_1 item time list == (1 : Int) || bitemp_At_1 item time one list == (1 : Int) || bitemp_At_1 item time two list == (1 : Int))
  else
    gb (law27_BitempChanged_l0 item time one two list).snd 0 &&
          (gi (law27_BitempChanged_l0 item time one two list).snd 1 != (0 : Int) ||
            bitemp_At_0 item time one list == bitemp_At_0 item time two list && bitemp_At_1 item time one list == bitemp_At_1 item time two list) &&
        (gi (law27_BitempChanged_l0 item time one two list).snd 1 != (1 : Int) ||
          !(bitemp_At_0 item time one list == bitemp_At_0 item time two list && bitemp_At_1 item time one list == bitemp_At_1 item time two list)) &&
      (decide (gi (law27_BitempChanged_l0 item time one two list).snd 2 > (0 : Int)) || bitemp_At_1 item time one list == (4 : Int))
def law27_BitempChanged_pre (item time one two : Int) (list : List (List Int)) : Prop :=
  ((law27_head_pre) ∧ (((decide ((↑list.length : Int) > (60 : Int)) || decide (one > two)) = false) → ((bitemp_Changed_pre item time list) ∧ ((bitemp_At_pre item time one list) ∧ ((bitemp_At_pre item time two list) ∧ (((bitemp_Changed_1 item time list != (0 : Int) || bitemp_At_1 item time one list == (1 : Int) || bitemp_At_1 item time two list == (1 : Int)) = false) → ((loopOk (law27_BitempChanged_l0_step item time one two list) (law27_BitempChanged_l0_init item time one two list)))))))))
noncomputable def law27_BitempKnew_l0_init (item from_ until_ value time known : Int) (list : List (List Int)) : List U :=
  [.i (from_), .i ((0 : Int))]
noncomputable def law27_BitempKnew_l0_step (item from_ until_ value time known : Int) (list : List (List Int)) (y0 : List U) : Option (Nat × List U) :=
  (bif decide (gi y0 1 < (↑(bitemp_History_0 item known list).length : Int)) then guardP (inR (gi y0 1) (bitemp_History_0 item known list)) (guardP (inR (gi y0 1) (bitemp_History_0 item known list)) ((bif decide (((bitemp_History_0 item known list).getD (gi y0 1).toNat []).getD 2 (0 : Int) ≤ gi y0 0) &&
    decide (gi y0 0 < ((bitemp_History_0 item known list).getD (gi y0 1).toNat []).getD 3 (0 : Int)) &&
  ((bitemp_History_0 item known list).getD (gi y0 1).toNat []).getD 1 (0 : Int) == value then some (0, [.i (((bitemp_History_0 item known list).getD (gi y0 1).toNat []).getD 3 (0 : Int)), .i (IntKind.i64.wrap (gi y0 1 + (1 : Int)))]) else some (0, [.i (gi y0 0), .i (IntKind.i64.wrap (gi y0 1 + (1 : Int)))])))) else some (3, [.i (gi y0 0), .i (gi y0 1)]))
noncomputable def law27_BitempKnew_l0 (item from_ until_ value time known : Int) (list : List (List Int)) : Nat × List U := loopGet (law27_BitempKnew_l0_step item from_ until_ value time known list) (law27_BitempKnew_l0_init item from_ until_ value time known list)
noncomputable def law27_BitempKnew_l1_init (item from_ until_ value time known : Int) (list : List (List Int)) : List U :=
  [.i (from_), .i ((0 : Int))]
noncomputable def law27_BitempKnew_l1_step (item from_ until_ value time known : Int) (list : List (List Int)) (y1 : List U) : Option (Nat × List U) :=
  (bif decide (gi y1 1 < (↑(bitemp_History_0 item (bitemp_Knew_0 item from_ until_ value list) list).length : Int)) then guardP (inR (gi y1 1) (bitemp_History_0 item (bitemp_Knew_0 item from_ until_ value list) list)) (guardP (inR (gi y1 1) (bitemp_History_0 item (bitemp_Knew_0 item from_ until_ value list) list)) ((bif decide (((bitemp_History_0 item (bitemp_Knew_0 item from_ until_ value list) list).getD (gi y1 1).toNat []).getD 2 (0 : Int) ≤ gi y1 0) &&
    decide (gi y1 0 < ((bitemp_History_0 item (bitemp_Knew_0 item from_ until_ value list) list).getD (gi y1 1).toNat []).getD 3 (0 : Int)) &&
  ((bitemp_History_0 item (bitemp_Knew_0 item from_ until_ value list) list).getD (gi y1 1).toNat []).getD 1 (0 : Int) == value then some (0, [.i (((bitemp_History_0 item (bitemp_Knew_0 item from_ until_ value list) list).getD (gi y1 1).toNat []).getD 3 (0 : Int)), .i (IntKind.i64.wrap (gi y1 1 + (1 : Int)))]) else some (0, [.i (gi y1 0), .i (IntKind.i64.wrap (gi y1 1 + (1 : Int)))])))) else some (3, [.i (gi y1 0), .i (gi y1 1)]))
noncomputable def law27_BitempKnew_l1 (item from_ until_ value time known : Int) (list : List (List Int)) : Nat × List U := loopGet (law27_BitempKnew_l1_step item from_ until_ value time known list) (law27_BitempKnew_l1_init item from_ until_ value time known list)
noncomputable def law27_BitempKnew_l2_init (item from_ until_ value time known : Int) (list : List (List Int)) : List U :=
  [.i (from_), .i ((0 : Int))]
noncomputable def law27_BitempKnew_l2_step (item from_ until_ value time known : Int) (list : List (List Int)) (y2 : List U) : Option (Nat × List U) :=
  (bif decide (gi y2 1 < (↑(bitemp_History_0 item (IntKind.i64.wrap (bitemp_Knew_0 item from_ until_ value list - (1 : Int))) list).length : Int)) then guardP (inR (gi y2 1) (bitemp_History_0 item (IntKind.i64.wrap (bitemp_Knew_0 item from_ until_ value list - (1 : Int))) list)) (guardP (inR (gi y2 1) (bitemp_History_0 item (IntKind.i64.wrap (bitemp_Knew_0 item from_ until_ value list - (1 : Int))) list)) ((bif decide (((bitemp_History_0 item (IntKind.i64.wrap (bitemp_Knew_0 item from_ until_ value list - (1 : Int))) list).getD (gi y2 1).toNat []).getD 2 (0 : Int) ≤ gi y2 0) &&
    decide (gi y2 0 < ((bitemp_History_0 item (IntKind.i64.wrap (bitemp_Knew_0 item from_ until_ value list - (1 : Int))) list).getD (gi y2 1).toNat []).getD 3 (0 : Int)) &&
  ((bitemp_History_0 item (IntKind.i64.wrap (bitemp_Knew_0 item from_ until_ value list - (1 : Int))) list).getD (gi y2 1).toNat []).getD 1 (0 : Int) == value then some (0, [.i (((bitemp_History_0 item (IntKind.i64.wrap (bitemp_Knew_0 item from_ until_ value list - (1 : Int))) list).getD (gi y2 1).toNat []).getD 3 (0 : Int)), .i (IntKind.i64.wrap (gi y2 1 + (1 : Int)))]) else some (0, [.i (gi y2 0), .i (IntKind.i64.wrap (gi y2 1 + (1 : Int)))])))) else some (3, [.i (gi y2 0), .i (gi y2 1)]))
noncomputable def law27_BitempKnew_l2 (item from_ until_ value time known : Int) (list : List (List Int)) : Nat × List U := loopGet (law27_BitempKnew_l2_step item from_ until_ value time known list) (law27_BitempKnew_l2_init item from_ until_ value time known list)
noncomputable def law27_BitempKnew_0 (item from_ until_ value time known : Int) (list : List (List Int)) : Bool :=
  bif decide ((↑list.length : Int) > (60 : Int)) then law27_head_0
else
  bif bitemp_Knew_1 item from_ until_ value list == (1 : Int) then law27_head_0
  else
    bif bitemp_Knew_1 item from_ until_ value list != (0 : Int) then
      law27_head_0 && bitemp_Knew_1 item from_ until_ value list == (4 : Int) &&
        (decide (known < (0 : Int)) || decide (known > (10000000 : Int)) || !(bitemp_History_1 item known list == (0 : Int) && decide (gi (law27_BitempKnew_l0 item from_ until_ value time known list).snd 0 ≥ until_)))
    else
      bif decide (time < from_) || decide (time ≥ until_) then
        law27_head_0 && (bitemp_History_1 item (bitemp_Knew_0 item from_ until_ value list) list == (0 : Int) && decide (gi (law27_BitempKnew_l1 item from_ until_ value time known list).snd 0 ≥ until_)) &&
          (bitemp_Knew_0 item from_ until_ value list == (0 : Int) ||
            !(bitemp_History_1 item (IntKind.i64.wrap (bitemp_Knew_0 item from_ until_ value list - (1 : Int))) list == (0 : Int) && decide (gi (law27_BitempKnew_l2 item from_ until_ value time known list).snd 0 ≥ until_)))
      else
        law27_head_0 && (bitemp_History_1 item (bitemp_Knew_0 item from_ until_ value list) list == (0 : Int) && decide (gi (law27_BitempKnew_l1 item from_ until_ value time known list).snd 0 ≥ until_)) &&
              (bitemp_Knew_0 item from_ until_ value list == (0 : Int) ||
                !(bitemp_History_1 item (IntKind.i64.wrap (bitemp_Knew_0 item from_ until_ value list - (1 : Int))) list == (0 : Int) && decide (gi (law27_BitempKnew_l2 item from_ until_ value time known list).snd 0 ≥ until_))) &&
            bitemp_At_1 item time (bitemp_Knew_0 item from_ until_ value list) list == (0 : Int) &&
          bitemp_At_0 item time (bitemp_Knew_0 item from_ until_ value list) list == value
def law27_BitempKnew_pre (item from_ until_ value time known : Int) (list : List (List Int)) : Prop :=
  ((law27_head_pre) ∧ ((decide ((↑list.length : Int) > (60 : Int)) = false) → ((bitemp_Knew_pre item from_ until_ value list) ∧ (((bitemp_Knew_1 item from_ until_ value list == (1 : Int)) = false) → ((((bitemp_Knew_1 item from_ until_ value list != (0 : Int)) = true) → (((law27_head_0 && bitemp_Knew_1 item from_ until_ value list == (4 : Int)) = true) → (((decide (known < (0 : Int)) || decide (known > (10000000 : Int))) = false) → ((bitemp_History_pre item known list) ∧ ((loopOk (law27_BitempKnew_l0_step item from_ until_ value time known list) (law27_BitempKnew_l0_init item from_ until_ value time known list))))))) ∧ (((bitemp_Knew_1 item from_ until_ value list != (0 : Int)) = false) → (((law27_head_0 = true) → ((bitemp_History_pre item (bitemp_Knew_0 item from_ until_ value list) list) ∧ ((loopOk (law27_BitempKnew_l1_step item from_ until_ value time known list) (law27_BitempKnew_l1_init item from_ until_ value time known list))))) ∧ ((((law27_head_0 && (bitemp_History_1 item (bitemp_Knew_0 item from_ until_ value list) list == (0 : Int) && decide (gi (law27_BitempKnew_l1 item from_ until_ value time known list).snd 0 ≥ until_))) = true) → (((bitemp_Knew_0 item from_ until_ value list == (0 : Int)) = false) → ((bitemp_History_pre item (IntKind.i64.wrap (bitemp_Knew_0 item from_ until_ value list - (1 : Int))) list) ∧ ((loopOk (law27_BitempKnew_l2_step item from_ until_ value time known list) (law27_BitempKnew_l2_init item from_ until_ value time known list)))))) ∧ (((decide (time < from_) || decide (time ≥ until_)) = false) → (bitemp_At_pre item time (bitemp_Knew_0 item from_ until_ value list) list))))))))))
noncomputable def law27_BitempItems_s0 (item time known : Int) (list : List (List Int)) (y0 : List U) : List Int :=
  [(list.getD (gi y0 0).toNat []).getD 2 (0 : Int), (list.getD (gi y0 0).toNat []).getD 3 (0 : Int), (list.getD (gi y0 0).toNat []).getD 4 (0 : Int)]
noncomputable def law27_BitempItems_s1 (item time known : Int) (list : List (List Int)) (y0 : List U) : List (List Int) :=
  gr y0 1 ++ [(list.getD (gi y0 0).toNat []).getD 0 (0 : Int) :: (list.getD (gi y0 0).toNat []).getD 1 (0 : Int) :: (law27_BitempItems_s0 item time known list y0)]
noncomputable def law27_BitempItems_l0_init (item time known : Int) (list : List (List Int)) : List U :=
  [.i ((0 : Int)), .r ([])]
noncomputable def law27_BitempItems_l0_step (item time known : Int) (list : List (List Int)) (y0 : List U) : Option (Nat × List U) :=
  (bif decide (gi y0 0 < (↑list.length : Int)) then guardP (inR (gi y0 0) list) (guardP (inR (gi y0 0) list) ((bif (list.getD (gi y0 0).toNat []).getD 0 (0 : Int) == item then guardP (fitsA 40
  ((gr y0 1).length + [(list.getD (gi y0 0).toNat []).getD 0 (0 : Int) :: (list.getD (gi y0 0).toNat []).getD 1 (0 : Int) :: (law27_BitempItems_s0 item time known list y0)].length)) (some (0, [.i (IntKind.i64.wrap (gi y0 0 + (1 : Int))), .r ((law27_BitempItems_s1 item time known list y0))])) else some (0, [.i (IntKind.i64.wrap (gi y0 0 + (1 : Int))), .r (gr y0 1)])))) else some (3, [.i (gi y0 0), .r (gr y0 1)]))
noncomputable def law27_BitempItems_l0 (item time known : Int) (list : List (List Int)) : Nat × List U := loopGet (law27_BitempItems_l0_step item time known list) (law27_BitempItems_l0_init item time known list)
noncomputable def law27_BitempItems_0 (item time known : Int) (list : List (List Int)) : Bool :=
  bif decide ((↑list.length : Int) > (60 : Int)) || !bitemp_Valid_0 list then law27_head_0
else
  law27_head_0 && bitemp_At_0 item time known list == bitemp_At_0 item time known (gr (law27_BitempItems_l0 item time known list).snd 1) &&
            bitemp_At_1 item time known list == bitemp_At_1 item time known (gr (law27_BitempItems_l0 item time known list).snd 1) &&
          ref27_Same_0 (bitemp_History_0 item known list) (bitemp_History_0 item known (gr (law27_BitempItems_l0 item time known list).snd 1)) &&
        bitemp_History_1 item known list == bitemp_History_1 item known (gr (law27_BitempItems_l0 item time known list).snd 1) &&
      ref27_Ints_0 (bitemp_Changed_0 item time list) (bitemp_Changed_0 item time (gr (law27_BitempItems_l0 item time known list).snd 1)) &&
    bitemp_Changed_1 item time list == bitemp_Changed_1 item time (gr (law27_BitempItems_l0 item time known list).snd 1)
def law27_BitempItems_pre (item time known : Int) (list : List (List Int)) : Prop :=
  ((law27_head_pre) ∧ (((decide ((↑list.length : Int) > (60 : Int)) = false) → (bitemp_Valid_pre list)) ∧ (((decide ((↑list.length : Int) > (60 : Int)) || !bitemp_Valid_0 list) = false) → (((loopOk (law27_BitempItems_l0_step item time known list) (law27_BitempItems_l0_init item time known list))) ∧ ((bitemp_At_pre item time known list) ∧ ((bitemp_At_pre item time known (gr (law27_BitempItems_l0 item time known list).snd 1)) ∧ ((bitemp_History_pre item known list) ∧ ((bitemp_History_pre item known (gr (law27_BitempItems_l0 item time known list).snd 1)) ∧ ((bitemp_Changed_pre item time list) ∧ ((bitemp_Changed_pre item time (gr (law27_BitempItems_l0 item time known list).snd 1)) ∧ ((((law27_head_0 && bitemp_At_0 item time known list == bitemp_At_0 item time known (gr (law27_BitempItems_l0 item time known list).snd 1) &&
    bitemp_At_1 item time known list == bitemp_At_1 item time known (gr (law27_BitempItems_l0 item time known list).snd 1)) =
  true) → (ref27_Same_pre (bitemp_History_0 item known list) (bitemp_History_0 item known (gr (law27_BitempItems_l0 item time known list).snd 1)))) ∧ (((law27_head_0 && bitemp_At_0 item time known list == bitemp_At_0 item time known (gr (law27_BitempItems_l0 item time known list).snd 1) &&
        bitemp_At_1 item time known list == bitemp_At_1 item time known (gr (law27_BitempItems_l0 item time known list).snd 1) &&
      ref27_Same_0 (bitemp_History_0 item known list) (bitemp_History_0 item known (gr (law27_BitempItems_l0 item time known list).snd 1)) &&
    bitemp_History_1 item known list == bitemp_History_1 item known (gr (law27_BitempItems_l0 item time known list).snd 1)) =
  true) → (ref27_Ints_pre (bitemp_Changed_0 item time list) (bitemp_Changed_0 item time (gr (law27_BitempItems_l0 item time known list).snd 1)))))))))))))))
end Go.Proofs.Ytcbgjecpnhjlpaa
