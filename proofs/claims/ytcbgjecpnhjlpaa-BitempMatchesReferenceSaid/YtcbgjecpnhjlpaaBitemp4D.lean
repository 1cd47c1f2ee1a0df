/- Written by program (wip/sygen.py): what the Go functions compute, as the executor reads it off their code. -/
import Derived.Test.YtcbgjecpnhjlpaaSyD
import Derived.Test.YtcbgjecpnhjlpaaSySo
import Derived.Test.YtcbgjecpnhjlpaaBitemp1D
import Derived.Test.YtcbgjecpnhjlpaaBitempCD
import Derived.Test.YtcbgjecpnhjlpaaBitemp2D
set_option maxRecDepth 100000
set_option linter.unusedVariables false
namespace Go.Proofs.Ytcbgjecpnhjlpaa
open Go Go.Sy
noncomputable def law27_head_s0  : List (List Int) :=
  [[(1 : Int), (7 : Int), (20 : Int), (25 : Int), (60 : Int)], [(1 : Int), (5 : Int), (25 : Int), (30 : Int), (60 : Int)]]
noncomputable def law27_head_s1  : List Int :=
  [(law27_rows_0.getD (Int.toNat (0 : Int)) []).getD 2 (0 : Int), (law27_rows_0.getD (Int.toNat (0 : Int)) []).getD 3 (0 : Int),
  (law27_rows_0.getD (Int.toNat (0 : Int)) []).getD 4 (0 : Int)]
noncomputable def law27_head_s2  : List Int :=
  [(law27_rows_0.getD (Int.toNat (2 : Int)) []).getD 2 (0 : Int), (law27_rows_0.getD (Int.toNat (2 : Int)) []).getD 3 (0 : Int),
  (law27_rows_0.getD (Int.toNat (2 : Int)) []).getD 4 (0 : Int)]
noncomputable def law27_head_s3  : List (List Int) :=
  [(law27_rows_0.getD (Int.toNat (0 : Int)) []).getD 0 (0 : Int) :: (law27_rows_0.getD (Int.toNat (0 : Int)) []).getD 1 (0 : Int) :: (law27_head_s1),
  (law27_rows_0.getD (Int.toNat (2 : Int)) []).getD 0 (0 : Int) :: (law27_rows_0.getD (Int.toNat (2 : Int)) []).getD 1 (0 : Int) :: (law27_head_s2)]
noncomputable def law27_head_0  : Bool :=
  bif
    (bitemp_At_1 (1 : Int) (22 : Int) (39 : Int) law27_rows_0 == (0 : Int) && bitemp_At_1 (1 : Int) (22 : Int) (40 : Int) law27_rows_0 == (0 : Int) &&
                    bitemp_At_1 (1 : Int) (30 : Int) (50 : Int) law27_rows_0 == (4 : Int) &&
                  bitemp_At_0 (1 : Int) (22 : Int) (39 : Int) law27_rows_0 == (5 : Int) &&
                bitemp_At_0 (1 : Int) (22 : Int) (40 : Int) law27_rows_0 == (7 : Int) &&
              bitemp_History_1 (1 : Int) (60 : Int) law27_rows_0 == (0 : Int) &&
            bitemp_Changed_1 (1 : Int) (22 : Int) law27_rows_0 == (0 : Int) &&
          bitemp_Knew_1 (1 : Int) (20 : Int) (25 : Int) (7 : Int) law27_rows_0 == (0 : Int) &&
        ref27_Same_0 (bitemp_History_0 (1 : Int) (60 : Int) law27_rows_0) ([(1 : Int), (5 : Int), (10 : Int), (20 : Int), (60 : Int)] :: (law27_head_s0))) ==
      true then
  bif
      (ref27_Ints_0 (bitemp_Changed_0 (1 : Int) (22 : Int) law27_rows_0) [[(12 : Int)], [(40 : Int)]] && bitemp_Knew_0 (1 : Int) (20 : Int) (25 : Int) (7 : Int) law27_rows_0 == (40 : Int) &&
            bitemp_Say_1 (3 : Int) (0 : Int) (0 : Int) (1 : Int) (49 : Int) law27_rows_0 == (13 : Int) &&
          bitemp_Merge_1 (cutV law27_rows_0 (boundsA (↑3 : Int) (some (1 : Int)) (some (2 : Int))).snd.fst (boundsA (↑3 : Int) (some (1 : Int)) (some (2 : Int))).snd.snd)
              ((law27_head_s3)) ==
            (0 : Int)) ==
        true then
    bif
        ref27_Same_0
            (bitemp_Merge_0 (cutV law27_rows_0 (boundsA (↑3 : Int) (some (1 : Int)) (some (2 : Int))).snd.fst (boundsA (↑3 : Int) (some (1 : Int)) (some (2 : Int))).snd.snd)
              ((law27_head_s3)))
            law27_rows_0 ==
          true then
      bif bitemp_Valid_0 law27_rows_0 == true then !bitemp_Valid_0 [[(0 : Int), (0 : Int), (0 : Int), (0 : Int), (0 : Int)]] else false
    else false
  else false
else false
def law27_head_pre  : Prop :=
  ((bitemp_At_pre (1 : Int) (22 : Int) (39 : Int) law27_rows_0) ∧ ((bitemp_At_pre (1 : Int) (22 : Int) (40 : Int) law27_rows_0) ∧ ((bitemp_At_pre (1 : Int) (30 : Int) (50 : Int) law27_rows_0) ∧ ((bitemp_History_pre (1 : Int) (60 : Int) law27_rows_0) ∧ ((bitemp_Changed_pre (1 : Int) (22 : Int) law27_rows_0) ∧ ((bitemp_Knew_pre (1 : Int) (20 : Int) (25 : Int) (7 : Int) law27_rows_0) ∧ ((((bitemp_At_1 (1 : Int) (22 : Int) (39 : Int) law27_rows_0 == (0 : Int) && bitemp_At_1 (1 : Int) (22 : Int) (40 : Int) law27_rows_0 == (0 : Int) &&
              bitemp_At_1 (1 : Int) (30 : Int) (50 : Int) law27_rows_0 == (4 : Int) &&
            bitemp_At_0 (1 : Int) (22 : Int) (39 : Int) law27_rows_0 == (5 : Int) &&
          bitemp_At_0 (1 : Int) (22 : Int) (40 : Int) law27_rows_0 == (7 : Int) &&
        bitemp_History_1 (1 : Int) (60 : Int) law27_rows_0 == (0 : Int) &&
      bitemp_Changed_1 (1 : Int) (22 : Int) law27_rows_0 == (0 : Int) &&
    bitemp_Knew_1 (1 : Int) (20 : Int) (25 : Int) (7 : Int) law27_rows_0 == (0 : Int)) =
  true) → (ref27_Same_pre (bitemp_History_0 (1 : Int) (60 : Int) law27_rows_0) ([(1 : Int), (5 : Int), (10 : Int), (20 : Int), (60 : Int)] :: (law27_head_s0)))) ∧ (((((bitemp_At_1 (1 : Int) (22 : Int) (39 : Int) law27_rows_0 == (0 : Int) && bitemp_At_1 (1 : Int) (22 : Int) (40 : Int) law27_rows_0 == (0 : Int) &&
                  bitemp_At_1 (1 : Int) (30 : Int) (50 : Int) law27_rows_0 == (4 : Int) &&
                bitemp_At_0 (1 : Int) (22 : Int) (39 : Int) law27_rows_0 == (5 : Int) &&
              bitemp_At_0 (1 : Int) (22 : Int) (40 : Int) law27_rows_0 == (7 : Int) &&
            bitemp_History_1 (1 : Int) (60 : Int) law27_rows_0 == (0 : Int) &&
          bitemp_Changed_1 (1 : Int) (22 : Int) law27_rows_0 == (0 : Int) &&
        bitemp_Knew_1 (1 : Int) (20 : Int) (25 : Int) (7 : Int) law27_rows_0 == (0 : Int) &&
      ref27_Same_0 (bitemp_History_0 (1 : Int) (60 : Int) law27_rows_0) ([(1 : Int), (5 : Int), (10 : Int), (20 : Int), (60 : Int)] :: (law27_head_s0))) ==
    true) =
  true) → ((ref27_Ints_pre (bitemp_Changed_0 (1 : Int) (22 : Int) law27_rows_0) [[(12 : Int)], [(40 : Int)]]) ∧ ((bitemp_Say_pre (3 : Int) (0 : Int) (0 : Int) (1 : Int) (49 : Int) law27_rows_0) ∧ ((((0 : Int) ≤ (1 : Int)) ∧ (((1 : Int) ≤ (2 : Int)) ∧ ((2 : Int) ≤ (↑3 : Int)))) ∧ ((inR (0 : Int) law27_rows_0) ∧ ((inR (0 : Int) law27_rows_0) ∧ ((inR (2 : Int) law27_rows_0) ∧ ((inR (2 : Int) law27_rows_0) ∧ (((((↑(loN (boundsA (↑3 : Int) (some (1 : Int)) (some (2 : Int))).snd.fst) : Int) ≤ (boundsA (↑3 : Int) (some (1 : Int)) (some (2 : Int))).snd.snd) ∧ ((boundsA (↑3 : Int) (some (1 : Int)) (some (2 : Int))).snd.snd ≤ (↑3 : Int))) ∧ (bitemp_Merge_pre (cutV law27_rows_0 (boundsA (↑3 : Int) (some (1 : Int)) (some (2 : Int))).snd.fst (boundsA (↑3 : Int) (some (1 : Int)) (some (2 : Int))).snd.snd) ((law27_head_s3)))) ∧ ((((ref27_Ints_0 (bitemp_Changed_0 (1 : Int) (22 : Int) law27_rows_0) [[(12 : Int)], [(40 : Int)]] && bitemp_Knew_0 (1 : Int) (20 : Int) (25 : Int) (7 : Int) law27_rows_0 == (40 : Int) &&
        bitemp_Say_1 (3 : Int) (0 : Int) (0 : Int) (1 : Int) (49 : Int) law27_rows_0 == (13 : Int) &&
      bitemp_Merge_1 (cutV law27_rows_0 (boundsA (↑3 : Int) (some (1 : Int)) (some (2 : Int))).snd.fst (boundsA (↑3 : Int) (some (1 : Int)) (some (2 : Int))).snd.snd)
          ((law27_head_s3)) ==
        (0 : Int)) ==
    true) =
  true) → ((ref27_Same_pre
  (bitemp_Merge_0 (cutV law27_rows_0 (boundsA (↑3 : Int) (some (1 : Int)) (some (2 : Int))).snd.fst (boundsA (↑3 : Int) (some (1 : Int)) (some (2 : Int))).snd.snd)
    ((law27_head_s3)))
  law27_rows_0) ∧ (((ref27_Same_0
      (bitemp_Merge_0 (cutV law27_rows_0 (boundsA (↑3 : Int) (some (1 : Int)) (some (2 : Int))).snd.fst (boundsA (↑3 : Int) (some (1 : Int)) (some (2 : Int))).snd.snd)
        ((law27_head_s3)))
      law27_rows_0 ==
    true) =
  true) → ((bitemp_Valid_pre law27_rows_0) ∧ (((bitemp_Valid_0 law27_rows_0 == true) = true) → (bitemp_Valid_pre [[(0 : Int), (0 : Int), (0 : Int), (0 : Int), (0 : Int)]]))))))))))))))) ∧ ((((bitemp_At_1 (1 : Int) (22 : Int) (39 : Int) law27_rows_0 == (0 : Int) && bitemp_At_1 (1 : Int) (22 : Int) (40 : Int) law27_rows_0 == (0 : Int) &&
                  bitemp_At_1 (1 : Int) (30 : Int) (50 : Int) law27_rows_0 == (4 : Int) &&
                bitemp_At_0 (1 : Int) (22 : Int) (39 : Int) law27_rows_0 == (5 : Int) &&
              bitemp_At_0 (1 : Int) (22 : Int) (40 : Int) law27_rows_0 == (7 : Int) &&
            bitemp_History_1 (1 : Int) (60 : Int) law27_rows_0 == (0 : Int) &&
          bitemp_Changed_1 (1 : Int) (22 : Int) law27_rows_0 == (0 : Int) &&
        bitemp_Knew_1 (1 : Int) (20 : Int) (25 : Int) (7 : Int) law27_rows_0 == (0 : Int) &&
      ref27_Same_0 (bitemp_History_0 (1 : Int) (60 : Int) law27_rows_0) ([(1 : Int), (5 : Int), (10 : Int), (20 : Int), (60 : Int)] :: (law27_head_s0))) ==
    true) =
  false) → ((bitemp_Say_pre (3 : Int) (0 : Int) (0 : Int) (1 : Int) (49 : Int) law27_rows_0) ∧ ((((0 : Int) ≤ (1 : Int)) ∧ (((1 : Int) ≤ (2 : Int)) ∧ ((2 : Int) ≤ (↑3 : Int)))) ∧ ((inR (0 : Int) law27_rows_0) ∧ ((inR (0 : Int) law27_rows_0) ∧ ((inR (2 : Int) law27_rows_0) ∧ ((inR (2 : Int) law27_rows_0) ∧ ((((↑(loN (boundsA (↑3 : Int) (some (1 : Int)) (some (2 : Int))).snd.fst) : Int) ≤ (boundsA (↑3 : Int) (some (1 : Int)) (some (2 : Int))).snd.snd) ∧ ((boundsA (↑3 : Int) (some (1 : Int)) (some (2 : Int))).snd.snd ≤ (↑3 : Int))) ∧ (bitemp_Merge_pre (cutV law27_rows_0 (boundsA (↑3 : Int) (some (1 : Int)) (some (2 : Int))).snd.fst (boundsA (↑3 : Int) (some (1 : Int)) (some (2 : Int))).snd.snd) ((law27_head_s3)))))))))))))))))))
noncomputable def law27_BitempMerged_l0_init (item time known : Int) (a b : List (List Int)) : List U :=
  [.b (law27_head_0), .i ((0 : Int))]
noncomputable def law27_BitempMerged_l0_step (item time known : Int) (a b : List (List Int)) (y0 : List U) : Option (Nat × List U) :=
  (bif decide (gi y0 1 < (↑a.length : Int)) then guardP (inR (gi y0 1) a) (guardP (inR (gi y0 1) a) (guardP ((gb y0 0 = true) → (ref27_Has_pre ((a.getD (gi y0 1).toNat []).getD 0 (0 : Int)) ((a.getD (gi y0 1).toNat []).getD 1 (0 : Int))
  ((a.getD (gi y0 1).toNat []).getD 2 (0 : Int)) ((a.getD (gi y0 1).toNat []).getD 3 (0 : Int)) ((a.getD (gi y0 1).toNat []).getD 4 (0 : Int))
  (bitemp_Merge_0 a b))) (some (0, [.b (gb y0 0 &&
  ref27_Has_0 ((a.getD (gi y0 1).toNat []).getD 0 (0 : Int)) ((a.getD (gi y0 1).toNat []).getD 1 (0 : Int))
    ((a.getD (gi y0 1).toNat []).getD 2 (0 : Int)) ((a.getD (gi y0 1).toNat []).getD 3 (0 : Int)) ((a.getD (gi y0 1).toNat []).getD 4 (0 : Int))
    (bitemp_Merge_0 a b)), .i (IntKind.i64.wrap (gi y0 1 + (1 : Int)))])))) else some (2, [.b (gb y0 0), .i (gi y0 1)]))
noncomputable def law27_BitempMerged_l0 (item time known : Int) (a b : List (List Int)) : Nat × List U := loopGet (law27_BitempMerged_l0_step item time known a b) (law27_BitempMerged_l0_init item time known a b)
noncomputable def law27_BitempMerged_l1_init (item time known : Int) (a b : List (List Int)) : List U :=
  [.b (gb (law27_BitempMerged_l0 item time known a b).snd 0), .i ((0 : Int))]
noncomputable def law27_BitempMerged_l1_step (item time known : Int) (a b : List (List Int)) (y1 : List U) : Option (Nat × List U) :=
  (bif decide (gi y1 1 < (↑b.length : Int)) then guardP (inR (gi y1 1) b) (guardP (inR (gi y1 1) b) (guardP ((gb y1 0 = true) → (ref27_Has_pre ((b.getD (gi y1 1).toNat []).getD 0 (0 : Int)) ((b.getD (gi y1 1).toNat []).getD 1 (0 : Int))
  ((b.getD (gi y1 1).toNat []).getD 2 (0 : Int)) ((b.getD (gi y1 1).toNat []).getD 3 (0 : Int)) ((b.getD (gi y1 1).toNat []).getD 4 (0 : Int))
  (bitemp_Merge_0 a b))) (some (0, [.b (gb y1 0 &&
  ref27_Has_0 ((b.getD (gi y1 1).toNat []).getD 0 (0 : Int)) ((b.getD (gi y1 1).toNat []).getD 1 (0 : Int))
    ((b.getD (gi y1 1).toNat []).getD 2 (0 : Int)) ((b.getD (gi y1 1).toNat []).getD 3 (0 : Int)) ((b.getD (gi y1 1).toNat []).getD 4 (0 : Int))
    (bitemp_Merge_0 a b)), .i (IntKind.i64.wrap (gi y1 1 + (1 : Int)))])))) else some (2, [.b (gb y1 0), .i (gi y1 1)]))
noncomputable def law27_BitempMerged_l1 (item time known : Int) (a b : List (List Int)) : Nat × List U := loopGet (law27_BitempMerged_l1_step item time known a b) (law27_BitempMerged_l1_init item time known a b)
noncomputable def law27_BitempMerged_l2_init (item time known : Int) (a b : List (List Int)) : List U :=
  [.b (gb (law27_BitempMerged_l1 item time known a b).snd 0), .i ((0 : Int))]
noncomputable def law27_BitempMerged_l2_step (item time known : Int) (a b : List (List Int)) (y2 : List U) : Option (Nat × List U) :=
  (bif decide (gi y2 1 < (↑(bitemp_Merge_0 a b).length : Int)) then guardP (inR (gi y2 1) (bitemp_Merge_0 a b)) (guardP (inR (gi y2 1) (bitemp_Merge_0 a b)) (guardP ((gb y2 0 = true) → (ref27_Has_pre (((bitemp_Merge_0 a b).getD (gi y2 1).toNat []).getD 0 (0 : Int)) (((bitemp_Merge_0 a b).getD (gi y2 1).toNat []).getD 1 (0 : Int))
  (((bitemp_Merge_0 a b).getD (gi y2 1).toNat []).getD 2 (0 : Int)) (((bitemp_Merge_0 a b).getD (gi y2 1).toNat []).getD 3 (0 : Int))
  (((bitemp_Merge_0 a b).getD (gi y2 1).toNat []).getD 4 (0 : Int)) a)) (guardP ((gb y2 0 = true) → ((ref27_Has_0 (((bitemp_Merge_0 a b).getD (gi y2 1).toNat []).getD 0 (0 : Int)) (((bitemp_Merge_0 a b).getD (gi y2 1).toNat []).getD 1 (0 : Int))
    (((bitemp_Merge_0 a b).getD (gi y2 1).toNat []).getD 2 (0 : Int)) (((bitemp_Merge_0 a b).getD (gi y2 1).toNat []).getD 3 (0 : Int))
    (((bitemp_Merge_0 a b).getD (gi y2 1).toNat []).getD 4 (0 : Int)) a =
  false) → (ref27_Has_pre (((bitemp_Merge_0 a b).getD (gi y2 1).toNat []).getD 0 (0 : Int)) (((bitemp_Merge_0 a b).getD (gi y2 1).toNat []).getD 1 (0 : Int))
  (((bitemp_Merge_0 a b).getD (gi y2 1).toNat []).getD 2 (0 : Int)) (((bitemp_Merge_0 a b).getD (gi y2 1).toNat []).getD 3 (0 : Int))
  (((bitemp_Merge_0 a b).getD (gi y2 1).toNat []).getD 4 (0 : Int)) b))) (some (0, [.b (gb y2 0 &&
  (ref27_Has_0 (((bitemp_Merge_0 a b).getD (gi y2 1).toNat []).getD 0 (0 : Int)) (((bitemp_Merge_0 a b).getD (gi y2 1).toNat []).getD 1 (0 : Int))
      (((bitemp_Merge_0 a b).getD (gi y2 1).toNat []).getD 2 (0 : Int)) (((bitemp_Merge_0 a b).getD (gi y2 1).toNat []).getD 3 (0 : Int))
      (((bitemp_Merge_0 a b).getD (gi y2 1).toNat []).getD 4 (0 : Int)) a ||
    ref27_Has_0 (((bitemp_Merge_0 a b).getD (gi y2 1).toNat []).getD 0 (0 : Int)) (((bitemp_Merge_0 a b).getD (gi y2 1).toNat []).getD 1 (0 : Int))
      (((bitemp_Merge_0 a b).getD (gi y2 1).toNat []).getD 2 (0 : Int)) (((bitemp_Merge_0 a b).getD (gi y2 1).toNat []).getD 3 (0 : Int))
      (((bitemp_Merge_0 a b).getD (gi y2 1).toNat []).getD 4 (0 : Int)) b)), .i (IntKind.i64.wrap (gi y2 1 + (1 : Int)))]))))) else some (2, [.b (gb y2 0), .i (gi y2 1)]))
noncomputable def law27_BitempMerged_l2 (item time known : Int) (a b : List (List Int)) : Nat × List U := loopGet (law27_BitempMerged_l2_step item time known a b) (law27_BitempMerged_l2_init item time known a b)
noncomputable def law27_BitempMerged_0 (item time known : Int) (a b : List (List Int)) : Bool :=
  bif decide ((↑a.length : Int) > (60 : Int)) || decide ((↑b.length : Int) > (60 : Int)) then law27_head_0
else
  bif bitemp_Merge_1 a b != (0 : Int) then
    law27_head_0 && bitemp_Merge_1 a b == bitemp_Merge_1 b a && (bitemp_Merge_1 a b == (1 : Int) || bitemp_Merge_1 a b == (18 : Int) || bitemp_Merge_1 a b == (2 : Int))
  else
    gb (law27_BitempMerged_l2 item time known a b).snd 0 && bitemp_Merge_1 b a == (0 : Int) && bitemp_Valid_0 (bitemp_Merge_0 a b) &&
            bitemp_At_0 item time known (bitemp_Merge_0 a b) == bitemp_At_0 item time known (bitemp_Merge_0 b a) &&
          bitemp_At_1 item time known (bitemp_Merge_0 a b) == bitemp_At_1 item time known (bitemp_Merge_0 b a) &&
        (bitemp_At_1 item time known (bitemp_Merge_0 a b) != (0 : Int) ||
            bitemp_At_1 item time known a == (0 : Int) && bitemp_At_0 item time known (bitemp_Merge_0 a b) == bitemp_At_0 item time known a ||
          bitemp_At_1 item time known b == (0 : Int) && bitemp_At_0 item time known (bitemp_Merge_0 a b) == bitemp_At_0 item time known b) &&
      (bitemp_At_1 item time known (bitemp_Merge_0 a b) != (4 : Int) ||
        bitemp_At_1 item time known a == bitemp_At_1 item time known (bitemp_Merge_0 a b) && bitemp_At_1 item time known b == bitemp_At_1 item time known (bitemp_Merge_0 a b))
def law27_BitempMerged_pre (item time known : Int) (a b : List (List Int)) : Prop :=
  ((law27_head_pre) ∧ (((decide ((↑a.length : Int) > (60 : Int)) || decide ((↑b.length : Int) > (60 : Int))) = false) → ((bitemp_Merge_pre a b) ∧ ((bitemp_Merge_pre b a) ∧ (((bitemp_Merge_1 a b != (0 : Int)) = false) → (((loopOk (law27_BitempMerged_l0_step item time known a b) (law27_BitempMerged_l0_init item time known a b))) ∧ (((loopOk (law27_BitempMerged_l1_step item time known a b) (law27_BitempMerged_l1_init item time known a b))) ∧ (((loopOk (law27_BitempMerged_l2_step item time known a b) (law27_BitempMerged_l2_init item time known a b))) ∧ ((bitemp_At_pre item time known (bitemp_Merge_0 a b)) ∧ ((bitemp_At_pre item time known (bitemp_Merge_0 b a)) ∧ ((bitemp_At_pre item time known a) ∧ ((bitemp_At_pre item time known b) ∧ (((gb (law27_BitempMerged_l2 item time known a b).snd 0 && bitemp_Merge_1 b a == (0 : Int)) = true) → (bitemp_Valid_pre (bitemp_Merge_0 a b)))))))))))))))
end Go.Proofs.Ytcbgjecpnhjlpaa
