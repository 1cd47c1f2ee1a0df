/- Written by program (wip/sygen.py): what the Go functions compute, as the executor reads it off their code. -/
import Derived.Test.YtnijhjpaplihbaaDesk3D
import Derived.Test.YtnijhjpaplihbaaDeskS
set_option maxRecDepth 100000
set_option linter.unusedVariables false
namespace Go.Proofs.Ytnijhjpaplihbaa
open Go Go.Sy
noncomputable def law25_head_s0  : List Int :=
  [law25_box_0 (0 : Int) (10 : Int) (0 : Int) (10 : Int), law25_box_1 (0 : Int) (10 : Int) (0 : Int) (10 : Int), law25_box_2 (0 : Int) (10 : Int) (0 : Int) (10 : Int),
  law25_box_3 (0 : Int) (10 : Int) (0 : Int) (10 : Int)]
noncomputable def law25_head_s1  : Int :=
  law25_seen_0 (1 : Int) (law25_box_0 (2 : Int) (3 : Int) (2 : Int) (3 : Int)) (law25_box_1 (2 : Int) (3 : Int) (2 : Int) (3 : Int)) (law25_box_2 (2 : Int) (3 : Int) (2 : Int) (3 : Int))
  (law25_box_3 (2 : Int) (3 : Int) (2 : Int) (3 : Int))
noncomputable def law25_head_s2  : Int :=
  law25_seen_1 (1 : Int) (law25_box_0 (2 : Int) (3 : Int) (2 : Int) (3 : Int)) (law25_box_1 (2 : Int) (3 : Int) (2 : Int) (3 : Int)) (law25_box_2 (2 : Int) (3 : Int) (2 : Int) (3 : Int))
  (law25_box_3 (2 : Int) (3 : Int) (2 : Int) (3 : Int))
noncomputable def law25_head_s3  : Int :=
  law25_seen_2 (1 : Int) (law25_box_0 (2 : Int) (3 : Int) (2 : Int) (3 : Int)) (law25_box_1 (2 : Int) (3 : Int) (2 : Int) (3 : Int)) (law25_box_2 (2 : Int) (3 : Int) (2 : Int) (3 : Int))
  (law25_box_3 (2 : Int) (3 : Int) (2 : Int) (3 : Int))
noncomputable def law25_head_s4  : Int :=
  law25_seen_3 (1 : Int) (law25_box_0 (2 : Int) (3 : Int) (2 : Int) (3 : Int)) (law25_box_1 (2 : Int) (3 : Int) (2 : Int) (3 : Int)) (law25_box_2 (2 : Int) (3 : Int) (2 : Int) (3 : Int))
  (law25_box_3 (2 : Int) (3 : Int) (2 : Int) (3 : Int))
noncomputable def law25_head_s5  : Int :=
  law25_seen_4 (1 : Int) (law25_box_0 (2 : Int) (3 : Int) (2 : Int) (3 : Int)) (law25_box_1 (2 : Int) (3 : Int) (2 : Int) (3 : Int)) (law25_box_2 (2 : Int) (3 : Int) (2 : Int) (3 : Int))
  (law25_box_3 (2 : Int) (3 : Int) (2 : Int) (3 : Int))
noncomputable def law25_head_s6  : List Int :=
  [(1 : Int), (law25_head_s2), (law25_head_s3), (law25_head_s4), (law25_head_s5), (1 : Int), (0 : Int), (0 : Int), (1 : Int), (0 : Int)]
noncomputable def law25_head_s7  : Int :=
  law25_seen_0 (2 : Int) (law25_box_0 (3 : Int) (9 : Int) (3 : Int) (3 : Int)) (law25_box_1 (3 : Int) (9 : Int) (3 : Int) (3 : Int)) (law25_box_2 (3 : Int) (9 : Int) (3 : Int) (3 : Int))
  (law25_box_3 (3 : Int) (9 : Int) (3 : Int) (3 : Int))
noncomputable def law25_head_s8  : Int :=
  law25_seen_1 (2 : Int) (law25_box_0 (3 : Int) (9 : Int) (3 : Int) (3 : Int)) (law25_box_1 (3 : Int) (9 : Int) (3 : Int) (3 : Int)) (law25_box_2 (3 : Int) (9 : Int) (3 : Int) (3 : Int))
  (law25_box_3 (3 : Int) (9 : Int) (3 : Int) (3 : Int))
noncomputable def law25_head_s9  : Int :=
  law25_seen_2 (2 : Int) (law25_box_0 (3 : Int) (9 : Int) (3 : Int) (3 : Int)) (law25_box_1 (3 : Int) (9 : Int) (3 : Int) (3 : Int)) (law25_box_2 (3 : Int) (9 : Int) (3 : Int) (3 : Int))
  (law25_box_3 (3 : Int) (9 : Int) (3 : Int) (3 : Int))
noncomputable def law25_head_s10  : Int :=
  law25_seen_3 (2 : Int) (law25_box_0 (3 : Int) (9 : Int) (3 : Int) (3 : Int)) (law25_box_1 (3 : Int) (9 : Int) (3 : Int) (3 : Int)) (law25_box_2 (3 : Int) (9 : Int) (3 : Int) (3 : Int))
  (law25_box_3 (3 : Int) (9 : Int) (3 : Int) (3 : Int))
noncomputable def law25_head_s11  : Int :=
  law25_seen_4 (2 : Int) (law25_box_0 (3 : Int) (9 : Int) (3 : Int) (3 : Int)) (law25_box_1 (3 : Int) (9 : Int) (3 : Int) (3 : Int)) (law25_box_2 (3 : Int) (9 : Int) (3 : Int) (3 : Int))
  (law25_box_3 (3 : Int) (9 : Int) (3 : Int) (3 : Int))
noncomputable def law25_head_s12  : List Int :=
  [(1 : Int), (law25_head_s8), (law25_head_s9), (law25_head_s10), (law25_head_s11), (1 : Int), (0 : Int), (0 : Int), (1 : Int), (0 : Int)]
noncomputable def law25_head_s13  : Int :=
  law25_seen_0 (3 : Int) (law25_box_0 (20 : Int) (30 : Int) (0 : Int) (10 : Int)) (law25_box_1 (20 : Int) (30 : Int) (0 : Int) (10 : Int)) (law25_box_2 (20 : Int) (30 : Int) (0 : Int) (10 : Int))
  (law25_box_3 (20 : Int) (30 : Int) (0 : Int) (10 : Int))
noncomputable def law25_head_s14  : Int :=
  law25_seen_1 (3 : Int) (law25_box_0 (20 : Int) (30 : Int) (0 : Int) (10 : Int)) (law25_box_1 (20 : Int) (30 : Int) (0 : Int) (10 : Int)) (law25_box_2 (20 : Int) (30 : Int) (0 : Int) (10 : Int))
  (law25_box_3 (20 : Int) (30 : Int) (0 : Int) (10 : Int))
noncomputable def law25_head_s15  : Int :=
  law25_seen_2 (3 : Int) (law25_box_0 (20 : Int) (30 : Int) (0 : Int) (10 : Int)) (law25_box_1 (20 : Int) (30 : Int) (0 : Int) (10 : Int)) (law25_box_2 (20 : Int) (30 : Int) (0 : Int) (10 : Int))
  (law25_box_3 (20 : Int) (30 : Int) (0 : Int) (10 : Int))
noncomputable def law25_head_s16  : Int :=
  law25_seen_3 (3 : Int) (law25_box_0 (20 : Int) (30 : Int) (0 : Int) (10 : Int)) (law25_box_1 (20 : Int) (30 : Int) (0 : Int) (10 : Int)) (law25_box_2 (20 : Int) (30 : Int) (0 : Int) (10 : Int))
  (law25_box_3 (20 : Int) (30 : Int) (0 : Int) (10 : Int))
noncomputable def law25_head_s17  : Int :=
  law25_seen_4 (3 : Int) (law25_box_0 (20 : Int) (30 : Int) (0 : Int) (10 : Int)) (law25_box_1 (20 : Int) (30 : Int) (0 : Int) (10 : Int)) (law25_box_2 (20 : Int) (30 : Int) (0 : Int) (10 : Int))
  (law25_box_3 (20 : Int) (30 : Int) (0 : Int) (10 : Int))
noncomputable def law25_head_s18  : List Int :=
  [(1 : Int), (law25_head_s14), (law25_head_s15), (law25_head_s16), (law25_head_s17), (1 : Int), (0 : Int), (0 : Int), (1 : Int), (0 : Int)]
noncomputable def law25_head_s19  : List (List Int) :=
  [(1 : Int) :: (law25_head_s1) :: (5 : Int) :: (law25_head_s6), (1 : Int) :: (law25_head_s7) :: (5 : Int) :: (law25_head_s12),
  (1 : Int) :: (law25_head_s13) :: (5 : Int) :: (law25_head_s18)]
noncomputable def law25_head_s20  : List (List Int) :=
  [[(3 : Int), (3 : Int)], [(3 : Int), (3 : Int)], [(3 : Int), (3 : Int)], [(3 : Int), (3 : Int)]]
noncomputable def law25_head_s21  : Int :=
  desk_Follow_1 (0 : Int) [(law25_head_s0)] [[(0 : Int), (100 : Int), (0 : Int), (0 : Int), (0 : Int), (0 : Int)]]
  (cutV ((law25_head_s19)) (boundsA (↑3 : Int) none (some (2 : Int))).snd.fst (boundsA (↑3 : Int) none (some (2 : Int))).snd.snd) []
noncomputable def law25_head_s22  : Int :=
  desk_Follow_1 (0 : Int) [(law25_head_s0)] [[(0 : Int), (100 : Int), (0 : Int), (0 : Int), (0 : Int), (0 : Int)]] ((law25_head_s19)) []
noncomputable def law25_head_s23  : Int :=
  desk_Explain_2 (0 : Int) (1 : Int) [(law25_head_s0)] [[(0 : Int), (100 : Int), (0 : Int), (0 : Int), (0 : Int), (0 : Int)]] ((law25_head_s19))
noncomputable def law25_head_s24  : Int :=
  desk_Explain_2 (0 : Int) (0 : Int) [(law25_head_s0)] [[(0 : Int), (100 : Int), (0 : Int), (0 : Int), (0 : Int), (0 : Int)]] ((law25_head_s19))
noncomputable def law25_head_s25  : Int :=
  desk_Where_4 (0 : Int) (1 : Int) [(law25_head_s0)] [[(0 : Int), (100 : Int), (0 : Int), (0 : Int), (0 : Int), (0 : Int)]]
  (cutV ((law25_head_s19)) (boundsA (↑3 : Int) none (some (2 : Int))).snd.fst (boundsA (↑3 : Int) none (some (2 : Int))).snd.snd)
noncomputable def law25_head_s26  : Int :=
  desk_Where_4 (0 : Int) (2 : Int) [(law25_head_s0)] [[(0 : Int), (100 : Int), (0 : Int), (0 : Int), (0 : Int), (0 : Int)]]
  (cutV ((law25_head_s19)) (boundsA (↑3 : Int) none (some (2 : Int))).snd.fst (boundsA (↑3 : Int) none (some (2 : Int))).snd.snd)
noncomputable def law25_head_s27  : Int :=
  desk_Named_1 (0 : Int) (1 : Int) [(law25_head_s0)] [[(0 : Int), (100 : Int), (0 : Int), (0 : Int), (0 : Int), (0 : Int)]] ((law25_head_s19))
noncomputable def law25_head_s28  : Int :=
  desk_Check_1 (0 : Int) [(law25_head_s0)] [[(0 : Int), (100 : Int), (0 : Int), (0 : Int), (0 : Int), (0 : Int)]] ((law25_head_s19)) [[(2 : Int)]] ((law25_head_s20))
noncomputable def law25_head_s29  : Int :=
  desk_Check_1 (0 : Int) [(law25_head_s0)] [[(0 : Int), (100 : Int), (0 : Int), (0 : Int), (0 : Int), (0 : Int)]] ((law25_head_s19)) [] ((law25_head_s20))
noncomputable def law25_head_s30  : Int :=
  desk_Follow_1 (0 : Int) [(law25_head_s0)] [[(0 : Int), (100 : Int), (0 : Int), (0 : Int), (0 : Int), (0 : Int)]]
  [(1 : Int) :: (law25_head_s1) :: (5 : Int) :: (law25_head_s6), (1 : Int) :: (law25_head_s1) :: (5 : Int) :: (law25_head_s6)] []
noncomputable def law25_head_s31  : List (List Int) :=
  desk_Follow_0 (0 : Int) [(law25_head_s0)] [[(0 : Int), (100 : Int), (0 : Int), (0 : Int), (0 : Int), (0 : Int)]]
  (cutV ((law25_head_s19)) (boundsA (↑3 : Int) none (some (2 : Int))).snd.fst (boundsA (↑3 : Int) none (some (2 : Int))).snd.snd) []
noncomputable def law25_head_s32  : List Int :=
  [law25_box_0 (3 : Int) (3 : Int) (3 : Int) (3 : Int), law25_box_1 (3 : Int) (3 : Int) (3 : Int) (3 : Int), law25_box_2 (3 : Int) (3 : Int) (3 : Int) (3 : Int),
  law25_box_3 (3 : Int) (3 : Int) (3 : Int) (3 : Int)]
noncomputable def law25_head_s33  : List (List Int) :=
  desk_Explain_0 (0 : Int) (1 : Int) [(law25_head_s0)] [[(0 : Int), (100 : Int), (0 : Int), (0 : Int), (0 : Int), (0 : Int)]] ((law25_head_s19))
noncomputable def law25_head_s34  : List (List Int) :=
  desk_Explain_1 (0 : Int) (1 : Int) [(law25_head_s0)] [[(0 : Int), (100 : Int), (0 : Int), (0 : Int), (0 : Int), (0 : Int)]] ((law25_head_s19))
noncomputable def law25_head_s35  : Int :=
  desk_Where_0 (0 : Int) (1 : Int) [(law25_head_s0)] [[(0 : Int), (100 : Int), (0 : Int), (0 : Int), (0 : Int), (0 : Int)]]
  (cutV ((law25_head_s19)) (boundsA (↑3 : Int) none (some (2 : Int))).snd.fst (boundsA (↑3 : Int) none (some (2 : Int))).snd.snd)
noncomputable def law25_head_s36  : Int :=
  desk_Where_1 (0 : Int) (1 : Int) [(law25_head_s0)] [[(0 : Int), (100 : Int), (0 : Int), (0 : Int), (0 : Int), (0 : Int)]]
  (cutV ((law25_head_s19)) (boundsA (↑3 : Int) none (some (2 : Int))).snd.fst (boundsA (↑3 : Int) none (some (2 : Int))).snd.snd)
noncomputable def law25_head_s37  : Int :=
  desk_Where_2 (0 : Int) (1 : Int) [(law25_head_s0)] [[(0 : Int), (100 : Int), (0 : Int), (0 : Int), (0 : Int), (0 : Int)]]
  (cutV ((law25_head_s19)) (boundsA (↑3 : Int) none (some (2 : Int))).snd.fst (boundsA (↑3 : Int) none (some (2 : Int))).snd.snd)
noncomputable def law25_head_s38  : Int :=
  desk_Where_3 (0 : Int) (1 : Int) [(law25_head_s0)] [[(0 : Int), (100 : Int), (0 : Int), (0 : Int), (0 : Int), (0 : Int)]]
  (cutV ((law25_head_s19)) (boundsA (↑3 : Int) none (some (2 : Int))).snd.fst (boundsA (↑3 : Int) none (some (2 : Int))).snd.snd)
noncomputable def law25_head_s39  : Int :=
  desk_Where_0 (0 : Int) (2 : Int) [(law25_head_s0)] [[(0 : Int), (100 : Int), (0 : Int), (0 : Int), (0 : Int), (0 : Int)]]
  (cutV ((law25_head_s19)) (boundsA (↑3 : Int) none (some (2 : Int))).snd.fst (boundsA (↑3 : Int) none (some (2 : Int))).snd.snd)
noncomputable def law25_head_s40  : Int :=
  desk_Where_1 (0 : Int) (2 : Int) [(law25_head_s0)] [[(0 : Int), (100 : Int), (0 : Int), (0 : Int), (0 : Int), (0 : Int)]]
  (cutV ((law25_head_s19)) (boundsA (↑3 : Int) none (some (2 : Int))).snd.fst (boundsA (↑3 : Int) none (some (2 : Int))).snd.snd)
noncomputable def law25_head_s41  : Int :=
  desk_Where_2 (0 : Int) (2 : Int) [(law25_head_s0)] [[(0 : Int), (100 : Int), (0 : Int), (0 : Int), (0 : Int), (0 : Int)]]
  (cutV ((law25_head_s19)) (boundsA (↑3 : Int) none (some (2 : Int))).snd.fst (boundsA (↑3 : Int) none (some (2 : Int))).snd.snd)
noncomputable def law25_head_s42  : Int :=
  desk_Where_3 (0 : Int) (2 : Int) [(law25_head_s0)] [[(0 : Int), (100 : Int), (0 : Int), (0 : Int), (0 : Int), (0 : Int)]]
  (cutV ((law25_head_s19)) (boundsA (↑3 : Int) none (some (2 : Int))).snd.fst (boundsA (↑3 : Int) none (some (2 : Int))).snd.snd)
noncomputable def law25_head_s43  : List (List Int) :=
  desk_Named_0 (0 : Int) (1 : Int) [(law25_head_s0)] [[(0 : Int), (100 : Int), (0 : Int), (0 : Int), (0 : Int), (0 : Int)]] ((law25_head_s19))
noncomputable def law25_head_0  : Bool :=
  bif
    (law25_head_s21) == (0 : Int) && (law25_head_s22) == (18 : Int) && (law25_head_s23) == (0 : Int) && (law25_head_s24) == (18 : Int) && (law25_head_s25) == (0 : Int) &&
                (law25_head_s26) == (0 : Int) &&
              (law25_head_s27) == (0 : Int) &&
            (law25_head_s28) == (0 : Int) &&
          (law25_head_s29) == (0 : Int) &&
        (law25_head_s30) == (5 : Int) &&
      ref23_Same_0 ((law25_head_s31)) [(law25_head_s32)] then
  bif
      ref24_Ints_0 ((law25_head_s33)) [[(2 : Int)]] && ref23_Same_0 ((law25_head_s34)) [(law25_head_s32)] &&
          ((law25_head_s35) == law25_box_0 (2 : Int) (9 : Int) (2 : Int) (3 : Int) && ((law25_head_s36) == law25_box_1 (2 : Int) (9 : Int) (2 : Int) (3 : Int) && true) &&
            ((law25_head_s37) == law25_box_2 (2 : Int) (9 : Int) (2 : Int) (3 : Int) && ((law25_head_s38) == law25_box_3 (2 : Int) (9 : Int) (2 : Int) (3 : Int) && true) && true)) &&
        ((law25_head_s39) == law25_box_0 (0 : Int) (10 : Int) (0 : Int) (10 : Int) && ((law25_head_s40) == law25_box_1 (0 : Int) (10 : Int) (0 : Int) (10 : Int) && true) &&
          ((law25_head_s41) == law25_box_2 (0 : Int) (10 : Int) (0 : Int) (10 : Int) && ((law25_head_s42) == law25_box_3 (0 : Int) (10 : Int) (0 : Int) (10 : Int) && true) && true)) then
    ref24_Ints_0 ((law25_head_s43)) [[(2 : Int)]] &&
        desk_Check_0 (0 : Int) [(law25_head_s0)] [[(0 : Int), (100 : Int), (0 : Int), (0 : Int), (0 : Int), (0 : Int)]] ((law25_head_s19)) [[(2 : Int)]] ((law25_head_s20)) &&
      !desk_Check_0 (0 : Int) [(law25_head_s0)] [[(0 : Int), (100 : Int), (0 : Int), (0 : Int), (0 : Int), (0 : Int)]] ((law25_head_s19)) [] ((law25_head_s20))
  else false
else false
def law25_head_pre  : Prop :=
  ((((0 : Int) ≤ (2 : Int)) ∧ ((2 : Int) ≤ (↑3 : Int))) ∧ (((((↑(loN (boundsA (↑3 : Int) none (some (2 : Int))).snd.fst) : Int) ≤ (boundsA (↑3 : Int) none (some (2 : Int))).snd.snd) ∧ ((boundsA (↑3 : Int) none (some (2 : Int))).snd.snd ≤ (↑3 : Int))) ∧ (desk_Follow_pre (0 : Int) [(law25_head_s0)] [[(0 : Int), (100 : Int), (0 : Int), (0 : Int), (0 : Int), (0 : Int)]]
  (cutV ((law25_head_s19)) (boundsA (↑3 : Int) none (some (2 : Int))).snd.fst (boundsA (↑3 : Int) none (some (2 : Int))).snd.snd) [])) ∧ ((desk_Follow_pre (0 : Int) [(law25_head_s0)] [[(0 : Int), (100 : Int), (0 : Int), (0 : Int), (0 : Int), (0 : Int)]] ((law25_head_s19)) []) ∧ ((desk_Explain_pre (0 : Int) (1 : Int) [(law25_head_s0)] [[(0 : Int), (100 : Int), (0 : Int), (0 : Int), (0 : Int), (0 : Int)]] ((law25_head_s19))) ∧ ((desk_Explain_pre (0 : Int) (0 : Int) [(law25_head_s0)] [[(0 : Int), (100 : Int), (0 : Int), (0 : Int), (0 : Int), (0 : Int)]] ((law25_head_s19))) ∧ ((((0 : Int) ≤ (2 : Int)) ∧ ((2 : Int) ≤ (↑3 : Int))) ∧ (((((↑(loN (boundsA (↑3 : Int) none (some (2 : Int))).snd.fst) : Int) ≤ (boundsA (↑3 : Int) none (some (2 : Int))).snd.snd) ∧ ((boundsA (↑3 : Int) none (some (2 : Int))).snd.snd ≤ (↑3 : Int))) ∧ (desk_Where_pre (0 : Int) (1 : Int) [(law25_head_s0)] [[(0 : Int), (100 : Int), (0 : Int), (0 : Int), (0 : Int), (0 : Int)]]
  (cutV ((law25_head_s19)) (boundsA (↑3 : Int) none (some (2 : Int))).snd.fst (boundsA (↑3 : Int) none (some (2 : Int))).snd.snd))) ∧ ((((0 : Int) ≤ (2 : Int)) ∧ ((2 : Int) ≤ (↑3 : Int))) ∧ (((((↑(loN (boundsA (↑3 : Int) none (some (2 : Int))).snd.fst) : Int) ≤ (boundsA (↑3 : Int) none (some (2 : Int))).snd.snd) ∧ ((boundsA (↑3 : Int) none (some (2 : Int))).snd.snd ≤ (↑3 : Int))) ∧ (desk_Where_pre (0 : Int) (2 : Int) [(law25_head_s0)] [[(0 : Int), (100 : Int), (0 : Int), (0 : Int), (0 : Int), (0 : Int)]]
  (cutV ((law25_head_s19)) (boundsA (↑3 : Int) none (some (2 : Int))).snd.fst (boundsA (↑3 : Int) none (some (2 : Int))).snd.snd))) ∧ ((desk_Named_pre (0 : Int) (1 : Int) [(law25_head_s0)] [[(0 : Int), (100 : Int), (0 : Int), (0 : Int), (0 : Int), (0 : Int)]] ((law25_head_s19))) ∧ ((desk_Check_pre (0 : Int) [(law25_head_s0)] [[(0 : Int), (100 : Int), (0 : Int), (0 : Int), (0 : Int), (0 : Int)]] ((law25_head_s19)) [[(2 : Int)]] ((law25_head_s20))) ∧ ((desk_Check_pre (0 : Int) [(law25_head_s0)] [[(0 : Int), (100 : Int), (0 : Int), (0 : Int), (0 : Int), (0 : Int)]] ((law25_head_s19)) [] ((law25_head_s20))) ∧ ((desk_Follow_pre (0 : Int) [(law25_head_s0)] [[(0 : Int), (100 : Int), (0 : Int), (0 : Int), (0 : Int), (0 : Int)]]
  [(1 : Int) :: (law25_head_s1) :: (5 : Int) :: (law25_head_s6), (1 : Int) :: (law25_head_s1) :: (5 : Int) :: (law25_head_s6)] []) ∧ (((((law25_head_s21) == (0 : Int) && (law25_head_s22) == (18 : Int) && (law25_head_s23) == (0 : Int) && (law25_head_s24) == (18 : Int) && (law25_head_s25) == (0 : Int) &&
              (law25_head_s26) == (0 : Int) &&
            (law25_head_s27) == (0 : Int) &&
          (law25_head_s28) == (0 : Int) &&
        (law25_head_s29) == (0 : Int) &&
      (law25_head_s30) == (5 : Int) &&
    ref23_Same_0 ((law25_head_s31)) [(law25_head_s32)]) =
  true) → ((((ref24_Ints_0 ((law25_head_s33)) [[(2 : Int)]] && ref23_Same_0 ((law25_head_s34)) [(law25_head_s32)] &&
      ((law25_head_s35) == law25_box_0 (2 : Int) (9 : Int) (2 : Int) (3 : Int) && ((law25_head_s36) == law25_box_1 (2 : Int) (9 : Int) (2 : Int) (3 : Int) && true) &&
        ((law25_head_s37) == law25_box_2 (2 : Int) (9 : Int) (2 : Int) (3 : Int) && ((law25_head_s38) == law25_box_3 (2 : Int) (9 : Int) (2 : Int) (3 : Int) && true) && true)) &&
    ((law25_head_s39) == law25_box_0 (0 : Int) (10 : Int) (0 : Int) (10 : Int) && ((law25_head_s40) == law25_box_1 (0 : Int) (10 : Int) (0 : Int) (10 : Int) && true) &&
      ((law25_head_s41) == law25_box_2 (0 : Int) (10 : Int) (0 : Int) (10 : Int) && ((law25_head_s42) == law25_box_3 (0 : Int) (10 : Int) (0 : Int) (10 : Int) && true) && true))) =
  true) → (((((law25_head_s21) == (0 : Int) && (law25_head_s22) == (18 : Int) && (law25_head_s23) == (0 : Int) && (law25_head_s24) == (18 : Int) && (law25_head_s25) == (0 : Int) &&
            (law25_head_s26) == (0 : Int) &&
          (law25_head_s27) == (0 : Int) &&
        (law25_head_s28) == (0 : Int) &&
      (law25_head_s29) == (0 : Int) &&
    (law25_head_s30) == (5 : Int)) =
  true) → (ref23_Same_pre ((law25_head_s31)) [(law25_head_s32)])) ∧ ((((law25_head_s21) == (0 : Int) && (law25_head_s22) == (18 : Int) && (law25_head_s23) == (0 : Int) && (law25_head_s24) == (18 : Int) && (law25_head_s25) == (0 : Int) &&
              (law25_head_s26) == (0 : Int) &&
            (law25_head_s27) == (0 : Int) &&
          (law25_head_s28) == (0 : Int) &&
        (law25_head_s29) == (0 : Int) &&
      (law25_head_s30) == (5 : Int) &&
    ref23_Same_0 ((law25_head_s31)) [(law25_head_s32)]) =
  true) ∧ (((true = true) → (ref24_Ints_pre ((law25_head_s33)) [[(2 : Int)]])) ∧ (((ref24_Ints_0 ((law25_head_s33)) [[(2 : Int)]] = true) → (ref23_Same_pre ((law25_head_s34)) [(law25_head_s32)])) ∧ (((ref24_Ints_0 ((law25_head_s33)) [[(2 : Int)]] && ref23_Same_0 ((law25_head_s34)) [(law25_head_s32)] &&
      ((law25_head_s35) == law25_box_0 (2 : Int) (9 : Int) (2 : Int) (3 : Int) && ((law25_head_s36) == law25_box_1 (2 : Int) (9 : Int) (2 : Int) (3 : Int) && true) &&
        ((law25_head_s37) == law25_box_2 (2 : Int) (9 : Int) (2 : Int) (3 : Int) && ((law25_head_s38) == law25_box_3 (2 : Int) (9 : Int) (2 : Int) (3 : Int) && true) && true)) &&
    ((law25_head_s39) == law25_box_0 (0 : Int) (10 : Int) (0 : Int) (10 : Int) && ((law25_head_s40) == law25_box_1 (0 : Int) (10 : Int) (0 : Int) (10 : Int) && true) &&
      ((law25_head_s41) == law25_box_2 (0 : Int) (10 : Int) (0 : Int) (10 : Int) && ((law25_head_s42) == law25_box_3 (0 : Int) (10 : Int) (0 : Int) (10 : Int) && true) && true))) =
  true) ∧ ((true = true) → (ref24_Ints_pre ((law25_head_s43)) [[(2 : Int)]])))))))) ∧ (((ref24_Ints_0 ((law25_head_s33)) [[(2 : Int)]] && ref23_Same_0 ((law25_head_s34)) [(law25_head_s32)] &&
      ((law25_head_s35) == law25_box_0 (2 : Int) (9 : Int) (2 : Int) (3 : Int) && ((law25_head_s36) == law25_box_1 (2 : Int) (9 : Int) (2 : Int) (3 : Int) && true) &&
        ((law25_head_s37) == law25_box_2 (2 : Int) (9 : Int) (2 : Int) (3 : Int) && ((law25_head_s38) == law25_box_3 (2 : Int) (9 : Int) (2 : Int) (3 : Int) && true) && true)) &&
    ((law25_head_s39) == law25_box_0 (0 : Int) (10 : Int) (0 : Int) (10 : Int) && ((law25_head_s40) == law25_box_1 (0 : Int) (10 : Int) (0 : Int) (10 : Int) && true) &&
      ((law25_head_s41) == law25_box_2 (0 : Int) (10 : Int) (0 : Int) (10 : Int) && ((law25_head_s42) == law25_box_3 (0 : Int) (10 : Int) (0 : Int) (10 : Int) && true) && true))) =
  false) → (((((law25_head_s21) == (0 : Int) && (law25_head_s22) == (18 : Int) && (law25_head_s23) == (0 : Int) && (law25_head_s24) == (18 : Int) && (law25_head_s25) == (0 : Int) &&
            (law25_head_s26) == (0 : Int) &&
          (law25_head_s27) == (0 : Int) &&
        (law25_head_s28) == (0 : Int) &&
      (law25_head_s29) == (0 : Int) &&
    (law25_head_s30) == (5 : Int)) =
  true) → (ref23_Same_pre ((law25_head_s31)) [(law25_head_s32)])) ∧ ((((law25_head_s21) == (0 : Int) && (law25_head_s22) == (18 : Int) && (law25_head_s23) == (0 : Int) && (law25_head_s24) == (18 : Int) && (law25_head_s25) == (0 : Int) &&
              (law25_head_s26) == (0 : Int) &&
            (law25_head_s27) == (0 : Int) &&
          (law25_head_s28) == (0 : Int) &&
        (law25_head_s29) == (0 : Int) &&
      (law25_head_s30) == (5 : Int) &&
    ref23_Same_0 ((law25_head_s31)) [(law25_head_s32)]) =
  true) ∧ (((true = true) → (ref24_Ints_pre ((law25_head_s33)) [[(2 : Int)]])) ∧ (((ref24_Ints_0 ((law25_head_s33)) [[(2 : Int)]] = true) → (ref23_Same_pre ((law25_head_s34)) [(law25_head_s32)])) ∧ ((ref24_Ints_0 ((law25_head_s33)) [[(2 : Int)]] && ref23_Same_0 ((law25_head_s34)) [(law25_head_s32)] &&
      ((law25_head_s35) == law25_box_0 (2 : Int) (9 : Int) (2 : Int) (3 : Int) && ((law25_head_s36) == law25_box_1 (2 : Int) (9 : Int) (2 : Int) (3 : Int) && true) &&
        ((law25_head_s37) == law25_box_2 (2 : Int) (9 : Int) (2 : Int) (3 : Int) && ((law25_head_s38) == law25_box_3 (2 : Int) (9 : Int) (2 : Int) (3 : Int) && true) && true)) &&
    ((law25_head_s39) == law25_box_0 (0 : Int) (10 : Int) (0 : Int) (10 : Int) && ((law25_head_s40) == law25_box_1 (0 : Int) (10 : Int) (0 : Int) (10 : Int) && true) &&
      ((law25_head_s41) == law25_box_2 (0 : Int) (10 : Int) (0 : Int) (10 : Int) && ((law25_head_s42) == law25_box_3 (0 : Int) (10 : Int) (0 : Int) (10 : Int) && true) && true))) =
  false)))))))) ∧ ((((law25_head_s21) == (0 : Int) && (law25_head_s22) == (18 : Int) && (law25_head_s23) == (0 : Int) && (law25_head_s24) == (18 : Int) && (law25_head_s25) == (0 : Int) &&
              (law25_head_s26) == (0 : Int) &&
            (law25_head_s27) == (0 : Int) &&
          (law25_head_s28) == (0 : Int) &&
        (law25_head_s29) == (0 : Int) &&
      (law25_head_s30) == (5 : Int) &&
    ref23_Same_0 ((law25_head_s31)) [(law25_head_s32)]) =
  false) → (((((law25_head_s21) == (0 : Int) && (law25_head_s22) == (18 : Int) && (law25_head_s23) == (0 : Int) && (law25_head_s24) == (18 : Int) && (law25_head_s25) == (0 : Int) &&
            (law25_head_s26) == (0 : Int) &&
          (law25_head_s27) == (0 : Int) &&
        (law25_head_s28) == (0 : Int) &&
      (law25_head_s29) == (0 : Int) &&
    (law25_head_s30) == (5 : Int)) =
  true) → (ref23_Same_pre ((law25_head_s31)) [(law25_head_s32)])) ∧ (((law25_head_s21) == (0 : Int) && (law25_head_s22) == (18 : Int) && (law25_head_s23) == (0 : Int) && (law25_head_s24) == (18 : Int) && (law25_head_s25) == (0 : Int) &&
              (law25_head_s26) == (0 : Int) &&
            (law25_head_s27) == (0 : Int) &&
          (law25_head_s28) == (0 : Int) &&
        (law25_head_s29) == (0 : Int) &&
      (law25_head_s30) == (5 : Int) &&
    ref23_Same_0 ((law25_head_s31)) [(law25_head_s32)]) =
  false)))))))))))))))))
noncomputable def law25_DeskTrue_s0 (s_From : Int) (s_Base s_Forecast s_Reports wrong track : List (List Int)) : Int :=
  drift_In_1 ((track.getD (IntKind.i64.wrap ((↑track.length : Int) - (1 : Int))).toNat []).getD 0 (0 : Int))
  ((track.getD (IntKind.i64.wrap ((↑track.length : Int) - (1 : Int))).toNat []).getD 1 (0 : Int)) (desk_Follow_0 s_From s_Base s_Forecast s_Reports wrong)
noncomputable def law25_DeskTrue_0 (s_From : Int) (s_Base s_Forecast s_Reports wrong track : List (List Int)) : Bool :=
  bif desk_Check_1 s_From s_Base s_Forecast s_Reports wrong track != (0 : Int) || !desk_Check_0 s_From s_Base s_Forecast s_Reports wrong track then
  law25_head_0 && !desk_Check_0 s_From s_Base s_Forecast s_Reports wrong track
else
  bif desk_Follow_1 s_From s_Base s_Forecast s_Reports wrong != (0 : Int) || (↑track.length : Int) == (0 : Int) then law25_head_0 && desk_Follow_1 s_From s_Base s_Forecast s_Reports wrong == (3 : Int)
  else
    law25_head_0 && (law25_DeskTrue_s0 s_From s_Base s_Forecast s_Reports wrong track) == (0 : Int) &&
      drift_In_0 ((track.getD (IntKind.i64.wrap ((↑track.length : Int) - (1 : Int))).toNat []).getD 0 (0 : Int))
        ((track.getD (IntKind.i64.wrap ((↑track.length : Int) - (1 : Int))).toNat []).getD 1 (0 : Int)) (desk_Follow_0 s_From s_Base s_Forecast s_Reports wrong)
def law25_DeskTrue_pre (s_From : Int) (s_Base s_Forecast s_Reports wrong track : List (List Int)) : Prop :=
  ((law25_head_pre) ∧ ((desk_Check_pre s_From s_Base s_Forecast s_Reports wrong track) ∧ (((desk_Check_1 s_From s_Base s_Forecast s_Reports wrong track != (0 : Int) || !desk_Check_0 s_From s_Base s_Forecast s_Reports wrong track) = false) → ((desk_Follow_pre s_From s_Base s_Forecast s_Reports wrong) ∧ (((desk_Follow_1 s_From s_Base s_Forecast s_Reports wrong != (0 : Int) || (↑track.length : Int) == (0 : Int)) = false) → ((inR (IntKind.i64.wrap ((↑track.length : Int) - (1 : Int))) track) ∧ ((inR (IntKind.i64.wrap ((↑track.length : Int) - (1 : Int))) track) ∧ (drift_In_pre ((track.getD (IntKind.i64.wrap ((↑track.length : Int) - (1 : Int))).toNat []).getD 0 (0 : Int))
  ((track.getD (IntKind.i64.wrap ((↑track.length : Int) - (1 : Int))).toNat []).getD 1 (0 : Int)) (desk_Follow_0 s_From s_Base s_Forecast s_Reports wrong)))))))))
noncomputable def law25_DeskFewest_0 (s_From most : Int) (s_Base s_Forecast s_Reports wrong track other : List (List Int)) : Bool :=
  bif !law25_few_0 s_From s_Base s_Forecast s_Reports then law25_head_0
else
  bif
      desk_Check_1 s_From s_Base s_Forecast s_Reports wrong track == (0 : Int) && desk_Check_0 s_From s_Base s_Forecast s_Reports wrong track && decide (most ≥ (0 : Int)) &&
          decide (most ≤ (3 : Int)) &&
        decide ((↑wrong.length : Int) ≤ most) then
    bif desk_Explain_2 s_From most s_Base s_Forecast s_Reports != (0 : Int) then
      law25_head_0 &&
            (desk_Explain_2 s_From most s_Base s_Forecast s_Reports == (0 : Int) && decide ((↑(desk_Explain_0 s_From most s_Base s_Forecast s_Reports).length : Int) ≤ (↑wrong.length : Int)) ||
              desk_Explain_2 s_From most s_Base s_Forecast s_Reports == (3 : Int)) &&
          (↑(desk_Explain_0 s_From most s_Base s_Forecast s_Reports).length : Int) == (0 : Int) &&
        (↑(desk_Explain_1 s_From most s_Base s_Forecast s_Reports).length : Int) == (0 : Int)
    else
      law25_head_0 &&
                  (desk_Explain_2 s_From most s_Base s_Forecast s_Reports == (0 : Int) && decide ((↑(desk_Explain_0 s_From most s_Base s_Forecast s_Reports).length : Int) ≤ (↑wrong.length : Int)) ||
                    desk_Explain_2 s_From most s_Base s_Forecast s_Reports == (3 : Int)) &&
                decide ((↑(desk_Explain_0 s_From most s_Base s_Forecast s_Reports).length : Int) ≤ most) &&
              desk_Follow_1 s_From s_Base s_Forecast s_Reports (desk_Explain_0 s_From most s_Base s_Forecast s_Reports) == (0 : Int) &&
            ref23_Same_0 (desk_Follow_0 s_From s_Base s_Forecast s_Reports (desk_Explain_0 s_From most s_Base s_Forecast s_Reports)) (desk_Explain_1 s_From most s_Base s_Forecast s_Reports) &&
          decide ((↑(desk_Explain_1 s_From most s_Base s_Forecast s_Reports).length : Int) > (0 : Int)) &&
        (!law25_before_0 other (desk_Explain_0 s_From most s_Base s_Forecast s_Reports) || desk_Follow_1 s_From s_Base s_Forecast s_Reports other == (18 : Int) ||
          desk_Follow_1 s_From s_Base s_Forecast s_Reports other == (1 : Int))
  else
    bif desk_Explain_2 s_From most s_Base s_Forecast s_Reports != (0 : Int) then
      law25_head_0 && (↑(desk_Explain_0 s_From most s_Base s_Forecast s_Reports).length : Int) == (0 : Int) && (↑(desk_Explain_1 s_From most s_Base s_Forecast s_Reports).length : Int) == (0 : Int)
    else
      law25_head_0 && decide ((↑(desk_Explain_0 s_From most s_Base s_Forecast s_Reports).length : Int) ≤ most) &&
              desk_Follow_1 s_From s_Base s_Forecast s_Reports (desk_Explain_0 s_From most s_Base s_Forecast s_Reports) == (0 : Int) &&
            ref23_Same_0 (desk_Follow_0 s_From s_Base s_Forecast s_Reports (desk_Explain_0 s_From most s_Base s_Forecast s_Reports)) (desk_Explain_1 s_From most s_Base s_Forecast s_Reports) &&
          decide ((↑(desk_Explain_1 s_From most s_Base s_Forecast s_Reports).length : Int) > (0 : Int)) &&
        (!law25_before_0 other (desk_Explain_0 s_From most s_Base s_Forecast s_Reports) || desk_Follow_1 s_From s_Base s_Forecast s_Reports other == (18 : Int) ||
          desk_Follow_1 s_From s_Base s_Forecast s_Reports other == (1 : Int))
def law25_DeskFewest_pre (s_From most : Int) (s_Base s_Forecast s_Reports wrong track other : List (List Int)) : Prop :=
  ((law25_head_pre) ∧ (((!law25_few_0 s_From s_Base s_Forecast s_Reports) = false) → ((desk_Explain_pre s_From most s_Base s_Forecast s_Reports) ∧ ((desk_Check_pre s_From s_Base s_Forecast s_Reports wrong track) ∧ ((((desk_Check_1 s_From s_Base s_Forecast s_Reports wrong track == (0 : Int) && desk_Check_0 s_From s_Base s_Forecast s_Reports wrong track && decide (most ≥ (0 : Int)) && decide (most ≤ (3 : Int)) &&
    decide ((↑wrong.length : Int) ≤ most)) =
  true) → (((desk_Explain_2 s_From most s_Base s_Forecast s_Reports != (0 : Int)) = false) → ((desk_Follow_pre s_From s_Base s_Forecast s_Reports (desk_Explain_0 s_From most s_Base s_Forecast s_Reports)) ∧ ((desk_Follow_pre s_From s_Base s_Forecast s_Reports other) ∧ ((((law25_head_0 &&
        (desk_Explain_2 s_From most s_Base s_Forecast s_Reports == (0 : Int) && decide ((↑(desk_Explain_0 s_From most s_Base s_Forecast s_Reports).length : Int) ≤ (↑wrong.length : Int)) ||
          desk_Explain_2 s_From most s_Base s_Forecast s_Reports == (3 : Int)) &&
      decide ((↑(desk_Explain_0 s_From most s_Base s_Forecast s_Reports).length : Int) ≤ most) &&
    desk_Follow_1 s_From s_Base s_Forecast s_Reports (desk_Explain_0 s_From most s_Base s_Forecast s_Reports) == (0 : Int)) =
  true) → (ref23_Same_pre (desk_Follow_0 s_From s_Base s_Forecast s_Reports (desk_Explain_0 s_From most s_Base s_Forecast s_Reports)) (desk_Explain_1 s_From most s_Base s_Forecast s_Reports))) ∧ (((law25_head_0 &&
            (desk_Explain_2 s_From most s_Base s_Forecast s_Reports == (0 : Int) && decide ((↑(desk_Explain_0 s_From most s_Base s_Forecast s_Reports).length : Int) ≤ (↑wrong.length : Int)) ||
              desk_Explain_2 s_From most s_Base s_Forecast s_Reports == (3 : Int)) &&
          decide ((↑(desk_Explain_0 s_From most s_Base s_Forecast s_Reports).length : Int) ≤ most) &&
        desk_Follow_1 s_From s_Base s_Forecast s_Reports (desk_Explain_0 s_From most s_Base s_Forecast s_Reports) == (0 : Int) &&
      ref23_Same_0 (desk_Follow_0 s_From s_Base s_Forecast s_Reports (desk_Explain_0 s_From most s_Base s_Forecast s_Reports)) (desk_Explain_1 s_From most s_Base s_Forecast s_Reports) &&
    decide ((↑(desk_Explain_1 s_From most s_Base s_Forecast s_Reports).length : Int) > (0 : Int))) =
  true) → (law25_before_pre other (desk_Explain_0 s_From most s_Base s_Forecast s_Reports)))))))) ∧ (((desk_Check_1 s_From s_Base s_Forecast s_Reports wrong track == (0 : Int) && desk_Check_0 s_From s_Base s_Forecast s_Reports wrong track && decide (most ≥ (0 : Int)) && decide (most ≤ (3 : Int)) &&
    decide ((↑wrong.length : Int) ≤ most)) =
  false) → (((desk_Explain_2 s_From most s_Base s_Forecast s_Reports != (0 : Int)) = false) → ((desk_Follow_pre s_From s_Base s_Forecast s_Reports (desk_Explain_0 s_From most s_Base s_Forecast s_Reports)) ∧ ((desk_Follow_pre s_From s_Base s_Forecast s_Reports other) ∧ ((((law25_head_0 && decide ((↑(desk_Explain_0 s_From most s_Base s_Forecast s_Reports).length : Int) ≤ most) &&
    desk_Follow_1 s_From s_Base s_Forecast s_Reports (desk_Explain_0 s_From most s_Base s_Forecast s_Reports) == (0 : Int)) =
  true) → (ref23_Same_pre (desk_Follow_0 s_From s_Base s_Forecast s_Reports (desk_Explain_0 s_From most s_Base s_Forecast s_Reports)) (desk_Explain_1 s_From most s_Base s_Forecast s_Reports))) ∧ (((law25_head_0 && decide ((↑(desk_Explain_0 s_From most s_Base s_Forecast s_Reports).length : Int) ≤ most) &&
        desk_Follow_1 s_From s_Base s_Forecast s_Reports (desk_Explain_0 s_From most s_Base s_Forecast s_Reports) == (0 : Int) &&
      ref23_Same_0 (desk_Follow_0 s_From s_Base s_Forecast s_Reports (desk_Explain_0 s_From most s_Base s_Forecast s_Reports)) (desk_Explain_1 s_From most s_Base s_Forecast s_Reports) &&
    decide ((↑(desk_Explain_1 s_From most s_Base s_Forecast s_Reports).length : Int) > (0 : Int))) =
  true) → (law25_before_pre other (desk_Explain_0 s_From most s_Base s_Forecast s_Reports)))))))))))))
noncomputable def law25_DeskWhere_0 (s_From most : Int) (s_Base s_Forecast s_Reports wrong track : List (List Int)) : Bool :=
  bif !law25_few_0 s_From s_Base s_Forecast s_Reports then law25_head_0
else
  bif desk_Where_4 s_From most s_Base s_Forecast s_Reports == (0 : Int) && desk_Where_4 s_From (IntKind.i64.wrap (most + (1 : Int))) s_Base s_Forecast s_Reports == (0 : Int) then
    bif
        desk_Check_1 s_From s_Base s_Forecast s_Reports wrong track != (0 : Int) || !desk_Check_0 s_From s_Base s_Forecast s_Reports wrong track || (↑track.length : Int) == (0 : Int) ||
              decide (most < (0 : Int)) ||
            decide (most > (3 : Int)) ||
          decide ((↑wrong.length : Int) > most) then
      law25_head_0 && decide (desk_Where_0 s_From (IntKind.i64.wrap (most + (1 : Int))) s_Base s_Forecast s_Reports ≤ desk_Where_0 s_From most s_Base s_Forecast s_Reports) &&
            decide (desk_Where_1 s_From most s_Base s_Forecast s_Reports ≤ desk_Where_1 s_From (IntKind.i64.wrap (most + (1 : Int))) s_Base s_Forecast s_Reports) &&
          decide (desk_Where_2 s_From (IntKind.i64.wrap (most + (1 : Int))) s_Base s_Forecast s_Reports ≤ desk_Where_2 s_From most s_Base s_Forecast s_Reports) &&
        decide (desk_Where_3 s_From most s_Base s_Forecast s_Reports ≤ desk_Where_3 s_From (IntKind.i64.wrap (most + (1 : Int))) s_Base s_Forecast s_Reports)
    else
      law25_head_0 && decide (desk_Where_0 s_From (IntKind.i64.wrap (most + (1 : Int))) s_Base s_Forecast s_Reports ≤ desk_Where_0 s_From most s_Base s_Forecast s_Reports) &&
              decide (desk_Where_1 s_From most s_Base s_Forecast s_Reports ≤ desk_Where_1 s_From (IntKind.i64.wrap (most + (1 : Int))) s_Base s_Forecast s_Reports) &&
            decide (desk_Where_2 s_From (IntKind.i64.wrap (most + (1 : Int))) s_Base s_Forecast s_Reports ≤ desk_Where_2 s_From most s_Base s_Forecast s_Reports) &&
          decide (desk_Where_3 s_From most s_Base s_Forecast s_Reports ≤ desk_Where_3 s_From (IntKind.i64.wrap (most + (1 : Int))) s_Base s_Forecast s_Reports) &&
        (desk_Where_4 s_From most s_Base s_Forecast s_Reports == (0 : Int) &&
            law25_in_0 (desk_Where_0 s_From most s_Base s_Forecast s_Reports) (desk_Where_1 s_From most s_Base s_Forecast s_Reports) (desk_Where_2 s_From most s_Base s_Forecast s_Reports)
              (desk_Where_3 s_From most s_Base s_Forecast s_Reports) ((track.getD (IntKind.i64.wrap ((↑track.length : Int) - (1 : Int))).toNat []).getD 0 (0 : Int))
              ((track.getD (IntKind.i64.wrap ((↑track.length : Int) - (1 : Int))).toNat []).getD 1 (0 : Int)) ||
          desk_Where_4 s_From most s_Base s_Forecast s_Reports == (3 : Int))
  else
    bif
        desk_Check_1 s_From s_Base s_Forecast s_Reports wrong track != (0 : Int) || !desk_Check_0 s_From s_Base s_Forecast s_Reports wrong track || (↑track.length : Int) == (0 : Int) ||
              decide (most < (0 : Int)) ||
            decide (most > (3 : Int)) ||
          decide ((↑wrong.length : Int) > most) then
      law25_head_0
    else
      law25_head_0 &&
        (desk_Where_4 s_From most s_Base s_Forecast s_Reports == (0 : Int) &&
            law25_in_0 (desk_Where_0 s_From most s_Base s_Forecast s_Reports) (desk_Where_1 s_From most s_Base s_Forecast s_Reports) (desk_Where_2 s_From most s_Base s_Forecast s_Reports)
              (desk_Where_3 s_From most s_Base s_Forecast s_Reports) ((track.getD (IntKind.i64.wrap ((↑track.length : Int) - (1 : Int))).toNat []).getD 0 (0 : Int))
              ((track.getD (IntKind.i64.wrap ((↑track.length : Int) - (1 : Int))).toNat []).getD 1 (0 : Int)) ||
          desk_Where_4 s_From most s_Base s_Forecast s_Reports == (3 : Int))
def law25_DeskWhere_pre (s_From most : Int) (s_Base s_Forecast s_Reports wrong track : List (List Int)) : Prop :=
  ((law25_head_pre) ∧ (((!law25_few_0 s_From s_Base s_Forecast s_Reports) = false) → ((desk_Where_pre s_From most s_Base s_Forecast s_Reports) ∧ ((desk_Where_pre s_From (IntKind.i64.wrap (most + (1 : Int))) s_Base s_Forecast s_Reports) ∧ ((((desk_Where_4 s_From most s_Base s_Forecast s_Reports == (0 : Int) && desk_Where_4 s_From (IntKind.i64.wrap (most + (1 : Int))) s_Base s_Forecast s_Reports == (0 : Int)) = true) → ((desk_Check_pre s_From s_Base s_Forecast s_Reports wrong track) ∧ (((desk_Check_1 s_From s_Base s_Forecast s_Reports wrong track != (0 : Int) || !desk_Check_0 s_From s_Base s_Forecast s_Reports wrong track || (↑track.length : Int) == (0 : Int) ||
        decide (most < (0 : Int)) ||
      decide (most > (3 : Int)) ||
    decide ((↑wrong.length : Int) > most)) =
  false) → ((((law25_head_0 && decide (desk_Where_0 s_From (IntKind.i64.wrap (most + (1 : Int))) s_Base s_Forecast s_Reports ≤ desk_Where_0 s_From most s_Base s_Forecast s_Reports) &&
        decide (desk_Where_1 s_From most s_Base s_Forecast s_Reports ≤ desk_Where_1 s_From (IntKind.i64.wrap (most + (1 : Int))) s_Base s_Forecast s_Reports) &&
      decide (desk_Where_2 s_From (IntKind.i64.wrap (most + (1 : Int))) s_Base s_Forecast s_Reports ≤ desk_Where_2 s_From most s_Base s_Forecast s_Reports) &&
    decide (desk_Where_3 s_From most s_Base s_Forecast s_Reports ≤ desk_Where_3 s_From (IntKind.i64.wrap (most + (1 : Int))) s_Base s_Forecast s_Reports)) =
  true) → (((desk_Where_4 s_From most s_Base s_Forecast s_Reports == (0 : Int)) = true) → (inR (IntKind.i64.wrap ((↑track.length : Int) - (1 : Int))) track))) ∧ (((law25_head_0 && decide (desk_Where_0 s_From (IntKind.i64.wrap (most + (1 : Int))) s_Base s_Forecast s_Reports ≤ desk_Where_0 s_From most s_Base s_Forecast s_Reports) &&
        decide (desk_Where_1 s_From most s_Base s_Forecast s_Reports ≤ desk_Where_1 s_From (IntKind.i64.wrap (most + (1 : Int))) s_Base s_Forecast s_Reports) &&
      decide (desk_Where_2 s_From (IntKind.i64.wrap (most + (1 : Int))) s_Base s_Forecast s_Reports ≤ desk_Where_2 s_From most s_Base s_Forecast s_Reports) &&
    decide (desk_Where_3 s_From most s_Base s_Forecast s_Reports ≤ desk_Where_3 s_From (IntKind.i64.wrap (most + (1 : Int))) s_Base s_Forecast s_Reports)) =
  true) → (((desk_Where_4 s_From most s_Base s_Forecast s_Reports == (0 : Int)) = true) → (inR (IntKind.i64.wrap ((↑track.length : Int) - (1 : Int))) track))))))) ∧ (((desk_Where_4 s_From most s_Base s_Forecast s_Reports == (0 : Int) && desk_Where_4 s_From (IntKind.i64.wrap (most + (1 : Int))) s_Base s_Forecast s_Reports == (0 : Int)) = false) → ((desk_Check_pre s_From s_Base s_Forecast s_Reports wrong track) ∧ (((desk_Check_1 s_From s_Base s_Forecast s_Reports wrong track != (0 : Int) || !desk_Check_0 s_From s_Base s_Forecast s_Reports wrong track || (↑track.length : Int) == (0 : Int) ||
        decide (most < (0 : Int)) ||
      decide (most > (3 : Int)) ||
    decide ((↑wrong.length : Int) > most)) =
  false) → (((law25_head_0 = true) → (((desk_Where_4 s_From most s_Base s_Forecast s_Reports == (0 : Int)) = true) → (inR (IntKind.i64.wrap ((↑track.length : Int) - (1 : Int))) track))) ∧ ((law25_head_0 = true) → (((desk_Where_4 s_From most s_Base s_Forecast s_Reports == (0 : Int)) = true) → (inR (IntKind.i64.wrap ((↑track.length : Int) - (1 : Int))) track))))))))))))
noncomputable def law25_DeskNamed_l0_init (s_From most : Int) (s_Base s_Forecast s_Reports wrong track : List (List Int)) : List U :=
  [.b (law25_head_0), .i ((0 : Int))]
noncomputable def law25_DeskNamed_l0_step (s_From most : Int) (s_Base s_Forecast s_Reports wrong track : List (List Int)) (y0 : List U) : Option (Nat × List U) :=
  (bif decide (gi y0 1 < (↑(desk_Named_0 s_From most s_Base s_Forecast s_Reports).length : Int)) then guardP ((gb y0 0 = true) → (inR (gi y0 1) (desk_Named_0 s_From most s_Base s_Forecast s_Reports))) (guardP ((gb y0 0 = true) → (inR (gi y0 1) (desk_Named_0 s_From most s_Base s_Forecast s_Reports))) (guardP ((gb y0 0 = true) → (law25_has_pre (((desk_Named_0 s_From most s_Base s_Forecast s_Reports).getD (gi y0 1).toNat []).getD 0 (0 : Int)) (desk_Explain_0 s_From most s_Base s_Forecast s_Reports))) ((bif desk_Check_1 s_From s_Base s_Forecast s_Reports wrong track == (0 : Int) && desk_Check_0 s_From s_Base s_Forecast s_Reports wrong track &&
  (↑wrong.length : Int) == (↑(desk_Explain_0 s_From most s_Base s_Forecast s_Reports).length : Int) then guardP (((gb y0 0 &&
    law25_has_0 (((desk_Named_0 s_From most s_Base s_Forecast s_Reports).getD (gi y0 1).toNat []).getD 0 (0 : Int)) (desk_Explain_0 s_From most s_Base s_Forecast s_Reports)) =
  true) → (inR (gi y0 1) (desk_Named_0 s_From most s_Base s_Forecast s_Reports))) (guardP (((gb y0 0 &&
    law25_has_0 (((desk_Named_0 s_From most s_Base s_Forecast s_Reports).getD (gi y0 1).toNat []).getD 0 (0 : Int)) (desk_Explain_0 s_From most s_Base s_Forecast s_Reports)) =
  true) → (inR (gi y0 1) (desk_Named_0 s_From most s_Base s_Forecast s_Reports))) (guardP (((gb y0 0 &&
    law25_has_0 (((desk_Named_0 s_From most s_Base s_Forecast s_Reports).getD (gi y0 1).toNat []).getD 0 (0 : Int)) (desk_Explain_0 s_From most s_Base s_Forecast s_Reports)) =
  true) → (law25_has_pre (((desk_Named_0 s_From most s_Base s_Forecast s_Reports).getD (gi y0 1).toNat []).getD 0 (0 : Int)) wrong)) (some (0, [.b (gb y0 0 &&
    law25_has_0 (((desk_Named_0 s_From most s_Base s_Forecast s_Reports).getD (gi y0 1).toNat []).getD 0 (0 : Int)) (desk_Explain_0 s_From most s_Base s_Forecast s_Reports) &&
  law25_has_0 (((desk_Named_0 s_From most s_Base s_Forecast s_Reports).getD (gi y0 1).toNat []).getD 0 (0 : Int)) wrong), .i (IntKind.i64.wrap (gi y0 1 + (1 : Int)))])))) else some (0, [.b (gb y0 0 &&
  law25_has_0 (((desk_Named_0 s_From most s_Base s_Forecast s_Reports).getD (gi y0 1).toNat []).getD 0 (0 : Int)) (desk_Explain_0 s_From most s_Base s_Forecast s_Reports)), .i (IntKind.i64.wrap (gi y0 1 + (1 : Int)))]))))) else some (3, [.b (gb y0 0), .i (gi y0 1)]))
noncomputable def law25_DeskNamed_l0 (s_From most : Int) (s_Base s_Forecast s_Reports wrong track : List (List Int)) : Nat × List U := loopGet (law25_DeskNamed_l0_step s_From most s_Base s_Forecast s_Reports wrong track) (law25_DeskNamed_l0_init s_From most s_Base s_Forecast s_Reports wrong track)
noncomputable def law25_DeskNamed_0 (s_From most : Int) (s_Base s_Forecast s_Reports wrong track : List (List Int)) : Bool :=
  bif !law25_few_0 s_From s_Base s_Forecast s_Reports then law25_head_0
else
  bif desk_Explain_2 s_From most s_Base s_Forecast s_Reports != (0 : Int) then
    law25_head_0 && desk_Named_1 s_From most s_Base s_Forecast s_Reports == desk_Explain_2 s_From most s_Base s_Forecast s_Reports &&
      (↑(desk_Named_0 s_From most s_Base s_Forecast s_Reports).length : Int) == (0 : Int)
  else
    bif desk_Named_1 s_From most s_Base s_Forecast s_Reports != (0 : Int) then
      law25_head_0 && desk_Named_1 s_From most s_Base s_Forecast s_Reports == (3 : Int) && (↑(desk_Named_0 s_From most s_Base s_Forecast s_Reports).length : Int) == (0 : Int)
    else gb (law25_DeskNamed_l0 s_From most s_Base s_Forecast s_Reports wrong track).snd 0
def law25_DeskNamed_pre (s_From most : Int) (s_Base s_Forecast s_Reports wrong track : List (List Int)) : Prop :=
  ((law25_head_pre) ∧ (((!law25_few_0 s_From s_Base s_Forecast s_Reports) = false) → ((desk_Explain_pre s_From most s_Base s_Forecast s_Reports) ∧ ((desk_Named_pre s_From most s_Base s_Forecast s_Reports) ∧ ((desk_Check_pre s_From s_Base s_Forecast s_Reports wrong track) ∧ (((desk_Explain_2 s_From most s_Base s_Forecast s_Reports != (0 : Int)) = false) → (((desk_Named_1 s_From most s_Base s_Forecast s_Reports != (0 : Int)) = false) → ((loopOk (law25_DeskNamed_l0_step s_From most s_Base s_Forecast s_Reports wrong track) (law25_DeskNamed_l0_init s_From most s_Base s_Forecast s_Reports wrong track))))))))))
noncomputable def law25_DeskMore_l0_init (s_From k p_X p_Y : Int) (s_Base s_Forecast s_Reports wrong : List (List Int)) : List U :=
  [.i ((0 : Int)), .r ([])]
noncomputable def law25_DeskMore_l0_step (s_From k p_X p_Y : Int) (s_Base s_Forecast s_Reports wrong : List (List Int)) (y0 : List U) : Option (Nat × List U) :=
  (bif decide (gi y0 0 < (↑s_Reports.length : Int)) then guardP (law25_has_pre (gi y0 0) wrong) ((bif law25_has_0 (gi y0 0) wrong || gi y0 0 == k then guardP (fitsA 8 ((gr y0 1).length + [[gi y0 0]].length)) (some (0, [.i (IntKind.i64.wrap (gi y0 0 + (1 : Int))), .r (gr y0 1 ++ [[gi y0 0]])])) else some (0, [.i (IntKind.i64.wrap (gi y0 0 + (1 : Int))), .r (gr y0 1)]))) else some (3, [.i (gi y0 0), .r (gr y0 1)]))
noncomputable def law25_DeskMore_l0 (s_From k p_X p_Y : Int) (s_Base s_Forecast s_Reports wrong : List (List Int)) : Nat × List U := loopGet (law25_DeskMore_l0_step s_From k p_X p_Y s_Base s_Forecast s_Reports wrong) (law25_DeskMore_l0_init s_From k p_X p_Y s_Base s_Forecast s_Reports wrong)
noncomputable def law25_DeskMore_0 (s_From k p_X p_Y : Int) (s_Base s_Forecast s_Reports wrong : List (List Int)) : Bool :=
  bif decide ((↑s_Reports.length : Int) > (12 : Int)) then law25_head_0
else
  bif desk_Follow_1 s_From s_Base s_Forecast s_Reports wrong != (0 : Int) || desk_Follow_1 s_From s_Base s_Forecast s_Reports (gr (law25_DeskMore_l0 s_From k p_X p_Y s_Base s_Forecast s_Reports wrong).snd 1) != (0 : Int) then
    law25_head_0 && (desk_Follow_1 s_From s_Base s_Forecast s_Reports wrong != (0 : Int) || desk_Follow_1 s_From s_Base s_Forecast s_Reports (gr (law25_DeskMore_l0 s_From k p_X p_Y s_Base s_Forecast s_Reports wrong).snd 1) == (3 : Int))
  else
    law25_head_0 &&
      (!ref23_Has_0 p_X p_Y (desk_Follow_0 s_From s_Base s_Forecast s_Reports wrong) || ref23_Has_0 p_X p_Y (desk_Follow_0 s_From s_Base s_Forecast s_Reports (gr (law25_DeskMore_l0 s_From k p_X p_Y s_Base s_Forecast s_Reports wrong).snd 1)))
def law25_DeskMore_pre (s_From k p_X p_Y : Int) (s_Base s_Forecast s_Reports wrong : List (List Int)) : Prop :=
  ((law25_head_pre) ∧ ((decide ((↑s_Reports.length : Int) > (12 : Int)) = false) → (((loopOk (law25_DeskMore_l0_step s_From k p_X p_Y s_Base s_Forecast s_Reports wrong) (law25_DeskMore_l0_init s_From k p_X p_Y s_Base s_Forecast s_Reports wrong))) ∧ ((desk_Follow_pre s_From s_Base s_Forecast s_Reports wrong) ∧ ((desk_Follow_pre s_From s_Base s_Forecast s_Reports (gr (law25_DeskMore_l0 s_From k p_X p_Y s_Base s_Forecast s_Reports wrong).snd 1)) ∧ (((desk_Follow_1 s_From s_Base s_Forecast s_Reports wrong != (0 : Int) || desk_Follow_1 s_From s_Base s_Forecast s_Reports (gr (law25_DeskMore_l0 s_From k p_X p_Y s_Base s_Forecast s_Reports wrong).snd 1) != (0 : Int)) = false) → (((law25_head_0 = true) → (ref23_Has_pre p_X p_Y (desk_Follow_0 s_From s_Base s_Forecast s_Reports wrong))) ∧ ((law25_head_0 = true) → (((!ref23_Has_0 p_X p_Y (desk_Follow_0 s_From s_Base s_Forecast s_Reports wrong)) = false) → (ref23_Has_pre p_X p_Y (desk_Follow_0 s_From s_Base s_Forecast s_Reports (gr (law25_DeskMore_l0 s_From k p_X p_Y s_Base s_Forecast s_Reports wrong).snd 1))))))))))))
noncomputable def law25_DeskTogether_s0 (s_From at_ most : Int) (s_Base s_Forecast s_Reports wrong : List (List Int)) : Int :=
  (([] ++ s_Reports).getD (IntKind.i64.wrap ((IntKind.i64.wrap at_).tmod (IntKind.i64.wrap ((↑s_Reports.length : Int) - (1 : Int))) + (1 : Int))).toNat []).getD 0 (0 : Int)
noncomputable def law25_DeskTogether_s1 (s_From at_ most : Int) (s_Base s_Forecast s_Reports wrong : List (List Int)) : Int :=
  (([] ++ s_Reports).getD (IntKind.i64.wrap ((IntKind.i64.wrap at_).tmod (IntKind.i64.wrap ((↑s_Reports.length : Int) - (1 : Int))) + (1 : Int))).toNat []).getD 1 (0 : Int)
noncomputable def law25_DeskTogether_s2 (s_From at_ most : Int) (s_Base s_Forecast s_Reports wrong : List (List Int)) : Int :=
  (([] ++ s_Reports).getD (IntKind.i64.wrap ((IntKind.i64.wrap at_).tmod (IntKind.i64.wrap ((↑s_Reports.length : Int) - (1 : Int))) + (1 : Int))).toNat []).getD 2 (0 : Int)
noncomputable def law25_DeskTogether_s3 (s_From at_ most : Int) (s_Base s_Forecast s_Reports wrong : List (List Int)) : Int :=
  (([] ++ s_Reports).getD (IntKind.i64.wrap ((IntKind.i64.wrap at_).tmod (IntKind.i64.wrap ((↑s_Reports.length : Int) - (1 : Int))) + (1 : Int))).toNat []).getD 3 (0 : Int)
noncomputable def law25_DeskTogether_s4 (s_From at_ most : Int) (s_Base s_Forecast s_Reports wrong : List (List Int)) : Int :=
  (([] ++ s_Reports).getD (IntKind.i64.wrap ((IntKind.i64.wrap at_).tmod (IntKind.i64.wrap ((↑s_Reports.length : Int) - (1 : Int))) + (1 : Int))).toNat []).getD 4 (0 : Int)
noncomputable def law25_DeskTogether_s5 (s_From at_ most : Int) (s_Base s_Forecast s_Reports wrong : List (List Int)) : Int :=
  (([] ++ s_Reports).getD (IntKind.i64.wrap ((IntKind.i64.wrap at_).tmod (IntKind.i64.wrap ((↑s_Reports.length : Int) - (1 : Int))) + (1 : Int))).toNat []).getD 5 (0 : Int)
noncomputable def law25_DeskTogether_s6 (s_From at_ most : Int) (s_Base s_Forecast s_Reports wrong : List (List Int)) : Int :=
  (([] ++ s_Reports).getD (IntKind.i64.wrap ((IntKind.i64.wrap at_).tmod (IntKind.i64.wrap ((↑s_Reports.length : Int) - (1 : Int))) + (1 : Int))).toNat []).getD 6 (0 : Int)
noncomputable def law25_DeskTogether_s7 (s_From at_ most : Int) (s_Base s_Forecast s_Reports wrong : List (List Int)) : Int :=
  (([] ++ s_Reports).getD (IntKind.i64.wrap ((IntKind.i64.wrap at_).tmod (IntKind.i64.wrap ((↑s_Reports.length : Int) - (1 : Int))) + (1 : Int))).toNat []).getD 7 (0 : Int)
noncomputable def law25_DeskTogether_s8 (s_From at_ most : Int) (s_Base s_Forecast s_Reports wrong : List (List Int)) : Int :=
  (([] ++ s_Reports).getD (IntKind.i64.wrap ((IntKind.i64.wrap at_).tmod (IntKind.i64.wrap ((↑s_Reports.length : Int) - (1 : Int))) + (1 : Int))).toNat []).getD 8 (0 : Int)
noncomputable def law25_DeskTogether_s9 (s_From at_ most : Int) (s_Base s_Forecast s_Reports wrong : List (List Int)) : Int :=
  (([] ++ s_Reports).getD (IntKind.i64.wrap ((IntKind.i64.wrap at_).tmod (IntKind.i64.wrap ((↑s_Reports.length : Int) - (1 : Int))) + (1 : Int))).toNat []).getD 9 (0 : Int)
noncomputable def law25_DeskTogether_s10 (s_From at_ most : Int) (s_Base s_Forecast s_Reports wrong : List (List Int)) : Int :=
  (([] ++ s_Reports).getD (IntKind.i64.wrap ((IntKind.i64.wrap at_).tmod (IntKind.i64.wrap ((↑s_Reports.length : Int) - (1 : Int))) + (1 : Int))).toNat []).getD 10 (0 : Int)
noncomputable def law25_DeskTogether_s11 (s_From at_ most : Int) (s_Base s_Forecast s_Reports wrong : List (List Int)) : Int :=
  (([] ++ s_Reports).getD (IntKind.i64.wrap ((IntKind.i64.wrap at_).tmod (IntKind.i64.wrap ((↑s_Reports.length : Int) - (1 : Int))) + (1 : Int))).toNat []).getD 11 (0 : Int)
noncomputable def law25_DeskTogether_s12 (s_From at_ most : Int) (s_Base s_Forecast s_Reports wrong : List (List Int)) : Int :=
  (([] ++ s_Reports).getD (IntKind.i64.wrap ((IntKind.i64.wrap at_).tmod (IntKind.i64.wrap ((↑s_Reports.length : Int) - (1 : Int))) + (1 : Int))).toNat []).getD 12 (0 : Int)
noncomputable def law25_DeskTogether_s13 (s_From at_ most : Int) (s_Base s_Forecast s_Reports wrong : List (List Int)) : List Int :=
  [(law25_DeskTogether_s3 s_From at_ most s_Base s_Forecast s_Reports wrong), (law25_DeskTogether_s4 s_From at_ most s_Base s_Forecast s_Reports wrong), (law25_DeskTogether_s5 s_From at_ most s_Base s_Forecast s_Reports wrong), (law25_DeskTogether_s6 s_From at_ most s_Base s_Forecast s_Reports wrong), (law25_DeskTogether_s7 s_From at_ most s_Base s_Forecast s_Reports wrong), (law25_DeskTogether_s8 s_From at_ most s_Base s_Forecast s_Reports wrong), (law25_DeskTogether_s9 s_From at_ most s_Base s_Forecast s_Reports wrong), (law25_DeskTogether_s10 s_From at_ most s_Base s_Forecast s_Reports wrong), (law25_DeskTogether_s11 s_From at_ most s_Base s_Forecast s_Reports wrong),
  (law25_DeskTogether_s12 s_From at_ most s_Base s_Forecast s_Reports wrong)]
noncomputable def law25_DeskTogether_s14 (s_From at_ most : Int) (s_Base s_Forecast s_Reports wrong : List (List Int)) : List Int :=
  setEl 13 (([] ++ s_Reports).getD ((IntKind.i64.wrap at_).tmod (IntKind.i64.wrap ((↑s_Reports.length : Int) - (1 : Int)))).toNat []) 0
  ((law25_DeskTogether_s0 s_From at_ most s_Base s_Forecast s_Reports wrong) :: (law25_DeskTogether_s1 s_From at_ most s_Base s_Forecast s_Reports wrong) :: (law25_DeskTogether_s2 s_From at_ most s_Base s_Forecast s_Reports wrong) :: (law25_DeskTogether_s13 s_From at_ most s_Base s_Forecast s_Reports wrong))
noncomputable def law25_DeskTogether_l0_init (s_From at_ most : Int) (s_Base s_Forecast s_Reports wrong : List (List Int)) : List U :=
  [.i ((0 : Int)), .r ([])]
noncomputable def law25_DeskTogether_l0_step (s_From at_ most : Int) (s_Base s_Forecast s_Reports wrong : List (List Int)) (y0 : List U) : Option (Nat × List U) :=
  (bif decide (gi y0 0 < (↑s_Reports.length : Int)) then (bif gi y0 0 == (IntKind.i64.wrap at_).tmod (IntKind.i64.wrap ((↑s_Reports.length : Int) - (1 : Int))) then (bif gi y0 0 == IntKind.i64.wrap ((IntKind.i64.wrap at_).tmod (IntKind.i64.wrap ((↑s_Reports.length : Int) - (1 : Int))) + (1 : Int)) then guardP (law25_has_pre ((IntKind.i64.wrap at_).tmod (IntKind.i64.wrap ((↑s_Reports.length : Int) - (1 : Int)))) wrong) ((bif law25_has_0 ((IntKind.i64.wrap at_).tmod (IntKind.i64.wrap ((↑s_Reports.length : Int) - (1 : Int)))) wrong then guardP (fitsA 8 ((gr y0 1).length + [[gi y0 0]].length)) (some (0, [.i (IntKind.i64.wrap (gi y0 0 + (1 : Int))), .r (gr y0 1 ++ [[gi y0 0]])])) else some (0, [.i (IntKind.i64.wrap (gi y0 0 + (1 : Int))), .r (gr y0 1)]))) else guardP (law25_has_pre (IntKind.i64.wrap ((IntKind.i64.wrap at_).tmod (IntKind.i64.wrap ((↑s_Reports.length : Int) - (1 : Int))) + (1 : Int))) wrong) ((bif law25_has_0 (IntKind.i64.wrap ((IntKind.i64.wrap at_).tmod (IntKind.i64.wrap ((↑s_Reports.length : Int) - (1 : Int))) + (1 : Int))) wrong then guardP (fitsA 8 ((gr y0 1).length + [[gi y0 0]].length)) (some (0, [.i (IntKind.i64.wrap (gi y0 0 + (1 : Int))), .r (gr y0 1 ++ [[gi y0 0]])])) else some (0, [.i (IntKind.i64.wrap (gi y0 0 + (1 : Int))), .r (gr y0 1)])))) else (bif gi y0 0 == IntKind.i64.wrap ((IntKind.i64.wrap at_).tmod (IntKind.i64.wrap ((↑s_Reports.length : Int) - (1 : Int))) + (1 : Int)) then guardP (law25_has_pre ((IntKind.i64.wrap at_).tmod (IntKind.i64.wrap ((↑s_Reports.length : Int) - (1 : Int)))) wrong) ((bif law25_has_0 ((IntKind.i64.wrap at_).tmod (IntKind.i64.wrap ((↑s_Reports.length : Int) - (1 : Int)))) wrong then guardP (fitsA 8 ((gr y0 1).length + [[gi y0 0]].length)) (some (0, [.i (IntKind.i64.wrap (gi y0 0 + (1 : Int))), .r (gr y0 1 ++ [[gi y0 0]])])) else some (0, [.i (IntKind.i64.wrap (gi y0 0 + (1 : Int))), .r (gr y0 1)]))) else guardP (law25_has_pre (gi y0 0) wrong) ((bif law25_has_0 (gi y0 0) wrong then guardP (fitsA 8 ((gr y0 1).length + [[gi y0 0]].length)) (some (0, [.i (IntKind.i64.wrap (gi y0 0 + (1 : Int))), .r (gr y0 1 ++ [[gi y0 0]])])) else some (0, [.i (IntKind.i64.wrap (gi y0 0 + (1 : Int))), .r (gr y0 1)]))))) else some (9, [.i (gi y0 0), .r (gr y0 1)]))
noncomputable def law25_DeskTogether_l0 (s_From at_ most : Int) (s_Base s_Forecast s_Reports wrong : List (List Int)) : Nat × List U := loopGet (law25_DeskTogether_l0_step s_From at_ most s_Base s_Forecast s_Reports wrong) (law25_DeskTogether_l0_init s_From at_ most s_Base s_Forecast s_Reports wrong)
noncomputable def law25_DeskTogether_s15 (s_From at_ most : Int) (s_Base s_Forecast s_Reports wrong : List (List Int)) : List Int :=
  (([] ++ s_Reports).set ((IntKind.i64.wrap at_).tmod (IntKind.i64.wrap ((↑s_Reports.length : Int) - (1 : Int)))).toNat ((law25_DeskTogether_s14 s_From at_ most s_Base s_Forecast s_Reports wrong))).getD
  (IntKind.i64.wrap ((IntKind.i64.wrap at_).tmod (IntKind.i64.wrap ((↑s_Reports.length : Int) - (1 : Int))) + (1 : Int))).toNat []
noncomputable def law25_DeskTogether_s16 (s_From at_ most : Int) (s_Base s_Forecast s_Reports wrong : List (List Int)) : List Int :=
  [(([] ++ s_Reports).getD ((IntKind.i64.wrap at_).tmod (IntKind.i64.wrap ((↑s_Reports.length : Int) - (1 : Int)))).toNat []).getD 11 (0 : Int),
  (([] ++ s_Reports).getD ((IntKind.i64.wrap at_).tmod (IntKind.i64.wrap ((↑s_Reports.length : Int) - (1 : Int)))).toNat []).getD 12 (0 : Int)]
noncomputable def law25_DeskTogether_s17 (s_From at_ most : Int) (s_Base s_Forecast s_Reports wrong : List (List Int)) : List Int :=
  (([] ++ s_Reports).getD ((IntKind.i64.wrap at_).tmod (IntKind.i64.wrap ((↑s_Reports.length : Int) - (1 : Int)))).toNat []).getD 9 (0 : Int) ::
  (([] ++ s_Reports).getD ((IntKind.i64.wrap at_).tmod (IntKind.i64.wrap ((↑s_Reports.length : Int) - (1 : Int)))).toNat []).getD 10 (0 : Int) :: (law25_DeskTogether_s16 s_From at_ most s_Base s_Forecast s_Reports wrong)
noncomputable def law25_DeskTogether_s18 (s_From at_ most : Int) (s_Base s_Forecast s_Reports wrong : List (List Int)) : List Int :=
  (([] ++ s_Reports).getD ((IntKind.i64.wrap at_).tmod (IntKind.i64.wrap ((↑s_Reports.length : Int) - (1 : Int)))).toNat []).getD 7 (0 : Int) ::
  (([] ++ s_Reports).getD ((IntKind.i64.wrap at_).tmod (IntKind.i64.wrap ((↑s_Reports.length : Int) - (1 : Int)))).toNat []).getD 8 (0 : Int) :: (law25_DeskTogether_s17 s_From at_ most s_Base s_Forecast s_Reports wrong)
noncomputable def law25_DeskTogether_s19 (s_From at_ most : Int) (s_Base s_Forecast s_Reports wrong : List (List Int)) : List Int :=
  (([] ++ s_Reports).getD ((IntKind.i64.wrap at_).tmod (IntKind.i64.wrap ((↑s_Reports.length : Int) - (1 : Int)))).toNat []).getD 5 (0 : Int) ::
  (([] ++ s_Reports).getD ((IntKind.i64.wrap at_).tmod (IntKind.i64.wrap ((↑s_Reports.length : Int) - (1 : Int)))).toNat []).getD 6 (0 : Int) :: (law25_DeskTogether_s18 s_From at_ most s_Base s_Forecast s_Reports wrong)
noncomputable def law25_DeskTogether_s20 (s_From at_ most : Int) (s_Base s_Forecast s_Reports wrong : List (List Int)) : List Int :=
  (([] ++ s_Reports).getD ((IntKind.i64.wrap at_).tmod (IntKind.i64.wrap ((↑s_Reports.length : Int) - (1 : Int)))).toNat []).getD 3 (0 : Int) ::
  (([] ++ s_Reports).getD ((IntKind.i64.wrap at_).tmod (IntKind.i64.wrap ((↑s_Reports.length : Int) - (1 : Int)))).toNat []).getD 4 (0 : Int) :: (law25_DeskTogether_s19 s_From at_ most s_Base s_Forecast s_Reports wrong)
noncomputable def law25_DeskTogether_s21 (s_From at_ most : Int) (s_Base s_Forecast s_Reports wrong : List (List Int)) : List Int :=
  (([] ++ s_Reports).getD ((IntKind.i64.wrap at_).tmod (IntKind.i64.wrap ((↑s_Reports.length : Int) - (1 : Int)))).toNat []).getD 1 (0 : Int) ::
  (([] ++ s_Reports).getD ((IntKind.i64.wrap at_).tmod (IntKind.i64.wrap ((↑s_Reports.length : Int) - (1 : Int)))).toNat []).getD 2 (0 : Int) :: (law25_DeskTogether_s20 s_From at_ most s_Base s_Forecast s_Reports wrong)
noncomputable def law25_DeskTogether_s22 (s_From at_ most : Int) (s_Base s_Forecast s_Reports wrong : List (List Int)) : List Int :=
  setEl 13 ((law25_DeskTogether_s15 s_From at_ most s_Base s_Forecast s_Reports wrong)) 0
  ((([] ++ s_Reports).getD ((IntKind.i64.wrap at_).tmod (IntKind.i64.wrap ((↑s_Reports.length : Int) - (1 : Int)))).toNat []).getD 0 (0 : Int) :: (law25_DeskTogether_s21 s_From at_ most s_Base s_Forecast s_Reports wrong))
noncomputable def law25_DeskTogether_s23 (s_From at_ most : Int) (s_Base s_Forecast s_Reports wrong : List (List Int)) : List (List Int) :=
  (([] ++ s_Reports).set ((IntKind.i64.wrap at_).tmod (IntKind.i64.wrap ((↑s_Reports.length : Int) - (1 : Int)))).toNat ((law25_DeskTogether_s14 s_From at_ most s_Base s_Forecast s_Reports wrong))).set
  (IntKind.i64.wrap ((IntKind.i64.wrap at_).tmod (IntKind.i64.wrap ((↑s_Reports.length : Int) - (1 : Int))) + (1 : Int))).toNat ((law25_DeskTogether_s22 s_From at_ most s_Base s_Forecast s_Reports wrong))
noncomputable def law25_DeskTogether_0 (s_From at_ most : Int) (s_Base s_Forecast s_Reports wrong : List (List Int)) : Bool :=
  bif !law25_few_0 s_From s_Base s_Forecast s_Reports || decide ((↑s_Reports.length : Int) < (2 : Int)) then law25_head_0
else
  bif
      (s_Reports.getD ((IntKind.i64.wrap at_).tmod (IntKind.i64.wrap ((↑s_Reports.length : Int) - (1 : Int)))).toNat []).getD 2 (0 : Int) !=
        (s_Reports.getD (IntKind.i64.wrap ((IntKind.i64.wrap at_).tmod (IntKind.i64.wrap ((↑s_Reports.length : Int) - (1 : Int))) + (1 : Int))).toNat []).getD 2 (0 : Int) then
    law25_head_0
  else
    bif desk_Follow_1 s_From s_Base s_Forecast s_Reports wrong == (0 : Int) then
      bif desk_Explain_2 s_From most s_Base s_Forecast s_Reports != (0 : Int) || desk_Explain_2 s_From most s_Base s_Forecast ((law25_DeskTogether_s23 s_From at_ most s_Base s_Forecast s_Reports wrong)) != (0 : Int) then
        law25_head_0 && desk_Follow_1 s_From s_Base s_Forecast ((law25_DeskTogether_s23 s_From at_ most s_Base s_Forecast s_Reports wrong)) (gr (law25_DeskTogether_l0 s_From at_ most s_Base s_Forecast s_Reports wrong).snd 1) == (0 : Int) &&
              ref23_Same_0 (desk_Follow_0 s_From s_Base s_Forecast s_Reports wrong) (desk_Follow_0 s_From s_Base s_Forecast ((law25_DeskTogether_s23 s_From at_ most s_Base s_Forecast s_Reports wrong)) (gr (law25_DeskTogether_l0 s_From at_ most s_Base s_Forecast s_Reports wrong).snd 1)) &&
            (desk_Explain_2 s_From most s_Base s_Forecast s_Reports == (0 : Int)) == (desk_Explain_2 s_From most s_Base s_Forecast ((law25_DeskTogether_s23 s_From at_ most s_Base s_Forecast s_Reports wrong)) == (0 : Int)) ||
          law25_head_0 && desk_Follow_1 s_From s_Base s_Forecast ((law25_DeskTogether_s23 s_From at_ most s_Base s_Forecast s_Reports wrong)) (gr (law25_DeskTogether_l0 s_From at_ most s_Base s_Forecast s_Reports wrong).snd 1) == (0 : Int) &&
              ref23_Same_0 (desk_Follow_0 s_From s_Base s_Forecast s_Reports wrong) (desk_Follow_0 s_From s_Base s_Forecast ((law25_DeskTogether_s23 s_From at_ most s_Base s_Forecast s_Reports wrong)) (gr (law25_DeskTogether_l0 s_From at_ most s_Base s_Forecast s_Reports wrong).snd 1)) &&
            (desk_Explain_2 s_From most s_Base s_Forecast s_Reports == (3 : Int) || desk_Explain_2 s_From most s_Base s_Forecast ((law25_DeskTogether_s23 s_From at_ most s_Base s_Forecast s_Reports wrong)) == (3 : Int))
      else
        law25_head_0 && desk_Follow_1 s_From s_Base s_Forecast ((law25_DeskTogether_s23 s_From at_ most s_Base s_Forecast s_Reports wrong)) (gr (law25_DeskTogether_l0 s_From at_ most s_Base s_Forecast s_Reports wrong).snd 1) == (0 : Int) &&
            ref23_Same_0 (desk_Follow_0 s_From s_Base s_Forecast s_Reports wrong) (desk_Follow_0 s_From s_Base s_Forecast ((law25_DeskTogether_s23 s_From at_ most s_Base s_Forecast s_Reports wrong)) (gr (law25_DeskTogether_l0 s_From at_ most s_Base s_Forecast s_Reports wrong).snd 1)) &&
          (↑(desk_Explain_0 s_From most s_Base s_Forecast s_Reports).length : Int) == (↑(desk_Explain_0 s_From most s_Base s_Forecast ((law25_DeskTogether_s23 s_From at_ most s_Base s_Forecast s_Reports wrong))).length : Int)
    else
      bif desk_Explain_2 s_From most s_Base s_Forecast s_Reports != (0 : Int) || desk_Explain_2 s_From most s_Base s_Forecast ((law25_DeskTogether_s23 s_From at_ most s_Base s_Forecast s_Reports wrong)) != (0 : Int) then
        law25_head_0 && (desk_Explain_2 s_From most s_Base s_Forecast s_Reports == (0 : Int)) == (desk_Explain_2 s_From most s_Base s_Forecast ((law25_DeskTogether_s23 s_From at_ most s_Base s_Forecast s_Reports wrong)) == (0 : Int)) ||
          law25_head_0 && (desk_Explain_2 s_From most s_Base s_Forecast s_Reports == (3 : Int) || desk_Explain_2 s_From most s_Base s_Forecast ((law25_DeskTogether_s23 s_From at_ most s_Base s_Forecast s_Reports wrong)) == (3 : Int))
      else law25_head_0 && (↑(desk_Explain_0 s_From most s_Base s_Forecast s_Reports).length : Int) == (↑(desk_Explain_0 s_From most s_Base s_Forecast ((law25_DeskTogether_s23 s_From at_ most s_Base s_Forecast s_Reports wrong))).length : Int)
def law25_DeskTogether_pre (s_From at_ most : Int) (s_Base s_Forecast s_Reports wrong : List (List Int)) : Prop :=
  ((law25_head_pre) ∧ (((!law25_few_0 s_From s_Base s_Forecast s_Reports || decide ((↑s_Reports.length : Int) < (2 : Int))) = false) → (((IntKind.i64.wrap ((↑s_Reports.length : Int) - (1 : Int)) : Int) ≠ (0 : Int)) ∧ ((inR ((IntKind.i64.wrap at_).tmod (IntKind.i64.wrap ((↑s_Reports.length : Int) - (1 : Int)))) s_Reports) ∧ ((inR ((IntKind.i64.wrap at_).tmod (IntKind.i64.wrap ((↑s_Reports.length : Int) - (1 : Int)))) s_Reports) ∧ ((inR ((IntKind.i64.wrap at_).tmod (IntKind.i64.wrap ((↑s_Reports.length : Int) - (1 : Int)))) s_Reports) ∧ ((inR (IntKind.i64.wrap ((IntKind.i64.wrap at_).tmod (IntKind.i64.wrap ((↑s_Reports.length : Int) - (1 : Int))) + (1 : Int))) s_Reports) ∧ ((inR (IntKind.i64.wrap ((IntKind.i64.wrap at_).tmod (IntKind.i64.wrap ((↑s_Reports.length : Int) - (1 : Int))) + (1 : Int))) s_Reports) ∧ ((inR (IntKind.i64.wrap ((IntKind.i64.wrap at_).tmod (IntKind.i64.wrap ((↑s_Reports.length : Int) - (1 : Int))) + (1 : Int))) s_Reports) ∧ ((((s_Reports.getD ((IntKind.i64.wrap at_).tmod (IntKind.i64.wrap ((↑s_Reports.length : Int) - (1 : Int)))).toNat []).getD 2 (0 : Int) !=
    (s_Reports.getD (IntKind.i64.wrap ((IntKind.i64.wrap at_).tmod (IntKind.i64.wrap ((↑s_Reports.length : Int) - (1 : Int))) + (1 : Int))).toNat []).getD 2 (0 : Int)) =
  false) → ((fitsA 104 (0 + s_Reports.length)) ∧ ((inR (IntKind.i64.wrap ((IntKind.i64.wrap at_).tmod (IntKind.i64.wrap ((↑s_Reports.length : Int) - (1 : Int))) + (1 : Int))) ([] ++ s_Reports)) ∧ ((inR (IntKind.i64.wrap ((IntKind.i64.wrap at_).tmod (IntKind.i64.wrap ((↑s_Reports.length : Int) - (1 : Int))) + (1 : Int))) ([] ++ s_Reports)) ∧ ((inR ((IntKind.i64.wrap at_).tmod (IntKind.i64.wrap ((↑s_Reports.length : Int) - (1 : Int)))) ([] ++ s_Reports)) ∧ ((inR ((IntKind.i64.wrap at_).tmod (IntKind.i64.wrap ((↑s_Reports.length : Int) - (1 : Int)))) ([] ++ s_Reports)) ∧ ((inR ((IntKind.i64.wrap at_).tmod (IntKind.i64.wrap ((↑s_Reports.length : Int) - (1 : Int)))) ([] ++ s_Reports)) ∧ ((inR ((IntKind.i64.wrap at_).tmod (IntKind.i64.wrap ((↑s_Reports.length : Int) - (1 : Int)))) ([] ++ s_Reports)) ∧ ((inR (IntKind.i64.wrap ((IntKind.i64.wrap at_).tmod (IntKind.i64.wrap ((↑s_Reports.length : Int) - (1 : Int))) + (1 : Int)))
  (([] ++ s_Reports).set ((IntKind.i64.wrap at_).tmod (IntKind.i64.wrap ((↑s_Reports.length : Int) - (1 : Int)))).toNat ((law25_DeskTogether_s14 s_From at_ most s_Base s_Forecast s_Reports wrong)))) ∧ ((inR (IntKind.i64.wrap ((IntKind.i64.wrap at_).tmod (IntKind.i64.wrap ((↑s_Reports.length : Int) - (1 : Int))) + (1 : Int)))
  (([] ++ s_Reports).set ((IntKind.i64.wrap at_).tmod (IntKind.i64.wrap ((↑s_Reports.length : Int) - (1 : Int)))).toNat ((law25_DeskTogether_s14 s_From at_ most s_Base s_Forecast s_Reports wrong)))) ∧ (((loopOk (law25_DeskTogether_l0_step s_From at_ most s_Base s_Forecast s_Reports wrong) (law25_DeskTogether_l0_init s_From at_ most s_Base s_Forecast s_Reports wrong))) ∧ ((desk_Follow_pre s_From s_Base s_Forecast s_Reports wrong) ∧ ((desk_Follow_pre s_From s_Base s_Forecast ((law25_DeskTogether_s23 s_From at_ most s_Base s_Forecast s_Reports wrong)) (gr (law25_DeskTogether_l0 s_From at_ most s_Base s_Forecast s_Reports wrong).snd 1)) ∧ ((((desk_Follow_1 s_From s_Base s_Forecast s_Reports wrong == (0 : Int)) = true) → ((((law25_head_0 && desk_Follow_1 s_From s_Base s_Forecast ((law25_DeskTogether_s23 s_From at_ most s_Base s_Forecast s_Reports wrong)) (gr (law25_DeskTogether_l0 s_From at_ most s_Base s_Forecast s_Reports wrong).snd 1) == (0 : Int)) = true) → (ref23_Same_pre (desk_Follow_0 s_From s_Base s_Forecast s_Reports wrong) (desk_Follow_0 s_From s_Base s_Forecast ((law25_DeskTogether_s23 s_From at_ most s_Base s_Forecast s_Reports wrong)) (gr (law25_DeskTogether_l0 s_From at_ most s_Base s_Forecast s_Reports wrong).snd 1)))) ∧ ((desk_Explain_pre s_From most s_Base s_Forecast s_Reports) ∧ (desk_Explain_pre s_From most s_Base s_Forecast ((law25_DeskTogether_s23 s_From at_ most s_Base s_Forecast s_Reports wrong)))))) ∧ (((desk_Follow_1 s_From s_Base s_Forecast s_Reports wrong == (0 : Int)) = false) → ((desk_Explain_pre s_From most s_Base s_Forecast s_Reports) ∧ (desk_Explain_pre s_From most s_Base s_Forecast ((law25_DeskTogether_s23 s_From at_ most s_Base s_Forecast s_Reports wrong))))))))))))))))))))))))))))
end Go.Proofs.Ytnijhjpaplihbaa
