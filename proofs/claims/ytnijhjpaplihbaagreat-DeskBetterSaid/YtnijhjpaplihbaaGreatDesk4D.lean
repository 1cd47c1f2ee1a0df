/- Parts of other texts (wip/strip.py). -/
import Derived.Test.YtnijhjpaplihbaaGreatDesk3D
import Derived.Test.YtnijhjpaplihbaaGreatDeskS
/-! Written by program (wip/sygen.py): what the Go functions compute, as the executor reads it off their code. -/
set_option maxRecDepth 100000
set_option linter.unusedVariables false
namespace Go.Proofs.YtnijhjpaplihbaaGreat
open Go Go.Sy
noncomputable def law25_head_s0  : List Int :=
  [law25_box_0 (0 : Int) (10 : Int) (0 : Int) (10 : Int), law25_box_1 (0 : Int) (10 : Int) (0 : Int) (10 : Int), law25_box_2 (0 : Int) (10 : Int) (0 : Int) (10 : Int),
  law25_box_3 (0 : Int) (10 : Int) (0 : Int) (10 : Int)]
noncomputable def law25_head_s1  : Int :=
  law25_seen_0 (1 : Int) (law25_box_0 (2 : Int) (3 : Int) (2 : Int) (3 : Int)) (law25_box_1 (2 : Int) (3 : Int) (2 : Int) (3 : Int)) (law25_box_2 (2 : Int) (3 : Int) (2 : Int) (3 : Int))
  (law25_box_3 (2 : Int) (3 : Int) (2 : Int) (3 : Int))
noncomputable def law25_head_s2  : Int :=
  law25_seen_1 (1 : Int) (law25_box_0 (2 : Int) (3 : Int) (2 : Int) (3 : Int)) (law25_box_1 (2 : Int) (3 : Int) (2 : Int) (3 : Int)) (law25_box_2 (2 : Int) (3 : Int) (2 : Int) (3 : Int))
  (law25_box_3 (2 : Int) (3 : Int) (2 : Int) (3 : Int))
noncomputable def law25_head_s3  : Int :=
  law25_seen_2 (1 : Int) (law25_box_0 (2 : Int) (3 : Int) (2 : Int) (3 : Int)) (law25_box_1 (2 : Int) (3 : Int) (2 : Int) (3 : Int)) (law25_box_2 (2 : Int) (3 : Int) (2 : Int) (3 : Int))
  (law25_box_3 (2 : Int) (3 : Int) (2 : Int) (3 : Int))
noncomputable def law25_head_s4  : Int :=
  law25_seen_3 (1 : Int) (law25_box_0 (2 : Int) (3 : Int) (2 : Int) (3 : Int)) (law25_box_1 (2 : Int) (3 : Int) (2 : Int) (3 : Int)) (law25_box_2 (2 : Int) (3 : Int) (2 : Int) (3 : Int))
  (law25_box_3 (2 : Int) (3 : Int) (2 : Int) (3 : Int))
noncomputable def law25_head_s5  : Int :=
  law25_seen_4 (1 : Int) (law25_box_0 (2 : Int) (3 : Int) (2 : Int) (3 : Int)) (law25_box_1 (2 : Int) (3 : Int) (2 : Int) (3 : Int)) (law25_box_2 (2 : Int) (3 : Int) (2 : Int) (3 : Int))
  (law25_box_3 (2 : Int) (3 : Int) (2 : Int) (3 : Int))
noncomputable def law25_head_s6  : List Int :=
  [(1 : Int), (law25_head_s2), (law25_head_s3), (law25_head_s4), (law25_head_s5), (1 : Int), (0 : Int), (0 : Int), (1 : Int), (0 : Int)]
noncomputable def law25_head_s7  : Int :=
  law25_seen_0 (2 : Int) (law25_box_0 (3 : Int) (9 : Int) (3 : Int) (3 : Int)) (law25_box_1 (3 : Int) (9 : Int) (3 : Int) (3 : Int)) (law25_box_2 (3 : Int) (9 : Int) (3 : Int) (3 : Int))
  (law25_box_3 (3 : Int) (9 : Int) (3 : Int) (3 : Int))
noncomputable def law25_head_s8  : Int :=
  law25_seen_1 (2 : Int) (law25_box_0 (3 : Int) (9 : Int) (3 : Int) (3 : Int)) (law25_box_1 (3 : Int) (9 : Int) (3 : Int) (3 : Int)) (law25_box_2 (3 : Int) (9 : Int) (3 : Int) (3 : Int))
  (law25_box_3 (3 : Int) (9 : Int) (3 : Int) (3 : Int))
noncomputable def law25_head_s9  : Int :=
  law25_seen_2 (2 : Int) (law25_box_0 (3 : Int) (9 : Int) (3 : Int) (3 : Int)) (law25_box_1 (3 : Int) (9 : Int) (3 : Int) (3 : Int)) (law25_box_2 (3 : Int) (9 : Int) (3 : Int) (3 : Int))
  (law25_box_3 (3 : Int) (9 : Int) (3 : Int) (3 : Int))
noncomputable def law25_head_s10  : Int :=
  law25_seen_3 (2 : Int) (law25_box_0 (3 : Int) (9 : Int) (3 : Int) (3 : Int)) (law25_box_1 (3 : Int) (9 : Int) (3 : Int) (3 : Int)) (law25_box_2 (3 : Int) (9 : Int) (3 : Int) (3 : Int))
  (law25_box_3 (3 : Int) (9 : Int) (3 : Int) (3 : Int))
noncomputable def law25_head_s11  : Int :=
  law25_seen_4 (2 : Int) (law25_box_0 (3 : Int) (9 : Int) (3 : Int) (3 : Int)) (law25_box_1 (3 : Int) (9 : Int) (3 : Int) (3 : Int)) (law25_box_2 (3 : Int) (9 : Int) (3 : Int) (3 : Int))
  (law25_box_3 (3 : Int) (9 : Int) (3 : Int) (3 : Int))
noncomputable def law25_head_s12  : List Int :=
  [(1 : Int), (law25_head_s8), (law25_head_s9), (law25_head_s10), (law25_head_s11), (1 : Int), (0 : Int), (0 : Int), (1 : Int), (0 : Int)]
noncomputable def law25_head_s13  : Int :=
  law25_seen_0 (3 : Int) (law25_box_0 (20 : Int) (30 : Int) (0 : Int) (10 : Int)) (law25_box_1 (20 : Int) (30 : Int) (0 : Int) (10 : Int)) (law25_box_2 (20 : Int) (30 : Int) (0 : Int) (10 : Int))
  (law25_box_3 (20 : Int) (30 : Int) (0 : Int) (10 : Int))
noncomputable def law25_head_s14  : Int :=
  law25_seen_1 (3 : Int) (law25_box_0 (20 : Int) (30 : Int) (0 : Int) (10 : Int)) (law25_box_1 (20 : Int) (30 : Int) (0 : Int) (10 : Int)) (law25_box_2 (20 : Int) (30 : Int) (0 : Int) (10 : Int))
  (law25_box_3 (20 : Int) (30 : Int) (0 : Int) (10 : Int))
noncomputable def law25_head_s15  : Int :=
  law25_seen_2 (3 : Int) (law25_box_0 (20 : Int) (30 : Int) (0 : Int) (10 : Int)) (law25_box_1 (20 : Int) (30 : Int) (0 : Int) (10 : Int)) (law25_box_2 (20 : Int) (30 : Int) (0 : Int) (10 : Int))
  (law25_box_3 (20 : Int) (30 : Int) (0 : Int) (10 : Int))
noncomputable def law25_head_s16  : Int :=
  law25_seen_3 (3 : Int) (law25_box_0 (20 : Int) (30 : Int) (0 : Int) (10 : Int)) (law25_box_1 (20 : Int) (30 : Int) (0 : Int) (10 : Int)) (law25_box_2 (20 : Int) (30 : Int) (0 : Int) (10 : Int))
  (law25_box_3 (20 : Int) (30 : Int) (0 : Int) (10 : Int))
noncomputable def law25_head_s17  : Int :=
  law25_seen_4 (3 : Int) (law25_box_0 (20 : Int) (30 : Int) (0 : Int) (10 : Int)) (law25_box_1 (20 : Int) (30 : Int) (0 : Int) (10 : Int)) (law25_box_2 (20 : Int) (30 : Int) (0 : Int) (10 : Int))
  (law25_box_3 (20 : Int) (30 : Int) (0 : Int) (10 : Int))
noncomputable def law25_head_s18  : List Int :=
  [(1 : Int), (law25_head_s14), (law25_head_s15), (law25_head_s16), (law25_head_s17), (1 : Int), (0 : Int), (0 : Int), (1 : Int), (0 : Int)]
noncomputable def law25_head_s19  : List (List Int) :=
  [(1 : Int) :: (law25_head_s1) :: (5 : Int) :: (law25_head_s6), (1 : Int) :: (law25_head_s7) :: (5 : Int) :: (law25_head_s12),
  (1 : Int) :: (law25_head_s13) :: (5 : Int) :: (law25_head_s18)]
noncomputable def law25_head_s20  : List (List Int) :=
  [[(3 : Int), (3 : Int)], [(3 : Int), (3 : Int)], [(3 : Int), (3 : Int)], [(3 : Int), (3 : Int)]]
noncomputable def law25_head_s21  : Int :=
  desk_Follow_1 (0 : Int) [(law25_head_s0)] [[(0 : Int), (100 : Int), (0 : Int), (0 : Int), (0 : Int), (0 : Int)]]
  (cutV ((law25_head_s19)) (boundsA (↑3 : Int) none (some (2 : Int))).snd.fst (boundsA (↑3 : Int) none (some (2 : Int))).snd.snd) []
noncomputable def law25_head_s22  : Int :=
  desk_Follow_1 (0 : Int) [(law25_head_s0)] [[(0 : Int), (100 : Int), (0 : Int), (0 : Int), (0 : Int), (0 : Int)]] ((law25_head_s19)) []
noncomputable def law25_head_s23  : Int :=
  desk_Explain_2 (0 : Int) (1 : Int) [(law25_head_s0)] [[(0 : Int), (100 : Int), (0 : Int), (0 : Int), (0 : Int), (0 : Int)]] ((law25_head_s19))
noncomputable def law25_head_s24  : Int :=
  desk_Explain_2 (0 : Int) (0 : Int) [(law25_head_s0)] [[(0 : Int), (100 : Int), (0 : Int), (0 : Int), (0 : Int), (0 : Int)]] ((law25_head_s19))
noncomputable def law25_head_s25  : Int :=
  desk_Where_4 (0 : Int) (1 : Int) [(law25_head_s0)] [[(0 : Int), (100 : Int), (0 : Int), (0 : Int), (0 : Int), (0 : Int)]]
  (cutV ((law25_head_s19)) (boundsA (↑3 : Int) none (some (2 : Int))).snd.fst (boundsA (↑3 : Int) none (some (2 : Int))).snd.snd)
noncomputable def law25_head_s26  : Int :=
  desk_Where_4 (0 : Int) (2 : Int) [(law25_head_s0)] [[(0 : Int), (100 : Int), (0 : Int), (0 : Int), (0 : Int), (0 : Int)]]
  (cutV ((law25_head_s19)) (boundsA (↑3 : Int) none (some (2 : Int))).snd.fst (boundsA (↑3 : Int) none (some (2 : Int))).snd.snd)
noncomputable def law25_head_s27  : Int :=
  desk_Named_1 (0 : Int) (1 : Int) [(law25_head_s0)] [[(0 : Int), (100 : Int), (0 : Int), (0 : Int), (0 : Int), (0 : Int)]] ((law25_head_s19))
noncomputable def law25_head_s28  : Int :=
  desk_Check_1 (0 : Int) [(law25_head_s0)] [[(0 : Int), (100 : Int), (0 : Int), (0 : Int), (0 : Int), (0 : Int)]] ((law25_head_s19)) [[(2 : Int)]] ((law25_head_s20))
noncomputable def law25_head_s29  : Int :=
  desk_Check_1 (0 : Int) [(law25_head_s0)] [[(0 : Int), (100 : Int), (0 : Int), (0 : Int), (0 : Int), (0 : Int)]] ((law25_head_s19)) [] ((law25_head_s20))
noncomputable def law25_head_s30  : Int :=
  desk_Follow_1 (0 : Int) [(law25_head_s0)] [[(0 : Int), (100 : Int), (0 : Int), (0 : Int), (0 : Int), (0 : Int)]]
  [(1 : Int) :: (law25_head_s1) :: (5 : Int) :: (law25_head_s6), (1 : Int) :: (law25_head_s1) :: (5 : Int) :: (law25_head_s6)] []
noncomputable def law25_head_s31  : List (List Int) :=
  desk_Follow_0 (0 : Int) [(law25_head_s0)] [[(0 : Int), (100 : Int), (0 : Int), (0 : Int), (0 : Int), (0 : Int)]]
  (cutV ((law25_head_s19)) (boundsA (↑3 : Int) none (some (2 : Int))).snd.fst (boundsA (↑3 : Int) none (some (2 : Int))).snd.snd) []
noncomputable def law25_head_s32  : List Int :=
  [law25_box_0 (3 : Int) (3 : Int) (3 : Int) (3 : Int), law25_box_1 (3 : Int) (3 : Int) (3 : Int) (3 : Int), law25_box_2 (3 : Int) (3 : Int) (3 : Int) (3 : Int),
  law25_box_3 (3 : Int) (3 : Int) (3 : Int) (3 : Int)]
noncomputable def law25_head_s33  : List (List Int) :=
  desk_Explain_0 (0 : Int) (1 : Int) [(law25_head_s0)] [[(0 : Int), (100 : Int), (0 : Int), (0 : Int), (0 : Int), (0 : Int)]] ((law25_head_s19))
noncomputable def law25_head_s34  : List (List Int) :=
  desk_Explain_1 (0 : Int) (1 : Int) [(law25_head_s0)] [[(0 : Int), (100 : Int), (0 : Int), (0 : Int), (0 : Int), (0 : Int)]] ((law25_head_s19))
noncomputable def law25_head_s35  : Int :=
  desk_Where_0 (0 : Int) (1 : Int) [(law25_head_s0)] [[(0 : Int), (100 : Int), (0 : Int), (0 : Int), (0 : Int), (0 : Int)]]
  (cutV ((law25_head_s19)) (boundsA (↑3 : Int) none (some (2 : Int))).snd.fst (boundsA (↑3 : Int) none (some (2 : Int))).snd.snd)
noncomputable def law25_head_s36  : Int :=
  desk_Where_1 (0 : Int) (1 : Int) [(law25_head_s0)] [[(0 : Int), (100 : Int), (0 : Int), (0 : Int), (0 : Int), (0 : Int)]]
  (cutV ((law25_head_s19)) (boundsA (↑3 : Int) none (some (2 : Int))).snd.fst (boundsA (↑3 : Int) none (some (2 : Int))).snd.snd)
noncomputable def law25_head_s37  : Int :=
  desk_Where_2 (0 : Int) (1 : Int) [(law25_head_s0)] [[(0 : Int), (100 : Int), (0 : Int), (0 : Int), (0 : Int), (0 : Int)]]
  (cutV ((law25_head_s19)) (boundsA (↑3 : Int) none (some (2 : Int))).snd.fst (boundsA (↑3 : Int) none (some (2 : Int))).snd.snd)
noncomputable def law25_head_s38  : Int :=
  desk_Where_3 (0 : Int) (1 : Int) [(law25_head_s0)] [[(0 : Int), (100 : Int), (0 : Int), (0 : Int), (0 : Int), (0 : Int)]]
  (cutV ((law25_head_s19)) (boundsA (↑3 : Int) none (some (2 : Int))).snd.fst (boundsA (↑3 : Int) none (some (2 : Int))).snd.snd)
noncomputable def law25_head_s39  : Int :=
  desk_Where_0 (0 : Int) (2 : Int) [(law25_head_s0)] [[(0 : Int), (100 : Int), (0 : Int), (0 : Int), (0 : Int), (0 : Int)]]
  (cutV ((law25_head_s19)) (boundsA (↑3 : Int) none (some (2 : Int))).snd.fst (boundsA (↑3 : Int) none (some (2 : Int))).snd.snd)
noncomputable def law25_head_s40  : Int :=
  desk_Where_1 (0 : Int) (2 : Int) [(law25_head_s0)] [[(0 : Int), (100 : Int), (0 : Int), (0 : Int), (0 : Int), (0 : Int)]]
  (cutV ((law25_head_s19)) (boundsA (↑3 : Int) none (some (2 : Int))).snd.fst (boundsA (↑3 : Int) none (some (2 : Int))).snd.snd)
noncomputable def law25_head_s41  : Int :=
  desk_Where_2 (0 : Int) (2 : Int) [(law25_head_s0)] [[(0 : Int), (100 : Int), (0 : Int), (0 : Int), (0 : Int), (0 : Int)]]
  (cutV ((law25_head_s19)) (boundsA (↑3 : Int) none (some (2 : Int))).snd.fst (boundsA (↑3 : Int) none (some (2 : Int))).snd.snd)
noncomputable def law25_head_s42  : Int :=
  desk_Where_3 (0 : Int) (2 : Int) [(law25_head_s0)] [[(0 : Int), (100 : Int), (0 : Int), (0 : Int), (0 : Int), (0 : Int)]]
  (cutV ((law25_head_s19)) (boundsA (↑3 : Int) none (some (2 : Int))).snd.fst (boundsA (↑3 : Int) none (some (2 : Int))).snd.snd)
noncomputable def law25_head_s43  : List (List Int) :=
  desk_Named_0 (0 : Int) (1 : Int) [(law25_head_s0)] [[(0 : Int), (100 : Int), (0 : Int), (0 : Int), (0 : Int), (0 : Int)]] ((law25_head_s19))
noncomputable def law25_head_0  : Bool :=
  bif
    (law25_head_s21) == (0 : Int) && (law25_head_s22) == (18 : Int) && (law25_head_s23) == (0 : Int) && (law25_head_s24) == (18 : Int) && (law25_head_s25) == (0 : Int) &&
                (law25_head_s26) == (0 : Int) &&
              (law25_head_s27) == (0 : Int) &&
            (law25_head_s28) == (0 : Int) &&
          (law25_head_s29) == (0 : Int) &&
        (law25_head_s30) == (5 : Int) &&
      ref23_Same_0 ((law25_head_s31)) [(law25_head_s32)] then
  bif
      ref24_Ints_0 ((law25_head_s33)) [[(2 : Int)]] && ref23_Same_0 ((law25_head_s34)) [(law25_head_s32)] &&
          ((law25_head_s35) == law25_box_0 (2 : Int) (9 : Int) (2 : Int) (3 : Int) && ((law25_head_s36) == law25_box_1 (2 : Int) (9 : Int) (2 : Int) (3 : Int) && true) &&
            ((law25_head_s37) == law25_box_2 (2 : Int) (9 : Int) (2 : Int) (3 : Int) && ((law25_head_s38) == law25_box_3 (2 : Int) (9 : Int) (2 : Int) (3 : Int) && true) && true)) &&
        ((law25_head_s39) == law25_box_0 (0 : Int) (10 : Int) (0 : Int) (10 : Int) && ((law25_head_s40) == law25_box_1 (0 : Int) (10 : Int) (0 : Int) (10 : Int) && true) &&
          ((law25_head_s41) == law25_box_2 (0 : Int) (10 : Int) (0 : Int) (10 : Int) && ((law25_head_s42) == law25_box_3 (0 : Int) (10 : Int) (0 : Int) (10 : Int) && true) && true)) then
    ref24_Ints_0 ((law25_head_s43)) [[(2 : Int)]] &&
        desk_Check_0 (0 : Int) [(law25_head_s0)] [[(0 : Int), (100 : Int), (0 : Int), (0 : Int), (0 : Int), (0 : Int)]] ((law25_head_s19)) [[(2 : Int)]] ((law25_head_s20)) &&
      !desk_Check_0 (0 : Int) [(law25_head_s0)] [[(0 : Int), (100 : Int), (0 : Int), (0 : Int), (0 : Int), (0 : Int)]] ((law25_head_s19)) [] ((law25_head_s20))
  else false
else false
def law25_head_pre  : Prop :=
  ((((0 : Int) ≤ (2 : Int)) ∧ ((2 : Int) ≤ (↑3 : Int))) ∧ (((((↑(loN (boundsA (↑3 : Int) none (some (2 : Int))).snd.fst) : Int) ≤ (boundsA (↑3 : Int) none (some (2 : Int))).snd.snd) ∧ ((boundsA (↑3 : Int) none (some (2 : Int))).snd.snd ≤ (↑3 : Int))) ∧ (desk_Follow_pre (0 : Int) [(law25_head_s0)] [[(0 : Int), (100 : Int), (0 : Int), (0 : Int), (0 : Int), (0 : Int)]]
  (cutV ((law25_head_s19)) (boundsA (↑3 : Int) none (some (2 : Int))).snd.fst (boundsA (↑3 : Int) none (some (2 : Int))).snd.snd) [])) ∧ ((desk_Follow_pre (0 : Int) [(law25_head_s0)] [[(0 : Int), (100 : Int), (0 : Int), (0 : Int), (0 : Int), (0 : Int)]] ((law25_head_s19)) []) ∧ ((desk_Explain_pre (0 : Int) (1 : Int) [(law25_head_s0)] [[(0 : Int), (100 : Int), (0 : Int), (0 : Int), (0 : Int), (0 : Int)]] ((law25_head_s19))) ∧ ((desk_Explain_pre (0 : Int) (0 : Int) [(law25_head_s0)] [[(0 : Int), (100 : Int), (0 : Int), (0 : Int), (0 : Int), (0 : Int)]] ((law25_head_s19))) ∧ ((((0 : Int) ≤ (2 : Int)) ∧ ((2 : Int) ≤ (↑3 : Int))) ∧ (((((↑(loN (boundsA (↑3 : Int) none (some (2 : Int))).snd.fst) : Int) ≤ (boundsA (↑3 : Int) none (some (2 : Int))).snd.snd) ∧ ((boundsA (↑3 : Int) none (some (2 : Int))).snd.snd ≤ (↑3 : Int))) ∧ (desk_Where_pre (0 : Int) (1 : Int) [(law25_head_s0)] [[(0 : Int), (100 : Int), (0 : Int), (0 : Int), (0 : Int), (0 : Int)]]
  (cutV ((law25_head_s19)) (boundsA (↑3 : Int) none (some (2 : Int))).snd.fst (boundsA (↑3 : Int) none (some (2 : Int))).snd.snd))) ∧ ((((0 : Int) ≤ (2 : Int)) ∧ ((2 : Int) ≤ (↑3 : Int))) ∧ (((((↑(loN (boundsA (↑3 : Int) none (some (2 : Int))).snd.fst) : Int) ≤ (boundsA (↑3 : Int) none (some (2 : Int))).snd.snd) ∧ ((boundsA (↑3 : Int) none (some (2 : Int))).snd.snd ≤ (↑3 : Int))) ∧ (desk_Where_pre (0 : Int) (2 : Int) [(law25_head_s0)] [[(0 : Int), (100 : Int), (0 : Int), (0 : Int), (0 : Int), (0 : Int)]]
  (cutV ((law25_head_s19)) (boundsA (↑3 : Int) none (some (2 : Int))).snd.fst (boundsA (↑3 : Int) none (some (2 : Int))).snd.snd))) ∧ ((desk_Named_pre (0 : Int) (1 : Int) [(law25_head_s0)] [[(0 : Int), (100 : Int), (0 : Int), (0 : Int), (0 : Int), (0 : Int)]] ((law25_head_s19))) ∧ ((desk_Check_pre (0 : Int) [(law25_head_s0)] [[(0 : Int), (100 : Int), (0 : Int), (0 : Int), (0 : Int), (0 : Int)]] ((law25_head_s19)) [[(2 : Int)]] ((law25_head_s20))) ∧ ((desk_Check_pre (0 : Int) [(law25_head_s0)] [[(0 : Int), (100 : Int), (0 : Int), (0 : Int), (0 : Int), (0 : Int)]] ((law25_head_s19)) [] ((law25_head_s20))) ∧ ((desk_Follow_pre (0 : Int) [(law25_head_s0)] [[(0 : Int), (100 : Int), (0 : Int), (0 : Int), (0 : Int), (0 : Int)]]
  [(1 : Int) :: (law25_head_s1) :: (5 : Int) :: (law25_head_s6), (1 : Int) :: (law25_head_s1) :: (5 : Int) :: (law25_head_s6)] []) ∧ (((((law25_head_s21) == (0 : Int) && (law25_head_s22) == (18 : Int) && (law25_head_s23) == (0 : Int) && (law25_head_s24) == (18 : Int) && (law25_head_s25) == (0 : Int) &&
              (law25_head_s26) == (0 : Int) &&
            (law25_head_s27) == (0 : Int) &&
          (law25_head_s28) == (0 : Int) &&
        (law25_head_s29) == (0 : Int) &&
      (law25_head_s30) == (5 : Int) &&
    ref23_Same_0 ((law25_head_s31)) [(law25_head_s32)]) =
  true) → ((((ref24_Ints_0 ((law25_head_s33)) [[(2 : Int)]] && ref23_Same_0 ((law25_head_s34)) [(law25_head_s32)] &&
      ((law25_head_s35) == law25_box_0 (2 : Int) (9 : Int) (2 : Int) (3 : Int) && ((law25_head_s36) == law25_box_1 (2 : Int) (9 : Int) (2 : Int) (3 : Int) && true) &&
        ((law25_head_s37) == law25_box_2 (2 : Int) (9 : Int) (2 : Int) (3 : Int) && ((law25_head_s38) == law25_box_3 (2 : Int) (9 : Int) (2 : Int) (3 : Int) && true) && true)) &&
    ((law25_head_s39) == law25_box_0 (0 : Int) (10 : Int) (0 : Int) (10 : Int) && ((law25_head_s40) == law25_box_1 (0 : Int) (10 : Int) (0 : Int) (10 : Int) && true) &&
      ((law25_head_s41) == law25_box_2 (0 : Int) (10 : Int) (0 : Int) (10 : Int) && ((law25_head_s42) == law25_box_3 (0 : Int) (10 : Int) (0 : Int) (10 : Int) && true) && true))) =
  true) → (((((law25_head_s21) == (0 : Int) && (law25_head_s22) == (18 : Int) && (law25_head_s23) == (0 : Int) && (law25_head_s24) == (18 : Int) && (law25_head_s25) == (0 : Int) &&
            (law25_head_s26) == (0 : Int) &&
          (law25_head_s27) == (0 : Int) &&
        (law25_head_s28) == (0 : Int) &&
      (law25_head_s29) == (0 : Int) &&
    (law25_head_s30) == (5 : Int)) =
  true) → (ref23_Same_pre ((law25_head_s31)) [(law25_head_s32)])) ∧ ((((law25_head_s21) == (0 : Int) && (law25_head_s22) == (18 : Int) && (law25_head_s23) == (0 : Int) && (law25_head_s24) == (18 : Int) && (law25_head_s25) == (0 : Int) &&
              (law25_head_s26) == (0 : Int) &&
            (law25_head_s27) == (0 : Int) &&
          (law25_head_s28) == (0 : Int) &&
        (law25_head_s29) == (0 : Int) &&
      (law25_head_s30) == (5 : Int) &&
    ref23_Same_0 ((law25_head_s31)) [(law25_head_s32)]) =
  true) ∧ (((true = true) → (ref24_Ints_pre ((law25_head_s33)) [[(2 : Int)]])) ∧ (((ref24_Ints_0 ((law25_head_s33)) [[(2 : Int)]] = true) → (ref23_Same_pre ((law25_head_s34)) [(law25_head_s32)])) ∧ (((ref24_Ints_0 ((law25_head_s33)) [[(2 : Int)]] && ref23_Same_0 ((law25_head_s34)) [(law25_head_s32)] &&
      ((law25_head_s35) == law25_box_0 (2 : Int) (9 : Int) (2 : Int) (3 : Int) && ((law25_head_s36) == law25_box_1 (2 : Int) (9 : Int) (2 : Int) (3 : Int) && true) &&
        ((law25_head_s37) == law25_box_2 (2 : Int) (9 : Int) (2 : Int) (3 : Int) && ((law25_head_s38) == law25_box_3 (2 : Int) (9 : Int) (2 : Int) (3 : Int) && true) && true)) &&
    ((law25_head_s39) == law25_box_0 (0 : Int) (10 : Int) (0 : Int) (10 : Int) && ((law25_head_s40) == law25_box_1 (0 : Int) (10 : Int) (0 : Int) (10 : Int) && true) &&
      ((law25_head_s41) == law25_box_2 (0 : Int) (10 : Int) (0 : Int) (10 : Int) && ((law25_head_s42) == law25_box_3 (0 : Int) (10 : Int) (0 : Int) (10 : Int) && true) && true))) =
  true) ∧ ((true = true) → (ref24_Ints_pre ((law25_head_s43)) [[(2 : Int)]])))))))) ∧ (((ref24_Ints_0 ((law25_head_s33)) [[(2 : Int)]] && ref23_Same_0 ((law25_head_s34)) [(law25_head_s32)] &&
      ((law25_head_s35) == law25_box_0 (2 : Int) (9 : Int) (2 : Int) (3 : Int) && ((law25_head_s36) == law25_box_1 (2 : Int) (9 : Int) (2 : Int) (3 : Int) && true) &&
        ((law25_head_s37) == law25_box_2 (2 : Int) (9 : Int) (2 : Int) (3 : Int) && ((law25_head_s38) == law25_box_3 (2 : Int) (9 : Int) (2 : Int) (3 : Int) && true) && true)) &&
    ((law25_head_s39) == law25_box_0 (0 : Int) (10 : Int) (0 : Int) (10 : Int) && ((law25_head_s40) == law25_box_1 (0 : Int) (10 : Int) (0 : Int) (10 : Int) && true) &&
      ((law25_head_s41) == law25_box_2 (0 : Int) (10 : Int) (0 : Int) (10 : Int) && ((law25_head_s42) == law25_box_3 (0 : Int) (10 : Int) (0 : Int) (10 : Int) && true) && true))) =
  false) → (((((law25_head_s21) == (0 : Int) && (law25_head_s22) == (18 : Int) && (law25_head_s23) == (0 : Int) && (law25_head_s24) == (18 : Int) && (law25_head_s25) == (0 : Int) &&
            (law25_head_s26) == (0 : Int) &&
          (law25_head_s27) == (0 : Int) &&
        (law25_head_s28) == (0 : Int) &&
      (law25_head_s29) == (0 : Int) &&
    (law25_head_s30) == (5 : Int)) =
  true) → (ref23_Same_pre ((law25_head_s31)) [(law25_head_s32)])) ∧ ((((law25_head_s21) == (0 : Int) && (law25_head_s22) == (18 : Int) && (law25_head_s23) == (0 : Int) && (law25_head_s24) == (18 : Int) && (law25_head_s25) == (0 : Int) &&
              (law25_head_s26) == (0 : Int) &&
            (law25_head_s27) == (0 : Int) &&
          (law25_head_s28) == (0 : Int) &&
        (law25_head_s29) == (0 : Int) &&
      (law25_head_s30) == (5 : Int) &&
    ref23_Same_0 ((law25_head_s31)) [(law25_head_s32)]) =
  true) ∧ (((true = true) → (ref24_Ints_pre ((law25_head_s33)) [[(2 : Int)]])) ∧ (((ref24_Ints_0 ((law25_head_s33)) [[(2 : Int)]] = true) → (ref23_Same_pre ((law25_head_s34)) [(law25_head_s32)])) ∧ ((ref24_Ints_0 ((law25_head_s33)) [[(2 : Int)]] && ref23_Same_0 ((law25_head_s34)) [(law25_head_s32)] &&
      ((law25_head_s35) == law25_box_0 (2 : Int) (9 : Int) (2 : Int) (3 : Int) && ((law25_head_s36) == law25_box_1 (2 : Int) (9 : Int) (2 : Int) (3 : Int) && true) &&
        ((law25_head_s37) == law25_box_2 (2 : Int) (9 : Int) (2 : Int) (3 : Int) && ((law25_head_s38) == law25_box_3 (2 : Int) (9 : Int) (2 : Int) (3 : Int) && true) && true)) &&
    ((law25_head_s39) == law25_box_0 (0 : Int) (10 : Int) (0 : Int) (10 : Int) && ((law25_head_s40) == law25_box_1 (0 : Int) (10 : Int) (0 : Int) (10 : Int) && true) &&
      ((law25_head_s41) == law25_box_2 (0 : Int) (10 : Int) (0 : Int) (10 : Int) && ((law25_head_s42) == law25_box_3 (0 : Int) (10 : Int) (0 : Int) (10 : Int) && true) && true))) =
  false)))))))) ∧ ((((law25_head_s21) == (0 : Int) && (law25_head_s22) == (18 : Int) && (law25_head_s23) == (0 : Int) && (law25_head_s24) == (18 : Int) && (law25_head_s25) == (0 : Int) &&
              (law25_head_s26) == (0 : Int) &&
            (law25_head_s27) == (0 : Int) &&
          (law25_head_s28) == (0 : Int) &&
        (law25_head_s29) == (0 : Int) &&
      (law25_head_s30) == (5 : Int) &&
    ref23_Same_0 ((law25_head_s31)) [(law25_head_s32)]) =
  false) → (((((law25_head_s21) == (0 : Int) && (law25_head_s22) == (18 : Int) && (law25_head_s23) == (0 : Int) && (law25_head_s24) == (18 : Int) && (law25_head_s25) == (0 : Int) &&
            (law25_head_s26) == (0 : Int) &&
          (law25_head_s27) == (0 : Int) &&
        (law25_head_s28) == (0 : Int) &&
      (law25_head_s29) == (0 : Int) &&
    (law25_head_s30) == (5 : Int)) =
  true) → (ref23_Same_pre ((law25_head_s31)) [(law25_head_s32)])) ∧ (((law25_head_s21) == (0 : Int) && (law25_head_s22) == (18 : Int) && (law25_head_s23) == (0 : Int) && (law25_head_s24) == (18 : Int) && (law25_head_s25) == (0 : Int) &&
              (law25_head_s26) == (0 : Int) &&
            (law25_head_s27) == (0 : Int) &&
          (law25_head_s28) == (0 : Int) &&
        (law25_head_s29) == (0 : Int) &&
      (law25_head_s30) == (5 : Int) &&
    ref23_Same_0 ((law25_head_s31)) [(law25_head_s32)]) =
  false)))))))))))))))))
end Go.Proofs.YtnijhjpaplihbaaGreat

