/- Written by program (wip/sygen.py): what the Go functions compute, as the executor reads it off their code. -/
import Derived.Test.YtddfnokjnafdpaaGreatSyD
import Derived.Test.YtddfnokjnafdpaaGreatDrift1D
import Derived.Test.YtddfnokjnafdpaaGreatSySo
import Derived.Test.YtddfnokjnafdpaaGreatDriftCD
import Derived.Test.YtddfnokjnafdpaaGreatDriftBD
import Derived.Test.YtddfnokjnafdpaaGreatDriftFD
set_option maxRecDepth 100000
set_option linter.unusedVariables false
namespace Go.Proofs.YtddfnokjnafdpaaGreat
open Go Go.Sy
noncomputable def ref23_Tidy_s0 (list : List (List Int)) (y0 y2 : List U) : List (List Int) :=
  cutV (gr y0 1) (boundsA (↑(gr y0 1).length : Int) none (some (gi y2 1))).snd.fst (boundsA (↑(gr y0 1).length : Int) none (some (gi y2 1))).snd.snd
noncomputable def ref23_Tidy_s1 (list : List (List Int)) (y0 y1 y2 : List U) : Int :=
  ref02_JoinBox_0 (((gr y0 1).getD (gi y1 1).toNat []).getD 0 (0 : Int)) (((gr y0 1).getD (gi y1 1).toNat []).getD 1 (0 : Int))
  (((gr y0 1).getD (gi y1 1).toNat []).getD 2 (0 : Int)) (((gr y0 1).getD (gi y1 1).toNat []).getD 3 (0 : Int))
  (((gr y0 1).getD (gi y2 1).toNat []).getD 0 (0 : Int)) (((gr y0 1).getD (gi y2 1).toNat []).getD 1 (0 : Int))
  (((gr y0 1).getD (gi y2 1).toNat []).getD 2 (0 : Int)) (((gr y0 1).getD (gi y2 1).toNat []).getD 3 (0 : Int))
noncomputable def ref23_Tidy_s2 (list : List (List Int)) (y0 y1 y2 : List U) : Int :=
  ref02_JoinBox_1 (((gr y0 1).getD (gi y1 1).toNat []).getD 0 (0 : Int)) (((gr y0 1).getD (gi y1 1).toNat []).getD 1 (0 : Int))
  (((gr y0 1).getD (gi y1 1).toNat []).getD 2 (0 : Int)) (((gr y0 1).getD (gi y1 1).toNat []).getD 3 (0 : Int))
  (((gr y0 1).getD (gi y2 1).toNat []).getD 0 (0 : Int)) (((gr y0 1).getD (gi y2 1).toNat []).getD 1 (0 : Int))
  (((gr y0 1).getD (gi y2 1).toNat []).getD 2 (0 : Int)) (((gr y0 1).getD (gi y2 1).toNat []).getD 3 (0 : Int))
noncomputable def ref23_Tidy_s3 (list : List (List Int)) (y0 y1 y2 : List U) : Int :=
  ref02_JoinBox_2 (((gr y0 1).getD (gi y1 1).toNat []).getD 0 (0 : Int)) (((gr y0 1).getD (gi y1 1).toNat []).getD 1 (0 : Int))
  (((gr y0 1).getD (gi y1 1).toNat []).getD 2 (0 : Int)) (((gr y0 1).getD (gi y1 1).toNat []).getD 3 (0 : Int))
  (((gr y0 1).getD (gi y2 1).toNat []).getD 0 (0 : Int)) (((gr y0 1).getD (gi y2 1).toNat []).getD 1 (0 : Int))
  (((gr y0 1).getD (gi y2 1).toNat []).getD 2 (0 : Int)) (((gr y0 1).getD (gi y2 1).toNat []).getD 3 (0 : Int))
noncomputable def ref23_Tidy_s4 (list : List (List Int)) (y0 y1 y2 : List U) : Int :=
  ref02_JoinBox_3 (((gr y0 1).getD (gi y1 1).toNat []).getD 0 (0 : Int)) (((gr y0 1).getD (gi y1 1).toNat []).getD 1 (0 : Int))
  (((gr y0 1).getD (gi y1 1).toNat []).getD 2 (0 : Int)) (((gr y0 1).getD (gi y1 1).toNat []).getD 3 (0 : Int))
  (((gr y0 1).getD (gi y2 1).toNat []).getD 0 (0 : Int)) (((gr y0 1).getD (gi y2 1).toNat []).getD 1 (0 : Int))
  (((gr y0 1).getD (gi y2 1).toNat []).getD 2 (0 : Int)) (((gr y0 1).getD (gi y2 1).toNat []).getD 3 (0 : Int))
noncomputable def ref23_Tidy_s5 (list : List (List Int)) (y0 y1 y2 : List U) : List Int :=
  setEl 4 (([] ++ (ref23_Tidy_s0 list y0 y2)).getD (gi y1 1).toNat []) 0 [(ref23_Tidy_s1 list y0 y1 y2), (ref23_Tidy_s2 list y0 y1 y2), (ref23_Tidy_s3 list y0 y1 y2), (ref23_Tidy_s4 list y0 y1 y2)]
noncomputable def ref23_Tidy_s6 (list : List (List Int)) (y0 y2 : List U) : List (List Int) :=
  cutV (gr y0 1) (boundsA (↑(gr y0 1).length : Int) (some (IntKind.i64.wrap (gi y2 1 + (1 : Int)))) none).snd.fst
  (boundsA (↑(gr y0 1).length : Int) (some (IntKind.i64.wrap (gi y2 1 + (1 : Int)))) none).snd.snd
noncomputable def ref23_Tidy_l2_init (list : List (List Int)) (y0 y1 : List U) : List U :=
  [.b (gb y1 0), .i (IntKind.i64.wrap (gi y1 1 + (1 : Int)))]
noncomputable def ref23_Tidy_l2_step (list : List (List Int)) (y0 y1 : List U) (y2 : List U) : Option (Nat × List U) :=
  (bif decide (gi y2 1 < (↑(gr y0 1).length : Int)) then guardP (inR (gi y1 1) (gr y0 1)) (guardP (inR (gi y1 1) (gr y0 1)) (guardP (inR (gi y2 1) (gr y0 1)) (guardP (inR (gi y2 1) (gr y0 1)) ((bif ref23_Joins_0 (((gr y0 1).getD (gi y1 1).toNat []).getD 0 (0 : Int)) (((gr y0 1).getD (gi y1 1).toNat []).getD 1 (0 : Int))
  (((gr y0 1).getD (gi y1 1).toNat []).getD 2 (0 : Int)) (((gr y0 1).getD (gi y1 1).toNat []).getD 3 (0 : Int))
  (((gr y0 1).getD (gi y2 1).toNat []).getD 0 (0 : Int)) (((gr y0 1).getD (gi y2 1).toNat []).getD 1 (0 : Int))
  (((gr y0 1).getD (gi y2 1).toNat []).getD 2 (0 : Int)) (((gr y0 1).getD (gi y2 1).toNat []).getD 3 (0 : Int)) then guardP (((0 : Int) ≤ gi y2 1) ∧ (gi y2 1 ≤ (↑(gr y0 1).length : Int))) (guardP ((((↑(loN (boundsA (↑(gr y0 1).length : Int) none (some (gi y2 1))).snd.fst) : Int) ≤ (boundsA (↑(gr y0 1).length : Int) none (some (gi y2 1))).snd.snd) ∧ ((boundsA (↑(gr y0 1).length : Int) none (some (gi y2 1))).snd.snd ≤ (↑(gr y0 1).length : Int))) ∧ (fitsA 32 (0 + ((ref23_Tidy_s0 list y0 y2)).length))) (guardP (inR (gi y1 1) (gr y0 1)) (guardP (inR (gi y1 1) (gr y0 1)) (guardP (inR (gi y2 1) (gr y0 1)) (guardP (inR (gi y2 1) (gr y0 1)) (guardP (inR (gi y1 1) ([] ++ (ref23_Tidy_s0 list y0 y2))) (guardP (inR (gi y1 1) ([] ++ (ref23_Tidy_s0 list y0 y2))) (guardP (((0 : Int) ≤ IntKind.i64.wrap (gi y2 1 + (1 : Int))) ∧ (IntKind.i64.wrap (gi y2 1 + (1 : Int)) ≤ (↑(gr y0 1).length : Int))) (guardP ((((↑(loN (boundsA (↑(gr y0 1).length : Int) (some (IntKind.i64.wrap (gi y2 1 + (1 : Int)))) none).snd.fst) : Int) ≤
  (boundsA (↑(gr y0 1).length : Int) (some (IntKind.i64.wrap (gi y2 1 + (1 : Int)))) none).snd.snd) ∧ ((boundsA (↑(gr y0 1).length : Int) (some (IntKind.i64.wrap (gi y2 1 + (1 : Int)))) none).snd.snd ≤ (↑(gr y0 1).length : Int))) ∧ (fitsA 32 ((([] ++ (ref23_Tidy_s0 list y0 y2)).set (gi y1 1).toNat ((ref23_Tidy_s5 list y0 y1 y2))).length + ((ref23_Tidy_s6 list y0 y2)).length))) (some (1, [.r (([] ++ (ref23_Tidy_s0 list y0 y2)).set (gi y1 1).toNat ((ref23_Tidy_s5 list y0 y1 y2)) ++ (ref23_Tidy_s6 list y0 y2))]))))))))))) else some (0, [.b (gb y2 0), .i (IntKind.i64.wrap (gi y2 1 + (1 : Int)))])))))) else some (3, [.b (gb y2 0), .i (gi y2 1)]))
noncomputable def ref23_Tidy_l2 (list : List (List Int)) (y0 y1 : List U) : Nat × List U := loopGet (ref23_Tidy_l2_step list y0 y1) (ref23_Tidy_l2_init list y0 y1)
noncomputable def ref23_Tidy_l1_init (list : List (List Int)) (y0 : List U) : List U :=
  [.b (false), .i ((0 : Int))]
noncomputable def ref23_Tidy_l1_step (list : List (List Int)) (y0 : List U) (y1 : List U) : Option (Nat × List U) :=
  (bif decide (gi y1 1 < (↑(gr y0 1).length : Int)) then guardP ((loopOk (ref23_Tidy_l2_step list y0 y1) (ref23_Tidy_l2_init list y0 y1))) ((bif (ref23_Tidy_l2 list y0 y1).fst.beq 1 then some (1, [.r (gr (ref23_Tidy_l2 list y0 y1).snd 0)]) else some (0, [.b (gb (ref23_Tidy_l2 list y0 y1).snd 0), .i (IntKind.i64.wrap (gi y1 1 + (1 : Int)))]))) else some (3, [.b (gb y1 0), .i (gi y1 1)]))
noncomputable def ref23_Tidy_l1 (list : List (List Int)) (y0 : List U) : Nat × List U := loopGet (ref23_Tidy_l1_step list y0) (ref23_Tidy_l1_init list y0)
noncomputable def ref23_Tidy_l0_init (list : List (List Int)) : List U :=
  [.b (true), .r ([] ++ list)]
noncomputable def ref23_Tidy_l0_step (list : List (List Int)) (y0 : List U) : Option (Nat × List U) :=
  (bif gb y0 0 then guardP ((loopOk (ref23_Tidy_l1_step list y0) (ref23_Tidy_l1_init list y0))) ((bif (ref23_Tidy_l1 list y0).fst.beq 1 then some (0, [.b (true), .r (gr (ref23_Tidy_l1 list y0).snd 0)]) else some (0, [.b (false), .r (gr y0 1)]))) else some (3, [.b (gb y0 0), .r (gr y0 1)]))
noncomputable def ref23_Tidy_l0 (list : List (List Int)) : Nat × List U := loopGet (ref23_Tidy_l0_step list) (ref23_Tidy_l0_init list)
noncomputable def ref23_Tidy_s7 (list : List (List Int)) (y4 : List U) : List Int :=
  [((gr y4 1).getD (IntKind.i64.wrap (gi y4 0 - (1 : Int))).toNat []).getD 2 (0 : Int),
  ((gr y4 1).getD (IntKind.i64.wrap (gi y4 0 - (1 : Int))).toNat []).getD 3 (0 : Int)]
noncomputable def ref23_Tidy_s8 (list : List (List Int)) (y4 : List U) : List Int :=
  ((gr y4 1).getD (IntKind.i64.wrap (gi y4 0 - (1 : Int))).toNat []).getD 0 (0 : Int) ::
  ((gr y4 1).getD (IntKind.i64.wrap (gi y4 0 - (1 : Int))).toNat []).getD 1 (0 : Int) :: (ref23_Tidy_s7 list y4)
noncomputable def ref23_Tidy_s9 (list : List (List Int)) (y4 : List U) : List Int :=
  ((gr y4 1).set (gi y4 0).toNat (setEl 4 ((gr y4 1).getD (gi y4 0).toNat []) 0 ((ref23_Tidy_s8 list y4)))).getD
  (IntKind.i64.wrap (gi y4 0 - (1 : Int))).toNat []
noncomputable def ref23_Tidy_s10 (list : List (List Int)) (y4 : List U) : List Int :=
  [((gr y4 1).getD (gi y4 0).toNat []).getD 1 (0 : Int), ((gr y4 1).getD (gi y4 0).toNat []).getD 2 (0 : Int),
  ((gr y4 1).getD (gi y4 0).toNat []).getD 3 (0 : Int)]
noncomputable def ref23_Tidy_s11 (list : List (List Int)) (y4 : List U) : List (List Int) :=
  ((gr y4 1).set (gi y4 0).toNat (setEl 4 ((gr y4 1).getD (gi y4 0).toNat []) 0 ((ref23_Tidy_s8 list y4)))).set
  (IntKind.i64.wrap (gi y4 0 - (1 : Int))).toNat
  (setEl 4 ((ref23_Tidy_s9 list y4)) 0 (((gr y4 1).getD (gi y4 0).toNat []).getD 0 (0 : Int) :: (ref23_Tidy_s10 list y4)))
noncomputable def ref23_Tidy_l4_init (list : List (List Int)) (y3 : List U) : List U :=
  [.i (gi y3 0), .r (gr y3 1)]
noncomputable def ref23_Tidy_l4_step (list : List (List Int)) (y3 : List U) (y4 : List U) : Option (Nat × List U) :=
  guardP ((decide (gi y4 0 > (0 : Int)) = true) → (inR (gi y4 0) (gr y4 1))) (guardP ((decide (gi y4 0 > (0 : Int)) = true) → (inR (gi y4 0) (gr y4 1))) (guardP ((decide (gi y4 0 > (0 : Int)) = true) → (inR (IntKind.i64.wrap (gi y4 0 - (1 : Int))) (gr y4 1))) (guardP ((decide (gi y4 0 > (0 : Int)) = true) → (inR (IntKind.i64.wrap (gi y4 0 - (1 : Int))) (gr y4 1))) ((bif decide (gi y4 0 > (0 : Int)) &&
  ref23_before_0 (((gr y4 1).getD (gi y4 0).toNat []).getD 0 (0 : Int)) (((gr y4 1).getD (gi y4 0).toNat []).getD 1 (0 : Int))
    (((gr y4 1).getD (gi y4 0).toNat []).getD 2 (0 : Int)) (((gr y4 1).getD (gi y4 0).toNat []).getD 3 (0 : Int))
    (((gr y4 1).getD (IntKind.i64.wrap (gi y4 0 - (1 : Int))).toNat []).getD 0 (0 : Int))
    (((gr y4 1).getD (IntKind.i64.wrap (gi y4 0 - (1 : Int))).toNat []).getD 1 (0 : Int))
    (((gr y4 1).getD (IntKind.i64.wrap (gi y4 0 - (1 : Int))).toNat []).getD 2 (0 : Int))
    (((gr y4 1).getD (IntKind.i64.wrap (gi y4 0 - (1 : Int))).toNat []).getD 3 (0 : Int)) then guardP (inR (IntKind.i64.wrap (gi y4 0 - (1 : Int))) (gr y4 1)) (guardP (inR (IntKind.i64.wrap (gi y4 0 - (1 : Int))) (gr y4 1)) (guardP (inR (gi y4 0) (gr y4 1)) (guardP (inR (gi y4 0) (gr y4 1)) (guardP (inR (gi y4 0) (gr y4 1)) (guardP (inR (gi y4 0) (gr y4 1)) (guardP (inR (IntKind.i64.wrap (gi y4 0 - (1 : Int)))
  ((gr y4 1).set (gi y4 0).toNat (setEl 4 ((gr y4 1).getD (gi y4 0).toNat []) 0 ((ref23_Tidy_s8 list y4))))) (guardP (inR (IntKind.i64.wrap (gi y4 0 - (1 : Int)))
  ((gr y4 1).set (gi y4 0).toNat (setEl 4 ((gr y4 1).getD (gi y4 0).toNat []) 0 ((ref23_Tidy_s8 list y4))))) (some (0, [.i (IntKind.i64.wrap (gi y4 0 - (1 : Int))), .r ((ref23_Tidy_s11 list y4))]))))))))) else some (2, [.i (gi y4 0), .r (gr y4 1)]))))))
noncomputable def ref23_Tidy_l4 (list : List (List Int)) (y3 : List U) : Nat × List U := loopGet (ref23_Tidy_l4_step list y3) (ref23_Tidy_l4_init list y3)
noncomputable def ref23_Tidy_l3_init (list : List (List Int)) : List U :=
  [.i ((0 : Int)), .r (gr (ref23_Tidy_l0 list).snd 1)]
noncomputable def ref23_Tidy_l3_step (list : List (List Int)) (y3 : List U) : Option (Nat × List U) :=
  (bif decide (gi y3 0 < (↑(gr y3 1).length : Int)) then guardP ((loopOk (ref23_Tidy_l4_step list y3) (ref23_Tidy_l4_init list y3))) (some (0, [.i (IntKind.i64.wrap (gi y3 0 + (1 : Int))), .r (gr (ref23_Tidy_l4 list y3).snd 1)])) else some (2, [.i (gi y3 0), .r (gr y3 1)]))
noncomputable def ref23_Tidy_l3 (list : List (List Int)) : Nat × List U := loopGet (ref23_Tidy_l3_step list) (ref23_Tidy_l3_init list)
noncomputable def ref23_Tidy_0 (list : List (List Int)) : List (List Int) :=
  bif !ref23_Valid_0 list then [] else gr (ref23_Tidy_l3 list).snd 1
noncomputable def ref23_Tidy_1 (list : List (List Int)) : Int :=
  bif !ref23_Valid_0 list then (1 : Int) else (0 : Int)
def ref23_Tidy_pre (list : List (List Int)) : Prop :=
  ((ref23_Valid_pre list) ∧ (((!ref23_Valid_0 list) = false) → ((fitsA 32 (0 + list.length)) ∧ (((loopOk (ref23_Tidy_l0_step list) (ref23_Tidy_l0_init list))) ∧ ((loopOk (ref23_Tidy_l3_step list) (ref23_Tidy_l3_init list)))))))
end Go.Proofs.YtddfnokjnafdpaaGreat
