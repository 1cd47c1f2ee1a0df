/- Written by program (wip/sygen.py): what the Go functions compute, as the executor reads it off their code. -/
import Derived.Test.YtddfnokjnafdpaaGreatSyD
import Derived.Test.YtddfnokjnafdpaaGreatDrift1D
import Derived.Test.YtddfnokjnafdpaaGreatSySo
import Derived.Test.YtddfnokjnafdpaaGreatDriftCD
set_option maxRecDepth 100000
set_option linter.unusedVariables false
namespace Go.Proofs.YtddfnokjnafdpaaGreat
open Go Go.Sy
noncomputable def drift_Better_s0 (a b : List (List Int)) (y0 : List U) : List (List Int) :=
  [[(([] ++ a ++ b).getD (gi y0 0).toNat []).getD 0 (0 : Int)], [(([] ++ a ++ b).getD (gi y0 0).toNat []).getD 1 (0 : Int)]]
noncomputable def drift_Better_l0_init (a b : List (List Int)) : List U :=
  [.i ((0 : Int)), .r ([])]
noncomputable def drift_Better_l0_step (a b : List (List Int)) (y0 : List U) : Option (Nat × List U) :=
  (bif decide (gi y0 0 < (↑([] ++ a ++ b).length : Int)) then guardP (inR (gi y0 0) ([] ++ a ++ b)) (guardP (inR (gi y0 0) ([] ++ a ++ b)) (guardP (fitsA 8 ((gr y0 1).length + ((drift_Better_s0 a b y0)).length)) (some (0, [.i (IntKind.i64.wrap (gi y0 0 + (1 : Int))), .r (gr y0 1 ++ (drift_Better_s0 a b y0))])))) else some (2, [.i (gi y0 0), .r (gr y0 1)]))
noncomputable def drift_Better_l0 (a b : List (List Int)) : Nat × List U := loopGet (drift_Better_l0_step a b) (drift_Better_l0_init a b)
noncomputable def drift_Better_s1 (a b : List (List Int)) (y1 y2 : List U) : Int :=
  imax ((a.getD (gi y2 0).toNat []).getD 0 (0 : Int))
  (((compNums (sortNums (gr (drift_Better_l0 a b).snd 1))).getD (shI none (IntKind.i64.wrap (gi y1 1 - (1 : Int)))).toNat []).getD 0 (0 : Int))
noncomputable def drift_Better_s2 (a b : List (List Int)) (y1 y2 : List U) : Int :=
  imin ((a.getD (gi y2 0).toNat []).getD 1 (0 : Int))
    (((compNums (sortNums (gr (drift_Better_l0 a b).snd 1))).getD (shI none (gi y1 1)).toNat []).getD 0 (0 : Int)) -
  (drift_Better_s1 a b y1 y2)
noncomputable def drift_Better_s3 (a b : List (List Int)) (y2 : List U) : List Int :=
  [(a.getD (gi y2 0).toNat []).getD 3 (0 : Int), (a.getD (gi y2 0).toNat []).getD 4 (0 : Int), (a.getD (gi y2 0).toNat []).getD 5 (0 : Int)]
noncomputable def drift_Better_s4 (a b : List (List Int)) (y2 : List U) : List Int :=
  (a.getD (gi y2 0).toNat []).getD 0 (0 : Int) ::
  (a.getD (gi y2 0).toNat []).getD 1 (0 : Int) :: (a.getD (gi y2 0).toNat []).getD 2 (0 : Int) :: (drift_Better_s3 a b y2)
noncomputable def drift_Better_l2_init (a b : List (List Int)) (y1 : List U) : List U :=
  [.i ((0 : Int)), .r ([])]
noncomputable def drift_Better_l2_step (a b : List (List Int)) (y1 : List U) (y2 : List U) : Option (Nat × List U) :=
  (bif decide (gi y2 0 < (↑a.length : Int)) then guardP (inR (gi y2 0) a) (guardP (inR (gi y2 0) a) ((bif decide (IntKind.i64.wrap ((drift_Better_s2 a b y1 y2)) > (0 : Int)) == true then guardP (fitsA 48 ((gr y2 1).length + [(drift_Better_s4 a b y2)].length)) (some (0, [.i (IntKind.i64.wrap (gi y2 0 + (1 : Int))), .r (gr y2 1 ++ [(drift_Better_s4 a b y2)])])) else some (0, [.i (IntKind.i64.wrap (gi y2 0 + (1 : Int))), .r (gr y2 1)])))) else some (3, [.i (gi y2 0), .r (gr y2 1)]))
noncomputable def drift_Better_l2 (a b : List (List Int)) (y1 : List U) : Nat × List U := loopGet (drift_Better_l2_step a b y1) (drift_Better_l2_init a b y1)
noncomputable def drift_Better_s5 (a b : List (List Int)) (y1 y3 : List U) : Int :=
  imax ((b.getD (gi y3 0).toNat []).getD 0 (0 : Int))
  (((compNums (sortNums (gr (drift_Better_l0 a b).snd 1))).getD (shI none (IntKind.i64.wrap (gi y1 1 - (1 : Int)))).toNat []).getD 0 (0 : Int))
noncomputable def drift_Better_s6 (a b : List (List Int)) (y1 y3 : List U) : Int :=
  imin ((b.getD (gi y3 0).toNat []).getD 1 (0 : Int))
    (((compNums (sortNums (gr (drift_Better_l0 a b).snd 1))).getD (shI none (gi y1 1)).toNat []).getD 0 (0 : Int)) -
  (drift_Better_s5 a b y1 y3)
noncomputable def drift_Better_s7 (a b : List (List Int)) (y3 : List U) : List Int :=
  [(b.getD (gi y3 0).toNat []).getD 3 (0 : Int), (b.getD (gi y3 0).toNat []).getD 4 (0 : Int), (b.getD (gi y3 0).toNat []).getD 5 (0 : Int)]
noncomputable def drift_Better_s8 (a b : List (List Int)) (y3 : List U) : List Int :=
  (b.getD (gi y3 0).toNat []).getD 0 (0 : Int) ::
  (b.getD (gi y3 0).toNat []).getD 1 (0 : Int) :: (b.getD (gi y3 0).toNat []).getD 2 (0 : Int) :: (drift_Better_s7 a b y3)
noncomputable def drift_Better_l3_init (a b : List (List Int)) (y1 : List U) : List U :=
  [.i ((0 : Int)), .r (gr (drift_Better_l2 a b y1).snd 1)]
noncomputable def drift_Better_l3_step (a b : List (List Int)) (y1 : List U) (y3 : List U) : Option (Nat × List U) :=
  (bif decide (gi y3 0 < (↑b.length : Int)) then guardP (inR (gi y3 0) b) (guardP (inR (gi y3 0) b) ((bif decide (IntKind.i64.wrap ((drift_Better_s6 a b y1 y3)) > (0 : Int)) == true then guardP (fitsA 48 ((gr y3 1).length + [(drift_Better_s8 a b y3)].length)) (some (0, [.i (IntKind.i64.wrap (gi y3 0 + (1 : Int))), .r (gr y3 1 ++ [(drift_Better_s8 a b y3)])])) else some (0, [.i (IntKind.i64.wrap (gi y3 0 + (1 : Int))), .r (gr y3 1)])))) else some (3, [.i (gi y3 0), .r (gr y3 1)]))
noncomputable def drift_Better_l3 (a b : List (List Int)) (y1 : List U) : Nat × List U := loopGet (drift_Better_l3_step a b y1) (drift_Better_l3_init a b y1)
noncomputable def drift_Better_s9 (a b : List (List Int)) (y1 : List U) : Int :=
  span_Meet_2 (((gr (drift_Better_l3 a b y1).snd 1).getD (Int.toNat (0 : Int)) []).getD 2 (0 : Int))
  (((gr (drift_Better_l3 a b y1).snd 1).getD (Int.toNat (0 : Int)) []).getD 3 (0 : Int))
  (((gr (drift_Better_l3 a b y1).snd 1).getD (IntKind.i64.wrap ((↑(gr (drift_Better_l3 a b y1).snd 1).length : Int) - (1 : Int))).toNat []).getD 2 (0 : Int))
  (((gr (drift_Better_l3 a b y1).snd 1).getD (IntKind.i64.wrap ((↑(gr (drift_Better_l3 a b y1).snd 1).length : Int) - (1 : Int))).toNat []).getD 3 (0 : Int))
noncomputable def drift_Better_s10 (a b : List (List Int)) (y1 : List U) : Int :=
  span_Meet_2 (((gr (drift_Better_l3 a b y1).snd 1).getD (Int.toNat (0 : Int)) []).getD 4 (0 : Int))
  (((gr (drift_Better_l3 a b y1).snd 1).getD (Int.toNat (0 : Int)) []).getD 5 (0 : Int))
  (((gr (drift_Better_l3 a b y1).snd 1).getD (IntKind.i64.wrap ((↑(gr (drift_Better_l3 a b y1).snd 1).length : Int) - (1 : Int))).toNat []).getD 4 (0 : Int))
  (((gr (drift_Better_l3 a b y1).snd 1).getD (IntKind.i64.wrap ((↑(gr (drift_Better_l3 a b y1).snd 1).length : Int) - (1 : Int))).toNat []).getD 5 (0 : Int))
noncomputable def drift_Better_s11 (a b : List (List Int)) (y1 : List U) : Int :=
  span_Meet_0 (((gr (drift_Better_l3 a b y1).snd 1).getD (Int.toNat (0 : Int)) []).getD 2 (0 : Int))
  (((gr (drift_Better_l3 a b y1).snd 1).getD (Int.toNat (0 : Int)) []).getD 3 (0 : Int))
  (((gr (drift_Better_l3 a b y1).snd 1).getD (IntKind.i64.wrap ((↑(gr (drift_Better_l3 a b y1).snd 1).length : Int) - (1 : Int))).toNat []).getD 2 (0 : Int))
  (((gr (drift_Better_l3 a b y1).snd 1).getD (IntKind.i64.wrap ((↑(gr (drift_Better_l3 a b y1).snd 1).length : Int) - (1 : Int))).toNat []).getD 3 (0 : Int))
noncomputable def drift_Better_s12 (a b : List (List Int)) (y1 : List U) : Int :=
  span_Meet_1 (((gr (drift_Better_l3 a b y1).snd 1).getD (Int.toNat (0 : Int)) []).getD 2 (0 : Int))
  (((gr (drift_Better_l3 a b y1).snd 1).getD (Int.toNat (0 : Int)) []).getD 3 (0 : Int))
  (((gr (drift_Better_l3 a b y1).snd 1).getD (IntKind.i64.wrap ((↑(gr (drift_Better_l3 a b y1).snd 1).length : Int) - (1 : Int))).toNat []).getD 2 (0 : Int))
  (((gr (drift_Better_l3 a b y1).snd 1).getD (IntKind.i64.wrap ((↑(gr (drift_Better_l3 a b y1).snd 1).length : Int) - (1 : Int))).toNat []).getD 3 (0 : Int))
noncomputable def drift_Better_s13 (a b : List (List Int)) (y1 : List U) : Int :=
  span_Meet_0 (((gr (drift_Better_l3 a b y1).snd 1).getD (Int.toNat (0 : Int)) []).getD 4 (0 : Int))
  (((gr (drift_Better_l3 a b y1).snd 1).getD (Int.toNat (0 : Int)) []).getD 5 (0 : Int))
  (((gr (drift_Better_l3 a b y1).snd 1).getD (IntKind.i64.wrap ((↑(gr (drift_Better_l3 a b y1).snd 1).length : Int) - (1 : Int))).toNat []).getD 4 (0 : Int))
  (((gr (drift_Better_l3 a b y1).snd 1).getD (IntKind.i64.wrap ((↑(gr (drift_Better_l3 a b y1).snd 1).length : Int) - (1 : Int))).toNat []).getD 5 (0 : Int))
noncomputable def drift_Better_s14 (a b : List (List Int)) (y1 : List U) : Int :=
  span_Meet_1 (((gr (drift_Better_l3 a b y1).snd 1).getD (Int.toNat (0 : Int)) []).getD 4 (0 : Int))
  (((gr (drift_Better_l3 a b y1).snd 1).getD (Int.toNat (0 : Int)) []).getD 5 (0 : Int))
  (((gr (drift_Better_l3 a b y1).snd 1).getD (IntKind.i64.wrap ((↑(gr (drift_Better_l3 a b y1).snd 1).length : Int) - (1 : Int))).toNat []).getD 4 (0 : Int))
  (((gr (drift_Better_l3 a b y1).snd 1).getD (IntKind.i64.wrap ((↑(gr (drift_Better_l3 a b y1).snd 1).length : Int) - (1 : Int))).toNat []).getD 5 (0 : Int))
noncomputable def drift_Better_s15 (a b : List (List Int)) (y1 : List U) : List Int :=
  [((compNums (sortNums (gr (drift_Better_l0 a b).snd 1))).getD (shI none (gi y1 1)).toNat []).getD 0 (0 : Int), (drift_Better_s11 a b y1), (drift_Better_s12 a b y1), (drift_Better_s13 a b y1),
  (drift_Better_s14 a b y1)]
noncomputable def drift_Better_s16 (a b : List (List Int)) (y1 : List U) : List (List Int) :=
  gr y1 2 ++
  [((compNums (sortNums (gr (drift_Better_l0 a b).snd 1))).getD (shI none (IntKind.i64.wrap (gi y1 1 - (1 : Int)))).toNat []).getD 0 (0 : Int) :: (drift_Better_s15 a b y1)]
noncomputable def drift_Better_l1_init (a b : List (List Int)) : List U :=
  [.i ((0 : Int)), .i ((1 : Int)), .r ([])]
noncomputable def drift_Better_l1_step (a b : List (List Int)) (y1 : List U) : Option (Nat × List U) :=
  (bif decide (gi y1 1 < (↑((compLen (sortNums (gr (drift_Better_l0 a b).snd 1))).toNat - loN none) : Int)) then guardP (((0 : Int) ≤ IntKind.i64.wrap (gi y1 1 - (1 : Int))) ∧ (((↑(loN none) : Int) + IntKind.i64.wrap (gi y1 1 - (1 : Int)) < compLen (sortNums (gr (drift_Better_l0 a b).snd 1))) ∧ (compLen (sortNums (gr (drift_Better_l0 a b).snd 1)) ≤ (↑(compNums (sortNums (gr (drift_Better_l0 a b).snd 1))).length : Int)))) (guardP (inR (shI none (IntKind.i64.wrap (gi y1 1 - (1 : Int)))) (compNums (sortNums (gr (drift_Better_l0 a b).snd 1)))) (guardP (((0 : Int) ≤ gi y1 1) ∧ (((↑(loN none) : Int) + gi y1 1 < compLen (sortNums (gr (drift_Better_l0 a b).snd 1))) ∧ (compLen (sortNums (gr (drift_Better_l0 a b).snd 1)) ≤ (↑(compNums (sortNums (gr (drift_Better_l0 a b).snd 1))).length : Int)))) (guardP (inR (shI none (gi y1 1)) (compNums (sortNums (gr (drift_Better_l0 a b).snd 1)))) (guardP ((loopOk (drift_Better_l2_step a b y1) (drift_Better_l2_init a b y1))) (guardP ((loopOk (drift_Better_l3_step a b y1) (drift_Better_l3_init a b y1))) ((bif (↑(gr (drift_Better_l3 a b y1).snd 1).length : Int) == (0 : Int) then some (0, [.i (gi y1 0), .i (IntKind.i64.wrap (gi y1 1 + (1 : Int))), .r (gr y1 2)]) else guardP (inR (IntKind.i64.wrap ((↑(gr (drift_Better_l3 a b y1).snd 1).length : Int) - (1 : Int))) (gr (drift_Better_l3 a b y1).snd 1)) (guardP (inR (IntKind.i64.wrap ((↑(gr (drift_Better_l3 a b y1).snd 1).length : Int) - (1 : Int))) (gr (drift_Better_l3 a b y1).snd 1)) (guardP (inR (0 : Int) (gr (drift_Better_l3 a b y1).snd 1)) (guardP (inR (0 : Int) (gr (drift_Better_l3 a b y1).snd 1)) (guardP (inR (0 : Int) (gr (drift_Better_l3 a b y1).snd 1)) (guardP (inR (0 : Int) (gr (drift_Better_l3 a b y1).snd 1)) (guardP (inR (0 : Int) (gr (drift_Better_l3 a b y1).snd 1)) (guardP (inR (0 : Int) (gr (drift_Better_l3 a b y1).snd 1)) ((bif (drift_Better_s9 a b y1) != (0 : Int) || (drift_Better_s10 a b y1) != (0 : Int) then some (2, []) else guardP (fitsA 48
  ((gr y1 2).length +
    [((compNums (sortNums (gr (drift_Better_l0 a b).snd 1))).getD (shI none (IntKind.i64.wrap (gi y1 1 - (1 : Int)))).toNat []).getD 0 (0 : Int) :: (drift_Better_s15 a b y1)].length)) (some (0, [.i (gi y1 0), .i (IntKind.i64.wrap (gi y1 1 + (1 : Int))), .r ((drift_Better_s16 a b y1))])))))))))))))))))) else some (4, [.i (gi y1 0), .i (gi y1 1), .r (gr y1 2)]))
noncomputable def drift_Better_l1 (a b : List (List Int)) : Nat × List U := loopGet (drift_Better_l1_step a b) (drift_Better_l1_init a b)
noncomputable def drift_Better_s17 (a b : List (List Int)) : List (List Int) :=
  bif decide ((↑(gr (drift_Better_l1 a b).snd 2).length : Int) > (60 : Int)) then [] else gr (drift_Better_l1 a b).snd 2
noncomputable def drift_Better_0 (a b : List (List Int)) : List (List Int) :=
  bif !drift_Currents_0 a || !drift_Currents_0 b then [] else bif (drift_Better_l1 a b).fst.beq 2 then [] else (drift_Better_s17 a b)
noncomputable def drift_Better_s18 (a b : List (List Int)) : Int :=
  bif (drift_Better_l1 a b).fst.beq 2 then (18 : Int) else bif decide ((↑(gr (drift_Better_l1 a b).snd 2).length : Int) > (60 : Int)) then (2 : Int) else (0 : Int)
noncomputable def drift_Better_1 (a b : List (List Int)) : Int :=
  bif !drift_Currents_0 a || !drift_Currents_0 b then (1 : Int) else (drift_Better_s18 a b)
def drift_Better_pre (a b : List (List Int)) : Prop :=
  ((drift_Currents_pre a) ∧ ((((!drift_Currents_0 a) = false) → (drift_Currents_pre b)) ∧ (((!drift_Currents_0 a || !drift_Currents_0 b) = false) → (((decide (IntKind.i64.wrap ((0 : Int) + (↑a.length : Int)) < (0 : Int)) = false) ∧ ((decide (IntKind.i64.wrap (IntKind.i64.wrap ((0 : Int) + (↑a.length : Int)) + (↑b.length : Int)) < (0 : Int)) = false) ∧ ((((0 : Int) ≤ IntKind.i64.wrap (IntKind.i64.wrap ((0 : Int) + (↑a.length : Int)) + (↑b.length : Int))) ∧ (((IntKind.i64.wrap (IntKind.i64.wrap ((0 : Int) + (↑a.length : Int)) + (↑b.length : Int))).toNat * 48 ≤ 140737488355328) ∧ ((IntKind.i64.wrap (IntKind.i64.wrap ((0 : Int) + (↑a.length : Int)) + (↑b.length : Int))).toNat ≤ 4611686018427387904))) ∧ ((fitsA 48 (0 + a.length)) ∧ (fitsA 48 (([] ++ a).length + b.length)))))) ∧ (((loopOk (drift_Better_l0_step a b) (drift_Better_l0_init a b))) ∧ (((gr (drift_Better_l0 a b).snd 1).length < 4611686018427387904) ∧ ((loopOk (drift_Better_l1_step a b) (drift_Better_l1_init a b)))))))))
noncomputable def drift_Tidy_s0 (list : List (List Int)) (y0 y1 y2 : List U) : Int :=
  span_JoinBox_0 (((gr y0 0).getD (gi y1 0).toNat []).getD 0 (0 : Int)) (((gr y0 0).getD (gi y1 0).toNat []).getD 1 (0 : Int))
  (((gr y0 0).getD (gi y1 0).toNat []).getD 2 (0 : Int)) (((gr y0 0).getD (gi y1 0).toNat []).getD 3 (0 : Int))
  (((gr y0 0).getD (gi y2 0).toNat []).getD 0 (0 : Int)) (((gr y0 0).getD (gi y2 0).toNat []).getD 1 (0 : Int))
  (((gr y0 0).getD (gi y2 0).toNat []).getD 2 (0 : Int)) (((gr y0 0).getD (gi y2 0).toNat []).getD 3 (0 : Int))
noncomputable def drift_Tidy_s1 (list : List (List Int)) (y0 y1 y2 : List U) : Int :=
  span_JoinBox_1 (((gr y0 0).getD (gi y1 0).toNat []).getD 0 (0 : Int)) (((gr y0 0).getD (gi y1 0).toNat []).getD 1 (0 : Int))
  (((gr y0 0).getD (gi y1 0).toNat []).getD 2 (0 : Int)) (((gr y0 0).getD (gi y1 0).toNat []).getD 3 (0 : Int))
  (((gr y0 0).getD (gi y2 0).toNat []).getD 0 (0 : Int)) (((gr y0 0).getD (gi y2 0).toNat []).getD 1 (0 : Int))
  (((gr y0 0).getD (gi y2 0).toNat []).getD 2 (0 : Int)) (((gr y0 0).getD (gi y2 0).toNat []).getD 3 (0 : Int))
noncomputable def drift_Tidy_s2 (list : List (List Int)) (y0 y1 y2 : List U) : Int :=
  span_JoinBox_2 (((gr y0 0).getD (gi y1 0).toNat []).getD 0 (0 : Int)) (((gr y0 0).getD (gi y1 0).toNat []).getD 1 (0 : Int))
  (((gr y0 0).getD (gi y1 0).toNat []).getD 2 (0 : Int)) (((gr y0 0).getD (gi y1 0).toNat []).getD 3 (0 : Int))
  (((gr y0 0).getD (gi y2 0).toNat []).getD 0 (0 : Int)) (((gr y0 0).getD (gi y2 0).toNat []).getD 1 (0 : Int))
  (((gr y0 0).getD (gi y2 0).toNat []).getD 2 (0 : Int)) (((gr y0 0).getD (gi y2 0).toNat []).getD 3 (0 : Int))
noncomputable def drift_Tidy_s3 (list : List (List Int)) (y0 y1 y2 : List U) : Int :=
  span_JoinBox_3 (((gr y0 0).getD (gi y1 0).toNat []).getD 0 (0 : Int)) (((gr y0 0).getD (gi y1 0).toNat []).getD 1 (0 : Int))
  (((gr y0 0).getD (gi y1 0).toNat []).getD 2 (0 : Int)) (((gr y0 0).getD (gi y1 0).toNat []).getD 3 (0 : Int))
  (((gr y0 0).getD (gi y2 0).toNat []).getD 0 (0 : Int)) (((gr y0 0).getD (gi y2 0).toNat []).getD 1 (0 : Int))
  (((gr y0 0).getD (gi y2 0).toNat []).getD 2 (0 : Int)) (((gr y0 0).getD (gi y2 0).toNat []).getD 3 (0 : Int))
noncomputable def drift_Tidy_s4 (list : List (List Int)) (y0 y1 y2 : List U) : List (List Int) :=
  (gr y0 0).set (gi y1 0).toNat
  (setEl 4 ((gr y0 0).getD (gi y1 0).toNat []) 0 [(drift_Tidy_s0 list y0 y1 y2), (drift_Tidy_s1 list y0 y1 y2), (drift_Tidy_s2 list y0 y1 y2), (drift_Tidy_s3 list y0 y1 y2)])
noncomputable def drift_Tidy_s5 (list : List (List Int)) (y0 y1 y2 : List U) : List (List Int) :=
  cutV ((drift_Tidy_s4 list y0 y1 y2)) (boundsA (↑((drift_Tidy_s4 list y0 y1 y2)).length : Int) (some (IntKind.i64.wrap (gi y2 0 + (1 : Int)))) none).snd.fst
  (boundsA (↑((drift_Tidy_s4 list y0 y1 y2)).length : Int) (some (IntKind.i64.wrap (gi y2 0 + (1 : Int)))) none).snd.snd
noncomputable def drift_Tidy_s6 (list : List (List Int)) (y0 y1 y2 : List U) : Int :=
  (↑((↑((boundsA (↑((drift_Tidy_s4 list y0 y1 y2)).length : Int) none (some (gi y2 0))).snd.snd.toNat + ((drift_Tidy_s5 list y0 y1 y2)).length) : Int).toNat -
      loN (boundsA (↑((drift_Tidy_s4 list y0 y1 y2)).length : Int) none (some (gi y2 0))).snd.fst) :
  Int)
noncomputable def drift_Tidy_s7 (list : List (List Int)) (y0 y1 y2 : List U) : List (List Int) :=
  List.take (boundsA (↑((drift_Tidy_s4 list y0 y1 y2)).length : Int) none (some (gi y2 0))).snd.snd.toNat ((drift_Tidy_s4 list y0 y1 y2)) ++ (drift_Tidy_s5 list y0 y1 y2) ++
  List.drop ((boundsA (↑((drift_Tidy_s4 list y0 y1 y2)).length : Int) none (some (gi y2 0))).snd.snd.toNat + ((drift_Tidy_s5 list y0 y1 y2)).length) ((drift_Tidy_s4 list y0 y1 y2))
noncomputable def drift_Tidy_s8 (list : List (List Int)) (y0 y1 y2 : List U) : Int :=
  (↑(loN
      (boundsA (↑((drift_Tidy_s7 list y0 y1 y2)).length : Int) (some ((drift_Tidy_s6 list y0 y1 y2)))
            (some
              ((some (↑((drift_Tidy_s4 list y0 y1 y2)).length : Int)).getD
                (↑((boundsA (↑((drift_Tidy_s4 list y0 y1 y2)).length : Int) none (some (gi y2 0))).snd.snd.toNat + ((drift_Tidy_s5 list y0 y1 y2)).length) : Int)))).snd.fst) :
  Int)
noncomputable def drift_Tidy_s9 (list : List (List Int)) (y0 y1 y2 : List U) : Int :=
  (boundsA (↑((drift_Tidy_s7 list y0 y1 y2)).length : Int) (some ((drift_Tidy_s6 list y0 y1 y2)))
      (some
        ((some (↑((drift_Tidy_s4 list y0 y1 y2)).length : Int)).getD
          (↑((boundsA (↑((drift_Tidy_s4 list y0 y1 y2)).length : Int) none (some (gi y2 0))).snd.snd.toNat + ((drift_Tidy_s5 list y0 y1 y2)).length) : Int)))).snd.snd
noncomputable def drift_Tidy_s10 (list : List (List Int)) (y0 y1 y2 : List U) : List (List Int) :=
  List.take
  (loN
    (boundsA (↑((drift_Tidy_s7 list y0 y1 y2)).length : Int) (some ((drift_Tidy_s6 list y0 y1 y2)))
          (some
            ((some (↑((drift_Tidy_s4 list y0 y1 y2)).length : Int)).getD
              (↑((boundsA (↑((drift_Tidy_s4 list y0 y1 y2)).length : Int) none (some (gi y2 0))).snd.snd.toNat + ((drift_Tidy_s5 list y0 y1 y2)).length) : Int)))).snd.fst)
  ((drift_Tidy_s7 list y0 y1 y2))
noncomputable def drift_Tidy_s11 (list : List (List Int)) (y0 y1 y2 : List U) : List (List Int) :=
  List.replicate
  (((some ((drift_Tidy_s9 list y0 y1 y2))).getD (↑((drift_Tidy_s7 list y0 y1 y2)).length : Int)).toNat -
    loN
      (boundsA (↑((drift_Tidy_s7 list y0 y1 y2)).length : Int) (some ((drift_Tidy_s6 list y0 y1 y2)))
            (some
              ((some (↑((drift_Tidy_s4 list y0 y1 y2)).length : Int)).getD
                (↑((boundsA (↑((drift_Tidy_s4 list y0 y1 y2)).length : Int) none (some (gi y2 0))).snd.snd.toNat + ((drift_Tidy_s5 list y0 y1 y2)).length) : Int)))).snd.fst)
  [(0 : Int), (0 : Int), (0 : Int), (0 : Int)]
noncomputable def drift_Tidy_s12 (list : List (List Int)) (y0 y1 y2 : List U) : List (List Int) :=
  (drift_Tidy_s10 list y0 y1 y2) ++ (drift_Tidy_s11 list y0 y1 y2) ++ List.drop ((some ((drift_Tidy_s9 list y0 y1 y2))).getD (↑((drift_Tidy_s7 list y0 y1 y2)).length : Int)).toNat ((drift_Tidy_s7 list y0 y1 y2))
noncomputable def drift_Tidy_l2_init (list : List (List Int)) (y0 y1 : List U) : List U :=
  [.i (IntKind.i64.wrap (gi y1 0 + (1 : Int)))]
noncomputable def drift_Tidy_l2_step (list : List (List Int)) (y0 y1 : List U) (y2 : List U) : Option (Nat × List U) :=
  (bif decide (gi y2 0 < (↑(gr y0 0).length : Int)) then guardP (inR (gi y2 0) (gr y0 0)) (guardP (inR (gi y2 0) (gr y0 0)) ((bif drift_joins_0 (((gr y0 0).getD (gi y1 0).toNat []).getD 0 (0 : Int)) (((gr y0 0).getD (gi y1 0).toNat []).getD 1 (0 : Int))
  (((gr y0 0).getD (gi y1 0).toNat []).getD 2 (0 : Int)) (((gr y0 0).getD (gi y1 0).toNat []).getD 3 (0 : Int))
  (((gr y0 0).getD (gi y2 0).toNat []).getD 0 (0 : Int)) (((gr y0 0).getD (gi y2 0).toNat []).getD 1 (0 : Int))
  (((gr y0 0).getD (gi y2 0).toNat []).getD 2 (0 : Int)) (((gr y0 0).getD (gi y2 0).toNat []).getD 3 (0 : Int)) then guardP (inR (gi y2 0) (gr y0 0)) (guardP (inR (gi y2 0) (gr y0 0)) (guardP (inR (gi y1 0) (gr y0 0)) (guardP (inR (gi y1 0) (gr y0 0)) (guardP (((0 : Int) ≤ (some (gi y2 0)).getD (0 : Int)) ∧ (((some (gi y2 0)).getD (0 : Int) ≤ IntKind.i64.wrap (gi y2 0 + (1 : Int))) ∧ ((IntKind.i64.wrap (gi y2 0 + (1 : Int)) ≤ (↑((drift_Tidy_s4 list y0 y1 y2)).length : Int)) ∧ ((↑((drift_Tidy_s4 list y0 y1 y2)).length : Int) ≤ (↑((drift_Tidy_s4 list y0 y1 y2)).length : Int))))) ((bif gi y2 0 == IntKind.i64.wrap (gi y2 0 + (1 : Int)) then some (1, [.i (gi y2 0), .r ((drift_Tidy_s4 list y0 y1 y2))]) else guardP (((0 : Int) ≤ gi y2 0) ∧ (gi y2 0 ≤ (↑((drift_Tidy_s4 list y0 y1 y2)).length : Int))) (guardP (((0 : Int) ≤ IntKind.i64.wrap (gi y2 0 + (1 : Int))) ∧ (IntKind.i64.wrap (gi y2 0 + (1 : Int)) ≤ (↑((drift_Tidy_s4 list y0 y1 y2)).length : Int))) (guardP ((((↑(loN (boundsA (↑((drift_Tidy_s4 list y0 y1 y2)).length : Int) (some (IntKind.i64.wrap (gi y2 0 + (1 : Int)))) none).snd.fst) : Int) ≤
  (boundsA (↑((drift_Tidy_s4 list y0 y1 y2)).length : Int) (some (IntKind.i64.wrap (gi y2 0 + (1 : Int)))) none).snd.snd) ∧ ((boundsA (↑((drift_Tidy_s4 list y0 y1 y2)).length : Int) (some (IntKind.i64.wrap (gi y2 0 + (1 : Int)))) none).snd.snd ≤ (↑((drift_Tidy_s4 list y0 y1 y2)).length : Int))) ∧ ((((↑(loN (boundsA (↑((drift_Tidy_s4 list y0 y1 y2)).length : Int) none (some (gi y2 0))).snd.fst) : Int) ≤ (boundsA (↑((drift_Tidy_s4 list y0 y1 y2)).length : Int) none (some (gi y2 0))).snd.snd) ∧ ((boundsA (↑((drift_Tidy_s4 list y0 y1 y2)).length : Int) none (some (gi y2 0))).snd.snd ≤ (↑((drift_Tidy_s4 list y0 y1 y2)).length : Int))) ∧ ((boundsA (↑((drift_Tidy_s4 list y0 y1 y2)).length : Int) none (some (gi y2 0))).snd.snd.toNat + ((drift_Tidy_s5 list y0 y1 y2)).length ≤ ((drift_Tidy_s4 list y0 y1 y2)).length))) (guardP (((0 : Int) ≤ (drift_Tidy_s6 list y0 y1 y2)) ∧ (((drift_Tidy_s6 list y0 y1 y2) ≤
  (some (↑((drift_Tidy_s4 list y0 y1 y2)).length : Int)).getD (↑((boundsA (↑((drift_Tidy_s4 list y0 y1 y2)).length : Int) none (some (gi y2 0))).snd.snd.toNat + ((drift_Tidy_s5 list y0 y1 y2)).length) : Int)) ∧ ((some (↑((drift_Tidy_s4 list y0 y1 y2)).length : Int)).getD (↑((boundsA (↑((drift_Tidy_s4 list y0 y1 y2)).length : Int) none (some (gi y2 0))).snd.snd.toNat + ((drift_Tidy_s5 list y0 y1 y2)).length) : Int) ≤
  (↑((drift_Tidy_s7 list y0 y1 y2)).length : Int)))) (guardP (((drift_Tidy_s8 list y0 y1 y2) ≤ (some ((drift_Tidy_s9 list y0 y1 y2))).getD (↑((drift_Tidy_s7 list y0 y1 y2)).length : Int)) ∧ ((some ((drift_Tidy_s9 list y0 y1 y2))).getD (↑((drift_Tidy_s7 list y0 y1 y2)).length : Int) ≤ (↑((drift_Tidy_s7 list y0 y1 y2)).length : Int))) (guardP (((0 : Int) ≤ (↑((boundsA (↑((drift_Tidy_s4 list y0 y1 y2)).length : Int) none (some (gi y2 0))).snd.snd.toNat + ((drift_Tidy_s5 list y0 y1 y2)).length) : Int)) ∧ ((↑((boundsA (↑((drift_Tidy_s4 list y0 y1 y2)).length : Int) none (some (gi y2 0))).snd.snd.toNat + ((drift_Tidy_s5 list y0 y1 y2)).length) : Int) ≤ (↑((drift_Tidy_s12 list y0 y1 y2)).length : Int))) (some (2, [.i (gi y2 0), .r (List.take (↑((boundsA (↑((drift_Tidy_s4 list y0 y1 y2)).length : Int) none (some (gi y2 0))).snd.snd.toNat + ((drift_Tidy_s5 list y0 y1 y2)).length) : Int).toNat ((drift_Tidy_s12 list y0 y1 y2)))]))))))))))))) else some (0, [.i (IntKind.i64.wrap (gi y2 0 + (1 : Int)))])))) else some (4, [.i (gi y2 0)]))
noncomputable def drift_Tidy_l2 (list : List (List Int)) (y0 y1 : List U) : Nat × List U := loopGet (drift_Tidy_l2_step list y0 y1) (drift_Tidy_l2_init list y0 y1)
noncomputable def drift_Tidy_l1_init (list : List (List Int)) (y0 : List U) : List U :=
  [.i ((0 : Int))]
noncomputable def drift_Tidy_l1_step (list : List (List Int)) (y0 : List U) (y1 : List U) : Option (Nat × List U) :=
  (bif decide (gi y1 0 < (↑(gr y0 0).length : Int)) then guardP (inR (gi y1 0) (gr y0 0)) (guardP (inR (gi y1 0) (gr y0 0)) (guardP ((loopOk (drift_Tidy_l2_step list y0 y1) (drift_Tidy_l2_init list y0 y1))) ((bif (drift_Tidy_l2 list y0 y1).fst.beq 1 then some (1, [.i (gi y1 0), .r (gr (drift_Tidy_l2 list y0 y1).snd 1)]) else (bif (drift_Tidy_l2 list y0 y1).fst.beq 2 then some (2, [.i (gi y1 0), .r (gr (drift_Tidy_l2 list y0 y1).snd 1)]) else some (0, [.i (IntKind.i64.wrap (gi y1 0 + (1 : Int)))])))))) else some (4, [.i (gi y1 0)]))
noncomputable def drift_Tidy_l1 (list : List (List Int)) (y0 : List U) : Nat × List U := loopGet (drift_Tidy_l1_step list y0) (drift_Tidy_l1_init list y0)
noncomputable def drift_Tidy_l0_init (list : List (List Int)) : List U :=
  [.r ([] ++ list)]
noncomputable def drift_Tidy_l0_step (list : List (List Int)) (y0 : List U) : Option (Nat × List U) :=
  guardP ((loopOk (drift_Tidy_l1_step list y0) (drift_Tidy_l1_init list y0))) ((bif (drift_Tidy_l1 list y0).fst.beq 1 then some (0, [.r (gr (drift_Tidy_l1 list y0).snd 1)]) else (bif (drift_Tidy_l1 list y0).fst.beq 2 then some (0, [.r (gr (drift_Tidy_l1 list y0).snd 1)]) else some (3, [.r (gr y0 0)]))))
noncomputable def drift_Tidy_l0 (list : List (List Int)) : Nat × List U := loopGet (drift_Tidy_l0_step list) (drift_Tidy_l0_init list)
noncomputable def drift_Tidy_0 (list : List (List Int)) : List (List Int) :=
  bif !drift_Valid_0 list then [] else sortRows 4 [0, 2, 1, 3] (gr (drift_Tidy_l0 list).snd 0)
noncomputable def drift_Tidy_1 (list : List (List Int)) : Int :=
  bif !drift_Valid_0 list then (1 : Int) else (0 : Int)
def drift_Tidy_pre (list : List (List Int)) : Prop :=
  ((drift_Valid_pre list) ∧ (((!drift_Valid_0 list) = false) → ((((list = []) → ((True) ∧ (([] ++ list = []) ∧ (True)))) ∧ (fitsA 32 (0 + list.length))) ∧ (((loopOk (drift_Tidy_l0_step list) (drift_Tidy_l0_init list))) ∧ ((gr (drift_Tidy_l0 list).snd 0 ≠ []) ∧ ((gr (drift_Tidy_l0 list).snd 0).length < 4611686018427387904))))))
end Go.Proofs.YtddfnokjnafdpaaGreat
