/- Written by program (wip/sygen.py): what the Go functions compute, as the executor reads it off their code. -/
import Derived.Test.YtddfnokjnafdpaaGreatSyD
import Derived.Test.YtddfnokjnafdpaaGreatDrift1D
import Derived.Test.YtddfnokjnafdpaaGreatSySo
import Derived.Test.YtddfnokjnafdpaaGreatDriftCD
import Derived.Test.YtddfnokjnafdpaaGreatDriftBD
import Derived.Test.YtddfnokjnafdpaaGreatDriftFD
import Derived.Test.YtddfnokjnafdpaaGreatDriftKD
set_option maxRecDepth 100000
set_option linter.unusedVariables false
namespace Go.Proofs.YtddfnokjnafdpaaGreat
open Go Go.Sy
noncomputable def ref23_at_l0_init (time : Int) (forecast : List (List Int)) : List U :=
  [.b (false), .i ((0 : Int))]
noncomputable def ref23_at_l0_step (time : Int) (forecast : List (List Int)) (y0 : List U) : Option (Nat × List U) :=
  (bif decide (gi y0 1 < (↑forecast.length : Int)) then guardP (inR (gi y0 1) forecast) (guardP (inR (gi y0 1) forecast) (guardP (inR (gi y0 1) forecast) (guardP ((decide ((forecast.getD (gi y0 1).toNat []).getD 0 (0 : Int) ≤ time) = true) → (inR (gi y0 1) forecast)) (guardP ((decide ((forecast.getD (gi y0 1).toNat []).getD 0 (0 : Int) ≤ time) = true) → (inR (gi y0 1) forecast)) (guardP ((decide ((forecast.getD (gi y0 1).toNat []).getD 0 (0 : Int) ≤ time) = true) → (inR (gi y0 1) forecast)) ((bif decide ((forecast.getD (gi y0 1).toNat []).getD 0 (0 : Int) ≤ time) && decide (time < (forecast.getD (gi y0 1).toNat []).getD 1 (0 : Int)) then guardP (inR (gi y0 1) forecast) (guardP (inR (gi y0 1) forecast) (some (1, [.i ((forecast.getD (gi y0 1).toNat []).getD 0 (0 : Int)), .i ((forecast.getD (gi y0 1).toNat []).getD 1 (0 : Int)), .i ((forecast.getD (gi y0 1).toNat []).getD 2 (0 : Int)), .i ((forecast.getD (gi y0 1).toNat []).getD 3 (0 : Int)), .i ((forecast.getD (gi y0 1).toNat []).getD 4 (0 : Int)), .i ((forecast.getD (gi y0 1).toNat []).getD 5 (0 : Int))]))) else some (0, [.b (gb y0 0), .i (IntKind.i64.wrap (gi y0 1 + (1 : Int)))])))))))) else some (3, [.b (gb y0 0), .i (gi y0 1)]))
noncomputable def ref23_at_l0 (time : Int) (forecast : List (List Int)) : Nat × List U := loopGet (ref23_at_l0_step time forecast) (ref23_at_l0_init time forecast)
noncomputable def ref23_at_0 (time : Int) (forecast : List (List Int)) : Int :=
  bif (ref23_at_l0 time forecast).fst.beq 1 then gi (ref23_at_l0 time forecast).snd 0 else (0 : Int)
noncomputable def ref23_at_1 (time : Int) (forecast : List (List Int)) : Int :=
  bif (ref23_at_l0 time forecast).fst.beq 1 then gi (ref23_at_l0 time forecast).snd 1 else (0 : Int)
noncomputable def ref23_at_2 (time : Int) (forecast : List (List Int)) : Int :=
  bif (ref23_at_l0 time forecast).fst.beq 1 then gi (ref23_at_l0 time forecast).snd 2 else (0 : Int)
noncomputable def ref23_at_3 (time : Int) (forecast : List (List Int)) : Int :=
  bif (ref23_at_l0 time forecast).fst.beq 1 then gi (ref23_at_l0 time forecast).snd 3 else (0 : Int)
noncomputable def ref23_at_4 (time : Int) (forecast : List (List Int)) : Int :=
  bif (ref23_at_l0 time forecast).fst.beq 1 then gi (ref23_at_l0 time forecast).snd 4 else (0 : Int)
noncomputable def ref23_at_5 (time : Int) (forecast : List (List Int)) : Int :=
  bif (ref23_at_l0 time forecast).fst.beq 1 then gi (ref23_at_l0 time forecast).snd 5 else (0 : Int)
noncomputable def ref23_at_6 (time : Int) (forecast : List (List Int)) : Bool :=
  bif (ref23_at_l0 time forecast).fst.beq 1 then true else false
def ref23_at_pre (time : Int) (forecast : List (List Int)) : Prop :=
  ((loopOk (ref23_at_l0_step time forecast) (ref23_at_l0_init time forecast)))
noncomputable def ref23_bounds_s0 (a b : List (List Int)) (y0 : List U) : List (List Int) :=
  [[(([] ++ a ++ b).getD (gi y0 0).toNat []).getD 0 (0 : Int)], [(([] ++ a ++ b).getD (gi y0 0).toNat []).getD 1 (0 : Int)]]
noncomputable def ref23_bounds_l0_init (a b : List (List Int)) : List U :=
  [.i ((0 : Int)), .r ([])]
noncomputable def ref23_bounds_l0_step (a b : List (List Int)) (y0 : List U) : Option (Nat × List U) :=
  (bif decide (gi y0 0 < (↑([] ++ a ++ b).length : Int)) then guardP (inR (gi y0 0) ([] ++ a ++ b)) (guardP (inR (gi y0 0) ([] ++ a ++ b)) (guardP (inR (gi y0 0) ([] ++ a ++ b)) (guardP (inR (gi y0 0) ([] ++ a ++ b)) (guardP (inR (gi y0 0) ([] ++ a ++ b)) (guardP (inR (gi y0 0) ([] ++ a ++ b)) (guardP (fitsA 8 ((gr y0 1).length + ((ref23_bounds_s0 a b y0)).length)) (some (0, [.i (IntKind.i64.wrap (gi y0 0 + (1 : Int))), .r (gr y0 1 ++ (ref23_bounds_s0 a b y0))])))))))) else some (2, [.i (gi y0 0), .r (gr y0 1)]))
noncomputable def ref23_bounds_l0 (a b : List (List Int)) : Nat × List U := loopGet (ref23_bounds_l0_step a b) (ref23_bounds_l0_init a b)
noncomputable def ref23_bounds_s1 (a b : List (List Int)) (y2 : List U) : List Int :=
  setEl 1 ((gr y2 1).getD (gi y2 0).toNat []) 0 [((gr y2 1).getD (IntKind.i64.wrap (gi y2 0 - (1 : Int))).toNat []).getD 0 (0 : Int)]
noncomputable def ref23_bounds_s2 (a b : List (List Int)) (y2 : List U) : List Int :=
  setEl 1 (((gr y2 1).set (gi y2 0).toNat ((ref23_bounds_s1 a b y2))).getD (IntKind.i64.wrap (gi y2 0 - (1 : Int))).toNat []) 0
  [((gr y2 1).getD (gi y2 0).toNat []).getD 0 (0 : Int)]
noncomputable def ref23_bounds_l2_init (a b : List (List Int)) (y1 : List U) : List U :=
  [.i (gi y1 0), .r (gr y1 1)]
noncomputable def ref23_bounds_l2_step (a b : List (List Int)) (y1 : List U) (y2 : List U) : Option (Nat × List U) :=
  guardP ((decide (gi y2 0 > (0 : Int)) = true) → (inR (gi y2 0) (gr y2 1))) (guardP ((decide (gi y2 0 > (0 : Int)) = true) → (inR (gi y2 0) (gr y2 1))) (guardP ((decide (gi y2 0 > (0 : Int)) = true) → (inR (IntKind.i64.wrap (gi y2 0 - (1 : Int))) (gr y2 1))) (guardP ((decide (gi y2 0 > (0 : Int)) = true) → (inR (IntKind.i64.wrap (gi y2 0 - (1 : Int))) (gr y2 1))) ((bif decide (gi y2 0 > (0 : Int)) &&
  decide (((gr y2 1).getD (gi y2 0).toNat []).getD 0 (0 : Int) < ((gr y2 1).getD (IntKind.i64.wrap (gi y2 0 - (1 : Int))).toNat []).getD 0 (0 : Int)) then guardP (inR (IntKind.i64.wrap (gi y2 0 - (1 : Int))) (gr y2 1)) (guardP (inR (IntKind.i64.wrap (gi y2 0 - (1 : Int))) (gr y2 1)) (guardP (inR (gi y2 0) (gr y2 1)) (guardP (inR (gi y2 0) (gr y2 1)) (guardP (inR (gi y2 0) (gr y2 1)) (guardP (inR (gi y2 0) (gr y2 1)) (guardP (inR (IntKind.i64.wrap (gi y2 0 - (1 : Int))) ((gr y2 1).set (gi y2 0).toNat ((ref23_bounds_s1 a b y2)))) (guardP (inR (IntKind.i64.wrap (gi y2 0 - (1 : Int))) ((gr y2 1).set (gi y2 0).toNat ((ref23_bounds_s1 a b y2)))) (some (0, [.i (IntKind.i64.wrap (gi y2 0 - (1 : Int))), .r (((gr y2 1).set (gi y2 0).toNat ((ref23_bounds_s1 a b y2))).set (IntKind.i64.wrap (gi y2 0 - (1 : Int))).toNat ((ref23_bounds_s2 a b y2)))]))))))))) else some (2, [.i (gi y2 0), .r (gr y2 1)]))))))
noncomputable def ref23_bounds_l2 (a b : List (List Int)) (y1 : List U) : Nat × List U := loopGet (ref23_bounds_l2_step a b y1) (ref23_bounds_l2_init a b y1)
noncomputable def ref23_bounds_l1_init (a b : List (List Int)) : List U :=
  [.i ((0 : Int)), .r (gr (ref23_bounds_l0 a b).snd 1)]
noncomputable def ref23_bounds_l1_step (a b : List (List Int)) (y1 : List U) : Option (Nat × List U) :=
  (bif decide (gi y1 0 < (↑(gr y1 1).length : Int)) then guardP ((loopOk (ref23_bounds_l2_step a b y1) (ref23_bounds_l2_init a b y1))) (some (0, [.i (IntKind.i64.wrap (gi y1 0 + (1 : Int))), .r (gr (ref23_bounds_l2 a b y1).snd 1)])) else some (2, [.i (gi y1 0), .r (gr y1 1)]))
noncomputable def ref23_bounds_l1 (a b : List (List Int)) : Nat × List U := loopGet (ref23_bounds_l1_step a b) (ref23_bounds_l1_init a b)
noncomputable def ref23_bounds_l3_init (a b : List (List Int)) : List U :=
  [.i ((0 : Int)), .r ([])]
noncomputable def ref23_bounds_l3_step (a b : List (List Int)) (y3 : List U) : Option (Nat × List U) :=
  (bif decide (gi y3 0 < (↑(gr (ref23_bounds_l1 a b).snd 1).length : Int)) then guardP (((gi y3 0 == (0 : Int)) = false) → (inR (gi y3 0) (gr (ref23_bounds_l1 a b).snd 1))) (guardP (((gi y3 0 == (0 : Int)) = false) → (inR (gi y3 0) (gr (ref23_bounds_l1 a b).snd 1))) (guardP (((gi y3 0 == (0 : Int)) = false) → (inR (IntKind.i64.wrap (gi y3 0 - (1 : Int))) (gr (ref23_bounds_l1 a b).snd 1))) (guardP (((gi y3 0 == (0 : Int)) = false) → (inR (IntKind.i64.wrap (gi y3 0 - (1 : Int))) (gr (ref23_bounds_l1 a b).snd 1))) ((bif gi y3 0 == (0 : Int) ||
  ((gr (ref23_bounds_l1 a b).snd 1).getD (gi y3 0).toNat []).getD 0 (0 : Int) !=
    ((gr (ref23_bounds_l1 a b).snd 1).getD (IntKind.i64.wrap (gi y3 0 - (1 : Int))).toNat []).getD 0 (0 : Int) then guardP (inR (gi y3 0) (gr (ref23_bounds_l1 a b).snd 1)) (guardP (inR (gi y3 0) (gr (ref23_bounds_l1 a b).snd 1)) (guardP (fitsA 8 ((gr y3 1).length + [[((gr (ref23_bounds_l1 a b).snd 1).getD (gi y3 0).toNat []).getD 0 (0 : Int)]].length)) (some (0, [.i (IntKind.i64.wrap (gi y3 0 + (1 : Int))), .r (gr y3 1 ++ [[((gr (ref23_bounds_l1 a b).snd 1).getD (gi y3 0).toNat []).getD 0 (0 : Int)]])])))) else some (0, [.i (IntKind.i64.wrap (gi y3 0 + (1 : Int))), .r (gr y3 1)])))))) else some (3, [.i (gi y3 0), .r (gr y3 1)]))
noncomputable def ref23_bounds_l3 (a b : List (List Int)) : Nat × List U := loopGet (ref23_bounds_l3_step a b) (ref23_bounds_l3_init a b)
noncomputable def ref23_bounds_0 (a b : List (List Int)) : List (List Int) :=
  gr (ref23_bounds_l3 a b).snd 1
def ref23_bounds_pre (a b : List (List Int)) : Prop :=
  ((fitsA 48 (0 + a.length)) ∧ ((fitsA 48 (([] ++ a).length + b.length)) ∧ (((loopOk (ref23_bounds_l0_step a b) (ref23_bounds_l0_init a b))) ∧ (((loopOk (ref23_bounds_l1_step a b) (ref23_bounds_l1_init a b))) ∧ ((loopOk (ref23_bounds_l3_step a b) (ref23_bounds_l3_init a b)))))))
noncomputable def ref23_Better_s0 (a b : List (List Int)) (y0 : List U) : Int :=
  ref02_Meet_2 (ref23_at_2 (((ref23_bounds_0 a b).getD (gi y0 1).toNat []).getD 0 (0 : Int)) b)
  (ref23_at_3 (((ref23_bounds_0 a b).getD (gi y0 1).toNat []).getD 0 (0 : Int)) b) (ref23_at_2 (((ref23_bounds_0 a b).getD (gi y0 1).toNat []).getD 0 (0 : Int)) b)
  (ref23_at_3 (((ref23_bounds_0 a b).getD (gi y0 1).toNat []).getD 0 (0 : Int)) b)
noncomputable def ref23_Better_s1 (a b : List (List Int)) (y0 : List U) : Int :=
  ref02_Meet_2 (ref23_at_4 (((ref23_bounds_0 a b).getD (gi y0 1).toNat []).getD 0 (0 : Int)) b)
  (ref23_at_5 (((ref23_bounds_0 a b).getD (gi y0 1).toNat []).getD 0 (0 : Int)) b) (ref23_at_4 (((ref23_bounds_0 a b).getD (gi y0 1).toNat []).getD 0 (0 : Int)) b)
  (ref23_at_5 (((ref23_bounds_0 a b).getD (gi y0 1).toNat []).getD 0 (0 : Int)) b)
noncomputable def ref23_Better_s2 (a b : List (List Int)) (y0 : List U) : Int :=
  ref02_Meet_0 (ref23_at_2 (((ref23_bounds_0 a b).getD (gi y0 1).toNat []).getD 0 (0 : Int)) b)
  (ref23_at_3 (((ref23_bounds_0 a b).getD (gi y0 1).toNat []).getD 0 (0 : Int)) b) (ref23_at_2 (((ref23_bounds_0 a b).getD (gi y0 1).toNat []).getD 0 (0 : Int)) b)
  (ref23_at_3 (((ref23_bounds_0 a b).getD (gi y0 1).toNat []).getD 0 (0 : Int)) b)
noncomputable def ref23_Better_s3 (a b : List (List Int)) (y0 : List U) : Int :=
  ref02_Meet_1 (ref23_at_2 (((ref23_bounds_0 a b).getD (gi y0 1).toNat []).getD 0 (0 : Int)) b)
  (ref23_at_3 (((ref23_bounds_0 a b).getD (gi y0 1).toNat []).getD 0 (0 : Int)) b) (ref23_at_2 (((ref23_bounds_0 a b).getD (gi y0 1).toNat []).getD 0 (0 : Int)) b)
  (ref23_at_3 (((ref23_bounds_0 a b).getD (gi y0 1).toNat []).getD 0 (0 : Int)) b)
noncomputable def ref23_Better_s4 (a b : List (List Int)) (y0 : List U) : Int :=
  ref02_Meet_0 (ref23_at_4 (((ref23_bounds_0 a b).getD (gi y0 1).toNat []).getD 0 (0 : Int)) b)
  (ref23_at_5 (((ref23_bounds_0 a b).getD (gi y0 1).toNat []).getD 0 (0 : Int)) b) (ref23_at_4 (((ref23_bounds_0 a b).getD (gi y0 1).toNat []).getD 0 (0 : Int)) b)
  (ref23_at_5 (((ref23_bounds_0 a b).getD (gi y0 1).toNat []).getD 0 (0 : Int)) b)
noncomputable def ref23_Better_s5 (a b : List (List Int)) (y0 : List U) : Int :=
  ref02_Meet_1 (ref23_at_4 (((ref23_bounds_0 a b).getD (gi y0 1).toNat []).getD 0 (0 : Int)) b)
  (ref23_at_5 (((ref23_bounds_0 a b).getD (gi y0 1).toNat []).getD 0 (0 : Int)) b) (ref23_at_4 (((ref23_bounds_0 a b).getD (gi y0 1).toNat []).getD 0 (0 : Int)) b)
  (ref23_at_5 (((ref23_bounds_0 a b).getD (gi y0 1).toNat []).getD 0 (0 : Int)) b)
noncomputable def ref23_Better_s6 (a b : List (List Int)) (y0 : List U) : List Int :=
  [((ref23_bounds_0 a b).getD (IntKind.i64.wrap (gi y0 1 + (1 : Int))).toNat []).getD 0 (0 : Int), (ref23_Better_s2 a b y0), (ref23_Better_s3 a b y0), (ref23_Better_s4 a b y0), (ref23_Better_s5 a b y0)]
noncomputable def ref23_Better_s7 (a b : List (List Int)) (y0 : List U) : List Int :=
  [ref23_at_3 (((ref23_bounds_0 a b).getD (gi y0 1).toNat []).getD 0 (0 : Int)) b, ref23_at_4 (((ref23_bounds_0 a b).getD (gi y0 1).toNat []).getD 0 (0 : Int)) b,
  ref23_at_5 (((ref23_bounds_0 a b).getD (gi y0 1).toNat []).getD 0 (0 : Int)) b]
noncomputable def ref23_Better_s8 (a b : List (List Int)) (y0 : List U) : List Int :=
  ((ref23_bounds_0 a b).getD (IntKind.i64.wrap (gi y0 1 + (1 : Int))).toNat []).getD 0 (0 : Int) ::
  ref23_at_2 (((ref23_bounds_0 a b).getD (gi y0 1).toNat []).getD 0 (0 : Int)) b :: (ref23_Better_s7 a b y0)
noncomputable def ref23_Better_s9 (a b : List (List Int)) (y0 : List U) : Int :=
  ref02_Meet_2 (ref23_at_2 (((ref23_bounds_0 a b).getD (gi y0 1).toNat []).getD 0 (0 : Int)) a)
  (ref23_at_3 (((ref23_bounds_0 a b).getD (gi y0 1).toNat []).getD 0 (0 : Int)) a) (ref23_at_2 (((ref23_bounds_0 a b).getD (gi y0 1).toNat []).getD 0 (0 : Int)) b)
  (ref23_at_3 (((ref23_bounds_0 a b).getD (gi y0 1).toNat []).getD 0 (0 : Int)) b)
noncomputable def ref23_Better_s10 (a b : List (List Int)) (y0 : List U) : Int :=
  ref02_Meet_2 (ref23_at_4 (((ref23_bounds_0 a b).getD (gi y0 1).toNat []).getD 0 (0 : Int)) a)
  (ref23_at_5 (((ref23_bounds_0 a b).getD (gi y0 1).toNat []).getD 0 (0 : Int)) a) (ref23_at_4 (((ref23_bounds_0 a b).getD (gi y0 1).toNat []).getD 0 (0 : Int)) b)
  (ref23_at_5 (((ref23_bounds_0 a b).getD (gi y0 1).toNat []).getD 0 (0 : Int)) b)
noncomputable def ref23_Better_s11 (a b : List (List Int)) (y0 : List U) : Int :=
  ref02_Meet_0 (ref23_at_2 (((ref23_bounds_0 a b).getD (gi y0 1).toNat []).getD 0 (0 : Int)) a)
  (ref23_at_3 (((ref23_bounds_0 a b).getD (gi y0 1).toNat []).getD 0 (0 : Int)) a) (ref23_at_2 (((ref23_bounds_0 a b).getD (gi y0 1).toNat []).getD 0 (0 : Int)) b)
  (ref23_at_3 (((ref23_bounds_0 a b).getD (gi y0 1).toNat []).getD 0 (0 : Int)) b)
noncomputable def ref23_Better_s12 (a b : List (List Int)) (y0 : List U) : Int :=
  ref02_Meet_1 (ref23_at_2 (((ref23_bounds_0 a b).getD (gi y0 1).toNat []).getD 0 (0 : Int)) a)
  (ref23_at_3 (((ref23_bounds_0 a b).getD (gi y0 1).toNat []).getD 0 (0 : Int)) a) (ref23_at_2 (((ref23_bounds_0 a b).getD (gi y0 1).toNat []).getD 0 (0 : Int)) b)
  (ref23_at_3 (((ref23_bounds_0 a b).getD (gi y0 1).toNat []).getD 0 (0 : Int)) b)
noncomputable def ref23_Better_s13 (a b : List (List Int)) (y0 : List U) : Int :=
  ref02_Meet_0 (ref23_at_4 (((ref23_bounds_0 a b).getD (gi y0 1).toNat []).getD 0 (0 : Int)) a)
  (ref23_at_5 (((ref23_bounds_0 a b).getD (gi y0 1).toNat []).getD 0 (0 : Int)) a) (ref23_at_4 (((ref23_bounds_0 a b).getD (gi y0 1).toNat []).getD 0 (0 : Int)) b)
  (ref23_at_5 (((ref23_bounds_0 a b).getD (gi y0 1).toNat []).getD 0 (0 : Int)) b)
noncomputable def ref23_Better_s14 (a b : List (List Int)) (y0 : List U) : Int :=
  ref02_Meet_1 (ref23_at_4 (((ref23_bounds_0 a b).getD (gi y0 1).toNat []).getD 0 (0 : Int)) a)
  (ref23_at_5 (((ref23_bounds_0 a b).getD (gi y0 1).toNat []).getD 0 (0 : Int)) a) (ref23_at_4 (((ref23_bounds_0 a b).getD (gi y0 1).toNat []).getD 0 (0 : Int)) b)
  (ref23_at_5 (((ref23_bounds_0 a b).getD (gi y0 1).toNat []).getD 0 (0 : Int)) b)
noncomputable def ref23_Better_s15 (a b : List (List Int)) (y0 : List U) : List Int :=
  [((ref23_bounds_0 a b).getD (IntKind.i64.wrap (gi y0 1 + (1 : Int))).toNat []).getD 0 (0 : Int), (ref23_Better_s11 a b y0), (ref23_Better_s12 a b y0), (ref23_Better_s13 a b y0), (ref23_Better_s14 a b y0)]
noncomputable def ref23_Better_s16 (a b : List (List Int)) (y0 : List U) : List Int :=
  [ref23_at_3 (((ref23_bounds_0 a b).getD (gi y0 1).toNat []).getD 0 (0 : Int)) a, ref23_at_4 (((ref23_bounds_0 a b).getD (gi y0 1).toNat []).getD 0 (0 : Int)) a,
  ref23_at_5 (((ref23_bounds_0 a b).getD (gi y0 1).toNat []).getD 0 (0 : Int)) a]
noncomputable def ref23_Better_s17 (a b : List (List Int)) (y0 : List U) : List Int :=
  ((ref23_bounds_0 a b).getD (IntKind.i64.wrap (gi y0 1 + (1 : Int))).toNat []).getD 0 (0 : Int) ::
  ref23_at_2 (((ref23_bounds_0 a b).getD (gi y0 1).toNat []).getD 0 (0 : Int)) a :: (ref23_Better_s16 a b y0)
noncomputable def ref23_Better_l0_init (a b : List (List Int)) : List U :=
  [.i ((0 : Int)), .i ((0 : Int)), .r ([])]
noncomputable def ref23_Better_l0_step (a b : List (List Int)) (y0 : List U) : Option (Nat × List U) :=
  (bif decide (IntKind.i64.wrap (gi y0 1 + (1 : Int)) < (↑(ref23_bounds_0 a b).length : Int)) then guardP (inR (gi y0 1) (ref23_bounds_0 a b)) (guardP (inR (gi y0 1) (ref23_bounds_0 a b)) (guardP (ref23_at_pre (((ref23_bounds_0 a b).getD (gi y0 1).toNat []).getD 0 (0 : Int)) a) (guardP (inR (gi y0 1) (ref23_bounds_0 a b)) (guardP (inR (gi y0 1) (ref23_bounds_0 a b)) (guardP (ref23_at_pre (((ref23_bounds_0 a b).getD (gi y0 1).toNat []).getD 0 (0 : Int)) b) ((bif !ref23_at_6 (((ref23_bounds_0 a b).getD (gi y0 1).toNat []).getD 0 (0 : Int)) a && !ref23_at_6 (((ref23_bounds_0 a b).getD (gi y0 1).toNat []).getD 0 (0 : Int)) b then some (0, [.i (gi y0 0), .i (IntKind.i64.wrap (gi y0 1 + (1 : Int))), .r (gr y0 2)]) else (bif !ref23_at_6 (((ref23_bounds_0 a b).getD (gi y0 1).toNat []).getD 0 (0 : Int)) a then (bif ref23_at_6 (((ref23_bounds_0 a b).getD (gi y0 1).toNat []).getD 0 (0 : Int)) a && ref23_at_6 (((ref23_bounds_0 a b).getD (gi y0 1).toNat []).getD 0 (0 : Int)) b then (bif (ref23_Better_s0 a b y0) != (0 : Int) || (ref23_Better_s1 a b y0) != (0 : Int) then some (2, []) else guardP (inR (gi y0 1) (ref23_bounds_0 a b)) (guardP (inR (gi y0 1) (ref23_bounds_0 a b)) (guardP (inR (IntKind.i64.wrap (gi y0 1 + (1 : Int))) (ref23_bounds_0 a b)) (guardP (inR (IntKind.i64.wrap (gi y0 1 + (1 : Int))) (ref23_bounds_0 a b)) (guardP (fitsA 48 ((gr y0 2).length + [((ref23_bounds_0 a b).getD (gi y0 1).toNat []).getD 0 (0 : Int) :: (ref23_Better_s6 a b y0)].length)) (some (0, [.i (gi y0 0), .i (IntKind.i64.wrap (gi y0 1 + (1 : Int))), .r (gr y0 2 ++ [((ref23_bounds_0 a b).getD (gi y0 1).toNat []).getD 0 (0 : Int) :: (ref23_Better_s6 a b y0)])]))))))) else guardP (inR (gi y0 1) (ref23_bounds_0 a b)) (guardP (inR (gi y0 1) (ref23_bounds_0 a b)) (guardP (inR (IntKind.i64.wrap (gi y0 1 + (1 : Int))) (ref23_bounds_0 a b)) (guardP (inR (IntKind.i64.wrap (gi y0 1 + (1 : Int))) (ref23_bounds_0 a b)) (guardP (fitsA 48 ((gr y0 2).length + [((ref23_bounds_0 a b).getD (gi y0 1).toNat []).getD 0 (0 : Int) :: (ref23_Better_s8 a b y0)].length)) (some (0, [.i (gi y0 0), .i (IntKind.i64.wrap (gi y0 1 + (1 : Int))), .r (gr y0 2 ++ [((ref23_bounds_0 a b).getD (gi y0 1).toNat []).getD 0 (0 : Int) :: (ref23_Better_s8 a b y0)])]))))))) else (bif ref23_at_6 (((ref23_bounds_0 a b).getD (gi y0 1).toNat []).getD 0 (0 : Int)) a && ref23_at_6 (((ref23_bounds_0 a b).getD (gi y0 1).toNat []).getD 0 (0 : Int)) b then (bif (ref23_Better_s9 a b y0) != (0 : Int) || (ref23_Better_s10 a b y0) != (0 : Int) then some (5, []) else guardP (inR (gi y0 1) (ref23_bounds_0 a b)) (guardP (inR (gi y0 1) (ref23_bounds_0 a b)) (guardP (inR (IntKind.i64.wrap (gi y0 1 + (1 : Int))) (ref23_bounds_0 a b)) (guardP (inR (IntKind.i64.wrap (gi y0 1 + (1 : Int))) (ref23_bounds_0 a b)) (guardP (fitsA 48 ((gr y0 2).length + [((ref23_bounds_0 a b).getD (gi y0 1).toNat []).getD 0 (0 : Int) :: (ref23_Better_s15 a b y0)].length)) (some (0, [.i (gi y0 0), .i (IntKind.i64.wrap (gi y0 1 + (1 : Int))), .r (gr y0 2 ++ [((ref23_bounds_0 a b).getD (gi y0 1).toNat []).getD 0 (0 : Int) :: (ref23_Better_s15 a b y0)])]))))))) else guardP (inR (gi y0 1) (ref23_bounds_0 a b)) (guardP (inR (gi y0 1) (ref23_bounds_0 a b)) (guardP (inR (IntKind.i64.wrap (gi y0 1 + (1 : Int))) (ref23_bounds_0 a b)) (guardP (inR (IntKind.i64.wrap (gi y0 1 + (1 : Int))) (ref23_bounds_0 a b)) (guardP (fitsA 48 ((gr y0 2).length + [((ref23_bounds_0 a b).getD (gi y0 1).toNat []).getD 0 (0 : Int) :: (ref23_Better_s17 a b y0)].length)) (some (0, [.i (gi y0 0), .i (IntKind.i64.wrap (gi y0 1 + (1 : Int))), .r (gr y0 2 ++ [((ref23_bounds_0 a b).getD (gi y0 1).toNat []).getD 0 (0 : Int) :: (ref23_Better_s17 a b y0)])]))))))))))))))) else some (8, [.i (gi y0 0), .i (gi y0 1), .r (gr y0 2)]))
noncomputable def ref23_Better_l0 (a b : List (List Int)) : Nat × List U := loopGet (ref23_Better_l0_step a b) (ref23_Better_l0_init a b)
noncomputable def ref23_Better_s18 (a b : List (List Int)) : List (List Int) :=
  bif decide ((↑(gr (ref23_Better_l0 a b).snd 2).length : Int) > (60 : Int)) then [] else gr (ref23_Better_l0 a b).snd 2
noncomputable def ref23_Better_0 (a b : List (List Int)) : List (List Int) :=
  bif !ref23_Currents_0 a || !ref23_Currents_0 b then [] else bif (ref23_Better_l0 a b).fst.beq 2 then [] else bif (ref23_Better_l0 a b).fst.beq 5 then [] else (ref23_Better_s18 a b)
noncomputable def ref23_Better_s19 (a b : List (List Int)) : Int :=
  bif (ref23_Better_l0 a b).fst.beq 5 then (18 : Int) else bif decide ((↑(gr (ref23_Better_l0 a b).snd 2).length : Int) > (60 : Int)) then (2 : Int) else (0 : Int)
noncomputable def ref23_Better_1 (a b : List (List Int)) : Int :=
  bif !ref23_Currents_0 a || !ref23_Currents_0 b then (1 : Int) else bif (ref23_Better_l0 a b).fst.beq 2 then (18 : Int) else (ref23_Better_s19 a b)
def ref23_Better_pre (a b : List (List Int)) : Prop :=
  ((ref23_Currents_pre a) ∧ ((ref23_Currents_pre b) ∧ (((!ref23_Currents_0 a || !ref23_Currents_0 b) = false) → ((ref23_bounds_pre a b) ∧ ((loopOk (ref23_Better_l0_step a b) (ref23_Better_l0_init a b)))))))
noncomputable def law23_head_s0  : List (List Int) :=
  [[(60 : Int), (100 : Int), law23_of_0 (100 : Int) (100 : Int), law23_of_1 (100 : Int) (100 : Int), law23_of_0 (-25 : Int) (30 : Int), law23_of_1 (-25 : Int) (30 : Int)]]
noncomputable def law23_head_s1  : List Int :=
  [law23_box_0 (0 : Int) (10 : Int) (0 : Int) (10 : Int), law23_box_1 (0 : Int) (10 : Int) (0 : Int) (10 : Int), law23_box_2 (0 : Int) (10 : Int) (0 : Int) (10 : Int),
  law23_box_3 (0 : Int) (10 : Int) (0 : Int) (10 : Int)]
noncomputable def law23_head_s2  : List Int :=
  [law23_box_0 (0 : Int) (5 : Int) (0 : Int) (5 : Int), law23_box_1 (0 : Int) (5 : Int) (0 : Int) (5 : Int), law23_box_2 (0 : Int) (5 : Int) (0 : Int) (5 : Int),
  law23_box_3 (0 : Int) (5 : Int) (0 : Int) (5 : Int)]
noncomputable def law23_head_s3  : List Int :=
  [law23_box_0 (9 : Int) (9 : Int) (1 : Int) (1 : Int), law23_box_1 (9 : Int) (9 : Int) (1 : Int) (1 : Int), law23_box_2 (9 : Int) (9 : Int) (1 : Int) (1 : Int),
  law23_box_3 (9 : Int) (9 : Int) (1 : Int) (1 : Int)]
noncomputable def law23_head_s4  : List Int :=
  [law23_box_0 (5 : Int) (9 : Int) (0 : Int) (5 : Int), law23_box_1 (5 : Int) (9 : Int) (0 : Int) (5 : Int), law23_box_2 (5 : Int) (9 : Int) (0 : Int) (5 : Int),
  law23_box_3 (5 : Int) (9 : Int) (0 : Int) (5 : Int)]
noncomputable def law23_head_s5  : Int :=
  drift_Sum_4 (0 : Int) (70 : Int) ([(0 : Int), (60 : Int), law23_of_0 (-10 : Int) (50 : Int), law23_of_1 (-10 : Int) (50 : Int), (0 : Int), (0 : Int)] :: (law23_head_s0))
noncomputable def law23_head_s6  : Int :=
  drift_Move_1 (0 : Int) (70 : Int) [(law23_head_s1)] ([(0 : Int), (60 : Int), law23_of_0 (-10 : Int) (50 : Int), law23_of_1 (-10 : Int) (50 : Int), (0 : Int), (0 : Int)] :: (law23_head_s0))
noncomputable def law23_head_s7  : Int :=
  drift_Allows_1 (0 : Int) (70 : Int) (0 : Int) (0 : Int) (40 : Int) (-2 : Int)
  ([(0 : Int), (60 : Int), law23_of_0 (-10 : Int) (50 : Int), law23_of_1 (-10 : Int) (50 : Int), (0 : Int), (0 : Int)] :: (law23_head_s0))
noncomputable def law23_head_s8  : Int :=
  drift_Allows_1 (0 : Int) (70 : Int) (0 : Int) (0 : Int) (41 : Int) (0 : Int)
  ([(0 : Int), (60 : Int), law23_of_0 (-10 : Int) (50 : Int), law23_of_1 (-10 : Int) (50 : Int), (0 : Int), (0 : Int)] :: (law23_head_s0))
noncomputable def law23_head_s9  : Int :=
  drift_Move_1 (50 : Int) (101 : Int) [(law23_head_s1)] ([(0 : Int), (60 : Int), law23_of_0 (-10 : Int) (50 : Int), law23_of_1 (-10 : Int) (50 : Int), (0 : Int), (0 : Int)] :: (law23_head_s0))
noncomputable def law23_head_s10  : Int :=
  drift_Better_1 ([(0 : Int), (60 : Int), law23_of_0 (-10 : Int) (50 : Int), law23_of_1 (-10 : Int) (50 : Int), (0 : Int), (0 : Int)] :: (law23_head_s0))
  [[(50 : Int), (70 : Int), law23_of_0 (0 : Int) (100 : Int), law23_of_1 (0 : Int) (100 : Int), law23_of_0 (0 : Int) (5 : Int), law23_of_1 (0 : Int) (5 : Int)]]
noncomputable def law23_head_s11  : Int :=
  drift_Sum_0 (0 : Int) (70 : Int) ([(0 : Int), (60 : Int), law23_of_0 (-10 : Int) (50 : Int), law23_of_1 (-10 : Int) (50 : Int), (0 : Int), (0 : Int)] :: (law23_head_s0))
noncomputable def law23_head_s12  : Int :=
  drift_Sum_1 (0 : Int) (70 : Int) ([(0 : Int), (60 : Int), law23_of_0 (-10 : Int) (50 : Int), law23_of_1 (-10 : Int) (50 : Int), (0 : Int), (0 : Int)] :: (law23_head_s0))
noncomputable def law23_head_s13  : Int :=
  drift_Sum_2 (0 : Int) (70 : Int) ([(0 : Int), (60 : Int), law23_of_0 (-10 : Int) (50 : Int), law23_of_1 (-10 : Int) (50 : Int), (0 : Int), (0 : Int)] :: (law23_head_s0))
noncomputable def law23_head_s14  : Int :=
  drift_Sum_3 (0 : Int) (70 : Int) ([(0 : Int), (60 : Int), law23_of_0 (-10 : Int) (50 : Int), law23_of_1 (-10 : Int) (50 : Int), (0 : Int), (0 : Int)] :: (law23_head_s0))
noncomputable def law23_head_s15  : List (List Int) :=
  drift_Move_0 (0 : Int) (70 : Int) [(law23_head_s1)] ([(0 : Int), (60 : Int), law23_of_0 (-10 : Int) (50 : Int), law23_of_1 (-10 : Int) (50 : Int), (0 : Int), (0 : Int)] :: (law23_head_s0))
noncomputable def law23_head_s16  : List Int :=
  [law23_box_1 (4 : Int) (50 : Int) (-3 : Int) (13 : Int), law23_box_2 (4 : Int) (50 : Int) (-3 : Int) (13 : Int), law23_box_3 (4 : Int) (50 : Int) (-3 : Int) (13 : Int)]
noncomputable def law23_head_s17  : List Int :=
  [law23_box_0 (0 : Int) (9 : Int) (0 : Int) (5 : Int), law23_box_1 (0 : Int) (9 : Int) (0 : Int) (5 : Int), law23_box_2 (0 : Int) (9 : Int) (0 : Int) (5 : Int),
  law23_box_3 (0 : Int) (9 : Int) (0 : Int) (5 : Int)]
noncomputable def law23_head_s18  : List (List Int) :=
  drift_Better_0 ([(0 : Int), (60 : Int), law23_of_0 (-10 : Int) (50 : Int), law23_of_1 (-10 : Int) (50 : Int), (0 : Int), (0 : Int)] :: (law23_head_s0))
  [[(50 : Int), (70 : Int), law23_of_0 (0 : Int) (100 : Int), law23_of_1 (0 : Int) (100 : Int), law23_of_0 (0 : Int) (5 : Int), law23_of_1 (0 : Int) (5 : Int)]]
noncomputable def law23_head_s19  : List (List Int) :=
  [[(70 : Int), (100 : Int), law23_of_0 (100 : Int) (100 : Int), law23_of_1 (100 : Int) (100 : Int), law23_of_0 (-25 : Int) (30 : Int), law23_of_1 (-25 : Int) (30 : Int)]]
noncomputable def law23_head_s20  : List (List Int) :=
  [(60 : Int), (70 : Int), law23_of_0 (100 : Int) (100 : Int), law23_of_1 (100 : Int) (100 : Int), law23_of_0 (0 : Int) (5 : Int), law23_of_1 (0 : Int) (5 : Int)] :: (law23_head_s19)
noncomputable def law23_head_s21  : List (List Int) :=
  [(0 : Int), (50 : Int), law23_of_0 (-10 : Int) (50 : Int), law23_of_1 (-10 : Int) (50 : Int), (0 : Int), (0 : Int)] ::
  [(50 : Int), (60 : Int), law23_of_0 (0 : Int) (50 : Int), law23_of_1 (0 : Int) (50 : Int), (0 : Int), (0 : Int)] :: (law23_head_s20)
noncomputable def law23_head_0  : Bool :=
  bif
    (law23_head_s5) == (0 : Int) && (law23_head_s6) == (0 : Int) && (law23_head_s7) == (0 : Int) && (law23_head_s8) == (0 : Int) && (law23_head_s9) == (4 : Int) &&
            drift_Tidy_1 [(law23_head_s2), (law23_head_s3), (law23_head_s4)] == (0 : Int) &&
          (law23_head_s10) == (0 : Int) &&
        ((law23_head_s11) == law23_of_0 (400 : Int) (4000 : Int) && ((law23_head_s12) == law23_of_1 (400 : Int) (4000 : Int) && true)) &&
      ((law23_head_s13) == law23_of_0 (-250 : Int) (300 : Int) && ((law23_head_s14) == law23_of_1 (-250 : Int) (300 : Int) && true)) then
  bif
      ref23_Same_0 ((law23_head_s15)) [law23_box_0 (4 : Int) (50 : Int) (-3 : Int) (13 : Int) :: (law23_head_s16)] &&
          drift_Allows_0 (0 : Int) (70 : Int) (0 : Int) (0 : Int) (40 : Int) (-2 : Int)
            ([(0 : Int), (60 : Int), law23_of_0 (-10 : Int) (50 : Int), law23_of_1 (-10 : Int) (50 : Int), (0 : Int), (0 : Int)] :: (law23_head_s0)) &&
        !drift_Allows_0 (0 : Int) (70 : Int) (0 : Int) (0 : Int) (41 : Int) (0 : Int)
            ([(0 : Int), (60 : Int), law23_of_0 (-10 : Int) (50 : Int), law23_of_1 (-10 : Int) (50 : Int), (0 : Int), (0 : Int)] :: (law23_head_s0)) then
    bif ref23_Same_0 (drift_Tidy_0 [(law23_head_s2), (law23_head_s3), (law23_head_s4)]) [(law23_head_s17)] == true then ref23_Flows_0 ((law23_head_s18)) ((law23_head_s21))
    else false
  else false
else false
def law23_head_pre  : Prop :=
  ((drift_Sum_pre (0 : Int) (70 : Int) ([(0 : Int), (60 : Int), law23_of_0 (-10 : Int) (50 : Int), law23_of_1 (-10 : Int) (50 : Int), (0 : Int), (0 : Int)] :: (law23_head_s0))) ∧ ((drift_Move_pre (0 : Int) (70 : Int) [(law23_head_s1)] ([(0 : Int), (60 : Int), law23_of_0 (-10 : Int) (50 : Int), law23_of_1 (-10 : Int) (50 : Int), (0 : Int), (0 : Int)] :: (law23_head_s0))) ∧ ((drift_Allows_pre (0 : Int) (70 : Int) (0 : Int) (0 : Int) (40 : Int) (-2 : Int)
  ([(0 : Int), (60 : Int), law23_of_0 (-10 : Int) (50 : Int), law23_of_1 (-10 : Int) (50 : Int), (0 : Int), (0 : Int)] :: (law23_head_s0))) ∧ ((drift_Allows_pre (0 : Int) (70 : Int) (0 : Int) (0 : Int) (41 : Int) (0 : Int)
  ([(0 : Int), (60 : Int), law23_of_0 (-10 : Int) (50 : Int), law23_of_1 (-10 : Int) (50 : Int), (0 : Int), (0 : Int)] :: (law23_head_s0))) ∧ ((drift_Move_pre (50 : Int) (101 : Int) [(law23_head_s1)] ([(0 : Int), (60 : Int), law23_of_0 (-10 : Int) (50 : Int), law23_of_1 (-10 : Int) (50 : Int), (0 : Int), (0 : Int)] :: (law23_head_s0))) ∧ ((drift_Tidy_pre [(law23_head_s2), (law23_head_s3), (law23_head_s4)]) ∧ ((drift_Better_pre ([(0 : Int), (60 : Int), law23_of_0 (-10 : Int) (50 : Int), law23_of_1 (-10 : Int) (50 : Int), (0 : Int), (0 : Int)] :: (law23_head_s0))
  [[(50 : Int), (70 : Int), law23_of_0 (0 : Int) (100 : Int), law23_of_1 (0 : Int) (100 : Int), law23_of_0 (0 : Int) (5 : Int), law23_of_1 (0 : Int) (5 : Int)]]) ∧ (((((law23_head_s5) == (0 : Int) && (law23_head_s6) == (0 : Int) && (law23_head_s7) == (0 : Int) && (law23_head_s8) == (0 : Int) && (law23_head_s9) == (4 : Int) &&
          drift_Tidy_1 [(law23_head_s2), (law23_head_s3), (law23_head_s4)] == (0 : Int) &&
        (law23_head_s10) == (0 : Int) &&
      ((law23_head_s11) == law23_of_0 (400 : Int) (4000 : Int) && ((law23_head_s12) == law23_of_1 (400 : Int) (4000 : Int) && true)) &&
    ((law23_head_s13) == law23_of_0 (-250 : Int) (300 : Int) && ((law23_head_s14) == law23_of_1 (-250 : Int) (300 : Int) && true))) =
  true) → ((((ref23_Same_0 ((law23_head_s15)) [law23_box_0 (4 : Int) (50 : Int) (-3 : Int) (13 : Int) :: (law23_head_s16)] &&
      drift_Allows_0 (0 : Int) (70 : Int) (0 : Int) (0 : Int) (40 : Int) (-2 : Int)
        ([(0 : Int), (60 : Int), law23_of_0 (-10 : Int) (50 : Int), law23_of_1 (-10 : Int) (50 : Int), (0 : Int), (0 : Int)] :: (law23_head_s0)) &&
    !drift_Allows_0 (0 : Int) (70 : Int) (0 : Int) (0 : Int) (41 : Int) (0 : Int)
        ([(0 : Int), (60 : Int), law23_of_0 (-10 : Int) (50 : Int), law23_of_1 (-10 : Int) (50 : Int), (0 : Int), (0 : Int)] :: (law23_head_s0))) =
  true) → ((((law23_head_s5) == (0 : Int) && (law23_head_s6) == (0 : Int) && (law23_head_s7) == (0 : Int) && (law23_head_s8) == (0 : Int) && (law23_head_s9) == (4 : Int) &&
          drift_Tidy_1 [(law23_head_s2), (law23_head_s3), (law23_head_s4)] == (0 : Int) &&
        (law23_head_s10) == (0 : Int) &&
      ((law23_head_s11) == law23_of_0 (400 : Int) (4000 : Int) && ((law23_head_s12) == law23_of_1 (400 : Int) (4000 : Int) && true)) &&
    ((law23_head_s13) == law23_of_0 (-250 : Int) (300 : Int) && ((law23_head_s14) == law23_of_1 (-250 : Int) (300 : Int) && true))) =
  true) ∧ (((true = true) → (ref23_Same_pre ((law23_head_s15)) [law23_box_0 (4 : Int) (50 : Int) (-3 : Int) (13 : Int) :: (law23_head_s16)])) ∧ (((ref23_Same_0 ((law23_head_s15)) [law23_box_0 (4 : Int) (50 : Int) (-3 : Int) (13 : Int) :: (law23_head_s16)] &&
      drift_Allows_0 (0 : Int) (70 : Int) (0 : Int) (0 : Int) (40 : Int) (-2 : Int)
        ([(0 : Int), (60 : Int), law23_of_0 (-10 : Int) (50 : Int), law23_of_1 (-10 : Int) (50 : Int), (0 : Int), (0 : Int)] :: (law23_head_s0)) &&
    !drift_Allows_0 (0 : Int) (70 : Int) (0 : Int) (0 : Int) (41 : Int) (0 : Int)
        ([(0 : Int), (60 : Int), law23_of_0 (-10 : Int) (50 : Int), law23_of_1 (-10 : Int) (50 : Int), (0 : Int), (0 : Int)] :: (law23_head_s0))) =
  true) ∧ (((true = true) → (ref23_Same_pre (drift_Tidy_0 [(law23_head_s2), (law23_head_s3), (law23_head_s4)]) [(law23_head_s17)])) ∧ (((ref23_Same_0 (drift_Tidy_0 [(law23_head_s2), (law23_head_s3), (law23_head_s4)]) [(law23_head_s17)] == true) = true) → (ref23_Flows_pre ((law23_head_s18)) ((law23_head_s21))))))))) ∧ (((ref23_Same_0 ((law23_head_s15)) [law23_box_0 (4 : Int) (50 : Int) (-3 : Int) (13 : Int) :: (law23_head_s16)] &&
      drift_Allows_0 (0 : Int) (70 : Int) (0 : Int) (0 : Int) (40 : Int) (-2 : Int)
        ([(0 : Int), (60 : Int), law23_of_0 (-10 : Int) (50 : Int), law23_of_1 (-10 : Int) (50 : Int), (0 : Int), (0 : Int)] :: (law23_head_s0)) &&
    !drift_Allows_0 (0 : Int) (70 : Int) (0 : Int) (0 : Int) (41 : Int) (0 : Int)
        ([(0 : Int), (60 : Int), law23_of_0 (-10 : Int) (50 : Int), law23_of_1 (-10 : Int) (50 : Int), (0 : Int), (0 : Int)] :: (law23_head_s0))) =
  false) → ((((law23_head_s5) == (0 : Int) && (law23_head_s6) == (0 : Int) && (law23_head_s7) == (0 : Int) && (law23_head_s8) == (0 : Int) && (law23_head_s9) == (4 : Int) &&
          drift_Tidy_1 [(law23_head_s2), (law23_head_s3), (law23_head_s4)] == (0 : Int) &&
        (law23_head_s10) == (0 : Int) &&
      ((law23_head_s11) == law23_of_0 (400 : Int) (4000 : Int) && ((law23_head_s12) == law23_of_1 (400 : Int) (4000 : Int) && true)) &&
    ((law23_head_s13) == law23_of_0 (-250 : Int) (300 : Int) && ((law23_head_s14) == law23_of_1 (-250 : Int) (300 : Int) && true))) =
  true) ∧ (((true = true) → (ref23_Same_pre ((law23_head_s15)) [law23_box_0 (4 : Int) (50 : Int) (-3 : Int) (13 : Int) :: (law23_head_s16)])) ∧ ((ref23_Same_0 ((law23_head_s15)) [law23_box_0 (4 : Int) (50 : Int) (-3 : Int) (13 : Int) :: (law23_head_s16)] &&
      drift_Allows_0 (0 : Int) (70 : Int) (0 : Int) (0 : Int) (40 : Int) (-2 : Int)
        ([(0 : Int), (60 : Int), law23_of_0 (-10 : Int) (50 : Int), law23_of_1 (-10 : Int) (50 : Int), (0 : Int), (0 : Int)] :: (law23_head_s0)) &&
    !drift_Allows_0 (0 : Int) (70 : Int) (0 : Int) (0 : Int) (41 : Int) (0 : Int)
        ([(0 : Int), (60 : Int), law23_of_0 (-10 : Int) (50 : Int), law23_of_1 (-10 : Int) (50 : Int), (0 : Int), (0 : Int)] :: (law23_head_s0))) =
  false)))))) ∧ ((((law23_head_s5) == (0 : Int) && (law23_head_s6) == (0 : Int) && (law23_head_s7) == (0 : Int) && (law23_head_s8) == (0 : Int) && (law23_head_s9) == (4 : Int) &&
          drift_Tidy_1 [(law23_head_s2), (law23_head_s3), (law23_head_s4)] == (0 : Int) &&
        (law23_head_s10) == (0 : Int) &&
      ((law23_head_s11) == law23_of_0 (400 : Int) (4000 : Int) && ((law23_head_s12) == law23_of_1 (400 : Int) (4000 : Int) && true)) &&
    ((law23_head_s13) == law23_of_0 (-250 : Int) (300 : Int) && ((law23_head_s14) == law23_of_1 (-250 : Int) (300 : Int) && true))) =
  false) → (((law23_head_s5) == (0 : Int) && (law23_head_s6) == (0 : Int) && (law23_head_s7) == (0 : Int) && (law23_head_s8) == (0 : Int) && (law23_head_s9) == (4 : Int) &&
          drift_Tidy_1 [(law23_head_s2), (law23_head_s3), (law23_head_s4)] == (0 : Int) &&
        (law23_head_s10) == (0 : Int) &&
      ((law23_head_s11) == law23_of_0 (400 : Int) (4000 : Int) && ((law23_head_s12) == law23_of_1 (400 : Int) (4000 : Int) && true)) &&
    ((law23_head_s13) == law23_of_0 (-250 : Int) (300 : Int) && ((law23_head_s14) == law23_of_1 (-250 : Int) (300 : Int) && true))) =
  false))))))))))
noncomputable def law23_DriftMatchesReference_0 (from_ until_ p_X p_Y q_X q_Y c_X_Lo c_X_Hi c_Y_Lo c_Y_Hi : Int) (list a b : List (List Int)) : Bool :=
  law23_head_0 && drift_Valid_0 list == ref23_Valid_0 list && drift_Currents_0 a == ref23_Currents_0 a &&
                              (drift_Sum_0 from_ until_ a == ref23_Sum_0 from_ until_ a && (drift_Sum_1 from_ until_ a == ref23_Sum_1 from_ until_ a && true)) &&
                            (drift_Sum_2 from_ until_ a == ref23_Sum_2 from_ until_ a && (drift_Sum_3 from_ until_ a == ref23_Sum_3 from_ until_ a && true)) &&
                          drift_Sum_4 from_ until_ a == ref23_Sum_4 from_ until_ a &&
                        ref23_Same_0 (drift_Move_0 from_ until_ list a) (ref23_Move_0 from_ until_ list a) &&
                      drift_Move_1 from_ until_ list a == ref23_Move_1 from_ until_ list a &&
                    drift_Allows_0 from_ until_ p_X p_Y q_X q_Y a == ref23_Allows_0 from_ until_ p_X p_Y q_X q_Y a &&
                  drift_Allows_1 from_ until_ p_X p_Y q_X q_Y a == ref23_Allows_1 from_ until_ p_X p_Y q_X q_Y a &&
                ref23_Same_0 (drift_Cut_0 c_X_Lo c_X_Hi c_Y_Lo c_Y_Hi list) (ref23_Cut_0 c_X_Lo c_X_Hi c_Y_Lo c_Y_Hi list) &&
              drift_Cut_1 c_X_Lo c_X_Hi c_Y_Lo c_Y_Hi list == ref23_Cut_1 c_X_Lo c_X_Hi c_Y_Lo c_Y_Hi list &&
            drift_In_0 p_X p_Y list == ref23_In_0 p_X p_Y list &&
          drift_In_1 p_X p_Y list == ref23_In_1 p_X p_Y list &&
        ref23_Same_0 (drift_Tidy_0 list) (ref23_Tidy_0 list) &&
      drift_Tidy_1 list == ref23_Tidy_1 list &&
    ref23_Flows_0 (drift_Better_0 a b) (ref23_Better_0 a b) &&
  drift_Better_1 a b == ref23_Better_1 a b
def law23_DriftMatchesReference_pre (from_ until_ p_X p_Y q_X q_Y c_X_Lo c_X_Hi c_Y_Lo c_Y_Hi : Int) (list a b : List (List Int)) : Prop :=
  ((law23_head_pre) ∧ (((law23_head_0 = true) → (drift_Valid_pre list)) ∧ (((law23_head_0 = true) → (ref23_Valid_pre list)) ∧ ((((law23_head_0 && drift_Valid_0 list == ref23_Valid_0 list) = true) → (drift_Currents_pre a)) ∧ ((((law23_head_0 && drift_Valid_0 list == ref23_Valid_0 list) = true) → (ref23_Currents_pre a)) ∧ ((drift_Sum_pre from_ until_ a) ∧ ((ref23_Sum_pre from_ until_ a) ∧ ((drift_Move_pre from_ until_ list a) ∧ ((ref23_Move_pre from_ until_ list a) ∧ ((((law23_head_0 && drift_Valid_0 list == ref23_Valid_0 list && drift_Currents_0 a == ref23_Currents_0 a &&
        (drift_Sum_0 from_ until_ a == ref23_Sum_0 from_ until_ a && (drift_Sum_1 from_ until_ a == ref23_Sum_1 from_ until_ a && true)) &&
      (drift_Sum_2 from_ until_ a == ref23_Sum_2 from_ until_ a && (drift_Sum_3 from_ until_ a == ref23_Sum_3 from_ until_ a && true)) &&
    drift_Sum_4 from_ until_ a == ref23_Sum_4 from_ until_ a) =
  true) → (ref23_Same_pre (drift_Move_0 from_ until_ list a) (ref23_Move_0 from_ until_ list a))) ∧ ((drift_Allows_pre from_ until_ p_X p_Y q_X q_Y a) ∧ ((ref23_Allows_pre from_ until_ p_X p_Y q_X q_Y a) ∧ ((drift_Cut_pre c_X_Lo c_X_Hi c_Y_Lo c_Y_Hi list) ∧ ((ref23_Cut_pre c_X_Lo c_X_Hi c_Y_Lo c_Y_Hi list) ∧ ((((law23_head_0 && drift_Valid_0 list == ref23_Valid_0 list && drift_Currents_0 a == ref23_Currents_0 a &&
                (drift_Sum_0 from_ until_ a == ref23_Sum_0 from_ until_ a && (drift_Sum_1 from_ until_ a == ref23_Sum_1 from_ until_ a && true)) &&
              (drift_Sum_2 from_ until_ a == ref23_Sum_2 from_ until_ a && (drift_Sum_3 from_ until_ a == ref23_Sum_3 from_ until_ a && true)) &&
            drift_Sum_4 from_ until_ a == ref23_Sum_4 from_ until_ a &&
          ref23_Same_0 (drift_Move_0 from_ until_ list a) (ref23_Move_0 from_ until_ list a) &&
        drift_Move_1 from_ until_ list a == ref23_Move_1 from_ until_ list a &&
      drift_Allows_0 from_ until_ p_X p_Y q_X q_Y a == ref23_Allows_0 from_ until_ p_X p_Y q_X q_Y a &&
    drift_Allows_1 from_ until_ p_X p_Y q_X q_Y a == ref23_Allows_1 from_ until_ p_X p_Y q_X q_Y a) =
  true) → (ref23_Same_pre (drift_Cut_0 c_X_Lo c_X_Hi c_Y_Lo c_Y_Hi list) (ref23_Cut_0 c_X_Lo c_X_Hi c_Y_Lo c_Y_Hi list))) ∧ ((drift_In_pre p_X p_Y list) ∧ ((ref23_In_pre p_X p_Y list) ∧ ((drift_Tidy_pre list) ∧ ((ref23_Tidy_pre list) ∧ ((((law23_head_0 && drift_Valid_0 list == ref23_Valid_0 list && drift_Currents_0 a == ref23_Currents_0 a &&
                        (drift_Sum_0 from_ until_ a == ref23_Sum_0 from_ until_ a && (drift_Sum_1 from_ until_ a == ref23_Sum_1 from_ until_ a && true)) &&
                      (drift_Sum_2 from_ until_ a == ref23_Sum_2 from_ until_ a && (drift_Sum_3 from_ until_ a == ref23_Sum_3 from_ until_ a && true)) &&
                    drift_Sum_4 from_ until_ a == ref23_Sum_4 from_ until_ a &&
                  ref23_Same_0 (drift_Move_0 from_ until_ list a) (ref23_Move_0 from_ until_ list a) &&
                drift_Move_1 from_ until_ list a == ref23_Move_1 from_ until_ list a &&
              drift_Allows_0 from_ until_ p_X p_Y q_X q_Y a == ref23_Allows_0 from_ until_ p_X p_Y q_X q_Y a &&
            drift_Allows_1 from_ until_ p_X p_Y q_X q_Y a == ref23_Allows_1 from_ until_ p_X p_Y q_X q_Y a &&
          ref23_Same_0 (drift_Cut_0 c_X_Lo c_X_Hi c_Y_Lo c_Y_Hi list) (ref23_Cut_0 c_X_Lo c_X_Hi c_Y_Lo c_Y_Hi list) &&
        drift_Cut_1 c_X_Lo c_X_Hi c_Y_Lo c_Y_Hi list == ref23_Cut_1 c_X_Lo c_X_Hi c_Y_Lo c_Y_Hi list &&
      drift_In_0 p_X p_Y list == ref23_In_0 p_X p_Y list &&
    drift_In_1 p_X p_Y list == ref23_In_1 p_X p_Y list) =
  true) → (ref23_Same_pre (drift_Tidy_0 list) (ref23_Tidy_0 list))) ∧ ((drift_Better_pre a b) ∧ ((ref23_Better_pre a b) ∧ (((law23_head_0 && drift_Valid_0 list == ref23_Valid_0 list && drift_Currents_0 a == ref23_Currents_0 a &&
                            (drift_Sum_0 from_ until_ a == ref23_Sum_0 from_ until_ a && (drift_Sum_1 from_ until_ a == ref23_Sum_1 from_ until_ a && true)) &&
                          (drift_Sum_2 from_ until_ a == ref23_Sum_2 from_ until_ a && (drift_Sum_3 from_ until_ a == ref23_Sum_3 from_ until_ a && true)) &&
                        drift_Sum_4 from_ until_ a == ref23_Sum_4 from_ until_ a &&
                      ref23_Same_0 (drift_Move_0 from_ until_ list a) (ref23_Move_0 from_ until_ list a) &&
                    drift_Move_1 from_ until_ list a == ref23_Move_1 from_ until_ list a &&
                  drift_Allows_0 from_ until_ p_X p_Y q_X q_Y a == ref23_Allows_0 from_ until_ p_X p_Y q_X q_Y a &&
                drift_Allows_1 from_ until_ p_X p_Y q_X q_Y a == ref23_Allows_1 from_ until_ p_X p_Y q_X q_Y a &&
              ref23_Same_0 (drift_Cut_0 c_X_Lo c_X_Hi c_Y_Lo c_Y_Hi list) (ref23_Cut_0 c_X_Lo c_X_Hi c_Y_Lo c_Y_Hi list) &&
            drift_Cut_1 c_X_Lo c_X_Hi c_Y_Lo c_Y_Hi list == ref23_Cut_1 c_X_Lo c_X_Hi c_Y_Lo c_Y_Hi list &&
          drift_In_0 p_X p_Y list == ref23_In_0 p_X p_Y list &&
        drift_In_1 p_X p_Y list == ref23_In_1 p_X p_Y list &&
      ref23_Same_0 (drift_Tidy_0 list) (ref23_Tidy_0 list) &&
    drift_Tidy_1 list == ref23_Tidy_1 list) =
  true) → (ref23_Flows_pre (drift_Better_0 a b) (ref23_Better_0 a b)))))))))))))))))))))))))
end Go.Proofs.YtddfnokjnafdpaaGreat
