/- Written by program (wip/sygen.py): what the Go functions compute, as the executor reads it off their code. -/
import Derived.Test.YtddfnokjnafdpaaGreatSyD
import Derived.Test.YtddfnokjnafdpaaGreatDrift1D
import Derived.Test.YtddfnokjnafdpaaGreatSySo
set_option maxRecDepth 100000
set_option linter.unusedVariables false
namespace Go.Proofs.YtddfnokjnafdpaaGreat
open Go Go.Sy
noncomputable def cmp_Compare_int_0 (x y : Int) : Int :=
  bif x != x then bif y != y then (0 : Int) else (-1 : Int) else bif y != y then (1 : Int) else bif decide (x < y) then (-1 : Int) else bif decide (x > y) then (1 : Int) else (0 : Int)
noncomputable def cmp_Or_int_l0_init (vals : List (List Int)) : List U :=
  [.i ((0 : Int)), .i ((0 : Int))]
noncomputable def cmp_Or_int_l0_step (vals : List (List Int)) (y0 : List U) : Option (Nat × List U) :=
  (bif decide (gi y0 1 < (↑vals.length : Int)) then guardP (inR (gi y0 1) vals) (guardP (inR (gi y0 1) vals) ((bif (vals.getD (gi y0 1).toNat []).getD 0 (0 : Int) != (0 : Int) then some (1, [.i ((vals.getD (gi y0 1).toNat []).getD 0 (0 : Int))]) else some (0, [.i (gi y0 0), .i (IntKind.i64.wrap (gi y0 1 + (1 : Int)))])))) else some (3, [.i (gi y0 0), .i (gi y0 1)]))
noncomputable def cmp_Or_int_l0 (vals : List (List Int)) : Nat × List U := loopGet (cmp_Or_int_l0_step vals) (cmp_Or_int_l0_init vals)
noncomputable def cmp_Or_int_0 (vals : List (List Int)) : Int :=
  bif (cmp_Or_int_l0 vals).fst.beq 1 then gi (cmp_Or_int_l0 vals).snd 0 else (0 : Int)
def cmp_Or_int_pre (vals : List (List Int)) : Prop :=
  ((loopOk (cmp_Or_int_l0_step vals) (cmp_Or_int_l0_init vals)))
noncomputable def drift_Tidy_1_0 (a_X_Lo a_X_Hi a_Y_Lo a_Y_Hi b_X_Lo b_X_Hi b_Y_Lo b_Y_Hi : Int) : Int :=
  cmp_Or_int_0 [[cmp_Compare_int_0 a_X_Lo b_X_Lo], [cmp_Compare_int_0 a_Y_Lo b_Y_Lo], [cmp_Compare_int_0 a_X_Hi b_X_Hi], [cmp_Compare_int_0 a_Y_Hi b_Y_Hi]]
def drift_Tidy_1_pre (a_X_Lo a_X_Hi a_Y_Lo a_Y_Hi b_X_Lo b_X_Hi b_Y_Lo b_Y_Hi : Int) : Prop :=
  (cmp_Or_int_pre [[cmp_Compare_int_0 a_X_Lo b_X_Lo], [cmp_Compare_int_0 a_Y_Lo b_Y_Lo], [cmp_Compare_int_0 a_X_Hi b_X_Hi], [cmp_Compare_int_0 a_Y_Hi b_Y_Hi]])
end Go.Proofs.YtddfnokjnafdpaaGreat
