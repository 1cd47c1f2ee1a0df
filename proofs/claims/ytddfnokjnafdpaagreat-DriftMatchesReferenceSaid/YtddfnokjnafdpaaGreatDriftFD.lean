/- Written by program (wip/sygen.py): what the Go functions compute, as the executor reads it off their code. -/
import Derived.Test.YtddfnokjnafdpaaGreatSyD
import Derived.Test.YtddfnokjnafdpaaGreatDrift1D
import Derived.Test.YtddfnokjnafdpaaGreatSySo
import Derived.Test.YtddfnokjnafdpaaGreatDriftCD
import Derived.Test.YtddfnokjnafdpaaGreatDriftBD
set_option maxRecDepth 100000
set_option linter.unusedVariables false
namespace Go.Proofs.YtddfnokjnafdpaaGreat
open Go Go.Sy
noncomputable def ref02_Down_0 (n d : Int) : Int :=
  bif decide (n.tmod d < (0 : Int)) then IntKind.i64.wrap (IntKind.i64.wrap (n.tdiv d) - (1 : Int)) else IntKind.i64.wrap (n.tdiv d)
def ref02_Down_pre (n d : Int) : Prop :=
  (((d : Int) ≠ (0 : Int)) ∧ ((d : Int) ≠ (0 : Int)))
noncomputable def ref02_Up_0 (n d : Int) : Int :=
  bif decide (n.tmod d > (0 : Int)) then IntKind.i64.wrap (IntKind.i64.wrap (n.tdiv d) + (1 : Int)) else IntKind.i64.wrap (n.tdiv d)
def ref02_Up_pre (n d : Int) : Prop :=
  (((d : Int) ≠ (0 : Int)) ∧ ((d : Int) ≠ (0 : Int)))
noncomputable def ref02_Place_0 (p_X p_Y : Int) : Bool :=
  decide (p_X ≥ (-1000000 : Int)) && decide (p_X ≤ (1000000 : Int)) && decide (p_Y ≥ (-1000000 : Int)) && decide (p_Y ≤ (1000000 : Int))
noncomputable def ref02_Has_0 (s_Lo s_Hi x : Int) : Bool :=
  decide (s_Lo ≤ x) && decide (x ≤ s_Hi)
noncomputable def ref02_Meet_0 (s_Lo s_Hi t_Lo t_Hi : Int) : Int :=
  bif !ref02_Both_0 s_Lo s_Hi t_Lo t_Hi then (0 : Int) else bif decide (imax s_Lo t_Lo > imin s_Hi t_Hi) then (0 : Int) else imax s_Lo t_Lo
noncomputable def ref02_Meet_1 (s_Lo s_Hi t_Lo t_Hi : Int) : Int :=
  bif !ref02_Both_0 s_Lo s_Hi t_Lo t_Hi then (0 : Int) else bif decide (imax s_Lo t_Lo > imin s_Hi t_Hi) then (0 : Int) else imin s_Hi t_Hi
noncomputable def ref02_Meet_2 (s_Lo s_Hi t_Lo t_Hi : Int) : Int :=
  bif !ref02_Both_0 s_Lo s_Hi t_Lo t_Hi then (1 : Int) else bif decide (imax s_Lo t_Lo > imin s_Hi t_Hi) then (4 : Int) else (0 : Int)
noncomputable def ref02_Join_0 (s_Lo s_Hi t_Lo t_Hi : Int) : Int :=
  bif !ref02_Both_0 s_Lo s_Hi t_Lo t_Hi then (0 : Int) else imin s_Lo t_Lo
noncomputable def ref02_Join_1 (s_Lo s_Hi t_Lo t_Hi : Int) : Int :=
  bif !ref02_Both_0 s_Lo s_Hi t_Lo t_Hi then (0 : Int) else imax s_Hi t_Hi
noncomputable def ref02_Join_2 (s_Lo s_Hi t_Lo t_Hi : Int) : Int :=
  bif !ref02_Both_0 s_Lo s_Hi t_Lo t_Hi then (1 : Int) else (0 : Int)
noncomputable def ref02_MeetBox_0 (a_X_Lo a_X_Hi a_Y_Lo a_Y_Hi b_X_Lo b_X_Hi b_Y_Lo b_Y_Hi : Int) : Int :=
  bif !ref02_BothBoxes_0 a_X_Lo a_X_Hi a_Y_Lo a_Y_Hi b_X_Lo b_X_Hi b_Y_Lo b_Y_Hi then (0 : Int)
else bif ref02_Meet_2 a_X_Lo a_X_Hi b_X_Lo b_X_Hi != (0 : Int) || ref02_Meet_2 a_Y_Lo a_Y_Hi b_Y_Lo b_Y_Hi != (0 : Int) then (0 : Int) else ref02_Meet_0 a_X_Lo a_X_Hi b_X_Lo b_X_Hi
noncomputable def ref02_MeetBox_1 (a_X_Lo a_X_Hi a_Y_Lo a_Y_Hi b_X_Lo b_X_Hi b_Y_Lo b_Y_Hi : Int) : Int :=
  bif !ref02_BothBoxes_0 a_X_Lo a_X_Hi a_Y_Lo a_Y_Hi b_X_Lo b_X_Hi b_Y_Lo b_Y_Hi then (0 : Int)
else bif ref02_Meet_2 a_X_Lo a_X_Hi b_X_Lo b_X_Hi != (0 : Int) || ref02_Meet_2 a_Y_Lo a_Y_Hi b_Y_Lo b_Y_Hi != (0 : Int) then (0 : Int) else ref02_Meet_1 a_X_Lo a_X_Hi b_X_Lo b_X_Hi
noncomputable def ref02_MeetBox_2 (a_X_Lo a_X_Hi a_Y_Lo a_Y_Hi b_X_Lo b_X_Hi b_Y_Lo b_Y_Hi : Int) : Int :=
  bif !ref02_BothBoxes_0 a_X_Lo a_X_Hi a_Y_Lo a_Y_Hi b_X_Lo b_X_Hi b_Y_Lo b_Y_Hi then (0 : Int)
else bif ref02_Meet_2 a_X_Lo a_X_Hi b_X_Lo b_X_Hi != (0 : Int) || ref02_Meet_2 a_Y_Lo a_Y_Hi b_Y_Lo b_Y_Hi != (0 : Int) then (0 : Int) else ref02_Meet_0 a_Y_Lo a_Y_Hi b_Y_Lo b_Y_Hi
noncomputable def ref02_MeetBox_3 (a_X_Lo a_X_Hi a_Y_Lo a_Y_Hi b_X_Lo b_X_Hi b_Y_Lo b_Y_Hi : Int) : Int :=
  bif !ref02_BothBoxes_0 a_X_Lo a_X_Hi a_Y_Lo a_Y_Hi b_X_Lo b_X_Hi b_Y_Lo b_Y_Hi then (0 : Int)
else bif ref02_Meet_2 a_X_Lo a_X_Hi b_X_Lo b_X_Hi != (0 : Int) || ref02_Meet_2 a_Y_Lo a_Y_Hi b_Y_Lo b_Y_Hi != (0 : Int) then (0 : Int) else ref02_Meet_1 a_Y_Lo a_Y_Hi b_Y_Lo b_Y_Hi
noncomputable def ref02_MeetBox_4 (a_X_Lo a_X_Hi a_Y_Lo a_Y_Hi b_X_Lo b_X_Hi b_Y_Lo b_Y_Hi : Int) : Int :=
  bif !ref02_BothBoxes_0 a_X_Lo a_X_Hi a_Y_Lo a_Y_Hi b_X_Lo b_X_Hi b_Y_Lo b_Y_Hi then (1 : Int)
else bif ref02_Meet_2 a_X_Lo a_X_Hi b_X_Lo b_X_Hi != (0 : Int) || ref02_Meet_2 a_Y_Lo a_Y_Hi b_Y_Lo b_Y_Hi != (0 : Int) then (4 : Int) else (0 : Int)
noncomputable def ref02_JoinBox_0 (a_X_Lo a_X_Hi a_Y_Lo a_Y_Hi b_X_Lo b_X_Hi b_Y_Lo b_Y_Hi : Int) : Int :=
  bif !ref02_BothBoxes_0 a_X_Lo a_X_Hi a_Y_Lo a_Y_Hi b_X_Lo b_X_Hi b_Y_Lo b_Y_Hi then (0 : Int) else ref02_Join_0 a_X_Lo a_X_Hi b_X_Lo b_X_Hi
noncomputable def ref02_JoinBox_1 (a_X_Lo a_X_Hi a_Y_Lo a_Y_Hi b_X_Lo b_X_Hi b_Y_Lo b_Y_Hi : Int) : Int :=
  bif !ref02_BothBoxes_0 a_X_Lo a_X_Hi a_Y_Lo a_Y_Hi b_X_Lo b_X_Hi b_Y_Lo b_Y_Hi then (0 : Int) else ref02_Join_1 a_X_Lo a_X_Hi b_X_Lo b_X_Hi
noncomputable def ref02_JoinBox_2 (a_X_Lo a_X_Hi a_Y_Lo a_Y_Hi b_X_Lo b_X_Hi b_Y_Lo b_Y_Hi : Int) : Int :=
  bif !ref02_BothBoxes_0 a_X_Lo a_X_Hi a_Y_Lo a_Y_Hi b_X_Lo b_X_Hi b_Y_Lo b_Y_Hi then (0 : Int) else ref02_Join_0 a_Y_Lo a_Y_Hi b_Y_Lo b_Y_Hi
noncomputable def ref02_JoinBox_3 (a_X_Lo a_X_Hi a_Y_Lo a_Y_Hi b_X_Lo b_X_Hi b_Y_Lo b_Y_Hi : Int) : Int :=
  bif !ref02_BothBoxes_0 a_X_Lo a_X_Hi a_Y_Lo a_Y_Hi b_X_Lo b_X_Hi b_Y_Lo b_Y_Hi then (0 : Int) else ref02_Join_1 a_Y_Lo a_Y_Hi b_Y_Lo b_Y_Hi
noncomputable def ref02_JoinBox_4 (a_X_Lo a_X_Hi a_Y_Lo a_Y_Hi b_X_Lo b_X_Hi b_Y_Lo b_Y_Hi : Int) : Int :=
  bif !ref02_BothBoxes_0 a_X_Lo a_X_Hi a_Y_Lo a_Y_Hi b_X_Lo b_X_Hi b_Y_Lo b_Y_Hi then (1 : Int) else (0 : Int)
noncomputable def ref02_Holds_0 (b_X_Lo b_X_Hi b_Y_Lo b_Y_Hi p_X p_Y : Int) : Bool :=
  ref02_Has_0 b_X_Lo b_X_Hi p_X && ref02_Has_0 b_Y_Lo b_Y_Hi p_Y
noncomputable def ref23_Valid_l0_init (list : List (List Int)) : List U :=
  [.b (false), .i ((0 : Int))]
noncomputable def ref23_Valid_l0_step (list : List (List Int)) (y0 : List U) : Option (Nat × List U) :=
  (bif decide (gi y0 1 < (↑list.length : Int)) then guardP (inR (gi y0 1) list) (guardP (inR (gi y0 1) list) ((bif !ref02_ValidBox_0 ((list.getD (gi y0 1).toNat []).getD 0 (0 : Int)) ((list.getD (gi y0 1).toNat []).getD 1 (0 : Int))
    ((list.getD (gi y0 1).toNat []).getD 2 (0 : Int)) ((list.getD (gi y0 1).toNat []).getD 3 (0 : Int)) then some (1, []) else some (0, [.b (gb y0 0), .i (IntKind.i64.wrap (gi y0 1 + (1 : Int)))])))) else some (3, [.b (gb y0 0), .i (gi y0 1)]))
noncomputable def ref23_Valid_l0 (list : List (List Int)) : Nat × List U := loopGet (ref23_Valid_l0_step list) (ref23_Valid_l0_init list)
noncomputable def ref23_Valid_0 (list : List (List Int)) : Bool :=
  bif decide ((↑list.length : Int) < (1 : Int)) || decide ((↑list.length : Int) > (16 : Int)) then false else bif (ref23_Valid_l0 list).fst.beq 1 then false else true
def ref23_Valid_pre (list : List (List Int)) : Prop :=
  (((decide ((↑list.length : Int) < (1 : Int)) || decide ((↑list.length : Int) > (16 : Int))) = false) → ((loopOk (ref23_Valid_l0_step list) (ref23_Valid_l0_init list))))
noncomputable def ref23_speed_0 (s_Lo s_Hi : Int) : Bool :=
  decide (s_Lo ≥ (-1000 : Int)) && decide (s_Lo ≤ s_Hi) && decide (s_Hi ≤ (1000 : Int))
noncomputable def ref23_Currents_l0_init (list : List (List Int)) : List U :=
  [.b (false), .i ((0 : Int))]
noncomputable def ref23_Currents_l0_step (list : List (List Int)) (y0 : List U) : Option (Nat × List U) :=
  (bif decide (gi y0 1 < (↑list.length : Int)) then guardP (inR (gi y0 1) list) (guardP (inR (gi y0 1) list) ((bif decide ((list.getD (gi y0 1).toNat []).getD 0 (0 : Int) < (0 : Int)) ||
        decide ((list.getD (gi y0 1).toNat []).getD 0 (0 : Int) ≥ (list.getD (gi y0 1).toNat []).getD 1 (0 : Int)) ||
      decide ((list.getD (gi y0 1).toNat []).getD 1 (0 : Int) > (10000000 : Int)) ||
    !ref23_speed_0 ((list.getD (gi y0 1).toNat []).getD 2 (0 : Int)) ((list.getD (gi y0 1).toNat []).getD 3 (0 : Int)) ||
  !ref23_speed_0 ((list.getD (gi y0 1).toNat []).getD 4 (0 : Int)) ((list.getD (gi y0 1).toNat []).getD 5 (0 : Int)) then some (1, []) else guardP ((decide (gi y0 1 > (0 : Int)) = true) → (inR (IntKind.i64.wrap (gi y0 1 - (1 : Int))) list)) (guardP ((decide (gi y0 1 > (0 : Int)) = true) → (inR (IntKind.i64.wrap (gi y0 1 - (1 : Int))) list)) (guardP ((decide (gi y0 1 > (0 : Int)) = true) → (inR (IntKind.i64.wrap (gi y0 1 - (1 : Int))) list)) ((bif decide (gi y0 1 > (0 : Int)) &&
  decide ((list.getD (gi y0 1).toNat []).getD 0 (0 : Int) < (list.getD (IntKind.i64.wrap (gi y0 1 - (1 : Int))).toNat []).getD 1 (0 : Int)) then some (2, []) else some (0, [.b (gb y0 0), .i (IntKind.i64.wrap (gi y0 1 + (1 : Int)))])))))))) else some (4, [.b (gb y0 0), .i (gi y0 1)]))
noncomputable def ref23_Currents_l0 (list : List (List Int)) : Nat × List U := loopGet (ref23_Currents_l0_step list) (ref23_Currents_l0_init list)
noncomputable def ref23_Currents_0 (list : List (List Int)) : Bool :=
  bif decide ((↑list.length : Int) > (60 : Int)) then false else bif (ref23_Currents_l0 list).fst.beq 1 then false else bif (ref23_Currents_l0 list).fst.beq 2 then false else true
def ref23_Currents_pre (list : List (List Int)) : Prop :=
  ((decide ((↑list.length : Int) > (60 : Int)) = false) → ((loopOk (ref23_Currents_l0_step list) (ref23_Currents_l0_init list))))
noncomputable def ref23_Times_0 (from_ until_ : Int) : Bool :=
  decide (from_ ≥ (0 : Int)) && decide (from_ ≤ until_) && decide (until_ ≤ (10000000 : Int))
noncomputable def ref23_Sum_s0 (from_ until_ : Int) (forecast : List (List Int)) (y0 : List U) : Int :=
  gi y0 0 +
  imax (0 : Int)
    (IntKind.i64.wrap (imin ((forecast.getD (gi y0 1).toNat []).getD 1 (0 : Int)) until_ - imax ((forecast.getD (gi y0 1).toNat []).getD 0 (0 : Int)) from_))
noncomputable def ref23_Sum_s1 (from_ until_ : Int) (forecast : List (List Int)) (y0 : List U) : Int :=
  imax (0 : Int)
    (IntKind.i64.wrap (imin ((forecast.getD (gi y0 1).toNat []).getD 1 (0 : Int)) until_ - imax ((forecast.getD (gi y0 1).toNat []).getD 0 (0 : Int)) from_)) *
  (forecast.getD (gi y0 1).toNat []).getD 4 (0 : Int)
noncomputable def ref23_Sum_s2 (from_ until_ : Int) (forecast : List (List Int)) (y0 : List U) : Int :=
  imax (0 : Int)
    (IntKind.i64.wrap (imin ((forecast.getD (gi y0 1).toNat []).getD 1 (0 : Int)) until_ - imax ((forecast.getD (gi y0 1).toNat []).getD 0 (0 : Int)) from_)) *
  (forecast.getD (gi y0 1).toNat []).getD 5 (0 : Int)
noncomputable def ref23_Sum_s3 (from_ until_ : Int) (forecast : List (List Int)) (y0 : List U) : Int :=
  imax (0 : Int)
    (IntKind.i64.wrap (imin ((forecast.getD (gi y0 1).toNat []).getD 1 (0 : Int)) until_ - imax ((forecast.getD (gi y0 1).toNat []).getD 0 (0 : Int)) from_)) *
  (forecast.getD (gi y0 1).toNat []).getD 2 (0 : Int)
noncomputable def ref23_Sum_s4 (from_ until_ : Int) (forecast : List (List Int)) (y0 : List U) : Int :=
  imax (0 : Int)
    (IntKind.i64.wrap (imin ((forecast.getD (gi y0 1).toNat []).getD 1 (0 : Int)) until_ - imax ((forecast.getD (gi y0 1).toNat []).getD 0 (0 : Int)) from_)) *
  (forecast.getD (gi y0 1).toNat []).getD 3 (0 : Int)
noncomputable def ref23_Sum_l0_init (from_ until_ : Int) (forecast : List (List Int)) : List U :=
  [.i ((0 : Int)), .i ((0 : Int)), .i ((0 : Int)), .i ((0 : Int)), .i ((0 : Int)), .i ((0 : Int))]
noncomputable def ref23_Sum_l0_step (from_ until_ : Int) (forecast : List (List Int)) (y0 : List U) : Option (Nat × List U) :=
  (bif decide (gi y0 1 < (↑forecast.length : Int)) then guardP (inR (gi y0 1) forecast) (guardP (inR (gi y0 1) forecast) (some (0, [.i (IntKind.i64.wrap ((ref23_Sum_s0 from_ until_ forecast y0))), .i (IntKind.i64.wrap (gi y0 1 + (1 : Int))), .i (IntKind.i64.wrap (gi y0 2 + IntKind.i64.wrap ((ref23_Sum_s1 from_ until_ forecast y0)))), .i (IntKind.i64.wrap (gi y0 3 + IntKind.i64.wrap ((ref23_Sum_s2 from_ until_ forecast y0)))), .i (IntKind.i64.wrap (gi y0 4 + IntKind.i64.wrap ((ref23_Sum_s3 from_ until_ forecast y0)))), .i (IntKind.i64.wrap (gi y0 5 + IntKind.i64.wrap ((ref23_Sum_s4 from_ until_ forecast y0))))]))) else some (2, [.i (gi y0 0), .i (gi y0 1), .i (gi y0 2), .i (gi y0 3), .i (gi y0 4), .i (gi y0 5)]))
noncomputable def ref23_Sum_l0 (from_ until_ : Int) (forecast : List (List Int)) : Nat × List U := loopGet (ref23_Sum_l0_step from_ until_ forecast) (ref23_Sum_l0_init from_ until_ forecast)
noncomputable def ref23_Sum_s5 (from_ until_ : Int) (forecast : List (List Int)) : Int :=
  bif decide (gi (ref23_Sum_l0 from_ until_ forecast).snd 0 < IntKind.i64.wrap (until_ - from_)) then (0 : Int) else gi (ref23_Sum_l0 from_ until_ forecast).snd 4
noncomputable def ref23_Sum_0 (from_ until_ : Int) (forecast : List (List Int)) : Int :=
  bif !ref23_Currents_0 forecast || !ref23_Times_0 from_ until_ then (0 : Int) else (ref23_Sum_s5 from_ until_ forecast)
noncomputable def ref23_Sum_s6 (from_ until_ : Int) (forecast : List (List Int)) : Int :=
  bif decide (gi (ref23_Sum_l0 from_ until_ forecast).snd 0 < IntKind.i64.wrap (until_ - from_)) then (0 : Int) else gi (ref23_Sum_l0 from_ until_ forecast).snd 5
noncomputable def ref23_Sum_1 (from_ until_ : Int) (forecast : List (List Int)) : Int :=
  bif !ref23_Currents_0 forecast || !ref23_Times_0 from_ until_ then (0 : Int) else (ref23_Sum_s6 from_ until_ forecast)
noncomputable def ref23_Sum_s7 (from_ until_ : Int) (forecast : List (List Int)) : Int :=
  bif decide (gi (ref23_Sum_l0 from_ until_ forecast).snd 0 < IntKind.i64.wrap (until_ - from_)) then (0 : Int) else gi (ref23_Sum_l0 from_ until_ forecast).snd 2
noncomputable def ref23_Sum_2 (from_ until_ : Int) (forecast : List (List Int)) : Int :=
  bif !ref23_Currents_0 forecast || !ref23_Times_0 from_ until_ then (0 : Int) else (ref23_Sum_s7 from_ until_ forecast)
noncomputable def ref23_Sum_s8 (from_ until_ : Int) (forecast : List (List Int)) : Int :=
  bif decide (gi (ref23_Sum_l0 from_ until_ forecast).snd 0 < IntKind.i64.wrap (until_ - from_)) then (0 : Int) else gi (ref23_Sum_l0 from_ until_ forecast).snd 3
noncomputable def ref23_Sum_3 (from_ until_ : Int) (forecast : List (List Int)) : Int :=
  bif !ref23_Currents_0 forecast || !ref23_Times_0 from_ until_ then (0 : Int) else (ref23_Sum_s8 from_ until_ forecast)
noncomputable def ref23_Sum_s9 (from_ until_ : Int) (forecast : List (List Int)) : Int :=
  bif !ref23_Currents_0 forecast || !ref23_Times_0 from_ until_ then (1 : Int) else bif decide (gi (ref23_Sum_l0 from_ until_ forecast).snd 0 < IntKind.i64.wrap (until_ - from_)) then (4 : Int) else (0 : Int)
noncomputable def ref23_Sum_4 (from_ until_ : Int) (forecast : List (List Int)) : Int :=
  (ref23_Sum_s9 from_ until_ forecast)
def ref23_Sum_pre (from_ until_ : Int) (forecast : List (List Int)) : Prop :=
  ((ref23_Currents_pre forecast) ∧ (((!ref23_Currents_0 forecast || !ref23_Times_0 from_ until_) = false) → ((loopOk (ref23_Sum_l0_step from_ until_ forecast) (ref23_Sum_l0_init from_ until_ forecast)))))
noncomputable def ref23_moved_0 (s_Lo s_Hi by__Lo by__Hi : Int) : Int :=
  ref02_Down_0 (IntKind.i64.wrap (IntKind.i64.wrap ((100 : Int) * s_Lo) + by__Lo)) (100 : Int)
noncomputable def ref23_moved_1 (s_Lo s_Hi by__Lo by__Hi : Int) : Int :=
  ref02_Up_0 (IntKind.i64.wrap (IntKind.i64.wrap ((100 : Int) * s_Hi) + by__Hi)) (100 : Int)
def ref23_moved_pre (s_Lo s_Hi by__Lo by__Hi : Int) : Prop :=
  ((ref02_Down_pre (IntKind.i64.wrap (IntKind.i64.wrap ((100 : Int) * s_Lo) + by__Lo)) (100 : Int)) ∧ (ref02_Up_pre (IntKind.i64.wrap (IntKind.i64.wrap ((100 : Int) * s_Hi) + by__Hi)) (100 : Int)))
noncomputable def ref23_Move_s0 (from_ until_ : Int) (list forecast : List (List Int)) (y0 : List U) : List Int :=
  [ref23_moved_0 ((list.getD (gi y0 1).toNat []).getD 2 (0 : Int)) ((list.getD (gi y0 1).toNat []).getD 3 (0 : Int)) (ref23_Sum_2 from_ until_ forecast)
    (ref23_Sum_3 from_ until_ forecast),
  ref23_moved_1 ((list.getD (gi y0 1).toNat []).getD 2 (0 : Int)) ((list.getD (gi y0 1).toNat []).getD 3 (0 : Int)) (ref23_Sum_2 from_ until_ forecast)
    (ref23_Sum_3 from_ until_ forecast)]
noncomputable def ref23_Move_s1 (from_ until_ : Int) (list forecast : List (List Int)) (y0 : List U) : List Int :=
  ref23_moved_0 ((list.getD (gi y0 1).toNat []).getD 0 (0 : Int)) ((list.getD (gi y0 1).toNat []).getD 1 (0 : Int)) (ref23_Sum_0 from_ until_ forecast)
    (ref23_Sum_1 from_ until_ forecast) ::
  ref23_moved_1 ((list.getD (gi y0 1).toNat []).getD 0 (0 : Int)) ((list.getD (gi y0 1).toNat []).getD 1 (0 : Int)) (ref23_Sum_0 from_ until_ forecast)
      (ref23_Sum_1 from_ until_ forecast) ::
    (ref23_Move_s0 from_ until_ list forecast y0)
noncomputable def ref23_Move_l0_init (from_ until_ : Int) (list forecast : List (List Int)) : List U :=
  [.i ((0 : Int)), .i ((0 : Int)), .r ([])]
noncomputable def ref23_Move_l0_step (from_ until_ : Int) (list forecast : List (List Int)) (y0 : List U) : Option (Nat × List U) :=
  (bif decide (gi y0 1 < (↑list.length : Int)) then guardP (inR (gi y0 1) list) (guardP (inR (gi y0 1) list) (guardP (inR (gi y0 1) list) (guardP (ref23_moved_pre ((list.getD (gi y0 1).toNat []).getD 0 (0 : Int)) ((list.getD (gi y0 1).toNat []).getD 1 (0 : Int)) (ref23_Sum_0 from_ until_ forecast)
  (ref23_Sum_1 from_ until_ forecast)) (guardP (inR (gi y0 1) list) (guardP (inR (gi y0 1) list) (guardP (inR (gi y0 1) list) (guardP (ref23_moved_pre ((list.getD (gi y0 1).toNat []).getD 2 (0 : Int)) ((list.getD (gi y0 1).toNat []).getD 3 (0 : Int)) (ref23_Sum_2 from_ until_ forecast)
  (ref23_Sum_3 from_ until_ forecast)) ((bif !ref02_ValidBox_0
    (ref23_moved_0 ((list.getD (gi y0 1).toNat []).getD 0 (0 : Int)) ((list.getD (gi y0 1).toNat []).getD 1 (0 : Int)) (ref23_Sum_0 from_ until_ forecast)
      (ref23_Sum_1 from_ until_ forecast))
    (ref23_moved_1 ((list.getD (gi y0 1).toNat []).getD 0 (0 : Int)) ((list.getD (gi y0 1).toNat []).getD 1 (0 : Int)) (ref23_Sum_0 from_ until_ forecast)
      (ref23_Sum_1 from_ until_ forecast))
    (ref23_moved_0 ((list.getD (gi y0 1).toNat []).getD 2 (0 : Int)) ((list.getD (gi y0 1).toNat []).getD 3 (0 : Int)) (ref23_Sum_2 from_ until_ forecast)
      (ref23_Sum_3 from_ until_ forecast))
    (ref23_moved_1 ((list.getD (gi y0 1).toNat []).getD 2 (0 : Int)) ((list.getD (gi y0 1).toNat []).getD 3 (0 : Int)) (ref23_Sum_2 from_ until_ forecast)
      (ref23_Sum_3 from_ until_ forecast)) then some (1, []) else guardP (fitsA 32 ((gr y0 2).length + [(ref23_Move_s1 from_ until_ list forecast y0)].length)) (some (0, [.i (gi y0 0), .i (IntKind.i64.wrap (gi y0 1 + (1 : Int))), .r (gr y0 2 ++ [(ref23_Move_s1 from_ until_ list forecast y0)])]))))))))))) else some (3, [.i (gi y0 0), .i (gi y0 1), .r (gr y0 2)]))
noncomputable def ref23_Move_l0 (from_ until_ : Int) (list forecast : List (List Int)) : Nat × List U := loopGet (ref23_Move_l0_step from_ until_ list forecast) (ref23_Move_l0_init from_ until_ list forecast)
noncomputable def ref23_Move_s2 (from_ until_ : Int) (list forecast : List (List Int)) : List (List Int) :=
  bif !ref23_Valid_0 list || ref23_Sum_4 from_ until_ forecast == (1 : Int) then []
else bif ref23_Sum_4 from_ until_ forecast != (0 : Int) then [] else bif (ref23_Move_l0 from_ until_ list forecast).fst.beq 1 then [] else gr (ref23_Move_l0 from_ until_ list forecast).snd 2
noncomputable def ref23_Move_0 (from_ until_ : Int) (list forecast : List (List Int)) : List (List Int) :=
  (ref23_Move_s2 from_ until_ list forecast)
noncomputable def ref23_Move_1 (from_ until_ : Int) (list forecast : List (List Int)) : Int :=
  bif !ref23_Valid_0 list || ref23_Sum_4 from_ until_ forecast == (1 : Int) then (1 : Int)
else bif ref23_Sum_4 from_ until_ forecast != (0 : Int) then ref23_Sum_4 from_ until_ forecast else bif (ref23_Move_l0 from_ until_ list forecast).fst.beq 1 then (3 : Int) else (0 : Int)
def ref23_Move_pre (from_ until_ : Int) (list forecast : List (List Int)) : Prop :=
  ((ref23_Valid_pre list) ∧ ((ref23_Sum_pre from_ until_ forecast) ∧ (((!ref23_Valid_0 list || ref23_Sum_4 from_ until_ forecast == (1 : Int)) = false) → (((ref23_Sum_4 from_ until_ forecast != (0 : Int)) = false) → ((loopOk (ref23_Move_l0_step from_ until_ list forecast) (ref23_Move_l0_init from_ until_ list forecast)))))))
noncomputable def ref23_Allows_0 (from_ until_ p_X p_Y q_X q_Y : Int) (forecast : List (List Int)) : Bool :=
  bif !ref02_Place_0 p_X p_Y || !ref02_Place_0 q_X q_Y || ref23_Sum_4 from_ until_ forecast == (1 : Int) then false
else
  bif ref23_Sum_4 from_ until_ forecast != (0 : Int) then false
  else
    ref02_Has_0 (ref23_Sum_0 from_ until_ forecast) (ref23_Sum_1 from_ until_ forecast) (IntKind.i64.wrap ((100 : Int) * IntKind.i64.wrap (q_X - p_X))) &&
      ref02_Has_0 (ref23_Sum_2 from_ until_ forecast) (ref23_Sum_3 from_ until_ forecast) (IntKind.i64.wrap ((100 : Int) * IntKind.i64.wrap (q_Y - p_Y)))
noncomputable def ref23_Allows_1 (from_ until_ p_X p_Y q_X q_Y : Int) (forecast : List (List Int)) : Int :=
  bif !ref02_Place_0 p_X p_Y || !ref02_Place_0 q_X q_Y || ref23_Sum_4 from_ until_ forecast == (1 : Int) then (1 : Int)
else bif ref23_Sum_4 from_ until_ forecast != (0 : Int) then ref23_Sum_4 from_ until_ forecast else (0 : Int)
def ref23_Allows_pre (from_ until_ p_X p_Y q_X q_Y : Int) (forecast : List (List Int)) : Prop :=
  (ref23_Sum_pre from_ until_ forecast)
noncomputable def ref23_Cut_s0 (b_X_Lo b_X_Hi b_Y_Lo b_Y_Hi : Int) (list : List (List Int)) (y0 : List U) : Int :=
  ref02_MeetBox_4 ((list.getD (gi y0 0).toNat []).getD 0 (0 : Int)) ((list.getD (gi y0 0).toNat []).getD 1 (0 : Int))
  ((list.getD (gi y0 0).toNat []).getD 2 (0 : Int)) ((list.getD (gi y0 0).toNat []).getD 3 (0 : Int)) b_X_Lo b_X_Hi b_Y_Lo b_Y_Hi
noncomputable def ref23_Cut_s1 (b_X_Lo b_X_Hi b_Y_Lo b_Y_Hi : Int) (list : List (List Int)) (y0 : List U) : Int :=
  ref02_MeetBox_0 ((list.getD (gi y0 0).toNat []).getD 0 (0 : Int)) ((list.getD (gi y0 0).toNat []).getD 1 (0 : Int))
  ((list.getD (gi y0 0).toNat []).getD 2 (0 : Int)) ((list.getD (gi y0 0).toNat []).getD 3 (0 : Int)) b_X_Lo b_X_Hi b_Y_Lo b_Y_Hi
noncomputable def ref23_Cut_s2 (b_X_Lo b_X_Hi b_Y_Lo b_Y_Hi : Int) (list : List (List Int)) (y0 : List U) : Int :=
  ref02_MeetBox_1 ((list.getD (gi y0 0).toNat []).getD 0 (0 : Int)) ((list.getD (gi y0 0).toNat []).getD 1 (0 : Int))
  ((list.getD (gi y0 0).toNat []).getD 2 (0 : Int)) ((list.getD (gi y0 0).toNat []).getD 3 (0 : Int)) b_X_Lo b_X_Hi b_Y_Lo b_Y_Hi
noncomputable def ref23_Cut_s3 (b_X_Lo b_X_Hi b_Y_Lo b_Y_Hi : Int) (list : List (List Int)) (y0 : List U) : Int :=
  ref02_MeetBox_2 ((list.getD (gi y0 0).toNat []).getD 0 (0 : Int)) ((list.getD (gi y0 0).toNat []).getD 1 (0 : Int))
  ((list.getD (gi y0 0).toNat []).getD 2 (0 : Int)) ((list.getD (gi y0 0).toNat []).getD 3 (0 : Int)) b_X_Lo b_X_Hi b_Y_Lo b_Y_Hi
noncomputable def ref23_Cut_s4 (b_X_Lo b_X_Hi b_Y_Lo b_Y_Hi : Int) (list : List (List Int)) (y0 : List U) : Int :=
  ref02_MeetBox_3 ((list.getD (gi y0 0).toNat []).getD 0 (0 : Int)) ((list.getD (gi y0 0).toNat []).getD 1 (0 : Int))
  ((list.getD (gi y0 0).toNat []).getD 2 (0 : Int)) ((list.getD (gi y0 0).toNat []).getD 3 (0 : Int)) b_X_Lo b_X_Hi b_Y_Lo b_Y_Hi
noncomputable def ref23_Cut_l0_init (b_X_Lo b_X_Hi b_Y_Lo b_Y_Hi : Int) (list : List (List Int)) : List U :=
  [.i ((0 : Int)), .r ([])]
noncomputable def ref23_Cut_l0_step (b_X_Lo b_X_Hi b_Y_Lo b_Y_Hi : Int) (list : List (List Int)) (y0 : List U) : Option (Nat × List U) :=
  (bif decide (gi y0 0 < (↑list.length : Int)) then guardP (inR (gi y0 0) list) (guardP (inR (gi y0 0) list) ((bif (ref23_Cut_s0 b_X_Lo b_X_Hi b_Y_Lo b_Y_Hi list y0) == (0 : Int) then guardP (fitsA 32 ((gr y0 1).length + [[(ref23_Cut_s1 b_X_Lo b_X_Hi b_Y_Lo b_Y_Hi list y0), (ref23_Cut_s2 b_X_Lo b_X_Hi b_Y_Lo b_Y_Hi list y0), (ref23_Cut_s3 b_X_Lo b_X_Hi b_Y_Lo b_Y_Hi list y0), (ref23_Cut_s4 b_X_Lo b_X_Hi b_Y_Lo b_Y_Hi list y0)]].length)) (some (0, [.i (IntKind.i64.wrap (gi y0 0 + (1 : Int))), .r (gr y0 1 ++ [[(ref23_Cut_s1 b_X_Lo b_X_Hi b_Y_Lo b_Y_Hi list y0), (ref23_Cut_s2 b_X_Lo b_X_Hi b_Y_Lo b_Y_Hi list y0), (ref23_Cut_s3 b_X_Lo b_X_Hi b_Y_Lo b_Y_Hi list y0), (ref23_Cut_s4 b_X_Lo b_X_Hi b_Y_Lo b_Y_Hi list y0)]])])) else some (0, [.i (IntKind.i64.wrap (gi y0 0 + (1 : Int))), .r (gr y0 1)])))) else some (3, [.i (gi y0 0), .r (gr y0 1)]))
noncomputable def ref23_Cut_l0 (b_X_Lo b_X_Hi b_Y_Lo b_Y_Hi : Int) (list : List (List Int)) : Nat × List U := loopGet (ref23_Cut_l0_step b_X_Lo b_X_Hi b_Y_Lo b_Y_Hi list) (ref23_Cut_l0_init b_X_Lo b_X_Hi b_Y_Lo b_Y_Hi list)
noncomputable def ref23_Cut_0 (b_X_Lo b_X_Hi b_Y_Lo b_Y_Hi : Int) (list : List (List Int)) : List (List Int) :=
  bif !ref23_Valid_0 list || !ref02_ValidBox_0 b_X_Lo b_X_Hi b_Y_Lo b_Y_Hi then []
else bif (↑(gr (ref23_Cut_l0 b_X_Lo b_X_Hi b_Y_Lo b_Y_Hi list).snd 1).length : Int) == (0 : Int) then [] else gr (ref23_Cut_l0 b_X_Lo b_X_Hi b_Y_Lo b_Y_Hi list).snd 1
noncomputable def ref23_Cut_1 (b_X_Lo b_X_Hi b_Y_Lo b_Y_Hi : Int) (list : List (List Int)) : Int :=
  bif !ref23_Valid_0 list || !ref02_ValidBox_0 b_X_Lo b_X_Hi b_Y_Lo b_Y_Hi then (1 : Int) else bif (↑(gr (ref23_Cut_l0 b_X_Lo b_X_Hi b_Y_Lo b_Y_Hi list).snd 1).length : Int) == (0 : Int) then (4 : Int) else (0 : Int)
def ref23_Cut_pre (b_X_Lo b_X_Hi b_Y_Lo b_Y_Hi : Int) (list : List (List Int)) : Prop :=
  ((ref23_Valid_pre list) ∧ (((!ref23_Valid_0 list || !ref02_ValidBox_0 b_X_Lo b_X_Hi b_Y_Lo b_Y_Hi) = false) → ((loopOk (ref23_Cut_l0_step b_X_Lo b_X_Hi b_Y_Lo b_Y_Hi list) (ref23_Cut_l0_init b_X_Lo b_X_Hi b_Y_Lo b_Y_Hi list)))))
noncomputable def ref23_Has_l0_init (p_X p_Y : Int) (list : List (List Int)) : List U :=
  [.b (false), .i ((0 : Int))]
noncomputable def ref23_Has_l0_step (p_X p_Y : Int) (list : List (List Int)) (y0 : List U) : Option (Nat × List U) :=
  (bif decide (gi y0 1 < (↑list.length : Int)) then guardP (inR (gi y0 1) list) (guardP (inR (gi y0 1) list) ((bif ref02_Holds_0 ((list.getD (gi y0 1).toNat []).getD 0 (0 : Int)) ((list.getD (gi y0 1).toNat []).getD 1 (0 : Int))
  ((list.getD (gi y0 1).toNat []).getD 2 (0 : Int)) ((list.getD (gi y0 1).toNat []).getD 3 (0 : Int)) p_X p_Y then some (1, []) else some (0, [.b (gb y0 0), .i (IntKind.i64.wrap (gi y0 1 + (1 : Int)))])))) else some (3, [.b (gb y0 0), .i (gi y0 1)]))
noncomputable def ref23_Has_l0 (p_X p_Y : Int) (list : List (List Int)) : Nat × List U := loopGet (ref23_Has_l0_step p_X p_Y list) (ref23_Has_l0_init p_X p_Y list)
noncomputable def ref23_Has_0 (p_X p_Y : Int) (list : List (List Int)) : Bool :=
  bif (ref23_Has_l0 p_X p_Y list).fst.beq 1 then true else false
def ref23_Has_pre (p_X p_Y : Int) (list : List (List Int)) : Prop :=
  ((loopOk (ref23_Has_l0_step p_X p_Y list) (ref23_Has_l0_init p_X p_Y list)))
noncomputable def ref23_In_0 (p_X p_Y : Int) (list : List (List Int)) : Bool :=
  bif !ref23_Valid_0 list || !ref02_Place_0 p_X p_Y then false else ref23_Has_0 p_X p_Y list
noncomputable def ref23_In_1 (p_X p_Y : Int) (list : List (List Int)) : Int :=
  bif !ref23_Valid_0 list || !ref02_Place_0 p_X p_Y then (1 : Int) else (0 : Int)
def ref23_In_pre (p_X p_Y : Int) (list : List (List Int)) : Prop :=
  ((ref23_Valid_pre list) ∧ (((!ref23_Valid_0 list || !ref02_Place_0 p_X p_Y) = false) → (ref23_Has_pre p_X p_Y list)))
noncomputable def ref23_before_0 (a_X_Lo a_X_Hi a_Y_Lo a_Y_Hi b_X_Lo b_X_Hi b_Y_Lo b_Y_Hi : Int) : Bool :=
  bif a_X_Lo != b_X_Lo then decide (a_X_Lo < b_X_Lo) else bif a_Y_Lo != b_Y_Lo then decide (a_Y_Lo < b_Y_Lo) else bif a_X_Hi != b_X_Hi then decide (a_X_Hi < b_X_Hi) else decide (a_Y_Hi < b_Y_Hi)
end Go.Proofs.YtddfnokjnafdpaaGreat
