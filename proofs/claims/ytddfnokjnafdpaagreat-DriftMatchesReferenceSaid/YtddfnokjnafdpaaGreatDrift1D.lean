/- Written by program (wip/sygen.py): what the Go functions compute, as the executor reads it off their code. -/
import Derived.Test.YtddfnokjnafdpaaGreatSyD
set_option maxRecDepth 100000
set_option linter.unusedVariables false
namespace Go.Proofs.YtddfnokjnafdpaaGreat
open Go Go.Sy
noncomputable def span_Valid_0 (s_Lo s_Hi : Int) : Bool :=
  decide ((-1000000000000 : Int) ≤ s_Lo) && decide (s_Lo ≤ s_Hi) && decide (s_Hi ≤ (1000000000000 : Int))
noncomputable def span_ends_int_0 (a b : Int) : Int :=
  imin a b
noncomputable def span_ends_int_1 (a b : Int) : Int :=
  imax a b
noncomputable def span_Meet_0 (s_Lo s_Hi t_Lo t_Hi : Int) : Int :=
  bif !span_Valid_0 s_Lo s_Hi || !span_Valid_0 t_Lo t_Hi then (0 : Int) else bif decide (imin s_Hi t_Hi < imax s_Lo t_Lo) then (0 : Int) else imax s_Lo t_Lo
noncomputable def span_Meet_1 (s_Lo s_Hi t_Lo t_Hi : Int) : Int :=
  bif !span_Valid_0 s_Lo s_Hi || !span_Valid_0 t_Lo t_Hi then (0 : Int) else bif decide (imin s_Hi t_Hi < imax s_Lo t_Lo) then (0 : Int) else imin s_Hi t_Hi
noncomputable def span_Meet_2 (s_Lo s_Hi t_Lo t_Hi : Int) : Int :=
  bif !span_Valid_0 s_Lo s_Hi || !span_Valid_0 t_Lo t_Hi then (1 : Int) else bif decide (imin s_Hi t_Hi < imax s_Lo t_Lo) then (4 : Int) else (0 : Int)
noncomputable def span_Join_0 (s_Lo s_Hi t_Lo t_Hi : Int) : Int :=
  bif !span_Valid_0 s_Lo s_Hi || !span_Valid_0 t_Lo t_Hi then (0 : Int) else span_ends_int_0 s_Lo t_Lo
noncomputable def span_Join_1 (s_Lo s_Hi t_Lo t_Hi : Int) : Int :=
  bif !span_Valid_0 s_Lo s_Hi || !span_Valid_0 t_Lo t_Hi then (0 : Int) else span_ends_int_1 s_Hi t_Hi
noncomputable def span_Join_2 (s_Lo s_Hi t_Lo t_Hi : Int) : Int :=
  bif !span_Valid_0 s_Lo s_Hi || !span_Valid_0 t_Lo t_Hi then (1 : Int) else (0 : Int)
noncomputable def span_Within_0 (s_Lo s_Hi t_Lo t_Hi : Int) : Bool :=
  span_Join_2 s_Lo s_Hi t_Lo t_Hi == (0 : Int) && (span_Join_0 s_Lo s_Hi t_Lo t_Hi == t_Lo && (span_Join_1 s_Lo s_Hi t_Lo t_Hi == t_Hi && true))
noncomputable def span_Within_1 (s_Lo s_Hi t_Lo t_Hi : Int) : Int :=
  span_Join_2 s_Lo s_Hi t_Lo t_Hi
noncomputable def span_ValidBox_0 (b_X_Lo b_X_Hi b_Y_Lo b_Y_Hi : Int) : Bool :=
  span_Within_1 b_X_Lo b_X_Hi (-1000000 : Int) (1000000 : Int) == (0 : Int) && span_Within_1 b_Y_Lo b_Y_Hi (-1000000 : Int) (1000000 : Int) == (0 : Int) &&
    span_Within_0 b_X_Lo b_X_Hi (-1000000 : Int) (1000000 : Int) &&
  span_Within_0 b_Y_Lo b_Y_Hi (-1000000 : Int) (1000000 : Int)
noncomputable def span_InBox_0 (p_X p_Y b_X_Lo b_X_Hi b_Y_Lo b_Y_Hi : Int) : Bool :=
  (bif !span_ValidBox_0 p_X p_X p_Y p_Y || !span_ValidBox_0 b_X_Lo b_X_Hi b_Y_Lo b_Y_Hi then (1 : Int)
    else
      bif imax (span_Join_2 p_X p_X b_X_Lo b_X_Hi) (span_Join_2 p_Y p_Y b_Y_Lo b_Y_Hi) != (0 : Int) then imax (span_Join_2 p_X p_X b_X_Lo b_X_Hi) (span_Join_2 p_Y p_Y b_Y_Lo b_Y_Hi) else (0 : Int)) ==
    (0 : Int) &&
  ((bif !span_ValidBox_0 p_X p_X p_Y p_Y || !span_ValidBox_0 b_X_Lo b_X_Hi b_Y_Lo b_Y_Hi then (0 : Int)
        else bif imax (span_Join_2 p_X p_X b_X_Lo b_X_Hi) (span_Join_2 p_Y p_Y b_Y_Lo b_Y_Hi) != (0 : Int) then (0 : Int) else span_Join_0 p_X p_X b_X_Lo b_X_Hi) ==
        b_X_Lo &&
      ((bif !span_ValidBox_0 p_X p_X p_Y p_Y || !span_ValidBox_0 b_X_Lo b_X_Hi b_Y_Lo b_Y_Hi then (0 : Int)
          else bif imax (span_Join_2 p_X p_X b_X_Lo b_X_Hi) (span_Join_2 p_Y p_Y b_Y_Lo b_Y_Hi) != (0 : Int) then (0 : Int) else span_Join_1 p_X p_X b_X_Lo b_X_Hi) ==
          b_X_Hi &&
        true) &&
    ((bif !span_ValidBox_0 p_X p_X p_Y p_Y || !span_ValidBox_0 b_X_Lo b_X_Hi b_Y_Lo b_Y_Hi then (0 : Int)
          else bif imax (span_Join_2 p_X p_X b_X_Lo b_X_Hi) (span_Join_2 p_Y p_Y b_Y_Lo b_Y_Hi) != (0 : Int) then (0 : Int) else span_Join_0 p_Y p_Y b_Y_Lo b_Y_Hi) ==
          b_Y_Lo &&
        ((bif !span_ValidBox_0 p_X p_X p_Y p_Y || !span_ValidBox_0 b_X_Lo b_X_Hi b_Y_Lo b_Y_Hi then (0 : Int)
            else bif imax (span_Join_2 p_X p_X b_X_Lo b_X_Hi) (span_Join_2 p_Y p_Y b_Y_Lo b_Y_Hi) != (0 : Int) then (0 : Int) else span_Join_1 p_Y p_Y b_Y_Lo b_Y_Hi) ==
            b_Y_Hi &&
          true) &&
      true))
noncomputable def span_InBox_1 (p_X p_Y b_X_Lo b_X_Hi b_Y_Lo b_Y_Hi : Int) : Int :=
  bif !span_ValidBox_0 p_X p_X p_Y p_Y || !span_ValidBox_0 b_X_Lo b_X_Hi b_Y_Lo b_Y_Hi then (1 : Int)
else bif imax (span_Join_2 p_X p_X b_X_Lo b_X_Hi) (span_Join_2 p_Y p_Y b_Y_Lo b_Y_Hi) != (0 : Int) then imax (span_Join_2 p_X p_X b_X_Lo b_X_Hi) (span_Join_2 p_Y p_Y b_Y_Lo b_Y_Hi) else (0 : Int)
noncomputable def span_MeetBox_0 (a_X_Lo a_X_Hi a_Y_Lo a_Y_Hi b_X_Lo b_X_Hi b_Y_Lo b_Y_Hi : Int) : Int :=
  bif !span_ValidBox_0 a_X_Lo a_X_Hi a_Y_Lo a_Y_Hi || !span_ValidBox_0 b_X_Lo b_X_Hi b_Y_Lo b_Y_Hi then (0 : Int)
else bif imax (span_Meet_2 a_X_Lo a_X_Hi b_X_Lo b_X_Hi) (span_Meet_2 a_Y_Lo a_Y_Hi b_Y_Lo b_Y_Hi) != (0 : Int) then (0 : Int) else span_Meet_0 a_X_Lo a_X_Hi b_X_Lo b_X_Hi
noncomputable def span_MeetBox_1 (a_X_Lo a_X_Hi a_Y_Lo a_Y_Hi b_X_Lo b_X_Hi b_Y_Lo b_Y_Hi : Int) : Int :=
  bif !span_ValidBox_0 a_X_Lo a_X_Hi a_Y_Lo a_Y_Hi || !span_ValidBox_0 b_X_Lo b_X_Hi b_Y_Lo b_Y_Hi then (0 : Int)
else bif imax (span_Meet_2 a_X_Lo a_X_Hi b_X_Lo b_X_Hi) (span_Meet_2 a_Y_Lo a_Y_Hi b_Y_Lo b_Y_Hi) != (0 : Int) then (0 : Int) else span_Meet_1 a_X_Lo a_X_Hi b_X_Lo b_X_Hi
noncomputable def span_MeetBox_2 (a_X_Lo a_X_Hi a_Y_Lo a_Y_Hi b_X_Lo b_X_Hi b_Y_Lo b_Y_Hi : Int) : Int :=
  bif !span_ValidBox_0 a_X_Lo a_X_Hi a_Y_Lo a_Y_Hi || !span_ValidBox_0 b_X_Lo b_X_Hi b_Y_Lo b_Y_Hi then (0 : Int)
else bif imax (span_Meet_2 a_X_Lo a_X_Hi b_X_Lo b_X_Hi) (span_Meet_2 a_Y_Lo a_Y_Hi b_Y_Lo b_Y_Hi) != (0 : Int) then (0 : Int) else span_Meet_0 a_Y_Lo a_Y_Hi b_Y_Lo b_Y_Hi
noncomputable def span_MeetBox_3 (a_X_Lo a_X_Hi a_Y_Lo a_Y_Hi b_X_Lo b_X_Hi b_Y_Lo b_Y_Hi : Int) : Int :=
  bif !span_ValidBox_0 a_X_Lo a_X_Hi a_Y_Lo a_Y_Hi || !span_ValidBox_0 b_X_Lo b_X_Hi b_Y_Lo b_Y_Hi then (0 : Int)
else bif imax (span_Meet_2 a_X_Lo a_X_Hi b_X_Lo b_X_Hi) (span_Meet_2 a_Y_Lo a_Y_Hi b_Y_Lo b_Y_Hi) != (0 : Int) then (0 : Int) else span_Meet_1 a_Y_Lo a_Y_Hi b_Y_Lo b_Y_Hi
noncomputable def span_MeetBox_4 (a_X_Lo a_X_Hi a_Y_Lo a_Y_Hi b_X_Lo b_X_Hi b_Y_Lo b_Y_Hi : Int) : Int :=
  bif !span_ValidBox_0 a_X_Lo a_X_Hi a_Y_Lo a_Y_Hi || !span_ValidBox_0 b_X_Lo b_X_Hi b_Y_Lo b_Y_Hi then (1 : Int)
else
  bif imax (span_Meet_2 a_X_Lo a_X_Hi b_X_Lo b_X_Hi) (span_Meet_2 a_Y_Lo a_Y_Hi b_Y_Lo b_Y_Hi) != (0 : Int) then
    imax (span_Meet_2 a_X_Lo a_X_Hi b_X_Lo b_X_Hi) (span_Meet_2 a_Y_Lo a_Y_Hi b_Y_Lo b_Y_Hi)
  else (0 : Int)
noncomputable def span_JoinBox_0 (a_X_Lo a_X_Hi a_Y_Lo a_Y_Hi b_X_Lo b_X_Hi b_Y_Lo b_Y_Hi : Int) : Int :=
  bif !span_ValidBox_0 a_X_Lo a_X_Hi a_Y_Lo a_Y_Hi || !span_ValidBox_0 b_X_Lo b_X_Hi b_Y_Lo b_Y_Hi then (0 : Int)
else bif imax (span_Join_2 a_X_Lo a_X_Hi b_X_Lo b_X_Hi) (span_Join_2 a_Y_Lo a_Y_Hi b_Y_Lo b_Y_Hi) != (0 : Int) then (0 : Int) else span_Join_0 a_X_Lo a_X_Hi b_X_Lo b_X_Hi
noncomputable def span_JoinBox_1 (a_X_Lo a_X_Hi a_Y_Lo a_Y_Hi b_X_Lo b_X_Hi b_Y_Lo b_Y_Hi : Int) : Int :=
  bif !span_ValidBox_0 a_X_Lo a_X_Hi a_Y_Lo a_Y_Hi || !span_ValidBox_0 b_X_Lo b_X_Hi b_Y_Lo b_Y_Hi then (0 : Int)
else bif imax (span_Join_2 a_X_Lo a_X_Hi b_X_Lo b_X_Hi) (span_Join_2 a_Y_Lo a_Y_Hi b_Y_Lo b_Y_Hi) != (0 : Int) then (0 : Int) else span_Join_1 a_X_Lo a_X_Hi b_X_Lo b_X_Hi
noncomputable def span_JoinBox_2 (a_X_Lo a_X_Hi a_Y_Lo a_Y_Hi b_X_Lo b_X_Hi b_Y_Lo b_Y_Hi : Int) : Int :=
  bif !span_ValidBox_0 a_X_Lo a_X_Hi a_Y_Lo a_Y_Hi || !span_ValidBox_0 b_X_Lo b_X_Hi b_Y_Lo b_Y_Hi then (0 : Int)
else bif imax (span_Join_2 a_X_Lo a_X_Hi b_X_Lo b_X_Hi) (span_Join_2 a_Y_Lo a_Y_Hi b_Y_Lo b_Y_Hi) != (0 : Int) then (0 : Int) else span_Join_0 a_Y_Lo a_Y_Hi b_Y_Lo b_Y_Hi
noncomputable def span_JoinBox_3 (a_X_Lo a_X_Hi a_Y_Lo a_Y_Hi b_X_Lo b_X_Hi b_Y_Lo b_Y_Hi : Int) : Int :=
  bif !span_ValidBox_0 a_X_Lo a_X_Hi a_Y_Lo a_Y_Hi || !span_ValidBox_0 b_X_Lo b_X_Hi b_Y_Lo b_Y_Hi then (0 : Int)
else bif imax (span_Join_2 a_X_Lo a_X_Hi b_X_Lo b_X_Hi) (span_Join_2 a_Y_Lo a_Y_Hi b_Y_Lo b_Y_Hi) != (0 : Int) then (0 : Int) else span_Join_1 a_Y_Lo a_Y_Hi b_Y_Lo b_Y_Hi
noncomputable def span_JoinBox_4 (a_X_Lo a_X_Hi a_Y_Lo a_Y_Hi b_X_Lo b_X_Hi b_Y_Lo b_Y_Hi : Int) : Int :=
  bif !span_ValidBox_0 a_X_Lo a_X_Hi a_Y_Lo a_Y_Hi || !span_ValidBox_0 b_X_Lo b_X_Hi b_Y_Lo b_Y_Hi then (1 : Int)
else
  bif imax (span_Join_2 a_X_Lo a_X_Hi b_X_Lo b_X_Hi) (span_Join_2 a_Y_Lo a_Y_Hi b_Y_Lo b_Y_Hi) != (0 : Int) then
    imax (span_Join_2 a_X_Lo a_X_Hi b_X_Lo b_X_Hi) (span_Join_2 a_Y_Lo a_Y_Hi b_Y_Lo b_Y_Hi)
  else (0 : Int)
noncomputable def ref02_coords_0 (s_Lo s_Hi : Int) : Bool :=
  decide (s_Lo ≥ (-1000000 : Int)) && decide (s_Lo ≤ s_Hi) && decide (s_Hi ≤ (1000000 : Int))
noncomputable def ref02_ValidBox_0 (b_X_Lo b_X_Hi b_Y_Lo b_Y_Hi : Int) : Bool :=
  ref02_coords_0 b_X_Lo b_X_Hi && ref02_coords_0 b_Y_Lo b_Y_Hi
noncomputable def ref02_Valid_0 (s_Lo s_Hi : Int) : Bool :=
  decide (s_Lo ≥ (-1000000000000 : Int)) && decide (s_Lo ≤ s_Hi) && decide (s_Hi ≤ (1000000000000 : Int))
noncomputable def ref02_Both_0 (s_Lo s_Hi t_Lo t_Hi : Int) : Bool :=
  ref02_Valid_0 s_Lo s_Hi && ref02_Valid_0 t_Lo t_Hi
noncomputable def ref02_Within_0 (s_Lo s_Hi t_Lo t_Hi : Int) : Bool :=
  bif !ref02_Both_0 s_Lo s_Hi t_Lo t_Hi then false else decide (t_Lo ≤ s_Lo) && decide (s_Hi ≤ t_Hi)
noncomputable def ref02_Within_1 (s_Lo s_Hi t_Lo t_Hi : Int) : Int :=
  bif !ref02_Both_0 s_Lo s_Hi t_Lo t_Hi then (1 : Int) else (0 : Int)
noncomputable def ref02_BothBoxes_0 (a_X_Lo a_X_Hi a_Y_Lo a_Y_Hi b_X_Lo b_X_Hi b_Y_Lo b_Y_Hi : Int) : Bool :=
  ref02_ValidBox_0 a_X_Lo a_X_Hi a_Y_Lo a_Y_Hi && ref02_ValidBox_0 b_X_Lo b_X_Hi b_Y_Lo b_Y_Hi
noncomputable def ref02_WithinBox_0 (a_X_Lo a_X_Hi a_Y_Lo a_Y_Hi b_X_Lo b_X_Hi b_Y_Lo b_Y_Hi : Int) : Bool :=
  bif !ref02_BothBoxes_0 a_X_Lo a_X_Hi a_Y_Lo a_Y_Hi b_X_Lo b_X_Hi b_Y_Lo b_Y_Hi then false else ref02_Within_0 a_X_Lo a_X_Hi b_X_Lo b_X_Hi && ref02_Within_0 a_Y_Lo a_Y_Hi b_Y_Lo b_Y_Hi
noncomputable def ref02_WithinBox_1 (a_X_Lo a_X_Hi a_Y_Lo a_Y_Hi b_X_Lo b_X_Hi b_Y_Lo b_Y_Hi : Int) : Int :=
  bif !ref02_BothBoxes_0 a_X_Lo a_X_Hi a_Y_Lo a_Y_Hi b_X_Lo b_X_Hi b_Y_Lo b_Y_Hi then (1 : Int) else (0 : Int)
noncomputable def law23_of_0 (lo hi : Int) : Int :=
  lo
noncomputable def law23_of_1 (lo hi : Int) : Int :=
  hi
noncomputable def law23_box_0 (a b c d : Int) : Int :=
  law23_of_0 a b
noncomputable def law23_box_1 (a b c d : Int) : Int :=
  law23_of_1 a b
noncomputable def law23_box_2 (a b c d : Int) : Int :=
  law23_of_0 c d
noncomputable def law23_box_3 (a b c d : Int) : Int :=
  law23_of_1 c d
noncomputable def ref23_Flows_l0_init (a b : List (List Int)) : List U :=
  [.b (false), .i ((0 : Int))]
noncomputable def ref23_Flows_l0_step (a b : List (List Int)) (y0 : List U) : Option (Nat × List U) :=
  (bif decide (gi y0 1 < (↑a.length : Int)) then guardP (inR (gi y0 1) a) (guardP (inR (gi y0 1) a) (guardP (inR (gi y0 1) b) (guardP (inR (gi y0 1) b) ((bif !((a.getD (gi y0 1).toNat []).getD 0 (0 : Int) == (b.getD (gi y0 1).toNat []).getD 0 (0 : Int) &&
    ((a.getD (gi y0 1).toNat []).getD 1 (0 : Int) == (b.getD (gi y0 1).toNat []).getD 1 (0 : Int) &&
      ((a.getD (gi y0 1).toNat []).getD 2 (0 : Int) == (b.getD (gi y0 1).toNat []).getD 2 (0 : Int) &&
          ((a.getD (gi y0 1).toNat []).getD 3 (0 : Int) == (b.getD (gi y0 1).toNat []).getD 3 (0 : Int) && true) &&
        ((a.getD (gi y0 1).toNat []).getD 4 (0 : Int) == (b.getD (gi y0 1).toNat []).getD 4 (0 : Int) &&
            ((a.getD (gi y0 1).toNat []).getD 5 (0 : Int) == (b.getD (gi y0 1).toNat []).getD 5 (0 : Int) && true) &&
          true)))) then some (1, []) else some (0, [.b (gb y0 0), .i (IntKind.i64.wrap (gi y0 1 + (1 : Int)))])))))) else some (3, [.b (gb y0 0), .i (gi y0 1)]))
noncomputable def ref23_Flows_l0 (a b : List (List Int)) : Nat × List U := loopGet (ref23_Flows_l0_step a b) (ref23_Flows_l0_init a b)
noncomputable def ref23_Flows_0 (a b : List (List Int)) : Bool :=
  bif (↑a.length : Int) != (↑b.length : Int) then false else bif (ref23_Flows_l0 a b).fst.beq 1 then false else true
def ref23_Flows_pre (a b : List (List Int)) : Prop :=
  ((((↑a.length : Int) != (↑b.length : Int)) = false) → ((loopOk (ref23_Flows_l0_step a b) (ref23_Flows_l0_init a b))))
noncomputable def ref23_Same_l0_init (a b : List (List Int)) : List U :=
  [.b (false), .i ((0 : Int))]
noncomputable def ref23_Same_l0_step (a b : List (List Int)) (y0 : List U) : Option (Nat × List U) :=
  (bif decide (gi y0 1 < (↑a.length : Int)) then guardP (inR (gi y0 1) a) (guardP (inR (gi y0 1) a) (guardP (inR (gi y0 1) b) (guardP (inR (gi y0 1) b) ((bif !((a.getD (gi y0 1).toNat []).getD 0 (0 : Int) == (b.getD (gi y0 1).toNat []).getD 0 (0 : Int) &&
      ((a.getD (gi y0 1).toNat []).getD 1 (0 : Int) == (b.getD (gi y0 1).toNat []).getD 1 (0 : Int) && true) &&
    ((a.getD (gi y0 1).toNat []).getD 2 (0 : Int) == (b.getD (gi y0 1).toNat []).getD 2 (0 : Int) &&
        ((a.getD (gi y0 1).toNat []).getD 3 (0 : Int) == (b.getD (gi y0 1).toNat []).getD 3 (0 : Int) && true) &&
      true)) then some (1, []) else some (0, [.b (gb y0 0), .i (IntKind.i64.wrap (gi y0 1 + (1 : Int)))])))))) else some (3, [.b (gb y0 0), .i (gi y0 1)]))
noncomputable def ref23_Same_l0 (a b : List (List Int)) : Nat × List U := loopGet (ref23_Same_l0_step a b) (ref23_Same_l0_init a b)
noncomputable def ref23_Same_0 (a b : List (List Int)) : Bool :=
  bif (↑a.length : Int) != (↑b.length : Int) then false else bif (ref23_Same_l0 a b).fst.beq 1 then false else true
def ref23_Same_pre (a b : List (List Int)) : Prop :=
  ((((↑a.length : Int) != (↑b.length : Int)) = false) → ((loopOk (ref23_Same_l0_step a b) (ref23_Same_l0_init a b))))
noncomputable def ref23_meets_0 (s_Lo s_Hi t_Lo t_Hi : Int) : Bool :=
  decide (s_Lo ≤ t_Hi) && decide (t_Lo ≤ s_Hi)
noncomputable def ref23_Joins_0 (a_X_Lo a_X_Hi a_Y_Lo a_Y_Hi b_X_Lo b_X_Hi b_Y_Lo b_Y_Hi : Int) : Bool :=
  ref02_WithinBox_0 a_X_Lo a_X_Hi a_Y_Lo a_Y_Hi b_X_Lo b_X_Hi b_Y_Lo b_Y_Hi || ref02_WithinBox_0 b_X_Lo b_X_Hi b_Y_Lo b_Y_Hi a_X_Lo a_X_Hi a_Y_Lo a_Y_Hi ||
    a_X_Lo == b_X_Lo && (a_X_Hi == b_X_Hi && true) && ref23_meets_0 a_Y_Lo a_Y_Hi b_Y_Lo b_Y_Hi ||
  a_Y_Lo == b_Y_Lo && (a_Y_Hi == b_Y_Hi && true) && ref23_meets_0 a_X_Lo a_X_Hi b_X_Lo b_X_Hi
noncomputable def drift_Valid_l0_init (list : List (List Int)) : List U :=
  [.i ((0 : Int)), .i ((0 : Int))]
noncomputable def drift_Valid_l0_step (list : List (List Int)) (y0 : List U) : Option (Nat × List U) :=
  (bif decide (gi y0 1 < (↑list.length : Int)) then guardP (inR (gi y0 1) list) (guardP (inR (gi y0 1) list) ((bif !span_ValidBox_0 ((list.getD (gi y0 1).toNat []).getD 0 (0 : Int)) ((list.getD (gi y0 1).toNat []).getD 1 (0 : Int))
    ((list.getD (gi y0 1).toNat []).getD 2 (0 : Int)) ((list.getD (gi y0 1).toNat []).getD 3 (0 : Int)) then some (1, [.i (gi y0 1)]) else some (0, [.i (gi y0 0), .i (IntKind.i64.wrap (gi y0 1 + (1 : Int)))])))) else some (3, [.i (gi y0 0), .i (gi y0 1)]))
noncomputable def drift_Valid_l0 (list : List (List Int)) : Nat × List U := loopGet (drift_Valid_l0_step list) (drift_Valid_l0_init list)
noncomputable def drift_Valid_0 (list : List (List Int)) : Bool :=
  decide ((↑list.length : Int) > (0 : Int)) && decide ((↑list.length : Int) ≤ (16 : Int)) &&
  !decide ((bif (drift_Valid_l0 list).fst.beq 1 then gi (drift_Valid_l0 list).snd 0 else (-1 : Int)) ≥ (0 : Int))
def drift_Valid_pre (list : List (List Int)) : Prop :=
  (((decide ((↑list.length : Int) > (0 : Int)) && decide ((↑list.length : Int) ≤ (16 : Int))) = true) → ((loopOk (drift_Valid_l0_step list) (drift_Valid_l0_init list))))
noncomputable def drift_Currents_l0_init (list : List (List Int)) : List U :=
  [.b (false), .i ((0 : Int)), .i ((0 : Int))]
noncomputable def drift_Currents_l0_step (list : List (List Int)) (y0 : List U) : Option (Nat × List U) :=
  (bif decide (gi y0 2 < (↑list.length : Int)) then guardP (inR (gi y0 2) list) (guardP (inR (gi y0 2) list) ((bif span_Within_1 ((list.getD (gi y0 2).toNat []).getD 2 (0 : Int)) ((list.getD (gi y0 2).toNat []).getD 3 (0 : Int)) (-1000 : Int) (1000 : Int) != (0 : Int) ||
            span_Within_1 ((list.getD (gi y0 2).toNat []).getD 4 (0 : Int)) ((list.getD (gi y0 2).toNat []).getD 5 (0 : Int)) (-1000 : Int) (1000 : Int) != (0 : Int) ||
          !span_Within_0 ((list.getD (gi y0 2).toNat []).getD 2 (0 : Int)) ((list.getD (gi y0 2).toNat []).getD 3 (0 : Int)) (-1000 : Int) (1000 : Int) ||
        !span_Within_0 ((list.getD (gi y0 2).toNat []).getD 4 (0 : Int)) ((list.getD (gi y0 2).toNat []).getD 5 (0 : Int)) (-1000 : Int) (1000 : Int) ||
      decide ((list.getD (gi y0 2).toNat []).getD 0 (0 : Int) < gi y0 1) ||
    decide ((list.getD (gi y0 2).toNat []).getD 1 (0 : Int) ≤ (list.getD (gi y0 2).toNat []).getD 0 (0 : Int)) ||
  decide ((list.getD (gi y0 2).toNat []).getD 1 (0 : Int) > (10000000 : Int)) then some (1, []) else some (0, [.b (gb y0 0), .i ((list.getD (gi y0 2).toNat []).getD 1 (0 : Int)), .i (IntKind.i64.wrap (gi y0 2 + (1 : Int)))])))) else some (3, [.b (gb y0 0), .i (gi y0 1), .i (gi y0 2)]))
noncomputable def drift_Currents_l0 (list : List (List Int)) : Nat × List U := loopGet (drift_Currents_l0_step list) (drift_Currents_l0_init list)
noncomputable def drift_Currents_0 (list : List (List Int)) : Bool :=
  bif (drift_Currents_l0 list).fst.beq 1 then false else decide ((↑list.length : Int) ≤ (60 : Int))
def drift_Currents_pre (list : List (List Int)) : Prop :=
  ((loopOk (drift_Currents_l0_step list) (drift_Currents_l0_init list)))
noncomputable def drift_Sum_l0_init (from_ until_ : Int) (forecast : List (List Int)) : List U :=
  [.i ((0 : Int)), .i (IntKind.i64.wrap (until_ - from_)), .i ((0 : Int)), .i ((0 : Int)), .i ((0 : Int)), .i ((0 : Int))]
noncomputable def drift_Sum_l0_step (from_ until_ : Int) (forecast : List (List Int)) (y0 : List U) : Option (Nat × List U) :=
  (bif decide (gi y0 0 < (↑forecast.length : Int)) then guardP (inR (gi y0 0) forecast) (guardP (inR (gi y0 0) forecast) ((bif decide
    (IntKind.i64.wrap (imin ((forecast.getD (gi y0 0).toNat []).getD 1 (0 : Int)) until_ - imax ((forecast.getD (gi y0 0).toNat []).getD 0 (0 : Int)) from_) >
      (0 : Int)) ==
  true then some (0, [.i (IntKind.i64.wrap (gi y0 0 + (1 : Int))), .i (IntKind.i64.wrap
  (gi y0 1 -
    IntKind.i64.wrap (imin ((forecast.getD (gi y0 0).toNat []).getD 1 (0 : Int)) until_ - imax ((forecast.getD (gi y0 0).toNat []).getD 0 (0 : Int)) from_))), .i (IntKind.i64.wrap
  (gi y0 2 +
    IntKind.i64.wrap
      (IntKind.i64.wrap (imin ((forecast.getD (gi y0 0).toNat []).getD 1 (0 : Int)) until_ - imax ((forecast.getD (gi y0 0).toNat []).getD 0 (0 : Int)) from_) *
        (forecast.getD (gi y0 0).toNat []).getD 4 (0 : Int)))), .i (IntKind.i64.wrap
  (gi y0 3 +
    IntKind.i64.wrap
      (IntKind.i64.wrap (imin ((forecast.getD (gi y0 0).toNat []).getD 1 (0 : Int)) until_ - imax ((forecast.getD (gi y0 0).toNat []).getD 0 (0 : Int)) from_) *
        (forecast.getD (gi y0 0).toNat []).getD 5 (0 : Int)))), .i (IntKind.i64.wrap
  (gi y0 4 +
    IntKind.i64.wrap
      (IntKind.i64.wrap (imin ((forecast.getD (gi y0 0).toNat []).getD 1 (0 : Int)) until_ - imax ((forecast.getD (gi y0 0).toNat []).getD 0 (0 : Int)) from_) *
        (forecast.getD (gi y0 0).toNat []).getD 2 (0 : Int)))), .i (IntKind.i64.wrap
  (gi y0 5 +
    IntKind.i64.wrap
      (IntKind.i64.wrap (imin ((forecast.getD (gi y0 0).toNat []).getD 1 (0 : Int)) until_ - imax ((forecast.getD (gi y0 0).toNat []).getD 0 (0 : Int)) from_) *
        (forecast.getD (gi y0 0).toNat []).getD 3 (0 : Int))))]) else some (0, [.i (IntKind.i64.wrap (gi y0 0 + (1 : Int))), .i (gi y0 1), .i (gi y0 2), .i (gi y0 3), .i (gi y0 4), .i (gi y0 5)])))) else some (3, [.i (gi y0 0), .i (gi y0 1), .i (gi y0 2), .i (gi y0 3), .i (gi y0 4), .i (gi y0 5)]))
noncomputable def drift_Sum_l0 (from_ until_ : Int) (forecast : List (List Int)) : Nat × List U := loopGet (drift_Sum_l0_step from_ until_ forecast) (drift_Sum_l0_init from_ until_ forecast)
noncomputable def drift_Sum_0 (from_ until_ : Int) (forecast : List (List Int)) : Int :=
  bif !drift_Currents_0 forecast || decide (from_ < (0 : Int)) || decide (until_ < from_) || decide (until_ > (10000000 : Int)) then (0 : Int)
else bif decide (gi (drift_Sum_l0 from_ until_ forecast).snd 1 > (0 : Int)) then (0 : Int) else gi (drift_Sum_l0 from_ until_ forecast).snd 4
noncomputable def drift_Sum_1 (from_ until_ : Int) (forecast : List (List Int)) : Int :=
  bif !drift_Currents_0 forecast || decide (from_ < (0 : Int)) || decide (until_ < from_) || decide (until_ > (10000000 : Int)) then (0 : Int)
else bif decide (gi (drift_Sum_l0 from_ until_ forecast).snd 1 > (0 : Int)) then (0 : Int) else gi (drift_Sum_l0 from_ until_ forecast).snd 5
noncomputable def drift_Sum_2 (from_ until_ : Int) (forecast : List (List Int)) : Int :=
  bif !drift_Currents_0 forecast || decide (from_ < (0 : Int)) || decide (until_ < from_) || decide (until_ > (10000000 : Int)) then (0 : Int)
else bif decide (gi (drift_Sum_l0 from_ until_ forecast).snd 1 > (0 : Int)) then (0 : Int) else gi (drift_Sum_l0 from_ until_ forecast).snd 2
noncomputable def drift_Sum_3 (from_ until_ : Int) (forecast : List (List Int)) : Int :=
  bif !drift_Currents_0 forecast || decide (from_ < (0 : Int)) || decide (until_ < from_) || decide (until_ > (10000000 : Int)) then (0 : Int)
else bif decide (gi (drift_Sum_l0 from_ until_ forecast).snd 1 > (0 : Int)) then (0 : Int) else gi (drift_Sum_l0 from_ until_ forecast).snd 3
noncomputable def drift_Sum_4 (from_ until_ : Int) (forecast : List (List Int)) : Int :=
  bif !drift_Currents_0 forecast || decide (from_ < (0 : Int)) || decide (until_ < from_) || decide (until_ > (10000000 : Int)) then (1 : Int)
else bif decide (gi (drift_Sum_l0 from_ until_ forecast).snd 1 > (0 : Int)) then (4 : Int) else (0 : Int)
def drift_Sum_pre (from_ until_ : Int) (forecast : List (List Int)) : Prop :=
  ((drift_Currents_pre forecast) ∧ (((!drift_Currents_0 forecast || decide (from_ < (0 : Int)) || decide (until_ < from_) || decide (until_ > (10000000 : Int))) = false) → ((loopOk (drift_Sum_l0_step from_ until_ forecast) (drift_Sum_l0_init from_ until_ forecast)))))
noncomputable def drift_place_0 (p_X p_Y : Int) : Bool :=
  span_ValidBox_0 p_X p_X p_Y p_Y
noncomputable def drift_Allows_0 (from_ until_ p_X p_Y q_X q_Y : Int) (forecast : List (List Int)) : Bool :=
  bif !drift_place_0 p_X p_Y || !drift_place_0 q_X q_Y then false
else
  bif drift_Sum_4 from_ until_ forecast != (0 : Int) then false
  else
    decide (drift_Sum_0 from_ until_ forecast ≤ IntKind.i64.wrap ((100 : Int) * IntKind.i64.wrap (q_X - p_X))) &&
          decide (IntKind.i64.wrap ((100 : Int) * IntKind.i64.wrap (q_X - p_X)) ≤ drift_Sum_1 from_ until_ forecast) &&
        decide (drift_Sum_2 from_ until_ forecast ≤ IntKind.i64.wrap ((100 : Int) * IntKind.i64.wrap (q_Y - p_Y))) &&
      decide (IntKind.i64.wrap ((100 : Int) * IntKind.i64.wrap (q_Y - p_Y)) ≤ drift_Sum_3 from_ until_ forecast)
noncomputable def drift_Allows_1 (from_ until_ p_X p_Y q_X q_Y : Int) (forecast : List (List Int)) : Int :=
  bif !drift_place_0 p_X p_Y || !drift_place_0 q_X q_Y then (1 : Int) else bif drift_Sum_4 from_ until_ forecast != (0 : Int) then drift_Sum_4 from_ until_ forecast else (0 : Int)
def drift_Allows_pre (from_ until_ p_X p_Y q_X q_Y : Int) (forecast : List (List Int)) : Prop :=
  (((!drift_place_0 p_X p_Y || !drift_place_0 q_X q_Y) = false) → (drift_Sum_pre from_ until_ forecast))
noncomputable def drift_Move_l0_init (from_ until_ : Int) (list forecast : List (List Int)) : List U :=
  [.i ((0 : Int)), .i ((0 : Int)), .r ([])]
noncomputable def drift_Move_l0_step (from_ until_ : Int) (list forecast : List (List Int)) (y0 : List U) : Option (Nat × List U) :=
  (bif decide (gi y0 1 < (↑list.length : Int)) then guardP (inR (gi y0 1) list) (guardP (inR (gi y0 1) list) (guardP ((((decide (IntKind.i64.wrap (IntKind.i64.wrap ((100 : Int) * (list.getD (gi y0 1).toNat []).getD 0 (0 : Int)) + drift_Sum_0 from_ until_ forecast) < (0 : Int)) = true) → (((100 : Int) : Int) ≠ (0 : Int))) ∧ ((decide (IntKind.i64.wrap (IntKind.i64.wrap ((100 : Int) * (list.getD (gi y0 1).toNat []).getD 0 (0 : Int)) + drift_Sum_0 from_ until_ forecast) < (0 : Int)) = false) → (((100 : Int) : Int) ≠ (0 : Int)))) ∧ (((decide
    (IntKind.i64.wrap ((0 : Int) - IntKind.i64.wrap (IntKind.i64.wrap ((100 : Int) * (list.getD (gi y0 1).toNat []).getD 1 (0 : Int)) + drift_Sum_1 from_ until_ forecast)) <
      (0 : Int)) =
  true) → (((100 : Int) : Int) ≠ (0 : Int))) ∧ ((decide
    (IntKind.i64.wrap ((0 : Int) - IntKind.i64.wrap (IntKind.i64.wrap ((100 : Int) * (list.getD (gi y0 1).toNat []).getD 1 (0 : Int)) + drift_Sum_1 from_ until_ forecast)) <
      (0 : Int)) =
  false) → (((100 : Int) : Int) ≠ (0 : Int))))) (guardP ((((decide (IntKind.i64.wrap (IntKind.i64.wrap ((100 : Int) * (list.getD (gi y0 1).toNat []).getD 2 (0 : Int)) + drift_Sum_2 from_ until_ forecast) < (0 : Int)) = true) → (((100 : Int) : Int) ≠ (0 : Int))) ∧ ((decide (IntKind.i64.wrap (IntKind.i64.wrap ((100 : Int) * (list.getD (gi y0 1).toNat []).getD 2 (0 : Int)) + drift_Sum_2 from_ until_ forecast) < (0 : Int)) = false) → (((100 : Int) : Int) ≠ (0 : Int)))) ∧ (((decide
    (IntKind.i64.wrap ((0 : Int) - IntKind.i64.wrap (IntKind.i64.wrap ((100 : Int) * (list.getD (gi y0 1).toNat []).getD 3 (0 : Int)) + drift_Sum_3 from_ until_ forecast)) <
      (0 : Int)) =
  true) → (((100 : Int) : Int) ≠ (0 : Int))) ∧ ((decide
    (IntKind.i64.wrap ((0 : Int) - IntKind.i64.wrap (IntKind.i64.wrap ((100 : Int) * (list.getD (gi y0 1).toNat []).getD 3 (0 : Int)) + drift_Sum_3 from_ until_ forecast)) <
      (0 : Int)) =
  false) → (((100 : Int) : Int) ≠ (0 : Int))))) ((bif !span_ValidBox_0
    (bif decide (IntKind.i64.wrap (IntKind.i64.wrap ((100 : Int) * (list.getD (gi y0 1).toNat []).getD 0 (0 : Int)) + drift_Sum_0 from_ until_ forecast) < (0 : Int)) then
      IntKind.i64.wrap
        ((0 : Int) -
          IntKind.i64.wrap
            ((IntKind.i64.wrap
                  ((99 : Int) - IntKind.i64.wrap (IntKind.i64.wrap ((100 : Int) * (list.getD (gi y0 1).toNat []).getD 0 (0 : Int)) + drift_Sum_0 from_ until_ forecast))).tdiv
              (100 : Int)))
    else IntKind.i64.wrap ((IntKind.i64.wrap (IntKind.i64.wrap ((100 : Int) * (list.getD (gi y0 1).toNat []).getD 0 (0 : Int)) + drift_Sum_0 from_ until_ forecast)).tdiv (100 : Int)))
    (IntKind.i64.wrap
      ((0 : Int) -
        bif
            decide
              (IntKind.i64.wrap ((0 : Int) - IntKind.i64.wrap (IntKind.i64.wrap ((100 : Int) * (list.getD (gi y0 1).toNat []).getD 1 (0 : Int)) + drift_Sum_1 from_ until_ forecast)) <
                (0 : Int)) then
          IntKind.i64.wrap
            ((0 : Int) -
              IntKind.i64.wrap
                ((IntKind.i64.wrap
                      ((99 : Int) -
                        IntKind.i64.wrap
                          ((0 : Int) - IntKind.i64.wrap (IntKind.i64.wrap ((100 : Int) * (list.getD (gi y0 1).toNat []).getD 1 (0 : Int)) + drift_Sum_1 from_ until_ forecast)))).tdiv
                  (100 : Int)))
        else
          IntKind.i64.wrap
            ((IntKind.i64.wrap
                  ((0 : Int) - IntKind.i64.wrap (IntKind.i64.wrap ((100 : Int) * (list.getD (gi y0 1).toNat []).getD 1 (0 : Int)) + drift_Sum_1 from_ until_ forecast))).tdiv
              (100 : Int))))
    (bif decide (IntKind.i64.wrap (IntKind.i64.wrap ((100 : Int) * (list.getD (gi y0 1).toNat []).getD 2 (0 : Int)) + drift_Sum_2 from_ until_ forecast) < (0 : Int)) then
      IntKind.i64.wrap
        ((0 : Int) -
          IntKind.i64.wrap
            ((IntKind.i64.wrap
                  ((99 : Int) - IntKind.i64.wrap (IntKind.i64.wrap ((100 : Int) * (list.getD (gi y0 1).toNat []).getD 2 (0 : Int)) + drift_Sum_2 from_ until_ forecast))).tdiv
              (100 : Int)))
    else IntKind.i64.wrap ((IntKind.i64.wrap (IntKind.i64.wrap ((100 : Int) * (list.getD (gi y0 1).toNat []).getD 2 (0 : Int)) + drift_Sum_2 from_ until_ forecast)).tdiv (100 : Int)))
    (IntKind.i64.wrap
      ((0 : Int) -
        bif
            decide
              (IntKind.i64.wrap ((0 : Int) - IntKind.i64.wrap (IntKind.i64.wrap ((100 : Int) * (list.getD (gi y0 1).toNat []).getD 3 (0 : Int)) + drift_Sum_3 from_ until_ forecast)) <
                (0 : Int)) then
          IntKind.i64.wrap
            ((0 : Int) -
              IntKind.i64.wrap
                ((IntKind.i64.wrap
                      ((99 : Int) -
                        IntKind.i64.wrap
                          ((0 : Int) - IntKind.i64.wrap (IntKind.i64.wrap ((100 : Int) * (list.getD (gi y0 1).toNat []).getD 3 (0 : Int)) + drift_Sum_3 from_ until_ forecast)))).tdiv
                  (100 : Int)))
        else
          IntKind.i64.wrap
            ((IntKind.i64.wrap
                  ((0 : Int) - IntKind.i64.wrap (IntKind.i64.wrap ((100 : Int) * (list.getD (gi y0 1).toNat []).getD 3 (0 : Int)) + drift_Sum_3 from_ until_ forecast))).tdiv
              (100 : Int)))) then some (1, []) else guardP (fitsA 32
  ((gr y0 2).length +
    [[bif decide (IntKind.i64.wrap (IntKind.i64.wrap ((100 : Int) * (list.getD (gi y0 1).toNat []).getD 0 (0 : Int)) + drift_Sum_0 from_ until_ forecast) < (0 : Int)) then
            IntKind.i64.wrap
              ((0 : Int) -
                IntKind.i64.wrap
                  ((IntKind.i64.wrap
                        ((99 : Int) - IntKind.i64.wrap (IntKind.i64.wrap ((100 : Int) * (list.getD (gi y0 1).toNat []).getD 0 (0 : Int)) + drift_Sum_0 from_ until_ forecast))).tdiv
                    (100 : Int)))
          else
            IntKind.i64.wrap
              ((IntKind.i64.wrap (IntKind.i64.wrap ((100 : Int) * (list.getD (gi y0 1).toNat []).getD 0 (0 : Int)) + drift_Sum_0 from_ until_ forecast)).tdiv (100 : Int)),
          IntKind.i64.wrap
            ((0 : Int) -
              bif
                  decide
                    (IntKind.i64.wrap
                        ((0 : Int) - IntKind.i64.wrap (IntKind.i64.wrap ((100 : Int) * (list.getD (gi y0 1).toNat []).getD 1 (0 : Int)) + drift_Sum_1 from_ until_ forecast)) <
                      (0 : Int)) then
                IntKind.i64.wrap
                  ((0 : Int) -
                    IntKind.i64.wrap
                      ((IntKind.i64.wrap
                            ((99 : Int) -
                              IntKind.i64.wrap
                                ((0 : Int) -
                                  IntKind.i64.wrap (IntKind.i64.wrap ((100 : Int) * (list.getD (gi y0 1).toNat []).getD 1 (0 : Int)) + drift_Sum_1 from_ until_ forecast)))).tdiv
                        (100 : Int)))
              else
                IntKind.i64.wrap
                  ((IntKind.i64.wrap
                        ((0 : Int) - IntKind.i64.wrap (IntKind.i64.wrap ((100 : Int) * (list.getD (gi y0 1).toNat []).getD 1 (0 : Int)) + drift_Sum_1 from_ until_ forecast))).tdiv
                    (100 : Int))),
          bif decide (IntKind.i64.wrap (IntKind.i64.wrap ((100 : Int) * (list.getD (gi y0 1).toNat []).getD 2 (0 : Int)) + drift_Sum_2 from_ until_ forecast) < (0 : Int)) then
            IntKind.i64.wrap
              ((0 : Int) -
                IntKind.i64.wrap
                  ((IntKind.i64.wrap
                        ((99 : Int) - IntKind.i64.wrap (IntKind.i64.wrap ((100 : Int) * (list.getD (gi y0 1).toNat []).getD 2 (0 : Int)) + drift_Sum_2 from_ until_ forecast))).tdiv
                    (100 : Int)))
          else
            IntKind.i64.wrap
              ((IntKind.i64.wrap (IntKind.i64.wrap ((100 : Int) * (list.getD (gi y0 1).toNat []).getD 2 (0 : Int)) + drift_Sum_2 from_ until_ forecast)).tdiv (100 : Int)),
          IntKind.i64.wrap
            ((0 : Int) -
              bif
                  decide
                    (IntKind.i64.wrap
                        ((0 : Int) - IntKind.i64.wrap (IntKind.i64.wrap ((100 : Int) * (list.getD (gi y0 1).toNat []).getD 3 (0 : Int)) + drift_Sum_3 from_ until_ forecast)) <
                      (0 : Int)) then
                IntKind.i64.wrap
                  ((0 : Int) -
                    IntKind.i64.wrap
                      ((IntKind.i64.wrap
                            ((99 : Int) -
                              IntKind.i64.wrap
                                ((0 : Int) -
                                  IntKind.i64.wrap (IntKind.i64.wrap ((100 : Int) * (list.getD (gi y0 1).toNat []).getD 3 (0 : Int)) + drift_Sum_3 from_ until_ forecast)))).tdiv
                        (100 : Int)))
              else
                IntKind.i64.wrap
                  ((IntKind.i64.wrap
                        ((0 : Int) - IntKind.i64.wrap (IntKind.i64.wrap ((100 : Int) * (list.getD (gi y0 1).toNat []).getD 3 (0 : Int)) + drift_Sum_3 from_ until_ forecast))).tdiv
                    (100 : Int)))]].length)) (some (0, [.i (gi y0 0), .i (IntKind.i64.wrap (gi y0 1 + (1 : Int))), .r (gr y0 2 ++
  [[bif decide (IntKind.i64.wrap (IntKind.i64.wrap ((100 : Int) * (list.getD (gi y0 1).toNat []).getD 0 (0 : Int)) + drift_Sum_0 from_ until_ forecast) < (0 : Int)) then
        IntKind.i64.wrap
          ((0 : Int) -
            IntKind.i64.wrap
              ((IntKind.i64.wrap
                    ((99 : Int) - IntKind.i64.wrap (IntKind.i64.wrap ((100 : Int) * (list.getD (gi y0 1).toNat []).getD 0 (0 : Int)) + drift_Sum_0 from_ until_ forecast))).tdiv
                (100 : Int)))
      else
        IntKind.i64.wrap ((IntKind.i64.wrap (IntKind.i64.wrap ((100 : Int) * (list.getD (gi y0 1).toNat []).getD 0 (0 : Int)) + drift_Sum_0 from_ until_ forecast)).tdiv (100 : Int)),
      IntKind.i64.wrap
        ((0 : Int) -
          bif
              decide
                (IntKind.i64.wrap
                    ((0 : Int) - IntKind.i64.wrap (IntKind.i64.wrap ((100 : Int) * (list.getD (gi y0 1).toNat []).getD 1 (0 : Int)) + drift_Sum_1 from_ until_ forecast)) <
                  (0 : Int)) then
            IntKind.i64.wrap
              ((0 : Int) -
                IntKind.i64.wrap
                  ((IntKind.i64.wrap
                        ((99 : Int) -
                          IntKind.i64.wrap
                            ((0 : Int) - IntKind.i64.wrap (IntKind.i64.wrap ((100 : Int) * (list.getD (gi y0 1).toNat []).getD 1 (0 : Int)) + drift_Sum_1 from_ until_ forecast)))).tdiv
                    (100 : Int)))
          else
            IntKind.i64.wrap
              ((IntKind.i64.wrap
                    ((0 : Int) - IntKind.i64.wrap (IntKind.i64.wrap ((100 : Int) * (list.getD (gi y0 1).toNat []).getD 1 (0 : Int)) + drift_Sum_1 from_ until_ forecast))).tdiv
                (100 : Int))),
      bif decide (IntKind.i64.wrap (IntKind.i64.wrap ((100 : Int) * (list.getD (gi y0 1).toNat []).getD 2 (0 : Int)) + drift_Sum_2 from_ until_ forecast) < (0 : Int)) then
        IntKind.i64.wrap
          ((0 : Int) -
            IntKind.i64.wrap
              ((IntKind.i64.wrap
                    ((99 : Int) - IntKind.i64.wrap (IntKind.i64.wrap ((100 : Int) * (list.getD (gi y0 1).toNat []).getD 2 (0 : Int)) + drift_Sum_2 from_ until_ forecast))).tdiv
                (100 : Int)))
      else
        IntKind.i64.wrap ((IntKind.i64.wrap (IntKind.i64.wrap ((100 : Int) * (list.getD (gi y0 1).toNat []).getD 2 (0 : Int)) + drift_Sum_2 from_ until_ forecast)).tdiv (100 : Int)),
      IntKind.i64.wrap
        ((0 : Int) -
          bif
              decide
                (IntKind.i64.wrap
                    ((0 : Int) - IntKind.i64.wrap (IntKind.i64.wrap ((100 : Int) * (list.getD (gi y0 1).toNat []).getD 3 (0 : Int)) + drift_Sum_3 from_ until_ forecast)) <
                  (0 : Int)) then
            IntKind.i64.wrap
              ((0 : Int) -
                IntKind.i64.wrap
                  ((IntKind.i64.wrap
                        ((99 : Int) -
                          IntKind.i64.wrap
                            ((0 : Int) - IntKind.i64.wrap (IntKind.i64.wrap ((100 : Int) * (list.getD (gi y0 1).toNat []).getD 3 (0 : Int)) + drift_Sum_3 from_ until_ forecast)))).tdiv
                    (100 : Int)))
          else
            IntKind.i64.wrap
              ((IntKind.i64.wrap
                    ((0 : Int) - IntKind.i64.wrap (IntKind.i64.wrap ((100 : Int) * (list.getD (gi y0 1).toNat []).getD 3 (0 : Int)) + drift_Sum_3 from_ until_ forecast))).tdiv
                (100 : Int)))]])]))))))) else some (3, [.i (gi y0 0), .i (gi y0 1), .r (gr y0 2)]))
noncomputable def drift_Move_l0 (from_ until_ : Int) (list forecast : List (List Int)) : Nat × List U := loopGet (drift_Move_l0_step from_ until_ list forecast) (drift_Move_l0_init from_ until_ list forecast)
noncomputable def drift_Move_0 (from_ until_ : Int) (list forecast : List (List Int)) : List (List Int) :=
  bif !drift_Valid_0 list then [] else bif drift_Sum_4 from_ until_ forecast != (0 : Int) then [] else bif (drift_Move_l0 from_ until_ list forecast).fst.beq 1 then [] else gr (drift_Move_l0 from_ until_ list forecast).snd 2
noncomputable def drift_Move_1 (from_ until_ : Int) (list forecast : List (List Int)) : Int :=
  bif !drift_Valid_0 list then (1 : Int)
else bif drift_Sum_4 from_ until_ forecast != (0 : Int) then drift_Sum_4 from_ until_ forecast else bif (drift_Move_l0 from_ until_ list forecast).fst.beq 1 then (3 : Int) else (0 : Int)
def drift_Move_pre (from_ until_ : Int) (list forecast : List (List Int)) : Prop :=
  ((drift_Valid_pre list) ∧ (((!drift_Valid_0 list) = false) → ((drift_Sum_pre from_ until_ forecast) ∧ (((drift_Sum_4 from_ until_ forecast != (0 : Int)) = false) → ((loopOk (drift_Move_l0_step from_ until_ list forecast) (drift_Move_l0_init from_ until_ list forecast)))))))
noncomputable def drift_In_l0_init (p_X p_Y : Int) (list : List (List Int)) : List U :=
  [.i ((0 : Int)), .i ((0 : Int))]
noncomputable def drift_In_l0_step (p_X p_Y : Int) (list : List (List Int)) (y0 : List U) : Option (Nat × List U) :=
  (bif decide (gi y0 1 < (↑list.length : Int)) then guardP (inR (gi y0 1) list) (guardP (inR (gi y0 1) list) ((bif span_InBox_0 p_X p_Y ((list.getD (gi y0 1).toNat []).getD 0 (0 : Int)) ((list.getD (gi y0 1).toNat []).getD 1 (0 : Int))
  ((list.getD (gi y0 1).toNat []).getD 2 (0 : Int)) ((list.getD (gi y0 1).toNat []).getD 3 (0 : Int)) then some (1, [.i (gi y0 1)]) else some (0, [.i (gi y0 0), .i (IntKind.i64.wrap (gi y0 1 + (1 : Int)))])))) else some (3, [.i (gi y0 0), .i (gi y0 1)]))
noncomputable def drift_In_l0 (p_X p_Y : Int) (list : List (List Int)) : Nat × List U := loopGet (drift_In_l0_step p_X p_Y list) (drift_In_l0_init p_X p_Y list)
noncomputable def drift_In_0 (p_X p_Y : Int) (list : List (List Int)) : Bool :=
  bif !drift_Valid_0 list || !drift_place_0 p_X p_Y then false else decide ((bif (drift_In_l0 p_X p_Y list).fst.beq 1 then gi (drift_In_l0 p_X p_Y list).snd 0 else (-1 : Int)) ≥ (0 : Int))
noncomputable def drift_In_1 (p_X p_Y : Int) (list : List (List Int)) : Int :=
  bif !drift_Valid_0 list || !drift_place_0 p_X p_Y then (1 : Int) else (0 : Int)
def drift_In_pre (p_X p_Y : Int) (list : List (List Int)) : Prop :=
  ((drift_Valid_pre list) ∧ (((!drift_Valid_0 list || !drift_place_0 p_X p_Y) = false) → ((loopOk (drift_In_l0_step p_X p_Y list) (drift_In_l0_init p_X p_Y list)))))
noncomputable def drift_Cut_l0_init (b_X_Lo b_X_Hi b_Y_Lo b_Y_Hi : Int) (list : List (List Int)) : List U :=
  [.i ((0 : Int)), .r ([])]
noncomputable def drift_Cut_l0_step (b_X_Lo b_X_Hi b_Y_Lo b_Y_Hi : Int) (list : List (List Int)) (y0 : List U) : Option (Nat × List U) :=
  (bif decide (gi y0 0 < (↑list.length : Int)) then guardP (inR (gi y0 0) list) (guardP (inR (gi y0 0) list) ((bif span_MeetBox_4 ((list.getD (gi y0 0).toNat []).getD 0 (0 : Int)) ((list.getD (gi y0 0).toNat []).getD 1 (0 : Int))
    ((list.getD (gi y0 0).toNat []).getD 2 (0 : Int)) ((list.getD (gi y0 0).toNat []).getD 3 (0 : Int)) b_X_Lo b_X_Hi b_Y_Lo b_Y_Hi ==
  (0 : Int) then guardP (fitsA 32
  ((gr y0 1).length +
    [[span_MeetBox_0 ((list.getD (gi y0 0).toNat []).getD 0 (0 : Int)) ((list.getD (gi y0 0).toNat []).getD 1 (0 : Int))
            ((list.getD (gi y0 0).toNat []).getD 2 (0 : Int)) ((list.getD (gi y0 0).toNat []).getD 3 (0 : Int)) b_X_Lo b_X_Hi b_Y_Lo b_Y_Hi,
          span_MeetBox_1 ((list.getD (gi y0 0).toNat []).getD 0 (0 : Int)) ((list.getD (gi y0 0).toNat []).getD 1 (0 : Int))
            ((list.getD (gi y0 0).toNat []).getD 2 (0 : Int)) ((list.getD (gi y0 0).toNat []).getD 3 (0 : Int)) b_X_Lo b_X_Hi b_Y_Lo b_Y_Hi,
          span_MeetBox_2 ((list.getD (gi y0 0).toNat []).getD 0 (0 : Int)) ((list.getD (gi y0 0).toNat []).getD 1 (0 : Int))
            ((list.getD (gi y0 0).toNat []).getD 2 (0 : Int)) ((list.getD (gi y0 0).toNat []).getD 3 (0 : Int)) b_X_Lo b_X_Hi b_Y_Lo b_Y_Hi,
          span_MeetBox_3 ((list.getD (gi y0 0).toNat []).getD 0 (0 : Int)) ((list.getD (gi y0 0).toNat []).getD 1 (0 : Int))
            ((list.getD (gi y0 0).toNat []).getD 2 (0 : Int)) ((list.getD (gi y0 0).toNat []).getD 3 (0 : Int)) b_X_Lo b_X_Hi b_Y_Lo b_Y_Hi]].length)) (some (0, [.i (IntKind.i64.wrap (gi y0 0 + (1 : Int))), .r (gr y0 1 ++
  [[span_MeetBox_0 ((list.getD (gi y0 0).toNat []).getD 0 (0 : Int)) ((list.getD (gi y0 0).toNat []).getD 1 (0 : Int))
        ((list.getD (gi y0 0).toNat []).getD 2 (0 : Int)) ((list.getD (gi y0 0).toNat []).getD 3 (0 : Int)) b_X_Lo b_X_Hi b_Y_Lo b_Y_Hi,
      span_MeetBox_1 ((list.getD (gi y0 0).toNat []).getD 0 (0 : Int)) ((list.getD (gi y0 0).toNat []).getD 1 (0 : Int))
        ((list.getD (gi y0 0).toNat []).getD 2 (0 : Int)) ((list.getD (gi y0 0).toNat []).getD 3 (0 : Int)) b_X_Lo b_X_Hi b_Y_Lo b_Y_Hi,
      span_MeetBox_2 ((list.getD (gi y0 0).toNat []).getD 0 (0 : Int)) ((list.getD (gi y0 0).toNat []).getD 1 (0 : Int))
        ((list.getD (gi y0 0).toNat []).getD 2 (0 : Int)) ((list.getD (gi y0 0).toNat []).getD 3 (0 : Int)) b_X_Lo b_X_Hi b_Y_Lo b_Y_Hi,
      span_MeetBox_3 ((list.getD (gi y0 0).toNat []).getD 0 (0 : Int)) ((list.getD (gi y0 0).toNat []).getD 1 (0 : Int))
        ((list.getD (gi y0 0).toNat []).getD 2 (0 : Int)) ((list.getD (gi y0 0).toNat []).getD 3 (0 : Int)) b_X_Lo b_X_Hi b_Y_Lo b_Y_Hi]])])) else some (0, [.i (IntKind.i64.wrap (gi y0 0 + (1 : Int))), .r (gr y0 1)])))) else some (3, [.i (gi y0 0), .r (gr y0 1)]))
noncomputable def drift_Cut_l0 (b_X_Lo b_X_Hi b_Y_Lo b_Y_Hi : Int) (list : List (List Int)) : Nat × List U := loopGet (drift_Cut_l0_step b_X_Lo b_X_Hi b_Y_Lo b_Y_Hi list) (drift_Cut_l0_init b_X_Lo b_X_Hi b_Y_Lo b_Y_Hi list)
noncomputable def drift_Cut_0 (b_X_Lo b_X_Hi b_Y_Lo b_Y_Hi : Int) (list : List (List Int)) : List (List Int) :=
  bif !drift_Valid_0 list || !span_ValidBox_0 b_X_Lo b_X_Hi b_Y_Lo b_Y_Hi then []
else bif (↑(gr (drift_Cut_l0 b_X_Lo b_X_Hi b_Y_Lo b_Y_Hi list).snd 1).length : Int) == (0 : Int) then [] else gr (drift_Cut_l0 b_X_Lo b_X_Hi b_Y_Lo b_Y_Hi list).snd 1
noncomputable def drift_Cut_1 (b_X_Lo b_X_Hi b_Y_Lo b_Y_Hi : Int) (list : List (List Int)) : Int :=
  bif !drift_Valid_0 list || !span_ValidBox_0 b_X_Lo b_X_Hi b_Y_Lo b_Y_Hi then (1 : Int) else bif (↑(gr (drift_Cut_l0 b_X_Lo b_X_Hi b_Y_Lo b_Y_Hi list).snd 1).length : Int) == (0 : Int) then (4 : Int) else (0 : Int)
def drift_Cut_pre (b_X_Lo b_X_Hi b_Y_Lo b_Y_Hi : Int) (list : List (List Int)) : Prop :=
  ((drift_Valid_pre list) ∧ (((!drift_Valid_0 list || !span_ValidBox_0 b_X_Lo b_X_Hi b_Y_Lo b_Y_Hi) = false) → ((loopOk (drift_Cut_l0_step b_X_Lo b_X_Hi b_Y_Lo b_Y_Hi list) (drift_Cut_l0_init b_X_Lo b_X_Hi b_Y_Lo b_Y_Hi list)))))
noncomputable def law23_within_l0_init (a b : List (List Int)) : List U :=
  [.b (false), .i ((0 : Int))]
noncomputable def law23_within_l0_step (a b : List (List Int)) (y0 : List U) : Option (Nat × List U) :=
  (bif decide (gi y0 1 < (↑a.length : Int)) then guardP (inR (gi y0 1) a) (guardP (inR (gi y0 1) a) (guardP (inR (gi y0 1) a) (guardP (inR (gi y0 1) a) (guardP (inR (gi y0 1) b) (guardP (inR (gi y0 1) b) (guardP (inR (gi y0 1) b) (guardP (inR (gi y0 1) b) (guardP ((decide ((a.getD (gi y0 1).toNat []).getD 0 (0 : Int) < (b.getD (gi y0 1).toNat []).getD 0 (0 : Int)) = false) → (inR (gi y0 1) a)) (guardP ((decide ((a.getD (gi y0 1).toNat []).getD 0 (0 : Int) < (b.getD (gi y0 1).toNat []).getD 0 (0 : Int)) = false) → (inR (gi y0 1) a)) (guardP ((decide ((a.getD (gi y0 1).toNat []).getD 0 (0 : Int) < (b.getD (gi y0 1).toNat []).getD 0 (0 : Int)) = false) → (inR (gi y0 1) a)) (guardP ((decide ((a.getD (gi y0 1).toNat []).getD 0 (0 : Int) < (b.getD (gi y0 1).toNat []).getD 0 (0 : Int)) = false) → (inR (gi y0 1) a)) (guardP ((decide ((a.getD (gi y0 1).toNat []).getD 0 (0 : Int) < (b.getD (gi y0 1).toNat []).getD 0 (0 : Int)) = false) → (inR (gi y0 1) b)) (guardP ((decide ((a.getD (gi y0 1).toNat []).getD 0 (0 : Int) < (b.getD (gi y0 1).toNat []).getD 0 (0 : Int)) = false) → (inR (gi y0 1) b)) (guardP ((decide ((a.getD (gi y0 1).toNat []).getD 0 (0 : Int) < (b.getD (gi y0 1).toNat []).getD 0 (0 : Int)) = false) → (inR (gi y0 1) b)) (guardP ((decide ((a.getD (gi y0 1).toNat []).getD 0 (0 : Int) < (b.getD (gi y0 1).toNat []).getD 0 (0 : Int)) = false) → (inR (gi y0 1) b)) (guardP (((decide ((a.getD (gi y0 1).toNat []).getD 0 (0 : Int) < (b.getD (gi y0 1).toNat []).getD 0 (0 : Int)) ||
    decide ((a.getD (gi y0 1).toNat []).getD 1 (0 : Int) > (b.getD (gi y0 1).toNat []).getD 1 (0 : Int))) =
  false) → (inR (gi y0 1) a)) (guardP (((decide ((a.getD (gi y0 1).toNat []).getD 0 (0 : Int) < (b.getD (gi y0 1).toNat []).getD 0 (0 : Int)) ||
    decide ((a.getD (gi y0 1).toNat []).getD 1 (0 : Int) > (b.getD (gi y0 1).toNat []).getD 1 (0 : Int))) =
  false) → (inR (gi y0 1) a)) (guardP (((decide ((a.getD (gi y0 1).toNat []).getD 0 (0 : Int) < (b.getD (gi y0 1).toNat []).getD 0 (0 : Int)) ||
    decide ((a.getD (gi y0 1).toNat []).getD 1 (0 : Int) > (b.getD (gi y0 1).toNat []).getD 1 (0 : Int))) =
  false) → (inR (gi y0 1) a)) (guardP (((decide ((a.getD (gi y0 1).toNat []).getD 0 (0 : Int) < (b.getD (gi y0 1).toNat []).getD 0 (0 : Int)) ||
    decide ((a.getD (gi y0 1).toNat []).getD 1 (0 : Int) > (b.getD (gi y0 1).toNat []).getD 1 (0 : Int))) =
  false) → (inR (gi y0 1) a)) (guardP (((decide ((a.getD (gi y0 1).toNat []).getD 0 (0 : Int) < (b.getD (gi y0 1).toNat []).getD 0 (0 : Int)) ||
    decide ((a.getD (gi y0 1).toNat []).getD 1 (0 : Int) > (b.getD (gi y0 1).toNat []).getD 1 (0 : Int))) =
  false) → (inR (gi y0 1) b)) (guardP (((decide ((a.getD (gi y0 1).toNat []).getD 0 (0 : Int) < (b.getD (gi y0 1).toNat []).getD 0 (0 : Int)) ||
    decide ((a.getD (gi y0 1).toNat []).getD 1 (0 : Int) > (b.getD (gi y0 1).toNat []).getD 1 (0 : Int))) =
  false) → (inR (gi y0 1) b)) (guardP (((decide ((a.getD (gi y0 1).toNat []).getD 0 (0 : Int) < (b.getD (gi y0 1).toNat []).getD 0 (0 : Int)) ||
    decide ((a.getD (gi y0 1).toNat []).getD 1 (0 : Int) > (b.getD (gi y0 1).toNat []).getD 1 (0 : Int))) =
  false) → (inR (gi y0 1) b)) (guardP (((decide ((a.getD (gi y0 1).toNat []).getD 0 (0 : Int) < (b.getD (gi y0 1).toNat []).getD 0 (0 : Int)) ||
    decide ((a.getD (gi y0 1).toNat []).getD 1 (0 : Int) > (b.getD (gi y0 1).toNat []).getD 1 (0 : Int))) =
  false) → (inR (gi y0 1) b)) (guardP (((decide ((a.getD (gi y0 1).toNat []).getD 0 (0 : Int) < (b.getD (gi y0 1).toNat []).getD 0 (0 : Int)) ||
      decide ((a.getD (gi y0 1).toNat []).getD 1 (0 : Int) > (b.getD (gi y0 1).toNat []).getD 1 (0 : Int)) ||
    decide ((a.getD (gi y0 1).toNat []).getD 2 (0 : Int) < (b.getD (gi y0 1).toNat []).getD 2 (0 : Int))) =
  false) → (inR (gi y0 1) a)) (guardP (((decide ((a.getD (gi y0 1).toNat []).getD 0 (0 : Int) < (b.getD (gi y0 1).toNat []).getD 0 (0 : Int)) ||
      decide ((a.getD (gi y0 1).toNat []).getD 1 (0 : Int) > (b.getD (gi y0 1).toNat []).getD 1 (0 : Int)) ||
    decide ((a.getD (gi y0 1).toNat []).getD 2 (0 : Int) < (b.getD (gi y0 1).toNat []).getD 2 (0 : Int))) =
  false) → (inR (gi y0 1) a)) (guardP (((decide ((a.getD (gi y0 1).toNat []).getD 0 (0 : Int) < (b.getD (gi y0 1).toNat []).getD 0 (0 : Int)) ||
      decide ((a.getD (gi y0 1).toNat []).getD 1 (0 : Int) > (b.getD (gi y0 1).toNat []).getD 1 (0 : Int)) ||
    decide ((a.getD (gi y0 1).toNat []).getD 2 (0 : Int) < (b.getD (gi y0 1).toNat []).getD 2 (0 : Int))) =
  false) → (inR (gi y0 1) a)) (guardP (((decide ((a.getD (gi y0 1).toNat []).getD 0 (0 : Int) < (b.getD (gi y0 1).toNat []).getD 0 (0 : Int)) ||
      decide ((a.getD (gi y0 1).toNat []).getD 1 (0 : Int) > (b.getD (gi y0 1).toNat []).getD 1 (0 : Int)) ||
    decide ((a.getD (gi y0 1).toNat []).getD 2 (0 : Int) < (b.getD (gi y0 1).toNat []).getD 2 (0 : Int))) =
  false) → (inR (gi y0 1) a)) (guardP (((decide ((a.getD (gi y0 1).toNat []).getD 0 (0 : Int) < (b.getD (gi y0 1).toNat []).getD 0 (0 : Int)) ||
      decide ((a.getD (gi y0 1).toNat []).getD 1 (0 : Int) > (b.getD (gi y0 1).toNat []).getD 1 (0 : Int)) ||
    decide ((a.getD (gi y0 1).toNat []).getD 2 (0 : Int) < (b.getD (gi y0 1).toNat []).getD 2 (0 : Int))) =
  false) → (inR (gi y0 1) b)) (guardP (((decide ((a.getD (gi y0 1).toNat []).getD 0 (0 : Int) < (b.getD (gi y0 1).toNat []).getD 0 (0 : Int)) ||
      decide ((a.getD (gi y0 1).toNat []).getD 1 (0 : Int) > (b.getD (gi y0 1).toNat []).getD 1 (0 : Int)) ||
    decide ((a.getD (gi y0 1).toNat []).getD 2 (0 : Int) < (b.getD (gi y0 1).toNat []).getD 2 (0 : Int))) =
  false) → (inR (gi y0 1) b)) (guardP (((decide ((a.getD (gi y0 1).toNat []).getD 0 (0 : Int) < (b.getD (gi y0 1).toNat []).getD 0 (0 : Int)) ||
      decide ((a.getD (gi y0 1).toNat []).getD 1 (0 : Int) > (b.getD (gi y0 1).toNat []).getD 1 (0 : Int)) ||
    decide ((a.getD (gi y0 1).toNat []).getD 2 (0 : Int) < (b.getD (gi y0 1).toNat []).getD 2 (0 : Int))) =
  false) → (inR (gi y0 1) b)) (guardP (((decide ((a.getD (gi y0 1).toNat []).getD 0 (0 : Int) < (b.getD (gi y0 1).toNat []).getD 0 (0 : Int)) ||
      decide ((a.getD (gi y0 1).toNat []).getD 1 (0 : Int) > (b.getD (gi y0 1).toNat []).getD 1 (0 : Int)) ||
    decide ((a.getD (gi y0 1).toNat []).getD 2 (0 : Int) < (b.getD (gi y0 1).toNat []).getD 2 (0 : Int))) =
  false) → (inR (gi y0 1) b)) ((bif decide ((a.getD (gi y0 1).toNat []).getD 0 (0 : Int) < (b.getD (gi y0 1).toNat []).getD 0 (0 : Int)) ||
      decide ((a.getD (gi y0 1).toNat []).getD 1 (0 : Int) > (b.getD (gi y0 1).toNat []).getD 1 (0 : Int)) ||
    decide ((a.getD (gi y0 1).toNat []).getD 2 (0 : Int) < (b.getD (gi y0 1).toNat []).getD 2 (0 : Int)) ||
  decide ((a.getD (gi y0 1).toNat []).getD 3 (0 : Int) > (b.getD (gi y0 1).toNat []).getD 3 (0 : Int)) then some (1, []) else some (0, [.b (gb y0 0), .i (IntKind.i64.wrap (gi y0 1 + (1 : Int)))])))))))))))))))))))))))))))))))))) else some (3, [.b (gb y0 0), .i (gi y0 1)]))
noncomputable def law23_within_l0 (a b : List (List Int)) : Nat × List U := loopGet (law23_within_l0_step a b) (law23_within_l0_init a b)
noncomputable def law23_within_0 (a b : List (List Int)) : Bool :=
  bif (↑a.length : Int) != (↑b.length : Int) then false else bif (law23_within_l0 a b).fst.beq 1 then false else true
def law23_within_pre (a b : List (List Int)) : Prop :=
  ((((↑a.length : Int) != (↑b.length : Int)) = false) → ((loopOk (law23_within_l0_step a b) (law23_within_l0_init a b))))
noncomputable def drift_joins_0 (a_X_Lo a_X_Hi a_Y_Lo a_Y_Hi b_X_Lo b_X_Hi b_Y_Lo b_Y_Hi : Int) : Bool :=
  span_JoinBox_0 a_X_Lo a_X_Hi a_Y_Lo a_Y_Hi b_X_Lo b_X_Hi b_Y_Lo b_Y_Hi == a_X_Lo && (span_JoinBox_1 a_X_Lo a_X_Hi a_Y_Lo a_Y_Hi b_X_Lo b_X_Hi b_Y_Lo b_Y_Hi == a_X_Hi && true) &&
      (span_JoinBox_2 a_X_Lo a_X_Hi a_Y_Lo a_Y_Hi b_X_Lo b_X_Hi b_Y_Lo b_Y_Hi == a_Y_Lo && (span_JoinBox_3 a_X_Lo a_X_Hi a_Y_Lo a_Y_Hi b_X_Lo b_X_Hi b_Y_Lo b_Y_Hi == a_Y_Hi && true) && true) ||
    span_JoinBox_0 a_X_Lo a_X_Hi a_Y_Lo a_Y_Hi b_X_Lo b_X_Hi b_Y_Lo b_Y_Hi == b_X_Lo && (span_JoinBox_1 a_X_Lo a_X_Hi a_Y_Lo a_Y_Hi b_X_Lo b_X_Hi b_Y_Lo b_Y_Hi == b_X_Hi && true) &&
      (span_JoinBox_2 a_X_Lo a_X_Hi a_Y_Lo a_Y_Hi b_X_Lo b_X_Hi b_Y_Lo b_Y_Hi == b_Y_Lo && (span_JoinBox_3 a_X_Lo a_X_Hi a_Y_Lo a_Y_Hi b_X_Lo b_X_Hi b_Y_Lo b_Y_Hi == b_Y_Hi && true) && true) ||
  span_MeetBox_4 a_X_Lo a_X_Hi a_Y_Lo a_Y_Hi b_X_Lo b_X_Hi b_Y_Lo b_Y_Hi == (0 : Int) && (a_X_Lo == b_X_Lo && (a_X_Hi == b_X_Hi && true) || a_Y_Lo == b_Y_Lo && (a_Y_Hi == b_Y_Hi && true))
end Go.Proofs.YtddfnokjnafdpaaGreat
