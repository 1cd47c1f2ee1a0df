/- Written by program (wip/gen.py): what the Go functions compute, as the executor reads it off their code. -/
import Derived.Test.YtbopeaebdlmapaaSxA
set_option linter.unusedVariables false
namespace Go.Proofs.Ytbopeaebdlmapaa
open Go Go.Sx
def span_Valid_0 (s_Lo s_Hi : Int) : Bool :=
  decide (-1000000000000 ≤ s_Lo) && decide (s_Lo ≤ s_Hi) && decide (s_Hi ≤ 1000000000000)
def span_kept_0 (s_Lo s_Hi : Int) : Int :=
  bif !span_Valid_0 s_Lo s_Hi then 0 else s_Lo
def span_kept_1 (s_Lo s_Hi : Int) : Int :=
  bif !span_Valid_0 s_Lo s_Hi then 0 else s_Hi
def span_kept_2 (s_Lo s_Hi : Int) : Int :=
  bif !span_Valid_0 s_Lo s_Hi then 3 else 0
def span_Add_0 (s_Lo s_Hi t_Lo t_Hi : Int) : Int :=
  bif !span_Valid_0 s_Lo s_Hi || !span_Valid_0 t_Lo t_Hi then 0 else span_kept_0 (IntKind.i64.wrap (s_Lo + t_Lo)) (IntKind.i64.wrap (s_Hi + t_Hi))
def span_Add_1 (s_Lo s_Hi t_Lo t_Hi : Int) : Int :=
  bif !span_Valid_0 s_Lo s_Hi || !span_Valid_0 t_Lo t_Hi then 0 else span_kept_1 (IntKind.i64.wrap (s_Lo + t_Lo)) (IntKind.i64.wrap (s_Hi + t_Hi))
def span_Add_2 (s_Lo s_Hi t_Lo t_Hi : Int) : Int :=
  bif !span_Valid_0 s_Lo s_Hi || !span_Valid_0 t_Lo t_Hi then 1 else span_kept_2 (IntKind.i64.wrap (s_Lo + t_Lo)) (IntKind.i64.wrap (s_Hi + t_Hi))
def span_Sub_0 (s_Lo s_Hi t_Lo t_Hi : Int) : Int :=
  bif !span_Valid_0 s_Lo s_Hi || !span_Valid_0 t_Lo t_Hi then 0 else span_kept_0 (IntKind.i64.wrap (s_Lo - t_Hi)) (IntKind.i64.wrap (s_Hi - t_Lo))
def span_Sub_1 (s_Lo s_Hi t_Lo t_Hi : Int) : Int :=
  bif !span_Valid_0 s_Lo s_Hi || !span_Valid_0 t_Lo t_Hi then 0 else span_kept_1 (IntKind.i64.wrap (s_Lo - t_Hi)) (IntKind.i64.wrap (s_Hi - t_Lo))
def span_Sub_2 (s_Lo s_Hi t_Lo t_Hi : Int) : Int :=
  bif !span_Valid_0 s_Lo s_Hi || !span_Valid_0 t_Lo t_Hi then 1 else span_kept_2 (IntKind.i64.wrap (s_Lo - t_Hi)) (IntKind.i64.wrap (s_Hi - t_Lo))
def span_ends_int_0 (a b : Int) : Int :=
  imin a b
def span_ends_int_1 (a b : Int) : Int :=
  imax a b
def span_Scale_pre (s_Lo s_Hi num den : Int) : Prop :=
  (((!span_Valid_0 s_Lo s_Hi || decide (num < -1000000) || decide (num > 1000000) || decide (den < 1) || decide (den > 1000000)) = false) → (((den = 0) → (False)) ∧ (((den = 0) → (False)) ∧ (((den = 0) → (False)) ∧ (((decide ((span_ends_int_0 (IntKind.i64.wrap (s_Lo * num)) (IntKind.i64.wrap (s_Hi * num))).tmod den < 0) = true) → ((den = 0) → (False))) ∧ ((decide ((span_ends_int_0 (IntKind.i64.wrap (s_Lo * num)) (IntKind.i64.wrap (s_Hi * num))).tmod den < 0) = false) → ((den = 0) → (False))))))))
def span_Scale_0 (s_Lo s_Hi num den : Int) : Int :=
  bif !span_Valid_0 s_Lo s_Hi || decide (num < -1000000) || decide (num > 1000000) || decide (den < 1) || decide (den > 1000000) then 0
else
  bif decide ((span_ends_int_0 (IntKind.i64.wrap (s_Lo * num)) (IntKind.i64.wrap (s_Hi * num))).tmod den < 0) then
    bif decide ((span_ends_int_1 (IntKind.i64.wrap (s_Lo * num)) (IntKind.i64.wrap (s_Hi * num))).tmod den > 0) then
      span_kept_0 (IntKind.i64.wrap (IntKind.i64.wrap ((span_ends_int_0 (IntKind.i64.wrap (s_Lo * num)) (IntKind.i64.wrap (s_Hi * num))).tdiv den) - 1))
        (IntKind.i64.wrap (IntKind.i64.wrap ((span_ends_int_1 (IntKind.i64.wrap (s_Lo * num)) (IntKind.i64.wrap (s_Hi * num))).tdiv den) + 1))
    else
      span_kept_0 (IntKind.i64.wrap (IntKind.i64.wrap ((span_ends_int_0 (IntKind.i64.wrap (s_Lo * num)) (IntKind.i64.wrap (s_Hi * num))).tdiv den) - 1))
        (IntKind.i64.wrap ((span_ends_int_1 (IntKind.i64.wrap (s_Lo * num)) (IntKind.i64.wrap (s_Hi * num))).tdiv den))
  else
    bif decide ((span_ends_int_1 (IntKind.i64.wrap (s_Lo * num)) (IntKind.i64.wrap (s_Hi * num))).tmod den > 0) then
      span_kept_0 (IntKind.i64.wrap ((span_ends_int_0 (IntKind.i64.wrap (s_Lo * num)) (IntKind.i64.wrap (s_Hi * num))).tdiv den))
        (IntKind.i64.wrap (IntKind.i64.wrap ((span_ends_int_1 (IntKind.i64.wrap (s_Lo * num)) (IntKind.i64.wrap (s_Hi * num))).tdiv den) + 1))
    else
      span_kept_0 (IntKind.i64.wrap ((span_ends_int_0 (IntKind.i64.wrap (s_Lo * num)) (IntKind.i64.wrap (s_Hi * num))).tdiv den))
        (IntKind.i64.wrap ((span_ends_int_1 (IntKind.i64.wrap (s_Lo * num)) (IntKind.i64.wrap (s_Hi * num))).tdiv den))
def span_Scale_1 (s_Lo s_Hi num den : Int) : Int :=
  bif !span_Valid_0 s_Lo s_Hi || decide (num < -1000000) || decide (num > 1000000) || decide (den < 1) || decide (den > 1000000) then 0
else
  bif decide ((span_ends_int_0 (IntKind.i64.wrap (s_Lo * num)) (IntKind.i64.wrap (s_Hi * num))).tmod den < 0) then
    bif decide ((span_ends_int_1 (IntKind.i64.wrap (s_Lo * num)) (IntKind.i64.wrap (s_Hi * num))).tmod den > 0) then
      span_kept_1 (IntKind.i64.wrap (IntKind.i64.wrap ((span_ends_int_0 (IntKind.i64.wrap (s_Lo * num)) (IntKind.i64.wrap (s_Hi * num))).tdiv den) - 1))
        (IntKind.i64.wrap (IntKind.i64.wrap ((span_ends_int_1 (IntKind.i64.wrap (s_Lo * num)) (IntKind.i64.wrap (s_Hi * num))).tdiv den) + 1))
    else
      span_kept_1 (IntKind.i64.wrap (IntKind.i64.wrap ((span_ends_int_0 (IntKind.i64.wrap (s_Lo * num)) (IntKind.i64.wrap (s_Hi * num))).tdiv den) - 1))
        (IntKind.i64.wrap ((span_ends_int_1 (IntKind.i64.wrap (s_Lo * num)) (IntKind.i64.wrap (s_Hi * num))).tdiv den))
  else
    bif decide ((span_ends_int_1 (IntKind.i64.wrap (s_Lo * num)) (IntKind.i64.wrap (s_Hi * num))).tmod den > 0) then
      span_kept_1 (IntKind.i64.wrap ((span_ends_int_0 (IntKind.i64.wrap (s_Lo * num)) (IntKind.i64.wrap (s_Hi * num))).tdiv den))
        (IntKind.i64.wrap (IntKind.i64.wrap ((span_ends_int_1 (IntKind.i64.wrap (s_Lo * num)) (IntKind.i64.wrap (s_Hi * num))).tdiv den) + 1))
    else
      span_kept_1 (IntKind.i64.wrap ((span_ends_int_0 (IntKind.i64.wrap (s_Lo * num)) (IntKind.i64.wrap (s_Hi * num))).tdiv den))
        (IntKind.i64.wrap ((span_ends_int_1 (IntKind.i64.wrap (s_Lo * num)) (IntKind.i64.wrap (s_Hi * num))).tdiv den))
def span_Scale_2 (s_Lo s_Hi num den : Int) : Int :=
  bif !span_Valid_0 s_Lo s_Hi || decide (num < -1000000) || decide (num > 1000000) || decide (den < 1) || decide (den > 1000000) then 1
else
  bif decide ((span_ends_int_0 (IntKind.i64.wrap (s_Lo * num)) (IntKind.i64.wrap (s_Hi * num))).tmod den < 0) then
    bif decide ((span_ends_int_1 (IntKind.i64.wrap (s_Lo * num)) (IntKind.i64.wrap (s_Hi * num))).tmod den > 0) then
      span_kept_2 (IntKind.i64.wrap (IntKind.i64.wrap ((span_ends_int_0 (IntKind.i64.wrap (s_Lo * num)) (IntKind.i64.wrap (s_Hi * num))).tdiv den) - 1))
        (IntKind.i64.wrap (IntKind.i64.wrap ((span_ends_int_1 (IntKind.i64.wrap (s_Lo * num)) (IntKind.i64.wrap (s_Hi * num))).tdiv den) + 1))
    else
      span_kept_2 (IntKind.i64.wrap (IntKind.i64.wrap ((span_ends_int_0 (IntKind.i64.wrap (s_Lo * num)) (IntKind.i64.wrap (s_Hi * num))).tdiv den) - 1))
        (IntKind.i64.wrap ((span_ends_int_1 (IntKind.i64.wrap (s_Lo * num)) (IntKind.i64.wrap (s_Hi * num))).tdiv den))
  else
    bif decide ((span_ends_int_1 (IntKind.i64.wrap (s_Lo * num)) (IntKind.i64.wrap (s_Hi * num))).tmod den > 0) then
      span_kept_2 (IntKind.i64.wrap ((span_ends_int_0 (IntKind.i64.wrap (s_Lo * num)) (IntKind.i64.wrap (s_Hi * num))).tdiv den))
        (IntKind.i64.wrap (IntKind.i64.wrap ((span_ends_int_1 (IntKind.i64.wrap (s_Lo * num)) (IntKind.i64.wrap (s_Hi * num))).tdiv den) + 1))
    else
      span_kept_2 (IntKind.i64.wrap ((span_ends_int_0 (IntKind.i64.wrap (s_Lo * num)) (IntKind.i64.wrap (s_Hi * num))).tdiv den))
        (IntKind.i64.wrap ((span_ends_int_1 (IntKind.i64.wrap (s_Lo * num)) (IntKind.i64.wrap (s_Hi * num))).tdiv den))
theorem span_Scale_pre_ok (s_Lo s_Hi num den : Int) : span_Scale_pre s_Lo s_Hi num den := by
  unfold span_Scale_pre
  (simp; try omega)
def span_Meet_0 (s_Lo s_Hi t_Lo t_Hi : Int) : Int :=
  bif !span_Valid_0 s_Lo s_Hi || !span_Valid_0 t_Lo t_Hi then 0 else bif decide (imin s_Hi t_Hi < imax s_Lo t_Lo) then 0 else imax s_Lo t_Lo
def span_Meet_1 (s_Lo s_Hi t_Lo t_Hi : Int) : Int :=
  bif !span_Valid_0 s_Lo s_Hi || !span_Valid_0 t_Lo t_Hi then 0 else bif decide (imin s_Hi t_Hi < imax s_Lo t_Lo) then 0 else imin s_Hi t_Hi
def span_Meet_2 (s_Lo s_Hi t_Lo t_Hi : Int) : Int :=
  bif !span_Valid_0 s_Lo s_Hi || !span_Valid_0 t_Lo t_Hi then 1 else bif decide (imin s_Hi t_Hi < imax s_Lo t_Lo) then 4 else 0
def span_Join_0 (s_Lo s_Hi t_Lo t_Hi : Int) : Int :=
  bif !span_Valid_0 s_Lo s_Hi || !span_Valid_0 t_Lo t_Hi then 0 else span_ends_int_0 s_Lo t_Lo
def span_Join_1 (s_Lo s_Hi t_Lo t_Hi : Int) : Int :=
  bif !span_Valid_0 s_Lo s_Hi || !span_Valid_0 t_Lo t_Hi then 0 else span_ends_int_1 s_Hi t_Hi
def span_Join_2 (s_Lo s_Hi t_Lo t_Hi : Int) : Int :=
  bif !span_Valid_0 s_Lo s_Hi || !span_Valid_0 t_Lo t_Hi then 1 else 0
def span_Within_0 (s_Lo s_Hi t_Lo t_Hi : Int) : Bool :=
  span_Join_2 s_Lo s_Hi t_Lo t_Hi == 0 && (span_Join_0 s_Lo s_Hi t_Lo t_Hi == t_Lo && (span_Join_1 s_Lo s_Hi t_Lo t_Hi == t_Hi && true))
def span_Within_1 (s_Lo s_Hi t_Lo t_Hi : Int) : Int :=
  span_Join_2 s_Lo s_Hi t_Lo t_Hi
def span_ValidBox_0 (b_X_Lo b_X_Hi b_Y_Lo b_Y_Hi : Int) : Bool :=
  span_Within_1 b_X_Lo b_X_Hi (-1000000) 1000000 == 0 && span_Within_1 b_Y_Lo b_Y_Hi (-1000000) 1000000 == 0 && span_Within_0 b_X_Lo b_X_Hi (-1000000) 1000000 &&
  span_Within_0 b_Y_Lo b_Y_Hi (-1000000) 1000000
def span_MeetBox_0 (a_X_Lo a_X_Hi a_Y_Lo a_Y_Hi b_X_Lo b_X_Hi b_Y_Lo b_Y_Hi : Int) : Int :=
  bif !span_ValidBox_0 a_X_Lo a_X_Hi a_Y_Lo a_Y_Hi || !span_ValidBox_0 b_X_Lo b_X_Hi b_Y_Lo b_Y_Hi then 0
else bif imax (span_Meet_2 a_X_Lo a_X_Hi b_X_Lo b_X_Hi) (span_Meet_2 a_Y_Lo a_Y_Hi b_Y_Lo b_Y_Hi) != 0 then 0 else span_Meet_0 a_X_Lo a_X_Hi b_X_Lo b_X_Hi
def span_MeetBox_1 (a_X_Lo a_X_Hi a_Y_Lo a_Y_Hi b_X_Lo b_X_Hi b_Y_Lo b_Y_Hi : Int) : Int :=
  bif !span_ValidBox_0 a_X_Lo a_X_Hi a_Y_Lo a_Y_Hi || !span_ValidBox_0 b_X_Lo b_X_Hi b_Y_Lo b_Y_Hi then 0
else bif imax (span_Meet_2 a_X_Lo a_X_Hi b_X_Lo b_X_Hi) (span_Meet_2 a_Y_Lo a_Y_Hi b_Y_Lo b_Y_Hi) != 0 then 0 else span_Meet_1 a_X_Lo a_X_Hi b_X_Lo b_X_Hi
def span_MeetBox_2 (a_X_Lo a_X_Hi a_Y_Lo a_Y_Hi b_X_Lo b_X_Hi b_Y_Lo b_Y_Hi : Int) : Int :=
  bif !span_ValidBox_0 a_X_Lo a_X_Hi a_Y_Lo a_Y_Hi || !span_ValidBox_0 b_X_Lo b_X_Hi b_Y_Lo b_Y_Hi then 0
else bif imax (span_Meet_2 a_X_Lo a_X_Hi b_X_Lo b_X_Hi) (span_Meet_2 a_Y_Lo a_Y_Hi b_Y_Lo b_Y_Hi) != 0 then 0 else span_Meet_0 a_Y_Lo a_Y_Hi b_Y_Lo b_Y_Hi
def span_MeetBox_3 (a_X_Lo a_X_Hi a_Y_Lo a_Y_Hi b_X_Lo b_X_Hi b_Y_Lo b_Y_Hi : Int) : Int :=
  bif !span_ValidBox_0 a_X_Lo a_X_Hi a_Y_Lo a_Y_Hi || !span_ValidBox_0 b_X_Lo b_X_Hi b_Y_Lo b_Y_Hi then 0
else bif imax (span_Meet_2 a_X_Lo a_X_Hi b_X_Lo b_X_Hi) (span_Meet_2 a_Y_Lo a_Y_Hi b_Y_Lo b_Y_Hi) != 0 then 0 else span_Meet_1 a_Y_Lo a_Y_Hi b_Y_Lo b_Y_Hi
def span_MeetBox_4 (a_X_Lo a_X_Hi a_Y_Lo a_Y_Hi b_X_Lo b_X_Hi b_Y_Lo b_Y_Hi : Int) : Int :=
  bif !span_ValidBox_0 a_X_Lo a_X_Hi a_Y_Lo a_Y_Hi || !span_ValidBox_0 b_X_Lo b_X_Hi b_Y_Lo b_Y_Hi then 1
else
  bif imax (span_Meet_2 a_X_Lo a_X_Hi b_X_Lo b_X_Hi) (span_Meet_2 a_Y_Lo a_Y_Hi b_Y_Lo b_Y_Hi) != 0 then imax (span_Meet_2 a_X_Lo a_X_Hi b_X_Lo b_X_Hi) (span_Meet_2 a_Y_Lo a_Y_Hi b_Y_Lo b_Y_Hi) else 0
def span_JoinBox_0 (a_X_Lo a_X_Hi a_Y_Lo a_Y_Hi b_X_Lo b_X_Hi b_Y_Lo b_Y_Hi : Int) : Int :=
  bif !span_ValidBox_0 a_X_Lo a_X_Hi a_Y_Lo a_Y_Hi || !span_ValidBox_0 b_X_Lo b_X_Hi b_Y_Lo b_Y_Hi then 0
else bif imax (span_Join_2 a_X_Lo a_X_Hi b_X_Lo b_X_Hi) (span_Join_2 a_Y_Lo a_Y_Hi b_Y_Lo b_Y_Hi) != 0 then 0 else span_Join_0 a_X_Lo a_X_Hi b_X_Lo b_X_Hi
def span_JoinBox_1 (a_X_Lo a_X_Hi a_Y_Lo a_Y_Hi b_X_Lo b_X_Hi b_Y_Lo b_Y_Hi : Int) : Int :=
  bif !span_ValidBox_0 a_X_Lo a_X_Hi a_Y_Lo a_Y_Hi || !span_ValidBox_0 b_X_Lo b_X_Hi b_Y_Lo b_Y_Hi then 0
else bif imax (span_Join_2 a_X_Lo a_X_Hi b_X_Lo b_X_Hi) (span_Join_2 a_Y_Lo a_Y_Hi b_Y_Lo b_Y_Hi) != 0 then 0 else span_Join_1 a_X_Lo a_X_Hi b_X_Lo b_X_Hi
def span_JoinBox_2 (a_X_Lo a_X_Hi a_Y_Lo a_Y_Hi b_X_Lo b_X_Hi b_Y_Lo b_Y_Hi : Int) : Int :=
  bif !span_ValidBox_0 a_X_Lo a_X_Hi a_Y_Lo a_Y_Hi || !span_ValidBox_0 b_X_Lo b_X_Hi b_Y_Lo b_Y_Hi then 0
else bif imax (span_Join_2 a_X_Lo a_X_Hi b_X_Lo b_X_Hi) (span_Join_2 a_Y_Lo a_Y_Hi b_Y_Lo b_Y_Hi) != 0 then 0 else span_Join_0 a_Y_Lo a_Y_Hi b_Y_Lo b_Y_Hi
def span_JoinBox_3 (a_X_Lo a_X_Hi a_Y_Lo a_Y_Hi b_X_Lo b_X_Hi b_Y_Lo b_Y_Hi : Int) : Int :=
  bif !span_ValidBox_0 a_X_Lo a_X_Hi a_Y_Lo a_Y_Hi || !span_ValidBox_0 b_X_Lo b_X_Hi b_Y_Lo b_Y_Hi then 0
else bif imax (span_Join_2 a_X_Lo a_X_Hi b_X_Lo b_X_Hi) (span_Join_2 a_Y_Lo a_Y_Hi b_Y_Lo b_Y_Hi) != 0 then 0 else span_Join_1 a_Y_Lo a_Y_Hi b_Y_Lo b_Y_Hi
def span_JoinBox_4 (a_X_Lo a_X_Hi a_Y_Lo a_Y_Hi b_X_Lo b_X_Hi b_Y_Lo b_Y_Hi : Int) : Int :=
  bif !span_ValidBox_0 a_X_Lo a_X_Hi a_Y_Lo a_Y_Hi || !span_ValidBox_0 b_X_Lo b_X_Hi b_Y_Lo b_Y_Hi then 1
else
  bif imax (span_Join_2 a_X_Lo a_X_Hi b_X_Lo b_X_Hi) (span_Join_2 a_Y_Lo a_Y_Hi b_Y_Lo b_Y_Hi) != 0 then imax (span_Join_2 a_X_Lo a_X_Hi b_X_Lo b_X_Hi) (span_Join_2 a_Y_Lo a_Y_Hi b_Y_Lo b_Y_Hi) else 0
def span_GrowBox_0 (b_X_Lo b_X_Hi b_Y_Lo b_Y_Hi n : Int) : Int :=
  bif !span_ValidBox_0 b_X_Lo b_X_Hi b_Y_Lo b_Y_Hi || decide (n < 0) || decide (n > 3000000) then 0
else bif !span_ValidBox_0 (IntKind.i64.wrap (b_X_Lo - n)) (IntKind.i64.wrap (b_X_Hi + n)) (IntKind.i64.wrap (b_Y_Lo - n)) (IntKind.i64.wrap (b_Y_Hi + n)) then 0 else IntKind.i64.wrap (b_X_Lo - n)
def span_GrowBox_1 (b_X_Lo b_X_Hi b_Y_Lo b_Y_Hi n : Int) : Int :=
  bif !span_ValidBox_0 b_X_Lo b_X_Hi b_Y_Lo b_Y_Hi || decide (n < 0) || decide (n > 3000000) then 0
else bif !span_ValidBox_0 (IntKind.i64.wrap (b_X_Lo - n)) (IntKind.i64.wrap (b_X_Hi + n)) (IntKind.i64.wrap (b_Y_Lo - n)) (IntKind.i64.wrap (b_Y_Hi + n)) then 0 else IntKind.i64.wrap (b_X_Hi + n)
def span_GrowBox_2 (b_X_Lo b_X_Hi b_Y_Lo b_Y_Hi n : Int) : Int :=
  bif !span_ValidBox_0 b_X_Lo b_X_Hi b_Y_Lo b_Y_Hi || decide (n < 0) || decide (n > 3000000) then 0
else bif !span_ValidBox_0 (IntKind.i64.wrap (b_X_Lo - n)) (IntKind.i64.wrap (b_X_Hi + n)) (IntKind.i64.wrap (b_Y_Lo - n)) (IntKind.i64.wrap (b_Y_Hi + n)) then 0 else IntKind.i64.wrap (b_Y_Lo - n)
def span_GrowBox_3 (b_X_Lo b_X_Hi b_Y_Lo b_Y_Hi n : Int) : Int :=
  bif !span_ValidBox_0 b_X_Lo b_X_Hi b_Y_Lo b_Y_Hi || decide (n < 0) || decide (n > 3000000) then 0
else bif !span_ValidBox_0 (IntKind.i64.wrap (b_X_Lo - n)) (IntKind.i64.wrap (b_X_Hi + n)) (IntKind.i64.wrap (b_Y_Lo - n)) (IntKind.i64.wrap (b_Y_Hi + n)) then 0 else IntKind.i64.wrap (b_Y_Hi + n)
def span_GrowBox_4 (b_X_Lo b_X_Hi b_Y_Lo b_Y_Hi n : Int) : Int :=
  bif !span_ValidBox_0 b_X_Lo b_X_Hi b_Y_Lo b_Y_Hi || decide (n < 0) || decide (n > 3000000) then 1
else bif !span_ValidBox_0 (IntKind.i64.wrap (b_X_Lo - n)) (IntKind.i64.wrap (b_X_Hi + n)) (IntKind.i64.wrap (b_Y_Lo - n)) (IntKind.i64.wrap (b_Y_Hi + n)) then 3 else 0
def span_WithinBox_0 (a_X_Lo a_X_Hi a_Y_Lo a_Y_Hi b_X_Lo b_X_Hi b_Y_Lo b_Y_Hi : Int) : Bool :=
  span_JoinBox_4 a_X_Lo a_X_Hi a_Y_Lo a_Y_Hi b_X_Lo b_X_Hi b_Y_Lo b_Y_Hi == 0 &&
  (span_JoinBox_0 a_X_Lo a_X_Hi a_Y_Lo a_Y_Hi b_X_Lo b_X_Hi b_Y_Lo b_Y_Hi == b_X_Lo && (span_JoinBox_1 a_X_Lo a_X_Hi a_Y_Lo a_Y_Hi b_X_Lo b_X_Hi b_Y_Lo b_Y_Hi == b_X_Hi && true) &&
    (span_JoinBox_2 a_X_Lo a_X_Hi a_Y_Lo a_Y_Hi b_X_Lo b_X_Hi b_Y_Lo b_Y_Hi == b_Y_Lo && (span_JoinBox_3 a_X_Lo a_X_Hi a_Y_Lo a_Y_Hi b_X_Lo b_X_Hi b_Y_Lo b_Y_Hi == b_Y_Hi && true) && true))
def span_WithinBox_1 (a_X_Lo a_X_Hi a_Y_Lo a_Y_Hi b_X_Lo b_X_Hi b_Y_Lo b_Y_Hi : Int) : Int :=
  span_JoinBox_4 a_X_Lo a_X_Hi a_Y_Lo a_Y_Hi b_X_Lo b_X_Hi b_Y_Lo b_Y_Hi
def span_InBox_0 (p_X p_Y b_X_Lo b_X_Hi b_Y_Lo b_Y_Hi : Int) : Bool :=
  span_WithinBox_0 p_X p_X p_Y p_Y b_X_Lo b_X_Hi b_Y_Lo b_Y_Hi
def span_InBox_1 (p_X p_Y b_X_Lo b_X_Hi b_Y_Lo b_Y_Hi : Int) : Int :=
  span_WithinBox_1 p_X p_X p_Y p_Y b_X_Lo b_X_Hi b_Y_Lo b_Y_Hi
def law02_of_0 (lo hi : Int) : Int :=
  lo
def law02_of_1 (lo hi : Int) : Int :=
  hi
def law02_head_0  : Bool :=
  span_Sub_2 (law02_of_0 1 3) (law02_of_1 1 3) (law02_of_0 2 5) (law02_of_1 2 5) == 0 && span_Scale_2 (law02_of_0 (-3) 5) (law02_of_1 (-3) 5) 1 2 == 0 &&
                          span_Scale_2 (law02_of_0 (-3) 5) (law02_of_1 (-3) 5) (-1) 2 == 0 &&
                        span_Meet_2 (law02_of_0 1 3) (law02_of_1 1 3) (law02_of_0 3 9) (law02_of_1 3 9) == 0 &&
                      span_Meet_2 (law02_of_0 1 3) (law02_of_1 1 3) (law02_of_0 4 9) (law02_of_1 4 9) == 4 &&
                    span_Join_2 (law02_of_0 1 3) (law02_of_1 1 3) (law02_of_0 7 9) (law02_of_1 7 9) == 0 &&
                  span_GrowBox_4 (law02_of_0 0 2) (law02_of_1 0 2) (law02_of_0 5 5) (law02_of_1 5 5) 3 == 0 &&
                span_Add_2 (law02_of_0 1 3) (law02_of_1 1 3) (law02_of_0 2 5) (law02_of_1 2 5) == 0 &&
              (span_Sub_0 (law02_of_0 1 3) (law02_of_1 1 3) (law02_of_0 2 5) (law02_of_1 2 5) == law02_of_0 (-4) 1 &&
                (span_Sub_1 (law02_of_0 1 3) (law02_of_1 1 3) (law02_of_0 2 5) (law02_of_1 2 5) == law02_of_1 (-4) 1 && true)) &&
            (span_Scale_0 (law02_of_0 (-3) 5) (law02_of_1 (-3) 5) 1 2 == law02_of_0 (-2) 3 && (span_Scale_1 (law02_of_0 (-3) 5) (law02_of_1 (-3) 5) 1 2 == law02_of_1 (-2) 3 && true)) &&
          (span_Scale_0 (law02_of_0 (-3) 5) (law02_of_1 (-3) 5) (-1) 2 == law02_of_0 (-3) 2 && (span_Scale_1 (law02_of_0 (-3) 5) (law02_of_1 (-3) 5) (-1) 2 == law02_of_1 (-3) 2 && true)) &&
        (span_Meet_0 (law02_of_0 1 3) (law02_of_1 1 3) (law02_of_0 3 9) (law02_of_1 3 9) == law02_of_0 3 3 &&
          (span_Meet_1 (law02_of_0 1 3) (law02_of_1 1 3) (law02_of_0 3 9) (law02_of_1 3 9) == law02_of_1 3 3 && true)) &&
      (span_Join_0 (law02_of_0 1 3) (law02_of_1 1 3) (law02_of_0 7 9) (law02_of_1 7 9) == law02_of_0 1 9 &&
        (span_Join_1 (law02_of_0 1 3) (law02_of_1 1 3) (law02_of_0 7 9) (law02_of_1 7 9) == law02_of_1 1 9 && true)) &&
    (span_Add_0 (law02_of_0 1 3) (law02_of_1 1 3) (law02_of_0 2 5) (law02_of_1 2 5) == law02_of_0 3 8 &&
      (span_Add_1 (law02_of_0 1 3) (law02_of_1 1 3) (law02_of_0 2 5) (law02_of_1 2 5) == law02_of_1 3 8 && true)) &&
  (span_GrowBox_0 (law02_of_0 0 2) (law02_of_1 0 2) (law02_of_0 5 5) (law02_of_1 5 5) 3 == law02_of_0 (-3) 5 &&
      (span_GrowBox_1 (law02_of_0 0 2) (law02_of_1 0 2) (law02_of_0 5 5) (law02_of_1 5 5) 3 == law02_of_1 (-3) 5 && true) &&
    (span_GrowBox_2 (law02_of_0 0 2) (law02_of_1 0 2) (law02_of_0 5 5) (law02_of_1 5 5) 3 == law02_of_0 2 8 &&
        (span_GrowBox_3 (law02_of_0 0 2) (law02_of_1 0 2) (law02_of_0 5 5) (law02_of_1 5 5) 3 == law02_of_1 2 8 && true) &&
      true))
def law02_SpanSums_0 (s_Lo s_Hi t_Lo t_Hi x y : Int) : Bool :=
  bif span_Add_2 s_Lo s_Hi t_Lo t_Hi == 0 && (decide (s_Lo ≤ x) && decide (x ≤ s_Hi) && decide (t_Lo ≤ y) && decide (y ≤ t_Hi)) then
  bif span_Sub_2 s_Lo s_Hi t_Lo t_Hi == 0 && (decide (s_Lo ≤ x) && decide (x ≤ s_Hi) && decide (t_Lo ≤ y) && decide (y ≤ t_Hi)) then
    bif span_Add_2 s_Lo s_Hi t_Lo t_Hi != 0 then
      law02_head_0 && decide (span_Add_0 s_Lo s_Hi t_Lo t_Hi ≤ IntKind.i64.wrap (x + y)) && decide (IntKind.i64.wrap (x + y) ≤ span_Add_1 s_Lo s_Hi t_Lo t_Hi) &&
            decide (span_Sub_0 s_Lo s_Hi t_Lo t_Hi ≤ IntKind.i64.wrap (x - y)) &&
          decide (IntKind.i64.wrap (x - y) ≤ span_Sub_1 s_Lo s_Hi t_Lo t_Hi) &&
        (span_Add_2 s_Lo s_Hi t_Lo t_Hi == 1 || span_Add_2 s_Lo s_Hi t_Lo t_Hi == 3)
    else
      bif span_Sub_2 (span_Add_0 s_Lo s_Hi t_Lo t_Hi) (span_Add_1 s_Lo s_Hi t_Lo t_Hi) t_Lo t_Hi != 0 then
        law02_head_0 && decide (span_Add_0 s_Lo s_Hi t_Lo t_Hi ≤ IntKind.i64.wrap (x + y)) && decide (IntKind.i64.wrap (x + y) ≤ span_Add_1 s_Lo s_Hi t_Lo t_Hi) &&
              decide (span_Sub_0 s_Lo s_Hi t_Lo t_Hi ≤ IntKind.i64.wrap (x - y)) &&
            decide (IntKind.i64.wrap (x - y) ≤ span_Sub_1 s_Lo s_Hi t_Lo t_Hi) &&
          span_Sub_2 (span_Add_0 s_Lo s_Hi t_Lo t_Hi) (span_Add_1 s_Lo s_Hi t_Lo t_Hi) t_Lo t_Hi == 3
      else
        law02_head_0 && decide (span_Add_0 s_Lo s_Hi t_Lo t_Hi ≤ IntKind.i64.wrap (x + y)) && decide (IntKind.i64.wrap (x + y) ≤ span_Add_1 s_Lo s_Hi t_Lo t_Hi) &&
                decide (span_Sub_0 s_Lo s_Hi t_Lo t_Hi ≤ IntKind.i64.wrap (x - y)) &&
              decide (IntKind.i64.wrap (x - y) ≤ span_Sub_1 s_Lo s_Hi t_Lo t_Hi) &&
            decide (span_Sub_0 (span_Add_0 s_Lo s_Hi t_Lo t_Hi) (span_Add_1 s_Lo s_Hi t_Lo t_Hi) t_Lo t_Hi ≤ s_Lo) &&
          decide (s_Hi ≤ span_Sub_1 (span_Add_0 s_Lo s_Hi t_Lo t_Hi) (span_Add_1 s_Lo s_Hi t_Lo t_Hi) t_Lo t_Hi)
  else
    bif span_Add_2 s_Lo s_Hi t_Lo t_Hi != 0 then
      law02_head_0 && decide (span_Add_0 s_Lo s_Hi t_Lo t_Hi ≤ IntKind.i64.wrap (x + y)) && decide (IntKind.i64.wrap (x + y) ≤ span_Add_1 s_Lo s_Hi t_Lo t_Hi) &&
        (span_Add_2 s_Lo s_Hi t_Lo t_Hi == 1 || span_Add_2 s_Lo s_Hi t_Lo t_Hi == 3)
    else
      bif span_Sub_2 (span_Add_0 s_Lo s_Hi t_Lo t_Hi) (span_Add_1 s_Lo s_Hi t_Lo t_Hi) t_Lo t_Hi != 0 then
        law02_head_0 && decide (span_Add_0 s_Lo s_Hi t_Lo t_Hi ≤ IntKind.i64.wrap (x + y)) && decide (IntKind.i64.wrap (x + y) ≤ span_Add_1 s_Lo s_Hi t_Lo t_Hi) &&
          span_Sub_2 (span_Add_0 s_Lo s_Hi t_Lo t_Hi) (span_Add_1 s_Lo s_Hi t_Lo t_Hi) t_Lo t_Hi == 3
      else
        law02_head_0 && decide (span_Add_0 s_Lo s_Hi t_Lo t_Hi ≤ IntKind.i64.wrap (x + y)) && decide (IntKind.i64.wrap (x + y) ≤ span_Add_1 s_Lo s_Hi t_Lo t_Hi) &&
            decide (span_Sub_0 (span_Add_0 s_Lo s_Hi t_Lo t_Hi) (span_Add_1 s_Lo s_Hi t_Lo t_Hi) t_Lo t_Hi ≤ s_Lo) &&
          decide (s_Hi ≤ span_Sub_1 (span_Add_0 s_Lo s_Hi t_Lo t_Hi) (span_Add_1 s_Lo s_Hi t_Lo t_Hi) t_Lo t_Hi)
else
  bif span_Sub_2 s_Lo s_Hi t_Lo t_Hi == 0 && (decide (s_Lo ≤ x) && decide (x ≤ s_Hi) && decide (t_Lo ≤ y) && decide (y ≤ t_Hi)) then
    bif span_Add_2 s_Lo s_Hi t_Lo t_Hi != 0 then
      law02_head_0 && decide (span_Sub_0 s_Lo s_Hi t_Lo t_Hi ≤ IntKind.i64.wrap (x - y)) && decide (IntKind.i64.wrap (x - y) ≤ span_Sub_1 s_Lo s_Hi t_Lo t_Hi) &&
        (span_Add_2 s_Lo s_Hi t_Lo t_Hi == 1 || span_Add_2 s_Lo s_Hi t_Lo t_Hi == 3)
    else
      bif span_Sub_2 (span_Add_0 s_Lo s_Hi t_Lo t_Hi) (span_Add_1 s_Lo s_Hi t_Lo t_Hi) t_Lo t_Hi != 0 then
        law02_head_0 && decide (span_Sub_0 s_Lo s_Hi t_Lo t_Hi ≤ IntKind.i64.wrap (x - y)) && decide (IntKind.i64.wrap (x - y) ≤ span_Sub_1 s_Lo s_Hi t_Lo t_Hi) &&
          span_Sub_2 (span_Add_0 s_Lo s_Hi t_Lo t_Hi) (span_Add_1 s_Lo s_Hi t_Lo t_Hi) t_Lo t_Hi == 3
      else
        law02_head_0 && decide (span_Sub_0 s_Lo s_Hi t_Lo t_Hi ≤ IntKind.i64.wrap (x - y)) && decide (IntKind.i64.wrap (x - y) ≤ span_Sub_1 s_Lo s_Hi t_Lo t_Hi) &&
            decide (span_Sub_0 (span_Add_0 s_Lo s_Hi t_Lo t_Hi) (span_Add_1 s_Lo s_Hi t_Lo t_Hi) t_Lo t_Hi ≤ s_Lo) &&
          decide (s_Hi ≤ span_Sub_1 (span_Add_0 s_Lo s_Hi t_Lo t_Hi) (span_Add_1 s_Lo s_Hi t_Lo t_Hi) t_Lo t_Hi)
  else
    bif span_Add_2 s_Lo s_Hi t_Lo t_Hi != 0 then law02_head_0 && (span_Add_2 s_Lo s_Hi t_Lo t_Hi == 1 || span_Add_2 s_Lo s_Hi t_Lo t_Hi == 3)
    else
      bif span_Sub_2 (span_Add_0 s_Lo s_Hi t_Lo t_Hi) (span_Add_1 s_Lo s_Hi t_Lo t_Hi) t_Lo t_Hi != 0 then
        law02_head_0 && span_Sub_2 (span_Add_0 s_Lo s_Hi t_Lo t_Hi) (span_Add_1 s_Lo s_Hi t_Lo t_Hi) t_Lo t_Hi == 3
      else
        law02_head_0 && decide (span_Sub_0 (span_Add_0 s_Lo s_Hi t_Lo t_Hi) (span_Add_1 s_Lo s_Hi t_Lo t_Hi) t_Lo t_Hi ≤ s_Lo) &&
          decide (s_Hi ≤ span_Sub_1 (span_Add_0 s_Lo s_Hi t_Lo t_Hi) (span_Add_1 s_Lo s_Hi t_Lo t_Hi) t_Lo t_Hi)
def law02_SpanScaled_0 (s_Lo s_Hi num den x : Int) : Bool :=
  bif span_Scale_2 s_Lo s_Hi num den != 0 then law02_head_0 && (span_Scale_2 s_Lo s_Hi num den == 1 || span_Scale_2 s_Lo s_Hi num den == 3)
else
  bif
      decide (span_Scale_0 s_Lo s_Hi num den < -1000000000000) || decide (span_Scale_1 s_Lo s_Hi num den > 1000000000000) ||
        decide (span_Scale_0 s_Lo s_Hi num den > span_Scale_1 s_Lo s_Hi num den) then
    false
  else
    bif decide (s_Lo ≤ x) && decide (x ≤ s_Hi) then
      law02_head_0 && decide (IntKind.i64.wrap (span_Scale_0 s_Lo s_Hi num den * den) ≤ IntKind.i64.wrap (x * num)) &&
            decide (IntKind.i64.wrap (x * num) ≤ IntKind.i64.wrap (span_Scale_1 s_Lo s_Hi num den * den)) &&
          decide (IntKind.i64.wrap (IntKind.i64.wrap (span_Scale_0 s_Lo s_Hi num den + 1) * den) > imin (IntKind.i64.wrap (s_Lo * num)) (IntKind.i64.wrap (s_Hi * num))) &&
        decide (IntKind.i64.wrap (IntKind.i64.wrap (span_Scale_1 s_Lo s_Hi num den - 1) * den) < imax (IntKind.i64.wrap (s_Lo * num)) (IntKind.i64.wrap (s_Hi * num)))
    else
      law02_head_0 && decide (IntKind.i64.wrap (IntKind.i64.wrap (span_Scale_0 s_Lo s_Hi num den + 1) * den) > imin (IntKind.i64.wrap (s_Lo * num)) (IntKind.i64.wrap (s_Hi * num))) &&
        decide (IntKind.i64.wrap (IntKind.i64.wrap (span_Scale_1 s_Lo s_Hi num den - 1) * den) < imax (IntKind.i64.wrap (s_Lo * num)) (IntKind.i64.wrap (s_Hi * num)))
def law02_SpanMeets_0 (s_Lo s_Hi t_Lo t_Hi x : Int) : Bool :=
  bif span_Meet_2 s_Lo s_Hi t_Lo t_Hi == 1 then
  law02_head_0 && (span_Meet_0 s_Lo s_Hi t_Lo t_Hi == span_Meet_0 t_Lo t_Hi s_Lo s_Hi && (span_Meet_1 s_Lo s_Hi t_Lo t_Hi == span_Meet_1 t_Lo t_Hi s_Lo s_Hi && true)) &&
      span_Meet_2 s_Lo s_Hi t_Lo t_Hi == span_Meet_2 t_Lo t_Hi s_Lo s_Hi &&
    (!span_Valid_0 s_Lo s_Hi || !span_Valid_0 t_Lo t_Hi)
else
  bif span_Meet_2 s_Lo s_Hi t_Lo t_Hi != 0 then
    law02_head_0 && (span_Meet_0 s_Lo s_Hi t_Lo t_Hi == span_Meet_0 t_Lo t_Hi s_Lo s_Hi && (span_Meet_1 s_Lo s_Hi t_Lo t_Hi == span_Meet_1 t_Lo t_Hi s_Lo s_Hi && true)) &&
            span_Meet_2 s_Lo s_Hi t_Lo t_Hi == span_Meet_2 t_Lo t_Hi s_Lo s_Hi &&
          span_Meet_2 s_Lo s_Hi t_Lo t_Hi == 4 &&
        !(decide (s_Lo ≤ x) && decide (x ≤ s_Hi) && decide (t_Lo ≤ x) && decide (x ≤ t_Hi)) &&
      (decide (s_Hi < t_Lo) || decide (t_Hi < s_Lo))
  else
    law02_head_0 && (span_Meet_0 s_Lo s_Hi t_Lo t_Hi == span_Meet_0 t_Lo t_Hi s_Lo s_Hi && (span_Meet_1 s_Lo s_Hi t_Lo t_Hi == span_Meet_1 t_Lo t_Hi s_Lo s_Hi && true)) &&
          span_Meet_2 s_Lo s_Hi t_Lo t_Hi == span_Meet_2 t_Lo t_Hi s_Lo s_Hi &&
        (decide (s_Lo ≤ x) && decide (x ≤ s_Hi) && decide (t_Lo ≤ x) && decide (x ≤ t_Hi)) == (decide (span_Meet_0 s_Lo s_Hi t_Lo t_Hi ≤ x) && decide (x ≤ span_Meet_1 s_Lo s_Hi t_Lo t_Hi)) &&
      span_Valid_0 (span_Meet_0 s_Lo s_Hi t_Lo t_Hi) (span_Meet_1 s_Lo s_Hi t_Lo t_Hi)
def law02_SpanJoined_0 (s_Lo s_Hi t_Lo t_Hi u_Lo u_Hi : Int) : Bool :=
  bif span_Join_2 s_Lo s_Hi t_Lo t_Hi != 0 then law02_head_0 && span_Join_2 s_Lo s_Hi t_Lo t_Hi == 1 && (!span_Valid_0 s_Lo s_Hi || !span_Valid_0 t_Lo t_Hi)
else
  bif span_Within_1 s_Lo s_Hi u_Lo u_Hi != 0 || span_Within_1 t_Lo t_Hi u_Lo u_Hi != 0 then
    law02_head_0 && span_Within_1 s_Lo s_Hi (span_Join_0 s_Lo s_Hi t_Lo t_Hi) (span_Join_1 s_Lo s_Hi t_Lo t_Hi) == 0 &&
              span_Within_1 t_Lo t_Hi (span_Join_0 s_Lo s_Hi t_Lo t_Hi) (span_Join_1 s_Lo s_Hi t_Lo t_Hi) == 0 &&
            span_Within_0 s_Lo s_Hi (span_Join_0 s_Lo s_Hi t_Lo t_Hi) (span_Join_1 s_Lo s_Hi t_Lo t_Hi) &&
          span_Within_0 t_Lo t_Hi (span_Join_0 s_Lo s_Hi t_Lo t_Hi) (span_Join_1 s_Lo s_Hi t_Lo t_Hi) &&
        span_Within_1 s_Lo s_Hi u_Lo u_Hi == span_Within_1 t_Lo t_Hi u_Lo u_Hi &&
      span_Within_1 (span_Join_0 s_Lo s_Hi t_Lo t_Hi) (span_Join_1 s_Lo s_Hi t_Lo t_Hi) u_Lo u_Hi == 1
  else
    law02_head_0 && span_Within_1 s_Lo s_Hi (span_Join_0 s_Lo s_Hi t_Lo t_Hi) (span_Join_1 s_Lo s_Hi t_Lo t_Hi) == 0 &&
              span_Within_1 t_Lo t_Hi (span_Join_0 s_Lo s_Hi t_Lo t_Hi) (span_Join_1 s_Lo s_Hi t_Lo t_Hi) == 0 &&
            span_Within_0 s_Lo s_Hi (span_Join_0 s_Lo s_Hi t_Lo t_Hi) (span_Join_1 s_Lo s_Hi t_Lo t_Hi) &&
          span_Within_0 t_Lo t_Hi (span_Join_0 s_Lo s_Hi t_Lo t_Hi) (span_Join_1 s_Lo s_Hi t_Lo t_Hi) &&
        span_Within_1 (span_Join_0 s_Lo s_Hi t_Lo t_Hi) (span_Join_1 s_Lo s_Hi t_Lo t_Hi) u_Lo u_Hi == 0 &&
      span_Within_0 (span_Join_0 s_Lo s_Hi t_Lo t_Hi) (span_Join_1 s_Lo s_Hi t_Lo t_Hi) u_Lo u_Hi == (span_Within_0 s_Lo s_Hi u_Lo u_Hi && span_Within_0 t_Lo t_Hi u_Lo u_Hi)
def law02_SpanOrder_0 (s_Lo s_Hi t_Lo t_Hi u_Lo u_Hi num den : Int) : Bool :=
  bif span_Within_1 s_Lo s_Hi t_Lo t_Hi != 0 then law02_head_0 && span_Within_1 s_Lo s_Hi t_Lo t_Hi == 1 && span_Within_1 t_Lo t_Hi s_Lo s_Hi == 1
else
  bif span_Within_1 t_Lo t_Hi u_Lo u_Hi == 0 && span_Within_1 s_Lo s_Hi u_Lo u_Hi == 0 then
    bif span_Scale_2 s_Lo s_Hi num den != 0 || span_Scale_2 t_Lo t_Hi num den != 0 || !span_Within_0 s_Lo s_Hi t_Lo t_Hi then
      law02_head_0 && span_Within_1 t_Lo t_Hi s_Lo s_Hi == 0 && (span_Within_0 s_Lo s_Hi t_Lo t_Hi && span_Within_0 t_Lo t_Hi s_Lo s_Hi) == (s_Lo == t_Lo && (s_Hi == t_Hi && true)) &&
        (!span_Within_0 s_Lo s_Hi t_Lo t_Hi || !span_Within_0 t_Lo t_Hi u_Lo u_Hi || span_Within_0 s_Lo s_Hi u_Lo u_Hi)
    else
      law02_head_0 && span_Within_1 t_Lo t_Hi s_Lo s_Hi == 0 && (span_Within_0 s_Lo s_Hi t_Lo t_Hi && span_Within_0 t_Lo t_Hi s_Lo s_Hi) == (s_Lo == t_Lo && (s_Hi == t_Hi && true)) &&
            (!span_Within_0 s_Lo s_Hi t_Lo t_Hi || !span_Within_0 t_Lo t_Hi u_Lo u_Hi || span_Within_0 s_Lo s_Hi u_Lo u_Hi) &&
          span_Within_1 (span_Scale_0 s_Lo s_Hi num den) (span_Scale_1 s_Lo s_Hi num den) (span_Scale_0 t_Lo t_Hi num den) (span_Scale_1 t_Lo t_Hi num den) == 0 &&
        span_Within_0 (span_Scale_0 s_Lo s_Hi num den) (span_Scale_1 s_Lo s_Hi num den) (span_Scale_0 t_Lo t_Hi num den) (span_Scale_1 t_Lo t_Hi num den)
  else
    bif span_Scale_2 s_Lo s_Hi num den != 0 || span_Scale_2 t_Lo t_Hi num den != 0 || !span_Within_0 s_Lo s_Hi t_Lo t_Hi then
      law02_head_0 && span_Within_1 t_Lo t_Hi s_Lo s_Hi == 0 && (span_Within_0 s_Lo s_Hi t_Lo t_Hi && span_Within_0 t_Lo t_Hi s_Lo s_Hi) == (s_Lo == t_Lo && (s_Hi == t_Hi && true))
    else
      law02_head_0 && span_Within_1 t_Lo t_Hi s_Lo s_Hi == 0 && (span_Within_0 s_Lo s_Hi t_Lo t_Hi && span_Within_0 t_Lo t_Hi s_Lo s_Hi) == (s_Lo == t_Lo && (s_Hi == t_Hi && true)) &&
          span_Within_1 (span_Scale_0 s_Lo s_Hi num den) (span_Scale_1 s_Lo s_Hi num den) (span_Scale_0 t_Lo t_Hi num den) (span_Scale_1 t_Lo t_Hi num den) == 0 &&
        span_Within_0 (span_Scale_0 s_Lo s_Hi num den) (span_Scale_1 s_Lo s_Hi num den) (span_Scale_0 t_Lo t_Hi num den) (span_Scale_1 t_Lo t_Hi num den)
def law02_SpanBoxes_0 (a_X_Lo a_X_Hi a_Y_Lo a_Y_Hi b_X_Lo b_X_Hi b_Y_Lo b_Y_Hi p_X p_Y : Int) : Bool :=
  bif span_InBox_1 p_X p_Y a_X_Lo a_X_Hi a_Y_Lo a_Y_Hi != 0 || span_InBox_1 p_X p_Y b_X_Lo b_X_Hi b_Y_Lo b_Y_Hi != 0 then
  law02_head_0 && (span_InBox_1 p_X p_Y a_X_Lo a_X_Hi a_Y_Lo a_Y_Hi == 1 || span_InBox_1 p_X p_Y b_X_Lo b_X_Hi b_Y_Lo b_Y_Hi == 1)
else
  bif span_JoinBox_4 a_X_Lo a_X_Hi a_Y_Lo a_Y_Hi b_X_Lo b_X_Hi b_Y_Lo b_Y_Hi != 0 || span_WithinBox_1 a_X_Lo a_X_Hi a_Y_Lo a_Y_Hi b_X_Lo b_X_Hi b_Y_Lo b_Y_Hi != 0 then false
  else
    bif span_MeetBox_4 a_X_Lo a_X_Hi a_Y_Lo a_Y_Hi b_X_Lo b_X_Hi b_Y_Lo b_Y_Hi != 0 then
      law02_head_0 &&
                span_InBox_1 p_X p_Y (span_JoinBox_0 a_X_Lo a_X_Hi a_Y_Lo a_Y_Hi b_X_Lo b_X_Hi b_Y_Lo b_Y_Hi) (span_JoinBox_1 a_X_Lo a_X_Hi a_Y_Lo a_Y_Hi b_X_Lo b_X_Hi b_Y_Lo b_Y_Hi)
                    (span_JoinBox_2 a_X_Lo a_X_Hi a_Y_Lo a_Y_Hi b_X_Lo b_X_Hi b_Y_Lo b_Y_Hi) (span_JoinBox_3 a_X_Lo a_X_Hi a_Y_Lo a_Y_Hi b_X_Lo b_X_Hi b_Y_Lo b_Y_Hi) ==
                  0 &&
              (!span_InBox_0 p_X p_Y a_X_Lo a_X_Hi a_Y_Lo a_Y_Hi && !span_InBox_0 p_X p_Y b_X_Lo b_X_Hi b_Y_Lo b_Y_Hi ||
                span_InBox_0 p_X p_Y (span_JoinBox_0 a_X_Lo a_X_Hi a_Y_Lo a_Y_Hi b_X_Lo b_X_Hi b_Y_Lo b_Y_Hi) (span_JoinBox_1 a_X_Lo a_X_Hi a_Y_Lo a_Y_Hi b_X_Lo b_X_Hi b_Y_Lo b_Y_Hi)
                  (span_JoinBox_2 a_X_Lo a_X_Hi a_Y_Lo a_Y_Hi b_X_Lo b_X_Hi b_Y_Lo b_Y_Hi) (span_JoinBox_3 a_X_Lo a_X_Hi a_Y_Lo a_Y_Hi b_X_Lo b_X_Hi b_Y_Lo b_Y_Hi)) &&
            (!span_WithinBox_0 a_X_Lo a_X_Hi a_Y_Lo a_Y_Hi b_X_Lo b_X_Hi b_Y_Lo b_Y_Hi || !span_InBox_0 p_X p_Y a_X_Lo a_X_Hi a_Y_Lo a_Y_Hi || span_InBox_0 p_X p_Y b_X_Lo b_X_Hi b_Y_Lo b_Y_Hi) &&
          span_MeetBox_4 a_X_Lo a_X_Hi a_Y_Lo a_Y_Hi b_X_Lo b_X_Hi b_Y_Lo b_Y_Hi == 4 &&
        !(span_InBox_0 p_X p_Y a_X_Lo a_X_Hi a_Y_Lo a_Y_Hi && span_InBox_0 p_X p_Y b_X_Lo b_X_Hi b_Y_Lo b_Y_Hi)
    else
      law02_head_0 &&
                span_InBox_1 p_X p_Y (span_JoinBox_0 a_X_Lo a_X_Hi a_Y_Lo a_Y_Hi b_X_Lo b_X_Hi b_Y_Lo b_Y_Hi) (span_JoinBox_1 a_X_Lo a_X_Hi a_Y_Lo a_Y_Hi b_X_Lo b_X_Hi b_Y_Lo b_Y_Hi)
                    (span_JoinBox_2 a_X_Lo a_X_Hi a_Y_Lo a_Y_Hi b_X_Lo b_X_Hi b_Y_Lo b_Y_Hi) (span_JoinBox_3 a_X_Lo a_X_Hi a_Y_Lo a_Y_Hi b_X_Lo b_X_Hi b_Y_Lo b_Y_Hi) ==
                  0 &&
              (!span_InBox_0 p_X p_Y a_X_Lo a_X_Hi a_Y_Lo a_Y_Hi && !span_InBox_0 p_X p_Y b_X_Lo b_X_Hi b_Y_Lo b_Y_Hi ||
                span_InBox_0 p_X p_Y (span_JoinBox_0 a_X_Lo a_X_Hi a_Y_Lo a_Y_Hi b_X_Lo b_X_Hi b_Y_Lo b_Y_Hi) (span_JoinBox_1 a_X_Lo a_X_Hi a_Y_Lo a_Y_Hi b_X_Lo b_X_Hi b_Y_Lo b_Y_Hi)
                  (span_JoinBox_2 a_X_Lo a_X_Hi a_Y_Lo a_Y_Hi b_X_Lo b_X_Hi b_Y_Lo b_Y_Hi) (span_JoinBox_3 a_X_Lo a_X_Hi a_Y_Lo a_Y_Hi b_X_Lo b_X_Hi b_Y_Lo b_Y_Hi)) &&
            (!span_WithinBox_0 a_X_Lo a_X_Hi a_Y_Lo a_Y_Hi b_X_Lo b_X_Hi b_Y_Lo b_Y_Hi || !span_InBox_0 p_X p_Y a_X_Lo a_X_Hi a_Y_Lo a_Y_Hi || span_InBox_0 p_X p_Y b_X_Lo b_X_Hi b_Y_Lo b_Y_Hi) &&
          span_InBox_1 p_X p_Y (span_MeetBox_0 a_X_Lo a_X_Hi a_Y_Lo a_Y_Hi b_X_Lo b_X_Hi b_Y_Lo b_Y_Hi) (span_MeetBox_1 a_X_Lo a_X_Hi a_Y_Lo a_Y_Hi b_X_Lo b_X_Hi b_Y_Lo b_Y_Hi)
              (span_MeetBox_2 a_X_Lo a_X_Hi a_Y_Lo a_Y_Hi b_X_Lo b_X_Hi b_Y_Lo b_Y_Hi) (span_MeetBox_3 a_X_Lo a_X_Hi a_Y_Lo a_Y_Hi b_X_Lo b_X_Hi b_Y_Lo b_Y_Hi) ==
            0 &&
        span_InBox_0 p_X p_Y (span_MeetBox_0 a_X_Lo a_X_Hi a_Y_Lo a_Y_Hi b_X_Lo b_X_Hi b_Y_Lo b_Y_Hi) (span_MeetBox_1 a_X_Lo a_X_Hi a_Y_Lo a_Y_Hi b_X_Lo b_X_Hi b_Y_Lo b_Y_Hi)
            (span_MeetBox_2 a_X_Lo a_X_Hi a_Y_Lo a_Y_Hi b_X_Lo b_X_Hi b_Y_Lo b_Y_Hi) (span_MeetBox_3 a_X_Lo a_X_Hi a_Y_Lo a_Y_Hi b_X_Lo b_X_Hi b_Y_Lo b_Y_Hi) ==
          (span_InBox_0 p_X p_Y a_X_Lo a_X_Hi a_Y_Lo a_Y_Hi && span_InBox_0 p_X p_Y b_X_Lo b_X_Hi b_Y_Lo b_Y_Hi)
def law02_SpanGrown_0 (b_X_Lo b_X_Hi b_Y_Lo b_Y_Hi p_X p_Y m n : Int) : Bool :=
  bif span_GrowBox_4 b_X_Lo b_X_Hi b_Y_Lo b_Y_Hi n != 0 then law02_head_0 && (span_GrowBox_4 b_X_Lo b_X_Hi b_Y_Lo b_Y_Hi n == 1 || span_GrowBox_4 b_X_Lo b_X_Hi b_Y_Lo b_Y_Hi n == 3)
else
  bif
      span_InBox_1 p_X p_Y (span_GrowBox_0 b_X_Lo b_X_Hi b_Y_Lo b_Y_Hi n) (span_GrowBox_1 b_X_Lo b_X_Hi b_Y_Lo b_Y_Hi n) (span_GrowBox_2 b_X_Lo b_X_Hi b_Y_Lo b_Y_Hi n)
          (span_GrowBox_3 b_X_Lo b_X_Hi b_Y_Lo b_Y_Hi n) ==
        0 then
    bif
        span_GrowBox_4 (span_GrowBox_0 b_X_Lo b_X_Hi b_Y_Lo b_Y_Hi n) (span_GrowBox_1 b_X_Lo b_X_Hi b_Y_Lo b_Y_Hi n) (span_GrowBox_2 b_X_Lo b_X_Hi b_Y_Lo b_Y_Hi n)
            (span_GrowBox_3 b_X_Lo b_X_Hi b_Y_Lo b_Y_Hi n) m !=
          0 then
      law02_head_0 &&
          span_InBox_0 p_X p_Y (span_GrowBox_0 b_X_Lo b_X_Hi b_Y_Lo b_Y_Hi n) (span_GrowBox_1 b_X_Lo b_X_Hi b_Y_Lo b_Y_Hi n) (span_GrowBox_2 b_X_Lo b_X_Hi b_Y_Lo b_Y_Hi n)
              (span_GrowBox_3 b_X_Lo b_X_Hi b_Y_Lo b_Y_Hi n) ==
            (decide (imax (IntKind.i64.wrap (imin (imax p_X b_X_Lo) b_X_Hi - p_X)) (IntKind.i64.wrap (p_X - imin (imax p_X b_X_Lo) b_X_Hi)) ≤ n) &&
              decide (imax (IntKind.i64.wrap (imin (imax p_Y b_Y_Lo) b_Y_Hi - p_Y)) (IntKind.i64.wrap (p_Y - imin (imax p_Y b_Y_Lo) b_Y_Hi)) ≤ n)) &&
        (span_GrowBox_4 (span_GrowBox_0 b_X_Lo b_X_Hi b_Y_Lo b_Y_Hi n) (span_GrowBox_1 b_X_Lo b_X_Hi b_Y_Lo b_Y_Hi n) (span_GrowBox_2 b_X_Lo b_X_Hi b_Y_Lo b_Y_Hi n)
              (span_GrowBox_3 b_X_Lo b_X_Hi b_Y_Lo b_Y_Hi n) m ==
            1 ||
          span_GrowBox_4 (span_GrowBox_0 b_X_Lo b_X_Hi b_Y_Lo b_Y_Hi n) (span_GrowBox_1 b_X_Lo b_X_Hi b_Y_Lo b_Y_Hi n) (span_GrowBox_2 b_X_Lo b_X_Hi b_Y_Lo b_Y_Hi n)
              (span_GrowBox_3 b_X_Lo b_X_Hi b_Y_Lo b_Y_Hi n) m ==
            3)
    else
      law02_head_0 &&
            span_InBox_0 p_X p_Y (span_GrowBox_0 b_X_Lo b_X_Hi b_Y_Lo b_Y_Hi n) (span_GrowBox_1 b_X_Lo b_X_Hi b_Y_Lo b_Y_Hi n) (span_GrowBox_2 b_X_Lo b_X_Hi b_Y_Lo b_Y_Hi n)
                (span_GrowBox_3 b_X_Lo b_X_Hi b_Y_Lo b_Y_Hi n) ==
              (decide (imax (IntKind.i64.wrap (imin (imax p_X b_X_Lo) b_X_Hi - p_X)) (IntKind.i64.wrap (p_X - imin (imax p_X b_X_Lo) b_X_Hi)) ≤ n) &&
                decide (imax (IntKind.i64.wrap (imin (imax p_Y b_Y_Lo) b_Y_Hi - p_Y)) (IntKind.i64.wrap (p_Y - imin (imax p_Y b_Y_Lo) b_Y_Hi)) ≤ n)) &&
          span_GrowBox_4 b_X_Lo b_X_Hi b_Y_Lo b_Y_Hi (IntKind.i64.wrap (m + n)) == 0 &&
        (span_GrowBox_0 b_X_Lo b_X_Hi b_Y_Lo b_Y_Hi (IntKind.i64.wrap (m + n)) ==
              span_GrowBox_0 (span_GrowBox_0 b_X_Lo b_X_Hi b_Y_Lo b_Y_Hi n) (span_GrowBox_1 b_X_Lo b_X_Hi b_Y_Lo b_Y_Hi n) (span_GrowBox_2 b_X_Lo b_X_Hi b_Y_Lo b_Y_Hi n)
                (span_GrowBox_3 b_X_Lo b_X_Hi b_Y_Lo b_Y_Hi n) m &&
            (span_GrowBox_1 b_X_Lo b_X_Hi b_Y_Lo b_Y_Hi (IntKind.i64.wrap (m + n)) ==
                span_GrowBox_1 (span_GrowBox_0 b_X_Lo b_X_Hi b_Y_Lo b_Y_Hi n) (span_GrowBox_1 b_X_Lo b_X_Hi b_Y_Lo b_Y_Hi n) (span_GrowBox_2 b_X_Lo b_X_Hi b_Y_Lo b_Y_Hi n)
                  (span_GrowBox_3 b_X_Lo b_X_Hi b_Y_Lo b_Y_Hi n) m &&
              true) &&
          (span_GrowBox_2 b_X_Lo b_X_Hi b_Y_Lo b_Y_Hi (IntKind.i64.wrap (m + n)) ==
                span_GrowBox_2 (span_GrowBox_0 b_X_Lo b_X_Hi b_Y_Lo b_Y_Hi n) (span_GrowBox_1 b_X_Lo b_X_Hi b_Y_Lo b_Y_Hi n) (span_GrowBox_2 b_X_Lo b_X_Hi b_Y_Lo b_Y_Hi n)
                  (span_GrowBox_3 b_X_Lo b_X_Hi b_Y_Lo b_Y_Hi n) m &&
              (span_GrowBox_3 b_X_Lo b_X_Hi b_Y_Lo b_Y_Hi (IntKind.i64.wrap (m + n)) ==
                  span_GrowBox_3 (span_GrowBox_0 b_X_Lo b_X_Hi b_Y_Lo b_Y_Hi n) (span_GrowBox_1 b_X_Lo b_X_Hi b_Y_Lo b_Y_Hi n) (span_GrowBox_2 b_X_Lo b_X_Hi b_Y_Lo b_Y_Hi n)
                    (span_GrowBox_3 b_X_Lo b_X_Hi b_Y_Lo b_Y_Hi n) m &&
                true) &&
            true))
  else
    bif
        span_GrowBox_4 (span_GrowBox_0 b_X_Lo b_X_Hi b_Y_Lo b_Y_Hi n) (span_GrowBox_1 b_X_Lo b_X_Hi b_Y_Lo b_Y_Hi n) (span_GrowBox_2 b_X_Lo b_X_Hi b_Y_Lo b_Y_Hi n)
            (span_GrowBox_3 b_X_Lo b_X_Hi b_Y_Lo b_Y_Hi n) m !=
          0 then
      law02_head_0 &&
        (span_GrowBox_4 (span_GrowBox_0 b_X_Lo b_X_Hi b_Y_Lo b_Y_Hi n) (span_GrowBox_1 b_X_Lo b_X_Hi b_Y_Lo b_Y_Hi n) (span_GrowBox_2 b_X_Lo b_X_Hi b_Y_Lo b_Y_Hi n)
              (span_GrowBox_3 b_X_Lo b_X_Hi b_Y_Lo b_Y_Hi n) m ==
            1 ||
          span_GrowBox_4 (span_GrowBox_0 b_X_Lo b_X_Hi b_Y_Lo b_Y_Hi n) (span_GrowBox_1 b_X_Lo b_X_Hi b_Y_Lo b_Y_Hi n) (span_GrowBox_2 b_X_Lo b_X_Hi b_Y_Lo b_Y_Hi n)
              (span_GrowBox_3 b_X_Lo b_X_Hi b_Y_Lo b_Y_Hi n) m ==
            3)
    else
      law02_head_0 && span_GrowBox_4 b_X_Lo b_X_Hi b_Y_Lo b_Y_Hi (IntKind.i64.wrap (m + n)) == 0 &&
        (span_GrowBox_0 b_X_Lo b_X_Hi b_Y_Lo b_Y_Hi (IntKind.i64.wrap (m + n)) ==
              span_GrowBox_0 (span_GrowBox_0 b_X_Lo b_X_Hi b_Y_Lo b_Y_Hi n) (span_GrowBox_1 b_X_Lo b_X_Hi b_Y_Lo b_Y_Hi n) (span_GrowBox_2 b_X_Lo b_X_Hi b_Y_Lo b_Y_Hi n)
                (span_GrowBox_3 b_X_Lo b_X_Hi b_Y_Lo b_Y_Hi n) m &&
            (span_GrowBox_1 b_X_Lo b_X_Hi b_Y_Lo b_Y_Hi (IntKind.i64.wrap (m + n)) ==
                span_GrowBox_1 (span_GrowBox_0 b_X_Lo b_X_Hi b_Y_Lo b_Y_Hi n) (span_GrowBox_1 b_X_Lo b_X_Hi b_Y_Lo b_Y_Hi n) (span_GrowBox_2 b_X_Lo b_X_Hi b_Y_Lo b_Y_Hi n)
                  (span_GrowBox_3 b_X_Lo b_X_Hi b_Y_Lo b_Y_Hi n) m &&
              true) &&
          (span_GrowBox_2 b_X_Lo b_X_Hi b_Y_Lo b_Y_Hi (IntKind.i64.wrap (m + n)) ==
                span_GrowBox_2 (span_GrowBox_0 b_X_Lo b_X_Hi b_Y_Lo b_Y_Hi n) (span_GrowBox_1 b_X_Lo b_X_Hi b_Y_Lo b_Y_Hi n) (span_GrowBox_2 b_X_Lo b_X_Hi b_Y_Lo b_Y_Hi n)
                  (span_GrowBox_3 b_X_Lo b_X_Hi b_Y_Lo b_Y_Hi n) m &&
              (span_GrowBox_3 b_X_Lo b_X_Hi b_Y_Lo b_Y_Hi (IntKind.i64.wrap (m + n)) ==
                  span_GrowBox_3 (span_GrowBox_0 b_X_Lo b_X_Hi b_Y_Lo b_Y_Hi n) (span_GrowBox_1 b_X_Lo b_X_Hi b_Y_Lo b_Y_Hi n) (span_GrowBox_2 b_X_Lo b_X_Hi b_Y_Lo b_Y_Hi n)
                    (span_GrowBox_3 b_X_Lo b_X_Hi b_Y_Lo b_Y_Hi n) m &&
                true) &&
            true))
end Go.Proofs.Ytbopeaebdlmapaa
