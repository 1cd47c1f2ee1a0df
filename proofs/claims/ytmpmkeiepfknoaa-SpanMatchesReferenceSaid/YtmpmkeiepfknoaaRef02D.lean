/- Written by program (wip/gen.py): what the Go functions compute, as the executor reads it off their code. -/
import Derived.Test.YtmpmkeiepfknoaaSxA
import Derived.Test.YtmpmkeiepfknoaaSpanD
set_option linter.unusedVariables false
namespace Go.Proofs.Ytmpmkeiepfknoaa
open Go Go.Sx
def ref02_Valid_0 (s_Lo s_Hi : Int) : Bool :=
  decide (s_Lo ≥ -1000000000000) && decide (s_Lo ≤ s_Hi) && decide (s_Hi ≤ 1000000000000)
def ref02_bounded_0 (s_Lo s_Hi : Int) : Int :=
  bif !ref02_Valid_0 s_Lo s_Hi then 0 else s_Lo
def ref02_bounded_1 (s_Lo s_Hi : Int) : Int :=
  bif !ref02_Valid_0 s_Lo s_Hi then 0 else s_Hi
def ref02_bounded_2 (s_Lo s_Hi : Int) : Int :=
  bif !ref02_Valid_0 s_Lo s_Hi then 3 else 0
def ref02_Both_0 (s_Lo s_Hi t_Lo t_Hi : Int) : Bool :=
  ref02_Valid_0 s_Lo s_Hi && ref02_Valid_0 t_Lo t_Hi
def ref02_Add_0 (s_Lo s_Hi t_Lo t_Hi : Int) : Int :=
  bif !ref02_Both_0 s_Lo s_Hi t_Lo t_Hi then 0 else ref02_bounded_0 (IntKind.i64.wrap (s_Lo + t_Lo)) (IntKind.i64.wrap (s_Hi + t_Hi))
def ref02_Add_1 (s_Lo s_Hi t_Lo t_Hi : Int) : Int :=
  bif !ref02_Both_0 s_Lo s_Hi t_Lo t_Hi then 0 else ref02_bounded_1 (IntKind.i64.wrap (s_Lo + t_Lo)) (IntKind.i64.wrap (s_Hi + t_Hi))
def ref02_Add_2 (s_Lo s_Hi t_Lo t_Hi : Int) : Int :=
  bif !ref02_Both_0 s_Lo s_Hi t_Lo t_Hi then 1 else ref02_bounded_2 (IntKind.i64.wrap (s_Lo + t_Lo)) (IntKind.i64.wrap (s_Hi + t_Hi))
def ref02_Sub_0 (s_Lo s_Hi t_Lo t_Hi : Int) : Int :=
  bif !ref02_Both_0 s_Lo s_Hi t_Lo t_Hi then 0 else ref02_bounded_0 (IntKind.i64.wrap (s_Lo - t_Hi)) (IntKind.i64.wrap (s_Hi - t_Lo))
def ref02_Sub_1 (s_Lo s_Hi t_Lo t_Hi : Int) : Int :=
  bif !ref02_Both_0 s_Lo s_Hi t_Lo t_Hi then 0 else ref02_bounded_1 (IntKind.i64.wrap (s_Lo - t_Hi)) (IntKind.i64.wrap (s_Hi - t_Lo))
def ref02_Sub_2 (s_Lo s_Hi t_Lo t_Hi : Int) : Int :=
  bif !ref02_Both_0 s_Lo s_Hi t_Lo t_Hi then 1 else ref02_bounded_2 (IntKind.i64.wrap (s_Lo - t_Hi)) (IntKind.i64.wrap (s_Hi - t_Lo))
def ref02_Scale_pre (s_Lo s_Hi num den : Int) : Prop :=
  (((!ref02_Valid_0 s_Lo s_Hi || decide (num < -1000000) || decide (num > 1000000) || decide (den < 1) || decide (den > 1000000)) = false) → ((((den = 0) → (False)) ∧ ((den = 0) → (False))) ∧ (((den = 0) → (False)) ∧ ((den = 0) → (False)))))
def ref02_Scale_0 (s_Lo s_Hi num den : Int) : Int :=
  bif !ref02_Valid_0 s_Lo s_Hi || decide (num < -1000000) || decide (num > 1000000) || decide (den < 1) || decide (den > 1000000) then 0
else
  ref02_bounded_0
    (bif decide ((imin (IntKind.i64.wrap (s_Lo * num)) (IntKind.i64.wrap (s_Hi * num))).tmod den < 0) then
      IntKind.i64.wrap (IntKind.i64.wrap ((imin (IntKind.i64.wrap (s_Lo * num)) (IntKind.i64.wrap (s_Hi * num))).tdiv den) - 1)
    else IntKind.i64.wrap ((imin (IntKind.i64.wrap (s_Lo * num)) (IntKind.i64.wrap (s_Hi * num))).tdiv den))
    (bif decide ((imax (IntKind.i64.wrap (s_Lo * num)) (IntKind.i64.wrap (s_Hi * num))).tmod den > 0) then
      IntKind.i64.wrap (IntKind.i64.wrap ((imax (IntKind.i64.wrap (s_Lo * num)) (IntKind.i64.wrap (s_Hi * num))).tdiv den) + 1)
    else IntKind.i64.wrap ((imax (IntKind.i64.wrap (s_Lo * num)) (IntKind.i64.wrap (s_Hi * num))).tdiv den))
def ref02_Scale_1 (s_Lo s_Hi num den : Int) : Int :=
  bif !ref02_Valid_0 s_Lo s_Hi || decide (num < -1000000) || decide (num > 1000000) || decide (den < 1) || decide (den > 1000000) then 0
else
  ref02_bounded_1
    (bif decide ((imin (IntKind.i64.wrap (s_Lo * num)) (IntKind.i64.wrap (s_Hi * num))).tmod den < 0) then
      IntKind.i64.wrap (IntKind.i64.wrap ((imin (IntKind.i64.wrap (s_Lo * num)) (IntKind.i64.wrap (s_Hi * num))).tdiv den) - 1)
    else IntKind.i64.wrap ((imin (IntKind.i64.wrap (s_Lo * num)) (IntKind.i64.wrap (s_Hi * num))).tdiv den))
    (bif decide ((imax (IntKind.i64.wrap (s_Lo * num)) (IntKind.i64.wrap (s_Hi * num))).tmod den > 0) then
      IntKind.i64.wrap (IntKind.i64.wrap ((imax (IntKind.i64.wrap (s_Lo * num)) (IntKind.i64.wrap (s_Hi * num))).tdiv den) + 1)
    else IntKind.i64.wrap ((imax (IntKind.i64.wrap (s_Lo * num)) (IntKind.i64.wrap (s_Hi * num))).tdiv den))
def ref02_Scale_2 (s_Lo s_Hi num den : Int) : Int :=
  bif !ref02_Valid_0 s_Lo s_Hi || decide (num < -1000000) || decide (num > 1000000) || decide (den < 1) || decide (den > 1000000) then 1
else
  ref02_bounded_2
    (bif decide ((imin (IntKind.i64.wrap (s_Lo * num)) (IntKind.i64.wrap (s_Hi * num))).tmod den < 0) then
      IntKind.i64.wrap (IntKind.i64.wrap ((imin (IntKind.i64.wrap (s_Lo * num)) (IntKind.i64.wrap (s_Hi * num))).tdiv den) - 1)
    else IntKind.i64.wrap ((imin (IntKind.i64.wrap (s_Lo * num)) (IntKind.i64.wrap (s_Hi * num))).tdiv den))
    (bif decide ((imax (IntKind.i64.wrap (s_Lo * num)) (IntKind.i64.wrap (s_Hi * num))).tmod den > 0) then
      IntKind.i64.wrap (IntKind.i64.wrap ((imax (IntKind.i64.wrap (s_Lo * num)) (IntKind.i64.wrap (s_Hi * num))).tdiv den) + 1)
    else IntKind.i64.wrap ((imax (IntKind.i64.wrap (s_Lo * num)) (IntKind.i64.wrap (s_Hi * num))).tdiv den))
theorem ref02_Scale_pre_ok (s_Lo s_Hi num den : Int) : ref02_Scale_pre s_Lo s_Hi num den := by
  unfold ref02_Scale_pre
  (simp; try omega)
def ref02_Meet_0 (s_Lo s_Hi t_Lo t_Hi : Int) : Int :=
  bif !ref02_Both_0 s_Lo s_Hi t_Lo t_Hi then 0 else bif decide (imax s_Lo t_Lo > imin s_Hi t_Hi) then 0 else imax s_Lo t_Lo
def ref02_Meet_1 (s_Lo s_Hi t_Lo t_Hi : Int) : Int :=
  bif !ref02_Both_0 s_Lo s_Hi t_Lo t_Hi then 0 else bif decide (imax s_Lo t_Lo > imin s_Hi t_Hi) then 0 else imin s_Hi t_Hi
def ref02_Meet_2 (s_Lo s_Hi t_Lo t_Hi : Int) : Int :=
  bif !ref02_Both_0 s_Lo s_Hi t_Lo t_Hi then 1 else bif decide (imax s_Lo t_Lo > imin s_Hi t_Hi) then 4 else 0
def ref02_Join_0 (s_Lo s_Hi t_Lo t_Hi : Int) : Int :=
  bif !ref02_Both_0 s_Lo s_Hi t_Lo t_Hi then 0 else imin s_Lo t_Lo
def ref02_Join_1 (s_Lo s_Hi t_Lo t_Hi : Int) : Int :=
  bif !ref02_Both_0 s_Lo s_Hi t_Lo t_Hi then 0 else imax s_Hi t_Hi
def ref02_Join_2 (s_Lo s_Hi t_Lo t_Hi : Int) : Int :=
  bif !ref02_Both_0 s_Lo s_Hi t_Lo t_Hi then 1 else 0
def ref02_Has_0 (s_Lo s_Hi x : Int) : Bool :=
  decide (s_Lo ≤ x) && decide (x ≤ s_Hi)
def ref02_Within_0 (s_Lo s_Hi t_Lo t_Hi : Int) : Bool :=
  bif !ref02_Both_0 s_Lo s_Hi t_Lo t_Hi then false else decide (t_Lo ≤ s_Lo) && decide (s_Hi ≤ t_Hi)
def ref02_Within_1 (s_Lo s_Hi t_Lo t_Hi : Int) : Int :=
  bif !ref02_Both_0 s_Lo s_Hi t_Lo t_Hi then 1 else 0
def ref02_coords_0 (s_Lo s_Hi : Int) : Bool :=
  decide (s_Lo ≥ -1000000) && decide (s_Lo ≤ s_Hi) && decide (s_Hi ≤ 1000000)
def ref02_ValidBox_0 (b_X_Lo b_X_Hi b_Y_Lo b_Y_Hi : Int) : Bool :=
  ref02_coords_0 b_X_Lo b_X_Hi && ref02_coords_0 b_Y_Lo b_Y_Hi
def ref02_BothBoxes_0 (a_X_Lo a_X_Hi a_Y_Lo a_Y_Hi b_X_Lo b_X_Hi b_Y_Lo b_Y_Hi : Int) : Bool :=
  ref02_ValidBox_0 a_X_Lo a_X_Hi a_Y_Lo a_Y_Hi && ref02_ValidBox_0 b_X_Lo b_X_Hi b_Y_Lo b_Y_Hi
def ref02_Place_0 (p_X p_Y : Int) : Bool :=
  decide (p_X ≥ -1000000) && decide (p_X ≤ 1000000) && decide (p_Y ≥ -1000000) && decide (p_Y ≤ 1000000)
def ref02_Holds_0 (b_X_Lo b_X_Hi b_Y_Lo b_Y_Hi p_X p_Y : Int) : Bool :=
  ref02_Has_0 b_X_Lo b_X_Hi p_X && ref02_Has_0 b_Y_Lo b_Y_Hi p_Y
def ref02_MeetBox_0 (a_X_Lo a_X_Hi a_Y_Lo a_Y_Hi b_X_Lo b_X_Hi b_Y_Lo b_Y_Hi : Int) : Int :=
  bif !ref02_BothBoxes_0 a_X_Lo a_X_Hi a_Y_Lo a_Y_Hi b_X_Lo b_X_Hi b_Y_Lo b_Y_Hi then 0
else bif ref02_Meet_2 a_X_Lo a_X_Hi b_X_Lo b_X_Hi != 0 || ref02_Meet_2 a_Y_Lo a_Y_Hi b_Y_Lo b_Y_Hi != 0 then 0 else ref02_Meet_0 a_X_Lo a_X_Hi b_X_Lo b_X_Hi
def ref02_MeetBox_1 (a_X_Lo a_X_Hi a_Y_Lo a_Y_Hi b_X_Lo b_X_Hi b_Y_Lo b_Y_Hi : Int) : Int :=
  bif !ref02_BothBoxes_0 a_X_Lo a_X_Hi a_Y_Lo a_Y_Hi b_X_Lo b_X_Hi b_Y_Lo b_Y_Hi then 0
else bif ref02_Meet_2 a_X_Lo a_X_Hi b_X_Lo b_X_Hi != 0 || ref02_Meet_2 a_Y_Lo a_Y_Hi b_Y_Lo b_Y_Hi != 0 then 0 else ref02_Meet_1 a_X_Lo a_X_Hi b_X_Lo b_X_Hi
def ref02_MeetBox_2 (a_X_Lo a_X_Hi a_Y_Lo a_Y_Hi b_X_Lo b_X_Hi b_Y_Lo b_Y_Hi : Int) : Int :=
  bif !ref02_BothBoxes_0 a_X_Lo a_X_Hi a_Y_Lo a_Y_Hi b_X_Lo b_X_Hi b_Y_Lo b_Y_Hi then 0
else bif ref02_Meet_2 a_X_Lo a_X_Hi b_X_Lo b_X_Hi != 0 || ref02_Meet_2 a_Y_Lo a_Y_Hi b_Y_Lo b_Y_Hi != 0 then 0 else ref02_Meet_0 a_Y_Lo a_Y_Hi b_Y_Lo b_Y_Hi
def ref02_MeetBox_3 (a_X_Lo a_X_Hi a_Y_Lo a_Y_Hi b_X_Lo b_X_Hi b_Y_Lo b_Y_Hi : Int) : Int :=
  bif !ref02_BothBoxes_0 a_X_Lo a_X_Hi a_Y_Lo a_Y_Hi b_X_Lo b_X_Hi b_Y_Lo b_Y_Hi then 0
else bif ref02_Meet_2 a_X_Lo a_X_Hi b_X_Lo b_X_Hi != 0 || ref02_Meet_2 a_Y_Lo a_Y_Hi b_Y_Lo b_Y_Hi != 0 then 0 else ref02_Meet_1 a_Y_Lo a_Y_Hi b_Y_Lo b_Y_Hi
def ref02_MeetBox_4 (a_X_Lo a_X_Hi a_Y_Lo a_Y_Hi b_X_Lo b_X_Hi b_Y_Lo b_Y_Hi : Int) : Int :=
  bif !ref02_BothBoxes_0 a_X_Lo a_X_Hi a_Y_Lo a_Y_Hi b_X_Lo b_X_Hi b_Y_Lo b_Y_Hi then 1
else bif ref02_Meet_2 a_X_Lo a_X_Hi b_X_Lo b_X_Hi != 0 || ref02_Meet_2 a_Y_Lo a_Y_Hi b_Y_Lo b_Y_Hi != 0 then 4 else 0
def ref02_JoinBox_0 (a_X_Lo a_X_Hi a_Y_Lo a_Y_Hi b_X_Lo b_X_Hi b_Y_Lo b_Y_Hi : Int) : Int :=
  bif !ref02_BothBoxes_0 a_X_Lo a_X_Hi a_Y_Lo a_Y_Hi b_X_Lo b_X_Hi b_Y_Lo b_Y_Hi then 0 else ref02_Join_0 a_X_Lo a_X_Hi b_X_Lo b_X_Hi
def ref02_JoinBox_1 (a_X_Lo a_X_Hi a_Y_Lo a_Y_Hi b_X_Lo b_X_Hi b_Y_Lo b_Y_Hi : Int) : Int :=
  bif !ref02_BothBoxes_0 a_X_Lo a_X_Hi a_Y_Lo a_Y_Hi b_X_Lo b_X_Hi b_Y_Lo b_Y_Hi then 0 else ref02_Join_1 a_X_Lo a_X_Hi b_X_Lo b_X_Hi
def ref02_JoinBox_2 (a_X_Lo a_X_Hi a_Y_Lo a_Y_Hi b_X_Lo b_X_Hi b_Y_Lo b_Y_Hi : Int) : Int :=
  bif !ref02_BothBoxes_0 a_X_Lo a_X_Hi a_Y_Lo a_Y_Hi b_X_Lo b_X_Hi b_Y_Lo b_Y_Hi then 0 else ref02_Join_0 a_Y_Lo a_Y_Hi b_Y_Lo b_Y_Hi
def ref02_JoinBox_3 (a_X_Lo a_X_Hi a_Y_Lo a_Y_Hi b_X_Lo b_X_Hi b_Y_Lo b_Y_Hi : Int) : Int :=
  bif !ref02_BothBoxes_0 a_X_Lo a_X_Hi a_Y_Lo a_Y_Hi b_X_Lo b_X_Hi b_Y_Lo b_Y_Hi then 0 else ref02_Join_1 a_Y_Lo a_Y_Hi b_Y_Lo b_Y_Hi
def ref02_JoinBox_4 (a_X_Lo a_X_Hi a_Y_Lo a_Y_Hi b_X_Lo b_X_Hi b_Y_Lo b_Y_Hi : Int) : Int :=
  bif !ref02_BothBoxes_0 a_X_Lo a_X_Hi a_Y_Lo a_Y_Hi b_X_Lo b_X_Hi b_Y_Lo b_Y_Hi then 1 else 0
def ref02_WithinBox_0 (a_X_Lo a_X_Hi a_Y_Lo a_Y_Hi b_X_Lo b_X_Hi b_Y_Lo b_Y_Hi : Int) : Bool :=
  bif !ref02_BothBoxes_0 a_X_Lo a_X_Hi a_Y_Lo a_Y_Hi b_X_Lo b_X_Hi b_Y_Lo b_Y_Hi then false else ref02_Within_0 a_X_Lo a_X_Hi b_X_Lo b_X_Hi && ref02_Within_0 a_Y_Lo a_Y_Hi b_Y_Lo b_Y_Hi
def ref02_WithinBox_1 (a_X_Lo a_X_Hi a_Y_Lo a_Y_Hi b_X_Lo b_X_Hi b_Y_Lo b_Y_Hi : Int) : Int :=
  bif !ref02_BothBoxes_0 a_X_Lo a_X_Hi a_Y_Lo a_Y_Hi b_X_Lo b_X_Hi b_Y_Lo b_Y_Hi then 1 else 0
def ref02_InBox_0 (p_X p_Y b_X_Lo b_X_Hi b_Y_Lo b_Y_Hi : Int) : Bool :=
  bif !ref02_Place_0 p_X p_Y || !ref02_ValidBox_0 b_X_Lo b_X_Hi b_Y_Lo b_Y_Hi then false else ref02_Holds_0 b_X_Lo b_X_Hi b_Y_Lo b_Y_Hi p_X p_Y
def ref02_InBox_1 (p_X p_Y b_X_Lo b_X_Hi b_Y_Lo b_Y_Hi : Int) : Int :=
  bif !ref02_Place_0 p_X p_Y || !ref02_ValidBox_0 b_X_Lo b_X_Hi b_Y_Lo b_Y_Hi then 1 else 0
def ref02_GrowBox_0 (b_X_Lo b_X_Hi b_Y_Lo b_Y_Hi n : Int) : Int :=
  bif !ref02_ValidBox_0 b_X_Lo b_X_Hi b_Y_Lo b_Y_Hi || decide (n < 0) || decide (n > 3000000) then 0
else bif !ref02_ValidBox_0 (IntKind.i64.wrap (b_X_Lo - n)) (IntKind.i64.wrap (b_X_Hi + n)) (IntKind.i64.wrap (b_Y_Lo - n)) (IntKind.i64.wrap (b_Y_Hi + n)) then 0 else IntKind.i64.wrap (b_X_Lo - n)
def ref02_GrowBox_1 (b_X_Lo b_X_Hi b_Y_Lo b_Y_Hi n : Int) : Int :=
  bif !ref02_ValidBox_0 b_X_Lo b_X_Hi b_Y_Lo b_Y_Hi || decide (n < 0) || decide (n > 3000000) then 0
else bif !ref02_ValidBox_0 (IntKind.i64.wrap (b_X_Lo - n)) (IntKind.i64.wrap (b_X_Hi + n)) (IntKind.i64.wrap (b_Y_Lo - n)) (IntKind.i64.wrap (b_Y_Hi + n)) then 0 else IntKind.i64.wrap (b_X_Hi + n)
def ref02_GrowBox_2 (b_X_Lo b_X_Hi b_Y_Lo b_Y_Hi n : Int) : Int :=
  bif !ref02_ValidBox_0 b_X_Lo b_X_Hi b_Y_Lo b_Y_Hi || decide (n < 0) || decide (n > 3000000) then 0
else bif !ref02_ValidBox_0 (IntKind.i64.wrap (b_X_Lo - n)) (IntKind.i64.wrap (b_X_Hi + n)) (IntKind.i64.wrap (b_Y_Lo - n)) (IntKind.i64.wrap (b_Y_Hi + n)) then 0 else IntKind.i64.wrap (b_Y_Lo - n)
def ref02_GrowBox_3 (b_X_Lo b_X_Hi b_Y_Lo b_Y_Hi n : Int) : Int :=
  bif !ref02_ValidBox_0 b_X_Lo b_X_Hi b_Y_Lo b_Y_Hi || decide (n < 0) || decide (n > 3000000) then 0
else bif !ref02_ValidBox_0 (IntKind.i64.wrap (b_X_Lo - n)) (IntKind.i64.wrap (b_X_Hi + n)) (IntKind.i64.wrap (b_Y_Lo - n)) (IntKind.i64.wrap (b_Y_Hi + n)) then 0 else IntKind.i64.wrap (b_Y_Hi + n)
def ref02_GrowBox_4 (b_X_Lo b_X_Hi b_Y_Lo b_Y_Hi n : Int) : Int :=
  bif !ref02_ValidBox_0 b_X_Lo b_X_Hi b_Y_Lo b_Y_Hi || decide (n < 0) || decide (n > 3000000) then 1
else bif !ref02_ValidBox_0 (IntKind.i64.wrap (b_X_Lo - n)) (IntKind.i64.wrap (b_X_Hi + n)) (IntKind.i64.wrap (b_Y_Lo - n)) (IntKind.i64.wrap (b_Y_Hi + n)) then 3 else 0
def law02_SpanMatchesReference_0 (s_Lo s_Hi t_Lo t_Hi num den a_X_Lo a_X_Hi a_Y_Lo a_Y_Hi b_X_Lo b_X_Hi b_Y_Lo b_Y_Hi n p_X p_Y : Int) : Bool :=
  law02_head_0 && span_Valid_0 s_Lo s_Hi == ref02_Valid_0 s_Lo s_Hi && span_ValidBox_0 a_X_Lo a_X_Hi a_Y_Lo a_Y_Hi == ref02_ValidBox_0 a_X_Lo a_X_Hi a_Y_Lo a_Y_Hi &&
                                            (span_Add_0 s_Lo s_Hi t_Lo t_Hi == ref02_Add_0 s_Lo s_Hi t_Lo t_Hi && (span_Add_1 s_Lo s_Hi t_Lo t_Hi == ref02_Add_1 s_Lo s_Hi t_Lo t_Hi && true)) &&
                                          span_Add_2 s_Lo s_Hi t_Lo t_Hi == ref02_Add_2 s_Lo s_Hi t_Lo t_Hi &&
                                        (span_Sub_0 s_Lo s_Hi t_Lo t_Hi == ref02_Sub_0 s_Lo s_Hi t_Lo t_Hi && (span_Sub_1 s_Lo s_Hi t_Lo t_Hi == ref02_Sub_1 s_Lo s_Hi t_Lo t_Hi && true)) &&
                                      span_Sub_2 s_Lo s_Hi t_Lo t_Hi == ref02_Sub_2 s_Lo s_Hi t_Lo t_Hi &&
                                    (span_Scale_0 s_Lo s_Hi num den == ref02_Scale_0 s_Lo s_Hi num den && (span_Scale_1 s_Lo s_Hi num den == ref02_Scale_1 s_Lo s_Hi num den && true)) &&
                                  span_Scale_2 s_Lo s_Hi num den == ref02_Scale_2 s_Lo s_Hi num den &&
                                (span_Meet_0 s_Lo s_Hi t_Lo t_Hi == ref02_Meet_0 s_Lo s_Hi t_Lo t_Hi && (span_Meet_1 s_Lo s_Hi t_Lo t_Hi == ref02_Meet_1 s_Lo s_Hi t_Lo t_Hi && true)) &&
                              span_Meet_2 s_Lo s_Hi t_Lo t_Hi == ref02_Meet_2 s_Lo s_Hi t_Lo t_Hi &&
                            (span_Join_0 s_Lo s_Hi t_Lo t_Hi == ref02_Join_0 s_Lo s_Hi t_Lo t_Hi && (span_Join_1 s_Lo s_Hi t_Lo t_Hi == ref02_Join_1 s_Lo s_Hi t_Lo t_Hi && true)) &&
                          span_Join_2 s_Lo s_Hi t_Lo t_Hi == ref02_Join_2 s_Lo s_Hi t_Lo t_Hi &&
                        span_Within_0 s_Lo s_Hi t_Lo t_Hi == ref02_Within_0 s_Lo s_Hi t_Lo t_Hi &&
                      span_Within_1 s_Lo s_Hi t_Lo t_Hi == ref02_Within_1 s_Lo s_Hi t_Lo t_Hi &&
                    (span_MeetBox_0 a_X_Lo a_X_Hi a_Y_Lo a_Y_Hi b_X_Lo b_X_Hi b_Y_Lo b_Y_Hi == ref02_MeetBox_0 a_X_Lo a_X_Hi a_Y_Lo a_Y_Hi b_X_Lo b_X_Hi b_Y_Lo b_Y_Hi &&
                        (span_MeetBox_1 a_X_Lo a_X_Hi a_Y_Lo a_Y_Hi b_X_Lo b_X_Hi b_Y_Lo b_Y_Hi == ref02_MeetBox_1 a_X_Lo a_X_Hi a_Y_Lo a_Y_Hi b_X_Lo b_X_Hi b_Y_Lo b_Y_Hi && true) &&
                      (span_MeetBox_2 a_X_Lo a_X_Hi a_Y_Lo a_Y_Hi b_X_Lo b_X_Hi b_Y_Lo b_Y_Hi == ref02_MeetBox_2 a_X_Lo a_X_Hi a_Y_Lo a_Y_Hi b_X_Lo b_X_Hi b_Y_Lo b_Y_Hi &&
                          (span_MeetBox_3 a_X_Lo a_X_Hi a_Y_Lo a_Y_Hi b_X_Lo b_X_Hi b_Y_Lo b_Y_Hi == ref02_MeetBox_3 a_X_Lo a_X_Hi a_Y_Lo a_Y_Hi b_X_Lo b_X_Hi b_Y_Lo b_Y_Hi && true) &&
                        true)) &&
                  span_MeetBox_4 a_X_Lo a_X_Hi a_Y_Lo a_Y_Hi b_X_Lo b_X_Hi b_Y_Lo b_Y_Hi == ref02_MeetBox_4 a_X_Lo a_X_Hi a_Y_Lo a_Y_Hi b_X_Lo b_X_Hi b_Y_Lo b_Y_Hi &&
                (span_JoinBox_0 a_X_Lo a_X_Hi a_Y_Lo a_Y_Hi b_X_Lo b_X_Hi b_Y_Lo b_Y_Hi == ref02_JoinBox_0 a_X_Lo a_X_Hi a_Y_Lo a_Y_Hi b_X_Lo b_X_Hi b_Y_Lo b_Y_Hi &&
                    (span_JoinBox_1 a_X_Lo a_X_Hi a_Y_Lo a_Y_Hi b_X_Lo b_X_Hi b_Y_Lo b_Y_Hi == ref02_JoinBox_1 a_X_Lo a_X_Hi a_Y_Lo a_Y_Hi b_X_Lo b_X_Hi b_Y_Lo b_Y_Hi && true) &&
                  (span_JoinBox_2 a_X_Lo a_X_Hi a_Y_Lo a_Y_Hi b_X_Lo b_X_Hi b_Y_Lo b_Y_Hi == ref02_JoinBox_2 a_X_Lo a_X_Hi a_Y_Lo a_Y_Hi b_X_Lo b_X_Hi b_Y_Lo b_Y_Hi &&
                      (span_JoinBox_3 a_X_Lo a_X_Hi a_Y_Lo a_Y_Hi b_X_Lo b_X_Hi b_Y_Lo b_Y_Hi == ref02_JoinBox_3 a_X_Lo a_X_Hi a_Y_Lo a_Y_Hi b_X_Lo b_X_Hi b_Y_Lo b_Y_Hi && true) &&
                    true)) &&
              span_JoinBox_4 a_X_Lo a_X_Hi a_Y_Lo a_Y_Hi b_X_Lo b_X_Hi b_Y_Lo b_Y_Hi == ref02_JoinBox_4 a_X_Lo a_X_Hi a_Y_Lo a_Y_Hi b_X_Lo b_X_Hi b_Y_Lo b_Y_Hi &&
            (span_GrowBox_0 a_X_Lo a_X_Hi a_Y_Lo a_Y_Hi n == ref02_GrowBox_0 a_X_Lo a_X_Hi a_Y_Lo a_Y_Hi n &&
                (span_GrowBox_1 a_X_Lo a_X_Hi a_Y_Lo a_Y_Hi n == ref02_GrowBox_1 a_X_Lo a_X_Hi a_Y_Lo a_Y_Hi n && true) &&
              (span_GrowBox_2 a_X_Lo a_X_Hi a_Y_Lo a_Y_Hi n == ref02_GrowBox_2 a_X_Lo a_X_Hi a_Y_Lo a_Y_Hi n &&
                  (span_GrowBox_3 a_X_Lo a_X_Hi a_Y_Lo a_Y_Hi n == ref02_GrowBox_3 a_X_Lo a_X_Hi a_Y_Lo a_Y_Hi n && true) &&
                true)) &&
          span_GrowBox_4 a_X_Lo a_X_Hi a_Y_Lo a_Y_Hi n == ref02_GrowBox_4 a_X_Lo a_X_Hi a_Y_Lo a_Y_Hi n &&
        span_InBox_0 p_X p_Y a_X_Lo a_X_Hi a_Y_Lo a_Y_Hi == ref02_InBox_0 p_X p_Y a_X_Lo a_X_Hi a_Y_Lo a_Y_Hi &&
      span_InBox_1 p_X p_Y a_X_Lo a_X_Hi a_Y_Lo a_Y_Hi == ref02_InBox_1 p_X p_Y a_X_Lo a_X_Hi a_Y_Lo a_Y_Hi &&
    span_WithinBox_0 a_X_Lo a_X_Hi a_Y_Lo a_Y_Hi b_X_Lo b_X_Hi b_Y_Lo b_Y_Hi == ref02_WithinBox_0 a_X_Lo a_X_Hi a_Y_Lo a_Y_Hi b_X_Lo b_X_Hi b_Y_Lo b_Y_Hi &&
  span_WithinBox_1 a_X_Lo a_X_Hi a_Y_Lo a_Y_Hi b_X_Lo b_X_Hi b_Y_Lo b_Y_Hi == ref02_WithinBox_1 a_X_Lo a_X_Hi a_Y_Lo a_Y_Hi b_X_Lo b_X_Hi b_Y_Lo b_Y_Hi
end Go.Proofs.Ytmpmkeiepfknoaa
