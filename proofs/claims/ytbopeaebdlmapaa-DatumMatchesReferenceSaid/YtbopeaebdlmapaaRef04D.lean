/- Written by program (wip/gen.py): what the Go functions compute, as the executor reads it off their code. -/
import Derived.Test.YtbopeaebdlmapaaSxA
set_option linter.unusedVariables false
namespace Go.Proofs.Ytbopeaebdlmapaa
open Go Go.Sx
def ref01_Valid_0 (p_X p_Y : Int) : Bool :=
  decide (p_X ≥ -1000000) && decide (p_X ≤ 1000000) && decide (p_Y ≥ -1000000) && decide (p_Y ≤ 1000000)
def ref04_Factor_0 (n : Int) : Bool :=
  decide (n ≥ -2000000) && decide (n ≤ 2000000)
def ref04_Det_0 (m_A m_B m_C m_D m_E m_F m_Residue : Int) : Int :=
  IntKind.i64.wrap (IntKind.i64.wrap (m_A * m_E) - IntKind.i64.wrap (m_B * m_D))
def ref04_Valid_0 (m_A m_B m_C m_D m_E m_F m_Residue : Int) : Bool :=
  bif !ref04_Factor_0 m_A || !ref04_Factor_0 m_B || !ref04_Factor_0 m_D || !ref04_Factor_0 m_E || decide (ref04_Det_0 m_A m_B m_C m_D m_E m_F m_Residue < 250000000000) then false
else decide (m_C ≥ -100000) && decide (m_C ≤ 100000) && decide (m_F ≥ -100000) && decide (m_F ≤ 100000) && decide (m_Residue ≥ 0) && decide (m_Residue ≤ 1000)
def ref04_Down_pre (a b : Int) : Prop :=
  ((((b : Int) = 0) → (False)) ∧ (((b : Int) = 0) → (False)))
def ref04_Down_0 (a b : Int) : Int :=
  bif decide (a.tmod b < 0) then IntKind.i64.wrap (IntKind.i64.wrap (a.tdiv b) - 1) else IntKind.i64.wrap (a.tdiv b)
def ref04_Up_pre (a b : Int) : Prop :=
  ((((b : Int) = 0) → (False)) ∧ (((b : Int) = 0) → (False)))
def ref04_Up_0 (a b : Int) : Int :=
  IntKind.i64.wrap (0 - ref04_Down_0 (IntKind.i64.wrap (0 - a)) b)
def ref04_Round_pre (a b : Int) : Prop :=
  ((((b : Int) = 0) → (False)) ∧ (((b : Int) = 0) → (False)))
def ref04_Round_0 (a b : Int) : Int :=
  bif decide (IntKind.i64.wrap (2 * IntKind.i64.wrap (a - IntKind.i64.wrap (ref04_Down_0 a b * b))) ≥ b) then IntKind.i64.wrap (ref04_Down_0 a b + 1) else ref04_Down_0 a b
def ref04_Ends_0 (s_Lo s_Hi : Int) : Bool :=
  decide (s_Lo ≥ -1000000) && decide (s_Lo ≤ s_Hi) && decide (s_Hi ≤ 1000000)
def ref04_Box_0 (b_X_Lo b_X_Hi b_Y_Lo b_Y_Hi : Int) : Bool :=
  ref04_Ends_0 b_X_Lo b_X_Hi && ref04_Ends_0 b_Y_Lo b_Y_Hi
def ref04_Fits_0 (m_A m_B m_C m_D m_E m_F m_Residue p_X p_Y q_X q_Y : Int) : Bool :=
  bif !ref04_Valid_0 m_A m_B m_C m_D m_E m_F m_Residue || !ref01_Valid_0 p_X p_Y || !ref01_Valid_0 q_X q_Y then false
else
  decide
          (IntKind.i64.wrap (IntKind.i64.wrap (IntKind.i64.wrap (IntKind.i64.wrap (q_X - m_C) * 1000000) - IntKind.i64.wrap (m_A * p_X)) - IntKind.i64.wrap (m_B * p_Y)) ≥
            IntKind.i64.wrap (0 - IntKind.i64.wrap (m_Residue * 1000000))) &&
        decide
          (IntKind.i64.wrap (IntKind.i64.wrap (IntKind.i64.wrap (IntKind.i64.wrap (q_X - m_C) * 1000000) - IntKind.i64.wrap (m_A * p_X)) - IntKind.i64.wrap (m_B * p_Y)) ≤
            IntKind.i64.wrap (m_Residue * 1000000)) &&
      decide
        (IntKind.i64.wrap (IntKind.i64.wrap (IntKind.i64.wrap (IntKind.i64.wrap (q_Y - m_F) * 1000000) - IntKind.i64.wrap (m_D * p_X)) - IntKind.i64.wrap (m_E * p_Y)) ≥
          IntKind.i64.wrap (0 - IntKind.i64.wrap (m_Residue * 1000000))) &&
    decide
      (IntKind.i64.wrap (IntKind.i64.wrap (IntKind.i64.wrap (IntKind.i64.wrap (q_Y - m_F) * 1000000) - IntKind.i64.wrap (m_D * p_X)) - IntKind.i64.wrap (m_E * p_Y)) ≤
        IntKind.i64.wrap (m_Residue * 1000000))
def ref04_Fits_1 (m_A m_B m_C m_D m_E m_F m_Residue p_X p_Y q_X q_Y : Int) : Int :=
  bif !ref04_Valid_0 m_A m_B m_C m_D m_E m_F m_Residue || !ref01_Valid_0 p_X p_Y || !ref01_Valid_0 q_X q_Y then 1 else 0
def ref04_Times_0 (n s_Lo s_Hi : Int) : Int :=
  imin (IntKind.i64.wrap (n * s_Lo)) (IntKind.i64.wrap (n * s_Hi))
def ref04_Times_1 (n s_Lo s_Hi : Int) : Int :=
  imax (IntKind.i64.wrap (n * s_Lo)) (IntKind.i64.wrap (n * s_Hi))
def ref04_Row_pre (a b c residue x_X_Lo x_X_Hi x_Y_Lo x_Y_Hi : Int) : Prop :=
  (((((1000000 : Int) = 0) → (False)) ∧ (((1000000 : Int) = 0) → (False))) ∧ ((((1000000 : Int) = 0) → (False)) ∧ (((1000000 : Int) = 0) → (False))))
def ref04_Row_0 (a b c residue x_X_Lo x_X_Hi x_Y_Lo x_Y_Hi : Int) : Int :=
  IntKind.i64.wrap (IntKind.i64.wrap (ref04_Down_0 (IntKind.i64.wrap (ref04_Times_0 a x_X_Lo x_X_Hi + ref04_Times_0 b x_Y_Lo x_Y_Hi)) 1000000 + c) - residue)
def ref04_Row_1 (a b c residue x_X_Lo x_X_Hi x_Y_Lo x_Y_Hi : Int) : Int :=
  IntKind.i64.wrap (IntKind.i64.wrap (ref04_Up_0 (IntKind.i64.wrap (ref04_Times_1 a x_X_Lo x_X_Hi + ref04_Times_1 b x_Y_Lo x_Y_Hi)) 1000000 + c) + residue)
theorem ref04_Row_pre_ok (a b c residue x_X_Lo x_X_Hi x_Y_Lo x_Y_Hi : Int) : ref04_Row_pre a b c residue x_X_Lo x_X_Hi x_Y_Lo x_Y_Hi := by
  unfold ref04_Row_pre
  (first | (simp; done) | (simp; omega) | (simp [IntKind.wrap_i64]; done) | (simp [IntKind.wrap_i64]; omega))
def ref04_Carry_0 (m_A m_B m_C m_D m_E m_F m_Residue b_X_Lo b_X_Hi b_Y_Lo b_Y_Hi : Int) : Int :=
  bif !ref04_Valid_0 m_A m_B m_C m_D m_E m_F m_Residue || !ref04_Box_0 b_X_Lo b_X_Hi b_Y_Lo b_Y_Hi then 0
else
  bif
      !ref04_Box_0 (ref04_Row_0 m_A m_B m_C m_Residue b_X_Lo b_X_Hi b_Y_Lo b_Y_Hi) (ref04_Row_1 m_A m_B m_C m_Residue b_X_Lo b_X_Hi b_Y_Lo b_Y_Hi)
          (ref04_Row_0 m_D m_E m_F m_Residue b_X_Lo b_X_Hi b_Y_Lo b_Y_Hi) (ref04_Row_1 m_D m_E m_F m_Residue b_X_Lo b_X_Hi b_Y_Lo b_Y_Hi) then
    0
  else ref04_Row_0 m_A m_B m_C m_Residue b_X_Lo b_X_Hi b_Y_Lo b_Y_Hi
def ref04_Carry_1 (m_A m_B m_C m_D m_E m_F m_Residue b_X_Lo b_X_Hi b_Y_Lo b_Y_Hi : Int) : Int :=
  bif !ref04_Valid_0 m_A m_B m_C m_D m_E m_F m_Residue || !ref04_Box_0 b_X_Lo b_X_Hi b_Y_Lo b_Y_Hi then 0
else
  bif
      !ref04_Box_0 (ref04_Row_0 m_A m_B m_C m_Residue b_X_Lo b_X_Hi b_Y_Lo b_Y_Hi) (ref04_Row_1 m_A m_B m_C m_Residue b_X_Lo b_X_Hi b_Y_Lo b_Y_Hi)
          (ref04_Row_0 m_D m_E m_F m_Residue b_X_Lo b_X_Hi b_Y_Lo b_Y_Hi) (ref04_Row_1 m_D m_E m_F m_Residue b_X_Lo b_X_Hi b_Y_Lo b_Y_Hi) then
    0
  else ref04_Row_1 m_A m_B m_C m_Residue b_X_Lo b_X_Hi b_Y_Lo b_Y_Hi
def ref04_Carry_2 (m_A m_B m_C m_D m_E m_F m_Residue b_X_Lo b_X_Hi b_Y_Lo b_Y_Hi : Int) : Int :=
  bif !ref04_Valid_0 m_A m_B m_C m_D m_E m_F m_Residue || !ref04_Box_0 b_X_Lo b_X_Hi b_Y_Lo b_Y_Hi then 0
else
  bif
      !ref04_Box_0 (ref04_Row_0 m_A m_B m_C m_Residue b_X_Lo b_X_Hi b_Y_Lo b_Y_Hi) (ref04_Row_1 m_A m_B m_C m_Residue b_X_Lo b_X_Hi b_Y_Lo b_Y_Hi)
          (ref04_Row_0 m_D m_E m_F m_Residue b_X_Lo b_X_Hi b_Y_Lo b_Y_Hi) (ref04_Row_1 m_D m_E m_F m_Residue b_X_Lo b_X_Hi b_Y_Lo b_Y_Hi) then
    0
  else ref04_Row_0 m_D m_E m_F m_Residue b_X_Lo b_X_Hi b_Y_Lo b_Y_Hi
def ref04_Carry_3 (m_A m_B m_C m_D m_E m_F m_Residue b_X_Lo b_X_Hi b_Y_Lo b_Y_Hi : Int) : Int :=
  bif !ref04_Valid_0 m_A m_B m_C m_D m_E m_F m_Residue || !ref04_Box_0 b_X_Lo b_X_Hi b_Y_Lo b_Y_Hi then 0
else
  bif
      !ref04_Box_0 (ref04_Row_0 m_A m_B m_C m_Residue b_X_Lo b_X_Hi b_Y_Lo b_Y_Hi) (ref04_Row_1 m_A m_B m_C m_Residue b_X_Lo b_X_Hi b_Y_Lo b_Y_Hi)
          (ref04_Row_0 m_D m_E m_F m_Residue b_X_Lo b_X_Hi b_Y_Lo b_Y_Hi) (ref04_Row_1 m_D m_E m_F m_Residue b_X_Lo b_X_Hi b_Y_Lo b_Y_Hi) then
    0
  else ref04_Row_1 m_D m_E m_F m_Residue b_X_Lo b_X_Hi b_Y_Lo b_Y_Hi
def ref04_Carry_4 (m_A m_B m_C m_D m_E m_F m_Residue b_X_Lo b_X_Hi b_Y_Lo b_Y_Hi : Int) : Int :=
  bif !ref04_Valid_0 m_A m_B m_C m_D m_E m_F m_Residue || !ref04_Box_0 b_X_Lo b_X_Hi b_Y_Lo b_Y_Hi then 1
else
  bif
      !ref04_Box_0 (ref04_Row_0 m_A m_B m_C m_Residue b_X_Lo b_X_Hi b_Y_Lo b_Y_Hi) (ref04_Row_1 m_A m_B m_C m_Residue b_X_Lo b_X_Hi b_Y_Lo b_Y_Hi)
          (ref04_Row_0 m_D m_E m_F m_Residue b_X_Lo b_X_Hi b_Y_Lo b_Y_Hi) (ref04_Row_1 m_D m_E m_F m_Residue b_X_Lo b_X_Hi b_Y_Lo b_Y_Hi) then
    3
  else 0
def ref04_One_0 (p_X p_Y : Int) : Int :=
  p_X
def ref04_One_1 (p_X p_Y : Int) : Int :=
  p_X
def ref04_One_2 (p_X p_Y : Int) : Int :=
  p_Y
def ref04_One_3 (p_X p_Y : Int) : Int :=
  p_Y
def ref04_Apply_0 (m_A m_B m_C m_D m_E m_F m_Residue p_X p_Y : Int) : Int :=
  bif !ref01_Valid_0 p_X p_Y then 0 else ref04_Carry_0 m_A m_B m_C m_D m_E m_F m_Residue (ref04_One_0 p_X p_Y) (ref04_One_1 p_X p_Y) (ref04_One_2 p_X p_Y) (ref04_One_3 p_X p_Y)
def ref04_Apply_1 (m_A m_B m_C m_D m_E m_F m_Residue p_X p_Y : Int) : Int :=
  bif !ref01_Valid_0 p_X p_Y then 0 else ref04_Carry_1 m_A m_B m_C m_D m_E m_F m_Residue (ref04_One_0 p_X p_Y) (ref04_One_1 p_X p_Y) (ref04_One_2 p_X p_Y) (ref04_One_3 p_X p_Y)
def ref04_Apply_2 (m_A m_B m_C m_D m_E m_F m_Residue p_X p_Y : Int) : Int :=
  bif !ref01_Valid_0 p_X p_Y then 0 else ref04_Carry_2 m_A m_B m_C m_D m_E m_F m_Residue (ref04_One_0 p_X p_Y) (ref04_One_1 p_X p_Y) (ref04_One_2 p_X p_Y) (ref04_One_3 p_X p_Y)
def ref04_Apply_3 (m_A m_B m_C m_D m_E m_F m_Residue p_X p_Y : Int) : Int :=
  bif !ref01_Valid_0 p_X p_Y then 0 else ref04_Carry_3 m_A m_B m_C m_D m_E m_F m_Residue (ref04_One_0 p_X p_Y) (ref04_One_1 p_X p_Y) (ref04_One_2 p_X p_Y) (ref04_One_3 p_X p_Y)
def ref04_Apply_4 (m_A m_B m_C m_D m_E m_F m_Residue p_X p_Y : Int) : Int :=
  bif !ref01_Valid_0 p_X p_Y then 1 else ref04_Carry_4 m_A m_B m_C m_D m_E m_F m_Residue (ref04_One_0 p_X p_Y) (ref04_One_1 p_X p_Y) (ref04_One_2 p_X p_Y) (ref04_One_3 p_X p_Y)
def ref04_Column_pre (a u_Lo u_Hi b v_Lo v_Hi d : Int) : Prop :=
  (((((d : Int) = 0) → (False)) ∧ (((d : Int) = 0) → (False))) ∧ ((((d : Int) = 0) → (False)) ∧ (((d : Int) = 0) → (False))))
def ref04_Column_0 (a u_Lo u_Hi b v_Lo v_Hi d : Int) : Int :=
  imax (-1000000) (ref04_Up_0 (IntKind.i64.wrap (1000000 * IntKind.i64.wrap (ref04_Times_0 a u_Lo u_Hi + ref04_Times_0 b v_Lo v_Hi))) d)
def ref04_Column_1 (a u_Lo u_Hi b v_Lo v_Hi d : Int) : Int :=
  imin 1000000 (ref04_Down_0 (IntKind.i64.wrap (1000000 * IntKind.i64.wrap (ref04_Times_1 a u_Lo u_Hi + ref04_Times_1 b v_Lo v_Hi))) d)
def ref04_Size_0 (n : Int) : Int :=
  imax n (IntKind.i64.wrap (0 - n))
end Go.Proofs.Ytbopeaebdlmapaa
