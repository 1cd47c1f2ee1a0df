/- Written by program (wip/sygen.py): what the Go functions compute, as the executor reads it off their code. -/
import Derived.Test.YtcbgjecpnhjlpaaSyD
import Derived.Test.YtcbgjecpnhjlpaaBitemp1D
set_option maxRecDepth 100000
set_option linter.unusedVariables false
namespace Go.Proofs.Ytcbgjecpnhjlpaa
open Go Go.Sy
noncomputable def bitemp_cover_1_0 (a_Item a_Value a_From a_Until a_Known b_Item b_Value b_From b_Until b_Known : Int) : Int :=
  cmp_Compare_int_0 a_From b_From
noncomputable def bitemp_Merge_2_0 (x_Item x_Value x_From x_Until x_Known y_Item y_Value y_From y_Until y_Known : Int) : Int :=
  cmp_Compare_int_0 x_Known y_Known
end Go.Proofs.Ytcbgjecpnhjlpaa
