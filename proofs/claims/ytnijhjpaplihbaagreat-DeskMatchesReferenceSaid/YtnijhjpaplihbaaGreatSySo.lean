/- Several texts in one (wip/xiS.py): XSySo XSySt XSyTs. -/
import Derived.Test.YtnijhjpaplihbaaGreatSyLq
set_option linter.unusedVariables false
namespace Go.Sy
section
variable {α : Type} {le : α → α → Bool}
end
def xgK (zs : List Int) : List (List Int) := zs.map fun z => [z]
def dd : Option Int → List Int → List Int
 | _, [] => []
 | p, x :: r => if p = some x then dd (some x) r else x :: dd (some x) r
end Go.Sy
set_option linter.unusedVariables false
namespace Go.Sy
section
variable {α : Type} (k : α → Int)
variable {k}
end
end Go.Sy
set_option linter.unusedVariables false
namespace Go.Sy
section
variable {α : Type}
variable (d : α)
variable {k : α → Int}
end
end Go.Sy
