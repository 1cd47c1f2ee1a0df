/-
  What a story's method 'extended' hands over: the sets of some size, in order.
-/
import Derived.Test.YtnijhjpaplihbaaRows
import Derived.Test.YtnijhjpaplihbaaSyH
import Derived.Test.YtnijhjpaplihbaaSySo
import Derived.Test.YtnijhjpaplihbaaDeskK
set_option linter.unusedVariables false
namespace Go.Proofs.Ytnijhjpaplihbaa
open Go Go.Sy

/-- All sets of n of m reports. -/
def dsets (m : Nat) (n : Int) : List (List (List Int)) := (cmbs m n.toNat 0).map fun c => ofNums (c.map fun (x : Nat) => (x : Int))
noncomputable def deskArgs : List AV → List Sy.Obj → Option (Nat × Int × Nat)
  | [.agg [_, _, _, .sl kr], .val (.slice none 0 0), .val (.int .i64 0), n, .yl key], objs => (match n.weak, findObj kr objs with
    | .int .i64 m, some o => (match rowOf Try.prog o.body with
      | some (_, _, l) => some (key, m, l.length)
      | none => none)
    | _, _ => none)
  | _, _ => none
noncomputable def deskSeq : SeqCon := fun f args objs =>
  match Nat.beq f 63 with
  | true => (match deskArgs args objs with
    | some (key, n, m) => some ⟨(0 ≤ n ∧ n ≤ 1000000) ∧ (m : Int) ≤ 1000000, key, 3, [.int .i64], dsets m n⟩
    | none => none)
  | false => none
end Go.Proofs.Ytnijhjpaplihbaa
