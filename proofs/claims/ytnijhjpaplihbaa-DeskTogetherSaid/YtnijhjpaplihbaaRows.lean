/-
  No cell of these rows narrows 'for every input' (looked for: loops, veiled, ifaces, maps, wideKeys, modest, calm, conditions, laid).
  DERIVED. THE GIVEN ROWS OF THIS SEAT. 6 by the template 'for every input the law returns true; each argument reads behind the call as it read before'; 0 by the template 'total and deterministic' (their statements: YtnijhjpaplihbaaTotals.lean).
  GIVEN WITH THE SEED: the statements are not yours to turn. If you find one false, say at which input.
  Laid BY PROGRAM, IN A SANDBOX (cutbox-rows.mjs): the forced cells as the released guide's own fill.sh prints them over the translation 2a352744b98a5742… (all of the seat's roots in one cut). By AI agents, Wed Nov 11 2026. No macro, syntax, notation, axiom, sorry.
-/
import Derived.Test.YtnijhjpaplihbaaChecked
import GoSem.Claim
import GoSem.ClaimJoined
import GoSem.ClaimMapViews
import Derived.JoinedTies
import Derived.KernelRfl
namespace Go.Proofs.Ytnijhjpaplihbaa
/- THE CELL 'sum', in the pinned program and in every row, IS THE sha256 OF THE DUMP (.gsa) THAT YtnijhjpaplihbaaProg.lean LOADS. Nothing in Lean hashes anything: it is a label: what it is worth is what the hold of that sum in a sandbox is worth. -/
noncomputable def Try.pinned : Pinned := { name := "ytnijhjpaplihbaa", sum := "2a352744b98a5742a505e3194d5ce13fe34dc6f9559a52938d52771bcc882485", checked := Try.checked }
namespace Rows
def none {H : Type} : Left H := { results := [], args := [] }

/-- 'seamarklaw25.DeskTrue': WHATEVER THE INPUT: true; the input reads as it did. -/
def deskTrueSpec : ChangeSpec := { name := "deskTrue", fn := fun _ => fun
  | [d1, d2, d3] => { results := [.lit (.bool true)], args := [d1, d2, d3] }
  | _ => none }
def deskTrueRow : OpenClaim := { program := "ytnijhjpaplihbaa", sum := "2a352744b98a5742a505e3194d5ce13fe34dc6f9559a52938d52771bcc882485", func := "seamark/seamarklaw25.DeskTrue", spec := "deskTrue", unfollowed := true, recurses := true, plainKeys := false, apart := false }
def DeskTrueSaid : Prop := deskTrueRow.holds Try.pinned (OpenSpec.ofChange deskTrueSpec)

/-- ITS FALSE NEIGHBOUR: 'it returns false'. Refute it at one input. -/
def deskTrueWrong : ChangeSpec := { name := "deskTrue", fn := fun _ => fun
  | [d1, d2, d3] => { results := [.lit (.bool false)], args := [d1, d2, d3] }
  | _ => none }
def DeskTrueWrongFalsely : Prop := deskTrueRow.holds Try.pinned (OpenSpec.ofChange deskTrueWrong)

/-- 'seamarklaw25.DeskFewest': WHATEVER THE INPUT: true; the input reads as it did. -/
def deskFewestSpec : ChangeSpec := { name := "deskFewest", fn := fun _ => fun
  | [d1, d2, d3, d4, d5] => { results := [.lit (.bool true)], args := [d1, d2, d3, d4, d5] }
  | _ => none }
def deskFewestRow : OpenClaim := { program := "ytnijhjpaplihbaa", sum := "2a352744b98a5742a505e3194d5ce13fe34dc6f9559a52938d52771bcc882485", func := "seamark/seamarklaw25.DeskFewest", spec := "deskFewest", unfollowed := true, recurses := true, plainKeys := false, apart := false }
def DeskFewestSaid : Prop := deskFewestRow.holds Try.pinned (OpenSpec.ofChange deskFewestSpec)

/-- ITS FALSE NEIGHBOUR: 'it returns false'. Refute it at one input. -/
def deskFewestWrong : ChangeSpec := { name := "deskFewest", fn := fun _ => fun
  | [d1, d2, d3, d4, d5] => { results := [.lit (.bool false)], args := [d1, d2, d3, d4, d5] }
  | _ => none }
def DeskFewestWrongFalsely : Prop := deskFewestRow.holds Try.pinned (OpenSpec.ofChange deskFewestWrong)

/-- 'seamarklaw25.DeskWhere': WHATEVER THE INPUT: true; the input reads as it did. -/
def deskWhereSpec : ChangeSpec := { name := "deskWhere", fn := fun _ => fun
  | [d1, d2, d3, d4] => { results := [.lit (.bool true)], args := [d1, d2, d3, d4] }
  | _ => none }
def deskWhereRow : OpenClaim := { program := "ytnijhjpaplihbaa", sum := "2a352744b98a5742a505e3194d5ce13fe34dc6f9559a52938d52771bcc882485", func := "seamark/seamarklaw25.DeskWhere", spec := "deskWhere", unfollowed := true, recurses := true, plainKeys := false, apart := false }
def DeskWhereSaid : Prop := deskWhereRow.holds Try.pinned (OpenSpec.ofChange deskWhereSpec)

/-- ITS FALSE NEIGHBOUR: 'it returns false'. Refute it at one input. -/
def deskWhereWrong : ChangeSpec := { name := "deskWhere", fn := fun _ => fun
  | [d1, d2, d3, d4] => { results := [.lit (.bool false)], args := [d1, d2, d3, d4] }
  | _ => none }
def DeskWhereWrongFalsely : Prop := deskWhereRow.holds Try.pinned (OpenSpec.ofChange deskWhereWrong)

/-- 'seamarklaw25.DeskNamed': WHATEVER THE INPUT: true; the input reads as it did. -/
def deskNamedSpec : ChangeSpec := { name := "deskNamed", fn := fun _ => fun
  | [d1, d2, d3, d4] => { results := [.lit (.bool true)], args := [d1, d2, d3, d4] }
  | _ => none }
def deskNamedRow : OpenClaim := { program := "ytnijhjpaplihbaa", sum := "2a352744b98a5742a505e3194d5ce13fe34dc6f9559a52938d52771bcc882485", func := "seamark/seamarklaw25.DeskNamed", spec := "deskNamed", unfollowed := true, recurses := true, plainKeys := false, apart := false }
def DeskNamedSaid : Prop := deskNamedRow.holds Try.pinned (OpenSpec.ofChange deskNamedSpec)

/-- ITS FALSE NEIGHBOUR: 'it returns false'. Refute it at one input. -/
def deskNamedWrong : ChangeSpec := { name := "deskNamed", fn := fun _ => fun
  | [d1, d2, d3, d4] => { results := [.lit (.bool false)], args := [d1, d2, d3, d4] }
  | _ => none }
def DeskNamedWrongFalsely : Prop := deskNamedRow.holds Try.pinned (OpenSpec.ofChange deskNamedWrong)

/-- 'seamarklaw25.DeskMore': WHATEVER THE INPUT: true; the input reads as it did. -/
def deskMoreSpec : ChangeSpec := { name := "deskMore", fn := fun _ => fun
  | [d1, d2, d3, d4] => { results := [.lit (.bool true)], args := [d1, d2, d3, d4] }
  | _ => none }
def deskMoreRow : OpenClaim := { program := "ytnijhjpaplihbaa", sum := "2a352744b98a5742a505e3194d5ce13fe34dc6f9559a52938d52771bcc882485", func := "seamark/seamarklaw25.DeskMore", spec := "deskMore", unfollowed := true, recurses := true, plainKeys := false, apart := false }
def DeskMoreSaid : Prop := deskMoreRow.holds Try.pinned (OpenSpec.ofChange deskMoreSpec)

/-- ITS FALSE NEIGHBOUR: 'it returns false'. Refute it at one input. -/
def deskMoreWrong : ChangeSpec := { name := "deskMore", fn := fun _ => fun
  | [d1, d2, d3, d4] => { results := [.lit (.bool false)], args := [d1, d2, d3, d4] }
  | _ => none }
def DeskMoreWrongFalsely : Prop := deskMoreRow.holds Try.pinned (OpenSpec.ofChange deskMoreWrong)

/-- 'seamarklaw25.DeskTogether': WHATEVER THE INPUT: true; the input reads as it did. -/
def deskTogetherSpec : ChangeSpec := { name := "deskTogether", fn := fun _ => fun
  | [d1, d2, d3, d4] => { results := [.lit (.bool true)], args := [d1, d2, d3, d4] }
  | _ => none }
def deskTogetherRow : OpenClaim := { program := "ytnijhjpaplihbaa", sum := "2a352744b98a5742a505e3194d5ce13fe34dc6f9559a52938d52771bcc882485", func := "seamark/seamarklaw25.DeskTogether", spec := "deskTogether", unfollowed := true, recurses := true, plainKeys := false, apart := false }
def DeskTogetherSaid : Prop := deskTogetherRow.holds Try.pinned (OpenSpec.ofChange deskTogetherSpec)

/-- ITS FALSE NEIGHBOUR: 'it returns false'. Refute it at one input. -/
def deskTogetherWrong : ChangeSpec := { name := "deskTogether", fn := fun _ => fun
  | [d1, d2, d3, d4] => { results := [.lit (.bool false)], args := [d1, d2, d3, d4] }
  | _ => none }
def DeskTogetherWrongFalsely : Prop := deskTogetherRow.holds Try.pinned (OpenSpec.ofChange deskTogetherWrong)

/- THE SECOND FORM. 'bulk': how many values and letters a reading holds, each counted each time it is reached (what is shared counts as often as it is met; a slice's spare places count too). A statement '..UptoSaid' is the law's where the arguments, and the package variables that the reading takes, are together of bulk at most 1048576: NARROWER than '..Said'. Prove '..Said' where nothing that the law and all that it calls make is longer than what came in: it says more and counts as full. Else prove '..UptoSaid'. A law counts once. -/
mutual
def uptoBulk {H : Type} : DataW H → Nat
  | .lit (.string bytes) => bytes.length + 1
  | .lit _ => 1
  | .nil => 1
  | .ptr d => uptoBulk d + 1
  | .slice elems spare => uptoBulkAll elems + uptoBulkAll spare + 1
  | .agg parts => uptoBulkAll parts + 1
  | .iface _ d => uptoBulk d + 1
  | .map entries => uptoBulkEntries entries + 1
  | .held _ => 1
def uptoBulkAll {H : Type} : List (DataW H) → Nat
  | [] => 0
  | d :: r => uptoBulk d + uptoBulkAll r
def uptoBulkEntries {H : Type} : List (Lit × DataW H) → Nat
  | [] => 0
  | x :: r => uptoBulkEntry x + uptoBulkEntries r
def uptoBulkEntry {H : Type} : Lit × DataW H → Nat
  | (.string bytes, d) => bytes.length + uptoBulk d + 1
  | (_, d) => uptoBulk d + 1
 end
def uptoSmall : (H : Type) → List (DataW H) → Bool := fun _ ds => decide (uptoBulkAll ds ≤ 1048576)
def OpenSpec.upto (s : _root_.Go.ChangeSpec) : _root_.Go.OpenSpec := { _root_.Go.OpenSpec.ofChange s with cond := some uptoSmall }

/-- 'seamarklaw25.DeskTrue', WHERE WHAT IT READS IS OF BULK AT MOST 1048576: true; the input reads as it did. -/
def deskTrueUptoRow : OpenClaim := { program := "ytnijhjpaplihbaa", sum := "2a352744b98a5742a505e3194d5ce13fe34dc6f9559a52938d52771bcc882485", func := "seamark/seamarklaw25.DeskTrue", spec := "deskTrue", unfollowed := true, recurses := true, plainKeys := false, apart := false, narrowed := true }
def DeskTrueUptoSaid : Prop := deskTrueUptoRow.holds Try.pinned (OpenSpec.upto deskTrueSpec)

/-- 'seamarklaw25.DeskFewest', WHERE WHAT IT READS IS OF BULK AT MOST 1048576: true; the input reads as it did. -/
def deskFewestUptoRow : OpenClaim := { program := "ytnijhjpaplihbaa", sum := "2a352744b98a5742a505e3194d5ce13fe34dc6f9559a52938d52771bcc882485", func := "seamark/seamarklaw25.DeskFewest", spec := "deskFewest", unfollowed := true, recurses := true, plainKeys := false, apart := false, narrowed := true }
def DeskFewestUptoSaid : Prop := deskFewestUptoRow.holds Try.pinned (OpenSpec.upto deskFewestSpec)

/-- 'seamarklaw25.DeskWhere', WHERE WHAT IT READS IS OF BULK AT MOST 1048576: true; the input reads as it did. -/
def deskWhereUptoRow : OpenClaim := { program := "ytnijhjpaplihbaa", sum := "2a352744b98a5742a505e3194d5ce13fe34dc6f9559a52938d52771bcc882485", func := "seamark/seamarklaw25.DeskWhere", spec := "deskWhere", unfollowed := true, recurses := true, plainKeys := false, apart := false, narrowed := true }
def DeskWhereUptoSaid : Prop := deskWhereUptoRow.holds Try.pinned (OpenSpec.upto deskWhereSpec)

/-- 'seamarklaw25.DeskNamed', WHERE WHAT IT READS IS OF BULK AT MOST 1048576: true; the input reads as it did. -/
def deskNamedUptoRow : OpenClaim := { program := "ytnijhjpaplihbaa", sum := "2a352744b98a5742a505e3194d5ce13fe34dc6f9559a52938d52771bcc882485", func := "seamark/seamarklaw25.DeskNamed", spec := "deskNamed", unfollowed := true, recurses := true, plainKeys := false, apart := false, narrowed := true }
def DeskNamedUptoSaid : Prop := deskNamedUptoRow.holds Try.pinned (OpenSpec.upto deskNamedSpec)

/-- 'seamarklaw25.DeskMore', WHERE WHAT IT READS IS OF BULK AT MOST 1048576: true; the input reads as it did. -/
def deskMoreUptoRow : OpenClaim := { program := "ytnijhjpaplihbaa", sum := "2a352744b98a5742a505e3194d5ce13fe34dc6f9559a52938d52771bcc882485", func := "seamark/seamarklaw25.DeskMore", spec := "deskMore", unfollowed := true, recurses := true, plainKeys := false, apart := false, narrowed := true }
def DeskMoreUptoSaid : Prop := deskMoreUptoRow.holds Try.pinned (OpenSpec.upto deskMoreSpec)

/-- 'seamarklaw25.DeskTogether', WHERE WHAT IT READS IS OF BULK AT MOST 1048576: true; the input reads as it did. -/
def deskTogetherUptoRow : OpenClaim := { program := "ytnijhjpaplihbaa", sum := "2a352744b98a5742a505e3194d5ce13fe34dc6f9559a52938d52771bcc882485", func := "seamark/seamarklaw25.DeskTogether", spec := "deskTogether", unfollowed := true, recurses := true, plainKeys := false, apart := false, narrowed := true }
def DeskTogetherUptoSaid : Prop := deskTogetherUptoRow.holds Try.pinned (OpenSpec.upto deskTogetherSpec)

end Rows
end Go.Proofs.Ytnijhjpaplihbaa
