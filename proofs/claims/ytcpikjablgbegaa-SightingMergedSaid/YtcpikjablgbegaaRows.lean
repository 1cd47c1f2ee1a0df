/-
  No cell of these rows narrows 'for every input' (looked for: loops, veiled, ifaces, maps, wideKeys, modest, calm, conditions, laid).
  DERIVED. THE GIVEN ROWS OF THIS SEAT. 8 by the template 'for every input the law returns true; each argument reads behind the call as it read before'; 0 by the template 'total and deterministic' (their statements: YtcpikjablgbegaaTotals.lean).
  GIVEN WITH THE SEED: the statements are not yours to turn. If you find one false, say at which input.
  Laid BY PROGRAM, IN A SANDBOX (cutbox-rows.mjs): the forced cells as the released guide's own fill.sh prints them over the translation d4563da36529650f… (all of the seat's roots in one cut). By AI agents, Wed Nov 11 2026. No macro, syntax, notation, axiom, sorry.
-/
import Derived.Test.YtcpikjablgbegaaChecked
import GoSem.Claim
import GoSem.ClaimJoined
import GoSem.ClaimMapViews
import Derived.JoinedTies
import Derived.KernelRfl
namespace Go.Proofs.Ytcpikjablgbegaa
/- THE CELL 'sum', in the pinned program and in every row, IS THE sha256 OF THE DUMP (.gsa) THAT YtcpikjablgbegaaProg.lean LOADS. Nothing in Lean hashes anything: it is a label: what it is worth is what the hold of that sum in a sandbox is worth. -/
noncomputable def Try.pinned : Pinned := { name := "ytcpikjablgbegaa", sum := "d4563da36529650f9aeca859f166a9cd0c08d2301048bdbba1a183577606d523", checked := Try.checked }
namespace Rows
def none {H : Type} : Left H := { results := [], args := [] }

/-- 'seamarklaw24.SightingMatchesReference': WHATEVER THE INPUT: true; the input reads as it did. -/
def sightingMatchesReferenceSpec : ChangeSpec := { name := "sightingMatchesReference", fn := fun _ => fun
  | [d1, d2, d3, d4] => { results := [.lit (.bool true)], args := [d1, d2, d3, d4] }
  | _ => none }
def sightingMatchesReferenceRow : OpenClaim := { program := "ytcpikjablgbegaa", sum := "d4563da36529650f9aeca859f166a9cd0c08d2301048bdbba1a183577606d523", func := "seamark/seamarklaw24.SightingMatchesReference", spec := "sightingMatchesReference", unfollowed := true, recurses := true, plainKeys := false, apart := false }
def SightingMatchesReferenceSaid : Prop := sightingMatchesReferenceRow.holds Try.pinned (OpenSpec.ofChange sightingMatchesReferenceSpec)

/-- ITS FALSE NEIGHBOUR: 'it returns false'. Refute it at one input. -/
def sightingMatchesReferenceWrong : ChangeSpec := { name := "sightingMatchesReference", fn := fun _ => fun
  | [d1, d2, d3, d4] => { results := [.lit (.bool false)], args := [d1, d2, d3, d4] }
  | _ => none }
def SightingMatchesReferenceWrongFalsely : Prop := sightingMatchesReferenceRow.holds Try.pinned (OpenSpec.ofChange sightingMatchesReferenceWrong)

/-- 'seamarklaw24.SightingTrue': WHATEVER THE INPUT: true; the input reads as it did. -/
def sightingTrueSpec : ChangeSpec := { name := "sightingTrue", fn := fun _ => fun
  | [d1, d2, d3, d4] => { results := [.lit (.bool true)], args := [d1, d2, d3, d4] }
  | _ => none }
def sightingTrueRow : OpenClaim := { program := "ytcpikjablgbegaa", sum := "d4563da36529650f9aeca859f166a9cd0c08d2301048bdbba1a183577606d523", func := "seamark/seamarklaw24.SightingTrue", spec := "sightingTrue", unfollowed := true, recurses := true, plainKeys := false, apart := false }
def SightingTrueSaid : Prop := sightingTrueRow.holds Try.pinned (OpenSpec.ofChange sightingTrueSpec)

/-- ITS FALSE NEIGHBOUR: 'it returns false'. Refute it at one input. -/
def sightingTrueWrong : ChangeSpec := { name := "sightingTrue", fn := fun _ => fun
  | [d1, d2, d3, d4] => { results := [.lit (.bool false)], args := [d1, d2, d3, d4] }
  | _ => none }
def SightingTrueWrongFalsely : Prop := sightingTrueRow.holds Try.pinned (OpenSpec.ofChange sightingTrueWrong)

/-- 'seamarklaw24.SightingWider': WHATEVER THE INPUT: true; the input reads as it did. -/
def sightingWiderSpec : ChangeSpec := { name := "sightingWider", fn := fun _ => fun
  | [d1, d2, d3, d4] => { results := [.lit (.bool true)], args := [d1, d2, d3, d4] }
  | _ => none }
def sightingWiderRow : OpenClaim := { program := "ytcpikjablgbegaa", sum := "d4563da36529650f9aeca859f166a9cd0c08d2301048bdbba1a183577606d523", func := "seamark/seamarklaw24.SightingWider", spec := "sightingWider", unfollowed := true, recurses := true, plainKeys := false, apart := false }
def SightingWiderSaid : Prop := sightingWiderRow.holds Try.pinned (OpenSpec.ofChange sightingWiderSpec)

/-- ITS FALSE NEIGHBOUR: 'it returns false'. Refute it at one input. -/
def sightingWiderWrong : ChangeSpec := { name := "sightingWider", fn := fun _ => fun
  | [d1, d2, d3, d4] => { results := [.lit (.bool false)], args := [d1, d2, d3, d4] }
  | _ => none }
def SightingWiderWrongFalsely : Prop := sightingWiderRow.holds Try.pinned (OpenSpec.ofChange sightingWiderWrong)

/-- 'seamarklaw24.SightingTurned': WHATEVER THE INPUT: true; the input reads as it did. -/
def sightingTurnedSpec : ChangeSpec := { name := "sightingTurned", fn := fun _ => fun
  | [d1, d2, d3, d4] => { results := [.lit (.bool true)], args := [d1, d2, d3, d4] }
  | _ => none }
def sightingTurnedRow : OpenClaim := { program := "ytcpikjablgbegaa", sum := "d4563da36529650f9aeca859f166a9cd0c08d2301048bdbba1a183577606d523", func := "seamark/seamarklaw24.SightingTurned", spec := "sightingTurned", unfollowed := true, recurses := true, plainKeys := false, apart := false }
def SightingTurnedSaid : Prop := sightingTurnedRow.holds Try.pinned (OpenSpec.ofChange sightingTurnedSpec)

/-- ITS FALSE NEIGHBOUR: 'it returns false'. Refute it at one input. -/
def sightingTurnedWrong : ChangeSpec := { name := "sightingTurned", fn := fun _ => fun
  | [d1, d2, d3, d4] => { results := [.lit (.bool false)], args := [d1, d2, d3, d4] }
  | _ => none }
def SightingTurnedWrongFalsely : Prop := sightingTurnedRow.holds Try.pinned (OpenSpec.ofChange sightingTurnedWrong)

/-- 'seamarklaw24.SightingMerged': WHATEVER THE INPUT: true; the input reads as it did. -/
def sightingMergedSpec : ChangeSpec := { name := "sightingMerged", fn := fun _ => fun
  | [d] => { results := [.lit (.bool true)], args := [d] }
  | _ => none }
def sightingMergedRow : OpenClaim := { program := "ytcpikjablgbegaa", sum := "d4563da36529650f9aeca859f166a9cd0c08d2301048bdbba1a183577606d523", func := "seamark/seamarklaw24.SightingMerged", spec := "sightingMerged", unfollowed := true, recurses := true, plainKeys := false, apart := false }
def SightingMergedSaid : Prop := sightingMergedRow.holds Try.pinned (OpenSpec.ofChange sightingMergedSpec)

/-- ITS FALSE NEIGHBOUR: 'it returns false'. Refute it at one input. -/
def sightingMergedWrong : ChangeSpec := { name := "sightingMerged", fn := fun _ => fun
  | [d] => { results := [.lit (.bool false)], args := [d] }
  | _ => none }
def SightingMergedWrongFalsely : Prop := sightingMergedRow.holds Try.pinned (OpenSpec.ofChange sightingMergedWrong)

/-- 'seamarklaw24.SightingWrong': WHATEVER THE INPUT: true; the input reads as it did. -/
def sightingWrongSpec : ChangeSpec := { name := "sightingWrong", fn := fun _ => fun
  | [d1, d2, d3] => { results := [.lit (.bool true)], args := [d1, d2, d3] }
  | _ => none }
def sightingWrongRow : OpenClaim := { program := "ytcpikjablgbegaa", sum := "d4563da36529650f9aeca859f166a9cd0c08d2301048bdbba1a183577606d523", func := "seamark/seamarklaw24.SightingWrong", spec := "sightingWrong", unfollowed := true, recurses := true, plainKeys := false, apart := false }
def SightingWrongSaid : Prop := sightingWrongRow.holds Try.pinned (OpenSpec.ofChange sightingWrongSpec)

/-- ITS FALSE NEIGHBOUR: 'it returns false'. Refute it at one input. -/
def sightingWrongWrong : ChangeSpec := { name := "sightingWrong", fn := fun _ => fun
  | [d1, d2, d3] => { results := [.lit (.bool false)], args := [d1, d2, d3] }
  | _ => none }
def SightingWrongWrongFalsely : Prop := sightingWrongRow.holds Try.pinned (OpenSpec.ofChange sightingWrongWrong)

/-- 'seamarklaw24.SightingBox': WHATEVER THE INPUT: true; the input reads as it did. -/
def sightingBoxSpec : ChangeSpec := { name := "sightingBox", fn := fun _ => fun
  | [d1, d2] => { results := [.lit (.bool true)], args := [d1, d2] }
  | _ => none }
def sightingBoxRow : OpenClaim := { program := "ytcpikjablgbegaa", sum := "d4563da36529650f9aeca859f166a9cd0c08d2301048bdbba1a183577606d523", func := "seamark/seamarklaw24.SightingBox", spec := "sightingBox", unfollowed := true, recurses := true, plainKeys := false, apart := false }
def SightingBoxSaid : Prop := sightingBoxRow.holds Try.pinned (OpenSpec.ofChange sightingBoxSpec)

/-- ITS FALSE NEIGHBOUR: 'it returns false'. Refute it at one input. -/
def sightingBoxWrong : ChangeSpec := { name := "sightingBox", fn := fun _ => fun
  | [d1, d2] => { results := [.lit (.bool false)], args := [d1, d2] }
  | _ => none }
def SightingBoxWrongFalsely : Prop := sightingBoxRow.holds Try.pinned (OpenSpec.ofChange sightingBoxWrong)

/-- 'seamarklaw24.SightingWedge': WHATEVER THE INPUT: true; the input reads as it did. -/
def sightingWedgeSpec : ChangeSpec := { name := "sightingWedge", fn := fun _ => fun
  | [d1, d2, d3, d4] => { results := [.lit (.bool true)], args := [d1, d2, d3, d4] }
  | _ => none }
def sightingWedgeRow : OpenClaim := { program := "ytcpikjablgbegaa", sum := "d4563da36529650f9aeca859f166a9cd0c08d2301048bdbba1a183577606d523", func := "seamark/seamarklaw24.SightingWedge", spec := "sightingWedge", unfollowed := true, recurses := true, plainKeys := false, apart := false }
def SightingWedgeSaid : Prop := sightingWedgeRow.holds Try.pinned (OpenSpec.ofChange sightingWedgeSpec)

/-- ITS FALSE NEIGHBOUR: 'it returns false'. Refute it at one input. -/
def sightingWedgeWrong : ChangeSpec := { name := "sightingWedge", fn := fun _ => fun
  | [d1, d2, d3, d4] => { results := [.lit (.bool false)], args := [d1, d2, d3, d4] }
  | _ => none }
def SightingWedgeWrongFalsely : Prop := sightingWedgeRow.holds Try.pinned (OpenSpec.ofChange sightingWedgeWrong)

/- THE SECOND FORM. 'bulk': how many values and letters a reading holds, each counted each time it is reached (what is shared counts as often as it is met; a slice's spare places count too). A statement '..UptoSaid' is the law's where the arguments, and the package variables that the reading takes, are together of bulk at most 1048576: NARROWER than '..Said'. Prove '..Said' where nothing that the law and all that it calls make is longer than what came in: it says more and counts as full. Else prove '..UptoSaid'. A law counts once. -/
mutual
def uptoBulk {H : Type} : DataW H → Nat
  | .lit (.string bytes) => bytes.length + 1
  | .lit _ => 1
  | .nil => 1
  | .ptr d => uptoBulk d + 1
  | .slice elems spare => uptoBulkAll elems + uptoBulkAll spare + 1
  | .agg parts => uptoBulkAll parts + 1
  | .iface _ d => uptoBulk d + 1
  | .map entries => uptoBulkEntries entries + 1
  | .held _ => 1
def uptoBulkAll {H : Type} : List (DataW H) → Nat
  | [] => 0
  | d :: r => uptoBulk d + uptoBulkAll r
def uptoBulkEntries {H : Type} : List (Lit × DataW H) → Nat
  | [] => 0
  | x :: r => uptoBulkEntry x + uptoBulkEntries r
def uptoBulkEntry {H : Type} : Lit × DataW H → Nat
  | (.string bytes, d) => bytes.length + uptoBulk d + 1
  | (_, d) => uptoBulk d + 1
 end
def uptoSmall : (H : Type) → List (DataW H) → Bool := fun _ ds => decide (uptoBulkAll ds ≤ 1048576)
def OpenSpec.upto (s : _root_.Go.ChangeSpec) : _root_.Go.OpenSpec := { _root_.Go.OpenSpec.ofChange s with cond := some uptoSmall }

/-- 'seamarklaw24.SightingMatchesReference', WHERE WHAT IT READS IS OF BULK AT MOST 1048576: true; the input reads as it did. -/
def sightingMatchesReferenceUptoRow : OpenClaim := { program := "ytcpikjablgbegaa", sum := "d4563da36529650f9aeca859f166a9cd0c08d2301048bdbba1a183577606d523", func := "seamark/seamarklaw24.SightingMatchesReference", spec := "sightingMatchesReference", unfollowed := true, recurses := true, plainKeys := false, apart := false, narrowed := true }
def SightingMatchesReferenceUptoSaid : Prop := sightingMatchesReferenceUptoRow.holds Try.pinned (OpenSpec.upto sightingMatchesReferenceSpec)

/-- 'seamarklaw24.SightingTrue', WHERE WHAT IT READS IS OF BULK AT MOST 1048576: true; the input reads as it did. -/
def sightingTrueUptoRow : OpenClaim := { program := "ytcpikjablgbegaa", sum := "d4563da36529650f9aeca859f166a9cd0c08d2301048bdbba1a183577606d523", func := "seamark/seamarklaw24.SightingTrue", spec := "sightingTrue", unfollowed := true, recurses := true, plainKeys := false, apart := false, narrowed := true }
def SightingTrueUptoSaid : Prop := sightingTrueUptoRow.holds Try.pinned (OpenSpec.upto sightingTrueSpec)

/-- 'seamarklaw24.SightingWider', WHERE WHAT IT READS IS OF BULK AT MOST 1048576: true; the input reads as it did. -/
def sightingWiderUptoRow : OpenClaim := { program := "ytcpikjablgbegaa", sum := "d4563da36529650f9aeca859f166a9cd0c08d2301048bdbba1a183577606d523", func := "seamark/seamarklaw24.SightingWider", spec := "sightingWider", unfollowed := true, recurses := true, plainKeys := false, apart := false, narrowed := true }
def SightingWiderUptoSaid : Prop := sightingWiderUptoRow.holds Try.pinned (OpenSpec.upto sightingWiderSpec)

/-- 'seamarklaw24.SightingTurned', WHERE WHAT IT READS IS OF BULK AT MOST 1048576: true; the input reads as it did. -/
def sightingTurnedUptoRow : OpenClaim := { program := "ytcpikjablgbegaa", sum := "d4563da36529650f9aeca859f166a9cd0c08d2301048bdbba1a183577606d523", func := "seamark/seamarklaw24.SightingTurned", spec := "sightingTurned", unfollowed := true, recurses := true, plainKeys := false, apart := false, narrowed := true }
def SightingTurnedUptoSaid : Prop := sightingTurnedUptoRow.holds Try.pinned (OpenSpec.upto sightingTurnedSpec)

/-- 'seamarklaw24.SightingMerged', WHERE WHAT IT READS IS OF BULK AT MOST 1048576: true; the input reads as it did. -/
def sightingMergedUptoRow : OpenClaim := { program := "ytcpikjablgbegaa", sum := "d4563da36529650f9aeca859f166a9cd0c08d2301048bdbba1a183577606d523", func := "seamark/seamarklaw24.SightingMerged", spec := "sightingMerged", unfollowed := true, recurses := true, plainKeys := false, apart := false, narrowed := true }
def SightingMergedUptoSaid : Prop := sightingMergedUptoRow.holds Try.pinned (OpenSpec.upto sightingMergedSpec)

/-- 'seamarklaw24.SightingWrong', WHERE WHAT IT READS IS OF BULK AT MOST 1048576: true; the input reads as it did. -/
def sightingWrongUptoRow : OpenClaim := { program := "ytcpikjablgbegaa", sum := "d4563da36529650f9aeca859f166a9cd0c08d2301048bdbba1a183577606d523", func := "seamark/seamarklaw24.SightingWrong", spec := "sightingWrong", unfollowed := true, recurses := true, plainKeys := false, apart := false, narrowed := true }
def SightingWrongUptoSaid : Prop := sightingWrongUptoRow.holds Try.pinned (OpenSpec.upto sightingWrongSpec)

/-- 'seamarklaw24.SightingBox', WHERE WHAT IT READS IS OF BULK AT MOST 1048576: true; the input reads as it did. -/
def sightingBoxUptoRow : OpenClaim := { program := "ytcpikjablgbegaa", sum := "d4563da36529650f9aeca859f166a9cd0c08d2301048bdbba1a183577606d523", func := "seamark/seamarklaw24.SightingBox", spec := "sightingBox", unfollowed := true, recurses := true, plainKeys := false, apart := false, narrowed := true }
def SightingBoxUptoSaid : Prop := sightingBoxUptoRow.holds Try.pinned (OpenSpec.upto sightingBoxSpec)

/-- 'seamarklaw24.SightingWedge', WHERE WHAT IT READS IS OF BULK AT MOST 1048576: true; the input reads as it did. -/
def sightingWedgeUptoRow : OpenClaim := { program := "ytcpikjablgbegaa", sum := "d4563da36529650f9aeca859f166a9cd0c08d2301048bdbba1a183577606d523", func := "seamark/seamarklaw24.SightingWedge", spec := "sightingWedge", unfollowed := true, recurses := true, plainKeys := false, apart := false, narrowed := true }
def SightingWedgeUptoSaid : Prop := sightingWedgeUptoRow.holds Try.pinned (OpenSpec.upto sightingWedgeSpec)

end Rows
end Go.Proofs.Ytcpikjablgbegaa
