/-
  No cell of these rows narrows 'for every input' (looked for: loops, veiled, ifaces, maps, wideKeys, modest, calm, conditions, laid).
  DERIVED. THE GIVEN ROWS OF THIS SEAT. 8 by the template 'for every input the law returns true; each argument reads behind the call as it read before'; 0 by the template 'total and deterministic' (their statements: YtcbgjecpnhjlpaaTotals.lean).
  GIVEN WITH THE SEED: the statements are not yours to turn. If you find one false, say at which input.
  Laid BY PROGRAM, IN A SANDBOX (cutbox-rows.mjs): the forced cells as the released guide's own fill.sh prints them over the translation 490c90fbc2b9be5b… (all of the seat's roots in one cut). By AI agents, Wed Nov 11 2026. No macro, syntax, notation, axiom, sorry.
-/
import Derived.Test.YtcbgjecpnhjlpaaChecked
import GoSem.Claim
import GoSem.ClaimJoined
import GoSem.ClaimMapViews
import Derived.JoinedTies
import Derived.KernelRfl
namespace Go.Proofs.Ytcbgjecpnhjlpaa
/- THE CELL 'sum', in the pinned program and in every row, IS THE sha256 OF THE DUMP (.gsa) THAT YtcbgjecpnhjlpaaProg.lean LOADS. Nothing in Lean hashes anything: it is a label: what it is worth is what the hold of that sum in a sandbox is worth. -/
noncomputable def Try.pinned : Pinned := { name := "ytcbgjecpnhjlpaa", sum := "490c90fbc2b9be5ba337ffc9dd8862e7810246b3393633801edc3729e362ca08", checked := Try.checked }
namespace Rows
def none {H : Type} : Left H := { results := [], args := [] }

/-- 'seamarklaw27.BitempMatchesReference': WHATEVER THE INPUT: true; the input reads as it did. -/
def bitempMatchesReferenceSpec : ChangeSpec := { name := "bitempMatchesReference", fn := fun _ => fun
  | [d1, d2, d3, d4, d5, d6, d7] => { results := [.lit (.bool true)], args := [d1, d2, d3, d4, d5, d6, d7] }
  | _ => none }
def bitempMatchesReferenceRow : OpenClaim := { program := "ytcbgjecpnhjlpaa", sum := "490c90fbc2b9be5ba337ffc9dd8862e7810246b3393633801edc3729e362ca08", func := "seamark/seamarklaw27.BitempMatchesReference", spec := "bitempMatchesReference", unfollowed := true, recurses := true, apart := false }
def BitempMatchesReferenceSaid : Prop := bitempMatchesReferenceRow.holds Try.pinned (OpenSpec.ofChange bitempMatchesReferenceSpec)

/-- ITS FALSE NEIGHBOUR: 'it returns false'. Refute it at one input. -/
def bitempMatchesReferenceWrong : ChangeSpec := { name := "bitempMatchesReference", fn := fun _ => fun
  | [d1, d2, d3, d4, d5, d6, d7] => { results := [.lit (.bool false)], args := [d1, d2, d3, d4, d5, d6, d7] }
  | _ => none }
def BitempMatchesReferenceWrongFalsely : Prop := bitempMatchesReferenceRow.holds Try.pinned (OpenSpec.ofChange bitempMatchesReferenceWrong)

/-- 'seamarklaw27.BitempNever': WHATEVER THE INPUT: true; the input reads as it did. -/
def bitempNeverSpec : ChangeSpec := { name := "bitempNever", fn := fun _ => fun
  | [d1, d2, d3, d4, d5] => { results := [.lit (.bool true)], args := [d1, d2, d3, d4, d5] }
  | _ => none }
def bitempNeverRow : OpenClaim := { program := "ytcbgjecpnhjlpaa", sum := "490c90fbc2b9be5ba337ffc9dd8862e7810246b3393633801edc3729e362ca08", func := "seamark/seamarklaw27.BitempNever", spec := "bitempNever", unfollowed := true, recurses := true, apart := false }
def BitempNeverSaid : Prop := bitempNeverRow.holds Try.pinned (OpenSpec.ofChange bitempNeverSpec)

/-- ITS FALSE NEIGHBOUR: 'it returns false'. Refute it at one input. -/
def bitempNeverWrong : ChangeSpec := { name := "bitempNever", fn := fun _ => fun
  | [d1, d2, d3, d4, d5] => { results := [.lit (.bool false)], args := [d1, d2, d3, d4, d5] }
  | _ => none }
def BitempNeverWrongFalsely : Prop := bitempNeverRow.holds Try.pinned (OpenSpec.ofChange bitempNeverWrong)

/-- 'seamarklaw27.BitempSaid': WHATEVER THE INPUT: true; the input reads as it did. -/
def bitempSaidSpec : ChangeSpec := { name := "bitempSaid", fn := fun _ => fun
  | [d1, d2, d3, d4, d5] => { results := [.lit (.bool true)], args := [d1, d2, d3, d4, d5] }
  | _ => none }
def bitempSaidRow : OpenClaim := { program := "ytcbgjecpnhjlpaa", sum := "490c90fbc2b9be5ba337ffc9dd8862e7810246b3393633801edc3729e362ca08", func := "seamark/seamarklaw27.BitempSaid", spec := "bitempSaid", unfollowed := true, recurses := true, apart := false }
def BitempSaidSaid : Prop := bitempSaidRow.holds Try.pinned (OpenSpec.ofChange bitempSaidSpec)

/-- ITS FALSE NEIGHBOUR: 'it returns false'. Refute it at one input. -/
def bitempSaidWrong : ChangeSpec := { name := "bitempSaid", fn := fun _ => fun
  | [d1, d2, d3, d4, d5] => { results := [.lit (.bool false)], args := [d1, d2, d3, d4, d5] }
  | _ => none }
def BitempSaidWrongFalsely : Prop := bitempSaidRow.holds Try.pinned (OpenSpec.ofChange bitempSaidWrong)

/-- 'seamarklaw27.BitempHistory': WHATEVER THE INPUT: true; the input reads as it did. -/
def bitempHistorySpec : ChangeSpec := { name := "bitempHistory", fn := fun _ => fun
  | [d1, d2, d3, d4] => { results := [.lit (.bool true)], args := [d1, d2, d3, d4] }
  | _ => none }
def bitempHistoryRow : OpenClaim := { program := "ytcbgjecpnhjlpaa", sum := "490c90fbc2b9be5ba337ffc9dd8862e7810246b3393633801edc3729e362ca08", func := "seamark/seamarklaw27.BitempHistory", spec := "bitempHistory", unfollowed := true, recurses := true, apart := false }
def BitempHistorySaid : Prop := bitempHistoryRow.holds Try.pinned (OpenSpec.ofChange bitempHistorySpec)

/-- ITS FALSE NEIGHBOUR: 'it returns false'. Refute it at one input. -/
def bitempHistoryWrong : ChangeSpec := { name := "bitempHistory", fn := fun _ => fun
  | [d1, d2, d3, d4] => { results := [.lit (.bool false)], args := [d1, d2, d3, d4] }
  | _ => none }
def BitempHistoryWrongFalsely : Prop := bitempHistoryRow.holds Try.pinned (OpenSpec.ofChange bitempHistoryWrong)

/-- 'seamarklaw27.BitempChanged': WHATEVER THE INPUT: true; the input reads as it did. -/
def bitempChangedSpec : ChangeSpec := { name := "bitempChanged", fn := fun _ => fun
  | [d1, d2, d3, d4, d5] => { results := [.lit (.bool true)], args := [d1, d2, d3, d4, d5] }
  | _ => none }
def bitempChangedRow : OpenClaim := { program := "ytcbgjecpnhjlpaa", sum := "490c90fbc2b9be5ba337ffc9dd8862e7810246b3393633801edc3729e362ca08", func := "seamark/seamarklaw27.BitempChanged", spec := "bitempChanged", unfollowed := true, recurses := true, apart := false }
def BitempChangedSaid : Prop := bitempChangedRow.holds Try.pinned (OpenSpec.ofChange bitempChangedSpec)

/-- ITS FALSE NEIGHBOUR: 'it returns false'. Refute it at one input. -/
def bitempChangedWrong : ChangeSpec := { name := "bitempChanged", fn := fun _ => fun
  | [d1, d2, d3, d4, d5] => { results := [.lit (.bool false)], args := [d1, d2, d3, d4, d5] }
  | _ => none }
def BitempChangedWrongFalsely : Prop := bitempChangedRow.holds Try.pinned (OpenSpec.ofChange bitempChangedWrong)

/-- 'seamarklaw27.BitempKnew': WHATEVER THE INPUT: true; the input reads as it did. -/
def bitempKnewSpec : ChangeSpec := { name := "bitempKnew", fn := fun _ => fun
  | [d1, d2, d3, d4, d5, d6, d7] => { results := [.lit (.bool true)], args := [d1, d2, d3, d4, d5, d6, d7] }
  | _ => none }
def bitempKnewRow : OpenClaim := { program := "ytcbgjecpnhjlpaa", sum := "490c90fbc2b9be5ba337ffc9dd8862e7810246b3393633801edc3729e362ca08", func := "seamark/seamarklaw27.BitempKnew", spec := "bitempKnew", unfollowed := true, recurses := true, apart := false }
def BitempKnewSaid : Prop := bitempKnewRow.holds Try.pinned (OpenSpec.ofChange bitempKnewSpec)

/-- ITS FALSE NEIGHBOUR: 'it returns false'. Refute it at one input. -/
def bitempKnewWrong : ChangeSpec := { name := "bitempKnew", fn := fun _ => fun
  | [d1, d2, d3, d4, d5, d6, d7] => { results := [.lit (.bool false)], args := [d1, d2, d3, d4, d5, d6, d7] }
  | _ => none }
def BitempKnewWrongFalsely : Prop := bitempKnewRow.holds Try.pinned (OpenSpec.ofChange bitempKnewWrong)

/-- 'seamarklaw27.BitempMerged': WHATEVER THE INPUT: true; the input reads as it did. -/
def bitempMergedSpec : ChangeSpec := { name := "bitempMerged", fn := fun _ => fun
  | [d1, d2, d3, d4, d5] => { results := [.lit (.bool true)], args := [d1, d2, d3, d4, d5] }
  | _ => none }
def bitempMergedRow : OpenClaim := { program := "ytcbgjecpnhjlpaa", sum := "490c90fbc2b9be5ba337ffc9dd8862e7810246b3393633801edc3729e362ca08", func := "seamark/seamarklaw27.BitempMerged", spec := "bitempMerged", unfollowed := true, recurses := true, apart := false }
def BitempMergedSaid : Prop := bitempMergedRow.holds Try.pinned (OpenSpec.ofChange bitempMergedSpec)

/-- ITS FALSE NEIGHBOUR: 'it returns false'. Refute it at one input. -/
def bitempMergedWrong : ChangeSpec := { name := "bitempMerged", fn := fun _ => fun
  | [d1, d2, d3, d4, d5] => { results := [.lit (.bool false)], args := [d1, d2, d3, d4, d5] }
  | _ => none }
def BitempMergedWrongFalsely : Prop := bitempMergedRow.holds Try.pinned (OpenSpec.ofChange bitempMergedWrong)

/-- 'seamarklaw27.BitempItems': WHATEVER THE INPUT: true; the input reads as it did. -/
def bitempItemsSpec : ChangeSpec := { name := "bitempItems", fn := fun _ => fun
  | [d1, d2, d3, d4] => { results := [.lit (.bool true)], args := [d1, d2, d3, d4] }
  | _ => none }
def bitempItemsRow : OpenClaim := { program := "ytcbgjecpnhjlpaa", sum := "490c90fbc2b9be5ba337ffc9dd8862e7810246b3393633801edc3729e362ca08", func := "seamark/seamarklaw27.BitempItems", spec := "bitempItems", unfollowed := true, recurses := true, apart := false }
def BitempItemsSaid : Prop := bitempItemsRow.holds Try.pinned (OpenSpec.ofChange bitempItemsSpec)

/-- ITS FALSE NEIGHBOUR: 'it returns false'. Refute it at one input. -/
def bitempItemsWrong : ChangeSpec := { name := "bitempItems", fn := fun _ => fun
  | [d1, d2, d3, d4] => { results := [.lit (.bool false)], args := [d1, d2, d3, d4] }
  | _ => none }
def BitempItemsWrongFalsely : Prop := bitempItemsRow.holds Try.pinned (OpenSpec.ofChange bitempItemsWrong)

/- THE SECOND FORM. 'bulk': how many values and letters a reading holds, each counted each time it is reached (what is shared counts as often as it is met; a slice's spare places count too). A statement '..UptoSaid' is the law's where the arguments, and the package variables that the reading takes, are together of bulk at most 1048576: NARROWER than '..Said'. Prove '..Said' where nothing that the law and all that it calls make is longer than what came in: it says more and counts as full. Else prove '..UptoSaid'. A law counts once. -/
mutual
def uptoBulk {H : Type} : DataW H → Nat
  | .lit (.string bytes) => bytes.length + 1
  | .lit _ => 1
  | .nil => 1
  | .ptr d => uptoBulk d + 1
  | .slice elems spare => uptoBulkAll elems + uptoBulkAll spare + 1
  | .agg parts => uptoBulkAll parts + 1
  | .iface _ d => uptoBulk d + 1
  | .map entries => uptoBulkEntries entries + 1
  | .held _ => 1
def uptoBulkAll {H : Type} : List (DataW H) → Nat
  | [] => 0
  | d :: r => uptoBulk d + uptoBulkAll r
def uptoBulkEntries {H : Type} : List (Lit × DataW H) → Nat
  | [] => 0
  | x :: r => uptoBulkEntry x + uptoBulkEntries r
def uptoBulkEntry {H : Type} : Lit × DataW H → Nat
  | (.string bytes, d) => bytes.length + uptoBulk d + 1
  | (_, d) => uptoBulk d + 1
 end
def uptoSmall : (H : Type) → List (DataW H) → Bool := fun _ ds => decide (uptoBulkAll ds ≤ 1048576)
def OpenSpec.upto (s : _root_.Go.ChangeSpec) : _root_.Go.OpenSpec := { _root_.Go.OpenSpec.ofChange s with cond := some uptoSmall }

/-- 'seamarklaw27.BitempMatchesReference', WHERE WHAT IT READS IS OF BULK AT MOST 1048576: true; the input reads as it did. -/
def bitempMatchesReferenceUptoRow : OpenClaim := { program := "ytcbgjecpnhjlpaa", sum := "490c90fbc2b9be5ba337ffc9dd8862e7810246b3393633801edc3729e362ca08", func := "seamark/seamarklaw27.BitempMatchesReference", spec := "bitempMatchesReference", unfollowed := true, recurses := true, apart := false, narrowed := true }
def BitempMatchesReferenceUptoSaid : Prop := bitempMatchesReferenceUptoRow.holds Try.pinned (OpenSpec.upto bitempMatchesReferenceSpec)

/-- 'seamarklaw27.BitempNever', WHERE WHAT IT READS IS OF BULK AT MOST 1048576: true; the input reads as it did. -/
def bitempNeverUptoRow : OpenClaim := { program := "ytcbgjecpnhjlpaa", sum := "490c90fbc2b9be5ba337ffc9dd8862e7810246b3393633801edc3729e362ca08", func := "seamark/seamarklaw27.BitempNever", spec := "bitempNever", unfollowed := true, recurses := true, apart := false, narrowed := true }
def BitempNeverUptoSaid : Prop := bitempNeverUptoRow.holds Try.pinned (OpenSpec.upto bitempNeverSpec)

/-- 'seamarklaw27.BitempSaid', WHERE WHAT IT READS IS OF BULK AT MOST 1048576: true; the input reads as it did. -/
def bitempSaidUptoRow : OpenClaim := { program := "ytcbgjecpnhjlpaa", sum := "490c90fbc2b9be5ba337ffc9dd8862e7810246b3393633801edc3729e362ca08", func := "seamark/seamarklaw27.BitempSaid", spec := "bitempSaid", unfollowed := true, recurses := true, apart := false, narrowed := true }
def BitempSaidUptoSaid : Prop := bitempSaidUptoRow.holds Try.pinned (OpenSpec.upto bitempSaidSpec)

/-- 'seamarklaw27.BitempHistory', WHERE WHAT IT READS IS OF BULK AT MOST 1048576: true; the input reads as it did. -/
def bitempHistoryUptoRow : OpenClaim := { program := "ytcbgjecpnhjlpaa", sum := "490c90fbc2b9be5ba337ffc9dd8862e7810246b3393633801edc3729e362ca08", func := "seamark/seamarklaw27.BitempHistory", spec := "bitempHistory", unfollowed := true, recurses := true, apart := false, narrowed := true }
def BitempHistoryUptoSaid : Prop := bitempHistoryUptoRow.holds Try.pinned (OpenSpec.upto bitempHistorySpec)

/-- 'seamarklaw27.BitempChanged', WHERE WHAT IT READS IS OF BULK AT MOST 1048576: true; the input reads as it did. -/
def bitempChangedUptoRow : OpenClaim := { program := "ytcbgjecpnhjlpaa", sum := "490c90fbc2b9be5ba337ffc9dd8862e7810246b3393633801edc3729e362ca08", func := "seamark/seamarklaw27.BitempChanged", spec := "bitempChanged", unfollowed := true, recurses := true, apart := false, narrowed := true }
def BitempChangedUptoSaid : Prop := bitempChangedUptoRow.holds Try.pinned (OpenSpec.upto bitempChangedSpec)

/-- 'seamarklaw27.BitempKnew', WHERE WHAT IT READS IS OF BULK AT MOST 1048576: true; the input reads as it did. -/
def bitempKnewUptoRow : OpenClaim := { program := "ytcbgjecpnhjlpaa", sum := "490c90fbc2b9be5ba337ffc9dd8862e7810246b3393633801edc3729e362ca08", func := "seamark/seamarklaw27.BitempKnew", spec := "bitempKnew", unfollowed := true, recurses := true, apart := false, narrowed := true }
def BitempKnewUptoSaid : Prop := bitempKnewUptoRow.holds Try.pinned (OpenSpec.upto bitempKnewSpec)

/-- 'seamarklaw27.BitempMerged', WHERE WHAT IT READS IS OF BULK AT MOST 1048576: true; the input reads as it did. -/
def bitempMergedUptoRow : OpenClaim := { program := "ytcbgjecpnhjlpaa", sum := "490c90fbc2b9be5ba337ffc9dd8862e7810246b3393633801edc3729e362ca08", func := "seamark/seamarklaw27.BitempMerged", spec := "bitempMerged", unfollowed := true, recurses := true, apart := false, narrowed := true }
def BitempMergedUptoSaid : Prop := bitempMergedUptoRow.holds Try.pinned (OpenSpec.upto bitempMergedSpec)

/-- 'seamarklaw27.BitempItems', WHERE WHAT IT READS IS OF BULK AT MOST 1048576: true; the input reads as it did. -/
def bitempItemsUptoRow : OpenClaim := { program := "ytcbgjecpnhjlpaa", sum := "490c90fbc2b9be5ba337ffc9dd8862e7810246b3393633801edc3729e362ca08", func := "seamark/seamarklaw27.BitempItems", spec := "bitempItems", unfollowed := true, recurses := true, apart := false, narrowed := true }
def BitempItemsUptoSaid : Prop := bitempItemsUptoRow.holds Try.pinned (OpenSpec.upto bitempItemsSpec)

end Rows
end Go.Proofs.Ytcbgjecpnhjlpaa
