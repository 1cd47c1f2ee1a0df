/-
  No cell of these rows narrows 'for every input' (looked for: loops, veiled, ifaces, maps, wideKeys, modest, calm, conditions, laid).
  DERIVED. THE GIVEN ROWS OF THIS SEAT. 8 by the template 'for every input the law returns true; each argument reads behind the call as it read before'; 0 by the template 'total and deterministic' (their statements: YtmpmkeiepfknoaaTotals.lean).
  GIVEN WITH THE SEED: the statements are not yours to turn. If you find one false, say at which input.
  Laid BY PROGRAM, IN A SANDBOX (cutbox-rows.mjs): the forced cells as the released guide's own fill.sh prints them over the translation de928c8611d15cd0… (all of the seat's roots in one cut). By AI agents, Wed Nov 11 2026. No macro, syntax, notation, axiom, sorry.
-/
import Derived.Test.YtmpmkeiepfknoaaChecked
import GoSem.Claim
import GoSem.ClaimJoined
import GoSem.ClaimMapViews
import Derived.JoinedTies
import Derived.KernelRfl
namespace Go.Proofs.Ytmpmkeiepfknoaa
/- THE CELL 'sum', in the pinned program and in every row, IS THE sha256 OF THE DUMP (.gsa) THAT YtmpmkeiepfknoaaProg.lean LOADS. Nothing in Lean hashes anything: it is a label: what it is worth is what the hold of that sum in a sandbox is worth. -/
noncomputable def Try.pinned : Pinned := { name := "ytmpmkeiepfknoaa", sum := "de928c8611d15cd0726c4ff715606ab137887767ff6898603c9a0127ac156e42", checked := Try.checked }
namespace Rows
def none {H : Type} : Left H := { results := [], args := [] }

/-- 'seamarklaw02.SpanSums': WHATEVER THE INPUT: true; the input reads as it did. -/
def spanSumsSpec : ChangeSpec := { name := "spanSums", fn := fun _ => fun
  | [d1, d2, d3, d4] => { results := [.lit (.bool true)], args := [d1, d2, d3, d4] }
  | _ => none }
def spanSumsRow : OpenClaim := { program := "ytmpmkeiepfknoaa", sum := "de928c8611d15cd0726c4ff715606ab137887767ff6898603c9a0127ac156e42", func := "seamark/seamarklaw02.SpanSums", spec := "spanSums", unfollowed := true, recurses := true, apart := false }
def SpanSumsSaid : Prop := spanSumsRow.holds Try.pinned (OpenSpec.ofChange spanSumsSpec)

/-- ITS FALSE NEIGHBOUR: 'it returns false'. Refute it at one input. -/
def spanSumsWrong : ChangeSpec := { name := "spanSums", fn := fun _ => fun
  | [d1, d2, d3, d4] => { results := [.lit (.bool false)], args := [d1, d2, d3, d4] }
  | _ => none }
def SpanSumsWrongFalsely : Prop := spanSumsRow.holds Try.pinned (OpenSpec.ofChange spanSumsWrong)

/-- 'seamarklaw02.SpanScaled': WHATEVER THE INPUT: true; the input reads as it did. -/
def spanScaledSpec : ChangeSpec := { name := "spanScaled", fn := fun _ => fun
  | [d1, d2, d3, d4] => { results := [.lit (.bool true)], args := [d1, d2, d3, d4] }
  | _ => none }
def spanScaledRow : OpenClaim := { program := "ytmpmkeiepfknoaa", sum := "de928c8611d15cd0726c4ff715606ab137887767ff6898603c9a0127ac156e42", func := "seamark/seamarklaw02.SpanScaled", spec := "spanScaled", unfollowed := true, recurses := true, apart := false }
def SpanScaledSaid : Prop := spanScaledRow.holds Try.pinned (OpenSpec.ofChange spanScaledSpec)

/-- ITS FALSE NEIGHBOUR: 'it returns false'. Refute it at one input. -/
def spanScaledWrong : ChangeSpec := { name := "spanScaled", fn := fun _ => fun
  | [d1, d2, d3, d4] => { results := [.lit (.bool false)], args := [d1, d2, d3, d4] }
  | _ => none }
def SpanScaledWrongFalsely : Prop := spanScaledRow.holds Try.pinned (OpenSpec.ofChange spanScaledWrong)

/-- 'seamarklaw02.SpanMeets': WHATEVER THE INPUT: true; the input reads as it did. -/
def spanMeetsSpec : ChangeSpec := { name := "spanMeets", fn := fun _ => fun
  | [d1, d2, d3] => { results := [.lit (.bool true)], args := [d1, d2, d3] }
  | _ => none }
def spanMeetsRow : OpenClaim := { program := "ytmpmkeiepfknoaa", sum := "de928c8611d15cd0726c4ff715606ab137887767ff6898603c9a0127ac156e42", func := "seamark/seamarklaw02.SpanMeets", spec := "spanMeets", unfollowed := true, recurses := true, apart := false }
def SpanMeetsSaid : Prop := spanMeetsRow.holds Try.pinned (OpenSpec.ofChange spanMeetsSpec)

/-- ITS FALSE NEIGHBOUR: 'it returns false'. Refute it at one input. -/
def spanMeetsWrong : ChangeSpec := { name := "spanMeets", fn := fun _ => fun
  | [d1, d2, d3] => { results := [.lit (.bool false)], args := [d1, d2, d3] }
  | _ => none }
def SpanMeetsWrongFalsely : Prop := spanMeetsRow.holds Try.pinned (OpenSpec.ofChange spanMeetsWrong)

/-- 'seamarklaw02.SpanJoined': WHATEVER THE INPUT: true; the input reads as it did. -/
def spanJoinedSpec : ChangeSpec := { name := "spanJoined", fn := fun _ => fun
  | [d1, d2, d3] => { results := [.lit (.bool true)], args := [d1, d2, d3] }
  | _ => none }
def spanJoinedRow : OpenClaim := { program := "ytmpmkeiepfknoaa", sum := "de928c8611d15cd0726c4ff715606ab137887767ff6898603c9a0127ac156e42", func := "seamark/seamarklaw02.SpanJoined", spec := "spanJoined", unfollowed := true, recurses := true, apart := false }
def SpanJoinedSaid : Prop := spanJoinedRow.holds Try.pinned (OpenSpec.ofChange spanJoinedSpec)

/-- ITS FALSE NEIGHBOUR: 'it returns false'. Refute it at one input. -/
def spanJoinedWrong : ChangeSpec := { name := "spanJoined", fn := fun _ => fun
  | [d1, d2, d3] => { results := [.lit (.bool false)], args := [d1, d2, d3] }
  | _ => none }
def SpanJoinedWrongFalsely : Prop := spanJoinedRow.holds Try.pinned (OpenSpec.ofChange spanJoinedWrong)

/-- 'seamarklaw02.SpanOrder': WHATEVER THE INPUT: true; the input reads as it did. -/
def spanOrderSpec : ChangeSpec := { name := "spanOrder", fn := fun _ => fun
  | [d1, d2, d3, d4, d5] => { results := [.lit (.bool true)], args := [d1, d2, d3, d4, d5] }
  | _ => none }
def spanOrderRow : OpenClaim := { program := "ytmpmkeiepfknoaa", sum := "de928c8611d15cd0726c4ff715606ab137887767ff6898603c9a0127ac156e42", func := "seamark/seamarklaw02.SpanOrder", spec := "spanOrder", unfollowed := true, recurses := true, apart := false }
def SpanOrderSaid : Prop := spanOrderRow.holds Try.pinned (OpenSpec.ofChange spanOrderSpec)

/-- ITS FALSE NEIGHBOUR: 'it returns false'. Refute it at one input. -/
def spanOrderWrong : ChangeSpec := { name := "spanOrder", fn := fun _ => fun
  | [d1, d2, d3, d4, d5] => { results := [.lit (.bool false)], args := [d1, d2, d3, d4, d5] }
  | _ => none }
def SpanOrderWrongFalsely : Prop := spanOrderRow.holds Try.pinned (OpenSpec.ofChange spanOrderWrong)

/-- 'seamarklaw02.SpanGrown': WHATEVER THE INPUT: true; the input reads as it did. -/
def spanGrownSpec : ChangeSpec := { name := "spanGrown", fn := fun _ => fun
  | [d1, d2, d3, d4] => { results := [.lit (.bool true)], args := [d1, d2, d3, d4] }
  | _ => none }
def spanGrownRow : OpenClaim := { program := "ytmpmkeiepfknoaa", sum := "de928c8611d15cd0726c4ff715606ab137887767ff6898603c9a0127ac156e42", func := "seamark/seamarklaw02.SpanGrown", spec := "spanGrown", unfollowed := true, recurses := true, apart := false }
def SpanGrownSaid : Prop := spanGrownRow.holds Try.pinned (OpenSpec.ofChange spanGrownSpec)

/-- ITS FALSE NEIGHBOUR: 'it returns false'. Refute it at one input. -/
def spanGrownWrong : ChangeSpec := { name := "spanGrown", fn := fun _ => fun
  | [d1, d2, d3, d4] => { results := [.lit (.bool false)], args := [d1, d2, d3, d4] }
  | _ => none }
def SpanGrownWrongFalsely : Prop := spanGrownRow.holds Try.pinned (OpenSpec.ofChange spanGrownWrong)

/-- 'seamarklaw02.SpanMatchesReference': WHATEVER THE INPUT: true; the input reads as it did. -/
def spanMatchesReferenceSpec : ChangeSpec := { name := "spanMatchesReference", fn := fun _ => fun
  | [d1, d2, d3, d4, d5, d6, d7, d8] => { results := [.lit (.bool true)], args := [d1, d2, d3, d4, d5, d6, d7, d8] }
  | _ => none }
def spanMatchesReferenceRow : OpenClaim := { program := "ytmpmkeiepfknoaa", sum := "de928c8611d15cd0726c4ff715606ab137887767ff6898603c9a0127ac156e42", func := "seamark/seamarklaw02.SpanMatchesReference", spec := "spanMatchesReference", unfollowed := true, recurses := true, apart := false }
def SpanMatchesReferenceSaid : Prop := spanMatchesReferenceRow.holds Try.pinned (OpenSpec.ofChange spanMatchesReferenceSpec)

/-- ITS FALSE NEIGHBOUR: 'it returns false'. Refute it at one input. -/
def spanMatchesReferenceWrong : ChangeSpec := { name := "spanMatchesReference", fn := fun _ => fun
  | [d1, d2, d3, d4, d5, d6, d7, d8] => { results := [.lit (.bool false)], args := [d1, d2, d3, d4, d5, d6, d7, d8] }
  | _ => none }
def SpanMatchesReferenceWrongFalsely : Prop := spanMatchesReferenceRow.holds Try.pinned (OpenSpec.ofChange spanMatchesReferenceWrong)

/-- 'seamarklaw02.SpanBoxes': WHATEVER THE INPUT: true; the input reads as it did. -/
def spanBoxesSpec : ChangeSpec := { name := "spanBoxes", fn := fun _ => fun
  | [d1, d2, d3] => { results := [.lit (.bool true)], args := [d1, d2, d3] }
  | _ => none }
def spanBoxesRow : OpenClaim := { program := "ytmpmkeiepfknoaa", sum := "de928c8611d15cd0726c4ff715606ab137887767ff6898603c9a0127ac156e42", func := "seamark/seamarklaw02.SpanBoxes", spec := "spanBoxes", unfollowed := true, recurses := true, apart := false }
def SpanBoxesSaid : Prop := spanBoxesRow.holds Try.pinned (OpenSpec.ofChange spanBoxesSpec)

/-- ITS FALSE NEIGHBOUR: 'it returns false'. Refute it at one input. -/
def spanBoxesWrong : ChangeSpec := { name := "spanBoxes", fn := fun _ => fun
  | [d1, d2, d3] => { results := [.lit (.bool false)], args := [d1, d2, d3] }
  | _ => none }
def SpanBoxesWrongFalsely : Prop := spanBoxesRow.holds Try.pinned (OpenSpec.ofChange spanBoxesWrong)

/- THE SECOND FORM. 'bulk': how many values and letters a reading holds, each counted each time it is reached (what is shared counts as often as it is met; a slice's spare places count too). A statement '..UptoSaid' is the law's where the arguments, and the package variables that the reading takes, are together of bulk at most 1048576: NARROWER than '..Said'. Prove '..Said' where nothing that the law and all that it calls make is longer than what came in: it says more and counts as full. Else prove '..UptoSaid'. A law counts once. -/
mutual
def uptoBulk {H : Type} : DataW H → Nat
  | .lit (.string bytes) => bytes.length + 1
  | .lit _ => 1
  | .nil => 1
  | .ptr d => uptoBulk d + 1
  | .slice elems spare => uptoBulkAll elems + uptoBulkAll spare + 1
  | .agg parts => uptoBulkAll parts + 1
  | .iface _ d => uptoBulk d + 1
  | .map entries => uptoBulkEntries entries + 1
  | .held _ => 1
def uptoBulkAll {H : Type} : List (DataW H) → Nat
  | [] => 0
  | d :: r => uptoBulk d + uptoBulkAll r
def uptoBulkEntries {H : Type} : List (Lit × DataW H) → Nat
  | [] => 0
  | x :: r => uptoBulkEntry x + uptoBulkEntries r
def uptoBulkEntry {H : Type} : Lit × DataW H → Nat
  | (.string bytes, d) => bytes.length + uptoBulk d + 1
  | (_, d) => uptoBulk d + 1
 end
def uptoSmall : (H : Type) → List (DataW H) → Bool := fun _ ds => decide (uptoBulkAll ds ≤ 1048576)
def OpenSpec.upto (s : _root_.Go.ChangeSpec) : _root_.Go.OpenSpec := { _root_.Go.OpenSpec.ofChange s with cond := some uptoSmall }

/-- 'seamarklaw02.SpanSums', WHERE WHAT IT READS IS OF BULK AT MOST 1048576: true; the input reads as it did. -/
def spanSumsUptoRow : OpenClaim := { program := "ytmpmkeiepfknoaa", sum := "de928c8611d15cd0726c4ff715606ab137887767ff6898603c9a0127ac156e42", func := "seamark/seamarklaw02.SpanSums", spec := "spanSums", unfollowed := true, recurses := true, apart := false, narrowed := true }
def SpanSumsUptoSaid : Prop := spanSumsUptoRow.holds Try.pinned (OpenSpec.upto spanSumsSpec)

/-- 'seamarklaw02.SpanScaled', WHERE WHAT IT READS IS OF BULK AT MOST 1048576: true; the input reads as it did. -/
def spanScaledUptoRow : OpenClaim := { program := "ytmpmkeiepfknoaa", sum := "de928c8611d15cd0726c4ff715606ab137887767ff6898603c9a0127ac156e42", func := "seamark/seamarklaw02.SpanScaled", spec := "spanScaled", unfollowed := true, recurses := true, apart := false, narrowed := true }
def SpanScaledUptoSaid : Prop := spanScaledUptoRow.holds Try.pinned (OpenSpec.upto spanScaledSpec)

/-- 'seamarklaw02.SpanMeets', WHERE WHAT IT READS IS OF BULK AT MOST 1048576: true; the input reads as it did. -/
def spanMeetsUptoRow : OpenClaim := { program := "ytmpmkeiepfknoaa", sum := "de928c8611d15cd0726c4ff715606ab137887767ff6898603c9a0127ac156e42", func := "seamark/seamarklaw02.SpanMeets", spec := "spanMeets", unfollowed := true, recurses := true, apart := false, narrowed := true }
def SpanMeetsUptoSaid : Prop := spanMeetsUptoRow.holds Try.pinned (OpenSpec.upto spanMeetsSpec)

/-- 'seamarklaw02.SpanJoined', WHERE WHAT IT READS IS OF BULK AT MOST 1048576: true; the input reads as it did. -/
def spanJoinedUptoRow : OpenClaim := { program := "ytmpmkeiepfknoaa", sum := "de928c8611d15cd0726c4ff715606ab137887767ff6898603c9a0127ac156e42", func := "seamark/seamarklaw02.SpanJoined", spec := "spanJoined", unfollowed := true, recurses := true, apart := false, narrowed := true }
def SpanJoinedUptoSaid : Prop := spanJoinedUptoRow.holds Try.pinned (OpenSpec.upto spanJoinedSpec)

/-- 'seamarklaw02.SpanOrder', WHERE WHAT IT READS IS OF BULK AT MOST 1048576: true; the input reads as it did. -/
def spanOrderUptoRow : OpenClaim := { program := "ytmpmkeiepfknoaa", sum := "de928c8611d15cd0726c4ff715606ab137887767ff6898603c9a0127ac156e42", func := "seamark/seamarklaw02.SpanOrder", spec := "spanOrder", unfollowed := true, recurses := true, apart := false, narrowed := true }
def SpanOrderUptoSaid : Prop := spanOrderUptoRow.holds Try.pinned (OpenSpec.upto spanOrderSpec)

/-- 'seamarklaw02.SpanGrown', WHERE WHAT IT READS IS OF BULK AT MOST 1048576: true; the input reads as it did. -/
def spanGrownUptoRow : OpenClaim := { program := "ytmpmkeiepfknoaa", sum := "de928c8611d15cd0726c4ff715606ab137887767ff6898603c9a0127ac156e42", func := "seamark/seamarklaw02.SpanGrown", spec := "spanGrown", unfollowed := true, recurses := true, apart := false, narrowed := true }
def SpanGrownUptoSaid : Prop := spanGrownUptoRow.holds Try.pinned (OpenSpec.upto spanGrownSpec)

/-- 'seamarklaw02.SpanMatchesReference', WHERE WHAT IT READS IS OF BULK AT MOST 1048576: true; the input reads as it did. -/
def spanMatchesReferenceUptoRow : OpenClaim := { program := "ytmpmkeiepfknoaa", sum := "de928c8611d15cd0726c4ff715606ab137887767ff6898603c9a0127ac156e42", func := "seamark/seamarklaw02.SpanMatchesReference", spec := "spanMatchesReference", unfollowed := true, recurses := true, apart := false, narrowed := true }
def SpanMatchesReferenceUptoSaid : Prop := spanMatchesReferenceUptoRow.holds Try.pinned (OpenSpec.upto spanMatchesReferenceSpec)

/-- 'seamarklaw02.SpanBoxes', WHERE WHAT IT READS IS OF BULK AT MOST 1048576: true; the input reads as it did. -/
def spanBoxesUptoRow : OpenClaim := { program := "ytmpmkeiepfknoaa", sum := "de928c8611d15cd0726c4ff715606ab137887767ff6898603c9a0127ac156e42", func := "seamark/seamarklaw02.SpanBoxes", spec := "spanBoxes", unfollowed := true, recurses := true, apart := false, narrowed := true }
def SpanBoxesUptoSaid : Prop := spanBoxesUptoRow.holds Try.pinned (OpenSpec.upto spanBoxesSpec)

end Rows
end Go.Proofs.Ytmpmkeiepfknoaa
