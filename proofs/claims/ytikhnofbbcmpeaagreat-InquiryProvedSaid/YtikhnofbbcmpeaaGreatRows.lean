/-
  No cell of these rows narrows 'for every input' (looked for: loops, veiled, ifaces, maps, wideKeys, modest, calm, conditions, laid).
  DERIVED. THE GIVEN ROWS OF THIS SEAT. 9 by the template 'for every input the law returns true; each argument reads behind the call as it read before'; 0 by the template 'total and deterministic' (their statements: YtikhnofbbcmpeaaGreatTotals.lean).
  GIVEN WITH THE SEED: the statements are not yours to turn. If you find one false, say at which input.
  Laid BY PROGRAM, IN A SANDBOX (cutbox-rows.mjs): the forced cells as the released guide's own fill.sh prints them over the translation 627c8a3928bc4bc6… (all of the seat's roots in one cut). By AI agents, Wed Nov 11 2026. No macro, syntax, notation, axiom, sorry.
-/
import Derived.Test.YtikhnofbbcmpeaaGreatChecked
import GoSem.Claim
import GoSem.ClaimJoined
import GoSem.ClaimMapViews
import Derived.JoinedTies
import Derived.KernelRfl
namespace Go.Proofs.YtikhnofbbcmpeaaGreat
/- THE CELL 'sum', in the pinned program and in every row, IS THE sha256 OF THE DUMP (.gsa) THAT YtikhnofbbcmpeaaGreatProg.lean LOADS. Nothing in Lean hashes anything: it is a label: what it is worth is what the hold of that sum in a sandbox is worth. -/
noncomputable def Tryz.pinned : Pinned := { name := "ytikhnofbbcmpeaagreat", sum := "627c8a3928bc4bc65849d1c24e3788f3f706d308183661308273ddbcac3c2fd8", checked := Tryz.checked }
namespace Rows
def none {H : Type} : Left H := { results := [], args := [] }

/-- 'seamarklaw44.InquiryChains': WHATEVER THE INPUT: true; the input reads as it did. -/
def inquiryChainsSpec : ChangeSpec := { name := "inquiryChains", fn := fun _ => fun
  | [d1, d2, d3, d4, d5] => { results := [.lit (.bool true)], args := [d1, d2, d3, d4, d5] }
  | _ => none }
def inquiryChainsRow : OpenClaim := { program := "ytikhnofbbcmpeaagreat", sum := "627c8a3928bc4bc65849d1c24e3788f3f706d308183661308273ddbcac3c2fd8", func := "seamark/seamarklaw44.InquiryChains", spec := "inquiryChains", unfollowed := true, recurses := true, plainKeys := false, apart := false }
def InquiryChainsSaid : Prop := inquiryChainsRow.holds Tryz.pinned (OpenSpec.ofChange inquiryChainsSpec)

/-- ITS FALSE NEIGHBOUR: 'it returns false'. Refute it at one input. -/
def inquiryChainsWrong : ChangeSpec := { name := "inquiryChains", fn := fun _ => fun
  | [d1, d2, d3, d4, d5] => { results := [.lit (.bool false)], args := [d1, d2, d3, d4, d5] }
  | _ => none }
def InquiryChainsWrongFalsely : Prop := inquiryChainsRow.holds Tryz.pinned (OpenSpec.ofChange inquiryChainsWrong)

/-- 'seamarklaw44.InquiryKnown': WHATEVER THE INPUT: true; the input reads as it did. -/
def inquiryKnownSpec : ChangeSpec := { name := "inquiryKnown", fn := fun _ => fun
  | [d1, d2, d3, d4, d5] => { results := [.lit (.bool true)], args := [d1, d2, d3, d4, d5] }
  | _ => none }
def inquiryKnownRow : OpenClaim := { program := "ytikhnofbbcmpeaagreat", sum := "627c8a3928bc4bc65849d1c24e3788f3f706d308183661308273ddbcac3c2fd8", func := "seamark/seamarklaw44.InquiryKnown", spec := "inquiryKnown", unfollowed := true, recurses := true, plainKeys := false, apart := false }
def InquiryKnownSaid : Prop := inquiryKnownRow.holds Tryz.pinned (OpenSpec.ofChange inquiryKnownSpec)

/-- ITS FALSE NEIGHBOUR: 'it returns false'. Refute it at one input. -/
def inquiryKnownWrong : ChangeSpec := { name := "inquiryKnown", fn := fun _ => fun
  | [d1, d2, d3, d4, d5] => { results := [.lit (.bool false)], args := [d1, d2, d3, d4, d5] }
  | _ => none }
def InquiryKnownWrongFalsely : Prop := inquiryKnownRow.holds Tryz.pinned (OpenSpec.ofChange inquiryKnownWrong)

/-- 'seamarklaw44.InquiryGaps': WHATEVER THE INPUT: true; the input reads as it did. -/
def inquiryGapsSpec : ChangeSpec := { name := "inquiryGaps", fn := fun _ => fun
  | [d1, d2, d3, d4, d5] => { results := [.lit (.bool true)], args := [d1, d2, d3, d4, d5] }
  | _ => none }
def inquiryGapsRow : OpenClaim := { program := "ytikhnofbbcmpeaagreat", sum := "627c8a3928bc4bc65849d1c24e3788f3f706d308183661308273ddbcac3c2fd8", func := "seamark/seamarklaw44.InquiryGaps", spec := "inquiryGaps", unfollowed := true, recurses := true, plainKeys := false, apart := false }
def InquiryGapsSaid : Prop := inquiryGapsRow.holds Tryz.pinned (OpenSpec.ofChange inquiryGapsSpec)

/-- ITS FALSE NEIGHBOUR: 'it returns false'. Refute it at one input. -/
def inquiryGapsWrong : ChangeSpec := { name := "inquiryGaps", fn := fun _ => fun
  | [d1, d2, d3, d4, d5] => { results := [.lit (.bool false)], args := [d1, d2, d3, d4, d5] }
  | _ => none }
def InquiryGapsWrongFalsely : Prop := inquiryGapsRow.holds Tryz.pinned (OpenSpec.ofChange inquiryGapsWrong)

/-- 'seamarklaw44.InquiryExplained': WHATEVER THE INPUT: true; the input reads as it did. -/
def inquiryExplainedSpec : ChangeSpec := { name := "inquiryExplained", fn := fun _ => fun
  | [d1, d2, d3, d4, d5] => { results := [.lit (.bool true)], args := [d1, d2, d3, d4, d5] }
  | _ => none }
def inquiryExplainedRow : OpenClaim := { program := "ytikhnofbbcmpeaagreat", sum := "627c8a3928bc4bc65849d1c24e3788f3f706d308183661308273ddbcac3c2fd8", func := "seamark/seamarklaw44.InquiryExplained", spec := "inquiryExplained", unfollowed := true, recurses := true, plainKeys := false, apart := false }
def InquiryExplainedSaid : Prop := inquiryExplainedRow.holds Tryz.pinned (OpenSpec.ofChange inquiryExplainedSpec)

/-- ITS FALSE NEIGHBOUR: 'it returns false'. Refute it at one input. -/
def inquiryExplainedWrong : ChangeSpec := { name := "inquiryExplained", fn := fun _ => fun
  | [d1, d2, d3, d4, d5] => { results := [.lit (.bool false)], args := [d1, d2, d3, d4, d5] }
  | _ => none }
def InquiryExplainedWrongFalsely : Prop := inquiryExplainedRow.holds Tryz.pinned (OpenSpec.ofChange inquiryExplainedWrong)

/-- 'seamarklaw44.InquiryFewest': WHATEVER THE INPUT: true; the input reads as it did. -/
def inquiryFewestSpec : ChangeSpec := { name := "inquiryFewest", fn := fun _ => fun
  | [d1, d2, d3, d4, d5, d6] => { results := [.lit (.bool true)], args := [d1, d2, d3, d4, d5, d6] }
  | _ => none }
def inquiryFewestRow : OpenClaim := { program := "ytikhnofbbcmpeaagreat", sum := "627c8a3928bc4bc65849d1c24e3788f3f706d308183661308273ddbcac3c2fd8", func := "seamark/seamarklaw44.InquiryFewest", spec := "inquiryFewest", unfollowed := true, recurses := true, plainKeys := false, apart := false }
def InquiryFewestSaid : Prop := inquiryFewestRow.holds Tryz.pinned (OpenSpec.ofChange inquiryFewestSpec)

/-- ITS FALSE NEIGHBOUR: 'it returns false'. Refute it at one input. -/
def inquiryFewestWrong : ChangeSpec := { name := "inquiryFewest", fn := fun _ => fun
  | [d1, d2, d3, d4, d5, d6] => { results := [.lit (.bool false)], args := [d1, d2, d3, d4, d5, d6] }
  | _ => none }
def InquiryFewestWrongFalsely : Prop := inquiryFewestRow.holds Tryz.pinned (OpenSpec.ofChange inquiryFewestWrong)

/-- 'seamarklaw44.InquiryProved': WHATEVER THE INPUT: true; the input reads as it did. -/
def inquiryProvedSpec : ChangeSpec := { name := "inquiryProved", fn := fun _ => fun
  | [d1, d2, d3, d4, d5, d6, d7] => { results := [.lit (.bool true)], args := [d1, d2, d3, d4, d5, d6, d7] }
  | _ => none }
def inquiryProvedRow : OpenClaim := { program := "ytikhnofbbcmpeaagreat", sum := "627c8a3928bc4bc65849d1c24e3788f3f706d308183661308273ddbcac3c2fd8", func := "seamark/seamarklaw44.InquiryProved", spec := "inquiryProved", unfollowed := true, recurses := true, plainKeys := false, apart := false }
def InquiryProvedSaid : Prop := inquiryProvedRow.holds Tryz.pinned (OpenSpec.ofChange inquiryProvedSpec)

/-- ITS FALSE NEIGHBOUR: 'it returns false'. Refute it at one input. -/
def inquiryProvedWrong : ChangeSpec := { name := "inquiryProved", fn := fun _ => fun
  | [d1, d2, d3, d4, d5, d6, d7] => { results := [.lit (.bool false)], args := [d1, d2, d3, d4, d5, d6, d7] }
  | _ => none }
def InquiryProvedWrongFalsely : Prop := inquiryProvedRow.holds Tryz.pinned (OpenSpec.ofChange inquiryProvedWrong)

/-- 'seamarklaw44.InquiryBetter': WHATEVER THE INPUT: true; the input reads as it did. -/
def inquiryBetterSpec : ChangeSpec := { name := "inquiryBetter", fn := fun _ => fun
  | [d1, d2, d3, d4, d5, d6, d7] => { results := [.lit (.bool true)], args := [d1, d2, d3, d4, d5, d6, d7] }
  | _ => none }
def inquiryBetterRow : OpenClaim := { program := "ytikhnofbbcmpeaagreat", sum := "627c8a3928bc4bc65849d1c24e3788f3f706d308183661308273ddbcac3c2fd8", func := "seamark/seamarklaw44.InquiryBetter", spec := "inquiryBetter", unfollowed := true, recurses := true, plainKeys := false, apart := false }
def InquiryBetterSaid : Prop := inquiryBetterRow.holds Tryz.pinned (OpenSpec.ofChange inquiryBetterSpec)

/-- ITS FALSE NEIGHBOUR: 'it returns false'. Refute it at one input. -/
def inquiryBetterWrong : ChangeSpec := { name := "inquiryBetter", fn := fun _ => fun
  | [d1, d2, d3, d4, d5, d6, d7] => { results := [.lit (.bool false)], args := [d1, d2, d3, d4, d5, d6, d7] }
  | _ => none }
def InquiryBetterWrongFalsely : Prop := inquiryBetterRow.holds Tryz.pinned (OpenSpec.ofChange inquiryBetterWrong)

/-- 'seamarklaw44.InquiryMatchesReference': WHATEVER THE INPUT: true; the input reads as it did. -/
def inquiryMatchesReferenceSpec : ChangeSpec := { name := "inquiryMatchesReference", fn := fun _ => fun
  | [d1, d2, d3, d4, d5, d6, d7, d8, d9, d10, d11] => { results := [.lit (.bool true)], args := [d1, d2, d3, d4, d5, d6, d7, d8, d9, d10, d11] }
  | _ => none }
def inquiryMatchesReferenceRow : OpenClaim := { program := "ytikhnofbbcmpeaagreat", sum := "627c8a3928bc4bc65849d1c24e3788f3f706d308183661308273ddbcac3c2fd8", func := "seamark/seamarklaw44.InquiryMatchesReference", spec := "inquiryMatchesReference", unfollowed := true, recurses := true, plainKeys := false, apart := false }
def InquiryMatchesReferenceSaid : Prop := inquiryMatchesReferenceRow.holds Tryz.pinned (OpenSpec.ofChange inquiryMatchesReferenceSpec)

/-- ITS FALSE NEIGHBOUR: 'it returns false'. Refute it at one input. -/
def inquiryMatchesReferenceWrong : ChangeSpec := { name := "inquiryMatchesReference", fn := fun _ => fun
  | [d1, d2, d3, d4, d5, d6, d7, d8, d9, d10, d11] => { results := [.lit (.bool false)], args := [d1, d2, d3, d4, d5, d6, d7, d8, d9, d10, d11] }
  | _ => none }
def InquiryMatchesReferenceWrongFalsely : Prop := inquiryMatchesReferenceRow.holds Tryz.pinned (OpenSpec.ofChange inquiryMatchesReferenceWrong)

/-- 'seamarklaw44.InquirySeals': WHATEVER THE INPUT: true; the input reads as it did. -/
def inquirySealsSpec : ChangeSpec := { name := "inquirySeals", fn := fun _ => fun
  | [d1, d2, d3, d4, d5, d6] => { results := [.lit (.bool true)], args := [d1, d2, d3, d4, d5, d6] }
  | _ => none }
def inquirySealsRow : OpenClaim := { program := "ytikhnofbbcmpeaagreat", sum := "627c8a3928bc4bc65849d1c24e3788f3f706d308183661308273ddbcac3c2fd8", func := "seamark/seamarklaw44.InquirySeals", spec := "inquirySeals", unfollowed := true, recurses := true, plainKeys := false, apart := false }
def InquirySealsSaid : Prop := inquirySealsRow.holds Tryz.pinned (OpenSpec.ofChange inquirySealsSpec)

/-- ITS FALSE NEIGHBOUR: 'it returns false'. Refute it at one input. -/
def inquirySealsWrong : ChangeSpec := { name := "inquirySeals", fn := fun _ => fun
  | [d1, d2, d3, d4, d5, d6] => { results := [.lit (.bool false)], args := [d1, d2, d3, d4, d5, d6] }
  | _ => none }
def InquirySealsWrongFalsely : Prop := inquirySealsRow.holds Tryz.pinned (OpenSpec.ofChange inquirySealsWrong)

/- THE SECOND FORM. 'bulk': how many values and letters a reading holds, each counted each time it is reached (what is shared counts as often as it is met; a slice's spare places count too). A statement '..UptoSaid' is the law's where the arguments, and the package variables that the reading takes, are together of bulk at most 1048576: NARROWER than '..Said'. Prove '..Said' where nothing that the law and all that it calls make is longer than what came in: it says more and counts as full. Else prove '..UptoSaid'. A law counts once. -/
mutual
def uptoBulk {H : Type} : DataW H → Nat
  | .lit (.string bytes) => bytes.length + 1
  | .lit _ => 1
  | .nil => 1
  | .ptr d => uptoBulk d + 1
  | .slice elems spare => uptoBulkAll elems + uptoBulkAll spare + 1
  | .agg parts => uptoBulkAll parts + 1
  | .iface _ d => uptoBulk d + 1
  | .map entries => uptoBulkEntries entries + 1
  | .held _ => 1
def uptoBulkAll {H : Type} : List (DataW H) → Nat
  | [] => 0
  | d :: r => uptoBulk d + uptoBulkAll r
def uptoBulkEntries {H : Type} : List (Lit × DataW H) → Nat
  | [] => 0
  | x :: r => uptoBulkEntry x + uptoBulkEntries r
def uptoBulkEntry {H : Type} : Lit × DataW H → Nat
  | (.string bytes, d) => bytes.length + uptoBulk d + 1
  | (_, d) => uptoBulk d + 1
 end
def uptoSmall : (H : Type) → List (DataW H) → Bool := fun _ ds => decide (uptoBulkAll ds ≤ 1048576)
def OpenSpec.upto (s : _root_.Go.ChangeSpec) : _root_.Go.OpenSpec := { _root_.Go.OpenSpec.ofChange s with cond := some uptoSmall }

/-- 'seamarklaw44.InquiryChains', WHERE WHAT IT READS IS OF BULK AT MOST 1048576: true; the input reads as it did. -/
def inquiryChainsUptoRow : OpenClaim := { program := "ytikhnofbbcmpeaagreat", sum := "627c8a3928bc4bc65849d1c24e3788f3f706d308183661308273ddbcac3c2fd8", func := "seamark/seamarklaw44.InquiryChains", spec := "inquiryChains", unfollowed := true, recurses := true, plainKeys := false, apart := false, narrowed := true }
def InquiryChainsUptoSaid : Prop := inquiryChainsUptoRow.holds Tryz.pinned (OpenSpec.upto inquiryChainsSpec)

/-- 'seamarklaw44.InquiryKnown', WHERE WHAT IT READS IS OF BULK AT MOST 1048576: true; the input reads as it did. -/
def inquiryKnownUptoRow : OpenClaim := { program := "ytikhnofbbcmpeaagreat", sum := "627c8a3928bc4bc65849d1c24e3788f3f706d308183661308273ddbcac3c2fd8", func := "seamark/seamarklaw44.InquiryKnown", spec := "inquiryKnown", unfollowed := true, recurses := true, plainKeys := false, apart := false, narrowed := true }
def InquiryKnownUptoSaid : Prop := inquiryKnownUptoRow.holds Tryz.pinned (OpenSpec.upto inquiryKnownSpec)

/-- 'seamarklaw44.InquiryGaps', WHERE WHAT IT READS IS OF BULK AT MOST 1048576: true; the input reads as it did. -/
def inquiryGapsUptoRow : OpenClaim := { program := "ytikhnofbbcmpeaagreat", sum := "627c8a3928bc4bc65849d1c24e3788f3f706d308183661308273ddbcac3c2fd8", func := "seamark/seamarklaw44.InquiryGaps", spec := "inquiryGaps", unfollowed := true, recurses := true, plainKeys := false, apart := false, narrowed := true }
def InquiryGapsUptoSaid : Prop := inquiryGapsUptoRow.holds Tryz.pinned (OpenSpec.upto inquiryGapsSpec)

/-- 'seamarklaw44.InquiryExplained', WHERE WHAT IT READS IS OF BULK AT MOST 1048576: true; the input reads as it did. -/
def inquiryExplainedUptoRow : OpenClaim := { program := "ytikhnofbbcmpeaagreat", sum := "627c8a3928bc4bc65849d1c24e3788f3f706d308183661308273ddbcac3c2fd8", func := "seamark/seamarklaw44.InquiryExplained", spec := "inquiryExplained", unfollowed := true, recurses := true, plainKeys := false, apart := false, narrowed := true }
def InquiryExplainedUptoSaid : Prop := inquiryExplainedUptoRow.holds Tryz.pinned (OpenSpec.upto inquiryExplainedSpec)

/-- 'seamarklaw44.InquiryFewest', WHERE WHAT IT READS IS OF BULK AT MOST 1048576: true; the input reads as it did. -/
def inquiryFewestUptoRow : OpenClaim := { program := "ytikhnofbbcmpeaagreat", sum := "627c8a3928bc4bc65849d1c24e3788f3f706d308183661308273ddbcac3c2fd8", func := "seamark/seamarklaw44.InquiryFewest", spec := "inquiryFewest", unfollowed := true, recurses := true, plainKeys := false, apart := false, narrowed := true }
def InquiryFewestUptoSaid : Prop := inquiryFewestUptoRow.holds Tryz.pinned (OpenSpec.upto inquiryFewestSpec)

/-- 'seamarklaw44.InquiryProved', WHERE WHAT IT READS IS OF BULK AT MOST 1048576: true; the input reads as it did. -/
def inquiryProvedUptoRow : OpenClaim := { program := "ytikhnofbbcmpeaagreat", sum := "627c8a3928bc4bc65849d1c24e3788f3f706d308183661308273ddbcac3c2fd8", func := "seamark/seamarklaw44.InquiryProved", spec := "inquiryProved", unfollowed := true, recurses := true, plainKeys := false, apart := false, narrowed := true }
def InquiryProvedUptoSaid : Prop := inquiryProvedUptoRow.holds Tryz.pinned (OpenSpec.upto inquiryProvedSpec)

/-- 'seamarklaw44.InquiryBetter', WHERE WHAT IT READS IS OF BULK AT MOST 1048576: true; the input reads as it did. -/
def inquiryBetterUptoRow : OpenClaim := { program := "ytikhnofbbcmpeaagreat", sum := "627c8a3928bc4bc65849d1c24e3788f3f706d308183661308273ddbcac3c2fd8", func := "seamark/seamarklaw44.InquiryBetter", spec := "inquiryBetter", unfollowed := true, recurses := true, plainKeys := false, apart := false, narrowed := true }
def InquiryBetterUptoSaid : Prop := inquiryBetterUptoRow.holds Tryz.pinned (OpenSpec.upto inquiryBetterSpec)

/-- 'seamarklaw44.InquiryMatchesReference', WHERE WHAT IT READS IS OF BULK AT MOST 1048576: true; the input reads as it did. -/
def inquiryMatchesReferenceUptoRow : OpenClaim := { program := "ytikhnofbbcmpeaagreat", sum := "627c8a3928bc4bc65849d1c24e3788f3f706d308183661308273ddbcac3c2fd8", func := "seamark/seamarklaw44.InquiryMatchesReference", spec := "inquiryMatchesReference", unfollowed := true, recurses := true, plainKeys := false, apart := false, narrowed := true }
def InquiryMatchesReferenceUptoSaid : Prop := inquiryMatchesReferenceUptoRow.holds Tryz.pinned (OpenSpec.upto inquiryMatchesReferenceSpec)

/-- 'seamarklaw44.InquirySeals', WHERE WHAT IT READS IS OF BULK AT MOST 1048576: true; the input reads as it did. -/
def inquirySealsUptoRow : OpenClaim := { program := "ytikhnofbbcmpeaagreat", sum := "627c8a3928bc4bc65849d1c24e3788f3f706d308183661308273ddbcac3c2fd8", func := "seamark/seamarklaw44.InquirySeals", spec := "inquirySeals", unfollowed := true, recurses := true, plainKeys := false, apart := false, narrowed := true }
def InquirySealsUptoSaid : Prop := inquirySealsUptoRow.holds Tryz.pinned (OpenSpec.upto inquirySealsSpec)

end Rows
end Go.Proofs.YtikhnofbbcmpeaaGreat
