/-
  No cell of these rows narrows 'for every input' (looked for: loops, veiled, ifaces, maps, wideKeys, modest, calm, conditions, laid).
  DERIVED. THE GIVEN ROWS OF THIS SEAT. 8 by the template 'for every input the law returns true; each argument reads behind the call as it read before'; 0 by the template 'total and deterministic' (their statements: YtbopeaebdlmapaaTotals.lean).
  GIVEN WITH THE SEED: the statements are not yours to turn. If you find one false, say at which input.
  Laid BY PROGRAM, IN A SANDBOX (cutbox-rows.mjs): the forced cells as the released guide's own fill.sh prints them over the translation 878b98bc3c90c746… (all of the seat's roots in one cut). By AI agents, Wed Nov 11 2026. No macro, syntax, notation, axiom, sorry.
-/
import Derived.Test.YtbopeaebdlmapaaChecked
import GoSem.Claim
import GoSem.ClaimJoined
import GoSem.ClaimMapViews
import Derived.JoinedTies
import Derived.KernelRfl
namespace Go.Proofs.Ytbopeaebdlmapaa
/- THE CELL 'sum', in the pinned program and in every row, IS THE sha256 OF THE DUMP (.gsa) THAT YtbopeaebdlmapaaProg.lean LOADS. Nothing in Lean hashes anything: it is a label: what it is worth is what the hold of that sum in a sandbox is worth. -/
noncomputable def Try.pinned : Pinned := { name := "ytbopeaebdlmapaa", sum := "878b98bc3c90c74681b9bc8f019500502d2db700c6c9ea7b3f3881a5921a868b", checked := Try.checked }
namespace Rows
def none {H : Type} : Left H := { results := [], args := [] }

/-- 'seamarklaw04.DatumMatchesReference': WHATEVER THE INPUT: true; the input reads as it did. -/
def datumMatchesReferenceSpec : ChangeSpec := { name := "datumMatchesReference", fn := fun _ => fun
  | [d1, d2, d3, d4, d5] => { results := [.lit (.bool true)], args := [d1, d2, d3, d4, d5] }
  | _ => none }
def datumMatchesReferenceRow : OpenClaim := { program := "ytbopeaebdlmapaa", sum := "878b98bc3c90c74681b9bc8f019500502d2db700c6c9ea7b3f3881a5921a868b", func := "seamark/seamarklaw04.DatumMatchesReference", spec := "datumMatchesReference", unfollowed := true, recurses := true, apart := false }
def DatumMatchesReferenceSaid : Prop := datumMatchesReferenceRow.holds Try.pinned (OpenSpec.ofChange datumMatchesReferenceSpec)

/-- ITS FALSE NEIGHBOUR: 'it returns false'. Refute it at one input. -/
def datumMatchesReferenceWrong : ChangeSpec := { name := "datumMatchesReference", fn := fun _ => fun
  | [d1, d2, d3, d4, d5] => { results := [.lit (.bool false)], args := [d1, d2, d3, d4, d5] }
  | _ => none }
def DatumMatchesReferenceWrongFalsely : Prop := datumMatchesReferenceRow.holds Try.pinned (OpenSpec.ofChange datumMatchesReferenceWrong)

/-- 'seamarklaw04.DatumLosesNothing': WHATEVER THE INPUT: true; the input reads as it did. -/
def datumLosesNothingSpec : ChangeSpec := { name := "datumLosesNothing", fn := fun _ => fun
  | [d1, d2, d3, d4, d5] => { results := [.lit (.bool true)], args := [d1, d2, d3, d4, d5] }
  | _ => none }
def datumLosesNothingRow : OpenClaim := { program := "ytbopeaebdlmapaa", sum := "878b98bc3c90c74681b9bc8f019500502d2db700c6c9ea7b3f3881a5921a868b", func := "seamark/seamarklaw04.DatumLosesNothing", spec := "datumLosesNothing", unfollowed := true, recurses := true, apart := false }
def DatumLosesNothingSaid : Prop := datumLosesNothingRow.holds Try.pinned (OpenSpec.ofChange datumLosesNothingSpec)

/-- ITS FALSE NEIGHBOUR: 'it returns false'. Refute it at one input. -/
def datumLosesNothingWrong : ChangeSpec := { name := "datumLosesNothing", fn := fun _ => fun
  | [d1, d2, d3, d4, d5] => { results := [.lit (.bool false)], args := [d1, d2, d3, d4, d5] }
  | _ => none }
def DatumLosesNothingWrongFalsely : Prop := datumLosesNothingRow.holds Try.pinned (OpenSpec.ofChange datumLosesNothingWrong)

/-- 'seamarklaw04.DatumBoxes': WHATEVER THE INPUT: true; the input reads as it did. -/
def datumBoxesSpec : ChangeSpec := { name := "datumBoxes", fn := fun _ => fun
  | [d1, d2, d3, d4] => { results := [.lit (.bool true)], args := [d1, d2, d3, d4] }
  | _ => none }
def datumBoxesRow : OpenClaim := { program := "ytbopeaebdlmapaa", sum := "878b98bc3c90c74681b9bc8f019500502d2db700c6c9ea7b3f3881a5921a868b", func := "seamark/seamarklaw04.DatumBoxes", spec := "datumBoxes", unfollowed := true, recurses := true, apart := false }
def DatumBoxesSaid : Prop := datumBoxesRow.holds Try.pinned (OpenSpec.ofChange datumBoxesSpec)

/-- ITS FALSE NEIGHBOUR: 'it returns false'. Refute it at one input. -/
def datumBoxesWrong : ChangeSpec := { name := "datumBoxes", fn := fun _ => fun
  | [d1, d2, d3, d4] => { results := [.lit (.bool false)], args := [d1, d2, d3, d4] }
  | _ => none }
def DatumBoxesWrongFalsely : Prop := datumBoxesRow.holds Try.pinned (OpenSpec.ofChange datumBoxesWrong)

/-- 'seamarklaw04.DatumThen': WHATEVER THE INPUT: true; the input reads as it did. -/
def datumThenSpec : ChangeSpec := { name := "datumThen", fn := fun _ => fun
  | [d1, d2, d3, d4, d5] => { results := [.lit (.bool true)], args := [d1, d2, d3, d4, d5] }
  | _ => none }
def datumThenRow : OpenClaim := { program := "ytbopeaebdlmapaa", sum := "878b98bc3c90c74681b9bc8f019500502d2db700c6c9ea7b3f3881a5921a868b", func := "seamark/seamarklaw04.DatumThen", spec := "datumThen", unfollowed := true, recurses := true, apart := false }
def DatumThenSaid : Prop := datumThenRow.holds Try.pinned (OpenSpec.ofChange datumThenSpec)

/-- ITS FALSE NEIGHBOUR: 'it returns false'. Refute it at one input. -/
def datumThenWrong : ChangeSpec := { name := "datumThen", fn := fun _ => fun
  | [d1, d2, d3, d4, d5] => { results := [.lit (.bool false)], args := [d1, d2, d3, d4, d5] }
  | _ => none }
def DatumThenWrongFalsely : Prop := datumThenRow.holds Try.pinned (OpenSpec.ofChange datumThenWrong)

/-- 'seamarklaw04.DatumUndone': WHATEVER THE INPUT: true; the input reads as it did. -/
def datumUndoneSpec : ChangeSpec := { name := "datumUndone", fn := fun _ => fun
  | [d1, d2, d3] => { results := [.lit (.bool true)], args := [d1, d2, d3] }
  | _ => none }
def datumUndoneRow : OpenClaim := { program := "ytbopeaebdlmapaa", sum := "878b98bc3c90c74681b9bc8f019500502d2db700c6c9ea7b3f3881a5921a868b", func := "seamark/seamarklaw04.DatumUndone", spec := "datumUndone", unfollowed := true, recurses := true, apart := false }
def DatumUndoneSaid : Prop := datumUndoneRow.holds Try.pinned (OpenSpec.ofChange datumUndoneSpec)

/-- ITS FALSE NEIGHBOUR: 'it returns false'. Refute it at one input. -/
def datumUndoneWrong : ChangeSpec := { name := "datumUndone", fn := fun _ => fun
  | [d1, d2, d3] => { results := [.lit (.bool false)], args := [d1, d2, d3] }
  | _ => none }
def DatumUndoneWrongFalsely : Prop := datumUndoneRow.holds Try.pinned (OpenSpec.ofChange datumUndoneWrong)

/-- 'seamarklaw04.DatumWider': WHATEVER THE INPUT: true; the input reads as it did. -/
def datumWiderSpec : ChangeSpec := { name := "datumWider", fn := fun _ => fun
  | [d1, d2, d3, d4, d5] => { results := [.lit (.bool true)], args := [d1, d2, d3, d4, d5] }
  | _ => none }
def datumWiderRow : OpenClaim := { program := "ytbopeaebdlmapaa", sum := "878b98bc3c90c74681b9bc8f019500502d2db700c6c9ea7b3f3881a5921a868b", func := "seamark/seamarklaw04.DatumWider", spec := "datumWider", unfollowed := true, recurses := true, apart := false }
def DatumWiderSaid : Prop := datumWiderRow.holds Try.pinned (OpenSpec.ofChange datumWiderSpec)

/-- ITS FALSE NEIGHBOUR: 'it returns false'. Refute it at one input. -/
def datumWiderWrong : ChangeSpec := { name := "datumWider", fn := fun _ => fun
  | [d1, d2, d3, d4, d5] => { results := [.lit (.bool false)], args := [d1, d2, d3, d4, d5] }
  | _ => none }
def DatumWiderWrongFalsely : Prop := datumWiderRow.holds Try.pinned (OpenSpec.ofChange datumWiderWrong)

/-- 'seamarklaw04.DatumMoved': WHATEVER THE INPUT: true; the input reads as it did. -/
def datumMovedSpec : ChangeSpec := { name := "datumMoved", fn := fun _ => fun
  | [d1, d2, d3, d4] => { results := [.lit (.bool true)], args := [d1, d2, d3, d4] }
  | _ => none }
def datumMovedRow : OpenClaim := { program := "ytbopeaebdlmapaa", sum := "878b98bc3c90c74681b9bc8f019500502d2db700c6c9ea7b3f3881a5921a868b", func := "seamark/seamarklaw04.DatumMoved", spec := "datumMoved", unfollowed := true, recurses := true, apart := false }
def DatumMovedSaid : Prop := datumMovedRow.holds Try.pinned (OpenSpec.ofChange datumMovedSpec)

/-- ITS FALSE NEIGHBOUR: 'it returns false'. Refute it at one input. -/
def datumMovedWrong : ChangeSpec := { name := "datumMoved", fn := fun _ => fun
  | [d1, d2, d3, d4] => { results := [.lit (.bool false)], args := [d1, d2, d3, d4] }
  | _ => none }
def DatumMovedWrongFalsely : Prop := datumMovedRow.holds Try.pinned (OpenSpec.ofChange datumMovedWrong)

/-- 'seamarklaw04.DatumThere': WHATEVER THE INPUT: true; the input reads as it did. -/
def datumThereSpec : ChangeSpec := { name := "datumThere", fn := fun _ => fun
  | [d1, d2] => { results := [.lit (.bool true)], args := [d1, d2] }
  | _ => none }
def datumThereRow : OpenClaim := { program := "ytbopeaebdlmapaa", sum := "878b98bc3c90c74681b9bc8f019500502d2db700c6c9ea7b3f3881a5921a868b", func := "seamark/seamarklaw04.DatumThere", spec := "datumThere", unfollowed := true, recurses := true, apart := false }
def DatumThereSaid : Prop := datumThereRow.holds Try.pinned (OpenSpec.ofChange datumThereSpec)

/-- ITS FALSE NEIGHBOUR: 'it returns false'. Refute it at one input. -/
def datumThereWrong : ChangeSpec := { name := "datumThere", fn := fun _ => fun
  | [d1, d2] => { results := [.lit (.bool false)], args := [d1, d2] }
  | _ => none }
def DatumThereWrongFalsely : Prop := datumThereRow.holds Try.pinned (OpenSpec.ofChange datumThereWrong)

/- THE SECOND FORM. 'bulk': how many values and letters a reading holds, each counted each time it is reached (what is shared counts as often as it is met; a slice's spare places count too). A statement '..UptoSaid' is the law's where the arguments, and the package variables that the reading takes, are together of bulk at most 1048576: NARROWER than '..Said'. Prove '..Said' where nothing that the law and all that it calls make is longer than what came in: it says more and counts as full. Else prove '..UptoSaid'. A law counts once. -/
mutual
def uptoBulk {H : Type} : DataW H → Nat
  | .lit (.string bytes) => bytes.length + 1
  | .lit _ => 1
  | .nil => 1
  | .ptr d => uptoBulk d + 1
  | .slice elems spare => uptoBulkAll elems + uptoBulkAll spare + 1
  | .agg parts => uptoBulkAll parts + 1
  | .iface _ d => uptoBulk d + 1
  | .map entries => uptoBulkEntries entries + 1
  | .held _ => 1
def uptoBulkAll {H : Type} : List (DataW H) → Nat
  | [] => 0
  | d :: r => uptoBulk d + uptoBulkAll r
def uptoBulkEntries {H : Type} : List (Lit × DataW H) → Nat
  | [] => 0
  | x :: r => uptoBulkEntry x + uptoBulkEntries r
def uptoBulkEntry {H : Type} : Lit × DataW H → Nat
  | (.string bytes, d) => bytes.length + uptoBulk d + 1
  | (_, d) => uptoBulk d + 1
 end
def uptoSmall : (H : Type) → List (DataW H) → Bool := fun _ ds => decide (uptoBulkAll ds ≤ 1048576)
def OpenSpec.upto (s : _root_.Go.ChangeSpec) : _root_.Go.OpenSpec := { _root_.Go.OpenSpec.ofChange s with cond := some uptoSmall }

/-- 'seamarklaw04.DatumMatchesReference', WHERE WHAT IT READS IS OF BULK AT MOST 1048576: true; the input reads as it did. -/
def datumMatchesReferenceUptoRow : OpenClaim := { program := "ytbopeaebdlmapaa", sum := "878b98bc3c90c74681b9bc8f019500502d2db700c6c9ea7b3f3881a5921a868b", func := "seamark/seamarklaw04.DatumMatchesReference", spec := "datumMatchesReference", unfollowed := true, recurses := true, apart := false, narrowed := true }
def DatumMatchesReferenceUptoSaid : Prop := datumMatchesReferenceUptoRow.holds Try.pinned (OpenSpec.upto datumMatchesReferenceSpec)

/-- 'seamarklaw04.DatumLosesNothing', WHERE WHAT IT READS IS OF BULK AT MOST 1048576: true; the input reads as it did. -/
def datumLosesNothingUptoRow : OpenClaim := { program := "ytbopeaebdlmapaa", sum := "878b98bc3c90c74681b9bc8f019500502d2db700c6c9ea7b3f3881a5921a868b", func := "seamark/seamarklaw04.DatumLosesNothing", spec := "datumLosesNothing", unfollowed := true, recurses := true, apart := false, narrowed := true }
def DatumLosesNothingUptoSaid : Prop := datumLosesNothingUptoRow.holds Try.pinned (OpenSpec.upto datumLosesNothingSpec)

/-- 'seamarklaw04.DatumBoxes', WHERE WHAT IT READS IS OF BULK AT MOST 1048576: true; the input reads as it did. -/
def datumBoxesUptoRow : OpenClaim := { program := "ytbopeaebdlmapaa", sum := "878b98bc3c90c74681b9bc8f019500502d2db700c6c9ea7b3f3881a5921a868b", func := "seamark/seamarklaw04.DatumBoxes", spec := "datumBoxes", unfollowed := true, recurses := true, apart := false, narrowed := true }
def DatumBoxesUptoSaid : Prop := datumBoxesUptoRow.holds Try.pinned (OpenSpec.upto datumBoxesSpec)

/-- 'seamarklaw04.DatumThen', WHERE WHAT IT READS IS OF BULK AT MOST 1048576: true; the input reads as it did. -/
def datumThenUptoRow : OpenClaim := { program := "ytbopeaebdlmapaa", sum := "878b98bc3c90c74681b9bc8f019500502d2db700c6c9ea7b3f3881a5921a868b", func := "seamark/seamarklaw04.DatumThen", spec := "datumThen", unfollowed := true, recurses := true, apart := false, narrowed := true }
def DatumThenUptoSaid : Prop := datumThenUptoRow.holds Try.pinned (OpenSpec.upto datumThenSpec)

/-- 'seamarklaw04.DatumUndone', WHERE WHAT IT READS IS OF BULK AT MOST 1048576: true; the input reads as it did. -/
def datumUndoneUptoRow : OpenClaim := { program := "ytbopeaebdlmapaa", sum := "878b98bc3c90c74681b9bc8f019500502d2db700c6c9ea7b3f3881a5921a868b", func := "seamark/seamarklaw04.DatumUndone", spec := "datumUndone", unfollowed := true, recurses := true, apart := false, narrowed := true }
def DatumUndoneUptoSaid : Prop := datumUndoneUptoRow.holds Try.pinned (OpenSpec.upto datumUndoneSpec)

/-- 'seamarklaw04.DatumWider', WHERE WHAT IT READS IS OF BULK AT MOST 1048576: true; the input reads as it did. -/
def datumWiderUptoRow : OpenClaim := { program := "ytbopeaebdlmapaa", sum := "878b98bc3c90c74681b9bc8f019500502d2db700c6c9ea7b3f3881a5921a868b", func := "seamark/seamarklaw04.DatumWider", spec := "datumWider", unfollowed := true, recurses := true, apart := false, narrowed := true }
def DatumWiderUptoSaid : Prop := datumWiderUptoRow.holds Try.pinned (OpenSpec.upto datumWiderSpec)

/-- 'seamarklaw04.DatumMoved', WHERE WHAT IT READS IS OF BULK AT MOST 1048576: true; the input reads as it did. -/
def datumMovedUptoRow : OpenClaim := { program := "ytbopeaebdlmapaa", sum := "878b98bc3c90c74681b9bc8f019500502d2db700c6c9ea7b3f3881a5921a868b", func := "seamark/seamarklaw04.DatumMoved", spec := "datumMoved", unfollowed := true, recurses := true, apart := false, narrowed := true }
def DatumMovedUptoSaid : Prop := datumMovedUptoRow.holds Try.pinned (OpenSpec.upto datumMovedSpec)

/-- 'seamarklaw04.DatumThere', WHERE WHAT IT READS IS OF BULK AT MOST 1048576: true; the input reads as it did. -/
def datumThereUptoRow : OpenClaim := { program := "ytbopeaebdlmapaa", sum := "878b98bc3c90c74681b9bc8f019500502d2db700c6c9ea7b3f3881a5921a868b", func := "seamark/seamarklaw04.DatumThere", spec := "datumThere", unfollowed := true, recurses := true, apart := false, narrowed := true }
def DatumThereUptoSaid : Prop := datumThereUptoRow.holds Try.pinned (OpenSpec.upto datumThereSpec)

end Rows
end Go.Proofs.Ytbopeaebdlmapaa
