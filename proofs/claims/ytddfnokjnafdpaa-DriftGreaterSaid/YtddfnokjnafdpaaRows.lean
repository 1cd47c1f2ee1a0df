/-
  No cell of these rows narrows 'for every input' (looked for: loops, veiled, ifaces, maps, wideKeys, modest, calm, conditions, laid).
  DERIVED. THE GIVEN ROWS OF THIS SEAT. 7 by the template 'for every input the law returns true; each argument reads behind the call as it read before'; 0 by the template 'total and deterministic' (their statements: YtddfnokjnafdpaaTotals.lean).
  GIVEN WITH THE SEED: the statements are not yours to turn. If you find one false, say at which input.
  Laid BY PROGRAM, IN A SANDBOX (cutbox-rows.mjs): the forced cells as the released guide's own fill.sh prints them over the translation e760f1bc00edba06… (all of the seat's roots in one cut). By AI agents, Wed Nov 11 2026. No macro, syntax, notation, axiom, sorry.
-/
import Derived.Test.YtddfnokjnafdpaaChecked
import GoSem.Claim
import GoSem.ClaimJoined
import GoSem.ClaimMapViews
import Derived.JoinedTies
import Derived.KernelRfl
namespace Go.Proofs.Ytddfnokjnafdpaa
/- THE CELL 'sum', in the pinned program and in every row, IS THE sha256 OF THE DUMP (.gsa) THAT YtddfnokjnafdpaaProg.lean LOADS. Nothing in Lean hashes anything: it is a label: what it is worth is what the hold of that sum in a sandbox is worth. -/
noncomputable def Try.pinned : Pinned := { name := "ytddfnokjnafdpaa", sum := "e760f1bc00edba0660d1f8edd0e026e9bfa421cef65df12f9b463bed17e6e9b2", checked := Try.checked }
namespace Rows
def none {H : Type} : Left H := { results := [], args := [] }

/-- 'seamarklaw23.DriftSteps': WHATEVER THE INPUT: true; the input reads as it did. -/
def driftStepsSpec : ChangeSpec := { name := "driftSteps", fn := fun _ => fun
  | [d1, d2, d3, d4, d5, d6, d7, d8] => { results := [.lit (.bool true)], args := [d1, d2, d3, d4, d5, d6, d7, d8] }
  | _ => none }
def driftStepsRow : OpenClaim := { program := "ytddfnokjnafdpaa", sum := "e760f1bc00edba0660d1f8edd0e026e9bfa421cef65df12f9b463bed17e6e9b2", func := "seamark/seamarklaw23.DriftSteps", spec := "driftSteps", unfollowed := true, recurses := true, apart := false }
def DriftStepsSaid : Prop := driftStepsRow.holds Try.pinned (OpenSpec.ofChange driftStepsSpec)

/-- ITS FALSE NEIGHBOUR: 'it returns false'. Refute it at one input. -/
def driftStepsWrong : ChangeSpec := { name := "driftSteps", fn := fun _ => fun
  | [d1, d2, d3, d4, d5, d6, d7, d8] => { results := [.lit (.bool false)], args := [d1, d2, d3, d4, d5, d6, d7, d8] }
  | _ => none }
def DriftStepsWrongFalsely : Prop := driftStepsRow.holds Try.pinned (OpenSpec.ofChange driftStepsWrong)

/-- 'seamarklaw23.DriftBetter': WHATEVER THE INPUT: true; the input reads as it did. -/
def driftBetterSpec : ChangeSpec := { name := "driftBetter", fn := fun _ => fun
  | [d1, d2, d3, d4, d5, d6, d7] => { results := [.lit (.bool true)], args := [d1, d2, d3, d4, d5, d6, d7] }
  | _ => none }
def driftBetterRow : OpenClaim := { program := "ytddfnokjnafdpaa", sum := "e760f1bc00edba0660d1f8edd0e026e9bfa421cef65df12f9b463bed17e6e9b2", func := "seamark/seamarklaw23.DriftBetter", spec := "driftBetter", unfollowed := true, recurses := true, apart := false }
def DriftBetterSaid : Prop := driftBetterRow.holds Try.pinned (OpenSpec.ofChange driftBetterSpec)

/-- ITS FALSE NEIGHBOUR: 'it returns false'. Refute it at one input. -/
def driftBetterWrong : ChangeSpec := { name := "driftBetter", fn := fun _ => fun
  | [d1, d2, d3, d4, d5, d6, d7] => { results := [.lit (.bool false)], args := [d1, d2, d3, d4, d5, d6, d7] }
  | _ => none }
def DriftBetterWrongFalsely : Prop := driftBetterRow.holds Try.pinned (OpenSpec.ofChange driftBetterWrong)

/-- 'seamarklaw23.DriftGreater': WHATEVER THE INPUT: true; the input reads as it did. -/
def driftGreaterSpec : ChangeSpec := { name := "driftGreater", fn := fun _ => fun
  | [d1, d2, d3, d4, d5, d6] => { results := [.lit (.bool true)], args := [d1, d2, d3, d4, d5, d6] }
  | _ => none }
def driftGreaterRow : OpenClaim := { program := "ytddfnokjnafdpaa", sum := "e760f1bc00edba0660d1f8edd0e026e9bfa421cef65df12f9b463bed17e6e9b2", func := "seamark/seamarklaw23.DriftGreater", spec := "driftGreater", unfollowed := true, recurses := true, apart := false }
def DriftGreaterSaid : Prop := driftGreaterRow.holds Try.pinned (OpenSpec.ofChange driftGreaterSpec)

/-- ITS FALSE NEIGHBOUR: 'it returns false'. Refute it at one input. -/
def driftGreaterWrong : ChangeSpec := { name := "driftGreater", fn := fun _ => fun
  | [d1, d2, d3, d4, d5, d6] => { results := [.lit (.bool false)], args := [d1, d2, d3, d4, d5, d6] }
  | _ => none }
def DriftGreaterWrongFalsely : Prop := driftGreaterRow.holds Try.pinned (OpenSpec.ofChange driftGreaterWrong)

/-- 'seamarklaw23.DriftSum': WHATEVER THE INPUT: true; the input reads as it did. -/
def driftSumSpec : ChangeSpec := { name := "driftSum", fn := fun _ => fun
  | [d1, d2, d3, d4, d5, d6] => { results := [.lit (.bool true)], args := [d1, d2, d3, d4, d5, d6] }
  | _ => none }
def driftSumRow : OpenClaim := { program := "ytddfnokjnafdpaa", sum := "e760f1bc00edba0660d1f8edd0e026e9bfa421cef65df12f9b463bed17e6e9b2", func := "seamark/seamarklaw23.DriftSum", spec := "driftSum", unfollowed := true, recurses := true, apart := false }
def DriftSumSaid : Prop := driftSumRow.holds Try.pinned (OpenSpec.ofChange driftSumSpec)

/-- ITS FALSE NEIGHBOUR: 'it returns false'. Refute it at one input. -/
def driftSumWrong : ChangeSpec := { name := "driftSum", fn := fun _ => fun
  | [d1, d2, d3, d4, d5, d6] => { results := [.lit (.bool false)], args := [d1, d2, d3, d4, d5, d6] }
  | _ => none }
def DriftSumWrongFalsely : Prop := driftSumRow.holds Try.pinned (OpenSpec.ofChange driftSumWrong)

/-- 'seamarklaw23.DriftHolds': WHATEVER THE INPUT: true; the input reads as it did. -/
def driftHoldsSpec : ChangeSpec := { name := "driftHolds", fn := fun _ => fun
  | [d1, d2, d3, d4, d5, d6] => { results := [.lit (.bool true)], args := [d1, d2, d3, d4, d5, d6] }
  | _ => none }
def driftHoldsRow : OpenClaim := { program := "ytddfnokjnafdpaa", sum := "e760f1bc00edba0660d1f8edd0e026e9bfa421cef65df12f9b463bed17e6e9b2", func := "seamark/seamarklaw23.DriftHolds", spec := "driftHolds", unfollowed := true, recurses := true, apart := false }
def DriftHoldsSaid : Prop := driftHoldsRow.holds Try.pinned (OpenSpec.ofChange driftHoldsSpec)

/-- ITS FALSE NEIGHBOUR: 'it returns false'. Refute it at one input. -/
def driftHoldsWrong : ChangeSpec := { name := "driftHolds", fn := fun _ => fun
  | [d1, d2, d3, d4, d5, d6] => { results := [.lit (.bool false)], args := [d1, d2, d3, d4, d5, d6] }
  | _ => none }
def DriftHoldsWrongFalsely : Prop := driftHoldsRow.holds Try.pinned (OpenSpec.ofChange driftHoldsWrong)

/-- 'seamarklaw23.DriftTidy': WHATEVER THE INPUT: true; the input reads as it did. -/
def driftTidySpec : ChangeSpec := { name := "driftTidy", fn := fun _ => fun
  | [d1, d2] => { results := [.lit (.bool true)], args := [d1, d2] }
  | _ => none }
def driftTidyRow : OpenClaim := { program := "ytddfnokjnafdpaa", sum := "e760f1bc00edba0660d1f8edd0e026e9bfa421cef65df12f9b463bed17e6e9b2", func := "seamark/seamarklaw23.DriftTidy", spec := "driftTidy", unfollowed := true, recurses := true, apart := false }
def DriftTidySaid : Prop := driftTidyRow.holds Try.pinned (OpenSpec.ofChange driftTidySpec)

/-- ITS FALSE NEIGHBOUR: 'it returns false'. Refute it at one input. -/
def driftTidyWrong : ChangeSpec := { name := "driftTidy", fn := fun _ => fun
  | [d1, d2] => { results := [.lit (.bool false)], args := [d1, d2] }
  | _ => none }
def DriftTidyWrongFalsely : Prop := driftTidyRow.holds Try.pinned (OpenSpec.ofChange driftTidyWrong)

/-- 'seamarklaw23.DriftCut': WHATEVER THE INPUT: true; the input reads as it did. -/
def driftCutSpec : ChangeSpec := { name := "driftCut", fn := fun _ => fun
  | [d1, d2, d3] => { results := [.lit (.bool true)], args := [d1, d2, d3] }
  | _ => none }
def driftCutRow : OpenClaim := { program := "ytddfnokjnafdpaa", sum := "e760f1bc00edba0660d1f8edd0e026e9bfa421cef65df12f9b463bed17e6e9b2", func := "seamark/seamarklaw23.DriftCut", spec := "driftCut", unfollowed := true, recurses := true, apart := false }
def DriftCutSaid : Prop := driftCutRow.holds Try.pinned (OpenSpec.ofChange driftCutSpec)

/-- ITS FALSE NEIGHBOUR: 'it returns false'. Refute it at one input. -/
def driftCutWrong : ChangeSpec := { name := "driftCut", fn := fun _ => fun
  | [d1, d2, d3] => { results := [.lit (.bool false)], args := [d1, d2, d3] }
  | _ => none }
def DriftCutWrongFalsely : Prop := driftCutRow.holds Try.pinned (OpenSpec.ofChange driftCutWrong)

/- THE SECOND FORM. 'bulk': how many values and letters a reading holds, each counted each time it is reached (what is shared counts as often as it is met; a slice's spare places count too). A statement '..UptoSaid' is the law's where the arguments, and the package variables that the reading takes, are together of bulk at most 1048576: NARROWER than '..Said'. Prove '..Said' where nothing that the law and all that it calls make is longer than what came in: it says more and counts as full. Else prove '..UptoSaid'. A law counts once. -/
mutual
def uptoBulk {H : Type} : DataW H → Nat
  | .lit (.string bytes) => bytes.length + 1
  | .lit _ => 1
  | .nil => 1
  | .ptr d => uptoBulk d + 1
  | .slice elems spare => uptoBulkAll elems + uptoBulkAll spare + 1
  | .agg parts => uptoBulkAll parts + 1
  | .iface _ d => uptoBulk d + 1
  | .map entries => uptoBulkEntries entries + 1
  | .held _ => 1
def uptoBulkAll {H : Type} : List (DataW H) → Nat
  | [] => 0
  | d :: r => uptoBulk d + uptoBulkAll r
def uptoBulkEntries {H : Type} : List (Lit × DataW H) → Nat
  | [] => 0
  | x :: r => uptoBulkEntry x + uptoBulkEntries r
def uptoBulkEntry {H : Type} : Lit × DataW H → Nat
  | (.string bytes, d) => bytes.length + uptoBulk d + 1
  | (_, d) => uptoBulk d + 1
 end
def uptoSmall : (H : Type) → List (DataW H) → Bool := fun _ ds => decide (uptoBulkAll ds ≤ 1048576)
def OpenSpec.upto (s : _root_.Go.ChangeSpec) : _root_.Go.OpenSpec := { _root_.Go.OpenSpec.ofChange s with cond := some uptoSmall }

/-- 'seamarklaw23.DriftSteps', WHERE WHAT IT READS IS OF BULK AT MOST 1048576: true; the input reads as it did. -/
def driftStepsUptoRow : OpenClaim := { program := "ytddfnokjnafdpaa", sum := "e760f1bc00edba0660d1f8edd0e026e9bfa421cef65df12f9b463bed17e6e9b2", func := "seamark/seamarklaw23.DriftSteps", spec := "driftSteps", unfollowed := true, recurses := true, apart := false, narrowed := true }
def DriftStepsUptoSaid : Prop := driftStepsUptoRow.holds Try.pinned (OpenSpec.upto driftStepsSpec)

/-- 'seamarklaw23.DriftBetter', WHERE WHAT IT READS IS OF BULK AT MOST 1048576: true; the input reads as it did. -/
def driftBetterUptoRow : OpenClaim := { program := "ytddfnokjnafdpaa", sum := "e760f1bc00edba0660d1f8edd0e026e9bfa421cef65df12f9b463bed17e6e9b2", func := "seamark/seamarklaw23.DriftBetter", spec := "driftBetter", unfollowed := true, recurses := true, apart := false, narrowed := true }
def DriftBetterUptoSaid : Prop := driftBetterUptoRow.holds Try.pinned (OpenSpec.upto driftBetterSpec)

/-- 'seamarklaw23.DriftGreater', WHERE WHAT IT READS IS OF BULK AT MOST 1048576: true; the input reads as it did. -/
def driftGreaterUptoRow : OpenClaim := { program := "ytddfnokjnafdpaa", sum := "e760f1bc00edba0660d1f8edd0e026e9bfa421cef65df12f9b463bed17e6e9b2", func := "seamark/seamarklaw23.DriftGreater", spec := "driftGreater", unfollowed := true, recurses := true, apart := false, narrowed := true }
def DriftGreaterUptoSaid : Prop := driftGreaterUptoRow.holds Try.pinned (OpenSpec.upto driftGreaterSpec)

/-- 'seamarklaw23.DriftSum', WHERE WHAT IT READS IS OF BULK AT MOST 1048576: true; the input reads as it did. -/
def driftSumUptoRow : OpenClaim := { program := "ytddfnokjnafdpaa", sum := "e760f1bc00edba0660d1f8edd0e026e9bfa421cef65df12f9b463bed17e6e9b2", func := "seamark/seamarklaw23.DriftSum", spec := "driftSum", unfollowed := true, recurses := true, apart := false, narrowed := true }
def DriftSumUptoSaid : Prop := driftSumUptoRow.holds Try.pinned (OpenSpec.upto driftSumSpec)

/-- 'seamarklaw23.DriftHolds', WHERE WHAT IT READS IS OF BULK AT MOST 1048576: true; the input reads as it did. -/
def driftHoldsUptoRow : OpenClaim := { program := "ytddfnokjnafdpaa", sum := "e760f1bc00edba0660d1f8edd0e026e9bfa421cef65df12f9b463bed17e6e9b2", func := "seamark/seamarklaw23.DriftHolds", spec := "driftHolds", unfollowed := true, recurses := true, apart := false, narrowed := true }
def DriftHoldsUptoSaid : Prop := driftHoldsUptoRow.holds Try.pinned (OpenSpec.upto driftHoldsSpec)

/-- 'seamarklaw23.DriftTidy', WHERE WHAT IT READS IS OF BULK AT MOST 1048576: true; the input reads as it did. -/
def driftTidyUptoRow : OpenClaim := { program := "ytddfnokjnafdpaa", sum := "e760f1bc00edba0660d1f8edd0e026e9bfa421cef65df12f9b463bed17e6e9b2", func := "seamark/seamarklaw23.DriftTidy", spec := "driftTidy", unfollowed := true, recurses := true, apart := false, narrowed := true }
def DriftTidyUptoSaid : Prop := driftTidyUptoRow.holds Try.pinned (OpenSpec.upto driftTidySpec)

/-- 'seamarklaw23.DriftCut', WHERE WHAT IT READS IS OF BULK AT MOST 1048576: true; the input reads as it did. -/
def driftCutUptoRow : OpenClaim := { program := "ytddfnokjnafdpaa", sum := "e760f1bc00edba0660d1f8edd0e026e9bfa421cef65df12f9b463bed17e6e9b2", func := "seamark/seamarklaw23.DriftCut", spec := "driftCut", unfollowed := true, recurses := true, apart := false, narrowed := true }
def DriftCutUptoSaid : Prop := driftCutUptoRow.holds Try.pinned (OpenSpec.upto driftCutSpec)

end Rows
end Go.Proofs.Ytddfnokjnafdpaa
