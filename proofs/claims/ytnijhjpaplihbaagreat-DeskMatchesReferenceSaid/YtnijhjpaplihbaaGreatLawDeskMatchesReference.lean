/-
 For all inputs DeskMatchesReference returns true and leaves what it was given as it was.
 Conditions: none.
-/
import Derived.Test.YtnijhjpaplihbaaGreatRows
import Derived.Test.YtnijhjpaplihbaaGreatSyH
import Derived.Test.YtnijhjpaplihbaaGreatDeskM1
import Derived.Test.YtnijhjpaplihbaaGreatDeskQ1
namespace Go.Proofs.YtnijhjpaplihbaaGreat.lawDeskMatchesReference
open Go Go.Sy Go.ChangeShapes Go.WideShapes Go.ChangeAt Go.RowKit
set_option maxRecDepth 100000
set_option linter.unusedVariables false
theorem own : ownKnob Tryz.prog.godebug = none := by kernel_rfl
theorem laidOut : laidOutB Tryz.prog = true := by kernel_rfl
theorem walk (W : World) : ∀ (args : List Value), xkf W [.mix [.sl 42 [.int .i64, .int .i64, .int .i64, .int .i64], .sl 56 [.int .i64, .int .i64, .int .i64, .int .i64, .int .i64, .int .i64], .cells [.int .i64], .sl 58 [.int .i64, .int .i64, .int .i64, .int .i64, .int .i64, .int .i64, .int .i64, .int .i64, .int .i64, .int .i64, .int .i64, .int .i64, .int .i64]], .sl 3 [.int .i64], .one (.int .i64), .sl 49 [.int .i64, .int .i64]] args → Calls Tryz.prog 3 args.toArray W fun e w' => e = .returned (.bool true) ∧ Below W.heap.size W w' := by
 intro args h
 obtain ⟨v0, v1, v2, v3, rfl, h0, h1, h2, h3⟩ := xBu h
 obtain ⟨c0_0, rfl, g0⟩ := h0
 obtain ⟨v0_0, c0_1, rfl, hv0_0, g0⟩ := xwb g0
 obtain ⟨l0_0, e0_0, r0_0⟩ := hv0_0
 obtain ⟨v0_1, c0_2, rfl, hv0_1, g0⟩ := xwb g0
 obtain ⟨l0_1, e0_1, r0_1⟩ := hv0_1
 obtain ⟨n0_2, c0_3, rfl, w0_2, g0⟩ := xBt g0
 obtain ⟨v0_3, c0_4, rfl, hv0_3, g0⟩ := xwb g0
 obtain ⟨l0_3, e0_3, r0_3⟩ := hv0_3
 obtain rfl := xBs g0
 obtain ⟨l1, e1, r1⟩ := h1
 obtain ⟨n2_0, rfl, w2⟩ := xBr h2
 obtain ⟨l3, e3, r3⟩ := h3
 have hp := xuy n0_2 n2_0 l0_0 l0_1 l0_3 l1 l3 e0_3 (xD3 r0_1) (xD3 r1)
 have hpre : xxP (xyv [v0_0, v0_1, v0_3, v1, v3]) W [⟨0, 0, false, .row 42 [.int .i64, .int .i64, .int .i64, .int .i64] l0_0⟩, ⟨1, 0, false, .row 56 [.int .i64, .int .i64, .int .i64, .int .i64, .int .i64, .int .i64] l0_1⟩, ⟨2, 0, false, .row 58 [.int .i64, .int .i64, .int .i64, .int .i64, .int .i64, .int .i64, .int .i64, .int .i64, .int .i64, .int .i64, .int .i64, .int .i64, .int .i64] l0_3⟩, ⟨3, 0, false, .row 3 [.int .i64] l1⟩, ⟨4, 0, false, .row 49 [.int .i64, .int .i64] l3⟩] := xBJ (w := W) [v0_0, v0_1, v0_3, v1, v3] [(42, [.int .i64, .int .i64, .int .i64, .int .i64], l0_0), (56, [.int .i64, .int .i64, .int .i64, .int .i64, .int .i64, .int .i64], l0_1), (58, [.int .i64, .int .i64, .int .i64, .int .i64, .int .i64, .int .i64, .int .i64, .int .i64, .int .i64, .int .i64, .int .i64, .int .i64, .int .i64], l0_3), (3, [.int .i64], l1), (49, [.int .i64, .int .i64], l3)] rfl fun k v e ks l hv hr => by
  match k, hv, hr with
  | 0, hv, hr => have hv1 : some v0_0 = some v := hv; have hr1 : some (42, [.int .i64, .int .i64, .int .i64, .int .i64], l0_0) = some (e, ks, l) := hr; cases hv1; cases hr1; exact r0_0
  | 1, hv, hr => have hv1 : some v0_1 = some v := hv; have hr1 : some (56, [.int .i64, .int .i64, .int .i64, .int .i64, .int .i64, .int .i64], l0_1) = some (e, ks, l) := hr; cases hv1; cases hr1; exact r0_1
  | 2, hv, hr => have hv1 : some v0_3 = some v := hv; have hr1 : some (58, [.int .i64, .int .i64, .int .i64, .int .i64, .int .i64, .int .i64, .int .i64, .int .i64, .int .i64, .int .i64, .int .i64, .int .i64, .int .i64], l0_3) = some (e, ks, l) := hr; cases hv1; cases hr1; exact r0_3
  | 3, hv, hr => have hv1 : some v1 = some v := hv; have hr1 : some (3, [.int .i64], l1) = some (e, ks, l) := hr; cases hv1; cases hr1; exact r1
  | 4, hv, hr => have hv1 : some v3 = some v := hv; have hr1 : some (49, [.int .i64, .int .i64], l3) = some (e, ks, l) := hr; cases hv1; cases hr1; exact r3
  | k + 5, hv, hr => exact absurd hv (by simp)
 have hargs : (AV.denL (xyv [v0_0, v0_1, v0_3, v1, v3]) [.agg [.sl 0, .sl 1, .int .i64 n0_2, .sl 2], .sl 3, .int .i64 n2_0, .sl 4]).toArray = #[.agg #[v0_0, v0_1, .int .i64 n0_2, v0_3], v1, .int .i64 n2_0, v3] := by kernel_rfl
 have hc : K106 3 [.agg [.sl 0, .sl 1, .int .i64 n0_2, .sl 2], .sl 3, .int .i64 n2_0, .sl 4] [⟨0, 0, false, .row 42 [.int .i64, .int .i64, .int .i64, .int .i64] l0_0⟩, ⟨1, 0, false, .row 56 [.int .i64, .int .i64, .int .i64, .int .i64, .int .i64, .int .i64] l0_1⟩, ⟨2, 0, false, .row 58 [.int .i64, .int .i64, .int .i64, .int .i64, .int .i64, .int .i64, .int .i64, .int .i64, .int .i64, .int .i64, .int .i64, .int .i64, .int .i64] l0_3⟩, ⟨3, 0, false, .row 3 [.int .i64] l1⟩, ⟨4, 0, false, .row 49 [.int .i64, .int .i64] l3⟩] = some ⟨some (xa4 n0_2 n2_0 l0_0 l0_1 l0_3 l1 l3), [], 0, [], .bool (xbF n0_2 n2_0 l0_0 l0_1 l0_3 l1 l3)⟩ := by kernel_rfl
 have hu := xDu xDP hc rfl (fun E => congrArg Value.bool hp.1) hp.2 hpre
 rw [hargs] at hu
 exact hu
theorem lifted (os : Os) (started : os.Started) (H : Type) (enc : TypeId × Value → H) :
  ReturnsInHanded {} Tryz.checked os 3 .any (Rows.deskMatchesReferenceSpec.pre6 enc Tryz.prog Tryz.f3 Rows.deskMatchesReferenceRow.domain false) (Rows.deskMatchesReferenceSpec.post enc Tryz.prog Tryz.f3 false true false false) := by
 refine returnsInHanded_of_change (C := Tryz.checked) own started (by kernel_rfl) Tryz.func3
  (ChangeSpec.witness6 (enc := enc) (C := Tryz.checked) false ⟨#[], #[.agg #[.slice none 0 0, .slice none 0 0, .int .i64 0, .slice none 0 0], .slice none 0 0, .int .i64 0, .slice none 0 0], []⟩ 8 (by kernel_rfl) (by kernel_rfl) (by kernel_rfl) (by kernel_rfl)) ?_
 exact xBh (C := Tryz.checked) (fn := Tryz.f3) (T := 4) (k := 4) (ks := [.mix [.sl 42 [.int .i64, .int .i64, .int .i64, .int .i64], .sl 56 [.int .i64, .int .i64, .int .i64, .int .i64, .int .i64, .int .i64], .cells [.int .i64], .sl 58 [.int .i64, .int .i64, .int .i64, .int .i64, .int .i64, .int .i64, .int .i64, .int .i64, .int .i64, .int .i64, .int .i64, .int .i64, .int .i64]], .sl 3 [.int .i64], .one (.int .i64), .sl 49 [.int .i64, .int .i64]]) laidOut (by kernel_rfl) (by kernel_rfl) (by kernel_rfl) (by kernel_rfl) rfl (fun H ds h => by match ds, h with | [_, _, _, _], _ => rfl) (by kernel_rfl) (fun W args h => walk W args h)
theorem over : Rows.deskMatchesReferenceRow.holds Tryz.pinned (OpenSpec.ofChange Rows.deskMatchesReferenceSpec) :=
 OpenClaim.holds_of_wide 3 Tryz.f3 rfl rfl rfl rfl rfl rfl rfl ⟨rfl, rfl, rfl, rfl, rfl⟩ rfl rfl rfl rfl rfl (by kernel_rfl) Tryz.func3 (by kernel_rfl)
  (of_decide_eq_true (by kernel_rfl)) (by unfold Func.isWrapper; first | (rw [if_pos (by decide +kernel)]; kernel_rfl) | (rw [if_neg (by decide +kernel)]; exact ⟨rfl, rfl⟩))
  (fun os started H enc _ => lifted os started H enc)
theorem proved : Rows.DeskMatchesReferenceSaid := over
#print axioms proved
end Go.Proofs.YtnijhjpaplihbaaGreat.lawDeskMatchesReference
