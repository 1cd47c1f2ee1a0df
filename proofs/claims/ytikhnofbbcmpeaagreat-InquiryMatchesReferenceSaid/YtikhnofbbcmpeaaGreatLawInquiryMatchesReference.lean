/-
 For all inputs InquiryMatchesReference returns true and leaves what it was given as it was.
 Conditions: none.
-/
import Derived.Test.YtikhnofbbcmpeaaGreatRows
import Derived.Test.YtikhnofbbcmpeaaGreatQIMR05
import Derived.Test.YtikhnofbbcmpeaaGreatQIMR08
import Derived.Test.YtikhnofbbcmpeaaGreatQIMR09
namespace Go.Proofs.YtikhnofbbcmpeaaGreat.lawInquiryMatchesReference
open Go Go.Sy Go.ChangeShapes Go.WideShapes Go.ChangeAt Go.RowKit
set_option maxRecDepth 100000
set_option linter.unusedVariables false
theorem own : ownKnob Tryz.prog.godebug = none := by kernel_rfl
theorem laidOut : laidOutB Tryz.prog = true := by kernel_rfl
theorem walk (W : World) : ∀ (args : List Value), xf3 W [.mix [.cells [.int .i64], .sl 29 [.int .i64, .int .i64, .int .i64, .int .u64]], .nst 24 [.cells [.int .i64], .sl 29 [.int .i64, .int .i64, .int .i64, .int .u64]], .sl 41 [.int .i64, .int .i64, .int .i64], .one (.int .i64), .one (.int .i64), .mix [.cells [.int .i64], .sl 29 [.int .i64, .int .i64, .int .i64, .int .u64]], .one (.int .i64), .one (.int .i64), .agg [.int .i64, .int .i64, .int .i64, .int .u64], .sl 80 [.int .i64, .int .i64, .int .i64], .sl 52 [.int .i64, .int .i64]] args → Calls Tryz.prog 10 args.toArray W fun e w' => e = .returned (.bool true) ∧ Below W.heap.size W w' := by
 intro args h
 obtain ⟨v0, v1, v2, v3, v4, v5, v6, v7, v8, v9, v10, rfl, h0, h1, h2, h3, h4, h5, h6, h7, h8, h9, h10⟩ := xBc h
 obtain ⟨c0_0, rfl, g0⟩ := h0
 obtain ⟨n0_0, c0_1, rfl, w0_0, g0⟩ := xxW g0
 obtain ⟨v0_1, c0_2, rfl, hv0_1, g0⟩ := xAf g0
 obtain ⟨l0_1, e0_1, r0_1⟩ := hv0_1
 obtain rfl := xxV g0
 obtain ⟨l1, q1, r1, e1⟩ := h1
 obtain ⟨l2, e2, r2⟩ := h2
 obtain ⟨n3_0, rfl, w3⟩ := xpY h3
 obtain ⟨n4_0, rfl, w4⟩ := xpY h4
 obtain ⟨c5_0, rfl, g5⟩ := h5
 obtain ⟨n5_0, c5_1, rfl, w5_0, g5⟩ := xxW g5
 obtain ⟨v5_1, c5_2, rfl, hv5_1, g5⟩ := xAf g5
 obtain ⟨l5_1, e5_1, r5_1⟩ := hv5_1
 obtain rfl := xxV g5
 obtain ⟨n6_0, rfl, w6⟩ := xpY h6
 obtain ⟨n7_0, rfl, w7⟩ := xpY h7
 obtain ⟨c8_0, rfl, g8⟩ := h8
 obtain ⟨n8_0, c8_1, rfl, w8_0, g8⟩ := xpZ g8
 obtain ⟨n8_1, c8_2, rfl, w8_1, g8⟩ := xpZ g8
 obtain ⟨n8_2, c8_3, rfl, w8_2, g8⟩ := xpZ g8
 obtain ⟨n8_3, c8_4, rfl, w8_3, g8⟩ := xpZ g8
 obtain rfl := xC2 g8
 obtain ⟨l9, e9, r9⟩ := h9
 obtain ⟨l10, e10, r10⟩ := h10
 have hp := xA3 n0_0 n3_0 n4_0 n5_0 n6_0 n7_0 n8_0 n8_1 n8_2 n8_3 l0_1 l1 l2 l5_1 l9 l10 (xyz r0_1) (xyz r1.row) (xyz r2) (xyz r5_1) (xyz r9) (xyz r10) (xGu r1)
 have hpre : xyo (xDi [v0_1, v1, v2, v5_1, v9, v10]) W [⟨0, 0, false, .row 29 [.int .i64, .int .i64, .int .i64, .int .u64] l0_1⟩, ⟨1, 0, false, .nst 24 [.c (.int .i64), .s 29 [.int .i64, .int .i64, .int .i64, .int .u64]] l1⟩, ⟨2, 0, false, .row 41 [.int .i64, .int .i64, .int .i64] l2⟩, ⟨3, 0, false, .row 29 [.int .i64, .int .i64, .int .i64, .int .u64] l5_1⟩, ⟨4, 0, false, .row 80 [.int .i64, .int .i64, .int .i64] l9⟩, ⟨5, 0, false, .row 52 [.int .i64, .int .i64] l10⟩] := xBk (w := W) [v0_1, v1, v2, v5_1, v9, v10] [.row 29 [.int .i64, .int .i64, .int .i64, .int .u64] l0_1, .nst 24 [.c (.int .i64), .s 29 [.int .i64, .int .i64, .int .i64, .int .u64]] l1, .row 41 [.int .i64, .int .i64, .int .i64] l2, .row 29 [.int .i64, .int .i64, .int .i64, .int .u64] l5_1, .row 80 [.int .i64, .int .i64, .int .i64] l9, .row 52 [.int .i64, .int .i64] l10] rfl fun k v b hv hr => by
  match k, hv, hr with
  | 0, hv, hr => have hv1 : some v0_1 = some v := hv; have hr1 : some (Body.row 29 [.int .i64, .int .i64, .int .i64, .int .u64] l0_1) = some b := hr; cases hv1; cases hr1; exact xCd r0_1 _
  | 1, hv, hr => have hv1 : some v1 = some v := hv; have hr1 : some (Body.nst 24 [.c (.int .i64), .s 29 [.int .i64, .int .i64, .int .i64, .int .u64]] l1) = some b := hr; cases hv1; cases hr1; exact xIb r1 _
  | 2, hv, hr => have hv1 : some v2 = some v := hv; have hr1 : some (Body.row 41 [.int .i64, .int .i64, .int .i64] l2) = some b := hr; cases hv1; cases hr1; exact xCd r2 _
  | 3, hv, hr => have hv1 : some v5_1 = some v := hv; have hr1 : some (Body.row 29 [.int .i64, .int .i64, .int .i64, .int .u64] l5_1) = some b := hr; cases hv1; cases hr1; exact xCd r5_1 _
  | 4, hv, hr => have hv1 : some v9 = some v := hv; have hr1 : some (Body.row 80 [.int .i64, .int .i64, .int .i64] l9) = some b := hr; cases hv1; cases hr1; exact xCd r9 _
  | 5, hv, hr => have hv1 : some v10 = some v := hv; have hr1 : some (Body.row 52 [.int .i64, .int .i64] l10) = some b := hr; cases hv1; cases hr1; exact xCd r10 _
  | k + 6, hv, hr => exact absurd hv (by simp)
 have hargs : (AV.denL (xDi [v0_1, v1, v2, v5_1, v9, v10]) [.agg [.int .i64 n0_0, .sl 0], .sl 1, .sl 2, .int .i64 n3_0, .int .i64 n4_0, .agg [.int .i64 n5_0, .sl 3], .int .i64 n6_0, .int .i64 n7_0, .agg [.int .i64 n8_0, .int .i64 n8_1, .int .i64 n8_2, .int .u64 n8_3], .sl 4, .sl 5]).toArray = #[.agg #[.int .i64 n0_0, v0_1], v1, v2, .int .i64 n3_0, .int .i64 n4_0, .agg #[.int .i64 n5_0, v5_1], .int .i64 n6_0, .int .i64 n7_0, .agg #[.int .i64 n8_0, .int .i64 n8_1, .int .i64 n8_2, .int .u64 n8_3], v9, v10] := by kernel_rfl
 have hc : K79 10 [.agg [.int .i64 n0_0, .sl 0], .sl 1, .sl 2, .int .i64 n3_0, .int .i64 n4_0, .agg [.int .i64 n5_0, .sl 3], .int .i64 n6_0, .int .i64 n7_0, .agg [.int .i64 n8_0, .int .i64 n8_1, .int .i64 n8_2, .int .u64 n8_3], .sl 4, .sl 5] [⟨0, 0, false, .row 29 [.int .i64, .int .i64, .int .i64, .int .u64] l0_1⟩, ⟨1, 0, false, .nst 24 [.c (.int .i64), .s 29 [.int .i64, .int .i64, .int .i64, .int .u64]] l1⟩, ⟨2, 0, false, .row 41 [.int .i64, .int .i64, .int .i64] l2⟩, ⟨3, 0, false, .row 29 [.int .i64, .int .i64, .int .i64, .int .u64] l5_1⟩, ⟨4, 0, false, .row 80 [.int .i64, .int .i64, .int .i64] l9⟩, ⟨5, 0, false, .row 52 [.int .i64, .int .i64] l10⟩] = some ⟨some (xaV n0_0 n3_0 n4_0 n5_0 n6_0 n7_0 n8_0 n8_1 n8_2 n8_3 l0_1 l1 l2 l5_1 l9 l10), [], 0, [], .bool (xbk n0_0 n3_0 n4_0 n5_0 n6_0 n7_0 n8_0 n8_1 n8_2 n8_3 l0_1 l1 l2 l5_1 l9 l10)⟩ := by kernel_rfl
 have hu := xFD xG4 hc rfl (fun E => congrArg Value.bool hp.1) hp.2 hpre
 rw [hargs] at hu
 exact hu
theorem lifted (os : Os) (started : os.Started) (H : Type) (enc : TypeId × Value → H) :
  ReturnsInHanded {} Tryz.checked os 10 .any (Rows.inquiryMatchesReferenceSpec.pre6 enc Tryz.prog Tryz.f10 Rows.inquiryMatchesReferenceRow.domain false) (Rows.inquiryMatchesReferenceSpec.post enc Tryz.prog Tryz.f10 false true false false) := by
 refine returnsInHanded_of_change (C := Tryz.checked) own started (by kernel_rfl) Tryz.func10
  (ChangeSpec.witness6 (enc := enc) (C := Tryz.checked) false ⟨#[], #[.agg #[.int .i64 0, .slice none 0 0], .slice none 0 0, .slice none 0 0, .int .i64 0, .int .i64 0, .agg #[.int .i64 0, .slice none 0 0], .int .i64 0, .int .i64 0, .agg #[.int .i64 0, .int .i64 0, .int .i64 0, .int .u64 0], .slice none 0 0, .slice none 0 0], []⟩ 8 (by kernel_rfl) (by kernel_rfl) (by kernel_rfl) (by kernel_rfl)) ?_
 exact xCy (C := Tryz.checked) (fn := Tryz.f10) (T := 4) (k := 11) (ks := [.mix [.cells [.int .i64], .sl 29 [.int .i64, .int .i64, .int .i64, .int .u64]], .nst 24 [.cells [.int .i64], .sl 29 [.int .i64, .int .i64, .int .i64, .int .u64]], .sl 41 [.int .i64, .int .i64, .int .i64], .one (.int .i64), .one (.int .i64), .mix [.cells [.int .i64], .sl 29 [.int .i64, .int .i64, .int .i64, .int .u64]], .one (.int .i64), .one (.int .i64), .agg [.int .i64, .int .i64, .int .i64, .int .u64], .sl 80 [.int .i64, .int .i64, .int .i64], .sl 52 [.int .i64, .int .i64]]) laidOut (by kernel_rfl) (by kernel_rfl) (by kernel_rfl) (by kernel_rfl) rfl (fun H ds h => by match ds, h with | [_, _, _, _, _, _, _, _, _, _, _], _ => rfl) (by kernel_rfl) (fun W args h => walk W args h)
theorem over : Rows.inquiryMatchesReferenceRow.holds Tryz.pinned (OpenSpec.ofChange Rows.inquiryMatchesReferenceSpec) :=
 OpenClaim.holds_of_wide 10 Tryz.f10 rfl rfl rfl rfl rfl rfl rfl ⟨rfl, rfl, rfl, rfl, rfl⟩ rfl rfl rfl rfl rfl (by kernel_rfl) Tryz.func10 (by kernel_rfl)
  (of_decide_eq_true (by kernel_rfl)) (by unfold Func.isWrapper; first | (rw [if_pos (by decide +kernel)]; kernel_rfl) | (rw [if_neg (by decide +kernel)]; exact ⟨rfl, rfl⟩))
  (fun os started H enc _ => lifted os started H enc)
theorem proved : Rows.InquiryMatchesReferenceSaid := over
#print axioms proved
end Go.Proofs.YtikhnofbbcmpeaaGreat.lawInquiryMatchesReference
