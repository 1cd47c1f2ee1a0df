/-
 For all inputs InquiryProved returns true and leaves what it was given as it was.
 Conditions: none.
-/
import Derived.Test.YtikhnofbbcmpeaaGreatRows
import Derived.Test.YtikhnofbbcmpeaaGreatQIP05
import Derived.Test.YtikhnofbbcmpeaaGreatQIP07
import Derived.Test.YtikhnofbbcmpeaaGreatQIP08
namespace Go.Proofs.YtikhnofbbcmpeaaGreat.lawInquiryProved
open Go Go.Sy Go.ChangeShapes Go.WideShapes Go.ChangeAt Go.RowKit
set_option maxRecDepth 100000
set_option linter.unusedVariables false
theorem own : ownKnob Tryz.prog.godebug = none := by kernel_rfl
theorem laidOut : laidOutB Tryz.prog = true := by kernel_rfl
theorem walk (W : World) : ∀ (args : List Value), xfq W [.mix [.cells [.int .i64], .sl 29 [.int .i64, .int .i64, .int .i64, .int .u64]], .nst 24 [.cells [.int .i64], .sl 29 [.int .i64, .int .i64, .int .i64, .int .u64]], .sl 41 [.int .i64, .int .i64, .int .i64], .one (.int .i64), .one (.int .i64), .sl 80 [.int .i64, .int .i64, .int .i64], .sl 52 [.int .i64, .int .i64]] args → Calls Tryz.prog 8 args.toArray W fun e w' => e = .returned (.bool true) ∧ Below W.heap.size W w' := by
 intro args h
 obtain ⟨v0, v1, v2, v3, v4, v5, v6, rfl, h0, h1, h2, h3, h4, h5, h6⟩ := xw0 h
 obtain ⟨c0_0, rfl, g0⟩ := h0
 obtain ⟨n0_0, c0_1, rfl, w0_0, g0⟩ := xwZ g0
 obtain ⟨v0_1, c0_2, rfl, hv0_1, g0⟩ := xxV g0
 obtain ⟨l0_1, e0_1, r0_1⟩ := hv0_1
 obtain rfl := xwY g0
 obtain ⟨l1, q1, r1, e1⟩ := h1
 obtain ⟨l2, e2, r2⟩ := h2
 obtain ⟨n3_0, rfl, w3⟩ := xsA h3
 obtain ⟨n4_0, rfl, w4⟩ := xsA h4
 obtain ⟨l5, e5, r5⟩ := h5
 obtain ⟨l6, e6, r6⟩ := h6
 have hp := xv8 n0_0 n3_0 n4_0 l0_1 l1 l2 l5 l6 (xvc r0_1) (xvc r1.row) (xvc r2) (xvc r5) (xvc r6) (xzK r1)
 have hpre : xs4 (xw9 [v0_1, v1, v2, v5, v6]) W [⟨0, 0, false, .row 29 [.int .i64, .int .i64, .int .i64, .int .u64] l0_1⟩, ⟨1, 0, false, .nst 24 [.c (.int .i64), .s 29 [.int .i64, .int .i64, .int .i64, .int .u64]] l1⟩, ⟨2, 0, false, .row 41 [.int .i64, .int .i64, .int .i64] l2⟩, ⟨3, 0, false, .row 80 [.int .i64, .int .i64, .int .i64] l5⟩, ⟨4, 0, false, .row 52 [.int .i64, .int .i64] l6⟩] := xvx (w := W) [v0_1, v1, v2, v5, v6] [.row 29 [.int .i64, .int .i64, .int .i64, .int .u64] l0_1, .nst 24 [.c (.int .i64), .s 29 [.int .i64, .int .i64, .int .i64, .int .u64]] l1, .row 41 [.int .i64, .int .i64, .int .i64] l2, .row 80 [.int .i64, .int .i64, .int .i64] l5, .row 52 [.int .i64, .int .i64] l6] rfl fun k v b hv hr => by
  match k, hv, hr with
  | 0, hv, hr => have hv1 : some v0_1 = some v := hv; have hr1 : some (Body.row 29 [.int .i64, .int .i64, .int .i64, .int .u64] l0_1) = some b := hr; cases hv1; cases hr1; exact xxJ r0_1 _
  | 1, hv, hr => have hv1 : some v1 = some v := hv; have hr1 : some (Body.nst 24 [.c (.int .i64), .s 29 [.int .i64, .int .i64, .int .i64, .int .u64]] l1) = some b := hr; cases hv1; cases hr1; exact xAS r1 _
  | 2, hv, hr => have hv1 : some v2 = some v := hv; have hr1 : some (Body.row 41 [.int .i64, .int .i64, .int .i64] l2) = some b := hr; cases hv1; cases hr1; exact xxJ r2 _
  | 3, hv, hr => have hv1 : some v5 = some v := hv; have hr1 : some (Body.row 80 [.int .i64, .int .i64, .int .i64] l5) = some b := hr; cases hv1; cases hr1; exact xxJ r5 _
  | 4, hv, hr => have hv1 : some v6 = some v := hv; have hr1 : some (Body.row 52 [.int .i64, .int .i64] l6) = some b := hr; cases hv1; cases hr1; exact xxJ r6 _
  | k + 5, hv, hr => exact absurd hv (by simp)
 have hargs : (AV.denL (xw9 [v0_1, v1, v2, v5, v6]) [.agg [.int .i64 n0_0, .sl 0], .sl 1, .sl 2, .int .i64 n3_0, .int .i64 n4_0, .sl 3, .sl 4]).toArray = #[.agg #[.int .i64 n0_0, v0_1], v1, v2, .int .i64 n3_0, .int .i64 n4_0, v5, v6] := by kernel_rfl
 have hc : K44 8 [.agg [.int .i64 n0_0, .sl 0], .sl 1, .sl 2, .int .i64 n3_0, .int .i64 n4_0, .sl 3, .sl 4] [⟨0, 0, false, .row 29 [.int .i64, .int .i64, .int .i64, .int .u64] l0_1⟩, ⟨1, 0, false, .nst 24 [.c (.int .i64), .s 29 [.int .i64, .int .i64, .int .i64, .int .u64]] l1⟩, ⟨2, 0, false, .row 41 [.int .i64, .int .i64, .int .i64] l2⟩, ⟨3, 0, false, .row 80 [.int .i64, .int .i64, .int .i64] l5⟩, ⟨4, 0, false, .row 52 [.int .i64, .int .i64] l6⟩] = some ⟨some (xbu n0_0 n3_0 n4_0 l0_1 l1 l2 l5 l6), [], 0, [], .bool (xcv n0_0 n3_0 n4_0 l0_1 l1 l2 l5 l6)⟩ := by kernel_rfl
 have hu := xy2 xAh hc rfl (fun E => congrArg Value.bool hp.1) hp.2 hpre
 rw [hargs] at hu
 exact hu
theorem lifted (os : Os) (started : os.Started) (H : Type) (enc : TypeId × Value → H) :
  ReturnsInHanded {} Tryz.checked os 8 .any (Rows.inquiryProvedSpec.pre6 enc Tryz.prog Tryz.f8 Rows.inquiryProvedRow.domain false) (Rows.inquiryProvedSpec.post enc Tryz.prog Tryz.f8 false true false false) := by
 refine returnsInHanded_of_change (C := Tryz.checked) own started (by kernel_rfl) Tryz.func8
  (ChangeSpec.witness6 (enc := enc) (C := Tryz.checked) false ⟨#[], #[.agg #[.int .i64 0, .slice none 0 0], .slice none 0 0, .slice none 0 0, .int .i64 0, .int .i64 0, .slice none 0 0, .slice none 0 0], []⟩ 8 (by kernel_rfl) (by kernel_rfl) (by kernel_rfl) (by kernel_rfl)) ?_
 exact xwA (C := Tryz.checked) (fn := Tryz.f8) (T := 4) (k := 7) (ks := [.mix [.cells [.int .i64], .sl 29 [.int .i64, .int .i64, .int .i64, .int .u64]], .nst 24 [.cells [.int .i64], .sl 29 [.int .i64, .int .i64, .int .i64, .int .u64]], .sl 41 [.int .i64, .int .i64, .int .i64], .one (.int .i64), .one (.int .i64), .sl 80 [.int .i64, .int .i64, .int .i64], .sl 52 [.int .i64, .int .i64]]) laidOut (by kernel_rfl) (by kernel_rfl) (by kernel_rfl) (by kernel_rfl) rfl (fun H ds h => by match ds, h with | [_, _, _, _, _, _, _], _ => rfl) (by kernel_rfl) (fun W args h => walk W args h)
theorem over : Rows.inquiryProvedRow.holds Tryz.pinned (OpenSpec.ofChange Rows.inquiryProvedSpec) :=
 OpenClaim.holds_of_wide 8 Tryz.f8 rfl rfl rfl rfl rfl rfl rfl ⟨rfl, rfl, rfl, rfl, rfl⟩ rfl rfl rfl rfl rfl (by kernel_rfl) Tryz.func8 (by kernel_rfl)
  (of_decide_eq_true (by kernel_rfl)) (by unfold Func.isWrapper; first | (rw [if_pos (by decide +kernel)]; kernel_rfl) | (rw [if_neg (by decide +kernel)]; exact ⟨rfl, rfl⟩))
  (fun os started H enc _ => lifted os started H enc)
theorem proved : Rows.InquiryProvedSaid := over
#print axioms proved
end Go.Proofs.YtikhnofbbcmpeaaGreat.lawInquiryProved
