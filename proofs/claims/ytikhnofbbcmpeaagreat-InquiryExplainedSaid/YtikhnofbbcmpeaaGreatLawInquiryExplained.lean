/-
 For all inputs InquiryExplained returns true and leaves what it was given as it was.
 Conditions: none.
-/
import Derived.Test.YtikhnofbbcmpeaaGreatRows
import Derived.Test.YtikhnofbbcmpeaaGreatQIE05
import Derived.Test.YtikhnofbbcmpeaaGreatQIE07
import Derived.Test.YtikhnofbbcmpeaaGreatQIE08
namespace Go.Proofs.YtikhnofbbcmpeaaGreat.lawInquiryExplained
open Go Go.Sy Go.ChangeShapes Go.WideShapes Go.ChangeAt Go.RowKit
set_option maxRecDepth 100000
set_option linter.unusedVariables false
theorem own : ownKnob Tryz.prog.godebug = none := by kernel_rfl
theorem laidOut : laidOutB Tryz.prog = true := by kernel_rfl
theorem walk (W : World) : ∀ (args : List Value), xgV W [.mix [.cells [.int .i64], .sl 29 [.int .i64, .int .i64, .int .i64, .int .u64]], .nst 24 [.cells [.int .i64], .sl 29 [.int .i64, .int .i64, .int .i64, .int .u64]], .sl 41 [.int .i64, .int .i64, .int .i64], .one (.int .i64), .one (.int .i64)] args → Calls Tryz.prog 6 args.toArray W fun e w' => e = .returned (.bool true) ∧ Below W.heap.size W w' := by
 intro args h
 obtain ⟨v0, v1, v2, v3, v4, rfl, h0, h1, h2, h3, h4⟩ := xyF h
 obtain ⟨c0_0, rfl, g0⟩ := h0
 obtain ⟨n0_0, c0_1, rfl, w0_0, g0⟩ := xyE g0
 obtain ⟨v0_1, c0_2, rfl, hv0_1, g0⟩ := xzM g0
 obtain ⟨l0_1, e0_1, r0_1⟩ := hv0_1
 obtain rfl := xyD g0
 obtain ⟨l1, q1, r1, e1⟩ := h1
 obtain ⟨l2, e2, r2⟩ := h2
 obtain ⟨n3_0, rfl, w3⟩ := xt4 h3
 obtain ⟨n4_0, rfl, w4⟩ := xt4 h4
 have hp := xt8 n0_0 n3_0 n4_0 l0_1 l1 l2 (xzr r0_1) (xzr r1.row) (xzr r2) (xBS r1)
 have hpre : xuw (xyP [v0_1, v1, v2]) W [⟨0, 0, false, .row 29 [.int .i64, .int .i64, .int .i64, .int .u64] l0_1⟩, ⟨1, 0, false, .nst 24 [.c (.int .i64), .s 29 [.int .i64, .int .i64, .int .i64, .int .u64]] l1⟩, ⟨2, 0, false, .row 41 [.int .i64, .int .i64, .int .i64] l2⟩] := xw4 (w := W) [v0_1, v1, v2] [.row 29 [.int .i64, .int .i64, .int .i64, .int .u64] l0_1, .nst 24 [.c (.int .i64), .s 29 [.int .i64, .int .i64, .int .i64, .int .u64]] l1, .row 41 [.int .i64, .int .i64, .int .i64] l2] rfl fun k v b hv hr => by
  match k, hv, hr with
  | 0, hv, hr => have hv1 : some v0_1 = some v := hv; have hr1 : some (Body.row 29 [.int .i64, .int .i64, .int .i64, .int .u64] l0_1) = some b := hr; cases hv1; cases hr1; exact xBI r0_1 _
  | 1, hv, hr => have hv1 : some v1 = some v := hv; have hr1 : some (Body.nst 24 [.c (.int .i64), .s 29 [.int .i64, .int .i64, .int .i64, .int .u64]] l1) = some b := hr; cases hv1; cases hr1; exact xDc r1 _
  | 2, hv, hr => have hv1 : some v2 = some v := hv; have hr1 : some (Body.row 41 [.int .i64, .int .i64, .int .i64] l2) = some b := hr; cases hv1; cases hr1; exact xBI r2 _
  | k + 3, hv, hr => exact absurd hv (by simp)
 have hargs : (AV.denL (xyP [v0_1, v1, v2]) [.agg [.int .i64 n0_0, .sl 0], .sl 1, .sl 2, .int .i64 n3_0, .int .i64 n4_0]).toArray = #[.agg #[.int .i64 n0_0, v0_1], v1, v2, .int .i64 n3_0, .int .i64 n4_0] := by kernel_rfl
 have hc : K53 6 [.agg [.int .i64 n0_0, .sl 0], .sl 1, .sl 2, .int .i64 n3_0, .int .i64 n4_0] [⟨0, 0, false, .row 29 [.int .i64, .int .i64, .int .i64, .int .u64] l0_1⟩, ⟨1, 0, false, .nst 24 [.c (.int .i64), .s 29 [.int .i64, .int .i64, .int .i64, .int .u64]] l1⟩, ⟨2, 0, false, .row 41 [.int .i64, .int .i64, .int .i64] l2⟩] = some ⟨some (xbd n0_0 n3_0 n4_0 l0_1 l1 l2), [], 0, [], .bool (xbR n0_0 n3_0 n4_0 l0_1 l1 l2)⟩ := by kernel_rfl
 have hu := xA2 xCt hc rfl (fun E => congrArg Value.bool hp.1) hp.2 hpre
 rw [hargs] at hu
 exact hu
theorem lifted (os : Os) (started : os.Started) (H : Type) (enc : TypeId × Value → H) :
  ReturnsInHanded {} Tryz.checked os 6 .any (Rows.inquiryExplainedSpec.pre6 enc Tryz.prog Tryz.f6 Rows.inquiryExplainedRow.domain false) (Rows.inquiryExplainedSpec.post enc Tryz.prog Tryz.f6 false true false false) := by
 refine returnsInHanded_of_change (C := Tryz.checked) own started (by kernel_rfl) Tryz.func6
  (ChangeSpec.witness6 (enc := enc) (C := Tryz.checked) false ⟨#[], #[.agg #[.int .i64 0, .slice none 0 0], .slice none 0 0, .slice none 0 0, .int .i64 0, .int .i64 0], []⟩ 8 (by kernel_rfl) (by kernel_rfl) (by kernel_rfl) (by kernel_rfl)) ?_
 exact xyb (C := Tryz.checked) (fn := Tryz.f6) (T := 4) (k := 5) (ks := [.mix [.cells [.int .i64], .sl 29 [.int .i64, .int .i64, .int .i64, .int .u64]], .nst 24 [.cells [.int .i64], .sl 29 [.int .i64, .int .i64, .int .i64, .int .u64]], .sl 41 [.int .i64, .int .i64, .int .i64], .one (.int .i64), .one (.int .i64)]) laidOut (by kernel_rfl) (by kernel_rfl) (by kernel_rfl) (by kernel_rfl) rfl (fun H ds h => by match ds, h with | [_, _, _, _, _], _ => rfl) (by kernel_rfl) (fun W args h => walk W args h)
theorem over : Rows.inquiryExplainedRow.holds Tryz.pinned (OpenSpec.ofChange Rows.inquiryExplainedSpec) :=
 OpenClaim.holds_of_wide 6 Tryz.f6 rfl rfl rfl rfl rfl rfl rfl ⟨rfl, rfl, rfl, rfl, rfl⟩ rfl rfl rfl rfl rfl (by kernel_rfl) Tryz.func6 (by kernel_rfl)
  (of_decide_eq_true (by kernel_rfl)) (by unfold Func.isWrapper; first | (rw [if_pos (by decide +kernel)]; kernel_rfl) | (rw [if_neg (by decide +kernel)]; exact ⟨rfl, rfl⟩))
  (fun os started H enc _ => lifted os started H enc)
theorem proved : Rows.InquiryExplainedSaid := over
#print axioms proved
end Go.Proofs.YtikhnofbbcmpeaaGreat.lawInquiryExplained
