/-
 For all inputs InquirySeals returns true and leaves what it was given as it was.
 Conditions: none.
-/
import Derived.Test.YtikhnofbbcmpeaaGreatRows
import Derived.Test.YtikhnofbbcmpeaaGreatQIS05
import Derived.Test.YtikhnofbbcmpeaaGreatQIS07
import Derived.Test.YtikhnofbbcmpeaaGreatQIS08
namespace Go.Proofs.YtikhnofbbcmpeaaGreat.lawInquirySeals
open Go Go.Sy Go.ChangeShapes Go.WideShapes Go.ChangeAt Go.RowKit
set_option maxRecDepth 100000
set_option linter.unusedVariables false
theorem own : ownKnob Tryz.prog.godebug = none := by kernel_rfl
theorem laidOut : laidOutB Tryz.prog = true := by kernel_rfl
theorem walk (W : World) : ∀ (args : List Value), xf8 W [.mix [.cells [.int .i64], .sl 29 [.int .i64, .int .i64, .int .i64, .int .u64]], .one (.int .u8), .one (.int .u8), .one (.int .u8), .one (.int .u8), .one (.int .i64)] args → Calls Tryz.prog 11 args.toArray W fun e w' => e = .returned (.bool true) ∧ Below W.heap.size W w' := by
 intro args h
 obtain ⟨v0, v1, v2, v3, v4, v5, rfl, h0, h1, h2, h3, h4, h5⟩ := xxa h
 obtain ⟨c0_0, rfl, g0⟩ := h0
 obtain ⟨n0_0, c0_1, rfl, w0_0, g0⟩ := xw9 g0
 obtain ⟨v0_1, c0_2, rfl, hv0_1, g0⟩ := xx5 g0
 obtain ⟨l0_1, e0_1, r0_1⟩ := hv0_1
 obtain rfl := xw8 g0
 obtain ⟨n1_0, rfl, w1⟩ := xkk h1
 obtain ⟨n2_0, rfl, w2⟩ := xkk h2
 obtain ⟨n3_0, rfl, w3⟩ := xkk h3
 obtain ⟨n4_0, rfl, w4⟩ := xkk h4
 obtain ⟨n5_0, rfl, w5⟩ := xkk h5
 have hp := xxI n0_0 n1_0 n2_0 n3_0 n4_0 n5_0 l0_1 (xA3 r0_1) (xyT w1) (xyT w2) (xyT w3) (xz3 w5)
 have hpre : xte (xxi [v0_1]) W [⟨0, 0, false, .row 29 [.int .i64, .int .i64, .int .i64, .int .u64] l0_1⟩] := xvF (w := W) [v0_1] [.row 29 [.int .i64, .int .i64, .int .i64, .int .u64] l0_1] rfl fun k v b hv hr => by
  match k, hv, hr with
  | 0, hv, hr => have hv1 : some v0_1 = some v := hv; have hr1 : some (Body.row 29 [.int .i64, .int .i64, .int .i64, .int .u64] l0_1) = some b := hr; cases hv1; cases hr1; exact xA4 r0_1 _
  | k + 1, hv, hr => exact absurd hv (by simp)
 have hargs : (AV.denL (xxi [v0_1]) [.agg [.int .i64 n0_0, .sl 0], .int .u8 n1_0, .int .u8 n2_0, .int .u8 n3_0, .int .u8 n4_0, .int .i64 n5_0]).toArray = #[.agg #[.int .i64 n0_0, v0_1], .int .u8 n1_0, .int .u8 n2_0, .int .u8 n3_0, .int .u8 n4_0, .int .i64 n5_0] := by kernel_rfl
 have hc : K46 11 [.agg [.int .i64 n0_0, .sl 0], .int .u8 n1_0, .int .u8 n2_0, .int .u8 n3_0, .int .u8 n4_0, .int .i64 n5_0] [⟨0, 0, false, .row 29 [.int .i64, .int .i64, .int .i64, .int .u64] l0_1⟩] = some ⟨some (xbI n0_0 n1_0 n2_0 n3_0 n4_0 n5_0 l0_1), [], 0, [], .bool (xcW n0_0 n1_0 n2_0 n3_0 n4_0 n5_0 l0_1)⟩ := by kernel_rfl
 have hu := xzb xAr hc rfl (fun E => congrArg Value.bool hp.1) hp.2 hpre
 rw [hargs] at hu
 exact hu
theorem lifted (os : Os) (started : os.Started) (H : Type) (enc : TypeId × Value → H) :
  ReturnsInHanded {} Tryz.checked os 11 .any (Rows.inquirySealsSpec.pre6 enc Tryz.prog Tryz.f11 Rows.inquirySealsRow.domain false) (Rows.inquirySealsSpec.post enc Tryz.prog Tryz.f11 false true false false) := by
 refine returnsInHanded_of_change (C := Tryz.checked) own started (by kernel_rfl) Tryz.func11
  (ChangeSpec.witness6 (enc := enc) (C := Tryz.checked) false ⟨#[], #[.agg #[.int .i64 0, .slice none 0 0], .int .u8 0, .int .u8 0, .int .u8 0, .int .u8 0, .int .i64 0], []⟩ 8 (by kernel_rfl) (by kernel_rfl) (by kernel_rfl) (by kernel_rfl)) ?_
 exact xwH (C := Tryz.checked) (fn := Tryz.f11) (T := 4) (k := 6) (ks := [.mix [.cells [.int .i64], .sl 29 [.int .i64, .int .i64, .int .i64, .int .u64]], .one (.int .u8), .one (.int .u8), .one (.int .u8), .one (.int .u8), .one (.int .i64)]) laidOut (by kernel_rfl) (by kernel_rfl) (by kernel_rfl) (by kernel_rfl) rfl (fun H ds h => by match ds, h with | [_, _, _, _, _, _], _ => rfl) (by kernel_rfl) (fun W args h => walk W args h)
theorem over : Rows.inquirySealsRow.holds Tryz.pinned (OpenSpec.ofChange Rows.inquirySealsSpec) :=
 OpenClaim.holds_of_wide 11 Tryz.f11 rfl rfl rfl rfl rfl rfl rfl ⟨rfl, rfl, rfl, rfl, rfl⟩ rfl rfl rfl rfl rfl (by kernel_rfl) Tryz.func11 (by kernel_rfl)
  (of_decide_eq_true (by kernel_rfl)) (by unfold Func.isWrapper; first | (rw [if_pos (by decide +kernel)]; kernel_rfl) | (rw [if_neg (by decide +kernel)]; exact ⟨rfl, rfl⟩))
  (fun os started H enc _ => lifted os started H enc)
theorem proved : Rows.InquirySealsSaid := over
#print axioms proved
end Go.Proofs.YtikhnofbbcmpeaaGreat.lawInquirySeals
