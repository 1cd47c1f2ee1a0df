/-
 For all inputs InquiryFewest returns true and leaves what it was given as it was.
 Conditions: none.
-/
import Derived.Test.YtikhnofbbcmpeaaGreatRows
import Derived.Test.YtikhnofbbcmpeaaGreatQIF05
import Derived.Test.YtikhnofbbcmpeaaGreatQIF07
import Derived.Test.YtikhnofbbcmpeaaGreatQIF08
namespace Go.Proofs.YtikhnofbbcmpeaaGreat.lawInquiryFewest
open Go Go.Sy Go.ChangeShapes Go.WideShapes Go.ChangeAt Go.RowKit
set_option maxRecDepth 100000
set_option linter.unusedVariables false
theorem own : ownKnob Tryz.prog.godebug = none := by kernel_rfl
theorem laidOut : laidOutB Tryz.prog = true := by kernel_rfl
theorem walk (W : World) : ∀ (args : List Value), xgv W [.mix [.cells [.int .i64], .sl 29 [.int .i64, .int .i64, .int .i64, .int .u64]], .nst 24 [.cells [.int .i64], .sl 29 [.int .i64, .int .i64, .int .i64, .int .u64]], .sl 41 [.int .i64, .int .i64, .int .i64], .one (.int .i64), .one (.int .i64), .sl 80 [.int .i64, .int .i64, .int .i64]] args → Calls Tryz.prog 7 args.toArray W fun e w' => e = .returned (.bool true) ∧ Below W.heap.size W w' := by
 intro args h
 obtain ⟨v0, v1, v2, v3, v4, v5, rfl, h0, h1, h2, h3, h4, h5⟩ := xyV h
 obtain ⟨c0_0, rfl, g0⟩ := h0
 obtain ⟨n0_0, c0_1, rfl, w0_0, g0⟩ := xyU g0
 obtain ⟨v0_1, c0_2, rfl, hv0_1, g0⟩ := xz2 g0
 obtain ⟨l0_1, e0_1, r0_1⟩ := hv0_1
 obtain rfl := xyT g0
 obtain ⟨l1, q1, r1, e1⟩ := h1
 obtain ⟨l2, e2, r2⟩ := h2
 obtain ⟨n3_0, rfl, w3⟩ := xt5 h3
 obtain ⟨n4_0, rfl, w4⟩ := xt5 h4
 obtain ⟨l5, e5, r5⟩ := h5
 have hp := xy5 n0_0 n3_0 n4_0 l0_1 l1 l2 l5 (xxM r0_1) (xxM r1.row) (xxM r2) (xxM r5) (xB4 r1)
 have hpre : xuA (xy8 [v0_1, v1, v2, v5]) W [⟨0, 0, false, .row 29 [.int .i64, .int .i64, .int .i64, .int .u64] l0_1⟩, ⟨1, 0, false, .nst 24 [.c (.int .i64), .s 29 [.int .i64, .int .i64, .int .i64, .int .u64]] l1⟩, ⟨2, 0, false, .row 41 [.int .i64, .int .i64, .int .i64] l2⟩, ⟨3, 0, false, .row 80 [.int .i64, .int .i64, .int .i64] l5⟩] := xxh (w := W) [v0_1, v1, v2, v5] [.row 29 [.int .i64, .int .i64, .int .i64, .int .u64] l0_1, .nst 24 [.c (.int .i64), .s 29 [.int .i64, .int .i64, .int .i64, .int .u64]] l1, .row 41 [.int .i64, .int .i64, .int .i64] l2, .row 80 [.int .i64, .int .i64, .int .i64] l5] rfl fun k v b hv hr => by
  match k, hv, hr with
  | 0, hv, hr => have hv1 : some v0_1 = some v := hv; have hr1 : some (Body.row 29 [.int .i64, .int .i64, .int .i64, .int .u64] l0_1) = some b := hr; cases hv1; cases hr1; exact xA8 r0_1 _
  | 1, hv, hr => have hv1 : some v1 = some v := hv; have hr1 : some (Body.nst 24 [.c (.int .i64), .s 29 [.int .i64, .int .i64, .int .i64, .int .u64]] l1) = some b := hr; cases hv1; cases hr1; exact xDo r1 _
  | 2, hv, hr => have hv1 : some v2 = some v := hv; have hr1 : some (Body.row 41 [.int .i64, .int .i64, .int .i64] l2) = some b := hr; cases hv1; cases hr1; exact xA8 r2 _
  | 3, hv, hr => have hv1 : some v5 = some v := hv; have hr1 : some (Body.row 80 [.int .i64, .int .i64, .int .i64] l5) = some b := hr; cases hv1; cases hr1; exact xA8 r5 _
  | k + 4, hv, hr => exact absurd hv (by simp)
 have hargs : (AV.denL (xy8 [v0_1, v1, v2, v5]) [.agg [.int .i64 n0_0, .sl 0], .sl 1, .sl 2, .int .i64 n3_0, .int .i64 n4_0, .sl 3]).toArray = #[.agg #[.int .i64 n0_0, v0_1], v1, v2, .int .i64 n3_0, .int .i64 n4_0, v5] := by kernel_rfl
 have hc : K53 7 [.agg [.int .i64 n0_0, .sl 0], .sl 1, .sl 2, .int .i64 n3_0, .int .i64 n4_0, .sl 3] [⟨0, 0, false, .row 29 [.int .i64, .int .i64, .int .i64, .int .u64] l0_1⟩, ⟨1, 0, false, .nst 24 [.c (.int .i64), .s 29 [.int .i64, .int .i64, .int .i64, .int .u64]] l1⟩, ⟨2, 0, false, .row 41 [.int .i64, .int .i64, .int .i64] l2⟩, ⟨3, 0, false, .row 80 [.int .i64, .int .i64, .int .i64] l5⟩] = some ⟨some (xbz n0_0 n3_0 n4_0 l0_1 l1 l2 l5), [], 0, [], .bool (xcC n0_0 n3_0 n4_0 l0_1 l1 l2 l5)⟩ := by kernel_rfl
 have hu := xBg xCF hc rfl (fun E => congrArg Value.bool hp.1) hp.2 hpre
 rw [hargs] at hu
 exact hu
theorem lifted (os : Os) (started : os.Started) (H : Type) (enc : TypeId × Value → H) :
  ReturnsInHanded {} Tryz.checked os 7 .any (Rows.inquiryFewestSpec.pre6 enc Tryz.prog Tryz.f7 Rows.inquiryFewestRow.domain false) (Rows.inquiryFewestSpec.post enc Tryz.prog Tryz.f7 false true false false) := by
 refine returnsInHanded_of_change (C := Tryz.checked) own started (by kernel_rfl) Tryz.func7
  (ChangeSpec.witness6 (enc := enc) (C := Tryz.checked) false ⟨#[], #[.agg #[.int .i64 0, .slice none 0 0], .slice none 0 0, .slice none 0 0, .int .i64 0, .int .i64 0, .slice none 0 0], []⟩ 8 (by kernel_rfl) (by kernel_rfl) (by kernel_rfl) (by kernel_rfl)) ?_
 exact xyq (C := Tryz.checked) (fn := Tryz.f7) (T := 4) (k := 6) (ks := [.mix [.cells [.int .i64], .sl 29 [.int .i64, .int .i64, .int .i64, .int .u64]], .nst 24 [.cells [.int .i64], .sl 29 [.int .i64, .int .i64, .int .i64, .int .u64]], .sl 41 [.int .i64, .int .i64, .int .i64], .one (.int .i64), .one (.int .i64), .sl 80 [.int .i64, .int .i64, .int .i64]]) laidOut (by kernel_rfl) (by kernel_rfl) (by kernel_rfl) (by kernel_rfl) rfl (fun H ds h => by match ds, h with | [_, _, _, _, _, _], _ => rfl) (by kernel_rfl) (fun W args h => walk W args h)
theorem over : Rows.inquiryFewestRow.holds Tryz.pinned (OpenSpec.ofChange Rows.inquiryFewestSpec) :=
 OpenClaim.holds_of_wide 7 Tryz.f7 rfl rfl rfl rfl rfl rfl rfl ⟨rfl, rfl, rfl, rfl, rfl⟩ rfl rfl rfl rfl rfl (by kernel_rfl) Tryz.func7 (by kernel_rfl)
  (of_decide_eq_true (by kernel_rfl)) (by unfold Func.isWrapper; first | (rw [if_pos (by decide +kernel)]; kernel_rfl) | (rw [if_neg (by decide +kernel)]; exact ⟨rfl, rfl⟩))
  (fun os started H enc _ => lifted os started H enc)
theorem proved : Rows.InquiryFewestSaid := over
#print axioms proved
end Go.Proofs.YtikhnofbbcmpeaaGreat.lawInquiryFewest
