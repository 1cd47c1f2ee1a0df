/-
  For all inputs InquiryKnown returns true and leaves what it was given as it was.
  Conditions: none.
-/
import Derived.Test.YtikhnofbbcmpeaaGreatRows
import Derived.Test.YtikhnofbbcmpeaaGreatQIK05
import Derived.Test.YtikhnofbbcmpeaaGreatQIK07
import Derived.Test.YtikhnofbbcmpeaaGreatQIK08
namespace Go.Proofs.YtikhnofbbcmpeaaGreat.lawInquiryKnown
open Go Go.Sy Go.ChangeShapes Go.WideShapes Go.ChangeAt Go.RowKit
set_option maxRecDepth 100000
set_option linter.unusedVariables false
theorem own : ownKnob Tryz.prog.godebug = none := by kernel_rfl
theorem laidOut : laidOutB Tryz.prog = true := by kernel_rfl
theorem walk (W : World) : ∀ (args : List Value), FitsAll W [.mix [.cells [.int .i64], .sl 29 [.int .i64, .int .i64, .int .i64, .int .u64]], .mix [.cells [.int .i64], .sl 29 [.int .i64, .int .i64, .int .i64, .int .u64]], .sl 41 [.int .i64, .int .i64, .int .i64], .one (.int .i64), .one (.int .i64)] args → Calls Tryz.prog 4 args.toArray W fun e w' => e = .returned (.bool true) ∧ Below W.heap.size W w' := by
  intro args h
  obtain ⟨v0, v1, v2, v3, v4, rfl, h0, h1, h2, h3, h4⟩ := fitsAll_5 h
  obtain ⟨c0_0, rfl, g0⟩ := h0
  obtain ⟨n0_0, c0_1, rfl, w0_0, g0⟩ := fitsF_int g0
  obtain ⟨v0_1, c0_2, rfl, hv0_1, g0⟩ := fitsF_sl g0
  obtain ⟨l0_1, e0_1, r0_1⟩ := hv0_1
  obtain rfl := fitsF_nil g0
  obtain ⟨c1_0, rfl, g1⟩ := h1
  obtain ⟨n1_0, c1_1, rfl, w1_0, g1⟩ := fitsF_int g1
  obtain ⟨v1_1, c1_2, rfl, hv1_1, g1⟩ := fitsF_sl g1
  obtain ⟨l1_1, e1_1, r1_1⟩ := hv1_1
  obtain rfl := fitsF_nil g1
  obtain ⟨l2, e2, r2⟩ := h2
  obtain ⟨n3_0, rfl, w3⟩ := fitsV_int h3
  obtain ⟨n4_0, rfl, w4⟩ := fitsV_int h4
  have hp := known_ok n0_0 n1_0 n3_0 n4_0 l0_1 l1_1 l2 (rowLt r0_1) (rowLt r1_1) (rowLt r2)
  have hpre : ConPre (envOf [v0_1, v1_1, v2]) W [⟨0, 0, false, .row 29 [.int .i64, .int .i64, .int .i64, .int .u64] l0_1⟩, ⟨1, 0, false, .row 29 [.int .i64, .int .i64, .int .i64, .int .u64] l1_1⟩, ⟨2, 0, false, .row 41 [.int .i64, .int .i64, .int .i64] l2⟩] := conPre_of (w := W) [v0_1, v1_1, v2] [(29, [.int .i64, .int .i64, .int .i64, .int .u64], l0_1), (29, [.int .i64, .int .i64, .int .i64, .int .u64], l1_1), (41, [.int .i64, .int .i64, .int .i64], l2)] rfl fun k v e ks l hv hr => by
    match k, hv, hr with
    | 0, hv, hr => have hv1 : some v0_1 = some v := hv; have hr1 : some (29, [.int .i64, .int .i64, .int .i64, .int .u64], l0_1) = some (e, ks, l) := hr; cases hv1; cases hr1; exact r0_1
    | 1, hv, hr => have hv1 : some v1_1 = some v := hv; have hr1 : some (29, [.int .i64, .int .i64, .int .i64, .int .u64], l1_1) = some (e, ks, l) := hr; cases hv1; cases hr1; exact r1_1
    | 2, hv, hr => have hv1 : some v2 = some v := hv; have hr1 : some (41, [.int .i64, .int .i64, .int .i64], l2) = some (e, ks, l) := hr; cases hv1; cases hr1; exact r2
    | k + 3, hv, hr => exact absurd hv (by simp)
  have hargs : (AV.denL (envOf [v0_1, v1_1, v2]) [.agg [.int .i64 n0_0, .sl 0], .agg [.int .i64 n1_0, .sl 1], .sl 2, .int .i64 n3_0, .int .i64 n4_0]).toArray = #[.agg #[.int .i64 n0_0, v0_1], .agg #[.int .i64 n1_0, v1_1], v2, .int .i64 n3_0, .int .i64 n4_0] := by kernel_rfl
  have hc : K43 4 [.agg [.int .i64 n0_0, .sl 0], .agg [.int .i64 n1_0, .sl 1], .sl 2, .int .i64 n3_0, .int .i64 n4_0] [⟨0, 0, false, .row 29 [.int .i64, .int .i64, .int .i64, .int .u64] l0_1⟩, ⟨1, 0, false, .row 29 [.int .i64, .int .i64, .int .i64, .int .u64] l1_1⟩, ⟨2, 0, false, .row 41 [.int .i64, .int .i64, .int .i64] l2⟩] = some ⟨some (law44_InquiryKnown_pre n0_0 n1_0 n3_0 n4_0 l0_1 l1_1 l2), [], 0, [], .bool (law44_InquiryKnown_0 n0_0 n1_0 n3_0 n4_0 l0_1 l1_1 l2)⟩ := by kernel_rfl
  have hu := law_use K43_ok hc rfl (fun E => congrArg Value.bool hp.1) hp.2 hpre
  rw [hargs] at hu
  exact hu
theorem lifted (os : Os) (started : os.Started) (H : Type) (enc : TypeId × Value → H) :
    ReturnsInHanded {} Tryz.checked os 4 .any (Rows.inquiryKnownSpec.pre6 enc Tryz.prog Tryz.f4 Rows.inquiryKnownRow.domain false) (Rows.inquiryKnownSpec.post enc Tryz.prog Tryz.f4 false true false false) := by
  refine returnsInHanded_of_change (C := Tryz.checked) own started (by kernel_rfl) Tryz.func4
    (ChangeSpec.witness6 (enc := enc) (C := Tryz.checked) false ⟨#[], #[.agg #[.int .i64 0, .slice none 0 0], .agg #[.int .i64 0, .slice none 0 0], .slice none 0 0, .int .i64 0, .int .i64 0], []⟩ 8 (by kernel_rfl) (by kernel_rfl) (by kernel_rfl) (by kernel_rfl)) ?_
  exact law_plain (C := Tryz.checked) (fn := Tryz.f4) (T := 4) (k := 5) (ks := [.mix [.cells [.int .i64], .sl 29 [.int .i64, .int .i64, .int .i64, .int .u64]], .mix [.cells [.int .i64], .sl 29 [.int .i64, .int .i64, .int .i64, .int .u64]], .sl 41 [.int .i64, .int .i64, .int .i64], .one (.int .i64), .one (.int .i64)]) laidOut (by kernel_rfl) (by kernel_rfl) (by kernel_rfl) (by kernel_rfl) rfl (fun H ds h => by match ds, h with | [_, _, _, _, _], _ => rfl) (by kernel_rfl) (fun W args h => walk W args h)
theorem over : Rows.inquiryKnownRow.holds Tryz.pinned (OpenSpec.ofChange Rows.inquiryKnownSpec) :=
  OpenClaim.holds_of_wide 4 Tryz.f4 rfl rfl rfl rfl rfl rfl rfl ⟨rfl, rfl, rfl, rfl, rfl⟩ rfl rfl rfl rfl rfl (by kernel_rfl) Tryz.func4 (by kernel_rfl)
    (of_decide_eq_true (by kernel_rfl)) (by unfold Func.isWrapper; first | (rw [if_pos (by decide +kernel)]; kernel_rfl) | (rw [if_neg (by decide +kernel)]; exact ⟨rfl, rfl⟩))
    (fun os started H enc _ => lifted os started H enc)
theorem proved : Rows.InquiryKnownSaid := over
#print axioms proved
end Go.Proofs.YtikhnofbbcmpeaaGreat.lawInquiryKnown
