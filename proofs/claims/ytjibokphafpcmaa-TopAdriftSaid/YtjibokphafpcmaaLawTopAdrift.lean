/-
  For all inputs TopAdrift returns true and leaves what it was given as it was.
  Conditions: none.
-/
import Derived.Test.YtjibokphafpcmaaRows
import Derived.Test.YtjibokphafpcmaaSyH
import Derived.Test.YtjibokphafpcmaaTop1
import Derived.Test.YtjibokphafpcmaaTopP

namespace Go.Proofs.Ytjibokphafpcmaa.lawTopAdrift
open Go Go.Sy Go.ChangeShapes Go.WideShapes Go.ChangeAt Go.RowKit
set_option maxRecDepth 100000
set_option linter.unusedVariables false

theorem own : ownKnob Try.prog.godebug = none := by kernel_rfl
theorem laidOut : laidOutB Try.prog = true := by kernel_rfl

theorem walk (W : World) : ∀ (args : List Value), FitsAll W [.agg [.int .i64, .int .i64, .int .i64, .int .i64, .int .i64], .agg [.int .i64, .int .i64], .one (.int .i64), .sl 79 [.int .i64, .int .i64, .int .i64, .int .i64, .int .i64, .int .i64], .one (.int .i64), .sl 51 [.int .i64, .int .i64, .int .i64, .int .i64, .int .i64, .int .i64, .int .i64, .int .i64, .int .i64, .int .i64, .int .i64, .int .i64, .int .i64], .sl 3 [.int .i64], .sl 23 [.int .i64, .int .i64]] args → Calls Try.prog 3 args.toArray W fun e w' => e = .returned (.bool true) ∧ Below W.heap.size W w' := by
  intro args h
  obtain ⟨v0, v1, v2, v3, v4, v5, v6, v7, rfl, h0, h1, h2, h3, h4, h5, h6, h7⟩ := fitsAll_8 h
  obtain ⟨c0_0, rfl, g0⟩ := h0
  obtain ⟨n0_0, c0_1, rfl, w0_0, g0⟩ := fitsC_int g0
  obtain ⟨n0_1, c0_2, rfl, w0_1, g0⟩ := fitsC_int g0
  obtain ⟨n0_2, c0_3, rfl, w0_2, g0⟩ := fitsC_int g0
  obtain ⟨n0_3, c0_4, rfl, w0_3, g0⟩ := fitsC_int g0
  obtain ⟨n0_4, c0_5, rfl, w0_4, g0⟩ := fitsC_int g0
  obtain rfl := fitsC_nil g0
  obtain ⟨c1_0, rfl, g1⟩ := h1
  obtain ⟨n1_0, c1_1, rfl, w1_0, g1⟩ := fitsC_int g1
  obtain ⟨n1_1, c1_2, rfl, w1_1, g1⟩ := fitsC_int g1
  obtain rfl := fitsC_nil g1
  obtain ⟨n2_0, rfl, w2⟩ := fitsV_int h2
  obtain ⟨l3, e3, r3⟩ := h3
  obtain ⟨n4_0, rfl, w4⟩ := fitsV_int h4
  obtain ⟨l5, e5, r5⟩ := h5
  obtain ⟨l6, e6, r6⟩ := h6
  obtain ⟨l7, e7, r7⟩ := h7
  have hp := topAdrift_ok n0_0 n0_1 n0_2 n0_3 n0_4 n1_0 n1_1 n2_0 n4_0 l3 l5 l6 l7 e5 (rowLe r3) (rowLe r6) (fun e he => elOk_length (e6 e he))
  have hpre : ConPre (envOf [v3, v5, v6, v7]) W [⟨0, 0, false, .row 79 [.int .i64, .int .i64, .int .i64, .int .i64, .int .i64, .int .i64] l3⟩, ⟨1, 0, false, .row 51 [.int .i64, .int .i64, .int .i64, .int .i64, .int .i64, .int .i64, .int .i64, .int .i64, .int .i64, .int .i64, .int .i64, .int .i64, .int .i64] l5⟩, ⟨2, 0, false, .row 3 [.int .i64] l6⟩, ⟨3, 0, false, .row 23 [.int .i64, .int .i64] l7⟩] := conPre_of (w := W) [v3, v5, v6, v7] [(79, [.int .i64, .int .i64, .int .i64, .int .i64, .int .i64, .int .i64], l3), (51, [.int .i64, .int .i64, .int .i64, .int .i64, .int .i64, .int .i64, .int .i64, .int .i64, .int .i64, .int .i64, .int .i64, .int .i64, .int .i64], l5), (3, [.int .i64], l6), (23, [.int .i64, .int .i64], l7)] rfl fun k v e ks l hv hr => by
    match k, hv, hr with
    | 0, hv, hr => have hv1 : some v3 = some v := hv; have hr1 : some (79, [.int .i64, .int .i64, .int .i64, .int .i64, .int .i64, .int .i64], l3) = some (e, ks, l) := hr; cases hv1; cases hr1; exact r3
    | 1, hv, hr => have hv1 : some v5 = some v := hv; have hr1 : some (51, [.int .i64, .int .i64, .int .i64, .int .i64, .int .i64, .int .i64, .int .i64, .int .i64, .int .i64, .int .i64, .int .i64, .int .i64, .int .i64], l5) = some (e, ks, l) := hr; cases hv1; cases hr1; exact r5
    | 2, hv, hr => have hv1 : some v6 = some v := hv; have hr1 : some (3, [.int .i64], l6) = some (e, ks, l) := hr; cases hv1; cases hr1; exact r6
    | 3, hv, hr => have hv1 : some v7 = some v := hv; have hr1 : some (23, [.int .i64, .int .i64], l7) = some (e, ks, l) := hr; cases hv1; cases hr1; exact r7
    | k + 4, hv, hr => exact absurd hv (by simp)
  have hargs : (AV.denL (envOf [v3, v5, v6, v7]) [.agg [.int .i64 n0_0, .int .i64 n0_1, .int .i64 n0_2, .int .i64 n0_3, .int .i64 n0_4], .agg [.int .i64 n1_0, .int .i64 n1_1], .int .i64 n2_0, .sl 0, .int .i64 n4_0, .sl 1, .sl 2, .sl 3]).toArray = #[.agg #[.int .i64 n0_0, .int .i64 n0_1, .int .i64 n0_2, .int .i64 n0_3, .int .i64 n0_4], .agg #[.int .i64 n1_0, .int .i64 n1_1], .int .i64 n2_0, v3, .int .i64 n4_0, v5, v6, v7] := by kernel_rfl
  have hc : K67 3 [.agg [.int .i64 n0_0, .int .i64 n0_1, .int .i64 n0_2, .int .i64 n0_3, .int .i64 n0_4], .agg [.int .i64 n1_0, .int .i64 n1_1], .int .i64 n2_0, .sl 0, .int .i64 n4_0, .sl 1, .sl 2, .sl 3] [⟨0, 0, false, .row 79 [.int .i64, .int .i64, .int .i64, .int .i64, .int .i64, .int .i64] l3⟩, ⟨1, 0, false, .row 51 [.int .i64, .int .i64, .int .i64, .int .i64, .int .i64, .int .i64, .int .i64, .int .i64, .int .i64, .int .i64, .int .i64, .int .i64, .int .i64] l5⟩, ⟨2, 0, false, .row 3 [.int .i64] l6⟩, ⟨3, 0, false, .row 23 [.int .i64, .int .i64] l7⟩] = some ⟨some (top_TopAdrift_pre n0_0 n0_1 n0_2 n0_3 n0_4 n1_0 n1_1 n2_0 n4_0 l3 l5 l6 l7), [], 0, [], .bool (top_TopAdrift_0 n0_0 n0_1 n0_2 n0_3 n0_4 n1_0 n1_1 n2_0 n4_0 l3 l5 l6 l7)⟩ := by kernel_rfl
  have hu := law_use K67_ok hc rfl (fun E => congrArg Value.bool hp.1) hp.2 hpre
  rw [hargs] at hu
  exact hu

theorem lifted (os : Os) (started : os.Started) (H : Type) (enc : TypeId × Value → H) :
    ReturnsInHanded {} Try.checked os 3 .any (Rows.topAdriftSpec.pre6 enc Try.prog Try.f3 Rows.topAdriftRow.domain false) (Rows.topAdriftSpec.post enc Try.prog Try.f3 false true false false) := by
  refine returnsInHanded_of_change (C := Try.checked) own started (by kernel_rfl) Try.func3
    (ChangeSpec.witness6 (enc := enc) (C := Try.checked) false ⟨#[], #[.agg #[.int .i64 0, .int .i64 0, .int .i64 0, .int .i64 0, .int .i64 0], .agg #[.int .i64 0, .int .i64 0], .int .i64 0, .slice none 0 0, .int .i64 0, .slice none 0 0, .slice none 0 0, .slice none 0 0], []⟩ 8 (by kernel_rfl) (by kernel_rfl) (by kernel_rfl) (by kernel_rfl)) ?_
  exact law_plain (C := Try.checked) (fn := Try.f3) (T := 4) (k := 8) (ks := [.agg [.int .i64, .int .i64, .int .i64, .int .i64, .int .i64], .agg [.int .i64, .int .i64], .one (.int .i64), .sl 79 [.int .i64, .int .i64, .int .i64, .int .i64, .int .i64, .int .i64], .one (.int .i64), .sl 51 [.int .i64, .int .i64, .int .i64, .int .i64, .int .i64, .int .i64, .int .i64, .int .i64, .int .i64, .int .i64, .int .i64, .int .i64, .int .i64], .sl 3 [.int .i64], .sl 23 [.int .i64, .int .i64]]) laidOut (by kernel_rfl) (by kernel_rfl) (by kernel_rfl) (by kernel_rfl) rfl (fun H ds h => by match ds, h with | [_, _, _, _, _, _, _, _], _ => rfl) (by kernel_rfl) (fun W args h => walk W args h)

theorem over : Rows.topAdriftRow.holds Try.pinned (OpenSpec.ofChange Rows.topAdriftSpec) :=
  OpenClaim.holds_of_wide 3 Try.f3 rfl rfl rfl rfl rfl rfl rfl ⟨rfl, rfl, rfl, rfl, rfl⟩ rfl rfl rfl rfl rfl (by kernel_rfl) Try.func3 (by kernel_rfl)
    (of_decide_eq_true (by kernel_rfl)) (by unfold Func.isWrapper; first | (rw [if_pos (by decide +kernel)]; kernel_rfl) | (rw [if_neg (by decide +kernel)]; exact ⟨rfl, rfl⟩))
    (fun os started H enc _ => lifted os started H enc)

/-- The given statement. -/
theorem proved : Rows.TopAdriftSaid := over
#print axioms proved
end Go.Proofs.Ytjibokphafpcmaa.lawTopAdrift
