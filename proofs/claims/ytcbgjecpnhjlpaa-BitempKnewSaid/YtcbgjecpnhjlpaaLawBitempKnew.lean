/-
  For all inputs BitempKnew returns true and leaves what it was given as it was.
  Conditions: none.
-/
import Derived.Test.YtcbgjecpnhjlpaaRows
import Derived.Test.YtcbgjecpnhjlpaaSyH
import Derived.Test.YtcbgjecpnhjlpaaBitemp3
import Derived.Test.YtcbgjecpnhjlpaaBitempQ

namespace Go.Proofs.Ytcbgjecpnhjlpaa.lawBitempKnew
open Go Go.Sy Go.ChangeShapes Go.WideShapes Go.ChangeAt Go.RowKit
set_option maxRecDepth 100000
set_option linter.unusedVariables false

theorem own : ownKnob Try.prog.godebug = none := by kernel_rfl
theorem laidOut : laidOutB Try.prog = true := by kernel_rfl

theorem walk (W : World) : ∀ (args : List Value), FitsAll W [.sl 24 [.int .i64, .int .i64, .int .i64, .int .i64, .int .i64], .one (.int .i64), .one (.int .i64), .one (.int .i64), .one (.int .i64), .one (.int .i64), .one (.int .i64)] args → Calls Try.prog 8 args.toArray W fun e w' => e = .returned (.bool true) ∧ Below W.heap.size W w' := by
  intro args h
  obtain ⟨v0, v1, v2, v3, v4, v5, v6, rfl, h0, h1, h2, h3, h4, h5, h6⟩ := fitsAll_7 h
  obtain ⟨l0, e0, r0⟩ := h0
  obtain ⟨n1_0, rfl, w1⟩ := fitsV_int h1
  obtain ⟨n2_0, rfl, w2⟩ := fitsV_int h2
  obtain ⟨n3_0, rfl, w3⟩ := fitsV_int h3
  obtain ⟨n4_0, rfl, w4⟩ := fitsV_int h4
  obtain ⟨n5_0, rfl, w5⟩ := fitsV_int h5
  obtain ⟨n6_0, rfl, w6⟩ := fitsV_int h6
  have hp := bitempKnew_ok n1_0 n2_0 n3_0 n4_0 n5_0 n6_0 l0 
  have hpre : ConPre (envOf [v0]) W [⟨0, 0, false, .row 24 [.int .i64, .int .i64, .int .i64, .int .i64, .int .i64] l0⟩] := conPre_of (w := W) [v0] [(24, [.int .i64, .int .i64, .int .i64, .int .i64, .int .i64], l0)] rfl fun k v e ks l hv hr => by
    match k, hv, hr with
    | 0, hv, hr => have hv1 : some v0 = some v := hv; have hr1 : some (24, [.int .i64, .int .i64, .int .i64, .int .i64, .int .i64], l0) = some (e, ks, l) := hr; cases hv1; cases hr1; exact r0
    | k + 1, hv, hr => exact absurd hv (by simp)
  have hargs : (AV.denL (envOf [v0]) [.sl 0, .int .i64 n1_0, .int .i64 n2_0, .int .i64 n3_0, .int .i64 n4_0, .int .i64 n5_0, .int .i64 n6_0]).toArray = #[v0, .int .i64 n1_0, .int .i64 n2_0, .int .i64 n3_0, .int .i64 n4_0, .int .i64 n5_0, .int .i64 n6_0] := by kernel_rfl
  have hc : B31 8 [.sl 0, .int .i64 n1_0, .int .i64 n2_0, .int .i64 n3_0, .int .i64 n4_0, .int .i64 n5_0, .int .i64 n6_0] [⟨0, 0, false, .row 24 [.int .i64, .int .i64, .int .i64, .int .i64, .int .i64] l0⟩] = some ⟨some (law27_BitempKnew_pre n1_0 n2_0 n3_0 n4_0 n5_0 n6_0 l0), [], 0, [], .bool (law27_BitempKnew_0 n1_0 n2_0 n3_0 n4_0 n5_0 n6_0 l0)⟩ := by kernel_rfl
  have hu := law_use B31_ok hc rfl (fun E => congrArg Value.bool hp.1) hp.2 hpre
  rw [hargs] at hu
  exact hu

theorem lifted (os : Os) (started : os.Started) (H : Type) (enc : TypeId × Value → H) :
    ReturnsInHanded {} Try.checked os 8 .any (Rows.bitempKnewSpec.pre6 enc Try.prog Try.f8 Rows.bitempKnewRow.domain false) (Rows.bitempKnewSpec.post enc Try.prog Try.f8 false true false false) := by
  refine returnsInHanded_of_change (C := Try.checked) own started (by kernel_rfl) Try.func8
    (ChangeSpec.witness6 (enc := enc) (C := Try.checked) false ⟨#[], #[.slice none 0 0, .int .i64 0, .int .i64 0, .int .i64 0, .int .i64 0, .int .i64 0, .int .i64 0], []⟩ 8 (by kernel_rfl) (by kernel_rfl) (by kernel_rfl) (by kernel_rfl)) ?_
  exact law_plain (C := Try.checked) (fn := Try.f8) (T := 4) (k := 7) (ks := [.sl 24 [.int .i64, .int .i64, .int .i64, .int .i64, .int .i64], .one (.int .i64), .one (.int .i64), .one (.int .i64), .one (.int .i64), .one (.int .i64), .one (.int .i64)]) laidOut (by kernel_rfl) (by kernel_rfl) (by kernel_rfl) (by kernel_rfl) rfl (fun H ds h => by match ds, h with | [_, _, _, _, _, _, _], _ => rfl) (by kernel_rfl) (fun W args h => walk W args h)

theorem over : Rows.bitempKnewRow.holds Try.pinned (OpenSpec.ofChange Rows.bitempKnewSpec) :=
  OpenClaim.holds_of_wide 8 Try.f8 rfl rfl rfl rfl rfl rfl rfl ⟨rfl, rfl, rfl, rfl, rfl⟩ rfl rfl rfl rfl rfl (by kernel_rfl) Try.func8 (by kernel_rfl)
    (of_decide_eq_true (by kernel_rfl)) (by unfold Func.isWrapper; first | (rw [if_pos (by decide +kernel)]; kernel_rfl) | (rw [if_neg (by decide +kernel)]; exact ⟨rfl, rfl⟩))
    (fun os started H enc _ => lifted os started H enc)

/-- The given statement. -/
theorem proved : Rows.BitempKnewSaid := over
#print axioms proved
end Go.Proofs.Ytcbgjecpnhjlpaa.lawBitempKnew
