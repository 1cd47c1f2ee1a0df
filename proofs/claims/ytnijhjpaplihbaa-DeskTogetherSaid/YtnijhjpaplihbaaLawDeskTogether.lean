/-
  For all inputs DeskTogether returns true and leaves what it was given as it was.
  Conditions: none.
-/
import Derived.Test.YtnijhjpaplihbaaRows
import Derived.Test.YtnijhjpaplihbaaSyH
import Derived.Test.YtnijhjpaplihbaaDesk4
import Derived.Test.YtnijhjpaplihbaaDeskM

namespace Go.Proofs.Ytnijhjpaplihbaa.lawDeskTogether
open Go Go.Sy Go.ChangeShapes Go.WideShapes Go.ChangeAt Go.RowKit
set_option maxRecDepth 100000
set_option linter.unusedVariables false

theorem own : ownKnob Try.prog.godebug = none := by kernel_rfl
theorem laidOut : laidOutB Try.prog = true := by kernel_rfl

theorem walk (W : World) : ∀ (args : List Value), FitsAll W [.mix [.sl 48 [.int .i64, .int .i64, .int .i64, .int .i64], .sl 63 [.int .i64, .int .i64, .int .i64, .int .i64, .int .i64, .int .i64], .cells [.int .i64], .sl 59 [.int .i64, .int .i64, .int .i64, .int .i64, .int .i64, .int .i64, .int .i64, .int .i64, .int .i64, .int .i64, .int .i64, .int .i64, .int .i64]], .one (.int .u8), .sl 3 [.int .i64], .one (.int .i64)] args → Calls Try.prog 8 args.toArray W fun e w' => e = .returned (.bool true) ∧ Below W.heap.size W w' := by
  intro args h
  obtain ⟨v0, v1, v2, v3, rfl, h0, h1, h2, h3⟩ := fitsAll_4 h
  obtain ⟨c0_0, rfl, g0⟩ := h0
  obtain ⟨v0_0, c0_1, rfl, hv0_0, g0⟩ := fitsF_sl g0
  obtain ⟨l0_0, e0_0, r0_0⟩ := hv0_0
  obtain ⟨v0_1, c0_2, rfl, hv0_1, g0⟩ := fitsF_sl g0
  obtain ⟨l0_1, e0_1, r0_1⟩ := hv0_1
  obtain ⟨n0_2, c0_3, rfl, w0_2, g0⟩ := fitsF_int g0
  obtain ⟨v0_3, c0_4, rfl, hv0_3, g0⟩ := fitsF_sl g0
  obtain ⟨l0_3, e0_3, r0_3⟩ := hv0_3
  obtain rfl := fitsF_nil g0
  obtain ⟨n1_0, rfl, w1⟩ := fitsV_int h1
  obtain ⟨l2, e2, r2⟩ := h2
  obtain ⟨n3_0, rfl, w3⟩ := fitsV_int h3
  have hp := deskTogether_ok n0_2 n1_0 n3_0 l0_0 l0_1 l0_3 l2 (u8_bd w1) e0_3 (rowLe r0_1) (rowLe r2)
  have hpre : ConPre (envOf [v0_0, v0_1, v0_3, v2]) W [⟨0, 0, false, .row 48 [.int .i64, .int .i64, .int .i64, .int .i64] l0_0⟩, ⟨1, 0, false, .row 63 [.int .i64, .int .i64, .int .i64, .int .i64, .int .i64, .int .i64] l0_1⟩, ⟨2, 0, false, .row 59 [.int .i64, .int .i64, .int .i64, .int .i64, .int .i64, .int .i64, .int .i64, .int .i64, .int .i64, .int .i64, .int .i64, .int .i64, .int .i64] l0_3⟩, ⟨3, 0, false, .row 3 [.int .i64] l2⟩] := conPre_of (w := W) [v0_0, v0_1, v0_3, v2] [(48, [.int .i64, .int .i64, .int .i64, .int .i64], l0_0), (63, [.int .i64, .int .i64, .int .i64, .int .i64, .int .i64, .int .i64], l0_1), (59, [.int .i64, .int .i64, .int .i64, .int .i64, .int .i64, .int .i64, .int .i64, .int .i64, .int .i64, .int .i64, .int .i64, .int .i64, .int .i64], l0_3), (3, [.int .i64], l2)] rfl fun k v e ks l hv hr => by
    match k, hv, hr with
    | 0, hv, hr => have hv1 : some v0_0 = some v := hv; have hr1 : some (48, [.int .i64, .int .i64, .int .i64, .int .i64], l0_0) = some (e, ks, l) := hr; cases hv1; cases hr1; exact r0_0
    | 1, hv, hr => have hv1 : some v0_1 = some v := hv; have hr1 : some (63, [.int .i64, .int .i64, .int .i64, .int .i64, .int .i64, .int .i64], l0_1) = some (e, ks, l) := hr; cases hv1; cases hr1; exact r0_1
    | 2, hv, hr => have hv1 : some v0_3 = some v := hv; have hr1 : some (59, [.int .i64, .int .i64, .int .i64, .int .i64, .int .i64, .int .i64, .int .i64, .int .i64, .int .i64, .int .i64, .int .i64, .int .i64, .int .i64], l0_3) = some (e, ks, l) := hr; cases hv1; cases hr1; exact r0_3
    | 3, hv, hr => have hv1 : some v2 = some v := hv; have hr1 : some (3, [.int .i64], l2) = some (e, ks, l) := hr; cases hv1; cases hr1; exact r2
    | k + 4, hv, hr => exact absurd hv (by simp)
  have hargs : (AV.denL (envOf [v0_0, v0_1, v0_3, v2]) [.agg [.sl 0, .sl 1, .int .i64 n0_2, .sl 2], .int .u8 n1_0, .sl 3, .int .i64 n3_0]).toArray = #[.agg #[v0_0, v0_1, .int .i64 n0_2, v0_3], .int .u8 n1_0, v2, .int .i64 n3_0] := by kernel_rfl
  have hc : K61 8 [.agg [.sl 0, .sl 1, .int .i64 n0_2, .sl 2], .int .u8 n1_0, .sl 3, .int .i64 n3_0] [⟨0, 0, false, .row 48 [.int .i64, .int .i64, .int .i64, .int .i64] l0_0⟩, ⟨1, 0, false, .row 63 [.int .i64, .int .i64, .int .i64, .int .i64, .int .i64, .int .i64] l0_1⟩, ⟨2, 0, false, .row 59 [.int .i64, .int .i64, .int .i64, .int .i64, .int .i64, .int .i64, .int .i64, .int .i64, .int .i64, .int .i64, .int .i64, .int .i64, .int .i64] l0_3⟩, ⟨3, 0, false, .row 3 [.int .i64] l2⟩] = some ⟨some (law25_DeskTogether_pre n0_2 n1_0 n3_0 l0_0 l0_1 l0_3 l2), [], 0, [], .bool (law25_DeskTogether_0 n0_2 n1_0 n3_0 l0_0 l0_1 l0_3 l2)⟩ := by kernel_rfl
  have hu := law_use K61_ok hc rfl (fun E => congrArg Value.bool hp.1) hp.2 hpre
  rw [hargs] at hu
  exact hu

theorem lifted (os : Os) (started : os.Started) (H : Type) (enc : TypeId × Value → H) :
    ReturnsInHanded {} Try.checked os 8 .any (Rows.deskTogetherSpec.pre6 enc Try.prog Try.f8 Rows.deskTogetherRow.domain false) (Rows.deskTogetherSpec.post enc Try.prog Try.f8 false true false false) := by
  refine returnsInHanded_of_change (C := Try.checked) own started (by kernel_rfl) Try.func8
    (ChangeSpec.witness6 (enc := enc) (C := Try.checked) false ⟨#[], #[.agg #[.slice none 0 0, .slice none 0 0, .int .i64 0, .slice none 0 0], .int .u8 0, .slice none 0 0, .int .i64 0], []⟩ 8 (by kernel_rfl) (by kernel_rfl) (by kernel_rfl) (by kernel_rfl)) ?_
  exact law_plain (C := Try.checked) (fn := Try.f8) (T := 4) (k := 4) (ks := [.mix [.sl 48 [.int .i64, .int .i64, .int .i64, .int .i64], .sl 63 [.int .i64, .int .i64, .int .i64, .int .i64, .int .i64, .int .i64], .cells [.int .i64], .sl 59 [.int .i64, .int .i64, .int .i64, .int .i64, .int .i64, .int .i64, .int .i64, .int .i64, .int .i64, .int .i64, .int .i64, .int .i64, .int .i64]], .one (.int .u8), .sl 3 [.int .i64], .one (.int .i64)]) laidOut (by kernel_rfl) (by kernel_rfl) (by kernel_rfl) (by kernel_rfl) rfl (fun H ds h => by match ds, h with | [_, _, _, _], _ => rfl) (by kernel_rfl) (fun W args h => walk W args h)

theorem over : Rows.deskTogetherRow.holds Try.pinned (OpenSpec.ofChange Rows.deskTogetherSpec) :=
  OpenClaim.holds_of_wide 8 Try.f8 rfl rfl rfl rfl rfl rfl rfl ⟨rfl, rfl, rfl, rfl, rfl⟩ rfl rfl rfl rfl rfl (by kernel_rfl) Try.func8 (by kernel_rfl)
    (of_decide_eq_true (by kernel_rfl)) (by unfold Func.isWrapper; first | (rw [if_pos (by decide +kernel)]; kernel_rfl) | (rw [if_neg (by decide +kernel)]; exact ⟨rfl, rfl⟩))
    (fun os started H enc _ => lifted os started H enc)

/-- The given statement. -/
theorem proved : Rows.DeskTogetherSaid := over
#print axioms proved
end Go.Proofs.Ytnijhjpaplihbaa.lawDeskTogether
