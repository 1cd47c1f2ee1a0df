/-
 For all inputs TopTold returns true and leaves what it was given as it was.
 Conditions: none.
-/
import Derived.Test.YthfjhbbpdhjklaaGreatRows
import Derived.Test.YthfjhbbpdhjklaaGreatQTT05
import Derived.Test.YthfjhbbpdhjklaaGreatQTT08
import Derived.Test.YthfjhbbpdhjklaaGreatQTT10
namespace Go.Proofs.YthfjhbbpdhjklaaGreat.lawTopTold
open Go Go.Sy Go.ChangeShapes Go.WideShapes Go.ChangeAt Go.RowKit
set_option maxRecDepth 100000
set_option linter.unusedVariables false
theorem own : ownKnob Tryz.prog.godebug = none := by kernel_rfl
theorem laidOut : laidOutB Tryz.prog = true := by kernel_rfl
theorem walk (W : World) : ∀ (args : List Value), xfa W [.agg [.int .i64, .int .i64, .int .i64, .int .i64, .int .i64], .agg [.int .i64, .int .i64], .one (.int .i64), .sl 213 [.int .i64, .int .i64, .int .i64, .int .i64, .int .i64, .int .i64], .one (.int .i64), .sl 81 [.int .i64, .int .i64, .int .i64, .int .i64, .int .i64, .int .i64, .int .i64, .int .i64, .int .i64, .int .i64, .int .i64, .int .i64, .int .i64], .sl 3 [.int .i64], .sl 33 [.int .i64, .int .i64], .sl 83 [.int .i64, .int .i64, .int .i64, .int .i64, .int .i64, .int .i64, .int .i64, .int .i64], .one (.int .i64), .one (.int .i64), .one (.int .i64)] args → Calls Tryz.prog 4 args.toArray W fun e w' => e = .returned (.bool true) ∧ Below W.heap.size W w' := by
 intro args h
 obtain ⟨v0, v1, v2, v3, v4, v5, v6, v7, v8, v9, v10, v11, rfl, h0, h1, h2, h3, h4, h5, h6, h7, h8, h9, h10, h11⟩ := xAJ h
 obtain ⟨c0_0, rfl, g0⟩ := h0
 obtain ⟨n0_0, c0_1, rfl, w0_0, g0⟩ := xjH g0
 obtain ⟨n0_1, c0_2, rfl, w0_1, g0⟩ := xjH g0
 obtain ⟨n0_2, c0_3, rfl, w0_2, g0⟩ := xjH g0
 obtain ⟨n0_3, c0_4, rfl, w0_3, g0⟩ := xjH g0
 obtain ⟨n0_4, c0_5, rfl, w0_4, g0⟩ := xjH g0
 obtain rfl := xx0 g0
 obtain ⟨c1_0, rfl, g1⟩ := h1
 obtain ⟨n1_0, c1_1, rfl, w1_0, g1⟩ := xjH g1
 obtain ⟨n1_1, c1_2, rfl, w1_1, g1⟩ := xjH g1
 obtain rfl := xx0 g1
 obtain ⟨n2_0, rfl, w2⟩ := xmL h2
 obtain ⟨l3, e3, r3⟩ := h3
 obtain ⟨n4_0, rfl, w4⟩ := xmL h4
 obtain ⟨l5, e5, r5⟩ := h5
 obtain ⟨l6, e6, r6⟩ := h6
 obtain ⟨l7, e7, r7⟩ := h7
 obtain ⟨l8, e8, r8⟩ := h8
 obtain ⟨n9_0, rfl, w9⟩ := xmL h9
 obtain ⟨n10_0, rfl, w10⟩ := xmL h10
 obtain ⟨n11_0, rfl, w11⟩ := xmL h11
 have hp := xAk n0_0 n0_1 n0_2 n0_3 n0_4 n1_0 n1_1 n2_0 n4_0 n9_0 n10_0 n11_0 l3 l5 l6 l7 l8 e5 (xFD r3) (xFD r6)
 have hpre : xyv (xCt [v3, v5, v6, v7, v8]) W [⟨0, 0, false, .row 213 [.int .i64, .int .i64, .int .i64, .int .i64, .int .i64, .int .i64] l3⟩, ⟨1, 0, false, .row 81 [.int .i64, .int .i64, .int .i64, .int .i64, .int .i64, .int .i64, .int .i64, .int .i64, .int .i64, .int .i64, .int .i64, .int .i64, .int .i64] l5⟩, ⟨2, 0, false, .row 3 [.int .i64] l6⟩, ⟨3, 0, false, .row 33 [.int .i64, .int .i64] l7⟩, ⟨4, 0, false, .row 83 [.int .i64, .int .i64, .int .i64, .int .i64, .int .i64, .int .i64, .int .i64, .int .i64] l8⟩] := xAW (w := W) [v3, v5, v6, v7, v8] [.row 213 [.int .i64, .int .i64, .int .i64, .int .i64, .int .i64, .int .i64] l3, .row 81 [.int .i64, .int .i64, .int .i64, .int .i64, .int .i64, .int .i64, .int .i64, .int .i64, .int .i64, .int .i64, .int .i64, .int .i64, .int .i64] l5, .row 3 [.int .i64] l6, .row 33 [.int .i64, .int .i64] l7, .row 83 [.int .i64, .int .i64, .int .i64, .int .i64, .int .i64, .int .i64, .int .i64, .int .i64] l8] rfl fun k v b hv hr => by
  match k, hv, hr with
  | 0, hv, hr => have hv1 : some v3 = some v := hv; have hr1 : some (Body.row 213 [.int .i64, .int .i64, .int .i64, .int .i64, .int .i64, .int .i64] l3) = some b := hr; cases hv1; cases hr1; exact xBG r3 _
  | 1, hv, hr => have hv1 : some v5 = some v := hv; have hr1 : some (Body.row 81 [.int .i64, .int .i64, .int .i64, .int .i64, .int .i64, .int .i64, .int .i64, .int .i64, .int .i64, .int .i64, .int .i64, .int .i64, .int .i64] l5) = some b := hr; cases hv1; cases hr1; exact xBG r5 _
  | 2, hv, hr => have hv1 : some v6 = some v := hv; have hr1 : some (Body.row 3 [.int .i64] l6) = some b := hr; cases hv1; cases hr1; exact xBG r6 _
  | 3, hv, hr => have hv1 : some v7 = some v := hv; have hr1 : some (Body.row 33 [.int .i64, .int .i64] l7) = some b := hr; cases hv1; cases hr1; exact xBG r7 _
  | 4, hv, hr => have hv1 : some v8 = some v := hv; have hr1 : some (Body.row 83 [.int .i64, .int .i64, .int .i64, .int .i64, .int .i64, .int .i64, .int .i64, .int .i64] l8) = some b := hr; cases hv1; cases hr1; exact xBG r8 _
  | k + 5, hv, hr => exact absurd hv (by simp)
 have hargs : (AV.denL (xCt [v3, v5, v6, v7, v8]) [.agg [.int .i64 n0_0, .int .i64 n0_1, .int .i64 n0_2, .int .i64 n0_3, .int .i64 n0_4], .agg [.int .i64 n1_0, .int .i64 n1_1], .int .i64 n2_0, .sl 0, .int .i64 n4_0, .sl 1, .sl 2, .sl 3, .sl 4, .int .i64 n9_0, .int .i64 n10_0, .int .i64 n11_0]).toArray = #[.agg #[.int .i64 n0_0, .int .i64 n0_1, .int .i64 n0_2, .int .i64 n0_3, .int .i64 n0_4], .agg #[.int .i64 n1_0, .int .i64 n1_1], .int .i64 n2_0, v3, .int .i64 n4_0, v5, v6, v7, v8, .int .i64 n9_0, .int .i64 n10_0, .int .i64 n11_0] := by kernel_rfl
 have hc : K105 4 [.agg [.int .i64 n0_0, .int .i64 n0_1, .int .i64 n0_2, .int .i64 n0_3, .int .i64 n0_4], .agg [.int .i64 n1_0, .int .i64 n1_1], .int .i64 n2_0, .sl 0, .int .i64 n4_0, .sl 1, .sl 2, .sl 3, .sl 4, .int .i64 n9_0, .int .i64 n10_0, .int .i64 n11_0] [⟨0, 0, false, .row 213 [.int .i64, .int .i64, .int .i64, .int .i64, .int .i64, .int .i64] l3⟩, ⟨1, 0, false, .row 81 [.int .i64, .int .i64, .int .i64, .int .i64, .int .i64, .int .i64, .int .i64, .int .i64, .int .i64, .int .i64, .int .i64, .int .i64, .int .i64] l5⟩, ⟨2, 0, false, .row 3 [.int .i64] l6⟩, ⟨3, 0, false, .row 33 [.int .i64, .int .i64] l7⟩, ⟨4, 0, false, .row 83 [.int .i64, .int .i64, .int .i64, .int .i64, .int .i64, .int .i64, .int .i64, .int .i64] l8⟩] = some ⟨some (xeF n0_0 n0_1 n0_2 n0_3 n0_4 n1_0 n1_1 n2_0 n4_0 n9_0 n10_0 n11_0 l3 l5 l6 l7 l8), [], 0, [], .bool (xgF n0_0 n0_1 n0_2 n0_3 n0_4 n1_0 n1_1 n2_0 n4_0 n9_0 n10_0 n11_0 l3 l5 l6 l7 l8)⟩ := by kernel_rfl
 have hu := xEG xE2 hc rfl (fun E => congrArg Value.bool hp.1) hp.2 hpre
 rw [hargs] at hu
 exact hu
theorem lifted (os : Os) (started : os.Started) (H : Type) (enc : TypeId × Value → H) :
  ReturnsInHanded {} Tryz.checked os 4 .any (Rows.topToldSpec.pre6 enc Tryz.prog Tryz.f4 Rows.topToldRow.domain false) (Rows.topToldSpec.post enc Tryz.prog Tryz.f4 false true false false) := by
 refine returnsInHanded_of_change (C := Tryz.checked) own started (by kernel_rfl) Tryz.func4
  (ChangeSpec.witness6 (enc := enc) (C := Tryz.checked) false ⟨#[], #[.agg #[.int .i64 0, .int .i64 0, .int .i64 0, .int .i64 0, .int .i64 0], .agg #[.int .i64 0, .int .i64 0], .int .i64 0, .slice none 0 0, .int .i64 0, .slice none 0 0, .slice none 0 0, .slice none 0 0, .slice none 0 0, .int .i64 0, .int .i64 0, .int .i64 0], []⟩ 8 (by kernel_rfl) (by kernel_rfl) (by kernel_rfl) (by kernel_rfl)) ?_
 exact xB5 (C := Tryz.checked) (fn := Tryz.f4) (T := 4) (k := 12) (ks := [.agg [.int .i64, .int .i64, .int .i64, .int .i64, .int .i64], .agg [.int .i64, .int .i64], .one (.int .i64), .sl 213 [.int .i64, .int .i64, .int .i64, .int .i64, .int .i64, .int .i64], .one (.int .i64), .sl 81 [.int .i64, .int .i64, .int .i64, .int .i64, .int .i64, .int .i64, .int .i64, .int .i64, .int .i64, .int .i64, .int .i64, .int .i64, .int .i64], .sl 3 [.int .i64], .sl 33 [.int .i64, .int .i64], .sl 83 [.int .i64, .int .i64, .int .i64, .int .i64, .int .i64, .int .i64, .int .i64, .int .i64], .one (.int .i64), .one (.int .i64), .one (.int .i64)]) laidOut (by kernel_rfl) (by kernel_rfl) (by kernel_rfl) (by kernel_rfl) rfl (fun H ds h => by match ds, h with | [_, _, _, _, _, _, _, _, _, _, _, _], _ => rfl) (by kernel_rfl) (fun W args h => walk W args h)
theorem over : Rows.topToldRow.holds Tryz.pinned (OpenSpec.ofChange Rows.topToldSpec) :=
 OpenClaim.holds_of_wide 4 Tryz.f4 rfl rfl rfl rfl rfl rfl rfl ⟨rfl, rfl, rfl, rfl, rfl⟩ rfl rfl rfl rfl rfl (by kernel_rfl) Tryz.func4 (by kernel_rfl)
  (of_decide_eq_true (by kernel_rfl)) (by unfold Func.isWrapper; first | (rw [if_pos (by decide +kernel)]; kernel_rfl) | (rw [if_neg (by decide +kernel)]; exact ⟨rfl, rfl⟩))
  (fun os started H enc _ => lifted os started H enc)
theorem proved : Rows.TopToldSaid := over
#print axioms proved
end Go.Proofs.YthfjhbbpdhjklaaGreat.lawTopTold
