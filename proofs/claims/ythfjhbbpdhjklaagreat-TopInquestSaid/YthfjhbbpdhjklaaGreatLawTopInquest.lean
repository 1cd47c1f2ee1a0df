/-
 For all inputs TopInquest returns true and leaves what it was given as it was.
 Conditions: none.
-/
import Derived.Test.YthfjhbbpdhjklaaGreatRows
import Derived.Test.YthfjhbbpdhjklaaGreatQTI05
import Derived.Test.YthfjhbbpdhjklaaGreatQTI07
import Derived.Test.YthfjhbbpdhjklaaGreatQTI09
namespace Go.Proofs.YthfjhbbpdhjklaaGreat.lawTopInquest
open Go Go.Sy Go.ChangeShapes Go.WideShapes Go.ChangeAt Go.RowKit
set_option maxRecDepth 100000
set_option linter.unusedVariables false
theorem own : ownKnob Tryz.prog.godebug = none := by kernel_rfl
theorem laidOut : laidOutB Tryz.prog = true := by kernel_rfl
theorem walk (W : World) : ∀ (args : List Value), xgi W [.mix [.sl 33 [.int .i64, .int .i64], .sl 98 [.int .i64, .int .i64, .int .i64, .int .i64]], .sl 35 [.int .i64, .int .i64, .int .i64, .int .i64], .one (.int .u16), .nst 47 [.sl 104 [.int .i64, .int .i64], .cells [.int .i64], .cells [.int .i64], .cells [.int .u16]], .one (.int .i64), .one (.int .i64), .one (.int .i64)] args → Calls Tryz.prog 3 args.toArray W fun e w' => e = .returned (.bool true) ∧ Below W.heap.size W w' := by
 intro args h
 obtain ⟨v0, v1, v2, v3, v4, v5, v6, rfl, h0, h1, h2, h3, h4, h5, h6⟩ := xy6 h
 obtain ⟨c0_0, rfl, g0⟩ := h0
 obtain ⟨v0_0, c0_1, rfl, hv0_0, g0⟩ := xwx g0
 obtain ⟨l0_0, e0_0, r0_0⟩ := hv0_0
 obtain ⟨v0_1, c0_2, rfl, hv0_1, g0⟩ := xwx g0
 obtain ⟨l0_1, e0_1, r0_1⟩ := hv0_1
 obtain rfl := xy5 g0
 obtain ⟨l1, e1, r1⟩ := h1
 obtain ⟨n2_0, rfl, w2⟩ := xnm h2
 obtain ⟨l3, q3, r3, e3⟩ := h3
 obtain ⟨n4_0, rfl, w4⟩ := xnm h4
 obtain ⟨n5_0, rfl, w5⟩ := xnm h5
 obtain ⟨n6_0, rfl, w6⟩ := xnm h6
 have hp := xxh n2_0 n4_0 n5_0 n6_0 l0_0 l0_1 l1 l3 (xBv r0_0) (xBv r0_1) (xDM r3)
 have hpre : xuM (xzg [v0_0, v0_1, v1, v3]) W [⟨0, 0, false, .row 33 [.int .i64, .int .i64] l0_0⟩, ⟨1, 0, false, .row 98 [.int .i64, .int .i64, .int .i64, .int .i64] l0_1⟩, ⟨2, 0, false, .row 35 [.int .i64, .int .i64, .int .i64, .int .i64] l1⟩, ⟨3, 0, false, .nst 47 [.s 104 [.int .i64, .int .i64], .c (.int .i64), .c (.int .i64), .c (.int .u16)] l3⟩] := xxq (w := W) [v0_0, v0_1, v1, v3] [.row 33 [.int .i64, .int .i64] l0_0, .row 98 [.int .i64, .int .i64, .int .i64, .int .i64] l0_1, .row 35 [.int .i64, .int .i64, .int .i64, .int .i64] l1, .nst 47 [.s 104 [.int .i64, .int .i64], .c (.int .i64), .c (.int .i64), .c (.int .u16)] l3] rfl fun k v b hv hr => by
  match k, hv, hr with
  | 0, hv, hr => have hv1 : some v0_0 = some v := hv; have hr1 : some (Body.row 33 [.int .i64, .int .i64] l0_0) = some b := hr; cases hv1; cases hr1; exact xBC r0_0 _
  | 1, hv, hr => have hv1 : some v0_1 = some v := hv; have hr1 : some (Body.row 98 [.int .i64, .int .i64, .int .i64, .int .i64] l0_1) = some b := hr; cases hv1; cases hr1; exact xBC r0_1 _
  | 2, hv, hr => have hv1 : some v1 = some v := hv; have hr1 : some (Body.row 35 [.int .i64, .int .i64, .int .i64, .int .i64] l1) = some b := hr; cases hv1; cases hr1; exact xBC r1 _
  | 3, hv, hr => have hv1 : some v3 = some v := hv; have hr1 : some (Body.nst 47 [.s 104 [.int .i64, .int .i64], .c (.int .i64), .c (.int .i64), .c (.int .u16)] l3) = some b := hr; cases hv1; cases hr1; exact xDL r3 _
  | k + 4, hv, hr => exact absurd hv (by simp)
 have hargs : (AV.denL (xzg [v0_0, v0_1, v1, v3]) [.agg [.sl 0, .sl 1], .sl 2, .int .u16 n2_0, .sl 3, .int .i64 n4_0, .int .i64 n5_0, .int .i64 n6_0]).toArray = #[.agg #[v0_0, v0_1], v1, .int .u16 n2_0, v3, .int .i64 n4_0, .int .i64 n5_0, .int .i64 n6_0] := by kernel_rfl
 have hc : K54 3 [.agg [.sl 0, .sl 1], .sl 2, .int .u16 n2_0, .sl 3, .int .i64 n4_0, .int .i64 n5_0, .int .i64 n6_0] [⟨0, 0, false, .row 33 [.int .i64, .int .i64] l0_0⟩, ⟨1, 0, false, .row 98 [.int .i64, .int .i64, .int .i64, .int .i64] l0_1⟩, ⟨2, 0, false, .row 35 [.int .i64, .int .i64, .int .i64, .int .i64] l1⟩, ⟨3, 0, false, .nst 47 [.s 104 [.int .i64, .int .i64], .c (.int .i64), .c (.int .i64), .c (.int .u16)] l3⟩] = some ⟨some (xcI n2_0 n4_0 n5_0 n6_0 l0_0 l0_1 l1 l3), [], 0, [], .bool (xd9 n2_0 n4_0 n5_0 n6_0 l0_0 l0_1 l1 l3)⟩ := by kernel_rfl
 have hu := xBI xC1 hc rfl (fun E => congrArg Value.bool hp.1) hp.2 hpre
 rw [hargs] at hu
 exact hu
theorem lifted (os : Os) (started : os.Started) (H : Type) (enc : TypeId × Value → H) :
  ReturnsInHanded {} Tryz.checked os 3 .any (Rows.topInquestSpec.pre6 enc Tryz.prog Tryz.f3 Rows.topInquestRow.domain false) (Rows.topInquestSpec.post enc Tryz.prog Tryz.f3 false true false false) := by
 refine returnsInHanded_of_change (C := Tryz.checked) own started (by kernel_rfl) Tryz.func3
  (ChangeSpec.witness6 (enc := enc) (C := Tryz.checked) false ⟨#[], #[.agg #[.slice none 0 0, .slice none 0 0], .slice none 0 0, .int .u16 0, .slice none 0 0, .int .i64 0, .int .i64 0, .int .i64 0], []⟩ 8 (by kernel_rfl) (by kernel_rfl) (by kernel_rfl) (by kernel_rfl)) ?_
 exact xyI (C := Tryz.checked) (fn := Tryz.f3) (T := 4) (k := 7) (ks := [.mix [.sl 33 [.int .i64, .int .i64], .sl 98 [.int .i64, .int .i64, .int .i64, .int .i64]], .sl 35 [.int .i64, .int .i64, .int .i64, .int .i64], .one (.int .u16), .nst 47 [.sl 104 [.int .i64, .int .i64], .cells [.int .i64], .cells [.int .i64], .cells [.int .u16]], .one (.int .i64), .one (.int .i64), .one (.int .i64)]) laidOut (by kernel_rfl) (by kernel_rfl) (by kernel_rfl) (by kernel_rfl) rfl (fun H ds h => by match ds, h with | [_, _, _, _, _, _, _], _ => rfl) (by kernel_rfl) (fun W args h => walk W args h)
theorem over : Rows.topInquestRow.holds Tryz.pinned (OpenSpec.ofChange Rows.topInquestSpec) :=
 OpenClaim.holds_of_wide 3 Tryz.f3 rfl rfl rfl rfl rfl rfl rfl ⟨rfl, rfl, rfl, rfl, rfl⟩ rfl rfl rfl rfl rfl (by kernel_rfl) Tryz.func3 (by kernel_rfl)
  (of_decide_eq_true (by kernel_rfl)) (by unfold Func.isWrapper; first | (rw [if_pos (by decide +kernel)]; kernel_rfl) | (rw [if_neg (by decide +kernel)]; exact ⟨rfl, rfl⟩))
  (fun os started H enc _ => lifted os started H enc)
theorem proved : Rows.TopInquestSaid := over
#print axioms proved
end Go.Proofs.YthfjhbbpdhjklaaGreat.lawTopInquest
