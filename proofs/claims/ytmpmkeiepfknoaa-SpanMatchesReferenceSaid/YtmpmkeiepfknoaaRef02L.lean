/-
  Package span computes what its reference computes.
-/
import Derived.Test.YtmpmkeiepfknoaaRef02D
import Derived.Test.YtmpmkeiepfknoaaSpanL
import Derived.Test.YtmpmkeiepfknoaaSpanM
namespace Go.Proofs.Ytmpmkeiepfknoaa
open Go Go.Sx

theorem rvalid_dec (a b : Int) : ref02_Valid_0 a b = decide (V a b) := by
  unfold ref02_Valid_0
  rw [Bool.eq_iff_iff]; simp only [Bool.and_eq_true, decide_eq_true_eq]; unfold V; omega
theorem rvalid (a b : Int) : ref02_Valid_0 a b = span_Valid_0 a b := by rw [rvalid_dec, valid_dec]
theorem rboth (a b c d : Int) : ref02_Both_0 a b c d = (span_Valid_0 a b && span_Valid_0 c d) := by unfold ref02_Both_0; rw [rvalid, rvalid]
theorem rboth_n (a b c d : Int) : (!ref02_Both_0 a b c d) = (!span_Valid_0 a b || !span_Valid_0 c d) := by rw [rboth, Bool.not_and]
theorem bounded_0 (a b : Int) : ref02_bounded_0 a b = span_kept_0 a b := by unfold ref02_bounded_0 span_kept_0; rw [rvalid]
theorem bounded_1 (a b : Int) : ref02_bounded_1 a b = span_kept_1 a b := by unfold ref02_bounded_1 span_kept_1; rw [rvalid]
theorem bounded_2 (a b : Int) : ref02_bounded_2 a b = span_kept_2 a b := by unfold ref02_bounded_2 span_kept_2; rw [rvalid]
theorem radd (a b c d : Int) : span_Add_0 a b c d = ref02_Add_0 a b c d ∧ span_Add_1 a b c d = ref02_Add_1 a b c d ∧ span_Add_2 a b c d = ref02_Add_2 a b c d := by
  unfold span_Add_0 span_Add_1 span_Add_2 ref02_Add_0 ref02_Add_1 ref02_Add_2
  rw [rboth_n, bounded_0, bounded_1, bounded_2]; exact ⟨rfl, rfl, rfl⟩
theorem rsub (a b c d : Int) : span_Sub_0 a b c d = ref02_Sub_0 a b c d ∧ span_Sub_1 a b c d = ref02_Sub_1 a b c d ∧ span_Sub_2 a b c d = ref02_Sub_2 a b c d := by
  unfold span_Sub_0 span_Sub_1 span_Sub_2 ref02_Sub_0 ref02_Sub_1 ref02_Sub_2
  rw [rboth_n, bounded_0, bounded_1, bounded_2]; exact ⟨rfl, rfl, rfl⟩
theorem rscale (a b n d : Int) : span_Scale_0 a b n d = ref02_Scale_0 a b n d ∧ span_Scale_1 a b n d = ref02_Scale_1 a b n d ∧ span_Scale_2 a b n d = ref02_Scale_2 a b n d := by
  unfold span_Scale_0 span_Scale_1 span_Scale_2 ref02_Scale_0 ref02_Scale_1 ref02_Scale_2 span_ends_int_0 span_ends_int_1
  rw [rvalid, bounded_0, bounded_1, bounded_2]
  cases decide ((imin (IntKind.i64.wrap (a * n)) (IntKind.i64.wrap (b * n))).tmod d < 0) <;> cases decide ((imax (IntKind.i64.wrap (a * n)) (IntKind.i64.wrap (b * n))).tmod d > 0) <;> exact ⟨rfl, rfl, rfl⟩
theorem rmeet (a b c d : Int) : span_Meet_0 a b c d = ref02_Meet_0 a b c d ∧ span_Meet_1 a b c d = ref02_Meet_1 a b c d ∧ span_Meet_2 a b c d = ref02_Meet_2 a b c d := by
  unfold span_Meet_0 span_Meet_1 span_Meet_2 ref02_Meet_0 ref02_Meet_1 ref02_Meet_2
  rw [rboth_n]; exact ⟨rfl, rfl, rfl⟩
theorem rjoin (a b c d : Int) : span_Join_0 a b c d = ref02_Join_0 a b c d ∧ span_Join_1 a b c d = ref02_Join_1 a b c d ∧ span_Join_2 a b c d = ref02_Join_2 a b c d := by
  unfold span_Join_0 span_Join_1 span_Join_2 ref02_Join_0 ref02_Join_1 ref02_Join_2 span_ends_int_0 span_ends_int_1
  rw [rboth_n]; exact ⟨rfl, rfl, rfl⟩
theorem rwithin (a b c d : Int) : span_Within_0 a b c d = ref02_Within_0 a b c d ∧ span_Within_1 a b c d = ref02_Within_1 a b c d := by
  unfold ref02_Within_0 ref02_Within_1
  rw [rboth_n, valid_dec, valid_dec]
  rcases within_cases a b c d with ⟨h1, h2, e0, e1⟩ | ⟨h, e0, e1⟩
  · rw [e0, e1]; simp [h1, h2]
  · rw [e0, e1]
    by_cases h1 : V a b
    · have h2 : ¬ V c d := fun k => h ⟨h1, k⟩
      simp [h2]
    · simp [h1]
theorem rvalidBox (a b c d : Int) : ref02_ValidBox_0 a b c d = span_ValidBox_0 a b c d := by
  rw [validBox_dec]
  unfold ref02_ValidBox_0 ref02_coords_0
  rw [Bool.eq_iff_iff]; simp only [Bool.and_eq_true, decide_eq_true_eq]; unfold Bx; omega
theorem rboxes_n (a b c d e f g h : Int) : (!ref02_BothBoxes_0 a b c d e f g h) = (!decide (Bx a b c d) || !decide (Bx e f g h)) := by
  unfold ref02_BothBoxes_0; rw [rvalidBox, rvalidBox, validBox_dec, validBox_dec, Bool.not_and]
theorem not_both {p q : Prop} [Decidable p] [Decidable q] (h : ¬ (p ∧ q)) : (!decide p || !decide q) = true := by
  by_cases hp : p
  · have hq : ¬ q := fun k => h ⟨hp, k⟩
    simp [hq]
  · simp [hp]
theorem yes_both {p q : Prop} [Decidable p] [Decidable q] (hp : p) (hq : q) : (!decide p || !decide q) = false := by simp [hp, hq]
theorem meet_of {a b c d : Int} (h1 : V a b) (h2 : V c d) : (max a c ≤ min b d ∧ span_Meet_0 a b c d = max a c ∧ span_Meet_1 a b c d = min b d ∧ span_Meet_2 a b c d = 0) ∨ (min b d < max a c ∧ span_Meet_2 a b c d = 4) := by
  rcases meet_cases a b c d with ⟨_, _, m, e0, e1, e2⟩ | ⟨_, _, m, _, _, e2⟩ | ⟨h, _⟩
  · exact .inl ⟨m, e0, e1, e2⟩
  · exact .inr ⟨m, e2⟩
  · exact absurd ⟨h1, h2⟩ h
theorem rmeetBox (a b c d e f g h : Int) : span_MeetBox_0 a b c d e f g h = ref02_MeetBox_0 a b c d e f g h ∧ span_MeetBox_1 a b c d e f g h = ref02_MeetBox_1 a b c d e f g h ∧ span_MeetBox_2 a b c d e f g h = ref02_MeetBox_2 a b c d e f g h ∧ span_MeetBox_3 a b c d e f g h = ref02_MeetBox_3 a b c d e f g h ∧ span_MeetBox_4 a b c d e f g h = ref02_MeetBox_4 a b c d e f g h := by
  unfold ref02_MeetBox_0 ref02_MeetBox_1 ref02_MeetBox_2 ref02_MeetBox_3 ref02_MeetBox_4
  rw [rboxes_n, ← (rmeet a b e f).1, ← (rmeet a b e f).2.1, ← (rmeet a b e f).2.2, ← (rmeet c d g h).1, ← (rmeet c d g h).2.1, ← (rmeet c d g h).2.2]
  rcases meetBox_cases a b c d e f g h with ⟨h1, h2, m1, m2, e0, e1, e2, e3, e4⟩ | ⟨h1, h2, m, e0, e1, e2, e3, e4⟩ | ⟨hn, e0, e1, e2, e3, e4⟩
  · rw [e0, e1, e2, e3, e4, yes_both h1 h2]
    rcases meet_of (bx_v h1).1 (bx_v h2).1 with ⟨_, f0, f1, f2⟩ | ⟨k, _⟩
    · rcases meet_of (bx_v h1).2 (bx_v h2).2 with ⟨_, g0, g1, g2⟩ | ⟨k, _⟩
      · rw [f0, f1, f2, g0, g1, g2]; exact ⟨rfl, rfl, rfl, rfl, rfl⟩
      · omega
    · omega
  · rw [e0, e1, e2, e3, e4, yes_both h1 h2]
    have z : (span_Meet_2 a b e f != 0 || span_Meet_2 c d g h != 0) = true := by
      rcases meet_of (bx_v h1).1 (bx_v h2).1 with ⟨k1, f0, f1, f2⟩ | ⟨k, f2⟩
      · rcases meet_of (bx_v h1).2 (bx_v h2).2 with ⟨k2, g0, g1, g2⟩ | ⟨k, g2⟩
        · omega
        · rw [g2]; simp
      · rw [f2]; simp
    rw [z]; exact ⟨rfl, rfl, rfl, rfl, rfl⟩
  · rw [e0, e1, e2, e3, e4, not_both hn]; exact ⟨rfl, rfl, rfl, rfl, rfl⟩
theorem rjoinBox (a b c d e f g h : Int) : span_JoinBox_0 a b c d e f g h = ref02_JoinBox_0 a b c d e f g h ∧ span_JoinBox_1 a b c d e f g h = ref02_JoinBox_1 a b c d e f g h ∧ span_JoinBox_2 a b c d e f g h = ref02_JoinBox_2 a b c d e f g h ∧ span_JoinBox_3 a b c d e f g h = ref02_JoinBox_3 a b c d e f g h ∧ span_JoinBox_4 a b c d e f g h = ref02_JoinBox_4 a b c d e f g h := by
  unfold ref02_JoinBox_0 ref02_JoinBox_1 ref02_JoinBox_2 ref02_JoinBox_3 ref02_JoinBox_4
  rw [rboxes_n, ← (rjoin a b e f).1, ← (rjoin a b e f).2.1, ← (rjoin c d g h).1, ← (rjoin c d g h).2.1]
  rcases joinBox_cases a b c d e f g h with ⟨h1, h2, e0, e1, e2, e3, e4⟩ | ⟨hn, e0, e1, e2, e3, e4⟩
  · rw [e0, e1, e2, e3, e4, yes_both h1 h2]
    rcases join_cases a b e f with ⟨_, _, f0, f1, _⟩ | ⟨k, _⟩
    · rcases join_cases c d g h with ⟨_, _, g0, g1, _⟩ | ⟨k, _⟩
      · rw [f0, f1, g0, g1]; exact ⟨rfl, rfl, rfl, rfl, rfl⟩
      · exact absurd ⟨(bx_v h1).2, (bx_v h2).2⟩ k
    · exact absurd ⟨(bx_v h1).1, (bx_v h2).1⟩ k
  · rw [e0, e1, e2, e3, e4, not_both hn]; exact ⟨rfl, rfl, rfl, rfl, rfl⟩
theorem rwithinBox (a b c d e f g h : Int) : span_WithinBox_0 a b c d e f g h = ref02_WithinBox_0 a b c d e f g h ∧ span_WithinBox_1 a b c d e f g h = ref02_WithinBox_1 a b c d e f g h := by
  unfold ref02_WithinBox_0 ref02_WithinBox_1
  rw [rboxes_n, ← (rwithin a b e f).1, ← (rwithin c d g h).1]
  rcases withinBox_cases a b c d e f g h with ⟨h1, h2, e0, e1⟩ | ⟨hn, e0, e1⟩
  · rw [e0, e1, yes_both h1 h2]
    rcases within_cases a b e f with ⟨_, _, f0, _⟩ | ⟨k, _⟩
    · rcases within_cases c d g h with ⟨_, _, g0, _⟩ | ⟨k, _⟩
      · rw [f0, g0]
        refine ⟨?_, rfl⟩
        rw [Bool.eq_iff_iff]; simp; omega
      · exact absurd ⟨(bx_v h1).2, (bx_v h2).2⟩ k
    · exact absurd ⟨(bx_v h1).1, (bx_v h2).1⟩ k
  · rw [e0, e1, not_both hn]; exact ⟨rfl, rfl⟩
theorem rplace (x y : Int) : ref02_Place_0 x y = decide (Pt x y) := by
  unfold ref02_Place_0
  rw [Bool.eq_iff_iff]; simp only [Bool.and_eq_true, decide_eq_true_eq]; unfold Pt; omega
theorem rinBox (x y a b c d : Int) : span_InBox_0 x y a b c d = ref02_InBox_0 x y a b c d ∧ span_InBox_1 x y a b c d = ref02_InBox_1 x y a b c d := by
  unfold ref02_InBox_0 ref02_InBox_1 ref02_Holds_0 ref02_Has_0
  rw [rplace, rvalidBox, validBox_dec]
  rcases inBox_cases x y a b c d with ⟨h1, h2, e0, e1⟩ | ⟨hn, e0, e1⟩
  · rw [e0, e1, yes_both h1 h2]
    refine ⟨?_, rfl⟩
    rw [Bool.eq_iff_iff]; simp; omega
  · rw [e0, e1, not_both hn]; exact ⟨rfl, rfl⟩
theorem rgrowBox (a b c d n : Int) : span_GrowBox_0 a b c d n = ref02_GrowBox_0 a b c d n ∧ span_GrowBox_1 a b c d n = ref02_GrowBox_1 a b c d n ∧ span_GrowBox_2 a b c d n = ref02_GrowBox_2 a b c d n ∧ span_GrowBox_3 a b c d n = ref02_GrowBox_3 a b c d n ∧ span_GrowBox_4 a b c d n = ref02_GrowBox_4 a b c d n := by
  unfold ref02_GrowBox_0 ref02_GrowBox_1 ref02_GrowBox_2 ref02_GrowBox_3 ref02_GrowBox_4 span_GrowBox_0 span_GrowBox_1 span_GrowBox_2 span_GrowBox_3 span_GrowBox_4
  rw [rvalidBox, rvalidBox]
  exact ⟨rfl, rfl, rfl, rfl, rfl⟩

theorem spanMatchesReference_true (s0 s1 t0 t1 num den a0 a1 a2 a3 b0 b1 b2 b3 n p q : Int) : law02_SpanMatchesReference_0 s0 s1 t0 t1 num den a0 a1 a2 a3 b0 b1 b2 b3 n p q = true := by
  unfold law02_SpanMatchesReference_0
  rw [head_true, rvalid, rvalidBox, ← (radd s0 s1 t0 t1).1, ← (radd s0 s1 t0 t1).2.1, ← (radd s0 s1 t0 t1).2.2, ← (rsub s0 s1 t0 t1).1, ← (rsub s0 s1 t0 t1).2.1, ← (rsub s0 s1 t0 t1).2.2,
    ← (rscale s0 s1 num den).1, ← (rscale s0 s1 num den).2.1, ← (rscale s0 s1 num den).2.2, ← (rmeet s0 s1 t0 t1).1, ← (rmeet s0 s1 t0 t1).2.1, ← (rmeet s0 s1 t0 t1).2.2,
    ← (rjoin s0 s1 t0 t1).1, ← (rjoin s0 s1 t0 t1).2.1, ← (rjoin s0 s1 t0 t1).2.2, ← (rwithin s0 s1 t0 t1).1, ← (rwithin s0 s1 t0 t1).2,
    ← (rmeetBox a0 a1 a2 a3 b0 b1 b2 b3).1, ← (rmeetBox a0 a1 a2 a3 b0 b1 b2 b3).2.1, ← (rmeetBox a0 a1 a2 a3 b0 b1 b2 b3).2.2.1, ← (rmeetBox a0 a1 a2 a3 b0 b1 b2 b3).2.2.2.1, ← (rmeetBox a0 a1 a2 a3 b0 b1 b2 b3).2.2.2.2,
    ← (rjoinBox a0 a1 a2 a3 b0 b1 b2 b3).1, ← (rjoinBox a0 a1 a2 a3 b0 b1 b2 b3).2.1, ← (rjoinBox a0 a1 a2 a3 b0 b1 b2 b3).2.2.1, ← (rjoinBox a0 a1 a2 a3 b0 b1 b2 b3).2.2.2.1, ← (rjoinBox a0 a1 a2 a3 b0 b1 b2 b3).2.2.2.2,
    ← (rgrowBox a0 a1 a2 a3 n).1, ← (rgrowBox a0 a1 a2 a3 n).2.1, ← (rgrowBox a0 a1 a2 a3 n).2.2.1, ← (rgrowBox a0 a1 a2 a3 n).2.2.2.1, ← (rgrowBox a0 a1 a2 a3 n).2.2.2.2,
    ← (rinBox p q a0 a1 a2 a3).1, ← (rinBox p q a0 a1 a2 a3).2, ← (rwithinBox a0 a1 a2 a3 b0 b1 b2 b3).1, ← (rwithinBox a0 a1 a2 a3 b0 b1 b2 b3).2]
  simp
end Go.Proofs.Ytmpmkeiepfknoaa
