/-
  The laws of package span, on what its functions compute.
-/
import Derived.Test.YtmpmkeiepfknoaaSpanL
namespace Go.Proofs.Ytmpmkeiepfknoaa
open Go Go.Sx

theorem head_true : law02_head_0 = true := by decide

theorem spanSums_true (a b c d x y : Int) : law02_SpanSums_0 a b c d x y = true := by
  unfold law02_SpanSums_0
  rw [head_true]
  by_cases p : a ≤ x ∧ x ≤ b ∧ c ≤ y ∧ y ≤ d
  · have hP : (decide (a ≤ x) && decide (x ≤ b) && decide (c ≤ y) && decide (y ≤ d)) = true := by simp [p]
    rw [hP]
    rcases add_cases a b c d with ⟨h1, h2, h3, e0, e1, e2⟩ | ⟨h1, h2, h3, e0, e1, e2⟩ | ⟨h1, e0, e1, e2⟩
    · have w1 : IntKind.i64.wrap (x + y) = x + y := wrap_in (by unfold V at *; omega)
      have w2 : IntKind.i64.wrap (x - y) = x - y := wrap_in (by unfold V at *; omega)
      rcases sub_cases a b c d with ⟨_, _, h3', e0', e1', e2'⟩ | ⟨_, _, h3', e0', e1', e2'⟩ | ⟨h1', e0', e1', e2'⟩
      · rcases sub_cases (a + c) (b + d) c d with ⟨_, _, h3'', e0'', e1'', e2''⟩ | ⟨_, _, h3'', e0'', e1'', e2''⟩ | ⟨h1'', e0'', e1'', e2''⟩
        · rw [e0, e1, e2, e0', e1', e2', e0'', e1'', e2'', w1, w2]; simp; unfold V at *; omega
        · rw [e0, e1, e2, e0', e1', e2', e2'', w1, w2]; simp; unfold V at *; omega
        · exact absurd ⟨h3, h2⟩ h1''
      · rcases sub_cases (a + c) (b + d) c d with ⟨_, _, h3'', e0'', e1'', e2''⟩ | ⟨_, _, h3'', e0'', e1'', e2''⟩ | ⟨h1'', e0'', e1'', e2''⟩
        · rw [e0, e1, e2, e2', e0'', e1'', e2'', w1]; simp; unfold V at *; omega
        · rw [e0, e1, e2, e2', e2'', w1]; simp; unfold V at *; omega
        · exact absurd ⟨h3, h2⟩ h1''
      · exact absurd ⟨h1, h2⟩ h1'
    · have w2 : IntKind.i64.wrap (x - y) = x - y := wrap_in (by unfold V at *; omega)
      rcases sub_cases a b c d with ⟨_, _, h3', e0', e1', e2'⟩ | ⟨_, _, h3', e0', e1', e2'⟩ | ⟨h1', e0', e1', e2'⟩
      · rw [e2, e2', e0', e1', w2]; simp; unfold V at *; omega
      · rw [e2, e2']; simp
      · exact absurd ⟨h1, h2⟩ h1'
    · rcases sub_cases a b c d with ⟨h1', h2', _⟩ | ⟨h1', h2', _⟩ | ⟨h1', e0', e1', e2'⟩
      · exact absurd ⟨h1', h2'⟩ h1
      · exact absurd ⟨h1', h2'⟩ h1
      · rw [e2, e2']; simp
  · have hP : (decide (a ≤ x) && decide (x ≤ b) && decide (c ≤ y) && decide (y ≤ d)) = false := by
      rw [Bool.eq_false_iff]; simp; omega
    rw [hP]
    rcases add_cases a b c d with ⟨h1, h2, h3, e0, e1, e2⟩ | ⟨h1, h2, h3, e0, e1, e2⟩ | ⟨h1, e0, e1, e2⟩
    · rcases sub_cases (a + c) (b + d) c d with ⟨_, _, h3'', e0'', e1'', e2''⟩ | ⟨_, _, h3'', e0'', e1'', e2''⟩ | ⟨h1'', e0'', e1'', e2''⟩
      · rw [e0, e1, e2, e0'', e1'', e2'']; simp; unfold V at *; omega
      · rw [e0, e1, e2, e2'']; simp
      · exact absurd ⟨h3, h2⟩ h1''
    · rw [e2]; simp
    · rw [e2]; simp

theorem spanMeets_true (a b c d x : Int) : law02_SpanMeets_0 a b c d x = true := by
  unfold law02_SpanMeets_0
  rw [head_true]
  rcases meet_cases a b c d with ⟨h1, h2, h3, e0, e1, e2⟩ | ⟨h1, h2, h3, e0, e1, e2⟩ | ⟨h1, e0, e1, e2⟩
  · rcases meet_cases c d a b with ⟨h1', h2', h3', e0', e1', e2'⟩ | ⟨h1', h2', h3', e0', e1', e2'⟩ | ⟨h1', e0', e1', e2'⟩
    · have v : V (max a c) (min b d) := by unfold V at *; omega
      have q : (decide (a ≤ x) && decide (x ≤ b) && decide (c ≤ x) && decide (x ≤ d)) = (decide (max a c ≤ x) && decide (x ≤ min b d)) := by
        rw [Bool.eq_iff_iff]; simp; omega
      rw [e0, e1, e2, e0', e1', e2', valid_true v, q]; simp; omega
    · exfalso; omega
    · exact absurd ⟨h2, h1⟩ h1'
  · rcases meet_cases c d a b with ⟨h1', h2', h3', e0', e1', e2'⟩ | ⟨h1', h2', h3', e0', e1', e2'⟩ | ⟨h1', e0', e1', e2'⟩
    · exfalso; omega
    · rw [e0, e1, e2, e0', e1', e2']; simp; unfold V at *; omega
    · exact absurd ⟨h2, h1⟩ h1'
  · rcases meet_cases c d a b with ⟨h1', h2', h3', e0', e1', e2'⟩ | ⟨h1', h2', h3', e0', e1', e2'⟩ | ⟨h1', e0', e1', e2'⟩
    · exact absurd ⟨h2', h1'⟩ h1
    · exact absurd ⟨h2', h1'⟩ h1
    · rw [e0, e1, e2, e0', e1', e2', valid_dec, valid_dec]; simp
      by_cases h : V a b
      · right; exact fun h' => h1 ⟨h, h'⟩
      · left; exact h

theorem spanJoined_true (a b c d e f : Int) : law02_SpanJoined_0 a b c d e f = true := by
  unfold law02_SpanJoined_0
  rw [head_true]
  rcases join_cases a b c d with ⟨h1, h2, e0, e1, e2⟩ | ⟨h1, e0, e1, e2⟩
  · have v : V (min a c) (max b d) := by unfold V at *; omega
    rw [e0, e1, e2]
    rcases within_cases a b (min a c) (max b d) with ⟨_, _, g0, g1⟩ | ⟨h, _⟩
    · rcases within_cases c d (min a c) (max b d) with ⟨_, _, i0, i1⟩ | ⟨h, _⟩
      · rcases within_cases a b e f with ⟨_, k, j0, j1⟩ | ⟨h, j0, j1⟩
        · rcases within_cases c d e f with ⟨_, _, k0, k1⟩ | ⟨h, _⟩
          · rcases within_cases (min a c) (max b d) e f with ⟨_, _, l0, l1⟩ | ⟨h, _⟩
            · have q : decide (e ≤ min a c ∧ max b d ≤ f) = (decide (e ≤ a ∧ b ≤ f) && decide (e ≤ c ∧ d ≤ f)) := by
                rw [Bool.eq_iff_iff]; simp; omega
              rw [g0, g1, i0, i1, j0, j1, k0, k1, l0, l1, q]; simp; omega
            · exact absurd ⟨v, k⟩ h
          · exact absurd ⟨h2, k⟩ h
        · have nk : ¬ V e f := fun k => h ⟨h1, k⟩
          rcases within_cases c d e f with ⟨_, k, _⟩ | ⟨_, k0, k1⟩
          · exact absurd k nk
          · rcases within_cases (min a c) (max b d) e f with ⟨_, k, _⟩ | ⟨_, l0, l1⟩
            · exact absurd k nk
            · rw [g0, g1, i0, i1, j1, k1, l1]; simp; omega
      · exact absurd ⟨h2, v⟩ h
    · exact absurd ⟨h1, v⟩ h
  · rw [e2, valid_dec, valid_dec]; simp
    by_cases h : V a b
    · right; exact fun h' => h1 ⟨h, h'⟩
    · left; exact h

theorem inBox_t {x y a b c d : Int} (h : Pt x y) (k : Bx a b c d) : span_InBox_0 x y a b c d = decide (a ≤ x ∧ x ≤ b ∧ c ≤ y ∧ y ≤ d) ∧ span_InBox_1 x y a b c d = 0 := by
  rcases inBox_cases x y a b c d with ⟨_, _, e0, e1⟩ | ⟨h', _⟩
  · exact ⟨e0, e1⟩
  · exact absurd ⟨h, k⟩ h'
theorem inBox_f {x y a b c d : Int} (h : ¬ (Pt x y ∧ Bx a b c d)) : span_InBox_0 x y a b c d = false ∧ span_InBox_1 x y a b c d = 1 := by
  rcases inBox_cases x y a b c d with ⟨h1, h2, e0, e1⟩ | ⟨_, e0, e1⟩
  · exact absurd ⟨h1, h2⟩ h
  · exact ⟨e0, e1⟩

theorem spanBoxes_true (a b c d e f g h x y : Int) : law02_SpanBoxes_0 a b c d e f g h x y = true := by
  unfold law02_SpanBoxes_0
  rw [head_true]
  by_cases hp : Pt x y
  · by_cases h1 : Bx a b c d
    · by_cases h2 : Bx e f g h
      · obtain ⟨i0, i1⟩ := inBox_t hp h1
        obtain ⟨j0, j1⟩ := inBox_t hp h2
        rw [i0, i1, j0, j1]
        rcases joinBox_cases a b c d e f g h with ⟨_, _, e0, e1, e2, e3, e4⟩ | ⟨h', _⟩
        · rcases withinBox_cases a b c d e f g h with ⟨_, _, w0, w1⟩ | ⟨h', _⟩
          · have bj : Bx (min a e) (max b f) (min c g) (max d h) := by unfold Bx at *; omega
            obtain ⟨k0, k1⟩ := inBox_t hp bj
            rw [e0, e1, e2, e3, e4, k0, k1, w0, w1]
            rcases meetBox_cases a b c d e f g h with ⟨_, _, q1, q2, m0, m1, m2, m3, m4⟩ | ⟨_, _, q, m0, m1, m2, m3, m4⟩ | ⟨h', _⟩
            · have bm : Bx (max a e) (min b f) (max c g) (min d h) := by unfold Bx at *; omega
              obtain ⟨l0, l1⟩ := inBox_t hp bm
              rw [m0, m1, m2, m3, m4, l0, l1]
              simp
              refine ⟨⟨?_, ?_⟩, ?_⟩
              · by_cases z : (a ≤ x ∧ x ≤ b ∧ c ≤ y ∧ y ≤ d) ∨ (e ≤ x ∧ x ≤ f ∧ g ≤ y ∧ y ≤ h)
                · right; omega
                · left; omega
              · by_cases z : (a ≤ x ∧ x ≤ b ∧ c ≤ y ∧ y ≤ d) ∧ (e ≤ a ∧ b ≤ f ∧ g ≤ c ∧ d ≤ h)
                · right; omega
                · left; omega
              · rw [Bool.eq_iff_iff]; simp; omega
            · rw [m4]
              simp
              refine ⟨⟨?_, ?_⟩, ?_⟩
              · by_cases z : (a ≤ x ∧ x ≤ b ∧ c ≤ y ∧ y ≤ d) ∨ (e ≤ x ∧ x ≤ f ∧ g ≤ y ∧ y ≤ h)
                · right; omega
                · left; omega
              · by_cases z : (a ≤ x ∧ x ≤ b ∧ c ≤ y ∧ y ≤ d) ∧ (e ≤ a ∧ b ≤ f ∧ g ≤ c ∧ d ≤ h)
                · right; omega
                · left; omega
              · omega
            · exact absurd ⟨h1, h2⟩ h'
          · exact absurd ⟨h1, h2⟩ h'
        · exact absurd ⟨h1, h2⟩ h'
      · obtain ⟨j0, j1⟩ := inBox_f (x := x) (y := y) (fun k => h2 k.2)
        rw [j1]; simp
    · obtain ⟨j0, j1⟩ := inBox_f (x := x) (y := y) (fun k => h1 k.2)
      rw [j1]; simp
  · obtain ⟨j0, j1⟩ := inBox_f (a := a) (b := b) (c := c) (d := d) (fun k => hp k.1)
    rw [j1]; simp

theorem spanGrown_true (a b c d x y m n : Int) : law02_SpanGrown_0 a b c d x y m n = true := by
  unfold law02_SpanGrown_0
  rw [head_true]
  rcases growBox_cases a b c d n with ⟨h1, n0, n1, h2, e0, e1, e2, e3, e4⟩ | ⟨h1, n0, n1, h2, e0, e1, e2, e3, e4⟩ | ⟨h1, e0, e1, e2, e3, e4⟩
  · rw [e0, e1, e2, e3, e4]
    have fin : (span_GrowBox_4 (a - n) (b + n) (c - n) (d + n) m = 1 ∨ span_GrowBox_4 (a - n) (b + n) (c - n) (d + n) m = 3) ∨
      (span_GrowBox_4 (a - n) (b + n) (c - n) (d + n) m = 0 ∧ span_GrowBox_4 a b c d (IntKind.i64.wrap (m + n)) = 0 ∧
       span_GrowBox_0 a b c d (IntKind.i64.wrap (m + n)) = span_GrowBox_0 (a - n) (b + n) (c - n) (d + n) m ∧
       span_GrowBox_1 a b c d (IntKind.i64.wrap (m + n)) = span_GrowBox_1 (a - n) (b + n) (c - n) (d + n) m ∧
       span_GrowBox_2 a b c d (IntKind.i64.wrap (m + n)) = span_GrowBox_2 (a - n) (b + n) (c - n) (d + n) m ∧
       span_GrowBox_3 a b c d (IntKind.i64.wrap (m + n)) = span_GrowBox_3 (a - n) (b + n) (c - n) (d + n) m) := by
      rcases growBox_cases (a - n) (b + n) (c - n) (d + n) m with ⟨_, m0, m1, h3, f0, f1, f2, f3, f4⟩ | ⟨_, _, _, _, _, _, _, _, f4⟩ | ⟨_, _, _, _, _, f4⟩
      · right
        have w : IntKind.i64.wrap (m + n) = m + n := wrap_in (by omega)
        rw [w, f0, f1, f2, f3, f4]
        have h4 : Bx (a - (m + n)) (b + (m + n)) (c - (m + n)) (d + (m + n)) := by unfold Bx at *; omega
        rcases growBox_cases a b c d (m + n) with ⟨_, _, _, _, g0, g1, g2, g3, g4⟩ | ⟨_, _, _, h5, _⟩ | ⟨h5, _⟩
        · rw [g0, g1, g2, g3, g4]; omega
        · exact absurd h4 h5
        · exact absurd ⟨h1, by omega, by unfold Bx at *; omega⟩ h5
      · left; right; exact f4
      · left; left; exact f4
    by_cases hp : Pt x y
    · obtain ⟨i0, i1⟩ := inBox_t hp h2
      rw [i0, i1, imin_min, imin_min, imax_max, imax_max, imax_max, imax_max]
      have w1 : IntKind.i64.wrap (min (max x a) b - x) = min (max x a) b - x := wrap_in (by unfold Bx Pt at *; omega)
      have w2 : IntKind.i64.wrap (x - min (max x a) b) = x - min (max x a) b := wrap_in (by unfold Bx Pt at *; omega)
      have w3 : IntKind.i64.wrap (min (max y c) d - y) = min (max y c) d - y := wrap_in (by unfold Bx Pt at *; omega)
      have w4 : IntKind.i64.wrap (y - min (max y c) d) = y - min (max y c) d := wrap_in (by unfold Bx Pt at *; omega)
      rw [w1, w2, w3, w4]
      have q : decide (a - n ≤ x ∧ x ≤ b + n ∧ c - n ≤ y ∧ y ≤ d + n) = (decide (max (min (max x a) b - x) (x - min (max x a) b) ≤ n) && decide (max (min (max y c) d - y) (y - min (max y c) d) ≤ n)) := by
        rw [Bool.eq_iff_iff]
        simp only [decide_eq_true_eq, Bool.and_eq_true]
        unfold Bx at h1
        omega
      rw [q]
      rcases fin with (f | f) | ⟨f0, f1, f2, f3, f4, f5⟩
      · rw [f]; simp
      · rw [f]; simp
      · rw [f0, f1, f2, f3, f4, f5]; simp
    · obtain ⟨i0, i1⟩ := inBox_f (a := a - n) (b := b + n) (c := c - n) (d := d + n) (fun k => hp k.1)
      rw [i1]
      rcases fin with (f | f) | ⟨f0, f1, f2, f3, f4, f5⟩
      · rw [f]; simp
      · rw [f]; simp
      · rw [f0, f1, f2, f3, f4, f5]; simp
  · rw [e4]; simp
  · rw [e4]; simp

theorem mul_mid {a b x n : Int} (h1 : a ≤ x) (h2 : x ≤ b) : Lw a b n ≤ x * n ∧ x * n ≤ Up a b n := by
  unfold Lw Up
  by_cases hn : 0 ≤ n
  · have k1 := Int.mul_le_mul_of_nonneg_right h1 hn
    have k2 := Int.mul_le_mul_of_nonneg_right h2 hn
    omega
  · have k1 := Int.mul_le_mul_of_nonpos_right h1 (show n ≤ 0 by omega)
    have k2 := Int.mul_le_mul_of_nonpos_right h2 (show n ≤ 0 by omega)
    omega
theorem spanScaled_true (a b n d x : Int) : law02_SpanScaled_0 a b n d x = true := by
  unfold law02_SpanScaled_0
  rw [head_true]
  rcases scale_cases a b n d with ⟨h, p, q, v, hp, hq, e0, e1, e2⟩ | ⟨h, _, e0, e1, e2⟩ | ⟨h, e0, e1, e2⟩
  · rw [e0, e1, e2]
    have hb := scale_bd h
    have w1 : IntKind.i64.wrap (a * n) = a * n := wrap_in (by omega)
    have w2 : IntKind.i64.wrap (b * n) = b * n := wrap_in (by omega)
    have hd : 1 ≤ d ∧ d ≤ 1000000 := h.2.2.2
    have hv := v
    unfold V at hv
    have c1 := @mul_bd p d 1000000000000 1000000 (by omega) (by omega) (by omega) (by omega)
    have c2 := @mul_bd q d 1000000000000 1000000 (by omega) (by omega) (by omega) (by omega)
    have c3 := @mul_bd (p + 1) d 1000000000001 1000000 (by omega) (by omega) (by omega) (by omega)
    have c4 := @mul_bd (q - 1) d 1000000000001 1000000 (by omega) (by omega) (by omega) (by omega)
    have w3 : IntKind.i64.wrap (p + 1) = p + 1 := wrap_in (by omega)
    have w4 : IntKind.i64.wrap (q - 1) = q - 1 := wrap_in (by omega)
    rw [w1, w2, w3, w4]
    have w5 : IntKind.i64.wrap (p * d) = p * d := wrap_in (by omega)
    have w6 : IntKind.i64.wrap (q * d) = q * d := wrap_in (by omega)
    have w7 : IntKind.i64.wrap ((p + 1) * d) = (p + 1) * d := wrap_in (by omega)
    have w8 : IntKind.i64.wrap ((q - 1) * d) = (q - 1) * d := wrap_in (by omega)
    rw [w5, w6, w7, w8, imin_min, imax_max]
    have g1 : min (a * n) (b * n) = Lw a b n := rfl
    have g2 : max (a * n) (b * n) = Up a b n := rfl
    rw [g1, g2]
    have g3 : (decide (p < -1000000000000) || decide (q > 1000000000000) || decide (p > q)) = false := by simp; omega
    rw [g3]
    have g4 : decide ((p + 1) * d > Lw a b n) = true := by simp; omega
    have g5 : decide ((q - 1) * d < Up a b n) = true := by simp; omega
    rw [g4, g5]
    by_cases hx : a ≤ x ∧ x ≤ b
    · have m := mul_mid (n := n) hx.1 hx.2
      have hm : -1000000000000000000 ≤ x * n ∧ x * n ≤ 1000000000000000000 := by unfold Lw Up at m; omega
      have w9 : IntKind.i64.wrap (x * n) = x * n := wrap_in (by omega)
      rw [w9]
      have g6 : decide (p * d ≤ x * n) = true := by simp; omega
      have g7 : decide (x * n ≤ q * d) = true := by simp; omega
      rw [g6, g7]; simp
    · have g6 : (decide (a ≤ x) && decide (x ≤ b)) = false := by rw [Bool.eq_false_iff]; simp; omega
      rw [g6]; simp
  · rw [e2]; simp
  · rw [e2]; simp

theorem le_of_floor {p q d X Y : Int} (hd : 1 ≤ d) (h1 : p * d ≤ X) (h2 : Y < (q + 1) * d) (h : X ≤ Y) : p ≤ q := by
  by_cases k : p ≤ q
  · exact k
  · have := Int.mul_le_mul_of_nonneg_right (show q + 1 ≤ p by omega) (show 0 ≤ d by omega)
    omega
theorem le_of_ceil {p q d X Y : Int} (hd : 1 ≤ d) (h1 : (p - 1) * d < X) (h2 : Y ≤ q * d) (h : X ≤ Y) : p ≤ q := by
  by_cases k : p ≤ q
  · exact k
  · have := Int.mul_le_mul_of_nonneg_right (show q ≤ p - 1 by omega) (show 0 ≤ d by omega)
    omega
theorem scale_mono {a b c d n m : Int} (hs : span_Scale_2 a b n m = 0) (ht : span_Scale_2 c d n m = 0) (h1 : c ≤ a) (h2 : b ≤ d) :
    span_Within_1 (span_Scale_0 a b n m) (span_Scale_1 a b n m) (span_Scale_0 c d n m) (span_Scale_1 c d n m) = 0 ∧
    span_Within_0 (span_Scale_0 a b n m) (span_Scale_1 a b n m) (span_Scale_0 c d n m) (span_Scale_1 c d n m) = true := by
  rcases scale_cases a b n m with ⟨h, p, q, v, hp, hq, e0, e1, e2⟩ | ⟨h, _, e0, e1, e2⟩ | ⟨h, e0, e1, e2⟩
  · rcases scale_cases c d n m with ⟨h', p', q', v', hp', hq', e0', e1', e2'⟩ | ⟨_, _, _, _, e2'⟩ | ⟨_, _, _, e2'⟩
    · rw [e0, e1, e0', e1']
      have hv := h.1
      have hm : 1 ≤ m := h.2.2.2.1
      unfold V at hv
      have m1 := mul_mid (n := n) h1 (show a ≤ d by omega)
      have m2 := mul_mid (n := n) (show c ≤ b by omega) h2
      have l1 : Lw c d n ≤ Lw a b n := by
        have : Lw a b n = a * n ∨ Lw a b n = b * n := by unfold Lw; omega
        omega
      have l2 : Up a b n ≤ Up c d n := by
        have : Up a b n = a * n ∨ Up a b n = b * n := by unfold Up; omega
        omega
      have k1 := le_of_floor hm hp'.1 hp.2 l1
      have k2 := le_of_ceil hm hq.1 hq'.2 l2
      rcases within_cases p q p' q' with ⟨_, _, g0, g1⟩ | ⟨h3, _⟩
      · rw [g0, g1]; simp; omega
      · exact absurd ⟨v, v'⟩ h3
    · rw [e2'] at ht; omega
    · rw [e2'] at ht; omega
  · rw [e2] at hs; omega
  · rw [e2] at hs; omega

theorem spanOrder_true (a b c d e f n m : Int) : law02_SpanOrder_0 a b c d e f n m = true := by
  unfold law02_SpanOrder_0
  rw [head_true]
  rcases within_cases a b c d with ⟨h1, h2, e0, e1⟩ | ⟨h1, e0, e1⟩
  · rcases within_cases c d a b with ⟨_, _, f0, f1⟩ | ⟨h, _⟩
    · rw [e0, e1, f0, f1]
      have q : (decide (c ≤ a ∧ b ≤ d) && decide (a ≤ c ∧ d ≤ b)) = (a == c && (b == d && true)) := by
        rw [Bool.eq_iff_iff]; simp; omega
      rw [q]
      have fin : (span_Scale_2 a b n m != 0 || span_Scale_2 c d n m != 0 || !decide (c ≤ a ∧ b ≤ d)) = true ∨
          ((span_Scale_2 a b n m != 0 || span_Scale_2 c d n m != 0 || !decide (c ≤ a ∧ b ≤ d)) = false ∧
           span_Within_1 (span_Scale_0 a b n m) (span_Scale_1 a b n m) (span_Scale_0 c d n m) (span_Scale_1 c d n m) = 0 ∧
           span_Within_0 (span_Scale_0 a b n m) (span_Scale_1 a b n m) (span_Scale_0 c d n m) (span_Scale_1 c d n m) = true) := by
        cases hc : (span_Scale_2 a b n m != 0 || span_Scale_2 c d n m != 0 || !decide (c ≤ a ∧ b ≤ d)) with
        | true => left; rfl
        | false =>
          right
          simp at hc
          exact ⟨rfl, scale_mono hc.1.1 hc.1.2 hc.2.1 hc.2.2⟩
      have tr : (span_Within_1 c d e f == 0 && span_Within_1 a b e f == 0) = true → (!decide (c ≤ a ∧ b ≤ d) || !span_Within_0 c d e f || span_Within_0 a b e f) = true := by
        intro ht
        simp at ht
        rcases within_cases c d e f with ⟨_, _, g0, g1⟩ | ⟨_, _, g1⟩
        · rcases within_cases a b e f with ⟨_, _, i0, i1⟩ | ⟨_, _, i1⟩
          · rw [g0, i0]
            by_cases k1 : c ≤ a ∧ b ≤ d
            · by_cases k2 : e ≤ c ∧ d ≤ f
              · have k3 : e ≤ a ∧ b ≤ f := by omega
                simp [k3]
              · simp [k2]
            · simp [k1]
          · omega
        · omega
      cases ht : (span_Within_1 c d e f == 0 && span_Within_1 a b e f == 0) with
      | true =>
        rw [tr ht]
        rcases fin with g | ⟨g, g1, g2⟩
        · rw [g]; simp
        · rw [g, g1, g2]; simp
      | false =>
        rcases fin with g | ⟨g, g1, g2⟩
        · rw [g]; simp
        · rw [g, g1, g2]; simp
    · exact absurd ⟨h2, h1⟩ h
  · rcases within_cases c d a b with ⟨k1, k2, _⟩ | ⟨_, f0, f1⟩
    · exact absurd ⟨k2, k1⟩ h1
    · rw [e1, f1]; simp
end Go.Proofs.Ytmpmkeiepfknoaa
