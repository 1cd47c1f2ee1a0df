/-
  What the drift over times comes to.
-/
import Derived.Test.YtddfnokjnafdpaaDriftM
set_option linter.unusedVariables false
set_option maxRecDepth 100000
namespace Go.Proofs.Ytddfnokjnafdpaa
open Go Go.Sy

theorem mins_add {f m u e : Int} {c : List Int} (hc : CO e c) (h1 : f ≤ m) (h2 : m ≤ u) : mins f u c = mins f m c + mins m u c := by
  unfold mins CO at *; omega
theorem sum_map_add {α : Type} (l : List α) (p q r : α → Int) (h : ∀ x ∈ l, p x = q x + r x) : (l.map p).sum = (l.map q).sum + (l.map r).sum := by
  induction l with
  | nil => rfl
  | cons x l ih =>
    simp only [List.map_cons, List.sum_cons]
    rw [ih fun y hy => h y (List.mem_cons_of_mem _ hy), h x List.mem_cons_self]
    omega
theorem sum_map_le {α : Type} (l : List α) (p q : α → Int) (h : ∀ x ∈ l, p x ≤ q x) : (l.map p).sum ≤ (l.map q).sum := by
  induction l with
  | nil => exact Int.le_refl _
  | cons x l ih =>
    simp only [List.map_cons, List.sum_cons]
    have := ih fun y hy => h y (List.mem_cons_of_mem _ hy)
    have := h x List.mem_cons_self
    omega
theorem sumL_add {f m u : Int} {l : List (List Int)} (hv : VC l) (h1 : f ≤ m) (h2 : m ≤ u) (k : Nat) : sumL f u k l = sumL f m k l + sumL m u k l :=
  sum_map_add _ _ _ _ fun c hc => by rw [mins_add (CL_mem hv.1 c hc) h1 h2, Int.add_mul]
theorem covL_add {f m u : Int} {l : List (List Int)} (hv : VC l) (h1 : f ≤ m) (h2 : m ≤ u) : covL f u l = covL f m l + covL m u l :=
  sum_map_add _ _ _ _ fun c hc => mins_add (CL_mem hv.1 c hc) h1 h2
theorem covL_cl {f u : Int} : ∀ (e : Int) (l : List (List Int)), CL e l → covL f u l ≤ max 0 (u - max e f)
  | e, [], _ => by simp [covL]; omega
  | e, c :: l, h => by
    have ih := covL_cl (f := f) (u := u) (c.getD 1 0) l h.2
    have hc := h.1
    have e1 : covL f u (c :: l) = mins f u c + covL f u l := by simp [covL]
    rw [e1]
    unfold CO at hc
    unfold mins
    omega
theorem covL_le {f u : Int} {l : List (List Int)} (hv : VC l) (ht : VT f u) : covL f u l ≤ u - f := by
  have := covL_cl (f := f) (u := u) 0 l hv.1
  unfold VT at ht
  omega
theorem covL_nn {f u : Int} {l : List (List Int)} : 0 ≤ covL f u l := by
  unfold covL
  induction l with
  | nil => simp
  | cons c l ih => simp only [List.map_cons, List.sum_cons]; unfold mins at *; omega
theorem mins_nn (f u : Int) (c : List Int) : 0 ≤ mins f u c := by unfold mins; omega
theorem sumL_le {f u : Int} {l : List (List Int)} (hv : VC l) {j k : Nat} (h : ∀ c ∈ l, c.getD j 0 ≤ c.getD k 0) : sumL f u j l ≤ sumL f u k l :=
  sum_map_le _ _ _ fun c hc => Int.mul_le_mul_of_nonneg_left (h c hc) (mins_nn f u c)
theorem sumL_x {f u : Int} {l : List (List Int)} (hv : VC l) : sumL f u 2 l ≤ sumL f u 3 l := sumL_le hv fun c hc => by have := CL_mem hv.1 c hc; unfold CO at this; omega
theorem sumL_y {f u : Int} {l : List (List Int)} (hv : VC l) : sumL f u 4 l ≤ sumL f u 5 l := sumL_le hv fun c hc => by have := CL_mem hv.1 c hc; unfold CO at this; omega
theorem mins_none (f : Int) (c : List Int) : mins f f c = 0 := by unfold mins; omega
theorem sumL_none (f : Int) (k : Nat) (l : List (List Int)) : sumL f f k l = 0 := by
  unfold sumL
  induction l with
  | nil => rfl
  | cons c l ih => simp only [List.map_cons, List.sum_cons, mins_none] at *; omega
theorem covL_none (f : Int) (l : List (List Int)) : covL f f l = 0 := by
  unfold covL
  induction l with
  | nil => rfl
  | cons c l ih => simp only [List.map_cons, List.sum_cons, mins_none] at *; omega
theorem sumE_cases (f u : Int) (l : List (List Int)) : (sumE f u l = 1 ∧ (¬ VC l ∨ ¬ VT f u)) ∨ (sumE f u l = 4 ∧ VC l ∧ VT f u ∧ covL f u l < u - f) ∨ (sumE f u l = 0 ∧ VC l ∧ VT f u ∧ covL f u l = u - f) := by
  unfold sumE
  by_cases h : ¬ VC l ∨ ¬ VT f u
  · rw [if_pos h]; exact .inl ⟨rfl, h⟩
  · have hv : VC l := Decidable.byContradiction fun hn => h (.inl hn)
    have ht : VT f u := Decidable.byContradiction fun hn => h (.inr hn)
    rw [if_neg h]
    have := covL_le hv ht
    by_cases hc : u - f - covL f u l > 0
    · rw [if_pos hc]; exact .inr (.inl ⟨rfl, hv, ht, by omega⟩)
    · rw [if_neg hc]; exact .inr (.inr ⟨rfl, hv, ht, by omega⟩)
theorem sumE_self {f : Int} {l : List (List Int)} (hv : VC l) (ht : VT f f) : sumE f f l = 0 := by
  rcases sumE_cases f f l with ⟨_, h | h⟩ | ⟨_, _, _, h⟩ | ⟨h, _⟩
  · exact absurd hv h
  · exact absurd ht h
  · rw [covL_none] at h; omega
  · exact h
/-- Two steps. -/
theorem sumE_two {f m u : Int} {l : List (List Int)} (h1 : sumE f m l = 0) (h2 : sumE m u l = 0) : sumE f u l = 0 := by
  have a := sumE_ok h1
  have b := sumE_ok h2
  have ht : VT f u := by have := a.2.1; have := b.2.1; unfold VT at *; omega
  have hm : f ≤ m ∧ m ≤ u := by have := a.2.1; have := b.2.1; unfold VT at *; omega
  have := covL_add a.1 hm.1 hm.2
  rcases sumE_cases f u l with ⟨_, h | h⟩ | ⟨_, _, _, h⟩ | ⟨h, _⟩
  · exact absurd a.1 h
  · exact absurd ht h
  · omega
  · exact h
theorem sumV_ok {f u : Int} {l : List (List Int)} (h : sumE f u l = 0) (k : Nat) : sumV f u k l = sumL f u k l := by unfold sumV; rw [if_pos h]
/-- What a box is moved to, as one may see it. -/
theorem mvF_get (f u : Int) (c : List (List Int)) (b : List Int) : (mvF f u c b).getD 0 0 = lo (b.getD 0 0) (sumV f u 2 c) ∧ (mvF f u c b).getD 1 0 = hi (b.getD 1 0) (sumV f u 3 c) ∧ (mvF f u c b).getD 2 0 = lo (b.getD 2 0) (sumV f u 4 c) ∧ (mvF f u c b).getD 3 0 = hi (b.getD 3 0) (sumV f u 5 c) := ⟨rfl, rfl, rfl, rfl⟩
theorem moveE_cases (f u : Int) (l c : List (List Int)) : (moveE f u l c = 1 ∧ (¬ VL l ∨ ¬ VC c ∨ ¬ VT f u)) ∨ (moveE f u l c = 4 ∧ VL l ∧ sumE f u c = 4) ∨ (moveE f u l c = 3 ∧ VL l ∧ sumE f u c = 0 ∧ ∃ b ∈ l, ¬ VB (mvF f u c b)) ∨ (moveE f u l c = 0 ∧ VL l ∧ sumE f u c = 0 ∧ ∀ b ∈ l, VB (mvF f u c b)) := by
  unfold moveE
  by_cases hl : VL l
  · rcases sumE_cases f u c with ⟨h, h2⟩ | ⟨h, _⟩ | ⟨h, _⟩
    · left; simp [hl, h, h2]
    · right; left; simp [hl, h]
    · right; right
      by_cases hb : ∃ b ∈ l, ¬ VB (mvF f u c b)
      · left; rw [if_neg (fun k => k hl), if_neg (fun k => k h), if_pos hb]; exact ⟨rfl, hl, h, hb⟩
      · right; rw [if_neg (fun k => k hl), if_neg (fun k => k h), if_neg hb]; exact ⟨rfl, hl, h, fun b hb' => Decidable.byContradiction fun hn => hb ⟨b, hb', hn⟩⟩
  · left; simp [hl]
theorem moveE_ok {f u : Int} {l c : List (List Int)} (h : moveE f u l c = 0) : VL l ∧ sumE f u c = 0 ∧ (∀ b ∈ l, VB (mvF f u c b)) ∧ moveL f u l c = l.map (mvF f u c) := by
  have e : moveL f u l c = l.map (mvF f u c) := by unfold moveL; rw [if_pos h]
  rcases moveE_cases f u l c with ⟨g, _⟩ | ⟨g, _⟩ | ⟨g, _⟩ | ⟨_, h1, h2, h3⟩
  · rw [h] at g; cases g
  · rw [h] at g; cases g
  · rw [h] at g; cases g
  · exact ⟨h1, h2, h3, e⟩
theorem moveE_of {f u : Int} {l c : List (List Int)} (h1 : VL l) (h2 : sumE f u c = 0) (h3 : ∀ b ∈ l, VB (mvF f u c b)) : moveE f u l c = 0 := by
  rcases moveE_cases f u l c with ⟨g, h | h | h⟩ | ⟨g, _, h⟩ | ⟨g, _, _, b, hb, hn⟩ | ⟨g, _⟩
  · exact absurd h1 h
  · exact absurd (sumE_ok h2).1 h
  · exact absurd (sumE_ok h2).2.1 h
  · rw [h2] at h; cases h
  · exact absurd (h3 b hb) hn
  · exact g
theorem moveE_ne {f u : Int} {l c : List (List Int)} (h : moveE f u l c ≠ 0) : moveL f u l c = [] := by unfold moveL; rw [if_neg h]
theorem VL_map {l : List (List Int)} {g : List Int → List Int} (h : VL l) (hg : ∀ b ∈ l, VB (g b)) : VL (l.map g) := by
  refine ⟨by simpa using h.1, by simpa using h.2.1, fun b hb => ?_⟩
  obtain ⟨a, ha, rfl⟩ := List.mem_map.1 hb
  exact hg a ha
theorem allE_cases (f u x y z w : Int) (c : List (List Int)) : (allE f u x y z w c = 1 ∧ (¬ VP x y ∨ ¬ VP z w)) ∨ (allE f u x y z w c = sumE f u c ∧ VP x y ∧ VP z w) := by
  unfold allE
  by_cases h : ¬ VP x y ∨ ¬ VP z w
  · rw [if_pos h]; exact .inl ⟨rfl, h⟩
  · rw [if_neg h]; exact .inr ⟨rfl, Decidable.byContradiction fun hn => h (.inl hn), Decidable.byContradiction fun hn => h (.inr hn)⟩
theorem inE_cases (x y : Int) (l : List (List Int)) : (inE x y l = 1 ∧ (¬ VL l ∨ ¬ VP x y)) ∨ (inE x y l = 0 ∧ VL l ∧ VP x y) := by
  unfold inE
  by_cases h : ¬ VL l ∨ ¬ VP x y
  · rw [if_pos h]; exact .inl ⟨rfl, h⟩
  · rw [if_neg h]; exact .inr ⟨rfl, Decidable.byContradiction fun hn => h (.inl hn), Decidable.byContradiction fun hn => h (.inr hn)⟩
theorem cutE_cases (b : List Int) (l : List (List Int)) : (cutE b l = 1 ∧ (¬ VL l ∨ ¬ VB b)) ∨ (cutE b l = 4 ∧ VL l ∧ VB b ∧ cutP b l = []) ∨ (cutE b l = 0 ∧ VL l ∧ VB b ∧ cutP b l ≠ [] ∧ cutL b l = cutP b l) := by
  unfold cutL cutE
  by_cases h : ¬ VL l ∨ ¬ VB b
  · rw [if_pos h]; exact .inl ⟨rfl, h⟩
  · have h1 : VL l := Decidable.byContradiction fun hn => h (.inl hn)
    have h2 : VB b := Decidable.byContradiction fun hn => h (.inr hn)
    rw [if_neg h]
    by_cases hc : cutP b l = []
    · rw [if_pos hc]; exact .inr (.inl ⟨rfl, h1, h2, hc⟩)
    · rw [if_neg hc]; exact .inr (.inr ⟨rfl, h1, h2, hc, if_pos rfl⟩)
theorem mem_cutP {b x : List Int} {l : List (List Int)} : x ∈ cutP b l ↔ ∃ c ∈ l, MB c b ∧ x = mtB c b := by
  unfold cutP
  rw [List.mem_filterMap]
  constructor
  · rintro ⟨c, hc, h⟩
    split at h
    · rename_i hm; cases h; exact ⟨c, hc, hm, rfl⟩
    · cases h
  · rintro ⟨c, hc, hm, rfl⟩
    exact ⟨c, hc, if_pos hm⟩
theorem mtB_get (a b : List Int) : (mtB a b).getD 0 0 = max (a.getD 0 0) (b.getD 0 0) ∧ (mtB a b).getD 1 0 = min (a.getD 1 0) (b.getD 1 0) ∧ (mtB a b).getD 2 0 = max (a.getD 2 0) (b.getD 2 0) ∧ (mtB a b).getD 3 0 = min (a.getD 3 0) (b.getD 3 0) := ⟨rfl, rfl, rfl, rfl⟩
theorem hb_mt {x y : Int} {a b : List Int} : HB x y (mtB a b) ↔ HB x y a ∧ HB x y b := by
  have := mtB_get a b
  unfold HB; omega
theorem mb_of {x y : Int} {a b : List Int} (h1 : HB x y a) (h2 : HB x y b) : MB a b := by
  unfold HB MB at *; omega
theorem vb_mt {a b : List Int} (h1 : VB a) (h2 : VB b) (h : MB a b) : VB (mtB a b) := by
  have := mtB_get a b
  unfold VB MB at *; omega
theorem in_cut (x y : Int) (b : List Int) (l : List (List Int)) : (∃ c ∈ cutP b l, HB x y c) ↔ (∃ c ∈ l, HB x y c) ∧ HB x y b := by
  constructor
  · rintro ⟨c, hc, h⟩
    obtain ⟨a, ha, hm, rfl⟩ := mem_cutP.1 hc
    have := hb_mt.1 h
    exact ⟨⟨a, ha, this.1⟩, this.2⟩
  · rintro ⟨⟨a, ha, h1⟩, h2⟩
    exact ⟨_, mem_cutP.2 ⟨a, ha, mb_of h1 h2, rfl⟩, hb_mt.2 ⟨h1, h2⟩⟩
theorem vl_cut {b : List Int} {l : List (List Int)} (h1 : VL l) (h2 : VB b) (h3 : cutP b l ≠ []) : VL (cutP b l) := by
  refine ⟨List.length_pos_iff.2 h3, Nat.le_trans (cutP_len b l) h1.2.1, fun x hx => ?_⟩
  obtain ⟨a, ha, hm, rfl⟩ := mem_cutP.1 hx
  exact vb_mt (h1.2.2 a ha) h2 hm
end Go.Proofs.Ytddfnokjnafdpaa
