/- Several texts in one (wip/merge.py): XDriftI XDriftO. -/
import Derived.Test.YtddfnokjnafdpaaGreatDriftX
import Derived.Test.YtddfnokjnafdpaaGreatDriftZ
import Derived.Test.YtddfnokjnafdpaaGreatDriftKD
import Derived.Test.YtddfnokjnafdpaaGreatDriftJD
/-!
  The reference's tidied set is that of the layer.
-/
set_option linter.unusedVariables false
set_option linter.unusedSimpArgs false
set_option linter.unusedSectionVars false
set_option maxRecDepth 100000
namespace Go.Proofs.YtddfnokjnafdpaaGreat
open Go Go.Sy

theorem refValidBox {b : List Int} (h : VB b) : ref02_ValidBox_0 (b.getD 0 0) (b.getD 1 0) (b.getD 2 0) (b.getD 3 0) = true := by
  unfold VB at h
  unfold ref02_ValidBox_0 ref02_coords_0
  simp only [Bool.and_eq_true, decide_eq_true_eq]
  omega
theorem refWithin {s t x y : Int} (h1 : -1000000000000 ≤ s ∧ s ≤ t ∧ t ≤ 1000000000000) (h2 : -1000000000000 ≤ x ∧ x ≤ y ∧ y ≤ 1000000000000) : ref02_Within_0 s t x y = (decide (x ≤ s) && decide (t ≤ y)) := by
  have v1 : ref02_Valid_0 s t = true := by unfold ref02_Valid_0; simp only [Bool.and_eq_true, decide_eq_true_eq]; omega
  have v2 : ref02_Valid_0 x y = true := by unfold ref02_Valid_0; simp only [Bool.and_eq_true, decide_eq_true_eq]; omega
  unfold ref02_Within_0 ref02_Both_0
  rw [v1, v2]
  rfl
theorem refWithinBox {a b : List Int} (ha : VB a) (hb : VB b) : ref02_WithinBox_0 (a.getD 0 0) (a.getD 1 0) (a.getD 2 0) (a.getD 3 0) (b.getD 0 0) (b.getD 1 0) (b.getD 2 0) (b.getD 3 0) = decide (WB a b) := by
  unfold ref02_WithinBox_0 ref02_BothBoxes_0
  rw [refValidBox ha, refValidBox hb]
  unfold VB at ha hb
  rw [refWithin (by omega) (by omega), refWithin (by omega) (by omega), Bool.eq_iff_iff]
  simp only [Bool.and_self, Bool.not_true, cond_false, Bool.and_eq_true, decide_eq_true_eq]
  unfold WB
  omega
theorem refJoins {a b : List Int} (ha : VB a) (hb : VB b) : ref23_Joins_0 (a.getD 0 0) (a.getD 1 0) (a.getD 2 0) (a.getD 3 0) (b.getD 0 0) (b.getD 1 0) (b.getD 2 0) (b.getD 3 0) = decide (JN a b) := by
  unfold ref23_Joins_0 ref23_meets_0
  rw [refWithinBox ha hb, refWithinBox hb ha, Bool.eq_iff_iff]
  simp only [Bool.or_eq_true, Bool.and_eq_true, decide_eq_true_eq, beq_iff_eq, and_true]
  unfold VB at ha hb
  unfold JN MB WB
  omega
/-- Two elements exchanged. -/
def swp (l : List (List Int)) (i j : Nat) : List (List Int) := (l.set i (l.getD j [])).set j (l.getD i [])
theorem swp_len (l : List (List Int)) (i j : Nat) : (swp l i j).length = l.length := by simp [swp]
/-- Neighbours exchanged. -/
theorem swp_mid (P Q : List (List Int)) (x y : List Int) : swp (P ++ y :: x :: Q) (P.length + 1) P.length = P ++ x :: y :: Q := by
  have e1 : (P ++ y :: x :: Q).getD P.length [] = y := by simp [List.getD_eq_getElem?_getD]
  have e2 : (P ++ y :: x :: Q).getD (P.length + 1) [] = x := by
    rw [List.getD_eq_getElem?_getD, List.getElem?_append_right (by omega)]
    simp
  unfold swp
  rw [e1, e2]
  apply List.ext_getElem?
  intro t
  simp only [List.getElem?_set, List.length_append, List.length_cons, List.length_set]
  by_cases h1 : P.length = t
  · subst h1; simp
  · by_cases h2 : P.length + 1 = t
    · subst h2
      rw [if_neg h1, if_pos rfl, if_pos (by omega), List.getElem?_append_right (by omega)]
      simp
    · rw [if_neg h1, if_neg h2]
      by_cases h3 : t < P.length
      · rw [List.getElem?_append_left h3, List.getElem?_append_left h3]
      · rw [List.getElem?_append_right (by omega), List.getElem?_append_right (by omega)]
        obtain ⟨d, hd⟩ : ∃ d, t - P.length = d + 2 := ⟨t - P.length - 2, by omega⟩
        rw [hd]; simp
theorem swp_comm (l : List (List Int)) {i j : Nat} (h : i ≠ j) : swp l i j = swp l j i := by
  unfold swp
  rw [List.set_comm _ _ h]
/-- The i-th element moved down to place j. -/
def dnm (l : List (List Int)) (j i : Nat) : List (List Int) := l.take j ++ l.getD i [] :: (seg l j i ++ l.drop (i + 1))
theorem dn_self (l : List (List Int)) {i : Nat} (h : i < l.length) : dnm l i i = l := by
  unfold dnm
  rw [seg_nil l (Nat.le_refl i), List.nil_append, List.getD_eq_getElem?_getD, List.getElem?_eq_getElem h, Option.getD_some, List.getElem_cons_drop, List.take_append_drop]
theorem dn_len (l : List (List Int)) {i j : Nat} (hj : j ≤ i) (h : i < l.length) : (dnm l j i).length = l.length := by
  unfold dnm
  simp only [List.length_append, List.length_cons, List.length_take, List.length_drop, seg_len l (show i ≤ l.length by omega)]
  omega
theorem dn_at (l : List (List Int)) {i j : Nat} (hj : j ≤ i) (h : i < l.length) : (dnm l j i).getD j [] = l.getD i [] := by
  unfold dnm
  rw [List.getD_eq_getElem?_getD, List.getElem?_append_right (by simp; omega)]
  simp [show j - min j l.length = 0 by omega]
theorem dn_lo (l : List (List Int)) {i j t : Nat} (hj : j ≤ i) (h : i < l.length) (ht : t < j) : (dnm l j i).getD t [] = l.getD t [] := by
  unfold dnm
  rw [List.getD_eq_getElem?_getD, List.getElem?_append_left (by simp; omega), List.getElem?_take_of_lt ht, ← List.getD_eq_getElem?_getD]
theorem dn_step (l : List (List Int)) {i j : Nat} (hj : j < i) (h : i < l.length) : swp (dnm l (j + 1) i) (j + 1) j = dnm l j i := by
  have e1 : l.take (j + 1) = l.take j ++ [l.getD j []] := by
    rw [← seg_zero, ← seg_zero, seg_snoc [] l (Nat.zero_le j) (by omega)]
  have e2 : seg l j i = l.getD j [] :: seg l (j + 1) i := seg_cons [] l hj (by omega)
  have hl : (l.take j).length = j := by simp; omega
  unfold dnm
  rw [e1, e2, List.append_assoc, List.singleton_append]
  have := swp_mid (l.take j) (seg l (j + 1) i ++ l.drop (i + 1)) (l.getD i []) (l.getD j [])
  rw [hl] at this
  rw [this]
  simp
theorem refJoinBox {a b : List Int} (ha : VB a) (hb : VB b) :
    [ref02_JoinBox_0 (a.getD 0 0) (a.getD 1 0) (a.getD 2 0) (a.getD 3 0) (b.getD 0 0) (b.getD 1 0) (b.getD 2 0) (b.getD 3 0), ref02_JoinBox_1 (a.getD 0 0) (a.getD 1 0) (a.getD 2 0) (a.getD 3 0) (b.getD 0 0) (b.getD 1 0) (b.getD 2 0) (b.getD 3 0),
     ref02_JoinBox_2 (a.getD 0 0) (a.getD 1 0) (a.getD 2 0) (a.getD 3 0) (b.getD 0 0) (b.getD 1 0) (b.getD 2 0) (b.getD 3 0), ref02_JoinBox_3 (a.getD 0 0) (a.getD 1 0) (a.getD 2 0) (a.getD 3 0) (b.getD 0 0) (b.getD 1 0) (b.getD 2 0) (b.getD 3 0)] = jB a b := by
  unfold ref02_JoinBox_0 ref02_JoinBox_1 ref02_JoinBox_2 ref02_JoinBox_3 ref02_BothBoxes_0 ref02_Join_0 ref02_Join_1 ref02_Both_0
  rw [refValidBox ha, refValidBox hb]
  unfold VB at ha hb
  have v : ∀ {s t : Int}, -1000000000000 ≤ s ∧ s ≤ t ∧ t ≤ 1000000000000 → ref02_Valid_0 s t = true := fun {s t} h => by unfold ref02_Valid_0; simp only [Bool.and_eq_true, decide_eq_true_eq]; omega
  rw [v (s := a.getD 0 0) (t := a.getD 1 0) (by omega), v (s := b.getD 0 0) (t := b.getD 1 0) (by omega), v (s := a.getD 2 0) (t := a.getD 3 0) (by omega), v (s := b.getD 2 0) (t := b.getD 3 0) (by omega)]
  simp only [imin_min, imax_max]
  rfl
theorem erase_set {l : List (List Int)} {i k : Nat} (hik : i < k) (hk : k < l.length) (x : List Int) : ([] ++ l.take k).set i x ++ l.drop (k + 1) = (l.set i x).eraseIdx k := by
  rw [List.eraseIdx_eq_take_drop_succ, List.nil_append, List.drop_set_of_lt (by omega), List.take_set]
section
variable (list : List (List Int)) {l : List (List Int)} (hv : ∀ b ∈ l, VB b) (hl : l.length ≤ 16)
include hv hl
theorem rtidy_l2 {i : Nat} (hi : i < l.length) : loopOk (ref23_Tidy_l2_step list [.b true, .r l] [.b false, .i i]) (ref23_Tidy_l2_init list [.b true, .r l] [.b false, .i i]) ∧
    ref23_Tidy_l2 list [.b true, .r l] [.b false, .i i] = match kOf l i with | some k => (1, [.r (joinAt l i k)]) | none => (3, [.b false, .i l.length]) := by
  have key := loop_search (step := ref23_Tidy_l2_step list [.b true, .r l] [.b false, .i i]) (l.length - (i + 1)) (fun j => decide (JN (l.getD i []) (l.getD (i + 1 + j) []))) (fun j => [.b false, .i ((i + 1 + j : Nat) : Int)]) (fun j => [.r (joinAt l i (i + 1 + j))]) 0 2 [.b false, .i l.length]
    (fun j hj => by
      have hk : i + 1 + j < l.length := by omega
      rw [show i + 1 + (j + 1) = i + 1 + j + 1 by omega]
      have hik : i < i + 1 + j := by omega
      generalize i + 1 + j = k at hk hik
      unfold ref23_Tidy_l2_step ref23_Tidy_s6 ref23_Tidy_s5 ref23_Tidy_s4 ref23_Tidy_s3 ref23_Tidy_s2 ref23_Tidy_s1 ref23_Tidy_s0
      simp only [gi_1, gi_z, gr_1, gr_z, gb_z, dlt hk, guardP_pos (inR_of hk), guardP_pos (inR_of hi), Int.toNat_natCast, wrap_succ (show k < 4611686018427387904 by omega), refJoins (hv _ (getD_mem hi)) (hv _ (getD_mem hk)), refJoinBox (hv _ (getD_mem hi)) (hv _ (getD_mem hk)), boundsA, loN, cutV, List.drop_zero, List.take_length]
      by_cases hj : JN (l.getD i []) (l.getD k [])
      · rw [decide_eq_true hj, cond_true]
        have hlt : ([] ++ List.take k l : List (List Int)).length = k := by simp; omega
        have r1 : inR (i : Int) ([] ++ List.take k l) := inR_of (by omega)
        have hsl : ((([] ++ List.take k l).set i (setEl 4 (([] ++ List.take k l).getD i []) 0 (jB (l.getD i []) (l.getD k [])))).length + (List.drop (k + 1) l).length) ≤ 16 := by
          simp only [List.length_set, List.length_drop, hlt]; omega
        have hf : ∀ n, n ≤ 16 → fitsA 32 n := fun n hn => by unfold fitsA maxLen; omega
        rw [guardP_pos (by omega), guardP_pos ⟨by omega, hf _ (by simp; omega)⟩, guardP_pos r1, guardP_pos r1, guardP_pos (by omega), guardP_pos ⟨by omega, hf _ hsl⟩]
        have e4 : setEl 4 (([] ++ List.take k l).getD i []) 0 (jB (l.getD i []) (l.getD k [])) = jB (l.getD i []) (l.getD k []) := rfl
        rw [e4, erase_set hik hk]
        rfl
      · rw [decide_eq_false hj]
        rfl)
    (by
      unfold ref23_Tidy_l2_step
      rw [show i + 1 + (l.length - (i + 1)) = l.length by omega]
      simp only [gi_1, gi_z, gr_1, gr_z, gb_z, dnlt])
  have e0 : ref23_Tidy_l2_init list [.b true, .r l] [.b false, .i i] = [.b false, .i ((i + 1 + 0 : Nat) : Int)] := by
    unfold ref23_Tidy_l2_init
    rw [gi_1, gi_z, gb_z, wrap_succ (by omega)]
  unfold ref23_Tidy_l2
  rw [e0]
  refine ⟨key.1, ?_⟩
  rcases key.2 with ⟨j, h1, h2, h3, h4⟩ | ⟨h3, h4⟩
  · have : kOf l i = some (i + 1 + j) := kOf_some.2 ⟨⟨by omega, by omega, by simpa using h2⟩, fun m hm ⟨g1, g2⟩ => by
      have := h3 (m - (i + 1)) (by omega)
      rw [show i + 1 + (m - (i + 1)) = m by omega, decide_eq_true g2] at this
      cases this⟩
    rw [this, h4]
  · have : kOf l i = none := kOf_none.2 fun k hk ⟨g1, g2⟩ => by
      have := h3 (k - (i + 1)) (by omega)
      rw [show i + 1 + (k - (i + 1)) = k by omega, decide_eq_true g2] at this
      cases this
    rw [this, h4]
theorem rtidy_l1 : loopOk (ref23_Tidy_l1_step list [.b true, .r l]) (ref23_Tidy_l1_init list [.b true, .r l]) ∧
    ((∃ l', join1 l = some l' ∧ ref23_Tidy_l1 list [.b true, .r l] = (1, [.r l'])) ∨ (join1 l = none ∧ ref23_Tidy_l1 list [.b true, .r l] = (3, [.b false, .i l.length]))) := by
  have key := loop_search (step := ref23_Tidy_l1_step list [.b true, .r l]) l.length (fun i => (kOf l i).isSome) (fun i => [.b false, .i i]) (fun i => [.r (joinAt l i ((kOf l i).getD 0))]) 0 2 [.b false, .i l.length]
    (fun i hi => by
      obtain ⟨k1, k2⟩ := rtidy_l2 list hv hl hi
      unfold ref23_Tidy_l1_step
      rw [guardP_pos (p := loopOk _ _) k1, k2]
      simp only [gi_1, gi_z, gr_1, gr_z, gb_z, dlt hi, wrap_succ (show i < 4611686018427387904 by omega)]
      cases hk : kOf l i with
      | none => rfl
      | some k => rfl)
    (by
      unfold ref23_Tidy_l1_step
      simp only [gi_1, gi_z, gr_1, gr_z, gb_z, dnlt])
  have e0 : ref23_Tidy_l1_init list [.b true, .r l] = [.b false, .i ((0 : Nat) : Int)] := rfl
  unfold ref23_Tidy_l1
  rw [e0]
  refine ⟨key.1, ?_⟩
  rcases key.2 with ⟨i, h1, h2, h3, h4⟩ | ⟨h3, h4⟩
  · have hi : iOf l = some i := List.find?_range_eq_some.2 ⟨h2, List.mem_range.2 h1, fun j hj => by rw [h3 j hj]; rfl⟩
    refine .inl ⟨joinAt l i ((kOf l i).getD 0), ?_, h4⟩
    unfold join1
    rw [hi]
    cases hk : kOf l i with
    | none => rw [hk] at h2; cases h2
    | some k => simp only [Option.bind_some, hk]; rfl
  · have hi : iOf l = none := List.find?_range_eq_none.2 fun j hj => by rw [h3 j hj]; rfl
    refine .inr ⟨?_, h4⟩
    unfold join1
    rw [hi]
    rfl
end
theorem rtidy_l0 (list : List (List Int)) : ∀ (n : Nat) (l : List (List Int)), 0 < l.length → (∀ b ∈ l, VB b) → l.length ≤ 16 → l.length ≤ n + 1 → ∃ m, iterO (ref23_Tidy_l0_step list) m [.b true, .r l] = some (3, [.b false, .r (tidyN n l)]) := by
  have out : ∀ l : List (List Int), (∀ b ∈ l, VB b) → l.length ≤ 16 → join1 l = none → iterO (ref23_Tidy_l0_step list) 2 [.b true, .r l] = some (3, [.b false, .r l]) := by
    intro l hv hl hj
    obtain ⟨k1, k2⟩ := rtidy_l1 list hv hl
    have e1 : ref23_Tidy_l0_step list [.b true, .r l] = some (0, [.b false, .r l]) := by
      unfold ref23_Tidy_l0_step
      simp only [gb_z, gr_1, gr_z, cond_true]
      rw [guardP_pos k1]
      rcases k2 with ⟨l', h1, h2⟩ | ⟨h1, h2⟩
      · rw [hj] at h1; cases h1
      · rw [h2]; rfl
    have e2 : ref23_Tidy_l0_step list [.b false, .r l] = some (3, [.b false, .r l]) := by
      unfold ref23_Tidy_l0_step
      simp only [gb_z, gr_1, gr_z, cond_false]
    exact iter_next e1 (iter_out e2)
  intro n
  induction n with
  | zero =>
    intro l hp hv hl hn
    exact ⟨2, out l hv hl (join1_of_none fun i k hik hk => by omega)⟩
  | succ n ih =>
    intro l hp hv hl hn
    unfold tidyN
    cases hj : join1 l with
    | none => exact ⟨2, out l hv hl hj⟩
    | some l' =>
      obtain ⟨i, k, g1, g2, g3, rfl⟩ := join1_some hj
      have t := tid_join hv g1 g2 g3
      have hlen := joinAt_length (l := l) (i := i) g2
      obtain ⟨m, hm⟩ := ih _ t.pos t.vb (by omega) (by omega)
      refine ⟨m + 1, iter_next ?_ hm⟩
      obtain ⟨k1, k2⟩ := rtidy_l1 list hv hl
      unfold ref23_Tidy_l0_step
      simp only [gb_z, gr_1, gr_z, cond_true]
      rw [guardP_pos k1]
      rcases k2 with ⟨l', h1, h2⟩ | ⟨h1, h2⟩
      · rw [hj] at h1
        cases h1
        rw [h2]; rfl
      · rw [hj] at h1; cases h1

/-! ### the reference's sort -/
abbrev lB (a b : List Int) : Bool := leL [0, 2, 1, 3] a b
theorem before_eq (a b : List Int) : ref23_before_0 (a.getD 0 0) (a.getD 1 0) (a.getD 2 0) (a.getD 3 0) (b.getD 0 0) (b.getD 1 0) (b.getD 2 0) (b.getD 3 0) = !lB b a := by
  unfold ref23_before_0 lB leL leL leL leL leL
  generalize a.getD 0 0 = a0
  generalize a.getD 1 0 = a1
  generalize a.getD 2 0 = a2
  generalize a.getD 3 0 = a3
  generalize b.getD 0 0 = b0
  generalize b.getD 1 0 = b1
  generalize b.getD 2 0 = b2
  generalize b.getD 3 0 = b3
  have L : ∀ {x y : Int}, x < y → (x != y) = true ∧ ¬ y = x ∧ decide (x < y) = true ∧ decide (y < x) = false ∧ (y != x) = true ∧ ¬ x = y := fun {x y} h => ⟨by simp; omega, by omega, by simp; omega, by simp; omega, by simp; omega, by omega⟩
  rcases Int.lt_trichotomy a0 b0 with h | h | h
  · obtain ⟨l1, l2, l3, l4, _⟩ := L h
    rw [l1, cond_true, if_neg l2, l3, l4]; rfl
  · subst h
    rw [if_pos rfl, bne_self_eq_false, cond_false]
    rcases Int.lt_trichotomy a2 b2 with h | h | h
    · obtain ⟨l1, l2, l3, l4, _⟩ := L h
      rw [l1, cond_true, if_neg l2, l3, l4]; rfl
    · subst h
      rw [if_pos rfl, bne_self_eq_false, cond_false]
      rcases Int.lt_trichotomy a1 b1 with h | h | h
      · obtain ⟨l1, l2, l3, l4, _⟩ := L h
        rw [l1, cond_true, if_neg l2, l3, l4]; rfl
      · subst h
        rw [if_pos rfl, bne_self_eq_false, cond_false]
        rcases Int.lt_trichotomy a3 b3 with h | h | h
        · obtain ⟨l1, l2, l3, l4, _⟩ := L h
          rw [if_neg l2, l3, l4]; rfl
        · subst h
          rw [if_pos rfl]; simp
        · obtain ⟨l1, l2, l3, l4, l5, l6⟩ := L h
          rw [if_neg l6, l3, l4]; rfl
      · obtain ⟨l1, l2, l3, l4, l5, l6⟩ := L h
        rw [l5, cond_true, if_neg l6, l3, l4]; rfl
    · obtain ⟨l1, l2, l3, l4, l5, l6⟩ := L h
      rw [l5, cond_true, if_neg l6, l3, l4]; rfl
  · obtain ⟨l1, l2, l3, l4, l5, l6⟩ := L h
    rw [l5, cond_true, if_neg l6, l3, l4]; rfl
def All4 (l : List (List Int)) : Prop := ∀ r ∈ l, r.length = 4
theorem four {x old : List Int} (h : x.length = 4) : setEl 4 old 0 [x.getD 0 0, x.getD 1 0, x.getD 2 0, x.getD 3 0] = x := by
  match x, h with
  | [a, b, c, d], _ => rfl
theorem all4_get {l : List (List Int)} (h : All4 l) {i : Nat} (hi : i < l.length) : (l.getD i []).length = 4 := h _ (getD_mem hi)
theorem dn_perm (l : List (List Int)) {i j : Nat} (hj : j ≤ i) (hi : i < l.length) : (dnm l j i).Perm l := by
  unfold dnm
  have e : l = l.take j ++ (seg l j i ++ l.getD i [] :: l.drop (i + 1)) := by
    have e1 : l = l.take j ++ l.drop j := (List.take_append_drop j l).symm
    have e2 : l.drop j = seg l j i ++ l.drop i := by
      rw [seg_drop]
      have := (List.take_append_drop (i - j) (l.drop j)).symm
      rwa [List.drop_drop, show j + (i - j) = i by omega] at this
    have e3 : l.drop i = l.getD i [] :: l.drop (i + 1) := by
      rw [List.getD_eq_getElem?_getD, List.getElem?_eq_getElem hi, Option.getD_some, List.getElem_cons_drop]
    rw [← e3, ← e2]
    exact e1
  conv => rhs; rw [e]
  exact List.Perm.append_left _ List.perm_middle.symm
theorem dn_take {l : List (List Int)} {i j : Nat} (hj : j ≤ i) (hi : i < l.length) : (dnm l j i).take (i + 1) = l.take j ++ l.getD i [] :: seg l j i := by
  have e : dnm l j i = (l.take j ++ l.getD i [] :: seg l j i) ++ l.drop (i + 1) := by unfold dnm; simp
  rw [e]
  exact List.take_left' (by simp [seg_len l (show i ≤ l.length by omega)]; omega)
theorem dn_all4 {l : List (List Int)} (h : All4 l) {i j : Nat} (hj : j ≤ i) (hi : i < l.length) : All4 (dnm l j i) := fun r hr => h r ((dn_perm l hj hi).mem_iff.1 hr)
theorem rt_l4_eq (list : List (List Int)) (y3 : List U) (j : Nat) (L : List (List Int)) (hL : All4 L) (hj : j < L.length) (hl : L.length < 4611686018427387904) :
    ref23_Tidy_l4_step list y3 [.i (j : Int), .r L] = if 0 < j ∧ lB (L.getD (j - 1) []) (L.getD j []) = false then some (0, [.i ((j - 1 : Nat) : Int), .r (swp L j (j - 1))]) else some (2, [.i (j : Int), .r L]) := by
  unfold ref23_Tidy_l4_step ref23_Tidy_s11 ref23_Tidy_s10 ref23_Tidy_s9 ref23_Tidy_s8 ref23_Tidy_s7
  simp only [gi_z, gr_1, gr_z]
  by_cases ha : 0 < j
  · have w1 : IntKind.i64.wrap ((j : Int) - 1) = ((j - 1 : Nat) : Int) := by rw [i64_wrap (by omega)]; omega
    have d1 : decide ((j : Int) > 0) = true := decide_eq_true (by omega)
    rw [w1]
    simp only [Int.toNat_natCast, d1, true_implies, Bool.true_and]
    have r1 : inR (j : Int) L := inR_of hj
    have r2 : inR ((j - 1 : Nat) : Int) L := inR_of (by omega)
    have r3 : ∀ x, inR ((j - 1 : Nat) : Int) (L.set j x) := fun x => inR_of (by simp; omega)
    rw [guardP_true r1, guardP_true r1, guardP_true r2, guardP_true r2, before_eq, four (all4_get hL (show j - 1 < L.length by omega)), four (all4_get hL hj)]
    cases hk : lB (L.getD (j - 1) []) (L.getD j []) with
    | false =>
      rw [if_pos ⟨ha, rfl⟩, Bool.not_false, cond_true, guardP_true r2, guardP_true r2, guardP_true r1, guardP_true r1, guardP_true r1, guardP_true r1, guardP_true (r3 _), guardP_true (r3 _)]
      rfl
    | true => rw [if_neg (fun h => by cases h.2), Bool.not_true, cond_false]
  · have d1 : decide ((j : Int) > 0) = false := decide_eq_false (by omega)
    simp only [d1]
    rw [guardP_true (fun h => by cases h), guardP_true (fun h => by cases h), guardP_true (fun h => by cases h), guardP_true (fun h => by cases h), if_neg (fun h => ha h.1)]
    rfl
theorem rt_l4_go (list : List (List Int)) (y3 : List U) {l : List (List Int)} (h4 : All4 l) (hl : l.length < 4611686018427387904) {i : Nat} (hi : i < l.length) :
    ∀ j, j ≤ i → (∀ x ∈ seg l j i, lB (l.getD i []) x = true) → (l.take i).Pairwise (fun a b => lB a b = true) →
      ∃ (n j' : Nat), j' ≤ i ∧ iterO (ref23_Tidy_l4_step list y3) n [.i (j : Int), .r (dnm l j i)] = some (2, [.i (j' : Int), .r (dnm l j' i)]) ∧ ((dnm l j' i).take (i + 1)).Pairwise (fun a b => lB a b = true) := by
  have fin : ∀ j, j ≤ i → (∀ x ∈ seg l j i, lB (l.getD i []) x = true) → (l.take i).Pairwise (fun a b => lB a b = true) → (∀ x ∈ l.take j, lB x (l.getD i []) = true) → ((dnm l j i).take (i + 1)).Pairwise (fun a b => lB a b = true) := by
    intro j hji hx hs hlo
    rw [dn_take hji hi]
    have e : l.take i = l.take j ++ seg l j i := by
      have := seg_app l (Nat.zero_le j) hji
      exact this
    rw [e] at hs
    obtain ⟨s1, s2, s3⟩ := List.pairwise_append.1 hs
    refine List.pairwise_append.2 ⟨s1, List.pairwise_cons.2 ⟨hx, s2⟩, fun x hx y hy => ?_⟩
    rcases List.mem_cons.1 hy with rfl | hy
    · exact hlo x hx
    · exact s3 x hx y hy
  intro j
  induction j with
  | zero =>
    intro hji hx hs
    have e := rt_l4_eq list y3 0 (dnm l 0 i) (dn_all4 h4 hji hi) (by rw [dn_len l hji hi]; omega) (by rw [dn_len l hji hi]; exact hl)
    rw [if_neg (by omega)] at e
    exact ⟨1, 0, hji, iter_out e, fin 0 hji hx hs (by simp)⟩
  | succ j ih =>
    intro hji hx hs
    have e := rt_l4_eq list y3 (j + 1) (dnm l (j + 1) i) (dn_all4 h4 hji hi) (by rw [dn_len l hji hi]; omega) (by rw [dn_len l hji hi]; exact hl)
    rw [dn_at l hji hi, show j + 1 - 1 = j by omega, dn_lo l hji hi (show j < j + 1 by omega)] at e
    cases hk : lB (l.getD j []) (l.getD i []) with
    | false =>
      rw [if_pos ⟨by omega, hk⟩, dn_step l (show j < i by omega) hi] at e
      obtain ⟨n, j', g1, g3, g4⟩ := ih (by omega) (fun x hx' => by
        rw [seg_cons [] l (show j < i by omega) (by omega)] at hx'
        rcases List.mem_cons.1 hx' with rfl | hx'
        · exact (leL_total [0, 2, 1, 3] (l.getD j []) (l.getD i [])).resolve_left (fun e => by have hk' : leL [0, 2, 1, 3] (l.getD j []) (l.getD i []) = false := hk; rw [hk'] at e; cases e)
        · exact hx x hx') hs
      exact ⟨n + 1, j', g1, iter_next e g3, g4⟩
    | true =>
      rw [if_neg (fun h => by rw [hk] at h; cases h.2)] at e
      refine ⟨1, j + 1, hji, iter_out e, fin _ hji hx hs fun x hx' => ?_⟩
      obtain ⟨t, ht, rfl⟩ := List.mem_iff_getElem.1 hx'
      have ht' : t < j + 1 := by simp at ht; omega
      have e1 : (l.take (j + 1))[t] = l.getD t [] := by simp [List.getD_eq_getElem?_getD, List.getElem?_eq_getElem (show t < l.length by omega)]
      rw [e1]
      by_cases htj : t = j
      · rw [htj]; exact hk
      · have := List.pairwise_iff_getElem.1 hs t j (by simp; omega) (by simp; omega) (by omega)
        rw [List.getElem_take, List.getElem_take] at this
        have e2 : l[t]'(by omega) = l.getD t [] := by simp [List.getD_eq_getElem?_getD, List.getElem?_eq_getElem (show t < l.length by omega)]
        have e3 : l[j]'(by omega) = l.getD j [] := by simp [List.getD_eq_getElem?_getD, List.getElem?_eq_getElem (show j < l.length by omega)]
        rw [e2, e3] at this
        exact leL_trans _ _ _ _ this hk
theorem rsort_is {l : List (List Int)} (list : List (List Int)) (h4 : All4 l) (hl : l.length < 4611686018427387904) : ∃ (n : Nat) (i : Int), iterO (ref23_Tidy_l3_step list) n [.i 0, .r l] = some (2, [.i i, .r (sortRows 4 [0, 2, 1, 3] l)]) := by
  have key : ∀ d i L, i + d = l.length → All4 L → L.Perm l → (L.take i).Pairwise (fun a b => lB a b = true) → ∃ (n : Nat) (L' : List (List Int)), iterO (ref23_Tidy_l3_step list) n [.i (i : Int), .r L] = some (2, [.i (l.length : Int), .r L']) ∧ L'.Perm l ∧ L'.Pairwise (fun a b => lB a b = true) := by
    intro d
    induction d with
    | zero =>
      intro i L hi h4L hp hs
      have hlen := hp.length_eq
      refine ⟨1, L, iter_out ?_, hp, ?_⟩
      · unfold ref23_Tidy_l3_step
        simp only [gi_z, gr_1, gr_z]
        rw [decide_eq_false (by omega), cond_false]
        rw [show i = l.length by omega]
      · rwa [List.take_of_length_le (by omega)] at hs
    | succ d ih =>
      intro i L hi h4L hp hs
      have hlen := hp.length_eq
      obtain ⟨n, j', g1, g2, g3⟩ := rt_l4_go list [.i (i : Int), .r L] h4L (by omega) (i := i) (by omega) i (Nat.le_refl i) (by rw [seg_nil L (Nat.le_refl i)]; simp) hs
      rw [dn_self L (by omega)] at g2
      obtain ⟨k1, k2⟩ := loop_is g2
      have hP := dn_perm L g1 (show i < L.length by omega)
      obtain ⟨m, L', q1, q2, q3⟩ := ih (i + 1) (dnm L j' i) (by omega) (dn_all4 h4L g1 (by omega)) (hP.trans hp) g3
      refine ⟨m + 1, L', iter_next ?_ q1, q2, q3⟩
      unfold ref23_Tidy_l3_step ref23_Tidy_l4 ref23_Tidy_l4_init
      simp only [gi_z, gr_1, gr_z]
      rw [decide_eq_true (by omega), cond_true, guardP_true k1, k2]
      simp only [gr_1, gr_z]
      rw [wrap_succ (by omega)]
  obtain ⟨n, L', q1, q2, q3⟩ := key l.length 0 l (by omega) h4 (.refl l) (by simp)
  refine ⟨n, (l.length : Int), ?_⟩
  have : L' = sortRows 4 [0, 2, 1, 3] l := by
    unfold sortRows
    rw [map_norm h4]
    refine isort_unique (leL_total _) (leL_trans _) (fun a ha b hb h h' => ?_) q2 q3
    have := leL_anti _ _ _ h h'
    have e0 := this 0 (by simp)
    have e1 := this 1 (by simp)
    have e2 := this 2 (by simp)
    have e3 := this 3 (by simp)
    rw [← norm_eq (h4 a ha), ← norm_eq (h4 b hb)]
    apply norm_ext
    intro j hj
    match j, hj with
    | 0, _ => exact e0
    | 1, _ => exact e1
    | 2, _ => exact e2
    | 3, _ => exact e3
  rw [← this]
  exact q1
theorem tidyN_all4 : ∀ (n : Nat) {l : List (List Int)}, All4 l → All4 (tidyN n l)
  | 0, l, h => h
  | n + 1, l, h => by
    unfold tidyN
    cases hj : join1 l with
    | none => exact h
    | some l' =>
      obtain ⟨i, k, g1, g2, g3, rfl⟩ := join1_some hj
      refine tidyN_all4 n fun r hr => ?_
      unfold joinAt at hr
      have := List.mem_of_mem_eraseIdx hr
      rcases List.mem_or_eq_of_mem_set this with h' | rfl
      · exact h r h'
      · rfl
theorem rtidy_is (l : List (List Int)) (h4 : All4 l) : ref23_Tidy_pre l ∧ ref23_Tidy_1 l = tidE l ∧ ref23_Tidy_0 l = tidL l := by
  have hv := rvalid_is l
  unfold ref23_Tidy_pre ref23_Tidy_1 ref23_Tidy_0 tidE tidL
  rw [hv.2]
  by_cases hl : VL l
  · rw [decide_eq_true hl, if_pos hl, if_pos hl]
    obtain ⟨m, hm⟩ := rtidy_l0 l l.length l hl.1 hl.2.2 hl.2.1 (Nat.le_succ _)
    have e0 : ref23_Tidy_l0_init l = [.b true, .r l] := rfl
    obtain ⟨k1, k2⟩ := loop_is hm
    have k3 : ref23_Tidy_l0 l = (3, [.b false, .r (tidyN l.length l)]) := by unfold ref23_Tidy_l0; rw [e0]; exact k2
    have t := tidyN_tid l.length l hl.1 hl.2.2
    have hle := t.le
    have hl2 := hl.2.1
    obtain ⟨n, i, q⟩ := rsort_is (l := tidyN l.length l) l (tidyN_all4 _ h4) (by omega)
    have e1 : ref23_Tidy_l3_init l = [.i 0, .r (tidyN l.length l)] := by unfold ref23_Tidy_l3_init; rw [k3]; rfl
    obtain ⟨p1, p2⟩ := loop_is q
    refine ⟨⟨hv.1, fun _ => ⟨by unfold fitsA maxLen; omega, by rw [e0]; exact k1, by rw [e1]; exact p1⟩⟩, rfl, ?_⟩
    unfold ref23_Tidy_l3
    rw [e1, p2]
    rfl
  · rw [decide_eq_false hl, if_neg hl, if_neg hl]
    exact ⟨⟨hv.1, fun h => by cases h⟩, rfl, rfl⟩
end Go.Proofs.YtddfnokjnafdpaaGreat

/-!
  The reference's Better is that of the layer.
-/
set_option linter.unusedVariables false
set_option linter.unusedSimpArgs false
set_option linter.unusedSectionVars false
set_option maxRecDepth 100000
namespace Go.Proofs.YtddfnokjnafdpaaGreat
open Go Go.Sy

def lA (x y : List Int) : Bool := decide (x.getD 0 0 ≤ y.getD 0 0)
theorem lA_total (x y : List Int) : lA x y = true ∨ lA y x = true := by unfold lA; simp only [decide_eq_true_eq]; omega
theorem lA_trans {x y z : List Int} (h : lA x y = true) (k : lA y z = true) : lA x z = true := by unfold lA at *; simp only [decide_eq_true_eq] at *; omega
def All1 (l : List (List Int)) : Prop := ∀ r ∈ l, r.length = 1
theorem one1 {x old : List Int} (h : x.length = 1) : setEl 1 old 0 [x.getD 0 0] = x := by
  match x, h with
  | [a], _ => rfl
theorem all1_get {l : List (List Int)} (h : All1 l) {i : Nat} (hi : i < l.length) : (l.getD i []).length = 1 := h _ (getD_mem hi)
theorem dn_all1 {l : List (List Int)} (h : All1 l) {i j : Nat} (hj : j ≤ i) (hi : i < l.length) : All1 (dnm l j i) := fun r hr => h r ((dn_perm l hj hi).mem_iff.1 hr)
theorem rb_l2_eq (a b : List (List Int)) (y3 : List U) (j : Nat) (L : List (List Int)) (hL : All1 L) (hj : j < L.length) (hl : L.length < 4611686018427387904) :
    ref23_bounds_l2_step a b y3 [.i (j : Int), .r L] = if 0 < j ∧ lA (L.getD (j - 1) []) (L.getD j []) = false then some (0, [.i ((j - 1 : Nat) : Int), .r (swp L j (j - 1))]) else some (2, [.i (j : Int), .r L]) := by
  unfold ref23_bounds_l2_step ref23_bounds_s2 ref23_bounds_s1
  simp only [gi_z, gr_1, gr_z]
  by_cases ha : 0 < j
  · have w1 : IntKind.i64.wrap ((j : Int) - 1) = ((j - 1 : Nat) : Int) := by rw [i64_wrap (by omega)]; omega
    have d1 : decide ((j : Int) > 0) = true := decide_eq_true (by omega)
    rw [w1]
    simp only [Int.toNat_natCast, d1, true_implies, Bool.true_and]
    have r1 : inR (j : Int) L := inR_of hj
    have r2 : inR ((j - 1 : Nat) : Int) L := inR_of (by omega)
    have r3 : ∀ x, inR ((j - 1 : Nat) : Int) (L.set j x) := fun x => inR_of (by simp; omega)
    have hc : decide ((L.getD j []).getD 0 0 < (L.getD (j - 1) []).getD 0 0) = !lA (L.getD (j - 1) []) (L.getD j []) := by
      unfold lA
      rw [Bool.eq_iff_iff]; simp only [decide_eq_true_eq, Bool.not_eq_true', decide_eq_false_iff_not]; omega
    rw [guardP_true r1, guardP_true r1, guardP_true r2, guardP_true r2, hc, one1 (all1_get hL (show j - 1 < L.length by omega)), one1 (all1_get hL hj)]
    cases hk : lA (L.getD (j - 1) []) (L.getD j []) with
    | false =>
      rw [if_pos ⟨ha, rfl⟩, Bool.not_false, cond_true, guardP_true r2, guardP_true r2, guardP_true r1, guardP_true r1, guardP_true r1, guardP_true r1, guardP_true (r3 _), guardP_true (r3 _)]
      rfl
    | true => rw [if_neg (fun h => by cases h.2), Bool.not_true, cond_false]
  · have d1 : decide ((j : Int) > 0) = false := decide_eq_false (by omega)
    simp only [d1]
    rw [guardP_true (fun h => by cases h), guardP_true (fun h => by cases h), guardP_true (fun h => by cases h), guardP_true (fun h => by cases h), if_neg (fun h => ha h.1)]
    rfl
theorem rb_l2_go (a b : List (List Int)) (y3 : List U) {l : List (List Int)} (h4 : All1 l) (hl : l.length < 4611686018427387904) {i : Nat} (hi : i < l.length) :
    ∀ j, j ≤ i → (∀ x ∈ seg l j i, lA (l.getD i []) x = true) → (l.take i).Pairwise (fun x y => lA x y = true) →
      ∃ (n j' : Nat), j' ≤ i ∧ iterO (ref23_bounds_l2_step a b y3) n [.i (j : Int), .r (dnm l j i)] = some (2, [.i (j' : Int), .r (dnm l j' i)]) ∧ ((dnm l j' i).take (i + 1)).Pairwise (fun x y => lA x y = true) := by
  have fin : ∀ j, j ≤ i → (∀ x ∈ seg l j i, lA (l.getD i []) x = true) → (l.take i).Pairwise (fun x y => lA x y = true) → (∀ x ∈ l.take j, lA x (l.getD i []) = true) → ((dnm l j i).take (i + 1)).Pairwise (fun x y => lA x y = true) := by
    intro j hji hx hs hlo
    rw [dn_take hji hi]
    have e : l.take i = l.take j ++ seg l j i := by
      have := seg_app l (Nat.zero_le j) hji
      exact this
    rw [e] at hs
    obtain ⟨s1, s2, s3⟩ := List.pairwise_append.1 hs
    refine List.pairwise_append.2 ⟨s1, List.pairwise_cons.2 ⟨hx, s2⟩, fun x hx y hy => ?_⟩
    rcases List.mem_cons.1 hy with rfl | hy
    · exact hlo x hx
    · exact s3 x hx y hy
  intro j
  induction j with
  | zero =>
    intro hji hx hs
    have e := rb_l2_eq a b y3 0 (dnm l 0 i) (dn_all1 h4 hji hi) (by rw [dn_len l hji hi]; omega) (by rw [dn_len l hji hi]; exact hl)
    rw [if_neg (by omega)] at e
    exact ⟨1, 0, hji, iter_out e, fin 0 hji hx hs (by simp)⟩
  | succ j ih =>
    intro hji hx hs
    have e := rb_l2_eq a b y3 (j + 1) (dnm l (j + 1) i) (dn_all1 h4 hji hi) (by rw [dn_len l hji hi]; omega) (by rw [dn_len l hji hi]; exact hl)
    rw [dn_at l hji hi, show j + 1 - 1 = j by omega, dn_lo l hji hi (show j < j + 1 by omega)] at e
    cases hk : lA (l.getD j []) (l.getD i []) with
    | false =>
      rw [if_pos ⟨by omega, hk⟩, dn_step l (show j < i by omega) hi] at e
      obtain ⟨n, j', g1, g3, g4⟩ := ih (by omega) (fun x hx' => by
        rw [seg_cons [] l (show j < i by omega) (by omega)] at hx'
        rcases List.mem_cons.1 hx' with rfl | hx'
        · exact (lA_total _ _).resolve_left (by rw [hk]; simp)
        · exact hx x hx') hs
      exact ⟨n + 1, j', g1, iter_next e g3, g4⟩
    | true =>
      rw [if_neg (fun h => by rw [hk] at h; cases h.2)] at e
      refine ⟨1, j + 1, hji, iter_out e, fin _ hji hx hs fun x hx' => ?_⟩
      obtain ⟨t, ht, rfl⟩ := List.mem_iff_getElem.1 hx'
      have ht' : t < j + 1 := by simp at ht; omega
      have e1 : (l.take (j + 1))[t] = l.getD t [] := by simp [List.getD_eq_getElem?_getD, List.getElem?_eq_getElem (show t < l.length by omega)]
      rw [e1]
      by_cases htj : t = j
      · rw [htj]; exact hk
      · have := List.pairwise_iff_getElem.1 hs t j (by simp; omega) (by simp; omega) (by omega)
        rw [List.getElem_take, List.getElem_take] at this
        have e2 : l[t]'(by omega) = l.getD t [] := by simp [List.getD_eq_getElem?_getD, List.getElem?_eq_getElem (show t < l.length by omega)]
        have e3 : l[j]'(by omega) = l.getD j [] := by simp [List.getD_eq_getElem?_getD, List.getElem?_eq_getElem (show j < l.length by omega)]
        rw [e2, e3] at this
        exact lA_trans this hk
theorem rbsort_is {l : List (List Int)} (a b : List (List Int)) (h4 : All1 l) (hl : l.length < 4611686018427387904) : ∃ (n : Nat) (i : Int), iterO (ref23_bounds_l1_step a b) n [.i 0, .r l] = some (2, [.i i, .r (sortNums l)]) := by
  have key : ∀ d i L, i + d = l.length → All1 L → L.Perm l → (L.take i).Pairwise (fun x y => lA x y = true) → ∃ (n : Nat) (L' : List (List Int)), iterO (ref23_bounds_l1_step a b) n [.i (i : Int), .r L] = some (2, [.i (l.length : Int), .r L']) ∧ L'.Perm l ∧ L'.Pairwise (fun x y => lA x y = true) := by
    intro d
    induction d with
    | zero =>
      intro i L hi h4L hp hs
      have hlen := hp.length_eq
      refine ⟨1, L, iter_out ?_, hp, ?_⟩
      · unfold ref23_bounds_l1_step
        simp only [gi_z, gr_1, gr_z]
        rw [decide_eq_false (by omega), cond_false]
        rw [show i = l.length by omega]
      · rwa [List.take_of_length_le (by omega)] at hs
    | succ d ih =>
      intro i L hi h4L hp hs
      have hlen := hp.length_eq
      obtain ⟨n, j', g1, g2, g3⟩ := rb_l2_go a b [.i (i : Int), .r L] h4L (by omega) (i := i) (by omega) i (Nat.le_refl i) (by rw [seg_nil L (Nat.le_refl i)]; simp) hs
      rw [dn_self L (by omega)] at g2
      obtain ⟨k1, k2⟩ := loop_is g2
      have hP := dn_perm L g1 (show i < L.length by omega)
      obtain ⟨m, L', q1, q2, q3⟩ := ih (i + 1) (dnm L j' i) (by omega) (dn_all1 h4L g1 (by omega)) (hP.trans hp) g3
      refine ⟨m + 1, L', iter_next ?_ q1, q2, q3⟩
      unfold ref23_bounds_l1_step ref23_bounds_l2 ref23_bounds_l2_init
      simp only [gi_z, gr_1, gr_z]
      rw [decide_eq_true (by omega), cond_true, guardP_true k1, k2]
      simp only [gr_1, gr_z]
      rw [wrap_succ (by omega)]
  obtain ⟨n, L', q1, q2, q3⟩ := key l.length 0 l (by omega) h4 (.refl l) (by simp)
  refine ⟨n, (l.length : Int), ?_⟩
  have h1' : All1 L' := fun r hr => h4 r (q2.mem_iff.1 hr)
  have : L' = sortNums l := by
    unfold sortNums
    have e1 : nums L' = isort leI (nums l) := by
      refine isort_unique leI_total leI_trans (fun x _ y _ h h' => leI_anti x y h h') (q2.map _) ?_
      unfold nums
      rw [List.pairwise_map]
      exact q3
    rw [← e1]
    unfold ofNums nums
    rw [List.map_map]
    conv => lhs; rw [← List.map_id L']
    apply List.map_congr_left
    intro r hr
    have := h1' r hr
    match r, this with
    | [x], _ => rfl
  rw [← this]
  exact q1

theorem rb_l0 (a b : List (List Int)) (ha : a.length ≤ 60) (hb : b.length ≤ 60) : loopOk (ref23_bounds_l0_step a b) (ref23_bounds_l0_init a b) ∧ gr (ref23_bounds_l0 a b).snd 1 = endsR (a ++ b) := by
  have hl : ([] ++ a ++ b).length ≤ 120 := by simp; omega
  have key := loop_fold (σ := Unit) (step := ref23_bounds_l0_step a b) ([] ++ a ++ b).length (fun i _ => [.i i, .r (endsR (([] ++ a ++ b).take i))]) (fun _ s => s) (fun _ _ => True) 1 (fun _ => [.i (([] ++ a ++ b).length : Int), .r (endsR ([] ++ a ++ b))])
    (fun _ _ _ _ => trivial)
    (fun i s hi _ => by
      have e : endsR (([] ++ a ++ b).take (i + 1)) = endsR (([] ++ a ++ b).take i) ++ ref23_bounds_s0 a b [.i i, .r (endsR (([] ++ a ++ b).take i))] := by
        unfold endsR ref23_bounds_s0
        rw [take_succ' hi, List.flatMap_append]
        simp only [gi_z, Int.toNat_natCast, List.flatMap_cons, List.flatMap_nil, List.append_nil]
      have e2 : (ref23_bounds_s0 a b [.i i, .r (endsR (([] ++ a ++ b).take i))]).length = 2 := rfl
      have e3 : (endsR (([] ++ a ++ b).take i)).length ≤ 240 := by rw [endsR_len, List.length_take]; omega
      unfold ref23_bounds_l0_step
      rw [e]
      simp only [gi_z, gr_1, gr_z, dlt hi, guardP_pos (inR_of hi), wrap_succ (show i < 4611686018427387904 by omega)]
      rw [guardP_pos (fits_le (by decide) (by rw [e2]; omega))])
    (fun s _ => by
      unfold ref23_bounds_l0_step
      simp only [gi_z, gr_1, gr_z, dnlt, List.take_length]) (s := ()) trivial
  refine ⟨key.1, ?_⟩
  have e : ref23_bounds_l0 a b = _ := key.2.1
  rw [e]
  simp only [gr_1, gr_z]
  rfl
theorem rb_l3 (a b : List (List Int)) {zs : List Int} (hz : gr (ref23_bounds_l1 a b).snd 1 = ofNums zs) (hl : zs.length ≤ 1000) : loopOk (ref23_bounds_l3_step a b) (ref23_bounds_l3_init a b) ∧ gr (ref23_bounds_l3 a b).snd 1 = ofNums (dd none zs) := by
  have hlen : (ofNums zs).length = zs.length := by simp [ofNums]
  have key := loop_fold (σ := Unit) (step := ref23_bounds_l3_step a b) zs.length (fun i _ => [.i i, .r (ofNums (dd none (zs.take i)))]) (fun _ s => s) (fun _ _ => True) 2 (fun _ => [.i (zs.length : Int), .r (ofNums (dd none zs))])
    (fun _ _ _ _ => trivial)
    (fun i s hi _ => by
      have hi' : i < (ofNums zs).length := by omega
      have e0 : zs.take (i + 1) = zs.take i ++ [zs.getD i 0] := by
        rw [List.take_add_one, List.getElem?_eq_getElem hi]
        simp [List.getD_eq_getElem?_getD, List.getElem?_eq_getElem hi]
      have e3 : (ofNums (dd none (zs.take i))).length ≤ 1000 := by
        have := dd_length (zs.take i) none
        simp [ofNums] at *; omega
      unfold ref23_bounds_l3_step
      rw [hz, e0, dd_snoc]
      simp only [gi_z, gr_1, gr_z, hlen, dlt hi, guardP_pos (inR_of hi'), getD_ofNums, Int.toNat_natCast, wrap_succ (show i < 4611686018427387904 by omega)]
      by_cases hi0 : i = 0
      · subst hi0
        have z : (((0 : Nat) : Int) == 0) = true := rfl
        rw [z]
        rw [guardP_pos (fun h => by cases h), guardP_pos (fun h => by cases h), guardP_pos (fun h => by cases h), guardP_pos (fun h => by cases h), Bool.true_or, cond_true, guardP_pos (by have := e3; unfold fitsA maxLen; simp only [List.length_cons, List.length_nil]; omega)]
        simp [ofNums, dd]
      · have z : ((i : Int) == 0) = false := by simp; omega
        have w1 : IntKind.i64.wrap ((i : Int) - 1) = ((i - 1 : Nat) : Int) := by rw [i64_wrap (by omega)]; omega
        have r2 : inR ((i - 1 : Nat) : Int) (ofNums zs) := inR_of (by omega)
        rw [z, w1]
        simp only [Int.toNat_natCast, getD_ofNums]
        rw [guardP_pos (fun _ => inR_of hi'), guardP_pos (fun _ => inR_of hi'), guardP_pos (fun _ => r2), guardP_pos (fun _ => r2), Bool.false_or]
        have hlast : (zs.take i).getLast?.or none = some (zs.getD (i - 1) 0) := by
          rw [Option.or_none, List.getLast?_eq_getElem?, List.length_take, Nat.min_eq_left (by omega), List.getElem?_take_of_lt (by omega), List.getElem?_eq_getElem (by omega), List.getD_eq_getElem?_getD, List.getElem?_eq_getElem (by omega)]
          rfl
        rw [hlast]
        by_cases he : zs.getD i 0 = zs.getD (i - 1) 0
        · rw [if_pos (by rw [he]), List.append_nil, he]
          simp
        · rw [if_neg (fun e => he (Option.some.inj e).symm)]
          have : (zs.getD i 0 != zs.getD (i - 1) 0) = true := by simpa using he
          rw [this, cond_true, guardP_pos (by have := e3; unfold fitsA maxLen; simp only [List.length_cons, List.length_nil]; omega)]
          simp [ofNums])
    (fun s _ => by
      unfold ref23_bounds_l3_step
      rw [hz]
      simp only [gi_z, gr_1, gr_z, hlen, dnlt, List.take_length]) (s := ()) trivial
  have e0 : ref23_bounds_l3_init a b = [.i ((0 : Nat) : Int), .r (ofNums (dd none (zs.take 0)))] := rfl
  refine ⟨by rw [e0]; exact key.1, ?_⟩
  unfold ref23_bounds_l3
  rw [e0, key.2.1]
  simp only [gr_1, gr_z]
theorem bounds_is (a b : List (List Int)) (ha : a.length ≤ 60) (hb : b.length ≤ 60) : ref23_bounds_pre a b ∧ ref23_bounds_0 a b = ofNums (bT a b) := by
  obtain ⟨p0, e0⟩ := rb_l0 a b ha hb
  have hlen : (endsR (a ++ b)).length ≤ 240 := by rw [endsR_len, List.length_append]; omega
  have h1 : All1 (endsR (a ++ b)) := by
    intro r hr
    unfold endsR at hr
    obtain ⟨c, _, hc⟩ := List.mem_flatMap.1 hr
    simp at hc
    rcases hc with rfl | rfl <;> rfl
  obtain ⟨n, i, q⟩ := rbsort_is a b h1 (by omega)
  obtain ⟨k1, k2⟩ := loop_is q
  have ei : ref23_bounds_l1_init a b = [.i 0, .r (endsR (a ++ b))] := by unfold ref23_bounds_l1_init; rw [e0]
  have e1 : gr (ref23_bounds_l1 a b).snd 1 = ofNums (isort leI (endsL (a ++ b))) := by
    unfold ref23_bounds_l1
    rw [ei, k2]
    simp only [gr_1, gr_z]
    unfold sortNums
    rw [nums_endsR]
  have hz : (isort leI (endsL (a ++ b))).length ≤ 1000 := by
    rw [isort_length]
    have : (endsL (a ++ b)).length = (endsR (a ++ b)).length := by rw [← nums_endsR]; simp [nums]
    omega
  obtain ⟨p3, e3⟩ := rb_l3 a b e1 hz
  unfold ref23_bounds_pre ref23_bounds_0
  exact ⟨⟨by unfold fitsA maxLen; omega, by unfold fitsA maxLen; simp; omega, p0, by rw [ei]; exact k1, p3⟩, e3⟩
theorem rat_is (t : Int) (l : List (List Int)) (hl : l.length ≤ 1000) : ref23_at_pre t l ∧ ref23_at_6 t l = (atT l t).isSome ∧ ref23_at_2 t l = ((atT l t).getD []).getD 2 0 ∧ ref23_at_3 t l = ((atT l t).getD []).getD 3 0 ∧ ref23_at_4 t l = ((atT l t).getD []).getD 4 0 ∧ ref23_at_5 t l = ((atT l t).getD []).getD 5 0 := by
  have key := loop_search (step := ref23_at_l0_step t l) l.length (fun i => decide ((l.getD i []).getD 0 0 ≤ t) && decide (t < (l.getD i []).getD 1 0)) (fun i => [.b false, .i i]) (fun i => [.i ((l.getD i []).getD 0 0), .i ((l.getD i []).getD 1 0), .i ((l.getD i []).getD 2 0), .i ((l.getD i []).getD 3 0), .i ((l.getD i []).getD 4 0), .i ((l.getD i []).getD 5 0)]) 0 2 [.b false, .i l.length]
    (fun i hi => by
      unfold ref23_at_l0_step
      simp only [gi_1, gi_z, gb_z, dlt hi, guardP_pos (inR_of hi), guardP_pos (fun _ => inR_of hi), Int.toNat_natCast, wrap_succ (show i < 4611686018427387904 by omega)])
    (by
      unfold ref23_at_l0_step
      simp only [gi_1, gi_z, gb_z, dnlt])
  have hp : ref23_at_pre t l := key.1
  unfold ref23_at_6 ref23_at_2 ref23_at_3 ref23_at_4 ref23_at_5
  refine ⟨hp, ?_⟩
  rcases key.2 with ⟨i, h1, h2, h3, h4⟩ | ⟨h3, h4⟩
  · have e : ref23_at_l0 t l = _ := h4
    have hat : atT l t = some (l.getD i []) := by
      unfold atT
      rw [List.find?_eq_some_iff_getElem]
      refine ⟨h2, i, h1, ?_, fun j hj => ?_⟩
      · simp [List.getD_eq_getElem?_getD, List.getElem?_eq_getElem h1]
      · have ej : l[j]'(Nat.lt_trans hj h1) = l.getD j [] := by simp [List.getD_eq_getElem?_getD, List.getElem?_eq_getElem (Nat.lt_trans hj h1)]
        rw [ej, h3 j hj]
        rfl
    rw [e, hat]
    exact ⟨rfl, rfl, rfl, rfl, rfl⟩
  · have e : ref23_at_l0 t l = _ := h4
    have hat : atT l t = none := by
      unfold atT
      rw [List.find?_eq_none]
      intro c hc
      obtain ⟨i, hi, rfl⟩ := getD_of_mem hc
      rw [h3 i hi]; simp
    rw [e, hat]
    exact ⟨rfl, rfl, rfl, rfl, rfl⟩

section
variable {a b : List (List Int)} (ha : VC a) (hb : VC b)
include ha hb
theorem rbet_l0 : loopOk (ref23_Better_l0_step a b) (ref23_Better_l0_init a b) ∧
    ((bLie a b ∧ ref23_Better_l0 a b = (5, [])) ∨ (¬ bLie a b ∧ ∃ n, ref23_Better_l0 a b = (8, [.i 0, .i n, .r (bAll a b (prs (bT a b)))]))) := by
  obtain ⟨b1, b2⟩ := bounds_is a b ha.2 hb.2
  obtain ⟨t1, t2, t3, t4⟩ := tR_is a b ha.2 hb.2
  have hpl := prs_len (bT a b)
  have hlen : (ref23_bounds_0 a b).length = (bT a b).length := by rw [b2]; simp [ofNums]
  have ha60 := ha.2
  have hb60 := hb.2
  have key := loop_search (step := ref23_Better_l0_step a b) ((bT a b).length - 1) (fun i => !decide (bOk (atT a ((bT a b).getD i 0)) (atT b ((bT a b).getD i 0)))) (fun i => [.i 0, .i (i : Int), .r (bAll a b ((prs (bT a b)).take i))]) (fun _ => []) 4 7 [.i 0, .i (((bT a b).length - 1 : Nat) : Int), .r (bAll a b (prs (bT a b)))]
    (fun i hi => by
      have hlt : i + 1 < (bT a b).length := by omega
      have hp := prs_get (bT a b) i hlt
      have hti : (prs (bT a b)).take (i + 1) = (prs (bT a b)).take i ++ [((bT a b).getD i 0, (bT a b).getD (i + 1) 0)] := by
        have hh : i < (prs (bT a b)).length := by rw [hpl]; omega
        rw [List.take_succ_eq_append_getElem hh]
        rw [List.getElem?_eq_getElem hh] at hp
        rw [Option.some.inj hp]
      have hrl : (bAll a b ((prs (bT a b)).take i)).length ≤ 240 := by
        refine Nat.le_trans (bAll_len a b _) ?_
        rw [List.length_take, hpl]; omega
      rw [hti, bAll_append]
      generalize bAll a b ((prs (bT a b)).take i) = r at hrl
      have r1 : inR (i : Int) (ref23_bounds_0 a b) := inR_of (by omega)
      have r2 : inR ((i + 1 : Nat) : Int) (ref23_bounds_0 a b) := inR_of (by omega)
      have eT : ((ref23_bounds_0 a b).getD i []).getD 0 0 = (bT a b).getD i 0 := by rw [b2]; exact getD_ofNums _ _
      have eU : ((ref23_bounds_0 a b).getD (i + 1) []).getD 0 0 = (bT a b).getD (i + 1) 0 := by rw [b2]; exact getD_ofNums _ _
      have hA := rat_is ((bT a b).getD i 0) a (by omega)
      have hB := rat_is ((bT a b).getD i 0) b (by omega)
      have hf : ∀ x : List Int, fitsA 48 (r.length + [x].length) := fun x => fits_le (by decide) (by simp only [List.length_cons, List.length_nil]; omega)
      generalize (bT a b).getD i 0 = t at eT hA hB
      generalize (bT a b).getD (i + 1) 0 = u at eU
      unfold ref23_Better_l0_step ref23_Better_s17 ref23_Better_s16 ref23_Better_s15 ref23_Better_s14 ref23_Better_s13 ref23_Better_s12 ref23_Better_s11 ref23_Better_s10 ref23_Better_s9 ref23_Better_s8 ref23_Better_s7 ref23_Better_s6 ref23_Better_s5 ref23_Better_s4 ref23_Better_s3 ref23_Better_s2 ref23_Better_s1 ref23_Better_s0
      simp only [gi_1, gi_z, gr_1, gr_2, gr_z, wrap_succ (show i < 4611686018427387904 by omega), hlen, Int.toNat_natCast, eT, eU, guardP_pos r1, guardP_pos r2, guardP_pos hA.1, guardP_pos hB.1, guardP_pos (hf _)]
      rw [decide_eq_true (show ((i + 1 : Nat) : Int) < ((bT a b).length : Int) by omega), cond_true, hA.2.1, hB.2.1, hA.2.2.1, hA.2.2.2.1, hA.2.2.2.2.1, hA.2.2.2.2.2, hB.2.2.1, hB.2.2.2.1, hB.2.2.2.2.1, hB.2.2.2.2.2]
      have eb : bAll a b [(t, u)] = (bRow (atT a t) (atT b t) t u).toList := by simp [bAll]
      rw [eb]
      cases hc : atT a t with
      | none =>
        cases hd : atT b t with
        | none =>
          have : bRow none none t u = none := rfl
          rw [this, decide_eq_true (show bOk none none from trivial)]
          simp only [Option.isSome_none, Bool.not_false, Bool.and_self, cond_true, Bool.not_true, cond_false, Option.toList_none, List.append_nil]
        | some d =>
          rw [decide_eq_true (show bOk none (some d) from trivial)]
          simp only [Option.isSome_none, Option.isSome_some, Bool.not_false, Bool.not_true, Bool.and_false, Bool.false_and, Bool.true_and, cond_true, cond_false, Option.getD_some]
          rfl
      | some c =>
        cases hd : atT b t with
        | none =>
          rw [decide_eq_true (show bOk (some c) none from trivial)]
          simp only [Option.isSome_none, Option.isSome_some, Bool.not_false, Bool.not_true, Bool.and_false, Bool.false_and, Bool.true_and, Bool.and_true, cond_true, cond_false, Option.getD_some]
          rfl
        | some d =>
          have hC := CL_mem ha.1 c (atT_some hc).1
          have hD := CL_mem hb.1 d (atT_some hd).1
          unfold CO at hC hD
          obtain ⟨m1, m2⟩ := rmeet_eq (s := c.getD 2 0) (t := c.getD 3 0) (x := d.getD 2 0) (y := d.getD 3 0) (by omega) (by omega)
          obtain ⟨m3, m4⟩ := rmeet_eq (s := c.getD 4 0) (t := c.getD 5 0) (x := d.getD 4 0) (y := d.getD 5 0) (by omega) (by omega)
          simp only [Option.isSome_some, Bool.not_true, Bool.and_self, cond_false, cond_true, Option.getD_some]
          rw [m1, m3]
          by_cases h1 : max (c.getD 2 0) (d.getD 2 0) ≤ min (c.getD 3 0) (d.getD 3 0)
          · by_cases h2 : max (c.getD 4 0) (d.getD 4 0) ≤ min (c.getD 5 0) (d.getD 5 0)
            · rw [decide_eq_true (show bOk (some c) (some d) from ⟨h1, h2⟩), if_pos h1, if_pos h2, (m2 h1).1, (m2 h1).2, (m4 h2).1, (m4 h2).2]
              rfl
            · rw [decide_eq_false (show ¬ bOk (some c) (some d) from fun h => h2 h.2), if_pos h1, if_neg h2]
              rfl
          · rw [decide_eq_false (show ¬ bOk (some c) (some d) from fun h => h1 h.1), if_neg h1]
            rfl)
    (by
      unfold ref23_Better_l0_step
      simp only [gi_1, gi_z, gr_1, gr_2, gr_z, hlen]
      rw [wrap_succ (show (bT a b).length - 1 < 4611686018427387904 by omega), decide_eq_false (by omega), cond_false, ← hpl, List.take_length])
  have e0 : ref23_Better_l0_init a b = [.i 0, .i ((0 : Nat) : Int), .r (bAll a b ((prs (bT a b)).take 0))] := rfl
  unfold ref23_Better_l0
  rw [e0]
  refine ⟨key.1, ?_⟩
  rcases key.2 with ⟨i, g1, g2, g3, g4⟩ | ⟨g3, g4⟩
  · refine .inl ⟨⟨_, List.mem_of_getElem? (prs_get (bT a b) i (by omega)), by simpa using g2⟩, g4⟩
  · refine .inr ⟨?_, _, g4⟩
    rintro ⟨p, hp, hn⟩
    obtain ⟨i, hi, rfl⟩ := List.getElem_of_mem hp
    have := prs_get (bT a b) i (by rw [hpl] at hi; omega)
    rw [List.getElem?_eq_getElem hi] at this
    have g := g3 i (by rw [hpl] at hi; exact hi)
    rw [Option.some.inj this] at hn
    simp only [] at hn
    rw [decide_eq_false hn] at g
    cases g
end
theorem rbetter_is (a b : List (List Int)) : ref23_Better_pre a b ∧ ref23_Better_1 a b = betE a b ∧ ref23_Better_0 a b = betL a b := by
  have va := rcurrents_is a
  have vb := rcurrents_is b
  unfold ref23_Better_pre ref23_Better_1 ref23_Better_0 ref23_Better_s18 ref23_Better_s19 betL betE
  rw [va.2, vb.2]
  by_cases ha : VC a
  · by_cases hb : VC b
    · rw [decide_eq_true ha, decide_eq_true hb]
      have hn : ¬ (¬ VC a ∨ ¬ VC b) := fun h => h.elim (fun k => k ha) (fun k => k hb)
      rw [if_neg hn]
      obtain ⟨k1, k2⟩ := rbet_l0 ha hb
      refine ⟨⟨va.1, vb.1, fun _ => ⟨(bounds_is a b ha.2 hb.2).1, k1⟩⟩, ?_⟩
      rcases k2 with ⟨g1, g2⟩ | ⟨g1, n, g2⟩
      · rw [g2, if_pos g1]
        exact ⟨rfl, rfl⟩
      · rw [g2, if_neg g1]
        simp only [gr_1, gr_2, gr_z]
        by_cases g3 : (bAll a b (prs (bT a b))).length > 60
        · rw [if_pos g3, decide_eq_true (by omega)]
          exact ⟨rfl, rfl⟩
        · rw [if_neg g3, decide_eq_false (by omega)]
          exact ⟨rfl, rfl⟩
    · rw [decide_eq_true ha, decide_eq_false hb, if_pos (show ¬ VC a ∨ ¬ VC b from .inr hb)]
      exact ⟨⟨va.1, vb.1, fun h => by cases h⟩, rfl, rfl⟩
  · rw [decide_eq_false ha, if_pos (show ¬ VC a ∨ ¬ VC b from .inl ha)]
    exact ⟨⟨va.1, vb.1, fun h => by cases h⟩, rfl, rfl⟩
end Go.Proofs.YtddfnokjnafdpaaGreat
