/-
  The loops of drift.Tidy.
-/
import Derived.Test.YtddfnokjnafdpaaDriftU
import Derived.Test.YtddfnokjnafdpaaDriftBD
set_option linter.unusedVariables false
set_option maxRecDepth 100000
namespace Go.Proofs.Ytddfnokjnafdpaa
open Go Go.Sy

theorem setEl4 (el : List Int) (a b c d : Int) : setEl 4 el 0 [a, b, c, d] = [a, b, c, d] := rfl
section
variable (list : List (List Int)) {l : List (List Int)} {i k : Nat}
theorem tidy_s4 (hv : ∀ b ∈ l, VB b) (hi : i < l.length) (hk : k < l.length) : drift_Tidy_s4 list [.i i, .r l] [.i k, .r l] = l.set i (jB (l.getD i []) (l.getD k [])) := by
  obtain ⟨j0, j1, j2, j3, _⟩ := joinBox_eq (hv _ (getD_mem hi)) (hv _ (getD_mem hk))
  unfold drift_Tidy_s4 drift_Tidy_s0 drift_Tidy_s1 drift_Tidy_s2 drift_Tidy_s3
  simp only [gi_z, gr_1, gr_z, Int.toNat_natCast, setEl4]
  rw [j0, j1, j2, j3]
  rfl
variable {L : List (List Int)}
theorem tidy_s5 (h4 : drift_Tidy_s4 list [.i i, .r l] [.i k, .r l] = L) (hk : k < L.length) (hL : L.length ≤ 16) : drift_Tidy_s5 list [.i i, .r l] [.i k, .r l] = L.drop (k + 1) := by
  unfold drift_Tidy_s5
  rw [h4]
  simp only [gi_z, boundsA, cutV, loN, wrap_succ (show k < 4611686018427387904 by omega), Int.toNat_natCast, List.take_length]
theorem tidy_s6 (h4 : drift_Tidy_s4 list [.i i, .r l] [.i k, .r l] = L) (hk : k < L.length) (hL : L.length ≤ 16) : drift_Tidy_s6 list [.i i, .r l] [.i k, .r l] = ((L.length - 1 : Nat) : Int) := by
  unfold drift_Tidy_s6
  rw [tidy_s5 list h4 hk hL, h4]
  simp only [gi_z, boundsA, loN, Int.toNat_natCast, List.length_drop]
  omega
theorem tidy_s7 (h4 : drift_Tidy_s4 list [.i i, .r l] [.i k, .r l] = L) (hk : k < L.length) (hL : L.length ≤ 16) : drift_Tidy_s7 list [.i i, .r l] [.i k, .r l] = L.take k ++ L.drop (k + 1) ++ L.drop (L.length - 1) := by
  unfold drift_Tidy_s7
  rw [tidy_s5 list h4 hk hL, h4]
  simp only [gi_z, boundsA, Int.toNat_natCast, List.length_drop]
  rw [show k + (L.length - (k + 1)) = L.length - 1 by omega]
theorem tidy_s7_len (h4 : drift_Tidy_s4 list [.i i, .r l] [.i k, .r l] = L) (hk : k < L.length) (hL : L.length ≤ 16) : (drift_Tidy_s7 list [.i i, .r l] [.i k, .r l]).length = L.length := by
  rw [tidy_s7 list h4 hk hL]
  simp only [List.length_append, List.length_take, List.length_drop]
  omega
theorem tidy_s9 (h4 : drift_Tidy_s4 list [.i i, .r l] [.i k, .r l] = L) (hk : k < L.length) (hL : L.length ≤ 16) : drift_Tidy_s8 list [.i i, .r l] [.i k, .r l] = ((L.length - 1 : Nat) : Int) ∧ drift_Tidy_s9 list [.i i, .r l] [.i k, .r l] = (L.length : Int) := by
  unfold drift_Tidy_s8 drift_Tidy_s9
  rw [tidy_s7_len list h4 hk hL, tidy_s6 list h4 hk hL, h4]
  simp only [boundsA, loN, Option.getD_some, Int.toNat_natCast, and_self]
theorem tidy_s12 (h4 : drift_Tidy_s4 list [.i i, .r l] [.i k, .r l] = L) (hk : k < L.length) (hL : L.length ≤ 16) : (drift_Tidy_s12 list [.i i, .r l] [.i k, .r l]).length = L.length ∧ (drift_Tidy_s12 list [.i i, .r l] [.i k, .r l]).take (L.length - 1) = L.eraseIdx k := by
  have hlen := tidy_s7_len list h4 hk hL
  have h7 := tidy_s7 list h4 hk hL
  obtain ⟨h8, h9⟩ := tidy_s9 list h4 hk hL
  have h10 : drift_Tidy_s10 list [.i i, .r l] [.i k, .r l] = L.eraseIdx k := by
    unfold drift_Tidy_s10
    rw [hlen, tidy_s6 list h4 hk hL, h4, h7]
    simp only [boundsA, loN, Option.getD_some, Int.toNat_natCast]
    rw [List.eraseIdx_eq_take_drop_succ, List.take_append_of_le_length (by simp only [List.length_append, List.length_take, List.length_drop]; omega)]
    exact List.take_of_length_le (by simp only [List.length_append, List.length_take, List.length_drop]; omega)
  have hle : (L.eraseIdx k).length = L.length - 1 := by rw [List.length_eraseIdx, if_pos hk]
  unfold drift_Tidy_s12 drift_Tidy_s11
  rw [h10, h9, hlen, tidy_s6 list h4 hk hL, h4]
  simp only [boundsA, loN, Option.getD_some, Int.toNat_natCast]
  rw [List.drop_of_length_le (by rw [hlen]; exact Nat.le_refl _), List.append_nil]
  refine ⟨by rw [List.length_append, hle, List.length_replicate]; omega, ?_⟩
  rw [List.take_append_of_le_length (by omega)]
  exact List.take_of_length_le (by omega)
end
theorem tidy_l2 (list : List (List Int)) (y0 : List U) {l : List (List Int)} {i : Nat} (hv : ∀ b ∈ l, VB b) (hl : l.length ≤ 16) (hi : i < l.length) :
    loopOk (drift_Tidy_l2_step list y0 [.i i, .r l]) (drift_Tidy_l2_init list y0 [.i i, .r l]) ∧
    drift_Tidy_l2 list y0 [.i i, .r l] = match kOf l i with | some k => (2, [.i k, .r (joinAt l i k)]) | none => (4, [.i l.length, .r l]) := by
  have key := loop_search (step := drift_Tidy_l2_step list y0 [.i i, .r l]) (l.length - (i + 1)) (fun j => decide (JN (l.getD i []) (l.getD (i + 1 + j) []))) (fun j => [.i ((i + 1 + j : Nat) : Int), .r l]) (fun j => [.i ((i + 1 + j : Nat) : Int), .r (joinAt l i (i + 1 + j))]) 1 3 [.i l.length, .r l]
    (fun j hj => by
      have hk : i + 1 + j < l.length := by omega
      rw [show i + 1 + (j + 1) = i + 1 + j + 1 by omega]
      generalize i + 1 + j = k at hk
      have h4 := tidy_s4 list hv hi hk
      have hL : (l.set i (jB (l.getD i []) (l.getD k []))).length = l.length := by simp
      have h5 := tidy_s5 list h4 (by rw [hL]; exact hk) (by rw [hL]; exact hl)
      have h6 := tidy_s6 list h4 (by rw [hL]; exact hk) (by rw [hL]; exact hl)
      have h7 := tidy_s7_len list h4 (by rw [hL]; exact hk) (by rw [hL]; exact hl)
      obtain ⟨h8, h9⟩ := tidy_s9 list h4 (by rw [hL]; exact hk) (by rw [hL]; exact hl)
      obtain ⟨h12, h13⟩ := tidy_s12 list h4 (by rw [hL]; exact hk) (by rw [hL]; exact hl)
      unfold drift_Tidy_l2_step
      rw [h5, h6, h7, h8, h9, h12]
      rw [h4]
      simp only [gi_z, gr_1, gr_z, dlt hk, guardP_pos (inR_of hk), guardP_pos (inR_of hi), Int.toNat_natCast, wrap_succ (show k < 4611686018427387904 by omega), joins_eq (hv _ (getD_mem hi)) (hv _ (getD_mem hk)), boundsA, loN, Option.getD_some, List.length_drop, hL]
      have hne : ((k : Int) == ((k + 1 : Nat) : Int)) = false := by simp; omega
      rw [hne]
      simp only [cond_false]
      by_cases hj : JN (l.getD i []) (l.getD k [])
      · rw [decide_eq_true hj]
        simp only [cond_true]
        rw [guardP_pos (by omega), guardP_pos (by omega), guardP_pos (by omega), guardP_pos (by omega), guardP_pos (by omega), guardP_pos (by omega), guardP_pos (by omega)]
        rw [hL] at h13
        rw [show k + (l.length - (k + 1)) = l.length - 1 by omega, h13]
        rfl
      · rw [decide_eq_false hj]
        rfl)
    (by
      unfold drift_Tidy_l2_step
      rw [show i + 1 + (l.length - (i + 1)) = l.length by omega]
      simp only [gi_z, gr_1, gr_z, dnlt])
  have e0 : drift_Tidy_l2_init list y0 [.i i, .r l] = [.i ((i + 1 + 0 : Nat) : Int), .r l] := by
    unfold drift_Tidy_l2_init
    rw [gi_z, gr_1, gr_z, wrap_succ (by omega)]
  unfold drift_Tidy_l2
  rw [e0]
  refine ⟨key.1, ?_⟩
  rcases key.2 with ⟨j, h1, h2, h3, h4⟩ | ⟨h3, h4⟩
  · have : kOf l i = some (i + 1 + j) := kOf_some.2 ⟨⟨by omega, by omega, by simpa using h2⟩, fun m hm ⟨g1, g2⟩ => by
      have := h3 (m - (i + 1)) (by omega)
      rw [show i + 1 + (m - (i + 1)) = m by omega, decide_eq_true g2] at this
      cases this⟩
    rw [this, h4]
  · have : kOf l i = none := kOf_none.2 fun k hk ⟨g1, g2⟩ => by
      have := h3 (k - (i + 1)) (by omega)
      rw [show i + 1 + (k - (i + 1)) = k by omega, decide_eq_true g2] at this
      cases this
    rw [this, h4]
theorem tidy_l1 (list : List (List Int)) {l : List (List Int)} (hv : ∀ b ∈ l, VB b) (hl : l.length ≤ 16) :
    loopOk (drift_Tidy_l1_step list [.r l]) (drift_Tidy_l1_init list [.r l]) ∧
    ((∃ i l', join1 l = some l' ∧ drift_Tidy_l1 list [.r l] = (2, [.i i, .r l'])) ∨ (join1 l = none ∧ drift_Tidy_l1 list [.r l] = (4, [.i l.length, .r l]))) := by
  have key := loop_search (step := drift_Tidy_l1_step list [.r l]) l.length (fun i => (kOf l i).isSome) (fun i => [.i i, .r l]) (fun i => [.i i, .r (joinAt l i ((kOf l i).getD 0))]) 1 3 [.i l.length, .r l]
    (fun i hi => by
      obtain ⟨k1, k2⟩ := tidy_l2 list [.r l] hv hl hi
      unfold drift_Tidy_l1_step
      rw [guardP_pos (p := loopOk _ _) k1, k2]
      simp only [gi_z, gr_1, gr_z, dlt hi, guardP_pos (inR_of hi), wrap_succ (show i < 4611686018427387904 by omega)]
      cases hk : kOf l i with
      | none => rfl
      | some k => rfl)
    (by
      unfold drift_Tidy_l1_step
      simp only [gi_z, gr_1, gr_z, dnlt])
  have e0 : drift_Tidy_l1_init list [.r l] = [.i ((0 : Nat) : Int), .r l] := rfl
  unfold drift_Tidy_l1
  rw [e0]
  refine ⟨key.1, ?_⟩
  rcases key.2 with ⟨i, h1, h2, h3, h4⟩ | ⟨h3, h4⟩
  · have hi : iOf l = some i := List.find?_range_eq_some.2 ⟨h2, List.mem_range.2 h1, fun j hj => by rw [h3 j hj]; rfl⟩
    refine .inl ⟨i, joinAt l i ((kOf l i).getD 0), ?_, h4⟩
    unfold join1
    rw [hi]
    cases hk : kOf l i with
    | none => rw [hk] at h2; cases h2
    | some k => simp only [Option.bind_some, hk]; rfl
  · have hi : iOf l = none := List.find?_range_eq_none.2 fun j hj => by rw [h3 j hj]; rfl
    refine .inr ⟨?_, h4⟩
    unfold join1
    rw [hi]
    rfl
theorem tidy_l0 (list : List (List Int)) : ∀ (n : Nat) (l : List (List Int)), 0 < l.length → (∀ b ∈ l, VB b) → l.length ≤ 16 → l.length ≤ n + 1 → ∃ m, iterO (drift_Tidy_l0_step list) m [.r l] = some (3, [.r (tidyN n l)]) := by
  have out : ∀ l : List (List Int), (∀ b ∈ l, VB b) → l.length ≤ 16 → join1 l = none → iterO (drift_Tidy_l0_step list) 1 [.r l] = some (3, [.r l]) := by
    intro l hv hl hj
    obtain ⟨k1, k2⟩ := tidy_l1 list hv hl
    refine iter_out (m := 2) ?_
    unfold drift_Tidy_l0_step
    rw [guardP_pos k1]
    rcases k2 with ⟨i, l', h1, h2⟩ | ⟨h1, h2⟩
    · rw [hj] at h1; cases h1
    · rw [h2]; rfl
  intro n
  induction n with
  | zero =>
    intro l hp hv hl hn
    exact ⟨1, out l hv hl (join1_of_none fun i k hik hk => by omega)⟩
  | succ n ih =>
    intro l hp hv hl hn
    unfold tidyN
    cases hj : join1 l with
    | none => exact ⟨1, out l hv hl hj⟩
    | some l' =>
      obtain ⟨i, k, g1, g2, g3, rfl⟩ := join1_some hj
      have t := tid_join hv g1 g2 g3
      have hlen := joinAt_length (l := l) (i := i) g2
      obtain ⟨m, hm⟩ := ih _ t.pos t.vb (by omega) (by omega)
      refine ⟨m + 1, iter_next ?_ hm⟩
      obtain ⟨k1, k2⟩ := tidy_l1 list hv hl
      unfold drift_Tidy_l0_step
      rw [guardP_pos k1]
      rcases k2 with ⟨i', l', h1, h2⟩ | ⟨h1, h2⟩
      · rw [hj] at h1
        cases h1
        rw [h2]; rfl
      · rw [hj] at h1; cases h1
def tidE (l : List (List Int)) : Int := if VL l then 0 else 1
def tidL (l : List (List Int)) : List (List Int) := if VL l then tid l else []
theorem tidy_is (l : List (List Int)) (h4 : ∀ b ∈ l, b.length = 4) : drift_Tidy_pre l ∧ drift_Tidy_1 l = tidE l ∧ drift_Tidy_0 l = tidL l := by
  have hv := valid_is l
  unfold drift_Tidy_pre drift_Tidy_1 drift_Tidy_0 tidE tidL
  rw [hv.2]
  by_cases hl : VL l
  · rw [decide_eq_true hl, if_pos hl, if_pos hl]
    obtain ⟨m, hm⟩ := tidy_l0 l l.length l hl.1 hl.2.2 hl.2.1 (Nat.le_succ _)
    have e0 : drift_Tidy_l0_init l = [.r l] := rfl
    obtain ⟨k1, k2⟩ := loop_is hm
    have k3 : drift_Tidy_l0 l = (3, [.r (tidyN l.length l)]) := by unfold drift_Tidy_l0; rw [e0]; exact k2
    have t := tidyN_tid l.length l hl.1 hl.2.2
    rw [k3]
    refine ⟨⟨hv.1, fun _ => ⟨⟨fun h => ⟨trivial, by rw [h]; rfl, trivial⟩, ?_⟩, k1, ?_, ?_⟩⟩, rfl, rfl⟩
    · have := hl.2.1
      unfold fitsA; simp [maxLen]; omega
    · intro h
      have h : tidyN l.length l = [] := h
      have := t.pos
      rw [h] at this
      simp at this
    · have h1 := t.le
      have := hl.2.1
      show (tidyN l.length l).length < _
      omega
  · rw [decide_eq_false hl, if_neg hl, if_neg hl]
    exact ⟨⟨hv.1, fun h => by cases h⟩, rfl, rfl⟩
end Go.Proofs.Ytddfnokjnafdpaa
