/- Several texts in one (wip/merge.py): XDriftX XDriftY. -/
import Derived.Test.YtddfnokjnafdpaaGreatDriftU
import Derived.Test.YtddfnokjnafdpaaGreatDriftBD
/-!
  The loops of drift.Tidy.
-/
set_option linter.unusedVariables false
set_option maxRecDepth 100000
namespace Go.Proofs.YtddfnokjnafdpaaGreat
open Go Go.Sy

theorem setEl4 (el : List Int) (a b c d : Int) : setEl 4 el 0 [a, b, c, d] = [a, b, c, d] := rfl
section
variable (list : List (List Int)) {l : List (List Int)} {i k : Nat}
theorem tidy_s4 (hv : ∀ b ∈ l, VB b) (hi : i < l.length) (hk : k < l.length) : drift_Tidy_s4 list [.r l] [.i i] [.i k] = l.set i (jB (l.getD i []) (l.getD k [])) := by
  obtain ⟨j0, j1, j2, j3, _⟩ := joinBox_eq (hv _ (getD_mem hi)) (hv _ (getD_mem hk))
  unfold drift_Tidy_s4 drift_Tidy_s0 drift_Tidy_s1 drift_Tidy_s2 drift_Tidy_s3
  simp only [gi_z, gr_z, Int.toNat_natCast, setEl4]
  rw [j0, j1, j2, j3]
  rfl
variable {L : List (List Int)}
theorem tidy_s5 (h4 : drift_Tidy_s4 list [.r l] [.i i] [.i k] = L) (hk : k < L.length) (hL : L.length ≤ 16) : drift_Tidy_s5 list [.r l] [.i i] [.i k] = L.drop (k + 1) := by
  unfold drift_Tidy_s5
  rw [h4]
  simp only [gi_z, boundsA, cutV, loN, wrap_succ (show k < 4611686018427387904 by omega), Int.toNat_natCast, List.take_length]
theorem tidy_s6 (h4 : drift_Tidy_s4 list [.r l] [.i i] [.i k] = L) (hk : k < L.length) (hL : L.length ≤ 16) : drift_Tidy_s6 list [.r l] [.i i] [.i k] = ((L.length - 1 : Nat) : Int) := by
  unfold drift_Tidy_s6
  rw [tidy_s5 list h4 hk hL, h4]
  simp only [gi_z, boundsA, loN, Int.toNat_natCast, List.length_drop]
  omega
theorem tidy_s7 (h4 : drift_Tidy_s4 list [.r l] [.i i] [.i k] = L) (hk : k < L.length) (hL : L.length ≤ 16) : drift_Tidy_s7 list [.r l] [.i i] [.i k] = L.take k ++ L.drop (k + 1) ++ L.drop (L.length - 1) := by
  unfold drift_Tidy_s7
  rw [tidy_s5 list h4 hk hL, h4]
  simp only [gi_z, boundsA, Int.toNat_natCast, List.length_drop]
  rw [show k + (L.length - (k + 1)) = L.length - 1 by omega]
theorem tidy_s7_len (h4 : drift_Tidy_s4 list [.r l] [.i i] [.i k] = L) (hk : k < L.length) (hL : L.length ≤ 16) : (drift_Tidy_s7 list [.r l] [.i i] [.i k]).length = L.length := by
  rw [tidy_s7 list h4 hk hL]
  simp only [List.length_append, List.length_take, List.length_drop]
  omega
theorem tidy_s9 (h4 : drift_Tidy_s4 list [.r l] [.i i] [.i k] = L) (hk : k < L.length) (hL : L.length ≤ 16) : drift_Tidy_s8 list [.r l] [.i i] [.i k] = ((L.length - 1 : Nat) : Int) ∧ drift_Tidy_s9 list [.r l] [.i i] [.i k] = (L.length : Int) := by
  unfold drift_Tidy_s8 drift_Tidy_s9
  rw [tidy_s7_len list h4 hk hL, tidy_s6 list h4 hk hL, h4]
  simp only [boundsA, loN, Option.getD_some, Int.toNat_natCast, and_self]
theorem tidy_s12 (h4 : drift_Tidy_s4 list [.r l] [.i i] [.i k] = L) (hk : k < L.length) (hL : L.length ≤ 16) : (drift_Tidy_s12 list [.r l] [.i i] [.i k]).length = L.length ∧ (drift_Tidy_s12 list [.r l] [.i i] [.i k]).take (L.length - 1) = L.eraseIdx k := by
  have hlen := tidy_s7_len list h4 hk hL
  have h7 := tidy_s7 list h4 hk hL
  obtain ⟨h8, h9⟩ := tidy_s9 list h4 hk hL
  have h10 : drift_Tidy_s10 list [.r l] [.i i] [.i k] = L.eraseIdx k := by
    unfold drift_Tidy_s10
    rw [hlen, tidy_s6 list h4 hk hL, h4, h7]
    simp only [boundsA, loN, Option.getD_some, Int.toNat_natCast]
    rw [List.eraseIdx_eq_take_drop_succ, List.take_append_of_le_length (by simp only [List.length_append, List.length_take, List.length_drop]; omega)]
    exact List.take_of_length_le (by simp only [List.length_append, List.length_take, List.length_drop]; omega)
  have hle : (L.eraseIdx k).length = L.length - 1 := by rw [List.length_eraseIdx, if_pos hk]
  unfold drift_Tidy_s12 drift_Tidy_s11
  rw [h10, h9, hlen, tidy_s6 list h4 hk hL, h4]
  simp only [boundsA, loN, Option.getD_some, Int.toNat_natCast]
  rw [List.drop_of_length_le (by rw [hlen]; exact Nat.le_refl _), List.append_nil]
  refine ⟨by rw [List.length_append, hle, List.length_replicate]; omega, ?_⟩
  rw [List.take_append_of_le_length (by omega)]
  exact List.take_of_length_le (by omega)
end
theorem tidy_l2 (list : List (List Int)) {l : List (List Int)} {i : Nat} (hv : ∀ b ∈ l, VB b) (hl : l.length ≤ 16) (hi : i < l.length) :
    loopOk (drift_Tidy_l2_step list [.r l] [.i i]) (drift_Tidy_l2_init list [.r l] [.i i]) ∧
    drift_Tidy_l2 list [.r l] [.i i] = match kOf l i with | some k => (2, [.i k, .r (joinAt l i k)]) | none => (4, [.i l.length]) := by
  have key := loop_search (step := drift_Tidy_l2_step list [.r l] [.i i]) (l.length - (i + 1)) (fun j => decide (JN (l.getD i []) (l.getD (i + 1 + j) []))) (fun j => [.i ((i + 1 + j : Nat) : Int)]) (fun j => [.i ((i + 1 + j : Nat) : Int), .r (joinAt l i (i + 1 + j))]) 1 3 [.i l.length]
    (fun j hj => by
      have hk : i + 1 + j < l.length := by omega
      rw [show i + 1 + (j + 1) = i + 1 + j + 1 by omega]
      generalize i + 1 + j = k at hk
      have h4 := tidy_s4 list hv hi hk
      have hL : (l.set i (jB (l.getD i []) (l.getD k []))).length = l.length := by simp
      have h5 := tidy_s5 list h4 (by rw [hL]; exact hk) (by rw [hL]; exact hl)
      have h6 := tidy_s6 list h4 (by rw [hL]; exact hk) (by rw [hL]; exact hl)
      have h7 := tidy_s7_len list h4 (by rw [hL]; exact hk) (by rw [hL]; exact hl)
      obtain ⟨h8, h9⟩ := tidy_s9 list h4 (by rw [hL]; exact hk) (by rw [hL]; exact hl)
      obtain ⟨h12, h13⟩ := tidy_s12 list h4 (by rw [hL]; exact hk) (by rw [hL]; exact hl)
      unfold drift_Tidy_l2_step
      rw [h5, h6, h7, h8, h9, h12]
      rw [h4]
      simp only [gi_z, gr_z, dlt hk, guardP_pos (inR_of hk), guardP_pos (inR_of hi), Int.toNat_natCast, wrap_succ (show k < 4611686018427387904 by omega), joins_eq (hv _ (getD_mem hi)) (hv _ (getD_mem hk)), boundsA, loN, Option.getD_some, List.length_drop, hL]
      have hne : ((k : Int) == ((k + 1 : Nat) : Int)) = false := by simp; omega
      rw [hne]
      simp only [cond_false]
      by_cases hj : JN (l.getD i []) (l.getD k [])
      · rw [decide_eq_true hj]
        simp only [cond_true]
        rw [guardP_pos (by omega), guardP_pos (by omega), guardP_pos (by omega), guardP_pos (by omega), guardP_pos (by omega), guardP_pos (by omega), guardP_pos (by omega)]
        rw [hL] at h13
        rw [show k + (l.length - (k + 1)) = l.length - 1 by omega, h13]
        rfl
      · rw [decide_eq_false hj]
        rfl)
    (by
      unfold drift_Tidy_l2_step
      rw [show i + 1 + (l.length - (i + 1)) = l.length by omega]
      simp only [gi_z, gr_z, dnlt])
  have e0 : drift_Tidy_l2_init list [.r l] [.i i] = [.i ((i + 1 + 0 : Nat) : Int)] := by
    unfold drift_Tidy_l2_init
    rw [gi_z, wrap_succ (by omega)]
  unfold drift_Tidy_l2
  rw [e0]
  refine ⟨key.1, ?_⟩
  rcases key.2 with ⟨j, h1, h2, h3, h4⟩ | ⟨h3, h4⟩
  · have : kOf l i = some (i + 1 + j) := kOf_some.2 ⟨⟨by omega, by omega, by simpa using h2⟩, fun m hm ⟨g1, g2⟩ => by
      have := h3 (m - (i + 1)) (by omega)
      rw [show i + 1 + (m - (i + 1)) = m by omega, decide_eq_true g2] at this
      cases this⟩
    rw [this, h4]
  · have : kOf l i = none := kOf_none.2 fun k hk ⟨g1, g2⟩ => by
      have := h3 (k - (i + 1)) (by omega)
      rw [show i + 1 + (k - (i + 1)) = k by omega, decide_eq_true g2] at this
      cases this
    rw [this, h4]
theorem tidy_l1 (list : List (List Int)) {l : List (List Int)} (hv : ∀ b ∈ l, VB b) (hl : l.length ≤ 16) :
    loopOk (drift_Tidy_l1_step list [.r l]) (drift_Tidy_l1_init list [.r l]) ∧
    ((∃ i l', join1 l = some l' ∧ drift_Tidy_l1 list [.r l] = (2, [.i i, .r l'])) ∨ (join1 l = none ∧ drift_Tidy_l1 list [.r l] = (4, [.i l.length]))) := by
  have key := loop_search (step := drift_Tidy_l1_step list [.r l]) l.length (fun i => (kOf l i).isSome) (fun i => [.i i]) (fun i => [.i i, .r (joinAt l i ((kOf l i).getD 0))]) 1 3 [.i l.length]
    (fun i hi => by
      obtain ⟨k1, k2⟩ := tidy_l2 list hv hl hi
      unfold drift_Tidy_l1_step
      rw [guardP_pos (p := loopOk _ _) k1, k2]
      simp only [gi_z, gr_z, dlt hi, guardP_pos (inR_of hi), wrap_succ (show i < 4611686018427387904 by omega)]
      cases hk : kOf l i with
      | none => rfl
      | some k => rfl)
    (by
      unfold drift_Tidy_l1_step
      simp only [gi_z, gr_z, dnlt])
  have e0 : drift_Tidy_l1_init list [.r l] = [.i ((0 : Nat) : Int)] := rfl
  unfold drift_Tidy_l1
  rw [e0]
  refine ⟨key.1, ?_⟩
  rcases key.2 with ⟨i, h1, h2, h3, h4⟩ | ⟨h3, h4⟩
  · have hi : iOf l = some i := List.find?_range_eq_some.2 ⟨h2, List.mem_range.2 h1, fun j hj => by rw [h3 j hj]; rfl⟩
    refine .inl ⟨i, joinAt l i ((kOf l i).getD 0), ?_, h4⟩
    unfold join1
    rw [hi]
    cases hk : kOf l i with
    | none => rw [hk] at h2; cases h2
    | some k => simp only [Option.bind_some, hk]; rfl
  · have hi : iOf l = none := List.find?_range_eq_none.2 fun j hj => by rw [h3 j hj]; rfl
    refine .inr ⟨?_, h4⟩
    unfold join1
    rw [hi]
    rfl
theorem tidy_l0 (list : List (List Int)) : ∀ (n : Nat) (l : List (List Int)), 0 < l.length → (∀ b ∈ l, VB b) → l.length ≤ 16 → l.length ≤ n + 1 → ∃ m, iterO (drift_Tidy_l0_step list) m [.r l] = some (3, [.r (tidyN n l)]) := by
  have out : ∀ l : List (List Int), (∀ b ∈ l, VB b) → l.length ≤ 16 → join1 l = none → iterO (drift_Tidy_l0_step list) 1 [.r l] = some (3, [.r l]) := by
    intro l hv hl hj
    obtain ⟨k1, k2⟩ := tidy_l1 list hv hl
    refine iter_out (m := 2) ?_
    unfold drift_Tidy_l0_step
    rw [guardP_pos k1]
    rcases k2 with ⟨i, l', h1, h2⟩ | ⟨h1, h2⟩
    · rw [hj] at h1; cases h1
    · rw [h2]; rfl
  intro n
  induction n with
  | zero =>
    intro l hp hv hl hn
    exact ⟨1, out l hv hl (join1_of_none fun i k hik hk => by omega)⟩
  | succ n ih =>
    intro l hp hv hl hn
    unfold tidyN
    cases hj : join1 l with
    | none => exact ⟨1, out l hv hl hj⟩
    | some l' =>
      obtain ⟨i, k, g1, g2, g3, rfl⟩ := join1_some hj
      have t := tid_join hv g1 g2 g3
      have hlen := joinAt_length (l := l) (i := i) g2
      obtain ⟨m, hm⟩ := ih _ t.pos t.vb (by omega) (by omega)
      refine ⟨m + 1, iter_next ?_ hm⟩
      obtain ⟨k1, k2⟩ := tidy_l1 list hv hl
      unfold drift_Tidy_l0_step
      rw [guardP_pos k1]
      rcases k2 with ⟨i', l', h1, h2⟩ | ⟨h1, h2⟩
      · rw [hj] at h1
        cases h1
        rw [h2]; rfl
      · rw [hj] at h1; cases h1
def tidE (l : List (List Int)) : Int := if VL l then 0 else 1
def tidL (l : List (List Int)) : List (List Int) := if VL l then tid l else []
theorem tidy_is (l : List (List Int)) (h4 : ∀ b ∈ l, b.length = 4) : drift_Tidy_pre l ∧ drift_Tidy_1 l = tidE l ∧ drift_Tidy_0 l = tidL l := by
  have hv := valid_is l
  unfold drift_Tidy_pre drift_Tidy_1 drift_Tidy_0 tidE tidL
  rw [hv.2]
  by_cases hl : VL l
  · rw [decide_eq_true hl, if_pos hl, if_pos hl]
    obtain ⟨m, hm⟩ := tidy_l0 l l.length l hl.1 hl.2.2 hl.2.1 (Nat.le_succ _)
    have e0 : drift_Tidy_l0_init l = [.r l] := rfl
    obtain ⟨k1, k2⟩ := loop_is hm
    have k3 : drift_Tidy_l0 l = (3, [.r (tidyN l.length l)]) := by unfold drift_Tidy_l0; rw [e0]; exact k2
    have t := tidyN_tid l.length l hl.1 hl.2.2
    rw [k3]
    refine ⟨⟨hv.1, fun _ => ⟨⟨fun h => ⟨trivial, by rw [h]; rfl, trivial⟩, ?_⟩, k1, ?_, ?_⟩⟩, rfl, rfl⟩
    · have := hl.2.1
      unfold fitsA; simp [maxLen]; omega
    · intro h
      have h : tidyN l.length l = [] := h
      have := t.pos
      rw [h] at this
      simp at this
    · have h1 := t.le
      have := hl.2.1
      show (tidyN l.length l).length < _
      omega
  · rw [decide_eq_false hl, if_neg hl, if_neg hl]
    exact ⟨⟨hv.1, fun h => by cases h⟩, rfl, rfl⟩
end Go.Proofs.YtddfnokjnafdpaaGreat

/-!
  The loops of drift.Better.
-/
set_option linter.unusedVariables false
set_option maxRecDepth 100000
namespace Go.Proofs.YtddfnokjnafdpaaGreat
open Go Go.Sy

theorem fits_le {b n : Nat} (hb : b ≤ 100) (hn : n ≤ 1000) : fitsA b n := by
  unfold fitsA
  have := Nat.mul_le_mul hn hb
  simp only [maxLen]
  omega
def endsR (l : List (List Int)) : List (List Int) := l.flatMap fun c => [[c.getD 0 0], [c.getD 1 0]]
theorem endsR_len (l : List (List Int)) : (endsR l).length = 2 * l.length := by
  induction l with
  | nil => rfl
  | cons c l ih =>
    have : (endsR (c :: l)).length = 2 + (endsR l).length := by simp [endsR]; omega
    rw [this, ih, List.length_cons]; omega
theorem nums_endsR (l : List (List Int)) : nums (endsR l) = endsL l := by
  induction l with
  | nil => rfl
  | cons c l ih =>
    show c.getD 0 0 :: c.getD 1 0 :: nums (endsR l) = c.getD 0 0 :: c.getD 1 0 :: endsL l
    rw [ih]
theorem bet_l0 (a b : List (List Int)) (ha : a.length ≤ 60) (hb : b.length ≤ 60) : loopOk (drift_Better_l0_step a b) (drift_Better_l0_init a b) ∧ gr (drift_Better_l0 a b).snd 1 = endsR (a ++ b) := by
  have hl : ([] ++ a ++ b).length ≤ 120 := by simp; omega
  have key := loop_fold (σ := Unit) (step := drift_Better_l0_step a b) ([] ++ a ++ b).length (fun i _ => [.i i, .r (endsR (([] ++ a ++ b).take i))]) (fun _ s => s) (fun _ _ => True) 1 (fun _ => [.i ([] ++ a ++ b).length, .r (endsR ([] ++ a ++ b))])
    (fun _ _ _ _ => trivial)
    (fun i s hi _ => by
      have e : endsR (([] ++ a ++ b).take (i + 1)) = endsR (([] ++ a ++ b).take i) ++ drift_Better_s0 a b [.i i, .r (endsR (([] ++ a ++ b).take i))] := by
        unfold endsR drift_Better_s0
        rw [take_succ' hi, List.flatMap_append]
        simp only [gi_z, Int.toNat_natCast, List.flatMap_cons, List.flatMap_nil, List.append_nil]
      have e2 : (drift_Better_s0 a b [.i i, .r (endsR (([] ++ a ++ b).take i))]).length = 2 := rfl
      have e3 : (endsR (([] ++ a ++ b).take i)).length ≤ 240 := by rw [endsR_len, List.length_take]; omega
      unfold drift_Better_l0_step
      rw [e]
      simp only [gi_z, gr_1, gr_z, dlt hi, guardP_pos (inR_of hi), wrap_succ (show i < 4611686018427387904 by omega)]
      rw [guardP_pos (fits_le (by decide) (by rw [e2]; omega))])
    (fun s _ => by
      unfold drift_Better_l0_step
      simp only [gi_z, gr_1, gr_z, dnlt, List.take_length]) (s := ()) trivial
  refine ⟨key.1, ?_⟩
  have e : drift_Better_l0 a b = _ := key.2.1
  rw [e]
  simp only [gr_1, gr_z]
  rfl
/-- The times, as a row. -/
noncomputable def tR (a b : List (List Int)) : List (List Int) := compNums (sortNums (gr (drift_Better_l0 a b).snd 1))
theorem getD_ofNums (l : List Int) (i : Nat) : ((ofNums l).getD i []).getD 0 0 = l.getD i 0 := by
  unfold ofNums
  by_cases h : i < l.length
  · simp [List.getD_eq_getElem?_getD, List.getElem?_eq_getElem h]
  · simp [List.getD_eq_getElem?_getD, List.getElem?_eq_none (show l.length ≤ i by omega)]
theorem tR_is (a b : List (List Int)) (ha : a.length ≤ 60) (hb : b.length ≤ 60) : (∀ i, i < (bT a b).length → ((tR a b).getD i []).getD 0 0 = (bT a b).getD i 0) ∧ compLen (sortNums (gr (drift_Better_l0 a b).snd 1)) = ((bT a b).length : Int) ∧ (bT a b).length ≤ (tR a b).length ∧ (bT a b).length ≤ 240 := by
  have h0 := (bet_l0 a b ha hb).2
  have e : dd none (nums (sortNums (gr (drift_Better_l0 a b).snd 1))) = bT a b := by
    rw [h0]; unfold sortNums bT; rw [nums_ofNums, nums_endsR]
  have hlen : (bT a b).length ≤ (nums (sortNums (gr (drift_Better_l0 a b).snd 1))).length := by rw [← e]; exact dd_length _ _
  have h240 : (nums (sortNums (gr (drift_Better_l0 a b).snd 1))).length ≤ 240 := by
    rw [h0]; unfold sortNums
    rw [nums_ofNums, isort_length, nums_endsR]
    have : (endsL (a ++ b)).length = (endsR (a ++ b)).length := by rw [← nums_endsR]; simp [nums]
    rw [this, endsR_len, List.length_append]; omega
  refine ⟨fun i hi => ?_, ?_, ?_, by omega⟩
  · unfold tR compNums
    rw [getD_ofNums, e]
    simp [List.getD_eq_getElem?_getD, List.getElem?_append_left hi]
  · unfold compLen; rw [e]
  · unfold tR compNums
    rw [e]
    simp [ofNums]
/-- A current has some of the minutes from f to u. -/
def cv (f u : Int) (c : List Int) : Bool := decide (min (c.getD 1 0) u - max (c.getD 0 0) f > 0)
theorem el6 {el : List Int} (h : el.length = 6) : [el.getD 0 0, el.getD 1 0, el.getD 2 0, el.getD 3 0, el.getD 4 0, el.getD 5 0] = el := by
  match el, h with
  | [_, _, _, _, _, _], _ => rfl
theorem wrapD {x y z w : Int} (h1 : 0 ≤ x ∧ x ≤ 10000000) (h2 : 0 ≤ y ∧ y ≤ 10000000) (h3 : 0 ≤ z ∧ z ≤ 10000000) (h4 : 0 ≤ w ∧ w ≤ 10000000) : IntKind.i64.wrap (imin x y - imax z w) = min x y - max z w := by
  rw [imin_min, imax_max]
  exact i64_wrap (by omega)
section
variable {a b : List (List Int)} (ha : VC a) (hb : VC b) (ha6 : ∀ c ∈ a, c.length = 6) (hb6 : ∀ c ∈ b, c.length = 6)
theorem co_bd {l : List (List Int)} (hv : VC l) {c : List Int} (hc : c ∈ l) : (0 ≤ c.getD 1 0 ∧ c.getD 1 0 ≤ 10000000) ∧ (0 ≤ c.getD 0 0 ∧ c.getD 0 0 ≤ 10000000) := by
  have := CL_mem hv.1 c hc
  unfold CO at this
  omega
include ha hb in
theorem tR_at (i : Nat) (h1 : 1 ≤ i) (h : i < (bT a b).length) (v : Int) (r : List (List Int)) :
    ((tR a b).getD (shI none (gi [.i v, .i i, .r r] 1)).toNat []).getD 0 0 = (bT a b).getD i 0 ∧ ((tR a b).getD (shI none (IntKind.i64.wrap (gi [.i v, .i i, .r r] 1 - (1 : Int)))).toNat []).getD 0 0 = (bT a b).getD (i - 1) 0 := by
  obtain ⟨t1, t2, t3, t4⟩ := tR_is a b ha.2 hb.2
  have e : IntKind.i64.wrap ((i : Int) - 1) = ((i - 1 : Nat) : Int) := by rw [i64_wrap (by omega)]; omega
  simp only [gi_1, gi_z, shI, e, Int.toNat_natCast]
  exact ⟨t1 i h, t1 (i - 1) (by omega)⟩
theorem bT_get {i : Nat} (h : i < (bT a b).length) : (bT a b).getD i 0 ∈ bT a b := by
  rw [List.getD_eq_getElem?_getD, List.getElem?_eq_getElem h]
  exact List.getElem_mem h
include ha hb ha6 in
theorem bet_l2 (i : Nat) (h1 : 1 ≤ i) (h : i < (bT a b).length) (v : Int) (r : List (List Int)) :
    loopOk (drift_Better_l2_step a b [.i v, .i i, .r r]) (drift_Better_l2_init a b [.i v, .i i, .r r]) ∧ gr (drift_Better_l2 a b [.i v, .i i, .r r]).snd 1 = a.filter (cv ((bT a b).getD (i - 1) 0) ((bT a b).getD i 0)) := by
  obtain ⟨e1, e2⟩ := tR_at ha hb i h1 h v r
  unfold tR at e1 e2
  have b1 := bT_bd ha hb (bT_get h)
  have b2 := bT_bd ha hb (bT_get (a := a) (b := b) (i := i - 1) (by omega))
  have h60 := ha.2
  have key := loop_fold (σ := Unit) (step := drift_Better_l2_step a b [.i v, .i i, .r r]) a.length (fun j _ => [.i j, .r ((a.take j).filter (cv ((bT a b).getD (i - 1) 0) ((bT a b).getD i 0)))]) (fun _ s => s) (fun _ _ => True) 2 (fun _ => [.i a.length, .r (a.filter (cv ((bT a b).getD (i - 1) 0) ((bT a b).getD i 0)))])
    (fun _ _ _ _ => trivial)
    (fun j s hj _ => by
      have hm := getD_mem hj
      have e4 : drift_Better_s4 a b [.i j, .r ((a.take j).filter (cv ((bT a b).getD (i - 1) 0) ((bT a b).getD i 0)))] = a.getD j [] := by
        unfold drift_Better_s4 drift_Better_s3
        simp only [gi_z, Int.toNat_natCast]
        exact el6 (ha6 _ hm)
      obtain ⟨c1, c0⟩ := co_bd ha hm
      unfold drift_Better_l2_step
      rw [e4]
      unfold drift_Better_s2 drift_Better_s1
      rw [e1, e2]
      simp only [gi_z, gr_1, gr_z, dlt hj, guardP_pos (inR_of hj), Int.toNat_natCast, wrap_succ (show j < 4611686018427387904 by omega), wrapD c1 b1 c0 b2]
      have hlen : ((a.take j).filter (cv ((bT a b).getD (i - 1) 0) ((bT a b).getD i 0))).length ≤ 60 := Nat.le_trans (List.length_filter_le _ _) (by rw [List.length_take]; omega)
      rw [guardP_pos (fits_le (by decide) (by simp only [List.length_cons, List.length_nil]; omega)), take_succ' hj, List.filter_append]
      have ef : [a.getD j []].filter (cv ((bT a b).getD (i - 1) 0) ((bT a b).getD i 0)) = bif cv ((bT a b).getD (i - 1) 0) ((bT a b).getD i 0) (a.getD j []) then [a.getD j []] else [] := by
        rw [List.filter_cons]
        cases cv ((bT a b).getD (i - 1) 0) ((bT a b).getD i 0) (a.getD j []) <;> rfl
      rw [ef]
      unfold cv
      cases decide (min ((a.getD j []).getD 1 0) ((bT a b).getD i 0) - max ((a.getD j []).getD 0 0) ((bT a b).getD (i - 1) 0) > 0) with
      | true => rfl
      | false => simp only [cond_false, List.append_nil]; rfl)
    (fun s _ => by
      unfold drift_Better_l2_step
      simp only [gi_z, gr_1, gr_z, dnlt, List.take_length]) (s := ()) trivial
  refine ⟨key.1, ?_⟩
  have e : drift_Better_l2 a b [.i v, .i i, .r r] = _ := key.2.1
  rw [e]
  simp only [gr_1, gr_z]
include ha hb ha6 hb6 in
theorem bet_l3 (i : Nat) (h1 : 1 ≤ i) (h : i < (bT a b).length) (v : Int) (r : List (List Int)) :
    loopOk (drift_Better_l3_step a b [.i v, .i i, .r r]) (drift_Better_l3_init a b [.i v, .i i, .r r]) ∧ gr (drift_Better_l3 a b [.i v, .i i, .r r]).snd 1 = a.filter (cv ((bT a b).getD (i - 1) 0) ((bT a b).getD i 0)) ++ b.filter (cv ((bT a b).getD (i - 1) 0) ((bT a b).getD i 0)) := by
  obtain ⟨e1, e2⟩ := tR_at ha hb i h1 h v r
  unfold tR at e1 e2
  have b1 := bT_bd ha hb (bT_get h)
  have b2 := bT_bd ha hb (bT_get (a := a) (b := b) (i := i - 1) (by omega))
  have h60 := ha.2
  have hb60 := hb.2
  have e2' := (bet_l2 ha hb ha6 i h1 h v r).2
  generalize hF : a.filter (cv ((bT a b).getD (i - 1) 0) ((bT a b).getD i 0)) = F at e2'
  have hFl : F.length ≤ 60 := by rw [← hF]; exact Nat.le_trans (List.length_filter_le _ _) h60
  have key := loop_fold (σ := Unit) (step := drift_Better_l3_step a b [.i v, .i i, .r r]) b.length (fun j _ => [.i j, .r (F ++ (b.take j).filter (cv ((bT a b).getD (i - 1) 0) ((bT a b).getD i 0)))]) (fun _ s => s) (fun _ _ => True) 2 (fun _ => [.i b.length, .r (F ++ b.filter (cv ((bT a b).getD (i - 1) 0) ((bT a b).getD i 0)))])
    (fun _ _ _ _ => trivial)
    (fun j s hj _ => by
      have hm := getD_mem hj
      have e4 : drift_Better_s8 a b [.i j, .r (F ++ (b.take j).filter (cv ((bT a b).getD (i - 1) 0) ((bT a b).getD i 0)))] = b.getD j [] := by
        unfold drift_Better_s8 drift_Better_s7
        simp only [gi_z, Int.toNat_natCast]
        exact el6 (hb6 _ hm)
      obtain ⟨c1, c0⟩ := co_bd hb hm
      unfold drift_Better_l3_step
      rw [e4]
      unfold drift_Better_s6 drift_Better_s5
      rw [e1, e2]
      simp only [gi_z, gr_1, gr_z, dlt hj, guardP_pos (inR_of hj), Int.toNat_natCast, wrap_succ (show j < 4611686018427387904 by omega), wrapD c1 b1 c0 b2]
      have hlen : ((b.take j).filter (cv ((bT a b).getD (i - 1) 0) ((bT a b).getD i 0))).length ≤ 60 := Nat.le_trans (List.length_filter_le _ _) (by rw [List.length_take]; omega)
      rw [guardP_pos (fits_le (by decide) (by simp only [List.length_cons, List.length_nil, List.length_append]; omega)), take_succ' hj, List.filter_append]
      have ef : [b.getD j []].filter (cv ((bT a b).getD (i - 1) 0) ((bT a b).getD i 0)) = bif cv ((bT a b).getD (i - 1) 0) ((bT a b).getD i 0) (b.getD j []) then [b.getD j []] else [] := by
        rw [List.filter_cons]
        cases cv ((bT a b).getD (i - 1) 0) ((bT a b).getD i 0) (b.getD j []) <;> rfl
      rw [ef]
      unfold cv
      cases decide (min ((b.getD j []).getD 1 0) ((bT a b).getD i 0) - max ((b.getD j []).getD 0 0) ((bT a b).getD (i - 1) 0) > 0) with
      | true => simp only [cond_true, List.append_assoc]; rfl
      | false => simp only [cond_false, List.append_nil]; rfl)
    (fun s _ => by
      unfold drift_Better_l3_step
      simp only [gi_z, gr_1, gr_z, dnlt, List.take_length]) (s := ()) trivial
  have e0 : drift_Better_l3_init a b [.i v, .i i, .r r] = [.i ((0 : Nat) : Int), .r (F ++ (b.take 0).filter (cv ((bT a b).getD (i - 1) 0) ((bT a b).getD i 0)))] := by
    unfold drift_Better_l3_init
    rw [e2']
    simp
  unfold drift_Better_l3
  rw [e0]
  refine ⟨key.1, ?_⟩
  rw [key.2.1]
  simp only [gr_1, gr_z]
end
theorem filter_at {l : List (List Int)} {f u : Int} : ∀ (e : Int), CL e l → (∀ c ∈ l, cv f u c = true ↔ c.getD 0 0 ≤ f ∧ f < c.getD 1 0) → l.filter (cv f u) = (atT l f).toList := by
  induction l with
  | nil => intro e _ _; rfl
  | cons c l ih =>
    intro e hc h
    have hc0 := h c List.mem_cons_self
    have ih := ih (c.getD 1 0) hc.2 fun d hd => h d (List.mem_cons_of_mem _ hd)
    rw [List.filter_cons, atT_cons]
    by_cases hh : c.getD 0 0 ≤ f ∧ f < c.getD 1 0
    · rw [if_pos (hc0.2 hh), if_pos hh, ih, (sum_after (k := 0) _ _ hh.2 hc.2).2.2]
      rfl
    · rw [if_neg (fun k => hh (hc0.1 k)), if_neg hh, ih]
theorem cv_at {a b : List (List Int)} {p : Int × Int} (hp : p ∈ prs (bT a b)) {l : List (List Int)} (hv : VC l) (hl : ∀ c ∈ l, c ∈ a ∨ c ∈ b) : l.filter (cv p.1 p.2) = (atT l p.1).toList := by
  obtain ⟨_, _, h3, h4⟩ := prs_mem (bT_rise a b) hp
  refine filter_at 0 hv.1 fun c hc => ?_
  have e0 := h4 (c.getD 0 0) (mem_bT.2 ⟨c, hl c hc, .inl rfl⟩)
  have e1 := h4 (c.getD 1 0) (mem_bT.2 ⟨c, hl c hc, .inr rfl⟩)
  have := CL_mem hv.1 c hc
  unfold CO at this
  unfold cv
  rw [decide_eq_true_eq]
  omega
theorem prs_get : ∀ (l : List Int) (i : Nat), i + 1 < l.length → (prs l)[i]? = some (l.getD i 0, l.getD (i + 1) 0)
  | [], i, h => by simp at h
  | [_], i, h => by simp at h
  | x :: y :: r, 0, h => rfl
  | x :: y :: r, i + 1, h => by
    have := prs_get (y :: r) i (by simpa using h)
    simpa [prs] using this
theorem prs_len : ∀ l : List Int, (prs l).length = l.length - 1
  | [] => rfl
  | [_] => rfl
  | x :: y :: r => by
    have := prs_len (y :: r)
    simp only [prs, List.length_cons] at *
    omega
theorem bAll_append (a b : List (List Int)) : ∀ l l', bAll a b (l ++ l') = bAll a b l ++ bAll a b l'
  | [], l' => rfl
  | p :: l, l' => by
    show (bRow _ _ _ _).toList ++ bAll a b (l ++ l') = _
    rw [bAll_append a b l l', ← List.append_assoc]
    rfl
theorem bAll_len (a b : List (List Int)) : ∀ l, (bAll a b l).length ≤ l.length
  | [] => Nat.le_refl _
  | p :: l => by
    have := bAll_len a b l
    unfold bAll
    cases bRow (atT a p.1) (atT b p.1) p.1 p.2 <;> simp <;> omega
theorem meet_spans {x y : List Int} {e e' : Int} (hx : CO e x) (hy : CO e' y) :
    span_Meet_2 (x.getD 2 0) (x.getD 3 0) (y.getD 2 0) (y.getD 3 0) = (if max (x.getD 2 0) (y.getD 2 0) ≤ min (x.getD 3 0) (y.getD 3 0) then 0 else 4) ∧
    (max (x.getD 2 0) (y.getD 2 0) ≤ min (x.getD 3 0) (y.getD 3 0) → span_Meet_0 (x.getD 2 0) (x.getD 3 0) (y.getD 2 0) (y.getD 3 0) = max (x.getD 2 0) (y.getD 2 0) ∧ span_Meet_1 (x.getD 2 0) (x.getD 3 0) (y.getD 2 0) (y.getD 3 0) = min (x.getD 3 0) (y.getD 3 0)) ∧
    span_Meet_2 (x.getD 4 0) (x.getD 5 0) (y.getD 4 0) (y.getD 5 0) = (if max (x.getD 4 0) (y.getD 4 0) ≤ min (x.getD 5 0) (y.getD 5 0) then 0 else 4) ∧
    (max (x.getD 4 0) (y.getD 4 0) ≤ min (x.getD 5 0) (y.getD 5 0) → span_Meet_0 (x.getD 4 0) (x.getD 5 0) (y.getD 4 0) (y.getD 5 0) = max (x.getD 4 0) (y.getD 4 0) ∧ span_Meet_1 (x.getD 4 0) (x.getD 5 0) (y.getD 4 0) (y.getD 5 0) = min (x.getD 5 0) (y.getD 5 0)) := by
  unfold CO at hx hy
  obtain ⟨a1, a2⟩ := meet_eq (s := x.getD 2 0) (t := x.getD 3 0) (x := y.getD 2 0) (y := y.getD 3 0) (by omega) (by omega)
  obtain ⟨b1, b2⟩ := meet_eq (s := x.getD 4 0) (t := x.getD 5 0) (x := y.getD 4 0) (y := y.getD 5 0) (by omega) (by omega)
  exact ⟨a1, a2, b1, b2⟩
section
variable {a b : List (List Int)} (ha : VC a) (hb : VC b) (ha6 : ∀ c ∈ a, c.length = 6) (hb6 : ∀ c ∈ b, c.length = 6)
include ha hb ha6 hb6 in
theorem bet_l1 : loopOk (drift_Better_l1_step a b) (drift_Better_l1_init a b) ∧
    ((bLie a b ∧ drift_Better_l1 a b = (2, [])) ∨ (¬ bLie a b ∧ ∃ n, drift_Better_l1 a b = (4, [.i 0, .i n, .r (bAll a b (prs (bT a b)))]))) := by
  obtain ⟨t1, t2, t3, t4⟩ := tR_is a b ha.2 hb.2
  have hpl := prs_len (bT a b)
  have key := loop_search (step := drift_Better_l1_step a b) ((bT a b).length - 1) (fun i => !decide (bOk (atT a ((bT a b).getD i 0)) (atT b ((bT a b).getD i 0)))) (fun i => [.i 0, .i ((i + 1 : Nat) : Int), .r (bAll a b ((prs (bT a b)).take i))]) (fun _ => []) 1 3 [.i 0, .i ((((bT a b).length - 1) + 1 : Nat) : Int), .r (bAll a b (prs (bT a b)))]
    (fun i hi => by
      have hlt : i + 1 < (bT a b).length := by omega
      have hp := prs_get (bT a b) i hlt
      have hmem : ((bT a b).getD i 0, (bT a b).getD (i + 1) 0) ∈ prs (bT a b) := List.mem_of_getElem? hp
      have hti : (prs (bT a b)).take (i + 1) = (prs (bT a b)).take i ++ [((bT a b).getD i 0, (bT a b).getD (i + 1) 0)] := by
        have hh : i < (prs (bT a b)).length := by rw [hpl]; omega
        rw [List.take_succ_eq_append_getElem hh]
        rw [List.getElem?_eq_getElem hh] at hp
        rw [Option.some.inj hp]
      generalize hr : bAll a b ((prs (bT a b)).take i) = r
      have hrl : r.length ≤ 240 := by
        rw [← hr]
        refine Nat.le_trans (bAll_len a b _) ?_
        rw [List.length_take, hpl]; omega
      obtain ⟨q1, q2⟩ := bet_l2 ha hb ha6 (i + 1) (by omega) hlt 0 r
      obtain ⟨q3, q4⟩ := bet_l3 ha hb ha6 hb6 (i + 1) (by omega) hlt 0 r
      obtain ⟨w1, w2⟩ := tR_at ha hb (i + 1) (by omega) hlt 0 r
      have fa := cv_at hmem ha (fun c hc => .inl hc)
      have fb := cv_at hmem hb (fun c hc => .inr hc)
      simp only [] at fa fb
      rw [Nat.add_sub_cancel, fa, fb] at q4
      rw [Nat.add_sub_cancel] at w2
      rw [hti, bAll_append, hr]
      have eW : IntKind.i64.wrap (((i + 1 : Nat) : Int) - 1) = (i : Int) := by rw [i64_wrap (by omega)]; omega
      unfold drift_Better_l1_step
      rw [guardP_pos (p := loopOk (drift_Better_l2_step a b _) _) q1, guardP_pos (p := loopOk (drift_Better_l3_step a b _) _) q3, t2]
      have w1' := w1
      have w2' := w2
      unfold tR at w1' w2' t3
      unfold drift_Better_s16 drift_Better_s15
      unfold drift_Better_s9 drift_Better_s10 drift_Better_s11 drift_Better_s12 drift_Better_s13 drift_Better_s14
      rw [w1', w2', q4]
      have hd : decide (gi [.i 0, .i ((i + 1 : Nat) : Int), .r r] 1 < ((((bT a b).length : Int).toNat - loN none : Nat) : Int)) = true := by
        simp only [gi_1, gi_z, loN, Int.toNat_natCast]
        rw [decide_eq_true_eq]; omega
      rw [hd]
      simp only [gi_1, gi_2, gi_z, gr_1, gr_2, gr_z, eW, shI, loN, cond_true]
      rw [guardP_pos ⟨by omega, by omega, by omega⟩, guardP_pos ⟨by omega, by omega⟩, guardP_pos ⟨by omega, by omega, by omega⟩, guardP_pos ⟨by omega, by omega⟩]
      rw [wrap_succ (show i + 1 < 4611686018427387904 by omega)]
      rw [guardP_pos (p := fitsA 48 _) (fits_le (by decide) (by simp only [List.length_cons, List.length_nil]; omega))]
      show _ = bif !decide (bOk (atT a ((bT a b).getD i 0)) (atT b ((bT a b).getD i 0))) then some (1 + 1, ([] : List U)) else some (0, [.i 0, .i ((i + 1 + 1 : Nat) : Int), .r (r ++ ((bRow (atT a ((bT a b).getD i 0)) (atT b ((bT a b).getD i 0)) ((bT a b).getD i 0) ((bT a b).getD (i + 1) 0)).toList ++ []))])
      rw [List.append_nil]
      have ca := fun x h => atT_co ha (t := (bT a b).getD i 0) x h
      have cb := fun x h => atT_co hb (t := (bT a b).getD i 0) x h
      cases hA : atT a ((bT a b).getD i 0) with
      | none =>
        cases hB : atT b ((bT a b).getD i 0) with
        | none =>
          rw [decide_eq_true (show bOk none none from trivial)]
          simp only [Option.toList, List.append_nil, bRow]
          rfl
        | some d =>
          obtain ⟨e, hd⟩ := cb d hB
          obtain ⟨m1, m2, m3, m4⟩ := meet_spans hd hd
          have hd' := hd
          unfold CO at hd'
          have k1 : max (d.getD 2 0) (d.getD 2 0) ≤ min (d.getD 3 0) (d.getD 3 0) := by omega
          have k2 : max (d.getD 4 0) (d.getD 4 0) ≤ min (d.getD 5 0) (d.getD 5 0) := by omega
          rw [if_pos k1] at m1
          rw [if_pos k2] at m3
          obtain ⟨m5, m6⟩ := m2 k1
          obtain ⟨m7, m8⟩ := m4 k2
          rw [decide_eq_true (show bOk none (some d) from trivial)]
          have ew : IntKind.i64.wrap (((1 : Nat) : Int) - 1) = 0 := by rw [i64_wrap (by omega)]; rfl
          simp only [Option.toList, List.nil_append, bRow, List.length_cons, List.length_nil, Nat.zero_add, ew, Int.toNat_zero, List.getD_cons_zero, m1, m3, m5, m6, m7, m8]
          rw [guardP_pos ⟨by omega, by simp⟩, guardP_pos ⟨by omega, by simp⟩, guardP_pos ⟨by omega, by simp⟩, guardP_pos ⟨by omega, by simp⟩, guardP_pos ⟨by omega, by simp⟩, guardP_pos ⟨by omega, by simp⟩, guardP_pos ⟨by omega, by simp⟩, guardP_pos ⟨by omega, by simp⟩]
          simp only [Int.max_self, Int.min_self]
          rfl
      | some c =>
        obtain ⟨e, hc⟩ := ca c hA
        cases hB : atT b ((bT a b).getD i 0) with
        | none =>
          obtain ⟨m1, m2, m3, m4⟩ := meet_spans hc hc
          have hd' := hc
          unfold CO at hd'
          have k1 : max (c.getD 2 0) (c.getD 2 0) ≤ min (c.getD 3 0) (c.getD 3 0) := by omega
          have k2 : max (c.getD 4 0) (c.getD 4 0) ≤ min (c.getD 5 0) (c.getD 5 0) := by omega
          rw [if_pos k1] at m1
          rw [if_pos k2] at m3
          obtain ⟨m5, m6⟩ := m2 k1
          obtain ⟨m7, m8⟩ := m4 k2
          rw [decide_eq_true (show bOk (some c) none from trivial)]
          have ew : IntKind.i64.wrap (((1 : Nat) : Int) - 1) = 0 := by rw [i64_wrap (by omega)]; rfl
          simp only [Option.toList, List.append_nil, bRow, List.length_cons, List.length_nil, Nat.zero_add, ew, Int.toNat_zero, List.getD_cons_zero, m1, m3, m5, m6, m7, m8]
          rw [guardP_pos ⟨by omega, by simp⟩, guardP_pos ⟨by omega, by simp⟩, guardP_pos ⟨by omega, by simp⟩, guardP_pos ⟨by omega, by simp⟩, guardP_pos ⟨by omega, by simp⟩, guardP_pos ⟨by omega, by simp⟩, guardP_pos ⟨by omega, by simp⟩, guardP_pos ⟨by omega, by simp⟩]
          simp only [Int.max_self, Int.min_self]
          rfl
        | some d =>
          obtain ⟨e', hd⟩ := cb d hB
          obtain ⟨m1, m2, m3, m4⟩ := meet_spans hc hd
          have ew : IntKind.i64.wrap (((1 + 1 : Nat) : Int) - 1) = 1 := by rw [i64_wrap (by omega)]; rfl
          simp only [Option.toList, List.cons_append, List.nil_append, bRow, List.length_cons, List.length_nil, Nat.zero_add, ew, Int.toNat_zero, Int.toNat_one, List.getD_cons_zero, List.getD_cons_succ, m1, m3]
          rw [guardP_pos ⟨by omega, by simp⟩, guardP_pos ⟨by omega, by simp⟩, guardP_pos ⟨by omega, by simp⟩, guardP_pos ⟨by omega, by simp⟩, guardP_pos ⟨by omega, by simp⟩, guardP_pos ⟨by omega, by simp⟩, guardP_pos ⟨by omega, by simp⟩, guardP_pos ⟨by omega, by simp⟩]
          by_cases k1 : max (c.getD 2 0) (d.getD 2 0) ≤ min (c.getD 3 0) (d.getD 3 0)
          · by_cases k2 : max (c.getD 4 0) (d.getD 4 0) ≤ min (c.getD 5 0) (d.getD 5 0)
            · obtain ⟨m5, m6⟩ := m2 k1
              obtain ⟨m7, m8⟩ := m4 k2
              rw [decide_eq_true (show bOk (some c) (some d) from ⟨k1, k2⟩), if_pos k1, if_pos k2, m5, m6, m7, m8]
              rfl
            · rw [decide_eq_false (show ¬ bOk (some c) (some d) from fun h => k2 h.2), if_pos k1, if_neg k2]
              rfl
          · rw [decide_eq_false (show ¬ bOk (some c) (some d) from fun h => k1 h.1), if_neg k1]
            by_cases k2 : max (c.getD 4 0) (d.getD 4 0) ≤ min (c.getD 5 0) (d.getD 5 0)
            · rw [if_pos k2]; rfl
            · rw [if_neg k2]; rfl)
    (by
      have hd : decide (gi [.i 0, .i ((((bT a b).length - 1) + 1 : Nat) : Int), .r (bAll a b ((prs (bT a b)).take ((bT a b).length - 1)))] 1 < (((compLen (sortNums (gr (drift_Better_l0 a b).snd 1))).toNat - loN none : Nat) : Int)) = false := by
        rw [t2]
        simp only [gi_1, gi_z, loN, Int.toNat_natCast]
        rw [decide_eq_false_iff_not]; omega
      unfold drift_Better_l1_step
      rw [hd]
      simp only [cond_false, gi_1, gi_z, gr_1, gr_2, gr_z]
      rw [← hpl, List.take_length])
  have e0 : drift_Better_l1_init a b = [.i 0, .i ((0 + 1 : Nat) : Int), .r (bAll a b ((prs (bT a b)).take 0))] := rfl
  unfold drift_Better_l1
  rw [e0]
  refine ⟨key.1, ?_⟩
  rcases key.2 with ⟨i, g1, g2, g3, g4⟩ | ⟨g3, g4⟩
  · refine .inl ⟨⟨_, List.mem_of_getElem? (prs_get (bT a b) i (by omega)), by simpa using g2⟩, g4⟩
  · refine .inr ⟨?_, _, g4⟩
    rintro ⟨p, hp, hn⟩
    obtain ⟨i, hi, rfl⟩ := List.getElem_of_mem hp
    have := prs_get (bT a b) i (by rw [hpl] at hi; omega)
    rw [List.getElem?_eq_getElem hi] at this
    have g := g3 i (by rw [hpl] at hi; exact hi)
    rw [Option.some.inj this] at hn
    simp only [] at hn
    rw [decide_eq_false hn] at g
    cases g
end
theorem better_is (a b : List (List Int)) (hla : a.length ≤ 9223372036854775807) (hlb : b.length ≤ 9223372036854775807) (ha6 : ∀ c ∈ a, c.length = 6) (hb6 : ∀ c ∈ b, c.length = 6) :
    drift_Better_pre a b ∧ drift_Better_1 a b = betE a b ∧ drift_Better_0 a b = betL a b := by
  have va := currents_is a hla
  have vb := currents_is b hlb
  unfold drift_Better_pre drift_Better_1 drift_Better_0 betL betE
  rw [va.2, vb.2]
  by_cases ha : VC a
  · by_cases hb : VC b
    · rw [decide_eq_true ha, decide_eq_true hb]
      have hn : ¬ (¬ VC a ∨ ¬ VC b) := fun h => h.elim (fun k => k ha) (fun k => k hb)
      rw [if_neg hn]
      obtain ⟨k1, k2⟩ := bet_l1 ha hb ha6 hb6
      obtain ⟨k3, k4⟩ := bet_l0 a b ha.2 hb.2
      have h60 := ha.2
      have g60 := hb.2
      refine ⟨⟨va.1, fun _ => vb.1, fun _ => ⟨⟨?_, ?_, ⟨?_, ?_, ?_⟩, ?_, ?_⟩, k3, ?_, k1⟩⟩, ?_⟩
      · rw [i64_wrap (by omega)]; rw [decide_eq_false_iff_not]; omega
      · rw [i64_wrap (x := 0 + (a.length : Int)) (by omega), i64_wrap (by omega)]; rw [decide_eq_false_iff_not]; omega
      · rw [i64_wrap (x := 0 + (a.length : Int)) (by omega), i64_wrap (by omega)]; omega
      · rw [i64_wrap (x := 0 + (a.length : Int)) (by omega), i64_wrap (by omega)]; omega
      · rw [i64_wrap (x := 0 + (a.length : Int)) (by omega), i64_wrap (by omega)]; omega
      · exact fits_le (by decide) (by omega)
      · exact fits_le (by decide) (by simp only [List.length_append, List.length_nil]; omega)
      · rw [k4, endsR_len, List.length_append]; omega
      · unfold drift_Better_s17 drift_Better_s18
        rcases k2 with ⟨g1, g2⟩ | ⟨g1, n, g2⟩
        · rw [g2, if_pos g1]
          exact ⟨rfl, rfl⟩
        · rw [g2, if_neg g1]
          simp only [gr_1, gr_2, gr_z]
          by_cases g3 : (bAll a b (prs (bT a b))).length > 60
          · rw [if_pos g3, decide_eq_true (by omega)]
            exact ⟨rfl, rfl⟩
          · rw [if_neg g3, decide_eq_false (by omega)]
            exact ⟨rfl, rfl⟩
    · rw [decide_eq_true ha, decide_eq_false hb, if_pos (show ¬ VC a ∨ ¬ VC b from .inr hb)]
      exact ⟨⟨va.1, fun _ => vb.1, fun h => by cases h⟩, rfl, rfl⟩
  · rw [decide_eq_false ha, if_pos (show ¬ VC a ∨ ¬ VC b from .inl ha)]
    exact ⟨⟨va.1, (fun h => by cases h), fun h => by cases h⟩, rfl, rfl⟩
end Go.Proofs.YtddfnokjnafdpaaGreat
