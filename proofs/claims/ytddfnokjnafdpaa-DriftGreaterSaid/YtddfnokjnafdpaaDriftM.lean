/-
  Move, Allows, In, Cut and the comparisons as functions on lists.
-/
import Derived.Test.YtddfnokjnafdpaaDriftL
set_option linter.unusedVariables false
set_option maxRecDepth 100000
namespace Go.Proofs.Ytddfnokjnafdpaa
open Go Go.Sy

theorem tdiv_nn {n : Int} (h : 0 ≤ n) : n.tdiv 100 = n / 100 := Int.tdiv_eq_ediv_of_nonneg h
/-- Rounding down, as the code has it. -/
noncomputable def dnW (n : Int) : Int := bif decide (n < (0 : Int)) then IntKind.i64.wrap ((0 : Int) - IntKind.i64.wrap ((IntKind.i64.wrap ((99 : Int) - n)).tdiv (100 : Int))) else IntKind.i64.wrap (n.tdiv (100 : Int))
theorem dnW_eq {n : Int} (h : -1000000000000000 ≤ n ∧ n ≤ 1000000000000000) : dnW n = n / 100 := by
  unfold dnW
  by_cases hn : n < 0
  · rw [decide_eq_true hn, cond_true, i64_wrap (x := 99 - n) (by omega), tdiv_nn (by omega), i64_wrap (x := (99 - n) / 100) (by omega), i64_wrap (by omega)]
    omega
  · rw [decide_eq_false hn, cond_false, tdiv_nn (by omega), i64_wrap (by omega)]
noncomputable def loW (x s : Int) : Int := dnW (IntKind.i64.wrap (IntKind.i64.wrap ((100 : Int) * x) + s))
noncomputable def hiW (x s : Int) : Int := IntKind.i64.wrap ((0 : Int) - dnW (IntKind.i64.wrap ((0 : Int) - IntKind.i64.wrap (IntKind.i64.wrap ((100 : Int) * x) + s))))
/-- The lower end, moved. -/
def lo (x s : Int) : Int := (100 * x + s) / 100
/-- The upper end, moved. -/
def hi (x s : Int) : Int := -((-(100 * x + s)) / 100)
theorem loW_eq {x s : Int} (hx : -1000000 ≤ x ∧ x ≤ 1000000) (hs : -600000000000 ≤ s ∧ s ≤ 600000000000) : loW x s = lo x s := by
  unfold loW lo
  rw [i64_wrap (x := 100 * x) (by omega), i64_wrap (by omega), dnW_eq (by omega)]
theorem hiW_eq {x s : Int} (hx : -1000000 ≤ x ∧ x ≤ 1000000) (hs : -600000000000 ≤ s ∧ s ≤ 600000000000) : hiW x s = hi x s := by
  unfold hiW hi
  rw [i64_wrap (x := 100 * x) (by omega), i64_wrap (x := 100 * x + s) (by omega), i64_wrap (x := 0 - (100 * x + s)) (by omega), dnW_eq (by omega), i64_wrap (by omega)]
  omega
/-- A box, moved. -/
def mvB (x0 x1 y0 y1 : Int) (b : List Int) : List Int := [lo (b.getD 0 0) x0, hi (b.getD 1 0) x1, lo (b.getD 2 0) y0, hi (b.getD 3 0) y1]
noncomputable def mvW (x0 x1 y0 y1 : Int) (b : List Int) : List Int := [loW (b.getD 0 0) x0, hiW (b.getD 1 0) x1, loW (b.getD 2 0) y0, hiW (b.getD 3 0) y1]
theorem sumL_bd {f u : Int} {l : List (List Int)} (hv : VC l) (ht : VT f u) {k : Nat} (hk : k = 2 ∨ k = 3 ∨ k = 4 ∨ k = 5) : -600000000000 ≤ sumL f u k l ∧ sumL f u k l ≤ 600000000000 := by
  have key : ∀ i, i ≤ l.length → -10000000000 * (i : Int) ≤ sumL f u k (l.take i) ∧ sumL f u k (l.take i) ≤ 10000000000 * (i : Int) := by
    intro i
    induction i with
    | zero => intro _; simp [sumL]
    | succ i ih =>
      intro hi
      have := ih (by omega)
      have hc := CL_mem hv.1 _ (getD_mem hi)
      have hm := mins_bd ht hc
      have hb : -1000 ≤ (l.getD i []).getD k 0 ∧ (l.getD i []).getD k 0 ≤ 1000 := by
        unfold CO at hc
        rcases hk with rfl | rfl | rfl | rfl <;> omega
      have := mul_bd hm.1 hm.2 hb.1 hb.2
      rw [sumL_succ f u k hi]
      omega
  have := key _ (Nat.le_refl _)
  rw [List.take_length] at this
  have := hv.2
  omega
theorem sumE_ok {f u : Int} {l : List (List Int)} (h : sumE f u l = 0) : VC l ∧ VT f u ∧ u - f ≤ covL f u l := by
  unfold sumE at h
  split at h
  · cases h
  · rename_i hn
    split at h
    · cases h
    · exact ⟨Decidable.byContradiction fun k => hn (.inl k), Decidable.byContradiction fun k => hn (.inr k), by omega⟩
theorem sumV_bd (f u : Int) (l : List (List Int)) {k : Nat} (hk : k = 2 ∨ k = 3 ∨ k = 4 ∨ k = 5) : -600000000000 ≤ sumV f u k l ∧ sumV f u k l ≤ 600000000000 := by
  unfold sumV
  by_cases h : sumE f u l = 0
  · rw [if_pos h]
    have := sumE_ok h
    exact sumL_bd this.1 this.2.1 hk
  · rw [if_neg h]; omega
/-- What a forecast does to a box. -/
def mvF (f u : Int) (c : List (List Int)) (b : List Int) : List Int := mvB (sumV f u 2 c) (sumV f u 3 c) (sumV f u 4 c) (sumV f u 5 c) b
def moveE (f u : Int) (l c : List (List Int)) : Int := if ¬ VL l then 1 else if sumE f u c ≠ 0 then sumE f u c else if ∃ b ∈ l, ¬ VB (mvF f u c b) then 3 else 0
def moveL (f u : Int) (l c : List (List Int)) : List (List Int) := if moveE f u l c = 0 then l.map (mvF f u c) else []
theorem move_fold (f u : Int) (l c : List (List Int)) (hl : VL l) (hc : c.length ≤ 9223372036854775807) : loopOk (drift_Move_l0_step f u l c) (drift_Move_l0_init f u l c) ∧
    ((∃ b ∈ l, ¬ VB (mvF f u c b)) ∧ drift_Move_l0 f u l c = (1, []) ∨ (¬ ∃ b ∈ l, ¬ VB (mvF f u c b)) ∧ drift_Move_l0 f u l c = (3, [.i 0, .i l.length, .r (l.map (mvF f u c))])) := by
  obtain ⟨_, _, s0, s1, s2, s3⟩ := sum_is f u c hc
  have hlen := hl.2.1
  have key := loop_search (step := drift_Move_l0_step f u l c) l.length (fun i => !decide (VB (mvF f u c (l.getD i [])))) (fun i => [.i 0, .i i, .r ((l.take i).map (mvF f u c))]) (fun i => []) 0 2 [.i 0, .i l.length, .r (l.map (mvF f u c))]
    (fun i hi => by
      have hb := hl.2.2 _ (getD_mem hi)
      have hw : mvW (sumV f u 2 c) (sumV f u 3 c) (sumV f u 4 c) (sumV f u 5 c) (l.getD i []) = mvF f u c (l.getD i []) := by
        unfold mvW mvF mvB
        unfold VB at hb
        rw [loW_eq (by omega) (sumV_bd f u c (by simp)), hiW_eq (by omega) (sumV_bd f u c (by simp)), loW_eq (by omega) (sumV_bd f u c (by simp)), hiW_eq (by omega) (sumV_bd f u c (by simp))]
      unfold drift_Move_l0_step
      simp only [gi_z, gi_1, gi_2, gr_z, gr_1, gr_2, dlt hi, guardP_pos (inR_of hi), Int.toNat_natCast, wrap_succ (show i < 4611686018427387904 by omega), s0, s1, s2, s3]
      rw [guardP_pos ⟨⟨fun _ => by decide, fun _ => by decide⟩, fun _ => by decide, fun _ => by decide⟩, guardP_pos ⟨⟨fun _ => by decide, fun _ => by decide⟩, fun _ => by decide, fun _ => by decide⟩]
      rw [guardP_pos (by simp only [List.length_map, List.length_take, List.length_cons, List.length_nil, fitsA]; simp [maxLen]; omega)]
      show (bif !span_ValidBox_0 ((mvW (sumV f u 2 c) (sumV f u 3 c) (sumV f u 4 c) (sumV f u 5 c) (l.getD i [])).getD 0 0) ((mvW (sumV f u 2 c) (sumV f u 3 c) (sumV f u 4 c) (sumV f u 5 c) (l.getD i [])).getD 1 0) ((mvW (sumV f u 2 c) (sumV f u 3 c) (sumV f u 4 c) (sumV f u 5 c) (l.getD i [])).getD 2 0) ((mvW (sumV f u 2 c) (sumV f u 3 c) (sumV f u 4 c) (sumV f u 5 c) (l.getD i [])).getD 3 0) then (some (1, []) : Option (Nat × List U)) else some (0, [.i 0, .i ((i + 1 : Nat) : Int), .r ((l.take i).map (mvF f u c) ++ [mvW (sumV f u 2 c) (sumV f u 3 c) (sumV f u 4 c) (sumV f u 5 c) (l.getD i [])])])) = _
      rw [hw, vb_eq, take_succ' hi, List.map_append]
      rfl)
    (by
      unfold drift_Move_l0_step
      simp only [gi_z, gi_1, gr_z, gr_1, gr_2, dnlt, List.take_length])
  refine ⟨key.1, ?_⟩
  rcases key.2 with ⟨i, h1, h2, h3, h4⟩ | ⟨h3, h4⟩
  · exact .inl ⟨⟨_, getD_mem h1, by simpa using h2⟩, h4⟩
  · refine .inr ⟨?_, h4⟩
    rintro ⟨b, hb, hn⟩
    obtain ⟨j, hj, rfl⟩ := getD_of_mem hb
    have := h3 j hj
    rw [decide_eq_false hn] at this
    cases this
theorem move_is (f u : Int) (l c : List (List Int)) (hc : c.length ≤ 9223372036854775807) : drift_Move_pre f u l c ∧ drift_Move_1 f u l c = moveE f u l c ∧ drift_Move_0 f u l c = moveL f u l c := by
  obtain ⟨sp, s4, s0, s1, s2, s3⟩ := sum_is f u c hc
  have hv := valid_is l
  unfold drift_Move_pre drift_Move_1 drift_Move_0
  rw [hv.2, s4]
  by_cases hl : VL l
  · have E : moveE f u l c = if sumE f u c ≠ 0 then sumE f u c else if ∃ b ∈ l, ¬ VB (mvF f u c b) then 3 else 0 := if_neg (fun h => h hl)
    obtain ⟨k1, k2⟩ := move_fold f u l c hl hc
    rw [decide_eq_true hl]
    simp only [Bool.not_true, cond_false]
    by_cases hs : sumE f u c = 0
    · rw [hs] at E
      rw [if_neg (by simp)] at E
      rw [hs]
      simp only [bne_self_eq_false, cond_false]
      rcases k2 with ⟨g1, g2⟩ | ⟨g1, g2⟩
      · rw [if_pos g1] at E
        rw [g2]
        refine ⟨⟨hv.1, fun _ => ⟨sp, fun _ => k1⟩⟩, E.symm, ?_⟩
        unfold moveL
        rw [E, if_neg (by decide)]
        rfl
      · rw [if_neg g1] at E
        rw [g2]
        refine ⟨⟨hv.1, fun _ => ⟨sp, fun _ => k1⟩⟩, E.symm, ?_⟩
        unfold moveL
        rw [if_pos E]
        rfl
    · have hb : (sumE f u c != 0) = true := by simpa using hs
      rw [if_pos hs] at E
      rw [hb]
      refine ⟨⟨hv.1, fun _ => ⟨sp, fun h => by cases h⟩⟩, E.symm, ?_⟩
      unfold moveL
      rw [E, if_neg hs]
      rfl
  · have E : moveE f u l c = 1 := if_pos hl
    rw [decide_eq_false hl]
    refine ⟨⟨hv.1, fun h => by cases h⟩, E.symm, ?_⟩
    unfold moveL
    rw [E, if_neg (by decide)]
    rfl

/-! ### Allows -/
def allE (f u x y z w : Int) (c : List (List Int)) : Int := if ¬ VP x y ∨ ¬ VP z w then 1 else sumE f u c
def allB (f u x y z w : Int) (c : List (List Int)) : Prop := allE f u x y z w c = 0 ∧ sumL f u 2 c ≤ 100 * (z - x) ∧ 100 * (z - x) ≤ sumL f u 3 c ∧ sumL f u 4 c ≤ 100 * (w - y) ∧ 100 * (w - y) ≤ sumL f u 5 c
instance (f u x y z w : Int) (c : List (List Int)) : Decidable (allB f u x y z w c) := by unfold allB; infer_instance
theorem allows_is (f u x y z w : Int) (c : List (List Int)) (hc : c.length ≤ 9223372036854775807) : drift_Allows_pre f u x y z w c ∧ drift_Allows_1 f u x y z w c = allE f u x y z w c ∧ drift_Allows_0 f u x y z w c = decide (allB f u x y z w c) := by
  obtain ⟨sp, s4, s0, s1, s2, s3⟩ := sum_is f u c hc
  unfold drift_Allows_pre drift_Allows_1 drift_Allows_0 allB allE
  rw [place_eq, place_eq, s4, s0, s1, s2, s3]
  by_cases h1 : VP x y
  · by_cases h2 : VP z w
    · rw [decide_eq_true h1, decide_eq_true h2]
      simp only [Bool.not_true, Bool.or_self, cond_false, h1, h2, not_true, or_self, if_false]
      refine ⟨fun _ => sp, ?_⟩
      by_cases hs : sumE f u c = 0
      · unfold sumV
        rw [hs]
        simp only [bne_self_eq_false, cond_false, if_true, true_and]
        unfold VP at h1 h2
        rw [i64_wrap (x := z - x) (by omega), i64_wrap (x := w - y) (by omega), i64_wrap (x := 100 * (z - x)) (by omega), i64_wrap (x := 100 * (w - y)) (by omega)]
        rw [Bool.eq_iff_iff]
        simp [and_assoc]
      · have : (sumE f u c != 0) = true := by simpa using hs
        rw [this]
        simp [hs]
    · rw [decide_eq_true h1, decide_eq_false h2]
      simp [h1, h2]
  · rw [decide_eq_false h1]
    simp [h1]

/-! ### In -/
/-- A place is in a box. -/
def HB (x y : Int) (b : List Int) : Prop := b.getD 0 0 ≤ x ∧ x ≤ b.getD 1 0 ∧ b.getD 2 0 ≤ y ∧ y ≤ b.getD 3 0
instance (x y : Int) (b : List Int) : Decidable (HB x y b) := by unfold HB; infer_instance
theorem inBox_eq {x y : Int} {b : List Int} (hp : VP x y) (hb : VB b) : span_InBox_0 x y (b.getD 0 0) (b.getD 1 0) (b.getD 2 0) (b.getD 3 0) = decide (HB x y b) := by
  have hp' : span_ValidBox_0 x x y y = true := by
    have := place_eq x y
    unfold drift_place_0 at this
    rw [this, decide_eq_true hp]
  unfold span_InBox_0 span_Join_2 span_Join_0 span_Join_1 span_ends_int_0 span_ends_int_1
  rw [hp', vb_eq, decide_eq_true hb]
  unfold VB VP HB at *
  rw [span_valid_eq, span_valid_eq, span_valid_eq, span_valid_eq]
  rw [decide_eq_true (show -1000000000000 ≤ x ∧ _ by omega), decide_eq_true (show -1000000000000 ≤ y ∧ _ by omega), decide_eq_true (show -1000000000000 ≤ b.getD 0 0 ∧ _ by omega), decide_eq_true (show -1000000000000 ≤ b.getD 2 0 ∧ _ by omega)]
  simp only [Bool.not_true, Bool.or_self, cond_false, imax_eq, imin_eq]
  rw [Bool.eq_iff_iff]
  simp
  omega
def inE (x y : Int) (l : List (List Int)) : Int := if ¬ VL l ∨ ¬ VP x y then 1 else 0
def inB (x y : Int) (l : List (List Int)) : Prop := inE x y l = 0 ∧ ∃ b ∈ l, HB x y b
instance (x y : Int) (l : List (List Int)) : Decidable (inB x y l) := by unfold inB; infer_instance
theorem in_is (x y : Int) (l : List (List Int)) : drift_In_pre x y l ∧ drift_In_1 x y l = inE x y l ∧ drift_In_0 x y l = decide (inB x y l) := by
  have hv := valid_is l
  unfold drift_In_pre drift_In_1 drift_In_0 inB inE
  rw [hv.2, place_eq]
  by_cases h1 : VL l
  · by_cases h2 : VP x y
    · have key := loop_search (step := drift_In_l0_step x y l) l.length (fun i => decide (HB x y (l.getD i []))) (fun i => [.i 0, .i i]) (fun i => [.i i]) 0 2 [.i 0, .i l.length]
        (fun i hi => by
          have := h1.2.1
          unfold drift_In_l0_step
          simp only [gi_1, gi_z, gb_z, dlt hi, guardP_pos (inR_of hi), Int.toNat_natCast, wrap_succ (show i < 4611686018427387904 by omega), inBox_eq h2 (h1.2.2 _ (getD_mem hi))]
          try rfl)
        (by
          unfold drift_In_l0_step
          simp only [gi_1, gi_z, gb_z, dnlt]
          try rfl)
      rw [decide_eq_true h1, decide_eq_true h2]
      simp only [Bool.not_true, Bool.or_self, cond_false, h1, h2, not_true, or_self, if_false, true_and]
      refine ⟨⟨hv.1, fun _ => key.1⟩, ?_⟩
      rcases key.2 with ⟨i, g1, g2, g3, g4⟩ | ⟨g3, g4⟩
      · have e : drift_In_l0 x y l = (1, [.i i]) := g4
        rw [e, decide_eq_true (show ∃ b ∈ l, HB x y b from ⟨_, getD_mem g1, by simpa using g2⟩)]
        simp [Nat.beq, gi_z]
      · have e : drift_In_l0 x y l = (3, [.i 0, .i l.length]) := g4
        rw [e, decide_eq_false (show ¬ ∃ b ∈ l, HB x y b from by
          rintro ⟨b, hb, hn⟩
          obtain ⟨j, hj, rfl⟩ := getD_of_mem hb
          have := g3 j hj
          rw [decide_eq_true hn] at this
          cases this)]
        simp [Nat.beq]
    · rw [decide_eq_true h1, decide_eq_false h2]
      simp [h1, h2, hv.1]
  · rw [decide_eq_false h1]
    simp [h1, hv.1]

/-! ### Cut -/
/-- What two boxes have in common. -/
def mtB (a b : List Int) : List Int := [max (a.getD 0 0) (b.getD 0 0), min (a.getD 1 0) (b.getD 1 0), max (a.getD 2 0) (b.getD 2 0), min (a.getD 3 0) (b.getD 3 0)]
def MB (a b : List Int) : Prop := max (a.getD 0 0) (b.getD 0 0) ≤ min (a.getD 1 0) (b.getD 1 0) ∧ max (a.getD 2 0) (b.getD 2 0) ≤ min (a.getD 3 0) (b.getD 3 0)
instance (a b : List Int) : Decidable (MB a b) := by unfold MB; infer_instance
theorem imax_max (a b : Int) : imax a b = max a b := by rw [imax_eq]; split <;> omega
theorem imin_min (a b : Int) : imin a b = min a b := by rw [imin_eq]; split <;> omega
theorem meet_eq {s t x y : Int} (h1 : -1000000000000 ≤ s ∧ s ≤ t ∧ t ≤ 1000000000000) (h2 : -1000000000000 ≤ x ∧ x ≤ y ∧ y ≤ 1000000000000) :
    span_Meet_2 s t x y = (if max s x ≤ min t y then 0 else 4) ∧ (max s x ≤ min t y → span_Meet_0 s t x y = max s x ∧ span_Meet_1 s t x y = min t y) := by
  unfold span_Meet_2 span_Meet_0 span_Meet_1
  rw [span_valid_eq, span_valid_eq, decide_eq_true h1, decide_eq_true h2, imax_max, imin_min]
  by_cases h : max s x ≤ min t y
  · rw [decide_eq_false (by omega)]; simp [h]
  · rw [decide_eq_true (show min t y < max s x by omega)]; simp [h]
theorem meetBox_eq {a b : List Int} (ha : VB a) (hb : VB b) :
    span_MeetBox_4 (a.getD 0 0) (a.getD 1 0) (a.getD 2 0) (a.getD 3 0) (b.getD 0 0) (b.getD 1 0) (b.getD 2 0) (b.getD 3 0) = (if MB a b then 0 else 4) ∧
    (MB a b → [span_MeetBox_0 (a.getD 0 0) (a.getD 1 0) (a.getD 2 0) (a.getD 3 0) (b.getD 0 0) (b.getD 1 0) (b.getD 2 0) (b.getD 3 0), span_MeetBox_1 (a.getD 0 0) (a.getD 1 0) (a.getD 2 0) (a.getD 3 0) (b.getD 0 0) (b.getD 1 0) (b.getD 2 0) (b.getD 3 0),
      span_MeetBox_2 (a.getD 0 0) (a.getD 1 0) (a.getD 2 0) (a.getD 3 0) (b.getD 0 0) (b.getD 1 0) (b.getD 2 0) (b.getD 3 0), span_MeetBox_3 (a.getD 0 0) (a.getD 1 0) (a.getD 2 0) (a.getD 3 0) (b.getD 0 0) (b.getD 1 0) (b.getD 2 0) (b.getD 3 0)] = mtB a b) := by
  unfold span_MeetBox_4 span_MeetBox_3 span_MeetBox_2 span_MeetBox_1 span_MeetBox_0
  rw [vb_eq, vb_eq, decide_eq_true ha, decide_eq_true hb]
  unfold VB at ha hb
  obtain ⟨x1, x2⟩ := meet_eq (s := a.getD 0 0) (t := a.getD 1 0) (x := b.getD 0 0) (y := b.getD 1 0) (by omega) (by omega)
  obtain ⟨y1, y2⟩ := meet_eq (s := a.getD 2 0) (t := a.getD 3 0) (x := b.getD 2 0) (y := b.getD 3 0) (by omega) (by omega)
  rw [x1, y1, imax_max]
  simp only [Bool.not_true, Bool.or_self, cond_false]
  by_cases h1 : max (a.getD 0 0) (b.getD 0 0) ≤ min (a.getD 1 0) (b.getD 1 0)
  · obtain ⟨x3, x4⟩ := x2 h1
    by_cases h2 : max (a.getD 2 0) (b.getD 2 0) ≤ min (a.getD 3 0) (b.getD 3 0)
    · obtain ⟨y3, y4⟩ := y2 h2
      rw [if_pos h1, if_pos h2, if_pos (show MB a b from ⟨h1, h2⟩)]
      refine ⟨rfl, fun _ => ?_⟩
      rw [x3, x4, y3, y4]
      rfl
    · rw [if_pos h1, if_neg h2, if_neg (show ¬ MB a b from fun h => h2 h.2)]
      exact ⟨rfl, fun h => absurd h.2 h2⟩
  · rw [if_neg h1, if_neg (show ¬ MB a b from fun h => h1 h.1)]
    refine ⟨?_, fun h => absurd h.1 h1⟩
    by_cases h2 : max (a.getD 2 0) (b.getD 2 0) ≤ min (a.getD 3 0) (b.getD 3 0)
    · rw [if_pos h2]; rfl
    · rw [if_neg h2]; rfl
/-- The parts of a set that are in a box. -/
def cutP (b : List Int) (l : List (List Int)) : List (List Int) := l.filterMap fun c => if MB c b then some (mtB c b) else none
def cutE (b : List Int) (l : List (List Int)) : Int := if ¬ VL l ∨ ¬ VB b then 1 else if cutP b l = [] then 4 else 0
def cutL (b : List Int) (l : List (List Int)) : List (List Int) := if cutE b l = 0 then cutP b l else []
theorem cutP_len (b : List Int) (l : List (List Int)) : (cutP b l).length ≤ l.length := List.length_filterMap_le _ _
theorem cut_is (a0 a1 a2 a3 : Int) (l : List (List Int)) : drift_Cut_pre a0 a1 a2 a3 l ∧ drift_Cut_1 a0 a1 a2 a3 l = cutE [a0, a1, a2, a3] l ∧ drift_Cut_0 a0 a1 a2 a3 l = cutL [a0, a1, a2, a3] l := by
  have hv := valid_is l
  have hb : span_ValidBox_0 a0 a1 a2 a3 = decide (VB [a0, a1, a2, a3]) := vb_eq [a0, a1, a2, a3]
  unfold drift_Cut_pre drift_Cut_1 drift_Cut_0 cutL cutE
  rw [hv.2, hb]
  by_cases h1 : VL l
  · by_cases h2 : VB [a0, a1, a2, a3]
    · have hlen := h1.2.1
      have key := loop_fold (σ := Unit) (step := drift_Cut_l0_step a0 a1 a2 a3 l) l.length (fun i _ => [.i i, .r (cutP [a0, a1, a2, a3] (l.take i))]) (fun _ s => s) (fun _ _ => True) 2 (fun _ => [.i l.length, .r (cutP [a0, a1, a2, a3] l)])
        (fun _ _ _ _ => trivial)
        (fun i s hi _ => by
          have hc := h1.2.2 _ (getD_mem hi)
          obtain ⟨m1, m2⟩ := meetBox_eq hc h2
          unfold drift_Cut_l0_step
          simp only [gi_z, gi_1, gr_z, gr_1, dlt hi, guardP_pos (inR_of hi), Int.toNat_natCast, wrap_succ (show i < 4611686018427387904 by omega)]
          have e : cutP [a0, a1, a2, a3] (l.take (i + 1)) = cutP [a0, a1, a2, a3] (l.take i) ++ (if MB (l.getD i []) [a0, a1, a2, a3] then [mtB (l.getD i []) [a0, a1, a2, a3]] else []) := by
            unfold cutP
            rw [take_succ' hi, List.filterMap_append]
            by_cases hm : MB (l.getD i []) [a0, a1, a2, a3]
            · simp only [List.filterMap, if_pos hm]
            · simp only [List.filterMap, if_neg hm]
          have hle := cutP_len [a0, a1, a2, a3] (l.take i)
          rw [List.length_take] at hle
          rw [e]
          have m1 : span_MeetBox_4 ((l.getD i []).getD 0 0) ((l.getD i []).getD 1 0) ((l.getD i []).getD 2 0) ((l.getD i []).getD 3 0) a0 a1 a2 a3 = _ := m1
          rw [m1]
          by_cases hm : MB (l.getD i []) [a0, a1, a2, a3]
          · have m2 := m2 hm
            simp only [if_pos hm, beq_self_eq_true, cond_true]
            have m2 : [span_MeetBox_0 ((l.getD i []).getD 0 0) ((l.getD i []).getD 1 0) ((l.getD i []).getD 2 0) ((l.getD i []).getD 3 0) a0 a1 a2 a3, _, _, _] = _ := m2
            rw [guardP_pos (by simp only [List.length_cons, List.length_nil, fitsA]; simp [maxLen]; omega)]
            rw [← m2]
            rfl
          · simp only [if_neg hm, List.append_nil]
            rfl)
        (fun s _ => by
          unfold drift_Cut_l0_step
          simp only [gi_z, gi_1, gr_z, gr_1, dnlt, List.take_length]) (s := ()) trivial
      rw [decide_eq_true h1, decide_eq_true h2]
      have e : drift_Cut_l0 a0 a1 a2 a3 l = _ := key.2.1
      rw [e]
      simp only [Bool.not_true, Bool.or_self, cond_false, h1, h2, not_true, or_self, if_false, gr_z, gr_1]
      refine ⟨⟨hv.1, fun _ => key.1⟩, ?_⟩
      cases hcp : cutP [a0, a1, a2, a3] l with
      | nil => simp
      | cons x r =>
        have : (((x :: r).length : Int) == (0 : Int)) = false := by simp; omega
        rw [this]
        simp
    · rw [decide_eq_true h1, decide_eq_false h2]
      simp [h1, h2, hv.1]
  · rw [decide_eq_false h1]
    simp [h1, hv.1]

/-! ### comparisons -/
def WB (a b : List Int) : Prop := b.getD 0 0 ≤ a.getD 0 0 ∧ a.getD 1 0 ≤ b.getD 1 0 ∧ b.getD 2 0 ≤ a.getD 2 0 ∧ a.getD 3 0 ≤ b.getD 3 0
instance (a b : List Int) : Decidable (WB a b) := by unfold WB; infer_instance
theorem within_is (a b : List (List Int)) (ha : a.length < 4611686018427387904) : law23_within_pre a b ∧ (law23_within_0 a b = true ↔ a.length = b.length ∧ ∀ i, i < a.length → WB (a.getD i []) (b.getD i [])) := by
  unfold law23_within_pre law23_within_0
  by_cases hl : a.length = b.length
  · have hl' : ((a.length : Int) != (b.length : Int)) = false := by simp [hl]
    have key := loop_search (step := law23_within_l0_step a b) a.length (fun i => !decide (WB (a.getD i []) (b.getD i []))) (fun i => [.b false, .i i]) (fun _ => []) 0 2 [.b false, .i a.length]
      (fun i hi => by
        have hi' : i < b.length := hl ▸ hi
        unfold law23_within_l0_step
        simp only [gi_1, gi_z, gb_z, dlt hi, guardP_pos (inR_of hi), guardP_pos (inR_of hi'), guardP_pos (fun _ => inR_of hi), guardP_pos (fun _ => inR_of hi'), Int.toNat_natCast, wrap_succ (show i < 4611686018427387904 by omega)]
        congr 1
        unfold WB
        rw [Bool.eq_iff_iff]
        simp
        omega)
      (by
        unfold law23_within_l0_step
        simp only [gi_1, gi_z, gb_z, dnlt]
        try rfl)
    rw [hl']
    refine ⟨fun _ => key.1, ?_⟩
    rcases key.2 with ⟨i, h1, h2, h3, h4⟩ | ⟨h3, h4⟩
    · have e : law23_within_l0 a b = (1, []) := h4
      rw [e]
      simp only [cond_false, Nat.beq]
      constructor
      · intro h; cases h
      · rintro ⟨_, h⟩
        have := h i h1
        rw [decide_eq_true this] at h2
        cases h2
    · have e : law23_within_l0 a b = (3, [.b false, .i a.length]) := h4
      rw [e]
      simp only [cond_false, Nat.beq]
      refine ⟨fun _ => ⟨hl, fun i hi => ?_⟩, fun _ => by trivial⟩
      have := h3 i hi
      simpa using this
  · have hl' : ((a.length : Int) != (b.length : Int)) = true := by simp; omega
    rw [hl']
    refine ⟨fun h => (Bool.noConfusion h), ?_⟩
    simp only [cond_true]
    constructor
    · intro h; cases h
    · exact fun h => absurd h.1 hl
/-- Equality as the code has it. -/
def same4 (a b : List Int) : Bool := (a.getD 0 (0 : Int) == b.getD 0 (0 : Int) && (a.getD 1 (0 : Int) == b.getD 1 (0 : Int) && true) && (a.getD 2 (0 : Int) == b.getD 2 (0 : Int) && (a.getD 3 (0 : Int) == b.getD 3 (0 : Int) && true) && true))
theorem same4_is {a b : List Int} (ha : a.length = 4) (hb : b.length = 4) : same4 a b = decide (a = b) := by
  match a, ha, b, hb with
  | [_, _, _, _], _, [_, _, _, _], _ =>
    rw [Bool.eq_iff_iff]
    simp [same4, and_assoc]
def same6 (a b : List Int) : Bool := (a.getD 0 (0 : Int) == b.getD 0 (0 : Int) && (a.getD 1 (0 : Int) == b.getD 1 (0 : Int) && (a.getD 2 (0 : Int) == b.getD 2 (0 : Int) && (a.getD 3 (0 : Int) == b.getD 3 (0 : Int) && true) && (a.getD 4 (0 : Int) == b.getD 4 (0 : Int) && (a.getD 5 (0 : Int) == b.getD 5 (0 : Int) && true) && true))))
theorem same6_is {a b : List Int} (ha : a.length = 6) (hb : b.length = 6) : same6 a b = decide (a = b) := by
  match a, ha, b, hb with
  | [_, _, _, _, _, _], _, [_, _, _, _, _, _], _ =>
    rw [Bool.eq_iff_iff]
    simp [same6, and_assoc]
theorem same_is (a b : List (List Int)) (ha : a.length < 4611686018427387904) :
    ref23_Same_pre a b ∧ (ref23_Same_0 a b = true ↔ a.length = b.length ∧ ∀ i, i < a.length → same4 (a.getD i []) (b.getD i []) = true) := by
  unfold ref23_Same_pre ref23_Same_0
  by_cases hl : a.length = b.length
  · have hl' : ((a.length : Int) != (b.length : Int)) = false := by simp [hl]
    have key := loop_search (step := ref23_Same_l0_step a b) a.length (fun i => !same4 (a.getD i []) (b.getD i [])) (fun i => [.b false, .i i]) (fun _ => []) 0 2 [.b false, .i a.length]
      (fun i hi => by
        unfold ref23_Same_l0_step
        simp only [gi_1, gi_z, gb_z, dlt hi, guardP_pos (inR_of hi), guardP_pos (inR_of (hl ▸ hi : i < b.length)), Int.toNat_natCast, wrap_succ (show i < 4611686018427387904 by omega)]
        try rfl)
      (by
        unfold ref23_Same_l0_step
        simp only [gi_1, gi_z, gb_z, dnlt]
        try rfl)
    rw [hl']
    refine ⟨fun _ => key.1, ?_⟩
    rcases key.2 with ⟨i, h1, h2, h3, h4⟩ | ⟨h3, h4⟩
    · have e : ref23_Same_l0 a b = (1, []) := h4
      rw [e]
      simp only [cond_false, Nat.beq]
      constructor
      · intro h; cases h
      · rintro ⟨_, h⟩
        have := h i h1
        rw [this] at h2
        cases h2
    · have e : ref23_Same_l0 a b = (3, [.b false, .i a.length]) := h4
      rw [e]
      simp only [cond_false, Nat.beq]
      refine ⟨fun _ => ⟨hl, fun i hi => ?_⟩, fun _ => by trivial⟩
      have := h3 i hi
      simpa using this
  · have hl' : ((a.length : Int) != (b.length : Int)) = true := by simp; omega
    rw [hl']
    refine ⟨fun h => (Bool.noConfusion h), ?_⟩
    simp only [cond_true]
    constructor
    · intro h; cases h
    · exact fun h => absurd h.1 hl
theorem flows_is (a b : List (List Int)) (ha : a.length < 4611686018427387904) :
    ref23_Flows_pre a b ∧ (ref23_Flows_0 a b = true ↔ a.length = b.length ∧ ∀ i, i < a.length → same6 (a.getD i []) (b.getD i []) = true) := by
  unfold ref23_Flows_pre ref23_Flows_0
  by_cases hl : a.length = b.length
  · have hl' : ((a.length : Int) != (b.length : Int)) = false := by simp [hl]
    have key := loop_search (step := ref23_Flows_l0_step a b) a.length (fun i => !same6 (a.getD i []) (b.getD i [])) (fun i => [.b false, .i i]) (fun _ => []) 0 2 [.b false, .i a.length]
      (fun i hi => by
        unfold ref23_Flows_l0_step
        simp only [gi_1, gi_z, gb_z, dlt hi, guardP_pos (inR_of hi), guardP_pos (inR_of (hl ▸ hi : i < b.length)), Int.toNat_natCast, wrap_succ (show i < 4611686018427387904 by omega)]
        try rfl)
      (by
        unfold ref23_Flows_l0_step
        simp only [gi_1, gi_z, gb_z, dnlt]
        try rfl)
    rw [hl']
    refine ⟨fun _ => key.1, ?_⟩
    rcases key.2 with ⟨i, h1, h2, h3, h4⟩ | ⟨h3, h4⟩
    · have e : ref23_Flows_l0 a b = (1, []) := h4
      rw [e]
      simp only [cond_false, Nat.beq]
      constructor
      · intro h; cases h
      · rintro ⟨_, h⟩
        have := h i h1
        rw [this] at h2
        cases h2
    · have e : ref23_Flows_l0 a b = (3, [.b false, .i a.length]) := h4
      rw [e]
      simp only [cond_false, Nat.beq]
      refine ⟨fun _ => ⟨hl, fun i hi => ?_⟩, fun _ => by trivial⟩
      have := h3 i hi
      simpa using this
  · have hl' : ((a.length : Int) != (b.length : Int)) = true := by simp; omega
    rw [hl']
    refine ⟨fun h => (Bool.noConfusion h), ?_⟩
    simp only [cond_true]
    constructor
    · intro h; cases h
    · exact fun h => absurd h.1 hl
theorem same_eq {a b : List (List Int)} (ha : a.length < 4611686018427387904) (h1 : ∀ e ∈ a, e.length = 4) (h2 : ∀ e ∈ b, e.length = 4) : ref23_Same_0 a b = decide (a = b) := by
  rw [Bool.eq_iff_iff, (same_is a b ha).2, decide_eq_true_eq]
  constructor
  · rintro ⟨hl, h⟩
    refine list_eq_of hl fun i hi => ?_
    have e := h i hi
    rw [same4_is (h1 _ (getD_mem hi)) (h2 _ (getD_mem (hl ▸ hi : i < b.length)))] at e
    simpa using e
  · rintro rfl
    refine ⟨rfl, fun i hi => ?_⟩
    rw [same4_is (h1 _ (getD_mem hi)) (h1 _ (getD_mem hi))]
    simp
theorem flows_eq {a b : List (List Int)} (ha : a.length < 4611686018427387904) (h1 : ∀ e ∈ a, e.length = 6) (h2 : ∀ e ∈ b, e.length = 6) : ref23_Flows_0 a b = decide (a = b) := by
  rw [Bool.eq_iff_iff, (flows_is a b ha).2, decide_eq_true_eq]
  constructor
  · rintro ⟨hl, h⟩
    refine list_eq_of hl fun i hi => ?_
    have e := h i hi
    rw [same6_is (h1 _ (getD_mem hi)) (h2 _ (getD_mem (hl ▸ hi : i < b.length)))] at e
    simpa using e
  · rintro rfl
    refine ⟨rfl, fun i hi => ?_⟩
    rw [same6_is (h1 _ (getD_mem hi)) (h1 _ (getD_mem hi))]
    simp
end Go.Proofs.Ytddfnokjnafdpaa
