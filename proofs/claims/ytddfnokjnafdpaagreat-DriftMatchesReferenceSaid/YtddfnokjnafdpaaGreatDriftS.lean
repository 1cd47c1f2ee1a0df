/-
  slices.SortFunc at []api.Box, as a contract that turns a row in place: the closure's contract, then the library's sort.
-/
import Derived.Test.YtddfnokjnafdpaaGreatDriftR
import Derived.Test.YtddfnokjnafdpaaGreatDriftC
import Derived.Shelf.SlSortCmp.WholeK
set_option linter.unusedVariables false
namespace Go.Proofs.YtddfnokjnafdpaaGreat
open Go Go.Sy Go.Proofs Go.RowKit Go.Sort

/-- The first number that is not zero. -/
def orL : List Int → Int
  | [] => 0
  | a :: r => if a ≠ 0 then a else orL r
theorem orL_zero : ∀ l : List Int, (∀ j, j < l.length → l.getD j 0 = 0) → orL l = 0
  | [], _ => rfl
  | a :: r, h => by
    have h0 := h 0 (by simp)
    have : a = 0 := by simpa using h0
    unfold orL
    rw [if_neg (by simpa using this)]
    exact orL_zero r fun j hj => by have := h (j + 1) (by simpa using hj); simpa using this
theorem orL_first : ∀ (l : List Int) (i : Nat), i < l.length → l.getD i 0 ≠ 0 → (∀ j, j < i → l.getD j 0 = 0) → orL l = l.getD i 0
  | [], i, h, _, _ => by simp at h
  | a :: r, 0, _, h, _ => by
    have : a ≠ 0 := by simpa using h
    simp [orL, this]
  | a :: r, i + 1, hi, h, hz => by
    have h0 := hz 0 (by omega)
    have : a = 0 := by simpa using h0
    unfold orL
    rw [if_neg (by simpa using this)]
    have := orL_first r i (by simpa using hi) (by simpa using h) (fun j hj => by have := hz (j + 1) (by omega); simpa using this)
    simpa using this
theorem or_spec (vals : List (List Int)) (hl : vals.length < 4611686018427387904) : cmp_Or_int_pre vals ∧ cmp_Or_int_0 vals = orL (nums vals) := by
  have hget : ∀ i, (nums vals).getD i 0 = (vals.getD i []).getD 0 0 := by
    intro i
    unfold nums
    by_cases h : i < vals.length
    · simp [List.getD_eq_getElem?_getD, List.getElem?_eq_getElem h]
    · simp [List.getD_eq_getElem?_getD, List.getElem?_eq_none (show vals.length ≤ i by omega)]
  have hlen : (nums vals).length = vals.length := by simp [nums]
  obtain ⟨h1, h2⟩ := loop_search (step := cmp_Or_int_l0_step vals) vals.length (fun i => (vals.getD i []).getD 0 (0 : Int) != (0 : Int)) (fun i => [.i 0, .i i]) (fun i => [.i ((vals.getD i []).getD 0 0)]) 0 2 [.i 0, .i vals.length]
    (fun i hi => by
      unfold cmp_Or_int_l0_step
      simp only [gi_z, gi_1, dlt hi, Int.toNat_natCast, wrap_succ (show i < 4611686018427387904 by omega)]
      rw [guardP_pos (inR_of hi), guardP_pos (inR_of hi)])
    (by
      unfold cmp_Or_int_l0_step
      simp only [gi_z, gi_1, dnlt])
  refine ⟨h1, ?_⟩
  unfold cmp_Or_int_0 cmp_Or_int_l0
  have e0 : cmp_Or_int_l0_init vals = [.i 0, .i ((0 : Nat) : Int)] := rfl
  rw [e0]
  rcases h2 with ⟨i, g1, g2, g3, g4⟩ | ⟨g3, g4⟩
  · rw [g4]
    rw [orL_first (nums vals) i (by omega) (by rw [hget]; simpa using g2) (fun j hj => by rw [hget]; simpa using g3 j hj), hget]
    rfl
  · rw [g4, orL_zero (nums vals) (fun j hj => by rw [hget]; simpa using g3 j (by omega))]
    rfl
theorem blw_grow {W w' : World} (h : Blw W.heap.size W w') : ∃ q os', w' = grow (W.drewN q) os' := by
  refine ⟨w'.drawn - W.drawn, w'.heap.extract W.heap.size w'.heap.size, ?_⟩
  have hd := h.drawn
  have hheap : w'.heap = W.heap ++ w'.heap.extract W.heap.size w'.heap.size := by
    apply Array.ext_getElem?
    intro k
    by_cases hk : k < W.heap.size
    · rw [Array.getElem?_append_left hk]; exact h.block k hk
    · rw [Array.getElem?_append_right (by omega), Array.getElem?_extract]
      have hs := h.size
      by_cases hk2 : k < w'.heap.size
      · rw [if_pos (by omega)]
        congr 1
        omega
      · rw [if_neg (by omega), Array.getElem?_eq_none (by omega)]
  have h1 := h.os
  have h2 := h.tape
  have h3 := h.output
  obtain ⟨heap', tape', drawn', os', output'⟩ := w'
  obtain ⟨heap, tape, drawn, os, output⟩ := W
  simp only [] at *
  subst h1 h2 h3
  show (⟨heap', _, drawn', _, _⟩ : World) = ⟨heap ++ _, _, drawn + (drawn' - drawn), _, _⟩
  rw [← hheap, show drawn + (drawn' - drawn) = drawn' by omega]
  rfl
/-- The closure's comparison. -/
noncomputable def cfB (x y : List Int) : Int := orL [cmp_Compare_int_0 (x.getD 0 0) (y.getD 0 0), cmp_Compare_int_0 (x.getD 2 0) (y.getD 2 0), cmp_Compare_int_0 (x.getD 1 0) (y.getD 1 0), cmp_Compare_int_0 (x.getD 3 0) (y.getD 3 0)]
theorem tidy1_calls (x y : List Int) (W : World) : Calls Tryz.prog 51 #[.agg (elV [.int .i64, .int .i64, .int .i64, .int .i64] 0 x).toArray, .agg (elV [.int .i64, .int .i64, .int .i64, .int .i64] 0 y).toArray] W fun e w' =>
    e = .returned (.int .i64 (cfB x y)) ∧ ∃ q os', w' = grow (W.drewN q) os' := by
  have hD : D38 51 [.agg [.int .i64 (x.getD 0 0), .int .i64 (x.getD 1 0), .int .i64 (x.getD 2 0), .int .i64 (x.getD 3 0)], .agg [.int .i64 (y.getD 0 0), .int .i64 (y.getD 1 0), .int .i64 (y.getD 2 0), .int .i64 (y.getD 3 0)]] [] = some ⟨some (drift_Tidy_1_pre (x.getD 0 0) (x.getD 1 0) (x.getD 2 0) (x.getD 3 0) (y.getD 0 0) (y.getD 1 0) (y.getD 2 0) (y.getD 3 0)), [], 0, [], .int .i64 (drift_Tidy_1_0 (x.getD 0 0) (x.getD 1 0) (x.getD 2 0) (x.getD 3 0) (y.getD 0 0) (y.getD 1 0) (y.getD 2 0) (y.getD 3 0))⟩ := rfl
  obtain ⟨_, _, hc⟩ := (D38_ok _ _ _ _ hD).1 rfl
  have hs := or_spec [[cmp_Compare_int_0 (x.getD 0 0) (y.getD 0 0)], [cmp_Compare_int_0 (x.getD 2 0) (y.getD 2 0)], [cmp_Compare_int_0 (x.getD 1 0) (y.getD 1 0)], [cmp_Compare_int_0 (x.getD 3 0) (y.getD 3 0)]] (by simp)
  refine (hc hs.1 (fun _ => .slice none 0 0) W ⟨fun _ => rfl, fun o ho => (by cases ho), fun o ho => (by cases ho)⟩).mono ?_
  rintro e w' ⟨E', rfl, hg⟩
  refine ⟨?_, blw_grow hg.below⟩
  show Ending.returned (.int .i64 (drift_Tidy_1_0 _ _ _ _ _ _ _ _)) = _
  unfold drift_Tidy_1_0
  rw [hs.2]
  rfl
theorem cmp_neg (a b : Int) : cmp_Compare_int_0 a b < 0 ↔ a < b := by
  unfold cmp_Compare_int_0
  simp only [bne_self_eq_false, cond_false]
  by_cases h : a < b
  · simp [h]
  · by_cases h2 : a > b
    · simp [h, h2]
    · simp [h, h2]
theorem cmp_zero (a b : Int) : cmp_Compare_int_0 a b = 0 ↔ a = b := by
  unfold cmp_Compare_int_0
  simp only [bne_self_eq_false, cond_false]
  by_cases h : a < b
  · simp [h]; omega
  · by_cases h2 : a > b
    · simp [h, h2]; omega
    · simp [h, h2]; omega
theorem orL_leL (x y : List Int) : ∀ ks : List Nat, decide (orL (ks.map fun k => cmp_Compare_int_0 (x.getD k 0) (y.getD k 0)) < 0) = !leL ks y x
  | [] => by simp [orL, leL]
  | k :: ks => by
    rw [List.map_cons]
    unfold orL leL
    by_cases h : x.getD k 0 = y.getD k 0
    · rw [if_neg (by simpa using (cmp_zero _ _).2 h), if_pos h.symm]
      exact orL_leL x y ks
    · rw [if_pos (fun e => h ((cmp_zero _ _).1 e)), if_neg (Ne.symm h)]
      by_cases h2 : x.getD k 0 < y.getD k 0
      · rw [decide_eq_true ((cmp_neg _ _).2 h2), decide_eq_false (by omega)]; rfl
      · rw [decide_eq_false (fun e => h2 ((cmp_neg _ _).1 e)), decide_eq_true (by omega)]; rfl
theorem lt_leB (x y : List Int) : ltOf cfB x y = !leL [0, 2, 1, 3] y x := orL_leL x y [0, 2, 1, 3]
theorem swoB : SWO (ltOf cfB) := by
  have le_ne : ∀ {a b : List Int}, leL [0, 2, 1, 3] a b = false → leL [0, 2, 1, 3] b a = true := fun {a b} h => (leL_total _ a b).resolve_left (by simp [h])
  refine ⟨fun x => ?_, fun x y z h k => ?_, fun x y z h k => ?_⟩
  · rw [lt_leB]
    have := leL_total [0, 2, 1, 3] x x
    simp_all
  · rw [lt_leB] at *
    simp only [Bool.not_eq_true'] at *
    cases hz : leL [0, 2, 1, 3] z x with
    | false => rfl
    | true =>
      have := leL_trans _ _ _ _ hz (le_ne h)
      rw [k] at this
      cases this
  · rw [lt_leB] at *
    simp only [Bool.not_eq_false'] at *
    exact leL_trans _ _ _ _ k h
theorem sort4_list {l : List (List Int)} {d' : Array (List Int)} (hp : PermIn 0 l.length (l.map (norm 4)).toArray d') (hs : SortedIn (ltOf cfB) 0 l.length d') : d'.toList = sortRows 4 [0, 2, 1, 3] l := by
  obtain ⟨h1, _, h3⟩ := hp
  have hsz : d'.size = l.length := by simpa using h1
  have e1 : (d'.extract 0 l.length).toList = d'.toList := by rw [← hsz]; simp
  have e2 : (((l.map (norm 4)).toArray).extract 0 l.length).toList = l.map (norm 4) := by
    rw [Array.toList_extract]
    exact List.take_of_length_le (by simp)
  rw [e1, e2] at h3
  unfold sortRows
  refine isort_unique (leL_total _) (leL_trans _) (fun a ha b hb h k => ?_) h3 ?_
  · obtain ⟨ra, _, rfl⟩ := List.mem_map.1 ha
    obtain ⟨rb, _, rfl⟩ := List.mem_map.1 hb
    have := leL_anti _ _ _ h k
    refine norm_ext fun j hj => ?_
    have hj' : j ∈ [0, 2, 1, 3] := by
      have : j = 0 ∨ j = 1 ∨ j = 2 ∨ j = 3 := by omega
      rcases this with rfl | rfl | rfl | rfl <;> simp
    have := this j hj'
    rwa [norm_get 4 ra hj, norm_get 4 rb hj] at this
  · rw [List.pairwise_iff_getElem]
    intro i j hi hj hij
    have hi' : i < d'.size := by simpa using hi
    have hj' : j < d'.size := by simpa using hj
    have := hs i j (Nat.zero_le _) hij (by omega)
    rw [lt_leB, getElem!_pos d' j hj', getElem!_pos d' i hi'] at this
    simpa using this
theorem sortF_turns : Turns Tryz.prog 50 (some 51) 29 [.int .i64, .int .i64, .int .i64, .int .i64] (fun l => some (l ≠ [] ∧ l.length < 4611686018427387904)) (sortRows 4 [0, 2, 1, 3]) (fun _ => .tup []) := by
  intro l v w hp _ hr
  obtain ⟨hne, hlt⟩ : l ≠ [] ∧ l.length < 4611686018427387904 := hp _ rfl
  rcases own_cases hr with ⟨a, rfl, h0⟩ | ⟨b, cap, hcap, rfl, hb, hbw, hmax, hle, hold, hput⟩
  · exact absurd h0 hne
  · have eg : ∀ args w, (callFunc 51 args).run Tryz.prog w = .ok (.enter 51 args) w := enters_of Tryz.func51 (by kernel_rfl) rfl
    have hrowV : rowV [.int .i64, .int .i64, .int .i64, .int .i64] (l.map (norm 4)) = rowV [.int .i64, .int .i64, .int .i64, .int .i64] l := rowV_norm [.int .i64, .int .i64, .int .i64, .int .i64] l
    have hH : HoldsK (elV [.int .i64, .int .i64, .int .i64, .int .i64] 0) 4 w b 0 (l.map (norm 4)).toArray := hold Value inferInstance id _ ((flat_list [.int .i64, .int .i64, .int .i64, .int .i64] (l.map (norm 4))).trans hrowV)
    have h := AnyQ.slices_SortFunc Tryz.sortFn 4 Tryz.isAgg29 Tryz.sizeOf29 (elV [.int .i64, .int .i64, .int .i64, .int .i64] 0) (fun x => elV_length _ _ _) (fun x u hu => elV_one _ _ _ u hu) cfB swoB 51 #[] b 0 cap (l.map (norm 4)).toArray w eg (fun _ _ _ _ x y => tidy1_calls x y _) hH hbw (by simpa using hlt)
    have es : (l.map (norm 4)).toArray.size = l.length := by simp
    rw [es] at h
    refine h.mono ?_
    rintro e w' ⟨rfl, d', n, os, g1, g2, rfl⟩
    have hd := sort4_list g1 g2
    have e3 : d' = (sortRows 4 [0, 2, 1, 3] l).toArray := by rw [← hd]
    have := hput Value inferInstance id (flatK (elV [.int .i64, .int .i64, .int .i64, .int .i64] 0) 4 (sortRows 4 [0, 2, 1, 3] l).toArray) (sortRows 4 [0, 2, 1, 3] l) n os (by simp [sortRows, isort_length]) (rowV_length _ _) (flat_list [.int .i64, .int .i64, .int .i64, .int .i64] _)
    rw [hb, e3]
    exact ⟨rfl, this.1, this.2⟩
noncomputable def D39 : Con := conR D38 50 (some 51) 29 [.int .i64, .int .i64, .int .i64, .int .i64] (fun l => some (l ≠ [] ∧ l.length < 4611686018427387904)) (sortRows 4 [0, 2, 1, 3]) (fun _ => .tup [])
theorem D39_ok : ConOk Tryz.prog D39 := conOk_conR D38_ok (fun _ k hk => by cases hk) ⟨_, Tryz.func50, by decide, rfl⟩ sortF_turns
end Go.Proofs.YtddfnokjnafdpaaGreat
