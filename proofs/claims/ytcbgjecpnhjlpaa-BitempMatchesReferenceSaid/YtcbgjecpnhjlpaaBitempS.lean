/-
  slices.SortFunc at []api.Row, of rows of which no two have the same key.
-/
import Derived.Test.YtcbgjecpnhjlpaaSyRc
import Derived.Test.YtcbgjecpnhjlpaaSySo
import Derived.Test.YtcbgjecpnhjlpaaShelf
import Derived.Test.YtcbgjecpnhjlpaaBitempC
import Derived.Test.YtcbgjecpnhjlpaaBitempZ
import Derived.Shelf.SlSortCmp.WholeK
set_option linter.unusedVariables false
namespace Go.Proofs.Ytcbgjecpnhjlpaa
open Go Go.Sy Go.Proofs Go.RowKit Go.Sort

theorem blw_grow {W w' : World} (h : Blw W.heap.size W w') : ∃ q os', w' = grow (W.drewN q) os' := by
  refine ⟨w'.drawn - W.drawn, w'.heap.extract W.heap.size w'.heap.size, ?_⟩
  have hd := h.drawn
  have hheap : w'.heap = W.heap ++ w'.heap.extract W.heap.size w'.heap.size := by
    apply Array.ext_getElem?
    intro k
    by_cases hk : k < W.heap.size
    · rw [Array.getElem?_append_left hk]; exact h.block k hk
    · rw [Array.getElem?_append_right (by omega), Array.getElem?_extract]
      have hs := h.size
      by_cases hk2 : k < w'.heap.size
      · rw [if_pos (by omega)]
        congr 1
        omega
      · rw [if_neg (by omega), Array.getElem?_eq_none (by omega)]
  have h1 := h.os
  have h2 := h.tape
  have h3 := h.output
  obtain ⟨heap', tape', drawn', os', output'⟩ := w'
  obtain ⟨heap, tape, drawn, os, output⟩ := W
  simp only [] at *
  subst h1 h2 h3
  show (⟨heap', _, drawn', _, _⟩ : World) = ⟨heap ++ _, _, drawn + (drawn' - drawn), _, _⟩
  rw [← hheap, show drawn + (drawn' - drawn) = drawn' by omega]
  rfl
/-- A closure's comparison: of one number of a row. -/
noncomputable def cfK (k : Nat) (x y : List Int) : Int := cmp_Compare_int_0 (x.getD k 0) (y.getD k 0)
theorem cover1_calls (x y : List Int) (W : World) : Calls Try.prog 70 #[.agg (elV ksR 0 x).toArray, .agg (elV ksR 0 y).toArray] W fun e w' =>
    e = .returned (.int .i64 (cfK 2 x y)) ∧ ∃ q os', w' = grow (W.drewN q) os' := by
  have hD : B17 70 [.agg [.int .i64 (x.getD 0 0), .int .i64 (x.getD 1 0), .int .i64 (x.getD 2 0), .int .i64 (x.getD 3 0), .int .i64 (x.getD 4 0)], .agg [.int .i64 (y.getD 0 0), .int .i64 (y.getD 1 0), .int .i64 (y.getD 2 0), .int .i64 (y.getD 3 0), .int .i64 (y.getD 4 0)]] [] = some ⟨none, [], 0, [], .int .i64 (cfK 2 x y)⟩ := rfl
  obtain ⟨_, _, hc⟩ := (B17_ok _ _ _ _ hD).1 rfl
  refine (hc trivial (fun _ => .slice none 0 0) W ⟨fun _ => rfl, fun o ho => (by cases ho), fun o ho => (by cases ho)⟩).mono ?_
  rintro e w' ⟨E', rfl, hg⟩
  exact ⟨rfl, blw_grow hg.below⟩
theorem merge2_calls (x y : List Int) (W : World) : Calls Try.prog 56 #[.agg (elV ksR 0 x).toArray, .agg (elV ksR 0 y).toArray] W fun e w' =>
    e = .returned (.int .i64 (cfK 4 x y)) ∧ ∃ q os', w' = grow (W.drewN q) os' := by
  have hD : B17 56 [.agg [.int .i64 (x.getD 0 0), .int .i64 (x.getD 1 0), .int .i64 (x.getD 2 0), .int .i64 (x.getD 3 0), .int .i64 (x.getD 4 0)], .agg [.int .i64 (y.getD 0 0), .int .i64 (y.getD 1 0), .int .i64 (y.getD 2 0), .int .i64 (y.getD 3 0), .int .i64 (y.getD 4 0)]] [] = some ⟨none, [], 0, [], .int .i64 (cfK 4 x y)⟩ := rfl
  obtain ⟨_, _, hc⟩ := (B17_ok _ _ _ _ hD).1 rfl
  refine (hc trivial (fun _ => .slice none 0 0) W ⟨fun _ => rfl, fun o ho => (by cases ho), fun o ho => (by cases ho)⟩).mono ?_
  rintro e w' ⟨E', rfl, hg⟩
  exact ⟨rfl, blw_grow hg.below⟩
theorem lt_leK (k : Nat) (x y : List Int) : ltOf (cfK k) x y = !leL [k] y x := by
  show decide (cfK k x y < 0) = _
  unfold cfK leL leL
  by_cases h : x.getD k 0 < y.getD k 0
  · rw [decide_eq_true ((cmp_neg _ _).2 h), if_neg (by omega), decide_eq_false (by omega)]; rfl
  · rw [decide_eq_false (fun e => h ((cmp_neg _ _).1 e))]
    by_cases h2 : y.getD k 0 = x.getD k 0
    · rw [if_pos h2]; rfl
    · rw [if_neg h2, decide_eq_true (by omega)]; rfl
theorem swoK (k : Nat) : SWO (ltOf (cfK k)) := by
  have le_ne : ∀ {a b : List Int}, leL [k] a b = false → leL [k] b a = true := fun {a b} h => (leL_total _ a b).resolve_left (by simp [h])
  refine ⟨fun x => ?_, fun x y z h k' => ?_, fun x y z h k' => ?_⟩
  · rw [lt_leK]
    have := leL_total [k] x x
    simp_all
  · rw [lt_leK] at *
    simp only [Bool.not_eq_true'] at *
    cases hz : leL [k] z x with
    | false => rfl
    | true =>
      have := leL_trans _ _ _ _ hz (le_ne h)
      rw [k'] at this
      cases this
  · rw [lt_leK] at *
    simp only [Bool.not_eq_false'] at *
    exact leL_trans _ _ _ _ k' h
theorem sortK_list {k : Nat} (hk5 : k < 5) {l : List (List Int)} {d' : Array (List Int)} (hn : (l.map fun r => r.getD k 0).Nodup) (hp : PermIn 0 l.length (l.map (norm 5)).toArray d') (hs : SortedIn (ltOf (cfK k)) 0 l.length d') : d'.toList = sortRows 5 [k] l := by
  obtain ⟨h1, _, h3⟩ := hp
  have hsz : d'.size = l.length := by simpa using h1
  have e1 : (d'.extract 0 l.length).toList = d'.toList := by rw [← hsz]; simp
  have e2 : (((l.map (norm 5)).toArray).extract 0 l.length).toList = l.map (norm 5) := by
    rw [Array.toList_extract]
    exact List.take_of_length_le (by simp)
  rw [e1, e2] at h3
  unfold sortRows
  refine isort_unique (leL_total _) (leL_trans _) (fun a ha b hb h h' => ?_) h3 ?_
  · have hkk := leL_anti _ _ _ h h' k (by simp)
    have hn' : ((l.map (norm 5)).map fun r => r.getD k 0).Nodup := by
      rw [List.map_map]
      have : ((fun r : List Int => r.getD k 0) ∘ norm 5) = fun r => r.getD k 0 := by
        funext r
        exact norm_get 5 r hk5
      rw [this]; exact hn
    obtain ⟨i, hi, rfl⟩ := List.mem_iff_getElem.1 ha
    obtain ⟨j, hj, rfl⟩ := List.mem_iff_getElem.1 hb
    have : i = j := by
      have hn2 := List.nodup_iff_pairwise_ne.1 hn'
      rw [List.pairwise_iff_getElem] at hn2
      rcases Nat.lt_trichotomy i j with h | h | h
      · exact absurd (by simpa using hkk) (hn2 i j (by simpa using hi) (by simpa using hj) h)
      · exact h
      · exact absurd (by simpa using hkk.symm) (hn2 j i (by simpa using hj) (by simpa using hi) h)
    subst this
    rfl
  · rw [List.pairwise_iff_getElem]
    intro i j hi hj hij
    have hi' : i < d'.size := by simpa using hi
    have hj' : j < d'.size := by simpa using hj
    have := hs i j (Nat.zero_le _) hij (by omega)
    rw [lt_leK, getElem!_pos d' j hj', getElem!_pos d' i hi'] at this
    simpa using this
theorem sortF_turns : Turns Try.prog 69 (some 70) 24 ksR (fun l => some (l ≠ [] ∧ l.length < 4611686018427387904 ∧ (l.map fun r => r.getD 2 0).Nodup)) (sortRows 5 [2]) (fun _ => .tup []) := by
  intro l v w hp _ hr
  obtain ⟨hne, hlt, hnd⟩ : l ≠ [] ∧ l.length < 4611686018427387904 ∧ (l.map fun r => r.getD 2 0).Nodup := hp _ rfl
  rcases own_cases hr with ⟨a, rfl, h0⟩ | ⟨b, cap, hcap, rfl, hb, hbw, hmax, hle, hold, hput⟩
  · exact absurd h0 hne
  · have eg : ∀ args w, (callFunc 70 args).run Try.prog w = .ok (.enter 70 args) w := enters_of Try.func70 (by kernel_rfl) rfl
    have hrowV : rowV ksR (l.map (norm 5)) = rowV ksR l := rowV_norm ksR l
    have hH : HoldsK (elV ksR 0) 5 w b 0 (l.map (norm 5)).toArray := hold Value inferInstance id _ ((flat_list ksR (l.map (norm 5))).trans hrowV)
    have h := AnyQ.slices_SortFunc Try.sortFn 5 Try.isAgg24 Try.sizeOf24 (elV ksR 0) (fun x => elV_length _ _ _) (fun x u hu => elV_one _ _ _ u hu) (cfK 2) (swoK 2) 70 #[] b 0 cap (l.map (norm 5)).toArray w eg (fun _ _ _ _ x y => cover1_calls x y _) hH hbw (by simpa using hlt)
    have es : (l.map (norm 5)).toArray.size = l.length := by simp
    rw [es] at h
    refine h.mono ?_
    rintro e w' ⟨rfl, d', n, os, g1, g2, rfl⟩
    have hd := sortK_list (by omega) hnd g1 g2
    have e3 : d' = (sortRows 5 [2] l).toArray := by rw [← hd]
    have := hput Value inferInstance id (flatK (elV ksR 0) 5 (sortRows 5 [2] l).toArray) (sortRows 5 [2] l) n os (by simp [sortRows, isort_length]) (rowV_length _ _) (flat_list ksR _)
    rw [hb, e3]
    exact ⟨rfl, this.1, this.2⟩
noncomputable def B18 : Con := conR B17 69 (some 70) 24 ksR (fun l => some (l ≠ [] ∧ l.length < 4611686018427387904 ∧ (l.map fun r => r.getD 2 0).Nodup)) (sortRows 5 [2]) (fun _ => .tup [])
theorem B18_ok : ConOk Try.prog B18 := conOk_conR B17_ok (fun _ k hk => by cases hk) ⟨_, Try.func69, by decide, rfl⟩ sortF_turns
noncomputable def B19 : Con := conR B18 55 (some 56) 24 ksR (fun l => some (l.length < 1152921504606846976)) (stabRows 5 4) (fun _ => .tup [])
theorem B19_ok : ConOk Try.prog B19 := conOk_conR B18_ok (fun _ k hk => by cases hk) ⟨_, Try.func55, by decide, rfl⟩ stable_turns
end Go.Proofs.Ytcbgjecpnhjlpaa
