/-
  slices.Sort at []int, as a contract that turns a row in place.
-/
import Derived.Test.YtddfnokjnafdpaaGreatSyRc
import Derived.Test.YtddfnokjnafdpaaGreatSySo
import Derived.Test.YtddfnokjnafdpaaGreatShelf
import Derived.Test.YtddfnokjnafdpaaGreatDrift1
set_option linter.unusedVariables false
namespace Go.Proofs.YtddfnokjnafdpaaGreat
open Go Go.Sy Go.Proofs Go.RowKit Go.Sort

theorem merge_isort (zs : List Int) : (zs.mergeSort fun x y => decide (x ≤ y)) = isort leI zs :=
  isort_unique leI_total leI_trans (fun a _ b _ h k => by simp [leI] at *; omega) (List.mergeSort_perm _ _) (List.pairwise_mergeSort (fun a b c h k => leI_trans a b c h k) (fun a b => by have := leI_total a b; simpa [leI] using this) zs)
theorem rowV_nums (l : List (List Int)) : (nums l).map (Value.int .i64) = rowV [.int .i64] l := by
  induction l with
  | nil => rfl
  | cons r l ih =>
    show Value.int .i64 (r.getD 0 0) :: (nums l).map (Value.int .i64) = elV [.int .i64] 0 r ++ rowV [.int .i64] l
    rw [ih]; rfl
theorem sort_turns : Turns Tryz.prog 57 none 3 [.int .i64] (fun l => some (l.length < 4611686018427387904)) sortNums (fun _ => .tup []) := by
  intro l v w hp _ hr
  have hlt : l.length < 4611686018427387904 := hp _ rfl
  rcases own_cases hr with ⟨a, rfl, rfl⟩ | ⟨b, cap, hcap, rfl, hb, hbw, hmax, hle, hold, hput⟩
  · refine (Any.slices_Sort_int_none Tryz.lays189 a 0 w).mono ?_
    rintro e w' ⟨rfl, rfl⟩
    exact ⟨rfl, (hr : RowOk _ true 3 [CK.int IntKind.i64].length _ (sortNums []).length _), Chg.refl _ _⟩
  · have h := Any.slices_Sort_int Tryz.lays189 b 0 cap (nums l) w (hold Int _ (Value.int .i64) (nums l).toArray (by simpa using rowV_nums l)) hbw (by simpa [nums] using hlt)
    have el : (nums l).length = l.length := by simp [nums]
    rw [el] at h
    refine h.mono ?_
    rintro e w' ⟨rfl, n, os, rfl⟩
    rw [merge_isort]
    have := hput Int inferInstance (Value.int .i64) (isort leI (nums l)).toArray (sortNums l) n os (by simp [sortNums, ofNums, nums, isort_length]) (rowV_length _ _) (by
      rw [← rowV_nums (sortNums l)]
      unfold sortNums
      rw [nums_ofNums])
    rw [hb]
    exact ⟨rfl, this.1, this.2⟩
theorem info_cur : (Tryz.prog.info? 50).map (fun i => (i.size, i.bytes, i.zero.map fun z => z.cells.size)) = some (6, 48, some 6) := by kernel_rfl
theorem grow_grows : Grows Tryz.prog 80 50 [.int .i64, .int .i64, .int .i64, .int .i64, .int .i64, .int .i64] 48 := by
  intro n w hb hn
  have hinfo := info_cur
  cases hi : Tryz.prog.info? 50 with
  | none => rw [hi] at hinfo; cases hinfo
  | some i0 =>
  rw [hi] at hinfo
  simp only [Option.map_some, Option.some.injEq, Prod.mk.injEq] at hinfo
  obtain ⟨h1, h2, h3⟩ := hinfo
  cases hz : i0.zero with
  | none => rw [hz] at h3; cases h3
  | some z =>
  rw [hz] at h3
  simp only [Option.map_some, Option.some.injEq] at h3
  by_cases h0 : n = 0
  · subst h0
    refine (Any8.slices_Grow_room Tryz.growE none 0 0 0 w (Nat.le_refl _) (by omega) (by omega) (by omega)).mono ?_
    rintro e w' ⟨rfl, rfl⟩
    exact ⟨_, rfl, rfl, .inl ⟨none, rfl, rfl⟩, Blw.refl _ _, by simp [blkO]⟩
  · refine (Any8.slices_Grow_grow Tryz.growE i0 z hi hz (by omega) none 0 0 n [] w (Nat.le_refl _) (by omega) (by rw [h2]; omega) (by omega) (by simp) (fun _ => rfl) (fun a ha => by cases ha)).mono ?_
    rintro e w' ⟨rfl, rfl⟩
    have hge := grownCap_ge w (0 + n) 0 50
    have hcm := grownCap_le_maxLen w (0 + n) 0 50 (by unfold maxLen; omega)
    refine ⟨_, rfl, rfl, .inr ⟨w.heap.size, _, _, rfl, heap_alloc_get w.drew _, Nat.zero_le _, hcm, ?_, by simp⟩, (Blw.refl _ _).drew.alloc (Nat.le_refl _) _, ?_⟩
    · simp only [Array.size_append, List.size_toArray, size_zeroCells, h3, List.length_nil]
      show 0 + (0 + n - 0) * 6 + (grownCap w (0 + n) 0 50 - (0 + n)) * 6 = grownCap w (0 + n) 0 50 * 6
      omega
    · intro b hb
      have hb : (if grownCap w (0 + n) 0 50 = 0 then none else some w.heap.size) = some b := hb
      split at hb
      · cases hb
      · cases hb; exact Nat.le_refl _
theorem compact_dd (zs : List Int) : Lib.compact zs = dd none zs := by
  have key : ∀ m, m ≤ zs.length → Lib.compactUpTo zs.toArray m = dd none (zs.take m) := by
    intro m
    induction m with
    | zero => intro _; simp [Lib.compactUpTo, dd]
    | succ m ih =>
      intro hm
      have hm' : m < zs.length := hm
      rw [Lib.compactUpTo_succ, ih (by omega), List.take_succ_eq_append_getElem hm', dd_snoc]
      congr 1
      have e1 : zs.toArray[m]! = zs[m] := by simp [getElem!_pos zs.toArray m (by simpa using hm')]
      cases m with
      | zero => simp [Lib.keeps, hm']
      | succ k =>
        have hk : k < zs.length := by omega
        have e2 : zs.toArray[k]! = zs[k] := by simp [getElem!_pos zs.toArray k (by simpa using hk)]
        have e3 : (zs.take (k + 1)).getLast? = some zs[k] := by
          rw [List.take_succ_eq_append_getElem hk, List.getLast?_concat]
        rw [e3, Option.some_or]
        simp only [Lib.keeps, e1, Nat.add_sub_cancel, e2]
        by_cases h : zs[k] = zs[k + 1]
        · simp [h]
        · simp [h, Ne.symm h]
  have := key zs.length (Nat.le_refl _)
  rwa [List.take_length] at this
theorem compact_turns : Turns Tryz.prog 58 none 3 [.int .i64] (fun _ => none) compNums (fun l => .vw 0 1 none (compLen l)) := by
  intro l v w _ _ hr
  rcases own_cases hr with ⟨a, rfl, rfl⟩ | ⟨b, cap, hcap, rfl, hb, hbw, hmax, hle, hold, hput⟩
  · refine (Any.slices_Compact_int_empty Tryz.laysNm220 a 0 w).mono ?_
    rintro e w' ⟨rfl, rfl⟩
    have e1 : compNums [] = [] := by simp [compNums, nums, ofNums, dd]
    refine ⟨?_, by rw [e1]; exact hr, Chg.refl _ _⟩
    simp [AV.den, partOf, sliced, compLen, nums, dd, loN]
  · have el : (nums l).length = l.length := by simp [nums]
    have h := Any.slices_Compact_int Tryz.laysNm220 b 0 cap (nums l) w (hold Int _ (Value.int .i64) (nums l).toArray (by simpa using rowV_nums l)) (by unfold maxLen at hmax; omega) (by omega)
    rw [el, compact_dd] at h
    refine h.mono ?_
    rintro e w' ⟨rfl, q, rfl⟩
    have hl := dd_length (nums l) none
    have := hput Int inferInstance (Value.int .i64) (dd none (nums l) ++ List.replicate (l.length - (dd none (nums l)).length) 0).toArray (compNums l) q #[] (by simp [compNums, ofNums, el]; omega) (rowV_length _ _) (by
      rw [← rowV_nums (compNums l)]
      unfold compNums
      rw [nums_ofNums, el])
    rw [grow_empty] at this
    rw [hb]
    refine ⟨?_, this.1, this.2⟩
    have e5 : ((⟨b, 0, none⟩ : Addr).add 0) = ⟨b, 0, none⟩ := rfl
    simp [AV.den, partOf, sliced, compLen, loN, e5]
noncomputable def D33 : Con := conR D32 57 none 3 [.int .i64] (fun l => some (l.length < 4611686018427387904)) sortNums (fun _ => .tup [])
theorem D33_ok : ConOk Tryz.prog D33 := conOk_conR D32_ok (fun _ k hk => by cases hk) ⟨_, Tryz.func57, by decide, rfl⟩ sort_turns
noncomputable def D34 : Con := conGrow D33 80 50 [.int .i64, .int .i64, .int .i64, .int .i64, .int .i64, .int .i64] 48
theorem D34_ok : ConOk Tryz.prog D34 := conOk_conGrow D33_ok ⟨_, Tryz.func80, by decide, rfl⟩ grow_grows
noncomputable def D35 : Con := conR D34 58 none 3 [.int .i64] (fun _ => none) compNums (fun l => .vw 0 1 none (compLen l))
theorem D35_ok : ConOk Tryz.prog D35 := conOk_conR D34_ok (fun l k hk => by simpa [AV.keys] using hk) ⟨_, Tryz.func58, by decide, rfl⟩ compact_turns
end Go.Proofs.YtddfnokjnafdpaaGreat
