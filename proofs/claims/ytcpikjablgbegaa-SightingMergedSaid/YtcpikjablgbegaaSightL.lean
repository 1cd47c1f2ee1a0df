/-
  The loops of package sighting and of its reference as functions on lists.
-/
import Derived.Test.YtcpikjablgbegaaSyLq
import Derived.Test.YtcpikjablgbegaaSyH
import Derived.Test.YtcpikjablgbegaaSight1D
namespace Go.Proofs.Ytcpikjablgbegaa
open Go Go.Sy

theorem ints_is (a b : List (List Int)) (ha : a.length < 4611686018427387904) :
    ref24_Ints_pre a b ∧ (ref24_Ints_0 a b = true ↔ a.length = b.length ∧ ∀ i, i < a.length → (a.getD i []).getD 0 0 = (b.getD i []).getD 0 0) := by
  unfold ref24_Ints_pre ref24_Ints_0
  by_cases hl : a.length = b.length
  · have hl' : ((a.length : Int) != (b.length : Int)) = false := by simp [hl]
    have key := loop_search (step := ref24_Ints_l0_step a b) a.length (fun i => (a.getD i []).getD 0 (0 : Int) != (b.getD i []).getD 0 (0 : Int)) (fun i => [.b false, .i i]) (fun _ => []) 0 2 [.b false, .i a.length]
      (fun i hi => by
        unfold ref24_Ints_l0_step
        simp only [gi_1, gi_z, gb_z, dlt hi, guardP_pos (inR_of hi), guardP_pos (inR_of (hl ▸ hi : i < b.length)), Int.toNat_natCast, wrap_succ (show i < 4611686018427387904 by omega)]
        try rfl)
      (by
        unfold ref24_Ints_l0_step
        simp only [gi_1, gi_z, gb_z, dnlt]
        try rfl)
    rw [hl']
    refine ⟨fun _ => key.1, ?_⟩
    rcases key.2 with ⟨i, h1, h2, h3, h4⟩ | ⟨h3, h4⟩
    · have e : ref24_Ints_l0 a b = (1, []) := h4
      rw [e]
      simp only [cond_false, Nat.beq]
      constructor
      · intro h; cases h
      · rintro ⟨_, h⟩
        have := h i h1
        rw [bne_iff_ne] at h2
        exact absurd this h2
    · have e : ref24_Ints_l0 a b = (3, [.b false, .i a.length]) := h4
      rw [e]
      simp only [cond_false, Nat.beq]
      refine ⟨fun _ => ⟨hl, fun i hi => ?_⟩, fun _ => by trivial⟩
      have := h3 i hi
      simpa using this
  · have hl' : ((a.length : Int) != (b.length : Int)) = true := by simp; omega
    rw [hl']
    refine ⟨fun h => (Bool.noConfusion h), ?_⟩
    simp only [cond_true]
    constructor
    · intro h; cases h
    · exact fun h => absurd h.1 hl

/-- A report out of its numbers. -/
theorem el13 {el : List Int} (h : el.length = 13) : [el.getD 0 0, el.getD 1 0, el.getD 2 0, el.getD 3 0, el.getD 4 0, el.getD 5 0, el.getD 6 0, el.getD 7 0, el.getD 8 0, el.getD 9 0, el.getD 10 0, el.getD 11 0, el.getD 12 0] = el := by
  match el, h with
  | [_, _, _, _, _, _, _, _, _, _, _, _, _], _ => rfl
/-- Equality as the code has it. -/
def same13 (a b : List Int) : Bool :=
  (a.getD 0 (0 : Int) == b.getD 0 (0 : Int) &&
    (a.getD 1 (0 : Int) == b.getD 1 (0 : Int) &&
      (a.getD 2 (0 : Int) == b.getD 2 (0 : Int) &&
        (a.getD 3 (0 : Int) == b.getD 3 (0 : Int) &&
          (a.getD 4 (0 : Int) == b.getD 4 (0 : Int) &&
                (a.getD 5 (0 : Int) == b.getD 5 (0 : Int) && true) &&
              (a.getD 6 (0 : Int) == b.getD 6 (0 : Int) &&
                  (a.getD 7 (0 : Int) == b.getD 7 (0 : Int) && true) &&
                true) &&
            (a.getD 8 (0 : Int) == b.getD 8 (0 : Int) &&
                (a.getD 9 (0 : Int) == b.getD 9 (0 : Int) && true) &&
              (a.getD 10 (0 : Int) == b.getD 10 (0 : Int) &&
                  (a.getD 11 (0 : Int) == b.getD 11 (0 : Int) && true) &&
                (a.getD 12 (0 : Int) == b.getD 12 (0 : Int) && true))))))))
theorem same13_is {a b : List Int} (ha : a.length = 13) (hb : b.length = 13) : same13 a b = decide (a = b) := by
  match a, ha, b, hb with
  | [_, _, _, _, _, _, _, _, _, _, _, _, _], _, [_, _, _, _, _, _, _, _, _, _, _, _, _], _ =>
    rw [Bool.eq_iff_iff]
    simp [same13, and_assoc]

theorem same_is (a b : List (List Int)) (ha : a.length < 4611686018427387904) :
    ref24_Same_pre a b ∧ (ref24_Same_0 a b = true ↔ a.length = b.length ∧ ∀ i, i < a.length → same13 (a.getD i []) (b.getD i []) = true) := by
  unfold ref24_Same_pre ref24_Same_0
  by_cases hl : a.length = b.length
  · have hl' : ((a.length : Int) != (b.length : Int)) = false := by simp [hl]
    have key := loop_search (step := ref24_Same_l0_step a b) a.length (fun i => !same13 (a.getD i []) (b.getD i [])) (fun i => [.b false, .i i]) (fun _ => []) 0 2 [.b false, .i a.length]
      (fun i hi => by
        unfold ref24_Same_l0_step
        simp only [gi_1, gi_z, gb_z, dlt hi, guardP_pos (inR_of hi), guardP_pos (inR_of (hl ▸ hi : i < b.length)), Int.toNat_natCast, wrap_succ (show i < 4611686018427387904 by omega)]
        try rfl)
      (by
        unfold ref24_Same_l0_step
        simp only [gi_1, gi_z, gb_z, dnlt]
        try rfl)
    rw [hl']
    refine ⟨fun _ => key.1, ?_⟩
    rcases key.2 with ⟨i, h1, h2, h3, h4⟩ | ⟨h3, h4⟩
    · have e : ref24_Same_l0 a b = (1, []) := h4
      rw [e]
      simp only [cond_false, Nat.beq]
      constructor
      · intro h; cases h
      · rintro ⟨_, h⟩
        have := h i h1
        rw [this] at h2
        cases h2
    · have e : ref24_Same_l0 a b = (3, [.b false, .i a.length]) := h4
      rw [e]
      simp only [cond_false, Nat.beq]
      refine ⟨fun _ => ⟨hl, fun i hi => ?_⟩, fun _ => by trivial⟩
      have := h3 i hi
      simpa using this
  · have hl' : ((a.length : Int) != (b.length : Int)) = true := by simp; omega
    rw [hl']
    refine ⟨fun h => (Bool.noConfusion h), ?_⟩
    simp only [cond_true]
    constructor
    · intro h; cases h
    · exact fun h => absurd h.1 hl

/-- Lists of equal elements. -/
theorem list_eq_of {a b : List (List Int)} (hl : a.length = b.length) (h : ∀ i, i < a.length → a.getD i [] = b.getD i []) : a = b := by
  apply List.ext_getElem hl
  intro i h1 h2
  have := h i h1
  rwa [List.getD_eq_getElem?_getD, List.getD_eq_getElem?_getD, List.getElem?_eq_getElem h1, List.getElem?_eq_getElem h2] at this
theorem getD_mem {l : List (List Int)} {i : Nat} (h : i < l.length) : l.getD i [] ∈ l := by
  rw [List.getD_eq_getElem?_getD, List.getElem?_eq_getElem h]
  exact List.getElem_mem h
theorem ints_eq {a b : List (List Int)} (ha : a.length < 4611686018427387904) (h1 : ∀ e ∈ a, e.length = 1) (h2 : ∀ e ∈ b, e.length = 1) : ref24_Ints_0 a b = decide (a = b) := by
  rw [Bool.eq_iff_iff, (ints_is a b ha).2, decide_eq_true_eq]
  constructor
  · rintro ⟨hl, h⟩
    refine list_eq_of hl fun i hi => ?_
    have e1 := h1 _ (getD_mem hi)
    have e2 := h2 _ (getD_mem (hl ▸ hi : i < b.length))
    have e := h i hi
    match a.getD i [], b.getD i [], e1, e2, e with
    | [x], [y], _, _, e => simpa using e
  · rintro rfl; exact ⟨rfl, fun _ _ => rfl⟩
theorem same_eq {a b : List (List Int)} (ha : a.length < 4611686018427387904) (h1 : ∀ e ∈ a, e.length = 13) (h2 : ∀ e ∈ b, e.length = 13) : ref24_Same_0 a b = decide (a = b) := by
  rw [Bool.eq_iff_iff, (same_is a b ha).2, decide_eq_true_eq]
  constructor
  · rintro ⟨hl, h⟩
    refine list_eq_of hl fun i hi => ?_
    have e := h i hi
    rw [same13_is (h1 _ (getD_mem hi)) (h2 _ (getD_mem (hl ▸ hi : i < b.length)))] at e
    simpa using e
  · rintro rfl
    refine ⟨rfl, fun i hi => ?_⟩
    rw [same13_is (h1 _ (getD_mem hi)) (h1 _ (getD_mem hi))]
    simp

/-- The same sighting. -/
def sameKey (r o : List Int) : Bool := o.getD 0 (0 : Int) == r.getD 0 (0 : Int) && o.getD 1 (0 : Int) == r.getD 1 (0 : Int)
/-- The index of the first one. -/
def fnd (l : List (List Int)) (r : List Int) : Int := match l.findIdx? (sameKey r) with | some k => (k : Int) | none => -1
/-- Find on a report. -/
noncomputable def find13 (r : List Int) (l : List (List Int)) : Int := ref24_Find_0 (r.getD 0 0) (r.getD 1 0) (r.getD 2 0) (r.getD 3 0) (r.getD 4 0) (r.getD 5 0) (r.getD 6 0) (r.getD 7 0) (r.getD 8 0) (r.getD 9 0) (r.getD 10 0) (r.getD 11 0) (r.getD 12 0) l
theorem find_is (s n : Int) (r2 r3 r4 r5 r6 r7 r8 r9 r10 r11 r12 : Int) (l : List (List Int)) (hl : l.length < 4611686018427387904) :
    ref24_Find_pre s n r2 r3 r4 r5 r6 r7 r8 r9 r10 r11 r12 l ∧ ref24_Find_0 s n r2 r3 r4 r5 r6 r7 r8 r9 r10 r11 r12 l = fnd l [s, n] := by
  unfold ref24_Find_pre ref24_Find_0
  have key := loop_search (step := ref24_Find_l0_step s n r2 r3 r4 r5 r6 r7 r8 r9 r10 r11 r12 l) l.length (fun i => (l.getD i []).getD 0 (0 : Int) == s && (l.getD i []).getD 1 (0 : Int) == n) (fun i => [.i 0, .i i]) (fun i => [.i i]) 0 2 [.i 0, .i l.length]
    (fun i hi => by
      unfold ref24_Find_l0_step
      simp only [gi_1, gi_z, gb_z, dlt hi, guardP_pos (inR_of hi), guardP_pos (fun _ => inR_of hi), Int.toNat_natCast, wrap_succ (show i < 4611686018427387904 by omega)]
      try rfl)
    (by
      unfold ref24_Find_l0_step
      simp only [gi_1, gi_z, gb_z, dnlt]
      try rfl)
  refine ⟨key.1, ?_⟩
  have gd : ∀ j (h : j < l.length), l[j] = l.getD j [] := fun j h => by rw [List.getD_eq_getElem?_getD, List.getElem?_eq_getElem h]; rfl
  unfold fnd
  rcases key.2 with ⟨i, h1, h2, h3, h4⟩ | ⟨h3, h4⟩
  · have e : ref24_Find_l0 s n r2 r3 r4 r5 r6 r7 r8 r9 r10 r11 r12 l = (1, [.i i]) := h4
    rw [e]
    have e2 : l.findIdx? (sameKey [s, n]) = some i := by
      rw [List.findIdx?_eq_some_iff_getElem]
      refine ⟨h1, ?_, fun j hj => ?_⟩
      · rw [gd i h1]; exact h2
      · rw [gd j (by omega)]
        have := h3 j hj
        show ¬ (sameKey [s, n] (l.getD j []) = true)
        unfold sameKey
        intro h
        rw [show ((l.getD j []).getD 0 (0 : Int) == s && (l.getD j []).getD 1 (0 : Int) == n) = true from h] at this
        cases this
    rw [e2]
    rfl
  · have e : ref24_Find_l0 s n r2 r3 r4 r5 r6 r7 r8 r9 r10 r11 r12 l = (3, [.i 0, .i l.length]) := h4
    rw [e]
    have e2 : l.findIdx? (sameKey [s, n]) = none := by
      rw [List.findIdx?_eq_none_iff]
      intro x hx
      obtain ⟨j, hj, rfl⟩ := List.getElem_of_mem hx
      rw [gd j hj]
      exact h3 j hj
    rw [e2]
    rfl

/-- Lists of valid reports. -/
noncomputable def sval (e : List Int) : Bool := sighting_Valid_0 (e.getD 0 0) (e.getD 1 0) (e.getD 2 0) (e.getD 3 0) (e.getD 4 0) (e.getD 5 0) (e.getD 6 0) (e.getD 7 0) (e.getD 8 0) (e.getD 9 0) (e.getD 10 0) (e.getD 11 0) (e.getD 12 0)
noncomputable def rval (e : List Int) : Bool := ref24_Valid_0 (e.getD 0 0) (e.getD 1 0) (e.getD 2 0) (e.getD 3 0) (e.getD 4 0) (e.getD 5 0) (e.getD 6 0) (e.getD 7 0) (e.getD 8 0) (e.getD 9 0) (e.getD 10 0) (e.getD 11 0) (e.getD 12 0)
theorem reports_is (l : List (List Int)) : ref24_Reports_pre l ∧ ref24_Reports_0 l = (decide (l.length ≤ 60) && l.all rval) := by
  unfold ref24_Reports_pre ref24_Reports_0
  by_cases hl : l.length ≤ 60
  · have hl' : decide ((l.length : Int) > 60) = false := by simp; omega
    have key := loop_search (step := ref24_Reports_l0_step l) l.length (fun i => !rval (l.getD i [])) (fun i => [.b false, .i i]) (fun _ => []) 0 2 [.b false, .i l.length]
      (fun i hi => by
        unfold ref24_Reports_l0_step
        simp only [gi_1, gi_z, gb_z, dlt hi, guardP_pos (inR_of hi), Int.toNat_natCast, wrap_succ (show i < 4611686018427387904 by omega)]
        try rfl)
      (by
        unfold ref24_Reports_l0_step
        simp only [gi_1, gi_z, gb_z, dnlt]
        try rfl)
    rw [hl']
    refine ⟨fun _ => key.1, ?_⟩
    have gd : ∀ j (h : j < l.length), l[j] = l.getD j [] := fun j h => by rw [List.getD_eq_getElem?_getD, List.getElem?_eq_getElem h]; rfl
    rcases key.2 with ⟨i, h1, h2, h3, h4⟩ | ⟨h3, h4⟩
    · have e : ref24_Reports_l0 l = (1, []) := h4
      rw [e]
      have : l.all rval = false := by
        rw [List.all_eq_false]
        refine ⟨_, getD_mem h1, ?_⟩
        simpa using h2
      rw [this]; simp [Nat.beq]
    · have e : ref24_Reports_l0 l = (3, [.b false, .i l.length]) := h4
      rw [e]
      have : l.all rval = true := by
        rw [List.all_eq_true]
        intro x hx
        obtain ⟨j, hj, rfl⟩ := List.getElem_of_mem hx
        rw [gd j hj]
        simpa using h3 j hj
      rw [this]; simp [Nat.beq, hl]
  · have hl' : decide ((l.length : Int) > 60) = true := by simp; omega
    rw [hl']
    refine ⟨fun h => (Bool.noConfusion h), ?_⟩
    simp [hl]
theorem valid_is (l : List (List Int)) : sighting_valid_pre l ∧ sighting_valid_0 l = (decide (l.length ≤ 60) && l.all sval) := by
  unfold sighting_valid_pre sighting_valid_0
  by_cases hl : l.length ≤ 60
  · have hl' : decide ((l.length : Int) ≤ 60) = true := by simp; omega
    have key := loop_search (step := sighting_valid_l0_step l) l.length (fun i => !sval (l.getD i [])) (fun i => [.i 0, .i i]) (fun i => [.i i]) 0 2 [.i 0, .i l.length]
      (fun i hi => by
        unfold sighting_valid_l0_step
        simp only [gi_1, gi_z, gb_z, dlt hi, guardP_pos (inR_of hi), Int.toNat_natCast, wrap_succ (show i < 4611686018427387904 by omega)]
        try rfl)
      (by
        unfold sighting_valid_l0_step
        simp only [gi_1, gi_z, gb_z, dnlt]
        try rfl)
    rw [hl']
    refine ⟨fun _ => key.1, ?_⟩
    have gd : ∀ j (h : j < l.length), l[j] = l.getD j [] := fun j h => by rw [List.getD_eq_getElem?_getD, List.getElem?_eq_getElem h]; rfl
    rcases key.2 with ⟨i, h1, h2, h3, h4⟩ | ⟨h3, h4⟩
    · have e : sighting_valid_l0 l = (1, [.i i]) := h4
      rw [e]
      have : l.all sval = false := by
        rw [List.all_eq_false]
        refine ⟨_, getD_mem h1, ?_⟩
        simpa using h2
      rw [this]; simp [Nat.beq, gi_z]
    · have e : sighting_valid_l0 l = (3, [.i 0, .i l.length]) := h4
      rw [e]
      have : l.all sval = true := by
        rw [List.all_eq_true]
        intro x hx
        obtain ⟨j, hj, rfl⟩ := List.getElem_of_mem hx
        rw [gd j hj]
        simpa using h3 j hj
      rw [this]; simp [Nat.beq, hl]
  · have hl' : decide ((l.length : Int) ≤ 60) = false := by simp; omega
    rw [hl']
    refine ⟨fun h => (Bool.noConfusion h), ?_⟩
    simp [hl]

/-! ### Wrong -/
noncomputable def sall (x y : Int) (e : List Int) : Bool := sighting_Allows_0 (e.getD 0 0) (e.getD 1 0) (e.getD 2 0) (e.getD 3 0) (e.getD 4 0) (e.getD 5 0) (e.getD 6 0) (e.getD 7 0) (e.getD 8 0) (e.getD 9 0) (e.getD 10 0) (e.getD 11 0) (e.getD 12 0) x y
noncomputable def rall (x y : Int) (e : List Int) : Bool := ref24_Allows_0 (e.getD 0 0) (e.getD 1 0) (e.getD 2 0) (e.getD 3 0) (e.getD 4 0) (e.getD 5 0) (e.getD 6 0) (e.getD 7 0) (e.getD 8 0) (e.getD 9 0) (e.getD 10 0) (e.getD 11 0) (e.getD 12 0) x y
/-- The indices of the elements that are not p, from the i-th on. -/
def noIdx (p : List Int → Bool) : Nat → List (List Int) → List (List Int)
  | _, [] => []
  | i, e :: r => bif p e then noIdx p (i + 1) r else [(i : Int)] :: noIdx p (i + 1) r
theorem noIdx_append (p : List Int → Bool) : ∀ (a b : List (List Int)) (i : Nat), noIdx p i (a ++ b) = noIdx p i a ++ noIdx p (i + a.length) b
  | [], b, i => by simp [noIdx]
  | e :: a, b, i => by
    simp only [List.cons_append, noIdx, List.length_cons]
    rw [noIdx_append p a b (i + 1), show i + 1 + a.length = i + (a.length + 1) by omega]
    cases p e <;> rfl
theorem noIdx_len (p : List Int → Bool) : ∀ (a : List (List Int)) (i : Nat), (noIdx p i a).length ≤ a.length
  | [], i => Nat.le_refl _
  | e :: a, i => by
    have := noIdx_len p a (i + 1)
    simp only [noIdx, List.length_cons]
    cases p e <;> simp <;> omega
theorem take_succ' {l : List (List Int)} {i : Nat} (h : i < l.length) : l.take (i + 1) = l.take i ++ [l.getD i []] := by
  rw [List.take_succ_eq_append_getElem h, List.getD_eq_getElem?_getD, List.getElem?_eq_getElem h]; rfl
theorem upto_noIdx (p : List Int → Bool) (l : List (List Int)) : ∀ i, i ≤ l.length → upto (fun i s => bif !p (l.getD i []) then s ++ [[(i : Int)]] else s) i [] = noIdx p 0 (l.take i)
  | 0, _ => by simp [upto, noIdx]
  | i + 1, h => by
    rw [upto, upto_noIdx p l i (by omega), take_succ' (by omega), noIdx_append]
    simp only [noIdx, List.length_take, Nat.zero_add, Nat.min_eq_left (show i ≤ l.length by omega)]
    cases p (l.getD i []) <;> simp
theorem swrong_is (x y : Int) (l : List (List Int)) (hv : sighting_valid_0 l = true) :
    loopOk (sighting_Wrong_l0_step x y l) (sighting_Wrong_l0_init x y l) ∧ gr (sighting_Wrong_l0 x y l).snd 1 = noIdx (sall x y) 0 l := by
  rw [(valid_is l).2] at hv
  simp only [Bool.and_eq_true, decide_eq_true_eq] at hv
  have hl := hv.1
  have key := loop_fold (step := sighting_Wrong_l0_step x y l) l.length (fun i s => [.i i, .r s]) (fun i s => bif !sall x y (l.getD i []) then s ++ [[(i : Int)]] else s) (fun i s => s.length ≤ i) 2 (fun s => [.i l.length, .r s])
    (fun i s hi h => by cases sall x y (l.getD i []) <;> simp <;> omega)
    (fun i s hi h => by
      unfold sighting_Wrong_l0_step
      simp only [gi_1, gi_z, gr_1, gr_z, dlt hi, guardP_pos (inR_of hi), Int.toNat_natCast, wrap_succ (show i < 4611686018427387904 by omega)]
      have hf : fitsA 8 (s.length + [[(i : Int)]].length) := by unfold fitsA; simp [maxLen] <;> omega
      rw [guardP_pos hf]
      show (bif !sall x y (l.getD i []) then _ else _) = _
      cases sall x y (l.getD i []) <;> rfl)
    (fun s _ => by
      unfold sighting_Wrong_l0_step
      simp only [gi_1, gi_z, gr_1, gr_z, dnlt]) (s := []) (by simp)
  refine ⟨key.1, ?_⟩
  have e : sighting_Wrong_l0 x y l = _ := key.2.1
  rw [e]
  simp only [gr_1, gr_z]
  rw [upto_noIdx _ _ _ (Nat.le_refl _), List.take_length]
theorem rwrong_is (x y : Int) (l : List (List Int)) (hv : ref24_Reports_0 l = true) :
    loopOk (ref24_Wrong_l0_step x y l) (ref24_Wrong_l0_init x y l) ∧ gr (ref24_Wrong_l0 x y l).snd 1 = noIdx (rall x y) 0 l := by
  rw [(reports_is l).2] at hv
  simp only [Bool.and_eq_true, decide_eq_true_eq] at hv
  have hl := hv.1
  have key := loop_fold (step := ref24_Wrong_l0_step x y l) l.length (fun i s => [.i i, .r s]) (fun i s => bif !rall x y (l.getD i []) then s ++ [[(i : Int)]] else s) (fun i s => s.length ≤ i) 2 (fun s => [.i l.length, .r s])
    (fun i s hi h => by cases rall x y (l.getD i []) <;> simp <;> omega)
    (fun i s hi h => by
      unfold ref24_Wrong_l0_step
      simp only [gi_1, gi_z, gr_1, gr_z, dlt hi, guardP_pos (inR_of hi), Int.toNat_natCast, wrap_succ (show i < 4611686018427387904 by omega)]
      have hf : fitsA 8 (s.length + [[(i : Int)]].length) := by unfold fitsA; simp [maxLen] <;> omega
      rw [guardP_pos hf]
      show (bif !rall x y (l.getD i []) then _ else _) = _
      cases rall x y (l.getD i []) <;> rfl)
    (fun s _ => by
      unfold ref24_Wrong_l0_step
      simp only [gi_1, gi_z, gr_1, gr_z, dnlt]) (s := []) (by simp)
  refine ⟨key.1, ?_⟩
  have e : ref24_Wrong_l0 x y l = _ := key.2.1
  rw [e]
  simp only [gr_1, gr_z]
  rw [upto_noIdx _ _ _ (Nat.le_refl _), List.take_length]
theorem swrong_pre (x y : Int) (l : List (List Int)) : sighting_Wrong_pre x y l := by
  unfold sighting_Wrong_pre
  refine ⟨(valid_is l).1, fun h => ?_⟩
  have hv : sighting_valid_0 l = true := by cases hb : sighting_valid_0 l <;> simp [hb] at h ⊢
  exact (swrong_is x y l hv).1
theorem rwrong_pre (x y : Int) (l : List (List Int)) : ref24_Wrong_pre x y l := by
  unfold ref24_Wrong_pre
  refine ⟨(reports_is l).1, fun h => ?_⟩
  have hv : ref24_Reports_0 l = true := by cases hb : ref24_Reports_0 l <;> simp [hb] at h ⊢
  exact (rwrong_is x y l hv).1
theorem swrong_0 (x y : Int) (l : List (List Int)) : sighting_Wrong_0 x y l = bif !sighting_valid_0 l || !plane_Valid_0 x y then [] else noIdx (sall x y) 0 l := by
  unfold sighting_Wrong_0
  cases hv : sighting_valid_0 l with
  | false => rfl
  | true => rw [(swrong_is x y l hv).2]
theorem rwrong_0 (x y : Int) (l : List (List Int)) : ref24_Wrong_0 x y l = bif !ref24_Reports_0 l || !ref01_Valid_0 x y then [] else noIdx (rall x y) 0 l := by
  unfold ref24_Wrong_0
  cases hv : ref24_Reports_0 l with
  | false => rfl
  | true => rw [(rwrong_is x y l hv).2]

/-! ### Merge -/
/-- One report more. -/
def mrg (i : Nat) (r : List Int) (s : List (List Int) × List (List Int)) : List (List Int) × List (List Int) :=
  match s.1.find? (sameKey r) with
  | none => (s.1 ++ [r], s.2)
  | some o => bif !same13 o r then (s.1, s.2 ++ [[(i : Int)]]) else s
/-- The reports from the i-th on. -/
def mrgs : Nat → List (List Int) → List (List Int) × List (List Int) → List (List Int) × List (List Int)
  | _, [], s => s
  | i, r :: l, s => mrgs (i + 1) l (mrg i r s)
theorem mrgs_append : ∀ (a b : List (List Int)) (i : Nat) (s : List (List Int) × List (List Int)), mrgs i (a ++ b) s = mrgs (i + a.length) b (mrgs i a s)
  | [], b, i, s => by simp [mrgs]
  | e :: a, b, i, s => by
    simp only [List.cons_append, mrgs, List.length_cons]
    rw [mrgs_append a b (i + 1), show i + 1 + a.length = i + (a.length + 1) by omega]
theorem upto_mrgs (l : List (List Int)) (s : List (List Int) × List (List Int)) : ∀ i, i ≤ l.length → upto (fun i s => mrg i (l.getD i []) s) i s = mrgs 0 (l.take i) s
  | 0, _ => by simp [upto, mrgs]
  | i + 1, h => by
    rw [upto, upto_mrgs l s i (by omega), take_succ' (by omega), mrgs_append]
    simp only [mrgs, List.length_take, Nat.zero_add, Nat.min_eq_left (show i ≤ l.length by omega)]
/-- What stays so: as many as there were; all of them reports. -/
def MI (i : Nat) (s : List (List Int) × List (List Int)) : Prop := s.1.length ≤ i ∧ s.2.length ≤ i ∧ (∀ e ∈ s.1, e.length = 13) ∧ ∀ e ∈ s.2, e.length = 1
theorem mrg_MI {i : Nat} {r : List Int} {s : List (List Int) × List (List Int)} (hr : r.length = 13) (h : MI i s) : MI (i + 1) (mrg i r s) := by
  obtain ⟨h1, h2, h3, h4⟩ := h
  unfold mrg
  split
  · refine ⟨by simp; omega, by show s.2.length ≤ i + 1; omega, fun e he => ?_, h4⟩
    rcases List.mem_append.1 he with he | he
    · exact h3 e he
    · rw [List.mem_singleton.1 he]; exact hr
  · rename_i o _
    cases same13 o r with
    | true => exact ⟨by show s.1.length ≤ i + 1; omega, by show s.2.length ≤ i + 1; omega, h3, h4⟩
    | false =>
      refine ⟨by show s.1.length ≤ i + 1; omega, by simp; omega, h3, fun e he => ?_⟩
      rcases List.mem_append.1 he with he | he
      · exact h4 e he
      · rw [List.mem_singleton.1 he]; rfl
/-- A report with its key ahead, as the map has it. -/
def keyed (r : List Int) : List Int := [r.getD 0 0, r.getD 1 0] ++ r
theorem find_keyed (r : List Int) : ∀ out : List (List Int), findRow 2 [r.getD 0 0, r.getD 1 0] (out.map keyed) = out.find? (sameKey r)
  | [] => rfl
  | o :: out => by
    have ih := find_keyed r out
    unfold findRow at ih ⊢
    rw [List.map_cons, List.find?_cons, List.find?_cons]
    have e : decide (List.take 2 (keyed o) = [r.getD 0 0, r.getD 1 0]) = sameKey r o := by
      unfold sameKey keyed
      rw [Bool.eq_iff_iff]
      simp
    rw [e]
    cases sameKey r o with
    | true => rfl
    | false => exact ih
theorem put_keyed {r : List Int} {out : List (List Int)} (h : out.find? (sameKey r) = none) : putRow 2 [r.getD 0 0, r.getD 1 0] r (out.map keyed) = (out ++ [r]).map keyed := by
  unfold putRow
  rw [find_keyed, h]
  simp [keyed]
theorem find_fnd {l : List (List Int)} {r : List Int} : (l.find? (sameKey r) = none ∧ fnd l r = -1) ∨ ∃ k : Nat, k < l.length ∧ l.find? (sameKey r) = some (l.getD k []) ∧ fnd l r = k := by
  unfold fnd
  cases h : l.findIdx? (sameKey r) with
  | none =>
    left
    refine ⟨?_, rfl⟩
    rw [List.findIdx?_eq_none_iff] at h
    rw [List.find?_eq_none]
    intro x hx; simp [h x hx]
  | some k =>
    right
    rw [List.findIdx?_eq_some_iff_getElem] at h
    obtain ⟨h1, h2, h3⟩ := h
    refine ⟨k, h1, ?_, rfl⟩
    rw [List.find?_eq_some_iff_getElem]
    refine ⟨?_, k, h1, ?_, fun j hj => ?_⟩
    · rw [List.getD_eq_getElem?_getD, List.getElem?_eq_getElem h1]; exact h2
    · rw [List.getD_eq_getElem?_getD, List.getElem?_eq_getElem h1]; rfl
    · have := h3 j hj
      simpa using this
/-- The reports that come. -/
def El13 (l : List (List Int)) : Prop := ∀ e ∈ l, elOk [.int .i64, .int .i64, .int .i64, .int .i64, .int .i64, .int .i64, .int .i64, .int .i64, .int .i64, .int .i64, .int .i64, .int .i64, .int .i64] e
theorem El13.len {l : List (List Int)} (h : El13 l) : ∀ e ∈ l, e.length = 13 := fun e he => elOk_length (h e he)
theorem fnd_key (l : List (List Int)) (r : List Int) : fnd l [r.getD 0 0, r.getD 1 0] = fnd l r := rfl
theorem rmerge_is (l : List (List Int)) (h13 : ∀ e ∈ l, e.length = 13) (hv : l.length ≤ 60) :
    loopOk (ref24_Merge_l0_step l) (ref24_Merge_l0_init l) ∧ gr (ref24_Merge_l0 l).snd 1 = (mrgs 0 l ([], [])).1 ∧ gr (ref24_Merge_l0 l).snd 2 = (mrgs 0 l ([], [])).2 := by
  have key := loop_fold (step := ref24_Merge_l0_step l) l.length (fun i s => [.i i, .r s.1, .r s.2]) (fun i s => mrg i (l.getD i []) s) MI 3 (fun s => [.i l.length, .r s.1, .r s.2])
    (fun i s hi h => mrg_MI (h13 _ (getD_mem hi)) h)
    (fun i s hi h => by
      unfold ref24_Merge_l0_step
      have hr := el13 (h13 _ (getD_mem hi))
      simp only [gi_1, gi_z, gr_1, gr_2, gr_z, dlt hi, guardP_pos (inR_of hi), Int.toNat_natCast, wrap_succ (show i < 4611686018427387904 by omega), hr]
      have hs : s.1.length < 4611686018427387904 := by have := h.1; omega
      rw [guardP_pos (find_is _ _ _ _ _ _ _ _ _ _ _ _ _ _ hs).1, (find_is _ _ _ _ _ _ _ _ _ _ _ _ _ s.1 hs).2, fnd_key]
      unfold mrg
      rcases @find_fnd s.1 (l.getD i []) with ⟨e1, e2⟩ | ⟨k, hk, e1, e2⟩
      · rw [e1, e2]
        have hf : fitsA 104 (s.1.length + [l.getD i []].length) := by have := h.1; unfold fitsA; simp [maxLen] <;> omega
        rw [show decide ((-1 : Int) < 0) = true from rfl, cond_true, guardP_pos hf]
      · rw [e1, e2]
        have hn : decide ((k : Int) < 0) = false := decide_eq_false (by omega)
        have hf : fitsA 8 (s.2.length + [[(i : Int)]].length) := by have := h.2.1; unfold fitsA; simp [maxLen] <;> omega
        rw [hn, cond_false, guardP_pos (inR_of hk), guardP_pos (inR_of hk), Int.toNat_natCast, guardP_pos hf]
        show (bif !same13 (s.1.getD k []) (l.getD i []) then _ else _) = _
        dsimp only
        cases same13 (s.1.getD k []) (l.getD i []) <;> rfl)
    (fun s _ => by
      unfold ref24_Merge_l0_step
      simp only [gi_1, gi_z, gr_1, gr_2, gr_z, dnlt]) (s := ([], [])) (by simp [MI])
  refine ⟨key.1, ?_⟩
  have e : ref24_Merge_l0 l = _ := key.2.1
  rw [e]
  simp only [gr_1, gr_2, gr_z]
  rw [upto_mrgs _ _ _ (Nat.le_refl _), List.take_length]
  exact ⟨rfl, rfl⟩
theorem key_wf {l : List (List Int)} (h : El13 l) {i : Nat} (hi : i < l.length) : keyWf IntKind.i64 [(l.getD i []).getD 0 0, (l.getD i []).getD 1 0] := by
  have := h _ (getD_mem hi)
  match l.getD i [], elOk_length this, this with
  | [a, b, _, _, _, _, _, _, _, _, _, _, _], _, h =>
    intro n hn
    simp at hn
    rcases hn with rfl | rfl
    · exact h.1
    · exact h.2.1
theorem smerge_is (l : List (List Int)) (h13 : El13 l) (hv : l.length ≤ 60) :
    loopOk (sighting_Merge_l0_step l) (sighting_Merge_l0_init l) ∧ gr (sighting_Merge_l0 l).snd 2 = (mrgs 0 l ([], [])).1 ∧ gr (sighting_Merge_l0 l).snd 3 = (mrgs 0 l ([], [])).2 := by
  have key := loop_fold (step := sighting_Merge_l0_step l) l.length (fun i s => [.i i, .r (s.1.map keyed), .r s.1, .r s.2]) (fun i s => mrg i (l.getD i []) s) MI 3 (fun s => [.i l.length, .r (s.1.map keyed), .r s.1, .r s.2])
    (fun i s hi h => mrg_MI (h13.len _ (getD_mem hi)) h)
    (fun i s hi h => by
      unfold sighting_Merge_l0_step
      have hr := el13 (h13.len _ (getD_mem hi))
      simp only [gi_1, gi_z, gr_1, gr_2, gr_3, gr_z, dlt hi, guardP_pos (inR_of hi), guardP_pos (key_wf h13 hi), Int.toNat_natCast, wrap_succ (show i < 4611686018427387904 by omega), hr, find_keyed]
      unfold mrg
      cases e : s.1.find? (sameKey (l.getD i [])) with
      | none =>
        have hf : fitsA 104 (s.1.length + [l.getD i []].length) := by have := h.1; unfold fitsA; simp [maxLen] <;> omega
        rw [guardP_pos hf, put_keyed e]
        rfl
      | some o =>
        have hf : fitsA 8 (s.2.length + [[(i : Int)]].length) := by have := h.2.1; unfold fitsA; simp [maxLen] <;> omega
        rw [guardP_pos hf]
        show (bif !same13 o (l.getD i []) then _ else _) = _
        dsimp only
        cases same13 o (l.getD i []) <;> rfl)
    (fun s _ => by
      unfold sighting_Merge_l0_step
      simp only [gi_1, gi_z, gr_1, gr_2, gr_3, gr_z, dnlt]) (s := ([], [])) (by simp [MI])
  refine ⟨key.1, ?_⟩
  have e : sighting_Merge_l0 l = _ := key.2.1
  rw [e]
  simp only [gr_1, gr_2, gr_3, gr_z]
  rw [upto_mrgs _ _ _ (Nat.le_refl _), List.take_length]
  exact ⟨rfl, rfl⟩
theorem rmerge_pre (l : List (List Int)) (h : ∀ e ∈ l, e.length = 13) : ref24_Merge_pre l := by
  unfold ref24_Merge_pre
  refine ⟨(reports_is l).1, fun hb => (rmerge_is l h ?_).1⟩
  have hv : ref24_Reports_0 l = true := by simpa using hb
  rw [(reports_is l).2] at hv
  simp only [Bool.and_eq_true, decide_eq_true_eq] at hv
  exact hv.1
theorem smerge_pre (l : List (List Int)) (h : El13 l) : sighting_Merge_pre l := by
  unfold sighting_Merge_pre
  refine ⟨(valid_is l).1, fun hb => (smerge_is l h ?_).1⟩
  have hv : sighting_valid_0 l = true := by simpa using hb
  rw [(valid_is l).2] at hv
  simp only [Bool.and_eq_true, decide_eq_true_eq] at hv
  exact hv.1
theorem rmerge_0 (l : List (List Int)) (h : ∀ e ∈ l, e.length = 13) : ref24_Merge_0 l = (bif !ref24_Reports_0 l then [] else (mrgs 0 l ([], [])).1) ∧ ref24_Merge_1 l = bif !ref24_Reports_0 l then [] else (mrgs 0 l ([], [])).2 := by
  unfold ref24_Merge_0 ref24_Merge_1
  cases hv : ref24_Reports_0 l with
  | false => exact ⟨rfl, rfl⟩
  | true =>
    rw [(reports_is l).2] at hv
    simp only [Bool.and_eq_true, decide_eq_true_eq] at hv
    have := rmerge_is l h hv.1
    rw [this.2.1, this.2.2]
    exact ⟨rfl, rfl⟩
theorem smerge_0 (l : List (List Int)) (h : El13 l) : sighting_Merge_0 l = (bif !sighting_valid_0 l then [] else (mrgs 0 l ([], [])).1) ∧ sighting_Merge_1 l = bif !sighting_valid_0 l then [] else (mrgs 0 l ([], [])).2 := by
  unfold sighting_Merge_0 sighting_Merge_1
  cases hv : sighting_valid_0 l with
  | false => exact ⟨rfl, rfl⟩
  | true =>
    rw [(valid_is l).2] at hv
    simp only [Bool.and_eq_true, decide_eq_true_eq] at hv
    have := smerge_is l h hv.1
    rw [this.2.1, this.2.2]
    exact ⟨rfl, rfl⟩
end Go.Proofs.Ytcpikjablgbegaa
