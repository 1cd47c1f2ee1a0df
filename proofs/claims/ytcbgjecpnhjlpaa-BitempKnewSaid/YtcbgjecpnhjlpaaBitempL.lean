/-
  The loops of package bitemp as functions on lists: valid rows, what holds, the reference's comparisons.
-/
import Derived.Test.YtcbgjecpnhjlpaaSyLq
import Derived.Test.YtcbgjecpnhjlpaaSyH
import Derived.Test.YtcbgjecpnhjlpaaBitemp1D
set_option linter.unusedVariables false
namespace Go.Proofs.Ytcbgjecpnhjlpaa
open Go Go.Sy

theorem imin_eq (a b : Int) : imin a b = if a ≤ b then a else b := by unfold imin; split <;> split <;> omega
theorem imax_eq (a b : Int) : imax a b = if a ≤ b then b else a := by unfold imax; split <;> split <;> omega
theorem getD_mem {l : List (List Int)} {i : Nat} (h : i < l.length) : l.getD i [] ∈ l := by
  rw [List.getD_eq_getElem?_getD, List.getElem?_eq_getElem h]
  exact List.getElem_mem h
theorem getD_of_mem {l : List (List Int)} {x : List Int} (h : x ∈ l) : ∃ i, i < l.length ∧ l.getD i [] = x := by
  obtain ⟨j, hj, rfl⟩ := List.getElem_of_mem h
  exact ⟨j, hj, by rw [List.getD_eq_getElem?_getD, List.getElem?_eq_getElem hj]; rfl⟩
theorem take_succ' {l : List (List Int)} {i : Nat} (h : i < l.length) : l.take (i + 1) = l.take i ++ [l.getD i []] := by
  rw [List.take_succ_eq_append_getElem h, List.getD_eq_getElem?_getD, List.getElem?_eq_getElem h]; rfl
theorem drop_cons' {l : List (List Int)} {i : Nat} (h : i < l.length) : l.drop i = l.getD i [] :: l.drop (i + 1) := by
  rw [List.drop_eq_getElem_cons h, List.getD_eq_getElem?_getD, List.getElem?_eq_getElem h]; rfl
theorem list_eq_of {a b : List (List Int)} (hl : a.length = b.length) (h : ∀ i, i < a.length → a.getD i [] = b.getD i []) : a = b := by
  apply List.ext_getElem hl
  intro i h1 h2
  have := h i h1
  rwa [List.getD_eq_getElem?_getD, List.getD_eq_getElem?_getD, List.getElem?_eq_getElem h1, List.getElem?_eq_getElem h2] at this
theorem pairwise_getD {R : List Int → List Int → Prop} {l : List (List Int)} (h : l.Pairwise R) {i j : Nat} (hi : i < j) (hj : j < l.length) : R (l.getD i []) (l.getD j []) := by
  have := List.pairwise_iff_getElem.1 h i j (by omega) hj hi
  rwa [List.getD_eq_getElem?_getD, List.getD_eq_getElem?_getD, List.getElem?_eq_getElem (by omega), List.getElem?_eq_getElem hj]
theorem pairwise_of_getD {R : List Int → List Int → Prop} {l : List (List Int)} (h : ∀ i j, i < j → j < l.length → R (l.getD i []) (l.getD j [])) : l.Pairwise R := by
  refine List.pairwise_iff_getElem.2 fun i j hi hj hij => ?_
  have := h i j hij hj
  rwa [List.getD_eq_getElem?_getD, List.getD_eq_getElem?_getD, List.getElem?_eq_getElem hi, List.getElem?_eq_getElem hj] at this

/-! ### rows -/
abbrev it (r : List Int) : Int := r.getD 0 0
abbrev va (r : List Int) : Int := r.getD 1 0
abbrev fr (r : List Int) : Int := r.getD 2 0
abbrev un (r : List Int) : Int := r.getD 3 0
abbrev kn (r : List Int) : Int := r.getD 4 0
def TM (t : Int) : Prop := 0 ≤ t ∧ t ≤ 10000000
instance (t : Int) : Decidable (TM t) := by unfold TM; infer_instance
def IT (t : Int) : Prop := 1 ≤ t ∧ t ≤ 100000
instance (t : Int) : Decidable (IT t) := by unfold IT; infer_instance
def VA (t : Int) : Prop := -1000000000000 ≤ t ∧ t ≤ 1000000000000
instance (t : Int) : Decidable (VA t) := by unfold VA; infer_instance
/-- A row. -/
def RO (r : List Int) : Prop := IT (it r) ∧ VA (va r) ∧ TM (fr r) ∧ TM (un r) ∧ fr r < un r ∧ TM (kn r)
instance (r : List Int) : Decidable (RO r) := by unfold RO; infer_instance
/-- A list of rows. -/
def VR (l : List (List Int)) : Prop := l.length ≤ 200 ∧ (∀ r ∈ l, RO r) ∧ l.Pairwise (fun a b => kn a ≤ kn b)
instance (l : List (List Int)) : Decidable (VR l) := by unfold VR; infer_instance
theorem isTime_eq (t : Int) : bitemp_isTime_0 t = decide (TM t) := by
  unfold bitemp_isTime_0; rw [Bool.eq_iff_iff, decide_eq_true_eq]; unfold TM; simp
theorem isItem_eq (t : Int) : bitemp_isItem_0 t = decide (IT t) := by
  unfold bitemp_isItem_0; rw [Bool.eq_iff_iff, decide_eq_true_eq]; unfold IT; simp
theorem isValue_eq (t : Int) : bitemp_isValue_0 t = decide (VA t) := by
  unfold bitemp_isValue_0; rw [Bool.eq_iff_iff, decide_eq_true_eq]; unfold VA; simp
def RO5 (a b c d e : Int) : Prop := IT a ∧ VA b ∧ TM c ∧ TM d ∧ c < d ∧ TM e
instance (a b c d e : Int) : Decidable (RO5 a b c d e) := by unfold RO5; infer_instance
theorem isRow_eq (a b c d e : Int) : bitemp_isRow_0 a b c d e = decide (RO5 a b c d e) := by
  unfold bitemp_isRow_0
  rw [isItem_eq, isValue_eq, isTime_eq, isTime_eq, isTime_eq, Bool.eq_iff_iff, decide_eq_true_eq]
  unfold RO5
  simp [and_assoc]
theorem cmp_neg' (a b : Int) : decide (cmp_Compare_int_0 a b < 0) = decide (a < b) := by
  unfold cmp_Compare_int_0 cmp_Compare_int_s0
  simp only [bne_self_eq_false, cond_false]
  by_cases h : a < b
  · simp [h]
  · by_cases h2 : a > b
    · simp [h, h2]
    · simp [h, h2]
theorem valid_is (l : List (List Int)) : bitemp_Valid_pre l ∧ bitemp_Valid_0 l = decide (VR l) := by
  unfold bitemp_Valid_pre bitemp_Valid_0
  by_cases hl : l.length ≤ 200
  · have hl' : decide ((l.length : Int) ≤ 200) = true := by simp; omega
    have key := loop_search (step := bitemp_Valid_l0_step l) l.length (fun i => !decide (RO (l.getD i []))) (fun i => [.i 0, .i i]) (fun i => [.i i]) 0 2 [.i 0, .i l.length]
      (fun i hi => by
        unfold bitemp_Valid_l0_step
        simp only [gi_1, gi_z, gb_z, dlt hi, guardP_pos (inR_of hi), Int.toNat_natCast, wrap_succ (show i < 4611686018427387904 by omega), isRow_eq]
        rfl)
      (by
        unfold bitemp_Valid_l0_step
        simp only [gi_1, gi_z, gb_z, dnlt])
    have key2 := loop_search (step := bitemp_Valid_l1_step l) (l.length - 1) (fun j => decide (kn (l.getD (l.length - 1 - j) []) < kn (l.getD (l.length - 1 - j - 1) []))) (fun j => [.b false, .i ((l.length : Int) - 1 - j)]) (fun j => []) 0 2 [.b false, .i ((l.length : Int) - 1 - (l.length - 1 : Nat))]
      (fun j hj => by
        unfold bitemp_Valid_l1_step
        have e1 : ((l.length : Int) - 1 - (j : Int)) = ((l.length - 1 - j : Nat) : Int) := by omega
        have e2 : IntKind.i64.wrap ((l.length : Int) - 1 - j - 1) = ((l.length - 1 - j - 1 : Nat) : Int) := by rw [i64_wrap (by omega)]; omega
        have e3 : ((l.length - 1 - j - 1 : Nat) : Int) = (l.length : Int) - 1 - ((j + 1 : Nat) : Int) := by omega
        have hpos : decide (((l.length : Int) - 1 - (j : Int)) > 0) = true := by simp; omega
        simp only [gi_1, gi_z, gb_z, hpos, cond_true, e2, cmp_neg']
        rw [e1, guardP_pos (inR_of (by omega)), guardP_pos (inR_of (by omega)), guardP_pos (inR_of (by omega)), guardP_pos (inR_of (by omega))]
        simp only [Int.toNat_natCast]
        have e4 : U.i ((l.length - 1 - j - 1 : Nat) : Int) = U.i ((l.length : Int) - 1 - ((j + 1 : Nat) : Int)) := by rw [e3]
        rw [e4])
      (by
        unfold bitemp_Valid_l1_step
        have hpos : decide (((l.length : Int) - 1 - ((l.length - 1 : Nat) : Int)) > 0) = false := by simp; omega
        simp only [gi_1, gi_z, gb_z, hpos, cond_false])
    have hin : bitemp_Valid_l1_init l = [.b false, .i ((l.length : Int) - 1 - ((0 : Nat) : Int))] := by
      unfold bitemp_Valid_l1_init
      rw [i64_wrap (by omega)]
      simp
    have k1 : bitemp_Valid_l1 l = loopGet (bitemp_Valid_l1_step l) [.b false, .i ((l.length : Int) - 1 - ((0 : Nat) : Int))] := by unfold bitemp_Valid_l1; rw [hin]
    rw [hl', hin]
    refine ⟨⟨fun _ => key.1, fun _ => key2.1⟩, ?_⟩
    rw [Bool.true_and, k1]
    rcases key.2 with ⟨i, h1, h2, h3, h4⟩ | ⟨h3, h4⟩
    · have e : bitemp_Valid_l0 l = (1, [.i i]) := h4
      rw [e]
      have : ¬ VR l := fun h => by
        have := h.2.1 _ (getD_mem h1)
        rw [decide_eq_true this] at h2; cases h2
      rw [decide_eq_false this]
      have hb : (!decide ((bif Nat.beq 1 1 then gi [U.i (i : Int)] 0 else -1) ≥ (0 : Int))) = false := by simp [Nat.beq, gi_z]
      rw [hb]
      rfl
    · have e : bitemp_Valid_l0 l = (3, [.i 0, .i l.length]) := h4
      rw [e]
      have hb : (!decide ((bif Nat.beq 3 1 then gi [U.i (0 : Int), .i (l.length : Int)] 0 else -1) ≥ (0 : Int))) = true := by simp [Nat.beq]
      rw [hb, Bool.true_and]
      have hro : ∀ r ∈ l, RO r := fun r hr => by
        obtain ⟨j, hj, rfl⟩ := getD_of_mem hr
        simpa using h3 j hj
      rcases key2.2 with ⟨i, g1, g2, g3, g4⟩ | ⟨g3, g4⟩
      · rw [g4]
        have : ¬ VR l := fun h => by
          have := pairwise_getD h.2.2 (show l.length - 1 - i - 1 < l.length - 1 - i by omega) (by omega)
          have g2 := of_decide_eq_true g2
          omega
        rw [decide_eq_false this]; rfl
      · rw [g4]
        have : VR l := by
          refine ⟨hl, hro, pairwise_of_getD fun i j hij hj => ?_⟩
          have key3 : ∀ d, ∀ i, i + d < l.length → kn (l.getD i []) ≤ kn (l.getD (i + d) []) := by
            intro d
            induction d with
            | zero => intro i _; exact Int.le_refl _
            | succ d ih =>
              intro i hi
              have h5 := ih i (by omega)
              have h6 := g3 (l.length - 1 - (i + d + 1)) (by omega)
              have e1 : l.length - 1 - (l.length - 1 - (i + d + 1)) = i + d + 1 := by omega
              have h6 := of_decide_eq_false h6
              rw [e1, Nat.add_sub_cancel] at h6
              show _ ≤ kn (l.getD (i + d + 1) [])
              omega
          have := key3 (j - i) i (by omega)
          rwa [show i + (j - i) = j by omega] at this
        rw [decide_eq_true this]; rfl
  · have hl' : decide ((l.length : Int) ≤ 200) = false := by simp; omega
    rw [hl']
    refine ⟨⟨fun h => (Bool.noConfusion h), fun h => (by simp at h)⟩, ?_⟩
    have : ¬ VR l := fun h => hl h.1
    rw [decide_eq_false this]; rfl

/-! ### what holds -/
/-- A row says something of an item at a time, as it was known at a time. -/
def says (i t k : Int) (r : List Int) : Bool := it r == i && decide (kn r ≤ k) && decide (fr r ≤ t) && decide (t < un r)
/-- The row that says what holds. -/
def HO (l : List (List Int)) (i t k : Int) : Option (List Int) := l.reverse.find? (says i t k)
theorem HO_nil (i t k : Int) : HO [] i t k = none := rfl
theorem HO_snoc (l : List (List Int)) (r : List Int) (i t k : Int) : HO (l ++ [r]) i t k = if says i t k r = true then some r else HO l i t k := by
  unfold HO
  rw [List.reverse_append, List.reverse_singleton, List.singleton_append, List.find?_cons]
  cases says i t k r <;> rfl
theorem HO_congr {l : List (List Int)} {i t k i' t' k' : Int} (h : ∀ r ∈ l, says i t k r = says i' t' k' r) : HO l i t k = HO l i' t' k' := by
  unfold HO
  have : ∀ m : List (List Int), (∀ r ∈ m, says i t k r = says i' t' k' r) → m.find? (says i t k) = m.find? (says i' t' k') := by
    intro m
    induction m with
    | nil => intro _; rfl
    | cons x m ih =>
      intro h
      rw [List.find?_cons, List.find?_cons, h x (by simp), ih fun r hr => h r (by simp [hr])]
  exact this _ fun r hr => h r (List.mem_reverse.1 hr)
theorem HO_some {l : List (List Int)} {i t k : Int} {r : List Int} (h : HO l i t k = some r) : r ∈ l ∧ says i t k r = true := by
  unfold HO at h
  exact ⟨List.mem_reverse.1 (List.mem_of_find?_eq_some h), List.find?_some h⟩
theorem HO_none {l : List (List Int)} {i t k : Int} : HO l i t k = none ↔ ∀ r ∈ l, says i t k r = false := by
  unfold HO
  rw [List.find?_eq_none]
  simp
theorem holds_is (i t k : Int) (l : List (List Int)) (hl : l.length ≤ 9223372036854775807) : bitemp_holds_pre i t k l ∧ bitemp_holds_5 i t k l = (HO l i t k).isSome ∧
    bitemp_holds_1 i t k l = va ((HO l i t k).getD []) := by
  have key := loop_search (step := bitemp_holds_l0_step i t k l) l.length (fun j => says i t k (l.getD (l.length - 1 - j) [])) (fun j => [.i ((l.length : Int) - 1 - j)])
    (fun j => [.i (it (l.getD (l.length - 1 - j) [])), .i (va (l.getD (l.length - 1 - j) [])), .i (fr (l.getD (l.length - 1 - j) [])), .i (un (l.getD (l.length - 1 - j) [])), .i (kn (l.getD (l.length - 1 - j) []))]) 0 2 [.i ((l.length : Int) - 1 - l.length)]
    (fun j hj => by
      unfold bitemp_holds_l0_step
      have e1 : ((l.length : Int) - 1 - (j : Int)) = ((l.length - 1 - j : Nat) : Int) := by omega
      have e2 : IntKind.i64.wrap ((l.length : Int) - 1 - j - 1) = (l.length : Int) - 1 - ((j + 1 : Nat) : Int) := by rw [i64_wrap (by omega)]; omega
      have hpos : decide (((l.length : Int) - 1 - (j : Int)) ≥ 0) = true := by simp; omega
      simp only [gi_1, gi_z, gb_z, hpos, cond_true, e2]
      rw [e1, guardP_pos (inR_of (by omega)), guardP_pos (inR_of (by omega))]
      simp only [Int.toNat_natCast]
      rfl)
    (by
      unfold bitemp_holds_l0_step
      have hpos : decide (((l.length : Int) - 1 - (l.length : Int)) ≥ 0) = false := by simp; omega
      simp only [gi_1, gi_z, gb_z, hpos, cond_false])
  have hin : bitemp_holds_l0_init i t k l = [.i ((l.length : Int) - 1 - ((0 : Nat) : Int))] := by
    unfold bitemp_holds_l0_init
    rw [i64_wrap (by omega)]
    simp
  unfold bitemp_holds_pre bitemp_holds_5 bitemp_holds_1 bitemp_holds_l0
  rw [hin]
  refine ⟨key.1, ?_⟩
  rcases key.2 with ⟨j, h1, h2, h3, h4⟩ | ⟨h3, h4⟩
  · have e : HO l i t k = some (l.getD (l.length - 1 - j) []) := by
      unfold HO
      rw [List.find?_eq_some_iff_getElem]
      refine ⟨h2, j, by simpa using h1, ?_, fun j' hj' => ?_⟩
      · rw [List.getElem_reverse, List.getD_eq_getElem?_getD, List.getElem?_eq_getElem (by omega)]; rfl
      · have := h3 j' hj'
        rw [List.getElem_reverse]
        rw [List.getD_eq_getElem?_getD, List.getElem?_eq_getElem (by omega)] at this
        rw [show l[l.length - 1 - j'] = (some l[l.length - 1 - j']).getD [] from rfl, this]; rfl
    rw [h4, e]
    exact ⟨rfl, rfl⟩
  · have e : HO l i t k = none := HO_none.2 fun r hr => by
      obtain ⟨j, hj, rfl⟩ := getD_of_mem hr
      have := h3 (l.length - 1 - j) (by omega)
      rwa [show l.length - 1 - (l.length - 1 - j) = j by omega] at this
    rw [h4, e]
    exact ⟨rfl, rfl⟩
/-- The arguments of At are valid. -/
def AOK (l : List (List Int)) (i t k : Int) : Prop := VR l ∧ IT i ∧ TM t ∧ TM k
instance (l : List (List Int)) (i t k : Int) : Decidable (AOK l i t k) := by unfold AOK; infer_instance
theorem at_is (i t k : Int) (l : List (List Int)) : bitemp_At_pre i t k l ∧ bitemp_At_0 i t k l = (if AOK l i t k then va ((HO l i t k).getD []) else 0) ∧
    bitemp_At_1 i t k l = if AOK l i t k then (if (HO l i t k).isSome = true then 0 else 4) else 1 := by
  unfold bitemp_At_pre bitemp_At_0 bitemp_At_1
  rw [(valid_is l).2, isItem_eq, isTime_eq, isTime_eq]
  by_cases h : AOK l i t k
  · have e : (!decide (VR l) || !decide (IT i) || !decide (TM t) || !decide (TM k)) = false := by
      rw [decide_eq_true h.1, decide_eq_true h.2.1, decide_eq_true h.2.2.1, decide_eq_true h.2.2.2]; rfl
    have hh := holds_is i t k l (by have := h.1.1; omega)
    rw [e, if_pos h, if_pos h]
    refine ⟨⟨(valid_is l).1, fun _ => hh.1⟩, ?_⟩
    rw [hh.2.1, hh.2.2]
    cases hho : HO l i t k with
    | none => exact ⟨rfl, rfl⟩
    | some r => exact ⟨rfl, rfl⟩
  · have e : (!decide (VR l) || !decide (IT i) || !decide (TM t) || !decide (TM k)) = true := by
      cases hb : (!decide (VR l) || !decide (IT i) || !decide (TM t) || !decide (TM k)) with
      | true => rfl
      | false =>
        simp at hb
        exact absurd ⟨hb.1.1.1, hb.1.1.2, hb.1.2, hb.2⟩ h
    rw [e, if_neg h, if_neg h]
    exact ⟨⟨(valid_is l).1, fun h => (by cases h)⟩, rfl, rfl⟩

/-! ### the reference's comparisons -/
/-- A row's five numbers. -/
def n5 (r : List Int) : List Int := [it r, va r, fr r, un r, kn r]
theorem n5_eq {r : List Int} (h : r.length = 5) : n5 r = r := by
  match r, h with
  | [a, b, c, d, e], _ => rfl
theorem eq5 (a b : List Int) : (a.getD 0 0 == b.getD 0 0 && (a.getD 1 0 == b.getD 1 0 && (a.getD 2 0 == b.getD 2 0 && (a.getD 3 0 == b.getD 3 0 && (a.getD 4 0 == b.getD 4 0 && true))))) = decide (n5 a = n5 b) := by
  rw [Bool.eq_iff_iff]
  simp [n5]
theorem same_is (a b : List (List Int)) (ha : a.length ≤ 4611686018427387904) : ref27_Same_pre a b ∧ ref27_Same_0 a b = decide (a.map n5 = b.map n5) := by
  unfold ref27_Same_pre ref27_Same_0
  by_cases hl : a.length = b.length
  · have hl' : ((a.length : Int) != (b.length : Int)) = false := by simp [hl]
    have key := loop_search (step := ref27_Same_l0_step a b) a.length (fun i => !decide (n5 (a.getD i []) = n5 (b.getD i []))) (fun i => [.b false, .i i]) (fun i => []) 0 2 [.b false, .i a.length]
      (fun i hi => by
        unfold ref27_Same_l0_step
        simp only [gi_1, gi_z, gb_z, dlt hi, guardP_pos (inR_of hi), guardP_pos (inR_of (show i < b.length by omega)), Int.toNat_natCast, wrap_succ (show i < 4611686018427387904 by omega), eq5])
      (by
        unfold ref27_Same_l0_step
        simp only [gi_1, gi_z, gb_z, dnlt])
    rw [hl']
    refine ⟨fun _ => key.1, ?_⟩
    rw [cond_false]
    rcases key.2 with ⟨i, h1, h2, h3, h4⟩ | ⟨h3, h4⟩
    · have e : ref27_Same_l0 a b = (1, []) := h4
      rw [e, decide_eq_false]
      · rfl
      · intro h
        have h2 := of_decide_eq_false (by simpa using h2 : decide (n5 (a.getD i []) = n5 (b.getD i [])) = false)
        apply h2
        have := congrArg (fun l => l[i]?) h
        simp only [List.getElem?_map] at this
        rw [List.getElem?_eq_getElem h1, List.getElem?_eq_getElem (by omega)] at this
        simp only [Option.map_some, Option.some.injEq] at this
        rw [List.getD_eq_getElem?_getD, List.getD_eq_getElem?_getD, List.getElem?_eq_getElem h1, List.getElem?_eq_getElem (by omega)]
        exact this
    · have e : ref27_Same_l0 a b = (3, [.b false, .i a.length]) := h4
      rw [e, decide_eq_true]
      · rfl
      · apply List.ext_getElem (by simpa using hl)
        intro i h1 h2
        have h1' : i < a.length := by simpa using h1
        have := h3 i h1'
        simp only [Bool.not_eq_false', decide_eq_true_eq] at this
        rw [List.getD_eq_getElem?_getD, List.getD_eq_getElem?_getD, List.getElem?_eq_getElem h1', List.getElem?_eq_getElem (by omega)] at this
        simpa using this
  · have hl' : ((a.length : Int) != (b.length : Int)) = true := by simp; omega
    rw [hl']
    refine ⟨fun h => (by cases h), ?_⟩
    rw [decide_eq_false]
    · rfl
    · intro h
      have := congrArg List.length h
      simp at this
      exact hl this
def hd1 (r : List Int) : Int := r.getD 0 0
theorem ints_is (a b : List (List Int)) (ha : a.length ≤ 4611686018427387904) : ref27_Ints_pre a b ∧ ref27_Ints_0 a b = decide (a.map hd1 = b.map hd1) := by
  unfold ref27_Ints_pre ref27_Ints_0
  by_cases hl : a.length = b.length
  · have hl' : ((a.length : Int) != (b.length : Int)) = false := by simp [hl]
    have key := loop_search (step := ref27_Ints_l0_step a b) a.length (fun i => !decide (hd1 (a.getD i []) = hd1 (b.getD i []))) (fun i => [.b false, .i i]) (fun i => []) 0 2 [.b false, .i a.length]
      (fun i hi => by
        unfold ref27_Ints_l0_step
        simp only [gi_1, gi_z, gb_z, dlt hi, guardP_pos (inR_of hi), guardP_pos (inR_of (show i < b.length by omega)), Int.toNat_natCast, wrap_succ (show i < 4611686018427387904 by omega)]
        have : ((a.getD i []).getD 0 0 != (b.getD i []).getD 0 0) = !decide (hd1 (a.getD i []) = hd1 (b.getD i [])) := by
          rw [Bool.eq_iff_iff]; simp [hd1]
        rw [this])
      (by
        unfold ref27_Ints_l0_step
        simp only [gi_1, gi_z, gb_z, dnlt])
    rw [hl']
    refine ⟨fun _ => key.1, ?_⟩
    rw [cond_false]
    rcases key.2 with ⟨i, h1, h2, h3, h4⟩ | ⟨h3, h4⟩
    · have e : ref27_Ints_l0 a b = (1, []) := h4
      rw [e, decide_eq_false]
      · rfl
      · intro h
        have h2 := of_decide_eq_false (by simpa using h2 : decide (hd1 (a.getD i []) = hd1 (b.getD i [])) = false)
        apply h2
        have := congrArg (fun l => l[i]?) h
        simp only [List.getElem?_map] at this
        rw [List.getElem?_eq_getElem h1, List.getElem?_eq_getElem (by omega)] at this
        simp only [Option.map_some, Option.some.injEq] at this
        rw [List.getD_eq_getElem?_getD, List.getD_eq_getElem?_getD, List.getElem?_eq_getElem h1, List.getElem?_eq_getElem (by omega)]
        exact this
    · have e : ref27_Ints_l0 a b = (3, [.b false, .i a.length]) := h4
      rw [e, decide_eq_true]
      · rfl
      · apply List.ext_getElem (by simpa using hl)
        intro i h1 h2
        have h1' : i < a.length := by simpa using h1
        have := h3 i h1'
        simp only [Bool.not_eq_false', decide_eq_true_eq] at this
        rw [List.getD_eq_getElem?_getD, List.getD_eq_getElem?_getD, List.getElem?_eq_getElem h1', List.getElem?_eq_getElem (by omega)] at this
        simpa using this
  · have hl' : ((a.length : Int) != (b.length : Int)) = true := by simp; omega
    rw [hl']
    refine ⟨fun h => (by cases h), ?_⟩
    rw [decide_eq_false]
    · rfl
    · intro h
      have := congrArg List.length h
      simp at this
      exact hl this
end Go.Proofs.Ytcbgjecpnhjlpaa
