/- Several texts in one (wip/merge.py): XBitempL XBitempM XBitempN. -/
import Derived.Test.YtcbgjecpnhjlpaaSyLq
import Derived.Test.YtcbgjecpnhjlpaaSyH
import Derived.Test.YtcbgjecpnhjlpaaBitemp1D
import Derived.Test.YtcbgjecpnhjlpaaSySo
import Derived.Test.YtcbgjecpnhjlpaaBitemp2D
/-!
  The loops of package bitemp as functions on lists: valid rows, what holds, the reference's comparisons.
-/
set_option linter.unusedVariables false
namespace Go.Proofs.Ytcbgjecpnhjlpaa
open Go Go.Sy

theorem imin_eq (a b : Int) : imin a b = if a ≤ b then a else b := by unfold imin; split <;> split <;> omega
theorem imax_eq (a b : Int) : imax a b = if a ≤ b then b else a := by unfold imax; split <;> split <;> omega
theorem getD_mem {l : List (List Int)} {i : Nat} (h : i < l.length) : l.getD i [] ∈ l := by
  rw [List.getD_eq_getElem?_getD, List.getElem?_eq_getElem h]
  exact List.getElem_mem h
theorem getD_of_mem {l : List (List Int)} {x : List Int} (h : x ∈ l) : ∃ i, i < l.length ∧ l.getD i [] = x := by
  obtain ⟨j, hj, rfl⟩ := List.getElem_of_mem h
  exact ⟨j, hj, by rw [List.getD_eq_getElem?_getD, List.getElem?_eq_getElem hj]; rfl⟩
theorem take_succ' {l : List (List Int)} {i : Nat} (h : i < l.length) : l.take (i + 1) = l.take i ++ [l.getD i []] := by
  rw [List.take_succ_eq_append_getElem h, List.getD_eq_getElem?_getD, List.getElem?_eq_getElem h]; rfl
theorem drop_cons' {l : List (List Int)} {i : Nat} (h : i < l.length) : l.drop i = l.getD i [] :: l.drop (i + 1) := by
  rw [List.drop_eq_getElem_cons h, List.getD_eq_getElem?_getD, List.getElem?_eq_getElem h]; rfl
theorem list_eq_of {a b : List (List Int)} (hl : a.length = b.length) (h : ∀ i, i < a.length → a.getD i [] = b.getD i []) : a = b := by
  apply List.ext_getElem hl
  intro i h1 h2
  have := h i h1
  rwa [List.getD_eq_getElem?_getD, List.getD_eq_getElem?_getD, List.getElem?_eq_getElem h1, List.getElem?_eq_getElem h2] at this
theorem pairwise_getD {R : List Int → List Int → Prop} {l : List (List Int)} (h : l.Pairwise R) {i j : Nat} (hi : i < j) (hj : j < l.length) : R (l.getD i []) (l.getD j []) := by
  have := List.pairwise_iff_getElem.1 h i j (by omega) hj hi
  rwa [List.getD_eq_getElem?_getD, List.getD_eq_getElem?_getD, List.getElem?_eq_getElem (by omega), List.getElem?_eq_getElem hj]
theorem pairwise_of_getD {R : List Int → List Int → Prop} {l : List (List Int)} (h : ∀ i j, i < j → j < l.length → R (l.getD i []) (l.getD j [])) : l.Pairwise R := by
  refine List.pairwise_iff_getElem.2 fun i j hi hj hij => ?_
  have := h i j hij hj
  rwa [List.getD_eq_getElem?_getD, List.getD_eq_getElem?_getD, List.getElem?_eq_getElem hi, List.getElem?_eq_getElem hj] at this

/-! ### rows -/
abbrev it (r : List Int) : Int := r.getD 0 0
abbrev va (r : List Int) : Int := r.getD 1 0
abbrev fr (r : List Int) : Int := r.getD 2 0
abbrev un (r : List Int) : Int := r.getD 3 0
abbrev kn (r : List Int) : Int := r.getD 4 0
def TM (t : Int) : Prop := 0 ≤ t ∧ t ≤ 10000000
instance (t : Int) : Decidable (TM t) := by unfold TM; infer_instance
def IT (t : Int) : Prop := 1 ≤ t ∧ t ≤ 100000
instance (t : Int) : Decidable (IT t) := by unfold IT; infer_instance
def VA (t : Int) : Prop := -1000000000000 ≤ t ∧ t ≤ 1000000000000
instance (t : Int) : Decidable (VA t) := by unfold VA; infer_instance
/-- A row. -/
def RO (r : List Int) : Prop := IT (it r) ∧ VA (va r) ∧ TM (fr r) ∧ TM (un r) ∧ fr r < un r ∧ TM (kn r)
instance (r : List Int) : Decidable (RO r) := by unfold RO; infer_instance
/-- A list of rows. -/
def VR (l : List (List Int)) : Prop := l.length ≤ 200 ∧ (∀ r ∈ l, RO r) ∧ l.Pairwise (fun a b => kn a ≤ kn b)
instance (l : List (List Int)) : Decidable (VR l) := by unfold VR; infer_instance
theorem isTime_eq (t : Int) : bitemp_isTime_0 t = decide (TM t) := by
  unfold bitemp_isTime_0; rw [Bool.eq_iff_iff, decide_eq_true_eq]; unfold TM; simp
theorem isItem_eq (t : Int) : bitemp_isItem_0 t = decide (IT t) := by
  unfold bitemp_isItem_0; rw [Bool.eq_iff_iff, decide_eq_true_eq]; unfold IT; simp
theorem isValue_eq (t : Int) : bitemp_isValue_0 t = decide (VA t) := by
  unfold bitemp_isValue_0; rw [Bool.eq_iff_iff, decide_eq_true_eq]; unfold VA; simp
def RO5 (a b c d e : Int) : Prop := IT a ∧ VA b ∧ TM c ∧ TM d ∧ c < d ∧ TM e
instance (a b c d e : Int) : Decidable (RO5 a b c d e) := by unfold RO5; infer_instance
theorem isRow_eq (a b c d e : Int) : bitemp_isRow_0 a b c d e = decide (RO5 a b c d e) := by
  unfold bitemp_isRow_0
  rw [isItem_eq, isValue_eq, isTime_eq, isTime_eq, isTime_eq, Bool.eq_iff_iff, decide_eq_true_eq]
  unfold RO5
  simp [and_assoc]
theorem cmp_neg' (a b : Int) : decide (cmp_Compare_int_0 a b < 0) = decide (a < b) := by
  unfold cmp_Compare_int_0 cmp_Compare_int_s0
  simp only [bne_self_eq_false, cond_false]
  by_cases h : a < b
  · simp [h]
  · by_cases h2 : a > b
    · simp [h, h2]
    · simp [h, h2]
theorem valid_is (l : List (List Int)) : bitemp_Valid_pre l ∧ bitemp_Valid_0 l = decide (VR l) := by
  unfold bitemp_Valid_pre bitemp_Valid_0
  by_cases hl : l.length ≤ 200
  · have hl' : decide ((l.length : Int) ≤ 200) = true := by simp; omega
    have key := loop_search (step := bitemp_Valid_l0_step l) l.length (fun i => !decide (RO (l.getD i []))) (fun i => [.i 0, .i i]) (fun i => [.i i]) 0 2 [.i 0, .i l.length]
      (fun i hi => by
        unfold bitemp_Valid_l0_step
        simp only [gi_1, gi_z, gb_z, dlt hi, guardP_pos (inR_of hi), Int.toNat_natCast, wrap_succ (show i < 4611686018427387904 by omega), isRow_eq]
        rfl)
      (by
        unfold bitemp_Valid_l0_step
        simp only [gi_1, gi_z, gb_z, dnlt])
    have key2 := loop_search (step := bitemp_Valid_l1_step l) (l.length - 1) (fun j => decide (kn (l.getD (l.length - 1 - j) []) < kn (l.getD (l.length - 1 - j - 1) []))) (fun j => [.b false, .i ((l.length : Int) - 1 - j)]) (fun j => []) 0 2 [.b false, .i ((l.length : Int) - 1 - (l.length - 1 : Nat))]
      (fun j hj => by
        unfold bitemp_Valid_l1_step
        have e1 : ((l.length : Int) - 1 - (j : Int)) = ((l.length - 1 - j : Nat) : Int) := by omega
        have e2 : IntKind.i64.wrap ((l.length : Int) - 1 - j - 1) = ((l.length - 1 - j - 1 : Nat) : Int) := by rw [i64_wrap (by omega)]; omega
        have e3 : ((l.length - 1 - j - 1 : Nat) : Int) = (l.length : Int) - 1 - ((j + 1 : Nat) : Int) := by omega
        have hpos : decide (((l.length : Int) - 1 - (j : Int)) > 0) = true := by simp; omega
        simp only [gi_1, gi_z, gb_z, hpos, cond_true, e2, cmp_neg']
        rw [e1, guardP_pos (inR_of (by omega)), guardP_pos (inR_of (by omega)), guardP_pos (inR_of (by omega)), guardP_pos (inR_of (by omega))]
        simp only [Int.toNat_natCast]
        have e4 : U.i ((l.length - 1 - j - 1 : Nat) : Int) = U.i ((l.length : Int) - 1 - ((j + 1 : Nat) : Int)) := by rw [e3]
        rw [e4])
      (by
        unfold bitemp_Valid_l1_step
        have hpos : decide (((l.length : Int) - 1 - ((l.length - 1 : Nat) : Int)) > 0) = false := by simp; omega
        simp only [gi_1, gi_z, gb_z, hpos, cond_false])
    have hin : bitemp_Valid_l1_init l = [.b false, .i ((l.length : Int) - 1 - ((0 : Nat) : Int))] := by
      unfold bitemp_Valid_l1_init
      rw [i64_wrap (by omega)]
      simp
    have k1 : bitemp_Valid_l1 l = loopGet (bitemp_Valid_l1_step l) [.b false, .i ((l.length : Int) - 1 - ((0 : Nat) : Int))] := by unfold bitemp_Valid_l1; rw [hin]
    rw [hl', hin]
    refine ⟨⟨fun _ => key.1, fun _ => key2.1⟩, ?_⟩
    rw [Bool.true_and, k1]
    rcases key.2 with ⟨i, h1, h2, h3, h4⟩ | ⟨h3, h4⟩
    · have e : bitemp_Valid_l0 l = (1, [.i i]) := h4
      rw [e]
      have : ¬ VR l := fun h => by
        have := h.2.1 _ (getD_mem h1)
        rw [decide_eq_true this] at h2; cases h2
      rw [decide_eq_false this]
      have hb : (!decide ((bif Nat.beq 1 1 then gi [U.i (i : Int)] 0 else -1) ≥ (0 : Int))) = false := by simp [Nat.beq, gi_z]
      rw [hb]
      rfl
    · have e : bitemp_Valid_l0 l = (3, [.i 0, .i l.length]) := h4
      rw [e]
      have hb : (!decide ((bif Nat.beq 3 1 then gi [U.i (0 : Int), .i (l.length : Int)] 0 else -1) ≥ (0 : Int))) = true := by simp [Nat.beq]
      rw [hb, Bool.true_and]
      have hro : ∀ r ∈ l, RO r := fun r hr => by
        obtain ⟨j, hj, rfl⟩ := getD_of_mem hr
        simpa using h3 j hj
      rcases key2.2 with ⟨i, g1, g2, g3, g4⟩ | ⟨g3, g4⟩
      · rw [g4]
        have : ¬ VR l := fun h => by
          have := pairwise_getD h.2.2 (show l.length - 1 - i - 1 < l.length - 1 - i by omega) (by omega)
          have g2 := of_decide_eq_true g2
          omega
        rw [decide_eq_false this]; rfl
      · rw [g4]
        have : VR l := by
          refine ⟨hl, hro, pairwise_of_getD fun i j hij hj => ?_⟩
          have key3 : ∀ d, ∀ i, i + d < l.length → kn (l.getD i []) ≤ kn (l.getD (i + d) []) := by
            intro d
            induction d with
            | zero => intro i _; exact Int.le_refl _
            | succ d ih =>
              intro i hi
              have h5 := ih i (by omega)
              have h6 := g3 (l.length - 1 - (i + d + 1)) (by omega)
              have e1 : l.length - 1 - (l.length - 1 - (i + d + 1)) = i + d + 1 := by omega
              have h6 := of_decide_eq_false h6
              rw [e1, Nat.add_sub_cancel] at h6
              show _ ≤ kn (l.getD (i + d + 1) [])
              omega
          have := key3 (j - i) i (by omega)
          rwa [show i + (j - i) = j by omega] at this
        rw [decide_eq_true this]; rfl
  · have hl' : decide ((l.length : Int) ≤ 200) = false := by simp; omega
    rw [hl']
    refine ⟨⟨fun h => (Bool.noConfusion h), fun h => (by simp at h)⟩, ?_⟩
    have : ¬ VR l := fun h => hl h.1
    rw [decide_eq_false this]; rfl

/-! ### what holds -/
/-- A row says something of an item at a time, as it was known at a time. -/
def says (i t k : Int) (r : List Int) : Bool := it r == i && decide (kn r ≤ k) && decide (fr r ≤ t) && decide (t < un r)
/-- The row that says what holds. -/
def HO (l : List (List Int)) (i t k : Int) : Option (List Int) := l.reverse.find? (says i t k)
theorem HO_nil (i t k : Int) : HO [] i t k = none := rfl
theorem HO_snoc (l : List (List Int)) (r : List Int) (i t k : Int) : HO (l ++ [r]) i t k = if says i t k r = true then some r else HO l i t k := by
  unfold HO
  rw [List.reverse_append, List.reverse_singleton, List.singleton_append, List.find?_cons]
  cases says i t k r <;> rfl
theorem HO_congr {l : List (List Int)} {i t k i' t' k' : Int} (h : ∀ r ∈ l, says i t k r = says i' t' k' r) : HO l i t k = HO l i' t' k' := by
  unfold HO
  have : ∀ m : List (List Int), (∀ r ∈ m, says i t k r = says i' t' k' r) → m.find? (says i t k) = m.find? (says i' t' k') := by
    intro m
    induction m with
    | nil => intro _; rfl
    | cons x m ih =>
      intro h
      rw [List.find?_cons, List.find?_cons, h x (by simp), ih fun r hr => h r (by simp [hr])]
  exact this _ fun r hr => h r (List.mem_reverse.1 hr)
theorem HO_some {l : List (List Int)} {i t k : Int} {r : List Int} (h : HO l i t k = some r) : r ∈ l ∧ says i t k r = true := by
  unfold HO at h
  exact ⟨List.mem_reverse.1 (List.mem_of_find?_eq_some h), List.find?_some h⟩
theorem HO_none {l : List (List Int)} {i t k : Int} : HO l i t k = none ↔ ∀ r ∈ l, says i t k r = false := by
  unfold HO
  rw [List.find?_eq_none]
  simp
theorem holds_is (i t k : Int) (l : List (List Int)) (hl : l.length ≤ 9223372036854775807) : bitemp_holds_pre i t k l ∧ bitemp_holds_5 i t k l = (HO l i t k).isSome ∧
    bitemp_holds_1 i t k l = va ((HO l i t k).getD []) := by
  have key := loop_search (step := bitemp_holds_l0_step i t k l) l.length (fun j => says i t k (l.getD (l.length - 1 - j) [])) (fun j => [.i ((l.length : Int) - 1 - j)])
    (fun j => [.i (it (l.getD (l.length - 1 - j) [])), .i (va (l.getD (l.length - 1 - j) [])), .i (fr (l.getD (l.length - 1 - j) [])), .i (un (l.getD (l.length - 1 - j) [])), .i (kn (l.getD (l.length - 1 - j) []))]) 0 2 [.i ((l.length : Int) - 1 - l.length)]
    (fun j hj => by
      unfold bitemp_holds_l0_step
      have e1 : ((l.length : Int) - 1 - (j : Int)) = ((l.length - 1 - j : Nat) : Int) := by omega
      have e2 : IntKind.i64.wrap ((l.length : Int) - 1 - j - 1) = (l.length : Int) - 1 - ((j + 1 : Nat) : Int) := by rw [i64_wrap (by omega)]; omega
      have hpos : decide (((l.length : Int) - 1 - (j : Int)) ≥ 0) = true := by simp; omega
      simp only [gi_1, gi_z, gb_z, hpos, cond_true, e2]
      rw [e1, guardP_pos (inR_of (by omega)), guardP_pos (inR_of (by omega))]
      simp only [Int.toNat_natCast]
      rfl)
    (by
      unfold bitemp_holds_l0_step
      have hpos : decide (((l.length : Int) - 1 - (l.length : Int)) ≥ 0) = false := by simp; omega
      simp only [gi_1, gi_z, gb_z, hpos, cond_false])
  have hin : bitemp_holds_l0_init i t k l = [.i ((l.length : Int) - 1 - ((0 : Nat) : Int))] := by
    unfold bitemp_holds_l0_init
    rw [i64_wrap (by omega)]
    simp
  unfold bitemp_holds_pre bitemp_holds_5 bitemp_holds_1 bitemp_holds_l0
  rw [hin]
  refine ⟨key.1, ?_⟩
  rcases key.2 with ⟨j, h1, h2, h3, h4⟩ | ⟨h3, h4⟩
  · have e : HO l i t k = some (l.getD (l.length - 1 - j) []) := by
      unfold HO
      rw [List.find?_eq_some_iff_getElem]
      refine ⟨h2, j, by simpa using h1, ?_, fun j' hj' => ?_⟩
      · rw [List.getElem_reverse, List.getD_eq_getElem?_getD, List.getElem?_eq_getElem (by omega)]; rfl
      · have := h3 j' hj'
        rw [List.getElem_reverse]
        rw [List.getD_eq_getElem?_getD, List.getElem?_eq_getElem (by omega)] at this
        rw [show l[l.length - 1 - j'] = (some l[l.length - 1 - j']).getD [] from rfl, this]; rfl
    rw [h4, e]
    exact ⟨rfl, rfl⟩
  · have e : HO l i t k = none := HO_none.2 fun r hr => by
      obtain ⟨j, hj, rfl⟩ := getD_of_mem hr
      have := h3 (l.length - 1 - j) (by omega)
      rwa [show l.length - 1 - (l.length - 1 - j) = j by omega] at this
    rw [h4, e]
    exact ⟨rfl, rfl⟩
/-- The arguments of At are valid. -/
def AOK (l : List (List Int)) (i t k : Int) : Prop := VR l ∧ IT i ∧ TM t ∧ TM k
instance (l : List (List Int)) (i t k : Int) : Decidable (AOK l i t k) := by unfold AOK; infer_instance
theorem at_is (i t k : Int) (l : List (List Int)) : bitemp_At_pre i t k l ∧ bitemp_At_0 i t k l = (if AOK l i t k then va ((HO l i t k).getD []) else 0) ∧
    bitemp_At_1 i t k l = if AOK l i t k then (if (HO l i t k).isSome = true then 0 else 4) else 1 := by
  unfold bitemp_At_pre bitemp_At_0 bitemp_At_1
  rw [(valid_is l).2, isItem_eq, isTime_eq, isTime_eq]
  by_cases h : AOK l i t k
  · have e : (!decide (VR l) || !decide (IT i) || !decide (TM t) || !decide (TM k)) = false := by
      rw [decide_eq_true h.1, decide_eq_true h.2.1, decide_eq_true h.2.2.1, decide_eq_true h.2.2.2]; rfl
    have hh := holds_is i t k l (by have := h.1.1; omega)
    rw [e, if_pos h, if_pos h]
    refine ⟨⟨(valid_is l).1, fun _ => hh.1⟩, ?_⟩
    rw [hh.2.1, hh.2.2]
    cases hho : HO l i t k with
    | none => exact ⟨rfl, rfl⟩
    | some r => exact ⟨rfl, rfl⟩
  · have e : (!decide (VR l) || !decide (IT i) || !decide (TM t) || !decide (TM k)) = true := by
      cases hb : (!decide (VR l) || !decide (IT i) || !decide (TM t) || !decide (TM k)) with
      | true => rfl
      | false =>
        simp at hb
        exact absurd ⟨hb.1.1.1, hb.1.1.2, hb.1.2, hb.2⟩ h
    rw [e, if_neg h, if_neg h]
    exact ⟨⟨(valid_is l).1, fun h => (by cases h)⟩, rfl, rfl⟩

/-! ### the reference's comparisons -/
/-- A row's five numbers. -/
def n5 (r : List Int) : List Int := [it r, va r, fr r, un r, kn r]
theorem n5_eq {r : List Int} (h : r.length = 5) : n5 r = r := by
  match r, h with
  | [a, b, c, d, e], _ => rfl
theorem eq5 (a b : List Int) : (a.getD 0 0 == b.getD 0 0 && (a.getD 1 0 == b.getD 1 0 && (a.getD 2 0 == b.getD 2 0 && (a.getD 3 0 == b.getD 3 0 && (a.getD 4 0 == b.getD 4 0 && true))))) = decide (n5 a = n5 b) := by
  rw [Bool.eq_iff_iff]
  simp [n5]
theorem same_is (a b : List (List Int)) (ha : a.length ≤ 4611686018427387904) : ref27_Same_pre a b ∧ ref27_Same_0 a b = decide (a.map n5 = b.map n5) := by
  unfold ref27_Same_pre ref27_Same_0
  by_cases hl : a.length = b.length
  · have hl' : ((a.length : Int) != (b.length : Int)) = false := by simp [hl]
    have key := loop_search (step := ref27_Same_l0_step a b) a.length (fun i => !decide (n5 (a.getD i []) = n5 (b.getD i []))) (fun i => [.b false, .i i]) (fun i => []) 0 2 [.b false, .i a.length]
      (fun i hi => by
        unfold ref27_Same_l0_step
        simp only [gi_1, gi_z, gb_z, dlt hi, guardP_pos (inR_of hi), guardP_pos (inR_of (show i < b.length by omega)), Int.toNat_natCast, wrap_succ (show i < 4611686018427387904 by omega), eq5])
      (by
        unfold ref27_Same_l0_step
        simp only [gi_1, gi_z, gb_z, dnlt])
    rw [hl']
    refine ⟨fun _ => key.1, ?_⟩
    rw [cond_false]
    rcases key.2 with ⟨i, h1, h2, h3, h4⟩ | ⟨h3, h4⟩
    · have e : ref27_Same_l0 a b = (1, []) := h4
      rw [e, decide_eq_false]
      · rfl
      · intro h
        have h2 := of_decide_eq_false (by simpa using h2 : decide (n5 (a.getD i []) = n5 (b.getD i [])) = false)
        apply h2
        have := congrArg (fun l => l[i]?) h
        simp only [List.getElem?_map] at this
        rw [List.getElem?_eq_getElem h1, List.getElem?_eq_getElem (by omega)] at this
        simp only [Option.map_some, Option.some.injEq] at this
        rw [List.getD_eq_getElem?_getD, List.getD_eq_getElem?_getD, List.getElem?_eq_getElem h1, List.getElem?_eq_getElem (by omega)]
        exact this
    · have e : ref27_Same_l0 a b = (3, [.b false, .i a.length]) := h4
      rw [e, decide_eq_true]
      · rfl
      · apply List.ext_getElem (by simpa using hl)
        intro i h1 h2
        have h1' : i < a.length := by simpa using h1
        have := h3 i h1'
        simp only [Bool.not_eq_false', decide_eq_true_eq] at this
        rw [List.getD_eq_getElem?_getD, List.getD_eq_getElem?_getD, List.getElem?_eq_getElem h1', List.getElem?_eq_getElem (by omega)] at this
        simpa using this
  · have hl' : ((a.length : Int) != (b.length : Int)) = true := by simp; omega
    rw [hl']
    refine ⟨fun h => (by cases h), ?_⟩
    rw [decide_eq_false]
    · rfl
    · intro h
      have := congrArg List.length h
      simp at this
      exact hl this
def hd1 (r : List Int) : Int := r.getD 0 0
theorem ints_is (a b : List (List Int)) (ha : a.length ≤ 4611686018427387904) : ref27_Ints_pre a b ∧ ref27_Ints_0 a b = decide (a.map hd1 = b.map hd1) := by
  unfold ref27_Ints_pre ref27_Ints_0
  by_cases hl : a.length = b.length
  · have hl' : ((a.length : Int) != (b.length : Int)) = false := by simp [hl]
    have key := loop_search (step := ref27_Ints_l0_step a b) a.length (fun i => !decide (hd1 (a.getD i []) = hd1 (b.getD i []))) (fun i => [.b false, .i i]) (fun i => []) 0 2 [.b false, .i a.length]
      (fun i hi => by
        unfold ref27_Ints_l0_step
        simp only [gi_1, gi_z, gb_z, dlt hi, guardP_pos (inR_of hi), guardP_pos (inR_of (show i < b.length by omega)), Int.toNat_natCast, wrap_succ (show i < 4611686018427387904 by omega)]
        have : ((a.getD i []).getD 0 0 != (b.getD i []).getD 0 0) = !decide (hd1 (a.getD i []) = hd1 (b.getD i [])) := by
          rw [Bool.eq_iff_iff]; simp [hd1]
        rw [this])
      (by
        unfold ref27_Ints_l0_step
        simp only [gi_1, gi_z, gb_z, dnlt])
    rw [hl']
    refine ⟨fun _ => key.1, ?_⟩
    rw [cond_false]
    rcases key.2 with ⟨i, h1, h2, h3, h4⟩ | ⟨h3, h4⟩
    · have e : ref27_Ints_l0 a b = (1, []) := h4
      rw [e, decide_eq_false]
      · rfl
      · intro h
        have h2 := of_decide_eq_false (by simpa using h2 : decide (hd1 (a.getD i []) = hd1 (b.getD i [])) = false)
        apply h2
        have := congrArg (fun l => l[i]?) h
        simp only [List.getElem?_map] at this
        rw [List.getElem?_eq_getElem h1, List.getElem?_eq_getElem (by omega)] at this
        simp only [Option.map_some, Option.some.injEq] at this
        rw [List.getD_eq_getElem?_getD, List.getD_eq_getElem?_getD, List.getElem?_eq_getElem h1, List.getElem?_eq_getElem (by omega)]
        exact this
    · have e : ref27_Ints_l0 a b = (3, [.b false, .i a.length]) := h4
      rw [e, decide_eq_true]
      · rfl
      · apply List.ext_getElem (by simpa using hl)
        intro i h1 h2
        have h1' : i < a.length := by simpa using h1
        have := h3 i h1'
        simp only [Bool.not_eq_false', decide_eq_true_eq] at this
        rw [List.getD_eq_getElem?_getD, List.getD_eq_getElem?_getD, List.getElem?_eq_getElem h1', List.getElem?_eq_getElem (by omega)] at this
        simpa using this
  · have hl' : ((a.length : Int) != (b.length : Int)) = true := by simp; omega
    rw [hl']
    refine ⟨fun h => (by cases h), ?_⟩
    rw [decide_eq_false]
    · rfl
    · intro h
      have := congrArg List.length h
      simp at this
      exact hl this
end Go.Proofs.Ytcbgjecpnhjlpaa

/-!
  Histories: rows that do not overlap; they are determined by what holds.
-/
set_option linter.unusedVariables false
namespace Go.Proofs.Ytcbgjecpnhjlpaa
open Go Go.Sy

/-- A row of a history. -/
def HR (i k : Int) (x : List Int) : Prop := x.length = 5 ∧ it x = i ∧ kn x = k ∧ VA (va x) ∧ TM (fr x) ∧ TM (un x) ∧ fr x < un x
/-- Rows that rise. -/
def HI (i k : Int) (h : List (List Int)) : Prop := (∀ x ∈ h, HR i k x) ∧ h.Pairwise (fun a b => un a ≤ fr b)
def hasV (h : List (List Int)) (t v : Int) : Prop := ∃ x ∈ h, fr x ≤ t ∧ t < un x ∧ va x = v
def CR (a b : List Int) : Prop := un a < fr b ∨ (un a = fr b ∧ va a ≠ va b)
/-- A history. -/
def CAN (i k : Int) (h : List (List Int)) : Prop := (∀ x ∈ h, HR i k x) ∧ h.Pairwise CR
theorem CAN.hi {i k : Int} {h : List (List Int)} (hc : CAN i k h) : HI i k h := ⟨hc.1, hc.2.imp fun {a b} h => by unfold CR at h; omega⟩
theorem hi_len {h : List (List Int)} : ∀ {c : Int}, c ≤ 10000000 → (∀ x ∈ h, c ≤ fr x ∧ fr x < un x ∧ un x ≤ 10000000) → h.Pairwise (fun a b => un a ≤ fr b) → (h.length : Int) + c ≤ 10000000 := by
  induction h with
  | nil => intro c hc _ _; simpa using hc
  | cons x r ih =>
    intro c hc hx hp
    have hp1 := List.pairwise_cons.1 hp
    have h0 := hx x (by simp)
    have := ih (c := un x) (by omega) (fun y hy => ⟨hp1.1 y hy, (hx y (by simp [hy])).2⟩) hp1.2
    simp only [List.length_cons]
    omega
theorem HI.len {i k : Int} {h : List (List Int)} (hh : HI i k h) : h.length ≤ 10000000 := by
  have := hi_len (c := 0) (by omega) (fun x hx => by obtain ⟨_, _, _, _, h1, h2, h3⟩ := hh.1 x hx; unfold TM at h1 h2; omega) hh.2
  omega

/-! ### joining -/
def jn2 : List Int → List (List Int) → List (List Int)
  | cur, [] => [cur]
  | cur, r :: rs => if un cur = fr r ∧ va cur = va r then jn2 [it cur, va cur, fr cur, un r, kn cur] rs else cur :: jn2 (n5 r) rs
def jnL : List (List Int) → List (List Int)
  | [] => []
  | r :: rs => jn2 (n5 r) rs
theorem setEl_3 {c : List Int} (h : c.length = 5) (x : Int) : setEl 5 c 3 [x] = [it c, va c, fr c, x, kn c] := by
  match c, h with
  | [a, b, c, d, e], _ => rfl
theorem join_is (h : List (List Int)) (hl : h.length ≤ 1000000000000) : bitemp_join_pre h ∧ bitemp_join_0 h = jnL h := by
  have key := loop_for (step := bitemp_join_l0_step h) h.length (fun i xs => ∃ out : List (List Int), xs = [.i (i : Int), .r out] ∧ out.length ≤ i ∧ ((i = 0 ∧ out = []) ∨ ∃ pre cur, cur.length = 5 ∧ out = pre ++ [cur] ∧ jnL h = pre ++ jn2 cur (h.drop i)))
    (fun res => res = (3, [.i (h.length : Int), .r (jnL h)]))
    (fun i xs hi ⟨out, e, hlen, hinv⟩ => by
      subst e
      have hx : bitemp_join_s2 h [U.i (i : Int), U.r out] = out ++ [n5 (h.getD i [])] := by
        unfold bitemp_join_s2 bitemp_join_s1
        simp only [gi_1, gi_z, gr_1, gr_z, Int.toNat_natCast]
        rfl
      have hd : h.drop i = h.getD i [] :: h.drop (i + 1) := drop_cons' hi
      have hfit : fitsA 40 (out.length + [(h.getD i []).getD 0 0 :: (h.getD i []).getD 1 0 :: bitemp_join_s1 h [U.i (i : Int), U.r out]].length) := by
        unfold fitsA maxLen; simp only [List.length_cons, List.length_nil]; omega
      refine .inl ?_
      unfold bitemp_join_l0_step
      simp only [gi_1, gi_z, gr_1, gr_z, dlt hi, guardP_pos (inR_of hi), Int.toNat_natCast, wrap_succ (show i < 4611686018427387904 by omega), hx]
      rcases hinv with ⟨rfl, rfl⟩ | ⟨pre, cur, hc5, rfl, hj⟩
      · have hz : decide ((([] : List (List Int)).length : Int) > 0) = false := by simp
        simp only [hz, Bool.false_and, cond_false]
        rw [guardP_pos (fun h => (by cases h)), guardP_pos (fun h => (by cases h)), guardP_pos (fun h => (by cases h)), guardP_pos (fun h => (by cases h)), guardP_pos (fun h => (by cases h)), guardP_pos (fun h => (by cases h)), guardP_pos hfit]
        refine ⟨_, rfl, _, rfl, by simp, .inr ⟨[], n5 (h.getD 0 []), rfl, rfl, ?_⟩⟩
        have h0 : h = h.getD 0 [] :: h.drop 1 := by simpa using hd
        conv => lhs; rw [h0]
        rfl
      · have hz : decide (((pre ++ [cur]).length : Int) > 0) = true := by simp
        have hw : IntKind.i64.wrap (((pre ++ [cur]).length : Int) - 1) = ((pre.length : Nat) : Int) := by rw [i64_wrap (by simp at hlen ⊢; omega)]; simp
        have hin : inR ((pre.length : Nat) : Int) (pre ++ [cur]) := inR_of (by simp)
        have hg : (pre ++ [cur]).getD pre.length [] = cur := by simp [List.getD_eq_getElem?_getD]
        have hset : bitemp_join_s0 h [U.i (i : Int), U.r (pre ++ [cur])] = [it cur, va cur, fr cur, un (h.getD i []), kn cur] := by
          unfold bitemp_join_s0
          simp only [gi_1, gi_z, gr_1, gr_z, hw, Int.toNat_natCast, hg]
          exact setEl_3 hc5 _
        simp only [hz, hw, Bool.true_and, Int.toNat_natCast, hg, hset]
        rw [guardP_pos (fun _ => hin), guardP_pos (fun _ => hin), guardP_pos (fun _ => hin), guardP_pos (fun _ => hin), guardP_pos (fun _ => hin), guardP_pos (fun _ => hin)]
        rw [hd] at hj
        by_cases hc : un cur = fr (h.getD i []) ∧ va cur = va (h.getD i [])
        · have hb : ((cur.getD 3 0 == (h.getD i []).getD 2 0) && (cur.getD 1 0 == (h.getD i []).getD 1 0)) = true := by simp; exact hc
          rw [hb, cond_true, guardP_pos hin, guardP_pos hin, guardP_pos hin]
          refine ⟨_, rfl, _, rfl, by simp at hlen ⊢; omega, .inr ⟨pre, [it cur, va cur, fr cur, un (h.getD i []), kn cur], rfl, by simp, ?_⟩⟩
          rw [hj]
          show pre ++ (if _ then _ else _) = _
          rw [if_pos hc]
        · have hb : ((cur.getD 3 0 == (h.getD i []).getD 2 0) && (cur.getD 1 0 == (h.getD i []).getD 1 0)) = false := by
            rw [Bool.eq_false_iff]; intro h; simp at h; exact hc h
          rw [hb, cond_false, guardP_pos hfit]
          refine ⟨_, rfl, _, rfl, by simp at hlen ⊢; omega, .inr ⟨pre ++ [cur], n5 (h.getD i []), rfl, rfl, ?_⟩⟩
          rw [hj]
          show pre ++ (if _ then _ else _) = _
          rw [if_neg hc]
          simp)
    (fun xs ⟨out, e, hlen, hinv⟩ => by
      subst e
      refine ⟨2, [.i (h.length : Int), .r out], ?_, ?_⟩
      · unfold bitemp_join_l0_step
        simp only [gi_1, gi_z, gr_1, gr_z, dnlt]
      · have : out = jnL h := by
          rcases hinv with ⟨h0, rfl⟩ | ⟨pre, cur, _, rfl, hj⟩
          · rw [List.length_eq_zero_iff.1 h0]; rfl
          · rw [hj, List.drop_length]; rfl
        rw [this])
    (xs := bitemp_join_l0_init h) ⟨[], rfl, by simp, .inl ⟨rfl, rfl⟩⟩
  refine ⟨key.1, ?_⟩
  unfold bitemp_join_0 bitemp_join_l0
  rw [key.2]
  rfl
theorem jn2_is {i k : Int} : ∀ (rs : List (List Int)) (cur : List Int), HI i k (cur :: rs) → ∃ hd tl, jn2 cur rs = hd :: tl ∧ fr hd = fr cur ∧ va hd = va cur ∧ CAN i k (hd :: tl) ∧ (∀ y ∈ tl, fr cur < fr y) ∧ ∀ t v, hasV (hd :: tl) t v ↔ hasV (cur :: rs) t v := by
  intro rs
  induction rs with
  | nil =>
    intro cur h
    refine ⟨cur, [], rfl, rfl, rfl, ⟨h.1, List.pairwise_singleton _ _⟩, by simp, fun t v => Iff.rfl⟩
  | cons r rs ih =>
    intro cur h
    have hcur := h.1 cur (by simp)
    have hr := h.1 r (by simp)
    have hp := List.pairwise_cons.1 h.2
    have hp2 := List.pairwise_cons.1 hp.2
    have h1 := hp.1 r (by simp)
    obtain ⟨c1, c2, c3, c4, c5, c6, c7⟩ := hcur
    obtain ⟨r1, r2, r3, r4, r5, r6, r7⟩ := hr
    unfold jn2
    by_cases hc : un cur = fr r ∧ va cur = va r
    · rw [if_pos hc]
      have hh : HI i k ([it cur, va cur, fr cur, un r, kn cur] :: rs) := by
        refine ⟨fun x hx => ?_, List.pairwise_cons.2 ⟨fun y hy => hp2.1 y hy, hp2.2⟩⟩
        rcases List.mem_cons.1 hx with rfl | hx
        · exact ⟨rfl, c2, c3, c4, c5, r6, by show fr cur < un r; omega⟩
        · exact h.1 x (by simp [hx])
      obtain ⟨hd, tl, g1, g2, g3, g4, g5, g6⟩ := ih _ hh
      refine ⟨hd, tl, g1, g2, g3, g4, g5, fun t v => (g6 t v).trans ⟨?_, ?_⟩⟩
      · rintro ⟨x, hx, hx1, hx2, hx3⟩
        rcases List.mem_cons.1 hx with rfl | hx
        · have hx1 : fr cur ≤ t := hx1
          have hx2 : t < un r := hx2
          have hx3 : va cur = v := hx3
          by_cases ht : t < un cur
          · exact ⟨cur, by simp, hx1, ht, hx3⟩
          · exact ⟨r, by simp, by omega, hx2, by rw [← hc.2]; exact hx3⟩
        · exact ⟨x, by simp [hx], hx1, hx2, hx3⟩
      · rintro ⟨x, hx, hx1, hx2, hx3⟩
        rcases List.mem_cons.1 hx with rfl | hx
        · exact ⟨_, List.mem_cons_self, hx1, (show t < un r by omega), hx3⟩
        · rcases List.mem_cons.1 hx with rfl | hx
          · exact ⟨_, List.mem_cons_self, (show fr cur ≤ t by omega), hx2, (show va cur = v by rw [hc.2]; exact hx3)⟩
          · exact ⟨x, List.mem_cons_of_mem _ hx, hx1, hx2, hx3⟩
    · rw [if_neg hc, n5_eq r1]
      obtain ⟨hd, tl, g1, g2, g3, g4, g5, g6⟩ := ih r ⟨fun x hx => h.1 x (List.mem_cons_of_mem _ hx), hp.2⟩
      refine ⟨cur, hd :: tl, by rw [g1], rfl, rfl, ⟨fun x hx => ?_, List.pairwise_cons.2 ⟨fun y hy => ?_, g4.2⟩⟩, fun y hy => ?_, fun t v => ?_⟩
      · rcases List.mem_cons.1 hx with rfl | hx
        · exact h.1 _ (by simp)
        · exact g4.1 x hx
      · rcases List.mem_cons.1 hy with rfl | hy
        · by_cases e : un cur = fr y
          · exact .inr ⟨e, fun e2 => hc ⟨by rw [e, g2], by rw [e2, g3]⟩⟩
          · exact .inl (by omega)
        · have := g5 y hy
          exact .inl (by omega)
      · rcases List.mem_cons.1 hy with rfl | hy
        · omega
        · have := g5 y hy
          omega
      · constructor
        · rintro ⟨x, hx, hx1⟩
          rcases List.mem_cons.1 hx with rfl | hx
          · exact ⟨x, by simp, hx1⟩
          · obtain ⟨y, hy, hy1⟩ := (g6 t v).1 ⟨x, hx, hx1⟩
            exact ⟨y, List.mem_cons_of_mem _ hy, hy1⟩
        · rintro ⟨x, hx, hx1⟩
          rcases List.mem_cons.1 hx with rfl | hx
          · exact ⟨x, by simp, hx1⟩
          · obtain ⟨y, hy, hy1⟩ := (g6 t v).2 ⟨x, hx, hx1⟩
            exact ⟨y, List.mem_cons_of_mem _ hy, hy1⟩
theorem jnL_is {i k : Int} {h : List (List Int)} (hh : HI i k h) : CAN i k (jnL h) ∧ ∀ t v, hasV (jnL h) t v ↔ hasV h t v := by
  cases h with
  | nil => exact ⟨⟨by simp [jnL], List.Pairwise.nil⟩, fun t v => Iff.rfl⟩
  | cons r rs =>
    have e : jnL (r :: rs) = jn2 r rs := by
      show jn2 (n5 r) rs = jn2 r rs
      rw [n5_eq (hh.1 r (by simp)).1]
    obtain ⟨hd, tl, g1, g2, g3, g4, g5, g6⟩ := jn2_is rs r hh
    rw [e, g1]
    exact ⟨g4, g6⟩

/-! ### covering -/
def pcs (a b : Int) (x : List Int) : List (List Int) := (if fr x < imin (un x) a then [[it x, va x, fr x, imin (un x) a, kn x]] else []) ++ (if imax (fr x) b < un x then [[it x, va x, imax (fr x) b, un x, kn x]] else [])
theorem pcs_len (a b : Int) (x : List Int) : (pcs a b x).length ≤ 2 := by
  unfold pcs; split <;> split <;> simp
theorem flat_len (a b : Int) : ∀ h : List (List Int), (h.flatMap (pcs a b)).length ≤ 2 * h.length
  | [] => by simp
  | x :: h => by
    have := flat_len a b h
    have := pcs_len a b x
    simp only [List.flatMap_cons, List.length_append, List.length_cons]
    omega
theorem flat_snoc (a b : Int) (l : List (List Int)) (x : List Int) : (l ++ [x]).flatMap (pcs a b) = l.flatMap (pcs a b) ++ pcs a b x := by
  simp [List.flatMap_append]
theorem cover_is (r0 r1 a b r4 : Int) (h : List (List Int)) (hl : h.length ≤ 10000000) (hn : ((h.flatMap (pcs a b) ++ [[r0, r1, a, b, r4]]).map fun r => r.getD 2 0).Nodup) :
    bitemp_cover_pre r0 r1 a b r4 h ∧ bitemp_cover_0 r0 r1 a b r4 h = sortRows 5 [2] (h.flatMap (pcs a b) ++ [[r0, r1, a, b, r4]]) := by
  have key := loop_for (step := bitemp_cover_l0_step r0 r1 a b r4 h) h.length (fun i xs => xs = [.i (i : Int), .r ((h.take i).flatMap (pcs a b))]) (fun res => res = (5, [.i (h.length : Int), .r (h.flatMap (pcs a b))]))
    (fun i xs hi e => by
      subst e
      refine .inl ⟨_, ?_, rfl⟩
      have hlen := flat_len a b (h.take i)
      rw [List.length_take] at hlen
      rw [take_succ' hi, flat_snoc]
      generalize (h.take i).flatMap (pcs a b) = out at hlen
      have e1 : bitemp_cover_s1 r0 r1 a b r4 h [U.i (i : Int), U.r out] = out ++ [[it (h.getD i []), va (h.getD i []), fr (h.getD i []), imin (un (h.getD i [])) a, kn (h.getD i [])]] := by
        unfold bitemp_cover_s1 bitemp_cover_s0
        simp only [gi_1, gi_z, gr_1, gr_z, Int.toNat_natCast]
      have e3 : bitemp_cover_s3 r0 r1 a b r4 h [U.i (i : Int), U.r out] = out ++ [[it (h.getD i []), va (h.getD i []), fr (h.getD i []), imin (un (h.getD i [])) a, kn (h.getD i [])]] ++ [[it (h.getD i []), va (h.getD i []), imax (fr (h.getD i [])) b, un (h.getD i []), kn (h.getD i [])]] := by
        unfold bitemp_cover_s3 bitemp_cover_s2
        rw [e1]
        simp only [gi_1, gi_z, gr_1, gr_z, Int.toNat_natCast]
      have e4 : bitemp_cover_s4 r0 r1 a b r4 h [U.i (i : Int), U.r out] = out ++ [[it (h.getD i []), va (h.getD i []), imax (fr (h.getD i [])) b, un (h.getD i []), kn (h.getD i [])]] := by
        unfold bitemp_cover_s4 bitemp_cover_s2
        simp only [gi_1, gi_z, gr_1, gr_z, Int.toNat_natCast]
      have hfit : ∀ (c : Nat) (x : List Int), c ≤ 40000000 → fitsA 40 (c + [x].length) := fun c x hc => by
        unfold fitsA maxLen; simp only [List.length_cons, List.length_nil]; omega
      unfold bitemp_cover_l0_step
      simp only [gi_1, gi_z, gr_1, gr_z, dlt hi, guardP_pos (inR_of hi), Int.toNat_natCast, wrap_succ (show i < 4611686018427387904 by omega), e1, e3, e4]
      unfold pcs
      by_cases c1 : fr (h.getD i []) < imin (un (h.getD i [])) a
      · rw [decide_eq_true c1, cond_true, guardP_pos (hfit _ _ (by omega)), if_pos c1]
        by_cases c2 : imax (fr (h.getD i [])) b < un (h.getD i [])
        · rw [decide_eq_true c2, cond_true, guardP_pos (hfit _ _ (by simp; omega)), if_pos c2, List.append_assoc]
        · rw [decide_eq_false c2, cond_false, if_neg c2, List.append_nil]
      · rw [decide_eq_false c1, cond_false, if_neg c1]
        by_cases c2 : imax (fr (h.getD i [])) b < un (h.getD i [])
        · rw [decide_eq_true c2, cond_true, guardP_pos (hfit _ _ (by omega)), if_pos c2, List.nil_append]
        · rw [decide_eq_false c2, cond_false, if_neg c2, List.append_nil, List.append_nil])
    (fun xs e => by
      subst e
      refine ⟨4, [.i (h.length : Int), .r (h.flatMap (pcs a b))], ?_, rfl⟩
      unfold bitemp_cover_l0_step
      simp only [gi_1, gi_z, gr_1, gr_z, dnlt, List.take_length])
    (xs := bitemp_cover_l0_init r0 r1 a b r4 h) rfl
  have e : bitemp_cover_l0 r0 r1 a b r4 h = (5, [.i (h.length : Int), .r (h.flatMap (pcs a b))]) := key.2
  unfold bitemp_cover_pre bitemp_cover_0
  rw [e]
  have eg : gr ((5, [U.i (h.length : Int), U.r (h.flatMap (pcs a b))]) : Nat × List U).2 1 = h.flatMap (pcs a b) := by simp only [gr_1, gr_z]
  rw [eg]
  have hlen := flat_len a b h
  refine ⟨⟨key.1, ?_, by simp, by simp only [List.length_append, List.length_cons, List.length_nil]; omega, hn⟩, rfl⟩
  unfold fitsA maxLen; simp only [List.length_cons, List.length_nil]; omega
def DJ (a b : List Int) : Prop := un a ≤ fr b ∨ un b ≤ fr a
theorem pcs_mem {i k a b : Int} {x y : List Int} (hx : HR i k x) (hy : y ∈ pcs a b x) : HR i k y ∧ va y = va x ∧ fr x ≤ fr y ∧ un y ≤ un x ∧ (un y ≤ a ∨ b ≤ fr y) := by
  obtain ⟨c1, c2, c3, c4, c5, c6, c7⟩ := hx
  unfold pcs at hy
  rw [imin_eq, imax_eq] at hy
  unfold TM at c5 c6
  rcases List.mem_append.1 hy with hy | hy
  · by_cases hc : fr x < (if un x ≤ a then un x else a)
    · rw [if_pos hc] at hy
      simp only [List.mem_singleton] at hy
      subst hy
      refine ⟨⟨rfl, c2, c3, c4, c5, ?_, hc⟩, rfl, Int.le_refl _, ?_, .inl ?_⟩
      · show TM (if un x ≤ a then un x else a)
        unfold TM
        by_cases h1 : un x ≤ a
        · rw [if_pos h1] at hc ⊢; omega
        · rw [if_neg h1] at hc ⊢; omega
      · show (if un x ≤ a then un x else a) ≤ un x
        split <;> omega
      · show (if un x ≤ a then un x else a) ≤ a
        split <;> omega
    · rw [if_neg hc] at hy; cases hy
  · by_cases hc : (if fr x ≤ b then b else fr x) < un x
    · rw [if_pos hc] at hy
      simp only [List.mem_singleton] at hy
      subst hy
      refine ⟨⟨rfl, c2, c3, c4, ?_, c6, hc⟩, rfl, ?_, Int.le_refl _, .inr ?_⟩
      · show TM (if fr x ≤ b then b else fr x)
        unfold TM
        by_cases h1 : fr x ≤ b
        · rw [if_pos h1] at hc ⊢; omega
        · rw [if_neg h1] at hc ⊢; omega
      · show fr x ≤ (if fr x ≤ b then b else fr x)
        split <;> omega
      · show b ≤ (if fr x ≤ b then b else fr x)
        split <;> omega
    · rw [if_neg hc] at hy; cases hy
theorem pcs_has {a b t : Int} {x : List Int} (h1 : fr x ≤ t) (h2 : t < un x) (h3 : t < a ∨ b ≤ t) : ∃ y ∈ pcs a b x, fr y ≤ t ∧ t < un y ∧ va y = va x := by
  unfold pcs
  rw [imin_eq, imax_eq]
  rcases h3 with h3 | h3
  · have hc : fr x < (if un x ≤ a then un x else a) := by split <;> omega
    refine ⟨[it x, va x, fr x, (if un x ≤ a then un x else a), kn x], List.mem_append.2 (.inl (by rw [if_pos hc]; simp)), h1, ?_, rfl⟩
    show t < (if un x ≤ a then un x else a)
    split <;> omega
  · have hc : (if fr x ≤ b then b else fr x) < un x := by split <;> omega
    refine ⟨[it x, va x, (if fr x ≤ b then b else fr x), un x, kn x], List.mem_append.2 (.inr (by rw [if_pos hc]; simp)), ?_, h2, rfl⟩
    show (if fr x ≤ b then b else fr x) ≤ t
    split <;> omega
theorem DJ.symm {a b : List Int} (h : DJ a b) : DJ b a := h.elim .inr .inl
theorem flat_dj {i k a b : Int} {h : List (List Int)} (hab : a < b) (hh : HI i k h) (r0 r1 r4 : Int) : (h.flatMap (pcs a b) ++ [[r0, r1, a, b, r4]]).Pairwise DJ := by
  refine List.pairwise_append.2 ⟨List.pairwise_flatMap.2 ⟨fun x hx => ?_, ?_⟩, List.pairwise_singleton _ _, fun y hy z hz => ?_⟩
  · unfold pcs
    rw [imin_eq, imax_eq]
    refine List.pairwise_append.2 ⟨?_, ?_, fun y hy z hz => .inl ?_⟩
    · by_cases hc : fr x < (if un x ≤ a then un x else a)
      · rw [if_pos hc]; simp
      · rw [if_neg hc]; simp
    · by_cases hc : (if fr x ≤ b then b else fr x) < un x
      · rw [if_pos hc]; simp
      · rw [if_neg hc]; simp
    · by_cases hc : fr x < (if un x ≤ a then un x else a)
      · rw [if_pos hc] at hy
        by_cases hc2 : (if fr x ≤ b then b else fr x) < un x
        · rw [if_pos hc2] at hz
          simp only [List.mem_singleton] at hy hz
          subst hy; subst hz
          show (if un x ≤ a then un x else a) ≤ (if fr x ≤ b then b else fr x)
          split <;> split <;> omega
        · rw [if_neg hc2] at hz; cases hz
      · rw [if_neg hc] at hy; cases hy
  · refine hh.2.imp_of_mem fun {x y} hx hy hxy => ?_
    intro u hu w hw
    have h1 := pcs_mem (hh.1 x hx) hu
    have h2 := pcs_mem (hh.1 y hy) hw
    exact .inl (by omega)
  · simp only [List.mem_singleton] at hz
    subst hz
    obtain ⟨x, hx, hy⟩ := List.mem_flatMap.1 hy
    have h1 := pcs_mem (hh.1 x hx) hy
    show un y ≤ a ∨ b ≤ fr y
    exact h1.2.2.2.2
theorem leL_fr {a b : List Int} (h : leL [2] a b = true) : fr a ≤ fr b := by
  unfold leL at h
  show a.getD 2 0 ≤ b.getD 2 0
  split at h
  · omega
  · have := of_decide_eq_true h; omega
theorem cover_hi {i k : Int} {h : List (List Int)} {r : List Int} (hh : HI i k h) (hr : HR i k r) : bitemp_cover_pre (it r) (va r) (fr r) (un r) k h ∧ HI i k (bitemp_cover_0 (it r) (va r) (fr r) (un r) k h) ∧
    ∀ t v, hasV (bitemp_cover_0 (it r) (va r) (fr r) (un r) k h) t v ↔ if fr r ≤ t ∧ t < un r then v = va r else hasV h t v := by
  obtain ⟨c1, c2, c3, c4, c5, c6, c7⟩ := id hr
  have hdj := flat_dj c7 hh (it r) (va r) k
  have hm : ∀ y ∈ h.flatMap (pcs (fr r) (un r)) ++ [[it r, va r, fr r, un r, k]], HR i k y := by
    intro y hy
    rcases List.mem_append.1 hy with hy | hy
    · obtain ⟨x, hx, hy⟩ := List.mem_flatMap.1 hy
      exact (pcs_mem (hh.1 x hx) hy).1
    · simp only [List.mem_singleton] at hy
      subst hy
      exact ⟨rfl, c2, rfl, c4, c5, c6, c7⟩
  have hn : ((h.flatMap (pcs (fr r) (un r)) ++ [[it r, va r, fr r, un r, k]]).map fun r => r.getD 2 0).Nodup := by
    rw [List.nodup_iff_pairwise_ne, List.pairwise_map]
    refine hdj.imp_of_mem fun {x y} hx hy hxy => ?_
    have h1 := (hm x hx).2.2.2.2.2.2
    have h2 := (hm y hy).2.2.2.2.2.2
    show fr x ≠ fr y
    rcases hxy with h | h <;> omega
  obtain ⟨hp, he⟩ := cover_is (it r) (va r) (fr r) (un r) k h hh.len hn
  have hnorm : (h.flatMap (pcs (fr r) (un r)) ++ [[it r, va r, fr r, un r, k]]).map (norm 5) = h.flatMap (pcs (fr r) (un r)) ++ [[it r, va r, fr r, un r, k]] := map_norm fun y hy => (hm y hy).1
  rw [he]
  unfold sortRows
  rw [hnorm]
  have hmem : ∀ y, y ∈ isort (leL [2]) (h.flatMap (pcs (fr r) (un r)) ++ [[it r, va r, fr r, un r, k]]) ↔ y ∈ h.flatMap (pcs (fr r) (un r)) ++ [[it r, va r, fr r, un r, k]] := fun y => isort_mem
  refine ⟨hp, ⟨fun y hy => hm y ((hmem y).1 hy), ?_⟩, fun t v => ?_⟩
  · have h1 := isort_sorted (le := leL [2]) (leL_total _) (leL_trans _) (h.flatMap (pcs (fr r) (un r)) ++ [[it r, va r, fr r, un r, k]])
    have h2 := ((isort_perm (le := leL [2]) (h.flatMap (pcs (fr r) (un r)) ++ [[it r, va r, fr r, un r, k]])).pairwise_iff (R := DJ) (fun {a b} h => h.symm)).2 hdj
    refine (h1.and h2).imp_of_mem fun {x y} hx hy hxy => ?_
    have g1 := leL_fr hxy.1
    have g2 := (hm x ((hmem x).1 hx)).2.2.2.2.2.2
    have g3 := (hm y ((hmem y).1 hy)).2.2.2.2.2.2
    rcases hxy.2 with h | h
    · exact h
    · omega
  · constructor
    · rintro ⟨y, hy, hy1, hy2, hy3⟩
      rcases List.mem_append.1 ((hmem y).1 hy) with hy | hy
      · obtain ⟨x, hx, hy⟩ := List.mem_flatMap.1 hy
        obtain ⟨_, g2, g3, g4, g5⟩ := pcs_mem (hh.1 x hx) hy
        rw [if_neg (by omega)]
        exact ⟨x, hx, by omega, by omega, by rw [← g2]; exact hy3⟩
      · simp only [List.mem_singleton] at hy
        subst hy
        rw [if_pos ⟨hy1, hy2⟩]
        exact hy3.symm
    · intro h0
      split at h0
      · rename_i hc
        subst h0
        exact ⟨[it r, va r, fr r, un r, k], (hmem _).2 (by simp), hc.1, hc.2, rfl⟩
      · rename_i hc
        obtain ⟨x, hx, g1, g2, g3⟩ := h0
        obtain ⟨y, hy, hy1, hy2, hy3⟩ := pcs_has (a := fr r) (b := un r) g1 g2 (by omega)
        exact ⟨y, (hmem y).2 (List.mem_append.2 (.inl (List.mem_flatMap.2 ⟨x, hx, hy⟩))), hy1, hy2, by rw [hy3, g3]⟩

/-! ### the history of an item -/
/-- What holds at a time, as it was known at a time. -/
def HV (l : List (List Int)) (i t k v : Int) : Prop := ∃ r, HO l i t k = some r ∧ va r = v
theorem history_is (i k : Int) (l : List (List Int)) (hl : VR l) : bitemp_history_pre i k l ∧ CAN i k (bitemp_history_0 i k l) ∧ ∀ t v, hasV (bitemp_history_0 i k l) t v ↔ HV l i t k v := by
  have hlen : l.length ≤ 200 := hl.1
  have key := loop_for (step := bitemp_history_l0_step i k l) l.length (fun j xs => ∃ h, xs = [.i (j : Int), .r h] ∧ HI i k h ∧ ∀ t v, hasV h t v ↔ HV (l.take j) i t k v)
    (fun res => ∃ h, res = (3, [.i (l.length : Int), .r h]) ∧ HI i k h ∧ ∀ t v, hasV h t v ↔ HV l i t k v)
    (fun j xs hj ⟨h, e, hh, hv⟩ => by
      subst e
      refine .inl ?_
      have hro := hl.2.1 _ (getD_mem hj)
      unfold bitemp_history_l0_step bitemp_history_s0
      simp only [gi_1, gi_z, gr_1, gr_z, dlt hj, guardP_pos (inR_of hj), Int.toNat_natCast, wrap_succ (show j < 4611686018427387904 by omega)]
      by_cases hc : it (l.getD j []) = i ∧ kn (l.getD j []) ≤ k
      · have hb : (((l.getD j []).getD 0 0 == i && decide ((l.getD j []).getD 4 0 ≤ k)) == true) = true := by simp; exact hc
        have hr : HR i k [it (l.getD j []), va (l.getD j []), fr (l.getD j []), un (l.getD j []), k] := ⟨rfl, hc.1, rfl, hro.2.1, hro.2.2.1, hro.2.2.2.1, hro.2.2.2.2.1⟩
        obtain ⟨g1, g2, g3⟩ := cover_hi hh hr
        have g1' : bitemp_cover_pre ((l.getD j []).getD 0 0) ((l.getD j []).getD 1 0) ((l.getD j []).getD 2 0) ((l.getD j []).getD 3 0) k h := g1
        rw [hb, cond_true, guardP_pos g1']
        refine ⟨_, rfl, _, rfl, g2, fun t v => ?_⟩
        refine (g3 t v).trans ?_
        rw [take_succ' hj]
        unfold HV
        rw [HO_snoc]
        show (if fr (l.getD j []) ≤ t ∧ t < un (l.getD j []) then v = va (l.getD j []) else hasV h t v) ↔ _
        by_cases ht : fr (l.getD j []) ≤ t ∧ t < un (l.getD j [])
        · have hs : says i t k (l.getD j []) = true := by unfold says; simp; exact ⟨⟨hc, ht.1⟩, ht.2⟩
          rw [if_pos ht, if_pos hs]
          constructor
          · rintro rfl; exact ⟨_, rfl, rfl⟩
          · rintro ⟨r, hr, rfl⟩; cases hr; rfl
        · have hs : ¬ says i t k (l.getD j []) = true := fun h => by
            unfold says at h
            simp only [Bool.and_eq_true, decide_eq_true_eq, beq_iff_eq] at h
            exact ht ⟨h.1.2, h.2⟩
          rw [if_neg ht, if_neg hs]
          exact hv t v
      · have hb : (((l.getD j []).getD 0 0 == i && decide ((l.getD j []).getD 4 0 ≤ k)) == true) = false := by
          rw [Bool.eq_false_iff]; intro h; simp at h; exact hc h
        rw [hb, cond_false]
        refine ⟨_, rfl, _, rfl, hh, fun t v => (hv t v).trans ?_⟩
        rw [take_succ' hj]
        unfold HV
        rw [HO_snoc, if_neg]
        unfold says
        intro h
        simp at h
        exact hc ⟨h.1.1.1, h.1.1.2⟩)
    (fun xs ⟨h, e, hh, hv⟩ => by
      subst e
      refine ⟨2, [.i (l.length : Int), .r h], ?_, h, rfl, hh, fun t v => by rw [hv t v, List.take_length]⟩
      unfold bitemp_history_l0_step
      simp only [gi_1, gi_z, gr_1, gr_z, dnlt])
    (xs := bitemp_history_l0_init i k l) ⟨[], rfl, ⟨by simp, List.Pairwise.nil⟩, fun t v => ⟨fun ⟨x, hx, _⟩ => (by cases hx), fun ⟨r, hr, _⟩ => (by cases hr)⟩⟩
  obtain ⟨hok, h, he, hh, hv⟩ := key
  have e : bitemp_history_l0 i k l = (3, [.i (l.length : Int), .r h]) := he
  unfold bitemp_history_pre bitemp_history_0
  rw [e]
  have eg : gr ((3, [U.i (l.length : Int), U.r h]) : Nat × List U).2 1 = h := by simp only [gr_1, gr_z]
  rw [eg]
  have hj := join_is h (by have := hh.len; omega)
  have hc := jnL_is hh
  rw [hj.2]
  exact ⟨⟨hok, hj.1⟩, hc.1, fun t v => (hc.2 t v).trans (hv t v)⟩
/-- The arguments of History are valid. -/
def IOK (l : List (List Int)) (i k : Int) : Prop := VR l ∧ IT i ∧ TM k
instance (l : List (List Int)) (i k : Int) : Decidable (IOK l i k) := by unfold IOK; infer_instance
theorem iok_b (l : List (List Int)) (i k : Int) : (!bitemp_Valid_0 l || !bitemp_isItem_0 i || !bitemp_isTime_0 k) = !decide (IOK l i k) := by
  rw [(valid_is l).2, isItem_eq, isTime_eq, Bool.eq_iff_iff]
  unfold IOK
  simp
  by_cases h : VR l <;> by_cases h2 : IT i <;> simp [h, h2]
theorem History_is (i k : Int) (l : List (List Int)) : bitemp_History_pre i k l ∧ bitemp_History_0 i k l = (if IOK l i k then bitemp_history_0 i k l else []) ∧ bitemp_History_1 i k l = if IOK l i k then 0 else 1 := by
  unfold bitemp_History_pre bitemp_History_0 bitemp_History_1
  rw [iok_b]
  by_cases h : IOK l i k
  · rw [decide_eq_true h, if_pos h, if_pos h]
    exact ⟨⟨(valid_is l).1, fun _ => (history_is i k l h.1).1⟩, rfl, rfl⟩
  · rw [decide_eq_false h, if_neg h, if_neg h]
    exact ⟨⟨(valid_is l).1, fun h => (by cases h)⟩, rfl, rfl⟩

/-! ### a history is determined by what holds -/
theorem hasV_one {i k : Int} {h : List (List Int)} (hc : CAN i k h) {t v v' : Int} (h1 : hasV h t v) (h2 : hasV h t v') : v = v' := by
  obtain ⟨x, hx, x1, x2, rfl⟩ := h1
  obtain ⟨y, hy, y1, y2, rfl⟩ := h2
  obtain ⟨a, ha, rfl⟩ := getD_of_mem hx
  obtain ⟨b, hb, rfl⟩ := getD_of_mem hy
  rcases Nat.lt_trichotomy a b with h | h | h
  · have := pairwise_getD hc.hi.2 h hb; omega
  · rw [h]
  · have := pairwise_getD hc.hi.2 h ha; omega
theorem can_eq {i k : Int} : ∀ {a b : List (List Int)}, CAN i k a → CAN i k b → (∀ t v, hasV a t v ↔ hasV b t v) → a = b := by
  intro a
  induction a with
  | nil =>
    intro b _ hb h
    cases b with
    | nil => rfl
    | cons y s =>
      obtain ⟨x, hx, _⟩ := (h (fr y) (va y)).2 ⟨y, by simp, Int.le_refl _, (hb.1 y (by simp)).2.2.2.2.2.2, rfl⟩
      cases hx
  | cons x r ih =>
    intro b ha hb h
    cases b with
    | nil =>
      obtain ⟨y, hy, _⟩ := (h (fr x) (va x)).1 ⟨x, by simp, Int.le_refl _, (ha.1 x (by simp)).2.2.2.2.2.2, rfl⟩
      cases hy
    | cons y s =>
      have hx := ha.1 x (by simp)
      have hy := hb.1 y (by simp)
      have hx7 := hx.2.2.2.2.2.2
      have hy7 := hy.2.2.2.2.2.2
      have pa := List.pairwise_cons.1 ha.hi.2
      have pb := List.pairwise_cons.1 hb.hi.2
      have ca := List.pairwise_cons.1 ha.2
      have cb := List.pairwise_cons.1 hb.2
      have vx : hasV (x :: r) (fr x) (va x) := ⟨x, by simp, Int.le_refl _, hx7, rfl⟩
      have vy : hasV (y :: s) (fr y) (va y) := ⟨y, by simp, Int.le_refl _, hy7, rfl⟩
      have e1 : fr y ≤ fr x := by
        obtain ⟨z, hz, z1, z2, _⟩ := (h _ _).1 vx
        rcases List.mem_cons.1 hz with rfl | hz
        · exact z1
        · have := pb.1 z hz; omega
      have e2 : fr x ≤ fr y := by
        obtain ⟨z, hz, z1, z2, _⟩ := (h _ _).2 vy
        rcases List.mem_cons.1 hz with rfl | hz
        · exact z1
        · have := pa.1 z hz; omega
      have e3 : fr x = fr y := by omega
      have e4 : va x = va y := hasV_one hb ((h _ _).1 vx) (by rw [e3]; exact vy)
      have e5 : ¬ un x < un y := by
        intro hlt
        obtain ⟨z, hz, z1, z2, z3⟩ := (h (un x) (va y)).2 ⟨y, by simp, by omega, hlt, rfl⟩
        rcases List.mem_cons.1 hz with rfl | hz
        · omega
        · rcases ca.1 z hz with h1 | ⟨h1, h2⟩
          · omega
          · exact h2 (by rw [e4, z3])
      have e6 : ¬ un y < un x := by
        intro hlt
        obtain ⟨z, hz, z1, z2, z3⟩ := (h (un y) (va x)).1 ⟨x, by simp, by omega, hlt, rfl⟩
        rcases List.mem_cons.1 hz with rfl | hz
        · omega
        · rcases cb.1 z hz with h1 | ⟨h1, h2⟩
          · omega
          · exact h2 (by rw [← e4, z3])
      have e7 : un x = un y := by omega
      have exy : x = y := by
        rw [← n5_eq hx.1, ← n5_eq hy.1]
        unfold n5
        rw [e3, e4, e7, hx.2.1, hy.2.1, hx.2.2.1, hy.2.2.1]
      subst exy
      congr 1
      refine ih ⟨fun z hz => ha.1 z (by simp [hz]), ca.2⟩ ⟨fun z hz => hb.1 z (by simp [hz]), cb.2⟩ fun t v => ⟨?_, ?_⟩
      · rintro ⟨z, hz, z1, z2, z3⟩
        have := pa.1 z hz
        obtain ⟨w, hw, w1, w2, w3⟩ := (h t v).1 ⟨z, by simp [hz], z1, z2, z3⟩
        rcases List.mem_cons.1 hw with rfl | hw
        · omega
        · exact ⟨w, hw, w1, w2, w3⟩
      · rintro ⟨z, hz, z1, z2, z3⟩
        have := pb.1 z hz
        obtain ⟨w, hw, w1, w2, w3⟩ := (h t v).2 ⟨z, by simp [hz], z1, z2, z3⟩
        rcases List.mem_cons.1 hw with rfl | hw
        · omega
        · exact ⟨w, hw, w1, w2, w3⟩
end Go.Proofs.Ytcbgjecpnhjlpaa

/-!
  Say, Changed, Knew, Merge of package bitemp.
-/
set_option linter.unusedVariables false
namespace Go.Proofs.Ytcbgjecpnhjlpaa
open Go Go.Sy

/-! ### Say -/
theorem vr_snoc {l : List (List Int)} {r : List Int} (h : VR l) (hr : RO r) (hl : l.length < 200) (hk : 0 < l.length → kn (l.getD (l.length - 1) []) ≤ kn r) : VR (l ++ [r]) := by
  refine ⟨by simp; omega, fun x hx => ?_, List.pairwise_append.2 ⟨h.2.2, List.pairwise_singleton _ _, fun x hx y hy => ?_⟩⟩
  · rcases List.mem_append.1 hx with hx | hx
    · exact h.2.1 x hx
    · simp only [List.mem_singleton] at hx; rw [hx]; exact hr
  · simp only [List.mem_singleton] at hy
    subst hy
    obtain ⟨i, hi, rfl⟩ := getD_of_mem hx
    have h1 := hk (by omega)
    by_cases e : i = l.length - 1
    · rw [e]; exact h1
    · have := pairwise_getD h.2.2 (show i < l.length - 1 by omega) (by omega)
      exact Int.le_trans this h1
theorem say_is (a b c d e : Int) (l : List (List Int)) : bitemp_Say_pre a b c d e l ∧ (bitemp_Say_1 a b c d e l = 0 → VR l ∧ RO5 a b c d e ∧ bitemp_Say_0 a b c d e l = l ++ [[a, b, c, d, e]] ∧ VR (l ++ [[a, b, c, d, e]])) := by
  unfold bitemp_Say_pre bitemp_Say_1 bitemp_Say_0 bitemp_Say_s0 bitemp_Say_s1
  rw [(valid_is l).2, isRow_eq]
  by_cases h : VR l ∧ RO5 a b c d e
  · rw [decide_eq_true h.1, decide_eq_true h.2]
    have hlen := h.1.1
    have e0 : (!true || !true) = false := rfl
    simp only [e0, cond_false]
    by_cases h2 : l.length = 200
    · have e1 : ((l.length : Int) == 200) = true := by simp; omega
      rw [e1]
      exact ⟨⟨(valid_is l).1, fun _ h => (by cases h)⟩, fun h => (by cases h)⟩
    · have e1 : ((l.length : Int) == 200) = false := by simp; omega
      rw [e1, cond_false, cond_false]
      have hw : decide ((l.length : Int) > 0) = true → IntKind.i64.wrap ((l.length : Int) - 1) = ((l.length - 1 : Nat) : Int) := fun h => by
        have := of_decide_eq_true h
        rw [i64_wrap (by omega)]; omega
      have hin : decide ((l.length : Int) > 0) = true → inR (IntKind.i64.wrap ((l.length : Int) - 1)) l := fun h => by
        rw [hw h]
        have := of_decide_eq_true h
        exact inR_of (by omega)
      have hf : ∀ n : Nat, n ≤ 1000 → fitsA 40 n := fun n hn => by unfold fitsA maxLen; omega
      refine ⟨⟨(valid_is l).1, fun _ _ => ⟨hin, hin, hin, fun _ => ⟨⟨fun h => ⟨trivial, by rw [h]; rfl, trivial⟩, hf _ (by omega)⟩, hf _ (by simp; omega)⟩⟩⟩, ?_⟩
      by_cases h3 : 0 < l.length ∧ kn (l.getD (l.length - 1) []) > e
      · have e3 : decide ((l.length : Int) > 0) = true := by simp; omega
        have e4 : (decide ((l.length : Int) > 0) && decide ((l.getD (IntKind.i64.wrap ((l.length : Int) - 1)).toNat []).getD 4 0 > e)) = true := by
          rw [hw e3, Int.toNat_natCast, e3, Bool.true_and, decide_eq_true_eq]; exact h3.2
        rw [e4]
        intro h; cases h
      · have e4 : (decide ((l.length : Int) > 0) && decide ((l.getD (IntKind.i64.wrap ((l.length : Int) - 1)).toNat []).getD 4 0 > e)) = false := by
          by_cases h4 : 0 < l.length
          · have e3 : decide ((l.length : Int) > 0) = true := by simp; omega
            rw [hw e3, Int.toNat_natCast, e3, Bool.true_and, decide_eq_false_iff_not]
            exact fun h5 => h3 ⟨h4, h5⟩
          · rw [decide_eq_false (by omega)]; rfl
        rw [e4]
        refine fun _ => ⟨h.1, h.2, rfl, vr_snoc h.1 h.2 (by omega) fun h0 => ?_⟩
        show _ ≤ e
        have : ¬ kn (l.getD (l.length - 1) []) > e := fun h5 => h3 ⟨h0, h5⟩
        omega
  · have e0 : (!decide (VR l) || !decide (RO5 a b c d e)) = true := by
      cases hb : (!decide (VR l) || !decide (RO5 a b c d e)) with
      | true => rfl
      | false => simp at hb; exact absurd hb h
    rw [e0]
    exact ⟨⟨(valid_is l).1, fun h => (by cases h)⟩, fun h => (by cases h)⟩

/-! ### Changed -/
/-- The value that holds, if any. -/
def SV (l : List (List Int)) (i t k : Int) : Option Int := (HO l i t k).map va
theorem SV_congr {l : List (List Int)} {i t k k' : Int} (h : ∀ r ∈ l, it r = i → (kn r ≤ k ↔ kn r ≤ k')) : SV l i t k = SV l i t k' := by
  unfold SV
  rw [HO_congr fun r hr => ?_]
  unfold says
  by_cases e : it r = i
  · have := h r hr e
    by_cases h2 : kn r ≤ k
    · rw [decide_eq_true h2, decide_eq_true (this.1 h2)]
    · rw [decide_eq_false h2, decide_eq_false (fun h3 => h2 (this.2 h3))]
  · have : (it r == i) = false := by simp; exact e
    rw [this]; rfl
theorem HV_iff {l : List (List Int)} {i t k v : Int} : HV l i t k v ↔ SV l i t k = some v := by
  unfold HV SV
  cases HO l i t k with
  | none => simp
  | some r => simp
def ob (o : Option Int) : Bool := o.isSome
def ov (o : Option Int) : Int := o.getD 0
theorem ob_ov {o o' : Option Int} : (!(ob o == ob o') || ov o != ov o') = decide (o ≠ o') := by
  rw [Bool.eq_iff_iff, decide_eq_true_eq]
  cases o <;> cases o' <;> simp [ob, ov]
theorem gb_7 (a b c d e f g : U) (n : List (List Int)) (r : List U) : gr (a :: b :: c :: d :: e :: f :: g :: .r n :: r) 7 = n := by cases r <;> rfl
theorem gi_i1 (a : U) (n : Int) (r : List U) : gi (a :: .i n :: r) 1 = n := by cases r <;> rfl
theorem gi_i3 (a b c : U) (n : Int) (r : List U) : gi (a :: b :: c :: .i n :: r) 3 = n := by cases r <;> rfl
/-- i is the last row of its time. -/
def dn (l : List (List Int)) (j : Nat) : Prop := j + 1 = l.length ∨ kn (l.getD (j + 1) []) ≠ kn (l.getD j [])
theorem dn_exists {l : List (List Int)} (hs : l.Pairwise (fun a b => kn a ≤ kn b)) : ∀ (d j : Nat), j + d + 1 = l.length → ∃ j', j ≤ j' ∧ j' < l.length ∧ dn l j' ∧ kn (l.getD j' []) = kn (l.getD j []) := by
  intro d
  induction d with
  | zero => intro j hj; exact ⟨j, Nat.le_refl _, by omega, .inl (by omega), rfl⟩
  | succ d ih =>
    intro j hj
    by_cases h : kn (l.getD (j + 1) []) = kn (l.getD j [])
    · obtain ⟨j', h1, h2, h3, h4⟩ := ih (j + 1) (by omega)
      exact ⟨j', by omega, h2, h3, h4.trans h⟩
    · exact ⟨j, Nat.le_refl _, by omega, .inr h, rfl⟩
theorem changed_is (i t : Int) (l : List (List Int)) (hl : VR l) : (loopOk (bitemp_Changed_l0_step i t l) (bitemp_Changed_l0_init i t l)) ∧ ∃ c : List Int, gr (bitemp_Changed_l0 i t l).2 7 = ofNums c ∧ c.Pairwise (· < ·) ∧ c.length ≤ 200 ∧
    ∀ k, k ∈ c ↔ (∃ r ∈ l, kn r = k) ∧ SV l i t k ≠ SV l i t (k - 1) := by
  have hlen : l.length ≤ 200 := hl.1
  have hmono : ∀ {a b : Nat}, a ≤ b → b < l.length → kn (l.getD a []) ≤ kn (l.getD b []) := fun {a b} h hb => by
    rcases Nat.lt_or_ge a b with h2 | h2
    · exact pairwise_getD hl.2.2 h2 hb
    · rw [show a = b by omega]; exact Int.le_refl _
  have key := loop_for (step := bitemp_Changed_l0_step i t l) l.length
    (fun j xs => ∃ (b : Bool) (w0 w1 w2 w3 w4 : Int) (c : List Int), xs = [.b b, .i (j : Int), .i w0, .i w1, .i w2, .i w3, .i w4, .r (ofNums c)] ∧
      (j < l.length → b = ob (SV l i t (kn (l.getD j []) - 1)) ∧ w1 = ov (SV l i t (kn (l.getD j []) - 1))) ∧ c.Pairwise (· < ·) ∧ c.length ≤ j ∧
      ∀ k, k ∈ c ↔ (∃ j', j' < j ∧ dn l j' ∧ kn (l.getD j' []) = k) ∧ SV l i t k ≠ SV l i t (k - 1))
    (fun res => ∃ c : List Int, gr res.2 7 = ofNums c ∧ c.Pairwise (· < ·) ∧ c.length ≤ 200 ∧ ∀ k, k ∈ c ↔ (∃ r ∈ l, kn r = k) ∧ SV l i t k ≠ SV l i t (k - 1))
    (fun j xs hj ⟨b, w0, w1, w2, w3, w4, c, e, hst, hc, hcl, hm⟩ => by
      subst e
      refine .inl ?_
      obtain ⟨hb, hw1⟩ := hst hj
      have hin : decide (IntKind.i64.wrap ((j : Int) + 1) < (l.length : Int)) = true → inR (IntKind.i64.wrap ((j : Int) + 1)) l := fun h => by
        have := of_decide_eq_true h
        rw [wrap_succ (by omega)] at this ⊢
        exact inR_of (by omega)
      unfold bitemp_Changed_l0_step
      simp only [gi_i1, gi_i3, gb_z, gb_7, dlt hj, guardP_pos (inR_of hj), Int.toNat_natCast]
      rw [guardP_pos hin, guardP_pos hin, guardP_pos hin]
      simp only [wrap_succ (show j < 4611686018427387904 by omega), Int.toNat_natCast]
      by_cases hsk : j + 1 < l.length ∧ kn (l.getD (j + 1) []) = kn (l.getD j [])
      · have e1 : (decide (((j + 1 : Nat) : Int) < (l.length : Int)) && ((l.getD (j + 1) []).getD 4 0 == (l.getD j []).getD 4 0)) = true := by
          rw [decide_eq_true (by omega), Bool.true_and, beq_iff_eq]; exact hsk.2
        rw [e1, cond_true]
        refine ⟨_, rfl, b, w0, w1, w2, w3, w4, c, rfl, fun h => by rw [hsk.2]; exact ⟨hb, hw1⟩, hc, by omega, fun k => (hm k).trans ?_⟩
        constructor
        · rintro ⟨⟨j', h1, h2, h3⟩, h4⟩
          exact ⟨⟨j', by omega, h2, h3⟩, h4⟩
        · rintro ⟨⟨j', h1, h2, h3⟩, h4⟩
          refine ⟨⟨j', ?_, h2, h3⟩, h4⟩
          by_cases e : j' = j
          · subst e
            rcases h2 with h2 | h2
            · omega
            · exact absurd hsk.2 h2
          · omega
      · have hd : dn l j := by
          unfold dn
          by_cases h : j + 1 = l.length
          · exact .inl h
          · exact .inr fun h2 => hsk ⟨by omega, h2⟩
        have e1 : (decide (((j + 1 : Nat) : Int) < (l.length : Int)) && ((l.getD (j + 1) []).getD 4 0 == (l.getD j []).getD 4 0)) = false := by
          by_cases h : j + 1 < l.length
          · rw [decide_eq_true (by omega), Bool.true_and, beq_eq_false_iff_ne]
            exact fun h2 => hsk ⟨h, h2⟩
          · rw [decide_eq_false (by omega)]; rfl
        obtain ⟨g1, g2, g3⟩ := holds_is i t (kn (l.getD j [])) l (by omega)
        have g2' : bitemp_holds_5 i t ((l.getD j []).getD 4 0) l = ob (SV l i t (kn (l.getD j []))) := by
          rw [g2]; unfold SV ob; cases HO l i t (kn (l.getD j [])) <;> rfl
        have g3' : bitemp_holds_1 i t ((l.getD j []).getD 4 0) l = ov (SV l i t (kn (l.getD j []))) := by
          rw [g3]; unfold SV ov; cases HO l i t (kn (l.getD j [])) <;> rfl
        rw [e1, cond_false, guardP_pos g1]
        rw [g2', g3', hb, hw1, ob_ov]
        have hnext : j + 1 < l.length → SV l i t (kn (l.getD j [])) = SV l i t (kn (l.getD (j + 1) []) - 1) := fun h => SV_congr fun r hr _ => by
          obtain ⟨a, ha, rfl⟩ := getD_of_mem hr
          have h1 : kn (l.getD (j + 1) []) ≠ kn (l.getD j []) := fun h2 => hsk ⟨h, h2⟩
          have h2 := hmono (show j ≤ j + 1 by omega) h
          rcases Nat.lt_or_ge j a with h3 | h3
          · have := hmono (show j + 1 ≤ a by omega) ha
            omega
          · have := hmono h3 hj
            omega
        have hfit : fitsA 8 ((ofNums c).length + [[(l.getD j []).getD 4 0]].length) := by
          unfold fitsA maxLen; simp [ofNums]; omega
        by_cases hch : SV l i t (kn (l.getD j [])) ≠ SV l i t (kn (l.getD j []) - 1)
        · rw [decide_eq_true hch, cond_true, guardP_pos hfit]
          have e : ofNums c ++ [[(l.getD j []).getD 4 0]] = ofNums (c ++ [kn (l.getD j [])]) := by simp [ofNums]
          rw [e]
          refine ⟨_, rfl, _, _, _, _, _, _, c ++ [kn (l.getD j [])], rfl, fun h => by rw [← hnext h]; exact ⟨rfl, rfl⟩, ?_, by simp; omega, fun k => ?_⟩
          · refine List.pairwise_append.2 ⟨hc, List.pairwise_singleton _ _, fun x hx y hy => ?_⟩
            simp only [List.mem_singleton] at hy
            subst hy
            obtain ⟨⟨j', h1, h2, h3⟩, _⟩ := (hm x).1 hx
            rw [← h3]
            rcases h2 with h2 | h2
            · omega
            · have h4 := hmono (show j' + 1 ≤ j by omega) hj
              have h5 := hmono (show j' ≤ j' + 1 by omega) (by omega)
              omega
          · rw [List.mem_append, List.mem_singleton]
            constructor
            · rintro (h | rfl)
              · obtain ⟨⟨j', h1, h2, h3⟩, h4⟩ := (hm k).1 h
                exact ⟨⟨j', by omega, h2, h3⟩, h4⟩
              · exact ⟨⟨j, by omega, hd, rfl⟩, hch⟩
            · rintro ⟨⟨j', h1, h2, h3⟩, h4⟩
              by_cases e : j' = j
              · exact .inr (by rw [← h3, e])
              · exact .inl ((hm k).2 ⟨⟨j', by omega, h2, h3⟩, h4⟩)
        · rw [decide_eq_false hch, cond_false]
          refine ⟨_, rfl, _, _, _, _, _, _, c, rfl, fun h => by rw [← hnext h]; exact ⟨rfl, rfl⟩, hc, by omega, fun k => (hm k).trans ?_⟩
          constructor
          · rintro ⟨⟨j', h1, h2, h3⟩, h4⟩
            exact ⟨⟨j', by omega, h2, h3⟩, h4⟩
          · rintro ⟨⟨j', h1, h2, h3⟩, h4⟩
            refine ⟨⟨j', ?_, h2, h3⟩, h4⟩
            by_cases e : j' = j
            · subst e
              exact absurd (by rw [h3]; exact h4) hch
            · omega)
    (fun xs ⟨b, w0, w1, w2, w3, w4, c, e, hst, hc, hcl, hm⟩ => by
      subst e
      refine ⟨3, [.b b, .i (l.length : Int), .i w0, .i w1, .i w2, .i w3, .i w4, .r (ofNums c)], ?_, c, ?_, hc, by omega, fun k => (hm k).trans ?_⟩
      · unfold bitemp_Changed_l0_step
        simp only [gi_i1, dnlt]
        rfl
      · simp only [gb_7]
      · constructor
        · rintro ⟨⟨j, h1, h2, h3⟩, h4⟩
          exact ⟨⟨_, getD_mem h1, h3⟩, h4⟩
        · rintro ⟨⟨r, hr, h3⟩, h4⟩
          obtain ⟨j, hj, rfl⟩ := getD_of_mem hr
          obtain ⟨j', g1, g2, g3, g4⟩ := dn_exists hl.2.2 (l.length - 1 - j) j (by omega)
          exact ⟨⟨j', g2, g3, by rw [g4, h3]⟩, h4⟩)
    (xs := bitemp_Changed_l0_init i t l) ⟨false, 0, 0, 0, 0, 0, [], rfl, fun h => by
      have : SV l i t (kn (l.getD 0 []) - 1) = none := by
        unfold SV
        rw [HO_none.2 fun r hr => ?_]
        · rfl
        · obtain ⟨a, ha, rfl⟩ := getD_of_mem hr
          have := hmono (Nat.zero_le a) ha
          unfold says
          rw [decide_eq_false (show ¬ kn (l.getD a []) ≤ kn (l.getD 0 []) - 1 by omega)]
          simp
      rw [this]
      exact ⟨rfl, rfl⟩, List.Pairwise.nil, by simp, fun k => ⟨fun h => (by cases h), fun ⟨⟨j', h, _⟩, _⟩ => absurd h (Nat.not_lt_zero _)⟩⟩
  exact key
theorem Changed_is (i t : Int) (l : List (List Int)) : bitemp_Changed_pre i t l ∧ bitemp_Changed_1 i t l = (if IOK l i t then 0 else 1) ∧ ∃ c : List Int, bitemp_Changed_0 i t l = ofNums c ∧ c.length ≤ 200 ∧ (¬ IOK l i t → c = []) ∧ (IOK l i t → c.Pairwise (· < ·) ∧
    ∀ k, k ∈ c ↔ (∃ r ∈ l, kn r = k) ∧ SV l i t k ≠ SV l i t (k - 1)) := by
  unfold bitemp_Changed_pre bitemp_Changed_0 bitemp_Changed_1
  rw [iok_b]
  by_cases h : IOK l i t
  · rw [decide_eq_true h, if_pos h]
    obtain ⟨g1, c, g2, g3, g4, g5⟩ := changed_is i t l h.1
    exact ⟨⟨(valid_is l).1, fun _ => g1⟩, rfl, c, g2, g4, fun h2 => absurd h h2, fun _ => ⟨g3, g5⟩⟩
  · rw [decide_eq_false h, if_neg h]
    exact ⟨⟨(valid_is l).1, fun h => (by cases h)⟩, rfl, [], rfl, by simp, fun _ => rfl, fun h2 => absurd h2 h⟩
theorem inc_eq {a b : List Int} (ha : a.Pairwise (· < ·)) (hb : b.Pairwise (· < ·)) (h : ∀ k, k ∈ a ↔ k ∈ b) : a = b := by
  refine List.Perm.eq_of_pairwise (le := fun x y => x < y) (fun x y _ _ h1 h2 => by omega) ha hb ?_
  refine (List.perm_ext_iff_of_nodup ?_ ?_).2 h
  · exact List.nodup_iff_pairwise_ne.2 (ha.imp fun h => by omega)
  · exact List.nodup_iff_pairwise_ne.2 (hb.imp fun h => by omega)

/-! ### Knew -/
/-- A row says a value of all times from a to before b. -/
def WH (h : List (List Int)) (a b v : Int) : Prop := ∃ x ∈ h, fr x ≤ a ∧ b ≤ un x ∧ va x = v
theorem whole_iff {i k : Int} {h : List (List Int)} (hc : CAN i k h) {a b v : Int} (hab : a < b) : WH h a b v ↔ ∀ t, a ≤ t → t < b → hasV h t v := by
  constructor
  · rintro ⟨x, hx, x1, x2, x3⟩ t h1 h2
    exact ⟨x, hx, by omega, by omega, x3⟩
  · intro hv
    obtain ⟨x, hx, x1, x2, x3⟩ := hv a (Int.le_refl _) hab
    by_cases hu : b ≤ un x
    · exact ⟨x, hx, x1, hu, x3⟩
    · obtain ⟨y, hy, y1, y2, y3⟩ := hv (un x) (by omega) (by omega)
      obtain ⟨p, hp, rfl⟩ := getD_of_mem hx
      obtain ⟨q, hq, rfl⟩ := getD_of_mem hy
      rcases Nat.lt_trichotomy p q with h1 | h1 | h1
      · rcases pairwise_getD hc.2 h1 hq with h2 | ⟨h2, h3⟩
        · omega
        · exact absurd (by rw [x3, y3]) h3
      · subst h1; omega
      · have h5 := pairwise_getD hc.hi.2 h1 hp
        have := (hc.1 _ hx).2.2.2.2.2.2
        omega
theorem wh_sv {l : List (List Int)} (hl : VR l) {i k a b v : Int} (hab : a < b) : WH (bitemp_history_0 i k l) a b v ↔ ∀ t, a ≤ t → t < b → SV l i t k = some v := by
  obtain ⟨_, h1, h2⟩ := history_is i k l hl
  rw [whole_iff h1 hab]
  constructor
  · intro h t g1 g2; exact HV_iff.1 ((h2 t v).1 (h t g1 g2))
  · intro h t g1 g2; exact (h2 t v).2 (HV_iff.2 (h t g1 g2))
/-- Where a row says it at some time, it was said at the time of some row. -/
theorem wh_back {l : List (List Int)} (hl : VR l) {i k a b v : Int} (hab : a < b) (h : WH (bitemp_history_0 i k l) a b v) : ∃ j, j < l.length ∧ kn (l.getD j []) ≤ k ∧ WH (bitemp_history_0 i (kn (l.getD j [])) l) a b v := by
  rw [wh_sv hl hab] at h
  have hmono : ∀ {a b : Nat}, a ≤ b → b < l.length → kn (l.getD a []) ≤ kn (l.getD b []) := fun {a b} h hb => by
    rcases Nat.lt_or_ge a b with h2 | h2
    · exact pairwise_getD hl.2.2 h2 hb
    · rw [show a = b by omega]; exact Int.le_refl _
  have h0 : 0 < l.length ∧ kn (l.getD 0 []) ≤ k := by
    have := h a (Int.le_refl _) hab
    unfold SV at this
    cases ho : HO l i a k with
    | none => rw [ho] at this; cases this
    | some r =>
      obtain ⟨g1, g2⟩ := HO_some ho
      obtain ⟨j, hj, rfl⟩ := getD_of_mem g1
      unfold says at g2
      simp only [Bool.and_eq_true, decide_eq_true_eq, beq_iff_eq] at g2
      have := hmono (Nat.zero_le j) hj
      exact ⟨by omega, by omega⟩
  have key : ∀ d, d < l.length → kn (l.getD d []) ≤ k → (∀ j, d < j → j < l.length → ¬ kn (l.getD j []) ≤ k) → ∃ j, j < l.length ∧ kn (l.getD j []) ≤ k ∧ WH (bitemp_history_0 i (kn (l.getD j [])) l) a b v := by
    intro d hd hk hno
    refine ⟨d, hd, hk, (wh_sv hl hab).2 fun t g1 g2 => ?_⟩
    rw [← h t g1 g2]
    refine SV_congr fun r hr _ => ?_
    obtain ⟨q, hq, rfl⟩ := getD_of_mem hr
    rcases Nat.lt_or_ge d q with h1 | h1
    · have h2 := hno q h1 hq
      have := hmono (Nat.le_of_lt h1) hq
      omega
    · have := hmono h1 hd
      omega
  have down : ∀ n d, d + n + 1 = l.length → (∀ j, d < j → j < l.length → ¬ kn (l.getD j []) ≤ k) → ∃ j, j < l.length ∧ kn (l.getD j []) ≤ k ∧ WH (bitemp_history_0 i (kn (l.getD j [])) l) a b v := by
    intro n d
    induction d generalizing n with
    | zero => intro hn hno; exact key 0 h0.1 h0.2 hno
    | succ d ih =>
      intro hn hno
      by_cases hk : kn (l.getD (d + 1) []) ≤ k
      · exact key (d + 1) (by omega) hk hno
      · refine ih (n + 1) (by omega) fun j h1 h2 => ?_
        by_cases e : j = d + 1
        · rw [e]; exact hk
        · exact hno j (by omega) h2
  exact down 0 (l.length - 1) (by omega) fun j h1 h2 => by omega
/-- The arguments of Knew are valid. -/
def KOK (l : List (List Int)) (i a b v : Int) : Prop := VR l ∧ IT i ∧ TM a ∧ TM b ∧ a < b ∧ VA v
instance (l : List (List Int)) (i a b v : Int) : Decidable (KOK l i a b v) := by unfold KOK; infer_instance
theorem kok_b (l : List (List Int)) (i a b v : Int) : (!bitemp_Valid_0 l || !bitemp_isItem_0 i || !bitemp_isTime_0 a || !bitemp_isTime_0 b || decide (a ≥ b) || !bitemp_isValue_0 v) = !decide (KOK l i a b v) := by
  rw [(valid_is l).2, isItem_eq, isTime_eq, isTime_eq, isValue_eq, Bool.eq_iff_iff, Bool.not_eq_true', decide_eq_false_iff_not]
  unfold KOK
  simp only [Bool.or_eq_true, Bool.not_eq_true', decide_eq_false_iff_not, decide_eq_true_eq]
  have : (a ≥ b) ↔ ¬ (a < b) := by omega
  rw [this]
  by_cases h : VR l <;> by_cases h2 : IT i <;> by_cases h3 : TM a <;> by_cases h4 : TM b <;> by_cases h5 : a < b <;> by_cases h6 : VA v <;> simp [h, h2, h3, h4, h5, h6]
theorem knew_is (i a b v : Int) (l : List (List Int)) (hk : KOK l i a b v) : loopOk (bitemp_Knew_l0_step i a b v l) (bitemp_Knew_l0_init i a b v l) ∧
    ((∃ j, j < l.length ∧ WH (bitemp_history_0 i (kn (l.getD j [])) l) a b v ∧ (∀ j', j' < j → ¬ WH (bitemp_history_0 i (kn (l.getD j' [])) l) a b v) ∧ bitemp_Knew_l0 i a b v l = (1, [.i (kn (l.getD j []))])) ∨
      ((∀ j, j < l.length → ¬ WH (bitemp_history_0 i (kn (l.getD j [])) l) a b v) ∧ bitemp_Knew_l0 i a b v l = (3, [.i 0, .i 0, .i l.length]))) := by
  have hl := hk.1
  have hlen := hl.1
  classical
  have key := loop_search (step := bitemp_Knew_l0_step i a b v l) l.length (fun j => decide (WH (bitemp_history_0 i (kn (l.getD j [])) l) a b v)) (fun j => [.i 0, .i 0, .i j]) (fun j => [.i (kn (l.getD j []))]) 0 2 [.i 0, .i 0, .i l.length]
    (fun j hj => by
      obtain ⟨hp, hc, _⟩ := history_is i (kn (l.getD j [])) l hl
      have hhl := hc.hi.len
      have eq2 : gi [U.i 0, U.i 0, U.i (j : Int)] 2 = (j : Int) := rfl
      have key1 := loop_search (step := bitemp_Knew_l1_step i a b v l [U.i 0, U.i 0, U.i (j : Int)]) (bitemp_history_0 i (kn (l.getD j [])) l).length (fun q => decide (fr ((bitemp_history_0 i (kn (l.getD j [])) l).getD q []) ≤ a) && decide (b ≤ un ((bitemp_history_0 i (kn (l.getD j [])) l).getD q [])) && (va ((bitemp_history_0 i (kn (l.getD j [])) l).getD q []) == v))
        (fun q => [.i 0, .i q]) (fun q => [.i q]) 0 2 [.i 0, .i (bitemp_history_0 i (kn (l.getD j [])) l).length]
        (fun q hq => by
          unfold bitemp_Knew_l1_step
          simp only [eq2, Int.toNat_natCast]
          generalize bitemp_history_0 i (kn (l.getD j [])) l = h at hq hhl
          simp only [gi_1, gi_z, dlt hq, guardP_pos (inR_of hq), Int.toNat_natCast, wrap_succ (show q < 4611686018427387904 by omega)])
        (by
          unfold bitemp_Knew_l1_step
          simp only [eq2, Int.toNat_natCast]
          generalize bitemp_history_0 i (kn (l.getD j [])) l = h
          simp only [gi_1, gi_z, dnlt])
      unfold bitemp_Knew_l0_step
      simp only [eq2, dlt hj, guardP_pos (inR_of hj), Int.toNat_natCast, wrap_succ (show j < 4611686018427387904 by omega), gi_z, gi_1]
      rw [guardP_pos hp, guardP_pos (show loopOk _ (bitemp_Knew_l1_init i a b v l [U.i 0, U.i 0, U.i (j : Int)]) from key1.1)]
      rcases key1.2 with ⟨q, q1, q2, q3, q4⟩ | ⟨q3, q4⟩
      · have e : bitemp_Knew_l1 i a b v l [U.i 0, U.i 0, U.i (j : Int)] = (1, [.i q]) := q4
        have hw : WH (bitemp_history_0 i (kn (l.getD j [])) l) a b v := by
          simp only [Bool.and_eq_true, decide_eq_true_eq, beq_iff_eq] at q2
          exact ⟨_, getD_mem q1, q2.1.1, q2.1.2, q2.2⟩
        have hb : decide ((bif (bitemp_Knew_l1 i a b v l [U.i 0, U.i 0, U.i (j : Int)]).1.beq 1 then gi (bitemp_Knew_l1 i a b v l [U.i 0, U.i 0, U.i (j : Int)]).2 0 else -1) ≥ (0 : Int)) = true := by
          rw [e]; simp [Nat.beq, gi_z]
        rw [hb, decide_eq_true hw]
      · have e : bitemp_Knew_l1 i a b v l [U.i 0, U.i 0, U.i (j : Int)] = (3, [.i 0, .i (bitemp_history_0 i (kn (l.getD j [])) l).length]) := q4
        have hw : ¬ WH (bitemp_history_0 i (kn (l.getD j [])) l) a b v := by
          rintro ⟨x, hx, x1, x2, x3⟩
          obtain ⟨q, hq, rfl⟩ := getD_of_mem hx
          have := q3 q hq
          rw [decide_eq_true x1, decide_eq_true x2] at this
          simp at this
          try exact this (by simpa using x3)
        have hb : decide ((bif (bitemp_Knew_l1 i a b v l [U.i 0, U.i 0, U.i (j : Int)]).1.beq 1 then gi (bitemp_Knew_l1 i a b v l [U.i 0, U.i 0, U.i (j : Int)]).2 0 else -1) ≥ (0 : Int)) = false := by
          rw [e]; simp [Nat.beq]
        rw [hb, decide_eq_false hw])
    (by
      unfold bitemp_Knew_l0_step
      have eq2 : gi [U.i 0, U.i 0, U.i (l.length : Int)] 2 = (l.length : Int) := rfl
      simp only [eq2, dnlt, gi_z, gi_1])
  refine ⟨key.1, ?_⟩
  rcases key.2 with ⟨j, h1, h2, h3, h4⟩ | ⟨h3, h4⟩
  · exact .inl ⟨j, h1, of_decide_eq_true h2, fun j' h => of_decide_eq_false (h3 j' h), h4⟩
  · exact .inr ⟨fun j' h => of_decide_eq_false (h3 j' h), h4⟩
theorem Knew_is (i a b v : Int) (l : List (List Int)) : bitemp_Knew_pre i a b v l ∧ (¬ KOK l i a b v → bitemp_Knew_1 i a b v l = 1) ∧ (KOK l i a b v →
    ((∃ j, j < l.length ∧ WH (bitemp_history_0 i (kn (l.getD j [])) l) a b v ∧ (∀ j', j' < j → ¬ WH (bitemp_history_0 i (kn (l.getD j' [])) l) a b v) ∧ bitemp_Knew_0 i a b v l = kn (l.getD j []) ∧ bitemp_Knew_1 i a b v l = 0) ∨
      ((∀ j, j < l.length → ¬ WH (bitemp_history_0 i (kn (l.getD j [])) l) a b v) ∧ bitemp_Knew_0 i a b v l = 0 ∧ bitemp_Knew_1 i a b v l = 4))) := by
  unfold bitemp_Knew_pre bitemp_Knew_0 bitemp_Knew_1
  rw [kok_b]
  by_cases h : KOK l i a b v
  · rw [decide_eq_true h]
    obtain ⟨g1, g2⟩ := knew_is i a b v l h
    refine ⟨⟨(valid_is l).1, fun _ => g1⟩, fun h2 => absurd h h2, fun _ => ?_⟩
    rcases g2 with ⟨j, h1, h2, h3, h4⟩ | ⟨h3, h4⟩
    · exact .inl ⟨j, h1, h2, h3, by rw [h4]; rfl, by rw [h4]; rfl⟩
    · exact .inr ⟨h3, by rw [h4]; rfl, by rw [h4]; rfl⟩
  · rw [decide_eq_false h]
    exact ⟨⟨(valid_is l).1, fun h => (by cases h)⟩, fun _ => rfl, fun h2 => absurd h2 h⟩
end Go.Proofs.Ytcbgjecpnhjlpaa
