/- Several texts in one (wip/merge.py): XBitempG XBitempK. -/
import Derived.Test.YtcbgjecpnhjlpaaBitempQ1
import Derived.Test.YtcbgjecpnhjlpaaSySo
/-!
  Merged rows: what Merge returns, and what holds by it.
-/
set_option linter.unusedVariables false
set_option linter.unusedSimpArgs false
set_option linter.unusedSectionVars false
set_option maxRecDepth 100000
namespace Go.Proofs.Ytcbgjecpnhjlpaa
open Go Go.Sy

theorem has_is (a b c d e : Int) (l : List (List Int)) (hl : l.length ≤ 4611686018427387904) : ref27_Has_pre a b c d e l ∧ ref27_Has_0 a b c d e l = decide (∃ x ∈ l, n5 x = [a, b, c, d, e]) := by
  unfold ref27_Has_pre ref27_Has_0
  have e5 : ∀ x : List Int, (x.getD 0 0 == a && (x.getD 1 0 == b && (x.getD 2 0 == c && (x.getD 3 0 == d && (x.getD 4 0 == e && true))))) = decide (n5 x = [a, b, c, d, e]) := fun x => by
    unfold n5 it va fr un kn
    simp only [Bool.and_true, List.cons.injEq, and_true, Bool.decide_and]
    rfl
  have key := loop_search (step := ref27_Has_l0_step a b c d e l) l.length (fun i => decide (n5 (l.getD i []) = [a, b, c, d, e])) (fun i => [.b false, .i i]) (fun i => []) 0 2 [.b false, .i l.length]
    (fun i hi => by
      unfold ref27_Has_l0_step
      simp only [gi_1, gi_z, gb_z, dlt hi, guardP_pos (inR_of hi), Int.toNat_natCast, wrap_succ (show i < 4611686018427387904 by omega), e5])
    (by
      unfold ref27_Has_l0_step
      simp only [gi_1, gi_z, gb_z, dnlt])
  refine ⟨key.1, ?_⟩
  rcases key.2 with ⟨i, h1, h2, h3, h4⟩ | ⟨h3, h4⟩
  · have e : ref27_Has_l0 a b c d e l = (1, []) := h4
    rw [e, decide_eq_true ⟨_, getD_mem h1, of_decide_eq_true h2⟩]; rfl
  · have e : ref27_Has_l0 a b c d e l = (3, [.b false, .i l.length]) := h4
    rw [e, decide_eq_false]
    · rfl
    · rintro ⟨x, hx, hx2⟩
      obtain ⟨i, hi, rfl⟩ := getD_of_mem hx
      have := of_decide_eq_false (h3 i hi)
      exact this hx2
/-- All rows have five numbers. -/
def F5 (l : List (List Int)) : Prop := ∀ r ∈ l, r.length = 5
/-- Two lists contradict each other. -/
def Lies (a b : List (List Int)) : Prop := ∃ y ∈ b, ∃ x ∈ a, LI x y = true
open Classical in
noncomputable def mgE (a b : List (List Int)) : Int := if VR a ∧ VR b then (if Lies a b then 18 else if 200 < (mrg a b).length then 2 else 0) else 1
open Classical in
noncomputable def mgL (a b : List (List Int)) : List (List Int) := if mgE a b = 0 then stabRows 5 4 (mrg a b) else []
theorem merge_is (a b : List (List Int)) : bitemp_Merge_pre a b ∧ bitemp_Merge_1 a b = mgE a b ∧ bitemp_Merge_0 a b = mgL a b := by
  unfold bitemp_Merge_pre bitemp_Merge_0 bitemp_Merge_1 bitemp_Merge_s2 bitemp_Merge_s3 mgL mgE
  rw [(valid_is a).2, (valid_is b).2]
  refine ⟨⟨(valid_is a).1, fun _ => (valid_is b).1, fun h => ?_⟩, ?_⟩
  · rw [Bool.or_eq_false_iff] at h
    have ha : VR a := of_decide_eq_true (by simpa using h.1)
    have hb : VR b := of_decide_eq_true (by simpa using h.2)
    obtain ⟨k1, k2⟩ := merge_loop a b ha.1 hb.1
    have := ha.1
    refine ⟨⟨fun h => ⟨trivial, by simpa using h, trivial⟩, by unfold fitsA maxLen; omega⟩, k1, fun h1 h2 => ?_⟩
    have := of_decide_eq_false h2
    omega
  · by_cases ha : VR a
    · by_cases hb : VR b
      · rw [decide_eq_true ha, decide_eq_true hb, if_pos ⟨ha, hb⟩]
        simp only [Bool.not_true, Bool.or_false, cond_false]
        rcases (merge_loop a b ha.1 hb.1).2 with ⟨h1, h2⟩ | ⟨h1, h2⟩
        · have hL : Lies a b := h1
          rw [h2, if_pos hL]
          exact ⟨rfl, rfl⟩
        · have hL : ¬ Lies a b := fun ⟨y, hy, x, hx, h⟩ => by rw [h1 y hy x hx] at h; cases h
          rw [h2, if_neg hL]
          have eg : gr ((4, [U.i 0, U.i b.length, U.r (mrg a b)]) : Nat × List U).2 2 = mrg a b := rfl
          rw [eg]
          by_cases hlen : 200 < (mrg a b).length
          · rw [decide_eq_true (by omega), if_pos hlen]; exact ⟨rfl, rfl⟩
          · rw [decide_eq_false (by omega), if_neg hlen]; exact ⟨rfl, rfl⟩
      · rw [decide_eq_false hb, if_neg (fun h => hb h.2)]
        simp
    · rw [decide_eq_false ha, if_neg (fun h => ha h.1)]
      simp
theorem li_iff (x y : List Int) : LI x y = true ↔ it x = it y ∧ kn x = kn y ∧ va x ≠ va y ∧ imax (fr x) (fr y) < imin (un x) (un y) := by
  unfold LI bitemp_lie_0
  simp [and_assoc]
theorem li_symm (x y : List Int) : LI x y = LI y x := by
  have : (LI x y = true) ↔ (LI y x = true) := by
    rw [li_iff, li_iff]
    simp only [imin_eq, imax_eq]
    constructor
    · rintro ⟨h1, h2, h3, h4⟩
      refine ⟨h1.symm, h2.symm, Ne.symm h3, ?_⟩
      split at h4 <;> split at h4 <;> split <;> split <;> omega
    · rintro ⟨h1, h2, h3, h4⟩
      refine ⟨h1.symm, h2.symm, Ne.symm h3, ?_⟩
      split at h4 <;> split at h4 <;> split <;> split <;> omega
  cases h : LI x y with
  | true => rw [this.1 h]
  | false => cases h' : LI y x with
    | true => rw [this.2 h'] at h; cases h
    | false => rfl
theorem lies_symm {a b : List (List Int)} : Lies a b ↔ Lies b a := by
  unfold Lies
  constructor
  · rintro ⟨y, hy, x, hx, h⟩; exact ⟨x, hx, y, hy, by rw [li_symm]; exact h⟩
  · rintro ⟨y, hy, x, hx, h⟩; exact ⟨x, hx, y, hy, by rw [li_symm]; exact h⟩
theorem mem_has5 {a : List (List Int)} {y : List Int} (ha : F5 a) (hy : y.length = 5) : has5 a y = true ↔ y ∈ a := by
  unfold has5
  rw [List.any_eq_true]
  constructor
  · rintro ⟨x, hx, h⟩
    have := of_decide_eq_true h
    rw [n5_eq hy, n5_eq (ha x hx)] at this
    rw [this]; exact hx
  · intro h
    exact ⟨y, h, decide_eq_true rfl⟩
theorem mrg_eq {a b : List (List Int)} (hb : F5 b) : mrg a b = a ++ b.filter fun y => !has5 a y := by
  unfold mrg
  congr 1
  conv => rhs; rw [← List.map_id (b.filter _)]
  exact List.map_congr_left fun y hy => n5_eq (hb y (List.mem_filter.1 hy).1)
theorem mrg_mem {a b : List (List Int)} (ha : F5 a) (hb : F5 b) {x : List Int} : x ∈ mrg a b ↔ x ∈ a ∨ x ∈ b := by
  rw [mrg_eq hb, List.mem_append, List.mem_filter]
  constructor
  · rintro (h | h)
    · exact .inl h
    · exact .inr h.1
  · rintro (h | h)
    · exact .inl h
    · by_cases hx : x ∈ a
      · exact .inl hx
      · refine .inr ⟨h, ?_⟩
        have : ¬ has5 a x = true := fun e => hx ((mem_has5 ha (hb x h)).1 e)
        simpa using this
theorem mrg_f5 {a b : List (List Int)} (ha : F5 a) (hb : F5 b) : F5 (mrg a b) := fun r hr => ((mrg_mem ha hb).1 hr).elim (ha r) (hb r)
theorem stab_f5 {l : List (List Int)} (h : F5 l) : stabRows 5 4 l = stab kn l := by
  unfold stabRows
  rw [map_norm h]
theorem stab_vr {l : List (List Int)} (h5 : F5 l) (h : ∀ r ∈ l, RO r) (hl : l.length ≤ 200) : VR (stabRows 5 4 l) := by
  rw [stab_f5 h5]
  exact ⟨by rw [stab_length]; exact hl, fun r hr => h r (stab_mem.1 hr), stab_srt l⟩
/-- What holds by sorted rows: the last of those with the greatest Known, in their first order. -/
theorem ho_stab {l : List (List Int)} {i t k : Int} {r : List Int} (h : HO (stab kn l) i t k = some r) : r ∈ l ∧ says i t k r = true ∧ (∀ x ∈ l, says i t k x = true → kn x ≤ kn r) ∧ (l.filter fun x => says i t k x && decide (kn x = kn r)).getLast? = some r := by
  obtain ⟨h1, h2⟩ := HO_some h
  have hlast : ((stab kn l).filter (says i t k)).getLast? = some r := by
    unfold HO at h
    rw [← List.head?_filter, List.filter_reverse, List.head?_reverse] at h
    exact h
  obtain ⟨ys, hys⟩ := List.getLast?_eq_some_iff.1 hlast
  have hsrt : Srt kn ((stab kn l).filter (says i t k)) := List.Pairwise.filter _ (stab_srt l)
  have hmax : ∀ x ∈ l, says i t k x = true → kn x ≤ kn r := by
    intro x hx hs
    have hm : x ∈ (stab kn l).filter (says i t k) := List.mem_filter.2 ⟨stab_mem.2 hx, hs⟩
    rw [hys] at hm hsrt
    rcases List.mem_append.1 hm with hm | hm
    · exact (srt_append.1 hsrt).2.2 x hm r (List.mem_singleton.2 rfl)
    · rw [List.mem_singleton.1 hm]; exact Int.le_refl _
  refine ⟨stab_mem.1 h1, h2, hmax, ?_⟩
  have e1 : (l.filter fun x => says i t k x && decide (kn x = kn r)) = (stab kn l).filter fun x => says i t k x && decide (kn x = kn r) := by
    have := stab_same (k := kn) l (kn r)
    have e : ∀ z : List (List Int), (z.filter fun x => says i t k x && decide (kn x = kn r)) = (z.filter fun x => decide (kn x = kn r)).filter (says i t k) := fun z => by
      rw [List.filter_filter]
    rw [e, e, this]
  rw [e1]
  have e2 : ((stab kn l).filter fun x => says i t k x && decide (kn x = kn r)) = ((stab kn l).filter (says i t k)).filter fun x => decide (kn x = kn r) := by
    rw [List.filter_filter]
    congr 1
    funext x
    rw [Bool.and_comm]
  rw [e2, hys, List.filter_append]
  simp
/-- The rows of both lists that hold last are of the same value. -/
theorem ho_merged {a b : List (List Int)} (ha : F5 a) (hb : F5 b) (hL : ¬ Lies a b) {i t k : Int} {r r' : List Int} (h : HO (stab kn (mrg a b)) i t k = some r) (h' : HO (stab kn (mrg b a)) i t k = some r') : va r = va r' := by
  obtain ⟨h1, h2, h3, h4⟩ := ho_stab h
  obtain ⟨g1, g2, g3, g4⟩ := ho_stab h'
  have hmem : ∀ x, x ∈ mrg a b ↔ x ∈ mrg b a := fun x => by rw [mrg_mem ha hb, mrg_mem hb ha, or_comm]
  have hk : kn r = kn r' := Int.le_antisymm (g3 r ((hmem r).1 h1) h2) (h3 r' ((hmem r').2 g1) g2)
  have agree : ∀ x ∈ a, ∀ y ∈ b, says i t k x = true → says i t k y = true → kn x = kn y → va x = va y := by
    intro x hx y hy sx sy hxy
    apply Classical.byContradiction
    intro hne
    apply hL
    refine ⟨y, hy, x, hx, ?_⟩
    unfold says at sx sy
    simp only [Bool.and_eq_true, beq_iff_eq, decide_eq_true_eq] at sx sy
    rw [li_iff, imax_eq, imin_eq]
    refine ⟨by omega, hxy, hne, ?_⟩
    split <;> split <;> omega
  by_cases ea : ∃ x ∈ a, says i t k x = true ∧ kn x = kn r
  · obtain ⟨x, xa, xs, xk⟩ := ea
    by_cases eb : ∃ y ∈ b, says i t k y = true ∧ kn y = kn r
    · obtain ⟨y, yb, ys, yk⟩ := eb
      have same : ∀ z, z ∈ mrg a b → says i t k z = true → kn z = kn r → va z = va x := by
        intro z hz sz kz
        rcases (mrg_mem ha hb).1 hz with hz | hz
        · rw [agree z hz y yb sz ys (by omega), agree x xa y yb xs ys (by omega)]
        · exact (agree x xa z hz xs sz (by omega)).symm
      rw [same r h1 h2 rfl, same r' ((hmem r').2 g1) g2 hk.symm]
    · have nb : ∀ y ∈ b, (says i t k y && decide (kn y = kn r)) = false := by
        intro y hy
        cases hs : says i t k y with
        | false => rfl
        | true => rw [Bool.true_and, decide_eq_false]; exact fun hk' => eb ⟨y, hy, hs, hk'⟩
      rw [← hk] at g4
      rw [mrg_eq hb, List.filter_append] at h4
      rw [mrg_eq ha, List.filter_append] at g4
      have e1 : (b.filter fun y => !has5 a y).filter (fun x => says i t k x && decide (kn x = kn r)) = [] := List.filter_eq_nil_iff.2 fun y hy => by rw [nb y (List.mem_filter.1 hy).1]; simp
      have e2 : b.filter (fun x => says i t k x && decide (kn x = kn r)) = [] := List.filter_eq_nil_iff.2 fun y hy => by rw [nb y hy]; simp
      have e3 : (a.filter fun y => !has5 b y).filter (fun x => says i t k x && decide (kn x = kn r)) = a.filter fun x => says i t k x && decide (kn x = kn r) := by
        rw [List.filter_filter]
        apply List.filter_congr
        intro z hz
        cases hp : (says i t k z && decide (kn z = kn r)) with
        | false => rfl
        | true =>
          have : ¬ has5 b z = true := fun e => by
            have := nb z ((mem_has5 hb (ha z hz)).1 e)
            rw [hp] at this; cases this
          simpa using this
      rw [e1, List.append_nil] at h4
      rw [e2, e3, List.nil_append, h4] at g4
      rw [Option.some.inj g4]
  · have na : ∀ y ∈ a, (says i t k y && decide (kn y = kn r)) = false := by
      intro y hy
      cases hs : says i t k y with
      | false => rfl
      | true => rw [Bool.true_and, decide_eq_false]; exact fun hk' => ea ⟨y, hy, hs, hk'⟩
    rw [← hk] at g4
    rw [mrg_eq hb, List.filter_append] at h4
    rw [mrg_eq ha, List.filter_append] at g4
    have e1 : (a.filter fun y => !has5 b y).filter (fun x => says i t k x && decide (kn x = kn r)) = [] := List.filter_eq_nil_iff.2 fun y hy => by rw [na y (List.mem_filter.1 hy).1]; simp
    have e2 : a.filter (fun x => says i t k x && decide (kn x = kn r)) = [] := List.filter_eq_nil_iff.2 fun y hy => by rw [na y hy]; simp
    have e3 : (b.filter fun y => !has5 a y).filter (fun x => says i t k x && decide (kn x = kn r)) = b.filter fun x => says i t k x && decide (kn x = kn r) := by
      rw [List.filter_filter]
      apply List.filter_congr
      intro z hz
      cases hp : (says i t k z && decide (kn z = kn r)) with
      | false => rfl
      | true =>
        have : ¬ has5 a z = true := fun e => by
          have := na z ((mem_has5 ha (hb z hz)).1 e)
          rw [hp] at this; cases this
        simpa using this
    rw [e2, e3, List.nil_append] at h4
    rw [e1, List.append_nil, h4] at g4
    rw [Option.some.inj g4]
/-- What holds by merged rows holds by one of the lists. -/
theorem ho_one {a b : List (List Int)} (ha : F5 a) (hb : F5 b) (hva : VR a) (hvb : VR b) (hL : ¬ Lies a b) {i t k : Int} {r : List Int} (h : HO (stab kn (mrg a b)) i t k = some r) :
    SV a i t k = some (va r) ∨ SV b i t k = some (va r) := by
  obtain ⟨h1, h2, h3, h4⟩ := ho_stab h
  have agree : ∀ x ∈ a, ∀ y ∈ b, says i t k x = true → says i t k y = true → kn x = kn y → va x = va y := by
    intro x hx y hy sx sy hxy
    apply Classical.byContradiction
    intro hne
    apply hL
    refine ⟨y, hy, x, hx, ?_⟩
    unfold says at sx sy
    simp only [Bool.and_eq_true, beq_iff_eq, decide_eq_true_eq] at sx sy
    rw [li_iff, imax_eq, imin_eq]
    refine ⟨by omega, hxy, hne, ?_⟩
    split <;> split <;> omega
  have lastv : ∀ {l : List (List Int)}, VR l → ∀ {x : List Int}, x ∈ l → says i t k x = true → kn x = kn r → (∀ z ∈ l, says i t k z = true → kn z ≤ kn r) → ∃ z, HO l i t k = some z ∧ z ∈ l ∧ says i t k z = true ∧ kn z = kn r ∧ (l.filter fun x => says i t k x && decide (kn x = kn r)).getLast? = some z := by
    intro l hl x hx hs hk hm
    have hst : stab kn l = l := (stab_unique (SameBy.refl l) hl.2.2).symm
    cases hz : HO l i t k with
    | none => rw [HO_none.1 hz x hx] at hs; cases hs
    | some z =>
      rw [← hst] at hz
      obtain ⟨z1, z2, z3, z4⟩ := ho_stab hz
      have : kn z = kn r := Int.le_antisymm (hm z z1 z2) (by rw [← hk]; exact z3 x hx hs)
      rw [this] at z4
      exact ⟨z, rfl, z1, z2, this, z4⟩
  have inl : ∀ z ∈ a, says i t k z = true → kn z ≤ kn r := fun z hz => h3 z ((mrg_mem ha hb).2 (.inl hz))
  have inr' : ∀ z ∈ b, says i t k z = true → kn z ≤ kn r := fun z hz => h3 z ((mrg_mem ha hb).2 (.inr hz))
  by_cases ea : ∃ x ∈ a, says i t k x = true ∧ kn x = kn r
  · obtain ⟨x, xa, xs, xk⟩ := ea
    obtain ⟨z, z1, z2, z3, z4, z5⟩ := lastv hva xa xs xk inl
    left
    unfold SV
    rw [z1]
    show some (va z) = some (va r)
    congr 1
    by_cases eb : ∃ y ∈ b, says i t k y = true ∧ kn y = kn r
    · obtain ⟨y, yb, ys, yk⟩ := eb
      rcases (mrg_mem ha hb).1 h1 with hr | hr
      · rw [agree z z2 y yb z3 ys (by omega), agree r hr y yb h2 ys (by omega)]
      · exact agree z z2 r hr z3 h2 z4
    · have nb : ∀ y ∈ b, (says i t k y && decide (kn y = kn r)) = false := by
        intro y hy
        cases hs : says i t k y with
        | false => rfl
        | true => rw [Bool.true_and, decide_eq_false]; exact fun hk' => eb ⟨y, hy, hs, hk'⟩
      rw [mrg_eq hb, List.filter_append] at h4
      have e1 : (b.filter fun y => !has5 a y).filter (fun x => says i t k x && decide (kn x = kn r)) = [] := List.filter_eq_nil_iff.2 fun y hy => by rw [nb y (List.mem_filter.1 hy).1]; simp
      rw [e1, List.append_nil, z5] at h4
      rw [Option.some.inj h4]
  · have hrb : r ∈ b := ((mrg_mem ha hb).1 h1).resolve_left fun hr => ea ⟨r, hr, h2, rfl⟩
    obtain ⟨z, z1, z2, z3, z4, z5⟩ := lastv hvb hrb h2 rfl inr'
    right
    unfold SV
    rw [z1]
    show some (va z) = some (va r)
    congr 1
    have na : ∀ y ∈ a, (says i t k y && decide (kn y = kn r)) = false := by
      intro y hy
      cases hs : says i t k y with
      | false => rfl
      | true => rw [Bool.true_and, decide_eq_false]; exact fun hk' => ea ⟨y, hy, hs, hk'⟩
    rw [mrg_eq hb, List.filter_append] at h4
    have e2 : a.filter (fun x => says i t k x && decide (kn x = kn r)) = [] := List.filter_eq_nil_iff.2 fun y hy => by rw [na y hy]; simp
    have e3 : (b.filter fun y => !has5 a y).filter (fun x => says i t k x && decide (kn x = kn r)) = b.filter fun x => says i t k x && decide (kn x = kn r) := by
      rw [List.filter_filter]
      apply List.filter_congr
      intro z hz
      cases hp : (says i t k z && decide (kn z = kn r)) with
      | false => rfl
      | true =>
        have : ¬ has5 a z = true := fun e => by
          have := na z ((mem_has5 ha (hb z hz)).1 e)
          rw [hp] at this; cases this
        simpa using this
    rw [e2, e3, List.nil_append, z5] at h4
    rw [Option.some.inj h4]
end Go.Proofs.Ytcbgjecpnhjlpaa

/-!
  The law of merged rows, as far as what the functions compute.
-/
set_option linter.unusedVariables false
set_option linter.unusedSimpArgs false
set_option linter.unusedSectionVars false
set_option maxRecDepth 100000
namespace Go.Proofs.Ytcbgjecpnhjlpaa
open Go Go.Sy

theorem nn5 (x : List Int) : [x.getD 0 0, x.getD 1 0, x.getD 2 0, x.getD 3 0, x.getD 4 0] = n5 x := rfl
theorem mg_l0 {a b : List (List Int)} (item time known : Int) (hh : law27_head_0 = true) (ha : a.length ≤ 60) (hm : (bitemp_Merge_0 a b).length ≤ 200) (h : ∀ r ∈ a, ∃ x ∈ bitemp_Merge_0 a b, n5 x = n5 r) :
    loopOk (law27_BitempMerged_l0_step item time known a b) (law27_BitempMerged_l0_init item time known a b) ∧ law27_BitempMerged_l0 item time known a b = (2, [.b true, .i a.length]) := by
  have := loop_for (step := law27_BitempMerged_l0_step item time known a b) a.length (fun j xs => xs = [.b true, .i (j : Int)]) (fun res => res = (2, [.b true, .i (a.length : Int)])) (fun j xs hj e => by
      subst e
      refine .inl ⟨_, ?_, rfl⟩
      have hs := has_is ((a.getD j []).getD 0 0) ((a.getD j []).getD 1 0) ((a.getD j []).getD 2 0) ((a.getD j []).getD 3 0) ((a.getD j []).getD 4 0) (bitemp_Merge_0 a b) (by omega)
      unfold law27_BitempMerged_l0_step
      simp only [gi_1, gi_z, gb_z, dlt hj, guardP_pos (inR_of hj), Int.toNat_natCast, wrap_succ (show j < 4611686018427387904 by omega)]
      rw [guardP_pos (fun _ => hs.1), hs.2, nn5, decide_eq_true (h _ (getD_mem hj))]
      rfl) (fun xs e => by
      subst e
      refine ⟨1, _, ?_, rfl⟩
      unfold law27_BitempMerged_l0_step
      simp only [gi_1, gi_z, gb_z, dnlt]) (xs := law27_BitempMerged_l0_init item time known a b) (by unfold law27_BitempMerged_l0_init; rw [hh]; rfl)
  exact this
theorem mg_l1 {a b : List (List Int)} (item time known : Int) (h0 : law27_BitempMerged_l0 item time known a b = (2, [.b true, .i a.length])) (hb : b.length ≤ 60) (hm : (bitemp_Merge_0 a b).length ≤ 200) (h : ∀ r ∈ b, ∃ x ∈ bitemp_Merge_0 a b, n5 x = n5 r) :
    loopOk (law27_BitempMerged_l1_step item time known a b) (law27_BitempMerged_l1_init item time known a b) ∧ law27_BitempMerged_l1 item time known a b = (2, [.b true, .i b.length]) := by
  have := loop_for (step := law27_BitempMerged_l1_step item time known a b) b.length (fun j xs => xs = [.b true, .i (j : Int)]) (fun res => res = (2, [.b true, .i (b.length : Int)])) (fun j xs hj e => by
      subst e
      refine .inl ⟨_, ?_, rfl⟩
      have hs := has_is ((b.getD j []).getD 0 0) ((b.getD j []).getD 1 0) ((b.getD j []).getD 2 0) ((b.getD j []).getD 3 0) ((b.getD j []).getD 4 0) (bitemp_Merge_0 a b) (by omega)
      unfold law27_BitempMerged_l1_step
      simp only [gi_1, gi_z, gb_z, dlt hj, guardP_pos (inR_of hj), Int.toNat_natCast, wrap_succ (show j < 4611686018427387904 by omega)]
      rw [guardP_pos (fun _ => hs.1), hs.2, nn5, decide_eq_true (h _ (getD_mem hj))]
      rfl) (fun xs e => by
      subst e
      refine ⟨1, _, ?_, rfl⟩
      unfold law27_BitempMerged_l1_step
      simp only [gi_1, gi_z, gb_z, dnlt]) (xs := law27_BitempMerged_l1_init item time known a b) (by unfold law27_BitempMerged_l1_init; rw [h0]; rfl)
  exact this
theorem mg_l2 {a b : List (List Int)} (item time known : Int) (h0 : law27_BitempMerged_l1 item time known a b = (2, [.b true, .i b.length])) (ha : a.length ≤ 60) (hb : b.length ≤ 60) (hm : (bitemp_Merge_0 a b).length ≤ 200) (h : ∀ r ∈ bitemp_Merge_0 a b, (∃ x ∈ a, n5 x = n5 r) ∨ ∃ x ∈ b, n5 x = n5 r) :
    loopOk (law27_BitempMerged_l2_step item time known a b) (law27_BitempMerged_l2_init item time known a b) ∧ law27_BitempMerged_l2 item time known a b = (2, [.b true, .i (bitemp_Merge_0 a b).length]) := by
  have := loop_for (step := law27_BitempMerged_l2_step item time known a b) (bitemp_Merge_0 a b).length (fun j xs => xs = [.b true, .i (j : Int)]) (fun res => res = (2, [.b true, .i ((bitemp_Merge_0 a b).length : Int)])) (fun j xs hj e => by
      subst e
      refine .inl ⟨_, ?_, rfl⟩
      have hs := has_is (((bitemp_Merge_0 a b).getD j []).getD 0 0) (((bitemp_Merge_0 a b).getD j []).getD 1 0) (((bitemp_Merge_0 a b).getD j []).getD 2 0) (((bitemp_Merge_0 a b).getD j []).getD 3 0) (((bitemp_Merge_0 a b).getD j []).getD 4 0) a (by omega)
      have ht := has_is (((bitemp_Merge_0 a b).getD j []).getD 0 0) (((bitemp_Merge_0 a b).getD j []).getD 1 0) (((bitemp_Merge_0 a b).getD j []).getD 2 0) (((bitemp_Merge_0 a b).getD j []).getD 3 0) (((bitemp_Merge_0 a b).getD j []).getD 4 0) b (by omega)
      have hj' := h _ (getD_mem hj)
      unfold law27_BitempMerged_l2_step
      simp only [gi_1, gi_z, gb_z, dlt hj, guardP_pos (inR_of hj), Int.toNat_natCast, wrap_succ (show j < 4611686018427387904 by omega)]
      rw [guardP_pos (fun _ => hs.1), guardP_pos (fun _ _ => ht.1), hs.2, ht.2, nn5]
      have hb : (true && (decide (∃ x ∈ a, n5 x = n5 ((bitemp_Merge_0 a b).getD j [])) || decide (∃ x ∈ b, n5 x = n5 ((bitemp_Merge_0 a b).getD j [])))) = true := by
        rcases hj' with h | h
        · rw [decide_eq_true h]; rfl
        · rw [decide_eq_true h, Bool.or_true]; rfl
      rw [hb]) (fun xs e => by
      subst e
      refine ⟨1, _, ?_, rfl⟩
      unfold law27_BitempMerged_l2_step
      simp only [gi_1, gi_z, gb_z, dnlt]) (xs := law27_BitempMerged_l2_init item time known a b) (by unfold law27_BitempMerged_l2_init; rw [h0]; rfl)
  exact this
theorem mgE_symm {a b : List (List Int)} (ha : a.length ≤ 60) (hb : b.length ≤ 60) : mgE a b = mgE b a := by
  unfold mgE
  by_cases h : VR a ∧ VR b
  · have h' : VR b ∧ VR a := ⟨h.2, h.1⟩
    rw [if_pos h, if_pos h']
    by_cases hl : Lies a b
    · have hl' : Lies b a := lies_symm.1 hl
      rw [if_pos hl, if_pos hl']
    · have hl' : ¬ Lies b a := fun e => hl (lies_symm.1 e)
      rw [if_neg hl, if_neg hl']
      have h1 := mrg_len a b
      have h2 := mrg_len b a
      rw [if_neg (by omega), if_neg (by omega)]
  · have h' : ¬ (VR b ∧ VR a) := fun e => h ⟨e.2, e.1⟩
    rw [if_neg h, if_neg h']
theorem mgE_vals (a b : List (List Int)) : mgE a b = 0 ∨ mgE a b = 1 ∨ mgE a b = 18 ∨ mgE a b = 2 := by
  unfold mgE
  split
  · split
    · exact .inr (.inr (.inl rfl))
    · split
      · exact .inr (.inr (.inr rfl))
      · exact .inl rfl
  · exact .inr (.inl rfl)
theorem mgE_ok {a b : List (List Int)} (h : mgE a b = 0) : VR a ∧ VR b ∧ ¬ Lies a b ∧ (mrg a b).length ≤ 200 := by
  unfold mgE at h
  split at h
  · rename_i hv
    split at h
    · cases h
    · rename_i hl
      split at h
      · cases h
      · exact ⟨hv.1, hv.2, hl, by omega⟩
  · cases h
theorem mg_vr {a b : List (List Int)} (ha : F5 a) (hb : F5 b) (h : mgE a b = 0) : mgL a b = stab kn (mrg a b) ∧ VR (stab kn (mrg a b)) := by
  obtain ⟨h1, h2, h3, h4⟩ := mgE_ok h
  have e := stab_f5 (mrg_f5 ha hb)
  have := stab_vr (mrg_f5 ha hb) (fun r hr => ((mrg_mem ha hb).1 hr).elim (h1.2.1 r) (h2.2.1 r)) h4
  rw [e] at this
  refine ⟨?_, this⟩
  unfold mgL
  rw [if_pos h, e]
theorem bitempMerged_ok (item time known : Int) (a b : List (List Int)) (ha : F5 a) (hb : F5 b) : law27_BitempMerged_0 item time known a b = true ∧ law27_BitempMerged_pre item time known a b := by
  obtain ⟨hh, hp⟩ := head_ok
  obtain ⟨m1, m2, m3⟩ := merge_is a b
  obtain ⟨n1, n2, n3⟩ := merge_is b a
  unfold law27_BitempMerged_0 law27_BitempMerged_pre
  by_cases hla : a.length ≤ 60
  case neg =>
    rw [decide_eq_true (show (a.length : Int) > 60 by omega)]
    exact ⟨hh, hp, fun h => by cases h⟩
  by_cases hlb : b.length ≤ 60
  case neg =>
    rw [decide_eq_true (show (b.length : Int) > 60 by omega), Bool.or_true]
    exact ⟨hh, hp, fun h => by cases h⟩
  rw [decide_eq_false (show ¬ (a.length : Int) > 60 by omega), decide_eq_false (show ¬ (b.length : Int) > 60 by omega)]
  simp only [Bool.or_false, cond_false]
  by_cases hE : mgE a b = 0
  case neg =>
    have hne : (bitemp_Merge_1 a b != 0) = true := by rw [m2]; simpa using hE
    rw [hne, cond_true]
    refine ⟨?_, hp, fun _ => ⟨m1, n1, fun h => by cases h⟩⟩
    rw [hh, m2, n2, mgE_symm hlb hla]
    rcases mgE_vals a b with h | h | h | h
    · exact absurd h hE
    all_goals rw [h]; rfl
  have hE' : mgE b a = 0 := by rw [mgE_symm hlb hla]; exact hE
  have hne : (bitemp_Merge_1 a b != 0) = false := by rw [m2, hE]; rfl
  obtain ⟨va', vb', hL, hlen⟩ := mgE_ok hE
  obtain ⟨q1, q2⟩ := mg_vr ha hb hE
  obtain ⟨p1, p2⟩ := mg_vr hb ha hE'
  have eM : bitemp_Merge_0 a b = stab kn (mrg a b) := m3.trans q1
  have eN : bitemp_Merge_0 b a = stab kn (mrg b a) := n3.trans p1
  have hm200 : (bitemp_Merge_0 a b).length ≤ 200 := by rw [eM]; exact q2.1
  have inM : ∀ x, x ∈ bitemp_Merge_0 a b ↔ x ∈ a ∨ x ∈ b := fun x => by rw [eM, stab_mem, mrg_mem ha hb]
  obtain ⟨k0, e0⟩ := mg_l0 item time known hh hla hm200 fun r hr => ⟨r, (inM r).2 (.inl hr), rfl⟩
  obtain ⟨k1, e1⟩ := mg_l1 item time known e0 hlb hm200 fun r hr => ⟨r, (inM r).2 (.inr hr), rfl⟩
  obtain ⟨k2, e2⟩ := mg_l2 item time known e1 hla hlb hm200 fun r hr => ((inM r).1 hr).elim (fun h => .inl ⟨r, h, rfl⟩) (fun h => .inr ⟨r, h, rfl⟩)
  have hatM := at_is item time known (bitemp_Merge_0 a b)
  have hatN := at_is item time known (bitemp_Merge_0 b a)
  have hata := at_is item time known a
  have hatb := at_is item time known b
  have hv := valid_is (bitemp_Merge_0 a b)
  rw [hne, cond_false]
  refine ⟨?_, hp, fun _ => ⟨m1, n1, fun _ => ⟨k0, k1, k2, hatM.1, hatN.1, hata.1, hatb.1, fun _ => hv.1⟩⟩⟩
  rw [e2, n2, hE', hv.2, eM, eN] 
  rw [eM] at hatM
  rw [eN] at hatN
  rw [decide_eq_true q2]
  have g2 : gb (2, [U.b true, U.i ((stab kn (mrg a b)).length : Int)]).2 0 = true := rfl
  rw [g2, hatM.2.1, hatM.2.2, hatN.2.1, hatN.2.2, hata.2.1, hata.2.2, hatb.2.1, hatb.2.2]
  by_cases hi : IT item ∧ TM time ∧ TM known
  case neg =>
    have no : ∀ l, ¬ AOK l item time known := fun l h => hi ⟨h.2.1, h.2.2.1, h.2.2.2⟩
    rw [if_neg (no _), if_neg (no _), if_neg (no _), if_neg (no _), if_neg (no _), if_neg (no _), if_neg (no _), if_neg (no _)]
    rfl
  have aM : AOK (stab kn (mrg a b)) item time known := ⟨q2, hi.1, hi.2.1, hi.2.2⟩
  have aN : AOK (stab kn (mrg b a)) item time known := ⟨p2, hi.1, hi.2.1, hi.2.2⟩
  have aA : AOK a item time known := ⟨va', hi.1, hi.2.1, hi.2.2⟩
  have aB : AOK b item time known := ⟨vb', hi.1, hi.2.1, hi.2.2⟩
  rw [if_pos aM, if_pos aM, if_pos aN, if_pos aN, if_pos aA, if_pos aA, if_pos aB, if_pos aB]
  have hmem : ∀ x, x ∈ stab kn (mrg a b) ↔ x ∈ stab kn (mrg b a) := fun x => by rw [stab_mem, stab_mem, mrg_mem ha hb, mrg_mem hb ha, or_comm]
  cases hM : HO (stab kn (mrg a b)) item time known with
  | none =>
    have hN : HO (stab kn (mrg b a)) item time known = none := HO_none.2 fun r hr => HO_none.1 hM r ((hmem r).2 hr)
    have hA : HO a item time known = none := HO_none.2 fun r hr => HO_none.1 hM r (stab_mem.2 ((mrg_mem ha hb).2 (.inl hr)))
    have hB : HO b item time known = none := HO_none.2 fun r hr => HO_none.1 hM r (stab_mem.2 ((mrg_mem ha hb).2 (.inr hr)))
    rw [hN, hA, hB]
    rfl
  | some r =>
    cases hN : HO (stab kn (mrg b a)) item time known with
    | none =>
      obtain ⟨h1, h2⟩ := HO_some hM
      have := HO_none.1 hN r ((hmem r).1 h1)
      rw [h2] at this; cases this
    | some r' =>
      have hvv := ho_merged ha hb hL hM hN
      have ho := ho_one ha hb va' vb' hL hM
      have e1 : va ((some r).getD []) = va r := rfl
      have e2 : va ((some r').getD []) = va r' := rfl
      have s1 : (some r).isSome = true := rfl
      have s2 : (some r').isSome = true := rfl
      rw [e1, e2, s1, s2, ← hvv, if_pos rfl]
      have fin : ∀ {o : Option (List Int)}, o.map va = some (va r) → ((if o.isSome = true then (0 : Int) else 4) == 0 && va r == va (o.getD [])) = true := by
        intro o ho
        cases o with
        | none => cases ho
        | some z =>
          have : va z = va r := Option.some.inj ho
          have e : va ((some z).getD []) = va z := rfl
          rw [e, this]
          simp
      have hor : (((if (HO a item time known).isSome = true then (0 : Int) else 4) == 0 && va r == va ((HO a item time known).getD [])) || ((if (HO b item time known).isSome = true then (0 : Int) else 4) == 0 && va r == va ((HO b item time known).getD []))) = true := by
        rcases ho with h | h
        · rw [fin h, Bool.true_or]
        · rw [fin h, Bool.or_true]
      have z1 : ((0 : Int) == 0) = true := rfl
      have z2 : ((0 : Int) != 0) = false := rfl
      have z4 : ((0 : Int) != 4) = true := rfl
      rw [z1, z2, z4, Bool.false_or, hor]
      simp
end Go.Proofs.Ytcbgjecpnhjlpaa
