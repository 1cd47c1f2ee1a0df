/- Several texts in one (wip/merge.py): XBitempW XBitempX XBitempY. -/
import Derived.Test.YtcbgjecpnhjlpaaSySo
import Derived.Test.YtcbgjecpnhjlpaaBitempUD
/-!
  The library's stable sort in place, at rows of five numbers: insertion, exchange of parts.
-/
set_option linter.unusedVariables false
set_option linter.unusedSimpArgs false
set_option linter.unusedSectionVars false
set_option maxRecDepth 100000
namespace Go.Proofs.Ytcbgjecpnhjlpaa
open Go Go.Sy

/-- All rows have five numbers. -/
def All5 (l : List (List Int)) : Prop := ∀ r ∈ l, r.length = 5
theorem five {x old : List Int} (h : x.length = 5) : setEl 5 old 0 [x.getD 0 0, x.getD 1 0, x.getD 2 0, x.getD 3 0, x.getD 4 0] = x := by
  match x, h with
  | [a, b, c, d, e], _ => rfl
theorem all5_get {l : List (List Int)} (h : All5 l) {i : Nat} (hi : i < l.length) : (l.getD i []).length = 5 := by
  rw [List.getD_eq_getElem?_getD, List.getElem?_eq_getElem hi]
  exact h _ (List.getElem_mem hi)
/-- Two elements exchanged. -/
def swp (l : List (List Int)) (i j : Nat) : List (List Int) := (l.set i (l.getD j [])).set j (l.getD i [])
/-- The comparison: by the fifth number. -/
def kk (r : List Int) : Int := r.getD 4 0
theorem cmp_neg (a b : Int) : cmp_Compare_int_0 a b < 0 ↔ a < b := by
  unfold cmp_Compare_int_0 cmp_Compare_int_s0
  simp only [bne_self_eq_false, cond_false]
  by_cases h : a < b
  · simp [h]
  · by_cases h2 : a > b
    · simp [h, h2]
    · simp [h, h2]
theorem merge2_neg (x y : List Int) : decide (bitemp_Merge_2_0 (x.getD 0 0) (x.getD 1 0) (x.getD 2 0) (x.getD 3 0) (x.getD 4 0) (y.getD 0 0) (y.getD 1 0) (y.getD 2 0) (y.getD 3 0) (y.getD 4 0) < 0) = decide (kk x < kk y) := by
  unfold bitemp_Merge_2_0
  have := cmp_neg (x.getD 4 0) (y.getD 4 0)
  unfold kk
  by_cases h : x.getD 4 0 < y.getD 4 0
  · rw [decide_eq_true h, decide_eq_true (this.2 h)]
  · rw [decide_eq_false h, decide_eq_false (fun e => h (this.1 e))]
theorem w64 {x : Int} (h : -4611686018427387904 ≤ x ∧ x ≤ 4611686018427387904) : IntKind.i64.wrap x = x := i64_wrap (by omega)
theorem swp_len (l : List (List Int)) (i j : Nat) : (swp l i j).length = l.length := by simp [swp]
theorem mem_of_getD {l : List (List Int)} {i : Nat} (hi : i < l.length) : l.getD i [] ∈ l := by
  rw [List.getD_eq_getElem?_getD, List.getElem?_eq_getElem hi]; exact List.getElem_mem hi
theorem swp_all5 {l : List (List Int)} (h : All5 l) {i j : Nat} (hi : i < l.length) (hj : j < l.length) : All5 (swp l i j) := by
  intro r hr
  unfold swp at hr
  rcases List.mem_or_eq_of_mem_set hr with hr | rfl
  · rcases List.mem_or_eq_of_mem_set hr with hr | rfl
    · exact h r hr
    · exact all5_get h hj
  · exact all5_get h hi
theorem inR_nat {i : Nat} {l : List (List Int)} (h : i < l.length) : inR (i : Int) l := by unfold inR; omega

/-- Neighbours exchanged. -/
theorem swp_mid (P Q : List (List Int)) (x y : List Int) : swp (P ++ y :: x :: Q) (P.length + 1) P.length = P ++ x :: y :: Q := by
  have e1 : (P ++ y :: x :: Q).getD P.length [] = y := by simp [List.getD_eq_getElem?_getD]
  have e2 : (P ++ y :: x :: Q).getD (P.length + 1) [] = x := by
    rw [List.getD_eq_getElem?_getD, List.getElem?_append_right (by omega)]
    simp
  unfold swp
  rw [e1, e2]
  apply List.ext_getElem?
  intro t
  simp only [List.getElem?_set, List.length_append, List.length_cons, List.length_set]
  by_cases h1 : P.length = t
  · subst h1; simp
  · by_cases h2 : P.length + 1 = t
    · subst h2
      rw [if_neg h1, if_pos rfl, if_pos (by omega), List.getElem?_append_right (by omega)]
      simp
    · rw [if_neg h1, if_neg h2]
      by_cases h3 : t < P.length
      · rw [List.getElem?_append_left h3, List.getElem?_append_left h3]
      · rw [List.getElem?_append_right (by omega), List.getElem?_append_right (by omega)]
        obtain ⟨d, hd⟩ : ∃ d, t - P.length = d + 2 := ⟨t - P.length - 2, by omega⟩
        rw [hd]; simp
theorem swp_comm (l : List (List Int)) {i j : Nat} (h : i ≠ j) : swp l i j = swp l j i := by
  unfold swp
  rw [List.set_comm _ _ h]
/-- The i-th element moved down to place j. -/
def dnm (l : List (List Int)) (j i : Nat) : List (List Int) := l.take j ++ l.getD i [] :: (seg l j i ++ l.drop (i + 1))
theorem dn_self (l : List (List Int)) {i : Nat} (h : i < l.length) : dnm l i i = l := by
  unfold dnm
  rw [seg_nil l (Nat.le_refl i), List.nil_append, List.getD_eq_getElem?_getD, List.getElem?_eq_getElem h, Option.getD_some, List.getElem_cons_drop, List.take_append_drop]
theorem dn_len (l : List (List Int)) {i j : Nat} (hj : j ≤ i) (h : i < l.length) : (dnm l j i).length = l.length := by
  unfold dnm
  simp only [List.length_append, List.length_cons, List.length_take, List.length_drop, seg_len l (show i ≤ l.length by omega)]
  omega
theorem dn_at (l : List (List Int)) {i j : Nat} (hj : j ≤ i) (h : i < l.length) : (dnm l j i).getD j [] = l.getD i [] := by
  unfold dnm
  rw [List.getD_eq_getElem?_getD, List.getElem?_append_right (by simp; omega)]
  simp [show j - min j l.length = 0 by omega]
theorem dn_lo (l : List (List Int)) {i j t : Nat} (hj : j ≤ i) (h : i < l.length) (ht : t < j) : (dnm l j i).getD t [] = l.getD t [] := by
  unfold dnm
  rw [List.getD_eq_getElem?_getD, List.getElem?_append_left (by simp; omega), List.getElem?_take_of_lt ht, ← List.getD_eq_getElem?_getD]
theorem dn_step (l : List (List Int)) {i j : Nat} (hj : j < i) (h : i < l.length) : swp (dnm l (j + 1) i) (j + 1) j = dnm l j i := by
  have e1 : l.take (j + 1) = l.take j ++ [l.getD j []] := by
    rw [← seg_zero, ← seg_zero, seg_snoc [] l (Nat.zero_le j) (by omega)]
  have e2 : seg l j i = l.getD j [] :: seg l (j + 1) i := seg_cons [] l hj (by omega)
  have hl : (l.take j).length = j := by simp; omega
  unfold dnm
  rw [e1, e2, List.append_assoc, List.singleton_append]
  have := swp_mid (l.take j) (seg l (j + 1) i ++ l.drop (i + 1)) (l.getD i []) (l.getD j [])
  rw [hl] at this
  rw [this]
  simp
theorem dn_all5 {l : List (List Int)} (h : All5 l) {i j : Nat} (hi : i < l.length) : All5 (dnm l j i) := by
  intro r hr
  unfold dnm at hr
  rcases List.mem_append.1 hr with hr | hr
  · exact h r (List.mem_of_mem_take hr)
  · rcases List.mem_cons.1 hr with rfl | hr
    · exact all5_get h hi
    · rcases List.mem_append.1 hr with hr | hr
      · exact h r (List.mem_of_mem_take (List.mem_of_mem_drop hr))
      · exact h r (List.mem_of_mem_drop hr)
/-- Moved down behind what is not greater, ahead of what is: the part is merged. -/
theorem dn_mrg {l : List (List Int)} {a j i : Nat} (ha : a ≤ j) (hj : j ≤ i) (hi : i < l.length) (hs : Srt kk (seg l a i)) (h1 : ∀ x ∈ seg l a j, kk x ≤ kk (l.getD i [])) (h2 : ∀ x ∈ seg l j i, kk (l.getD i []) < kk x) :
    Mrg kk a (i + 1) l (dnm l j i) := by
  have hA : Srt kk (seg l a j ++ seg l j i) := by rw [← seg_app l ha hj]; exact hs
  have hsA := srt_append.1 hA
  have F := merge_parts (k := kk) (A1 := seg l a j) (A2 := seg l j i) (B1 := [l.getD i []]) (B2 := []) (C1 := seg l a j ++ [l.getD i []]) (C2 := seg l j i) hA (by simp [Srt]) (by simp)
    (fun x hx y hy => by rw [List.mem_singleton.1 hy]; exact h2 x hx) (SameBy.refl _) (srt_append.2 ⟨hsA.1, by simp [Srt], fun x hx y hy => by rw [List.mem_singleton.1 hy]; exact h1 x hx⟩) (by rw [List.append_nil]; exact SameBy.refl _) hsA.2.1
  have e1 : seg l a (i + 1) = (seg l a j ++ seg l j i) ++ ([l.getD i []] ++ []) := by rw [← seg_app l ha hj, List.append_nil]; exact seg_snoc [] l (by omega) hi
  have ht : (dnm l j i).take (i + 1) = l.take j ++ l.getD i [] :: seg l j i := by
    have e : dnm l j i = (l.take j ++ l.getD i [] :: seg l j i) ++ l.drop (i + 1) := by unfold dnm; simp
    rw [e]
    exact List.take_left' (by simp [seg_len l (show i ≤ l.length by omega)]; omega)
  have hd : (dnm l j i).drop (i + 1) = l.drop (i + 1) := by
    have e : dnm l j i = (l.take j ++ l.getD i [] :: seg l j i) ++ l.drop (i + 1) := by unfold dnm; simp
    rw [e]
    exact List.drop_left' (by simp [seg_len l (show i ≤ l.length by omega)]; omega)
  have e2 : seg (dnm l j i) a (i + 1) = (seg l a j ++ [l.getD i []]) ++ seg l j i := by
    show ((dnm l j i).take (i + 1)).drop a = _
    rw [ht, List.drop_append_of_le_length (by simp; omega)]
    show seg l a j ++ l.getD i [] :: seg l j i = _
    simp
  have hlo : (dnm l j i).take a = l.take a := by
    unfold dnm
    rw [List.take_append_of_le_length (by simp; omega), List.take_take, Nat.min_eq_left ha]
  exact ⟨dn_len l hj hi, hlo, hd, by rw [e2, e1]; exact F.1, by rw [e2]; exact F.2⟩

/-! ### insertion -/
theorem ins_l1_eq (a j : Nat) (b : Int) (data : List (List Int)) (y0 : List U) (L : List (List Int)) (hL : All5 L) (hj : j < L.length) (hl : L.length < 4611686018427387904) :
    ins_l1_step (a : Int) b data y0 [.i (j : Int), .r L] = if a < j ∧ kk (L.getD j []) < kk (L.getD (j - 1) []) then some (0, [.i ((j - 1 : Nat) : Int), .r (swp L j (j - 1))]) else some (2, [.i (j : Int), .r L]) := by
  unfold ins_l1_step ins_s0 ins_s5 ins_s4 ins_s3 ins_s2 ins_s1
  simp only [gi_z, gr_1, gr_z]
  by_cases ha : a < j
  · have w1 : IntKind.i64.wrap ((j : Int) - 1) = ((j - 1 : Nat) : Int) := by rw [w64 (by omega)]; omega
    have d1 : decide ((j : Int) > (a : Int)) = true := decide_eq_true (by omega)
    rw [w1]
    simp only [Int.toNat_natCast, d1, true_implies, Bool.true_and]
    have r1 : inR (j : Int) L := inR_nat hj
    have r2 : inR ((j - 1 : Nat) : Int) L := inR_nat (by omega)
    have r3 : ∀ x, inR ((j - 1 : Nat) : Int) (L.set j x) := fun x => inR_nat (by simp; omega)
    rw [guardP_true r1, guardP_true r1, guardP_true r2, guardP_true r2, merge2_neg, five (all5_get hL (show j - 1 < L.length by omega)), five (all5_get hL hj)]
    by_cases hk : kk (L.getD j []) < kk (L.getD (j - 1) [])
    · rw [decide_eq_true hk, if_pos ⟨ha, hk⟩, cond_true, guardP_true r2, guardP_true r2, guardP_true r1, guardP_true r1, guardP_true r1, guardP_true r1, guardP_true (r3 _), guardP_true (r3 _)]
      rfl
    · rw [decide_eq_false hk, if_neg (fun h => hk h.2), cond_false]
  · have d1 : decide ((j : Int) > (a : Int)) = false := decide_eq_false (by omega)
    simp only [d1]
    rw [guardP_true (fun h => by cases h), guardP_true (fun h => by cases h), guardP_true (fun h => by cases h), guardP_true (fun h => by cases h), if_neg (fun h => ha h.1)]
    rfl
theorem ins_l1_go {l : List (List Int)} (h5 : All5 l) (hl : l.length < 4611686018427387904) {a i : Nat} (hi : i < l.length) (b : Int) (data : List (List Int)) (y0 : List U) :
    ∀ d j, j = a + d → j ≤ i → (∀ x ∈ seg l j i, kk (l.getD i []) < kk x) → Srt kk (seg l a i) →
      ∃ n j', a ≤ j' ∧ j' ≤ i ∧ iterO (ins_l1_step (a : Int) b data y0) n [.i (j : Int), .r (dnm l j i)] = some (2, [.i (j' : Int), .r (dnm l j' i)]) ∧ (∀ x ∈ seg l a j', kk x ≤ kk (l.getD i [])) ∧ (∀ x ∈ seg l j' i, kk (l.getD i []) < kk x)
  | 0, j, hj, hji, hx, hs => by
    have hj : j = a := hj
    subst hj
    have e := ins_l1_eq j j b data y0 (dnm l j i) (dn_all5 h5 hi) (by rw [dn_len l hji hi]; omega) (by rw [dn_len l hji hi]; exact hl)
    rw [if_neg (by omega)] at e
    exact ⟨1, j, Nat.le_refl _, hji, iter_out e, by rw [seg_nil l (Nat.le_refl j)]; simp, hx⟩
  | d + 1, j, hj, hji, hx, hs => by
    have e := ins_l1_eq a j b data y0 (dnm l j i) (dn_all5 h5 hi) (by rw [dn_len l hji hi]; omega) (by rw [dn_len l hji hi]; exact hl)
    rw [dn_at l hji hi, dn_lo l hji hi (show j - 1 < j by omega)] at e
    by_cases hk : kk (l.getD i []) < kk (l.getD (j - 1) [])
    · rw [if_pos ⟨by omega, hk⟩] at e
      have hst := dn_step l (show j - 1 < i by omega) hi
      rw [show j - 1 + 1 = j by omega] at hst
      rw [hst] at e
      obtain ⟨n, j', g1, g2, g3, g4, g5⟩ := ins_l1_go h5 hl hi b data y0 d (j - 1) (by omega) (by omega) (by
        intro x hx'
        rw [seg_cons [] l (show j - 1 < i by omega) (by omega), show j - 1 + 1 = j by omega] at hx'
        rcases List.mem_cons.1 hx' with rfl | hx'
        · exact hk
        · exact hx x hx') hs
      exact ⟨n + 1, j', g1, g2, iter_next e g3, g4, g5⟩
    · rw [if_neg (fun h => hk h.2)] at e
      refine ⟨1, j, by omega, hji, iter_out e, ?_, hx⟩
      intro x hx'
      obtain ⟨t, t1, t2, rfl⟩ := mem_seg [] (show j ≤ l.length by omega) hx'
      have := (srt_seg [] (show i ≤ l.length by omega)).1 hs
      by_cases ht : t = j - 1
      · subst ht; omega
      · have := this t (j - 1) t1 (by omega) (by omega); omega
theorem mrg_all5 {a b : Nat} {l l' : List (List Int)} (h : Mrg kk a b l l') (hab : a ≤ b) (h5 : All5 l) : All5 l' := by
  intro r hr
  rw [seg_split l' hab] at hr
  rcases List.mem_append.1 hr with hr | hr
  · rcases List.mem_append.1 hr with hr | hr
    · rw [h.lo] at hr; exact h5 r (List.mem_of_mem_take hr)
    · have := (h.same.mem (x := r)).1 hr
      exact h5 r (List.mem_of_mem_take (List.mem_of_mem_drop this))
  · rw [h.hi] at hr; exact h5 r (List.mem_of_mem_drop hr)
/-- The insertion sort of a part. -/
theorem ins_is {l : List (List Int)} (h5 : All5 l) (hl : l.length < 4611686018427387904) {a b : Nat} (hab : a ≤ b) (hb : b ≤ l.length) : ins_pre (a : Int) (b : Int) l ∧ Mrg kk a b l (ins_0 (a : Int) (b : Int) l) := by
  unfold ins_pre ins_0 ins_l0
  have key : ∀ d i L, b - i ≤ d → a < i → i ≤ b ∨ i = a + 1 → All5 L → Mrg kk a (min i b) l L → (∃ n L', iterO (ins_l0_step (a : Int) (b : Int) l) n [.i (i : Int), .r L] = some (2, [.i ((max i b : Nat) : Int), .r L']) ∧ Mrg kk a b l L') := by
    intro d
    induction d with
    | zero =>
      intro i L hd hai hib h5L hM
      have hmin : min i b = b := by omega
      have hmax : max i b = i := by omega
      rw [hmin] at hM
      refine ⟨1, L, ?_, hM⟩
      apply iter_out
      unfold ins_l0_step
      simp only [gi_z, gr_1, gr_z]
      rw [decide_eq_false (by omega), hmax]; rfl
    | succ d ih =>
      intro i L hd hai hib h5L hM
      by_cases hlt : i < b
      · have hmin : min i b = i := by omega
        rw [hmin] at hM
        have hLl : L.length = l.length := hM.len
        obtain ⟨n, j', g1, g2, g3, g4, g5⟩ := ins_l1_go (l := L) h5L (by omega) (a := a) (i := i) (by omega) (b : Int) l [.i (i : Int), .r L] (i - a) i (by omega) (Nat.le_refl i) (by rw [seg_nil L (Nat.le_refl i)]; simp) hM.srt
        rw [dn_self L (by omega)] at g3
        obtain ⟨k1, k2⟩ := loop_is g3
        have hM1 := dn_mrg g1 g2 (show i < L.length by omega) hM.srt g4 g5
        have hstep : ins_l0_step (a : Int) (b : Int) l [.i (i : Int), .r L] = some (0, [.i ((i + 1 : Nat) : Int), .r (dnm L j' i)]) := by
          unfold ins_l0_step ins_l1 ins_l1_init
          simp only [gi_z, gr_1, gr_z]
          rw [decide_eq_true (by omega), cond_true, guardP_true k1, k2]
          simp only [gr_1, gr_z]
          rw [w64 (by omega)]
          rfl
        have hM2 : Mrg kk a (min (i + 1) b) l (dnm L j' i) := by
          rw [show min (i + 1) b = i + 1 by omega]
          refine ⟨hM1.len.trans hM.len, hM1.lo.trans hM.lo, ?_, ?_, hM1.srt⟩
          · have e : ∀ x : List (List Int), x.drop (i + 1) = (x.drop i).drop 1 := fun x => by rw [List.drop_drop]
            rw [hM1.hi, e L, hM.hi, ← e l]
          · have e1 : seg L a (i + 1) = seg L a i ++ [L.getD i []] := seg_snoc [] L (by omega) (by omega)
            have e2 : seg l a (i + 1) = seg l a i ++ [l.getD i []] := seg_snoc [] l (by omega) (by omega)
            have e3 : L.getD i [] = l.getD i [] := by
              have := congrArg (fun x : List (List Int) => x.getD 0 []) hM.hi
              simpa [List.getD_eq_getElem?_getD, List.getElem?_drop] using this
            have := hM1.same
            rw [e1, e3] at this
            rw [e2]
            exact this.trans (hM.same.append (SameBy.refl _))
        obtain ⟨n', L', q1, q2⟩ := ih (i + 1) (dnm L j' i) (by omega) (by omega) (.inl (by omega)) (dn_all5 h5L (by omega)) hM2
        refine ⟨n' + 1, L', iter_next hstep ?_, q2⟩
        rw [q1, show max (i + 1) b = max i b by omega]
      · have hmin : min i b = b := by omega
        have hmax : max i b = i := by omega
        rw [hmin] at hM
        refine ⟨1, L, ?_, hM⟩
        apply iter_out
        unfold ins_l0_step
        simp only [gi_z, gr_1, gr_z]
        rw [decide_eq_false (by omega), hmax]; rfl
  have h0 : Mrg kk a (min (a + 1) b) l l := by
    refine ⟨rfl, rfl, rfl, SameBy.refl _, ?_⟩
    by_cases h : a < b
    · rw [show min (a + 1) b = a + 1 by omega, seg_snoc [] l (Nat.le_refl a) (by omega), seg_nil l (Nat.le_refl a)]
      simp [Srt]
    · rw [seg_nil l (by omega)]; simp [Srt]
  obtain ⟨n, L', q1, q2⟩ := key (b - (a + 1)) (a + 1) l (Nat.le_refl _) (Nat.lt_succ_self a) (.inr rfl) h5 h0
  have e0 : ins_l0_init (a : Int) (b : Int) l = [.i ((a + 1 : Nat) : Int), .r l] := by
    unfold ins_l0_init
    rw [w64 (by omega)]; rfl
  rw [e0]
  obtain ⟨k1, k2⟩ := loop_is q1
  refine ⟨k1, ?_⟩
  rw [k2]
  simp only [gr_1, gr_z]
  exact q2

/-! ### exchange of parts -/
abbrev Rows := Nat → List Int
/-- a list as a function -/
def fnr (l : List (List Int)) : Rows := fun t => l.getD t []
theorem fn_ext {l l' : List (List Int)} (hl : l.length = l'.length) (h : ∀ t, t < l.length → fnr l t = fnr l' t) : l = l' := by
  apply List.ext_getElem hl
  intro t h1 h2
  have := h t h1
  unfold fnr at this
  rw [List.getD_eq_getElem?_getD, List.getD_eq_getElem?_getD, List.getElem?_eq_getElem h1, List.getElem?_eq_getElem h2] at this
  exact this
theorem swp_fn {L : List (List Int)} {i j : Nat} (hi : i < L.length) (hj : j < L.length) (t : Nat) : fnr (swp L i j) t = if t = j then fnr L i else if t = i then fnr L j else fnr L t := by
  unfold fnr swp
  simp only [List.getD_eq_getElem?_getD, List.getElem?_set, List.length_set]
  by_cases h1 : j = t
  · rw [if_pos h1, if_pos hj, if_pos h1.symm]; rfl
  · rw [if_neg h1, if_neg (Ne.symm h1)]
    by_cases h2 : i = t
    · rw [if_pos h2, if_pos hi, if_pos h2.symm]; rfl
    · rw [if_neg h2, if_neg (Ne.symm h2)]
/-- Two parts of n elements exchanged. -/
def SW (a b n : Nat) (f : Rows) : Rows := fun t => if a ≤ t ∧ t < a + n then f (t - a + b) else if b ≤ t ∧ t < b + n then f (t - b + a) else f t
/-- Two neighbouring parts exchanged. -/
def RT (x y z : Nat) (f : Rows) : Rows := fun t => if x ≤ t ∧ t < x + (z - y) then f (t + (y - x)) else if x + (z - y) ≤ t ∧ t < z then f (t - (z - y)) else f t
theorem swr_l0_eq (a b n i : Nat) (data : List (List Int)) (L : List (List Int)) (hL : All5 L) (hl : L.length < 4611686018427387904) (ha : a + n ≤ b) (hb : b + n ≤ L.length) :
    swr_l0_step (a : Int) (b : Int) (n : Int) data [.i (i : Int), .r L] = if i < n then some (0, [.i ((i + 1 : Nat) : Int), .r (swp L (a + i) (b + i))]) else some (2, [.i (i : Int), .r L]) := by
  unfold swr_l0_step swr_s5 swr_s4 swr_s3 swr_s2 swr_s1 swr_s0
  simp only [gi_z, gr_1, gr_z]
  by_cases hi : i < n
  · have w1 : IntKind.i64.wrap ((b : Int) + (i : Int)) = ((b + i : Nat) : Int) := by rw [w64 (by omega)]; omega
    have w2 : IntKind.i64.wrap ((a : Int) + (i : Int)) = ((a + i : Nat) : Int) := by rw [w64 (by omega)]; omega
    have w3 : IntKind.i64.wrap ((i : Int) + 1) = ((i + 1 : Nat) : Int) := by rw [w64 (by omega)]; omega
    rw [w1, w2, w3]
    simp only [Int.toNat_natCast]
    have r1 : inR ((b + i : Nat) : Int) L := inR_nat (by omega)
    have r2 : inR ((a + i : Nat) : Int) L := inR_nat (by omega)
    have r3 : ∀ x, inR ((b + i : Nat) : Int) (L.set (a + i) x) := fun x => inR_nat (by simp; omega)
    rw [decide_eq_true (show (i : Int) < (n : Int) by omega), cond_true, if_pos hi, guardP_true r1, guardP_true r1, guardP_true r2, guardP_true r2, guardP_true r2, guardP_true r2, guardP_true (r3 _), guardP_true (r3 _),
      five (all5_get hL (show b + i < L.length by omega)), five (all5_get hL (show a + i < L.length by omega))]
    rfl
  · rw [decide_eq_false (by omega), if_neg hi]; rfl
theorem swr_is {l : List (List Int)} (h5 : All5 l) (hl : l.length < 4611686018427387904) {a b n : Nat} (ha : a + n ≤ b) (hb : b + n ≤ l.length) :
    swr_pre (a : Int) (b : Int) (n : Int) l ∧ (swr_0 (a : Int) (b : Int) (n : Int) l).length = l.length ∧ All5 (swr_0 (a : Int) (b : Int) (n : Int) l) ∧ fnr (swr_0 (a : Int) (b : Int) (n : Int) l) = SW a b n (fnr l) := by
  unfold swr_pre swr_0 swr_l0
  have key : ∀ d i L, i + d = n → All5 L → L.length = l.length → fnr L = SW a b i (fnr l) → ∃ m L', iterO (swr_l0_step (a : Int) (b : Int) (n : Int) l) m [.i (i : Int), .r L] = some (2, [.i (n : Int), .r L']) ∧ All5 L' ∧ L'.length = l.length ∧ fnr L' = SW a b n (fnr l) := by
    intro d
    induction d with
    | zero =>
      intro i L hi h5L hlen hf
      obtain rfl : i = n := by omega
      have e := swr_l0_eq a b i i l L h5L (by omega) ha (by omega)
      rw [if_neg (by omega)] at e
      exact ⟨1, L, iter_out e, h5L, hlen, hf⟩
    | succ d ih =>
      intro i L hi h5L hlen hf
      have e := swr_l0_eq a b n i l L h5L (by omega) ha (by omega)
      rw [if_pos (by omega)] at e
      obtain ⟨m, L', q1, q2, q3, q4⟩ := ih (i + 1) (swp L (a + i) (b + i)) (by omega) (swp_all5 h5L (by omega) (by omega)) (by rw [swp_len]; exact hlen) (by
        funext t
        rw [swp_fn (by omega) (by omega), hf]
        unfold SW
        repeat' split
        all_goals first | rfl | (congr 1; omega) | omega)
      exact ⟨m + 1, L', iter_next e q1, q2, q3, q4⟩
  have h0 : fnr l = SW a b 0 (fnr l) := by
    funext t
    unfold SW
    repeat' split
    all_goals first | rfl | omega
  obtain ⟨m, L', q1, q2, q3, q4⟩ := key n 0 l (by omega) h5 rfl h0
  obtain ⟨k1, k2⟩ := loop_is q1
  have e0 : swr_l0_init (a : Int) (b : Int) (n : Int) l = [.i ((0 : Nat) : Int), .r l] := rfl
  rw [e0]
  refine ⟨k1, ?_⟩
  rw [k2]
  simp only [gr_1, gr_z]
  exact ⟨q3, q2, q4⟩
theorem rt_left {m i j : Nat} (hm : i ≤ m) (h : j < i) (f : Rows) : RT (m - (i - j)) m (m + j) (SW (m - i) m j f) = RT (m - i) m (m + j) f := by
  funext t
  unfold RT SW
  repeat' split
  all_goals first | rfl | (congr 1; omega) | omega
theorem rt_right {m i j : Nat} (hm : i ≤ m) (h : i < j) (f : Rows) : RT (m - i) m (m + (j - i)) (SW (m - i) (m + j - i) i f) = RT (m - i) m (m + j) f := by
  funext t
  unfold RT SW
  repeat' split
  all_goals first | rfl | (congr 1; omega) | omega
theorem rt_eq {m i : Nat} (hm : i ≤ m) (f : Rows) : SW (m - i) m i f = RT (m - i) m (m + i) f := by
  funext t
  unfold RT SW
  repeat' split
  all_goals first | rfl | (congr 1; omega) | omega
theorem rot_is {l : List (List Int)} (h5 : All5 l) (hl : l.length < 4611686018427387904) {a m b : Nat} (ha : a < m) (hm : m < b) (hb : b ≤ l.length) :
    rot_pre (a : Int) (m : Int) (b : Int) l ∧ Rot a m b l (rot_0 (a : Int) (m : Int) (b : Int) l) ∧ All5 (rot_0 (a : Int) (m : Int) (b : Int) l) := by
  have key : ∀ d i j L, i + j ≤ d → 0 < i → 0 < j → i ≤ m → m + j ≤ l.length → All5 L → L.length = l.length → RT (m - i) m (m + j) (fnr L) = RT a m b (fnr l) →
      ∃ (n i' : Nat) (L' : List (List Int)), iterO (rot_l0_step (a : Int) (m : Int) (b : Int) l) n [.i (i : Int), .i (j : Int), .r L] = some (3, [.i (i' : Int), .i (i' : Int), .r L']) ∧ 0 < i' ∧ i' ≤ m ∧ m + i' ≤ l.length ∧ All5 L' ∧ L'.length = l.length ∧ RT (m - i') m (m + i') (fnr L') = RT a m b (fnr l) := by
    intro d
    induction d with
    | zero => intro i j L h h1; omega
    | succ d ih =>
      intro i j L hd h1 h2 h3 h4 h5L hlen hR
      by_cases hij : i = j
      · subst hij
        refine ⟨1, i, L, iter_out ?_, h1, h3, h4, h5L, hlen, hR⟩
        unfold rot_l0_step
        simp only [gi_z, gi_1, gr_1, gr_2, gr_z, bne_self_eq_false, cond_false]
      · have hne : ((i : Int) != (j : Int)) = true := by simp; omega
        by_cases hgt : j < i
        · have w1 : IntKind.i64.wrap ((m : Int) - (i : Int)) = ((m - i : Nat) : Int) := by rw [w64 (by omega)]; omega
          have w2 : IntKind.i64.wrap ((i : Int) - (j : Int)) = ((i - j : Nat) : Int) := by rw [w64 (by omega)]; omega
          obtain ⟨s1, s2, s3, s4⟩ := swr_is h5L (by omega) (a := m - i) (b := m) (n := j) (by omega) (by omega)
          have hstep : rot_l0_step (a : Int) (m : Int) (b : Int) l [.i (i : Int), .i (j : Int), .r L] = some (0, [.i ((i - j : Nat) : Int), .i (j : Int), .r (swr_0 ((m - i : Nat) : Int) (m : Int) (j : Int) L)]) := by
            unfold rot_l0_step
            simp only [gi_z, gi_1, gr_1, gr_2, gr_z]
            rw [hne, cond_true, decide_eq_true (by omega), cond_true, w1, w2, guardP_true s1]
          obtain ⟨n, i', L', q⟩ := ih (i - j) j _ (by omega) (by omega) h2 (by omega) h4 s3 (s2.trans hlen) (by rw [s4, rt_left h3 hgt]; exact hR)
          exact ⟨n + 1, i', L', iter_next hstep q.1, q.2⟩
        · have w1 : IntKind.i64.wrap ((m : Int) - (i : Int)) = ((m - i : Nat) : Int) := by rw [w64 (by omega)]; omega
          have w3 : IntKind.i64.wrap ((m : Int) + (j : Int)) = ((m + j : Nat) : Int) := by rw [w64 (by omega)]; omega
          have w4 : IntKind.i64.wrap (((m + j : Nat) : Int) - (i : Int)) = ((m + j - i : Nat) : Int) := by rw [w64 (by omega)]; omega
          have w2 : IntKind.i64.wrap ((j : Int) - (i : Int)) = ((j - i : Nat) : Int) := by rw [w64 (by omega)]; omega
          obtain ⟨s1, s2, s3, s4⟩ := swr_is h5L (by omega) (a := m - i) (b := m + j - i) (n := i) (by omega) (by omega)
          have hstep : rot_l0_step (a : Int) (m : Int) (b : Int) l [.i (i : Int), .i (j : Int), .r L] = some (0, [.i (i : Int), .i ((j - i : Nat) : Int), .r (swr_0 ((m - i : Nat) : Int) ((m + j - i : Nat) : Int) (i : Int) L)]) := by
            unfold rot_l0_step
            simp only [gi_z, gi_1, gr_1, gr_2, gr_z]
            rw [hne, cond_true, decide_eq_false (by omega), cond_false, w1, w2, w3, w4, guardP_true s1]
          obtain ⟨n, i', L', q⟩ := ih i (j - i) _ (by omega) h1 (by omega) h3 (by omega) s3 (s2.trans hlen) (by rw [s4, rt_right h3 (by omega)]; exact hR)
          exact ⟨n + 1, i', L', iter_next hstep q.1, q.2⟩
  have e0 : rot_l0_init (a : Int) (m : Int) (b : Int) l = [.i ((m - a : Nat) : Int), .i ((b - m : Nat) : Int), .r l] := by
    unfold rot_l0_init
    rw [w64 (by omega), w64 (by omega), show ((m : Int) - (a : Int)) = ((m - a : Nat) : Int) by omega, show ((b : Int) - (m : Int)) = ((b - m : Nat) : Int) by omega]
  obtain ⟨n, i, L, q1, q2, q3, q4, q5, q6, q7⟩ := key _ (m - a) (b - m) l (Nat.le_refl _) (by omega) (by omega) (by omega) (by omega) h5 rfl (by
    rw [show m - (m - a) = a by omega, show m + (b - m) = b by omega])
  obtain ⟨k1, k2⟩ := loop_is q1
  have w1 : IntKind.i64.wrap ((m : Int) - (i : Int)) = ((m - i : Nat) : Int) := by rw [w64 (by omega)]; omega
  obtain ⟨s1, s2, s3, s4⟩ := swr_is q5 (by omega) (a := m - i) (b := m) (n := i) (by omega) (by omega)
  unfold rot_pre rot_0 rot_l0
  rw [e0, k2]
  simp only [gi_z, gr_2, gr_1, gr_z]
  rw [w1]
  rw [rt_eq q3, q7] at s4
  refine ⟨⟨k1, s1⟩, ⟨s2.trans q6, ?_, ?_, ?_⟩, s3⟩
  · apply fn_ext
    · simp [s2, q6]
    · intro t ht
      have ht' : t < a := by simp [s2, q6] at ht; omega
      have := congrFun s4 t
      unfold RT at this
      rw [if_neg (by omega), if_neg (by omega)] at this
      unfold fnr at this ⊢
      simp only [List.getD_eq_getElem?_getD, List.getElem?_take_of_lt ht'] at this ⊢
      exact this
  · apply fn_ext
    · simp [s2, q6]
    · intro t ht
      have := congrFun s4 (b + t)
      unfold RT at this
      rw [if_neg (by omega), if_neg (by omega)] at this
      unfold fnr at this ⊢
      simp only [List.getD_eq_getElem?_getD, List.getElem?_drop] at this ⊢
      exact this
  · have hlen1 := seg_len (swr_0 ((m - i : Nat) : Int) (m : Int) (i : Int) L) (a := a) (b := b) (by rw [s2, q6]; exact hb)
    have hl1 := seg_len l (a := m) (b := b) hb
    have hl2 := seg_len l (a := a) (b := m) (by omega)
    apply fn_ext
    · rw [hlen1, List.length_append, hl1, hl2]; omega
    · intro t ht
      rw [hlen1] at ht
      have := congrFun s4 (a + t)
      unfold RT at this
      have e : fnr (seg (swr_0 ((m - i : Nat) : Int) (m : Int) (i : Int) L) a b) t = fnr (swr_0 ((m - i : Nat) : Int) (m : Int) (i : Int) L) (a + t) := seg_get [] _ (by omega)
      rw [e, this]
      by_cases h1 : t < b - m
      · rw [if_pos (by omega)]
        have e2 : fnr (seg l m b ++ seg l a m) t = fnr (seg l m b) t := by
          unfold fnr
          rw [List.getD_eq_getElem?_getD, List.getD_eq_getElem?_getD, List.getElem?_append_left (by omega)]
        rw [e2]
        have e3 : fnr (seg l m b) t = fnr l (m + t) := seg_get [] l (by omega)
        rw [e3]
        congr 1
        omega
      · rw [if_neg (by omega), if_pos (by omega)]
        have e2 : fnr (seg l m b ++ seg l a m) t = fnr (seg l a m) (t - (b - m)) := by
          unfold fnr
          rw [List.getD_eq_getElem?_getD, List.getD_eq_getElem?_getD, List.getElem?_append_right (by omega), hl1]
        rw [e2]
        have e3 : fnr (seg l a m) (t - (b - m)) = fnr l (a + (t - (b - m))) := seg_get [] l (by omega)
        rw [e3]
        congr 1
        omega
end Go.Proofs.Ytcbgjecpnhjlpaa

/-!
  The library's merge of two neighbouring parts in place, at rows of five numbers.
-/
set_option linter.unusedVariables false
set_option linter.unusedSimpArgs false
set_option linter.unusedSectionVars false
set_option maxRecDepth 100000
namespace Go.Proofs.Ytcbgjecpnhjlpaa
open Go Go.Sy

theorem half_eq {x y : Nat} (h : x + y < 4611686018427387904) : IntKind.i64.wrap ((IntKind.u64.wrap (IntKind.i64.wrap ((x : Int) + (y : Int)))).fdiv ((2 : Int) ^ min (Int.toNat (1 : Int)) IntKind.u64.bits)) = (((x + y) / 2 : Nat) : Int) := by
  have e1 : IntKind.i64.wrap ((x : Int) + (y : Int)) = ((x + y : Nat) : Int) := by rw [w64 (by omega)]; omega
  have e2 : IntKind.u64.wrap ((x + y : Nat) : Int) = ((x + y : Nat) : Int) := by
    have : ∀ z : Int, IntKind.u64.wrap z = z % 18446744073709551616 := fun z => rfl
    rw [this]
    omega
  have e3 : (2 : Int) ^ min (Int.toNat (1 : Int)) IntKind.u64.bits = 2 := by decide
  rw [e1, e2, e3, Int.fdiv_eq_ediv_of_nonneg _ (by omega)]
  rw [w64 (by omega)]
  omega
/-- A binary search. -/
theorem bsearch {step : List U → Option (Nat × List U)} (Q : Nat → Prop) {s0 r0 : Nat} (hs : ∀ lo hi, s0 ≤ lo → lo < hi → hi ≤ r0 → (Q ((lo + hi) / 2) ∧ step [.i (lo : Int), .i (hi : Int)] = some (0, [.i (((lo + hi) / 2 + 1 : Nat) : Int), .i (hi : Int)])) ∨
      (¬ Q ((lo + hi) / 2) ∧ step [.i (lo : Int), .i (hi : Int)] = some (0, [.i (lo : Int), .i (((lo + hi) / 2 : Nat) : Int)])))
    (he : ∀ lo : Nat, step [.i (lo : Int), .i (lo : Int)] = some (3, [.i (lo : Int), .i (lo : Int)])) (h : s0 ≤ r0) :
    ∃ s : Nat, s0 ≤ s ∧ s ≤ r0 ∧ (∃ n, iterO step n [.i (s0 : Int), .i (r0 : Int)] = some (3, [.i (s : Int), .i (s : Int)])) ∧ (s0 < s → Q (s - 1)) ∧ (s < r0 → ¬ Q s) := by
  have key : ∀ d lo hi, hi - lo ≤ d → s0 ≤ lo → lo ≤ hi → hi ≤ r0 → (s0 < lo → Q (lo - 1)) → (hi < r0 → ¬ Q hi) → ∃ s : Nat, s0 ≤ s ∧ s ≤ r0 ∧ (∃ n, iterO step n [.i (lo : Int), .i (hi : Int)] = some (3, [.i (s : Int), .i (s : Int)])) ∧ (s0 < s → Q (s - 1)) ∧ (s < r0 → ¬ Q s) := by
    intro d
    induction d with
    | zero =>
      intro lo hi h1 h2 h3 h4 h5 h6
      obtain rfl : lo = hi := by omega
      exact ⟨lo, h2, h4, ⟨1, iter_out (he lo)⟩, h5, h6⟩
    | succ d ih =>
      intro lo hi h1 h2 h3 h4 h5 h6
      by_cases hlt : lo < hi
      · rcases hs lo hi h2 hlt h4 with ⟨q, e⟩ | ⟨q, e⟩
        · obtain ⟨s, g1, g2, ⟨n, g3⟩, g4⟩ := ih ((lo + hi) / 2 + 1) hi (by omega) (by omega) (by omega) h4 (fun _ => by simpa using q) h6
          exact ⟨s, g1, g2, ⟨n + 1, iter_next e g3⟩, g4⟩
        · obtain ⟨s, g1, g2, ⟨n, g3⟩, g4⟩ := ih lo ((lo + hi) / 2) (by omega) h2 (by omega) (by omega) h5 (fun _ => q)
          exact ⟨s, g1, g2, ⟨n + 1, iter_next e g3⟩, g4⟩
      · obtain rfl : lo = hi := by omega
        exact ⟨lo, h2, h4, ⟨1, iter_out (he lo)⟩, h5, h6⟩
  exact key _ s0 r0 (Nat.le_refl _) (Nat.le_refl _) h (Nat.le_refl _) (fun h => absurd h (Nat.lt_irrefl _)) (fun h => absurd h (Nat.lt_irrefl _))

/-- The a-th element moved up to place k. -/
def upm (l : List (List Int)) (a k : Nat) : List (List Int) := l.take a ++ (seg l (a + 1) (k + 1) ++ l.getD a [] :: l.drop (k + 1))
theorem upm_self (l : List (List Int)) {a : Nat} (h : a < l.length) : upm l a a = l := by
  unfold upm
  rw [seg_nil l (Nat.le_refl _), List.nil_append, List.getD_eq_getElem?_getD, List.getElem?_eq_getElem h, Option.getD_some, List.getElem_cons_drop, List.take_append_drop]
theorem upm_len (l : List (List Int)) {a k : Nat} (hj : a ≤ k) (h : k < l.length) : (upm l a k).length = l.length := by
  unfold upm
  simp only [List.length_append, List.length_cons, List.length_take, List.length_drop, seg_len l (show k + 1 ≤ l.length by omega)]
  omega
theorem upm_step (l : List (List Int)) {a k : Nat} (hj : a ≤ k) (h : k + 1 < l.length) : swp (upm l a k) k (k + 1) = upm l a (k + 1) := by
  have e1 : seg l (a + 1) (k + 1 + 1) = seg l (a + 1) (k + 1) ++ [l.getD (k + 1) []] := seg_snoc [] l (by omega) h
  have e2 : l.drop (k + 1) = l.getD (k + 1) [] :: l.drop (k + 1 + 1) := by
    rw [List.getD_eq_getElem?_getD, List.getElem?_eq_getElem h, Option.getD_some, List.getElem_cons_drop]
  have hl : (l.take a ++ seg l (a + 1) (k + 1)).length = k := by
    rw [List.length_append, seg_len l (by omega), List.length_take]; omega
  have e3 : upm l a k = (l.take a ++ seg l (a + 1) (k + 1)) ++ l.getD a [] :: l.getD (k + 1) [] :: l.drop (k + 1 + 1) := by
    unfold upm; rw [e2]; simp
  have := swp_mid (l.take a ++ seg l (a + 1) (k + 1)) (l.drop (k + 1 + 1)) (l.getD (k + 1) []) (l.getD a [])
  rw [hl, ← e3, swp_comm _ (by omega)] at this
  rw [this]
  unfold upm
  rw [e1]
  simp
theorem upm_all5 {l : List (List Int)} (h : All5 l) {a k : Nat} (ha : a < l.length) : All5 (upm l a k) := by
  intro r hr
  unfold upm at hr
  rcases List.mem_append.1 hr with hr | hr
  · exact h r (List.mem_of_mem_take hr)
  · rcases List.mem_append.1 hr with hr | hr
    · exact h r (List.mem_of_mem_take (List.mem_of_mem_drop hr))
    · rcases List.mem_cons.1 hr with rfl | hr
      · exact all5_get h ha
      · exact h r (List.mem_of_mem_drop hr)
theorem upm_mrg {l : List (List Int)} {a i b : Nat} (hi : a + 1 ≤ i) (hib : i ≤ b) (hb : b ≤ l.length) (hs : Srt kk (seg l (a + 1) b)) (h1 : ∀ y ∈ seg l (a + 1) i, kk y < kk (l.getD a [])) (h2 : ∀ y ∈ seg l i b, kk (l.getD a []) ≤ kk y) :
    Mrg kk a b l (upm l a (i - 1)) := by
  have hB : Srt kk (seg l (a + 1) i ++ seg l i b) := by rw [← seg_app l hi hib]; exact hs
  have hsB := srt_append.1 hB
  have F := merge_parts (k := kk) (A1 := []) (A2 := [l.getD a []]) (B1 := seg l (a + 1) i) (B2 := seg l i b) (C1 := seg l (a + 1) i) (C2 := l.getD a [] :: seg l i b) (by simp [Srt]) hB (by simp)
    (fun x hx y hy => by rw [List.mem_singleton.1 hx]; exact h1 y hy) (SameBy.refl _) hsB.1 (SameBy.refl _) (List.pairwise_cons.2 ⟨h2, hsB.2.1⟩)
  have e1 : seg l a b = ([] ++ [l.getD a []]) ++ (seg l (a + 1) i ++ seg l i b) := by rw [← seg_app l hi hib]; exact seg_cons [] l (by omega) hb
  have hk : i - 1 + 1 = i := by omega
  have e : upm l a (i - 1) = (l.take a ++ (seg l (a + 1) i ++ l.getD a [] :: seg l i b)) ++ l.drop b := by
    unfold upm
    rw [hk]
    have : l.drop i = seg l i b ++ l.drop b := by
      rw [seg_drop]
      have := (List.take_append_drop (b - i) (l.drop i)).symm
      rwa [List.drop_drop, show i + (b - i) = b by omega] at this
    rw [this]; simp
  have hlen : (l.take a ++ (seg l (a + 1) i ++ l.getD a [] :: seg l i b)).length = b := by
    simp only [List.length_append, List.length_cons, List.length_take, seg_len l (show i ≤ l.length by omega), seg_len l hb]; omega
  have ht : (upm l a (i - 1)).take b = l.take a ++ (seg l (a + 1) i ++ l.getD a [] :: seg l i b) := by rw [e]; exact List.take_left' hlen
  have hd : (upm l a (i - 1)).drop b = l.drop b := by rw [e]; exact List.drop_left' hlen
  have hla : (l.take a).length = a := by simp; omega
  have e2 : seg (upm l a (i - 1)) a b = seg l (a + 1) i ++ l.getD a [] :: seg l i b := by
    show ((upm l a (i - 1)).take b).drop a = _
    rw [ht, List.drop_left' hla]
  have hlo : (upm l a (i - 1)).take a = l.take a := by
    rw [e, List.append_assoc]
    exact List.take_left' hla
  exact ⟨upm_len l (by omega) (by omega), hlo, hd, by rw [e2, e1]; exact F.1, by rw [e2]; exact F.2⟩

section
variable (pr : Int → Int → Int → List (List Int) → Prop) (g : Int → Int → Int → List (List Int) → List (List Int)) {l : List (List Int)} (h5 : All5 l) (hl : l.length < 2305843009213693952) {a m b : Nat} (ha : a < m) (hm : m < b) (hb : b ≤ l.length)
include h5 hl ha hm hb
theorem sm_l0_is : ∃ s : Nat, m ≤ s ∧ s ≤ b ∧ (∃ n, iterO (sm_l0_step pr g (a : Int) (m : Int) (b : Int) l) n [.i (m : Int), .i (b : Int)] = some (3, [.i (s : Int), .i (s : Int)])) ∧ (m < s → kk (l.getD (s - 1) []) < kk (l.getD a [])) ∧ (s < b → ¬ kk (l.getD s []) < kk (l.getD a [])) := by
  refine bsearch (fun c => kk (l.getD c []) < kk (l.getD a [])) (fun lo hi h1 h2 h3 => ?_) (fun lo => ?_) (by omega)
  · have e : sm_l0_step pr g (a : Int) (m : Int) (b : Int) l [.i (lo : Int), .i (hi : Int)] = bif decide (kk (l.getD ((lo + hi) / 2) []) < kk (l.getD a [])) then some (0, [.i (((lo + hi) / 2 + 1 : Nat) : Int), .i (hi : Int)]) else some (0, [.i (lo : Int), .i (((lo + hi) / 2 : Nat) : Int)]) := by
      unfold sm_l0_step sm_s0
      simp only [gi_z, gi_1]
      rw [half_eq (by omega), decide_eq_true (by omega), cond_true, guardP_true (by decide)]
      simp only [Int.toNat_natCast]
      have r1 : inR (((lo + hi) / 2 : Nat) : Int) l := inR_nat (by omega)
      have r2 : inR (a : Int) l := inR_nat (by omega)
      rw [guardP_true r1, guardP_true r1, guardP_true r2, guardP_true r2, merge2_neg, w64 (by omega)]
      rfl
    by_cases hk : kk (l.getD ((lo + hi) / 2) []) < kk (l.getD a [])
    · rw [decide_eq_true hk] at e; exact .inl ⟨hk, e⟩
    · rw [decide_eq_false hk] at e; exact .inr ⟨hk, e⟩
  · unfold sm_l0_step
    simp only [gi_z, gi_1]
    rw [decide_eq_false (by omega)]; rfl
theorem sm_l2_is : ∃ s : Nat, a ≤ s ∧ s ≤ m ∧ (∃ n, iterO (sm_l2_step pr g (a : Int) (m : Int) (b : Int) l) n [.i (a : Int), .i (m : Int)] = some (3, [.i (s : Int), .i (s : Int)])) ∧ (a < s → ¬ kk (l.getD m []) < kk (l.getD (s - 1) [])) ∧ (s < m → ¬ ¬ kk (l.getD m []) < kk (l.getD s [])) := by
  refine bsearch (fun c => ¬ kk (l.getD m []) < kk (l.getD c [])) (fun lo hi h1 h2 h3 => ?_) (fun lo => ?_) (by omega)
  · have e : sm_l2_step pr g (a : Int) (m : Int) (b : Int) l [.i (lo : Int), .i (hi : Int)] = bif !decide (kk (l.getD m []) < kk (l.getD ((lo + hi) / 2) [])) then some (0, [.i (((lo + hi) / 2 + 1 : Nat) : Int), .i (hi : Int)]) else some (0, [.i (lo : Int), .i (((lo + hi) / 2 : Nat) : Int)]) := by
      unfold sm_l2_step sm_s6
      simp only [gi_z, gi_1]
      rw [half_eq (by omega), decide_eq_true (by omega), cond_true, guardP_true (by decide)]
      simp only [Int.toNat_natCast]
      have r1 : inR (((lo + hi) / 2 : Nat) : Int) l := inR_nat (by omega)
      have r2 : inR (m : Int) l := inR_nat (by omega)
      rw [guardP_true r2, guardP_true r2, guardP_true r1, guardP_true r1, merge2_neg, w64 (by omega)]
      rfl
    by_cases hk : kk (l.getD m []) < kk (l.getD ((lo + hi) / 2) [])
    · rw [decide_eq_true hk] at e; exact .inr ⟨fun h => h hk, e⟩
    · rw [decide_eq_false hk] at e; exact .inl ⟨hk, e⟩
  · unfold sm_l2_step
    simp only [gi_z, gi_1]
    rw [decide_eq_false (by omega)]; rfl
theorem sm_l4_is (hmm : (a + b) / 2 < m) : ∃ s : Nat, (a + b) / 2 + m - b ≤ s ∧ s ≤ (a + b) / 2 ∧ (∃ n, iterO (sm_l4_step pr g (a : Int) (m : Int) (b : Int) l) n [.i (((a + b) / 2 + m - b : Nat) : Int), .i (((a + b) / 2 : Nat) : Int)] = some (3, [.i (s : Int), .i (s : Int)])) ∧
    ((a + b) / 2 + m - b < s → ¬ kk (l.getD ((a + b) / 2 + m - 1 - (s - 1)) []) < kk (l.getD (s - 1) [])) ∧ (s < (a + b) / 2 → ¬ ¬ kk (l.getD ((a + b) / 2 + m - 1 - s) []) < kk (l.getD s [])) := by
  refine bsearch (fun c => ¬ kk (l.getD ((a + b) / 2 + m - 1 - c) []) < kk (l.getD c [])) (fun lo hi h1 h2 h3 => ?_) (fun lo => ?_) (by omega)
  · have e : sm_l4_step pr g (a : Int) (m : Int) (b : Int) l [.i (lo : Int), .i (hi : Int)] = bif !decide (kk (l.getD ((a + b) / 2 + m - 1 - (lo + hi) / 2) []) < kk (l.getD ((lo + hi) / 2) [])) then some (0, [.i (((lo + hi) / 2 + 1 : Nat) : Int), .i (hi : Int)]) else some (0, [.i (lo : Int), .i (((lo + hi) / 2 : Nat) : Int)]) := by
      unfold sm_l4_step sm_s13 sm_s12
      simp only [gi_z, gi_1]
      have w1 : IntKind.i64.wrap ((((a + b) / 2 : Nat) : Int) + (m : Int)) = (((a + b) / 2 + m : Nat) : Int) := by rw [w64 (by omega)]; omega
      have w2 : IntKind.i64.wrap ((((a + b) / 2 + m : Nat) : Int) - 1) = (((a + b) / 2 + m - 1 : Nat) : Int) := by rw [w64 (by omega)]; omega
      have w3 : IntKind.i64.wrap ((((a + b) / 2 + m - 1 : Nat) : Int) - (((lo + hi) / 2 : Nat) : Int)) = (((a + b) / 2 + m - 1 - (lo + hi) / 2 : Nat) : Int) := by rw [w64 (by omega)]; omega
      rw [half_eq (x := lo) (y := hi) (by omega), half_eq (x := a) (y := b) (by omega), w1, w2, w3, decide_eq_true (by omega), cond_true, guardP_true (by decide)]
      simp only [Int.toNat_natCast]
      have r1 : inR (((lo + hi) / 2 : Nat) : Int) l := inR_nat (by omega)
      have r2 : inR (((a + b) / 2 + m - 1 - (lo + hi) / 2 : Nat) : Int) l := inR_nat (by omega)
      rw [guardP_true r2, guardP_true r2, guardP_true r1, guardP_true r1, merge2_neg, w64 (by omega)]
      rfl
    by_cases hk : kk (l.getD ((a + b) / 2 + m - 1 - (lo + hi) / 2) []) < kk (l.getD ((lo + hi) / 2) [])
    · rw [decide_eq_true hk] at e; exact .inr ⟨fun h => h hk, e⟩
    · rw [decide_eq_false hk] at e; exact .inl ⟨hk, e⟩
  · unfold sm_l4_step
    simp only [gi_z, gi_1]
    rw [decide_eq_false (by omega)]; rfl
theorem sm_l5_is (hmm : m ≤ (a + b) / 2) : ∃ s : Nat, a ≤ s ∧ s ≤ m ∧ (∃ n, iterO (sm_l5_step pr g (a : Int) (m : Int) (b : Int) l) n [.i ((a : Nat) : Int), .i ((m : Nat) : Int)] = some (3, [.i (s : Int), .i (s : Int)])) ∧
    (a < s → ¬ kk (l.getD ((a + b) / 2 + m - 1 - (s - 1)) []) < kk (l.getD (s - 1) [])) ∧ (s < m → ¬ ¬ kk (l.getD ((a + b) / 2 + m - 1 - s) []) < kk (l.getD s [])) := by
  refine bsearch (fun c => ¬ kk (l.getD ((a + b) / 2 + m - 1 - c) []) < kk (l.getD c [])) (fun lo hi h1 h2 h3 => ?_) (fun lo => ?_) (by omega)
  · have e : sm_l5_step pr g (a : Int) (m : Int) (b : Int) l [.i (lo : Int), .i (hi : Int)] = bif !decide (kk (l.getD ((a + b) / 2 + m - 1 - (lo + hi) / 2) []) < kk (l.getD ((lo + hi) / 2) [])) then some (0, [.i (((lo + hi) / 2 + 1 : Nat) : Int), .i (hi : Int)]) else some (0, [.i (lo : Int), .i (((lo + hi) / 2 : Nat) : Int)]) := by
      unfold sm_l5_step sm_s17 sm_s16
      simp only [gi_z, gi_1]
      have w1 : IntKind.i64.wrap ((((a + b) / 2 : Nat) : Int) + (m : Int)) = (((a + b) / 2 + m : Nat) : Int) := by rw [w64 (by omega)]; omega
      have w2 : IntKind.i64.wrap ((((a + b) / 2 + m : Nat) : Int) - 1) = (((a + b) / 2 + m - 1 : Nat) : Int) := by rw [w64 (by omega)]; omega
      have w3 : IntKind.i64.wrap ((((a + b) / 2 + m - 1 : Nat) : Int) - (((lo + hi) / 2 : Nat) : Int)) = (((a + b) / 2 + m - 1 - (lo + hi) / 2 : Nat) : Int) := by rw [w64 (by omega)]; omega
      rw [half_eq (x := lo) (y := hi) (by omega), half_eq (x := a) (y := b) (by omega), w1, w2, w3, decide_eq_true (by omega), cond_true, guardP_true (by decide)]
      simp only [Int.toNat_natCast]
      have r1 : inR (((lo + hi) / 2 : Nat) : Int) l := inR_nat (by omega)
      have r2 : inR (((a + b) / 2 + m - 1 - (lo + hi) / 2 : Nat) : Int) l := inR_nat (by omega)
      rw [guardP_true r2, guardP_true r2, guardP_true r1, guardP_true r1, merge2_neg, w64 (by omega)]
      rfl
    by_cases hk : kk (l.getD ((a + b) / 2 + m - 1 - (lo + hi) / 2) []) < kk (l.getD ((lo + hi) / 2) [])
    · rw [decide_eq_true hk] at e; exact .inr ⟨fun h => h hk, e⟩
    · rw [decide_eq_false hk] at e; exact .inl ⟨hk, e⟩
  · unfold sm_l5_step
    simp only [gi_z, gi_1]
    rw [decide_eq_false (by omega)]; rfl
theorem sm_l1_is {s : Nat} (hs : (sm_l0 pr g (a : Int) (m : Int) (b : Int) l).snd = [.i (s : Int), .i (s : Int)]) (h1 : a + 1 ≤ s) (h2 : s ≤ b) : loopOk (sm_l1_step pr g (a : Int) (m : Int) (b : Int) l) (sm_l1_init pr g (a : Int) (m : Int) (b : Int) l) ∧ gr (sm_l1 pr g (a : Int) (m : Int) (b : Int) l).snd 1 = upm l a (s - 1) := by
  have w : IntKind.i64.wrap ((s : Int) - 1) = ((s - 1 : Nat) : Int) := by rw [w64 (by omega)]; omega
  have key : ∀ d k, k + d = s - 1 → a ≤ k → ∃ n, iterO (sm_l1_step pr g (a : Int) (m : Int) (b : Int) l) n [.i (k : Int), .r (upm l a k)] = some (2, [.i ((s - 1 : Nat) : Int), .r (upm l a (s - 1))]) := by
    intro d
    induction d with
    | zero =>
      intro k hk hak
      obtain rfl : k = s - 1 := by omega
      refine ⟨1, iter_out ?_⟩
      unfold sm_l1_step
      simp only [hs, gi_z, gr_1, gr_z]
      rw [w, decide_eq_false (by omega)]; rfl
    | succ d ih =>
      intro k hk hak
      obtain ⟨n, q⟩ := ih (k + 1) (by omega) (by omega)
      refine ⟨n + 1, iter_next ?_ q⟩
      have hU := upm_len l hak (show k < l.length by omega)
      have h5U := upm_all5 h5 (a := a) (k := k) (by omega)
      have w1 : IntKind.i64.wrap ((k : Int) + 1) = ((k + 1 : Nat) : Int) := by rw [w64 (by omega)]; omega
      unfold sm_l1_step sm_s5 sm_s4 sm_s3 sm_s2 sm_s1
      simp only [hs, gi_z, gr_1, gr_z]
      rw [w, w1]
      simp only [Int.toNat_natCast]
      have r1 : inR (k : Int) (upm l a k) := inR_nat (by omega)
      have r2 : inR ((k + 1 : Nat) : Int) (upm l a k) := inR_nat (by omega)
      have r3 : ∀ x, inR ((k + 1 : Nat) : Int) ((upm l a k).set k x) := fun x => inR_nat (by simp; omega)
      rw [decide_eq_true (show (k : Int) < ((s - 1 : Nat) : Int) by omega), cond_true, guardP_true r2, guardP_true r2, guardP_true r1, guardP_true r1, guardP_true r1, guardP_true r1, guardP_true (r3 _), guardP_true (r3 _),
        five (all5_get h5U (show k + 1 < (upm l a k).length by omega)), five (all5_get h5U (show k < (upm l a k).length by omega))]
      have := upm_step l hak (show k + 1 < l.length by omega)
      unfold swp at this
      rw [this]
  obtain ⟨n, q⟩ := key (s - 1 - a) a (by omega) (Nat.le_refl a)
  rw [upm_self l (by omega)] at q
  obtain ⟨k1, k2⟩ := loop_is q
  refine ⟨k1, ?_⟩
  unfold sm_l1
  have e0 : sm_l1_init pr g (a : Int) (m : Int) (b : Int) l = [.i (a : Int), .r l] := rfl
  rw [e0, k2]
  simp only [gr_1, gr_z]
theorem sm_l3_is {s : Nat} (hs : (sm_l2 pr g (a : Int) (m : Int) (b : Int) l).snd = [.i (s : Int), .i (s : Int)]) (h1 : a ≤ s) (h2 : s ≤ m) : loopOk (sm_l3_step pr g (a : Int) (m : Int) (b : Int) l) (sm_l3_init pr g (a : Int) (m : Int) (b : Int) l) ∧ gr (sm_l3 pr g (a : Int) (m : Int) (b : Int) l).snd 1 = dnm l s m := by
  have key : ∀ d k, k = s + d → k ≤ m → ∃ n, iterO (sm_l3_step pr g (a : Int) (m : Int) (b : Int) l) n [.i (k : Int), .r (dnm l k m)] = some (2, [.i (s : Int), .r (dnm l s m)]) := by
    intro d
    induction d with
    | zero =>
      intro k hk hkm
      obtain rfl : k = s := by omega
      refine ⟨1, iter_out ?_⟩
      unfold sm_l3_step
      simp only [hs, gi_z, gr_1, gr_z]
      rw [decide_eq_false (by omega)]; rfl
    | succ d ih =>
      intro k hk hkm
      obtain ⟨n, q⟩ := ih (k - 1) (by omega) (by omega)
      refine ⟨n + 1, iter_next ?_ q⟩
      have hU := dn_len l hkm (show m < l.length by omega)
      have h5U := dn_all5 h5 (j := k) (i := m) (by omega)
      have w1 : IntKind.i64.wrap ((k : Int) - 1) = ((k - 1 : Nat) : Int) := by rw [w64 (by omega)]; omega
      unfold sm_l3_step sm_s11 sm_s10 sm_s9 sm_s8 sm_s7
      simp only [hs, gi_z, gr_1, gr_z]
      rw [w1]
      simp only [Int.toNat_natCast]
      have r1 : inR (k : Int) (dnm l k m) := inR_nat (by omega)
      have r2 : inR ((k - 1 : Nat) : Int) (dnm l k m) := inR_nat (by omega)
      have r3 : ∀ x, inR ((k - 1 : Nat) : Int) ((dnm l k m).set k x) := fun x => inR_nat (by simp; omega)
      rw [decide_eq_true (show (k : Int) > (s : Int) by omega), cond_true, guardP_true r2, guardP_true r2, guardP_true r1, guardP_true r1, guardP_true r1, guardP_true r1, guardP_true (r3 _), guardP_true (r3 _),
        five (all5_get h5U (show k - 1 < (dnm l k m).length by omega)), five (all5_get h5U (show k < (dnm l k m).length by omega))]
      have := dn_step l (show k - 1 < m by omega) (show m < l.length by omega)
      rw [show k - 1 + 1 = k by omega] at this
      unfold swp at this
      rw [this]
  obtain ⟨n, q⟩ := key (m - s) m (by omega) (Nat.le_refl m)
  rw [dn_self l (by omega)] at q
  obtain ⟨k1, k2⟩ := loop_is q
  refine ⟨k1, ?_⟩
  unfold sm_l3
  have e0 : sm_l3_init pr g (a : Int) (m : Int) (b : Int) l = [.i (m : Int), .r l] := rfl
  rw [e0, k2]
  simp only [gr_1, gr_z]
end

theorem srt_sub {l : List (List Int)} {a b c d : Nat} (hb : b ≤ l.length) (h : Srt kk (seg l a b)) (h1 : a ≤ c) (h2 : d ≤ b) : Srt kk (seg l c d) := by
  by_cases hcd : c ≤ d
  · rw [srt_seg [] (by omega)]
    intro i j q1 q2 q3
    exact (srt_seg [] hb).1 h i j (by omega) q2 (by omega)
  · rw [seg_nil l (by omega)]; simp [Srt]
/-- What follows the search. -/
theorem sm_tail (pr : Int → Int → Int → List (List Int) → Prop) (g : Int → Int → Int → List (List Int) → List (List Int)) (n : Nat)
    (ih : ∀ {a m b : Nat} {l : List (List Int)}, b - a ≤ n → All5 l → l.length < 2305843009213693952 → a < m → m < b → b ≤ l.length → Srt kk (seg l a m) → Srt kk (seg l m b) → pr a m b l ∧ Mrg kk a b l (g a m b l))
    {l : List (List Int)} (h5 : All5 l) (hl : l.length < 2305843009213693952) {a m b s e : Nat} (hn : b - a ≤ n + 1) (ha : a < m) (hm : m < b) (hb : b ≤ l.length) (hA : Srt kk (seg l a m)) (hB : Srt kk (seg l m b))
    (h1 : a ≤ s) (h2 : s ≤ m) (h3 : m ≤ e) (h4 : e ≤ b) (he : (a + b) / 2 + m = s + e) (q1 : s ≤ (a + b) / 2) (q2 : (a + b) / 2 ≤ e)
    (c1 : a < s → e < b → ¬ kk (l.getD e []) < kk (l.getD (s - 1) [])) (c2 : s < m → m < e → kk (l.getD (e - 1) []) < kk (l.getD s [])) :
    ∃ L1 L2 L3, ((s < m ∧ m < e) → rot_pre (s : Int) (m : Int) (e : Int) l ∧ L1 = rot_0 (s : Int) (m : Int) (e : Int) l) ∧ (¬ (s < m ∧ m < e) → L1 = l) ∧
      ((a < s ∧ s < (a + b) / 2) → pr a s (((a + b) / 2 : Nat) : Int) L1 ∧ L2 = g a s (((a + b) / 2 : Nat) : Int) L1) ∧ (¬ (a < s ∧ s < (a + b) / 2) → L2 = L1) ∧
      (((a + b) / 2 < e ∧ e < b) → pr (((a + b) / 2 : Nat) : Int) e b L2 ∧ L3 = g (((a + b) / 2 : Nat) : Int) e b L2) ∧ (¬ ((a + b) / 2 < e ∧ e < b) → L3 = L2) ∧ Mrg kk a b l L3 := by
  generalize hmid : (a + b) / 2 = mid at *
  have hab : a + 2 ≤ b := by omega
  have hR : ∃ L1, ((s < m ∧ m < e) → rot_pre (s : Int) (m : Int) (e : Int) l ∧ L1 = rot_0 (s : Int) (m : Int) (e : Int) l) ∧ (¬ (s < m ∧ m < e) → L1 = l) ∧ Rot s m e l L1 ∧ All5 L1 := by
    by_cases hc : s < m ∧ m < e
    · obtain ⟨r1, r2, r3⟩ := rot_is h5 (by omega) hc.1 hc.2 (by omega)
      exact ⟨_, fun _ => ⟨r1, rfl⟩, fun h => absurd hc h, r2, r3⟩
    · refine ⟨l, fun h => absurd h hc, fun _ => rfl, ?_, h5⟩
      by_cases hs : s < m
      · obtain rfl : m = e := by omega
        exact Rot.refl_right l
      · obtain rfl : s = m := by omega
        exact Rot.refl_left l
  obtain ⟨L1, a1, a2, hr, h51⟩ := hR
  have hL1 : L1.length = l.length := hr.len
  have e1 : seg L1 a s = seg l a s := seg_take hr.lo (Nat.le_refl s)
  have e2 : seg L1 e b = seg l e b := seg_dropped hr.hi (Nat.le_refl e)
  have hsplit : seg L1 s mid = seg l m e ∧ seg L1 mid e = seg l s m := by
    have h := hr.is
    rw [seg_app L1 q1 q2] at h
    exact List.append_inj h (by rw [seg_len l (by omega), seg_len L1 (by omega)]; omega)
  have hH1 : ∃ L2, ((a < s ∧ s < mid) → pr a s (mid : Int) L1 ∧ L2 = g a s (mid : Int) L1 ∧ Mrg kk a mid L1 L2) ∧ (¬ (a < s ∧ s < mid) → L2 = L1) ∧ All5 L2 ∧ L2.length = l.length ∧ L2.drop mid = L1.drop mid := by
    by_cases hc : a < s ∧ s < mid
    · obtain ⟨r1, r2⟩ := ih (a := a) (m := s) (b := mid) (l := L1) (by omega) h51 (by omega) hc.1 hc.2 (by omega) (by rw [e1]; exact srt_sub (by omega) hA (Nat.le_refl a) h2) (by rw [hsplit.1]; exact srt_sub hb hB (Nat.le_refl m) h4)
      exact ⟨_, fun _ => ⟨r1, rfl, r2⟩, fun h => absurd hc h, mrg_all5 r2 (by omega) h51, r2.len.trans hL1, r2.hi⟩
    · exact ⟨L1, fun h => absurd h hc, fun _ => rfl, h51, hL1, rfl⟩
  obtain ⟨L2, b1, b2, h52, hL2, hd2⟩ := hH1
  have hH2 : ∃ L3, ((mid < e ∧ e < b) → pr (mid : Int) e b L2 ∧ L3 = g (mid : Int) e b L2 ∧ Mrg kk mid b L2 L3) ∧ (¬ (mid < e ∧ e < b) → L3 = L2) := by
    by_cases hc : mid < e ∧ e < b
    · obtain ⟨r1, r2⟩ := ih (a := mid) (m := e) (b := b) (l := L2) (by omega) h52 (by omega) hc.1 hc.2 (by omega) (by rw [seg_dropped hd2 (Nat.le_refl mid), hsplit.2]; exact srt_sub (by omega) hA h1 (Nat.le_refl m)) (by rw [seg_dropped hd2 (by omega), e2]; exact srt_sub hb hB h3 (Nat.le_refl b))
      exact ⟨_, fun _ => ⟨r1, rfl, r2⟩, fun h => absurd hc h⟩
    · exact ⟨L2, fun h => absurd h hc, fun _ => rfl⟩
  obtain ⟨L3, d1, d2⟩ := hH2
  refine ⟨L1, L2, L3, a1, a2, fun h => ⟨(b1 h).1, (b1 h).2.1⟩, b2, fun h => ⟨(d1 h).1, (d1 h).2.1⟩, d2, ?_⟩
  refine mrg_step hb h1 h2 h3 h4 he q1 q2 hA hB hr ?_ ?_ ⟨fun h => (b1 h).2.2, b2⟩ ⟨fun h => (d1 h).2.2, d2⟩
  · intro x hx y hy
    obtain ⟨i, i1, i2, rfl⟩ := mem_seg [] (show s ≤ l.length by omega) hx
    obtain ⟨j, j1, j2, rfl⟩ := mem_seg [] hb hy
    have hk := c1 (by omega) (by omega)
    have g1 : kk (l.getD i []) ≤ kk (l.getD (s - 1) []) := by
      by_cases hi : i = s - 1
      · rw [hi]; exact Int.le_refl _
      · exact (srt_seg [] (show m ≤ l.length by omega)).1 hA i (s - 1) i1 (by omega) (by omega)
    have g2 : kk (l.getD e []) ≤ kk (l.getD j []) := by
      by_cases hj : j = e
      · rw [hj]; exact Int.le_refl _
      · exact (srt_seg [] hb).1 hB e j h3 (by omega) j2
    omega
  · intro x hx y hy
    obtain ⟨i, i1, i2, rfl⟩ := mem_seg [] (show m ≤ l.length by omega) hx
    obtain ⟨j, j1, j2, rfl⟩ := mem_seg [] (show e ≤ l.length by omega) hy
    have hk := c2 (by omega) (by omega)
    have g1 : kk (l.getD s []) ≤ kk (l.getD i []) := by
      by_cases hi : i = s
      · rw [hi]; exact Int.le_refl _
      · exact (srt_seg [] (show m ≤ l.length by omega)).1 hA s i h1 (by omega) i2
    have g2 : kk (l.getD j []) ≤ kk (l.getD (e - 1) []) := by
      by_cases hj : j = e - 1
      · rw [hj]; exact Int.le_refl _
      · exact (srt_seg [] hb).1 hB j (e - 1) j1 (by omega) (by omega)
    omega
set_option maxHeartbeats 4000000 in
theorem sm_is (pr : Int → Int → Int → List (List Int) → Prop) (g : Int → Int → Int → List (List Int) → List (List Int)) (n : Nat)
    (ih : ∀ {a m b : Nat} {l : List (List Int)}, b - a ≤ n → All5 l → l.length < 2305843009213693952 → a < m → m < b → b ≤ l.length → Srt kk (seg l a m) → Srt kk (seg l m b) → pr a m b l ∧ Mrg kk a b l (g a m b l))
    {l : List (List Int)} (h5 : All5 l) (hl : l.length < 2305843009213693952) {a m b : Nat} (hn : b - a ≤ n + 1) (ha : a < m) (hm : m < b) (hb : b ≤ l.length) (hA : Srt kk (seg l a m)) (hB : Srt kk (seg l m b)) :
    sm_pre pr g (a : Int) (m : Int) (b : Int) l ∧ Mrg kk a b l (sm_0 pr g (a : Int) (m : Int) (b : Int) l) := by
  have hH : IntKind.i64.wrap ((IntKind.u64.wrap (IntKind.i64.wrap ((a : Int) + (b : Int)))).fdiv ((2 : Int) ^ min (Int.toNat (1 : Int)) IntKind.u64.bits)) = (((a + b) / 2 : Nat) : Int) := half_eq (by omega)
  have w1 : IntKind.i64.wrap ((m : Int) - (a : Int)) = ((m - a : Nat) : Int) := by rw [w64 (by omega)]; omega
  have w2 : IntKind.i64.wrap ((b : Int) - (m : Int)) = ((b - m : Nat) : Int) := by rw [w64 (by omega)]; omega
  have w3 : IntKind.i64.wrap ((((a + b) / 2 : Nat) : Int) + (m : Int)) = (((a + b) / 2 + m : Nat) : Int) := by rw [w64 (by omega)]; omega
  have h01 : ((0 : Int) ≤ 1) = True := by simp
  unfold sm_pre sm_0 sm_s35
  rw [w1, w2]
  by_cases hc1 : m - a = 1
  · obtain ⟨s, g1, g2, ⟨k, g3⟩, g4, g5⟩ := sm_l0_is pr g h5 hl ha hm hb
    obtain ⟨k1, k2⟩ := loop_is g3
    have hs2 : (sm_l0 pr g (a : Int) (m : Int) (b : Int) l).snd = [.i (s : Int), .i (s : Int)] := by
      unfold sm_l0
      rw [show sm_l0_init pr g (a : Int) (m : Int) (b : Int) l = [.i (m : Int), .i (b : Int)] from rfl, k2]
    obtain ⟨t1, t2⟩ := sm_l1_is pr g h5 hl ha hm hb hs2 (by omega) g2
    have hd : (((m - a : Nat) : Int) == 1) = true := by rw [hc1]; rfl
    rw [hd, cond_true, t2]
    refine ⟨⟨fun _ => ⟨k1, t1⟩, fun h => by cases h⟩, ?_⟩
    have hma : m = a + 1 := by omega
    refine upm_mrg (by omega) g2 hb (by rw [← hma]; exact hB) ?_ ?_
    · intro y hy
      obtain ⟨j, j1, j2, rfl⟩ := mem_seg [] (show s ≤ l.length by omega) hy
      have := g4 (by omega)
      by_cases hj : j = s - 1
      · rw [hj]; exact this
      · have := (srt_seg [] hb).1 hB j (s - 1) (by omega) (by omega) (by omega); omega
    · intro y hy
      obtain ⟨j, j1, j2, rfl⟩ := mem_seg [] hb hy
      have := g5 (by omega)
      by_cases hj : j = s
      · rw [hj]; omega
      · have := (srt_seg [] hb).1 hB s j g1 (by omega) j2; omega
  · have hd : (((m - a : Nat) : Int) == 1) = false := by simp; omega
    rw [hd, cond_false]
    by_cases hc2 : b - m = 1
    · obtain ⟨s, g1, g2, ⟨k, g3⟩, g4, g5⟩ := sm_l2_is pr g h5 hl ha hm hb
      obtain ⟨k1, k2⟩ := loop_is g3
      have hs2 : (sm_l2 pr g (a : Int) (m : Int) (b : Int) l).snd = [.i (s : Int), .i (s : Int)] := by
        unfold sm_l2
        rw [show sm_l2_init pr g (a : Int) (m : Int) (b : Int) l = [.i (a : Int), .i (m : Int)] from rfl, k2]
      obtain ⟨t1, t2⟩ := sm_l3_is pr g h5 hl ha hm hb hs2 g1 g2
      have hd2 : (((b - m : Nat) : Int) == 1) = true := by rw [hc2]; rfl
      rw [hd2, cond_true, t2]
      refine ⟨⟨fun h => (by cases h), fun _ => ⟨fun _ => ⟨k1, t1⟩, fun h => (by cases h)⟩⟩, ?_⟩
      have hbm : b = m + 1 := by omega
      rw [hbm]
      refine dn_mrg g1 g2 (by omega) hA ?_ ?_
      · intro x hx
        obtain ⟨j, j1, j2, rfl⟩ := mem_seg [] (show s ≤ l.length by omega) hx
        have := g4 (by omega)
        by_cases hj : j = s - 1
        · rw [hj]; omega
        · have := (srt_seg [] (show m ≤ l.length by omega)).1 hA j (s - 1) (by omega) (by omega) (by omega); omega
      · intro x hx
        obtain ⟨j, j1, j2, rfl⟩ := mem_seg [] (show m ≤ l.length by omega) hx
        have := g5 (by omega)
        by_cases hj : j = s
        · rw [hj]; omega
        · have := (srt_seg [] (show m ≤ l.length by omega)).1 hA s j g1 (by omega) j2; omega
    · have hd2 : (((b - m : Nat) : Int) == 1) = false := by simp; omega
      rw [hd2, cond_false, hH]
      by_cases hmm : (a + b) / 2 < m
      · have hd3 : decide ((m : Int) > (((a + b) / 2 : Nat) : Int)) = true := decide_eq_true (by omega)
        obtain ⟨s, g1, g2, ⟨k, g3⟩, g4, g5⟩ := sm_l4_is pr g h5 hl ha hm hb hmm
        obtain ⟨k1, k2⟩ := loop_is g3
        have hi : sm_l4_init pr g (a : Int) (m : Int) (b : Int) l = [.i (((a + b) / 2 + m - b : Nat) : Int), .i (((a + b) / 2 : Nat) : Int)] := by
          unfold sm_l4_init
          rw [hH, w3, w64 (by omega), show (((a + b) / 2 + m : Nat) : Int) - (b : Int) = (((a + b) / 2 + m - b : Nat) : Int) by omega]
        have hs2 : gi (sm_l4 pr g (a : Int) (m : Int) (b : Int) l).snd 0 = (s : Int) := by
          unfold sm_l4; rw [hi, k2]; rfl
        have he2 : sm_s14 pr g (a : Int) (m : Int) (b : Int) l = (((a + b) / 2 + m - s : Nat) : Int) := by
          unfold sm_s14; rw [hH, w3, hs2, w64 (by omega)]; omega
        obtain ⟨L1, L2, L3, p1, p2, p3, p4, p5, p6, p7⟩ := sm_tail pr g n ih h5 hl (s := s) (e := (a + b) / 2 + m - s) hn ha hm hb hA hB (by omega) (by omega) (by omega) (by omega) (by omega) (by omega) (by omega)
          (fun h h' => by
            have := g4 (by omega)
            rwa [show (a + b) / 2 + m - 1 - (s - 1) = (a + b) / 2 + m - s by omega] at this)
          (fun h h' => by
            have := g5 (by omega)
            rw [show (a + b) / 2 + m - 1 - s = (a + b) / 2 + m - s - 1 by omega] at this
            exact Classical.not_not.1 this)
        unfold sm_s34 sm_s26 sm_s25 sm_s24 sm_s23 sm_s22 sm_s21 sm_s20 sm_s15
        simp only [hd3, hs2, he2, hH, cond_true, cond_false]
        generalize he : (a + b) / 2 + m - s = e at *
        have tt : ∀ {p q : Prop} [Decidable p] [Decidable q], p ∧ q → (decide p && decide q) = true := fun h => by simp [h.1, h.2]
        have ff : ∀ {p q : Prop} [Decidable p] [Decidable q], ¬ (p ∧ q) → (decide p && decide q) = false := fun {p q} _ _ h => by
          by_cases hp : p
          · have : ¬ q := fun hq => h ⟨hp, hq⟩
            simp [this]
          · simp [hp]
        by_cases x1 : s < m ∧ m < e
        · have f1 : (decide ((s : Int) < (m : Int)) && decide ((m : Int) < (e : Int))) = true := tt (by omega)
          obtain ⟨r1, rfl⟩ := p1 x1
          by_cases x2 : a < s ∧ s < (a + b) / 2
          · have f2 : (decide ((a : Int) < (s : Int)) && decide ((s : Int) < (((a + b) / 2 : Nat) : Int))) = true := tt (by omega)
            obtain ⟨r2, rfl⟩ := p3 x2
            by_cases x3 : (a + b) / 2 < e ∧ e < b
            · have f3 : (decide ((((a + b) / 2 : Nat) : Int) < (e : Int)) && decide ((e : Int) < (b : Int))) = true := tt (by omega)
              obtain ⟨r3, rfl⟩ := p5 x3
              simp only [f1, f2, f3, cond_true, cond_false]
              exact ⟨by simp only [k1, r1, r2, r3, hi, h01, reduceCtorEq, false_implies, true_implies, and_true, true_and, and_self, implies_true], p7⟩
            · have f3 : (decide ((((a + b) / 2 : Nat) : Int) < (e : Int)) && decide ((e : Int) < (b : Int))) = false := ff (by omega)
              obtain rfl := p6 x3
              simp only [f1, f2, f3, cond_true, cond_false]
              exact ⟨by simp only [k1, r1, r2, hi, h01, reduceCtorEq, false_implies, true_implies, and_true, true_and, and_self, implies_true], p7⟩
          · have f2 : (decide ((a : Int) < (s : Int)) && decide ((s : Int) < (((a + b) / 2 : Nat) : Int))) = false := ff (by omega)
            obtain rfl := p4 x2
            by_cases x3 : (a + b) / 2 < e ∧ e < b
            · have f3 : (decide ((((a + b) / 2 : Nat) : Int) < (e : Int)) && decide ((e : Int) < (b : Int))) = true := tt (by omega)
              obtain ⟨r3, rfl⟩ := p5 x3
              simp only [f1, f2, f3, cond_true, cond_false]
              exact ⟨by simp only [k1, r1, r3, hi, h01, reduceCtorEq, false_implies, true_implies, and_true, true_and, and_self, implies_true], p7⟩
            · have f3 : (decide ((((a + b) / 2 : Nat) : Int) < (e : Int)) && decide ((e : Int) < (b : Int))) = false := ff (by omega)
              obtain rfl := p6 x3
              simp only [f1, f2, f3, cond_true, cond_false]
              exact ⟨by simp only [k1, r1, hi, h01, reduceCtorEq, false_implies, true_implies, and_true, true_and, and_self, implies_true], p7⟩
        · have f1 : (decide ((s : Int) < (m : Int)) && decide ((m : Int) < (e : Int))) = false := ff (by omega)
          obtain rfl := p2 x1
          by_cases x2 : a < s ∧ s < (a + b) / 2
          · have f2 : (decide ((a : Int) < (s : Int)) && decide ((s : Int) < (((a + b) / 2 : Nat) : Int))) = true := tt (by omega)
            obtain ⟨r2, rfl⟩ := p3 x2
            by_cases x3 : (a + b) / 2 < e ∧ e < b
            · have f3 : (decide ((((a + b) / 2 : Nat) : Int) < (e : Int)) && decide ((e : Int) < (b : Int))) = true := tt (by omega)
              obtain ⟨r3, rfl⟩ := p5 x3
              simp only [f1, f2, f3, cond_true, cond_false]
              exact ⟨by simp only [k1, r2, r3, hi, h01, reduceCtorEq, false_implies, true_implies, and_true, true_and, and_self, implies_true], p7⟩
            · have f3 : (decide ((((a + b) / 2 : Nat) : Int) < (e : Int)) && decide ((e : Int) < (b : Int))) = false := ff (by omega)
              obtain rfl := p6 x3
              simp only [f1, f2, f3, cond_true, cond_false]
              exact ⟨by simp only [k1, r2, hi, h01, reduceCtorEq, false_implies, true_implies, and_true, true_and, and_self, implies_true], p7⟩
          · have f2 : (decide ((a : Int) < (s : Int)) && decide ((s : Int) < (((a + b) / 2 : Nat) : Int))) = false := ff (by omega)
            obtain rfl := p4 x2
            by_cases x3 : (a + b) / 2 < e ∧ e < b
            · have f3 : (decide ((((a + b) / 2 : Nat) : Int) < (e : Int)) && decide ((e : Int) < (b : Int))) = true := tt (by omega)
              obtain ⟨r3, rfl⟩ := p5 x3
              simp only [f1, f2, f3, cond_true, cond_false]
              exact ⟨by simp only [k1, r3, hi, h01, reduceCtorEq, false_implies, true_implies, and_true, true_and, and_self, implies_true], p7⟩
            · have f3 : (decide ((((a + b) / 2 : Nat) : Int) < (e : Int)) && decide ((e : Int) < (b : Int))) = false := ff (by omega)
              obtain rfl := p6 x3
              simp only [f1, f2, f3, cond_true, cond_false]
              exact ⟨by simp only [k1, hi, h01, reduceCtorEq, false_implies, true_implies, and_true, true_and, and_self, implies_true], p7⟩
      · have hd3 : decide ((m : Int) > (((a + b) / 2 : Nat) : Int)) = false := decide_eq_false (by omega)
        obtain ⟨s, g1, g2, ⟨k, g3⟩, g4, g5⟩ := sm_l5_is pr g h5 hl ha hm hb (by omega)
        obtain ⟨k1, k2⟩ := loop_is g3
        have hi : sm_l5_init pr g (a : Int) (m : Int) (b : Int) l = [.i (a : Int), .i (m : Int)] := rfl
        have hs2 : gi (sm_l5 pr g (a : Int) (m : Int) (b : Int) l).snd 0 = (s : Int) := by
          unfold sm_l5; rw [hi, k2]; rfl
        have he2 : sm_s18 pr g (a : Int) (m : Int) (b : Int) l = (((a + b) / 2 + m - s : Nat) : Int) := by
          unfold sm_s18; rw [hH, w3, hs2, w64 (by omega)]; omega
        obtain ⟨L1, L2, L3, p1, p2, p3, p4, p5, p6, p7⟩ := sm_tail pr g n ih h5 hl (s := s) (e := (a + b) / 2 + m - s) hn ha hm hb hA hB (by omega) (by omega) (by omega) (by omega) (by omega) (by omega) (by omega)
          (fun h h' => by
            have := g4 (by omega)
            rwa [show (a + b) / 2 + m - 1 - (s - 1) = (a + b) / 2 + m - s by omega] at this)
          (fun h h' => by
            have := g5 (by omega)
            rw [show (a + b) / 2 + m - 1 - s = (a + b) / 2 + m - s - 1 by omega] at this
            exact Classical.not_not.1 this)
        unfold sm_s34 sm_s33 sm_s32 sm_s31 sm_s30 sm_s29 sm_s28 sm_s27 sm_s19
        simp only [hd3, hs2, he2, hH, cond_true, cond_false]
        generalize he : (a + b) / 2 + m - s = e at *
        have tt : ∀ {p q : Prop} [Decidable p] [Decidable q], p ∧ q → (decide p && decide q) = true := fun h => by simp [h.1, h.2]
        have ff : ∀ {p q : Prop} [Decidable p] [Decidable q], ¬ (p ∧ q) → (decide p && decide q) = false := fun {p q} _ _ h => by
          by_cases hp : p
          · have : ¬ q := fun hq => h ⟨hp, hq⟩
            simp [this]
          · simp [hp]
        by_cases x1 : s < m ∧ m < e
        · have f1 : (decide ((s : Int) < (m : Int)) && decide ((m : Int) < (e : Int))) = true := tt (by omega)
          obtain ⟨r1, rfl⟩ := p1 x1
          by_cases x2 : a < s ∧ s < (a + b) / 2
          · have f2 : (decide ((a : Int) < (s : Int)) && decide ((s : Int) < (((a + b) / 2 : Nat) : Int))) = true := tt (by omega)
            obtain ⟨r2, rfl⟩ := p3 x2
            by_cases x3 : (a + b) / 2 < e ∧ e < b
            · have f3 : (decide ((((a + b) / 2 : Nat) : Int) < (e : Int)) && decide ((e : Int) < (b : Int))) = true := tt (by omega)
              obtain ⟨r3, rfl⟩ := p5 x3
              simp only [f1, f2, f3, cond_true, cond_false]
              exact ⟨by simp only [k1, r1, r2, r3, hi, h01, reduceCtorEq, false_implies, true_implies, and_true, true_and, and_self, implies_true], p7⟩
            · have f3 : (decide ((((a + b) / 2 : Nat) : Int) < (e : Int)) && decide ((e : Int) < (b : Int))) = false := ff (by omega)
              obtain rfl := p6 x3
              simp only [f1, f2, f3, cond_true, cond_false]
              exact ⟨by simp only [k1, r1, r2, hi, h01, reduceCtorEq, false_implies, true_implies, and_true, true_and, and_self, implies_true], p7⟩
          · have f2 : (decide ((a : Int) < (s : Int)) && decide ((s : Int) < (((a + b) / 2 : Nat) : Int))) = false := ff (by omega)
            obtain rfl := p4 x2
            by_cases x3 : (a + b) / 2 < e ∧ e < b
            · have f3 : (decide ((((a + b) / 2 : Nat) : Int) < (e : Int)) && decide ((e : Int) < (b : Int))) = true := tt (by omega)
              obtain ⟨r3, rfl⟩ := p5 x3
              simp only [f1, f2, f3, cond_true, cond_false]
              exact ⟨by simp only [k1, r1, r3, hi, h01, reduceCtorEq, false_implies, true_implies, and_true, true_and, and_self, implies_true], p7⟩
            · have f3 : (decide ((((a + b) / 2 : Nat) : Int) < (e : Int)) && decide ((e : Int) < (b : Int))) = false := ff (by omega)
              obtain rfl := p6 x3
              simp only [f1, f2, f3, cond_true, cond_false]
              exact ⟨by simp only [k1, r1, hi, h01, reduceCtorEq, false_implies, true_implies, and_true, true_and, and_self, implies_true], p7⟩
        · have f1 : (decide ((s : Int) < (m : Int)) && decide ((m : Int) < (e : Int))) = false := ff (by omega)
          obtain rfl := p2 x1
          by_cases x2 : a < s ∧ s < (a + b) / 2
          · have f2 : (decide ((a : Int) < (s : Int)) && decide ((s : Int) < (((a + b) / 2 : Nat) : Int))) = true := tt (by omega)
            obtain ⟨r2, rfl⟩ := p3 x2
            by_cases x3 : (a + b) / 2 < e ∧ e < b
            · have f3 : (decide ((((a + b) / 2 : Nat) : Int) < (e : Int)) && decide ((e : Int) < (b : Int))) = true := tt (by omega)
              obtain ⟨r3, rfl⟩ := p5 x3
              simp only [f1, f2, f3, cond_true, cond_false]
              exact ⟨by simp only [k1, r2, r3, hi, h01, reduceCtorEq, false_implies, true_implies, and_true, true_and, and_self, implies_true], p7⟩
            · have f3 : (decide ((((a + b) / 2 : Nat) : Int) < (e : Int)) && decide ((e : Int) < (b : Int))) = false := ff (by omega)
              obtain rfl := p6 x3
              simp only [f1, f2, f3, cond_true, cond_false]
              exact ⟨by simp only [k1, r2, hi, h01, reduceCtorEq, false_implies, true_implies, and_true, true_and, and_self, implies_true], p7⟩
          · have f2 : (decide ((a : Int) < (s : Int)) && decide ((s : Int) < (((a + b) / 2 : Nat) : Int))) = false := ff (by omega)
            obtain rfl := p4 x2
            by_cases x3 : (a + b) / 2 < e ∧ e < b
            · have f3 : (decide ((((a + b) / 2 : Nat) : Int) < (e : Int)) && decide ((e : Int) < (b : Int))) = true := tt (by omega)
              obtain ⟨r3, rfl⟩ := p5 x3
              simp only [f1, f2, f3, cond_true, cond_false]
              exact ⟨by simp only [k1, r3, hi, h01, reduceCtorEq, false_implies, true_implies, and_true, true_and, and_self, implies_true], p7⟩
            · have f3 : (decide ((((a + b) / 2 : Nat) : Int) < (e : Int)) && decide ((e : Int) < (b : Int))) = false := ff (by omega)
              obtain rfl := p6 x3
              simp only [f1, f2, f3, cond_true, cond_false]
              exact ⟨by simp only [k1, hi, h01, reduceCtorEq, false_implies, true_implies, and_true, true_and, and_self, implies_true], p7⟩
end Go.Proofs.Ytcbgjecpnhjlpaa

/-!
  The library's stable sort, at rows of five numbers, is the stable sort.
-/
set_option linter.unusedVariables false
set_option linter.unusedSimpArgs false
set_option linter.unusedSectionVars false
set_option maxRecDepth 100000
namespace Go.Proofs.Ytcbgjecpnhjlpaa
open Go Go.Sy

/-- The merge, so many calls deep. -/
noncomputable def smP : Nat → Int → Int → Int → List (List Int) → Prop × List (List Int)
  | 0 => fun _ _ _ l => (False, l)
  | n + 1 => fun a m b l => (sm_pre (fun a m b l => (smP n a m b l).1) (fun a m b l => (smP n a m b l).2) a m b l, sm_0 (fun a m b l => (smP n a m b l).1) (fun a m b l => (smP n a m b l).2) a m b l)
noncomputable def smp (n : Nat) : Int → Int → Int → List (List Int) → Prop := fun a m b l => (smP n a m b l).1
noncomputable def smg (n : Nat) : Int → Int → Int → List (List Int) → List (List Int) := fun a m b l => (smP n a m b l).2
theorem smp_succ (n : Nat) : smp (n + 1) = sm_pre (smp n) (smg n) := rfl
theorem smg_succ (n : Nat) : smg (n + 1) = sm_0 (smp n) (smg n) := rfl
theorem smN_is : ∀ (n : Nat) {a m b : Nat} {l : List (List Int)}, b - a ≤ n → All5 l → l.length < 2305843009213693952 → a < m → m < b → b ≤ l.length → Srt kk (seg l a m) → Srt kk (seg l m b) → smp n a m b l ∧ Mrg kk a b l (smg n a m b l)
  | 0, a, m, b, l, hn, _, _, ha, hm, _, _, _ => by omega
  | n + 1, a, m, b, l, hn, h5, hl, ha, hm, hb, hA, hB => by
    rw [smp_succ, smg_succ]
    exact sm_is _ _ n (fun {_ _ _ _} h1 h2 h3 h4 h5 h6 h7 h8 => smN_is n h1 h2 h3 h4 h5 h6 h7 h8) h5 hl hn ha hm hb hA hB
/-- As many rows, all of five numbers, the same for each key. -/
structure Kept (l L : List (List Int)) : Prop where
  len : L.length = l.length
  all5 : All5 L
  same : SameBy kk L l
theorem mrg_kept {a b : Nat} {l L L' : List (List Int)} (h : Kept l L) (hab : a ≤ b) (m : Mrg kk a b L L') : Kept l L' := by
  refine ⟨m.len.trans h.len, mrg_all5 m hab h.all5, ?_⟩
  have e1 := seg_split L' hab
  have e2 := seg_split L hab
  have : SameBy kk L' L := by
    rw [e1, m.lo, m.hi]
    conv => rhs; rw [e2]
    exact ((SameBy.refl _).append m.same).append (SameBy.refl _)
  exact this.trans h.same
/-- Blocks of so many rows are sorted. -/
def Blks (bs n : Nat) (L : List (List Int)) : Prop := ∀ q, Srt kk (seg L (q * bs) (min (q * bs + bs) n))
theorem sst_l0_is {l : List (List Int)} (h5 : All5 l) (hl : l.length < 1152921504606846976) (pr : Int → Int → Int → List (List Int) → Prop) (g : Int → Int → Int → List (List Int) → List (List Int)) :
    loopOk (sst_l0_step pr g l) (sst_l0_init pr g l) ∧ ∃ (a b : Nat) (L : List (List Int)), (sst_l0 pr g l).snd = [.i (a : Int), .i (b : Int), .r L] ∧ a ≤ l.length ∧ Kept l L ∧ (∃ k, a = k * 20 ∧ ∀ q, q < k → Srt kk (seg L (q * 20) (q * 20 + 20))) ∧ l.length < a + 20 := by
  have key : ∀ d k L, l.length + 20 - k * 20 ≤ d → k * 20 ≤ l.length → Kept l L → (∀ q, q < k → Srt kk (seg L (q * 20) (q * 20 + 20))) →
      ∃ (n a : Nat) (L' : List (List Int)), iterO (sst_l0_step pr g l) n [.i ((k * 20 : Nat) : Int), .i ((k * 20 + 20 : Nat) : Int), .r L] = some (2, [.i (a : Int), .i ((a + 20 : Nat) : Int), .r L']) ∧ a ≤ l.length ∧ Kept l L' ∧ (∃ k, a = k * 20 ∧ ∀ q, q < k → Srt kk (seg L' (q * 20) (q * 20 + 20))) ∧ l.length < a + 20 := by
    intro d
    induction d with
    | zero => intro k L h h2; omega
    | succ d ih =>
      intro k L hd hk hK hB
      by_cases hlt : k * 20 + 20 ≤ l.length
      · obtain ⟨r1, r2⟩ := ins_is hK.all5 (by rw [hK.len]; omega) (a := k * 20) (b := k * 20 + 20) (by omega) (by rw [hK.len]; exact hlt)
        obtain ⟨n, a, L', q1, q2⟩ := ih (k + 1) _ (by omega) (by omega) (mrg_kept hK (by omega) r2) (fun q hq => by
          by_cases hqk : q = k
          · subst hqk; exact r2.srt
          · rw [seg_take r2.lo (by omega)]; exact hB q (by omega))
        refine ⟨n + 1, a, L', iter_next ?_ q1, q2⟩
        unfold sst_l0_step
        simp only [gi_z, gi_1, gr_2, gr_1, gr_z]
        rw [decide_eq_true (by omega), cond_true, guardP_true r1, w64 (by omega), show ((k * 20 + 20 : Nat) : Int) + 20 = (((k + 1) * 20 + 20 : Nat) : Int) by omega, show k * 20 + 20 = (k + 1) * 20 by omega]
      · refine ⟨1, k * 20, L, iter_out ?_, hk, hK, ⟨k, rfl, hB⟩, by omega⟩
        unfold sst_l0_step
        simp only [gi_z, gi_1, gr_2, gr_1, gr_z]
        rw [decide_eq_false (by omega), cond_false]
  obtain ⟨n, a, L', q1, q2⟩ := key _ 0 l (Nat.le_refl _) (by omega) ⟨rfl, h5, SameBy.refl _⟩ (fun q hq => absurd hq (Nat.not_lt_zero q))
  obtain ⟨k1, k2⟩ := loop_is q1
  have e0 : sst_l0_init pr g l = [.i ((0 * 20 : Nat) : Int), .i ((0 * 20 + 20 : Nat) : Int), .r l] := rfl
  refine ⟨by rw [e0]; exact k1, a, a + 20, L', ?_, q2⟩
  unfold sst_l0
  rw [e0, k2]
section
variable {pr : Int → Int → Int → List (List Int) → Prop} {g : Int → Int → Int → List (List Int) → List (List Int)} {l : List (List Int)} (h5 : All5 l) (hl : l.length < 1152921504606846976)
  (hm : ∀ {a m b : Nat} {L : List (List Int)}, b ≤ L.length → L.length = l.length → All5 L → a < m → m < b → Srt kk (seg L a m) → Srt kk (seg L m b) → pr a m b L ∧ Mrg kk a b L (g a m b L))
include h5 hl hm
theorem sst_l2_is {bs : Nat} {L : List (List Int)} {u v : U} (hbs : 0 < bs) (hbl : bs < l.length) (hK : Kept l L) (hB : Blks bs l.length L) :
    loopOk (sst_l2_step pr g l [u, v, .i (bs : Int), .r L]) (sst_l2_init pr g l [u, v, .i (bs : Int), .r L]) ∧ ∃ (k : Nat) (L' : List (List Int)), (sst_l2 pr g l [u, v, .i (bs : Int), .r L]).snd = [.i ((k * (2 * bs) : Nat) : Int), .i ((k * (2 * bs) + 2 * bs : Nat) : Int), .r L'] ∧ k * (2 * bs) ≤ l.length ∧ Kept l L' ∧
      (∀ q, q < k → Srt kk (seg L' (q * (2 * bs)) (q * (2 * bs) + 2 * bs))) ∧ (∀ q, 2 * k ≤ q → Srt kk (seg L' (q * bs) (min (q * bs + bs) l.length))) ∧ l.length < k * (2 * bs) + 2 * bs := by
  have w2 : IntKind.i64.wrap (2 * (bs : Int)) = ((2 * bs : Nat) : Int) := by rw [w64 (by omega)]; omega
  have key : ∀ d k L, l.length + 2 * bs - k * (2 * bs) ≤ d → k * (2 * bs) ≤ l.length → Kept l L → (∀ q, q < k → Srt kk (seg L (q * (2 * bs)) (q * (2 * bs) + 2 * bs))) → (∀ q, 2 * k ≤ q → Srt kk (seg L (q * bs) (min (q * bs + bs) l.length))) →
      ∀ M, ∃ (n k' : Nat) (L' : List (List Int)), iterO (sst_l2_step pr g l [u, v, .i (bs : Int), .r M]) n [.i ((k * (2 * bs) : Nat) : Int), .i ((k * (2 * bs) + 2 * bs : Nat) : Int), .r L] = some (2, [.i ((k' * (2 * bs) : Nat) : Int), .i ((k' * (2 * bs) + 2 * bs : Nat) : Int), .r L']) ∧ k' * (2 * bs) ≤ l.length ∧ Kept l L' ∧
      (∀ q, q < k' → Srt kk (seg L' (q * (2 * bs)) (q * (2 * bs) + 2 * bs))) ∧ (∀ q, 2 * k' ≤ q → Srt kk (seg L' (q * bs) (min (q * bs + bs) l.length))) ∧ l.length < k' * (2 * bs) + 2 * bs := by
    intro d
    induction d with
    | zero => intro k L h h2; omega
    | succ d ih =>
      intro k L hd hk hK h1 h2 M
      have ek : (k + 1) * (2 * bs) = k * (2 * bs) + 2 * bs := by rw [Nat.add_mul, Nat.one_mul]
      by_cases hlt : k * (2 * bs) + 2 * bs ≤ l.length
      · have e1 : 2 * k * bs = k * (2 * bs) := by rw [Nat.mul_comm 2 k, Nat.mul_assoc]
        have e2 : (2 * k + 1) * bs = k * (2 * bs) + bs := by rw [Nat.add_mul, Nat.one_mul, e1]
        have s1 := h2 (2 * k) (Nat.le_refl _)
        have s2 := h2 (2 * k + 1) (by omega)
        rw [e1, show min (k * (2 * bs) + bs) l.length = k * (2 * bs) + bs by omega] at s1
        rw [e2, show min (k * (2 * bs) + bs + bs) l.length = k * (2 * bs) + 2 * bs by omega] at s2
        obtain ⟨r1, r2⟩ := hm (a := k * (2 * bs)) (m := k * (2 * bs) + bs) (b := k * (2 * bs) + 2 * bs) (L := L) (by rw [hK.len]; exact hlt) hK.len hK.all5 (by omega) (by omega) s1 s2
        obtain ⟨n, k', L', q1, q2⟩ := ih (k + 1) _ (by omega) (by omega) (mrg_kept hK (by omega) r2) (fun q hq => by
          by_cases hqk : q = k
          · subst hqk; exact r2.srt
          · have : (q + 1) * (2 * bs) ≤ k * (2 * bs) := Nat.mul_le_mul_right _ (by omega)
            rw [Nat.add_mul, Nat.one_mul] at this
            rw [seg_take r2.lo this]; exact h1 q (by omega)) (fun q hq => by
          have : (2 * k + 2) * bs ≤ q * bs := Nat.mul_le_mul_right _ (by omega)
          rw [Nat.add_mul, e1] at this
          rw [seg_dropped r2.hi this]; exact h2 q (by omega)) M
        refine ⟨n + 1, k', L', iter_next ?_ q1, q2⟩
        have w3 : IntKind.i64.wrap (((k * (2 * bs) : Nat) : Int) + (bs : Int)) = ((k * (2 * bs) + bs : Nat) : Int) := by rw [w64 (by omega)]; omega
        have w4 : IntKind.i64.wrap (((k * (2 * bs) + 2 * bs : Nat) : Int) + ((2 * bs : Nat) : Int)) = (((k + 1) * (2 * bs) + 2 * bs : Nat) : Int) := by rw [ek, w64 (by omega)]; omega
        unfold sst_l2_step
        simp only [gi_z, gi_1, gi_2, gr_2, gr_1, gr_z]
        rw [w3, w2, w4, decide_eq_true (by omega), cond_true, guardP_true r1, ek]
      · refine ⟨1, k, L, iter_out ?_, hk, hK, h1, h2, by omega⟩
        unfold sst_l2_step
        simp only [gi_z, gi_1, gr_2, gr_1, gr_z]
        rw [decide_eq_false (by omega), cond_false]
  obtain ⟨n, k, L', q1, q2⟩ := key _ 0 L (Nat.le_refl _) (by omega) hK (fun q hq => absurd hq (Nat.not_lt_zero q)) (fun q _ => hB q) L
  obtain ⟨k1, k2⟩ := loop_is q1
  have e0 : sst_l2_init pr g l [u, v, .i (bs : Int), .r L] = [.i ((0 * (2 * bs) : Nat) : Int), .i ((0 * (2 * bs) + 2 * bs : Nat) : Int), .r L] := by
    unfold sst_l2_init
    simp only [gi_2, gi_z, gr_3, gr_z]
    rw [w2, Nat.zero_mul, Nat.zero_add]
    rfl
  refine ⟨by rw [e0]; exact k1, k, L', ?_, q2⟩
  unfold sst_l2
  rw [e0, k2]
theorem sst_is : sst_pre pr g l ∧ sst_0 pr g l = stab kk l := by
  obtain ⟨t1, a, b, L, t2, t3, t4, ⟨k, t5, t6⟩, t7⟩ := sst_l0_is h5 hl pr g
  obtain ⟨r1, r2⟩ := ins_is t4.all5 (by rw [t4.len]; omega) (a := a) (b := l.length) t3 (by rw [t4.len]; exact Nat.le_refl _)
  have hK := mrg_kept t4 t3 r2
  have hB : Blks 20 l.length (ins_0 (a : Int) (l.length : Int) L) := by
    intro q
    by_cases hq : q < k
    · rw [show min (q * 20 + 20) l.length = q * 20 + 20 by omega, seg_take r2.lo (by omega)]
      exact t6 q hq
    · by_cases hqk : q = k
      · subst hqk; rw [show min (q * 20 + 20) l.length = l.length by omega, ← t5]; exact r2.srt
      · rw [seg_nil _ (by omega)]; simp [Srt]
  have key : ∀ d bs L u v, l.length - bs ≤ d → 0 < bs → bs ≤ 2 * l.length + 20 → Kept l L → Blks bs l.length L → ∃ (n : Nat) (u' v' w' : U) (L' : List (List Int)), iterO (sst_l1_step pr g l) n [u, v, .i (bs : Int), .r L] = some (3, [u', v', w', .r L']) ∧ Kept l L' ∧ Srt kk L' := by
    intro d
    induction d with
    | zero =>
      intro bs L u v hd h0 hbb hK hB
      refine ⟨1, .i (gi [u, v, .i (bs : Int), .r L] 0), .i (gi [u, v, .i (bs : Int), .r L] 1), .i (gi [u, v, .i (bs : Int), .r L] 2), L, iter_out ?_, hK, ?_⟩
      · unfold sst_l1_step
        simp only [gi_2, gr_3, gi_z, gr_z]
        rw [decide_eq_false (by omega), cond_false]
      · have := hB 0
        rw [Nat.zero_mul, Nat.zero_add, show min bs l.length = L.length by rw [hK.len]; omega, seg_all] at this
        exact this
    | succ d ih =>
      intro bs L u v hd h0 hbb hK hB
      by_cases hlt : bs < l.length
      · obtain ⟨p1, k, L', p2, p3, p4, p5, p6, p7⟩ := sst_l2_is h5 hl hm (u := u) (v := v) h0 hlt hK hB
        have w1 : IntKind.i64.wrap (((k * (2 * bs) : Nat) : Int) + (bs : Int)) = ((k * (2 * bs) + bs : Nat) : Int) := by rw [w64 (by omega)]; omega
        have w2 : IntKind.i64.wrap ((bs : Int) * 2) = ((2 * bs : Nat) : Int) := by rw [w64 (by omega)]; omega
        have e1 : 2 * k * bs = k * (2 * bs) := by rw [Nat.mul_comm 2 k, Nat.mul_assoc]
        have e2 : (2 * k + 1) * bs = k * (2 * bs) + bs := by rw [Nat.add_mul, Nat.one_mul, e1]
        have beyond : ∀ (M : List (List Int)) q, k < q → Srt kk (seg M (q * (2 * bs)) (min (q * (2 * bs) + 2 * bs) l.length)) := fun M q hq => by
          have : (k + 1) * (2 * bs) ≤ q * (2 * bs) := Nat.mul_le_mul_right _ hq
          rw [Nat.add_mul, Nat.one_mul] at this
          rw [seg_nil _ (by omega)]; simp [Srt]
        have s1 := p6 (2 * k) (Nat.le_refl _)
        rw [e1] at s1
        by_cases hc : k * (2 * bs) + bs < l.length
        · have s2 := p6 (2 * k + 1) (by omega)
          rw [show min (k * (2 * bs) + bs) l.length = k * (2 * bs) + bs by omega] at s1
          rw [e2, show min (k * (2 * bs) + bs + bs) l.length = l.length by omega] at s2
          obtain ⟨x1, x2⟩ := hm (a := k * (2 * bs)) (m := k * (2 * bs) + bs) (b := l.length) (L := L') (by rw [p4.len]; exact Nat.le_refl _) p4.len p4.all5 (by omega) hc s1 s2
          obtain ⟨n, u', v', w', M, q1, q2⟩ := ih (2 * bs) _ (.i ((k * (2 * bs) : Nat) : Int)) (.i ((k * (2 * bs) + 2 * bs : Nat) : Int)) (by omega) (by omega) (by omega) (mrg_kept p4 p3 x2) (fun q => by
            by_cases hq : q < k
            · have : (q + 1) * (2 * bs) ≤ k * (2 * bs) := Nat.mul_le_mul_right _ hq
              rw [Nat.add_mul, Nat.one_mul] at this
              rw [show min (q * (2 * bs) + 2 * bs) l.length = q * (2 * bs) + 2 * bs by omega, seg_take x2.lo this]
              exact p5 q hq
            · by_cases hqk : q = k
              · subst hqk; rw [show min (q * (2 * bs) + 2 * bs) l.length = l.length by omega]; exact x2.srt
              · exact beyond _ q (by omega))
          refine ⟨n + 1, u', v', w', M, iter_next ?_ q1, q2⟩
          unfold sst_l1_step
          rw [p2]
          simp only [gi_2, gi_1, gi_z, gr_2, gr_z]
          rw [decide_eq_true (by omega), cond_true, guardP_true p1, w1, decide_eq_true (by omega), cond_true, guardP_true x1, w2]
        · obtain ⟨n, u', v', w', M, q1, q2⟩ := ih (2 * bs) L' (.i ((k * (2 * bs) : Nat) : Int)) (.i ((k * (2 * bs) + 2 * bs : Nat) : Int)) (by omega) (by omega) (by omega) p4 (fun q => by
            by_cases hq : q < k
            · have : (q + 1) * (2 * bs) ≤ k * (2 * bs) := Nat.mul_le_mul_right _ hq
              rw [Nat.add_mul, Nat.one_mul] at this
              rw [show min (q * (2 * bs) + 2 * bs) l.length = q * (2 * bs) + 2 * bs by omega]
              exact p5 q hq
            · by_cases hqk : q = k
              · subst hqk
                rw [show min (q * (2 * bs) + 2 * bs) l.length = l.length by omega]
                rwa [show min (q * (2 * bs) + bs) l.length = l.length by omega] at s1
              · exact beyond _ q (by omega))
          refine ⟨n + 1, u', v', w', M, iter_next ?_ q1, q2⟩
          unfold sst_l1_step
          rw [p2]
          simp only [gi_2, gi_1, gi_z, gr_2, gr_z]
          rw [decide_eq_true (by omega), cond_true, guardP_true p1, w1, decide_eq_false (by omega), cond_false, w2]
      · refine ⟨1, .i (gi [u, v, .i (bs : Int), .r L] 0), .i (gi [u, v, .i (bs : Int), .r L] 1), .i (gi [u, v, .i (bs : Int), .r L] 2), L, iter_out ?_, hK, ?_⟩
        · unfold sst_l1_step
          simp only [gi_2, gr_3, gi_z, gr_z]
          rw [decide_eq_false (by omega), cond_false]
        · have := hB 0
          rw [Nat.zero_mul, Nat.zero_add, show min bs l.length = L.length by rw [hK.len]; omega, seg_all] at this
          exact this
  obtain ⟨n, u', v', w', M, q1, q2, q3⟩ := key _ 20 _ (.i (a : Int)) (.i (b : Int)) (Nat.le_refl _) (by omega) (by omega) hK hB
  obtain ⟨k1, k2⟩ := loop_is q1
  have e0 : sst_l1_init pr g l = [.i (a : Int), .i (b : Int), .i ((20 : Nat) : Int), .r (ins_0 (a : Int) (l.length : Int) L)] := by
    unfold sst_l1_init
    rw [t2]
    rfl
  unfold sst_pre sst_0
  refine ⟨⟨t1, ?_, by rw [e0]; exact k1⟩, ?_⟩
  · rw [t2]; exact r1
  · unfold sst_l1
    rw [e0, k2]
    simp only [gr_3, gr_z]
    exact stab_unique q2.same q3
end
theorem sst_all {l : List (List Int)} (h5 : All5 l) (hl : l.length < 1152921504606846976) : sst_pre (smp l.length) (smg l.length) l ∧ sst_0 (smp l.length) (smg l.length) l = stab kk l :=
  sst_is h5 hl fun {a m b L} h1 h2 h3 h4 h6 h7 h8 => smN_is l.length (by omega) h3 (by omega) h4 h6 h1 h7 h8
end Go.Proofs.Ytcbgjecpnhjlpaa
