/- Several texts in one (wip/merge.py): XDeskE XDeskF XDeskG. -/
import Derived.Test.YtnijhjpaplihbaaGreatDeskR
import Derived.Test.YtnijhjpaplihbaaGreatDesk3D
/-!
  Package desk: the sets in order, and Explain.
-/
set_option linter.unusedVariables false
set_option linter.unusedSimpArgs false
set_option linter.unusedSectionVars false
namespace Go.Proofs.YtnijhjpaplihbaaGreat
open Go Go.Sy

/-! ### the sets -/
theorem mem_dsets {m : Nat} {n : Int} {w : List (List Int)} : w ∈ dsets m n ↔ ∃ c : List Nat, w = ofNums (c.map fun (x : Nat) => (x : Int)) ∧ c.length = n.toNat ∧ c.Pairwise (· < ·) ∧ ∀ x ∈ c, x < m := by
  unfold dsets
  rw [List.mem_map]
  constructor
  · rintro ⟨c, hc, rfl⟩
    obtain ⟨h1, h2, h3⟩ := (mem_cmbs _ _ _ _).1 hc
    exact ⟨c, rfl, h1, h2, fun x hx => by have := h3 x hx; omega⟩
  · rintro ⟨c, rfl, h1, h2, h3⟩
    exact ⟨c, (mem_cmbs _ _ _ _).2 ⟨h1, h2, fun x hx => by have := h3 x hx; omega⟩, rfl⟩
theorem dsets_len {m : Nat} {n : Int} {w : List (List Int)} (h : w ∈ dsets m n) : w.length = n.toNat := by
  obtain ⟨c, rfl, h1, _⟩ := mem_dsets.1 h
  unfold ofNums
  simp [h1]
theorem dsets_count (m : Nat) (n : Int) : (dsets m n).length ≤ 2 ^ m := by
  unfold dsets
  rw [List.length_map]
  exact cmbs_length_le _ _ _
theorem wB_of : ∀ (c : List Nat) (m : Nat) (last : Int), c.Pairwise (· < ·) → (∀ x ∈ c, last < (x : Int) ∧ x < m) → wB m last (ofNums (c.map fun (x : Nat) => (x : Int))) = true
  | [], _, _, _, _ => rfl
  | a :: c, m, last, hp, h => by
    show wB m last ([(a : Int)] :: ofNums (c.map fun (x : Nat) => (x : Int))) = true
    rw [wB_cons]
    obtain ⟨p1, p2⟩ := List.pairwise_cons.1 hp
    have ha := h a (by simp)
    have rec' := wB_of c m (a : Int) p2 (fun x hx => ⟨by have := p1 x hx; omega, (h x (by simp [hx])).2⟩)
    show (decide (last < (a : Int)) && decide ((a : Int) < (m : Int)) && wB m (a : Int) (ofNums (c.map fun (x : Nat) => (x : Int)))) = true
    rw [rec', decide_eq_true ha.1, decide_eq_true (show (a : Int) < (m : Int) by omega)]
    rfl
theorem dsets_wB {m : Nat} {n : Int} {w : List (List Int)} (h : w ∈ dsets m n) : wB m (-1) w = true := by
  obtain ⟨c, rfl, h1, h2, h3⟩ := mem_dsets.1 h
  exact wB_of c m (-1) h2 (fun x hx => ⟨by omega, h3 x hx⟩)
theorem wB_nums : ∀ (w : List (List Int)) (m : Nat) (last : Int), (∀ e ∈ w, e.length = 1) → -1 ≤ last → wB m last w = true →
    ∃ c : List Nat, w = ofNums (c.map fun (x : Nat) => (x : Int)) ∧ c.Pairwise (· < ·) ∧ ∀ x ∈ c, last < (x : Int) ∧ x < m
  | [], _, _, _, _, _ => ⟨[], rfl, List.Pairwise.nil, by simp⟩
  | e :: w, m, last, h1, h0, hw => by
    rw [wB_cons] at hw
    simp only [Bool.and_eq_true, decide_eq_true_eq] at hw
    obtain ⟨c, hc, p, q⟩ := wB_nums w m (e.getD 0 0) (fun x hx => h1 x (by simp [hx])) (by omega) hw.2
    obtain ⟨z, hz⟩ : ∃ z, e = [z] := by
      have := h1 e (by simp)
      match e, this with
      | [z], _ => exact ⟨z, rfl⟩
    subst hz
    have hz : ([z] : List Int).getD 0 0 = z := rfl
    rw [hz] at hw q
    refine ⟨z.toNat :: c, ?_, List.pairwise_cons.2 ⟨fun x hx => by have := q x hx; omega, p⟩, fun x hx => ?_⟩
    · rw [hc]
      show [z] :: _ = [((z.toNat : Nat) : Int)] :: _
      rw [Int.toNat_of_nonneg (by omega)]
      rfl
    · rcases List.mem_cons.1 hx with rfl | hx
      · omega
      · have := q x hx; omega
theorem wB_dsets {m : Nat} {w : List (List Int)} (h1 : ∀ e ∈ w, e.length = 1) (h : wB m (-1) w = true) : w ∈ dsets m w.length := by
  obtain ⟨c, rfl, p, q⟩ := wB_nums w m (-1) h1 (by decide) h
  refine mem_dsets.2 ⟨c, rfl, ?_, p, fun x hx => (q x hx).2⟩
  unfold ofNums
  simp
/-- All sets of fewer than n. -/
def alls (m : Nat) : Nat → List (List (List Int))
  | 0 => []
  | n + 1 => alls m n ++ dsets m n
theorem mem_alls {m : Nat} : ∀ {n : Nat} {w : List (List Int)}, w ∈ alls m n ↔ ∃ s : Nat, s < n ∧ w ∈ dsets m s
  | 0, w => by
    constructor
    · intro h; cases h
    · rintro ⟨s, h, _⟩; omega
  | n + 1, w => by
    show w ∈ alls m n ++ dsets m n ↔ _
    rw [List.mem_append, mem_alls]
    constructor
    · rintro (⟨s, h, h2⟩ | h)
      · exact ⟨s, by omega, h2⟩
      · exact ⟨n, by omega, h⟩
    · rintro ⟨s, h, h2⟩
      by_cases e : s = n
      · subst e; exact .inr h2
      · exact .inl ⟨s, by omega, h2⟩
theorem alls_split {m s : Nat} : ∀ {n : Nat}, s < n → ∃ R, alls m n = alls m s ++ dsets m s ++ R
  | 0, h => absurd h (by omega)
  | n + 1, h => by
    by_cases e : s = n
    · subst e; exact ⟨[], by rw [List.append_nil]; rfl⟩
    · obtain ⟨R, hR⟩ := alls_split (m := m) (s := s) (n := n) (by omega)
      exact ⟨R ++ dsets m n, by show alls m n ++ dsets m n = _; rw [hR]; simp⟩
theorem alls_count (m : Nat) : ∀ n, (alls m n).length ≤ n * 2 ^ m
  | 0 => Nat.zero_le _
  | n + 1 => by
    show (alls m n ++ dsets m n).length ≤ _
    rw [List.length_append]
    have := alls_count m n
    have := dsets_count m n
    rw [Nat.succ_mul]
    omega
theorem getDD {L : List (List (List Int))} {q : Nat} (h : q < L.length) : L.getD q [] ∈ L := by
  rw [List.getD_eq_getElem?_getD, List.getElem?_eq_getElem h]
  exact List.getElem_mem h
theorem dropDD {L : List (List (List Int))} {q : Nat} (h : q < L.length) : L = L.take q ++ L.getD q [] :: L.drop (q + 1) := by
  conv => lhs; rw [← List.take_append_drop q L]
  rw [List.drop_eq_getElem_cons h, List.getD_eq_getElem?_getD, List.getElem?_eq_getElem h]
  rfl
theorem takeDD {L : List (List (List Int))} {q : Nat} (h : q < L.length) : L.take (q + 1) = L.take q ++ [L.getD q []] := by
  rw [List.take_add_one, List.getElem?_eq_getElem h, List.getD_eq_getElem?_getD, List.getElem?_eq_getElem h]
  rfl
theorem mem_takeDD {L : List (List (List Int))} {q : Nat} {x : List (List Int)} (h : x ∈ L.take q) : ∃ j, j < q ∧ j < L.length ∧ x = L.getD j [] := by
  obtain ⟨j, hj, rfl⟩ := List.getElem_of_mem h
  rw [List.length_take] at hj
  refine ⟨j, by omega, by omega, ?_⟩
  rw [List.getElem_take, List.getD_eq_getElem?_getD, List.getElem?_eq_getElem (by omega)]
  rfl
theorem all_getDD {L : List (List (List Int))} {P : List (List Int) → Prop} (h : ∀ q, q < L.length → P (L.getD q [])) : ∀ x ∈ L, P x := by
  intro x hx
  obtain ⟨j, hj, rfl⟩ := List.getElem_of_mem hx
  have := h j hj
  rw [List.getD_eq_getElem?_getD, List.getElem?_eq_getElem hj] at this
  exact this
theorem find_split {A B : List (List (List Int))} {y : List (List Int)} {p : List (List Int) → Bool} (h1 : ∀ x ∈ A, p x = false) (h2 : p y = true) : (A ++ y :: B).find? p = some y := by
  rw [List.find?_append, List.find?_eq_none.2 (fun x hx => by rw [h1 x hx]; simp), List.find?_cons_of_pos h2]
  rfl

/-! ### asked -/
noncomputable def askE (f most : Int) (base fc rp : List (List Int)) : Int :=
  if svE f base fc rp = 1 ∨ most < 0 ∨ most > 3 then 1 else if svE f base fc rp = 0 ∧ rp.length > 12 then 2 else svE f base fc rp
theorem asked_is (f most : Int) (base fc rp : List (List Int)) (h13 : Si.El13 rp) (hf : fc.length ≤ 9223372036854775807) : desk_story_asked_pre f most base fc rp ∧ desk_story_asked_0 f most base fc rp = askE f most base fc rp := by
  obtain ⟨v1, v2⟩ := sv_is f base fc rp h13 hf
  unfold desk_story_asked_pre desk_story_asked_0 desk_story_asked_s0 askE
  rw [v2]
  refine ⟨v1, ?_⟩
  by_cases h1 : svE f base fc rp = 1 ∨ most < 0 ∨ most > 3
  · rw [if_pos h1]
    have : (svE f base fc rp == (1 : Int) || decide (most < (0 : Int)) || decide (most > (3 : Int))) = true := by
      simp only [Bool.or_eq_true, beq_iff_eq, decide_eq_true_eq]; omega
    rw [this]; rfl
  · rw [if_neg h1]
    have : (svE f base fc rp == (1 : Int) || decide (most < (0 : Int)) || decide (most > (3 : Int))) = false := by
      simp only [Bool.or_eq_false_iff, beq_eq_false_iff_ne, decide_eq_false_iff_not, ne_eq]; omega
    rw [this, cond_false]
    by_cases h2 : svE f base fc rp = 0 ∧ rp.length > 12
    · rw [if_pos h2]
      have : (svE f base fc rp == (0 : Int) && decide ((rp.length : Int) > (12 : Int))) = true := by
        simp only [Bool.and_eq_true, beq_iff_eq, decide_eq_true_eq]; omega
      rw [this]; rfl
    · rw [if_neg h2]
      have : (svE f base fc rp == (0 : Int) && decide ((rp.length : Int) > (12 : Int))) = false := by
        rw [Bool.eq_false_iff]
        intro h
        simp only [Bool.and_eq_true, beq_iff_eq, decide_eq_true_eq] at h
        omega
      rw [this]; rfl
theorem ask_ok {f most : Int} {base fc rp : List (List Int)} (h : askE f most base fc rp = 0) : svE f base fc rp = 0 ∧ GS f base fc rp ∧ 0 ≤ most ∧ most ≤ 3 ∧ rp.length ≤ 12 := by
  unfold askE at h
  split at h
  · cases h
  · rename_i h1
    split at h
    · cases h
    · rename_i h2
      rcases sv_cases f base fc rp with ⟨e, _⟩ | ⟨e, g, _⟩ | ⟨e, g, _⟩
      · rw [e] at h; cases h
      · rw [e] at h; cases h
      · exact ⟨h, g, by omega, by omega, by omega⟩
theorem ask_of {f most : Int} {base fc rp : List (List Int)} (h : svE f base fc rp = 0) (h1 : 0 ≤ most) (h2 : most ≤ 3) (h3 : rp.length ≤ 12) : askE f most base fc rp = 0 := by
  unfold askE
  rw [h, if_neg (by omega), if_neg (by omega)]

/-! ### Explain -/
/-- What is left with a set. -/
def lw (f : Int) (base fc rp w : List (List Int)) : Int × List (List Int) := lg fc w rp 0 base f
section
variable {f most : Int} {base fc rp : List (List Int)} (g : GS f base fc rp) (hf : fc.length ≤ 9223372036854775807) (hm : 0 ≤ most ∧ most ≤ 3)
include g hf hm
theorem left_ds {s : Nat} (hs : s ≤ 1000000) {q : Nat} (hq : q < (dsets rp.length (s : Int)).length) :
    desk_story_left_pre f base fc rp ((dsets rp.length (s : Int)).getD q []) ∧ desk_story_left_1 f base fc rp ((dsets rp.length (s : Int)).getD q []) = (lw f base fc rp ((dsets rp.length (s : Int)).getD q [])).1 ∧ desk_story_left_0 f base fc rp ((dsets rp.length (s : Int)).getD q []) = (lw f base fc rp ((dsets rp.length (s : Int)).getD q [])).2 := by
  refine left_gs g hf _ ?_
  rw [dsets_len (getDD hq)]
  omega
theorem ex_l1 {s : Nat} (hs : s ≤ 1000000) (w0 s0 : List (List Int)) :
    loopOk (desk_story_explain_l1_step f most base fc rp [.i (s : Int), .i 18, .r s0, .r w0]) (desk_story_explain_l1_init f most base fc rp [.i (s : Int), .i 18, .r s0, .r w0]) ∧
    (((desk_story_explain_l1 f most base fc rp [.i (s : Int), .i 18, .r s0, .r w0]).1 = 1 ∧ ∃ q, q < (dsets rp.length (s : Int)).length ∧ (∀ j, j < q → (lw f base fc rp ((dsets rp.length (s : Int)).getD j [])).1 = 18) ∧ (lw f base fc rp ((dsets rp.length (s : Int)).getD q [])).1 ≠ 18 ∧
        gi (desk_story_explain_l1 f most base fc rp [.i (s : Int), .i 18, .r s0, .r w0]).2 1 = (lw f base fc rp ((dsets rp.length (s : Int)).getD q [])).1 ∧ gr (desk_story_explain_l1 f most base fc rp [.i (s : Int), .i 18, .r s0, .r w0]).2 2 = (lw f base fc rp ((dsets rp.length (s : Int)).getD q [])).2 ∧ gr (desk_story_explain_l1 f most base fc rp [.i (s : Int), .i 18, .r s0, .r w0]).2 3 = (dsets rp.length (s : Int)).getD q []) ∨
     ((desk_story_explain_l1 f most base fc rp [.i (s : Int), .i 18, .r s0, .r w0]).1 = 3 ∧ gi (desk_story_explain_l1 f most base fc rp [.i (s : Int), .i 18, .r s0, .r w0]).2 1 = 18 ∧ ∀ j, j < (dsets rp.length (s : Int)).length → (lw f base fc rp ((dsets rp.length (s : Int)).getD j [])).1 = 18)) := by
  refine loop_for (step := desk_story_explain_l1_step f most base fc rp [.i (s : Int), .i 18, .r s0, .r w0]) (dsets rp.length (s : Int)).length
    (fun j xs => ∃ set w, xs = [.i (j : Int), .i 18, .r set, .r w] ∧ ∀ q, q < j → (lw f base fc rp ((dsets rp.length (s : Int)).getD q [])).1 = 18)
    (fun res => (res.1 = 1 ∧ ∃ q, q < (dsets rp.length (s : Int)).length ∧ (∀ j, j < q → (lw f base fc rp ((dsets rp.length (s : Int)).getD j [])).1 = 18) ∧ (lw f base fc rp ((dsets rp.length (s : Int)).getD q [])).1 ≠ 18 ∧
        gi res.2 1 = (lw f base fc rp ((dsets rp.length (s : Int)).getD q [])).1 ∧ gr res.2 2 = (lw f base fc rp ((dsets rp.length (s : Int)).getD q [])).2 ∧ gr res.2 3 = (dsets rp.length (s : Int)).getD q []) ∨
      (res.1 = 3 ∧ gi res.2 1 = 18 ∧ ∀ j, j < (dsets rp.length (s : Int)).length → (lw f base fc rp ((dsets rp.length (s : Int)).getD j [])).1 = 18))
    (fun j xs hj ⟨set, w, e, h⟩ => ?_) (fun xs ⟨set, w, e, h⟩ => ?_) ⟨s0, w0, ?_, fun q hq => absurd hq (by omega)⟩
  · subst e
    obtain ⟨l1, l2, l3⟩ := left_ds g hf hm hs hj
    unfold desk_story_explain_l1_step
    simp only [gi_z, gi_1, dlt hj, Int.toNat_natCast, guardP_pos l1, l2, l3]
    by_cases h1 : (lw f base fc rp ((dsets rp.length (s : Int)).getD j [])).1 = 18
    · have b1 : ((lw f base fc rp ((dsets rp.length (s : Int)).getD j [])).1 != (18 : Int)) = false := by rw [bne_eq_false_iff_eq]; exact h1
      rw [b1, cond_false, h1]
      refine .inl ⟨_, rfl, _, _, rfl, fun q hq => ?_⟩
      by_cases e : q = j
      · subst e; exact h1
      · exact h q (by omega)
    · have b1 : ((lw f base fc rp ((dsets rp.length (s : Int)).getD j [])).1 != (18 : Int)) = true := by rw [bne_iff_ne]; exact h1
      rw [b1, cond_true]
      exact .inr ⟨0, _, rfl, .inl ⟨rfl, j, hj, h, h1, by rw [gi_1, gi_z], by rw [gr_2, gr_z], by rw [gr_3, gr_z]⟩⟩
  · subst e
    refine ⟨2, [.i ((dsets rp.length (s : Int)).length : Int), .i 18, .r set, .r w], ?_, .inr ⟨rfl, by rw [gi_1, gi_z], h⟩⟩
    unfold desk_story_explain_l1_step
    simp only [gi_z, gi_1, gr_2, gr_3, gr_z, dnlt]
  · unfold desk_story_explain_l1_init
    rw [gi_1, gi_z, gr_2, gr_z, gr_3, gr_z]
    rfl
theorem ex_l0 (hl : rp.length ≤ 12) :
    loopOk (desk_story_explain_l0_step f most base fc rp) (desk_story_explain_l0_init f most base fc rp) ∧
    (((desk_story_explain_l0 f most base fc rp).1 = 1 ∧ ∃ w, (alls rp.length (most.toNat + 1)).find? (fun w => (lw f base fc rp w).1 != 18) = some w ∧ gi (desk_story_explain_l0 f most base fc rp).2 1 = (lw f base fc rp w).1 ∧ gr (desk_story_explain_l0 f most base fc rp).2 2 = (lw f base fc rp w).2 ∧ gr (desk_story_explain_l0 f most base fc rp).2 3 = w) ∨
     ((desk_story_explain_l0 f most base fc rp).1 = 3 ∧ (alls rp.length (most.toNat + 1)).find? (fun w => (lw f base fc rp w).1 != 18) = none ∧ gi (desk_story_explain_l0 f most base fc rp).2 1 = 18)) := by
  refine loop_for (step := desk_story_explain_l0_step f most base fc rp) (most.toNat + 1)
    (fun s xs => ∃ set w, xs = [.i (s : Int), .i 18, .r set, .r w] ∧ ∀ x ∈ alls rp.length s, (lw f base fc rp x).1 = 18)
    (fun res => (res.1 = 1 ∧ ∃ w, (alls rp.length (most.toNat + 1)).find? (fun w => (lw f base fc rp w).1 != 18) = some w ∧ gi res.2 1 = (lw f base fc rp w).1 ∧ gr res.2 2 = (lw f base fc rp w).2 ∧ gr res.2 3 = w) ∨
      (res.1 = 3 ∧ (alls rp.length (most.toNat + 1)).find? (fun w => (lw f base fc rp w).1 != 18) = none ∧ gi res.2 1 = 18))
    (fun s xs hs ⟨set, w, e, h⟩ => ?_) (fun xs ⟨set, w, e, h⟩ => ?_) ⟨[], [], rfl, fun x hx => by cases hx⟩
  · subst e
    obtain ⟨l1, l2⟩ := ex_l1 g hf hm (s := s) (by omega) w set
    unfold desk_story_explain_l0_step
    simp only [gi_z, gi_1]
    rw [decide_eq_true (show (s : Int) ≤ most by omega), cond_true, guardP_pos (by omega), guardP_pos l1]
    rcases l2 with ⟨k1, q, k2, k3, k4, k5, k6, k7⟩ | ⟨k1, k2, k3⟩
    · rw [k1, k5, k6, k7]
      refine .inr ⟨0, _, rfl, .inl ⟨rfl, (dsets rp.length (s : Int)).getD q [], ?_, ?_, ?_, ?_⟩⟩
      · obtain ⟨R, hR⟩ := alls_split (m := rp.length) hs
        have hD := dropDD k2
        have e2 : alls rp.length (most.toNat + 1) = (alls rp.length s ++ (dsets rp.length (s : Int)).take q) ++ (dsets rp.length (s : Int)).getD q [] :: ((dsets rp.length (s : Int)).drop (q + 1) ++ R) := by
          rw [hR]
          generalize dsets rp.length (s : Int) = D at hD ⊢
          conv => lhs; rw [hD]
          simp
        rw [e2]
        refine find_split (fun x hx => ?_) (by rw [bne_iff_ne]; exact k4)
        rw [bne_eq_false_iff_eq]
        rcases List.mem_append.1 hx with hx | hx
        · exact h x hx
        · obtain ⟨j, j1, _, rfl⟩ := mem_takeDD hx
          exact k3 j j1
      · rw [gi_1, gi_z]
      · rw [gr_2, gr_z]
      · rw [gr_3, gr_z]
    · rw [k1, k2]
      refine .inl ⟨_, by rw [wrap_succ (show s < 4611686018427387904 by omega)]; rfl, _, _, rfl, fun x hx => ?_⟩
      rcases List.mem_append.1 hx with hx | hx
      · exact h x hx
      · exact all_getDD (P := fun x => (lw f base fc rp x).1 = 18) k3 x hx
  · subst e
    refine ⟨2, [.i ((most.toNat + 1 : Nat) : Int), .i 18, .r set, .r w], ?_, .inr ⟨rfl, ?_, by rw [gi_1, gi_z]⟩⟩
    · unfold desk_story_explain_l0_step
      simp only [gi_z, gi_1, gr_2, gr_3, gr_z]
      rw [decide_eq_false (show ¬ ((most.toNat + 1 : Nat) : Int) ≤ most by omega), cond_false]
    · exact List.find?_eq_none.2 fun x hx => by rw [h x hx]; simp
end
/-- What Explain returns. -/
noncomputable def exR (f most : Int) (base fc rp : List (List Int)) : List (List Int) × List (List Int) × Int :=
  if askE f most base fc rp ≠ 0 then ([], [], askE f most base fc rp)
  else match (alls rp.length (most.toNat + 1)).find? (fun w => (lw f base fc rp w).1 != 18) with
    | none => ([], [], 18)
    | some w => if (lw f base fc rp w).1 ≠ 0 then ([], [], (lw f base fc rp w).1) else (w, (lw f base fc rp w).2, 0)
theorem explain_is (f most : Int) (base fc rp : List (List Int)) (h13 : Si.El13 rp) (hf : fc.length ≤ 9223372036854775807) :
    desk_story_explain_pre f most base fc rp ∧ desk_story_explain_0 f most base fc rp = (exR f most base fc rp).1 ∧ desk_story_explain_1 f most base fc rp = (exR f most base fc rp).2.1 ∧ desk_story_explain_2 f most base fc rp = (exR f most base fc rp).2.2 := by
  obtain ⟨a1, a2⟩ := asked_is f most base fc rp h13 hf
  unfold desk_story_explain_pre desk_story_explain_0 desk_story_explain_1 desk_story_explain_2 exR
  rw [a2]
  by_cases h : askE f most base fc rp = 0
  · obtain ⟨_, g, m0, m3, hl⟩ := ask_ok h
    obtain ⟨l1, l2⟩ := ex_l0 g hf ⟨m0, m3⟩ hl
    rw [if_neg (fun k => k h), h]
    refine ⟨⟨a1, fun _ => l1⟩, ?_⟩
    have z0 : ((0 : Int) != 0) = false := rfl
    rw [z0, cond_false, cond_false, cond_false]
    unfold desk_story_explain_s0 desk_story_explain_s1 desk_story_explain_s2
    rcases l2 with ⟨k1, w, k2, k3, k4, k5⟩ | ⟨k1, k2, k3⟩
    · rw [k1, k2, k3, k4, k5]
      show _ = (if (lw f base fc rp w).1 ≠ 0 then (([], [], (lw f base fc rp w).1) : List (List Int) × List (List Int) × Int) else (w, (lw f base fc rp w).2, 0)).1 ∧ _ = (if (lw f base fc rp w).1 ≠ 0 then (([], [], (lw f base fc rp w).1) : List (List Int) × List (List Int) × Int) else (w, (lw f base fc rp w).2, 0)).2.1 ∧ _ = (if (lw f base fc rp w).1 ≠ 0 then (([], [], (lw f base fc rp w).1) : List (List Int) × List (List Int) × Int) else (w, (lw f base fc rp w).2, 0)).2.2
      by_cases h1 : (lw f base fc rp w).1 = 0
      · rw [if_neg (fun k => k h1), h1]; exact ⟨rfl, rfl, rfl⟩
      · have b1 : ((lw f base fc rp w).1 != (0 : Int)) = true := by rw [bne_iff_ne]; exact h1
        rw [if_pos h1, b1]; exact ⟨rfl, rfl, rfl⟩
    · rw [k1, k2, k3]; exact ⟨rfl, rfl, rfl⟩
  · have b : (askE f most base fc rp != (0 : Int)) = true := by rw [bne_iff_ne]; exact h
    rw [if_pos h, b]
    exact ⟨⟨a1, fun k => (by cases k)⟩, rfl, rfl, rfl⟩
end Go.Proofs.YtnijhjpaplihbaaGreat

/-!
  Package desk: Where.
-/
set_option linter.unusedVariables false
namespace Go.Proofs.YtnijhjpaplihbaaGreat
open Go Go.Sy

def okE (e : Int) : Prop := e = 0 ∨ e = 18
instance (e : Int) : Decidable (okE e) := by unfold okE; infer_instance
theorem ok_bool (e : Int) : (e != (0 : Int) && e != (18 : Int)) = !decide (okE e) := by
  by_cases h : okE e
  · rw [decide_eq_true h]
    unfold okE at h
    rcases h with rfl | rfl <;> rfl
  · rw [decide_eq_false h]
    unfold okE at h
    rw [Bool.not_false, Bool.and_eq_true, bne_iff_ne, bne_iff_ne]
    exact ⟨fun k => h (.inl k), fun k => h (.inr k)⟩
/-- Two boxes joined. -/
def hul (a b : List Int) : List Int := [min (a.getD 0 0) (b.getD 0 0), max (a.getD 1 0) (b.getD 1 0), min (a.getD 2 0) (b.getD 2 0), max (a.getD 3 0) (b.getD 3 0)]
def q4 (b : List Int) : List Int := [b.getD 0 0, b.getD 1 0, b.getD 2 0, b.getD 3 0]
def hull : List (List Int) → List Int
  | [] => [0, 0, 0, 0]
  | b :: l => l.foldl hul (q4 b)
theorem vb_hul {a b : List Int} (h1 : VB a) (h2 : VB b) : VB (hul a b) := by
  unfold VB hul at *
  simp only [List.getD_cons_zero, List.getD_cons_succ]
  omega
theorem vb_q4 {b : List Int} : VB (q4 b) ↔ VB b := Iff.rfl
theorem join_is {a b : List Int} (h1 : VB a) (h2 : VB b) :
    span_JoinBox_4 (a.getD 0 0) (a.getD 1 0) (a.getD 2 0) (a.getD 3 0) (b.getD 0 0) (b.getD 1 0) (b.getD 2 0) (b.getD 3 0) = 0 ∧
    span_JoinBox_0 (a.getD 0 0) (a.getD 1 0) (a.getD 2 0) (a.getD 3 0) (b.getD 0 0) (b.getD 1 0) (b.getD 2 0) (b.getD 3 0) = (hul a b).getD 0 0 ∧
    span_JoinBox_1 (a.getD 0 0) (a.getD 1 0) (a.getD 2 0) (a.getD 3 0) (b.getD 0 0) (b.getD 1 0) (b.getD 2 0) (b.getD 3 0) = (hul a b).getD 1 0 ∧
    span_JoinBox_2 (a.getD 0 0) (a.getD 1 0) (a.getD 2 0) (a.getD 3 0) (b.getD 0 0) (b.getD 1 0) (b.getD 2 0) (b.getD 3 0) = (hul a b).getD 2 0 ∧
    span_JoinBox_3 (a.getD 0 0) (a.getD 1 0) (a.getD 2 0) (a.getD 3 0) (b.getD 0 0) (b.getD 1 0) (b.getD 2 0) (b.getD 3 0) = (hul a b).getD 3 0 := by
  have v1 := vb_eq a
  have v2 := vb_eq b
  rw [decide_eq_true h1] at v1
  rw [decide_eq_true h2] at v2
  unfold VB at h1 h2
  unfold span_JoinBox_4 span_JoinBox_0 span_JoinBox_1 span_JoinBox_2 span_JoinBox_3
  rw [v1, v2]
  rcases Si.join_cases (a.getD 0 0) (a.getD 1 0) (b.getD 0 0) (b.getD 1 0) with ⟨_, _, x0, x1, x2⟩ | ⟨k, _⟩
  · rcases Si.join_cases (a.getD 2 0) (a.getD 3 0) (b.getD 2 0) (b.getD 3 0) with ⟨_, _, y0, y1, y2⟩ | ⟨k, _⟩
    · rw [x0, x1, x2, y0, y1, y2]
      exact ⟨rfl, rfl, rfl, rfl, rfl⟩
    · exfalso; apply k; unfold Si.V; omega
  · exfalso; apply k; unfold Si.V; omega
theorem flat_len {g : List (List Int) → List (List Int)} (h : ∀ w, (g w).length ≤ 16) : ∀ L : List (List (List Int)), (L.flatMap g).length ≤ 16 * L.length
  | [] => Nat.zero_le _
  | a :: L => by
    rw [List.flatMap_cons, List.length_append, List.length_cons]
    have := h a
    have := flat_len h L
    omega
section
variable {f most : Int} {base fc rp : List (List Int)} (g : GS f base fc rp) (hf : fc.length ≤ 9223372036854775807) (hm : 0 ≤ most ∧ most ≤ 3)
include g in
theorem lw_len (w : List (List Int)) : (lw f base fc rp w).2.length ≤ 16 := by
  obtain ⟨h1, h2⟩ := lg_vl fc w rp 0 base f g.vl g.rv
  unfold lw
  by_cases h : (lg fc w rp 0 base f).1 = 0
  · exact (h1 h).2.1
  · rw [h2 h]; exact Nat.zero_le _
include g in
theorem lw_vb {w : List (List Int)} : ∀ b ∈ (lw f base fc rp w).2, VB b := by
  obtain ⟨h1, h2⟩ := lg_vl fc w rp 0 base f g.vl g.rv
  unfold lw
  by_cases h : (lg fc w rp 0 base f).1 = 0
  · exact (h1 h).2.2
  · rw [h2 h]; intro b hb; cases hb
include g hf hm
theorem wh_l1 (hl : rp.length ≤ 12) {s : Nat} (hs : s ≤ 3) (A : List (List Int)) (hA : A.length ≤ 16 * (s * 2 ^ rp.length)) :
    loopOk (desk_Where_l1_step f most base fc rp [.i (s : Int), .r A]) (desk_Where_l1_init f most base fc rp [.i (s : Int), .r A]) ∧
    (((desk_Where_l1 f most base fc rp [.i (s : Int), .r A]).1 = 1 ∧ ∃ w ∈ dsets rp.length (s : Int), ¬ okE (lw f base fc rp w).1 ∧ gi (desk_Where_l1 f most base fc rp [.i (s : Int), .r A]).2 1 = (lw f base fc rp w).1) ∨
     ((desk_Where_l1 f most base fc rp [.i (s : Int), .r A]).1 = 3 ∧ (∀ w ∈ dsets rp.length (s : Int), okE (lw f base fc rp w).1) ∧ gr (desk_Where_l1 f most base fc rp [.i (s : Int), .r A]).2 1 = A ++ (dsets rp.length (s : Int)).flatMap fun w => (lw f base fc rp w).2)) := by
  have hc := dsets_count rp.length (s : Int)
  have h2 : 2 ^ rp.length ≤ 2 ^ 12 := Nat.pow_le_pow_right (by decide) hl
  refine loop_for (step := desk_Where_l1_step f most base fc rp [.i (s : Int), .r A]) (dsets rp.length (s : Int)).length
    (fun j xs => xs = [.i (j : Int), .r (A ++ ((dsets rp.length (s : Int)).take j).flatMap fun w => (lw f base fc rp w).2)] ∧ ∀ q, q < j → okE (lw f base fc rp ((dsets rp.length (s : Int)).getD q [])).1)
    (fun res => (res.1 = 1 ∧ ∃ w ∈ dsets rp.length (s : Int), ¬ okE (lw f base fc rp w).1 ∧ gi res.2 1 = (lw f base fc rp w).1) ∨
     (res.1 = 3 ∧ (∀ w ∈ dsets rp.length (s : Int), okE (lw f base fc rp w).1) ∧ gr res.2 1 = A ++ (dsets rp.length (s : Int)).flatMap fun w => (lw f base fc rp w).2))
    (fun j xs hj ⟨e, h⟩ => ?_) (fun xs ⟨e, h⟩ => ?_) ⟨?_, fun q hq => absurd hq (by omega)⟩
  · subst e
    obtain ⟨l1, l2, l3⟩ := left_ds g hf hm (show s ≤ 1000000 by omega) hj
    unfold desk_Where_l1_step
    simp only [gi_z, gr_1, gr_z, dlt hj, Int.toNat_natCast, guardP_pos l1, l2, l3, ok_bool]
    by_cases h1 : okE (lw f base fc rp ((dsets rp.length (s : Int)).getD j [])).1
    · rw [decide_eq_true h1, Bool.not_true, cond_false]
      rw [guardP_pos (by
        have := flat_len (g := fun w => (lw f base fc rp w).2) (lw_len g) ((dsets rp.length (s : Int)).take j)
        have := lw_len g ((dsets rp.length (s : Int)).getD j [])
        rw [List.length_take] at *
        rw [List.length_append]
        have : s * 2 ^ rp.length ≤ 3 * 2 ^ rp.length := Nat.mul_le_mul_right _ hs
        unfold fitsA maxLen
        omega)]
      refine .inl ⟨_, rfl, ?_, fun q hq => ?_⟩
      · rw [takeDD hj, List.flatMap_append, List.append_assoc]
        simp
      · by_cases e : q = j
        · subst e; exact h1
        · exact h q (by omega)
    · rw [decide_eq_false h1, Bool.not_false, cond_true]
      exact .inr ⟨0, _, rfl, .inl ⟨rfl, _, getDD hj, h1, by rw [gi_1, gi_z]⟩⟩
  · subst e
    refine ⟨2, [.i ((dsets rp.length (s : Int)).length : Int), .r (A ++ (dsets rp.length (s : Int)).flatMap fun w => (lw f base fc rp w).2)], ?_, .inr ⟨rfl, all_getDD (P := fun w => okE (lw f base fc rp w).1) h, by rw [gr_1, gr_z]⟩⟩
    unfold desk_Where_l1_step
    simp only [gi_z, gr_1, gr_z, dnlt, List.take_length]
  · unfold desk_Where_l1_init
    rw [gr_1, gr_z, List.take_zero]
    simp
theorem wh_l0 (hl : rp.length ≤ 12) :
    loopOk (desk_Where_l0_step f most base fc rp) (desk_Where_l0_init f most base fc rp) ∧
    (((desk_Where_l0 f most base fc rp).1 = 1 ∧ ∃ w ∈ alls rp.length (most.toNat + 1), ¬ okE (lw f base fc rp w).1 ∧ gi (desk_Where_l0 f most base fc rp).2 0 = (lw f base fc rp w).1) ∨
     ((desk_Where_l0 f most base fc rp).1 = 3 ∧ (∀ w ∈ alls rp.length (most.toNat + 1), okE (lw f base fc rp w).1) ∧ gr (desk_Where_l0 f most base fc rp).2 1 = (alls rp.length (most.toNat + 1)).flatMap fun w => (lw f base fc rp w).2)) := by
  refine loop_for (step := desk_Where_l0_step f most base fc rp) (most.toNat + 1)
    (fun s xs => xs = [.i (s : Int), .r ((alls rp.length s).flatMap fun w => (lw f base fc rp w).2)] ∧ ∀ x ∈ alls rp.length s, okE (lw f base fc rp x).1)
    (fun res => (res.1 = 1 ∧ ∃ w ∈ alls rp.length (most.toNat + 1), ¬ okE (lw f base fc rp w).1 ∧ gi res.2 0 = (lw f base fc rp w).1) ∨
     (res.1 = 3 ∧ (∀ w ∈ alls rp.length (most.toNat + 1), okE (lw f base fc rp w).1) ∧ gr res.2 1 = (alls rp.length (most.toNat + 1)).flatMap fun w => (lw f base fc rp w).2))
    (fun s xs hs ⟨e, h⟩ => ?_) (fun xs ⟨e, h⟩ => ?_) ⟨rfl, fun x hx => by cases hx⟩
  · subst e
    have hA : ((alls rp.length s).flatMap fun w => (lw f base fc rp w).2).length ≤ 16 * (s * 2 ^ rp.length) :=
      Nat.le_trans (flat_len (lw_len g) _) (Nat.mul_le_mul_left _ (alls_count _ _))
    obtain ⟨l1, l2⟩ := wh_l1 g hf hm hl (s := s) (by omega) _ hA
    unfold desk_Where_l0_step
    simp only [gi_z]
    rw [decide_eq_true (show (s : Int) ≤ most by omega), cond_true, guardP_pos (by omega), guardP_pos l1]
    rcases l2 with ⟨k1, w, k2, k3, k4⟩ | ⟨k1, k2, k3⟩
    · rw [k1, k4]
      exact .inr ⟨0, _, rfl, .inl ⟨rfl, w, mem_alls.2 ⟨s, hs, k2⟩, k3, by rw [gi_z]⟩⟩
    · rw [k1, k3]
      refine .inl ⟨_, by rw [wrap_succ (show s < 4611686018427387904 by omega)]; rfl, ?_, fun x hx => ?_⟩
      · show _ = [U.i ((s + 1 : Nat) : Int), U.r ((alls rp.length s ++ dsets rp.length (s : Int)).flatMap fun w => (lw f base fc rp w).2)]
        rw [List.flatMap_append]
      · rcases List.mem_append.1 hx with hx | hx
        · exact h x hx
        · exact k2 x hx
  · subst e
    refine ⟨2, [.i ((most.toNat + 1 : Nat) : Int), .r ((alls rp.length (most.toNat + 1)).flatMap fun w => (lw f base fc rp w).2)], ?_, .inr ⟨rfl, h, by rw [gr_1, gr_z]⟩⟩
    unfold desk_Where_l0_step
    simp only [gi_z, gr_1, gr_z]
    rw [decide_eq_false (show ¬ ((most.toNat + 1 : Nat) : Int) ≤ most by omega), cond_false]
end
theorem hull_take {L : List (List Int)} {j : Nat} (h : j + 1 < L.length) : hull (L.take (j + 2)) = hul (hull (L.take (j + 1))) (L.getD (j + 1) []) := by
  match L, h with
  | b :: L, h =>
    have h' : j < L.length := by simpa using h
    show (L.take (j + 1)).foldl hul (q4 b) = hul ((L.take j).foldl hul (q4 b)) (L.getD j [])
    rw [take_succ' h', List.foldl_append]
    rfl
theorem vb_fold : ∀ (L : List (List Int)) (a : List Int), VB a → (∀ b ∈ L, VB b) → VB (L.foldl hul a)
  | [], a, h, _ => h
  | x :: L, a, h, hL => vb_fold L (hul a x) (vb_hul h (hL x (by simp))) (fun y hy => hL y (by simp [hy]))
theorem vb_hull : ∀ {L : List (List Int)}, L ≠ [] → (∀ b ∈ L, VB b) → VB (hull L)
  | [], h, _ => absurd rfl h
  | b :: L, _, h => by
    show VB (L.foldl hul (q4 b))
    have hb : VB (q4 b) := vb_q4.2 (h b (by simp))
    have hL : ∀ b ∈ L, VB b := fun x hx => h x (by simp [hx])
    exact vb_fold L (q4 b) hb hL
theorem wh_l2 (f most : Int) (base fc rp : List (List Int)) {L : List (List Int)} (e : gr (desk_Where_l0 f most base fc rp).2 1 = L) (hn : L ≠ []) (hb : ∀ b ∈ L, VB b) (hlen : L.length ≤ 4611686018427387903) :
    loopOk (desk_Where_l2_step f most base fc rp) (desk_Where_l2_init f most base fc rp) ∧
    (desk_Where_l2 f most base fc rp).1 = 3 ∧ gi (desk_Where_l2 f most base fc rp).2 1 = (hull L).getD 0 0 ∧ gi (desk_Where_l2 f most base fc rp).2 2 = (hull L).getD 1 0 ∧ gi (desk_Where_l2 f most base fc rp).2 3 = (hull L).getD 2 0 ∧ gi (desk_Where_l2 f most base fc rp).2 4 = (hull L).getD 3 0 := by
  have hpos : 0 < L.length := by
    cases L with
    | nil => exact absurd rfl hn
    | cons a L => simp
  have e0 : desk_Where_s0 f most base fc rp = ((L.length - 1 : Nat) : Int) := by
    unfold desk_Where_s0
    rw [e]
    simp only [boundsA, loN]
    omega
  have h0 : desk_Where_l2_init f most base fc rp = [.i 0, .i ((hull (L.take 1)).getD 0 0), .i ((hull (L.take 1)).getD 1 0), .i ((hull (L.take 1)).getD 2 0), .i ((hull (L.take 1)).getD 3 0)] := by
    unfold desk_Where_l2_init
    rw [e]
    match L, hpos with
    | b :: L, _ => rfl
  have key := loop_fold (σ := Unit) (step := desk_Where_l2_step f most base fc rp) (L.length - 1)
    (fun j _ => [.i (j : Int), .i ((hull (L.take (j + 1))).getD 0 0), .i ((hull (L.take (j + 1))).getD 1 0), .i ((hull (L.take (j + 1))).getD 2 0), .i ((hull (L.take (j + 1))).getD 3 0)]) (fun _ s => s) (fun _ _ => True) 2
    (fun _ => [.i ((L.length - 1 : Nat) : Int), .i ((hull L).getD 0 0), .i ((hull L).getD 1 0), .i ((hull L).getD 2 0), .i ((hull L).getD 3 0)])
    (fun _ _ _ _ => trivial)
    (fun j _ hj _ => by
      have hj' : j + 1 < L.length := by omega
      have esh : shI (boundsA (L.length : Int) (some 1) none).2.1 (j : Int) = ((j + 1 : Nat) : Int) := by
        simp only [boundsA, shI]
        show ((1 : Nat) : Int) + (j : Int) = _
        omega
      have hv1 : VB (hull (L.take (j + 1))) := vb_hull (by
        intro k
        have := congrArg List.length k
        rw [List.length_take, List.length_nil] at this
        omega) (fun b hb' => hb b (List.mem_of_mem_take hb'))
      have hv2 := hb _ (getD_mem hj')
      obtain ⟨j4, j0, j1, j2, j3⟩ := join_is hv1 hv2
      have s_1 : desk_Where_s1 f most base fc rp [.i (j : Int), .i ((hull (L.take (j + 1))).getD 0 0), .i ((hull (L.take (j + 1))).getD 1 0), .i ((hull (L.take (j + 1))).getD 2 0), .i ((hull (L.take (j + 1))).getD 3 0)] = (L.getD (j + 1) []).getD 0 0 := by
        unfold desk_Where_s1; rw [e, gi_z, esh, Int.toNat_natCast]
      have s_2 : desk_Where_s2 f most base fc rp [.i (j : Int), .i ((hull (L.take (j + 1))).getD 0 0), .i ((hull (L.take (j + 1))).getD 1 0), .i ((hull (L.take (j + 1))).getD 2 0), .i ((hull (L.take (j + 1))).getD 3 0)] = (L.getD (j + 1) []).getD 1 0 := by
        unfold desk_Where_s2; rw [e, gi_z, esh, Int.toNat_natCast]
      have s_3 : desk_Where_s3 f most base fc rp [.i (j : Int), .i ((hull (L.take (j + 1))).getD 0 0), .i ((hull (L.take (j + 1))).getD 1 0), .i ((hull (L.take (j + 1))).getD 2 0), .i ((hull (L.take (j + 1))).getD 3 0)] = (L.getD (j + 1) []).getD 2 0 := by
        unfold desk_Where_s3; rw [e, gi_z, esh, Int.toNat_natCast]
      have s_4 : desk_Where_s4 f most base fc rp [.i (j : Int), .i ((hull (L.take (j + 1))).getD 0 0), .i ((hull (L.take (j + 1))).getD 1 0), .i ((hull (L.take (j + 1))).getD 2 0), .i ((hull (L.take (j + 1))).getD 3 0)] = (L.getD (j + 1) []).getD 3 0 := by
        unfold desk_Where_s4; rw [e, gi_z, esh, Int.toNat_natCast]
      unfold desk_Where_l2_step
      rw [e0, s_1, s_2, s_3, s_4, e]
      simp only [gi_z, gi_1, gi_2, gi_3, gi_4, esh, j0, j1, j2, j3, j4]
      rw [decide_eq_true (show (j : Int) < ((L.length - 1 : Nat) : Int) by omega), cond_true, guardP_pos, guardP_pos (inR_of hj'), wrap_succ (show j < 4611686018427387904 by omega)]
      · rw [hull_take hj']
        rfl
      · simp only [boundsA, loN]
        have : ((Int.toNat 1 : Nat) : Int) = 1 := rfl
        omega)
    (fun _ _ => by
      have e2 : L.length - 1 + 1 = L.length := by omega
      unfold desk_Where_l2_step
      rw [e0]
      simp only [gi_z, gi_1, gi_2, gi_3, gi_4, dnlt, e2, List.take_length])
    (s := ()) trivial
  have k1 : loopOk (desk_Where_l2_step f most base fc rp) (desk_Where_l2_init f most base fc rp) := by rw [h0]; exact key.1
  have k2 : desk_Where_l2 f most base fc rp = (3, [.i ((L.length - 1 : Nat) : Int), .i ((hull L).getD 0 0), .i ((hull L).getD 1 0), .i ((hull L).getD 2 0), .i ((hull L).getD 3 0)]) := by unfold desk_Where_l2; rw [h0]; exact key.2.1
  refine ⟨k1, ?_⟩
  rw [k2]
  simp only [gi_z, gi_1, gi_2, gi_3, gi_4, and_self]
/-- Where, in cases. -/
theorem where_is (f most : Int) (base fc rp : List (List Int)) (h13 : Si.El13 rp) (hf : fc.length ≤ 9223372036854775807) :
    desk_Where_pre f most base fc rp ∧
    ((askE f most base fc rp ≠ 0 ∧ desk_Where_4 f most base fc rp = askE f most base fc rp) ∨
     (askE f most base fc rp = 0 ∧ ∃ w ∈ alls rp.length (most.toNat + 1), ¬ okE (lw f base fc rp w).1 ∧ desk_Where_4 f most base fc rp = (lw f base fc rp w).1) ∨
     (askE f most base fc rp = 0 ∧ (∀ w ∈ alls rp.length (most.toNat + 1), okE (lw f base fc rp w).1) ∧ ((alls rp.length (most.toNat + 1)).flatMap fun w => (lw f base fc rp w).2) = [] ∧ desk_Where_4 f most base fc rp = 18) ∨
     (askE f most base fc rp = 0 ∧ (∀ w ∈ alls rp.length (most.toNat + 1), okE (lw f base fc rp w).1) ∧ ((alls rp.length (most.toNat + 1)).flatMap fun w => (lw f base fc rp w).2) ≠ [] ∧ desk_Where_4 f most base fc rp = 0 ∧
       desk_Where_0 f most base fc rp = (hull ((alls rp.length (most.toNat + 1)).flatMap fun w => (lw f base fc rp w).2)).getD 0 0 ∧ desk_Where_1 f most base fc rp = (hull ((alls rp.length (most.toNat + 1)).flatMap fun w => (lw f base fc rp w).2)).getD 1 0 ∧
       desk_Where_2 f most base fc rp = (hull ((alls rp.length (most.toNat + 1)).flatMap fun w => (lw f base fc rp w).2)).getD 2 0 ∧ desk_Where_3 f most base fc rp = (hull ((alls rp.length (most.toNat + 1)).flatMap fun w => (lw f base fc rp w).2)).getD 3 0)) := by
  obtain ⟨a1, a2⟩ := asked_is f most base fc rp h13 hf
  unfold desk_Where_pre desk_Where_4 desk_Where_0 desk_Where_1 desk_Where_2 desk_Where_3
  rw [a2]
  by_cases h : askE f most base fc rp = 0
  · obtain ⟨_, g, m0, m3, hl⟩ := ask_ok h
    obtain ⟨l1, l2⟩ := wh_l0 g hf ⟨m0, m3⟩ hl
    rw [h]
    have z0 : ((0 : Int) != 0) = false := rfl
    rw [z0]
    rcases l2 with ⟨k1, w, k2, k3, k4⟩ | ⟨k1, k2, k3⟩
    · rw [k1]
      exact ⟨⟨a1, fun _ => ⟨l1, fun k => (by cases k)⟩⟩, .inr (.inl ⟨rfl, w, k2, k3, k4⟩)⟩
    · unfold desk_Where_s5 desk_Where_s6 desk_Where_s7 desk_Where_s8 desk_Where_s9
      have hlen := Nat.le_trans (flat_len (g := fun w => (lw f base fc rp w).2) (lw_len g) (alls rp.length (most.toNat + 1))) (Nat.mul_le_mul_left _ (alls_count rp.length (most.toNat + 1)))
      have h2 : 2 ^ rp.length ≤ 2 ^ 12 := Nat.pow_le_pow_right (by decide) hl
      have h4 : (most.toNat + 1) * 2 ^ rp.length ≤ 4 * 2 ^ 12 := Nat.mul_le_mul (by omega) h2
      have hlen2 : ((alls rp.length (most.toNat + 1)).flatMap fun w => (lw f base fc rp w).2).length ≤ 4611686018427387903 := by omega
      have hb : ∀ b ∈ ((alls rp.length (most.toNat + 1)).flatMap fun w => (lw f base fc rp w).2), VB b := by
        intro b hb
        obtain ⟨w, _, hb⟩ := List.mem_flatMap.1 hb
        exact lw_vb g b hb
      revert hlen2 hb k3
      clear hlen
      generalize (alls rp.length (most.toNat + 1)).flatMap (fun w => (lw f base fc rp w).2) = L
      intro k3 hlen hb
      rw [k1]
      by_cases hn : L = []
      · subst hn
        rw [k3]
        exact ⟨⟨a1, fun _ => ⟨l1, fun _ k => (by cases k)⟩⟩, .inr (.inr (.inl ⟨rfl, k2, rfl, rfl⟩))⟩
      · have hpos : 0 < L.length := by
          cases L with
          | nil => exact absurd rfl hn
          | cons a L => simp
        obtain ⟨j0, j1, j2, j3, j4, j5⟩ := wh_l2 f most base fc rp k3 hn hb hlen
        have b0 : ((L.length : Int) == 0) = false := by rw [beq_eq_false_iff_ne]; omega
        have hr : inR (0 : Int) L := by unfold inR; omega
        rw [k3, b0, j1, j2, j3, j4, j5]
        refine ⟨⟨a1, fun _ => ⟨l1, fun _ _ => ⟨hr, hr, by omega, j0⟩⟩⟩, .inr (.inr (.inr ⟨rfl, k2, hn, rfl, rfl, rfl, rfl, rfl⟩))⟩
  · have b : (askE f most base fc rp != (0 : Int)) = true := by rw [bne_iff_ne]; exact h
    rw [b]
    exact ⟨⟨a1, fun k => (by cases k)⟩, .inl ⟨h, rfl⟩⟩
end Go.Proofs.YtnijhjpaplihbaaGreat

/-!
  Package desk: Named.
-/
set_option linter.unusedVariables false
namespace Go.Proofs.YtnijhjpaplihbaaGreat
open Go Go.Sy

section
variable (f most : Int) (base fc rp : List (List Int))
/-- The sets that Named looks at. -/
noncomputable def nD : List (List (List Int)) := dsets rp.length (((desk_story_explain_0 f most base fc rp).length : Nat) : Int)
def kp (W : List (List Int)) (e : List Int) : Bool := isW W (e.getD 0 0)
variable {f most base fc rp}
theorem nm_l2 {j : Nat} {out : List (List Int)} {W : List (List Int)} (eW : (nD f most base fc rp).getD j [] = W) (hw : W.length ≤ 9223372036854775806) (i : Nat) (x : U) :
    loopOk (desk_Named_l2_step f most base fc rp [.i (j : Int), .r out] [x, .i (i : Int)]) (desk_Named_l2_init f most base fc rp [.i (j : Int), .r out] [x, .i (i : Int)]) ∧
    decide ((bif (desk_Named_l2 f most base fc rp [.i (j : Int), .r out] [x, .i (i : Int)]).1.beq 1 then gi (desk_Named_l2 f most base fc rp [.i (j : Int), .r out] [x, .i (i : Int)]).2 0 else -1) ≥ (0 : Int)) = kp W (out.getD i []) := by
  have key := loop_search (step := desk_Named_l2_step f most base fc rp [.i (j : Int), .r out] [x, .i (i : Int)]) W.length (fun q => (out.getD i []).getD 0 0 == (W.getD q []).getD 0 0) (fun q => [.i 0, .i q]) (fun q => [.i q]) 0 2 [.i 0, .i W.length]
    (fun q hq => by
      unfold desk_Named_l2_step
      unfold nD at eW
      simp only [gi_1, gi_z, gr_1, gr_z, Int.toNat_natCast, eW, dlt hq, guardP_pos (inR_of hq), wrap_succ' (show q < 9223372036854775807 by omega)])
    (by
      unfold desk_Named_l2_step
      unfold nD at eW
      simp only [gi_1, gi_z, Int.toNat_natCast, eW, dnlt])
  refine ⟨key.1, ?_⟩
  rcases key.2 with ⟨q, q1, q2, q3, q4⟩ | ⟨q3, q4⟩
  · have e : desk_Named_l2 f most base fc rp [.i (j : Int), .r out] [x, .i (i : Int)] = (1, [.i q]) := q4
    rw [e]
    have : kp W (out.getD i []) = true := any_getD.2 ⟨q, q1, q2⟩
    rw [this]
    simp [Nat.beq, gi_z]
  · have e : desk_Named_l2 f most base fc rp [.i (j : Int), .r out] [x, .i (i : Int)] = (3, [.i 0, .i W.length]) := q4
    rw [e]
    have : kp W (out.getD i []) = false := by
      rw [Bool.eq_false_iff]
      intro h
      obtain ⟨q, hq, h2⟩ := any_getD.1 h
      rw [q3 q hq] at h2
      cases h2
    rw [this]
    simp [Nat.beq]
theorem nm_l4 {j : Nat} {l : List (List Int)} {out : U} {W : List (List Int)} (eW : (nD f most base fc rp).getD j [] = W) (hw : W.length ≤ 9223372036854775806) (i : Nat) (x : U) :
    loopOk (desk_Named_l4_step f most base fc rp [.i (j : Int), out] [x, .i (i : Int), .r l]) (desk_Named_l4_init f most base fc rp [.i (j : Int), out] [x, .i (i : Int), .r l]) ∧
    decide ((bif (desk_Named_l4 f most base fc rp [.i (j : Int), out] [x, .i (i : Int), .r l]).1.beq 1 then gi (desk_Named_l4 f most base fc rp [.i (j : Int), out] [x, .i (i : Int), .r l]).2 0 else -1) ≥ (0 : Int)) = kp W (l.getD i []) := by
  have key := loop_search (step := desk_Named_l4_step f most base fc rp [.i (j : Int), out] [x, .i (i : Int), .r l]) W.length (fun q => (l.getD i []).getD 0 0 == (W.getD q []).getD 0 0) (fun q => [.i 0, .i q]) (fun q => [.i q]) 0 2 [.i 0, .i W.length]
    (fun q hq => by
      unfold desk_Named_l4_step
      unfold nD at eW
      simp only [gi_1, gi_z, gr_2, gr_z, Int.toNat_natCast, eW, dlt hq, guardP_pos (inR_of hq), wrap_succ' (show q < 9223372036854775807 by omega)])
    (by
      unfold desk_Named_l4_step
      unfold nD at eW
      simp only [gi_1, gi_z, Int.toNat_natCast, eW, dnlt])
  refine ⟨key.1, ?_⟩
  rcases key.2 with ⟨q, q1, q2, q3, q4⟩ | ⟨q3, q4⟩
  · have e : desk_Named_l4 f most base fc rp [.i (j : Int), out] [x, .i (i : Int), .r l] = (1, [.i q]) := q4
    rw [e]
    have : kp W (l.getD i []) = true := any_getD.2 ⟨q, q1, q2⟩
    rw [this]
    simp [Nat.beq, gi_z]
  · have e : desk_Named_l4 f most base fc rp [.i (j : Int), out] [x, .i (i : Int), .r l] = (3, [.i 0, .i W.length]) := q4
    rw [e]
    have : kp W (l.getD i []) = false := by
      rw [Bool.eq_false_iff]
      intro h
      obtain ⟨q, hq, h2⟩ := any_getD.1 h
      rw [q3 q hq] at h2
      cases h2
    rw [this]
    simp [Nat.beq]
theorem nm_l1 {j : Nat} {out : List (List Int)} {W : List (List Int)} (eW : (nD f most base fc rp).getD j [] = W) (hw : W.length ≤ 9223372036854775806) (ho : out.length ≤ 1000) :
    loopOk (desk_Named_l1_step f most base fc rp [.i (j : Int), .r out]) (desk_Named_l1_init f most base fc rp [.i (j : Int), .r out]) ∧
    ((∃ i, i < out.length ∧ kp W (out.getD i []) = false ∧ (∀ q, q < i → kp W (out.getD q []) = true) ∧ (bif (desk_Named_l1 f most base fc rp [.i (j : Int), .r out]).1.beq 1 then gi (desk_Named_l1 f most base fc rp [.i (j : Int), .r out]).2 0 else -1) = (i : Int)) ∨
     ((∀ q, q < out.length → kp W (out.getD q []) = true) ∧ (bif (desk_Named_l1 f most base fc rp [.i (j : Int), .r out]).1.beq 1 then gi (desk_Named_l1 f most base fc rp [.i (j : Int), .r out]).2 0 else -1) = (-1 : Int))) := by
  have key := loop_search (step := desk_Named_l1_step f most base fc rp [.i (j : Int), .r out]) out.length (fun q => !kp W (out.getD q [])) (fun q => [.i 0, .i q]) (fun q => [.i q]) 0 2 [.i 0, .i out.length]
    (fun q hq => by
      obtain ⟨l1, l2⟩ := nm_l2 (out := out) eW hw q (.i 0)
      unfold desk_Named_l1_step
      simp only [gi_1, gi_z, gr_1, gr_z, Int.toNat_natCast, dlt hq, guardP_pos (inR_of hq), guardP_pos l1, l2, wrap_succ (show q < 4611686018427387904 by omega)])
    (by
      unfold desk_Named_l1_step
      simp only [gi_1, gi_z, gr_1, gr_z, dnlt])
  refine ⟨key.1, ?_⟩
  rcases key.2 with ⟨q, q1, q2, q3, q4⟩ | ⟨q3, q4⟩
  · have e : desk_Named_l1 f most base fc rp [.i (j : Int), .r out] = (1, [.i q]) := q4
    rw [e]
    exact .inl ⟨q, q1, by simpa using q2, fun p hp => by simpa using q3 p hp, by simp [Nat.beq, gi_z]⟩
  · have e : desk_Named_l1 f most base fc rp [.i (j : Int), .r out] = (3, [.i 0, .i out.length]) := q4
    rw [e]
    exact .inr ⟨fun p hp => by simpa using q3 p hp, by simp [Nat.beq]⟩
theorem set1 {l : List (List Int)} {a : List Int} (h : a.length = 1) (b : List Int) : setEl 1 b 0 [a.getD 0 0] = a := by
  match a, h with
  | [z], _ => rfl
theorem filter_one (p : List Int → Bool) (a : List Int) : [a].filter p = if p a = true then [a] else [] := by
  rw [List.filter_cons]; rfl
theorem nm_l3 {j : Nat} {O : List (List Int)} {W : List (List Int)} (eW : (nD f most base fc rp).getD j [] = W) (hw : W.length ≤ 9223372036854775806) (ho : O.length ≤ 1000) (h1 : ∀ e ∈ O, e.length = 1)
    {i0 : Nat} (hi : i0 < O.length) (hk : kp W (O.getD i0 []) = false) (hq : ∀ q, q < i0 → kp W (O.getD q []) = true)
    (hi0 : (bif (desk_Named_l1 f most base fc rp [.i (j : Int), .r O]).1.beq 1 then gi (desk_Named_l1 f most base fc rp [.i (j : Int), .r O]).2 0 else -1) = (i0 : Int)) :
    loopOk (desk_Named_l3_step f most base fc rp [.i (j : Int), .r O]) (desk_Named_l3_init f most base fc rp [.i (j : Int), .r O]) ∧
    ∃ (i : Nat) (x : Int) (l : List (List Int)), (desk_Named_l3 f most base fc rp [.i (j : Int), .r O]).2 = [.i (i : Int), .i x, .r l] ∧ i ≤ l.length ∧ l.length = O.length ∧ l.take i = O.filter (kp W) := by
  have hcl : ∀ q, q ≤ i0 → (O.take q).filter (kp W) = O.take q := fun q hq' => by
    rw [List.filter_eq_self]
    intro a ha
    obtain ⟨p, hp, rfl⟩ := List.getElem_of_mem ha
    rw [List.length_take] at hp
    have := hq p (by omega)
    rw [List.getD_eq_getElem?_getD, List.getElem?_eq_getElem (by omega)] at this
    rw [List.getElem_take]
    exact this
  refine loop_for (step := desk_Named_l3_step f most base fc rp [.i (j : Int), .r O]) (O.length - (i0 + 1))
    (fun k xs => ∃ (i : Nat) (l : List (List Int)), xs = [.i (i : Int), .i ((i0 + 1 + k : Nat) : Int), .r l] ∧ i ≤ i0 + 1 + k ∧ i0 + 1 + k ≤ O.length ∧ l.length = O.length ∧ l.take i = (O.take (i0 + 1 + k)).filter (kp W) ∧ (∀ q, i0 + 1 + k ≤ q → l.getD q [] = O.getD q []))
    (fun res => ∃ (i : Nat) (x : Int) (l : List (List Int)), res.2 = [.i (i : Int), .i x, .r l] ∧ i ≤ l.length ∧ l.length = O.length ∧ l.take i = O.filter (kp W))
    (fun k xs hk' ⟨i, l, e, p1, p2, p3, p4, p5⟩ => ?_) (fun xs ⟨i, l, e, p1, p2, p3, p4, p5⟩ => ?_) ⟨i0, O, ?_, by omega, by omega, rfl, ?_, fun q _ => rfl⟩
  · subst e
    obtain ⟨l1, l2⟩ := nm_l4 (l := l) (out := .r O) eW hw (i0 + 1 + k) (.i (i : Int))
    have hlt : i0 + 1 + k < l.length := by omega
    have hlt' : i0 + 1 + k < O.length := by omega
    have hO := h1 _ (getD_mem hlt')
    have eO := p5 (i0 + 1 + k) (by omega)
    have i1 : inR (i : Int) l := inR_of (by omega)
    have w1 := wrap_succ (show i0 + 1 + k < 4611686018427387904 by omega)
    have w2 := wrap_succ (show i < 4611686018427387904 by omega)
    unfold desk_Named_l3_step desk_Named_s0
    simp only [gi_z, gi_1, gr_2, gr_z, Int.toNat_natCast, dlt hlt, guardP_pos (inR_of hlt), guardP_pos l1, l2, guardP_pos i1, Bool.not_not, w1, w2, eO]
    have ht := take_succ' hlt'
    have hset : (l.set i (setEl 1 (l.getD i []) 0 [(O.getD (i0 + 1 + k) []).getD 0 0])) = l.set i (O.getD (i0 + 1 + k) []) := by rw [set1 (l := l) hO]
    rw [hset]
    cases hK : kp W (O.getD (i0 + 1 + k) []) with
    | true =>
      rw [cond_true]
      refine .inl ⟨_, rfl, i + 1, _, rfl, by omega, by omega, by rw [List.length_set]; exact p3, ?_, fun q hq' => ?_⟩
      · have e2 : i0 + 1 + (k + 1) = i0 + 1 + k + 1 := by omega
        rw [e2, ht, List.filter_append, ← p4, take_succ' (by rw [List.length_set]; omega)]
        congr 1
        · rw [List.take_set_of_le (Nat.le_refl _)]
        · rw [List.getD_eq_getElem?_getD, List.getElem?_set_self (by omega), filter_one, hK]
          rfl
      · rw [List.getD_eq_getElem?_getD, List.getElem?_set_ne (by omega), ← List.getD_eq_getElem?_getD]
        exact p5 q (by omega)
    | false =>
      rw [cond_false]
      refine .inl ⟨_, rfl, i, l, rfl, by omega, by omega, p3, ?_, fun q hq' => p5 q (by omega)⟩
      have e2 : i0 + 1 + (k + 1) = i0 + 1 + k + 1 := by omega
      rw [e2, ht, List.filter_append, ← p4, filter_one, hK]
      exact (List.append_nil _).symm
  · subst e
    have e2 : i0 + 1 + (O.length - (i0 + 1)) = l.length := by omega
    rw [e2]
    refine ⟨2, [.i (i : Int), .i (l.length : Int), .r l], ?_, i, _, l, rfl, by omega, p3, ?_⟩
    · unfold desk_Named_l3_step
      simp only [gi_z, gi_1, gr_2, gr_z, dnlt]
    · rw [p4, e2, p3, List.take_length]
  · unfold desk_Named_l3_init
    rw [hi0, wrap_succ (show i0 < 4611686018427387904 by omega), gr_1, gr_z]
  · rw [show i0 + 1 + 0 = i0 + 1 from rfl, take_succ' hi, List.filter_append, hcl i0 (Nat.le_refl _), filter_one, hk]
    exact (List.append_nil _).symm
/-- One round. -/
noncomputable def nmF (f : Int) (base fc rp : List (List Int)) (out W : List (List Int)) : List (List Int) := if (lw f base fc rp W).1 = 0 then out.filter (kp W) else out
theorem filter_all {O : List (List Int)} {p : List Int → Bool} (h : ∀ q, q < O.length → p (O.getD q []) = true) : O.filter p = O := by
  rw [List.filter_eq_self]
  intro a ha
  obtain ⟨q, hq, rfl⟩ := getD_of_mem ha
  exact h q hq
theorem nm_l0 (g : GS f base fc rp) (hf : fc.length ≤ 9223372036854775807) (hm : 0 ≤ most ∧ most ≤ 3) {n : Nat} (hn : (desk_story_explain_0 f most base fc rp).length = n) (hs : n ≤ 3) (h1 : ∀ e ∈ desk_story_explain_0 f most base fc rp, e.length = 1) :
    loopOk (desk_Named_l0_step f most base fc rp) (desk_Named_l0_init f most base fc rp) ∧
    (((desk_Named_l0 f most base fc rp).1 = 1 ∧ ∃ w ∈ dsets rp.length (n : Int), ¬ okE (lw f base fc rp w).1 ∧ gi (desk_Named_l0 f most base fc rp).2 1 = (lw f base fc rp w).1) ∨
     ((desk_Named_l0 f most base fc rp).1 = 5 ∧ (∀ w ∈ dsets rp.length (n : Int), okE (lw f base fc rp w).1) ∧ gr (desk_Named_l0 f most base fc rp).2 1 = (dsets rp.length (n : Int)).foldl (nmF f base fc rp) (desk_story_explain_0 f most base fc rp))) := by
  have eD : nD f most base fc rp = dsets rp.length (n : Int) := by unfold nD; rw [hn]
  refine loop_for (step := desk_Named_l0_step f most base fc rp) (dsets rp.length (n : Int)).length
    (fun j xs => ∃ out, xs = [.i (j : Int), .r out] ∧ out = ((dsets rp.length (n : Int)).take j).foldl (nmF f base fc rp) (desk_story_explain_0 f most base fc rp) ∧ (∀ e ∈ out, e.length = 1) ∧ out.length ≤ 3 ∧ ∀ q, q < j → okE (lw f base fc rp ((dsets rp.length (n : Int)).getD q [])).1)
    (fun res => (res.1 = 1 ∧ ∃ w ∈ dsets rp.length (n : Int), ¬ okE (lw f base fc rp w).1 ∧ gi res.2 1 = (lw f base fc rp w).1) ∨
     (res.1 = 5 ∧ (∀ w ∈ dsets rp.length (n : Int), okE (lw f base fc rp w).1) ∧ gr res.2 1 = (dsets rp.length (n : Int)).foldl (nmF f base fc rp) (desk_story_explain_0 f most base fc rp)))
    (fun j xs hj ⟨out, e, p1, p2, p3, p4⟩ => ?_) (fun xs ⟨out, e, p1, p2, p3, p4⟩ => ?_) ⟨desk_story_explain_0 f most base fc rp, rfl, rfl, h1, by omega, fun q hq => absurd hq (by omega)⟩
  · subst e
    obtain ⟨l1, l2, l3⟩ := left_ds g hf hm (show n ≤ 1000000 by omega) hj
    have hWl := dsets_len (getDD hj)
    have eW : (nD f most base fc rp).getD j [] = (dsets rp.length (n : Int)).getD j [] := by rw [eD]
    have hw : ((dsets rp.length (n : Int)).getD j []).length ≤ 9223372036854775806 := by omega
    have next : ∀ out', out' = nmF f base fc rp out ((dsets rp.length (n : Int)).getD j []) → okE (lw f base fc rp ((dsets rp.length (n : Int)).getD j [])).1 →
        ∃ o, [U.i ((j : Int) + 1), U.r out'] = [.i ((j + 1 : Nat) : Int), .r o] ∧ o = ((dsets rp.length (n : Int)).take (j + 1)).foldl (nmF f base fc rp) (desk_story_explain_0 f most base fc rp) ∧ (∀ e ∈ o, e.length = 1) ∧ o.length ≤ 3 ∧ ∀ q, q < j + 1 → okE (lw f base fc rp ((dsets rp.length (n : Int)).getD q [])).1 := fun out' ho hok => by
      refine ⟨out', rfl, ?_, ?_, ?_, fun q hq => ?_⟩
      · rw [takeDD hj, List.foldl_append, ← p1]; exact ho
      · rw [ho]; unfold nmF
        split
        · exact fun e he => p2 e (List.mem_filter.1 he).1
        · exact p2
      · rw [ho]; unfold nmF
        split
        · exact Nat.le_trans (List.length_filter_le _ _) p3
        · exact p3
      · by_cases e : q = j
        · subst e; exact hok
        · exact p4 q (by omega)
    unfold desk_Named_l0_step
    unfold nD at eD
    simp only [gi_z, gr_1, gr_z, eD, dlt hj, Int.toNat_natCast, guardP_pos l1, l2, l3, ok_bool]
    by_cases h1 : okE (lw f base fc rp ((dsets rp.length (n : Int)).getD j [])).1
    · rw [decide_eq_true h1, Bool.not_true, cond_false]
      by_cases h0 : (lw f base fc rp ((dsets rp.length (n : Int)).getD j [])).1 = 0
      · have b0 : ((lw f base fc rp ((dsets rp.length (n : Int)).getD j [])).1 == (0 : Int)) = true := by rw [beq_iff_eq]; exact h0
        obtain ⟨m1, m2⟩ := nm_l1 (out := out) eW hw (by omega)
        rw [b0, cond_true, guardP_pos m1]
        rcases m2 with ⟨i0, k1, k2, k3, k4⟩ | ⟨k1, k2⟩
        · obtain ⟨n1, i, x, l, n2, n3, n4, n5⟩ := nm_l3 eW hw (by omega) p2 k1 k2 k3 k4
          unfold desk_Named_s4 desk_Named_s3 desk_Named_s2 desk_Named_s1
          rw [k4, n2]
          have bm : ((i0 : Int) == -1) = false := by rw [beq_eq_false_iff_ne]; omega
          rw [bm, cond_false, guardP_pos n1]
          simp only [gi_z, gr_2, gr_z, boundsA, loN, Option.getD_some, Int.toNat_natCast]
          have el : (l.take i ++ List.replicate (l.length - i) [(0 : Int)] ++ l.drop l.length).length = l.length := by
            rw [List.length_append, List.length_append, List.length_take, List.length_replicate, List.length_drop]; omega
          rw [el, guardP_pos (by omega), guardP_pos (by omega), guardP_pos (by omega), guardP_pos (by omega)]
          refine .inl ⟨_, rfl, next _ ?_ h1⟩
          rw [List.append_assoc, List.take_append_of_le_length (by rw [List.length_take]; omega), List.take_take, Nat.min_self, n5]
          unfold nmF
          rw [if_pos h0]
        · rw [k2]
          have bm : ((-1 : Int) == -1) = true := rfl
          rw [bm, cond_true]
          refine .inl ⟨_, rfl, next _ ?_ h1⟩
          unfold nmF
          rw [if_pos h0, filter_all k1]
      · have b0 : ((lw f base fc rp ((dsets rp.length (n : Int)).getD j [])).1 == (0 : Int)) = false := by rw [beq_eq_false_iff_ne]; exact h0
        rw [b0, cond_false]
        refine .inl ⟨_, rfl, next _ ?_ h1⟩
        unfold nmF
        rw [if_neg h0]
    · rw [decide_eq_false h1, Bool.not_false, cond_true]
      exact .inr ⟨0, _, rfl, .inl ⟨rfl, _, getDD hj, h1, by rw [gi_1, gi_z]⟩⟩
  · subst e
    refine ⟨4, [.i ((dsets rp.length (n : Int)).length : Int), .r out], ?_, .inr ⟨rfl, all_getDD (P := fun w => okE (lw f base fc rp w).1) p4, by rw [gr_1, gr_z, p1, List.take_length]⟩⟩
    unfold desk_Named_l0_step
    unfold nD at eD
    simp only [gi_z, gr_1, gr_z, eD, dnlt]
end
/-- An explanation. -/
theorem ex_ok {f most : Int} {base fc rp : List (List Int)} (h : (exR f most base fc rp).2.2 = 0) : askE f most base fc rp = 0 ∧ (exR f most base fc rp).1 ∈ alls rp.length (most.toNat + 1) ∧
    (alls rp.length (most.toNat + 1)).find? (fun w => (lw f base fc rp w).1 != 18) = some (exR f most base fc rp).1 ∧ (lw f base fc rp (exR f most base fc rp).1).1 = 0 ∧ (exR f most base fc rp).2.1 = (lw f base fc rp (exR f most base fc rp).1).2 := by
  unfold exR at h ⊢
  by_cases ha : askE f most base fc rp = 0
  · rw [if_neg (fun k => k ha)] at h ⊢
    cases hF : (alls rp.length (most.toNat + 1)).find? (fun w => (lw f base fc rp w).1 != 18) with
    | none => rw [hF] at h; cases h
    | some w =>
      rw [hF] at h
      simp only at h ⊢
      by_cases h0 : (lw f base fc rp w).1 = 0
      · rw [if_neg (fun k => k h0)]
        exact ⟨ha, List.mem_of_find?_eq_some hF, rfl, h0, rfl⟩
      · rw [if_pos h0] at h
        exact absurd h h0
  · rw [if_pos ha] at h
    exact absurd h ha
theorem ex_bad {f most : Int} {base fc rp : List (List Int)} (h : (exR f most base fc rp).2.2 ≠ 0) : (exR f most base fc rp).1 = [] ∧ (exR f most base fc rp).2.1 = [] := by
  unfold exR at h ⊢
  by_cases ha : askE f most base fc rp = 0
  · rw [if_neg (fun k => k ha)] at h ⊢
    cases hF : (alls rp.length (most.toNat + 1)).find? (fun w => (lw f base fc rp w).1 != 18) with
    | none => exact ⟨rfl, rfl⟩
    | some w =>
      rw [hF] at h
      simp only at h ⊢
      by_cases h0 : (lw f base fc rp w).1 = 0
      · rw [if_neg (fun k => k h0)] at h; exact absurd rfl h
      · rw [if_pos h0]; exact ⟨rfl, rfl⟩
  · rw [if_pos ha]; exact ⟨rfl, rfl⟩
theorem alls_one {m n : Nat} {w : List (List Int)} (h : w ∈ alls m n) : w.length < n ∧ w ∈ dsets m (w.length : Int) ∧ ∀ e ∈ w, e.length = 1 := by
  obtain ⟨s, hs, hw⟩ := mem_alls.1 h
  have hl := dsets_len hw
  have hl' : w.length = s := by omega
  refine ⟨by omega, by rw [hl']; exact hw, ?_⟩
  obtain ⟨c, rfl, _⟩ := mem_dsets.1 hw
  intro e he
  unfold ofNums at he
  obtain ⟨z, _, rfl⟩ := List.mem_map.1 he
  rfl
theorem named_is (f most : Int) (base fc rp : List (List Int)) (h13 : Si.El13 rp) (hf : fc.length ≤ 9223372036854775807) :
    desk_Named_pre f most base fc rp ∧
    (((exR f most base fc rp).2.2 ≠ 0 ∧ desk_Named_1 f most base fc rp = (exR f most base fc rp).2.2 ∧ desk_Named_0 f most base fc rp = []) ∨
     ((exR f most base fc rp).2.2 = 0 ∧ (∃ w ∈ dsets rp.length ((exR f most base fc rp).1.length : Int), ¬ okE (lw f base fc rp w).1 ∧ desk_Named_1 f most base fc rp = (lw f base fc rp w).1) ∧ desk_Named_0 f most base fc rp = []) ∨
     ((exR f most base fc rp).2.2 = 0 ∧ (∀ w ∈ dsets rp.length ((exR f most base fc rp).1.length : Int), okE (lw f base fc rp w).1) ∧ desk_Named_1 f most base fc rp = 0 ∧
       desk_Named_0 f most base fc rp = (dsets rp.length ((exR f most base fc rp).1.length : Int)).foldl (nmF f base fc rp) (exR f most base fc rp).1)) := by
  obtain ⟨e1, e2, e3, e4⟩ := explain_is f most base fc rp h13 hf
  unfold desk_Named_pre desk_Named_1 desk_Named_0
  rw [e4]
  by_cases h : (exR f most base fc rp).2.2 = 0
  · obtain ⟨ha, hm, _⟩ := ex_ok h
    obtain ⟨_, g, m0, m3, hl⟩ := ask_ok ha
    obtain ⟨o1, o2, o3⟩ := alls_one hm
    have hs3 : (exR f most base fc rp).1.length ≤ 3 := by omega
    have hb : ((0 : Int) ≤ ((exR f most base fc rp).1.length : Int) ∧ ((exR f most base fc rp).1.length : Int) ≤ 1000000) ∧ (rp.length : Int) ≤ 1000000 := by omega
    obtain ⟨l1, l2⟩ := nm_l0 g hf ⟨m0, m3⟩ (n := (exR f most base fc rp).1.length) (by rw [e2]) hs3 (by rw [e2]; exact o3)
    rw [h, e2]
    have z0 : ((0 : Int) != 0) = false := rfl
    rw [z0]
    have pre : slices_Clone_int_pre (exR f most base fc rp).1 := ⟨fun k => ⟨trivial, by rw [k]; rfl, trivial⟩, by unfold fitsA maxLen; omega⟩
    refine ⟨⟨e1, fun _ => ⟨pre, hb, l1⟩⟩, ?_⟩
    rcases l2 with ⟨k1, w, k2, k3, k4⟩ | ⟨k1, k2, k3⟩
    · rw [k1, k4]
      exact .inr (.inl ⟨rfl, ⟨w, k2, k3, rfl⟩, rfl⟩)
    · rw [k1, k3, e2]
      exact .inr (.inr ⟨rfl, k2, rfl, rfl⟩)
  · have b : ((exR f most base fc rp).2.2 != (0 : Int)) = true := by rw [bne_iff_ne]; exact h
    rw [b]
    exact ⟨⟨e1, fun k => (by cases k)⟩, .inl ⟨h, rfl, rfl⟩⟩
end Go.Proofs.YtnijhjpaplihbaaGreat
