/- Several texts in one (wip/xiS.py): XDeskE XDeskF XDeskG. -/
import Derived.Test.YtnijhjpaplihbaaGreatDeskR
import Derived.Test.YtnijhjpaplihbaaGreatDesk3D
set_option linter.unusedVariables false
set_option linter.unusedSimpArgs false
set_option linter.unusedSectionVars false
namespace Go.Proofs.YtnijhjpaplihbaaGreat
open Go Go.Sy
theorem xw8 {m : Nat} {n : Int} {w : List (List Int)} : w ∈ xaB m n ↔ ∃ c : List Nat, w = xgK (c.map fun (x : Nat) => (x : Int)) ∧ c.length = n.toNat ∧ c.Pairwise (· < ·) ∧ ∀ x ∈ c, x < m := by
 unfold xaB
 rw [List.mem_map]
 constructor
 ·rintro ⟨c, hc, rfl⟩
  obtain ⟨h1, h2, h3⟩ := (xkw _ _ _ _).1 hc
  exact ⟨c, rfl, h1, h2, fun x hx => by have := h3 x hx; omega⟩
 ·rintro ⟨c, rfl, h1, h2, h3⟩
  exact ⟨c, (xkw _ _ _ _).2 ⟨h1, h2, fun x hx => by have := h3 x hx; omega⟩, rfl⟩
theorem xpL {m : Nat} {n : Int} {w : List (List Int)} (h : w ∈ xaB m n) : w.length = n.toNat := by
 obtain ⟨c, rfl, h1, _⟩ := xw8.1 h
 unfold xgK
 simp [h1]
theorem xtq (m : Nat) (n : Int) : (xaB m n).length ≤ 2 ^ m := by
 unfold xaB
 rw [List.length_map]
 exact xop _ _ _
def alls (m : Nat) : Nat → List (List (List Int))
 | 0 => []
 | n + 1 => alls m n ++ xaB m n
theorem xy9 {m : Nat} : ∀ {n : Nat} {w : List (List Int)}, w ∈ alls m n ↔ ∃ s : Nat, s < n ∧ w ∈ xaB m s
 | 0, w => by
  constructor
  ·intro h; cases h
  ·rintro ⟨s, h, _⟩; omega
 | n + 1, w => by
  show w ∈ alls m n ++ xaB m n ↔ _
  rw [List.mem_append, xy9]
  constructor
  ·rintro (⟨s, h, h2⟩ | h)
   ·exact ⟨s, by omega, h2⟩
   ·exact ⟨n, by omega, h⟩
  ·rintro ⟨s, h, h2⟩
   by_cases e : s = n
   ·subst e; exact .inr h2
   ·exact .inl ⟨s, by omega, h2⟩
theorem xqU {m s : Nat} : ∀ {n : Nat}, s < n → ∃ R, alls m n = alls m s ++ xaB m s ++ R
 | 0, h => absurd h (by omega)
 | n + 1, h => by
  by_cases e : s = n
  ·subst e; exact ⟨[], by rw [List.append_nil]; rfl⟩
  ·obtain ⟨R, hR⟩ := xqU (m := m) (s := s) (n := n) (by omega)
   exact ⟨R ++ xaB m n, by show alls m n ++ xaB m n = _; rw [hR]; simp⟩
theorem xjH (m : Nat) : ∀ n, (alls m n).length ≤ n * 2 ^ m
 | 0 => Nat.zero_le _
 | n + 1 => by
  show (alls m n ++ xaB m n).length ≤ _
  rw [List.length_append]
  have := xjH m n
  have := xtq m n
  rw [Nat.succ_mul]
  omega
theorem xCt {L : List (List (List Int))} {q : Nat} (h : q < L.length) : L.getD q [] ∈ L := by
 rw [List.getD_eq_getElem?_getD, List.getElem?_eq_getElem h]
 exact List.getElem_mem h
theorem xCV {L : List (List (List Int))} {q : Nat} (h : q < L.length) : L = L.take q ++ L.getD q [] :: L.drop (q + 1) := by
 conv => lhs; rw [← List.take_append_drop q L]
 rw [List.drop_eq_getElem_cons h, List.getD_eq_getElem?_getD, List.getElem?_eq_getElem h]
 rfl
theorem xwz {L : List (List (List Int))} {q : Nat} (h : q < L.length) : L.take (q + 1) = L.take q ++ [L.getD q []] := by
 rw [List.take_add_one, List.getElem?_eq_getElem h, List.getD_eq_getElem?_getD, List.getElem?_eq_getElem h]
 rfl
theorem xuR {L : List (List (List Int))} {q : Nat} {x : List (List Int)} (h : x ∈ L.take q) : ∃ j, j < q ∧ j < L.length ∧ x = L.getD j [] := by
 obtain ⟨j, hj, rfl⟩ := List.getElem_of_mem h
 rw [List.length_take] at hj
 refine ⟨j, by omega, by omega, ?_⟩
 rw [List.getElem_take, List.getD_eq_getElem?_getD, List.getElem?_eq_getElem (by omega)]
 rfl
theorem xlv {L : List (List (List Int))} {P : List (List Int) → Prop} (h : ∀ q, q < L.length → P (L.getD q [])) : ∀ x ∈ L, P x := by
 intro x hx
 obtain ⟨j, hj, rfl⟩ := List.getElem_of_mem hx
 have := h j hj
 rw [List.getD_eq_getElem?_getD, List.getElem?_eq_getElem hj] at this
 exact this
theorem xuY {A B : List (List (List Int))} {y : List (List Int)} {p : List (List Int) → Bool} (h1 : ∀ x ∈ A, p x = false) (h2 : p y = true) : (A ++ y :: B).find? p = some y := by
 rw [List.find?_append, List.find?_eq_none.2 (fun x hx => by rw [h1 x hx]; simp), List.find?_cons_of_pos h2]
 rfl
noncomputable def askE (f most : Int) (base fc rp : List (List Int)) : Int :=
 if svE f base fc rp = 1 ∨ most < 0 ∨ most > 3 then 1 else if svE f base fc rp = 0 ∧ rp.length > 12 then 2 else svE f base fc rp
theorem xzy (f most : Int) (base fc rp : List (List Int)) (h13 : Si.El13 rp) (hf : fc.length ≤ 9223372036854775807) : xbZ f most base fc rp ∧ xaE f most base fc rp = askE f most base fc rp := by
 obtain ⟨v1, v2⟩ := xC4 f base fc rp h13 hf
 unfold xbZ xaE xj6 askE
 rw [v2]
 refine ⟨v1, ?_⟩
 by_cases h1 : svE f base fc rp = 1 ∨ most < 0 ∨ most > 3
 ·rw [if_pos h1]
  have : (svE f base fc rp == (1 : Int) || decide (most < (0 : Int)) || decide (most > (3 : Int))) = true := by
   simp only [Bool.or_eq_true, beq_iff_eq, decide_eq_true_eq]; omega
  rw [this]; rfl
 ·rw [if_neg h1]
  have : (svE f base fc rp == (1 : Int) || decide (most < (0 : Int)) || decide (most > (3 : Int))) = false := by
   simp only [Bool.or_eq_false_iff, beq_eq_false_iff_ne, decide_eq_false_iff_not, ne_eq]; omega
  rw [this, cond_false]
  by_cases h2 : svE f base fc rp = 0 ∧ rp.length > 12
  ·rw [if_pos h2]
   have : (svE f base fc rp == (0 : Int) && decide ((rp.length : Int) > (12 : Int))) = true := by
    simp only [Bool.and_eq_true, beq_iff_eq, decide_eq_true_eq]; omega
   rw [this]; rfl
  ·rw [if_neg h2]
   have : (svE f base fc rp == (0 : Int) && decide ((rp.length : Int) > (12 : Int))) = false := by
    rw [Bool.eq_false_iff]
    intro h
    simp only [Bool.and_eq_true, beq_iff_eq, decide_eq_true_eq] at h
    omega
   rw [this]; rfl
theorem xtK {f most : Int} {base fc rp : List (List Int)} (h : askE f most base fc rp = 0) : svE f base fc rp = 0 ∧ GS f base fc rp ∧ 0 ≤ most ∧ most ≤ 3 ∧ rp.length ≤ 12 := by
 unfold askE at h
 split at h
 ·cases h
 ·rename_i h1
  split at h
  ·cases h
  ·rename_i h2
   rcases xjh f base fc rp with ⟨e, _⟩ | ⟨e, g, _⟩ | ⟨e, g, _⟩
   ·rw [e] at h; cases h
   ·rw [e] at h; cases h
   ·exact ⟨h, g, by omega, by omega, by omega⟩
theorem xBQ {f most : Int} {base fc rp : List (List Int)} (h : svE f base fc rp = 0) (h1 : 0 ≤ most) (h2 : most ≤ 3) (h3 : rp.length ≤ 12) : askE f most base fc rp = 0 := by
 unfold askE
 rw [h, if_neg (by omega), if_neg (by omega)]
def lw (f : Int) (base fc rp w : List (List Int)) : Int × List (List Int) := lg fc w rp 0 base f
section
variable {f most : Int} {base fc rp : List (List Int)} (g : GS f base fc rp) (hf : fc.length ≤ 9223372036854775807) (hm : 0 ≤ most ∧ most ≤ 3)
include g hf hm
theorem xyl {s : Nat} (hs : s ≤ 1000000) {q : Nat} (hq : q < (xaB rp.length (s : Int)).length) :
  xbg f base fc rp ((xaB rp.length (s : Int)).getD q []) ∧ xaG f base fc rp ((xaB rp.length (s : Int)).getD q []) = (lw f base fc rp ((xaB rp.length (s : Int)).getD q [])).1 ∧ xbp f base fc rp ((xaB rp.length (s : Int)).getD q []) = (lw f base fc rp ((xaB rp.length (s : Int)).getD q [])).2 := by
 refine xBg g hf _ ?_
 rw [xpL (xCt hq)]
 omega
theorem xGq {s : Nat} (hs : s ≤ 1000000) (w0 s0 : List (List Int)) :
  xay (xbs f most base fc rp [.i (s : Int), .i 18, .r s0, .r w0]) (xcR f most base fc rp [.i (s : Int), .i 18, .r s0, .r w0]) ∧
  (((xaH f most base fc rp [.i (s : Int), .i 18, .r s0, .r w0]).1 = 1 ∧ ∃ q, q < (xaB rp.length (s : Int)).length ∧ (∀ j, j < q → (lw f base fc rp ((xaB rp.length (s : Int)).getD j [])).1 = 18) ∧ (lw f base fc rp ((xaB rp.length (s : Int)).getD q [])).1 ≠ 18 ∧
    gi (xaH f most base fc rp [.i (s : Int), .i 18, .r s0, .r w0]).2 1 = (lw f base fc rp ((xaB rp.length (s : Int)).getD q [])).1 ∧ gr (xaH f most base fc rp [.i (s : Int), .i 18, .r s0, .r w0]).2 2 = (lw f base fc rp ((xaB rp.length (s : Int)).getD q [])).2 ∧ gr (xaH f most base fc rp [.i (s : Int), .i 18, .r s0, .r w0]).2 3 = (xaB rp.length (s : Int)).getD q []) ∨
   ((xaH f most base fc rp [.i (s : Int), .i 18, .r s0, .r w0]).1 = 3 ∧ gi (xaH f most base fc rp [.i (s : Int), .i 18, .r s0, .r w0]).2 1 = 18 ∧ ∀ j, j < (xaB rp.length (s : Int)).length → (lw f base fc rp ((xaB rp.length (s : Int)).getD j [])).1 = 18)) := by
 refine xdL (step := xbs f most base fc rp [.i (s : Int), .i 18, .r s0, .r w0]) (xaB rp.length (s : Int)).length
  (fun j xs => ∃ set w, xs = [.i (j : Int), .i 18, .r set, .r w] ∧ ∀ q, q < j → (lw f base fc rp ((xaB rp.length (s : Int)).getD q [])).1 = 18)
  (fun res => (res.1 = 1 ∧ ∃ q, q < (xaB rp.length (s : Int)).length ∧ (∀ j, j < q → (lw f base fc rp ((xaB rp.length (s : Int)).getD j [])).1 = 18) ∧ (lw f base fc rp ((xaB rp.length (s : Int)).getD q [])).1 ≠ 18 ∧
    gi res.2 1 = (lw f base fc rp ((xaB rp.length (s : Int)).getD q [])).1 ∧ gr res.2 2 = (lw f base fc rp ((xaB rp.length (s : Int)).getD q [])).2 ∧ gr res.2 3 = (xaB rp.length (s : Int)).getD q []) ∨
   (res.1 = 3 ∧ gi res.2 1 = 18 ∧ ∀ j, j < (xaB rp.length (s : Int)).length → (lw f base fc rp ((xaB rp.length (s : Int)).getD j [])).1 = 18))
  (fun j xs hj ⟨set, w, e, h⟩ => ?_) (fun xs ⟨set, w, e, h⟩ => ?_) ⟨s0, w0, ?_, fun q hq => absurd hq (by omega)⟩
 ·subst e
  obtain ⟨l1, l2, l3⟩ := xyl g hf hm hs hj
  unfold xbs
  simp only [gi_z, gi_1, dlt hj, Int.toNat_natCast, xaa l1, l2, l3]
  by_cases h1 : (lw f base fc rp ((xaB rp.length (s : Int)).getD j [])).1 = 18
  ·have b1 : ((lw f base fc rp ((xaB rp.length (s : Int)).getD j [])).1 != (18 : Int)) = false := by rw [bne_eq_false_iff_eq]; exact h1
   rw [b1, cond_false, h1]
   refine .inl ⟨_, rfl, _, _, rfl, fun q hq => ?_⟩
   by_cases e : q = j
   ·subst e; exact h1
   ·exact h q (by omega)
  ·have b1 : ((lw f base fc rp ((xaB rp.length (s : Int)).getD j [])).1 != (18 : Int)) = true := by rw [bne_iff_ne]; exact h1
   rw [b1, cond_true]
   exact .inr ⟨0, _, rfl, .inl ⟨rfl, j, hj, h, h1, by rw [gi_1, gi_z], by rw [gr_2, gr_z], by rw [gr_3, gr_z]⟩⟩
 ·subst e
  refine ⟨2, [.i ((xaB rp.length (s : Int)).length : Int), .i 18, .r set, .r w], ?_, .inr ⟨rfl, by rw [gi_1, gi_z], h⟩⟩
  unfold xbs
  simp only [gi_z, gi_1, gr_2, gr_3, gr_z, dnlt]
 ·unfold xcR
  rw [gi_1, gi_z, gr_2, gr_z, gr_3, gr_z]
  rfl
theorem xGr (hl : rp.length ≤ 12) :
  xay (xbt f most base fc rp) (xeh f most base fc rp) ∧
  (((xam f most base fc rp).1 = 1 ∧ ∃ w, (alls rp.length (most.toNat + 1)).find? (fun w => (lw f base fc rp w).1 != 18) = some w ∧ gi (xam f most base fc rp).2 1 = (lw f base fc rp w).1 ∧ gr (xam f most base fc rp).2 2 = (lw f base fc rp w).2 ∧ gr (xam f most base fc rp).2 3 = w) ∨
   ((xam f most base fc rp).1 = 3 ∧ (alls rp.length (most.toNat + 1)).find? (fun w => (lw f base fc rp w).1 != 18) = none ∧ gi (xam f most base fc rp).2 1 = 18)) := by
 refine xdL (step := xbt f most base fc rp) (most.toNat + 1)
  (fun s xs => ∃ set w, xs = [.i (s : Int), .i 18, .r set, .r w] ∧ ∀ x ∈ alls rp.length s, (lw f base fc rp x).1 = 18)
  (fun res => (res.1 = 1 ∧ ∃ w, (alls rp.length (most.toNat + 1)).find? (fun w => (lw f base fc rp w).1 != 18) = some w ∧ gi res.2 1 = (lw f base fc rp w).1 ∧ gr res.2 2 = (lw f base fc rp w).2 ∧ gr res.2 3 = w) ∨
   (res.1 = 3 ∧ (alls rp.length (most.toNat + 1)).find? (fun w => (lw f base fc rp w).1 != 18) = none ∧ gi res.2 1 = 18))
  (fun s xs hs ⟨set, w, e, h⟩ => ?_) (fun xs ⟨set, w, e, h⟩ => ?_) ⟨[], [], rfl, fun x hx => by cases hx⟩
 ·subst e
  obtain ⟨l1, l2⟩ := xGq g hf hm (s := s) (by omega) w set
  unfold xbt
  simp only [gi_z, gi_1]
  rw [decide_eq_true (show (s : Int) ≤ most by omega), cond_true, xaa (by omega), xaa l1]
  rcases l2 with ⟨k1, q, k2, k3, k4, k5, k6, k7⟩ | ⟨k1, k2, k3⟩
  ·rw [k1, k5, k6, k7]
   refine .inr ⟨0, _, rfl, .inl ⟨rfl, (xaB rp.length (s : Int)).getD q [], ?_, ?_, ?_, ?_⟩⟩
   ·obtain ⟨R, hR⟩ := xqU (m := rp.length) hs
    have hD := xCV k2
    have e2 : alls rp.length (most.toNat + 1) = (alls rp.length s ++ (xaB rp.length (s : Int)).take q) ++ (xaB rp.length (s : Int)).getD q [] :: ((xaB rp.length (s : Int)).drop (q + 1) ++ R) := by
     rw [hR]
     generalize xaB rp.length (s : Int) = D at hD ⊢
     conv => lhs; rw [hD]
     simp
    rw [e2]
    refine xuY (fun x hx => ?_) (by rw [bne_iff_ne]; exact k4)
    rw [bne_eq_false_iff_eq]
    rcases List.mem_append.1 hx with hx | hx
    ·exact h x hx
    ·obtain ⟨j, j1, _, rfl⟩ := xuR hx
     exact k3 j j1
   ·rw [gi_1, gi_z]
   ·rw [gr_2, gr_z]
   ·rw [gr_3, gr_z]
  ·rw [k1, k2]
   refine .inl ⟨_, by rw [xaA (show s < 4611686018427387904 by omega)]; rfl, _, _, rfl, fun x hx => ?_⟩
   rcases List.mem_append.1 hx with hx | hx
   ·exact h x hx
   ·exact xlv (P := fun x => (lw f base fc rp x).1 = 18) k3 x hx
 ·subst e
  refine ⟨2, [.i ((most.toNat + 1 : Nat) : Int), .i 18, .r set, .r w], ?_, .inr ⟨rfl, ?_, by rw [gi_1, gi_z]⟩⟩
  ·unfold xbt
   simp only [gi_z, gi_1, gr_2, gr_3, gr_z]
   rw [decide_eq_false (show ¬ ((most.toNat + 1 : Nat) : Int) ≤ most by omega), cond_false]
  ·exact List.find?_eq_none.2 fun x hx => by rw [h x hx]; simp
end
noncomputable def exR (f most : Int) (base fc rp : List (List Int)) : List (List Int) × List (List Int) × Int :=
 if askE f most base fc rp ≠ 0 then ([], [], askE f most base fc rp)
 else match (alls rp.length (most.toNat + 1)).find? (fun w => (lw f base fc rp w).1 != 18) with
  | none => ([], [], 18)
  | some w => if (lw f base fc rp w).1 ≠ 0 then ([], [], (lw f base fc rp w).1) else (w, (lw f base fc rp w).2, 0)
theorem xnx (f most : Int) (base fc rp : List (List Int)) (h13 : Si.El13 rp) (hf : fc.length ≤ 9223372036854775807) :
  xbD f most base fc rp ∧ xaf f most base fc rp = (exR f most base fc rp).1 ∧ xdH f most base fc rp = (exR f most base fc rp).2.1 ∧ xbl f most base fc rp = (exR f most base fc rp).2.2 := by
 obtain ⟨a1, a2⟩ := xzy f most base fc rp h13 hf
 unfold xbD xaf xdH xbl exR
 rw [a2]
 by_cases h : askE f most base fc rp = 0
 ·obtain ⟨_, g, m0, m3, hl⟩ := xtK h
  obtain ⟨l1, l2⟩ := xGr g hf ⟨m0, m3⟩ hl
  rw [if_neg (fun k => k h), h]
  refine ⟨⟨a1, fun _ => l1⟩, ?_⟩
  have z0 : ((0 : Int) != 0) = false := rfl
  rw [z0, cond_false, cond_false, cond_false]
  unfold xi3 xi2 xi1
  rcases l2 with ⟨k1, w, k2, k3, k4, k5⟩ | ⟨k1, k2, k3⟩
  ·rw [k1, k2, k3, k4, k5]
   show _ = (if (lw f base fc rp w).1 ≠ 0 then (([], [], (lw f base fc rp w).1) : List (List Int) × List (List Int) × Int) else (w, (lw f base fc rp w).2, 0)).1 ∧ _ = (if (lw f base fc rp w).1 ≠ 0 then (([], [], (lw f base fc rp w).1) : List (List Int) × List (List Int) × Int) else (w, (lw f base fc rp w).2, 0)).2.1 ∧ _ = (if (lw f base fc rp w).1 ≠ 0 then (([], [], (lw f base fc rp w).1) : List (List Int) × List (List Int) × Int) else (w, (lw f base fc rp w).2, 0)).2.2
   by_cases h1 : (lw f base fc rp w).1 = 0
   ·rw [if_neg (fun k => k h1), h1]; exact ⟨rfl, rfl, rfl⟩
   ·have b1 : ((lw f base fc rp w).1 != (0 : Int)) = true := by rw [bne_iff_ne]; exact h1
    rw [if_pos h1, b1]; exact ⟨rfl, rfl, rfl⟩
  ·rw [k1, k2, k3]; exact ⟨rfl, rfl, rfl⟩
 ·have b : (askE f most base fc rp != (0 : Int)) = true := by rw [bne_iff_ne]; exact h
  rw [if_pos h, b]
  exact ⟨⟨a1, fun k => (by cases k)⟩, rfl, rfl, rfl⟩
end Go.Proofs.YtnijhjpaplihbaaGreat
set_option linter.unusedVariables false
namespace Go.Proofs.YtnijhjpaplihbaaGreat
open Go Go.Sy
def okE (e : Int) : Prop := e = 0 ∨ e = 18
instance (e : Int) : Decidable (okE e) := by unfold okE; infer_instance
theorem xA0 (e : Int) : (e != (0 : Int) && e != (18 : Int)) = !decide (okE e) := by
 by_cases h : okE e
 ·rw [decide_eq_true h]
  unfold okE at h
  rcases h with rfl | rfl <;> rfl
 ·rw [decide_eq_false h]
  unfold okE at h
  rw [Bool.not_false, Bool.and_eq_true, bne_iff_ne, bne_iff_ne]
  exact ⟨fun k => h (.inl k), fun k => h (.inr k)⟩
theorem xti {D : List (List (List Int))} {p : List (List Int) → Bool} {j : Nat} (hj : j < D.length) (h : ∀ q, q < j → p (D.getD q []) = false) (h1 : p (D.getD j []) = true) : D.find? p = some (D.getD j []) := by
 have e := xCV hj
 generalize D.getD j [] = y at e h1
 rw [e]
 exact xuY (fun x hx => by
  obtain ⟨q, k1, _, rfl⟩ := xuR hx
  exact h q k1) h1
theorem xgt {f : Int} {base fc rp : List (List Int)} {D : List (List (List Int))} {w : List (List Int)} (h : D.find? (fun w => !decide (okE (lw f base fc rp w).1)) = some w) : w ∈ D ∧ ¬ okE (lw f base fc rp w).1 :=
 ⟨List.mem_of_find?_eq_some h, by simpa using List.find?_some h⟩
def hul (a b : List Int) : List Int := [min (a.getD 0 0) (b.getD 0 0), max (a.getD 1 0) (b.getD 1 0), min (a.getD 2 0) (b.getD 2 0), max (a.getD 3 0) (b.getD 3 0)]
def q4 (b : List Int) : List Int := [b.getD 0 0, b.getD 1 0, b.getD 2 0, b.getD 3 0]
def hull : List (List Int) → List Int
 | [] => [0, 0, 0, 0]
 | b :: l => l.foldl hul (q4 b)
theorem xDZ {a b : List Int} (h1 : VB a) (h2 : VB b) : VB (hul a b) := by
 unfold VB hul at *
 simp only [List.getD_cons_zero, List.getD_cons_succ]
 omega
theorem xF7 {b : List Int} : VB (q4 b) ↔ VB b := Iff.rfl
theorem xDv {a b : List Int} (h1 : VB a) (h2 : VB b) :
  xf1 (a.getD 0 0) (a.getD 1 0) (a.getD 2 0) (a.getD 3 0) (b.getD 0 0) (b.getD 1 0) (b.getD 2 0) (b.getD 3 0) = 0 ∧
  xhg (a.getD 0 0) (a.getD 1 0) (a.getD 2 0) (a.getD 3 0) (b.getD 0 0) (b.getD 1 0) (b.getD 2 0) (b.getD 3 0) = (hul a b).getD 0 0 ∧
  xhf (a.getD 0 0) (a.getD 1 0) (a.getD 2 0) (a.getD 3 0) (b.getD 0 0) (b.getD 1 0) (b.getD 2 0) (b.getD 3 0) = (hul a b).getD 1 0 ∧
  xhe (a.getD 0 0) (a.getD 1 0) (a.getD 2 0) (a.getD 3 0) (b.getD 0 0) (b.getD 1 0) (b.getD 2 0) (b.getD 3 0) = (hul a b).getD 2 0 ∧
  xhd (a.getD 0 0) (a.getD 1 0) (a.getD 2 0) (a.getD 3 0) (b.getD 0 0) (b.getD 1 0) (b.getD 2 0) (b.getD 3 0) = (hul a b).getD 3 0 := by
 have v1 := xww a
 have v2 := xww b
 rw [decide_eq_true h1] at v1
 rw [decide_eq_true h2] at v2
 unfold VB at h1 h2
 unfold xf1 xhg xhf xhe xhd
 rw [v1, v2]
 rcases Si.xuW (a.getD 0 0) (a.getD 1 0) (b.getD 0 0) (b.getD 1 0) with ⟨_, _, x0, x1, x2⟩ | ⟨k, _⟩
 ·rcases Si.xuW (a.getD 2 0) (a.getD 3 0) (b.getD 2 0) (b.getD 3 0) with ⟨_, _, y0, y1, y2⟩ | ⟨k, _⟩
  ·rw [x0, x1, x2, y0, y1, y2]
   exact ⟨rfl, rfl, rfl, rfl, rfl⟩
  ·exfalso; apply k; unfold Si.V; omega
 ·exfalso; apply k; unfold Si.V; omega
theorem xr7 {g : List (List Int) → List (List Int)} (h : ∀ w, (g w).length ≤ 16) : ∀ L : List (List (List Int)), (L.flatMap g).length ≤ 16 * L.length
 | [] => Nat.zero_le _
 | a :: L => by
  rw [List.flatMap_cons, List.length_append, List.length_cons]
  have := h a
  have := xr7 h L
  omega
section
variable {f most : Int} {base fc rp : List (List Int)} (g : GS f base fc rp) (hf : fc.length ≤ 9223372036854775807) (hm : 0 ≤ most ∧ most ≤ 3)
include g in
theorem xuT (w : List (List Int)) : (lw f base fc rp w).2.length ≤ 16 := by
 obtain ⟨h1, h2⟩ := xyj fc w rp 0 base f g.vl g.rv
 unfold lw
 by_cases h : (lg fc w rp 0 base f).1 = 0
 ·exact (h1 h).2.1
 ·rw [h2 h]; exact Nat.zero_le _
include g in
theorem xGi {w : List (List Int)} : ∀ b ∈ (lw f base fc rp w).2, VB b := by
 obtain ⟨h1, h2⟩ := xyj fc w rp 0 base f g.vl g.rv
 unfold lw
 by_cases h : (lg fc w rp 0 base f).1 = 0
 ·exact (h1 h).2.2
 ·rw [h2 h]; intro b hb; cases hb
include g hf hm
theorem xF5 (hl : rp.length ≤ 12) {s : Nat} (hs : s ≤ 3) (A : List (List Int)) (hA : A.length ≤ 16 * (s * 2 ^ rp.length)) :
  xay (xdu f most base fc rp [.i (s : Int), .r A]) (xgv f most base fc rp [.i (s : Int), .r A]) ∧
  (((xeL f most base fc rp [.i (s : Int), .r A]).1 = 1 ∧ ∃ w, (xaB rp.length (s : Int)).find? (fun w => !decide (okE (lw f base fc rp w).1)) = some w ∧ gi (xeL f most base fc rp [.i (s : Int), .r A]).2 1 = (lw f base fc rp w).1) ∨
   ((xeL f most base fc rp [.i (s : Int), .r A]).1 = 3 ∧ (∀ w ∈ xaB rp.length (s : Int), okE (lw f base fc rp w).1) ∧ gr (xeL f most base fc rp [.i (s : Int), .r A]).2 1 = A ++ (xaB rp.length (s : Int)).flatMap fun w => (lw f base fc rp w).2)) := by
 have hc := xtq rp.length (s : Int)
 have h2 : 2 ^ rp.length ≤ 2 ^ 12 := Nat.pow_le_pow_right (by decide) hl
 refine xdL (step := xdu f most base fc rp [.i (s : Int), .r A]) (xaB rp.length (s : Int)).length
  (fun j xs => xs = [.i (j : Int), .r (A ++ ((xaB rp.length (s : Int)).take j).flatMap fun w => (lw f base fc rp w).2)] ∧ ∀ q, q < j → okE (lw f base fc rp ((xaB rp.length (s : Int)).getD q [])).1)
  (fun res => (res.1 = 1 ∧ ∃ w, (xaB rp.length (s : Int)).find? (fun w => !decide (okE (lw f base fc rp w).1)) = some w ∧ gi res.2 1 = (lw f base fc rp w).1) ∨
   (res.1 = 3 ∧ (∀ w ∈ xaB rp.length (s : Int), okE (lw f base fc rp w).1) ∧ gr res.2 1 = A ++ (xaB rp.length (s : Int)).flatMap fun w => (lw f base fc rp w).2))
  (fun j xs hj ⟨e, h⟩ => ?_) (fun xs ⟨e, h⟩ => ?_) ⟨?_, fun q hq => absurd hq (by omega)⟩
 ·subst e
  obtain ⟨l1, l2, l3⟩ := xyl g hf hm (show s ≤ 1000000 by omega) hj
  unfold xdu
  simp only [gi_z, gr_1, gr_z, dlt hj, Int.toNat_natCast, xaa l1, l2, l3, xA0]
  by_cases h1 : okE (lw f base fc rp ((xaB rp.length (s : Int)).getD j [])).1
  ·rw [decide_eq_true h1, Bool.not_true, cond_false]
   rw [xaa (by
    have := xr7 (g := fun w => (lw f base fc rp w).2) (xuT g) ((xaB rp.length (s : Int)).take j)
    have := xuT g ((xaB rp.length (s : Int)).getD j [])
    rw [List.length_take] at *
    rw [List.length_append]
    have : s * 2 ^ rp.length ≤ 3 * 2 ^ rp.length := Nat.mul_le_mul_right _ hs
    unfold xcI maxLen
    omega)]
   refine .inl ⟨_, rfl, ?_, fun q hq => ?_⟩
   ·rw [xwz hj, List.flatMap_append, List.append_assoc]
    simp
   ·by_cases e : q = j
    ·subst e; exact h1
    ·exact h q (by omega)
  ·rw [decide_eq_false h1, Bool.not_false, cond_true]
   exact .inr ⟨0, _, rfl, .inl ⟨rfl, _, xti hj (fun q hq => by rw [decide_eq_true (h q hq)]; rfl) (by rw [decide_eq_false h1]; rfl), by rw [gi_1, gi_z]⟩⟩
 ·subst e
  refine ⟨2, [.i ((xaB rp.length (s : Int)).length : Int), .r (A ++ (xaB rp.length (s : Int)).flatMap fun w => (lw f base fc rp w).2)], ?_, .inr ⟨rfl, xlv (P := fun w => okE (lw f base fc rp w).1) h, by rw [gr_1, gr_z]⟩⟩
  unfold xdu
  simp only [gi_z, gr_1, gr_z, dnlt, List.take_length]
 ·unfold xgv
  rw [gr_1, gr_z, List.take_zero]
  simp
theorem xF6 (hl : rp.length ≤ 12) :
  xay (xdv f most base fc rp) (xh4 f most base fc rp) ∧
  (((xak f most base fc rp).1 = 1 ∧ ∃ w, (alls rp.length (most.toNat + 1)).find? (fun w => !decide (okE (lw f base fc rp w).1)) = some w ∧ gi (xak f most base fc rp).2 0 = (lw f base fc rp w).1) ∨
   ((xak f most base fc rp).1 = 3 ∧ (∀ w ∈ alls rp.length (most.toNat + 1), okE (lw f base fc rp w).1) ∧ gr (xak f most base fc rp).2 1 = (alls rp.length (most.toNat + 1)).flatMap fun w => (lw f base fc rp w).2)) := by
 refine xdL (step := xdv f most base fc rp) (most.toNat + 1)
  (fun s xs => xs = [.i (s : Int), .r ((alls rp.length s).flatMap fun w => (lw f base fc rp w).2)] ∧ ∀ x ∈ alls rp.length s, okE (lw f base fc rp x).1)
  (fun res => (res.1 = 1 ∧ ∃ w, (alls rp.length (most.toNat + 1)).find? (fun w => !decide (okE (lw f base fc rp w).1)) = some w ∧ gi res.2 0 = (lw f base fc rp w).1) ∨
   (res.1 = 3 ∧ (∀ w ∈ alls rp.length (most.toNat + 1), okE (lw f base fc rp w).1) ∧ gr res.2 1 = (alls rp.length (most.toNat + 1)).flatMap fun w => (lw f base fc rp w).2))
  (fun s xs hs ⟨e, h⟩ => ?_) (fun xs ⟨e, h⟩ => ?_) ⟨rfl, fun x hx => by cases hx⟩
 ·subst e
  have hA : ((alls rp.length s).flatMap fun w => (lw f base fc rp w).2).length ≤ 16 * (s * 2 ^ rp.length) :=
   Nat.le_trans (xr7 (xuT g) _) (Nat.mul_le_mul_left _ (xjH _ _))
  obtain ⟨l1, l2⟩ := xF5 g hf hm hl (s := s) (by omega) _ hA
  unfold xdv
  simp only [gi_z]
  rw [decide_eq_true (show (s : Int) ≤ most by omega), cond_true, xaa (by omega), xaa l1]
  rcases l2 with ⟨k1, w, k2, k4⟩ | ⟨k1, k2, k3⟩
  ·rw [k1, k4]
   refine .inr ⟨0, _, rfl, .inl ⟨rfl, w, ?_, by rw [gi_z]⟩⟩
   obtain ⟨R, hR⟩ := xqU (m := rp.length) hs
   rw [hR, List.append_assoc, List.find?_append, List.find?_append, k2, List.find?_eq_none.2 (fun x hx => by rw [decide_eq_true (h x hx)]; simp)]
   rfl
  ·rw [k1, k3]
   refine .inl ⟨_, by rw [xaA (show s < 4611686018427387904 by omega)]; rfl, ?_, fun x hx => ?_⟩
   ·show _ = [U.i ((s + 1 : Nat) : Int), U.r ((alls rp.length s ++ xaB rp.length (s : Int)).flatMap fun w => (lw f base fc rp w).2)]
    rw [List.flatMap_append]
   ·rcases List.mem_append.1 hx with hx | hx
    ·exact h x hx
    ·exact k2 x hx
 ·subst e
  refine ⟨2, [.i ((most.toNat + 1 : Nat) : Int), .r ((alls rp.length (most.toNat + 1)).flatMap fun w => (lw f base fc rp w).2)], ?_, .inr ⟨rfl, h, by rw [gr_1, gr_z]⟩⟩
  unfold xdv
  simp only [gi_z, gr_1, gr_z]
  rw [decide_eq_false (show ¬ ((most.toNat + 1 : Nat) : Int) ≤ most by omega), cond_false]
end
theorem xxn {L : List (List Int)} {j : Nat} (h : j + 1 < L.length) : hull (L.take (j + 2)) = hul (hull (L.take (j + 1))) (L.getD (j + 1) []) := by
 match L, h with
 | b :: L, h =>
  have h' : j < L.length := by simpa using h
  show (L.take (j + 1)).foldl hul (q4 b) = hul ((L.take j).foldl hul (q4 b)) (L.getD j [])
  rw [xbr h', List.foldl_append]
  rfl
theorem xAr : ∀ (L : List (List Int)) (a : List Int), VB a → (∀ b ∈ L, VB b) → VB (L.foldl hul a)
 | [], a, h, _ => h
 | x :: L, a, h, hL => xAr L (hul a x) (xDZ h (hL x (by simp))) (fun y hy => hL y (by simp [hy]))
theorem xxQ : ∀ {L : List (List Int)}, L ≠ [] → (∀ b ∈ L, VB b) → VB (hull L)
 | [], h, _ => absurd rfl h
 | b :: L, _, h => by
  show VB (L.foldl hul (q4 b))
  have hb : VB (q4 b) := xF7.2 (h b (by simp))
  have hL : ∀ b ∈ L, VB b := fun x hx => h x (by simp [hx])
  exact xAr L (q4 b) hb hL
theorem xF4 (f most : Int) (base fc rp : List (List Int)) {L : List (List Int)} (e : gr (xak f most base fc rp).2 1 = L) (hn : L ≠ []) (hb : ∀ b ∈ L, VB b) (hlen : L.length ≤ 4611686018427387903) :
  xay (xcL f most base fc rp) (xdt f most base fc rp) ∧
  (xbf f most base fc rp).1 = 3 ∧ gi (xbf f most base fc rp).2 1 = (hull L).getD 0 0 ∧ gi (xbf f most base fc rp).2 2 = (hull L).getD 1 0 ∧ gi (xbf f most base fc rp).2 3 = (hull L).getD 2 0 ∧ gi (xbf f most base fc rp).2 4 = (hull L).getD 3 0 := by
 have hpos : 0 < L.length := by
  cases L with
  | nil => exact absurd rfl hn
  | cons a L => simp
 have e0 : xlS f most base fc rp = ((L.length - 1 : Nat) : Int) := by
  unfold xlS
  rw [e]
  simp only [xaz, loN]
  omega
 have h0 : xdt f most base fc rp = [.i 0, .i ((hull (L.take 1)).getD 0 0), .i ((hull (L.take 1)).getD 1 0), .i ((hull (L.take 1)).getD 2 0), .i ((hull (L.take 1)).getD 3 0)] := by
  unfold xdt
  rw [e]
  match L, hpos with
  | b :: L, _ => rfl
 have key := xgN (σ := Unit) (step := xcL f most base fc rp) (L.length - 1)
  (fun j _ => [.i (j : Int), .i ((hull (L.take (j + 1))).getD 0 0), .i ((hull (L.take (j + 1))).getD 1 0), .i ((hull (L.take (j + 1))).getD 2 0), .i ((hull (L.take (j + 1))).getD 3 0)]) (fun _ s => s) (fun _ _ => True) 2
  (fun _ => [.i ((L.length - 1 : Nat) : Int), .i ((hull L).getD 0 0), .i ((hull L).getD 1 0), .i ((hull L).getD 2 0), .i ((hull L).getD 3 0)])
  (fun _ _ _ _ => trivial)
  (fun j _ hj _ => by
   have hj' : j + 1 < L.length := by omega
   have esh : shI (xaz (L.length : Int) (some 1) none).2.1 (j : Int) = ((j + 1 : Nat) : Int) := by
    simp only [xaz, shI]
    show ((1 : Nat) : Int) + (j : Int) = _
    omega
   have hv1 : VB (hull (L.take (j + 1))) := xxQ (by
    intro k
    have := congrArg List.length k
    rw [List.length_take, List.length_nil] at this
    omega) (fun b hb' => hb b (List.mem_of_mem_take hb'))
   have hv2 := hb _ (xaW hj')
   obtain ⟨j4, j0, j1, j2, j3⟩ := xDv hv1 hv2
   have s_1 : xeK f most base fc rp [.i (j : Int), .i ((hull (L.take (j + 1))).getD 0 0), .i ((hull (L.take (j + 1))).getD 1 0), .i ((hull (L.take (j + 1))).getD 2 0), .i ((hull (L.take (j + 1))).getD 3 0)] = (L.getD (j + 1) []).getD 0 0 := by
    unfold xeK; rw [e, gi_z, esh, Int.toNat_natCast]
   have s_2 : xeJ f most base fc rp [.i (j : Int), .i ((hull (L.take (j + 1))).getD 0 0), .i ((hull (L.take (j + 1))).getD 1 0), .i ((hull (L.take (j + 1))).getD 2 0), .i ((hull (L.take (j + 1))).getD 3 0)] = (L.getD (j + 1) []).getD 1 0 := by
    unfold xeJ; rw [e, gi_z, esh, Int.toNat_natCast]
   have s_3 : xeI f most base fc rp [.i (j : Int), .i ((hull (L.take (j + 1))).getD 0 0), .i ((hull (L.take (j + 1))).getD 1 0), .i ((hull (L.take (j + 1))).getD 2 0), .i ((hull (L.take (j + 1))).getD 3 0)] = (L.getD (j + 1) []).getD 2 0 := by
    unfold xeI; rw [e, gi_z, esh, Int.toNat_natCast]
   have s_4 : xeH f most base fc rp [.i (j : Int), .i ((hull (L.take (j + 1))).getD 0 0), .i ((hull (L.take (j + 1))).getD 1 0), .i ((hull (L.take (j + 1))).getD 2 0), .i ((hull (L.take (j + 1))).getD 3 0)] = (L.getD (j + 1) []).getD 3 0 := by
    unfold xeH; rw [e, gi_z, esh, Int.toNat_natCast]
   unfold xcL
   rw [e0, s_1, s_2, s_3, s_4, e]
   simp only [gi_z, gi_1, gi_2, gi_3, gi_4, esh, j0, j1, j2, j3, j4]
   rw [decide_eq_true (show (j : Int) < ((L.length - 1 : Nat) : Int) by omega), cond_true, xaa, xaa (xa1 hj'), xaA (show j < 4611686018427387904 by omega)]
   ·rw [xxn hj']
    rfl
   ·simp only [xaz, loN]
    have : ((Int.toNat 1 : Nat) : Int) = 1 := rfl
    omega)
  (fun _ _ => by
   have e2 : L.length - 1 + 1 = L.length := by omega
   unfold xcL
   rw [e0]
   simp only [gi_z, gi_1, gi_2, gi_3, gi_4, dnlt, e2, List.take_length])
  (s := ()) trivial
 have k1 : xay (xcL f most base fc rp) (xdt f most base fc rp) := by rw [h0]; exact key.1
 have k2 : xbf f most base fc rp = (3, [.i ((L.length - 1 : Nat) : Int), .i ((hull L).getD 0 0), .i ((hull L).getD 1 0), .i ((hull L).getD 2 0), .i ((hull L).getD 3 0)]) := by unfold xbf; rw [h0]; exact key.2.1
 refine ⟨k1, ?_⟩
 rw [k2]
 simp only [gi_z, gi_1, gi_2, gi_3, gi_4, and_self]
theorem xvh (f most : Int) (base fc rp : List (List Int)) (h13 : Si.El13 rp) (hf : fc.length ≤ 9223372036854775807) :
  xc9 f most base fc rp ∧
  ((askE f most base fc rp ≠ 0 ∧ xci f most base fc rp = askE f most base fc rp ∧ xcm f most base fc rp = 0 ∧ xcl f most base fc rp = 0 ∧ xck f most base fc rp = 0 ∧ xcj f most base fc rp = 0) ∨
   (askE f most base fc rp = 0 ∧ ∃ w, (alls rp.length (most.toNat + 1)).find? (fun w => !decide (okE (lw f base fc rp w).1)) = some w ∧ xci f most base fc rp = (lw f base fc rp w).1 ∧ xcm f most base fc rp = 0 ∧ xcl f most base fc rp = 0 ∧ xck f most base fc rp = 0 ∧ xcj f most base fc rp = 0) ∨
   (askE f most base fc rp = 0 ∧ (∀ w ∈ alls rp.length (most.toNat + 1), okE (lw f base fc rp w).1) ∧ ((alls rp.length (most.toNat + 1)).flatMap fun w => (lw f base fc rp w).2) = [] ∧ xci f most base fc rp = 18 ∧ xcm f most base fc rp = 0 ∧ xcl f most base fc rp = 0 ∧ xck f most base fc rp = 0 ∧ xcj f most base fc rp = 0) ∨
   (askE f most base fc rp = 0 ∧ (∀ w ∈ alls rp.length (most.toNat + 1), okE (lw f base fc rp w).1) ∧ ((alls rp.length (most.toNat + 1)).flatMap fun w => (lw f base fc rp w).2) ≠ [] ∧ xci f most base fc rp = 0 ∧
    xcm f most base fc rp = (hull ((alls rp.length (most.toNat + 1)).flatMap fun w => (lw f base fc rp w).2)).getD 0 0 ∧ xcl f most base fc rp = (hull ((alls rp.length (most.toNat + 1)).flatMap fun w => (lw f base fc rp w).2)).getD 1 0 ∧
    xck f most base fc rp = (hull ((alls rp.length (most.toNat + 1)).flatMap fun w => (lw f base fc rp w).2)).getD 2 0 ∧ xcj f most base fc rp = (hull ((alls rp.length (most.toNat + 1)).flatMap fun w => (lw f base fc rp w).2)).getD 3 0)) := by
 obtain ⟨a1, a2⟩ := xzy f most base fc rp h13 hf
 unfold xc9 xci xcm xcl xck xcj
 rw [a2]
 by_cases h : askE f most base fc rp = 0
 ·obtain ⟨_, g, m0, m3, hl⟩ := xtK h
  obtain ⟨l1, l2⟩ := xF6 g hf ⟨m0, m3⟩ hl
  rw [h]
  have z0 : ((0 : Int) != 0) = false := rfl
  rw [z0]
  rcases l2 with ⟨k1, w, k2, k4⟩ | ⟨k1, k2, k3⟩
  ·rw [k1]
   exact ⟨⟨a1, fun _ => ⟨l1, fun k => (by cases k)⟩⟩, .inr (.inl ⟨rfl, w, k2, k4, rfl, rfl, rfl, rfl⟩)⟩
  ·unfold xpT xpS xpR xpQ xpP
   have hlen := Nat.le_trans (xr7 (g := fun w => (lw f base fc rp w).2) (xuT g) (alls rp.length (most.toNat + 1))) (Nat.mul_le_mul_left _ (xjH rp.length (most.toNat + 1)))
   have h2 : 2 ^ rp.length ≤ 2 ^ 12 := Nat.pow_le_pow_right (by decide) hl
   have h4 : (most.toNat + 1) * 2 ^ rp.length ≤ 4 * 2 ^ 12 := Nat.mul_le_mul (by omega) h2
   have hlen2 : ((alls rp.length (most.toNat + 1)).flatMap fun w => (lw f base fc rp w).2).length ≤ 4611686018427387903 := by omega
   have hb : ∀ b ∈ ((alls rp.length (most.toNat + 1)).flatMap fun w => (lw f base fc rp w).2), VB b := by
    intro b hb
    obtain ⟨w, _, hb⟩ := List.mem_flatMap.1 hb
    exact xGi g b hb
   revert hlen2 hb k3
   clear hlen
   generalize (alls rp.length (most.toNat + 1)).flatMap (fun w => (lw f base fc rp w).2) = L
   intro k3 hlen hb
   rw [k1]
   by_cases hn : L = []
   ·subst hn
    rw [k3]
    exact ⟨⟨a1, fun _ => ⟨l1, fun _ k => (by cases k)⟩⟩, .inr (.inr (.inl ⟨rfl, k2, rfl, rfl, rfl, rfl, rfl, rfl⟩))⟩
   ·have hpos : 0 < L.length := by
     cases L with
     | nil => exact absurd rfl hn
     | cons a L => simp
    obtain ⟨j0, j1, j2, j3, j4, j5⟩ := xF4 f most base fc rp k3 hn hb hlen
    have b0 : ((L.length : Int) == 0) = false := by rw [beq_eq_false_iff_ne]; omega
    have hr : inR (0 : Int) L := by unfold inR; omega
    rw [k3, b0, j1, j2, j3, j4, j5]
    refine ⟨⟨a1, fun _ => ⟨l1, fun _ _ => ⟨hr, hr, by omega, j0⟩⟩⟩, .inr (.inr (.inr ⟨rfl, k2, hn, rfl, rfl, rfl, rfl, rfl⟩))⟩
 ·have b : (askE f most base fc rp != (0 : Int)) = true := by rw [bne_iff_ne]; exact h
  rw [b]
  exact ⟨⟨a1, fun k => (by cases k)⟩, .inl ⟨h, rfl, rfl, rfl, rfl, rfl⟩⟩
end Go.Proofs.YtnijhjpaplihbaaGreat
set_option linter.unusedVariables false
namespace Go.Proofs.YtnijhjpaplihbaaGreat
open Go Go.Sy
section
variable (f most : Int) (base fc rp : List (List Int))
noncomputable def nD : List (List (List Int)) := xaB rp.length (((xaf f most base fc rp).length : Nat) : Int)
def kp (W : List (List Int)) (e : List Int) : Bool := isW W (e.getD 0 0)
variable {f most base fc rp}
theorem xGf {j : Nat} {out : List (List Int)} {W : List (List Int)} (eW : (nD f most base fc rp).getD j [] = W) (hw : W.length ≤ 9223372036854775806) (i : Nat) (x : U) :
  xay (xdy f most base fc rp [.i (j : Int), .r out] [x, .i (i : Int)]) (xh7 f most base fc rp [.i (j : Int), .r out] [x, .i (i : Int)]) ∧
  decide ((bif (xg6 f most base fc rp [.i (j : Int), .r out] [x, .i (i : Int)]).1.beq 1 then gi (xg6 f most base fc rp [.i (j : Int), .r out] [x, .i (i : Int)]).2 0 else -1) ≥ (0 : Int)) = kp W (out.getD i []) := by
 have key := xa6 (step := xdy f most base fc rp [.i (j : Int), .r out] [x, .i (i : Int)]) W.length (fun q => (out.getD i []).getD 0 0 == (W.getD q []).getD 0 0) (fun q => [.i 0, .i q]) (fun q => [.i q]) 0 2 [.i 0, .i W.length]
  (fun q hq => by
   unfold xdy
   unfold nD at eW
   simp only [gi_1, gi_z, gr_1, gr_z, Int.toNat_natCast, eW, dlt hq, xaa (xa1 hq), xfW (show q < 9223372036854775807 by omega)])
  (by
   unfold xdy
   unfold nD at eW
   simp only [gi_1, gi_z, Int.toNat_natCast, eW, dnlt])
 refine ⟨key.1, ?_⟩
 rcases key.2 with ⟨q, q1, q2, q3, q4⟩ | ⟨q3, q4⟩
 ·have e : xg6 f most base fc rp [.i (j : Int), .r out] [x, .i (i : Int)] = (1, [.i q]) := q4
  rw [e]
  have : kp W (out.getD i []) = true := xho.2 ⟨q, q1, q2⟩
  rw [this]
  simp [Nat.beq, gi_z]
 ·have e : xg6 f most base fc rp [.i (j : Int), .r out] [x, .i (i : Int)] = (3, [.i 0, .i W.length]) := q4
  rw [e]
  have : kp W (out.getD i []) = false := by
   rw [Bool.eq_false_iff]
   intro h
   obtain ⟨q, hq, h2⟩ := xho.1 h
   rw [q3 q hq] at h2
   cases h2
  rw [this]
  simp [Nat.beq]
theorem xGd {j : Nat} {l : List (List Int)} {out : U} {W : List (List Int)} (eW : (nD f most base fc rp).getD j [] = W) (hw : W.length ≤ 9223372036854775806) (i : Nat) (x : U) :
  xay (xdw f most base fc rp [.i (j : Int), out] [x, .i (i : Int), .r l]) (xh6 f most base fc rp [.i (j : Int), out] [x, .i (i : Int), .r l]) ∧
  decide ((bif (xg5 f most base fc rp [.i (j : Int), out] [x, .i (i : Int), .r l]).1.beq 1 then gi (xg5 f most base fc rp [.i (j : Int), out] [x, .i (i : Int), .r l]).2 0 else -1) ≥ (0 : Int)) = kp W (l.getD i []) := by
 have key := xa6 (step := xdw f most base fc rp [.i (j : Int), out] [x, .i (i : Int), .r l]) W.length (fun q => (l.getD i []).getD 0 0 == (W.getD q []).getD 0 0) (fun q => [.i 0, .i q]) (fun q => [.i q]) 0 2 [.i 0, .i W.length]
  (fun q hq => by
   unfold xdw
   unfold nD at eW
   simp only [gi_1, gi_z, gr_2, gr_z, Int.toNat_natCast, eW, dlt hq, xaa (xa1 hq), xfW (show q < 9223372036854775807 by omega)])
  (by
   unfold xdw
   unfold nD at eW
   simp only [gi_1, gi_z, Int.toNat_natCast, eW, dnlt])
 refine ⟨key.1, ?_⟩
 rcases key.2 with ⟨q, q1, q2, q3, q4⟩ | ⟨q3, q4⟩
 ·have e : xg5 f most base fc rp [.i (j : Int), out] [x, .i (i : Int), .r l] = (1, [.i q]) := q4
  rw [e]
  have : kp W (l.getD i []) = true := xho.2 ⟨q, q1, q2⟩
  rw [this]
  simp [Nat.beq, gi_z]
 ·have e : xg5 f most base fc rp [.i (j : Int), out] [x, .i (i : Int), .r l] = (3, [.i 0, .i W.length]) := q4
  rw [e]
  have : kp W (l.getD i []) = false := by
   rw [Bool.eq_false_iff]
   intro h
   obtain ⟨q, hq, h2⟩ := xho.1 h
   rw [q3 q hq] at h2
   cases h2
  rw [this]
  simp [Nat.beq]
theorem xGg {j : Nat} {out : List (List Int)} {W : List (List Int)} (eW : (nD f most base fc rp).getD j [] = W) (hw : W.length ≤ 9223372036854775806) (ho : out.length ≤ 1000) :
  xay (xdz f most base fc rp [.i (j : Int), .r out]) (xh8 f most base fc rp [.i (j : Int), .r out]) ∧
  ((∃ i, i < out.length ∧ kp W (out.getD i []) = false ∧ (∀ q, q < i → kp W (out.getD q []) = true) ∧ (bif (xbI f most base fc rp [.i (j : Int), .r out]).1.beq 1 then gi (xbI f most base fc rp [.i (j : Int), .r out]).2 0 else -1) = (i : Int)) ∨
   ((∀ q, q < out.length → kp W (out.getD q []) = true) ∧ (bif (xbI f most base fc rp [.i (j : Int), .r out]).1.beq 1 then gi (xbI f most base fc rp [.i (j : Int), .r out]).2 0 else -1) = (-1 : Int))) := by
 have key := xa6 (step := xdz f most base fc rp [.i (j : Int), .r out]) out.length (fun q => !kp W (out.getD q [])) (fun q => [.i 0, .i q]) (fun q => [.i q]) 0 2 [.i 0, .i out.length]
  (fun q hq => by
   obtain ⟨l1, l2⟩ := xGf (out := out) eW hw q (.i 0)
   unfold xdz
   simp only [gi_1, gi_z, gr_1, gr_z, Int.toNat_natCast, dlt hq, xaa (xa1 hq), xaa l1, l2, xaA (show q < 4611686018427387904 by omega)])
  (by
   unfold xdz
   simp only [gi_1, gi_z, gr_1, gr_z, dnlt])
 refine ⟨key.1, ?_⟩
 rcases key.2 with ⟨q, q1, q2, q3, q4⟩ | ⟨q3, q4⟩
 ·have e : xbI f most base fc rp [.i (j : Int), .r out] = (1, [.i q]) := q4
  rw [e]
  exact .inl ⟨q, q1, by simpa using q2, fun p hp => by simpa using q3 p hp, by simp [Nat.beq, gi_z]⟩
 ·have e : xbI f most base fc rp [.i (j : Int), .r out] = (3, [.i 0, .i out.length]) := q4
  rw [e]
  exact .inr ⟨fun p hp => by simpa using q3 p hp, by simp [Nat.beq]⟩
theorem set1 {l : List (List Int)} {a : List Int} (h : a.length = 1) (b : List Int) : xqm 1 b 0 [a.getD 0 0] = a := by
 match a, h with
 | [z], _ => rfl
theorem xnw (p : List Int → Bool) (a : List Int) : [a].filter p = if p a = true then [a] else [] := by
 rw [List.filter_cons]; rfl
theorem xGe {j : Nat} {O : List (List Int)} {W : List (List Int)} (eW : (nD f most base fc rp).getD j [] = W) (hw : W.length ≤ 9223372036854775806) (ho : O.length ≤ 1000) (h1 : ∀ e ∈ O, e.length = 1)
  {i0 : Nat} (hi : i0 < O.length) (hk : kp W (O.getD i0 []) = false) (hq : ∀ q, q < i0 → kp W (O.getD q []) = true)
  (hi0 : (bif (xbI f most base fc rp [.i (j : Int), .r O]).1.beq 1 then gi (xbI f most base fc rp [.i (j : Int), .r O]).2 0 else -1) = (i0 : Int)) :
  xay (xdx f most base fc rp [.i (j : Int), .r O]) (xgw f most base fc rp [.i (j : Int), .r O]) ∧
  ∃ (i : Nat) (x : Int) (l : List (List Int)), (xaR f most base fc rp [.i (j : Int), .r O]).2 = [.i (i : Int), .i x, .r l] ∧ i ≤ l.length ∧ l.length = O.length ∧ l.take i = O.filter (kp W) := by
 have hcl : ∀ q, q ≤ i0 → (O.take q).filter (kp W) = O.take q := fun q hq' => by
  rw [List.filter_eq_self]
  intro a ha
  obtain ⟨p, hp, rfl⟩ := List.getElem_of_mem ha
  rw [List.length_take] at hp
  have := hq p (by omega)
  rw [List.getD_eq_getElem?_getD, List.getElem?_eq_getElem (by omega)] at this
  rw [List.getElem_take]
  exact this
 refine xdL (step := xdx f most base fc rp [.i (j : Int), .r O]) (O.length - (i0 + 1))
  (fun k xs => ∃ (i : Nat) (l : List (List Int)), xs = [.i (i : Int), .i ((i0 + 1 + k : Nat) : Int), .r l] ∧ i ≤ i0 + 1 + k ∧ i0 + 1 + k ≤ O.length ∧ l.length = O.length ∧ l.take i = (O.take (i0 + 1 + k)).filter (kp W) ∧ (∀ q, i0 + 1 + k ≤ q → l.getD q [] = O.getD q []))
  (fun res => ∃ (i : Nat) (x : Int) (l : List (List Int)), res.2 = [.i (i : Int), .i x, .r l] ∧ i ≤ l.length ∧ l.length = O.length ∧ l.take i = O.filter (kp W))
  (fun k xs hk' ⟨i, l, e, p1, p2, p3, p4, p5⟩ => ?_) (fun xs ⟨i, l, e, p1, p2, p3, p4, p5⟩ => ?_) ⟨i0, O, ?_, by omega, by omega, rfl, ?_, fun q _ => rfl⟩
 ·subst e
  obtain ⟨l1, l2⟩ := xGd (l := l) (out := .r O) eW hw (i0 + 1 + k) (.i (i : Int))
  have hlt : i0 + 1 + k < l.length := by omega
  have hlt' : i0 + 1 + k < O.length := by omega
  have hO := h1 _ (xaW hlt')
  have eO := p5 (i0 + 1 + k) (by omega)
  have i1 : inR (i : Int) l := xa1 (by omega)
  have w1 := xaA (show i0 + 1 + k < 4611686018427387904 by omega)
  have w2 := xaA (show i < 4611686018427387904 by omega)
  unfold xdx xpV
  simp only [gi_z, gi_1, gr_2, gr_z, Int.toNat_natCast, dlt hlt, xaa (xa1 hlt), xaa l1, l2, xaa i1, Bool.not_not, w1, w2, eO]
  have ht := xbr hlt'
  have hset : (l.set i (xqm 1 (l.getD i []) 0 [(O.getD (i0 + 1 + k) []).getD 0 0])) = l.set i (O.getD (i0 + 1 + k) []) := by rw [set1 (l := l) hO]
  rw [hset]
  cases hK : kp W (O.getD (i0 + 1 + k) []) with
  | true =>
   rw [cond_true]
   refine .inl ⟨_, rfl, i + 1, _, rfl, by omega, by omega, by rw [List.length_set]; exact p3, ?_, fun q hq' => ?_⟩
   ·have e2 : i0 + 1 + (k + 1) = i0 + 1 + k + 1 := by omega
    rw [e2, ht, List.filter_append, ← p4, xbr (by rw [List.length_set]; omega)]
    congr 1
    ·rw [List.take_set_of_le (Nat.le_refl _)]
    ·rw [List.getD_eq_getElem?_getD, List.getElem?_set_self (by omega), xnw, hK]
     rfl
   ·rw [List.getD_eq_getElem?_getD, List.getElem?_set_ne (by omega), ← List.getD_eq_getElem?_getD]
    exact p5 q (by omega)
  | false =>
   rw [cond_false]
   refine .inl ⟨_, rfl, i, l, rfl, by omega, by omega, p3, ?_, fun q hq' => p5 q (by omega)⟩
   have e2 : i0 + 1 + (k + 1) = i0 + 1 + k + 1 := by omega
   rw [e2, ht, List.filter_append, ← p4, xnw, hK]
   exact (List.append_nil _).symm
 ·subst e
  have e2 : i0 + 1 + (O.length - (i0 + 1)) = l.length := by omega
  rw [e2]
  refine ⟨2, [.i (i : Int), .i (l.length : Int), .r l], ?_, i, _, l, rfl, by omega, p3, ?_⟩
  ·unfold xdx
   simp only [gi_z, gi_1, gr_2, gr_z, dnlt]
  ·rw [p4, e2, p3, List.take_length]
 ·unfold xgw
  rw [hi0, xaA (show i0 < 4611686018427387904 by omega), gr_1, gr_z]
 ·rw [show i0 + 1 + 0 = i0 + 1 from rfl, xbr hi, List.filter_append, hcl i0 (Nat.le_refl _), xnw, hk]
  exact (List.append_nil _).symm
noncomputable def nmF (f : Int) (base fc rp : List (List Int)) (out W : List (List Int)) : List (List Int) := if (lw f base fc rp W).1 = 0 then out.filter (kp W) else out
theorem xz4 {O : List (List Int)} {p : List Int → Bool} (h : ∀ q, q < O.length → p (O.getD q []) = true) : O.filter p = O := by
 rw [List.filter_eq_self]
 intro a ha
 obtain ⟨q, hq, rfl⟩ := xe1 ha
 exact h q hq
theorem xGh (g : GS f base fc rp) (hf : fc.length ≤ 9223372036854775807) (hm : 0 ≤ most ∧ most ≤ 3) {n : Nat} (hn : (xaf f most base fc rp).length = n) (hs : n ≤ 3) (h1 : ∀ e ∈ xaf f most base fc rp, e.length = 1) :
  xay (xdA f most base fc rp) (xh9 f most base fc rp) ∧
  (((xeN f most base fc rp).1 = 1 ∧ ∃ w, (xaB rp.length (n : Int)).find? (fun w => !decide (okE (lw f base fc rp w).1)) = some w ∧ gi (xeN f most base fc rp).2 1 = (lw f base fc rp w).1) ∨
   ((xeN f most base fc rp).1 = 5 ∧ (∀ w ∈ xaB rp.length (n : Int), okE (lw f base fc rp w).1) ∧ gr (xeN f most base fc rp).2 1 = (xaB rp.length (n : Int)).foldl (nmF f base fc rp) (xaf f most base fc rp))) := by
 have eD : nD f most base fc rp = xaB rp.length (n : Int) := by unfold nD; rw [hn]
 refine xdL (step := xdA f most base fc rp) (xaB rp.length (n : Int)).length
  (fun j xs => ∃ out, xs = [.i (j : Int), .r out] ∧ out = ((xaB rp.length (n : Int)).take j).foldl (nmF f base fc rp) (xaf f most base fc rp) ∧ (∀ e ∈ out, e.length = 1) ∧ out.length ≤ 3 ∧ ∀ q, q < j → okE (lw f base fc rp ((xaB rp.length (n : Int)).getD q [])).1)
  (fun res => (res.1 = 1 ∧ ∃ w, (xaB rp.length (n : Int)).find? (fun w => !decide (okE (lw f base fc rp w).1)) = some w ∧ gi res.2 1 = (lw f base fc rp w).1) ∨
   (res.1 = 5 ∧ (∀ w ∈ xaB rp.length (n : Int), okE (lw f base fc rp w).1) ∧ gr res.2 1 = (xaB rp.length (n : Int)).foldl (nmF f base fc rp) (xaf f most base fc rp)))
  (fun j xs hj ⟨out, e, p1, p2, p3, p4⟩ => ?_) (fun xs ⟨out, e, p1, p2, p3, p4⟩ => ?_) ⟨xaf f most base fc rp, rfl, rfl, h1, by omega, fun q hq => absurd hq (by omega)⟩
 ·subst e
  obtain ⟨l1, l2, l3⟩ := xyl g hf hm (show n ≤ 1000000 by omega) hj
  have hWl := xpL (xCt hj)
  have eW : (nD f most base fc rp).getD j [] = (xaB rp.length (n : Int)).getD j [] := by rw [eD]
  have hw : ((xaB rp.length (n : Int)).getD j []).length ≤ 9223372036854775806 := by omega
  have next : ∀ out', out' = nmF f base fc rp out ((xaB rp.length (n : Int)).getD j []) → okE (lw f base fc rp ((xaB rp.length (n : Int)).getD j [])).1 →
    ∃ o, [U.i ((j : Int) + 1), U.r out'] = [.i ((j + 1 : Nat) : Int), .r o] ∧ o = ((xaB rp.length (n : Int)).take (j + 1)).foldl (nmF f base fc rp) (xaf f most base fc rp) ∧ (∀ e ∈ o, e.length = 1) ∧ o.length ≤ 3 ∧ ∀ q, q < j + 1 → okE (lw f base fc rp ((xaB rp.length (n : Int)).getD q [])).1 := fun out' ho hok => by
   refine ⟨out', rfl, ?_, ?_, ?_, fun q hq => ?_⟩
   ·rw [xwz hj, List.foldl_append, ← p1]; exact ho
   ·rw [ho]; unfold nmF
    split
    ·exact fun e he => p2 e (List.mem_filter.1 he).1
    ·exact p2
   ·rw [ho]; unfold nmF
    split
    ·exact Nat.le_trans (List.length_filter_le _ _) p3
    ·exact p3
   ·by_cases e : q = j
    ·subst e; exact hok
    ·exact p4 q (by omega)
  unfold xdA
  unfold nD at eD
  simp only [gi_z, gr_1, gr_z, eD, dlt hj, Int.toNat_natCast, xaa l1, l2, l3, xA0]
  by_cases h1 : okE (lw f base fc rp ((xaB rp.length (n : Int)).getD j [])).1
  ·rw [decide_eq_true h1, Bool.not_true, cond_false]
   by_cases h0 : (lw f base fc rp ((xaB rp.length (n : Int)).getD j [])).1 = 0
   ·have b0 : ((lw f base fc rp ((xaB rp.length (n : Int)).getD j [])).1 == (0 : Int)) = true := by rw [beq_iff_eq]; exact h0
    obtain ⟨m1, m2⟩ := xGg (out := out) eW hw (by omega)
    rw [b0, cond_true, xaa m1]
    rcases m2 with ⟨i0, k1, k2, k3, k4⟩ | ⟨k1, k2⟩
    ·obtain ⟨n1, i, x, l, n2, n3, n4, n5⟩ := xGe eW hw (by omega) p2 k1 k2 k3 k4
     unfold xjo xh5 xpU xeM
     rw [k4, n2]
     have bm : ((i0 : Int) == -1) = false := by rw [beq_eq_false_iff_ne]; omega
     rw [bm, cond_false, xaa n1]
     simp only [gi_z, gr_2, gr_z, xaz, loN, Option.getD_some, Int.toNat_natCast]
     have el : (l.take i ++ List.replicate (l.length - i) [(0 : Int)] ++ l.drop l.length).length = l.length := by
      rw [List.length_append, List.length_append, List.length_take, List.length_replicate, List.length_drop]; omega
     rw [el, xaa (by omega), xaa (by omega), xaa (by omega), xaa (by omega)]
     refine .inl ⟨_, rfl, next _ ?_ h1⟩
     rw [List.append_assoc, List.take_append_of_le_length (by rw [List.length_take]; omega), List.take_take, Nat.min_self, n5]
     unfold nmF
     rw [if_pos h0]
    ·rw [k2]
     have bm : ((-1 : Int) == -1) = true := rfl
     rw [bm, cond_true]
     refine .inl ⟨_, rfl, next _ ?_ h1⟩
     unfold nmF
     rw [if_pos h0, xz4 k1]
   ·have b0 : ((lw f base fc rp ((xaB rp.length (n : Int)).getD j [])).1 == (0 : Int)) = false := by rw [beq_eq_false_iff_ne]; exact h0
    rw [b0, cond_false]
    refine .inl ⟨_, rfl, next _ ?_ h1⟩
    unfold nmF
    rw [if_neg h0]
  ·rw [decide_eq_false h1, Bool.not_false, cond_true]
   exact .inr ⟨0, _, rfl, .inl ⟨rfl, _, xti hj (fun q hq => by rw [decide_eq_true (p4 q hq)]; rfl) (by rw [decide_eq_false h1]; rfl), by rw [gi_1, gi_z]⟩⟩
 ·subst e
  refine ⟨4, [.i ((xaB rp.length (n : Int)).length : Int), .r out], ?_, .inr ⟨rfl, xlv (P := fun w => okE (lw f base fc rp w).1) p4, by rw [gr_1, gr_z, p1, List.take_length]⟩⟩
  unfold xdA
  unfold nD at eD
  simp only [gi_z, gr_1, gr_z, eD, dnlt]
end
theorem xDG {f most : Int} {base fc rp : List (List Int)} (h : (exR f most base fc rp).2.2 = 0) : askE f most base fc rp = 0 ∧ (exR f most base fc rp).1 ∈ alls rp.length (most.toNat + 1) ∧
  (alls rp.length (most.toNat + 1)).find? (fun w => (lw f base fc rp w).1 != 18) = some (exR f most base fc rp).1 ∧ (lw f base fc rp (exR f most base fc rp).1).1 = 0 ∧ (exR f most base fc rp).2.1 = (lw f base fc rp (exR f most base fc rp).1).2 := by
 unfold exR at h ⊢
 by_cases ha : askE f most base fc rp = 0
 ·rw [if_neg (fun k => k ha)] at h ⊢
  cases hF : (alls rp.length (most.toNat + 1)).find? (fun w => (lw f base fc rp w).1 != 18) with
  | none => rw [hF] at h; cases h
  | some w =>
   rw [hF] at h
   simp only at h ⊢
   by_cases h0 : (lw f base fc rp w).1 = 0
   ·rw [if_neg (fun k => k h0)]
    exact ⟨ha, List.mem_of_find?_eq_some hF, rfl, h0, rfl⟩
   ·rw [if_pos h0] at h
    exact absurd h h0
 ·rw [if_pos ha] at h
  exact absurd h ha
theorem xEp {f most : Int} {base fc rp : List (List Int)} (h : (exR f most base fc rp).2.2 ≠ 0) : (exR f most base fc rp).1 = [] ∧ (exR f most base fc rp).2.1 = [] := by
 unfold exR at h ⊢
 by_cases ha : askE f most base fc rp = 0
 ·rw [if_neg (fun k => k ha)] at h ⊢
  cases hF : (alls rp.length (most.toNat + 1)).find? (fun w => (lw f base fc rp w).1 != 18) with
  | none => exact ⟨rfl, rfl⟩
  | some w =>
   rw [hF] at h
   simp only at h ⊢
   by_cases h0 : (lw f base fc rp w).1 = 0
   ·rw [if_neg (fun k => k h0)] at h; exact absurd rfl h
   ·rw [if_pos h0]; exact ⟨rfl, rfl⟩
 ·rw [if_pos ha]; exact ⟨rfl, rfl⟩
theorem xp6 {m n : Nat} {w : List (List Int)} (h : w ∈ alls m n) : w.length < n ∧ w ∈ xaB m (w.length : Int) ∧ ∀ e ∈ w, e.length = 1 := by
 obtain ⟨s, hs, hw⟩ := xy9.1 h
 have hl := xpL hw
 have hl' : w.length = s := by omega
 refine ⟨by omega, by rw [hl']; exact hw, ?_⟩
 obtain ⟨c, rfl, _⟩ := xw8.1 hw
 intro e he
 unfold xgK at he
 obtain ⟨z, _, rfl⟩ := List.mem_map.1 he
 rfl
theorem xr2 (f most : Int) (base fc rp : List (List Int)) (h13 : Si.El13 rp) (hf : fc.length ≤ 9223372036854775807) :
  xdV f most base fc rp ∧
  (((exR f most base fc rp).2.2 ≠ 0 ∧ xdW f most base fc rp = (exR f most base fc rp).2.2 ∧ xcn f most base fc rp = []) ∨
   ((exR f most base fc rp).2.2 = 0 ∧ (∃ w, (xaB rp.length ((exR f most base fc rp).1.length : Int)).find? (fun w => !decide (okE (lw f base fc rp w).1)) = some w ∧ xdW f most base fc rp = (lw f base fc rp w).1) ∧ xcn f most base fc rp = []) ∨
   ((exR f most base fc rp).2.2 = 0 ∧ (∀ w ∈ xaB rp.length ((exR f most base fc rp).1.length : Int), okE (lw f base fc rp w).1) ∧ xdW f most base fc rp = 0 ∧
    xcn f most base fc rp = (xaB rp.length ((exR f most base fc rp).1.length : Int)).foldl (nmF f base fc rp) (exR f most base fc rp).1)) := by
 obtain ⟨e1, e2, e3, e4⟩ := xnx f most base fc rp h13 hf
 unfold xdV xdW xcn
 rw [e4]
 by_cases h : (exR f most base fc rp).2.2 = 0
 ·obtain ⟨ha, hm, _⟩ := xDG h
  obtain ⟨_, g, m0, m3, hl⟩ := xtK ha
  obtain ⟨o1, o2, o3⟩ := xp6 hm
  have hs3 : (exR f most base fc rp).1.length ≤ 3 := by omega
  have hb : ((0 : Int) ≤ ((exR f most base fc rp).1.length : Int) ∧ ((exR f most base fc rp).1.length : Int) ≤ 1000000) ∧ (rp.length : Int) ≤ 1000000 := by omega
  obtain ⟨l1, l2⟩ := xGh g hf ⟨m0, m3⟩ (n := (exR f most base fc rp).1.length) (by rw [e2]) hs3 (by rw [e2]; exact o3)
  rw [h, e2]
  have z0 : ((0 : Int) != 0) = false := rfl
  rw [z0]
  have pre : xbA (exR f most base fc rp).1 := ⟨fun k => ⟨trivial, by rw [k]; rfl, trivial⟩, by unfold xcI maxLen; omega⟩
  refine ⟨⟨e1, fun _ => ⟨pre, hb, l1⟩⟩, ?_⟩
  rcases l2 with ⟨k1, w, k2, k4⟩ | ⟨k1, k2, k3⟩
  ·rw [k1, k4]
   exact .inr (.inl ⟨rfl, ⟨w, k2, rfl⟩, rfl⟩)
  ·rw [k1, k3, e2]
   exact .inr (.inr ⟨rfl, k2, rfl, rfl⟩)
 ·have b : ((exR f most base fc rp).2.2 != (0 : Int)) = true := by rw [bne_iff_ne]; exact h
  rw [b]
  exact ⟨⟨e1, fun k => (by cases k)⟩, .inl ⟨h, rfl, rfl⟩⟩
end Go.Proofs.YtnijhjpaplihbaaGreat
