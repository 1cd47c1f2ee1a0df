/- Several texts in one (wip/xiS.py): XDriftN XSeen. -/
import Derived.Test.YtnijhjpaplihbaaGreatSyLq
import Derived.Test.YtnijhjpaplihbaaGreatSyH
import Derived.Test.YtnijhjpaplihbaaGreatDrift1D
import Derived.Test.YtnijhjpaplihbaaGreatSight1D
set_option linter.unusedVariables false
namespace Go.Proofs.YtnijhjpaplihbaaGreat
open Go Go.Sy
theorem xfW {i : Nat} (h : i < 9223372036854775807) : IntKind.i64.wrap ((i : Int) + 1) = ((i + 1 : Nat) : Int) := by
 rw [xav (by omega)]; rfl
theorem xta (a b : Int) : imin a b = if a ≤ b then a else b := by unfold imin; split <;> split <;> omega
theorem xtb (a b : Int) : imax a b = if a ≤ b then b else a := by unfold imax; split <;> split <;> omega
theorem xt0 (a b : Int) : xaw a b = true ↔ -1000000000000 ≤ a ∧ a ≤ b ∧ b ≤ 1000000000000 := by
 unfold xaw; simp [and_assoc]
theorem xeq (a b : Int) : xaw a b = decide (-1000000000000 ≤ a ∧ a ≤ b ∧ b ≤ 1000000000000) := by
 rw [Bool.eq_iff_iff, xt0, decide_eq_true_eq]
theorem xnm (a b k : Int) (hk : 0 ≤ k ∧ k ≤ 1000000000000) : (xbu a b (-k) k == (0 : Int)) = true ∧ xbd a b (-k) k = true ↔ -k ≤ a ∧ a ≤ b ∧ b ≤ k := by
 unfold xbu xbd xau xcZ xcY xd4 xd3
 rw [xeq, xeq, xta, xtb]
 rw [decide_eq_true (show -1000000000000 ≤ -k ∧ -k ≤ k ∧ k ≤ 1000000000000 by omega)]
 by_cases h : -1000000000000 ≤ a ∧ a ≤ b ∧ b ≤ 1000000000000
 ·rw [decide_eq_true h]
  simp
  omega
 ·rw [decide_eq_false h]
  simp
  omega
def VB (b : List Int) : Prop := -1000000 ≤ b.getD 0 0 ∧ b.getD 0 0 ≤ b.getD 1 0 ∧ b.getD 1 0 ≤ 1000000 ∧ -1000000 ≤ b.getD 2 0 ∧ b.getD 2 0 ≤ b.getD 3 0 ∧ b.getD 3 0 ≤ 1000000
instance (b : List Int) : Decidable (VB b) := by unfold VB; infer_instance
theorem xse (a b c d : Int) : xac a b c d = decide (-1000000 ≤ a ∧ a ≤ b ∧ b ≤ 1000000 ∧ -1000000 ≤ c ∧ c ≤ d ∧ d ≤ 1000000) := by
 rw [Bool.eq_iff_iff, decide_eq_true_eq]
 have h1 := xnm a b 1000000 (by omega)
 have h2 := xnm c d 1000000 (by omega)
 unfold xac
 simp only [Bool.and_eq_true] at *
 constructor
 ·rintro ⟨⟨⟨g1, g2⟩, g3⟩, g4⟩
  have := h1.1 ⟨g1, g3⟩
  have := h2.1 ⟨g2, g4⟩
  omega
 ·rintro h
  have k1 := h1.2 (by omega)
  have k2 := h2.2 (by omega)
  exact ⟨⟨⟨k1.1, k2.1⟩, k1.2⟩, k2.2⟩
theorem xww (b : List Int) : xac (b.getD 0 0) (b.getD 1 0) (b.getD 2 0) (b.getD 3 0) = decide (VB b) := xse _ _ _ _
def VP (x y : Int) : Prop := -1000000 ≤ x ∧ x ≤ 1000000 ∧ -1000000 ≤ y ∧ y ≤ 1000000
instance (x y : Int) : Decidable (VP x y) := by unfold VP; infer_instance
theorem xrY (x y : Int) : xbH x y = decide (VP x y) := by
 unfold xbH
 rw [xse]
 unfold VP
 by_cases h : -1000000 ≤ x ∧ x ≤ 1000000 ∧ -1000000 ≤ y ∧ y ≤ 1000000
 ·rw [decide_eq_true h, decide_eq_true (by omega)]
 ·rw [decide_eq_false h, decide_eq_false (by omega)]
def VL (l : List (List Int)) : Prop := 0 < l.length ∧ l.length ≤ 16 ∧ ∀ b ∈ l, VB b
instance (l : List (List Int)) : Decidable (VL l) := by unfold VL; infer_instance
theorem xaW {l : List (List Int)} {i : Nat} (h : i < l.length) : l.getD i [] ∈ l := by
 rw [List.getD_eq_getElem?_getD, List.getElem?_eq_getElem h]
 exact List.getElem_mem h
theorem xe1 {l : List (List Int)} {x : List Int} (h : x ∈ l) : ∃ i, i < l.length ∧ l.getD i [] = x := by
 obtain ⟨j, hj, rfl⟩ := List.getElem_of_mem h
 exact ⟨j, hj, by rw [List.getD_eq_getElem?_getD, List.getElem?_eq_getElem hj]; rfl⟩
theorem xbr {l : List (List Int)} {i : Nat} (h : i < l.length) : l.take (i + 1) = l.take i ++ [l.getD i []] := by
 rw [List.take_succ_eq_append_getElem h, List.getD_eq_getElem?_getD, List.getElem?_eq_getElem h]; rfl
theorem xqB {a b : List (List Int)} (hl : a.length = b.length) (h : ∀ i, i < a.length → a.getD i [] = b.getD i []) : a = b := by
 apply List.ext_getElem hl
 intro i h1 h2
 have := h i h1
 rwa [List.getD_eq_getElem?_getD, List.getD_eq_getElem?_getD, List.getElem?_eq_getElem h1, List.getElem?_eq_getElem h2] at this
theorem xhJ (l : List (List Int)) : xcJ l ∧ xbk l = decide (VL l) := by
 unfold xcJ xbk
 by_cases hl : 0 < l.length ∧ l.length ≤ 16
 ·have hl' : (decide ((l.length : Int) > 0) && decide ((l.length : Int) ≤ 16)) = true := by simp; omega
  have key := xa6 (step := xed l) l.length (fun i => !decide (VB (l.getD i []))) (fun i => [.i 0, .i i]) (fun i => [.i i]) 0 2 [.i 0, .i l.length]
   (fun i hi => by
    unfold xed
    simp only [gi_1, gi_z, gb_z, dlt hi, xaa (xa1 hi), Int.toNat_natCast, xaA (show i < 4611686018427387904 by omega), xww]
    try rfl)
   (by
    unfold xed
    simp only [gi_1, gi_z, gb_z, dnlt]
    try rfl)
  rw [hl']
  refine ⟨fun _ => key.1, ?_⟩
  rw [Bool.true_and]
  rcases key.2 with ⟨i, h1, h2, h3, h4⟩ | ⟨h3, h4⟩
  ·have e : xiD l = (1, [.i i]) := h4
   rw [e]
   have : ¬ VL l := fun h => by
    have := h.2.2 _ (xaW h1)
    rw [decide_eq_true this] at h2; cases h2
   rw [decide_eq_false this]; simp [Nat.beq, gi_z]
  ·have e : xiD l = (3, [.i 0, .i l.length]) := h4
   rw [e]
   have : VL l := by
    refine ⟨hl.1, hl.2, fun x hx => ?_⟩
    obtain ⟨j, hj, rfl⟩ := xe1 hx
    simpa using h3 j hj
   rw [decide_eq_true this]; simp [Nat.beq]
 ·have hl' : (decide ((l.length : Int) > 0) && decide ((l.length : Int) ≤ 16)) = false := by simp; omega
  rw [hl']
  refine ⟨fun h => (Bool.noConfusion h), ?_⟩
  have : ¬ VL l := fun h => hl ⟨h.1, h.2.1⟩
  rw [decide_eq_false this]; rfl
def CO (e : Int) (c : List Int) : Prop := (-1000 ≤ c.getD 2 0 ∧ c.getD 2 0 ≤ c.getD 3 0 ∧ c.getD 3 0 ≤ 1000) ∧ (-1000 ≤ c.getD 4 0 ∧ c.getD 4 0 ≤ c.getD 5 0 ∧ c.getD 5 0 ≤ 1000) ∧ e ≤ c.getD 0 0 ∧ c.getD 0 0 < c.getD 1 0 ∧ c.getD 1 0 ≤ 10000000
instance (e : Int) (c : List Int) : Decidable (CO e c) := by unfold CO; infer_instance
def CL : Int → List (List Int) → Prop
 | _, [] => True
 | e, c :: l => CO e c ∧ CL (c.getD 1 0) l
instance xGu : (e : Int) → (l : List (List Int)) → Decidable (CL e l)
 | _, [] => .isTrue trivial
 | e, c :: l => by unfold CL; exact @instDecidableAnd _ _ _ (xGu _ l)
def VC (l : List (List Int)) : Prop := CL 0 l ∧ l.length ≤ 60
instance (l : List (List Int)) : Decidable (VC l) := by unfold VC; infer_instance
def xnE (e : Int) : List (List Int) → Int
 | [] => e
 | c :: l => xnE (c.getD 1 0) l
theorem xrs (e : Int) (a b : List (List Int)) : xnE e (a ++ b) = xnE (xnE e a) b := by
 induction a generalizing e with
 | nil => rfl
 | cons c a ih => exact ih _
theorem xnl (e : Int) (a b : List (List Int)) : CL e (a ++ b) ↔ CL e a ∧ CL (xnE e a) b := by
 induction a generalizing e with
 | nil => simp [CL, xnE]
 | cons c a ih => simp [CL, xnE, ih, and_assoc]
theorem xGv (e : Int) (c : List Int) : (xbu (c.getD 2 0) (c.getD 3 0) (-1000) 1000 != 0 || xbu (c.getD 4 0) (c.getD 5 0) (-1000) 1000 != 0 || !xbd (c.getD 2 0) (c.getD 3 0) (-1000) 1000 || !xbd (c.getD 4 0) (c.getD 5 0) (-1000) 1000 || decide (c.getD 0 0 < e) || decide (c.getD 1 0 ≤ c.getD 0 0) || decide (c.getD 1 0 > 10000000)) = !decide (CO e c) := by
 have h1 := xnm (c.getD 2 0) (c.getD 3 0) 1000 (by omega)
 have h2 := xnm (c.getD 4 0) (c.getD 5 0) 1000 (by omega)
 have hCO : CO e c ↔ (((xbu (c.getD 2 0) (c.getD 3 0) (-1000) 1000 == (0 : Int)) = true ∧ xbd (c.getD 2 0) (c.getD 3 0) (-1000) 1000 = true) ∧ ((xbu (c.getD 4 0) (c.getD 5 0) (-1000) 1000 == (0 : Int)) = true ∧ xbd (c.getD 4 0) (c.getD 5 0) (-1000) 1000 = true) ∧ e ≤ c.getD 0 0 ∧ c.getD 0 0 < c.getD 1 0 ∧ c.getD 1 0 ≤ 10000000) := by
  rw [h1, h2]; rfl
 rw [Bool.eq_iff_iff]
 simp only [hCO, Bool.or_eq_true, Bool.not_eq_true', decide_eq_true_eq, decide_eq_false_iff_not, bne_iff_ne, beq_iff_eq]
 generalize xbd (c.getD 2 0) (c.getD 3 0) (-1000) 1000 = p
 generalize xbd (c.getD 4 0) (c.getD 5 0) (-1000) 1000 = q
 cases p <;> cases q <;> simp <;> omega
theorem xlT (l : List (List Int)) (hl : l.length ≤ 9223372036854775807) : xdq l ∧ xbb l = decide (VC l) := by
 have key := xa6 (step := xcX l) l.length (fun i => !decide (CO (xnE 0 (l.take i)) (l.getD i []))) (fun i => [.b false, .i (xnE 0 (l.take i)), .i i]) (fun i => []) 0 2 [.b false, .i (xnE 0 l), .i l.length]
  (fun i hi => by
   unfold xcX
   simp only [gi_1, gi_2, gi_z, gb_z, dlt hi, xaa (xa1 hi), Int.toNat_natCast, xfW (show i < 9223372036854775807 by omega), xGv]
   rw [xbr hi, xrs]
   rfl)
  (by
   unfold xcX
   simp only [gi_1, gi_2, gi_z, gb_z, dnlt, List.take_length])
 refine ⟨key.1, ?_⟩
 unfold xbb
 rcases key.2 with ⟨i, h1, h2, h3, h4⟩ | ⟨h3, h4⟩
 ·have e : xiw l = (1, []) := h4
  rw [e]
  have : ¬ VC l := fun h => by
   have h := h.1
   rw [← List.take_append_drop i l, xnl] at h
   have h := h.2
   rw [List.drop_eq_getElem_cons h1] at h
   have hg : l[i] = l.getD i [] := by rw [List.getD_eq_getElem?_getD, List.getElem?_eq_getElem h1]; rfl
   rw [hg] at h
   rw [decide_eq_true h.1] at h2
   cases h2
  rw [decide_eq_false this]; simp [Nat.beq]
 ·have e : xiw l = (3, [.b false, .i (xnE 0 l), .i l.length]) := h4
  rw [e]
  have hcl : ∀ i, i ≤ l.length → CL 0 (l.take i) := by
   intro i
   induction i with
   | zero => intro _; simp [CL]
   | succ i ih =>
    intro hi
    rw [xbr hi, xnl]
    refine ⟨ih (by omega), ?_, trivial⟩
    simpa using h3 i hi
  have := hcl _ (Nat.le_refl _)
  rw [List.take_length] at this
  by_cases h60 : l.length ≤ 60
  ·rw [decide_eq_true (show VC l from ⟨this, h60⟩)]; simp [Nat.beq]; omega
  ·rw [decide_eq_false (show ¬ VC l from fun h => h60 h.2)]; simp [Nat.beq]; omega
def mins (f u : Int) (c : List Int) : Int := max 0 (min (c.getD 1 0) u - max (c.getD 0 0) f)
def sumL (f u : Int) (k : Nat) (l : List (List Int)) : Int := (l.map fun c => mins f u c * c.getD k 0).sum
def covL (f u : Int) (l : List (List Int)) : Int := (l.map fun c => mins f u c).sum
theorem xvg {e : Int} {l : List (List Int)} (h : CL e l) : ∀ c ∈ l, CO e c := by
 induction l generalizing e with
 | nil => intro c hc; cases hc
 | cons d l ih =>
  intro c hc
  rcases List.mem_cons.1 hc with rfl | hc
  ·exact h.1
  ·have h1 := ih h.2 c hc
   have h2 := h.1
   unfold CO at *
   omega
def VT (f u : Int) : Prop := 0 ≤ f ∧ f ≤ u ∧ u ≤ 10000000
instance (f u : Int) : Decidable (VT f u) := by unfold VT; infer_instance
theorem xs1 {f u e : Int} {c : List Int} (h : VT f u) (hc : CO e c) : 0 ≤ mins f u c ∧ mins f u c ≤ 10000000 := by
 unfold mins VT CO at *; omega
theorem xkv {n x : Int} (h1 : 0 ≤ n) (h2 : n ≤ 10000000) (h3 : -1000 ≤ x) (h4 : x ≤ 1000) : -10000000000 ≤ n * x ∧ n * x ≤ 10000000000 := by
 have a := Int.mul_le_mul_of_nonneg_left h4 h1
 have b := Int.mul_le_mul_of_nonneg_left h3 h1
 omega
theorem xyS (a : List Int) (x : Int) : (a ++ [x]).sum = a.sum + x := by simp
theorem xmg (f u : Int) (k : Nat) {l : List (List Int)} {i : Nat} (hi : i < l.length) : sumL f u k (l.take (i + 1)) = sumL f u k (l.take i) + mins f u (l.getD i []) * (l.getD i []).getD k 0 := by
 unfold sumL; rw [xbr hi, List.map_append, List.map_cons, List.map_nil, xyS]
theorem xpZ (f u : Int) {l : List (List Int)} {i : Nat} (hi : i < l.length) : covL f u (l.take (i + 1)) = covL f u (l.take i) + mins f u (l.getD i []) := by
 unfold covL; rw [xbr hi, List.map_append, List.map_cons, List.map_nil, xyS]
theorem xBX (f u : Int) (l : List (List Int)) (hv : VC l) (ht : VT f u) : xay (xd1 f u l) (xfs f u l) ∧
  xdl f u l = (3, [.i l.length, .i (u - f - covL f u l), .i (sumL f u 4 l), .i (sumL f u 5 l), .i (sumL f u 2 l), .i (sumL f u 3 l)]) := by
 have key := xgN (σ := Unit) (step := xd1 f u l) l.length
  (fun i _ => [.i i, .i (u - f - covL f u (l.take i)), .i (sumL f u 4 (l.take i)), .i (sumL f u 5 (l.take i)), .i (sumL f u 2 (l.take i)), .i (sumL f u 3 (l.take i))]) (fun _ s => s)
  (fun i _ => (0 ≤ covL f u (l.take i) ∧ covL f u (l.take i) ≤ 10000000 * i) ∧ ∀ k, k = 2 ∨ k = 3 ∨ k = 4 ∨ k = 5 → -10000000000 * i ≤ sumL f u k (l.take i) ∧ sumL f u k (l.take i) ≤ 10000000000 * i) 2
  (fun _ => [.i l.length, .i (u - f - covL f u l), .i (sumL f u 4 l), .i (sumL f u 5 l), .i (sumL f u 2 l), .i (sumL f u 3 l)])
  (fun i s hi ⟨h, h2⟩ => by
   have hc := xvg hv.1 _ (xaW hi)
   have hm := xs1 ht hc
   refine ⟨?_, fun k hk => ?_⟩
   ·rw [xpZ f u hi]
    omega
   ·have := h2 k hk
    have hb : -1000 ≤ (l.getD i []).getD k 0 ∧ (l.getD i []).getD k 0 ≤ 1000 := by
     unfold CO at hc
     rcases hk with rfl | rfl | rfl | rfl <;> omega
    have := xkv hm.1 hm.2 hb.1 hb.2
    rw [xmg f u k hi]
    omega)
  (fun i s hi ⟨h, h2⟩ => by
   have hc := xvg hv.1 _ (xaW hi)
   have hm := xs1 ht hc
   have h60 := hv.2
   have p2 := h2 2 (by simp)
   have p3 := h2 3 (by simp)
   have p4 := h2 4 (by simp)
   have p5 := h2 5 (by simp)
   have m2 := xkv (x := (l.getD i []).getD 2 0) hm.1 hm.2 (by unfold CO at hc; omega) (by unfold CO at hc; omega)
   have m3 := xkv (x := (l.getD i []).getD 3 0) hm.1 hm.2 (by unfold CO at hc; omega) (by unfold CO at hc; omega)
   have m4 := xkv (x := (l.getD i []).getD 4 0) hm.1 hm.2 (by unfold CO at hc; omega) (by unfold CO at hc; omega)
   have m5 := xkv (x := (l.getD i []).getD 5 0) hm.1 hm.2 (by unfold CO at hc; omega) (by unfold CO at hc; omega)
   unfold xd1
   simp only [gi_z, gi_1, gi_2, gi_3, gi_4, dlt hi, xaa (xa1 hi), Int.toNat_natCast, xaA (show i < 4611686018427387904 by omega)]
   have g5 : ∀ a b c d e f : Int, gi [.i a, .i b, .i c, .i d, .i e, .i f] 5 = f := fun _ _ _ _ _ _ => rfl
   simp only [g5, xmg f u _ hi, xpZ f u hi]
   generalize hmm : mins f u (l.getD i []) = M at *
   have hw : IntKind.i64.wrap (imin ((l.getD i []).getD 1 0) u - imax ((l.getD i []).getD 0 0) f) = min ((l.getD i []).getD 1 0) u - max ((l.getD i []).getD 0 0) f := by
    rw [xav (by rw [xta, xtb]; unfold CO VT at *; split <;> split <;> omega), xta, xtb]
    split <;> split <;> omega
   rw [hw]
   by_cases hp : min ((l.getD i []).getD 1 0) u - max ((l.getD i []).getD 0 0) f > 0
   ·have eM : min ((l.getD i []).getD 1 0) u - max ((l.getD i []).getD 0 0) f = M := by unfold mins at hmm; omega
    rw [decide_eq_true hp, eM]
    simp only [beq_self_eq_true, cond_true]
    rw [xav (show _ ≤ M * (l.getD i []).getD 2 0 ∧ _ by omega), xav (show _ ≤ M * (l.getD i []).getD 3 0 ∧ _ by omega), xav (show _ ≤ M * (l.getD i []).getD 4 0 ∧ _ by omega), xav (show _ ≤ M * (l.getD i []).getD 5 0 ∧ _ by omega)]
    have : (0 : Int) ≤ i ∧ (i : Int) ≤ 60 := by omega
    unfold VT at ht
    rw [xav (by omega), xav (by omega), xav (by omega), xav (by omega), xav (by omega)]
    simp only [Option.some.injEq, Prod.mk.injEq, List.cons.injEq, U.i.injEq, and_true, true_and]
    omega
   ·have eM : M = 0 := by unfold mins at hmm; omega
    rw [decide_eq_false hp, eM]
    simp)
  (fun s _ => by
   unfold xd1
   simp only [gi_z, gi_1, gi_2, gi_3, gi_4, dnlt, List.take_length]
   rfl) (s := ()) (by simp [covL, sumL])
 have e0 : xfs f u l = [.i ((0 : Nat) : Int), .i (u - f - covL f u (l.take 0)), .i (sumL f u 4 (l.take 0)), .i (sumL f u 5 (l.take 0)), .i (sumL f u 2 (l.take 0)), .i (sumL f u 3 (l.take 0))] := by
  unfold xfs
  rw [xav (by unfold VT at ht; omega)]
  simp [covL, sumL]
 unfold xdl
 rw [e0]
 exact ⟨key.1, key.2.1⟩
def sumE (f u : Int) (l : List (List Int)) : Int := if ¬ VC l ∨ ¬ VT f u then 1 else if u - f - covL f u l > 0 then 4 else 0
def sumV (f u : Int) (k : Nat) (l : List (List Int)) : Int := if sumE f u l = 0 then sumL f u k l else 0
theorem xBY (f u : Int) (l : List (List Int)) (hl : l.length ≤ 9223372036854775807) : (!xbb l || decide (f < 0) || decide (u < f) || decide (u > 10000000)) = decide (¬ VC l ∨ ¬ VT f u) := by
 rw [(xlT l hl).2]
 by_cases h : VC l
 ·rw [decide_eq_true h]
  unfold VT
  by_cases h2 : 0 ≤ f ∧ f ≤ u ∧ u ≤ 10000000
  ·rw [decide_eq_false (show ¬ f < 0 by omega), decide_eq_false (show ¬ u < f by omega), decide_eq_false (show ¬ u > 10000000 by omega), decide_eq_false (by simp [h, h2])]; rfl
  ·rw [decide_eq_true (show ¬ VC l ∨ _ from .inr h2)]
   simp only [Bool.not_true, Bool.false_or, Bool.or_eq_true, decide_eq_true_eq]
   omega
 ·rw [decide_eq_false h, decide_eq_true (show ¬ VC l ∨ ¬ VT f u from .inl h)]; rfl
theorem xAv (f u : Int) (l : List (List Int)) (hl : l.length ≤ 9223372036854775807) : xfK f u l ∧ xee f u l = sumE f u l ∧ xbY f u l = sumV f u 2 l ∧ xbX f u l = sumV f u 3 l ∧ xbW f u l = sumV f u 4 l ∧ xbV f u l = sumV f u 5 l := by
 unfold xfK xee xbY xbX xbW xbV sumV sumE
 rw [xBY f u l hl]
 by_cases h : ¬ VC l ∨ ¬ VT f u
 ·rw [decide_eq_true h]
  refine ⟨⟨(xlT l hl).1, fun h => by cases h⟩, ?_⟩
  simp [if_pos h]
 ·rw [decide_eq_false h, if_neg h]
  have hv : VC l := Decidable.byContradiction fun hn => h (.inl hn)
  have ht : VT f u := Decidable.byContradiction fun hn => h (.inr hn)
  obtain ⟨h1, h2⟩ := xBX f u l hv ht
  refine ⟨⟨(xlT l hl).1, fun _ => h1⟩, ?_⟩
  rw [h2]
  have g5 : ∀ a b c d e f : Int, gi [.i a, .i b, .i c, .i d, .i e, .i f] 5 = f := fun _ _ _ _ _ _ => rfl
  simp only [gi_1, gi_2, gi_3, gi_4, gi_z, cond_false, g5]
  by_cases hc : u - f - covL f u l > 0
  ·rw [decide_eq_true hc, if_pos hc]; exact ⟨rfl, rfl, rfl, rfl, rfl⟩
  ·rw [decide_eq_false hc, if_neg hc]; exact ⟨rfl, rfl, rfl, rfl, rfl⟩
end Go.Proofs.YtnijhjpaplihbaaGreat
set_option linter.unusedVariables false
namespace Go.Proofs.YtnijhjpaplihbaaGreat
open Go Go.Sy
theorem xAs {n : Int} (h : 0 ≤ n) : n.tdiv 100 = n / 100 := Int.tdiv_eq_ediv_of_nonneg h
noncomputable def dnW (n : Int) : Int := bif decide (n < (0 : Int)) then IntKind.i64.wrap ((0 : Int) - IntKind.i64.wrap ((IntKind.i64.wrap ((99 : Int) - n)).tdiv (100 : Int))) else IntKind.i64.wrap (n.tdiv (100 : Int))
theorem xCW {n : Int} (h : -1000000000000000 ≤ n ∧ n ≤ 1000000000000000) : dnW n = n / 100 := by
 unfold dnW
 by_cases hn : n < 0
 ·rw [decide_eq_true hn, cond_true, xav (x := 99 - n) (by omega), xAs (by omega), xav (x := (99 - n) / 100) (by omega), xav (by omega)]
  omega
 ·rw [decide_eq_false hn, cond_false, xAs (by omega), xav (by omega)]
noncomputable def loW (x s : Int) : Int := dnW (IntKind.i64.wrap (IntKind.i64.wrap ((100 : Int) * x) + s))
noncomputable def hiW (x s : Int) : Int := IntKind.i64.wrap ((0 : Int) - dnW (IntKind.i64.wrap ((0 : Int) - IntKind.i64.wrap (IntKind.i64.wrap ((100 : Int) * x) + s))))
def lo (x s : Int) : Int := (100 * x + s) / 100
def hi (x s : Int) : Int := -((-(100 * x + s)) / 100)
theorem xCO {x s : Int} (hx : -1000000 ≤ x ∧ x ≤ 1000000) (hs : -600000000000 ≤ s ∧ s ≤ 600000000000) : loW x s = lo x s := by
 unfold loW lo
 rw [xav (x := 100 * x) (by omega), xav (by omega), xCW (by omega)]
theorem xCS {x s : Int} (hx : -1000000 ≤ x ∧ x ≤ 1000000) (hs : -600000000000 ≤ s ∧ s ≤ 600000000000) : hiW x s = hi x s := by
 unfold hiW hi
 rw [xav (x := 100 * x) (by omega), xav (x := 100 * x + s) (by omega), xav (x := 0 - (100 * x + s)) (by omega), xCW (by omega), xav (by omega)]
 omega
def mvB (x0 x1 y0 y1 : Int) (b : List Int) : List Int := [lo (b.getD 0 0) x0, hi (b.getD 1 0) x1, lo (b.getD 2 0) y0, hi (b.getD 3 0) y1]
noncomputable def mvW (x0 x1 y0 y1 : Int) (b : List Int) : List Int := [loW (b.getD 0 0) x0, hiW (b.getD 1 0) x1, loW (b.getD 2 0) y0, hiW (b.getD 3 0) y1]
theorem xC5 {f u : Int} {l : List (List Int)} (hv : VC l) (ht : VT f u) {k : Nat} (hk : k = 2 ∨ k = 3 ∨ k = 4 ∨ k = 5) : -600000000000 ≤ sumL f u k l ∧ sumL f u k l ≤ 600000000000 := by
 have key : ∀ i, i ≤ l.length → -10000000000 * (i : Int) ≤ sumL f u k (l.take i) ∧ sumL f u k (l.take i) ≤ 10000000000 * (i : Int) := by
  intro i
  induction i with
  | zero => intro _; simp [sumL]
  | succ i ih =>
   intro hi
   have := ih (by omega)
   have hc := xvg hv.1 _ (xaW hi)
   have hm := xs1 ht hc
   have hb : -1000 ≤ (l.getD i []).getD k 0 ∧ (l.getD i []).getD k 0 ≤ 1000 := by
    unfold CO at hc
    rcases hk with rfl | rfl | rfl | rfl <;> omega
   have := xkv hm.1 hm.2 hb.1 hb.2
   rw [xmg f u k hi]
   omega
 have := key _ (Nat.le_refl _)
 rw [List.take_length] at this
 have := hv.2
 omega
theorem xxW {f u : Int} {l : List (List Int)} (h : sumE f u l = 0) : VC l ∧ VT f u ∧ u - f ≤ covL f u l := by
 unfold sumE at h
 split at h
 ·cases h
 ·rename_i hn
  split at h
  ·cases h
  ·exact ⟨Decidable.byContradiction fun k => hn (.inl k), Decidable.byContradiction fun k => hn (.inr k), by omega⟩
theorem xmf (f u : Int) (l : List (List Int)) {k : Nat} (hk : k = 2 ∨ k = 3 ∨ k = 4 ∨ k = 5) : -600000000000 ≤ sumV f u k l ∧ sumV f u k l ≤ 600000000000 := by
 unfold sumV
 by_cases h : sumE f u l = 0
 ·rw [if_pos h]
  have := xxW h
  exact xC5 this.1 this.2.1 hk
 ·rw [if_neg h]; omega
def mvF (f u : Int) (c : List (List Int)) (b : List Int) : List Int := mvB (sumV f u 2 c) (sumV f u 3 c) (sumV f u 4 c) (sumV f u 5 c) b
def xig (f u : Int) (l c : List (List Int)) : Int := if ¬ VL l then 1 else if sumE f u c ≠ 0 then sumE f u c else if ∃ b ∈ l, ¬ VB (mvF f u c b) then 3 else 0
def xiv (f u : Int) (l c : List (List Int)) : List (List Int) := if xig f u l c = 0 then l.map (mvF f u c) else []
theorem xA4 (f u : Int) (l c : List (List Int)) (hl : VL l) (hc : c.length ≤ 9223372036854775807) : xay (xdp f u l c) (xh2 f u l c) ∧
  ((∃ b ∈ l, ¬ VB (mvF f u c b)) ∧ xh3 f u l c = (1, []) ∨ (¬ ∃ b ∈ l, ¬ VB (mvF f u c b)) ∧ xh3 f u l c = (3, [.i 0, .i l.length, .r (l.map (mvF f u c))])) := by
 obtain ⟨_, _, s0, s1, s2, s3⟩ := xAv f u c hc
 have hlen := hl.2.1
 have key := xa6 (step := xdp f u l c) l.length (fun i => !decide (VB (mvF f u c (l.getD i [])))) (fun i => [.i 0, .i i, .r ((l.take i).map (mvF f u c))]) (fun i => []) 0 2 [.i 0, .i l.length, .r (l.map (mvF f u c))]
  (fun i hi => by
   have hb := hl.2.2 _ (xaW hi)
   have hw : mvW (sumV f u 2 c) (sumV f u 3 c) (sumV f u 4 c) (sumV f u 5 c) (l.getD i []) = mvF f u c (l.getD i []) := by
    unfold mvW mvF mvB
    unfold VB at hb
    rw [xCO (by omega) (xmf f u c (by simp)), xCS (by omega) (xmf f u c (by simp)), xCO (by omega) (xmf f u c (by simp)), xCS (by omega) (xmf f u c (by simp))]
   unfold xdp
   simp only [gi_z, gi_1, gi_2, gr_z, gr_1, gr_2, dlt hi, xaa (xa1 hi), Int.toNat_natCast, xaA (show i < 4611686018427387904 by omega), s0, s1, s2, s3]
   rw [xaa ⟨⟨fun _ => by decide, fun _ => by decide⟩, fun _ => by decide, fun _ => by decide⟩, xaa ⟨⟨fun _ => by decide, fun _ => by decide⟩, fun _ => by decide, fun _ => by decide⟩]
   rw [xaa (by simp only [List.length_map, List.length_take, List.length_cons, List.length_nil, xcI]; simp [maxLen]; omega)]
   show (bif !xac ((mvW (sumV f u 2 c) (sumV f u 3 c) (sumV f u 4 c) (sumV f u 5 c) (l.getD i [])).getD 0 0) ((mvW (sumV f u 2 c) (sumV f u 3 c) (sumV f u 4 c) (sumV f u 5 c) (l.getD i [])).getD 1 0) ((mvW (sumV f u 2 c) (sumV f u 3 c) (sumV f u 4 c) (sumV f u 5 c) (l.getD i [])).getD 2 0) ((mvW (sumV f u 2 c) (sumV f u 3 c) (sumV f u 4 c) (sumV f u 5 c) (l.getD i [])).getD 3 0) then (some (1, []) : Option (Nat × List U)) else some (0, [.i 0, .i ((i + 1 : Nat) : Int), .r ((l.take i).map (mvF f u c) ++ [mvW (sumV f u 2 c) (sumV f u 3 c) (sumV f u 4 c) (sumV f u 5 c) (l.getD i [])])])) = _
   rw [hw, xww, xbr hi, List.map_append]
   rfl)
  (by
   unfold xdp
   simp only [gi_z, gi_1, gr_z, gr_1, gr_2, dnlt, List.take_length])
 refine ⟨key.1, ?_⟩
 rcases key.2 with ⟨i, h1, h2, h3, h4⟩ | ⟨h3, h4⟩
 ·exact .inl ⟨⟨_, xaW h1, by simpa using h2⟩, h4⟩
 ·refine .inr ⟨?_, h4⟩
  rintro ⟨b, hb, hn⟩
  obtain ⟨j, hj, rfl⟩ := xe1 hb
  have := h3 j hj
  rw [decide_eq_false hn] at this
  cases this
theorem xDq (f u : Int) (l c : List (List Int)) (hc : c.length ≤ 9223372036854775807) : xgf f u l c ∧ xhF f u l c = xig f u l c ∧ xfy f u l c = xiv f u l c := by
 obtain ⟨sp, s4, s0, s1, s2, s3⟩ := xAv f u c hc
 have hv := xhJ l
 unfold xgf xhF xfy
 rw [hv.2, s4]
 by_cases hl : VL l
 ·have E : xig f u l c = if sumE f u c ≠ 0 then sumE f u c else if ∃ b ∈ l, ¬ VB (mvF f u c b) then 3 else 0 := if_neg (fun h => h hl)
  obtain ⟨k1, k2⟩ := xA4 f u l c hl hc
  rw [decide_eq_true hl]
  simp only [Bool.not_true, cond_false]
  by_cases hs : sumE f u c = 0
  ·rw [hs] at E
   rw [if_neg (by simp)] at E
   rw [hs]
   simp only [bne_self_eq_false, cond_false]
   rcases k2 with ⟨g1, g2⟩ | ⟨g1, g2⟩
   ·rw [if_pos g1] at E
    rw [g2]
    refine ⟨⟨hv.1, fun _ => ⟨sp, fun _ => k1⟩⟩, E.symm, ?_⟩
    unfold xiv
    rw [E, if_neg (by decide)]
    rfl
   ·rw [if_neg g1] at E
    rw [g2]
    refine ⟨⟨hv.1, fun _ => ⟨sp, fun _ => k1⟩⟩, E.symm, ?_⟩
    unfold xiv
    rw [if_pos E]
    rfl
  ·have hb : (sumE f u c != 0) = true := by simpa using hs
   rw [if_pos hs] at E
   rw [hb]
   refine ⟨⟨hv.1, fun _ => ⟨sp, fun h => by cases h⟩⟩, E.symm, ?_⟩
   unfold xiv
   rw [E, if_neg hs]
   rfl
 ·have E : xig f u l c = 1 := if_pos hl
  rw [decide_eq_false hl]
  refine ⟨⟨hv.1, fun h => by cases h⟩, E.symm, ?_⟩
  unfold xiv
  rw [E, if_neg (by decide)]
  rfl
def allE (f u x y z w : Int) (c : List (List Int)) : Int := if ¬ VP x y ∨ ¬ VP z w then 1 else sumE f u c
def allB (f u x y z w : Int) (c : List (List Int)) : Prop := allE f u x y z w c = 0 ∧ sumL f u 2 c ≤ 100 * (z - x) ∧ 100 * (z - x) ≤ sumL f u 3 c ∧ sumL f u 4 c ≤ 100 * (w - y) ∧ 100 * (w - y) ≤ sumL f u 5 c
instance (f u x y z w : Int) (c : List (List Int)) : Decidable (allB f u x y z w c) := by unfold allB; infer_instance
theorem xBR (f u x y z w : Int) (c : List (List Int)) (hc : c.length ≤ 9223372036854775807) : xdF f u x y z w c ∧ xhj f u x y z w c = allE f u x y z w c ∧ xe3 f u x y z w c = decide (allB f u x y z w c) := by
 obtain ⟨sp, s4, s0, s1, s2, s3⟩ := xAv f u c hc
 unfold xdF xhj xe3 allB allE
 rw [xrY, xrY, s4, s0, s1, s2, s3]
 by_cases h1 : VP x y
 ·by_cases h2 : VP z w
  ·rw [decide_eq_true h1, decide_eq_true h2]
   simp only [Bool.not_true, Bool.or_self, cond_false, h1, h2, not_true, or_self, if_false]
   refine ⟨fun _ => sp, ?_⟩
   by_cases hs : sumE f u c = 0
   ·unfold sumV
    rw [hs]
    simp only [bne_self_eq_false, cond_false, if_true, true_and]
    unfold VP at h1 h2
    rw [xav (x := z - x) (by omega), xav (x := w - y) (by omega), xav (x := 100 * (z - x)) (by omega), xav (x := 100 * (w - y)) (by omega)]
    rw [Bool.eq_iff_iff]
    simp [and_assoc]
   ·have : (sumE f u c != 0) = true := by simpa using hs
    rw [this]
    simp [hs]
  ·rw [decide_eq_true h1, decide_eq_false h2]
   simp [h1, h2]
 ·rw [decide_eq_false h1]
  simp [h1]
def HB (x y : Int) (b : List Int) : Prop := b.getD 0 0 ≤ x ∧ x ≤ b.getD 1 0 ∧ b.getD 2 0 ≤ y ∧ y ≤ b.getD 3 0
instance (x y : Int) (b : List Int) : Decidable (HB x y b) := by unfold HB; infer_instance
theorem xCr {x y : Int} {b : List Int} (hp : VP x y) (hb : VB b) : xiI x y (b.getD 0 0) (b.getD 1 0) (b.getD 2 0) (b.getD 3 0) = decide (HB x y b) := by
 have hp' : xac x x y y = true := by
  have := xrY x y
  unfold xbH at this
  rw [this, decide_eq_true hp]
 unfold xiI xau xcZ xcY xd4 xd3
 rw [hp', xww, decide_eq_true hb]
 unfold VB VP HB at *
 rw [xeq, xeq, xeq, xeq]
 rw [decide_eq_true (show -1000000000000 ≤ x ∧ _ by omega), decide_eq_true (show -1000000000000 ≤ y ∧ _ by omega), decide_eq_true (show -1000000000000 ≤ b.getD 0 0 ∧ _ by omega), decide_eq_true (show -1000000000000 ≤ b.getD 2 0 ∧ _ by omega)]
 simp only [Bool.not_true, Bool.or_self, cond_false, xtb, xta]
 rw [Bool.eq_iff_iff]
 simp
 omega
def inE (x y : Int) (l : List (List Int)) : Int := if ¬ VL l ∨ ¬ VP x y then 1 else 0
def inB (x y : Int) (l : List (List Int)) : Prop := inE x y l = 0 ∧ ∃ b ∈ l, HB x y b
instance (x y : Int) (l : List (List Int)) : Decidable (inB x y l) := by unfold inB; infer_instance
theorem xEh (x y : Int) (l : List (List Int)) : xgP x y l ∧ xd2 x y l = inE x y l ∧ xlq x y l = decide (inB x y l) := by
 have hv := xhJ l
 unfold xgP xd2 xlq inB inE
 rw [hv.2, xrY]
 by_cases h1 : VL l
 ·by_cases h2 : VP x y
  ·have key := xa6 (step := xfV x y l) l.length (fun i => decide (HB x y (l.getD i []))) (fun i => [.i 0, .i i]) (fun i => [.i i]) 0 2 [.i 0, .i l.length]
    (fun i hi => by
     have := h1.2.1
     unfold xfV
     simp only [gi_1, gi_z, gb_z, dlt hi, xaa (xa1 hi), Int.toNat_natCast, xaA (show i < 4611686018427387904 by omega), xCr h2 (h1.2.2 _ (xaW hi))]
     try rfl)
    (by
     unfold xfV
     simp only [gi_1, gi_z, gb_z, dnlt]
     try rfl)
   rw [decide_eq_true h1, decide_eq_true h2]
   simp only [Bool.not_true, Bool.or_self, cond_false, h1, h2, not_true, or_self, if_false, true_and]
   refine ⟨⟨hv.1, fun _ => key.1⟩, ?_⟩
   rcases key.2 with ⟨i, g1, g2, g3, g4⟩ | ⟨g3, g4⟩
   ·have e : xlQ x y l = (1, [.i i]) := g4
    rw [e, decide_eq_true (show ∃ b ∈ l, HB x y b from ⟨_, xaW g1, by simpa using g2⟩)]
    simp [Nat.beq, gi_z]
   ·have e : xlQ x y l = (3, [.i 0, .i l.length]) := g4
    rw [e, decide_eq_false (show ¬ ∃ b ∈ l, HB x y b from by
     rintro ⟨b, hb, hn⟩
     obtain ⟨j, hj, rfl⟩ := xe1 hb
     have := g3 j hj
     rw [decide_eq_true hn] at this
     cases this)]
    simp [Nat.beq]
  ·rw [decide_eq_true h1, decide_eq_false h2]
   simp [h1, h2, hv.1]
 ·rw [decide_eq_false h1]
  simp [h1, hv.1]
def mtB (a b : List Int) : List Int := [max (a.getD 0 0) (b.getD 0 0), min (a.getD 1 0) (b.getD 1 0), max (a.getD 2 0) (b.getD 2 0), min (a.getD 3 0) (b.getD 3 0)]
def MB (a b : List Int) : Prop := max (a.getD 0 0) (b.getD 0 0) ≤ min (a.getD 1 0) (b.getD 1 0) ∧ max (a.getD 2 0) (b.getD 2 0) ≤ min (a.getD 3 0) (b.getD 3 0)
instance (a b : List Int) : Decidable (MB a b) := by unfold MB; infer_instance
theorem xgs (a b : Int) : imax a b = max a b := by rw [xtb]; split <;> omega
theorem xhn (a b : Int) : imin a b = min a b := by rw [xta]; split <;> omega
theorem xBc {s t x y : Int} (h1 : -1000000000000 ≤ s ∧ s ≤ t ∧ t ≤ 1000000000000) (h2 : -1000000000000 ≤ x ∧ x ≤ y ∧ y ≤ 1000000000000) :
  xa5 s t x y = (if max s x ≤ min t y then 0 else 4) ∧ (max s x ≤ min t y → xdD s t x y = max s x ∧ xdC s t x y = min t y) := by
 unfold xa5 xdD xdC
 rw [xeq, xeq, decide_eq_true h1, decide_eq_true h2, xgs, xhn]
 by_cases h : max s x ≤ min t y
 ·rw [decide_eq_false (by omega)]; simp [h]
 ·rw [decide_eq_true (show min t y < max s x by omega)]; simp [h]
theorem xzW {a b : List Int} (ha : VB a) (hb : VB b) :
  xfX (a.getD 0 0) (a.getD 1 0) (a.getD 2 0) (a.getD 3 0) (b.getD 0 0) (b.getD 1 0) (b.getD 2 0) (b.getD 3 0) = (if MB a b then 0 else 4) ∧
  (MB a b → [xeP (a.getD 0 0) (a.getD 1 0) (a.getD 2 0) (a.getD 3 0) (b.getD 0 0) (b.getD 1 0) (b.getD 2 0) (b.getD 3 0), xf0 (a.getD 0 0) (a.getD 1 0) (a.getD 2 0) (a.getD 3 0) (b.getD 0 0) (b.getD 1 0) (b.getD 2 0) (b.getD 3 0),
   xfZ (a.getD 0 0) (a.getD 1 0) (a.getD 2 0) (a.getD 3 0) (b.getD 0 0) (b.getD 1 0) (b.getD 2 0) (b.getD 3 0), xfY (a.getD 0 0) (a.getD 1 0) (a.getD 2 0) (a.getD 3 0) (b.getD 0 0) (b.getD 1 0) (b.getD 2 0) (b.getD 3 0)] = mtB a b) := by
 unfold xfX xfY xfZ xf0 xeP
 rw [xww, xww, decide_eq_true ha, decide_eq_true hb]
 unfold VB at ha hb
 obtain ⟨x1, x2⟩ := xBc (s := a.getD 0 0) (t := a.getD 1 0) (x := b.getD 0 0) (y := b.getD 1 0) (by omega) (by omega)
 obtain ⟨y1, y2⟩ := xBc (s := a.getD 2 0) (t := a.getD 3 0) (x := b.getD 2 0) (y := b.getD 3 0) (by omega) (by omega)
 rw [x1, y1, xgs]
 simp only [Bool.not_true, Bool.or_self, cond_false]
 by_cases h1 : max (a.getD 0 0) (b.getD 0 0) ≤ min (a.getD 1 0) (b.getD 1 0)
 ·obtain ⟨x3, x4⟩ := x2 h1
  by_cases h2 : max (a.getD 2 0) (b.getD 2 0) ≤ min (a.getD 3 0) (b.getD 3 0)
  ·obtain ⟨y3, y4⟩ := y2 h2
   rw [if_pos h1, if_pos h2, if_pos (show MB a b from ⟨h1, h2⟩)]
   refine ⟨rfl, fun _ => ?_⟩
   rw [x3, x4, y3, y4]
   rfl
  ·rw [if_pos h1, if_neg h2, if_neg (show ¬ MB a b from fun h => h2 h.2)]
   exact ⟨rfl, fun h => absurd h.2 h2⟩
 ·rw [if_neg h1, if_neg (show ¬ MB a b from fun h => h1 h.1)]
  refine ⟨?_, fun h => absurd h.1 h1⟩
  by_cases h2 : max (a.getD 2 0) (b.getD 2 0) ≤ min (a.getD 3 0) (b.getD 3 0)
  ·rw [if_pos h2]; rfl
  ·rw [if_neg h2]; rfl
def cutP (b : List Int) (l : List (List Int)) : List (List Int) := l.filterMap fun c => if MB c b then some (mtB c b) else none
def cutE (b : List Int) (l : List (List Int)) : Int := if ¬ VL l ∨ ¬ VB b then 1 else if cutP b l = [] then 4 else 0
def cutL (b : List Int) (l : List (List Int)) : List (List Int) := if cutE b l = 0 then cutP b l else []
theorem xwo (b : List Int) (l : List (List Int)) : (cutP b l).length ≤ l.length := List.length_filterMap_le _ _
theorem xEq (a0 a1 a2 a3 : Int) (l : List (List Int)) : xg4 a0 a1 a2 a3 l ∧ xj0 a0 a1 a2 a3 l = cutE [a0, a1, a2, a3] l ∧ xj1 a0 a1 a2 a3 l = cutL [a0, a1, a2, a3] l := by
 have hv := xhJ l
 have hb : xac a0 a1 a2 a3 = decide (VB [a0, a1, a2, a3]) := xww [a0, a1, a2, a3]
 unfold xg4 xj0 xj1 cutL cutE
 rw [hv.2, hb]
 by_cases h1 : VL l
 ·by_cases h2 : VB [a0, a1, a2, a3]
  ·have hlen := h1.2.1
   have key := xgN (σ := Unit) (step := xft a0 a1 a2 a3 l) l.length (fun i _ => [.i i, .r (cutP [a0, a1, a2, a3] (l.take i))]) (fun _ s => s) (fun _ _ => True) 2 (fun _ => [.i l.length, .r (cutP [a0, a1, a2, a3] l)])
    (fun _ _ _ _ => trivial)
    (fun i s hi _ => by
     have hc := h1.2.2 _ (xaW hi)
     obtain ⟨m1, m2⟩ := xzW hc h2
     unfold xft
     simp only [gi_z, gi_1, gr_z, gr_1, dlt hi, xaa (xa1 hi), Int.toNat_natCast, xaA (show i < 4611686018427387904 by omega)]
     have e : cutP [a0, a1, a2, a3] (l.take (i + 1)) = cutP [a0, a1, a2, a3] (l.take i) ++ (if MB (l.getD i []) [a0, a1, a2, a3] then [mtB (l.getD i []) [a0, a1, a2, a3]] else []) := by
      unfold cutP
      rw [xbr hi, List.filterMap_append]
      by_cases hm : MB (l.getD i []) [a0, a1, a2, a3]
      ·simp only [List.filterMap, if_pos hm]
      ·simp only [List.filterMap, if_neg hm]
     have hle := xwo [a0, a1, a2, a3] (l.take i)
     rw [List.length_take] at hle
     rw [e]
     have m1 : xfX ((l.getD i []).getD 0 0) ((l.getD i []).getD 1 0) ((l.getD i []).getD 2 0) ((l.getD i []).getD 3 0) a0 a1 a2 a3 = _ := m1
     rw [m1]
     by_cases hm : MB (l.getD i []) [a0, a1, a2, a3]
     ·have m2 := m2 hm
      simp only [if_pos hm, beq_self_eq_true, cond_true]
      have m2 : [xeP ((l.getD i []).getD 0 0) ((l.getD i []).getD 1 0) ((l.getD i []).getD 2 0) ((l.getD i []).getD 3 0) a0 a1 a2 a3, _, _, _] = _ := m2
      rw [xaa (by simp only [List.length_cons, List.length_nil, xcI]; simp [maxLen]; omega)]
      rw [← m2]
      rfl
     ·simp only [if_neg hm, List.append_nil]
      rfl)
    (fun s _ => by
     unfold xft
     simp only [gi_z, gi_1, gr_z, gr_1, dnlt, List.take_length]) (s := ()) trivial
   rw [decide_eq_true h1, decide_eq_true h2]
   have e : xkz a0 a1 a2 a3 l = _ := key.2.1
   rw [e]
   simp only [Bool.not_true, Bool.or_self, cond_false, h1, h2, not_true, or_self, if_false, gr_z, gr_1]
   refine ⟨⟨hv.1, fun _ => key.1⟩, ?_⟩
   cases hcp : cutP [a0, a1, a2, a3] l with
   | nil => simp
   | cons x r =>
    have : (((x :: r).length : Int) == (0 : Int)) = false := by simp; omega
    rw [this]
    simp
  ·rw [decide_eq_true h1, decide_eq_false h2]
   simp [h1, h2, hv.1]
 ·rw [decide_eq_false h1]
  simp [h1, hv.1]
def WB (a b : List Int) : Prop := b.getD 0 0 ≤ a.getD 0 0 ∧ a.getD 1 0 ≤ b.getD 1 0 ∧ b.getD 2 0 ≤ a.getD 2 0 ∧ a.getD 3 0 ≤ b.getD 3 0
instance (a b : List Int) : Decidable (WB a b) := by unfold WB; infer_instance
def xAF (a b : List Int) : Bool := (a.getD 0 (0 : Int) == b.getD 0 (0 : Int) && (a.getD 1 (0 : Int) == b.getD 1 (0 : Int) && true) && (a.getD 2 (0 : Int) == b.getD 2 (0 : Int) && (a.getD 3 (0 : Int) == b.getD 3 (0 : Int) && true) && true))
theorem xyW {a b : List Int} (ha : a.length = 4) (hb : b.length = 4) : xAF a b = decide (a = b) := by
 match a, ha, b, hb with
 | [_, _, _, _], _, [_, _, _, _], _ =>
  rw [Bool.eq_iff_iff]
  simp [xAF, and_assoc]
theorem xxY (a b : List (List Int)) (ha : a.length < 4611686018427387904) :
  xby a b ∧ (xaS a b = true ↔ a.length = b.length ∧ ∀ i, i < a.length → xAF (a.getD i []) (b.getD i []) = true) := by
 unfold xby xaS
 by_cases hl : a.length = b.length
 ·have hl' : ((a.length : Int) != (b.length : Int)) = false := by simp [hl]
  have key := xa6 (step := xez a b) a.length (fun i => !xAF (a.getD i []) (b.getD i [])) (fun i => [.b false, .i i]) (fun _ => []) 0 2 [.b false, .i a.length]
   (fun i hi => by
    unfold xez
    simp only [gi_1, gi_z, gb_z, dlt hi, xaa (xa1 hi), xaa (xa1 (hl ▸ hi : i < b.length)), Int.toNat_natCast, xaA (show i < 4611686018427387904 by omega)]
    try rfl)
   (by
    unfold xez
    simp only [gi_1, gi_z, gb_z, dnlt]
    try rfl)
  rw [hl']
  refine ⟨fun _ => key.1, ?_⟩
  rcases key.2 with ⟨i, h1, h2, h3, h4⟩ | ⟨h3, h4⟩
  ·have e : xlH a b = (1, []) := h4
   rw [e]
   simp only [cond_false, Nat.beq]
   constructor
   ·intro h; cases h
   ·rintro ⟨_, h⟩
    have := h i h1
    rw [this] at h2
    cases h2
  ·have e : xlH a b = (3, [.b false, .i a.length]) := h4
   rw [e]
   simp only [cond_false, Nat.beq]
   refine ⟨fun _ => ⟨hl, fun i hi => ?_⟩, fun _ => by trivial⟩
   have := h3 i hi
   simpa using this
 ·have hl' : ((a.length : Int) != (b.length : Int)) = true := by simp; omega
  rw [hl']
  refine ⟨fun h => (Bool.noConfusion h), ?_⟩
  simp only [cond_true]
  constructor
  ·intro h; cases h
  ·exact fun h => absurd h.1 hl
theorem xC9 {a b : List (List Int)} (ha : a.length < 4611686018427387904) (h1 : ∀ e ∈ a, e.length = 4) (h2 : ∀ e ∈ b, e.length = 4) : xaS a b = decide (a = b) := by
 rw [Bool.eq_iff_iff, (xxY a b ha).2, decide_eq_true_eq]
 constructor
 ·rintro ⟨hl, h⟩
  refine xqB hl fun i hi => ?_
  have e := h i hi
  rw [xyW (h1 _ (xaW hi)) (h2 _ (xaW (hl ▸ hi : i < b.length)))] at e
  simpa using e
 ·rintro rfl
  refine ⟨rfl, fun i hi => ?_⟩
  rw [xyW (h1 _ (xaW hi)) (h1 _ (xaW hi))]
  simp
end Go.Proofs.YtnijhjpaplihbaaGreat
set_option linter.unusedVariables false
set_option maxRecDepth 100000
namespace Go.Proofs.YtnijhjpaplihbaaGreat
open Go Go.Sy
theorem xBH {f u : Int} : ∀ (e : Int) (l : List (List Int)), CL e l → covL f u l ≤ max 0 (u - max e f)
 | e, [], _ => by simp [covL]; omega
 | e, c :: l, h => by
  have ih := xBH (f := f) (u := u) (c.getD 1 0) l h.2
  have hc := h.1
  have e1 : covL f u (c :: l) = mins f u c + covL f u l := by simp [covL]
  rw [e1]
  unfold CO at hc
  unfold mins
  omega
theorem xDK {f u : Int} {l : List (List Int)} (hv : VC l) (ht : VT f u) : covL f u l ≤ u - f := by
 have := xBH (f := f) (u := u) 0 l hv.1
 unfold VT at ht
 omega
theorem xzF (f u : Int) (l : List (List Int)) : (sumE f u l = 1 ∧ (¬ VC l ∨ ¬ VT f u)) ∨ (sumE f u l = 4 ∧ VC l ∧ VT f u ∧ covL f u l < u - f) ∨ (sumE f u l = 0 ∧ VC l ∧ VT f u ∧ covL f u l = u - f) := by
 unfold sumE
 by_cases h : ¬ VC l ∨ ¬ VT f u
 ·rw [if_pos h]; exact .inl ⟨rfl, h⟩
 ·have hv : VC l := Decidable.byContradiction fun hn => h (.inl hn)
  have ht : VT f u := Decidable.byContradiction fun hn => h (.inr hn)
  rw [if_neg h]
  have := xDK hv ht
  by_cases hc : u - f - covL f u l > 0
  ·rw [if_pos hc]; exact .inr (.inl ⟨rfl, hv, ht, by omega⟩)
  ·rw [if_neg hc]; exact .inr (.inr ⟨rfl, hv, ht, by omega⟩)
theorem xvk {f u : Int} {l : List (List Int)} (h : sumE f u l = 0) (k : Nat) : sumV f u k l = sumL f u k l := by unfold sumV; rw [if_pos h]
theorem xsZ (f u : Int) (l c : List (List Int)) : (xig f u l c = 1 ∧ (¬ VL l ∨ ¬ VC c ∨ ¬ VT f u)) ∨ (xig f u l c = 4 ∧ VL l ∧ sumE f u c = 4) ∨ (xig f u l c = 3 ∧ VL l ∧ sumE f u c = 0 ∧ ∃ b ∈ l, ¬ VB (mvF f u c b)) ∨ (xig f u l c = 0 ∧ VL l ∧ sumE f u c = 0 ∧ ∀ b ∈ l, VB (mvF f u c b)) := by
 unfold xig
 by_cases hl : VL l
 ·rcases xzF f u c with ⟨h, h2⟩ | ⟨h, _⟩ | ⟨h, _⟩
  ·left; simp [hl, h, h2]
  ·right; left; simp [hl, h]
  ·right; right
   by_cases hb : ∃ b ∈ l, ¬ VB (mvF f u c b)
   ·left; rw [if_neg (fun k => k hl), if_neg (fun k => k h), if_pos hb]; exact ⟨rfl, hl, h, hb⟩
   ·right; rw [if_neg (fun k => k hl), if_neg (fun k => k h), if_neg hb]; exact ⟨rfl, hl, h, fun b hb' => Decidable.byContradiction fun hn => hb ⟨b, hb', hn⟩⟩
 ·left; simp [hl]
theorem xCm {f u : Int} {l c : List (List Int)} (h : xig f u l c = 0) : VL l ∧ sumE f u c = 0 ∧ (∀ b ∈ l, VB (mvF f u c b)) ∧ xiv f u l c = l.map (mvF f u c) := by
 have e : xiv f u l c = l.map (mvF f u c) := by unfold xiv; rw [if_pos h]
 rcases xsZ f u l c with ⟨g, _⟩ | ⟨g, _⟩ | ⟨g, _⟩ | ⟨_, h1, h2, h3⟩
 ·rw [h] at g; cases g
 ·rw [h] at g; cases g
 ·rw [h] at g; cases g
 ·exact ⟨h1, h2, h3, e⟩
theorem xCn {f u : Int} {l c : List (List Int)} (h1 : VL l) (h2 : sumE f u c = 0) (h3 : ∀ b ∈ l, VB (mvF f u c b)) : xig f u l c = 0 := by
 rcases xsZ f u l c with ⟨g, h | h | h⟩ | ⟨g, _, h⟩ | ⟨g, _, _, b, hb, hn⟩ | ⟨g, _⟩
 ·exact absurd h1 h
 ·exact absurd (xxW h2).1 h
 ·exact absurd (xxW h2).2.1 h
 ·rw [h2] at h; cases h
 ·exact absurd (h3 b hb) hn
 ·exact g
theorem xBS {l : List (List Int)} {g : List Int → List Int} (h : VL l) (hg : ∀ b ∈ l, VB (g b)) : VL (l.map g) := by
 refine ⟨by simpa using h.1, by simpa using h.2.1, fun b hb => ?_⟩
 obtain ⟨a, ha, rfl⟩ := List.mem_map.1 hb
 exact hg a ha
theorem xu5 (b : List Int) (l : List (List Int)) : (cutE b l = 1 ∧ (¬ VL l ∨ ¬ VB b)) ∨ (cutE b l = 4 ∧ VL l ∧ VB b ∧ cutP b l = []) ∨ (cutE b l = 0 ∧ VL l ∧ VB b ∧ cutP b l ≠ [] ∧ cutL b l = cutP b l) := by
 unfold cutL cutE
 by_cases h : ¬ VL l ∨ ¬ VB b
 ·rw [if_pos h]; exact .inl ⟨rfl, h⟩
 ·have h1 : VL l := Decidable.byContradiction fun hn => h (.inl hn)
  have h2 : VB b := Decidable.byContradiction fun hn => h (.inr hn)
  rw [if_neg h]
  by_cases hc : cutP b l = []
  ·rw [if_pos hc]; exact .inr (.inl ⟨rfl, h1, h2, hc⟩)
  ·rw [if_neg hc]; exact .inr (.inr ⟨rfl, h1, h2, hc, if_pos rfl⟩)
theorem xCo {b x : List Int} {l : List (List Int)} : x ∈ cutP b l ↔ ∃ c ∈ l, MB c b ∧ x = mtB c b := by
 unfold cutP
 rw [List.mem_filterMap]
 constructor
 ·rintro ⟨c, hc, h⟩
  split at h
  ·rename_i hm; cases h; exact ⟨c, hc, hm, rfl⟩
  ·cases h
 ·rintro ⟨c, hc, hm, rfl⟩
  exact ⟨c, hc, if_pos hm⟩
theorem xDp (a b : List Int) : (mtB a b).getD 0 0 = max (a.getD 0 0) (b.getD 0 0) ∧ (mtB a b).getD 1 0 = min (a.getD 1 0) (b.getD 1 0) ∧ (mtB a b).getD 2 0 = max (a.getD 2 0) (b.getD 2 0) ∧ (mtB a b).getD 3 0 = min (a.getD 3 0) (b.getD 3 0) := ⟨rfl, rfl, rfl, rfl⟩
theorem xF8 {a b : List Int} (h1 : VB a) (h2 : VB b) (h : MB a b) : VB (mtB a b) := by
 have := xDp a b
 unfold VB MB at *; omega
theorem xCJ {b : List Int} {l : List (List Int)} (h1 : VL l) (h2 : VB b) (h3 : cutP b l ≠ []) : VL (cutP b l) := by
 refine ⟨List.length_pos_iff.2 h3, Nat.le_trans (xwo b l) h1.2.1, fun x hx => ?_⟩
 obtain ⟨a, ha, hm, rfl⟩ := xCo.1 hx
 exact xF8 (h1.2.2 a ha) h2 hm
end Go.Proofs.YtnijhjpaplihbaaGreat
set_option linter.unusedVariables false
set_option linter.unusedSimpArgs false
set_option linter.unusedSectionVars false
namespace Go.Proofs.YtnijhjpaplihbaaGreat.Si
open Go Go.Sy
def cr (a b c d : Int) : Int := a * d - b * c
def Core (fx fy tx ty xl xh yl yh : Int) : Prop :=
 (xl ≤ 0 ∨ fx > 0 ∨ tx > 0) ∧ (xh ≥ 0 ∨ fx < 0 ∨ tx < 0) ∧ (yl ≤ 0 ∨ fy > 0 ∨ ty > 0) ∧ (yh ≥ 0 ∨ fy < 0 ∨ ty < 0) ∧
 (cr fx fy xl yl ≥ 0 ∨ cr fx fy xl yh ≥ 0 ∨ cr fx fy xh yl ≥ 0 ∨ cr fx fy xh yh ≥ 0) ∧
 (cr xl yl tx ty ≥ 0 ∨ cr xl yh tx ty ≥ 0 ∨ cr xh yl tx ty ≥ 0 ∨ cr xh yh tx ty ≥ 0)
instance (fx fy tx ty xl xh yl yh : Int) : Decidable (Core fx fy tx ty xl xh yl yh) := by unfold Core; infer_instance
theorem xyp (a b : List (List Int)) (ha : a.length < 4611686018427387904) :
  xb7 a b ∧ (xbe a b = true ↔ a.length = b.length ∧ ∀ i, i < a.length → (a.getD i []).getD 0 0 = (b.getD i []).getD 0 0) := by
 unfold xb7 xbe
 by_cases hl : a.length = b.length
 ·have hl' : ((a.length : Int) != (b.length : Int)) = false := by simp [hl]
  have key := xa6 (step := xew a b) a.length (fun i => (a.getD i []).getD 0 (0 : Int) != (b.getD i []).getD 0 (0 : Int)) (fun i => [.b false, .i i]) (fun _ => []) 0 2 [.b false, .i a.length]
   (fun i hi => by
    unfold xew
    simp only [gi_1, gi_z, gb_z, dlt hi, xaa (xa1 hi), xaa (xa1 (hl ▸ hi : i < b.length)), Int.toNat_natCast, xaA (show i < 4611686018427387904 by omega)]
    try rfl)
   (by
    unfold xew
    simp only [gi_1, gi_z, gb_z, dnlt]
    try rfl)
  rw [hl']
  refine ⟨fun _ => key.1, ?_⟩
  rcases key.2 with ⟨i, h1, h2, h3, h4⟩ | ⟨h3, h4⟩
  ·have e : xlG a b = (1, []) := h4
   rw [e]
   simp only [cond_false, Nat.beq]
   constructor
   ·intro h; cases h
   ·rintro ⟨_, h⟩
    have := h i h1
    rw [bne_iff_ne] at h2
    exact absurd this h2
  ·have e : xlG a b = (3, [.b false, .i a.length]) := h4
   rw [e]
   simp only [cond_false, Nat.beq]
   refine ⟨fun _ => ⟨hl, fun i hi => ?_⟩, fun _ => by trivial⟩
   have := h3 i hi
   simpa using this
 ·have hl' : ((a.length : Int) != (b.length : Int)) = true := by simp; omega
  rw [hl']
  refine ⟨fun h => (Bool.noConfusion h), ?_⟩
  simp only [cond_true]
  constructor
  ·intro h; cases h
  ·exact fun h => absurd h.1 hl
theorem el13 {el : List Int} (h : el.length = 13) : [el.getD 0 0, el.getD 1 0, el.getD 2 0, el.getD 3 0, el.getD 4 0, el.getD 5 0, el.getD 6 0, el.getD 7 0, el.getD 8 0, el.getD 9 0, el.getD 10 0, el.getD 11 0, el.getD 12 0] = el := by
 match el, h with
 | [_, _, _, _, _, _, _, _, _, _, _, _, _], _ => rfl
def xwO (a b : List Int) : Bool :=
 (a.getD 0 (0 : Int) == b.getD 0 (0 : Int) &&
  (a.getD 1 (0 : Int) == b.getD 1 (0 : Int) &&
   (a.getD 2 (0 : Int) == b.getD 2 (0 : Int) &&
    (a.getD 3 (0 : Int) == b.getD 3 (0 : Int) &&
     (a.getD 4 (0 : Int) == b.getD 4 (0 : Int) &&
        (a.getD 5 (0 : Int) == b.getD 5 (0 : Int) && true) &&
       (a.getD 6 (0 : Int) == b.getD 6 (0 : Int) &&
         (a.getD 7 (0 : Int) == b.getD 7 (0 : Int) && true) &&
        true) &&
      (a.getD 8 (0 : Int) == b.getD 8 (0 : Int) &&
        (a.getD 9 (0 : Int) == b.getD 9 (0 : Int) && true) &&
       (a.getD 10 (0 : Int) == b.getD 10 (0 : Int) &&
         (a.getD 11 (0 : Int) == b.getD 11 (0 : Int) && true) &&
        (a.getD 12 (0 : Int) == b.getD 12 (0 : Int) && true))))))))
theorem xqB {a b : List (List Int)} (hl : a.length = b.length) (h : ∀ i, i < a.length → a.getD i [] = b.getD i []) : a = b := by
 apply List.ext_getElem hl
 intro i h1 h2
 have := h i h1
 rwa [List.getD_eq_getElem?_getD, List.getD_eq_getElem?_getD, List.getElem?_eq_getElem h1, List.getElem?_eq_getElem h2] at this
theorem xaW {l : List (List Int)} {i : Nat} (h : i < l.length) : l.getD i [] ∈ l := by
 rw [List.getD_eq_getElem?_getD, List.getElem?_eq_getElem h]
 exact List.getElem_mem h
theorem xDy {a b : List (List Int)} (ha : a.length < 4611686018427387904) (h1 : ∀ e ∈ a, e.length = 1) (h2 : ∀ e ∈ b, e.length = 1) : xbe a b = decide (a = b) := by
 rw [Bool.eq_iff_iff, (xyp a b ha).2, decide_eq_true_eq]
 constructor
 ·rintro ⟨hl, h⟩
  refine xqB hl fun i hi => ?_
  have e1 := h1 _ (xaW hi)
  have e2 := h2 _ (xaW (hl ▸ hi : i < b.length))
  have e := h i hi
  match a.getD i [], b.getD i [], e1, e2, e with
  | [x], [y], _, _, e => simpa using e
 ·rintro rfl; exact ⟨rfl, fun _ _ => rfl⟩
def xcQ (r o : List Int) : Bool := o.getD 0 (0 : Int) == r.getD 0 (0 : Int) && o.getD 1 (0 : Int) == r.getD 1 (0 : Int)
noncomputable def sval (e : List Int) : Bool := xa8 (e.getD 0 0) (e.getD 1 0) (e.getD 2 0) (e.getD 3 0) (e.getD 4 0) (e.getD 5 0) (e.getD 6 0) (e.getD 7 0) (e.getD 8 0) (e.getD 9 0) (e.getD 10 0) (e.getD 11 0) (e.getD 12 0)
theorem xhJ (l : List (List Int)) : xdm l ∧ xaq l = (decide (l.length ≤ 60) && l.all sval) := by
 unfold xdm xaq
 by_cases hl : l.length ≤ 60
 ·have hl' : decide ((l.length : Int) ≤ 60) = true := by simp; omega
  have key := xa6 (step := xcT l) l.length (fun i => !sval (l.getD i [])) (fun i => [.i 0, .i i]) (fun i => [.i i]) 0 2 [.i 0, .i l.length]
   (fun i hi => by
    unfold xcT
    simp only [gi_1, gi_z, gb_z, dlt hi, xaa (xa1 hi), Int.toNat_natCast, xaA (show i < 4611686018427387904 by omega)]
    try rfl)
   (by
    unfold xcT
    simp only [gi_1, gi_z, gb_z, dnlt]
    try rfl)
  rw [hl']
  refine ⟨fun _ => key.1, ?_⟩
  have gd : ∀ j (h : j < l.length), l[j] = l.getD j [] := fun j h => by rw [List.getD_eq_getElem?_getD, List.getElem?_eq_getElem h]; rfl
  rcases key.2 with ⟨i, h1, h2, h3, h4⟩ | ⟨h3, h4⟩
  ·have e : xgQ l = (1, [.i i]) := h4
   rw [e]
   have : l.all sval = false := by
    rw [List.all_eq_false]
    refine ⟨_, xaW h1, ?_⟩
    simpa using h2
   rw [this]; simp [Nat.beq, gi_z]
  ·have e : xgQ l = (3, [.i 0, .i l.length]) := h4
   rw [e]
   have : l.all sval = true := by
    rw [List.all_eq_true]
    intro x hx
    obtain ⟨j, hj, rfl⟩ := List.getElem_of_mem hx
    rw [gd j hj]
    simpa using h3 j hj
   rw [this]; simp [Nat.beq, hl]
 ·have hl' : decide ((l.length : Int) ≤ 60) = false := by simp; omega
  rw [hl']
  refine ⟨fun h => (Bool.noConfusion h), ?_⟩
  simp [hl]
def xug (p : List Int → Bool) : Nat → List (List Int) → List (List Int)
 | _, [] => []
 | i, e :: r => bif p e then xug p (i + 1) r else [(i : Int)] :: xug p (i + 1) r
theorem xrj (p : List Int → Bool) : ∀ (a b : List (List Int)) (i : Nat), xug p i (a ++ b) = xug p i a ++ xug p (i + a.length) b
 | [], b, i => by simp [xug]
 | e :: a, b, i => by
  simp only [List.cons_append, xug, List.length_cons]
  rw [xrj p a b (i + 1), show i + 1 + a.length = i + (a.length + 1) by omega]
  cases p e <;> rfl
theorem xbr {l : List (List Int)} {i : Nat} (h : i < l.length) : l.take (i + 1) = l.take i ++ [l.getD i []] := by
 rw [List.take_succ_eq_append_getElem h, List.getD_eq_getElem?_getD, List.getElem?_eq_getElem h]; rfl
theorem xzD (p : List Int → Bool) (l : List (List Int)) : ∀ i, i ≤ l.length → upto (fun i s => bif !p (l.getD i []) then s ++ [[(i : Int)]] else s) i [] = xug p 0 (l.take i)
 | 0, _ => by simp [upto, xug]
 | i + 1, h => by
  rw [upto, xzD p l i (by omega), xbr (by omega), xrj]
  simp only [xug, List.length_take, Nat.zero_add, Nat.min_eq_left (show i ≤ l.length by omega)]
  cases p (l.getD i []) <;> simp
def mrg (i : Nat) (r : List Int) (s : List (List Int) × List (List Int)) : List (List Int) × List (List Int) :=
 match s.1.find? (xcQ r) with
 | none => (s.1 ++ [r], s.2)
 | some o => bif !xwO o r then (s.1, s.2 ++ [[(i : Int)]]) else s
def mrgs : Nat → List (List Int) → List (List Int) × List (List Int) → List (List Int) × List (List Int)
 | _, [], s => s
 | i, r :: l, s => mrgs (i + 1) l (mrg i r s)
theorem xoH : ∀ (a b : List (List Int)) (i : Nat) (s : List (List Int) × List (List Int)), mrgs i (a ++ b) s = mrgs (i + a.length) b (mrgs i a s)
 | [], b, i, s => by simp [mrgs]
 | e :: a, b, i, s => by
  simp only [List.cons_append, mrgs, List.length_cons]
  rw [xoH a b (i + 1), show i + 1 + a.length = i + (a.length + 1) by omega]
theorem xwy (l : List (List Int)) (s : List (List Int) × List (List Int)) : ∀ i, i ≤ l.length → upto (fun i s => mrg i (l.getD i []) s) i s = mrgs 0 (l.take i) s
 | 0, _ => by simp [upto, mrgs]
 | i + 1, h => by
  rw [upto, xwy l s i (by omega), xbr (by omega), xoH]
  simp only [mrgs, List.length_take, Nat.zero_add, Nat.min_eq_left (show i ≤ l.length by omega)]
def MI (i : Nat) (s : List (List Int) × List (List Int)) : Prop := s.1.length ≤ i ∧ s.2.length ≤ i ∧ (∀ e ∈ s.1, e.length = 13) ∧ ∀ e ∈ s.2, e.length = 1
theorem xD9 {i : Nat} {r : List Int} {s : List (List Int) × List (List Int)} (hr : r.length = 13) (h : MI i s) : MI (i + 1) (mrg i r s) := by
 obtain ⟨h1, h2, h3, h4⟩ := h
 unfold mrg
 split
 ·refine ⟨by simp; omega, by show s.2.length ≤ i + 1; omega, fun e he => ?_, h4⟩
  rcases List.mem_append.1 he with he | he
  ·exact h3 e he
  ·rw [List.mem_singleton.1 he]; exact hr
 ·rename_i o _
  cases xwO o r with
  | true => exact ⟨by show s.1.length ≤ i + 1; omega, by show s.2.length ≤ i + 1; omega, h3, h4⟩
  | false =>
   refine ⟨by show s.1.length ≤ i + 1; omega, by simp; omega, h3, fun e he => ?_⟩
   rcases List.mem_append.1 he with he | he
   ·exact h4 e he
   ·rw [List.mem_singleton.1 he]; rfl
def xxj (r : List Int) : List Int := [r.getD 0 0, r.getD 1 0] ++ r
theorem xqH (r : List Int) : ∀ out : List (List Int), xc5 2 [r.getD 0 0, r.getD 1 0] (out.map xxj) = out.find? (xcQ r)
 | [] => rfl
 | o :: out => by
  have ih := xqH r out
  unfold xc5 at ih ⊢
  rw [List.map_cons, List.find?_cons, List.find?_cons]
  have e : decide (List.take 2 (xxj o) = [r.getD 0 0, r.getD 1 0]) = xcQ r o := by
   unfold xcQ xxj
   rw [Bool.eq_iff_iff]
   simp
  rw [e]
  cases xcQ r o with
  | true => rfl
  | false => exact ih
theorem xAT {r : List Int} {out : List (List Int)} (h : out.find? (xcQ r) = none) : xl4 2 [r.getD 0 0, r.getD 1 0] r (out.map xxj) = (out ++ [r]).map xxj := by
 unfold xl4
 rw [xqH, h]
 simp [xxj]
def El13 (l : List (List Int)) : Prop := ∀ e ∈ l, elOk [.int .i64, .int .i64, .int .i64, .int .i64, .int .i64, .int .i64, .int .i64, .int .i64, .int .i64, .int .i64, .int .i64, .int .i64, .int .i64] e
theorem El13.len {l : List (List Int)} (h : El13 l) : ∀ e ∈ l, e.length = 13 := fun e he => xlP (h e he)
theorem xEc {l : List (List Int)} (h : El13 l) {i : Nat} (hi : i < l.length) : xqC IntKind.i64 [(l.getD i []).getD 0 0, (l.getD i []).getD 1 0] := by
 have := h _ (xaW hi)
 match l.getD i [], xlP this, this with
 | [a, b, _, _, _, _, _, _, _, _, _, _, _], _, h =>
  intro n hn
  simp at hn
  rcases hn with rfl | rfl
  ·exact h.1
  ·exact h.2.1
theorem xwG (l : List (List Int)) (h13 : El13 l) (hv : l.length ≤ 60) :
  xay (xb4 l) (xgg l) ∧ gr (xfb l).snd 2 = (mrgs 0 l ([], [])).1 ∧ gr (xfb l).snd 3 = (mrgs 0 l ([], [])).2 := by
 have key := xgN (step := xb4 l) l.length (fun i s => [.i i, .r (s.1.map xxj), .r s.1, .r s.2]) (fun i s => mrg i (l.getD i []) s) MI 3 (fun s => [.i l.length, .r (s.1.map xxj), .r s.1, .r s.2])
  (fun i s hi h => xD9 (h13.len _ (xaW hi)) h)
  (fun i s hi h => by
   unfold xb4
   have hr := el13 (h13.len _ (xaW hi))
   simp only [gi_1, gi_z, gr_1, gr_2, gr_3, gr_z, dlt hi, xaa (xa1 hi), xaa (xEc h13 hi), Int.toNat_natCast, xaA (show i < 4611686018427387904 by omega), hr, xqH]
   unfold mrg
   cases e : s.1.find? (xcQ (l.getD i [])) with
   | none =>
    have hf : xcI 104 (s.1.length + [l.getD i []].length) := by have := h.1; unfold xcI; simp [maxLen] <;> omega
    rw [xaa hf, xAT e]
    rfl
   | some o =>
    have hf : xcI 8 (s.2.length + [[(i : Int)]].length) := by have := h.2.1; unfold xcI; simp [maxLen] <;> omega
    rw [xaa hf]
    show (bif !xwO o (l.getD i []) then _ else _) = _
    dsimp only
    cases xwO o (l.getD i []) <;> rfl)
  (fun s _ => by
   unfold xb4
   simp only [gi_1, gi_z, gr_1, gr_2, gr_3, gr_z, dnlt]) (s := ([], [])) (by simp [MI])
 refine ⟨key.1, ?_⟩
 have e : xfb l = _ := key.2.1
 rw [e]
 simp only [gr_1, gr_2, gr_3, gr_z]
 rw [xwy _ _ _ (Nat.le_refl _), List.take_length]
 exact ⟨rfl, rfl⟩
theorem xzG (l : List (List Int)) (h : El13 l) : xdn l := by
 unfold xdn
 refine ⟨(xhJ l).1, fun hb => (xwG l h ?_).1⟩
 have hv : xaq l = true := by simpa using hb
 rw [(xhJ l).2] at hv
 simp only [Bool.and_eq_true, decide_eq_true_eq] at hv
 exact hv.1
theorem xB1 (l : List (List Int)) (h : El13 l) : xa9 l = (bif !xaq l then [] else (mrgs 0 l ([], [])).1) ∧ xhm l = bif !xaq l then [] else (mrgs 0 l ([], [])).2 := by
 unfold xa9 xhm
 cases hv : xaq l with
 | false => exact ⟨rfl, rfl⟩
 | true =>
  rw [(xhJ l).2] at hv
  simp only [Bool.and_eq_true, decide_eq_true_eq] at hv
  have := xwG l h hv.1
  rw [this.2.1, this.2.2]
  exact ⟨rfl, rfl⟩
def V (a b : Int) : Prop := -1000000000000 ≤ a ∧ a ≤ b ∧ b ≤ 1000000000000
instance (a b : Int) : Decidable (V a b) := by unfold V; infer_instance
def Bx (a b c d : Int) : Prop := -1000000 ≤ a ∧ a ≤ b ∧ b ≤ 1000000 ∧ -1000000 ≤ c ∧ c ≤ d ∧ d ≤ 1000000
instance (a b c d : Int) : Decidable (Bx a b c d) := by unfold Bx; infer_instance
theorem xhn (x y : Int) : imin x y = min x y := by unfold imin; split <;> omega
theorem xgs (x y : Int) : imax x y = max x y := by unfold imax; split <;> omega
theorem xot {x : Int} (h : -9223372036854775808 ≤ x ∧ x ≤ 9223372036854775807) : IntKind.i64.wrap x = x := xav h
theorem xzC {a b : Int} (h : V a b) : xaw a b = true := by
 unfold V at h; unfold xaw; simp; omega
theorem xxR {a b : Int} (h : ¬ V a b) : xaw a b = false := by
 unfold V at h
 cases hb : xaw a b with
 | false => rfl
 | true => unfold xaw at hb; simp at hb; omega
theorem xhK (a b : Int) : xaw a b = decide (V a b) := by
 by_cases h : V a b
 ·rw [xzC h]; simp [h]
 ·rw [xxR h]; simp [h]
theorem xwA (a b c d : Int) :
  (V a b ∧ V c d ∧ V (a - d) (b - c) ∧ xek a b c d = a - d ∧ xej a b c d = b - c ∧ xjv a b c d = 0) ∨
  (V a b ∧ V c d ∧ ¬ V (a - d) (b - c) ∧ xek a b c d = 0 ∧ xej a b c d = 0 ∧ xjv a b c d = 3) ∨
  (¬ (V a b ∧ V c d) ∧ xek a b c d = 0 ∧ xej a b c d = 0 ∧ xjv a b c d = 1) := by
 unfold xek xej xjv xlz xly xlx
 by_cases h1 : V a b <;> by_cases h2 : V c d
 ·have e1 : IntKind.i64.wrap (a - d) = a - d := xot (by unfold V at *; omega)
  have e2 : IntKind.i64.wrap (b - c) = b - c := xot (by unfold V at *; omega)
  rw [e1, e2]
  by_cases h3 : V (a - d) (b - c) <;> simp [xhK, h1, h2, h3]
 all_goals simp [xhK, h1, h2]
theorem xuS (a b c d : Int) :
  (V a b ∧ V c d ∧ max a c ≤ min b d ∧ xdD a b c d = max a c ∧ xdC a b c d = min b d ∧ xa5 a b c d = 0) ∨
  (V a b ∧ V c d ∧ min b d < max a c ∧ xdD a b c d = 0 ∧ xdC a b c d = 0 ∧ xa5 a b c d = 4) ∨
  (¬ (V a b ∧ V c d) ∧ xdD a b c d = 0 ∧ xdC a b c d = 0 ∧ xa5 a b c d = 1) := by
 unfold xdD xdC xa5
 rw [xhn, xgs]
 by_cases h1 : V a b <;> by_cases h2 : V c d
 ·by_cases h3 : min b d < max a c
  ·simp [xhK, h1, h2, h3]
  ·have h4 : max a c ≤ min b d := by omega
   simp [xhK, h1, h2, h3, h4]
 all_goals simp [xhK, h1, h2]
theorem xuW (a b c d : Int) :
  (V a b ∧ V c d ∧ xcZ a b c d = min a c ∧ xcY a b c d = max b d ∧ xau a b c d = 0) ∨
  (¬ (V a b ∧ V c d) ∧ xcZ a b c d = 0 ∧ xcY a b c d = 0 ∧ xau a b c d = 1) := by
 unfold xcZ xcY xau xd4 xd3
 rw [xhn, xgs]
 by_cases h1 : V a b <;> by_cases h2 : V c d <;> simp [xhK, h1, h2]
theorem xkh (a b c d : Int) :
  (V a b ∧ V c d ∧ xbd a b c d = decide (c ≤ a ∧ b ≤ d) ∧ xbu a b c d = 0) ∨
  (¬ (V a b ∧ V c d) ∧ xbd a b c d = false ∧ xbu a b c d = 1) := by
 unfold xbd xbu xau xcZ xcY xd4 xd3
 rw [xhn, xgs]
 by_cases h1 : V a b <;> by_cases h2 : V c d
 ·left
  refine ⟨h1, h2, ?_, by simp [xhK, h1, h2]⟩
  rw [Bool.eq_iff_iff]
  simp [xhK, h1, h2]
  unfold V at *
  omega
 all_goals (right; simp [xhK, h1, h2])
theorem xwx (a b c d : Int) : xac a b c d = decide (Bx a b c d) := by
 have hall : V (-1000000) 1000000 := by unfold V; omega
 unfold xac
 by_cases h : Bx a b c d
 ·rcases xkh a b (-1000000) 1000000 with ⟨_, _, e0, e1⟩ | ⟨h', _⟩
  ·rcases xkh c d (-1000000) 1000000 with ⟨_, _, e2, e3⟩ | ⟨h', _⟩
   ·rw [e0, e1, e2, e3, Bool.eq_iff_iff]
    simp [h]
    unfold Bx at h
    omega
   ·exact absurd ⟨by unfold Bx V at *; omega, hall⟩ h'
  ·exact absurd ⟨by unfold Bx V at *; omega, hall⟩ h'
 ·simp only [h, decide_false]
  rcases xkh a b (-1000000) 1000000 with ⟨h1, _, e0, e1⟩ | ⟨_, e0, e1⟩ <;> rcases xkh c d (-1000000) 1000000 with ⟨h2, _, e2, e3⟩ | ⟨_, e2, e3⟩ <;> rw [e0, e1, e2, e3]
  ·rw [Bool.eq_false_iff]
   simp
   unfold Bx V at *
   omega
  all_goals simp
def Pt (x y : Int) : Prop := -1000000 ≤ x ∧ x ≤ 1000000 ∧ -1000000 ≤ y ∧ y ≤ 1000000
instance (x y : Int) : Decidable (Pt x y) := by unfold Pt; infer_instance
theorem xD7 (x y : Int) : Pt x y ↔ Bx x x y y := by unfold Pt Bx; omega
theorem xkv {x n A B : Int} (h1 : -A ≤ x) (h2 : x ≤ A) (h3 : -B ≤ n) (h4 : n ≤ B) : -(A * B) ≤ x * n ∧ x * n ≤ A * B := by
 have a0 : 0 ≤ A := by omega
 have b0 : 0 ≤ B := by omega
 have k1 : 0 ≤ (A - x) * (B + n) := Int.mul_nonneg (by omega) (by omega)
 have k2 : 0 ≤ (A + x) * (B - n) := Int.mul_nonneg (by omega) (by omega)
 have k3 : 0 ≤ (A - x) * (B - n) := Int.mul_nonneg (by omega) (by omega)
 have k4 : 0 ≤ (A + x) * (B + n) := Int.mul_nonneg (by omega) (by omega)
 have e1 : (A - x) * (B + n) = A * B + A * n - x * B - x * n := by rw [Int.sub_mul, Int.mul_add, Int.mul_add]; omega
 have e2 : (A + x) * (B - n) = A * B - A * n + x * B - x * n := by rw [Int.add_mul, Int.mul_sub, Int.mul_sub]; omega
 have e3 : (A - x) * (B - n) = A * B - A * n - x * B + x * n := by rw [Int.sub_mul, Int.mul_sub, Int.mul_sub]; omega
 have e4 : (A + x) * (B + n) = A * B + A * n + x * B + x * n := by rw [Int.add_mul, Int.mul_add, Int.mul_add]; omega
 omega
def RV (s n t b a1 a2 c1 c2 fx fy tx ty F : Int) : Prop :=
 (1 ≤ s ∧ s ≤ 100000) ∧ (1 ≤ n ∧ n ≤ 100000) ∧ (1 ≤ b ∧ b ≤ 100000) ∧ (0 ≤ t ∧ t ≤ 10000000) ∧ (0 ≤ F ∧ F ≤ 1000000) ∧ Bx a1 a2 c1 c2 ∧ Pt fx fy ∧ Pt tx ty ∧ 0 < cr fx fy tx ty
instance (s n t b a1 a2 c1 c2 fx fy tx ty F : Int) : Decidable (RV s n t b a1 a2 c1 c2 fx fy tx ty F) := by unfold RV; infer_instance
theorem xiE {a b c d : Int} (h1 : Pt a b) (h2 : Pt c d) : xa7 a b c d = cr a b c d := by
 unfold Pt at h1 h2
 have m1 := @xkv a d 1000000 1000000 (by omega) (by omega) (by omega) (by omega)
 have m2 := @xkv b c 1000000 1000000 (by omega) (by omega) (by omega) (by omega)
 unfold xa7 cr
 simp (disch := omega) only [xot]
theorem xpt (x y : Int) : xfJ x y = decide (Pt x y) := by
 unfold xfJ; rw [xgs, xhn, Bool.eq_iff_iff]; simp; unfold Pt; omega
theorem xxm (x y : Int) : xcU x y = decide (Pt x y) := xpt x y
theorem xoT (s n t b a1 a2 c1 c2 fx fy tx ty F : Int) : xa8 s n t b a1 a2 c1 c2 fx fy tx ty F = decide (RV s n t b a1 a2 c1 c2 fx fy tx ty F) := by
 unfold xa8 xfa
 rw [xxm, xxm, xwx]
 by_cases h1 : Pt fx fy <;> by_cases h2 : Pt tx ty <;> by_cases h3 : Bx a1 a2 c1 c2
 ·rw [xiE h1 h2, Bool.eq_iff_iff]
  simp [h1, h2, h3, RV]
  omega
 all_goals
  rw [Bool.eq_iff_iff]
  simp [h1, h2, h3, RV]
def Sees (a1 a2 c1 c2 fx fy tx ty F b1 b2 d1 d2 : Int) : Prop :=
 max (b1 - a2) (-F) ≤ min (b2 - a1) F ∧ max (d1 - c2) (-F) ≤ min (d2 - c1) F ∧ Core fx fy tx ty (max (b1 - a2) (-F)) (min (b2 - a1) F) (max (d1 - c2) (-F)) (min (d2 - c1) F)
instance (a1 a2 c1 c2 fx fy tx ty F b1 b2 d1 d2 : Int) : Decidable (Sees a1 a2 c1 c2 fx fy tx ty F b1 b2 d1 d2) := by unfold Sees; infer_instance
theorem xBb {fx fy tx ty xl xh yl yh : Int} (hf : Pt fx fy) (ht : Pt tx ty) (h1 : Pt xl yl) (h2 : Pt xl yh) (h3 : Pt xh yl) (h4 : Pt xh yh) : xde fx fy tx ty xl xh yl yh = decide (Core fx fy tx ty xl xh yl yh) := by
 unfold xde xfR
 rw [xiE hf h1, xiE hf h2, xiE hf h3, xiE hf h4, xiE h1 ht, xiE h2 ht, xiE h3 ht, xiE h4 ht, Bool.eq_iff_iff]
 simp only [Bool.cond_true_left, Bool.cond_false_right, Bool.or_false, Bool.and_true]
 simp only [Bool.and_eq_true, Bool.or_eq_true, decide_eq_true_eq]
 unfold Core
 omega
theorem xB4 {s n t b a1 a2 c1 c2 fx fy tx ty F b1 b2 d1 d2 : Int} (h : RV s n t b a1 a2 c1 c2 fx fy tx ty F) (hb : Bx b1 b2 d1 d2) : xgA s n t b a1 a2 c1 c2 fx fy tx ty F b1 b2 d1 d2 = decide (Sees a1 a2 c1 c2 fx fy tx ty F b1 b2 d1 d2) := by
 obtain ⟨_, _, _, _, hF, hA, hf, ht, _⟩ := h
 unfold xgA
 rw [xot (show -9223372036854775808 ≤ 0 - F ∧ 0 - F ≤ 9223372036854775807 by omega), Int.zero_sub]
 have vF : V (-F) F := by unfold V; omega
 rcases xwA b1 b2 a1 a2 with ⟨_, _, v1, e1, e2, _⟩ | ⟨_, _, v1, _⟩ | ⟨v1, _⟩
 ·rcases xwA d1 d2 c1 c2 with ⟨_, _, v2, e3, e4, _⟩ | ⟨_, _, v2, _⟩ | ⟨v2, _⟩
  ·rw [e1, e2, e3, e4]
   rcases xuS (b1 - a2) (b2 - a1) (-F) F with ⟨_, _, m1, k0, k1, k2⟩ | ⟨_, _, m1, k0, k1, k2⟩ | ⟨m1, _⟩
   ·rcases xuS (d1 - c2) (d2 - c1) (-F) F with ⟨_, _, m2, k3, k4, k5⟩ | ⟨_, _, m2, k3, k4, k5⟩ | ⟨m2, _⟩
    ·rw [k0, k1, k2, k3, k4, k5]
     have p : ∀ x y, (x = max (b1 - a2) (-F) ∨ x = min (b2 - a1) F) → (y = max (d1 - c2) (-F) ∨ y = min (d2 - c1) F) → Pt x y := by
      intro x y h1 h2; unfold Pt; omega
     rw [xBb hf ht (p _ _ (Or.inl rfl) (Or.inl rfl)) (p _ _ (Or.inl rfl) (Or.inr rfl)) (p _ _ (Or.inr rfl) (Or.inl rfl)) (p _ _ (Or.inr rfl) (Or.inr rfl))]
     simp [Sees, m1, m2]
    ·rw [k5]
     have : ¬ Sees a1 a2 c1 c2 fx fy tx ty F b1 b2 d1 d2 := fun h => by have := h.2.1; omega
     simp [this]
    ·exact absurd ⟨v2, vF⟩ m2
   ·rw [k2]
    have : ¬ Sees a1 a2 c1 c2 fx fy tx ty F b1 b2 d1 d2 := fun h => by have := h.1; omega
    simp [this]
   ·exact absurd ⟨v1, vF⟩ m1
  ·exact absurd (by unfold Bx at *; unfold V; omega) v2
  ·exact absurd (by unfold Bx at *; unfold V; omega) v2
 ·exact absurd (by unfold Bx at *; unfold V; omega) v1
 ·exact absurd (by unfold Bx at *; unfold V; omega) v1
theorem xAj (s n t b a1 a2 c1 c2 fx fy tx ty F x y : Int) : xdY s n t b a1 a2 c1 c2 fx fy tx ty F x y = decide (RV s n t b a1 a2 c1 c2 fx fy tx ty F ∧ Pt x y ∧ Sees a1 a2 c1 c2 fx fy tx ty F x x y y) := by
 unfold xdY
 rw [xoT, xpt]
 by_cases h1 : RV s n t b a1 a2 c1 c2 fx fy tx ty F <;> by_cases h2 : Pt x y
 ·rw [xB4 h1 ((xD7 x y).1 h2)]; simp [h1, h2]
 all_goals simp [h1, h2]
theorem xAi (s n t b a1 a2 c1 c2 fx fy tx ty F x y : Int) : xfc s n t b a1 a2 c1 c2 fx fy tx ty F x y = if RV s n t b a1 a2 c1 c2 fx fy tx ty F ∧ Pt x y then 0 else 1 := by
 unfold xfc
 rw [xoT, xpt]
 by_cases h1 : RV s n t b a1 a2 c1 c2 fx fy tx ty F <;> by_cases h2 : Pt x y <;> simp [h1, h2]
def rlo (a F u v : Int) : Int := if u < 0 ∨ v < 0 then max (a - F) (-1000000) else a
def rhi (a F u v : Int) : Int := if u > 0 ∨ v > 0 then min (a + F) 1000000 else a
theorem xy1 {a1 a2 u v F : Int} (h1 : -1000000 ≤ a1) (h2 : a2 ≤ 1000000) (h3 : a1 ≤ a2) (hF : 0 ≤ F ∧ F ≤ 1000000) : xem a1 a2 u v F = rlo a1 F u v ∧ xel a1 a2 u v F = rhi a2 F u v := by
 unfold xem xel rlo rhi
 simp (disch := omega) only [xot, xgs, xhn]
 by_cases e1 : u < 0 ∨ v < 0 <;> by_cases e2 : u > 0 ∨ v > 0
 ·rw [decide_eq_true (show min u v < 0 by omega), decide_eq_true (show max u v > 0 by omega)]; simp [e1, e2]
 ·rw [decide_eq_true (show min u v < 0 by omega), decide_eq_false (show ¬ max u v > 0 by omega)]; simp [e1, e2]
 ·rw [decide_eq_false (show ¬ min u v < 0 by omega), decide_eq_true (show max u v > 0 by omega)]; simp [e1, e2]
 ·rw [decide_eq_false (show ¬ min u v < 0 by omega), decide_eq_false (show ¬ max u v > 0 by omega)]; simp [e1, e2]
theorem xBO (s n t b a1 a2 c1 c2 fx fy tx ty F : Int) :
  (RV s n t b a1 a2 c1 c2 fx fy tx ty F ∧ xeU s n t b a1 a2 c1 c2 fx fy tx ty F = rlo a1 F fx tx ∧ xeT s n t b a1 a2 c1 c2 fx fy tx ty F = rhi a2 F fx tx ∧ xeS s n t b a1 a2 c1 c2 fx fy tx ty F = rlo c1 F fy ty ∧ xeR s n t b a1 a2 c1 c2 fx fy tx ty F = rhi c2 F fy ty ∧ xeQ s n t b a1 a2 c1 c2 fx fy tx ty F = 0) ∨
  (¬ RV s n t b a1 a2 c1 c2 fx fy tx ty F ∧ xeU s n t b a1 a2 c1 c2 fx fy tx ty F = 0 ∧ xeT s n t b a1 a2 c1 c2 fx fy tx ty F = 0 ∧ xeS s n t b a1 a2 c1 c2 fx fy tx ty F = 0 ∧ xeR s n t b a1 a2 c1 c2 fx fy tx ty F = 0 ∧ xeQ s n t b a1 a2 c1 c2 fx fy tx ty F = 1) := by
 unfold xeU xeT xeS xeR xeQ
 rw [xoT]
 by_cases h : RV s n t b a1 a2 c1 c2 fx fy tx ty F
 ·obtain ⟨_, _, _, _, hF, hA, _⟩ := id h
  unfold Bx at hA
  have e1 := @xy1 a1 a2 fx tx F (by omega) (by omega) (by omega) hF
  have e2 := @xy1 c1 c2 fy ty F (by omega) (by omega) (by omega) hF
  rw [e1.1, e1.2, e2.1, e2.2]
  simp [h]
 ·simp [h]
theorem xEf (n : Int) : xbe [[n]] [[n]] = true := by
 rw [xDy (by simp) (by simp) (by simp)]; simp
theorem xEw {a1 a2 c1 c2 fx fy tx ty F : Int} (hA : Bx a1 a2 c1 c2) (hF : 0 ≤ F ∧ F ≤ 1000000) : Bx (rlo a1 F fx tx) (rhi a2 F fx tx) (rlo c1 F fy ty) (rhi c2 F fy ty) ∧ rlo a1 F fx tx ≤ a1 ∧ a2 ≤ rhi a2 F fx tx ∧ rlo c1 F fy ty ≤ c1 ∧ c2 ≤ rhi c2 F fy ty := by
 unfold Bx at *
 unfold rlo rhi
 split <;> split <;> split <;> split <;> omega
end Go.Proofs.YtnijhjpaplihbaaGreat.Si
